/-
  Contracts of the functions that the law reaches.
-/
import Derived.Test.YtjadkhkgmdikiaaGreatL96M
namespace Go.Proofs.YtjadkhkgmdikiaaGreat
open Go Go.Proofs Go.AL
set_option linter.unusedSimpArgs false
set_option linter.unusedVariables false

/-- A case. -/
structure C12 where
  (P Q : List RI) (R S : List RQ) (A B : RI) (X Y : RQ) (N : Int)
abbrev case12 (x : C12) : List IV := [.sl (raws x.P), .sl (raws x.Q), .sl (rats x.R), .sl (rats x.S), .bool x.A.1, .sl (lims x.A.2), .bool x.B.1, .sl (lims x.B.2), .bool x.X.1.1, .sl (lims x.X.1.2), .sl (lims x.X.2), .bool x.Y.1.1, .sl (lims x.Y.1.2), .sl (lims x.Y.2), .int .i64 x.N]
theorem case12_A (x : C12) : List.take 2 (List.drop 4 (case12 x)) = prow x.A := rfl
theorem case12_B (x : C12) : List.take 2 (List.drop 6 (case12 x)) = prow x.B := rfl
theorem case12_X (x : C12) : List.take 3 (List.drop 8 (case12 x)) = qrow x.X := rfl
theorem case12_Y (x : C12) : List.take 3 (List.drop 11 (case12 x)) = qrow x.Y := rfl
theorem ints_two (a b : RI) : [prow a, prow b] = raws [a, b] := rfl
/-- Are there many rationals, or a long one? -/
def gqr (l : List RQ) : Bool := decide (40 < l.length) || l.any fun r => decide (200 < r.1.2.length) || decide (200 < r.2.length)
def lenQ (r : RQ) : Prop := r.1.2.length ≤ 9223372036854775807 ∧ r.2.length ≤ 9223372036854775807

theorem sgrats_ok (l : List RQ) (hl : l.length ≤ 9223372036854775807) (h : ∀ c ∈ l, lenQ c) : AC Tryz.prog 21 [cqw l] none [cb (gqr l)] := by
  refine AC.by_walk (rs := [.tmp 2]) ords Tryz.func21 (by rfl) (by rfl) (by rfl) (by rfl) (by rfl) ?_
  simp (disch := omega) only [wk, tis, Int.reduceNe, Int.reduceEq, Int.reduceLT, Int.reduceLE, Int.reduceAdd, Int.reduceSub, Int.reduceNeg, Int.reduceMul, Int.reduceToNat, Nat.reduceSub, Nat.reduceMul, Nat.reduceLeDiff, Nat.reduceAdd, Nat.reduceLT, Nat.reduceEqDiff, reduceCtorEq, ↓reduceIte, rqs, case12_A, case12_B, case12_X, case12_Y, ints_two]
  by_cases hw : 40 < (l.length : Int)
  · have e : gqr l = true := by unfold gqr; rw [decide_eq_true (by omega)]; rfl
    rw [e]
    simp (disch := omega) only [wk, tis, Int.reduceNe, Int.reduceEq, Int.reduceLT, Int.reduceLE, Int.reduceAdd, Int.reduceSub, Int.reduceNeg, Int.reduceMul, Int.reduceToNat, Nat.reduceSub, Nat.reduceMul, Nat.reduceLeDiff, Nat.reduceAdd, Nat.reduceLT, Nat.reduceEqDiff, reduceCtorEq, ↓reduceIte, rqs, case12_A, case12_B, case12_X, case12_Y, ints_two, hw]
  have hw' : ¬ 40 < l.length := by omega
  have e : gqr l = l.any fun r => decide (200 < r.1.2.length) || decide (200 < r.2.length) := by unfold gqr; rw [decide_eq_false hw', Bool.false_or]
  rw [e]
  simp (disch := omega) only [wk, tis, Int.reduceNe, Int.reduceEq, Int.reduceLT, Int.reduceLE, Int.reduceAdd, Int.reduceSub, Int.reduceNeg, Int.reduceMul, Int.reduceToNat, Nat.reduceSub, Nat.reduceMul, Nat.reduceLeDiff, Nat.reduceAdd, Nat.reduceLT, Nat.reduceEqDiff, reduceCtorEq, ↓reduceIte, rqs, case12_A, case12_B, case12_X, case12_Y, ints_two, hw]
  refine aloop_by (fun f H => ∃ (i : Nat), i ≤ l.length ∧ (l.take i).any (fun r => decide (200 < r.1.2.length) || decide (200 < r.2.length)) = false ∧ f 3 = .iv (.int .i64 i) ∧ f 0 = .iv (.sl (rats l))) (fun f H => (l.length - intAt f 3).toNat) ?_ ?_
  · refine ⟨0, by omega, rfl, ?_⟩
    simp (disch := omega) only [wk, tis, Int.reduceNe, Int.reduceEq, Int.reduceLT, Int.reduceLE, Int.reduceAdd, Int.reduceSub, Int.reduceNeg, Int.reduceMul, Int.reduceToNat, Nat.reduceSub, Nat.reduceMul, Nat.reduceLeDiff, Nat.reduceAdd, Nat.reduceLT, Nat.reduceEqDiff, reduceCtorEq, ↓reduceIte, rqs, case12_A, case12_B, case12_X, case12_Y, ints_two]
  rintro f H ⟨i, hi, he, hF⟩
  rw [intAt_of hF.1]
  simp (disch := omega) only [wk, tis, Int.reduceNe, Int.reduceEq, Int.reduceLT, Int.reduceLE, Int.reduceAdd, Int.reduceSub, Int.reduceNeg, Int.reduceMul, Int.reduceToNat, Nat.reduceSub, Nat.reduceMul, Nat.reduceLeDiff, Nat.reduceAdd, Nat.reduceLT, Nat.reduceEqDiff, reduceCtorEq, ↓reduceIte, rqs, case12_A, case12_B, case12_X, case12_Y, ints_two, hF]
  refine if_by (fun hlt => ?_) (fun hlt => ?_)
  · have hil : i < l.length := by omega
    have hg : l.getD i q0 = l[i] := by simp [List.getD, hil]
    have hm := h l[i] (List.getElem_mem hil)
    have l1 := slong_ok l[i].1.2 hm.1
    have l2 := slong_ok l[i].2 hm.2
    simp (disch := omega) only [wk, tis, Int.reduceNe, Int.reduceEq, Int.reduceLT, Int.reduceLE, Int.reduceAdd, Int.reduceSub, Int.reduceNeg, Int.reduceMul, Int.reduceToNat, Nat.reduceSub, Nat.reduceMul, Nat.reduceLeDiff, Nat.reduceAdd, Nat.reduceLT, Nat.reduceEqDiff, reduceCtorEq, ↓reduceIte, rqs, case12_A, case12_B, case12_X, case12_Y, ints_two, hF, hg]
    by_cases h1 : 200 < l[i].1.2.length
    · rw [decide_eq_true h1] at l1
      refine call_by (l1) (by first | rfl | (simp only [tocvs, tocv, hF, hg]; rfl) | (simp only [tocvs, tocv, toboxes, tobox, updH_at, Nat.reduceEqDiff, ↓reduceIte, hF, hg]; rfl)) (by simp) ?_
      simp (disch := omega) only [wk, tis, Int.reduceNe, Int.reduceEq, Int.reduceLT, Int.reduceLE, Int.reduceAdd, Int.reduceSub, Int.reduceNeg, Int.reduceMul, Int.reduceToNat, Nat.reduceSub, Nat.reduceMul, Nat.reduceLeDiff, Nat.reduceAdd, Nat.reduceLT, Nat.reduceEqDiff, reduceCtorEq, ↓reduceIte, rqs, case12_A, case12_B, case12_X, case12_Y, ints_two, hF, hg]
      exact (any_of_get hil (by rw [decide_eq_true h1]; rfl)).symm
    · rw [decide_eq_false h1] at l1
      refine call_by (l1) (by first | rfl | (simp only [tocvs, tocv, hF, hg]; rfl) | (simp only [tocvs, tocv, toboxes, tobox, updH_at, Nat.reduceEqDiff, ↓reduceIte, hF, hg]; rfl)) (by simp) ?_
      simp (disch := omega) only [wk, tis, Int.reduceNe, Int.reduceEq, Int.reduceLT, Int.reduceLE, Int.reduceAdd, Int.reduceSub, Int.reduceNeg, Int.reduceMul, Int.reduceToNat, Nat.reduceSub, Nat.reduceMul, Nat.reduceLeDiff, Nat.reduceAdd, Nat.reduceLT, Nat.reduceEqDiff, reduceCtorEq, ↓reduceIte, rqs, case12_A, case12_B, case12_X, case12_Y, ints_two, hF, hg]
      by_cases h2 : 200 < l[i].2.length
      · rw [decide_eq_true h2] at l2
        refine call_by (l2) (by first | rfl | (simp only [tocvs, tocv, hF, hg]; rfl) | (simp only [tocvs, tocv, toboxes, tobox, updH_at, Nat.reduceEqDiff, ↓reduceIte, hF, hg]; rfl)) (by simp) ?_
        simp (disch := omega) only [wk, tis, Int.reduceNe, Int.reduceEq, Int.reduceLT, Int.reduceLE, Int.reduceAdd, Int.reduceSub, Int.reduceNeg, Int.reduceMul, Int.reduceToNat, Nat.reduceSub, Nat.reduceMul, Nat.reduceLeDiff, Nat.reduceAdd, Nat.reduceLT, Nat.reduceEqDiff, reduceCtorEq, ↓reduceIte, rqs, case12_A, case12_B, case12_X, case12_Y, ints_two, hF, hg]
        exact (any_of_get hil (by rw [decide_eq_true h2, Bool.or_true])).symm
      · rw [decide_eq_false h2] at l2
        refine call_by (l2) (by first | rfl | (simp only [tocvs, tocv, hF, hg]; rfl) | (simp only [tocvs, tocv, toboxes, tobox, updH_at, Nat.reduceEqDiff, ↓reduceIte, hF, hg]; rfl)) (by simp) ?_
        simp (disch := omega) only [wk, tis, Int.reduceNe, Int.reduceEq, Int.reduceLT, Int.reduceLE, Int.reduceAdd, Int.reduceSub, Int.reduceNeg, Int.reduceMul, Int.reduceToNat, Nat.reduceSub, Nat.reduceMul, Nat.reduceLeDiff, Nat.reduceAdd, Nat.reduceLT, Nat.reduceEqDiff, reduceCtorEq, ↓reduceIte, rqs, case12_A, case12_B, case12_X, case12_Y, ints_two, hF, hg]
        refine ⟨⟨i + 1, by omega, ?_, by omega⟩, by omega⟩
        rw [any_take_succ hil, he, decide_eq_false h1, decide_eq_false h2]
        rfl
  · simp (disch := omega) only [wk, tis, Int.reduceNe, Int.reduceEq, Int.reduceLT, Int.reduceLE, Int.reduceAdd, Int.reduceSub, Int.reduceNeg, Int.reduceMul, Int.reduceToNat, Nat.reduceSub, Nat.reduceMul, Nat.reduceLeDiff, Nat.reduceAdd, Nat.reduceLT, Nat.reduceEqDiff, reduceCtorEq, ↓reduceIte, rqs, case12_A, case12_B, case12_X, case12_Y, ints_two, hF]
    rw [List.take_of_length_le (by omega)] at he
    exact he.symm

theorem gqr_bq {l : List RQ} (h : gqr l = false) (hr : ∀ r ∈ l, SzQ 9223372036854775807 r) : BQ 40 200 l := by
  unfold gqr at h
  rw [Bool.or_eq_false_iff] at h
  refine ⟨by have := of_decide_eq_false h.1; omega, fun r hr' => ?_⟩
  have h2 := List.any_eq_false.mp h.2 r hr'
  rw [Bool.or_eq_true, decide_eq_true_eq, decide_eq_true_eq, not_or] at h2
  exact ⟨⟨by omega, (hr r hr').1.2⟩, by omega, (hr r hr').2.2⟩

structure Ok12 (x : C12) : Prop where
  P : Raw x.P
  Q : Raw x.Q
  R : RawQ x.R
  S : RawQ x.S
  A : Sz 9223372036854775807 x.A
  B : Sz 9223372036854775807 x.B
  X : SzQ 9223372036854775807 x.X
  Y : SzQ 9223372036854775807 x.Y
  N : -9223372036854775808 ≤ x.N ∧ x.N ≤ 9223372036854775807
def great12 (x : C12) : Bool := gp [x.P, x.Q] || gqr x.R || gqr x.S || gi [x.A, x.B] || gqr [x.X, x.Y]
/-- What isn't great. -/
structure Fit12 (x : C12) : Prop where
  P : RP 40 200 x.P
  Q : RP 40 200 x.Q
  R : BQ 40 200 x.R
  S : BQ 40 200 x.S
  A : Sz 200 x.A
  B : Sz 200 x.B
  X : SzQ 200 x.X
  Y : SzQ 200 x.Y
theorem rawq_len {r : RQ} (h : SzQ 9223372036854775807 r) : lenQ r := ⟨h.1.1, h.2.1⟩
theorem fit12 {x : C12} (h : Ok12 x) (g : great12 x = false) : Fit12 x := by
  unfold great12 at g
  simp only [Bool.or_eq_false_iff] at g
  obtain ⟨⟨⟨⟨g1, g2⟩, g3⟩, g4⟩, g5⟩ := g
  have i : ∀ c ∈ [x.A, x.B], Sz 9223372036854775807 c → Sz 200 c := fun c hc hs => by
    have := List.any_eq_false.mp g4 c hc
    rw [decide_eq_true_eq] at this
    exact ⟨by omega, hs.2⟩
  have q := gqr_bq g5 (fun r hr => by
    simp only [List.mem_cons, List.not_mem_nil, or_false] at hr
    rcases hr with rfl | rfl
    · exact h.X
    · exact h.Y)
  exact ⟨great_sub g1 (by simp) h.P, great_sub g1 (by simp) h.Q, gqr_bq g2 h.R.2, gqr_bq g3 h.S.2, i _ (by simp) h.A, i _ (by simp) h.B, q.2 _ (by simp), q.2 _ (by simp)⟩

theorem great12_ok (x : C12) (h : Ok12 x) : AC Tryz.prog 11 [.agg (case12 x)] none [cb (great12 x)] := by
  have g1 := great2_ok x.P x.Q h.P h.Q
  have g2 := sgrats_ok x.R h.R.1 (fun r hr => rawq_len (h.R.2 r hr))
  have g3 := sgrats_ok x.S h.S.1 (fun r hr => rawq_len (h.S.2 r hr))
  have g4 := sgints_ok [x.A, x.B] (by simp) (fun c hc => by
    simp only [List.mem_cons, List.not_mem_nil, or_false] at hc
    rcases hc with rfl | rfl
    · exact h.A.1
    · exact h.B.1)
  have g5 := sgrats_ok [x.X, x.Y] (by simp) (fun r hr => by
    simp only [List.mem_cons, List.not_mem_nil, or_false] at hr
    rcases hr with rfl | rfl
    · exact rawq_len h.X
    · exact rawq_len h.Y)
  have p1 : [[IV.sl (raws x.P)], [IV.sl (raws x.Q)]] = polys [x.P, x.Q] := rfl
  have p3 := rats_two x.X x.Y
  have hE : ∀ b1 b2 b3 b4 b5, gp [x.P, x.Q] = b1 → gqr x.R = b2 → gqr x.S = b3 → gi [x.A, x.B] = b4 → gqr [x.X, x.Y] = b5 → great12 x = (b1 || b2 || b3 || b4 || b5) := by
    rintro _ _ _ _ _ rfl rfl rfl rfl rfl; rfl
  have hE' := hE _ _ _ _ _ rfl rfl rfl rfl rfl
  generalize gp [x.P, x.Q] = b1 at *
  generalize gqr x.R = b2 at *
  generalize gqr x.S = b3 at *
  generalize gi [x.A, x.B] = b4 at *
  generalize gqr [x.X, x.Y] = b5 at *
  rw [hE']
  clear hE hE'
  refine AC.by_walk (rs := [.tmp 2]) ords Tryz.func11 (by rfl) (by rfl) (by rfl) (by rfl) (by rfl) ?_
  simp (disch := omega) only [wk, tis, Int.reduceNe, Int.reduceEq, Int.reduceLT, Int.reduceLE, Int.reduceAdd, Int.reduceSub, Int.reduceNeg, Int.reduceMul, Int.reduceToNat, Nat.reduceSub, Nat.reduceMul, Nat.reduceLeDiff, Nat.reduceAdd, Nat.reduceLT, Nat.reduceEqDiff, reduceCtorEq, ↓reduceIte, rqs, case12_A, case12_B, case12_X, case12_Y, ints_two]
  cases b1 with
  | true =>
    refine call_by (g1) (by rfl) (by simp) ?_
    simp (disch := omega) only [wk, tis, Int.reduceNe, Int.reduceEq, Int.reduceLT, Int.reduceLE, Int.reduceAdd, Int.reduceSub, Int.reduceNeg, Int.reduceMul, Int.reduceToNat, Nat.reduceSub, Nat.reduceMul, Nat.reduceLeDiff, Nat.reduceAdd, Nat.reduceLT, Nat.reduceEqDiff, reduceCtorEq, ↓reduceIte, rqs, case12_A, case12_B, case12_X, case12_Y, ints_two]
    try rfl
  | false =>
  refine call_by (g1) (by rfl) (by simp) ?_
  simp (disch := omega) only [wk, tis, Int.reduceNe, Int.reduceEq, Int.reduceLT, Int.reduceLE, Int.reduceAdd, Int.reduceSub, Int.reduceNeg, Int.reduceMul, Int.reduceToNat, Nat.reduceSub, Nat.reduceMul, Nat.reduceLeDiff, Nat.reduceAdd, Nat.reduceLT, Nat.reduceEqDiff, reduceCtorEq, ↓reduceIte, rqs, case12_A, case12_B, case12_X, case12_Y, ints_two]
  cases b2 with
  | true =>
    refine call_by (g2) (by rfl) (by simp) ?_
    simp (disch := omega) only [wk, tis, Int.reduceNe, Int.reduceEq, Int.reduceLT, Int.reduceLE, Int.reduceAdd, Int.reduceSub, Int.reduceNeg, Int.reduceMul, Int.reduceToNat, Nat.reduceSub, Nat.reduceMul, Nat.reduceLeDiff, Nat.reduceAdd, Nat.reduceLT, Nat.reduceEqDiff, reduceCtorEq, ↓reduceIte, rqs, case12_A, case12_B, case12_X, case12_Y, ints_two]
    try rfl
  | false =>
  refine call_by (g2) (by rfl) (by simp) ?_
  simp (disch := omega) only [wk, tis, Int.reduceNe, Int.reduceEq, Int.reduceLT, Int.reduceLE, Int.reduceAdd, Int.reduceSub, Int.reduceNeg, Int.reduceMul, Int.reduceToNat, Nat.reduceSub, Nat.reduceMul, Nat.reduceLeDiff, Nat.reduceAdd, Nat.reduceLT, Nat.reduceEqDiff, reduceCtorEq, ↓reduceIte, rqs, case12_A, case12_B, case12_X, case12_Y, ints_two]
  cases b3 with
  | true =>
    refine call_by (g3) (by rfl) (by simp) ?_
    simp (disch := omega) only [wk, tis, Int.reduceNe, Int.reduceEq, Int.reduceLT, Int.reduceLE, Int.reduceAdd, Int.reduceSub, Int.reduceNeg, Int.reduceMul, Int.reduceToNat, Nat.reduceSub, Nat.reduceMul, Nat.reduceLeDiff, Nat.reduceAdd, Nat.reduceLT, Nat.reduceEqDiff, reduceCtorEq, ↓reduceIte, rqs, case12_A, case12_B, case12_X, case12_Y, ints_two]
    try rfl
  | false =>
  refine call_by (g3) (by first | rfl | (simp only [tocvs, tocv, p3]; rfl) | (simp only [tocvs, tocv, toboxes, tobox, updH_at, Nat.reduceEqDiff, ↓reduceIte, p3]; rfl)) (by simp) ?_
  simp (disch := omega) only [wk, tis, Int.reduceNe, Int.reduceEq, Int.reduceLT, Int.reduceLE, Int.reduceAdd, Int.reduceSub, Int.reduceNeg, Int.reduceMul, Int.reduceToNat, Nat.reduceSub, Nat.reduceMul, Nat.reduceLeDiff, Nat.reduceAdd, Nat.reduceLT, Nat.reduceEqDiff, reduceCtorEq, ↓reduceIte, rqs, case12_A, case12_B, case12_X, case12_Y, ints_two, p3]
  cases b4 with
  | true =>
    refine call_by (g4) (by first | rfl | (simp only [tocvs, tocv, p3]; rfl) | (simp only [tocvs, tocv, toboxes, tobox, updH_at, Nat.reduceEqDiff, ↓reduceIte, p3]; rfl)) (by simp) ?_
    simp (disch := omega) only [wk, tis, Int.reduceNe, Int.reduceEq, Int.reduceLT, Int.reduceLE, Int.reduceAdd, Int.reduceSub, Int.reduceNeg, Int.reduceMul, Int.reduceToNat, Nat.reduceSub, Nat.reduceMul, Nat.reduceLeDiff, Nat.reduceAdd, Nat.reduceLT, Nat.reduceEqDiff, reduceCtorEq, ↓reduceIte, rqs, case12_A, case12_B, case12_X, case12_Y, ints_two, p3]
    try rfl
  | false =>
  refine call_by (g4) (by first | rfl | (simp only [tocvs, tocv, p3]; rfl) | (simp only [tocvs, tocv, toboxes, tobox, updH_at, Nat.reduceEqDiff, ↓reduceIte, p3]; rfl)) (by simp) ?_
  simp (disch := omega) only [wk, tis, Int.reduceNe, Int.reduceEq, Int.reduceLT, Int.reduceLE, Int.reduceAdd, Int.reduceSub, Int.reduceNeg, Int.reduceMul, Int.reduceToNat, Nat.reduceSub, Nat.reduceMul, Nat.reduceLeDiff, Nat.reduceAdd, Nat.reduceLT, Nat.reduceEqDiff, reduceCtorEq, ↓reduceIte, rqs, case12_A, case12_B, case12_X, case12_Y, ints_two, p3]
  refine call_by (g5) (by first | rfl | (simp only [tocvs, tocv, p3]; rfl) | (simp only [tocvs, tocv, toboxes, tobox, updH_at, Nat.reduceEqDiff, ↓reduceIte, p3]; rfl)) (by simp) ?_
  simp (disch := omega) only [wk, tis, Int.reduceNe, Int.reduceEq, Int.reduceLT, Int.reduceLE, Int.reduceAdd, Int.reduceSub, Int.reduceNeg, Int.reduceMul, Int.reduceToNat, Nat.reduceSub, Nat.reduceMul, Nat.reduceLeDiff, Nat.reduceAdd, Nat.reduceLT, Nat.reduceEqDiff, reduceCtorEq, ↓reduceIte, rqs, case12_A, case12_B, case12_X, case12_Y, ints_two, p3]
  cases b5 <;> rfl

theorem plain12_ok (e w : Int) : AC Tryz.prog 14 [ci e, ci w] none [cb (decide (e = w))] := by
  refine AC.by_walk (rs := [.tmp 4]) ords Tryz.func14 (by rfl) (by rfl) (by rfl) (by rfl) (by rfl) ?_
  simp (disch := omega) only [wk, tis, Int.reduceNe, Int.reduceEq, Int.reduceLT, Int.reduceLE, Int.reduceAdd, Int.reduceSub, Int.reduceNeg, Int.reduceMul, Int.reduceToNat, Nat.reduceSub, Nat.reduceMul, Nat.reduceLeDiff, Nat.reduceAdd, Nat.reduceLT, Nat.reduceEqDiff, reduceCtorEq, ↓reduceIte, rqs, case12_A, case12_B, case12_X, case12_Y, ints_two]

theorem awake12_ok : AC Tryz.prog 10 [] none [cb true] := by
  have s := sof_ok [-2, 0, 1] (by decide) (by decide)
  have b0 := small_pb [-2, 0, 1] 3 (by decide) (by decide)
  have o := hoverq_ok (cn [-2, 0, 1]) (rp_cn (b0.mono (by omega) (by omega)))
  have e0 : trimz [-2, 0, 1] = [-2, 0, 1] := by decide
  have e1 : pv (cn [-2, 0, 1]) = [-2, 0, 1] := by rw [cn, pv_canon, e0]
  rw [e1] at o
  have p1 := hP_ok 3 2 (by omega) (by omega) (by omega) (by omega)
  have p2 := hP_ok 1 1 (by omega) (by omega) (by omega) (by omega)
  have p3 := hP_ok 1 4 (by omega) (by omega) (by omega) (by omega)
  have bq : QB 3 1 (qp [-2, 0, 1]) := PB.ofZ b0 (by omega)
  have z1 : qz ((3 : Int) / (2 : Nat) : Rat) ≤ 1 := by decide +kernel
  have a := eAt_ok (cqs (qp [-2, 0, 1])) (crat ((3 : Int) / (2 : Nat))) 100 (VB.of (K := 1) (X := 1) (n := 3) bq.gqs (szq_crat z1) (nv_crat0 _) (by omega) (by omega) (by omega))
  rw [qvs_cqs, evq_trim, qv_crat, show evq (qp [-2, 0, 1]) ((3 : Int) / (2 : Nat)) = ((1 : Int) : Rat) / ((4 : Nat) : Rat) by decide +kernel] at a
  have g := eSign_ok (cn [-2, 0, 1]) (crat ((1 : Int) / (1 : Nat))) (rp_cn (b0.mono (by omega) (by omega))) ((szq_crat (show qz ((1 : Int) / (1 : Nat) : Rat) ≤ 1 by decide +kernel)).mono (by omega)) (nv_crat0 _)
  rw [e1, qv_crat, show sgq (evq (qp [-2, 0, 1]) ((1 : Int) / (1 : Nat))) = -1 by decide +kernel] at g
  have z2 : qz ((1 : Int) / (4 : Nat) : Rat) ≤ 1 := by decide +kernel
  have sm := hsame_ok (crat ((1 : Int) / (4 : Nat))) (crat ((1 : Int) / (4 : Nat))) ((szq_crat z2).mono (by omega)) ((szq_crat z2).mono (by omega))
  rw [decide_eq_true rfl] at sm
  refine AC.by_walk (rs := [.tmp 0]) ords Tryz.func10 (by rfl) (by rfl) (by rfl) (by rfl) (by rfl) ?_
  simp (disch := omega) only [wk, tis, Int.reduceNe, Int.reduceEq, Int.reduceLT, Int.reduceLE, Int.reduceAdd, Int.reduceSub, Int.reduceNeg, Int.reduceMul, Int.reduceToNat, Nat.reduceSub, Nat.reduceMul, Nat.reduceLeDiff, Nat.reduceAdd, Nat.reduceLT, Nat.reduceEqDiff, reduceCtorEq, ↓reduceIte, rqs, case12_A, case12_B, case12_X, case12_Y, ints_two]
  refine call_by (s) (by rfl) (by simp) ?_
  simp (disch := omega) only [wk, tis, Int.reduceNe, Int.reduceEq, Int.reduceLT, Int.reduceLE, Int.reduceAdd, Int.reduceSub, Int.reduceNeg, Int.reduceMul, Int.reduceToNat, Nat.reduceSub, Nat.reduceMul, Nat.reduceLeDiff, Nat.reduceAdd, Nat.reduceLT, Nat.reduceEqDiff, reduceCtorEq, ↓reduceIte, rqs, case12_A, case12_B, case12_X, case12_Y, ints_two]
  refine call_by (o) (by rfl) (by simp) ?_
  simp (disch := omega) only [wk, tis, Int.reduceNe, Int.reduceEq, Int.reduceLT, Int.reduceLE, Int.reduceAdd, Int.reduceSub, Int.reduceNeg, Int.reduceMul, Int.reduceToNat, Nat.reduceSub, Nat.reduceMul, Nat.reduceLeDiff, Nat.reduceAdd, Nat.reduceLT, Nat.reduceEqDiff, reduceCtorEq, ↓reduceIte, rqs, case12_A, case12_B, case12_X, case12_Y, ints_two]
  refine call_by (p1) (by rfl) (by simp) ?_
  simp (disch := omega) only [wk, tis, Int.reduceNe, Int.reduceEq, Int.reduceLT, Int.reduceLE, Int.reduceAdd, Int.reduceSub, Int.reduceNeg, Int.reduceMul, Int.reduceToNat, Nat.reduceSub, Nat.reduceMul, Nat.reduceLeDiff, Nat.reduceAdd, Nat.reduceLT, Nat.reduceEqDiff, reduceCtorEq, ↓reduceIte, rqs, case12_A, case12_B, case12_X, case12_Y, ints_two]
  refine call_by (a) (by rfl) (by simp) ?_
  simp (disch := omega) only [wk, tis, Int.reduceNe, Int.reduceEq, Int.reduceLT, Int.reduceLE, Int.reduceAdd, Int.reduceSub, Int.reduceNeg, Int.reduceMul, Int.reduceToNat, Nat.reduceSub, Nat.reduceMul, Nat.reduceLeDiff, Nat.reduceAdd, Nat.reduceLT, Nat.reduceEqDiff, reduceCtorEq, ↓reduceIte, rqs, case12_A, case12_B, case12_X, case12_Y, ints_two]
  refine call_by (s) (by rfl) (by simp) ?_
  simp (disch := omega) only [wk, tis, Int.reduceNe, Int.reduceEq, Int.reduceLT, Int.reduceLE, Int.reduceAdd, Int.reduceSub, Int.reduceNeg, Int.reduceMul, Int.reduceToNat, Nat.reduceSub, Nat.reduceMul, Nat.reduceLeDiff, Nat.reduceAdd, Nat.reduceLT, Nat.reduceEqDiff, reduceCtorEq, ↓reduceIte, rqs, case12_A, case12_B, case12_X, case12_Y, ints_two]
  refine call_by (p2) (by rfl) (by simp) ?_
  simp (disch := omega) only [wk, tis, Int.reduceNe, Int.reduceEq, Int.reduceLT, Int.reduceLE, Int.reduceAdd, Int.reduceSub, Int.reduceNeg, Int.reduceMul, Int.reduceToNat, Nat.reduceSub, Nat.reduceMul, Nat.reduceLeDiff, Nat.reduceAdd, Nat.reduceLT, Nat.reduceEqDiff, reduceCtorEq, ↓reduceIte, rqs, case12_A, case12_B, case12_X, case12_Y, ints_two]
  refine call_by (g) (by rfl) (by simp) ?_
  simp (disch := omega) only [wk, tis, Int.reduceNe, Int.reduceEq, Int.reduceLT, Int.reduceLE, Int.reduceAdd, Int.reduceSub, Int.reduceNeg, Int.reduceMul, Int.reduceToNat, Nat.reduceSub, Nat.reduceMul, Nat.reduceLeDiff, Nat.reduceAdd, Nat.reduceLT, Nat.reduceEqDiff, reduceCtorEq, ↓reduceIte, rqs, case12_A, case12_B, case12_X, case12_Y, ints_two]
  refine ⟨tmps_by (by kernel_rfl), ?_⟩
  refine call_by (p3) (by rfl) (by simp) ?_
  simp (disch := omega) only [wk, tis, Int.reduceNe, Int.reduceEq, Int.reduceLT, Int.reduceLE, Int.reduceAdd, Int.reduceSub, Int.reduceNeg, Int.reduceMul, Int.reduceToNat, Nat.reduceSub, Nat.reduceMul, Nat.reduceLeDiff, Nat.reduceAdd, Nat.reduceLT, Nat.reduceEqDiff, reduceCtorEq, ↓reduceIte, rqs, case12_A, case12_B, case12_X, case12_Y, ints_two]
  refine call_by (sm) (by rfl) (by simp) ?_
  simp (disch := omega) only [wk, tis, Int.reduceNe, Int.reduceEq, Int.reduceLT, Int.reduceLE, Int.reduceAdd, Int.reduceSub, Int.reduceNeg, Int.reduceMul, Int.reduceToNat, Nat.reduceSub, Nat.reduceMul, Nat.reduceLeDiff, Nat.reduceAdd, Nat.reduceLT, Nat.reduceEqDiff, reduceCtorEq, ↓reduceIte, rqs, case12_A, case12_B, case12_X, case12_Y, ints_two]
  first | exact log_by (by kernel_rfl) | refine ⟨log_by (by kernel_rfl), ?_⟩
  try rfl

/-- The value of both, or the error of both. -/
theorem at_both (p : List RQ) (x : RQ) (hp : BQ 40 200 p) (hx : SzQ 200 x) : ∃ v e, SzQ (2 ^ 34) v ∧ AC Tryz.prog 12 [cqw p, cqq x] none [cqq v, ci e] ∧ AC Tryz.prog 13 [cqw p, cqq x] none [cqq v, ci e] ∧ AC Tryz.prog 15 [cqq v, cqq v] none [cb true] := by
  have key : ∀ v : RQ, SzQ (2 ^ 34) v → AC Tryz.prog 15 [cqq v, cqq v] none [cb true] := fun v hv => by
    have := hsame_ok v v (hv.mono (by omega)) (hv.mono (by omega))
    rwa [decide_eq_true rfl] at this
  by_cases h : gd p = true ∧ nv x.2 ≠ 0
  · have v := VB.of (B := 2 ^ 34) (hp.gq h.1) hx h.2 (by omega) (by omega) (by omega)
    have hs : SzQ (2 ^ 34) (crat (evq (qvs p) (qv x))) := szq_crat (v.e _ (by rw [qvs_len]; omega) fun c hc => hc)
    exact ⟨crat (evq (qvs p) (qv x)), 0, hs, hAt_ok p x _ v, eAt_ok p x _ v, key _ hs⟩
  · have h' : gd p = false ∨ nv x.2 = 0 := by
      cases hg : gd p with
      | false => exact .inl rfl
      | true => exact .inr (Decidable.not_not.mp fun h0 => h ⟨hg, h0⟩)
    have hs : SzQ (2 ^ 34) q0 := ⟨⟨Nat.zero_le _, Lim.nil⟩, Nat.zero_le _, Lim.nil⟩
    exact ⟨q0, 1, hs, hAt_bad p x (hp.mono (by omega) (by omega)) (hx.mono (by omega)) h', eAt_bad p x (hp.mono (by omega) (by omega)) (hx.mono (by omega)) h', key _ hs⟩

theorem values_ok (x : C12) (h : Ok12 x) : AC Tryz.prog 3 [.agg (case12 x)] none [cb true] := by
  have g := great12_ok x h
  cases hg : great12 x with
  | true =>
    rw [hg] at g
    refine AC.by_walk (rs := [.tmp 2]) ords Tryz.func3 (by rfl) (by rfl) (by rfl) (by rfl) (by rfl) ?_
    simp (disch := omega) only [wk, tis, Int.reduceNe, Int.reduceEq, Int.reduceLT, Int.reduceLE, Int.reduceAdd, Int.reduceSub, Int.reduceNeg, Int.reduceMul, Int.reduceToNat, Nat.reduceSub, Nat.reduceMul, Nat.reduceLeDiff, Nat.reduceAdd, Nat.reduceLT, Nat.reduceEqDiff, reduceCtorEq, ↓reduceIte, rqs, case12_A, case12_B, case12_X, case12_Y, ints_two]
    refine call_by (awake12_ok) (by rfl) (by simp) ?_
    simp (disch := omega) only [wk, tis, Int.reduceNe, Int.reduceEq, Int.reduceLT, Int.reduceLE, Int.reduceAdd, Int.reduceSub, Int.reduceNeg, Int.reduceMul, Int.reduceToNat, Nat.reduceSub, Nat.reduceMul, Nat.reduceLeDiff, Nat.reduceAdd, Nat.reduceLT, Nat.reduceEqDiff, reduceCtorEq, ↓reduceIte, rqs, case12_A, case12_B, case12_X, case12_Y, ints_two]
    refine call_by (g) (by rfl) (by simp) ?_
    simp (disch := omega) only [wk, tis, Int.reduceNe, Int.reduceEq, Int.reduceLT, Int.reduceLE, Int.reduceAdd, Int.reduceSub, Int.reduceNeg, Int.reduceMul, Int.reduceToNat, Nat.reduceSub, Nat.reduceMul, Nat.reduceLeDiff, Nat.reduceAdd, Nat.reduceLT, Nat.reduceEqDiff, reduceCtorEq, ↓reduceIte, rqs, case12_A, case12_B, case12_X, case12_Y, ints_two]
  | false =>
    rw [hg] at g
    have f := fit12 h hg
    obtain ⟨v, e, hv, a1, a2, s⟩ := at_both x.R x.X f.R f.X
    have p := plain12_ok e e
    rw [decide_eq_true rfl] at p
    have zA := zl_iv f.A
    have zB := zl_iv f.B
    have fP : RP (2 ^ 10) (2 ^ 20) x.P := f.P.mono (by omega) (by omega)
    have fA : Sz (2 ^ 20) x.A := f.A.mono (by omega)
    have fB : Sz (2 ^ 20) x.B := f.B.mono (by omega)
    have z1 := ev_bound fP (t := iv x.A) (by omega) (pv x.P) (by rw [pv_len]; omega) (fun z hz => hz)
    have z2 : zl (ihom (trimz (pv x.P)) (iv x.A) (iv x.B)) ≤ 2 ^ 33 := by
      have h := zl_ihom (K := 2 ^ 20) (k := 2 ^ 20) (p := trimz (pv x.P)) (a := iv x.A) (b := iv x.B) (by omega) (by omega) fun z hz => fP.pv.trimz.2 z hz
      have h2 : (trimz (pv x.P)).length ≤ 2 ^ 10 := fP.pv.trimz.1
      have h3 := Nat.mul_le_mul_right (2 ^ 20 + 1) h2
      have h4 : 2 ^ 20 + 2 ^ 10 * (2 ^ 20 + 1) + 1 ≤ 2 ^ 32 := by decide
      omega
    have m1 := eatint_ok x.P x.A fP fA
    have m2 := hatint_ok x.P x.A fP fA
    have m3 := sameint_g (a := ev (pv x.P) (iv x.A)) rfl (by omega)
    have n1 := ehomog_ok x.P x.A x.B fP fA fB
    have n2 := hhomog_ok x.P x.A x.B fP fA fB
    have n3 := sameint_g (a := ihom (trimz (pv x.P)) (iv x.A) (iv x.B)) rfl (by omega)
    refine AC.by_walk (rs := [.tmp 2]) ords Tryz.func3 (by rfl) (by rfl) (by rfl) (by rfl) (by rfl) ?_
    simp (disch := omega) only [wk, tis, Int.reduceNe, Int.reduceEq, Int.reduceLT, Int.reduceLE, Int.reduceAdd, Int.reduceSub, Int.reduceNeg, Int.reduceMul, Int.reduceToNat, Nat.reduceSub, Nat.reduceMul, Nat.reduceLeDiff, Nat.reduceAdd, Nat.reduceLT, Nat.reduceEqDiff, reduceCtorEq, ↓reduceIte, rqs, case12_A, case12_B, case12_X, case12_Y, ints_two]
    refine call_by (awake12_ok) (by rfl) (by simp) ?_
    simp (disch := omega) only [wk, tis, Int.reduceNe, Int.reduceEq, Int.reduceLT, Int.reduceLE, Int.reduceAdd, Int.reduceSub, Int.reduceNeg, Int.reduceMul, Int.reduceToNat, Nat.reduceSub, Nat.reduceMul, Nat.reduceLeDiff, Nat.reduceAdd, Nat.reduceLT, Nat.reduceEqDiff, reduceCtorEq, ↓reduceIte, rqs, case12_A, case12_B, case12_X, case12_Y, ints_two]
    refine call_by (g) (by rfl) (by simp) ?_
    simp (disch := omega) only [wk, tis, Int.reduceNe, Int.reduceEq, Int.reduceLT, Int.reduceLE, Int.reduceAdd, Int.reduceSub, Int.reduceNeg, Int.reduceMul, Int.reduceToNat, Nat.reduceSub, Nat.reduceMul, Nat.reduceLeDiff, Nat.reduceAdd, Nat.reduceLT, Nat.reduceEqDiff, reduceCtorEq, ↓reduceIte, rqs, case12_A, case12_B, case12_X, case12_Y, ints_two]
    refine call_by (a1) (by rfl) (by simp) ?_
    simp (disch := omega) only [wk, tis, Int.reduceNe, Int.reduceEq, Int.reduceLT, Int.reduceLE, Int.reduceAdd, Int.reduceSub, Int.reduceNeg, Int.reduceMul, Int.reduceToNat, Nat.reduceSub, Nat.reduceMul, Nat.reduceLeDiff, Nat.reduceAdd, Nat.reduceLT, Nat.reduceEqDiff, reduceCtorEq, ↓reduceIte, rqs, case12_A, case12_B, case12_X, case12_Y, ints_two]
    refine call_by (a2) (by rfl) (by simp) ?_
    simp (disch := omega) only [wk, tis, Int.reduceNe, Int.reduceEq, Int.reduceLT, Int.reduceLE, Int.reduceAdd, Int.reduceSub, Int.reduceNeg, Int.reduceMul, Int.reduceToNat, Nat.reduceSub, Nat.reduceMul, Nat.reduceLeDiff, Nat.reduceAdd, Nat.reduceLT, Nat.reduceEqDiff, reduceCtorEq, ↓reduceIte, rqs, case12_A, case12_B, case12_X, case12_Y, ints_two]
    refine call_by (p) (by rfl) (by simp) ?_
    simp (disch := omega) only [wk, tis, Int.reduceNe, Int.reduceEq, Int.reduceLT, Int.reduceLE, Int.reduceAdd, Int.reduceSub, Int.reduceNeg, Int.reduceMul, Int.reduceToNat, Nat.reduceSub, Nat.reduceMul, Nat.reduceLeDiff, Nat.reduceAdd, Nat.reduceLT, Nat.reduceEqDiff, reduceCtorEq, ↓reduceIte, rqs, case12_A, case12_B, case12_X, case12_Y, ints_two]
    refine call_by (s) (by rfl) (by simp) ?_
    simp (disch := omega) only [wk, tis, Int.reduceNe, Int.reduceEq, Int.reduceLT, Int.reduceLE, Int.reduceAdd, Int.reduceSub, Int.reduceNeg, Int.reduceMul, Int.reduceToNat, Nat.reduceSub, Nat.reduceMul, Nat.reduceLeDiff, Nat.reduceAdd, Nat.reduceLT, Nat.reduceEqDiff, reduceCtorEq, ↓reduceIte, rqs, case12_A, case12_B, case12_X, case12_Y, ints_two]
    refine ⟨tmps_by (by kernel_rfl), ?_⟩
    refine call_by (m1) (by rfl) (by simp) ?_
    simp (disch := omega) only [wk, tis, Int.reduceNe, Int.reduceEq, Int.reduceLT, Int.reduceLE, Int.reduceAdd, Int.reduceSub, Int.reduceNeg, Int.reduceMul, Int.reduceToNat, Nat.reduceSub, Nat.reduceMul, Nat.reduceLeDiff, Nat.reduceAdd, Nat.reduceLT, Nat.reduceEqDiff, reduceCtorEq, ↓reduceIte, rqs, case12_A, case12_B, case12_X, case12_Y, ints_two]
    refine call_by (m2) (by rfl) (by simp) ?_
    simp (disch := omega) only [wk, tis, Int.reduceNe, Int.reduceEq, Int.reduceLT, Int.reduceLE, Int.reduceAdd, Int.reduceSub, Int.reduceNeg, Int.reduceMul, Int.reduceToNat, Nat.reduceSub, Nat.reduceMul, Nat.reduceLeDiff, Nat.reduceAdd, Nat.reduceLT, Nat.reduceEqDiff, reduceCtorEq, ↓reduceIte, rqs, case12_A, case12_B, case12_X, case12_Y, ints_two]
    refine call_by (m3) (by rfl) (by simp) ?_
    simp (disch := omega) only [wk, tis, Int.reduceNe, Int.reduceEq, Int.reduceLT, Int.reduceLE, Int.reduceAdd, Int.reduceSub, Int.reduceNeg, Int.reduceMul, Int.reduceToNat, Nat.reduceSub, Nat.reduceMul, Nat.reduceLeDiff, Nat.reduceAdd, Nat.reduceLT, Nat.reduceEqDiff, reduceCtorEq, ↓reduceIte, rqs, case12_A, case12_B, case12_X, case12_Y, ints_two]
    refine call_by (n1) (by rfl) (by simp) ?_
    simp (disch := omega) only [wk, tis, Int.reduceNe, Int.reduceEq, Int.reduceLT, Int.reduceLE, Int.reduceAdd, Int.reduceSub, Int.reduceNeg, Int.reduceMul, Int.reduceToNat, Nat.reduceSub, Nat.reduceMul, Nat.reduceLeDiff, Nat.reduceAdd, Nat.reduceLT, Nat.reduceEqDiff, reduceCtorEq, ↓reduceIte, rqs, case12_A, case12_B, case12_X, case12_Y, ints_two]
    refine call_by (n2) (by rfl) (by simp) ?_
    simp (disch := omega) only [wk, tis, Int.reduceNe, Int.reduceEq, Int.reduceLT, Int.reduceLE, Int.reduceAdd, Int.reduceSub, Int.reduceNeg, Int.reduceMul, Int.reduceToNat, Nat.reduceSub, Nat.reduceMul, Nat.reduceLeDiff, Nat.reduceAdd, Nat.reduceLT, Nat.reduceEqDiff, reduceCtorEq, ↓reduceIte, rqs, case12_A, case12_B, case12_X, case12_Y, ints_two]
    refine call_by (n3) (by rfl) (by simp) ?_
    simp (disch := omega) only [wk, tis, Int.reduceNe, Int.reduceEq, Int.reduceLT, Int.reduceLE, Int.reduceAdd, Int.reduceSub, Int.reduceNeg, Int.reduceMul, Int.reduceToNat, Nat.reduceSub, Nat.reduceMul, Nat.reduceLeDiff, Nat.reduceAdd, Nat.reduceLT, Nat.reduceEqDiff, reduceCtorEq, ↓reduceIte, rqs, case12_A, case12_B, case12_X, case12_Y, ints_two]
    first | exact log_by (by kernel_rfl) | refine ⟨log_by (by kernel_rfl), ?_⟩
    try rfl

theorem ok12 (P Q : List RI) (R S : List RQ) (A B : RI) (X Y : RQ) (N : Int) (hP : Raw P) (hQ : Raw Q) (hR : RawQ R) (hS : RawQ S) (hA : Sz 9223372036854775807 A) (hB : Sz 9223372036854775807 B) (hX : SzQ 9223372036854775807 X) (hY : SzQ 9223372036854775807 Y) (hN1 : -9223372036854775808 ≤ N) (hN2 : N ≤ 9223372036854775807) :
    Ok12 ⟨P, Q, R, S, A, B, X, Y, N⟩ := ⟨hP, hQ, hR, hS, hA, hB, hX, hY, hN1, hN2⟩
theorem values_law (P Q : List RI) (R S : List RQ) (A B : RI) (X Y : RQ) (N : Int) (hP : Raw P) (hQ : Raw Q) (hR : RawQ R) (hS : RawQ S) (hA : Sz 9223372036854775807 A) (hB : Sz 9223372036854775807 B) (hX : SzQ 9223372036854775807 X) (hY : SzQ 9223372036854775807 Y) (hN1 : -9223372036854775808 ≤ N) (hN2 : N ≤ 9223372036854775807) :
    AC Tryz.prog 3 [.agg (case12 ⟨P, Q, R, S, A, B, X, Y, N⟩)] none [cb true] := values_ok _ (ok12 P Q R S A B X Y N hP hQ hR hS hA hB hX hY hN1 hN2)
end Go.Proofs.YtjadkhkgmdikiaaGreat

namespace Go.Proofs.YtjadkhkgmdikiaaGreat
open Go Go.Proofs Go.AL
set_option linter.unusedSimpArgs false
set_option linter.unusedVariables false

/-! ### Common denominators -/
def CD (D M : Nat) (q : Rat) : Prop := ∃ z : Int, q = (z : Rat) / (D : Rat) ∧ zl z ≤ M
theorem CD.mono {D M N : Nat} {q : Rat} (h : CD D M q) (hk : M ≤ N) : CD D N q := by
  obtain ⟨z, e, hz⟩ := h
  exact ⟨z, e, Nat.le_trans hz hk⟩
theorem natr_ne {n : Nat} (h : n ≠ 0) : (n : Rat) ≠ 0 := fun e => h (Rat.natCast_eq_zero_iff.mp e)
theorem CD.add {D M N : Nat} {p q : Rat} (h : CD D M p) (k : CD D N q) : CD D (max M N + 1) (p + q) := by
  obtain ⟨z, e, hz⟩ := h
  obtain ⟨w, f, hw⟩ := k
  refine ⟨z + w, ?_, ?_⟩
  · rw [e, f, Rat.intCast_add, Rat.div_def, Rat.div_def, Rat.div_def, Rat.add_mul]
  · have := zl_add z w
    omega
theorem CD.neg {D M : Nat} {p : Rat} (h : CD D M p) : CD D M (-p) := by
  obtain ⟨z, e, hz⟩ := h
  exact ⟨-z, by rw [e, Rat.intCast_neg, Rat.div_def, Rat.div_def, Rat.neg_mul], by rw [zl_neg]; exact hz⟩
theorem CD.mul {D E M N : Nat} {p q : Rat} (hD : D ≠ 0) (hE : E ≠ 0) (h : CD D M p) (k : CD E N q) : CD (D * E) (M + N) (p * q) := by
  obtain ⟨z, e, hz⟩ := h
  obtain ⟨w, f, hw⟩ := k
  refine ⟨z * w, ?_, ?_⟩
  · have h1 := natr_ne hD
    have h2 := natr_ne hE
    rw [e, f, Rat.intCast_mul, Rat.natCast_mul]
    grind
  · have := zl_mul z w
    omega
theorem CD.up {D E M V : Nat} {q : Rat} (hD : D ≠ 0) (hE : E ≠ 0) (hV : (wd E).length ≤ V) (h : CD D M q) : CD (D * E) (M + V) q := by
  obtain ⟨z, e, hz⟩ := h
  refine ⟨z * E, ?_, ?_⟩
  · have h1 := natr_ne hD
    have h2 := natr_ne hE
    rw [e, Rat.intCast_mul, Rat.natCast_mul, Rat.intCast_natCast]
    grind
  · have := zl_mul z E
    rw [zl_nat] at this
    omega
theorem CD.ofRat (q : Rat) : CD q.den (zl q.num) q := ⟨q.num, by rw [← Rat.mkRat_eq_div]; exact (Rat.mkRat_self q).symm, Nat.le_refl _⟩
theorem CD.size {D M : Nat} {q : Rat} (hD : D ≠ 0) (hw : (wd D).length ≤ M) (h : CD D M q) : qz q ≤ M := by
  obtain ⟨z, e, hz⟩ := h
  rw [e, ← Rat.mkRat_eq_div]
  exact qz_mk hD hz hw
theorem CD.zero (D M : Nat) : CD D M 0 := ⟨0, by rw [Rat.intCast_zero, Rat.div_def, Rat.zero_mul], by rw [zl_zero]; omega⟩
theorem wd_pow {v V : Nat} (h : (wd v).length ≤ V) (n : Nat) : (wd (v ^ n)).length ≤ n * V + 1 := by
  have := zl_pow (a := (v : Int)) (K := V) h n
  unfold zl at this
  rwa [Int.natAbs_pow, Int.natAbs_natCast] at this
theorem pow_ne {v : Nat} (h : v ≠ 0) (n : Nat) : v ^ n ≠ 0 := Nat.ne_of_gt (Nat.pow_pos (Nat.pos_of_ne_zero h))

theorem evq_cd {D K v X V : Nat} {x : Rat} (hD : D ≠ 0) (hv : v ≠ 0) (hV : (wd v).length ≤ V) (hx : CD v X x) : ∀ p : List Rat, (∀ c ∈ p, CD D K c) → CD (D * v ^ p.length) (K + p.length * (X + V + 1) + 1) (evq p x)
  | [], _ => CD.zero _ _
  | c :: p, h => by
    have ih := evq_cd hD hv hV hx p fun c' hc => h c' (List.mem_cons_of_mem _ hc)
    have h1 := (h c (by simp)).up hD (pow_ne hv (p.length + 1)) (wd_pow hV (p.length + 1))
    have h2 := hx.mul hv (Nat.mul_ne_zero hD (pow_ne hv _)) ih
    rw [show v * (D * v ^ p.length) = D * v ^ (p.length + 1) by rw [Nat.pow_succ]; ac_rfl] at h2
    rw [evq, List.length_cons]
    refine (h1.add h2).mono ?_
    have e1 : (p.length + 1) * V = p.length * V + V := Nat.succ_mul _ _
    have e2 : (p.length + 1) * (X + V + 1) = p.length * (X + V + 1) + (X + V + 1) := Nat.succ_mul _ _
    have e3 : p.length * V ≤ p.length * (X + V + 1) := Nat.mul_le_mul_left _ (by omega)
    omega
theorem evq_cdN {D K v X V N : Nat} {x : Rat} (hD : D ≠ 0) (hv : v ≠ 0) (hV : (wd v).length ≤ V) (hx : CD v X x) {p : List Rat} (hp : ∀ c ∈ p, CD D K c) (hN : p.length ≤ N) : CD (D * v ^ N) (K + N * (X + V + 1) + N * V + 2) (evq p x) := by
  have h1 := (evq_cd hD hv hV hx p hp).up (Nat.mul_ne_zero hD (pow_ne hv _)) (pow_ne hv (N - p.length)) (wd_pow hV (N - p.length))
  rw [Nat.mul_assoc, ← Nat.pow_add, show p.length + (N - p.length) = N by omega] at h1
  refine h1.mono ?_
  have e1 : p.length * (X + V + 1) ≤ N * (X + V + 1) := Nat.mul_le_mul_right _ hN
  have e2 : (N - p.length) * V ≤ N * V := Nat.mul_le_mul_right _ (by omega)
  omega

/-- All over one denominator. -/
structure CB (D n M : Nat) (q : List Rat) : Prop where
  d : D ≠ 0
  w : (wd D).length ≤ M
  l : q.length ≤ n
  c : ∀ c ∈ q, CD D M c
theorem CB.qb {D n M : Nat} {q : List Rat} (h : CB D n M q) : QB n M q := ⟨h.l, fun c hc => (h.c c hc).size h.d h.w⟩
theorem CB.mono {D n M m N : Nat} {q : List Rat} (h : CB D n M q) (hn : n ≤ m) (hM : M ≤ N) : CB D m N q := ⟨h.d, Nat.le_trans h.w hM, Nat.le_trans h.l hn, fun c hc => (h.c c hc).mono hM⟩
theorem CB.sub {D n M : Nat} {q r : List Rat} (h : CB D n M q) (hl : r.length ≤ n) (hr : ∀ c ∈ r, c ∈ q) : CB D n M r := ⟨h.d, h.w, hl, fun c hc => h.c c (hr c hc)⟩
theorem CB.trim {D n M : Nat} {q : List Rat} (h : CB D n M q) : CB D n M (trimq q) := h.sub (Nat.le_trans (by rw [trimq_len]; exact tzq_le q) h.l) fun c hc => List.mem_of_mem_take hc
theorem qz_parts (q : Rat) : zl q.num ≤ qz q ∧ (wd q.den).length ≤ qz q := ⟨Nat.le_max_left _ _, Nat.le_max_right _ _⟩
theorem one_cd : ∀ {k : Nat} (q : List Rat), (∀ c ∈ q, qz c ≤ k) → ∃ D, D ≠ 0 ∧ (wd D).length ≤ q.length * k + 1 ∧ ∀ c ∈ q, CD D (q.length * k + k + 1) c
  | k, [], _ => ⟨1, by omega, by rw [show wd 1 = [1] by decide +kernel]; simp, fun c hc => nomatch hc⟩
  | k, a :: q, h => by
    obtain ⟨D, hD, hw, hc⟩ := one_cd q fun c hc => h c (List.mem_cons_of_mem _ hc)
    have ha := h a (by simp)
    have hp := qz_parts a
    refine ⟨a.den * D, Nat.mul_ne_zero a.den_nz hD, ?_, fun c hc' => ?_⟩
    · have := AL.wd_mul_len a.den D
      rw [List.length_cons, Nat.succ_mul]
      omega
    · rw [List.length_cons, Nat.succ_mul]
      rcases List.mem_cons.1 hc' with rfl | hc'
      · exact ((CD.ofRat c).up c.den_nz hD hw).mono (by omega)
      · rw [Nat.mul_comm]
        exact ((hc c hc').up hD a.den_nz hp.2).mono (by omega)
theorem QB.cb {n k : Nat} {q : List Rat} (h : QB n k q) : ∃ D, CB D n (n * k + k + 1) q := by
  obtain ⟨D, hD, hw, hc⟩ := one_cd q h.2
  have := Nat.mul_le_mul_right k h.1
  exact ⟨D, hD, by omega, h.1, fun c hc' => (hc c hc').mono (by omega)⟩

/-! ### A polynomial by x - c -/
/-- The quotient's coefficients. -/
def sqq (q : List Rat) (c : Rat) : List Rat := (List.range (q.length - 1)).map fun i => evq (q.drop (i + 1)) c
theorem sqq_len (q : List Rat) (c : Rat) : (sqq q c).length = q.length - 1 := by simp [sqq]
theorem cfq_sqq (q : List Rat) (c : Rat) (i : Nat) : cfq (sqq q c) i = evq (q.drop (i + 1)) c := by
  by_cases h : i < q.length - 1
  · rw [sqq, cfq, List.getD, List.getElem?_map, List.getElem?_range h]; rfl
  · rw [cfq_ge (by rw [sqq_len]; omega), List.drop_of_length_le (by omega)]; rfl
theorem CB.sqq {D n M v X V : Nat} {q : List Rat} {x : Rat} (h : CB D n M q) (hv : v ≠ 0) (hV : (wd v).length ≤ V) (hx : CD v X x) : CB (D * v ^ n) n (M + n * (X + V + 1) + n * V + 2) (sqq q x) where
  d := Nat.mul_ne_zero h.d (pow_ne hv _)
  w := by
    have h1 := AL.wd_mul_len D (v ^ n)
    have h2 := wd_pow hV n
    have h3 := h.w
    omega
  l := by rw [sqq_len]; have := h.l; omega
  c := fun c hc => by
    obtain ⟨i, _, rfl⟩ := List.mem_map.1 hc
    exact evq_cdN h.d hv hV hx (fun c hc => h.c c (List.mem_of_mem_drop hc)) (by rw [List.length_drop]; have := h.l; omega)
theorem trimq_full {q : List Rat} (h : trimq q = q) : tzq q = q.length := by rw [← trimq_len, h]
/-- Where the rest is 0, the quotient is shorter by one, and isn't 0. -/
theorem sqq_tz {q : List Rat} {c : Rat} (h : trimq q = q) (h0 : q.length ≠ 0) (he : evq q c = 0) : tzq (sqq q c) = q.length - 1 ∧ q.length - 1 ≠ 0 := by
  have ht := trimq_full h
  have h1 : q.length ≠ 1 := fun e => by
    match q, e with
    | [a], _ =>
      have := cfq_tzq_pred (q := [a]) (by rw [ht]; simp)
      rw [ht] at this
      rw [evq, evq] at he
      exact this (by show a = 0; rw [← he]; grind)
  have h2 : cfq (sqq q c) (q.length - 2) ≠ 0 := by
    have := cfq_tzq_pred (q := q) (by rw [ht]; exact h0)
    rw [ht] at this
    rw [cfq_sqq, show q.length - 2 + 1 = q.length - 1 by omega, List.drop_eq_getElem_cons (by omega), evq, List.drop_of_length_le (by omega), evq]
    rw [cfq_lt (by omega)] at this
    intro e
    exact this (by rw [← e]; grind)
  have := tzq_spec h2 fun k hk => by rw [cfq_sqq, List.drop_of_length_le (by omega)]; rfl
  exact ⟨by omega, by omega⟩

/-- The quotients, one behind the other. -/
def qit (q : List Rat) (c : Rat) : Nat → List Rat
  | 0 => q
  | k + 1 => trimq (sqq (qit q c k) c)
theorem qit_cb {D n M v X V : Nat} {q : List Rat} {x : Rat} (h : CB D n M q) (hv : v ≠ 0) (hV : (wd v).length ≤ V) (hx : CD v X x) : ∀ k, ∃ E, CB E n (M + k * (n * (X + V + 1) + n * V + 2)) (qit q x k)
  | 0 => ⟨D, by rw [Nat.zero_mul]; exact h⟩
  | k + 1 => by
    obtain ⟨E, hE⟩ := qit_cb h hv hV hx k
    refine ⟨_, ((hE.sqq hv hV hx).trim).mono (Nat.le_refl _) ?_⟩
    rw [Nat.succ_mul]
    omega
theorem qit_len {q : List Rat} {c : Rat} (h : trimq q = q) (h0 : q.length ≠ 0) : ∀ k, (∀ j, j < k → evq (qit q c j) c = 0) → (qit q c k).length + k = q.length ∧ (qit q c k).length ≠ 0 ∧ trimq (qit q c k) = qit q c k
  | 0, _ => ⟨rfl, h0, h⟩
  | k + 1, hk => by
    obtain ⟨h1, h2, h3⟩ := qit_len h h0 k fun j hj => hk j (by omega)
    obtain ⟨h4, h5⟩ := sqq_tz h3 h2 (hk k (by omega))
    refine ⟨?_, ?_, trimq_trimq _⟩
    · rw [qit, trimq_len]; omega
    · rw [qit, trimq_len]; omega
theorem first_of {P : Nat → Prop} (h : ∃ n, P n) : ∃ n, P n ∧ ∀ j, j < n → ¬ P j := by
  obtain ⟨n, hn⟩ := h
  induction n using Nat.strongRecOn with
  | _ n ih =>
    by_cases hm : ∃ m, m < n ∧ P m
    · obtain ⟨m, hm1, hm2⟩ := hm
      exact ih m hm1 hm2
    · exact ⟨n, hn, fun j hj hp => hm ⟨j, hj, hp⟩⟩
/-- So often x - c divides. -/
theorem qit_times {q : List Rat} {c : Rat} (h : trimq q = q) (h0 : q.length ≠ 0) : ∃ n, n < q.length ∧ evq (qit q c n) c ≠ 0 ∧ ∀ j, j < n → evq (qit q c j) c = 0 := by
  have e : ∃ n, evq (qit q c n) c ≠ 0 := by
    by_cases hn : ∃ n, evq (qit q c n) c ≠ 0
    · exact hn
    · have := qit_len h h0 q.length fun j _ => Decidable.not_not.mp fun hj => hn ⟨j, hj⟩
      omega
  obtain ⟨n, hn, hj⟩ := first_of e
  have hj' : ∀ j, j < n → evq (qit q c j) c = 0 := fun j hjn => Decidable.not_not.mp (hj j hjn)
  have := qit_len h h0 n hj'
  exact ⟨n, by omega, hn, hj'⟩
end Go.Proofs.YtjadkhkgmdikiaaGreat

namespace Go.Proofs.YtjadkhkgmdikiaaGreat
open Go Go.Proofs Go.AL
set_option linter.unusedSimpArgs false
set_option linter.unusedVariables false

theorem qpzero_ok (r : RQ) (h : SzQ (2 ^ 38) r) (h0 : nv r.2 ≠ 0) : AC Tryz.prog 167 [cqq r] none [cb (decide (qv r = 0))] := by
  have s := qsign_ok r h h0
  refine AC.by_walk (rs := [.tmp 2]) ords Tryz.func167 (by rfl) (by rfl) (by rfl) (by rfl) (by rfl) ?_
  simp (disch := omega) only [wk, tis, Int.reduceNe, Int.reduceEq, Int.reduceLT, Int.reduceLE, Int.reduceAdd, Int.reduceSub, Int.reduceNeg, Int.reduceMul, Int.reduceToNat, Nat.reduceSub, Nat.reduceMul, Nat.reduceLeDiff, Nat.reduceAdd, Nat.reduceLT, Nat.reduceEqDiff, reduceCtorEq, ↓reduceIte, rqs]
  refine call_by (s) (by rfl) (by simp) ?_
  simp (disch := omega) only [wk, tis, Int.reduceNe, Int.reduceEq, Int.reduceLT, Int.reduceLE, Int.reduceAdd, Int.reduceSub, Int.reduceNeg, Int.reduceMul, Int.reduceToNat, Nat.reduceSub, Nat.reduceMul, Nat.reduceLeDiff, Nat.reduceAdd, Nat.reduceLT, Nat.reduceEqDiff, reduceCtorEq, ↓reduceIte, rqs]
  rw [decide_eq_decide, qv_zero h0]
  exact Int.sign_eq_zero_iff_zero

theorem qtrim_ok (p : List RQ) (h : GQ (2 ^ 40) (2 ^ 38) p) : AC Tryz.prog 116 [cqw p] none [cqw (p.take (tzq (qvs p)))] := by
  refine AC.by_walk (rs := [.tmp 2]) ords Tryz.func116 (by rfl) (by rfl) (by rfl) (by rfl) (by rfl) ?_
  have hl := h.1
  have htl := tzq_le (qvs p)
  rw [qvs_len] at htl
  simp (disch := omega) only [wk, tis, Int.reduceNe, Int.reduceEq, Int.reduceLT, Int.reduceLE, Int.reduceAdd, Int.reduceSub, Int.reduceNeg, Int.reduceMul, Int.reduceToNat, Nat.reduceSub, Nat.reduceMul, Nat.reduceLeDiff, Nat.reduceAdd, Nat.reduceLT, Nat.reduceEqDiff, reduceCtorEq, ↓reduceIte, rqs]
  refine aloop_by (fun f H => ∃ k : Nat, k ≤ p.length ∧ f 0 = .iv (.sl (rats p)) ∧ f 3 = .iv (.int .i64 k) ∧ tzq ((qvs p).take k) = tzq (qvs p)) (fun f H => (intAt f 3).toNat) ?_ ?_
  · exact ⟨p.length, Nat.le_refl _, by simp (disch := omega) only [wk, tis, Int.reduceNe, Int.reduceEq, Int.reduceLT, Int.reduceLE, Int.reduceAdd, Int.reduceSub, Int.reduceNeg, Int.reduceMul, Int.reduceToNat, Nat.reduceSub, Nat.reduceMul, Nat.reduceLeDiff, Nat.reduceAdd, Nat.reduceLT, Nat.reduceEqDiff, reduceCtorEq, ↓reduceIte, rqs], by simp (disch := omega) only [wk, tis, Int.reduceNe, Int.reduceEq, Int.reduceLT, Int.reduceLE, Int.reduceAdd, Int.reduceSub, Int.reduceNeg, Int.reduceMul, Int.reduceToNat, Nat.reduceSub, Nat.reduceMul, Nat.reduceLeDiff, Nat.reduceAdd, Nat.reduceLT, Nat.reduceEqDiff, reduceCtorEq, ↓reduceIte, rqs], by rw [← qvs_len p, List.take_length]⟩
  rintro f H ⟨k, hk, h0, h3, ht⟩
  rw [intAt_of h3]
  by_cases hc : 0 < (k : Int)
  · simp (disch := omega) only [wk, tis, Int.reduceNe, Int.reduceEq, Int.reduceLT, Int.reduceLE, Int.reduceAdd, Int.reduceSub, Int.reduceNeg, Int.reduceMul, Int.reduceToNat, Nat.reduceSub, Nat.reduceMul, Nat.reduceLeDiff, Nat.reduceAdd, Nat.reduceLT, Nat.reduceEqDiff, reduceCtorEq, ↓reduceIte, rqs, h0, h3, hc]
    have ek : ((k : Int) - 1).toNat = k - 1 := by omega
    have ek' : k = (k - 1) + 1 := by omega
    rw [ek]
    have hr := h.get (i := k - 1) (by omega)
    refine call_by ((qpzero_ok (p.getD (k - 1) q0) hr (h.den (by omega)))) (by first | rfl | (simp only [tocvs, tocv, h0, h3, hc]; rfl) | (simp only [tocvs, tocv, toboxes, tobox, updH_at, Nat.reduceEqDiff, ↓reduceIte, h0, h3, hc]; rfl)) (by simp) ?_
    simp (disch := omega) only [wk, tis, Int.reduceNe, Int.reduceEq, Int.reduceLT, Int.reduceLE, Int.reduceAdd, Int.reduceSub, Int.reduceNeg, Int.reduceMul, Int.reduceToNat, Nat.reduceSub, Nat.reduceMul, Nat.reduceLeDiff, Nat.reduceAdd, Nat.reduceLT, Nat.reduceEqDiff, reduceCtorEq, ↓reduceIte, rqs, h0, h3, hc]
    by_cases hz : qv (p.getD (k - 1) q0) = 0
    · simp (disch := omega) only [wk, tis, Int.reduceNe, Int.reduceEq, Int.reduceLT, Int.reduceLE, Int.reduceAdd, Int.reduceSub, Int.reduceNeg, Int.reduceMul, Int.reduceToNat, Nat.reduceSub, Nat.reduceMul, Nat.reduceLeDiff, Nat.reduceAdd, Nat.reduceLT, Nat.reduceEqDiff, reduceCtorEq, ↓reduceIte, rqs, h0, h3, hz]
      rw [← cfq_qvs] at hz
      refine ⟨⟨k - 1, by omega, by omega, ?_⟩, by omega⟩
      rw [← tzq_take_zero (k := k - 1) (by rw [qvs_len]; omega) hz, ← ek', ht]
    · simp (disch := omega) only [wk, tis, Int.reduceNe, Int.reduceEq, Int.reduceLT, Int.reduceLE, Int.reduceAdd, Int.reduceSub, Int.reduceNeg, Int.reduceMul, Int.reduceToNat, Nat.reduceSub, Nat.reduceMul, Nat.reduceLeDiff, Nat.reduceAdd, Nat.reduceLT, Nat.reduceEqDiff, reduceCtorEq, ↓reduceIte, rqs, h0, h3, hz]
      have hk : k = tzq (qvs p) := by
        rw [← cfq_qvs] at hz
        have := tzq_full (q := qvs p) (k := k - 1) (by rw [qvs_len]; omega) hz
        rw [← ek', ht] at this; exact this.symm
      rw [← hk]
  · have hk : k = tzq (qvs p) := by
      obtain rfl : k = 0 := by omega
      rw [← ht]; rfl
    simp (disch := omega) only [wk, tis, Int.reduceNe, Int.reduceEq, Int.reduceLT, Int.reduceLE, Int.reduceAdd, Int.reduceSub, Int.reduceNeg, Int.reduceMul, Int.reduceToNat, Nat.reduceSub, Nat.reduceMul, Nat.reduceLeDiff, Nat.reduceAdd, Nat.reduceLT, Nat.reduceEqDiff, reduceCtorEq, ↓reduceIte, rqs, h0, h3, hc]
    rw [← hk]

theorem trim_own {q : List Rat} : (q.map crat).take (tzq (qvs (q.map crat))) = cqs q := by rw [qvs_map, ← List.map_take]; rfl
/-- .. of numbers in their own form. -/
theorem qtrim_own (q : List Rat) (h : QB (2 ^ 40) (2 ^ 38) q) : AC Tryz.prog 116 [cqw (q.map crat)] none [cqp q] := by
  have m := qtrim_ok (q.map crat) h.gq
  rwa [trim_own] at m

theorem qpnorm_ok (p : List RQ) (h : GQ (2 ^ 40) (2 ^ 38) p) : AC Tryz.prog 43 [cqw p] none [cqp (qvs p), ci 0] := by
  refine AC.by_walk (rs := [.tmp 2, .tmp 3]) ords Tryz.func43 (by rfl) (by rfl) (by rfl) (by rfl) (by rfl) ?_
  have hl := h.1
  simp (disch := omega) only [wk, tis, Int.reduceNe, Int.reduceEq, Int.reduceLT, Int.reduceLE, Int.reduceAdd, Int.reduceSub, Int.reduceNeg, Int.reduceMul, Int.reduceToNat, Nat.reduceSub, Nat.reduceMul, Nat.reduceLeDiff, Nat.reduceAdd, Nat.reduceLT, Nat.reduceEqDiff, reduceCtorEq, ↓reduceIte, rqs]
  refine aloop_nil 4 4 31 3 (by simp (disch := omega) only [wk, tis, Int.reduceNe, Int.reduceEq, Int.reduceLT, Int.reduceLE, Int.reduceAdd, Int.reduceSub, Int.reduceNeg, Int.reduceMul, Int.reduceToNat, Nat.reduceSub, Nat.reduceMul, Nat.reduceLeDiff, Nat.reduceAdd, Nat.reduceLT, Nat.reduceEqDiff, reduceCtorEq, ↓reduceIte, rqs]) (fun f H => ∃ (i st : Nat), i ≤ p.length ∧ f 11 = .iv (.int .i64 i) ∧ f 9 = .iv (.sl (rats p)) ∧ f 10 = .iv (.int .i64 p.length) ∧ f 4 = .hs 4 st ∧ H 4 = .blk false st 31 3 (rats (((qvs p).take i).map crat))) (fun f H => (p.length - intAt f 11).toNat) ?_ ?_
  · refine ⟨0, 1, by omega, ?_⟩
    simp (disch := omega) only [wk, tis, Int.reduceNe, Int.reduceEq, Int.reduceLT, Int.reduceLE, Int.reduceAdd, Int.reduceSub, Int.reduceNeg, Int.reduceMul, Int.reduceToNat, Nat.reduceSub, Nat.reduceMul, Nat.reduceLeDiff, Nat.reduceAdd, Nat.reduceLT, Nat.reduceEqDiff, reduceCtorEq, ↓reduceIte, rqs, ghostF, ghostH, List.take_zero, List.map_nil]
  rintro f H ⟨i, st, hi, hF⟩
  rw [intAt_of hF.1]
  simp (disch := omega) only [wk, tis, Int.reduceNe, Int.reduceEq, Int.reduceLT, Int.reduceLE, Int.reduceAdd, Int.reduceSub, Int.reduceNeg, Int.reduceMul, Int.reduceToNat, Nat.reduceSub, Nat.reduceMul, Nat.reduceLeDiff, Nat.reduceAdd, Nat.reduceLT, Nat.reduceEqDiff, reduceCtorEq, ↓reduceIte, rqs, hF]
  refine if_by (fun hlt => ?_) (fun hlt => ?_)
  · have hlt' : i < p.length := by omega
    have hq : (((qvs p).take i).map crat).length = i := by rw [List.length_map, List.length_take, qvs_len]; omega
    have m := qnorm_ok (p.getD i q0) (h.get hlt') (h.den hlt')
    rw [← cfq_qvs] at m
    simp (disch := omega) only [wk, tis, Int.reduceNe, Int.reduceEq, Int.reduceLT, Int.reduceLE, Int.reduceAdd, Int.reduceSub, Int.reduceNeg, Int.reduceMul, Int.reduceToNat, Nat.reduceSub, Nat.reduceMul, Nat.reduceLeDiff, Nat.reduceAdd, Nat.reduceLT, Nat.reduceEqDiff, reduceCtorEq, ↓reduceIte, rqs, hF, hq]
    refine call_by (m) (by first | rfl | (simp only [tocvs, tocv, hF, hq]; rfl) | (simp only [tocvs, tocv, toboxes, tobox, updH_at, Nat.reduceEqDiff, ↓reduceIte, hF, hq]; rfl)) (by simp) ?_
    simp (disch := omega) only [wk, tis, Int.reduceNe, Int.reduceEq, Int.reduceLT, Int.reduceLE, Int.reduceAdd, Int.reduceSub, Int.reduceNeg, Int.reduceMul, Int.reduceToNat, Nat.reduceSub, Nat.reduceMul, Nat.reduceLeDiff, Nat.reduceAdd, Nat.reduceLT, Nat.reduceEqDiff, reduceCtorEq, ↓reduceIte, rqs, hF, hq]
    have e := takeq_snoc (q := qvs p) (i := i) (by rw [qvs_len]; omega)
    refine ⟨⟨i + 1, st + 1, by omega, ?_⟩, by omega⟩
    rw [e, List.map_append]
    (repeat' apply And.intro) <;> first | rfl | omega
  · simp (disch := omega) only [wk, tis, Int.reduceNe, Int.reduceEq, Int.reduceLT, Int.reduceLE, Int.reduceAdd, Int.reduceSub, Int.reduceNeg, Int.reduceMul, Int.reduceToNat, Nat.reduceSub, Nat.reduceMul, Nat.reduceLeDiff, Nat.reduceAdd, Nat.reduceLT, Nat.reduceEqDiff, reduceCtorEq, ↓reduceIte, rqs, hF]
    rw [List.take_of_length_le (by rw [qvs_len]; omega)] at hF
    have m := qtrim_own (qvs p) h.qb
    refine call_by (m) (by first | rfl | (simp only [tocvs, tocv, hF]; rfl) | (simp only [tocvs, tocv, toboxes, tobox, updH_at, Nat.reduceEqDiff, ↓reduceIte, hF]; rfl)) (by simp) ?_
    simp (disch := omega) only [wk, tis, Int.reduceNe, Int.reduceEq, Int.reduceLT, Int.reduceLE, Int.reduceAdd, Int.reduceSub, Int.reduceNeg, Int.reduceMul, Int.reduceToNat, Nat.reduceSub, Nat.reduceMul, Nat.reduceLeDiff, Nat.reduceAdd, Nat.reduceLT, Nat.reduceEqDiff, reduceCtorEq, ↓reduceIte, rqs, hF]

set_option maxRecDepth 100000 in
theorem qpnorm_bad (p : List RQ) (h : BQ (2 ^ 40) (2 ^ 38) p) (hg : gd p = false) : AC Tryz.prog 43 [cqw p] none [cqw [], ci 1] := by
  have hd : ∀ i, nv (p.getD i q0).2 = 0 ∨ nv (p.getD i q0).2 ≠ 0 := fun i => Classical.em _
  refine AC.by_walk (rs := [.tmp 2, .tmp 3]) ords Tryz.func43 (by rfl) (by rfl) (by rfl) (by rfl) (by rfl) ?_
  have hl := h.1
  simp (disch := omega) only [wk, tis, Int.reduceNe, Int.reduceEq, Int.reduceLT, Int.reduceLE, Int.reduceAdd, Int.reduceSub, Int.reduceNeg, Int.reduceMul, Int.reduceToNat, Nat.reduceSub, Nat.reduceMul, Nat.reduceLeDiff, Nat.reduceAdd, Nat.reduceLT, Nat.reduceEqDiff, reduceCtorEq, ↓reduceIte, rqs]
  refine aloop_nil 4 4 31 3 (by simp (disch := omega) only [wk, tis, Int.reduceNe, Int.reduceEq, Int.reduceLT, Int.reduceLE, Int.reduceAdd, Int.reduceSub, Int.reduceNeg, Int.reduceMul, Int.reduceToNat, Nat.reduceSub, Nat.reduceMul, Nat.reduceLeDiff, Nat.reduceAdd, Nat.reduceLT, Nat.reduceEqDiff, reduceCtorEq, ↓reduceIte, rqs]) (fun f H => ∃ (i st : Nat), i ≤ p.length ∧ (∀ j, j < i → nv (p.getD j q0).2 ≠ 0) ∧ f 11 = .iv (.int .i64 i) ∧ f 9 = .iv (.sl (rats p)) ∧ f 10 = .iv (.int .i64 p.length) ∧ f 4 = .hs 4 st ∧ H 4 = .blk false st 31 3 (rats (((qvs p).take i).map crat))) (fun f H => (p.length - intAt f 11).toNat) ?_ ?_
  · refine ⟨0, 1, by omega, fun j hj => by omega, ?_⟩
    simp (disch := omega) only [wk, tis, Int.reduceNe, Int.reduceEq, Int.reduceLT, Int.reduceLE, Int.reduceAdd, Int.reduceSub, Int.reduceNeg, Int.reduceMul, Int.reduceToNat, Nat.reduceSub, Nat.reduceMul, Nat.reduceLeDiff, Nat.reduceAdd, Nat.reduceLT, Nat.reduceEqDiff, reduceCtorEq, ↓reduceIte, rqs, ghostF, ghostH, List.take_zero, List.map_nil]
  rintro f H ⟨i, st, hi, hz, hF⟩
  rw [intAt_of hF.1]
  simp (disch := omega) only [wk, tis, Int.reduceNe, Int.reduceEq, Int.reduceLT, Int.reduceLE, Int.reduceAdd, Int.reduceSub, Int.reduceNeg, Int.reduceMul, Int.reduceToNat, Nat.reduceSub, Nat.reduceMul, Nat.reduceLeDiff, Nat.reduceAdd, Nat.reduceLT, Nat.reduceEqDiff, reduceCtorEq, ↓reduceIte, rqs, hF]
  refine if_by (fun hlt => ?_) (fun hlt => ?_)
  · have hlt' : i < p.length := by omega
    have hq : (((qvs p).take i).map crat).length = i := by rw [List.length_map, List.length_take, qvs_len]; omega
    refine (hd i).elim (fun h0 => ?_) (fun h0 => ?_)
    · have m := qnorm_bad (p.getD i q0) ⟨Nat.le_trans (h.get hlt').2.1 (by omega), (h.get hlt').2.2⟩ h0
      simp (disch := omega) only [wk, tis, Int.reduceNe, Int.reduceEq, Int.reduceLT, Int.reduceLE, Int.reduceAdd, Int.reduceSub, Int.reduceNeg, Int.reduceMul, Int.reduceToNat, Nat.reduceSub, Nat.reduceMul, Nat.reduceLeDiff, Nat.reduceAdd, Nat.reduceLT, Nat.reduceEqDiff, reduceCtorEq, ↓reduceIte, rqs, hF, hq]
      refine call_by (m) (by first | rfl | (simp only [tocvs, tocv, hF, hq]; rfl) | (simp only [tocvs, tocv, toboxes, tobox, updH_at, Nat.reduceEqDiff, ↓reduceIte, hF, hq]; rfl)) (by simp) ?_
      simp (disch := omega) only [wk, tis, Int.reduceNe, Int.reduceEq, Int.reduceLT, Int.reduceLE, Int.reduceAdd, Int.reduceSub, Int.reduceNeg, Int.reduceMul, Int.reduceToNat, Nat.reduceSub, Nat.reduceMul, Nat.reduceLeDiff, Nat.reduceAdd, Nat.reduceLT, Nat.reduceEqDiff, reduceCtorEq, ↓reduceIte, rqs, hF, hq]
      try rfl
    · have m := qnorm_ok (p.getD i q0) (h.get hlt') h0
      rw [← cfq_qvs] at m
      simp (disch := omega) only [wk, tis, Int.reduceNe, Int.reduceEq, Int.reduceLT, Int.reduceLE, Int.reduceAdd, Int.reduceSub, Int.reduceNeg, Int.reduceMul, Int.reduceToNat, Nat.reduceSub, Nat.reduceMul, Nat.reduceLeDiff, Nat.reduceAdd, Nat.reduceLT, Nat.reduceEqDiff, reduceCtorEq, ↓reduceIte, rqs, hF, hq]
      refine call_by (m) (by first | rfl | (simp only [tocvs, tocv, hF, hq]; rfl) | (simp only [tocvs, tocv, toboxes, tobox, updH_at, Nat.reduceEqDiff, ↓reduceIte, hF, hq]; rfl)) (by simp) ?_
      simp (disch := omega) only [wk, tis, Int.reduceNe, Int.reduceEq, Int.reduceLT, Int.reduceLE, Int.reduceAdd, Int.reduceSub, Int.reduceNeg, Int.reduceMul, Int.reduceToNat, Nat.reduceSub, Nat.reduceMul, Nat.reduceLeDiff, Nat.reduceAdd, Nat.reduceLT, Nat.reduceEqDiff, reduceCtorEq, ↓reduceIte, rqs, hF, hq]
      have e := takeq_snoc (q := qvs p) (i := i) (by rw [qvs_len]; omega)
      refine ⟨⟨i + 1, st + 1, by omega, fun j hj => ?_, ?_⟩, by omega⟩
      · rcases Nat.lt_or_ge j i with hj' | hj'
        · exact hz j hj'
        · obtain rfl : j = i := by omega
          exact h0
      rw [e, List.map_append]
      (repeat' apply And.intro) <;> first | rfl | omega
  · exfalso
    have : gd p = true := gd_iff.mpr fun r hr => by
      obtain ⟨j, hj, rfl⟩ := List.getElem_of_mem hr
      have := hz j (by omega)
      rwa [List.getD, List.getElem?_eq_getElem hj, Option.getD_some] at this
    rw [this] at hg
    cases hg


theorem hsameq_ok (a b : List RQ) (ha : BQ (2 ^ 40) (2 ^ 40) a) (hb : BQ (2 ^ 40) (2 ^ 40) b) : AC Tryz.prog 25 [cqw a, cqw b] none [cb (decide (a = b))] := by
  refine AC.by_walk (rs := [.tmp 4]) ords Tryz.func25 (by rfl) (by rfl) (by rfl) (by rfl) (by rfl) ?_
  have hla := ha.1
  have hlb := hb.1
  simp (disch := omega) only [wk, tis, Int.reduceNe, Int.reduceEq, Int.reduceLT, Int.reduceLE, Int.reduceAdd, Int.reduceSub, Int.reduceNeg, Int.reduceMul, Int.reduceToNat, Nat.reduceSub, Nat.reduceMul, Nat.reduceLeDiff, Nat.reduceAdd, Nat.reduceLT, Nat.reduceEqDiff, reduceCtorEq, ↓reduceIte, rqs]
  by_cases hl : a.length = b.length
  · have hl' : (a.length : Int) = (b.length : Int) := by omega
    simp (disch := omega) only [wk, tis, Int.reduceNe, Int.reduceEq, Int.reduceLT, Int.reduceLE, Int.reduceAdd, Int.reduceSub, Int.reduceNeg, Int.reduceMul, Int.reduceToNat, Nat.reduceSub, Nat.reduceMul, Nat.reduceLeDiff, Nat.reduceAdd, Nat.reduceLT, Nat.reduceEqDiff, reduceCtorEq, ↓reduceIte, rqs, hl']
    refine aloop_by (fun f H => ∃ (i : Nat), i ≤ a.length ∧ a.take i = b.take i ∧ f 5 = .iv (.int .i64 i) ∧ f 0 = .iv (.sl (rats a)) ∧ f 1 = .iv (.sl (rats b))) (fun f H => (a.length - intAt f 5).toNat) ?_ ?_
    · refine ⟨0, by omega, rfl, ?_⟩
      simp (disch := omega) only [wk, tis, Int.reduceNe, Int.reduceEq, Int.reduceLT, Int.reduceLE, Int.reduceAdd, Int.reduceSub, Int.reduceNeg, Int.reduceMul, Int.reduceToNat, Nat.reduceSub, Nat.reduceMul, Nat.reduceLeDiff, Nat.reduceAdd, Nat.reduceLT, Nat.reduceEqDiff, reduceCtorEq, ↓reduceIte, rqs]
    rintro f H ⟨i, hi, he, hF⟩
    rw [intAt_of hF.1]
    simp (disch := omega) only [wk, tis, Int.reduceNe, Int.reduceEq, Int.reduceLT, Int.reduceLE, Int.reduceAdd, Int.reduceSub, Int.reduceNeg, Int.reduceMul, Int.reduceToNat, Nat.reduceSub, Nat.reduceMul, Nat.reduceLeDiff, Nat.reduceAdd, Nat.reduceLT, Nat.reduceEqDiff, reduceCtorEq, ↓reduceIte, rqs, hF]
    refine if_by (fun hlt => ?_) (fun hlt => ?_)
    · have hia : i < a.length := by omega
      have hib : i < b.length := by omega
      have m := hsame_ok (a.getD i q0) (b.getD i q0) ((ha.get hia).mono (by omega)) ((hb.get hib).mono (by omega))
      have e1 : a.getD i q0 = a[i] := by simp [List.getD, hia]
      have e2 : b.getD i q0 = b[i] := by simp [List.getD, hib]
      simp (disch := omega) only [wk, tis, Int.reduceNe, Int.reduceEq, Int.reduceLT, Int.reduceLE, Int.reduceAdd, Int.reduceSub, Int.reduceNeg, Int.reduceMul, Int.reduceToNat, Nat.reduceSub, Nat.reduceMul, Nat.reduceLeDiff, Nat.reduceAdd, Nat.reduceLT, Nat.reduceEqDiff, reduceCtorEq, ↓reduceIte, rqs, hF]
      refine ⟨tmps_by (by kernel_rfl), ?_⟩
      refine call_by (m) (by first | rfl | (simp only [tocvs, tocv, hF]; rfl) | (simp only [tocvs, tocv, toboxes, tobox, updH_at, Nat.reduceEqDiff, ↓reduceIte, hF]; rfl)) (by simp) ?_
      simp (disch := omega) only [wk, tis, Int.reduceNe, Int.reduceEq, Int.reduceLT, Int.reduceLE, Int.reduceAdd, Int.reduceSub, Int.reduceNeg, Int.reduceMul, Int.reduceToNat, Nat.reduceSub, Nat.reduceMul, Nat.reduceLeDiff, Nat.reduceAdd, Nat.reduceLT, Nat.reduceEqDiff, reduceCtorEq, ↓reduceIte, rqs, hF]
      first | exact log_by (by kernel_rfl) | refine ⟨log_by (by kernel_rfl), ?_⟩
      by_cases hne : a.getD i q0 = b.getD i q0
      · simp (disch := omega) only [wk, tis, Int.reduceNe, Int.reduceEq, Int.reduceLT, Int.reduceLE, Int.reduceAdd, Int.reduceSub, Int.reduceNeg, Int.reduceMul, Int.reduceToNat, Nat.reduceSub, Nat.reduceMul, Nat.reduceLeDiff, Nat.reduceAdd, Nat.reduceLT, Nat.reduceEqDiff, reduceCtorEq, ↓reduceIte, rqs, hF, hne]
        refine ⟨⟨i + 1, by omega, ?_, ?_⟩, by omega⟩
        · rw [List.take_add_one, List.take_add_one, he, List.getElem?_eq_getElem hia, List.getElem?_eq_getElem hib, ← e1, ← e2, hne]
        · omega
      · simp (disch := omega) only [wk, tis, Int.reduceNe, Int.reduceEq, Int.reduceLT, Int.reduceLE, Int.reduceAdd, Int.reduceSub, Int.reduceNeg, Int.reduceMul, Int.reduceToNat, Nat.reduceSub, Nat.reduceMul, Nat.reduceLeDiff, Nat.reduceAdd, Nat.reduceLT, Nat.reduceEqDiff, reduceCtorEq, ↓reduceIte, rqs, hF, hne]
        exact (decide_eq_false (fun e => hne (by rw [e]))).symm
    · simp (disch := omega) only [wk, tis, Int.reduceNe, Int.reduceEq, Int.reduceLT, Int.reduceLE, Int.reduceAdd, Int.reduceSub, Int.reduceNeg, Int.reduceMul, Int.reduceToNat, Nat.reduceSub, Nat.reduceMul, Nat.reduceLeDiff, Nat.reduceAdd, Nat.reduceLT, Nat.reduceEqDiff, reduceCtorEq, ↓reduceIte, rqs, hF]
      rw [List.take_of_length_le (by omega), List.take_of_length_le (by omega)] at he
      exact (decide_eq_true he).symm
  · have hl' : ¬ (a.length : Int) = (b.length : Int) := by omega
    simp (disch := omega) only [wk, tis, Int.reduceNe, Int.reduceEq, Int.reduceLT, Int.reduceLE, Int.reduceAdd, Int.reduceSub, Int.reduceNeg, Int.reduceMul, Int.reduceToNat, Nat.reduceSub, Nat.reduceMul, Nat.reduceLeDiff, Nat.reduceAdd, Nat.reduceLT, Nat.reduceEqDiff, reduceCtorEq, ↓reduceIte, rqs, hl']
    exact (decide_eq_false (fun e => hl (by rw [e]))).symm

theorem tsameq_ok (a b : List RQ) (ha : BQ (2 ^ 40) (2 ^ 40) a) (hb : BQ (2 ^ 40) (2 ^ 40) b) : AC Tryz.prog 28 [cqw a, cqw b] none [cb (decide (a = b))] := by
  refine AC.by_walk (rs := [.tmp 4]) ords Tryz.func28 (by rfl) (by rfl) (by rfl) (by rfl) (by rfl) ?_
  have hla := ha.1
  have hlb := hb.1
  simp (disch := omega) only [wk, tis, Int.reduceNe, Int.reduceEq, Int.reduceLT, Int.reduceLE, Int.reduceAdd, Int.reduceSub, Int.reduceNeg, Int.reduceMul, Int.reduceToNat, Nat.reduceSub, Nat.reduceMul, Nat.reduceLeDiff, Nat.reduceAdd, Nat.reduceLT, Nat.reduceEqDiff, reduceCtorEq, ↓reduceIte, rqs]
  by_cases hl : a.length = b.length
  · have hl' : (a.length : Int) = (b.length : Int) := by omega
    simp (disch := omega) only [wk, tis, Int.reduceNe, Int.reduceEq, Int.reduceLT, Int.reduceLE, Int.reduceAdd, Int.reduceSub, Int.reduceNeg, Int.reduceMul, Int.reduceToNat, Nat.reduceSub, Nat.reduceMul, Nat.reduceLeDiff, Nat.reduceAdd, Nat.reduceLT, Nat.reduceEqDiff, reduceCtorEq, ↓reduceIte, rqs, hl']
    refine aloop_by (fun f H => ∃ (i : Nat), i ≤ a.length ∧ a.take i = b.take i ∧ f 5 = .iv (.int .i64 i) ∧ f 0 = .iv (.sl (rats a)) ∧ f 1 = .iv (.sl (rats b))) (fun f H => (a.length - intAt f 5).toNat) ?_ ?_
    · refine ⟨0, by omega, rfl, ?_⟩
      simp (disch := omega) only [wk, tis, Int.reduceNe, Int.reduceEq, Int.reduceLT, Int.reduceLE, Int.reduceAdd, Int.reduceSub, Int.reduceNeg, Int.reduceMul, Int.reduceToNat, Nat.reduceSub, Nat.reduceMul, Nat.reduceLeDiff, Nat.reduceAdd, Nat.reduceLT, Nat.reduceEqDiff, reduceCtorEq, ↓reduceIte, rqs]
    rintro f H ⟨i, hi, he, hF⟩
    rw [intAt_of hF.1]
    simp (disch := omega) only [wk, tis, Int.reduceNe, Int.reduceEq, Int.reduceLT, Int.reduceLE, Int.reduceAdd, Int.reduceSub, Int.reduceNeg, Int.reduceMul, Int.reduceToNat, Nat.reduceSub, Nat.reduceMul, Nat.reduceLeDiff, Nat.reduceAdd, Nat.reduceLT, Nat.reduceEqDiff, reduceCtorEq, ↓reduceIte, rqs, hF]
    refine if_by (fun hlt => ?_) (fun hlt => ?_)
    · have hia : i < a.length := by omega
      have hib : i < b.length := by omega
      have m := hsame_ok (a.getD i q0) (b.getD i q0) ((ha.get hia).mono (by omega)) ((hb.get hib).mono (by omega))
      have e1 : a.getD i q0 = a[i] := by simp [List.getD, hia]
      have e2 : b.getD i q0 = b[i] := by simp [List.getD, hib]
      simp (disch := omega) only [wk, tis, Int.reduceNe, Int.reduceEq, Int.reduceLT, Int.reduceLE, Int.reduceAdd, Int.reduceSub, Int.reduceNeg, Int.reduceMul, Int.reduceToNat, Nat.reduceSub, Nat.reduceMul, Nat.reduceLeDiff, Nat.reduceAdd, Nat.reduceLT, Nat.reduceEqDiff, reduceCtorEq, ↓reduceIte, rqs, hF]
      refine ⟨tmps_by (by kernel_rfl), ?_⟩
      refine call_by (m) (by first | rfl | (simp only [tocvs, tocv, hF]; rfl) | (simp only [tocvs, tocv, toboxes, tobox, updH_at, Nat.reduceEqDiff, ↓reduceIte, hF]; rfl)) (by simp) ?_
      simp (disch := omega) only [wk, tis, Int.reduceNe, Int.reduceEq, Int.reduceLT, Int.reduceLE, Int.reduceAdd, Int.reduceSub, Int.reduceNeg, Int.reduceMul, Int.reduceToNat, Nat.reduceSub, Nat.reduceMul, Nat.reduceLeDiff, Nat.reduceAdd, Nat.reduceLT, Nat.reduceEqDiff, reduceCtorEq, ↓reduceIte, rqs, hF]
      first | exact log_by (by kernel_rfl) | refine ⟨log_by (by kernel_rfl), ?_⟩
      by_cases hne : a.getD i q0 = b.getD i q0
      · simp (disch := omega) only [wk, tis, Int.reduceNe, Int.reduceEq, Int.reduceLT, Int.reduceLE, Int.reduceAdd, Int.reduceSub, Int.reduceNeg, Int.reduceMul, Int.reduceToNat, Nat.reduceSub, Nat.reduceMul, Nat.reduceLeDiff, Nat.reduceAdd, Nat.reduceLT, Nat.reduceEqDiff, reduceCtorEq, ↓reduceIte, rqs, hF, hne]
        refine ⟨⟨i + 1, by omega, ?_, ?_⟩, by omega⟩
        · rw [List.take_add_one, List.take_add_one, he, List.getElem?_eq_getElem hia, List.getElem?_eq_getElem hib, ← e1, ← e2, hne]
        · omega
      · simp (disch := omega) only [wk, tis, Int.reduceNe, Int.reduceEq, Int.reduceLT, Int.reduceLE, Int.reduceAdd, Int.reduceSub, Int.reduceNeg, Int.reduceMul, Int.reduceToNat, Nat.reduceSub, Nat.reduceMul, Nat.reduceLeDiff, Nat.reduceAdd, Nat.reduceLT, Nat.reduceEqDiff, reduceCtorEq, ↓reduceIte, rqs, hF, hne]
        exact (decide_eq_false (fun e => hne (by rw [e]))).symm
    · simp (disch := omega) only [wk, tis, Int.reduceNe, Int.reduceEq, Int.reduceLT, Int.reduceLE, Int.reduceAdd, Int.reduceSub, Int.reduceNeg, Int.reduceMul, Int.reduceToNat, Nat.reduceSub, Nat.reduceMul, Nat.reduceLeDiff, Nat.reduceAdd, Nat.reduceLT, Nat.reduceEqDiff, reduceCtorEq, ↓reduceIte, rqs, hF]
      rw [List.take_of_length_le (by omega), List.take_of_length_le (by omega)] at he
      exact (decide_eq_true he).symm
  · have hl' : ¬ (a.length : Int) = (b.length : Int) := by omega
    simp (disch := omega) only [wk, tis, Int.reduceNe, Int.reduceEq, Int.reduceLT, Int.reduceLE, Int.reduceAdd, Int.reduceSub, Int.reduceNeg, Int.reduceMul, Int.reduceToNat, Nat.reduceSub, Nat.reduceMul, Nat.reduceLeDiff, Nat.reduceAdd, Nat.reduceLT, Nat.reduceEqDiff, reduceCtorEq, ↓reduceIte, rqs, hl']
    exact (decide_eq_false (fun e => hl (by rw [e]))).symm
end Go.Proofs.YtjadkhkgmdikiaaGreat

namespace Go.Proofs.YtjadkhkgmdikiaaGreat
open Go Go.Proofs Go.AL
set_option linter.unusedSimpArgs false
set_option linter.unusedVariables false

theorem cratq_get {q : List Rat} {i : Nat} (h : i < q.length) : (q.map crat).getD i q0 = crat (cfq q i) := by simp [cfq, List.getD, h]
theorem rep_set (j : Nat) (Y : List RQ) (y : RQ) : (List.replicate (j + 1) q0 ++ Y).set j y = List.replicate j q0 ++ y :: Y := by
  induction j with
  | zero => rfl
  | succ j ih => rw [List.replicate_succ, List.cons_append, List.set_cons_succ, ih, List.replicate_succ, List.cons_append]
theorem dropq_cf (q : List Rat) {i : Nat} (h : i < q.length) : q.drop i = cfq q i :: q.drop (i + 1) := by
  rw [List.drop_eq_getElem_cons h, cfq_lt h]
theorem sqq_rep {A : List Rat} {c : Rat} {j : Nat} (h : j < A.length - 1) : (List.replicate (j + 1) q0 ++ ((sqq A c).drop (j + 1)).map crat).set j (crat (evq (A.drop (j + 1)) c)) = List.replicate j q0 ++ ((sqq A c).drop j).map crat := by
  rw [rep_set, dropq_cf (sqq A c) (i := j) (by rw [sqq_len]; exact h), cfq_sqq]; rfl
theorem sqq_nil (c : Rat) : sqq [] c = [] := rfl
theorem sqq_start {A : List Rat} {c : Rat} : List.replicate (A.length - 1) q0 = List.replicate (A.length - 1) q0 ++ ((sqq A c).drop (A.length - 1)).map crat := by
  rw [List.drop_of_length_le (by rw [sqq_len]; omega)]; simp
theorem rep_app_len (j : Nat) {A : List Rat} {c : Rat} (h : j ≤ A.length - 1) : (List.replicate j q0 ++ ((sqq A c).drop j).map crat).length = A.length - 1 := by
  rw [List.length_append, List.length_replicate, List.length_map, List.length_drop, sqq_len]; omega
theorem evq_last {A : List Rat} {c : Rat} {n : Nat} (h : A.length = n + 1) : evq (A.drop n) c = cfq A n := by
  rw [evq_drop A c (by omega), List.drop_of_length_le (by omega), evq]
  show 0 * c + cfq A n = cfq A n
  grind

/-- What is known of a polynomial in its own form. -/
structure SB (A : List Rat) (x : RQ) (B : Nat) : Prop where
  l : A.length ≤ 2 ^ 30
  c : ∀ i, i < A.length → qz (cfq A i) ≤ B
  e : ∀ i, qz (evq (A.drop i) (qv x)) ≤ B
  hx : SzQ B x
  d : nv x.2 ≠ 0
  b : B ≤ 2 ^ 34
  one : 1 ≤ B
theorem VB.sb {p : List RQ} {x : RQ} {B : Nat} (v : VB p x B) : SB (trimq (qvs p)) x B where
  l := by rw [trimq_len]; exact Nat.le_trans (tzq_le _) (by rw [qvs_len]; exact v.hp.1)
  c := fun i hi => by
    have := v.hp.qb.trimq
    exact this.cz v.one i
  e := fun i => v.e _ (by rw [List.length_drop, trimq_len]; have := tzq_le (qvs p); rw [qvs_len] at this; omega) fun c hc => List.mem_of_mem_take (List.mem_of_mem_drop hc)
  hx := v.hx
  d := v.d
  b := v.b
  one := v.one
theorem SB.sqb {A : List Rat} {x : RQ} {B : Nat} (s : SB A x B) : QB (2 ^ 30) B (sqq A (qv x)) := ⟨by rw [sqq_len]; have := s.l; omega, fun c hc => by
  obtain ⟨i, _, rfl⟩ := List.mem_map.1 hc
  exact s.e _⟩

theorem hsplit_ok (p : List RQ) (x : RQ) (B : Nat) (v : VB p x B) : AC Tryz.prog 92 [cqw p, cqq x] none [cqp (sqq (trimq (qvs p)) (qv x)), cqz (evq (qvs p) (qv x))] := by
  have n := hnormq_ok p (v.hp.mono (by omega) (by have := v.b; omega))
  have s := v.sb
  have hb := s.b
  rw [← evq_trim]
  refine AC.by_walk (rs := [.tmp 4, .cell 5 31]) ords Tryz.func92 (by rfl) (by rfl) (by rfl) (by rfl) (by rfl) ?_
  simp (disch := omega) only [wk, tis, Int.reduceNe, Int.reduceEq, Int.reduceLT, Int.reduceLE, Int.reduceAdd, Int.reduceSub, Int.reduceNeg, Int.reduceMul, Int.reduceToNat, Nat.reduceSub, Nat.reduceMul, Nat.reduceLeDiff, Nat.reduceAdd, Nat.reduceLT, Nat.reduceEqDiff, reduceCtorEq, ↓reduceIte, rqs]
  refine call_by (n) (by rfl) (by simp) ?_
  simp (disch := omega) only [wk, tis, Int.reduceNe, Int.reduceEq, Int.reduceLT, Int.reduceLE, Int.reduceAdd, Int.reduceSub, Int.reduceNeg, Int.reduceMul, Int.reduceToNat, Nat.reduceSub, Nat.reduceMul, Nat.reduceLeDiff, Nat.reduceAdd, Nat.reduceLT, Nat.reduceEqDiff, reduceCtorEq, ↓reduceIte, rqs]
  unfold cqs
  generalize trimq (qvs p) = A at *
  have hAl := s.l
  have hq : (A.map crat).length = A.length := List.length_map _
  refine if_by (fun h0 => ?_) (fun h0 => ?_)
  · have hA : A = [] := List.length_eq_zero_iff.mp (by rw [hq] at h0; omega)
    subst hA
    simp (disch := omega) only [wk, tis, Int.reduceNe, Int.reduceEq, Int.reduceLT, Int.reduceLE, Int.reduceAdd, Int.reduceSub, Int.reduceNeg, Int.reduceMul, Int.reduceToNat, Nat.reduceSub, Nat.reduceMul, Nat.reduceLeDiff, Nat.reduceAdd, Nat.reduceLT, Nat.reduceEqDiff, reduceCtorEq, ↓reduceIte, rqs]
    refine call_by (hzero_ok) (by rfl) (by simp) ?_
    simp (disch := omega) only [wk, tis, Int.reduceNe, Int.reduceEq, Int.reduceLT, Int.reduceLE, Int.reduceAdd, Int.reduceSub, Int.reduceNeg, Int.reduceMul, Int.reduceToNat, Nat.reduceSub, Nat.reduceMul, Nat.reduceLeDiff, Nat.reduceAdd, Nat.reduceLT, Nat.reduceEqDiff, reduceCtorEq, ↓reduceIte, rqs]
    exact ⟨rfl, rfl⟩
  · rw [hq] at h0
    obtain ⟨n, hn⟩ : ∃ n, A.length = n + 1 := ⟨A.length - 1, by omega⟩
    have en : ((n + 1 : Nat) : Int) - 1 = (n : Int) := by omega
    have hs0 : List.replicate n q0 = List.replicate n q0 ++ ((sqq A (qv x)).drop n).map crat := by have := sqq_start (A := A) (c := qv x); rwa [hn] at this
    have he0 : crat 0 = crat (evq (A.drop (n + 1)) (qv x)) := by rw [List.drop_of_length_le (by omega), evq]
    simp (disch := omega) only [wk, tis, Int.reduceNe, Int.reduceEq, Int.reduceLT, Int.reduceLE, Int.reduceAdd, Int.reduceSub, Int.reduceNeg, Int.reduceMul, Int.reduceToNat, Nat.reduceSub, Nat.reduceMul, Nat.reduceLeDiff, Nat.reduceAdd, Nat.reduceLT, Nat.reduceEqDiff, reduceCtorEq, ↓reduceIte, rqs, hq, hn, en]
    refine call_by (hzero_ok) (by first | rfl | (simp only [tocvs, tocv, hq, hn, en]; rfl) | (simp only [tocvs, tocv, toboxes, tobox, updH_at, Nat.reduceEqDiff, ↓reduceIte, hq, hn, en]; rfl)) (by simp) ?_
    simp (disch := omega) only [wk, tis, Int.reduceNe, Int.reduceEq, Int.reduceLT, Int.reduceLE, Int.reduceAdd, Int.reduceSub, Int.reduceNeg, Int.reduceMul, Int.reduceToNat, Nat.reduceSub, Nat.reduceMul, Nat.reduceLeDiff, Nat.reduceAdd, Nat.reduceLT, Nat.reduceEqDiff, reduceCtorEq, ↓reduceIte, rqs, hq, hn, en]
    refine aloop_by (fun f H => ∃ (i st3 st7 st18 : Nat), i ≤ n ∧ f 8 = .iv (.int .i64 i) ∧ f 0 = .iv (.sl (rats (A.map crat))) ∧ f 3 = .hp 3 st3 0 0 ∧ H 3 = .blk false st3 31 3 [qrow x] ∧ f 7 = .hp 7 st7 0 0 ∧ H 7 = .blk false st7 31 3 [qrow (crat (evq (A.drop (i + 1)) (qv x)))] ∧ f 6 = .hs 18 st18 ∧ H 18 = .blk false st18 31 3 (rats (List.replicate i q0 ++ ((sqq A (qv x)).drop i).map crat)) ∧ f 5 = .hp 5 1 0 0 ∧ H 5 = .blk false 1 31 3 [[.bool false, .sl [], .sl []]]) (fun f H => (intAt f 8).toNat) ?_ ?_
    · refine ⟨n, 1, 1, 1, by omega, ?_⟩
      simp (disch := omega) only [wk, tis, Int.reduceNe, Int.reduceEq, Int.reduceLT, Int.reduceLE, Int.reduceAdd, Int.reduceSub, Int.reduceNeg, Int.reduceMul, Int.reduceToNat, Nat.reduceSub, Nat.reduceMul, Nat.reduceLeDiff, Nat.reduceAdd, Nat.reduceLT, Nat.reduceEqDiff, reduceCtorEq, ↓reduceIte, rqs, hq, hn, en, Int.toNat_natCast, ← hs0, ← he0]
    rintro f H ⟨i, st3, st7, st18, hi, hF⟩
    rw [intAt_of hF.1]
    simp (disch := omega) only [wk, tis, Int.reduceNe, Int.reduceEq, Int.reduceLT, Int.reduceLE, Int.reduceAdd, Int.reduceSub, Int.reduceNeg, Int.reduceMul, Int.reduceToNat, Nat.reduceSub, Nat.reduceMul, Nat.reduceLeDiff, Nat.reduceAdd, Nat.reduceLT, Nat.reduceEqDiff, reduceCtorEq, ↓reduceIte, rqs, hF]
    have hcn : ∀ {j : Nat}, j ≤ n → 0 < j + 1 := fun _ => by omega
    refine if_by (fun hlt => ?_) (fun hlt => ?_)
    · obtain ⟨j, rfl⟩ : ∃ j, i = j + 1 := ⟨i - 1, by omega⟩
      have ej : ((j + 1 : Nat) : Int) - 1 = (j : Int) := by omega
      have hlt' : j + 1 < A.length := by omega
      have hc := s.c (j + 1) hlt'
      have z1 := s.e (j + 1 + 1)
      have z2 := s.e (j + 1)
      have zx := qz_raw s.hx s.d
      have zm := qz_mul (evq (A.drop (j + 1 + 1)) (qv x)) (qv x)
      have m := htimes_ok (crat (evq (A.drop (j + 1 + 1)) (qv x))) x (szq_crat (by omega)) (s.hx.mono (by omega)) (nv_crat0 _) s.d
      rw [qv_crat] at m
      have t := hplus_ok (crat (cfq A (j + 1))) (crat (evq (A.drop (j + 1 + 1)) (qv x) * qv x)) (szq_crat (by omega)) (szq_crat (by omega)) (nv_crat0 _) (nv_crat0 _)
      rw [qv_crat, qv_crat, Rat.add_comm, show evq (A.drop (j + 1 + 1)) (qv x) * qv x + cfq A (j + 1) = evq (A.drop (j + 1)) (qv x) from (evq_drop A (qv x) hlt').symm, ← cratq_get hlt'] at t
      have hrl := rep_app_len (j + 1) (A := A) (c := qv x) (by omega)
      have hset := sqq_rep (A := A) (c := qv x) (j := j) (by omega)
      simp (disch := omega) only [wk, tis, Int.reduceNe, Int.reduceEq, Int.reduceLT, Int.reduceLE, Int.reduceAdd, Int.reduceSub, Int.reduceNeg, Int.reduceMul, Int.reduceToNat, Nat.reduceSub, Nat.reduceMul, Nat.reduceLeDiff, Nat.reduceAdd, Nat.reduceLT, Nat.reduceEqDiff, reduceCtorEq, ↓reduceIte, rqs, hF, hq, hrl, ej]
      refine ⟨tmps_by (by kernel_rfl), ?_⟩
      refine call_by (m) (by first | rfl | (simp only [tocvs, tocv, hF, hq, hrl, ej]; rfl) | (simp only [tocvs, tocv, toboxes, tobox, updH_at, Nat.reduceEqDiff, ↓reduceIte, hF, hq, hrl, ej]; rfl)) (by simp) ?_
      simp (disch := omega) only [wk, tis, Int.reduceNe, Int.reduceEq, Int.reduceLT, Int.reduceLE, Int.reduceAdd, Int.reduceSub, Int.reduceNeg, Int.reduceMul, Int.reduceToNat, Nat.reduceSub, Nat.reduceMul, Nat.reduceLeDiff, Nat.reduceAdd, Nat.reduceLT, Nat.reduceEqDiff, reduceCtorEq, ↓reduceIte, rqs, hF, hq, hrl, ej]
      refine call_by (t) (by first | rfl | (simp only [tocvs, tocv, hF, hq, hrl, ej]; rfl) | (simp only [tocvs, tocv, toboxes, tobox, updH_at, Nat.reduceEqDiff, ↓reduceIte, hF, hq, hrl, ej]; rfl)) (by simp) ?_
      simp (disch := omega) only [wk, tis, Int.reduceNe, Int.reduceEq, Int.reduceLT, Int.reduceLE, Int.reduceAdd, Int.reduceSub, Int.reduceNeg, Int.reduceMul, Int.reduceToNat, Nat.reduceSub, Nat.reduceMul, Nat.reduceLeDiff, Nat.reduceAdd, Nat.reduceLT, Nat.reduceEqDiff, reduceCtorEq, ↓reduceIte, rqs, hF, hq, hrl, ej]
      first | exact log_by (by kernel_rfl) | refine ⟨log_by (by kernel_rfl), ?_⟩
      simp (disch := omega) only [wk, tis, Int.reduceNe, Int.reduceEq, Int.reduceLT, Int.reduceLE, Int.reduceAdd, Int.reduceSub, Int.reduceNeg, Int.reduceMul, Int.reduceToNat, Nat.reduceSub, Nat.reduceMul, Nat.reduceLeDiff, Nat.reduceAdd, Nat.reduceLT, Nat.reduceEqDiff, reduceCtorEq, ↓reduceIte, rqs, hF, hq, hrl, ej, hset]
      refine ⟨j, st3, st7, st18, by omega, ?_⟩
      (repeat' apply And.intro) <;> first | rfl | omega
    · have hi0 : i = 0 := by omega
      subst hi0
      rw [List.replicate_zero, List.nil_append, List.drop_zero] at hF
      have h00 : 0 < A.length := by omega
      have m1 := hnormq_ok ((sqq A (qv x)).map crat) ((s.sqb).mono (by omega) (by omega)).gq
      rw [qvs_map] at m1
      have z1 := s.e (0 + 1)
      have hc := s.c 0 h00
      have zx := qz_raw s.hx s.d
      have zm := qz_mul (evq (A.drop (0 + 1)) (qv x)) (qv x)
      have m := htimes_ok (crat (evq (A.drop (0 + 1)) (qv x))) x (szq_crat (by omega)) (s.hx.mono (by omega)) (nv_crat0 _) s.d
      rw [qv_crat] at m
      have t := hplus_ok (crat (cfq A 0)) (crat (evq (A.drop (0 + 1)) (qv x) * qv x)) (szq_crat (by omega)) (szq_crat (by omega)) (nv_crat0 _) (nv_crat0 _)
      rw [qv_crat, qv_crat, Rat.add_comm, show evq (A.drop (0 + 1)) (qv x) * qv x + cfq A 0 = evq (A.drop 0) (qv x) from (evq_drop A (qv x) h00).symm, ← cratq_get h00, List.drop_zero] at t
      simp (disch := omega) only [wk, tis, Int.reduceNe, Int.reduceEq, Int.reduceLT, Int.reduceLE, Int.reduceAdd, Int.reduceSub, Int.reduceNeg, Int.reduceMul, Int.reduceToNat, Nat.reduceSub, Nat.reduceMul, Nat.reduceLeDiff, Nat.reduceAdd, Nat.reduceLT, Nat.reduceEqDiff, reduceCtorEq, ↓reduceIte, rqs, hF, hq]
      refine ⟨tmps_by (by kernel_rfl), ?_⟩
      refine call_by (m1) (by first | rfl | (simp only [tocvs, tocv, hF, hq]; rfl) | (simp only [tocvs, tocv, toboxes, tobox, updH_at, Nat.reduceEqDiff, ↓reduceIte, hF, hq]; rfl)) (by simp) ?_
      simp (disch := omega) only [wk, tis, Int.reduceNe, Int.reduceEq, Int.reduceLT, Int.reduceLE, Int.reduceAdd, Int.reduceSub, Int.reduceNeg, Int.reduceMul, Int.reduceToNat, Nat.reduceSub, Nat.reduceMul, Nat.reduceLeDiff, Nat.reduceAdd, Nat.reduceLT, Nat.reduceEqDiff, reduceCtorEq, ↓reduceIte, rqs, hF, hq]
      refine call_by (m) (by first | rfl | (simp only [tocvs, tocv, hF, hq]; rfl) | (simp only [tocvs, tocv, toboxes, tobox, updH_at, Nat.reduceEqDiff, ↓reduceIte, hF, hq]; rfl)) (by simp) ?_
      simp (disch := omega) only [wk, tis, Int.reduceNe, Int.reduceEq, Int.reduceLT, Int.reduceLE, Int.reduceAdd, Int.reduceSub, Int.reduceNeg, Int.reduceMul, Int.reduceToNat, Nat.reduceSub, Nat.reduceMul, Nat.reduceLeDiff, Nat.reduceAdd, Nat.reduceLT, Nat.reduceEqDiff, reduceCtorEq, ↓reduceIte, rqs, hF, hq]
      refine call_by (t) (by first | rfl | (simp only [tocvs, tocv, hF, hq]; rfl) | (simp only [tocvs, tocv, toboxes, tobox, updH_at, Nat.reduceEqDiff, ↓reduceIte, hF, hq]; rfl)) (by simp) ?_
      simp (disch := omega) only [wk, tis, Int.reduceNe, Int.reduceEq, Int.reduceLT, Int.reduceLE, Int.reduceAdd, Int.reduceSub, Int.reduceNeg, Int.reduceMul, Int.reduceToNat, Nat.reduceSub, Nat.reduceMul, Nat.reduceLeDiff, Nat.reduceAdd, Nat.reduceLT, Nat.reduceEqDiff, reduceCtorEq, ↓reduceIte, rqs, hF, hq]
      first | exact log_by (by kernel_rfl) | refine ⟨log_by (by kernel_rfl), ?_⟩
      try rfl
end Go.Proofs.YtjadkhkgmdikiaaGreat

namespace Go.Proofs.YtjadkhkgmdikiaaGreat
open Go Go.Proofs Go.AL
set_option linter.unusedSimpArgs false
set_option linter.unusedVariables false

theorem esplit_ok (p : List RQ) (x : RQ) (B : Nat) (v : VB p x B) : AC Tryz.prog 24 [cqw p, cqq x] none [cqp (sqq (trimq (qvs p)) (qv x)), cqz (evq (qvs p) (qv x)), ci 0] := by
  have n := qpnorm_ok p (v.hp.mono (by omega) (by have := v.b; omega))
  have o := qcheck_good x ⟨Nat.le_trans v.hx.2.1 (by have := v.b; omega), v.hx.2.2⟩ v.d
  have w := ewhole_ok 0 (by omega) (by omega)
  rw [Rat.intCast_zero] at w
  have s := v.sb
  have hb := s.b
  rw [← evq_trim]
  refine AC.by_walk (rs := [.tmp 4, .cell 5 31, .tmp 6]) ords Tryz.func24 (by rfl) (by rfl) (by rfl) (by rfl) (by rfl) ?_
  simp (disch := omega) only [wk, tis, Int.reduceNe, Int.reduceEq, Int.reduceLT, Int.reduceLE, Int.reduceAdd, Int.reduceSub, Int.reduceNeg, Int.reduceMul, Int.reduceToNat, Nat.reduceSub, Nat.reduceMul, Nat.reduceLeDiff, Nat.reduceAdd, Nat.reduceLT, Nat.reduceEqDiff, reduceCtorEq, ↓reduceIte, rqs]
  refine call_by (n) (by rfl) (by simp) ?_
  simp (disch := omega) only [wk, tis, Int.reduceNe, Int.reduceEq, Int.reduceLT, Int.reduceLE, Int.reduceAdd, Int.reduceSub, Int.reduceNeg, Int.reduceMul, Int.reduceToNat, Nat.reduceSub, Nat.reduceMul, Nat.reduceLeDiff, Nat.reduceAdd, Nat.reduceLT, Nat.reduceEqDiff, reduceCtorEq, ↓reduceIte, rqs]
  refine call_by (o) (by rfl) (by simp) ?_
  simp (disch := omega) only [wk, tis, Int.reduceNe, Int.reduceEq, Int.reduceLT, Int.reduceLE, Int.reduceAdd, Int.reduceSub, Int.reduceNeg, Int.reduceMul, Int.reduceToNat, Nat.reduceSub, Nat.reduceMul, Nat.reduceLeDiff, Nat.reduceAdd, Nat.reduceLT, Nat.reduceEqDiff, reduceCtorEq, ↓reduceIte, rqs]
  unfold cqs
  generalize trimq (qvs p) = A at *
  have hAl := s.l
  have hq : (A.map crat).length = A.length := List.length_map _
  refine if_by (fun h0 => ?_) (fun h0 => ?_)
  · have hA : A = [] := List.length_eq_zero_iff.mp (by rw [hq] at h0; omega)
    subst hA
    simp (disch := omega) only [wk, tis, Int.reduceNe, Int.reduceEq, Int.reduceLT, Int.reduceLE, Int.reduceAdd, Int.reduceSub, Int.reduceNeg, Int.reduceMul, Int.reduceToNat, Nat.reduceSub, Nat.reduceMul, Nat.reduceLeDiff, Nat.reduceAdd, Nat.reduceLT, Nat.reduceEqDiff, reduceCtorEq, ↓reduceIte, rqs]
    refine call_by (w) (by rfl) (by simp) ?_
    simp (disch := omega) only [wk, tis, Int.reduceNe, Int.reduceEq, Int.reduceLT, Int.reduceLE, Int.reduceAdd, Int.reduceSub, Int.reduceNeg, Int.reduceMul, Int.reduceToNat, Nat.reduceSub, Nat.reduceMul, Nat.reduceLeDiff, Nat.reduceAdd, Nat.reduceLT, Nat.reduceEqDiff, reduceCtorEq, ↓reduceIte, rqs]
    exact ⟨rfl, rfl⟩
  · rw [hq] at h0
    obtain ⟨n, hn⟩ : ∃ n, A.length = n + 1 := ⟨A.length - 1, by omega⟩
    have en : ((n + 1 : Nat) : Int) - 1 = (n : Int) := by omega
    have en2 : ((n + 1 : Nat) : Int) - 2 = (n : Int) - 1 := by omega
    have hs0 : List.replicate n q0 = List.replicate n q0 ++ ((sqq A (qv x)).drop n).map crat := by have := sqq_start (A := A) (c := qv x); rwa [hn] at this
    have he0 : (A.map crat).getD n q0 = crat (evq (A.drop n) (qv x)) := by rw [evq_last hn, cratq_get (by omega)]
    simp (disch := omega) only [wk, tis, Int.reduceNe, Int.reduceEq, Int.reduceLT, Int.reduceLE, Int.reduceAdd, Int.reduceSub, Int.reduceNeg, Int.reduceMul, Int.reduceToNat, Nat.reduceSub, Nat.reduceMul, Nat.reduceLeDiff, Nat.reduceAdd, Nat.reduceLT, Nat.reduceEqDiff, reduceCtorEq, ↓reduceIte, rqs, hq, hn, en, en2]
    refine aloop_by (fun f H => ∃ (k st3 st9 st31 : Nat), k ≤ n ∧ f 10 = .iv (.int .i64 ((k : Int) - 1)) ∧ f 0 = .iv (.sl (rats (A.map crat))) ∧ f 3 = .hp 3 st3 0 0 ∧ H 3 = .blk false st3 31 3 [qrow x] ∧ f 9 = .hp 9 st9 0 0 ∧ H 9 = .blk false st9 31 3 [qrow (crat (evq (A.drop k) (qv x)))] ∧ f 8 = .hs 31 st31 ∧ H 31 = .blk false st31 31 3 (rats (List.replicate k q0 ++ ((sqq A (qv x)).drop k).map crat)) ∧ f 5 = .hp 5 1 0 0 ∧ H 5 = .blk false 1 31 3 [[.bool false, .sl [], .sl []]]) (fun f H => (intAt f 10 + 1).toNat) ?_ ?_
    · refine ⟨n, 1, 1, 1, by omega, ?_⟩
      simp (disch := omega) only [wk, tis, Int.reduceNe, Int.reduceEq, Int.reduceLT, Int.reduceLE, Int.reduceAdd, Int.reduceSub, Int.reduceNeg, Int.reduceMul, Int.reduceToNat, Nat.reduceSub, Nat.reduceMul, Nat.reduceLeDiff, Nat.reduceAdd, Nat.reduceLT, Nat.reduceEqDiff, reduceCtorEq, ↓reduceIte, rqs, hq, hn, en, en2, Int.toNat_natCast, ← hs0, he0]
    rintro f H ⟨k, st3, st9, st31, hk, hF⟩
    rw [intAt_of hF.1]
    simp (disch := omega) only [wk, tis, Int.reduceNe, Int.reduceEq, Int.reduceLT, Int.reduceLE, Int.reduceAdd, Int.reduceSub, Int.reduceNeg, Int.reduceMul, Int.reduceToNat, Nat.reduceSub, Nat.reduceMul, Nat.reduceLeDiff, Nat.reduceAdd, Nat.reduceLT, Nat.reduceEqDiff, reduceCtorEq, ↓reduceIte, rqs, hF]
    refine if_by (fun hlt => ?_) (fun hlt => ?_)
    · obtain ⟨j, rfl⟩ : ∃ j, k = j + 1 := ⟨k - 1, by omega⟩
      have ej : ((j + 1 : Nat) : Int) - 1 = (j : Int) := by omega
      rw [ej] at hF
      have hlt' : j < A.length := by omega
      have hc := s.c j hlt'
      have z1 := s.e (j + 1)
      have z2 := s.e j
      have zx := qz_raw s.hx s.d
      have zm := qz_mul (evq (A.drop (j + 1)) (qv x)) (qv x)
      have m := qmul_ok (crat (evq (A.drop (j + 1)) (qv x))) x (szq_crat (by omega)) (s.hx.mono (by omega)) (nv_crat0 _) s.d
      rw [qv_crat] at m
      have t := qadd_ok (crat (evq (A.drop (j + 1)) (qv x) * qv x)) (crat (cfq A j)) (szq_crat (by omega)) (szq_crat (by omega)) (nv_crat0 _) (nv_crat0 _)
      rw [qv_crat, qv_crat, show evq (A.drop (j + 1)) (qv x) * qv x + cfq A j = evq (A.drop j) (qv x) from (evq_drop A (qv x) hlt').symm, ← cratq_get hlt'] at t
      have hrl := rep_app_len (j + 1) (A := A) (c := qv x) (by omega)
      have hset := sqq_rep (A := A) (c := qv x) (j := j) (by omega)
      simp (disch := omega) only [wk, tis, Int.reduceNe, Int.reduceEq, Int.reduceLT, Int.reduceLE, Int.reduceAdd, Int.reduceSub, Int.reduceNeg, Int.reduceMul, Int.reduceToNat, Nat.reduceSub, Nat.reduceMul, Nat.reduceLeDiff, Nat.reduceAdd, Nat.reduceLT, Nat.reduceEqDiff, reduceCtorEq, ↓reduceIte, rqs, hF, hq, hrl, ej, hset]
      refine call_by (m) (by first | rfl | (simp only [tocvs, tocv, hF, hq, hrl, ej, hset]; rfl) | (simp only [tocvs, tocv, toboxes, tobox, updH_at, Nat.reduceEqDiff, ↓reduceIte, hF, hq, hrl, ej, hset]; rfl)) (by simp) ?_
      simp (disch := omega) only [wk, tis, Int.reduceNe, Int.reduceEq, Int.reduceLT, Int.reduceLE, Int.reduceAdd, Int.reduceSub, Int.reduceNeg, Int.reduceMul, Int.reduceToNat, Nat.reduceSub, Nat.reduceMul, Nat.reduceLeDiff, Nat.reduceAdd, Nat.reduceLT, Nat.reduceEqDiff, reduceCtorEq, ↓reduceIte, rqs, hF, hq, hrl, ej, hset]
      refine ⟨tmps_by (by kernel_rfl), ?_⟩
      refine call_by (t) (by first | rfl | (simp only [tocvs, tocv, hF, hq, hrl, ej, hset]; rfl) | (simp only [tocvs, tocv, toboxes, tobox, updH_at, Nat.reduceEqDiff, ↓reduceIte, hF, hq, hrl, ej, hset]; rfl)) (by simp) ?_
      simp (disch := omega) only [wk, tis, Int.reduceNe, Int.reduceEq, Int.reduceLT, Int.reduceLE, Int.reduceAdd, Int.reduceSub, Int.reduceNeg, Int.reduceMul, Int.reduceToNat, Nat.reduceSub, Nat.reduceMul, Nat.reduceLeDiff, Nat.reduceAdd, Nat.reduceLT, Nat.reduceEqDiff, reduceCtorEq, ↓reduceIte, rqs, hF, hq, hrl, ej, hset]
      first | exact log_by (by kernel_rfl) | refine ⟨log_by (by kernel_rfl), ?_⟩
      refine ⟨⟨j, st3, st9, st31, by omega, ?_⟩, by omega⟩
      (repeat' apply And.intro) <;> first | rfl | omega
    · have hi0 : k = 0 := by omega
      subst hi0
      rw [List.replicate_zero, List.nil_append, List.drop_zero, List.drop_zero] at hF
      have m1 := qpnorm_ok ((sqq A (qv x)).map crat) ((s.sqb).mono (by omega) (by omega)).gq
      rw [qvs_map] at m1
      simp (disch := omega) only [wk, tis, Int.reduceNe, Int.reduceEq, Int.reduceLT, Int.reduceLE, Int.reduceAdd, Int.reduceSub, Int.reduceNeg, Int.reduceMul, Int.reduceToNat, Nat.reduceSub, Nat.reduceMul, Nat.reduceLeDiff, Nat.reduceAdd, Nat.reduceLT, Nat.reduceEqDiff, reduceCtorEq, ↓reduceIte, rqs, hF, hq]
      refine call_by (m1) (by first | rfl | (simp only [tocvs, tocv, hF, hq]; rfl) | (simp only [tocvs, tocv, toboxes, tobox, updH_at, Nat.reduceEqDiff, ↓reduceIte, hF, hq]; rfl)) (by simp) ?_
      simp (disch := omega) only [wk, tis, Int.reduceNe, Int.reduceEq, Int.reduceLT, Int.reduceLE, Int.reduceAdd, Int.reduceSub, Int.reduceNeg, Int.reduceMul, Int.reduceToNat, Nat.reduceSub, Nat.reduceMul, Nat.reduceLeDiff, Nat.reduceAdd, Nat.reduceLT, Nat.reduceEqDiff, reduceCtorEq, ↓reduceIte, rqs, hF, hq]
      refine ⟨tmps_by (by kernel_rfl), ?_⟩
      first | exact log_by (by kernel_rfl) | refine ⟨log_by (by kernel_rfl), ?_⟩
      try rfl

theorem esplit_bad (p : List RQ) (x : RQ) (hp : BQ (2 ^ 40) (2 ^ 38) p) (hx : SzQ (2 ^ 38) x) (h : gd p = false ∨ nv x.2 = 0) : AC Tryz.prog 24 [cqw p, cqq x] none [cqw [], cqq q0, ci 1] := by
  refine AC.by_walk (rs := [.tmp 4, .cell 5 31, .tmp 6]) ords Tryz.func24 (by rfl) (by rfl) (by rfl) (by rfl) (by rfl) ?_
  simp (disch := omega) only [wk, tis, Int.reduceNe, Int.reduceEq, Int.reduceLT, Int.reduceLE, Int.reduceAdd, Int.reduceSub, Int.reduceNeg, Int.reduceMul, Int.reduceToNat, Nat.reduceSub, Nat.reduceMul, Nat.reduceLeDiff, Nat.reduceAdd, Nat.reduceLT, Nat.reduceEqDiff, reduceCtorEq, ↓reduceIte, rqs]
  cases hg : gd p with
  | false =>
    have n := qpnorm_bad p hp hg
    refine call_by (n) (by rfl) (by simp) ?_
    simp (disch := omega) only [wk, tis, Int.reduceNe, Int.reduceEq, Int.reduceLT, Int.reduceLE, Int.reduceAdd, Int.reduceSub, Int.reduceNeg, Int.reduceMul, Int.reduceToNat, Nat.reduceSub, Nat.reduceMul, Nat.reduceLeDiff, Nat.reduceAdd, Nat.reduceLT, Nat.reduceEqDiff, reduceCtorEq, ↓reduceIte, rqs]
    try rfl
  | true =>
    have h0 : nv x.2 = 0 := h.resolve_left (by rw [hg]; decide)
    have n := qpnorm_ok p (hp.gq hg)
    have o := qcheck_bad x ⟨Nat.le_trans hx.2.1 (by omega), hx.2.2⟩ h0
    refine call_by (n) (by rfl) (by simp) ?_
    simp (disch := omega) only [wk, tis, Int.reduceNe, Int.reduceEq, Int.reduceLT, Int.reduceLE, Int.reduceAdd, Int.reduceSub, Int.reduceNeg, Int.reduceMul, Int.reduceToNat, Nat.reduceSub, Nat.reduceMul, Nat.reduceLeDiff, Nat.reduceAdd, Nat.reduceLT, Nat.reduceEqDiff, reduceCtorEq, ↓reduceIte, rqs]
    refine call_by (o) (by rfl) (by simp) ?_
    simp (disch := omega) only [wk, tis, Int.reduceNe, Int.reduceEq, Int.reduceLT, Int.reduceLE, Int.reduceAdd, Int.reduceSub, Int.reduceNeg, Int.reduceMul, Int.reduceToNat, Nat.reduceSub, Nat.reduceMul, Nat.reduceLeDiff, Nat.reduceAdd, Nat.reduceLT, Nat.reduceEqDiff, reduceCtorEq, ↓reduceIte, rqs]
    try rfl

theorem hSplit_ok (p : List RQ) (x : RQ) (B : Nat) (v : VB p x B) : AC Tryz.prog 22 [cqw p, cqq x] none [cqp (sqq (trimq (qvs p)) (qv x)), cqz (evq (qvs p) (qv x)), ci 0] := by
  have hb := v.b
  have g := hgood_ok p (v.hp.bq.mono (by omega) (by omega))
  rw [v.hp.gd] at g
  have o := hok_ok x ⟨Nat.le_trans v.hx.2.1 (by omega), v.hx.2.2⟩
  rw [decide_eq_true v.d] at o
  have m := hsplit_ok p x B v
  refine AC.by_walk (rs := [.tmp 4, .cell 5 31, .tmp 6]) ords Tryz.func22 (by rfl) (by rfl) (by rfl) (by rfl) (by rfl) ?_
  simp (disch := omega) only [wk, tis, Int.reduceNe, Int.reduceEq, Int.reduceLT, Int.reduceLE, Int.reduceAdd, Int.reduceSub, Int.reduceNeg, Int.reduceMul, Int.reduceToNat, Nat.reduceSub, Nat.reduceMul, Nat.reduceLeDiff, Nat.reduceAdd, Nat.reduceLT, Nat.reduceEqDiff, reduceCtorEq, ↓reduceIte, rqs]
  refine call_by (g) (by rfl) (by simp) ?_
  simp (disch := omega) only [wk, tis, Int.reduceNe, Int.reduceEq, Int.reduceLT, Int.reduceLE, Int.reduceAdd, Int.reduceSub, Int.reduceNeg, Int.reduceMul, Int.reduceToNat, Nat.reduceSub, Nat.reduceMul, Nat.reduceLeDiff, Nat.reduceAdd, Nat.reduceLT, Nat.reduceEqDiff, reduceCtorEq, ↓reduceIte, rqs]
  refine call_by (o) (by rfl) (by simp) ?_
  simp (disch := omega) only [wk, tis, Int.reduceNe, Int.reduceEq, Int.reduceLT, Int.reduceLE, Int.reduceAdd, Int.reduceSub, Int.reduceNeg, Int.reduceMul, Int.reduceToNat, Nat.reduceSub, Nat.reduceMul, Nat.reduceLeDiff, Nat.reduceAdd, Nat.reduceLT, Nat.reduceEqDiff, reduceCtorEq, ↓reduceIte, rqs]
  refine call_by (m) (by rfl) (by simp) ?_
  simp (disch := omega) only [wk, tis, Int.reduceNe, Int.reduceEq, Int.reduceLT, Int.reduceLE, Int.reduceAdd, Int.reduceSub, Int.reduceNeg, Int.reduceMul, Int.reduceToNat, Nat.reduceSub, Nat.reduceMul, Nat.reduceLeDiff, Nat.reduceAdd, Nat.reduceLT, Nat.reduceEqDiff, reduceCtorEq, ↓reduceIte, rqs]
  refine ⟨tmps_by (by kernel_rfl), ?_⟩
  first | exact log_by (by kernel_rfl) | refine ⟨log_by (by kernel_rfl), ?_⟩
  try rfl

theorem hSplit_bad (p : List RQ) (x : RQ) (hp : BQ (2 ^ 40) (2 ^ 38) p) (hx : SzQ (2 ^ 38) x) (h : gd p = false ∨ nv x.2 = 0) : AC Tryz.prog 22 [cqw p, cqq x] none [cqw [], cqq q0, ci 1] := by
  have g := hgood_ok p hp
  have o := hok_ok x ⟨Nat.le_trans hx.2.1 (by omega), hx.2.2⟩
  refine AC.by_walk (rs := [.tmp 4, .cell 5 31, .tmp 6]) ords Tryz.func22 (by rfl) (by rfl) (by rfl) (by rfl) (by rfl) ?_
  simp (disch := omega) only [wk, tis, Int.reduceNe, Int.reduceEq, Int.reduceLT, Int.reduceLE, Int.reduceAdd, Int.reduceSub, Int.reduceNeg, Int.reduceMul, Int.reduceToNat, Nat.reduceSub, Nat.reduceMul, Nat.reduceLeDiff, Nat.reduceAdd, Nat.reduceLT, Nat.reduceEqDiff, reduceCtorEq, ↓reduceIte, rqs]
  cases hg : gd p with
  | false =>
    rw [hg] at g
    refine call_by (g) (by rfl) (by simp) ?_
    simp (disch := omega) only [wk, tis, Int.reduceNe, Int.reduceEq, Int.reduceLT, Int.reduceLE, Int.reduceAdd, Int.reduceSub, Int.reduceNeg, Int.reduceMul, Int.reduceToNat, Nat.reduceSub, Nat.reduceMul, Nat.reduceLeDiff, Nat.reduceAdd, Nat.reduceLT, Nat.reduceEqDiff, reduceCtorEq, ↓reduceIte, rqs]
    try rfl
  | true =>
    rw [hg] at g
    have h0 : nv x.2 = 0 := h.resolve_left (by rw [hg]; decide)
    rw [decide_eq_false (fun h => h h0)] at o
    refine call_by (g) (by rfl) (by simp) ?_
    simp (disch := omega) only [wk, tis, Int.reduceNe, Int.reduceEq, Int.reduceLT, Int.reduceLE, Int.reduceAdd, Int.reduceSub, Int.reduceNeg, Int.reduceMul, Int.reduceToNat, Nat.reduceSub, Nat.reduceMul, Nat.reduceLeDiff, Nat.reduceAdd, Nat.reduceLT, Nat.reduceEqDiff, reduceCtorEq, ↓reduceIte, rqs]
    refine call_by (o) (by rfl) (by simp) ?_
    simp (disch := omega) only [wk, tis, Int.reduceNe, Int.reduceEq, Int.reduceLT, Int.reduceLE, Int.reduceAdd, Int.reduceSub, Int.reduceNeg, Int.reduceMul, Int.reduceToNat, Nat.reduceSub, Nat.reduceMul, Nat.reduceLeDiff, Nat.reduceAdd, Nat.reduceLT, Nat.reduceEqDiff, reduceCtorEq, ↓reduceIte, rqs]
    try rfl

/-- What the rounds of Times need. -/
structure TB (A : List Rat) (x : RQ) (n : Nat) : Prop where
  t : trimq A = A
  l : A.length ≤ 2 ^ 30
  n0 : A.length ≠ 0
  z : ∀ j, j < n → evq (qit A (qv x) j) (qv x) = 0
  e : evq (qit A (qv x) n) (qv x) ≠ 0
  v : ∀ k, k ≤ n → VB ((qit A (qv x) k).map crat) x (2 ^ 34)
theorem TB.le {A : List Rat} {x : RQ} {n : Nat} (h : TB A x n) {k : Nat} (hk : k ≤ n) : (qit A (qv x) k).length + k = A.length ∧ (qit A (qv x) k).length ≠ 0 ∧ trimq (qit A (qv x) k) = qit A (qv x) k :=
  qit_len h.t h.n0 k fun j hj => h.z j (by omega)
theorem cqp_sqq (q : List Rat) (c : Rat) (k : Nat) (h : trimq (qit q c k) = qit q c k) : cqs (sqq (trimq (qvs ((qit q c k).map crat))) c) = (qit q c (k + 1)).map crat := by
  rw [qvs_map, h]; rfl

theorem etimes_ok (p : List RQ) (x : RQ) (n : Nat) (hp : GQ (2 ^ 40) (2 ^ 38) p) (hx : SzQ (2 ^ 34) x) (h0 : nv x.2 ≠ 0) (h : TB (trimq (qvs p)) x n) : AC Tryz.prog 26 [cqw p, cqq x] none [ci n, ci 0] := by
  have nm := qpnorm_ok p hp
  have o := qcheck_good x ⟨Nat.le_trans hx.2.1 (by omega), hx.2.2⟩ h0
  have hle : ∀ {k}, k ≤ n → k < 2 ^ 30 + 1 := fun {k} hk => by have := (h.le hk).1; have := h.l; omega
  refine AC.by_walk (rs := [.tmp 4, .tmp 5]) ords Tryz.func26 (by rfl) (by rfl) (by rfl) (by rfl) (by rfl) ?_
  simp (disch := omega) only [wk, tis, Int.reduceNe, Int.reduceEq, Int.reduceLT, Int.reduceLE, Int.reduceAdd, Int.reduceSub, Int.reduceNeg, Int.reduceMul, Int.reduceToNat, Nat.reduceSub, Nat.reduceMul, Nat.reduceLeDiff, Nat.reduceAdd, Nat.reduceLT, Nat.reduceEqDiff, reduceCtorEq, ↓reduceIte, rqs]
  refine call_by (nm) (by rfl) (by simp) ?_
  simp (disch := omega) only [wk, tis, Int.reduceNe, Int.reduceEq, Int.reduceLT, Int.reduceLE, Int.reduceAdd, Int.reduceSub, Int.reduceNeg, Int.reduceMul, Int.reduceToNat, Nat.reduceSub, Nat.reduceMul, Nat.reduceLeDiff, Nat.reduceAdd, Nat.reduceLT, Nat.reduceEqDiff, reduceCtorEq, ↓reduceIte, rqs]
  refine call_by (o) (by rfl) (by simp) ?_
  simp (disch := omega) only [wk, tis, Int.reduceNe, Int.reduceEq, Int.reduceLT, Int.reduceLE, Int.reduceAdd, Int.reduceSub, Int.reduceNeg, Int.reduceMul, Int.reduceToNat, Nat.reduceSub, Nat.reduceMul, Nat.reduceLeDiff, Nat.reduceAdd, Nat.reduceLT, Nat.reduceEqDiff, reduceCtorEq, ↓reduceIte, rqs]
  have hn0 := h.n0
  unfold cqs
  generalize trimq (qvs p) = A at *
  have hq : ((A.map crat).length : Int) = (A.length : Int) := by rw [List.length_map]
  have hz : ¬ ((A.map crat).length : Int) = 0 := by omega
  simp (disch := omega) only [wk, tis, Int.reduceNe, Int.reduceEq, Int.reduceLT, Int.reduceLE, Int.reduceAdd, Int.reduceSub, Int.reduceNeg, Int.reduceMul, Int.reduceToNat, Nat.reduceSub, Nat.reduceMul, Nat.reduceLeDiff, Nat.reduceAdd, Nat.reduceLT, Nat.reduceEqDiff, reduceCtorEq, ↓reduceIte, rqs, hz]
  refine aloop_by (fun f H => ∃ (k st3 : Nat), k ≤ n ∧ f 7 = .iv (.int .i64 k) ∧ f 0 = .iv (.sl (rats ((qit A (qv x) k).map crat))) ∧ f 3 = .hp 3 st3 0 0 ∧ H 3 = .blk false st3 31 3 [qrow x]) (fun f H => (n + 1 - intAt f 7).toNat) ?_ ?_
  · refine ⟨0, 1, by omega, ?_⟩
    simp (disch := omega) only [wk, tis, Int.reduceNe, Int.reduceEq, Int.reduceLT, Int.reduceLE, Int.reduceAdd, Int.reduceSub, Int.reduceNeg, Int.reduceMul, Int.reduceToNat, Nat.reduceSub, Nat.reduceMul, Nat.reduceLeDiff, Nat.reduceAdd, Nat.reduceLT, Nat.reduceEqDiff, reduceCtorEq, ↓reduceIte, rqs, qit]
  rintro f H ⟨k, st3, hk, hF⟩
  rw [intAt_of hF.1]
  simp (disch := omega) only [wk, tis, Int.reduceNe, Int.reduceEq, Int.reduceLT, Int.reduceLE, Int.reduceAdd, Int.reduceSub, Int.reduceNeg, Int.reduceMul, Int.reduceToNat, Nat.reduceSub, Nat.reduceMul, Nat.reduceLeDiff, Nat.reduceAdd, Nat.reduceLT, Nat.reduceEqDiff, reduceCtorEq, ↓reduceIte, rqs, hF]
  have v := h.v k hk
  have hb := v.b
  have hlk := hle hk
  obtain ⟨l1, l2, l3⟩ := h.le hk
  have m := esplit_ok ((qit A (qv x) k).map crat) x _ v
  rw [show cqp (sqq (trimq (qvs ((qit A (qv x) k).map crat))) (qv x)) = cqw ((qit A (qv x) (k + 1)).map crat) from congrArg cqw (cqp_sqq A (qv x) k l3), qvs_map] at m
  have ze := v.e (qit A (qv x) k) (by rw [List.length_map]; omega) (by rw [qvs_map]; exact fun c hc => hc)
  have s := qsign_ok (crat (evq (qit A (qv x) k) (qv x))) (szq_crat (by omega)) (nv_crat0 _)
  rw [sgq_qv (nv_crat0 _), qv_crat] at s
  refine call_by (m) (by first | rfl | (simp only [tocvs, tocv, hF]; rfl) | (simp only [tocvs, tocv, toboxes, tobox, updH_at, Nat.reduceEqDiff, ↓reduceIte, hF]; rfl)) (by simp) ?_
  simp (disch := omega) only [wk, tis, Int.reduceNe, Int.reduceEq, Int.reduceLT, Int.reduceLE, Int.reduceAdd, Int.reduceSub, Int.reduceNeg, Int.reduceMul, Int.reduceToNat, Nat.reduceSub, Nat.reduceMul, Nat.reduceLeDiff, Nat.reduceAdd, Nat.reduceLT, Nat.reduceEqDiff, reduceCtorEq, ↓reduceIte, rqs, hF]
  by_cases hkn : k < n
  · rw [h.z k hkn, sgq_zero] at s
    have hz0 := h.z k hkn
    simp (disch := omega) only [wk, tis, Int.reduceNe, Int.reduceEq, Int.reduceLT, Int.reduceLE, Int.reduceAdd, Int.reduceSub, Int.reduceNeg, Int.reduceMul, Int.reduceToNat, Nat.reduceSub, Nat.reduceMul, Nat.reduceLeDiff, Nat.reduceAdd, Nat.reduceLT, Nat.reduceEqDiff, reduceCtorEq, ↓reduceIte, rqs, hF, hz0]
    refine call_by (s) (by first | rfl | (simp only [tocvs, tocv, hF, hz0]; rfl) | (simp only [tocvs, tocv, toboxes, tobox, updH_at, Nat.reduceEqDiff, ↓reduceIte, hF, hz0]; rfl)) (by simp) ?_
    simp (disch := omega) only [wk, tis, Int.reduceNe, Int.reduceEq, Int.reduceLT, Int.reduceLE, Int.reduceAdd, Int.reduceSub, Int.reduceNeg, Int.reduceMul, Int.reduceToNat, Nat.reduceSub, Nat.reduceMul, Nat.reduceLeDiff, Nat.reduceAdd, Nat.reduceLT, Nat.reduceEqDiff, reduceCtorEq, ↓reduceIte, rqs, hF, hz0]
    refine ⟨⟨k + 1, st3, by omega, ?_⟩, by omega⟩
    (repeat' apply And.intro) <;> first | rfl | omega
  · obtain rfl : k = n := by omega
    have hne : ¬ sgq (evq (qit A (qv x) k) (qv x)) = 0 := fun e => h.e (sgq_eq_zero.mp e)
    refine call_by (s) (by first | rfl | (simp only [tocvs, tocv, hF, hne]; rfl) | (simp only [tocvs, tocv, toboxes, tobox, updH_at, Nat.reduceEqDiff, ↓reduceIte, hF, hne]; rfl)) (by simp) ?_
    simp (disch := omega) only [wk, tis, Int.reduceNe, Int.reduceEq, Int.reduceLT, Int.reduceLE, Int.reduceAdd, Int.reduceSub, Int.reduceNeg, Int.reduceMul, Int.reduceToNat, Nat.reduceSub, Nat.reduceMul, Nat.reduceLeDiff, Nat.reduceAdd, Nat.reduceLT, Nat.reduceEqDiff, reduceCtorEq, ↓reduceIte, rqs, hF, hne]
    try rfl

theorem etimes_bad (p : List RQ) (x : RQ) (hp : BQ (2 ^ 40) (2 ^ 38) p) (hx : SzQ (2 ^ 38) x) (h : gd p = false ∨ nv x.2 = 0 ∨ trimq (qvs p) = []) : AC Tryz.prog 26 [cqw p, cqq x] none [ci 0, ci 1] := by
  refine AC.by_walk (rs := [.tmp 4, .tmp 5]) ords Tryz.func26 (by rfl) (by rfl) (by rfl) (by rfl) (by rfl) ?_
  simp (disch := omega) only [wk, tis, Int.reduceNe, Int.reduceEq, Int.reduceLT, Int.reduceLE, Int.reduceAdd, Int.reduceSub, Int.reduceNeg, Int.reduceMul, Int.reduceToNat, Nat.reduceSub, Nat.reduceMul, Nat.reduceLeDiff, Nat.reduceAdd, Nat.reduceLT, Nat.reduceEqDiff, reduceCtorEq, ↓reduceIte, rqs]
  cases hg : gd p with
  | false =>
    have n := qpnorm_bad p hp hg
    refine call_by (n) (by rfl) (by simp) ?_
    simp (disch := omega) only [wk, tis, Int.reduceNe, Int.reduceEq, Int.reduceLT, Int.reduceLE, Int.reduceAdd, Int.reduceSub, Int.reduceNeg, Int.reduceMul, Int.reduceToNat, Nat.reduceSub, Nat.reduceMul, Nat.reduceLeDiff, Nat.reduceAdd, Nat.reduceLT, Nat.reduceEqDiff, reduceCtorEq, ↓reduceIte, rqs]
    try rfl
  | true =>
    have n := qpnorm_ok p (hp.gq hg)
    have h' := h.resolve_left (by rw [hg]; decide)
    refine call_by (n) (by rfl) (by simp) ?_
    simp (disch := omega) only [wk, tis, Int.reduceNe, Int.reduceEq, Int.reduceLT, Int.reduceLE, Int.reduceAdd, Int.reduceSub, Int.reduceNeg, Int.reduceMul, Int.reduceToNat, Nat.reduceSub, Nat.reduceMul, Nat.reduceLeDiff, Nat.reduceAdd, Nat.reduceLT, Nat.reduceEqDiff, reduceCtorEq, ↓reduceIte, rqs]
    by_cases h0 : nv x.2 = 0
    · have o := qcheck_bad x ⟨Nat.le_trans hx.2.1 (by omega), hx.2.2⟩ h0
      refine call_by (o) (by rfl) (by simp) ?_
      simp (disch := omega) only [wk, tis, Int.reduceNe, Int.reduceEq, Int.reduceLT, Int.reduceLE, Int.reduceAdd, Int.reduceSub, Int.reduceNeg, Int.reduceMul, Int.reduceToNat, Nat.reduceSub, Nat.reduceMul, Nat.reduceLeDiff, Nat.reduceAdd, Nat.reduceLT, Nat.reduceEqDiff, reduceCtorEq, ↓reduceIte, rqs]
      try rfl
    · have o := qcheck_good x ⟨Nat.le_trans hx.2.1 (by omega), hx.2.2⟩ h0
      have h1 : cqs (qvs p) = [] := by rw [cqs, h'.resolve_left h0]; rfl
      rw [h1]
      refine call_by (o) (by rfl) (by simp) ?_
      simp (disch := omega) only [wk, tis, Int.reduceNe, Int.reduceEq, Int.reduceLT, Int.reduceLE, Int.reduceAdd, Int.reduceSub, Int.reduceNeg, Int.reduceMul, Int.reduceToNat, Nat.reduceSub, Nat.reduceMul, Nat.reduceLeDiff, Nat.reduceAdd, Nat.reduceLT, Nat.reduceEqDiff, reduceCtorEq, ↓reduceIte, rqs]
      try rfl

theorem htimes12_ok (p : List RQ) (x : RQ) (n : Nat) (hp : GQ (2 ^ 40) (2 ^ 38) p) (hv : VB p x (2 ^ 34)) (hx : SzQ (2 ^ 34) x) (h0 : nv x.2 ≠ 0) (h : TB (trimq (qvs p)) x n) : AC Tryz.prog 23 [cqw p, cqq x] none [ci n, ci 0] := by
  have nm := hnormq_ok p hp
  have g := hgood_ok p hp.bq
  rw [hp.gd] at g
  have o := hok_ok x ⟨Nat.le_trans hx.2.1 (by omega), hx.2.2⟩
  rw [decide_eq_true h0] at o
  have m0 := hsplit_ok p x _ hv
  rw [show cqp (sqq (trimq (qvs p)) (qv x)) = cqw ((qit (trimq (qvs p)) (qv x) 1).map crat) from rfl, ← evq_trim] at m0
  have hle : ∀ {k}, k ≤ n → k < 2 ^ 30 + 1 := fun {k} hk => by have := (h.le hk).1; have := h.l; omega
  refine AC.by_walk (rs := [.tmp 4, .tmp 5]) ords Tryz.func23 (by rfl) (by rfl) (by rfl) (by rfl) (by rfl) ?_
  simp (disch := omega) only [wk, tis, Int.reduceNe, Int.reduceEq, Int.reduceLT, Int.reduceLE, Int.reduceAdd, Int.reduceSub, Int.reduceNeg, Int.reduceMul, Int.reduceToNat, Nat.reduceSub, Nat.reduceMul, Nat.reduceLeDiff, Nat.reduceAdd, Nat.reduceLT, Nat.reduceEqDiff, reduceCtorEq, ↓reduceIte, rqs]
  refine call_by (g) (by rfl) (by simp) ?_
  simp (disch := omega) only [wk, tis, Int.reduceNe, Int.reduceEq, Int.reduceLT, Int.reduceLE, Int.reduceAdd, Int.reduceSub, Int.reduceNeg, Int.reduceMul, Int.reduceToNat, Nat.reduceSub, Nat.reduceMul, Nat.reduceLeDiff, Nat.reduceAdd, Nat.reduceLT, Nat.reduceEqDiff, reduceCtorEq, ↓reduceIte, rqs]
  refine call_by (o) (by rfl) (by simp) ?_
  simp (disch := omega) only [wk, tis, Int.reduceNe, Int.reduceEq, Int.reduceLT, Int.reduceLE, Int.reduceAdd, Int.reduceSub, Int.reduceNeg, Int.reduceMul, Int.reduceToNat, Nat.reduceSub, Nat.reduceMul, Nat.reduceLeDiff, Nat.reduceAdd, Nat.reduceLT, Nat.reduceEqDiff, reduceCtorEq, ↓reduceIte, rqs]
  refine call_by (nm) (by rfl) (by simp) ?_
  simp (disch := omega) only [wk, tis, Int.reduceNe, Int.reduceEq, Int.reduceLT, Int.reduceLE, Int.reduceAdd, Int.reduceSub, Int.reduceNeg, Int.reduceMul, Int.reduceToNat, Nat.reduceSub, Nat.reduceMul, Nat.reduceLeDiff, Nat.reduceAdd, Nat.reduceLT, Nat.reduceEqDiff, reduceCtorEq, ↓reduceIte, rqs]
  have hn0 := h.n0
  unfold cqs
  generalize trimq (qvs p) = A at *
  have hq : ((A.map crat).length : Int) = (A.length : Int) := by rw [List.length_map]
  have hz : ¬ ((A.map crat).length : Int) = 0 := by omega
  simp (disch := omega) only [wk, tis, Int.reduceNe, Int.reduceEq, Int.reduceLT, Int.reduceLE, Int.reduceAdd, Int.reduceSub, Int.reduceNeg, Int.reduceMul, Int.reduceToNat, Nat.reduceSub, Nat.reduceMul, Nat.reduceLeDiff, Nat.reduceAdd, Nat.reduceLT, Nat.reduceEqDiff, reduceCtorEq, ↓reduceIte, rqs, hz]
  refine call_by (m0) (by rfl) (by simp) ?_
  simp (disch := omega) only [wk, tis, Int.reduceNe, Int.reduceEq, Int.reduceLT, Int.reduceLE, Int.reduceAdd, Int.reduceSub, Int.reduceNeg, Int.reduceMul, Int.reduceToNat, Nat.reduceSub, Nat.reduceMul, Nat.reduceLeDiff, Nat.reduceAdd, Nat.reduceLT, Nat.reduceEqDiff, reduceCtorEq, ↓reduceIte, rqs]
  refine aloop_by (fun f H => ∃ (k st3 st8 : Nat), k ≤ n ∧ f 6 = .iv (.int .i64 k) ∧ f 7 = .iv (.sl (rats ((qit A (qv x) (k + 1)).map crat))) ∧ f 3 = .hp 3 st3 0 0 ∧ H 3 = .blk false st3 31 3 [qrow x] ∧ f 8 = .hp 8 st8 0 0 ∧ H 8 = .blk false st8 31 3 [qrow (crat (evq (qit A (qv x) k) (qv x)))]) (fun f H => (n + 1 - intAt f 6).toNat) ?_ ?_
  · refine ⟨0, 1, 1, by omega, ?_⟩
    simp (disch := omega) only [wk, tis, Int.reduceNe, Int.reduceEq, Int.reduceLT, Int.reduceLE, Int.reduceAdd, Int.reduceSub, Int.reduceNeg, Int.reduceMul, Int.reduceToNat, Nat.reduceSub, Nat.reduceMul, Nat.reduceLeDiff, Nat.reduceAdd, Nat.reduceLT, Nat.reduceEqDiff, reduceCtorEq, ↓reduceIte, rqs, qit, Nat.zero_add]
  rintro f H ⟨k, st3, st8, hk, hF⟩
  rw [intAt_of hF.1]
  simp (disch := omega) only [wk, tis, Int.reduceNe, Int.reduceEq, Int.reduceLT, Int.reduceLE, Int.reduceAdd, Int.reduceSub, Int.reduceNeg, Int.reduceMul, Int.reduceToNat, Nat.reduceSub, Nat.reduceMul, Nat.reduceLeDiff, Nat.reduceAdd, Nat.reduceLT, Nat.reduceEqDiff, reduceCtorEq, ↓reduceIte, rqs, hF]
  have v := h.v k hk
  have hb := v.b
  have hlk := hle hk
  obtain ⟨l1, l2, l3⟩ := h.le hk
  have ze := v.e (qit A (qv x) k) (by rw [List.length_map]; omega) (by rw [qvs_map]; exact fun c hc => hc)
  have s := hS_ok (crat (evq (qit A (qv x) k) (qv x))) ((szq_crat (k := 2 ^ 40) (by omega)).1)
  rw [sgq_qv (nv_crat0 _), qv_crat] at s
  by_cases hkn : k < n
  · have v2 := h.v (k + 1) (by omega)
    have l3' := (h.le (k := k + 1) (by omega)).2.2
    have m := hsplit_ok ((qit A (qv x) (k + 1)).map crat) x _ v2
    rw [show cqp (sqq (trimq (qvs ((qit A (qv x) (k + 1)).map crat))) (qv x)) = cqw ((qit A (qv x) (k + 1 + 1)).map crat) from congrArg cqw (cqp_sqq A (qv x) (k + 1) l3'), qvs_map] at m
    rw [h.z k hkn, sgq_zero] at s
    have hz0 := h.z k hkn
    simp (disch := omega) only [wk, tis, Int.reduceNe, Int.reduceEq, Int.reduceLT, Int.reduceLE, Int.reduceAdd, Int.reduceSub, Int.reduceNeg, Int.reduceMul, Int.reduceToNat, Nat.reduceSub, Nat.reduceMul, Nat.reduceLeDiff, Nat.reduceAdd, Nat.reduceLT, Nat.reduceEqDiff, reduceCtorEq, ↓reduceIte, rqs, hF, hz0]
    refine call_by (s) (by first | rfl | (simp only [tocvs, tocv, hF, hz0]; rfl) | (simp only [tocvs, tocv, toboxes, tobox, updH_at, Nat.reduceEqDiff, ↓reduceIte, hF, hz0]; rfl)) (by simp) ?_
    simp (disch := omega) only [wk, tis, Int.reduceNe, Int.reduceEq, Int.reduceLT, Int.reduceLE, Int.reduceAdd, Int.reduceSub, Int.reduceNeg, Int.reduceMul, Int.reduceToNat, Nat.reduceSub, Nat.reduceMul, Nat.reduceLeDiff, Nat.reduceAdd, Nat.reduceLT, Nat.reduceEqDiff, reduceCtorEq, ↓reduceIte, rqs, hF, hz0]
    refine call_by (m) (by first | rfl | (simp only [tocvs, tocv, hF, hz0]; rfl) | (simp only [tocvs, tocv, toboxes, tobox, updH_at, Nat.reduceEqDiff, ↓reduceIte, hF, hz0]; rfl)) (by simp) ?_
    simp (disch := omega) only [wk, tis, Int.reduceNe, Int.reduceEq, Int.reduceLT, Int.reduceLE, Int.reduceAdd, Int.reduceSub, Int.reduceNeg, Int.reduceMul, Int.reduceToNat, Nat.reduceSub, Nat.reduceMul, Nat.reduceLeDiff, Nat.reduceAdd, Nat.reduceLT, Nat.reduceEqDiff, reduceCtorEq, ↓reduceIte, rqs, hF, hz0]
    refine ⟨⟨k + 1, st3, st8, by omega, ?_⟩, by omega⟩
    (repeat' apply And.intro) <;> first | rfl | omega
  · obtain rfl : k = n := by omega
    have hne : ¬ sgq (evq (qit A (qv x) k) (qv x)) = 0 := fun e => h.e (sgq_eq_zero.mp e)
    refine call_by (s) (by first | rfl | (simp only [tocvs, tocv, hF, hne]; rfl) | (simp only [tocvs, tocv, toboxes, tobox, updH_at, Nat.reduceEqDiff, ↓reduceIte, hF, hne]; rfl)) (by simp) ?_
    simp (disch := omega) only [wk, tis, Int.reduceNe, Int.reduceEq, Int.reduceLT, Int.reduceLE, Int.reduceAdd, Int.reduceSub, Int.reduceNeg, Int.reduceMul, Int.reduceToNat, Nat.reduceSub, Nat.reduceMul, Nat.reduceLeDiff, Nat.reduceAdd, Nat.reduceLT, Nat.reduceEqDiff, reduceCtorEq, ↓reduceIte, rqs, hF, hne]
    try rfl

theorem htimes12_bad (p : List RQ) (x : RQ) (hp : BQ (2 ^ 40) (2 ^ 38) p) (hx : SzQ (2 ^ 38) x) (h : gd p = false ∨ nv x.2 = 0 ∨ trimq (qvs p) = []) : AC Tryz.prog 23 [cqw p, cqq x] none [ci 0, ci 1] := by
  have g := hgood_ok p hp
  have o := hok_ok x ⟨Nat.le_trans hx.2.1 (by omega), hx.2.2⟩
  refine AC.by_walk (rs := [.tmp 4, .tmp 5]) ords Tryz.func23 (by rfl) (by rfl) (by rfl) (by rfl) (by rfl) ?_
  simp (disch := omega) only [wk, tis, Int.reduceNe, Int.reduceEq, Int.reduceLT, Int.reduceLE, Int.reduceAdd, Int.reduceSub, Int.reduceNeg, Int.reduceMul, Int.reduceToNat, Nat.reduceSub, Nat.reduceMul, Nat.reduceLeDiff, Nat.reduceAdd, Nat.reduceLT, Nat.reduceEqDiff, reduceCtorEq, ↓reduceIte, rqs]
  cases hg : gd p with
  | false =>
    rw [hg] at g
    refine call_by (g) (by rfl) (by simp) ?_
    simp (disch := omega) only [wk, tis, Int.reduceNe, Int.reduceEq, Int.reduceLT, Int.reduceLE, Int.reduceAdd, Int.reduceSub, Int.reduceNeg, Int.reduceMul, Int.reduceToNat, Nat.reduceSub, Nat.reduceMul, Nat.reduceLeDiff, Nat.reduceAdd, Nat.reduceLT, Nat.reduceEqDiff, reduceCtorEq, ↓reduceIte, rqs]
    try rfl
  | true =>
    rw [hg] at g
    have n := hnormq_ok p (hp.gq hg)
    have h' := h.resolve_left (by rw [hg]; decide)
    refine call_by (g) (by rfl) (by simp) ?_
    simp (disch := omega) only [wk, tis, Int.reduceNe, Int.reduceEq, Int.reduceLT, Int.reduceLE, Int.reduceAdd, Int.reduceSub, Int.reduceNeg, Int.reduceMul, Int.reduceToNat, Nat.reduceSub, Nat.reduceMul, Nat.reduceLeDiff, Nat.reduceAdd, Nat.reduceLT, Nat.reduceEqDiff, reduceCtorEq, ↓reduceIte, rqs]
    by_cases h0 : nv x.2 = 0
    · rw [decide_eq_false (fun h => h h0)] at o
      refine call_by (o) (by rfl) (by simp) ?_
      simp (disch := omega) only [wk, tis, Int.reduceNe, Int.reduceEq, Int.reduceLT, Int.reduceLE, Int.reduceAdd, Int.reduceSub, Int.reduceNeg, Int.reduceMul, Int.reduceToNat, Nat.reduceSub, Nat.reduceMul, Nat.reduceLeDiff, Nat.reduceAdd, Nat.reduceLT, Nat.reduceEqDiff, reduceCtorEq, ↓reduceIte, rqs]
      try rfl
    · rw [decide_eq_true h0] at o
      have h1 : cqs (qvs p) = [] := by rw [cqs, h'.resolve_left h0]; rfl
      rw [show cqp (qvs p) = cqw [] from congrArg cqw h1] at n
      refine call_by (o) (by rfl) (by simp) ?_
      simp (disch := omega) only [wk, tis, Int.reduceNe, Int.reduceEq, Int.reduceLT, Int.reduceLE, Int.reduceAdd, Int.reduceSub, Int.reduceNeg, Int.reduceMul, Int.reduceToNat, Nat.reduceSub, Nat.reduceMul, Nat.reduceLeDiff, Nat.reduceAdd, Nat.reduceLT, Nat.reduceEqDiff, reduceCtorEq, ↓reduceIte, rqs]
      refine call_by (n) (by rfl) (by simp) ?_
      simp (disch := omega) only [wk, tis, Int.reduceNe, Int.reduceEq, Int.reduceLT, Int.reduceLE, Int.reduceAdd, Int.reduceSub, Int.reduceNeg, Int.reduceMul, Int.reduceToNat, Nat.reduceSub, Nat.reduceMul, Nat.reduceLeDiff, Nat.reduceAdd, Nat.reduceLT, Nat.reduceEqDiff, reduceCtorEq, ↓reduceIte, rqs]
      try rfl
end Go.Proofs.YtjadkhkgmdikiaaGreat

namespace Go.Proofs.YtjadkhkgmdikiaaGreat
open Go Go.Proofs Go.AL
set_option linter.unusedSimpArgs false
set_option linter.unusedVariables false

theorem qv_cd {x : RQ} {X : Nat} (hx : SzQ X x) : CD (nv x.2) X (qv x) ∧ (wd (nv x.2)).length ≤ X := ⟨⟨iv x.1, qv_eq x, zl_iv hx.1⟩, nt_zl hx.2⟩
theorem tb_of {p : List RQ} {x : RQ} (hp : GQ 40 200 p) (hx : SzQ 200 x) (h0 : nv x.2 ≠ 0) (hA : trimq (qvs p) ≠ []) : ∃ n, TB (trimq (qvs p)) x n := by
  have hn : (trimq (qvs p)).length ≠ 0 := fun h => hA (List.length_eq_zero_iff.mp h)
  have hl : (trimq (qvs p)).length ≤ 40 := by
    rw [trimq_len]
    have := tzq_le (qvs p)
    rw [qvs_len] at this
    have := hp.1
    omega
  obtain ⟨n, h1, h2, h3⟩ := qit_times (q := trimq (qvs p)) (c := qv x) (trimq_trimq _) hn
  refine ⟨n, trimq_trimq _, by omega, hn, h3, h2, fun k hk => ?_⟩
  obtain ⟨D, hD⟩ := hp.qb.trimq.cb
  obtain ⟨E, hE⟩ := qit_cb hD h0 (qv_cd hx).2 (qv_cd hx).1 k
  have hq : QB 40 (2 ^ 20) (qit (trimq (qvs p)) (qv x) k) := hE.qb.mono (Nat.le_refl _) (by
    have : k * (40 * (200 + 200 + 1) + 40 * 200 + 2) ≤ 40 * (40 * (200 + 200 + 1) + 40 * 200 + 2) := Nat.mul_le_mul_right _ (by omega)
    omega)
  exact VB.of hq.gq hx h0 (by omega) (by omega) (by omega)

theorem sameq_self {p : List RQ} (h : BQ (2 ^ 40) (2 ^ 40) p) : AC Tryz.prog 25 [cqw p, cqw p] none [cb true] := by
  have := hsameq_ok p p h h
  rwa [decide_eq_true rfl] at this
theorem same_self {v : RQ} (h : SzQ (2 ^ 43) v) : AC Tryz.prog 15 [cqq v, cqq v] none [cb true] := by
  have := hsame_ok v v h h
  rwa [decide_eq_true rfl] at this
theorem szq_q0 (k : Nat) : SzQ k q0 := ⟨⟨Nat.zero_le _, Lim.nil⟩, Nat.zero_le _, Lim.nil⟩
theorem bq_nil (n k : Nat) : BQ n k [] := ⟨Nat.zero_le _, fun r hr => nomatch hr⟩

theorem split_both (p : List RQ) (x : RQ) (hp : BQ 40 200 p) (hx : SzQ 200 x) : ∃ q r e, AC Tryz.prog 22 [cqw p, cqq x] none [cqw q, cqq r, ci e] ∧ AC Tryz.prog 24 [cqw p, cqq x] none [cqw q, cqq r, ci e] ∧ AC Tryz.prog 25 [cqw q, cqw q] none [cb true] ∧ AC Tryz.prog 15 [cqq r, cqq r] none [cb true] := by
  by_cases h : gd p = true ∧ nv x.2 ≠ 0
  · have v := VB.of (B := 2 ^ 34) (hp.gq h.1) hx h.2 (by omega) (by omega) (by omega)
    have hs : SzQ (2 ^ 34) (crat (evq (qvs p) (qv x))) := szq_crat (v.e _ (by rw [qvs_len]; omega) fun c hc => hc)
    exact ⟨_, _, 0, hSplit_ok p x _ v, esplit_ok p x _ v, sameq_self (v.sb.sqb.gqs.bq.mono (by omega) (by omega)), same_self (hs.mono (by omega))⟩
  · have h' : gd p = false ∨ nv x.2 = 0 := by
      cases hg : gd p with
      | false => exact .inl rfl
      | true => exact .inr (Decidable.not_not.mp fun h0 => h ⟨hg, h0⟩)
    exact ⟨[], q0, 1, hSplit_bad p x (hp.mono (by omega) (by omega)) (hx.mono (by omega)) h', esplit_bad p x (hp.mono (by omega) (by omega)) (hx.mono (by omega)) h', sameq_self (bq_nil _ _), same_self (szq_q0 _)⟩

theorem times_both (p : List RQ) (x : RQ) (hp : BQ 40 200 p) (hx : SzQ 200 x) : ∃ n e, AC Tryz.prog 23 [cqw p, cqq x] none [ci n, ci e] ∧ AC Tryz.prog 26 [cqw p, cqq x] none [ci n, ci e] := by
  by_cases h : gd p = true ∧ nv x.2 ≠ 0 ∧ trimq (qvs p) ≠ []
  · have v := VB.of (B := 2 ^ 34) (hp.gq h.1) hx h.2.1 (by omega) (by omega) (by omega)
    obtain ⟨n, t⟩ := tb_of (hp.gq h.1) hx h.2.1 h.2.2
    exact ⟨n, 0, htimes12_ok p x n ((hp.gq h.1).mono (by omega) (by omega)) v (hx.mono (by omega)) h.2.1 t, etimes_ok p x n ((hp.gq h.1).mono (by omega) (by omega)) (hx.mono (by omega)) h.2.1 t⟩
  · have h' : gd p = false ∨ nv x.2 = 0 ∨ trimq (qvs p) = [] := by
      cases hg : gd p with
      | false => exact .inl rfl
      | true =>
        refine .inr ?_
        by_cases h0 : nv x.2 = 0
        · exact .inl h0
        · exact .inr (Decidable.not_not.mp fun h1 => h ⟨hg, h0, h1⟩)
    exact ⟨0, 1, htimes12_bad p x (hp.mono (by omega) (by omega)) (hx.mono (by omega)) h', etimes_bad p x (hp.mono (by omega) (by omega)) (hx.mono (by omega)) h'⟩

theorem splits_law (p : List RQ) (x : RQ) (hp : RawQ p) (hx : SzQ 9223372036854775807 x) : AC Tryz.prog 4 [cqw p, cqq x] none [cb true] := by
  have g1 := sgrats_ok p hp.1 (fun r hr => rawq_len (hp.2 r hr))
  have g2 := sgrats_ok [x] (by simp) (fun r hr => by
    rw [List.mem_singleton.mp hr]
    exact rawq_len hx)
  have p1 : [qrow x] = rats [x] := rfl
  refine AC.by_walk (rs := [.tmp 4]) ords Tryz.func4 (by rfl) (by rfl) (by rfl) (by rfl) (by rfl) ?_
  simp (disch := omega) only [wk, tis, Int.reduceNe, Int.reduceEq, Int.reduceLT, Int.reduceLE, Int.reduceAdd, Int.reduceSub, Int.reduceNeg, Int.reduceMul, Int.reduceToNat, Nat.reduceSub, Nat.reduceMul, Nat.reduceLeDiff, Nat.reduceAdd, Nat.reduceLT, Nat.reduceEqDiff, reduceCtorEq, ↓reduceIte, rqs]
  refine call_by (awake12_ok) (by rfl) (by simp) ?_
  simp (disch := omega) only [wk, tis, Int.reduceNe, Int.reduceEq, Int.reduceLT, Int.reduceLE, Int.reduceAdd, Int.reduceSub, Int.reduceNeg, Int.reduceMul, Int.reduceToNat, Nat.reduceSub, Nat.reduceMul, Nat.reduceLeDiff, Nat.reduceAdd, Nat.reduceLT, Nat.reduceEqDiff, reduceCtorEq, ↓reduceIte, rqs]
  cases hg1 : gqr p with
  | true =>
    rw [hg1] at g1
    refine call_by (g1) (by rfl) (by simp) ?_
    simp (disch := omega) only [wk, tis, Int.reduceNe, Int.reduceEq, Int.reduceLT, Int.reduceLE, Int.reduceAdd, Int.reduceSub, Int.reduceNeg, Int.reduceMul, Int.reduceToNat, Nat.reduceSub, Nat.reduceMul, Nat.reduceLeDiff, Nat.reduceAdd, Nat.reduceLT, Nat.reduceEqDiff, reduceCtorEq, ↓reduceIte, rqs]
    try rfl
  | false =>
  rw [hg1] at g1
  refine call_by (g1) (by rfl) (by simp) ?_
  simp (disch := omega) only [wk, tis, Int.reduceNe, Int.reduceEq, Int.reduceLT, Int.reduceLE, Int.reduceAdd, Int.reduceSub, Int.reduceNeg, Int.reduceMul, Int.reduceToNat, Nat.reduceSub, Nat.reduceMul, Nat.reduceLeDiff, Nat.reduceAdd, Nat.reduceLT, Nat.reduceEqDiff, reduceCtorEq, ↓reduceIte, rqs]
  cases hg2 : gqr [x] with
  | true =>
    rw [hg2] at g2
    refine call_by (g2) (by rfl) (by simp) ?_
    simp (disch := omega) only [wk, tis, Int.reduceNe, Int.reduceEq, Int.reduceLT, Int.reduceLE, Int.reduceAdd, Int.reduceSub, Int.reduceNeg, Int.reduceMul, Int.reduceToNat, Nat.reduceSub, Nat.reduceMul, Nat.reduceLeDiff, Nat.reduceAdd, Nat.reduceLT, Nat.reduceEqDiff, reduceCtorEq, ↓reduceIte, rqs]
    try rfl
  | false =>
  rw [hg2] at g2
  have hpb := gqr_bq hg1 hp.2
  have hxb : SzQ 200 x := (gqr_bq hg2 (fun r hr => by rw [List.mem_singleton.mp hr]; exact hx)).2 _ (by simp)
  obtain ⟨q, r, e, s1, s2, s3, s4⟩ := split_both p x hpb hxb
  obtain ⟨n, f, t1, t2⟩ := times_both p x hpb hxb
  have m1 := plain12_ok e e
  rw [decide_eq_true rfl] at m1
  have m2 := plain12_ok f f
  rw [decide_eq_true rfl] at m2
  refine call_by (g2) (by rfl) (by simp) ?_
  simp (disch := omega) only [wk, tis, Int.reduceNe, Int.reduceEq, Int.reduceLT, Int.reduceLE, Int.reduceAdd, Int.reduceSub, Int.reduceNeg, Int.reduceMul, Int.reduceToNat, Nat.reduceSub, Nat.reduceMul, Nat.reduceLeDiff, Nat.reduceAdd, Nat.reduceLT, Nat.reduceEqDiff, reduceCtorEq, ↓reduceIte, rqs]
  refine call_by (s1) (by rfl) (by simp) ?_
  simp (disch := omega) only [wk, tis, Int.reduceNe, Int.reduceEq, Int.reduceLT, Int.reduceLE, Int.reduceAdd, Int.reduceSub, Int.reduceNeg, Int.reduceMul, Int.reduceToNat, Nat.reduceSub, Nat.reduceMul, Nat.reduceLeDiff, Nat.reduceAdd, Nat.reduceLT, Nat.reduceEqDiff, reduceCtorEq, ↓reduceIte, rqs]
  refine call_by (t1) (by rfl) (by simp) ?_
  simp (disch := omega) only [wk, tis, Int.reduceNe, Int.reduceEq, Int.reduceLT, Int.reduceLE, Int.reduceAdd, Int.reduceSub, Int.reduceNeg, Int.reduceMul, Int.reduceToNat, Nat.reduceSub, Nat.reduceMul, Nat.reduceLeDiff, Nat.reduceAdd, Nat.reduceLT, Nat.reduceEqDiff, reduceCtorEq, ↓reduceIte, rqs]
  refine call_by (s2) (by rfl) (by simp) ?_
  simp (disch := omega) only [wk, tis, Int.reduceNe, Int.reduceEq, Int.reduceLT, Int.reduceLE, Int.reduceAdd, Int.reduceSub, Int.reduceNeg, Int.reduceMul, Int.reduceToNat, Nat.reduceSub, Nat.reduceMul, Nat.reduceLeDiff, Nat.reduceAdd, Nat.reduceLT, Nat.reduceEqDiff, reduceCtorEq, ↓reduceIte, rqs]
  refine call_by (m1) (by rfl) (by simp) ?_
  simp (disch := omega) only [wk, tis, Int.reduceNe, Int.reduceEq, Int.reduceLT, Int.reduceLE, Int.reduceAdd, Int.reduceSub, Int.reduceNeg, Int.reduceMul, Int.reduceToNat, Nat.reduceSub, Nat.reduceMul, Nat.reduceLeDiff, Nat.reduceAdd, Nat.reduceLT, Nat.reduceEqDiff, reduceCtorEq, ↓reduceIte, rqs]
  refine call_by (s3) (by rfl) (by simp) ?_
  simp (disch := omega) only [wk, tis, Int.reduceNe, Int.reduceEq, Int.reduceLT, Int.reduceLE, Int.reduceAdd, Int.reduceSub, Int.reduceNeg, Int.reduceMul, Int.reduceToNat, Nat.reduceSub, Nat.reduceMul, Nat.reduceLeDiff, Nat.reduceAdd, Nat.reduceLT, Nat.reduceEqDiff, reduceCtorEq, ↓reduceIte, rqs]
  refine call_by (s4) (by rfl) (by simp) ?_
  simp (disch := omega) only [wk, tis, Int.reduceNe, Int.reduceEq, Int.reduceLT, Int.reduceLE, Int.reduceAdd, Int.reduceSub, Int.reduceNeg, Int.reduceMul, Int.reduceToNat, Nat.reduceSub, Nat.reduceMul, Nat.reduceLeDiff, Nat.reduceAdd, Nat.reduceLT, Nat.reduceEqDiff, reduceCtorEq, ↓reduceIte, rqs]
  refine call_by (t2) (by rfl) (by simp) ?_
  simp (disch := omega) only [wk, tis, Int.reduceNe, Int.reduceEq, Int.reduceLT, Int.reduceLE, Int.reduceAdd, Int.reduceSub, Int.reduceNeg, Int.reduceMul, Int.reduceToNat, Nat.reduceSub, Nat.reduceMul, Nat.reduceLeDiff, Nat.reduceAdd, Nat.reduceLT, Nat.reduceEqDiff, reduceCtorEq, ↓reduceIte, rqs]
  refine call_by (m2) (by rfl) (by simp) ?_
  simp (disch := omega) only [wk, tis, Int.reduceNe, Int.reduceEq, Int.reduceLT, Int.reduceLE, Int.reduceAdd, Int.reduceSub, Int.reduceNeg, Int.reduceMul, Int.reduceToNat, Nat.reduceSub, Nat.reduceMul, Nat.reduceLeDiff, Nat.reduceAdd, Nat.reduceLT, Nat.reduceEqDiff, reduceCtorEq, ↓reduceIte, rqs]
  try rfl
end Go.Proofs.YtjadkhkgmdikiaaGreat
