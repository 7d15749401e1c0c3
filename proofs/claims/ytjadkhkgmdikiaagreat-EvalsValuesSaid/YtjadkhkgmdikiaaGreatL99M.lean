/-
  Contracts of the functions that the law reaches.
-/
import Derived.Test.YtjadkhkgmdikiaaGreatL96M
import Derived.Test.YtjadkhkgmdikiaaGreatL36M
namespace Go.Proofs.YtjadkhkgmdikiaaGreat
open Go Go.Proofs Go.AL
set_option linter.unusedSimpArgs false
set_option linter.unusedVariables false

/-! ### slices.ContainsFunc over rationals, qpoly.Good -/
theorem idxq_gen (l : List RQ) (g : Nat) (P : RQ → Bool) (e : Int) (hl : l.length ≤ 2 ^ 43) (hc : ∀ r ∈ l, AC Tryz.prog g [cqq r] none [cb (P r)])
    (h1 : ∀ i, i < l.length → (∀ j, j < i → P (l.getD j q0) = false) → P (l.getD i q0) = true → e = i) (h2 : (∀ j, j < l.length → P (l.getD j q0) = false) → e = -1) :
    AC Tryz.prog 165 [cqw l, .fn g []] none [ci e] := by
  refine AC.by_walk (rs := [.tmp 4]) ords Tryz.func165 (by rfl) (by rfl) (by rfl) (by rfl) (by rfl) ?_
  simp (disch := omega) only [wk, tis, Int.reduceNe, Int.reduceEq, Int.reduceLT, Int.reduceLE, Int.reduceAdd, Int.reduceSub, Int.reduceNeg, Int.reduceMul, Int.reduceToNat, Nat.reduceSub, Nat.reduceMul, Nat.reduceLeDiff, Nat.reduceAdd, Nat.reduceLT, Nat.reduceEqDiff, reduceCtorEq, ↓reduceIte, rats_len, rats_get, lay_rat, qrow_take, qrow_len, qrow_splice, qrow_row, rats_rows, rats_snoc, rats_set, rats_take, rats_rep, rats_nil, qrow_drop2, qrow_take2, qrow_drop1, qrow_spl0]
  refine aloop_by (fun f H => ∃ (i : Nat), i ≤ l.length ∧ (∀ j, j < i → P (l.getD j q0) = false) ∧ f 8 = .iv (.int .i64 i) ∧ f 0 = .iv (.sl (rats l)) ∧ f 6 = .iv (.sl (rats l)) ∧ f 7 = .iv (.int .i64 l.length) ∧ f 1 = .fn g []) (fun f H => (l.length - intAt f 8).toNat) ?_ ?_
  · refine ⟨0, by omega, fun j hj => by omega, ?_⟩
    simp (disch := omega) only [wk, tis, Int.reduceNe, Int.reduceEq, Int.reduceLT, Int.reduceLE, Int.reduceAdd, Int.reduceSub, Int.reduceNeg, Int.reduceMul, Int.reduceToNat, Nat.reduceSub, Nat.reduceMul, Nat.reduceLeDiff, Nat.reduceAdd, Nat.reduceLT, Nat.reduceEqDiff, reduceCtorEq, ↓reduceIte, rats_len, rats_get, lay_rat, qrow_take, qrow_len, qrow_splice, qrow_row, rats_rows, rats_snoc, rats_set, rats_take, rats_rep, rats_nil, qrow_drop2, qrow_take2, qrow_drop1, qrow_spl0, List.map_nil]
  rintro f H ⟨i, hi, hz, hF⟩
  rw [intAt_of hF.1]
  simp (disch := omega) only [wk, tis, Int.reduceNe, Int.reduceEq, Int.reduceLT, Int.reduceLE, Int.reduceAdd, Int.reduceSub, Int.reduceNeg, Int.reduceMul, Int.reduceToNat, Nat.reduceSub, Nat.reduceMul, Nat.reduceLeDiff, Nat.reduceAdd, Nat.reduceLT, Nat.reduceEqDiff, reduceCtorEq, ↓reduceIte, rats_len, rats_get, lay_rat, qrow_take, qrow_len, qrow_splice, qrow_row, rats_rows, rats_snoc, rats_set, rats_take, rats_rep, rats_nil, qrow_drop2, qrow_take2, qrow_drop1, qrow_spl0, hF]
  refine if_by (fun hlt => ?_) (fun hlt => ?_)
  · have hlt' : i < l.length := by omega
    simp (disch := omega) only [wk, tis, Int.reduceNe, Int.reduceEq, Int.reduceLT, Int.reduceLE, Int.reduceAdd, Int.reduceSub, Int.reduceNeg, Int.reduceMul, Int.reduceToNat, Nat.reduceSub, Nat.reduceMul, Nat.reduceLeDiff, Nat.reduceAdd, Nat.reduceLT, Nat.reduceEqDiff, reduceCtorEq, ↓reduceIte, rats_len, rats_get, lay_rat, qrow_take, qrow_len, qrow_splice, qrow_row, rats_rows, rats_snoc, rats_set, rats_take, rats_rep, rats_nil, qrow_drop2, qrow_take2, qrow_drop1, qrow_spl0, hF]
    refine call_by ((hc (l.getD i q0) (getq_mem hlt'))) (by first | rfl | (simp only [tocvs, tocv, hF]; rfl) | (simp only [tocvs, tocv, toboxes, tobox, updH_at, Nat.reduceEqDiff, ↓reduceIte, hF]; rfl)) (by simp) ?_
    simp (disch := omega) only [wk, tis, Int.reduceNe, Int.reduceEq, Int.reduceLT, Int.reduceLE, Int.reduceAdd, Int.reduceSub, Int.reduceNeg, Int.reduceMul, Int.reduceToNat, Nat.reduceSub, Nat.reduceMul, Nat.reduceLeDiff, Nat.reduceAdd, Nat.reduceLT, Nat.reduceEqDiff, reduceCtorEq, ↓reduceIte, rats_len, rats_get, lay_rat, qrow_take, qrow_len, qrow_splice, qrow_row, rats_rows, rats_snoc, rats_set, rats_take, rats_rep, rats_nil, qrow_drop2, qrow_take2, qrow_drop1, qrow_spl0, hF]
    cases hP : P (l.getD i q0) with
    | true =>
      obtain rfl := h1 i hlt' hz hP
      simp (disch := omega) only [wk, tis, Int.reduceNe, Int.reduceEq, Int.reduceLT, Int.reduceLE, Int.reduceAdd, Int.reduceSub, Int.reduceNeg, Int.reduceMul, Int.reduceToNat, Nat.reduceSub, Nat.reduceMul, Nat.reduceLeDiff, Nat.reduceAdd, Nat.reduceLT, Nat.reduceEqDiff, reduceCtorEq, ↓reduceIte, rats_len, rats_get, lay_rat, qrow_take, qrow_len, qrow_splice, qrow_row, rats_rows, rats_snoc, rats_set, rats_take, rats_rep, rats_nil, qrow_drop2, qrow_take2, qrow_drop1, qrow_spl0, hF]
    | false =>
      simp (disch := omega) only [wk, tis, Int.reduceNe, Int.reduceEq, Int.reduceLT, Int.reduceLE, Int.reduceAdd, Int.reduceSub, Int.reduceNeg, Int.reduceMul, Int.reduceToNat, Nat.reduceSub, Nat.reduceMul, Nat.reduceLeDiff, Nat.reduceAdd, Nat.reduceLT, Nat.reduceEqDiff, reduceCtorEq, ↓reduceIte, rats_len, rats_get, lay_rat, qrow_take, qrow_len, qrow_splice, qrow_row, rats_rows, rats_snoc, rats_set, rats_take, rats_rep, rats_nil, qrow_drop2, qrow_take2, qrow_drop1, qrow_spl0, hF]
      refine ⟨⟨i + 1, by omega, fun j hj => ?_, by omega⟩, by omega⟩
      rcases Nat.lt_or_ge j i with hj' | hj'
      · exact hz j hj'
      · obtain rfl : j = i := by omega
        exact hP
  · obtain rfl := h2 fun j hj => hz j (by omega)
    simp (disch := omega) only [wk, tis, Int.reduceNe, Int.reduceEq, Int.reduceLT, Int.reduceLE, Int.reduceAdd, Int.reduceSub, Int.reduceNeg, Int.reduceMul, Int.reduceToNat, Nat.reduceSub, Nat.reduceMul, Nat.reduceLeDiff, Nat.reduceAdd, Nat.reduceLT, Nat.reduceEqDiff, reduceCtorEq, ↓reduceIte, rats_len, rats_get, lay_rat, qrow_take, qrow_len, qrow_splice, qrow_row, rats_rows, rats_snoc, rats_set, rats_take, rats_rep, rats_nil, qrow_drop2, qrow_take2, qrow_drop1, qrow_spl0, hF]

theorem conq_ok (l : List RQ) (g : Nat) (P : RQ → Bool) (hl : l.length ≤ 2 ^ 43) (hc : ∀ r ∈ l, AC Tryz.prog g [cqq r] none [cb (P r)]) :
    AC Tryz.prog 111 [cqw l, .fn g []] none [cb (l.any P)] := by
  have key : ∃ e : Int, (0 ≤ e ↔ l.any P = true) ∧ AC Tryz.prog 165 [cqw l, .fn g []] none [ci e] := by
    by_cases h : ∃ i, i < l.length ∧ P (l.getD i q0) = true
    · obtain ⟨i, hi, hP, hz⟩ : ∃ i, i < l.length ∧ P (l.getD i q0) = true ∧ ∀ j, j < i → P (l.getD j q0) = false := by
        obtain ⟨i0, hi0⟩ := h
        induction i0 using Nat.strongRecOn with
        | _ n ih =>
          by_cases hm : ∃ m, m < n ∧ P (l.getD m q0) = true
          · obtain ⟨m, hm1, hm2⟩ := hm
            exact ih m hm1 ⟨by omega, hm2⟩
          · refine ⟨n, hi0.1, hi0.2, fun j hj => ?_⟩
            cases hj' : P (l.getD j q0) with
            | false => rfl
            | true => exact (hm ⟨j, hj, hj'⟩).elim
      refine ⟨i, ⟨fun _ => List.any_eq_true.mpr ⟨_, getq_mem hi, hP⟩, fun _ => by omega⟩, idxq_gen l g P i hl hc (fun k hk hkz hkP => ?_) (fun hall => ?_)⟩
      · have : k = i := by
          rcases Nat.lt_trichotomy k i with h | h | h
          · have := hz k h; rw [this] at hkP; cases hkP
          · exact h
          · have := hkz i h; rw [this] at hP; cases hP
        rw [this]
      · rw [hall i hi] at hP; cases hP
    · refine ⟨-1, ⟨fun h0 => by omega, fun h0 => ?_⟩, idxq_gen l g P (-1) hl hc (fun k hk _ hkP => (h ⟨k, hk, hkP⟩).elim) (fun _ => rfl)⟩
      obtain ⟨r, hr, hP⟩ := List.any_eq_true.mp h0
      obtain ⟨j, hj, rfl⟩ := List.getElem_of_mem hr
      exact (h ⟨j, hj, by rw [List.getD, List.getElem?_eq_getElem hj, Option.getD_some]; exact hP⟩).elim
  obtain ⟨e, he, m⟩ := key
  refine AC.by_walk (rs := [.tmp 4]) ords Tryz.func111 (by rfl) (by rfl) (by rfl) (by rfl) (by rfl) ?_
  simp (disch := omega) only [wk, tis, Int.reduceNe, Int.reduceEq, Int.reduceLT, Int.reduceLE, Int.reduceAdd, Int.reduceSub, Int.reduceNeg, Int.reduceMul, Int.reduceToNat, Nat.reduceSub, Nat.reduceMul, Nat.reduceLeDiff, Nat.reduceAdd, Nat.reduceLT, Nat.reduceEqDiff, reduceCtorEq, ↓reduceIte, rats_len, rats_get, lay_rat, qrow_take, qrow_len, qrow_splice, qrow_row, rats_rows, rats_snoc, rats_set, rats_take, rats_rep, rats_nil, qrow_drop2, qrow_take2, qrow_drop1, qrow_spl0]
  refine call_by (m) (by rfl) (by simp) ?_
  simp (disch := omega) only [wk, tis, Int.reduceNe, Int.reduceEq, Int.reduceLT, Int.reduceLE, Int.reduceAdd, Int.reduceSub, Int.reduceNeg, Int.reduceMul, Int.reduceToNat, Nat.reduceSub, Nat.reduceMul, Nat.reduceLeDiff, Nat.reduceAdd, Nat.reduceLT, Nat.reduceEqDiff, reduceCtorEq, ↓reduceIte, rats_len, rats_get, lay_rat, qrow_take, qrow_len, qrow_splice, qrow_row, rats_rows, rats_snoc, rats_set, rats_take, rats_rep, rats_nil, qrow_drop2, qrow_take2, qrow_drop1, qrow_spl0]
  cases hP : l.any P with
  | true => rw [decide_eq_true (he.mpr hP)]
  | false => rw [decide_eq_false fun h => by rw [he.mp h] at hP; cases hP]

theorem qgood1_ok (r : RQ) (h : Nt (2 ^ 42) r.2) : AC Tryz.prog 112 [cqq r] none [cb (decide (nv r.2 = 0))] := by
  refine AC.by_walk (rs := [.tmp 2]) ords Tryz.func112 (by rfl) (by rfl) (by rfl) (by rfl) (by rfl) ?_
  simp (disch := omega) only [wk, tis, Int.reduceNe, Int.reduceEq, Int.reduceLT, Int.reduceLE, Int.reduceAdd, Int.reduceSub, Int.reduceNeg, Int.reduceMul, Int.reduceToNat, Nat.reduceSub, Nat.reduceMul, Nat.reduceLeDiff, Nat.reduceAdd, Nat.reduceLT, Nat.reduceEqDiff, reduceCtorEq, ↓reduceIte, rats_len, rats_get, lay_rat, qrow_take, qrow_len, qrow_splice, qrow_row, rats_rows, rats_snoc, rats_set, rats_take, rats_rep, rats_nil, qrow_drop2, qrow_take2, qrow_drop1, qrow_spl0]
  by_cases h0 : nv r.2 = 0
  · have h0' := h0
    refine call_by ((qcheck_bad r h h0)) (by rfl) (by simp) ?_
    simp (disch := omega) only [wk, tis, Int.reduceNe, Int.reduceEq, Int.reduceLT, Int.reduceLE, Int.reduceAdd, Int.reduceSub, Int.reduceNeg, Int.reduceMul, Int.reduceToNat, Nat.reduceSub, Nat.reduceMul, Nat.reduceLeDiff, Nat.reduceAdd, Nat.reduceLT, Nat.reduceEqDiff, reduceCtorEq, ↓reduceIte, rats_len, rats_get, lay_rat, qrow_take, qrow_len, qrow_splice, qrow_row, rats_rows, rats_snoc, rats_set, rats_take, rats_rep, rats_nil, qrow_drop2, qrow_take2, qrow_drop1, qrow_spl0]
    rw [decide_eq_true h0]
    try rfl
  · have h0' := h0
    refine call_by ((qcheck_good r h h0)) (by rfl) (by simp) ?_
    simp (disch := omega) only [wk, tis, Int.reduceNe, Int.reduceEq, Int.reduceLT, Int.reduceLE, Int.reduceAdd, Int.reduceSub, Int.reduceNeg, Int.reduceMul, Int.reduceToNat, Nat.reduceSub, Nat.reduceMul, Nat.reduceLeDiff, Nat.reduceAdd, Nat.reduceLT, Nat.reduceEqDiff, reduceCtorEq, ↓reduceIte, rats_len, rats_get, lay_rat, qrow_take, qrow_len, qrow_splice, qrow_row, rats_rows, rats_snoc, rats_set, rats_take, rats_rep, rats_nil, qrow_drop2, qrow_take2, qrow_drop1, qrow_spl0]
    rw [decide_eq_false h0]
    try rfl

theorem not_any {l : List RQ} : (!l.any fun r => decide (nv r.2 = 0)) = gd l := by
  unfold gd
  induction l with
  | nil => rfl
  | cons a l ih =>
    rw [List.any_cons, List.all_cons, Bool.not_or, ih]
    congr 1
    by_cases h : nv a.2 = 0 <;> simp [h]

theorem qgood_ok (l : List RQ) (h : BQ (2 ^ 40) (2 ^ 40) l) : AC Tryz.prog 39 [cqw l] none [cb (gd l)] := by
  have m := conq_ok l 112 (fun r => decide (nv r.2 = 0)) (Nat.le_trans h.1 (by omega)) (fun r hr => qgood1_ok r ⟨Nat.le_trans (h.2 r hr).2.1 (by omega), (h.2 r hr).2.2⟩)
  refine AC.by_walk (rs := [.tmp 2]) ords Tryz.func39 (by rfl) (by rfl) (by rfl) (by rfl) (by rfl) ?_
  simp (disch := omega) only [wk, tis, Int.reduceNe, Int.reduceEq, Int.reduceLT, Int.reduceLE, Int.reduceAdd, Int.reduceSub, Int.reduceNeg, Int.reduceMul, Int.reduceToNat, Nat.reduceSub, Nat.reduceMul, Nat.reduceLeDiff, Nat.reduceAdd, Nat.reduceLT, Nat.reduceEqDiff, reduceCtorEq, ↓reduceIte, rats_len, rats_get, lay_rat, qrow_take, qrow_len, qrow_splice, qrow_row, rats_rows, rats_snoc, rats_set, rats_take, rats_rep, rats_nil, qrow_drop2, qrow_take2, qrow_drop1, qrow_spl0, List.map_nil]
  refine call_by (m) (by first | rfl | (simp only [tocvs, tocv, List.map_nil]; rfl) | (simp only [tocvs, tocv, toboxes, tobox, updH_at, Nat.reduceEqDiff, ↓reduceIte, List.map_nil]; rfl)) (by simp) ?_
  simp (disch := omega) only [wk, tis, Int.reduceNe, Int.reduceEq, Int.reduceLT, Int.reduceLE, Int.reduceAdd, Int.reduceSub, Int.reduceNeg, Int.reduceMul, Int.reduceToNat, Nat.reduceSub, Nat.reduceMul, Nat.reduceLeDiff, Nat.reduceAdd, Nat.reduceLT, Nat.reduceEqDiff, reduceCtorEq, ↓reduceIte, rats_len, rats_get, lay_rat, qrow_take, qrow_len, qrow_splice, qrow_row, rats_rows, rats_snoc, rats_set, rats_take, rats_rep, rats_nil, qrow_drop2, qrow_take2, qrow_drop1, qrow_spl0, List.map_nil]
  exact not_any

/-! ### Values -/
theorem evq_nil (x : Rat) : evq [] x = 0 := rfl
theorem szq0 : qz 0 = 1 := qz_zero

/-- Bounds for the values of a polynomial. -/
structure VB (p : List RQ) (x : RQ) (B : Nat) : Prop where
  hp : GQ (2 ^ 30) B p
  hx : SzQ B x
  d : nv x.2 ≠ 0
  e : ∀ q : List Rat, q.length ≤ p.length → (∀ c ∈ q, c ∈ qvs p) → qz (evq q (qv x)) ≤ B
  w : ∀ i, i ≤ p.length → qz (qv x ^ i) ≤ B
  b : B ≤ 2 ^ 34
  one : 1 ≤ B
theorem VB.of {n K X B : Nat} {p : List RQ} {x : RQ} (hp : GQ n K p) (hx : SzQ X x) (hd : nv x.2 ≠ 0) (hn : n ≤ 2 ^ 30) (hB : n * (K + X + 1) + K + X + 1 ≤ B) (hB' : B ≤ 2 ^ 34) : VB p x B where
  hp := hp.mono hn (by omega)
  hx := hx.mono (by omega)
  d := hd
  e := fun q hq hc => by
    have h := qz_evq (K := K) (qz_raw hx hd) (p := q) fun c hc' => hp.qb.2 c (hc c hc')
    have h2 := Nat.mul_le_mul_right (K + X + 1) (Nat.le_trans hq hp.1)
    omega
  w := fun i hi => by
    have h := qz_pow (qz_raw hx hd) i
    have h2 := Nat.mul_le_mul_right X (Nat.le_trans hi hp.1)
    have h3 : n * X ≤ n * (K + X + 1) := Nat.mul_le_mul_left n (by omega)
    omega
  b := hB'
  one := by omega
theorem VB.take {p : List RQ} {x : RQ} {B : Nat} (v : VB p x B) (i : Nat) : qz (evq ((qvs p).take i) (qv x)) ≤ B :=
  v.e _ (by rw [List.length_take, qvs_len]; omega) fun c hc => List.mem_of_mem_take hc
theorem VB.drop {p : List RQ} {x : RQ} {B : Nat} (v : VB p x B) (i : Nat) : qz (evq ((qvs p).drop i) (qv x)) ≤ B :=
  v.e _ (by rw [List.length_drop, qvs_len]; omega) fun c hc => List.mem_of_mem_drop hc
theorem crat_zero' : qrow (crat 0) = qrow ((false, []), [1]) := by
  have := crat_int 0
  rw [canon_zero] at this
  exact congrArg qrow this

theorem hzero_ok : AC Tryz.prog 135 [] none [cqz 0] := by
  have m := hP_ok 0 1 (by omega) (by omega) (by omega) (by omega)
  rw [show ((0 : Int) : Rat) / ((1 : Nat) : Rat) = 0 by decide +kernel] at m
  refine AC.by_walk (rs := [.cell 0 31]) ords Tryz.func135 (by rfl) (by rfl) (by rfl) (by rfl) (by rfl) ?_
  simp (disch := omega) only [wk, tis, Int.reduceNe, Int.reduceEq, Int.reduceLT, Int.reduceLE, Int.reduceAdd, Int.reduceSub, Int.reduceNeg, Int.reduceMul, Int.reduceToNat, Nat.reduceSub, Nat.reduceMul, Nat.reduceLeDiff, Nat.reduceAdd, Nat.reduceLT, Nat.reduceEqDiff, reduceCtorEq, ↓reduceIte, rats_len, rats_get, lay_rat, qrow_take, qrow_len, qrow_splice, qrow_row, rats_rows, rats_snoc, rats_set, rats_take, rats_rep, rats_nil, qrow_drop2, qrow_take2, qrow_drop1, qrow_spl0]
  refine call_by (m) (by rfl) (by simp) ?_
  simp (disch := omega) only [wk, tis, Int.reduceNe, Int.reduceEq, Int.reduceLT, Int.reduceLE, Int.reduceAdd, Int.reduceSub, Int.reduceNeg, Int.reduceMul, Int.reduceToNat, Nat.reduceSub, Nat.reduceMul, Nat.reduceLeDiff, Nat.reduceAdd, Nat.reduceLT, Nat.reduceEqDiff, reduceCtorEq, ↓reduceIte, rats_len, rats_get, lay_rat, qrow_take, qrow_len, qrow_splice, qrow_row, rats_rows, rats_snoc, rats_set, rats_take, rats_rep, rats_nil, qrow_drop2, qrow_take2, qrow_drop1, qrow_spl0]
  try rfl
theorem hone_ok : AC Tryz.prog 48 [ci 1, ci 1] none [cqz 1] := by
  have m := hP_ok 1 1 (by omega) (by omega) (by omega) (by omega)
  rwa [show ((1 : Int) : Rat) / ((1 : Nat) : Rat) = 1 by decide +kernel] at m

theorem hat_ok (p : List RQ) (x : RQ) (B : Nat) (v : VB p x B) : AC Tryz.prog 80 [cqw p, cqq x] none [cqz (evq (qvs p) (qv x))] := by
  have hl := v.hp.1
  have hb := v.b
  have o := hone_ok
  refine AC.by_walk (rs := [.cell 4 31]) ords Tryz.func80 (by rfl) (by rfl) (by rfl) (by rfl) (by rfl) ?_
  simp (disch := omega) only [wk, tis, Int.reduceNe, Int.reduceEq, Int.reduceLT, Int.reduceLE, Int.reduceAdd, Int.reduceSub, Int.reduceNeg, Int.reduceMul, Int.reduceToNat, Nat.reduceSub, Nat.reduceMul, Nat.reduceLeDiff, Nat.reduceAdd, Nat.reduceLT, Nat.reduceEqDiff, reduceCtorEq, ↓reduceIte, rats_len, rats_get, lay_rat, qrow_take, qrow_len, qrow_splice, qrow_row, rats_rows, rats_snoc, rats_set, rats_take, rats_rep, rats_nil, qrow_drop2, qrow_take2, qrow_drop1, qrow_spl0]
  refine call_by (hzero_ok) (by rfl) (by simp) ?_
  simp (disch := omega) only [wk, tis, Int.reduceNe, Int.reduceEq, Int.reduceLT, Int.reduceLE, Int.reduceAdd, Int.reduceSub, Int.reduceNeg, Int.reduceMul, Int.reduceToNat, Nat.reduceSub, Nat.reduceMul, Nat.reduceLeDiff, Nat.reduceAdd, Nat.reduceLT, Nat.reduceEqDiff, reduceCtorEq, ↓reduceIte, rats_len, rats_get, lay_rat, qrow_take, qrow_len, qrow_splice, qrow_row, rats_rows, rats_snoc, rats_set, rats_take, rats_rep, rats_nil, qrow_drop2, qrow_take2, qrow_drop1, qrow_spl0]
  refine call_by (o) (by rfl) (by simp) ?_
  simp (disch := omega) only [wk, tis, Int.reduceNe, Int.reduceEq, Int.reduceLT, Int.reduceLE, Int.reduceAdd, Int.reduceSub, Int.reduceNeg, Int.reduceMul, Int.reduceToNat, Nat.reduceSub, Nat.reduceMul, Nat.reduceLeDiff, Nat.reduceAdd, Nat.reduceLT, Nat.reduceEqDiff, reduceCtorEq, ↓reduceIte, rats_len, rats_get, lay_rat, qrow_take, qrow_len, qrow_splice, qrow_row, rats_rows, rats_snoc, rats_set, rats_take, rats_rep, rats_nil, qrow_drop2, qrow_take2, qrow_drop1, qrow_spl0]
  refine aloop_by (fun f H => ∃ (i st3 st5 st6 : Nat), i ≤ p.length ∧ f 7 = .iv (.int .i64 i) ∧ f 0 = .iv (.sl (rats p)) ∧ f 3 = .hp 3 st3 0 0 ∧ H 3 = .blk false st3 31 3 [qrow x] ∧ f 5 = .hp 5 st5 0 0 ∧ H 5 = .blk false st5 31 3 [qrow (crat (evq ((qvs p).take i) (qv x)))] ∧ f 6 = .hp 6 st6 0 0 ∧ H 6 = .blk false st6 31 3 [qrow (crat (qv x ^ i))] ∧ f 4 = .hp 4 1 0 0 ∧ H 4 = .blk false 1 31 3 [[.bool false, .sl [], .sl []]]) (fun f H => (p.length - intAt f 7).toNat) ?_ ?_
  · refine ⟨0, 1, 1, 1, by omega, ?_⟩
    simp (disch := omega) only [wk, tis, Int.reduceNe, Int.reduceEq, Int.reduceLT, Int.reduceLE, Int.reduceAdd, Int.reduceSub, Int.reduceNeg, Int.reduceMul, Int.reduceToNat, Nat.reduceSub, Nat.reduceMul, Nat.reduceLeDiff, Nat.reduceAdd, Nat.reduceLT, Nat.reduceEqDiff, reduceCtorEq, ↓reduceIte, rats_len, rats_get, lay_rat, qrow_take, qrow_len, qrow_splice, qrow_row, rats_rows, rats_snoc, rats_set, rats_take, rats_rep, rats_nil, qrow_drop2, qrow_take2, qrow_drop1, qrow_spl0, List.take_zero, evq_nil, Rat.pow_zero]
  rintro f H ⟨i, st3, st5, st6, hi, hF⟩
  rw [intAt_of hF.1]
  simp (disch := omega) only [wk, tis, Int.reduceNe, Int.reduceEq, Int.reduceLT, Int.reduceLE, Int.reduceAdd, Int.reduceSub, Int.reduceNeg, Int.reduceMul, Int.reduceToNat, Nat.reduceSub, Nat.reduceMul, Nat.reduceLeDiff, Nat.reduceAdd, Nat.reduceLT, Nat.reduceEqDiff, reduceCtorEq, ↓reduceIte, rats_len, rats_get, lay_rat, qrow_take, qrow_len, qrow_splice, qrow_row, rats_rows, rats_snoc, rats_set, rats_take, rats_rep, rats_nil, qrow_drop2, qrow_take2, qrow_drop1, qrow_spl0, hF]
  refine if_by (fun hlt => ?_) (fun hlt => ?_)
  · have hlt' : i < p.length := by omega
    have hr := v.hp.get hlt'
    have hrd := v.hp.den hlt'
    have z1 := v.take i
    have z2 := v.take (i + 1)
    have z3 := v.w i hi
    have z4 := v.w (i + 1) (by omega)
    have zc := qz_raw hr hrd
    have m := htimes_ok (p.getD i q0) (crat (qv x ^ i)) (hr.mono (by omega)) (szq_crat (by omega)) hrd (nv_crat0 _)
    rw [qv_crat, ← cfq_qvs] at m
    have zm := qz_mul (cfq (qvs p) i) (qv x ^ i)
    rw [← cfq_qvs] at zc
    have s := hplus_ok (crat (evq ((qvs p).take i) (qv x))) (crat (cfq (qvs p) i * qv x ^ i)) (szq_crat (by omega)) (szq_crat (by omega)) (nv_crat0 _) (nv_crat0 _)
    rw [qv_crat, qv_crat, show evq ((qvs p).take i) (qv x) + cfq (qvs p) i * qv x ^ i = evq ((qvs p).take (i + 1)) (qv x) from (evq_take (qvs p) (qv x) (by rw [qvs_len]; exact hlt')).symm] at s
    have w := htimes_ok (crat (qv x ^ i)) x (szq_crat (by omega)) (v.hx.mono (by omega)) (nv_crat0 _) v.d
    rw [qv_crat, ← Rat.pow_succ] at w
    simp (disch := omega) only [wk, tis, Int.reduceNe, Int.reduceEq, Int.reduceLT, Int.reduceLE, Int.reduceAdd, Int.reduceSub, Int.reduceNeg, Int.reduceMul, Int.reduceToNat, Nat.reduceSub, Nat.reduceMul, Nat.reduceLeDiff, Nat.reduceAdd, Nat.reduceLT, Nat.reduceEqDiff, reduceCtorEq, ↓reduceIte, rats_len, rats_get, lay_rat, qrow_take, qrow_len, qrow_splice, qrow_row, rats_rows, rats_snoc, rats_set, rats_take, rats_rep, rats_nil, qrow_drop2, qrow_take2, qrow_drop1, qrow_spl0, hF]
    refine ⟨tmps_by (by kernel_rfl), ?_⟩
    refine call_by (m) (by first | rfl | (simp only [tocvs, tocv, hF]; rfl) | (simp only [tocvs, tocv, toboxes, tobox, updH_at, Nat.reduceEqDiff, ↓reduceIte, hF]; rfl)) (by simp) ?_
    simp (disch := omega) only [wk, tis, Int.reduceNe, Int.reduceEq, Int.reduceLT, Int.reduceLE, Int.reduceAdd, Int.reduceSub, Int.reduceNeg, Int.reduceMul, Int.reduceToNat, Nat.reduceSub, Nat.reduceMul, Nat.reduceLeDiff, Nat.reduceAdd, Nat.reduceLT, Nat.reduceEqDiff, reduceCtorEq, ↓reduceIte, rats_len, rats_get, lay_rat, qrow_take, qrow_len, qrow_splice, qrow_row, rats_rows, rats_snoc, rats_set, rats_take, rats_rep, rats_nil, qrow_drop2, qrow_take2, qrow_drop1, qrow_spl0, hF]
    refine call_by (s) (by first | rfl | (simp only [tocvs, tocv, hF]; rfl) | (simp only [tocvs, tocv, toboxes, tobox, updH_at, Nat.reduceEqDiff, ↓reduceIte, hF]; rfl)) (by simp) ?_
    simp (disch := omega) only [wk, tis, Int.reduceNe, Int.reduceEq, Int.reduceLT, Int.reduceLE, Int.reduceAdd, Int.reduceSub, Int.reduceNeg, Int.reduceMul, Int.reduceToNat, Nat.reduceSub, Nat.reduceMul, Nat.reduceLeDiff, Nat.reduceAdd, Nat.reduceLT, Nat.reduceEqDiff, reduceCtorEq, ↓reduceIte, rats_len, rats_get, lay_rat, qrow_take, qrow_len, qrow_splice, qrow_row, rats_rows, rats_snoc, rats_set, rats_take, rats_rep, rats_nil, qrow_drop2, qrow_take2, qrow_drop1, qrow_spl0, hF]
    first | exact log_by (by kernel_rfl) | refine ⟨log_by (by kernel_rfl), ?_⟩
    refine call_by (w) (by first | rfl | (simp only [tocvs, tocv, hF]; rfl) | (simp only [tocvs, tocv, toboxes, tobox, updH_at, Nat.reduceEqDiff, ↓reduceIte, hF]; rfl)) (by simp) ?_
    simp (disch := omega) only [wk, tis, Int.reduceNe, Int.reduceEq, Int.reduceLT, Int.reduceLE, Int.reduceAdd, Int.reduceSub, Int.reduceNeg, Int.reduceMul, Int.reduceToNat, Nat.reduceSub, Nat.reduceMul, Nat.reduceLeDiff, Nat.reduceAdd, Nat.reduceLT, Nat.reduceEqDiff, reduceCtorEq, ↓reduceIte, rats_len, rats_get, lay_rat, qrow_take, qrow_len, qrow_splice, qrow_row, rats_rows, rats_snoc, rats_set, rats_take, rats_rep, rats_nil, qrow_drop2, qrow_take2, qrow_drop1, qrow_spl0, hF]
    exact ⟨⟨i + 1, st3, st5, st6, by omega, by omega, rfl, rfl, rfl, rfl, rfl, rfl⟩, by omega⟩
  · simp (disch := omega) only [wk, tis, Int.reduceNe, Int.reduceEq, Int.reduceLT, Int.reduceLE, Int.reduceAdd, Int.reduceSub, Int.reduceNeg, Int.reduceMul, Int.reduceToNat, Nat.reduceSub, Nat.reduceMul, Nat.reduceLeDiff, Nat.reduceAdd, Nat.reduceLT, Nat.reduceEqDiff, reduceCtorEq, ↓reduceIte, rats_len, rats_get, lay_rat, qrow_take, qrow_len, qrow_splice, qrow_row, rats_rows, rats_snoc, rats_set, rats_take, rats_rep, rats_nil, qrow_drop2, qrow_take2, qrow_drop1, qrow_spl0, hF]
    rw [List.take_of_length_le (by rw [qvs_len]; omega)]
    try rfl

theorem hAt_ok (p : List RQ) (x : RQ) (B : Nat) (v : VB p x B) : AC Tryz.prog 12 [cqw p, cqq x] none [cqz (evq (qvs p) (qv x)), ci 0] := by
  have hb := v.b
  have g := hgood_ok p (v.hp.bq.mono (by omega) (by omega))
  rw [v.hp.gd] at g
  have o := hok_ok x ⟨Nat.le_trans v.hx.2.1 (by omega), v.hx.2.2⟩
  rw [decide_eq_true v.d] at o
  have m := hat_ok p x B v
  refine AC.by_walk (rs := [.cell 4 31, .tmp 5]) ords Tryz.func12 (by rfl) (by rfl) (by rfl) (by rfl) (by rfl) ?_
  simp (disch := omega) only [wk, tis, Int.reduceNe, Int.reduceEq, Int.reduceLT, Int.reduceLE, Int.reduceAdd, Int.reduceSub, Int.reduceNeg, Int.reduceMul, Int.reduceToNat, Nat.reduceSub, Nat.reduceMul, Nat.reduceLeDiff, Nat.reduceAdd, Nat.reduceLT, Nat.reduceEqDiff, reduceCtorEq, ↓reduceIte, rats_len, rats_get, lay_rat, qrow_take, qrow_len, qrow_splice, qrow_row, rats_rows, rats_snoc, rats_set, rats_take, rats_rep, rats_nil, qrow_drop2, qrow_take2, qrow_drop1, qrow_spl0]
  refine call_by (g) (by rfl) (by simp) ?_
  simp (disch := omega) only [wk, tis, Int.reduceNe, Int.reduceEq, Int.reduceLT, Int.reduceLE, Int.reduceAdd, Int.reduceSub, Int.reduceNeg, Int.reduceMul, Int.reduceToNat, Nat.reduceSub, Nat.reduceMul, Nat.reduceLeDiff, Nat.reduceAdd, Nat.reduceLT, Nat.reduceEqDiff, reduceCtorEq, ↓reduceIte, rats_len, rats_get, lay_rat, qrow_take, qrow_len, qrow_splice, qrow_row, rats_rows, rats_snoc, rats_set, rats_take, rats_rep, rats_nil, qrow_drop2, qrow_take2, qrow_drop1, qrow_spl0]
  refine call_by (o) (by rfl) (by simp) ?_
  simp (disch := omega) only [wk, tis, Int.reduceNe, Int.reduceEq, Int.reduceLT, Int.reduceLE, Int.reduceAdd, Int.reduceSub, Int.reduceNeg, Int.reduceMul, Int.reduceToNat, Nat.reduceSub, Nat.reduceMul, Nat.reduceLeDiff, Nat.reduceAdd, Nat.reduceLT, Nat.reduceEqDiff, reduceCtorEq, ↓reduceIte, rats_len, rats_get, lay_rat, qrow_take, qrow_len, qrow_splice, qrow_row, rats_rows, rats_snoc, rats_set, rats_take, rats_rep, rats_nil, qrow_drop2, qrow_take2, qrow_drop1, qrow_spl0]
  refine call_by (m) (by rfl) (by simp) ?_
  simp (disch := omega) only [wk, tis, Int.reduceNe, Int.reduceEq, Int.reduceLT, Int.reduceLE, Int.reduceAdd, Int.reduceSub, Int.reduceNeg, Int.reduceMul, Int.reduceToNat, Nat.reduceSub, Nat.reduceMul, Nat.reduceLeDiff, Nat.reduceAdd, Nat.reduceLT, Nat.reduceEqDiff, reduceCtorEq, ↓reduceIte, rats_len, rats_get, lay_rat, qrow_take, qrow_len, qrow_splice, qrow_row, rats_rows, rats_snoc, rats_set, rats_take, rats_rep, rats_nil, qrow_drop2, qrow_take2, qrow_drop1, qrow_spl0]
  try rfl

theorem hAt_bad (p : List RQ) (x : RQ) (hp : BQ (2 ^ 40) (2 ^ 38) p) (hx : SzQ (2 ^ 38) x) (h : gd p = false ∨ nv x.2 = 0) : AC Tryz.prog 12 [cqw p, cqq x] none [cqq q0, ci 1] := by
  have g := hgood_ok p hp
  have o := hok_ok x ⟨Nat.le_trans hx.2.1 (by omega), hx.2.2⟩
  refine AC.by_walk (rs := [.cell 4 31, .tmp 5]) ords Tryz.func12 (by rfl) (by rfl) (by rfl) (by rfl) (by rfl) ?_
  simp (disch := omega) only [wk, tis, Int.reduceNe, Int.reduceEq, Int.reduceLT, Int.reduceLE, Int.reduceAdd, Int.reduceSub, Int.reduceNeg, Int.reduceMul, Int.reduceToNat, Nat.reduceSub, Nat.reduceMul, Nat.reduceLeDiff, Nat.reduceAdd, Nat.reduceLT, Nat.reduceEqDiff, reduceCtorEq, ↓reduceIte, rats_len, rats_get, lay_rat, qrow_take, qrow_len, qrow_splice, qrow_row, rats_rows, rats_snoc, rats_set, rats_take, rats_rep, rats_nil, qrow_drop2, qrow_take2, qrow_drop1, qrow_spl0]
  cases hg : gd p with
  | false =>
    rw [hg] at g
    refine call_by (g) (by rfl) (by simp) ?_
    simp (disch := omega) only [wk, tis, Int.reduceNe, Int.reduceEq, Int.reduceLT, Int.reduceLE, Int.reduceAdd, Int.reduceSub, Int.reduceNeg, Int.reduceMul, Int.reduceToNat, Nat.reduceSub, Nat.reduceMul, Nat.reduceLeDiff, Nat.reduceAdd, Nat.reduceLT, Nat.reduceEqDiff, reduceCtorEq, ↓reduceIte, rats_len, rats_get, lay_rat, qrow_take, qrow_len, qrow_splice, qrow_row, rats_rows, rats_snoc, rats_set, rats_take, rats_rep, rats_nil, qrow_drop2, qrow_take2, qrow_drop1, qrow_spl0]
    try rfl
  | true =>
    rw [hg] at g
    have h0 : nv x.2 = 0 := h.resolve_left (by rw [hg]; decide)
    rw [decide_eq_false (fun h => h h0)] at o
    refine call_by (g) (by rfl) (by simp) ?_
    simp (disch := omega) only [wk, tis, Int.reduceNe, Int.reduceEq, Int.reduceLT, Int.reduceLE, Int.reduceAdd, Int.reduceSub, Int.reduceNeg, Int.reduceMul, Int.reduceToNat, Nat.reduceSub, Nat.reduceMul, Nat.reduceLeDiff, Nat.reduceAdd, Nat.reduceLT, Nat.reduceEqDiff, reduceCtorEq, ↓reduceIte, rats_len, rats_get, lay_rat, qrow_take, qrow_len, qrow_splice, qrow_row, rats_rows, rats_snoc, rats_set, rats_take, rats_rep, rats_nil, qrow_drop2, qrow_take2, qrow_drop1, qrow_spl0]
    refine call_by (o) (by rfl) (by simp) ?_
    simp (disch := omega) only [wk, tis, Int.reduceNe, Int.reduceEq, Int.reduceLT, Int.reduceLE, Int.reduceAdd, Int.reduceSub, Int.reduceNeg, Int.reduceMul, Int.reduceToNat, Nat.reduceSub, Nat.reduceMul, Nat.reduceLeDiff, Nat.reduceAdd, Nat.reduceLT, Nat.reduceEqDiff, reduceCtorEq, ↓reduceIte, rats_len, rats_get, lay_rat, qrow_take, qrow_len, qrow_splice, qrow_row, rats_rows, rats_snoc, rats_set, rats_take, rats_rep, rats_nil, qrow_drop2, qrow_take2, qrow_drop1, qrow_spl0]
    try rfl

theorem eAt_ok (p : List RQ) (x : RQ) (B : Nat) (v : VB p x B) : AC Tryz.prog 13 [cqw p, cqq x] none [cqz (evq (qvs p) (qv x)), ci 0] := by
  have hl := v.hp.1
  have hb := v.b
  have g := qgood_ok p (v.hp.bq.mono (by omega) (by omega))
  rw [v.hp.gd] at g
  have o := qcheck_good x ⟨Nat.le_trans v.hx.2.1 (by omega), v.hx.2.2⟩ v.d
  have w := ewhole_ok 0 (by omega) (by omega)
  rw [Rat.intCast_zero] at w
  have e0 : evq ((qvs p).drop p.length) (qv x) = 0 := by rw [← qvs_len p, List.drop_length]; rfl
  refine AC.by_walk (rs := [.cell 4 31, .tmp 5]) ords Tryz.func13 (by rfl) (by rfl) (by rfl) (by rfl) (by rfl) ?_
  simp (disch := omega) only [wk, tis, Int.reduceNe, Int.reduceEq, Int.reduceLT, Int.reduceLE, Int.reduceAdd, Int.reduceSub, Int.reduceNeg, Int.reduceMul, Int.reduceToNat, Nat.reduceSub, Nat.reduceMul, Nat.reduceLeDiff, Nat.reduceAdd, Nat.reduceLT, Nat.reduceEqDiff, reduceCtorEq, ↓reduceIte, rats_len, rats_get, lay_rat, qrow_take, qrow_len, qrow_splice, qrow_row, rats_rows, rats_snoc, rats_set, rats_take, rats_rep, rats_nil, qrow_drop2, qrow_take2, qrow_drop1, qrow_spl0]
  refine call_by (g) (by rfl) (by simp) ?_
  simp (disch := omega) only [wk, tis, Int.reduceNe, Int.reduceEq, Int.reduceLT, Int.reduceLE, Int.reduceAdd, Int.reduceSub, Int.reduceNeg, Int.reduceMul, Int.reduceToNat, Nat.reduceSub, Nat.reduceMul, Nat.reduceLeDiff, Nat.reduceAdd, Nat.reduceLT, Nat.reduceEqDiff, reduceCtorEq, ↓reduceIte, rats_len, rats_get, lay_rat, qrow_take, qrow_len, qrow_splice, qrow_row, rats_rows, rats_snoc, rats_set, rats_take, rats_rep, rats_nil, qrow_drop2, qrow_take2, qrow_drop1, qrow_spl0]
  refine call_by (o) (by rfl) (by simp) ?_
  simp (disch := omega) only [wk, tis, Int.reduceNe, Int.reduceEq, Int.reduceLT, Int.reduceLE, Int.reduceAdd, Int.reduceSub, Int.reduceNeg, Int.reduceMul, Int.reduceToNat, Nat.reduceSub, Nat.reduceMul, Nat.reduceLeDiff, Nat.reduceAdd, Nat.reduceLT, Nat.reduceEqDiff, reduceCtorEq, ↓reduceIte, rats_len, rats_get, lay_rat, qrow_take, qrow_len, qrow_splice, qrow_row, rats_rows, rats_snoc, rats_set, rats_take, rats_rep, rats_nil, qrow_drop2, qrow_take2, qrow_drop1, qrow_spl0]
  refine call_by (w) (by rfl) (by simp) ?_
  simp (disch := omega) only [wk, tis, Int.reduceNe, Int.reduceEq, Int.reduceLT, Int.reduceLE, Int.reduceAdd, Int.reduceSub, Int.reduceNeg, Int.reduceMul, Int.reduceToNat, Nat.reduceSub, Nat.reduceMul, Nat.reduceLeDiff, Nat.reduceAdd, Nat.reduceLT, Nat.reduceEqDiff, reduceCtorEq, ↓reduceIte, rats_len, rats_get, lay_rat, qrow_take, qrow_len, qrow_splice, qrow_row, rats_rows, rats_snoc, rats_set, rats_take, rats_rep, rats_nil, qrow_drop2, qrow_take2, qrow_drop1, qrow_spl0]
  refine aloop_by (fun f H => ∃ (i st3 st6 : Nat), i ≤ p.length ∧ f 7 = .iv (.int .i64 ((i : Int) - 1)) ∧ f 0 = .iv (.sl (rats p)) ∧ f 3 = .hp 3 st3 0 0 ∧ H 3 = .blk false st3 31 3 [qrow x] ∧ f 6 = .hp 6 st6 0 0 ∧ H 6 = .blk false st6 31 3 [qrow (crat (evq ((qvs p).drop i) (qv x)))] ∧ f 4 = .hp 4 1 0 0 ∧ H 4 = .blk false 1 31 3 [[.bool false, .sl [], .sl []]]) (fun f H => (intAt f 7 + 1).toNat) ?_ ?_
  · refine ⟨p.length, 1, 1, by omega, ?_⟩
    simp (disch := omega) only [wk, tis, Int.reduceNe, Int.reduceEq, Int.reduceLT, Int.reduceLE, Int.reduceAdd, Int.reduceSub, Int.reduceNeg, Int.reduceMul, Int.reduceToNat, Nat.reduceSub, Nat.reduceMul, Nat.reduceLeDiff, Nat.reduceAdd, Nat.reduceLT, Nat.reduceEqDiff, reduceCtorEq, ↓reduceIte, rats_len, rats_get, lay_rat, qrow_take, qrow_len, qrow_splice, qrow_row, rats_rows, rats_snoc, rats_set, rats_take, rats_rep, rats_nil, qrow_drop2, qrow_take2, qrow_drop1, qrow_spl0, e0]
  rintro f H ⟨i, st3, st6, hi, hF⟩
  rw [intAt_of hF.1]
  simp (disch := omega) only [wk, tis, Int.reduceNe, Int.reduceEq, Int.reduceLT, Int.reduceLE, Int.reduceAdd, Int.reduceSub, Int.reduceNeg, Int.reduceMul, Int.reduceToNat, Nat.reduceSub, Nat.reduceMul, Nat.reduceLeDiff, Nat.reduceAdd, Nat.reduceLT, Nat.reduceEqDiff, reduceCtorEq, ↓reduceIte, rats_len, rats_get, lay_rat, qrow_take, qrow_len, qrow_splice, qrow_row, rats_rows, rats_snoc, rats_set, rats_take, rats_rep, rats_nil, qrow_drop2, qrow_take2, qrow_drop1, qrow_spl0, hF]
  refine if_by (fun hlt => ?_) (fun hlt => ?_)
  · obtain ⟨j, rfl⟩ : ∃ j, i = j + 1 := ⟨i - 1, by omega⟩
    have ej : ((j + 1 : Nat) : Int) - 1 = (j : Int) := by omega
    rw [ej] at hF
    have hlt' : j < p.length := by omega
    have hr := v.hp.get hlt'
    have hrd := v.hp.den hlt'
    have z1 := v.drop (j + 1)
    have z2 := v.drop j
    have zx := qz_raw v.hx v.d
    have zm := qz_mul (evq ((qvs p).drop (j + 1)) (qv x)) (qv x)
    have m := qmul_ok (crat (evq ((qvs p).drop (j + 1)) (qv x))) x (szq_crat (by omega)) (v.hx.mono (by omega)) (nv_crat0 _) v.d
    rw [qv_crat] at m
    have s := qadd_ok (crat (evq ((qvs p).drop (j + 1)) (qv x) * qv x)) (p.getD j q0) (szq_crat (by omega)) (hr.mono (by omega)) (nv_crat0 _) hrd
    rw [qv_crat, ← cfq_qvs, show evq ((qvs p).drop (j + 1)) (qv x) * qv x + cfq (qvs p) j = evq ((qvs p).drop j) (qv x) from (evq_drop (qvs p) (qv x) (by rw [qvs_len]; exact hlt')).symm] at s
    simp (disch := omega) only [wk, tis, Int.reduceNe, Int.reduceEq, Int.reduceLT, Int.reduceLE, Int.reduceAdd, Int.reduceSub, Int.reduceNeg, Int.reduceMul, Int.reduceToNat, Nat.reduceSub, Nat.reduceMul, Nat.reduceLeDiff, Nat.reduceAdd, Nat.reduceLT, Nat.reduceEqDiff, reduceCtorEq, ↓reduceIte, rats_len, rats_get, lay_rat, qrow_take, qrow_len, qrow_splice, qrow_row, rats_rows, rats_snoc, rats_set, rats_take, rats_rep, rats_nil, qrow_drop2, qrow_take2, qrow_drop1, qrow_spl0, hF, ej]
    refine call_by (m) (by first | rfl | (simp only [tocvs, tocv, hF, ej]; rfl) | (simp only [tocvs, tocv, toboxes, tobox, updH_at, Nat.reduceEqDiff, ↓reduceIte, hF, ej]; rfl)) (by simp) ?_
    simp (disch := omega) only [wk, tis, Int.reduceNe, Int.reduceEq, Int.reduceLT, Int.reduceLE, Int.reduceAdd, Int.reduceSub, Int.reduceNeg, Int.reduceMul, Int.reduceToNat, Nat.reduceSub, Nat.reduceMul, Nat.reduceLeDiff, Nat.reduceAdd, Nat.reduceLT, Nat.reduceEqDiff, reduceCtorEq, ↓reduceIte, rats_len, rats_get, lay_rat, qrow_take, qrow_len, qrow_splice, qrow_row, rats_rows, rats_snoc, rats_set, rats_take, rats_rep, rats_nil, qrow_drop2, qrow_take2, qrow_drop1, qrow_spl0, hF, ej]
    refine ⟨tmps_by (by kernel_rfl), ?_⟩
    refine call_by (s) (by first | rfl | (simp only [tocvs, tocv, hF, ej]; rfl) | (simp only [tocvs, tocv, toboxes, tobox, updH_at, Nat.reduceEqDiff, ↓reduceIte, hF, ej]; rfl)) (by simp) ?_
    simp (disch := omega) only [wk, tis, Int.reduceNe, Int.reduceEq, Int.reduceLT, Int.reduceLE, Int.reduceAdd, Int.reduceSub, Int.reduceNeg, Int.reduceMul, Int.reduceToNat, Nat.reduceSub, Nat.reduceMul, Nat.reduceLeDiff, Nat.reduceAdd, Nat.reduceLT, Nat.reduceEqDiff, reduceCtorEq, ↓reduceIte, rats_len, rats_get, lay_rat, qrow_take, qrow_len, qrow_splice, qrow_row, rats_rows, rats_snoc, rats_set, rats_take, rats_rep, rats_nil, qrow_drop2, qrow_take2, qrow_drop1, qrow_spl0, hF, ej]
    first | exact log_by (by kernel_rfl) | refine ⟨log_by (by kernel_rfl), ?_⟩
    refine ⟨⟨j, st3, st6, by omega, ?_⟩, by omega⟩
    (repeat' apply And.intro) <;> first | rfl | omega
  · have hi0 : i = 0 := by omega
    subst hi0
    rw [List.drop_zero] at hF
    simp (disch := omega) only [wk, tis, Int.reduceNe, Int.reduceEq, Int.reduceLT, Int.reduceLE, Int.reduceAdd, Int.reduceSub, Int.reduceNeg, Int.reduceMul, Int.reduceToNat, Nat.reduceSub, Nat.reduceMul, Nat.reduceLeDiff, Nat.reduceAdd, Nat.reduceLT, Nat.reduceEqDiff, reduceCtorEq, ↓reduceIte, rats_len, rats_get, lay_rat, qrow_take, qrow_len, qrow_splice, qrow_row, rats_rows, rats_snoc, rats_set, rats_take, rats_rep, rats_nil, qrow_drop2, qrow_take2, qrow_drop1, qrow_spl0, hF]
    try rfl

theorem eAt_bad (p : List RQ) (x : RQ) (hp : BQ (2 ^ 40) (2 ^ 38) p) (hx : SzQ (2 ^ 38) x) (h : gd p = false ∨ nv x.2 = 0) : AC Tryz.prog 13 [cqw p, cqq x] none [cqq q0, ci 1] := by
  have g := qgood_ok p (hp.mono (by omega) (by omega))
  refine AC.by_walk (rs := [.cell 4 31, .tmp 5]) ords Tryz.func13 (by rfl) (by rfl) (by rfl) (by rfl) (by rfl) ?_
  simp (disch := omega) only [wk, tis, Int.reduceNe, Int.reduceEq, Int.reduceLT, Int.reduceLE, Int.reduceAdd, Int.reduceSub, Int.reduceNeg, Int.reduceMul, Int.reduceToNat, Nat.reduceSub, Nat.reduceMul, Nat.reduceLeDiff, Nat.reduceAdd, Nat.reduceLT, Nat.reduceEqDiff, reduceCtorEq, ↓reduceIte, rats_len, rats_get, lay_rat, qrow_take, qrow_len, qrow_splice, qrow_row, rats_rows, rats_snoc, rats_set, rats_take, rats_rep, rats_nil, qrow_drop2, qrow_take2, qrow_drop1, qrow_spl0]
  cases hg : gd p with
  | false =>
    rw [hg] at g
    refine call_by (g) (by rfl) (by simp) ?_
    simp (disch := omega) only [wk, tis, Int.reduceNe, Int.reduceEq, Int.reduceLT, Int.reduceLE, Int.reduceAdd, Int.reduceSub, Int.reduceNeg, Int.reduceMul, Int.reduceToNat, Nat.reduceSub, Nat.reduceMul, Nat.reduceLeDiff, Nat.reduceAdd, Nat.reduceLT, Nat.reduceEqDiff, reduceCtorEq, ↓reduceIte, rats_len, rats_get, lay_rat, qrow_take, qrow_len, qrow_splice, qrow_row, rats_rows, rats_snoc, rats_set, rats_take, rats_rep, rats_nil, qrow_drop2, qrow_take2, qrow_drop1, qrow_spl0]
    try rfl
  | true =>
    rw [hg] at g
    have h0 : nv x.2 = 0 := h.resolve_left (by rw [hg]; decide)
    have o := qcheck_bad x ⟨Nat.le_trans hx.2.1 (by omega), hx.2.2⟩ h0
    refine call_by (g) (by rfl) (by simp) ?_
    simp (disch := omega) only [wk, tis, Int.reduceNe, Int.reduceEq, Int.reduceLT, Int.reduceLE, Int.reduceAdd, Int.reduceSub, Int.reduceNeg, Int.reduceMul, Int.reduceToNat, Nat.reduceSub, Nat.reduceMul, Nat.reduceLeDiff, Nat.reduceAdd, Nat.reduceLT, Nat.reduceEqDiff, reduceCtorEq, ↓reduceIte, rats_len, rats_get, lay_rat, qrow_take, qrow_len, qrow_splice, qrow_row, rats_rows, rats_snoc, rats_set, rats_take, rats_rep, rats_nil, qrow_drop2, qrow_take2, qrow_drop1, qrow_spl0]
    refine call_by (o) (by rfl) (by simp) ?_
    simp (disch := omega) only [wk, tis, Int.reduceNe, Int.reduceEq, Int.reduceLT, Int.reduceLE, Int.reduceAdd, Int.reduceSub, Int.reduceNeg, Int.reduceMul, Int.reduceToNat, Nat.reduceSub, Nat.reduceMul, Nat.reduceLeDiff, Nat.reduceAdd, Nat.reduceLT, Nat.reduceEqDiff, reduceCtorEq, ↓reduceIte, rats_len, rats_get, lay_rat, qrow_take, qrow_len, qrow_splice, qrow_row, rats_rows, rats_snoc, rats_set, rats_take, rats_rep, rats_nil, qrow_drop2, qrow_take2, qrow_drop1, qrow_spl0]
    try rfl
end Go.Proofs.YtjadkhkgmdikiaaGreat

namespace Go.Proofs.YtjadkhkgmdikiaaGreat
open Go Go.Proofs Go.AL
set_option linter.unusedSimpArgs false
set_option linter.unusedVariables false

/-! ### Signs of rationals -/
def sgq (q : Rat) : Int := q.num.sign
theorem sgq_pos {q : Rat} (h : 0 < q) : sgq q = 1 := by
  refine Int.sign_eq_one_of_pos ?_
  have h1 : 0 ≤ q.num := Rat.num_nonneg.mpr (Rat.le_of_lt h)
  have h2 : q.num ≠ 0 := fun e => by rw [Rat.num_eq_zero.mp e] at h; exact Rat.lt_irrefl h
  omega
theorem sgq_neg {q : Rat} (h : q < 0) : sgq q = -1 := by
  refine Int.sign_eq_neg_one_of_neg ?_
  have h1 : ¬ 0 ≤ q.num := fun e => Rat.not_le.mpr h (Rat.num_nonneg.mp e)
  omega
theorem sgq_zero : sgq 0 = 0 := rfl
theorem sgq_cases (q : Rat) : (0 < q ∧ sgq q = 1) ∨ (q = 0 ∧ sgq q = 0) ∨ (q < 0 ∧ sgq q = -1) := by
  by_cases h : q < 0
  · exact .inr (.inr ⟨h, sgq_neg h⟩)
  · by_cases h0 : q = 0
    · exact .inr (.inl ⟨h0, by rw [h0]; rfl⟩)
    · have : 0 < q := Rat.lt_of_le_of_ne (Rat.not_lt.mp h) (fun e => h0 e.symm)
      exact .inl ⟨this, sgq_pos this⟩
theorem sgq_mul (p q : Rat) : sgq (p * q) = sgq p * sgq q := by
  have hn : ∀ {x : Rat}, x < 0 → 0 < -x := fun {x} h => by grind
  rcases sgq_cases p with ⟨h1, e1⟩ | ⟨h1, e1⟩ | ⟨h1, e1⟩ <;> rcases sgq_cases q with ⟨h2, e2⟩ | ⟨h2, e2⟩ | ⟨h2, e2⟩ <;> rw [e1, e2]
  · rw [sgq_pos (Rat.mul_pos h1 h2)]; rfl
  · rw [h2, Rat.mul_zero]; rfl
  · have := Rat.mul_pos h1 (hn h2)
    rw [sgq_neg (by rw [Rat.mul_neg] at this; grind)]; rfl
  · rw [h1, Rat.zero_mul]; rfl
  · rw [h1, Rat.zero_mul]; rfl
  · rw [h1, Rat.zero_mul]; rfl
  · have := Rat.mul_pos (hn h1) h2
    rw [sgq_neg (by rw [Rat.neg_mul] at this; grind)]; rfl
  · rw [h2, Rat.mul_zero]; rfl
  · have := Rat.mul_pos (hn h1) (hn h2)
    rw [sgq_pos (by rw [Rat.neg_mul, Rat.mul_neg, Rat.neg_neg] at this; exact this)]; rfl
theorem sgq_int (z : Int) : sgq (z : Rat) = z.sign := by rw [sgq, Rat.num_intCast]
theorem sgq_eq_zero {q : Rat} : sgq q = 0 ↔ q = 0 := by
  rcases sgq_cases q with ⟨h1, e1⟩ | ⟨h1, e1⟩ | ⟨h1, e1⟩ <;> rw [e1]
  · exact ⟨fun h => by omega, fun h => by rw [h] at h1; exact (Rat.lt_irrefl h1).elim⟩
  · exact ⟨fun _ => h1, fun _ => rfl⟩
  · exact ⟨fun h => by omega, fun h => by rw [h] at h1; exact (Rat.lt_irrefl h1).elim⟩
theorem sgq_qv {r : RQ} (h : nv r.2 ≠ 0) : (iv r.1).sign = sgq (qv r) := by
  rw [qv_eq]
  have hp : (0 : Rat) < (nv r.2 : Rat) := Rat.natCast_pos.mpr (by omega)
  have e : (iv r.1 : Rat) = (iv r.1 : Rat) / (nv r.2 : Rat) * (nv r.2 : Rat) := (Rat.div_mul_cancel (Rat.ne_of_gt hp)).symm
  have e2 := congrArg sgq e
  rw [sgq_mul, sgq_int, sgq_pos hp, Int.mul_one] at e2
  exact e2

theorem evq_trim (q : List Rat) (x : Rat) : evq (trimq q) x = evq q x := evq_ext x (cfq_trimq q)
theorem evq_qp_trim (p : List Int) (x : Rat) : evq (qp (trimz p)) x = evq (qp p) x := evq_ext x fun k => by rw [cfq_qp, cfq_qp, cf_trimz]
theorem ihom_evq {a b : Int} (hb : b ≠ 0) : ∀ p : List Int, ((ihom p a b : Int) : Rat) * (b : Rat) = (b : Rat) ^ p.length * evq (qp p) ((a : Rat) / (b : Rat))
  | [] => by
    rw [ihom, qp, List.map_nil, evq, Rat.intCast_zero]; grind
  | c :: p => by
    have ih := ihom_evq (a := a) hb p
    have hr : (b : Rat) ≠ 0 := fun h => hb (Rat.intCast_eq_zero_iff.mp h)
    have e : qp (c :: p) = (c : Rat) :: qp p := rfl
    rw [ihom, e, evq, List.length_cons, Rat.intCast_add, Rat.intCast_mul, Rat.intCast_mul, Rat.intCast_pow, Rat.pow_succ]
    have h2 : (a : Rat) / (b : Rat) * (b : Rat) = (a : Rat) := Rat.div_mul_cancel hr
    generalize (a : Rat) / (b : Rat) = x at *
    rw [← h2]
    grind
theorem ihom_sign {p : List Int} {a : Int} {b : Nat} (hb : b ≠ 0) : (ihom (trimz p) a (b : Int)).sign = sgq (evq (qp p) ((a : Rat) / (b : Rat))) := by
  have h := ihom_evq (a := a) (b := (b : Int)) (by omega) (trimz p)
  rw [Rat.intCast_natCast, evq_qp_trim] at h
  have hp : (0 : Rat) < (b : Rat) := Rat.natCast_pos.mpr (by omega)
  have e := congrArg sgq h
  rwa [sgq_mul, sgq_mul, sgq_int, sgq_pos hp, sgq_pos (Rat.pow_pos hp), Int.mul_one, Int.one_mul] at e

/-! ### At integers -/
theorem ev_snoc (p : List Int) (c t : Int) : ev (p ++ [c]) t = ev p t + c * t ^ p.length := by
  induction p with
  | nil => simp only [List.nil_append, ev, List.length_nil]; grind
  | cons d p ih => simp only [List.cons_append, ev, ih, List.length_cons]; grind
theorem ihom_snoc (p : List Int) (c a b : Int) : ihom (p ++ [c]) a b = ihom p a b * b + c * a ^ p.length := by
  induction p with
  | nil => simp only [List.nil_append, ihom, List.length_nil]; grind
  | cons d p ih => simp only [List.cons_append, ihom, ih, List.length_append, List.length_cons, List.length_nil]; grind
theorem takez_snoc {q : List Int} {i : Nat} (h : i < q.length) : q.take (i + 1) = q.take i ++ [cf q i] := by
  rw [List.take_add_one]
  congr 1
  simp [cf, List.getD, h]

theorem ev_bound {p : List RI} {t : Int} (hp : RP (2 ^ 10) (2 ^ 20) p) (zt : zl t ≤ 2 ^ 20) : ∀ q : List Int, q.length ≤ p.length → (∀ z ∈ q, z ∈ pv p) → zl (ev q t) ≤ 2 ^ 32 := fun q hq hz => by
  have h := zl_ev (K := 2 ^ 20) (p := q) zt fun z hz' => hp.pv.2 z (hz z hz')
  have h2 : q.length ≤ 2 ^ 10 := Nat.le_trans hq hp.1
  have h3 := Nat.mul_le_mul_right (2 ^ 20 + 1) h2
  have h4 : 2 ^ 20 + 2 ^ 10 * (2 ^ 20 + 1) ≤ 2 ^ 32 := by decide
  omega

theorem eatint_ok (p : List RI) (t : RI) (hp : RP (2 ^ 10) (2 ^ 20) p) (ht : Sz (2 ^ 20) t) : AC Tryz.prog 17 [cw p, cr t] none [cz (ev (pv p) (iv t))] := by
  have hl := hp.1
  have hpl := pv_len p
  have zt := zl_iv ht
  have hb : ∀ i, zl (ev ((pv p).drop i) (iv t)) ≤ 2 ^ 32 := fun i => ev_bound hp zt _ (by rw [List.length_drop]; omega) fun z hz => List.mem_of_mem_drop hz
  have e0 : canon (ev ((pv p).drop p.length) (iv t)) = canon 0 := by rw [List.drop_of_length_le (by omega), ev]
  refine AC.by_walk (rs := [.cell 4 29]) ords Tryz.func17 (by rfl) (by rfl) (by rfl) (by rfl) (by rfl) ?_
  simp (disch := omega) only [wk, tis, Int.reduceNe, Int.reduceEq, Int.reduceLT, Int.reduceLE, Int.reduceAdd, Int.reduceSub, Int.reduceNeg, Int.reduceMul, Int.reduceToNat, Nat.reduceSub, Nat.reduceMul, Nat.reduceLeDiff, Nat.reduceAdd, Nat.reduceLT, Nat.reduceEqDiff, reduceCtorEq, ↓reduceIte, rats_len, rats_get, lay_rat, qrow_take, qrow_len, qrow_splice, qrow_row, rats_rows, rats_snoc, rats_set, rats_take, rats_rep, rats_nil, qrow_drop2, qrow_take2, qrow_drop1, qrow_spl0]
  refine call_by ((zOf_ok 0 (by omega) (by omega))) (by rfl) (by simp) ?_
  simp (disch := omega) only [wk, tis, Int.reduceNe, Int.reduceEq, Int.reduceLT, Int.reduceLE, Int.reduceAdd, Int.reduceSub, Int.reduceNeg, Int.reduceMul, Int.reduceToNat, Nat.reduceSub, Nat.reduceMul, Nat.reduceLeDiff, Nat.reduceAdd, Nat.reduceLT, Nat.reduceEqDiff, reduceCtorEq, ↓reduceIte, rats_len, rats_get, lay_rat, qrow_take, qrow_len, qrow_splice, qrow_row, rats_rows, rats_snoc, rats_set, rats_take, rats_rep, rats_nil, qrow_drop2, qrow_take2, qrow_drop1, qrow_spl0]
  refine aloop_by (fun f H => ∃ (i st3 st4 st5 : Nat), i ≤ p.length ∧ f 6 = .iv (.int .i64 ((i : Int) - 1)) ∧ f 0 = .iv (.sl (raws p)) ∧ f 3 = .hp 3 st3 0 0 ∧ H 3 = .blk false st3 29 2 [prow t] ∧ f 4 = .hp 4 st4 0 0 ∧ H 4 = .blk false st4 29 2 [prow (false, [])] ∧ f 5 = .hp 5 st5 0 0 ∧ H 5 = .blk false st5 29 2 [prow (canon (ev ((pv p).drop i) (iv t)))]) (fun f H => (intAt f 6 + 1).toNat) ?_ ?_
  · refine ⟨p.length, 1, 1, 1, by omega, ?_⟩
    simp (disch := omega) only [wk, tis, Int.reduceNe, Int.reduceEq, Int.reduceLT, Int.reduceLE, Int.reduceAdd, Int.reduceSub, Int.reduceNeg, Int.reduceMul, Int.reduceToNat, Nat.reduceSub, Nat.reduceMul, Nat.reduceLeDiff, Nat.reduceAdd, Nat.reduceLT, Nat.reduceEqDiff, reduceCtorEq, ↓reduceIte, rats_len, rats_get, lay_rat, qrow_take, qrow_len, qrow_splice, qrow_row, rats_rows, rats_snoc, rats_set, rats_take, rats_rep, rats_nil, qrow_drop2, qrow_take2, qrow_drop1, qrow_spl0, e0]
  rintro f H ⟨i, st3, st4, st5, hi, hF⟩
  rw [intAt_of hF.1]
  simp (disch := omega) only [wk, tis, Int.reduceNe, Int.reduceEq, Int.reduceLT, Int.reduceLE, Int.reduceAdd, Int.reduceSub, Int.reduceNeg, Int.reduceMul, Int.reduceToNat, Nat.reduceSub, Nat.reduceMul, Nat.reduceLeDiff, Nat.reduceAdd, Nat.reduceLT, Nat.reduceEqDiff, reduceCtorEq, ↓reduceIte, rats_len, rats_get, lay_rat, qrow_take, qrow_len, qrow_splice, qrow_row, rats_rows, rats_snoc, rats_set, rats_take, rats_rep, rats_nil, qrow_drop2, qrow_take2, qrow_drop1, qrow_spl0, hF]
  refine if_by (fun hlt => ?_) (fun hlt => ?_)
  · obtain ⟨j, rfl⟩ : ∃ j, i = j + 1 := ⟨i - 1, by omega⟩
    have ej : ((j + 1 : Nat) : Int) - 1 = (j : Int) := by omega
    rw [ej] at hF
    have hd := drop_cf (pv p) (i := j) (by omega)
    have zj := hp.pv.cf j
    have zb := hb (j + 1)
    have zm := zl_mul (ev ((pv p).drop (j + 1)) (iv t)) (iv t)
    simp (disch := omega) only [wk, tis, Int.reduceNe, Int.reduceEq, Int.reduceLT, Int.reduceLE, Int.reduceAdd, Int.reduceSub, Int.reduceNeg, Int.reduceMul, Int.reduceToNat, Nat.reduceSub, Nat.reduceMul, Nat.reduceLeDiff, Nat.reduceAdd, Nat.reduceLT, Nat.reduceEqDiff, reduceCtorEq, ↓reduceIte, rats_len, rats_get, lay_rat, qrow_take, qrow_len, qrow_splice, qrow_row, rats_rows, rats_snoc, rats_set, rats_take, rats_rep, rats_nil, qrow_drop2, qrow_take2, qrow_drop1, qrow_spl0, hF, ej]
    refine ⟨tmps_by (by kernel_rfl), ?_⟩
    have m := zmul_ok (canon (ev ((pv p).drop (j + 1)) (iv t))) t ((sz_canon _).mono (by omega)) (ht.mono (by omega))
    rw [iv_canon] at m
    refine call_by (m) (by first | rfl | (simp only [tocvs, tocv, hF, ej]; rfl) | (simp only [tocvs, tocv, toboxes, tobox, updH_at, Nat.reduceEqDiff, ↓reduceIte, hF, ej]; rfl)) (by simp) ?_
    simp (disch := omega) only [wk, tis, Int.reduceNe, Int.reduceEq, Int.reduceLT, Int.reduceLE, Int.reduceAdd, Int.reduceSub, Int.reduceNeg, Int.reduceMul, Int.reduceToNat, Nat.reduceSub, Nat.reduceMul, Nat.reduceLeDiff, Nat.reduceAdd, Nat.reduceLT, Nat.reduceEqDiff, reduceCtorEq, ↓reduceIte, rats_len, rats_get, lay_rat, qrow_take, qrow_len, qrow_splice, qrow_row, rats_rows, rats_snoc, rats_set, rats_take, rats_rep, rats_nil, qrow_drop2, qrow_take2, qrow_drop1, qrow_spl0, hF, ej]
    have s := zadd_ok (canon (ev ((pv p).drop (j + 1)) (iv t) * iv t)) (p.getD j (false, [])) ((sz_canon _).mono (by omega)) ((hp.get j).mono (by omega))
    rw [iv_canon, ← cf_pv] at s
    refine call_by (s) (by first | rfl | (simp only [tocvs, tocv, hF, ej]; rfl) | (simp only [tocvs, tocv, toboxes, tobox, updH_at, Nat.reduceEqDiff, ↓reduceIte, hF, ej]; rfl)) (by simp) ?_
    simp (disch := omega) only [wk, tis, Int.reduceNe, Int.reduceEq, Int.reduceLT, Int.reduceLE, Int.reduceAdd, Int.reduceSub, Int.reduceNeg, Int.reduceMul, Int.reduceToNat, Nat.reduceSub, Nat.reduceMul, Nat.reduceLeDiff, Nat.reduceAdd, Nat.reduceLT, Nat.reduceEqDiff, reduceCtorEq, ↓reduceIte, rats_len, rats_get, lay_rat, qrow_take, qrow_len, qrow_splice, qrow_row, rats_rows, rats_snoc, rats_set, rats_take, rats_rep, rats_nil, qrow_drop2, qrow_take2, qrow_drop1, qrow_spl0, hF, ej]
    first | exact log_by (by kernel_rfl) | refine ⟨log_by (by kernel_rfl), ?_⟩
    have ev' : ev ((pv p).drop (j + 1)) (iv t) * iv t + cf (pv p) j = ev ((pv p).drop j) (iv t) := by rw [hd, ev, Int.add_comm, Int.mul_comm]
    refine ⟨⟨j, st3, st4, st5, by omega, ?_⟩, by omega⟩
    rw [ev']
    (repeat' apply And.intro) <;> first | rfl | omega
  · have hi0 : i = 0 := by omega
    subst hi0
    rw [List.drop_zero] at hF
    simp (disch := omega) only [wk, tis, Int.reduceNe, Int.reduceEq, Int.reduceLT, Int.reduceLE, Int.reduceAdd, Int.reduceSub, Int.reduceNeg, Int.reduceMul, Int.reduceToNat, Nat.reduceSub, Nat.reduceMul, Nat.reduceLeDiff, Nat.reduceAdd, Nat.reduceLT, Nat.reduceEqDiff, reduceCtorEq, ↓reduceIte, rats_len, rats_get, lay_rat, qrow_take, qrow_len, qrow_splice, qrow_row, rats_rows, rats_snoc, rats_set, rats_take, rats_rep, rats_nil, qrow_drop2, qrow_take2, qrow_drop1, qrow_spl0, hF]
    try rfl

theorem hatint_ok (p : List RI) (t : RI) (hp : RP (2 ^ 10) (2 ^ 20) p) (ht : Sz (2 ^ 20) t) : AC Tryz.prog 18 [cw p, cr t] none [cz (ev (pv p) (iv t))] := by
  have hl := hp.1
  have hpl := pv_len p
  have zt := zl_iv ht
  have hb : ∀ i, zl (ev ((pv p).take i) (iv t)) ≤ 2 ^ 32 := fun i => ev_bound hp zt _ (by rw [List.length_take]; omega) fun z hz => List.mem_of_mem_take hz
  have e0 : canon (ev ((pv p).take 0) (iv t)) = (false, []) := by rw [List.take_zero, ev, canon_zero]
  have e1 : canon (iv t ^ 0) = canon 1 := by rw [Int.pow_zero]
  refine AC.by_walk (rs := [.cell 4 29]) ords Tryz.func18 (by rfl) (by rfl) (by rfl) (by rfl) (by rfl) ?_
  simp (disch := omega) only [wk, tis, Int.reduceNe, Int.reduceEq, Int.reduceLT, Int.reduceLE, Int.reduceAdd, Int.reduceSub, Int.reduceNeg, Int.reduceMul, Int.reduceToNat, Nat.reduceSub, Nat.reduceMul, Nat.reduceLeDiff, Nat.reduceAdd, Nat.reduceLT, Nat.reduceEqDiff, reduceCtorEq, ↓reduceIte, rats_len, rats_get, lay_rat, qrow_take, qrow_len, qrow_splice, qrow_row, rats_rows, rats_snoc, rats_set, rats_take, rats_rep, rats_nil, qrow_drop2, qrow_take2, qrow_drop1, qrow_spl0]
  refine call_by ((rZ_ok 1 (by omega) (by omega))) (by rfl) (by simp) ?_
  simp (disch := omega) only [wk, tis, Int.reduceNe, Int.reduceEq, Int.reduceLT, Int.reduceLE, Int.reduceAdd, Int.reduceSub, Int.reduceNeg, Int.reduceMul, Int.reduceToNat, Nat.reduceSub, Nat.reduceMul, Nat.reduceLeDiff, Nat.reduceAdd, Nat.reduceLT, Nat.reduceEqDiff, reduceCtorEq, ↓reduceIte, rats_len, rats_get, lay_rat, qrow_take, qrow_len, qrow_splice, qrow_row, rats_rows, rats_snoc, rats_set, rats_take, rats_rep, rats_nil, qrow_drop2, qrow_take2, qrow_drop1, qrow_spl0]
  refine aloop_by (fun f H => ∃ (i st3 st4 st5 st6 : Nat), i ≤ p.length ∧ f 7 = .iv (.int .i64 i) ∧ f 0 = .iv (.sl (raws p)) ∧ f 3 = .hp 3 st3 0 0 ∧ H 3 = .blk false st3 29 2 [prow t] ∧ f 4 = .hp 4 st4 0 0 ∧ H 4 = .blk false st4 29 2 [prow (false, [])] ∧ f 5 = .hp 5 st5 0 0 ∧ H 5 = .blk false st5 29 2 [prow (canon (ev ((pv p).take i) (iv t)))] ∧ f 6 = .hp 6 st6 0 0 ∧ H 6 = .blk false st6 29 2 [prow (canon (iv t ^ i))]) (fun f H => (p.length - intAt f 7).toNat) ?_ ?_
  · refine ⟨0, 1, 1, 1, 1, by omega, ?_⟩
    simp (disch := omega) only [wk, tis, Int.reduceNe, Int.reduceEq, Int.reduceLT, Int.reduceLE, Int.reduceAdd, Int.reduceSub, Int.reduceNeg, Int.reduceMul, Int.reduceToNat, Nat.reduceSub, Nat.reduceMul, Nat.reduceLeDiff, Nat.reduceAdd, Nat.reduceLT, Nat.reduceEqDiff, reduceCtorEq, ↓reduceIte, rats_len, rats_get, lay_rat, qrow_take, qrow_len, qrow_splice, qrow_row, rats_rows, rats_snoc, rats_set, rats_take, rats_rep, rats_nil, qrow_drop2, qrow_take2, qrow_drop1, qrow_spl0, e0, e1]
  rintro f H ⟨i, st3, st4, st5, st6, hi, hF⟩
  rw [intAt_of hF.1]
  simp (disch := omega) only [wk, tis, Int.reduceNe, Int.reduceEq, Int.reduceLT, Int.reduceLE, Int.reduceAdd, Int.reduceSub, Int.reduceNeg, Int.reduceMul, Int.reduceToNat, Nat.reduceSub, Nat.reduceMul, Nat.reduceLeDiff, Nat.reduceAdd, Nat.reduceLT, Nat.reduceEqDiff, reduceCtorEq, ↓reduceIte, rats_len, rats_get, lay_rat, qrow_take, qrow_len, qrow_splice, qrow_row, rats_rows, rats_snoc, rats_set, rats_take, rats_rep, rats_nil, qrow_drop2, qrow_take2, qrow_drop1, qrow_spl0, hF]
  refine if_by (fun hlt => ?_) (fun hlt => ?_)
  · have zj := hp.pv.cf i
    have zb := hb i
    have zp := zl_pow_b zt (i := i) (by omega)
    have zm := zl_mul (cf (pv p) i) (iv t ^ i)
    have m := rMul_ok (p.getD i (false, [])) (canon (iv t ^ i)) ((hp.get i).mono (by omega)) ((sz_canon _).mono (by omega))
    rw [iv_canon, ← cf_pv] at m
    have s := rAdd_ok (canon (ev ((pv p).take i) (iv t))) (canon (cf (pv p) i * iv t ^ i)) ((sz_canon _).mono (by omega)) ((sz_canon _).mono (by omega))
    have el : ((pv p).take i).length = i := by rw [List.length_take]; omega
    have et := ev_snoc ((pv p).take i) (cf (pv p) i) (iv t)
    rw [el, ← takez_snoc (by omega)] at et
    rw [iv_canon, iv_canon, ← et] at s
    have w := rMul_ok (canon (iv t ^ i)) t ((sz_canon _).mono (by omega)) (ht.mono (by omega))
    rw [iv_canon, ← Int.pow_succ] at w
    simp (disch := omega) only [wk, tis, Int.reduceNe, Int.reduceEq, Int.reduceLT, Int.reduceLE, Int.reduceAdd, Int.reduceSub, Int.reduceNeg, Int.reduceMul, Int.reduceToNat, Nat.reduceSub, Nat.reduceMul, Nat.reduceLeDiff, Nat.reduceAdd, Nat.reduceLT, Nat.reduceEqDiff, reduceCtorEq, ↓reduceIte, rats_len, rats_get, lay_rat, qrow_take, qrow_len, qrow_splice, qrow_row, rats_rows, rats_snoc, rats_set, rats_take, rats_rep, rats_nil, qrow_drop2, qrow_take2, qrow_drop1, qrow_spl0, hF]
    refine ⟨tmps_by (by kernel_rfl), ?_⟩
    refine call_by (m) (by first | rfl | (simp only [tocvs, tocv, hF]; rfl) | (simp only [tocvs, tocv, toboxes, tobox, updH_at, Nat.reduceEqDiff, ↓reduceIte, hF]; rfl)) (by simp) ?_
    simp (disch := omega) only [wk, tis, Int.reduceNe, Int.reduceEq, Int.reduceLT, Int.reduceLE, Int.reduceAdd, Int.reduceSub, Int.reduceNeg, Int.reduceMul, Int.reduceToNat, Nat.reduceSub, Nat.reduceMul, Nat.reduceLeDiff, Nat.reduceAdd, Nat.reduceLT, Nat.reduceEqDiff, reduceCtorEq, ↓reduceIte, rats_len, rats_get, lay_rat, qrow_take, qrow_len, qrow_splice, qrow_row, rats_rows, rats_snoc, rats_set, rats_take, rats_rep, rats_nil, qrow_drop2, qrow_take2, qrow_drop1, qrow_spl0, hF]
    refine call_by (s) (by first | rfl | (simp only [tocvs, tocv, hF]; rfl) | (simp only [tocvs, tocv, toboxes, tobox, updH_at, Nat.reduceEqDiff, ↓reduceIte, hF]; rfl)) (by simp) ?_
    simp (disch := omega) only [wk, tis, Int.reduceNe, Int.reduceEq, Int.reduceLT, Int.reduceLE, Int.reduceAdd, Int.reduceSub, Int.reduceNeg, Int.reduceMul, Int.reduceToNat, Nat.reduceSub, Nat.reduceMul, Nat.reduceLeDiff, Nat.reduceAdd, Nat.reduceLT, Nat.reduceEqDiff, reduceCtorEq, ↓reduceIte, rats_len, rats_get, lay_rat, qrow_take, qrow_len, qrow_splice, qrow_row, rats_rows, rats_snoc, rats_set, rats_take, rats_rep, rats_nil, qrow_drop2, qrow_take2, qrow_drop1, qrow_spl0, hF]
    first | exact log_by (by kernel_rfl) | refine ⟨log_by (by kernel_rfl), ?_⟩
    refine call_by (w) (by first | rfl | (simp only [tocvs, tocv, hF]; rfl) | (simp only [tocvs, tocv, toboxes, tobox, updH_at, Nat.reduceEqDiff, ↓reduceIte, hF]; rfl)) (by simp) ?_
    simp (disch := omega) only [wk, tis, Int.reduceNe, Int.reduceEq, Int.reduceLT, Int.reduceLE, Int.reduceAdd, Int.reduceSub, Int.reduceNeg, Int.reduceMul, Int.reduceToNat, Nat.reduceSub, Nat.reduceMul, Nat.reduceLeDiff, Nat.reduceAdd, Nat.reduceLT, Nat.reduceEqDiff, reduceCtorEq, ↓reduceIte, rats_len, rats_get, lay_rat, qrow_take, qrow_len, qrow_splice, qrow_row, rats_rows, rats_snoc, rats_set, rats_take, rats_rep, rats_nil, qrow_drop2, qrow_take2, qrow_drop1, qrow_spl0, hF]
    refine ⟨⟨i + 1, st3, st4, st5, st6, by omega, ?_⟩, by omega⟩
    (repeat' apply And.intro) <;> first | rfl | omega
  · simp (disch := omega) only [wk, tis, Int.reduceNe, Int.reduceEq, Int.reduceLT, Int.reduceLE, Int.reduceAdd, Int.reduceSub, Int.reduceNeg, Int.reduceMul, Int.reduceToNat, Nat.reduceSub, Nat.reduceMul, Nat.reduceLeDiff, Nat.reduceAdd, Nat.reduceLT, Nat.reduceEqDiff, reduceCtorEq, ↓reduceIte, rats_len, rats_get, lay_rat, qrow_take, qrow_len, qrow_splice, qrow_row, rats_rows, rats_snoc, rats_set, rats_take, rats_rep, rats_nil, qrow_drop2, qrow_take2, qrow_drop1, qrow_spl0, hF]
    rw [List.take_of_length_le (by omega)]
    try rfl

theorem ehomog_ok (p : List RI) (a b : RI) (hp : RP (2 ^ 10) (2 ^ 20) p) (ha : Sz (2 ^ 20) a) (hb : Sz (2 ^ 20) b) : AC Tryz.prog 19 [cw p, cr a, cr b] none [cz (ihom (trimz (pv p)) (iv a) (iv b))] := by
  have za := zl_iv ha
  have zb := zl_iv hb
  refine AC.by_walk (rs := [.cell 6 29]) ords Tryz.func19 (by rfl) (by rfl) (by rfl) (by rfl) (by rfl) ?_
  simp (disch := omega) only [wk, tis, Int.reduceNe, Int.reduceEq, Int.reduceLT, Int.reduceLE, Int.reduceAdd, Int.reduceSub, Int.reduceNeg, Int.reduceMul, Int.reduceToNat, Nat.reduceSub, Nat.reduceMul, Nat.reduceLeDiff, Nat.reduceAdd, Nat.reduceLT, Nat.reduceEqDiff, reduceCtorEq, ↓reduceIte, rats_len, rats_get, lay_rat, qrow_take, qrow_len, qrow_splice, qrow_row, rats_rows, rats_snoc, rats_set, rats_take, rats_rep, rats_nil, qrow_drop2, qrow_take2, qrow_drop1, qrow_spl0]
  refine call_by ((pnorm_ok p (hp.mono (by omega) (by omega)))) (by rfl) (by simp) ?_
  simp (disch := omega) only [wk, tis, Int.reduceNe, Int.reduceEq, Int.reduceLT, Int.reduceLE, Int.reduceAdd, Int.reduceSub, Int.reduceNeg, Int.reduceMul, Int.reduceToNat, Nat.reduceSub, Nat.reduceMul, Nat.reduceLeDiff, Nat.reduceAdd, Nat.reduceLT, Nat.reduceEqDiff, reduceCtorEq, ↓reduceIte, rats_len, rats_get, lay_rat, qrow_take, qrow_len, qrow_splice, qrow_row, rats_rows, rats_snoc, rats_set, rats_take, rats_rep, rats_nil, qrow_drop2, qrow_take2, qrow_drop1, qrow_spl0]
  have hA := hp.pv.trimz
  unfold cpoly
  generalize trimz (pv p) = A at *
  have hAl := hA.1
  have hq : (A.map canon).length = A.length := by simp
  have hB : ∀ i, zl (ihom (A.drop i) (iv a) (iv b)) ≤ 2 ^ 32 := fun i => by
    have h := zl_ihom (K := 2 ^ 20) (p := A.drop i) za zb fun z hz => hA.2 z (List.mem_of_mem_drop hz)
    have h2 : (A.drop i).length ≤ 2 ^ 10 := by rw [List.length_drop]; omega
    have h3 := Nat.mul_le_mul_right (2 ^ 20 + 1) h2
    have h4 : 2 ^ 20 + 2 ^ 10 * (2 ^ 20 + 1) + 1 ≤ 2 ^ 32 := by decide
    omega
  refine call_by ((zOf_ok 0 (by omega) (by omega))) (by first | rfl | (simp only [tocvs, tocv, hq]; rfl) | (simp only [tocvs, tocv, toboxes, tobox, updH_at, Nat.reduceEqDiff, ↓reduceIte, hq]; rfl)) (by simp) ?_
  simp (disch := omega) only [wk, tis, Int.reduceNe, Int.reduceEq, Int.reduceLT, Int.reduceLE, Int.reduceAdd, Int.reduceSub, Int.reduceNeg, Int.reduceMul, Int.reduceToNat, Nat.reduceSub, Nat.reduceMul, Nat.reduceLeDiff, Nat.reduceAdd, Nat.reduceLT, Nat.reduceEqDiff, reduceCtorEq, ↓reduceIte, rats_len, rats_get, lay_rat, qrow_take, qrow_len, qrow_splice, qrow_row, rats_rows, rats_snoc, rats_set, rats_take, rats_rep, rats_nil, qrow_drop2, qrow_take2, qrow_drop1, qrow_spl0, hq]
  refine call_by ((zOf_ok 1 (by omega) (by omega))) (by first | rfl | (simp only [tocvs, tocv, hq]; rfl) | (simp only [tocvs, tocv, toboxes, tobox, updH_at, Nat.reduceEqDiff, ↓reduceIte, hq]; rfl)) (by simp) ?_
  simp (disch := omega) only [wk, tis, Int.reduceNe, Int.reduceEq, Int.reduceLT, Int.reduceLE, Int.reduceAdd, Int.reduceSub, Int.reduceNeg, Int.reduceMul, Int.reduceToNat, Nat.reduceSub, Nat.reduceMul, Nat.reduceLeDiff, Nat.reduceAdd, Nat.reduceLT, Nat.reduceEqDiff, reduceCtorEq, ↓reduceIte, rats_len, rats_get, lay_rat, qrow_take, qrow_len, qrow_splice, qrow_row, rats_rows, rats_snoc, rats_set, rats_take, rats_rep, rats_nil, qrow_drop2, qrow_take2, qrow_drop1, qrow_spl0, hq]
  have e0 : canon (ihom (A.drop A.length) (iv a) (iv b)) = canon 0 := by rw [List.drop_length, ihom]
  have e1 : canon (iv b ^ (A.length - A.length)) = canon 1 := by rw [Nat.sub_self, Int.pow_zero]
  refine aloop_by (fun f H => ∃ (i st4 st5 st6 st7 st8 : Nat), i ≤ A.length ∧ f 9 = .iv (.int .i64 ((i : Int) - 1)) ∧ f 0 = .iv (.sl (raws (A.map canon))) ∧ f 4 = .hp 4 st4 0 0 ∧ H 4 = .blk false st4 29 2 [prow a] ∧ f 5 = .hp 5 st5 0 0 ∧ H 5 = .blk false st5 29 2 [prow b] ∧ f 6 = .hp 6 st6 0 0 ∧ H 6 = .blk false st6 29 2 [prow (false, [])] ∧ f 7 = .hp 7 st7 0 0 ∧ H 7 = .blk false st7 29 2 [prow (canon (ihom (A.drop i) (iv a) (iv b)))] ∧ f 8 = .hp 8 st8 0 0 ∧ H 8 = .blk false st8 29 2 [prow (canon (iv b ^ (A.length - i)))]) (fun f H => (intAt f 9 + 1).toNat) ?_ ?_
  · refine ⟨A.length, 1, 1, 1, 1, 1, by omega, ?_⟩
    simp (disch := omega) only [wk, tis, Int.reduceNe, Int.reduceEq, Int.reduceLT, Int.reduceLE, Int.reduceAdd, Int.reduceSub, Int.reduceNeg, Int.reduceMul, Int.reduceToNat, Nat.reduceSub, Nat.reduceMul, Nat.reduceLeDiff, Nat.reduceAdd, Nat.reduceLT, Nat.reduceEqDiff, reduceCtorEq, ↓reduceIte, rats_len, rats_get, lay_rat, qrow_take, qrow_len, qrow_splice, qrow_row, rats_rows, rats_snoc, rats_set, rats_take, rats_rep, rats_nil, qrow_drop2, qrow_take2, qrow_drop1, qrow_spl0, e0, e1]
  rintro f H ⟨i, st4, st5, st6, st7, st8, hi, hF⟩
  rw [intAt_of hF.1]
  simp (disch := omega) only [wk, tis, Int.reduceNe, Int.reduceEq, Int.reduceLT, Int.reduceLE, Int.reduceAdd, Int.reduceSub, Int.reduceNeg, Int.reduceMul, Int.reduceToNat, Nat.reduceSub, Nat.reduceMul, Nat.reduceLeDiff, Nat.reduceAdd, Nat.reduceLT, Nat.reduceEqDiff, reduceCtorEq, ↓reduceIte, rats_len, rats_get, lay_rat, qrow_take, qrow_len, qrow_splice, qrow_row, rats_rows, rats_snoc, rats_set, rats_take, rats_rep, rats_nil, qrow_drop2, qrow_take2, qrow_drop1, qrow_spl0, hF]
  refine if_by (fun hlt => ?_) (fun hlt => ?_)
  · obtain ⟨j, rfl⟩ : ∃ j, i = j + 1 := ⟨i - 1, by omega⟩
    have ej : ((j + 1 : Nat) : Int) - 1 = (j : Int) := by omega
    rw [ej] at hF
    have hd := drop_cf A (i := j) (by omega)
    have zj := hA.cf j
    have zh := hB (j + 1)
    have zp := zl_pow_b zb (i := A.length - (j + 1)) (by omega)
    have zm := zl_mul (ihom (A.drop (j + 1)) (iv a) (iv b)) (iv a)
    have zm2 := zl_mul (cf A j) (iv b ^ (A.length - (j + 1)))
    simp (disch := omega) only [wk, tis, Int.reduceNe, Int.reduceEq, Int.reduceLT, Int.reduceLE, Int.reduceAdd, Int.reduceSub, Int.reduceNeg, Int.reduceMul, Int.reduceToNat, Nat.reduceSub, Nat.reduceMul, Nat.reduceLeDiff, Nat.reduceAdd, Nat.reduceLT, Nat.reduceEqDiff, reduceCtorEq, ↓reduceIte, rats_len, rats_get, lay_rat, qrow_take, qrow_len, qrow_splice, qrow_row, rats_rows, rats_snoc, rats_set, rats_take, rats_rep, rats_nil, qrow_drop2, qrow_take2, qrow_drop1, qrow_spl0, hF, ej, hq]
    refine ⟨tmps_by (by kernel_rfl), ?_⟩
    have m := zmul_ok (canon (ihom (A.drop (j + 1)) (iv a) (iv b))) a ((sz_canon _).mono (by omega)) (ha.mono (by omega))
    rw [iv_canon] at m
    refine call_by (m) (by first | rfl | (simp only [tocvs, tocv, hF, ej, hq]; rfl) | (simp only [tocvs, tocv, toboxes, tobox, updH_at, Nat.reduceEqDiff, ↓reduceIte, hF, ej, hq]; rfl)) (by simp) ?_
    simp (disch := omega) only [wk, tis, Int.reduceNe, Int.reduceEq, Int.reduceLT, Int.reduceLE, Int.reduceAdd, Int.reduceSub, Int.reduceNeg, Int.reduceMul, Int.reduceToNat, Nat.reduceSub, Nat.reduceMul, Nat.reduceLeDiff, Nat.reduceAdd, Nat.reduceLT, Nat.reduceEqDiff, reduceCtorEq, ↓reduceIte, rats_len, rats_get, lay_rat, qrow_take, qrow_len, qrow_splice, qrow_row, rats_rows, rats_snoc, rats_set, rats_take, rats_rep, rats_nil, qrow_drop2, qrow_take2, qrow_drop1, qrow_spl0, hF, ej, hq]
    have m2 := zmul_ok (canon (cf A j)) (canon (iv b ^ (A.length - (j + 1)))) ((sz_canon _).mono (by omega)) ((sz_canon _).mono (by omega))
    rw [iv_canon, iv_canon] at m2
    refine call_by (m2) (by first | rfl | (simp only [tocvs, tocv, hF, ej, hq]; rfl) | (simp only [tocvs, tocv, toboxes, tobox, updH_at, Nat.reduceEqDiff, ↓reduceIte, hF, ej, hq]; rfl)) (by simp) ?_
    simp (disch := omega) only [wk, tis, Int.reduceNe, Int.reduceEq, Int.reduceLT, Int.reduceLE, Int.reduceAdd, Int.reduceSub, Int.reduceNeg, Int.reduceMul, Int.reduceToNat, Nat.reduceSub, Nat.reduceMul, Nat.reduceLeDiff, Nat.reduceAdd, Nat.reduceLT, Nat.reduceEqDiff, reduceCtorEq, ↓reduceIte, rats_len, rats_get, lay_rat, qrow_take, qrow_len, qrow_splice, qrow_row, rats_rows, rats_snoc, rats_set, rats_take, rats_rep, rats_nil, qrow_drop2, qrow_take2, qrow_drop1, qrow_spl0, hF, ej, hq]
    have s := zadd_ok (canon (ihom (A.drop (j + 1)) (iv a) (iv b) * iv a)) (canon (cf A j * iv b ^ (A.length - (j + 1)))) ((sz_canon _).mono (by omega)) ((sz_canon _).mono (by omega))
    rw [iv_canon, iv_canon] at s
    refine call_by (s) (by first | rfl | (simp only [tocvs, tocv, hF, ej, hq]; rfl) | (simp only [tocvs, tocv, toboxes, tobox, updH_at, Nat.reduceEqDiff, ↓reduceIte, hF, ej, hq]; rfl)) (by simp) ?_
    simp (disch := omega) only [wk, tis, Int.reduceNe, Int.reduceEq, Int.reduceLT, Int.reduceLE, Int.reduceAdd, Int.reduceSub, Int.reduceNeg, Int.reduceMul, Int.reduceToNat, Nat.reduceSub, Nat.reduceMul, Nat.reduceLeDiff, Nat.reduceAdd, Nat.reduceLT, Nat.reduceEqDiff, reduceCtorEq, ↓reduceIte, rats_len, rats_get, lay_rat, qrow_take, qrow_len, qrow_splice, qrow_row, rats_rows, rats_snoc, rats_set, rats_take, rats_rep, rats_nil, qrow_drop2, qrow_take2, qrow_drop1, qrow_spl0, hF, ej, hq]
    first | exact log_by (by kernel_rfl) | refine ⟨log_by (by kernel_rfl), ?_⟩
    have m3 := zmul_ok (canon (iv b ^ (A.length - (j + 1)))) b ((sz_canon _).mono (by omega)) (hb.mono (by omega))
    rw [iv_canon, ← Int.pow_succ, show (A.length - (j + 1)).succ = A.length - j by omega] at m3
    refine call_by (m3) (by first | rfl | (simp only [tocvs, tocv, hF, ej, hq]; rfl) | (simp only [tocvs, tocv, toboxes, tobox, updH_at, Nat.reduceEqDiff, ↓reduceIte, hF, ej, hq]; rfl)) (by simp) ?_
    simp (disch := omega) only [wk, tis, Int.reduceNe, Int.reduceEq, Int.reduceLT, Int.reduceLE, Int.reduceAdd, Int.reduceSub, Int.reduceNeg, Int.reduceMul, Int.reduceToNat, Nat.reduceSub, Nat.reduceMul, Nat.reduceLeDiff, Nat.reduceAdd, Nat.reduceLT, Nat.reduceEqDiff, reduceCtorEq, ↓reduceIte, rats_len, rats_get, lay_rat, qrow_take, qrow_len, qrow_splice, qrow_row, rats_rows, rats_snoc, rats_set, rats_take, rats_rep, rats_nil, qrow_drop2, qrow_take2, qrow_drop1, qrow_spl0, hF, ej, hq]
    have e' : ihom (A.drop (j + 1)) (iv a) (iv b) * iv a + cf A j * iv b ^ (A.length - (j + 1)) = ihom (A.drop j) (iv a) (iv b) := by rw [hd, ihom, List.length_drop, Int.add_comm, Int.mul_comm (iv a)]
    refine ⟨⟨j, st4, st5, st6, st7, st8, by omega, ?_⟩, by omega⟩
    rw [e']
    (repeat' apply And.intro) <;> first | rfl | omega
  · have hi0 : i = 0 := by omega
    subst hi0
    rw [List.drop_zero] at hF
    simp (disch := omega) only [wk, tis, Int.reduceNe, Int.reduceEq, Int.reduceLT, Int.reduceLE, Int.reduceAdd, Int.reduceSub, Int.reduceNeg, Int.reduceMul, Int.reduceToNat, Nat.reduceSub, Nat.reduceMul, Nat.reduceLeDiff, Nat.reduceAdd, Nat.reduceLT, Nat.reduceEqDiff, reduceCtorEq, ↓reduceIte, rats_len, rats_get, lay_rat, qrow_take, qrow_len, qrow_splice, qrow_row, rats_rows, rats_snoc, rats_set, rats_take, rats_rep, rats_nil, qrow_drop2, qrow_take2, qrow_drop1, qrow_spl0, hF]
    try rfl

/-- The term of the reference, so far. -/
def tmh (c a b : Int) (i k : Nat) : Int := c * a ^ min k i * b ^ (k - i)
theorem tmh_zero (c a b : Int) (i : Nat) : tmh c a b i 0 = c := by
  unfold tmh
  rw [Nat.zero_min, Nat.zero_sub]; simp
theorem tmh_lt {c a b : Int} {i k : Nat} (h : k < i) : tmh c a b i k * a = tmh c a b i (k + 1) := by
  unfold tmh
  rw [Nat.min_eq_left (by omega), Nat.min_eq_left (by omega), show k - i = 0 by omega, show k + 1 - i = 0 by omega, Int.pow_succ]
  simp only [Int.pow_zero, Int.mul_one]
  rw [Int.mul_assoc]
theorem tmh_ge {c a b : Int} {i k : Nat} (h : ¬ k < i) : tmh c a b i k * b = tmh c a b i (k + 1) := by
  unfold tmh
  rw [Nat.min_eq_right (by omega), Nat.min_eq_right (by omega), show k + 1 - i = (k - i) + 1 by omega, Int.pow_succ]
  rw [Int.mul_assoc]
theorem zl_tmh {c a b : Int} {i k : Nat} (hc : zl c ≤ 2 ^ 20) (ha : zl a ≤ 2 ^ 20) (hb : zl b ≤ 2 ^ 20) (hk : k ≤ 2 ^ 10) : zl (tmh c a b i k) ≤ 2 ^ 33 := by
  have h1 := zl_pow_b ha (i := min k i) (by omega)
  have h2 := zl_pow_b hb (i := k - i) (by omega)
  have h3 := zl_mul c (a ^ min k i)
  have h4 := zl_mul (c * a ^ min k i) (b ^ (k - i))
  unfold tmh
  omega
def ihs (A : List Int) (a b : Int) (i : Nat) : Int := ihom (A.take i) a b * b ^ (A.length - i)
theorem ihs_step {A : List Int} {a b : Int} {i : Nat} (h : i < A.length) : ihs A a b i + tmh (cf A i) a b i (A.length - 1) = ihs A a b (i + 1) := by
  unfold ihs tmh
  rw [takez_snoc h, ihom_snoc, List.length_take, Nat.min_eq_left (show i ≤ A.length by omega), Nat.min_eq_right (show i ≤ A.length - 1 by omega), show A.length - i = A.length - 1 - i + 1 by omega, show A.length - (i + 1) = A.length - 1 - i by omega, Int.pow_succ]
  grind

theorem hhomog_ok (p : List RI) (a b : RI) (hp : RP (2 ^ 10) (2 ^ 20) p) (ha : Sz (2 ^ 20) a) (hb : Sz (2 ^ 20) b) : AC Tryz.prog 20 [cw p, cr a, cr b] none [cz (ihom (trimz (pv p)) (iv a) (iv b))] := by
  have za := zl_iv ha
  have zb := zl_iv hb
  refine AC.by_walk (rs := [.cell 6 29]) ords Tryz.func20 (by rfl) (by rfl) (by rfl) (by rfl) (by rfl) ?_
  simp (disch := omega) only [wk, tis, Int.reduceNe, Int.reduceEq, Int.reduceLT, Int.reduceLE, Int.reduceAdd, Int.reduceSub, Int.reduceNeg, Int.reduceMul, Int.reduceToNat, Nat.reduceSub, Nat.reduceMul, Nat.reduceLeDiff, Nat.reduceAdd, Nat.reduceLT, Nat.reduceEqDiff, reduceCtorEq, ↓reduceIte, rats_len, rats_get, lay_rat, qrow_take, qrow_len, qrow_splice, qrow_row, rats_rows, rats_snoc, rats_set, rats_take, rats_rep, rats_nil, qrow_drop2, qrow_take2, qrow_drop1, qrow_spl0]
  refine call_by ((snorm_ok p (hp.mono (by omega) (by omega)))) (by rfl) (by simp) ?_
  simp (disch := omega) only [wk, tis, Int.reduceNe, Int.reduceEq, Int.reduceLT, Int.reduceLE, Int.reduceAdd, Int.reduceSub, Int.reduceNeg, Int.reduceMul, Int.reduceToNat, Nat.reduceSub, Nat.reduceMul, Nat.reduceLeDiff, Nat.reduceAdd, Nat.reduceLT, Nat.reduceEqDiff, reduceCtorEq, ↓reduceIte, rats_len, rats_get, lay_rat, qrow_take, qrow_len, qrow_splice, qrow_row, rats_rows, rats_snoc, rats_set, rats_take, rats_rep, rats_nil, qrow_drop2, qrow_take2, qrow_drop1, qrow_spl0]
  have hA := hp.pv.trimz
  unfold cpoly
  generalize trimz (pv p) = A at *
  have hAl := hA.1
  have hq : (A.map canon).length = A.length := by simp
  have hB : ∀ i, zl (ihs A (iv a) (iv b) i) ≤ 2 ^ 33 := fun i => by
    have h := zl_ihom (K := 2 ^ 20) (p := A.take i) za zb fun z hz => hA.2 z (List.mem_of_mem_take hz)
    have h2 : (A.take i).length ≤ 2 ^ 10 := by rw [List.length_take]; omega
    have h3 := Nat.mul_le_mul_right (2 ^ 20 + 1) h2
    have h4 : 2 ^ 20 + 2 ^ 10 * (2 ^ 20 + 1) + 1 ≤ 2 ^ 32 := by decide
    have h5 := zl_pow_b zb (i := A.length - i) (by omega)
    have h6 := zl_mul (ihom (A.take i) (iv a) (iv b)) (iv b ^ (A.length - i))
    unfold ihs
    omega
  have e0 : canon (ihs A (iv a) (iv b) 0) = (false, []) := by rw [ihs, List.take_zero, ihom, Int.zero_mul, canon_zero]
  refine aloop_by (fun f H => ∃ (i st4 st5 st6 st7 : Nat), i ≤ A.length ∧ f 8 = .iv (.int .i64 i) ∧ f 0 = .iv (.sl (raws (A.map canon))) ∧ f 4 = .hp 4 st4 0 0 ∧ H 4 = .blk false st4 29 2 [prow a] ∧ f 5 = .hp 5 st5 0 0 ∧ H 5 = .blk false st5 29 2 [prow b] ∧ f 6 = .hp 6 st6 0 0 ∧ H 6 = .blk false st6 29 2 [prow (false, [])] ∧ f 7 = .hp 7 st7 0 0 ∧ H 7 = .blk false st7 29 2 [prow (canon (ihs A (iv a) (iv b) i))]) (fun f H => (A.length - intAt f 8).toNat) ?_ ?_
  · refine ⟨0, 1, 1, 1, 1, by omega, ?_⟩
    simp (disch := omega) only [wk, tis, Int.reduceNe, Int.reduceEq, Int.reduceLT, Int.reduceLE, Int.reduceAdd, Int.reduceSub, Int.reduceNeg, Int.reduceMul, Int.reduceToNat, Nat.reduceSub, Nat.reduceMul, Nat.reduceLeDiff, Nat.reduceAdd, Nat.reduceLT, Nat.reduceEqDiff, reduceCtorEq, ↓reduceIte, rats_len, rats_get, lay_rat, qrow_take, qrow_len, qrow_splice, qrow_row, rats_rows, rats_snoc, rats_set, rats_take, rats_rep, rats_nil, qrow_drop2, qrow_take2, qrow_drop1, qrow_spl0, e0, hq]
  rintro f H ⟨i, st4, st5, st6, st7, hi, hF⟩
  rw [intAt_of hF.1]
  simp (disch := omega) only [wk, tis, Int.reduceNe, Int.reduceEq, Int.reduceLT, Int.reduceLE, Int.reduceAdd, Int.reduceSub, Int.reduceNeg, Int.reduceMul, Int.reduceToNat, Nat.reduceSub, Nat.reduceMul, Nat.reduceLeDiff, Nat.reduceAdd, Nat.reduceLT, Nat.reduceEqDiff, reduceCtorEq, ↓reduceIte, rats_len, rats_get, lay_rat, qrow_take, qrow_len, qrow_splice, qrow_row, rats_rows, rats_snoc, rats_set, rats_take, rats_rep, rats_nil, qrow_drop2, qrow_take2, qrow_drop1, qrow_spl0, hF]
  refine if_by (fun hlt => ?_) (fun hlt => ?_)
  · have hlt' : i < A.length := by simpa using hlt
    have zj := hA.cf i
    have et0 := tmh_zero (cf A i) (iv a) (iv b) i
    simp (disch := omega) only [wk, tis, Int.reduceNe, Int.reduceEq, Int.reduceLT, Int.reduceLE, Int.reduceAdd, Int.reduceSub, Int.reduceNeg, Int.reduceMul, Int.reduceToNat, Nat.reduceSub, Nat.reduceMul, Nat.reduceLeDiff, Nat.reduceAdd, Nat.reduceLT, Nat.reduceEqDiff, reduceCtorEq, ↓reduceIte, rats_len, rats_get, lay_rat, qrow_take, qrow_len, qrow_splice, qrow_row, rats_rows, rats_snoc, rats_set, rats_take, rats_rep, rats_nil, qrow_drop2, qrow_take2, qrow_drop1, qrow_spl0, hF, hq]
    refine aloop_by (fun f H => ∃ (k st4 st5 st6 st7 st9 : Nat), k ≤ A.length - 1 ∧ f 10 = .iv (.int .i64 k) ∧ f 8 = .iv (.int .i64 i) ∧ f 0 = .iv (.sl (raws (A.map canon))) ∧ f 4 = .hp 4 st4 0 0 ∧ H 4 = .blk false st4 29 2 [prow a] ∧ f 5 = .hp 5 st5 0 0 ∧ H 5 = .blk false st5 29 2 [prow b] ∧ f 6 = .hp 6 st6 0 0 ∧ H 6 = .blk false st6 29 2 [prow (false, [])] ∧ f 7 = .hp 7 st7 0 0 ∧ H 7 = .blk false st7 29 2 [prow (canon (ihs A (iv a) (iv b) i))] ∧ f 9 = .hp 9 st9 0 0 ∧ H 9 = .blk false st9 29 2 [prow (canon (tmh (cf A i) (iv a) (iv b) i k))]) (fun f H => (A.length - intAt f 10).toNat) ?_ ?_
    · refine ⟨0, st4, st5, st6, st7, (H 9).stamp + 1, by omega, ?_⟩
      simp (disch := omega) only [wk, tis, Int.reduceNe, Int.reduceEq, Int.reduceLT, Int.reduceLE, Int.reduceAdd, Int.reduceSub, Int.reduceNeg, Int.reduceMul, Int.reduceToNat, Nat.reduceSub, Nat.reduceMul, Nat.reduceLeDiff, Nat.reduceAdd, Nat.reduceLT, Nat.reduceEqDiff, reduceCtorEq, ↓reduceIte, rats_len, rats_get, lay_rat, qrow_take, qrow_len, qrow_splice, qrow_row, rats_rows, rats_snoc, rats_set, rats_take, rats_rep, rats_nil, qrow_drop2, qrow_take2, qrow_drop1, qrow_spl0, et0, hF, hq]
    rintro f H ⟨k, st4, st5, st6, st7, st9, hk, hF⟩
    rw [intAt_of hF.1]
    simp (disch := omega) only [wk, tis, Int.reduceNe, Int.reduceEq, Int.reduceLT, Int.reduceLE, Int.reduceAdd, Int.reduceSub, Int.reduceNeg, Int.reduceMul, Int.reduceToNat, Nat.reduceSub, Nat.reduceMul, Nat.reduceLeDiff, Nat.reduceAdd, Nat.reduceLT, Nat.reduceEqDiff, reduceCtorEq, ↓reduceIte, rats_len, rats_get, lay_rat, qrow_take, qrow_len, qrow_splice, qrow_row, rats_rows, rats_snoc, rats_set, rats_take, rats_rep, rats_nil, qrow_drop2, qrow_take2, qrow_drop1, qrow_spl0, hF]
    refine if_by (fun hkt => ?_) (fun hkt => ?_)
    · have hkt' : k < A.length - 1 := by rw [hq] at hkt; omega
      have zt := zl_tmh (c := cf A i) (i := i) (k := k) zj za zb (by omega)
      by_cases hki : k < i
      · have hki' : (k : Int) < (i : Int) := by omega
        have m := rMul_ok (canon (tmh (cf A i) (iv a) (iv b) i k)) a ((sz_canon _).mono (by omega)) (ha.mono (by omega))
        rw [iv_canon, tmh_lt hki] at m
        simp (disch := omega) only [wk, tis, Int.reduceNe, Int.reduceEq, Int.reduceLT, Int.reduceLE, Int.reduceAdd, Int.reduceSub, Int.reduceNeg, Int.reduceMul, Int.reduceToNat, Nat.reduceSub, Nat.reduceMul, Nat.reduceLeDiff, Nat.reduceAdd, Nat.reduceLT, Nat.reduceEqDiff, reduceCtorEq, ↓reduceIte, rats_len, rats_get, lay_rat, qrow_take, qrow_len, qrow_splice, qrow_row, rats_rows, rats_snoc, rats_set, rats_take, rats_rep, rats_nil, qrow_drop2, qrow_take2, qrow_drop1, qrow_spl0, hF, hq, hki']
        refine call_by (m) (by first | rfl | (simp only [tocvs, tocv, hF, hq, hki']; rfl) | (simp only [tocvs, tocv, toboxes, tobox, updH_at, Nat.reduceEqDiff, ↓reduceIte, hF, hq, hki']; rfl)) (by simp) ?_
        simp (disch := omega) only [wk, tis, Int.reduceNe, Int.reduceEq, Int.reduceLT, Int.reduceLE, Int.reduceAdd, Int.reduceSub, Int.reduceNeg, Int.reduceMul, Int.reduceToNat, Nat.reduceSub, Nat.reduceMul, Nat.reduceLeDiff, Nat.reduceAdd, Nat.reduceLT, Nat.reduceEqDiff, reduceCtorEq, ↓reduceIte, rats_len, rats_get, lay_rat, qrow_take, qrow_len, qrow_splice, qrow_row, rats_rows, rats_snoc, rats_set, rats_take, rats_rep, rats_nil, qrow_drop2, qrow_take2, qrow_drop1, qrow_spl0, hF, hq, hki']
        refine ⟨⟨k + 1, st4, st5, st6, st7, st9, by omega, ?_⟩, by omega⟩
        (repeat' apply And.intro) <;> first | rfl | omega
      · have hki' : ¬ (k : Int) < (i : Int) := by omega
        have m := rMul_ok (canon (tmh (cf A i) (iv a) (iv b) i k)) b ((sz_canon _).mono (by omega)) (hb.mono (by omega))
        rw [iv_canon, tmh_ge hki] at m
        simp (disch := omega) only [wk, tis, Int.reduceNe, Int.reduceEq, Int.reduceLT, Int.reduceLE, Int.reduceAdd, Int.reduceSub, Int.reduceNeg, Int.reduceMul, Int.reduceToNat, Nat.reduceSub, Nat.reduceMul, Nat.reduceLeDiff, Nat.reduceAdd, Nat.reduceLT, Nat.reduceEqDiff, reduceCtorEq, ↓reduceIte, rats_len, rats_get, lay_rat, qrow_take, qrow_len, qrow_splice, qrow_row, rats_rows, rats_snoc, rats_set, rats_take, rats_rep, rats_nil, qrow_drop2, qrow_take2, qrow_drop1, qrow_spl0, hF, hq, hki']
        refine call_by (m) (by first | rfl | (simp only [tocvs, tocv, hF, hq, hki']; rfl) | (simp only [tocvs, tocv, toboxes, tobox, updH_at, Nat.reduceEqDiff, ↓reduceIte, hF, hq, hki']; rfl)) (by simp) ?_
        simp (disch := omega) only [wk, tis, Int.reduceNe, Int.reduceEq, Int.reduceLT, Int.reduceLE, Int.reduceAdd, Int.reduceSub, Int.reduceNeg, Int.reduceMul, Int.reduceToNat, Nat.reduceSub, Nat.reduceMul, Nat.reduceLeDiff, Nat.reduceAdd, Nat.reduceLT, Nat.reduceEqDiff, reduceCtorEq, ↓reduceIte, rats_len, rats_get, lay_rat, qrow_take, qrow_len, qrow_splice, qrow_row, rats_rows, rats_snoc, rats_set, rats_take, rats_rep, rats_nil, qrow_drop2, qrow_take2, qrow_drop1, qrow_spl0, hF, hq, hki']
        refine ⟨⟨k + 1, st4, st5, st6, st7, st9, by omega, ?_⟩, by omega⟩
        (repeat' apply And.intro) <;> first | rfl | omega
    · have hke : k = A.length - 1 := by rw [hq] at hkt; omega
      subst hke
      have zt := zl_tmh (c := cf A i) (i := i) (k := A.length - 1) zj za zb (by omega)
      have zs := hB i
      have s := rAdd_ok (canon (ihs A (iv a) (iv b) i)) (canon (tmh (cf A i) (iv a) (iv b) i (A.length - 1))) ((sz_canon _).mono (by omega)) ((sz_canon _).mono (by omega))
      rw [iv_canon, iv_canon, ihs_step hlt'] at s
      simp (disch := omega) only [wk, tis, Int.reduceNe, Int.reduceEq, Int.reduceLT, Int.reduceLE, Int.reduceAdd, Int.reduceSub, Int.reduceNeg, Int.reduceMul, Int.reduceToNat, Nat.reduceSub, Nat.reduceMul, Nat.reduceLeDiff, Nat.reduceAdd, Nat.reduceLT, Nat.reduceEqDiff, reduceCtorEq, ↓reduceIte, rats_len, rats_get, lay_rat, qrow_take, qrow_len, qrow_splice, qrow_row, rats_rows, rats_snoc, rats_set, rats_take, rats_rep, rats_nil, qrow_drop2, qrow_take2, qrow_drop1, qrow_spl0, hF, hq]
      refine call_by (s) (by first | rfl | (simp only [tocvs, tocv, hF, hq]; rfl) | (simp only [tocvs, tocv, toboxes, tobox, updH_at, Nat.reduceEqDiff, ↓reduceIte, hF, hq]; rfl)) (by simp) ?_
      simp (disch := omega) only [wk, tis, Int.reduceNe, Int.reduceEq, Int.reduceLT, Int.reduceLE, Int.reduceAdd, Int.reduceSub, Int.reduceNeg, Int.reduceMul, Int.reduceToNat, Nat.reduceSub, Nat.reduceMul, Nat.reduceLeDiff, Nat.reduceAdd, Nat.reduceLT, Nat.reduceEqDiff, reduceCtorEq, ↓reduceIte, rats_len, rats_get, lay_rat, qrow_take, qrow_len, qrow_splice, qrow_row, rats_rows, rats_snoc, rats_set, rats_take, rats_rep, rats_nil, qrow_drop2, qrow_take2, qrow_drop1, qrow_spl0, hF, hq]
      refine ⟨⟨i + 1, st4, st5, st6, st7, by omega, ?_⟩, by omega⟩
      (repeat' apply And.intro) <;> first | rfl | omega
  · have hie : i = A.length := by rw [hq] at hlt; omega
    subst hie
    have e : ihs A (iv a) (iv b) A.length = ihom A (iv a) (iv b) := by rw [ihs, List.take_length, Nat.sub_self, Int.pow_zero, Int.mul_one]
    rw [e] at hF
    simp (disch := omega) only [wk, tis, Int.reduceNe, Int.reduceEq, Int.reduceLT, Int.reduceLE, Int.reduceAdd, Int.reduceSub, Int.reduceNeg, Int.reduceMul, Int.reduceToNat, Nat.reduceSub, Nat.reduceMul, Nat.reduceLeDiff, Nat.reduceAdd, Nat.reduceLT, Nat.reduceEqDiff, reduceCtorEq, ↓reduceIte, rats_len, rats_get, lay_rat, qrow_take, qrow_len, qrow_splice, qrow_row, rats_rows, rats_snoc, rats_set, rats_take, rats_rep, rats_nil, qrow_drop2, qrow_take2, qrow_drop1, qrow_spl0, hF]
    try rfl

/-! ### Signs -/
theorem esign_ok (p : List RI) (x : RQ) (hp : RP (2 ^ 10) (2 ^ 20) p) (hx : SzQ (2 ^ 20) x) (h0 : nv x.2 ≠ 0) : AC Tryz.prog 126 [cw p, cqq x] none [ci (sgq (evq (qp (pv p)) (qv x)))] := by
  have n := znatl_ok false x.2 hx.2.2 (Nat.le_trans hx.2.1 (by omega))
  rw [sgf] at n
  have za := zl_iv hx.1
  have zb := nt_zl hx.2
  have m := ehomog_ok p x.1 (canon (nv x.2 : Nat)) hp hx.1 ((sz_canon _).mono zb)
  rw [iv_canon] at m
  have zi : zl (ihom (trimz (pv p)) (iv x.1) (nv x.2 : Nat)) ≤ 2 ^ 33 := by
    have h := zl_ihom (K := 2 ^ 20) (p := trimz (pv p)) za zb fun z hz => hp.pv.trimz.2 z hz
    have h2 : (trimz (pv p)).length ≤ 2 ^ 10 := hp.pv.trimz.1
    have h3 := Nat.mul_le_mul_right (2 ^ 20 + 1) h2
    have h4 : 2 ^ 20 + 2 ^ 10 * (2 ^ 20 + 1) + 1 ≤ 2 ^ 32 := by decide
    omega
  have s := zsign_ok (canon (ihom (trimz (pv p)) (iv x.1) (nv x.2 : Nat))) ((sz_canon _).mono (by omega))
  rw [iv_canon, ihom_sign h0, ← qv_eq] at s
  refine AC.by_walk (rs := [.tmp 4]) ords Tryz.func126 (by rfl) (by rfl) (by rfl) (by rfl) (by rfl) ?_
  simp (disch := omega) only [wk, tis, Int.reduceNe, Int.reduceEq, Int.reduceLT, Int.reduceLE, Int.reduceAdd, Int.reduceSub, Int.reduceNeg, Int.reduceMul, Int.reduceToNat, Nat.reduceSub, Nat.reduceMul, Nat.reduceLeDiff, Nat.reduceAdd, Nat.reduceLT, Nat.reduceEqDiff, reduceCtorEq, ↓reduceIte, rats_len, rats_get, lay_rat, qrow_take, qrow_len, qrow_splice, qrow_row, rats_rows, rats_snoc, rats_set, rats_take, rats_rep, rats_nil, qrow_drop2, qrow_take2, qrow_drop1, qrow_spl0]
  refine ⟨tmps_by (by kernel_rfl), ?_⟩
  refine call_by (n) (by rfl) (by simp) ?_
  simp (disch := omega) only [wk, tis, Int.reduceNe, Int.reduceEq, Int.reduceLT, Int.reduceLE, Int.reduceAdd, Int.reduceSub, Int.reduceNeg, Int.reduceMul, Int.reduceToNat, Nat.reduceSub, Nat.reduceMul, Nat.reduceLeDiff, Nat.reduceAdd, Nat.reduceLT, Nat.reduceEqDiff, reduceCtorEq, ↓reduceIte, rats_len, rats_get, lay_rat, qrow_take, qrow_len, qrow_splice, qrow_row, rats_rows, rats_snoc, rats_set, rats_take, rats_rep, rats_nil, qrow_drop2, qrow_take2, qrow_drop1, qrow_spl0]
  refine call_by (m) (by rfl) (by simp) ?_
  simp (disch := omega) only [wk, tis, Int.reduceNe, Int.reduceEq, Int.reduceLT, Int.reduceLE, Int.reduceAdd, Int.reduceSub, Int.reduceNeg, Int.reduceMul, Int.reduceToNat, Nat.reduceSub, Nat.reduceMul, Nat.reduceLeDiff, Nat.reduceAdd, Nat.reduceLT, Nat.reduceEqDiff, reduceCtorEq, ↓reduceIte, rats_len, rats_get, lay_rat, qrow_take, qrow_len, qrow_splice, qrow_row, rats_rows, rats_snoc, rats_set, rats_take, rats_rep, rats_nil, qrow_drop2, qrow_take2, qrow_drop1, qrow_spl0]
  refine call_by (s) (by rfl) (by simp) ?_
  simp (disch := omega) only [wk, tis, Int.reduceNe, Int.reduceEq, Int.reduceLT, Int.reduceLE, Int.reduceAdd, Int.reduceSub, Int.reduceNeg, Int.reduceMul, Int.reduceToNat, Nat.reduceSub, Nat.reduceMul, Nat.reduceLeDiff, Nat.reduceAdd, Nat.reduceLT, Nat.reduceEqDiff, reduceCtorEq, ↓reduceIte, rats_len, rats_get, lay_rat, qrow_take, qrow_len, qrow_splice, qrow_row, rats_rows, rats_snoc, rats_set, rats_take, rats_rep, rats_nil, qrow_drop2, qrow_take2, qrow_drop1, qrow_spl0]
  first | exact log_by (by kernel_rfl) | refine ⟨log_by (by kernel_rfl), ?_⟩
  try rfl

theorem eSign_ok (p : List RI) (x : RQ) (hp : RP (2 ^ 10) (2 ^ 20) p) (hx : SzQ (2 ^ 20) x) (h0 : nv x.2 ≠ 0) : AC Tryz.prog 59 [cw p, cqq x] none [ci (sgq (evq (qp (pv p)) (qv x))), ci 0] := by
  have c := qcheck_good x ⟨Nat.le_trans hx.2.1 (by omega), hx.2.2⟩ h0
  have s := esign_ok p x hp hx h0
  refine AC.by_walk (rs := [.tmp 4, .tmp 5]) ords Tryz.func59 (by rfl) (by rfl) (by rfl) (by rfl) (by rfl) ?_
  simp (disch := omega) only [wk, tis, Int.reduceNe, Int.reduceEq, Int.reduceLT, Int.reduceLE, Int.reduceAdd, Int.reduceSub, Int.reduceNeg, Int.reduceMul, Int.reduceToNat, Nat.reduceSub, Nat.reduceMul, Nat.reduceLeDiff, Nat.reduceAdd, Nat.reduceLT, Nat.reduceEqDiff, reduceCtorEq, ↓reduceIte, rats_len, rats_get, lay_rat, qrow_take, qrow_len, qrow_splice, qrow_row, rats_rows, rats_snoc, rats_set, rats_take, rats_rep, rats_nil, qrow_drop2, qrow_take2, qrow_drop1, qrow_spl0]
  refine call_by (c) (by rfl) (by simp) ?_
  simp (disch := omega) only [wk, tis, Int.reduceNe, Int.reduceEq, Int.reduceLT, Int.reduceLE, Int.reduceAdd, Int.reduceSub, Int.reduceNeg, Int.reduceMul, Int.reduceToNat, Nat.reduceSub, Nat.reduceMul, Nat.reduceLeDiff, Nat.reduceAdd, Nat.reduceLT, Nat.reduceEqDiff, reduceCtorEq, ↓reduceIte, rats_len, rats_get, lay_rat, qrow_take, qrow_len, qrow_splice, qrow_row, rats_rows, rats_snoc, rats_set, rats_take, rats_rep, rats_nil, qrow_drop2, qrow_take2, qrow_drop1, qrow_spl0]
  refine call_by (s) (by rfl) (by simp) ?_
  simp (disch := omega) only [wk, tis, Int.reduceNe, Int.reduceEq, Int.reduceLT, Int.reduceLE, Int.reduceAdd, Int.reduceSub, Int.reduceNeg, Int.reduceMul, Int.reduceToNat, Nat.reduceSub, Nat.reduceMul, Nat.reduceLeDiff, Nat.reduceAdd, Nat.reduceLT, Nat.reduceEqDiff, reduceCtorEq, ↓reduceIte, rats_len, rats_get, lay_rat, qrow_take, qrow_len, qrow_splice, qrow_row, rats_rows, rats_snoc, rats_set, rats_take, rats_rep, rats_nil, qrow_drop2, qrow_take2, qrow_drop1, qrow_spl0]
  try rfl
theorem eSign_bad (p : List RI) (x : RQ) (hx : Nt (2 ^ 42) x.2) (h0 : nv x.2 = 0) : AC Tryz.prog 59 [cw p, cqq x] none [ci 0, ci 1] := by
  have c := qcheck_bad x hx h0
  refine AC.by_walk (rs := [.tmp 4, .tmp 5]) ords Tryz.func59 (by rfl) (by rfl) (by rfl) (by rfl) (by rfl) ?_
  simp (disch := omega) only [wk, tis, Int.reduceNe, Int.reduceEq, Int.reduceLT, Int.reduceLE, Int.reduceAdd, Int.reduceSub, Int.reduceNeg, Int.reduceMul, Int.reduceToNat, Nat.reduceSub, Nat.reduceMul, Nat.reduceLeDiff, Nat.reduceAdd, Nat.reduceLT, Nat.reduceEqDiff, reduceCtorEq, ↓reduceIte, rats_len, rats_get, lay_rat, qrow_take, qrow_len, qrow_splice, qrow_row, rats_rows, rats_snoc, rats_set, rats_take, rats_rep, rats_nil, qrow_drop2, qrow_take2, qrow_drop1, qrow_spl0]
  refine call_by (c) (by rfl) (by simp) ?_
  simp (disch := omega) only [wk, tis, Int.reduceNe, Int.reduceEq, Int.reduceLT, Int.reduceLE, Int.reduceAdd, Int.reduceSub, Int.reduceNeg, Int.reduceMul, Int.reduceToNat, Nat.reduceSub, Nat.reduceMul, Nat.reduceLeDiff, Nat.reduceAdd, Nat.reduceLT, Nat.reduceEqDiff, reduceCtorEq, ↓reduceIte, rats_len, rats_get, lay_rat, qrow_take, qrow_len, qrow_splice, qrow_row, rats_rows, rats_snoc, rats_set, rats_take, rats_rep, rats_nil, qrow_drop2, qrow_take2, qrow_drop1, qrow_spl0]
  try rfl
end Go.Proofs.YtjadkhkgmdikiaaGreat

namespace Go.Proofs.YtjadkhkgmdikiaaGreat
open Go Go.Proofs Go.AL
set_option linter.unusedSimpArgs false
set_option linter.unusedVariables false

/-- Numbers of at most k words, at most n of them. -/
def NP (n k : Nat) (l : List (List Nat)) : Prop := l.length ≤ n ∧ ∀ a ∈ l, Lim a ∧ a.length ≤ k

theorem NP.get {n k : Nat} {l : List (List Nat)} (h : NP n k l) (i : Nat) : Lim (l.getD i []) ∧ (l.getD i []).length ≤ k := by
  by_cases hi : i < l.length
  · have e : l.getD i [] = l[i] := by simp [List.getD, hi]
    rw [e]; exact h.2 _ (List.getElem_mem hi)
  · rw [List.getD_eq_getElem?_getD, List.getElem?_eq_none (by omega)]
    exact ⟨Lim.nil, by simp⟩

def nsum (l : List (List Nat)) : Nat := l.foldl (fun s a => s + nv a) 0

theorem nsum_take {l : List (List Nat)} {i : Nat} (h : i < l.length) : nsum (l.take (i + 1)) = nsum (l.take i) + nv (l.getD i []) := by
  have e : l.take (i + 1) = l.take i ++ [l.getD i []] := by
    rw [List.take_add_one]; congr 1; simp [List.getD, h]
  rw [e, nsum, List.foldl_append]; rfl

theorem nsum_len {n k : Nat} {l : List (List Nat)} (h : NP n k l) : ∀ i, i ≤ l.length → (wd (nsum (l.take i))).length ≤ k + i
  | 0, _ => by simp [nsum, wd_zero]
  | i + 1, hi => by
    have h1 := nsum_len h i (by omega)
    have e : l.getD i [] = l[i] := by simp [List.getD, show i < l.length by omega]
    obtain ⟨h2, h3⟩ := h.2 l[i] (List.getElem_mem (by omega))
    have h4 := nv_len h2
    rw [nsum_take (by omega), e]
    have := wd_add_len (nsum (l.take i)) (nv l[i])
    omega

theorem nsum_snd (p : List RI) : nsum (p.map (·.2)) = wgt (pv p) := by
  unfold nsum wgt pv
  rw [List.foldl_map, List.foldl_map]
  congr 1
  funext s c
  rw [iv_abs]

theorem wgt_len {n k : Nat} {p : List RI} (h : RP n k p) (i : Nat) (hi : i ≤ p.length) : (wd (wgt ((pv p).take i))).length ≤ k + i := by
  have := nsum_len (n := n) (k := k) (l := p.map (·.2)) ⟨by simpa using h.1, fun a ha => by
      obtain ⟨c, hc, rfl⟩ := List.mem_map.mp ha
      exact ⟨(h.2 c hc).2, (h.2 c hc).1⟩⟩ i (by simpa using hi)
  rw [← List.map_take, nsum_snd] at this
  rwa [show pv (p.take i) = (pv p).take i by simp [pv, List.map_take]] at this

theorem pv_cn (q : List Int) : pv (cn q) = trimz q := by rw [cn, pv_canon]

theorem zl_ite {z : Int} {c : Prop} [Decidable c] {k : Nat} (h : zl z ≤ k) : zl (if c then 0 else z) ≤ k := by
  split
  · rw [zl_zero]; omega
  · exact h

theorem sameint_g {a b : Int} (e : a = b) (h : zl a ≤ 2 ^ 43) : AC Tryz.prog 16 [cz a, cz b] none [cb true] := by
  subst e
  have := rSameInt_ok (canon a) (canon a) h h
  rwa [decide_eq_true rfl] at this

theorem samenat_g {a : Nat} (h : (wd a).length ≤ 2 ^ 43) : AC Tryz.prog 37 [cl (wd a), cl (wd a)] none [cb true] := by
  have := rSame_ok (wd a) (wd a) h h
  rwa [decide_eq_true rfl] at this

/-- A case of the layer 9. -/
abbrev case9' (A B C : List RI) (K : RI) (N : Int) : List IV := [.sl (raws A), .sl (raws B), .sl (raws C), .bool K.1, .sl (lims K.2), .int .i64 N]

theorem hgt_len {n k : Nat} {p : List RI} (h : RP n k p) : ∀ i, i ≤ p.length → (wd (hgt ((pv p).take i))).length ≤ k
  | 0, _ => by simp [hgt, wd_zero]
  | i + 1, hi => by
    have h1 := hgt_len h i (by omega)
    have h2 := h.get i
    have h3 := nv_len h2.2
    have h4 := h2.1
    rw [hgt_take (by rw [pv_len]; omega), cf_pv, iv_abs]
    rcases Nat.le_total (hgt ((pv p).take i)) (nv (p.getD i (false, [])).2) with h | h
    · rw [Nat.max_eq_right h]; omega
    · rw [Nat.max_eq_left h]; omega

end Go.Proofs.YtjadkhkgmdikiaaGreat

namespace Go.Proofs.YtjadkhkgmdikiaaGreat
open Go Go.Proofs Go.AL
set_option linter.unusedSimpArgs false
set_option linter.unusedVariables false

/-- A case. -/
structure C12 where
  (P Q : List RI) (R S : List RQ) (A B : RI) (X Y : RQ) (N : Int)
abbrev case12 (x : C12) : List IV := [.sl (raws x.P), .sl (raws x.Q), .sl (rats x.R), .sl (rats x.S), .bool x.A.1, .sl (lims x.A.2), .bool x.B.1, .sl (lims x.B.2), .bool x.X.1.1, .sl (lims x.X.1.2), .sl (lims x.X.2), .bool x.Y.1.1, .sl (lims x.Y.1.2), .sl (lims x.Y.2), .int .i64 x.N]
theorem case12_A (x : C12) : List.take 2 (List.drop 4 (case12 x)) = prow x.A := rfl
theorem case12_B (x : C12) : List.take 2 (List.drop 6 (case12 x)) = prow x.B := rfl
theorem case12_X (x : C12) : List.take 3 (List.drop 8 (case12 x)) = qrow x.X := rfl
theorem case12_Y (x : C12) : List.take 3 (List.drop 11 (case12 x)) = qrow x.Y := rfl
theorem ints_two (a b : RI) : [prow a, prow b] = raws [a, b] := rfl
/-- Are there many rationals, or a long one? -/
def gqr (l : List RQ) : Bool := decide (40 < l.length) || l.any fun r => decide (200 < r.1.2.length) || decide (200 < r.2.length)
def lenQ (r : RQ) : Prop := r.1.2.length ≤ 9223372036854775807 ∧ r.2.length ≤ 9223372036854775807

theorem sgrats_ok (l : List RQ) (hl : l.length ≤ 9223372036854775807) (h : ∀ c ∈ l, lenQ c) : AC Tryz.prog 21 [cqw l] none [cb (gqr l)] := by
  refine AC.by_walk (rs := [.tmp 2]) ords Tryz.func21 (by rfl) (by rfl) (by rfl) (by rfl) (by rfl) ?_
  simp (disch := omega) only [wk, tis, Int.reduceNe, Int.reduceEq, Int.reduceLT, Int.reduceLE, Int.reduceAdd, Int.reduceSub, Int.reduceNeg, Int.reduceMul, Int.reduceToNat, Nat.reduceSub, Nat.reduceMul, Nat.reduceLeDiff, Nat.reduceAdd, Nat.reduceLT, Nat.reduceEqDiff, reduceCtorEq, ↓reduceIte, rats_len, rats_get, lay_rat, qrow_take, qrow_len, qrow_splice, qrow_row, rats_rows, rats_snoc, rats_set, rats_take, rats_rep, rats_nil, qrow_drop2, qrow_take2, qrow_drop1, qrow_spl0, case12_A, case12_B, case12_X, case12_Y, ints_two]
  by_cases hw : 40 < (l.length : Int)
  · have e : gqr l = true := by unfold gqr; rw [decide_eq_true (by omega)]; rfl
    rw [e]
    simp (disch := omega) only [wk, tis, Int.reduceNe, Int.reduceEq, Int.reduceLT, Int.reduceLE, Int.reduceAdd, Int.reduceSub, Int.reduceNeg, Int.reduceMul, Int.reduceToNat, Nat.reduceSub, Nat.reduceMul, Nat.reduceLeDiff, Nat.reduceAdd, Nat.reduceLT, Nat.reduceEqDiff, reduceCtorEq, ↓reduceIte, rats_len, rats_get, lay_rat, qrow_take, qrow_len, qrow_splice, qrow_row, rats_rows, rats_snoc, rats_set, rats_take, rats_rep, rats_nil, qrow_drop2, qrow_take2, qrow_drop1, qrow_spl0, case12_A, case12_B, case12_X, case12_Y, ints_two, hw]
  have hw' : ¬ 40 < l.length := by omega
  have e : gqr l = l.any fun r => decide (200 < r.1.2.length) || decide (200 < r.2.length) := by unfold gqr; rw [decide_eq_false hw', Bool.false_or]
  rw [e]
  simp (disch := omega) only [wk, tis, Int.reduceNe, Int.reduceEq, Int.reduceLT, Int.reduceLE, Int.reduceAdd, Int.reduceSub, Int.reduceNeg, Int.reduceMul, Int.reduceToNat, Nat.reduceSub, Nat.reduceMul, Nat.reduceLeDiff, Nat.reduceAdd, Nat.reduceLT, Nat.reduceEqDiff, reduceCtorEq, ↓reduceIte, rats_len, rats_get, lay_rat, qrow_take, qrow_len, qrow_splice, qrow_row, rats_rows, rats_snoc, rats_set, rats_take, rats_rep, rats_nil, qrow_drop2, qrow_take2, qrow_drop1, qrow_spl0, case12_A, case12_B, case12_X, case12_Y, ints_two, hw]
  refine aloop_by (fun f H => ∃ (i : Nat), i ≤ l.length ∧ (l.take i).any (fun r => decide (200 < r.1.2.length) || decide (200 < r.2.length)) = false ∧ f 3 = .iv (.int .i64 i) ∧ f 0 = .iv (.sl (rats l))) (fun f H => (l.length - intAt f 3).toNat) ?_ ?_
  · refine ⟨0, by omega, rfl, ?_⟩
    simp (disch := omega) only [wk, tis, Int.reduceNe, Int.reduceEq, Int.reduceLT, Int.reduceLE, Int.reduceAdd, Int.reduceSub, Int.reduceNeg, Int.reduceMul, Int.reduceToNat, Nat.reduceSub, Nat.reduceMul, Nat.reduceLeDiff, Nat.reduceAdd, Nat.reduceLT, Nat.reduceEqDiff, reduceCtorEq, ↓reduceIte, rats_len, rats_get, lay_rat, qrow_take, qrow_len, qrow_splice, qrow_row, rats_rows, rats_snoc, rats_set, rats_take, rats_rep, rats_nil, qrow_drop2, qrow_take2, qrow_drop1, qrow_spl0, case12_A, case12_B, case12_X, case12_Y, ints_two]
  rintro f H ⟨i, hi, he, hF⟩
  rw [intAt_of hF.1]
  simp (disch := omega) only [wk, tis, Int.reduceNe, Int.reduceEq, Int.reduceLT, Int.reduceLE, Int.reduceAdd, Int.reduceSub, Int.reduceNeg, Int.reduceMul, Int.reduceToNat, Nat.reduceSub, Nat.reduceMul, Nat.reduceLeDiff, Nat.reduceAdd, Nat.reduceLT, Nat.reduceEqDiff, reduceCtorEq, ↓reduceIte, rats_len, rats_get, lay_rat, qrow_take, qrow_len, qrow_splice, qrow_row, rats_rows, rats_snoc, rats_set, rats_take, rats_rep, rats_nil, qrow_drop2, qrow_take2, qrow_drop1, qrow_spl0, case12_A, case12_B, case12_X, case12_Y, ints_two, hF]
  refine if_by (fun hlt => ?_) (fun hlt => ?_)
  · have hil : i < l.length := by omega
    have hg : l.getD i q0 = l[i] := by simp [List.getD, hil]
    have hm := h l[i] (List.getElem_mem hil)
    have l1 := slong_ok l[i].1.2 hm.1
    have l2 := slong_ok l[i].2 hm.2
    simp (disch := omega) only [wk, tis, Int.reduceNe, Int.reduceEq, Int.reduceLT, Int.reduceLE, Int.reduceAdd, Int.reduceSub, Int.reduceNeg, Int.reduceMul, Int.reduceToNat, Nat.reduceSub, Nat.reduceMul, Nat.reduceLeDiff, Nat.reduceAdd, Nat.reduceLT, Nat.reduceEqDiff, reduceCtorEq, ↓reduceIte, rats_len, rats_get, lay_rat, qrow_take, qrow_len, qrow_splice, qrow_row, rats_rows, rats_snoc, rats_set, rats_take, rats_rep, rats_nil, qrow_drop2, qrow_take2, qrow_drop1, qrow_spl0, case12_A, case12_B, case12_X, case12_Y, ints_two, hF, hg]
    by_cases h1 : 200 < l[i].1.2.length
    · rw [decide_eq_true h1] at l1
      refine call_by (l1) (by first | rfl | (simp only [tocvs, tocv, hF, hg]; rfl) | (simp only [tocvs, tocv, toboxes, tobox, updH_at, Nat.reduceEqDiff, ↓reduceIte, hF, hg]; rfl)) (by simp) ?_
      simp (disch := omega) only [wk, tis, Int.reduceNe, Int.reduceEq, Int.reduceLT, Int.reduceLE, Int.reduceAdd, Int.reduceSub, Int.reduceNeg, Int.reduceMul, Int.reduceToNat, Nat.reduceSub, Nat.reduceMul, Nat.reduceLeDiff, Nat.reduceAdd, Nat.reduceLT, Nat.reduceEqDiff, reduceCtorEq, ↓reduceIte, rats_len, rats_get, lay_rat, qrow_take, qrow_len, qrow_splice, qrow_row, rats_rows, rats_snoc, rats_set, rats_take, rats_rep, rats_nil, qrow_drop2, qrow_take2, qrow_drop1, qrow_spl0, case12_A, case12_B, case12_X, case12_Y, ints_two, hF, hg]
      exact (any_of_get hil (by rw [decide_eq_true h1]; rfl)).symm
    · rw [decide_eq_false h1] at l1
      refine call_by (l1) (by first | rfl | (simp only [tocvs, tocv, hF, hg]; rfl) | (simp only [tocvs, tocv, toboxes, tobox, updH_at, Nat.reduceEqDiff, ↓reduceIte, hF, hg]; rfl)) (by simp) ?_
      simp (disch := omega) only [wk, tis, Int.reduceNe, Int.reduceEq, Int.reduceLT, Int.reduceLE, Int.reduceAdd, Int.reduceSub, Int.reduceNeg, Int.reduceMul, Int.reduceToNat, Nat.reduceSub, Nat.reduceMul, Nat.reduceLeDiff, Nat.reduceAdd, Nat.reduceLT, Nat.reduceEqDiff, reduceCtorEq, ↓reduceIte, rats_len, rats_get, lay_rat, qrow_take, qrow_len, qrow_splice, qrow_row, rats_rows, rats_snoc, rats_set, rats_take, rats_rep, rats_nil, qrow_drop2, qrow_take2, qrow_drop1, qrow_spl0, case12_A, case12_B, case12_X, case12_Y, ints_two, hF, hg]
      by_cases h2 : 200 < l[i].2.length
      · rw [decide_eq_true h2] at l2
        refine call_by (l2) (by first | rfl | (simp only [tocvs, tocv, hF, hg]; rfl) | (simp only [tocvs, tocv, toboxes, tobox, updH_at, Nat.reduceEqDiff, ↓reduceIte, hF, hg]; rfl)) (by simp) ?_
        simp (disch := omega) only [wk, tis, Int.reduceNe, Int.reduceEq, Int.reduceLT, Int.reduceLE, Int.reduceAdd, Int.reduceSub, Int.reduceNeg, Int.reduceMul, Int.reduceToNat, Nat.reduceSub, Nat.reduceMul, Nat.reduceLeDiff, Nat.reduceAdd, Nat.reduceLT, Nat.reduceEqDiff, reduceCtorEq, ↓reduceIte, rats_len, rats_get, lay_rat, qrow_take, qrow_len, qrow_splice, qrow_row, rats_rows, rats_snoc, rats_set, rats_take, rats_rep, rats_nil, qrow_drop2, qrow_take2, qrow_drop1, qrow_spl0, case12_A, case12_B, case12_X, case12_Y, ints_two, hF, hg]
        exact (any_of_get hil (by rw [decide_eq_true h2, Bool.or_true])).symm
      · rw [decide_eq_false h2] at l2
        refine call_by (l2) (by first | rfl | (simp only [tocvs, tocv, hF, hg]; rfl) | (simp only [tocvs, tocv, toboxes, tobox, updH_at, Nat.reduceEqDiff, ↓reduceIte, hF, hg]; rfl)) (by simp) ?_
        simp (disch := omega) only [wk, tis, Int.reduceNe, Int.reduceEq, Int.reduceLT, Int.reduceLE, Int.reduceAdd, Int.reduceSub, Int.reduceNeg, Int.reduceMul, Int.reduceToNat, Nat.reduceSub, Nat.reduceMul, Nat.reduceLeDiff, Nat.reduceAdd, Nat.reduceLT, Nat.reduceEqDiff, reduceCtorEq, ↓reduceIte, rats_len, rats_get, lay_rat, qrow_take, qrow_len, qrow_splice, qrow_row, rats_rows, rats_snoc, rats_set, rats_take, rats_rep, rats_nil, qrow_drop2, qrow_take2, qrow_drop1, qrow_spl0, case12_A, case12_B, case12_X, case12_Y, ints_two, hF, hg]
        refine ⟨⟨i + 1, by omega, ?_, by omega⟩, by omega⟩
        rw [any_take_succ hil, he, decide_eq_false h1, decide_eq_false h2]
        rfl
  · simp (disch := omega) only [wk, tis, Int.reduceNe, Int.reduceEq, Int.reduceLT, Int.reduceLE, Int.reduceAdd, Int.reduceSub, Int.reduceNeg, Int.reduceMul, Int.reduceToNat, Nat.reduceSub, Nat.reduceMul, Nat.reduceLeDiff, Nat.reduceAdd, Nat.reduceLT, Nat.reduceEqDiff, reduceCtorEq, ↓reduceIte, rats_len, rats_get, lay_rat, qrow_take, qrow_len, qrow_splice, qrow_row, rats_rows, rats_snoc, rats_set, rats_take, rats_rep, rats_nil, qrow_drop2, qrow_take2, qrow_drop1, qrow_spl0, case12_A, case12_B, case12_X, case12_Y, ints_two, hF]
    rw [List.take_of_length_le (by omega)] at he
    exact he.symm

theorem gqr_bq {l : List RQ} (h : gqr l = false) (hr : ∀ r ∈ l, SzQ 9223372036854775807 r) : BQ 40 200 l := by
  unfold gqr at h
  rw [Bool.or_eq_false_iff] at h
  refine ⟨by have := of_decide_eq_false h.1; omega, fun r hr' => ?_⟩
  have h2 := List.any_eq_false.mp h.2 r hr'
  rw [Bool.or_eq_true, decide_eq_true_eq, decide_eq_true_eq, not_or] at h2
  exact ⟨⟨by omega, (hr r hr').1.2⟩, by omega, (hr r hr').2.2⟩

structure Ok12 (x : C12) : Prop where
  P : Raw x.P
  Q : Raw x.Q
  R : RawQ x.R
  S : RawQ x.S
  A : Sz 9223372036854775807 x.A
  B : Sz 9223372036854775807 x.B
  X : SzQ 9223372036854775807 x.X
  Y : SzQ 9223372036854775807 x.Y
  N : -9223372036854775808 ≤ x.N ∧ x.N ≤ 9223372036854775807
def great12 (x : C12) : Bool := gp [x.P, x.Q] || gqr x.R || gqr x.S || gi [x.A, x.B] || gqr [x.X, x.Y]
/-- What isn't great. -/
structure Fit12 (x : C12) : Prop where
  P : RP 40 200 x.P
  Q : RP 40 200 x.Q
  R : BQ 40 200 x.R
  S : BQ 40 200 x.S
  A : Sz 200 x.A
  B : Sz 200 x.B
  X : SzQ 200 x.X
  Y : SzQ 200 x.Y
theorem rawq_len {r : RQ} (h : SzQ 9223372036854775807 r) : lenQ r := ⟨h.1.1, h.2.1⟩
theorem fit12 {x : C12} (h : Ok12 x) (g : great12 x = false) : Fit12 x := by
  unfold great12 at g
  simp only [Bool.or_eq_false_iff] at g
  obtain ⟨⟨⟨⟨g1, g2⟩, g3⟩, g4⟩, g5⟩ := g
  have i : ∀ c ∈ [x.A, x.B], Sz 9223372036854775807 c → Sz 200 c := fun c hc hs => by
    have := List.any_eq_false.mp g4 c hc
    rw [decide_eq_true_eq] at this
    exact ⟨by omega, hs.2⟩
  have q := gqr_bq g5 (fun r hr => by
    simp only [List.mem_cons, List.not_mem_nil, or_false] at hr
    rcases hr with rfl | rfl
    · exact h.X
    · exact h.Y)
  exact ⟨great_sub g1 (by simp) h.P, great_sub g1 (by simp) h.Q, gqr_bq g2 h.R.2, gqr_bq g3 h.S.2, i _ (by simp) h.A, i _ (by simp) h.B, q.2 _ (by simp), q.2 _ (by simp)⟩

theorem great12_ok (x : C12) (h : Ok12 x) : AC Tryz.prog 11 [.agg (case12 x)] none [cb (great12 x)] := by
  have g1 := great2_ok x.P x.Q h.P h.Q
  have g2 := sgrats_ok x.R h.R.1 (fun r hr => rawq_len (h.R.2 r hr))
  have g3 := sgrats_ok x.S h.S.1 (fun r hr => rawq_len (h.S.2 r hr))
  have g4 := sgints_ok [x.A, x.B] (by simp) (fun c hc => by
    simp only [List.mem_cons, List.not_mem_nil, or_false] at hc
    rcases hc with rfl | rfl
    · exact h.A.1
    · exact h.B.1)
  have g5 := sgrats_ok [x.X, x.Y] (by simp) (fun r hr => by
    simp only [List.mem_cons, List.not_mem_nil, or_false] at hr
    rcases hr with rfl | rfl
    · exact rawq_len h.X
    · exact rawq_len h.Y)
  have p1 : [[IV.sl (raws x.P)], [IV.sl (raws x.Q)]] = polys [x.P, x.Q] := rfl
  have p3 := rats_two x.X x.Y
  have hE : ∀ b1 b2 b3 b4 b5, gp [x.P, x.Q] = b1 → gqr x.R = b2 → gqr x.S = b3 → gi [x.A, x.B] = b4 → gqr [x.X, x.Y] = b5 → great12 x = (b1 || b2 || b3 || b4 || b5) := by
    rintro _ _ _ _ _ rfl rfl rfl rfl rfl; rfl
  have hE' := hE _ _ _ _ _ rfl rfl rfl rfl rfl
  generalize gp [x.P, x.Q] = b1 at *
  generalize gqr x.R = b2 at *
  generalize gqr x.S = b3 at *
  generalize gi [x.A, x.B] = b4 at *
  generalize gqr [x.X, x.Y] = b5 at *
  rw [hE']
  clear hE hE'
  refine AC.by_walk (rs := [.tmp 2]) ords Tryz.func11 (by rfl) (by rfl) (by rfl) (by rfl) (by rfl) ?_
  simp (disch := omega) only [wk, tis, Int.reduceNe, Int.reduceEq, Int.reduceLT, Int.reduceLE, Int.reduceAdd, Int.reduceSub, Int.reduceNeg, Int.reduceMul, Int.reduceToNat, Nat.reduceSub, Nat.reduceMul, Nat.reduceLeDiff, Nat.reduceAdd, Nat.reduceLT, Nat.reduceEqDiff, reduceCtorEq, ↓reduceIte, rats_len, rats_get, lay_rat, qrow_take, qrow_len, qrow_splice, qrow_row, rats_rows, rats_snoc, rats_set, rats_take, rats_rep, rats_nil, qrow_drop2, qrow_take2, qrow_drop1, qrow_spl0, case12_A, case12_B, case12_X, case12_Y, ints_two]
  cases b1 with
  | true =>
    refine call_by (g1) (by rfl) (by simp) ?_
    simp (disch := omega) only [wk, tis, Int.reduceNe, Int.reduceEq, Int.reduceLT, Int.reduceLE, Int.reduceAdd, Int.reduceSub, Int.reduceNeg, Int.reduceMul, Int.reduceToNat, Nat.reduceSub, Nat.reduceMul, Nat.reduceLeDiff, Nat.reduceAdd, Nat.reduceLT, Nat.reduceEqDiff, reduceCtorEq, ↓reduceIte, rats_len, rats_get, lay_rat, qrow_take, qrow_len, qrow_splice, qrow_row, rats_rows, rats_snoc, rats_set, rats_take, rats_rep, rats_nil, qrow_drop2, qrow_take2, qrow_drop1, qrow_spl0, case12_A, case12_B, case12_X, case12_Y, ints_two]
    try rfl
  | false =>
  refine call_by (g1) (by rfl) (by simp) ?_
  simp (disch := omega) only [wk, tis, Int.reduceNe, Int.reduceEq, Int.reduceLT, Int.reduceLE, Int.reduceAdd, Int.reduceSub, Int.reduceNeg, Int.reduceMul, Int.reduceToNat, Nat.reduceSub, Nat.reduceMul, Nat.reduceLeDiff, Nat.reduceAdd, Nat.reduceLT, Nat.reduceEqDiff, reduceCtorEq, ↓reduceIte, rats_len, rats_get, lay_rat, qrow_take, qrow_len, qrow_splice, qrow_row, rats_rows, rats_snoc, rats_set, rats_take, rats_rep, rats_nil, qrow_drop2, qrow_take2, qrow_drop1, qrow_spl0, case12_A, case12_B, case12_X, case12_Y, ints_two]
  cases b2 with
  | true =>
    refine call_by (g2) (by rfl) (by simp) ?_
    simp (disch := omega) only [wk, tis, Int.reduceNe, Int.reduceEq, Int.reduceLT, Int.reduceLE, Int.reduceAdd, Int.reduceSub, Int.reduceNeg, Int.reduceMul, Int.reduceToNat, Nat.reduceSub, Nat.reduceMul, Nat.reduceLeDiff, Nat.reduceAdd, Nat.reduceLT, Nat.reduceEqDiff, reduceCtorEq, ↓reduceIte, rats_len, rats_get, lay_rat, qrow_take, qrow_len, qrow_splice, qrow_row, rats_rows, rats_snoc, rats_set, rats_take, rats_rep, rats_nil, qrow_drop2, qrow_take2, qrow_drop1, qrow_spl0, case12_A, case12_B, case12_X, case12_Y, ints_two]
    try rfl
  | false =>
  refine call_by (g2) (by rfl) (by simp) ?_
  simp (disch := omega) only [wk, tis, Int.reduceNe, Int.reduceEq, Int.reduceLT, Int.reduceLE, Int.reduceAdd, Int.reduceSub, Int.reduceNeg, Int.reduceMul, Int.reduceToNat, Nat.reduceSub, Nat.reduceMul, Nat.reduceLeDiff, Nat.reduceAdd, Nat.reduceLT, Nat.reduceEqDiff, reduceCtorEq, ↓reduceIte, rats_len, rats_get, lay_rat, qrow_take, qrow_len, qrow_splice, qrow_row, rats_rows, rats_snoc, rats_set, rats_take, rats_rep, rats_nil, qrow_drop2, qrow_take2, qrow_drop1, qrow_spl0, case12_A, case12_B, case12_X, case12_Y, ints_two]
  cases b3 with
  | true =>
    refine call_by (g3) (by rfl) (by simp) ?_
    simp (disch := omega) only [wk, tis, Int.reduceNe, Int.reduceEq, Int.reduceLT, Int.reduceLE, Int.reduceAdd, Int.reduceSub, Int.reduceNeg, Int.reduceMul, Int.reduceToNat, Nat.reduceSub, Nat.reduceMul, Nat.reduceLeDiff, Nat.reduceAdd, Nat.reduceLT, Nat.reduceEqDiff, reduceCtorEq, ↓reduceIte, rats_len, rats_get, lay_rat, qrow_take, qrow_len, qrow_splice, qrow_row, rats_rows, rats_snoc, rats_set, rats_take, rats_rep, rats_nil, qrow_drop2, qrow_take2, qrow_drop1, qrow_spl0, case12_A, case12_B, case12_X, case12_Y, ints_two]
    try rfl
  | false =>
  refine call_by (g3) (by first | rfl | (simp only [tocvs, tocv, p3]; rfl) | (simp only [tocvs, tocv, toboxes, tobox, updH_at, Nat.reduceEqDiff, ↓reduceIte, p3]; rfl)) (by simp) ?_
  simp (disch := omega) only [wk, tis, Int.reduceNe, Int.reduceEq, Int.reduceLT, Int.reduceLE, Int.reduceAdd, Int.reduceSub, Int.reduceNeg, Int.reduceMul, Int.reduceToNat, Nat.reduceSub, Nat.reduceMul, Nat.reduceLeDiff, Nat.reduceAdd, Nat.reduceLT, Nat.reduceEqDiff, reduceCtorEq, ↓reduceIte, rats_len, rats_get, lay_rat, qrow_take, qrow_len, qrow_splice, qrow_row, rats_rows, rats_snoc, rats_set, rats_take, rats_rep, rats_nil, qrow_drop2, qrow_take2, qrow_drop1, qrow_spl0, case12_A, case12_B, case12_X, case12_Y, ints_two, p3]
  cases b4 with
  | true =>
    refine call_by (g4) (by first | rfl | (simp only [tocvs, tocv, p3]; rfl) | (simp only [tocvs, tocv, toboxes, tobox, updH_at, Nat.reduceEqDiff, ↓reduceIte, p3]; rfl)) (by simp) ?_
    simp (disch := omega) only [wk, tis, Int.reduceNe, Int.reduceEq, Int.reduceLT, Int.reduceLE, Int.reduceAdd, Int.reduceSub, Int.reduceNeg, Int.reduceMul, Int.reduceToNat, Nat.reduceSub, Nat.reduceMul, Nat.reduceLeDiff, Nat.reduceAdd, Nat.reduceLT, Nat.reduceEqDiff, reduceCtorEq, ↓reduceIte, rats_len, rats_get, lay_rat, qrow_take, qrow_len, qrow_splice, qrow_row, rats_rows, rats_snoc, rats_set, rats_take, rats_rep, rats_nil, qrow_drop2, qrow_take2, qrow_drop1, qrow_spl0, case12_A, case12_B, case12_X, case12_Y, ints_two, p3]
    try rfl
  | false =>
  refine call_by (g4) (by first | rfl | (simp only [tocvs, tocv, p3]; rfl) | (simp only [tocvs, tocv, toboxes, tobox, updH_at, Nat.reduceEqDiff, ↓reduceIte, p3]; rfl)) (by simp) ?_
  simp (disch := omega) only [wk, tis, Int.reduceNe, Int.reduceEq, Int.reduceLT, Int.reduceLE, Int.reduceAdd, Int.reduceSub, Int.reduceNeg, Int.reduceMul, Int.reduceToNat, Nat.reduceSub, Nat.reduceMul, Nat.reduceLeDiff, Nat.reduceAdd, Nat.reduceLT, Nat.reduceEqDiff, reduceCtorEq, ↓reduceIte, rats_len, rats_get, lay_rat, qrow_take, qrow_len, qrow_splice, qrow_row, rats_rows, rats_snoc, rats_set, rats_take, rats_rep, rats_nil, qrow_drop2, qrow_take2, qrow_drop1, qrow_spl0, case12_A, case12_B, case12_X, case12_Y, ints_two, p3]
  refine call_by (g5) (by first | rfl | (simp only [tocvs, tocv, p3]; rfl) | (simp only [tocvs, tocv, toboxes, tobox, updH_at, Nat.reduceEqDiff, ↓reduceIte, p3]; rfl)) (by simp) ?_
  simp (disch := omega) only [wk, tis, Int.reduceNe, Int.reduceEq, Int.reduceLT, Int.reduceLE, Int.reduceAdd, Int.reduceSub, Int.reduceNeg, Int.reduceMul, Int.reduceToNat, Nat.reduceSub, Nat.reduceMul, Nat.reduceLeDiff, Nat.reduceAdd, Nat.reduceLT, Nat.reduceEqDiff, reduceCtorEq, ↓reduceIte, rats_len, rats_get, lay_rat, qrow_take, qrow_len, qrow_splice, qrow_row, rats_rows, rats_snoc, rats_set, rats_take, rats_rep, rats_nil, qrow_drop2, qrow_take2, qrow_drop1, qrow_spl0, case12_A, case12_B, case12_X, case12_Y, ints_two, p3]
  cases b5 <;> rfl

theorem plain12_ok (e w : Int) : AC Tryz.prog 14 [ci e, ci w] none [cb (decide (e = w))] := by
  refine AC.by_walk (rs := [.tmp 4]) ords Tryz.func14 (by rfl) (by rfl) (by rfl) (by rfl) (by rfl) ?_
  simp (disch := omega) only [wk, tis, Int.reduceNe, Int.reduceEq, Int.reduceLT, Int.reduceLE, Int.reduceAdd, Int.reduceSub, Int.reduceNeg, Int.reduceMul, Int.reduceToNat, Nat.reduceSub, Nat.reduceMul, Nat.reduceLeDiff, Nat.reduceAdd, Nat.reduceLT, Nat.reduceEqDiff, reduceCtorEq, ↓reduceIte, rats_len, rats_get, lay_rat, qrow_take, qrow_len, qrow_splice, qrow_row, rats_rows, rats_snoc, rats_set, rats_take, rats_rep, rats_nil, qrow_drop2, qrow_take2, qrow_drop1, qrow_spl0, case12_A, case12_B, case12_X, case12_Y, ints_two]

theorem awake12_ok : AC Tryz.prog 10 [] none [cb true] := by
  have s := sof_ok [-2, 0, 1] (by decide) (by decide)
  have b0 := small_pb [-2, 0, 1] 3 (by decide) (by decide)
  have o := hoverq_ok (cn [-2, 0, 1]) (rp_cn (b0.mono (by omega) (by omega)))
  have e0 : trimz [-2, 0, 1] = [-2, 0, 1] := by decide
  have e1 : pv (cn [-2, 0, 1]) = [-2, 0, 1] := by rw [cn, pv_canon, e0]
  rw [e1] at o
  have p1 := hP_ok 3 2 (by omega) (by omega) (by omega) (by omega)
  have p2 := hP_ok 1 1 (by omega) (by omega) (by omega) (by omega)
  have p3 := hP_ok 1 4 (by omega) (by omega) (by omega) (by omega)
  have bq : QB 3 1 (qp [-2, 0, 1]) := PB.ofZ b0 (by omega)
  have z1 : qz ((3 : Int) / (2 : Nat) : Rat) ≤ 1 := by decide +kernel
  have a := eAt_ok (cqs (qp [-2, 0, 1])) (crat ((3 : Int) / (2 : Nat))) 100 (VB.of (K := 1) (X := 1) (n := 3) bq.gqs (szq_crat z1) (nv_crat0 _) (by omega) (by omega) (by omega))
  rw [qvs_cqs, evq_trim, qv_crat, show evq (qp [-2, 0, 1]) ((3 : Int) / (2 : Nat)) = ((1 : Int) : Rat) / ((4 : Nat) : Rat) by decide +kernel] at a
  have g := eSign_ok (cn [-2, 0, 1]) (crat ((1 : Int) / (1 : Nat))) (rp_cn (b0.mono (by omega) (by omega))) ((szq_crat (show qz ((1 : Int) / (1 : Nat) : Rat) ≤ 1 by decide +kernel)).mono (by omega)) (nv_crat0 _)
  rw [e1, qv_crat, show sgq (evq (qp [-2, 0, 1]) ((1 : Int) / (1 : Nat))) = -1 by decide +kernel] at g
  have z2 : qz ((1 : Int) / (4 : Nat) : Rat) ≤ 1 := by decide +kernel
  have sm := hsame_ok (crat ((1 : Int) / (4 : Nat))) (crat ((1 : Int) / (4 : Nat))) ((szq_crat z2).mono (by omega)) ((szq_crat z2).mono (by omega))
  rw [decide_eq_true rfl] at sm
  refine AC.by_walk (rs := [.tmp 0]) ords Tryz.func10 (by rfl) (by rfl) (by rfl) (by rfl) (by rfl) ?_
  simp (disch := omega) only [wk, tis, Int.reduceNe, Int.reduceEq, Int.reduceLT, Int.reduceLE, Int.reduceAdd, Int.reduceSub, Int.reduceNeg, Int.reduceMul, Int.reduceToNat, Nat.reduceSub, Nat.reduceMul, Nat.reduceLeDiff, Nat.reduceAdd, Nat.reduceLT, Nat.reduceEqDiff, reduceCtorEq, ↓reduceIte, rats_len, rats_get, lay_rat, qrow_take, qrow_len, qrow_splice, qrow_row, rats_rows, rats_snoc, rats_set, rats_take, rats_rep, rats_nil, qrow_drop2, qrow_take2, qrow_drop1, qrow_spl0, case12_A, case12_B, case12_X, case12_Y, ints_two]
  refine call_by (s) (by rfl) (by simp) ?_
  simp (disch := omega) only [wk, tis, Int.reduceNe, Int.reduceEq, Int.reduceLT, Int.reduceLE, Int.reduceAdd, Int.reduceSub, Int.reduceNeg, Int.reduceMul, Int.reduceToNat, Nat.reduceSub, Nat.reduceMul, Nat.reduceLeDiff, Nat.reduceAdd, Nat.reduceLT, Nat.reduceEqDiff, reduceCtorEq, ↓reduceIte, rats_len, rats_get, lay_rat, qrow_take, qrow_len, qrow_splice, qrow_row, rats_rows, rats_snoc, rats_set, rats_take, rats_rep, rats_nil, qrow_drop2, qrow_take2, qrow_drop1, qrow_spl0, case12_A, case12_B, case12_X, case12_Y, ints_two]
  refine call_by (o) (by rfl) (by simp) ?_
  simp (disch := omega) only [wk, tis, Int.reduceNe, Int.reduceEq, Int.reduceLT, Int.reduceLE, Int.reduceAdd, Int.reduceSub, Int.reduceNeg, Int.reduceMul, Int.reduceToNat, Nat.reduceSub, Nat.reduceMul, Nat.reduceLeDiff, Nat.reduceAdd, Nat.reduceLT, Nat.reduceEqDiff, reduceCtorEq, ↓reduceIte, rats_len, rats_get, lay_rat, qrow_take, qrow_len, qrow_splice, qrow_row, rats_rows, rats_snoc, rats_set, rats_take, rats_rep, rats_nil, qrow_drop2, qrow_take2, qrow_drop1, qrow_spl0, case12_A, case12_B, case12_X, case12_Y, ints_two]
  refine call_by (p1) (by rfl) (by simp) ?_
  simp (disch := omega) only [wk, tis, Int.reduceNe, Int.reduceEq, Int.reduceLT, Int.reduceLE, Int.reduceAdd, Int.reduceSub, Int.reduceNeg, Int.reduceMul, Int.reduceToNat, Nat.reduceSub, Nat.reduceMul, Nat.reduceLeDiff, Nat.reduceAdd, Nat.reduceLT, Nat.reduceEqDiff, reduceCtorEq, ↓reduceIte, rats_len, rats_get, lay_rat, qrow_take, qrow_len, qrow_splice, qrow_row, rats_rows, rats_snoc, rats_set, rats_take, rats_rep, rats_nil, qrow_drop2, qrow_take2, qrow_drop1, qrow_spl0, case12_A, case12_B, case12_X, case12_Y, ints_two]
  refine call_by (a) (by rfl) (by simp) ?_
  simp (disch := omega) only [wk, tis, Int.reduceNe, Int.reduceEq, Int.reduceLT, Int.reduceLE, Int.reduceAdd, Int.reduceSub, Int.reduceNeg, Int.reduceMul, Int.reduceToNat, Nat.reduceSub, Nat.reduceMul, Nat.reduceLeDiff, Nat.reduceAdd, Nat.reduceLT, Nat.reduceEqDiff, reduceCtorEq, ↓reduceIte, rats_len, rats_get, lay_rat, qrow_take, qrow_len, qrow_splice, qrow_row, rats_rows, rats_snoc, rats_set, rats_take, rats_rep, rats_nil, qrow_drop2, qrow_take2, qrow_drop1, qrow_spl0, case12_A, case12_B, case12_X, case12_Y, ints_two]
  refine call_by (s) (by rfl) (by simp) ?_
  simp (disch := omega) only [wk, tis, Int.reduceNe, Int.reduceEq, Int.reduceLT, Int.reduceLE, Int.reduceAdd, Int.reduceSub, Int.reduceNeg, Int.reduceMul, Int.reduceToNat, Nat.reduceSub, Nat.reduceMul, Nat.reduceLeDiff, Nat.reduceAdd, Nat.reduceLT, Nat.reduceEqDiff, reduceCtorEq, ↓reduceIte, rats_len, rats_get, lay_rat, qrow_take, qrow_len, qrow_splice, qrow_row, rats_rows, rats_snoc, rats_set, rats_take, rats_rep, rats_nil, qrow_drop2, qrow_take2, qrow_drop1, qrow_spl0, case12_A, case12_B, case12_X, case12_Y, ints_two]
  refine call_by (p2) (by rfl) (by simp) ?_
  simp (disch := omega) only [wk, tis, Int.reduceNe, Int.reduceEq, Int.reduceLT, Int.reduceLE, Int.reduceAdd, Int.reduceSub, Int.reduceNeg, Int.reduceMul, Int.reduceToNat, Nat.reduceSub, Nat.reduceMul, Nat.reduceLeDiff, Nat.reduceAdd, Nat.reduceLT, Nat.reduceEqDiff, reduceCtorEq, ↓reduceIte, rats_len, rats_get, lay_rat, qrow_take, qrow_len, qrow_splice, qrow_row, rats_rows, rats_snoc, rats_set, rats_take, rats_rep, rats_nil, qrow_drop2, qrow_take2, qrow_drop1, qrow_spl0, case12_A, case12_B, case12_X, case12_Y, ints_two]
  refine call_by (g) (by rfl) (by simp) ?_
  simp (disch := omega) only [wk, tis, Int.reduceNe, Int.reduceEq, Int.reduceLT, Int.reduceLE, Int.reduceAdd, Int.reduceSub, Int.reduceNeg, Int.reduceMul, Int.reduceToNat, Nat.reduceSub, Nat.reduceMul, Nat.reduceLeDiff, Nat.reduceAdd, Nat.reduceLT, Nat.reduceEqDiff, reduceCtorEq, ↓reduceIte, rats_len, rats_get, lay_rat, qrow_take, qrow_len, qrow_splice, qrow_row, rats_rows, rats_snoc, rats_set, rats_take, rats_rep, rats_nil, qrow_drop2, qrow_take2, qrow_drop1, qrow_spl0, case12_A, case12_B, case12_X, case12_Y, ints_two]
  refine ⟨tmps_by (by kernel_rfl), ?_⟩
  refine call_by (p3) (by rfl) (by simp) ?_
  simp (disch := omega) only [wk, tis, Int.reduceNe, Int.reduceEq, Int.reduceLT, Int.reduceLE, Int.reduceAdd, Int.reduceSub, Int.reduceNeg, Int.reduceMul, Int.reduceToNat, Nat.reduceSub, Nat.reduceMul, Nat.reduceLeDiff, Nat.reduceAdd, Nat.reduceLT, Nat.reduceEqDiff, reduceCtorEq, ↓reduceIte, rats_len, rats_get, lay_rat, qrow_take, qrow_len, qrow_splice, qrow_row, rats_rows, rats_snoc, rats_set, rats_take, rats_rep, rats_nil, qrow_drop2, qrow_take2, qrow_drop1, qrow_spl0, case12_A, case12_B, case12_X, case12_Y, ints_two]
  refine call_by (sm) (by rfl) (by simp) ?_
  simp (disch := omega) only [wk, tis, Int.reduceNe, Int.reduceEq, Int.reduceLT, Int.reduceLE, Int.reduceAdd, Int.reduceSub, Int.reduceNeg, Int.reduceMul, Int.reduceToNat, Nat.reduceSub, Nat.reduceMul, Nat.reduceLeDiff, Nat.reduceAdd, Nat.reduceLT, Nat.reduceEqDiff, reduceCtorEq, ↓reduceIte, rats_len, rats_get, lay_rat, qrow_take, qrow_len, qrow_splice, qrow_row, rats_rows, rats_snoc, rats_set, rats_take, rats_rep, rats_nil, qrow_drop2, qrow_take2, qrow_drop1, qrow_spl0, case12_A, case12_B, case12_X, case12_Y, ints_two]
  first | exact log_by (by kernel_rfl) | refine ⟨log_by (by kernel_rfl), ?_⟩
  try rfl

/-- The value of both, or the error of both. -/
theorem at_both (p : List RQ) (x : RQ) (hp : BQ 40 200 p) (hx : SzQ 200 x) : ∃ v e, SzQ (2 ^ 34) v ∧ AC Tryz.prog 12 [cqw p, cqq x] none [cqq v, ci e] ∧ AC Tryz.prog 13 [cqw p, cqq x] none [cqq v, ci e] ∧ AC Tryz.prog 15 [cqq v, cqq v] none [cb true] := by
  have key : ∀ v : RQ, SzQ (2 ^ 34) v → AC Tryz.prog 15 [cqq v, cqq v] none [cb true] := fun v hv => by
    have := hsame_ok v v (hv.mono (by omega)) (hv.mono (by omega))
    rwa [decide_eq_true rfl] at this
  by_cases h : gd p = true ∧ nv x.2 ≠ 0
  · have v := VB.of (B := 2 ^ 34) (hp.gq h.1) hx h.2 (by omega) (by omega) (by omega)
    have hs : SzQ (2 ^ 34) (crat (evq (qvs p) (qv x))) := szq_crat (v.e _ (by rw [qvs_len]; omega) fun c hc => hc)
    exact ⟨crat (evq (qvs p) (qv x)), 0, hs, hAt_ok p x _ v, eAt_ok p x _ v, key _ hs⟩
  · have h' : gd p = false ∨ nv x.2 = 0 := by
      cases hg : gd p with
      | false => exact .inl rfl
      | true => exact .inr (Decidable.not_not.mp fun h0 => h ⟨hg, h0⟩)
    have hs : SzQ (2 ^ 34) q0 := ⟨⟨Nat.zero_le _, Lim.nil⟩, Nat.zero_le _, Lim.nil⟩
    exact ⟨q0, 1, hs, hAt_bad p x (hp.mono (by omega) (by omega)) (hx.mono (by omega)) h', eAt_bad p x (hp.mono (by omega) (by omega)) (hx.mono (by omega)) h', key _ hs⟩

theorem values_ok (x : C12) (h : Ok12 x) : AC Tryz.prog 3 [.agg (case12 x)] none [cb true] := by
  have g := great12_ok x h
  cases hg : great12 x with
  | true =>
    rw [hg] at g
    refine AC.by_walk (rs := [.tmp 2]) ords Tryz.func3 (by rfl) (by rfl) (by rfl) (by rfl) (by rfl) ?_
    simp (disch := omega) only [wk, tis, Int.reduceNe, Int.reduceEq, Int.reduceLT, Int.reduceLE, Int.reduceAdd, Int.reduceSub, Int.reduceNeg, Int.reduceMul, Int.reduceToNat, Nat.reduceSub, Nat.reduceMul, Nat.reduceLeDiff, Nat.reduceAdd, Nat.reduceLT, Nat.reduceEqDiff, reduceCtorEq, ↓reduceIte, rats_len, rats_get, lay_rat, qrow_take, qrow_len, qrow_splice, qrow_row, rats_rows, rats_snoc, rats_set, rats_take, rats_rep, rats_nil, qrow_drop2, qrow_take2, qrow_drop1, qrow_spl0, case12_A, case12_B, case12_X, case12_Y, ints_two]
    refine call_by (awake12_ok) (by rfl) (by simp) ?_
    simp (disch := omega) only [wk, tis, Int.reduceNe, Int.reduceEq, Int.reduceLT, Int.reduceLE, Int.reduceAdd, Int.reduceSub, Int.reduceNeg, Int.reduceMul, Int.reduceToNat, Nat.reduceSub, Nat.reduceMul, Nat.reduceLeDiff, Nat.reduceAdd, Nat.reduceLT, Nat.reduceEqDiff, reduceCtorEq, ↓reduceIte, rats_len, rats_get, lay_rat, qrow_take, qrow_len, qrow_splice, qrow_row, rats_rows, rats_snoc, rats_set, rats_take, rats_rep, rats_nil, qrow_drop2, qrow_take2, qrow_drop1, qrow_spl0, case12_A, case12_B, case12_X, case12_Y, ints_two]
    refine call_by (g) (by rfl) (by simp) ?_
    simp (disch := omega) only [wk, tis, Int.reduceNe, Int.reduceEq, Int.reduceLT, Int.reduceLE, Int.reduceAdd, Int.reduceSub, Int.reduceNeg, Int.reduceMul, Int.reduceToNat, Nat.reduceSub, Nat.reduceMul, Nat.reduceLeDiff, Nat.reduceAdd, Nat.reduceLT, Nat.reduceEqDiff, reduceCtorEq, ↓reduceIte, rats_len, rats_get, lay_rat, qrow_take, qrow_len, qrow_splice, qrow_row, rats_rows, rats_snoc, rats_set, rats_take, rats_rep, rats_nil, qrow_drop2, qrow_take2, qrow_drop1, qrow_spl0, case12_A, case12_B, case12_X, case12_Y, ints_two]
  | false =>
    rw [hg] at g
    have f := fit12 h hg
    obtain ⟨v, e, hv, a1, a2, s⟩ := at_both x.R x.X f.R f.X
    have p := plain12_ok e e
    rw [decide_eq_true rfl] at p
    have zA := zl_iv f.A
    have zB := zl_iv f.B
    have fP : RP (2 ^ 10) (2 ^ 20) x.P := f.P.mono (by omega) (by omega)
    have fA : Sz (2 ^ 20) x.A := f.A.mono (by omega)
    have fB : Sz (2 ^ 20) x.B := f.B.mono (by omega)
    have z1 := ev_bound fP (t := iv x.A) (by omega) (pv x.P) (by rw [pv_len]; omega) (fun z hz => hz)
    have z2 : zl (ihom (trimz (pv x.P)) (iv x.A) (iv x.B)) ≤ 2 ^ 33 := by
      have h := zl_ihom (K := 2 ^ 20) (k := 2 ^ 20) (p := trimz (pv x.P)) (a := iv x.A) (b := iv x.B) (by omega) (by omega) fun z hz => fP.pv.trimz.2 z hz
      have h2 : (trimz (pv x.P)).length ≤ 2 ^ 10 := fP.pv.trimz.1
      have h3 := Nat.mul_le_mul_right (2 ^ 20 + 1) h2
      have h4 : 2 ^ 20 + 2 ^ 10 * (2 ^ 20 + 1) + 1 ≤ 2 ^ 32 := by decide
      omega
    have m1 := eatint_ok x.P x.A fP fA
    have m2 := hatint_ok x.P x.A fP fA
    have m3 := sameint_g (a := ev (pv x.P) (iv x.A)) rfl (by omega)
    have n1 := ehomog_ok x.P x.A x.B fP fA fB
    have n2 := hhomog_ok x.P x.A x.B fP fA fB
    have n3 := sameint_g (a := ihom (trimz (pv x.P)) (iv x.A) (iv x.B)) rfl (by omega)
    refine AC.by_walk (rs := [.tmp 2]) ords Tryz.func3 (by rfl) (by rfl) (by rfl) (by rfl) (by rfl) ?_
    simp (disch := omega) only [wk, tis, Int.reduceNe, Int.reduceEq, Int.reduceLT, Int.reduceLE, Int.reduceAdd, Int.reduceSub, Int.reduceNeg, Int.reduceMul, Int.reduceToNat, Nat.reduceSub, Nat.reduceMul, Nat.reduceLeDiff, Nat.reduceAdd, Nat.reduceLT, Nat.reduceEqDiff, reduceCtorEq, ↓reduceIte, rats_len, rats_get, lay_rat, qrow_take, qrow_len, qrow_splice, qrow_row, rats_rows, rats_snoc, rats_set, rats_take, rats_rep, rats_nil, qrow_drop2, qrow_take2, qrow_drop1, qrow_spl0, case12_A, case12_B, case12_X, case12_Y, ints_two]
    refine call_by (awake12_ok) (by rfl) (by simp) ?_
    simp (disch := omega) only [wk, tis, Int.reduceNe, Int.reduceEq, Int.reduceLT, Int.reduceLE, Int.reduceAdd, Int.reduceSub, Int.reduceNeg, Int.reduceMul, Int.reduceToNat, Nat.reduceSub, Nat.reduceMul, Nat.reduceLeDiff, Nat.reduceAdd, Nat.reduceLT, Nat.reduceEqDiff, reduceCtorEq, ↓reduceIte, rats_len, rats_get, lay_rat, qrow_take, qrow_len, qrow_splice, qrow_row, rats_rows, rats_snoc, rats_set, rats_take, rats_rep, rats_nil, qrow_drop2, qrow_take2, qrow_drop1, qrow_spl0, case12_A, case12_B, case12_X, case12_Y, ints_two]
    refine call_by (g) (by rfl) (by simp) ?_
    simp (disch := omega) only [wk, tis, Int.reduceNe, Int.reduceEq, Int.reduceLT, Int.reduceLE, Int.reduceAdd, Int.reduceSub, Int.reduceNeg, Int.reduceMul, Int.reduceToNat, Nat.reduceSub, Nat.reduceMul, Nat.reduceLeDiff, Nat.reduceAdd, Nat.reduceLT, Nat.reduceEqDiff, reduceCtorEq, ↓reduceIte, rats_len, rats_get, lay_rat, qrow_take, qrow_len, qrow_splice, qrow_row, rats_rows, rats_snoc, rats_set, rats_take, rats_rep, rats_nil, qrow_drop2, qrow_take2, qrow_drop1, qrow_spl0, case12_A, case12_B, case12_X, case12_Y, ints_two]
    refine call_by (a1) (by rfl) (by simp) ?_
    simp (disch := omega) only [wk, tis, Int.reduceNe, Int.reduceEq, Int.reduceLT, Int.reduceLE, Int.reduceAdd, Int.reduceSub, Int.reduceNeg, Int.reduceMul, Int.reduceToNat, Nat.reduceSub, Nat.reduceMul, Nat.reduceLeDiff, Nat.reduceAdd, Nat.reduceLT, Nat.reduceEqDiff, reduceCtorEq, ↓reduceIte, rats_len, rats_get, lay_rat, qrow_take, qrow_len, qrow_splice, qrow_row, rats_rows, rats_snoc, rats_set, rats_take, rats_rep, rats_nil, qrow_drop2, qrow_take2, qrow_drop1, qrow_spl0, case12_A, case12_B, case12_X, case12_Y, ints_two]
    refine call_by (a2) (by rfl) (by simp) ?_
    simp (disch := omega) only [wk, tis, Int.reduceNe, Int.reduceEq, Int.reduceLT, Int.reduceLE, Int.reduceAdd, Int.reduceSub, Int.reduceNeg, Int.reduceMul, Int.reduceToNat, Nat.reduceSub, Nat.reduceMul, Nat.reduceLeDiff, Nat.reduceAdd, Nat.reduceLT, Nat.reduceEqDiff, reduceCtorEq, ↓reduceIte, rats_len, rats_get, lay_rat, qrow_take, qrow_len, qrow_splice, qrow_row, rats_rows, rats_snoc, rats_set, rats_take, rats_rep, rats_nil, qrow_drop2, qrow_take2, qrow_drop1, qrow_spl0, case12_A, case12_B, case12_X, case12_Y, ints_two]
    refine call_by (p) (by rfl) (by simp) ?_
    simp (disch := omega) only [wk, tis, Int.reduceNe, Int.reduceEq, Int.reduceLT, Int.reduceLE, Int.reduceAdd, Int.reduceSub, Int.reduceNeg, Int.reduceMul, Int.reduceToNat, Nat.reduceSub, Nat.reduceMul, Nat.reduceLeDiff, Nat.reduceAdd, Nat.reduceLT, Nat.reduceEqDiff, reduceCtorEq, ↓reduceIte, rats_len, rats_get, lay_rat, qrow_take, qrow_len, qrow_splice, qrow_row, rats_rows, rats_snoc, rats_set, rats_take, rats_rep, rats_nil, qrow_drop2, qrow_take2, qrow_drop1, qrow_spl0, case12_A, case12_B, case12_X, case12_Y, ints_two]
    refine call_by (s) (by rfl) (by simp) ?_
    simp (disch := omega) only [wk, tis, Int.reduceNe, Int.reduceEq, Int.reduceLT, Int.reduceLE, Int.reduceAdd, Int.reduceSub, Int.reduceNeg, Int.reduceMul, Int.reduceToNat, Nat.reduceSub, Nat.reduceMul, Nat.reduceLeDiff, Nat.reduceAdd, Nat.reduceLT, Nat.reduceEqDiff, reduceCtorEq, ↓reduceIte, rats_len, rats_get, lay_rat, qrow_take, qrow_len, qrow_splice, qrow_row, rats_rows, rats_snoc, rats_set, rats_take, rats_rep, rats_nil, qrow_drop2, qrow_take2, qrow_drop1, qrow_spl0, case12_A, case12_B, case12_X, case12_Y, ints_two]
    refine ⟨tmps_by (by kernel_rfl), ?_⟩
    refine call_by (m1) (by rfl) (by simp) ?_
    simp (disch := omega) only [wk, tis, Int.reduceNe, Int.reduceEq, Int.reduceLT, Int.reduceLE, Int.reduceAdd, Int.reduceSub, Int.reduceNeg, Int.reduceMul, Int.reduceToNat, Nat.reduceSub, Nat.reduceMul, Nat.reduceLeDiff, Nat.reduceAdd, Nat.reduceLT, Nat.reduceEqDiff, reduceCtorEq, ↓reduceIte, rats_len, rats_get, lay_rat, qrow_take, qrow_len, qrow_splice, qrow_row, rats_rows, rats_snoc, rats_set, rats_take, rats_rep, rats_nil, qrow_drop2, qrow_take2, qrow_drop1, qrow_spl0, case12_A, case12_B, case12_X, case12_Y, ints_two]
    refine call_by (m2) (by rfl) (by simp) ?_
    simp (disch := omega) only [wk, tis, Int.reduceNe, Int.reduceEq, Int.reduceLT, Int.reduceLE, Int.reduceAdd, Int.reduceSub, Int.reduceNeg, Int.reduceMul, Int.reduceToNat, Nat.reduceSub, Nat.reduceMul, Nat.reduceLeDiff, Nat.reduceAdd, Nat.reduceLT, Nat.reduceEqDiff, reduceCtorEq, ↓reduceIte, rats_len, rats_get, lay_rat, qrow_take, qrow_len, qrow_splice, qrow_row, rats_rows, rats_snoc, rats_set, rats_take, rats_rep, rats_nil, qrow_drop2, qrow_take2, qrow_drop1, qrow_spl0, case12_A, case12_B, case12_X, case12_Y, ints_two]
    refine call_by (m3) (by rfl) (by simp) ?_
    simp (disch := omega) only [wk, tis, Int.reduceNe, Int.reduceEq, Int.reduceLT, Int.reduceLE, Int.reduceAdd, Int.reduceSub, Int.reduceNeg, Int.reduceMul, Int.reduceToNat, Nat.reduceSub, Nat.reduceMul, Nat.reduceLeDiff, Nat.reduceAdd, Nat.reduceLT, Nat.reduceEqDiff, reduceCtorEq, ↓reduceIte, rats_len, rats_get, lay_rat, qrow_take, qrow_len, qrow_splice, qrow_row, rats_rows, rats_snoc, rats_set, rats_take, rats_rep, rats_nil, qrow_drop2, qrow_take2, qrow_drop1, qrow_spl0, case12_A, case12_B, case12_X, case12_Y, ints_two]
    refine call_by (n1) (by rfl) (by simp) ?_
    simp (disch := omega) only [wk, tis, Int.reduceNe, Int.reduceEq, Int.reduceLT, Int.reduceLE, Int.reduceAdd, Int.reduceSub, Int.reduceNeg, Int.reduceMul, Int.reduceToNat, Nat.reduceSub, Nat.reduceMul, Nat.reduceLeDiff, Nat.reduceAdd, Nat.reduceLT, Nat.reduceEqDiff, reduceCtorEq, ↓reduceIte, rats_len, rats_get, lay_rat, qrow_take, qrow_len, qrow_splice, qrow_row, rats_rows, rats_snoc, rats_set, rats_take, rats_rep, rats_nil, qrow_drop2, qrow_take2, qrow_drop1, qrow_spl0, case12_A, case12_B, case12_X, case12_Y, ints_two]
    refine call_by (n2) (by rfl) (by simp) ?_
    simp (disch := omega) only [wk, tis, Int.reduceNe, Int.reduceEq, Int.reduceLT, Int.reduceLE, Int.reduceAdd, Int.reduceSub, Int.reduceNeg, Int.reduceMul, Int.reduceToNat, Nat.reduceSub, Nat.reduceMul, Nat.reduceLeDiff, Nat.reduceAdd, Nat.reduceLT, Nat.reduceEqDiff, reduceCtorEq, ↓reduceIte, rats_len, rats_get, lay_rat, qrow_take, qrow_len, qrow_splice, qrow_row, rats_rows, rats_snoc, rats_set, rats_take, rats_rep, rats_nil, qrow_drop2, qrow_take2, qrow_drop1, qrow_spl0, case12_A, case12_B, case12_X, case12_Y, ints_two]
    refine call_by (n3) (by rfl) (by simp) ?_
    simp (disch := omega) only [wk, tis, Int.reduceNe, Int.reduceEq, Int.reduceLT, Int.reduceLE, Int.reduceAdd, Int.reduceSub, Int.reduceNeg, Int.reduceMul, Int.reduceToNat, Nat.reduceSub, Nat.reduceMul, Nat.reduceLeDiff, Nat.reduceAdd, Nat.reduceLT, Nat.reduceEqDiff, reduceCtorEq, ↓reduceIte, rats_len, rats_get, lay_rat, qrow_take, qrow_len, qrow_splice, qrow_row, rats_rows, rats_snoc, rats_set, rats_take, rats_rep, rats_nil, qrow_drop2, qrow_take2, qrow_drop1, qrow_spl0, case12_A, case12_B, case12_X, case12_Y, ints_two]
    first | exact log_by (by kernel_rfl) | refine ⟨log_by (by kernel_rfl), ?_⟩
    try rfl

theorem ok12 (P Q : List RI) (R S : List RQ) (A B : RI) (X Y : RQ) (N : Int) (hP : Raw P) (hQ : Raw Q) (hR : RawQ R) (hS : RawQ S) (hA : Sz 9223372036854775807 A) (hB : Sz 9223372036854775807 B) (hX : SzQ 9223372036854775807 X) (hY : SzQ 9223372036854775807 Y) (hN1 : -9223372036854775808 ≤ N) (hN2 : N ≤ 9223372036854775807) :
    Ok12 ⟨P, Q, R, S, A, B, X, Y, N⟩ := ⟨hP, hQ, hR, hS, hA, hB, hX, hY, hN1, hN2⟩
theorem values_law (P Q : List RI) (R S : List RQ) (A B : RI) (X Y : RQ) (N : Int) (hP : Raw P) (hQ : Raw Q) (hR : RawQ R) (hS : RawQ S) (hA : Sz 9223372036854775807 A) (hB : Sz 9223372036854775807 B) (hX : SzQ 9223372036854775807 X) (hY : SzQ 9223372036854775807 Y) (hN1 : -9223372036854775808 ≤ N) (hN2 : N ≤ 9223372036854775807) :
    AC Tryz.prog 3 [.agg (case12 ⟨P, Q, R, S, A, B, X, Y, N⟩)] none [cb true] := values_ok _ (ok12 P Q R S A B X Y N hP hQ hR hS hA hB hX hY hN1 hN2)
end Go.Proofs.YtjadkhkgmdikiaaGreat
