/-
  Contracts of the functions that the law reaches.
-/
import Derived.Test.YtcjnacpekbhhcaaGreatL36M
namespace Go.Proofs.YtcjnacpekbhhcaaGreat
open Go Go.Proofs Go.AL
set_option linter.unusedSimpArgs false
set_option linter.unusedVariables false

/-! ### slices.ContainsFunc over rationals, qpoly.Good -/
theorem idxq_gen (l : List RQ) (g : Nat) (P : RQ → Bool) (e : Int) (hl : l.length ≤ 2 ^ 43) (hc : ∀ r ∈ l, AC Tryz.prog g [cqq r] none [cb (P r)])
    (h1 : ∀ i, i < l.length → (∀ j, j < i → P (l.getD j q0) = false) → P (l.getD i q0) = true → e = i) (h2 : (∀ j, j < l.length → P (l.getD j q0) = false) → e = -1) :
    AC Tryz.prog 155 [cqw l, .fn g []] none [ci e] := by
  refine AC.by_walk (rs := [.tmp 4]) ords Tryz.func155 (by rfl) (by rfl) (by rfl) (by rfl) (by rfl) ?_
  simp (disch := omega) only [wk, tis, Int.reduceNe, Int.reduceEq, Int.reduceLT, Int.reduceLE, Int.reduceAdd, Int.reduceSub, Int.reduceNeg, Int.reduceMul, Int.reduceToNat, Nat.reduceSub, Nat.reduceMul, Nat.reduceLeDiff, Nat.reduceAdd, Nat.reduceLT, Nat.reduceEqDiff, reduceCtorEq, ↓reduceIte, rqs]
  refine aloop_by (fun f H => ∃ (i : Nat), i ≤ l.length ∧ (∀ j, j < i → P (l.getD j q0) = false) ∧ f 8 = .iv (.int .i64 i) ∧ f 0 = .iv (.sl (rats l)) ∧ f 6 = .iv (.sl (rats l)) ∧ f 7 = .iv (.int .i64 l.length) ∧ f 1 = .fn g []) (fun f H => (l.length - intAt f 8).toNat) ?_ ?_
  · refine ⟨0, by omega, fun j hj => by omega, ?_⟩
    simp (disch := omega) only [wk, tis, Int.reduceNe, Int.reduceEq, Int.reduceLT, Int.reduceLE, Int.reduceAdd, Int.reduceSub, Int.reduceNeg, Int.reduceMul, Int.reduceToNat, Nat.reduceSub, Nat.reduceMul, Nat.reduceLeDiff, Nat.reduceAdd, Nat.reduceLT, Nat.reduceEqDiff, reduceCtorEq, ↓reduceIte, rqs, List.map_nil]
  rintro f H ⟨i, hi, hz, hF⟩
  rw [intAt_of hF.1]
  simp (disch := omega) only [wk, tis, Int.reduceNe, Int.reduceEq, Int.reduceLT, Int.reduceLE, Int.reduceAdd, Int.reduceSub, Int.reduceNeg, Int.reduceMul, Int.reduceToNat, Nat.reduceSub, Nat.reduceMul, Nat.reduceLeDiff, Nat.reduceAdd, Nat.reduceLT, Nat.reduceEqDiff, reduceCtorEq, ↓reduceIte, rqs, hF]
  refine if_by (fun hlt => ?_) (fun hlt => ?_)
  · have hlt' : i < l.length := by omega
    simp (disch := omega) only [wk, tis, Int.reduceNe, Int.reduceEq, Int.reduceLT, Int.reduceLE, Int.reduceAdd, Int.reduceSub, Int.reduceNeg, Int.reduceMul, Int.reduceToNat, Nat.reduceSub, Nat.reduceMul, Nat.reduceLeDiff, Nat.reduceAdd, Nat.reduceLT, Nat.reduceEqDiff, reduceCtorEq, ↓reduceIte, rqs, hF]
    refine call_by ((hc (l.getD i q0) (getq_mem hlt'))) (by first | rfl | (simp only [tocvs, tocv, hF]; rfl) | (simp only [tocvs, tocv, toboxes, tobox, updH_at, Nat.reduceEqDiff, ↓reduceIte, hF]; rfl)) (by simp) ?_
    simp (disch := omega) only [wk, tis, Int.reduceNe, Int.reduceEq, Int.reduceLT, Int.reduceLE, Int.reduceAdd, Int.reduceSub, Int.reduceNeg, Int.reduceMul, Int.reduceToNat, Nat.reduceSub, Nat.reduceMul, Nat.reduceLeDiff, Nat.reduceAdd, Nat.reduceLT, Nat.reduceEqDiff, reduceCtorEq, ↓reduceIte, rqs, hF]
    cases hP : P (l.getD i q0) with
    | true =>
      obtain rfl := h1 i hlt' hz hP
      simp (disch := omega) only [wk, tis, Int.reduceNe, Int.reduceEq, Int.reduceLT, Int.reduceLE, Int.reduceAdd, Int.reduceSub, Int.reduceNeg, Int.reduceMul, Int.reduceToNat, Nat.reduceSub, Nat.reduceMul, Nat.reduceLeDiff, Nat.reduceAdd, Nat.reduceLT, Nat.reduceEqDiff, reduceCtorEq, ↓reduceIte, rqs, hF]
    | false =>
      simp (disch := omega) only [wk, tis, Int.reduceNe, Int.reduceEq, Int.reduceLT, Int.reduceLE, Int.reduceAdd, Int.reduceSub, Int.reduceNeg, Int.reduceMul, Int.reduceToNat, Nat.reduceSub, Nat.reduceMul, Nat.reduceLeDiff, Nat.reduceAdd, Nat.reduceLT, Nat.reduceEqDiff, reduceCtorEq, ↓reduceIte, rqs, hF]
      refine ⟨⟨i + 1, by omega, fun j hj => ?_, by omega⟩, by omega⟩
      rcases Nat.lt_or_ge j i with hj' | hj'
      · exact hz j hj'
      · obtain rfl : j = i := by omega
        exact hP
  · obtain rfl := h2 fun j hj => hz j (by omega)
    simp (disch := omega) only [wk, tis, Int.reduceNe, Int.reduceEq, Int.reduceLT, Int.reduceLE, Int.reduceAdd, Int.reduceSub, Int.reduceNeg, Int.reduceMul, Int.reduceToNat, Nat.reduceSub, Nat.reduceMul, Nat.reduceLeDiff, Nat.reduceAdd, Nat.reduceLT, Nat.reduceEqDiff, reduceCtorEq, ↓reduceIte, rqs, hF]

theorem conq_ok (l : List RQ) (g : Nat) (P : RQ → Bool) (hl : l.length ≤ 2 ^ 43) (hc : ∀ r ∈ l, AC Tryz.prog g [cqq r] none [cb (P r)]) :
    AC Tryz.prog 115 [cqw l, .fn g []] none [cb (l.any P)] := by
  have key : ∃ e : Int, (0 ≤ e ↔ l.any P = true) ∧ AC Tryz.prog 155 [cqw l, .fn g []] none [ci e] := by
    by_cases h : ∃ i, i < l.length ∧ P (l.getD i q0) = true
    · obtain ⟨i, hi, hP, hz⟩ : ∃ i, i < l.length ∧ P (l.getD i q0) = true ∧ ∀ j, j < i → P (l.getD j q0) = false := by
        obtain ⟨i0, hi0⟩ := h
        induction i0 using Nat.strongRecOn with
        | _ n ih =>
          by_cases hm : ∃ m, m < n ∧ P (l.getD m q0) = true
          · obtain ⟨m, hm1, hm2⟩ := hm
            exact ih m hm1 ⟨by omega, hm2⟩
          · refine ⟨n, hi0.1, hi0.2, fun j hj => ?_⟩
            cases hj' : P (l.getD j q0) with
            | false => rfl
            | true => exact (hm ⟨j, hj, hj'⟩).elim
      refine ⟨i, ⟨fun _ => List.any_eq_true.mpr ⟨_, getq_mem hi, hP⟩, fun _ => by omega⟩, idxq_gen l g P i hl hc (fun k hk hkz hkP => ?_) (fun hall => ?_)⟩
      · have : k = i := by
          rcases Nat.lt_trichotomy k i with h | h | h
          · have := hz k h; rw [this] at hkP; cases hkP
          · exact h
          · have := hkz i h; rw [this] at hP; cases hP
        rw [this]
      · rw [hall i hi] at hP; cases hP
    · refine ⟨-1, ⟨fun h0 => by omega, fun h0 => ?_⟩, idxq_gen l g P (-1) hl hc (fun k hk _ hkP => (h ⟨k, hk, hkP⟩).elim) (fun _ => rfl)⟩
      obtain ⟨r, hr, hP⟩ := List.any_eq_true.mp h0
      obtain ⟨j, hj, rfl⟩ := List.getElem_of_mem hr
      exact (h ⟨j, hj, by rw [List.getD, List.getElem?_eq_getElem hj, Option.getD_some]; exact hP⟩).elim
  obtain ⟨e, he, m⟩ := key
  refine AC.by_walk (rs := [.tmp 4]) ords Tryz.func115 (by rfl) (by rfl) (by rfl) (by rfl) (by rfl) ?_
  simp (disch := omega) only [wk, tis, Int.reduceNe, Int.reduceEq, Int.reduceLT, Int.reduceLE, Int.reduceAdd, Int.reduceSub, Int.reduceNeg, Int.reduceMul, Int.reduceToNat, Nat.reduceSub, Nat.reduceMul, Nat.reduceLeDiff, Nat.reduceAdd, Nat.reduceLT, Nat.reduceEqDiff, reduceCtorEq, ↓reduceIte, rqs]
  refine call_by (m) (by rfl) (by simp) ?_
  simp (disch := omega) only [wk, tis, Int.reduceNe, Int.reduceEq, Int.reduceLT, Int.reduceLE, Int.reduceAdd, Int.reduceSub, Int.reduceNeg, Int.reduceMul, Int.reduceToNat, Nat.reduceSub, Nat.reduceMul, Nat.reduceLeDiff, Nat.reduceAdd, Nat.reduceLT, Nat.reduceEqDiff, reduceCtorEq, ↓reduceIte, rqs]
  cases hP : l.any P with
  | true => rw [decide_eq_true (he.mpr hP)]
  | false => rw [decide_eq_false fun h => by rw [he.mp h] at hP; cases hP]

theorem qgood1_ok (r : RQ) (h : Nt (2 ^ 42) r.2) : AC Tryz.prog 116 [cqq r] none [cb (decide (nv r.2 = 0))] := by
  refine AC.by_walk (rs := [.tmp 2]) ords Tryz.func116 (by rfl) (by rfl) (by rfl) (by rfl) (by rfl) ?_
  simp (disch := omega) only [wk, tis, Int.reduceNe, Int.reduceEq, Int.reduceLT, Int.reduceLE, Int.reduceAdd, Int.reduceSub, Int.reduceNeg, Int.reduceMul, Int.reduceToNat, Nat.reduceSub, Nat.reduceMul, Nat.reduceLeDiff, Nat.reduceAdd, Nat.reduceLT, Nat.reduceEqDiff, reduceCtorEq, ↓reduceIte, rqs]
  by_cases h0 : nv r.2 = 0
  · have h0' := h0
    refine call_by ((qcheck_bad r h h0)) (by rfl) (by simp) ?_
    simp (disch := omega) only [wk, tis, Int.reduceNe, Int.reduceEq, Int.reduceLT, Int.reduceLE, Int.reduceAdd, Int.reduceSub, Int.reduceNeg, Int.reduceMul, Int.reduceToNat, Nat.reduceSub, Nat.reduceMul, Nat.reduceLeDiff, Nat.reduceAdd, Nat.reduceLT, Nat.reduceEqDiff, reduceCtorEq, ↓reduceIte, rqs]
    rw [decide_eq_true h0]
    try rfl
  · have h0' := h0
    refine call_by ((qcheck_good r h h0)) (by rfl) (by simp) ?_
    simp (disch := omega) only [wk, tis, Int.reduceNe, Int.reduceEq, Int.reduceLT, Int.reduceLE, Int.reduceAdd, Int.reduceSub, Int.reduceNeg, Int.reduceMul, Int.reduceToNat, Nat.reduceSub, Nat.reduceMul, Nat.reduceLeDiff, Nat.reduceAdd, Nat.reduceLT, Nat.reduceEqDiff, reduceCtorEq, ↓reduceIte, rqs]
    rw [decide_eq_false h0]
    try rfl

theorem not_any {l : List RQ} : (!l.any fun r => decide (nv r.2 = 0)) = gd l := by
  unfold gd
  induction l with
  | nil => rfl
  | cons a l ih =>
    rw [List.any_cons, List.all_cons, Bool.not_or, ih]
    congr 1
    by_cases h : nv a.2 = 0 <;> simp [h]

theorem qgood_ok (l : List RQ) (h : BQ (2 ^ 40) (2 ^ 40) l) : AC Tryz.prog 52 [cqw l] none [cb (gd l)] := by
  have m := conq_ok l 116 (fun r => decide (nv r.2 = 0)) (Nat.le_trans h.1 (by omega)) (fun r hr => qgood1_ok r ⟨Nat.le_trans (h.2 r hr).2.1 (by omega), (h.2 r hr).2.2⟩)
  refine AC.by_walk (rs := [.tmp 2]) ords Tryz.func52 (by rfl) (by rfl) (by rfl) (by rfl) (by rfl) ?_
  simp (disch := omega) only [wk, tis, Int.reduceNe, Int.reduceEq, Int.reduceLT, Int.reduceLE, Int.reduceAdd, Int.reduceSub, Int.reduceNeg, Int.reduceMul, Int.reduceToNat, Nat.reduceSub, Nat.reduceMul, Nat.reduceLeDiff, Nat.reduceAdd, Nat.reduceLT, Nat.reduceEqDiff, reduceCtorEq, ↓reduceIte, rqs, List.map_nil]
  refine call_by (m) (by first | rfl | (simp only [tocvs, tocv, List.map_nil]; rfl) | (simp only [tocvs, tocv, toboxes, tobox, updH_at, Nat.reduceEqDiff, ↓reduceIte, List.map_nil]; rfl)) (by simp) ?_
  simp (disch := omega) only [wk, tis, Int.reduceNe, Int.reduceEq, Int.reduceLT, Int.reduceLE, Int.reduceAdd, Int.reduceSub, Int.reduceNeg, Int.reduceMul, Int.reduceToNat, Nat.reduceSub, Nat.reduceMul, Nat.reduceLeDiff, Nat.reduceAdd, Nat.reduceLT, Nat.reduceEqDiff, reduceCtorEq, ↓reduceIte, rqs, List.map_nil]
  exact not_any

/-! ### Values -/
theorem evq_nil (x : Rat) : evq [] x = 0 := rfl
/-- Bounds for the values of a polynomial. -/
structure VB (p : List RQ) (x : RQ) (B : Nat) : Prop where
  hp : GQ (2 ^ 30) B p
  hx : SzQ B x
  d : nv x.2 ≠ 0
  e : ∀ q : List Rat, q.length ≤ p.length → (∀ c ∈ q, c ∈ qvs p) → qz (evq q (qv x)) ≤ B
  w : ∀ i, i ≤ p.length → qz (qv x ^ i) ≤ B
  b : B ≤ 2 ^ 34
  one : 1 ≤ B
theorem VB.of {n K X B : Nat} {p : List RQ} {x : RQ} (hp : GQ n K p) (hx : SzQ X x) (hd : nv x.2 ≠ 0) (hn : n ≤ 2 ^ 30) (hB : n * (K + X + 1) + K + X + 1 ≤ B) (hB' : B ≤ 2 ^ 34) : VB p x B where
  hp := hp.mono hn (by omega)
  hx := hx.mono (by omega)
  d := hd
  e := fun q hq hc => by
    have h := qz_evq (K := K) (qz_raw hx hd) (p := q) fun c hc' => hp.qb.2 c (hc c hc')
    have h2 := Nat.mul_le_mul_right (K + X + 1) (Nat.le_trans hq hp.1)
    omega
  w := fun i hi => by
    have h := qz_pow (qz_raw hx hd) i
    have h2 := Nat.mul_le_mul_right X (Nat.le_trans hi hp.1)
    have h3 : n * X ≤ n * (K + X + 1) := Nat.mul_le_mul_left n (by omega)
    omega
  b := hB'
  one := by omega
theorem VB.take {p : List RQ} {x : RQ} {B : Nat} (v : VB p x B) (i : Nat) : qz (evq ((qvs p).take i) (qv x)) ≤ B :=
  v.e _ (by rw [List.length_take, qvs_len]; omega) fun c hc => List.mem_of_mem_take hc
theorem VB.drop {p : List RQ} {x : RQ} {B : Nat} (v : VB p x B) (i : Nat) : qz (evq ((qvs p).drop i) (qv x)) ≤ B :=
  v.e _ (by rw [List.length_drop, qvs_len]; omega) fun c hc => List.mem_of_mem_drop hc
theorem hzero_ok : AC Tryz.prog 110 [] none [cqz 0] := by
  have m := hP_ok 0 1 (by omega) (by omega) (by omega) (by omega)
  rw [show ((0 : Int) : Rat) / ((1 : Nat) : Rat) = 0 by decide +kernel] at m
  refine AC.by_walk (rs := [.cell 0 31]) ords Tryz.func110 (by rfl) (by rfl) (by rfl) (by rfl) (by rfl) ?_
  simp (disch := omega) only [wk, tis, Int.reduceNe, Int.reduceEq, Int.reduceLT, Int.reduceLE, Int.reduceAdd, Int.reduceSub, Int.reduceNeg, Int.reduceMul, Int.reduceToNat, Nat.reduceSub, Nat.reduceMul, Nat.reduceLeDiff, Nat.reduceAdd, Nat.reduceLT, Nat.reduceEqDiff, reduceCtorEq, ↓reduceIte, rqs]
  refine call_by (m) (by rfl) (by simp) ?_
  simp (disch := omega) only [wk, tis, Int.reduceNe, Int.reduceEq, Int.reduceLT, Int.reduceLE, Int.reduceAdd, Int.reduceSub, Int.reduceNeg, Int.reduceMul, Int.reduceToNat, Nat.reduceSub, Nat.reduceMul, Nat.reduceLeDiff, Nat.reduceAdd, Nat.reduceLT, Nat.reduceEqDiff, reduceCtorEq, ↓reduceIte, rqs]
  try rfl
theorem hone_ok : AC Tryz.prog 36 [ci 1, ci 1] none [cqz 1] := by
  have m := hP_ok 1 1 (by omega) (by omega) (by omega) (by omega)
  rwa [show ((1 : Int) : Rat) / ((1 : Nat) : Rat) = 1 by decide +kernel] at m

theorem hat_ok (p : List RQ) (x : RQ) (B : Nat) (v : VB p x B) : AC Tryz.prog 50 [cqw p, cqq x] none [cqz (evq (qvs p) (qv x))] := by
  have hl := v.hp.1
  have hb := v.b
  have o := hone_ok
  refine AC.by_walk (rs := [.cell 4 31]) ords Tryz.func50 (by rfl) (by rfl) (by rfl) (by rfl) (by rfl) ?_
  simp (disch := omega) only [wk, tis, Int.reduceNe, Int.reduceEq, Int.reduceLT, Int.reduceLE, Int.reduceAdd, Int.reduceSub, Int.reduceNeg, Int.reduceMul, Int.reduceToNat, Nat.reduceSub, Nat.reduceMul, Nat.reduceLeDiff, Nat.reduceAdd, Nat.reduceLT, Nat.reduceEqDiff, reduceCtorEq, ↓reduceIte, rqs]
  refine call_by (hzero_ok) (by rfl) (by simp) ?_
  simp (disch := omega) only [wk, tis, Int.reduceNe, Int.reduceEq, Int.reduceLT, Int.reduceLE, Int.reduceAdd, Int.reduceSub, Int.reduceNeg, Int.reduceMul, Int.reduceToNat, Nat.reduceSub, Nat.reduceMul, Nat.reduceLeDiff, Nat.reduceAdd, Nat.reduceLT, Nat.reduceEqDiff, reduceCtorEq, ↓reduceIte, rqs]
  refine call_by (o) (by rfl) (by simp) ?_
  simp (disch := omega) only [wk, tis, Int.reduceNe, Int.reduceEq, Int.reduceLT, Int.reduceLE, Int.reduceAdd, Int.reduceSub, Int.reduceNeg, Int.reduceMul, Int.reduceToNat, Nat.reduceSub, Nat.reduceMul, Nat.reduceLeDiff, Nat.reduceAdd, Nat.reduceLT, Nat.reduceEqDiff, reduceCtorEq, ↓reduceIte, rqs]
  refine aloop_by (fun f H => ∃ (i st3 st5 st6 : Nat), i ≤ p.length ∧ f 7 = .iv (.int .i64 i) ∧ f 0 = .iv (.sl (rats p)) ∧ f 3 = .hp 3 st3 0 0 ∧ H 3 = .blk false st3 31 3 [qrow x] ∧ f 5 = .hp 5 st5 0 0 ∧ H 5 = .blk false st5 31 3 [qrow (crat (evq ((qvs p).take i) (qv x)))] ∧ f 6 = .hp 6 st6 0 0 ∧ H 6 = .blk false st6 31 3 [qrow (crat (qv x ^ i))] ∧ f 4 = .hp 4 1 0 0 ∧ H 4 = .blk false 1 31 3 [[.bool false, .sl [], .sl []]]) (fun f H => (p.length - intAt f 7).toNat) ?_ ?_
  · refine ⟨0, 1, 1, 1, by omega, ?_⟩
    simp (disch := omega) only [wk, tis, Int.reduceNe, Int.reduceEq, Int.reduceLT, Int.reduceLE, Int.reduceAdd, Int.reduceSub, Int.reduceNeg, Int.reduceMul, Int.reduceToNat, Nat.reduceSub, Nat.reduceMul, Nat.reduceLeDiff, Nat.reduceAdd, Nat.reduceLT, Nat.reduceEqDiff, reduceCtorEq, ↓reduceIte, rqs, List.take_zero, evq_nil, Rat.pow_zero]
  rintro f H ⟨i, st3, st5, st6, hi, hF⟩
  rw [intAt_of hF.1]
  simp (disch := omega) only [wk, tis, Int.reduceNe, Int.reduceEq, Int.reduceLT, Int.reduceLE, Int.reduceAdd, Int.reduceSub, Int.reduceNeg, Int.reduceMul, Int.reduceToNat, Nat.reduceSub, Nat.reduceMul, Nat.reduceLeDiff, Nat.reduceAdd, Nat.reduceLT, Nat.reduceEqDiff, reduceCtorEq, ↓reduceIte, rqs, hF]
  refine if_by (fun hlt => ?_) (fun hlt => ?_)
  · have hlt' : i < p.length := by omega
    have hr := v.hp.get hlt'
    have hrd := v.hp.den hlt'
    have z1 := v.take i
    have z2 := v.take (i + 1)
    have z3 := v.w i hi
    have z4 := v.w (i + 1) (by omega)
    have zc := qz_raw hr hrd
    have m := htimes_ok (p.getD i q0) (crat (qv x ^ i)) (hr.mono (by omega)) (szq_crat (by omega)) hrd (nv_crat0 _)
    rw [qv_crat, ← cfq_qvs] at m
    have zm := qz_mul (cfq (qvs p) i) (qv x ^ i)
    rw [← cfq_qvs] at zc
    have s := hplus_ok (crat (evq ((qvs p).take i) (qv x))) (crat (cfq (qvs p) i * qv x ^ i)) (szq_crat (by omega)) (szq_crat (by omega)) (nv_crat0 _) (nv_crat0 _)
    rw [qv_crat, qv_crat, show evq ((qvs p).take i) (qv x) + cfq (qvs p) i * qv x ^ i = evq ((qvs p).take (i + 1)) (qv x) from (evq_take (qvs p) (qv x) (by rw [qvs_len]; exact hlt')).symm] at s
    have w := htimes_ok (crat (qv x ^ i)) x (szq_crat (by omega)) (v.hx.mono (by omega)) (nv_crat0 _) v.d
    rw [qv_crat, ← Rat.pow_succ] at w
    simp (disch := omega) only [wk, tis, Int.reduceNe, Int.reduceEq, Int.reduceLT, Int.reduceLE, Int.reduceAdd, Int.reduceSub, Int.reduceNeg, Int.reduceMul, Int.reduceToNat, Nat.reduceSub, Nat.reduceMul, Nat.reduceLeDiff, Nat.reduceAdd, Nat.reduceLT, Nat.reduceEqDiff, reduceCtorEq, ↓reduceIte, rqs, hF]
    refine ⟨tmps_by (by kernel_rfl), ?_⟩
    refine call_by (m) (by first | rfl | (simp only [tocvs, tocv, hF]; rfl) | (simp only [tocvs, tocv, toboxes, tobox, updH_at, Nat.reduceEqDiff, ↓reduceIte, hF]; rfl)) (by simp) ?_
    simp (disch := omega) only [wk, tis, Int.reduceNe, Int.reduceEq, Int.reduceLT, Int.reduceLE, Int.reduceAdd, Int.reduceSub, Int.reduceNeg, Int.reduceMul, Int.reduceToNat, Nat.reduceSub, Nat.reduceMul, Nat.reduceLeDiff, Nat.reduceAdd, Nat.reduceLT, Nat.reduceEqDiff, reduceCtorEq, ↓reduceIte, rqs, hF]
    refine call_by (s) (by first | rfl | (simp only [tocvs, tocv, hF]; rfl) | (simp only [tocvs, tocv, toboxes, tobox, updH_at, Nat.reduceEqDiff, ↓reduceIte, hF]; rfl)) (by simp) ?_
    simp (disch := omega) only [wk, tis, Int.reduceNe, Int.reduceEq, Int.reduceLT, Int.reduceLE, Int.reduceAdd, Int.reduceSub, Int.reduceNeg, Int.reduceMul, Int.reduceToNat, Nat.reduceSub, Nat.reduceMul, Nat.reduceLeDiff, Nat.reduceAdd, Nat.reduceLT, Nat.reduceEqDiff, reduceCtorEq, ↓reduceIte, rqs, hF]
    first | exact log_by (by kernel_rfl) | refine ⟨log_by (by kernel_rfl), ?_⟩
    refine call_by (w) (by first | rfl | (simp only [tocvs, tocv, hF]; rfl) | (simp only [tocvs, tocv, toboxes, tobox, updH_at, Nat.reduceEqDiff, ↓reduceIte, hF]; rfl)) (by simp) ?_
    simp (disch := omega) only [wk, tis, Int.reduceNe, Int.reduceEq, Int.reduceLT, Int.reduceLE, Int.reduceAdd, Int.reduceSub, Int.reduceNeg, Int.reduceMul, Int.reduceToNat, Nat.reduceSub, Nat.reduceMul, Nat.reduceLeDiff, Nat.reduceAdd, Nat.reduceLT, Nat.reduceEqDiff, reduceCtorEq, ↓reduceIte, rqs, hF]
    exact ⟨⟨i + 1, st3, st5, st6, by omega, by omega, rfl, rfl, rfl, rfl, rfl, rfl⟩, by omega⟩
  · simp (disch := omega) only [wk, tis, Int.reduceNe, Int.reduceEq, Int.reduceLT, Int.reduceLE, Int.reduceAdd, Int.reduceSub, Int.reduceNeg, Int.reduceMul, Int.reduceToNat, Nat.reduceSub, Nat.reduceMul, Nat.reduceLeDiff, Nat.reduceAdd, Nat.reduceLT, Nat.reduceEqDiff, reduceCtorEq, ↓reduceIte, rqs, hF]
    rw [List.take_of_length_le (by rw [qvs_len]; omega)]
    try rfl

theorem eAt_ok (p : List RQ) (x : RQ) (B : Nat) (v : VB p x B) : AC Tryz.prog 44 [cqw p, cqq x] none [cqz (evq (qvs p) (qv x)), ci 0] := by
  have hl := v.hp.1
  have hb := v.b
  have g := qgood_ok p (v.hp.bq.mono (by omega) (by omega))
  rw [v.hp.gd] at g
  have o := qcheck_good x ⟨Nat.le_trans v.hx.2.1 (by omega), v.hx.2.2⟩ v.d
  have w := ewhole_ok 0 (by omega) (by omega)
  rw [Rat.intCast_zero] at w
  have e0 : evq ((qvs p).drop p.length) (qv x) = 0 := by rw [← qvs_len p, List.drop_length]; rfl
  refine AC.by_walk (rs := [.cell 4 31, .tmp 5]) ords Tryz.func44 (by rfl) (by rfl) (by rfl) (by rfl) (by rfl) ?_
  simp (disch := omega) only [wk, tis, Int.reduceNe, Int.reduceEq, Int.reduceLT, Int.reduceLE, Int.reduceAdd, Int.reduceSub, Int.reduceNeg, Int.reduceMul, Int.reduceToNat, Nat.reduceSub, Nat.reduceMul, Nat.reduceLeDiff, Nat.reduceAdd, Nat.reduceLT, Nat.reduceEqDiff, reduceCtorEq, ↓reduceIte, rqs]
  refine call_by (g) (by rfl) (by simp) ?_
  simp (disch := omega) only [wk, tis, Int.reduceNe, Int.reduceEq, Int.reduceLT, Int.reduceLE, Int.reduceAdd, Int.reduceSub, Int.reduceNeg, Int.reduceMul, Int.reduceToNat, Nat.reduceSub, Nat.reduceMul, Nat.reduceLeDiff, Nat.reduceAdd, Nat.reduceLT, Nat.reduceEqDiff, reduceCtorEq, ↓reduceIte, rqs]
  refine call_by (o) (by rfl) (by simp) ?_
  simp (disch := omega) only [wk, tis, Int.reduceNe, Int.reduceEq, Int.reduceLT, Int.reduceLE, Int.reduceAdd, Int.reduceSub, Int.reduceNeg, Int.reduceMul, Int.reduceToNat, Nat.reduceSub, Nat.reduceMul, Nat.reduceLeDiff, Nat.reduceAdd, Nat.reduceLT, Nat.reduceEqDiff, reduceCtorEq, ↓reduceIte, rqs]
  refine call_by (w) (by rfl) (by simp) ?_
  simp (disch := omega) only [wk, tis, Int.reduceNe, Int.reduceEq, Int.reduceLT, Int.reduceLE, Int.reduceAdd, Int.reduceSub, Int.reduceNeg, Int.reduceMul, Int.reduceToNat, Nat.reduceSub, Nat.reduceMul, Nat.reduceLeDiff, Nat.reduceAdd, Nat.reduceLT, Nat.reduceEqDiff, reduceCtorEq, ↓reduceIte, rqs]
  refine aloop_by (fun f H => ∃ (i st3 st6 : Nat), i ≤ p.length ∧ f 7 = .iv (.int .i64 ((i : Int) - 1)) ∧ f 0 = .iv (.sl (rats p)) ∧ f 3 = .hp 3 st3 0 0 ∧ H 3 = .blk false st3 31 3 [qrow x] ∧ f 6 = .hp 6 st6 0 0 ∧ H 6 = .blk false st6 31 3 [qrow (crat (evq ((qvs p).drop i) (qv x)))] ∧ f 4 = .hp 4 1 0 0 ∧ H 4 = .blk false 1 31 3 [[.bool false, .sl [], .sl []]]) (fun f H => (intAt f 7 + 1).toNat) ?_ ?_
  · refine ⟨p.length, 1, 1, by omega, ?_⟩
    simp (disch := omega) only [wk, tis, Int.reduceNe, Int.reduceEq, Int.reduceLT, Int.reduceLE, Int.reduceAdd, Int.reduceSub, Int.reduceNeg, Int.reduceMul, Int.reduceToNat, Nat.reduceSub, Nat.reduceMul, Nat.reduceLeDiff, Nat.reduceAdd, Nat.reduceLT, Nat.reduceEqDiff, reduceCtorEq, ↓reduceIte, rqs, e0]
  rintro f H ⟨i, st3, st6, hi, hF⟩
  rw [intAt_of hF.1]
  simp (disch := omega) only [wk, tis, Int.reduceNe, Int.reduceEq, Int.reduceLT, Int.reduceLE, Int.reduceAdd, Int.reduceSub, Int.reduceNeg, Int.reduceMul, Int.reduceToNat, Nat.reduceSub, Nat.reduceMul, Nat.reduceLeDiff, Nat.reduceAdd, Nat.reduceLT, Nat.reduceEqDiff, reduceCtorEq, ↓reduceIte, rqs, hF]
  refine if_by (fun hlt => ?_) (fun hlt => ?_)
  · obtain ⟨j, rfl⟩ : ∃ j, i = j + 1 := ⟨i - 1, by omega⟩
    have ej : ((j + 1 : Nat) : Int) - 1 = (j : Int) := by omega
    rw [ej] at hF
    have hlt' : j < p.length := by omega
    have hr := v.hp.get hlt'
    have hrd := v.hp.den hlt'
    have z1 := v.drop (j + 1)
    have z2 := v.drop j
    have zx := qz_raw v.hx v.d
    have zm := qz_mul (evq ((qvs p).drop (j + 1)) (qv x)) (qv x)
    have m := qmul_ok (crat (evq ((qvs p).drop (j + 1)) (qv x))) x (szq_crat (by omega)) (v.hx.mono (by omega)) (nv_crat0 _) v.d
    rw [qv_crat] at m
    have s := qadd_ok (crat (evq ((qvs p).drop (j + 1)) (qv x) * qv x)) (p.getD j q0) (szq_crat (by omega)) (hr.mono (by omega)) (nv_crat0 _) hrd
    rw [qv_crat, ← cfq_qvs, show evq ((qvs p).drop (j + 1)) (qv x) * qv x + cfq (qvs p) j = evq ((qvs p).drop j) (qv x) from (evq_drop (qvs p) (qv x) (by rw [qvs_len]; exact hlt')).symm] at s
    simp (disch := omega) only [wk, tis, Int.reduceNe, Int.reduceEq, Int.reduceLT, Int.reduceLE, Int.reduceAdd, Int.reduceSub, Int.reduceNeg, Int.reduceMul, Int.reduceToNat, Nat.reduceSub, Nat.reduceMul, Nat.reduceLeDiff, Nat.reduceAdd, Nat.reduceLT, Nat.reduceEqDiff, reduceCtorEq, ↓reduceIte, rqs, hF, ej]
    refine call_by (m) (by first | rfl | (simp only [tocvs, tocv, hF, ej]; rfl) | (simp only [tocvs, tocv, toboxes, tobox, updH_at, Nat.reduceEqDiff, ↓reduceIte, hF, ej]; rfl)) (by simp) ?_
    simp (disch := omega) only [wk, tis, Int.reduceNe, Int.reduceEq, Int.reduceLT, Int.reduceLE, Int.reduceAdd, Int.reduceSub, Int.reduceNeg, Int.reduceMul, Int.reduceToNat, Nat.reduceSub, Nat.reduceMul, Nat.reduceLeDiff, Nat.reduceAdd, Nat.reduceLT, Nat.reduceEqDiff, reduceCtorEq, ↓reduceIte, rqs, hF, ej]
    refine ⟨tmps_by (by kernel_rfl), ?_⟩
    refine call_by (s) (by first | rfl | (simp only [tocvs, tocv, hF, ej]; rfl) | (simp only [tocvs, tocv, toboxes, tobox, updH_at, Nat.reduceEqDiff, ↓reduceIte, hF, ej]; rfl)) (by simp) ?_
    simp (disch := omega) only [wk, tis, Int.reduceNe, Int.reduceEq, Int.reduceLT, Int.reduceLE, Int.reduceAdd, Int.reduceSub, Int.reduceNeg, Int.reduceMul, Int.reduceToNat, Nat.reduceSub, Nat.reduceMul, Nat.reduceLeDiff, Nat.reduceAdd, Nat.reduceLT, Nat.reduceEqDiff, reduceCtorEq, ↓reduceIte, rqs, hF, ej]
    first | exact log_by (by kernel_rfl) | refine ⟨log_by (by kernel_rfl), ?_⟩
    refine ⟨⟨j, st3, st6, by omega, ?_⟩, by omega⟩
    (repeat' apply And.intro) <;> first | rfl | omega
  · have hi0 : i = 0 := by omega
    subst hi0
    rw [List.drop_zero] at hF
    simp (disch := omega) only [wk, tis, Int.reduceNe, Int.reduceEq, Int.reduceLT, Int.reduceLE, Int.reduceAdd, Int.reduceSub, Int.reduceNeg, Int.reduceMul, Int.reduceToNat, Nat.reduceSub, Nat.reduceMul, Nat.reduceLeDiff, Nat.reduceAdd, Nat.reduceLT, Nat.reduceEqDiff, reduceCtorEq, ↓reduceIte, rqs, hF]
    try rfl

end Go.Proofs.YtcjnacpekbhhcaaGreat

namespace Go.Proofs.YtcjnacpekbhhcaaGreat
open Go Go.Proofs Go.AL
set_option linter.unusedSimpArgs false
set_option linter.unusedVariables false

/-! ### Signs of rationals -/
def sgq (q : Rat) : Int := q.num.sign
theorem sgq_pos {q : Rat} (h : 0 < q) : sgq q = 1 := by
  refine Int.sign_eq_one_of_pos ?_
  have h1 : 0 ≤ q.num := Rat.num_nonneg.mpr (Rat.le_of_lt h)
  have h2 : q.num ≠ 0 := fun e => by rw [Rat.num_eq_zero.mp e] at h; exact Rat.lt_irrefl h
  omega
theorem sgq_neg {q : Rat} (h : q < 0) : sgq q = -1 := by
  refine Int.sign_eq_neg_one_of_neg ?_
  have h1 : ¬ 0 ≤ q.num := fun e => Rat.not_le.mpr h (Rat.num_nonneg.mp e)
  omega
theorem sgq_cases (q : Rat) : (0 < q ∧ sgq q = 1) ∨ (q = 0 ∧ sgq q = 0) ∨ (q < 0 ∧ sgq q = -1) := by
  by_cases h : q < 0
  · exact .inr (.inr ⟨h, sgq_neg h⟩)
  · by_cases h0 : q = 0
    · exact .inr (.inl ⟨h0, by rw [h0]; rfl⟩)
    · have : 0 < q := Rat.lt_of_le_of_ne (Rat.not_lt.mp h) (fun e => h0 e.symm)
      exact .inl ⟨this, sgq_pos this⟩
theorem sgq_mul (p q : Rat) : sgq (p * q) = sgq p * sgq q := by
  have hn : ∀ {x : Rat}, x < 0 → 0 < -x := fun {x} h => by grind
  rcases sgq_cases p with ⟨h1, e1⟩ | ⟨h1, e1⟩ | ⟨h1, e1⟩ <;> rcases sgq_cases q with ⟨h2, e2⟩ | ⟨h2, e2⟩ | ⟨h2, e2⟩ <;> rw [e1, e2]
  · rw [sgq_pos (Rat.mul_pos h1 h2)]; rfl
  · rw [h2, Rat.mul_zero]; rfl
  · have := Rat.mul_pos h1 (hn h2)
    rw [sgq_neg (by rw [Rat.mul_neg] at this; grind)]; rfl
  · rw [h1, Rat.zero_mul]; rfl
  · rw [h1, Rat.zero_mul]; rfl
  · rw [h1, Rat.zero_mul]; rfl
  · have := Rat.mul_pos (hn h1) h2
    rw [sgq_neg (by rw [Rat.neg_mul] at this; grind)]; rfl
  · rw [h2, Rat.mul_zero]; rfl
  · have := Rat.mul_pos (hn h1) (hn h2)
    rw [sgq_pos (by rw [Rat.neg_mul, Rat.mul_neg, Rat.neg_neg] at this; exact this)]; rfl
theorem sgq_int (z : Int) : sgq (z : Rat) = z.sign := by rw [sgq, Rat.num_intCast]
theorem evq_trim (q : List Rat) (x : Rat) : evq (trimq q) x = evq q x := evq_ext x (cfq_trimq q)
theorem evq_qp_trim (p : List Int) (x : Rat) : evq (qp (trimz p)) x = evq (qp p) x := evq_ext x fun k => by rw [cfq_qp, cfq_qp, cf_trimz]
theorem ihom_evq {a b : Int} (hb : b ≠ 0) : ∀ p : List Int, ((ihom p a b : Int) : Rat) * (b : Rat) = (b : Rat) ^ p.length * evq (qp p) ((a : Rat) / (b : Rat))
  | [] => by
    rw [ihom, qp, List.map_nil, evq, Rat.intCast_zero]; grind
  | c :: p => by
    have ih := ihom_evq (a := a) hb p
    have hr : (b : Rat) ≠ 0 := fun h => hb (Rat.intCast_eq_zero_iff.mp h)
    have e : qp (c :: p) = (c : Rat) :: qp p := rfl
    rw [ihom, e, evq, List.length_cons, Rat.intCast_add, Rat.intCast_mul, Rat.intCast_mul, Rat.intCast_pow, Rat.pow_succ]
    have h2 : (a : Rat) / (b : Rat) * (b : Rat) = (a : Rat) := Rat.div_mul_cancel hr
    generalize (a : Rat) / (b : Rat) = x at *
    rw [← h2]
    grind
theorem ihom_sign {p : List Int} {a : Int} {b : Nat} (hb : b ≠ 0) : (ihom (trimz p) a (b : Int)).sign = sgq (evq (qp p) ((a : Rat) / (b : Rat))) := by
  have h := ihom_evq (a := a) (b := (b : Int)) (by omega) (trimz p)
  rw [Rat.intCast_natCast, evq_qp_trim] at h
  have hp : (0 : Rat) < (b : Rat) := Rat.natCast_pos.mpr (by omega)
  have e := congrArg sgq h
  rwa [sgq_mul, sgq_mul, sgq_int, sgq_pos hp, sgq_pos (Rat.pow_pos hp), Int.mul_one, Int.one_mul] at e

theorem ehomog_ok (p : List RI) (a b : RI) (hp : RP (2 ^ 10) (2 ^ 20) p) (ha : Sz (2 ^ 20) a) (hb : Sz (2 ^ 20) b) : AC Tryz.prog 146 [cw p, cr a, cr b] none [cz (ihom (trimz (pv p)) (iv a) (iv b))] := by
  have za := zl_iv ha
  have zb := zl_iv hb
  refine AC.by_walk (rs := [.cell 6 29]) ords Tryz.func146 (by rfl) (by rfl) (by rfl) (by rfl) (by rfl) ?_
  simp (disch := omega) only [wk, tis, Int.reduceNe, Int.reduceEq, Int.reduceLT, Int.reduceLE, Int.reduceAdd, Int.reduceSub, Int.reduceNeg, Int.reduceMul, Int.reduceToNat, Nat.reduceSub, Nat.reduceMul, Nat.reduceLeDiff, Nat.reduceAdd, Nat.reduceLT, Nat.reduceEqDiff, reduceCtorEq, ↓reduceIte, rqs]
  refine call_by ((pnorm_ok p (hp.mono (by omega) (by omega)))) (by rfl) (by simp) ?_
  simp (disch := omega) only [wk, tis, Int.reduceNe, Int.reduceEq, Int.reduceLT, Int.reduceLE, Int.reduceAdd, Int.reduceSub, Int.reduceNeg, Int.reduceMul, Int.reduceToNat, Nat.reduceSub, Nat.reduceMul, Nat.reduceLeDiff, Nat.reduceAdd, Nat.reduceLT, Nat.reduceEqDiff, reduceCtorEq, ↓reduceIte, rqs]
  have hA := hp.pv.trimz
  unfold cpoly
  generalize trimz (pv p) = A at *
  have hAl := hA.1
  have hq : (A.map canon).length = A.length := by simp
  have hB : ∀ i, zl (ihom (A.drop i) (iv a) (iv b)) ≤ 2 ^ 32 := fun i => by
    have h := zl_ihom (K := 2 ^ 20) (p := A.drop i) za zb fun z hz => hA.2 z (List.mem_of_mem_drop hz)
    have h2 : (A.drop i).length ≤ 2 ^ 10 := by rw [List.length_drop]; omega
    have h3 := Nat.mul_le_mul_right (2 ^ 20 + 1) h2
    have h4 : 2 ^ 20 + 2 ^ 10 * (2 ^ 20 + 1) + 1 ≤ 2 ^ 32 := by decide
    omega
  refine call_by ((zOf_ok 0 (by omega) (by omega))) (by first | rfl | (simp only [tocvs, tocv, hq]; rfl) | (simp only [tocvs, tocv, toboxes, tobox, updH_at, Nat.reduceEqDiff, ↓reduceIte, hq]; rfl)) (by simp) ?_
  simp (disch := omega) only [wk, tis, Int.reduceNe, Int.reduceEq, Int.reduceLT, Int.reduceLE, Int.reduceAdd, Int.reduceSub, Int.reduceNeg, Int.reduceMul, Int.reduceToNat, Nat.reduceSub, Nat.reduceMul, Nat.reduceLeDiff, Nat.reduceAdd, Nat.reduceLT, Nat.reduceEqDiff, reduceCtorEq, ↓reduceIte, rqs, hq]
  refine call_by ((zOf_ok 1 (by omega) (by omega))) (by first | rfl | (simp only [tocvs, tocv, hq]; rfl) | (simp only [tocvs, tocv, toboxes, tobox, updH_at, Nat.reduceEqDiff, ↓reduceIte, hq]; rfl)) (by simp) ?_
  simp (disch := omega) only [wk, tis, Int.reduceNe, Int.reduceEq, Int.reduceLT, Int.reduceLE, Int.reduceAdd, Int.reduceSub, Int.reduceNeg, Int.reduceMul, Int.reduceToNat, Nat.reduceSub, Nat.reduceMul, Nat.reduceLeDiff, Nat.reduceAdd, Nat.reduceLT, Nat.reduceEqDiff, reduceCtorEq, ↓reduceIte, rqs, hq]
  have e0 : canon (ihom (A.drop A.length) (iv a) (iv b)) = canon 0 := by rw [List.drop_length, ihom]
  have e1 : canon (iv b ^ (A.length - A.length)) = canon 1 := by rw [Nat.sub_self, Int.pow_zero]
  refine aloop_by (fun f H => ∃ (i st4 st5 st6 st7 st8 : Nat), i ≤ A.length ∧ f 9 = .iv (.int .i64 ((i : Int) - 1)) ∧ f 0 = .iv (.sl (raws (A.map canon))) ∧ f 4 = .hp 4 st4 0 0 ∧ H 4 = .blk false st4 29 2 [prow a] ∧ f 5 = .hp 5 st5 0 0 ∧ H 5 = .blk false st5 29 2 [prow b] ∧ f 6 = .hp 6 st6 0 0 ∧ H 6 = .blk false st6 29 2 [prow (false, [])] ∧ f 7 = .hp 7 st7 0 0 ∧ H 7 = .blk false st7 29 2 [prow (canon (ihom (A.drop i) (iv a) (iv b)))] ∧ f 8 = .hp 8 st8 0 0 ∧ H 8 = .blk false st8 29 2 [prow (canon (iv b ^ (A.length - i)))]) (fun f H => (intAt f 9 + 1).toNat) ?_ ?_
  · refine ⟨A.length, 1, 1, 1, 1, 1, by omega, ?_⟩
    simp (disch := omega) only [wk, tis, Int.reduceNe, Int.reduceEq, Int.reduceLT, Int.reduceLE, Int.reduceAdd, Int.reduceSub, Int.reduceNeg, Int.reduceMul, Int.reduceToNat, Nat.reduceSub, Nat.reduceMul, Nat.reduceLeDiff, Nat.reduceAdd, Nat.reduceLT, Nat.reduceEqDiff, reduceCtorEq, ↓reduceIte, rqs, e0, e1]
  rintro f H ⟨i, st4, st5, st6, st7, st8, hi, hF⟩
  rw [intAt_of hF.1]
  simp (disch := omega) only [wk, tis, Int.reduceNe, Int.reduceEq, Int.reduceLT, Int.reduceLE, Int.reduceAdd, Int.reduceSub, Int.reduceNeg, Int.reduceMul, Int.reduceToNat, Nat.reduceSub, Nat.reduceMul, Nat.reduceLeDiff, Nat.reduceAdd, Nat.reduceLT, Nat.reduceEqDiff, reduceCtorEq, ↓reduceIte, rqs, hF]
  refine if_by (fun hlt => ?_) (fun hlt => ?_)
  · obtain ⟨j, rfl⟩ : ∃ j, i = j + 1 := ⟨i - 1, by omega⟩
    have ej : ((j + 1 : Nat) : Int) - 1 = (j : Int) := by omega
    rw [ej] at hF
    have hd := drop_cf A (i := j) (by omega)
    have zj := hA.cf j
    have zh := hB (j + 1)
    have zp := zl_pow_b zb (i := A.length - (j + 1)) (by omega)
    have zm := zl_mul (ihom (A.drop (j + 1)) (iv a) (iv b)) (iv a)
    have zm2 := zl_mul (cf A j) (iv b ^ (A.length - (j + 1)))
    simp (disch := omega) only [wk, tis, Int.reduceNe, Int.reduceEq, Int.reduceLT, Int.reduceLE, Int.reduceAdd, Int.reduceSub, Int.reduceNeg, Int.reduceMul, Int.reduceToNat, Nat.reduceSub, Nat.reduceMul, Nat.reduceLeDiff, Nat.reduceAdd, Nat.reduceLT, Nat.reduceEqDiff, reduceCtorEq, ↓reduceIte, rqs, hF, ej, hq]
    refine ⟨tmps_by (by kernel_rfl), ?_⟩
    have m := zmul_ok (canon (ihom (A.drop (j + 1)) (iv a) (iv b))) a ((sz_canon _).mono (by omega)) (ha.mono (by omega))
    rw [iv_canon] at m
    refine call_by (m) (by first | rfl | (simp only [tocvs, tocv, hF, ej, hq]; rfl) | (simp only [tocvs, tocv, toboxes, tobox, updH_at, Nat.reduceEqDiff, ↓reduceIte, hF, ej, hq]; rfl)) (by simp) ?_
    simp (disch := omega) only [wk, tis, Int.reduceNe, Int.reduceEq, Int.reduceLT, Int.reduceLE, Int.reduceAdd, Int.reduceSub, Int.reduceNeg, Int.reduceMul, Int.reduceToNat, Nat.reduceSub, Nat.reduceMul, Nat.reduceLeDiff, Nat.reduceAdd, Nat.reduceLT, Nat.reduceEqDiff, reduceCtorEq, ↓reduceIte, rqs, hF, ej, hq]
    have m2 := zmul_ok (canon (cf A j)) (canon (iv b ^ (A.length - (j + 1)))) ((sz_canon _).mono (by omega)) ((sz_canon _).mono (by omega))
    rw [iv_canon, iv_canon] at m2
    refine call_by (m2) (by first | rfl | (simp only [tocvs, tocv, hF, ej, hq]; rfl) | (simp only [tocvs, tocv, toboxes, tobox, updH_at, Nat.reduceEqDiff, ↓reduceIte, hF, ej, hq]; rfl)) (by simp) ?_
    simp (disch := omega) only [wk, tis, Int.reduceNe, Int.reduceEq, Int.reduceLT, Int.reduceLE, Int.reduceAdd, Int.reduceSub, Int.reduceNeg, Int.reduceMul, Int.reduceToNat, Nat.reduceSub, Nat.reduceMul, Nat.reduceLeDiff, Nat.reduceAdd, Nat.reduceLT, Nat.reduceEqDiff, reduceCtorEq, ↓reduceIte, rqs, hF, ej, hq]
    have s := zadd_ok (canon (ihom (A.drop (j + 1)) (iv a) (iv b) * iv a)) (canon (cf A j * iv b ^ (A.length - (j + 1)))) ((sz_canon _).mono (by omega)) ((sz_canon _).mono (by omega))
    rw [iv_canon, iv_canon] at s
    refine call_by (s) (by first | rfl | (simp only [tocvs, tocv, hF, ej, hq]; rfl) | (simp only [tocvs, tocv, toboxes, tobox, updH_at, Nat.reduceEqDiff, ↓reduceIte, hF, ej, hq]; rfl)) (by simp) ?_
    simp (disch := omega) only [wk, tis, Int.reduceNe, Int.reduceEq, Int.reduceLT, Int.reduceLE, Int.reduceAdd, Int.reduceSub, Int.reduceNeg, Int.reduceMul, Int.reduceToNat, Nat.reduceSub, Nat.reduceMul, Nat.reduceLeDiff, Nat.reduceAdd, Nat.reduceLT, Nat.reduceEqDiff, reduceCtorEq, ↓reduceIte, rqs, hF, ej, hq]
    first | exact log_by (by kernel_rfl) | refine ⟨log_by (by kernel_rfl), ?_⟩
    have m3 := zmul_ok (canon (iv b ^ (A.length - (j + 1)))) b ((sz_canon _).mono (by omega)) (hb.mono (by omega))
    rw [iv_canon, ← Int.pow_succ, show (A.length - (j + 1)).succ = A.length - j by omega] at m3
    refine call_by (m3) (by first | rfl | (simp only [tocvs, tocv, hF, ej, hq]; rfl) | (simp only [tocvs, tocv, toboxes, tobox, updH_at, Nat.reduceEqDiff, ↓reduceIte, hF, ej, hq]; rfl)) (by simp) ?_
    simp (disch := omega) only [wk, tis, Int.reduceNe, Int.reduceEq, Int.reduceLT, Int.reduceLE, Int.reduceAdd, Int.reduceSub, Int.reduceNeg, Int.reduceMul, Int.reduceToNat, Nat.reduceSub, Nat.reduceMul, Nat.reduceLeDiff, Nat.reduceAdd, Nat.reduceLT, Nat.reduceEqDiff, reduceCtorEq, ↓reduceIte, rqs, hF, ej, hq]
    have e' : ihom (A.drop (j + 1)) (iv a) (iv b) * iv a + cf A j * iv b ^ (A.length - (j + 1)) = ihom (A.drop j) (iv a) (iv b) := by rw [hd, ihom, List.length_drop, Int.add_comm, Int.mul_comm (iv a)]
    refine ⟨⟨j, st4, st5, st6, st7, st8, by omega, ?_⟩, by omega⟩
    rw [e']
    (repeat' apply And.intro) <;> first | rfl | omega
  · have hi0 : i = 0 := by omega
    subst hi0
    rw [List.drop_zero] at hF
    simp (disch := omega) only [wk, tis, Int.reduceNe, Int.reduceEq, Int.reduceLT, Int.reduceLE, Int.reduceAdd, Int.reduceSub, Int.reduceNeg, Int.reduceMul, Int.reduceToNat, Nat.reduceSub, Nat.reduceMul, Nat.reduceLeDiff, Nat.reduceAdd, Nat.reduceLT, Nat.reduceEqDiff, reduceCtorEq, ↓reduceIte, rqs, hF]
    try rfl

/-! ### Signs -/
theorem esign_ok (p : List RI) (x : RQ) (hp : RP (2 ^ 10) (2 ^ 20) p) (hx : SzQ (2 ^ 20) x) (h0 : nv x.2 ≠ 0) : AC Tryz.prog 108 [cw p, cqq x] none [ci (sgq (evq (qp (pv p)) (qv x)))] := by
  have n := znatl_ok false x.2 hx.2.2 (Nat.le_trans hx.2.1 (by omega))
  rw [sgf] at n
  have za := zl_iv hx.1
  have zb := nt_zl hx.2
  have m := ehomog_ok p x.1 (canon (nv x.2 : Nat)) hp hx.1 ((sz_canon _).mono zb)
  rw [iv_canon] at m
  have zi : zl (ihom (trimz (pv p)) (iv x.1) (nv x.2 : Nat)) ≤ 2 ^ 33 := by
    have h := zl_ihom (K := 2 ^ 20) (p := trimz (pv p)) za zb fun z hz => hp.pv.trimz.2 z hz
    have h2 : (trimz (pv p)).length ≤ 2 ^ 10 := hp.pv.trimz.1
    have h3 := Nat.mul_le_mul_right (2 ^ 20 + 1) h2
    have h4 : 2 ^ 20 + 2 ^ 10 * (2 ^ 20 + 1) + 1 ≤ 2 ^ 32 := by decide
    omega
  have s := zsign_ok (canon (ihom (trimz (pv p)) (iv x.1) (nv x.2 : Nat))) ((sz_canon _).mono (by omega))
  rw [iv_canon, ihom_sign h0, ← qv_eq] at s
  refine AC.by_walk (rs := [.tmp 4]) ords Tryz.func108 (by rfl) (by rfl) (by rfl) (by rfl) (by rfl) ?_
  simp (disch := omega) only [wk, tis, Int.reduceNe, Int.reduceEq, Int.reduceLT, Int.reduceLE, Int.reduceAdd, Int.reduceSub, Int.reduceNeg, Int.reduceMul, Int.reduceToNat, Nat.reduceSub, Nat.reduceMul, Nat.reduceLeDiff, Nat.reduceAdd, Nat.reduceLT, Nat.reduceEqDiff, reduceCtorEq, ↓reduceIte, rqs]
  refine ⟨tmps_by (by kernel_rfl), ?_⟩
  refine call_by (n) (by rfl) (by simp) ?_
  simp (disch := omega) only [wk, tis, Int.reduceNe, Int.reduceEq, Int.reduceLT, Int.reduceLE, Int.reduceAdd, Int.reduceSub, Int.reduceNeg, Int.reduceMul, Int.reduceToNat, Nat.reduceSub, Nat.reduceMul, Nat.reduceLeDiff, Nat.reduceAdd, Nat.reduceLT, Nat.reduceEqDiff, reduceCtorEq, ↓reduceIte, rqs]
  refine call_by (m) (by rfl) (by simp) ?_
  simp (disch := omega) only [wk, tis, Int.reduceNe, Int.reduceEq, Int.reduceLT, Int.reduceLE, Int.reduceAdd, Int.reduceSub, Int.reduceNeg, Int.reduceMul, Int.reduceToNat, Nat.reduceSub, Nat.reduceMul, Nat.reduceLeDiff, Nat.reduceAdd, Nat.reduceLT, Nat.reduceEqDiff, reduceCtorEq, ↓reduceIte, rqs]
  refine call_by (s) (by rfl) (by simp) ?_
  simp (disch := omega) only [wk, tis, Int.reduceNe, Int.reduceEq, Int.reduceLT, Int.reduceLE, Int.reduceAdd, Int.reduceSub, Int.reduceNeg, Int.reduceMul, Int.reduceToNat, Nat.reduceSub, Nat.reduceMul, Nat.reduceLeDiff, Nat.reduceAdd, Nat.reduceLT, Nat.reduceEqDiff, reduceCtorEq, ↓reduceIte, rqs]
  first | exact log_by (by kernel_rfl) | refine ⟨log_by (by kernel_rfl), ?_⟩
  try rfl

theorem eSign_ok (p : List RI) (x : RQ) (hp : RP (2 ^ 10) (2 ^ 20) p) (hx : SzQ (2 ^ 20) x) (h0 : nv x.2 ≠ 0) : AC Tryz.prog 45 [cw p, cqq x] none [ci (sgq (evq (qp (pv p)) (qv x))), ci 0] := by
  have c := qcheck_good x ⟨Nat.le_trans hx.2.1 (by omega), hx.2.2⟩ h0
  have s := esign_ok p x hp hx h0
  refine AC.by_walk (rs := [.tmp 4, .tmp 5]) ords Tryz.func45 (by rfl) (by rfl) (by rfl) (by rfl) (by rfl) ?_
  simp (disch := omega) only [wk, tis, Int.reduceNe, Int.reduceEq, Int.reduceLT, Int.reduceLE, Int.reduceAdd, Int.reduceSub, Int.reduceNeg, Int.reduceMul, Int.reduceToNat, Nat.reduceSub, Nat.reduceMul, Nat.reduceLeDiff, Nat.reduceAdd, Nat.reduceLT, Nat.reduceEqDiff, reduceCtorEq, ↓reduceIte, rqs]
  refine call_by (c) (by rfl) (by simp) ?_
  simp (disch := omega) only [wk, tis, Int.reduceNe, Int.reduceEq, Int.reduceLT, Int.reduceLE, Int.reduceAdd, Int.reduceSub, Int.reduceNeg, Int.reduceMul, Int.reduceToNat, Nat.reduceSub, Nat.reduceMul, Nat.reduceLeDiff, Nat.reduceAdd, Nat.reduceLT, Nat.reduceEqDiff, reduceCtorEq, ↓reduceIte, rqs]
  refine call_by (s) (by rfl) (by simp) ?_
  simp (disch := omega) only [wk, tis, Int.reduceNe, Int.reduceEq, Int.reduceLT, Int.reduceLE, Int.reduceAdd, Int.reduceSub, Int.reduceNeg, Int.reduceMul, Int.reduceToNat, Nat.reduceSub, Nat.reduceMul, Nat.reduceLeDiff, Nat.reduceAdd, Nat.reduceLT, Nat.reduceEqDiff, reduceCtorEq, ↓reduceIte, rqs]
  try rfl
end Go.Proofs.YtcjnacpekbhhcaaGreat

namespace Go.Proofs.YtcjnacpekbhhcaaGreat
open Go Go.Proofs Go.AL
set_option linter.unusedSimpArgs false
set_option linter.unusedVariables false

/-- Numbers of at most k words, at most n of them. -/
def NP (n k : Nat) (l : List (List Nat)) : Prop := l.length ≤ n ∧ ∀ a ∈ l, Lim a ∧ a.length ≤ k

theorem NP.get {n k : Nat} {l : List (List Nat)} (h : NP n k l) (i : Nat) : Lim (l.getD i []) ∧ (l.getD i []).length ≤ k := by
  by_cases hi : i < l.length
  · have e : l.getD i [] = l[i] := by simp [List.getD, hi]
    rw [e]; exact h.2 _ (List.getElem_mem hi)
  · rw [List.getD_eq_getElem?_getD, List.getElem?_eq_none (by omega)]
    exact ⟨Lim.nil, by simp⟩

end Go.Proofs.YtcjnacpekbhhcaaGreat

namespace Go.Proofs.YtcjnacpekbhhcaaGreat
open Go Go.Proofs Go.AL
set_option linter.unusedSimpArgs false
set_option linter.unusedVariables false

/-- A case. -/
structure C12 where
  (P Q : List RI) (R S : List RQ) (A B : RI) (X Y : RQ) (N : Int)
abbrev case12 (x : C12) : List IV := [.sl (raws x.P), .sl (raws x.Q), .sl (rats x.R), .sl (rats x.S), .bool x.A.1, .sl (lims x.A.2), .bool x.B.1, .sl (lims x.B.2), .bool x.X.1.1, .sl (lims x.X.1.2), .sl (lims x.X.2), .bool x.Y.1.1, .sl (lims x.Y.1.2), .sl (lims x.Y.2), .int .i64 x.N]
theorem case12_A (x : C12) : List.take 2 (List.drop 4 (case12 x)) = prow x.A := rfl
theorem case12_B (x : C12) : List.take 2 (List.drop 6 (case12 x)) = prow x.B := rfl
theorem case12_X (x : C12) : List.take 3 (List.drop 8 (case12 x)) = qrow x.X := rfl
theorem case12_Y (x : C12) : List.take 3 (List.drop 11 (case12 x)) = qrow x.Y := rfl
theorem ints_two (a b : RI) : [prow a, prow b] = raws [a, b] := rfl
/-- Are there many rationals, or a long one? -/
def gqr (l : List RQ) : Bool := decide (40 < l.length) || l.any fun r => decide (200 < r.1.2.length) || decide (200 < r.2.length)
def lenQ (r : RQ) : Prop := r.1.2.length ≤ 9223372036854775807 ∧ r.2.length ≤ 9223372036854775807

theorem sgrats_ok (l : List RQ) (hl : l.length ≤ 9223372036854775807) (h : ∀ c ∈ l, lenQ c) : AC Tryz.prog 13 [cqw l] none [cb (gqr l)] := by
  refine AC.by_walk (rs := [.tmp 2]) ords Tryz.func13 (by rfl) (by rfl) (by rfl) (by rfl) (by rfl) ?_
  simp (disch := omega) only [wk, tis, Int.reduceNe, Int.reduceEq, Int.reduceLT, Int.reduceLE, Int.reduceAdd, Int.reduceSub, Int.reduceNeg, Int.reduceMul, Int.reduceToNat, Nat.reduceSub, Nat.reduceMul, Nat.reduceLeDiff, Nat.reduceAdd, Nat.reduceLT, Nat.reduceEqDiff, reduceCtorEq, ↓reduceIte, rqs, case12_A, case12_B, case12_X, case12_Y, ints_two]
  by_cases hw : 40 < (l.length : Int)
  · have e : gqr l = true := by unfold gqr; rw [decide_eq_true (by omega)]; rfl
    rw [e]
    simp (disch := omega) only [wk, tis, Int.reduceNe, Int.reduceEq, Int.reduceLT, Int.reduceLE, Int.reduceAdd, Int.reduceSub, Int.reduceNeg, Int.reduceMul, Int.reduceToNat, Nat.reduceSub, Nat.reduceMul, Nat.reduceLeDiff, Nat.reduceAdd, Nat.reduceLT, Nat.reduceEqDiff, reduceCtorEq, ↓reduceIte, rqs, case12_A, case12_B, case12_X, case12_Y, ints_two, hw]
  have hw' : ¬ 40 < l.length := by omega
  have e : gqr l = l.any fun r => decide (200 < r.1.2.length) || decide (200 < r.2.length) := by unfold gqr; rw [decide_eq_false hw', Bool.false_or]
  rw [e]
  simp (disch := omega) only [wk, tis, Int.reduceNe, Int.reduceEq, Int.reduceLT, Int.reduceLE, Int.reduceAdd, Int.reduceSub, Int.reduceNeg, Int.reduceMul, Int.reduceToNat, Nat.reduceSub, Nat.reduceMul, Nat.reduceLeDiff, Nat.reduceAdd, Nat.reduceLT, Nat.reduceEqDiff, reduceCtorEq, ↓reduceIte, rqs, case12_A, case12_B, case12_X, case12_Y, ints_two, hw]
  refine aloop_by (fun f H => ∃ (i : Nat), i ≤ l.length ∧ (l.take i).any (fun r => decide (200 < r.1.2.length) || decide (200 < r.2.length)) = false ∧ f 3 = .iv (.int .i64 i) ∧ f 0 = .iv (.sl (rats l))) (fun f H => (l.length - intAt f 3).toNat) ?_ ?_
  · refine ⟨0, by omega, rfl, ?_⟩
    simp (disch := omega) only [wk, tis, Int.reduceNe, Int.reduceEq, Int.reduceLT, Int.reduceLE, Int.reduceAdd, Int.reduceSub, Int.reduceNeg, Int.reduceMul, Int.reduceToNat, Nat.reduceSub, Nat.reduceMul, Nat.reduceLeDiff, Nat.reduceAdd, Nat.reduceLT, Nat.reduceEqDiff, reduceCtorEq, ↓reduceIte, rqs, case12_A, case12_B, case12_X, case12_Y, ints_two]
  rintro f H ⟨i, hi, he, hF⟩
  rw [intAt_of hF.1]
  simp (disch := omega) only [wk, tis, Int.reduceNe, Int.reduceEq, Int.reduceLT, Int.reduceLE, Int.reduceAdd, Int.reduceSub, Int.reduceNeg, Int.reduceMul, Int.reduceToNat, Nat.reduceSub, Nat.reduceMul, Nat.reduceLeDiff, Nat.reduceAdd, Nat.reduceLT, Nat.reduceEqDiff, reduceCtorEq, ↓reduceIte, rqs, case12_A, case12_B, case12_X, case12_Y, ints_two, hF]
  refine if_by (fun hlt => ?_) (fun hlt => ?_)
  · have hil : i < l.length := by omega
    have hg : l.getD i q0 = l[i] := by simp [List.getD, hil]
    have hm := h l[i] (List.getElem_mem hil)
    have l1 := slong_ok l[i].1.2 hm.1
    have l2 := slong_ok l[i].2 hm.2
    simp (disch := omega) only [wk, tis, Int.reduceNe, Int.reduceEq, Int.reduceLT, Int.reduceLE, Int.reduceAdd, Int.reduceSub, Int.reduceNeg, Int.reduceMul, Int.reduceToNat, Nat.reduceSub, Nat.reduceMul, Nat.reduceLeDiff, Nat.reduceAdd, Nat.reduceLT, Nat.reduceEqDiff, reduceCtorEq, ↓reduceIte, rqs, case12_A, case12_B, case12_X, case12_Y, ints_two, hF, hg]
    by_cases h1 : 200 < l[i].1.2.length
    · rw [decide_eq_true h1] at l1
      refine call_by (l1) (by first | rfl | (simp only [tocvs, tocv, hF, hg]; rfl) | (simp only [tocvs, tocv, toboxes, tobox, updH_at, Nat.reduceEqDiff, ↓reduceIte, hF, hg]; rfl)) (by simp) ?_
      simp (disch := omega) only [wk, tis, Int.reduceNe, Int.reduceEq, Int.reduceLT, Int.reduceLE, Int.reduceAdd, Int.reduceSub, Int.reduceNeg, Int.reduceMul, Int.reduceToNat, Nat.reduceSub, Nat.reduceMul, Nat.reduceLeDiff, Nat.reduceAdd, Nat.reduceLT, Nat.reduceEqDiff, reduceCtorEq, ↓reduceIte, rqs, case12_A, case12_B, case12_X, case12_Y, ints_two, hF, hg]
      exact (any_of_get hil (by rw [decide_eq_true h1]; rfl)).symm
    · rw [decide_eq_false h1] at l1
      refine call_by (l1) (by first | rfl | (simp only [tocvs, tocv, hF, hg]; rfl) | (simp only [tocvs, tocv, toboxes, tobox, updH_at, Nat.reduceEqDiff, ↓reduceIte, hF, hg]; rfl)) (by simp) ?_
      simp (disch := omega) only [wk, tis, Int.reduceNe, Int.reduceEq, Int.reduceLT, Int.reduceLE, Int.reduceAdd, Int.reduceSub, Int.reduceNeg, Int.reduceMul, Int.reduceToNat, Nat.reduceSub, Nat.reduceMul, Nat.reduceLeDiff, Nat.reduceAdd, Nat.reduceLT, Nat.reduceEqDiff, reduceCtorEq, ↓reduceIte, rqs, case12_A, case12_B, case12_X, case12_Y, ints_two, hF, hg]
      by_cases h2 : 200 < l[i].2.length
      · rw [decide_eq_true h2] at l2
        refine call_by (l2) (by first | rfl | (simp only [tocvs, tocv, hF, hg]; rfl) | (simp only [tocvs, tocv, toboxes, tobox, updH_at, Nat.reduceEqDiff, ↓reduceIte, hF, hg]; rfl)) (by simp) ?_
        simp (disch := omega) only [wk, tis, Int.reduceNe, Int.reduceEq, Int.reduceLT, Int.reduceLE, Int.reduceAdd, Int.reduceSub, Int.reduceNeg, Int.reduceMul, Int.reduceToNat, Nat.reduceSub, Nat.reduceMul, Nat.reduceLeDiff, Nat.reduceAdd, Nat.reduceLT, Nat.reduceEqDiff, reduceCtorEq, ↓reduceIte, rqs, case12_A, case12_B, case12_X, case12_Y, ints_two, hF, hg]
        exact (any_of_get hil (by rw [decide_eq_true h2, Bool.or_true])).symm
      · rw [decide_eq_false h2] at l2
        refine call_by (l2) (by first | rfl | (simp only [tocvs, tocv, hF, hg]; rfl) | (simp only [tocvs, tocv, toboxes, tobox, updH_at, Nat.reduceEqDiff, ↓reduceIte, hF, hg]; rfl)) (by simp) ?_
        simp (disch := omega) only [wk, tis, Int.reduceNe, Int.reduceEq, Int.reduceLT, Int.reduceLE, Int.reduceAdd, Int.reduceSub, Int.reduceNeg, Int.reduceMul, Int.reduceToNat, Nat.reduceSub, Nat.reduceMul, Nat.reduceLeDiff, Nat.reduceAdd, Nat.reduceLT, Nat.reduceEqDiff, reduceCtorEq, ↓reduceIte, rqs, case12_A, case12_B, case12_X, case12_Y, ints_two, hF, hg]
        refine ⟨⟨i + 1, by omega, ?_, by omega⟩, by omega⟩
        rw [any_take_succ hil, he, decide_eq_false h1, decide_eq_false h2]
        rfl
  · simp (disch := omega) only [wk, tis, Int.reduceNe, Int.reduceEq, Int.reduceLT, Int.reduceLE, Int.reduceAdd, Int.reduceSub, Int.reduceNeg, Int.reduceMul, Int.reduceToNat, Nat.reduceSub, Nat.reduceMul, Nat.reduceLeDiff, Nat.reduceAdd, Nat.reduceLT, Nat.reduceEqDiff, reduceCtorEq, ↓reduceIte, rqs, case12_A, case12_B, case12_X, case12_Y, ints_two, hF]
    rw [List.take_of_length_le (by omega)] at he
    exact he.symm

theorem gqr_bq {l : List RQ} (h : gqr l = false) (hr : ∀ r ∈ l, SzQ 9223372036854775807 r) : BQ 40 200 l := by
  unfold gqr at h
  rw [Bool.or_eq_false_iff] at h
  refine ⟨by have := of_decide_eq_false h.1; omega, fun r hr' => ?_⟩
  have h2 := List.any_eq_false.mp h.2 r hr'
  rw [Bool.or_eq_true, decide_eq_true_eq, decide_eq_true_eq, not_or] at h2
  exact ⟨⟨by omega, (hr r hr').1.2⟩, by omega, (hr r hr').2.2⟩

structure Ok12 (x : C12) : Prop where
  P : Raw x.P
  Q : Raw x.Q
  R : RawQ x.R
  S : RawQ x.S
  A : Sz 9223372036854775807 x.A
  B : Sz 9223372036854775807 x.B
  X : SzQ 9223372036854775807 x.X
  Y : SzQ 9223372036854775807 x.Y
  N : -9223372036854775808 ≤ x.N ∧ x.N ≤ 9223372036854775807
def great12 (x : C12) : Bool := gp [x.P, x.Q] || gqr x.R || gqr x.S || gi [x.A, x.B] || gqr [x.X, x.Y]
/-- What isn't great. -/
structure Fit12 (x : C12) : Prop where
  P : RP 40 200 x.P
  Q : RP 40 200 x.Q
  R : BQ 40 200 x.R
  S : BQ 40 200 x.S
  A : Sz 200 x.A
  B : Sz 200 x.B
  X : SzQ 200 x.X
  Y : SzQ 200 x.Y
theorem rawq_len {r : RQ} (h : SzQ 9223372036854775807 r) : lenQ r := ⟨h.1.1, h.2.1⟩
theorem fit12 {x : C12} (h : Ok12 x) (g : great12 x = false) : Fit12 x := by
  unfold great12 at g
  simp only [Bool.or_eq_false_iff] at g
  obtain ⟨⟨⟨⟨g1, g2⟩, g3⟩, g4⟩, g5⟩ := g
  have i : ∀ c ∈ [x.A, x.B], Sz 9223372036854775807 c → Sz 200 c := fun c hc hs => by
    have := List.any_eq_false.mp g4 c hc
    rw [decide_eq_true_eq] at this
    exact ⟨by omega, hs.2⟩
  have q := gqr_bq g5 (fun r hr => by
    simp only [List.mem_cons, List.not_mem_nil, or_false] at hr
    rcases hr with rfl | rfl
    · exact h.X
    · exact h.Y)
  exact ⟨great_sub g1 (by simp) h.P, great_sub g1 (by simp) h.Q, gqr_bq g2 h.R.2, gqr_bq g3 h.S.2, i _ (by simp) h.A, i _ (by simp) h.B, q.2 _ (by simp), q.2 _ (by simp)⟩

theorem great12_ok (x : C12) (h : Ok12 x) : AC Tryz.prog 8 [.agg (case12 x)] none [cb (great12 x)] := by
  have g1 := great2_ok x.P x.Q h.P h.Q
  have g2 := sgrats_ok x.R h.R.1 (fun r hr => rawq_len (h.R.2 r hr))
  have g3 := sgrats_ok x.S h.S.1 (fun r hr => rawq_len (h.S.2 r hr))
  have g4 := sgints_ok [x.A, x.B] (by simp) (fun c hc => by
    simp only [List.mem_cons, List.not_mem_nil, or_false] at hc
    rcases hc with rfl | rfl
    · exact h.A.1
    · exact h.B.1)
  have g5 := sgrats_ok [x.X, x.Y] (by simp) (fun r hr => by
    simp only [List.mem_cons, List.not_mem_nil, or_false] at hr
    rcases hr with rfl | rfl
    · exact rawq_len h.X
    · exact rawq_len h.Y)
  have p1 : [[IV.sl (raws x.P)], [IV.sl (raws x.Q)]] = polys [x.P, x.Q] := rfl
  have p3 := rats_two x.X x.Y
  have hE : ∀ b1 b2 b3 b4 b5, gp [x.P, x.Q] = b1 → gqr x.R = b2 → gqr x.S = b3 → gi [x.A, x.B] = b4 → gqr [x.X, x.Y] = b5 → great12 x = (b1 || b2 || b3 || b4 || b5) := by
    rintro _ _ _ _ _ rfl rfl rfl rfl rfl; rfl
  have hE' := hE _ _ _ _ _ rfl rfl rfl rfl rfl
  generalize gp [x.P, x.Q] = b1 at *
  generalize gqr x.R = b2 at *
  generalize gqr x.S = b3 at *
  generalize gi [x.A, x.B] = b4 at *
  generalize gqr [x.X, x.Y] = b5 at *
  rw [hE']
  clear hE hE'
  refine AC.by_walk (rs := [.tmp 2]) ords Tryz.func8 (by rfl) (by rfl) (by rfl) (by rfl) (by rfl) ?_
  simp (disch := omega) only [wk, tis, Int.reduceNe, Int.reduceEq, Int.reduceLT, Int.reduceLE, Int.reduceAdd, Int.reduceSub, Int.reduceNeg, Int.reduceMul, Int.reduceToNat, Nat.reduceSub, Nat.reduceMul, Nat.reduceLeDiff, Nat.reduceAdd, Nat.reduceLT, Nat.reduceEqDiff, reduceCtorEq, ↓reduceIte, rqs, case12_A, case12_B, case12_X, case12_Y, ints_two]
  cases b1 with
  | true =>
    refine call_by (g1) (by rfl) (by simp) ?_
    simp (disch := omega) only [wk, tis, Int.reduceNe, Int.reduceEq, Int.reduceLT, Int.reduceLE, Int.reduceAdd, Int.reduceSub, Int.reduceNeg, Int.reduceMul, Int.reduceToNat, Nat.reduceSub, Nat.reduceMul, Nat.reduceLeDiff, Nat.reduceAdd, Nat.reduceLT, Nat.reduceEqDiff, reduceCtorEq, ↓reduceIte, rqs, case12_A, case12_B, case12_X, case12_Y, ints_two]
    try rfl
  | false =>
  refine call_by (g1) (by rfl) (by simp) ?_
  simp (disch := omega) only [wk, tis, Int.reduceNe, Int.reduceEq, Int.reduceLT, Int.reduceLE, Int.reduceAdd, Int.reduceSub, Int.reduceNeg, Int.reduceMul, Int.reduceToNat, Nat.reduceSub, Nat.reduceMul, Nat.reduceLeDiff, Nat.reduceAdd, Nat.reduceLT, Nat.reduceEqDiff, reduceCtorEq, ↓reduceIte, rqs, case12_A, case12_B, case12_X, case12_Y, ints_two]
  cases b2 with
  | true =>
    refine call_by (g2) (by rfl) (by simp) ?_
    simp (disch := omega) only [wk, tis, Int.reduceNe, Int.reduceEq, Int.reduceLT, Int.reduceLE, Int.reduceAdd, Int.reduceSub, Int.reduceNeg, Int.reduceMul, Int.reduceToNat, Nat.reduceSub, Nat.reduceMul, Nat.reduceLeDiff, Nat.reduceAdd, Nat.reduceLT, Nat.reduceEqDiff, reduceCtorEq, ↓reduceIte, rqs, case12_A, case12_B, case12_X, case12_Y, ints_two]
    try rfl
  | false =>
  refine call_by (g2) (by rfl) (by simp) ?_
  simp (disch := omega) only [wk, tis, Int.reduceNe, Int.reduceEq, Int.reduceLT, Int.reduceLE, Int.reduceAdd, Int.reduceSub, Int.reduceNeg, Int.reduceMul, Int.reduceToNat, Nat.reduceSub, Nat.reduceMul, Nat.reduceLeDiff, Nat.reduceAdd, Nat.reduceLT, Nat.reduceEqDiff, reduceCtorEq, ↓reduceIte, rqs, case12_A, case12_B, case12_X, case12_Y, ints_two]
  cases b3 with
  | true =>
    refine call_by (g3) (by rfl) (by simp) ?_
    simp (disch := omega) only [wk, tis, Int.reduceNe, Int.reduceEq, Int.reduceLT, Int.reduceLE, Int.reduceAdd, Int.reduceSub, Int.reduceNeg, Int.reduceMul, Int.reduceToNat, Nat.reduceSub, Nat.reduceMul, Nat.reduceLeDiff, Nat.reduceAdd, Nat.reduceLT, Nat.reduceEqDiff, reduceCtorEq, ↓reduceIte, rqs, case12_A, case12_B, case12_X, case12_Y, ints_two]
    try rfl
  | false =>
  refine call_by (g3) (by first | rfl | (simp only [tocvs, tocv, p3]; rfl) | (simp only [tocvs, tocv, toboxes, tobox, updH_at, Nat.reduceEqDiff, ↓reduceIte, p3]; rfl)) (by simp) ?_
  simp (disch := omega) only [wk, tis, Int.reduceNe, Int.reduceEq, Int.reduceLT, Int.reduceLE, Int.reduceAdd, Int.reduceSub, Int.reduceNeg, Int.reduceMul, Int.reduceToNat, Nat.reduceSub, Nat.reduceMul, Nat.reduceLeDiff, Nat.reduceAdd, Nat.reduceLT, Nat.reduceEqDiff, reduceCtorEq, ↓reduceIte, rqs, case12_A, case12_B, case12_X, case12_Y, ints_two, p3]
  cases b4 with
  | true =>
    refine call_by (g4) (by first | rfl | (simp only [tocvs, tocv, p3]; rfl) | (simp only [tocvs, tocv, toboxes, tobox, updH_at, Nat.reduceEqDiff, ↓reduceIte, p3]; rfl)) (by simp) ?_
    simp (disch := omega) only [wk, tis, Int.reduceNe, Int.reduceEq, Int.reduceLT, Int.reduceLE, Int.reduceAdd, Int.reduceSub, Int.reduceNeg, Int.reduceMul, Int.reduceToNat, Nat.reduceSub, Nat.reduceMul, Nat.reduceLeDiff, Nat.reduceAdd, Nat.reduceLT, Nat.reduceEqDiff, reduceCtorEq, ↓reduceIte, rqs, case12_A, case12_B, case12_X, case12_Y, ints_two, p3]
    try rfl
  | false =>
  refine call_by (g4) (by first | rfl | (simp only [tocvs, tocv, p3]; rfl) | (simp only [tocvs, tocv, toboxes, tobox, updH_at, Nat.reduceEqDiff, ↓reduceIte, p3]; rfl)) (by simp) ?_
  simp (disch := omega) only [wk, tis, Int.reduceNe, Int.reduceEq, Int.reduceLT, Int.reduceLE, Int.reduceAdd, Int.reduceSub, Int.reduceNeg, Int.reduceMul, Int.reduceToNat, Nat.reduceSub, Nat.reduceMul, Nat.reduceLeDiff, Nat.reduceAdd, Nat.reduceLT, Nat.reduceEqDiff, reduceCtorEq, ↓reduceIte, rqs, case12_A, case12_B, case12_X, case12_Y, ints_two, p3]
  refine call_by (g5) (by first | rfl | (simp only [tocvs, tocv, p3]; rfl) | (simp only [tocvs, tocv, toboxes, tobox, updH_at, Nat.reduceEqDiff, ↓reduceIte, p3]; rfl)) (by simp) ?_
  simp (disch := omega) only [wk, tis, Int.reduceNe, Int.reduceEq, Int.reduceLT, Int.reduceLE, Int.reduceAdd, Int.reduceSub, Int.reduceNeg, Int.reduceMul, Int.reduceToNat, Nat.reduceSub, Nat.reduceMul, Nat.reduceLeDiff, Nat.reduceAdd, Nat.reduceLT, Nat.reduceEqDiff, reduceCtorEq, ↓reduceIte, rqs, case12_A, case12_B, case12_X, case12_Y, ints_two, p3]
  cases b5 <;> rfl

theorem plain12_ok (e w : Int) : AC Tryz.prog 11 [ci e, ci w] none [cb (decide (e = w))] := by
  refine AC.by_walk (rs := [.tmp 4]) ords Tryz.func11 (by rfl) (by rfl) (by rfl) (by rfl) (by rfl) ?_
  simp (disch := omega) only [wk, tis, Int.reduceNe, Int.reduceEq, Int.reduceLT, Int.reduceLE, Int.reduceAdd, Int.reduceSub, Int.reduceNeg, Int.reduceMul, Int.reduceToNat, Nat.reduceSub, Nat.reduceMul, Nat.reduceLeDiff, Nat.reduceAdd, Nat.reduceLT, Nat.reduceEqDiff, reduceCtorEq, ↓reduceIte, rqs, case12_A, case12_B, case12_X, case12_Y, ints_two]

theorem awake12_ok : AC Tryz.prog 7 [] none [cb true] := by
  have s := sof_ok [-2, 0, 1] (by decide) (by decide)
  have b0 := small_pb [-2, 0, 1] 3 (by decide) (by decide)
  have o := hoverq_ok (cn [-2, 0, 1]) (rp_cn (b0.mono (by omega) (by omega)))
  have e0 : trimz [-2, 0, 1] = [-2, 0, 1] := by decide
  have e1 : pv (cn [-2, 0, 1]) = [-2, 0, 1] := by rw [cn, pv_canon, e0]
  rw [e1] at o
  have p1 := hP_ok 3 2 (by omega) (by omega) (by omega) (by omega)
  have p2 := hP_ok 1 1 (by omega) (by omega) (by omega) (by omega)
  have p3 := hP_ok 1 4 (by omega) (by omega) (by omega) (by omega)
  have bq : QB 3 1 (qp [-2, 0, 1]) := PB.ofZ b0 (by omega)
  have z1 : qz ((3 : Int) / (2 : Nat) : Rat) ≤ 1 := by decide +kernel
  have a := eAt_ok (cqs (qp [-2, 0, 1])) (crat ((3 : Int) / (2 : Nat))) 100 (VB.of (K := 1) (X := 1) (n := 3) bq.gqs (szq_crat z1) (nv_crat0 _) (by omega) (by omega) (by omega))
  rw [qvs_cqs, evq_trim, qv_crat, show evq (qp [-2, 0, 1]) ((3 : Int) / (2 : Nat)) = ((1 : Int) : Rat) / ((4 : Nat) : Rat) by decide +kernel] at a
  have g := eSign_ok (cn [-2, 0, 1]) (crat ((1 : Int) / (1 : Nat))) (rp_cn (b0.mono (by omega) (by omega))) ((szq_crat (show qz ((1 : Int) / (1 : Nat) : Rat) ≤ 1 by decide +kernel)).mono (by omega)) (nv_crat0 _)
  rw [e1, qv_crat, show sgq (evq (qp [-2, 0, 1]) ((1 : Int) / (1 : Nat))) = -1 by decide +kernel] at g
  have z2 : qz ((1 : Int) / (4 : Nat) : Rat) ≤ 1 := by decide +kernel
  have sm := hsame_ok (crat ((1 : Int) / (4 : Nat))) (crat ((1 : Int) / (4 : Nat))) ((szq_crat z2).mono (by omega)) ((szq_crat z2).mono (by omega))
  rw [decide_eq_true rfl] at sm
  refine AC.by_walk (rs := [.tmp 0]) ords Tryz.func7 (by rfl) (by rfl) (by rfl) (by rfl) (by rfl) ?_
  simp (disch := omega) only [wk, tis, Int.reduceNe, Int.reduceEq, Int.reduceLT, Int.reduceLE, Int.reduceAdd, Int.reduceSub, Int.reduceNeg, Int.reduceMul, Int.reduceToNat, Nat.reduceSub, Nat.reduceMul, Nat.reduceLeDiff, Nat.reduceAdd, Nat.reduceLT, Nat.reduceEqDiff, reduceCtorEq, ↓reduceIte, rqs, case12_A, case12_B, case12_X, case12_Y, ints_two]
  refine call_by (s) (by rfl) (by simp) ?_
  simp (disch := omega) only [wk, tis, Int.reduceNe, Int.reduceEq, Int.reduceLT, Int.reduceLE, Int.reduceAdd, Int.reduceSub, Int.reduceNeg, Int.reduceMul, Int.reduceToNat, Nat.reduceSub, Nat.reduceMul, Nat.reduceLeDiff, Nat.reduceAdd, Nat.reduceLT, Nat.reduceEqDiff, reduceCtorEq, ↓reduceIte, rqs, case12_A, case12_B, case12_X, case12_Y, ints_two]
  refine call_by (o) (by rfl) (by simp) ?_
  simp (disch := omega) only [wk, tis, Int.reduceNe, Int.reduceEq, Int.reduceLT, Int.reduceLE, Int.reduceAdd, Int.reduceSub, Int.reduceNeg, Int.reduceMul, Int.reduceToNat, Nat.reduceSub, Nat.reduceMul, Nat.reduceLeDiff, Nat.reduceAdd, Nat.reduceLT, Nat.reduceEqDiff, reduceCtorEq, ↓reduceIte, rqs, case12_A, case12_B, case12_X, case12_Y, ints_two]
  refine call_by (p1) (by rfl) (by simp) ?_
  simp (disch := omega) only [wk, tis, Int.reduceNe, Int.reduceEq, Int.reduceLT, Int.reduceLE, Int.reduceAdd, Int.reduceSub, Int.reduceNeg, Int.reduceMul, Int.reduceToNat, Nat.reduceSub, Nat.reduceMul, Nat.reduceLeDiff, Nat.reduceAdd, Nat.reduceLT, Nat.reduceEqDiff, reduceCtorEq, ↓reduceIte, rqs, case12_A, case12_B, case12_X, case12_Y, ints_two]
  refine call_by (a) (by rfl) (by simp) ?_
  simp (disch := omega) only [wk, tis, Int.reduceNe, Int.reduceEq, Int.reduceLT, Int.reduceLE, Int.reduceAdd, Int.reduceSub, Int.reduceNeg, Int.reduceMul, Int.reduceToNat, Nat.reduceSub, Nat.reduceMul, Nat.reduceLeDiff, Nat.reduceAdd, Nat.reduceLT, Nat.reduceEqDiff, reduceCtorEq, ↓reduceIte, rqs, case12_A, case12_B, case12_X, case12_Y, ints_two]
  refine call_by (s) (by rfl) (by simp) ?_
  simp (disch := omega) only [wk, tis, Int.reduceNe, Int.reduceEq, Int.reduceLT, Int.reduceLE, Int.reduceAdd, Int.reduceSub, Int.reduceNeg, Int.reduceMul, Int.reduceToNat, Nat.reduceSub, Nat.reduceMul, Nat.reduceLeDiff, Nat.reduceAdd, Nat.reduceLT, Nat.reduceEqDiff, reduceCtorEq, ↓reduceIte, rqs, case12_A, case12_B, case12_X, case12_Y, ints_two]
  refine call_by (p2) (by rfl) (by simp) ?_
  simp (disch := omega) only [wk, tis, Int.reduceNe, Int.reduceEq, Int.reduceLT, Int.reduceLE, Int.reduceAdd, Int.reduceSub, Int.reduceNeg, Int.reduceMul, Int.reduceToNat, Nat.reduceSub, Nat.reduceMul, Nat.reduceLeDiff, Nat.reduceAdd, Nat.reduceLT, Nat.reduceEqDiff, reduceCtorEq, ↓reduceIte, rqs, case12_A, case12_B, case12_X, case12_Y, ints_two]
  refine call_by (g) (by rfl) (by simp) ?_
  simp (disch := omega) only [wk, tis, Int.reduceNe, Int.reduceEq, Int.reduceLT, Int.reduceLE, Int.reduceAdd, Int.reduceSub, Int.reduceNeg, Int.reduceMul, Int.reduceToNat, Nat.reduceSub, Nat.reduceMul, Nat.reduceLeDiff, Nat.reduceAdd, Nat.reduceLT, Nat.reduceEqDiff, reduceCtorEq, ↓reduceIte, rqs, case12_A, case12_B, case12_X, case12_Y, ints_two]
  refine ⟨tmps_by (by kernel_rfl), ?_⟩
  refine call_by (p3) (by rfl) (by simp) ?_
  simp (disch := omega) only [wk, tis, Int.reduceNe, Int.reduceEq, Int.reduceLT, Int.reduceLE, Int.reduceAdd, Int.reduceSub, Int.reduceNeg, Int.reduceMul, Int.reduceToNat, Nat.reduceSub, Nat.reduceMul, Nat.reduceLeDiff, Nat.reduceAdd, Nat.reduceLT, Nat.reduceEqDiff, reduceCtorEq, ↓reduceIte, rqs, case12_A, case12_B, case12_X, case12_Y, ints_two]
  refine call_by (sm) (by rfl) (by simp) ?_
  simp (disch := omega) only [wk, tis, Int.reduceNe, Int.reduceEq, Int.reduceLT, Int.reduceLE, Int.reduceAdd, Int.reduceSub, Int.reduceNeg, Int.reduceMul, Int.reduceToNat, Nat.reduceSub, Nat.reduceMul, Nat.reduceLeDiff, Nat.reduceAdd, Nat.reduceLT, Nat.reduceEqDiff, reduceCtorEq, ↓reduceIte, rqs, case12_A, case12_B, case12_X, case12_Y, ints_two]
  first | exact log_by (by kernel_rfl) | refine ⟨log_by (by kernel_rfl), ?_⟩
  try rfl

theorem ok12 (P Q : List RI) (R S : List RQ) (A B : RI) (X Y : RQ) (N : Int) (hP : Raw P) (hQ : Raw Q) (hR : RawQ R) (hS : RawQ S) (hA : Sz 9223372036854775807 A) (hB : Sz 9223372036854775807 B) (hX : SzQ 9223372036854775807 X) (hY : SzQ 9223372036854775807 Y) (hN1 : -9223372036854775808 ≤ N) (hN2 : N ≤ 9223372036854775807) :
    Ok12 ⟨P, Q, R, S, A, B, X, Y, N⟩ := ⟨hP, hQ, hR, hS, hA, hB, hX, hY, hN1, hN2⟩
end Go.Proofs.YtcjnacpekbhhcaaGreat

namespace Go.Proofs.YtcjnacpekbhhcaaGreat
open Go Go.Proofs Go.AL
set_option linter.unusedSimpArgs false
set_option linter.unusedVariables false

/-! ### Common denominators -/
def CD (D M : Nat) (q : Rat) : Prop := ∃ z : Int, q = (z : Rat) / (D : Rat) ∧ zl z ≤ M
theorem CD.mono {D M N : Nat} {q : Rat} (h : CD D M q) (hk : M ≤ N) : CD D N q := by
  obtain ⟨z, e, hz⟩ := h
  exact ⟨z, e, Nat.le_trans hz hk⟩
theorem natr_ne {n : Nat} (h : n ≠ 0) : (n : Rat) ≠ 0 := fun e => h (Rat.natCast_eq_zero_iff.mp e)
theorem CD.add {D M N : Nat} {p q : Rat} (h : CD D M p) (k : CD D N q) : CD D (max M N + 1) (p + q) := by
  obtain ⟨z, e, hz⟩ := h
  obtain ⟨w, f, hw⟩ := k
  refine ⟨z + w, ?_, ?_⟩
  · rw [e, f, Rat.intCast_add, Rat.div_def, Rat.div_def, Rat.div_def, Rat.add_mul]
  · have := zl_add z w
    omega
theorem CD.neg {D M : Nat} {p : Rat} (h : CD D M p) : CD D M (-p) := by
  obtain ⟨z, e, hz⟩ := h
  exact ⟨-z, by rw [e, Rat.intCast_neg, Rat.div_def, Rat.div_def, Rat.neg_mul], by rw [zl_neg]; exact hz⟩
theorem CD.mul {D E M N : Nat} {p q : Rat} (hD : D ≠ 0) (hE : E ≠ 0) (h : CD D M p) (k : CD E N q) : CD (D * E) (M + N) (p * q) := by
  obtain ⟨z, e, hz⟩ := h
  obtain ⟨w, f, hw⟩ := k
  refine ⟨z * w, ?_, ?_⟩
  · have h1 := natr_ne hD
    have h2 := natr_ne hE
    rw [e, f, Rat.intCast_mul, Rat.natCast_mul]
    grind
  · have := zl_mul z w
    omega
theorem CD.up {D E M V : Nat} {q : Rat} (hD : D ≠ 0) (hE : E ≠ 0) (hV : (wd E).length ≤ V) (h : CD D M q) : CD (D * E) (M + V) q := by
  obtain ⟨z, e, hz⟩ := h
  refine ⟨z * E, ?_, ?_⟩
  · have h1 := natr_ne hD
    have h2 := natr_ne hE
    rw [e, Rat.intCast_mul, Rat.natCast_mul, Rat.intCast_natCast]
    grind
  · have := zl_mul z E
    rw [zl_nat] at this
    omega
theorem CD.ofRat (q : Rat) : CD q.den (zl q.num) q := ⟨q.num, by rw [← Rat.mkRat_eq_div]; exact (Rat.mkRat_self q).symm, Nat.le_refl _⟩
theorem CD.size {D M : Nat} {q : Rat} (hD : D ≠ 0) (hw : (wd D).length ≤ M) (h : CD D M q) : qz q ≤ M := by
  obtain ⟨z, e, hz⟩ := h
  rw [e, ← Rat.mkRat_eq_div]
  exact qz_mk hD hz hw
theorem CD.zero (D M : Nat) : CD D M 0 := ⟨0, by rw [Rat.intCast_zero, Rat.div_def, Rat.zero_mul], by rw [zl_zero]; omega⟩
theorem wd_pow {v V : Nat} (h : (wd v).length ≤ V) (n : Nat) : (wd (v ^ n)).length ≤ n * V + 1 := by
  have := zl_pow (a := (v : Int)) (K := V) h n
  unfold zl at this
  rwa [Int.natAbs_pow, Int.natAbs_natCast] at this
theorem pow_ne {v : Nat} (h : v ≠ 0) (n : Nat) : v ^ n ≠ 0 := Nat.ne_of_gt (Nat.pow_pos (Nat.pos_of_ne_zero h))

theorem evq_cd {D K v X V : Nat} {x : Rat} (hD : D ≠ 0) (hv : v ≠ 0) (hV : (wd v).length ≤ V) (hx : CD v X x) : ∀ p : List Rat, (∀ c ∈ p, CD D K c) → CD (D * v ^ p.length) (K + p.length * (X + V + 1) + 1) (evq p x)
  | [], _ => CD.zero _ _
  | c :: p, h => by
    have ih := evq_cd hD hv hV hx p fun c' hc => h c' (List.mem_cons_of_mem _ hc)
    have h1 := (h c (by simp)).up hD (pow_ne hv (p.length + 1)) (wd_pow hV (p.length + 1))
    have h2 := hx.mul hv (Nat.mul_ne_zero hD (pow_ne hv _)) ih
    rw [show v * (D * v ^ p.length) = D * v ^ (p.length + 1) by rw [Nat.pow_succ]; ac_rfl] at h2
    rw [evq, List.length_cons]
    refine (h1.add h2).mono ?_
    have e1 : (p.length + 1) * V = p.length * V + V := Nat.succ_mul _ _
    have e2 : (p.length + 1) * (X + V + 1) = p.length * (X + V + 1) + (X + V + 1) := Nat.succ_mul _ _
    have e3 : p.length * V ≤ p.length * (X + V + 1) := Nat.mul_le_mul_left _ (by omega)
    omega
theorem evq_cdN {D K v X V N : Nat} {x : Rat} (hD : D ≠ 0) (hv : v ≠ 0) (hV : (wd v).length ≤ V) (hx : CD v X x) {p : List Rat} (hp : ∀ c ∈ p, CD D K c) (hN : p.length ≤ N) : CD (D * v ^ N) (K + N * (X + V + 1) + N * V + 2) (evq p x) := by
  have h1 := (evq_cd hD hv hV hx p hp).up (Nat.mul_ne_zero hD (pow_ne hv _)) (pow_ne hv (N - p.length)) (wd_pow hV (N - p.length))
  rw [Nat.mul_assoc, ← Nat.pow_add, show p.length + (N - p.length) = N by omega] at h1
  refine h1.mono ?_
  have e1 : p.length * (X + V + 1) ≤ N * (X + V + 1) := Nat.mul_le_mul_right _ hN
  have e2 : (N - p.length) * V ≤ N * V := Nat.mul_le_mul_right _ (by omega)
  omega

/-- All over one denominator. -/
structure CB (D n M : Nat) (q : List Rat) : Prop where
  d : D ≠ 0
  w : (wd D).length ≤ M
  l : q.length ≤ n
  c : ∀ c ∈ q, CD D M c
theorem CB.qb {D n M : Nat} {q : List Rat} (h : CB D n M q) : QB n M q := ⟨h.l, fun c hc => (h.c c hc).size h.d h.w⟩
theorem CB.mono {D n M m N : Nat} {q : List Rat} (h : CB D n M q) (hn : n ≤ m) (hM : M ≤ N) : CB D m N q := ⟨h.d, Nat.le_trans h.w hM, Nat.le_trans h.l hn, fun c hc => (h.c c hc).mono hM⟩
theorem CB.sub {D n M : Nat} {q r : List Rat} (h : CB D n M q) (hl : r.length ≤ n) (hr : ∀ c ∈ r, c ∈ q) : CB D n M r := ⟨h.d, h.w, hl, fun c hc => h.c c (hr c hc)⟩
theorem qz_parts (q : Rat) : zl q.num ≤ qz q ∧ (wd q.den).length ≤ qz q := ⟨Nat.le_max_left _ _, Nat.le_max_right _ _⟩
theorem one_cd : ∀ {k : Nat} (q : List Rat), (∀ c ∈ q, qz c ≤ k) → ∃ D, D ≠ 0 ∧ (wd D).length ≤ q.length * k + 1 ∧ ∀ c ∈ q, CD D (q.length * k + k + 1) c
  | k, [], _ => ⟨1, by omega, by rw [show wd 1 = [1] by decide +kernel]; simp, fun c hc => nomatch hc⟩
  | k, a :: q, h => by
    obtain ⟨D, hD, hw, hc⟩ := one_cd q fun c hc => h c (List.mem_cons_of_mem _ hc)
    have ha := h a (by simp)
    have hp := qz_parts a
    refine ⟨a.den * D, Nat.mul_ne_zero a.den_nz hD, ?_, fun c hc' => ?_⟩
    · have := AL.wd_mul_len a.den D
      rw [List.length_cons, Nat.succ_mul]
      omega
    · rw [List.length_cons, Nat.succ_mul]
      rcases List.mem_cons.1 hc' with rfl | hc'
      · exact ((CD.ofRat c).up c.den_nz hD hw).mono (by omega)
      · rw [Nat.mul_comm]
        exact ((hc c hc').up hD a.den_nz hp.2).mono (by omega)
theorem QB.cb {n k : Nat} {q : List Rat} (h : QB n k q) : ∃ D, CB D n (n * k + k + 1) q := by
  obtain ⟨D, hD, hw, hc⟩ := one_cd q h.2
  have := Nat.mul_le_mul_right k h.1
  exact ⟨D, hD, by omega, h.1, fun c hc' => (hc c hc').mono (by omega)⟩

/-! ### A polynomial by x - c -/
/-- The quotient's coefficients. -/
def sqq (q : List Rat) (c : Rat) : List Rat := (List.range (q.length - 1)).map fun i => evq (q.drop (i + 1)) c
theorem sqq_len (q : List Rat) (c : Rat) : (sqq q c).length = q.length - 1 := by simp [sqq]
theorem cfq_sqq (q : List Rat) (c : Rat) (i : Nat) : cfq (sqq q c) i = evq (q.drop (i + 1)) c := by
  by_cases h : i < q.length - 1
  · rw [sqq, cfq, List.getD, List.getElem?_map, List.getElem?_range h]; rfl
  · rw [cfq_ge (by rw [sqq_len]; omega), List.drop_of_length_le (by omega)]; rfl
theorem CB.sqq {D n M v X V : Nat} {q : List Rat} {x : Rat} (h : CB D n M q) (hv : v ≠ 0) (hV : (wd v).length ≤ V) (hx : CD v X x) : CB (D * v ^ n) n (M + n * (X + V + 1) + n * V + 2) (sqq q x) where
  d := Nat.mul_ne_zero h.d (pow_ne hv _)
  w := by
    have h1 := AL.wd_mul_len D (v ^ n)
    have h2 := wd_pow hV n
    have h3 := h.w
    omega
  l := by rw [sqq_len]; have := h.l; omega
  c := fun c hc => by
    obtain ⟨i, _, rfl⟩ := List.mem_map.1 hc
    exact evq_cdN h.d hv hV hx (fun c hc => h.c c (List.mem_of_mem_drop hc)) (by rw [List.length_drop]; have := h.l; omega)
theorem trimq_full {q : List Rat} (h : trimq q = q) : tzq q = q.length := by rw [← trimq_len, h]
/-- Where the rest is 0, the quotient is shorter by one, and isn't 0. -/
theorem sqq_tz {q : List Rat} {c : Rat} (h : trimq q = q) (h0 : q.length ≠ 0) (he : evq q c = 0) : tzq (sqq q c) = q.length - 1 ∧ q.length - 1 ≠ 0 := by
  have ht := trimq_full h
  have h1 : q.length ≠ 1 := fun e => by
    match q, e with
    | [a], _ =>
      have := cfq_tzq_pred (q := [a]) (by rw [ht]; simp)
      rw [ht] at this
      rw [evq, evq] at he
      exact this (by show a = 0; rw [← he]; grind)
  have h2 : cfq (sqq q c) (q.length - 2) ≠ 0 := by
    have := cfq_tzq_pred (q := q) (by rw [ht]; exact h0)
    rw [ht] at this
    rw [cfq_sqq, show q.length - 2 + 1 = q.length - 1 by omega, List.drop_eq_getElem_cons (by omega), evq, List.drop_of_length_le (by omega), evq]
    rw [cfq_lt (by omega)] at this
    intro e
    exact this (by rw [← e]; grind)
  have := tzq_spec h2 fun k hk => by rw [cfq_sqq, List.drop_of_length_le (by omega)]; rfl
  exact ⟨by omega, by omega⟩

/-- The quotients, one behind the other. -/
def qit (q : List Rat) (c : Rat) : Nat → List Rat
  | 0 => q
  | k + 1 => trimq (sqq (qit q c k) c)
theorem qit_len {q : List Rat} {c : Rat} (h : trimq q = q) (h0 : q.length ≠ 0) : ∀ k, (∀ j, j < k → evq (qit q c j) c = 0) → (qit q c k).length + k = q.length ∧ (qit q c k).length ≠ 0 ∧ trimq (qit q c k) = qit q c k
  | 0, _ => ⟨rfl, h0, h⟩
  | k + 1, hk => by
    obtain ⟨h1, h2, h3⟩ := qit_len h h0 k fun j hj => hk j (by omega)
    obtain ⟨h4, h5⟩ := sqq_tz h3 h2 (hk k (by omega))
    refine ⟨?_, ?_, trimq_trimq _⟩
    · rw [qit, trimq_len]; omega
    · rw [qit, trimq_len]; omega
end Go.Proofs.YtcjnacpekbhhcaaGreat

namespace Go.Proofs.YtcjnacpekbhhcaaGreat
open Go Go.Proofs Go.AL
set_option linter.unusedSimpArgs false
set_option linter.unusedVariables false

theorem hsameq_ok (a b : List RQ) (ha : BQ (2 ^ 40) (2 ^ 40) a) (hb : BQ (2 ^ 40) (2 ^ 40) b) : AC Tryz.prog 17 [cqw a, cqw b] none [cb (decide (a = b))] := by
  refine AC.by_walk (rs := [.tmp 4]) ords Tryz.func17 (by rfl) (by rfl) (by rfl) (by rfl) (by rfl) ?_
  have hla := ha.1
  have hlb := hb.1
  simp (disch := omega) only [wk, tis, Int.reduceNe, Int.reduceEq, Int.reduceLT, Int.reduceLE, Int.reduceAdd, Int.reduceSub, Int.reduceNeg, Int.reduceMul, Int.reduceToNat, Nat.reduceSub, Nat.reduceMul, Nat.reduceLeDiff, Nat.reduceAdd, Nat.reduceLT, Nat.reduceEqDiff, reduceCtorEq, ↓reduceIte, rqs]
  by_cases hl : a.length = b.length
  · have hl' : (a.length : Int) = (b.length : Int) := by omega
    simp (disch := omega) only [wk, tis, Int.reduceNe, Int.reduceEq, Int.reduceLT, Int.reduceLE, Int.reduceAdd, Int.reduceSub, Int.reduceNeg, Int.reduceMul, Int.reduceToNat, Nat.reduceSub, Nat.reduceMul, Nat.reduceLeDiff, Nat.reduceAdd, Nat.reduceLT, Nat.reduceEqDiff, reduceCtorEq, ↓reduceIte, rqs, hl']
    refine aloop_by (fun f H => ∃ (i : Nat), i ≤ a.length ∧ a.take i = b.take i ∧ f 5 = .iv (.int .i64 i) ∧ f 0 = .iv (.sl (rats a)) ∧ f 1 = .iv (.sl (rats b))) (fun f H => (a.length - intAt f 5).toNat) ?_ ?_
    · refine ⟨0, by omega, rfl, ?_⟩
      simp (disch := omega) only [wk, tis, Int.reduceNe, Int.reduceEq, Int.reduceLT, Int.reduceLE, Int.reduceAdd, Int.reduceSub, Int.reduceNeg, Int.reduceMul, Int.reduceToNat, Nat.reduceSub, Nat.reduceMul, Nat.reduceLeDiff, Nat.reduceAdd, Nat.reduceLT, Nat.reduceEqDiff, reduceCtorEq, ↓reduceIte, rqs]
    rintro f H ⟨i, hi, he, hF⟩
    rw [intAt_of hF.1]
    simp (disch := omega) only [wk, tis, Int.reduceNe, Int.reduceEq, Int.reduceLT, Int.reduceLE, Int.reduceAdd, Int.reduceSub, Int.reduceNeg, Int.reduceMul, Int.reduceToNat, Nat.reduceSub, Nat.reduceMul, Nat.reduceLeDiff, Nat.reduceAdd, Nat.reduceLT, Nat.reduceEqDiff, reduceCtorEq, ↓reduceIte, rqs, hF]
    refine if_by (fun hlt => ?_) (fun hlt => ?_)
    · have hia : i < a.length := by omega
      have hib : i < b.length := by omega
      have m := hsame_ok (a.getD i q0) (b.getD i q0) ((ha.get hia).mono (by omega)) ((hb.get hib).mono (by omega))
      have e1 : a.getD i q0 = a[i] := by simp [List.getD, hia]
      have e2 : b.getD i q0 = b[i] := by simp [List.getD, hib]
      simp (disch := omega) only [wk, tis, Int.reduceNe, Int.reduceEq, Int.reduceLT, Int.reduceLE, Int.reduceAdd, Int.reduceSub, Int.reduceNeg, Int.reduceMul, Int.reduceToNat, Nat.reduceSub, Nat.reduceMul, Nat.reduceLeDiff, Nat.reduceAdd, Nat.reduceLT, Nat.reduceEqDiff, reduceCtorEq, ↓reduceIte, rqs, hF]
      refine ⟨tmps_by (by kernel_rfl), ?_⟩
      refine call_by (m) (by first | rfl | (simp only [tocvs, tocv, hF]; rfl) | (simp only [tocvs, tocv, toboxes, tobox, updH_at, Nat.reduceEqDiff, ↓reduceIte, hF]; rfl)) (by simp) ?_
      simp (disch := omega) only [wk, tis, Int.reduceNe, Int.reduceEq, Int.reduceLT, Int.reduceLE, Int.reduceAdd, Int.reduceSub, Int.reduceNeg, Int.reduceMul, Int.reduceToNat, Nat.reduceSub, Nat.reduceMul, Nat.reduceLeDiff, Nat.reduceAdd, Nat.reduceLT, Nat.reduceEqDiff, reduceCtorEq, ↓reduceIte, rqs, hF]
      first | exact log_by (by kernel_rfl) | refine ⟨log_by (by kernel_rfl), ?_⟩
      by_cases hne : a.getD i q0 = b.getD i q0
      · simp (disch := omega) only [wk, tis, Int.reduceNe, Int.reduceEq, Int.reduceLT, Int.reduceLE, Int.reduceAdd, Int.reduceSub, Int.reduceNeg, Int.reduceMul, Int.reduceToNat, Nat.reduceSub, Nat.reduceMul, Nat.reduceLeDiff, Nat.reduceAdd, Nat.reduceLT, Nat.reduceEqDiff, reduceCtorEq, ↓reduceIte, rqs, hF, hne]
        refine ⟨⟨i + 1, by omega, ?_, ?_⟩, by omega⟩
        · rw [List.take_add_one, List.take_add_one, he, List.getElem?_eq_getElem hia, List.getElem?_eq_getElem hib, ← e1, ← e2, hne]
        · omega
      · simp (disch := omega) only [wk, tis, Int.reduceNe, Int.reduceEq, Int.reduceLT, Int.reduceLE, Int.reduceAdd, Int.reduceSub, Int.reduceNeg, Int.reduceMul, Int.reduceToNat, Nat.reduceSub, Nat.reduceMul, Nat.reduceLeDiff, Nat.reduceAdd, Nat.reduceLT, Nat.reduceEqDiff, reduceCtorEq, ↓reduceIte, rqs, hF, hne]
        exact (decide_eq_false (fun e => hne (by rw [e]))).symm
    · simp (disch := omega) only [wk, tis, Int.reduceNe, Int.reduceEq, Int.reduceLT, Int.reduceLE, Int.reduceAdd, Int.reduceSub, Int.reduceNeg, Int.reduceMul, Int.reduceToNat, Nat.reduceSub, Nat.reduceMul, Nat.reduceLeDiff, Nat.reduceAdd, Nat.reduceLT, Nat.reduceEqDiff, reduceCtorEq, ↓reduceIte, rqs, hF]
      rw [List.take_of_length_le (by omega), List.take_of_length_le (by omega)] at he
      exact (decide_eq_true he).symm
  · have hl' : ¬ (a.length : Int) = (b.length : Int) := by omega
    simp (disch := omega) only [wk, tis, Int.reduceNe, Int.reduceEq, Int.reduceLT, Int.reduceLE, Int.reduceAdd, Int.reduceSub, Int.reduceNeg, Int.reduceMul, Int.reduceToNat, Nat.reduceSub, Nat.reduceMul, Nat.reduceLeDiff, Nat.reduceAdd, Nat.reduceLT, Nat.reduceEqDiff, reduceCtorEq, ↓reduceIte, rqs, hl']
    exact (decide_eq_false (fun e => hl (by rw [e]))).symm

end Go.Proofs.YtcjnacpekbhhcaaGreat

namespace Go.Proofs.YtcjnacpekbhhcaaGreat
open Go Go.Proofs Go.AL
set_option linter.unusedSimpArgs false
set_option linter.unusedVariables false

/-- What is known of a polynomial in its own form. -/
structure SB (A : List Rat) (x : RQ) (B : Nat) : Prop where
  l : A.length ≤ 2 ^ 30
  c : ∀ i, i < A.length → qz (cfq A i) ≤ B
  e : ∀ i, qz (evq (A.drop i) (qv x)) ≤ B
  hx : SzQ B x
  d : nv x.2 ≠ 0
  b : B ≤ 2 ^ 34
  one : 1 ≤ B
theorem VB.sb {p : List RQ} {x : RQ} {B : Nat} (v : VB p x B) : SB (trimq (qvs p)) x B where
  l := by rw [trimq_len]; exact Nat.le_trans (tzq_le _) (by rw [qvs_len]; exact v.hp.1)
  c := fun i hi => by
    have := v.hp.qb.trimq
    exact this.cz v.one i
  e := fun i => v.e _ (by rw [List.length_drop, trimq_len]; have := tzq_le (qvs p); rw [qvs_len] at this; omega) fun c hc => List.mem_of_mem_take (List.mem_of_mem_drop hc)
  hx := v.hx
  d := v.d
  b := v.b
  one := v.one
end Go.Proofs.YtcjnacpekbhhcaaGreat

namespace Go.Proofs.YtcjnacpekbhhcaaGreat
open Go Go.Proofs Go.AL
set_option linter.unusedSimpArgs false
set_option linter.unusedVariables false

/-- What the rounds of Times need. -/
structure TB (A : List Rat) (x : RQ) (n : Nat) : Prop where
  t : trimq A = A
  l : A.length ≤ 2 ^ 30
  n0 : A.length ≠ 0
  z : ∀ j, j < n → evq (qit A (qv x) j) (qv x) = 0
  e : evq (qit A (qv x) n) (qv x) ≠ 0
  v : ∀ k, k ≤ n → VB ((qit A (qv x) k).map crat) x (2 ^ 34)
theorem TB.le {A : List Rat} {x : RQ} {n : Nat} (h : TB A x n) {k : Nat} (hk : k ≤ n) : (qit A (qv x) k).length + k = A.length ∧ (qit A (qv x) k).length ≠ 0 ∧ trimq (qit A (qv x) k) = qit A (qv x) k :=
  qit_len h.t h.n0 k fun j hj => h.z j (by omega)
end Go.Proofs.YtcjnacpekbhhcaaGreat

namespace Go.Proofs.YtcjnacpekbhhcaaGreat
open Go Go.Proofs Go.AL
set_option linter.unusedSimpArgs false
set_option linter.unusedVariables false

theorem sameq_self {p : List RQ} (h : BQ (2 ^ 40) (2 ^ 40) p) : AC Tryz.prog 17 [cqw p, cqw p] none [cb true] := by
  have := hsameq_ok p p h h
  rwa [decide_eq_true rfl] at this
theorem bq_nil (n k : Nat) : BQ n k [] := ⟨Nat.zero_le _, fun r hr => nomatch hr⟩

end Go.Proofs.YtcjnacpekbhhcaaGreat

namespace Go.Proofs.YtcjnacpekbhhcaaGreat
open Go Go.Proofs Go.AL
set_option linter.unusedSimpArgs false
set_option linter.unusedVariables false

/-! ### Tables -/
def tabl (P : List Rat) (x s : Rat) (n : Nat) : List Rat := (List.range n).map fun i : Nat => evq P (x + (i : Rat) * s)
theorem tabl_len (P : List Rat) (x s : Rat) (n : Nat) : (tabl P x s n).length = n := by simp [tabl]
theorem tabl_zero (P : List Rat) (x s : Rat) : tabl P x s 0 = [] := by simp [tabl]
theorem tabl_succ (P : List Rat) (x s : Rat) (n : Nat) : tabl P x s (n + 1) = tabl P x s n ++ [evq P (x + (n : Rat) * s)] := by
  simp [tabl, List.range_succ]
/-- A place of the table. -/
structure TPl (x s y : RQ) (i : Nat) : Prop where
  v : qv y = qv x + (i : Rat) * qv s
  z : SzQ (200 + i * 201) y
  d : nv y.2 ≠ 0
theorem tpl_zero {x s : RQ} (hx : SzQ 200 x) (dx : nv x.2 ≠ 0) : TPl x s x 0 := ⟨by rw [show ((0 : Nat) : Rat) = 0 from rfl, Rat.zero_mul, Rat.add_zero], hx, dx⟩
theorem tpl_next {x s y : RQ} {i : Nat} (h : TPl x s y i) (hs : SzQ 200 s) (ds : nv s.2 ≠ 0) : TPl x s (crat (qv y + qv s)) (i + 1) := ⟨by
  have : ((1 : Nat) : Rat) = 1 := rfl
  rw [qv_crat, h.v, Rat.natCast_add, this]
  grind, by
  have h1 := qz_add (qv y) (qv s)
  have h2 := qz_raw h.z h.d
  have h3 := qz_raw hs ds
  exact szq_crat (by omega), nv_crat0 _⟩
theorem tpl_vb {p : List RQ} {x s y : RQ} {i : Nat} (h : TPl x s y i) (hp : GQ 40 200 p) (hi : i ≤ 12) : VB p y (2 ^ 34) :=
  VB.of (K := 200) (X := 4096) (n := 40) hp (h.z.mono (by omega)) h.d (by omega) (by omega) (by omega)

theorem egood_ok (l : List RQ) (h : BQ (2 ^ 40) (2 ^ 38) l) : AC Tryz.prog 53 [cqw l] none [cb (gd l)] := by
  have g := qgood_ok l (h.mono (by omega) (by omega))
  refine AC.by_walk (rs := [.tmp 2]) ords Tryz.func53 (by rfl) (by rfl) (by rfl) (by rfl) (by rfl) ?_
  simp (disch := omega) only [wk, tis, Int.reduceNe, Int.reduceEq, Int.reduceLT, Int.reduceLE, Int.reduceAdd, Int.reduceSub, Int.reduceNeg, Int.reduceMul, Int.reduceToNat, Nat.reduceSub, Nat.reduceMul, Nat.reduceLeDiff, Nat.reduceAdd, Nat.reduceLT, Nat.reduceEqDiff, reduceCtorEq, ↓reduceIte, rqs, case12_A, case12_B, case12_X, case12_Y, ints_two]
  refine call_by (g) (by rfl) (by simp) ?_
  simp (disch := omega) only [wk, tis, Int.reduceNe, Int.reduceEq, Int.reduceLT, Int.reduceLE, Int.reduceAdd, Int.reduceSub, Int.reduceNeg, Int.reduceMul, Int.reduceToNat, Nat.reduceSub, Nat.reduceMul, Nat.reduceLeDiff, Nat.reduceAdd, Nat.reduceLT, Nat.reduceEqDiff, reduceCtorEq, ↓reduceIte, rqs, case12_A, case12_B, case12_X, case12_Y, ints_two]
  try rfl
theorem htable_ok (p : List RQ) (x s : RQ) (n : Nat) (hn : n ≤ 12) (hp : GQ 40 200 p) (hx : SzQ 200 x) (hs : SzQ 200 s) (dx : nv x.2 ≠ 0) (ds : nv s.2 ≠ 0) : AC Tryz.prog 9 [cqw p, cqq x, cqq s, ci n] none [cqw ((tabl (qvs p) (qv x) (qv s) n).map crat), ci 0] := by
  have g := hgood_ok p (hp.bq.mono (by omega) (by omega))
  rw [hp.gd] at g
  have o1 := hok_ok x ⟨Nat.le_trans hx.2.1 (by omega), hx.2.2⟩
  have o2 := hok_ok s ⟨Nat.le_trans hs.2.1 (by omega), hs.2.2⟩
  rw [decide_eq_true dx] at o1
  rw [decide_eq_true ds] at o2
  have hn1 : ¬ (n : Int) < 0 := by omega
  have hn2 : ¬ (10000 : Int) < (n : Int) := by omega
  have t0 := tpl_zero (s := s) hx dx
  refine AC.by_walk (rs := [.tmp 8, .tmp 9]) ords Tryz.func9 (by rfl) (by rfl) (by rfl) (by rfl) (by rfl) ?_
  simp (disch := omega) only [wk, tis, Int.reduceNe, Int.reduceEq, Int.reduceLT, Int.reduceLE, Int.reduceAdd, Int.reduceSub, Int.reduceNeg, Int.reduceMul, Int.reduceToNat, Nat.reduceSub, Nat.reduceMul, Nat.reduceLeDiff, Nat.reduceAdd, Nat.reduceLT, Nat.reduceEqDiff, reduceCtorEq, ↓reduceIte, rqs, case12_A, case12_B, case12_X, case12_Y, ints_two]
  refine call_by (g) (by rfl) (by simp) ?_
  simp (disch := omega) only [wk, tis, Int.reduceNe, Int.reduceEq, Int.reduceLT, Int.reduceLE, Int.reduceAdd, Int.reduceSub, Int.reduceNeg, Int.reduceMul, Int.reduceToNat, Nat.reduceSub, Nat.reduceMul, Nat.reduceLeDiff, Nat.reduceAdd, Nat.reduceLT, Nat.reduceEqDiff, reduceCtorEq, ↓reduceIte, rqs, case12_A, case12_B, case12_X, case12_Y, ints_two]
  refine call_by (o1) (by rfl) (by simp) ?_
  simp (disch := omega) only [wk, tis, Int.reduceNe, Int.reduceEq, Int.reduceLT, Int.reduceLE, Int.reduceAdd, Int.reduceSub, Int.reduceNeg, Int.reduceMul, Int.reduceToNat, Nat.reduceSub, Nat.reduceMul, Nat.reduceLeDiff, Nat.reduceAdd, Nat.reduceLT, Nat.reduceEqDiff, reduceCtorEq, ↓reduceIte, rqs, case12_A, case12_B, case12_X, case12_Y, ints_two]
  refine call_by (o2) (by first | rfl | (simp only [tocvs, tocv, hn1, hn2]; rfl) | (simp only [tocvs, tocv, toboxes, tobox, updH_at, Nat.reduceEqDiff, ↓reduceIte, hn1, hn2]; rfl)) (by simp) ?_
  simp (disch := omega) only [wk, tis, Int.reduceNe, Int.reduceEq, Int.reduceLT, Int.reduceLE, Int.reduceAdd, Int.reduceSub, Int.reduceNeg, Int.reduceMul, Int.reduceToNat, Nat.reduceSub, Nat.reduceMul, Nat.reduceLeDiff, Nat.reduceAdd, Nat.reduceLT, Nat.reduceEqDiff, reduceCtorEq, ↓reduceIte, rqs, case12_A, case12_B, case12_X, case12_Y, ints_two, hn1, hn2]
  refine aloop_nil 10 10 31 3 (by simp (disch := omega) only [wk, tis, Int.reduceNe, Int.reduceEq, Int.reduceLT, Int.reduceLE, Int.reduceAdd, Int.reduceSub, Int.reduceNeg, Int.reduceMul, Int.reduceToNat, Nat.reduceSub, Nat.reduceMul, Nat.reduceLeDiff, Nat.reduceAdd, Nat.reduceLT, Nat.reduceEqDiff, reduceCtorEq, ↓reduceIte, rqs, case12_A, case12_B, case12_X, case12_Y, ints_two]) (fun f H => ∃ (i st s11 : Nat) (y : RQ), i ≤ n ∧ TPl x s y i ∧ f 12 = .iv (.int .i64 i) ∧ f 0 = .iv (.sl (rats p)) ∧ f 3 = .iv (.int .i64 n) ∧ f 11 = .hp 11 s11 0 0 ∧ H 11 = .blk false s11 31 3 [qrow y] ∧ f 6 = .hp 6 1 0 0 ∧ H 6 = .blk false 1 31 3 [qrow s] ∧ f 10 = .hs 10 st ∧ H 10 = .blk false st 31 3 (rats ((tabl (qvs p) (qv x) (qv s) i).map crat))) (fun f H => (n - intAt f 12).toNat) ?_ ?_
  · refine ⟨0, 1, 1, x, by omega, t0, ?_⟩
    simp (disch := omega) only [wk, tis, Int.reduceNe, Int.reduceEq, Int.reduceLT, Int.reduceLE, Int.reduceAdd, Int.reduceSub, Int.reduceNeg, Int.reduceMul, Int.reduceToNat, Nat.reduceSub, Nat.reduceMul, Nat.reduceLeDiff, Nat.reduceAdd, Nat.reduceLT, Nat.reduceEqDiff, reduceCtorEq, ↓reduceIte, rqs, case12_A, case12_B, case12_X, case12_Y, ints_two, ghostF, ghostH, tabl_zero, List.map_nil]
  rintro f H ⟨i, st, s11, y, hi, hy, hF⟩
  rw [intAt_of hF.1]
  simp (disch := omega) only [wk, tis, Int.reduceNe, Int.reduceEq, Int.reduceLT, Int.reduceLE, Int.reduceAdd, Int.reduceSub, Int.reduceNeg, Int.reduceMul, Int.reduceToNat, Nat.reduceSub, Nat.reduceMul, Nat.reduceLeDiff, Nat.reduceAdd, Nat.reduceLT, Nat.reduceEqDiff, reduceCtorEq, ↓reduceIte, rqs, case12_A, case12_B, case12_X, case12_Y, ints_two, hF]
  refine if_by (fun hlt => ?_) (fun hlt => ?_)
  · have hlt' : i < n := by omega
    have v := tpl_vb hy hp (by omega)
    have hlen : ((tabl (qvs p) (qv x) (qv s) i).map crat).length = i := by rw [List.length_map, tabl_len]
    have a := hat_ok p y _ v
    have hy' := tpl_next hy hs ds
    have w := hplus_ok y s (hy.z.mono (by omega)) (hs.mono (by omega)) hy.d ds
    simp (disch := omega) only [wk, tis, Int.reduceNe, Int.reduceEq, Int.reduceLT, Int.reduceLE, Int.reduceAdd, Int.reduceSub, Int.reduceNeg, Int.reduceMul, Int.reduceToNat, Nat.reduceSub, Nat.reduceMul, Nat.reduceLeDiff, Nat.reduceAdd, Nat.reduceLT, Nat.reduceEqDiff, reduceCtorEq, ↓reduceIte, rqs, case12_A, case12_B, case12_X, case12_Y, ints_two, hF, hlen]
    refine call_by (a) (by first | rfl | (simp only [tocvs, tocv, hF, hlen]; rfl) | (simp only [tocvs, tocv, toboxes, tobox, updH_at, Nat.reduceEqDiff, ↓reduceIte, hF, hlen]; rfl)) (by simp) ?_
    simp (disch := omega) only [wk, tis, Int.reduceNe, Int.reduceEq, Int.reduceLT, Int.reduceLE, Int.reduceAdd, Int.reduceSub, Int.reduceNeg, Int.reduceMul, Int.reduceToNat, Nat.reduceSub, Nat.reduceMul, Nat.reduceLeDiff, Nat.reduceAdd, Nat.reduceLT, Nat.reduceEqDiff, reduceCtorEq, ↓reduceIte, rqs, case12_A, case12_B, case12_X, case12_Y, ints_two, hF, hlen]
    refine call_by (w) (by first | rfl | (simp only [tocvs, tocv, hF, hlen]; rfl) | (simp only [tocvs, tocv, toboxes, tobox, updH_at, Nat.reduceEqDiff, ↓reduceIte, hF, hlen]; rfl)) (by simp) ?_
    simp (disch := omega) only [wk, tis, Int.reduceNe, Int.reduceEq, Int.reduceLT, Int.reduceLE, Int.reduceAdd, Int.reduceSub, Int.reduceNeg, Int.reduceMul, Int.reduceToNat, Nat.reduceSub, Nat.reduceMul, Nat.reduceLeDiff, Nat.reduceAdd, Nat.reduceLT, Nat.reduceEqDiff, reduceCtorEq, ↓reduceIte, rqs, case12_A, case12_B, case12_X, case12_Y, ints_two, hF, hlen]
    refine ⟨⟨i + 1, st + 1, s11, _, by omega, hy', ?_⟩, by omega⟩
    rw [tabl_succ, List.map_append, ← hy.v]
    (repeat' apply And.intro) <;> first | rfl | omega
  · obtain rfl : i = n := by omega
    simp (disch := omega) only [wk, tis, Int.reduceNe, Int.reduceEq, Int.reduceLT, Int.reduceLE, Int.reduceAdd, Int.reduceSub, Int.reduceNeg, Int.reduceMul, Int.reduceToNat, Nat.reduceSub, Nat.reduceMul, Nat.reduceLeDiff, Nat.reduceAdd, Nat.reduceLT, Nat.reduceEqDiff, reduceCtorEq, ↓reduceIte, rqs, case12_A, case12_B, case12_X, case12_Y, ints_two, hF]
    try rfl
theorem etable_ok (p : List RQ) (x s : RQ) (n : Nat) (hn : n ≤ 12) (hp : GQ 40 200 p) (hx : SzQ 200 x) (hs : SzQ 200 s) (dx : nv x.2 ≠ 0) (ds : nv s.2 ≠ 0) : AC Tryz.prog 10 [cqw p, cqq x, cqq s, ci n] none [cqw ((tabl (qvs p) (qv x) (qv s) n).map crat), ci 0] := by
  have g := qgood_ok p (hp.bq.mono (by omega) (by omega))
  rw [hp.gd] at g
  have g2 := egood_ok [x, s] (BQ.mono (n := 2) (k := 200) ⟨by simp, fun r hr => by
    simp only [List.mem_cons, List.not_mem_nil, or_false] at hr
    rcases hr with rfl | rfl <;> assumption⟩ (by omega) (by omega))
  rw [show gd [x, s] = true from gd_iff.mpr fun r hr => by
    simp only [List.mem_cons, List.not_mem_nil, or_false] at hr
    rcases hr with rfl | rfl <;> assumption] at g2
  have p3 := rats_two x s
  have hn1 : ¬ (n : Int) < 0 := by omega
  have hn2 : ¬ (10000 : Int) < (n : Int) := by omega
  have t0 := tpl_zero (s := s) hx dx
  refine AC.by_walk (rs := [.tmp 8, .tmp 9]) ords Tryz.func10 (by rfl) (by rfl) (by rfl) (by rfl) (by rfl) ?_
  simp (disch := omega) only [wk, tis, Int.reduceNe, Int.reduceEq, Int.reduceLT, Int.reduceLE, Int.reduceAdd, Int.reduceSub, Int.reduceNeg, Int.reduceMul, Int.reduceToNat, Nat.reduceSub, Nat.reduceMul, Nat.reduceLeDiff, Nat.reduceAdd, Nat.reduceLT, Nat.reduceEqDiff, reduceCtorEq, ↓reduceIte, rqs, case12_A, case12_B, case12_X, case12_Y, ints_two]
  refine call_by (g) (by first | rfl | (simp only [tocvs, tocv, p3]; rfl) | (simp only [tocvs, tocv, toboxes, tobox, updH_at, Nat.reduceEqDiff, ↓reduceIte, p3]; rfl)) (by simp) ?_
  simp (disch := omega) only [wk, tis, Int.reduceNe, Int.reduceEq, Int.reduceLT, Int.reduceLE, Int.reduceAdd, Int.reduceSub, Int.reduceNeg, Int.reduceMul, Int.reduceToNat, Nat.reduceSub, Nat.reduceMul, Nat.reduceLeDiff, Nat.reduceAdd, Nat.reduceLT, Nat.reduceEqDiff, reduceCtorEq, ↓reduceIte, rqs, case12_A, case12_B, case12_X, case12_Y, ints_two, p3]
  refine call_by (g2) (by first | rfl | (simp only [tocvs, tocv, p3, hn1, hn2]; rfl) | (simp only [tocvs, tocv, toboxes, tobox, updH_at, Nat.reduceEqDiff, ↓reduceIte, p3, hn1, hn2]; rfl)) (by simp) ?_
  simp (disch := omega) only [wk, tis, Int.reduceNe, Int.reduceEq, Int.reduceLT, Int.reduceLE, Int.reduceAdd, Int.reduceSub, Int.reduceNeg, Int.reduceMul, Int.reduceToNat, Nat.reduceSub, Nat.reduceMul, Nat.reduceLeDiff, Nat.reduceAdd, Nat.reduceLT, Nat.reduceEqDiff, reduceCtorEq, ↓reduceIte, rqs, case12_A, case12_B, case12_X, case12_Y, ints_two, p3, hn1, hn2]
  refine aloop_nil 10 10 31 3 (by simp (disch := omega) only [wk, tis, Int.reduceNe, Int.reduceEq, Int.reduceLT, Int.reduceLE, Int.reduceAdd, Int.reduceSub, Int.reduceNeg, Int.reduceMul, Int.reduceToNat, Nat.reduceSub, Nat.reduceMul, Nat.reduceLeDiff, Nat.reduceAdd, Nat.reduceLT, Nat.reduceEqDiff, reduceCtorEq, ↓reduceIte, rqs, case12_A, case12_B, case12_X, case12_Y, ints_two]) (fun f H => ∃ (i st s11 : Nat) (y : RQ), i ≤ n ∧ TPl x s y i ∧ f 33 = .iv (.int .i64 i) ∧ f 32 = .iv (.int .i64 n) ∧ f 0 = .iv (.sl (rats p)) ∧ f 11 = .hp 11 s11 0 0 ∧ H 11 = .blk false s11 31 3 [qrow y] ∧ f 6 = .hp 6 1 0 0 ∧ H 6 = .blk false 1 31 3 [qrow s] ∧ f 10 = .hs 10 st ∧ H 10 = .blk false st 31 3 (rats ((tabl (qvs p) (qv x) (qv s) i).map crat))) (fun f H => (n - intAt f 33).toNat) ?_ ?_
  · refine ⟨0, 1, 1, x, by omega, t0, ?_⟩
    simp (disch := omega) only [wk, tis, Int.reduceNe, Int.reduceEq, Int.reduceLT, Int.reduceLE, Int.reduceAdd, Int.reduceSub, Int.reduceNeg, Int.reduceMul, Int.reduceToNat, Nat.reduceSub, Nat.reduceMul, Nat.reduceLeDiff, Nat.reduceAdd, Nat.reduceLT, Nat.reduceEqDiff, reduceCtorEq, ↓reduceIte, rqs, case12_A, case12_B, case12_X, case12_Y, ints_two, ghostF, ghostH, tabl_zero, List.map_nil]
  rintro f H ⟨i, st, s11, y, hi, hy, hF⟩
  rw [intAt_of hF.1]
  simp (disch := omega) only [wk, tis, Int.reduceNe, Int.reduceEq, Int.reduceLT, Int.reduceLE, Int.reduceAdd, Int.reduceSub, Int.reduceNeg, Int.reduceMul, Int.reduceToNat, Nat.reduceSub, Nat.reduceMul, Nat.reduceLeDiff, Nat.reduceAdd, Nat.reduceLT, Nat.reduceEqDiff, reduceCtorEq, ↓reduceIte, rqs, case12_A, case12_B, case12_X, case12_Y, ints_two, hF]
  refine if_by (fun hlt => ?_) (fun hlt => ?_)
  · have hlt' : i < n := by omega
    have v := tpl_vb hy hp (by omega)
    have hlen : ((tabl (qvs p) (qv x) (qv s) i).map crat).length = i := by rw [List.length_map, tabl_len]
    have a := eAt_ok p y _ v
    have hy' := tpl_next hy hs ds
    have w := qadd_ok y s (hy.z.mono (by omega)) (hs.mono (by omega)) hy.d ds
    simp (disch := omega) only [wk, tis, Int.reduceNe, Int.reduceEq, Int.reduceLT, Int.reduceLE, Int.reduceAdd, Int.reduceSub, Int.reduceNeg, Int.reduceMul, Int.reduceToNat, Nat.reduceSub, Nat.reduceMul, Nat.reduceLeDiff, Nat.reduceAdd, Nat.reduceLT, Nat.reduceEqDiff, reduceCtorEq, ↓reduceIte, rqs, case12_A, case12_B, case12_X, case12_Y, ints_two, hF, hlen]
    refine call_by (a) (by first | rfl | (simp only [tocvs, tocv, hF, hlen]; rfl) | (simp only [tocvs, tocv, toboxes, tobox, updH_at, Nat.reduceEqDiff, ↓reduceIte, hF, hlen]; rfl)) (by simp) ?_
    simp (disch := omega) only [wk, tis, Int.reduceNe, Int.reduceEq, Int.reduceLT, Int.reduceLE, Int.reduceAdd, Int.reduceSub, Int.reduceNeg, Int.reduceMul, Int.reduceToNat, Nat.reduceSub, Nat.reduceMul, Nat.reduceLeDiff, Nat.reduceAdd, Nat.reduceLT, Nat.reduceEqDiff, reduceCtorEq, ↓reduceIte, rqs, case12_A, case12_B, case12_X, case12_Y, ints_two, hF, hlen]
    refine call_by (w) (by first | rfl | (simp only [tocvs, tocv, hF, hlen]; rfl) | (simp only [tocvs, tocv, toboxes, tobox, updH_at, Nat.reduceEqDiff, ↓reduceIte, hF, hlen]; rfl)) (by simp) ?_
    simp (disch := omega) only [wk, tis, Int.reduceNe, Int.reduceEq, Int.reduceLT, Int.reduceLE, Int.reduceAdd, Int.reduceSub, Int.reduceNeg, Int.reduceMul, Int.reduceToNat, Nat.reduceSub, Nat.reduceMul, Nat.reduceLeDiff, Nat.reduceAdd, Nat.reduceLT, Nat.reduceEqDiff, reduceCtorEq, ↓reduceIte, rqs, case12_A, case12_B, case12_X, case12_Y, ints_two, hF, hlen]
    refine ⟨⟨i + 1, st + 1, s11, _, by omega, hy', ?_⟩, by omega⟩
    rw [tabl_succ, List.map_append, ← hy.v]
    (repeat' apply And.intro) <;> first | rfl | omega
  · obtain rfl : i = n := by omega
    simp (disch := omega) only [wk, tis, Int.reduceNe, Int.reduceEq, Int.reduceLT, Int.reduceLE, Int.reduceAdd, Int.reduceSub, Int.reduceNeg, Int.reduceMul, Int.reduceToNat, Nat.reduceSub, Nat.reduceMul, Nat.reduceLeDiff, Nat.reduceAdd, Nat.reduceLT, Nat.reduceEqDiff, reduceCtorEq, ↓reduceIte, rqs, case12_A, case12_B, case12_X, case12_Y, ints_two, hF]
    try rfl
/-- What is refused. -/
theorem htable_bad (p : List RQ) (x s : RQ) (n : Int) (hp : BQ 40 200 p) (hx : SzQ 200 x) (hs : SzQ 200 s) (h : gd p = false ∨ nv x.2 = 0 ∨ nv s.2 = 0) : AC Tryz.prog 9 [cqw p, cqq x, cqq s, ci n] none [cqw [], ci 1] := by
  have g := hgood_ok p (hp.mono (by omega) (by omega))
  have o1 := hok_ok x ⟨Nat.le_trans hx.2.1 (by omega), hx.2.2⟩
  have o2 := hok_ok s ⟨Nat.le_trans hs.2.1 (by omega), hs.2.2⟩
  cases hg : gd p with
  | false =>
    rw [hg] at g
    refine AC.by_walk (rs := [.tmp 8, .tmp 9]) ords Tryz.func9 (by rfl) (by rfl) (by rfl) (by rfl) (by rfl) ?_
    simp (disch := omega) only [wk, tis, Int.reduceNe, Int.reduceEq, Int.reduceLT, Int.reduceLE, Int.reduceAdd, Int.reduceSub, Int.reduceNeg, Int.reduceMul, Int.reduceToNat, Nat.reduceSub, Nat.reduceMul, Nat.reduceLeDiff, Nat.reduceAdd, Nat.reduceLT, Nat.reduceEqDiff, reduceCtorEq, ↓reduceIte, rqs, case12_A, case12_B, case12_X, case12_Y, ints_two]
    refine call_by (g) (by rfl) (by simp) ?_
    simp (disch := omega) only [wk, tis, Int.reduceNe, Int.reduceEq, Int.reduceLT, Int.reduceLE, Int.reduceAdd, Int.reduceSub, Int.reduceNeg, Int.reduceMul, Int.reduceToNat, Nat.reduceSub, Nat.reduceMul, Nat.reduceLeDiff, Nat.reduceAdd, Nat.reduceLT, Nat.reduceEqDiff, reduceCtorEq, ↓reduceIte, rqs, case12_A, case12_B, case12_X, case12_Y, ints_two]
    try rfl
  | true =>
    rw [hg] at g
    by_cases dx : nv x.2 = 0
    · rw [decide_eq_false (fun e => e dx)] at o1
      refine AC.by_walk (rs := [.tmp 8, .tmp 9]) ords Tryz.func9 (by rfl) (by rfl) (by rfl) (by rfl) (by rfl) ?_
      simp (disch := omega) only [wk, tis, Int.reduceNe, Int.reduceEq, Int.reduceLT, Int.reduceLE, Int.reduceAdd, Int.reduceSub, Int.reduceNeg, Int.reduceMul, Int.reduceToNat, Nat.reduceSub, Nat.reduceMul, Nat.reduceLeDiff, Nat.reduceAdd, Nat.reduceLT, Nat.reduceEqDiff, reduceCtorEq, ↓reduceIte, rqs, case12_A, case12_B, case12_X, case12_Y, ints_two]
      refine call_by (g) (by rfl) (by simp) ?_
      simp (disch := omega) only [wk, tis, Int.reduceNe, Int.reduceEq, Int.reduceLT, Int.reduceLE, Int.reduceAdd, Int.reduceSub, Int.reduceNeg, Int.reduceMul, Int.reduceToNat, Nat.reduceSub, Nat.reduceMul, Nat.reduceLeDiff, Nat.reduceAdd, Nat.reduceLT, Nat.reduceEqDiff, reduceCtorEq, ↓reduceIte, rqs, case12_A, case12_B, case12_X, case12_Y, ints_two]
      refine call_by (o1) (by rfl) (by simp) ?_
      simp (disch := omega) only [wk, tis, Int.reduceNe, Int.reduceEq, Int.reduceLT, Int.reduceLE, Int.reduceAdd, Int.reduceSub, Int.reduceNeg, Int.reduceMul, Int.reduceToNat, Nat.reduceSub, Nat.reduceMul, Nat.reduceLeDiff, Nat.reduceAdd, Nat.reduceLT, Nat.reduceEqDiff, reduceCtorEq, ↓reduceIte, rqs, case12_A, case12_B, case12_X, case12_Y, ints_two]
      try rfl
    · rw [decide_eq_true dx] at o1
      have ds : nv s.2 = 0 := by
        rcases h with h | h | h
        · rw [hg] at h; exact nomatch h
        · exact (dx h).elim
        · exact h
      rw [decide_eq_false (fun e => e ds)] at o2
      refine AC.by_walk (rs := [.tmp 8, .tmp 9]) ords Tryz.func9 (by rfl) (by rfl) (by rfl) (by rfl) (by rfl) ?_
      simp (disch := omega) only [wk, tis, Int.reduceNe, Int.reduceEq, Int.reduceLT, Int.reduceLE, Int.reduceAdd, Int.reduceSub, Int.reduceNeg, Int.reduceMul, Int.reduceToNat, Nat.reduceSub, Nat.reduceMul, Nat.reduceLeDiff, Nat.reduceAdd, Nat.reduceLT, Nat.reduceEqDiff, reduceCtorEq, ↓reduceIte, rqs, case12_A, case12_B, case12_X, case12_Y, ints_two]
      refine call_by (g) (by rfl) (by simp) ?_
      simp (disch := omega) only [wk, tis, Int.reduceNe, Int.reduceEq, Int.reduceLT, Int.reduceLE, Int.reduceAdd, Int.reduceSub, Int.reduceNeg, Int.reduceMul, Int.reduceToNat, Nat.reduceSub, Nat.reduceMul, Nat.reduceLeDiff, Nat.reduceAdd, Nat.reduceLT, Nat.reduceEqDiff, reduceCtorEq, ↓reduceIte, rqs, case12_A, case12_B, case12_X, case12_Y, ints_two]
      refine call_by (o1) (by rfl) (by simp) ?_
      simp (disch := omega) only [wk, tis, Int.reduceNe, Int.reduceEq, Int.reduceLT, Int.reduceLE, Int.reduceAdd, Int.reduceSub, Int.reduceNeg, Int.reduceMul, Int.reduceToNat, Nat.reduceSub, Nat.reduceMul, Nat.reduceLeDiff, Nat.reduceAdd, Nat.reduceLT, Nat.reduceEqDiff, reduceCtorEq, ↓reduceIte, rqs, case12_A, case12_B, case12_X, case12_Y, ints_two]
      refine call_by (o2) (by rfl) (by simp) ?_
      simp (disch := omega) only [wk, tis, Int.reduceNe, Int.reduceEq, Int.reduceLT, Int.reduceLE, Int.reduceAdd, Int.reduceSub, Int.reduceNeg, Int.reduceMul, Int.reduceToNat, Nat.reduceSub, Nat.reduceMul, Nat.reduceLeDiff, Nat.reduceAdd, Nat.reduceLT, Nat.reduceEqDiff, reduceCtorEq, ↓reduceIte, rqs, case12_A, case12_B, case12_X, case12_Y, ints_two]
      try rfl
theorem etable_bad (p : List RQ) (x s : RQ) (n : Int) (hp : BQ 40 200 p) (hx : SzQ 200 x) (hs : SzQ 200 s) (h : gd p = false ∨ nv x.2 = 0 ∨ nv s.2 = 0) : AC Tryz.prog 10 [cqw p, cqq x, cqq s, ci n] none [cqw [], ci 1] := by
  have g := qgood_ok p (hp.mono (by omega) (by omega))
  have g2 := egood_ok [x, s] (BQ.mono (n := 2) (k := 200) ⟨by simp, fun r hr => by
    simp only [List.mem_cons, List.not_mem_nil, or_false] at hr
    rcases hr with rfl | rfl <;> assumption⟩ (by omega) (by omega))
  have p3 := rats_two x s
  cases hg : gd p with
  | false =>
    rw [hg] at g
    refine AC.by_walk (rs := [.tmp 8, .tmp 9]) ords Tryz.func10 (by rfl) (by rfl) (by rfl) (by rfl) (by rfl) ?_
    simp (disch := omega) only [wk, tis, Int.reduceNe, Int.reduceEq, Int.reduceLT, Int.reduceLE, Int.reduceAdd, Int.reduceSub, Int.reduceNeg, Int.reduceMul, Int.reduceToNat, Nat.reduceSub, Nat.reduceMul, Nat.reduceLeDiff, Nat.reduceAdd, Nat.reduceLT, Nat.reduceEqDiff, reduceCtorEq, ↓reduceIte, rqs, case12_A, case12_B, case12_X, case12_Y, ints_two]
    refine call_by (g) (by first | rfl | (simp only [tocvs, tocv, p3]; rfl) | (simp only [tocvs, tocv, toboxes, tobox, updH_at, Nat.reduceEqDiff, ↓reduceIte, p3]; rfl)) (by simp) ?_
    simp (disch := omega) only [wk, tis, Int.reduceNe, Int.reduceEq, Int.reduceLT, Int.reduceLE, Int.reduceAdd, Int.reduceSub, Int.reduceNeg, Int.reduceMul, Int.reduceToNat, Nat.reduceSub, Nat.reduceMul, Nat.reduceLeDiff, Nat.reduceAdd, Nat.reduceLT, Nat.reduceEqDiff, reduceCtorEq, ↓reduceIte, rqs, case12_A, case12_B, case12_X, case12_Y, ints_two, p3]
    try rfl
  | true =>
    rw [hg] at g
    have e : gd [x, s] = false := by
      rw [Bool.eq_false_iff]
      intro hh
      have hh := gd_iff.mp hh
      rcases h with h | h | h
      · rw [hg] at h; exact nomatch h
      · exact hh x (by simp) h
      · exact hh s (by simp) h
    rw [e] at g2
    refine AC.by_walk (rs := [.tmp 8, .tmp 9]) ords Tryz.func10 (by rfl) (by rfl) (by rfl) (by rfl) (by rfl) ?_
    simp (disch := omega) only [wk, tis, Int.reduceNe, Int.reduceEq, Int.reduceLT, Int.reduceLE, Int.reduceAdd, Int.reduceSub, Int.reduceNeg, Int.reduceMul, Int.reduceToNat, Nat.reduceSub, Nat.reduceMul, Nat.reduceLeDiff, Nat.reduceAdd, Nat.reduceLT, Nat.reduceEqDiff, reduceCtorEq, ↓reduceIte, rqs, case12_A, case12_B, case12_X, case12_Y, ints_two]
    refine call_by (g) (by first | rfl | (simp only [tocvs, tocv, p3]; rfl) | (simp only [tocvs, tocv, toboxes, tobox, updH_at, Nat.reduceEqDiff, ↓reduceIte, p3]; rfl)) (by simp) ?_
    simp (disch := omega) only [wk, tis, Int.reduceNe, Int.reduceEq, Int.reduceLT, Int.reduceLE, Int.reduceAdd, Int.reduceSub, Int.reduceNeg, Int.reduceMul, Int.reduceToNat, Nat.reduceSub, Nat.reduceMul, Nat.reduceLeDiff, Nat.reduceAdd, Nat.reduceLT, Nat.reduceEqDiff, reduceCtorEq, ↓reduceIte, rqs, case12_A, case12_B, case12_X, case12_Y, ints_two, p3]
    refine call_by (g2) (by first | rfl | (simp only [tocvs, tocv, p3]; rfl) | (simp only [tocvs, tocv, toboxes, tobox, updH_at, Nat.reduceEqDiff, ↓reduceIte, p3]; rfl)) (by simp) ?_
    simp (disch := omega) only [wk, tis, Int.reduceNe, Int.reduceEq, Int.reduceLT, Int.reduceLE, Int.reduceAdd, Int.reduceSub, Int.reduceNeg, Int.reduceMul, Int.reduceToNat, Nat.reduceSub, Nat.reduceMul, Nat.reduceLeDiff, Nat.reduceAdd, Nat.reduceLT, Nat.reduceEqDiff, reduceCtorEq, ↓reduceIte, rqs, case12_A, case12_B, case12_X, case12_Y, ints_two, p3]
    try rfl
/-- Both answers alike. -/
theorem table_both (p : List RQ) (x s : RQ) (n : Int) (hp : BQ 40 200 p) (hx : SzQ 200 x) (hs : SzQ 200 s) (hn : n ≤ 12 ∨ 10000 < n) : ∃ l e, AC Tryz.prog 9 [cqw p, cqq x, cqq s, ci n] none [cqw l, ci e] ∧ AC Tryz.prog 10 [cqw p, cqq x, cqq s, ci n] none [cqw l, ci e] ∧ AC Tryz.prog 12 [cqw l, cqw l] none [cb true] := by
  have key : ∀ l : List RQ, BQ (2 ^ 40) (2 ^ 40) l → AC Tryz.prog 12 [cqw l, cqw l] none [cb true] := fun l hl => by
    have s := sameq_self hl
    refine AC.by_walk (rs := [.tmp 4]) ords Tryz.func12 (by rfl) (by rfl) (by rfl) (by rfl) (by rfl) ?_
    simp (disch := omega) only [wk, tis, Int.reduceNe, Int.reduceEq, Int.reduceLT, Int.reduceLE, Int.reduceAdd, Int.reduceSub, Int.reduceNeg, Int.reduceMul, Int.reduceToNat, Nat.reduceSub, Nat.reduceMul, Nat.reduceLeDiff, Nat.reduceAdd, Nat.reduceLT, Nat.reduceEqDiff, reduceCtorEq, ↓reduceIte, rqs, case12_A, case12_B, case12_X, case12_Y, ints_two]
    refine call_by (s) (by rfl) (by simp) ?_
    simp (disch := omega) only [wk, tis, Int.reduceNe, Int.reduceEq, Int.reduceLT, Int.reduceLE, Int.reduceAdd, Int.reduceSub, Int.reduceNeg, Int.reduceMul, Int.reduceToNat, Nat.reduceSub, Nat.reduceMul, Nat.reduceLeDiff, Nat.reduceAdd, Nat.reduceLT, Nat.reduceEqDiff, reduceCtorEq, ↓reduceIte, rqs, case12_A, case12_B, case12_X, case12_Y, ints_two]
    try rfl
  by_cases h : gd p = false ∨ nv x.2 = 0 ∨ nv s.2 = 0
  · exact ⟨[], 1, htable_bad p x s n hp hx hs h, etable_bad p x s n hp hx hs h, key [] (bq_nil _ _)⟩
  have hg : gd p = true := by
    cases hg : gd p with
    | true => rfl
    | false => exact (h (.inl hg)).elim
  have dx : nv x.2 ≠ 0 := fun e => h (.inr (.inl e))
  have ds : nv s.2 ≠ 0 := fun e => h (.inr (.inr e))
  have g := qgood_ok p (hp.mono (by omega) (by omega))
  have hgd := hgood_ok p (hp.mono (by omega) (by omega))
  rw [hg] at g hgd
  have g2 := egood_ok [x, s] (BQ.mono (n := 2) (k := 200) ⟨by simp, fun r hr => by
    simp only [List.mem_cons, List.not_mem_nil, or_false] at hr
    rcases hr with rfl | rfl <;> assumption⟩ (by omega) (by omega))
  rw [show gd [x, s] = true from gd_iff.mpr fun r hr => by
    simp only [List.mem_cons, List.not_mem_nil, or_false] at hr
    rcases hr with rfl | rfl <;> assumption] at g2
  have p3 := rats_two x s
  have o1 := hok_ok x ⟨Nat.le_trans hx.2.1 (by omega), hx.2.2⟩
  have o2 := hok_ok s ⟨Nat.le_trans hs.2.1 (by omega), hs.2.2⟩
  rw [decide_eq_true dx] at o1
  rw [decide_eq_true ds] at o2
  by_cases h1 : n < 0
  · refine ⟨[], 3, ?_, ?_, key [] (bq_nil _ _)⟩
    · refine AC.by_walk (rs := [.tmp 8, .tmp 9]) ords Tryz.func9 (by rfl) (by rfl) (by rfl) (by rfl) (by rfl) ?_
      simp (disch := omega) only [wk, tis, Int.reduceNe, Int.reduceEq, Int.reduceLT, Int.reduceLE, Int.reduceAdd, Int.reduceSub, Int.reduceNeg, Int.reduceMul, Int.reduceToNat, Nat.reduceSub, Nat.reduceMul, Nat.reduceLeDiff, Nat.reduceAdd, Nat.reduceLT, Nat.reduceEqDiff, reduceCtorEq, ↓reduceIte, rqs, case12_A, case12_B, case12_X, case12_Y, ints_two]
      refine call_by (hgd) (by rfl) (by simp) ?_
      simp (disch := omega) only [wk, tis, Int.reduceNe, Int.reduceEq, Int.reduceLT, Int.reduceLE, Int.reduceAdd, Int.reduceSub, Int.reduceNeg, Int.reduceMul, Int.reduceToNat, Nat.reduceSub, Nat.reduceMul, Nat.reduceLeDiff, Nat.reduceAdd, Nat.reduceLT, Nat.reduceEqDiff, reduceCtorEq, ↓reduceIte, rqs, case12_A, case12_B, case12_X, case12_Y, ints_two]
      refine call_by (o1) (by rfl) (by simp) ?_
      simp (disch := omega) only [wk, tis, Int.reduceNe, Int.reduceEq, Int.reduceLT, Int.reduceLE, Int.reduceAdd, Int.reduceSub, Int.reduceNeg, Int.reduceMul, Int.reduceToNat, Nat.reduceSub, Nat.reduceMul, Nat.reduceLeDiff, Nat.reduceAdd, Nat.reduceLT, Nat.reduceEqDiff, reduceCtorEq, ↓reduceIte, rqs, case12_A, case12_B, case12_X, case12_Y, ints_two]
      refine call_by (o2) (by first | rfl | (simp only [tocvs, tocv, h1]; rfl) | (simp only [tocvs, tocv, toboxes, tobox, updH_at, Nat.reduceEqDiff, ↓reduceIte, h1]; rfl)) (by simp) ?_
      simp (disch := omega) only [wk, tis, Int.reduceNe, Int.reduceEq, Int.reduceLT, Int.reduceLE, Int.reduceAdd, Int.reduceSub, Int.reduceNeg, Int.reduceMul, Int.reduceToNat, Nat.reduceSub, Nat.reduceMul, Nat.reduceLeDiff, Nat.reduceAdd, Nat.reduceLT, Nat.reduceEqDiff, reduceCtorEq, ↓reduceIte, rqs, case12_A, case12_B, case12_X, case12_Y, ints_two, h1]
      try rfl
    · refine AC.by_walk (rs := [.tmp 8, .tmp 9]) ords Tryz.func10 (by rfl) (by rfl) (by rfl) (by rfl) (by rfl) ?_
      simp (disch := omega) only [wk, tis, Int.reduceNe, Int.reduceEq, Int.reduceLT, Int.reduceLE, Int.reduceAdd, Int.reduceSub, Int.reduceNeg, Int.reduceMul, Int.reduceToNat, Nat.reduceSub, Nat.reduceMul, Nat.reduceLeDiff, Nat.reduceAdd, Nat.reduceLT, Nat.reduceEqDiff, reduceCtorEq, ↓reduceIte, rqs, case12_A, case12_B, case12_X, case12_Y, ints_two]
      refine call_by (g) (by first | rfl | (simp only [tocvs, tocv, p3]; rfl) | (simp only [tocvs, tocv, toboxes, tobox, updH_at, Nat.reduceEqDiff, ↓reduceIte, p3]; rfl)) (by simp) ?_
      simp (disch := omega) only [wk, tis, Int.reduceNe, Int.reduceEq, Int.reduceLT, Int.reduceLE, Int.reduceAdd, Int.reduceSub, Int.reduceNeg, Int.reduceMul, Int.reduceToNat, Nat.reduceSub, Nat.reduceMul, Nat.reduceLeDiff, Nat.reduceAdd, Nat.reduceLT, Nat.reduceEqDiff, reduceCtorEq, ↓reduceIte, rqs, case12_A, case12_B, case12_X, case12_Y, ints_two, p3]
      refine call_by (g2) (by first | rfl | (simp only [tocvs, tocv, p3, h1]; rfl) | (simp only [tocvs, tocv, toboxes, tobox, updH_at, Nat.reduceEqDiff, ↓reduceIte, p3, h1]; rfl)) (by simp) ?_
      simp (disch := omega) only [wk, tis, Int.reduceNe, Int.reduceEq, Int.reduceLT, Int.reduceLE, Int.reduceAdd, Int.reduceSub, Int.reduceNeg, Int.reduceMul, Int.reduceToNat, Nat.reduceSub, Nat.reduceMul, Nat.reduceLeDiff, Nat.reduceAdd, Nat.reduceLT, Nat.reduceEqDiff, reduceCtorEq, ↓reduceIte, rqs, case12_A, case12_B, case12_X, case12_Y, ints_two, p3, h1]
      try rfl
  by_cases h2 : 10000 < n
  · refine ⟨[], 13, ?_, ?_, key [] (bq_nil _ _)⟩
    · refine AC.by_walk (rs := [.tmp 8, .tmp 9]) ords Tryz.func9 (by rfl) (by rfl) (by rfl) (by rfl) (by rfl) ?_
      simp (disch := omega) only [wk, tis, Int.reduceNe, Int.reduceEq, Int.reduceLT, Int.reduceLE, Int.reduceAdd, Int.reduceSub, Int.reduceNeg, Int.reduceMul, Int.reduceToNat, Nat.reduceSub, Nat.reduceMul, Nat.reduceLeDiff, Nat.reduceAdd, Nat.reduceLT, Nat.reduceEqDiff, reduceCtorEq, ↓reduceIte, rqs, case12_A, case12_B, case12_X, case12_Y, ints_two]
      refine call_by (hgd) (by rfl) (by simp) ?_
      simp (disch := omega) only [wk, tis, Int.reduceNe, Int.reduceEq, Int.reduceLT, Int.reduceLE, Int.reduceAdd, Int.reduceSub, Int.reduceNeg, Int.reduceMul, Int.reduceToNat, Nat.reduceSub, Nat.reduceMul, Nat.reduceLeDiff, Nat.reduceAdd, Nat.reduceLT, Nat.reduceEqDiff, reduceCtorEq, ↓reduceIte, rqs, case12_A, case12_B, case12_X, case12_Y, ints_two]
      refine call_by (o1) (by rfl) (by simp) ?_
      simp (disch := omega) only [wk, tis, Int.reduceNe, Int.reduceEq, Int.reduceLT, Int.reduceLE, Int.reduceAdd, Int.reduceSub, Int.reduceNeg, Int.reduceMul, Int.reduceToNat, Nat.reduceSub, Nat.reduceMul, Nat.reduceLeDiff, Nat.reduceAdd, Nat.reduceLT, Nat.reduceEqDiff, reduceCtorEq, ↓reduceIte, rqs, case12_A, case12_B, case12_X, case12_Y, ints_two]
      refine call_by (o2) (by first | rfl | (simp only [tocvs, tocv, h1, h2]; rfl) | (simp only [tocvs, tocv, toboxes, tobox, updH_at, Nat.reduceEqDiff, ↓reduceIte, h1, h2]; rfl)) (by simp) ?_
      simp (disch := omega) only [wk, tis, Int.reduceNe, Int.reduceEq, Int.reduceLT, Int.reduceLE, Int.reduceAdd, Int.reduceSub, Int.reduceNeg, Int.reduceMul, Int.reduceToNat, Nat.reduceSub, Nat.reduceMul, Nat.reduceLeDiff, Nat.reduceAdd, Nat.reduceLT, Nat.reduceEqDiff, reduceCtorEq, ↓reduceIte, rqs, case12_A, case12_B, case12_X, case12_Y, ints_two, h1, h2]
      try rfl
    · refine AC.by_walk (rs := [.tmp 8, .tmp 9]) ords Tryz.func10 (by rfl) (by rfl) (by rfl) (by rfl) (by rfl) ?_
      simp (disch := omega) only [wk, tis, Int.reduceNe, Int.reduceEq, Int.reduceLT, Int.reduceLE, Int.reduceAdd, Int.reduceSub, Int.reduceNeg, Int.reduceMul, Int.reduceToNat, Nat.reduceSub, Nat.reduceMul, Nat.reduceLeDiff, Nat.reduceAdd, Nat.reduceLT, Nat.reduceEqDiff, reduceCtorEq, ↓reduceIte, rqs, case12_A, case12_B, case12_X, case12_Y, ints_two]
      refine call_by (g) (by first | rfl | (simp only [tocvs, tocv, p3]; rfl) | (simp only [tocvs, tocv, toboxes, tobox, updH_at, Nat.reduceEqDiff, ↓reduceIte, p3]; rfl)) (by simp) ?_
      simp (disch := omega) only [wk, tis, Int.reduceNe, Int.reduceEq, Int.reduceLT, Int.reduceLE, Int.reduceAdd, Int.reduceSub, Int.reduceNeg, Int.reduceMul, Int.reduceToNat, Nat.reduceSub, Nat.reduceMul, Nat.reduceLeDiff, Nat.reduceAdd, Nat.reduceLT, Nat.reduceEqDiff, reduceCtorEq, ↓reduceIte, rqs, case12_A, case12_B, case12_X, case12_Y, ints_two, p3]
      refine call_by (g2) (by first | rfl | (simp only [tocvs, tocv, p3, h1, h2]; rfl) | (simp only [tocvs, tocv, toboxes, tobox, updH_at, Nat.reduceEqDiff, ↓reduceIte, p3, h1, h2]; rfl)) (by simp) ?_
      simp (disch := omega) only [wk, tis, Int.reduceNe, Int.reduceEq, Int.reduceLT, Int.reduceLE, Int.reduceAdd, Int.reduceSub, Int.reduceNeg, Int.reduceMul, Int.reduceToNat, Nat.reduceSub, Nat.reduceMul, Nat.reduceLeDiff, Nat.reduceAdd, Nat.reduceLT, Nat.reduceEqDiff, reduceCtorEq, ↓reduceIte, rqs, case12_A, case12_B, case12_X, case12_Y, ints_two, p3, h1, h2]
      try rfl
  obtain ⟨m, rfl⟩ := Int.eq_ofNat_of_zero_le (show 0 ≤ n by omega)
  have hm : m ≤ 12 := by omega
  have hG := hp.gq hg
  refine ⟨_, 0, htable_ok p x s m hm hG hx hs dx ds, etable_ok p x s m hm hG hx hs dx ds, key _ ?_⟩
  refine (BQ.mono (n := 12) (k := 2 ^ 34) ⟨by rw [List.length_map, tabl_len]; exact hm, fun r hr => ?_⟩ (by omega) (by omega))
  obtain ⟨c, hc, rfl⟩ := List.mem_map.1 hr
  obtain ⟨i, hi, rfl⟩ := List.mem_map.1 hc
  have hi := List.mem_range.1 hi
  refine szq_crat ?_
  have hall : ∀ j, ∃ y, TPl x s y j := fun j => by
    induction j with
    | zero => exact ⟨x, tpl_zero hx dx⟩
    | succ j ih =>
      obtain ⟨y, hy⟩ := ih
      exact ⟨_, tpl_next hy hs ds⟩
  obtain ⟨y, hy⟩ := hall i
  rw [← hy.v]
  exact (tpl_vb hy hG (by omega)).e _ (by rw [qvs_len]; omega) fun c hc => hc
end Go.Proofs.YtcjnacpekbhhcaaGreat

namespace Go.Proofs.YtcjnacpekbhhcaaGreat
open Go Go.Proofs Go.AL
set_option linter.unusedSimpArgs false
set_option linter.unusedVariables false

theorem tables_ok (x : C12) (h : Ok12 x) : AC Tryz.prog 3 [.agg (case12 x)] none [cb true] := by
  have g := great12_ok x h
  cases hg : great12 x with
  | true =>
    rw [hg] at g
    refine AC.by_walk (rs := [.tmp 2]) ords Tryz.func3 (by rfl) (by rfl) (by rfl) (by rfl) (by rfl) ?_
    simp (disch := omega) only [wk, tis, Int.reduceNe, Int.reduceEq, Int.reduceLT, Int.reduceLE, Int.reduceAdd, Int.reduceSub, Int.reduceNeg, Int.reduceMul, Int.reduceToNat, Nat.reduceSub, Nat.reduceMul, Nat.reduceLeDiff, Nat.reduceAdd, Nat.reduceLT, Nat.reduceEqDiff, reduceCtorEq, ↓reduceIte, rqs, case12_A, case12_B, case12_X, case12_Y, ints_two]
    refine call_by (awake12_ok) (by rfl) (by simp) ?_
    simp (disch := omega) only [wk, tis, Int.reduceNe, Int.reduceEq, Int.reduceLT, Int.reduceLE, Int.reduceAdd, Int.reduceSub, Int.reduceNeg, Int.reduceMul, Int.reduceToNat, Nat.reduceSub, Nat.reduceMul, Nat.reduceLeDiff, Nat.reduceAdd, Nat.reduceLT, Nat.reduceEqDiff, reduceCtorEq, ↓reduceIte, rqs, case12_A, case12_B, case12_X, case12_Y, ints_two]
    refine call_by (g) (by rfl) (by simp) ?_
    simp (disch := omega) only [wk, tis, Int.reduceNe, Int.reduceEq, Int.reduceLT, Int.reduceLE, Int.reduceAdd, Int.reduceSub, Int.reduceNeg, Int.reduceMul, Int.reduceToNat, Nat.reduceSub, Nat.reduceMul, Nat.reduceLeDiff, Nat.reduceAdd, Nat.reduceLT, Nat.reduceEqDiff, reduceCtorEq, ↓reduceIte, rqs, case12_A, case12_B, case12_X, case12_Y, ints_two]
  | false =>
    rw [hg] at g
    have f := fit12 h hg
    by_cases h1 : 12 < x.N
    · by_cases h2 : x.N ≤ 10000
      · obtain ⟨l, e, a1, a2, s⟩ := table_both x.R x.X x.Y 12 f.R f.X f.Y (.inl (by omega))
        have p := plain12_ok e e
        rw [decide_eq_true rfl] at p
        refine AC.by_walk (rs := [.tmp 2]) ords Tryz.func3 (by rfl) (by rfl) (by rfl) (by rfl) (by rfl) ?_
        simp (disch := omega) only [wk, tis, Int.reduceNe, Int.reduceEq, Int.reduceLT, Int.reduceLE, Int.reduceAdd, Int.reduceSub, Int.reduceNeg, Int.reduceMul, Int.reduceToNat, Nat.reduceSub, Nat.reduceMul, Nat.reduceLeDiff, Nat.reduceAdd, Nat.reduceLT, Nat.reduceEqDiff, reduceCtorEq, ↓reduceIte, rqs, case12_A, case12_B, case12_X, case12_Y, ints_two]
        refine call_by (awake12_ok) (by rfl) (by simp) ?_
        simp (disch := omega) only [wk, tis, Int.reduceNe, Int.reduceEq, Int.reduceLT, Int.reduceLE, Int.reduceAdd, Int.reduceSub, Int.reduceNeg, Int.reduceMul, Int.reduceToNat, Nat.reduceSub, Nat.reduceMul, Nat.reduceLeDiff, Nat.reduceAdd, Nat.reduceLT, Nat.reduceEqDiff, reduceCtorEq, ↓reduceIte, rqs, case12_A, case12_B, case12_X, case12_Y, ints_two]
        refine call_by (g) (by first | rfl | (simp only [tocvs, tocv, h1, h2]; rfl) | (simp only [tocvs, tocv, toboxes, tobox, updH_at, Nat.reduceEqDiff, ↓reduceIte, h1, h2]; rfl)) (by simp) ?_
        simp (disch := omega) only [wk, tis, Int.reduceNe, Int.reduceEq, Int.reduceLT, Int.reduceLE, Int.reduceAdd, Int.reduceSub, Int.reduceNeg, Int.reduceMul, Int.reduceToNat, Nat.reduceSub, Nat.reduceMul, Nat.reduceLeDiff, Nat.reduceAdd, Nat.reduceLT, Nat.reduceEqDiff, reduceCtorEq, ↓reduceIte, rqs, case12_A, case12_B, case12_X, case12_Y, ints_two, h1, h2]
        refine call_by (a1) (by rfl) (by simp) ?_
        simp (disch := omega) only [wk, tis, Int.reduceNe, Int.reduceEq, Int.reduceLT, Int.reduceLE, Int.reduceAdd, Int.reduceSub, Int.reduceNeg, Int.reduceMul, Int.reduceToNat, Nat.reduceSub, Nat.reduceMul, Nat.reduceLeDiff, Nat.reduceAdd, Nat.reduceLT, Nat.reduceEqDiff, reduceCtorEq, ↓reduceIte, rqs, case12_A, case12_B, case12_X, case12_Y, ints_two]
        refine call_by (a2) (by rfl) (by simp) ?_
        simp (disch := omega) only [wk, tis, Int.reduceNe, Int.reduceEq, Int.reduceLT, Int.reduceLE, Int.reduceAdd, Int.reduceSub, Int.reduceNeg, Int.reduceMul, Int.reduceToNat, Nat.reduceSub, Nat.reduceMul, Nat.reduceLeDiff, Nat.reduceAdd, Nat.reduceLT, Nat.reduceEqDiff, reduceCtorEq, ↓reduceIte, rqs, case12_A, case12_B, case12_X, case12_Y, ints_two]
        refine call_by (p) (by rfl) (by simp) ?_
        simp (disch := omega) only [wk, tis, Int.reduceNe, Int.reduceEq, Int.reduceLT, Int.reduceLE, Int.reduceAdd, Int.reduceSub, Int.reduceNeg, Int.reduceMul, Int.reduceToNat, Nat.reduceSub, Nat.reduceMul, Nat.reduceLeDiff, Nat.reduceAdd, Nat.reduceLT, Nat.reduceEqDiff, reduceCtorEq, ↓reduceIte, rqs, case12_A, case12_B, case12_X, case12_Y, ints_two]
        refine call_by (s) (by rfl) (by simp) ?_
        simp (disch := omega) only [wk, tis, Int.reduceNe, Int.reduceEq, Int.reduceLT, Int.reduceLE, Int.reduceAdd, Int.reduceSub, Int.reduceNeg, Int.reduceMul, Int.reduceToNat, Nat.reduceSub, Nat.reduceMul, Nat.reduceLeDiff, Nat.reduceAdd, Nat.reduceLT, Nat.reduceEqDiff, reduceCtorEq, ↓reduceIte, rqs, case12_A, case12_B, case12_X, case12_Y, ints_two]
        try rfl
      · obtain ⟨l, e, a1, a2, s⟩ := table_both x.R x.X x.Y x.N f.R f.X f.Y (.inr (by omega))
        have p := plain12_ok e e
        rw [decide_eq_true rfl] at p
        refine AC.by_walk (rs := [.tmp 2]) ords Tryz.func3 (by rfl) (by rfl) (by rfl) (by rfl) (by rfl) ?_
        simp (disch := omega) only [wk, tis, Int.reduceNe, Int.reduceEq, Int.reduceLT, Int.reduceLE, Int.reduceAdd, Int.reduceSub, Int.reduceNeg, Int.reduceMul, Int.reduceToNat, Nat.reduceSub, Nat.reduceMul, Nat.reduceLeDiff, Nat.reduceAdd, Nat.reduceLT, Nat.reduceEqDiff, reduceCtorEq, ↓reduceIte, rqs, case12_A, case12_B, case12_X, case12_Y, ints_two]
        refine call_by (awake12_ok) (by rfl) (by simp) ?_
        simp (disch := omega) only [wk, tis, Int.reduceNe, Int.reduceEq, Int.reduceLT, Int.reduceLE, Int.reduceAdd, Int.reduceSub, Int.reduceNeg, Int.reduceMul, Int.reduceToNat, Nat.reduceSub, Nat.reduceMul, Nat.reduceLeDiff, Nat.reduceAdd, Nat.reduceLT, Nat.reduceEqDiff, reduceCtorEq, ↓reduceIte, rqs, case12_A, case12_B, case12_X, case12_Y, ints_two]
        refine call_by (g) (by first | rfl | (simp only [tocvs, tocv, h1, h2]; rfl) | (simp only [tocvs, tocv, toboxes, tobox, updH_at, Nat.reduceEqDiff, ↓reduceIte, h1, h2]; rfl)) (by simp) ?_
        simp (disch := omega) only [wk, tis, Int.reduceNe, Int.reduceEq, Int.reduceLT, Int.reduceLE, Int.reduceAdd, Int.reduceSub, Int.reduceNeg, Int.reduceMul, Int.reduceToNat, Nat.reduceSub, Nat.reduceMul, Nat.reduceLeDiff, Nat.reduceAdd, Nat.reduceLT, Nat.reduceEqDiff, reduceCtorEq, ↓reduceIte, rqs, case12_A, case12_B, case12_X, case12_Y, ints_two, h1, h2]
        refine call_by (a1) (by rfl) (by simp) ?_
        simp (disch := omega) only [wk, tis, Int.reduceNe, Int.reduceEq, Int.reduceLT, Int.reduceLE, Int.reduceAdd, Int.reduceSub, Int.reduceNeg, Int.reduceMul, Int.reduceToNat, Nat.reduceSub, Nat.reduceMul, Nat.reduceLeDiff, Nat.reduceAdd, Nat.reduceLT, Nat.reduceEqDiff, reduceCtorEq, ↓reduceIte, rqs, case12_A, case12_B, case12_X, case12_Y, ints_two]
        refine call_by (a2) (by rfl) (by simp) ?_
        simp (disch := omega) only [wk, tis, Int.reduceNe, Int.reduceEq, Int.reduceLT, Int.reduceLE, Int.reduceAdd, Int.reduceSub, Int.reduceNeg, Int.reduceMul, Int.reduceToNat, Nat.reduceSub, Nat.reduceMul, Nat.reduceLeDiff, Nat.reduceAdd, Nat.reduceLT, Nat.reduceEqDiff, reduceCtorEq, ↓reduceIte, rqs, case12_A, case12_B, case12_X, case12_Y, ints_two]
        refine call_by (p) (by rfl) (by simp) ?_
        simp (disch := omega) only [wk, tis, Int.reduceNe, Int.reduceEq, Int.reduceLT, Int.reduceLE, Int.reduceAdd, Int.reduceSub, Int.reduceNeg, Int.reduceMul, Int.reduceToNat, Nat.reduceSub, Nat.reduceMul, Nat.reduceLeDiff, Nat.reduceAdd, Nat.reduceLT, Nat.reduceEqDiff, reduceCtorEq, ↓reduceIte, rqs, case12_A, case12_B, case12_X, case12_Y, ints_two]
        refine call_by (s) (by rfl) (by simp) ?_
        simp (disch := omega) only [wk, tis, Int.reduceNe, Int.reduceEq, Int.reduceLT, Int.reduceLE, Int.reduceAdd, Int.reduceSub, Int.reduceNeg, Int.reduceMul, Int.reduceToNat, Nat.reduceSub, Nat.reduceMul, Nat.reduceLeDiff, Nat.reduceAdd, Nat.reduceLT, Nat.reduceEqDiff, reduceCtorEq, ↓reduceIte, rqs, case12_A, case12_B, case12_X, case12_Y, ints_two]
        try rfl
    · obtain ⟨l, e, a1, a2, s⟩ := table_both x.R x.X x.Y x.N f.R f.X f.Y (.inl (by omega))
      have p := plain12_ok e e
      rw [decide_eq_true rfl] at p
      refine AC.by_walk (rs := [.tmp 2]) ords Tryz.func3 (by rfl) (by rfl) (by rfl) (by rfl) (by rfl) ?_
      simp (disch := omega) only [wk, tis, Int.reduceNe, Int.reduceEq, Int.reduceLT, Int.reduceLE, Int.reduceAdd, Int.reduceSub, Int.reduceNeg, Int.reduceMul, Int.reduceToNat, Nat.reduceSub, Nat.reduceMul, Nat.reduceLeDiff, Nat.reduceAdd, Nat.reduceLT, Nat.reduceEqDiff, reduceCtorEq, ↓reduceIte, rqs, case12_A, case12_B, case12_X, case12_Y, ints_two]
      refine call_by (awake12_ok) (by rfl) (by simp) ?_
      simp (disch := omega) only [wk, tis, Int.reduceNe, Int.reduceEq, Int.reduceLT, Int.reduceLE, Int.reduceAdd, Int.reduceSub, Int.reduceNeg, Int.reduceMul, Int.reduceToNat, Nat.reduceSub, Nat.reduceMul, Nat.reduceLeDiff, Nat.reduceAdd, Nat.reduceLT, Nat.reduceEqDiff, reduceCtorEq, ↓reduceIte, rqs, case12_A, case12_B, case12_X, case12_Y, ints_two]
      refine call_by (g) (by first | rfl | (simp only [tocvs, tocv, h1]; rfl) | (simp only [tocvs, tocv, toboxes, tobox, updH_at, Nat.reduceEqDiff, ↓reduceIte, h1]; rfl)) (by simp) ?_
      simp (disch := omega) only [wk, tis, Int.reduceNe, Int.reduceEq, Int.reduceLT, Int.reduceLE, Int.reduceAdd, Int.reduceSub, Int.reduceNeg, Int.reduceMul, Int.reduceToNat, Nat.reduceSub, Nat.reduceMul, Nat.reduceLeDiff, Nat.reduceAdd, Nat.reduceLT, Nat.reduceEqDiff, reduceCtorEq, ↓reduceIte, rqs, case12_A, case12_B, case12_X, case12_Y, ints_two, h1]
      refine call_by (a1) (by rfl) (by simp) ?_
      simp (disch := omega) only [wk, tis, Int.reduceNe, Int.reduceEq, Int.reduceLT, Int.reduceLE, Int.reduceAdd, Int.reduceSub, Int.reduceNeg, Int.reduceMul, Int.reduceToNat, Nat.reduceSub, Nat.reduceMul, Nat.reduceLeDiff, Nat.reduceAdd, Nat.reduceLT, Nat.reduceEqDiff, reduceCtorEq, ↓reduceIte, rqs, case12_A, case12_B, case12_X, case12_Y, ints_two]
      refine call_by (a2) (by rfl) (by simp) ?_
      simp (disch := omega) only [wk, tis, Int.reduceNe, Int.reduceEq, Int.reduceLT, Int.reduceLE, Int.reduceAdd, Int.reduceSub, Int.reduceNeg, Int.reduceMul, Int.reduceToNat, Nat.reduceSub, Nat.reduceMul, Nat.reduceLeDiff, Nat.reduceAdd, Nat.reduceLT, Nat.reduceEqDiff, reduceCtorEq, ↓reduceIte, rqs, case12_A, case12_B, case12_X, case12_Y, ints_two]
      refine call_by (p) (by rfl) (by simp) ?_
      simp (disch := omega) only [wk, tis, Int.reduceNe, Int.reduceEq, Int.reduceLT, Int.reduceLE, Int.reduceAdd, Int.reduceSub, Int.reduceNeg, Int.reduceMul, Int.reduceToNat, Nat.reduceSub, Nat.reduceMul, Nat.reduceLeDiff, Nat.reduceAdd, Nat.reduceLT, Nat.reduceEqDiff, reduceCtorEq, ↓reduceIte, rqs, case12_A, case12_B, case12_X, case12_Y, ints_two]
      refine call_by (s) (by rfl) (by simp) ?_
      simp (disch := omega) only [wk, tis, Int.reduceNe, Int.reduceEq, Int.reduceLT, Int.reduceLE, Int.reduceAdd, Int.reduceSub, Int.reduceNeg, Int.reduceMul, Int.reduceToNat, Nat.reduceSub, Nat.reduceMul, Nat.reduceLeDiff, Nat.reduceAdd, Nat.reduceLT, Nat.reduceEqDiff, reduceCtorEq, ↓reduceIte, rqs, case12_A, case12_B, case12_X, case12_Y, ints_two]
      try rfl

theorem tables_law (P Q : List RI) (R S : List RQ) (A B : RI) (X Y : RQ) (N : Int) (hP : Raw P) (hQ : Raw Q) (hR : RawQ R) (hS : RawQ S) (hA : Sz 9223372036854775807 A) (hB : Sz 9223372036854775807 B) (hX : SzQ 9223372036854775807 X) (hY : SzQ 9223372036854775807 Y) (hN1 : -9223372036854775808 ≤ N) (hN2 : N ≤ 9223372036854775807) :
    AC Tryz.prog 3 [.agg (case12 ⟨P, Q, R, S, A, B, X, Y, N⟩)] none [cb true] := tables_ok _ (ok12 P Q R S A B X Y N hP hQ hR hS hA hB hX hY hN1 hN2)
end Go.Proofs.YtcjnacpekbhhcaaGreat
