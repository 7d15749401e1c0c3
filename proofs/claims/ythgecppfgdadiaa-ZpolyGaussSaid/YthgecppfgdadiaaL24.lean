/-
  Contracts of the functions that the law reaches.
-/
import Derived.Test.YthgecppfgdadiaaL23
namespace Go.Proofs.Ythgecppfgdadiaa
open Go Go.Proofs Go.AL
set_option linter.unusedSimpArgs false
set_option linter.unusedVariables false

theorem topW_lt {x y i : Nat} (h : x / W ^ (i + 1) = y / W ^ (i + 1)) (hd : x / W ^ i % W < y / W ^ i % W) : x < y := by
  have e : ∀ z : Nat, z / W ^ i = W * (z / W ^ (i + 1)) + z / W ^ i % W := fun z => by
    rw [Nat.pow_succ, ← Nat.div_div_eq_div_mul]; exact (Nat.div_add_mod _ _).symm
  have h1 := e x
  have h2 := e y
  rw [h] at h1
  rcases Nat.lt_or_ge x y with h3 | h3
  · exact h3
  · have := Nat.div_le_div_right (c := W ^ i) h3
    omega

theorem word_at {l : List Nat} (h : Lim l) (k : Nat) : l.getD k 0 = nv l / W ^ k % W := by
  have h1 := vl_take_next W l k
  have e1 := nv_take h (k + 1)
  have e2 := nv_take h k
  simp only [nv] at *
  rw [e1, e2, Nat.mod_pow_succ] at h1
  exact (Nat.eq_of_mul_eq_mul_left (W_pow_pos k) (Nat.add_left_cancel h1)).symm

theorem lcmp_ok (a b : List Nat) (ha : Lim a) (hb : Lim b) (hla : a.length ≤ 2 ^ 42) (hlb : b.length ≤ 2 ^ 42) : AC Try.prog 142 [cl a, cl b] none [ci (cmpN (nv a) (nv b))] := by
  refine AC.by_walk (rs := [.tmp 4]) ords Try.func142 (by rfl) (by rfl) (by rfl) (by rfl) (by rfl) ?_
  generalize hn : max a.length b.length = n at *
  have hnI : max (a.length : Int) (b.length : Int) = (n : Int) := by omega
  have h0 : nv a / W ^ n = nv b / W ^ n := by
    have hA := nv_lt ha
    have hB := nv_lt hb
    have hA2 : W ^ a.length ≤ W ^ n := Nat.pow_le_pow_right (by decide) (by omega)
    have hB2 : W ^ b.length ≤ W ^ n := Nat.pow_le_pow_right (by decide) (by omega)
    rw [Nat.div_eq_of_lt (by omega), Nat.div_eq_of_lt (by omega)]
  simp (disch := omega) only [wk, tis, Int.reduceNe, Int.reduceEq, Int.reduceLT, Int.reduceLE, Int.reduceAdd, Int.reduceSub, Int.reduceNeg, Int.reduceMul, Int.reduceToNat, Nat.reduceSub, Nat.reduceMul, Nat.reduceLeDiff, Nat.reduceAdd, Nat.reduceLT, Nat.reduceEqDiff, reduceCtorEq, ↓reduceIte, cpoly_len, natsr_len, natsr_at, natsr_snoc, natsr_app, natsr_rows, natsr_nil, hnI]
  refine aloop_by (fun f H => ∃ (i : Nat), i ≤ n ∧ nv a / W ^ i = nv b / W ^ i ∧ f 6 = .iv (.int .i64 ((i : Int) - 1)) ∧ f 0 = .iv (.sl (lims a)) ∧ f 1 = .iv (.sl (lims b))) (fun f H => (intAt f 6 + 1).toNat) ?_ ?_
  · refine ⟨n, by omega, h0, ?_⟩
    simp (disch := omega) only [wk, tis, Int.reduceNe, Int.reduceEq, Int.reduceLT, Int.reduceLE, Int.reduceAdd, Int.reduceSub, Int.reduceNeg, Int.reduceMul, Int.reduceToNat, Nat.reduceSub, Nat.reduceMul, Nat.reduceLeDiff, Nat.reduceAdd, Nat.reduceLT, Nat.reduceEqDiff, reduceCtorEq, ↓reduceIte, cpoly_len, natsr_len, natsr_at, natsr_snoc, natsr_app, natsr_rows, natsr_nil]
  rintro f H ⟨i, hi, hv, hF⟩
  rw [intAt_of hF.1]
  simp (disch := omega) only [wk, tis, Int.reduceNe, Int.reduceEq, Int.reduceLT, Int.reduceLE, Int.reduceAdd, Int.reduceSub, Int.reduceNeg, Int.reduceMul, Int.reduceToNat, Nat.reduceSub, Nat.reduceMul, Nat.reduceLeDiff, Nat.reduceAdd, Nat.reduceLT, Nat.reduceEqDiff, reduceCtorEq, ↓reduceIte, cpoly_len, natsr_len, natsr_at, natsr_snoc, natsr_app, natsr_rows, natsr_nil, hF]
  refine if_by (fun hlt => ?_) (fun hlt => ?_)
  · obtain ⟨j, rfl⟩ : ∃ j, i = j + 1 := ⟨i - 1, by omega⟩
    have ej : ((j + 1 : Nat) : Int) - 1 = (j : Int) := by omega
    have hx := word_at ha j
    have hy := word_at hb j
    rw [ej] at hF
    simp (disch := omega) only [wk, tis, Int.reduceNe, Int.reduceEq, Int.reduceLT, Int.reduceLE, Int.reduceAdd, Int.reduceSub, Int.reduceNeg, Int.reduceMul, Int.reduceToNat, Nat.reduceSub, Nat.reduceMul, Nat.reduceLeDiff, Nat.reduceAdd, Nat.reduceLT, Nat.reduceEqDiff, reduceCtorEq, ↓reduceIte, cpoly_len, natsr_len, natsr_at, natsr_snoc, natsr_app, natsr_rows, natsr_nil, hF]
    refine call_by ((at_ok a j (by omega))) (by first | rfl | (simp only [tocvs, tocv, hF]; rfl)) (by simp) ?_
    simp (disch := omega) only [wk, tis, Int.reduceNe, Int.reduceEq, Int.reduceLT, Int.reduceLE, Int.reduceAdd, Int.reduceSub, Int.reduceNeg, Int.reduceMul, Int.reduceToNat, Nat.reduceSub, Nat.reduceMul, Nat.reduceLeDiff, Nat.reduceAdd, Nat.reduceLT, Nat.reduceEqDiff, reduceCtorEq, ↓reduceIte, cpoly_len, natsr_len, natsr_at, natsr_snoc, natsr_app, natsr_rows, natsr_nil, hF]
    refine call_by ((at_ok b j (by omega))) (by first | rfl | (simp only [tocvs, tocv, hF]; rfl)) (by simp) ?_
    simp (disch := omega) only [wk, tis, Int.reduceNe, Int.reduceEq, Int.reduceLT, Int.reduceLE, Int.reduceAdd, Int.reduceSub, Int.reduceNeg, Int.reduceMul, Int.reduceToNat, Nat.reduceSub, Nat.reduceMul, Nat.reduceLeDiff, Nat.reduceAdd, Nat.reduceLT, Nat.reduceEqDiff, reduceCtorEq, ↓reduceIte, cpoly_len, natsr_len, natsr_at, natsr_snoc, natsr_app, natsr_rows, natsr_nil, hF]
    refine if_by (fun h1 => ?_) (fun h1 => ?_)
    · simp (disch := omega) only [wk, tis, Int.reduceNe, Int.reduceEq, Int.reduceLT, Int.reduceLE, Int.reduceAdd, Int.reduceSub, Int.reduceNeg, Int.reduceMul, Int.reduceToNat, Nat.reduceSub, Nat.reduceMul, Nat.reduceLeDiff, Nat.reduceAdd, Nat.reduceLT, Nat.reduceEqDiff, reduceCtorEq, ↓reduceIte, cpoly_len, natsr_len, natsr_at, natsr_snoc, natsr_app, natsr_rows, natsr_nil, hF]
      refine ⟨⟨j, by omega, ?_, rfl⟩, by omega⟩
      have e : ∀ z : Nat, z / W ^ j = W * (z / W ^ (j + 1)) + z / W ^ j % W := fun z => by
        rw [Nat.pow_succ, ← Nat.div_div_eq_div_mul]; exact (Nat.div_add_mod _ _).symm
      rw [e (nv a), e (nv b), hv]
      omega
    simp (disch := omega) only [wk, tis, Int.reduceNe, Int.reduceEq, Int.reduceLT, Int.reduceLE, Int.reduceAdd, Int.reduceSub, Int.reduceNeg, Int.reduceMul, Int.reduceToNat, Nat.reduceSub, Nat.reduceMul, Nat.reduceLeDiff, Nat.reduceAdd, Nat.reduceLT, Nat.reduceEqDiff, reduceCtorEq, ↓reduceIte, cpoly_len, natsr_len, natsr_at, natsr_snoc, natsr_app, natsr_rows, natsr_nil, hF]
    refine if_by (fun h2 => ?_) (fun h2 => ?_)
    · simp (disch := omega) only [wk, tis, Int.reduceNe, Int.reduceEq, Int.reduceLT, Int.reduceLE, Int.reduceAdd, Int.reduceSub, Int.reduceNeg, Int.reduceMul, Int.reduceToNat, Nat.reduceSub, Nat.reduceMul, Nat.reduceLeDiff, Nat.reduceAdd, Nat.reduceLT, Nat.reduceEqDiff, reduceCtorEq, ↓reduceIte, cpoly_len, natsr_len, natsr_at, natsr_snoc, natsr_app, natsr_rows, natsr_nil, hF]
      have : nv a < nv b := topW_lt hv (by omega)
      rw [cmpN, if_pos this]
    simp (disch := omega) only [wk, tis, Int.reduceNe, Int.reduceEq, Int.reduceLT, Int.reduceLE, Int.reduceAdd, Int.reduceSub, Int.reduceNeg, Int.reduceMul, Int.reduceToNat, Nat.reduceSub, Nat.reduceMul, Nat.reduceLeDiff, Nat.reduceAdd, Nat.reduceLT, Nat.reduceEqDiff, reduceCtorEq, ↓reduceIte, cpoly_len, natsr_len, natsr_at, natsr_snoc, natsr_app, natsr_rows, natsr_nil, hF]
    have : nv b < nv a := topW_lt hv.symm (by omega)
    rw [cmpN, if_neg (by omega), if_pos this]
  · simp (disch := omega) only [wk, tis, Int.reduceNe, Int.reduceEq, Int.reduceLT, Int.reduceLE, Int.reduceAdd, Int.reduceSub, Int.reduceNeg, Int.reduceMul, Int.reduceToNat, Nat.reduceSub, Nat.reduceMul, Nat.reduceLeDiff, Nat.reduceAdd, Nat.reduceLT, Nat.reduceEqDiff, reduceCtorEq, ↓reduceIte, cpoly_len, natsr_len, natsr_at, natsr_snoc, natsr_app, natsr_rows, natsr_nil, hF]
    have : i = 0 := by omega
    subst this
    simp at hv
    rw [hv, cmpN]; simp

theorem ncmp_ok (a b : List Nat) (ha : Lim a) (hb : Lim b) (hla : a.length ≤ 2 ^ 42) (hlb : b.length ≤ 2 ^ 42) : AC Try.prog 109 [cl a, cl b] none [ci (cmpN (nv a) (nv b))] := by
  refine AC.by_walk (rs := [.tmp 4]) ords Try.func109 (by rfl) (by rfl) (by rfl) (by rfl) (by rfl) ?_
  simp (disch := omega) only [wk, tis, Int.reduceNe, Int.reduceEq, Int.reduceLT, Int.reduceLE, Int.reduceAdd, Int.reduceSub, Int.reduceNeg, Int.reduceMul, Int.reduceToNat, Nat.reduceSub, Nat.reduceMul, Nat.reduceLeDiff, Nat.reduceAdd, Nat.reduceLT, Nat.reduceEqDiff, reduceCtorEq, ↓reduceIte, cpoly_len, natsr_len, natsr_at, natsr_snoc, natsr_app, natsr_rows, natsr_nil]
  refine call_by ((lcmp_ok a b ha hb hla hlb)) (by rfl) (by simp) ?_
  simp (disch := omega) only [wk, tis, Int.reduceNe, Int.reduceEq, Int.reduceLT, Int.reduceLE, Int.reduceAdd, Int.reduceSub, Int.reduceNeg, Int.reduceMul, Int.reduceToNat, Nat.reduceSub, Nat.reduceMul, Nat.reduceLeDiff, Nat.reduceAdd, Nat.reduceLT, Nat.reduceEqDiff, reduceCtorEq, ↓reduceIte, cpoly_len, natsr_len, natsr_at, natsr_snoc, natsr_app, natsr_rows, natsr_nil]

theorem zcmp_ok (a b : RI) (ha : Sz (2 ^ 40) a) (hb : Sz (2 ^ 40) b) : AC Try.prog 107 [cr a, cr b] none [ci (cmpZ (iv a) (iv b))] := by
  refine AC.by_walk (rs := [.tmp 4]) ords Try.func107 (by rfl) (by rfl) (by rfl) (by rfl) (by rfl) ?_
  have hla := ha.1
  have hlb := hb.1
  have sa := Int.sign_mul_natAbs (iv a)
  have sb := Int.sign_mul_natAbs (iv b)
  have na := iv_abs a
  have nb := iv_abs b
  have ca : (iv a).sign = -1 ∧ iv a < 0 ∨ (iv a).sign = 0 ∧ iv a = 0 ∨ (iv a).sign = 1 ∧ 0 < iv a := by
    rcases Int.lt_trichotomy (iv a) 0 with h | h | h
    · exact .inl ⟨Int.sign_eq_neg_one_of_neg h, h⟩
    · exact .inr (.inl ⟨by rw [h]; rfl, h⟩)
    · exact .inr (.inr ⟨Int.sign_eq_one_of_pos h, h⟩)
  have cb' : (iv b).sign = -1 ∧ iv b < 0 ∨ (iv b).sign = 0 ∧ iv b = 0 ∨ (iv b).sign = 1 ∧ 0 < iv b := by
    rcases Int.lt_trichotomy (iv b) 0 with h | h | h
    · exact .inl ⟨Int.sign_eq_neg_one_of_neg h, h⟩
    · exact .inr (.inl ⟨by rw [h]; rfl, h⟩)
    · exact .inr (.inr ⟨Int.sign_eq_one_of_pos h, h⟩)
  simp (disch := omega) only [wk, tis, Int.reduceNe, Int.reduceEq, Int.reduceLT, Int.reduceLE, Int.reduceAdd, Int.reduceSub, Int.reduceNeg, Int.reduceMul, Int.reduceToNat, Nat.reduceSub, Nat.reduceMul, Nat.reduceLeDiff, Nat.reduceAdd, Nat.reduceLT, Nat.reduceEqDiff, reduceCtorEq, ↓reduceIte, cpoly_len, natsr_len, natsr_at, natsr_snoc, natsr_app, natsr_rows, natsr_nil]
  refine ⟨tmps_by (by kernel_rfl), ?_⟩
  refine call_by ((zsign_ok a ha)) (by rfl) (by simp) ?_
  simp (disch := omega) only [wk, tis, Int.reduceNe, Int.reduceEq, Int.reduceLT, Int.reduceLE, Int.reduceAdd, Int.reduceSub, Int.reduceNeg, Int.reduceMul, Int.reduceToNat, Nat.reduceSub, Nat.reduceMul, Nat.reduceLeDiff, Nat.reduceAdd, Nat.reduceLT, Nat.reduceEqDiff, reduceCtorEq, ↓reduceIte, cpoly_len, natsr_len, natsr_at, natsr_snoc, natsr_app, natsr_rows, natsr_nil]
  refine call_by ((zsign_ok b hb)) (by rfl) (by simp) ?_
  simp (disch := omega) only [wk, tis, Int.reduceNe, Int.reduceEq, Int.reduceLT, Int.reduceLE, Int.reduceAdd, Int.reduceSub, Int.reduceNeg, Int.reduceMul, Int.reduceToNat, Nat.reduceSub, Nat.reduceMul, Nat.reduceLeDiff, Nat.reduceAdd, Nat.reduceLT, Nat.reduceEqDiff, reduceCtorEq, ↓reduceIte, cpoly_len, natsr_len, natsr_at, natsr_snoc, natsr_app, natsr_rows, natsr_nil]
  first | exact log_by (by kernel_rfl) | refine ⟨log_by (by kernel_rfl), ?_⟩
  refine if_by (fun h1 => ?_) (fun h1 => ?_)
  · simp (disch := omega) only [wk, tis, Int.reduceNe, Int.reduceEq, Int.reduceLT, Int.reduceLE, Int.reduceAdd, Int.reduceSub, Int.reduceNeg, Int.reduceMul, Int.reduceToNat, Nat.reduceSub, Nat.reduceMul, Nat.reduceLeDiff, Nat.reduceAdd, Nat.reduceLT, Nat.reduceEqDiff, reduceCtorEq, ↓reduceIte, cpoly_len, natsr_len, natsr_at, natsr_snoc, natsr_app, natsr_rows, natsr_nil]
    rw [cmpZ, if_pos (by omega)]
  simp (disch := omega) only [wk, tis, Int.reduceNe, Int.reduceEq, Int.reduceLT, Int.reduceLE, Int.reduceAdd, Int.reduceSub, Int.reduceNeg, Int.reduceMul, Int.reduceToNat, Nat.reduceSub, Nat.reduceMul, Nat.reduceLeDiff, Nat.reduceAdd, Nat.reduceLT, Nat.reduceEqDiff, reduceCtorEq, ↓reduceIte, cpoly_len, natsr_len, natsr_at, natsr_snoc, natsr_app, natsr_rows, natsr_nil]
  refine if_by (fun h2 => ?_) (fun h2 => ?_)
  · simp (disch := omega) only [wk, tis, Int.reduceNe, Int.reduceEq, Int.reduceLT, Int.reduceLE, Int.reduceAdd, Int.reduceSub, Int.reduceNeg, Int.reduceMul, Int.reduceToNat, Nat.reduceSub, Nat.reduceMul, Nat.reduceLeDiff, Nat.reduceAdd, Nat.reduceLT, Nat.reduceEqDiff, reduceCtorEq, ↓reduceIte, cpoly_len, natsr_len, natsr_at, natsr_snoc, natsr_app, natsr_rows, natsr_nil]
    rw [cmpZ, if_neg (by omega), if_pos (by omega)]
  simp (disch := omega) only [wk, tis, Int.reduceNe, Int.reduceEq, Int.reduceLT, Int.reduceLE, Int.reduceAdd, Int.reduceSub, Int.reduceNeg, Int.reduceMul, Int.reduceToNat, Nat.reduceSub, Nat.reduceMul, Nat.reduceLeDiff, Nat.reduceAdd, Nat.reduceLT, Nat.reduceEqDiff, reduceCtorEq, ↓reduceIte, cpoly_len, natsr_len, natsr_at, natsr_snoc, natsr_app, natsr_rows, natsr_nil]
  refine call_by ((ncmp_ok a.2 b.2 ha.2 hb.2 (by omega) (by omega))) (by rfl) (by simp) ?_
  simp (disch := omega) only [wk, tis, Int.reduceNe, Int.reduceEq, Int.reduceLT, Int.reduceLE, Int.reduceAdd, Int.reduceSub, Int.reduceNeg, Int.reduceMul, Int.reduceToNat, Nat.reduceSub, Nat.reduceMul, Nat.reduceLeDiff, Nat.reduceAdd, Nat.reduceLT, Nat.reduceEqDiff, reduceCtorEq, ↓reduceIte, cpoly_len, natsr_len, natsr_at, natsr_snoc, natsr_app, natsr_rows, natsr_nil]
  have e : (iv a).sign * cmpN (nv a.2) (nv b.2) = cmpZ (iv a) (iv b) := by
    have hs : (iv a).sign = (iv b).sign := by omega
    rcases ca with ⟨h, h'⟩ | ⟨h, h'⟩ | ⟨h, h'⟩ <;> rw [h]
    · unfold cmpN cmpZ; rw [← na, ← nb]; split <;> split <;> (try split) <;> (try split) <;> omega
    · unfold cmpZ; rw [if_neg (by omega), if_neg (by omega)]; simp
    · unfold cmpN cmpZ; rw [← na, ← nb]; split <;> split <;> (try split) <;> (try split) <;> omega
  rw [e]
  have hb3 : -1 ≤ cmpZ (iv a) (iv b) ∧ cmpZ (iv a) (iv b) ≤ 1 := by unfold cmpZ; split <;> (try split) <;> omega
  simp (disch := omega) only [wk, tis, Int.reduceNe, Int.reduceEq, Int.reduceLT, Int.reduceLE, Int.reduceAdd, Int.reduceSub, Int.reduceNeg, Int.reduceMul, Int.reduceToNat, Nat.reduceSub, Nat.reduceMul, Nat.reduceLeDiff, Nat.reduceAdd, Nat.reduceLT, Nat.reduceEqDiff, reduceCtorEq, ↓reduceIte, cpoly_len, natsr_len, natsr_at, natsr_snoc, natsr_app, natsr_rows, natsr_nil]

theorem cmpZ_zero {x y : Int} : cmpZ x y = 0 ↔ x = y := by unfold cmpZ; split <;> (try split) <;> omega

theorem peq_ok (a b : List RI) (ha : RP (2 ^ 40) (2 ^ 40) a) (hb : RP (2 ^ 40) (2 ^ 40) b) : AC Try.prog 47 [cw a, cw b] none [cb (decide (trimz (pv a) = trimz (pv b)))] := by
  refine AC.by_walk (rs := [.tmp 4]) ords Try.func47 (by rfl) (by rfl) (by rfl) (by rfl) (by rfl) ?_
  have hla := ha.1
  have hlb := hb.1
  generalize hn : max a.length b.length = n at *
  have hnI : max (a.length : Int) (b.length : Int) = (n : Int) := by omega
  simp (disch := omega) only [wk, tis, Int.reduceNe, Int.reduceEq, Int.reduceLT, Int.reduceLE, Int.reduceAdd, Int.reduceSub, Int.reduceNeg, Int.reduceMul, Int.reduceToNat, Nat.reduceSub, Nat.reduceMul, Nat.reduceLeDiff, Nat.reduceAdd, Nat.reduceLT, Nat.reduceEqDiff, reduceCtorEq, ↓reduceIte, cpoly_len, natsr_len, natsr_at, natsr_snoc, natsr_app, natsr_rows, natsr_nil, hnI]
  refine aloop_by (fun f H => ∃ (i : Nat), i ≤ n ∧ (∀ j, j < i → cf (pv a) j = cf (pv b) j) ∧ f 11 = .iv (.int .i64 i) ∧ f 0 = .iv (.sl (raws a)) ∧ f 1 = .iv (.sl (raws b)) ∧ f 10 = .iv (.int .i64 n)) (fun f H => (n - intAt f 11).toNat) ?_ ?_
  · refine ⟨0, by omega, fun j hj => by omega, ?_⟩
    simp (disch := omega) only [wk, tis, Int.reduceNe, Int.reduceEq, Int.reduceLT, Int.reduceLE, Int.reduceAdd, Int.reduceSub, Int.reduceNeg, Int.reduceMul, Int.reduceToNat, Nat.reduceSub, Nat.reduceMul, Nat.reduceLeDiff, Nat.reduceAdd, Nat.reduceLT, Nat.reduceEqDiff, reduceCtorEq, ↓reduceIte, cpoly_len, natsr_len, natsr_at, natsr_snoc, natsr_app, natsr_rows, natsr_nil]
  rintro f H ⟨i, hi, hz, hF⟩
  rw [intAt_of hF.1]
  simp (disch := omega) only [wk, tis, Int.reduceNe, Int.reduceEq, Int.reduceLT, Int.reduceLE, Int.reduceAdd, Int.reduceSub, Int.reduceNeg, Int.reduceMul, Int.reduceToNat, Nat.reduceSub, Nat.reduceMul, Nat.reduceLeDiff, Nat.reduceAdd, Nat.reduceLT, Nat.reduceEqDiff, reduceCtorEq, ↓reduceIte, cpoly_len, natsr_len, natsr_at, natsr_snoc, natsr_app, natsr_rows, natsr_nil, hF]
  refine if_by (fun hlt => ?_) (fun hlt => ?_)
  · simp (disch := omega) only [wk, tis, Int.reduceNe, Int.reduceEq, Int.reduceLT, Int.reduceLE, Int.reduceAdd, Int.reduceSub, Int.reduceNeg, Int.reduceMul, Int.reduceToNat, Nat.reduceSub, Nat.reduceMul, Nat.reduceLeDiff, Nat.reduceAdd, Nat.reduceLT, Nat.reduceEqDiff, reduceCtorEq, ↓reduceIte, cpoly_len, natsr_len, natsr_at, natsr_snoc, natsr_app, natsr_rows, natsr_nil, hF]
    refine call_by ((pat_ok a i (by omega) (by omega))) (by first | rfl | (simp only [tocvs, tocv, hF]; rfl)) (by simp) ?_
    simp (disch := omega) only [wk, tis, Int.reduceNe, Int.reduceEq, Int.reduceLT, Int.reduceLE, Int.reduceAdd, Int.reduceSub, Int.reduceNeg, Int.reduceMul, Int.reduceToNat, Nat.reduceSub, Nat.reduceMul, Nat.reduceLeDiff, Nat.reduceAdd, Nat.reduceLT, Nat.reduceEqDiff, reduceCtorEq, ↓reduceIte, cpoly_len, natsr_len, natsr_at, natsr_snoc, natsr_app, natsr_rows, natsr_nil, hF]
    refine call_by ((pat_ok b i (by omega) (by omega))) (by first | rfl | (simp only [tocvs, tocv, hF]; rfl)) (by simp) ?_
    simp (disch := omega) only [wk, tis, Int.reduceNe, Int.reduceEq, Int.reduceLT, Int.reduceLE, Int.reduceAdd, Int.reduceSub, Int.reduceNeg, Int.reduceMul, Int.reduceToNat, Nat.reduceSub, Nat.reduceMul, Nat.reduceLeDiff, Nat.reduceAdd, Nat.reduceLT, Nat.reduceEqDiff, reduceCtorEq, ↓reduceIte, cpoly_len, natsr_len, natsr_at, natsr_snoc, natsr_app, natsr_rows, natsr_nil, hF]
    refine call_by ((zcmp_ok (a.getD i (false, [])) (b.getD i (false, [])) (ha.get i) (hb.get i))) (by first | rfl | (simp only [tocvs, tocv, hF]; rfl)) (by simp) ?_
    simp (disch := omega) only [wk, tis, Int.reduceNe, Int.reduceEq, Int.reduceLT, Int.reduceLE, Int.reduceAdd, Int.reduceSub, Int.reduceNeg, Int.reduceMul, Int.reduceToNat, Nat.reduceSub, Nat.reduceMul, Nat.reduceLeDiff, Nat.reduceAdd, Nat.reduceLT, Nat.reduceEqDiff, reduceCtorEq, ↓reduceIte, cpoly_len, natsr_len, natsr_at, natsr_snoc, natsr_app, natsr_rows, natsr_nil, hF]
    rw [← cf_pv, ← cf_pv]
    refine if_by (fun hs => ?_) (fun hs => ?_)
    · simp (disch := omega) only [wk, tis, Int.reduceNe, Int.reduceEq, Int.reduceLT, Int.reduceLE, Int.reduceAdd, Int.reduceSub, Int.reduceNeg, Int.reduceMul, Int.reduceToNat, Nat.reduceSub, Nat.reduceMul, Nat.reduceLeDiff, Nat.reduceAdd, Nat.reduceLT, Nat.reduceEqDiff, reduceCtorEq, ↓reduceIte, cpoly_len, natsr_len, natsr_at, natsr_snoc, natsr_app, natsr_rows, natsr_nil, hF]
      rw [decide_eq_false]
      intro e
      exact hs (cmpZ_zero.mpr (trimz_eq_iff.mp e i))
    · simp (disch := omega) only [wk, tis, Int.reduceNe, Int.reduceEq, Int.reduceLT, Int.reduceLE, Int.reduceAdd, Int.reduceSub, Int.reduceNeg, Int.reduceMul, Int.reduceToNat, Nat.reduceSub, Nat.reduceMul, Nat.reduceLeDiff, Nat.reduceAdd, Nat.reduceLT, Nat.reduceEqDiff, reduceCtorEq, ↓reduceIte, cpoly_len, natsr_len, natsr_at, natsr_snoc, natsr_app, natsr_rows, natsr_nil, hF]
      have hs := cmpZ_zero.mp (Decidable.not_not.mp hs)
      refine ⟨⟨i + 1, by omega, fun j hj => ?_, by omega⟩, by omega⟩
      by_cases e : j = i
      · rw [e]; exact hs
      · exact hz j (by omega)
  · simp (disch := omega) only [wk, tis, Int.reduceNe, Int.reduceEq, Int.reduceLT, Int.reduceLE, Int.reduceAdd, Int.reduceSub, Int.reduceNeg, Int.reduceMul, Int.reduceToNat, Nat.reduceSub, Nat.reduceMul, Nat.reduceLeDiff, Nat.reduceAdd, Nat.reduceLT, Nat.reduceEqDiff, reduceCtorEq, ↓reduceIte, cpoly_len, natsr_len, natsr_at, natsr_snoc, natsr_app, natsr_rows, natsr_nil, hF]
    rw [decide_eq_true]
    refine trimz_ext fun k => ?_
    by_cases hk : k < n
    · exact hz k (by omega)
    · rw [cf_ge (by rw [pv_len]; omega), cf_ge (by rw [pv_len]; omega)]

theorem seq_ok (a b : List RI) (ha : RP (2 ^ 40) (2 ^ 40) a) (hb : RP (2 ^ 40) (2 ^ 40) b) : AC Try.prog 48 [cw a, cw b] none [cb (decide (trimz (pv a) = trimz (pv b)))] := by
  refine AC.by_walk (rs := [.tmp 4]) ords Try.func48 (by rfl) (by rfl) (by rfl) (by rfl) (by rfl) ?_
  simp (disch := omega) only [wk, tis, Int.reduceNe, Int.reduceEq, Int.reduceLT, Int.reduceLE, Int.reduceAdd, Int.reduceSub, Int.reduceNeg, Int.reduceMul, Int.reduceToNat, Nat.reduceSub, Nat.reduceMul, Nat.reduceLeDiff, Nat.reduceAdd, Nat.reduceLT, Nat.reduceEqDiff, reduceCtorEq, ↓reduceIte, cpoly_len, natsr_len, natsr_at, natsr_snoc, natsr_app, natsr_rows, natsr_nil]
  refine call_by ((snorm_ok a ha)) (by rfl) (by simp) ?_
  simp (disch := omega) only [wk, tis, Int.reduceNe, Int.reduceEq, Int.reduceLT, Int.reduceLE, Int.reduceAdd, Int.reduceSub, Int.reduceNeg, Int.reduceMul, Int.reduceToNat, Nat.reduceSub, Nat.reduceMul, Nat.reduceLeDiff, Nat.reduceAdd, Nat.reduceLT, Nat.reduceEqDiff, reduceCtorEq, ↓reduceIte, cpoly_len, natsr_len, natsr_at, natsr_snoc, natsr_app, natsr_rows, natsr_nil]
  refine call_by ((snorm_ok b hb)) (by rfl) (by simp) ?_
  simp (disch := omega) only [wk, tis, Int.reduceNe, Int.reduceEq, Int.reduceLT, Int.reduceLE, Int.reduceAdd, Int.reduceSub, Int.reduceNeg, Int.reduceMul, Int.reduceToNat, Nat.reduceSub, Nat.reduceMul, Nat.reduceLeDiff, Nat.reduceAdd, Nat.reduceLT, Nat.reduceEqDiff, reduceCtorEq, ↓reduceIte, cpoly_len, natsr_len, natsr_at, natsr_snoc, natsr_app, natsr_rows, natsr_nil]
  have := sform_ok (cn (pv a)) (cn (pv b)) (rp_cn (ha.pv.mono (by omega) (by omega))) (rp_cn (hb.pv.mono (by omega) (by omega)))
  have e : decide (cn (pv a) = cn (pv b)) = decide (trimz (pv a) = trimz (pv b)) := decide_eq_decide.mpr ⟨fun h => canon_inj h, fun h => by rw [cn, cn, h]⟩
  rw [e] at this
  refine call_by (this) (by rfl) (by simp) ?_
  simp (disch := omega) only [wk, tis, Int.reduceNe, Int.reduceEq, Int.reduceLT, Int.reduceLE, Int.reduceAdd, Int.reduceSub, Int.reduceNeg, Int.reduceMul, Int.reduceToNat, Nat.reduceSub, Nat.reduceMul, Nat.reduceLeDiff, Nat.reduceAdd, Nat.reduceLT, Nat.reduceEqDiff, reduceCtorEq, ↓reduceIte, cpoly_len, natsr_len, natsr_at, natsr_snoc, natsr_app, natsr_rows, natsr_nil]

theorem cmpN_gt {x y : Nat} : 0 < cmpN x y ↔ y < x := by unfold cmpN; split <;> (try split) <;> omega

theorem pheight_ok (p : List RI) (h : RP (2 ^ 40) (2 ^ 40) p) : AC Try.prog 50 [cw p] none [cl (wd (hgt (pv p)))] := by
  refine AC.by_walk (rs := [.tmp 2]) ords Try.func50 (by rfl) (by rfl) (by rfl) (by rfl) (by rfl) ?_
  have hl := h.1
  simp (disch := omega) only [wk, tis, Int.reduceNe, Int.reduceEq, Int.reduceLT, Int.reduceLE, Int.reduceAdd, Int.reduceSub, Int.reduceNeg, Int.reduceMul, Int.reduceToNat, Nat.reduceSub, Nat.reduceMul, Nat.reduceLeDiff, Nat.reduceAdd, Nat.reduceLT, Nat.reduceEqDiff, reduceCtorEq, ↓reduceIte, cpoly_len, natsr_len, natsr_at, natsr_snoc, natsr_app, natsr_rows, natsr_nil]
  refine aloop_w (.nilv 3 (by simp (disch := omega) only [wk, tis, Int.reduceNe, Int.reduceEq, Int.reduceLT, Int.reduceLE, Int.reduceAdd, Int.reduceSub, Int.reduceNeg, Int.reduceMul, Int.reduceToNat, Nat.reduceSub, Nat.reduceMul, Nat.reduceLeDiff, Nat.reduceAdd, Nat.reduceLT, Nat.reduceEqDiff, reduceCtorEq, ↓reduceIte, cpoly_len, natsr_len, natsr_at, natsr_snoc, natsr_app, natsr_rows, natsr_nil]) (.refl _ _)) (fun f H => ∃ (i : Nat) (m : List Nat), i ≤ p.length ∧ Lim m ∧ m.length ≤ 2 ^ 40 ∧ nv m = hgt ((pv p).take i) ∧ f 8 = .iv (.int .i64 i) ∧ f 3 = .iv (.sl (lims m)) ∧ f 6 = .iv (.sl (raws p)) ∧ f 7 = .iv (.int .i64 p.length)) (fun f H => (p.length - intAt f 8).toNat) ?_ ?_
  · refine ⟨0, [], by omega, Lim.nil, by simp, by simp [vl, hgt], ?_⟩
    simp (disch := omega) only [wk, tis, Int.reduceNe, Int.reduceEq, Int.reduceLT, Int.reduceLE, Int.reduceAdd, Int.reduceSub, Int.reduceNeg, Int.reduceMul, Int.reduceToNat, Nat.reduceSub, Nat.reduceMul, Nat.reduceLeDiff, Nat.reduceAdd, Nat.reduceLT, Nat.reduceEqDiff, reduceCtorEq, ↓reduceIte, cpoly_len, natsr_len, natsr_at, natsr_snoc, natsr_app, natsr_rows, natsr_nil]
  rintro f H ⟨i, m, hi, hm, hml, hv, hF⟩
  rw [intAt_of hF.1]
  simp (disch := omega) only [wk, tis, Int.reduceNe, Int.reduceEq, Int.reduceLT, Int.reduceLE, Int.reduceAdd, Int.reduceSub, Int.reduceNeg, Int.reduceMul, Int.reduceToNat, Nat.reduceSub, Nat.reduceMul, Nat.reduceLeDiff, Nat.reduceAdd, Nat.reduceLT, Nat.reduceEqDiff, reduceCtorEq, ↓reduceIte, cpoly_len, natsr_len, natsr_at, natsr_snoc, natsr_app, natsr_rows, natsr_nil, hF]
  refine if_by (fun hlt => ?_) (fun hlt => ?_)
  · simp (disch := omega) only [wk, tis, Int.reduceNe, Int.reduceEq, Int.reduceLT, Int.reduceLE, Int.reduceAdd, Int.reduceSub, Int.reduceNeg, Int.reduceMul, Int.reduceToNat, Nat.reduceSub, Nat.reduceMul, Nat.reduceLeDiff, Nat.reduceAdd, Nat.reduceLT, Nat.reduceEqDiff, reduceCtorEq, ↓reduceIte, cpoly_len, natsr_len, natsr_at, natsr_snoc, natsr_app, natsr_rows, natsr_nil, hF]
    have hc := h.get i
    have hcl := hc.1
    refine call_by ((ncmp_ok (p.getD i (false, [])).2 m hc.2 hm (by omega) (by omega))) (by first | rfl | (simp only [tocvs, tocv, hF]; rfl)) (by simp) ?_
    simp (disch := omega) only [wk, tis, Int.reduceNe, Int.reduceEq, Int.reduceLT, Int.reduceLE, Int.reduceAdd, Int.reduceSub, Int.reduceNeg, Int.reduceMul, Int.reduceToNat, Nat.reduceSub, Nat.reduceMul, Nat.reduceLeDiff, Nat.reduceAdd, Nat.reduceLT, Nat.reduceEqDiff, reduceCtorEq, ↓reduceIte, cpoly_len, natsr_len, natsr_at, natsr_snoc, natsr_app, natsr_rows, natsr_nil, hF]
    have hn := hgt_take (q := pv p) (i := i) (by rw [pv_len]; omega)
    rw [cf_pv, iv_abs, ← hv] at hn
    refine if_by (fun hs => ?_) (fun hs => ?_)
    · simp (disch := omega) only [wk, tis, Int.reduceNe, Int.reduceEq, Int.reduceLT, Int.reduceLE, Int.reduceAdd, Int.reduceSub, Int.reduceNeg, Int.reduceMul, Int.reduceToNat, Nat.reduceSub, Nat.reduceMul, Nat.reduceLeDiff, Nat.reduceAdd, Nat.reduceLT, Nat.reduceEqDiff, reduceCtorEq, ↓reduceIte, cpoly_len, natsr_len, natsr_at, natsr_snoc, natsr_app, natsr_rows, natsr_nil, hF]
      have := cmpN_gt.mp hs
      exact ⟨⟨i + 1, _, by omega, hc.2, hcl, by rw [hn]; omega, by omega, rfl⟩, by omega⟩
    · simp (disch := omega) only [wk, tis, Int.reduceNe, Int.reduceEq, Int.reduceLT, Int.reduceLE, Int.reduceAdd, Int.reduceSub, Int.reduceNeg, Int.reduceMul, Int.reduceToNat, Nat.reduceSub, Nat.reduceMul, Nat.reduceLeDiff, Nat.reduceAdd, Nat.reduceLT, Nat.reduceEqDiff, reduceCtorEq, ↓reduceIte, cpoly_len, natsr_len, natsr_at, natsr_snoc, natsr_app, natsr_rows, natsr_nil, hF]
      have : ¬ nv m < nv (p.getD i (false, [])).2 := fun h => hs (cmpN_gt.mpr h)
      exact ⟨⟨i + 1, m, by omega, hm, hml, by rw [hn]; omega, by omega, rfl⟩, by omega⟩
  · simp (disch := omega) only [wk, tis, Int.reduceNe, Int.reduceEq, Int.reduceLT, Int.reduceLE, Int.reduceAdd, Int.reduceSub, Int.reduceNeg, Int.reduceMul, Int.reduceToNat, Nat.reduceSub, Nat.reduceMul, Nat.reduceLeDiff, Nat.reduceAdd, Nat.reduceLT, Nat.reduceEqDiff, reduceCtorEq, ↓reduceIte, cpoly_len, natsr_len, natsr_at, natsr_snoc, natsr_app, natsr_rows, natsr_nil, hF]
    rw [List.take_of_length_le (by rw [pv_len]; omega)] at hv
    have := norm_ok m hm (by omega)
    rw [hv] at this
    refine call_by (this) (by first | rfl | (simp only [tocvs, tocv, hF]; rfl)) (by simp) ?_
    simp (disch := omega) only [wk, tis, Int.reduceNe, Int.reduceEq, Int.reduceLT, Int.reduceLE, Int.reduceAdd, Int.reduceSub, Int.reduceNeg, Int.reduceMul, Int.reduceToNat, Nat.reduceSub, Nat.reduceMul, Nat.reduceLeDiff, Nat.reduceAdd, Nat.reduceLT, Nat.reduceEqDiff, reduceCtorEq, ↓reduceIte, cpoly_len, natsr_len, natsr_at, natsr_snoc, natsr_app, natsr_rows, natsr_nil, hF]

theorem sheight_ok (p : List RI) (h : RP (2 ^ 40) (2 ^ 40) p) : AC Try.prog 51 [cw p] none [cl (wd (hgt (pv p)))] := by
  refine AC.by_walk (rs := [.tmp 2]) ords Try.func51 (by rfl) (by rfl) (by rfl) (by rfl) (by rfl) ?_
  have hl := h.1
  simp (disch := omega) only [wk, tis, Int.reduceNe, Int.reduceEq, Int.reduceLT, Int.reduceLE, Int.reduceAdd, Int.reduceSub, Int.reduceNeg, Int.reduceMul, Int.reduceToNat, Nat.reduceSub, Nat.reduceMul, Nat.reduceLeDiff, Nat.reduceAdd, Nat.reduceLT, Nat.reduceEqDiff, reduceCtorEq, ↓reduceIte, cpoly_len, natsr_len, natsr_at, natsr_snoc, natsr_app, natsr_rows, natsr_nil]
  refine aloop_w (.nilv 3 (by simp (disch := omega) only [wk, tis, Int.reduceNe, Int.reduceEq, Int.reduceLT, Int.reduceLE, Int.reduceAdd, Int.reduceSub, Int.reduceNeg, Int.reduceMul, Int.reduceToNat, Nat.reduceSub, Nat.reduceMul, Nat.reduceLeDiff, Nat.reduceAdd, Nat.reduceLT, Nat.reduceEqDiff, reduceCtorEq, ↓reduceIte, cpoly_len, natsr_len, natsr_at, natsr_snoc, natsr_app, natsr_rows, natsr_nil]) (.refl _ _)) (fun f H => ∃ (i : Nat), i ≤ p.length ∧ (wd (hgt ((pv p).take i))).length ≤ 2 ^ 40 ∧ f 4 = .iv (.int .i64 i) ∧ f 0 = .iv (.sl (raws p)) ∧ f 3 = .iv (.sl (lims (wd (hgt ((pv p).take i)))))) (fun f H => (p.length - intAt f 4).toNat) ?_ ?_
  · refine ⟨0, by omega, by simp [hgt, wd_zero], ?_⟩
    simp (disch := omega) only [wk, tis, Int.reduceNe, Int.reduceEq, Int.reduceLT, Int.reduceLE, Int.reduceAdd, Int.reduceSub, Int.reduceNeg, Int.reduceMul, Int.reduceToNat, Nat.reduceSub, Nat.reduceMul, Nat.reduceLeDiff, Nat.reduceAdd, Nat.reduceLT, Nat.reduceEqDiff, reduceCtorEq, ↓reduceIte, cpoly_len, natsr_len, natsr_at, natsr_snoc, natsr_app, natsr_rows, natsr_nil, List.take_zero, hgt, List.foldl_nil, wd_zero]
  rintro f H ⟨i, hi, hw, hF⟩
  rw [intAt_of hF.1]
  simp (disch := omega) only [wk, tis, Int.reduceNe, Int.reduceEq, Int.reduceLT, Int.reduceLE, Int.reduceAdd, Int.reduceSub, Int.reduceNeg, Int.reduceMul, Int.reduceToNat, Nat.reduceSub, Nat.reduceMul, Nat.reduceLeDiff, Nat.reduceAdd, Nat.reduceLT, Nat.reduceEqDiff, reduceCtorEq, ↓reduceIte, cpoly_len, natsr_len, natsr_at, natsr_snoc, natsr_app, natsr_rows, natsr_nil, hF]
  refine if_by (fun hlt => ?_) (fun hlt => ?_)
  · simp (disch := omega) only [wk, tis, Int.reduceNe, Int.reduceEq, Int.reduceLT, Int.reduceLE, Int.reduceAdd, Int.reduceSub, Int.reduceNeg, Int.reduceMul, Int.reduceToNat, Nat.reduceSub, Nat.reduceMul, Nat.reduceLeDiff, Nat.reduceAdd, Nat.reduceLT, Nat.reduceEqDiff, reduceCtorEq, ↓reduceIte, cpoly_len, natsr_len, natsr_at, natsr_snoc, natsr_app, natsr_rows, natsr_nil, hF]
    have hc := h.get i
    have hcl := hc.1
    have c := rcmp_ok (p.getD i (false, [])).2 (wd (hgt ((pv p).take i))) hc.2 (lim_wd _) (by omega) hw
    rw [nv_wd] at c
    refine call_by (c) (by first | rfl | (simp only [tocvs, tocv, hF]; rfl)) (by simp) ?_
    simp (disch := omega) only [wk, tis, Int.reduceNe, Int.reduceEq, Int.reduceLT, Int.reduceLE, Int.reduceAdd, Int.reduceSub, Int.reduceNeg, Int.reduceMul, Int.reduceToNat, Nat.reduceSub, Nat.reduceMul, Nat.reduceLeDiff, Nat.reduceAdd, Nat.reduceLT, Nat.reduceEqDiff, reduceCtorEq, ↓reduceIte, cpoly_len, natsr_len, natsr_at, natsr_snoc, natsr_app, natsr_rows, natsr_nil, hF]
    have hn := hgt_take (q := pv p) (i := i) (by rw [pv_len]; omega)
    rw [cf_pv, iv_abs] at hn
    refine if_by (fun hs => ?_) (fun hs => ?_)
    · simp (disch := omega) only [wk, tis, Int.reduceNe, Int.reduceEq, Int.reduceLT, Int.reduceLE, Int.reduceAdd, Int.reduceSub, Int.reduceNeg, Int.reduceMul, Int.reduceToNat, Nat.reduceSub, Nat.reduceMul, Nat.reduceLeDiff, Nat.reduceAdd, Nat.reduceLT, Nat.reduceEqDiff, reduceCtorEq, ↓reduceIte, cpoly_len, natsr_len, natsr_at, natsr_snoc, natsr_app, natsr_rows, natsr_nil, hF]
      have hgt' := cmpN_gt.mp hs
      refine call_by ((rnorm_ok (p.getD i (false, [])).2 hc.2 (by omega))) (by first | rfl | (simp only [tocvs, tocv, hF]; rfl)) (by simp) ?_
      simp (disch := omega) only [wk, tis, Int.reduceNe, Int.reduceEq, Int.reduceLT, Int.reduceLE, Int.reduceAdd, Int.reduceSub, Int.reduceNeg, Int.reduceMul, Int.reduceToNat, Nat.reduceSub, Nat.reduceMul, Nat.reduceLeDiff, Nat.reduceAdd, Nat.reduceLT, Nat.reduceEqDiff, reduceCtorEq, ↓reduceIte, cpoly_len, natsr_len, natsr_at, natsr_snoc, natsr_app, natsr_rows, natsr_nil, hF]
      have e : nv (p.getD i (false, [])).2 = hgt ((pv p).take (i + 1)) := by omega
      have l2 := nv_len hc.2
      rw [e] at l2 ⊢
      exact ⟨⟨i + 1, by omega, by omega, by omega, rfl⟩, by omega⟩
    · simp (disch := omega) only [wk, tis, Int.reduceNe, Int.reduceEq, Int.reduceLT, Int.reduceLE, Int.reduceAdd, Int.reduceSub, Int.reduceNeg, Int.reduceMul, Int.reduceToNat, Nat.reduceSub, Nat.reduceMul, Nat.reduceLeDiff, Nat.reduceAdd, Nat.reduceLT, Nat.reduceEqDiff, reduceCtorEq, ↓reduceIte, cpoly_len, natsr_len, natsr_at, natsr_snoc, natsr_app, natsr_rows, natsr_nil, hF]
      have : ¬ hgt ((pv p).take i) < nv (p.getD i (false, [])).2 := fun h => hs (cmpN_gt.mpr h)
      have e : hgt ((pv p).take (i + 1)) = hgt ((pv p).take i) := by omega
      exact ⟨⟨i + 1, by omega, by rw [e]; exact hw, by rw [e]; exact ⟨by omega, rfl⟩⟩, by omega⟩
  · simp (disch := omega) only [wk, tis, Int.reduceNe, Int.reduceEq, Int.reduceLT, Int.reduceLE, Int.reduceAdd, Int.reduceSub, Int.reduceNeg, Int.reduceMul, Int.reduceToNat, Nat.reduceSub, Nat.reduceMul, Nat.reduceLeDiff, Nat.reduceAdd, Nat.reduceLT, Nat.reduceEqDiff, reduceCtorEq, ↓reduceIte, cpoly_len, natsr_len, natsr_at, natsr_snoc, natsr_app, natsr_rows, natsr_nil, hF]
    rw [List.take_of_length_le (by rw [pv_len]; omega)]

end Go.Proofs.Ythgecppfgdadiaa
