/-
  Contracts of the functions that the law reaches.
-/
import Derived.Test.YthgecppfgdadiaaL36M
import Derived.Test.YthgecppfgdadiaaL12M
import Derived.Test.YthgecppfgdadiaaTyA
import Derived.Test.YthgecppfgdadiaaL1M
import Derived.RangeFuncBox
import Derived.OwnWalkIn
import Derived.TacticsInMore
import Derived.LoopNIn
import Derived.LoopIn
namespace Go.Proofs.Ythgecppfgdadiaa
open Go Go.Proofs Go.AL
set_option linter.unusedSimpArgs false
set_option linter.unusedVariables false

theorem topW_lt {x y i : Nat} (h : x / W ^ (i + 1) = y / W ^ (i + 1)) (hd : x / W ^ i % W < y / W ^ i % W) : x < y := by
  have e : ∀ z : Nat, z / W ^ i = W * (z / W ^ (i + 1)) + z / W ^ i % W := fun z => by
    rw [Nat.pow_succ, ← Nat.div_div_eq_div_mul]; exact (Nat.div_add_mod _ _).symm
  have h1 := e x
  have h2 := e y
  rw [h] at h1
  rcases Nat.lt_or_ge x y with h3 | h3
  · exact h3
  · have := Nat.div_le_div_right (c := W ^ i) h3
    omega

theorem word_at {l : List Nat} (h : Lim l) (k : Nat) : l.getD k 0 = nv l / W ^ k % W := by
  have h1 := vl_take_next W l k
  have e1 := nv_take h (k + 1)
  have e2 := nv_take h k
  simp only [nv] at *
  rw [e1, e2, Nat.mod_pow_succ] at h1
  exact (Nat.eq_of_mul_eq_mul_left (W_pow_pos k) (Nat.add_left_cancel h1)).symm

theorem lcmp_ok (a b : List Nat) (ha : Lim a) (hb : Lim b) (hla : a.length ≤ 2 ^ 42) (hlb : b.length ≤ 2 ^ 42) : AC Try.prog 142 [cl a, cl b] none [ci (cmpN (nv a) (nv b))] := by
  refine AC.by_walk (rs := [.tmp 4]) ords Try.func142 (by rfl) (by rfl) (by rfl) (by rfl) (by rfl) ?_
  generalize hn : max a.length b.length = n at *
  have hnI : max (a.length : Int) (b.length : Int) = (n : Int) := by omega
  have h0 : nv a / W ^ n = nv b / W ^ n := by
    have hA := nv_lt ha
    have hB := nv_lt hb
    have hA2 : W ^ a.length ≤ W ^ n := Nat.pow_le_pow_right (by decide) (by omega)
    have hB2 : W ^ b.length ≤ W ^ n := Nat.pow_le_pow_right (by decide) (by omega)
    rw [Nat.div_eq_of_lt (by omega), Nat.div_eq_of_lt (by omega)]
  simp (disch := omega) only [wk, tis, Int.reduceNe, Int.reduceEq, Int.reduceLT, Int.reduceLE, Int.reduceAdd, Int.reduceSub, Int.reduceNeg, Int.reduceMul, Int.reduceToNat, Nat.reduceSub, Nat.reduceMul, Nat.reduceLeDiff, Nat.reduceAdd, Nat.reduceLT, Nat.reduceEqDiff, reduceCtorEq, ↓reduceIte, cpoly_len, natsr_len, natsr_at, natsr_snoc, natsr_app, natsr_rows, natsr_nil, hnI]
  refine aloop_by (fun f H => ∃ (i : Nat), i ≤ n ∧ nv a / W ^ i = nv b / W ^ i ∧ f 6 = .iv (.int .i64 ((i : Int) - 1)) ∧ f 0 = .iv (.sl (lims a)) ∧ f 1 = .iv (.sl (lims b))) (fun f H => (intAt f 6 + 1).toNat) ?_ ?_
  · refine ⟨n, by omega, h0, ?_⟩
    simp (disch := omega) only [wk, tis, Int.reduceNe, Int.reduceEq, Int.reduceLT, Int.reduceLE, Int.reduceAdd, Int.reduceSub, Int.reduceNeg, Int.reduceMul, Int.reduceToNat, Nat.reduceSub, Nat.reduceMul, Nat.reduceLeDiff, Nat.reduceAdd, Nat.reduceLT, Nat.reduceEqDiff, reduceCtorEq, ↓reduceIte, cpoly_len, natsr_len, natsr_at, natsr_snoc, natsr_app, natsr_rows, natsr_nil]
  rintro f H ⟨i, hi, hv, hF⟩
  rw [intAt_of hF.1]
  simp (disch := omega) only [wk, tis, Int.reduceNe, Int.reduceEq, Int.reduceLT, Int.reduceLE, Int.reduceAdd, Int.reduceSub, Int.reduceNeg, Int.reduceMul, Int.reduceToNat, Nat.reduceSub, Nat.reduceMul, Nat.reduceLeDiff, Nat.reduceAdd, Nat.reduceLT, Nat.reduceEqDiff, reduceCtorEq, ↓reduceIte, cpoly_len, natsr_len, natsr_at, natsr_snoc, natsr_app, natsr_rows, natsr_nil, hF]
  refine if_by (fun hlt => ?_) (fun hlt => ?_)
  · obtain ⟨j, rfl⟩ : ∃ j, i = j + 1 := ⟨i - 1, by omega⟩
    have ej : ((j + 1 : Nat) : Int) - 1 = (j : Int) := by omega
    have hx := word_at ha j
    have hy := word_at hb j
    rw [ej] at hF
    simp (disch := omega) only [wk, tis, Int.reduceNe, Int.reduceEq, Int.reduceLT, Int.reduceLE, Int.reduceAdd, Int.reduceSub, Int.reduceNeg, Int.reduceMul, Int.reduceToNat, Nat.reduceSub, Nat.reduceMul, Nat.reduceLeDiff, Nat.reduceAdd, Nat.reduceLT, Nat.reduceEqDiff, reduceCtorEq, ↓reduceIte, cpoly_len, natsr_len, natsr_at, natsr_snoc, natsr_app, natsr_rows, natsr_nil, hF]
    refine call_by ((at_ok a j (by omega))) (by first | rfl | (simp only [tocvs, tocv, hF]; rfl) | (simp only [tocvs, tocv, toboxes, tobox, updH_at, Nat.reduceEqDiff, ↓reduceIte, hF]; rfl)) (by simp) ?_
    simp (disch := omega) only [wk, tis, Int.reduceNe, Int.reduceEq, Int.reduceLT, Int.reduceLE, Int.reduceAdd, Int.reduceSub, Int.reduceNeg, Int.reduceMul, Int.reduceToNat, Nat.reduceSub, Nat.reduceMul, Nat.reduceLeDiff, Nat.reduceAdd, Nat.reduceLT, Nat.reduceEqDiff, reduceCtorEq, ↓reduceIte, cpoly_len, natsr_len, natsr_at, natsr_snoc, natsr_app, natsr_rows, natsr_nil, hF]
    refine call_by ((at_ok b j (by omega))) (by first | rfl | (simp only [tocvs, tocv, hF]; rfl) | (simp only [tocvs, tocv, toboxes, tobox, updH_at, Nat.reduceEqDiff, ↓reduceIte, hF]; rfl)) (by simp) ?_
    simp (disch := omega) only [wk, tis, Int.reduceNe, Int.reduceEq, Int.reduceLT, Int.reduceLE, Int.reduceAdd, Int.reduceSub, Int.reduceNeg, Int.reduceMul, Int.reduceToNat, Nat.reduceSub, Nat.reduceMul, Nat.reduceLeDiff, Nat.reduceAdd, Nat.reduceLT, Nat.reduceEqDiff, reduceCtorEq, ↓reduceIte, cpoly_len, natsr_len, natsr_at, natsr_snoc, natsr_app, natsr_rows, natsr_nil, hF]
    refine if_by (fun h1 => ?_) (fun h1 => ?_)
    · simp (disch := omega) only [wk, tis, Int.reduceNe, Int.reduceEq, Int.reduceLT, Int.reduceLE, Int.reduceAdd, Int.reduceSub, Int.reduceNeg, Int.reduceMul, Int.reduceToNat, Nat.reduceSub, Nat.reduceMul, Nat.reduceLeDiff, Nat.reduceAdd, Nat.reduceLT, Nat.reduceEqDiff, reduceCtorEq, ↓reduceIte, cpoly_len, natsr_len, natsr_at, natsr_snoc, natsr_app, natsr_rows, natsr_nil, hF]
      refine ⟨⟨j, by omega, ?_, rfl⟩, by omega⟩
      have e : ∀ z : Nat, z / W ^ j = W * (z / W ^ (j + 1)) + z / W ^ j % W := fun z => by
        rw [Nat.pow_succ, ← Nat.div_div_eq_div_mul]; exact (Nat.div_add_mod _ _).symm
      rw [e (nv a), e (nv b), hv]
      omega
    simp (disch := omega) only [wk, tis, Int.reduceNe, Int.reduceEq, Int.reduceLT, Int.reduceLE, Int.reduceAdd, Int.reduceSub, Int.reduceNeg, Int.reduceMul, Int.reduceToNat, Nat.reduceSub, Nat.reduceMul, Nat.reduceLeDiff, Nat.reduceAdd, Nat.reduceLT, Nat.reduceEqDiff, reduceCtorEq, ↓reduceIte, cpoly_len, natsr_len, natsr_at, natsr_snoc, natsr_app, natsr_rows, natsr_nil, hF]
    refine if_by (fun h2 => ?_) (fun h2 => ?_)
    · simp (disch := omega) only [wk, tis, Int.reduceNe, Int.reduceEq, Int.reduceLT, Int.reduceLE, Int.reduceAdd, Int.reduceSub, Int.reduceNeg, Int.reduceMul, Int.reduceToNat, Nat.reduceSub, Nat.reduceMul, Nat.reduceLeDiff, Nat.reduceAdd, Nat.reduceLT, Nat.reduceEqDiff, reduceCtorEq, ↓reduceIte, cpoly_len, natsr_len, natsr_at, natsr_snoc, natsr_app, natsr_rows, natsr_nil, hF]
      have : nv a < nv b := topW_lt hv (by omega)
      rw [cmpN, if_pos this]
    simp (disch := omega) only [wk, tis, Int.reduceNe, Int.reduceEq, Int.reduceLT, Int.reduceLE, Int.reduceAdd, Int.reduceSub, Int.reduceNeg, Int.reduceMul, Int.reduceToNat, Nat.reduceSub, Nat.reduceMul, Nat.reduceLeDiff, Nat.reduceAdd, Nat.reduceLT, Nat.reduceEqDiff, reduceCtorEq, ↓reduceIte, cpoly_len, natsr_len, natsr_at, natsr_snoc, natsr_app, natsr_rows, natsr_nil, hF]
    have : nv b < nv a := topW_lt hv.symm (by omega)
    rw [cmpN, if_neg (by omega), if_pos this]
  · simp (disch := omega) only [wk, tis, Int.reduceNe, Int.reduceEq, Int.reduceLT, Int.reduceLE, Int.reduceAdd, Int.reduceSub, Int.reduceNeg, Int.reduceMul, Int.reduceToNat, Nat.reduceSub, Nat.reduceMul, Nat.reduceLeDiff, Nat.reduceAdd, Nat.reduceLT, Nat.reduceEqDiff, reduceCtorEq, ↓reduceIte, cpoly_len, natsr_len, natsr_at, natsr_snoc, natsr_app, natsr_rows, natsr_nil, hF]
    have : i = 0 := by omega
    subst this
    simp at hv
    rw [hv, cmpN]; simp

theorem ncmp_ok (a b : List Nat) (ha : Lim a) (hb : Lim b) (hla : a.length ≤ 2 ^ 42) (hlb : b.length ≤ 2 ^ 42) : AC Try.prog 109 [cl a, cl b] none [ci (cmpN (nv a) (nv b))] := by
  refine AC.by_walk (rs := [.tmp 4]) ords Try.func109 (by rfl) (by rfl) (by rfl) (by rfl) (by rfl) ?_
  simp (disch := omega) only [wk, tis, Int.reduceNe, Int.reduceEq, Int.reduceLT, Int.reduceLE, Int.reduceAdd, Int.reduceSub, Int.reduceNeg, Int.reduceMul, Int.reduceToNat, Nat.reduceSub, Nat.reduceMul, Nat.reduceLeDiff, Nat.reduceAdd, Nat.reduceLT, Nat.reduceEqDiff, reduceCtorEq, ↓reduceIte, cpoly_len, natsr_len, natsr_at, natsr_snoc, natsr_app, natsr_rows, natsr_nil]
  refine call_by ((lcmp_ok a b ha hb hla hlb)) (by rfl) (by simp) ?_
  simp (disch := omega) only [wk, tis, Int.reduceNe, Int.reduceEq, Int.reduceLT, Int.reduceLE, Int.reduceAdd, Int.reduceSub, Int.reduceNeg, Int.reduceMul, Int.reduceToNat, Nat.reduceSub, Nat.reduceMul, Nat.reduceLeDiff, Nat.reduceAdd, Nat.reduceLT, Nat.reduceEqDiff, reduceCtorEq, ↓reduceIte, cpoly_len, natsr_len, natsr_at, natsr_snoc, natsr_app, natsr_rows, natsr_nil]

theorem zcmp_ok (a b : RI) (ha : Sz (2 ^ 40) a) (hb : Sz (2 ^ 40) b) : AC Try.prog 107 [cr a, cr b] none [ci (cmpZ (iv a) (iv b))] := by
  refine AC.by_walk (rs := [.tmp 4]) ords Try.func107 (by rfl) (by rfl) (by rfl) (by rfl) (by rfl) ?_
  have hla := ha.1
  have hlb := hb.1
  have sa := Int.sign_mul_natAbs (iv a)
  have sb := Int.sign_mul_natAbs (iv b)
  have na := iv_abs a
  have nb := iv_abs b
  have ca : (iv a).sign = -1 ∧ iv a < 0 ∨ (iv a).sign = 0 ∧ iv a = 0 ∨ (iv a).sign = 1 ∧ 0 < iv a := by
    rcases Int.lt_trichotomy (iv a) 0 with h | h | h
    · exact .inl ⟨Int.sign_eq_neg_one_of_neg h, h⟩
    · exact .inr (.inl ⟨by rw [h]; rfl, h⟩)
    · exact .inr (.inr ⟨Int.sign_eq_one_of_pos h, h⟩)
  have cb' : (iv b).sign = -1 ∧ iv b < 0 ∨ (iv b).sign = 0 ∧ iv b = 0 ∨ (iv b).sign = 1 ∧ 0 < iv b := by
    rcases Int.lt_trichotomy (iv b) 0 with h | h | h
    · exact .inl ⟨Int.sign_eq_neg_one_of_neg h, h⟩
    · exact .inr (.inl ⟨by rw [h]; rfl, h⟩)
    · exact .inr (.inr ⟨Int.sign_eq_one_of_pos h, h⟩)
  simp (disch := omega) only [wk, tis, Int.reduceNe, Int.reduceEq, Int.reduceLT, Int.reduceLE, Int.reduceAdd, Int.reduceSub, Int.reduceNeg, Int.reduceMul, Int.reduceToNat, Nat.reduceSub, Nat.reduceMul, Nat.reduceLeDiff, Nat.reduceAdd, Nat.reduceLT, Nat.reduceEqDiff, reduceCtorEq, ↓reduceIte, cpoly_len, natsr_len, natsr_at, natsr_snoc, natsr_app, natsr_rows, natsr_nil]
  refine ⟨tmps_by (by kernel_rfl), ?_⟩
  refine call_by ((zsign_ok a ha)) (by rfl) (by simp) ?_
  simp (disch := omega) only [wk, tis, Int.reduceNe, Int.reduceEq, Int.reduceLT, Int.reduceLE, Int.reduceAdd, Int.reduceSub, Int.reduceNeg, Int.reduceMul, Int.reduceToNat, Nat.reduceSub, Nat.reduceMul, Nat.reduceLeDiff, Nat.reduceAdd, Nat.reduceLT, Nat.reduceEqDiff, reduceCtorEq, ↓reduceIte, cpoly_len, natsr_len, natsr_at, natsr_snoc, natsr_app, natsr_rows, natsr_nil]
  refine call_by ((zsign_ok b hb)) (by rfl) (by simp) ?_
  simp (disch := omega) only [wk, tis, Int.reduceNe, Int.reduceEq, Int.reduceLT, Int.reduceLE, Int.reduceAdd, Int.reduceSub, Int.reduceNeg, Int.reduceMul, Int.reduceToNat, Nat.reduceSub, Nat.reduceMul, Nat.reduceLeDiff, Nat.reduceAdd, Nat.reduceLT, Nat.reduceEqDiff, reduceCtorEq, ↓reduceIte, cpoly_len, natsr_len, natsr_at, natsr_snoc, natsr_app, natsr_rows, natsr_nil]
  first | exact log_by (by kernel_rfl) | refine ⟨log_by (by kernel_rfl), ?_⟩
  refine if_by (fun h1 => ?_) (fun h1 => ?_)
  · simp (disch := omega) only [wk, tis, Int.reduceNe, Int.reduceEq, Int.reduceLT, Int.reduceLE, Int.reduceAdd, Int.reduceSub, Int.reduceNeg, Int.reduceMul, Int.reduceToNat, Nat.reduceSub, Nat.reduceMul, Nat.reduceLeDiff, Nat.reduceAdd, Nat.reduceLT, Nat.reduceEqDiff, reduceCtorEq, ↓reduceIte, cpoly_len, natsr_len, natsr_at, natsr_snoc, natsr_app, natsr_rows, natsr_nil]
    rw [cmpZ, if_pos (by omega)]
  simp (disch := omega) only [wk, tis, Int.reduceNe, Int.reduceEq, Int.reduceLT, Int.reduceLE, Int.reduceAdd, Int.reduceSub, Int.reduceNeg, Int.reduceMul, Int.reduceToNat, Nat.reduceSub, Nat.reduceMul, Nat.reduceLeDiff, Nat.reduceAdd, Nat.reduceLT, Nat.reduceEqDiff, reduceCtorEq, ↓reduceIte, cpoly_len, natsr_len, natsr_at, natsr_snoc, natsr_app, natsr_rows, natsr_nil]
  refine if_by (fun h2 => ?_) (fun h2 => ?_)
  · simp (disch := omega) only [wk, tis, Int.reduceNe, Int.reduceEq, Int.reduceLT, Int.reduceLE, Int.reduceAdd, Int.reduceSub, Int.reduceNeg, Int.reduceMul, Int.reduceToNat, Nat.reduceSub, Nat.reduceMul, Nat.reduceLeDiff, Nat.reduceAdd, Nat.reduceLT, Nat.reduceEqDiff, reduceCtorEq, ↓reduceIte, cpoly_len, natsr_len, natsr_at, natsr_snoc, natsr_app, natsr_rows, natsr_nil]
    rw [cmpZ, if_neg (by omega), if_pos (by omega)]
  simp (disch := omega) only [wk, tis, Int.reduceNe, Int.reduceEq, Int.reduceLT, Int.reduceLE, Int.reduceAdd, Int.reduceSub, Int.reduceNeg, Int.reduceMul, Int.reduceToNat, Nat.reduceSub, Nat.reduceMul, Nat.reduceLeDiff, Nat.reduceAdd, Nat.reduceLT, Nat.reduceEqDiff, reduceCtorEq, ↓reduceIte, cpoly_len, natsr_len, natsr_at, natsr_snoc, natsr_app, natsr_rows, natsr_nil]
  refine call_by ((ncmp_ok a.2 b.2 ha.2 hb.2 (by omega) (by omega))) (by rfl) (by simp) ?_
  simp (disch := omega) only [wk, tis, Int.reduceNe, Int.reduceEq, Int.reduceLT, Int.reduceLE, Int.reduceAdd, Int.reduceSub, Int.reduceNeg, Int.reduceMul, Int.reduceToNat, Nat.reduceSub, Nat.reduceMul, Nat.reduceLeDiff, Nat.reduceAdd, Nat.reduceLT, Nat.reduceEqDiff, reduceCtorEq, ↓reduceIte, cpoly_len, natsr_len, natsr_at, natsr_snoc, natsr_app, natsr_rows, natsr_nil]
  have e : (iv a).sign * cmpN (nv a.2) (nv b.2) = cmpZ (iv a) (iv b) := by
    have hs : (iv a).sign = (iv b).sign := by omega
    rcases ca with ⟨h, h'⟩ | ⟨h, h'⟩ | ⟨h, h'⟩ <;> rw [h]
    · unfold cmpN cmpZ; rw [← na, ← nb]; split <;> split <;> (try split) <;> (try split) <;> omega
    · unfold cmpZ; rw [if_neg (by omega), if_neg (by omega)]; simp
    · unfold cmpN cmpZ; rw [← na, ← nb]; split <;> split <;> (try split) <;> (try split) <;> omega
  rw [e]
  have hb3 : -1 ≤ cmpZ (iv a) (iv b) ∧ cmpZ (iv a) (iv b) ≤ 1 := by unfold cmpZ; split <;> (try split) <;> omega
  simp (disch := omega) only [wk, tis, Int.reduceNe, Int.reduceEq, Int.reduceLT, Int.reduceLE, Int.reduceAdd, Int.reduceSub, Int.reduceNeg, Int.reduceMul, Int.reduceToNat, Nat.reduceSub, Nat.reduceMul, Nat.reduceLeDiff, Nat.reduceAdd, Nat.reduceLT, Nat.reduceEqDiff, reduceCtorEq, ↓reduceIte, cpoly_len, natsr_len, natsr_at, natsr_snoc, natsr_app, natsr_rows, natsr_nil]

theorem cmpZ_zero {x y : Int} : cmpZ x y = 0 ↔ x = y := by unfold cmpZ; split <;> (try split) <;> omega

theorem peq_ok (a b : List RI) (ha : RP (2 ^ 40) (2 ^ 40) a) (hb : RP (2 ^ 40) (2 ^ 40) b) : AC Try.prog 47 [cw a, cw b] none [cb (decide (trimz (pv a) = trimz (pv b)))] := by
  refine AC.by_walk (rs := [.tmp 4]) ords Try.func47 (by rfl) (by rfl) (by rfl) (by rfl) (by rfl) ?_
  have hla := ha.1
  have hlb := hb.1
  generalize hn : max a.length b.length = n at *
  have hnI : max (a.length : Int) (b.length : Int) = (n : Int) := by omega
  simp (disch := omega) only [wk, tis, Int.reduceNe, Int.reduceEq, Int.reduceLT, Int.reduceLE, Int.reduceAdd, Int.reduceSub, Int.reduceNeg, Int.reduceMul, Int.reduceToNat, Nat.reduceSub, Nat.reduceMul, Nat.reduceLeDiff, Nat.reduceAdd, Nat.reduceLT, Nat.reduceEqDiff, reduceCtorEq, ↓reduceIte, cpoly_len, natsr_len, natsr_at, natsr_snoc, natsr_app, natsr_rows, natsr_nil, hnI]
  refine aloop_by (fun f H => ∃ (i : Nat), i ≤ n ∧ (∀ j, j < i → cf (pv a) j = cf (pv b) j) ∧ f 11 = .iv (.int .i64 i) ∧ f 0 = .iv (.sl (raws a)) ∧ f 1 = .iv (.sl (raws b)) ∧ f 10 = .iv (.int .i64 n)) (fun f H => (n - intAt f 11).toNat) ?_ ?_
  · refine ⟨0, by omega, fun j hj => by omega, ?_⟩
    simp (disch := omega) only [wk, tis, Int.reduceNe, Int.reduceEq, Int.reduceLT, Int.reduceLE, Int.reduceAdd, Int.reduceSub, Int.reduceNeg, Int.reduceMul, Int.reduceToNat, Nat.reduceSub, Nat.reduceMul, Nat.reduceLeDiff, Nat.reduceAdd, Nat.reduceLT, Nat.reduceEqDiff, reduceCtorEq, ↓reduceIte, cpoly_len, natsr_len, natsr_at, natsr_snoc, natsr_app, natsr_rows, natsr_nil]
  rintro f H ⟨i, hi, hz, hF⟩
  rw [intAt_of hF.1]
  simp (disch := omega) only [wk, tis, Int.reduceNe, Int.reduceEq, Int.reduceLT, Int.reduceLE, Int.reduceAdd, Int.reduceSub, Int.reduceNeg, Int.reduceMul, Int.reduceToNat, Nat.reduceSub, Nat.reduceMul, Nat.reduceLeDiff, Nat.reduceAdd, Nat.reduceLT, Nat.reduceEqDiff, reduceCtorEq, ↓reduceIte, cpoly_len, natsr_len, natsr_at, natsr_snoc, natsr_app, natsr_rows, natsr_nil, hF]
  refine if_by (fun hlt => ?_) (fun hlt => ?_)
  · simp (disch := omega) only [wk, tis, Int.reduceNe, Int.reduceEq, Int.reduceLT, Int.reduceLE, Int.reduceAdd, Int.reduceSub, Int.reduceNeg, Int.reduceMul, Int.reduceToNat, Nat.reduceSub, Nat.reduceMul, Nat.reduceLeDiff, Nat.reduceAdd, Nat.reduceLT, Nat.reduceEqDiff, reduceCtorEq, ↓reduceIte, cpoly_len, natsr_len, natsr_at, natsr_snoc, natsr_app, natsr_rows, natsr_nil, hF]
    refine call_by ((pat_ok a i (by omega) (by omega))) (by first | rfl | (simp only [tocvs, tocv, hF]; rfl) | (simp only [tocvs, tocv, toboxes, tobox, updH_at, Nat.reduceEqDiff, ↓reduceIte, hF]; rfl)) (by simp) ?_
    simp (disch := omega) only [wk, tis, Int.reduceNe, Int.reduceEq, Int.reduceLT, Int.reduceLE, Int.reduceAdd, Int.reduceSub, Int.reduceNeg, Int.reduceMul, Int.reduceToNat, Nat.reduceSub, Nat.reduceMul, Nat.reduceLeDiff, Nat.reduceAdd, Nat.reduceLT, Nat.reduceEqDiff, reduceCtorEq, ↓reduceIte, cpoly_len, natsr_len, natsr_at, natsr_snoc, natsr_app, natsr_rows, natsr_nil, hF]
    refine call_by ((pat_ok b i (by omega) (by omega))) (by first | rfl | (simp only [tocvs, tocv, hF]; rfl) | (simp only [tocvs, tocv, toboxes, tobox, updH_at, Nat.reduceEqDiff, ↓reduceIte, hF]; rfl)) (by simp) ?_
    simp (disch := omega) only [wk, tis, Int.reduceNe, Int.reduceEq, Int.reduceLT, Int.reduceLE, Int.reduceAdd, Int.reduceSub, Int.reduceNeg, Int.reduceMul, Int.reduceToNat, Nat.reduceSub, Nat.reduceMul, Nat.reduceLeDiff, Nat.reduceAdd, Nat.reduceLT, Nat.reduceEqDiff, reduceCtorEq, ↓reduceIte, cpoly_len, natsr_len, natsr_at, natsr_snoc, natsr_app, natsr_rows, natsr_nil, hF]
    refine call_by ((zcmp_ok (a.getD i (false, [])) (b.getD i (false, [])) (ha.get i) (hb.get i))) (by first | rfl | (simp only [tocvs, tocv, hF]; rfl) | (simp only [tocvs, tocv, toboxes, tobox, updH_at, Nat.reduceEqDiff, ↓reduceIte, hF]; rfl)) (by simp) ?_
    simp (disch := omega) only [wk, tis, Int.reduceNe, Int.reduceEq, Int.reduceLT, Int.reduceLE, Int.reduceAdd, Int.reduceSub, Int.reduceNeg, Int.reduceMul, Int.reduceToNat, Nat.reduceSub, Nat.reduceMul, Nat.reduceLeDiff, Nat.reduceAdd, Nat.reduceLT, Nat.reduceEqDiff, reduceCtorEq, ↓reduceIte, cpoly_len, natsr_len, natsr_at, natsr_snoc, natsr_app, natsr_rows, natsr_nil, hF]
    rw [← cf_pv, ← cf_pv]
    refine if_by (fun hs => ?_) (fun hs => ?_)
    · simp (disch := omega) only [wk, tis, Int.reduceNe, Int.reduceEq, Int.reduceLT, Int.reduceLE, Int.reduceAdd, Int.reduceSub, Int.reduceNeg, Int.reduceMul, Int.reduceToNat, Nat.reduceSub, Nat.reduceMul, Nat.reduceLeDiff, Nat.reduceAdd, Nat.reduceLT, Nat.reduceEqDiff, reduceCtorEq, ↓reduceIte, cpoly_len, natsr_len, natsr_at, natsr_snoc, natsr_app, natsr_rows, natsr_nil, hF]
      rw [decide_eq_false]
      intro e
      exact hs (cmpZ_zero.mpr (trimz_eq_iff.mp e i))
    · simp (disch := omega) only [wk, tis, Int.reduceNe, Int.reduceEq, Int.reduceLT, Int.reduceLE, Int.reduceAdd, Int.reduceSub, Int.reduceNeg, Int.reduceMul, Int.reduceToNat, Nat.reduceSub, Nat.reduceMul, Nat.reduceLeDiff, Nat.reduceAdd, Nat.reduceLT, Nat.reduceEqDiff, reduceCtorEq, ↓reduceIte, cpoly_len, natsr_len, natsr_at, natsr_snoc, natsr_app, natsr_rows, natsr_nil, hF]
      have hs := cmpZ_zero.mp (Decidable.not_not.mp hs)
      refine ⟨⟨i + 1, by omega, fun j hj => ?_, by omega⟩, by omega⟩
      by_cases e : j = i
      · rw [e]; exact hs
      · exact hz j (by omega)
  · simp (disch := omega) only [wk, tis, Int.reduceNe, Int.reduceEq, Int.reduceLT, Int.reduceLE, Int.reduceAdd, Int.reduceSub, Int.reduceNeg, Int.reduceMul, Int.reduceToNat, Nat.reduceSub, Nat.reduceMul, Nat.reduceLeDiff, Nat.reduceAdd, Nat.reduceLT, Nat.reduceEqDiff, reduceCtorEq, ↓reduceIte, cpoly_len, natsr_len, natsr_at, natsr_snoc, natsr_app, natsr_rows, natsr_nil, hF]
    rw [decide_eq_true]
    refine trimz_ext fun k => ?_
    by_cases hk : k < n
    · exact hz k (by omega)
    · rw [cf_ge (by rw [pv_len]; omega), cf_ge (by rw [pv_len]; omega)]

theorem seq_ok (a b : List RI) (ha : RP (2 ^ 40) (2 ^ 40) a) (hb : RP (2 ^ 40) (2 ^ 40) b) : AC Try.prog 48 [cw a, cw b] none [cb (decide (trimz (pv a) = trimz (pv b)))] := by
  refine AC.by_walk (rs := [.tmp 4]) ords Try.func48 (by rfl) (by rfl) (by rfl) (by rfl) (by rfl) ?_
  simp (disch := omega) only [wk, tis, Int.reduceNe, Int.reduceEq, Int.reduceLT, Int.reduceLE, Int.reduceAdd, Int.reduceSub, Int.reduceNeg, Int.reduceMul, Int.reduceToNat, Nat.reduceSub, Nat.reduceMul, Nat.reduceLeDiff, Nat.reduceAdd, Nat.reduceLT, Nat.reduceEqDiff, reduceCtorEq, ↓reduceIte, cpoly_len, natsr_len, natsr_at, natsr_snoc, natsr_app, natsr_rows, natsr_nil]
  refine call_by ((snorm_ok a ha)) (by rfl) (by simp) ?_
  simp (disch := omega) only [wk, tis, Int.reduceNe, Int.reduceEq, Int.reduceLT, Int.reduceLE, Int.reduceAdd, Int.reduceSub, Int.reduceNeg, Int.reduceMul, Int.reduceToNat, Nat.reduceSub, Nat.reduceMul, Nat.reduceLeDiff, Nat.reduceAdd, Nat.reduceLT, Nat.reduceEqDiff, reduceCtorEq, ↓reduceIte, cpoly_len, natsr_len, natsr_at, natsr_snoc, natsr_app, natsr_rows, natsr_nil]
  refine call_by ((snorm_ok b hb)) (by rfl) (by simp) ?_
  simp (disch := omega) only [wk, tis, Int.reduceNe, Int.reduceEq, Int.reduceLT, Int.reduceLE, Int.reduceAdd, Int.reduceSub, Int.reduceNeg, Int.reduceMul, Int.reduceToNat, Nat.reduceSub, Nat.reduceMul, Nat.reduceLeDiff, Nat.reduceAdd, Nat.reduceLT, Nat.reduceEqDiff, reduceCtorEq, ↓reduceIte, cpoly_len, natsr_len, natsr_at, natsr_snoc, natsr_app, natsr_rows, natsr_nil]
  have := sform_ok (cn (pv a)) (cn (pv b)) (rp_cn (ha.pv.mono (by omega) (by omega))) (rp_cn (hb.pv.mono (by omega) (by omega)))
  have e : decide (cn (pv a) = cn (pv b)) = decide (trimz (pv a) = trimz (pv b)) := decide_eq_decide.mpr ⟨fun h => canon_inj h, fun h => by rw [cn, cn, h]⟩
  rw [e] at this
  refine call_by (this) (by rfl) (by simp) ?_
  simp (disch := omega) only [wk, tis, Int.reduceNe, Int.reduceEq, Int.reduceLT, Int.reduceLE, Int.reduceAdd, Int.reduceSub, Int.reduceNeg, Int.reduceMul, Int.reduceToNat, Nat.reduceSub, Nat.reduceMul, Nat.reduceLeDiff, Nat.reduceAdd, Nat.reduceLT, Nat.reduceEqDiff, reduceCtorEq, ↓reduceIte, cpoly_len, natsr_len, natsr_at, natsr_snoc, natsr_app, natsr_rows, natsr_nil]

theorem cmpN_gt {x y : Nat} : 0 < cmpN x y ↔ y < x := by unfold cmpN; split <;> (try split) <;> omega

theorem pheight_ok (p : List RI) (h : RP (2 ^ 40) (2 ^ 40) p) : AC Try.prog 50 [cw p] none [cl (wd (hgt (pv p)))] := by
  refine AC.by_walk (rs := [.tmp 2]) ords Try.func50 (by rfl) (by rfl) (by rfl) (by rfl) (by rfl) ?_
  have hl := h.1
  simp (disch := omega) only [wk, tis, Int.reduceNe, Int.reduceEq, Int.reduceLT, Int.reduceLE, Int.reduceAdd, Int.reduceSub, Int.reduceNeg, Int.reduceMul, Int.reduceToNat, Nat.reduceSub, Nat.reduceMul, Nat.reduceLeDiff, Nat.reduceAdd, Nat.reduceLT, Nat.reduceEqDiff, reduceCtorEq, ↓reduceIte, cpoly_len, natsr_len, natsr_at, natsr_snoc, natsr_app, natsr_rows, natsr_nil]
  refine aloop_w (.nilv 3 (by simp (disch := omega) only [wk, tis, Int.reduceNe, Int.reduceEq, Int.reduceLT, Int.reduceLE, Int.reduceAdd, Int.reduceSub, Int.reduceNeg, Int.reduceMul, Int.reduceToNat, Nat.reduceSub, Nat.reduceMul, Nat.reduceLeDiff, Nat.reduceAdd, Nat.reduceLT, Nat.reduceEqDiff, reduceCtorEq, ↓reduceIte, cpoly_len, natsr_len, natsr_at, natsr_snoc, natsr_app, natsr_rows, natsr_nil]) (.refl _ _)) (fun f H => ∃ (i : Nat) (m : List Nat), i ≤ p.length ∧ Lim m ∧ m.length ≤ 2 ^ 40 ∧ nv m = hgt ((pv p).take i) ∧ f 8 = .iv (.int .i64 i) ∧ f 3 = .iv (.sl (lims m)) ∧ f 6 = .iv (.sl (raws p)) ∧ f 7 = .iv (.int .i64 p.length)) (fun f H => (p.length - intAt f 8).toNat) ?_ ?_
  · refine ⟨0, [], by omega, Lim.nil, by simp, by simp [vl, hgt], ?_⟩
    simp (disch := omega) only [wk, tis, Int.reduceNe, Int.reduceEq, Int.reduceLT, Int.reduceLE, Int.reduceAdd, Int.reduceSub, Int.reduceNeg, Int.reduceMul, Int.reduceToNat, Nat.reduceSub, Nat.reduceMul, Nat.reduceLeDiff, Nat.reduceAdd, Nat.reduceLT, Nat.reduceEqDiff, reduceCtorEq, ↓reduceIte, cpoly_len, natsr_len, natsr_at, natsr_snoc, natsr_app, natsr_rows, natsr_nil]
  rintro f H ⟨i, m, hi, hm, hml, hv, hF⟩
  rw [intAt_of hF.1]
  simp (disch := omega) only [wk, tis, Int.reduceNe, Int.reduceEq, Int.reduceLT, Int.reduceLE, Int.reduceAdd, Int.reduceSub, Int.reduceNeg, Int.reduceMul, Int.reduceToNat, Nat.reduceSub, Nat.reduceMul, Nat.reduceLeDiff, Nat.reduceAdd, Nat.reduceLT, Nat.reduceEqDiff, reduceCtorEq, ↓reduceIte, cpoly_len, natsr_len, natsr_at, natsr_snoc, natsr_app, natsr_rows, natsr_nil, hF]
  refine if_by (fun hlt => ?_) (fun hlt => ?_)
  · simp (disch := omega) only [wk, tis, Int.reduceNe, Int.reduceEq, Int.reduceLT, Int.reduceLE, Int.reduceAdd, Int.reduceSub, Int.reduceNeg, Int.reduceMul, Int.reduceToNat, Nat.reduceSub, Nat.reduceMul, Nat.reduceLeDiff, Nat.reduceAdd, Nat.reduceLT, Nat.reduceEqDiff, reduceCtorEq, ↓reduceIte, cpoly_len, natsr_len, natsr_at, natsr_snoc, natsr_app, natsr_rows, natsr_nil, hF]
    have hc := h.get i
    have hcl := hc.1
    refine call_by ((ncmp_ok (p.getD i (false, [])).2 m hc.2 hm (by omega) (by omega))) (by first | rfl | (simp only [tocvs, tocv, hF]; rfl) | (simp only [tocvs, tocv, toboxes, tobox, updH_at, Nat.reduceEqDiff, ↓reduceIte, hF]; rfl)) (by simp) ?_
    simp (disch := omega) only [wk, tis, Int.reduceNe, Int.reduceEq, Int.reduceLT, Int.reduceLE, Int.reduceAdd, Int.reduceSub, Int.reduceNeg, Int.reduceMul, Int.reduceToNat, Nat.reduceSub, Nat.reduceMul, Nat.reduceLeDiff, Nat.reduceAdd, Nat.reduceLT, Nat.reduceEqDiff, reduceCtorEq, ↓reduceIte, cpoly_len, natsr_len, natsr_at, natsr_snoc, natsr_app, natsr_rows, natsr_nil, hF]
    have hn := hgt_take (q := pv p) (i := i) (by rw [pv_len]; omega)
    rw [cf_pv, iv_abs, ← hv] at hn
    refine if_by (fun hs => ?_) (fun hs => ?_)
    · simp (disch := omega) only [wk, tis, Int.reduceNe, Int.reduceEq, Int.reduceLT, Int.reduceLE, Int.reduceAdd, Int.reduceSub, Int.reduceNeg, Int.reduceMul, Int.reduceToNat, Nat.reduceSub, Nat.reduceMul, Nat.reduceLeDiff, Nat.reduceAdd, Nat.reduceLT, Nat.reduceEqDiff, reduceCtorEq, ↓reduceIte, cpoly_len, natsr_len, natsr_at, natsr_snoc, natsr_app, natsr_rows, natsr_nil, hF]
      have := cmpN_gt.mp hs
      exact ⟨⟨i + 1, _, by omega, hc.2, hcl, by rw [hn]; omega, by omega, rfl⟩, by omega⟩
    · simp (disch := omega) only [wk, tis, Int.reduceNe, Int.reduceEq, Int.reduceLT, Int.reduceLE, Int.reduceAdd, Int.reduceSub, Int.reduceNeg, Int.reduceMul, Int.reduceToNat, Nat.reduceSub, Nat.reduceMul, Nat.reduceLeDiff, Nat.reduceAdd, Nat.reduceLT, Nat.reduceEqDiff, reduceCtorEq, ↓reduceIte, cpoly_len, natsr_len, natsr_at, natsr_snoc, natsr_app, natsr_rows, natsr_nil, hF]
      have : ¬ nv m < nv (p.getD i (false, [])).2 := fun h => hs (cmpN_gt.mpr h)
      exact ⟨⟨i + 1, m, by omega, hm, hml, by rw [hn]; omega, by omega, rfl⟩, by omega⟩
  · simp (disch := omega) only [wk, tis, Int.reduceNe, Int.reduceEq, Int.reduceLT, Int.reduceLE, Int.reduceAdd, Int.reduceSub, Int.reduceNeg, Int.reduceMul, Int.reduceToNat, Nat.reduceSub, Nat.reduceMul, Nat.reduceLeDiff, Nat.reduceAdd, Nat.reduceLT, Nat.reduceEqDiff, reduceCtorEq, ↓reduceIte, cpoly_len, natsr_len, natsr_at, natsr_snoc, natsr_app, natsr_rows, natsr_nil, hF]
    rw [List.take_of_length_le (by rw [pv_len]; omega)] at hv
    have := norm_ok m hm (by omega)
    rw [hv] at this
    refine call_by (this) (by first | rfl | (simp only [tocvs, tocv, hF]; rfl) | (simp only [tocvs, tocv, toboxes, tobox, updH_at, Nat.reduceEqDiff, ↓reduceIte, hF]; rfl)) (by simp) ?_
    simp (disch := omega) only [wk, tis, Int.reduceNe, Int.reduceEq, Int.reduceLT, Int.reduceLE, Int.reduceAdd, Int.reduceSub, Int.reduceNeg, Int.reduceMul, Int.reduceToNat, Nat.reduceSub, Nat.reduceMul, Nat.reduceLeDiff, Nat.reduceAdd, Nat.reduceLT, Nat.reduceEqDiff, reduceCtorEq, ↓reduceIte, cpoly_len, natsr_len, natsr_at, natsr_snoc, natsr_app, natsr_rows, natsr_nil, hF]

theorem sheight_ok (p : List RI) (h : RP (2 ^ 40) (2 ^ 40) p) : AC Try.prog 51 [cw p] none [cl (wd (hgt (pv p)))] := by
  refine AC.by_walk (rs := [.tmp 2]) ords Try.func51 (by rfl) (by rfl) (by rfl) (by rfl) (by rfl) ?_
  have hl := h.1
  simp (disch := omega) only [wk, tis, Int.reduceNe, Int.reduceEq, Int.reduceLT, Int.reduceLE, Int.reduceAdd, Int.reduceSub, Int.reduceNeg, Int.reduceMul, Int.reduceToNat, Nat.reduceSub, Nat.reduceMul, Nat.reduceLeDiff, Nat.reduceAdd, Nat.reduceLT, Nat.reduceEqDiff, reduceCtorEq, ↓reduceIte, cpoly_len, natsr_len, natsr_at, natsr_snoc, natsr_app, natsr_rows, natsr_nil]
  refine aloop_w (.nilv 3 (by simp (disch := omega) only [wk, tis, Int.reduceNe, Int.reduceEq, Int.reduceLT, Int.reduceLE, Int.reduceAdd, Int.reduceSub, Int.reduceNeg, Int.reduceMul, Int.reduceToNat, Nat.reduceSub, Nat.reduceMul, Nat.reduceLeDiff, Nat.reduceAdd, Nat.reduceLT, Nat.reduceEqDiff, reduceCtorEq, ↓reduceIte, cpoly_len, natsr_len, natsr_at, natsr_snoc, natsr_app, natsr_rows, natsr_nil]) (.refl _ _)) (fun f H => ∃ (i : Nat), i ≤ p.length ∧ (wd (hgt ((pv p).take i))).length ≤ 2 ^ 40 ∧ f 4 = .iv (.int .i64 i) ∧ f 0 = .iv (.sl (raws p)) ∧ f 3 = .iv (.sl (lims (wd (hgt ((pv p).take i)))))) (fun f H => (p.length - intAt f 4).toNat) ?_ ?_
  · refine ⟨0, by omega, by simp [hgt, wd_zero], ?_⟩
    simp (disch := omega) only [wk, tis, Int.reduceNe, Int.reduceEq, Int.reduceLT, Int.reduceLE, Int.reduceAdd, Int.reduceSub, Int.reduceNeg, Int.reduceMul, Int.reduceToNat, Nat.reduceSub, Nat.reduceMul, Nat.reduceLeDiff, Nat.reduceAdd, Nat.reduceLT, Nat.reduceEqDiff, reduceCtorEq, ↓reduceIte, cpoly_len, natsr_len, natsr_at, natsr_snoc, natsr_app, natsr_rows, natsr_nil, List.take_zero, hgt, List.foldl_nil, wd_zero]
  rintro f H ⟨i, hi, hw, hF⟩
  rw [intAt_of hF.1]
  simp (disch := omega) only [wk, tis, Int.reduceNe, Int.reduceEq, Int.reduceLT, Int.reduceLE, Int.reduceAdd, Int.reduceSub, Int.reduceNeg, Int.reduceMul, Int.reduceToNat, Nat.reduceSub, Nat.reduceMul, Nat.reduceLeDiff, Nat.reduceAdd, Nat.reduceLT, Nat.reduceEqDiff, reduceCtorEq, ↓reduceIte, cpoly_len, natsr_len, natsr_at, natsr_snoc, natsr_app, natsr_rows, natsr_nil, hF]
  refine if_by (fun hlt => ?_) (fun hlt => ?_)
  · simp (disch := omega) only [wk, tis, Int.reduceNe, Int.reduceEq, Int.reduceLT, Int.reduceLE, Int.reduceAdd, Int.reduceSub, Int.reduceNeg, Int.reduceMul, Int.reduceToNat, Nat.reduceSub, Nat.reduceMul, Nat.reduceLeDiff, Nat.reduceAdd, Nat.reduceLT, Nat.reduceEqDiff, reduceCtorEq, ↓reduceIte, cpoly_len, natsr_len, natsr_at, natsr_snoc, natsr_app, natsr_rows, natsr_nil, hF]
    have hc := h.get i
    have hcl := hc.1
    have c := rcmp_ok (p.getD i (false, [])).2 (wd (hgt ((pv p).take i))) hc.2 (lim_wd _) (by omega) hw
    rw [nv_wd] at c
    refine call_by (c) (by first | rfl | (simp only [tocvs, tocv, hF]; rfl) | (simp only [tocvs, tocv, toboxes, tobox, updH_at, Nat.reduceEqDiff, ↓reduceIte, hF]; rfl)) (by simp) ?_
    simp (disch := omega) only [wk, tis, Int.reduceNe, Int.reduceEq, Int.reduceLT, Int.reduceLE, Int.reduceAdd, Int.reduceSub, Int.reduceNeg, Int.reduceMul, Int.reduceToNat, Nat.reduceSub, Nat.reduceMul, Nat.reduceLeDiff, Nat.reduceAdd, Nat.reduceLT, Nat.reduceEqDiff, reduceCtorEq, ↓reduceIte, cpoly_len, natsr_len, natsr_at, natsr_snoc, natsr_app, natsr_rows, natsr_nil, hF]
    have hn := hgt_take (q := pv p) (i := i) (by rw [pv_len]; omega)
    rw [cf_pv, iv_abs] at hn
    refine if_by (fun hs => ?_) (fun hs => ?_)
    · simp (disch := omega) only [wk, tis, Int.reduceNe, Int.reduceEq, Int.reduceLT, Int.reduceLE, Int.reduceAdd, Int.reduceSub, Int.reduceNeg, Int.reduceMul, Int.reduceToNat, Nat.reduceSub, Nat.reduceMul, Nat.reduceLeDiff, Nat.reduceAdd, Nat.reduceLT, Nat.reduceEqDiff, reduceCtorEq, ↓reduceIte, cpoly_len, natsr_len, natsr_at, natsr_snoc, natsr_app, natsr_rows, natsr_nil, hF]
      have hgt' := cmpN_gt.mp hs
      refine call_by ((rnorm_ok (p.getD i (false, [])).2 hc.2 (by omega))) (by first | rfl | (simp only [tocvs, tocv, hF]; rfl) | (simp only [tocvs, tocv, toboxes, tobox, updH_at, Nat.reduceEqDiff, ↓reduceIte, hF]; rfl)) (by simp) ?_
      simp (disch := omega) only [wk, tis, Int.reduceNe, Int.reduceEq, Int.reduceLT, Int.reduceLE, Int.reduceAdd, Int.reduceSub, Int.reduceNeg, Int.reduceMul, Int.reduceToNat, Nat.reduceSub, Nat.reduceMul, Nat.reduceLeDiff, Nat.reduceAdd, Nat.reduceLT, Nat.reduceEqDiff, reduceCtorEq, ↓reduceIte, cpoly_len, natsr_len, natsr_at, natsr_snoc, natsr_app, natsr_rows, natsr_nil, hF]
      have e : nv (p.getD i (false, [])).2 = hgt ((pv p).take (i + 1)) := by omega
      have l2 := nv_len hc.2
      rw [e] at l2 ⊢
      exact ⟨⟨i + 1, by omega, by omega, by omega, rfl⟩, by omega⟩
    · simp (disch := omega) only [wk, tis, Int.reduceNe, Int.reduceEq, Int.reduceLT, Int.reduceLE, Int.reduceAdd, Int.reduceSub, Int.reduceNeg, Int.reduceMul, Int.reduceToNat, Nat.reduceSub, Nat.reduceMul, Nat.reduceLeDiff, Nat.reduceAdd, Nat.reduceLT, Nat.reduceEqDiff, reduceCtorEq, ↓reduceIte, cpoly_len, natsr_len, natsr_at, natsr_snoc, natsr_app, natsr_rows, natsr_nil, hF]
      have : ¬ hgt ((pv p).take i) < nv (p.getD i (false, [])).2 := fun h => hs (cmpN_gt.mpr h)
      have e : hgt ((pv p).take (i + 1)) = hgt ((pv p).take i) := by omega
      exact ⟨⟨i + 1, by omega, by rw [e]; exact hw, by rw [e]; exact ⟨by omega, rfl⟩⟩, by omega⟩
  · simp (disch := omega) only [wk, tis, Int.reduceNe, Int.reduceEq, Int.reduceLT, Int.reduceLE, Int.reduceAdd, Int.reduceSub, Int.reduceNeg, Int.reduceMul, Int.reduceToNat, Nat.reduceSub, Nat.reduceMul, Nat.reduceLeDiff, Nat.reduceAdd, Nat.reduceLT, Nat.reduceEqDiff, reduceCtorEq, ↓reduceIte, cpoly_len, natsr_len, natsr_at, natsr_snoc, natsr_app, natsr_rows, natsr_nil, hF]
    rw [List.take_of_length_le (by rw [pv_len]; omega)]

end Go.Proofs.Ythgecppfgdadiaa

namespace Go.Proofs.Ythgecppfgdadiaa
open Go Go.Proofs Go.AL
set_option linter.unusedSimpArgs false
set_option linter.unusedVariables false

theorem quo_zero (a b : List Nat) (ha : Lim a) (hb : Lim b) (hla : a.length ≤ 2 ^ 38) (hlb : b.length ≤ 2 ^ 38) (h0 : nv b = 0) : AC Try.prog 170 [cl a, cl b] none [cl [], cl [], ci 1] := by
  refine AC.by_walk (rs := [.tmp 4, .tmp 5, .tmp 6]) ords Try.func170 (by rfl) (by rfl) (by rfl) (by rfl) (by rfl) ?_
  simp (disch := omega) only [wk, tis, Int.reduceNe, Int.reduceEq, Int.reduceLT, Int.reduceLE, Int.reduceAdd, Int.reduceSub, Int.reduceNeg, Int.reduceMul, Int.reduceToNat, Nat.reduceSub, Nat.reduceMul, Nat.reduceLeDiff, Nat.reduceAdd, Nat.reduceLT, Nat.reduceEqDiff, reduceCtorEq, ↓reduceIte, natsr_len, natsr_at, Option.getD_some]
  refine call_by ((norm_ok a ha (by omega))) (by rfl) (by simp) ?_
  simp (disch := omega) only [wk, tis, Int.reduceNe, Int.reduceEq, Int.reduceLT, Int.reduceLE, Int.reduceAdd, Int.reduceSub, Int.reduceNeg, Int.reduceMul, Int.reduceToNat, Nat.reduceSub, Nat.reduceMul, Nat.reduceLeDiff, Nat.reduceAdd, Nat.reduceLT, Nat.reduceEqDiff, reduceCtorEq, ↓reduceIte, natsr_len, natsr_at, Option.getD_some]
  refine call_by ((norm_ok b hb (by omega))) (by rfl) (by simp) ?_
  simp (disch := omega) only [wk, tis, Int.reduceNe, Int.reduceEq, Int.reduceLT, Int.reduceLE, Int.reduceAdd, Int.reduceSub, Int.reduceNeg, Int.reduceMul, Int.reduceToNat, Nat.reduceSub, Nat.reduceMul, Nat.reduceLeDiff, Nat.reduceAdd, Nat.reduceLT, Nat.reduceEqDiff, reduceCtorEq, ↓reduceIte, natsr_len, natsr_at, Option.getD_some]
  rw [h0, wd_zero]
  simp (disch := omega) only [wk, tis, Int.reduceNe, Int.reduceEq, Int.reduceLT, Int.reduceLE, Int.reduceAdd, Int.reduceSub, Int.reduceNeg, Int.reduceMul, Int.reduceToNat, Nat.reduceSub, Nat.reduceMul, Nat.reduceLeDiff, Nat.reduceAdd, Nat.reduceLT, Nat.reduceEqDiff, reduceCtorEq, ↓reduceIte, natsr_len, natsr_at, Option.getD_some]

theorem wd_one {y : Nat} (h : (wd y).length = 1) : (wd y).getD 0 0 = y ∧ y < W := by
  have h1 := vl_take_next W (wd y) 0
  rw [Nat.zero_add, List.take_of_length_le (by omega), List.take_zero, Nat.pow_zero, Nat.one_mul] at h1
  have h2 := nv_wd y
  simp only [nv, vl, Nat.zero_add] at *
  have h3 := (lim_wd y).get 0
  omega

theorem quo_ok (a b : List Nat) (ha : Lim a) (hb : Lim b) (hla : a.length ≤ 2 ^ 38) (hlb : b.length ≤ 2 ^ 38) (h0 : nv b ≠ 0) : AC Try.prog 170 [cl a, cl b] none [cl (wd (nv a / nv b)), cl (wd (nv a % nv b)), ci 0] := by
  refine AC.by_walk (rs := [.tmp 4, .tmp 5, .tmp 6]) ords Try.func170 (by rfl) (by rfl) (by rfl) (by rfl) (by rfl) ?_
  simp (disch := omega) only [wk, tis, Int.reduceNe, Int.reduceEq, Int.reduceLT, Int.reduceLE, Int.reduceAdd, Int.reduceSub, Int.reduceNeg, Int.reduceMul, Int.reduceToNat, Nat.reduceSub, Nat.reduceMul, Nat.reduceLeDiff, Nat.reduceAdd, Nat.reduceLT, Nat.reduceEqDiff, reduceCtorEq, ↓reduceIte, natsr_len, natsr_at, Option.getD_some]
  refine call_by ((norm_ok a ha (by omega))) (by rfl) (by simp) ?_
  simp (disch := omega) only [wk, tis, Int.reduceNe, Int.reduceEq, Int.reduceLT, Int.reduceLE, Int.reduceAdd, Int.reduceSub, Int.reduceNeg, Int.reduceMul, Int.reduceToNat, Nat.reduceSub, Nat.reduceMul, Nat.reduceLeDiff, Nat.reduceAdd, Nat.reduceLT, Nat.reduceEqDiff, reduceCtorEq, ↓reduceIte, natsr_len, natsr_at, Option.getD_some]
  refine call_by ((norm_ok b hb (by omega))) (by rfl) (by simp) ?_
  simp (disch := omega) only [wk, tis, Int.reduceNe, Int.reduceEq, Int.reduceLT, Int.reduceLE, Int.reduceAdd, Int.reduceSub, Int.reduceNeg, Int.reduceMul, Int.reduceToNat, Nat.reduceSub, Nat.reduceMul, Nat.reduceLeDiff, Nat.reduceAdd, Nat.reduceLT, Nat.reduceEqDiff, reduceCtorEq, ↓reduceIte, natsr_len, natsr_at, Option.getD_some]
  have hxl := nv_len ha
  have hyl := nv_len hb
  generalize nv a = x at *
  generalize nv b = y at *
  refine if_by (fun h => ?_) (fun h => ?_)
  · have := wd_len_zero.mp (Int.ofNat.inj h)
    exact absurd this h0
  simp (disch := omega) only [wk, tis, Int.reduceNe, Int.reduceEq, Int.reduceLT, Int.reduceLE, Int.reduceAdd, Int.reduceSub, Int.reduceNeg, Int.reduceMul, Int.reduceToNat, Nat.reduceSub, Nat.reduceMul, Nat.reduceLeDiff, Nat.reduceAdd, Nat.reduceLT, Nat.reduceEqDiff, reduceCtorEq, ↓reduceIte, natsr_len, natsr_at, Option.getD_some]
  refine call_by ((ncmp_ok (wd x) (wd y) (lim_wd _) (lim_wd _) (by omega) (by omega))) (by rfl) (by simp) ?_
  simp (disch := omega) only [wk, tis, Int.reduceNe, Int.reduceEq, Int.reduceLT, Int.reduceLE, Int.reduceAdd, Int.reduceSub, Int.reduceNeg, Int.reduceMul, Int.reduceToNat, Nat.reduceSub, Nat.reduceMul, Nat.reduceLeDiff, Nat.reduceAdd, Nat.reduceLT, Nat.reduceEqDiff, reduceCtorEq, ↓reduceIte, natsr_len, natsr_at, Option.getD_some]
  rw [nv_wd, nv_wd]
  refine if_by (fun hc => ?_) (fun hc => ?_)
  · have hlt : x < y := by
      unfold cmpN at hc
      split at hc
      · assumption
      · split at hc <;> omega
    rw [Nat.div_eq_of_lt hlt, Nat.mod_eq_of_lt hlt, wd_zero]
    simp (disch := omega) only [wk, tis, Int.reduceNe, Int.reduceEq, Int.reduceLT, Int.reduceLE, Int.reduceAdd, Int.reduceSub, Int.reduceNeg, Int.reduceMul, Int.reduceToNat, Nat.reduceSub, Nat.reduceMul, Nat.reduceLeDiff, Nat.reduceAdd, Nat.reduceLT, Nat.reduceEqDiff, reduceCtorEq, ↓reduceIte, natsr_len, natsr_at, Option.getD_some]
  have hle : y ≤ x := by
    unfold cmpN at hc
    split at hc
    · omega
    · omega
  simp (disch := omega) only [wk, tis, Int.reduceNe, Int.reduceEq, Int.reduceLT, Int.reduceLE, Int.reduceAdd, Int.reduceSub, Int.reduceNeg, Int.reduceMul, Int.reduceToNat, Nat.reduceSub, Nat.reduceMul, Nat.reduceLeDiff, Nat.reduceAdd, Nat.reduceLT, Nat.reduceEqDiff, reduceCtorEq, ↓reduceIte, natsr_len, natsr_at, Option.getD_some]
  refine if_by (fun h1 => ?_) (fun h1 => ?_)
  · obtain ⟨e1, e2⟩ := wd_one (Int.ofNat.inj h1)
    have hp : 0 < (wd y).length := by omega
    simp (disch := omega) only [wk, tis, Int.reduceNe, Int.reduceEq, Int.reduceLT, Int.reduceLE, Int.reduceAdd, Int.reduceSub, Int.reduceNeg, Int.reduceMul, Int.reduceToNat, Nat.reduceSub, Nat.reduceMul, Nat.reduceLeDiff, Nat.reduceAdd, Nat.reduceLT, Nat.reduceEqDiff, reduceCtorEq, ↓reduceIte, natsr_len, natsr_at, Option.getD_some]
    have m := dword_ok (wd x) y (lim_wd _) (by omega) h0 e2
    rw [nv_wd] at m
    have n := nof_ok (x % y) (Nat.lt_trans (Nat.mod_lt _ (by omega)) e2)
    simp (disch := omega) only [wk, tis, Int.reduceNe, Int.reduceEq, Int.reduceLT, Int.reduceLE, Int.reduceAdd, Int.reduceSub, Int.reduceNeg, Int.reduceMul, Int.reduceToNat, Nat.reduceSub, Nat.reduceMul, Nat.reduceLeDiff, Nat.reduceAdd, Nat.reduceLT, Nat.reduceEqDiff, reduceCtorEq, ↓reduceIte, natsr_len, natsr_at, Option.getD_some, e1]
    refine call_by (m) (by first | rfl | (simp only [tocvs, tocv, e1]; rfl) | (simp only [tocvs, tocv, toboxes, tobox, updH_at, Nat.reduceEqDiff, ↓reduceIte, e1]; rfl)) (by simp) ?_
    simp (disch := omega) only [wk, tis, Int.reduceNe, Int.reduceEq, Int.reduceLT, Int.reduceLE, Int.reduceAdd, Int.reduceSub, Int.reduceNeg, Int.reduceMul, Int.reduceToNat, Nat.reduceSub, Nat.reduceMul, Nat.reduceLeDiff, Nat.reduceAdd, Nat.reduceLT, Nat.reduceEqDiff, reduceCtorEq, ↓reduceIte, natsr_len, natsr_at, Option.getD_some, e1]
    refine call_by (n) (by first | rfl | (simp only [tocvs, tocv, e1]; rfl) | (simp only [tocvs, tocv, toboxes, tobox, updH_at, Nat.reduceEqDiff, ↓reduceIte, e1]; rfl)) (by simp) ?_
    simp (disch := omega) only [wk, tis, Int.reduceNe, Int.reduceEq, Int.reduceLT, Int.reduceLE, Int.reduceAdd, Int.reduceSub, Int.reduceNeg, Int.reduceMul, Int.reduceToNat, Nat.reduceSub, Nat.reduceMul, Nat.reduceLeDiff, Nat.reduceAdd, Nat.reduceLT, Nat.reduceEqDiff, reduceCtorEq, ↓reduceIte, natsr_len, natsr_at, Option.getD_some, e1]
  · have hn : 2 ≤ (wd y).length := by omega
    simp (disch := omega) only [wk, tis, Int.reduceNe, Int.reduceEq, Int.reduceLT, Int.reduceLE, Int.reduceAdd, Int.reduceSub, Int.reduceNeg, Int.reduceMul, Int.reduceToNat, Nat.reduceSub, Nat.reduceMul, Nat.reduceLeDiff, Nat.reduceAdd, Nat.reduceLT, Nat.reduceEqDiff, reduceCtorEq, ↓reduceIte, natsr_len, natsr_at, Option.getD_some]
    refine call_by ((knuth_ok x y _ _ rfl rfl hn hle (by omega))) (by rfl) (by simp) ?_
    simp (disch := omega) only [wk, tis, Int.reduceNe, Int.reduceEq, Int.reduceLT, Int.reduceLE, Int.reduceAdd, Int.reduceSub, Int.reduceNeg, Int.reduceMul, Int.reduceToNat, Nat.reduceSub, Nat.reduceMul, Nat.reduceLeDiff, Nat.reduceAdd, Nat.reduceLT, Nat.reduceEqDiff, reduceCtorEq, ↓reduceIte, natsr_len, natsr_at, Option.getD_some]

theorem mod_ok (a b : List Nat) (ha : Lim a) (hb : Lim b) (hla : a.length ≤ 2 ^ 38) (hlb : b.length ≤ 2 ^ 38) (h0 : nv b ≠ 0) : AC Try.prog 175 [cl a, cl b] none [cl (wd (nv a % nv b)), ci 0] := by
  refine AC.by_walk (rs := [.tmp 4, .tmp 5]) ords Try.func175 (by rfl) (by rfl) (by rfl) (by rfl) (by rfl) ?_
  simp (disch := omega) only [wk, tis, Int.reduceNe, Int.reduceEq, Int.reduceLT, Int.reduceLE, Int.reduceAdd, Int.reduceSub, Int.reduceNeg, Int.reduceMul, Int.reduceToNat, Nat.reduceSub, Nat.reduceMul, Nat.reduceLeDiff, Nat.reduceAdd, Nat.reduceLT, Nat.reduceEqDiff, reduceCtorEq, ↓reduceIte, natsr_len, natsr_at, Option.getD_some]
  refine call_by ((quo_ok a b ha hb hla hlb h0)) (by rfl) (by simp) ?_
  simp (disch := omega) only [wk, tis, Int.reduceNe, Int.reduceEq, Int.reduceLT, Int.reduceLE, Int.reduceAdd, Int.reduceSub, Int.reduceNeg, Int.reduceMul, Int.reduceToNat, Nat.reduceSub, Nat.reduceMul, Nat.reduceLeDiff, Nat.reduceAdd, Nat.reduceLT, Nat.reduceEqDiff, reduceCtorEq, ↓reduceIte, natsr_len, natsr_at, Option.getD_some]

theorem gmod_ok (a b : List Nat) (ha : Lim a) (hb : Lim b) (hla : a.length ≤ 2 ^ 38) (hlb : b.length ≤ 2 ^ 38) (h0 : nv b ≠ 0) : AC Try.prog 167 [cl a, cl b] none [cl (wd (nv a % nv b))] := by
  refine AC.by_walk (rs := [.tmp 4]) ords Try.func167 (by rfl) (by rfl) (by rfl) (by rfl) (by rfl) ?_
  simp (disch := omega) only [wk, tis, Int.reduceNe, Int.reduceEq, Int.reduceLT, Int.reduceLE, Int.reduceAdd, Int.reduceSub, Int.reduceNeg, Int.reduceMul, Int.reduceToNat, Nat.reduceSub, Nat.reduceMul, Nat.reduceLeDiff, Nat.reduceAdd, Nat.reduceLT, Nat.reduceEqDiff, reduceCtorEq, ↓reduceIte, natsr_len, natsr_at, Option.getD_some]
  refine call_by ((mod_ok a b ha hb hla hlb h0)) (by rfl) (by simp) ?_
  simp (disch := omega) only [wk, tis, Int.reduceNe, Int.reduceEq, Int.reduceLT, Int.reduceLE, Int.reduceAdd, Int.reduceSub, Int.reduceNeg, Int.reduceMul, Int.reduceToNat, Nat.reduceSub, Nat.reduceMul, Nat.reduceLeDiff, Nat.reduceAdd, Nat.reduceLT, Nat.reduceEqDiff, reduceCtorEq, ↓reduceIte, natsr_len, natsr_at, Option.getD_some]

theorem dexact_zero (a b : List Nat) (ha : Lim a) (hb : Lim b) (hla : a.length ≤ 2 ^ 38) (hlb : b.length ≤ 2 ^ 38) (h0 : nv b = 0) : AC Try.prog 156 [cl a, cl b] none [cl [], ci 1] := by
  refine AC.by_walk (rs := [.tmp 4, .tmp 5]) ords Try.func156 (by rfl) (by rfl) (by rfl) (by rfl) (by rfl) ?_
  simp (disch := omega) only [wk, tis, Int.reduceNe, Int.reduceEq, Int.reduceLT, Int.reduceLE, Int.reduceAdd, Int.reduceSub, Int.reduceNeg, Int.reduceMul, Int.reduceToNat, Nat.reduceSub, Nat.reduceMul, Nat.reduceLeDiff, Nat.reduceAdd, Nat.reduceLT, Nat.reduceEqDiff, reduceCtorEq, ↓reduceIte, natsr_len, natsr_at, Option.getD_some]
  refine call_by ((quo_zero a b ha hb hla hlb h0)) (by rfl) (by simp) ?_
  simp (disch := omega) only [wk, tis, Int.reduceNe, Int.reduceEq, Int.reduceLT, Int.reduceLE, Int.reduceAdd, Int.reduceSub, Int.reduceNeg, Int.reduceMul, Int.reduceToNat, Nat.reduceSub, Nat.reduceMul, Nat.reduceLeDiff, Nat.reduceAdd, Nat.reduceLT, Nat.reduceEqDiff, reduceCtorEq, ↓reduceIte, natsr_len, natsr_at, Option.getD_some]

theorem dexact_ok (a b : List Nat) (ha : Lim a) (hb : Lim b) (hla : a.length ≤ 2 ^ 38) (hlb : b.length ≤ 2 ^ 38) (h0 : nv b ≠ 0) : AC Try.prog 156 [cl a, cl b] none [cl (if nv a % nv b = 0 then wd (nv a / nv b) else []), ci (if nv a % nv b = 0 then 0 else 4)] := by
  refine AC.by_walk (rs := [.tmp 4, .tmp 5]) ords Try.func156 (by rfl) (by rfl) (by rfl) (by rfl) (by rfl) ?_
  simp (disch := omega) only [wk, tis, Int.reduceNe, Int.reduceEq, Int.reduceLT, Int.reduceLE, Int.reduceAdd, Int.reduceSub, Int.reduceNeg, Int.reduceMul, Int.reduceToNat, Nat.reduceSub, Nat.reduceMul, Nat.reduceLeDiff, Nat.reduceAdd, Nat.reduceLT, Nat.reduceEqDiff, reduceCtorEq, ↓reduceIte, natsr_len, natsr_at, Option.getD_some]
  refine call_by ((quo_ok a b ha hb hla hlb h0)) (by rfl) (by simp) ?_
  simp (disch := omega) only [wk, tis, Int.reduceNe, Int.reduceEq, Int.reduceLT, Int.reduceLE, Int.reduceAdd, Int.reduceSub, Int.reduceNeg, Int.reduceMul, Int.reduceToNat, Nat.reduceSub, Nat.reduceMul, Nat.reduceLeDiff, Nat.reduceAdd, Nat.reduceLT, Nat.reduceEqDiff, reduceCtorEq, ↓reduceIte, natsr_len, natsr_at, Option.getD_some]
  refine if_by (fun h => ?_) (fun h => ?_)
  · have h1 : nv a % nv b ≠ 0 := fun h2 => by rw [h2, wd_zero] at h; simp at h
    rw [if_neg h1, if_neg h1]
    simp (disch := omega) only [wk, tis, Int.reduceNe, Int.reduceEq, Int.reduceLT, Int.reduceLE, Int.reduceAdd, Int.reduceSub, Int.reduceNeg, Int.reduceMul, Int.reduceToNat, Nat.reduceSub, Nat.reduceMul, Nat.reduceLeDiff, Nat.reduceAdd, Nat.reduceLT, Nat.reduceEqDiff, reduceCtorEq, ↓reduceIte, natsr_len, natsr_at, Option.getD_some]
  · have h1 : nv a % nv b = 0 := by
      rcases Nat.eq_zero_or_pos (wd (nv a % nv b)).length with h2 | h2
      · exact wd_len_zero.mp h2
      · exact absurd (by omega) h
    rw [if_pos h1, if_pos h1]
    simp (disch := omega) only [wk, tis, Int.reduceNe, Int.reduceEq, Int.reduceLT, Int.reduceLE, Int.reduceAdd, Int.reduceSub, Int.reduceNeg, Int.reduceMul, Int.reduceToNat, Nat.reduceSub, Nat.reduceMul, Nat.reduceLeDiff, Nat.reduceAdd, Nat.reduceLT, Nat.reduceEqDiff, reduceCtorEq, ↓reduceIte, natsr_len, natsr_at, Option.getD_some]

def natAt (f : Fr) (t : Nat) : Nat := match f t with
  | .iv (.sl rows) => nv (rows.map fun r => match r with | [.int _ n] => n.toNat | _ => 0)
  | _ => 0

theorem natAt_of {f : Fr} {t v : Nat} (h : f t = .iv (.sl (lims (wd v)))) : natAt f t = v := by
  unfold natAt
  rw [h]
  have e : (lims (wd v)).map (fun r => match r with | [.int _ n] => n.toNat | _ => 0) = wd v := by
    simp only [lims, List.map_map]
    conv => rhs; rw [← List.map_id (wd v)]
    rfl
  simp only [e, nv_wd]

theorem gcd_ok (a b : List Nat) (ha : Lim a) (hb : Lim b) (hla : a.length ≤ 2 ^ 38) (hlb : b.length ≤ 2 ^ 38) : AC Try.prog 154 [cl a, cl b] none [cl (wd (Nat.gcd (nv a) (nv b)))] := by
  refine AC.by_walk (rs := [.tmp 4]) ords Try.func154 (by rfl) (by rfl) (by rfl) (by rfl) (by rfl) ?_
  simp (disch := omega) only [wk, tis, Int.reduceNe, Int.reduceEq, Int.reduceLT, Int.reduceLE, Int.reduceAdd, Int.reduceSub, Int.reduceNeg, Int.reduceMul, Int.reduceToNat, Nat.reduceSub, Nat.reduceMul, Nat.reduceLeDiff, Nat.reduceAdd, Nat.reduceLT, Nat.reduceEqDiff, reduceCtorEq, ↓reduceIte, natsr_len, natsr_at, Option.getD_some]
  refine call_by ((norm_ok a ha (by omega))) (by rfl) (by simp) ?_
  simp (disch := omega) only [wk, tis, Int.reduceNe, Int.reduceEq, Int.reduceLT, Int.reduceLE, Int.reduceAdd, Int.reduceSub, Int.reduceNeg, Int.reduceMul, Int.reduceToNat, Nat.reduceSub, Nat.reduceMul, Nat.reduceLeDiff, Nat.reduceAdd, Nat.reduceLT, Nat.reduceEqDiff, reduceCtorEq, ↓reduceIte, natsr_len, natsr_at, Option.getD_some]
  refine call_by ((norm_ok b hb (by omega))) (by rfl) (by simp) ?_
  simp (disch := omega) only [wk, tis, Int.reduceNe, Int.reduceEq, Int.reduceLT, Int.reduceLE, Int.reduceAdd, Int.reduceSub, Int.reduceNeg, Int.reduceMul, Int.reduceToNat, Nat.reduceSub, Nat.reduceMul, Nat.reduceLeDiff, Nat.reduceAdd, Nat.reduceLT, Nat.reduceEqDiff, reduceCtorEq, ↓reduceIte, natsr_len, natsr_at, Option.getD_some]
  have hxl := nv_len ha
  have hyl := nv_len hb
  generalize nv a = x at *
  generalize nv b = y at *
  refine aloop_by (fun f H => ∃ u v : Nat, Nat.gcd u v = Nat.gcd x y ∧ (wd u).length ≤ 2 ^ 38 ∧ (wd v).length ≤ 2 ^ 38 ∧ f 0 = .iv (.sl (lims (wd u))) ∧ f 1 = .iv (.sl (lims (wd v)))) (fun f H => natAt f 1) ?_ ?_
  · exact ⟨x, y, rfl, by omega, by omega, by simp (disch := omega) only [wk, tis, Int.reduceNe, Int.reduceEq, Int.reduceLT, Int.reduceLE, Int.reduceAdd, Int.reduceSub, Int.reduceNeg, Int.reduceMul, Int.reduceToNat, Nat.reduceSub, Nat.reduceMul, Nat.reduceLeDiff, Nat.reduceAdd, Nat.reduceLT, Nat.reduceEqDiff, reduceCtorEq, ↓reduceIte, natsr_len, natsr_at, Option.getD_some]⟩
  rintro f H ⟨u, v, hg, hu, hv, hF⟩
  rw [natAt_of hF.2]
  simp (disch := omega) only [wk, tis, Int.reduceNe, Int.reduceEq, Int.reduceLT, Int.reduceLE, Int.reduceAdd, Int.reduceSub, Int.reduceNeg, Int.reduceMul, Int.reduceToNat, Nat.reduceSub, Nat.reduceMul, Nat.reduceLeDiff, Nat.reduceAdd, Nat.reduceLT, Nat.reduceEqDiff, reduceCtorEq, ↓reduceIte, natsr_len, natsr_at, Option.getD_some, hF]
  refine if_by (fun h => ?_) (fun h => ?_)
  · have h0 : v ≠ 0 := fun h1 => by rw [h1, wd_zero] at h; simp at h
    have hm := gmod_ok (wd u) (wd v) (lim_wd _) (lim_wd _) hu hv (by rw [nv_wd]; exact h0)
    rw [nv_wd, nv_wd] at hm
    simp (disch := omega) only [wk, tis, Int.reduceNe, Int.reduceEq, Int.reduceLT, Int.reduceLE, Int.reduceAdd, Int.reduceSub, Int.reduceNeg, Int.reduceMul, Int.reduceToNat, Nat.reduceSub, Nat.reduceMul, Nat.reduceLeDiff, Nat.reduceAdd, Nat.reduceLT, Nat.reduceEqDiff, reduceCtorEq, ↓reduceIte, natsr_len, natsr_at, Option.getD_some, hF]
    refine call_by (hm) (by first | rfl | (simp only [tocvs, tocv, hF]; rfl) | (simp only [tocvs, tocv, toboxes, tobox, updH_at, Nat.reduceEqDiff, ↓reduceIte, hF]; rfl)) (by simp) ?_
    simp (disch := omega) only [wk, tis, Int.reduceNe, Int.reduceEq, Int.reduceLT, Int.reduceLE, Int.reduceAdd, Int.reduceSub, Int.reduceNeg, Int.reduceMul, Int.reduceToNat, Nat.reduceSub, Nat.reduceMul, Nat.reduceLeDiff, Nat.reduceAdd, Nat.reduceLT, Nat.reduceEqDiff, reduceCtorEq, ↓reduceIte, natsr_len, natsr_at, Option.getD_some, hF]
    have hlt := Nat.mod_lt u (Nat.pos_of_ne_zero h0)
    have := wd_len_mono (Nat.le_of_lt hlt)
    rw [natAt_of rfl]
    exact ⟨⟨v, u % v, by rw [← hg, Nat.gcd_comm u v, Nat.gcd_rec v u, Nat.gcd_comm], hv, by omega, rfl, rfl⟩, hlt⟩
  · have h0 : v = 0 := wd_len_zero.mp (by omega)
    subst h0
    rw [Nat.gcd_zero_right] at hg
    simp (disch := omega) only [wk, tis, Int.reduceNe, Int.reduceEq, Int.reduceLT, Int.reduceLE, Int.reduceAdd, Int.reduceSub, Int.reduceNeg, Int.reduceMul, Int.reduceToNat, Nat.reduceSub, Nat.reduceMul, Nat.reduceLeDiff, Nat.reduceAdd, Nat.reduceLT, Nat.reduceEqDiff, reduceCtorEq, ↓reduceIte, natsr_len, natsr_at, Option.getD_some, hF, hg]

end Go.Proofs.Ythgecppfgdadiaa

namespace Go.Proofs.Ythgecppfgdadiaa
open Go Go.Proofs Go.AL
set_option linter.unusedSimpArgs false
set_option linter.unusedVariables false

theorem iv_sg (c : RI) : iv c = sg c.1 (nv c.2) := rfl

theorem znat_ok (s : Bool) (n : Nat) (h : (wd n).length ≤ 2 ^ 40) : AC Try.prog 131 [cb s, cl (wd n)] none [cz (sg s n)] := by
  refine AC.by_walk (rs := [.cell 4 40]) ords Try.func131 (by rfl) (by rfl) (by rfl) (by rfl) (by rfl) ?_
  simp (disch := omega) only [wk, tis, Int.reduceNe, Int.reduceEq, Int.reduceLT, Int.reduceLE, Int.reduceAdd, Int.reduceSub, Int.reduceNeg, Int.reduceMul, Int.reduceToNat, Nat.reduceSub, Nat.reduceMul, Nat.reduceLeDiff, Nat.reduceAdd, Nat.reduceLT, Nat.reduceEqDiff, reduceCtorEq, ↓reduceIte, cpoly_len]
  have m := znorm_ok (s, wd n) ⟨h, lim_wd _⟩
  rw [iv_sg, nv_wd] at m
  refine call_by (m) (by rfl) (by simp) ?_
  simp (disch := omega) only [wk, tis, Int.reduceNe, Int.reduceEq, Int.reduceLT, Int.reduceLE, Int.reduceAdd, Int.reduceSub, Int.reduceNeg, Int.reduceMul, Int.reduceToNat, Nat.reduceSub, Nat.reduceMul, Nat.reduceLeDiff, Nat.reduceAdd, Nat.reduceLT, Nat.reduceEqDiff, reduceCtorEq, ↓reduceIte, cpoly_len]

theorem sg_div {s t : Bool} {x y : Nat} (h : x % y = 0) : sg s x / sg t y = sg (s != t) (x / y) ∧ sg t y ∣ sg s x := by
  obtain ⟨k, rfl⟩ := Nat.dvd_of_mod_eq_zero h
  rcases Nat.eq_zero_or_pos y with h0 | h0
  · subst h0; cases s <;> cases t <;> simp [sg]
  · rw [Nat.mul_div_cancel_left _ h0]
    have hy : (y : Int) ≠ 0 := by omega
    cases s <;> cases t <;> simp [sg, Int.mul_ediv_cancel_left _ hy, ← Int.mul_neg]

theorem sg_dvd {s t : Bool} {x y : Nat} : sg t y ∣ sg s x ↔ x % y = 0 := by
  constructor
  · intro h
    have h1 := Int.natAbs_dvd_natAbs.mpr h
    have e : ∀ (b : Bool) (n : Nat), (sg b n).natAbs = n := fun b n => by cases b <;> simp [sg]
    rw [e, e] at h1
    exact Nat.mod_eq_zero_of_dvd h1
  · intro h; exact (sg_div h).2

theorem zexact_ok (a b : RI) (ha : Sz (2 ^ 38) a) (hb : Sz (2 ^ 38) b) (h0 : iv b ≠ 0) (hd : iv b ∣ iv a) : AC Try.prog 134 [cr a, cr b] none [cz (iv a / iv b), ci 0] := by
  refine AC.by_walk (rs := [.cell 4 40, .tmp 5]) ords Try.func134 (by rfl) (by rfl) (by rfl) (by rfl) (by rfl) ?_
  rw [iv_sg, iv_sg] at hd
  rw [iv_sg] at h0
  have hm := sg_dvd.mp hd
  have hn : nv b.2 ≠ 0 := fun h => h0 (by rw [h]; cases b.1 <;> rfl)
  have m := dexact_ok a.2 b.2 ha.2 hb.2 ha.1 hb.1 hn
  rw [if_pos hm, if_pos hm] at m
  rw [iv_sg, iv_sg, (sg_div hm).1]
  simp (disch := omega) only [wk, tis, Int.reduceNe, Int.reduceEq, Int.reduceLT, Int.reduceLE, Int.reduceAdd, Int.reduceSub, Int.reduceNeg, Int.reduceMul, Int.reduceToNat, Nat.reduceSub, Nat.reduceMul, Nat.reduceLeDiff, Nat.reduceAdd, Nat.reduceLT, Nat.reduceEqDiff, reduceCtorEq, ↓reduceIte, cpoly_len]
  refine call_by (m) (by rfl) (by simp) ?_
  simp (disch := omega) only [wk, tis, Int.reduceNe, Int.reduceEq, Int.reduceLT, Int.reduceLE, Int.reduceAdd, Int.reduceSub, Int.reduceNeg, Int.reduceMul, Int.reduceToNat, Nat.reduceSub, Nat.reduceMul, Nat.reduceLeDiff, Nat.reduceAdd, Nat.reduceLT, Nat.reduceEqDiff, reduceCtorEq, ↓reduceIte, cpoly_len]
  refine call_by ((zof_ok (a.1 != b.1) (nv a.2 / nv b.2))) (by rfl) (by simp) ?_
  simp (disch := omega) only [wk, tis, Int.reduceNe, Int.reduceEq, Int.reduceLT, Int.reduceLE, Int.reduceAdd, Int.reduceSub, Int.reduceNeg, Int.reduceMul, Int.reduceToNat, Nat.reduceSub, Nat.reduceMul, Nat.reduceLeDiff, Nat.reduceAdd, Nat.reduceLT, Nat.reduceEqDiff, reduceCtorEq, ↓reduceIte, cpoly_len]

theorem zexact_bad (a b : RI) (ha : Sz (2 ^ 38) a) (hb : Sz (2 ^ 38) b) (h0 : iv b ≠ 0) (hd : ¬ iv b ∣ iv a) : AC Try.prog 134 [cr a, cr b] none [cr (false, []), ci 4] := by
  refine AC.by_walk (rs := [.cell 4 40, .tmp 5]) ords Try.func134 (by rfl) (by rfl) (by rfl) (by rfl) (by rfl) ?_
  rw [iv_sg, iv_sg] at hd
  rw [iv_sg] at h0
  have hm : ¬ nv a.2 % nv b.2 = 0 := fun h => hd (sg_dvd.mpr h)
  have hn : nv b.2 ≠ 0 := fun h => h0 (by rw [h]; cases b.1 <;> rfl)
  have m := dexact_ok a.2 b.2 ha.2 hb.2 ha.1 hb.1 hn
  rw [if_neg hm, if_neg hm] at m
  simp (disch := omega) only [wk, tis, Int.reduceNe, Int.reduceEq, Int.reduceLT, Int.reduceLE, Int.reduceAdd, Int.reduceSub, Int.reduceNeg, Int.reduceMul, Int.reduceToNat, Nat.reduceSub, Nat.reduceMul, Nat.reduceLeDiff, Nat.reduceAdd, Nat.reduceLT, Nat.reduceEqDiff, reduceCtorEq, ↓reduceIte, cpoly_len]
  refine call_by (m) (by rfl) (by simp) ?_
  simp (disch := omega) only [wk, tis, Int.reduceNe, Int.reduceEq, Int.reduceLT, Int.reduceLE, Int.reduceAdd, Int.reduceSub, Int.reduceNeg, Int.reduceMul, Int.reduceToNat, Nat.reduceSub, Nat.reduceMul, Nat.reduceLeDiff, Nat.reduceAdd, Nat.reduceLT, Nat.reduceEqDiff, reduceCtorEq, ↓reduceIte, cpoly_len]

def gz (q : List Int) : Nat := q.foldl (fun g c => Nat.gcd g c.natAbs) 0

theorem gz_take {q : List Int} {i : Nat} (h : i < q.length) : gz (q.take (i + 1)) = Nat.gcd (gz (q.take i)) (cf q i).natAbs := by
  have e : q.take (i + 1) = q.take i ++ [cf q i] := by
    rw [List.take_add_one]; congr 1; simp [cf, List.getD, h]
  rw [e, gz, List.foldl_append]; rfl

theorem zgcd_ok (p : List RI) (h : RP (2 ^ 40) (2 ^ 38) p) : AC Try.prog 132 [cw p] none [cl (wd (gz (pv p)))] := by
  refine AC.by_walk (rs := [.tmp 2]) ords Try.func132 (by rfl) (by rfl) (by rfl) (by rfl) (by rfl) ?_
  have hl := h.1
  simp (disch := omega) only [wk, tis, Int.reduceNe, Int.reduceEq, Int.reduceLT, Int.reduceLE, Int.reduceAdd, Int.reduceSub, Int.reduceNeg, Int.reduceMul, Int.reduceToNat, Nat.reduceSub, Nat.reduceMul, Nat.reduceLeDiff, Nat.reduceAdd, Nat.reduceLT, Nat.reduceEqDiff, reduceCtorEq, ↓reduceIte, cpoly_len]
  refine aloop_w (.iv 3 6 1 false 87 1 [] (by simp (disch := omega) only [wk, tis, Int.reduceNe, Int.reduceEq, Int.reduceLT, Int.reduceLE, Int.reduceAdd, Int.reduceSub, Int.reduceNeg, Int.reduceMul, Int.reduceToNat, Nat.reduceSub, Nat.reduceMul, Nat.reduceLeDiff, Nat.reduceAdd, Nat.reduceLT, Nat.reduceEqDiff, reduceCtorEq, ↓reduceIte, cpoly_len]) (by simp (disch := omega) only [wk, tis, Int.reduceNe, Int.reduceEq, Int.reduceLT, Int.reduceLE, Int.reduceAdd, Int.reduceSub, Int.reduceNeg, Int.reduceMul, Int.reduceToNat, Nat.reduceSub, Nat.reduceMul, Nat.reduceLeDiff, Nat.reduceAdd, Nat.reduceLT, Nat.reduceEqDiff, reduceCtorEq, ↓reduceIte, cpoly_len]) (.refl _ _)) (fun f H => ∃ (i : Nat), i ≤ p.length ∧ (wd (gz ((pv p).take i))).length ≤ 2 ^ 38 ∧ f 9 = .iv (.int .i64 i) ∧ f 7 = .iv (.sl (raws p)) ∧ f 8 = .iv (.int .i64 p.length) ∧ f 3 = .iv (.sl (lims (wd (gz ((pv p).take i)))))) (fun f H => (p.length - intAt f 9).toNat) ?_ ?_
  · refine ⟨0, by omega, by rw [List.take_zero, gz, List.foldl_nil, wd_zero]; exact Nat.zero_le _, ?_⟩
    simp (disch := omega) only [wk, tis, Int.reduceNe, Int.reduceEq, Int.reduceLT, Int.reduceLE, Int.reduceAdd, Int.reduceSub, Int.reduceNeg, Int.reduceMul, Int.reduceToNat, Nat.reduceSub, Nat.reduceMul, Nat.reduceLeDiff, Nat.reduceAdd, Nat.reduceLT, Nat.reduceEqDiff, reduceCtorEq, ↓reduceIte, cpoly_len, List.take_zero, gz, List.foldl_nil, wd_zero, lims_nil]
  rintro f H ⟨i, hi, hs, hF⟩
  rw [intAt_of hF.1]
  simp (disch := omega) only [wk, tis, Int.reduceNe, Int.reduceEq, Int.reduceLT, Int.reduceLE, Int.reduceAdd, Int.reduceSub, Int.reduceNeg, Int.reduceMul, Int.reduceToNat, Nat.reduceSub, Nat.reduceMul, Nat.reduceLeDiff, Nat.reduceAdd, Nat.reduceLT, Nat.reduceEqDiff, reduceCtorEq, ↓reduceIte, cpoly_len, hF]
  refine if_by (fun hlt => ?_) (fun hlt => ?_)
  · have hc := h.get i
    have m := gcd_ok (wd (gz ((pv p).take i))) (p.getD i (false, [])).2 (lim_wd _) hc.2 hs hc.1
    rw [nv_wd, ← iv_abs, ← cf_pv, ← gz_take (by rw [pv_len]; omega)] at m
    simp (disch := omega) only [wk, tis, Int.reduceNe, Int.reduceEq, Int.reduceLT, Int.reduceLE, Int.reduceAdd, Int.reduceSub, Int.reduceNeg, Int.reduceMul, Int.reduceToNat, Nat.reduceSub, Nat.reduceMul, Nat.reduceLeDiff, Nat.reduceAdd, Nat.reduceLT, Nat.reduceEqDiff, reduceCtorEq, ↓reduceIte, cpoly_len, hF]
    refine call_by (m) (by first | rfl | (simp only [tocvs, tocv, hF]; rfl) | (simp only [tocvs, tocv, toboxes, tobox, updH_at, Nat.reduceEqDiff, ↓reduceIte, hF]; rfl)) (by simp) ?_
    simp (disch := omega) only [wk, tis, Int.reduceNe, Int.reduceEq, Int.reduceLT, Int.reduceLE, Int.reduceAdd, Int.reduceSub, Int.reduceNeg, Int.reduceMul, Int.reduceToNat, Nat.reduceSub, Nat.reduceMul, Nat.reduceLeDiff, Nat.reduceAdd, Nat.reduceLT, Nat.reduceEqDiff, reduceCtorEq, ↓reduceIte, cpoly_len, hF]
    refine ⟨⟨i + 1, by omega, ?_, by omega, rfl⟩, by omega⟩
    rw [gz_take (by rw [pv_len]; omega)]
    rcases Nat.eq_zero_or_pos (cf (pv p) i).natAbs with h0 | h0
    · rw [h0, Nat.gcd_zero_right]; exact hs
    · refine Nat.le_trans (wd_len_mono (Nat.gcd_le_right _ h0)) ?_
      rw [cf_pv, iv_abs]
      exact Nat.le_trans (nv_len hc.2) hc.1
  · simp (disch := omega) only [wk, tis, Int.reduceNe, Int.reduceEq, Int.reduceLT, Int.reduceLE, Int.reduceAdd, Int.reduceSub, Int.reduceNeg, Int.reduceMul, Int.reduceToNat, Nat.reduceSub, Nat.reduceMul, Nat.reduceLeDiff, Nat.reduceAdd, Nat.reduceLT, Nat.reduceEqDiff, reduceCtorEq, ↓reduceIte, cpoly_len, hF]
    rw [List.take_of_length_le (by rw [pv_len]; omega)]

theorem gz_len {n k : Nat} {p : List RI} (h : RP n k p) : (wd (gz (pv p))).length ≤ k := by
  have key : ∀ i, i ≤ p.length → (wd (gz ((pv p).take i))).length ≤ k := by
    intro i
    induction i with
    | zero => intro _; rw [List.take_zero, gz, List.foldl_nil, wd_zero]; exact Nat.zero_le _
    | succ i ih =>
      intro hi
      rw [gz_take (by rw [pv_len]; omega)]
      rcases Nat.eq_zero_or_pos (cf (pv p) i).natAbs with h0 | h0
      · rw [h0, Nat.gcd_zero_right]; exact ih (by omega)
      · refine Nat.le_trans (wd_len_mono (Nat.gcd_le_right _ h0)) ?_
        rw [cf_pv, iv_abs]
        exact Nat.le_trans (nv_len (h.get i).2) (h.get i).1
  have := key p.length (Nat.le_refl _)
  rwa [List.take_of_length_le (by rw [pv_len]; exact Nat.le_refl _)] at this

/-- The content, with the leading sign. -/
def lc (q : List Int) : Int := cf q (tz q - 1)
def cont (q : List Int) : Int := sg (decide (lc q < 0)) (gz q)

theorem sign_neg (z : Int) : z.sign < 0 ↔ z < 0 := by
  rcases Int.lt_trichotomy z 0 with h | h | h
  · rw [Int.sign_eq_neg_one_of_neg h]; omega
  · subst h; simp
  · rw [Int.sign_eq_one_of_pos h]; omega

theorem pcontent_ok (p : List RI) (h : RP (2 ^ 40) (2 ^ 38) p) : AC Try.prog 79 [cw p] none [cz (cont (pv p))] := by
  refine AC.by_walk (rs := [.cell 2 40]) ords Try.func79 (by rfl) (by rfl) (by rfl) (by rfl) (by rfl) ?_
  have hl := h.1
  have hg := gz_len h
  have hs := zsign_ok (canon (lc (pv p))) ((sz_canon _).mono (by
    have := (h.pv).cf (tz (pv p) - 1)
    unfold lc
    omega))
  rw [iv_canon] at hs
  simp (disch := omega) only [wk, tis, Int.reduceNe, Int.reduceEq, Int.reduceLT, Int.reduceLE, Int.reduceAdd, Int.reduceSub, Int.reduceNeg, Int.reduceMul, Int.reduceToNat, Nat.reduceSub, Nat.reduceMul, Nat.reduceLeDiff, Nat.reduceAdd, Nat.reduceLT, Nat.reduceEqDiff, reduceCtorEq, ↓reduceIte, cpoly_len]
  refine call_by ((plead_ok p (h.mono (by omega) (by omega)))) (by rfl) (by simp) ?_
  simp (disch := omega) only [wk, tis, Int.reduceNe, Int.reduceEq, Int.reduceLT, Int.reduceLE, Int.reduceAdd, Int.reduceSub, Int.reduceNeg, Int.reduceMul, Int.reduceToNat, Nat.reduceSub, Nat.reduceMul, Nat.reduceLeDiff, Nat.reduceAdd, Nat.reduceLT, Nat.reduceEqDiff, reduceCtorEq, ↓reduceIte, cpoly_len]
  refine call_by (hs) (by rfl) (by simp) ?_
  simp (disch := omega) only [wk, tis, Int.reduceNe, Int.reduceEq, Int.reduceLT, Int.reduceLE, Int.reduceAdd, Int.reduceSub, Int.reduceNeg, Int.reduceMul, Int.reduceToNat, Nat.reduceSub, Nat.reduceMul, Nat.reduceLeDiff, Nat.reduceAdd, Nat.reduceLT, Nat.reduceEqDiff, reduceCtorEq, ↓reduceIte, cpoly_len]
  refine call_by ((zgcd_ok p h)) (by rfl) (by simp) ?_
  simp (disch := omega) only [wk, tis, Int.reduceNe, Int.reduceEq, Int.reduceLT, Int.reduceLE, Int.reduceAdd, Int.reduceSub, Int.reduceNeg, Int.reduceMul, Int.reduceToNat, Nat.reduceSub, Nat.reduceMul, Nat.reduceLeDiff, Nat.reduceAdd, Nat.reduceLT, Nat.reduceEqDiff, reduceCtorEq, ↓reduceIte, cpoly_len]
  have m := znat_ok (decide (lc (pv p) < 0)) (gz (pv p)) (by omega)
  have e : (decide ((lc (pv p)).sign < 0)) = decide (lc (pv p) < 0) := by rw [decide_eq_decide]; exact sign_neg _
  rw [e]
  refine call_by (m) (by rfl) (by simp) ?_
  simp (disch := omega) only [wk, tis, Int.reduceNe, Int.reduceEq, Int.reduceLT, Int.reduceLE, Int.reduceAdd, Int.reduceSub, Int.reduceNeg, Int.reduceMul, Int.reduceToNat, Nat.reduceSub, Nat.reduceMul, Nat.reduceLeDiff, Nat.reduceAdd, Nat.reduceLT, Nat.reduceEqDiff, reduceCtorEq, ↓reduceIte, cpoly_len]
  rfl

def pdivs (c : Int) (q : List Int) : List Int := q.map (· / c)

theorem pover_zero (p : List RI) (c : RI) (hp : RP (2 ^ 40) (2 ^ 38) p) (hc : Sz (2 ^ 38) c) (h0 : iv c = 0) : AC Try.prog 83 [cw p, cr c] none [cw [], ci 1] := by
  refine AC.by_walk (rs := [.tmp 4, .tmp 5]) ords Try.func83 (by rfl) (by rfl) (by rfl) (by rfl) (by rfl) ?_
  simp (disch := omega) only [wk, tis, Int.reduceNe, Int.reduceEq, Int.reduceLT, Int.reduceLE, Int.reduceAdd, Int.reduceSub, Int.reduceNeg, Int.reduceMul, Int.reduceToNat, Nat.reduceSub, Nat.reduceMul, Nat.reduceLeDiff, Nat.reduceAdd, Nat.reduceLT, Nat.reduceEqDiff, reduceCtorEq, ↓reduceIte, cpoly_len]
  have hs := zsign_ok c (hc.mono (by omega))
  rw [h0] at hs
  rw [Int.sign_zero] at hs
  refine call_by (hs) (by rfl) (by simp) ?_
  simp (disch := omega) only [wk, tis, Int.reduceNe, Int.reduceEq, Int.reduceLT, Int.reduceLE, Int.reduceAdd, Int.reduceSub, Int.reduceNeg, Int.reduceMul, Int.reduceToNat, Nat.reduceSub, Nat.reduceMul, Nat.reduceLeDiff, Nat.reduceAdd, Nat.reduceLT, Nat.reduceEqDiff, reduceCtorEq, ↓reduceIte, cpoly_len]

theorem cf_pdivs (c : Int) (q : List Int) (k : Nat) : cf (pdivs c q) k = cf q k / c := by
  unfold pdivs cf
  rw [List.getD_eq_getElem?_getD, List.getD_eq_getElem?_getD, List.getElem?_map]
  cases q[k]? with
  | none => simp
  | some x => rfl

theorem zl_div {a b : Int} (h : b ∣ a) : zl (a / b) ≤ zl a := by
  obtain ⟨k, rfl⟩ := h
  by_cases h0 : b = 0
  · subst h0; simp
  · rw [Int.mul_ediv_cancel_left _ h0]
    unfold zl
    rw [Int.natAbs_mul]
    exact wd_len_mono (Nat.le_mul_of_pos_left _ (by omega))

theorem pover_ok (p : List RI) (c : RI) (hp : RP (2 ^ 30) (2 ^ 35) p) (hc : Sz (2 ^ 35) c) (h0 : iv c ≠ 0) (hd : ∀ k, iv c ∣ cf (pv p) k) : AC Try.prog 83 [cw p, cr c] none [cp (pdivs (iv c) (pv p)), ci 0] := by
  refine AC.by_walk (rs := [.tmp 4, .tmp 5]) ords Try.func83 (by rfl) (by rfl) (by rfl) (by rfl) (by rfl) ?_
  have hl := hp.1
  have hs0 : (iv c).sign ≠ 0 := fun h => h0 (Int.sign_eq_zero_iff_zero.mp h)
  simp (disch := omega) only [wk, tis, Int.reduceNe, Int.reduceEq, Int.reduceLT, Int.reduceLE, Int.reduceAdd, Int.reduceSub, Int.reduceNeg, Int.reduceMul, Int.reduceToNat, Nat.reduceSub, Nat.reduceMul, Nat.reduceLeDiff, Nat.reduceAdd, Nat.reduceLT, Nat.reduceEqDiff, reduceCtorEq, ↓reduceIte, cpoly_len]
  refine call_by ((zsign_ok c (hc.mono (by omega)))) (by rfl) (by simp) ?_
  simp (disch := omega) only [wk, tis, Int.reduceNe, Int.reduceEq, Int.reduceLT, Int.reduceLE, Int.reduceAdd, Int.reduceSub, Int.reduceNeg, Int.reduceMul, Int.reduceToNat, Nat.reduceSub, Nat.reduceMul, Nat.reduceLeDiff, Nat.reduceAdd, Nat.reduceLT, Nat.reduceEqDiff, reduceCtorEq, ↓reduceIte, cpoly_len]
  simp (disch := omega) only [wk, tis, Int.reduceNe, Int.reduceEq, Int.reduceLT, Int.reduceLE, Int.reduceAdd, Int.reduceSub, Int.reduceNeg, Int.reduceMul, Int.reduceToNat, Nat.reduceSub, Nat.reduceMul, Nat.reduceLeDiff, Nat.reduceAdd, Nat.reduceLT, Nat.reduceEqDiff, reduceCtorEq, ↓reduceIte, cpoly_len, hs0]
  refine aloop_by (fun f H => ∃ (i st st3 : Nat) (out : List Int), i ≤ p.length ∧ out.length = p.length ∧ (∀ k, zl (cf out k) ≤ 2 ^ 36) ∧ (∀ k, k < i → cf out k = cf (pv p) k / iv c) ∧ f 18 = .iv (.int .i64 i) ∧ f 0 = .iv (.sl (raws p)) ∧ f 3 = .hp 3 st3 0 0 ∧ f 6 = .hs 15 st ∧ f 17 = .iv (.int .i64 p.length) ∧ H 15 = .blk false st 40 2 (raws (out.map canon)) ∧ H 3 = .blk false st3 40 2 [prow c]) (fun f H => (p.length - intAt f 18).toNat) ?_ ?_
  · refine ⟨0, 1, 1, List.replicate p.length 0, by omega, by simp, fun k => by rw [cf_rep, zl_zero]; omega, fun k hk => by omega, ?_⟩
    simp (disch := omega) only [wk, tis, Int.reduceNe, Int.reduceEq, Int.reduceLT, Int.reduceLE, Int.reduceAdd, Int.reduceSub, Int.reduceNeg, Int.reduceMul, Int.reduceToNat, Nat.reduceSub, Nat.reduceMul, Nat.reduceLeDiff, Nat.reduceAdd, Nat.reduceLT, Nat.reduceEqDiff, reduceCtorEq, ↓reduceIte, cpoly_len, Int.toNat_natCast, rep_canon]
  rintro f H ⟨i, st, st3, out, hi, hol, hz, hv, hF⟩
  rw [intAt_of hF.1]
  simp (disch := omega) only [wk, tis, Int.reduceNe, Int.reduceEq, Int.reduceLT, Int.reduceLE, Int.reduceAdd, Int.reduceSub, Int.reduceNeg, Int.reduceMul, Int.reduceToNat, Nat.reduceSub, Nat.reduceMul, Nat.reduceLeDiff, Nat.reduceAdd, Nat.reduceLT, Nat.reduceEqDiff, reduceCtorEq, ↓reduceIte, cpoly_len, hF]
  refine if_by (fun hlt => ?_) (fun hlt => ?_)
  · have hq : (out.map canon).length = p.length := by rw [List.length_map, hol]
    have hdi := hd i
    rw [cf_pv] at hdi
    have m := zexact_ok (p.getD i (false, [])) c ((hp.get i).mono (by omega)) (hc.mono (by omega)) h0 hdi
    rw [← cf_pv] at m
    simp (disch := omega) only [wk, tis, Int.reduceNe, Int.reduceEq, Int.reduceLT, Int.reduceLE, Int.reduceAdd, Int.reduceSub, Int.reduceNeg, Int.reduceMul, Int.reduceToNat, Nat.reduceSub, Nat.reduceMul, Nat.reduceLeDiff, Nat.reduceAdd, Nat.reduceLT, Nat.reduceEqDiff, reduceCtorEq, ↓reduceIte, cpoly_len, hF, hq]
    refine ⟨tmps_by (by kernel_rfl), ?_⟩
    refine call_by (m) (by first | rfl | (simp only [tocvs, tocv, hF, hq]; rfl) | (simp only [tocvs, tocv, toboxes, tobox, updH_at, Nat.reduceEqDiff, ↓reduceIte, hF, hq]; rfl)) (by simp) ?_
    simp (disch := omega) only [wk, tis, Int.reduceNe, Int.reduceEq, Int.reduceLT, Int.reduceLE, Int.reduceAdd, Int.reduceSub, Int.reduceNeg, Int.reduceMul, Int.reduceToNat, Nat.reduceSub, Nat.reduceMul, Nat.reduceLeDiff, Nat.reduceAdd, Nat.reduceLT, Nat.reduceEqDiff, reduceCtorEq, ↓reduceIte, cpoly_len, hF, hq]
    first | exact log_by (by kernel_rfl) | refine ⟨log_by (by kernel_rfl), ?_⟩
    refine ⟨⟨i + 1, st, st3, out.set i (cf (pv p) i / iv c), by omega, by simp [hol], fun k => ?_, fun k hk => ?_, by omega, rfl, rfl, rfl, rfl⟩, by omega⟩
    · rw [cf_set (by omega)]
      split
      · have := zl_div (hd i)
        have := hp.pv.cf i
        omega
      · exact hz k
    · rw [cf_set (by omega)]
      split
      · rename_i e; rw [e]
      · exact hv k (by omega)
  · simp (disch := omega) only [wk, tis, Int.reduceNe, Int.reduceEq, Int.reduceLT, Int.reduceLE, Int.reduceAdd, Int.reduceSub, Int.reduceNeg, Int.reduceMul, Int.reduceToNat, Nat.reduceSub, Nat.reduceMul, Nat.reduceLeDiff, Nat.reduceAdd, Nat.reduceLT, Nat.reduceEqDiff, reduceCtorEq, ↓reduceIte, cpoly_len, hF]
    have e : cp (pdivs (iv c) (pv p)) = cp (pv (out.map canon)) := by
      refine cp_ext fun k => ?_
      rw [pv_canon, cf_pdivs]
      by_cases hk : k < p.length
      · exact (hv k (by omega)).symm
      · rw [cf_ge (q := out) (by omega), cf_ge (by rw [pv_len]; omega)]; simp
    rw [e]
    refine call_by ((pnorm_ok (out.map canon) (RP.canon (.of (by omega) fun k => Nat.le_trans (hz k) (by omega))))) (by first | rfl | (simp only [tocvs, tocv, hF]; rfl) | (simp only [tocvs, tocv, toboxes, tobox, updH_at, Nat.reduceEqDiff, ↓reduceIte, hF]; rfl)) (by simp) ?_
    simp (disch := omega) only [wk, tis, Int.reduceNe, Int.reduceEq, Int.reduceLT, Int.reduceLE, Int.reduceAdd, Int.reduceSub, Int.reduceNeg, Int.reduceMul, Int.reduceToNat, Nat.reduceSub, Nat.reduceMul, Nat.reduceLeDiff, Nat.reduceAdd, Nat.reduceLT, Nat.reduceEqDiff, reduceCtorEq, ↓reduceIte, cpoly_len, hF]

theorem gz_dvd (q : List Int) (k : Nat) : (gz q : Int) ∣ cf q k := by
  have key : ∀ i, i ≤ q.length → ∀ k, k < i → (gz (q.take i) : Int) ∣ cf q k := by
    intro i
    induction i with
    | zero => intro _ k hk; omega
    | succ i ih =>
      intro hi k hk
      rw [gz_take (by omega)]
      rcases Nat.lt_or_ge k i with h | h
      · exact Int.dvd_trans (Int.natCast_dvd_natCast.mpr (Nat.gcd_dvd_left _ _)) (ih (by omega) k h)
      · obtain rfl : k = i := by omega
        exact Int.ofNat_dvd_left.mpr (Nat.gcd_dvd_right _ _)
  rcases Nat.lt_or_ge k q.length with h | h
  · have := key q.length (Nat.le_refl _) k h
    rwa [List.take_of_length_le (Nat.le_refl _)] at this
  · rw [cf_ge h]; exact Int.dvd_zero _

theorem cont_dvd (q : List Int) (k : Nat) : cont q ∣ cf q k := by
  have := gz_dvd q k
  unfold cont sg
  split
  · exact Int.neg_dvd.mpr this
  · exact this

theorem cont_natAbs (q : List Int) : (cont q).natAbs = gz q := by
  unfold cont sg
  split <;> simp

/-- The primitive part. -/
def prim (q : List Int) : List Int := pdivs (cont q) q

theorem pprim_ok (p : List RI) (h : RP (2 ^ 30) (2 ^ 35) p) : AC Try.prog 80 [cw p] none [cp (prim (pv p))] := by
  refine AC.by_walk (rs := [.tmp 2]) ords Try.func80 (by rfl) (by rfl) (by rfl) (by rfl) (by rfl) ?_
  have hg := gz_len h
  have hsz : Sz (2 ^ 35) (canon (cont (pv p))) := (sz_canon _).mono (by unfold zl; rw [cont_natAbs]; exact hg)
  simp (disch := omega) only [wk, tis, Int.reduceNe, Int.reduceEq, Int.reduceLT, Int.reduceLE, Int.reduceAdd, Int.reduceSub, Int.reduceNeg, Int.reduceMul, Int.reduceToNat, Nat.reduceSub, Nat.reduceMul, Nat.reduceLeDiff, Nat.reduceAdd, Nat.reduceLT, Nat.reduceEqDiff, reduceCtorEq, ↓reduceIte, cpoly_len]
  refine call_by ((pcontent_ok p (h.mono (by omega) (by omega)))) (by rfl) (by simp) ?_
  simp (disch := omega) only [wk, tis, Int.reduceNe, Int.reduceEq, Int.reduceLT, Int.reduceLE, Int.reduceAdd, Int.reduceSub, Int.reduceNeg, Int.reduceMul, Int.reduceToNat, Nat.reduceSub, Nat.reduceMul, Nat.reduceLeDiff, Nat.reduceAdd, Nat.reduceLT, Nat.reduceEqDiff, reduceCtorEq, ↓reduceIte, cpoly_len]
  by_cases h0 : cont (pv p) = 0
  · have m := pover_zero p (canon (cont (pv p))) (h.mono (by omega) (by omega)) (hsz.mono (by omega)) (by rw [iv_canon]; exact h0)
    have e : cp (prim (pv p)) = cw [] := by
      have : cp (prim (pv p)) = cp [] := cp_ext fun k => by
        unfold prim
        rw [cf_pdivs, h0, Int.ediv_zero]; rfl
      rw [this]; rfl
    rw [e]
    refine call_by (m) (by rfl) (by simp) ?_
    simp (disch := omega) only [wk, tis, Int.reduceNe, Int.reduceEq, Int.reduceLT, Int.reduceLE, Int.reduceAdd, Int.reduceSub, Int.reduceNeg, Int.reduceMul, Int.reduceToNat, Nat.reduceSub, Nat.reduceMul, Nat.reduceLeDiff, Nat.reduceAdd, Nat.reduceLT, Nat.reduceEqDiff, reduceCtorEq, ↓reduceIte, cpoly_len]
  · have m := pover_ok p (canon (cont (pv p))) h hsz (by rw [iv_canon]; exact h0) (fun k => by rw [iv_canon]; exact cont_dvd _ k)
    rw [iv_canon] at m
    refine call_by (m) (by rfl) (by simp) ?_
    simp (disch := omega) only [wk, tis, Int.reduceNe, Int.reduceEq, Int.reduceLT, Int.reduceLE, Int.reduceAdd, Int.reduceSub, Int.reduceNeg, Int.reduceMul, Int.reduceToNat, Nat.reduceSub, Nat.reduceMul, Nat.reduceLeDiff, Nat.reduceAdd, Nat.reduceLT, Nat.reduceEqDiff, reduceCtorEq, ↓reduceIte, cpoly_len]
    rfl
end Go.Proofs.Ythgecppfgdadiaa

namespace Go.Proofs.Ythgecppfgdadiaa
open Go Go.Proofs Go.AL
set_option linter.unusedSimpArgs false
set_option linter.unusedVariables false

theorem gz_greatest (q : List Int) (d : Nat) (h : ∀ k, (d : Int) ∣ cf q k) : d ∣ gz q := by
  have key : ∀ i, i ≤ q.length → d ∣ gz (q.take i) := by
    intro i
    induction i with
    | zero => intro _; exact Nat.dvd_zero _
    | succ i ih =>
      intro hi
      rw [gz_take (by omega)]
      exact Nat.dvd_gcd (ih (by omega)) (Int.ofNat_dvd_left.mp (h i))
  have := key q.length (Nat.le_refl _)
  rwa [List.take_of_length_le (Nat.le_refl _)] at this

theorem gz_eq {p q : List Int} (h : ∀ k, cf p k = cf q k) : gz p = gz q :=
  Nat.dvd_antisymm (gz_greatest q _ fun k => by rw [← h]; exact gz_dvd p k) (gz_greatest p _ fun k => by rw [h]; exact gz_dvd q k)

theorem gz_scale (c : Int) (q : List Int) : gz (pscale c q) = c.natAbs * gz q := by
  have key : ∀ (q : List Int) (g : Nat), (pscale c q).foldl (fun g x => Nat.gcd g x.natAbs) (c.natAbs * g) = c.natAbs * q.foldl (fun g x => Nat.gcd g x.natAbs) g := by
    intro q
    induction q with
    | nil => intro g; rfl
    | cons x xs ih =>
      intro g
      have e : pscale c (x :: xs) = (x * c) :: pscale c xs := rfl
      rw [e, List.foldl_cons, List.foldl_cons, Int.natAbs_mul, Nat.mul_comm x.natAbs, Nat.gcd_mul_left, ih]
  exact key q 0

/-- A divisor that cannot be split. -/
theorem prime_fac : ∀ n : Nat, 1 < n → ∃ r, 1 < r ∧ r ∣ n ∧ ∀ x : Nat, r ∣ x ∨ Nat.gcd r x = 1 := by
  intro n
  induction n using Nat.strongRecOn with
  | _ n ih =>
    intro hn
    by_cases h : ∀ x : Nat, n ∣ x ∨ Nat.gcd n x = 1
    · exact ⟨n, hn, Nat.dvd_refl _, h⟩
    · obtain ⟨x, hx⟩ := Classical.not_forall.mp h
      have h1 : ¬ n ∣ x := fun h => hx (.inl h)
      have h2 : ¬ Nat.gcd n x = 1 := fun h => hx (.inr h)
      have h3 : Nat.gcd n x ≤ n := Nat.gcd_le_left _ (by omega)
      have h4 : Nat.gcd n x ≠ n := fun h => h1 (by rw [← h]; exact Nat.gcd_dvd_right _ _)
      have h5 : Nat.gcd n x ≠ 0 := fun h => by have := Nat.eq_zero_of_gcd_eq_zero_left h; omega
      obtain ⟨r, hr, hrd, hp⟩ := ih (Nat.gcd n x) (by omega) (by omega)
      exact ⟨r, hr, Nat.dvd_trans hrd (Nat.gcd_dvd_left _ _), hp⟩

theorem prime_mul {r : Nat} (hp : ∀ x : Nat, r ∣ x ∨ Nat.gcd r x = 1) {x y : Int} (h : (r : Int) ∣ x * y) : (r : Int) ∣ x ∨ (r : Int) ∣ y := by
  have h1 := Int.ofNat_dvd_left.mp h
  rw [Int.natAbs_mul] at h1
  rcases hp x.natAbs with h2 | h2
  · exact .inl (Int.ofNat_dvd_left.mpr h2)
  · exact .inr (Int.ofNat_dvd_left.mpr (Nat.Coprime.dvd_of_dvd_mul_left h2 h1))

theorem sumN_dvd {r : Int} : ∀ {n : Nat} {f : Nat → Int}, (∀ k, k < n → r ∣ f k) → r ∣ sumN n f
  | 0, f, _ => Int.dvd_zero _
  | n + 1, f, h => Int.dvd_add (sumN_dvd fun k hk => h k (by omega)) (h n (by omega))

theorem sumN_dvd_one {r : Int} {n i : Nat} {f : Nat → Int} (hi : i < n) (h : ∀ k, k < n → k ≠ i → r ∣ f k) (hs : r ∣ sumN n f) : r ∣ f i := by
  have e : sumN n f = sumN n (fun k => if k = i then 0 else f k) + f i := by
    have h1 : sumN n (fun k => if k = i then f k else 0) = f i := by
      rw [sumN_one _ hi fun k _ hk => if_neg hk, if_pos rfl]
    rw [← h1, ← sumN_add]
    refine sumN_congr fun k _ => ?_
    by_cases hk : k = i
    · rw [if_pos hk, if_pos hk, Int.zero_add]
    · rw [if_neg hk, if_neg hk, Int.add_zero]
  have h2 : r ∣ sumN n (fun k => if k = i then 0 else f k) := sumN_dvd fun k hk => by
    by_cases hki : k = i
    · simp only [if_pos hki]; exact Int.dvd_zero _
    · simp only [if_neg hki]; exact h k hk hki
  rw [e] at hs
  exact (Int.dvd_add_right h2).mp hs

theorem gauss_prime {r : Nat} (hp : ∀ x : Nat, r ∣ x ∨ Nat.gcd r x = 1) {p q : List Int} (h : ∀ k, (r : Int) ∣ cf (pmul p q) k) : ∀ n i j, i + j = n → (r : Int) ∣ cf p i ∨ (r : Int) ∣ cf q j := by
  intro n
  induction n using Nat.strongRecOn with
  | _ n ih =>
    intro i j hij
    by_cases h1 : (r : Int) ∣ cf p i
    · exact .inl h1
    by_cases h2 : (r : Int) ∣ cf q j
    · exact .inr h2
    exfalso
    have h3 := h n
    rw [cf_pmul, PS.cv_conv, PS.conv] at h3
    have h4 := sumN_dvd_one (i := i) (by omega) (fun k hk hki => ?_) h3
    · rw [show n - i = j by omega] at h4
      rcases prime_mul hp h4 with h5 | h5
      · exact h1 h5
      · exact h2 h5
    · rcases Nat.lt_or_ge k i with h5 | h5
      · rcases ih (k + j) (by omega) k j rfl with h6 | h6
        · exact Int.dvd_trans h6 (Int.dvd_mul_right _ _)
        · exact absurd h6 h2
      · rcases ih (i + (n - k)) (by omega) i (n - k) rfl with h6 | h6
        · exact absurd h6 h1
        · exact Int.dvd_trans h6 (Int.dvd_mul_left _ _)

theorem gauss_gz {p q : List Int} (hp : gz p = 1) (hq : gz q = 1) : gz (pmul p q) = 1 := by
  rcases Nat.lt_trichotomy (gz (pmul p q)) 1 with h | h | h
  · exfalso
    obtain ⟨r, hr, hrd, hpr⟩ := prime_fac 2 (by decide)
    have h0 : gz (pmul p q) = 0 := by omega
    have hd : ∀ k, (r : Int) ∣ cf (pmul p q) k := fun k => by
      have := gz_dvd (pmul p q) k
      rw [h0] at this
      rw [Int.zero_dvd.mp this]
      exact Int.dvd_zero _
    have key := gauss_prime hpr hd
    by_cases ha : ∀ i, (r : Int) ∣ cf p i
    · have := gz_greatest p r ha
      rw [hp] at this
      have := Nat.le_of_dvd (by decide) this
      omega
    · obtain ⟨i, hi⟩ := Classical.not_forall.mp ha
      have := gz_greatest q r fun j => (key _ i j rfl).resolve_left hi
      rw [hq] at this
      have := Nat.le_of_dvd (by decide) this
      omega
  · exact h
  · exfalso
    obtain ⟨r, hr, hrd, hpr⟩ := prime_fac _ h
    have hd : ∀ k, (r : Int) ∣ cf (pmul p q) k := fun k => Int.dvd_trans (Int.natCast_dvd_natCast.mpr hrd) (gz_dvd _ k)
    have key := gauss_prime hpr hd
    by_cases ha : ∀ i, (r : Int) ∣ cf p i
    · have := gz_greatest p r ha
      rw [hp] at this
      have := Nat.le_of_dvd (by decide) this
      omega
    · obtain ⟨i, hi⟩ := Classical.not_forall.mp ha
      have := gz_greatest q r fun j => (key _ i j rfl).resolve_left hi
      rw [hq] at this
      have := Nat.le_of_dvd (by decide) this
      omega

theorem lc_spec {q : List Int} {n : Nat} (h : cf q n ≠ 0) (h0 : ∀ k, n < k → cf q k = 0) : lc q = cf q n := by
  unfold lc
  rw [tz_spec h h0, Nat.add_sub_cancel]

theorem lc_ne {q : List Int} (h : gz q ≠ 0) : tz q ≠ 0 ∧ lc q ≠ 0 := by
  have h1 : tz q ≠ 0 := fun h1 => by
    have h2 : (0 : Nat) ∣ gz q := gz_greatest q 0 fun k => by rw [tz_zero_iff.mp h1 k]; exact Int.dvd_zero _
    exact h (Nat.eq_zero_of_zero_dvd h2)
  exact ⟨h1, cf_tz_pred h1⟩

/-- Primitive, with a positive leading coefficient. -/
def Prm (q : List Int) : Prop := gz q = 1 ∧ 0 < lc q

theorem lc_scale {T R : List Int} {c : Int} (h : ∀ k, cf T k = c * cf R k) (hR : lc R ≠ 0) : lc T = c * lc R := by
  have hR' : tz R ≠ 0 := fun h0 => hR (by unfold lc; exact tz_zero_iff.mp h0 _)
  by_cases hc : c = 0
  · unfold lc; rw [h, hc, Int.zero_mul, Int.zero_mul]
  · have e : lc T = cf T (tz R - 1) := lc_spec (by rw [h]; exact Int.mul_ne_zero hc hR) fun k hk => by rw [h, cf_ge_tz R (by omega), Int.mul_zero]
    rw [e, h]; rfl

theorem gz_mul {T R : List Int} {c : Int} (h : ∀ k, cf T k = c * cf R k) : gz T = c.natAbs * gz R := by
  rw [← gz_scale]
  exact gz_eq fun k => by rw [h, cf_pscale, Int.mul_comm]

theorem sg_abs {c l : Int} (hl : 0 < l) : sg (decide (c * l < 0)) c.natAbs = c := by
  unfold sg
  by_cases hc : c < 0
  · rw [decide_eq_true (Int.mul_neg_of_neg_of_pos hc hl)]
    simp only [↓reduceIte]; omega
  · have h1 : ¬ c * l < 0 := by have := Int.mul_nonneg (show 0 ≤ c by omega) (show 0 ≤ l by omega); omega
    rw [decide_eq_false h1]
    simp only [Bool.false_eq_true, ↓reduceIte]; omega

theorem cont_of {T R : List Int} {c : Int} (hR : Prm R) (h : ∀ k, cf T k = c * cf R k) : cont T = c := by
  unfold cont
  rw [gz_mul h, hR.1, Nat.mul_one, lc_scale h (by have := hR.2; omega)]
  exact sg_abs hR.2

theorem prim_of {T R : List Int} {c : Int} (hR : Prm R) (hc : c ≠ 0) (h : ∀ k, cf T k = c * cf R k) (k : Nat) : cf (prim T) k = cf R k := by
  unfold prim
  rw [cf_pdivs, cont_of hR h, h, Int.mul_ediv_cancel_left _ hc]

theorem cf_prim (q : List Int) (k : Nat) : cf q k = cont q * cf (prim q) k := by
  unfold prim
  rw [cf_pdivs, Int.mul_ediv_cancel' (cont_dvd q k)]

theorem prm_prim {q : List Int} (h : cont q ≠ 0) : Prm (prim q) := by
  have h0 : gz q ≠ 0 := fun h0 => h (Int.natAbs_eq_zero.mp (by rw [cont_natAbs]; exact h0))
  have h1 := gz_mul (cf_prim q)
  rw [cont_natAbs] at h1
  have h2 : gz (prim q) = 1 := by
    have : gz q * gz (prim q) = gz q * 1 := by omega
    exact Nat.eq_of_mul_eq_mul_left (by omega) this
  refine ⟨h2, ?_⟩
  have h3 := (lc_ne (q := prim q) (by omega)).2
  have h4 := lc_scale (cf_prim q) h3
  have h5 := (lc_ne h0).2
  rcases Int.lt_trichotomy (lc (prim q)) 0 with h6 | h6 | h6
  · exfalso
    rcases Int.lt_or_gt_of_ne h5 with h7 | h7
    · have h8 : cont q < 0 := by
        unfold cont sg
        rw [decide_eq_true h7]
        simp only [↓reduceIte]; omega
      have := Int.mul_pos_of_neg_of_neg h8 h6
      omega
    · have h8 : 0 < cont q := by
        unfold cont sg
        rw [decide_eq_false (by omega)]
        simp only [Bool.false_eq_true, ↓reduceIte]; omega
      have := Int.mul_neg_of_pos_of_neg h8 h6
      omega
  · exact absurd h6 h3
  · exact h6

theorem lc_pmul {P Q : List Int} (hP : lc P ≠ 0) (hQ : lc Q ≠ 0) : lc (pmul P Q) = lc P * lc Q := by
  have hP' : tz P ≠ 0 := fun h0 => hP (by unfold lc; exact tz_zero_iff.mp h0 _)
  have hQ' : tz Q ≠ 0 := fun h0 => hQ (by unfold lc; exact tz_zero_iff.mp h0 _)
  have e1 : cf (pmul P Q) (tz P - 1 + (tz Q - 1)) = lc P * lc Q := by
    rw [cf_pmul, PS.cv_conv, PS.conv, sumN_one (j := tz P - 1) _ (by omega) fun i hi hne => ?_]
    · rw [show tz P - 1 + (tz Q - 1) - (tz P - 1) = tz Q - 1 by omega]; rfl
    · rcases Nat.lt_or_ge i (tz P - 1) with h | h
      · rw [cf_ge_tz Q (by omega), Int.mul_zero]
      · rw [cf_ge_tz P (by omega), Int.zero_mul]
  rw [lc_spec (n := tz P - 1 + (tz Q - 1)) (by rw [e1]; exact Int.mul_ne_zero hP hQ) fun k hk => ?_, e1]
  rw [cf_pmul, PS.cv_conv, PS.conv]
  refine sumN_zero fun i hi => ?_
  rcases Nat.lt_or_ge i (tz P) with h | h
  · rw [cf_ge_tz Q (by omega), Int.mul_zero]
  · rw [cf_ge_tz P (by omega), Int.zero_mul]

theorem prm_mul {P Q : List Int} (hP : Prm P) (hQ : Prm Q) : Prm (pmul P Q) := by
  refine ⟨gauss_gz hP.1 hQ.1, ?_⟩
  have h1 := hP.2
  have h2 := hQ.2
  rw [lc_pmul (by omega) (by omega)]
  exact Int.mul_pos h1 h2

theorem prim_zero {q : List Int} (h : cont q = 0) (k : Nat) : cf (prim q) k = 0 ∧ cf q k = 0 := by
  constructor
  · unfold prim
    rw [cf_pdivs, h, Int.ediv_zero]
  · rw [cf_prim, h, Int.zero_mul]

theorem pscale_eq (c : Int) (q : List Int) : ps (pscale c q) = PS.C c * ps q := ps_pscale c q

theorem ps_prim (q : List Int) : ps q = PS.C (cont q) * ps (prim q) := PS.ext fun k => by
  rw [PS.C_mul_c, ps_c, ps_c]; exact cf_prim q k

theorem mul_prims (p q : List Int) (k : Nat) : cf (pmul p q) k = cont p * cont q * cf (pmul (prim p) (prim q)) k := by
  have h : ps (pmul p q) = PS.C (cont p * cont q) * ps (pmul (prim p) (prim q)) := by
    rw [ps_pmul, ps_pmul, ps_prim p, ps_prim q, PS.C_mul]
    rw [← ps_prim p, ← ps_prim q]
    conv => lhs; rw [ps_prim p, ps_prim q]
    rw [PS.mul_assoc, PS.mul_assoc, ← PS.mul_assoc (ps (prim p)), PS.mul_comm (ps (prim p)) (PS.C _), PS.mul_assoc]
  have := congrArg (fun f => f.c k) h
  simp only [ps_c, PS.C_mul_c] at this
  exact this

/-- Gauss' lemma. -/
theorem cont_mul (p q : List Int) : cont (pmul p q) = cont p * cont q := by
  by_cases hp : cont p = 0
  · have h0 : ∀ k, cf (pmul p q) k = 0 := fun k => by rw [mul_prims, hp, Int.zero_mul, Int.zero_mul]
    have h1 : gz (pmul p q) = 0 := Nat.eq_zero_of_zero_dvd (gz_greatest _ 0 fun k => by rw [h0]; exact Int.dvd_zero _)
    rw [hp, Int.zero_mul]
    exact Int.natAbs_eq_zero.mp (by rw [cont_natAbs]; exact h1)
  by_cases hq : cont q = 0
  · have h0 : ∀ k, cf (pmul p q) k = 0 := fun k => by rw [mul_prims, hq, Int.mul_zero, Int.zero_mul]
    have h1 : gz (pmul p q) = 0 := Nat.eq_zero_of_zero_dvd (gz_greatest _ 0 fun k => by rw [h0]; exact Int.dvd_zero _)
    rw [hq, Int.mul_zero]
    exact Int.natAbs_eq_zero.mp (by rw [cont_natAbs]; exact h1)
  exact cont_of (prm_mul (prm_prim hp) (prm_prim hq)) (mul_prims p q)

theorem ps_zero {q : List Int} (h : ∀ k, cf q k = 0) : ps q = 0 := PS.ext h

theorem prim_mul (p q : List Int) : ps (prim (pmul p q)) = ps (pmul (prim p) (prim q)) := by
  by_cases hp : cont p = 0
  · have h1 : ps (prim p) = 0 := ps_zero fun k => (prim_zero hp k).1
    rw [ps_pmul, h1, PS.zero_mul]
    exact ps_zero fun k => (prim_zero (by rw [cont_mul, hp, Int.zero_mul]) k).1
  by_cases hq : cont q = 0
  · have h1 : ps (prim q) = 0 := ps_zero fun k => (prim_zero hq k).1
    rw [ps_pmul, h1, PS.mul_zero]
    exact ps_zero fun k => (prim_zero (by rw [cont_mul, hq, Int.mul_zero]) k).1
  exact ps_ext fun k => prim_of (prm_mul (prm_prim hp) (prm_prim hq)) (Int.mul_ne_zero hp hq) (mul_prims p q) k

theorem prm_self {q : List Int} (h : Prm q) : cont q = 1 ∧ ps (prim q) = ps q :=
  ⟨cont_of h fun k => (Int.one_mul _).symm, ps_ext fun k => prim_of h (by decide) (fun k => (Int.one_mul _).symm) k⟩

theorem cont_zero_iff {q : List Int} : cont q = 0 ↔ tz q = 0 := by
  constructor
  · intro h; exact tz_zero_iff.mpr fun k => (prim_zero h k).2
  · intro h
    refine Int.natAbs_eq_zero.mp ?_
    rw [cont_natAbs]
    exact Nat.eq_zero_of_zero_dvd (gz_greatest _ 0 fun k => by rw [tz_zero_iff.mp h k]; exact Int.dvd_zero _)

end Go.Proofs.Ythgecppfgdadiaa

namespace Go.Proofs.Ythgecppfgdadiaa
open Go Go.Proofs Go.AL
set_option linter.unusedSimpArgs false
set_option linter.unusedVariables false

theorem zsame_ok (a b : List RI) (ha : RP (2 ^ 40) (2 ^ 43) a) (hb : RP (2 ^ 40) (2 ^ 43) b) : AC Try.prog 90 [cw a, cw b] none [cb (decide (a = b))] := by
  refine AC.by_walk (rs := [.tmp 4]) ords Try.func90 (by rfl) (by rfl) (by rfl) (by rfl) (by rfl) ?_
  have hla := ha.1
  have hlb := hb.1
  simp (disch := omega) only [wk, tis, Int.reduceNe, Int.reduceEq, Int.reduceLT, Int.reduceLE, Int.reduceAdd, Int.reduceSub, Int.reduceNeg, Int.reduceMul, Int.reduceToNat, Nat.reduceSub, Nat.reduceMul, Nat.reduceLeDiff, Nat.reduceAdd, Nat.reduceLT, Nat.reduceEqDiff, reduceCtorEq, ↓reduceIte, cpoly_len]
  refine if_by (fun hz => ?_) (fun hz => ?_)
  · simp (disch := omega) only [wk, tis, Int.reduceNe, Int.reduceEq, Int.reduceLT, Int.reduceLE, Int.reduceAdd, Int.reduceSub, Int.reduceNeg, Int.reduceMul, Int.reduceToNat, Nat.reduceSub, Nat.reduceMul, Nat.reduceLeDiff, Nat.reduceAdd, Nat.reduceLT, Nat.reduceEqDiff, reduceCtorEq, ↓reduceIte, cpoly_len]
    exact (decide_eq_false (fun e => hz (by rw [e]))).symm
  have hl : a.length = b.length := by omega
  simp (disch := omega) only [wk, tis, Int.reduceNe, Int.reduceEq, Int.reduceLT, Int.reduceLE, Int.reduceAdd, Int.reduceSub, Int.reduceNeg, Int.reduceMul, Int.reduceToNat, Nat.reduceSub, Nat.reduceMul, Nat.reduceLeDiff, Nat.reduceAdd, Nat.reduceLT, Nat.reduceEqDiff, reduceCtorEq, ↓reduceIte, cpoly_len]
  refine aloop_by (fun f H => ∃ i : Nat, i ≤ a.length ∧ a.take i = b.take i ∧ f 0 = .iv (.sl (raws a)) ∧ f 1 = .iv (.sl (raws b)) ∧ f 5 = .iv (.int .i64 i)) (fun f H => (a.length - intAt f 5).toNat) ?_ ?_
  · exact ⟨0, by omega, rfl, by simp (disch := omega) only [wk, tis, Int.reduceNe, Int.reduceEq, Int.reduceLT, Int.reduceLE, Int.reduceAdd, Int.reduceSub, Int.reduceNeg, Int.reduceMul, Int.reduceToNat, Nat.reduceSub, Nat.reduceMul, Nat.reduceLeDiff, Nat.reduceAdd, Nat.reduceLT, Nat.reduceEqDiff, reduceCtorEq, ↓reduceIte, cpoly_len], by simp (disch := omega) only [wk, tis, Int.reduceNe, Int.reduceEq, Int.reduceLT, Int.reduceLE, Int.reduceAdd, Int.reduceSub, Int.reduceNeg, Int.reduceMul, Int.reduceToNat, Nat.reduceSub, Nat.reduceMul, Nat.reduceLeDiff, Nat.reduceAdd, Nat.reduceLT, Nat.reduceEqDiff, reduceCtorEq, ↓reduceIte, cpoly_len], by simp (disch := omega) only [wk, tis, Int.reduceNe, Int.reduceEq, Int.reduceLT, Int.reduceLE, Int.reduceAdd, Int.reduceSub, Int.reduceNeg, Int.reduceMul, Int.reduceToNat, Nat.reduceSub, Nat.reduceMul, Nat.reduceLeDiff, Nat.reduceAdd, Nat.reduceLT, Nat.reduceEqDiff, reduceCtorEq, ↓reduceIte, cpoly_len]⟩
  rintro f H ⟨i, hi, he, h0, h1, h5⟩
  rw [intAt_of h5]
  simp (disch := omega) only [wk, tis, Int.reduceNe, Int.reduceEq, Int.reduceLT, Int.reduceLE, Int.reduceAdd, Int.reduceSub, Int.reduceNeg, Int.reduceMul, Int.reduceToNat, Nat.reduceSub, Nat.reduceMul, Nat.reduceLeDiff, Nat.reduceAdd, Nat.reduceLT, Nat.reduceEqDiff, reduceCtorEq, ↓reduceIte, cpoly_len, h0, h1, h5]
  refine if_by (fun hlt => ?_) (fun hlt => ?_)
  · simp (disch := omega) only [wk, tis, Int.reduceNe, Int.reduceEq, Int.reduceLT, Int.reduceLE, Int.reduceAdd, Int.reduceSub, Int.reduceNeg, Int.reduceMul, Int.reduceToNat, Nat.reduceSub, Nat.reduceMul, Nat.reduceLeDiff, Nat.reduceAdd, Nat.reduceLT, Nat.reduceEqDiff, reduceCtorEq, ↓reduceIte, cpoly_len, h0, h1, h5]
    refine ⟨tmps_by (by kernel_rfl), ?_⟩
    refine call_by ((rSameInt_ok (a.getD i (false, [])) (b.getD i (false, [])) (ha.get i).1 (hb.get i).1)) (by first | rfl | (simp only [tocvs, tocv, h0, h1, h5]; rfl) | (simp only [tocvs, tocv, toboxes, tobox, updH_at, Nat.reduceEqDiff, ↓reduceIte, h0, h1, h5]; rfl)) (by simp) ?_
    simp (disch := omega) only [wk, tis, Int.reduceNe, Int.reduceEq, Int.reduceLT, Int.reduceLE, Int.reduceAdd, Int.reduceSub, Int.reduceNeg, Int.reduceMul, Int.reduceToNat, Nat.reduceSub, Nat.reduceMul, Nat.reduceLeDiff, Nat.reduceAdd, Nat.reduceLT, Nat.reduceEqDiff, reduceCtorEq, ↓reduceIte, cpoly_len, h0, h1, h5]
    first | exact log_by (by kernel_rfl) | refine ⟨log_by (by kernel_rfl), ?_⟩
    by_cases hne : a.getD i (false, []) = b.getD i (false, [])
    · simp (disch := omega) only [wk, tis, Int.reduceNe, Int.reduceEq, Int.reduceLT, Int.reduceLE, Int.reduceAdd, Int.reduceSub, Int.reduceNeg, Int.reduceMul, Int.reduceToNat, Nat.reduceSub, Nat.reduceMul, Nat.reduceLeDiff, Nat.reduceAdd, Nat.reduceLT, Nat.reduceEqDiff, reduceCtorEq, ↓reduceIte, cpoly_len, h0, h1, h5, hne, Bool.not_true]
      refine ⟨⟨i + 1, by omega, ?_, by omega⟩, by omega⟩
      have hia : i < a.length := by omega
      have hib : i < b.length := by omega
      rw [List.take_add_one, List.take_add_one, he, List.getElem?_eq_getElem hia, List.getElem?_eq_getElem hib]
      have e1 : a.getD i (false, []) = a[i] := by simp [List.getD, hia]
      have e2 : b.getD i (false, []) = b[i] := by simp [List.getD, hib]
      rw [← e1, ← e2, hne]
    · simp (disch := omega) only [wk, tis, Int.reduceNe, Int.reduceEq, Int.reduceLT, Int.reduceLE, Int.reduceAdd, Int.reduceSub, Int.reduceNeg, Int.reduceMul, Int.reduceToNat, Nat.reduceSub, Nat.reduceMul, Nat.reduceLeDiff, Nat.reduceAdd, Nat.reduceLT, Nat.reduceEqDiff, reduceCtorEq, ↓reduceIte, cpoly_len, h0, h1, h5, hne, Bool.not_false]
      exact (decide_eq_false (fun e => hne (by rw [e]))).symm
  · simp (disch := omega) only [wk, tis, Int.reduceNe, Int.reduceEq, Int.reduceLT, Int.reduceLE, Int.reduceAdd, Int.reduceSub, Int.reduceNeg, Int.reduceMul, Int.reduceToNat, Nat.reduceSub, Nat.reduceMul, Nat.reduceLeDiff, Nat.reduceAdd, Nat.reduceLT, Nat.reduceEqDiff, reduceCtorEq, ↓reduceIte, cpoly_len, h0, h1, h5]
    rw [List.take_of_length_le (by omega), List.take_of_length_le (by omega)] at he
    exact (decide_eq_true he).symm

theorem few13_ok (p : List RI) (hl : p.length ≤ 2 ^ 62) : AC Try.prog 85 [cw p] none [cw (p.take 40)] := by
  refine AC.by_walk (rs := [.tmp 2]) ords Try.func85 (by rfl) (by rfl) (by rfl) (by rfl) (by rfl) ?_
  simp (disch := omega) only [wk, tis, Int.reduceNe, Int.reduceEq, Int.reduceLT, Int.reduceLE, Int.reduceAdd, Int.reduceSub, Int.reduceNeg, Int.reduceMul, Int.reduceToNat, Nat.reduceSub, Nat.reduceMul, Nat.reduceLeDiff, Nat.reduceAdd, Nat.reduceLT, Nat.reduceEqDiff, reduceCtorEq, ↓reduceIte, cpoly_len]
  have e : p.take (min (p.length : Int) 40).toNat = p.take 40 := by
    rcases Nat.le_total p.length 40 with h | h
    · rw [List.take_of_length_le (i := 40) h, List.take_of_length_le (by omega)]
    · congr 1; omega
  rw [e]

theorem pnone_ok (p : List RI) (h : RP (2 ^ 40) (2 ^ 40) p) : AC Try.prog 135 [cw p] none [cb (decide (tz (pv p) = 0))] := by
  refine AC.by_walk (rs := [.tmp 2]) ords Try.func135 (by rfl) (by rfl) (by rfl) (by rfl) (by rfl) ?_
  simp (disch := omega) only [wk, tis, Int.reduceNe, Int.reduceEq, Int.reduceLT, Int.reduceLE, Int.reduceAdd, Int.reduceSub, Int.reduceNeg, Int.reduceMul, Int.reduceToNat, Nat.reduceSub, Nat.reduceMul, Nat.reduceLeDiff, Nat.reduceAdd, Nat.reduceLT, Nat.reduceEqDiff, reduceCtorEq, ↓reduceIte, cpoly_len]
  refine call_by ((pdeg_ok p h)) (by rfl) (by simp) ?_
  simp (disch := omega) only [wk, tis, Int.reduceNe, Int.reduceEq, Int.reduceLT, Int.reduceLE, Int.reduceAdd, Int.reduceSub, Int.reduceNeg, Int.reduceMul, Int.reduceToNat, Nat.reduceSub, Nat.reduceMul, Nat.reduceLeDiff, Nat.reduceAdd, Nat.reduceLT, Nat.reduceEqDiff, reduceCtorEq, ↓reduceIte, cpoly_len]
  rw [decide_eq_decide]
  omega

theorem zabs_ok (c : RI) (h : Sz (2 ^ 40) c) : AC Try.prog 137 [cr c] none [cl (wd (iv c).natAbs)] := by
  refine AC.by_walk (rs := [.tmp 2]) ords Try.func137 (by rfl) (by rfl) (by rfl) (by rfl) (by rfl) ?_
  have hl := h.1
  simp (disch := omega) only [wk, tis, Int.reduceNe, Int.reduceEq, Int.reduceLT, Int.reduceLE, Int.reduceAdd, Int.reduceSub, Int.reduceNeg, Int.reduceMul, Int.reduceToNat, Nat.reduceSub, Nat.reduceMul, Nat.reduceLeDiff, Nat.reduceAdd, Nat.reduceLT, Nat.reduceEqDiff, reduceCtorEq, ↓reduceIte, cpoly_len]
  refine call_by ((norm_ok c.2 h.2 (by omega))) (by rfl) (by simp) ?_
  simp (disch := omega) only [wk, tis, Int.reduceNe, Int.reduceEq, Int.reduceLT, Int.reduceLE, Int.reduceAdd, Int.reduceSub, Int.reduceNeg, Int.reduceMul, Int.reduceToNat, Nat.reduceSub, Nat.reduceMul, Nat.reduceLeDiff, Nat.reduceAdd, Nat.reduceLT, Nat.reduceEqDiff, reduceCtorEq, ↓reduceIte, cpoly_len]
  rw [iv_abs]

theorem prsmono_ok (c : RI) (n : Nat) (hn : n ≤ 2 ^ 29) (hc : Sz (2 ^ 35) c) : AC Try.prog 157 [cr c, ci n] none [cp (List.replicate n 0 ++ [iv c])] := by
  refine AC.by_walk (rs := [.tmp 4]) ords Try.func157 (by rfl) (by rfl) (by rfl) (by rfl) (by rfl) ?_
  simp (disch := omega) only [wk, tis, Int.reduceNe, Int.reduceEq, Int.reduceLT, Int.reduceLE, Int.reduceAdd, Int.reduceSub, Int.reduceNeg, Int.reduceMul, Int.reduceToNat, Nat.reduceSub, Nat.reduceMul, Nat.reduceLeDiff, Nat.reduceAdd, Nat.reduceLT, Nat.reduceEqDiff, reduceCtorEq, ↓reduceIte, cpoly_len]
  refine ⟨tmps_by (by kernel_rfl), ?_⟩
  have m := pnorm_ok (List.replicate n (false, []) ++ [c]) ⟨by simp; omega, fun x hx => by
    rcases List.mem_append.mp hx with h | h
    · rw [List.eq_of_mem_replicate h]; exact ⟨by simp, Lim.nil⟩
    · rw [List.mem_singleton.mp h]; exact hc.mono (by omega)⟩
  have e : pv (List.replicate n (false, []) ++ [c]) = List.replicate n 0 ++ [iv c] := by
    simp only [pv, List.map_append, List.map_replicate, List.map_cons, List.map_nil, iv_zero]
  rw [e] at m
  refine call_by (m) (by rfl) (by simp) ?_
  simp (disch := omega) only [wk, tis, Int.reduceNe, Int.reduceEq, Int.reduceLT, Int.reduceLE, Int.reduceAdd, Int.reduceSub, Int.reduceNeg, Int.reduceMul, Int.reduceToNat, Nat.reduceSub, Nat.reduceMul, Nat.reduceLeDiff, Nat.reduceAdd, Nat.reduceLT, Nat.reduceEqDiff, reduceCtorEq, ↓reduceIte, cpoly_len]
  first | exact log_by (by kernel_rfl) | refine ⟨log_by (by kernel_rfl), ?_⟩

theorem poly13_ok (l : List Int) (hl : l.length ≤ 2 ^ 30) (h : ∀ z ∈ l, -9223372036854775808 < z ∧ z < 9223372036854775808) : AC Try.prog 92 [cis l] none [cw (l.map canon)] := by
  refine AC.by_walk (rs := [.tmp 2]) ords Try.func92 (by rfl) (by rfl) (by rfl) (by rfl) (by rfl) ?_
  simp (disch := omega) only [wk, tis, Int.reduceNe, Int.reduceEq, Int.reduceLT, Int.reduceLE, Int.reduceAdd, Int.reduceSub, Int.reduceNeg, Int.reduceMul, Int.reduceToNat, Nat.reduceSub, Nat.reduceMul, Nat.reduceLeDiff, Nat.reduceAdd, Nat.reduceLT, Nat.reduceEqDiff, reduceCtorEq, ↓reduceIte, cpoly_len]
  refine aloop_nil 3 3 40 2 (by simp (disch := omega) only [wk, tis, Int.reduceNe, Int.reduceEq, Int.reduceLT, Int.reduceLE, Int.reduceAdd, Int.reduceSub, Int.reduceNeg, Int.reduceMul, Int.reduceToNat, Nat.reduceSub, Nat.reduceMul, Nat.reduceLeDiff, Nat.reduceAdd, Nat.reduceLT, Nat.reduceEqDiff, reduceCtorEq, ↓reduceIte, cpoly_len]) (fun f H => ∃ (k st : Nat), k ≤ l.length ∧ f 0 = .iv (.sl (ilims l)) ∧ f 3 = .hs 3 st ∧ f 4 = .iv (.int .i64 k) ∧ H 3 = .blk false st 40 2 (raws ((l.take k).map canon))) (fun f H => (l.length - intAt f 4).toNat) ?_ ?_
  · refine ⟨0, 1, by omega, ?_⟩
    simp (disch := omega) only [wk, tis, Int.reduceNe, Int.reduceEq, Int.reduceLT, Int.reduceLE, Int.reduceAdd, Int.reduceSub, Int.reduceNeg, Int.reduceMul, Int.reduceToNat, Nat.reduceSub, Nat.reduceMul, Nat.reduceLeDiff, Nat.reduceAdd, Nat.reduceLT, Nat.reduceEqDiff, reduceCtorEq, ↓reduceIte, cpoly_len, ghostF, ghostH, List.take_zero]
  rintro f H ⟨k, st, hk, h0, h3, h4, hH⟩
  rw [intAt_of h4]
  simp (disch := omega) only [wk, tis, Int.reduceNe, Int.reduceEq, Int.reduceLT, Int.reduceLE, Int.reduceAdd, Int.reduceSub, Int.reduceNeg, Int.reduceMul, Int.reduceToNat, Nat.reduceSub, Nat.reduceMul, Nat.reduceLeDiff, Nat.reduceAdd, Nat.reduceLT, Nat.reduceEqDiff, reduceCtorEq, ↓reduceIte, cpoly_len, h0, h3, h4, hH]
  refine if_by (fun hlt => ?_) (fun hlt => ?_)
  · have hq : ((l.take k).map canon).length = k := by rw [List.length_map, List.length_take]; omega
    have hkl : k < l.length := by omega
    have hg : l.getD k 0 = l[k] := by simp [List.getD, hkl]
    have hb := h l[k] (List.getElem_mem hkl)
    simp (disch := omega) only [wk, tis, Int.reduceNe, Int.reduceEq, Int.reduceLT, Int.reduceLE, Int.reduceAdd, Int.reduceSub, Int.reduceNeg, Int.reduceMul, Int.reduceToNat, Nat.reduceSub, Nat.reduceMul, Nat.reduceLeDiff, Nat.reduceAdd, Nat.reduceLT, Nat.reduceEqDiff, reduceCtorEq, ↓reduceIte, cpoly_len, h0, h3, h4, hH, hq]
    rw [hg]
    refine call_by ((rZ_ok l[k] hb.1 hb.2)) (by first | rfl | (simp only [tocvs, tocv, h0, h3, h4, hH, hq]; rfl) | (simp only [tocvs, tocv, toboxes, tobox, updH_at, Nat.reduceEqDiff, ↓reduceIte, h0, h3, h4, hH, hq]; rfl)) (by simp) ?_
    simp (disch := omega) only [wk, tis, Int.reduceNe, Int.reduceEq, Int.reduceLT, Int.reduceLE, Int.reduceAdd, Int.reduceSub, Int.reduceNeg, Int.reduceMul, Int.reduceToNat, Nat.reduceSub, Nat.reduceMul, Nat.reduceLeDiff, Nat.reduceAdd, Nat.reduceLT, Nat.reduceEqDiff, reduceCtorEq, ↓reduceIte, cpoly_len, h0, h3, h4, hH, hq]
    refine ⟨⟨k + 1, st + 1, by omega, rfl, by omega, ?_⟩, by omega⟩
    rw [List.take_add_one]
    simp [hkl]
  · simp (disch := omega) only [wk, tis, Int.reduceNe, Int.reduceEq, Int.reduceLT, Int.reduceLE, Int.reduceAdd, Int.reduceSub, Int.reduceNeg, Int.reduceMul, Int.reduceToNat, Nat.reduceSub, Nat.reduceMul, Nat.reduceLeDiff, Nat.reduceAdd, Nat.reduceLT, Nat.reduceEqDiff, reduceCtorEq, ↓reduceIte, cpoly_len, h0, h3, h4, hH]
    have hk : k = l.length := by omega
    rw [hk, List.take_length]

def rowsAt (f : Fr) (t : Nat) : Nat := match f t with
  | .iv (.sl rows) => rows.length
  | _ => 0

theorem rowsAt_of {f : Fr} {t : Nat} {rows : List (List IV)} (h : f t = .iv (.sl rows)) : rowsAt f t = rows.length := by
  unfold rowsAt; rw [h]

theorem zform_ok (p : List RI) (h : RP (2 ^ 40) (2 ^ 40) p) : AC Try.prog 86 [cw p] none [cp (pv p)] := by
  refine AC.by_walk (rs := [.tmp 2]) ords Try.func86 (by rfl) (by rfl) (by rfl) (by rfl) (by rfl) ?_
  have hl := h.1
  simp (disch := omega) only [wk, tis, Int.reduceNe, Int.reduceEq, Int.reduceLT, Int.reduceLE, Int.reduceAdd, Int.reduceSub, Int.reduceNeg, Int.reduceMul, Int.reduceToNat, Nat.reduceSub, Nat.reduceMul, Nat.reduceLeDiff, Nat.reduceAdd, Nat.reduceLT, Nat.reduceEqDiff, reduceCtorEq, ↓reduceIte, cpoly_len]
  refine aloop_nil 3 3 40 2 (by simp (disch := omega) only [wk, tis, Int.reduceNe, Int.reduceEq, Int.reduceLT, Int.reduceLE, Int.reduceAdd, Int.reduceSub, Int.reduceNeg, Int.reduceMul, Int.reduceToNat, Nat.reduceSub, Nat.reduceMul, Nat.reduceLeDiff, Nat.reduceAdd, Nat.reduceLT, Nat.reduceEqDiff, reduceCtorEq, ↓reduceIte, cpoly_len]) (fun f H => ∃ (i st : Nat), i ≤ p.length ∧ f 4 = .iv (.int .i64 i) ∧ f 3 = .hs 3 st ∧ f 0 = .iv (.sl (raws p)) ∧ H 3 = .blk false st 40 2 (raws (((pv p).take i).map canon))) (fun f H => (p.length - intAt f 4).toNat) ?_ ?_
  · refine ⟨0, 1, by omega, ?_⟩
    simp (disch := omega) only [wk, tis, Int.reduceNe, Int.reduceEq, Int.reduceLT, Int.reduceLE, Int.reduceAdd, Int.reduceSub, Int.reduceNeg, Int.reduceMul, Int.reduceToNat, Nat.reduceSub, Nat.reduceMul, Nat.reduceLeDiff, Nat.reduceAdd, Nat.reduceLT, Nat.reduceEqDiff, reduceCtorEq, ↓reduceIte, cpoly_len, ghostF, ghostH, List.take_zero]
  rintro f H ⟨i, st, hi, hF⟩
  rw [intAt_of hF.1]
  simp (disch := omega) only [wk, tis, Int.reduceNe, Int.reduceEq, Int.reduceLT, Int.reduceLE, Int.reduceAdd, Int.reduceSub, Int.reduceNeg, Int.reduceMul, Int.reduceToNat, Nat.reduceSub, Nat.reduceMul, Nat.reduceLeDiff, Nat.reduceAdd, Nat.reduceLT, Nat.reduceEqDiff, reduceCtorEq, ↓reduceIte, cpoly_len, hF]
  refine if_by (fun hlt => ?_) (fun hlt => ?_)
  · have hq : (((pv p).take i).map canon).length = i := by rw [List.length_map, List.length_take, pv_len]; omega
    have e : ((pv p).take (i + 1)).map canon = ((pv p).take i).map canon ++ [canon (iv (p.getD i (false, [])))] := by
      rw [List.take_add_one, List.map_append, ← cf_pv]; congr 1; simp [cf, List.getD, show i < (pv p).length by rw [pv_len]; omega]
    have m := rI_ok (p.getD i (false, [])).1 (p.getD i (false, [])).2 (h.get _).2 (h.get _).1
    simp (disch := omega) only [wk, tis, Int.reduceNe, Int.reduceEq, Int.reduceLT, Int.reduceLE, Int.reduceAdd, Int.reduceSub, Int.reduceNeg, Int.reduceMul, Int.reduceToNat, Nat.reduceSub, Nat.reduceMul, Nat.reduceLeDiff, Nat.reduceAdd, Nat.reduceLT, Nat.reduceEqDiff, reduceCtorEq, ↓reduceIte, cpoly_len, hF, hq]
    refine ⟨tmps_by (by kernel_rfl), ?_⟩
    refine call_by (m) (by first | rfl | (simp only [tocvs, tocv, hF, hq]; rfl) | (simp only [tocvs, tocv, toboxes, tobox, updH_at, Nat.reduceEqDiff, ↓reduceIte, hF, hq]; rfl)) (by simp) ?_
    simp (disch := omega) only [wk, tis, Int.reduceNe, Int.reduceEq, Int.reduceLT, Int.reduceLE, Int.reduceAdd, Int.reduceSub, Int.reduceNeg, Int.reduceMul, Int.reduceToNat, Nat.reduceSub, Nat.reduceMul, Nat.reduceLeDiff, Nat.reduceAdd, Nat.reduceLT, Nat.reduceEqDiff, reduceCtorEq, ↓reduceIte, cpoly_len, hF, hq]
    first | exact log_by (by kernel_rfl) | refine ⟨log_by (by kernel_rfl), ?_⟩
    rw [← iv_sg, ← cf_pv]
    refine ⟨⟨i + 1, st + 1, by omega, by omega, rfl, ?_⟩, by omega⟩
    rw [List.take_add_one]
    simp [cf, List.getD, show i < (pv p).length by rw [pv_len]; omega]
  · obtain rfl : i = p.length := by omega
    rw [List.take_of_length_le (by rw [pv_len]; exact Nat.le_refl _)] at hF
    simp (disch := omega) only [wk, tis, Int.reduceNe, Int.reduceEq, Int.reduceLT, Int.reduceLE, Int.reduceAdd, Int.reduceSub, Int.reduceNeg, Int.reduceMul, Int.reduceToNat, Nat.reduceSub, Nat.reduceMul, Nat.reduceLeDiff, Nat.reduceAdd, Nat.reduceLT, Nat.reduceEqDiff, reduceCtorEq, ↓reduceIte, cpoly_len, hF]
    refine aloop_w (.iv 3 3 st false 40 2 (raws ((pv p).map canon)) (by simp (disch := omega) only [wk, tis, Int.reduceNe, Int.reduceEq, Int.reduceLT, Int.reduceLE, Int.reduceAdd, Int.reduceSub, Int.reduceNeg, Int.reduceMul, Int.reduceToNat, Nat.reduceSub, Nat.reduceMul, Nat.reduceLeDiff, Nat.reduceAdd, Nat.reduceLT, Nat.reduceEqDiff, reduceCtorEq, ↓reduceIte, cpoly_len, hF]) (by simp (disch := omega) only [wk, tis, Int.reduceNe, Int.reduceEq, Int.reduceLT, Int.reduceLE, Int.reduceAdd, Int.reduceSub, Int.reduceNeg, Int.reduceMul, Int.reduceToNat, Nat.reduceSub, Nat.reduceMul, Nat.reduceLeDiff, Nat.reduceAdd, Nat.reduceLT, Nat.reduceEqDiff, reduceCtorEq, ↓reduceIte, cpoly_len, hF]) (.refl _ _)) (fun f H => ∃ k : Nat, k ≤ p.length ∧ tz ((pv p).take k) = tz (pv p) ∧ f 0 = .iv (.sl (raws p)) ∧ f 3 = .iv (.sl (raws (((pv p).take k).map canon)))) (fun f H => rowsAt f 3) ?_ ?_
    · refine ⟨p.length, Nat.le_refl _, by rw [← pv_len p, List.take_length], ?_⟩
      rw [show (pv p).take p.length = pv p from List.take_of_length_le (by rw [pv_len]; exact Nat.le_refl _)]
      simp (disch := omega) only [wk, tis, Int.reduceNe, Int.reduceEq, Int.reduceLT, Int.reduceLE, Int.reduceAdd, Int.reduceSub, Int.reduceNeg, Int.reduceMul, Int.reduceToNat, Nat.reduceSub, Nat.reduceMul, Nat.reduceLeDiff, Nat.reduceAdd, Nat.reduceLT, Nat.reduceEqDiff, reduceCtorEq, ↓reduceIte, cpoly_len, hF]
    clear hF
    rintro f H ⟨k, hk, ht, hF⟩
    have hq : (((pv p).take k).map canon).length = k := by rw [List.length_map, List.length_take, pv_len]; omega
    rw [rowsAt_of hF.2, raws_len, hq]
    by_cases hc : 0 < (k : Int)
    · have ek : ((k : Int) - 1).toNat = k - 1 := by omega
      have hg : (((pv p).take k).map canon).getD (k - 1) (false, []) = canon (cf (pv p) (k - 1)) := by
        simp [cf, List.getD, List.getElem?_take, show k - 1 < k by omega, show k - 1 < (pv p).length by rw [pv_len]; omega]
      have hs := rSign_ok (canon (cf (pv p) (k - 1))) ((sz_canon _).mono (h.pv.cf _))
      rw [iv_canon] at hs
      simp (disch := omega) only [wk, tis, Int.reduceNe, Int.reduceEq, Int.reduceLT, Int.reduceLE, Int.reduceAdd, Int.reduceSub, Int.reduceNeg, Int.reduceMul, Int.reduceToNat, Nat.reduceSub, Nat.reduceMul, Nat.reduceLeDiff, Nat.reduceAdd, Nat.reduceLT, Nat.reduceEqDiff, reduceCtorEq, ↓reduceIte, cpoly_len, hF, hq, hc, ek, hg]
      refine call_by (hs) (by first | rfl | (simp only [tocvs, tocv, hF, hq, hc, ek, hg]; rfl) | (simp only [tocvs, tocv, toboxes, tobox, updH_at, Nat.reduceEqDiff, ↓reduceIte, hF, hq, hc, ek, hg]; rfl)) (by simp) ?_
      simp (disch := omega) only [wk, tis, Int.reduceNe, Int.reduceEq, Int.reduceLT, Int.reduceLE, Int.reduceAdd, Int.reduceSub, Int.reduceNeg, Int.reduceMul, Int.reduceToNat, Nat.reduceSub, Nat.reduceMul, Nat.reduceLeDiff, Nat.reduceAdd, Nat.reduceLT, Nat.reduceEqDiff, reduceCtorEq, ↓reduceIte, cpoly_len, hF, hq, hc, ek, hg]
      refine if_by (fun hz => ?_) (fun hz => ?_)
      · have e2 : (((pv p).take k).map canon).take (k - 1) = ((pv p).take (k - 1)).map canon := by
          rw [← List.map_take, List.take_take, Nat.min_eq_left (by omega)]
        have hq2 : (((pv p).take (k - 1)).map canon).length = k - 1 := by rw [List.length_map, List.length_take, pv_len]; omega
        simp (disch := omega) only [wk, tis, Int.reduceNe, Int.reduceEq, Int.reduceLT, Int.reduceLE, Int.reduceAdd, Int.reduceSub, Int.reduceNeg, Int.reduceMul, Int.reduceToNat, Nat.reduceSub, Nat.reduceMul, Nat.reduceLeDiff, Nat.reduceAdd, Nat.reduceLT, Nat.reduceEqDiff, reduceCtorEq, ↓reduceIte, cpoly_len, hF, hq, hc, ek, hg]
        refine ⟨⟨k - 1, by omega, ?_, by rw [e2]⟩, ?_⟩
        · rw [← tz_take_zero (k := k - 1) (by rw [pv_len]; omega) (Int.sign_eq_zero_iff_zero.mp hz), show k - 1 + 1 = k by omega, ht]
        · rw [rowsAt_of rfl, raws_len, e2, hq2]; omega
      · have hk : k = tz (pv p) := by
          have := tz_full (q := pv p) (k := k - 1) (by rw [pv_len]; omega) (fun e => hz (Int.sign_eq_zero_iff_zero.mpr e))
          rw [show k - 1 + 1 = k by omega, ht] at this; exact this.symm
        simp (disch := omega) only [wk, tis, Int.reduceNe, Int.reduceEq, Int.reduceLT, Int.reduceLE, Int.reduceAdd, Int.reduceSub, Int.reduceNeg, Int.reduceMul, Int.reduceToNat, Nat.reduceSub, Nat.reduceMul, Nat.reduceLeDiff, Nat.reduceAdd, Nat.reduceLT, Nat.reduceEqDiff, reduceCtorEq, ↓reduceIte, cpoly_len, hF, hq, hc, ek, hg]
        rw [hk]; rfl
    · have hk : k = tz (pv p) := by
        obtain rfl : k = 0 := by omega
        rw [← ht]; rfl
      simp (disch := omega) only [wk, tis, Int.reduceNe, Int.reduceEq, Int.reduceLT, Int.reduceLE, Int.reduceAdd, Int.reduceSub, Int.reduceNeg, Int.reduceMul, Int.reduceToNat, Nat.reduceSub, Nat.reduceMul, Nat.reduceLeDiff, Nat.reduceAdd, Nat.reduceLT, Nat.reduceEqDiff, reduceCtorEq, ↓reduceIte, cpoly_len, hF, hq, hc]
      rw [hk]; rfl
end Go.Proofs.Ythgecppfgdadiaa

namespace Go.Proofs.Ythgecppfgdadiaa
open Go Go.Proofs Go.AL
set_option linter.unusedSimpArgs false
set_option linter.unusedVariables false

theorem tz_take_snoc (q : List Int) {i : Nat} (h : i < q.length) : tz (q.take (i + 1)) = if cf q i ≠ 0 then i + 1 else tz (q.take i) := by
  by_cases hz : cf q i = 0
  · rw [if_neg (by simpa using hz)]; exact tz_take_zero h hz
  · rw [if_pos hz]; exact tz_full h hz

theorem tN_ok (p : List RI) (h : RP (2 ^ 40) (2 ^ 40) p) : AC Try.prog 71 [cw p] none [cp (pv p)] := by
  refine AC.by_walk (rs := [.tmp 2]) ords Try.func71 (by rfl) (by rfl) (by rfl) (by rfl) (by rfl) ?_
  have hl := h.1
  have hpl := pv_len p
  simp (disch := omega) only [wk, tis, Int.reduceNe, Int.reduceEq, Int.reduceLT, Int.reduceLE, Int.reduceAdd, Int.reduceSub, Int.reduceNeg, Int.reduceMul, Int.reduceToNat, Nat.reduceSub, Nat.reduceMul, Nat.reduceLeDiff, Nat.reduceAdd, Nat.reduceLT, Nat.reduceEqDiff, reduceCtorEq, ↓reduceIte]
  refine aloop_by (fun f H => ∃ (i st : Nat), i ≤ p.length ∧ f 5 = .iv (.int .i64 i) ∧ f 4 = .iv (.int .i64 (tz ((pv p).take i))) ∧ f 0 = .iv (.sl (raws p)) ∧ f 3 = .hs 7 st ∧ H 7 = .blk false st 40 2 (raws (((pv p).take i).map canon))) (fun f H => (p.length - intAt f 5).toNat) ?_ ?_
  · refine ⟨0, 1, by omega, ?_⟩
    simp (disch := omega) only [wk, tis, Int.reduceNe, Int.reduceEq, Int.reduceLT, Int.reduceLE, Int.reduceAdd, Int.reduceSub, Int.reduceNeg, Int.reduceMul, Int.reduceToNat, Nat.reduceSub, Nat.reduceMul, Nat.reduceLeDiff, Nat.reduceAdd, Nat.reduceLT, Nat.reduceEqDiff, reduceCtorEq, ↓reduceIte, List.take_zero, show tz [] = 0 from rfl]
  rintro f H ⟨i, st, hi, hF⟩
  rw [intAt_of hF.1]
  simp (disch := omega) only [wk, tis, Int.reduceNe, Int.reduceEq, Int.reduceLT, Int.reduceLE, Int.reduceAdd, Int.reduceSub, Int.reduceNeg, Int.reduceMul, Int.reduceToNat, Nat.reduceSub, Nat.reduceMul, Nat.reduceLeDiff, Nat.reduceAdd, Nat.reduceLT, Nat.reduceEqDiff, reduceCtorEq, ↓reduceIte, hF]
  refine if_by (fun hlt => ?_) (fun hlt => ?_)
  · have hq : (((pv p).take i).map canon).length = i := by rw [List.length_map, List.length_take]; omega
    simp (disch := omega) only [wk, tis, Int.reduceNe, Int.reduceEq, Int.reduceLT, Int.reduceLE, Int.reduceAdd, Int.reduceSub, Int.reduceNeg, Int.reduceMul, Int.reduceToNat, Nat.reduceSub, Nat.reduceMul, Nat.reduceLeDiff, Nat.reduceAdd, Nat.reduceLT, Nat.reduceEqDiff, reduceCtorEq, ↓reduceIte, hF, hq]
    refine ⟨tmps_by (by kernel_rfl), ?_⟩
    have m := rI_ok (p.getD i (false, [])).1 (p.getD i (false, [])).2 (h.get i).2 (h.get i).1
    have ev : sg (p.getD i (false, [])).1 (nv (p.getD i (false, [])).2) = cf (pv p) i := by rw [cf_pv]; rfl
    rw [ev] at m
    have hcz := h.pv.cf i
    refine call_by (m) (by first | rfl | (simp only [tocvs, tocv, hF, hq]; rfl) | (simp only [tocvs, tocv, toboxes, tobox, updH_at, Nat.reduceEqDiff, ↓reduceIte, hF, hq]; rfl)) (by simp) ?_
    simp (disch := omega) only [wk, tis, Int.reduceNe, Int.reduceEq, Int.reduceLT, Int.reduceLE, Int.reduceAdd, Int.reduceSub, Int.reduceNeg, Int.reduceMul, Int.reduceToNat, Nat.reduceSub, Nat.reduceMul, Nat.reduceLeDiff, Nat.reduceAdd, Nat.reduceLT, Nat.reduceEqDiff, reduceCtorEq, ↓reduceIte, hF, hq]
    first | exact log_by (by kernel_rfl) | refine ⟨log_by (by kernel_rfl), ?_⟩
    have q := rSign_ok (canon (cf (pv p) i)) ((sz_canon _).mono (by omega))
    rw [iv_canon] at q
    refine call_by (q) (by first | rfl | (simp only [tocvs, tocv, hF, hq]; rfl) | (simp only [tocvs, tocv, toboxes, tobox, updH_at, Nat.reduceEqDiff, ↓reduceIte, hF, hq]; rfl)) (by simp) ?_
    simp (disch := omega) only [wk, tis, Int.reduceNe, Int.reduceEq, Int.reduceLT, Int.reduceLE, Int.reduceAdd, Int.reduceSub, Int.reduceNeg, Int.reduceMul, Int.reduceToNat, Nat.reduceSub, Nat.reduceMul, Nat.reduceLeDiff, Nat.reduceAdd, Nat.reduceLT, Nat.reduceEqDiff, reduceCtorEq, ↓reduceIte, hF, hq]
    have et := tz_take_snoc (pv p) (i := i) (by omega)
    have e : (pv p).take (i + 1) = (pv p).take i ++ [cf (pv p) i] := by
      rw [List.take_add_one]
      congr 1
      simp [cf, List.getD, show i < (pv p).length by omega]
    refine if_by (fun hs => ?_) (fun hs => ?_)
    · have hz : cf (pv p) i ≠ 0 := fun e => hs (by rw [e]; rfl)
      rw [if_pos hz] at et
      simp (disch := omega) only [wk, tis, Int.reduceNe, Int.reduceEq, Int.reduceLT, Int.reduceLE, Int.reduceAdd, Int.reduceSub, Int.reduceNeg, Int.reduceMul, Int.reduceToNat, Nat.reduceSub, Nat.reduceMul, Nat.reduceLeDiff, Nat.reduceAdd, Nat.reduceLT, Nat.reduceEqDiff, reduceCtorEq, ↓reduceIte, hF, hq]
      refine ⟨⟨i + 1, st + 1, by omega, by omega, by rw [et]; omega, ?_⟩, by omega⟩
      rw [e]
      exact ⟨rfl, rfl⟩
    · have hz : ¬ cf (pv p) i ≠ 0 := fun e => hs (fun h => e (Int.sign_eq_zero_iff_zero.mp h))
      rw [if_neg hz] at et
      simp (disch := omega) only [wk, tis, Int.reduceNe, Int.reduceEq, Int.reduceLT, Int.reduceLE, Int.reduceAdd, Int.reduceSub, Int.reduceNeg, Int.reduceMul, Int.reduceToNat, Nat.reduceSub, Nat.reduceMul, Nat.reduceLeDiff, Nat.reduceAdd, Nat.reduceLT, Nat.reduceEqDiff, reduceCtorEq, ↓reduceIte, hF, hq]
      refine ⟨⟨i + 1, st + 1, by omega, by omega, by rw [et], ?_⟩, by omega⟩
      rw [e]
      exact ⟨rfl, rfl⟩
  · simp (disch := omega) only [wk, tis, Int.reduceNe, Int.reduceEq, Int.reduceLT, Int.reduceLE, Int.reduceAdd, Int.reduceSub, Int.reduceNeg, Int.reduceMul, Int.reduceToNat, Nat.reduceSub, Nat.reduceMul, Nat.reduceLeDiff, Nat.reduceAdd, Nat.reduceLT, Nat.reduceEqDiff, reduceCtorEq, ↓reduceIte, hF]
    have hq : (((pv p).take i).map canon).length = p.length := by rw [List.length_map, List.length_take]; omega
    have htl : tz ((pv p).take i) ≤ p.length := by have := tz_le ((pv p).take i); rw [List.length_take] at this; omega
    simp (disch := omega) only [wk, tis, Int.reduceNe, Int.reduceEq, Int.reduceLT, Int.reduceLE, Int.reduceAdd, Int.reduceSub, Int.reduceNeg, Int.reduceMul, Int.reduceToNat, Nat.reduceSub, Nat.reduceMul, Nat.reduceLeDiff, Nat.reduceAdd, Nat.reduceLT, Nat.reduceEqDiff, reduceCtorEq, ↓reduceIte, hF, hq]
    refine ⟨htl, ?_⟩
    rw [List.take_of_length_le (i := i) (by omega), ← List.map_take]
    rfl

theorem tP_ok (l : List Int) (hl : l.length ≤ 2 ^ 30) (h : ∀ z ∈ l, -9223372036854775808 < z ∧ z < 9223372036854775808) : AC Try.prog 115 [cis l] none [cp l] := by
  refine AC.by_walk (rs := [.tmp 2]) ords Try.func115 (by rfl) (by rfl) (by rfl) (by rfl) (by rfl) ?_
  simp (disch := omega) only [wk, tis, Int.reduceNe, Int.reduceEq, Int.reduceLT, Int.reduceLE, Int.reduceAdd, Int.reduceSub, Int.reduceNeg, Int.reduceMul, Int.reduceToNat, Nat.reduceSub, Nat.reduceMul, Nat.reduceLeDiff, Nat.reduceAdd, Nat.reduceLT, Nat.reduceEqDiff, reduceCtorEq, ↓reduceIte]
  refine aloop_nil 3 3 40 2 (by simp (disch := omega) only [wk, tis, Int.reduceNe, Int.reduceEq, Int.reduceLT, Int.reduceLE, Int.reduceAdd, Int.reduceSub, Int.reduceNeg, Int.reduceMul, Int.reduceToNat, Nat.reduceSub, Nat.reduceMul, Nat.reduceLeDiff, Nat.reduceAdd, Nat.reduceLT, Nat.reduceEqDiff, reduceCtorEq, ↓reduceIte]) (fun f H => ∃ (k st : Nat), k ≤ l.length ∧ f 0 = .iv (.sl (ilims l)) ∧ f 3 = .hs 3 st ∧ f 4 = .iv (.int .i64 k) ∧ H 3 = .blk false st 40 2 (raws ((l.take k).map canon))) (fun f H => (l.length - intAt f 4).toNat) ?_ ?_
  · refine ⟨0, 1, by omega, ?_⟩
    simp (disch := omega) only [wk, tis, Int.reduceNe, Int.reduceEq, Int.reduceLT, Int.reduceLE, Int.reduceAdd, Int.reduceSub, Int.reduceNeg, Int.reduceMul, Int.reduceToNat, Nat.reduceSub, Nat.reduceMul, Nat.reduceLeDiff, Nat.reduceAdd, Nat.reduceLT, Nat.reduceEqDiff, reduceCtorEq, ↓reduceIte, ghostF, ghostH, List.take_zero]
  rintro f H ⟨k, st, hk, h0, h3, h4, hH⟩
  rw [intAt_of h4]
  simp (disch := omega) only [wk, tis, Int.reduceNe, Int.reduceEq, Int.reduceLT, Int.reduceLE, Int.reduceAdd, Int.reduceSub, Int.reduceNeg, Int.reduceMul, Int.reduceToNat, Nat.reduceSub, Nat.reduceMul, Nat.reduceLeDiff, Nat.reduceAdd, Nat.reduceLT, Nat.reduceEqDiff, reduceCtorEq, ↓reduceIte, h0, h3, h4, hH]
  refine if_by (fun hlt => ?_) (fun hlt => ?_)
  · have hq : ((l.take k).map canon).length = k := by rw [List.length_map, List.length_take]; omega
    have hkl : k < l.length := by omega
    have hg : l.getD k 0 = l[k] := by simp [List.getD, hkl]
    have hb := h l[k] (List.getElem_mem hkl)
    simp (disch := omega) only [wk, tis, Int.reduceNe, Int.reduceEq, Int.reduceLT, Int.reduceLE, Int.reduceAdd, Int.reduceSub, Int.reduceNeg, Int.reduceMul, Int.reduceToNat, Nat.reduceSub, Nat.reduceMul, Nat.reduceLeDiff, Nat.reduceAdd, Nat.reduceLT, Nat.reduceEqDiff, reduceCtorEq, ↓reduceIte, h0, h3, h4, hH, hq]
    rw [hg]
    refine call_by ((rZ_ok l[k] hb.1 hb.2)) (by first | rfl | (simp only [tocvs, tocv, h0, h3, h4, hH, hq]; rfl) | (simp only [tocvs, tocv, toboxes, tobox, updH_at, Nat.reduceEqDiff, ↓reduceIte, h0, h3, h4, hH, hq]; rfl)) (by simp) ?_
    simp (disch := omega) only [wk, tis, Int.reduceNe, Int.reduceEq, Int.reduceLT, Int.reduceLE, Int.reduceAdd, Int.reduceSub, Int.reduceNeg, Int.reduceMul, Int.reduceToNat, Nat.reduceSub, Nat.reduceMul, Nat.reduceLeDiff, Nat.reduceAdd, Nat.reduceLT, Nat.reduceEqDiff, reduceCtorEq, ↓reduceIte, h0, h3, h4, hH, hq]
    refine ⟨⟨k + 1, st + 1, by omega, rfl, by omega, ?_⟩, by omega⟩
    rw [List.take_add_one]
    simp [hkl]
  · simp (disch := omega) only [wk, tis, Int.reduceNe, Int.reduceEq, Int.reduceLT, Int.reduceLE, Int.reduceAdd, Int.reduceSub, Int.reduceNeg, Int.reduceMul, Int.reduceToNat, Nat.reduceSub, Nat.reduceMul, Nat.reduceLeDiff, Nat.reduceAdd, Nat.reduceLT, Nat.reduceEqDiff, reduceCtorEq, ↓reduceIte, h0, h3, h4, hH]
    have hk : k = l.length := by omega
    have hz : ∀ z : Int, -9223372036854775808 < z → z < 9223372036854775808 → zl z ≤ 1 := fun z h1 h2 => zl_le.mpr (by simp only [W]; omega)
    have := tN_ok (l.map canon) (RP.canon ⟨by omega, fun z hz' => Nat.le_trans (hz z (h z hz').1 (h z hz').2) (by omega)⟩)
    rw [pv_canon] at this
    rw [hk, List.take_length] at hH
    refine call_by (this) (by first | rfl | (simp only [tocvs, tocv, h0, h3, h4, hH]; rfl) | (simp only [tocvs, tocv, toboxes, tobox, updH_at, Nat.reduceEqDiff, ↓reduceIte, h0, h3, h4, hH]; rfl)) (by simp) ?_
    simp (disch := omega) only [wk, tis, Int.reduceNe, Int.reduceEq, Int.reduceLT, Int.reduceLE, Int.reduceAdd, Int.reduceSub, Int.reduceNeg, Int.reduceMul, Int.reduceToNat, Nat.reduceSub, Nat.reduceMul, Nat.reduceLeDiff, Nat.reduceAdd, Nat.reduceLT, Nat.reduceEqDiff, reduceCtorEq, ↓reduceIte, h0, h3, h4, hH]

theorem tSame_ok (a b : List RI) (ha : RP (2 ^ 40) (2 ^ 43) a) (hb : RP (2 ^ 40) (2 ^ 43) b) : AC Try.prog 72 [cw a, cw b] none [cb (decide (a = b))] := by
  refine AC.by_walk (rs := [.tmp 4]) ords Try.func72 (by rfl) (by rfl) (by rfl) (by rfl) (by rfl) ?_
  have hla := ha.1
  have hlb := hb.1
  simp (disch := omega) only [wk, tis, Int.reduceNe, Int.reduceEq, Int.reduceLT, Int.reduceLE, Int.reduceAdd, Int.reduceSub, Int.reduceNeg, Int.reduceMul, Int.reduceToNat, Nat.reduceSub, Nat.reduceMul, Nat.reduceLeDiff, Nat.reduceAdd, Nat.reduceLT, Nat.reduceEqDiff, reduceCtorEq, ↓reduceIte]
  refine if_by (fun hz => ?_) (fun hz => ?_)
  · simp (disch := omega) only [wk, tis, Int.reduceNe, Int.reduceEq, Int.reduceLT, Int.reduceLE, Int.reduceAdd, Int.reduceSub, Int.reduceNeg, Int.reduceMul, Int.reduceToNat, Nat.reduceSub, Nat.reduceMul, Nat.reduceLeDiff, Nat.reduceAdd, Nat.reduceLT, Nat.reduceEqDiff, reduceCtorEq, ↓reduceIte]
    exact (decide_eq_false (fun e => hz (by rw [e]))).symm
  have hl : a.length = b.length := by omega
  simp (disch := omega) only [wk, tis, Int.reduceNe, Int.reduceEq, Int.reduceLT, Int.reduceLE, Int.reduceAdd, Int.reduceSub, Int.reduceNeg, Int.reduceMul, Int.reduceToNat, Nat.reduceSub, Nat.reduceMul, Nat.reduceLeDiff, Nat.reduceAdd, Nat.reduceLT, Nat.reduceEqDiff, reduceCtorEq, ↓reduceIte]
  refine aloop_by (fun f H => ∃ i : Nat, i ≤ a.length ∧ a.take i = b.take i ∧ f 0 = .iv (.sl (raws a)) ∧ f 1 = .iv (.sl (raws b)) ∧ f 5 = .iv (.int .i64 i)) (fun f H => (a.length - intAt f 5).toNat) ?_ ?_
  · exact ⟨0, by omega, rfl, by simp (disch := omega) only [wk, tis, Int.reduceNe, Int.reduceEq, Int.reduceLT, Int.reduceLE, Int.reduceAdd, Int.reduceSub, Int.reduceNeg, Int.reduceMul, Int.reduceToNat, Nat.reduceSub, Nat.reduceMul, Nat.reduceLeDiff, Nat.reduceAdd, Nat.reduceLT, Nat.reduceEqDiff, reduceCtorEq, ↓reduceIte], by simp (disch := omega) only [wk, tis, Int.reduceNe, Int.reduceEq, Int.reduceLT, Int.reduceLE, Int.reduceAdd, Int.reduceSub, Int.reduceNeg, Int.reduceMul, Int.reduceToNat, Nat.reduceSub, Nat.reduceMul, Nat.reduceLeDiff, Nat.reduceAdd, Nat.reduceLT, Nat.reduceEqDiff, reduceCtorEq, ↓reduceIte], by simp (disch := omega) only [wk, tis, Int.reduceNe, Int.reduceEq, Int.reduceLT, Int.reduceLE, Int.reduceAdd, Int.reduceSub, Int.reduceNeg, Int.reduceMul, Int.reduceToNat, Nat.reduceSub, Nat.reduceMul, Nat.reduceLeDiff, Nat.reduceAdd, Nat.reduceLT, Nat.reduceEqDiff, reduceCtorEq, ↓reduceIte]⟩
  rintro f H ⟨i, hi, he, h0, h1, h5⟩
  rw [intAt_of h5]
  simp (disch := omega) only [wk, tis, Int.reduceNe, Int.reduceEq, Int.reduceLT, Int.reduceLE, Int.reduceAdd, Int.reduceSub, Int.reduceNeg, Int.reduceMul, Int.reduceToNat, Nat.reduceSub, Nat.reduceMul, Nat.reduceLeDiff, Nat.reduceAdd, Nat.reduceLT, Nat.reduceEqDiff, reduceCtorEq, ↓reduceIte, h0, h1, h5]
  refine if_by (fun hlt => ?_) (fun hlt => ?_)
  · simp (disch := omega) only [wk, tis, Int.reduceNe, Int.reduceEq, Int.reduceLT, Int.reduceLE, Int.reduceAdd, Int.reduceSub, Int.reduceNeg, Int.reduceMul, Int.reduceToNat, Nat.reduceSub, Nat.reduceMul, Nat.reduceLeDiff, Nat.reduceAdd, Nat.reduceLT, Nat.reduceEqDiff, reduceCtorEq, ↓reduceIte, h0, h1, h5]
    refine ⟨tmps_by (by kernel_rfl), ?_⟩
    refine call_by ((rSameInt_ok (a.getD i (false, [])) (b.getD i (false, [])) (ha.get i).1 (hb.get i).1)) (by first | rfl | (simp only [tocvs, tocv, h0, h1, h5]; rfl) | (simp only [tocvs, tocv, toboxes, tobox, updH_at, Nat.reduceEqDiff, ↓reduceIte, h0, h1, h5]; rfl)) (by simp) ?_
    simp (disch := omega) only [wk, tis, Int.reduceNe, Int.reduceEq, Int.reduceLT, Int.reduceLE, Int.reduceAdd, Int.reduceSub, Int.reduceNeg, Int.reduceMul, Int.reduceToNat, Nat.reduceSub, Nat.reduceMul, Nat.reduceLeDiff, Nat.reduceAdd, Nat.reduceLT, Nat.reduceEqDiff, reduceCtorEq, ↓reduceIte, h0, h1, h5]
    first | exact log_by (by kernel_rfl) | refine ⟨log_by (by kernel_rfl), ?_⟩
    by_cases hne : a.getD i (false, []) = b.getD i (false, [])
    · simp (disch := omega) only [wk, tis, Int.reduceNe, Int.reduceEq, Int.reduceLT, Int.reduceLE, Int.reduceAdd, Int.reduceSub, Int.reduceNeg, Int.reduceMul, Int.reduceToNat, Nat.reduceSub, Nat.reduceMul, Nat.reduceLeDiff, Nat.reduceAdd, Nat.reduceLT, Nat.reduceEqDiff, reduceCtorEq, ↓reduceIte, h0, h1, h5, hne, Bool.not_true]
      refine ⟨⟨i + 1, by omega, ?_, by omega⟩, by omega⟩
      have hia : i < a.length := by omega
      have hib : i < b.length := by omega
      rw [List.take_add_one, List.take_add_one, he, List.getElem?_eq_getElem hia, List.getElem?_eq_getElem hib]
      have e1 : a.getD i (false, []) = a[i] := by simp [List.getD, hia]
      have e2 : b.getD i (false, []) = b[i] := by simp [List.getD, hib]
      rw [← e1, ← e2, hne]
    · simp (disch := omega) only [wk, tis, Int.reduceNe, Int.reduceEq, Int.reduceLT, Int.reduceLE, Int.reduceAdd, Int.reduceSub, Int.reduceNeg, Int.reduceMul, Int.reduceToNat, Nat.reduceSub, Nat.reduceMul, Nat.reduceLeDiff, Nat.reduceAdd, Nat.reduceLT, Nat.reduceEqDiff, reduceCtorEq, ↓reduceIte, h0, h1, h5, hne, Bool.not_false]
      exact (decide_eq_false (fun e => hne (by rw [e]))).symm
  · simp (disch := omega) only [wk, tis, Int.reduceNe, Int.reduceEq, Int.reduceLT, Int.reduceLE, Int.reduceAdd, Int.reduceSub, Int.reduceNeg, Int.reduceMul, Int.reduceToNat, Nat.reduceSub, Nat.reduceMul, Nat.reduceLeDiff, Nat.reduceAdd, Nat.reduceLT, Nat.reduceEqDiff, reduceCtorEq, ↓reduceIte, h0, h1, h5]
    rw [List.take_of_length_le (by omega), List.take_of_length_le (by omega)] at he
    exact (decide_eq_true he).symm

theorem rcopy_ok (c : RI) (h : c.2.length ≤ 2 ^ 40) : AC Try.prog 123 [cr c] none [cr c] := by
  refine AC.by_walk (rs := [.cell 2 40]) ords Try.func123 (by rfl) (by rfl) (by rfl) (by rfl) (by rfl) ?_
  simp (disch := omega) only [wk, tis, Int.reduceNe, Int.reduceEq, Int.reduceLT, Int.reduceLE, Int.reduceAdd, Int.reduceSub, Int.reduceNeg, Int.reduceMul, Int.reduceToNat, Nat.reduceSub, Nat.reduceMul, Nat.reduceLeDiff, Nat.reduceAdd, Nat.reduceLT, Nat.reduceEqDiff, reduceCtorEq, ↓reduceIte]
  refine ⟨tmps_by (by kernel_rfl), ?_⟩
  first | exact log_by (by kernel_rfl) | refine ⟨log_by (by kernel_rfl), ?_⟩
  rfl

theorem tcopy_ok (p : List RI) (h : RP (2 ^ 40) (2 ^ 40) p) : AC Try.prog 122 [cw p] none [cw p] := by
  refine AC.by_walk (rs := [.tmp 2]) ords Try.func122 (by rfl) (by rfl) (by rfl) (by rfl) (by rfl) ?_
  have hl := h.1
  simp (disch := omega) only [wk, tis, Int.reduceNe, Int.reduceEq, Int.reduceLT, Int.reduceLE, Int.reduceAdd, Int.reduceSub, Int.reduceNeg, Int.reduceMul, Int.reduceToNat, Nat.reduceSub, Nat.reduceMul, Nat.reduceLeDiff, Nat.reduceAdd, Nat.reduceLT, Nat.reduceEqDiff, reduceCtorEq, ↓reduceIte]
  refine aloop_nil 3 3 40 2 (by simp (disch := omega) only [wk, tis, Int.reduceNe, Int.reduceEq, Int.reduceLT, Int.reduceLE, Int.reduceAdd, Int.reduceSub, Int.reduceNeg, Int.reduceMul, Int.reduceToNat, Nat.reduceSub, Nat.reduceMul, Nat.reduceLeDiff, Nat.reduceAdd, Nat.reduceLT, Nat.reduceEqDiff, reduceCtorEq, ↓reduceIte]) (fun f H => ∃ (i st : Nat), i ≤ p.length ∧ f 4 = .iv (.int .i64 i) ∧ f 0 = .iv (.sl (raws p)) ∧ f 3 = .hs 3 st ∧ H 3 = .blk false st 40 2 (raws (p.take i))) (fun f H => (p.length - intAt f 4).toNat) ?_ ?_
  · refine ⟨0, 1, by omega, ?_⟩
    simp (disch := omega) only [wk, tis, Int.reduceNe, Int.reduceEq, Int.reduceLT, Int.reduceLE, Int.reduceAdd, Int.reduceSub, Int.reduceNeg, Int.reduceMul, Int.reduceToNat, Nat.reduceSub, Nat.reduceMul, Nat.reduceLeDiff, Nat.reduceAdd, Nat.reduceLT, Nat.reduceEqDiff, reduceCtorEq, ↓reduceIte, ghostF, ghostH, List.take_zero]
  rintro f H ⟨i, st, hi, hF⟩
  rw [intAt_of hF.1]
  simp (disch := omega) only [wk, tis, Int.reduceNe, Int.reduceEq, Int.reduceLT, Int.reduceLE, Int.reduceAdd, Int.reduceSub, Int.reduceNeg, Int.reduceMul, Int.reduceToNat, Nat.reduceSub, Nat.reduceMul, Nat.reduceLeDiff, Nat.reduceAdd, Nat.reduceLT, Nat.reduceEqDiff, reduceCtorEq, ↓reduceIte, hF]
  refine if_by (fun hlt => ?_) (fun hlt => ?_)
  · have hq : (p.take i).length = i := by rw [List.length_take]; omega
    simp (disch := omega) only [wk, tis, Int.reduceNe, Int.reduceEq, Int.reduceLT, Int.reduceLE, Int.reduceAdd, Int.reduceSub, Int.reduceNeg, Int.reduceMul, Int.reduceToNat, Nat.reduceSub, Nat.reduceMul, Nat.reduceLeDiff, Nat.reduceAdd, Nat.reduceLT, Nat.reduceEqDiff, reduceCtorEq, ↓reduceIte, hF, hq]
    refine call_by ((rcopy_ok (p.getD i (false, [])) (h.get i).1)) (by first | rfl | (simp only [tocvs, tocv, hF, hq]; rfl) | (simp only [tocvs, tocv, toboxes, tobox, updH_at, Nat.reduceEqDiff, ↓reduceIte, hF, hq]; rfl)) (by simp) ?_
    simp (disch := omega) only [wk, tis, Int.reduceNe, Int.reduceEq, Int.reduceLT, Int.reduceLE, Int.reduceAdd, Int.reduceSub, Int.reduceNeg, Int.reduceMul, Int.reduceToNat, Nat.reduceSub, Nat.reduceMul, Nat.reduceLeDiff, Nat.reduceAdd, Nat.reduceLT, Nat.reduceEqDiff, reduceCtorEq, ↓reduceIte, hF, hq]
    have hip : i < p.length := by omega
    refine ⟨⟨i + 1, st + 1, by omega, by omega, rfl, ?_⟩, by omega⟩
    rw [List.take_add_one]
    simp [hip, List.getD]
  · simp (disch := omega) only [wk, tis, Int.reduceNe, Int.reduceEq, Int.reduceLT, Int.reduceLE, Int.reduceAdd, Int.reduceSub, Int.reduceNeg, Int.reduceMul, Int.reduceToNat, Nat.reduceSub, Nat.reduceMul, Nat.reduceLeDiff, Nat.reduceAdd, Nat.reduceLT, Nat.reduceEqDiff, reduceCtorEq, ↓reduceIte, hF]
    rw [List.take_of_length_le (by omega)]
end Go.Proofs.Ythgecppfgdadiaa

namespace Go.Proofs.Ythgecppfgdadiaa
open Go Go.Proofs Go.AL
open Go.RowKit Go.Shelf
set_option linter.unusedSimpArgs false
set_option linter.unusedVariables false
attribute [local go_sem] Oper.semAt_some

/-- A row's cells in memory. -/
theorem agg_row {w : World} {D : Nat → Prop} {r : List IV} {cell : Nat → Value} (h : ∀ (j : Nat) (x : IV), r[j]? = some x → Rep w D x (cell j)) : Reps w D r ((List.range r.length).map cell) := by
  refine Reps.of_get (by simp) fun j x hj => ?_
  have hlt : j < r.length := (List.getElem?_eq_some_iff.1 hj).1
  exact ⟨cell j, by simp [hlt], h j x hj⟩

set_option maxRecDepth 100000 in
set_option maxHeartbeats 4000000 in
theorem back_in (F : Fence) (n : Nat) (h7 : F.fn 148) (hro : F.round = none) (hn : 1 ≤ n) (l Bs Bo b off len cap : Nat) (cell : Nat → Nat → Value) (n0 : Nat) (D : Nat → Prop) (hlen : (len : Int) * 32 ≤ 140737488351232) (J Jx : Nat → World → Prop) (w : World)
    (hBs0 : Bs < n0) (hBs1 : ¬ D Bs) (hb0 : b < n0) (hb1 : ¬ D b)
    (hY : ∀ k W1, k < len → J k W1 → YieldAt F (n - 1) Try.prog l #[.int .i64 ((len : Int) - 1 - k), .agg #[cell (len - 1 - k) 0, cell (len - 1 - k) 1]] W1 fun e W' => (e = .returned (.bool true) ∧ J (k + 1) W' ∧ Kept D n0 W1 W') ∨ (e = .returned (.bool false) ∧ Jx k W'))
    (hw : w.cell? ⟨Bs, Bo, none⟩ = some (.slice (some ⟨b, off, none⟩) len cap)) (hc : ∀ i, i < len → w.cell? ⟨b, off + i * 2, none⟩ = some (cell i 0) ∧ w.cell? ⟨b, off + i * 2 + 1, none⟩ = some (cell i 1))
    (W : World) (hk : Kept D n0 w W) (h0 : J 0 W) :
    CallsIn F n Try.prog 148 #[.func (.yield l) #[] #[], .pointer (some ⟨Bs, Bo, none⟩)] W fun e W' => (∃ v, e = .returned v) ∧ (J len W' ∨ ∃ k, Jx k W') := by
  refine callsIn_of_wp Try.func148 rfl h7 ?_ hro
  simp only [Try.ntmps148, List.size_toArray, List.length_cons, List.length_nil, Nat.reduceAdd, Nat.reduceSub, Array.replicate_succ, Array.replicate_zero, List.push_toArray, List.append_toArray, List.nil_append, List.cons_append]
  have kc : ∀ {W' : World} {g o : Nat} {v : Value}, Kept D n0 w W' → g < n0 → ¬ D g → w.cell? ⟨g, o, none⟩ = some v → W'.cell? ⟨g, o, none⟩ = some v := fun hk hg hD hv => by
    rw [World.cell?_of_block (hk _ hg hD (cells_of_cell hv))]; exact hv
  have hW := kc hk hBs0 hBs1 hw
  gi_wp2
  gi_loopw [3] (fun i wr => ∃ k : Nat, k ≤ len ∧ i = .int .i64 ((len : Int) - 1 - k) ∧ J k wr ∧ Kept D n0 w wr)
    (fun i _ => (intOf i + 1).toNat)
  case atStart => exact ⟨0, Nat.zero_le _, by congr 1; omega, h0, hk⟩
  case round =>
    obtain ⟨k, hkl, rfl, hJs, hnx⟩ := hrel
    have hWr := kc hnx hBs0 hBs1 hw
    by_cases hlt : k < len
    · obtain ⟨fn, tmps, assign, body, hy, hR⟩ := hY k wr hlt hJs
      obtain ⟨hc0, hc1⟩ := hc (len - 1 - k) (by omega)
      have hcx0 := kc hnx hb0 hb1 hc0
      have hcx1 := kc hnx hb0 hb1 hc1
      have hge : (k : Int) ≤ (len : Int) - 1 := by omega
      gi_wp2
      refine hR.mono ?_
      rintro e W3 (⟨rfl, hJ3, hk3⟩ | ⟨rfl, hJx3⟩)
      · gi_wp2
        go_roundw
        case rel => exact ⟨k + 1, by omega, by congr 1; omega, hJ3, hnx.trans hk3⟩
        case measure => simp [intOf]; omega
      · gi_wp2
        refine bodyPost_ret (results_none rfl _ _ _) rfl ?_
        exact ⟨⟨_, rfl⟩, .inr ⟨_, hJx3⟩⟩
    · obtain rfl : k = len := by omega
      have hge : ¬ ((k : Int) ≤ (k : Int) - 1) := by omega
      gi_wp2
      go_end0
      exact ⟨⟨_, rfl⟩, .inl hJs⟩

set_option maxRecDepth 100000 in
set_option maxHeartbeats 1000000 in
theorem back_nil_in (F : Fence) (n : Nat) (h7 : F.fn 148) (hro : F.round = none) (l Bs Bo : Nat) (a : Option Addr) (cap : Nat) (J : World → Prop)
    (W : World) (hW : W.cell? ⟨Bs, Bo, none⟩ = some (.slice a 0 cap)) (h0 : J W) :
    CallsIn F n Try.prog 148 #[.func (.yield l) #[] #[], .pointer (some ⟨Bs, Bo, none⟩)] W fun e W' => (∃ v, e = .returned v) ∧ J W' := by
  refine callsIn_of_wp Try.func148 rfl h7 ?_ hro
  simp only [Try.ntmps148, List.size_toArray, List.length_cons, List.length_nil, Nat.reduceAdd, Nat.reduceSub, Array.replicate_succ, Array.replicate_zero, List.push_toArray, List.append_toArray, List.nil_append, List.cons_append]
  gi_wp2
  gi_loopw [3] (fun i wr => i = .int .i64 (-1) ∧ J wr) (fun _ _ => 0)
  case atStart => exact ⟨rfl, h0⟩
  case round =>
    obtain ⟨rfl, hJs⟩ := hrel
    gi_wp2
    go_end0
    exact ⟨⟨_, rfl⟩, hJs⟩

theorem run_enter_back : ∀ args w, (callFunc 148 args).run Try.prog w = .ok (.enter 148 args) w := enters_of Try.func148 (by kernel_rfl) rfl

/-- slices.Backward's closure is an iterator: the last first. -/
theorem back_iter {rows : List (List IV)} (h2 : ∀ r ∈ rows, r.length = 2) (hlen : (rows.length : Int) * 32 ≤ 140737488351232) : AIter Try.prog 148 [[.sl rows]] 2 rows.length
    (fun k => [ci ((rows.length : Int) - 1 - k), .agg (rows.getD (rows.length - 1 - k) [])]) := by
  refine ⟨run_enter_back, fun w D vs hD hb => ?_⟩
  match vs, hb with
  | ⟨[v]⟩, hb =>
    obtain ⟨⟨Bs, Bo, rfl, hDb, us, hus, hcs⟩, -⟩ := hb
    match us, hus with
    | [u], hus =>
      have hcell : w.cell? ⟨Bs, Bo, none⟩ = some u := by simpa using hcs 0 u rfl
      have hBs1 := hDb (by simp)
      have hBs0 := World.block_lt_of_cell? w _ hcell
      generalize hx : IV.sl rows = x at hus
      cases hus.1 with
      | int => cases hx
      | bool => cases hx
      | raw => cases hx
      | nil a cap hcap =>
        cases hx
        refine ⟨fun _ => #[Go.undef, Go.undef], fun _ => rfl, fun k hk => absurd hk (by simp), fun l J Jx W hk hs _ _ hY h0 => ?_⟩
        have hW : W.cell? ⟨Bs, Bo, none⟩ = some (.slice a 0 cap) := by
          rw [World.cell?_of_block (hk _ hBs0 hBs1 (cells_of_cell hcell))]; exact hcell
        exact ((back_nil_in (Wd none) 0 trivial rfl l Bs Bo a cap (J 0) W hW h0).mono fun e W' h => ⟨h.1, .inl h.2⟩)
      | sl rows' g o cap sz cell hsz hle hcap hg hD' hc hr =>
        cases hx
        have goW : ∀ {W : World}, Kept D w.heap.size w W → W.cell? ⟨Bs, Bo, none⟩ = some (.slice (some ⟨g, o, none⟩) rows.length cap) := fun hk => by
          rw [World.cell?_of_block (hk _ hBs0 hBs1 (cells_of_cell hcell))]; exact hcell
        by_cases hne : rows = []
        · subst hne
          refine ⟨fun _ => #[Go.undef, Go.undef], fun _ => rfl, fun k hk => absurd hk (by simp), fun l J Jx W hk hs _ _ hY h0 => ?_⟩
          exact ((back_nil_in (Wd none) 0 trivial rfl l Bs Bo _ cap (J 0) W (goW hk) h0).mono fun e W' h => ⟨h.1, .inl h.2⟩)
        · obtain ⟨r0, hr0⟩ : ∃ r, rows[0]? = some r := ⟨rows[0]'(List.length_pos_iff.2 hne), by simp⟩
          obtain rfl : sz = 2 := (hsz 0 r0 hr0).symm.trans (h2 r0 (List.mem_of_getElem? hr0))
          have hro : ∀ i, i < rows.length → ∃ x y, rows[i]? = some [x, y] := fun i hi => by
            have e : rows[i]? = some rows[i] := by simp [hi]
            have hl := h2 rows[i] (List.mem_of_getElem? e)
            match hm : rows[i], hl with
            | [x, y], _ => exact ⟨x, y, by rw [e, hm]⟩
          refine ⟨fun k => #[.int .i64 ((rows.length : Int) - 1 - k), .agg #[cell (rows.length - 1 - k) 0, cell (rows.length - 1 - k) 1]], fun _ => rfl, fun k hk => ?_, fun l J Jx W hk hs _ _ hY h0 => ?_⟩
          · obtain ⟨x, y, he⟩ := hro (rows.length - 1 - k) (by omega)
            refine ⟨Rep.int _ _, ⟨_, rfl, ?_⟩, trivial⟩
            have hg2 : rows.getD (rows.length - 1 - k) [] = [x, y] := by rw [List.getD_eq_getElem?_getD, he]; rfl
            rw [hg2]
            exact ⟨hr _ _ he 0 x rfl, hr _ _ he 1 y rfl, trivial⟩
          · have h := back_in (Wd none) 1 trivial rfl (Nat.le_refl _) l Bs Bo g o rows.length cap cell w.heap.size D hlen J Jx w hBs0 hBs1 hg hD' hY hcell (fun i hi => by
              obtain ⟨x, y, he⟩ := hro i hi
              exact ⟨hc _ _ he 0 x rfl, hc _ _ he 1 y rfl⟩) W hk h0
            exact ⟨trivial, fun cs _ => h.2 cs (room_wd _ _)⟩

theorem back_ok (rows : List (List IV)) : AC Try.prog 124 [.iv (.sl rows)] none [.fn 148 [[.sl rows]]] := by
  refine AC.by_walk (rs := [.tmp 2]) ords Try.func124 (by rfl) (by rfl) (by rfl) (by rfl) (by rfl) ?_
  simp (disch := omega) only [wk, tis, Int.reduceNe, Int.reduceEq, Int.reduceLT, Int.reduceLE, Int.reduceAdd, Int.reduceSub, Int.reduceNeg, Int.reduceMul, Int.reduceToNat, Nat.reduceSub, Nat.reduceMul, Nat.reduceLeDiff, Nat.reduceAdd, Nat.reduceLT, Nat.reduceEqDiff, reduceCtorEq, ↓reduceIte]
end Go.Proofs.Ythgecppfgdadiaa

namespace Go.Proofs.Ythgecppfgdadiaa
open Go Go.Proofs Go.AL
set_option linter.unusedSimpArgs false
set_option linter.unusedVariables false

theorem pnormo_ok (p : List RI) (h : RP (2 ^ 40) (2 ^ 40) p) : AC Try.prog 16 [cw p] (some (0, 40, 2, cpoly (pv p))) [cp (pv p)] := by
  refine AC.by_walk (rs := [.tmp 2]) ords Try.func16 (by rfl) (by rfl) (by rfl) (by rfl) (by rfl) ?_
  have hl := h.1
  have htl := tz_le (pv p)
  rw [pv_len] at htl
  simp (disch := omega) only [wk, tis, Int.reduceNe, Int.reduceEq, Int.reduceLT, Int.reduceLE, Int.reduceAdd, Int.reduceSub, Int.reduceNeg, Int.reduceMul, Int.reduceToNat, Nat.reduceSub, Nat.reduceMul, Nat.reduceLeDiff, Nat.reduceAdd, Nat.reduceLT, Nat.reduceEqDiff, reduceCtorEq, ↓reduceIte]
  refine call_by ((size_ok p h)) (by rfl) (by simp) ?_
  simp (disch := omega) only [wk, tis, Int.reduceNe, Int.reduceEq, Int.reduceLT, Int.reduceLE, Int.reduceAdd, Int.reduceSub, Int.reduceNeg, Int.reduceMul, Int.reduceToNat, Nat.reduceSub, Nat.reduceMul, Nat.reduceLeDiff, Nat.reduceAdd, Nat.reduceLT, Nat.reduceEqDiff, reduceCtorEq, ↓reduceIte]
  refine aloop_nil 3 3 40 2 (by simp (disch := omega) only [wk, tis, Int.reduceNe, Int.reduceEq, Int.reduceLT, Int.reduceLE, Int.reduceAdd, Int.reduceSub, Int.reduceNeg, Int.reduceMul, Int.reduceToNat, Nat.reduceSub, Nat.reduceMul, Nat.reduceLeDiff, Nat.reduceAdd, Nat.reduceLT, Nat.reduceEqDiff, reduceCtorEq, ↓reduceIte]) (fun f H => ∃ (k st : Nat), k ≤ tz (pv p) ∧ f 0 = .iv (.sl (raws p)) ∧ f 3 = .hs 3 st ∧ f 6 = .iv (.int .i64 (tz (pv p))) ∧ f 7 = .iv (.int .i64 k) ∧ H 3 = .blk false st 40 2 (raws (((trimz (pv p)).take k).map canon))) (fun f H => (tz (pv p) - intAt f 7).toNat) ?_ ?_
  · refine ⟨0, 1, by omega, ?_⟩
    simp (disch := omega) only [wk, tis, Int.reduceNe, Int.reduceEq, Int.reduceLT, Int.reduceLE, Int.reduceAdd, Int.reduceSub, Int.reduceNeg, Int.reduceMul, Int.reduceToNat, Nat.reduceSub, Nat.reduceMul, Nat.reduceLeDiff, Nat.reduceAdd, Nat.reduceLT, Nat.reduceEqDiff, reduceCtorEq, ↓reduceIte, ghostF, ghostH, List.take_zero]
  rintro f H ⟨k, st, hk, h0, h3, h6, h7, hH⟩
  rw [intAt_of h7]
  simp (disch := omega) only [wk, tis, Int.reduceNe, Int.reduceEq, Int.reduceLT, Int.reduceLE, Int.reduceAdd, Int.reduceSub, Int.reduceNeg, Int.reduceMul, Int.reduceToNat, Nat.reduceSub, Nat.reduceMul, Nat.reduceLeDiff, Nat.reduceAdd, Nat.reduceLT, Nat.reduceEqDiff, reduceCtorEq, ↓reduceIte, h0, h3, h6, h7, hH]
  refine if_by (fun hlt => ?_) (fun hlt => ?_)
  · simp (disch := omega) only [wk, tis, Int.reduceNe, Int.reduceEq, Int.reduceLT, Int.reduceLE, Int.reduceAdd, Int.reduceSub, Int.reduceNeg, Int.reduceMul, Int.reduceToNat, Nat.reduceSub, Nat.reduceMul, Nat.reduceLeDiff, Nat.reduceAdd, Nat.reduceLT, Nat.reduceEqDiff, reduceCtorEq, ↓reduceIte, h0, h3, h6, h7, hH]
    have hq : (((trimz (pv p)).take k).map canon).length = k := by rw [List.length_map, List.length_take, trimz_len]; omega
    refine call_by ((znorm_ok (p.getD k (false, [])) (h.get _))) (by first | rfl | (simp only [tocvs, tocv, h0, h3, h6, h7, hH, hq]; rfl) | (simp only [tocvs, tocv, toboxes, tobox, updH_at, Nat.reduceEqDiff, ↓reduceIte, h0, h3, h6, h7, hH, hq]; rfl)) (by simp) ?_
    simp (disch := omega) only [wk, tis, Int.reduceNe, Int.reduceEq, Int.reduceLT, Int.reduceLE, Int.reduceAdd, Int.reduceSub, Int.reduceNeg, Int.reduceMul, Int.reduceToNat, Nat.reduceSub, Nat.reduceMul, Nat.reduceLeDiff, Nat.reduceAdd, Nat.reduceLT, Nat.reduceEqDiff, reduceCtorEq, ↓reduceIte, h0, h3, h6, h7, hH, hq]
    refine ⟨⟨k + 1, st + 1, by omega, rfl, by omega, ?_⟩, by omega⟩
    rw [trimz_take_succ (by omega), cf_pv]
  · simp (disch := omega) only [wk, tis, Int.reduceNe, Int.reduceEq, Int.reduceLT, Int.reduceLE, Int.reduceAdd, Int.reduceSub, Int.reduceNeg, Int.reduceMul, Int.reduceToNat, Nat.reduceSub, Nat.reduceMul, Nat.reduceLeDiff, Nat.reduceAdd, Nat.reduceLT, Nat.reduceEqDiff, reduceCtorEq, ↓reduceIte, h0, h3, h6, h7, hH]
    have hk : k = tz (pv p) := by omega
    rw [hk, List.take_of_length_le (by rw [trimz_len]; exact Nat.le_refl _)]
    rfl


theorem mline_ok (a b : RI) (ha : Sz (2 ^ 35) a) (hb : Sz (2 ^ 35) b) : AC Try.prog 121 [cr a, cr b] none [cp [iv b, iv a]] := by
  refine AC.by_walk (rs := [.tmp 4]) ords Try.func121 (by rfl) (by rfl) (by rfl) (by rfl) (by rfl) ?_
  simp (disch := omega) only [wk, tis, Int.reduceNe, Int.reduceEq, Int.reduceLT, Int.reduceLE, Int.reduceAdd, Int.reduceSub, Int.reduceNeg, Int.reduceMul, Int.reduceToNat, Nat.reduceSub, Nat.reduceMul, Nat.reduceLeDiff, Nat.reduceAdd, Nat.reduceLT, Nat.reduceEqDiff, reduceCtorEq, ↓reduceIte]
  have := pnorm_ok [b, a] ⟨by simp, fun c hc => by
    rcases List.mem_cons.1 hc with rfl | hc
    · exact hb.mono (by omega)
    · rw [List.mem_singleton.1 hc]; exact ha.mono (by omega)⟩
  have e : pv [b, a] = [iv b, iv a] := rfl
  rw [e] at this
  refine call_by (this) (by rfl) (by simp) ?_
  simp (disch := omega) only [wk, tis, Int.reduceNe, Int.reduceEq, Int.reduceLT, Int.reduceLE, Int.reduceAdd, Int.reduceSub, Int.reduceNeg, Int.reduceMul, Int.reduceToNat, Nat.reduceSub, Nat.reduceMul, Nat.reduceLeDiff, Nat.reduceAdd, Nat.reduceLT, Nat.reduceEqDiff, reduceCtorEq, ↓reduceIte]

theorem cpoly_two (q : List Int) : ∀ r ∈ cpoly q, r.length = 2 := fun r hr => by
  obtain ⟨c, _, rfl⟩ := List.mem_map.1 hr
  rfl
theorem cpoly_len' (q : List Int) : (cpoly q).length = tz q := by simp [cpoly, raws, trimz_len]
theorem cpoly_getD (q : List Int) {i : Nat} (h : i < tz q) : (cpoly q).getD i [] = prow (canon (cf q i)) := by
  have hl : i < (trimz q).length := by rw [trimz_len]; exact h
  have e : cf q i = (trimz q)[i] := by rw [← cf_trimz]; simp [cf, List.getD, hl]
  rw [e]
  simp [cpoly, raws, List.getD, hl]
theorem drop_trimz (q : List Int) {i : Nat} (h : i < tz q) : (trimz q).drop i = cf q i :: (trimz q).drop (i + 1) := by
  have hl : i < (trimz q).length := by rw [trimz_len]; exact h
  have e : cf q i = (trimz q)[i] := by rw [← cf_trimz]; simp [cf, List.getD, hl]
  rw [e, List.drop_eq_getElem_cons hl]

theorem lh_bounds {m : Nat} (h : m ≤ 2 ^ 10) : m * 2 ^ 10 + 1 ≤ 2 ^ 20 + 1 ∧ m * (2 ^ 20 + 2) + 2 ^ 20 + 3 ≤ 2 ^ 32 := by
  constructor <;> omega

theorem mcompose_ok (p q : List RI) (hp : RP (2 ^ 10) (2 ^ 20) p) (hq : RP (2 ^ 10) (2 ^ 20) q) : AC Try.prog 61 [cw p, cw q] none [cp (lhom (trimz (pv p)) (pv q) [1])] := by
  refine AC.by_walk (rs := [.tmp 4]) ords Try.func61 (by rfl) (by rfl) (by rfl) (by rfl) (by rfl) ?_
  simp (disch := omega) only [wk, tis, Int.reduceNe, Int.reduceEq, Int.reduceLT, Int.reduceLE, Int.reduceAdd, Int.reduceSub, Int.reduceNeg, Int.reduceMul, Int.reduceToNat, Nat.reduceSub, Nat.reduceMul, Nat.reduceLeDiff, Nat.reduceAdd, Nat.reduceLT, Nat.reduceEqDiff, reduceCtorEq, ↓reduceIte]
  refine call_by ((pnorm_ok p (hp.mono (by omega) (by omega)))) (by rfl) (by simp) ?_
  simp (disch := omega) only [wk, tis, Int.reduceNe, Int.reduceEq, Int.reduceLT, Int.reduceLE, Int.reduceAdd, Int.reduceSub, Int.reduceNeg, Int.reduceMul, Int.reduceToNat, Nat.reduceSub, Nat.reduceMul, Nat.reduceLeDiff, Nat.reduceAdd, Nat.reduceLT, Nat.reduceEqDiff, reduceCtorEq, ↓reduceIte]
  refine call_by ((back_ok (cpoly (pv p)))) (by rfl) (by simp) ?_
  simp (disch := omega) only [wk, tis, Int.reduceNe, Int.reduceEq, Int.reduceLT, Int.reduceLE, Int.reduceAdd, Int.reduceSub, Int.reduceNeg, Int.reduceMul, Int.reduceToNat, Nat.reduceSub, Nat.reduceMul, Nat.reduceLeDiff, Nat.reduceAdd, Nat.reduceLT, Nat.reduceEqDiff, reduceCtorEq, ↓reduceIte]
  have hA := hp.pv.trimz
  have hlt : tz (pv p) ≤ 2 ^ 10 := by rw [← trimz_len]; exact hA.1
  have hdr : ∀ i, PB (2 ^ 10) (2 ^ 20) ((trimz (pv p)).drop i) := fun i => ⟨by rw [List.length_drop]; have := hA.1; omega, fun z hz => hA.2 z (List.mem_of_mem_drop hz)⟩
  have hone : PB (2 ^ 10) (2 ^ 20) [1] := .one (by omega) (by omega)
  have hB : ∀ i, PB (2 ^ 20 + 1) (2 ^ 32) (lhom ((trimz (pv p)).drop i) (pv q) [1]) := fun i => by
    have h := pb_lhom hq.pv hone (by omega) (by omega) (hdr i)
    exact h.mono (lh_bounds (hdr i).1).1 (lh_bounds (hdr i).1).2
  have hcl := cpoly_len' (pv p)
  refine range_by (l := [.ip [.sl (cpoly (pv p))]]) (c := True ∧ True) (ms := []) (back_iter (rows := cpoly (pv p)) (cpoly_two _) (by omega)) (fun k H2 => k ≤ tz (pv p) ∧ H2 3 = HC.blk false 1 23 1 [[.sl (raws q)]] ∧ H2 5 = HC.blk false 1 23 1 [[.sl (cpoly (lhom ((trimz (pv p)).drop (tz (pv p) - k)) (pv q) [1]))]]) (by simp (disch := omega) only [wk, tis, Int.reduceNe, Int.reduceEq, Int.reduceLT, Int.reduceLE, Int.reduceAdd, Int.reduceSub, Int.reduceNeg, Int.reduceMul, Int.reduceToNat, Nat.reduceSub, Nat.reduceMul, Nat.reduceLeDiff, Nat.reduceAdd, Nat.reduceLT, Nat.reduceEqDiff, reduceCtorEq, ↓reduceIte]) (by rfl) ⟨trivial, trivial⟩ ?_ ?_ ?_
  · rw [List.drop_of_length_le (by rw [trimz_len]; omega)]
    refine ⟨by omega, by simp (disch := omega) only [wk, tis, Int.reduceNe, Int.reduceEq, Int.reduceLT, Int.reduceLE, Int.reduceAdd, Int.reduceSub, Int.reduceNeg, Int.reduceMul, Int.reduceToNat, Nat.reduceSub, Nat.reduceMul, Nat.reduceLeDiff, Nat.reduceAdd, Nat.reduceLT, Nat.reduceEqDiff, reduceCtorEq, ↓reduceIte], by simp (disch := omega) only [wk, tis, Int.reduceNe, Int.reduceEq, Int.reduceLT, Int.reduceLE, Int.reduceAdd, Int.reduceSub, Int.reduceNeg, Int.reduceMul, Int.reduceToNat, Nat.reduceSub, Nat.reduceMul, Nat.reduceLeDiff, Nat.reduceAdd, Nat.reduceLT, Nat.reduceEqDiff, reduceCtorEq, ↓reduceIte, show cpoly (lhom [] (pv q) [1]) = [] from rfl]⟩
  · rintro k H2 hk ⟨hk', h3, h5⟩
    rw [hcl] at hk
    rw [hcl, cpoly_getD _ (by omega)]
    simp (disch := omega) only [wk, tis, Int.reduceNe, Int.reduceEq, Int.reduceLT, Int.reduceLE, Int.reduceAdd, Int.reduceSub, Int.reduceNeg, Int.reduceMul, Int.reduceToNat, Nat.reduceSub, Nat.reduceMul, Nat.reduceLeDiff, Nat.reduceAdd, Nat.reduceLT, Nat.reduceEqDiff, reduceCtorEq, ↓reduceIte, h3, h5]
    refine ⟨tmps_by (by kernel_rfl), ?_⟩
    obtain ⟨i, hi⟩ : ∃ i, i = tz (pv p) - 1 - k := ⟨_, rfl⟩
    have hi1 : tz (pv p) - k = i + 1 := by omega
    have hi2 : tz (pv p) - (k + 1) = i := by omega
    have hdi := drop_trimz (pv p) (i := i) (by omega)
    rw [hi1, ← hi]
    have hBi := hB (i + 1)
    have eo := ps_lhom ((trimz (pv p)).drop i) (pv q) [1]
    rw [hdi] at eo
    have eo1 := ps_lhom ((trimz (pv p)).drop (i + 1)) (pv q) [1]
    generalize lhom ((trimz (pv p)).drop (i + 1)) (pv q) [1] = out at hBi eo1 ⊢
    have zc := hp.pv.cf i
    have m := pmul_g (a := cn out) (b := q) (rp_cn (hBi.mono (by omega) (by omega))) (hq.mono (by omega) (by omega)) (ps_cn out) rfl
    refine call_by (m) (by first | rfl | (simp only [tocvs, tocv, h3, h5]; rfl) | (simp only [tocvs, tocv, toboxes, tobox, updH_at, Nat.reduceEqDiff, ↓reduceIte, h3, h5]; rfl)) (by simp) ?_
    simp (disch := omega) only [wk, tis, Int.reduceNe, Int.reduceEq, Int.reduceLT, Int.reduceLE, Int.reduceAdd, Int.reduceSub, Int.reduceNeg, Int.reduceMul, Int.reduceToNat, Nat.reduceSub, Nat.reduceMul, Nat.reduceLeDiff, Nat.reduceAdd, Nat.reduceLT, Nat.reduceEqDiff, reduceCtorEq, ↓reduceIte, h3, h5]
    have hm := hBi.pmul hq.pv (by decide)
    have s := padd_g (a := cn (pmul out (pv q))) (b := [canon (cf (pv p) i)]) (q := pmul out (pv q)) (r := [cf (pv p) i]) (rp_cn (hm.mono (by omega) (by omega))) (RP.canon (q := [cf (pv p) i]) ⟨by simp, fun z hz => by rw [List.mem_singleton.1 hz]; omega⟩) (ps_cn _) (by show ps [iv (canon (cf (pv p) i))] = _; rw [iv_canon])
    refine call_by (s) (by first | rfl | (simp only [tocvs, tocv, h3, h5]; rfl) | (simp only [tocvs, tocv, toboxes, tobox, updH_at, Nat.reduceEqDiff, ↓reduceIte, h3, h5]; rfl)) (by simp) ?_
    simp (disch := omega) only [wk, tis, Int.reduceNe, Int.reduceEq, Int.reduceLT, Int.reduceLE, Int.reduceAdd, Int.reduceSub, Int.reduceNeg, Int.reduceMul, Int.reduceToNat, Nat.reduceSub, Nat.reduceMul, Nat.reduceLeDiff, Nat.reduceAdd, Nat.reduceLT, Nat.reduceEqDiff, reduceCtorEq, ↓reduceIte, h3, h5]
    first | exact log_by (by kernel_rfl) | refine ⟨log_by (by kernel_rfl), ?_⟩
    refine ⟨by omega, ?_⟩
    rw [hi2]
    have e : cpoly (padd (pmul out (pv q)) [cf (pv p) i]) = cpoly (lhom ((trimz (pv p)).drop i) (pv q) [1]) := cpoly_ext (ps_eq (by
      rw [hdi, eo, ps_padd, ps_pmul, eo1, hom, ps_one, ps_const, pw_one1, PS.mul_one]
      ac_rfl))
    rw [e]
  · rintro H2 ⟨hk', h3, h5⟩
    rw [hcl, Nat.sub_self, List.drop_zero] at h5
    simp (disch := omega) only [wk, tis, Int.reduceNe, Int.reduceEq, Int.reduceLT, Int.reduceLE, Int.reduceAdd, Int.reduceSub, Int.reduceNeg, Int.reduceMul, Int.reduceToNat, Nat.reduceSub, Nat.reduceMul, Nat.reduceLeDiff, Nat.reduceAdd, Nat.reduceLT, Nat.reduceEqDiff, reduceCtorEq, ↓reduceIte, h3, h5]
    have hB0 := hB 0
    rw [List.drop_zero] at hB0
    have m := pnorm_g (a := cn (lhom (trimz (pv p)) (pv q) [1])) (rp_cn (hB0.mono (by omega) (by omega))) (ps_cn _)
    refine call_by (m) (by first | rfl | (simp only [tocvs, tocv, h3, h5]; rfl) | (simp only [tocvs, tocv, toboxes, tobox, updH_at, Nat.reduceEqDiff, ↓reduceIte, h3, h5]; rfl)) (by simp) ?_
    simp (disch := omega) only [wk, tis, Int.reduceNe, Int.reduceEq, Int.reduceLT, Int.reduceLE, Int.reduceAdd, Int.reduceSub, Int.reduceNeg, Int.reduceMul, Int.reduceToNat, Nat.reduceSub, Nat.reduceMul, Nat.reduceLeDiff, Nat.reduceAdd, Nat.reduceLT, Nat.reduceEqDiff, reduceCtorEq, ↓reduceIte, h3, h5]
end Go.Proofs.Ythgecppfgdadiaa

namespace Go.Proofs.Ythgecppfgdadiaa
open Go Go.Proofs Go.AL
set_option linter.unusedSimpArgs false
set_option linter.unusedVariables false

theorem pv_one (c : RI) : pv [c] = [iv c] := rfl
theorem pv_two (b a : RI) : pv [b, a] = [iv b, iv a] := rfl
theorem trimz_cn (q : List Int) : trimz (pv (cn q)) = trimz q := trimz_ext (ps_eq (ps_cn q))
theorem pb_two {b a : RI} {K : Nat} (hb : Sz K b) (ha : Sz K a) : PB (2 ^ 10) K [iv b, iv a] := ⟨by simp, fun z hz => by
  rcases List.mem_cons.1 hz with rfl | hz
  · exact zl_iv hb
  · rw [List.mem_singleton.1 hz]; exact zl_iv ha⟩

theorem moeb_step {out Q R : PS} {c : Int} {p : List Int} {n : Nat} (hn : p.length = n) (h : out = hom p Q R) : out * Q + PS.C c * PS.pw R n = hom (c :: p) Q R := by
  rw [hom, h, hn]
  ac_rfl

theorem mmoebius_ok (p : List RI) (a b c d : RI) (hp : RP (2 ^ 10) (2 ^ 20) p) (ha : Sz (2 ^ 20) a) (hb : Sz (2 ^ 20) b) (hc : Sz (2 ^ 20) c) (hd : Sz (2 ^ 20) d) :
    AC Try.prog 63 [cw p, cr a, cr b, cr c, cr d] none [cp (lhom (trimz (pv p)) [iv b, iv a] [iv d, iv c])] := by
  refine AC.by_walk (rs := [.tmp 10]) ords Try.func63 (by rfl) (by rfl) (by rfl) (by rfl) (by rfl) ?_
  simp (disch := omega) only [wk, tis, Int.reduceNe, Int.reduceEq, Int.reduceLT, Int.reduceLE, Int.reduceAdd, Int.reduceSub, Int.reduceNeg, Int.reduceMul, Int.reduceToNat, Nat.reduceSub, Nat.reduceMul, Nat.reduceLeDiff, Nat.reduceAdd, Nat.reduceLT, Nat.reduceEqDiff, reduceCtorEq, ↓reduceIte]
  refine call_by ((pnorm_ok p (hp.mono (by omega) (by omega)))) (by rfl) (by simp) ?_
  simp (disch := omega) only [wk, tis, Int.reduceNe, Int.reduceEq, Int.reduceLT, Int.reduceLE, Int.reduceAdd, Int.reduceSub, Int.reduceNeg, Int.reduceMul, Int.reduceToNat, Nat.reduceSub, Nat.reduceMul, Nat.reduceLeDiff, Nat.reduceAdd, Nat.reduceLT, Nat.reduceEqDiff, reduceCtorEq, ↓reduceIte]
  refine ⟨tmps_by (by kernel_rfl), ?_⟩
  refine call_by ((mline_ok a b (ha.mono (by omega)) (hb.mono (by omega)))) (by rfl) (by simp) ?_
  simp (disch := omega) only [wk, tis, Int.reduceNe, Int.reduceEq, Int.reduceLT, Int.reduceLE, Int.reduceAdd, Int.reduceSub, Int.reduceNeg, Int.reduceMul, Int.reduceToNat, Nat.reduceSub, Nat.reduceMul, Nat.reduceLeDiff, Nat.reduceAdd, Nat.reduceLT, Nat.reduceEqDiff, reduceCtorEq, ↓reduceIte]
  refine call_by ((mline_ok c d (hc.mono (by omega)) (hd.mono (by omega)))) (by rfl) (by simp) ?_
  simp (disch := omega) only [wk, tis, Int.reduceNe, Int.reduceEq, Int.reduceLT, Int.reduceLE, Int.reduceAdd, Int.reduceSub, Int.reduceNeg, Int.reduceMul, Int.reduceToNat, Nat.reduceSub, Nat.reduceMul, Nat.reduceLeDiff, Nat.reduceAdd, Nat.reduceLT, Nat.reduceEqDiff, reduceCtorEq, ↓reduceIte]
  first | exact log_by (by kernel_rfl) | refine ⟨log_by (by kernel_rfl), ?_⟩
  refine call_by ((zOf_ok 1 (by omega) (by omega))) (by rfl) (by simp) ?_
  simp (disch := omega) only [wk, tis, Int.reduceNe, Int.reduceEq, Int.reduceLT, Int.reduceLE, Int.reduceAdd, Int.reduceSub, Int.reduceNeg, Int.reduceMul, Int.reduceToNat, Nat.reduceSub, Nat.reduceMul, Nat.reduceLeDiff, Nat.reduceAdd, Nat.reduceLT, Nat.reduceEqDiff, reduceCtorEq, ↓reduceIte]
  refine call_by ((back_ok (cpoly (pv p)))) (by rfl) (by simp) ?_
  simp (disch := omega) only [wk, tis, Int.reduceNe, Int.reduceEq, Int.reduceLT, Int.reduceLE, Int.reduceAdd, Int.reduceSub, Int.reduceNeg, Int.reduceMul, Int.reduceToNat, Nat.reduceSub, Nat.reduceMul, Nat.reduceLeDiff, Nat.reduceAdd, Nat.reduceLT, Nat.reduceEqDiff, reduceCtorEq, ↓reduceIte]
  have hA := hp.pv.trimz
  have hlt : tz (pv p) ≤ 2 ^ 10 := by rw [← trimz_len]; exact hA.1
  have hdr : ∀ i, PB (2 ^ 10) (2 ^ 20) ((trimz (pv p)).drop i) := fun i => ⟨by rw [List.length_drop]; have := hA.1; omega, fun z hz => hA.2 z (List.mem_of_mem_drop hz)⟩
  have hQ := pb_two hb ha
  have hR := pb_two hd hc
  generalize [iv b, iv a] = Q at *
  generalize [iv d, iv c] = R at *
  have hB : ∀ i, PB (2 ^ 20 + 1) (2 ^ 32) (lhom ((trimz (pv p)).drop i) Q R) := fun i => by
    have h := pb_lhom hQ hR (by omega) (by omega) (hdr i)
    exact h.mono (lh_bounds (hdr i).1).1 (lh_bounds (hdr i).1).2
  have hP : ∀ k, k ≤ 2 ^ 10 → PB (2 ^ 20 + 1) (2 ^ 32) (ppow R k) := fun k hk => by
    exact (hR.ppow (by decide) k).mono (by omega) (by omega)
  have hcl := cpoly_len' (pv p)
  have e0 : cpoly (ppow R 0) = [prow (canon 1)] := rfl
  refine range_by (l := [.ip [.sl (cpoly (pv p))]]) (c := True ∧ True) (ms := []) (back_iter (rows := cpoly (pv p)) (cpoly_two _) (by omega)) (fun k H2 => k ≤ tz (pv p) ∧ H2 11 = HC.blk false 1 23 1 [[.sl (cpoly Q)]] ∧ H2 12 = HC.blk false 1 23 1 [[.sl (cpoly R)]] ∧
    H2 13 = HC.blk false 1 23 1 [[.sl (cpoly (lhom ((trimz (pv p)).drop (tz (pv p) - k)) Q R))]] ∧ H2 14 = HC.blk false 1 23 1 [[.sl (cpoly (ppow R k))]]) (by simp (disch := omega) only [wk, tis, Int.reduceNe, Int.reduceEq, Int.reduceLT, Int.reduceLE, Int.reduceAdd, Int.reduceSub, Int.reduceNeg, Int.reduceMul, Int.reduceToNat, Nat.reduceSub, Nat.reduceMul, Nat.reduceLeDiff, Nat.reduceAdd, Nat.reduceLT, Nat.reduceEqDiff, reduceCtorEq, ↓reduceIte]) (by rfl) ⟨trivial, trivial⟩ ?_ ?_ ?_
  · rw [List.drop_of_length_le (by rw [trimz_len]; omega)]
    refine ⟨by omega, by simp (disch := omega) only [wk, tis, Int.reduceNe, Int.reduceEq, Int.reduceLT, Int.reduceLE, Int.reduceAdd, Int.reduceSub, Int.reduceNeg, Int.reduceMul, Int.reduceToNat, Nat.reduceSub, Nat.reduceMul, Nat.reduceLeDiff, Nat.reduceAdd, Nat.reduceLT, Nat.reduceEqDiff, reduceCtorEq, ↓reduceIte], by simp (disch := omega) only [wk, tis, Int.reduceNe, Int.reduceEq, Int.reduceLT, Int.reduceLE, Int.reduceAdd, Int.reduceSub, Int.reduceNeg, Int.reduceMul, Int.reduceToNat, Nat.reduceSub, Nat.reduceMul, Nat.reduceLeDiff, Nat.reduceAdd, Nat.reduceLT, Nat.reduceEqDiff, reduceCtorEq, ↓reduceIte], by simp (disch := omega) only [wk, tis, Int.reduceNe, Int.reduceEq, Int.reduceLT, Int.reduceLE, Int.reduceAdd, Int.reduceSub, Int.reduceNeg, Int.reduceMul, Int.reduceToNat, Nat.reduceSub, Nat.reduceMul, Nat.reduceLeDiff, Nat.reduceAdd, Nat.reduceLT, Nat.reduceEqDiff, reduceCtorEq, ↓reduceIte, show cpoly (lhom [] Q R) = [] from rfl], by simp (disch := omega) only [wk, tis, Int.reduceNe, Int.reduceEq, Int.reduceLT, Int.reduceLE, Int.reduceAdd, Int.reduceSub, Int.reduceNeg, Int.reduceMul, Int.reduceToNat, Nat.reduceSub, Nat.reduceMul, Nat.reduceLeDiff, Nat.reduceAdd, Nat.reduceLT, Nat.reduceEqDiff, reduceCtorEq, ↓reduceIte, e0]⟩
  · rintro k H2 hk ⟨hk', h11, h12, h13, h14⟩
    rw [hcl] at hk
    rw [hcl, cpoly_getD _ (by omega)]
    simp (disch := omega) only [wk, tis, Int.reduceNe, Int.reduceEq, Int.reduceLT, Int.reduceLE, Int.reduceAdd, Int.reduceSub, Int.reduceNeg, Int.reduceMul, Int.reduceToNat, Nat.reduceSub, Nat.reduceMul, Nat.reduceLeDiff, Nat.reduceAdd, Nat.reduceLT, Nat.reduceEqDiff, reduceCtorEq, ↓reduceIte, h11, h12, h13, h14]
    refine ⟨tmps_by (by kernel_rfl), ?_⟩
    obtain ⟨i, hi⟩ : ∃ i, i = tz (pv p) - 1 - k := ⟨_, rfl⟩
    have hi1 : tz (pv p) - k = i + 1 := by omega
    have hi2 : tz (pv p) - (k + 1) = i := by omega
    have hdi := drop_trimz (pv p) (i := i) (by omega)
    rw [hi1, ← hi]
    rw [hi1] at h13
    have hBi := hB (i + 1)
    have hPk := hP k (by omega)
    have eo := ps_lhom ((trimz (pv p)).drop i) Q R
    rw [hdi] at eo
    have eo1 := ps_lhom ((trimz (pv p)).drop (i + 1)) Q R
    have hlk : ((trimz (pv p)).drop (i + 1)).length = k := by rw [List.length_drop, trimz_len]; omega
    have ep := ps_ppow R k
    have ep1 : cpoly (pmul (ppow R k) R) = cpoly (ppow R (k + 1)) := cpoly_ext (ps_eq (by rw [ps_pmul, ps_ppow, ps_ppow, PS.pw]))
    generalize ppow R k = pw at hPk ep ep1 h14 ⊢
    generalize lhom ((trimz (pv p)).drop (i + 1)) Q R = out at hBi eo1 h13 ⊢
    have zc := hp.pv.cf i
    have m := pmul_g (a := cn out) (b := cn Q) (rp_cn (hBi.mono (by omega) (by omega))) (rp_cn (hQ.mono (by omega) (by omega))) (ps_cn out) (ps_cn Q)
    refine call_by (m) (by first | rfl | (simp only [tocvs, tocv, h11, h12, h13, h14]; rfl) | (simp only [tocvs, tocv, toboxes, tobox, updH_at, Nat.reduceEqDiff, ↓reduceIte, h11, h12, h13, h14]; rfl)) (by simp) ?_
    simp (disch := omega) only [wk, tis, Int.reduceNe, Int.reduceEq, Int.reduceLT, Int.reduceLE, Int.reduceAdd, Int.reduceSub, Int.reduceNeg, Int.reduceMul, Int.reduceToNat, Nat.reduceSub, Nat.reduceMul, Nat.reduceLeDiff, Nat.reduceAdd, Nat.reduceLT, Nat.reduceEqDiff, reduceCtorEq, ↓reduceIte, h11, h12, h13, h14]
    have t := pscale_g (a := cn pw) (c := canon (cf (pv p) i)) (rp_cn (hPk.mono (by omega) (by omega))) ((sz_canon _).mono (by omega)) (ps_cn pw)
    rw [iv_canon] at t
    refine call_by (t) (by first | rfl | (simp only [tocvs, tocv, h11, h12, h13, h14]; rfl) | (simp only [tocvs, tocv, toboxes, tobox, updH_at, Nat.reduceEqDiff, ↓reduceIte, h11, h12, h13, h14]; rfl)) (by simp) ?_
    simp (disch := omega) only [wk, tis, Int.reduceNe, Int.reduceEq, Int.reduceLT, Int.reduceLE, Int.reduceAdd, Int.reduceSub, Int.reduceNeg, Int.reduceMul, Int.reduceToNat, Nat.reduceSub, Nat.reduceMul, Nat.reduceLeDiff, Nat.reduceAdd, Nat.reduceLT, Nat.reduceEqDiff, reduceCtorEq, ↓reduceIte, h11, h12, h13, h14]
    have hm := hBi.pmul hQ (by decide)
    have ht := hPk.pscale (c := cf (pv p) i)
    have s := padd_g (a := cn (pmul out Q)) (b := cn (pscale (cf (pv p) i) pw)) (rp_cn (hm.mono (by omega) (by omega))) (rp_cn (ht.mono (by omega) (by omega))) (ps_cn _) (ps_cn _)
    refine call_by (s) (by first | rfl | (simp only [tocvs, tocv, h11, h12, h13, h14]; rfl) | (simp only [tocvs, tocv, toboxes, tobox, updH_at, Nat.reduceEqDiff, ↓reduceIte, h11, h12, h13, h14]; rfl)) (by simp) ?_
    simp (disch := omega) only [wk, tis, Int.reduceNe, Int.reduceEq, Int.reduceLT, Int.reduceLE, Int.reduceAdd, Int.reduceSub, Int.reduceNeg, Int.reduceMul, Int.reduceToNat, Nat.reduceSub, Nat.reduceMul, Nat.reduceLeDiff, Nat.reduceAdd, Nat.reduceLT, Nat.reduceEqDiff, reduceCtorEq, ↓reduceIte, h11, h12, h13, h14]
    first | exact log_by (by kernel_rfl) | refine ⟨log_by (by kernel_rfl), ?_⟩
    have u := pmul_g (a := cn pw) (b := cn R) (rp_cn (hPk.mono (by omega) (by omega))) (rp_cn (hR.mono (by omega) (by omega))) (ps_cn pw) (ps_cn R)
    refine call_by (u) (by first | rfl | (simp only [tocvs, tocv, h11, h12, h13, h14]; rfl) | (simp only [tocvs, tocv, toboxes, tobox, updH_at, Nat.reduceEqDiff, ↓reduceIte, h11, h12, h13, h14]; rfl)) (by simp) ?_
    simp (disch := omega) only [wk, tis, Int.reduceNe, Int.reduceEq, Int.reduceLT, Int.reduceLE, Int.reduceAdd, Int.reduceSub, Int.reduceNeg, Int.reduceMul, Int.reduceToNat, Nat.reduceSub, Nat.reduceMul, Nat.reduceLeDiff, Nat.reduceAdd, Nat.reduceLT, Nat.reduceEqDiff, reduceCtorEq, ↓reduceIte, h11, h12, h13, h14]
    refine ⟨by omega, ?_, by rw [ep1]⟩
    rw [hi2, cpoly_ext (ps_eq (p := padd (pmul out Q) (pscale (cf (pv p) i) pw)) (q := lhom ((trimz (pv p)).drop i) Q R) ?_)]
    rw [hdi, eo, ps_padd, ps_pmul, ps_pscale, ep]
    exact moeb_step hlk eo1
  · rintro H2 ⟨hk', h11, h12, h13, h14⟩
    rw [hcl, Nat.sub_self, List.drop_zero] at h13
    simp (disch := omega) only [wk, tis, Int.reduceNe, Int.reduceEq, Int.reduceLT, Int.reduceLE, Int.reduceAdd, Int.reduceSub, Int.reduceNeg, Int.reduceMul, Int.reduceToNat, Nat.reduceSub, Nat.reduceMul, Nat.reduceLeDiff, Nat.reduceAdd, Nat.reduceLT, Nat.reduceEqDiff, reduceCtorEq, ↓reduceIte, h13]
    have hB0 := hB 0
    rw [List.drop_zero] at hB0
    have m := pnorm_g (a := cn (lhom (trimz (pv p)) Q R)) (rp_cn (hB0.mono (by omega) (by omega))) (ps_cn _)
    refine call_by (m) (by first | rfl | (simp only [tocvs, tocv, h13]; rfl) | (simp only [tocvs, tocv, toboxes, tobox, updH_at, Nat.reduceEqDiff, ↓reduceIte, h13]; rfl)) (by simp) ?_
    simp (disch := omega) only [wk, tis, Int.reduceNe, Int.reduceEq, Int.reduceLT, Int.reduceLE, Int.reduceAdd, Int.reduceSub, Int.reduceNeg, Int.reduceMul, Int.reduceToNat, Nat.reduceSub, Nat.reduceMul, Nat.reduceLeDiff, Nat.reduceAdd, Nat.reduceLT, Nat.reduceEqDiff, reduceCtorEq, ↓reduceIte, h13]
end Go.Proofs.Ythgecppfgdadiaa
