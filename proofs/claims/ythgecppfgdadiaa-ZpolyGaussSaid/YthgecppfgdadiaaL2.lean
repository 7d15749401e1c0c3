/-
  Contracts of the functions that the law reaches.
-/
import Derived.Test.YthgecppfgdadiaaL1
namespace Go.Proofs.Ythgecppfgdadiaa
open Go Go.Proofs Go.AL
set_option linter.unusedSimpArgs false
set_option linter.unusedVariables false

theorem lsub_ok (a b : List Nat) (ha : Lim a) (hb : Lim b) (hla : a.length ≤ 2 ^ 40) (hlb : b.length ≤ 2 ^ 40) :
    AC Try.prog 172 [cl a, cl b] none [cl (pad (max a.length b.length) (nv a + W ^ (max a.length b.length) - nv b)), cu (if nv a < nv b then 1 else 0)] := by
  refine AC.by_walk (rs := [.tmp 4, .tmp 5]) ords Try.func172 (by rfl) (by rfl) (by rfl) (by rfl) (by rfl) ?_
  simp (disch := omega) only [wk, tis, Int.reduceNe, Int.reduceEq, Int.reduceLT, Int.reduceLE, Int.reduceAdd, Int.reduceSub, Int.reduceNeg, Int.reduceMul, Int.reduceToNat, Nat.reduceSub, Nat.reduceMul, Nat.reduceLeDiff, Nat.reduceAdd, Nat.reduceLT, Nat.reduceEqDiff, reduceCtorEq, ↓reduceIte]
  generalize hn : max a.length b.length = n at *
  have hnI : max (a.length : Int) (b.length : Int) = (n : Int) := by omega
  rw [hnI]
  simp (disch := omega) only [wk, tis, Int.reduceNe, Int.reduceEq, Int.reduceLT, Int.reduceLE, Int.reduceAdd, Int.reduceSub, Int.reduceNeg, Int.reduceMul, Int.reduceToNat, Nat.reduceSub, Nat.reduceMul, Nat.reduceLeDiff, Nat.reduceAdd, Nat.reduceLT, Nat.reduceEqDiff, reduceCtorEq, ↓reduceIte]
  refine aloop_by (fun f H => ∃ (i c : Nat) (out : List Nat) (st : Nat), i ≤ n ∧ c ≤ 1 ∧ Lim out ∧ out.length = n ∧ nv (out.take i) + nv (b.take i) = nv (a.take i) + W ^ i * c ∧
    f 0 = .iv (.sl (lims a)) ∧ f 1 = .iv (.sl (lims b)) ∧ f 6 = .hs 14 st ∧ f 7 = .iv (.int .u64 c) ∧ f 16 = .iv (.int .i64 n) ∧ f 17 = .iv (.int .i64 i) ∧ H 14 = .blk false st 87 1 (lims out)) (fun f H => (n - intAt f 17).toNat) ?_ ?_
  · exact ⟨0, 0, List.replicate n 0, 1, by omega, by omega, Lim.replicate n, by simp, by simp [vl], by simp (disch := omega) only [wk, tis, Int.reduceNe, Int.reduceEq, Int.reduceLT, Int.reduceLE, Int.reduceAdd, Int.reduceSub, Int.reduceNeg, Int.reduceMul, Int.reduceToNat, Nat.reduceSub, Nat.reduceMul, Nat.reduceLeDiff, Nat.reduceAdd, Nat.reduceLT, Nat.reduceEqDiff, reduceCtorEq, ↓reduceIte], by simp (disch := omega) only [wk, tis, Int.reduceNe, Int.reduceEq, Int.reduceLT, Int.reduceLE, Int.reduceAdd, Int.reduceSub, Int.reduceNeg, Int.reduceMul, Int.reduceToNat, Nat.reduceSub, Nat.reduceMul, Nat.reduceLeDiff, Nat.reduceAdd, Nat.reduceLT, Nat.reduceEqDiff, reduceCtorEq, ↓reduceIte], by simp (disch := omega) only [wk, tis, Int.reduceNe, Int.reduceEq, Int.reduceLT, Int.reduceLE, Int.reduceAdd, Int.reduceSub, Int.reduceNeg, Int.reduceMul, Int.reduceToNat, Nat.reduceSub, Nat.reduceMul, Nat.reduceLeDiff, Nat.reduceAdd, Nat.reduceLT, Nat.reduceEqDiff, reduceCtorEq, ↓reduceIte], by simp (disch := omega) only [wk, tis, Int.reduceNe, Int.reduceEq, Int.reduceLT, Int.reduceLE, Int.reduceAdd, Int.reduceSub, Int.reduceNeg, Int.reduceMul, Int.reduceToNat, Nat.reduceSub, Nat.reduceMul, Nat.reduceLeDiff, Nat.reduceAdd, Nat.reduceLT, Nat.reduceEqDiff, reduceCtorEq, ↓reduceIte], by simp (disch := omega) only [wk, tis, Int.reduceNe, Int.reduceEq, Int.reduceLT, Int.reduceLE, Int.reduceAdd, Int.reduceSub, Int.reduceNeg, Int.reduceMul, Int.reduceToNat, Nat.reduceSub, Nat.reduceMul, Nat.reduceLeDiff, Nat.reduceAdd, Nat.reduceLT, Nat.reduceEqDiff, reduceCtorEq, ↓reduceIte, List.length_replicate, Int.toNat_natCast], by simp (disch := omega) only [wk, tis, Int.reduceNe, Int.reduceEq, Int.reduceLT, Int.reduceLE, Int.reduceAdd, Int.reduceSub, Int.reduceNeg, Int.reduceMul, Int.reduceToNat, Nat.reduceSub, Nat.reduceMul, Nat.reduceLeDiff, Nat.reduceAdd, Nat.reduceLT, Nat.reduceEqDiff, reduceCtorEq, ↓reduceIte], by simp (disch := omega) only [wk, tis, Int.reduceNe, Int.reduceEq, Int.reduceLT, Int.reduceLE, Int.reduceAdd, Int.reduceSub, Int.reduceNeg, Int.reduceMul, Int.reduceToNat, Nat.reduceSub, Nat.reduceMul, Nat.reduceLeDiff, Nat.reduceAdd, Nat.reduceLT, Nat.reduceEqDiff, reduceCtorEq, ↓reduceIte, Int.toNat_natCast]⟩
  rintro f H ⟨i, c, out, st, hi, hc, hO, hOl, hOv, h0, h1, h6, h7, h16, h17, hH⟩
  rw [intAt_of h17]
  simp (disch := omega) only [wk, tis, Int.reduceNe, Int.reduceEq, Int.reduceLT, Int.reduceLE, Int.reduceAdd, Int.reduceSub, Int.reduceNeg, Int.reduceMul, Int.reduceToNat, Nat.reduceSub, Nat.reduceMul, Nat.reduceLeDiff, Nat.reduceAdd, Nat.reduceLT, Nat.reduceEqDiff, reduceCtorEq, ↓reduceIte, h0, h1, h6, h7, h16, h17, hH]
  refine if_by (fun hlt => ?_) (fun hlt => ?_)
  · simp (disch := omega) only [wk, tis, Int.reduceNe, Int.reduceEq, Int.reduceLT, Int.reduceLE, Int.reduceAdd, Int.reduceSub, Int.reduceNeg, Int.reduceMul, Int.reduceToNat, Nat.reduceSub, Nat.reduceMul, Nat.reduceLeDiff, Nat.reduceAdd, Nat.reduceLT, Nat.reduceEqDiff, reduceCtorEq, ↓reduceIte, h0, h1, h6, h7, h16, h17, hH]
    refine call_by ((at_ok a i (by omega))) (by first | rfl | (simp only [tocvs, tocv, h0, h1, h6, h7, h16, h17, hH]; rfl)) (by simp) ?_
    simp (disch := omega) only [wk, tis, Int.reduceNe, Int.reduceEq, Int.reduceLT, Int.reduceLE, Int.reduceAdd, Int.reduceSub, Int.reduceNeg, Int.reduceMul, Int.reduceToNat, Nat.reduceSub, Nat.reduceMul, Nat.reduceLeDiff, Nat.reduceAdd, Nat.reduceLT, Nat.reduceEqDiff, reduceCtorEq, ↓reduceIte, h0, h1, h6, h7, h16, h17, hH]
    refine call_by ((at_ok b i (by omega))) (by first | rfl | (simp only [tocvs, tocv, h0, h1, h6, h7, h16, h17, hH]; rfl)) (by simp) ?_
    simp (disch := omega) only [wk, tis, Int.reduceNe, Int.reduceEq, Int.reduceLT, Int.reduceLE, Int.reduceAdd, Int.reduceSub, Int.reduceNeg, Int.reduceMul, Int.reduceToNat, Nat.reduceSub, Nat.reduceMul, Nat.reduceLeDiff, Nat.reduceAdd, Nat.reduceLT, Nat.reduceEqDiff, reduceCtorEq, ↓reduceIte, h0, h1, h6, h7, h16, h17, hH]
    have hx := ha.get i
    have hy := hb.get i
    refine call_by ((subw_ok (a.getD i 0) (b.getD i 0) c hx hy hc)) (by first | rfl | (simp only [tocvs, tocv, h0, h1, h6, h7, h16, h17, hH]; rfl)) (by simp) ?_
    simp (disch := omega) only [wk, tis, Int.reduceNe, Int.reduceEq, Int.reduceLT, Int.reduceLE, Int.reduceAdd, Int.reduceSub, Int.reduceNeg, Int.reduceMul, Int.reduceToNat, Nat.reduceSub, Nat.reduceMul, Nat.reduceLeDiff, Nat.reduceAdd, Nat.reduceLT, Nat.reduceEqDiff, reduceCtorEq, ↓reduceIte, h0, h1, h6, h7, h16, h17, hH]
    refine ⟨⟨i + 1, _, out.set i _, st, by omega, ?_, hO.set (Nat.mod_lt _ (by decide)), by simp [hOl], ?_, rfl, rfl, by omega, rfl⟩, by omega⟩
    · split <;> omega
    · simp only [nv] at *
      rw [vl_take_set W (by omega), Nat.pow_succ, vl_take_next, vl_take_next]
      refine borrow_step hOv ?_
      simp only [W] at *
      split <;> omega
  · simp (disch := omega) only [wk, tis, Int.reduceNe, Int.reduceEq, Int.reduceLT, Int.reduceLE, Int.reduceAdd, Int.reduceSub, Int.reduceNeg, Int.reduceMul, Int.reduceToNat, Nat.reduceSub, Nat.reduceMul, Nat.reduceLeDiff, Nat.reduceAdd, Nat.reduceLT, Nat.reduceEqDiff, reduceCtorEq, ↓reduceIte, h0, h1, h6, h7, h16, h17, hH]
    have hin : i = n := by omega
    subst hin
    rw [List.take_of_length_le (by omega), List.take_of_length_le (by omega), List.take_of_length_le (by omega)] at hOv
    have h3 := nv_lt hO
    rw [hOl] at h3
    have h4 := nv_lt ha
    have h5 := nv_lt hb
    have h6 : W ^ a.length ≤ W ^ i := Nat.pow_le_pow_right (by decide) (by omega)
    have h7 : W ^ b.length ≤ W ^ i := Nat.pow_le_pow_right (by decide) (by omega)
    have e : c = if nv a < nv b then 1 else 0 := by
      have : c = 0 ∨ c = 1 := by omega
      rcases this with rfl | rfl <;> split <;> omega
    rw [← eq_pad hO hOl (s := nv a + W ^ i - nv b) ?_, ← e]
    · exact ⟨rfl, rfl⟩
    · have : c = 0 ∨ c = 1 := by omega
      rcases this with rfl | rfl
      · rw [show nv a + W ^ i - nv b = nv out + W ^ i * 1 by omega, Nat.add_mul_mod_self_left, Nat.mod_eq_of_lt h3]
      · rw [show nv a + W ^ i - nv b = nv out by omega, Nat.mod_eq_of_lt h3]

theorem nadd_ok (a b : List Nat) (ha : Lim a) (hb : Lim b) (hla : a.length ≤ 2 ^ 40) (hlb : b.length ≤ 2 ^ 40) :
    AC Try.prog 138 [cl a, cl b] none [cl (wd (nv a + nv b))] := by
  refine AC.by_walk (rs := [.tmp 4]) ords Try.func138 (by rfl) (by rfl) (by rfl) (by rfl) (by rfl) ?_
  simp (disch := omega) only [wk, tis, Int.reduceNe, Int.reduceEq, Int.reduceLT, Int.reduceLE, Int.reduceAdd, Int.reduceSub, Int.reduceNeg, Int.reduceMul, Int.reduceToNat, Nat.reduceSub, Nat.reduceMul, Nat.reduceLeDiff, Nat.reduceAdd, Nat.reduceLT, Nat.reduceEqDiff, reduceCtorEq, ↓reduceIte]
  refine call_by ((ladd_ok a b ha hb hla hlb)) (by rfl) (by simp) ?_
  simp (disch := omega) only [wk, tis, Int.reduceNe, Int.reduceEq, Int.reduceLT, Int.reduceLE, Int.reduceAdd, Int.reduceSub, Int.reduceNeg, Int.reduceMul, Int.reduceToNat, Nat.reduceSub, Nat.reduceMul, Nat.reduceLeDiff, Nat.reduceAdd, Nat.reduceLT, Nat.reduceEqDiff, reduceCtorEq, ↓reduceIte]
  generalize hn : max a.length b.length = n at *
  refine call_by ((clone_ok (pad n (nv a + nv b)) (by rw [pad_len]; omega))) (by first | rfl | (simp only [tocvs, tocv, pad_len]; rfl)) (by simp) ?_
  simp (disch := omega) only [wk, tis, Int.reduceNe, Int.reduceEq, Int.reduceLT, Int.reduceLE, Int.reduceAdd, Int.reduceSub, Int.reduceNeg, Int.reduceMul, Int.reduceToNat, Nat.reduceSub, Nat.reduceMul, Nat.reduceLeDiff, Nat.reduceAdd, Nat.reduceLT, Nat.reduceEqDiff, reduceCtorEq, ↓reduceIte, pad_len]
  have hc : (nv a + nv b) / W ^ n < W := by
    rw [Nat.div_lt_iff_lt_mul (W_pow_pos n)]
    have h4 := nv_lt ha
    have h5 := nv_lt hb
    have h6 : W ^ a.length ≤ W ^ n := Nat.pow_le_pow_right (by decide) (by omega)
    have h7 : W ^ b.length ≤ W ^ n := Nat.pow_le_pow_right (by decide) (by omega)
    have : 2 * W ^ n ≤ W * W ^ n := Nat.mul_le_mul_right _ (by decide)
    omega
  have e : nv (pad n (nv a + nv b) ++ [(nv a + nv b) / W ^ n]) = nv a + nv b := by
    rw [nv_snoc, nv_pad, pad_len]; exact Nat.mod_add_div _ _
  have := own_ok (pad n (nv a + nv b) ++ [(nv a + nv b) / W ^ n]) ((lim_pad _ _).append (Lim.cons hc Lim.nil)) (by simp [pad_len]; omega)
  rw [e] at this
  refine call_by (this) (by rfl) (by simp) ?_
  simp (disch := omega) only [wk, tis, Int.reduceNe, Int.reduceEq, Int.reduceLT, Int.reduceLE, Int.reduceAdd, Int.reduceSub, Int.reduceNeg, Int.reduceMul, Int.reduceToNat, Nat.reduceSub, Nat.reduceMul, Nat.reduceLeDiff, Nat.reduceAdd, Nat.reduceLT, Nat.reduceEqDiff, reduceCtorEq, ↓reduceIte]

theorem nsub_ok (a b : List Nat) (ha : Lim a) (hb : Lim b) (hla : a.length ≤ 2 ^ 40) (hlb : b.length ≤ 2 ^ 40) :
    AC Try.prog 160 [cl a, cl b] none [cl (if nv a < nv b then [] else wd (nv a - nv b)), ci (if nv a < nv b then 2 else 0)] := by
  refine AC.by_walk (rs := [.tmp 4, .tmp 5]) ords Try.func160 (by rfl) (by rfl) (by rfl) (by rfl) (by rfl) ?_
  simp (disch := omega) only [wk, tis, Int.reduceNe, Int.reduceEq, Int.reduceLT, Int.reduceLE, Int.reduceAdd, Int.reduceSub, Int.reduceNeg, Int.reduceMul, Int.reduceToNat, Nat.reduceSub, Nat.reduceMul, Nat.reduceLeDiff, Nat.reduceAdd, Nat.reduceLT, Nat.reduceEqDiff, reduceCtorEq, ↓reduceIte]
  refine call_by ((lsub_ok a b ha hb hla hlb)) (by rfl) (by simp) ?_
  simp (disch := omega) only [wk, tis, Int.reduceNe, Int.reduceEq, Int.reduceLT, Int.reduceLE, Int.reduceAdd, Int.reduceSub, Int.reduceNeg, Int.reduceMul, Int.reduceToNat, Nat.reduceSub, Nat.reduceMul, Nat.reduceLeDiff, Nat.reduceAdd, Nat.reduceLT, Nat.reduceEqDiff, reduceCtorEq, ↓reduceIte]
  generalize hn : max a.length b.length = n at *
  by_cases h : nv a < nv b
  · simp (disch := omega) only [wk, tis, Int.reduceNe, Int.reduceEq, Int.reduceLT, Int.reduceLE, Int.reduceAdd, Int.reduceSub, Int.reduceNeg, Int.reduceMul, Int.reduceToNat, Nat.reduceSub, Nat.reduceMul, Nat.reduceLeDiff, Nat.reduceAdd, Nat.reduceLT, Nat.reduceEqDiff, reduceCtorEq, ↓reduceIte, h]
  · simp (disch := omega) only [wk, tis, Int.reduceNe, Int.reduceEq, Int.reduceLT, Int.reduceLE, Int.reduceAdd, Int.reduceSub, Int.reduceNeg, Int.reduceMul, Int.reduceToNat, Nat.reduceSub, Nat.reduceMul, Nat.reduceLeDiff, Nat.reduceAdd, Nat.reduceLT, Nat.reduceEqDiff, reduceCtorEq, ↓reduceIte, h]
    have h4 := nv_lt ha
    have h6 : W ^ a.length ≤ W ^ n := Nat.pow_le_pow_right (by decide) (by omega)
    have e : nv (pad n (nv a + W ^ n - nv b)) = nv a - nv b := by
      rw [nv_pad, show nv a + W ^ n - nv b = (nv a - nv b) + W ^ n by omega, Nat.add_mod_right, Nat.mod_eq_of_lt (by omega)]
    have := own_ok (pad n (nv a + W ^ n - nv b)) (lim_pad _ _) (by simp [pad_len]; omega)
    rw [e] at this
    refine call_by (this) (by first | rfl | (simp only [tocvs, tocv, h]; rfl)) (by simp) ?_
    simp (disch := omega) only [wk, tis, Int.reduceNe, Int.reduceEq, Int.reduceLT, Int.reduceLE, Int.reduceAdd, Int.reduceSub, Int.reduceNeg, Int.reduceMul, Int.reduceToNat, Nat.reduceSub, Nat.reduceMul, Nat.reduceLeDiff, Nat.reduceAdd, Nat.reduceLT, Nat.reduceEqDiff, reduceCtorEq, ↓reduceIte, h]

theorem ndiff_ok (a b : List Nat) (ha : Lim a) (hb : Lim b) (hla : a.length ≤ 2 ^ 40) (hlb : b.length ≤ 2 ^ 40) :
    AC Try.prog 139 [cl a, cl b] none [cl (wd (if nv a < nv b then nv b - nv a else nv a - nv b)), .iv (.bool (decide (nv a < nv b)))] := by
  refine AC.by_walk (rs := [.tmp 4, .tmp 5]) ords Try.func139 (by rfl) (by rfl) (by rfl) (by rfl) (by rfl) ?_
  simp (disch := omega) only [wk, tis, Int.reduceNe, Int.reduceEq, Int.reduceLT, Int.reduceLE, Int.reduceAdd, Int.reduceSub, Int.reduceNeg, Int.reduceMul, Int.reduceToNat, Nat.reduceSub, Nat.reduceMul, Nat.reduceLeDiff, Nat.reduceAdd, Nat.reduceLT, Nat.reduceEqDiff, reduceCtorEq, ↓reduceIte]
  refine call_by ((nsub_ok a b ha hb hla hlb)) (by rfl) (by simp) ?_
  simp (disch := omega) only [wk, tis, Int.reduceNe, Int.reduceEq, Int.reduceLT, Int.reduceLE, Int.reduceAdd, Int.reduceSub, Int.reduceNeg, Int.reduceMul, Int.reduceToNat, Nat.reduceSub, Nat.reduceMul, Nat.reduceLeDiff, Nat.reduceAdd, Nat.reduceLT, Nat.reduceEqDiff, reduceCtorEq, ↓reduceIte]
  by_cases h : nv a < nv b
  · have h' : ¬ nv b < nv a := by omega
    simp (disch := omega) only [wk, tis, Int.reduceNe, Int.reduceEq, Int.reduceLT, Int.reduceLE, Int.reduceAdd, Int.reduceSub, Int.reduceNeg, Int.reduceMul, Int.reduceToNat, Nat.reduceSub, Nat.reduceMul, Nat.reduceLeDiff, Nat.reduceAdd, Nat.reduceLT, Nat.reduceEqDiff, reduceCtorEq, ↓reduceIte, h]
    refine call_by ((nsub_ok b a hb ha hlb hla)) (by first | rfl | (simp only [tocvs, tocv, h, h']; rfl)) (by simp) ?_
    simp (disch := omega) only [wk, tis, Int.reduceNe, Int.reduceEq, Int.reduceLT, Int.reduceLE, Int.reduceAdd, Int.reduceSub, Int.reduceNeg, Int.reduceMul, Int.reduceToNat, Nat.reduceSub, Nat.reduceMul, Nat.reduceLeDiff, Nat.reduceAdd, Nat.reduceLT, Nat.reduceEqDiff, reduceCtorEq, ↓reduceIte, h, h']
  · simp (disch := omega) only [wk, tis, Int.reduceNe, Int.reduceEq, Int.reduceLT, Int.reduceLE, Int.reduceAdd, Int.reduceSub, Int.reduceNeg, Int.reduceMul, Int.reduceToNat, Nat.reduceSub, Nat.reduceMul, Nat.reduceLeDiff, Nat.reduceAdd, Nat.reduceLT, Nat.reduceEqDiff, reduceCtorEq, ↓reduceIte, h]

end Go.Proofs.Ythgecppfgdadiaa
