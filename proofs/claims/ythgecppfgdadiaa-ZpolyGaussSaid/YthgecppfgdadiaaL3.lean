/-
  Contracts of the functions that the law reaches.
-/
import Derived.Test.YthgecppfgdadiaaL2
namespace Go.Proofs.Ythgecppfgdadiaa
open Go Go.Proofs Go.AL
set_option linter.unusedSimpArgs false
set_option linter.unusedVariables false

abbrev cb (b : Bool) : CV := .iv (.bool b)
/-- An integer as it is handed, and one in its own form. -/
abbrev cr (c : RI) : CV := .agg (prow c)
abbrev cz (z : Int) : CV := .agg (prow (canon z))

theorem zof_ok (s : Bool) (n : Nat) : AC Try.prog 100 [cb s, cl (wd n)] none [cz (sg s n)] := by
  refine AC.by_walk (rs := [.cell 4 40]) ords Try.func100 (by rfl) (by rfl) (by rfl) (by rfl) (by rfl) ?_
  have hz : (0 < ((wd n).length : Int)) ↔ n ≠ 0 := by have := wd_len_zero (n := n); omega
  cases s
  · simp (disch := omega) only [wk, tis, Int.reduceNe, Int.reduceEq, Int.reduceLT, Int.reduceLE, Int.reduceAdd, Int.reduceSub, Int.reduceNeg, Int.reduceMul, Int.reduceToNat, Nat.reduceSub, Nat.reduceMul, Nat.reduceLeDiff, Nat.reduceAdd, Nat.reduceLT, Nat.reduceEqDiff, reduceCtorEq, ↓reduceIte]
    rw [canon_sg]; rfl
  · simp (disch := omega) only [wk, tis, Int.reduceNe, Int.reduceEq, Int.reduceLT, Int.reduceLE, Int.reduceAdd, Int.reduceSub, Int.reduceNeg, Int.reduceMul, Int.reduceToNat, Nat.reduceSub, Nat.reduceMul, Nat.reduceLeDiff, Nat.reduceAdd, Nat.reduceLT, Nat.reduceEqDiff, reduceCtorEq, ↓reduceIte]
    rw [canon_sg]
    have h' : decide (0 < (wd n).length) = decide (n ≠ 0) := by rw [decide_eq_decide]; omega
    simp [prow, splice, h']

theorem znorm_ok (c : RI) (h : Sz (2 ^ 40) c) : AC Try.prog 97 [cr c] none [cz (iv c)] := by
  refine AC.by_walk (rs := [.cell 2 40]) ords Try.func97 (by rfl) (by rfl) (by rfl) (by rfl) (by rfl) ?_
  have hl := h.1
  simp (disch := omega) only [wk, tis, Int.reduceNe, Int.reduceEq, Int.reduceLT, Int.reduceLE, Int.reduceAdd, Int.reduceSub, Int.reduceNeg, Int.reduceMul, Int.reduceToNat, Nat.reduceSub, Nat.reduceMul, Nat.reduceLeDiff, Nat.reduceAdd, Nat.reduceLT, Nat.reduceEqDiff, reduceCtorEq, ↓reduceIte]
  refine ⟨tmps_by (by kernel_rfl), ?_⟩
  refine call_by ((norm_ok c.2 h.2 (by omega))) (by rfl) (by simp) ?_
  simp (disch := omega) only [wk, tis, Int.reduceNe, Int.reduceEq, Int.reduceLT, Int.reduceLE, Int.reduceAdd, Int.reduceSub, Int.reduceNeg, Int.reduceMul, Int.reduceToNat, Nat.reduceSub, Nat.reduceMul, Nat.reduceLeDiff, Nat.reduceAdd, Nat.reduceLT, Nat.reduceEqDiff, reduceCtorEq, ↓reduceIte]
  refine call_by ((zof_ok c.1 (nv c.2))) (by rfl) (by simp) ?_
  simp (disch := omega) only [wk, tis, Int.reduceNe, Int.reduceEq, Int.reduceLT, Int.reduceLE, Int.reduceAdd, Int.reduceSub, Int.reduceNeg, Int.reduceMul, Int.reduceToNat, Nat.reduceSub, Nat.reduceMul, Nat.reduceLeDiff, Nat.reduceAdd, Nat.reduceLT, Nat.reduceEqDiff, reduceCtorEq, ↓reduceIte]
  first | exact log_by (by kernel_rfl) | refine ⟨log_by (by kernel_rfl), ?_⟩
  rfl

theorem sign_of_canon (z : Int) : z.sign = if z < 0 then -1 else if 0 < (zl z : Int) then 1 else 0 := by
  by_cases h : z < 0
  · rw [if_pos h]; exact Int.sign_eq_neg_one_of_neg h
  · rw [if_neg h]
    have := wd_len_zero (n := z.natAbs)
    by_cases h0 : z = 0
    · subst h0; simp [zl_zero]
    · rw [if_pos (by unfold zl; omega)]; exact Int.sign_eq_one_of_pos (by omega)

theorem zsign_ok (c : RI) (h : Sz (2 ^ 40) c) : AC Try.prog 81 [cr c] none [ci (iv c).sign] := by
  refine AC.by_walk (rs := [.tmp 2]) ords Try.func81 (by rfl) (by rfl) (by rfl) (by rfl) (by rfl) ?_
  simp (disch := omega) only [wk, tis, Int.reduceNe, Int.reduceEq, Int.reduceLT, Int.reduceLE, Int.reduceAdd, Int.reduceSub, Int.reduceNeg, Int.reduceMul, Int.reduceToNat, Nat.reduceSub, Nat.reduceMul, Nat.reduceLeDiff, Nat.reduceAdd, Nat.reduceLT, Nat.reduceEqDiff, reduceCtorEq, ↓reduceIte]
  refine call_by ((znorm_ok c h)) (by rfl) (by simp) ?_
  simp (disch := omega) only [wk, tis, Int.reduceNe, Int.reduceEq, Int.reduceLT, Int.reduceLE, Int.reduceAdd, Int.reduceSub, Int.reduceNeg, Int.reduceMul, Int.reduceToNat, Nat.reduceSub, Nat.reduceMul, Nat.reduceLeDiff, Nat.reduceAdd, Nat.reduceLT, Nat.reduceEqDiff, reduceCtorEq, ↓reduceIte]
  rw [sign_of_canon]
  refine if_by (fun hn => ?_) (fun hn => ?_)
  · simp (disch := omega) only [wk, tis, Int.reduceNe, Int.reduceEq, Int.reduceLT, Int.reduceLE, Int.reduceAdd, Int.reduceSub, Int.reduceNeg, Int.reduceMul, Int.reduceToNat, Nat.reduceSub, Nat.reduceMul, Nat.reduceLeDiff, Nat.reduceAdd, Nat.reduceLT, Nat.reduceEqDiff, reduceCtorEq, ↓reduceIte, hn]
  · simp (disch := omega) only [wk, tis, Int.reduceNe, Int.reduceEq, Int.reduceLT, Int.reduceLE, Int.reduceAdd, Int.reduceSub, Int.reduceNeg, Int.reduceMul, Int.reduceToNat, Nat.reduceSub, Nat.reduceMul, Nat.reduceLeDiff, Nat.reduceAdd, Nat.reduceLT, Nat.reduceEqDiff, reduceCtorEq, ↓reduceIte, hn]
    refine if_by (fun hp => ?_) (fun hp => ?_)
    · simp (disch := omega) only [wk, tis, Int.reduceNe, Int.reduceEq, Int.reduceLT, Int.reduceLE, Int.reduceAdd, Int.reduceSub, Int.reduceNeg, Int.reduceMul, Int.reduceToNat, Nat.reduceSub, Nat.reduceMul, Nat.reduceLeDiff, Nat.reduceAdd, Nat.reduceLT, Nat.reduceEqDiff, reduceCtorEq, ↓reduceIte, hp, zl]
    · simp (disch := omega) only [wk, tis, Int.reduceNe, Int.reduceEq, Int.reduceLT, Int.reduceLE, Int.reduceAdd, Int.reduceSub, Int.reduceNeg, Int.reduceMul, Int.reduceToNat, Nat.reduceSub, Nat.reduceMul, Nat.reduceLeDiff, Nat.reduceAdd, Nat.reduceLT, Nat.reduceEqDiff, reduceCtorEq, ↓reduceIte, hp, zl]

theorem zadd_ok (a b : RI) (ha : Sz (2 ^ 40) a) (hb : Sz (2 ^ 40) b) : AC Try.prog 94 [cr a, cr b] none [cz (iv a + iv b)] := by
  refine AC.by_walk (rs := [.cell 4 40]) ords Try.func94 (by rfl) (by rfl) (by rfl) (by rfl) (by rfl) ?_
  have hla := ha.1
  have hlb := hb.1
  simp (disch := omega) only [wk, tis, Int.reduceNe, Int.reduceEq, Int.reduceLT, Int.reduceLE, Int.reduceAdd, Int.reduceSub, Int.reduceNeg, Int.reduceMul, Int.reduceToNat, Nat.reduceSub, Nat.reduceMul, Nat.reduceLeDiff, Nat.reduceAdd, Nat.reduceLT, Nat.reduceEqDiff, reduceCtorEq, ↓reduceIte]
  refine if_bool (fun he => ?_) (fun he => ?_)
  · have he : a.1 = b.1 := by simpa using he
    rw [iv_add_same he]
    simp (disch := omega) only [wk, tis, Int.reduceNe, Int.reduceEq, Int.reduceLT, Int.reduceLE, Int.reduceAdd, Int.reduceSub, Int.reduceNeg, Int.reduceMul, Int.reduceToNat, Nat.reduceSub, Nat.reduceMul, Nat.reduceLeDiff, Nat.reduceAdd, Nat.reduceLT, Nat.reduceEqDiff, reduceCtorEq, ↓reduceIte]
    refine ⟨tmps_by (by kernel_rfl), ?_⟩
    refine call_by ((nadd_ok a.2 b.2 ha.2 hb.2 (by omega) (by omega))) (by rfl) (by simp) ?_
    simp (disch := omega) only [wk, tis, Int.reduceNe, Int.reduceEq, Int.reduceLT, Int.reduceLE, Int.reduceAdd, Int.reduceSub, Int.reduceNeg, Int.reduceMul, Int.reduceToNat, Nat.reduceSub, Nat.reduceMul, Nat.reduceLeDiff, Nat.reduceAdd, Nat.reduceLT, Nat.reduceEqDiff, reduceCtorEq, ↓reduceIte]
    refine call_by ((zof_ok a.1 (nv a.2 + nv b.2))) (by rfl) (by simp) ?_
    simp (disch := omega) only [wk, tis, Int.reduceNe, Int.reduceEq, Int.reduceLT, Int.reduceLE, Int.reduceAdd, Int.reduceSub, Int.reduceNeg, Int.reduceMul, Int.reduceToNat, Nat.reduceSub, Nat.reduceMul, Nat.reduceLeDiff, Nat.reduceAdd, Nat.reduceLT, Nat.reduceEqDiff, reduceCtorEq, ↓reduceIte]
    first | exact log_by (by kernel_rfl) | refine ⟨log_by (by kernel_rfl), ?_⟩
  · have he : a.1 ≠ b.1 := by simpa using he
    rw [iv_add_diff he]
    simp (disch := omega) only [wk, tis, Int.reduceNe, Int.reduceEq, Int.reduceLT, Int.reduceLE, Int.reduceAdd, Int.reduceSub, Int.reduceNeg, Int.reduceMul, Int.reduceToNat, Nat.reduceSub, Nat.reduceMul, Nat.reduceLeDiff, Nat.reduceAdd, Nat.reduceLT, Nat.reduceEqDiff, reduceCtorEq, ↓reduceIte]
    refine call_by ((ndiff_ok a.2 b.2 ha.2 hb.2 (by omega) (by omega))) (by rfl) (by simp) ?_
    simp (disch := omega) only [wk, tis, Int.reduceNe, Int.reduceEq, Int.reduceLT, Int.reduceLE, Int.reduceAdd, Int.reduceSub, Int.reduceNeg, Int.reduceMul, Int.reduceToNat, Nat.reduceSub, Nat.reduceMul, Nat.reduceLeDiff, Nat.reduceAdd, Nat.reduceLT, Nat.reduceEqDiff, reduceCtorEq, ↓reduceIte]
    refine call_by ((zof_ok (a.1 != decide (nv a.2 < nv b.2)) (if nv a.2 < nv b.2 then nv b.2 - nv a.2 else nv a.2 - nv b.2))) (by rfl) (by simp) ?_
    simp (disch := omega) only [wk, tis, Int.reduceNe, Int.reduceEq, Int.reduceLT, Int.reduceLE, Int.reduceAdd, Int.reduceSub, Int.reduceNeg, Int.reduceMul, Int.reduceToNat, Nat.reduceSub, Nat.reduceMul, Nat.reduceLeDiff, Nat.reduceAdd, Nat.reduceLT, Nat.reduceEqDiff, reduceCtorEq, ↓reduceIte]

end Go.Proofs.Ythgecppfgdadiaa
