/-
  Contracts of the functions that the law reaches.
-/
import Derived.Test.YthgecppfgdadiaaL34
namespace Go.Proofs.Ythgecppfgdadiaa
open Go Go.Proofs Go.AL
set_option linter.unusedSimpArgs false
set_option linter.unusedVariables false

theorem gd3_top {u2 u1 u0 v1 v0 : Nat} (hv : 0 < v1) (h0 : u0 < W) : gd3 u2 u1 u0 v1 v0 ≤ (u2 * W + u1) / v1 := by
  have h2 := Nat.div_mul_le_self ((u2 * W + u1) * W + u0) (v1 * W + v0)
  have h6 : gd3 u2 u1 u0 v1 v0 ≤ ((u2 * W + u1) * W + u0) / (v1 * W + v0) := Nat.min_le_left _ _
  obtain ⟨x, hx⟩ : ∃ x, ((u2 * W + u1) * W + u0) / (v1 * W + v0) = x := ⟨_, rfl⟩
  rw [hx] at h2 h6
  refine Nat.le_trans h6 ?_
  rw [Nat.le_div_iff_mul_le hv]
  clear hx h6
  rw [Nat.mul_add, ← Nat.mul_assoc] at h2
  rcases Nat.lt_or_ge (u2 * W + u1) (x * v1) with h | h
  · have h3 := Nat.mul_le_mul_right W h
    rw [Nat.succ_mul] at h3
    have h4 : x * v1 * W ≤ (u2 * W + u1) * W + u0 := Nat.le_trans (Nat.le_add_right _ _) h2
    have h5 := Nat.le_trans h3 h4
    exact absurd h0 (Nat.not_lt.mpr (Nat.le_of_add_le_add_left h5))
  · exact h

theorem guess_ok (u2 u1 u0 v1 v0 : Nat) (h2 : u2 ≤ v1) (h1 : u1 < W) (h0 : u0 < W) (hv1 : v1 < W) (hv0 : v0 < W) (hv : 0 < v1) :
    AC Try.prog 187 [cu u2, cu u1, cu u0, cu v1, cu v0] none [cu (gd3 u2 u1 u0 v1 v0)] := by
  refine AC.by_walk (rs := [.tmp 10]) ords Try.func187 (by rfl) (by rfl) (by rfl) (by rfl) (by rfl) ?_
  simp (disch := omega) only [wk, tis, Int.reduceNe, Int.reduceEq, Int.reduceLT, Int.reduceLE, Int.reduceAdd, Int.reduceSub, Int.reduceNeg, Int.reduceMul, Int.reduceToNat, Nat.reduceSub, Nat.reduceMul, Nat.reduceLeDiff, Nat.reduceAdd, Nat.reduceLT, Nat.reduceEqDiff, reduceCtorEq, ↓reduceIte]
  refine if_by (fun hz => ?_) (fun hz => ?_)
  · have hu : u2 = v1 := by omega
    subst hu
    simp (disch := omega) only [wk, tis, Int.reduceNe, Int.reduceEq, Int.reduceLT, Int.reduceLE, Int.reduceAdd, Int.reduceSub, Int.reduceNeg, Int.reduceMul, Int.reduceToNat, Nat.reduceSub, Nat.reduceMul, Nat.reduceLeDiff, Nat.reduceAdd, Nat.reduceLT, Nat.reduceEqDiff, reduceCtorEq, ↓reduceIte]
    have had := add64_ok u1 u2 0 (by omega)
    rw [Nat.add_zero] at had
    have hle1 : (u1 + u2) / W ≤ 1 := by simp only [W] at *; omega
    have hmod : (u1 + u2) / W = 0 → (u1 + u2) % W = u1 + u2 ∧ u1 + u2 < W := fun h => by simp only [W] at *; omega
    have hge : (u1 + u2) / W = 1 → W ≤ u1 + u2 := fun h => by simp only [W] at *; omega
    have he : (W - 1) * u2 + (u1 + u2) = u2 * W + u1 := by
      simp only [W]
      omega
    have hg : gd3 u2 u1 u0 u2 v0 ≤ W - 1 := Nat.min_le_right _ _
    have hW1 : ((W - 1 : Nat) : Int) = 18446744073709551615 := rfl
    obtain ⟨cy, ecy⟩ : ∃ cy, (u1 + u2) / W = cy := ⟨_, rfl⟩
    obtain ⟨sm, esm⟩ : ∃ sm, (u1 + u2) % W = sm := ⟨_, rfl⟩
    rw [ecy, esm] at had
    rw [ecy] at hle1 hmod hge
    rw [esm] at hmod
    clear ecy esm
    refine call_by (had) (by rfl) (by simp) ?_
    simp (disch := omega) only [wk, tis, Int.reduceNe, Int.reduceEq, Int.reduceLT, Int.reduceLE, Int.reduceAdd, Int.reduceSub, Int.reduceNeg, Int.reduceMul, Int.reduceToNat, Nat.reduceSub, Nat.reduceMul, Nat.reduceLeDiff, Nat.reduceAdd, Nat.reduceLT, Nat.reduceEqDiff, reduceCtorEq, ↓reduceIte]
    refine if_by (fun hc => ?_) (fun hc => ?_)
    · simp (disch := omega) only [wk, tis, Int.reduceNe, Int.reduceEq, Int.reduceLT, Int.reduceLE, Int.reduceAdd, Int.reduceSub, Int.reduceNeg, Int.reduceMul, Int.reduceToNat, Nat.reduceSub, Nat.reduceMul, Nat.reduceLeDiff, Nat.reduceAdd, Nat.reduceLT, Nat.reduceEqDiff, reduceCtorEq, ↓reduceIte]
      have e : W - 1 = gd3 u2 u1 u0 u2 v0 := by
        refine gd3_le he hv (Nat.sub_lt (by decide) (by decide)) ?_ hg
        have g1 : (W - 1) * v0 ≤ (W - 1) * (W - 1) := Nat.mul_le_mul_left _ (Nat.le_sub_one_of_lt hv0)
        have g2 := Nat.mul_le_mul_right W (hge (by omega))
        simp only [W] at *
        omega
      rw [← e]
      exact hW1.symm
    · simp (disch := omega) only [wk, tis, Int.reduceNe, Int.reduceEq, Int.reduceLT, Int.reduceLE, Int.reduceAdd, Int.reduceSub, Int.reduceNeg, Int.reduceMul, Int.reduceToNat, Nat.reduceSub, Nat.reduceMul, Nat.reduceLeDiff, Nat.reduceAdd, Nat.reduceLT, Nat.reduceEqDiff, reduceCtorEq, ↓reduceIte]
      obtain ⟨e1, e2⟩ := hmod (by omega)
      have cc := correct_ok (W - 1) sm u2 u1 u0 u2 v0 (Nat.sub_lt (by decide) (by decide)) (by rw [e1]; exact e2) h0 hv1 hv0 hv (by rw [e1]; exact he) hg
      rw [show cu (W - 1) = .iv (.int .u64 18446744073709551615) from rfl] at cc
      refine call_by (cc) (by rfl) (by simp) ?_
      simp (disch := omega) only [wk, tis, Int.reduceNe, Int.reduceEq, Int.reduceLT, Int.reduceLE, Int.reduceAdd, Int.reduceSub, Int.reduceNeg, Int.reduceMul, Int.reduceToNat, Nat.reduceSub, Nat.reduceMul, Nat.reduceLeDiff, Nat.reduceAdd, Nat.reduceLT, Nat.reduceEqDiff, reduceCtorEq, ↓reduceIte]
  · simp (disch := omega) only [wk, tis, Int.reduceNe, Int.reduceEq, Int.reduceLT, Int.reduceLE, Int.reduceAdd, Int.reduceSub, Int.reduceNeg, Int.reduceMul, Int.reduceToNat, Nat.reduceSub, Nat.reduceMul, Nat.reduceLeDiff, Nat.reduceAdd, Nat.reduceLT, Nat.reduceEqDiff, reduceCtorEq, ↓reduceIte]
    have hq : (u2 * W + u1) / v1 < W := word_div (by omega) h1
    have hdm := Nat.div_add_mod (u2 * W + u1) v1
    have hr : (u2 * W + u1) % v1 < v1 := Nat.mod_lt _ hv
    have hg := gd3_top (u2 := u2) (u1 := u1) (u0 := u0) (v1 := v1) (v0 := v0) hv h0
    have hd := div64_ok u2 u1 v1 (by omega) h1 hv1
    generalize (u2 * W + u1) / v1 = q at *
    generalize (u2 * W + u1) % v1 = r at *
    refine call_by (hd) (by rfl) (by simp) ?_
    simp (disch := omega) only [wk, tis, Int.reduceNe, Int.reduceEq, Int.reduceLT, Int.reduceLE, Int.reduceAdd, Int.reduceSub, Int.reduceNeg, Int.reduceMul, Int.reduceToNat, Nat.reduceSub, Nat.reduceMul, Nat.reduceLeDiff, Nat.reduceAdd, Nat.reduceLT, Nat.reduceEqDiff, reduceCtorEq, ↓reduceIte]
    refine call_by ((correct_ok q r u2 u1 u0 v1 v0 hq (by omega) h0 hv1 hv0 hv (by rw [Nat.mul_comm]; exact hdm) hg)) (by rfl) (by simp) ?_
    simp (disch := omega) only [wk, tis, Int.reduceNe, Int.reduceEq, Int.reduceLT, Int.reduceLE, Int.reduceAdd, Int.reduceSub, Int.reduceNeg, Int.reduceMul, Int.reduceToNat, Nat.reduceSub, Nat.reduceMul, Nat.reduceLeDiff, Nat.reduceAdd, Nat.reduceLT, Nat.reduceEqDiff, reduceCtorEq, ↓reduceIte]

end Go.Proofs.Ythgecppfgdadiaa
