/-
  Contracts of the functions that the law reaches.
-/
import Derived.Test.YthgecppfgdadiaaL1
namespace Go.Proofs.Ythgecppfgdadiaa
open Go Go.Proofs Go.AL
set_option linter.unusedSimpArgs false
set_option linter.unusedVariables false

/-- How many bits a number has. -/
def bl (n : Nat) : Nat := if n = 0 then 0 else n.log2 + 1

theorem bl_shift {x k : Nat} (h : 2 ^ k ≤ x) : bl x = bl (x / 2 ^ k) + k := by
  have h0 : x ≠ 0 := by have := Nat.pow_pos (n := k) (show 0 < 2 by decide); omega
  have h1 : x / 2 ^ k ≠ 0 := by
    intro h1
    rw [Nat.div_eq_zero_iff] at h1
    have := Nat.pow_pos (n := k) (show 0 < 2 by decide)
    omega
  unfold bl
  rw [if_neg h0, if_neg h1]
  have h2 : (x / 2 ^ k).log2 = x.log2 - k := by
    rw [Nat.log2_eq_iff h1]
    have a1 := Nat.log2_self_le h0
    have a2 := Nat.lt_log2_self (n := x)
    have hk : k ≤ x.log2 := (Nat.le_log2 h0).mpr h
    constructor
    · rw [Nat.le_div_iff_mul_le (Nat.pow_pos (by decide)), ← Nat.pow_add, Nat.sub_add_cancel hk]; exact a1
    · rw [Nat.div_lt_iff_lt_mul (Nat.pow_pos (by decide)), ← Nat.pow_add]
      rw [show x.log2 - k + 1 + k = x.log2 + 1 by omega]; exact a2
  have hk : k ≤ x.log2 := (Nat.le_log2 h0).mpr h
  omega

theorem bl_le {n k : Nat} : bl n ≤ k ↔ n < 2 ^ k := by
  unfold bl
  split
  · rename_i h; subst h; simp [Nat.pow_pos]
  · rename_i h
    constructor
    · intro h'; exact Nat.lt_of_lt_of_le Nat.lt_log2_self (Nat.pow_le_pow_right (by decide) h')
    · intro h'; exact (Nat.log2_lt h).mpr h'

theorem shr_nat (x m : Nat) (hm : m ≤ 64) : ((x : Int)).fdiv (2 ^ min m IntKind.u64.bits) = ((x / 2 ^ m : Nat) : Int) := by
  rw [show min m IntKind.u64.bits = m from Nat.min_eq_left (by simp only [IntKind.bits]; omega), Int.fdiv_eq_ediv_of_nonneg _ (by exact Int.le_of_lt (Int.pow_pos (by decide)))]
  norm_cast

theorem shr_lit (x : Nat) (m : Nat) (hm : m ≤ 64) : ((x : Int)).fdiv (2 ^ m) = ((x / 2 ^ m : Nat) : Int) := by
  rw [Int.fdiv_eq_ediv_of_nonneg _ (by exact Int.le_of_lt (Int.pow_pos (by decide)))]
  norm_cast

theorem cst_str (S : ByteArray) : cstA (.string S) = .iv (.raw (.string S)) := rfl

/-- A sign of the table. -/
theorem astep_tab {S : ByteArray} {y d : Nat} {K : Fr → Hp → Log → Prop} {f : Fr} {H : Hp} {lg : Log} (h : ∀ n, n < 256 → n < S.size ∧ (S[n]?.getD 0).toNat = bl n) (hy : y < 256)
    (hk : K (upd f d (.iv (.int .u8 (bl y)))) H (([], []) :: lg)) : AStep (some ⟨0 ≤ (y : Int) ∧ (y : Int) < (S.size : Int), .iv (.int .u8 ((S[y]?.getD 0).toNat : Nat)), [], [], []⟩) (some d) K f H lg := by
  have h1 := h y hy
  refine ⟨⟨by omega, by omega⟩, ?_⟩
  show K (upd f d (.iv (.int .u8 ((S[y]?.getD 0).toNat : Nat)))) H _
  rw [h1.2]
  exact hk

theorem len64_ok (x : Nat) (hx : x < W) : AC Try.prog 192 [cu x] none [ci (bl x)] := by
  refine AC.by_walk (rs := [.tmp 2]) ords Try.func192 (by rfl) (by rfl) (by rfl) (by rfl) (by rfl) ?_
  simp (disch := omega) only [wk, tis, Int.reduceNe, Int.reduceEq, Int.reduceLT, Int.reduceLE, Int.reduceAdd, Int.reduceSub, Int.reduceNeg, Int.reduceMul, Int.reduceToNat, Nat.reduceSub, Nat.reduceMul, Nat.reduceLeDiff, Nat.reduceAdd, Nat.reduceLT, Nat.reduceEqDiff, reduceCtorEq, ↓reduceIte]
  refine if_cut (fun f H => ∃ y n : Nat, y < 2 ^ 32 ∧ n ≤ 32 ∧ bl x = bl y + n ∧ f 0 = .iv (.int .u64 y) ∧ f 2 = .iv (.int .i64 n)) ?_ ?_
  · refine if_by (fun h => ?_) (fun h => ?_)
    · simp (disch := omega) only [wk, tis, Int.reduceNe, Int.reduceEq, Int.reduceLT, Int.reduceLE, Int.reduceAdd, Int.reduceSub, Int.reduceNeg, Int.reduceMul, Int.reduceToNat, Nat.reduceSub, Nat.reduceMul, Nat.reduceLeDiff, Nat.reduceAdd, Nat.reduceLT, Nat.reduceEqDiff, reduceCtorEq, ↓reduceIte, shr_nat x 32 (by omega)]
      exact ⟨x / 2 ^ 32, 32, by simp only [W] at hx; omega, by omega, bl_shift (k := 32) (by omega), rfl, rfl⟩
    · simp (disch := omega) only [wk, tis, Int.reduceNe, Int.reduceEq, Int.reduceLT, Int.reduceLE, Int.reduceAdd, Int.reduceSub, Int.reduceNeg, Int.reduceMul, Int.reduceToNat, Nat.reduceSub, Nat.reduceMul, Nat.reduceLeDiff, Nat.reduceAdd, Nat.reduceLT, Nat.reduceEqDiff, reduceCtorEq, ↓reduceIte]
      exact ⟨x, 0, by omega, by omega, rfl, rfl, rfl⟩
  rintro f H ⟨y, n, hy, hn, e, hF⟩
  rw [e]
  clear e hx
  simp (disch := omega) only [wk, tis, Int.reduceNe, Int.reduceEq, Int.reduceLT, Int.reduceLE, Int.reduceAdd, Int.reduceSub, Int.reduceNeg, Int.reduceMul, Int.reduceToNat, Nat.reduceSub, Nat.reduceMul, Nat.reduceLeDiff, Nat.reduceAdd, Nat.reduceLT, Nat.reduceEqDiff, reduceCtorEq, ↓reduceIte, hF]
  refine if_cut (fun f H => ∃ z m : Nat, z < 2 ^ 16 ∧ m ≤ 48 ∧ bl y + n = bl z + m ∧ f 0 = .iv (.int .u64 z) ∧ f 2 = .iv (.int .i64 m)) ?_ ?_
  · refine if_by (fun h => ?_) (fun h => ?_)
    · have := bl_shift (x := y) (k := 16) (by omega)
      simp (disch := omega) only [wk, tis, Int.reduceNe, Int.reduceEq, Int.reduceLT, Int.reduceLE, Int.reduceAdd, Int.reduceSub, Int.reduceNeg, Int.reduceMul, Int.reduceToNat, Nat.reduceSub, Nat.reduceMul, Nat.reduceLeDiff, Nat.reduceAdd, Nat.reduceLT, Nat.reduceEqDiff, reduceCtorEq, ↓reduceIte, hF, shr_nat y 16 (by omega)]
      exact ⟨y / 2 ^ 16, n + 16, by omega, by omega, by omega, rfl, by omega⟩
    · simp (disch := omega) only [wk, tis, Int.reduceNe, Int.reduceEq, Int.reduceLT, Int.reduceLE, Int.reduceAdd, Int.reduceSub, Int.reduceNeg, Int.reduceMul, Int.reduceToNat, Nat.reduceSub, Nat.reduceMul, Nat.reduceLeDiff, Nat.reduceAdd, Nat.reduceLT, Nat.reduceEqDiff, reduceCtorEq, ↓reduceIte, hF]
      exact ⟨y, n, by omega, by omega, rfl, rfl, rfl⟩
  clear hF
  rintro f H ⟨z, m, hz, hm, e, hF⟩
  rw [e]
  clear e hy
  simp (disch := omega) only [wk, tis, Int.reduceNe, Int.reduceEq, Int.reduceLT, Int.reduceLE, Int.reduceAdd, Int.reduceSub, Int.reduceNeg, Int.reduceMul, Int.reduceToNat, Nat.reduceSub, Nat.reduceMul, Nat.reduceLeDiff, Nat.reduceAdd, Nat.reduceLT, Nat.reduceEqDiff, reduceCtorEq, ↓reduceIte, hF]
  refine if_cut (fun f H => ∃ y n : Nat, y < 2 ^ 8 ∧ n ≤ 56 ∧ bl z + m = bl y + n ∧ f 0 = .iv (.int .u64 y) ∧ f 2 = .iv (.int .i64 n)) ?_ ?_
  · refine if_by (fun h => ?_) (fun h => ?_)
    · have := bl_shift (x := z) (k := 8) (by omega)
      simp (disch := omega) only [wk, tis, Int.reduceNe, Int.reduceEq, Int.reduceLT, Int.reduceLE, Int.reduceAdd, Int.reduceSub, Int.reduceNeg, Int.reduceMul, Int.reduceToNat, Nat.reduceSub, Nat.reduceMul, Nat.reduceLeDiff, Nat.reduceAdd, Nat.reduceLT, Nat.reduceEqDiff, reduceCtorEq, ↓reduceIte, hF, shr_nat z 8 (by omega)]
      exact ⟨z / 2 ^ 8, m + 8, by omega, by omega, by omega, rfl, by omega⟩
    · simp (disch := omega) only [wk, tis, Int.reduceNe, Int.reduceEq, Int.reduceLT, Int.reduceLE, Int.reduceAdd, Int.reduceSub, Int.reduceNeg, Int.reduceMul, Int.reduceToNat, Nat.reduceSub, Nat.reduceMul, Nat.reduceLeDiff, Nat.reduceAdd, Nat.reduceLT, Nat.reduceEqDiff, reduceCtorEq, ↓reduceIte, hF]
      exact ⟨z, m, by omega, by omega, rfl, rfl, rfl⟩
  clear hF
  rintro f H ⟨y, n, hy, hn, e, hF⟩
  rw [e]
  have hb : bl y ≤ 8 := bl_le.mpr hy
  have hw : IntKind.u8.wrap (y : Int) = (y : Int) := by
    simp only [IntKind.wrap, IntKind.signed, IntKind.bits, Bool.false_and, Bool.false_eq_true, if_false]; omega
  have hw2 : IntKind.i64.wrap (bl y : Int) = (bl y : Int) := wrap_i64 _ (by omega) (by omega)
  simp (disch := omega) only [wk, tis, Int.reduceNe, Int.reduceEq, Int.reduceLT, Int.reduceLE, Int.reduceAdd, Int.reduceSub, Int.reduceNeg, Int.reduceMul, Int.reduceToNat, Nat.reduceSub, Nat.reduceMul, Nat.reduceLeDiff, Nat.reduceAdd, Nat.reduceLT, Nat.reduceEqDiff, reduceCtorEq, ↓reduceIte, hF, hw, cst_str]
  refine astep_tab ?_ (by omega) ?_
  · decide +kernel
  simp (disch := omega) only [wk, tis, Int.reduceNe, Int.reduceEq, Int.reduceLT, Int.reduceLE, Int.reduceAdd, Int.reduceSub, Int.reduceNeg, Int.reduceMul, Int.reduceToNat, Nat.reduceSub, Nat.reduceMul, Nat.reduceLeDiff, Nat.reduceAdd, Nat.reduceLT, Nat.reduceEqDiff, reduceCtorEq, ↓reduceIte, hF, hw, hw2]
  omega

end Go.Proofs.Ythgecppfgdadiaa
