/-
  Contracts of the functions that the law reaches.
-/
import Derived.Test.YthgecppfgdadiaaL3
namespace Go.Proofs.Ythgecppfgdadiaa
open Go Go.Proofs Go.AL
set_option linter.unusedSimpArgs false
set_option linter.unusedVariables false

theorem mcut_ok (l : List Nat) (n : Nat) (h : Lim l) (hl : l.length ≤ 2 ^ 40) (hn : n ≤ 2 ^ 40) : AC Try.prog 176 [cl l, ci n] none [cl (wd (nv l / W ^ n)), cl (wd (nv l % W ^ n))] := by
  refine AC.by_walk (rs := [.tmp 4, .tmp 5]) ords Try.func176 (by rfl) (by rfl) (by rfl) (by rfl) (by rfl) ?_
  rw [← nv_drop h, ← nv_take h]
  simp (disch := omega) only [wk, tis, Int.reduceNe, Int.reduceEq, Int.reduceLT, Int.reduceLE, Int.reduceAdd, Int.reduceSub, Int.reduceNeg, Int.reduceMul, Int.reduceToNat, Nat.reduceSub, Nat.reduceMul, Nat.reduceLeDiff, Nat.reduceAdd, Nat.reduceLT, Nat.reduceEqDiff, reduceCtorEq, ↓reduceIte]
  have e : min (n : Int) (l.length : Int) = ((min n l.length : Nat) : Int) := by omega
  rw [e]
  simp (disch := omega) only [wk, tis, Int.reduceNe, Int.reduceEq, Int.reduceLT, Int.reduceLE, Int.reduceAdd, Int.reduceSub, Int.reduceNeg, Int.reduceMul, Int.reduceToNat, Nat.reduceSub, Nat.reduceMul, Nat.reduceLeDiff, Nat.reduceAdd, Nat.reduceLT, Nat.reduceEqDiff, reduceCtorEq, ↓reduceIte]
  refine ⟨tmps_by (by kernel_rfl), ?_⟩
  have e1 : (l.drop (min n l.length)).take ((l.length : Int) - ((min n l.length : Nat) : Int)).toNat = l.drop n := by
    rw [List.take_of_length_le (by rw [List.length_drop]; omega)]
    by_cases hc : n ≤ l.length
    · rw [Nat.min_eq_left hc]
    · rw [Nat.min_eq_right (by omega), List.drop_of_length_le (by omega), List.drop_of_length_le (by omega)]
  have e2 : l.take (min n l.length) = l.take n := by
    by_cases hc : n ≤ l.length
    · rw [Nat.min_eq_left hc]
    · rw [Nat.min_eq_right (by omega), List.take_of_length_le (by omega), List.take_of_length_le (by omega)]
  rw [e1]
  refine call_by ((norm_ok (l.drop n) (h.drop n) (by rw [List.length_drop]; omega))) (by rfl) (by simp) ?_
  simp (disch := omega) only [wk, tis, Int.reduceNe, Int.reduceEq, Int.reduceLT, Int.reduceLE, Int.reduceAdd, Int.reduceSub, Int.reduceNeg, Int.reduceMul, Int.reduceToNat, Nat.reduceSub, Nat.reduceMul, Nat.reduceLeDiff, Nat.reduceAdd, Nat.reduceLT, Nat.reduceEqDiff, reduceCtorEq, ↓reduceIte]
  rw [e2]
  refine call_by ((norm_ok (l.take n) (h.take n) (by rw [List.length_take]; omega))) (by rfl) (by simp) ?_
  simp (disch := omega) only [wk, tis, Int.reduceNe, Int.reduceEq, Int.reduceLT, Int.reduceLE, Int.reduceAdd, Int.reduceSub, Int.reduceNeg, Int.reduceMul, Int.reduceToNat, Nat.reduceSub, Nat.reduceMul, Nat.reduceLeDiff, Nat.reduceAdd, Nat.reduceLT, Nat.reduceEqDiff, reduceCtorEq, ↓reduceIte]
  first | exact log_by (by kernel_rfl) | refine ⟨log_by (by kernel_rfl), ?_⟩

theorem lift_ok (l : List Nat) (n : Nat) (hl : l.length ≤ 2 ^ 40) (hn : n ≤ 2 ^ 40) : AC Try.prog 177 [cl l, ci n] none [cl (liftl n l)] := by
  refine AC.by_walk (rs := [.tmp 4]) ords Try.func177 (by rfl) (by rfl) (by rfl) (by rfl) (by rfl) ?_
  unfold liftl
  simp (disch := omega) only [wk, tis, Int.reduceNe, Int.reduceEq, Int.reduceLT, Int.reduceLE, Int.reduceAdd, Int.reduceSub, Int.reduceNeg, Int.reduceMul, Int.reduceToNat, Nat.reduceSub, Nat.reduceMul, Nat.reduceLeDiff, Nat.reduceAdd, Nat.reduceLT, Nat.reduceEqDiff, reduceCtorEq, ↓reduceIte]
  refine if_by (fun hz => ?_) (fun hz => ?_)
  · have hz : l.length = 0 := by omega
    simp (disch := omega) only [wk, tis, Int.reduceNe, Int.reduceEq, Int.reduceLT, Int.reduceLE, Int.reduceAdd, Int.reduceSub, Int.reduceNeg, Int.reduceMul, Int.reduceToNat, Nat.reduceSub, Nat.reduceMul, Nat.reduceLeDiff, Nat.reduceAdd, Nat.reduceLT, Nat.reduceEqDiff, reduceCtorEq, ↓reduceIte, hz]
  · have hz : ¬ l.length = 0 := by omega
    simp (disch := omega) only [wk, tis, Int.reduceNe, Int.reduceEq, Int.reduceLT, Int.reduceLE, Int.reduceAdd, Int.reduceSub, Int.reduceNeg, Int.reduceMul, Int.reduceToNat, Nat.reduceSub, Nat.reduceMul, Nat.reduceLeDiff, Nat.reduceAdd, Nat.reduceLT, Nat.reduceEqDiff, reduceCtorEq, ↓reduceIte, hz]

/-- What a product answers. -/
def ProdOk (x y : Nat) : Prop := AC Try.prog 155 [cl (wd x), cl (wd y)] none [cl (wd (x * y))]

theorem halves_ok (x y : Nat) (m : Nat) (hm : m = ((wd y).length + 1) / 2) (ih : ∀ u v, (wd u).length ≤ m + 1 → (wd v).length ≤ m + 1 → ProdOk u v) (hxy : (wd x).length ≤ (wd y).length) (hl : (wd y).length ≤ 2 ^ 36) :
    AC Try.prog 168 [cl (wd x), cl (wd y)] none [cl (wd (x * y))] := by
  refine AC.by_walk (rs := [.tmp 4]) ords Try.func168 (by rfl) (by rfl) (by rfl) (by rfl) (by rfl) ?_
  have hq : Int.tdiv ((wd y).length + 1 : Int) 2 = (m : Int) := by rw [Int.tdiv_eq_ediv_of_nonneg (by omega)]; omega
  have hlt : ∀ z, (wd z).length ≤ 2 * m → (wd (z / W ^ m)).length ≤ m ∧ (wd (z % W ^ m)).length ≤ m := by
    intro z hz
    refine ⟨wd_len_le.mpr ?_, wd_len_le.mpr (Nat.mod_lt _ (W_pow_pos m))⟩
    rw [Nat.div_lt_iff_lt_mul (W_pow_pos m), ← Nat.pow_add, ← Nat.two_mul]
    exact wd_len_le.mp hz
  obtain ⟨hx1, hx0⟩ := hlt x (by omega)
  obtain ⟨hy1, hy0⟩ := hlt y (by omega)
  obtain ⟨hk, hle⟩ := kara x y (W ^ m) (W_pow_pos m) _ _ _ _ rfl rfl rfl rfl
  simp (disch := omega) only [wk, tis, Int.reduceNe, Int.reduceEq, Int.reduceLT, Int.reduceLE, Int.reduceAdd, Int.reduceSub, Int.reduceNeg, Int.reduceMul, Int.reduceToNat, Nat.reduceSub, Nat.reduceMul, Nat.reduceLeDiff, Nat.reduceAdd, Nat.reduceLT, Nat.reduceEqDiff, reduceCtorEq, ↓reduceIte, hq]
  have c1 := mcut_ok (wd x) m (lim_wd x) (by omega) (by omega)
  have c2 := mcut_ok (wd y) m (lim_wd y) (by omega) (by omega)
  rw [nv_wd] at c1 c2
  refine call_by (c1) (by rfl) (by simp) ?_
  simp (disch := omega) only [wk, tis, Int.reduceNe, Int.reduceEq, Int.reduceLT, Int.reduceLE, Int.reduceAdd, Int.reduceSub, Int.reduceNeg, Int.reduceMul, Int.reduceToNat, Nat.reduceSub, Nat.reduceMul, Nat.reduceLeDiff, Nat.reduceAdd, Nat.reduceLT, Nat.reduceEqDiff, reduceCtorEq, ↓reduceIte]
  refine call_by (c2) (by rfl) (by simp) ?_
  simp (disch := omega) only [wk, tis, Int.reduceNe, Int.reduceEq, Int.reduceLT, Int.reduceLE, Int.reduceAdd, Int.reduceSub, Int.reduceNeg, Int.reduceMul, Int.reduceToNat, Nat.reduceSub, Nat.reduceMul, Nat.reduceLeDiff, Nat.reduceAdd, Nat.reduceLT, Nat.reduceEqDiff, reduceCtorEq, ↓reduceIte]
  generalize x / W ^ m = x1 at *
  generalize x % W ^ m = x0 at *
  generalize y / W ^ m = y1 at *
  generalize y % W ^ m = y0 at *
  have p1 := ih x1 y1 (by omega) (by omega)
  have p0 := ih x0 y0 (by omega) (by omega)
  have ax := wd_add_len x1 x0
  have ay := wd_add_len y1 y0
  have pm := ih (x1 + x0) (y1 + y0) (by omega) (by omega)
  unfold ProdOk at p1 p0 pm
  have l1 := wd_mul_len x1 y1
  have l0 := wd_mul_len x0 y0
  have lm := wd_mul_len (x1 + x0) (y1 + y0)
  refine call_by (p1) (by rfl) (by simp) ?_
  simp (disch := omega) only [wk, tis, Int.reduceNe, Int.reduceEq, Int.reduceLT, Int.reduceLE, Int.reduceAdd, Int.reduceSub, Int.reduceNeg, Int.reduceMul, Int.reduceToNat, Nat.reduceSub, Nat.reduceMul, Nat.reduceLeDiff, Nat.reduceAdd, Nat.reduceLT, Nat.reduceEqDiff, reduceCtorEq, ↓reduceIte]
  refine call_by (p0) (by rfl) (by simp) ?_
  simp (disch := omega) only [wk, tis, Int.reduceNe, Int.reduceEq, Int.reduceLT, Int.reduceLE, Int.reduceAdd, Int.reduceSub, Int.reduceNeg, Int.reduceMul, Int.reduceToNat, Nat.reduceSub, Nat.reduceMul, Nat.reduceLeDiff, Nat.reduceAdd, Nat.reduceLT, Nat.reduceEqDiff, reduceCtorEq, ↓reduceIte]
  have s1 := nadd_ok (wd x1) (wd x0) (lim_wd _) (lim_wd _) (by omega) (by omega)
  have s2 := nadd_ok (wd y1) (wd y0) (lim_wd _) (lim_wd _) (by omega) (by omega)
  have s3 := nadd_ok (wd (x1 * y1)) (wd (x0 * y0)) (lim_wd _) (lim_wd _) (by omega) (by omega)
  simp only [nv_wd] at s1 s2 s3
  have ls := wd_add_len (x1 * y1) (x0 * y0)
  refine call_by (s1) (by rfl) (by simp) ?_
  simp (disch := omega) only [wk, tis, Int.reduceNe, Int.reduceEq, Int.reduceLT, Int.reduceLE, Int.reduceAdd, Int.reduceSub, Int.reduceNeg, Int.reduceMul, Int.reduceToNat, Nat.reduceSub, Nat.reduceMul, Nat.reduceLeDiff, Nat.reduceAdd, Nat.reduceLT, Nat.reduceEqDiff, reduceCtorEq, ↓reduceIte]
  refine call_by (s2) (by rfl) (by simp) ?_
  simp (disch := omega) only [wk, tis, Int.reduceNe, Int.reduceEq, Int.reduceLT, Int.reduceLE, Int.reduceAdd, Int.reduceSub, Int.reduceNeg, Int.reduceMul, Int.reduceToNat, Nat.reduceSub, Nat.reduceMul, Nat.reduceLeDiff, Nat.reduceAdd, Nat.reduceLT, Nat.reduceEqDiff, reduceCtorEq, ↓reduceIte]
  refine call_by (pm) (by rfl) (by simp) ?_
  simp (disch := omega) only [wk, tis, Int.reduceNe, Int.reduceEq, Int.reduceLT, Int.reduceLE, Int.reduceAdd, Int.reduceSub, Int.reduceNeg, Int.reduceMul, Int.reduceToNat, Nat.reduceSub, Nat.reduceMul, Nat.reduceLeDiff, Nat.reduceAdd, Nat.reduceLT, Nat.reduceEqDiff, reduceCtorEq, ↓reduceIte]
  refine call_by (s3) (by rfl) (by simp) ?_
  simp (disch := omega) only [wk, tis, Int.reduceNe, Int.reduceEq, Int.reduceLT, Int.reduceLE, Int.reduceAdd, Int.reduceSub, Int.reduceNeg, Int.reduceMul, Int.reduceToNat, Nat.reduceSub, Nat.reduceMul, Nat.reduceLeDiff, Nat.reduceAdd, Nat.reduceLT, Nat.reduceEqDiff, reduceCtorEq, ↓reduceIte]
  have s4 := nsub_ok (wd ((x1 + x0) * (y1 + y0))) (wd (x1 * y1 + x0 * y0)) (lim_wd _) (lim_wd _) (by omega) (by omega)
  simp only [nv_wd, if_neg (Nat.not_lt.mpr hle)] at s4
  refine call_by (s4) (by rfl) (by simp) ?_
  simp (disch := omega) only [wk, tis, Int.reduceNe, Int.reduceEq, Int.reduceLT, Int.reduceLE, Int.reduceAdd, Int.reduceSub, Int.reduceNeg, Int.reduceMul, Int.reduceToNat, Nat.reduceSub, Nat.reduceMul, Nat.reduceLeDiff, Nat.reduceAdd, Nat.reduceLT, Nat.reduceEqDiff, reduceCtorEq, ↓reduceIte]
  generalize hM : (x1 + x0) * (y1 + y0) - (x1 * y1 + x0 * y0) = M at *
  have lM : (wd M).length ≤ (wd ((x1 + x0) * (y1 + y0))).length := wd_len_mono (by omega)
  have e2m : (2 : Int) * (m : Int) = ((2 * m : Nat) : Int) := by omega
  rw [e2m]
  refine call_by ((lift_ok (wd (x1 * y1)) (2 * m) (by omega) (by omega))) (by rfl) (by simp) ?_
  simp (disch := omega) only [wk, tis, Int.reduceNe, Int.reduceEq, Int.reduceLT, Int.reduceLE, Int.reduceAdd, Int.reduceSub, Int.reduceNeg, Int.reduceMul, Int.reduceToNat, Nat.reduceSub, Nat.reduceMul, Nat.reduceLeDiff, Nat.reduceAdd, Nat.reduceLT, Nat.reduceEqDiff, reduceCtorEq, ↓reduceIte]
  refine call_by ((lift_ok (wd M) m (by omega) (by omega))) (by rfl) (by simp) ?_
  simp (disch := omega) only [wk, tis, Int.reduceNe, Int.reduceEq, Int.reduceLT, Int.reduceLE, Int.reduceAdd, Int.reduceSub, Int.reduceNeg, Int.reduceMul, Int.reduceToNat, Nat.reduceSub, Nat.reduceMul, Nat.reduceLeDiff, Nat.reduceAdd, Nat.reduceLT, Nat.reduceEqDiff, reduceCtorEq, ↓reduceIte]
  have ll1 := liftl_len (2 * m) (wd (x1 * y1))
  have ll2 := liftl_len m (wd M)
  have s5 := nadd_ok (liftl (2 * m) (wd (x1 * y1))) (liftl m (wd M)) (lim_liftl _ (lim_wd _)) (lim_liftl _ (lim_wd _)) (by omega) (by omega)
  rw [nv_liftl, nv_liftl, nv_wd, nv_wd] at s5
  refine call_by (s5) (by rfl) (by simp) ?_
  simp (disch := omega) only [wk, tis, Int.reduceNe, Int.reduceEq, Int.reduceLT, Int.reduceLE, Int.reduceAdd, Int.reduceSub, Int.reduceNeg, Int.reduceMul, Int.reduceToNat, Nat.reduceSub, Nat.reduceMul, Nat.reduceLeDiff, Nat.reduceAdd, Nat.reduceLT, Nat.reduceEqDiff, reduceCtorEq, ↓reduceIte]
  have hxyl := wd_mul_len x y
  have e5 : W ^ (2 * m) * (x1 * y1) + W ^ m * M + x0 * y0 = x * y := by
    rw [← hk, Nat.two_mul, Nat.pow_add]
  have s6 := nadd_ok (wd (W ^ (2 * m) * (x1 * y1) + W ^ m * M)) (wd (x0 * y0)) (lim_wd _) (lim_wd _) (Nat.le_trans (wd_len_mono (Nat.le.intro e5)) (by omega)) (by omega)
  rw [nv_wd, nv_wd, e5] at s6
  refine call_by (s6) (by rfl) (by simp) ?_
  simp (disch := omega) only [wk, tis, Int.reduceNe, Int.reduceEq, Int.reduceLT, Int.reduceLE, Int.reduceAdd, Int.reduceSub, Int.reduceNeg, Int.reduceMul, Int.reduceToNat, Nat.reduceSub, Nat.reduceMul, Nat.reduceLeDiff, Nat.reduceAdd, Nat.reduceLT, Nat.reduceEqDiff, reduceCtorEq, ↓reduceIte]

end Go.Proofs.Ythgecppfgdadiaa
