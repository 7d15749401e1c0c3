/-
  Contracts of the functions that the law reaches.
-/
import Derived.Test.YthgecppfgdadiaaL17
namespace Go.Proofs.Ythgecppfgdadiaa
open Go Go.Proofs Go.AL
set_option linter.unusedSimpArgs false
set_option linter.unusedVariables false

theorem rone_ok (a : List Nat) (hl : a.length ≤ 2 ^ 43) : AC Try.prog 165 [cl a] none [cu (if topN a = 0 then 0 else a.getD 0 0), cb (decide (topN a ≤ 1))] := by
  refine AC.by_walk (rs := [.tmp 2, .tmp 3]) ords Try.func165 (by rfl) (by rfl) (by rfl) (by rfl) (by rfl) ?_
  simp (disch := omega) only [wk, tis, Int.reduceNe, Int.reduceEq, Int.reduceLT, Int.reduceLE, Int.reduceAdd, Int.reduceSub, Int.reduceNeg, Int.reduceMul, Int.reduceToNat, Nat.reduceSub, Nat.reduceMul, Nat.reduceLeDiff, Nat.reduceAdd, Nat.reduceLT, Nat.reduceEqDiff, reduceCtorEq, ↓reduceIte]
  refine aloop_by (fun f H => ∃ (k : Nat), k ≤ a.length ∧ topN (a.take k) = topN a ∧ f 4 = .iv (.int .i64 k) ∧ f 0 = .iv (.sl (lims a))) (fun f H => (intAt f 4).toNat) ?_ ?_
  · refine ⟨a.length, by omega, by rw [List.take_length], ?_⟩
    simp (disch := omega) only [wk, tis, Int.reduceNe, Int.reduceEq, Int.reduceLT, Int.reduceLE, Int.reduceAdd, Int.reduceSub, Int.reduceNeg, Int.reduceMul, Int.reduceToNat, Nat.reduceSub, Nat.reduceMul, Nat.reduceLeDiff, Nat.reduceAdd, Nat.reduceLT, Nat.reduceEqDiff, reduceCtorEq, ↓reduceIte]
  rintro f H ⟨k, hk, ht, hF⟩
  rw [intAt_of hF.1]
  simp (disch := omega) only [wk, tis, Int.reduceNe, Int.reduceEq, Int.reduceLT, Int.reduceLE, Int.reduceAdd, Int.reduceSub, Int.reduceNeg, Int.reduceMul, Int.reduceToNat, Nat.reduceSub, Nat.reduceMul, Nat.reduceLeDiff, Nat.reduceAdd, Nat.reduceLT, Nat.reduceEqDiff, reduceCtorEq, ↓reduceIte, hF]
  have done : (k = topN a) → a.length ≥ k → True := fun _ _ => trivial
  by_cases h0 : 0 < (k : Int)
  · obtain ⟨j, rfl⟩ : ∃ j, k = j + 1 := ⟨k - 1, by omega⟩
    have ej : ((j + 1 : Nat) : Int) - 1 = (j : Int) := by omega
    simp (disch := omega) only [wk, tis, Int.reduceNe, Int.reduceEq, Int.reduceLT, Int.reduceLE, Int.reduceAdd, Int.reduceSub, Int.reduceNeg, Int.reduceMul, Int.reduceToNat, Nat.reduceSub, Nat.reduceMul, Nat.reduceLeDiff, Nat.reduceAdd, Nat.reduceLT, Nat.reduceEqDiff, reduceCtorEq, ↓reduceIte, hF, h0, ej]
    refine if_by (fun hz => ?_) (fun hz => ?_)
    · simp (disch := omega) only [wk, tis, Int.reduceNe, Int.reduceEq, Int.reduceLT, Int.reduceLE, Int.reduceAdd, Int.reduceSub, Int.reduceNeg, Int.reduceMul, Int.reduceToNat, Nat.reduceSub, Nat.reduceMul, Nat.reduceLeDiff, Nat.reduceAdd, Nat.reduceLT, Nat.reduceEqDiff, reduceCtorEq, ↓reduceIte, hF, ej]
      exact ⟨j, by omega, by rw [← topN_take_zero (by omega) (by omega), ht], rfl⟩
    · have hk' : topN a = j + 1 := by rw [← ht, topN_full (by omega) (by omega)]
      have hne : ¬ ((j + 1 : Nat) : Int) = 0 := by omega
      simp (disch := omega) only [wk, tis, Int.reduceNe, Int.reduceEq, Int.reduceLT, Int.reduceLE, Int.reduceAdd, Int.reduceSub, Int.reduceNeg, Int.reduceMul, Int.reduceToNat, Nat.reduceSub, Nat.reduceMul, Nat.reduceLeDiff, Nat.reduceAdd, Nat.reduceLT, Nat.reduceEqDiff, reduceCtorEq, ↓reduceIte, hF, hne]
      rw [if_neg (by omega), hk']
      exact ⟨rfl, decide_eq_decide.mpr (by omega)⟩
  · have : k = 0 := by omega
    subst this
    have hk' : topN a = 0 := by rw [← ht]; rfl
    simp (disch := omega) only [wk, tis, Int.reduceNe, Int.reduceEq, Int.reduceLT, Int.reduceLE, Int.reduceAdd, Int.reduceSub, Int.reduceNeg, Int.reduceMul, Int.reduceToNat, Nat.reduceSub, Nat.reduceMul, Nat.reduceLeDiff, Nat.reduceAdd, Nat.reduceLT, Nat.reduceEqDiff, reduceCtorEq, ↓reduceIte, hF]
    rw [hk']
    exact ⟨rfl, rfl⟩

theorem topN_one {a : List Nat} (h : Lim a) (ht : topN a ≤ 1) : nv a = if topN a = 0 then 0 else a.getD 0 0 := by
  have e : nv (a.take (topN a)) = nv a := vl_drop_top two_le_W h
  rw [← e]
  split
  · rename_i h0; rw [h0]; rfl
  · rename_i h0
    have h1 : topN a = 1 := by omega
    rw [h1]
    have := vl_take_next W a 0
    rw [Nat.zero_add] at this
    show vl W (a.take 1) = _
    rw [this]
    simp [vl]

theorem rones_ok (a b : List Nat) (m : Nat) (ha : Lim a) (hb : Lim b) (hm : m ≤ 63) (hla : a.length ≤ 2 ^ 43) (hlb : b.length ≤ 2 ^ 43) :
    ∃ (x y : Nat) (s : Bool), AC Try.prog 145 [cl a, cl b, ci m] none [cu x, cu y, cb s] ∧ (s = true → x = nv a ∧ y = nv b ∧ nv a < 2 ^ m ∧ nv b < 2 ^ m) := by
  have hs : ∀ x : Nat, (x : Int).fdiv (2 ^ min m IntKind.u64.bits) = ((x / 2 ^ m : Nat) : Int) := by
    intro x
    rw [show min m IntKind.u64.bits = m from Nat.min_eq_left (by simp only [IntKind.bits]; omega), Int.fdiv_eq_ediv_of_nonneg _ (by exact Int.le_of_lt (Int.pow_pos (by decide)))]
    norm_cast
  generalize hX : (if topN a = 0 then 0 else a.getD 0 0) = X
  generalize hY : (if topN b = 0 then 0 else b.getD 0 0) = Y
  refine ⟨X, Y, decide (topN a ≤ 1) && decide (topN b ≤ 1) && decide (X / 2 ^ m = 0) && decide (Y / 2 ^ m = 0), ?_, ?_⟩
  · refine AC.by_walk (rs := [.tmp 6, .tmp 7, .tmp 8]) ords Try.func145 (by rfl) (by rfl) (by rfl) (by rfl) (by rfl) ?_
    have h1 := rone_ok a hla
    have h2 := rone_ok b hlb
    rw [hX] at h1
    rw [hY] at h2
    simp (disch := omega) only [wk, tis, Int.reduceNe, Int.reduceEq, Int.reduceLT, Int.reduceLE, Int.reduceAdd, Int.reduceSub, Int.reduceNeg, Int.reduceMul, Int.reduceToNat, Nat.reduceSub, Nat.reduceMul, Nat.reduceLeDiff, Nat.reduceAdd, Nat.reduceLT, Nat.reduceEqDiff, reduceCtorEq, ↓reduceIte]
    refine call_by (h1) (by rfl) (by simp) ?_
    simp (disch := omega) only [wk, tis, Int.reduceNe, Int.reduceEq, Int.reduceLT, Int.reduceLE, Int.reduceAdd, Int.reduceSub, Int.reduceNeg, Int.reduceMul, Int.reduceToNat, Nat.reduceSub, Nat.reduceMul, Nat.reduceLeDiff, Nat.reduceAdd, Nat.reduceLT, Nat.reduceEqDiff, reduceCtorEq, ↓reduceIte]
    refine call_by (h2) (by rfl) (by simp) ?_
    simp (disch := omega) only [wk, tis, Int.reduceNe, Int.reduceEq, Int.reduceLT, Int.reduceLE, Int.reduceAdd, Int.reduceSub, Int.reduceNeg, Int.reduceMul, Int.reduceToNat, Nat.reduceSub, Nat.reduceMul, Nat.reduceLeDiff, Nat.reduceAdd, Nat.reduceLT, Nat.reduceEqDiff, reduceCtorEq, ↓reduceIte]
    refine ⟨tmps_by (by kernel_rfl), ?_⟩
    by_cases t1 : topN a ≤ 1
    · by_cases t2 : topN b ≤ 1
      · by_cases t3 : X / 2 ^ m = 0
        · by_cases t4 : ((Y / 2 ^ m : Nat) : Int) = 0
          · have t3' : ((X / 2 ^ m : Nat) : Int) = 0 := by omega
            simp (disch := omega) only [wk, tis, Int.reduceNe, Int.reduceEq, Int.reduceLT, Int.reduceLE, Int.reduceAdd, Int.reduceSub, Int.reduceNeg, Int.reduceMul, Int.reduceToNat, Nat.reduceSub, Nat.reduceMul, Nat.reduceLeDiff, Nat.reduceAdd, Nat.reduceLT, Nat.reduceEqDiff, reduceCtorEq, ↓reduceIte, t1, t2, hs, t3', t4]
            first | exact log_by (by kernel_rfl) | refine ⟨log_by (by kernel_rfl), ?_⟩
            simp [t3, show Y / 2 ^ m = 0 by omega]
          · have t3' : ((X / 2 ^ m : Nat) : Int) = 0 := by omega
            simp (disch := omega) only [wk, tis, Int.reduceNe, Int.reduceEq, Int.reduceLT, Int.reduceLE, Int.reduceAdd, Int.reduceSub, Int.reduceNeg, Int.reduceMul, Int.reduceToNat, Nat.reduceSub, Nat.reduceMul, Nat.reduceLeDiff, Nat.reduceAdd, Nat.reduceLT, Nat.reduceEqDiff, reduceCtorEq, ↓reduceIte, t1, t2, hs, t3', t4]
            first | exact log_by (by kernel_rfl) | refine ⟨log_by (by kernel_rfl), ?_⟩
            simp [show ¬ Y / 2 ^ m = 0 by omega]
        · have t3' : ¬ ((X / 2 ^ m : Nat) : Int) = 0 := by omega
          simp (disch := omega) only [wk, tis, Int.reduceNe, Int.reduceEq, Int.reduceLT, Int.reduceLE, Int.reduceAdd, Int.reduceSub, Int.reduceNeg, Int.reduceMul, Int.reduceToNat, Nat.reduceSub, Nat.reduceMul, Nat.reduceLeDiff, Nat.reduceAdd, Nat.reduceLT, Nat.reduceEqDiff, reduceCtorEq, ↓reduceIte, t1, t2, hs, t3']
          first | exact log_by (by kernel_rfl) | refine ⟨log_by (by kernel_rfl), ?_⟩
          simp [t3]
      · simp (disch := omega) only [wk, tis, Int.reduceNe, Int.reduceEq, Int.reduceLT, Int.reduceLE, Int.reduceAdd, Int.reduceSub, Int.reduceNeg, Int.reduceMul, Int.reduceToNat, Nat.reduceSub, Nat.reduceMul, Nat.reduceLeDiff, Nat.reduceAdd, Nat.reduceLT, Nat.reduceEqDiff, reduceCtorEq, ↓reduceIte, t1, t2]
        first | exact log_by (by kernel_rfl) | refine ⟨log_by (by kernel_rfl), ?_⟩
        simp
    · simp (disch := omega) only [wk, tis, Int.reduceNe, Int.reduceEq, Int.reduceLT, Int.reduceLE, Int.reduceAdd, Int.reduceSub, Int.reduceNeg, Int.reduceMul, Int.reduceToNat, Nat.reduceSub, Nat.reduceMul, Nat.reduceLeDiff, Nat.reduceAdd, Nat.reduceLT, Nat.reduceEqDiff, reduceCtorEq, ↓reduceIte, t1]
      first | exact log_by (by kernel_rfl) | refine ⟨log_by (by kernel_rfl), ?_⟩
      simp
  · intro h
    simp only [Bool.and_eq_true, decide_eq_true_eq] at h
    obtain ⟨⟨⟨h1, h2⟩, h3⟩, h4⟩ := h
    have e1 := topN_one ha h1
    have e2 := topN_one hb h2
    rw [e1, e2, hX, hY]
    rw [Nat.div_eq_zero_iff] at h3 h4
    have := Nat.pow_pos (n := m) (show 0 < 2 by decide)
    omega

theorem rof_ok (w : Nat) (h : w < W) : AC Try.prog 146 [cu w] none [cl (wd w)] := by
  refine AC.by_walk (rs := [.tmp 2]) ords Try.func146 (by rfl) (by rfl) (by rfl) (by rfl) (by rfl) ?_
  simp (disch := omega) only [wk, tis, Int.reduceNe, Int.reduceEq, Int.reduceLT, Int.reduceLE, Int.reduceAdd, Int.reduceSub, Int.reduceNeg, Int.reduceMul, Int.reduceToNat, Nat.reduceSub, Nat.reduceMul, Nat.reduceLeDiff, Nat.reduceAdd, Nat.reduceLT, Nat.reduceEqDiff, reduceCtorEq, ↓reduceIte]
  refine if_by (fun hz => ?_) (fun hz => ?_)
  · have : w = 0 := by omega
    subst this
    simp (disch := omega) only [wk, tis, Int.reduceNe, Int.reduceEq, Int.reduceLT, Int.reduceLE, Int.reduceAdd, Int.reduceSub, Int.reduceNeg, Int.reduceMul, Int.reduceToNat, Nat.reduceSub, Nat.reduceMul, Nat.reduceLeDiff, Nat.reduceAdd, Nat.reduceLT, Nat.reduceEqDiff, reduceCtorEq, ↓reduceIte, wd_zero]
  · have : wd w = [w] := by
      rw [wd, dg_pos two_le_W (by omega), Nat.mod_eq_of_lt h, Nat.div_eq_of_lt h, dg_zero]
    simp (disch := omega) only [wk, tis, Int.reduceNe, Int.reduceEq, Int.reduceLT, Int.reduceLE, Int.reduceAdd, Int.reduceSub, Int.reduceNeg, Int.reduceMul, Int.reduceToNat, Nat.reduceSub, Nat.reduceMul, Nat.reduceLeDiff, Nat.reduceAdd, Nat.reduceLT, Nat.reduceEqDiff, reduceCtorEq, ↓reduceIte, this]
    rfl

theorem rPlus_ok (a b : List Nat) (ha : Lim a) (hb : Lim b) (hla : a.length ≤ 2 ^ 38) (hlb : b.length ≤ 2 ^ 38) : AC Try.prog 114 [cl a, cl b] none [cl (wd (nv a + nv b))] := by
  refine AC.by_walk (rs := [.tmp 4]) ords Try.func114 (by rfl) (by rfl) (by rfl) (by rfl) (by rfl) ?_
  obtain ⟨x, y, s, h1, h2⟩ := rones_ok a b 63 ha hb (by omega) (by omega) (by omega)
  have h3 := dgD_len ha
  have h4 := dgD_len hb
  simp (disch := omega) only [wk, tis, Int.reduceNe, Int.reduceEq, Int.reduceLT, Int.reduceLE, Int.reduceAdd, Int.reduceSub, Int.reduceNeg, Int.reduceMul, Int.reduceToNat, Nat.reduceSub, Nat.reduceMul, Nat.reduceLeDiff, Nat.reduceAdd, Nat.reduceLT, Nat.reduceEqDiff, reduceCtorEq, ↓reduceIte]
  refine call_by (h1) (by rfl) (by simp) ?_
  simp (disch := omega) only [wk, tis, Int.reduceNe, Int.reduceEq, Int.reduceLT, Int.reduceLE, Int.reduceAdd, Int.reduceSub, Int.reduceNeg, Int.reduceMul, Int.reduceToNat, Nat.reduceSub, Nat.reduceMul, Nat.reduceLeDiff, Nat.reduceAdd, Nat.reduceLT, Nat.reduceEqDiff, reduceCtorEq, ↓reduceIte]
  cases s with
  | true =>
    obtain ⟨rfl, rfl, b1, b2⟩ := h2 rfl
    simp (disch := omega) only [wk, tis, Int.reduceNe, Int.reduceEq, Int.reduceLT, Int.reduceLE, Int.reduceAdd, Int.reduceSub, Int.reduceNeg, Int.reduceMul, Int.reduceToNat, Nat.reduceSub, Nat.reduceMul, Nat.reduceLeDiff, Nat.reduceAdd, Nat.reduceLT, Nat.reduceEqDiff, reduceCtorEq, ↓reduceIte, wrap_add_nat (m := nv a) (n := nv b) (by simp only [W]; omega)]
    refine call_by ((rof_ok (nv a + nv b) (by simp only [W]; omega))) (by rfl) (by simp) ?_
    simp (disch := omega) only [wk, tis, Int.reduceNe, Int.reduceEq, Int.reduceLT, Int.reduceLE, Int.reduceAdd, Int.reduceSub, Int.reduceNeg, Int.reduceMul, Int.reduceToNat, Nat.reduceSub, Nat.reduceMul, Nat.reduceLeDiff, Nat.reduceAdd, Nat.reduceLT, Nat.reduceEqDiff, reduceCtorEq, ↓reduceIte]
  | false =>
    simp (disch := omega) only [wk, tis, Int.reduceNe, Int.reduceEq, Int.reduceLT, Int.reduceLE, Int.reduceAdd, Int.reduceSub, Int.reduceNeg, Int.reduceMul, Int.reduceToNat, Nat.reduceSub, Nat.reduceMul, Nat.reduceLeDiff, Nat.reduceAdd, Nat.reduceLT, Nat.reduceEqDiff, reduceCtorEq, ↓reduceIte]
    refine call_by ((rdig_ok a ha (by omega))) (by rfl) (by simp) ?_
    simp (disch := omega) only [wk, tis, Int.reduceNe, Int.reduceEq, Int.reduceLT, Int.reduceLE, Int.reduceAdd, Int.reduceSub, Int.reduceNeg, Int.reduceMul, Int.reduceToNat, Nat.reduceSub, Nat.reduceMul, Nat.reduceLeDiff, Nat.reduceAdd, Nat.reduceLT, Nat.reduceEqDiff, reduceCtorEq, ↓reduceIte]
    refine call_by ((rdig_ok b hb (by omega))) (by rfl) (by simp) ?_
    simp (disch := omega) only [wk, tis, Int.reduceNe, Int.reduceEq, Int.reduceLT, Int.reduceLE, Int.reduceAdd, Int.reduceSub, Int.reduceNeg, Int.reduceMul, Int.reduceToNat, Nat.reduceSub, Nat.reduceMul, Nat.reduceLeDiff, Nat.reduceAdd, Nat.reduceLT, Nat.reduceEqDiff, reduceCtorEq, ↓reduceIte]
    have p := rplus_ok (dgD (nv a)) (dgD (nv b)) (dgD_dig _) (dgD_dig _) (by omega) (by omega)
    rw [vl_dgD, vl_dgD] at p
    refine call_by (p) (by rfl) (by simp) ?_
    simp (disch := omega) only [wk, tis, Int.reduceNe, Int.reduceEq, Int.reduceLT, Int.reduceLE, Int.reduceAdd, Int.reduceSub, Int.reduceNeg, Int.reduceMul, Int.reduceToNat, Nat.reduceSub, Nat.reduceMul, Nat.reduceLeDiff, Nat.reduceAdd, Nat.reduceLT, Nat.reduceEqDiff, reduceCtorEq, ↓reduceIte]
    have hA := vlD_lt (dgD_dig (nv a))
    have hB := vlD_lt (dgD_dig (nv b))
    rw [vl_dgD] at hA hB
    generalize hn : max (dgD (nv a)).length (dgD (nv b)).length = n
    have hA2 : D16 ^ (dgD (nv a)).length ≤ D16 ^ n := Nat.pow_le_pow_right (by decide) (by omega)
    have hB2 : D16 ^ (dgD (nv b)).length ≤ D16 ^ n := Nat.pow_le_pow_right (by decide) (by omega)
    have hq : (nv a + nv b) / D16 ^ n < 2 := by
      rw [Nat.div_lt_iff_lt_mul (D_pow_pos n)]; omega
    have hlen : n + (nv a + nv b) / D16 ^ n ≤ 2 ^ 42 := by
      generalize (nv a + nv b) / D16 ^ n = q at hq
      omega
    have q := rnumber_ok (dn (n + (nv a + nv b) / D16 ^ n) (nv a + nv b)) (dn_dig _ _) (by rw [dn_len]; exact hlen)
    have e : vl D16 (dn (n + (nv a + nv b) / D16 ^ n) (nv a + nv b)) = nv a + nv b := by
      rw [vl_dn, Nat.mod_eq_of_lt]
      have two : ∀ q, q < 2 → q = 0 ∨ q = 1 := by omega
      have := two _ hq
      rcases this with h | h
      · rw [h, Nat.add_zero]; exact (Nat.div_eq_zero_iff_lt (D_pow_pos n)).mp h
      · rw [h, Nat.pow_succ]
        have : 2 * D16 ^ n ≤ D16 ^ n * D16 := by rw [Nat.mul_comm]; exact Nat.mul_le_mul_left _ (by decide)
        omega
    rw [e] at q
    refine call_by (q) (by rfl) (by simp) ?_
    simp (disch := omega) only [wk, tis, Int.reduceNe, Int.reduceEq, Int.reduceLT, Int.reduceLE, Int.reduceAdd, Int.reduceSub, Int.reduceNeg, Int.reduceMul, Int.reduceToNat, Nat.reduceSub, Nat.reduceMul, Nat.reduceLeDiff, Nat.reduceAdd, Nat.reduceLT, Nat.reduceEqDiff, reduceCtorEq, ↓reduceIte]

theorem rMinus_ok (a b : List Nat) (ha : Lim a) (hb : Lim b) (hla : a.length ≤ 2 ^ 38) (hlb : b.length ≤ 2 ^ 38) (hle : nv b ≤ nv a) : AC Try.prog 127 [cl a, cl b] none [cl (wd (nv a - nv b))] := by
  refine AC.by_walk (rs := [.tmp 4]) ords Try.func127 (by rfl) (by rfl) (by rfl) (by rfl) (by rfl) ?_
  obtain ⟨x, y, s, h1, h2⟩ := rones_ok a b 63 ha hb (by omega) (by omega) (by omega)
  have h3 := dgD_len ha
  have h4 := dgD_len hb
  simp (disch := omega) only [wk, tis, Int.reduceNe, Int.reduceEq, Int.reduceLT, Int.reduceLE, Int.reduceAdd, Int.reduceSub, Int.reduceNeg, Int.reduceMul, Int.reduceToNat, Nat.reduceSub, Nat.reduceMul, Nat.reduceLeDiff, Nat.reduceAdd, Nat.reduceLT, Nat.reduceEqDiff, reduceCtorEq, ↓reduceIte]
  refine call_by (h1) (by rfl) (by simp) ?_
  simp (disch := omega) only [wk, tis, Int.reduceNe, Int.reduceEq, Int.reduceLT, Int.reduceLE, Int.reduceAdd, Int.reduceSub, Int.reduceNeg, Int.reduceMul, Int.reduceToNat, Nat.reduceSub, Nat.reduceMul, Nat.reduceLeDiff, Nat.reduceAdd, Nat.reduceLT, Nat.reduceEqDiff, reduceCtorEq, ↓reduceIte]
  cases s with
  | true =>
    obtain ⟨rfl, rfl, b1, b2⟩ := h2 rfl
    have e1 : (nv a : Int) - (nv b : Int) = ((nv a - nv b : Nat) : Int) := by omega
    simp (disch := omega) only [wk, tis, Int.reduceNe, Int.reduceEq, Int.reduceLT, Int.reduceLE, Int.reduceAdd, Int.reduceSub, Int.reduceNeg, Int.reduceMul, Int.reduceToNat, Nat.reduceSub, Nat.reduceMul, Nat.reduceLeDiff, Nat.reduceAdd, Nat.reduceLT, Nat.reduceEqDiff, reduceCtorEq, ↓reduceIte, e1, wrap_nat (n := nv a - nv b) (by simp only [W]; omega)]
    refine call_by ((rof_ok (nv a - nv b) (by simp only [W]; omega))) (by rfl) (by simp) ?_
    simp (disch := omega) only [wk, tis, Int.reduceNe, Int.reduceEq, Int.reduceLT, Int.reduceLE, Int.reduceAdd, Int.reduceSub, Int.reduceNeg, Int.reduceMul, Int.reduceToNat, Nat.reduceSub, Nat.reduceMul, Nat.reduceLeDiff, Nat.reduceAdd, Nat.reduceLT, Nat.reduceEqDiff, reduceCtorEq, ↓reduceIte]
  | false =>
    simp (disch := omega) only [wk, tis, Int.reduceNe, Int.reduceEq, Int.reduceLT, Int.reduceLE, Int.reduceAdd, Int.reduceSub, Int.reduceNeg, Int.reduceMul, Int.reduceToNat, Nat.reduceSub, Nat.reduceMul, Nat.reduceLeDiff, Nat.reduceAdd, Nat.reduceLT, Nat.reduceEqDiff, reduceCtorEq, ↓reduceIte]
    refine call_by ((rdig_ok a ha (by omega))) (by rfl) (by simp) ?_
    simp (disch := omega) only [wk, tis, Int.reduceNe, Int.reduceEq, Int.reduceLT, Int.reduceLE, Int.reduceAdd, Int.reduceSub, Int.reduceNeg, Int.reduceMul, Int.reduceToNat, Nat.reduceSub, Nat.reduceMul, Nat.reduceLeDiff, Nat.reduceAdd, Nat.reduceLT, Nat.reduceEqDiff, reduceCtorEq, ↓reduceIte]
    refine call_by ((rdig_ok b hb (by omega))) (by rfl) (by simp) ?_
    simp (disch := omega) only [wk, tis, Int.reduceNe, Int.reduceEq, Int.reduceLT, Int.reduceLE, Int.reduceAdd, Int.reduceSub, Int.reduceNeg, Int.reduceMul, Int.reduceToNat, Nat.reduceSub, Nat.reduceMul, Nat.reduceLeDiff, Nat.reduceAdd, Nat.reduceLT, Nat.reduceEqDiff, reduceCtorEq, ↓reduceIte]
    have hlen : (dgD (nv b)).length ≤ (dgD (nv a)).length := (dg_length_le two_le_D _).mpr (Nat.lt_of_le_of_lt hle ((dg_length_le two_le_D _).mp (Nat.le_refl _)))
    have p := rminus_ok (dgD (nv a)) (dgD (nv b)) (dgD_dig _) (dgD_dig _) (by omega) hlen (by rw [vl_dgD, vl_dgD]; exact hle)
    rw [vl_dgD, vl_dgD] at p
    refine call_by (p) (by rfl) (by simp) ?_
    simp (disch := omega) only [wk, tis, Int.reduceNe, Int.reduceEq, Int.reduceLT, Int.reduceLE, Int.reduceAdd, Int.reduceSub, Int.reduceNeg, Int.reduceMul, Int.reduceToNat, Nat.reduceSub, Nat.reduceMul, Nat.reduceLeDiff, Nat.reduceAdd, Nat.reduceLT, Nat.reduceEqDiff, reduceCtorEq, ↓reduceIte]
    have hA := vlD_lt (dgD_dig (nv a))
    rw [vl_dgD] at hA
    have q := rnumber_ok (dn (dgD (nv a)).length (nv a - nv b)) (dn_dig _ _) (by rw [dn_len]; omega)
    have e : vl D16 (dn (dgD (nv a)).length (nv a - nv b)) = nv a - nv b := by
      rw [vl_dn, Nat.mod_eq_of_lt (by omega)]
    rw [e] at q
    refine call_by (q) (by rfl) (by simp) ?_
    simp (disch := omega) only [wk, tis, Int.reduceNe, Int.reduceEq, Int.reduceLT, Int.reduceLE, Int.reduceAdd, Int.reduceSub, Int.reduceNeg, Int.reduceMul, Int.reduceToNat, Nat.reduceSub, Nat.reduceMul, Nat.reduceLeDiff, Nat.reduceAdd, Nat.reduceLT, Nat.reduceEqDiff, reduceCtorEq, ↓reduceIte]

theorem mulD {P A B O c x y o lo hi : Nat} (h : O + P * c = A + B * y) (he : lo + D16 * hi = o + x * y + c) : True := trivial

theorem vlD_set_take {l : List Nat} {k m : Nat} (hk : k < m) (hm : m ≤ l.length) (x : Nat) : vl D16 ((l.set k x).take m) + D16 ^ k * l.getD k 0 = vl D16 (l.take m) + D16 ^ k * x := by
  have e : (l.set k x).take m = (l.take m).set k x := by rw [List.take_set]
  have h2 : (l.take m).getD k 0 = l.getD k 0 := by simp [List.getD, List.getElem?_take, hk]
  rw [e, ← h2]
  exact vl_set D16 (by rw [List.length_take]; omega) x

theorem rowD {T T' Q A b S Bj c o lo hi : Nat} (h : T + Q * c = S + b * Bj) (hT : T' + Q * o = T + Q * lo) (he : hi * D16 + lo = A + c + o) : T' + Q * D16 * hi = S + (b * Bj + Q * A) := by
  have := congrArg (Q * ·) he
  simp only [Nat.mul_add] at this
  rw [Nat.mul_assoc, Nat.mul_comm D16 hi]
  omega

theorem rtimes_ok (a b : List Nat) (ha : Dig a) (hb : Dig b) (hla : a.length ≤ 2 ^ 40) (hlb : b.length ≤ 2 ^ 40) : AC Try.prog 151 [cd a, cd b] none [cd (dn (a.length + b.length) (vl D16 a * vl D16 b))] := by
  refine AC.by_walk (rs := [.tmp 4]) ords Try.func151 (by rfl) (by rfl) (by rfl) (by rfl) (by rfl) ?_
  have eN : ((a.length : Int) + (b.length : Int)) = ((a.length + b.length : Nat) : Int) := by omega
  simp (disch := omega) only [wk, tis, Int.reduceNe, Int.reduceEq, Int.reduceLT, Int.reduceLE, Int.reduceAdd, Int.reduceSub, Int.reduceNeg, Int.reduceMul, Int.reduceToNat, Nat.reduceSub, Nat.reduceMul, Nat.reduceLeDiff, Nat.reduceAdd, Nat.reduceLT, Nat.reduceEqDiff, reduceCtorEq, ↓reduceIte, eN, nums_rep]
  refine aloop_by (fun f H => ∃ (i st : Nat) (s : List Nat), i ≤ a.length ∧ Dig s ∧ s.length = a.length + b.length ∧ vl D16 (s.take (i + b.length)) = vl D16 (a.take i) * vl D16 b ∧ (∀ k, i + b.length ≤ k → s.getD k 0 = 0) ∧ f 6 = .iv (.int .i64 i) ∧ f 0 = .iv (.sl (nums a)) ∧ f 1 = .iv (.sl (nums b)) ∧ f 5 = .hs 14 st ∧ H 14 = .blk false st 3 1 (nums s)) (fun f H => (a.length - intAt f 6).toNat) ?_ ?_
  · refine ⟨0, 1, List.replicate (a.length + b.length) 0, by omega, Dig.replicate _, by simp, by rw [List.take_replicate]; simp [vl_replicate, vl], fun k _ => by simp [List.getD, List.getElem?_replicate]; split <;> rfl, ?_⟩
    simp (disch := omega) only [wk, tis, Int.reduceNe, Int.reduceEq, Int.reduceLT, Int.reduceLE, Int.reduceAdd, Int.reduceSub, Int.reduceNeg, Int.reduceMul, Int.reduceToNat, Nat.reduceSub, Nat.reduceMul, Nat.reduceLeDiff, Nat.reduceAdd, Nat.reduceLT, Nat.reduceEqDiff, reduceCtorEq, ↓reduceIte]
  rintro f H ⟨i, st, s, hi, hS, hSl, hv, hz, hF⟩
  rw [intAt_of hF.1]
  simp (disch := omega) only [wk, tis, Int.reduceNe, Int.reduceEq, Int.reduceLT, Int.reduceLE, Int.reduceAdd, Int.reduceSub, Int.reduceNeg, Int.reduceMul, Int.reduceToNat, Nat.reduceSub, Nat.reduceMul, Nat.reduceLeDiff, Nat.reduceAdd, Nat.reduceLT, Nat.reduceEqDiff, reduceCtorEq, ↓reduceIte, hF]
  refine if_by (fun hlt => ?_) (fun hlt => ?_)
  · simp (disch := omega) only [wk, tis, Int.reduceNe, Int.reduceEq, Int.reduceLT, Int.reduceLE, Int.reduceAdd, Int.reduceSub, Int.reduceNeg, Int.reduceMul, Int.reduceToNat, Nat.reduceSub, Nat.reduceMul, Nat.reduceLeDiff, Nat.reduceAdd, Nat.reduceLT, Nat.reduceEqDiff, reduceCtorEq, ↓reduceIte, hF]
    have hx := ha.get i
    refine aloop_by (fun f H => ∃ (k c st : Nat) (s : List Nat), k ≤ b.length ∧ c < D16 ∧ Dig s ∧ s.length = a.length + b.length ∧ vl D16 (s.take (i + b.length)) + D16 ^ (i + k) * c = vl D16 (a.take i) * vl D16 b + (D16 ^ i * a.getD i 0) * vl D16 (b.take k) ∧ (∀ k, i + b.length ≤ k → s.getD k 0 = 0) ∧ f 8 = .iv (.int .i64 k) ∧ f 0 = .iv (.sl (nums a)) ∧ f 1 = .iv (.sl (nums b)) ∧ f 5 = .hs 14 st ∧ f 6 = .iv (.int .i64 i) ∧ f 7 = .iv (.int .i64 c) ∧ H 14 = .blk false st 3 1 (nums s)) (fun f H => (b.length - intAt f 8).toNat) ?_ ?_
    · refine ⟨0, 0, st, s, by omega, by decide, hS, hSl, by simp [hv, vl], hz, ?_⟩
      simp (disch := omega) only [wk, tis, Int.reduceNe, Int.reduceEq, Int.reduceLT, Int.reduceLE, Int.reduceAdd, Int.reduceSub, Int.reduceNeg, Int.reduceMul, Int.reduceToNat, Nat.reduceSub, Nat.reduceMul, Nat.reduceLeDiff, Nat.reduceAdd, Nat.reduceLT, Nat.reduceEqDiff, reduceCtorEq, ↓reduceIte, hF]
    rintro f H ⟨k, c, st, s, hk, hc, hS, hSl, hv, hz, hF⟩
    rw [intAt_of hF.1]
    simp (disch := omega) only [wk, tis, Int.reduceNe, Int.reduceEq, Int.reduceLT, Int.reduceLE, Int.reduceAdd, Int.reduceSub, Int.reduceNeg, Int.reduceMul, Int.reduceToNat, Nat.reduceSub, Nat.reduceMul, Nat.reduceLeDiff, Nat.reduceAdd, Nat.reduceLT, Nat.reduceEqDiff, reduceCtorEq, ↓reduceIte, hF]
    refine if_by (fun hlk => ?_) (fun hlk => ?_)
    · have hy := hb.get k
      have ho := hS.get (i + k)
      have eij : (i : Int) + (k : Int) = ((i + k : Nat) : Int) := by omega
      have eab : (a.getD i 0 : Int) * (b.getD k 0 : Int) = ((a.getD i 0 * b.getD k 0 : Nat) : Int) := (Int.natCast_mul _ _).symm
      have hm : a.getD i 0 * b.getD k 0 ≤ 65535 * 65535 := Nat.mul_le_mul (by simp only [D16] at hx; omega) (by simp only [D16] at hy; omega)
      have hdef : ∃ m, m = a.getD i 0 * b.getD k 0 := ⟨_, rfl⟩
      obtain ⟨m, hm1⟩ := hdef
      rw [← hm1] at eab hm
      have et : (c : Int) + ((s.getD (i + k) 0 : Nat) + (m : Nat) : Int) = ((c + (s.getD (i + k) 0 + m) : Nat) : Int) := by omega
      have hT : c + (s.getD (i + k) 0 + m) < 65536 * 65536 := by simp only [D16] at hc ho; omega
      simp only [D16] at hc ho
      simp (disch := omega) only [wk, tis, Int.reduceNe, Int.reduceEq, Int.reduceLT, Int.reduceLE, Int.reduceAdd, Int.reduceSub, Int.reduceNeg, Int.reduceMul, Int.reduceToNat, Nat.reduceSub, Nat.reduceMul, Nat.reduceLeDiff, Nat.reduceAdd, Nat.reduceLT, Nat.reduceEqDiff, reduceCtorEq, ↓reduceIte, hF, eij, eab, et]
      refine ⟨tmps_by (by kernel_rfl), ?_⟩
      first | exact log_by (by kernel_rfl) | refine ⟨log_by (by kernel_rfl), ?_⟩
      have hs1 := vlD_set_take (l := s) (k := i + k) (m := i + b.length) (by omega) (by omega) ((c + (s.getD (i + k) 0 + m)) % D16)
      have hs2 := rowD (A := m) (hi := (c + (s.getD (i + k) 0 + m)) / D16) hv hs1 (by simp only [D16]; omega)
      refine ⟨⟨k + 1, (c + (s.getD (i + k) 0 + m)) / D16, st, s.set (i + k) ((c + (s.getD (i + k) 0 + m)) % D16), by omega, by simp only [D16]; omega, hS.set (Nat.mod_lt _ (by decide)), by simp [hSl], ?_, ?_, by omega, rfl, rfl, rfl⟩, by omega⟩
      · rw [← Nat.add_assoc i k 1, Nat.pow_succ, hs2, vl_take_next, Nat.mul_add, hm1, Nat.pow_add]
        congr 2
        ac_rfl
      · intro j hj
        rw [show (s.set (i + k) ((c + (s.getD (i + k) 0 + m)) % D16)).getD j 0 = s.getD j 0 by simp [List.getD, List.getElem?_set_ne (show i + k ≠ j by omega)]]
        exact hz j hj
    · have hkb : k = b.length := by omega
      subst hkb
      have eij : (i : Int) + (b.length : Int) = ((i + b.length : Nat) : Int) := by omega
      rw [List.take_length] at hv
      simp (disch := omega) only [wk, tis, Int.reduceNe, Int.reduceEq, Int.reduceLT, Int.reduceLE, Int.reduceAdd, Int.reduceSub, Int.reduceNeg, Int.reduceMul, Int.reduceToNat, Nat.reduceSub, Nat.reduceMul, Nat.reduceLeDiff, Nat.reduceAdd, Nat.reduceLT, Nat.reduceEqDiff, reduceCtorEq, ↓reduceIte, hF, eij]
      have hs1 := vl_take_set D16 (l := s) (k := i + b.length) (by omega) c
      refine ⟨⟨i + 1, st, s.set (i + b.length) c, by omega, hS.set hc, by simp [hSl], ?_, ?_, by omega, rfl, rfl⟩, by omega⟩
      · rw [show i + 1 + b.length = i + b.length + 1 by omega, hs1, hv, vl_take_next, Nat.add_mul]
      · intro j hj
        rw [show (s.set (i + b.length) c).getD j 0 = s.getD j 0 by simp [List.getD, List.getElem?_set_ne (show i + b.length ≠ j by omega)]]
        exact hz j (by omega)
  · simp (disch := omega) only [wk, tis, Int.reduceNe, Int.reduceEq, Int.reduceLT, Int.reduceLE, Int.reduceAdd, Int.reduceSub, Int.reduceNeg, Int.reduceMul, Int.reduceToNat, Nat.reduceSub, Nat.reduceMul, Nat.reduceLeDiff, Nat.reduceAdd, Nat.reduceLT, Nat.reduceEqDiff, reduceCtorEq, ↓reduceIte, hF]
    have : i = a.length := by omega
    subst this
    rw [List.take_of_length_le (by omega), List.take_length] at hv
    have e : s = dn (a.length + b.length) (vl D16 a * vl D16 b) := by
      refine eq_dn hS hSl ?_
      have h5 := vlD_lt hS
      rw [hSl] at h5
      rw [hv, Nat.mod_eq_of_lt (by rw [← hv]; exact h5)]
    rw [e]

theorem rTimes_ok (a b : List Nat) (ha : Lim a) (hb : Lim b) (hla : a.length ≤ 2 ^ 37) (hlb : b.length ≤ 2 ^ 37) : AC Try.prog 128 [cl a, cl b] none [cl (wd (nv a * nv b))] := by
  refine AC.by_walk (rs := [.tmp 4]) ords Try.func128 (by rfl) (by rfl) (by rfl) (by rfl) (by rfl) ?_
  obtain ⟨x, y, s, h1, h2⟩ := rones_ok a b 32 ha hb (by omega) (by omega) (by omega)
  have h3 := dgD_len ha
  have h4 := dgD_len hb
  simp (disch := omega) only [wk, tis, Int.reduceNe, Int.reduceEq, Int.reduceLT, Int.reduceLE, Int.reduceAdd, Int.reduceSub, Int.reduceNeg, Int.reduceMul, Int.reduceToNat, Nat.reduceSub, Nat.reduceMul, Nat.reduceLeDiff, Nat.reduceAdd, Nat.reduceLT, Nat.reduceEqDiff, reduceCtorEq, ↓reduceIte]
  refine call_by (h1) (by rfl) (by simp) ?_
  simp (disch := omega) only [wk, tis, Int.reduceNe, Int.reduceEq, Int.reduceLT, Int.reduceLE, Int.reduceAdd, Int.reduceSub, Int.reduceNeg, Int.reduceMul, Int.reduceToNat, Nat.reduceSub, Nat.reduceMul, Nat.reduceLeDiff, Nat.reduceAdd, Nat.reduceLT, Nat.reduceEqDiff, reduceCtorEq, ↓reduceIte]
  cases s with
  | true =>
    obtain ⟨rfl, rfl, b1, b2⟩ := h2 rfl
    have hm : nv a * nv b ≤ (2 ^ 32 - 1) * (2 ^ 32 - 1) := Nat.mul_le_mul (by omega) (by omega)
    have hw : nv a * nv b < W := by simp only [W]; omega
    simp (disch := omega) only [wk, tis, Int.reduceNe, Int.reduceEq, Int.reduceLT, Int.reduceLE, Int.reduceAdd, Int.reduceSub, Int.reduceNeg, Int.reduceMul, Int.reduceToNat, Nat.reduceSub, Nat.reduceMul, Nat.reduceLeDiff, Nat.reduceAdd, Nat.reduceLT, Nat.reduceEqDiff, reduceCtorEq, ↓reduceIte, wrap_mul_nat hw]
    refine call_by ((rof_ok (nv a * nv b) hw)) (by rfl) (by simp) ?_
    simp (disch := omega) only [wk, tis, Int.reduceNe, Int.reduceEq, Int.reduceLT, Int.reduceLE, Int.reduceAdd, Int.reduceSub, Int.reduceNeg, Int.reduceMul, Int.reduceToNat, Nat.reduceSub, Nat.reduceMul, Nat.reduceLeDiff, Nat.reduceAdd, Nat.reduceLT, Nat.reduceEqDiff, reduceCtorEq, ↓reduceIte]
  | false =>
    simp (disch := omega) only [wk, tis, Int.reduceNe, Int.reduceEq, Int.reduceLT, Int.reduceLE, Int.reduceAdd, Int.reduceSub, Int.reduceNeg, Int.reduceMul, Int.reduceToNat, Nat.reduceSub, Nat.reduceMul, Nat.reduceLeDiff, Nat.reduceAdd, Nat.reduceLT, Nat.reduceEqDiff, reduceCtorEq, ↓reduceIte]
    refine call_by ((rdig_ok a ha (by omega))) (by rfl) (by simp) ?_
    simp (disch := omega) only [wk, tis, Int.reduceNe, Int.reduceEq, Int.reduceLT, Int.reduceLE, Int.reduceAdd, Int.reduceSub, Int.reduceNeg, Int.reduceMul, Int.reduceToNat, Nat.reduceSub, Nat.reduceMul, Nat.reduceLeDiff, Nat.reduceAdd, Nat.reduceLT, Nat.reduceEqDiff, reduceCtorEq, ↓reduceIte]
    refine call_by ((rdig_ok b hb (by omega))) (by rfl) (by simp) ?_
    simp (disch := omega) only [wk, tis, Int.reduceNe, Int.reduceEq, Int.reduceLT, Int.reduceLE, Int.reduceAdd, Int.reduceSub, Int.reduceNeg, Int.reduceMul, Int.reduceToNat, Nat.reduceSub, Nat.reduceMul, Nat.reduceLeDiff, Nat.reduceAdd, Nat.reduceLT, Nat.reduceEqDiff, reduceCtorEq, ↓reduceIte]
    have p := rtimes_ok (dgD (nv a)) (dgD (nv b)) (dgD_dig _) (dgD_dig _) (by omega) (by omega)
    rw [vl_dgD, vl_dgD] at p
    refine call_by (p) (by rfl) (by simp) ?_
    simp (disch := omega) only [wk, tis, Int.reduceNe, Int.reduceEq, Int.reduceLT, Int.reduceLE, Int.reduceAdd, Int.reduceSub, Int.reduceNeg, Int.reduceMul, Int.reduceToNat, Nat.reduceSub, Nat.reduceMul, Nat.reduceLeDiff, Nat.reduceAdd, Nat.reduceLT, Nat.reduceEqDiff, reduceCtorEq, ↓reduceIte]
    have hA := vlD_lt (dgD_dig (nv a))
    have hB := vlD_lt (dgD_dig (nv b))
    rw [vl_dgD] at hA hB
    have q := rnumber_ok (dn ((dgD (nv a)).length + (dgD (nv b)).length) (nv a * nv b)) (dn_dig _ _) (by rw [dn_len]; omega)
    have e : vl D16 (dn ((dgD (nv a)).length + (dgD (nv b)).length) (nv a * nv b)) = nv a * nv b := by
      rw [vl_dn, Nat.mod_eq_of_lt]
      rw [Nat.pow_add]
      exact Nat.mul_lt_mul'' hA hB
    rw [e] at q
    refine call_by (q) (by rfl) (by simp) ?_
    simp (disch := omega) only [wk, tis, Int.reduceNe, Int.reduceEq, Int.reduceLT, Int.reduceLE, Int.reduceAdd, Int.reduceSub, Int.reduceNeg, Int.reduceMul, Int.reduceToNat, Nat.reduceSub, Nat.reduceMul, Nat.reduceLeDiff, Nat.reduceAdd, Nat.reduceLT, Nat.reduceEqDiff, reduceCtorEq, ↓reduceIte]

theorem rAdd_ok (a b : RI) (ha : Sz (2 ^ 38) a) (hb : Sz (2 ^ 38) b) : AC Try.prog 67 [cr a, cr b] none [cz (iv a + iv b)] := by
  refine AC.by_walk (rs := [.cell 4 40]) ords Try.func67 (by rfl) (by rfl) (by rfl) (by rfl) (by rfl) ?_
  have hla := ha.1
  have hlb := hb.1
  simp (disch := omega) only [wk, tis, Int.reduceNe, Int.reduceEq, Int.reduceLT, Int.reduceLE, Int.reduceAdd, Int.reduceSub, Int.reduceNeg, Int.reduceMul, Int.reduceToNat, Nat.reduceSub, Nat.reduceMul, Nat.reduceLeDiff, Nat.reduceAdd, Nat.reduceLT, Nat.reduceEqDiff, reduceCtorEq, ↓reduceIte]
  refine if_bool (fun he => ?_) (fun he => ?_)
  · have he : a.1 = b.1 := by simpa using he
    rw [iv_add_same he]
    simp (disch := omega) only [wk, tis, Int.reduceNe, Int.reduceEq, Int.reduceLT, Int.reduceLE, Int.reduceAdd, Int.reduceSub, Int.reduceNeg, Int.reduceMul, Int.reduceToNat, Nat.reduceSub, Nat.reduceMul, Nat.reduceLeDiff, Nat.reduceAdd, Nat.reduceLT, Nat.reduceEqDiff, reduceCtorEq, ↓reduceIte]
    refine ⟨tmps_by (by kernel_rfl), ?_⟩
    refine call_by ((rPlus_ok a.2 b.2 ha.2 hb.2 hla hlb)) (by rfl) (by simp) ?_
    simp (disch := omega) only [wk, tis, Int.reduceNe, Int.reduceEq, Int.reduceLT, Int.reduceLE, Int.reduceAdd, Int.reduceSub, Int.reduceNeg, Int.reduceMul, Int.reduceToNat, Nat.reduceSub, Nat.reduceMul, Nat.reduceLeDiff, Nat.reduceAdd, Nat.reduceLT, Nat.reduceEqDiff, reduceCtorEq, ↓reduceIte]
    have l1 := wd_add_len (nv a.2) (nv b.2)
    have l2 := nv_len ha.2
    have l3 := nv_len hb.2
    have i1 := rI_ok a.1 (wd (nv a.2 + nv b.2)) (lim_wd _) (by omega)
    rw [nv_wd] at i1
    refine call_by (i1) (by rfl) (by simp) ?_
    simp (disch := omega) only [wk, tis, Int.reduceNe, Int.reduceEq, Int.reduceLT, Int.reduceLE, Int.reduceAdd, Int.reduceSub, Int.reduceNeg, Int.reduceMul, Int.reduceToNat, Nat.reduceSub, Nat.reduceMul, Nat.reduceLeDiff, Nat.reduceAdd, Nat.reduceLT, Nat.reduceEqDiff, reduceCtorEq, ↓reduceIte]
    first | exact log_by (by kernel_rfl) | refine ⟨log_by (by kernel_rfl), ?_⟩
  · have he : a.1 ≠ b.1 := by simpa using he
    simp (disch := omega) only [wk, tis, Int.reduceNe, Int.reduceEq, Int.reduceLT, Int.reduceLE, Int.reduceAdd, Int.reduceSub, Int.reduceNeg, Int.reduceMul, Int.reduceToNat, Nat.reduceSub, Nat.reduceMul, Nat.reduceLeDiff, Nat.reduceAdd, Nat.reduceLT, Nat.reduceEqDiff, reduceCtorEq, ↓reduceIte]
    refine call_by ((rcmp_ok a.2 b.2 ha.2 hb.2 (by omega) (by omega))) (by rfl) (by simp) ?_
    simp (disch := omega) only [wk, tis, Int.reduceNe, Int.reduceEq, Int.reduceLT, Int.reduceLE, Int.reduceAdd, Int.reduceSub, Int.reduceNeg, Int.reduceMul, Int.reduceToNat, Nat.reduceSub, Nat.reduceMul, Nat.reduceLeDiff, Nat.reduceAdd, Nat.reduceLT, Nat.reduceEqDiff, reduceCtorEq, ↓reduceIte]
    refine if_by (fun hc => ?_) (fun hc => ?_)
    · have hle : nv b.2 ≤ nv a.2 := by
        unfold cmpN at hc
        split at hc
        · omega
        · omega
      simp (disch := omega) only [wk, tis, Int.reduceNe, Int.reduceEq, Int.reduceLT, Int.reduceLE, Int.reduceAdd, Int.reduceSub, Int.reduceNeg, Int.reduceMul, Int.reduceToNat, Nat.reduceSub, Nat.reduceMul, Nat.reduceLeDiff, Nat.reduceAdd, Nat.reduceLT, Nat.reduceEqDiff, reduceCtorEq, ↓reduceIte]
      refine ⟨tmps_by (by kernel_rfl), ?_⟩
      refine call_by ((rMinus_ok a.2 b.2 ha.2 hb.2 hla hlb hle)) (by rfl) (by simp) ?_
      simp (disch := omega) only [wk, tis, Int.reduceNe, Int.reduceEq, Int.reduceLT, Int.reduceLE, Int.reduceAdd, Int.reduceSub, Int.reduceNeg, Int.reduceMul, Int.reduceToNat, Nat.reduceSub, Nat.reduceMul, Nat.reduceLeDiff, Nat.reduceAdd, Nat.reduceLT, Nat.reduceEqDiff, reduceCtorEq, ↓reduceIte]
      have l2 := nv_len ha.2
      have l4 := wd_len_mono (Nat.sub_le (nv a.2) (nv b.2))
      have i1 := rI_ok a.1 (wd (nv a.2 - nv b.2)) (lim_wd _) (by omega)
      rw [nv_wd] at i1
      have e : sg a.1 (nv a.2 - nv b.2) = iv a + iv b := by
        rw [iv_eq_sg, iv_eq_sg]
        unfold sg
        cases h1 : a.1 <;> cases h2 : b.1 <;> simp_all <;> omega
      rw [e] at i1
      refine call_by (i1) (by rfl) (by simp) ?_
      simp (disch := omega) only [wk, tis, Int.reduceNe, Int.reduceEq, Int.reduceLT, Int.reduceLE, Int.reduceAdd, Int.reduceSub, Int.reduceNeg, Int.reduceMul, Int.reduceToNat, Nat.reduceSub, Nat.reduceMul, Nat.reduceLeDiff, Nat.reduceAdd, Nat.reduceLT, Nat.reduceEqDiff, reduceCtorEq, ↓reduceIte]
      first | exact log_by (by kernel_rfl) | refine ⟨log_by (by kernel_rfl), ?_⟩
    · have hle : nv a.2 ≤ nv b.2 := by
        unfold cmpN at hc
        split at hc
        · omega
        · split at hc <;> omega
      simp (disch := omega) only [wk, tis, Int.reduceNe, Int.reduceEq, Int.reduceLT, Int.reduceLE, Int.reduceAdd, Int.reduceSub, Int.reduceNeg, Int.reduceMul, Int.reduceToNat, Nat.reduceSub, Nat.reduceMul, Nat.reduceLeDiff, Nat.reduceAdd, Nat.reduceLT, Nat.reduceEqDiff, reduceCtorEq, ↓reduceIte]
      refine ⟨tmps_by (by kernel_rfl), ?_⟩
      refine call_by ((rMinus_ok b.2 a.2 hb.2 ha.2 hlb hla hle)) (by rfl) (by simp) ?_
      simp (disch := omega) only [wk, tis, Int.reduceNe, Int.reduceEq, Int.reduceLT, Int.reduceLE, Int.reduceAdd, Int.reduceSub, Int.reduceNeg, Int.reduceMul, Int.reduceToNat, Nat.reduceSub, Nat.reduceMul, Nat.reduceLeDiff, Nat.reduceAdd, Nat.reduceLT, Nat.reduceEqDiff, reduceCtorEq, ↓reduceIte]
      have l2 := nv_len hb.2
      have l4 := wd_len_mono (Nat.sub_le (nv b.2) (nv a.2))
      have i1 := rI_ok b.1 (wd (nv b.2 - nv a.2)) (lim_wd _) (by omega)
      rw [nv_wd] at i1
      have e : sg b.1 (nv b.2 - nv a.2) = iv a + iv b := by
        rw [iv_eq_sg, iv_eq_sg]
        unfold sg
        cases h1 : a.1 <;> cases h2 : b.1 <;> simp_all <;> omega
      rw [e] at i1
      refine call_by (i1) (by rfl) (by simp) ?_
      simp (disch := omega) only [wk, tis, Int.reduceNe, Int.reduceEq, Int.reduceLT, Int.reduceLE, Int.reduceAdd, Int.reduceSub, Int.reduceNeg, Int.reduceMul, Int.reduceToNat, Nat.reduceSub, Nat.reduceMul, Nat.reduceLeDiff, Nat.reduceAdd, Nat.reduceLT, Nat.reduceEqDiff, reduceCtorEq, ↓reduceIte]
      first | exact log_by (by kernel_rfl) | refine ⟨log_by (by kernel_rfl), ?_⟩

theorem rMul_ok (a b : RI) (ha : Sz (2 ^ 37) a) (hb : Sz (2 ^ 37) b) : AC Try.prog 68 [cr a, cr b] none [cz (iv a * iv b)] := by
  refine AC.by_walk (rs := [.cell 4 40]) ords Try.func68 (by rfl) (by rfl) (by rfl) (by rfl) (by rfl) ?_
  have hla := ha.1
  have hlb := hb.1
  simp (disch := omega) only [wk, tis, Int.reduceNe, Int.reduceEq, Int.reduceLT, Int.reduceLE, Int.reduceAdd, Int.reduceSub, Int.reduceNeg, Int.reduceMul, Int.reduceToNat, Nat.reduceSub, Nat.reduceMul, Nat.reduceLeDiff, Nat.reduceAdd, Nat.reduceLT, Nat.reduceEqDiff, reduceCtorEq, ↓reduceIte]
  refine ⟨tmps_by (by kernel_rfl), ?_⟩
  refine call_by ((rTimes_ok a.2 b.2 ha.2 hb.2 hla hlb)) (by rfl) (by simp) ?_
  simp (disch := omega) only [wk, tis, Int.reduceNe, Int.reduceEq, Int.reduceLT, Int.reduceLE, Int.reduceAdd, Int.reduceSub, Int.reduceNeg, Int.reduceMul, Int.reduceToNat, Nat.reduceSub, Nat.reduceMul, Nat.reduceLeDiff, Nat.reduceAdd, Nat.reduceLT, Nat.reduceEqDiff, reduceCtorEq, ↓reduceIte]
  have l1 := wd_mul_len (nv a.2) (nv b.2)
  have l2 := nv_len ha.2
  have l3 := nv_len hb.2
  have i1 := rI_ok (a.1 != b.1) (wd (nv a.2 * nv b.2)) (lim_wd _) (by omega)
  rw [nv_wd, ← iv_mul] at i1
  refine call_by (i1) (by rfl) (by simp) ?_
  simp (disch := omega) only [wk, tis, Int.reduceNe, Int.reduceEq, Int.reduceLT, Int.reduceLE, Int.reduceAdd, Int.reduceSub, Int.reduceNeg, Int.reduceMul, Int.reduceToNat, Nat.reduceSub, Nat.reduceMul, Nat.reduceLeDiff, Nat.reduceAdd, Nat.reduceLT, Nat.reduceEqDiff, reduceCtorEq, ↓reduceIte]
  first | exact log_by (by kernel_rfl) | refine ⟨log_by (by kernel_rfl), ?_⟩

end Go.Proofs.Ythgecppfgdadiaa
