/-
  Contracts of the functions that the law reaches.
-/
import Derived.Test.YthgecppfgdadiaaL30
import Derived.Test.YthgecppfgdadiaaAbsX
namespace Go.Proofs.Ythgecppfgdadiaa
open Go Go.Proofs Go.AL
set_option linter.unusedSimpArgs false
set_option linter.unusedVariables false

theorem lz64_ok (x : Nat) (hx : x < W) : AC Try.prog 185 [cu x] none [ci (64 - bl x : Nat)] := by
  refine AC.by_walk (rs := [.tmp 2]) ords Try.func185 (by rfl) (by rfl) (by rfl) (by rfl) (by rfl) ?_
  have hb : bl x ≤ 64 := bl_le.mpr hx
  have e : (64 : Int) - (bl x : Int) = ((64 - bl x : Nat) : Int) := by omega
  simp (disch := omega) only [wk, tis, Int.reduceNe, Int.reduceEq, Int.reduceLT, Int.reduceLE, Int.reduceAdd, Int.reduceSub, Int.reduceNeg, Int.reduceMul, Int.reduceToNat, Nat.reduceSub, Nat.reduceMul, Nat.reduceLeDiff, Nat.reduceAdd, Nat.reduceLT, Nat.reduceEqDiff, reduceCtorEq, ↓reduceIte]
  refine call_by ((len64_ok x hx)) (by rfl) (by simp) ?_
  simp (disch := omega) only [wk, tis, Int.reduceNe, Int.reduceEq, Int.reduceLT, Int.reduceLE, Int.reduceAdd, Int.reduceSub, Int.reduceNeg, Int.reduceMul, Int.reduceToNat, Nat.reduceSub, Nat.reduceMul, Nat.reduceLeDiff, Nat.reduceAdd, Nat.reduceLT, Nat.reduceEqDiff, reduceCtorEq, ↓reduceIte]
  rw [e]

theorem shl_mod (x m : Nat) (hm : m ≤ 64) : IntKind.u64.wrap ((x : Int) * 2 ^ min m IntKind.u64.bits) = ((x * 2 ^ m % W : Nat) : Int) := by
  rw [show min m IntKind.u64.bits = m from Nat.min_eq_left (by simp only [IntKind.bits]; omega)]
  have := wrap_mul_mod x (2 ^ m)
  rw [← this]
  congr 2

theorem or_add (a b m : Nat) (hb : b < 2 ^ m) (h : a * 2 ^ m + b < W) : IntKind.u64.wrap ((BitVec.ofInt IntKind.u64.bits ((a * 2 ^ m : Nat) : Int) ||| BitVec.ofInt IntKind.u64.bits (b : Int)).toNat : Int) = ((a * 2 ^ m + b : Nat) : Int) := by
  have h1 : (BitVec.ofInt 64 ((a * 2 ^ m : Nat) : Int) ||| BitVec.ofInt 64 (b : Int)).toNat = a * 2 ^ m + b := by
    have e1 : ∀ z : Nat, BitVec.ofInt 64 (z : Int) = BitVec.ofNat 64 z := fun z => by simp
    rw [e1, e1, BitVec.toNat_or, BitVec.toNat_ofNat, BitVec.toNat_ofNat]
    rw [Nat.mod_eq_of_lt (show a * 2 ^ m < 2 ^ 64 by simp only [W] at h; omega), Nat.mod_eq_of_lt (show b < 2 ^ 64 by simp only [W] at h; omega)]
    rw [← Nat.shiftLeft_eq, Nat.shiftLeft_add_eq_or_of_lt hb]
  show IntKind.u64.wrap ((BitVec.ofInt 64 ((a * 2 ^ m : Nat) : Int) ||| BitVec.ofInt 64 (b : Int)).toNat : Int) = _
  rw [h1, wrap_nat h]

theorem wrap_sub_mod (m n : Nat) (hn : n ≤ m) : IntKind.u64.wrap ((m % W : Nat) - (n % W : Nat) : Int) = (((m - n) % W : Nat) : Int) := by
  simp only [IntKind.wrap, IntKind.signed, IntKind.bits, Bool.false_and, Bool.false_eq_true, if_false]
  simp only [W]
  omega

theorem wrap_add_mod (m n : Nat) : IntKind.u64.wrap ((m % W : Nat) + (n : Nat) : Int) = (((m + n) % W : Nat) : Int) := by
  simp only [IntKind.wrap, IntKind.signed, IntKind.bits, Bool.false_and, Bool.false_eq_true, if_false]
  simp only [W]
  omega

theorem tdiv_nat (a b : Nat) : ((a : Int)).tdiv (b : Int) = ((a / b : Nat) : Int) := by rw [Int.tdiv_eq_ediv_of_nonneg (by omega)]; rfl

theorem tmod_nat (a b : Nat) : ((a : Int)).tmod (b : Int) = ((a % b : Nat) : Int) := by rw [Int.tmod_eq_emod_of_nonneg (by omega)]; rfl

/-- The shift that makes the highest bit 1. -/
theorem norm_shift {y : Nat} (h0 : y ≠ 0) (hy : y < W) : 64 - bl y ≤ 63 ∧ y * 2 ^ (64 - bl y) < W ∧ 9223372036854775808 ≤ y * 2 ^ (64 - bl y) := by
  have hb : bl y ≤ 64 := bl_le.mpr hy
  have hb0 : 1 ≤ bl y := by
    rcases Nat.eq_zero_or_pos (bl y) with h | h
    · have := bl_le.mp (Nat.le_of_eq h); omega
    · exact h
  have h1 : y < 2 ^ bl y := bl_le.mp (Nat.le_refl _)
  have h2 : 2 ^ (bl y - 1) ≤ y := by
    rcases Nat.lt_or_ge y (2 ^ (bl y - 1)) with h | h
    · have := bl_le.mpr h; omega
    · exact h
  have e1 : 2 ^ bl y * 2 ^ (64 - bl y) = 18446744073709551616 := by rw [← Nat.pow_add, show bl y + (64 - bl y) = 64 by omega]
  have e2 : 2 ^ (bl y - 1) * 2 ^ (64 - bl y) = 9223372036854775808 := by rw [← Nat.pow_add, show bl y - 1 + (64 - bl y) = 63 by omega]
  refine ⟨by omega, ?_, ?_⟩
  · rw [show W = 18446744073709551616 from rfl, ← e1]
    exact (Nat.mul_lt_mul_right (Nat.pow_pos (by decide))).mpr h1
  · rw [← e2]; exact Nat.mul_le_mul_right _ h2

/-- Two words, shifted. -/
theorem two_shift {hi lo s : Nat} (hs : s ≤ 64) (hl : lo < W) : (hi * W + lo) * 2 ^ s = (hi * 2 ^ s + lo / 2 ^ (64 - s)) * W + lo * 2 ^ s % W ∧ lo / 2 ^ (64 - s) < 2 ^ s := by
  have e : W = 2 ^ (64 - s) * 2 ^ s := by rw [← Nat.pow_add, Nat.sub_add_cancel hs]
  have h1 : lo * 2 ^ s / W = lo / 2 ^ (64 - s) := by
    rw [e, Nat.mul_div_mul_right _ _ (Nat.pow_pos (by decide))]
  have h2 := Nat.div_add_mod (lo * 2 ^ s) W
  rw [h1] at h2
  constructor
  · rw [Nat.add_mul, Nat.add_mul, Nat.mul_right_comm hi, Nat.mul_comm (lo / 2 ^ (64 - s))]; omega
  · rw [Nat.div_lt_iff_lt_mul (Nat.pow_pos (by decide)), Nat.mul_comm, ← e]; exact hl

theorem two_digits (U u1 u0 : Nat) : U * W + (u1 * B32 + u0) = (U * B32 + u1) * B32 + u0 := by
  simp only [B32, W]
  omega

theorem div64_ok (hi lo y : Nat) (hh : hi < y) (hl : lo < W) (hy : y < W) : AC Try.prog 191 [cu hi, cu lo, cu y] none [cu ((hi * W + lo) / y), cu ((hi * W + lo) % y)] := by
  refine AC.by_walk (rs := [.tmp 6, .tmp 7]) ords Try.func191 (by rfl) (by rfl) (by rfl) (by rfl) (by rfl) ?_
  have h1 : ¬ (y : Int) = 0 := by omega
  have h2 : ¬ (y : Int) ≤ hi := by omega
  by_cases h0 : hi = 0
  · subst h0
    have h2' : ¬ (y : Int) ≤ 0 := by omega
    have g1 : lo / y < W := Nat.lt_of_le_of_lt (Nat.div_le_self _ _) hl
    have g2 : lo % y < W := Nat.lt_of_le_of_lt (Nat.mod_le _ _) hl
    simp (disch := omega) only [wk, tis, Int.reduceNe, Int.reduceEq, Int.reduceLT, Int.reduceLE, Int.reduceAdd, Int.reduceSub, Int.reduceNeg, Int.reduceMul, Int.reduceToNat, Nat.reduceSub, Nat.reduceMul, Nat.reduceLeDiff, Nat.reduceAdd, Nat.reduceLT, Nat.reduceEqDiff, reduceCtorEq, ↓reduceIte, h1, h2']
    refine ⟨tmps_by (by kernel_rfl), ?_⟩
    simp (disch := omega) only [wk, tis, Int.reduceNe, Int.reduceEq, Int.reduceLT, Int.reduceLE, Int.reduceAdd, Int.reduceSub, Int.reduceNeg, Int.reduceMul, Int.reduceToNat, Nat.reduceSub, Nat.reduceMul, Nat.reduceLeDiff, Nat.reduceAdd, Nat.reduceLT, Nat.reduceEqDiff, reduceCtorEq, ↓reduceIte, tdiv_nat, tmod_nat, wrap_nat g1, wrap_nat g2]
    first | exact log_by (by kernel_rfl) | refine ⟨log_by (by kernel_rfl), ?_⟩
  have h0' : ¬ (hi : Int) = 0 := by omega
  simp (disch := omega) only [wk, tis, Int.reduceNe, Int.reduceEq, Int.reduceLT, Int.reduceLE, Int.reduceAdd, Int.reduceSub, Int.reduceNeg, Int.reduceMul, Int.reduceToNat, Nat.reduceSub, Nat.reduceMul, Nat.reduceLeDiff, Nat.reduceAdd, Nat.reduceLT, Nat.reduceEqDiff, reduceCtorEq, ↓reduceIte, h1, h2, h0']
  refine call_by ((lz64_ok y hy)) (by first | rfl | (simp only [tocvs, tocv, h1, h2, h0']; rfl)) (by simp) ?_
  simp (disch := omega) only [wk, tis, Int.reduceNe, Int.reduceEq, Int.reduceLT, Int.reduceLE, Int.reduceAdd, Int.reduceSub, Int.reduceNeg, Int.reduceMul, Int.reduceToNat, Nat.reduceSub, Nat.reduceMul, Nat.reduceLeDiff, Nat.reduceAdd, Nat.reduceLT, Nat.reduceEqDiff, reduceCtorEq, ↓reduceIte, h1, h2, h0']
  obtain ⟨hs63, hYW, hYn⟩ := norm_shift (y := y) (by omega) hy
  have hts := two_shift (hi := hi) (lo := lo) (s := 64 - bl y) (by omega) hl
  generalize 64 - bl y = s at *
  have hws : IntKind.u64.wrap (s : Int) = (s : Int) := wrap_nat (by simp only [W]; omega)
  have hY := shl_mod y s (by omega)
  rw [Nat.mod_eq_of_lt hYW] at hY
  have hUY : hi * 2 ^ s + lo / 2 ^ (64 - s) < y * 2 ^ s := by
    have := Nat.mul_le_mul_right (2 ^ s) hh
    rw [Nat.succ_mul] at this
    omega
  have hhs := shl_mod hi s (by omega)
  rw [Nat.mod_eq_of_lt (Nat.lt_of_le_of_lt (Nat.le_add_right _ _) (Nat.lt_trans hUY hYW))] at hhs
  have h64 : IntKind.u64.wrap (64 - (s : Int)) = ((64 - s : Nat) : Int) := by rw [show (64 : Int) - s = ((64 - s : Nat) : Int) by omega]; exact wrap_nat (by simp only [W]; omega)
  have hor := or_add hi (lo / 2 ^ (64 - s)) s hts.2 (by omega)
  have hlos := shl_mod lo s (by omega)
  have hsr := shr_nat lo (64 - s) (by omega)
  obtain ⟨hts1, hts2⟩ := hts
  have hquo : (hi * W + lo) / y = (hi * W + lo) * 2 ^ s / (y * 2 ^ s) := (Nat.mul_div_mul_right _ _ (Nat.pow_pos (by decide))).symm
  have hrem : (hi * W + lo) * 2 ^ s % (y * 2 ^ s) = (hi * W + lo) % y * 2 ^ s := by rw [Nat.mul_mod_mul_right]
  rw [hts1] at hquo hrem
  generalize hU : hi * 2 ^ s + lo / 2 ^ (64 - s) = U at *
  generalize hL : lo * 2 ^ s % W = L at *
  have hLW : L < W := by rw [← hL]; exact Nat.mod_lt _ (by decide)
  simp (disch := omega) only [wk, tis, Int.reduceNe, Int.reduceEq, Int.reduceLT, Int.reduceLE, Int.reduceAdd, Int.reduceSub, Int.reduceNeg, Int.reduceMul, Int.reduceToNat, Nat.reduceSub, Nat.reduceMul, Nat.reduceLeDiff, Nat.reduceAdd, Nat.reduceLT, Nat.reduceEqDiff, reduceCtorEq, ↓reduceIte, hws, hY]
  generalize hYY : y * 2 ^ s = Y at *
  have s1 := shr_32 Y
  have a1 := and_low32 Y hYW
  have s2 := shr_32 L
  have a2 := and_low32 L hLW
  simp (disch := omega) only [wk, tis, Int.reduceNe, Int.reduceEq, Int.reduceLT, Int.reduceLE, Int.reduceAdd, Int.reduceSub, Int.reduceNeg, Int.reduceMul, Int.reduceToNat, Nat.reduceSub, Nat.reduceMul, Nat.reduceLeDiff, Nat.reduceAdd, Nat.reduceLT, Nat.reduceEqDiff, reduceCtorEq, ↓reduceIte, s1, a1, hhs, h64, hsr, hor, hlos, s2, a2]
  obtain ⟨y1, hy1⟩ : ∃ y1, Y / 4294967296 = y1 := ⟨_, rfl⟩
  obtain ⟨y0, hy0⟩ : ∃ y0, Y % 4294967296 = y0 := ⟨_, rfl⟩
  obtain ⟨u1, hu1⟩ : ∃ u1, L / 4294967296 = u1 := ⟨_, rfl⟩
  obtain ⟨u0, hu0⟩ : ∃ u0, L % 4294967296 = u0 := ⟨_, rfl⟩
  have eY : Y = y1 * B32 + y0 := by simp only [B32]; omega
  have eL : L = u1 * B32 + u0 := by simp only [B32]; omega
  have b1 : 2147483648 ≤ y1 := by omega
  have b1' : y1 < B32 := by simp only [W, B32] at *; omega
  have b0 : y0 < B32 := by simp only [B32]; omega
  have c1 : u1 < B32 := by simp only [W, B32] at *; omega
  have c0 : u0 < B32 := by simp only [B32]; omega
  rw [hy1, hy0, hu1, hu0]
  clear s1 a1 s2 a2 hhs h64 hsr hor hlos hws hY hts2 hy1 hy0 hu1 hu0
  have hg := digit_guess (u := U) (u1 := u1) b1 b0 (by rw [← eY]; exact hUY) c1
  have hD1 := digit_lt (y := Y) hUY c1
  refine block_loop_cut (fun f H => f 15 = .iv (.int .u64 ((U * B32 + u1) / Y : Nat)) ∧ f 2 = .iv (.int .u64 Y) ∧ f 8 = .iv (.int .u64 s) ∧ f 9 = .iv (.int .u64 y1) ∧ f 10 = .iv (.int .u64 y0) ∧ f 11 = .iv (.int .u64 U) ∧ f 13 = .iv (.int .u64 u1) ∧ f 14 = .iv (.int .u64 u0)) ?_ ?_
  · have m1 : IntKind.u64.wrap (((U / y1 : Nat) : Int) * (y1 : Int)) = ((U / y1 * y1 : Nat) : Int) := wrap_mul_nat (Nat.lt_of_le_of_lt (Nat.div_mul_le_self _ _) (Nat.lt_trans hUY hYW))
    have m2 : (U : Int) - ((U / y1 * y1 : Nat) : Int) = ((U % y1 : Nat) : Int) := by
      have := Nat.div_add_mod U y1
      rw [Nat.mul_comm] at this
      omega
    have m3 : U % y1 < B32 := Nat.lt_trans (Nat.mod_lt _ (by omega)) b1'
    have m4 : IntKind.u64.wrap ((U % y1 : Nat) : Int) = ((U % y1 : Nat) : Int) := wrap_nat (by simp only [B32, W] at *; omega)
    have m5 : IntKind.u64.wrap ((U / y1 : Nat) : Int) = ((U / y1 : Nat) : Int) := wrap_nat (by simp only [B32, W] at *; omega)
    have m6 : U / y1 * y1 + U % y1 = U := by have := Nat.div_add_mod U y1; rw [Nat.mul_comm] at this; exact this
    rw [← eY] at hg
    refine aloop_by (fun f H => ∃ (q r : Nat), q * y1 + r = U ∧ (U * B32 + u1) / Y ≤ q ∧ r < B32 ∧ q ≤ B32 + 1 ∧ f 15 = .iv (.int .u64 q) ∧ f 16 = .iv (.int .u64 r) ∧ f 2 = .iv (.int .u64 Y) ∧ f 8 = .iv (.int .u64 s) ∧ f 9 = .iv (.int .u64 y1) ∧ f 10 = .iv (.int .u64 y0) ∧ f 11 = .iv (.int .u64 U) ∧ f 13 = .iv (.int .u64 u1) ∧ f 14 = .iv (.int .u64 u0)) (fun f H => (intAt f 15).toNat) ?_ ?_
    · refine ⟨U / y1, U % y1, m6, hg.1, m3, hg.2, ?_⟩
      simp (disch := omega) only [wk, tis, Int.reduceNe, Int.reduceEq, Int.reduceLT, Int.reduceLE, Int.reduceAdd, Int.reduceSub, Int.reduceNeg, Int.reduceMul, Int.reduceToNat, Nat.reduceSub, Nat.reduceMul, Nat.reduceLeDiff, Nat.reduceAdd, Nat.reduceLT, Nat.reduceEqDiff, reduceCtorEq, ↓reduceIte, tdiv_nat, m1, m2, m4, m5]
    rintro f H ⟨q, r, he, hq, hr, hqB, hF⟩
    rw [intAt_of hF.1]
    simp (disch := omega) only [wk, tis, Int.reduceNe, Int.reduceEq, Int.reduceLT, Int.reduceLE, Int.reduceAdd, Int.reduceSub, Int.reduceNeg, Int.reduceMul, Int.reduceToNat, Nat.reduceSub, Nat.reduceMul, Nat.reduceLeDiff, Nat.reduceAdd, Nat.reduceLT, Nat.reduceEqDiff, reduceCtorEq, ↓reduceIte, hF]
    have hqB' : q ≤ 4294967297 := hqB
    have hr' : r < 4294967296 := hr
    have hb1 : y1 < 4294967296 := b1'
    have hb0 : y0 < 4294967296 := b0
    have hcu : u1 < 4294967296 := c1
    rw [eY] at hq hD1
    have hw1 : 0 < q → IntKind.u64.wrap ((q : Int) - 1) = ((q - 1 : Nat) : Int) := fun h => by
      rw [show (q : Int) - 1 = ((q - 1 : Nat) : Int) by omega]; exact wrap_nat (by simp only [W]; omega)
    have hw2 : IntKind.u64.wrap ((r : Int) + (y1 : Int)) = ((r + y1 : Nat) : Int) := wrap_add_nat (by simp only [W]; omega)
    have he' : 0 < q → (q - 1) * y1 + (r + y1) = U := fun h => by
      obtain ⟨k, rfl⟩ : ∃ k, q = k + 1 := ⟨q - 1, by omega⟩
      rw [Nat.add_sub_cancel, ← he, Nat.succ_mul]; omega
    have hout : 0 < q → (U * B32 + u1) / (y1 * B32 + y0) ≤ q - 1 → 4294967296 ≤ r + y1 → q - 1 = (U * B32 + u1) / (y1 * B32 + y0) := fun h h' h'' => by
      refine digit_right (he' h) h' (by omega) ?_
      have g1 : (q - 1) * y0 ≤ 4294967296 * y0 := Nat.mul_le_mul_right _ (by omega)
      have g2 : 4294967296 * y0 ≤ 4294967296 * (r + y1) := Nat.mul_le_mul_left _ (by omega)
      simp only [B32]
      omega
    by_cases hqb : 4294967296 ≤ (q : Int)
    · have hq0 : 0 < q := by omega
      have hl : (U * B32 + u1) / (y1 * B32 + y0) ≤ q - 1 := by simp only [B32] at *; omega
      simp (disch := omega) only [wk, tis, Int.reduceNe, Int.reduceEq, Int.reduceLT, Int.reduceLE, Int.reduceAdd, Int.reduceSub, Int.reduceNeg, Int.reduceMul, Int.reduceToNat, Nat.reduceSub, Nat.reduceMul, Nat.reduceLeDiff, Nat.reduceAdd, Nat.reduceLT, Nat.reduceEqDiff, reduceCtorEq, ↓reduceIte, hF, hqb, hw1 hq0, hw2]
      refine if_by (fun hbr => ?_) (fun hbr => ?_)
      · simp (disch := omega) only [wk, tis, Int.reduceNe, Int.reduceEq, Int.reduceLT, Int.reduceLE, Int.reduceAdd, Int.reduceSub, Int.reduceNeg, Int.reduceMul, Int.reduceToNat, Nat.reduceSub, Nat.reduceMul, Nat.reduceLeDiff, Nat.reduceAdd, Nat.reduceLT, Nat.reduceEqDiff, reduceCtorEq, ↓reduceIte, hF]
        rw [hout hq0 hl (by omega), eY]
      · simp (disch := omega) only [wk, tis, Int.reduceNe, Int.reduceEq, Int.reduceLT, Int.reduceLE, Int.reduceAdd, Int.reduceSub, Int.reduceNeg, Int.reduceMul, Int.reduceToNat, Nat.reduceSub, Nat.reduceMul, Nat.reduceLeDiff, Nat.reduceAdd, Nat.reduceLT, Nat.reduceEqDiff, reduceCtorEq, ↓reduceIte, hF]
        exact ⟨⟨q - 1, r + y1, he' hq0, by rw [eY]; exact hl, by simp only [B32]; omega, by simp only [B32]; omega, rfl, rfl⟩, by omega⟩
    have g3 : q * y0 ≤ 4294967295 * 4294967295 := Nat.mul_le_mul (by omega) (by omega)
    have w1 : IntKind.u64.wrap (4294967296 * (r : Int)) = ((4294967296 * r : Nat) : Int) := wrap_mul_nat (m := 4294967296) (by simp only [W]; omega)
    have w2 : IntKind.u64.wrap (((4294967296 * r : Nat) : Int) + (u1 : Int)) = ((4294967296 * r + u1 : Nat) : Int) := wrap_add_nat (by simp only [W]; omega)
    have w3 : IntKind.u64.wrap ((q : Int) * (y0 : Int)) = ((q * y0 : Nat) : Int) := wrap_mul_nat (by simp only [W]; omega)
    by_cases hcm : ((4294967296 * r + u1 : Nat) : Int) < ((q * y0 : Nat) : Int)
    · obtain ⟨hl, hq0⟩ := digit_less he hq (by omega) (by simp only [B32]; omega)
      simp (disch := omega) only [wk, tis, Int.reduceNe, Int.reduceEq, Int.reduceLT, Int.reduceLE, Int.reduceAdd, Int.reduceSub, Int.reduceNeg, Int.reduceMul, Int.reduceToNat, Nat.reduceSub, Nat.reduceMul, Nat.reduceLeDiff, Nat.reduceAdd, Nat.reduceLT, Nat.reduceEqDiff, reduceCtorEq, ↓reduceIte, hF, hqb, w1, w2, w3, hcm, hw1 hq0, hw2]
      refine if_by (fun hbr => ?_) (fun hbr => ?_)
      · simp (disch := omega) only [wk, tis, Int.reduceNe, Int.reduceEq, Int.reduceLT, Int.reduceLE, Int.reduceAdd, Int.reduceSub, Int.reduceNeg, Int.reduceMul, Int.reduceToNat, Nat.reduceSub, Nat.reduceMul, Nat.reduceLeDiff, Nat.reduceAdd, Nat.reduceLT, Nat.reduceEqDiff, reduceCtorEq, ↓reduceIte, hF]
        rw [hout hq0 hl (by omega), eY]
      · simp (disch := omega) only [wk, tis, Int.reduceNe, Int.reduceEq, Int.reduceLT, Int.reduceLE, Int.reduceAdd, Int.reduceSub, Int.reduceNeg, Int.reduceMul, Int.reduceToNat, Nat.reduceSub, Nat.reduceMul, Nat.reduceLeDiff, Nat.reduceAdd, Nat.reduceLT, Nat.reduceEqDiff, reduceCtorEq, ↓reduceIte, hF]
        exact ⟨⟨q - 1, r + y1, he' hq0, by rw [eY]; exact hl, by simp only [B32]; omega, by simp only [B32]; omega, rfl, rfl⟩, by omega⟩
    · simp (disch := omega) only [wk, tis, Int.reduceNe, Int.reduceEq, Int.reduceLT, Int.reduceLE, Int.reduceAdd, Int.reduceSub, Int.reduceNeg, Int.reduceMul, Int.reduceToNat, Nat.reduceSub, Nat.reduceMul, Nat.reduceLeDiff, Nat.reduceAdd, Nat.reduceLT, Nat.reduceEqDiff, reduceCtorEq, ↓reduceIte, hF, hqb, w1, w2, w3, hcm]
      rw [digit_right he hq (by omega) (by simp only [B32]; omega), eY]
  · clear hg
    rintro f H hF
    obtain ⟨D1, hD⟩ : ∃ D1, (U * B32 + u1) / Y = D1 := ⟨_, rfl⟩
    obtain ⟨R1, hR⟩ : ∃ R1, (U * B32 + u1) % Y = R1 := ⟨_, rfl⟩
    have hdm : U * B32 + u1 = D1 * Y + R1 := by rw [← hD, ← hR]; exact (Nat.div_add_mod' _ _).symm
    have hRY : R1 < Y := by rw [← hR]; exact Nat.mod_lt _ (by omega)
    rw [hD] at hF hD1
    have hRW : R1 < W := Nat.lt_trans hRY hYW
    have v1 : IntKind.u64.wrap ((U : Int) * 4294967296) = ((U * 4294967296 % W : Nat) : Int) := wrap_mul_mod U 4294967296
    have v2 := wrap_add_mod (U * 4294967296) u1
    have v3 := wrap_mul_mod D1 Y
    have v4 := wrap_sub_mod (U * 4294967296 + u1) (D1 * Y) (by simp only [B32] at hdm; omega)
    rw [show U * 4294967296 + u1 - D1 * Y = R1 by simp only [B32] at hdm; omega, Nat.mod_eq_of_lt hRW] at v4
    have m1 : IntKind.u64.wrap (((R1 / y1 : Nat) : Int) * (y1 : Int)) = ((R1 / y1 * y1 : Nat) : Int) := wrap_mul_nat (Nat.lt_of_le_of_lt (Nat.div_mul_le_self _ _) hRW)
    have m2 : (R1 : Int) - ((R1 / y1 * y1 : Nat) : Int) = ((R1 % y1 : Nat) : Int) := by
      have := Nat.div_add_mod R1 y1
      rw [Nat.mul_comm] at this
      omega
    have m3 : R1 % y1 < B32 := Nat.lt_trans (Nat.mod_lt _ (by omega)) b1'
    have hg := digit_guess (u := R1) (u1 := u0) b1 b0 (by rw [← eY]; exact hRY) c0
    have hD0 := digit_lt (y := Y) hRY c0
    have m4 : IntKind.u64.wrap ((R1 % y1 : Nat) : Int) = ((R1 % y1 : Nat) : Int) := wrap_nat (by simp only [B32, W] at *; omega)
    have m5 : IntKind.u64.wrap ((R1 / y1 : Nat) : Int) = ((R1 / y1 : Nat) : Int) := wrap_nat (by simp only [B32, W] at *; omega)
    have m6 : R1 / y1 * y1 + R1 % y1 = R1 := by have := Nat.div_add_mod R1 y1; rw [Nat.mul_comm] at this; exact this
    rw [← eY] at hg
    simp (disch := omega) only [wk, tis, Int.reduceNe, Int.reduceEq, Int.reduceLT, Int.reduceLE, Int.reduceAdd, Int.reduceSub, Int.reduceNeg, Int.reduceMul, Int.reduceToNat, Nat.reduceSub, Nat.reduceMul, Nat.reduceLeDiff, Nat.reduceAdd, Nat.reduceLT, Nat.reduceEqDiff, reduceCtorEq, ↓reduceIte, hF, v1, v2, v3, v4, tdiv_nat, m1, m2, m4, m5]
    refine block_loop_cut (fun f H => f 18 = .iv (.int .u64 ((R1 * B32 + u0) / Y : Nat)) ∧ f 2 = .iv (.int .u64 Y) ∧ f 8 = .iv (.int .u64 s) ∧ f 14 = .iv (.int .u64 u0) ∧ f 15 = .iv (.int .u64 D1) ∧ f 17 = .iv (.int .u64 R1)) ?_ ?_
    · have hgo := hg
      refine aloop_by (fun f H => ∃ (q r : Nat), q * y1 + r = R1 ∧ (R1 * B32 + u0) / Y ≤ q ∧ r < B32 ∧ q ≤ B32 + 1 ∧ f 18 = .iv (.int .u64 q) ∧ f 16 = .iv (.int .u64 r) ∧ f 2 = .iv (.int .u64 Y) ∧ f 8 = .iv (.int .u64 s) ∧ f 9 = .iv (.int .u64 y1) ∧ f 10 = .iv (.int .u64 y0) ∧ f 14 = .iv (.int .u64 u0) ∧ f 15 = .iv (.int .u64 D1) ∧ f 17 = .iv (.int .u64 R1)) (fun f H => (intAt f 18).toNat) ?_ ?_
      · refine ⟨R1 / y1, R1 % y1, m6, hg.1, m3, hg.2, ?_⟩
        simp (disch := omega) only [wk, tis, Int.reduceNe, Int.reduceEq, Int.reduceLT, Int.reduceLE, Int.reduceAdd, Int.reduceSub, Int.reduceNeg, Int.reduceMul, Int.reduceToNat, Nat.reduceSub, Nat.reduceMul, Nat.reduceLeDiff, Nat.reduceAdd, Nat.reduceLT, Nat.reduceEqDiff, reduceCtorEq, ↓reduceIte, hF]
      rintro f H ⟨q, r, he, hq, hr, hqB, hF⟩
      rw [intAt_of hF.1]
      simp (disch := omega) only [wk, tis, Int.reduceNe, Int.reduceEq, Int.reduceLT, Int.reduceLE, Int.reduceAdd, Int.reduceSub, Int.reduceNeg, Int.reduceMul, Int.reduceToNat, Nat.reduceSub, Nat.reduceMul, Nat.reduceLeDiff, Nat.reduceAdd, Nat.reduceLT, Nat.reduceEqDiff, reduceCtorEq, ↓reduceIte, hF]
      have hqB' : q ≤ 4294967297 := hqB
      have hr' : r < 4294967296 := hr
      have hb1 : y1 < 4294967296 := b1'
      have hb0 : y0 < 4294967296 := b0
      have hcu : u0 < 4294967296 := c0
      rw [eY] at hq hD0
      have hw1 : 0 < q → IntKind.u64.wrap ((q : Int) - 1) = ((q - 1 : Nat) : Int) := fun h => by
        rw [show (q : Int) - 1 = ((q - 1 : Nat) : Int) by omega]; exact wrap_nat (by simp only [W]; omega)
      have hw2 : IntKind.u64.wrap ((r : Int) + (y1 : Int)) = ((r + y1 : Nat) : Int) := wrap_add_nat (by simp only [W]; omega)
      have he' : 0 < q → (q - 1) * y1 + (r + y1) = R1 := fun h => by
        obtain ⟨k, rfl⟩ : ∃ k, q = k + 1 := ⟨q - 1, by omega⟩
        rw [Nat.add_sub_cancel, ← he, Nat.succ_mul]; omega
      have hout : 0 < q → (R1 * B32 + u0) / (y1 * B32 + y0) ≤ q - 1 → 4294967296 ≤ r + y1 → q - 1 = (R1 * B32 + u0) / (y1 * B32 + y0) := fun h h' h'' => by
        refine digit_right (he' h) h' (by omega) ?_
        have g1 : (q - 1) * y0 ≤ 4294967296 * y0 := Nat.mul_le_mul_right _ (by omega)
        have g2 : 4294967296 * y0 ≤ 4294967296 * (r + y1) := Nat.mul_le_mul_left _ (by omega)
        simp only [B32]
        omega
      by_cases hqb : 4294967296 ≤ (q : Int)
      · have hq0 : 0 < q := by omega
        have hl : (R1 * B32 + u0) / (y1 * B32 + y0) ≤ q - 1 := by simp only [B32] at *; omega
        simp (disch := omega) only [wk, tis, Int.reduceNe, Int.reduceEq, Int.reduceLT, Int.reduceLE, Int.reduceAdd, Int.reduceSub, Int.reduceNeg, Int.reduceMul, Int.reduceToNat, Nat.reduceSub, Nat.reduceMul, Nat.reduceLeDiff, Nat.reduceAdd, Nat.reduceLT, Nat.reduceEqDiff, reduceCtorEq, ↓reduceIte, hF, hqb, hw1 hq0, hw2]
        refine if_by (fun hbr => ?_) (fun hbr => ?_)
        · simp (disch := omega) only [wk, tis, Int.reduceNe, Int.reduceEq, Int.reduceLT, Int.reduceLE, Int.reduceAdd, Int.reduceSub, Int.reduceNeg, Int.reduceMul, Int.reduceToNat, Nat.reduceSub, Nat.reduceMul, Nat.reduceLeDiff, Nat.reduceAdd, Nat.reduceLT, Nat.reduceEqDiff, reduceCtorEq, ↓reduceIte, hF]
          rw [hout hq0 hl (by omega), eY]
        · simp (disch := omega) only [wk, tis, Int.reduceNe, Int.reduceEq, Int.reduceLT, Int.reduceLE, Int.reduceAdd, Int.reduceSub, Int.reduceNeg, Int.reduceMul, Int.reduceToNat, Nat.reduceSub, Nat.reduceMul, Nat.reduceLeDiff, Nat.reduceAdd, Nat.reduceLT, Nat.reduceEqDiff, reduceCtorEq, ↓reduceIte, hF]
          exact ⟨⟨q - 1, r + y1, he' hq0, by rw [eY]; exact hl, by simp only [B32]; omega, by simp only [B32]; omega, rfl, rfl⟩, by omega⟩
      have g3 : q * y0 ≤ 4294967295 * 4294967295 := Nat.mul_le_mul (by omega) (by omega)
      have w1 : IntKind.u64.wrap (4294967296 * (r : Int)) = ((4294967296 * r : Nat) : Int) := wrap_mul_nat (m := 4294967296) (by simp only [W]; omega)
      have w2 : IntKind.u64.wrap (((4294967296 * r : Nat) : Int) + (u0 : Int)) = ((4294967296 * r + u0 : Nat) : Int) := wrap_add_nat (by simp only [W]; omega)
      have w3 : IntKind.u64.wrap ((q : Int) * (y0 : Int)) = ((q * y0 : Nat) : Int) := wrap_mul_nat (by simp only [W]; omega)
      by_cases hcm : ((4294967296 * r + u0 : Nat) : Int) < ((q * y0 : Nat) : Int)
      · obtain ⟨hl, hq0⟩ := digit_less he hq (by omega) (by simp only [B32]; omega)
        simp (disch := omega) only [wk, tis, Int.reduceNe, Int.reduceEq, Int.reduceLT, Int.reduceLE, Int.reduceAdd, Int.reduceSub, Int.reduceNeg, Int.reduceMul, Int.reduceToNat, Nat.reduceSub, Nat.reduceMul, Nat.reduceLeDiff, Nat.reduceAdd, Nat.reduceLT, Nat.reduceEqDiff, reduceCtorEq, ↓reduceIte, hF, hqb, w1, w2, w3, hcm, hw1 hq0, hw2]
        refine if_by (fun hbr => ?_) (fun hbr => ?_)
        · simp (disch := omega) only [wk, tis, Int.reduceNe, Int.reduceEq, Int.reduceLT, Int.reduceLE, Int.reduceAdd, Int.reduceSub, Int.reduceNeg, Int.reduceMul, Int.reduceToNat, Nat.reduceSub, Nat.reduceMul, Nat.reduceLeDiff, Nat.reduceAdd, Nat.reduceLT, Nat.reduceEqDiff, reduceCtorEq, ↓reduceIte, hF]
          rw [hout hq0 hl (by omega), eY]
        · simp (disch := omega) only [wk, tis, Int.reduceNe, Int.reduceEq, Int.reduceLT, Int.reduceLE, Int.reduceAdd, Int.reduceSub, Int.reduceNeg, Int.reduceMul, Int.reduceToNat, Nat.reduceSub, Nat.reduceMul, Nat.reduceLeDiff, Nat.reduceAdd, Nat.reduceLT, Nat.reduceEqDiff, reduceCtorEq, ↓reduceIte, hF]
          exact ⟨⟨q - 1, r + y1, he' hq0, by rw [eY]; exact hl, by simp only [B32]; omega, by simp only [B32]; omega, rfl, rfl⟩, by omega⟩
      · simp (disch := omega) only [wk, tis, Int.reduceNe, Int.reduceEq, Int.reduceLT, Int.reduceLE, Int.reduceAdd, Int.reduceSub, Int.reduceNeg, Int.reduceMul, Int.reduceToNat, Nat.reduceSub, Nat.reduceMul, Nat.reduceLeDiff, Nat.reduceAdd, Nat.reduceLT, Nat.reduceEqDiff, reduceCtorEq, ↓reduceIte, hF, hqb, w1, w2, w3, hcm]
        rw [digit_right he hq (by omega) (by simp only [B32]; omega), eY]
    · clear hg hF
      rintro f H hF
      obtain ⟨D0, hE⟩ : ∃ D0, (R1 * B32 + u0) / Y = D0 := ⟨_, rfl⟩
      obtain ⟨R0, hS⟩ : ∃ R0, (R1 * B32 + u0) % Y = R0 := ⟨_, rfl⟩
      have hdm0 : R1 * B32 + u0 = D0 * Y + R0 := by rw [← hE, ← hS]; exact (Nat.div_add_mod' _ _).symm
      have hRY0 : R0 < Y := by rw [← hS]; exact Nat.mod_lt _ (by omega)
      rw [hE] at hF hD0
      have hRW0 : R0 < W := Nat.lt_trans hRY0 hYW
      have eN : U * W + L = (D1 * B32 + D0) * Y + R0 := by
        have e1 : U * W + L = (U * B32 + u1) * B32 + u0 := by
          rw [eL]; exact two_digits U u1 u0
        rw [e1, hdm, Nat.add_mul, Nat.add_assoc, hdm0, Nat.add_mul, Nat.mul_right_comm D1 Y B32, Nat.add_assoc]
      have hq : (hi * W + lo) / y = D1 * 4294967296 + D0 := by
        rw [hquo, eN, Nat.mul_comm, Nat.mul_add_div (by omega), Nat.div_eq_of_lt hRY0, Nat.add_zero]
      have hr : (hi * W + lo) % y = R0 / 2 ^ s := by
        rw [eN, Nat.mul_comm, Nat.mul_add_mod, Nat.mod_eq_of_lt hRY0] at hrem
        rw [hrem, Nat.mul_div_cancel _ (Nat.pow_pos (by decide))]
      have hD1' : D1 < 4294967296 := hD1
      have hD0' : D0 < 4294967296 := hD0
      have p1 : IntKind.u64.wrap ((D1 : Int) * 4294967296) = ((D1 * 4294967296 : Nat) : Int) := wrap_mul_nat (n := 4294967296) (by simp only [W]; omega)
      have p2 : IntKind.u64.wrap (((D1 * 4294967296 : Nat) : Int) + (D0 : Int)) = ((D1 * 4294967296 + D0 : Nat) : Int) := wrap_add_nat (by simp only [W]; omega)
      have p3 : IntKind.u64.wrap ((R1 : Int) * 4294967296) = ((R1 * 4294967296 % W : Nat) : Int) := wrap_mul_mod R1 4294967296
      have p4 := wrap_add_mod (R1 * 4294967296) u0
      have p5 := wrap_mul_mod D0 Y
      have p6 := wrap_sub_mod (R1 * 4294967296 + u0) (D0 * Y) (by simp only [B32] at hdm0; omega)
      rw [show R1 * 4294967296 + u0 - D0 * Y = R0 by simp only [B32] at hdm0; omega, Nat.mod_eq_of_lt hRW0] at p6
      have p7 := shr_nat R0 s (by omega)
      rw [hq, hr]
      simp (disch := omega) only [wk, tis, Int.reduceNe, Int.reduceEq, Int.reduceLT, Int.reduceLE, Int.reduceAdd, Int.reduceSub, Int.reduceNeg, Int.reduceMul, Int.reduceToNat, Nat.reduceSub, Nat.reduceMul, Nat.reduceLeDiff, Nat.reduceAdd, Nat.reduceLT, Nat.reduceEqDiff, reduceCtorEq, ↓reduceIte, hF, p1, p2, p3, p4, p5, p6, p7]

end Go.Proofs.Ythgecppfgdadiaa
