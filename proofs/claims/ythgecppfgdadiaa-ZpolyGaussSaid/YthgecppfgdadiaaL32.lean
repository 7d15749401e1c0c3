/-
  Contracts of the functions that the law reaches.
-/
import Derived.Test.YthgecppfgdadiaaL31
namespace Go.Proofs.Ythgecppfgdadiaa
open Go Go.Proofs Go.AL
set_option linter.unusedSimpArgs false
set_option linter.unusedVariables false

theorem nv_drop_cons {l : List Nat} {j : Nat} (h : j < l.length) : nv (l.drop j) = l.getD j 0 + W * nv (l.drop (j + 1)) := by
  rw [List.drop_eq_getElem_cons h]
  have : l.getD j 0 = l[j] := by simp [List.getD, h]
  rw [this]; rfl

theorem drop_set_cons {l : List Nat} {j : Nat} (h : j < l.length) (x : Nat) : nv ((l.set j x).drop j) = x + W * nv (l.drop (j + 1)) := by
  rw [nv_drop_cons (by simpa using h), List.drop_set_of_lt (by omega)]
  congr 1
  simp [List.getD, h]

theorem word_div {r x w : Nat} (hr : r < w) (hx : x < W) : (r * W + x) / w < W := by
  rw [Nat.div_lt_iff_lt_mul (by omega)]
  have := Nat.mul_le_mul_right W hr
  rw [Nat.succ_mul, Nat.mul_comm w] at this
  omega

theorem divone_ok (a : List Nat) (w : Nat) (ha : Lim a) (hl : a.length ≤ 2 ^ 40) (hw0 : w ≠ 0) (hw : w < W) : AC Try.prog 184 [cl a, cu w] none [cl (pad a.length (nv a / w)), cu (nv a % w), ci 0] := by
  refine AC.by_walk (rs := [.tmp 4, .tmp 5, .tmp 6]) ords Try.func184 (by rfl) (by rfl) (by rfl) (by rfl) (by rfl) ?_
  have h0 : ¬ (w : Int) = 0 := by omega
  simp (disch := omega) only [wk, tis, Int.reduceNe, Int.reduceEq, Int.reduceLT, Int.reduceLE, Int.reduceAdd, Int.reduceSub, Int.reduceNeg, Int.reduceMul, Int.reduceToNat, Nat.reduceSub, Nat.reduceMul, Nat.reduceLeDiff, Nat.reduceAdd, Nat.reduceLT, Nat.reduceEqDiff, reduceCtorEq, ↓reduceIte, h0]
  refine aloop_by (fun f H => ∃ (k r st : Nat) (out : List Nat), k ≤ a.length ∧ r < w ∧ Lim out ∧ out.length = a.length ∧ nv (out.drop k) * w + r = nv (a.drop k) ∧ f 9 = .iv (.int .i64 ((k : Int) - 1)) ∧ f 0 = .iv (.sl (lims a)) ∧ f 1 = .iv (.int .u64 w) ∧ f 7 = .hs 14 st ∧ f 8 = .iv (.int .u64 r) ∧ H 14 = .blk false st 87 1 (lims out)) (fun f H => (intAt f 9 + 1).toNat) ?_ ?_
  · refine ⟨a.length, 0, 1, List.replicate a.length 0, by omega, by omega, Lim.replicate _, by simp, by simp [vl], ?_⟩
    simp (disch := omega) only [wk, tis, Int.reduceNe, Int.reduceEq, Int.reduceLT, Int.reduceLE, Int.reduceAdd, Int.reduceSub, Int.reduceNeg, Int.reduceMul, Int.reduceToNat, Nat.reduceSub, Nat.reduceMul, Nat.reduceLeDiff, Nat.reduceAdd, Nat.reduceLT, Nat.reduceEqDiff, reduceCtorEq, ↓reduceIte, Int.toNat_natCast]
  rintro f H ⟨k, r, st, out, hk, hr, hO, hOl, hv, hF⟩
  rw [intAt_of hF.1]
  simp (disch := omega) only [wk, tis, Int.reduceNe, Int.reduceEq, Int.reduceLT, Int.reduceLE, Int.reduceAdd, Int.reduceSub, Int.reduceNeg, Int.reduceMul, Int.reduceToNat, Nat.reduceSub, Nat.reduceMul, Nat.reduceLeDiff, Nat.reduceAdd, Nat.reduceLT, Nat.reduceEqDiff, reduceCtorEq, ↓reduceIte, hF]
  refine if_by (fun hlt => ?_) (fun hlt => ?_)
  · obtain ⟨j, rfl⟩ : ∃ j, k = j + 1 := ⟨k - 1, by omega⟩
    have ej : ((j + 1 : Nat) : Int) - 1 = (j : Int) := by omega
    rw [ej] at hF
    have hx := ha.get j
    simp (disch := omega) only [wk, tis, Int.reduceNe, Int.reduceEq, Int.reduceLT, Int.reduceLE, Int.reduceAdd, Int.reduceSub, Int.reduceNeg, Int.reduceMul, Int.reduceToNat, Nat.reduceSub, Nat.reduceMul, Nat.reduceLeDiff, Nat.reduceAdd, Nat.reduceLT, Nat.reduceEqDiff, reduceCtorEq, ↓reduceIte, hF]
    refine call_by ((div64_ok r (a.getD j 0) w hr hx hw)) (by first | rfl | (simp only [tocvs, tocv, hF]; rfl)) (by simp) ?_
    simp (disch := omega) only [wk, tis, Int.reduceNe, Int.reduceEq, Int.reduceLT, Int.reduceLE, Int.reduceAdd, Int.reduceSub, Int.reduceNeg, Int.reduceMul, Int.reduceToNat, Nat.reduceSub, Nat.reduceMul, Nat.reduceLeDiff, Nat.reduceAdd, Nat.reduceLT, Nat.reduceEqDiff, reduceCtorEq, ↓reduceIte, hF]
    have hq := word_div hr hx
    have hdm := Nat.div_add_mod (r * W + a.getD j 0) w
    generalize (r * W + a.getD j 0) / w = q at *
    have hr' : (r * W + a.getD j 0) % w < w := Nat.mod_lt _ (by omega)
    generalize (r * W + a.getD j 0) % w = r' at *
    refine ⟨⟨j, r', st, out.set j q, by omega, hr', hO.set hq, by simp [hOl], ?_, rfl, rfl, rfl, rfl⟩, by omega⟩
    rw [drop_set_cons (by omega), nv_drop_cons (l := a) (j := j) (by omega), ← hv, Nat.add_mul, Nat.mul_add, Nat.mul_assoc]
    rw [Nat.mul_comm w q, Nat.mul_comm r W] at hdm
    omega
  · simp (disch := omega) only [wk, tis, Int.reduceNe, Int.reduceEq, Int.reduceLT, Int.reduceLE, Int.reduceAdd, Int.reduceSub, Int.reduceNeg, Int.reduceMul, Int.reduceToNat, Nat.reduceSub, Nat.reduceMul, Nat.reduceLeDiff, Nat.reduceAdd, Nat.reduceLT, Nat.reduceEqDiff, reduceCtorEq, ↓reduceIte, hF]
    have : k = 0 := by omega
    subst this
    simp only [List.drop_zero] at hv
    have e1 : nv a / w = nv out := by
      rw [← hv, Nat.mul_comm, Nat.mul_add_div (by omega), Nat.div_eq_of_lt hr, Nat.add_zero]
    have e2 : nv a % w = r := by
      rw [← hv, Nat.mul_comm, Nat.mul_add_mod, Nat.mod_eq_of_lt hr]
    have h5 := nv_lt hO
    rw [hOl] at h5
    rw [e1, e2, ← eq_pad hO hOl (s := nv out) (Nat.mod_eq_of_lt h5).symm]
    exact ⟨rfl, rfl⟩

theorem dword_ok (a : List Nat) (w : Nat) (ha : Lim a) (hl : a.length ≤ 2 ^ 40) (hw0 : w ≠ 0) (hw : w < W) : AC Try.prog 179 [cl a, cu w] none [cl (wd (nv a / w)), cu (nv a % w), ci 0] := by
  refine AC.by_walk (rs := [.tmp 4, .tmp 5, .tmp 6]) ords Try.func179 (by rfl) (by rfl) (by rfl) (by rfl) (by rfl) ?_
  simp (disch := omega) only [wk, tis, Int.reduceNe, Int.reduceEq, Int.reduceLT, Int.reduceLE, Int.reduceAdd, Int.reduceSub, Int.reduceNeg, Int.reduceMul, Int.reduceToNat, Nat.reduceSub, Nat.reduceMul, Nat.reduceLeDiff, Nat.reduceAdd, Nat.reduceLT, Nat.reduceEqDiff, reduceCtorEq, ↓reduceIte]
  refine call_by ((divone_ok a w ha hl hw0 hw)) (by rfl) (by simp) ?_
  simp (disch := omega) only [wk, tis, Int.reduceNe, Int.reduceEq, Int.reduceLT, Int.reduceLE, Int.reduceAdd, Int.reduceSub, Int.reduceNeg, Int.reduceMul, Int.reduceToNat, Nat.reduceSub, Nat.reduceMul, Nat.reduceLeDiff, Nat.reduceAdd, Nat.reduceLT, Nat.reduceEqDiff, reduceCtorEq, ↓reduceIte]
  have := norm_ok (pad a.length (nv a / w)) (lim_pad _ _) (by rw [pad_len]; omega)
  have h5 := nv_lt ha
  have h6 := Nat.div_le_self (nv a) w
  rw [nv_pad, Nat.mod_eq_of_lt (by omega)] at this
  refine call_by (this) (by rfl) (by simp) ?_
  simp (disch := omega) only [wk, tis, Int.reduceNe, Int.reduceEq, Int.reduceLT, Int.reduceLE, Int.reduceAdd, Int.reduceSub, Int.reduceNeg, Int.reduceMul, Int.reduceToNat, Nat.reduceSub, Nat.reduceMul, Nat.reduceLeDiff, Nat.reduceAdd, Nat.reduceLT, Nat.reduceEqDiff, reduceCtorEq, ↓reduceIte]

/-- A number, shifted, in words. -/
def shlL (a : List Nat) (n : Nat) : List Nat := if n % 64 = 0 then List.replicate (n / 64) 0 ++ a else List.replicate (n / 64) 0 ++ pad (a.length + 1) (nv a * 2 ^ (n % 64))

theorem shlL_spec {a : List Nat} (h : Lim a) (n : Nat) : Lim (shlL a n) ∧ nv (shlL a n) = nv a * 2 ^ n ∧ (shlL a n).length ≤ n / 64 + a.length + 1 := by
  have hn := Nat.div_add_mod n 64
  have e : W ^ (n / 64) * 2 ^ (n % 64) = 2 ^ n := by
    rw [show W = 2 ^ 64 from rfl, ← Nat.pow_mul, ← Nat.pow_add, hn]
  unfold shlL
  split
  · rename_i h0
    rw [h0, Nat.pow_zero, Nat.mul_one] at e
    refine ⟨(Lim.replicate _).append h, ?_, by simp⟩
    simp only [nv, vl_append, vl_replicate, List.length_replicate, Nat.zero_add]
    rw [e, Nat.mul_comm]
  · refine ⟨(Lim.replicate _).append (lim_pad _ _), ?_, by simp [pad_len]; omega⟩
    have h1 := nv_pad (a.length + 1) (nv a * 2 ^ (n % 64))
    simp only [nv] at h1
    simp only [nv, vl_append, vl_replicate, List.length_replicate, Nat.zero_add, h1]
    rw [Nat.mod_eq_of_lt]
    · rw [Nat.mul_left_comm, e]
    · have h2 := nv_lt h
      have h3 : 2 ^ (n % 64) ≤ W := by rw [show W = 2 ^ 64 from rfl]; exact Nat.pow_le_pow_right (by decide) (by omega)
      rw [Nat.pow_succ]
      simp only [nv] at h2
      calc vl W a * 2 ^ (n % 64) ≤ vl W a * W := Nat.mul_le_mul_left _ h3
        _ < W ^ a.length * W := (Nat.mul_lt_mul_right (by decide)).mpr h2

/-- A word, shifted. -/
theorem word_shl {x r : Nat} (hr : r ≤ 64) (hx : x < W) : x * 2 ^ r % W = x % 2 ^ (64 - r) * 2 ^ r ∧ x % 2 ^ (64 - r) * 2 ^ r + W * (x / 2 ^ (64 - r)) = x * 2 ^ r ∧ x / 2 ^ (64 - r) < 2 ^ r ∧ x % 2 ^ (64 - r) * 2 ^ r + 2 ^ r ≤ W := by
  have e : W = 2 ^ (64 - r) * 2 ^ r := by rw [← Nat.pow_add, Nat.sub_add_cancel hr]
  have hp := Nat.pow_pos (n := r) (show 0 < 2 by decide)
  have hp' := Nat.pow_pos (n := 64 - r) (show 0 < 2 by decide)
  have hm := Nat.mod_lt x hp'
  have h3 : x % 2 ^ (64 - r) * 2 ^ r + 2 ^ r ≤ W := by
    rw [e, ← Nat.succ_mul]; exact Nat.mul_le_mul_right _ hm
  have h2 : x % 2 ^ (64 - r) * 2 ^ r + W * (x / 2 ^ (64 - r)) = x * 2 ^ r := by
    conv => rhs; rw [← Nat.mod_add_div x (2 ^ (64 - r)), Nat.add_mul]
    rw [e, Nat.mul_right_comm]
  refine ⟨?_, h2, ?_, h3⟩
  · rw [← h2, Nat.add_mul_mod_self_left, Nat.mod_eq_of_lt (by omega)]
  · rw [Nat.div_lt_iff_lt_mul hp', Nat.mul_comm, ← e]; exact hx

theorem lshl_ok (a : List Nat) (n : Nat) (ha : Lim a) (hl : a.length ≤ 2 ^ 40) (hn : n ≤ 1048576) : AC Try.prog 183 [cl a, ci n] none [cl (shlL a n), ci 0] := by
  refine AC.by_walk (rs := [.tmp 4, .tmp 5]) ords Try.func183 (by rfl) (by rfl) (by rfl) (by rfl) (by rfl) ?_
  have e1 := tdiv_nat n 64
  have e2 := tmod_nat n 64
  have h1 : ¬ (n : Int) < 0 := by omega
  have h2 : ¬ 1048576 < (n : Int) := by omega
  have e3 : ((n / 64 : Nat) : Int) + (a.length : Int) + 1 = ((n / 64 + a.length + 1 : Nat) : Int) := by omega
  have hw : IntKind.u64.wrap ((n % 64 : Nat) : Int) = ((n % 64 : Nat) : Int) := wrap_nat (by simp only [W]; omega)
  have e1' : (n : Int).tdiv 64 = ((n / 64 : Nat) : Int) := e1
  have e2' : (n : Int).tmod 64 = ((n % 64 : Nat) : Int) := e2
  have hd : n / 64 ≤ 16384 := by omega
  have hr : n % 64 < 64 := Nat.mod_lt _ (by omega)
  unfold shlL
  generalize n / 64 = q at *
  generalize n % 64 = r at *
  simp (disch := omega) only [wk, tis, Int.reduceNe, Int.reduceEq, Int.reduceLT, Int.reduceLE, Int.reduceAdd, Int.reduceSub, Int.reduceNeg, Int.reduceMul, Int.reduceToNat, Nat.reduceSub, Nat.reduceMul, Nat.reduceLeDiff, Nat.reduceAdd, Nat.reduceLT, Nat.reduceEqDiff, reduceCtorEq, ↓reduceIte, h1, h2, e1', e2', hw, e3]
  by_cases hr0 : r = 0
  · subst hr0
    have hq : (List.replicate q 0).length = q := by simp
    simp (disch := omega) only [wk, tis, Int.reduceNe, Int.reduceEq, Int.reduceLT, Int.reduceLE, Int.reduceAdd, Int.reduceSub, Int.reduceNeg, Int.reduceMul, Int.reduceToNat, Nat.reduceSub, Nat.reduceMul, Nat.reduceLeDiff, Nat.reduceAdd, Nat.reduceLT, Nat.reduceEqDiff, reduceCtorEq, ↓reduceIte, hq]
  · have hr0' : ¬ (r : Int) = 0 := by omega
    have h64 : IntKind.u64.wrap (64 - (r : Int)) = ((64 - r : Nat) : Int) := by rw [show (64 : Int) - r = ((64 - r : Nat) : Int) by omega]; exact wrap_nat (by simp only [W]; omega)
    rw [if_neg hr0]
    simp (disch := omega) only [wk, tis, Int.reduceNe, Int.reduceEq, Int.reduceLT, Int.reduceLE, Int.reduceAdd, Int.reduceSub, Int.reduceNeg, Int.reduceMul, Int.reduceToNat, Nat.reduceSub, Nat.reduceMul, Nat.reduceLeDiff, Nat.reduceAdd, Nat.reduceLT, Nat.reduceEqDiff, reduceCtorEq, ↓reduceIte, hr0']
    refine aloop_by (fun f H => ∃ (i low st : Nat) (S : List Nat), i ≤ a.length ∧ S.length = i ∧ Lim S ∧ low < 2 ^ r ∧ nv S + W ^ i * low = nv (a.take i) * 2 ^ r ∧ f 37 = .iv (.int .i64 i) ∧ f 7 = .iv (.int .u64 r) ∧ f 8 = .hs 29 st ∧ f 9 = .iv (.int .u64 low) ∧ f 35 = .iv (.sl (lims a)) ∧ f 36 = .iv (.int .i64 a.length) ∧ H 29 = .blk false st 87 1 (lims (List.replicate q 0 ++ S))) (fun f H => (a.length - intAt f 37).toNat) ?_ ?_
    · refine ⟨0, 0, 1, [], by omega, rfl, Lim.nil, Nat.pow_pos (by decide), by simp [vl], ?_⟩
      simp (disch := omega) only [wk, tis, Int.reduceNe, Int.reduceEq, Int.reduceLT, Int.reduceLE, Int.reduceAdd, Int.reduceSub, Int.reduceNeg, Int.reduceMul, Int.reduceToNat, Nat.reduceSub, Nat.reduceMul, Nat.reduceLeDiff, Nat.reduceAdd, Nat.reduceLT, Nat.reduceEqDiff, reduceCtorEq, ↓reduceIte, Int.toNat_natCast, List.append_nil]
    rintro f H ⟨i, low, st, S, hi, hSl, hS, hlow, hv, hF⟩
    rw [intAt_of hF.1]
    simp (disch := omega) only [wk, tis, Int.reduceNe, Int.reduceEq, Int.reduceLT, Int.reduceLE, Int.reduceAdd, Int.reduceSub, Int.reduceNeg, Int.reduceMul, Int.reduceToNat, Nat.reduceSub, Nat.reduceMul, Nat.reduceLeDiff, Nat.reduceAdd, Nat.reduceLT, Nat.reduceEqDiff, reduceCtorEq, ↓reduceIte, hF]
    have hq : (List.replicate q 0 ++ S).length = q + i := by simp [hSl]
    refine if_by (fun hlt => ?_) (fun hlt => ?_)
    · have hx := ha.get i
      have hsx := word_shl (r := r) (by omega) hx
      have hm1 := shl_mod (a.getD i 0) r (by omega)
      rw [hsx.1] at hm1
      have hor := or_add (a.getD i 0 % 2 ^ (64 - r)) low r hlow (by omega)
      have hsr := shr_nat (a.getD i 0) (64 - r) (by omega)
      simp (disch := omega) only [wk, tis, Int.reduceNe, Int.reduceEq, Int.reduceLT, Int.reduceLE, Int.reduceAdd, Int.reduceSub, Int.reduceNeg, Int.reduceMul, Int.reduceToNat, Nat.reduceSub, Nat.reduceMul, Nat.reduceLeDiff, Nat.reduceAdd, Nat.reduceLT, Nat.reduceEqDiff, reduceCtorEq, ↓reduceIte, hF, hq, hm1, hor, h64, hsr]
      refine ⟨⟨i + 1, a.getD i 0 / 2 ^ (64 - r), st + 1, S ++ [a.getD i 0 % 2 ^ (64 - r) * 2 ^ r + low], by omega, by simp [hSl], hS.append (Lim.cons (by omega) Lim.nil), hsx.2.2.1, ?_, by omega, rfl, rfl, by rw [List.append_assoc]⟩, by omega⟩
      rw [nv_snoc, hSl]
      simp only [nv] at hv ⊢
      rw [vl_take_next, Nat.pow_succ, Nat.add_mul, Nat.mul_assoc _ (a.getD i 0), ← hsx.2.1, ← hv, Nat.mul_add, Nat.mul_add, Nat.mul_assoc]
      omega
    · simp (disch := omega) only [wk, tis, Int.reduceNe, Int.reduceEq, Int.reduceLT, Int.reduceLE, Int.reduceAdd, Int.reduceSub, Int.reduceNeg, Int.reduceMul, Int.reduceToNat, Nat.reduceSub, Nat.reduceMul, Nat.reduceLeDiff, Nat.reduceAdd, Nat.reduceLT, Nat.reduceEqDiff, reduceCtorEq, ↓reduceIte, hF, hq]
      have : i = a.length := by omega
      subst this
      rw [List.take_length] at hv
      have h5 := nv_lt hS
      rw [hSl] at h5
      have hlW : low < W := Nat.lt_of_lt_of_le hlow (by rw [show W = 2 ^ 64 from rfl]; exact Nat.pow_le_pow_right (by decide) (by omega))
      have e : S ++ [low] = pad (a.length + 1) (nv a * 2 ^ r) := by
        refine eq_pad (hS.append (Lim.cons hlW Lim.nil)) (by simp [hSl]) ?_
        have h6 := nv_lt (hS.append (Lim.cons hlW Lim.nil))
        rw [nv_snoc, hSl, hv] at h6 ⊢
        rw [List.length_append, hSl] at h6
        exact (Nat.mod_eq_of_lt h6).symm
      rw [List.append_assoc, e]

theorem nshl_ok (a : List Nat) (n : Nat) (ha : Lim a) (hl : a.length ≤ 2 ^ 39) (hn : n ≤ 1048576) : AC Try.prog 174 [cl a, ci n] none [cl (wd (nv a * 2 ^ n)), ci 0] := by
  refine AC.by_walk (rs := [.tmp 4, .tmp 5]) ords Try.func174 (by rfl) (by rfl) (by rfl) (by rfl) (by rfl) ?_
  have h1 : ¬ (n : Int) < 0 := by omega
  have h2 : ¬ 1048576 < (n : Int) := by omega
  have ht := topN_le a
  simp (disch := omega) only [wk, tis, Int.reduceNe, Int.reduceEq, Int.reduceLT, Int.reduceLE, Int.reduceAdd, Int.reduceSub, Int.reduceNeg, Int.reduceMul, Int.reduceToNat, Nat.reduceSub, Nat.reduceMul, Nat.reduceLeDiff, Nat.reduceAdd, Nat.reduceLT, Nat.reduceEqDiff, reduceCtorEq, ↓reduceIte, h1, h2]
  refine call_by ((trim_ok a (by omega))) (by first | rfl | (simp only [tocvs, tocv, h1, h2]; rfl)) (by simp) ?_
  simp (disch := omega) only [wk, tis, Int.reduceNe, Int.reduceEq, Int.reduceLT, Int.reduceLE, Int.reduceAdd, Int.reduceSub, Int.reduceNeg, Int.reduceMul, Int.reduceToNat, Nat.reduceSub, Nat.reduceMul, Nat.reduceLeDiff, Nat.reduceAdd, Nat.reduceLT, Nat.reduceEqDiff, reduceCtorEq, ↓reduceIte, h1, h2]
  have hs := shlL_spec (ha.take (topN a)) n
  have e : nv (a.take (topN a)) = nv a := vl_drop_top two_le_W ha
  rw [e, List.length_take] at hs
  refine call_by ((lshl_ok (a.take (topN a)) n (ha.take _) (by rw [List.length_take]; omega) hn)) (by first | rfl | (simp only [tocvs, tocv, h1, h2]; rfl)) (by simp) ?_
  simp (disch := omega) only [wk, tis, Int.reduceNe, Int.reduceEq, Int.reduceLT, Int.reduceLE, Int.reduceAdd, Int.reduceSub, Int.reduceNeg, Int.reduceMul, Int.reduceToNat, Nat.reduceSub, Nat.reduceMul, Nat.reduceLeDiff, Nat.reduceAdd, Nat.reduceLT, Nat.reduceEqDiff, reduceCtorEq, ↓reduceIte, h1, h2]
  have := own_ok (shlL (a.take (topN a)) n) hs.1 (by omega)
  rw [hs.2.1] at this
  refine call_by (this) (by first | rfl | (simp only [tocvs, tocv, h1, h2]; rfl)) (by simp) ?_
  simp (disch := omega) only [wk, tis, Int.reduceNe, Int.reduceEq, Int.reduceLT, Int.reduceLE, Int.reduceAdd, Int.reduceSub, Int.reduceNeg, Int.reduceMul, Int.reduceToNat, Nat.reduceSub, Nat.reduceMul, Nat.reduceLeDiff, Nat.reduceAdd, Nat.reduceLT, Nat.reduceEqDiff, reduceCtorEq, ↓reduceIte, h1, h2]

end Go.Proofs.Ythgecppfgdadiaa
