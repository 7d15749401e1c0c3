/-
  Contracts of the functions that the law reaches.
-/
import Derived.Test.YthgecppfgdadiaaL32
import Derived.Test.YthgecppfgdadiaaL3
namespace Go.Proofs.Ythgecppfgdadiaa
open Go Go.Proofs Go.AL
set_option linter.unusedSimpArgs false
set_option linter.unusedVariables false

theorem or_add' (a b m : Nat) (hb : b < 2 ^ m) (h : a * 2 ^ m + b < W) : IntKind.u64.wrap ((BitVec.ofInt IntKind.u64.bits (b : Int) ||| BitVec.ofInt IntKind.u64.bits ((a * 2 ^ m : Nat) : Int)).toNat : Int) = ((a * 2 ^ m + b : Nat) : Int) := by
  rw [BitVec.or_comm]; exact or_add a b m hb h

theorem word_at' {l : List Nat} (h : Lim l) (k : Nat) : l.getD k 0 = nv l / W ^ k % W := by
  have h1 := vl_take_next W l k
  have e1 := nv_take h (k + 1)
  have e2 := nv_take h k
  simp only [nv] at *
  rw [e1, e2, Nat.mod_pow_succ] at h1
  exact (Nat.eq_of_mul_eq_mul_left (W_pow_pos k) (Nat.add_left_cancel h1)).symm

/-- A digit of what is shifted right. -/
theorem shr_digit {V r i x y : Nat} (hr : r < 64) (hx : x = V / W ^ i % W) (hy : y = V / W ^ (i + 1) % W) : V / 2 ^ r / W ^ i % W = (y % 2 ^ r) * 2 ^ (64 - r) + x / 2 ^ r ∧ x / 2 ^ r < 2 ^ (64 - r) ∧ (y % 2 ^ r) * 2 ^ (64 - r) + x / 2 ^ r < W := by
  have e : W = 2 ^ r * 2 ^ (64 - r) := by rw [← Nat.pow_add, show r + (64 - r) = 64 by omega]
  have hp := Nat.pow_pos (n := r) (show 0 < 2 by decide)
  have hp' := Nat.pow_pos (n := 64 - r) (show 0 < 2 by decide)
  have hxW : x < W := by rw [hx]; exact Nat.mod_lt _ (by decide)
  have b1 : x / 2 ^ r < 2 ^ (64 - r) := by rw [Nat.div_lt_iff_lt_mul hp, Nat.mul_comm, ← e]; exact hxW
  have hT : V / W ^ i = x + W * (V / W ^ (i + 1)) := by
    rw [hx, Nat.pow_succ, ← Nat.div_div_eq_div_mul]; exact (Nat.mod_add_div _ _).symm
  generalize hT1 : V / W ^ (i + 1) = T at *
  have hm : y % 2 ^ r = T % 2 ^ r := by
    rw [hy, e, Nat.mod_mul_right_mod]
  have hlt : T % 2 ^ r < 2 ^ r := Nat.mod_lt _ hp
  have b2 : T % 2 ^ r * 2 ^ (64 - r) + 2 ^ (64 - r) ≤ W := by
    rw [e, ← Nat.succ_mul]; exact Nat.mul_le_mul_right _ hlt
  refine ⟨?_, b1, by rw [hm]; omega⟩
  have h1 : V / 2 ^ r / W ^ i = x / 2 ^ r + 2 ^ (64 - r) * T := by
    rw [Nat.div_div_eq_div_mul, Nat.mul_comm, ← Nat.div_div_eq_div_mul, hT]
    rw [show W * T = 2 ^ r * (2 ^ (64 - r) * T) by rw [e, Nat.mul_assoc], Nat.add_mul_div_left _ _ hp]
  rw [h1, hm]
  have h2 : 2 ^ (64 - r) * T = T % 2 ^ r * 2 ^ (64 - r) + W * (T / 2 ^ r) := by
    conv => lhs; rw [← Nat.mod_add_div T (2 ^ r), Nat.mul_add]
    rw [Nat.mul_comm (2 ^ (64 - r)) (T % 2 ^ r), e, ← Nat.mul_assoc, Nat.mul_comm (2 ^ (64 - r)) (2 ^ r)]
  rw [h2, ← Nat.add_assoc, Nat.add_mul_mod_self_left, Nat.add_comm (x / 2 ^ r), Nat.mod_eq_of_lt (by omega)]

theorem getD_set_self {l : List Nat} {i : Nat} (h : i < l.length) (x : Nat) : (l.set i x).getD i 0 = x := by
  simp [List.getD, h]


theorem lshr_ok (a : List Nat) (n : Nat) (ha : Lim a) (hl : a.length ≤ 2 ^ 40) (hn : n ≤ 2 ^ 60) : ∃ b, AC Try.prog 195 [cl a, ci n] none [cl (pad (a.length - n / 64) (nv a / 2 ^ n)), cb b, ci 0] := by
  have e1 := tdiv_nat n 64
  have e2 := tmod_nat n 64
  have h1 : ¬ (n : Int) < 0 := by omega
  have hw : IntKind.u64.wrap ((n % 64 : Nat) : Int) = ((n % 64 : Nat) : Int) := wrap_nat (by simp only [W]; omega)
  have e1' : (n : Int).tdiv 64 = ((n / 64 : Nat) : Int) := e1
  have e2' : (n : Int).tmod 64 = ((n % 64 : Nat) : Int) := e2
  have hr : n % 64 < 64 := Nat.mod_lt _ (by omega)
  have eQ : nv a / 2 ^ n = nv a / W ^ (n / 64) / 2 ^ (n % 64) := by
    rw [Nat.div_div_eq_div_mul, show W = 2 ^ 64 from rfl, ← Nat.pow_mul, ← Nat.pow_add, Nat.div_add_mod]
  rw [eQ]
  have hqb : n / 64 ≤ 2 ^ 60 := by omega
  generalize n / 64 = q at *
  generalize n % 64 = r at *
  by_cases hq : (a.length : Int) ≤ q
  · refine ⟨decide (0 < (topN a : Int)), ?_⟩
    refine AC.by_walk (rs := [.tmp 4, .tmp 5, .tmp 6]) ords Try.func195 (by rfl) (by rfl) (by rfl) (by rfl) (by rfl) ?_
    simp (disch := omega) only [wk, tis, Int.reduceNe, Int.reduceEq, Int.reduceLT, Int.reduceLE, Int.reduceAdd, Int.reduceSub, Int.reduceNeg, Int.reduceMul, Int.reduceToNat, Nat.reduceSub, Nat.reduceMul, Nat.reduceLeDiff, Nat.reduceAdd, Nat.reduceLT, Nat.reduceEqDiff, reduceCtorEq, ↓reduceIte, Option.getD_some, h1, e1', e2', hw, hq]
    refine call_by ((top_ok a (by omega))) (by first | rfl | (simp only [tocvs, tocv, h1, hq]; rfl)) (by simp) ?_
    simp (disch := omega) only [wk, tis, Int.reduceNe, Int.reduceEq, Int.reduceLT, Int.reduceLE, Int.reduceAdd, Int.reduceSub, Int.reduceNeg, Int.reduceMul, Int.reduceToNat, Nat.reduceSub, Nat.reduceMul, Nat.reduceLeDiff, Nat.reduceAdd, Nat.reduceLT, Nat.reduceEqDiff, reduceCtorEq, ↓reduceIte, Option.getD_some, h1, hq]
    rw [show a.length - q = 0 by omega]
    rfl
  have h64 : IntKind.u64.wrap (64 - (r : Int)) = ((64 - r : Nat) : Int) := by rw [show (64 : Int) - r = ((64 - r : Nat) : Int) by omega]; exact wrap_nat (by simp only [W]; omega)
  have hm1 := shl_mod (a.getD q 0) (64 - r) (by omega)
  refine ⟨decide (0 < (topN (a.take q) : Int)) || (decide (¬ ((a.getD q 0 * 2 ^ (64 - r) % W : Nat) : Int) = 0) && decide (0 < (r : Int))), ?_⟩
  generalize hb : (decide (0 < (topN (a.take q) : Int)) || (decide (¬ ((a.getD q 0 * 2 ^ (64 - r) % W : Nat) : Int) = 0) && decide (0 < (r : Int)))) = b0
  have hV := nv_drop ha q
  have hdl : (a.drop q).length = a.length - q := by simp
  have hdw : ∀ i, (a.drop q).getD i 0 = a.getD (q + i) 0 := fun i => by simp [List.getD, List.getElem?_drop]
  refine AC.by_walk (rs := [.tmp 4, .tmp 5, .tmp 6]) ords Try.func195 (by rfl) (by rfl) (by rfl) (by rfl) (by rfl) ?_
  simp (disch := omega) only [wk, tis, Int.reduceNe, Int.reduceEq, Int.reduceLT, Int.reduceLE, Int.reduceAdd, Int.reduceSub, Int.reduceNeg, Int.reduceMul, Int.reduceToNat, Nat.reduceSub, Nat.reduceMul, Nat.reduceLeDiff, Nat.reduceAdd, Nat.reduceLT, Nat.reduceEqDiff, reduceCtorEq, ↓reduceIte, Option.getD_some, h1, e1', e2', hw, hq]
  have htk : (a.take q).length ≤ 2 ^ 43 := by rw [List.length_take]; omega
  refine call_by ((top_ok (a.take q) htk)) (by first | rfl | (simp only [tocvs, tocv, h1, hq]; rfl)) (by simp) ?_
  have emq : (a.length : Int) - (q : Int) = ((a.length - q : Nat) : Int) := by omega
  generalize hm : a.length - q = m at *
  by_cases hA : 0 < (topN (a.take q) : Int)
  · rw [decide_eq_true hA, Bool.true_or] at hb
    simp (disch := omega) only [wk, tis, Int.reduceNe, Int.reduceEq, Int.reduceLT, Int.reduceLE, Int.reduceAdd, Int.reduceSub, Int.reduceNeg, Int.reduceMul, Int.reduceToNat, Nat.reduceSub, Nat.reduceMul, Nat.reduceLeDiff, Nat.reduceAdd, Nat.reduceLT, Nat.reduceEqDiff, reduceCtorEq, ↓reduceIte, Option.getD_some, hA, emq]
    refine aloop_by (fun f H => ∃ (i st : Nat) (out : List Nat), i ≤ m ∧ Lim out ∧ out.length = m ∧ nv (out.take i) = nv (a.drop q) / 2 ^ r % W ^ i ∧ f 52 = .iv (.int .i64 i) ∧ f 0 = .iv (.sl (lims a)) ∧ f 7 = .iv (.int .i64 q) ∧ f 8 = .iv (.int .u64 r) ∧ f 9 = .iv (.bool b0) ∧ f 10 = .hs 49 st ∧ f 51 = .iv (.int .i64 m) ∧ H 49 = .blk false st 87 1 (lims out)) (fun f H => (m - intAt f 52).toNat) ?_ ?_
    · refine ⟨0, 1, List.replicate m 0, by omega, Lim.replicate _, by simp, by simp [vl, Nat.mod_one], ?_⟩
      simp (disch := omega) only [wk, tis, Int.reduceNe, Int.reduceEq, Int.reduceLT, Int.reduceLE, Int.reduceAdd, Int.reduceSub, Int.reduceNeg, Int.reduceMul, Int.reduceToNat, Nat.reduceSub, Nat.reduceMul, Nat.reduceLeDiff, Nat.reduceAdd, Nat.reduceLT, Nat.reduceEqDiff, reduceCtorEq, ↓reduceIte, Option.getD_some, Int.toNat_natCast, hb]
    rintro f H ⟨i, st, out, hi, hO, hOl, hv, hF⟩
    rw [intAt_of hF.1]
    simp (disch := omega) only [wk, tis, Int.reduceNe, Int.reduceEq, Int.reduceLT, Int.reduceLE, Int.reduceAdd, Int.reduceSub, Int.reduceNeg, Int.reduceMul, Int.reduceToNat, Nat.reduceSub, Nat.reduceMul, Nat.reduceLeDiff, Nat.reduceAdd, Nat.reduceLT, Nat.reduceEqDiff, reduceCtorEq, ↓reduceIte, Option.getD_some, hF]
    refine if_by (fun hlt => ?_) (fun hlt => ?_)
    · have ei : (q : Int) + (i : Int) = ((q + i : Nat) : Int) := by omega
      have ei1 : ((q + i : Nat) : Int) + 1 = ((q + i + 1 : Nat) : Int) := by omega
      have hdg := shr_digit (V := nv (a.drop q)) (i := i) hr (word_at' (ha.drop q) i) (word_at' (ha.drop q) (i + 1))
      rw [hdw, hdw, ← Nat.add_assoc] at hdg
      have hsr := shr_nat (a.getD (q + i) 0) r (by omega)
      have hx := ha.get (q + i + 1)
      have hsh := (word_shl (x := a.getD (q + i + 1) 0) (r := 64 - r) (by omega) hx).1
      rw [show 64 - (64 - r) = r by omega] at hsh
      have hm2 := shl_mod (a.getD (q + i + 1) 0) (64 - r) (by omega)
      rw [hsh] at hm2
      have hor := or_add' (a.getD (q + i + 1) 0 % 2 ^ r) (a.getD (q + i) 0 / 2 ^ r) (64 - r) hdg.2.1 hdg.2.2
      have hls : (out.set i (a.getD (q + i) 0 / 2 ^ r)).length = m := by simp [hOl]
      have hgs : (out.set i (a.getD (q + i) 0 / 2 ^ r)).getD i 0 = a.getD (q + i) 0 / 2 ^ r := getD_set_self (by omega) _
      have hss : ∀ x y, (out.set i x).set i y = out.set i y := fun x y => by simp
      simp (disch := omega) only [wk, tis, Int.reduceNe, Int.reduceEq, Int.reduceLT, Int.reduceLE, Int.reduceAdd, Int.reduceSub, Int.reduceNeg, Int.reduceMul, Int.reduceToNat, Nat.reduceSub, Nat.reduceMul, Nat.reduceLeDiff, Nat.reduceAdd, Nat.reduceLT, Nat.reduceEqDiff, reduceCtorEq, ↓reduceIte, Option.getD_some, hF, ei, hsr]
      refine if_by (fun hr0 => ?_) (fun hr0 => ?_)
      · simp (disch := omega) only [wk, tis, Int.reduceNe, Int.reduceEq, Int.reduceLT, Int.reduceLE, Int.reduceAdd, Int.reduceSub, Int.reduceNeg, Int.reduceMul, Int.reduceToNat, Nat.reduceSub, Nat.reduceMul, Nat.reduceLeDiff, Nat.reduceAdd, Nat.reduceLT, Nat.reduceEqDiff, reduceCtorEq, ↓reduceIte, Option.getD_some, hF, ei, ei1, hgs]
        refine ⟨tmps_by (by kernel_rfl), ?_⟩
        refine call_by ((at_ok a (q + i + 1) (by omega))) (by first | rfl | (simp only [tocvs, tocv, hF, h64, hm2, hor, hgs, hss]; rfl)) (by simp) ?_
        simp (disch := omega) only [wk, tis, Int.reduceNe, Int.reduceEq, Int.reduceLT, Int.reduceLE, Int.reduceAdd, Int.reduceSub, Int.reduceNeg, Int.reduceMul, Int.reduceToNat, Nat.reduceSub, Nat.reduceMul, Nat.reduceLeDiff, Nat.reduceAdd, Nat.reduceLT, Nat.reduceEqDiff, reduceCtorEq, ↓reduceIte, Option.getD_some, hF, h64, hm2, hor, hgs, hss]
        first | exact log_by (by kernel_rfl) | refine ⟨log_by (by kernel_rfl), ?_⟩
        refine ⟨⟨i + 1, st, out.set i (a.getD (q + i + 1) 0 % 2 ^ r * 2 ^ (64 - r) + a.getD (q + i) 0 / 2 ^ r), by omega, hO.set hdg.2.2, by simp [hOl], ?_, by omega, rfl, rfl⟩, by omega⟩
        simp only [nv] at hv hdg ⊢
        rw [vl_take_set W (by omega), hv, ← hdg.1, Nat.mod_pow_succ]
      · simp (disch := omega) only [wk, tis, Int.reduceNe, Int.reduceEq, Int.reduceLT, Int.reduceLE, Int.reduceAdd, Int.reduceSub, Int.reduceNeg, Int.reduceMul, Int.reduceToNat, Nat.reduceSub, Nat.reduceMul, Nat.reduceLeDiff, Nat.reduceAdd, Nat.reduceLT, Nat.reduceEqDiff, reduceCtorEq, ↓reduceIte, Option.getD_some, hF, ei]
        have hr1 : r = 0 := by omega
        subst hr1
        refine ⟨⟨i + 1, st, out.set i (a.getD (q + i) 0 / 2 ^ 0), by omega, hO.set (by rw [Nat.pow_zero, Nat.div_one]; exact ha.get _), by simp [hOl], ?_, by omega, rfl, rfl⟩, by omega⟩
        have h0 := word_at' (ha.drop q) i
        rw [hdw] at h0
        simp only [nv, Nat.pow_zero, Nat.div_one] at hv h0 ⊢
        rw [vl_take_set W (by omega), hv, h0, Nat.mod_pow_succ]
    · simp (disch := omega) only [wk, tis, Int.reduceNe, Int.reduceEq, Int.reduceLT, Int.reduceLE, Int.reduceAdd, Int.reduceSub, Int.reduceNeg, Int.reduceMul, Int.reduceToNat, Nat.reduceSub, Nat.reduceMul, Nat.reduceLeDiff, Nat.reduceAdd, Nat.reduceLT, Nat.reduceEqDiff, reduceCtorEq, ↓reduceIte, Option.getD_some, hF]
      have : i = m := by omega
      subst this
      rw [List.take_of_length_le (by omega), hV] at hv
      rw [eq_pad hO hOl hv]
  · by_cases hB : ((a.getD q 0 * 2 ^ (64 - r) % W : Nat) : Int) = 0
    · rw [decide_eq_false hA, Bool.false_or, decide_eq_false (by simpa using hB), Bool.false_and] at hb
      simp (disch := omega) only [wk, tis, Int.reduceNe, Int.reduceEq, Int.reduceLT, Int.reduceLE, Int.reduceAdd, Int.reduceSub, Int.reduceNeg, Int.reduceMul, Int.reduceToNat, Nat.reduceSub, Nat.reduceMul, Nat.reduceLeDiff, Nat.reduceAdd, Nat.reduceLT, Nat.reduceEqDiff, reduceCtorEq, ↓reduceIte, Option.getD_some, hA, emq, h64, hm1, hB]
      refine aloop_by (fun f H => ∃ (i st : Nat) (out : List Nat), i ≤ m ∧ Lim out ∧ out.length = m ∧ nv (out.take i) = nv (a.drop q) / 2 ^ r % W ^ i ∧ f 52 = .iv (.int .i64 i) ∧ f 0 = .iv (.sl (lims a)) ∧ f 7 = .iv (.int .i64 q) ∧ f 8 = .iv (.int .u64 r) ∧ f 9 = .iv (.bool b0) ∧ f 10 = .hs 49 st ∧ f 51 = .iv (.int .i64 m) ∧ H 49 = .blk false st 87 1 (lims out)) (fun f H => (m - intAt f 52).toNat) ?_ ?_
      · refine ⟨0, 1, List.replicate m 0, by omega, Lim.replicate _, by simp, by simp [vl, Nat.mod_one], ?_⟩
        simp (disch := omega) only [wk, tis, Int.reduceNe, Int.reduceEq, Int.reduceLT, Int.reduceLE, Int.reduceAdd, Int.reduceSub, Int.reduceNeg, Int.reduceMul, Int.reduceToNat, Nat.reduceSub, Nat.reduceMul, Nat.reduceLeDiff, Nat.reduceAdd, Nat.reduceLT, Nat.reduceEqDiff, reduceCtorEq, ↓reduceIte, Option.getD_some, Int.toNat_natCast, hb]
      rintro f H ⟨i, st, out, hi, hO, hOl, hv, hF⟩
      rw [intAt_of hF.1]
      simp (disch := omega) only [wk, tis, Int.reduceNe, Int.reduceEq, Int.reduceLT, Int.reduceLE, Int.reduceAdd, Int.reduceSub, Int.reduceNeg, Int.reduceMul, Int.reduceToNat, Nat.reduceSub, Nat.reduceMul, Nat.reduceLeDiff, Nat.reduceAdd, Nat.reduceLT, Nat.reduceEqDiff, reduceCtorEq, ↓reduceIte, Option.getD_some, hF]
      refine if_by (fun hlt => ?_) (fun hlt => ?_)
      · have ei : (q : Int) + (i : Int) = ((q + i : Nat) : Int) := by omega
        have ei1 : ((q + i : Nat) : Int) + 1 = ((q + i + 1 : Nat) : Int) := by omega
        have hdg := shr_digit (V := nv (a.drop q)) (i := i) hr (word_at' (ha.drop q) i) (word_at' (ha.drop q) (i + 1))
        rw [hdw, hdw, ← Nat.add_assoc] at hdg
        have hsr := shr_nat (a.getD (q + i) 0) r (by omega)
        have hx := ha.get (q + i + 1)
        have hsh := (word_shl (x := a.getD (q + i + 1) 0) (r := 64 - r) (by omega) hx).1
        rw [show 64 - (64 - r) = r by omega] at hsh
        have hm2 := shl_mod (a.getD (q + i + 1) 0) (64 - r) (by omega)
        rw [hsh] at hm2
        have hor := or_add' (a.getD (q + i + 1) 0 % 2 ^ r) (a.getD (q + i) 0 / 2 ^ r) (64 - r) hdg.2.1 hdg.2.2
        have hls : (out.set i (a.getD (q + i) 0 / 2 ^ r)).length = m := by simp [hOl]
        have hgs : (out.set i (a.getD (q + i) 0 / 2 ^ r)).getD i 0 = a.getD (q + i) 0 / 2 ^ r := getD_set_self (by omega) _
        have hss : ∀ x y, (out.set i x).set i y = out.set i y := fun x y => by simp
        simp (disch := omega) only [wk, tis, Int.reduceNe, Int.reduceEq, Int.reduceLT, Int.reduceLE, Int.reduceAdd, Int.reduceSub, Int.reduceNeg, Int.reduceMul, Int.reduceToNat, Nat.reduceSub, Nat.reduceMul, Nat.reduceLeDiff, Nat.reduceAdd, Nat.reduceLT, Nat.reduceEqDiff, reduceCtorEq, ↓reduceIte, Option.getD_some, hF, ei, hsr]
        refine if_by (fun hr0 => ?_) (fun hr0 => ?_)
        · simp (disch := omega) only [wk, tis, Int.reduceNe, Int.reduceEq, Int.reduceLT, Int.reduceLE, Int.reduceAdd, Int.reduceSub, Int.reduceNeg, Int.reduceMul, Int.reduceToNat, Nat.reduceSub, Nat.reduceMul, Nat.reduceLeDiff, Nat.reduceAdd, Nat.reduceLT, Nat.reduceEqDiff, reduceCtorEq, ↓reduceIte, Option.getD_some, hF, ei, ei1, hgs]
          refine ⟨tmps_by (by kernel_rfl), ?_⟩
          refine call_by ((at_ok a (q + i + 1) (by omega))) (by first | rfl | (simp only [tocvs, tocv, hF, h64, hm2, hor, hgs, hss]; rfl)) (by simp) ?_
          simp (disch := omega) only [wk, tis, Int.reduceNe, Int.reduceEq, Int.reduceLT, Int.reduceLE, Int.reduceAdd, Int.reduceSub, Int.reduceNeg, Int.reduceMul, Int.reduceToNat, Nat.reduceSub, Nat.reduceMul, Nat.reduceLeDiff, Nat.reduceAdd, Nat.reduceLT, Nat.reduceEqDiff, reduceCtorEq, ↓reduceIte, Option.getD_some, hF, h64, hm2, hor, hgs, hss]
          first | exact log_by (by kernel_rfl) | refine ⟨log_by (by kernel_rfl), ?_⟩
          refine ⟨⟨i + 1, st, out.set i (a.getD (q + i + 1) 0 % 2 ^ r * 2 ^ (64 - r) + a.getD (q + i) 0 / 2 ^ r), by omega, hO.set hdg.2.2, by simp [hOl], ?_, by omega, rfl, rfl⟩, by omega⟩
          simp only [nv] at hv hdg ⊢
          rw [vl_take_set W (by omega), hv, ← hdg.1, Nat.mod_pow_succ]
        · simp (disch := omega) only [wk, tis, Int.reduceNe, Int.reduceEq, Int.reduceLT, Int.reduceLE, Int.reduceAdd, Int.reduceSub, Int.reduceNeg, Int.reduceMul, Int.reduceToNat, Nat.reduceSub, Nat.reduceMul, Nat.reduceLeDiff, Nat.reduceAdd, Nat.reduceLT, Nat.reduceEqDiff, reduceCtorEq, ↓reduceIte, Option.getD_some, hF, ei]
          have hr1 : r = 0 := by omega
          subst hr1
          refine ⟨⟨i + 1, st, out.set i (a.getD (q + i) 0 / 2 ^ 0), by omega, hO.set (by rw [Nat.pow_zero, Nat.div_one]; exact ha.get _), by simp [hOl], ?_, by omega, rfl, rfl⟩, by omega⟩
          have h0 := word_at' (ha.drop q) i
          rw [hdw] at h0
          simp only [nv, Nat.pow_zero, Nat.div_one] at hv h0 ⊢
          rw [vl_take_set W (by omega), hv, h0, Nat.mod_pow_succ]
      · simp (disch := omega) only [wk, tis, Int.reduceNe, Int.reduceEq, Int.reduceLT, Int.reduceLE, Int.reduceAdd, Int.reduceSub, Int.reduceNeg, Int.reduceMul, Int.reduceToNat, Nat.reduceSub, Nat.reduceMul, Nat.reduceLeDiff, Nat.reduceAdd, Nat.reduceLT, Nat.reduceEqDiff, reduceCtorEq, ↓reduceIte, Option.getD_some, hF]
        have : i = m := by omega
        subst this
        rw [List.take_of_length_le (by omega), hV] at hv
        rw [eq_pad hO hOl hv]
    · by_cases hC : 0 < (r : Int)
      · rw [decide_eq_false hA, Bool.false_or, decide_eq_true hB, decide_eq_true hC, Bool.true_and] at hb
        simp (disch := omega) only [wk, tis, Int.reduceNe, Int.reduceEq, Int.reduceLT, Int.reduceLE, Int.reduceAdd, Int.reduceSub, Int.reduceNeg, Int.reduceMul, Int.reduceToNat, Nat.reduceSub, Nat.reduceMul, Nat.reduceLeDiff, Nat.reduceAdd, Nat.reduceLT, Nat.reduceEqDiff, reduceCtorEq, ↓reduceIte, Option.getD_some, hA, emq, h64, hm1, hB, hC]
        refine aloop_by (fun f H => ∃ (i st : Nat) (out : List Nat), i ≤ m ∧ Lim out ∧ out.length = m ∧ nv (out.take i) = nv (a.drop q) / 2 ^ r % W ^ i ∧ f 52 = .iv (.int .i64 i) ∧ f 0 = .iv (.sl (lims a)) ∧ f 7 = .iv (.int .i64 q) ∧ f 8 = .iv (.int .u64 r) ∧ f 9 = .iv (.bool b0) ∧ f 10 = .hs 49 st ∧ f 51 = .iv (.int .i64 m) ∧ H 49 = .blk false st 87 1 (lims out)) (fun f H => (m - intAt f 52).toNat) ?_ ?_
        · refine ⟨0, 1, List.replicate m 0, by omega, Lim.replicate _, by simp, by simp [vl, Nat.mod_one], ?_⟩
          simp (disch := omega) only [wk, tis, Int.reduceNe, Int.reduceEq, Int.reduceLT, Int.reduceLE, Int.reduceAdd, Int.reduceSub, Int.reduceNeg, Int.reduceMul, Int.reduceToNat, Nat.reduceSub, Nat.reduceMul, Nat.reduceLeDiff, Nat.reduceAdd, Nat.reduceLT, Nat.reduceEqDiff, reduceCtorEq, ↓reduceIte, Option.getD_some, Int.toNat_natCast, hb]
        rintro f H ⟨i, st, out, hi, hO, hOl, hv, hF⟩
        rw [intAt_of hF.1]
        simp (disch := omega) only [wk, tis, Int.reduceNe, Int.reduceEq, Int.reduceLT, Int.reduceLE, Int.reduceAdd, Int.reduceSub, Int.reduceNeg, Int.reduceMul, Int.reduceToNat, Nat.reduceSub, Nat.reduceMul, Nat.reduceLeDiff, Nat.reduceAdd, Nat.reduceLT, Nat.reduceEqDiff, reduceCtorEq, ↓reduceIte, Option.getD_some, hF]
        refine if_by (fun hlt => ?_) (fun hlt => ?_)
        · have ei : (q : Int) + (i : Int) = ((q + i : Nat) : Int) := by omega
          have ei1 : ((q + i : Nat) : Int) + 1 = ((q + i + 1 : Nat) : Int) := by omega
          have hdg := shr_digit (V := nv (a.drop q)) (i := i) hr (word_at' (ha.drop q) i) (word_at' (ha.drop q) (i + 1))
          rw [hdw, hdw, ← Nat.add_assoc] at hdg
          have hsr := shr_nat (a.getD (q + i) 0) r (by omega)
          have hx := ha.get (q + i + 1)
          have hsh := (word_shl (x := a.getD (q + i + 1) 0) (r := 64 - r) (by omega) hx).1
          rw [show 64 - (64 - r) = r by omega] at hsh
          have hm2 := shl_mod (a.getD (q + i + 1) 0) (64 - r) (by omega)
          rw [hsh] at hm2
          have hor := or_add' (a.getD (q + i + 1) 0 % 2 ^ r) (a.getD (q + i) 0 / 2 ^ r) (64 - r) hdg.2.1 hdg.2.2
          have hls : (out.set i (a.getD (q + i) 0 / 2 ^ r)).length = m := by simp [hOl]
          have hgs : (out.set i (a.getD (q + i) 0 / 2 ^ r)).getD i 0 = a.getD (q + i) 0 / 2 ^ r := getD_set_self (by omega) _
          have hss : ∀ x y, (out.set i x).set i y = out.set i y := fun x y => by simp
          simp (disch := omega) only [wk, tis, Int.reduceNe, Int.reduceEq, Int.reduceLT, Int.reduceLE, Int.reduceAdd, Int.reduceSub, Int.reduceNeg, Int.reduceMul, Int.reduceToNat, Nat.reduceSub, Nat.reduceMul, Nat.reduceLeDiff, Nat.reduceAdd, Nat.reduceLT, Nat.reduceEqDiff, reduceCtorEq, ↓reduceIte, Option.getD_some, hF, ei, hsr]
          refine if_by (fun hr0 => ?_) (fun hr0 => ?_)
          · simp (disch := omega) only [wk, tis, Int.reduceNe, Int.reduceEq, Int.reduceLT, Int.reduceLE, Int.reduceAdd, Int.reduceSub, Int.reduceNeg, Int.reduceMul, Int.reduceToNat, Nat.reduceSub, Nat.reduceMul, Nat.reduceLeDiff, Nat.reduceAdd, Nat.reduceLT, Nat.reduceEqDiff, reduceCtorEq, ↓reduceIte, Option.getD_some, hF, ei, ei1, hgs]
            refine ⟨tmps_by (by kernel_rfl), ?_⟩
            refine call_by ((at_ok a (q + i + 1) (by omega))) (by first | rfl | (simp only [tocvs, tocv, hF, h64, hm2, hor, hgs, hss]; rfl)) (by simp) ?_
            simp (disch := omega) only [wk, tis, Int.reduceNe, Int.reduceEq, Int.reduceLT, Int.reduceLE, Int.reduceAdd, Int.reduceSub, Int.reduceNeg, Int.reduceMul, Int.reduceToNat, Nat.reduceSub, Nat.reduceMul, Nat.reduceLeDiff, Nat.reduceAdd, Nat.reduceLT, Nat.reduceEqDiff, reduceCtorEq, ↓reduceIte, Option.getD_some, hF, h64, hm2, hor, hgs, hss]
            first | exact log_by (by kernel_rfl) | refine ⟨log_by (by kernel_rfl), ?_⟩
            refine ⟨⟨i + 1, st, out.set i (a.getD (q + i + 1) 0 % 2 ^ r * 2 ^ (64 - r) + a.getD (q + i) 0 / 2 ^ r), by omega, hO.set hdg.2.2, by simp [hOl], ?_, by omega, rfl, rfl⟩, by omega⟩
            simp only [nv] at hv hdg ⊢
            rw [vl_take_set W (by omega), hv, ← hdg.1, Nat.mod_pow_succ]
          · simp (disch := omega) only [wk, tis, Int.reduceNe, Int.reduceEq, Int.reduceLT, Int.reduceLE, Int.reduceAdd, Int.reduceSub, Int.reduceNeg, Int.reduceMul, Int.reduceToNat, Nat.reduceSub, Nat.reduceMul, Nat.reduceLeDiff, Nat.reduceAdd, Nat.reduceLT, Nat.reduceEqDiff, reduceCtorEq, ↓reduceIte, Option.getD_some, hF, ei]
            have hr1 : r = 0 := by omega
            subst hr1
            refine ⟨⟨i + 1, st, out.set i (a.getD (q + i) 0 / 2 ^ 0), by omega, hO.set (by rw [Nat.pow_zero, Nat.div_one]; exact ha.get _), by simp [hOl], ?_, by omega, rfl, rfl⟩, by omega⟩
            have h0 := word_at' (ha.drop q) i
            rw [hdw] at h0
            simp only [nv, Nat.pow_zero, Nat.div_one] at hv h0 ⊢
            rw [vl_take_set W (by omega), hv, h0, Nat.mod_pow_succ]
        · simp (disch := omega) only [wk, tis, Int.reduceNe, Int.reduceEq, Int.reduceLT, Int.reduceLE, Int.reduceAdd, Int.reduceSub, Int.reduceNeg, Int.reduceMul, Int.reduceToNat, Nat.reduceSub, Nat.reduceMul, Nat.reduceLeDiff, Nat.reduceAdd, Nat.reduceLT, Nat.reduceEqDiff, reduceCtorEq, ↓reduceIte, Option.getD_some, hF]
          have : i = m := by omega
          subst this
          rw [List.take_of_length_le (by omega), hV] at hv
          rw [eq_pad hO hOl hv]
      · rw [decide_eq_false hA, Bool.false_or, decide_eq_true hB, decide_eq_false hC, Bool.true_and] at hb
        simp (disch := omega) only [wk, tis, Int.reduceNe, Int.reduceEq, Int.reduceLT, Int.reduceLE, Int.reduceAdd, Int.reduceSub, Int.reduceNeg, Int.reduceMul, Int.reduceToNat, Nat.reduceSub, Nat.reduceMul, Nat.reduceLeDiff, Nat.reduceAdd, Nat.reduceLT, Nat.reduceEqDiff, reduceCtorEq, ↓reduceIte, Option.getD_some, hA, emq, h64, hm1, hB, hC]
        refine aloop_by (fun f H => ∃ (i st : Nat) (out : List Nat), i ≤ m ∧ Lim out ∧ out.length = m ∧ nv (out.take i) = nv (a.drop q) / 2 ^ r % W ^ i ∧ f 52 = .iv (.int .i64 i) ∧ f 0 = .iv (.sl (lims a)) ∧ f 7 = .iv (.int .i64 q) ∧ f 8 = .iv (.int .u64 r) ∧ f 9 = .iv (.bool b0) ∧ f 10 = .hs 49 st ∧ f 51 = .iv (.int .i64 m) ∧ H 49 = .blk false st 87 1 (lims out)) (fun f H => (m - intAt f 52).toNat) ?_ ?_
        · refine ⟨0, 1, List.replicate m 0, by omega, Lim.replicate _, by simp, by simp [vl, Nat.mod_one], ?_⟩
          simp (disch := omega) only [wk, tis, Int.reduceNe, Int.reduceEq, Int.reduceLT, Int.reduceLE, Int.reduceAdd, Int.reduceSub, Int.reduceNeg, Int.reduceMul, Int.reduceToNat, Nat.reduceSub, Nat.reduceMul, Nat.reduceLeDiff, Nat.reduceAdd, Nat.reduceLT, Nat.reduceEqDiff, reduceCtorEq, ↓reduceIte, Option.getD_some, Int.toNat_natCast, hb]
        rintro f H ⟨i, st, out, hi, hO, hOl, hv, hF⟩
        rw [intAt_of hF.1]
        simp (disch := omega) only [wk, tis, Int.reduceNe, Int.reduceEq, Int.reduceLT, Int.reduceLE, Int.reduceAdd, Int.reduceSub, Int.reduceNeg, Int.reduceMul, Int.reduceToNat, Nat.reduceSub, Nat.reduceMul, Nat.reduceLeDiff, Nat.reduceAdd, Nat.reduceLT, Nat.reduceEqDiff, reduceCtorEq, ↓reduceIte, Option.getD_some, hF]
        refine if_by (fun hlt => ?_) (fun hlt => ?_)
        · have ei : (q : Int) + (i : Int) = ((q + i : Nat) : Int) := by omega
          have ei1 : ((q + i : Nat) : Int) + 1 = ((q + i + 1 : Nat) : Int) := by omega
          have hdg := shr_digit (V := nv (a.drop q)) (i := i) hr (word_at' (ha.drop q) i) (word_at' (ha.drop q) (i + 1))
          rw [hdw, hdw, ← Nat.add_assoc] at hdg
          have hsr := shr_nat (a.getD (q + i) 0) r (by omega)
          have hx := ha.get (q + i + 1)
          have hsh := (word_shl (x := a.getD (q + i + 1) 0) (r := 64 - r) (by omega) hx).1
          rw [show 64 - (64 - r) = r by omega] at hsh
          have hm2 := shl_mod (a.getD (q + i + 1) 0) (64 - r) (by omega)
          rw [hsh] at hm2
          have hor := or_add' (a.getD (q + i + 1) 0 % 2 ^ r) (a.getD (q + i) 0 / 2 ^ r) (64 - r) hdg.2.1 hdg.2.2
          have hls : (out.set i (a.getD (q + i) 0 / 2 ^ r)).length = m := by simp [hOl]
          have hgs : (out.set i (a.getD (q + i) 0 / 2 ^ r)).getD i 0 = a.getD (q + i) 0 / 2 ^ r := getD_set_self (by omega) _
          have hss : ∀ x y, (out.set i x).set i y = out.set i y := fun x y => by simp
          simp (disch := omega) only [wk, tis, Int.reduceNe, Int.reduceEq, Int.reduceLT, Int.reduceLE, Int.reduceAdd, Int.reduceSub, Int.reduceNeg, Int.reduceMul, Int.reduceToNat, Nat.reduceSub, Nat.reduceMul, Nat.reduceLeDiff, Nat.reduceAdd, Nat.reduceLT, Nat.reduceEqDiff, reduceCtorEq, ↓reduceIte, Option.getD_some, hF, ei, hsr]
          refine if_by (fun hr0 => ?_) (fun hr0 => ?_)
          · simp (disch := omega) only [wk, tis, Int.reduceNe, Int.reduceEq, Int.reduceLT, Int.reduceLE, Int.reduceAdd, Int.reduceSub, Int.reduceNeg, Int.reduceMul, Int.reduceToNat, Nat.reduceSub, Nat.reduceMul, Nat.reduceLeDiff, Nat.reduceAdd, Nat.reduceLT, Nat.reduceEqDiff, reduceCtorEq, ↓reduceIte, Option.getD_some, hF, ei, ei1, hgs]
            refine ⟨tmps_by (by kernel_rfl), ?_⟩
            refine call_by ((at_ok a (q + i + 1) (by omega))) (by first | rfl | (simp only [tocvs, tocv, hF, h64, hm2, hor, hgs, hss]; rfl)) (by simp) ?_
            simp (disch := omega) only [wk, tis, Int.reduceNe, Int.reduceEq, Int.reduceLT, Int.reduceLE, Int.reduceAdd, Int.reduceSub, Int.reduceNeg, Int.reduceMul, Int.reduceToNat, Nat.reduceSub, Nat.reduceMul, Nat.reduceLeDiff, Nat.reduceAdd, Nat.reduceLT, Nat.reduceEqDiff, reduceCtorEq, ↓reduceIte, Option.getD_some, hF, h64, hm2, hor, hgs, hss]
            first | exact log_by (by kernel_rfl) | refine ⟨log_by (by kernel_rfl), ?_⟩
            refine ⟨⟨i + 1, st, out.set i (a.getD (q + i + 1) 0 % 2 ^ r * 2 ^ (64 - r) + a.getD (q + i) 0 / 2 ^ r), by omega, hO.set hdg.2.2, by simp [hOl], ?_, by omega, rfl, rfl⟩, by omega⟩
            simp only [nv] at hv hdg ⊢
            rw [vl_take_set W (by omega), hv, ← hdg.1, Nat.mod_pow_succ]
          · simp (disch := omega) only [wk, tis, Int.reduceNe, Int.reduceEq, Int.reduceLT, Int.reduceLE, Int.reduceAdd, Int.reduceSub, Int.reduceNeg, Int.reduceMul, Int.reduceToNat, Nat.reduceSub, Nat.reduceMul, Nat.reduceLeDiff, Nat.reduceAdd, Nat.reduceLT, Nat.reduceEqDiff, reduceCtorEq, ↓reduceIte, Option.getD_some, hF, ei]
            have hr1 : r = 0 := by omega
            subst hr1
            refine ⟨⟨i + 1, st, out.set i (a.getD (q + i) 0 / 2 ^ 0), by omega, hO.set (by rw [Nat.pow_zero, Nat.div_one]; exact ha.get _), by simp [hOl], ?_, by omega, rfl, rfl⟩, by omega⟩
            have h0 := word_at' (ha.drop q) i
            rw [hdw] at h0
            simp only [nv, Nat.pow_zero, Nat.div_one] at hv h0 ⊢
            rw [vl_take_set W (by omega), hv, h0, Nat.mod_pow_succ]
        · simp (disch := omega) only [wk, tis, Int.reduceNe, Int.reduceEq, Int.reduceLT, Int.reduceLE, Int.reduceAdd, Int.reduceSub, Int.reduceNeg, Int.reduceMul, Int.reduceToNat, Nat.reduceSub, Nat.reduceMul, Nat.reduceLeDiff, Nat.reduceAdd, Nat.reduceLT, Nat.reduceEqDiff, reduceCtorEq, ↓reduceIte, Option.getD_some, hF]
          have : i = m := by omega
          subst this
          rw [List.take_of_length_le (by omega), hV] at hv
          rw [eq_pad hO hOl hv]

end Go.Proofs.Ythgecppfgdadiaa
