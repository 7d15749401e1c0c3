/-
  Contracts of the functions that the law reaches.
-/
import Derived.Test.YtcocppjgbcbndaaGreatL51M
import Derived.Test.YtcocppjgbcbndaaGreatL1M
namespace Go.Proofs.YtcocppjgbcbndaaGreat
open Go Go.Proofs Go.AL
set_option linter.unusedSimpArgs false
set_option linter.unusedVariables false
theorem or_add' (a b m : Nat) (hb : b < 2 ^ m) (h : a * 2 ^ m + b < W) : IntKind.u64.wrap ((BitVec.ofInt IntKind.u64.bits (b : Int) ||| BitVec.ofInt IntKind.u64.bits ((a * 2 ^ m : Nat) : Int)).toNat : Int) = ((a * 2 ^ m + b : Nat) : Int) := by
  rw [BitVec.or_comm]; exact or_add a b m hb h
theorem word_at' {l : List Nat} (h : Lim l) (k : Nat) : l.getD k 0 = nv l / W ^ k % W := by
  have h1 := vl_take_next W l k
  have e1 := nv_take h (k + 1)
  have e2 := nv_take h k
  simp only [nv] at *
  rw [e1, e2, Nat.mod_pow_succ] at h1
  exact (Nat.eq_of_mul_eq_mul_left (W_pow_pos k) (Nat.add_left_cancel h1)).symm
theorem shr_digit {V r i x y : Nat} (hr : r < 64) (hx : x = V / W ^ i % W) (hy : y = V / W ^ (i + 1) % W) : V / 2 ^ r / W ^ i % W = (y % 2 ^ r) * 2 ^ (64 - r) + x / 2 ^ r ∧ x / 2 ^ r < 2 ^ (64 - r) ∧ (y % 2 ^ r) * 2 ^ (64 - r) + x / 2 ^ r < W := by
  have e : W = 2 ^ r * 2 ^ (64 - r) := by rw [← Nat.pow_add, show r + (64 - r) = 64 by omega]
  have hp := Nat.pow_pos (n := r) (show 0 < 2 by decide)
  have hp' := Nat.pow_pos (n := 64 - r) (show 0 < 2 by decide)
  have hxW : x < W := by rw [hx]; exact Nat.mod_lt _ (by decide)
  have b1 : x / 2 ^ r < 2 ^ (64 - r) := by rw [Nat.div_lt_iff_lt_mul hp, Nat.mul_comm, ← e]; exact hxW
  have hT : V / W ^ i = x + W * (V / W ^ (i + 1)) := by
    rw [hx, Nat.pow_succ, ← Nat.div_div_eq_div_mul]; exact (Nat.mod_add_div _ _).symm
  generalize hT1 : V / W ^ (i + 1) = T at *
  have hm : y % 2 ^ r = T % 2 ^ r := by
    rw [hy, e, Nat.mod_mul_right_mod]
  have hlt : T % 2 ^ r < 2 ^ r := Nat.mod_lt _ hp
  have b2 : T % 2 ^ r * 2 ^ (64 - r) + 2 ^ (64 - r) ≤ W := by
    rw [e, ← Nat.succ_mul]; exact Nat.mul_le_mul_right _ hlt
  refine ⟨?_, b1, by rw [hm]; omega⟩
  have h1 : V / 2 ^ r / W ^ i = x / 2 ^ r + 2 ^ (64 - r) * T := by
    rw [Nat.div_div_eq_div_mul, Nat.mul_comm, ← Nat.div_div_eq_div_mul, hT]
    rw [show W * T = 2 ^ r * (2 ^ (64 - r) * T) by rw [e, Nat.mul_assoc], Nat.add_mul_div_left _ _ hp]
  rw [h1, hm]
  have h2 : 2 ^ (64 - r) * T = T % 2 ^ r * 2 ^ (64 - r) + W * (T / 2 ^ r) := by
    conv => lhs; rw [← Nat.mod_add_div T (2 ^ r), Nat.mul_add]
    rw [Nat.mul_comm (2 ^ (64 - r)) (T % 2 ^ r), e, ← Nat.mul_assoc, Nat.mul_comm (2 ^ (64 - r)) (2 ^ r)]
  rw [h2, ← Nat.add_assoc, Nat.add_mul_mod_self_left, Nat.add_comm (x / 2 ^ r), Nat.mod_eq_of_lt (by omega)]
theorem getD_set_self {l : List Nat} {i : Nat} (h : i < l.length) (x : Nat) : (l.set i x).getD i 0 = x := by
  simp [List.getD, h]
theorem lshr_ok (a : List Nat) (n : Nat) (ha : Lim a) (hl : a.length ≤ 2 ^ 40) (hn : n ≤ 2 ^ 60) : ∃ b, AC Tryz.prog 182 [cl a, ci n] none [cl (pad (a.length - n / 64) (nv a / 2 ^ n)), cb b, ci 0] := by
  have e1 := tdiv_nat n 64
  have e2 := tmod_nat n 64
  have h1 : ¬ (n : Int) < 0 := by omega
  have hw : IntKind.u64.wrap ((n % 64 : Nat) : Int) = ((n % 64 : Nat) : Int) := wrap_nat (by simp only [W]; omega)
  have e1' : (n : Int).tdiv 64 = ((n / 64 : Nat) : Int) := e1
  have e2' : (n : Int).tmod 64 = ((n % 64 : Nat) : Int) := e2
  have hr : n % 64 < 64 := Nat.mod_lt _ (by omega)
  have eQ : nv a / 2 ^ n = nv a / W ^ (n / 64) / 2 ^ (n % 64) := by
    rw [Nat.div_div_eq_div_mul, show W = 2 ^ 64 from rfl, ← Nat.pow_mul, ← Nat.pow_add, Nat.div_add_mod]
  rw [eQ]
  have hqb : n / 64 ≤ 2 ^ 60 := by omega
  generalize n / 64 = q at *
  generalize n % 64 = r at *
  by_cases hq : (a.length : Int) ≤ q
  · refine ⟨decide (0 < (topN a : Int)), ?_⟩
    refine AC.by_walk (rs := [.tmp 4, .tmp 5, .tmp 6]) ords Tryz.func182 (by rfl) (by rfl) (by rfl) (by rfl) (by rfl) ?_
    simp (disch := omega) only [wk, tis, Int.reduceNe, Int.reduceEq, Int.reduceLT, Int.reduceLE, Int.reduceAdd, Int.reduceSub, Int.reduceNeg, Int.reduceMul, Int.reduceToNat, Nat.reduceSub, Nat.reduceMul, Nat.reduceLeDiff, Nat.reduceAdd, Nat.reduceLT, Nat.reduceEqDiff, reduceCtorEq, ↓reduceIte, Option.getD_some, h1, e1', e2', hw, hq]
    refine call_by ((top_ok a (by omega))) (by first | rfl | (simp only [tocvs, tocv, h1, hq]; rfl) | (simp only [tocvs, tocv, toboxes, tobox, updH_at, Nat.reduceEqDiff, ↓reduceIte, h1, hq]; rfl)) (by simp) ?_
    simp (disch := omega) only [wk, tis, Int.reduceNe, Int.reduceEq, Int.reduceLT, Int.reduceLE, Int.reduceAdd, Int.reduceSub, Int.reduceNeg, Int.reduceMul, Int.reduceToNat, Nat.reduceSub, Nat.reduceMul, Nat.reduceLeDiff, Nat.reduceAdd, Nat.reduceLT, Nat.reduceEqDiff, reduceCtorEq, ↓reduceIte, Option.getD_some, h1, hq]
    rw [show a.length - q = 0 by omega]
    rfl
  have h64 : IntKind.u64.wrap (64 - (r : Int)) = ((64 - r : Nat) : Int) := by rw [show (64 : Int) - r = ((64 - r : Nat) : Int) by omega]; exact wrap_nat (by simp only [W]; omega)
  have hm1 := shl_mod (a.getD q 0) (64 - r) (by omega)
  refine ⟨decide (0 < (topN (a.take q) : Int)) || (decide (¬ ((a.getD q 0 * 2 ^ (64 - r) % W : Nat) : Int) = 0) && decide (0 < (r : Int))), ?_⟩
  generalize hb : (decide (0 < (topN (a.take q) : Int)) || (decide (¬ ((a.getD q 0 * 2 ^ (64 - r) % W : Nat) : Int) = 0) && decide (0 < (r : Int)))) = b0
  have hV := nv_drop ha q
  have hdl : (a.drop q).length = a.length - q := by simp
  have hdw : ∀ i, (a.drop q).getD i 0 = a.getD (q + i) 0 := fun i => by simp [List.getD, List.getElem?_drop]
  refine AC.by_walk (rs := [.tmp 4, .tmp 5, .tmp 6]) ords Tryz.func182 (by rfl) (by rfl) (by rfl) (by rfl) (by rfl) ?_
  simp (disch := omega) only [wk, tis, Int.reduceNe, Int.reduceEq, Int.reduceLT, Int.reduceLE, Int.reduceAdd, Int.reduceSub, Int.reduceNeg, Int.reduceMul, Int.reduceToNat, Nat.reduceSub, Nat.reduceMul, Nat.reduceLeDiff, Nat.reduceAdd, Nat.reduceLT, Nat.reduceEqDiff, reduceCtorEq, ↓reduceIte, Option.getD_some, h1, e1', e2', hw, hq]
  have htk : (a.take q).length ≤ 2 ^ 43 := by rw [List.length_take]; omega
  refine call_by ((top_ok (a.take q) htk)) (by first | rfl | (simp only [tocvs, tocv, h1, hq]; rfl) | (simp only [tocvs, tocv, toboxes, tobox, updH_at, Nat.reduceEqDiff, ↓reduceIte, h1, hq]; rfl)) (by simp) ?_
  have emq : (a.length : Int) - (q : Int) = ((a.length - q : Nat) : Int) := by omega
  generalize hm : a.length - q = m at *
  by_cases hA : 0 < (topN (a.take q) : Int)
  · rw [decide_eq_true hA, Bool.true_or] at hb
    simp (disch := omega) only [wk, tis, Int.reduceNe, Int.reduceEq, Int.reduceLT, Int.reduceLE, Int.reduceAdd, Int.reduceSub, Int.reduceNeg, Int.reduceMul, Int.reduceToNat, Nat.reduceSub, Nat.reduceMul, Nat.reduceLeDiff, Nat.reduceAdd, Nat.reduceLT, Nat.reduceEqDiff, reduceCtorEq, ↓reduceIte, Option.getD_some, hA, emq]
    refine aloop_by (fun f H => ∃ (i st : Nat) (out : List Nat), i ≤ m ∧ Lim out ∧ out.length = m ∧ nv (out.take i) = nv (a.drop q) / 2 ^ r % W ^ i ∧ f 52 = .iv (.int .i64 i) ∧ f 0 = .iv (.sl (lims a)) ∧ f 7 = .iv (.int .i64 q) ∧ f 8 = .iv (.int .u64 r) ∧ f 9 = .iv (.bool b0) ∧ f 10 = .hs 49 st ∧ f 51 = .iv (.int .i64 m) ∧ H 49 = .blk false st 77 1 (lims out)) (fun f H => (m - intAt f 52).toNat) ?_ ?_
    · refine ⟨0, 1, List.replicate m 0, by omega, Lim.replicate _, by simp, by simp [vl, Nat.mod_one], ?_⟩
      simp (disch := omega) only [wk, tis, Int.reduceNe, Int.reduceEq, Int.reduceLT, Int.reduceLE, Int.reduceAdd, Int.reduceSub, Int.reduceNeg, Int.reduceMul, Int.reduceToNat, Nat.reduceSub, Nat.reduceMul, Nat.reduceLeDiff, Nat.reduceAdd, Nat.reduceLT, Nat.reduceEqDiff, reduceCtorEq, ↓reduceIte, Option.getD_some, Int.toNat_natCast, hb]
    rintro f H ⟨i, st, out, hi, hO, hOl, hv, hF⟩
    rw [intAt_of hF.1]
    simp (disch := omega) only [wk, tis, Int.reduceNe, Int.reduceEq, Int.reduceLT, Int.reduceLE, Int.reduceAdd, Int.reduceSub, Int.reduceNeg, Int.reduceMul, Int.reduceToNat, Nat.reduceSub, Nat.reduceMul, Nat.reduceLeDiff, Nat.reduceAdd, Nat.reduceLT, Nat.reduceEqDiff, reduceCtorEq, ↓reduceIte, Option.getD_some, hF]
    refine if_by (fun hlt => ?_) (fun hlt => ?_)
    · have ei : (q : Int) + (i : Int) = ((q + i : Nat) : Int) := by omega
      have ei1 : ((q + i : Nat) : Int) + 1 = ((q + i + 1 : Nat) : Int) := by omega
      have hdg := shr_digit (V := nv (a.drop q)) (i := i) hr (word_at' (ha.drop q) i) (word_at' (ha.drop q) (i + 1))
      rw [hdw, hdw, ← Nat.add_assoc] at hdg
      have hsr := shr_nat (a.getD (q + i) 0) r (by omega)
      have hx := ha.get (q + i + 1)
      have hsh := (word_shl (x := a.getD (q + i + 1) 0) (r := 64 - r) (by omega) hx).1
      rw [show 64 - (64 - r) = r by omega] at hsh
      have hm2 := shl_mod (a.getD (q + i + 1) 0) (64 - r) (by omega)
      rw [hsh] at hm2
      have hor := or_add' (a.getD (q + i + 1) 0 % 2 ^ r) (a.getD (q + i) 0 / 2 ^ r) (64 - r) hdg.2.1 hdg.2.2
      have hls : (out.set i (a.getD (q + i) 0 / 2 ^ r)).length = m := by simp [hOl]
      have hgs : (out.set i (a.getD (q + i) 0 / 2 ^ r)).getD i 0 = a.getD (q + i) 0 / 2 ^ r := getD_set_self (by omega) _
      have hss : ∀ x y, (out.set i x).set i y = out.set i y := fun x y => by simp
      simp (disch := omega) only [wk, tis, Int.reduceNe, Int.reduceEq, Int.reduceLT, Int.reduceLE, Int.reduceAdd, Int.reduceSub, Int.reduceNeg, Int.reduceMul, Int.reduceToNat, Nat.reduceSub, Nat.reduceMul, Nat.reduceLeDiff, Nat.reduceAdd, Nat.reduceLT, Nat.reduceEqDiff, reduceCtorEq, ↓reduceIte, Option.getD_some, hF, ei, hsr]
      refine if_by (fun hr0 => ?_) (fun hr0 => ?_)
      · simp (disch := omega) only [wk, tis, Int.reduceNe, Int.reduceEq, Int.reduceLT, Int.reduceLE, Int.reduceAdd, Int.reduceSub, Int.reduceNeg, Int.reduceMul, Int.reduceToNat, Nat.reduceSub, Nat.reduceMul, Nat.reduceLeDiff, Nat.reduceAdd, Nat.reduceLT, Nat.reduceEqDiff, reduceCtorEq, ↓reduceIte, Option.getD_some, hF, ei, ei1, hgs]
        refine ⟨tmps_by (by kernel_rfl), ?_⟩
        refine call_by ((at_ok a (q + i + 1) (by omega))) (by first | rfl | (simp only [tocvs, tocv, hF, h64, hm2, hor, hgs, hss]; rfl) | (simp only [tocvs, tocv, toboxes, tobox, updH_at, Nat.reduceEqDiff, ↓reduceIte, hF, h64, hm2, hor, hgs, hss]; rfl)) (by simp) ?_
        simp (disch := omega) only [wk, tis, Int.reduceNe, Int.reduceEq, Int.reduceLT, Int.reduceLE, Int.reduceAdd, Int.reduceSub, Int.reduceNeg, Int.reduceMul, Int.reduceToNat, Nat.reduceSub, Nat.reduceMul, Nat.reduceLeDiff, Nat.reduceAdd, Nat.reduceLT, Nat.reduceEqDiff, reduceCtorEq, ↓reduceIte, Option.getD_some, hF, h64, hm2, hor, hgs, hss]
        first | exact log_by (by kernel_rfl) | refine ⟨log_by (by kernel_rfl), ?_⟩
        refine ⟨⟨i + 1, st, out.set i (a.getD (q + i + 1) 0 % 2 ^ r * 2 ^ (64 - r) + a.getD (q + i) 0 / 2 ^ r), by omega, hO.set hdg.2.2, by simp [hOl], ?_, by omega, rfl, rfl⟩, by omega⟩
        simp only [nv] at hv hdg ⊢
        rw [vl_take_set W (by omega), hv, ← hdg.1, Nat.mod_pow_succ]
      · simp (disch := omega) only [wk, tis, Int.reduceNe, Int.reduceEq, Int.reduceLT, Int.reduceLE, Int.reduceAdd, Int.reduceSub, Int.reduceNeg, Int.reduceMul, Int.reduceToNat, Nat.reduceSub, Nat.reduceMul, Nat.reduceLeDiff, Nat.reduceAdd, Nat.reduceLT, Nat.reduceEqDiff, reduceCtorEq, ↓reduceIte, Option.getD_some, hF, ei]
        have hr1 : r = 0 := by omega
        subst hr1
        refine ⟨⟨i + 1, st, out.set i (a.getD (q + i) 0 / 2 ^ 0), by omega, hO.set (by rw [Nat.pow_zero, Nat.div_one]; exact ha.get _), by simp [hOl], ?_, by omega, rfl, rfl⟩, by omega⟩
        have h0 := word_at' (ha.drop q) i
        rw [hdw] at h0
        simp only [nv, Nat.pow_zero, Nat.div_one] at hv h0 ⊢
        rw [vl_take_set W (by omega), hv, h0, Nat.mod_pow_succ]
    · simp (disch := omega) only [wk, tis, Int.reduceNe, Int.reduceEq, Int.reduceLT, Int.reduceLE, Int.reduceAdd, Int.reduceSub, Int.reduceNeg, Int.reduceMul, Int.reduceToNat, Nat.reduceSub, Nat.reduceMul, Nat.reduceLeDiff, Nat.reduceAdd, Nat.reduceLT, Nat.reduceEqDiff, reduceCtorEq, ↓reduceIte, Option.getD_some, hF]
      have : i = m := by omega
      subst this
      rw [List.take_of_length_le (by omega), hV] at hv
      rw [eq_pad hO hOl hv]
  · by_cases hB : ((a.getD q 0 * 2 ^ (64 - r) % W : Nat) : Int) = 0
    · rw [decide_eq_false hA, Bool.false_or, decide_eq_false (by simpa using hB), Bool.false_and] at hb
      simp (disch := omega) only [wk, tis, Int.reduceNe, Int.reduceEq, Int.reduceLT, Int.reduceLE, Int.reduceAdd, Int.reduceSub, Int.reduceNeg, Int.reduceMul, Int.reduceToNat, Nat.reduceSub, Nat.reduceMul, Nat.reduceLeDiff, Nat.reduceAdd, Nat.reduceLT, Nat.reduceEqDiff, reduceCtorEq, ↓reduceIte, Option.getD_some, hA, emq, h64, hm1, hB]
      refine aloop_by (fun f H => ∃ (i st : Nat) (out : List Nat), i ≤ m ∧ Lim out ∧ out.length = m ∧ nv (out.take i) = nv (a.drop q) / 2 ^ r % W ^ i ∧ f 52 = .iv (.int .i64 i) ∧ f 0 = .iv (.sl (lims a)) ∧ f 7 = .iv (.int .i64 q) ∧ f 8 = .iv (.int .u64 r) ∧ f 9 = .iv (.bool b0) ∧ f 10 = .hs 49 st ∧ f 51 = .iv (.int .i64 m) ∧ H 49 = .blk false st 77 1 (lims out)) (fun f H => (m - intAt f 52).toNat) ?_ ?_
      · refine ⟨0, 1, List.replicate m 0, by omega, Lim.replicate _, by simp, by simp [vl, Nat.mod_one], ?_⟩
        simp (disch := omega) only [wk, tis, Int.reduceNe, Int.reduceEq, Int.reduceLT, Int.reduceLE, Int.reduceAdd, Int.reduceSub, Int.reduceNeg, Int.reduceMul, Int.reduceToNat, Nat.reduceSub, Nat.reduceMul, Nat.reduceLeDiff, Nat.reduceAdd, Nat.reduceLT, Nat.reduceEqDiff, reduceCtorEq, ↓reduceIte, Option.getD_some, Int.toNat_natCast, hb]
      rintro f H ⟨i, st, out, hi, hO, hOl, hv, hF⟩
      rw [intAt_of hF.1]
      simp (disch := omega) only [wk, tis, Int.reduceNe, Int.reduceEq, Int.reduceLT, Int.reduceLE, Int.reduceAdd, Int.reduceSub, Int.reduceNeg, Int.reduceMul, Int.reduceToNat, Nat.reduceSub, Nat.reduceMul, Nat.reduceLeDiff, Nat.reduceAdd, Nat.reduceLT, Nat.reduceEqDiff, reduceCtorEq, ↓reduceIte, Option.getD_some, hF]
      refine if_by (fun hlt => ?_) (fun hlt => ?_)
      · have ei : (q : Int) + (i : Int) = ((q + i : Nat) : Int) := by omega
        have ei1 : ((q + i : Nat) : Int) + 1 = ((q + i + 1 : Nat) : Int) := by omega
        have hdg := shr_digit (V := nv (a.drop q)) (i := i) hr (word_at' (ha.drop q) i) (word_at' (ha.drop q) (i + 1))
        rw [hdw, hdw, ← Nat.add_assoc] at hdg
        have hsr := shr_nat (a.getD (q + i) 0) r (by omega)
        have hx := ha.get (q + i + 1)
        have hsh := (word_shl (x := a.getD (q + i + 1) 0) (r := 64 - r) (by omega) hx).1
        rw [show 64 - (64 - r) = r by omega] at hsh
        have hm2 := shl_mod (a.getD (q + i + 1) 0) (64 - r) (by omega)
        rw [hsh] at hm2
        have hor := or_add' (a.getD (q + i + 1) 0 % 2 ^ r) (a.getD (q + i) 0 / 2 ^ r) (64 - r) hdg.2.1 hdg.2.2
        have hls : (out.set i (a.getD (q + i) 0 / 2 ^ r)).length = m := by simp [hOl]
        have hgs : (out.set i (a.getD (q + i) 0 / 2 ^ r)).getD i 0 = a.getD (q + i) 0 / 2 ^ r := getD_set_self (by omega) _
        have hss : ∀ x y, (out.set i x).set i y = out.set i y := fun x y => by simp
        simp (disch := omega) only [wk, tis, Int.reduceNe, Int.reduceEq, Int.reduceLT, Int.reduceLE, Int.reduceAdd, Int.reduceSub, Int.reduceNeg, Int.reduceMul, Int.reduceToNat, Nat.reduceSub, Nat.reduceMul, Nat.reduceLeDiff, Nat.reduceAdd, Nat.reduceLT, Nat.reduceEqDiff, reduceCtorEq, ↓reduceIte, Option.getD_some, hF, ei, hsr]
        refine if_by (fun hr0 => ?_) (fun hr0 => ?_)
        · simp (disch := omega) only [wk, tis, Int.reduceNe, Int.reduceEq, Int.reduceLT, Int.reduceLE, Int.reduceAdd, Int.reduceSub, Int.reduceNeg, Int.reduceMul, Int.reduceToNat, Nat.reduceSub, Nat.reduceMul, Nat.reduceLeDiff, Nat.reduceAdd, Nat.reduceLT, Nat.reduceEqDiff, reduceCtorEq, ↓reduceIte, Option.getD_some, hF, ei, ei1, hgs]
          refine ⟨tmps_by (by kernel_rfl), ?_⟩
          refine call_by ((at_ok a (q + i + 1) (by omega))) (by first | rfl | (simp only [tocvs, tocv, hF, h64, hm2, hor, hgs, hss]; rfl) | (simp only [tocvs, tocv, toboxes, tobox, updH_at, Nat.reduceEqDiff, ↓reduceIte, hF, h64, hm2, hor, hgs, hss]; rfl)) (by simp) ?_
          simp (disch := omega) only [wk, tis, Int.reduceNe, Int.reduceEq, Int.reduceLT, Int.reduceLE, Int.reduceAdd, Int.reduceSub, Int.reduceNeg, Int.reduceMul, Int.reduceToNat, Nat.reduceSub, Nat.reduceMul, Nat.reduceLeDiff, Nat.reduceAdd, Nat.reduceLT, Nat.reduceEqDiff, reduceCtorEq, ↓reduceIte, Option.getD_some, hF, h64, hm2, hor, hgs, hss]
          first | exact log_by (by kernel_rfl) | refine ⟨log_by (by kernel_rfl), ?_⟩
          refine ⟨⟨i + 1, st, out.set i (a.getD (q + i + 1) 0 % 2 ^ r * 2 ^ (64 - r) + a.getD (q + i) 0 / 2 ^ r), by omega, hO.set hdg.2.2, by simp [hOl], ?_, by omega, rfl, rfl⟩, by omega⟩
          simp only [nv] at hv hdg ⊢
          rw [vl_take_set W (by omega), hv, ← hdg.1, Nat.mod_pow_succ]
        · simp (disch := omega) only [wk, tis, Int.reduceNe, Int.reduceEq, Int.reduceLT, Int.reduceLE, Int.reduceAdd, Int.reduceSub, Int.reduceNeg, Int.reduceMul, Int.reduceToNat, Nat.reduceSub, Nat.reduceMul, Nat.reduceLeDiff, Nat.reduceAdd, Nat.reduceLT, Nat.reduceEqDiff, reduceCtorEq, ↓reduceIte, Option.getD_some, hF, ei]
          have hr1 : r = 0 := by omega
          subst hr1
          refine ⟨⟨i + 1, st, out.set i (a.getD (q + i) 0 / 2 ^ 0), by omega, hO.set (by rw [Nat.pow_zero, Nat.div_one]; exact ha.get _), by simp [hOl], ?_, by omega, rfl, rfl⟩, by omega⟩
          have h0 := word_at' (ha.drop q) i
          rw [hdw] at h0
          simp only [nv, Nat.pow_zero, Nat.div_one] at hv h0 ⊢
          rw [vl_take_set W (by omega), hv, h0, Nat.mod_pow_succ]
      · simp (disch := omega) only [wk, tis, Int.reduceNe, Int.reduceEq, Int.reduceLT, Int.reduceLE, Int.reduceAdd, Int.reduceSub, Int.reduceNeg, Int.reduceMul, Int.reduceToNat, Nat.reduceSub, Nat.reduceMul, Nat.reduceLeDiff, Nat.reduceAdd, Nat.reduceLT, Nat.reduceEqDiff, reduceCtorEq, ↓reduceIte, Option.getD_some, hF]
        have : i = m := by omega
        subst this
        rw [List.take_of_length_le (by omega), hV] at hv
        rw [eq_pad hO hOl hv]
    · by_cases hC : 0 < (r : Int)
      · rw [decide_eq_false hA, Bool.false_or, decide_eq_true hB, decide_eq_true hC, Bool.true_and] at hb
        simp (disch := omega) only [wk, tis, Int.reduceNe, Int.reduceEq, Int.reduceLT, Int.reduceLE, Int.reduceAdd, Int.reduceSub, Int.reduceNeg, Int.reduceMul, Int.reduceToNat, Nat.reduceSub, Nat.reduceMul, Nat.reduceLeDiff, Nat.reduceAdd, Nat.reduceLT, Nat.reduceEqDiff, reduceCtorEq, ↓reduceIte, Option.getD_some, hA, emq, h64, hm1, hB, hC]
        refine aloop_by (fun f H => ∃ (i st : Nat) (out : List Nat), i ≤ m ∧ Lim out ∧ out.length = m ∧ nv (out.take i) = nv (a.drop q) / 2 ^ r % W ^ i ∧ f 52 = .iv (.int .i64 i) ∧ f 0 = .iv (.sl (lims a)) ∧ f 7 = .iv (.int .i64 q) ∧ f 8 = .iv (.int .u64 r) ∧ f 9 = .iv (.bool b0) ∧ f 10 = .hs 49 st ∧ f 51 = .iv (.int .i64 m) ∧ H 49 = .blk false st 77 1 (lims out)) (fun f H => (m - intAt f 52).toNat) ?_ ?_
        · refine ⟨0, 1, List.replicate m 0, by omega, Lim.replicate _, by simp, by simp [vl, Nat.mod_one], ?_⟩
          simp (disch := omega) only [wk, tis, Int.reduceNe, Int.reduceEq, Int.reduceLT, Int.reduceLE, Int.reduceAdd, Int.reduceSub, Int.reduceNeg, Int.reduceMul, Int.reduceToNat, Nat.reduceSub, Nat.reduceMul, Nat.reduceLeDiff, Nat.reduceAdd, Nat.reduceLT, Nat.reduceEqDiff, reduceCtorEq, ↓reduceIte, Option.getD_some, Int.toNat_natCast, hb]
        rintro f H ⟨i, st, out, hi, hO, hOl, hv, hF⟩
        rw [intAt_of hF.1]
        simp (disch := omega) only [wk, tis, Int.reduceNe, Int.reduceEq, Int.reduceLT, Int.reduceLE, Int.reduceAdd, Int.reduceSub, Int.reduceNeg, Int.reduceMul, Int.reduceToNat, Nat.reduceSub, Nat.reduceMul, Nat.reduceLeDiff, Nat.reduceAdd, Nat.reduceLT, Nat.reduceEqDiff, reduceCtorEq, ↓reduceIte, Option.getD_some, hF]
        refine if_by (fun hlt => ?_) (fun hlt => ?_)
        · have ei : (q : Int) + (i : Int) = ((q + i : Nat) : Int) := by omega
          have ei1 : ((q + i : Nat) : Int) + 1 = ((q + i + 1 : Nat) : Int) := by omega
          have hdg := shr_digit (V := nv (a.drop q)) (i := i) hr (word_at' (ha.drop q) i) (word_at' (ha.drop q) (i + 1))
          rw [hdw, hdw, ← Nat.add_assoc] at hdg
          have hsr := shr_nat (a.getD (q + i) 0) r (by omega)
          have hx := ha.get (q + i + 1)
          have hsh := (word_shl (x := a.getD (q + i + 1) 0) (r := 64 - r) (by omega) hx).1
          rw [show 64 - (64 - r) = r by omega] at hsh
          have hm2 := shl_mod (a.getD (q + i + 1) 0) (64 - r) (by omega)
          rw [hsh] at hm2
          have hor := or_add' (a.getD (q + i + 1) 0 % 2 ^ r) (a.getD (q + i) 0 / 2 ^ r) (64 - r) hdg.2.1 hdg.2.2
          have hls : (out.set i (a.getD (q + i) 0 / 2 ^ r)).length = m := by simp [hOl]
          have hgs : (out.set i (a.getD (q + i) 0 / 2 ^ r)).getD i 0 = a.getD (q + i) 0 / 2 ^ r := getD_set_self (by omega) _
          have hss : ∀ x y, (out.set i x).set i y = out.set i y := fun x y => by simp
          simp (disch := omega) only [wk, tis, Int.reduceNe, Int.reduceEq, Int.reduceLT, Int.reduceLE, Int.reduceAdd, Int.reduceSub, Int.reduceNeg, Int.reduceMul, Int.reduceToNat, Nat.reduceSub, Nat.reduceMul, Nat.reduceLeDiff, Nat.reduceAdd, Nat.reduceLT, Nat.reduceEqDiff, reduceCtorEq, ↓reduceIte, Option.getD_some, hF, ei, hsr]
          refine if_by (fun hr0 => ?_) (fun hr0 => ?_)
          · simp (disch := omega) only [wk, tis, Int.reduceNe, Int.reduceEq, Int.reduceLT, Int.reduceLE, Int.reduceAdd, Int.reduceSub, Int.reduceNeg, Int.reduceMul, Int.reduceToNat, Nat.reduceSub, Nat.reduceMul, Nat.reduceLeDiff, Nat.reduceAdd, Nat.reduceLT, Nat.reduceEqDiff, reduceCtorEq, ↓reduceIte, Option.getD_some, hF, ei, ei1, hgs]
            refine ⟨tmps_by (by kernel_rfl), ?_⟩
            refine call_by ((at_ok a (q + i + 1) (by omega))) (by first | rfl | (simp only [tocvs, tocv, hF, h64, hm2, hor, hgs, hss]; rfl) | (simp only [tocvs, tocv, toboxes, tobox, updH_at, Nat.reduceEqDiff, ↓reduceIte, hF, h64, hm2, hor, hgs, hss]; rfl)) (by simp) ?_
            simp (disch := omega) only [wk, tis, Int.reduceNe, Int.reduceEq, Int.reduceLT, Int.reduceLE, Int.reduceAdd, Int.reduceSub, Int.reduceNeg, Int.reduceMul, Int.reduceToNat, Nat.reduceSub, Nat.reduceMul, Nat.reduceLeDiff, Nat.reduceAdd, Nat.reduceLT, Nat.reduceEqDiff, reduceCtorEq, ↓reduceIte, Option.getD_some, hF, h64, hm2, hor, hgs, hss]
            first | exact log_by (by kernel_rfl) | refine ⟨log_by (by kernel_rfl), ?_⟩
            refine ⟨⟨i + 1, st, out.set i (a.getD (q + i + 1) 0 % 2 ^ r * 2 ^ (64 - r) + a.getD (q + i) 0 / 2 ^ r), by omega, hO.set hdg.2.2, by simp [hOl], ?_, by omega, rfl, rfl⟩, by omega⟩
            simp only [nv] at hv hdg ⊢
            rw [vl_take_set W (by omega), hv, ← hdg.1, Nat.mod_pow_succ]
          · simp (disch := omega) only [wk, tis, Int.reduceNe, Int.reduceEq, Int.reduceLT, Int.reduceLE, Int.reduceAdd, Int.reduceSub, Int.reduceNeg, Int.reduceMul, Int.reduceToNat, Nat.reduceSub, Nat.reduceMul, Nat.reduceLeDiff, Nat.reduceAdd, Nat.reduceLT, Nat.reduceEqDiff, reduceCtorEq, ↓reduceIte, Option.getD_some, hF, ei]
            have hr1 : r = 0 := by omega
            subst hr1
            refine ⟨⟨i + 1, st, out.set i (a.getD (q + i) 0 / 2 ^ 0), by omega, hO.set (by rw [Nat.pow_zero, Nat.div_one]; exact ha.get _), by simp [hOl], ?_, by omega, rfl, rfl⟩, by omega⟩
            have h0 := word_at' (ha.drop q) i
            rw [hdw] at h0
            simp only [nv, Nat.pow_zero, Nat.div_one] at hv h0 ⊢
            rw [vl_take_set W (by omega), hv, h0, Nat.mod_pow_succ]
        · simp (disch := omega) only [wk, tis, Int.reduceNe, Int.reduceEq, Int.reduceLT, Int.reduceLE, Int.reduceAdd, Int.reduceSub, Int.reduceNeg, Int.reduceMul, Int.reduceToNat, Nat.reduceSub, Nat.reduceMul, Nat.reduceLeDiff, Nat.reduceAdd, Nat.reduceLT, Nat.reduceEqDiff, reduceCtorEq, ↓reduceIte, Option.getD_some, hF]
          have : i = m := by omega
          subst this
          rw [List.take_of_length_le (by omega), hV] at hv
          rw [eq_pad hO hOl hv]
      · rw [decide_eq_false hA, Bool.false_or, decide_eq_true hB, decide_eq_false hC, Bool.true_and] at hb
        simp (disch := omega) only [wk, tis, Int.reduceNe, Int.reduceEq, Int.reduceLT, Int.reduceLE, Int.reduceAdd, Int.reduceSub, Int.reduceNeg, Int.reduceMul, Int.reduceToNat, Nat.reduceSub, Nat.reduceMul, Nat.reduceLeDiff, Nat.reduceAdd, Nat.reduceLT, Nat.reduceEqDiff, reduceCtorEq, ↓reduceIte, Option.getD_some, hA, emq, h64, hm1, hB, hC]
        refine aloop_by (fun f H => ∃ (i st : Nat) (out : List Nat), i ≤ m ∧ Lim out ∧ out.length = m ∧ nv (out.take i) = nv (a.drop q) / 2 ^ r % W ^ i ∧ f 52 = .iv (.int .i64 i) ∧ f 0 = .iv (.sl (lims a)) ∧ f 7 = .iv (.int .i64 q) ∧ f 8 = .iv (.int .u64 r) ∧ f 9 = .iv (.bool b0) ∧ f 10 = .hs 49 st ∧ f 51 = .iv (.int .i64 m) ∧ H 49 = .blk false st 77 1 (lims out)) (fun f H => (m - intAt f 52).toNat) ?_ ?_
        · refine ⟨0, 1, List.replicate m 0, by omega, Lim.replicate _, by simp, by simp [vl, Nat.mod_one], ?_⟩
          simp (disch := omega) only [wk, tis, Int.reduceNe, Int.reduceEq, Int.reduceLT, Int.reduceLE, Int.reduceAdd, Int.reduceSub, Int.reduceNeg, Int.reduceMul, Int.reduceToNat, Nat.reduceSub, Nat.reduceMul, Nat.reduceLeDiff, Nat.reduceAdd, Nat.reduceLT, Nat.reduceEqDiff, reduceCtorEq, ↓reduceIte, Option.getD_some, Int.toNat_natCast, hb]
        rintro f H ⟨i, st, out, hi, hO, hOl, hv, hF⟩
        rw [intAt_of hF.1]
        simp (disch := omega) only [wk, tis, Int.reduceNe, Int.reduceEq, Int.reduceLT, Int.reduceLE, Int.reduceAdd, Int.reduceSub, Int.reduceNeg, Int.reduceMul, Int.reduceToNat, Nat.reduceSub, Nat.reduceMul, Nat.reduceLeDiff, Nat.reduceAdd, Nat.reduceLT, Nat.reduceEqDiff, reduceCtorEq, ↓reduceIte, Option.getD_some, hF]
        refine if_by (fun hlt => ?_) (fun hlt => ?_)
        · have ei : (q : Int) + (i : Int) = ((q + i : Nat) : Int) := by omega
          have ei1 : ((q + i : Nat) : Int) + 1 = ((q + i + 1 : Nat) : Int) := by omega
          have hdg := shr_digit (V := nv (a.drop q)) (i := i) hr (word_at' (ha.drop q) i) (word_at' (ha.drop q) (i + 1))
          rw [hdw, hdw, ← Nat.add_assoc] at hdg
          have hsr := shr_nat (a.getD (q + i) 0) r (by omega)
          have hx := ha.get (q + i + 1)
          have hsh := (word_shl (x := a.getD (q + i + 1) 0) (r := 64 - r) (by omega) hx).1
          rw [show 64 - (64 - r) = r by omega] at hsh
          have hm2 := shl_mod (a.getD (q + i + 1) 0) (64 - r) (by omega)
          rw [hsh] at hm2
          have hor := or_add' (a.getD (q + i + 1) 0 % 2 ^ r) (a.getD (q + i) 0 / 2 ^ r) (64 - r) hdg.2.1 hdg.2.2
          have hls : (out.set i (a.getD (q + i) 0 / 2 ^ r)).length = m := by simp [hOl]
          have hgs : (out.set i (a.getD (q + i) 0 / 2 ^ r)).getD i 0 = a.getD (q + i) 0 / 2 ^ r := getD_set_self (by omega) _
          have hss : ∀ x y, (out.set i x).set i y = out.set i y := fun x y => by simp
          simp (disch := omega) only [wk, tis, Int.reduceNe, Int.reduceEq, Int.reduceLT, Int.reduceLE, Int.reduceAdd, Int.reduceSub, Int.reduceNeg, Int.reduceMul, Int.reduceToNat, Nat.reduceSub, Nat.reduceMul, Nat.reduceLeDiff, Nat.reduceAdd, Nat.reduceLT, Nat.reduceEqDiff, reduceCtorEq, ↓reduceIte, Option.getD_some, hF, ei, hsr]
          refine if_by (fun hr0 => ?_) (fun hr0 => ?_)
          · simp (disch := omega) only [wk, tis, Int.reduceNe, Int.reduceEq, Int.reduceLT, Int.reduceLE, Int.reduceAdd, Int.reduceSub, Int.reduceNeg, Int.reduceMul, Int.reduceToNat, Nat.reduceSub, Nat.reduceMul, Nat.reduceLeDiff, Nat.reduceAdd, Nat.reduceLT, Nat.reduceEqDiff, reduceCtorEq, ↓reduceIte, Option.getD_some, hF, ei, ei1, hgs]
            refine ⟨tmps_by (by kernel_rfl), ?_⟩
            refine call_by ((at_ok a (q + i + 1) (by omega))) (by first | rfl | (simp only [tocvs, tocv, hF, h64, hm2, hor, hgs, hss]; rfl) | (simp only [tocvs, tocv, toboxes, tobox, updH_at, Nat.reduceEqDiff, ↓reduceIte, hF, h64, hm2, hor, hgs, hss]; rfl)) (by simp) ?_
            simp (disch := omega) only [wk, tis, Int.reduceNe, Int.reduceEq, Int.reduceLT, Int.reduceLE, Int.reduceAdd, Int.reduceSub, Int.reduceNeg, Int.reduceMul, Int.reduceToNat, Nat.reduceSub, Nat.reduceMul, Nat.reduceLeDiff, Nat.reduceAdd, Nat.reduceLT, Nat.reduceEqDiff, reduceCtorEq, ↓reduceIte, Option.getD_some, hF, h64, hm2, hor, hgs, hss]
            first | exact log_by (by kernel_rfl) | refine ⟨log_by (by kernel_rfl), ?_⟩
            refine ⟨⟨i + 1, st, out.set i (a.getD (q + i + 1) 0 % 2 ^ r * 2 ^ (64 - r) + a.getD (q + i) 0 / 2 ^ r), by omega, hO.set hdg.2.2, by simp [hOl], ?_, by omega, rfl, rfl⟩, by omega⟩
            simp only [nv] at hv hdg ⊢
            rw [vl_take_set W (by omega), hv, ← hdg.1, Nat.mod_pow_succ]
          · simp (disch := omega) only [wk, tis, Int.reduceNe, Int.reduceEq, Int.reduceLT, Int.reduceLE, Int.reduceAdd, Int.reduceSub, Int.reduceNeg, Int.reduceMul, Int.reduceToNat, Nat.reduceSub, Nat.reduceMul, Nat.reduceLeDiff, Nat.reduceAdd, Nat.reduceLT, Nat.reduceEqDiff, reduceCtorEq, ↓reduceIte, Option.getD_some, hF, ei]
            have hr1 : r = 0 := by omega
            subst hr1
            refine ⟨⟨i + 1, st, out.set i (a.getD (q + i) 0 / 2 ^ 0), by omega, hO.set (by rw [Nat.pow_zero, Nat.div_one]; exact ha.get _), by simp [hOl], ?_, by omega, rfl, rfl⟩, by omega⟩
            have h0 := word_at' (ha.drop q) i
            rw [hdw] at h0
            simp only [nv, Nat.pow_zero, Nat.div_one] at hv h0 ⊢
            rw [vl_take_set W (by omega), hv, h0, Nat.mod_pow_succ]
        · simp (disch := omega) only [wk, tis, Int.reduceNe, Int.reduceEq, Int.reduceLT, Int.reduceLE, Int.reduceAdd, Int.reduceSub, Int.reduceNeg, Int.reduceMul, Int.reduceToNat, Nat.reduceSub, Nat.reduceMul, Nat.reduceLeDiff, Nat.reduceAdd, Nat.reduceLT, Nat.reduceEqDiff, reduceCtorEq, ↓reduceIte, Option.getD_some, hF]
          have : i = m := by omega
          subst this
          rw [List.take_of_length_le (by omega), hV] at hv
          rw [eq_pad hO hOl hv]
end Go.Proofs.YtcocppjgbcbndaaGreat

namespace Go.Proofs.YtcocppjgbcbndaaGreat
open Go Go.Proofs Go.AL
set_option linter.unusedSimpArgs false
set_option linter.unusedVariables false
theorem nshr_ok (a : List Nat) (n : Nat) (ha : Lim a) (hl : a.length ≤ 2 ^ 40) (hn : n ≤ 2 ^ 60) : AC Tryz.prog 176 [cl a, ci n] none [cl (wd (nv a / 2 ^ n)), ci 0] := by
  obtain ⟨b, hb⟩ := lshr_ok a n ha hl hn
  refine AC.by_walk (rs := [.tmp 4, .tmp 5]) ords Tryz.func176 (by rfl) (by rfl) (by rfl) (by rfl) (by rfl) ?_
  have h1 : ¬ (n : Int) < 0 := by omega
  simp (disch := omega) only [wk, tis, Int.reduceNe, Int.reduceEq, Int.reduceLT, Int.reduceLE, Int.reduceAdd, Int.reduceSub, Int.reduceNeg, Int.reduceMul, Int.reduceToNat, Nat.reduceSub, Nat.reduceMul, Nat.reduceLeDiff, Nat.reduceAdd, Nat.reduceLT, Nat.reduceEqDiff, reduceCtorEq, ↓reduceIte, Option.getD_some, h1]
  refine call_by (hb) (by first | rfl | (simp only [tocvs, tocv, h1]; rfl) | (simp only [tocvs, tocv, toboxes, tobox, updH_at, Nat.reduceEqDiff, ↓reduceIte, h1]; rfl)) (by simp) ?_
  simp (disch := omega) only [wk, tis, Int.reduceNe, Int.reduceEq, Int.reduceLT, Int.reduceLE, Int.reduceAdd, Int.reduceSub, Int.reduceNeg, Int.reduceMul, Int.reduceToNat, Nat.reduceSub, Nat.reduceMul, Nat.reduceLeDiff, Nat.reduceAdd, Nat.reduceLT, Nat.reduceEqDiff, reduceCtorEq, ↓reduceIte, Option.getD_some, h1]
  have := own_ok (pad (a.length - n / 64) (nv a / 2 ^ n)) (lim_pad _ _) (by rw [pad_len]; omega)
  have e : nv (pad (a.length - n / 64) (nv a / 2 ^ n)) = nv a / 2 ^ n := by
    rw [nv_pad, Nat.mod_eq_of_lt]
    have h2 := nv_lt ha
    have hd := Nat.div_add_mod n 64
    have e1 : 2 ^ n = W ^ (n / 64) * 2 ^ (n % 64) := by rw [show W = 2 ^ 64 from rfl, ← Nat.pow_mul, ← Nat.pow_add, hd]
    rw [e1, ← Nat.div_div_eq_div_mul]
    refine Nat.lt_of_le_of_lt (Nat.div_le_self _ _) ?_
    rw [Nat.div_lt_iff_lt_mul (W_pow_pos _), ← Nat.pow_add]
    exact Nat.lt_of_lt_of_le h2 (Nat.pow_le_pow_right (by decide) (by omega))
  rw [e] at this
  refine call_by (this) (by first | rfl | (simp only [tocvs, tocv, h1]; rfl) | (simp only [tocvs, tocv, toboxes, tobox, updH_at, Nat.reduceEqDiff, ↓reduceIte, h1]; rfl)) (by simp) ?_
  simp (disch := omega) only [wk, tis, Int.reduceNe, Int.reduceEq, Int.reduceLT, Int.reduceLE, Int.reduceAdd, Int.reduceSub, Int.reduceNeg, Int.reduceMul, Int.reduceToNat, Nat.reduceSub, Nat.reduceMul, Nat.reduceLeDiff, Nat.reduceAdd, Nat.reduceLT, Nat.reduceEqDiff, reduceCtorEq, ↓reduceIte, Option.getD_some, h1]
theorem laddo_ok (a b : List Nat) (ha : Lim a) (hb : Lim b) (hla : a.length ≤ 2 ^ 40) (hlb : b.length ≤ 2 ^ 40) :
    AC Tryz.prog 108 [cl a, cl b] (some (0, 77, 1, lims (pad (max a.length b.length) (nv a + nv b)))) [cl (pad (max a.length b.length) (nv a + nv b)), cu ((nv a + nv b) / W ^ (max a.length b.length))] := by
  refine AC.by_walk (rs := [.tmp 4, .tmp 5]) ords Tryz.func108 (by rfl) (by rfl) (by rfl) (by rfl) (by rfl) ?_
  simp (disch := omega) only [wk, tis, Int.reduceNe, Int.reduceEq, Int.reduceLT, Int.reduceLE, Int.reduceAdd, Int.reduceSub, Int.reduceNeg, Int.reduceMul, Int.reduceToNat, Nat.reduceSub, Nat.reduceMul, Nat.reduceLeDiff, Nat.reduceAdd, Nat.reduceLT, Nat.reduceEqDiff, reduceCtorEq, ↓reduceIte, Option.getD_some]
  refine if_cut (fun f H => ∃ A B, B.length ≤ A.length ∧ A.length ≤ 2 ^ 40 ∧ Lim A ∧ Lim B ∧ A.length = max a.length b.length ∧ nv A + nv B = nv a + nv b ∧ f 0 = .iv (.sl (lims A)) ∧ f 1 = .iv (.sl (lims B))) ?_ ?_
  · refine if_by (fun hz => ?_) (fun hz => ?_)
    · simp (disch := omega) only [wk, tis, Int.reduceNe, Int.reduceEq, Int.reduceLT, Int.reduceLE, Int.reduceAdd, Int.reduceSub, Int.reduceNeg, Int.reduceMul, Int.reduceToNat, Nat.reduceSub, Nat.reduceMul, Nat.reduceLeDiff, Nat.reduceAdd, Nat.reduceLT, Nat.reduceEqDiff, reduceCtorEq, ↓reduceIte, Option.getD_some]
      exact ⟨b, a, by omega, by omega, hb, ha, by omega, by omega, rfl, rfl⟩
    · simp (disch := omega) only [wk, tis, Int.reduceNe, Int.reduceEq, Int.reduceLT, Int.reduceLE, Int.reduceAdd, Int.reduceSub, Int.reduceNeg, Int.reduceMul, Int.reduceToNat, Nat.reduceSub, Nat.reduceMul, Nat.reduceLeDiff, Nat.reduceAdd, Nat.reduceLT, Nat.reduceEqDiff, reduceCtorEq, ↓reduceIte, Option.getD_some]
      exact ⟨a, b, by omega, by omega, ha, hb, by omega, by omega, rfl, rfl⟩
  rintro f H ⟨A, B, hBA, hAl, hA, hB, hAm, hAB, h0, h1⟩
  rw [← hAm, ← hAB]
  simp (disch := omega) only [wk, tis, Int.reduceNe, Int.reduceEq, Int.reduceLT, Int.reduceLE, Int.reduceAdd, Int.reduceSub, Int.reduceNeg, Int.reduceMul, Int.reduceToNat, Nat.reduceSub, Nat.reduceMul, Nat.reduceLeDiff, Nat.reduceAdd, Nat.reduceLT, Nat.reduceEqDiff, reduceCtorEq, ↓reduceIte, Option.getD_some, h0, h1]
  refine call_by ((clone_ok A (by omega))) (by first | rfl | (simp only [tocvs, tocv, h0, h1]; rfl) | (simp only [tocvs, tocv, toboxes, tobox, updH_at, Nat.reduceEqDiff, ↓reduceIte, h0, h1]; rfl)) (by simp) ?_
  simp (disch := omega) only [wk, tis, Int.reduceNe, Int.reduceEq, Int.reduceLT, Int.reduceLE, Int.reduceAdd, Int.reduceSub, Int.reduceNeg, Int.reduceMul, Int.reduceToNat, Nat.reduceSub, Nat.reduceMul, Nat.reduceLeDiff, Nat.reduceAdd, Nat.reduceLT, Nat.reduceEqDiff, reduceCtorEq, ↓reduceIte, Option.getD_some, h0, h1]
  refine aloop_by (fun f H => ∃ (i c : Nat) (out : List Nat) (st : Nat), i ≤ A.length ∧ c ≤ 1 ∧ Lim out ∧ out.length = A.length ∧ out.drop i = A.drop i ∧ nv (out.take i) + W ^ i * c = nv (A.take i) + nv (B.take i) ∧
    f 0 = .iv (.sl (lims A)) ∧ f 1 = .iv (.sl (lims B)) ∧ f 6 = .hs 17 st ∧ f 7 = .iv (.int .u64 c) ∧ f 19 = .iv (.int .i64 A.length) ∧ f 20 = .iv (.int .i64 i) ∧ H 17 = .blk false st 77 1 (lims out)) (fun f H => (A.length - intAt f 20).toNat) ?_ ?_
  · exact ⟨0, 0, A, (H 17).stamp + 1, by omega, by omega, hA, rfl, rfl, by simp [vl], by simp (disch := omega) only [wk, tis, Int.reduceNe, Int.reduceEq, Int.reduceLT, Int.reduceLE, Int.reduceAdd, Int.reduceSub, Int.reduceNeg, Int.reduceMul, Int.reduceToNat, Nat.reduceSub, Nat.reduceMul, Nat.reduceLeDiff, Nat.reduceAdd, Nat.reduceLT, Nat.reduceEqDiff, reduceCtorEq, ↓reduceIte, Option.getD_some, h0], by simp (disch := omega) only [wk, tis, Int.reduceNe, Int.reduceEq, Int.reduceLT, Int.reduceLE, Int.reduceAdd, Int.reduceSub, Int.reduceNeg, Int.reduceMul, Int.reduceToNat, Nat.reduceSub, Nat.reduceMul, Nat.reduceLeDiff, Nat.reduceAdd, Nat.reduceLT, Nat.reduceEqDiff, reduceCtorEq, ↓reduceIte, Option.getD_some, h1], by simp (disch := omega) only [wk, tis, Int.reduceNe, Int.reduceEq, Int.reduceLT, Int.reduceLE, Int.reduceAdd, Int.reduceSub, Int.reduceNeg, Int.reduceMul, Int.reduceToNat, Nat.reduceSub, Nat.reduceMul, Nat.reduceLeDiff, Nat.reduceAdd, Nat.reduceLT, Nat.reduceEqDiff, reduceCtorEq, ↓reduceIte, Option.getD_some], by simp (disch := omega) only [wk, tis, Int.reduceNe, Int.reduceEq, Int.reduceLT, Int.reduceLE, Int.reduceAdd, Int.reduceSub, Int.reduceNeg, Int.reduceMul, Int.reduceToNat, Nat.reduceSub, Nat.reduceMul, Nat.reduceLeDiff, Nat.reduceAdd, Nat.reduceLT, Nat.reduceEqDiff, reduceCtorEq, ↓reduceIte, Option.getD_some], by simp (disch := omega) only [wk, tis, Int.reduceNe, Int.reduceEq, Int.reduceLT, Int.reduceLE, Int.reduceAdd, Int.reduceSub, Int.reduceNeg, Int.reduceMul, Int.reduceToNat, Nat.reduceSub, Nat.reduceMul, Nat.reduceLeDiff, Nat.reduceAdd, Nat.reduceLT, Nat.reduceEqDiff, reduceCtorEq, ↓reduceIte, Option.getD_some], by simp (disch := omega) only [wk, tis, Int.reduceNe, Int.reduceEq, Int.reduceLT, Int.reduceLE, Int.reduceAdd, Int.reduceSub, Int.reduceNeg, Int.reduceMul, Int.reduceToNat, Nat.reduceSub, Nat.reduceMul, Nat.reduceLeDiff, Nat.reduceAdd, Nat.reduceLT, Nat.reduceEqDiff, reduceCtorEq, ↓reduceIte, Option.getD_some], by simp (disch := omega) only [wk, tis, Int.reduceNe, Int.reduceEq, Int.reduceLT, Int.reduceLE, Int.reduceAdd, Int.reduceSub, Int.reduceNeg, Int.reduceMul, Int.reduceToNat, Nat.reduceSub, Nat.reduceMul, Nat.reduceLeDiff, Nat.reduceAdd, Nat.reduceLT, Nat.reduceEqDiff, reduceCtorEq, ↓reduceIte, Option.getD_some]⟩
  clear h0 h1
  rintro f H ⟨i, c, out, st, hi, hc, hO, hOl, hOd, hOv, h0, h1, h6, h7, h19, h20, hH⟩
  rw [intAt_of h20]
  simp (disch := omega) only [wk, tis, Int.reduceNe, Int.reduceEq, Int.reduceLT, Int.reduceLE, Int.reduceAdd, Int.reduceSub, Int.reduceNeg, Int.reduceMul, Int.reduceToNat, Nat.reduceSub, Nat.reduceMul, Nat.reduceLeDiff, Nat.reduceAdd, Nat.reduceLT, Nat.reduceEqDiff, reduceCtorEq, ↓reduceIte, Option.getD_some, h0, h1, h6, h7, h19, h20, hH]
  refine if_by (fun hlt => ?_) (fun hlt => ?_)
  · by_cases hb' : (B.length : Int) ≤ i
    · by_cases hc' : (c : Int) = 0
      · simp (disch := omega) only [wk, tis, Int.reduceNe, Int.reduceEq, Int.reduceLT, Int.reduceLE, Int.reduceAdd, Int.reduceSub, Int.reduceNeg, Int.reduceMul, Int.reduceToNat, Nat.reduceSub, Nat.reduceMul, Nat.reduceLeDiff, Nat.reduceAdd, Nat.reduceLT, Nat.reduceEqDiff, reduceCtorEq, ↓reduceIte, Option.getD_some, h0, h1, h6, h7, h19, h20, hH, hb', hc']
        obtain rfl : c = 0 := by omega
        have e1 : nv out = nv A + nv B := by
          have e2 := vl_split W out (k := i) (by omega)
          have e3 := vl_split W A (k := i) (by omega)
          rw [List.take_of_length_le (l := B) (by omega)] at hOv
          rw [hOd] at e2
          simp only [nv] at *
          omega
        have e2 : nv A + nv B < W ^ A.length := by rw [← e1, ← hOl]; exact nv_lt hO
        rw [← eq_pad hO hOl (s := nv A + nv B) (by rw [e1, Nat.mod_eq_of_lt e2]), Nat.div_eq_of_lt e2]
        exact ⟨rfl, rfl⟩
      · simp (disch := omega) only [wk, tis, Int.reduceNe, Int.reduceEq, Int.reduceLT, Int.reduceLE, Int.reduceAdd, Int.reduceSub, Int.reduceNeg, Int.reduceMul, Int.reduceToNat, Nat.reduceSub, Nat.reduceMul, Nat.reduceLeDiff, Nat.reduceAdd, Nat.reduceLT, Nat.reduceEqDiff, reduceCtorEq, ↓reduceIte, Option.getD_some, h0, h1, h6, h7, h19, h20, hH, hb', hc']
        refine ⟨tmps_by (by kernel_rfl), ?_⟩
        refine call_by ((at_ok B i (by omega))) (by first | rfl | (simp only [tocvs, tocv, h0, h1, h6, h7, h19, h20, hH]; rfl) | (simp only [tocvs, tocv, toboxes, tobox, updH_at, Nat.reduceEqDiff, ↓reduceIte, h0, h1, h6, h7, h19, h20, hH]; rfl)) (by simp) ?_
        simp (disch := omega) only [wk, tis, Int.reduceNe, Int.reduceEq, Int.reduceLT, Int.reduceLE, Int.reduceAdd, Int.reduceSub, Int.reduceNeg, Int.reduceMul, Int.reduceToNat, Nat.reduceSub, Nat.reduceMul, Nat.reduceLeDiff, Nat.reduceAdd, Nat.reduceLT, Nat.reduceEqDiff, reduceCtorEq, ↓reduceIte, Option.getD_some, h0, h1, h6, h7, h19, h20, hH]
        refine call_by ((addw_ok (A.getD i 0) (B.getD i 0) c (hA.get i) (hB.get i) (by simp only [W]; omega))) (by first | rfl | (simp only [tocvs, tocv, h0, h1, h6, h7, h19, h20, hH]; rfl) | (simp only [tocvs, tocv, toboxes, tobox, updH_at, Nat.reduceEqDiff, ↓reduceIte, h0, h1, h6, h7, h19, h20, hH]; rfl)) (by simp) ?_
        simp (disch := omega) only [wk, tis, Int.reduceNe, Int.reduceEq, Int.reduceLT, Int.reduceLE, Int.reduceAdd, Int.reduceSub, Int.reduceNeg, Int.reduceMul, Int.reduceToNat, Nat.reduceSub, Nat.reduceMul, Nat.reduceLeDiff, Nat.reduceAdd, Nat.reduceLT, Nat.reduceEqDiff, reduceCtorEq, ↓reduceIte, Option.getD_some, h0, h1, h6, h7, h19, h20, hH]
        first | exact log_by (by kernel_rfl) | refine ⟨log_by (by kernel_rfl), ?_⟩
        have hx := hA.get i
        have hy := hB.get i
        
        refine ⟨⟨i + 1, (A.getD i 0 + B.getD i 0 + c) / W, out.set i ((A.getD i 0 + B.getD i 0 + c) % W), st, by omega, by simp only [W] at *; omega, hO.set (Nat.mod_lt _ (by decide)), by simp [hOl], ?_, ?_, rfl, rfl, by omega, rfl⟩, by omega⟩
        · rw [List.drop_set_of_lt (by omega)]
          have := congrArg (List.drop 1) hOd
          simpa using this
        · simp only [nv] at *
          rw [vl_take_set W (by omega), Nat.pow_succ, vl_take_next, vl_take_next]
          exact carry_step hOv (by simp only [W]; omega)
    · simp (disch := omega) only [wk, tis, Int.reduceNe, Int.reduceEq, Int.reduceLT, Int.reduceLE, Int.reduceAdd, Int.reduceSub, Int.reduceNeg, Int.reduceMul, Int.reduceToNat, Nat.reduceSub, Nat.reduceMul, Nat.reduceLeDiff, Nat.reduceAdd, Nat.reduceLT, Nat.reduceEqDiff, reduceCtorEq, ↓reduceIte, Option.getD_some, h0, h1, h6, h7, h19, h20, hH, hb']
      refine ⟨tmps_by (by kernel_rfl), ?_⟩
      refine call_by ((at_ok B i (by omega))) (by first | rfl | (simp only [tocvs, tocv, h0, h1, h6, h7, h19, h20, hH]; rfl) | (simp only [tocvs, tocv, toboxes, tobox, updH_at, Nat.reduceEqDiff, ↓reduceIte, h0, h1, h6, h7, h19, h20, hH]; rfl)) (by simp) ?_
      simp (disch := omega) only [wk, tis, Int.reduceNe, Int.reduceEq, Int.reduceLT, Int.reduceLE, Int.reduceAdd, Int.reduceSub, Int.reduceNeg, Int.reduceMul, Int.reduceToNat, Nat.reduceSub, Nat.reduceMul, Nat.reduceLeDiff, Nat.reduceAdd, Nat.reduceLT, Nat.reduceEqDiff, reduceCtorEq, ↓reduceIte, Option.getD_some, h0, h1, h6, h7, h19, h20, hH]
      refine call_by ((addw_ok (A.getD i 0) (B.getD i 0) c (hA.get i) (hB.get i) (by simp only [W]; omega))) (by first | rfl | (simp only [tocvs, tocv, h0, h1, h6, h7, h19, h20, hH]; rfl) | (simp only [tocvs, tocv, toboxes, tobox, updH_at, Nat.reduceEqDiff, ↓reduceIte, h0, h1, h6, h7, h19, h20, hH]; rfl)) (by simp) ?_
      simp (disch := omega) only [wk, tis, Int.reduceNe, Int.reduceEq, Int.reduceLT, Int.reduceLE, Int.reduceAdd, Int.reduceSub, Int.reduceNeg, Int.reduceMul, Int.reduceToNat, Nat.reduceSub, Nat.reduceMul, Nat.reduceLeDiff, Nat.reduceAdd, Nat.reduceLT, Nat.reduceEqDiff, reduceCtorEq, ↓reduceIte, Option.getD_some, h0, h1, h6, h7, h19, h20, hH]
      first | exact log_by (by kernel_rfl) | refine ⟨log_by (by kernel_rfl), ?_⟩
      have hx := hA.get i
      have hy := hB.get i
      
      refine ⟨⟨i + 1, (A.getD i 0 + B.getD i 0 + c) / W, out.set i ((A.getD i 0 + B.getD i 0 + c) % W), st, by omega, by simp only [W] at *; omega, hO.set (Nat.mod_lt _ (by decide)), by simp [hOl], ?_, ?_, rfl, rfl, by omega, rfl⟩, by omega⟩
      · rw [List.drop_set_of_lt (by omega)]
        have := congrArg (List.drop 1) hOd
        simpa using this
      · simp only [nv] at *
        rw [vl_take_set W (by omega), Nat.pow_succ, vl_take_next, vl_take_next]
        exact carry_step hOv (by simp only [W]; omega)
  · simp (disch := omega) only [wk, tis, Int.reduceNe, Int.reduceEq, Int.reduceLT, Int.reduceLE, Int.reduceAdd, Int.reduceSub, Int.reduceNeg, Int.reduceMul, Int.reduceToNat, Nat.reduceSub, Nat.reduceMul, Nat.reduceLeDiff, Nat.reduceAdd, Nat.reduceLT, Nat.reduceEqDiff, reduceCtorEq, ↓reduceIte, Option.getD_some, h0, h1, h6, h7, h19, h20, hH]
    have hiA : i = A.length := by omega
    subst hiA
    rw [List.take_of_length_le (by omega), List.take_length, List.take_of_length_le (by omega)] at hOv
    have hlt' := nv_lt hO
    rw [hOl] at hlt'
    have e2 : (nv A + nv B) / W ^ A.length = c := by
      rw [← hOv, Nat.add_mul_div_left _ _ (W_pow_pos _), Nat.div_eq_of_lt hlt', Nat.zero_add]
    rw [e2, ← eq_pad hO hOl (s := nv A + nv B) (by rw [← hOv, Nat.add_mul_mod_self_left, Nat.mod_eq_of_lt hlt'])]
    exact ⟨rfl, rfl⟩
theorem sub_unique {x y N o c : Nat} (h : o + y = x + N * c) (ho : o < N) : c = (y - x + N - 1) / N ∧ o = x + N * c - y := by
  refine ⟨?_, by omega⟩
  symm
  rcases Nat.le_total x y with hxy | hxy
  · refine Nat.div_eq_of_lt_le ?_ ?_
    · rw [Nat.mul_comm]; omega
    · rw [Nat.mul_comm, Nat.mul_succ]; omega
  · have hc : c = 0 := by
      rcases Nat.eq_zero_or_pos c with h0 | h0
      · exact h0
      · have := Nat.mul_le_mul_left N h0
        omega
    subst hc
    rw [show y - x = 0 by omega]
    exact Nat.div_eq_of_lt (by omega)
def subC (x y N : Nat) : Nat := (y - x + N - 1) / N
theorem mulw_bound {x w c : Nat} (hx : x < W) (hw : w < W) (hc : c < W) : x * w + c ≤ (W - 1) * W := by
  have h1 : x * w ≤ (W - 1) * (W - 1) := Nat.mul_le_mul (by omega) (by omega)
  simp only [W] at *
  omega
theorem mulsub_ok (a b : List Nat) (w : Nat) (ha : Lim a) (hb : Lim b) (hw : w < W) (hla : a.length ≤ 2 ^ 40) (hlb : b.length ≤ a.length) :
    AC Tryz.prog 175 [cl a, cl b, cu w] (some (0, 77, 1, lims (pad a.length (nv a + W ^ a.length * subC (nv a) (nv b * w) (W ^ a.length) - nv b * w)))) [cl (pad a.length (nv a + W ^ a.length * subC (nv a) (nv b * w) (W ^ a.length) - nv b * w)), cu (subC (nv a) (nv b * w) (W ^ a.length)), ci 0] := by
  refine AC.by_walk (rs := [.tmp 6, .tmp 7, .tmp 8]) ords Tryz.func175 (by rfl) (by rfl) (by rfl) (by rfl) (by rfl) ?_
  have h1 : ¬ (a.length : Int) < b.length := by omega
  simp (disch := omega) only [wk, tis, Int.reduceNe, Int.reduceEq, Int.reduceLT, Int.reduceLE, Int.reduceAdd, Int.reduceSub, Int.reduceNeg, Int.reduceMul, Int.reduceToNat, Nat.reduceSub, Nat.reduceMul, Nat.reduceLeDiff, Nat.reduceAdd, Nat.reduceLT, Nat.reduceEqDiff, reduceCtorEq, ↓reduceIte, Option.getD_some, h1]
  refine call_by ((clone_ok a (by omega))) (by first | rfl | (simp only [tocvs, tocv, h1]; rfl) | (simp only [tocvs, tocv, toboxes, tobox, updH_at, Nat.reduceEqDiff, ↓reduceIte, h1]; rfl)) (by simp) ?_
  simp (disch := omega) only [wk, tis, Int.reduceNe, Int.reduceEq, Int.reduceLT, Int.reduceLE, Int.reduceAdd, Int.reduceSub, Int.reduceNeg, Int.reduceMul, Int.reduceToNat, Nat.reduceSub, Nat.reduceMul, Nat.reduceLeDiff, Nat.reduceAdd, Nat.reduceLT, Nat.reduceEqDiff, reduceCtorEq, ↓reduceIte, Option.getD_some, h1]
  refine aloop_by (fun f H => ∃ (i c st : Nat) (out : List Nat), i ≤ a.length ∧ c < W ∧ Lim out ∧ out.length = a.length ∧ out.drop i = a.drop i ∧ nv (out.take i) + nv (b.take i) * w = nv (a.take i) + W ^ i * c ∧ f 25 = .iv (.int .i64 i) ∧ f 1 = .iv (.sl (lims b)) ∧ f 2 = .iv (.int .u64 w) ∧ f 9 = .hs 22 st ∧ f 10 = .iv (.int .u64 c) ∧ f 24 = .iv (.int .i64 a.length) ∧ H 22 = .blk false st 77 1 (lims out)) (fun f H => (a.length - intAt f 25).toNat) ?_ ?_
  · refine ⟨0, 0, 1, a, by omega, by decide, ha, rfl, rfl, by simp [vl], ?_⟩
    simp (disch := omega) only [wk, tis, Int.reduceNe, Int.reduceEq, Int.reduceLT, Int.reduceLE, Int.reduceAdd, Int.reduceSub, Int.reduceNeg, Int.reduceMul, Int.reduceToNat, Nat.reduceSub, Nat.reduceMul, Nat.reduceLeDiff, Nat.reduceAdd, Nat.reduceLT, Nat.reduceEqDiff, reduceCtorEq, ↓reduceIte, Option.getD_some]
  rintro f H ⟨i, c, st, out, hi, hc, hO, hOl, hOd, hv, hF⟩
  rw [intAt_of hF.1]
  simp (disch := omega) only [wk, tis, Int.reduceNe, Int.reduceEq, Int.reduceLT, Int.reduceLE, Int.reduceAdd, Int.reduceSub, Int.reduceNeg, Int.reduceMul, Int.reduceToNat, Nat.reduceSub, Nat.reduceMul, Nat.reduceLeDiff, Nat.reduceAdd, Nat.reduceLT, Nat.reduceEqDiff, reduceCtorEq, ↓reduceIte, Option.getD_some, hF]
  refine if_by (fun hlt => ?_) (fun hlt => ?_)
  · have hx := ha.get i
    have hy := hb.get i
    have hoi : out.getD i 0 = a.getD i 0 := by
      have e1 : out.getD i 0 = (out.drop i).getD 0 0 := by simp [List.getD, List.getElem?_drop]
      have e2 : a.getD i 0 = (a.drop i).getD 0 0 := by simp [List.getD, List.getElem?_drop]
      rw [e1, e2, hOd]
    have hbd := mulw_bound hy hw hc
    simp (disch := omega) only [wk, tis, Int.reduceNe, Int.reduceEq, Int.reduceLT, Int.reduceLE, Int.reduceAdd, Int.reduceSub, Int.reduceNeg, Int.reduceMul, Int.reduceToNat, Nat.reduceSub, Nat.reduceMul, Nat.reduceLeDiff, Nat.reduceAdd, Nat.reduceLT, Nat.reduceEqDiff, reduceCtorEq, ↓reduceIte, Option.getD_some, hF]
    refine call_by ((at_ok b i (by omega))) (by first | rfl | (simp only [tocvs, tocv, hF]; rfl) | (simp only [tocvs, tocv, toboxes, tobox, updH_at, Nat.reduceEqDiff, ↓reduceIte, hF]; rfl)) (by simp) ?_
    simp (disch := omega) only [wk, tis, Int.reduceNe, Int.reduceEq, Int.reduceLT, Int.reduceLE, Int.reduceAdd, Int.reduceSub, Int.reduceNeg, Int.reduceMul, Int.reduceToNat, Nat.reduceSub, Nat.reduceMul, Nat.reduceLeDiff, Nat.reduceAdd, Nat.reduceLT, Nat.reduceEqDiff, reduceCtorEq, ↓reduceIte, Option.getD_some, hF]
    have m := mulw_ok (b.getD i 0) w c 0 hy hw hc (by decide)
    rw [Nat.add_zero] at m
    refine call_by (m) (by first | rfl | (simp only [tocvs, tocv, hF]; rfl) | (simp only [tocvs, tocv, toboxes, tobox, updH_at, Nat.reduceEqDiff, ↓reduceIte, hF]; rfl)) (by simp) ?_
    simp (disch := omega) only [wk, tis, Int.reduceNe, Int.reduceEq, Int.reduceLT, Int.reduceLE, Int.reduceAdd, Int.reduceSub, Int.reduceNeg, Int.reduceMul, Int.reduceToNat, Nat.reduceSub, Nat.reduceMul, Nat.reduceLeDiff, Nat.reduceAdd, Nat.reduceLT, Nat.reduceEqDiff, reduceCtorEq, ↓reduceIte, Option.getD_some, hF]
    have hdm := Nat.div_add_mod (b.getD i 0 * w + c) W
    have hlo : (b.getD i 0 * w + c) % W < W := Nat.mod_lt _ (by decide)
    generalize (b.getD i 0 * w + c) / W = hi' at *
    generalize (b.getD i 0 * w + c) % W = lo at *
    have s := subw_ok (out.getD i 0) lo 0 (by rw [hoi]; exact hx) hlo (by omega)
    rw [hoi] at s
    obtain ⟨bo, hbo, hd1, hd2, hcb⟩ : ∃ bo, (if a.getD i 0 < lo + 0 then 1 else 0) = bo ∧ (a.getD i 0 + W - lo - 0) % W < W ∧ (a.getD i 0 + W - lo - 0) % W + lo = a.getD i 0 + W * bo ∧ hi' + bo < W := by
      refine ⟨_, rfl, Nat.mod_lt _ (by decide), ?_, ?_⟩
      · simp only [W] at *
        split <;> omega
      · simp only [W] at *
        split <;> omega
    rw [hbo] at s
    generalize (a.getD i 0 + W - lo - 0) % W = d at *
    have hwc : IntKind.u64.wrap ((hi' : Int) + (bo : Int)) = ((hi' + bo : Nat) : Int) := wrap_add_nat hcb
    refine call_by (s) (by first | rfl | (simp only [tocvs, tocv, hF, hoi, hwc]; rfl) | (simp only [tocvs, tocv, toboxes, tobox, updH_at, Nat.reduceEqDiff, ↓reduceIte, hF, hoi, hwc]; rfl)) (by simp) ?_
    simp (disch := omega) only [wk, tis, Int.reduceNe, Int.reduceEq, Int.reduceLT, Int.reduceLE, Int.reduceAdd, Int.reduceSub, Int.reduceNeg, Int.reduceMul, Int.reduceToNat, Nat.reduceSub, Nat.reduceMul, Nat.reduceLeDiff, Nat.reduceAdd, Nat.reduceLT, Nat.reduceEqDiff, reduceCtorEq, ↓reduceIte, Option.getD_some, hF, hoi, hwc]
    refine ⟨⟨i + 1, hi' + bo, st, out.set i d, by omega, hcb, hO.set hd1, by simp [hOl], ?_, ?_, by omega, rfl, rfl, rfl⟩, by omega⟩
    · rw [List.drop_set_of_lt (by omega)]
      have := congrArg (List.drop 1) hOd
      simpa using this
    · simp only [nv] at hv ⊢
      rw [vl_take_set W (by omega), Nat.pow_succ, vl_take_next, vl_take_next, Nat.add_mul]
      have key : W ^ i * d + W ^ i * b.getD i 0 * w + W ^ i * c = W ^ i * a.getD i 0 + W ^ i * W * (hi' + bo) := by
        rw [Nat.mul_assoc, Nat.mul_assoc, ← Nat.mul_add, ← Nat.mul_add, ← Nat.mul_add]
        congr 1
        rw [Nat.mul_add]
        omega
      omega
  · simp (disch := omega) only [wk, tis, Int.reduceNe, Int.reduceEq, Int.reduceLT, Int.reduceLE, Int.reduceAdd, Int.reduceSub, Int.reduceNeg, Int.reduceMul, Int.reduceToNat, Nat.reduceSub, Nat.reduceMul, Nat.reduceLeDiff, Nat.reduceAdd, Nat.reduceLT, Nat.reduceEqDiff, reduceCtorEq, ↓reduceIte, Option.getD_some, hF]
    have : i = a.length := by omega
    subst this
    rw [List.take_of_length_le (by omega), List.take_of_length_le (by omega), List.take_length] at hv
    have h5 := nv_lt hO
    rw [hOl] at h5
    obtain ⟨e1, e2⟩ := sub_unique hv h5
    have e3 : c = subC (nv a) (nv b * w) (W ^ a.length) := e1
    rw [← e3, ← e2, ← eq_pad hO hOl (s := nv out) (Nat.mod_eq_of_lt h5).symm]
    exact ⟨rfl, rfl⟩
def gd3 (u2 u1 u0 v1 v0 : Nat) : Nat := min (((u2 * W + u1) * W + u0) / (v1 * W + v0)) (W - 1)
theorem den_posW {v1 v0 : Nat} (h : 0 < v1) : 0 < v1 * W + v0 := by
  have := Nat.mul_le_mul_right W h
  simp only [W] at *
  omega
theorem gd3_le {u2 u1 u0 v1 v0 q r : Nat} (he : q * v1 + r = u2 * W + u1) (hv : 0 < v1) (hq : q < W) (hc : q * v0 ≤ r * W + u0) (hg : gd3 u2 u1 u0 v1 v0 ≤ q) : q = gd3 u2 u1 u0 v1 v0 := by
  refine Nat.le_antisymm ?_ hg
  refine Nat.le_min.mpr ⟨?_, Nat.le_sub_one_of_lt hq⟩
  rw [Nat.le_div_iff_mul_le (den_posW hv), ← he, Nat.mul_add, ← Nat.mul_assoc, Nat.add_mul, Nat.add_assoc]
  omega
theorem gd3_less {u2 u1 u0 v1 v0 q r : Nat} (he : q * v1 + r = u2 * W + u1) (hv : 0 < v1) (hc : r * W + u0 < q * v0) : gd3 u2 u1 u0 v1 v0 ≤ q - 1 ∧ 0 < q := by
  have hq : 0 < q := by
    rcases Nat.eq_zero_or_pos q with h | h
    · rw [h, Nat.zero_mul] at hc; exact absurd hc (Nat.not_lt_zero _)
    · exact h
  refine ⟨?_, hq⟩
  have : ((u2 * W + u1) * W + u0) / (v1 * W + v0) < q := by
    rw [Nat.div_lt_iff_lt_mul (den_posW hv), ← he, Nat.mul_add, ← Nat.mul_assoc, Nat.add_mul, Nat.add_assoc]
    exact Nat.add_lt_add_left hc _
  exact Nat.le_trans (Nat.min_le_left _ _) (Nat.le_sub_one_of_lt this)
theorem correct_ok (q r u2 u1 u0 v1 v0 : Nat) (hq : q < W) (hr : r < W) (h0 : u0 < W) (hv1 : v1 < W) (hv0 : v0 < W) (hv : 0 < v1) (he : q * v1 + r = u2 * W + u1) (hg : gd3 u2 u1 u0 v1 v0 ≤ q) :
    AC Tryz.prog 181 [cu q, cu r, cu u0, cu v1, cu v0] none [cu (gd3 u2 u1 u0 v1 v0)] := by
  refine AC.by_walk (rs := [.tmp 10]) ords Tryz.func181 (by rfl) (by rfl) (by rfl) (by rfl) (by rfl) ?_
  simp (disch := omega) only [wk, tis, Int.reduceNe, Int.reduceEq, Int.reduceLT, Int.reduceLE, Int.reduceAdd, Int.reduceSub, Int.reduceNeg, Int.reduceMul, Int.reduceToNat, Nat.reduceSub, Nat.reduceMul, Nat.reduceLeDiff, Nat.reduceAdd, Nat.reduceLT, Nat.reduceEqDiff, reduceCtorEq, ↓reduceIte, Option.getD_some]
  refine aloop_by (fun f H => ∃ (q r : Nat), q * v1 + r = u2 * W + u1 ∧ gd3 u2 u1 u0 v1 v0 ≤ q ∧ q < W ∧ r < W ∧ f 0 = .iv (.int .u64 q) ∧ f 1 = .iv (.int .u64 r) ∧ f 2 = .iv (.int .u64 u0) ∧ f 3 = .iv (.int .u64 v1) ∧ f 4 = .iv (.int .u64 v0)) (fun f H => (intAt f 0).toNat) ?_ ?_
  · refine ⟨q, r, he, hg, hq, hr, ?_⟩
    simp (disch := omega) only [wk, tis, Int.reduceNe, Int.reduceEq, Int.reduceLT, Int.reduceLE, Int.reduceAdd, Int.reduceSub, Int.reduceNeg, Int.reduceMul, Int.reduceToNat, Nat.reduceSub, Nat.reduceMul, Nat.reduceLeDiff, Nat.reduceAdd, Nat.reduceLT, Nat.reduceEqDiff, reduceCtorEq, ↓reduceIte, Option.getD_some]
  rintro f H ⟨q, r, he, hg, hq, hr, hF⟩
  rw [intAt_of hF.1]
  simp (disch := omega) only [wk, tis, Int.reduceNe, Int.reduceEq, Int.reduceLT, Int.reduceLE, Int.reduceAdd, Int.reduceSub, Int.reduceNeg, Int.reduceMul, Int.reduceToNat, Nat.reduceSub, Nat.reduceMul, Nat.reduceLeDiff, Nat.reduceAdd, Nat.reduceLT, Nat.reduceEqDiff, reduceCtorEq, ↓reduceIte, Option.getD_some, hF]
  have hdm := Nat.div_add_mod (q * v0) W
  have hlo : q * v0 % W < W := Nat.mod_lt _ (by decide)
  have hm := mul64_ok q v0 hq hv0
  obtain ⟨hi, ehi⟩ : ∃ hi, q * v0 / W = hi := ⟨_, rfl⟩
  obtain ⟨lo, elo⟩ : ∃ lo, q * v0 % W = lo := ⟨_, rfl⟩
  rw [ehi, elo] at hm
  rw [ehi, elo] at hdm
  rw [elo] at hlo
  clear ehi elo
  refine call_by (hm) (by first | rfl | (simp only [tocvs, tocv, hF]; rfl) | (simp only [tocvs, tocv, toboxes, tobox, updH_at, Nat.reduceEqDiff, ↓reduceIte, hF]; rfl)) (by simp) ?_
  by_cases hc : q * v0 ≤ r * W + u0
  · have e := gd3_le he hv hq hc hg
    by_cases h1 : (hi : Int) < r
    · simp (disch := omega) only [wk, tis, Int.reduceNe, Int.reduceEq, Int.reduceLT, Int.reduceLE, Int.reduceAdd, Int.reduceSub, Int.reduceNeg, Int.reduceMul, Int.reduceToNat, Nat.reduceSub, Nat.reduceMul, Nat.reduceLeDiff, Nat.reduceAdd, Nat.reduceLT, Nat.reduceEqDiff, reduceCtorEq, ↓reduceIte, Option.getD_some, hF, h1]
      rw [e]
    · have h2 : (hi : Int) = r := by simp only [W] at *; omega
      have h3 : (lo : Int) ≤ u0 := by simp only [W] at *; omega
      have h2 := eq_true h2
      simp (disch := omega) only [wk, tis, Int.reduceNe, Int.reduceEq, Int.reduceLT, Int.reduceLE, Int.reduceAdd, Int.reduceSub, Int.reduceNeg, Int.reduceMul, Int.reduceToNat, Nat.reduceSub, Nat.reduceMul, Nat.reduceLeDiff, Nat.reduceAdd, Nat.reduceLT, Nat.reduceEqDiff, reduceCtorEq, ↓reduceIte, Option.getD_some, hF, h1, h2, h3]
      rw [e]
  · obtain ⟨hg', hq0⟩ := gd3_less he hv (Nat.lt_of_not_le hc)
    have he' : (q - 1) * v1 + (r + v1) = u2 * W + u1 := by
      obtain ⟨k, rfl⟩ : ∃ k, q = k + 1 := ⟨q - 1, by omega⟩
      rw [Nat.add_sub_cancel, ← he, Nat.succ_mul]; omega
    have h1 : ¬ (hi : Int) < r := by simp only [W] at *; omega
    have hw1 : IntKind.u64.wrap ((q : Int) - 1) = ((q - 1 : Nat) : Int) := by rw [show (q : Int) - 1 = ((q - 1 : Nat) : Int) by omega]; exact wrap_nat (by omega)
    have had := add64_ok r v1 0 (by omega)
    rw [Nat.add_zero] at had
    have last : 1 ≤ (r + v1) / W → q - 1 = gd3 u2 u1 u0 v1 v0 := fun h => by
      refine gd3_le he' hv (by omega) ?_ hg'
      have h1 : W ≤ r + v1 := by
        have := Nat.div_mul_le_self (r + v1) W
        have := Nat.mul_le_mul_right W h
        omega
      have g1 : (q - 1) * v0 ≤ (W - 1) * (W - 1) := Nat.mul_le_mul (by omega) (by omega)
      have g2 := Nat.mul_le_mul_right W h1
      simp only [W] at *
      omega
    have hle1 : (r + v1) / W ≤ 1 := by simp only [W] at *; omega
    have hmod : (r + v1) / W = 0 → (r + v1) % W = r + v1 := fun h => by simp only [W] at *; omega
    have hmlt : (r + v1) % W < W := Nat.mod_lt _ (by decide)
    obtain ⟨cy, ecy⟩ : ∃ cy, (r + v1) / W = cy := ⟨_, rfl⟩
    obtain ⟨sm, esm⟩ : ∃ sm, (r + v1) % W = sm := ⟨_, rfl⟩
    rw [ecy, esm] at had
    rw [ecy] at last hle1 hmod
    rw [esm] at hmod hmlt
    clear ecy esm
    by_cases h2 : (hi : Int) = r
    · have h3 : ¬ (lo : Int) ≤ u0 := by simp only [W] at *; omega
      have h2 := eq_true h2
      simp (disch := omega) only [wk, tis, Int.reduceNe, Int.reduceEq, Int.reduceLT, Int.reduceLE, Int.reduceAdd, Int.reduceSub, Int.reduceNeg, Int.reduceMul, Int.reduceToNat, Nat.reduceSub, Nat.reduceMul, Nat.reduceLeDiff, Nat.reduceAdd, Nat.reduceLT, Nat.reduceEqDiff, reduceCtorEq, ↓reduceIte, Option.getD_some, hF, h1, h2, h3, hw1]
      refine call_by (had) (by first | rfl | (simp only [tocvs, tocv, hF]; rfl) | (simp only [tocvs, tocv, toboxes, tobox, updH_at, Nat.reduceEqDiff, ↓reduceIte, hF]; rfl)) (by simp) ?_
      simp (disch := omega) only [wk, tis, Int.reduceNe, Int.reduceEq, Int.reduceLT, Int.reduceLE, Int.reduceAdd, Int.reduceSub, Int.reduceNeg, Int.reduceMul, Int.reduceToNat, Nat.reduceSub, Nat.reduceMul, Nat.reduceLeDiff, Nat.reduceAdd, Nat.reduceLT, Nat.reduceEqDiff, reduceCtorEq, ↓reduceIte, Option.getD_some, hF]
      refine if_by (fun h4 => ?_) (fun h4 => ?_)
      · simp (disch := omega) only [wk, tis, Int.reduceNe, Int.reduceEq, Int.reduceLT, Int.reduceLE, Int.reduceAdd, Int.reduceSub, Int.reduceNeg, Int.reduceMul, Int.reduceToNat, Nat.reduceSub, Nat.reduceMul, Nat.reduceLeDiff, Nat.reduceAdd, Nat.reduceLT, Nat.reduceEqDiff, reduceCtorEq, ↓reduceIte, Option.getD_some, hF]
        rw [last (by omega)]
      · simp (disch := omega) only [wk, tis, Int.reduceNe, Int.reduceEq, Int.reduceLT, Int.reduceLE, Int.reduceAdd, Int.reduceSub, Int.reduceNeg, Int.reduceMul, Int.reduceToNat, Nat.reduceSub, Nat.reduceMul, Nat.reduceLeDiff, Nat.reduceAdd, Nat.reduceLT, Nat.reduceEqDiff, reduceCtorEq, ↓reduceIte, Option.getD_some, hF]
        have h5 := hmod (by omega)
        exact ⟨⟨q - 1, sm, by rw [h5]; exact he', hg', by omega, hmlt, rfl, rfl⟩, by omega⟩
    · simp (disch := omega) only [wk, tis, Int.reduceNe, Int.reduceEq, Int.reduceLT, Int.reduceLE, Int.reduceAdd, Int.reduceSub, Int.reduceNeg, Int.reduceMul, Int.reduceToNat, Nat.reduceSub, Nat.reduceMul, Nat.reduceLeDiff, Nat.reduceAdd, Nat.reduceLT, Nat.reduceEqDiff, reduceCtorEq, ↓reduceIte, Option.getD_some, hF, h1, h2, hw1]
      refine call_by (had) (by first | rfl | (simp only [tocvs, tocv, hF]; rfl) | (simp only [tocvs, tocv, toboxes, tobox, updH_at, Nat.reduceEqDiff, ↓reduceIte, hF]; rfl)) (by simp) ?_
      simp (disch := omega) only [wk, tis, Int.reduceNe, Int.reduceEq, Int.reduceLT, Int.reduceLE, Int.reduceAdd, Int.reduceSub, Int.reduceNeg, Int.reduceMul, Int.reduceToNat, Nat.reduceSub, Nat.reduceMul, Nat.reduceLeDiff, Nat.reduceAdd, Nat.reduceLT, Nat.reduceEqDiff, reduceCtorEq, ↓reduceIte, Option.getD_some, hF]
      refine if_by (fun h4 => ?_) (fun h4 => ?_)
      · simp (disch := omega) only [wk, tis, Int.reduceNe, Int.reduceEq, Int.reduceLT, Int.reduceLE, Int.reduceAdd, Int.reduceSub, Int.reduceNeg, Int.reduceMul, Int.reduceToNat, Nat.reduceSub, Nat.reduceMul, Nat.reduceLeDiff, Nat.reduceAdd, Nat.reduceLT, Nat.reduceEqDiff, reduceCtorEq, ↓reduceIte, Option.getD_some, hF]
        rw [last (by omega)]
      · simp (disch := omega) only [wk, tis, Int.reduceNe, Int.reduceEq, Int.reduceLT, Int.reduceLE, Int.reduceAdd, Int.reduceSub, Int.reduceNeg, Int.reduceMul, Int.reduceToNat, Nat.reduceSub, Nat.reduceMul, Nat.reduceLeDiff, Nat.reduceAdd, Nat.reduceLT, Nat.reduceEqDiff, reduceCtorEq, ↓reduceIte, Option.getD_some, hF]
        have h5 := hmod (by omega)
        exact ⟨⟨q - 1, sm, by rw [h5]; exact he', hg', by omega, hmlt, rfl, rfl⟩, by omega⟩
end Go.Proofs.YtcocppjgbcbndaaGreat

namespace Go.Proofs.YtcocppjgbcbndaaGreat
open Go Go.Proofs Go.AL
set_option linter.unusedSimpArgs false
set_option linter.unusedVariables false
theorem gd3_top {u2 u1 u0 v1 v0 : Nat} (hv : 0 < v1) (h0 : u0 < W) : gd3 u2 u1 u0 v1 v0 ≤ (u2 * W + u1) / v1 := by
  have h2 := Nat.div_mul_le_self ((u2 * W + u1) * W + u0) (v1 * W + v0)
  have h6 : gd3 u2 u1 u0 v1 v0 ≤ ((u2 * W + u1) * W + u0) / (v1 * W + v0) := Nat.min_le_left _ _
  obtain ⟨x, hx⟩ : ∃ x, ((u2 * W + u1) * W + u0) / (v1 * W + v0) = x := ⟨_, rfl⟩
  rw [hx] at h2 h6
  refine Nat.le_trans h6 ?_
  rw [Nat.le_div_iff_mul_le hv]
  clear hx h6
  rw [Nat.mul_add, ← Nat.mul_assoc] at h2
  rcases Nat.lt_or_ge (u2 * W + u1) (x * v1) with h | h
  · have h3 := Nat.mul_le_mul_right W h
    rw [Nat.succ_mul] at h3
    have h4 : x * v1 * W ≤ (u2 * W + u1) * W + u0 := Nat.le_trans (Nat.le_add_right _ _) h2
    have h5 := Nat.le_trans h3 h4
    exact absurd h0 (Nat.not_lt.mpr (Nat.le_of_add_le_add_left h5))
  · exact h
theorem guess_ok (u2 u1 u0 v1 v0 : Nat) (h2 : u2 ≤ v1) (h1 : u1 < W) (h0 : u0 < W) (hv1 : v1 < W) (hv0 : v0 < W) (hv : 0 < v1) :
    AC Tryz.prog 174 [cu u2, cu u1, cu u0, cu v1, cu v0] none [cu (gd3 u2 u1 u0 v1 v0)] := by
  refine AC.by_walk (rs := [.tmp 10]) ords Tryz.func174 (by rfl) (by rfl) (by rfl) (by rfl) (by rfl) ?_
  simp (disch := omega) only [wk, tis, Int.reduceNe, Int.reduceEq, Int.reduceLT, Int.reduceLE, Int.reduceAdd, Int.reduceSub, Int.reduceNeg, Int.reduceMul, Int.reduceToNat, Nat.reduceSub, Nat.reduceMul, Nat.reduceLeDiff, Nat.reduceAdd, Nat.reduceLT, Nat.reduceEqDiff, reduceCtorEq, ↓reduceIte]
  refine if_by (fun hz => ?_) (fun hz => ?_)
  · have hu : u2 = v1 := by omega
    subst hu
    simp (disch := omega) only [wk, tis, Int.reduceNe, Int.reduceEq, Int.reduceLT, Int.reduceLE, Int.reduceAdd, Int.reduceSub, Int.reduceNeg, Int.reduceMul, Int.reduceToNat, Nat.reduceSub, Nat.reduceMul, Nat.reduceLeDiff, Nat.reduceAdd, Nat.reduceLT, Nat.reduceEqDiff, reduceCtorEq, ↓reduceIte]
    have had := add64_ok u1 u2 0 (by omega)
    rw [Nat.add_zero] at had
    have hle1 : (u1 + u2) / W ≤ 1 := by simp only [W] at *; omega
    have hmod : (u1 + u2) / W = 0 → (u1 + u2) % W = u1 + u2 ∧ u1 + u2 < W := fun h => by simp only [W] at *; omega
    have hge : (u1 + u2) / W = 1 → W ≤ u1 + u2 := fun h => by simp only [W] at *; omega
    have he : (W - 1) * u2 + (u1 + u2) = u2 * W + u1 := by
      simp only [W]
      omega
    have hg : gd3 u2 u1 u0 u2 v0 ≤ W - 1 := Nat.min_le_right _ _
    have hW1 : ((W - 1 : Nat) : Int) = 18446744073709551615 := rfl
    obtain ⟨cy, ecy⟩ : ∃ cy, (u1 + u2) / W = cy := ⟨_, rfl⟩
    obtain ⟨sm, esm⟩ : ∃ sm, (u1 + u2) % W = sm := ⟨_, rfl⟩
    rw [ecy, esm] at had
    rw [ecy] at hle1 hmod hge
    rw [esm] at hmod
    clear ecy esm
    refine call_by (had) (by rfl) (by simp) ?_
    simp (disch := omega) only [wk, tis, Int.reduceNe, Int.reduceEq, Int.reduceLT, Int.reduceLE, Int.reduceAdd, Int.reduceSub, Int.reduceNeg, Int.reduceMul, Int.reduceToNat, Nat.reduceSub, Nat.reduceMul, Nat.reduceLeDiff, Nat.reduceAdd, Nat.reduceLT, Nat.reduceEqDiff, reduceCtorEq, ↓reduceIte]
    refine if_by (fun hc => ?_) (fun hc => ?_)
    · simp (disch := omega) only [wk, tis, Int.reduceNe, Int.reduceEq, Int.reduceLT, Int.reduceLE, Int.reduceAdd, Int.reduceSub, Int.reduceNeg, Int.reduceMul, Int.reduceToNat, Nat.reduceSub, Nat.reduceMul, Nat.reduceLeDiff, Nat.reduceAdd, Nat.reduceLT, Nat.reduceEqDiff, reduceCtorEq, ↓reduceIte]
      have e : W - 1 = gd3 u2 u1 u0 u2 v0 := by
        refine gd3_le he hv (Nat.sub_lt (by decide) (by decide)) ?_ hg
        have g1 : (W - 1) * v0 ≤ (W - 1) * (W - 1) := Nat.mul_le_mul_left _ (Nat.le_sub_one_of_lt hv0)
        have g2 := Nat.mul_le_mul_right W (hge (by omega))
        simp only [W] at *
        omega
      rw [← e]
      exact hW1.symm
    · simp (disch := omega) only [wk, tis, Int.reduceNe, Int.reduceEq, Int.reduceLT, Int.reduceLE, Int.reduceAdd, Int.reduceSub, Int.reduceNeg, Int.reduceMul, Int.reduceToNat, Nat.reduceSub, Nat.reduceMul, Nat.reduceLeDiff, Nat.reduceAdd, Nat.reduceLT, Nat.reduceEqDiff, reduceCtorEq, ↓reduceIte]
      obtain ⟨e1, e2⟩ := hmod (by omega)
      have cc := correct_ok (W - 1) sm u2 u1 u0 u2 v0 (Nat.sub_lt (by decide) (by decide)) (by rw [e1]; exact e2) h0 hv1 hv0 hv (by rw [e1]; exact he) hg
      rw [show cu (W - 1) = .iv (.int .u64 18446744073709551615) from rfl] at cc
      refine call_by (cc) (by rfl) (by simp) ?_
      simp (disch := omega) only [wk, tis, Int.reduceNe, Int.reduceEq, Int.reduceLT, Int.reduceLE, Int.reduceAdd, Int.reduceSub, Int.reduceNeg, Int.reduceMul, Int.reduceToNat, Nat.reduceSub, Nat.reduceMul, Nat.reduceLeDiff, Nat.reduceAdd, Nat.reduceLT, Nat.reduceEqDiff, reduceCtorEq, ↓reduceIte]
  · simp (disch := omega) only [wk, tis, Int.reduceNe, Int.reduceEq, Int.reduceLT, Int.reduceLE, Int.reduceAdd, Int.reduceSub, Int.reduceNeg, Int.reduceMul, Int.reduceToNat, Nat.reduceSub, Nat.reduceMul, Nat.reduceLeDiff, Nat.reduceAdd, Nat.reduceLT, Nat.reduceEqDiff, reduceCtorEq, ↓reduceIte]
    have hq : (u2 * W + u1) / v1 < W := word_div (by omega) h1
    have hdm := Nat.div_add_mod (u2 * W + u1) v1
    have hr : (u2 * W + u1) % v1 < v1 := Nat.mod_lt _ hv
    have hg := gd3_top (u2 := u2) (u1 := u1) (u0 := u0) (v1 := v1) (v0 := v0) hv h0
    have hd := div64_ok u2 u1 v1 (by omega) h1 hv1
    generalize (u2 * W + u1) / v1 = q at *
    generalize (u2 * W + u1) % v1 = r at *
    refine call_by (hd) (by rfl) (by simp) ?_
    simp (disch := omega) only [wk, tis, Int.reduceNe, Int.reduceEq, Int.reduceLT, Int.reduceLE, Int.reduceAdd, Int.reduceSub, Int.reduceNeg, Int.reduceMul, Int.reduceToNat, Nat.reduceSub, Nat.reduceMul, Nat.reduceLeDiff, Nat.reduceAdd, Nat.reduceLT, Nat.reduceEqDiff, reduceCtorEq, ↓reduceIte]
    refine call_by ((correct_ok q r u2 u1 u0 v1 v0 hq (by omega) h0 hv1 hv0 hv (by rw [Nat.mul_comm]; exact hdm) hg)) (by rfl) (by simp) ?_
    simp (disch := omega) only [wk, tis, Int.reduceNe, Int.reduceEq, Int.reduceLT, Int.reduceLE, Int.reduceAdd, Int.reduceSub, Int.reduceNeg, Int.reduceMul, Int.reduceToNat, Nat.reduceSub, Nat.reduceMul, Nat.reduceLeDiff, Nat.reduceAdd, Nat.reduceLT, Nat.reduceEqDiff, reduceCtorEq, ↓reduceIte]
end Go.Proofs.YtcocppjgbcbndaaGreat
