/-
  Contracts of the functions that the law reaches.
-/
import Derived.Test.YthgecppfgdadiaaL6
namespace Go.Proofs.Ythgecppfgdadiaa
open Go Go.Proofs Go.AL
set_option linter.unusedSimpArgs false
set_option linter.unusedVariables false

theorem pmul_ok (a b : List RI) (ha : RP (2 ^ 30) (2 ^ 35) a) (hb : RP (2 ^ 30) (2 ^ 35) b) : AC Try.prog 13 [cw a, cw b] none [cp (pmul (pv a) (pv b))] := by
  refine AC.by_walk (rs := [.tmp 4]) ords Try.func13 (by rfl) (by rfl) (by rfl) (by rfl) (by rfl) ?_
  have pa := ha.pv.trimz
  have pb := hb.pv.trimz
  have e0 : cp (pmul (pv a) (pv b)) = cp (pmul (trimz (pv a)) (trimz (pv b))) := by
    refine cp_ext fun k => ?_
    rw [cf_pmul, cf_pmul, cv_cf_congr (fun j => (cf_trimz (pv a) j).symm), cv_congr _ k (fun j => (cf_trimz (pv b) j).symm)]
  rw [e0]
  simp (disch := omega) only [wk, tis, Int.reduceNe, Int.reduceEq, Int.reduceLT, Int.reduceLE, Int.reduceAdd, Int.reduceSub, Int.reduceNeg, Int.reduceMul, Int.reduceToNat, Nat.reduceSub, Nat.reduceMul, Nat.reduceLeDiff, Nat.reduceAdd, Nat.reduceLT, Nat.reduceEqDiff, reduceCtorEq, ↓reduceIte]
  refine call_by ((pnorm_ok a (ha.mono (by omega) (by omega)))) (by rfl) (by simp) ?_
  simp (disch := omega) only [wk, tis, Int.reduceNe, Int.reduceEq, Int.reduceLT, Int.reduceLE, Int.reduceAdd, Int.reduceSub, Int.reduceNeg, Int.reduceMul, Int.reduceToNat, Nat.reduceSub, Nat.reduceMul, Nat.reduceLeDiff, Nat.reduceAdd, Nat.reduceLT, Nat.reduceEqDiff, reduceCtorEq, ↓reduceIte]
  refine call_by ((pnorm_ok b (hb.mono (by omega) (by omega)))) (by rfl) (by simp) ?_
  simp (disch := omega) only [wk, tis, Int.reduceNe, Int.reduceEq, Int.reduceLT, Int.reduceLE, Int.reduceAdd, Int.reduceSub, Int.reduceNeg, Int.reduceMul, Int.reduceToNat, Nat.reduceSub, Nat.reduceMul, Nat.reduceLeDiff, Nat.reduceAdd, Nat.reduceLT, Nat.reduceEqDiff, reduceCtorEq, ↓reduceIte]
  unfold cpoly
  generalize trimz (pv a) = A at *
  generalize trimz (pv b) = B at *
  have hA := pa.1
  have hB := pb.1
  have hAl : (A.map canon).length = A.length := by simp
  have hBl : (B.map canon).length = B.length := by simp
  simp (disch := omega) only [wk, tis, Int.reduceNe, Int.reduceEq, Int.reduceLT, Int.reduceLE, Int.reduceAdd, Int.reduceSub, Int.reduceNeg, Int.reduceMul, Int.reduceToNat, Nat.reduceSub, Nat.reduceMul, Nat.reduceLeDiff, Nat.reduceAdd, Nat.reduceLT, Nat.reduceEqDiff, reduceCtorEq, ↓reduceIte, hAl, hBl]
  by_cases hza : (A.length : Int) = 0
  · have hA0 : A = [] := by rw [← List.length_eq_zero_iff]; omega
    subst hA0
    simp (disch := omega) only [wk, tis, Int.reduceNe, Int.reduceEq, Int.reduceLT, Int.reduceLE, Int.reduceAdd, Int.reduceSub, Int.reduceNeg, Int.reduceMul, Int.reduceToNat, Nat.reduceSub, Nat.reduceMul, Nat.reduceLeDiff, Nat.reduceAdd, Nat.reduceLT, Nat.reduceEqDiff, reduceCtorEq, ↓reduceIte, hza, hBl]
    have : trimz (pmul [] B) = [] := by rw [← List.length_eq_zero_iff, trimz_len, tz_zero_iff]; intro k; rw [cf_pmul]; rfl
    unfold cpoly; rw [this]; rfl
  simp (disch := omega) only [wk, tis, Int.reduceNe, Int.reduceEq, Int.reduceLT, Int.reduceLE, Int.reduceAdd, Int.reduceSub, Int.reduceNeg, Int.reduceMul, Int.reduceToNat, Nat.reduceSub, Nat.reduceMul, Nat.reduceLeDiff, Nat.reduceAdd, Nat.reduceLT, Nat.reduceEqDiff, reduceCtorEq, ↓reduceIte, hza, hAl, hBl]
  refine if_by (fun hzb => ?_) (fun hzb => ?_)
  · have hB0 : B = [] := by rw [← List.length_eq_zero_iff]; omega
    subst hB0
    simp (disch := omega) only [wk, tis, Int.reduceNe, Int.reduceEq, Int.reduceLT, Int.reduceLE, Int.reduceAdd, Int.reduceSub, Int.reduceNeg, Int.reduceMul, Int.reduceToNat, Nat.reduceSub, Nat.reduceMul, Nat.reduceLeDiff, Nat.reduceAdd, Nat.reduceLT, Nat.reduceEqDiff, reduceCtorEq, ↓reduceIte, hza, hAl]
    have : trimz (pmul A []) = [] := by
      rw [← List.length_eq_zero_iff, trimz_len, tz_zero_iff]; intro k; rw [cf_pmul, cv_none]
    unfold cpoly; rw [this]; rfl
  simp (disch := omega) only [wk, tis, Int.reduceNe, Int.reduceEq, Int.reduceLT, Int.reduceLE, Int.reduceAdd, Int.reduceSub, Int.reduceNeg, Int.reduceMul, Int.reduceToNat, Nat.reduceSub, Nat.reduceMul, Nat.reduceLeDiff, Nat.reduceAdd, Nat.reduceLT, Nat.reduceEqDiff, reduceCtorEq, ↓reduceIte, hAl, hBl]
  have eN : (A.length : Int) + (B.length : Int) - 1 = ((A.length + B.length - 1 : Nat) : Int) := by omega
  rw [eN]
  simp (disch := omega) only [wk, tis, Int.reduceNe, Int.reduceEq, Int.reduceLT, Int.reduceLE, Int.reduceAdd, Int.reduceSub, Int.reduceNeg, Int.reduceMul, Int.reduceToNat, Nat.reduceSub, Nat.reduceMul, Nat.reduceLeDiff, Nat.reduceAdd, Nat.reduceLT, Nat.reduceEqDiff, reduceCtorEq, ↓reduceIte, hAl, hBl]
  generalize hN : A.length + B.length - 1 = N at *
  refine aloop_by (fun f H => ∃ (i st : Nat) (out : List Int), i ≤ A.length ∧ out.length = N ∧ (∀ k, cf out k = cv (A.take i) (cf B) k) ∧
    f 0 = .iv (.sl (raws (A.map canon))) ∧ f 1 = .iv (.sl (raws (B.map canon))) ∧ f 5 = .hs 26 st ∧ f 28 = .iv (.int .i64 A.length) ∧ f 29 = .iv (.int .i64 i) ∧ H 26 = .blk false st 40 2 (raws (out.map canon))) (fun f H => (A.length - intAt f 29).toNat) ?_ ?_
  · exact ⟨0, 1, List.replicate N 0, by omega, by simp, fun k => by rw [cf_rep]; rfl, by simp (disch := omega) only [wk, tis, Int.reduceNe, Int.reduceEq, Int.reduceLT, Int.reduceLE, Int.reduceAdd, Int.reduceSub, Int.reduceNeg, Int.reduceMul, Int.reduceToNat, Nat.reduceSub, Nat.reduceMul, Nat.reduceLeDiff, Nat.reduceAdd, Nat.reduceLT, Nat.reduceEqDiff, reduceCtorEq, ↓reduceIte], by simp (disch := omega) only [wk, tis, Int.reduceNe, Int.reduceEq, Int.reduceLT, Int.reduceLE, Int.reduceAdd, Int.reduceSub, Int.reduceNeg, Int.reduceMul, Int.reduceToNat, Nat.reduceSub, Nat.reduceMul, Nat.reduceLeDiff, Nat.reduceAdd, Nat.reduceLT, Nat.reduceEqDiff, reduceCtorEq, ↓reduceIte], by simp (disch := omega) only [wk, tis, Int.reduceNe, Int.reduceEq, Int.reduceLT, Int.reduceLE, Int.reduceAdd, Int.reduceSub, Int.reduceNeg, Int.reduceMul, Int.reduceToNat, Nat.reduceSub, Nat.reduceMul, Nat.reduceLeDiff, Nat.reduceAdd, Nat.reduceLT, Nat.reduceEqDiff, reduceCtorEq, ↓reduceIte], by simp (disch := omega) only [wk, tis, Int.reduceNe, Int.reduceEq, Int.reduceLT, Int.reduceLE, Int.reduceAdd, Int.reduceSub, Int.reduceNeg, Int.reduceMul, Int.reduceToNat, Nat.reduceSub, Nat.reduceMul, Nat.reduceLeDiff, Nat.reduceAdd, Nat.reduceLT, Nat.reduceEqDiff, reduceCtorEq, ↓reduceIte, hAl], by simp (disch := omega) only [wk, tis, Int.reduceNe, Int.reduceEq, Int.reduceLT, Int.reduceLE, Int.reduceAdd, Int.reduceSub, Int.reduceNeg, Int.reduceMul, Int.reduceToNat, Nat.reduceSub, Nat.reduceMul, Nat.reduceLeDiff, Nat.reduceAdd, Nat.reduceLT, Nat.reduceEqDiff, reduceCtorEq, ↓reduceIte], by simp (disch := omega) only [wk, tis, Int.reduceNe, Int.reduceEq, Int.reduceLT, Int.reduceLE, Int.reduceAdd, Int.reduceSub, Int.reduceNeg, Int.reduceMul, Int.reduceToNat, Nat.reduceSub, Nat.reduceMul, Nat.reduceLeDiff, Nat.reduceAdd, Nat.reduceLT, Nat.reduceEqDiff, reduceCtorEq, ↓reduceIte, Int.toNat_natCast, rep_canon]⟩
  rintro f H ⟨i, st, out, hi, hol, hv, h0, h1, h5, h28, h29, hH⟩
  rw [intAt_of h29]
  simp (disch := omega) only [wk, tis, Int.reduceNe, Int.reduceEq, Int.reduceLT, Int.reduceLE, Int.reduceAdd, Int.reduceSub, Int.reduceNeg, Int.reduceMul, Int.reduceToNat, Nat.reduceSub, Nat.reduceMul, Nat.reduceLeDiff, Nat.reduceAdd, Nat.reduceLT, Nat.reduceEqDiff, reduceCtorEq, ↓reduceIte, h0, h1, h5, h28, h29, hH, hAl, hBl]
  refine if_by (fun hlt => ?_) (fun hlt => ?_)
  · simp (disch := omega) only [wk, tis, Int.reduceNe, Int.reduceEq, Int.reduceLT, Int.reduceLE, Int.reduceAdd, Int.reduceSub, Int.reduceNeg, Int.reduceMul, Int.reduceToNat, Nat.reduceSub, Nat.reduceMul, Nat.reduceLeDiff, Nat.reduceAdd, Nat.reduceLT, Nat.reduceEqDiff, reduceCtorEq, ↓reduceIte, h0, h1, h5, h28, h29, hH, hAl, hBl]
    refine aloop_by (fun f H => ∃ (j st : Nat) (out : List Int), j ≤ B.length ∧ out.length = N ∧ (∀ k, cf out k = cv (A.take i) (cf B) k + (if i ≤ k ∧ k < i + j then cf A i * cf B (k - i) else 0)) ∧
      f 0 = .iv (.sl (raws (A.map canon))) ∧ f 1 = .iv (.sl (raws (B.map canon))) ∧ f 5 = .hs 26 st ∧ f 6 = .iv (.int .i64 i) ∧ f 28 = .iv (.int .i64 A.length) ∧ f 29 = .iv (.int .i64 i) ∧ f 33 = .iv (.int .i64 B.length) ∧ f 34 = .iv (.int .i64 j) ∧ H 26 = .blk false st 40 2 (raws (out.map canon))) (fun f H => (B.length - intAt f 34).toNat) ?_ ?_
    · refine ⟨0, st, out, by omega, hol, fun k => ?_, by simp (disch := omega) only [wk, tis, Int.reduceNe, Int.reduceEq, Int.reduceLT, Int.reduceLE, Int.reduceAdd, Int.reduceSub, Int.reduceNeg, Int.reduceMul, Int.reduceToNat, Nat.reduceSub, Nat.reduceMul, Nat.reduceLeDiff, Nat.reduceAdd, Nat.reduceLT, Nat.reduceEqDiff, reduceCtorEq, ↓reduceIte, h0], by simp (disch := omega) only [wk, tis, Int.reduceNe, Int.reduceEq, Int.reduceLT, Int.reduceLE, Int.reduceAdd, Int.reduceSub, Int.reduceNeg, Int.reduceMul, Int.reduceToNat, Nat.reduceSub, Nat.reduceMul, Nat.reduceLeDiff, Nat.reduceAdd, Nat.reduceLT, Nat.reduceEqDiff, reduceCtorEq, ↓reduceIte, h1], by simp (disch := omega) only [wk, tis, Int.reduceNe, Int.reduceEq, Int.reduceLT, Int.reduceLE, Int.reduceAdd, Int.reduceSub, Int.reduceNeg, Int.reduceMul, Int.reduceToNat, Nat.reduceSub, Nat.reduceMul, Nat.reduceLeDiff, Nat.reduceAdd, Nat.reduceLT, Nat.reduceEqDiff, reduceCtorEq, ↓reduceIte, h5], by simp (disch := omega) only [wk, tis, Int.reduceNe, Int.reduceEq, Int.reduceLT, Int.reduceLE, Int.reduceAdd, Int.reduceSub, Int.reduceNeg, Int.reduceMul, Int.reduceToNat, Nat.reduceSub, Nat.reduceMul, Nat.reduceLeDiff, Nat.reduceAdd, Nat.reduceLT, Nat.reduceEqDiff, reduceCtorEq, ↓reduceIte], by simp (disch := omega) only [wk, tis, Int.reduceNe, Int.reduceEq, Int.reduceLT, Int.reduceLE, Int.reduceAdd, Int.reduceSub, Int.reduceNeg, Int.reduceMul, Int.reduceToNat, Nat.reduceSub, Nat.reduceMul, Nat.reduceLeDiff, Nat.reduceAdd, Nat.reduceLT, Nat.reduceEqDiff, reduceCtorEq, ↓reduceIte, h28], by simp (disch := omega) only [wk, tis, Int.reduceNe, Int.reduceEq, Int.reduceLT, Int.reduceLE, Int.reduceAdd, Int.reduceSub, Int.reduceNeg, Int.reduceMul, Int.reduceToNat, Nat.reduceSub, Nat.reduceMul, Nat.reduceLeDiff, Nat.reduceAdd, Nat.reduceLT, Nat.reduceEqDiff, reduceCtorEq, ↓reduceIte, h29], by simp (disch := omega) only [wk, tis, Int.reduceNe, Int.reduceEq, Int.reduceLT, Int.reduceLE, Int.reduceAdd, Int.reduceSub, Int.reduceNeg, Int.reduceMul, Int.reduceToNat, Nat.reduceSub, Nat.reduceMul, Nat.reduceLeDiff, Nat.reduceAdd, Nat.reduceLT, Nat.reduceEqDiff, reduceCtorEq, ↓reduceIte, hBl], by simp (disch := omega) only [wk, tis, Int.reduceNe, Int.reduceEq, Int.reduceLT, Int.reduceLE, Int.reduceAdd, Int.reduceSub, Int.reduceNeg, Int.reduceMul, Int.reduceToNat, Nat.reduceSub, Nat.reduceMul, Nat.reduceLeDiff, Nat.reduceAdd, Nat.reduceLT, Nat.reduceEqDiff, reduceCtorEq, ↓reduceIte], by simp (disch := omega) only [wk, tis, Int.reduceNe, Int.reduceEq, Int.reduceLT, Int.reduceLE, Int.reduceAdd, Int.reduceSub, Int.reduceNeg, Int.reduceMul, Int.reduceToNat, Nat.reduceSub, Nat.reduceMul, Nat.reduceLeDiff, Nat.reduceAdd, Nat.reduceLT, Nat.reduceEqDiff, reduceCtorEq, ↓reduceIte, hH]⟩
      rw [hv k, if_neg (by omega), Int.add_zero]
    clear h0 h1 h5 h28 h29 hH hv hol
    clear out st f H
    rintro f H ⟨j, st, out, hj, hol, hv, h0, h1, h5, h6, h28, h29, h33, h34, hH⟩
    rw [intAt_of h34]
    simp (disch := omega) only [wk, tis, Int.reduceNe, Int.reduceEq, Int.reduceLT, Int.reduceLE, Int.reduceAdd, Int.reduceSub, Int.reduceNeg, Int.reduceMul, Int.reduceToNat, Nat.reduceSub, Nat.reduceMul, Nat.reduceLeDiff, Nat.reduceAdd, Nat.reduceLT, Nat.reduceEqDiff, reduceCtorEq, ↓reduceIte, h0, h1, h5, h6, h28, h29, h33, h34, hH]
    refine if_by (fun hlj => ?_) (fun hlj => ?_)
    · have hq : (out.map canon).length = N := by rw [List.length_map, hol]
      have eij : (i : Int) + (j : Int) = ((i + j : Nat) : Int) := by omega
      simp (disch := omega) only [wk, tis, Int.reduceNe, Int.reduceEq, Int.reduceLT, Int.reduceLE, Int.reduceAdd, Int.reduceSub, Int.reduceNeg, Int.reduceMul, Int.reduceToNat, Nat.reduceSub, Nat.reduceMul, Nat.reduceLeDiff, Nat.reduceAdd, Nat.reduceLT, Nat.reduceEqDiff, reduceCtorEq, ↓reduceIte, h0, h1, h5, h6, h28, h29, h33, h34, hH, hq, hAl, hBl]
      rw [eij]
      simp (disch := omega) only [wk, tis, Int.reduceNe, Int.reduceEq, Int.reduceLT, Int.reduceLE, Int.reduceAdd, Int.reduceSub, Int.reduceNeg, Int.reduceMul, Int.reduceToNat, Nat.reduceSub, Nat.reduceMul, Nat.reduceLeDiff, Nat.reduceAdd, Nat.reduceLT, Nat.reduceEqDiff, reduceCtorEq, ↓reduceIte, h0, h1, h5, h6, h28, h29, h33, h34, hH, hq, hAl, hBl]
      refine ⟨tmps_by (by kernel_rfl), ?_⟩
      have hAi := pa.cf i
      have hBj := pb.cf j
      have hprod := zl_mul (cf A i) (cf B j)
      have hold : cf out (i + j) = cv (A.take i) (cf B) (i + j) := by rw [hv, if_neg (by omega), Int.add_zero]
      have hzo : zl (cf out (i + j)) ≤ 2 ^ 35 + 2 ^ 35 + 1 := by rw [hold]; exact zl_cv (PB_take pa i) pb (by decide) _
      have m := zmul_ok (canon (cf A i)) (canon (cf B j)) ((sz_canon _).mono (by omega)) ((sz_canon _).mono (by omega))
      rw [iv_canon, iv_canon] at m
      refine call_by (m) (by first | rfl | (simp only [tocvs, tocv, h0, h1, h5, h6, h28, h29, h33, h34, hH, hq, hAl, hBl]; rfl)) (by simp) ?_
      simp (disch := omega) only [wk, tis, Int.reduceNe, Int.reduceEq, Int.reduceLT, Int.reduceLE, Int.reduceAdd, Int.reduceSub, Int.reduceNeg, Int.reduceMul, Int.reduceToNat, Nat.reduceSub, Nat.reduceMul, Nat.reduceLeDiff, Nat.reduceAdd, Nat.reduceLT, Nat.reduceEqDiff, reduceCtorEq, ↓reduceIte, h0, h1, h5, h6, h28, h29, h33, h34, hH, hq, hAl, hBl]
      have s := zadd_ok (canon (cf out (i + j))) (canon (cf A i * cf B j)) ((sz_canon _).mono (by omega)) ((sz_canon _).mono (by omega))
      rw [iv_canon, iv_canon] at s
      refine call_by (s) (by first | rfl | (simp only [tocvs, tocv, h0, h1, h5, h6, h28, h29, h33, h34, hH, hq, hAl, hBl]; rfl)) (by simp) ?_
      simp (disch := omega) only [wk, tis, Int.reduceNe, Int.reduceEq, Int.reduceLT, Int.reduceLE, Int.reduceAdd, Int.reduceSub, Int.reduceNeg, Int.reduceMul, Int.reduceToNat, Nat.reduceSub, Nat.reduceMul, Nat.reduceLeDiff, Nat.reduceAdd, Nat.reduceLT, Nat.reduceEqDiff, reduceCtorEq, ↓reduceIte, h0, h1, h5, h6, h28, h29, h33, h34, hH, hq, hAl, hBl]
      first | exact log_by (by kernel_rfl) | refine ⟨log_by (by kernel_rfl), ?_⟩
      refine ⟨⟨j + 1, st, out.set (i + j) (cf out (i + j) + cf A i * cf B j), by omega, by simp [hol], fun k => ?_, rfl, by omega, rfl⟩, by omega⟩
      rw [cf_set (by omega)]
      by_cases e : k = i + j
      · subst e
        rw [if_pos rfl, if_pos ⟨by omega, by omega⟩, hold, Nat.add_sub_cancel_left]
      · rw [if_neg e, hv k]
        by_cases hk : i ≤ k ∧ k < i + j
        · rw [if_pos hk, if_pos ⟨hk.1, by omega⟩]
        · rw [if_neg hk, if_neg (by omega)]
    · simp (disch := omega) only [wk, tis, Int.reduceNe, Int.reduceEq, Int.reduceLT, Int.reduceLE, Int.reduceAdd, Int.reduceSub, Int.reduceNeg, Int.reduceMul, Int.reduceToNat, Nat.reduceSub, Nat.reduceMul, Nat.reduceLeDiff, Nat.reduceAdd, Nat.reduceLT, Nat.reduceEqDiff, reduceCtorEq, ↓reduceIte, h0, h1, h5, h6, h28, h29, h33, h34, hH, hAl, hBl]
      refine ⟨⟨i + 1, st, out, by omega, hol, fun k => ?_, rfl, by omega, rfl⟩, by omega⟩
      rw [hv k, cv_take_succ]
      congr 1
      by_cases hk : i ≤ k
      · rw [if_pos hk]
        by_cases hk2 : k < i + j
        · rw [if_pos ⟨hk, hk2⟩]
        · rw [if_neg (by omega), cf_ge (q := B) (by omega), Int.mul_zero]
      · rw [if_neg hk, if_neg (by omega)]
  · simp (disch := omega) only [wk, tis, Int.reduceNe, Int.reduceEq, Int.reduceLT, Int.reduceLE, Int.reduceAdd, Int.reduceSub, Int.reduceNeg, Int.reduceMul, Int.reduceToNat, Nat.reduceSub, Nat.reduceMul, Nat.reduceLeDiff, Nat.reduceAdd, Nat.reduceLT, Nat.reduceEqDiff, reduceCtorEq, ↓reduceIte, h0, h1, h5, h28, h29, hH, hAl, hBl]
    have hiA : i = A.length := by omega
    have e : cp (pmul A B) = cp (pv (out.map canon)) := by
      refine cp_ext fun k => ?_
      rw [pv_canon, hv, cf_pmul, hiA, List.take_length]
    unfold cpoly at e
    rw [e]
    refine call_by ((pnorm_ok (out.map canon) (RP.canon (.of (by omega) fun k => by rw [hv]; exact Nat.le_trans (zl_cv (PB_take pa i) pb (by decide) k) (by omega))))) (by first | rfl | (simp only [tocvs, tocv, h0, h1, h5, h28, h29, hH, hAl, hBl]; rfl)) (by simp) ?_
    simp (disch := omega) only [wk, tis, Int.reduceNe, Int.reduceEq, Int.reduceLT, Int.reduceLE, Int.reduceAdd, Int.reduceSub, Int.reduceNeg, Int.reduceMul, Int.reduceToNat, Nat.reduceSub, Nat.reduceMul, Nat.reduceLeDiff, Nat.reduceAdd, Nat.reduceLT, Nat.reduceEqDiff, reduceCtorEq, ↓reduceIte, h0, h1, h5, h28, h29, hH, hAl, hBl]

end Go.Proofs.Ythgecppfgdadiaa
