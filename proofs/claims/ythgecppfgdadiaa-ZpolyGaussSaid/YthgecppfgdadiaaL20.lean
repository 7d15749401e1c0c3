/-
  Contracts of the functions that the law reaches.
-/
import Derived.Test.YthgecppfgdadiaaL19
namespace Go.Proofs.Ythgecppfgdadiaa
open Go Go.Proofs Go.AL
set_option linter.unusedSimpArgs false
set_option linter.unusedVariables false

theorem smul_ok (a b : List RI) (ha : RP (2 ^ 30) (2 ^ 35) a) (hb : RP (2 ^ 30) (2 ^ 35) b) : AC Try.prog 30 [cw a, cw b] none [cp (pmul (pv a) (pv b))] := by
  refine AC.by_walk (rs := [.tmp 4]) ords Try.func30 (by rfl) (by rfl) (by rfl) (by rfl) (by rfl) ?_
  have pa := ha.pv.trimz
  have pb := hb.pv.trimz
  have e0 : cp (pmul (pv a) (pv b)) = cp (pmul (trimz (pv a)) (trimz (pv b))) := cp_ps (by rw [ps_pmul, ps_pmul, ps_trimz, ps_trimz])
  rw [e0]
  simp (disch := omega) only [wk, tis, Int.reduceNe, Int.reduceEq, Int.reduceLT, Int.reduceLE, Int.reduceAdd, Int.reduceSub, Int.reduceNeg, Int.reduceMul, Int.reduceToNat, Nat.reduceSub, Nat.reduceMul, Nat.reduceLeDiff, Nat.reduceAdd, Nat.reduceLT, Nat.reduceEqDiff, reduceCtorEq, ↓reduceIte]
  refine call_by ((snorm_ok a (ha.mono (by omega) (by omega)))) (by rfl) (by simp) ?_
  simp (disch := omega) only [wk, tis, Int.reduceNe, Int.reduceEq, Int.reduceLT, Int.reduceLE, Int.reduceAdd, Int.reduceSub, Int.reduceNeg, Int.reduceMul, Int.reduceToNat, Nat.reduceSub, Nat.reduceMul, Nat.reduceLeDiff, Nat.reduceAdd, Nat.reduceLT, Nat.reduceEqDiff, reduceCtorEq, ↓reduceIte]
  refine call_by ((snorm_ok b (hb.mono (by omega) (by omega)))) (by rfl) (by simp) ?_
  simp (disch := omega) only [wk, tis, Int.reduceNe, Int.reduceEq, Int.reduceLT, Int.reduceLE, Int.reduceAdd, Int.reduceSub, Int.reduceNeg, Int.reduceMul, Int.reduceToNat, Nat.reduceSub, Nat.reduceMul, Nat.reduceLeDiff, Nat.reduceAdd, Nat.reduceLT, Nat.reduceEqDiff, reduceCtorEq, ↓reduceIte]
  unfold cpoly
  generalize trimz (pv a) = A at *
  generalize trimz (pv b) = B at *
  have hA := pa.1
  have hB := pb.1
  have hAl : (A.map canon).length = A.length := by simp
  have hBl : (B.map canon).length = B.length := by simp
  simp (disch := omega) only [wk, tis, Int.reduceNe, Int.reduceEq, Int.reduceLT, Int.reduceLE, Int.reduceAdd, Int.reduceSub, Int.reduceNeg, Int.reduceMul, Int.reduceToNat, Nat.reduceSub, Nat.reduceMul, Nat.reduceLeDiff, Nat.reduceAdd, Nat.reduceLT, Nat.reduceEqDiff, reduceCtorEq, ↓reduceIte, hAl, hBl]
  by_cases hza : (A.length : Int) = 0
  · have hA0 : A = [] := by rw [← List.length_eq_zero_iff]; omega
    subst hA0
    simp (disch := omega) only [wk, tis, Int.reduceNe, Int.reduceEq, Int.reduceLT, Int.reduceLE, Int.reduceAdd, Int.reduceSub, Int.reduceNeg, Int.reduceMul, Int.reduceToNat, Nat.reduceSub, Nat.reduceMul, Nat.reduceLeDiff, Nat.reduceAdd, Nat.reduceLT, Nat.reduceEqDiff, reduceCtorEq, ↓reduceIte, hza, hBl]
    have : trimz (pmul [] B) = [] := by rw [← List.length_eq_zero_iff, trimz_len, tz_zero_iff]; intro k; rw [cf_pmul]; rfl
    unfold cpoly; rw [this]; rfl
  by_cases hzb : (B.length : Int) = 0
  · have hB0 : B = [] := by rw [← List.length_eq_zero_iff]; omega
    subst hB0
    simp (disch := omega) only [wk, tis, Int.reduceNe, Int.reduceEq, Int.reduceLT, Int.reduceLE, Int.reduceAdd, Int.reduceSub, Int.reduceNeg, Int.reduceMul, Int.reduceToNat, Nat.reduceSub, Nat.reduceMul, Nat.reduceLeDiff, Nat.reduceAdd, Nat.reduceLT, Nat.reduceEqDiff, reduceCtorEq, ↓reduceIte, hza, hzb, hAl]
    have : trimz (pmul A []) = [] := by
      rw [← List.length_eq_zero_iff, trimz_len, tz_zero_iff]; intro k; rw [cf_pmul, cv_none]
    unfold cpoly; rw [this]; rfl
  simp (disch := omega) only [wk, tis, Int.reduceNe, Int.reduceEq, Int.reduceLT, Int.reduceLE, Int.reduceAdd, Int.reduceSub, Int.reduceNeg, Int.reduceMul, Int.reduceToNat, Nat.reduceSub, Nat.reduceMul, Nat.reduceLeDiff, Nat.reduceAdd, Nat.reduceLT, Nat.reduceEqDiff, reduceCtorEq, ↓reduceIte, hza, hzb, hAl, hBl]
  have eN : (A.length : Int) + (B.length : Int) - 1 = ((A.length + B.length - 1 : Nat) : Int) := by omega
  rw [eN]
  simp (disch := omega) only [wk, tis, Int.reduceNe, Int.reduceEq, Int.reduceLT, Int.reduceLE, Int.reduceAdd, Int.reduceSub, Int.reduceNeg, Int.reduceMul, Int.reduceToNat, Nat.reduceSub, Nat.reduceMul, Nat.reduceLeDiff, Nat.reduceAdd, Nat.reduceLT, Nat.reduceEqDiff, reduceCtorEq, ↓reduceIte, hAl, hBl]
  generalize hN : A.length + B.length - 1 = N at *
  refine aloop_by (fun f H => ∃ (i st : Nat) (out : List Int), i ≤ A.length ∧ out.length = N ∧ (∀ k, cf out k = cv (A.take i) (cf B) k) ∧ f 6 = .iv (.int .i64 i) ∧ f 0 = .iv (.sl (raws (A.map canon))) ∧ f 1 = .iv (.sl (raws (B.map canon))) ∧ f 5 = .hs 26 st ∧ H 26 = .blk false st 40 2 (raws (out.map canon))) (fun f H => (A.length - intAt f 6).toNat) ?_ ?_
  · refine ⟨0, 1, List.replicate N 0, by omega, by simp, fun k => by rw [cf_rep]; rfl, ?_⟩
    simp (disch := omega) only [wk, tis, Int.reduceNe, Int.reduceEq, Int.reduceLT, Int.reduceLE, Int.reduceAdd, Int.reduceSub, Int.reduceNeg, Int.reduceMul, Int.reduceToNat, Nat.reduceSub, Nat.reduceMul, Nat.reduceLeDiff, Nat.reduceAdd, Nat.reduceLT, Nat.reduceEqDiff, reduceCtorEq, ↓reduceIte, rep_canon, hAl]
  rintro f H ⟨i, st, out, hi, hol, hv, hF⟩
  rw [intAt_of hF.1]
  simp (disch := omega) only [wk, tis, Int.reduceNe, Int.reduceEq, Int.reduceLT, Int.reduceLE, Int.reduceAdd, Int.reduceSub, Int.reduceNeg, Int.reduceMul, Int.reduceToNat, Nat.reduceSub, Nat.reduceMul, Nat.reduceLeDiff, Nat.reduceAdd, Nat.reduceLT, Nat.reduceEqDiff, reduceCtorEq, ↓reduceIte, hF]
  simp (disch := omega) only [wk, tis, Int.reduceNe, Int.reduceEq, Int.reduceLT, Int.reduceLE, Int.reduceAdd, Int.reduceSub, Int.reduceNeg, Int.reduceMul, Int.reduceToNat, Nat.reduceSub, Nat.reduceMul, Nat.reduceLeDiff, Nat.reduceAdd, Nat.reduceLT, Nat.reduceEqDiff, reduceCtorEq, ↓reduceIte, hAl]
  refine if_by (fun hlt => ?_) (fun hlt => ?_)
  · simp (disch := omega) only [wk, tis, Int.reduceNe, Int.reduceEq, Int.reduceLT, Int.reduceLE, Int.reduceAdd, Int.reduceSub, Int.reduceNeg, Int.reduceMul, Int.reduceToNat, Nat.reduceSub, Nat.reduceMul, Nat.reduceLeDiff, Nat.reduceAdd, Nat.reduceLT, Nat.reduceEqDiff, reduceCtorEq, ↓reduceIte, hF, hAl, hBl]
    refine aloop_by (fun f H => ∃ (j st : Nat) (out : List Int), j ≤ B.length ∧ out.length = N ∧ (∀ k, cf out k = cv (A.take i) (cf B) k + (if i ≤ k ∧ k < i + j then cf A i * cf B (k - i) else 0)) ∧ f 7 = .iv (.int .i64 j) ∧ f 0 = .iv (.sl (raws (A.map canon))) ∧ f 1 = .iv (.sl (raws (B.map canon))) ∧ f 5 = .hs 26 st ∧ f 6 = .iv (.int .i64 i) ∧ H 26 = .blk false st 40 2 (raws (out.map canon))) (fun f H => (B.length - intAt f 7).toNat) ?_ ?_
    · refine ⟨0, st, out, by omega, hol, fun k => by rw [hv k, if_neg (by omega), Int.add_zero], ?_⟩
      simp (disch := omega) only [wk, tis, Int.reduceNe, Int.reduceEq, Int.reduceLT, Int.reduceLE, Int.reduceAdd, Int.reduceSub, Int.reduceNeg, Int.reduceMul, Int.reduceToNat, Nat.reduceSub, Nat.reduceMul, Nat.reduceLeDiff, Nat.reduceAdd, Nat.reduceLT, Nat.reduceEqDiff, reduceCtorEq, ↓reduceIte, hF]
    rintro f H ⟨j, st, out, hj, hol, hv, hF⟩
    rw [intAt_of hF.1]
    simp (disch := omega) only [wk, tis, Int.reduceNe, Int.reduceEq, Int.reduceLT, Int.reduceLE, Int.reduceAdd, Int.reduceSub, Int.reduceNeg, Int.reduceMul, Int.reduceToNat, Nat.reduceSub, Nat.reduceMul, Nat.reduceLeDiff, Nat.reduceAdd, Nat.reduceLT, Nat.reduceEqDiff, reduceCtorEq, ↓reduceIte, hF]
    simp (disch := omega) only [wk, tis, Int.reduceNe, Int.reduceEq, Int.reduceLT, Int.reduceLE, Int.reduceAdd, Int.reduceSub, Int.reduceNeg, Int.reduceMul, Int.reduceToNat, Nat.reduceSub, Nat.reduceMul, Nat.reduceLeDiff, Nat.reduceAdd, Nat.reduceLT, Nat.reduceEqDiff, reduceCtorEq, ↓reduceIte, hBl]
    refine if_by (fun hlj => ?_) (fun hlj => ?_)
    · have hq : (out.map canon).length = N := by rw [List.length_map, hol]
      have eij : (i : Int) + (j : Int) = ((i + j : Nat) : Int) := by omega
      simp (disch := omega) only [wk, tis, Int.reduceNe, Int.reduceEq, Int.reduceLT, Int.reduceLE, Int.reduceAdd, Int.reduceSub, Int.reduceNeg, Int.reduceMul, Int.reduceToNat, Nat.reduceSub, Nat.reduceMul, Nat.reduceLeDiff, Nat.reduceAdd, Nat.reduceLT, Nat.reduceEqDiff, reduceCtorEq, ↓reduceIte, hF, hq, hAl, hBl, eij]
      refine ⟨tmps_by (by kernel_rfl), ?_⟩
      have hAi := pa.cf i
      have hBj := pb.cf j
      have hprod := zl_mul (cf A i) (cf B j)
      have hold : cf out (i + j) = cv (A.take i) (cf B) (i + j) := by rw [hv, if_neg (by omega), Int.add_zero]
      have hzo : zl (cf out (i + j)) ≤ 2 ^ 35 + 2 ^ 35 + 1 := by rw [hold]; exact zl_cv (PB_take pa i) pb (by decide) _
      have m := rMul_ok (canon (cf A i)) (canon (cf B j)) ((sz_canon _).mono (by omega)) ((sz_canon _).mono (by omega))
      rw [iv_canon, iv_canon] at m
      refine call_by (m) (by first | rfl | (simp only [tocvs, tocv, hF, hq, hAl, hBl]; rfl)) (by simp) ?_
      simp (disch := omega) only [wk, tis, Int.reduceNe, Int.reduceEq, Int.reduceLT, Int.reduceLE, Int.reduceAdd, Int.reduceSub, Int.reduceNeg, Int.reduceMul, Int.reduceToNat, Nat.reduceSub, Nat.reduceMul, Nat.reduceLeDiff, Nat.reduceAdd, Nat.reduceLT, Nat.reduceEqDiff, reduceCtorEq, ↓reduceIte, hF, hq, hAl, hBl]
      have s := rAdd_ok (canon (cf out (i + j))) (canon (cf A i * cf B j)) ((sz_canon _).mono (by omega)) ((sz_canon _).mono (by omega))
      rw [iv_canon, iv_canon] at s
      refine call_by (s) (by first | rfl | (simp only [tocvs, tocv, hF, hq, hAl, hBl]; rfl)) (by simp) ?_
      simp (disch := omega) only [wk, tis, Int.reduceNe, Int.reduceEq, Int.reduceLT, Int.reduceLE, Int.reduceAdd, Int.reduceSub, Int.reduceNeg, Int.reduceMul, Int.reduceToNat, Nat.reduceSub, Nat.reduceMul, Nat.reduceLeDiff, Nat.reduceAdd, Nat.reduceLT, Nat.reduceEqDiff, reduceCtorEq, ↓reduceIte, hF, hq, hAl, hBl]
      first | exact log_by (by kernel_rfl) | refine ⟨log_by (by kernel_rfl), ?_⟩
      refine ⟨⟨j + 1, st, out.set (i + j) (cf out (i + j) + cf A i * cf B j), by omega, by simp [hol], fun k => ?_, by omega, rfl, rfl⟩, by omega⟩
      rw [cf_set (by omega)]
      by_cases e : k = i + j
      · subst e
        rw [if_pos rfl, if_pos ⟨by omega, by omega⟩, hold, Nat.add_sub_cancel_left]
      · rw [if_neg e, hv k]
        by_cases hk : i ≤ k ∧ k < i + j
        · rw [if_pos hk, if_pos ⟨hk.1, by omega⟩]
        · rw [if_neg hk, if_neg (by omega)]
    · simp (disch := omega) only [wk, tis, Int.reduceNe, Int.reduceEq, Int.reduceLT, Int.reduceLE, Int.reduceAdd, Int.reduceSub, Int.reduceNeg, Int.reduceMul, Int.reduceToNat, Nat.reduceSub, Nat.reduceMul, Nat.reduceLeDiff, Nat.reduceAdd, Nat.reduceLT, Nat.reduceEqDiff, reduceCtorEq, ↓reduceIte, hF, hAl, hBl]
      refine ⟨⟨i + 1, st, out, by omega, hol, fun k => ?_, by omega, rfl, rfl⟩, by omega⟩
      rw [hv k, cv_take_succ]
      congr 1
      by_cases hk : i ≤ k
      · rw [if_pos hk]
        by_cases hk2 : k < i + j
        · rw [if_pos ⟨hk, hk2⟩]
        · rw [if_neg (by omega), cf_ge (q := B) (by omega), Int.mul_zero]
      · rw [if_neg hk, if_neg (by omega)]
  · simp (disch := omega) only [wk, tis, Int.reduceNe, Int.reduceEq, Int.reduceLT, Int.reduceLE, Int.reduceAdd, Int.reduceSub, Int.reduceNeg, Int.reduceMul, Int.reduceToNat, Nat.reduceSub, Nat.reduceMul, Nat.reduceLeDiff, Nat.reduceAdd, Nat.reduceLT, Nat.reduceEqDiff, reduceCtorEq, ↓reduceIte, hF, hAl, hBl]
    have hiA : i = A.length := by omega
    have e : cp (pmul A B) = cp (pv (out.map canon)) := by
      refine cp_ext fun k => ?_
      rw [pv_canon, hv, cf_pmul, hiA, List.take_length]
    unfold cpoly at e
    rw [e]
    refine call_by ((snorm_ok (out.map canon) (RP.canon (.of (by omega) fun k => by rw [hv]; exact Nat.le_trans (zl_cv (PB_take pa i) pb (by decide) k) (by omega))))) (by first | rfl | (simp only [tocvs, tocv, hF, hAl, hBl]; rfl)) (by simp) ?_
    simp (disch := omega) only [wk, tis, Int.reduceNe, Int.reduceEq, Int.reduceLT, Int.reduceLE, Int.reduceAdd, Int.reduceSub, Int.reduceNeg, Int.reduceMul, Int.reduceToNat, Nat.reduceSub, Nat.reduceMul, Nat.reduceLeDiff, Nat.reduceAdd, Nat.reduceLT, Nat.reduceEqDiff, reduceCtorEq, ↓reduceIte, hF, hAl, hBl]

theorem spow_ok (p : List RI) (n : Int) (h : RP (2 ^ 15) (2 ^ 20) p) : AC Try.prog 37 [cw p, ci n] none [cp (if 0 ≤ n ∧ n ≤ 1000 then ppow (pv p) n.toNat else []), ci (if n < 0 then 3 else if 1000 < n then 13 else 0)] := by
  refine AC.by_walk (rs := [.tmp 4, .tmp 5]) ords Try.func37 (by rfl) (by rfl) (by rfl) (by rfl) (by rfl) ?_
  simp (disch := omega) only [wk, tis, Int.reduceNe, Int.reduceEq, Int.reduceLT, Int.reduceLE, Int.reduceAdd, Int.reduceSub, Int.reduceNeg, Int.reduceMul, Int.reduceToNat, Nat.reduceSub, Nat.reduceMul, Nat.reduceLeDiff, Nat.reduceAdd, Nat.reduceLT, Nat.reduceEqDiff, reduceCtorEq, ↓reduceIte]
  refine call_by ((splain_ok n)) (by rfl) (by simp) ?_
  simp (disch := omega) only [wk, tis, Int.reduceNe, Int.reduceEq, Int.reduceLT, Int.reduceLE, Int.reduceAdd, Int.reduceSub, Int.reduceNeg, Int.reduceMul, Int.reduceToNat, Nat.reduceSub, Nat.reduceMul, Nat.reduceLeDiff, Nat.reduceAdd, Nat.reduceLT, Nat.reduceEqDiff, reduceCtorEq, ↓reduceIte]
  by_cases h1 : n < 0
  · have : ¬ (0 ≤ n ∧ n ≤ 1000) := by omega
    simp (disch := omega) only [wk, tis, Int.reduceNe, Int.reduceEq, Int.reduceLT, Int.reduceLE, Int.reduceAdd, Int.reduceSub, Int.reduceNeg, Int.reduceMul, Int.reduceToNat, Nat.reduceSub, Nat.reduceMul, Nat.reduceLeDiff, Nat.reduceAdd, Nat.reduceLT, Nat.reduceEqDiff, reduceCtorEq, ↓reduceIte, h1, this]
    rfl
  by_cases h2 : 1000 < n
  · have : ¬ (0 ≤ n ∧ n ≤ 1000) := by omega
    simp (disch := omega) only [wk, tis, Int.reduceNe, Int.reduceEq, Int.reduceLT, Int.reduceLE, Int.reduceAdd, Int.reduceSub, Int.reduceNeg, Int.reduceMul, Int.reduceToNat, Nat.reduceSub, Nat.reduceMul, Nat.reduceLeDiff, Nat.reduceAdd, Nat.reduceLT, Nat.reduceEqDiff, reduceCtorEq, ↓reduceIte, h1, h2, this]
    rfl
  have h3 : 0 ≤ n ∧ n ≤ 1000 := by omega
  obtain ⟨m, rfl⟩ := Int.eq_ofNat_of_zero_le h3.1
  have hm : m ≤ 1000 := by omega
  simp (disch := omega) only [wk, tis, Int.reduceNe, Int.reduceEq, Int.reduceLT, Int.reduceLE, Int.reduceAdd, Int.reduceSub, Int.reduceNeg, Int.reduceMul, Int.reduceToNat, Nat.reduceSub, Nat.reduceMul, Nat.reduceLeDiff, Nat.reduceAdd, Nat.reduceLT, Nat.reduceEqDiff, reduceCtorEq, ↓reduceIte, h1, h2, h3]
  have s1 := sof_ok [1] (by decide) (by decide)
  refine call_by (s1) (by first | rfl | (simp only [tocvs, tocv, h1, h2]; rfl)) (by simp) ?_
  simp (disch := omega) only [wk, tis, Int.reduceNe, Int.reduceEq, Int.reduceLT, Int.reduceLE, Int.reduceAdd, Int.reduceSub, Int.reduceNeg, Int.reduceMul, Int.reduceToNat, Nat.reduceSub, Nat.reduceMul, Nat.reduceLeDiff, Nat.reduceAdd, Nat.reduceLT, Nat.reduceEqDiff, reduceCtorEq, ↓reduceIte, h1, h2]
  have hb : ∀ x, x ≤ 1000 → PB (2 ^ 30) (2 ^ 35) (ppow (pv p) x) := fun x hx => ((h.pv.ppow (by decide)) x).mono (by omega) (by omega)
  refine aloop_by (fun f H => ∃ (i : Nat), i ≤ m ∧ f 8 = .iv (.int .i64 i) ∧ f 0 = .iv (.sl (raws p)) ∧ f 1 = .iv (.int .i64 m) ∧ f 7 = .iv (.sl (cpoly (ppow (pv p) i)))) (fun f H => (m - intAt f 8).toNat) ?_ ?_
  · refine ⟨0, by omega, ?_⟩
    simp (disch := omega) only [wk, tis, Int.reduceNe, Int.reduceEq, Int.reduceLT, Int.reduceLE, Int.reduceAdd, Int.reduceSub, Int.reduceNeg, Int.reduceMul, Int.reduceToNat, Nat.reduceSub, Nat.reduceMul, Nat.reduceLeDiff, Nat.reduceAdd, Nat.reduceLT, Nat.reduceEqDiff, reduceCtorEq, ↓reduceIte, ppow]
  rintro f H ⟨i, hi, hF⟩
  rw [intAt_of hF.1]
  simp (disch := omega) only [wk, tis, Int.reduceNe, Int.reduceEq, Int.reduceLT, Int.reduceLE, Int.reduceAdd, Int.reduceSub, Int.reduceNeg, Int.reduceMul, Int.reduceToNat, Nat.reduceSub, Nat.reduceMul, Nat.reduceLeDiff, Nat.reduceAdd, Nat.reduceLT, Nat.reduceEqDiff, reduceCtorEq, ↓reduceIte, hF]
  refine if_by (fun hlt => ?_) (fun hlt => ?_)
  · simp (disch := omega) only [wk, tis, Int.reduceNe, Int.reduceEq, Int.reduceLT, Int.reduceLE, Int.reduceAdd, Int.reduceSub, Int.reduceNeg, Int.reduceMul, Int.reduceToNat, Nat.reduceSub, Nat.reduceMul, Nat.reduceLeDiff, Nat.reduceAdd, Nat.reduceLT, Nat.reduceEqDiff, reduceCtorEq, ↓reduceIte, hF]
    have hm := smul_ok (cn (ppow (pv p) i)) p (rp_cn (hb i (by omega))) (h.mono (by omega) (by omega))
    have e : cp (pmul (pv (cn (ppow (pv p) i))) (pv p)) = cp (ppow (pv p) (i + 1)) := cp_ps (by rw [ps_pmul, ps_cn, ps_ppow, ps_ppow]; rfl)
    rw [e] at hm
    refine call_by (hm) (by first | rfl | (simp only [tocvs, tocv, hF]; rfl)) (by simp) ?_
    simp (disch := omega) only [wk, tis, Int.reduceNe, Int.reduceEq, Int.reduceLT, Int.reduceLE, Int.reduceAdd, Int.reduceSub, Int.reduceNeg, Int.reduceMul, Int.reduceToNat, Nat.reduceSub, Nat.reduceMul, Nat.reduceLeDiff, Nat.reduceAdd, Nat.reduceLT, Nat.reduceEqDiff, reduceCtorEq, ↓reduceIte, hF]
    exact ⟨⟨i + 1, by omega, by omega, rfl⟩, by omega⟩
  · simp (disch := omega) only [wk, tis, Int.reduceNe, Int.reduceEq, Int.reduceLT, Int.reduceLE, Int.reduceAdd, Int.reduceSub, Int.reduceNeg, Int.reduceMul, Int.reduceToNat, Nat.reduceSub, Nat.reduceMul, Nat.reduceLeDiff, Nat.reduceAdd, Nat.reduceLT, Nat.reduceEqDiff, reduceCtorEq, ↓reduceIte, hF]
    have : i = m := by omega
    subst this
    rfl

theorem lplain_ok (e w : Int) : AC Try.prog 35 [ci e, ci w] none [cb (decide (e = w))] := by
  refine AC.by_walk (rs := [.tmp 4]) ords Try.func35 (by rfl) (by rfl) (by rfl) (by rfl) (by rfl) ?_
  simp (disch := omega) only [wk, tis, Int.reduceNe, Int.reduceEq, Int.reduceLT, Int.reduceLE, Int.reduceAdd, Int.reduceSub, Int.reduceNeg, Int.reduceMul, Int.reduceToNat, Nat.reduceSub, Nat.reduceMul, Nat.reduceLeDiff, Nat.reduceAdd, Nat.reduceLT, Nat.reduceEqDiff, reduceCtorEq, ↓reduceIte]

end Go.Proofs.Ythgecppfgdadiaa
