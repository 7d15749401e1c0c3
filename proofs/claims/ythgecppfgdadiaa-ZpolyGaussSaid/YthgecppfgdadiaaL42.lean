/-
  Contracts of the functions that the law reaches.
-/
import Derived.Test.YthgecppfgdadiaaL41
import Derived.Test.YthgecppfgdadiaaL25
namespace Go.Proofs.Ythgecppfgdadiaa
open Go Go.Proofs Go.AL
set_option linter.unusedSimpArgs false
set_option linter.unusedVariables false

theorem cont_ps {p q : List Int} (h : ps p = ps q) : cont p = cont q := by
  unfold cont lc
  rw [gz_eq (ps_eq h), tz_eq_of_cf (ps_eq h), ps_eq h]

theorem prim_ps {p q : List Int} (h : ps p = ps q) : ps (prim p) = ps (prim q) := ps_ext fun k => by
  unfold prim
  rw [cf_pdivs, cf_pdivs, cont_ps h, ps_eq h]

theorem pcontent_g {a : List RI} {q : List Int} (ha : RP (2 ^ 30) (2 ^ 35) a) (eq : ps (pv a) = ps q) : AC Try.prog 79 [cw a] none [cz (cont q)] := by
  rw [← cont_ps eq]; exact pcontent_ok a (ha.mono (by omega) (by omega))

theorem pprim_g {a : List RI} {q : List Int} (ha : RP (2 ^ 30) (2 ^ 35) a) (eq : ps (pv a) = ps q) : AC Try.prog 80 [cw a] none [cp (prim q)] := by
  have h := pprim_ok a ha
  rwa [cp_ps (prim_ps eq)] at h

theorem plead_g {a : List RI} {q : List Int} (ha : RP (2 ^ 30) (2 ^ 35) a) (eq : ps (pv a) = ps q) : AC Try.prog 45 [cw a] none [cz (lc q)] := by
  have h := plead_ok a (ha.mono (by omega) (by omega))
  have e : cf (pv a) (tz (pv a) - 1) = lc q := by unfold lc; rw [tz_eq_of_cf (ps_eq eq), ps_eq eq]
  rwa [e] at h

theorem pover_g {a : List RI} {r : List Int} {c : RI} (ha : RP (2 ^ 30) (2 ^ 35) a) (hc : Sz (2 ^ 35) c) (h0 : iv c ≠ 0) (eq : ps (pv a) = PS.C (iv c) * ps r) : AC Try.prog 83 [cw a, cr c] none [cp r, ci 0] := by
  have hk : ∀ k, cf (pv a) k = iv c * cf r k := fun k => by
    have := congrArg (fun f => f.c k) eq
    simp only [ps_c, PS.C_mul_c] at this
    exact this
  have h := pover_ok a c ha hc h0 fun k => by rw [hk]; exact Int.dvd_mul_right _ _
  rwa [cp_ps (q := r) (ps_ext fun k => by rw [cf_pdivs, hk, Int.mul_ediv_cancel_left _ h0])] at h

theorem pb_prim {n k : Nat} {q : List Int} (h : PB n k q) : PB n k (prim q) := by
  refine .of (by unfold prim pdivs; rw [List.length_map]; exact h.1) fun i => ?_
  unfold prim
  rw [cf_pdivs]
  exact Nat.le_trans (zl_div (cont_dvd q i)) (h.cf i)

theorem zl_cont {n k : Nat} {q : List Int} (h : PB n k q) : zl (cont q) ≤ k := by
  have := gz_len (rp_cn h)
  rw [gz_eq (ps_eq (ps_cn q))] at this
  unfold zl
  rw [cont_natAbs]; exact this

theorem gauss_ok (a b : List RI) (ha : Raw a) (hb : Raw b) : AC Try.prog 9 [cw a, cw b] none [cb true] := by
  refine AC.by_walk (rs := [.tmp 4]) ords Try.func9 (by rfl) (by rfl) (by rfl) (by rfl) (by rfl) ?_
  simp (disch := omega) only [wk, tis, Int.reduceNe, Int.reduceEq, Int.reduceLT, Int.reduceLE, Int.reduceAdd, Int.reduceSub, Int.reduceNeg, Int.reduceMul, Int.reduceToNat, Nat.reduceSub, Nat.reduceMul, Nat.reduceLeDiff, Nat.reduceAdd, Nat.reduceLT, Nat.reduceEqDiff, reduceCtorEq, ↓reduceIte, cpoly_len]
  refine call_by (awake_ok) (by rfl) (by simp) ?_
  simp (disch := omega) only [wk, tis, Int.reduceNe, Int.reduceEq, Int.reduceLT, Int.reduceLE, Int.reduceAdd, Int.reduceSub, Int.reduceNeg, Int.reduceMul, Int.reduceToNat, Nat.reduceSub, Nat.reduceMul, Nat.reduceLeDiff, Nat.reduceAdd, Nat.reduceLT, Nat.reduceEqDiff, reduceCtorEq, ↓reduceIte, cpoly_len]
  refine call_by ((great2_ok a b ha hb)) (by rfl) (by simp) ?_
  simp (disch := omega) only [wk, tis, Int.reduceNe, Int.reduceEq, Int.reduceLT, Int.reduceLE, Int.reduceAdd, Int.reduceSub, Int.reduceNeg, Int.reduceMul, Int.reduceToNat, Nat.reduceSub, Nat.reduceMul, Nat.reduceLeDiff, Nat.reduceAdd, Nat.reduceLT, Nat.reduceEqDiff, reduceCtorEq, ↓reduceIte, cpoly_len]
  refine if_bool (fun hz => ?_) (fun hz => ?_)
  · simp (disch := omega) only [wk, tis, Int.reduceNe, Int.reduceEq, Int.reduceLT, Int.reduceLE, Int.reduceAdd, Int.reduceSub, Int.reduceNeg, Int.reduceMul, Int.reduceToNat, Nat.reduceSub, Nat.reduceMul, Nat.reduceLeDiff, Nat.reduceAdd, Nat.reduceLT, Nat.reduceEqDiff, reduceCtorEq, ↓reduceIte, cpoly_len]
  have ra := great_sub hz (by simp) ha
  have rb := great_sub hz (by simp) hb
  have qa := ra.pv
  have qb := rb.pv
  have ra := ra.mono (n' := 2 ^ 30) (k' := 2 ^ 35) (by decide) (by decide)
  have rb := rb.mono (n' := 2 ^ 30) (k' := 2 ^ 35) (by decide) (by decide)
  have ya := pb_prim qa
  have yb := pb_prim qb
  have rya := (rp_cn ya).mono (n' := 2 ^ 30) (k' := 2 ^ 35) (by decide) (by decide)
  have ryb := (rp_cn yb).mono (n' := 2 ^ 30) (k' := 2 ^ 35) (by decide) (by decide)
  have ca := zl_cont qa
  have cb' := zl_cont qb
  simp (disch := omega) only [wk, tis, Int.reduceNe, Int.reduceEq, Int.reduceLT, Int.reduceLE, Int.reduceAdd, Int.reduceSub, Int.reduceNeg, Int.reduceMul, Int.reduceToNat, Nat.reduceSub, Nat.reduceMul, Nat.reduceLeDiff, Nat.reduceAdd, Nat.reduceLT, Nat.reduceEqDiff, reduceCtorEq, ↓reduceIte, cpoly_len]
  refine call_by ((pcontent_g ra rfl)) (by rfl) (by simp) ?_
  simp (disch := omega) only [wk, tis, Int.reduceNe, Int.reduceEq, Int.reduceLT, Int.reduceLE, Int.reduceAdd, Int.reduceSub, Int.reduceNeg, Int.reduceMul, Int.reduceToNat, Nat.reduceSub, Nat.reduceMul, Nat.reduceLeDiff, Nat.reduceAdd, Nat.reduceLT, Nat.reduceEqDiff, reduceCtorEq, ↓reduceIte, cpoly_len]
  refine call_by ((pcontent_g rb rfl)) (by rfl) (by simp) ?_
  simp (disch := omega) only [wk, tis, Int.reduceNe, Int.reduceEq, Int.reduceLT, Int.reduceLE, Int.reduceAdd, Int.reduceSub, Int.reduceNeg, Int.reduceMul, Int.reduceToNat, Nat.reduceSub, Nat.reduceMul, Nat.reduceLeDiff, Nat.reduceAdd, Nat.reduceLT, Nat.reduceEqDiff, reduceCtorEq, ↓reduceIte, cpoly_len]
  refine call_by ((pprim_g ra rfl)) (by rfl) (by simp) ?_
  simp (disch := omega) only [wk, tis, Int.reduceNe, Int.reduceEq, Int.reduceLT, Int.reduceLE, Int.reduceAdd, Int.reduceSub, Int.reduceNeg, Int.reduceMul, Int.reduceToNat, Nat.reduceSub, Nat.reduceMul, Nat.reduceLeDiff, Nat.reduceAdd, Nat.reduceLT, Nat.reduceEqDiff, reduceCtorEq, ↓reduceIte, cpoly_len]
  refine call_by ((pprim_g rb rfl)) (by rfl) (by simp) ?_
  simp (disch := omega) only [wk, tis, Int.reduceNe, Int.reduceEq, Int.reduceLT, Int.reduceLE, Int.reduceAdd, Int.reduceSub, Int.reduceNeg, Int.reduceMul, Int.reduceToNat, Nat.reduceSub, Nat.reduceMul, Nat.reduceLeDiff, Nat.reduceAdd, Nat.reduceLT, Nat.reduceEqDiff, reduceCtorEq, ↓reduceIte, cpoly_len]
  refine call_by ((pscale_g (q := prim (pv a)) rya ((sz_canon (cont (pv a))).mono (by omega)) (ps_cn _))) (by first | rfl | (simp only [tocvs, tocv, iv_canon]; rfl)) (by simp) ?_
  simp (disch := omega) only [wk, tis, Int.reduceNe, Int.reduceEq, Int.reduceLT, Int.reduceLE, Int.reduceAdd, Int.reduceSub, Int.reduceNeg, Int.reduceMul, Int.reduceToNat, Nat.reduceSub, Nat.reduceMul, Nat.reduceLeDiff, Nat.reduceAdd, Nat.reduceLT, Nat.reduceEqDiff, reduceCtorEq, ↓reduceIte, cpoly_len, iv_canon]
  refine call_by ((pnorm_g ra rfl)) (by rfl) (by simp) ?_
  simp (disch := omega) only [wk, tis, Int.reduceNe, Int.reduceEq, Int.reduceLT, Int.reduceLE, Int.reduceAdd, Int.reduceSub, Int.reduceNeg, Int.reduceMul, Int.reduceToNat, Nat.reduceSub, Nat.reduceMul, Nat.reduceLeDiff, Nat.reduceAdd, Nat.reduceLT, Nat.reduceEqDiff, reduceCtorEq, ↓reduceIte, cpoly_len]
  refine call_by ((same_g ((ya.pscale (c := cont (pv a))).mono (by decide) (by omega)) (qa.mono (by decide) (by decide)) (by rw [ps_pscale, ← ps_prim]))) (by rfl) (by simp) ?_
  simp (disch := omega) only [wk, tis, Int.reduceNe, Int.reduceEq, Int.reduceLT, Int.reduceLE, Int.reduceAdd, Int.reduceSub, Int.reduceNeg, Int.reduceMul, Int.reduceToNat, Nat.reduceSub, Nat.reduceMul, Nat.reduceLeDiff, Nat.reduceAdd, Nat.reduceLT, Nat.reduceEqDiff, reduceCtorEq, ↓reduceIte, cpoly_len]
  refine call_by ((pdeg_g ra rfl)) (by rfl) (by simp) ?_
  simp (disch := omega) only [wk, tis, Int.reduceNe, Int.reduceEq, Int.reduceLT, Int.reduceLE, Int.reduceAdd, Int.reduceSub, Int.reduceNeg, Int.reduceMul, Int.reduceToNat, Nat.reduceSub, Nat.reduceMul, Nat.reduceLeDiff, Nat.reduceAdd, Nat.reduceLT, Nat.reduceEqDiff, reduceCtorEq, ↓reduceIte, cpoly_len]
  have pab := qa.pmul qb (by decide)
  have ypab := ya.pmul yb (by decide)
  have ypq := qa.pmul yb (by decide)
  have rab := (rp_cn pab).mono (n' := 2 ^ 30) (k' := 2 ^ 35) (by decide) (by decide)
  by_cases ht : tz (pv a) = 0
  · have hd : ¬ (0 ≤ (tz (pv a) : Int) - 1) := by omega
    simp (disch := omega) only [wk, tis, Int.reduceNe, Int.reduceEq, Int.reduceLT, Int.reduceLE, Int.reduceAdd, Int.reduceSub, Int.reduceNeg, Int.reduceMul, Int.reduceToNat, Nat.reduceSub, Nat.reduceMul, Nat.reduceLeDiff, Nat.reduceAdd, Nat.reduceLT, Nat.reduceEqDiff, reduceCtorEq, ↓reduceIte, cpoly_len, hd]
    refine call_by ((pmul_g ra rb rfl rfl)) (by rfl) (by simp) ?_
    simp (disch := omega) only [wk, tis, Int.reduceNe, Int.reduceEq, Int.reduceLT, Int.reduceLE, Int.reduceAdd, Int.reduceSub, Int.reduceNeg, Int.reduceMul, Int.reduceToNat, Nat.reduceSub, Nat.reduceMul, Nat.reduceLeDiff, Nat.reduceAdd, Nat.reduceLT, Nat.reduceEqDiff, reduceCtorEq, ↓reduceIte, cpoly_len]
    refine ⟨tmps_by (by kernel_rfl), ?_⟩
    refine call_by ((pcontent_g rab (ps_cn _))) (by first | rfl | (simp only [tocvs, tocv, hd]; rfl)) (by simp) ?_
    simp (disch := omega) only [wk, tis, Int.reduceNe, Int.reduceEq, Int.reduceLT, Int.reduceLE, Int.reduceAdd, Int.reduceSub, Int.reduceNeg, Int.reduceMul, Int.reduceToNat, Nat.reduceSub, Nat.reduceMul, Nat.reduceLeDiff, Nat.reduceAdd, Nat.reduceLT, Nat.reduceEqDiff, reduceCtorEq, ↓reduceIte, cpoly_len, hd]
    refine call_by ((zmul_ok (canon (cont (pv a))) (canon (cont (pv b))) ((sz_canon _).mono (by omega)) ((sz_canon _).mono (by omega)))) (by first | rfl | (simp only [tocvs, tocv, hd, iv_canon]; rfl)) (by simp) ?_
    simp (disch := omega) only [wk, tis, Int.reduceNe, Int.reduceEq, Int.reduceLT, Int.reduceLE, Int.reduceAdd, Int.reduceSub, Int.reduceNeg, Int.reduceMul, Int.reduceToNat, Nat.reduceSub, Nat.reduceMul, Nat.reduceLeDiff, Nat.reduceAdd, Nat.reduceLT, Nat.reduceEqDiff, reduceCtorEq, ↓reduceIte, cpoly_len, hd, iv_canon]
    refine call_by ((sameint_g (cont_mul (pv a) (pv b)) (by have := zl_cont pab; omega))) (by first | rfl | (simp only [tocvs, tocv, hd]; rfl)) (by simp) ?_
    simp (disch := omega) only [wk, tis, Int.reduceNe, Int.reduceEq, Int.reduceLT, Int.reduceLE, Int.reduceAdd, Int.reduceSub, Int.reduceNeg, Int.reduceMul, Int.reduceToNat, Nat.reduceSub, Nat.reduceMul, Nat.reduceLeDiff, Nat.reduceAdd, Nat.reduceLT, Nat.reduceEqDiff, reduceCtorEq, ↓reduceIte, cpoly_len, hd]
    refine call_by ((pprim_g rab (ps_cn _))) (by first | rfl | (simp only [tocvs, tocv, hd]; rfl)) (by simp) ?_
    simp (disch := omega) only [wk, tis, Int.reduceNe, Int.reduceEq, Int.reduceLT, Int.reduceLE, Int.reduceAdd, Int.reduceSub, Int.reduceNeg, Int.reduceMul, Int.reduceToNat, Nat.reduceSub, Nat.reduceMul, Nat.reduceLeDiff, Nat.reduceAdd, Nat.reduceLT, Nat.reduceEqDiff, reduceCtorEq, ↓reduceIte, cpoly_len, hd]
    refine call_by ((pmul_g rya ryb (ps_cn _) (ps_cn _))) (by first | rfl | (simp only [tocvs, tocv, hd]; rfl)) (by simp) ?_
    simp (disch := omega) only [wk, tis, Int.reduceNe, Int.reduceEq, Int.reduceLT, Int.reduceLE, Int.reduceAdd, Int.reduceSub, Int.reduceNeg, Int.reduceMul, Int.reduceToNat, Nat.reduceSub, Nat.reduceMul, Nat.reduceLeDiff, Nat.reduceAdd, Nat.reduceLT, Nat.reduceEqDiff, reduceCtorEq, ↓reduceIte, cpoly_len, hd]
    refine call_by ((same_g ((pb_prim pab).mono (by decide) (by decide)) (ypab.mono (by decide) (by decide)) (prim_mul (pv a) (pv b)))) (by first | rfl | (simp only [tocvs, tocv, hd]; rfl)) (by simp) ?_
    simp (disch := omega) only [wk, tis, Int.reduceNe, Int.reduceEq, Int.reduceLT, Int.reduceLE, Int.reduceAdd, Int.reduceSub, Int.reduceNeg, Int.reduceMul, Int.reduceToNat, Nat.reduceSub, Nat.reduceMul, Nat.reduceLeDiff, Nat.reduceAdd, Nat.reduceLT, Nat.reduceEqDiff, reduceCtorEq, ↓reduceIte, cpoly_len, hd]
    first | exact log_by (by kernel_rfl) | refine ⟨log_by (by kernel_rfl), ?_⟩
    by_cases hcb : cont (pv b) = 0
    · skip
      refine call_by ((pover_zero (cn (pmul (pv a) (pv b))) (canon (cont (pv b))) (rab.mono (by decide) (by decide)) ((sz_canon _).mono (by omega)) (by rw [iv_canon]; exact hcb))) (by first | rfl | (simp only [tocvs, tocv, hd]; rfl)) (by simp) ?_
      simp (disch := omega) only [wk, tis, Int.reduceNe, Int.reduceEq, Int.reduceLT, Int.reduceLE, Int.reduceAdd, Int.reduceSub, Int.reduceNeg, Int.reduceMul, Int.reduceToNat, Nat.reduceSub, Nat.reduceMul, Nat.reduceLeDiff, Nat.reduceAdd, Nat.reduceLT, Nat.reduceEqDiff, reduceCtorEq, ↓reduceIte, cpoly_len, hd]
      have hs := zsign_ok (canon (cont (pv b))) ((sz_canon _).mono (by omega))
      rw [iv_canon, show (cont (pv b)).sign = 0 by rw [hcb]; rfl] at hs
      refine call_by (hs) (by first | rfl | (simp only [tocvs, tocv, hd]; rfl)) (by simp) ?_
      simp (disch := omega) only [wk, tis, Int.reduceNe, Int.reduceEq, Int.reduceLT, Int.reduceLE, Int.reduceAdd, Int.reduceSub, Int.reduceNeg, Int.reduceMul, Int.reduceToNat, Nat.reduceSub, Nat.reduceMul, Nat.reduceLeDiff, Nat.reduceAdd, Nat.reduceLT, Nat.reduceEqDiff, reduceCtorEq, ↓reduceIte, cpoly_len, hd]
      refine call_by ((lplain_ok 1 1)) (by first | rfl | (simp only [tocvs, tocv, hd]; rfl)) (by simp) ?_
      simp (disch := omega) only [wk, tis, Int.reduceNe, Int.reduceEq, Int.reduceLT, Int.reduceLE, Int.reduceAdd, Int.reduceSub, Int.reduceNeg, Int.reduceMul, Int.reduceToNat, Nat.reduceSub, Nat.reduceMul, Nat.reduceLeDiff, Nat.reduceAdd, Nat.reduceLT, Nat.reduceEqDiff, reduceCtorEq, ↓reduceIte, cpoly_len, hd]
    · have hs := zsign_ok (canon (cont (pv b))) ((sz_canon _).mono (by omega))
      rw [iv_canon] at hs
      have hs0 : ¬ (cont (pv b)).sign = 0 := fun h => hcb (Int.sign_eq_zero_iff_zero.mp h)
      refine call_by ((pover_g (c := canon (cont (pv b))) (r := pmul (pv a) (prim (pv b))) rab ((sz_canon _).mono (by omega)) (by rw [iv_canon]; exact hcb) (by rw [iv_canon, ps_cn, ps_pmul, ps_pmul, PS.mul_comm (ps (pv a)) (ps (prim (pv b))), ← PS.mul_assoc, ← ps_prim, PS.mul_comm]))) (by first | rfl | (simp only [tocvs, tocv, hd]; rfl)) (by simp) ?_
      simp (disch := omega) only [wk, tis, Int.reduceNe, Int.reduceEq, Int.reduceLT, Int.reduceLE, Int.reduceAdd, Int.reduceSub, Int.reduceNeg, Int.reduceMul, Int.reduceToNat, Nat.reduceSub, Nat.reduceMul, Nat.reduceLeDiff, Nat.reduceAdd, Nat.reduceLT, Nat.reduceEqDiff, reduceCtorEq, ↓reduceIte, cpoly_len, hd]
      refine call_by (hs) (by first | rfl | (simp only [tocvs, tocv, hd, hs0]; rfl)) (by simp) ?_
      simp (disch := omega) only [wk, tis, Int.reduceNe, Int.reduceEq, Int.reduceLT, Int.reduceLE, Int.reduceAdd, Int.reduceSub, Int.reduceNeg, Int.reduceMul, Int.reduceToNat, Nat.reduceSub, Nat.reduceMul, Nat.reduceLeDiff, Nat.reduceAdd, Nat.reduceLT, Nat.reduceEqDiff, reduceCtorEq, ↓reduceIte, cpoly_len, hd, hs0]
      refine call_by ((pmul_g ra ryb rfl (ps_cn _))) (by first | rfl | (simp only [tocvs, tocv, hd, hs0]; rfl)) (by simp) ?_
      simp (disch := omega) only [wk, tis, Int.reduceNe, Int.reduceEq, Int.reduceLT, Int.reduceLE, Int.reduceAdd, Int.reduceSub, Int.reduceNeg, Int.reduceMul, Int.reduceToNat, Nat.reduceSub, Nat.reduceMul, Nat.reduceLeDiff, Nat.reduceAdd, Nat.reduceLT, Nat.reduceEqDiff, reduceCtorEq, ↓reduceIte, cpoly_len, hd, hs0]
      refine call_by ((same_g (ypq.mono (by decide) (by decide)) (ypq.mono (by decide) (by decide)) rfl)) (by first | rfl | (simp only [tocvs, tocv, hd, hs0]; rfl)) (by simp) ?_
      simp (disch := omega) only [wk, tis, Int.reduceNe, Int.reduceEq, Int.reduceLT, Int.reduceLE, Int.reduceAdd, Int.reduceSub, Int.reduceNeg, Int.reduceMul, Int.reduceToNat, Nat.reduceSub, Nat.reduceMul, Nat.reduceLeDiff, Nat.reduceAdd, Nat.reduceLT, Nat.reduceEqDiff, reduceCtorEq, ↓reduceIte, cpoly_len, hd, hs0]
  · have hd : 0 ≤ (tz (pv a) : Int) - 1 := by omega
    have hc0 : cont (pv a) ≠ 0 := fun h => ht (cont_zero_iff.mp h)
    have hp := prm_prim hc0
    have hself := prm_self hp
    have hzl : zl (lc (prim (pv a))) ≤ 200 := ya.cf _
    have hs := zsign_ok (canon (lc (prim (pv a)))) ((sz_canon _).mono (by omega))
    rw [iv_canon, Int.sign_eq_one_of_pos hp.2] at hs
    have hz1 : zl (1 : Int) ≤ 1 := zl_le.mpr (by decide)
    have e1 := sameint_g (a := cont (prim (pv a))) (b := 1) hself.1 (by rw [hself.1]; omega)
    simp (disch := omega) only [wk, tis, Int.reduceNe, Int.reduceEq, Int.reduceLT, Int.reduceLE, Int.reduceAdd, Int.reduceSub, Int.reduceNeg, Int.reduceMul, Int.reduceToNat, Nat.reduceSub, Nat.reduceMul, Nat.reduceLeDiff, Nat.reduceAdd, Nat.reduceLT, Nat.reduceEqDiff, reduceCtorEq, ↓reduceIte, cpoly_len, hd]
    refine call_by ((plead_g rya (ps_cn _))) (by first | rfl | (simp only [tocvs, tocv, hd]; rfl)) (by simp) ?_
    simp (disch := omega) only [wk, tis, Int.reduceNe, Int.reduceEq, Int.reduceLT, Int.reduceLE, Int.reduceAdd, Int.reduceSub, Int.reduceNeg, Int.reduceMul, Int.reduceToNat, Nat.reduceSub, Nat.reduceMul, Nat.reduceLeDiff, Nat.reduceAdd, Nat.reduceLT, Nat.reduceEqDiff, reduceCtorEq, ↓reduceIte, cpoly_len, hd]
    refine call_by (hs) (by first | rfl | (simp only [tocvs, tocv, hd]; rfl)) (by simp) ?_
    simp (disch := omega) only [wk, tis, Int.reduceNe, Int.reduceEq, Int.reduceLT, Int.reduceLE, Int.reduceAdd, Int.reduceSub, Int.reduceNeg, Int.reduceMul, Int.reduceToNat, Nat.reduceSub, Nat.reduceMul, Nat.reduceLeDiff, Nat.reduceAdd, Nat.reduceLT, Nat.reduceEqDiff, reduceCtorEq, ↓reduceIte, cpoly_len, hd]
    refine call_by ((pprim_g rya (ps_cn _))) (by first | rfl | (simp only [tocvs, tocv, hd]; rfl)) (by simp) ?_
    simp (disch := omega) only [wk, tis, Int.reduceNe, Int.reduceEq, Int.reduceLT, Int.reduceLE, Int.reduceAdd, Int.reduceSub, Int.reduceNeg, Int.reduceMul, Int.reduceToNat, Nat.reduceSub, Nat.reduceMul, Nat.reduceLeDiff, Nat.reduceAdd, Nat.reduceLT, Nat.reduceEqDiff, reduceCtorEq, ↓reduceIte, cpoly_len, hd]
    refine call_by ((same_g ((pb_prim ya).mono (by decide) (by decide)) (ya.mono (by decide) (by decide)) hself.2)) (by first | rfl | (simp only [tocvs, tocv, hd]; rfl)) (by simp) ?_
    simp (disch := omega) only [wk, tis, Int.reduceNe, Int.reduceEq, Int.reduceLT, Int.reduceLE, Int.reduceAdd, Int.reduceSub, Int.reduceNeg, Int.reduceMul, Int.reduceToNat, Nat.reduceSub, Nat.reduceMul, Nat.reduceLeDiff, Nat.reduceAdd, Nat.reduceLT, Nat.reduceEqDiff, reduceCtorEq, ↓reduceIte, cpoly_len, hd]
    refine call_by ((pcontent_g rya (ps_cn _))) (by first | rfl | (simp only [tocvs, tocv, hd]; rfl)) (by simp) ?_
    simp (disch := omega) only [wk, tis, Int.reduceNe, Int.reduceEq, Int.reduceLT, Int.reduceLE, Int.reduceAdd, Int.reduceSub, Int.reduceNeg, Int.reduceMul, Int.reduceToNat, Nat.reduceSub, Nat.reduceMul, Nat.reduceLeDiff, Nat.reduceAdd, Nat.reduceLT, Nat.reduceEqDiff, reduceCtorEq, ↓reduceIte, cpoly_len, hd]
    refine call_by ((zOf_ok 1 (by omega) (by omega))) (by first | rfl | (simp only [tocvs, tocv, hd]; rfl)) (by simp) ?_
    simp (disch := omega) only [wk, tis, Int.reduceNe, Int.reduceEq, Int.reduceLT, Int.reduceLE, Int.reduceAdd, Int.reduceSub, Int.reduceNeg, Int.reduceMul, Int.reduceToNat, Nat.reduceSub, Nat.reduceMul, Nat.reduceLeDiff, Nat.reduceAdd, Nat.reduceLT, Nat.reduceEqDiff, reduceCtorEq, ↓reduceIte, cpoly_len, hd]
    refine call_by (e1) (by first | rfl | (simp only [tocvs, tocv, hd]; rfl)) (by simp) ?_
    simp (disch := omega) only [wk, tis, Int.reduceNe, Int.reduceEq, Int.reduceLT, Int.reduceLE, Int.reduceAdd, Int.reduceSub, Int.reduceNeg, Int.reduceMul, Int.reduceToNat, Nat.reduceSub, Nat.reduceMul, Nat.reduceLeDiff, Nat.reduceAdd, Nat.reduceLT, Nat.reduceEqDiff, reduceCtorEq, ↓reduceIte, cpoly_len, hd]
    refine call_by ((pmul_g ra rb rfl rfl)) (by rfl) (by simp) ?_
    simp (disch := omega) only [wk, tis, Int.reduceNe, Int.reduceEq, Int.reduceLT, Int.reduceLE, Int.reduceAdd, Int.reduceSub, Int.reduceNeg, Int.reduceMul, Int.reduceToNat, Nat.reduceSub, Nat.reduceMul, Nat.reduceLeDiff, Nat.reduceAdd, Nat.reduceLT, Nat.reduceEqDiff, reduceCtorEq, ↓reduceIte, cpoly_len]
    refine ⟨tmps_by (by kernel_rfl), ?_⟩
    refine call_by ((pcontent_g rab (ps_cn _))) (by first | rfl | (simp only [tocvs, tocv, hd]; rfl)) (by simp) ?_
    simp (disch := omega) only [wk, tis, Int.reduceNe, Int.reduceEq, Int.reduceLT, Int.reduceLE, Int.reduceAdd, Int.reduceSub, Int.reduceNeg, Int.reduceMul, Int.reduceToNat, Nat.reduceSub, Nat.reduceMul, Nat.reduceLeDiff, Nat.reduceAdd, Nat.reduceLT, Nat.reduceEqDiff, reduceCtorEq, ↓reduceIte, cpoly_len, hd]
    refine call_by ((zmul_ok (canon (cont (pv a))) (canon (cont (pv b))) ((sz_canon _).mono (by omega)) ((sz_canon _).mono (by omega)))) (by first | rfl | (simp only [tocvs, tocv, hd, iv_canon]; rfl)) (by simp) ?_
    simp (disch := omega) only [wk, tis, Int.reduceNe, Int.reduceEq, Int.reduceLT, Int.reduceLE, Int.reduceAdd, Int.reduceSub, Int.reduceNeg, Int.reduceMul, Int.reduceToNat, Nat.reduceSub, Nat.reduceMul, Nat.reduceLeDiff, Nat.reduceAdd, Nat.reduceLT, Nat.reduceEqDiff, reduceCtorEq, ↓reduceIte, cpoly_len, hd, iv_canon]
    refine call_by ((sameint_g (cont_mul (pv a) (pv b)) (by have := zl_cont pab; omega))) (by first | rfl | (simp only [tocvs, tocv, hd]; rfl)) (by simp) ?_
    simp (disch := omega) only [wk, tis, Int.reduceNe, Int.reduceEq, Int.reduceLT, Int.reduceLE, Int.reduceAdd, Int.reduceSub, Int.reduceNeg, Int.reduceMul, Int.reduceToNat, Nat.reduceSub, Nat.reduceMul, Nat.reduceLeDiff, Nat.reduceAdd, Nat.reduceLT, Nat.reduceEqDiff, reduceCtorEq, ↓reduceIte, cpoly_len, hd]
    refine call_by ((pprim_g rab (ps_cn _))) (by first | rfl | (simp only [tocvs, tocv, hd]; rfl)) (by simp) ?_
    simp (disch := omega) only [wk, tis, Int.reduceNe, Int.reduceEq, Int.reduceLT, Int.reduceLE, Int.reduceAdd, Int.reduceSub, Int.reduceNeg, Int.reduceMul, Int.reduceToNat, Nat.reduceSub, Nat.reduceMul, Nat.reduceLeDiff, Nat.reduceAdd, Nat.reduceLT, Nat.reduceEqDiff, reduceCtorEq, ↓reduceIte, cpoly_len, hd]
    refine call_by ((pmul_g rya ryb (ps_cn _) (ps_cn _))) (by first | rfl | (simp only [tocvs, tocv, hd]; rfl)) (by simp) ?_
    simp (disch := omega) only [wk, tis, Int.reduceNe, Int.reduceEq, Int.reduceLT, Int.reduceLE, Int.reduceAdd, Int.reduceSub, Int.reduceNeg, Int.reduceMul, Int.reduceToNat, Nat.reduceSub, Nat.reduceMul, Nat.reduceLeDiff, Nat.reduceAdd, Nat.reduceLT, Nat.reduceEqDiff, reduceCtorEq, ↓reduceIte, cpoly_len, hd]
    refine call_by ((same_g ((pb_prim pab).mono (by decide) (by decide)) (ypab.mono (by decide) (by decide)) (prim_mul (pv a) (pv b)))) (by first | rfl | (simp only [tocvs, tocv, hd]; rfl)) (by simp) ?_
    simp (disch := omega) only [wk, tis, Int.reduceNe, Int.reduceEq, Int.reduceLT, Int.reduceLE, Int.reduceAdd, Int.reduceSub, Int.reduceNeg, Int.reduceMul, Int.reduceToNat, Nat.reduceSub, Nat.reduceMul, Nat.reduceLeDiff, Nat.reduceAdd, Nat.reduceLT, Nat.reduceEqDiff, reduceCtorEq, ↓reduceIte, cpoly_len, hd]
    first | exact log_by (by kernel_rfl) | refine ⟨log_by (by kernel_rfl), ?_⟩
    by_cases hcb : cont (pv b) = 0
    · skip
      refine call_by ((pover_zero (cn (pmul (pv a) (pv b))) (canon (cont (pv b))) (rab.mono (by decide) (by decide)) ((sz_canon _).mono (by omega)) (by rw [iv_canon]; exact hcb))) (by first | rfl | (simp only [tocvs, tocv, hd]; rfl)) (by simp) ?_
      simp (disch := omega) only [wk, tis, Int.reduceNe, Int.reduceEq, Int.reduceLT, Int.reduceLE, Int.reduceAdd, Int.reduceSub, Int.reduceNeg, Int.reduceMul, Int.reduceToNat, Nat.reduceSub, Nat.reduceMul, Nat.reduceLeDiff, Nat.reduceAdd, Nat.reduceLT, Nat.reduceEqDiff, reduceCtorEq, ↓reduceIte, cpoly_len, hd]
      have hs := zsign_ok (canon (cont (pv b))) ((sz_canon _).mono (by omega))
      rw [iv_canon, show (cont (pv b)).sign = 0 by rw [hcb]; rfl] at hs
      refine call_by (hs) (by first | rfl | (simp only [tocvs, tocv, hd]; rfl)) (by simp) ?_
      simp (disch := omega) only [wk, tis, Int.reduceNe, Int.reduceEq, Int.reduceLT, Int.reduceLE, Int.reduceAdd, Int.reduceSub, Int.reduceNeg, Int.reduceMul, Int.reduceToNat, Nat.reduceSub, Nat.reduceMul, Nat.reduceLeDiff, Nat.reduceAdd, Nat.reduceLT, Nat.reduceEqDiff, reduceCtorEq, ↓reduceIte, cpoly_len, hd]
      refine call_by ((lplain_ok 1 1)) (by first | rfl | (simp only [tocvs, tocv, hd]; rfl)) (by simp) ?_
      simp (disch := omega) only [wk, tis, Int.reduceNe, Int.reduceEq, Int.reduceLT, Int.reduceLE, Int.reduceAdd, Int.reduceSub, Int.reduceNeg, Int.reduceMul, Int.reduceToNat, Nat.reduceSub, Nat.reduceMul, Nat.reduceLeDiff, Nat.reduceAdd, Nat.reduceLT, Nat.reduceEqDiff, reduceCtorEq, ↓reduceIte, cpoly_len, hd]
    · have hs := zsign_ok (canon (cont (pv b))) ((sz_canon _).mono (by omega))
      rw [iv_canon] at hs
      have hs0 : ¬ (cont (pv b)).sign = 0 := fun h => hcb (Int.sign_eq_zero_iff_zero.mp h)
      refine call_by ((pover_g (c := canon (cont (pv b))) (r := pmul (pv a) (prim (pv b))) rab ((sz_canon _).mono (by omega)) (by rw [iv_canon]; exact hcb) (by rw [iv_canon, ps_cn, ps_pmul, ps_pmul, PS.mul_comm (ps (pv a)) (ps (prim (pv b))), ← PS.mul_assoc, ← ps_prim, PS.mul_comm]))) (by first | rfl | (simp only [tocvs, tocv, hd]; rfl)) (by simp) ?_
      simp (disch := omega) only [wk, tis, Int.reduceNe, Int.reduceEq, Int.reduceLT, Int.reduceLE, Int.reduceAdd, Int.reduceSub, Int.reduceNeg, Int.reduceMul, Int.reduceToNat, Nat.reduceSub, Nat.reduceMul, Nat.reduceLeDiff, Nat.reduceAdd, Nat.reduceLT, Nat.reduceEqDiff, reduceCtorEq, ↓reduceIte, cpoly_len, hd]
      refine call_by (hs) (by first | rfl | (simp only [tocvs, tocv, hd, hs0]; rfl)) (by simp) ?_
      simp (disch := omega) only [wk, tis, Int.reduceNe, Int.reduceEq, Int.reduceLT, Int.reduceLE, Int.reduceAdd, Int.reduceSub, Int.reduceNeg, Int.reduceMul, Int.reduceToNat, Nat.reduceSub, Nat.reduceMul, Nat.reduceLeDiff, Nat.reduceAdd, Nat.reduceLT, Nat.reduceEqDiff, reduceCtorEq, ↓reduceIte, cpoly_len, hd, hs0]
      refine call_by ((pmul_g ra ryb rfl (ps_cn _))) (by first | rfl | (simp only [tocvs, tocv, hd, hs0]; rfl)) (by simp) ?_
      simp (disch := omega) only [wk, tis, Int.reduceNe, Int.reduceEq, Int.reduceLT, Int.reduceLE, Int.reduceAdd, Int.reduceSub, Int.reduceNeg, Int.reduceMul, Int.reduceToNat, Nat.reduceSub, Nat.reduceMul, Nat.reduceLeDiff, Nat.reduceAdd, Nat.reduceLT, Nat.reduceEqDiff, reduceCtorEq, ↓reduceIte, cpoly_len, hd, hs0]
      refine call_by ((same_g (ypq.mono (by decide) (by decide)) (ypq.mono (by decide) (by decide)) rfl)) (by first | rfl | (simp only [tocvs, tocv, hd, hs0]; rfl)) (by simp) ?_
      simp (disch := omega) only [wk, tis, Int.reduceNe, Int.reduceEq, Int.reduceLT, Int.reduceLE, Int.reduceAdd, Int.reduceSub, Int.reduceNeg, Int.reduceMul, Int.reduceToNat, Nat.reduceSub, Nat.reduceMul, Nat.reduceLeDiff, Nat.reduceAdd, Nat.reduceLT, Nat.reduceEqDiff, reduceCtorEq, ↓reduceIte, cpoly_len, hd, hs0]
end Go.Proofs.Ythgecppfgdadiaa
