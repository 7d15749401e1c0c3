/-
  Contracts of the functions that the law reaches.
-/
import Derived.Test.YtjadkhkgmdikiaaGreatL117M
namespace Go.Proofs.YtjadkhkgmdikiaaGreat
open Go Go.Proofs Go.AL
set_option linter.unusedSimpArgs false
set_option linter.unusedVariables false

theorem dv_of {A B : List Rat} (hA : QB 40 (2 ^ 20) A) (hB : QB 40 (2 ^ 20) B) (ta : trimq A = A) (tb : trimq B = B) (h0 : B.length ≠ 0) : ∃ n, DV A B n (2 ^ 31) := by
  have hb : cfq B (B.length - 1) ≠ 0 := by
    have ht := trimq_full tb
    have := cfq_tzq_pred (q := B) (by omega)
    rwa [ht] at this
  obtain ⟨D, hD⟩ := hA.cb
  have hC := hB.clr
  obtain ⟨n, en, hj, hn⟩ := dit_end A h0 hb
  have hn40 : n ≤ 40 := Nat.le_trans hn hA.1
  refine ⟨n, ⟨Nat.le_trans hA.1 (by omega), Nat.le_trans hB.1 (by omega), h0, hb, ta, tb, en, hj, fun k hk i => ?_, fun i => ?_, by omega, Nat.le_refl _⟩⟩
  · obtain ⟨E, hE⟩ := dit_cb hD hC h0 hb k fun j hjk => hj j (by omega)
    have h1 := hE.qb.cz (by omega) i
    have h2 : k * (2 ^ 20 + 40 * 2 ^ 20 + 1 + 1) ≤ 40 * (2 ^ 20 + 40 * 2 ^ 20 + 1 + 1) := Nat.mul_le_mul_right _ (by omega)
    omega
  · have := hB.cz (by omega) i
    omega


set_option maxHeartbeats 2000000 in
theorem divs_law (p r : List RQ) (hp : BQ 1048576 1048576 p) (hr : BQ 1048576 1048576 r) : AC Tryz.prog 9 [cqw p, cqw r] none [cb true] := by
  have fa := few10_ok p (Nat.le_trans hp.1 (by omega))
  have fb := few10_ok r (Nat.le_trans hr.1 (by omega))
  have ha : BQ 40 (2 ^ 20) (p.take 40) := hp.few
  have hb : BQ 40 (2 ^ 20) (r.take 40) := hr.few
  generalize p.take 40 = a at *
  generalize r.take 40 = b at *
  have g1 := tgood_ok a (ha.mono (by omega) (by omega))
  have g2 := tgood_ok b (hb.mono (by omega) (by omega))
  cases hga : gd a with
  | false =>
    rw [hga] at g1
    have dv := qdiv_bad a b (ha.mono (by omega) (by omega)) (hb.mono (by omega) (by omega)) (.inl hga)
    have mb := qmonic_bad a (ha.mono (by omega) (by omega)) hga
    have db := qderiv_bad a (ha.mono (by omega) (by omega)) hga
    have ib := qintegral_bad a (ha.mono (by omega) (by omega)) hga
    refine AC.by_walk (rs := [.tmp 4]) ords Tryz.func9 (by rfl) (by rfl) (by rfl) (by rfl) (by rfl) ?_
    simp (disch := omega) only [wk, tis, Int.reduceNe, Int.reduceEq, Int.reduceLT, Int.reduceLE, Int.reduceAdd, Int.reduceSub, Int.reduceNeg, Int.reduceMul, Int.reduceToNat, Nat.reduceSub, Nat.reduceMul, Nat.reduceLeDiff, Nat.reduceAdd, Nat.reduceLT, Nat.reduceEqDiff, reduceCtorEq, ↓reduceIte, rqs]
    refine call_by (known_ok) (by rfl) (by simp) ?_
    simp (disch := omega) only [wk, tis, Int.reduceNe, Int.reduceEq, Int.reduceLT, Int.reduceLE, Int.reduceAdd, Int.reduceSub, Int.reduceNeg, Int.reduceMul, Int.reduceToNat, Nat.reduceSub, Nat.reduceMul, Nat.reduceLeDiff, Nat.reduceAdd, Nat.reduceLT, Nat.reduceEqDiff, reduceCtorEq, ↓reduceIte, rqs]
    refine call_by (fa) (by rfl) (by simp) ?_
    simp (disch := omega) only [wk, tis, Int.reduceNe, Int.reduceEq, Int.reduceLT, Int.reduceLE, Int.reduceAdd, Int.reduceSub, Int.reduceNeg, Int.reduceMul, Int.reduceToNat, Nat.reduceSub, Nat.reduceMul, Nat.reduceLeDiff, Nat.reduceAdd, Nat.reduceLT, Nat.reduceEqDiff, reduceCtorEq, ↓reduceIte, rqs]
    refine call_by (fb) (by rfl) (by simp) ?_
    simp (disch := omega) only [wk, tis, Int.reduceNe, Int.reduceEq, Int.reduceLT, Int.reduceLE, Int.reduceAdd, Int.reduceSub, Int.reduceNeg, Int.reduceMul, Int.reduceToNat, Nat.reduceSub, Nat.reduceMul, Nat.reduceLeDiff, Nat.reduceAdd, Nat.reduceLT, Nat.reduceEqDiff, reduceCtorEq, ↓reduceIte, rqs]
    refine call_by (g1) (by rfl) (by simp) ?_
    simp (disch := omega) only [wk, tis, Int.reduceNe, Int.reduceEq, Int.reduceLT, Int.reduceLE, Int.reduceAdd, Int.reduceSub, Int.reduceNeg, Int.reduceMul, Int.reduceToNat, Nat.reduceSub, Nat.reduceMul, Nat.reduceLeDiff, Nat.reduceAdd, Nat.reduceLT, Nat.reduceEqDiff, reduceCtorEq, ↓reduceIte, rqs]
    refine call_by (g1) (by rfl) (by simp) ?_
    simp (disch := omega) only [wk, tis, Int.reduceNe, Int.reduceEq, Int.reduceLT, Int.reduceLE, Int.reduceAdd, Int.reduceSub, Int.reduceNeg, Int.reduceMul, Int.reduceToNat, Nat.reduceSub, Nat.reduceMul, Nat.reduceLeDiff, Nat.reduceAdd, Nat.reduceLT, Nat.reduceEqDiff, reduceCtorEq, ↓reduceIte, rqs]
    refine call_by (dv) (by rfl) (by simp) ?_
    simp (disch := omega) only [wk, tis, Int.reduceNe, Int.reduceEq, Int.reduceLT, Int.reduceLE, Int.reduceAdd, Int.reduceSub, Int.reduceNeg, Int.reduceMul, Int.reduceToNat, Nat.reduceSub, Nat.reduceMul, Nat.reduceLeDiff, Nat.reduceAdd, Nat.reduceLT, Nat.reduceEqDiff, reduceCtorEq, ↓reduceIte, rqs]
    refine call_by (mb) (by rfl) (by simp) ?_
    simp (disch := omega) only [wk, tis, Int.reduceNe, Int.reduceEq, Int.reduceLT, Int.reduceLE, Int.reduceAdd, Int.reduceSub, Int.reduceNeg, Int.reduceMul, Int.reduceToNat, Nat.reduceSub, Nat.reduceMul, Nat.reduceLeDiff, Nat.reduceAdd, Nat.reduceLT, Nat.reduceEqDiff, reduceCtorEq, ↓reduceIte, rqs]
    refine call_by (db) (by rfl) (by simp) ?_
    simp (disch := omega) only [wk, tis, Int.reduceNe, Int.reduceEq, Int.reduceLT, Int.reduceLE, Int.reduceAdd, Int.reduceSub, Int.reduceNeg, Int.reduceMul, Int.reduceToNat, Nat.reduceSub, Nat.reduceMul, Nat.reduceLeDiff, Nat.reduceAdd, Nat.reduceLT, Nat.reduceEqDiff, reduceCtorEq, ↓reduceIte, rqs]
    refine call_by (ib) (by rfl) (by simp) ?_
    simp (disch := omega) only [wk, tis, Int.reduceNe, Int.reduceEq, Int.reduceLT, Int.reduceLE, Int.reduceAdd, Int.reduceSub, Int.reduceNeg, Int.reduceMul, Int.reduceToNat, Nat.reduceSub, Nat.reduceMul, Nat.reduceLeDiff, Nat.reduceAdd, Nat.reduceLT, Nat.reduceEqDiff, reduceCtorEq, ↓reduceIte, rqs]
    try rfl
  | true =>
    rw [hga] at g1
    have hGa := ha.gq hga
    have hA := hGa.qb.trimq
    have tA := trimq_trimq (qvs a)
    have dq := qderiv_ok a 40 (2 ^ 20) hGa (by omega) (by omega) (by omega)
    have dt := tderiv_ok a 40 (2 ^ 20) hGa (by omega) (by omega) (by omega)
    have iq := qintegral_ok a 40 (2 ^ 20) hGa (by omega) (by omega) (by omega)
    have it := tintegral_ok a 40 (2 ^ 20) hGa (by omega) (by omega) (by omega)
    have sd := tsame_self (((hGa.qb.derq (by omega) (by omega)).gqs.bq).mono (n' := 2 ^ 40) (k' := 2 ^ 40) (by omega) (by omega))
    have si := tsame_self (((hA.intq (by omega) (by omega)).gqs.bq).mono (n' := 2 ^ 40) (k' := 2 ^ 40) (by omega) (by omega))
    cases hgb : gd b with
    | false =>
      rw [hgb] at g2
      have dv := qdiv_bad a b (ha.mono (by omega) (by omega)) (hb.mono (by omega) (by omega)) (.inr hgb)
      refine AC.by_walk (rs := [.tmp 4]) ords Tryz.func9 (by rfl) (by rfl) (by rfl) (by rfl) (by rfl) ?_
      simp (disch := omega) only [wk, tis, Int.reduceNe, Int.reduceEq, Int.reduceLT, Int.reduceLE, Int.reduceAdd, Int.reduceSub, Int.reduceNeg, Int.reduceMul, Int.reduceToNat, Nat.reduceSub, Nat.reduceMul, Nat.reduceLeDiff, Nat.reduceAdd, Nat.reduceLT, Nat.reduceEqDiff, reduceCtorEq, ↓reduceIte, rqs]
      refine call_by (known_ok) (by rfl) (by simp) ?_
      simp (disch := omega) only [wk, tis, Int.reduceNe, Int.reduceEq, Int.reduceLT, Int.reduceLE, Int.reduceAdd, Int.reduceSub, Int.reduceNeg, Int.reduceMul, Int.reduceToNat, Nat.reduceSub, Nat.reduceMul, Nat.reduceLeDiff, Nat.reduceAdd, Nat.reduceLT, Nat.reduceEqDiff, reduceCtorEq, ↓reduceIte, rqs]
      refine call_by (fa) (by rfl) (by simp) ?_
      simp (disch := omega) only [wk, tis, Int.reduceNe, Int.reduceEq, Int.reduceLT, Int.reduceLE, Int.reduceAdd, Int.reduceSub, Int.reduceNeg, Int.reduceMul, Int.reduceToNat, Nat.reduceSub, Nat.reduceMul, Nat.reduceLeDiff, Nat.reduceAdd, Nat.reduceLT, Nat.reduceEqDiff, reduceCtorEq, ↓reduceIte, rqs]
      refine call_by (fb) (by rfl) (by simp) ?_
      simp (disch := omega) only [wk, tis, Int.reduceNe, Int.reduceEq, Int.reduceLT, Int.reduceLE, Int.reduceAdd, Int.reduceSub, Int.reduceNeg, Int.reduceMul, Int.reduceToNat, Nat.reduceSub, Nat.reduceMul, Nat.reduceLeDiff, Nat.reduceAdd, Nat.reduceLT, Nat.reduceEqDiff, reduceCtorEq, ↓reduceIte, rqs]
      refine call_by (g1) (by rfl) (by simp) ?_
      simp (disch := omega) only [wk, tis, Int.reduceNe, Int.reduceEq, Int.reduceLT, Int.reduceLE, Int.reduceAdd, Int.reduceSub, Int.reduceNeg, Int.reduceMul, Int.reduceToNat, Nat.reduceSub, Nat.reduceMul, Nat.reduceLeDiff, Nat.reduceAdd, Nat.reduceLT, Nat.reduceEqDiff, reduceCtorEq, ↓reduceIte, rqs]
      refine call_by (g1) (by rfl) (by simp) ?_
      simp (disch := omega) only [wk, tis, Int.reduceNe, Int.reduceEq, Int.reduceLT, Int.reduceLE, Int.reduceAdd, Int.reduceSub, Int.reduceNeg, Int.reduceMul, Int.reduceToNat, Nat.reduceSub, Nat.reduceMul, Nat.reduceLeDiff, Nat.reduceAdd, Nat.reduceLT, Nat.reduceEqDiff, reduceCtorEq, ↓reduceIte, rqs]
      refine call_by (g2) (by rfl) (by simp) ?_
      simp (disch := omega) only [wk, tis, Int.reduceNe, Int.reduceEq, Int.reduceLT, Int.reduceLE, Int.reduceAdd, Int.reduceSub, Int.reduceNeg, Int.reduceMul, Int.reduceToNat, Nat.reduceSub, Nat.reduceMul, Nat.reduceLeDiff, Nat.reduceAdd, Nat.reduceLT, Nat.reduceEqDiff, reduceCtorEq, ↓reduceIte, rqs]
      refine call_by (dv) (by rfl) (by simp) ?_
      simp (disch := omega) only [wk, tis, Int.reduceNe, Int.reduceEq, Int.reduceLT, Int.reduceLE, Int.reduceAdd, Int.reduceSub, Int.reduceNeg, Int.reduceMul, Int.reduceToNat, Nat.reduceSub, Nat.reduceMul, Nat.reduceLeDiff, Nat.reduceAdd, Nat.reduceLT, Nat.reduceEqDiff, reduceCtorEq, ↓reduceIte, rqs]
      by_cases ha0 : (trimq (qvs a)).length = 0
      · have ha1 : trimq (qvs a) = [] := List.length_eq_zero_iff.mp ha0
        have mz := qmonic_zero a (hGa.mono (by omega) (by omega)) ha1
        have ff := tform_ok a (hGa.mono (by omega) (by omega))
        rw [show cqp (qvs a) = cqw [] from congrArg cqw (by rw [cqs, ha1]; rfl)] at ff
        refine call_by (mz) (by rfl) (by simp) ?_
        simp (disch := omega) only [wk, tis, Int.reduceNe, Int.reduceEq, Int.reduceLT, Int.reduceLE, Int.reduceAdd, Int.reduceSub, Int.reduceNeg, Int.reduceMul, Int.reduceToNat, Nat.reduceSub, Nat.reduceMul, Nat.reduceLeDiff, Nat.reduceAdd, Nat.reduceLT, Nat.reduceEqDiff, reduceCtorEq, ↓reduceIte, rqs]
        refine call_by (dq) (by rfl) (by simp) ?_
        simp (disch := omega) only [wk, tis, Int.reduceNe, Int.reduceEq, Int.reduceLT, Int.reduceLE, Int.reduceAdd, Int.reduceSub, Int.reduceNeg, Int.reduceMul, Int.reduceToNat, Nat.reduceSub, Nat.reduceMul, Nat.reduceLeDiff, Nat.reduceAdd, Nat.reduceLT, Nat.reduceEqDiff, reduceCtorEq, ↓reduceIte, rqs]
        refine call_by (iq) (by rfl) (by simp) ?_
        simp (disch := omega) only [wk, tis, Int.reduceNe, Int.reduceEq, Int.reduceLT, Int.reduceLE, Int.reduceAdd, Int.reduceSub, Int.reduceNeg, Int.reduceMul, Int.reduceToNat, Nat.reduceSub, Nat.reduceMul, Nat.reduceLeDiff, Nat.reduceAdd, Nat.reduceLT, Nat.reduceEqDiff, reduceCtorEq, ↓reduceIte, rqs]
        refine call_by (ff) (by rfl) (by simp) ?_
        simp (disch := omega) only [wk, tis, Int.reduceNe, Int.reduceEq, Int.reduceLT, Int.reduceLE, Int.reduceAdd, Int.reduceSub, Int.reduceNeg, Int.reduceMul, Int.reduceToNat, Nat.reduceSub, Nat.reduceMul, Nat.reduceLeDiff, Nat.reduceAdd, Nat.reduceLT, Nat.reduceEqDiff, reduceCtorEq, ↓reduceIte, rqs]
        refine call_by (dt) (by rfl) (by simp) ?_
        simp (disch := omega) only [wk, tis, Int.reduceNe, Int.reduceEq, Int.reduceLT, Int.reduceLE, Int.reduceAdd, Int.reduceSub, Int.reduceNeg, Int.reduceMul, Int.reduceToNat, Nat.reduceSub, Nat.reduceMul, Nat.reduceLeDiff, Nat.reduceAdd, Nat.reduceLT, Nat.reduceEqDiff, reduceCtorEq, ↓reduceIte, rqs]
        refine call_by (sd) (by rfl) (by simp) ?_
        simp (disch := omega) only [wk, tis, Int.reduceNe, Int.reduceEq, Int.reduceLT, Int.reduceLE, Int.reduceAdd, Int.reduceSub, Int.reduceNeg, Int.reduceMul, Int.reduceToNat, Nat.reduceSub, Nat.reduceMul, Nat.reduceLeDiff, Nat.reduceAdd, Nat.reduceLT, Nat.reduceEqDiff, reduceCtorEq, ↓reduceIte, rqs]
        refine call_by (it) (by rfl) (by simp) ?_
        simp (disch := omega) only [wk, tis, Int.reduceNe, Int.reduceEq, Int.reduceLT, Int.reduceLE, Int.reduceAdd, Int.reduceSub, Int.reduceNeg, Int.reduceMul, Int.reduceToNat, Nat.reduceSub, Nat.reduceMul, Nat.reduceLeDiff, Nat.reduceAdd, Nat.reduceLT, Nat.reduceEqDiff, reduceCtorEq, ↓reduceIte, rqs]
        refine call_by (si) (by rfl) (by simp) ?_
        simp (disch := omega) only [wk, tis, Int.reduceNe, Int.reduceEq, Int.reduceLT, Int.reduceLE, Int.reduceAdd, Int.reduceSub, Int.reduceNeg, Int.reduceMul, Int.reduceToNat, Nat.reduceSub, Nat.reduceMul, Nat.reduceLeDiff, Nat.reduceAdd, Nat.reduceLT, Nat.reduceEqDiff, reduceCtorEq, ↓reduceIte, rqs]
        try rfl
      · have mn := qmonic_ok a (2 ^ 20) (hGa.mono (by omega) (by omega)) (by omega) (by omega) ha0
        have ff := tform_ok a (hGa.mono (by omega) (by omega))
        rw [show cqp (qvs a) = cqw ((trimq (qvs a)).map crat) from rfl] at ff
        generalize trimq (qvs a) = A at *
        have hq : (A.map crat).length = A.length := List.length_map _
        have hAl := hA.1
        have ha0' : ¬ (A.length : Int) = 0 := by omega
        have e1 : (A.length : Int) - 1 = ((A.length - 1 : Nat) : Int) := by omega
        have g := cratq_get (q := A) (i := A.length - 1) (by omega)
        have ht := trimq_full tA
        have hne := cfq_tzq_pred (q := A) (by omega)
        rw [ht] at hne
        have zt := hA.cz (by omega) (A.length - 1)
        have zi := qz_inv (cfq A (A.length - 1))
        have ov := hover_ok (crat 1) (crat (cfq A (A.length - 1))) (szq_crat (by rw [qz_one]; omega)) (szq_crat (by omega)) (nv_crat0 _) (nv_crat0 _) (by rw [iv_crat]; exact fun e => hne (Rat.num_eq_zero.mp e))
        rw [qv_crat, qv_crat] at ov
        have pl := tplus_ok [] (A.map crat) (crat (1 / cfq A (A.length - 1))) (2 ^ 20) ⟨Nat.zero_le _, fun r hr => nomatch hr⟩ (hA.mono (by omega) (Nat.le_refl _)).gq (szq_crat (by omega)) (nv_crat0 _) (by omega) (by omega)
        rw [qv_crat, qvs_map, show qvs [] = [] from rfl, show cqp (zipq (fma (1 / cfq A (A.length - 1))) [] A) = cqp (sclq (1 / cfq A (A.length - 1)) A) from congrArg cqw (cqs_ext fun j => by rw [cfq_zipq (fma_zero _), cfq_nil, cfq_sclq]; unfold fma; grind)] at pl
        have hS : QB (2 ^ 40) (2 ^ 40) (sclq (1 / cfq A (A.length - 1)) A) := .of (by simp [sclq]; have := hA.1; omega) fun j => by
          rw [cfq_sclq]
          have h1 := qz_mul (cfq A j) (1 / cfq A (A.length - 1))
          have h2 := hA.cz (by omega) j
          omega
        have ti := tis_ok (hS.gqs.bq)
        refine call_by (mn) (by rfl) (by simp) ?_
        simp (disch := omega) only [wk, tis, Int.reduceNe, Int.reduceEq, Int.reduceLT, Int.reduceLE, Int.reduceAdd, Int.reduceSub, Int.reduceNeg, Int.reduceMul, Int.reduceToNat, Nat.reduceSub, Nat.reduceMul, Nat.reduceLeDiff, Nat.reduceAdd, Nat.reduceLT, Nat.reduceEqDiff, reduceCtorEq, ↓reduceIte, rqs]
        refine call_by (dq) (by rfl) (by simp) ?_
        simp (disch := omega) only [wk, tis, Int.reduceNe, Int.reduceEq, Int.reduceLT, Int.reduceLE, Int.reduceAdd, Int.reduceSub, Int.reduceNeg, Int.reduceMul, Int.reduceToNat, Nat.reduceSub, Nat.reduceMul, Nat.reduceLeDiff, Nat.reduceAdd, Nat.reduceLT, Nat.reduceEqDiff, reduceCtorEq, ↓reduceIte, rqs]
        refine call_by (iq) (by rfl) (by simp) ?_
        simp (disch := omega) only [wk, tis, Int.reduceNe, Int.reduceEq, Int.reduceLT, Int.reduceLE, Int.reduceAdd, Int.reduceSub, Int.reduceNeg, Int.reduceMul, Int.reduceToNat, Nat.reduceSub, Nat.reduceMul, Nat.reduceLeDiff, Nat.reduceAdd, Nat.reduceLT, Nat.reduceEqDiff, reduceCtorEq, ↓reduceIte, rqs]
        refine call_by (ff) (by rfl) (by simp) ?_
        simp (disch := omega) only [wk, tis, Int.reduceNe, Int.reduceEq, Int.reduceLT, Int.reduceLE, Int.reduceAdd, Int.reduceSub, Int.reduceNeg, Int.reduceMul, Int.reduceToNat, Nat.reduceSub, Nat.reduceMul, Nat.reduceLeDiff, Nat.reduceAdd, Nat.reduceLT, Nat.reduceEqDiff, reduceCtorEq, ↓reduceIte, rqs]
        refine call_by (dt) (by first | rfl | (simp only [tocvs, tocv, hq]; rfl) | (simp only [tocvs, tocv, toboxes, tobox, updH_at, Nat.reduceEqDiff, ↓reduceIte, hq]; rfl)) (by simp) ?_
        simp (disch := omega) only [wk, tis, Int.reduceNe, Int.reduceEq, Int.reduceLT, Int.reduceLE, Int.reduceAdd, Int.reduceSub, Int.reduceNeg, Int.reduceMul, Int.reduceToNat, Nat.reduceSub, Nat.reduceMul, Nat.reduceLeDiff, Nat.reduceAdd, Nat.reduceLT, Nat.reduceEqDiff, reduceCtorEq, ↓reduceIte, rqs, hq]
        refine call_by (sd) (by first | rfl | (simp only [tocvs, tocv, hq]; rfl) | (simp only [tocvs, tocv, toboxes, tobox, updH_at, Nat.reduceEqDiff, ↓reduceIte, hq]; rfl)) (by simp) ?_
        simp (disch := omega) only [wk, tis, Int.reduceNe, Int.reduceEq, Int.reduceLT, Int.reduceLE, Int.reduceAdd, Int.reduceSub, Int.reduceNeg, Int.reduceMul, Int.reduceToNat, Nat.reduceSub, Nat.reduceMul, Nat.reduceLeDiff, Nat.reduceAdd, Nat.reduceLT, Nat.reduceEqDiff, reduceCtorEq, ↓reduceIte, rqs, hq]
        refine call_by (it) (by first | rfl | (simp only [tocvs, tocv, hq]; rfl) | (simp only [tocvs, tocv, toboxes, tobox, updH_at, Nat.reduceEqDiff, ↓reduceIte, hq]; rfl)) (by simp) ?_
        simp (disch := omega) only [wk, tis, Int.reduceNe, Int.reduceEq, Int.reduceLT, Int.reduceLE, Int.reduceAdd, Int.reduceSub, Int.reduceNeg, Int.reduceMul, Int.reduceToNat, Nat.reduceSub, Nat.reduceMul, Nat.reduceLeDiff, Nat.reduceAdd, Nat.reduceLT, Nat.reduceEqDiff, reduceCtorEq, ↓reduceIte, rqs, hq]
        refine call_by (si) (by first | rfl | (simp only [tocvs, tocv, hq]; rfl) | (simp only [tocvs, tocv, toboxes, tobox, updH_at, Nat.reduceEqDiff, ↓reduceIte, hq]; rfl)) (by simp) ?_
        simp (disch := omega) only [wk, tis, Int.reduceNe, Int.reduceEq, Int.reduceLT, Int.reduceLE, Int.reduceAdd, Int.reduceSub, Int.reduceNeg, Int.reduceMul, Int.reduceToNat, Nat.reduceSub, Nat.reduceMul, Nat.reduceLeDiff, Nat.reduceAdd, Nat.reduceLT, Nat.reduceEqDiff, reduceCtorEq, ↓reduceIte, rqs, hq]
        simp (disch := omega) only [wk, tis, Int.reduceNe, Int.reduceEq, Int.reduceLT, Int.reduceLE, Int.reduceAdd, Int.reduceSub, Int.reduceNeg, Int.reduceMul, Int.reduceToNat, Nat.reduceSub, Nat.reduceMul, Nat.reduceLeDiff, Nat.reduceAdd, Nat.reduceLT, Nat.reduceEqDiff, reduceCtorEq, ↓reduceIte, rqs, hq, ha0']
        refine ⟨tmps_by (by kernel_rfl), ?_⟩
        refine call_by (hone_ok) (by first | rfl | (simp only [tocvs, tocv, hq, e1, g]; rfl) | (simp only [tocvs, tocv, toboxes, tobox, updH_at, Nat.reduceEqDiff, ↓reduceIte, hq, e1, g]; rfl)) (by simp) ?_
        simp (disch := omega) only [wk, tis, Int.reduceNe, Int.reduceEq, Int.reduceLT, Int.reduceLE, Int.reduceAdd, Int.reduceSub, Int.reduceNeg, Int.reduceMul, Int.reduceToNat, Nat.reduceSub, Nat.reduceMul, Nat.reduceLeDiff, Nat.reduceAdd, Nat.reduceLT, Nat.reduceEqDiff, reduceCtorEq, ↓reduceIte, rqs, hq, e1, g]
        refine call_by (ov) (by first | rfl | (simp only [tocvs, tocv, hq, e1, g]; rfl) | (simp only [tocvs, tocv, toboxes, tobox, updH_at, Nat.reduceEqDiff, ↓reduceIte, hq, e1, g]; rfl)) (by simp) ?_
        simp (disch := omega) only [wk, tis, Int.reduceNe, Int.reduceEq, Int.reduceLT, Int.reduceLE, Int.reduceAdd, Int.reduceSub, Int.reduceNeg, Int.reduceMul, Int.reduceToNat, Nat.reduceSub, Nat.reduceMul, Nat.reduceLeDiff, Nat.reduceAdd, Nat.reduceLT, Nat.reduceEqDiff, reduceCtorEq, ↓reduceIte, rqs, hq, e1, g]
        refine call_by (pl) (by first | rfl | (simp only [tocvs, tocv, hq, e1, g]; rfl) | (simp only [tocvs, tocv, toboxes, tobox, updH_at, Nat.reduceEqDiff, ↓reduceIte, hq, e1, g]; rfl)) (by simp) ?_
        simp (disch := omega) only [wk, tis, Int.reduceNe, Int.reduceEq, Int.reduceLT, Int.reduceLE, Int.reduceAdd, Int.reduceSub, Int.reduceNeg, Int.reduceMul, Int.reduceToNat, Nat.reduceSub, Nat.reduceMul, Nat.reduceLeDiff, Nat.reduceAdd, Nat.reduceLT, Nat.reduceEqDiff, reduceCtorEq, ↓reduceIte, rqs, hq, e1, g]
        refine call_by (ti) (by first | rfl | (simp only [tocvs, tocv, hq, e1, g]; rfl) | (simp only [tocvs, tocv, toboxes, tobox, updH_at, Nat.reduceEqDiff, ↓reduceIte, hq, e1, g]; rfl)) (by simp) ?_
        simp (disch := omega) only [wk, tis, Int.reduceNe, Int.reduceEq, Int.reduceLT, Int.reduceLE, Int.reduceAdd, Int.reduceSub, Int.reduceNeg, Int.reduceMul, Int.reduceToNat, Nat.reduceSub, Nat.reduceMul, Nat.reduceLeDiff, Nat.reduceAdd, Nat.reduceLT, Nat.reduceEqDiff, reduceCtorEq, ↓reduceIte, rqs, hq, e1, g]
        first | exact log_by (by kernel_rfl) | refine ⟨log_by (by kernel_rfl), ?_⟩
        try rfl
    | true =>
      rw [hgb] at g2
      have hGb := hb.gq hgb
      have hB := hGb.qb.trimq
      have tB := trimq_trimq (qvs b)
      have fr := tform_ok b (hGb.mono (by omega) (by omega))
      by_cases hb0 : (trimq (qvs b)).length = 0
      · have hb1 : trimq (qvs b) = [] := List.length_eq_zero_iff.mp hb0
        have dv := qdiv_zero a b (hGa.mono (by omega) (by omega)) (hGb.mono (by omega) (by omega)) hb1
        rw [show cqp (qvs b) = cqw [] from congrArg cqw (by rw [cqs, hb1]; rfl)] at fr
        refine AC.by_walk (rs := [.tmp 4]) ords Tryz.func9 (by rfl) (by rfl) (by rfl) (by rfl) (by rfl) ?_
        simp (disch := omega) only [wk, tis, Int.reduceNe, Int.reduceEq, Int.reduceLT, Int.reduceLE, Int.reduceAdd, Int.reduceSub, Int.reduceNeg, Int.reduceMul, Int.reduceToNat, Nat.reduceSub, Nat.reduceMul, Nat.reduceLeDiff, Nat.reduceAdd, Nat.reduceLT, Nat.reduceEqDiff, reduceCtorEq, ↓reduceIte, rqs]
        refine call_by (known_ok) (by rfl) (by simp) ?_
        simp (disch := omega) only [wk, tis, Int.reduceNe, Int.reduceEq, Int.reduceLT, Int.reduceLE, Int.reduceAdd, Int.reduceSub, Int.reduceNeg, Int.reduceMul, Int.reduceToNat, Nat.reduceSub, Nat.reduceMul, Nat.reduceLeDiff, Nat.reduceAdd, Nat.reduceLT, Nat.reduceEqDiff, reduceCtorEq, ↓reduceIte, rqs]
        refine call_by (fa) (by rfl) (by simp) ?_
        simp (disch := omega) only [wk, tis, Int.reduceNe, Int.reduceEq, Int.reduceLT, Int.reduceLE, Int.reduceAdd, Int.reduceSub, Int.reduceNeg, Int.reduceMul, Int.reduceToNat, Nat.reduceSub, Nat.reduceMul, Nat.reduceLeDiff, Nat.reduceAdd, Nat.reduceLT, Nat.reduceEqDiff, reduceCtorEq, ↓reduceIte, rqs]
        refine call_by (fb) (by rfl) (by simp) ?_
        simp (disch := omega) only [wk, tis, Int.reduceNe, Int.reduceEq, Int.reduceLT, Int.reduceLE, Int.reduceAdd, Int.reduceSub, Int.reduceNeg, Int.reduceMul, Int.reduceToNat, Nat.reduceSub, Nat.reduceMul, Nat.reduceLeDiff, Nat.reduceAdd, Nat.reduceLT, Nat.reduceEqDiff, reduceCtorEq, ↓reduceIte, rqs]
        refine call_by (g1) (by rfl) (by simp) ?_
        simp (disch := omega) only [wk, tis, Int.reduceNe, Int.reduceEq, Int.reduceLT, Int.reduceLE, Int.reduceAdd, Int.reduceSub, Int.reduceNeg, Int.reduceMul, Int.reduceToNat, Nat.reduceSub, Nat.reduceMul, Nat.reduceLeDiff, Nat.reduceAdd, Nat.reduceLT, Nat.reduceEqDiff, reduceCtorEq, ↓reduceIte, rqs]
        refine call_by (g1) (by rfl) (by simp) ?_
        simp (disch := omega) only [wk, tis, Int.reduceNe, Int.reduceEq, Int.reduceLT, Int.reduceLE, Int.reduceAdd, Int.reduceSub, Int.reduceNeg, Int.reduceMul, Int.reduceToNat, Nat.reduceSub, Nat.reduceMul, Nat.reduceLeDiff, Nat.reduceAdd, Nat.reduceLT, Nat.reduceEqDiff, reduceCtorEq, ↓reduceIte, rqs]
        refine call_by (g2) (by rfl) (by simp) ?_
        simp (disch := omega) only [wk, tis, Int.reduceNe, Int.reduceEq, Int.reduceLT, Int.reduceLE, Int.reduceAdd, Int.reduceSub, Int.reduceNeg, Int.reduceMul, Int.reduceToNat, Nat.reduceSub, Nat.reduceMul, Nat.reduceLeDiff, Nat.reduceAdd, Nat.reduceLT, Nat.reduceEqDiff, reduceCtorEq, ↓reduceIte, rqs]
        refine call_by (dv) (by rfl) (by simp) ?_
        simp (disch := omega) only [wk, tis, Int.reduceNe, Int.reduceEq, Int.reduceLT, Int.reduceLE, Int.reduceAdd, Int.reduceSub, Int.reduceNeg, Int.reduceMul, Int.reduceToNat, Nat.reduceSub, Nat.reduceMul, Nat.reduceLeDiff, Nat.reduceAdd, Nat.reduceLT, Nat.reduceEqDiff, reduceCtorEq, ↓reduceIte, rqs]
        refine call_by (fr) (by rfl) (by simp) ?_
        simp (disch := omega) only [wk, tis, Int.reduceNe, Int.reduceEq, Int.reduceLT, Int.reduceLE, Int.reduceAdd, Int.reduceSub, Int.reduceNeg, Int.reduceMul, Int.reduceToNat, Nat.reduceSub, Nat.reduceMul, Nat.reduceLeDiff, Nat.reduceAdd, Nat.reduceLT, Nat.reduceEqDiff, reduceCtorEq, ↓reduceIte, rqs]
        by_cases ha0 : (trimq (qvs a)).length = 0
        · have ha1 : trimq (qvs a) = [] := List.length_eq_zero_iff.mp ha0
          have mz := qmonic_zero a (hGa.mono (by omega) (by omega)) ha1
          have ff := tform_ok a (hGa.mono (by omega) (by omega))
          rw [show cqp (qvs a) = cqw [] from congrArg cqw (by rw [cqs, ha1]; rfl)] at ff
          refine call_by (mz) (by rfl) (by simp) ?_
          simp (disch := omega) only [wk, tis, Int.reduceNe, Int.reduceEq, Int.reduceLT, Int.reduceLE, Int.reduceAdd, Int.reduceSub, Int.reduceNeg, Int.reduceMul, Int.reduceToNat, Nat.reduceSub, Nat.reduceMul, Nat.reduceLeDiff, Nat.reduceAdd, Nat.reduceLT, Nat.reduceEqDiff, reduceCtorEq, ↓reduceIte, rqs]
          refine call_by (dq) (by rfl) (by simp) ?_
          simp (disch := omega) only [wk, tis, Int.reduceNe, Int.reduceEq, Int.reduceLT, Int.reduceLE, Int.reduceAdd, Int.reduceSub, Int.reduceNeg, Int.reduceMul, Int.reduceToNat, Nat.reduceSub, Nat.reduceMul, Nat.reduceLeDiff, Nat.reduceAdd, Nat.reduceLT, Nat.reduceEqDiff, reduceCtorEq, ↓reduceIte, rqs]
          refine call_by (iq) (by rfl) (by simp) ?_
          simp (disch := omega) only [wk, tis, Int.reduceNe, Int.reduceEq, Int.reduceLT, Int.reduceLE, Int.reduceAdd, Int.reduceSub, Int.reduceNeg, Int.reduceMul, Int.reduceToNat, Nat.reduceSub, Nat.reduceMul, Nat.reduceLeDiff, Nat.reduceAdd, Nat.reduceLT, Nat.reduceEqDiff, reduceCtorEq, ↓reduceIte, rqs]
          refine call_by (ff) (by rfl) (by simp) ?_
          simp (disch := omega) only [wk, tis, Int.reduceNe, Int.reduceEq, Int.reduceLT, Int.reduceLE, Int.reduceAdd, Int.reduceSub, Int.reduceNeg, Int.reduceMul, Int.reduceToNat, Nat.reduceSub, Nat.reduceMul, Nat.reduceLeDiff, Nat.reduceAdd, Nat.reduceLT, Nat.reduceEqDiff, reduceCtorEq, ↓reduceIte, rqs]
          refine call_by (dt) (by rfl) (by simp) ?_
          simp (disch := omega) only [wk, tis, Int.reduceNe, Int.reduceEq, Int.reduceLT, Int.reduceLE, Int.reduceAdd, Int.reduceSub, Int.reduceNeg, Int.reduceMul, Int.reduceToNat, Nat.reduceSub, Nat.reduceMul, Nat.reduceLeDiff, Nat.reduceAdd, Nat.reduceLT, Nat.reduceEqDiff, reduceCtorEq, ↓reduceIte, rqs]
          refine call_by (sd) (by rfl) (by simp) ?_
          simp (disch := omega) only [wk, tis, Int.reduceNe, Int.reduceEq, Int.reduceLT, Int.reduceLE, Int.reduceAdd, Int.reduceSub, Int.reduceNeg, Int.reduceMul, Int.reduceToNat, Nat.reduceSub, Nat.reduceMul, Nat.reduceLeDiff, Nat.reduceAdd, Nat.reduceLT, Nat.reduceEqDiff, reduceCtorEq, ↓reduceIte, rqs]
          refine call_by (it) (by rfl) (by simp) ?_
          simp (disch := omega) only [wk, tis, Int.reduceNe, Int.reduceEq, Int.reduceLT, Int.reduceLE, Int.reduceAdd, Int.reduceSub, Int.reduceNeg, Int.reduceMul, Int.reduceToNat, Nat.reduceSub, Nat.reduceMul, Nat.reduceLeDiff, Nat.reduceAdd, Nat.reduceLT, Nat.reduceEqDiff, reduceCtorEq, ↓reduceIte, rqs]
          refine call_by (si) (by rfl) (by simp) ?_
          simp (disch := omega) only [wk, tis, Int.reduceNe, Int.reduceEq, Int.reduceLT, Int.reduceLE, Int.reduceAdd, Int.reduceSub, Int.reduceNeg, Int.reduceMul, Int.reduceToNat, Nat.reduceSub, Nat.reduceMul, Nat.reduceLeDiff, Nat.reduceAdd, Nat.reduceLT, Nat.reduceEqDiff, reduceCtorEq, ↓reduceIte, rqs]
          try rfl
        · have mn := qmonic_ok a (2 ^ 20) (hGa.mono (by omega) (by omega)) (by omega) (by omega) ha0
          have ff := tform_ok a (hGa.mono (by omega) (by omega))
          rw [show cqp (qvs a) = cqw ((trimq (qvs a)).map crat) from rfl] at ff
          generalize trimq (qvs a) = A at *
          have hq : (A.map crat).length = A.length := List.length_map _
          have hAl := hA.1
          have ha0' : ¬ (A.length : Int) = 0 := by omega
          have e1 : (A.length : Int) - 1 = ((A.length - 1 : Nat) : Int) := by omega
          have g := cratq_get (q := A) (i := A.length - 1) (by omega)
          have ht := trimq_full tA
          have hne := cfq_tzq_pred (q := A) (by omega)
          rw [ht] at hne
          have zt := hA.cz (by omega) (A.length - 1)
          have zi := qz_inv (cfq A (A.length - 1))
          have ov := hover_ok (crat 1) (crat (cfq A (A.length - 1))) (szq_crat (by rw [qz_one]; omega)) (szq_crat (by omega)) (nv_crat0 _) (nv_crat0 _) (by rw [iv_crat]; exact fun e => hne (Rat.num_eq_zero.mp e))
          rw [qv_crat, qv_crat] at ov
          have pl := tplus_ok [] (A.map crat) (crat (1 / cfq A (A.length - 1))) (2 ^ 20) ⟨Nat.zero_le _, fun r hr => nomatch hr⟩ (hA.mono (by omega) (Nat.le_refl _)).gq (szq_crat (by omega)) (nv_crat0 _) (by omega) (by omega)
          rw [qv_crat, qvs_map, show qvs [] = [] from rfl, show cqp (zipq (fma (1 / cfq A (A.length - 1))) [] A) = cqp (sclq (1 / cfq A (A.length - 1)) A) from congrArg cqw (cqs_ext fun j => by rw [cfq_zipq (fma_zero _), cfq_nil, cfq_sclq]; unfold fma; grind)] at pl
          have hS : QB (2 ^ 40) (2 ^ 40) (sclq (1 / cfq A (A.length - 1)) A) := .of (by simp [sclq]; have := hA.1; omega) fun j => by
            rw [cfq_sclq]
            have h1 := qz_mul (cfq A j) (1 / cfq A (A.length - 1))
            have h2 := hA.cz (by omega) j
            omega
          have ti := tis_ok (hS.gqs.bq)
          refine call_by (mn) (by rfl) (by simp) ?_
          simp (disch := omega) only [wk, tis, Int.reduceNe, Int.reduceEq, Int.reduceLT, Int.reduceLE, Int.reduceAdd, Int.reduceSub, Int.reduceNeg, Int.reduceMul, Int.reduceToNat, Nat.reduceSub, Nat.reduceMul, Nat.reduceLeDiff, Nat.reduceAdd, Nat.reduceLT, Nat.reduceEqDiff, reduceCtorEq, ↓reduceIte, rqs]
          refine call_by (dq) (by rfl) (by simp) ?_
          simp (disch := omega) only [wk, tis, Int.reduceNe, Int.reduceEq, Int.reduceLT, Int.reduceLE, Int.reduceAdd, Int.reduceSub, Int.reduceNeg, Int.reduceMul, Int.reduceToNat, Nat.reduceSub, Nat.reduceMul, Nat.reduceLeDiff, Nat.reduceAdd, Nat.reduceLT, Nat.reduceEqDiff, reduceCtorEq, ↓reduceIte, rqs]
          refine call_by (iq) (by rfl) (by simp) ?_
          simp (disch := omega) only [wk, tis, Int.reduceNe, Int.reduceEq, Int.reduceLT, Int.reduceLE, Int.reduceAdd, Int.reduceSub, Int.reduceNeg, Int.reduceMul, Int.reduceToNat, Nat.reduceSub, Nat.reduceMul, Nat.reduceLeDiff, Nat.reduceAdd, Nat.reduceLT, Nat.reduceEqDiff, reduceCtorEq, ↓reduceIte, rqs]
          refine call_by (ff) (by rfl) (by simp) ?_
          simp (disch := omega) only [wk, tis, Int.reduceNe, Int.reduceEq, Int.reduceLT, Int.reduceLE, Int.reduceAdd, Int.reduceSub, Int.reduceNeg, Int.reduceMul, Int.reduceToNat, Nat.reduceSub, Nat.reduceMul, Nat.reduceLeDiff, Nat.reduceAdd, Nat.reduceLT, Nat.reduceEqDiff, reduceCtorEq, ↓reduceIte, rqs]
          refine call_by (dt) (by first | rfl | (simp only [tocvs, tocv, hq]; rfl) | (simp only [tocvs, tocv, toboxes, tobox, updH_at, Nat.reduceEqDiff, ↓reduceIte, hq]; rfl)) (by simp) ?_
          simp (disch := omega) only [wk, tis, Int.reduceNe, Int.reduceEq, Int.reduceLT, Int.reduceLE, Int.reduceAdd, Int.reduceSub, Int.reduceNeg, Int.reduceMul, Int.reduceToNat, Nat.reduceSub, Nat.reduceMul, Nat.reduceLeDiff, Nat.reduceAdd, Nat.reduceLT, Nat.reduceEqDiff, reduceCtorEq, ↓reduceIte, rqs, hq]
          refine call_by (sd) (by first | rfl | (simp only [tocvs, tocv, hq]; rfl) | (simp only [tocvs, tocv, toboxes, tobox, updH_at, Nat.reduceEqDiff, ↓reduceIte, hq]; rfl)) (by simp) ?_
          simp (disch := omega) only [wk, tis, Int.reduceNe, Int.reduceEq, Int.reduceLT, Int.reduceLE, Int.reduceAdd, Int.reduceSub, Int.reduceNeg, Int.reduceMul, Int.reduceToNat, Nat.reduceSub, Nat.reduceMul, Nat.reduceLeDiff, Nat.reduceAdd, Nat.reduceLT, Nat.reduceEqDiff, reduceCtorEq, ↓reduceIte, rqs, hq]
          refine call_by (it) (by first | rfl | (simp only [tocvs, tocv, hq]; rfl) | (simp only [tocvs, tocv, toboxes, tobox, updH_at, Nat.reduceEqDiff, ↓reduceIte, hq]; rfl)) (by simp) ?_
          simp (disch := omega) only [wk, tis, Int.reduceNe, Int.reduceEq, Int.reduceLT, Int.reduceLE, Int.reduceAdd, Int.reduceSub, Int.reduceNeg, Int.reduceMul, Int.reduceToNat, Nat.reduceSub, Nat.reduceMul, Nat.reduceLeDiff, Nat.reduceAdd, Nat.reduceLT, Nat.reduceEqDiff, reduceCtorEq, ↓reduceIte, rqs, hq]
          refine call_by (si) (by first | rfl | (simp only [tocvs, tocv, hq]; rfl) | (simp only [tocvs, tocv, toboxes, tobox, updH_at, Nat.reduceEqDiff, ↓reduceIte, hq]; rfl)) (by simp) ?_
          simp (disch := omega) only [wk, tis, Int.reduceNe, Int.reduceEq, Int.reduceLT, Int.reduceLE, Int.reduceAdd, Int.reduceSub, Int.reduceNeg, Int.reduceMul, Int.reduceToNat, Nat.reduceSub, Nat.reduceMul, Nat.reduceLeDiff, Nat.reduceAdd, Nat.reduceLT, Nat.reduceEqDiff, reduceCtorEq, ↓reduceIte, rqs, hq]
          simp (disch := omega) only [wk, tis, Int.reduceNe, Int.reduceEq, Int.reduceLT, Int.reduceLE, Int.reduceAdd, Int.reduceSub, Int.reduceNeg, Int.reduceMul, Int.reduceToNat, Nat.reduceSub, Nat.reduceMul, Nat.reduceLeDiff, Nat.reduceAdd, Nat.reduceLT, Nat.reduceEqDiff, reduceCtorEq, ↓reduceIte, rqs, hq, ha0']
          refine ⟨tmps_by (by kernel_rfl), ?_⟩
          refine call_by (hone_ok) (by first | rfl | (simp only [tocvs, tocv, hq, e1, g]; rfl) | (simp only [tocvs, tocv, toboxes, tobox, updH_at, Nat.reduceEqDiff, ↓reduceIte, hq, e1, g]; rfl)) (by simp) ?_
          simp (disch := omega) only [wk, tis, Int.reduceNe, Int.reduceEq, Int.reduceLT, Int.reduceLE, Int.reduceAdd, Int.reduceSub, Int.reduceNeg, Int.reduceMul, Int.reduceToNat, Nat.reduceSub, Nat.reduceMul, Nat.reduceLeDiff, Nat.reduceAdd, Nat.reduceLT, Nat.reduceEqDiff, reduceCtorEq, ↓reduceIte, rqs, hq, e1, g]
          refine call_by (ov) (by first | rfl | (simp only [tocvs, tocv, hq, e1, g]; rfl) | (simp only [tocvs, tocv, toboxes, tobox, updH_at, Nat.reduceEqDiff, ↓reduceIte, hq, e1, g]; rfl)) (by simp) ?_
          simp (disch := omega) only [wk, tis, Int.reduceNe, Int.reduceEq, Int.reduceLT, Int.reduceLE, Int.reduceAdd, Int.reduceSub, Int.reduceNeg, Int.reduceMul, Int.reduceToNat, Nat.reduceSub, Nat.reduceMul, Nat.reduceLeDiff, Nat.reduceAdd, Nat.reduceLT, Nat.reduceEqDiff, reduceCtorEq, ↓reduceIte, rqs, hq, e1, g]
          refine call_by (pl) (by first | rfl | (simp only [tocvs, tocv, hq, e1, g]; rfl) | (simp only [tocvs, tocv, toboxes, tobox, updH_at, Nat.reduceEqDiff, ↓reduceIte, hq, e1, g]; rfl)) (by simp) ?_
          simp (disch := omega) only [wk, tis, Int.reduceNe, Int.reduceEq, Int.reduceLT, Int.reduceLE, Int.reduceAdd, Int.reduceSub, Int.reduceNeg, Int.reduceMul, Int.reduceToNat, Nat.reduceSub, Nat.reduceMul, Nat.reduceLeDiff, Nat.reduceAdd, Nat.reduceLT, Nat.reduceEqDiff, reduceCtorEq, ↓reduceIte, rqs, hq, e1, g]
          refine call_by (ti) (by first | rfl | (simp only [tocvs, tocv, hq, e1, g]; rfl) | (simp only [tocvs, tocv, toboxes, tobox, updH_at, Nat.reduceEqDiff, ↓reduceIte, hq, e1, g]; rfl)) (by simp) ?_
          simp (disch := omega) only [wk, tis, Int.reduceNe, Int.reduceEq, Int.reduceLT, Int.reduceLE, Int.reduceAdd, Int.reduceSub, Int.reduceNeg, Int.reduceMul, Int.reduceToNat, Nat.reduceSub, Nat.reduceMul, Nat.reduceLeDiff, Nat.reduceAdd, Nat.reduceLT, Nat.reduceEqDiff, reduceCtorEq, ↓reduceIte, rqs, hq, e1, g]
          first | exact log_by (by kernel_rfl) | refine ⟨log_by (by kernel_rfl), ?_⟩
          try rfl
      · obtain ⟨n, v⟩ := dv_of hA hB tA tB hb0
        have dv := qdiv_ok a b (hGa.mono (by omega) (by omega)) (hGb.mono (by omega) (by omega)) n (2 ^ 31) v
        have tq := tquo_ok a b (hGa.mono (by omega) (by omega)) (hGb.mono (by omega) (by omega)) n (2 ^ 31) v
        rw [show cqp (qvs b) = cqw ((trimq (qvs b)).map crat) from rfl] at fr
        have hqb : ((trimq (qvs b)).map crat).length = (trimq (qvs b)).length := List.length_map _
        have hb0' : ¬ ((trimq (qvs b)).length : Int) = 0 := by omega
        have zq := dqu_size v.h0 v.hb v.za v.zb v.k1 n (Nat.le_refl _) v.hj
        have lq := dqu_len v.h0 v.hb n v.hj
        have ld := dit_len v.h0 v.hb n v.hj
        have s1 := tsame_self ((QB.of (n := 2 ^ 40) (k := 2 ^ 40) (q := dqu (trimq (qvs a)) (trimq (qvs b)) n) (by have := hA.1; omega) fun i => by have := zq i; omega).gqs.bq)
        have s2 := tsame_self ((QB.of (n := 2 ^ 40) (k := 2 ^ 40) (q := dit (trimq (qvs a)) (trimq (qvs b)) n) (by have := hA.1; omega) fun i => by have := v.za n (Nat.le_refl _) i; omega).gq.bq)
        refine AC.by_walk (rs := [.tmp 4]) ords Tryz.func9 (by rfl) (by rfl) (by rfl) (by rfl) (by rfl) ?_
        simp (disch := omega) only [wk, tis, Int.reduceNe, Int.reduceEq, Int.reduceLT, Int.reduceLE, Int.reduceAdd, Int.reduceSub, Int.reduceNeg, Int.reduceMul, Int.reduceToNat, Nat.reduceSub, Nat.reduceMul, Nat.reduceLeDiff, Nat.reduceAdd, Nat.reduceLT, Nat.reduceEqDiff, reduceCtorEq, ↓reduceIte, rqs]
        refine call_by (known_ok) (by rfl) (by simp) ?_
        simp (disch := omega) only [wk, tis, Int.reduceNe, Int.reduceEq, Int.reduceLT, Int.reduceLE, Int.reduceAdd, Int.reduceSub, Int.reduceNeg, Int.reduceMul, Int.reduceToNat, Nat.reduceSub, Nat.reduceMul, Nat.reduceLeDiff, Nat.reduceAdd, Nat.reduceLT, Nat.reduceEqDiff, reduceCtorEq, ↓reduceIte, rqs]
        refine call_by (fa) (by rfl) (by simp) ?_
        simp (disch := omega) only [wk, tis, Int.reduceNe, Int.reduceEq, Int.reduceLT, Int.reduceLE, Int.reduceAdd, Int.reduceSub, Int.reduceNeg, Int.reduceMul, Int.reduceToNat, Nat.reduceSub, Nat.reduceMul, Nat.reduceLeDiff, Nat.reduceAdd, Nat.reduceLT, Nat.reduceEqDiff, reduceCtorEq, ↓reduceIte, rqs]
        refine call_by (fb) (by rfl) (by simp) ?_
        simp (disch := omega) only [wk, tis, Int.reduceNe, Int.reduceEq, Int.reduceLT, Int.reduceLE, Int.reduceAdd, Int.reduceSub, Int.reduceNeg, Int.reduceMul, Int.reduceToNat, Nat.reduceSub, Nat.reduceMul, Nat.reduceLeDiff, Nat.reduceAdd, Nat.reduceLT, Nat.reduceEqDiff, reduceCtorEq, ↓reduceIte, rqs]
        refine call_by (g1) (by rfl) (by simp) ?_
        simp (disch := omega) only [wk, tis, Int.reduceNe, Int.reduceEq, Int.reduceLT, Int.reduceLE, Int.reduceAdd, Int.reduceSub, Int.reduceNeg, Int.reduceMul, Int.reduceToNat, Nat.reduceSub, Nat.reduceMul, Nat.reduceLeDiff, Nat.reduceAdd, Nat.reduceLT, Nat.reduceEqDiff, reduceCtorEq, ↓reduceIte, rqs]
        refine call_by (g1) (by rfl) (by simp) ?_
        simp (disch := omega) only [wk, tis, Int.reduceNe, Int.reduceEq, Int.reduceLT, Int.reduceLE, Int.reduceAdd, Int.reduceSub, Int.reduceNeg, Int.reduceMul, Int.reduceToNat, Nat.reduceSub, Nat.reduceMul, Nat.reduceLeDiff, Nat.reduceAdd, Nat.reduceLT, Nat.reduceEqDiff, reduceCtorEq, ↓reduceIte, rqs]
        refine call_by (g2) (by rfl) (by simp) ?_
        simp (disch := omega) only [wk, tis, Int.reduceNe, Int.reduceEq, Int.reduceLT, Int.reduceLE, Int.reduceAdd, Int.reduceSub, Int.reduceNeg, Int.reduceMul, Int.reduceToNat, Nat.reduceSub, Nat.reduceMul, Nat.reduceLeDiff, Nat.reduceAdd, Nat.reduceLT, Nat.reduceEqDiff, reduceCtorEq, ↓reduceIte, rqs]
        refine call_by (dv) (by rfl) (by simp) ?_
        simp (disch := omega) only [wk, tis, Int.reduceNe, Int.reduceEq, Int.reduceLT, Int.reduceLE, Int.reduceAdd, Int.reduceSub, Int.reduceNeg, Int.reduceMul, Int.reduceToNat, Nat.reduceSub, Nat.reduceMul, Nat.reduceLeDiff, Nat.reduceAdd, Nat.reduceLT, Nat.reduceEqDiff, reduceCtorEq, ↓reduceIte, rqs]
        refine call_by (fr) (by first | rfl | (simp only [tocvs, tocv, hqb, hb0']; rfl) | (simp only [tocvs, tocv, toboxes, tobox, updH_at, Nat.reduceEqDiff, ↓reduceIte, hqb, hb0']; rfl)) (by simp) ?_
        simp (disch := omega) only [wk, tis, Int.reduceNe, Int.reduceEq, Int.reduceLT, Int.reduceLE, Int.reduceAdd, Int.reduceSub, Int.reduceNeg, Int.reduceMul, Int.reduceToNat, Nat.reduceSub, Nat.reduceMul, Nat.reduceLeDiff, Nat.reduceAdd, Nat.reduceLT, Nat.reduceEqDiff, reduceCtorEq, ↓reduceIte, rqs, hqb, hb0']
        refine call_by (tq) (by first | rfl | (simp only [tocvs, tocv, hqb, hb0']; rfl) | (simp only [tocvs, tocv, toboxes, tobox, updH_at, Nat.reduceEqDiff, ↓reduceIte, hqb, hb0']; rfl)) (by simp) ?_
        simp (disch := omega) only [wk, tis, Int.reduceNe, Int.reduceEq, Int.reduceLT, Int.reduceLE, Int.reduceAdd, Int.reduceSub, Int.reduceNeg, Int.reduceMul, Int.reduceToNat, Nat.reduceSub, Nat.reduceMul, Nat.reduceLeDiff, Nat.reduceAdd, Nat.reduceLT, Nat.reduceEqDiff, reduceCtorEq, ↓reduceIte, rqs, hqb, hb0']
        refine call_by (s1) (by first | rfl | (simp only [tocvs, tocv, hqb, hb0']; rfl) | (simp only [tocvs, tocv, toboxes, tobox, updH_at, Nat.reduceEqDiff, ↓reduceIte, hqb, hb0']; rfl)) (by simp) ?_
        simp (disch := omega) only [wk, tis, Int.reduceNe, Int.reduceEq, Int.reduceLT, Int.reduceLE, Int.reduceAdd, Int.reduceSub, Int.reduceNeg, Int.reduceMul, Int.reduceToNat, Nat.reduceSub, Nat.reduceMul, Nat.reduceLeDiff, Nat.reduceAdd, Nat.reduceLT, Nat.reduceEqDiff, reduceCtorEq, ↓reduceIte, rqs, hqb, hb0']
        refine call_by (s2) (by first | rfl | (simp only [tocvs, tocv, hqb, hb0']; rfl) | (simp only [tocvs, tocv, toboxes, tobox, updH_at, Nat.reduceEqDiff, ↓reduceIte, hqb, hb0']; rfl)) (by simp) ?_
        simp (disch := omega) only [wk, tis, Int.reduceNe, Int.reduceEq, Int.reduceLT, Int.reduceLE, Int.reduceAdd, Int.reduceSub, Int.reduceNeg, Int.reduceMul, Int.reduceToNat, Nat.reduceSub, Nat.reduceMul, Nat.reduceLeDiff, Nat.reduceAdd, Nat.reduceLT, Nat.reduceEqDiff, reduceCtorEq, ↓reduceIte, rqs, hqb, hb0']
        by_cases ha0 : (trimq (qvs a)).length = 0
        · have ha1 : trimq (qvs a) = [] := List.length_eq_zero_iff.mp ha0
          have mz := qmonic_zero a (hGa.mono (by omega) (by omega)) ha1
          have ff := tform_ok a (hGa.mono (by omega) (by omega))
          rw [show cqp (qvs a) = cqw [] from congrArg cqw (by rw [cqs, ha1]; rfl)] at ff
          refine call_by (mz) (by rfl) (by simp) ?_
          simp (disch := omega) only [wk, tis, Int.reduceNe, Int.reduceEq, Int.reduceLT, Int.reduceLE, Int.reduceAdd, Int.reduceSub, Int.reduceNeg, Int.reduceMul, Int.reduceToNat, Nat.reduceSub, Nat.reduceMul, Nat.reduceLeDiff, Nat.reduceAdd, Nat.reduceLT, Nat.reduceEqDiff, reduceCtorEq, ↓reduceIte, rqs]
          refine call_by (dq) (by rfl) (by simp) ?_
          simp (disch := omega) only [wk, tis, Int.reduceNe, Int.reduceEq, Int.reduceLT, Int.reduceLE, Int.reduceAdd, Int.reduceSub, Int.reduceNeg, Int.reduceMul, Int.reduceToNat, Nat.reduceSub, Nat.reduceMul, Nat.reduceLeDiff, Nat.reduceAdd, Nat.reduceLT, Nat.reduceEqDiff, reduceCtorEq, ↓reduceIte, rqs]
          refine call_by (iq) (by rfl) (by simp) ?_
          simp (disch := omega) only [wk, tis, Int.reduceNe, Int.reduceEq, Int.reduceLT, Int.reduceLE, Int.reduceAdd, Int.reduceSub, Int.reduceNeg, Int.reduceMul, Int.reduceToNat, Nat.reduceSub, Nat.reduceMul, Nat.reduceLeDiff, Nat.reduceAdd, Nat.reduceLT, Nat.reduceEqDiff, reduceCtorEq, ↓reduceIte, rqs]
          refine call_by (ff) (by rfl) (by simp) ?_
          simp (disch := omega) only [wk, tis, Int.reduceNe, Int.reduceEq, Int.reduceLT, Int.reduceLE, Int.reduceAdd, Int.reduceSub, Int.reduceNeg, Int.reduceMul, Int.reduceToNat, Nat.reduceSub, Nat.reduceMul, Nat.reduceLeDiff, Nat.reduceAdd, Nat.reduceLT, Nat.reduceEqDiff, reduceCtorEq, ↓reduceIte, rqs]
          refine call_by (dt) (by rfl) (by simp) ?_
          simp (disch := omega) only [wk, tis, Int.reduceNe, Int.reduceEq, Int.reduceLT, Int.reduceLE, Int.reduceAdd, Int.reduceSub, Int.reduceNeg, Int.reduceMul, Int.reduceToNat, Nat.reduceSub, Nat.reduceMul, Nat.reduceLeDiff, Nat.reduceAdd, Nat.reduceLT, Nat.reduceEqDiff, reduceCtorEq, ↓reduceIte, rqs]
          refine call_by (sd) (by rfl) (by simp) ?_
          simp (disch := omega) only [wk, tis, Int.reduceNe, Int.reduceEq, Int.reduceLT, Int.reduceLE, Int.reduceAdd, Int.reduceSub, Int.reduceNeg, Int.reduceMul, Int.reduceToNat, Nat.reduceSub, Nat.reduceMul, Nat.reduceLeDiff, Nat.reduceAdd, Nat.reduceLT, Nat.reduceEqDiff, reduceCtorEq, ↓reduceIte, rqs]
          refine call_by (it) (by rfl) (by simp) ?_
          simp (disch := omega) only [wk, tis, Int.reduceNe, Int.reduceEq, Int.reduceLT, Int.reduceLE, Int.reduceAdd, Int.reduceSub, Int.reduceNeg, Int.reduceMul, Int.reduceToNat, Nat.reduceSub, Nat.reduceMul, Nat.reduceLeDiff, Nat.reduceAdd, Nat.reduceLT, Nat.reduceEqDiff, reduceCtorEq, ↓reduceIte, rqs]
          refine call_by (si) (by rfl) (by simp) ?_
          simp (disch := omega) only [wk, tis, Int.reduceNe, Int.reduceEq, Int.reduceLT, Int.reduceLE, Int.reduceAdd, Int.reduceSub, Int.reduceNeg, Int.reduceMul, Int.reduceToNat, Nat.reduceSub, Nat.reduceMul, Nat.reduceLeDiff, Nat.reduceAdd, Nat.reduceLT, Nat.reduceEqDiff, reduceCtorEq, ↓reduceIte, rqs]
          try rfl
        · have mn := qmonic_ok a (2 ^ 20) (hGa.mono (by omega) (by omega)) (by omega) (by omega) ha0
          have ff := tform_ok a (hGa.mono (by omega) (by omega))
          rw [show cqp (qvs a) = cqw ((trimq (qvs a)).map crat) from rfl] at ff
          generalize trimq (qvs a) = A at *
          have hq : (A.map crat).length = A.length := List.length_map _
          have hAl := hA.1
          have ha0' : ¬ (A.length : Int) = 0 := by omega
          have e1 : (A.length : Int) - 1 = ((A.length - 1 : Nat) : Int) := by omega
          have g := cratq_get (q := A) (i := A.length - 1) (by omega)
          have ht := trimq_full tA
          have hne := cfq_tzq_pred (q := A) (by omega)
          rw [ht] at hne
          have zt := hA.cz (by omega) (A.length - 1)
          have zi := qz_inv (cfq A (A.length - 1))
          have ov := hover_ok (crat 1) (crat (cfq A (A.length - 1))) (szq_crat (by rw [qz_one]; omega)) (szq_crat (by omega)) (nv_crat0 _) (nv_crat0 _) (by rw [iv_crat]; exact fun e => hne (Rat.num_eq_zero.mp e))
          rw [qv_crat, qv_crat] at ov
          have pl := tplus_ok [] (A.map crat) (crat (1 / cfq A (A.length - 1))) (2 ^ 20) ⟨Nat.zero_le _, fun r hr => nomatch hr⟩ (hA.mono (by omega) (Nat.le_refl _)).gq (szq_crat (by omega)) (nv_crat0 _) (by omega) (by omega)
          rw [qv_crat, qvs_map, show qvs [] = [] from rfl, show cqp (zipq (fma (1 / cfq A (A.length - 1))) [] A) = cqp (sclq (1 / cfq A (A.length - 1)) A) from congrArg cqw (cqs_ext fun j => by rw [cfq_zipq (fma_zero _), cfq_nil, cfq_sclq]; unfold fma; grind)] at pl
          have hS : QB (2 ^ 40) (2 ^ 40) (sclq (1 / cfq A (A.length - 1)) A) := .of (by simp [sclq]; have := hA.1; omega) fun j => by
            rw [cfq_sclq]
            have h1 := qz_mul (cfq A j) (1 / cfq A (A.length - 1))
            have h2 := hA.cz (by omega) j
            omega
          have ti := tis_ok (hS.gqs.bq)
          refine call_by (mn) (by rfl) (by simp) ?_
          simp (disch := omega) only [wk, tis, Int.reduceNe, Int.reduceEq, Int.reduceLT, Int.reduceLE, Int.reduceAdd, Int.reduceSub, Int.reduceNeg, Int.reduceMul, Int.reduceToNat, Nat.reduceSub, Nat.reduceMul, Nat.reduceLeDiff, Nat.reduceAdd, Nat.reduceLT, Nat.reduceEqDiff, reduceCtorEq, ↓reduceIte, rqs]
          refine call_by (dq) (by rfl) (by simp) ?_
          simp (disch := omega) only [wk, tis, Int.reduceNe, Int.reduceEq, Int.reduceLT, Int.reduceLE, Int.reduceAdd, Int.reduceSub, Int.reduceNeg, Int.reduceMul, Int.reduceToNat, Nat.reduceSub, Nat.reduceMul, Nat.reduceLeDiff, Nat.reduceAdd, Nat.reduceLT, Nat.reduceEqDiff, reduceCtorEq, ↓reduceIte, rqs]
          refine call_by (iq) (by rfl) (by simp) ?_
          simp (disch := omega) only [wk, tis, Int.reduceNe, Int.reduceEq, Int.reduceLT, Int.reduceLE, Int.reduceAdd, Int.reduceSub, Int.reduceNeg, Int.reduceMul, Int.reduceToNat, Nat.reduceSub, Nat.reduceMul, Nat.reduceLeDiff, Nat.reduceAdd, Nat.reduceLT, Nat.reduceEqDiff, reduceCtorEq, ↓reduceIte, rqs]
          refine call_by (ff) (by rfl) (by simp) ?_
          simp (disch := omega) only [wk, tis, Int.reduceNe, Int.reduceEq, Int.reduceLT, Int.reduceLE, Int.reduceAdd, Int.reduceSub, Int.reduceNeg, Int.reduceMul, Int.reduceToNat, Nat.reduceSub, Nat.reduceMul, Nat.reduceLeDiff, Nat.reduceAdd, Nat.reduceLT, Nat.reduceEqDiff, reduceCtorEq, ↓reduceIte, rqs]
          refine call_by (dt) (by first | rfl | (simp only [tocvs, tocv, hq]; rfl) | (simp only [tocvs, tocv, toboxes, tobox, updH_at, Nat.reduceEqDiff, ↓reduceIte, hq]; rfl)) (by simp) ?_
          simp (disch := omega) only [wk, tis, Int.reduceNe, Int.reduceEq, Int.reduceLT, Int.reduceLE, Int.reduceAdd, Int.reduceSub, Int.reduceNeg, Int.reduceMul, Int.reduceToNat, Nat.reduceSub, Nat.reduceMul, Nat.reduceLeDiff, Nat.reduceAdd, Nat.reduceLT, Nat.reduceEqDiff, reduceCtorEq, ↓reduceIte, rqs, hq]
          refine call_by (sd) (by first | rfl | (simp only [tocvs, tocv, hq]; rfl) | (simp only [tocvs, tocv, toboxes, tobox, updH_at, Nat.reduceEqDiff, ↓reduceIte, hq]; rfl)) (by simp) ?_
          simp (disch := omega) only [wk, tis, Int.reduceNe, Int.reduceEq, Int.reduceLT, Int.reduceLE, Int.reduceAdd, Int.reduceSub, Int.reduceNeg, Int.reduceMul, Int.reduceToNat, Nat.reduceSub, Nat.reduceMul, Nat.reduceLeDiff, Nat.reduceAdd, Nat.reduceLT, Nat.reduceEqDiff, reduceCtorEq, ↓reduceIte, rqs, hq]
          refine call_by (it) (by first | rfl | (simp only [tocvs, tocv, hq]; rfl) | (simp only [tocvs, tocv, toboxes, tobox, updH_at, Nat.reduceEqDiff, ↓reduceIte, hq]; rfl)) (by simp) ?_
          simp (disch := omega) only [wk, tis, Int.reduceNe, Int.reduceEq, Int.reduceLT, Int.reduceLE, Int.reduceAdd, Int.reduceSub, Int.reduceNeg, Int.reduceMul, Int.reduceToNat, Nat.reduceSub, Nat.reduceMul, Nat.reduceLeDiff, Nat.reduceAdd, Nat.reduceLT, Nat.reduceEqDiff, reduceCtorEq, ↓reduceIte, rqs, hq]
          refine call_by (si) (by first | rfl | (simp only [tocvs, tocv, hq]; rfl) | (simp only [tocvs, tocv, toboxes, tobox, updH_at, Nat.reduceEqDiff, ↓reduceIte, hq]; rfl)) (by simp) ?_
          simp (disch := omega) only [wk, tis, Int.reduceNe, Int.reduceEq, Int.reduceLT, Int.reduceLE, Int.reduceAdd, Int.reduceSub, Int.reduceNeg, Int.reduceMul, Int.reduceToNat, Nat.reduceSub, Nat.reduceMul, Nat.reduceLeDiff, Nat.reduceAdd, Nat.reduceLT, Nat.reduceEqDiff, reduceCtorEq, ↓reduceIte, rqs, hq]
          simp (disch := omega) only [wk, tis, Int.reduceNe, Int.reduceEq, Int.reduceLT, Int.reduceLE, Int.reduceAdd, Int.reduceSub, Int.reduceNeg, Int.reduceMul, Int.reduceToNat, Nat.reduceSub, Nat.reduceMul, Nat.reduceLeDiff, Nat.reduceAdd, Nat.reduceLT, Nat.reduceEqDiff, reduceCtorEq, ↓reduceIte, rqs, hq, ha0']
          refine ⟨tmps_by (by kernel_rfl), ?_⟩
          refine call_by (hone_ok) (by first | rfl | (simp only [tocvs, tocv, hq, e1, g]; rfl) | (simp only [tocvs, tocv, toboxes, tobox, updH_at, Nat.reduceEqDiff, ↓reduceIte, hq, e1, g]; rfl)) (by simp) ?_
          simp (disch := omega) only [wk, tis, Int.reduceNe, Int.reduceEq, Int.reduceLT, Int.reduceLE, Int.reduceAdd, Int.reduceSub, Int.reduceNeg, Int.reduceMul, Int.reduceToNat, Nat.reduceSub, Nat.reduceMul, Nat.reduceLeDiff, Nat.reduceAdd, Nat.reduceLT, Nat.reduceEqDiff, reduceCtorEq, ↓reduceIte, rqs, hq, e1, g]
          refine call_by (ov) (by first | rfl | (simp only [tocvs, tocv, hq, e1, g]; rfl) | (simp only [tocvs, tocv, toboxes, tobox, updH_at, Nat.reduceEqDiff, ↓reduceIte, hq, e1, g]; rfl)) (by simp) ?_
          simp (disch := omega) only [wk, tis, Int.reduceNe, Int.reduceEq, Int.reduceLT, Int.reduceLE, Int.reduceAdd, Int.reduceSub, Int.reduceNeg, Int.reduceMul, Int.reduceToNat, Nat.reduceSub, Nat.reduceMul, Nat.reduceLeDiff, Nat.reduceAdd, Nat.reduceLT, Nat.reduceEqDiff, reduceCtorEq, ↓reduceIte, rqs, hq, e1, g]
          refine call_by (pl) (by first | rfl | (simp only [tocvs, tocv, hq, e1, g]; rfl) | (simp only [tocvs, tocv, toboxes, tobox, updH_at, Nat.reduceEqDiff, ↓reduceIte, hq, e1, g]; rfl)) (by simp) ?_
          simp (disch := omega) only [wk, tis, Int.reduceNe, Int.reduceEq, Int.reduceLT, Int.reduceLE, Int.reduceAdd, Int.reduceSub, Int.reduceNeg, Int.reduceMul, Int.reduceToNat, Nat.reduceSub, Nat.reduceMul, Nat.reduceLeDiff, Nat.reduceAdd, Nat.reduceLT, Nat.reduceEqDiff, reduceCtorEq, ↓reduceIte, rqs, hq, e1, g]
          refine call_by (ti) (by first | rfl | (simp only [tocvs, tocv, hq, e1, g]; rfl) | (simp only [tocvs, tocv, toboxes, tobox, updH_at, Nat.reduceEqDiff, ↓reduceIte, hq, e1, g]; rfl)) (by simp) ?_
          simp (disch := omega) only [wk, tis, Int.reduceNe, Int.reduceEq, Int.reduceLT, Int.reduceLE, Int.reduceAdd, Int.reduceSub, Int.reduceNeg, Int.reduceMul, Int.reduceToNat, Nat.reduceSub, Nat.reduceMul, Nat.reduceLeDiff, Nat.reduceAdd, Nat.reduceLT, Nat.reduceEqDiff, reduceCtorEq, ↓reduceIte, rqs, hq, e1, g]
          first | exact log_by (by kernel_rfl) | refine ⟨log_by (by kernel_rfl), ?_⟩
          try rfl
end Go.Proofs.YtjadkhkgmdikiaaGreat
