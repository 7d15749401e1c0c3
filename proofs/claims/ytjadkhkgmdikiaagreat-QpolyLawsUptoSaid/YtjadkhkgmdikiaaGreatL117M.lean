/-
  Contracts of the functions that the law reaches.
-/
import Derived.Test.YtjadkhkgmdikiaaGreatL116
import Derived.Test.YtjadkhkgmdikiaaGreatAbsT
import Derived.Test.YtjadkhkgmdikiaaGreatL103M
namespace Go.Proofs.YtjadkhkgmdikiaaGreat
open Go Go.Proofs Go.AL
set_option linter.unusedSimpArgs false
set_option linter.unusedVariables false

theorem readsB_rat {bk : {H : Type} → DataW H → Nat} {P : Program} {w : World} {t : TypeId} (h : ReadsB bk P w (fun c : (RI × (List Nat × Unit)) => prow c.1 ++ ([.sl (lims c.2.1)] ++ [])) (fun N c => Sz N c.1 ∧ ((c.2.1.length ≤ N ∧ Lim c.2.1) ∧ True)) t) : ReadsB bk P w qrow (fun N => SzQ N) t := fun enc sp held fuel cs x N hx hN => by
  obtain ⟨a, f, e⟩ := h enc sp held fuel cs x N hx hN
  exact ⟨(a.1, a.2.1), ⟨f.1, f.2.1⟩, e⟩


theorem forms_bad (p r : List RQ) (n : Int) (hp : BQ (2 ^ 20) (2 ^ 20) p) (hr : BQ (2 ^ 20) (2 ^ 20) r) (hg : gd p = false) : AC Tryz.prog 6 [cqw p, cqw r, ci n] none [cb true] := by
  have hp' : BQ (2 ^ 40) (2 ^ 38) p := hp.mono (by omega) (by omega)
  have hr' : BQ (2 ^ 40) (2 ^ 38) r := hr.mono (by omega) (by omega)
  have g1 := qgood_ok p (hp.mono (by omega) (by omega))
  have g2 := tgood_ok p hp'
  rw [hg] at g1 g2
  have i1 := qisnorm_ok p hp'
  have i2 := tisnorm_ok p hp'
  rw [hg, Bool.false_and] at i1 i2
  have n1 := tnorm_bad p hp' hg
  have n2 := qpnorm_bad p hp' hg
  have s0 := tsame_self (bq_nil (2 ^ 40) (2 ^ 40))
  have s1 := qsame_bad p r hp' hr' (.inl hg)
  have d1 := qdeg_bad p hp' hg
  have c1 := qCoef_bad p n hp' hg
  refine AC.by_walk (rs := [.tmp 6]) ords Tryz.func6 (by rfl) (by rfl) (by rfl) (by rfl) (by rfl) ?_
  simp (disch := omega) only [wk, tis, Int.reduceNe, Int.reduceEq, Int.reduceLT, Int.reduceLE, Int.reduceAdd, Int.reduceSub, Int.reduceNeg, Int.reduceMul, Int.reduceToNat, Nat.reduceSub, Nat.reduceMul, Nat.reduceLeDiff, Nat.reduceAdd, Nat.reduceLT, Nat.reduceEqDiff, reduceCtorEq, ↓reduceIte, rqs, beq_self_eq_true]
  refine call_by (known_ok) (by rfl) (by simp) ?_
  simp (disch := omega) only [wk, tis, Int.reduceNe, Int.reduceEq, Int.reduceLT, Int.reduceLE, Int.reduceAdd, Int.reduceSub, Int.reduceNeg, Int.reduceMul, Int.reduceToNat, Nat.reduceSub, Nat.reduceMul, Nat.reduceLeDiff, Nat.reduceAdd, Nat.reduceLT, Nat.reduceEqDiff, reduceCtorEq, ↓reduceIte, rqs, beq_self_eq_true]
  refine call_by (g1) (by rfl) (by simp) ?_
  simp (disch := omega) only [wk, tis, Int.reduceNe, Int.reduceEq, Int.reduceLT, Int.reduceLE, Int.reduceAdd, Int.reduceSub, Int.reduceNeg, Int.reduceMul, Int.reduceToNat, Nat.reduceSub, Nat.reduceMul, Nat.reduceLeDiff, Nat.reduceAdd, Nat.reduceLT, Nat.reduceEqDiff, reduceCtorEq, ↓reduceIte, rqs, beq_self_eq_true]

  refine call_by (g2) (by rfl) (by simp) ?_
  simp (disch := omega) only [wk, tis, Int.reduceNe, Int.reduceEq, Int.reduceLT, Int.reduceLE, Int.reduceAdd, Int.reduceSub, Int.reduceNeg, Int.reduceMul, Int.reduceToNat, Nat.reduceSub, Nat.reduceMul, Nat.reduceLeDiff, Nat.reduceAdd, Nat.reduceLT, Nat.reduceEqDiff, reduceCtorEq, ↓reduceIte, rqs, beq_self_eq_true]
  refine call_by (i1) (by rfl) (by simp) ?_
  simp (disch := omega) only [wk, tis, Int.reduceNe, Int.reduceEq, Int.reduceLT, Int.reduceLE, Int.reduceAdd, Int.reduceSub, Int.reduceNeg, Int.reduceMul, Int.reduceToNat, Nat.reduceSub, Nat.reduceMul, Nat.reduceLeDiff, Nat.reduceAdd, Nat.reduceLT, Nat.reduceEqDiff, reduceCtorEq, ↓reduceIte, rqs, beq_self_eq_true]
  refine call_by (i2) (by rfl) (by simp) ?_
  simp (disch := omega) only [wk, tis, Int.reduceNe, Int.reduceEq, Int.reduceLT, Int.reduceLE, Int.reduceAdd, Int.reduceSub, Int.reduceNeg, Int.reduceMul, Int.reduceToNat, Nat.reduceSub, Nat.reduceMul, Nat.reduceLeDiff, Nat.reduceAdd, Nat.reduceLT, Nat.reduceEqDiff, reduceCtorEq, ↓reduceIte, rqs, beq_self_eq_true]

  refine call_by (n1) (by rfl) (by simp) ?_
  simp (disch := omega) only [wk, tis, Int.reduceNe, Int.reduceEq, Int.reduceLT, Int.reduceLE, Int.reduceAdd, Int.reduceSub, Int.reduceNeg, Int.reduceMul, Int.reduceToNat, Nat.reduceSub, Nat.reduceMul, Nat.reduceLeDiff, Nat.reduceAdd, Nat.reduceLT, Nat.reduceEqDiff, reduceCtorEq, ↓reduceIte, rqs, beq_self_eq_true]
  refine call_by (n2) (by rfl) (by simp) ?_
  simp (disch := omega) only [wk, tis, Int.reduceNe, Int.reduceEq, Int.reduceLT, Int.reduceLE, Int.reduceAdd, Int.reduceSub, Int.reduceNeg, Int.reduceMul, Int.reduceToNat, Nat.reduceSub, Nat.reduceMul, Nat.reduceLeDiff, Nat.reduceAdd, Nat.reduceLT, Nat.reduceEqDiff, reduceCtorEq, ↓reduceIte, rqs, beq_self_eq_true]
  refine call_by (s0) (by rfl) (by simp) ?_
  simp (disch := omega) only [wk, tis, Int.reduceNe, Int.reduceEq, Int.reduceLT, Int.reduceLE, Int.reduceAdd, Int.reduceSub, Int.reduceNeg, Int.reduceMul, Int.reduceToNat, Nat.reduceSub, Nat.reduceMul, Nat.reduceLeDiff, Nat.reduceAdd, Nat.reduceLT, Nat.reduceEqDiff, reduceCtorEq, ↓reduceIte, rqs, beq_self_eq_true]
  refine call_by (s1) (by rfl) (by simp) ?_
  simp (disch := omega) only [wk, tis, Int.reduceNe, Int.reduceEq, Int.reduceLT, Int.reduceLE, Int.reduceAdd, Int.reduceSub, Int.reduceNeg, Int.reduceMul, Int.reduceToNat, Nat.reduceSub, Nat.reduceMul, Nat.reduceLeDiff, Nat.reduceAdd, Nat.reduceLT, Nat.reduceEqDiff, reduceCtorEq, ↓reduceIte, rqs, beq_self_eq_true]
  refine call_by (d1) (by rfl) (by simp) ?_
  simp (disch := omega) only [wk, tis, Int.reduceNe, Int.reduceEq, Int.reduceLT, Int.reduceLE, Int.reduceAdd, Int.reduceSub, Int.reduceNeg, Int.reduceMul, Int.reduceToNat, Nat.reduceSub, Nat.reduceMul, Nat.reduceLeDiff, Nat.reduceAdd, Nat.reduceLT, Nat.reduceEqDiff, reduceCtorEq, ↓reduceIte, rqs, beq_self_eq_true]
  refine call_by (c1) (by rfl) (by simp) ?_
  simp (disch := omega) only [wk, tis, Int.reduceNe, Int.reduceEq, Int.reduceLT, Int.reduceLE, Int.reduceAdd, Int.reduceSub, Int.reduceNeg, Int.reduceMul, Int.reduceToNat, Nat.reduceSub, Nat.reduceMul, Nat.reduceLeDiff, Nat.reduceAdd, Nat.reduceLT, Nat.reduceEqDiff, reduceCtorEq, ↓reduceIte, rqs, beq_self_eq_true]
  refine call_by (g2) (by rfl) (by simp) ?_
  simp (disch := omega) only [wk, tis, Int.reduceNe, Int.reduceEq, Int.reduceLT, Int.reduceLE, Int.reduceAdd, Int.reduceSub, Int.reduceNeg, Int.reduceMul, Int.reduceToNat, Nat.reduceSub, Nat.reduceMul, Nat.reduceLeDiff, Nat.reduceAdd, Nat.reduceLT, Nat.reduceEqDiff, reduceCtorEq, ↓reduceIte, rqs, beq_self_eq_true]
  try rfl

set_option maxRecDepth 100000 in
set_option maxHeartbeats 1000000 in
theorem forms_good (p r : List RQ) (n : Int) (hp : BQ (2 ^ 20) (2 ^ 20) p) (hr : BQ (2 ^ 20) (2 ^ 20) r) (hg : gd p = true) : AC Tryz.prog 6 [cqw p, cqw r, ci n] none [cb true] := by
  have hp' : BQ (2 ^ 40) (2 ^ 38) p := hp.mono (by omega) (by omega)
  have hr' : BQ (2 ^ 40) (2 ^ 38) r := hr.mono (by omega) (by omega)
  have hG := hp'.gq hg
  have hl := hp.1
  have g1 := qgood_ok p (hp.mono (by omega) (by omega))
  have g2 := tgood_ok p hp'
  rw [hg] at g1 g2
  have gr := tgood_ok r hr'
  have i1 := qisnorm_ok p hp'
  have i2 := tisnorm_ok p hp'
  generalize (gd p && decide (p = cqs (qvs p))) = I at i1 i2
  have n1 := tnorm_ok p hG
  have n2 := qpnorm_ok p hG
  have fp := tform_ok p hG
  have bA : BQ (2 ^ 40) (2 ^ 40) (cqs (qvs p)) := hG.qb.gqs.bq.mono (by omega) (by omega)
  have s0 := tsame_self bA
  have d1 := qdeg_ok p hG
  have c1 := qCoef_ok p n hG
  have hcl := cqs_len (qvs p)
  have htl := tzq_le (qvs p)
  rw [qvs_len] at htl
  have a1 := tat_ok (trimq (qvs p)) n (by rw [trimq_len]; omega)
  rw [cfq_trimq] at a1
  have zc : qz (if n < 0 then 0 else cfq (qvs p) n.toNat) ≤ 2 ^ 20 := by
    split
    · rw [qz_zero]; omega
    · exact (GQ.qb (hp.gq hg)).cz (by omega) _
  have sc := same_self (szq_crat (k := 2 ^ 43) (Nat.le_trans zc (by omega)))
  generalize (if n < 0 then 0 else cfq (qvs p) n.toNat) = v at *
  have p36 := hP_ok 3 6 (by omega) (by omega) (by omega) (by omega)
  have z36 : qz (((3 : Int) : Rat) / ((6 : Nat) : Rat)) ≤ 1 := by decide +kernel
  -- the second polynomial
  have S : ∃ b e, AC Tryz.prog 44 [cqw p, cqw r] none [cb b, ci e] ∧ ((gd r = false ∧ b = false ∧ e = 1) ∨ (gd r = true ∧ e = 0 ∧ AC Tryz.prog 51 [cqw r] none [cqp (qvs r)] ∧ AC Tryz.prog 28 [cqp (qvs p), cqp (qvs r)] none [cb b])) := by
    cases hgr : gd r with
    | false => exact ⟨false, 1, qsame_bad p r hp' hr' (.inr hgr), .inl ⟨rfl, rfl, rfl⟩⟩
    | true =>
      have hR := hr'.gq hgr
      exact ⟨_, 0, qsame_ok p r hG hR, .inr ⟨rfl, rfl, tform_ok r hR, tsameq_ok _ _ bA (hR.qb.gqs.bq.mono (by omega) (by omega))⟩⟩
  obtain ⟨b, e, s1, s2⟩ := S
  have X : ∃ x : RQ, SzQ (2 ^ 38) x ∧ (p.length = 0 ∧ x = crat (((3 : Int) : Rat) / ((6 : Nat) : Rat)) ∨ 0 < p.length ∧ x = p.getD 0 q0) := by
    rcases Nat.eq_zero_or_pos p.length with h | h
    · exact ⟨_, szq_crat (Nat.le_trans z36 (by omega)), .inl ⟨h, rfl⟩⟩
    · exact ⟨_, (hp.get h).mono (by omega), .inr ⟨h, rfl⟩⟩
  obtain ⟨x, hx, hx2⟩ := X
  obtain ⟨m, f, bm, mo1, mo2⟩ := mono_both x n hx
  have mo3 := tsame_self bm
  refine AC.by_walk (rs := [.tmp 6]) ords Tryz.func6 (by rfl) (by rfl) (by rfl) (by rfl) (by rfl) ?_
  simp (disch := omega) only [wk, tis, Int.reduceNe, Int.reduceEq, Int.reduceLT, Int.reduceLE, Int.reduceAdd, Int.reduceSub, Int.reduceNeg, Int.reduceMul, Int.reduceToNat, Nat.reduceSub, Nat.reduceMul, Nat.reduceLeDiff, Nat.reduceAdd, Nat.reduceLT, Nat.reduceEqDiff, reduceCtorEq, ↓reduceIte, rqs, beq_self_eq_true]
  refine call_by (known_ok) (by rfl) (by simp) ?_
  simp (disch := omega) only [wk, tis, Int.reduceNe, Int.reduceEq, Int.reduceLT, Int.reduceLE, Int.reduceAdd, Int.reduceSub, Int.reduceNeg, Int.reduceMul, Int.reduceToNat, Nat.reduceSub, Nat.reduceMul, Nat.reduceLeDiff, Nat.reduceAdd, Nat.reduceLT, Nat.reduceEqDiff, reduceCtorEq, ↓reduceIte, rqs, beq_self_eq_true]
  refine call_by (g1) (by rfl) (by simp) ?_
  simp (disch := omega) only [wk, tis, Int.reduceNe, Int.reduceEq, Int.reduceLT, Int.reduceLE, Int.reduceAdd, Int.reduceSub, Int.reduceNeg, Int.reduceMul, Int.reduceToNat, Nat.reduceSub, Nat.reduceMul, Nat.reduceLeDiff, Nat.reduceAdd, Nat.reduceLT, Nat.reduceEqDiff, reduceCtorEq, ↓reduceIte, rqs, beq_self_eq_true]
  refine call_by (g2) (by rfl) (by simp) ?_
  simp (disch := omega) only [wk, tis, Int.reduceNe, Int.reduceEq, Int.reduceLT, Int.reduceLE, Int.reduceAdd, Int.reduceSub, Int.reduceNeg, Int.reduceMul, Int.reduceToNat, Nat.reduceSub, Nat.reduceMul, Nat.reduceLeDiff, Nat.reduceAdd, Nat.reduceLT, Nat.reduceEqDiff, reduceCtorEq, ↓reduceIte, rqs, beq_self_eq_true]
  refine call_by (i1) (by rfl) (by simp) ?_
  simp (disch := omega) only [wk, tis, Int.reduceNe, Int.reduceEq, Int.reduceLT, Int.reduceLE, Int.reduceAdd, Int.reduceSub, Int.reduceNeg, Int.reduceMul, Int.reduceToNat, Nat.reduceSub, Nat.reduceMul, Nat.reduceLeDiff, Nat.reduceAdd, Nat.reduceLT, Nat.reduceEqDiff, reduceCtorEq, ↓reduceIte, rqs, beq_self_eq_true]
  refine call_by (i2) (by rfl) (by simp) ?_
  simp (disch := omega) only [wk, tis, Int.reduceNe, Int.reduceEq, Int.reduceLT, Int.reduceLE, Int.reduceAdd, Int.reduceSub, Int.reduceNeg, Int.reduceMul, Int.reduceToNat, Nat.reduceSub, Nat.reduceMul, Nat.reduceLeDiff, Nat.reduceAdd, Nat.reduceLT, Nat.reduceEqDiff, reduceCtorEq, ↓reduceIte, rqs, beq_self_eq_true]
  refine call_by (n1) (by rfl) (by simp) ?_
  simp (disch := omega) only [wk, tis, Int.reduceNe, Int.reduceEq, Int.reduceLT, Int.reduceLE, Int.reduceAdd, Int.reduceSub, Int.reduceNeg, Int.reduceMul, Int.reduceToNat, Nat.reduceSub, Nat.reduceMul, Nat.reduceLeDiff, Nat.reduceAdd, Nat.reduceLT, Nat.reduceEqDiff, reduceCtorEq, ↓reduceIte, rqs, beq_self_eq_true]
  refine call_by (n2) (by rfl) (by simp) ?_
  simp (disch := omega) only [wk, tis, Int.reduceNe, Int.reduceEq, Int.reduceLT, Int.reduceLE, Int.reduceAdd, Int.reduceSub, Int.reduceNeg, Int.reduceMul, Int.reduceToNat, Nat.reduceSub, Nat.reduceMul, Nat.reduceLeDiff, Nat.reduceAdd, Nat.reduceLT, Nat.reduceEqDiff, reduceCtorEq, ↓reduceIte, rqs, beq_self_eq_true]
  refine call_by (s0) (by rfl) (by simp) ?_
  simp (disch := omega) only [wk, tis, Int.reduceNe, Int.reduceEq, Int.reduceLT, Int.reduceLE, Int.reduceAdd, Int.reduceSub, Int.reduceNeg, Int.reduceMul, Int.reduceToNat, Nat.reduceSub, Nat.reduceMul, Nat.reduceLeDiff, Nat.reduceAdd, Nat.reduceLT, Nat.reduceEqDiff, reduceCtorEq, ↓reduceIte, rqs, beq_self_eq_true]
  refine call_by (s1) (by rfl) (by simp) ?_
  simp (disch := omega) only [wk, tis, Int.reduceNe, Int.reduceEq, Int.reduceLT, Int.reduceLE, Int.reduceAdd, Int.reduceSub, Int.reduceNeg, Int.reduceMul, Int.reduceToNat, Nat.reduceSub, Nat.reduceMul, Nat.reduceLeDiff, Nat.reduceAdd, Nat.reduceLT, Nat.reduceEqDiff, reduceCtorEq, ↓reduceIte, rqs, beq_self_eq_true]
  refine call_by (d1) (by rfl) (by simp) ?_
  simp (disch := omega) only [wk, tis, Int.reduceNe, Int.reduceEq, Int.reduceLT, Int.reduceLE, Int.reduceAdd, Int.reduceSub, Int.reduceNeg, Int.reduceMul, Int.reduceToNat, Nat.reduceSub, Nat.reduceMul, Nat.reduceLeDiff, Nat.reduceAdd, Nat.reduceLT, Nat.reduceEqDiff, reduceCtorEq, ↓reduceIte, rqs, beq_self_eq_true]
  refine call_by (c1) (by rfl) (by simp) ?_
  simp (disch := omega) only [wk, tis, Int.reduceNe, Int.reduceEq, Int.reduceLT, Int.reduceLE, Int.reduceAdd, Int.reduceSub, Int.reduceNeg, Int.reduceMul, Int.reduceToNat, Nat.reduceSub, Nat.reduceMul, Nat.reduceLeDiff, Nat.reduceAdd, Nat.reduceLT, Nat.reduceEqDiff, reduceCtorEq, ↓reduceIte, rqs, beq_self_eq_true]
  refine call_by (g2) (by rfl) (by simp) ?_
  simp (disch := omega) only [wk, tis, Int.reduceNe, Int.reduceEq, Int.reduceLT, Int.reduceLE, Int.reduceAdd, Int.reduceSub, Int.reduceNeg, Int.reduceMul, Int.reduceToNat, Nat.reduceSub, Nat.reduceMul, Nat.reduceLeDiff, Nat.reduceAdd, Nat.reduceLT, Nat.reduceEqDiff, reduceCtorEq, ↓reduceIte, rqs, beq_self_eq_true]
  simp (disch := omega) only [wk, tis, Int.reduceNe, Int.reduceEq, Int.reduceLT, Int.reduceLE, Int.reduceAdd, Int.reduceSub, Int.reduceNeg, Int.reduceMul, Int.reduceToNat, Nat.reduceSub, Nat.reduceMul, Nat.reduceLeDiff, Nat.reduceAdd, Nat.reduceLT, Nat.reduceEqDiff, reduceCtorEq, ↓reduceIte, rqs, beq_self_eq_true, hcl]
  refine ⟨tmps_by (by kernel_rfl), ?_⟩
  refine call_by (a1) (by first | rfl | (simp only [tocvs, tocv, hcl]; rfl) | (simp only [tocvs, tocv, toboxes, tobox, updH_at, Nat.reduceEqDiff, ↓reduceIte, hcl]; rfl)) (by simp) ?_
  simp (disch := omega) only [wk, tis, Int.reduceNe, Int.reduceEq, Int.reduceLT, Int.reduceLE, Int.reduceAdd, Int.reduceSub, Int.reduceNeg, Int.reduceMul, Int.reduceToNat, Nat.reduceSub, Nat.reduceMul, Nat.reduceLeDiff, Nat.reduceAdd, Nat.reduceLT, Nat.reduceEqDiff, reduceCtorEq, ↓reduceIte, rqs, beq_self_eq_true, hcl]
  refine call_by (sc) (by first | rfl | (simp only [tocvs, tocv, hcl]; rfl) | (simp only [tocvs, tocv, toboxes, tobox, updH_at, Nat.reduceEqDiff, ↓reduceIte, hcl]; rfl)) (by simp) ?_
  simp (disch := omega) only [wk, tis, Int.reduceNe, Int.reduceEq, Int.reduceLT, Int.reduceLE, Int.reduceAdd, Int.reduceSub, Int.reduceNeg, Int.reduceMul, Int.reduceToNat, Nat.reduceSub, Nat.reduceMul, Nat.reduceLeDiff, Nat.reduceAdd, Nat.reduceLT, Nat.reduceEqDiff, reduceCtorEq, ↓reduceIte, rqs, beq_self_eq_true, hcl]
  first | exact log_by (by kernel_rfl) | refine ⟨log_by (by kernel_rfl), ?_⟩
  refine call_by (p36) (by first | rfl | (simp only [tocvs, tocv, hcl]; rfl) | (simp only [tocvs, tocv, toboxes, tobox, updH_at, Nat.reduceEqDiff, ↓reduceIte, hcl]; rfl)) (by simp) ?_
  simp (disch := omega) only [wk, tis, Int.reduceNe, Int.reduceEq, Int.reduceLT, Int.reduceLE, Int.reduceAdd, Int.reduceSub, Int.reduceNeg, Int.reduceMul, Int.reduceToNat, Nat.reduceSub, Nat.reduceMul, Nat.reduceLeDiff, Nat.reduceAdd, Nat.reduceLT, Nat.reduceEqDiff, reduceCtorEq, ↓reduceIte, rqs, beq_self_eq_true, hcl]
  rcases hx2 with ⟨hl0, rfl⟩ | ⟨hl0, rfl⟩
  · have h0' : ¬ 0 < (p.length : Int) := by omega
    simp (disch := omega) only [wk, tis, Int.reduceNe, Int.reduceEq, Int.reduceLT, Int.reduceLE, Int.reduceAdd, Int.reduceSub, Int.reduceNeg, Int.reduceMul, Int.reduceToNat, Nat.reduceSub, Nat.reduceMul, Nat.reduceLeDiff, Nat.reduceAdd, Nat.reduceLT, Nat.reduceEqDiff, reduceCtorEq, ↓reduceIte, rqs, beq_self_eq_true, h0', hcl]
    refine call_by (mo1) (by first | rfl | (simp only [tocvs, tocv, hcl]; rfl) | (simp only [tocvs, tocv, toboxes, tobox, updH_at, Nat.reduceEqDiff, ↓reduceIte, hcl]; rfl)) (by simp) ?_
    simp (disch := omega) only [wk, tis, Int.reduceNe, Int.reduceEq, Int.reduceLT, Int.reduceLE, Int.reduceAdd, Int.reduceSub, Int.reduceNeg, Int.reduceMul, Int.reduceToNat, Nat.reduceSub, Nat.reduceMul, Nat.reduceLeDiff, Nat.reduceAdd, Nat.reduceLT, Nat.reduceEqDiff, reduceCtorEq, ↓reduceIte, rqs, beq_self_eq_true, hcl]
    refine call_by (mo2) (by first | rfl | (simp only [tocvs, tocv, hcl]; rfl) | (simp only [tocvs, tocv, toboxes, tobox, updH_at, Nat.reduceEqDiff, ↓reduceIte, hcl]; rfl)) (by simp) ?_
    simp (disch := omega) only [wk, tis, Int.reduceNe, Int.reduceEq, Int.reduceLT, Int.reduceLE, Int.reduceAdd, Int.reduceSub, Int.reduceNeg, Int.reduceMul, Int.reduceToNat, Nat.reduceSub, Nat.reduceMul, Nat.reduceLeDiff, Nat.reduceAdd, Nat.reduceLT, Nat.reduceEqDiff, reduceCtorEq, ↓reduceIte, rqs, beq_self_eq_true, hcl]
    refine call_by (mo3) (by first | rfl | (simp only [tocvs, tocv, hcl]; rfl) | (simp only [tocvs, tocv, toboxes, tobox, updH_at, Nat.reduceEqDiff, ↓reduceIte, hcl]; rfl)) (by simp) ?_
    simp (disch := omega) only [wk, tis, Int.reduceNe, Int.reduceEq, Int.reduceLT, Int.reduceLE, Int.reduceAdd, Int.reduceSub, Int.reduceNeg, Int.reduceMul, Int.reduceToNat, Nat.reduceSub, Nat.reduceMul, Nat.reduceLeDiff, Nat.reduceAdd, Nat.reduceLT, Nat.reduceEqDiff, reduceCtorEq, ↓reduceIte, rqs, beq_self_eq_true, hcl]
    rcases s2 with ⟨hgr, rfl, rfl⟩ | ⟨hgr, rfl, fr, sr⟩
    · rw [hgr] at gr
      refine call_by (gr) (by first | rfl | (simp only [tocvs, tocv, hcl]; rfl) | (simp only [tocvs, tocv, toboxes, tobox, updH_at, Nat.reduceEqDiff, ↓reduceIte, hcl]; rfl)) (by simp) ?_
      simp (disch := omega) only [wk, tis, Int.reduceNe, Int.reduceEq, Int.reduceLT, Int.reduceLE, Int.reduceAdd, Int.reduceSub, Int.reduceNeg, Int.reduceMul, Int.reduceToNat, Nat.reduceSub, Nat.reduceMul, Nat.reduceLeDiff, Nat.reduceAdd, Nat.reduceLT, Nat.reduceEqDiff, reduceCtorEq, ↓reduceIte, rqs, beq_self_eq_true, hcl]
      try rfl
    · rw [hgr] at gr
      refine call_by (gr) (by first | rfl | (simp only [tocvs, tocv, hcl]; rfl) | (simp only [tocvs, tocv, toboxes, tobox, updH_at, Nat.reduceEqDiff, ↓reduceIte, hcl]; rfl)) (by simp) ?_
      simp (disch := omega) only [wk, tis, Int.reduceNe, Int.reduceEq, Int.reduceLT, Int.reduceLE, Int.reduceAdd, Int.reduceSub, Int.reduceNeg, Int.reduceMul, Int.reduceToNat, Nat.reduceSub, Nat.reduceMul, Nat.reduceLeDiff, Nat.reduceAdd, Nat.reduceLT, Nat.reduceEqDiff, reduceCtorEq, ↓reduceIte, rqs, beq_self_eq_true, hcl]
      refine call_by (fp) (by first | rfl | (simp only [tocvs, tocv, hcl]; rfl) | (simp only [tocvs, tocv, toboxes, tobox, updH_at, Nat.reduceEqDiff, ↓reduceIte, hcl]; rfl)) (by simp) ?_
      simp (disch := omega) only [wk, tis, Int.reduceNe, Int.reduceEq, Int.reduceLT, Int.reduceLE, Int.reduceAdd, Int.reduceSub, Int.reduceNeg, Int.reduceMul, Int.reduceToNat, Nat.reduceSub, Nat.reduceMul, Nat.reduceLeDiff, Nat.reduceAdd, Nat.reduceLT, Nat.reduceEqDiff, reduceCtorEq, ↓reduceIte, rqs, beq_self_eq_true, hcl]
      refine call_by (fr) (by first | rfl | (simp only [tocvs, tocv, hcl]; rfl) | (simp only [tocvs, tocv, toboxes, tobox, updH_at, Nat.reduceEqDiff, ↓reduceIte, hcl]; rfl)) (by simp) ?_
      simp (disch := omega) only [wk, tis, Int.reduceNe, Int.reduceEq, Int.reduceLT, Int.reduceLE, Int.reduceAdd, Int.reduceSub, Int.reduceNeg, Int.reduceMul, Int.reduceToNat, Nat.reduceSub, Nat.reduceMul, Nat.reduceLeDiff, Nat.reduceAdd, Nat.reduceLT, Nat.reduceEqDiff, reduceCtorEq, ↓reduceIte, rqs, beq_self_eq_true, hcl]
      refine call_by (sr) (by first | rfl | (simp only [tocvs, tocv, hcl]; rfl) | (simp only [tocvs, tocv, toboxes, tobox, updH_at, Nat.reduceEqDiff, ↓reduceIte, hcl]; rfl)) (by simp) ?_
      simp (disch := omega) only [wk, tis, Int.reduceNe, Int.reduceEq, Int.reduceLT, Int.reduceLE, Int.reduceAdd, Int.reduceSub, Int.reduceNeg, Int.reduceMul, Int.reduceToNat, Nat.reduceSub, Nat.reduceMul, Nat.reduceLeDiff, Nat.reduceAdd, Nat.reduceLT, Nat.reduceEqDiff, reduceCtorEq, ↓reduceIte, rqs, beq_self_eq_true, hcl]
      first | done | rfl | (cases b <;> rfl)
  · have h0' : 0 < (p.length : Int) := by omega
    simp (disch := omega) only [wk, tis, Int.reduceNe, Int.reduceEq, Int.reduceLT, Int.reduceLE, Int.reduceAdd, Int.reduceSub, Int.reduceNeg, Int.reduceMul, Int.reduceToNat, Nat.reduceSub, Nat.reduceMul, Nat.reduceLeDiff, Nat.reduceAdd, Nat.reduceLT, Nat.reduceEqDiff, reduceCtorEq, ↓reduceIte, rqs, beq_self_eq_true, h0', hcl]
    refine call_by (mo1) (by first | rfl | (simp only [tocvs, tocv, hcl]; rfl) | (simp only [tocvs, tocv, toboxes, tobox, updH_at, Nat.reduceEqDiff, ↓reduceIte, hcl]; rfl)) (by simp) ?_
    simp (disch := omega) only [wk, tis, Int.reduceNe, Int.reduceEq, Int.reduceLT, Int.reduceLE, Int.reduceAdd, Int.reduceSub, Int.reduceNeg, Int.reduceMul, Int.reduceToNat, Nat.reduceSub, Nat.reduceMul, Nat.reduceLeDiff, Nat.reduceAdd, Nat.reduceLT, Nat.reduceEqDiff, reduceCtorEq, ↓reduceIte, rqs, beq_self_eq_true, hcl]
    refine call_by (mo2) (by first | rfl | (simp only [tocvs, tocv, hcl]; rfl) | (simp only [tocvs, tocv, toboxes, tobox, updH_at, Nat.reduceEqDiff, ↓reduceIte, hcl]; rfl)) (by simp) ?_
    simp (disch := omega) only [wk, tis, Int.reduceNe, Int.reduceEq, Int.reduceLT, Int.reduceLE, Int.reduceAdd, Int.reduceSub, Int.reduceNeg, Int.reduceMul, Int.reduceToNat, Nat.reduceSub, Nat.reduceMul, Nat.reduceLeDiff, Nat.reduceAdd, Nat.reduceLT, Nat.reduceEqDiff, reduceCtorEq, ↓reduceIte, rqs, beq_self_eq_true, hcl]
    refine call_by (mo3) (by first | rfl | (simp only [tocvs, tocv, hcl]; rfl) | (simp only [tocvs, tocv, toboxes, tobox, updH_at, Nat.reduceEqDiff, ↓reduceIte, hcl]; rfl)) (by simp) ?_
    simp (disch := omega) only [wk, tis, Int.reduceNe, Int.reduceEq, Int.reduceLT, Int.reduceLE, Int.reduceAdd, Int.reduceSub, Int.reduceNeg, Int.reduceMul, Int.reduceToNat, Nat.reduceSub, Nat.reduceMul, Nat.reduceLeDiff, Nat.reduceAdd, Nat.reduceLT, Nat.reduceEqDiff, reduceCtorEq, ↓reduceIte, rqs, beq_self_eq_true, hcl]
    rcases s2 with ⟨hgr, rfl, rfl⟩ | ⟨hgr, rfl, fr, sr⟩
    · rw [hgr] at gr
      refine call_by (gr) (by first | rfl | (simp only [tocvs, tocv, hcl]; rfl) | (simp only [tocvs, tocv, toboxes, tobox, updH_at, Nat.reduceEqDiff, ↓reduceIte, hcl]; rfl)) (by simp) ?_
      simp (disch := omega) only [wk, tis, Int.reduceNe, Int.reduceEq, Int.reduceLT, Int.reduceLE, Int.reduceAdd, Int.reduceSub, Int.reduceNeg, Int.reduceMul, Int.reduceToNat, Nat.reduceSub, Nat.reduceMul, Nat.reduceLeDiff, Nat.reduceAdd, Nat.reduceLT, Nat.reduceEqDiff, reduceCtorEq, ↓reduceIte, rqs, beq_self_eq_true, hcl]
      try rfl
    · rw [hgr] at gr
      refine call_by (gr) (by first | rfl | (simp only [tocvs, tocv, hcl]; rfl) | (simp only [tocvs, tocv, toboxes, tobox, updH_at, Nat.reduceEqDiff, ↓reduceIte, hcl]; rfl)) (by simp) ?_
      simp (disch := omega) only [wk, tis, Int.reduceNe, Int.reduceEq, Int.reduceLT, Int.reduceLE, Int.reduceAdd, Int.reduceSub, Int.reduceNeg, Int.reduceMul, Int.reduceToNat, Nat.reduceSub, Nat.reduceMul, Nat.reduceLeDiff, Nat.reduceAdd, Nat.reduceLT, Nat.reduceEqDiff, reduceCtorEq, ↓reduceIte, rqs, beq_self_eq_true, hcl]
      refine call_by (fp) (by first | rfl | (simp only [tocvs, tocv, hcl]; rfl) | (simp only [tocvs, tocv, toboxes, tobox, updH_at, Nat.reduceEqDiff, ↓reduceIte, hcl]; rfl)) (by simp) ?_
      simp (disch := omega) only [wk, tis, Int.reduceNe, Int.reduceEq, Int.reduceLT, Int.reduceLE, Int.reduceAdd, Int.reduceSub, Int.reduceNeg, Int.reduceMul, Int.reduceToNat, Nat.reduceSub, Nat.reduceMul, Nat.reduceLeDiff, Nat.reduceAdd, Nat.reduceLT, Nat.reduceEqDiff, reduceCtorEq, ↓reduceIte, rqs, beq_self_eq_true, hcl]
      refine call_by (fr) (by first | rfl | (simp only [tocvs, tocv, hcl]; rfl) | (simp only [tocvs, tocv, toboxes, tobox, updH_at, Nat.reduceEqDiff, ↓reduceIte, hcl]; rfl)) (by simp) ?_
      simp (disch := omega) only [wk, tis, Int.reduceNe, Int.reduceEq, Int.reduceLT, Int.reduceLE, Int.reduceAdd, Int.reduceSub, Int.reduceNeg, Int.reduceMul, Int.reduceToNat, Nat.reduceSub, Nat.reduceMul, Nat.reduceLeDiff, Nat.reduceAdd, Nat.reduceLT, Nat.reduceEqDiff, reduceCtorEq, ↓reduceIte, rqs, beq_self_eq_true, hcl]
      refine call_by (sr) (by first | rfl | (simp only [tocvs, tocv, hcl]; rfl) | (simp only [tocvs, tocv, toboxes, tobox, updH_at, Nat.reduceEqDiff, ↓reduceIte, hcl]; rfl)) (by simp) ?_
      simp (disch := omega) only [wk, tis, Int.reduceNe, Int.reduceEq, Int.reduceLT, Int.reduceLE, Int.reduceAdd, Int.reduceSub, Int.reduceNeg, Int.reduceMul, Int.reduceToNat, Nat.reduceSub, Nat.reduceMul, Nat.reduceLeDiff, Nat.reduceAdd, Nat.reduceLT, Nat.reduceEqDiff, reduceCtorEq, ↓reduceIte, rqs, beq_self_eq_true, hcl]
      first | done | rfl | (cases b <;> rfl)

theorem forms_law (p r : List RQ) (n : Int) (hp : BQ 1048576 1048576 p) (hr : BQ 1048576 1048576 r) (hn1 : -9223372036854775808 ≤ n) (hn2 : n ≤ 9223372036854775807) : AC Tryz.prog 6 [cqw p, cqw r, ci n] none [cb true] := by
  cases hg : gd p with
  | false => exact forms_bad p r n hp hr hg
  | true => exact forms_good p r n hp hr hg
end Go.Proofs.YtjadkhkgmdikiaaGreat

namespace Go.Proofs.YtjadkhkgmdikiaaGreat
open Go Go.Proofs Go.AL
set_option linter.unusedSimpArgs false
set_option linter.unusedVariables false

theorem six0 : [[IV.int .i64 0], [IV.int .i64 0], [IV.int .i64 0], [IV.int .i64 0], [IV.int .i64 0], [IV.int .i64 0]] = ilims (List.replicate 6 0) := rfl

theorem ilims_rows1 (l : List Int) : (∀ r ∈ ilims l, r.length = 1) ↔ True := by simp [ilims]
theorem range_6 : List.range 6 = [0, 1, 2, 3, 4, 5] := rfl

/-- .. of polynomials in their own form. -/
theorem isnorm_own (X : List Rat) (h : QB (2 ^ 40) (2 ^ 38) X) : AC Tryz.prog 40 [cqp X] none [cb true] := by
  have m := qisnorm_ok (cqs X) (h.gqs.bq)
  rw [h.gqs.gd, qvs_cqs, decide_eq_true (show cqs X = cqs (trimq X) by rw [cqs, cqs, trimq_trimq])] at m
  exact m
theorem tsame_own {X Y : List Rat} (hX : QB (2 ^ 40) (2 ^ 40) X) (e : pq X = pq Y) : AC Tryz.prog 28 [cqp X, cqp Y] none [cb true] := by
  rw [show cqp Y = cqp X from congrArg cqw (cqs_pq e.symm)]
  exact tsame_self hX.gqs.bq

theorem PQ.sub_add (f g : PQ) : f + g - g = f := by rw [PQ.sub_eq, PQ.add_assoc, PQ.add_neg, PQ.add_zero]

set_option maxRecDepth 100000 in
set_option maxHeartbeats 4000000 in
theorem laws10_good (a b c : List RQ) (ha : GQ 40 (2 ^ 20) a) (hb : GQ 40 (2 ^ 20) b) (hc : GQ 40 (2 ^ 20) c) (p q r : List RQ) (fa : AC Tryz.prog 31 [cqw p] none [cqw a]) (fb : AC Tryz.prog 31 [cqw q] none [cqw b]) (fc : AC Tryz.prog 31 [cqw r] none [cqw c]) : AC Tryz.prog 8 [cqw p, cqw q, cqw r] none [cb true] := by
  have ga := tgood_ok a (ha.bq.mono (by omega) (by omega))
  have gb := tgood_ok b (hb.bq.mono (by omega) (by omega))
  have gc := tgood_ok c (hc.bq.mono (by omega) (by omega))
  rw [ha.gd] at ga
  rw [hb.gd] at gb
  rw [hc.gd] at gc
  have qa := ha.qb
  have qb := hb.qb
  have qc := hc.qb
  have all6 := all0_ok 6 (by omega)
  -- sums and products
  have sQ : QB 40 (2 ^ 22) (addq (qvs a) (qvs b)) := .of (by simp only [addq, List.length_map, List.length_range]; have := qa.1; have := qb.1; omega) fun i => by
    rw [cfq_addq]
    have h1 := qz_add (cfq (qvs a) i) (cfq (qvs b) i)
    have h2 := qa.cz (by omega) i
    have h3 := qb.cz (by omega) i
    omega
  have mQ : ∀ {X Y : List Rat}, QB 40 (2 ^ 22) X → QB 40 (2 ^ 22) Y → QB 80 (2 ^ 29) (mulq X Y) := fun hX hY => (QB.mulq (n := 40) (k := 2 ^ 22) (M := 41 * 2 ^ 22 + 1) hX hY (by decide) (by omega) (by omega)).mono (by omega) (by omega)
  have mS : ∀ {X Y : List Rat}, QB 40 (2 ^ 20) X → QB 40 (2 ^ 20) Y → QB 80 (2 ^ 27) (mulq X Y) := fun hX hY => (QB.mulq (n := 40) (k := 2 ^ 20) (M := 41 * 2 ^ 20 + 1) hX hY (by decide) (by omega) (by omega)).mono (by omega) (by omega)
  have pQ := mS qa qb
  have xQ := mS qa qc
  have yQ := mS qb qc
  have nQ := qa.mono (n' := 2 ^ 40) (k' := 2 ^ 38) (by omega) (by omega)
  have s1 := qpadd_ok a b (2 ^ 20) (ha.mono (by omega) (by omega)) (hb.mono (by omega) (by omega)) (by omega) (by omega)
  have t1 := qpadd_ok b a (2 ^ 20) (hb.mono (by omega) (by omega)) (ha.mono (by omega) (by omega)) (by omega) (by omega)
  have u1 := qpsub_g (p := cqs (addq (qvs a) (qvs b))) (q := b) (K := 2 ^ 22) (sQ.gqs.mono (by omega) (by omega)) (hb.mono (by omega) (by omega)) (by omega) (by omega) (pq_cqs _) rfl
  have p1 := qpmul_ok a b 40 (2 ^ 20) ha hb (by omega) (by omega) (by omega)
  have r1 := qpmul_ok b a 40 (2 ^ 20) hb ha (by omega) (by omega) (by omega)
  have n1 := qpnorm_ok a (ha.mono (by omega) (by omega))
  have e1 := tsame_own (X := addq (qvs a) (qvs b)) (Y := addq (qvs b) (qvs a)) (sQ.mono (by omega) (by omega)) (by rw [pq_addq, pq_addq, PQ.add_comm])
  have e2 := tsame_own (X := mulq (qvs a) (qvs b)) (Y := mulq (qvs b) (qvs a)) (pQ.mono (by omega) (by omega)) (by rw [pq_mulq, pq_mulq, PQ.mul_comm])
  have eu : pq (subq (addq (qvs a) (qvs b)) (qvs b)) = pq (qvs a) := by rw [pq_subq, pq_addq, PQ.sub_add]
  rw [show cqp (subq (addq (qvs a) (qvs b)) (qvs b)) = cqp (qvs a) from congrArg cqw (cqs_pq eu)] at u1
  have e3 := tsame_self ((qa.gqs.bq).mono (n' := 2 ^ 40) (k' := 2 ^ 40) (by omega) (by omega))
  have i1 := isnorm_own (addq (qvs a) (qvs b)) (sQ.mono (by omega) (by omega))
  have i2 := isnorm_own (mulq (qvs a) (qvs b)) (pQ.mono (by omega) (by omega))
  -- distributive, associative
  have l1 := qpmul_g (p := cqs (addq (qvs a) (qvs b))) (q := c) (n := 40) (k := 2 ^ 22) (X := addq (qvs a) (qvs b)) (Y := qvs c) (sQ.gqs) (hc.mono (by omega) (by omega)) (by omega) (by omega) (by omega) (pq_cqs _) rfl
  have x1 := qpmul_ok a c 40 (2 ^ 20) ha hc (by omega) (by omega) (by omega)
  have y1 := qpmul_ok b c 40 (2 ^ 20) hb hc (by omega) (by omega) (by omega)
  have m1 := qpadd_g (p := cqs (mulq (qvs a) (qvs c))) (q := cqs (mulq (qvs b) (qvs c))) (K := 2 ^ 27) (xQ.gqs.mono (by omega) (by omega)) (yQ.gqs.mono (by omega) (by omega)) (by omega) (by omega) (pq_cqs _) (pq_cqs _)
  have pc1 := qpmul_g (p := cqs (mulq (qvs a) (qvs b))) (q := c) (n := 80) (k := 2 ^ 27) (X := mulq (qvs a) (qvs b)) (Y := qvs c) pQ.gqs (hc.mono (by omega) (by omega)) (by omega) (by omega) (by omega) (pq_cqs _) rfl
  have ay1 := qpmul_g (p := a) (q := cqs (mulq (qvs b) (qvs c))) (n := 80) (k := 2 ^ 27) (X := qvs a) (Y := mulq (qvs b) (qvs c)) (ha.mono (by omega) (by omega)) yQ.gqs (by omega) (by omega) (by omega) rfl (pq_cqs _)
  have lQ := mQ sQ (qc.mono (n' := 40) (k' := 2 ^ 22) (by omega) (by omega))
  have e4 := tsame_own (X := mulq (addq (qvs a) (qvs b)) (qvs c)) (Y := addq (mulq (qvs a) (qvs c)) (mulq (qvs b) (qvs c))) (lQ.mono (by omega) (by omega)) (by rw [pq_mulq, pq_addq, pq_addq, pq_mulq, pq_mulq, PQ.add_mul])
  have pcQ : QB 160 (2 ^ 36) (mulq (mulq (qvs a) (qvs b)) (qvs c)) := (QB.mulq (n := 80) (k := 2 ^ 27) (M := 81 * 2 ^ 27 + 1) pQ (qc.mono (by omega) (by omega)) (by decide) (by omega) (by omega)).mono (by omega) (by omega)
  have e5 := tsame_own (X := mulq (mulq (qvs a) (qvs b)) (qvs c)) (Y := mulq (qvs a) (mulq (qvs b) (qvs c))) (pcQ.mono (by omega) (by omega)) (by rw [pq_mulq, pq_mulq, pq_mulq, pq_mulq, PQ.mul_assoc])
  -- Leibniz
  have dp1 := qderiv_g (p := cqs (mulq (qvs a) (qvs b))) (n := 80) (k := 2 ^ 27) pQ.gqs (by omega) (by omega) (by omega) (pq_cqs _)
  have da1 := qderiv_ok a 40 (2 ^ 20) ha (by omega) (by omega) (by omega)
  have db1 := qderiv_ok b 40 (2 ^ 20) hb (by omega) (by omega) (by omega)
  have daQ := (qa.derq (by omega) (by omega)).mono (n' := 40) (k' := 2 ^ 22) (by omega) (by omega)
  have dbQ := (qb.derq (by omega) (by omega)).mono (n' := 40) (k' := 2 ^ 22) (by omega) (by omega)
  have f1 := qpmul_g (p := cqs (derq (qvs a))) (q := b) (n := 40) (k := 2 ^ 22) (X := derq (qvs a)) (Y := qvs b) daQ.gqs (hb.mono (by omega) (by omega)) (by omega) (by omega) (by omega) (pq_cqs _) rfl
  have g1 := qpmul_g (p := a) (q := cqs (derq (qvs b))) (n := 40) (k := 2 ^ 22) (X := qvs a) (Y := derq (qvs b)) (ha.mono (by omega) (by omega)) dbQ.gqs (by omega) (by omega) (by omega) rfl (pq_cqs _)
  have fQ := mQ daQ (qb.mono (n' := 40) (k' := 2 ^ 22) (by omega) (by omega))
  have gQ := mQ (qa.mono (n' := 40) (k' := 2 ^ 22) (by omega) (by omega)) dbQ
  have h1 := qpadd_g (p := cqs (mulq (derq (qvs a)) (qvs b))) (q := cqs (mulq (qvs a) (derq (qvs b)))) (K := 2 ^ 29) (fQ.gqs.mono (by omega) (by omega)) (gQ.gqs.mono (by omega) (by omega)) (by omega) (by omega) (pq_cqs _) (pq_cqs _)
  have dpQ := (pQ.derq (by omega) (by omega)).mono (n' := 2 ^ 40) (k' := 2 ^ 40) (by omega) (by omega)
  have e6 := tsame_own (X := derq (mulq (qvs a) (qvs b))) (Y := addq (mulq (derq (qvs a)) (qvs b)) (mulq (qvs a) (derq (qvs b)))) dpQ (by rw [pq_derq, pq_mulq, pq_addq, pq_mulq, pq_mulq, pq_derq, pq_derq, PQ.D_mul])
  -- integral
  have in1 := qintegral_ok a 40 (2 ^ 20) ha (by omega) (by omega) (by omega)
  have inQ := (qa.trimq.intq (by omega) (by omega)).mono (n' := 41) (k' := 2 ^ 22) (by omega) (by omega)
  have ba1 := qderiv_g (p := cqs (intq (trimq (qvs a)))) (n := 41) (k := 2 ^ 22) inQ.gqs (by omega) (by omega) (by omega) (pq_cqs _)
  rw [show cqp (derq (intq (trimq (qvs a)))) = cqp (qvs a) from congrArg cqw (cqs_ext fun k => by rw [derq_intq, cfq_trimq])] at ba1
  have lo1 := qCoef_ok (cqs (intq (trimq (qvs a)))) 0 (inQ.gqs.mono (by omega) (by omega))
  rw [qvs_cqs, cfq_trimq, show (if (0 : Int) < 0 then 0 else cfq (intq (trimq (qvs a))) (0 : Int).toNat) = 0 by
    rw [if_neg (by omega)]
    unfold intq
    split <;> rfl] at lo1
  have sl1 := hS_ok (crat 0) ((szq_crat (q := 0) (k := 2 ^ 40) (by rw [qz_zero]; omega)).1)
  rw [sgq_qv (nv_crat0 _), qv_crat, sgq_zero] at sl1
  have d1 := qdeg_ok (cqs (mulq (qvs a) (qvs b))) (pQ.gqs.mono (by omega) (by omega))
  rw [qvs_cqs, tzq_eq_of_cf (cfq_trimq _)] at d1
  have d2 := qdeg_ok a (ha.mono (by omega) (by omega))
  have d3 := qdeg_ok b (hb.mono (by omega) (by omega))
  have htd : (tzq (qvs a) = 0 ∨ tzq (qvs b) = 0) ∧ tzq (mulq (qvs a) (qvs b)) = 0 ∨ (tzq (qvs a) ≠ 0 ∧ tzq (qvs b) ≠ 0) ∧ tzq (mulq (qvs a) (qvs b)) = tzq (qvs a) + tzq (qvs b) - 1 := by
    by_cases h1 : tzq (qvs a) = 0
    · exact .inl ⟨.inl h1, tzq_mulq_zero (.inl h1)⟩
    · by_cases h2 : tzq (qvs b) = 0
      · exact .inl ⟨.inr h2, tzq_mulq_zero (.inr h2)⟩
      · exact .inr ⟨⟨h1, h2⟩, tzq_mulq h1 h2⟩
  have hta := tzq_le (qvs a)
  have htb := tzq_le (qvs b)
  have hta2 := qa.1
  have htb2 := qb.1
  generalize tzq (mulq (qvs a) (qvs b)) = tp at *
  generalize tzq (qvs a) = ta at *
  generalize tzq (qvs b) = tb at *
  refine AC.by_walk (rs := [.tmp 6]) ords Tryz.func8 (by rfl) (by rfl) (by rfl) (by rfl) (by rfl) ?_
  simp (disch := omega) only [wk, tis, Int.reduceNe, Int.reduceEq, Int.reduceLT, Int.reduceLE, Int.reduceAdd, Int.reduceSub, Int.reduceNeg, Int.reduceMul, Int.reduceToNat, Nat.reduceSub, Nat.reduceMul, Nat.reduceLeDiff, Nat.reduceAdd, Nat.reduceLT, Nat.reduceEqDiff, reduceCtorEq, ↓reduceIte, rqs, cqs_len]
  refine call_by (known_ok) (by rfl) (by simp) ?_
  simp (disch := omega) only [wk, tis, Int.reduceNe, Int.reduceEq, Int.reduceLT, Int.reduceLE, Int.reduceAdd, Int.reduceSub, Int.reduceNeg, Int.reduceMul, Int.reduceToNat, Nat.reduceSub, Nat.reduceMul, Nat.reduceLeDiff, Nat.reduceAdd, Nat.reduceLT, Nat.reduceEqDiff, reduceCtorEq, ↓reduceIte, rqs, cqs_len]
  refine call_by (fa) (by rfl) (by simp) ?_
  simp (disch := omega) only [wk, tis, Int.reduceNe, Int.reduceEq, Int.reduceLT, Int.reduceLE, Int.reduceAdd, Int.reduceSub, Int.reduceNeg, Int.reduceMul, Int.reduceToNat, Nat.reduceSub, Nat.reduceMul, Nat.reduceLeDiff, Nat.reduceAdd, Nat.reduceLT, Nat.reduceEqDiff, reduceCtorEq, ↓reduceIte, rqs, cqs_len]
  refine call_by (fb) (by rfl) (by simp) ?_
  simp (disch := omega) only [wk, tis, Int.reduceNe, Int.reduceEq, Int.reduceLT, Int.reduceLE, Int.reduceAdd, Int.reduceSub, Int.reduceNeg, Int.reduceMul, Int.reduceToNat, Nat.reduceSub, Nat.reduceMul, Nat.reduceLeDiff, Nat.reduceAdd, Nat.reduceLT, Nat.reduceEqDiff, reduceCtorEq, ↓reduceIte, rqs, cqs_len]
  refine call_by (fc) (by rfl) (by simp) ?_
  simp (disch := omega) only [wk, tis, Int.reduceNe, Int.reduceEq, Int.reduceLT, Int.reduceLE, Int.reduceAdd, Int.reduceSub, Int.reduceNeg, Int.reduceMul, Int.reduceToNat, Nat.reduceSub, Nat.reduceMul, Nat.reduceLeDiff, Nat.reduceAdd, Nat.reduceLT, Nat.reduceEqDiff, reduceCtorEq, ↓reduceIte, rqs, cqs_len]
  refine call_by (ga) (by rfl) (by simp) ?_
  simp (disch := omega) only [wk, tis, Int.reduceNe, Int.reduceEq, Int.reduceLT, Int.reduceLE, Int.reduceAdd, Int.reduceSub, Int.reduceNeg, Int.reduceMul, Int.reduceToNat, Nat.reduceSub, Nat.reduceMul, Nat.reduceLeDiff, Nat.reduceAdd, Nat.reduceLT, Nat.reduceEqDiff, reduceCtorEq, ↓reduceIte, rqs, cqs_len]
  refine call_by (gb) (by rfl) (by simp) ?_
  simp (disch := omega) only [wk, tis, Int.reduceNe, Int.reduceEq, Int.reduceLT, Int.reduceLE, Int.reduceAdd, Int.reduceSub, Int.reduceNeg, Int.reduceMul, Int.reduceToNat, Nat.reduceSub, Nat.reduceMul, Nat.reduceLeDiff, Nat.reduceAdd, Nat.reduceLT, Nat.reduceEqDiff, reduceCtorEq, ↓reduceIte, rqs, cqs_len]
  refine call_by (gc) (by rfl) (by simp) ?_
  simp (disch := omega) only [wk, tis, Int.reduceNe, Int.reduceEq, Int.reduceLT, Int.reduceLE, Int.reduceAdd, Int.reduceSub, Int.reduceNeg, Int.reduceMul, Int.reduceToNat, Nat.reduceSub, Nat.reduceMul, Nat.reduceLeDiff, Nat.reduceAdd, Nat.reduceLT, Nat.reduceEqDiff, reduceCtorEq, ↓reduceIte, rqs, cqs_len]
  refine call_by (s1) (by rfl) (by simp) ?_
  simp (disch := omega) only [wk, tis, Int.reduceNe, Int.reduceEq, Int.reduceLT, Int.reduceLE, Int.reduceAdd, Int.reduceSub, Int.reduceNeg, Int.reduceMul, Int.reduceToNat, Nat.reduceSub, Nat.reduceMul, Nat.reduceLeDiff, Nat.reduceAdd, Nat.reduceLT, Nat.reduceEqDiff, reduceCtorEq, ↓reduceIte, rqs, cqs_len]
  refine call_by (t1) (by rfl) (by simp) ?_
  simp (disch := omega) only [wk, tis, Int.reduceNe, Int.reduceEq, Int.reduceLT, Int.reduceLE, Int.reduceAdd, Int.reduceSub, Int.reduceNeg, Int.reduceMul, Int.reduceToNat, Nat.reduceSub, Nat.reduceMul, Nat.reduceLeDiff, Nat.reduceAdd, Nat.reduceLT, Nat.reduceEqDiff, reduceCtorEq, ↓reduceIte, rqs, cqs_len]
  refine call_by (u1) (by rfl) (by simp) ?_
  simp (disch := omega) only [wk, tis, Int.reduceNe, Int.reduceEq, Int.reduceLT, Int.reduceLE, Int.reduceAdd, Int.reduceSub, Int.reduceNeg, Int.reduceMul, Int.reduceToNat, Nat.reduceSub, Nat.reduceMul, Nat.reduceLeDiff, Nat.reduceAdd, Nat.reduceLT, Nat.reduceEqDiff, reduceCtorEq, ↓reduceIte, rqs, cqs_len]
  refine call_by (p1) (by rfl) (by simp) ?_
  simp (disch := omega) only [wk, tis, Int.reduceNe, Int.reduceEq, Int.reduceLT, Int.reduceLE, Int.reduceAdd, Int.reduceSub, Int.reduceNeg, Int.reduceMul, Int.reduceToNat, Nat.reduceSub, Nat.reduceMul, Nat.reduceLeDiff, Nat.reduceAdd, Nat.reduceLT, Nat.reduceEqDiff, reduceCtorEq, ↓reduceIte, rqs, cqs_len]
  refine call_by (r1) (by rfl) (by simp) ?_
  simp (disch := omega) only [wk, tis, Int.reduceNe, Int.reduceEq, Int.reduceLT, Int.reduceLE, Int.reduceAdd, Int.reduceSub, Int.reduceNeg, Int.reduceMul, Int.reduceToNat, Nat.reduceSub, Nat.reduceMul, Nat.reduceLeDiff, Nat.reduceAdd, Nat.reduceLT, Nat.reduceEqDiff, reduceCtorEq, ↓reduceIte, rqs, cqs_len]
  refine call_by (n1) (by first | rfl | (simp only [tocvs, tocv, six0, ilims_rows1, range_6]; rfl) | (simp only [tocvs, tocv, toboxes, tobox, updH_at, Nat.reduceEqDiff, ↓reduceIte, six0, ilims_rows1, range_6]; rfl)) (by simp) ?_
  simp (disch := omega) only [wk, tis, Int.reduceNe, Int.reduceEq, Int.reduceLT, Int.reduceLE, Int.reduceAdd, Int.reduceSub, Int.reduceNeg, Int.reduceMul, Int.reduceToNat, Nat.reduceSub, Nat.reduceMul, Nat.reduceLeDiff, Nat.reduceAdd, Nat.reduceLT, Nat.reduceEqDiff, reduceCtorEq, ↓reduceIte, rqs, cqs_len, six0, ilims_rows1, range_6]
  refine call_by (all6) (by first | rfl | (simp only [tocvs, tocv, six0, ilims_rows1, range_6]; rfl) | (simp only [tocvs, tocv, toboxes, tobox, updH_at, Nat.reduceEqDiff, ↓reduceIte, six0, ilims_rows1, range_6]; rfl)) (by simp) ?_
  simp (disch := omega) only [wk, tis, Int.reduceNe, Int.reduceEq, Int.reduceLT, Int.reduceLE, Int.reduceAdd, Int.reduceSub, Int.reduceNeg, Int.reduceMul, Int.reduceToNat, Nat.reduceSub, Nat.reduceMul, Nat.reduceLeDiff, Nat.reduceAdd, Nat.reduceLT, Nat.reduceEqDiff, reduceCtorEq, ↓reduceIte, rqs, cqs_len, six0, ilims_rows1, range_6]
  refine call_by (e1) (by rfl) (by simp) ?_
  simp (disch := omega) only [wk, tis, Int.reduceNe, Int.reduceEq, Int.reduceLT, Int.reduceLE, Int.reduceAdd, Int.reduceSub, Int.reduceNeg, Int.reduceMul, Int.reduceToNat, Nat.reduceSub, Nat.reduceMul, Nat.reduceLeDiff, Nat.reduceAdd, Nat.reduceLT, Nat.reduceEqDiff, reduceCtorEq, ↓reduceIte, rqs, cqs_len]
  refine call_by (e2) (by rfl) (by simp) ?_
  simp (disch := omega) only [wk, tis, Int.reduceNe, Int.reduceEq, Int.reduceLT, Int.reduceLE, Int.reduceAdd, Int.reduceSub, Int.reduceNeg, Int.reduceMul, Int.reduceToNat, Nat.reduceSub, Nat.reduceMul, Nat.reduceLeDiff, Nat.reduceAdd, Nat.reduceLT, Nat.reduceEqDiff, reduceCtorEq, ↓reduceIte, rqs, cqs_len]
  refine call_by (e3) (by rfl) (by simp) ?_
  simp (disch := omega) only [wk, tis, Int.reduceNe, Int.reduceEq, Int.reduceLT, Int.reduceLE, Int.reduceAdd, Int.reduceSub, Int.reduceNeg, Int.reduceMul, Int.reduceToNat, Nat.reduceSub, Nat.reduceMul, Nat.reduceLeDiff, Nat.reduceAdd, Nat.reduceLT, Nat.reduceEqDiff, reduceCtorEq, ↓reduceIte, rqs, cqs_len]
  refine call_by (i1) (by rfl) (by simp) ?_
  simp (disch := omega) only [wk, tis, Int.reduceNe, Int.reduceEq, Int.reduceLT, Int.reduceLE, Int.reduceAdd, Int.reduceSub, Int.reduceNeg, Int.reduceMul, Int.reduceToNat, Nat.reduceSub, Nat.reduceMul, Nat.reduceLeDiff, Nat.reduceAdd, Nat.reduceLT, Nat.reduceEqDiff, reduceCtorEq, ↓reduceIte, rqs, cqs_len]
  refine call_by (i2) (by rfl) (by simp) ?_
  simp (disch := omega) only [wk, tis, Int.reduceNe, Int.reduceEq, Int.reduceLT, Int.reduceLE, Int.reduceAdd, Int.reduceSub, Int.reduceNeg, Int.reduceMul, Int.reduceToNat, Nat.reduceSub, Nat.reduceMul, Nat.reduceLeDiff, Nat.reduceAdd, Nat.reduceLT, Nat.reduceEqDiff, reduceCtorEq, ↓reduceIte, rqs, cqs_len]
  refine call_by (l1) (by rfl) (by simp) ?_
  simp (disch := omega) only [wk, tis, Int.reduceNe, Int.reduceEq, Int.reduceLT, Int.reduceLE, Int.reduceAdd, Int.reduceSub, Int.reduceNeg, Int.reduceMul, Int.reduceToNat, Nat.reduceSub, Nat.reduceMul, Nat.reduceLeDiff, Nat.reduceAdd, Nat.reduceLT, Nat.reduceEqDiff, reduceCtorEq, ↓reduceIte, rqs, cqs_len]
  refine call_by (x1) (by rfl) (by simp) ?_
  simp (disch := omega) only [wk, tis, Int.reduceNe, Int.reduceEq, Int.reduceLT, Int.reduceLE, Int.reduceAdd, Int.reduceSub, Int.reduceNeg, Int.reduceMul, Int.reduceToNat, Nat.reduceSub, Nat.reduceMul, Nat.reduceLeDiff, Nat.reduceAdd, Nat.reduceLT, Nat.reduceEqDiff, reduceCtorEq, ↓reduceIte, rqs, cqs_len]
  refine call_by (y1) (by rfl) (by simp) ?_
  simp (disch := omega) only [wk, tis, Int.reduceNe, Int.reduceEq, Int.reduceLT, Int.reduceLE, Int.reduceAdd, Int.reduceSub, Int.reduceNeg, Int.reduceMul, Int.reduceToNat, Nat.reduceSub, Nat.reduceMul, Nat.reduceLeDiff, Nat.reduceAdd, Nat.reduceLT, Nat.reduceEqDiff, reduceCtorEq, ↓reduceIte, rqs, cqs_len]
  refine call_by (m1) (by rfl) (by simp) ?_
  simp (disch := omega) only [wk, tis, Int.reduceNe, Int.reduceEq, Int.reduceLT, Int.reduceLE, Int.reduceAdd, Int.reduceSub, Int.reduceNeg, Int.reduceMul, Int.reduceToNat, Nat.reduceSub, Nat.reduceMul, Nat.reduceLeDiff, Nat.reduceAdd, Nat.reduceLT, Nat.reduceEqDiff, reduceCtorEq, ↓reduceIte, rqs, cqs_len]
  refine call_by (pc1) (by rfl) (by simp) ?_
  simp (disch := omega) only [wk, tis, Int.reduceNe, Int.reduceEq, Int.reduceLT, Int.reduceLE, Int.reduceAdd, Int.reduceSub, Int.reduceNeg, Int.reduceMul, Int.reduceToNat, Nat.reduceSub, Nat.reduceMul, Nat.reduceLeDiff, Nat.reduceAdd, Nat.reduceLT, Nat.reduceEqDiff, reduceCtorEq, ↓reduceIte, rqs, cqs_len]
  refine call_by (ay1) (by first | rfl | (simp only [tocvs, tocv, six0, ilims_rows1, range_6]; rfl) | (simp only [tocvs, tocv, toboxes, tobox, updH_at, Nat.reduceEqDiff, ↓reduceIte, six0, ilims_rows1, range_6]; rfl)) (by simp) ?_
  simp (disch := omega) only [wk, tis, Int.reduceNe, Int.reduceEq, Int.reduceLT, Int.reduceLE, Int.reduceAdd, Int.reduceSub, Int.reduceNeg, Int.reduceMul, Int.reduceToNat, Nat.reduceSub, Nat.reduceMul, Nat.reduceLeDiff, Nat.reduceAdd, Nat.reduceLT, Nat.reduceEqDiff, reduceCtorEq, ↓reduceIte, rqs, cqs_len, six0, ilims_rows1, range_6]
  refine call_by (all6) (by first | rfl | (simp only [tocvs, tocv, six0, ilims_rows1, range_6]; rfl) | (simp only [tocvs, tocv, toboxes, tobox, updH_at, Nat.reduceEqDiff, ↓reduceIte, six0, ilims_rows1, range_6]; rfl)) (by simp) ?_
  simp (disch := omega) only [wk, tis, Int.reduceNe, Int.reduceEq, Int.reduceLT, Int.reduceLE, Int.reduceAdd, Int.reduceSub, Int.reduceNeg, Int.reduceMul, Int.reduceToNat, Nat.reduceSub, Nat.reduceMul, Nat.reduceLeDiff, Nat.reduceAdd, Nat.reduceLT, Nat.reduceEqDiff, reduceCtorEq, ↓reduceIte, rqs, cqs_len, six0, ilims_rows1, range_6]
  refine call_by (e4) (by rfl) (by simp) ?_
  simp (disch := omega) only [wk, tis, Int.reduceNe, Int.reduceEq, Int.reduceLT, Int.reduceLE, Int.reduceAdd, Int.reduceSub, Int.reduceNeg, Int.reduceMul, Int.reduceToNat, Nat.reduceSub, Nat.reduceMul, Nat.reduceLeDiff, Nat.reduceAdd, Nat.reduceLT, Nat.reduceEqDiff, reduceCtorEq, ↓reduceIte, rqs, cqs_len]
  refine call_by (e5) (by rfl) (by simp) ?_
  simp (disch := omega) only [wk, tis, Int.reduceNe, Int.reduceEq, Int.reduceLT, Int.reduceLE, Int.reduceAdd, Int.reduceSub, Int.reduceNeg, Int.reduceMul, Int.reduceToNat, Nat.reduceSub, Nat.reduceMul, Nat.reduceLeDiff, Nat.reduceAdd, Nat.reduceLT, Nat.reduceEqDiff, reduceCtorEq, ↓reduceIte, rqs, cqs_len]
  refine call_by (dp1) (by rfl) (by simp) ?_
  simp (disch := omega) only [wk, tis, Int.reduceNe, Int.reduceEq, Int.reduceLT, Int.reduceLE, Int.reduceAdd, Int.reduceSub, Int.reduceNeg, Int.reduceMul, Int.reduceToNat, Nat.reduceSub, Nat.reduceMul, Nat.reduceLeDiff, Nat.reduceAdd, Nat.reduceLT, Nat.reduceEqDiff, reduceCtorEq, ↓reduceIte, rqs, cqs_len]
  refine call_by (da1) (by rfl) (by simp) ?_
  simp (disch := omega) only [wk, tis, Int.reduceNe, Int.reduceEq, Int.reduceLT, Int.reduceLE, Int.reduceAdd, Int.reduceSub, Int.reduceNeg, Int.reduceMul, Int.reduceToNat, Nat.reduceSub, Nat.reduceMul, Nat.reduceLeDiff, Nat.reduceAdd, Nat.reduceLT, Nat.reduceEqDiff, reduceCtorEq, ↓reduceIte, rqs, cqs_len]
  refine call_by (db1) (by rfl) (by simp) ?_
  simp (disch := omega) only [wk, tis, Int.reduceNe, Int.reduceEq, Int.reduceLT, Int.reduceLE, Int.reduceAdd, Int.reduceSub, Int.reduceNeg, Int.reduceMul, Int.reduceToNat, Nat.reduceSub, Nat.reduceMul, Nat.reduceLeDiff, Nat.reduceAdd, Nat.reduceLT, Nat.reduceEqDiff, reduceCtorEq, ↓reduceIte, rqs, cqs_len]
  refine call_by (f1) (by rfl) (by simp) ?_
  simp (disch := omega) only [wk, tis, Int.reduceNe, Int.reduceEq, Int.reduceLT, Int.reduceLE, Int.reduceAdd, Int.reduceSub, Int.reduceNeg, Int.reduceMul, Int.reduceToNat, Nat.reduceSub, Nat.reduceMul, Nat.reduceLeDiff, Nat.reduceAdd, Nat.reduceLT, Nat.reduceEqDiff, reduceCtorEq, ↓reduceIte, rqs, cqs_len]
  refine call_by (g1) (by rfl) (by simp) ?_
  simp (disch := omega) only [wk, tis, Int.reduceNe, Int.reduceEq, Int.reduceLT, Int.reduceLE, Int.reduceAdd, Int.reduceSub, Int.reduceNeg, Int.reduceMul, Int.reduceToNat, Nat.reduceSub, Nat.reduceMul, Nat.reduceLeDiff, Nat.reduceAdd, Nat.reduceLT, Nat.reduceEqDiff, reduceCtorEq, ↓reduceIte, rqs, cqs_len]
  refine call_by (h1) (by first | rfl | (simp only [tocvs, tocv, six0, ilims_rows1, range_6]; rfl) | (simp only [tocvs, tocv, toboxes, tobox, updH_at, Nat.reduceEqDiff, ↓reduceIte, six0, ilims_rows1, range_6]; rfl)) (by simp) ?_
  simp (disch := omega) only [wk, tis, Int.reduceNe, Int.reduceEq, Int.reduceLT, Int.reduceLE, Int.reduceAdd, Int.reduceSub, Int.reduceNeg, Int.reduceMul, Int.reduceToNat, Nat.reduceSub, Nat.reduceMul, Nat.reduceLeDiff, Nat.reduceAdd, Nat.reduceLT, Nat.reduceEqDiff, reduceCtorEq, ↓reduceIte, rqs, cqs_len, six0, ilims_rows1, range_6]
  refine call_by (all6) (by first | rfl | (simp only [tocvs, tocv, six0, ilims_rows1, range_6]; rfl) | (simp only [tocvs, tocv, toboxes, tobox, updH_at, Nat.reduceEqDiff, ↓reduceIte, six0, ilims_rows1, range_6]; rfl)) (by simp) ?_
  simp (disch := omega) only [wk, tis, Int.reduceNe, Int.reduceEq, Int.reduceLT, Int.reduceLE, Int.reduceAdd, Int.reduceSub, Int.reduceNeg, Int.reduceMul, Int.reduceToNat, Nat.reduceSub, Nat.reduceMul, Nat.reduceLeDiff, Nat.reduceAdd, Nat.reduceLT, Nat.reduceEqDiff, reduceCtorEq, ↓reduceIte, rqs, cqs_len, six0, ilims_rows1, range_6]
  refine call_by (e6) (by rfl) (by simp) ?_
  simp (disch := omega) only [wk, tis, Int.reduceNe, Int.reduceEq, Int.reduceLT, Int.reduceLE, Int.reduceAdd, Int.reduceSub, Int.reduceNeg, Int.reduceMul, Int.reduceToNat, Nat.reduceSub, Nat.reduceMul, Nat.reduceLeDiff, Nat.reduceAdd, Nat.reduceLT, Nat.reduceEqDiff, reduceCtorEq, ↓reduceIte, rqs, cqs_len]
  refine call_by (in1) (by rfl) (by simp) ?_
  simp (disch := omega) only [wk, tis, Int.reduceNe, Int.reduceEq, Int.reduceLT, Int.reduceLE, Int.reduceAdd, Int.reduceSub, Int.reduceNeg, Int.reduceMul, Int.reduceToNat, Nat.reduceSub, Nat.reduceMul, Nat.reduceLeDiff, Nat.reduceAdd, Nat.reduceLT, Nat.reduceEqDiff, reduceCtorEq, ↓reduceIte, rqs, cqs_len]
  refine call_by (ba1) (by rfl) (by simp) ?_
  simp (disch := omega) only [wk, tis, Int.reduceNe, Int.reduceEq, Int.reduceLT, Int.reduceLE, Int.reduceAdd, Int.reduceSub, Int.reduceNeg, Int.reduceMul, Int.reduceToNat, Nat.reduceSub, Nat.reduceMul, Nat.reduceLeDiff, Nat.reduceAdd, Nat.reduceLT, Nat.reduceEqDiff, reduceCtorEq, ↓reduceIte, rqs, cqs_len]
  refine call_by (lo1) (by rfl) (by simp) ?_
  simp (disch := omega) only [wk, tis, Int.reduceNe, Int.reduceEq, Int.reduceLT, Int.reduceLE, Int.reduceAdd, Int.reduceSub, Int.reduceNeg, Int.reduceMul, Int.reduceToNat, Nat.reduceSub, Nat.reduceMul, Nat.reduceLeDiff, Nat.reduceAdd, Nat.reduceLT, Nat.reduceEqDiff, reduceCtorEq, ↓reduceIte, rqs, cqs_len]
  refine call_by (d1) (by rfl) (by simp) ?_
  simp (disch := omega) only [wk, tis, Int.reduceNe, Int.reduceEq, Int.reduceLT, Int.reduceLE, Int.reduceAdd, Int.reduceSub, Int.reduceNeg, Int.reduceMul, Int.reduceToNat, Nat.reduceSub, Nat.reduceMul, Nat.reduceLeDiff, Nat.reduceAdd, Nat.reduceLT, Nat.reduceEqDiff, reduceCtorEq, ↓reduceIte, rqs, cqs_len]
  refine call_by (d2) (by rfl) (by simp) ?_
  simp (disch := omega) only [wk, tis, Int.reduceNe, Int.reduceEq, Int.reduceLT, Int.reduceLE, Int.reduceAdd, Int.reduceSub, Int.reduceNeg, Int.reduceMul, Int.reduceToNat, Nat.reduceSub, Nat.reduceMul, Nat.reduceLeDiff, Nat.reduceAdd, Nat.reduceLT, Nat.reduceEqDiff, reduceCtorEq, ↓reduceIte, rqs, cqs_len]
  refine call_by (d3) (by first | rfl | (simp only [tocvs, tocv, six0, ilims_rows1, range_6]; rfl) | (simp only [tocvs, tocv, toboxes, tobox, updH_at, Nat.reduceEqDiff, ↓reduceIte, six0, ilims_rows1, range_6]; rfl)) (by simp) ?_
  simp (disch := omega) only [wk, tis, Int.reduceNe, Int.reduceEq, Int.reduceLT, Int.reduceLE, Int.reduceAdd, Int.reduceSub, Int.reduceNeg, Int.reduceMul, Int.reduceToNat, Nat.reduceSub, Nat.reduceMul, Nat.reduceLeDiff, Nat.reduceAdd, Nat.reduceLT, Nat.reduceEqDiff, reduceCtorEq, ↓reduceIte, rqs, cqs_len, six0, ilims_rows1, range_6]
  refine call_by (all6) (by first | rfl | (simp only [tocvs, tocv, six0, ilims_rows1, range_6]; rfl) | (simp only [tocvs, tocv, toboxes, tobox, updH_at, Nat.reduceEqDiff, ↓reduceIte, six0, ilims_rows1, range_6]; rfl)) (by simp) ?_
  simp (disch := omega) only [wk, tis, Int.reduceNe, Int.reduceEq, Int.reduceLT, Int.reduceLE, Int.reduceAdd, Int.reduceSub, Int.reduceNeg, Int.reduceMul, Int.reduceToNat, Nat.reduceSub, Nat.reduceMul, Nat.reduceLeDiff, Nat.reduceAdd, Nat.reduceLT, Nat.reduceEqDiff, reduceCtorEq, ↓reduceIte, rqs, cqs_len, six0, ilims_rows1, range_6]
  refine call_by (e3) (by rfl) (by simp) ?_
  simp (disch := omega) only [wk, tis, Int.reduceNe, Int.reduceEq, Int.reduceLT, Int.reduceLE, Int.reduceAdd, Int.reduceSub, Int.reduceNeg, Int.reduceMul, Int.reduceToNat, Nat.reduceSub, Nat.reduceMul, Nat.reduceLeDiff, Nat.reduceAdd, Nat.reduceLT, Nat.reduceEqDiff, reduceCtorEq, ↓reduceIte, rqs, cqs_len]
  rcases htd with ⟨hz, hp⟩ | ⟨⟨h1, h2⟩, hp⟩
  · subst hp
    by_cases h1 : ta = 0
    · subst h1
      refine call_by (sl1) (by rfl) (by simp) ?_
      simp (disch := omega) only [wk, tis, Int.reduceNe, Int.reduceEq, Int.reduceLT, Int.reduceLE, Int.reduceAdd, Int.reduceSub, Int.reduceNeg, Int.reduceMul, Int.reduceToNat, Nat.reduceSub, Nat.reduceMul, Nat.reduceLeDiff, Nat.reduceAdd, Nat.reduceLT, Nat.reduceEqDiff, reduceCtorEq, ↓reduceIte, rqs, cqs_len]
      try rfl
    · have h2 : tb = 0 := hz.resolve_left h1
      subst h2
      have f1 : (0 : Int) ≤ (ta : Int) - 1 := by omega
      have f2 : ¬ (ta : Int) - 1 < 0 := by omega
      refine call_by (sl1) (by first | rfl | (simp only [tocvs, tocv, f1, f2]; rfl) | (simp only [tocvs, tocv, toboxes, tobox, updH_at, Nat.reduceEqDiff, ↓reduceIte, f1, f2]; rfl)) (by simp) ?_
      simp (disch := omega) only [wk, tis, Int.reduceNe, Int.reduceEq, Int.reduceLT, Int.reduceLE, Int.reduceAdd, Int.reduceSub, Int.reduceNeg, Int.reduceMul, Int.reduceToNat, Nat.reduceSub, Nat.reduceMul, Nat.reduceLeDiff, Nat.reduceAdd, Nat.reduceLT, Nat.reduceEqDiff, reduceCtorEq, ↓reduceIte, rqs, cqs_len, f1, f2]
      try rfl
  · have f1 : (0 : Int) ≤ (ta : Int) - 1 := by omega
    have f2 : (0 : Int) ≤ (tb : Int) - 1 := by omega
    have f3 : (tp : Int) - 1 = (ta : Int) - 1 + ((tb : Int) - 1) := by omega
    refine call_by (sl1) (by first | rfl | (simp only [tocvs, tocv, f1, f2, f3]; rfl) | (simp only [tocvs, tocv, toboxes, tobox, updH_at, Nat.reduceEqDiff, ↓reduceIte, f1, f2, f3]; rfl)) (by simp) ?_
    simp (disch := omega) only [wk, tis, Int.reduceNe, Int.reduceEq, Int.reduceLT, Int.reduceLE, Int.reduceAdd, Int.reduceSub, Int.reduceNeg, Int.reduceMul, Int.reduceToNat, Nat.reduceSub, Nat.reduceMul, Nat.reduceLeDiff, Nat.reduceAdd, Nat.reduceLT, Nat.reduceEqDiff, reduceCtorEq, ↓reduceIte, rqs, cqs_len, f1, f2, f3]
    try rfl

theorem laws10_bad (a b c p q r : List RQ) (ha : BQ 40 (2 ^ 20) a) (hb : BQ 40 (2 ^ 20) b) (hc : BQ 40 (2 ^ 20) c) (h : ¬ (gd a = true ∧ gd b = true ∧ gd c = true)) (fa : AC Tryz.prog 31 [cqw p] none [cqw a]) (fb : AC Tryz.prog 31 [cqw q] none [cqw b]) (fc : AC Tryz.prog 31 [cqw r] none [cqw c]) : AC Tryz.prog 8 [cqw p, cqw q, cqw r] none [cb true] := by
  have ga := tgood_ok a (ha.mono (by omega) (by omega))
  have gb := tgood_ok b (hb.mono (by omega) (by omega))
  have gc := tgood_ok c (hc.mono (by omega) (by omega))
  have bd := fun (x y : List RQ) (hx : BQ 40 (2 ^ 20) x) (hy : BQ 40 (2 ^ 20) y) (k : gd x = false ∨ gd y = false) => qpmul_bad x y (hx.mono (by omega) (by omega)) (hy.mono (by omega) (by omega)) k
  have ok := fun (x y : List RQ) (hx : BQ 40 (2 ^ 20) x) (hy : BQ 40 (2 ^ 20) y) (k : gd x = true) (k' : gd y = true) => qpmul_ok x y 40 (2 ^ 20) (hx.gq k) (hy.gq k') (by omega) (by omega) (by omega)
  cases h1 : gd a with
  | false =>
    rw [h1] at ga
    have m1 := bd a b ha hb (.inl h1)
    have M2 : ∃ x e, AC Tryz.prog 53 [cqw b, cqw c] none [cqw x, ci e] := by
      cases h2 : gd b with
      | false => exact ⟨_, _, bd b c hb hc (.inl h2)⟩
      | true =>
        cases h3 : gd c with
        | false => exact ⟨_, _, bd b c hb hc (.inr h3)⟩
        | true => exact ⟨_, _, ok b c hb hc h2 h3⟩
    obtain ⟨x, e, m2⟩ := M2
    refine AC.by_walk (rs := [.tmp 6]) ords Tryz.func8 (by rfl) (by rfl) (by rfl) (by rfl) (by rfl) ?_
    simp (disch := omega) only [wk, tis, Int.reduceNe, Int.reduceEq, Int.reduceLT, Int.reduceLE, Int.reduceAdd, Int.reduceSub, Int.reduceNeg, Int.reduceMul, Int.reduceToNat, Nat.reduceSub, Nat.reduceMul, Nat.reduceLeDiff, Nat.reduceAdd, Nat.reduceLT, Nat.reduceEqDiff, reduceCtorEq, ↓reduceIte, rqs, cqs_len]
    refine call_by (known_ok) (by rfl) (by simp) ?_
    simp (disch := omega) only [wk, tis, Int.reduceNe, Int.reduceEq, Int.reduceLT, Int.reduceLE, Int.reduceAdd, Int.reduceSub, Int.reduceNeg, Int.reduceMul, Int.reduceToNat, Nat.reduceSub, Nat.reduceMul, Nat.reduceLeDiff, Nat.reduceAdd, Nat.reduceLT, Nat.reduceEqDiff, reduceCtorEq, ↓reduceIte, rqs, cqs_len]
    refine call_by (fa) (by rfl) (by simp) ?_
    simp (disch := omega) only [wk, tis, Int.reduceNe, Int.reduceEq, Int.reduceLT, Int.reduceLE, Int.reduceAdd, Int.reduceSub, Int.reduceNeg, Int.reduceMul, Int.reduceToNat, Nat.reduceSub, Nat.reduceMul, Nat.reduceLeDiff, Nat.reduceAdd, Nat.reduceLT, Nat.reduceEqDiff, reduceCtorEq, ↓reduceIte, rqs, cqs_len]
    refine call_by (fb) (by rfl) (by simp) ?_
    simp (disch := omega) only [wk, tis, Int.reduceNe, Int.reduceEq, Int.reduceLT, Int.reduceLE, Int.reduceAdd, Int.reduceSub, Int.reduceNeg, Int.reduceMul, Int.reduceToNat, Nat.reduceSub, Nat.reduceMul, Nat.reduceLeDiff, Nat.reduceAdd, Nat.reduceLT, Nat.reduceEqDiff, reduceCtorEq, ↓reduceIte, rqs, cqs_len]
    refine call_by (fc) (by rfl) (by simp) ?_
    simp (disch := omega) only [wk, tis, Int.reduceNe, Int.reduceEq, Int.reduceLT, Int.reduceLE, Int.reduceAdd, Int.reduceSub, Int.reduceNeg, Int.reduceMul, Int.reduceToNat, Nat.reduceSub, Nat.reduceMul, Nat.reduceLeDiff, Nat.reduceAdd, Nat.reduceLT, Nat.reduceEqDiff, reduceCtorEq, ↓reduceIte, rqs, cqs_len]
    refine call_by (ga) (by rfl) (by simp) ?_
    simp (disch := omega) only [wk, tis, Int.reduceNe, Int.reduceEq, Int.reduceLT, Int.reduceLE, Int.reduceAdd, Int.reduceSub, Int.reduceNeg, Int.reduceMul, Int.reduceToNat, Nat.reduceSub, Nat.reduceMul, Nat.reduceLeDiff, Nat.reduceAdd, Nat.reduceLT, Nat.reduceEqDiff, reduceCtorEq, ↓reduceIte, rqs, cqs_len]
    refine call_by (m1) (by rfl) (by simp) ?_
    simp (disch := omega) only [wk, tis, Int.reduceNe, Int.reduceEq, Int.reduceLT, Int.reduceLE, Int.reduceAdd, Int.reduceSub, Int.reduceNeg, Int.reduceMul, Int.reduceToNat, Nat.reduceSub, Nat.reduceMul, Nat.reduceLeDiff, Nat.reduceAdd, Nat.reduceLT, Nat.reduceEqDiff, reduceCtorEq, ↓reduceIte, rqs, cqs_len]
    refine call_by (m2) (by rfl) (by simp) ?_
    simp (disch := omega) only [wk, tis, Int.reduceNe, Int.reduceEq, Int.reduceLT, Int.reduceLE, Int.reduceAdd, Int.reduceSub, Int.reduceNeg, Int.reduceMul, Int.reduceToNat, Nat.reduceSub, Nat.reduceMul, Nat.reduceLeDiff, Nat.reduceAdd, Nat.reduceLT, Nat.reduceEqDiff, reduceCtorEq, ↓reduceIte, rqs, cqs_len]
    try rfl
  | true =>
    rw [h1] at ga
    cases h2 : gd b with
    | false =>
      rw [h2] at gb
      have m1 := bd a b ha hb (.inr h2)
      have m2 := bd b c hb hc (.inl h2)
      refine AC.by_walk (rs := [.tmp 6]) ords Tryz.func8 (by rfl) (by rfl) (by rfl) (by rfl) (by rfl) ?_
      simp (disch := omega) only [wk, tis, Int.reduceNe, Int.reduceEq, Int.reduceLT, Int.reduceLE, Int.reduceAdd, Int.reduceSub, Int.reduceNeg, Int.reduceMul, Int.reduceToNat, Nat.reduceSub, Nat.reduceMul, Nat.reduceLeDiff, Nat.reduceAdd, Nat.reduceLT, Nat.reduceEqDiff, reduceCtorEq, ↓reduceIte, rqs, cqs_len]
      refine call_by (known_ok) (by rfl) (by simp) ?_
      simp (disch := omega) only [wk, tis, Int.reduceNe, Int.reduceEq, Int.reduceLT, Int.reduceLE, Int.reduceAdd, Int.reduceSub, Int.reduceNeg, Int.reduceMul, Int.reduceToNat, Nat.reduceSub, Nat.reduceMul, Nat.reduceLeDiff, Nat.reduceAdd, Nat.reduceLT, Nat.reduceEqDiff, reduceCtorEq, ↓reduceIte, rqs, cqs_len]
      refine call_by (fa) (by rfl) (by simp) ?_
      simp (disch := omega) only [wk, tis, Int.reduceNe, Int.reduceEq, Int.reduceLT, Int.reduceLE, Int.reduceAdd, Int.reduceSub, Int.reduceNeg, Int.reduceMul, Int.reduceToNat, Nat.reduceSub, Nat.reduceMul, Nat.reduceLeDiff, Nat.reduceAdd, Nat.reduceLT, Nat.reduceEqDiff, reduceCtorEq, ↓reduceIte, rqs, cqs_len]
      refine call_by (fb) (by rfl) (by simp) ?_
      simp (disch := omega) only [wk, tis, Int.reduceNe, Int.reduceEq, Int.reduceLT, Int.reduceLE, Int.reduceAdd, Int.reduceSub, Int.reduceNeg, Int.reduceMul, Int.reduceToNat, Nat.reduceSub, Nat.reduceMul, Nat.reduceLeDiff, Nat.reduceAdd, Nat.reduceLT, Nat.reduceEqDiff, reduceCtorEq, ↓reduceIte, rqs, cqs_len]
      refine call_by (fc) (by rfl) (by simp) ?_
      simp (disch := omega) only [wk, tis, Int.reduceNe, Int.reduceEq, Int.reduceLT, Int.reduceLE, Int.reduceAdd, Int.reduceSub, Int.reduceNeg, Int.reduceMul, Int.reduceToNat, Nat.reduceSub, Nat.reduceMul, Nat.reduceLeDiff, Nat.reduceAdd, Nat.reduceLT, Nat.reduceEqDiff, reduceCtorEq, ↓reduceIte, rqs, cqs_len]
      refine call_by (ga) (by rfl) (by simp) ?_
      simp (disch := omega) only [wk, tis, Int.reduceNe, Int.reduceEq, Int.reduceLT, Int.reduceLE, Int.reduceAdd, Int.reduceSub, Int.reduceNeg, Int.reduceMul, Int.reduceToNat, Nat.reduceSub, Nat.reduceMul, Nat.reduceLeDiff, Nat.reduceAdd, Nat.reduceLT, Nat.reduceEqDiff, reduceCtorEq, ↓reduceIte, rqs, cqs_len]
      refine call_by (gb) (by rfl) (by simp) ?_
      simp (disch := omega) only [wk, tis, Int.reduceNe, Int.reduceEq, Int.reduceLT, Int.reduceLE, Int.reduceAdd, Int.reduceSub, Int.reduceNeg, Int.reduceMul, Int.reduceToNat, Nat.reduceSub, Nat.reduceMul, Nat.reduceLeDiff, Nat.reduceAdd, Nat.reduceLT, Nat.reduceEqDiff, reduceCtorEq, ↓reduceIte, rqs, cqs_len]
      refine call_by (m1) (by rfl) (by simp) ?_
      simp (disch := omega) only [wk, tis, Int.reduceNe, Int.reduceEq, Int.reduceLT, Int.reduceLE, Int.reduceAdd, Int.reduceSub, Int.reduceNeg, Int.reduceMul, Int.reduceToNat, Nat.reduceSub, Nat.reduceMul, Nat.reduceLeDiff, Nat.reduceAdd, Nat.reduceLT, Nat.reduceEqDiff, reduceCtorEq, ↓reduceIte, rqs, cqs_len]
      refine call_by (m2) (by rfl) (by simp) ?_
      simp (disch := omega) only [wk, tis, Int.reduceNe, Int.reduceEq, Int.reduceLT, Int.reduceLE, Int.reduceAdd, Int.reduceSub, Int.reduceNeg, Int.reduceMul, Int.reduceToNat, Nat.reduceSub, Nat.reduceMul, Nat.reduceLeDiff, Nat.reduceAdd, Nat.reduceLT, Nat.reduceEqDiff, reduceCtorEq, ↓reduceIte, rqs, cqs_len]
      try rfl
    | true =>
      rw [h2] at gb
      have h3 : gd c = false := by
        cases h3 : gd c with
        | false => rfl
        | true => exact (h ⟨h1, h2, h3⟩).elim
      rw [h3] at gc
      have m1 := ok a b ha hb h1 h2
      have m2 := bd b c hb hc (.inr h3)
      refine AC.by_walk (rs := [.tmp 6]) ords Tryz.func8 (by rfl) (by rfl) (by rfl) (by rfl) (by rfl) ?_
      simp (disch := omega) only [wk, tis, Int.reduceNe, Int.reduceEq, Int.reduceLT, Int.reduceLE, Int.reduceAdd, Int.reduceSub, Int.reduceNeg, Int.reduceMul, Int.reduceToNat, Nat.reduceSub, Nat.reduceMul, Nat.reduceLeDiff, Nat.reduceAdd, Nat.reduceLT, Nat.reduceEqDiff, reduceCtorEq, ↓reduceIte, rqs, cqs_len]
      refine call_by (known_ok) (by rfl) (by simp) ?_
      simp (disch := omega) only [wk, tis, Int.reduceNe, Int.reduceEq, Int.reduceLT, Int.reduceLE, Int.reduceAdd, Int.reduceSub, Int.reduceNeg, Int.reduceMul, Int.reduceToNat, Nat.reduceSub, Nat.reduceMul, Nat.reduceLeDiff, Nat.reduceAdd, Nat.reduceLT, Nat.reduceEqDiff, reduceCtorEq, ↓reduceIte, rqs, cqs_len]
      refine call_by (fa) (by rfl) (by simp) ?_
      simp (disch := omega) only [wk, tis, Int.reduceNe, Int.reduceEq, Int.reduceLT, Int.reduceLE, Int.reduceAdd, Int.reduceSub, Int.reduceNeg, Int.reduceMul, Int.reduceToNat, Nat.reduceSub, Nat.reduceMul, Nat.reduceLeDiff, Nat.reduceAdd, Nat.reduceLT, Nat.reduceEqDiff, reduceCtorEq, ↓reduceIte, rqs, cqs_len]
      refine call_by (fb) (by rfl) (by simp) ?_
      simp (disch := omega) only [wk, tis, Int.reduceNe, Int.reduceEq, Int.reduceLT, Int.reduceLE, Int.reduceAdd, Int.reduceSub, Int.reduceNeg, Int.reduceMul, Int.reduceToNat, Nat.reduceSub, Nat.reduceMul, Nat.reduceLeDiff, Nat.reduceAdd, Nat.reduceLT, Nat.reduceEqDiff, reduceCtorEq, ↓reduceIte, rqs, cqs_len]
      refine call_by (fc) (by rfl) (by simp) ?_
      simp (disch := omega) only [wk, tis, Int.reduceNe, Int.reduceEq, Int.reduceLT, Int.reduceLE, Int.reduceAdd, Int.reduceSub, Int.reduceNeg, Int.reduceMul, Int.reduceToNat, Nat.reduceSub, Nat.reduceMul, Nat.reduceLeDiff, Nat.reduceAdd, Nat.reduceLT, Nat.reduceEqDiff, reduceCtorEq, ↓reduceIte, rqs, cqs_len]
      refine call_by (ga) (by rfl) (by simp) ?_
      simp (disch := omega) only [wk, tis, Int.reduceNe, Int.reduceEq, Int.reduceLT, Int.reduceLE, Int.reduceAdd, Int.reduceSub, Int.reduceNeg, Int.reduceMul, Int.reduceToNat, Nat.reduceSub, Nat.reduceMul, Nat.reduceLeDiff, Nat.reduceAdd, Nat.reduceLT, Nat.reduceEqDiff, reduceCtorEq, ↓reduceIte, rqs, cqs_len]
      refine call_by (gb) (by rfl) (by simp) ?_
      simp (disch := omega) only [wk, tis, Int.reduceNe, Int.reduceEq, Int.reduceLT, Int.reduceLE, Int.reduceAdd, Int.reduceSub, Int.reduceNeg, Int.reduceMul, Int.reduceToNat, Nat.reduceSub, Nat.reduceMul, Nat.reduceLeDiff, Nat.reduceAdd, Nat.reduceLT, Nat.reduceEqDiff, reduceCtorEq, ↓reduceIte, rqs, cqs_len]
      refine call_by (gc) (by rfl) (by simp) ?_
      simp (disch := omega) only [wk, tis, Int.reduceNe, Int.reduceEq, Int.reduceLT, Int.reduceLE, Int.reduceAdd, Int.reduceSub, Int.reduceNeg, Int.reduceMul, Int.reduceToNat, Nat.reduceSub, Nat.reduceMul, Nat.reduceLeDiff, Nat.reduceAdd, Nat.reduceLT, Nat.reduceEqDiff, reduceCtorEq, ↓reduceIte, rqs, cqs_len]
      refine call_by (m1) (by rfl) (by simp) ?_
      simp (disch := omega) only [wk, tis, Int.reduceNe, Int.reduceEq, Int.reduceLT, Int.reduceLE, Int.reduceAdd, Int.reduceSub, Int.reduceNeg, Int.reduceMul, Int.reduceToNat, Nat.reduceSub, Nat.reduceMul, Nat.reduceLeDiff, Nat.reduceAdd, Nat.reduceLT, Nat.reduceEqDiff, reduceCtorEq, ↓reduceIte, rqs, cqs_len]
      refine call_by (m2) (by rfl) (by simp) ?_
      simp (disch := omega) only [wk, tis, Int.reduceNe, Int.reduceEq, Int.reduceLT, Int.reduceLE, Int.reduceAdd, Int.reduceSub, Int.reduceNeg, Int.reduceMul, Int.reduceToNat, Nat.reduceSub, Nat.reduceMul, Nat.reduceLeDiff, Nat.reduceAdd, Nat.reduceLT, Nat.reduceEqDiff, reduceCtorEq, ↓reduceIte, rqs, cqs_len]
      try rfl

theorem laws10_law (p q r : List RQ) (hp : BQ 1048576 1048576 p) (hq : BQ 1048576 1048576 q) (hr : BQ 1048576 1048576 r) : AC Tryz.prog 8 [cqw p, cqw q, cqw r] none [cb true] := by
  have fa := few10_ok p (Nat.le_trans hp.1 (by omega))
  have fb := few10_ok q (Nat.le_trans hq.1 (by omega))
  have fc := few10_ok r (Nat.le_trans hr.1 (by omega))
  have ha : BQ 40 (2 ^ 20) (p.take 40) := hp.few
  have hb : BQ 40 (2 ^ 20) (q.take 40) := hq.few
  have hc : BQ 40 (2 ^ 20) (r.take 40) := hr.few
  by_cases h : gd (p.take 40) = true ∧ gd (q.take 40) = true ∧ gd (r.take 40) = true
  · exact laws10_good _ _ _ (ha.gq h.1) (hb.gq h.2.1) (hc.gq h.2.2) p q r fa fb fc
  · exact laws10_bad _ _ _ p q r ha hb hc h fa fb fc
end Go.Proofs.YtjadkhkgmdikiaaGreat
