/-
  Contracts of the functions that the law reaches.
-/
import Derived.Test.YtjadkhkgmdikiaaGreatL115M
import Derived.Test.YtjadkhkgmdikiaaGreatAbsT
namespace Go.Proofs.YtjadkhkgmdikiaaGreat
open Go Go.Proofs Go.AL
set_option linter.unusedSimpArgs false
set_option linter.unusedVariables false

theorem readsB_rat {bk : {H : Type} → DataW H → Nat} {P : Program} {w : World} {t : TypeId} (h : ReadsB bk P w (fun c : (RI × (List Nat × Unit)) => prow c.1 ++ ([.sl (lims c.2.1)] ++ [])) (fun N c => Sz N c.1 ∧ ((c.2.1.length ≤ N ∧ Lim c.2.1) ∧ True)) t) : ReadsB bk P w qrow (fun N => SzQ N) t := fun enc sp held fuel cs x N hx hN => by
  obtain ⟨a, f, e⟩ := h enc sp held fuel cs x N hx hN
  exact ⟨(a.1, a.2.1), ⟨f.1, f.2.1⟩, e⟩


theorem forms_bad (p r : List RQ) (n : Int) (hp : BQ (2 ^ 20) (2 ^ 20) p) (hr : BQ (2 ^ 20) (2 ^ 20) r) (hg : gd p = false) : AC Tryz.prog 6 [cqw p, cqw r, ci n] none [cb true] := by
  have hp' : BQ (2 ^ 40) (2 ^ 38) p := hp.mono (by omega) (by omega)
  have hr' : BQ (2 ^ 40) (2 ^ 38) r := hr.mono (by omega) (by omega)
  have g1 := qgood_ok p (hp.mono (by omega) (by omega))
  have g2 := tgood_ok p hp'
  rw [hg] at g1 g2
  have i1 := qisnorm_ok p hp'
  have i2 := tisnorm_ok p hp'
  rw [hg, Bool.false_and] at i1 i2
  have n1 := tnorm_bad p hp' hg
  have n2 := qpnorm_bad p hp' hg
  have s0 := tsame_self (bq_nil (2 ^ 40) (2 ^ 40))
  have s1 := qsame_bad p r hp' hr' (.inl hg)
  have d1 := qdeg_bad p hp' hg
  have c1 := qCoef_bad p n hp' hg
  refine AC.by_walk (rs := [.tmp 6]) ords Tryz.func6 (by rfl) (by rfl) (by rfl) (by rfl) (by rfl) ?_
  simp (disch := omega) only [wk, tis, Int.reduceNe, Int.reduceEq, Int.reduceLT, Int.reduceLE, Int.reduceAdd, Int.reduceSub, Int.reduceNeg, Int.reduceMul, Int.reduceToNat, Nat.reduceSub, Nat.reduceMul, Nat.reduceLeDiff, Nat.reduceAdd, Nat.reduceLT, Nat.reduceEqDiff, reduceCtorEq, ↓reduceIte, rqs, beq_self_eq_true]
  refine call_by (known_ok) (by rfl) (by simp) ?_
  simp (disch := omega) only [wk, tis, Int.reduceNe, Int.reduceEq, Int.reduceLT, Int.reduceLE, Int.reduceAdd, Int.reduceSub, Int.reduceNeg, Int.reduceMul, Int.reduceToNat, Nat.reduceSub, Nat.reduceMul, Nat.reduceLeDiff, Nat.reduceAdd, Nat.reduceLT, Nat.reduceEqDiff, reduceCtorEq, ↓reduceIte, rqs, beq_self_eq_true]
  refine call_by (g1) (by rfl) (by simp) ?_
  simp (disch := omega) only [wk, tis, Int.reduceNe, Int.reduceEq, Int.reduceLT, Int.reduceLE, Int.reduceAdd, Int.reduceSub, Int.reduceNeg, Int.reduceMul, Int.reduceToNat, Nat.reduceSub, Nat.reduceMul, Nat.reduceLeDiff, Nat.reduceAdd, Nat.reduceLT, Nat.reduceEqDiff, reduceCtorEq, ↓reduceIte, rqs, beq_self_eq_true]

  refine call_by (g2) (by rfl) (by simp) ?_
  simp (disch := omega) only [wk, tis, Int.reduceNe, Int.reduceEq, Int.reduceLT, Int.reduceLE, Int.reduceAdd, Int.reduceSub, Int.reduceNeg, Int.reduceMul, Int.reduceToNat, Nat.reduceSub, Nat.reduceMul, Nat.reduceLeDiff, Nat.reduceAdd, Nat.reduceLT, Nat.reduceEqDiff, reduceCtorEq, ↓reduceIte, rqs, beq_self_eq_true]
  refine call_by (i1) (by rfl) (by simp) ?_
  simp (disch := omega) only [wk, tis, Int.reduceNe, Int.reduceEq, Int.reduceLT, Int.reduceLE, Int.reduceAdd, Int.reduceSub, Int.reduceNeg, Int.reduceMul, Int.reduceToNat, Nat.reduceSub, Nat.reduceMul, Nat.reduceLeDiff, Nat.reduceAdd, Nat.reduceLT, Nat.reduceEqDiff, reduceCtorEq, ↓reduceIte, rqs, beq_self_eq_true]
  refine call_by (i2) (by rfl) (by simp) ?_
  simp (disch := omega) only [wk, tis, Int.reduceNe, Int.reduceEq, Int.reduceLT, Int.reduceLE, Int.reduceAdd, Int.reduceSub, Int.reduceNeg, Int.reduceMul, Int.reduceToNat, Nat.reduceSub, Nat.reduceMul, Nat.reduceLeDiff, Nat.reduceAdd, Nat.reduceLT, Nat.reduceEqDiff, reduceCtorEq, ↓reduceIte, rqs, beq_self_eq_true]

  refine call_by (n1) (by rfl) (by simp) ?_
  simp (disch := omega) only [wk, tis, Int.reduceNe, Int.reduceEq, Int.reduceLT, Int.reduceLE, Int.reduceAdd, Int.reduceSub, Int.reduceNeg, Int.reduceMul, Int.reduceToNat, Nat.reduceSub, Nat.reduceMul, Nat.reduceLeDiff, Nat.reduceAdd, Nat.reduceLT, Nat.reduceEqDiff, reduceCtorEq, ↓reduceIte, rqs, beq_self_eq_true]
  refine call_by (n2) (by rfl) (by simp) ?_
  simp (disch := omega) only [wk, tis, Int.reduceNe, Int.reduceEq, Int.reduceLT, Int.reduceLE, Int.reduceAdd, Int.reduceSub, Int.reduceNeg, Int.reduceMul, Int.reduceToNat, Nat.reduceSub, Nat.reduceMul, Nat.reduceLeDiff, Nat.reduceAdd, Nat.reduceLT, Nat.reduceEqDiff, reduceCtorEq, ↓reduceIte, rqs, beq_self_eq_true]
  refine call_by (s0) (by rfl) (by simp) ?_
  simp (disch := omega) only [wk, tis, Int.reduceNe, Int.reduceEq, Int.reduceLT, Int.reduceLE, Int.reduceAdd, Int.reduceSub, Int.reduceNeg, Int.reduceMul, Int.reduceToNat, Nat.reduceSub, Nat.reduceMul, Nat.reduceLeDiff, Nat.reduceAdd, Nat.reduceLT, Nat.reduceEqDiff, reduceCtorEq, ↓reduceIte, rqs, beq_self_eq_true]
  refine call_by (s1) (by rfl) (by simp) ?_
  simp (disch := omega) only [wk, tis, Int.reduceNe, Int.reduceEq, Int.reduceLT, Int.reduceLE, Int.reduceAdd, Int.reduceSub, Int.reduceNeg, Int.reduceMul, Int.reduceToNat, Nat.reduceSub, Nat.reduceMul, Nat.reduceLeDiff, Nat.reduceAdd, Nat.reduceLT, Nat.reduceEqDiff, reduceCtorEq, ↓reduceIte, rqs, beq_self_eq_true]
  refine call_by (d1) (by rfl) (by simp) ?_
  simp (disch := omega) only [wk, tis, Int.reduceNe, Int.reduceEq, Int.reduceLT, Int.reduceLE, Int.reduceAdd, Int.reduceSub, Int.reduceNeg, Int.reduceMul, Int.reduceToNat, Nat.reduceSub, Nat.reduceMul, Nat.reduceLeDiff, Nat.reduceAdd, Nat.reduceLT, Nat.reduceEqDiff, reduceCtorEq, ↓reduceIte, rqs, beq_self_eq_true]
  refine call_by (c1) (by rfl) (by simp) ?_
  simp (disch := omega) only [wk, tis, Int.reduceNe, Int.reduceEq, Int.reduceLT, Int.reduceLE, Int.reduceAdd, Int.reduceSub, Int.reduceNeg, Int.reduceMul, Int.reduceToNat, Nat.reduceSub, Nat.reduceMul, Nat.reduceLeDiff, Nat.reduceAdd, Nat.reduceLT, Nat.reduceEqDiff, reduceCtorEq, ↓reduceIte, rqs, beq_self_eq_true]
  refine call_by (g2) (by rfl) (by simp) ?_
  simp (disch := omega) only [wk, tis, Int.reduceNe, Int.reduceEq, Int.reduceLT, Int.reduceLE, Int.reduceAdd, Int.reduceSub, Int.reduceNeg, Int.reduceMul, Int.reduceToNat, Nat.reduceSub, Nat.reduceMul, Nat.reduceLeDiff, Nat.reduceAdd, Nat.reduceLT, Nat.reduceEqDiff, reduceCtorEq, ↓reduceIte, rqs, beq_self_eq_true]
  try rfl

set_option maxRecDepth 100000 in
set_option maxHeartbeats 1000000 in
theorem forms_good (p r : List RQ) (n : Int) (hp : BQ (2 ^ 20) (2 ^ 20) p) (hr : BQ (2 ^ 20) (2 ^ 20) r) (hg : gd p = true) : AC Tryz.prog 6 [cqw p, cqw r, ci n] none [cb true] := by
  have hp' : BQ (2 ^ 40) (2 ^ 38) p := hp.mono (by omega) (by omega)
  have hr' : BQ (2 ^ 40) (2 ^ 38) r := hr.mono (by omega) (by omega)
  have hG := hp'.gq hg
  have hl := hp.1
  have g1 := qgood_ok p (hp.mono (by omega) (by omega))
  have g2 := tgood_ok p hp'
  rw [hg] at g1 g2
  have gr := tgood_ok r hr'
  have i1 := qisnorm_ok p hp'
  have i2 := tisnorm_ok p hp'
  generalize (gd p && decide (p = cqs (qvs p))) = I at i1 i2
  have n1 := tnorm_ok p hG
  have n2 := qpnorm_ok p hG
  have fp := tform_ok p hG
  have bA : BQ (2 ^ 40) (2 ^ 40) (cqs (qvs p)) := hG.qb.gqs.bq.mono (by omega) (by omega)
  have s0 := tsame_self bA
  have d1 := qdeg_ok p hG
  have c1 := qCoef_ok p n hG
  have hcl := cqs_len (qvs p)
  have htl := tzq_le (qvs p)
  rw [qvs_len] at htl
  have a1 := tat_ok (trimq (qvs p)) n (by rw [trimq_len]; omega)
  rw [cfq_trimq] at a1
  have zc : qz (if n < 0 then 0 else cfq (qvs p) n.toNat) ≤ 2 ^ 20 := by
    split
    · rw [qz_zero]; omega
    · exact (GQ.qb (hp.gq hg)).cz (by omega) _
  have sc := same_self (szq_crat (k := 2 ^ 43) (Nat.le_trans zc (by omega)))
  generalize (if n < 0 then 0 else cfq (qvs p) n.toNat) = v at *
  have p36 := hP_ok 3 6 (by omega) (by omega) (by omega) (by omega)
  have z36 : qz (((3 : Int) : Rat) / ((6 : Nat) : Rat)) ≤ 1 := by decide +kernel
  -- the second polynomial
  have S : ∃ b e, AC Tryz.prog 44 [cqw p, cqw r] none [cb b, ci e] ∧ ((gd r = false ∧ b = false ∧ e = 1) ∨ (gd r = true ∧ e = 0 ∧ AC Tryz.prog 51 [cqw r] none [cqp (qvs r)] ∧ AC Tryz.prog 28 [cqp (qvs p), cqp (qvs r)] none [cb b])) := by
    cases hgr : gd r with
    | false => exact ⟨false, 1, qsame_bad p r hp' hr' (.inr hgr), .inl ⟨rfl, rfl, rfl⟩⟩
    | true =>
      have hR := hr'.gq hgr
      exact ⟨_, 0, qsame_ok p r hG hR, .inr ⟨rfl, rfl, tform_ok r hR, tsameq_ok _ _ bA (hR.qb.gqs.bq.mono (by omega) (by omega))⟩⟩
  obtain ⟨b, e, s1, s2⟩ := S
  have X : ∃ x : RQ, SzQ (2 ^ 38) x ∧ (p.length = 0 ∧ x = crat (((3 : Int) : Rat) / ((6 : Nat) : Rat)) ∨ 0 < p.length ∧ x = p.getD 0 q0) := by
    rcases Nat.eq_zero_or_pos p.length with h | h
    · exact ⟨_, szq_crat (Nat.le_trans z36 (by omega)), .inl ⟨h, rfl⟩⟩
    · exact ⟨_, (hp.get h).mono (by omega), .inr ⟨h, rfl⟩⟩
  obtain ⟨x, hx, hx2⟩ := X
  obtain ⟨m, f, bm, mo1, mo2⟩ := mono_both x n hx
  have mo3 := tsame_self bm
  refine AC.by_walk (rs := [.tmp 6]) ords Tryz.func6 (by rfl) (by rfl) (by rfl) (by rfl) (by rfl) ?_
  simp (disch := omega) only [wk, tis, Int.reduceNe, Int.reduceEq, Int.reduceLT, Int.reduceLE, Int.reduceAdd, Int.reduceSub, Int.reduceNeg, Int.reduceMul, Int.reduceToNat, Nat.reduceSub, Nat.reduceMul, Nat.reduceLeDiff, Nat.reduceAdd, Nat.reduceLT, Nat.reduceEqDiff, reduceCtorEq, ↓reduceIte, rqs, beq_self_eq_true]
  refine call_by (known_ok) (by rfl) (by simp) ?_
  simp (disch := omega) only [wk, tis, Int.reduceNe, Int.reduceEq, Int.reduceLT, Int.reduceLE, Int.reduceAdd, Int.reduceSub, Int.reduceNeg, Int.reduceMul, Int.reduceToNat, Nat.reduceSub, Nat.reduceMul, Nat.reduceLeDiff, Nat.reduceAdd, Nat.reduceLT, Nat.reduceEqDiff, reduceCtorEq, ↓reduceIte, rqs, beq_self_eq_true]
  refine call_by (g1) (by rfl) (by simp) ?_
  simp (disch := omega) only [wk, tis, Int.reduceNe, Int.reduceEq, Int.reduceLT, Int.reduceLE, Int.reduceAdd, Int.reduceSub, Int.reduceNeg, Int.reduceMul, Int.reduceToNat, Nat.reduceSub, Nat.reduceMul, Nat.reduceLeDiff, Nat.reduceAdd, Nat.reduceLT, Nat.reduceEqDiff, reduceCtorEq, ↓reduceIte, rqs, beq_self_eq_true]
  refine call_by (g2) (by rfl) (by simp) ?_
  simp (disch := omega) only [wk, tis, Int.reduceNe, Int.reduceEq, Int.reduceLT, Int.reduceLE, Int.reduceAdd, Int.reduceSub, Int.reduceNeg, Int.reduceMul, Int.reduceToNat, Nat.reduceSub, Nat.reduceMul, Nat.reduceLeDiff, Nat.reduceAdd, Nat.reduceLT, Nat.reduceEqDiff, reduceCtorEq, ↓reduceIte, rqs, beq_self_eq_true]
  refine call_by (i1) (by rfl) (by simp) ?_
  simp (disch := omega) only [wk, tis, Int.reduceNe, Int.reduceEq, Int.reduceLT, Int.reduceLE, Int.reduceAdd, Int.reduceSub, Int.reduceNeg, Int.reduceMul, Int.reduceToNat, Nat.reduceSub, Nat.reduceMul, Nat.reduceLeDiff, Nat.reduceAdd, Nat.reduceLT, Nat.reduceEqDiff, reduceCtorEq, ↓reduceIte, rqs, beq_self_eq_true]
  refine call_by (i2) (by rfl) (by simp) ?_
  simp (disch := omega) only [wk, tis, Int.reduceNe, Int.reduceEq, Int.reduceLT, Int.reduceLE, Int.reduceAdd, Int.reduceSub, Int.reduceNeg, Int.reduceMul, Int.reduceToNat, Nat.reduceSub, Nat.reduceMul, Nat.reduceLeDiff, Nat.reduceAdd, Nat.reduceLT, Nat.reduceEqDiff, reduceCtorEq, ↓reduceIte, rqs, beq_self_eq_true]
  refine call_by (n1) (by rfl) (by simp) ?_
  simp (disch := omega) only [wk, tis, Int.reduceNe, Int.reduceEq, Int.reduceLT, Int.reduceLE, Int.reduceAdd, Int.reduceSub, Int.reduceNeg, Int.reduceMul, Int.reduceToNat, Nat.reduceSub, Nat.reduceMul, Nat.reduceLeDiff, Nat.reduceAdd, Nat.reduceLT, Nat.reduceEqDiff, reduceCtorEq, ↓reduceIte, rqs, beq_self_eq_true]
  refine call_by (n2) (by rfl) (by simp) ?_
  simp (disch := omega) only [wk, tis, Int.reduceNe, Int.reduceEq, Int.reduceLT, Int.reduceLE, Int.reduceAdd, Int.reduceSub, Int.reduceNeg, Int.reduceMul, Int.reduceToNat, Nat.reduceSub, Nat.reduceMul, Nat.reduceLeDiff, Nat.reduceAdd, Nat.reduceLT, Nat.reduceEqDiff, reduceCtorEq, ↓reduceIte, rqs, beq_self_eq_true]
  refine call_by (s0) (by rfl) (by simp) ?_
  simp (disch := omega) only [wk, tis, Int.reduceNe, Int.reduceEq, Int.reduceLT, Int.reduceLE, Int.reduceAdd, Int.reduceSub, Int.reduceNeg, Int.reduceMul, Int.reduceToNat, Nat.reduceSub, Nat.reduceMul, Nat.reduceLeDiff, Nat.reduceAdd, Nat.reduceLT, Nat.reduceEqDiff, reduceCtorEq, ↓reduceIte, rqs, beq_self_eq_true]
  refine call_by (s1) (by rfl) (by simp) ?_
  simp (disch := omega) only [wk, tis, Int.reduceNe, Int.reduceEq, Int.reduceLT, Int.reduceLE, Int.reduceAdd, Int.reduceSub, Int.reduceNeg, Int.reduceMul, Int.reduceToNat, Nat.reduceSub, Nat.reduceMul, Nat.reduceLeDiff, Nat.reduceAdd, Nat.reduceLT, Nat.reduceEqDiff, reduceCtorEq, ↓reduceIte, rqs, beq_self_eq_true]
  refine call_by (d1) (by rfl) (by simp) ?_
  simp (disch := omega) only [wk, tis, Int.reduceNe, Int.reduceEq, Int.reduceLT, Int.reduceLE, Int.reduceAdd, Int.reduceSub, Int.reduceNeg, Int.reduceMul, Int.reduceToNat, Nat.reduceSub, Nat.reduceMul, Nat.reduceLeDiff, Nat.reduceAdd, Nat.reduceLT, Nat.reduceEqDiff, reduceCtorEq, ↓reduceIte, rqs, beq_self_eq_true]
  refine call_by (c1) (by rfl) (by simp) ?_
  simp (disch := omega) only [wk, tis, Int.reduceNe, Int.reduceEq, Int.reduceLT, Int.reduceLE, Int.reduceAdd, Int.reduceSub, Int.reduceNeg, Int.reduceMul, Int.reduceToNat, Nat.reduceSub, Nat.reduceMul, Nat.reduceLeDiff, Nat.reduceAdd, Nat.reduceLT, Nat.reduceEqDiff, reduceCtorEq, ↓reduceIte, rqs, beq_self_eq_true]
  refine call_by (g2) (by rfl) (by simp) ?_
  simp (disch := omega) only [wk, tis, Int.reduceNe, Int.reduceEq, Int.reduceLT, Int.reduceLE, Int.reduceAdd, Int.reduceSub, Int.reduceNeg, Int.reduceMul, Int.reduceToNat, Nat.reduceSub, Nat.reduceMul, Nat.reduceLeDiff, Nat.reduceAdd, Nat.reduceLT, Nat.reduceEqDiff, reduceCtorEq, ↓reduceIte, rqs, beq_self_eq_true]
  simp (disch := omega) only [wk, tis, Int.reduceNe, Int.reduceEq, Int.reduceLT, Int.reduceLE, Int.reduceAdd, Int.reduceSub, Int.reduceNeg, Int.reduceMul, Int.reduceToNat, Nat.reduceSub, Nat.reduceMul, Nat.reduceLeDiff, Nat.reduceAdd, Nat.reduceLT, Nat.reduceEqDiff, reduceCtorEq, ↓reduceIte, rqs, beq_self_eq_true, hcl]
  refine ⟨tmps_by (by kernel_rfl), ?_⟩
  refine call_by (a1) (by first | rfl | (simp only [tocvs, tocv, hcl]; rfl) | (simp only [tocvs, tocv, toboxes, tobox, updH_at, Nat.reduceEqDiff, ↓reduceIte, hcl]; rfl)) (by simp) ?_
  simp (disch := omega) only [wk, tis, Int.reduceNe, Int.reduceEq, Int.reduceLT, Int.reduceLE, Int.reduceAdd, Int.reduceSub, Int.reduceNeg, Int.reduceMul, Int.reduceToNat, Nat.reduceSub, Nat.reduceMul, Nat.reduceLeDiff, Nat.reduceAdd, Nat.reduceLT, Nat.reduceEqDiff, reduceCtorEq, ↓reduceIte, rqs, beq_self_eq_true, hcl]
  refine call_by (sc) (by first | rfl | (simp only [tocvs, tocv, hcl]; rfl) | (simp only [tocvs, tocv, toboxes, tobox, updH_at, Nat.reduceEqDiff, ↓reduceIte, hcl]; rfl)) (by simp) ?_
  simp (disch := omega) only [wk, tis, Int.reduceNe, Int.reduceEq, Int.reduceLT, Int.reduceLE, Int.reduceAdd, Int.reduceSub, Int.reduceNeg, Int.reduceMul, Int.reduceToNat, Nat.reduceSub, Nat.reduceMul, Nat.reduceLeDiff, Nat.reduceAdd, Nat.reduceLT, Nat.reduceEqDiff, reduceCtorEq, ↓reduceIte, rqs, beq_self_eq_true, hcl]
  first | exact log_by (by kernel_rfl) | refine ⟨log_by (by kernel_rfl), ?_⟩
  refine call_by (p36) (by first | rfl | (simp only [tocvs, tocv, hcl]; rfl) | (simp only [tocvs, tocv, toboxes, tobox, updH_at, Nat.reduceEqDiff, ↓reduceIte, hcl]; rfl)) (by simp) ?_
  simp (disch := omega) only [wk, tis, Int.reduceNe, Int.reduceEq, Int.reduceLT, Int.reduceLE, Int.reduceAdd, Int.reduceSub, Int.reduceNeg, Int.reduceMul, Int.reduceToNat, Nat.reduceSub, Nat.reduceMul, Nat.reduceLeDiff, Nat.reduceAdd, Nat.reduceLT, Nat.reduceEqDiff, reduceCtorEq, ↓reduceIte, rqs, beq_self_eq_true, hcl]
  rcases hx2 with ⟨hl0, rfl⟩ | ⟨hl0, rfl⟩
  · have h0' : ¬ 0 < (p.length : Int) := by omega
    simp (disch := omega) only [wk, tis, Int.reduceNe, Int.reduceEq, Int.reduceLT, Int.reduceLE, Int.reduceAdd, Int.reduceSub, Int.reduceNeg, Int.reduceMul, Int.reduceToNat, Nat.reduceSub, Nat.reduceMul, Nat.reduceLeDiff, Nat.reduceAdd, Nat.reduceLT, Nat.reduceEqDiff, reduceCtorEq, ↓reduceIte, rqs, beq_self_eq_true, h0', hcl]
    refine call_by (mo1) (by first | rfl | (simp only [tocvs, tocv, hcl]; rfl) | (simp only [tocvs, tocv, toboxes, tobox, updH_at, Nat.reduceEqDiff, ↓reduceIte, hcl]; rfl)) (by simp) ?_
    simp (disch := omega) only [wk, tis, Int.reduceNe, Int.reduceEq, Int.reduceLT, Int.reduceLE, Int.reduceAdd, Int.reduceSub, Int.reduceNeg, Int.reduceMul, Int.reduceToNat, Nat.reduceSub, Nat.reduceMul, Nat.reduceLeDiff, Nat.reduceAdd, Nat.reduceLT, Nat.reduceEqDiff, reduceCtorEq, ↓reduceIte, rqs, beq_self_eq_true, hcl]
    refine call_by (mo2) (by first | rfl | (simp only [tocvs, tocv, hcl]; rfl) | (simp only [tocvs, tocv, toboxes, tobox, updH_at, Nat.reduceEqDiff, ↓reduceIte, hcl]; rfl)) (by simp) ?_
    simp (disch := omega) only [wk, tis, Int.reduceNe, Int.reduceEq, Int.reduceLT, Int.reduceLE, Int.reduceAdd, Int.reduceSub, Int.reduceNeg, Int.reduceMul, Int.reduceToNat, Nat.reduceSub, Nat.reduceMul, Nat.reduceLeDiff, Nat.reduceAdd, Nat.reduceLT, Nat.reduceEqDiff, reduceCtorEq, ↓reduceIte, rqs, beq_self_eq_true, hcl]
    refine call_by (mo3) (by first | rfl | (simp only [tocvs, tocv, hcl]; rfl) | (simp only [tocvs, tocv, toboxes, tobox, updH_at, Nat.reduceEqDiff, ↓reduceIte, hcl]; rfl)) (by simp) ?_
    simp (disch := omega) only [wk, tis, Int.reduceNe, Int.reduceEq, Int.reduceLT, Int.reduceLE, Int.reduceAdd, Int.reduceSub, Int.reduceNeg, Int.reduceMul, Int.reduceToNat, Nat.reduceSub, Nat.reduceMul, Nat.reduceLeDiff, Nat.reduceAdd, Nat.reduceLT, Nat.reduceEqDiff, reduceCtorEq, ↓reduceIte, rqs, beq_self_eq_true, hcl]
    rcases s2 with ⟨hgr, rfl, rfl⟩ | ⟨hgr, rfl, fr, sr⟩
    · rw [hgr] at gr
      refine call_by (gr) (by first | rfl | (simp only [tocvs, tocv, hcl]; rfl) | (simp only [tocvs, tocv, toboxes, tobox, updH_at, Nat.reduceEqDiff, ↓reduceIte, hcl]; rfl)) (by simp) ?_
      simp (disch := omega) only [wk, tis, Int.reduceNe, Int.reduceEq, Int.reduceLT, Int.reduceLE, Int.reduceAdd, Int.reduceSub, Int.reduceNeg, Int.reduceMul, Int.reduceToNat, Nat.reduceSub, Nat.reduceMul, Nat.reduceLeDiff, Nat.reduceAdd, Nat.reduceLT, Nat.reduceEqDiff, reduceCtorEq, ↓reduceIte, rqs, beq_self_eq_true, hcl]
      try rfl
    · rw [hgr] at gr
      refine call_by (gr) (by first | rfl | (simp only [tocvs, tocv, hcl]; rfl) | (simp only [tocvs, tocv, toboxes, tobox, updH_at, Nat.reduceEqDiff, ↓reduceIte, hcl]; rfl)) (by simp) ?_
      simp (disch := omega) only [wk, tis, Int.reduceNe, Int.reduceEq, Int.reduceLT, Int.reduceLE, Int.reduceAdd, Int.reduceSub, Int.reduceNeg, Int.reduceMul, Int.reduceToNat, Nat.reduceSub, Nat.reduceMul, Nat.reduceLeDiff, Nat.reduceAdd, Nat.reduceLT, Nat.reduceEqDiff, reduceCtorEq, ↓reduceIte, rqs, beq_self_eq_true, hcl]
      refine call_by (fp) (by first | rfl | (simp only [tocvs, tocv, hcl]; rfl) | (simp only [tocvs, tocv, toboxes, tobox, updH_at, Nat.reduceEqDiff, ↓reduceIte, hcl]; rfl)) (by simp) ?_
      simp (disch := omega) only [wk, tis, Int.reduceNe, Int.reduceEq, Int.reduceLT, Int.reduceLE, Int.reduceAdd, Int.reduceSub, Int.reduceNeg, Int.reduceMul, Int.reduceToNat, Nat.reduceSub, Nat.reduceMul, Nat.reduceLeDiff, Nat.reduceAdd, Nat.reduceLT, Nat.reduceEqDiff, reduceCtorEq, ↓reduceIte, rqs, beq_self_eq_true, hcl]
      refine call_by (fr) (by first | rfl | (simp only [tocvs, tocv, hcl]; rfl) | (simp only [tocvs, tocv, toboxes, tobox, updH_at, Nat.reduceEqDiff, ↓reduceIte, hcl]; rfl)) (by simp) ?_
      simp (disch := omega) only [wk, tis, Int.reduceNe, Int.reduceEq, Int.reduceLT, Int.reduceLE, Int.reduceAdd, Int.reduceSub, Int.reduceNeg, Int.reduceMul, Int.reduceToNat, Nat.reduceSub, Nat.reduceMul, Nat.reduceLeDiff, Nat.reduceAdd, Nat.reduceLT, Nat.reduceEqDiff, reduceCtorEq, ↓reduceIte, rqs, beq_self_eq_true, hcl]
      refine call_by (sr) (by first | rfl | (simp only [tocvs, tocv, hcl]; rfl) | (simp only [tocvs, tocv, toboxes, tobox, updH_at, Nat.reduceEqDiff, ↓reduceIte, hcl]; rfl)) (by simp) ?_
      simp (disch := omega) only [wk, tis, Int.reduceNe, Int.reduceEq, Int.reduceLT, Int.reduceLE, Int.reduceAdd, Int.reduceSub, Int.reduceNeg, Int.reduceMul, Int.reduceToNat, Nat.reduceSub, Nat.reduceMul, Nat.reduceLeDiff, Nat.reduceAdd, Nat.reduceLT, Nat.reduceEqDiff, reduceCtorEq, ↓reduceIte, rqs, beq_self_eq_true, hcl]
      first | done | rfl | (cases b <;> rfl)
  · have h0' : 0 < (p.length : Int) := by omega
    simp (disch := omega) only [wk, tis, Int.reduceNe, Int.reduceEq, Int.reduceLT, Int.reduceLE, Int.reduceAdd, Int.reduceSub, Int.reduceNeg, Int.reduceMul, Int.reduceToNat, Nat.reduceSub, Nat.reduceMul, Nat.reduceLeDiff, Nat.reduceAdd, Nat.reduceLT, Nat.reduceEqDiff, reduceCtorEq, ↓reduceIte, rqs, beq_self_eq_true, h0', hcl]
    refine call_by (mo1) (by first | rfl | (simp only [tocvs, tocv, hcl]; rfl) | (simp only [tocvs, tocv, toboxes, tobox, updH_at, Nat.reduceEqDiff, ↓reduceIte, hcl]; rfl)) (by simp) ?_
    simp (disch := omega) only [wk, tis, Int.reduceNe, Int.reduceEq, Int.reduceLT, Int.reduceLE, Int.reduceAdd, Int.reduceSub, Int.reduceNeg, Int.reduceMul, Int.reduceToNat, Nat.reduceSub, Nat.reduceMul, Nat.reduceLeDiff, Nat.reduceAdd, Nat.reduceLT, Nat.reduceEqDiff, reduceCtorEq, ↓reduceIte, rqs, beq_self_eq_true, hcl]
    refine call_by (mo2) (by first | rfl | (simp only [tocvs, tocv, hcl]; rfl) | (simp only [tocvs, tocv, toboxes, tobox, updH_at, Nat.reduceEqDiff, ↓reduceIte, hcl]; rfl)) (by simp) ?_
    simp (disch := omega) only [wk, tis, Int.reduceNe, Int.reduceEq, Int.reduceLT, Int.reduceLE, Int.reduceAdd, Int.reduceSub, Int.reduceNeg, Int.reduceMul, Int.reduceToNat, Nat.reduceSub, Nat.reduceMul, Nat.reduceLeDiff, Nat.reduceAdd, Nat.reduceLT, Nat.reduceEqDiff, reduceCtorEq, ↓reduceIte, rqs, beq_self_eq_true, hcl]
    refine call_by (mo3) (by first | rfl | (simp only [tocvs, tocv, hcl]; rfl) | (simp only [tocvs, tocv, toboxes, tobox, updH_at, Nat.reduceEqDiff, ↓reduceIte, hcl]; rfl)) (by simp) ?_
    simp (disch := omega) only [wk, tis, Int.reduceNe, Int.reduceEq, Int.reduceLT, Int.reduceLE, Int.reduceAdd, Int.reduceSub, Int.reduceNeg, Int.reduceMul, Int.reduceToNat, Nat.reduceSub, Nat.reduceMul, Nat.reduceLeDiff, Nat.reduceAdd, Nat.reduceLT, Nat.reduceEqDiff, reduceCtorEq, ↓reduceIte, rqs, beq_self_eq_true, hcl]
    rcases s2 with ⟨hgr, rfl, rfl⟩ | ⟨hgr, rfl, fr, sr⟩
    · rw [hgr] at gr
      refine call_by (gr) (by first | rfl | (simp only [tocvs, tocv, hcl]; rfl) | (simp only [tocvs, tocv, toboxes, tobox, updH_at, Nat.reduceEqDiff, ↓reduceIte, hcl]; rfl)) (by simp) ?_
      simp (disch := omega) only [wk, tis, Int.reduceNe, Int.reduceEq, Int.reduceLT, Int.reduceLE, Int.reduceAdd, Int.reduceSub, Int.reduceNeg, Int.reduceMul, Int.reduceToNat, Nat.reduceSub, Nat.reduceMul, Nat.reduceLeDiff, Nat.reduceAdd, Nat.reduceLT, Nat.reduceEqDiff, reduceCtorEq, ↓reduceIte, rqs, beq_self_eq_true, hcl]
      try rfl
    · rw [hgr] at gr
      refine call_by (gr) (by first | rfl | (simp only [tocvs, tocv, hcl]; rfl) | (simp only [tocvs, tocv, toboxes, tobox, updH_at, Nat.reduceEqDiff, ↓reduceIte, hcl]; rfl)) (by simp) ?_
      simp (disch := omega) only [wk, tis, Int.reduceNe, Int.reduceEq, Int.reduceLT, Int.reduceLE, Int.reduceAdd, Int.reduceSub, Int.reduceNeg, Int.reduceMul, Int.reduceToNat, Nat.reduceSub, Nat.reduceMul, Nat.reduceLeDiff, Nat.reduceAdd, Nat.reduceLT, Nat.reduceEqDiff, reduceCtorEq, ↓reduceIte, rqs, beq_self_eq_true, hcl]
      refine call_by (fp) (by first | rfl | (simp only [tocvs, tocv, hcl]; rfl) | (simp only [tocvs, tocv, toboxes, tobox, updH_at, Nat.reduceEqDiff, ↓reduceIte, hcl]; rfl)) (by simp) ?_
      simp (disch := omega) only [wk, tis, Int.reduceNe, Int.reduceEq, Int.reduceLT, Int.reduceLE, Int.reduceAdd, Int.reduceSub, Int.reduceNeg, Int.reduceMul, Int.reduceToNat, Nat.reduceSub, Nat.reduceMul, Nat.reduceLeDiff, Nat.reduceAdd, Nat.reduceLT, Nat.reduceEqDiff, reduceCtorEq, ↓reduceIte, rqs, beq_self_eq_true, hcl]
      refine call_by (fr) (by first | rfl | (simp only [tocvs, tocv, hcl]; rfl) | (simp only [tocvs, tocv, toboxes, tobox, updH_at, Nat.reduceEqDiff, ↓reduceIte, hcl]; rfl)) (by simp) ?_
      simp (disch := omega) only [wk, tis, Int.reduceNe, Int.reduceEq, Int.reduceLT, Int.reduceLE, Int.reduceAdd, Int.reduceSub, Int.reduceNeg, Int.reduceMul, Int.reduceToNat, Nat.reduceSub, Nat.reduceMul, Nat.reduceLeDiff, Nat.reduceAdd, Nat.reduceLT, Nat.reduceEqDiff, reduceCtorEq, ↓reduceIte, rqs, beq_self_eq_true, hcl]
      refine call_by (sr) (by first | rfl | (simp only [tocvs, tocv, hcl]; rfl) | (simp only [tocvs, tocv, toboxes, tobox, updH_at, Nat.reduceEqDiff, ↓reduceIte, hcl]; rfl)) (by simp) ?_
      simp (disch := omega) only [wk, tis, Int.reduceNe, Int.reduceEq, Int.reduceLT, Int.reduceLE, Int.reduceAdd, Int.reduceSub, Int.reduceNeg, Int.reduceMul, Int.reduceToNat, Nat.reduceSub, Nat.reduceMul, Nat.reduceLeDiff, Nat.reduceAdd, Nat.reduceLT, Nat.reduceEqDiff, reduceCtorEq, ↓reduceIte, rqs, beq_self_eq_true, hcl]
      first | done | rfl | (cases b <;> rfl)

theorem forms_law (p r : List RQ) (n : Int) (hp : BQ 1048576 1048576 p) (hr : BQ 1048576 1048576 r) (hn1 : -9223372036854775808 ≤ n) (hn2 : n ≤ 9223372036854775807) : AC Tryz.prog 6 [cqw p, cqw r, ci n] none [cb true] := by
  cases hg : gd p with
  | false => exact forms_bad p r n hp hr hg
  | true => exact forms_good p r n hp hr hg
end Go.Proofs.YtjadkhkgmdikiaaGreat

namespace Go.Proofs.YtjadkhkgmdikiaaGreat
open Go Go.Proofs Go.AL
set_option linter.unusedSimpArgs false
set_option linter.unusedVariables false

theorem take_min40 {α : Type} (l : List α) : l.take (min (l.length : Int) 40).toNat = l.take 40 := by
  rcases Nat.le_total l.length 40 with h | h
  · rw [List.take_of_length_le (i := 40) h, List.take_of_length_le (by omega)]
  · congr 1; omega
theorem few10_ok (p : List RQ) (hl : p.length ≤ 9223372036854775807) : AC Tryz.prog 31 [cqw p] none [cqw (p.take 40)] := by
  have e := take_min40 p
  refine AC.by_walk (rs := [.tmp 2]) ords Tryz.func31 (by rfl) (by rfl) (by rfl) (by rfl) (by rfl) ?_
  simp (disch := omega) only [wk, tis, Int.reduceNe, Int.reduceEq, Int.reduceLT, Int.reduceLE, Int.reduceAdd, Int.reduceSub, Int.reduceNeg, Int.reduceMul, Int.reduceToNat, Nat.reduceSub, Nat.reduceMul, Nat.reduceLeDiff, Nat.reduceAdd, Nat.reduceLT, Nat.reduceEqDiff, reduceCtorEq, ↓reduceIte, rqs, ilims_len, ilims_at, e]
  try rfl
theorem BQ.few {n k : Nat} {p : List RQ} (h : BQ n k p) : BQ 40 k (p.take 40) := ⟨by rw [List.length_take]; omega, fun r hr => h.2 r (List.mem_of_mem_take hr)⟩

theorem pq_cqs (X : List Rat) : pq (qvs (cqs X)) = pq X := by rw [qvs_cqs, pq_trimq]
theorem cqs_pq {X Y : List Rat} (h : pq X = pq Y) : cqs X = cqs Y := cqs_ext (pq_eq h)
theorem pq_subq (X Y : List Rat) : pq (subq X Y) = pq X - pq Y := PQ.ext fun k => cfq_subq X Y k

theorem qpmul_g {p q : List RQ} {n k : Nat} {X Y : List Rat} (hp : GQ n k p) (hq : GQ n k q) (hn : n ≤ 2 ^ 28) (hM : n * k + k + 2 ≤ 2 ^ 34) (hk : 1 ≤ k) (ex : pq (qvs p) = pq X) (ey : pq (qvs q) = pq Y) : AC Tryz.prog 53 [cqw p, cqw q] none [cqp (mulq X Y), ci 0] := by
  have h := qpmul_ok p q n k hp hq hn hM hk
  rwa [show cqp (mulq (qvs p) (qvs q)) = cqp (mulq X Y) from congrArg cqw (cqs_pq (by rw [pq_mulq, pq_mulq, ex, ey]))] at h
theorem qpadd_g {p q : List RQ} {K : Nat} {X Y : List Rat} (hp : GQ (2 ^ 30) K p) (hq : GQ (2 ^ 30) K q) (hK : K ≤ 2 ^ 35) (hK1 : 1 ≤ K) (ex : pq (qvs p) = pq X) (ey : pq (qvs q) = pq Y) : AC Tryz.prog 52 [cqw p, cqw q] none [cqp (addq X Y), ci 0] := by
  have h := qpadd_ok p q K hp hq hK hK1
  rwa [show cqp (addq (qvs p) (qvs q)) = cqp (addq X Y) from congrArg cqw (cqs_pq (by rw [pq_addq, pq_addq, ex, ey]))] at h
theorem qpsub_g {p q : List RQ} {K : Nat} {X Y : List Rat} (hp : GQ (2 ^ 30) K p) (hq : GQ (2 ^ 30) K q) (hK : K ≤ 2 ^ 35) (hK1 : 1 ≤ K) (ex : pq (qvs p) = pq X) (ey : pq (qvs q) = pq Y) : AC Tryz.prog 62 [cqw p, cqw q] none [cqp (subq X Y), ci 0] := by
  have h := qpsub_ok p q K hp hq hK hK1
  rwa [show cqp (subq (qvs p) (qvs q)) = cqp (subq X Y) from congrArg cqw (cqs_pq (by rw [pq_subq, pq_subq, ex, ey]))] at h
theorem qpnorm_g {p : List RQ} {X : List Rat} (hp : GQ (2 ^ 40) (2 ^ 38) p) (ex : pq (qvs p) = pq X) : AC Tryz.prog 43 [cqw p] none [cqp X, ci 0] := by
  have h := qpnorm_ok p hp
  rwa [show cqp (qvs p) = cqp X from congrArg cqw (cqs_pq ex)] at h

/-! ### Derivative, integral -/
theorem qz_nat1 {i : Nat} (h : i < W) : qz (((i : Nat) : Int) : Rat) ≤ 1 := by
  have h1 := qz_int (i : Int)
  have h2 : zl (i : Int) ≤ 1 := zl_w (by simpa using h)
  omega
theorem derq_len (A : List Rat) : (derq A).length = A.length - 1 := by simp [derq]
theorem derq_trim (A : List Rat) : cqs (derq (trimq A)) = cqs (derq A) := cqs_ext fun k => by rw [cfq_derq, cfq_derq, cfq_trimq]
theorem QB.derq {n k : Nat} {A : List Rat} (h : QB n k A) (hn : n ≤ 2 ^ 40) (hk : 1 ≤ k) : QB n (k + 1) (derq A) := .of (by rw [derq_len]; have := h.1; omega) fun i => by
  by_cases hi : i + 1 < A.length
  · rw [cfq_derq, ← Rat.intCast_natCast]
    have h1 := qz_mul (cfq A (i + 1)) (((i + 1 : Nat) : Int) : Rat)
    have h2 := h.cz hk (i + 1)
    have h3 := qz_nat1 (i := i + 1) (by have := h.1; simp only [W]; omega)
    omega
  · rw [cfq_ge (by rw [derq_len]; omega), qz_zero]; omega

theorem qderiv_ok (p : List RQ) (n k : Nat) (h : GQ n k p) (hn : n ≤ 2 ^ 40) (hk : k ≤ 2 ^ 34) (hk1 : 1 ≤ k) : AC Tryz.prog 64 [cqw p] none [cqp (derq (qvs p)), ci 0] := by
  have nm := qpnorm_ok p (h.mono hn (by omega))
  have hA := h.qb.trimq
  rw [show cqp (derq (qvs p)) = cqp (derq (trimq (qvs p))) from congrArg cqw (derq_trim _).symm]
  refine AC.by_walk (rs := [.tmp 2, .tmp 3]) ords Tryz.func64 (by rfl) (by rfl) (by rfl) (by rfl) (by rfl) ?_
  simp (disch := omega) only [wk, tis, Int.reduceNe, Int.reduceEq, Int.reduceLT, Int.reduceLE, Int.reduceAdd, Int.reduceSub, Int.reduceNeg, Int.reduceMul, Int.reduceToNat, Nat.reduceSub, Nat.reduceMul, Nat.reduceLeDiff, Nat.reduceAdd, Nat.reduceLT, Nat.reduceEqDiff, reduceCtorEq, ↓reduceIte, rqs, ilims_len, ilims_at]
  refine call_by (nm) (by rfl) (by simp) ?_
  simp (disch := omega) only [wk, tis, Int.reduceNe, Int.reduceEq, Int.reduceLT, Int.reduceLE, Int.reduceAdd, Int.reduceSub, Int.reduceNeg, Int.reduceMul, Int.reduceToNat, Nat.reduceSub, Nat.reduceMul, Nat.reduceLeDiff, Nat.reduceAdd, Nat.reduceLT, Nat.reduceEqDiff, reduceCtorEq, ↓reduceIte, rqs, ilims_len, ilims_at]
  unfold cqs
  generalize trimq (qvs p) = A at *
  have hAl := hA.1
  have hq : (A.map crat).length = A.length := List.length_map _
  have hdl := derq_len A
  have hD := hA.derq hn hk1
  have t := qtrim_own (derq A) (hD.mono (by omega) (by omega))
  refine aloop_nil 6 6 31 3 (by simp (disch := omega) only [wk, tis, Int.reduceNe, Int.reduceEq, Int.reduceLT, Int.reduceLE, Int.reduceAdd, Int.reduceSub, Int.reduceNeg, Int.reduceMul, Int.reduceToNat, Nat.reduceSub, Nat.reduceMul, Nat.reduceLeDiff, Nat.reduceAdd, Nat.reduceLT, Nat.reduceEqDiff, reduceCtorEq, ↓reduceIte, rqs, ilims_len, ilims_at]) (fun f H => ∃ (i st : Nat), i ≤ A.length - 1 ∧ f 7 = .iv (.int .i64 ((i : Int) + 1)) ∧ f 4 = .iv (.sl (rats (A.map crat))) ∧ f 6 = .hs 6 st ∧ H 6 = .blk false st 31 3 (rats (((derq A).take i).map crat))) (fun f H => (A.length - intAt f 7).toNat) ?_ ?_
  · refine ⟨0, 1, by omega, ?_⟩
    simp (disch := omega) only [wk, tis, Int.reduceNe, Int.reduceEq, Int.reduceLT, Int.reduceLE, Int.reduceAdd, Int.reduceSub, Int.reduceNeg, Int.reduceMul, Int.reduceToNat, Nat.reduceSub, Nat.reduceMul, Nat.reduceLeDiff, Nat.reduceAdd, Nat.reduceLT, Nat.reduceEqDiff, reduceCtorEq, ↓reduceIte, rqs, ilims_len, ilims_at, ghostF, ghostH, List.take_zero, List.map_nil, show ((0 : Nat) : Int) + 1 = 1 from rfl]
  rintro f H ⟨i, st, hi, hF⟩
  rw [intAt_of hF.1]
  simp (disch := omega) only [wk, tis, Int.reduceNe, Int.reduceEq, Int.reduceLT, Int.reduceLE, Int.reduceAdd, Int.reduceSub, Int.reduceNeg, Int.reduceMul, Int.reduceToNat, Nat.reduceSub, Nat.reduceMul, Nat.reduceLeDiff, Nat.reduceAdd, Nat.reduceLT, Nat.reduceEqDiff, reduceCtorEq, ↓reduceIte, rqs, ilims_len, ilims_at, hF]
  refine if_by (fun hlt => ?_) (fun hlt => ?_)
  · rw [hq] at hlt
    have hlt' : i + 1 < A.length := by omega
    have hrq : (((derq A).take i).map crat).length = i := by rw [List.length_map, List.length_take]; omega
    have e := cratq_get hlt'
    have ei : ((i : Int) + 1) = ((i + 1 : Nat) : Int) := by omega
    have o := qof_ok ((i + 1 : Nat) : Int) 1 (by omega) (by omega) (by omega) (by omega) (by omega)
    rw [Rat.intCast_one, show (((i + 1 : Nat) : Int) : Rat) / 1 = (((i + 1 : Nat) : Int) : Rat) by grind] at o
    have z1 := hA.cz hk1 (i + 1)
    have z2 := qz_nat1 (i := i + 1) (by simp only [W]; omega)
    have m := qmul_ok (crat (cfq A (i + 1))) (crat (((i + 1 : Nat) : Int) : Rat)) (szq_crat (by omega)) (szq_crat (by omega)) (nv_crat0 _) (nv_crat0 _)
    rw [qv_crat, qv_crat, show cfq A (i + 1) * (((i + 1 : Nat) : Int) : Rat) = cfq (derq A) i by rw [cfq_derq, Rat.intCast_natCast]] at m
    rw [ei] at hF
    simp (disch := omega) only [wk, tis, Int.reduceNe, Int.reduceEq, Int.reduceLT, Int.reduceLE, Int.reduceAdd, Int.reduceSub, Int.reduceNeg, Int.reduceMul, Int.reduceToNat, Nat.reduceSub, Nat.reduceMul, Nat.reduceLeDiff, Nat.reduceAdd, Nat.reduceLT, Nat.reduceEqDiff, reduceCtorEq, ↓reduceIte, rqs, ilims_len, ilims_at, hF, hq, hrq, e, ei]
    refine call_by (o) (by first | rfl | (simp only [tocvs, tocv, hF, hq, hrq, e, ei]; rfl) | (simp only [tocvs, tocv, toboxes, tobox, updH_at, Nat.reduceEqDiff, ↓reduceIte, hF, hq, hrq, e, ei]; rfl)) (by simp) ?_
    simp (disch := omega) only [wk, tis, Int.reduceNe, Int.reduceEq, Int.reduceLT, Int.reduceLE, Int.reduceAdd, Int.reduceSub, Int.reduceNeg, Int.reduceMul, Int.reduceToNat, Nat.reduceSub, Nat.reduceMul, Nat.reduceLeDiff, Nat.reduceAdd, Nat.reduceLT, Nat.reduceEqDiff, reduceCtorEq, ↓reduceIte, rqs, ilims_len, ilims_at, hF, hq, hrq, e, ei]
    refine ⟨tmps_by (by kernel_rfl), ?_⟩
    refine call_by (m) (by first | rfl | (simp only [tocvs, tocv, hF, hq, hrq, e, ei]; rfl) | (simp only [tocvs, tocv, toboxes, tobox, updH_at, Nat.reduceEqDiff, ↓reduceIte, hF, hq, hrq, e, ei]; rfl)) (by simp) ?_
    simp (disch := omega) only [wk, tis, Int.reduceNe, Int.reduceEq, Int.reduceLT, Int.reduceLE, Int.reduceAdd, Int.reduceSub, Int.reduceNeg, Int.reduceMul, Int.reduceToNat, Nat.reduceSub, Nat.reduceMul, Nat.reduceLeDiff, Nat.reduceAdd, Nat.reduceLT, Nat.reduceEqDiff, reduceCtorEq, ↓reduceIte, rqs, ilims_len, ilims_at, hF, hq, hrq, e, ei]
    first | exact log_by (by kernel_rfl) | refine ⟨log_by (by kernel_rfl), ?_⟩
    have et := takeq_snoc (q := derq A) (i := i) (by omega)
    refine ⟨⟨i + 1, st + 1, by omega, ?_⟩, by omega⟩
    rw [et, List.map_append]
    (repeat' apply And.intro) <;> first | rfl | omega
  · rw [hq] at hlt
    simp (disch := omega) only [wk, tis, Int.reduceNe, Int.reduceEq, Int.reduceLT, Int.reduceLE, Int.reduceAdd, Int.reduceSub, Int.reduceNeg, Int.reduceMul, Int.reduceToNat, Nat.reduceSub, Nat.reduceMul, Nat.reduceLeDiff, Nat.reduceAdd, Nat.reduceLT, Nat.reduceEqDiff, reduceCtorEq, ↓reduceIte, rqs, ilims_len, ilims_at, hF]
    rw [List.take_of_length_le (by omega)] at hF
    refine call_by (t) (by first | rfl | (simp only [tocvs, tocv, hF]; rfl) | (simp only [tocvs, tocv, toboxes, tobox, updH_at, Nat.reduceEqDiff, ↓reduceIte, hF]; rfl)) (by simp) ?_
    simp (disch := omega) only [wk, tis, Int.reduceNe, Int.reduceEq, Int.reduceLT, Int.reduceLE, Int.reduceAdd, Int.reduceSub, Int.reduceNeg, Int.reduceMul, Int.reduceToNat, Nat.reduceSub, Nat.reduceMul, Nat.reduceLeDiff, Nat.reduceAdd, Nat.reduceLT, Nat.reduceEqDiff, reduceCtorEq, ↓reduceIte, rqs, ilims_len, ilims_at, hF]
theorem qderiv_g {p : List RQ} {n k : Nat} {X : List Rat} (h : GQ n k p) (hn : n ≤ 2 ^ 40) (hk : k ≤ 2 ^ 34) (hk1 : 1 ≤ k) (ex : pq (qvs p) = pq X) : AC Tryz.prog 64 [cqw p] none [cqp (derq X), ci 0] := by
  have m := qderiv_ok p n k h hn hk hk1
  rwa [show cqp (derq (qvs p)) = cqp (derq X) from congrArg cqw (cqs_pq (by rw [pq_derq, pq_derq, ex]))] at m
theorem qderiv_bad (p : List RQ) (h : BQ (2 ^ 40) (2 ^ 38) p) (hg : gd p = false) : AC Tryz.prog 64 [cqw p] none [cqw [], ci 1] := by
  have n := qpnorm_bad p h hg
  refine AC.by_walk (rs := [.tmp 2, .tmp 3]) ords Tryz.func64 (by rfl) (by rfl) (by rfl) (by rfl) (by rfl) ?_
  simp (disch := omega) only [wk, tis, Int.reduceNe, Int.reduceEq, Int.reduceLT, Int.reduceLE, Int.reduceAdd, Int.reduceSub, Int.reduceNeg, Int.reduceMul, Int.reduceToNat, Nat.reduceSub, Nat.reduceMul, Nat.reduceLeDiff, Nat.reduceAdd, Nat.reduceLT, Nat.reduceEqDiff, reduceCtorEq, ↓reduceIte, rqs, ilims_len, ilims_at]
  refine call_by (n) (by rfl) (by simp) ?_
  simp (disch := omega) only [wk, tis, Int.reduceNe, Int.reduceEq, Int.reduceLT, Int.reduceLE, Int.reduceAdd, Int.reduceSub, Int.reduceNeg, Int.reduceMul, Int.reduceToNat, Nat.reduceSub, Nat.reduceMul, Nat.reduceLeDiff, Nat.reduceAdd, Nat.reduceLT, Nat.reduceEqDiff, reduceCtorEq, ↓reduceIte, rqs, ilims_len, ilims_at]
  try rfl

/-- Without a constant term. -/
def intl (A : List Rat) : List Rat := (List.range A.length).map fun i => cfq A i * (1 / (((i + 1 : Nat) : Int) : Rat))
def intq (A : List Rat) : List Rat := if A = [] then [] else 0 :: intl A
theorem intq_def (A : List Rat) : intq A = if A = [] then [] else 0 :: intl A := rfl
theorem intl_len (A : List Rat) : (intl A).length = A.length := by simp [intl]
theorem cfq_intl (A : List Rat) (i : Nat) : cfq (intl A) i = cfq A i * (1 / (((i + 1 : Nat) : Int) : Rat)) := by
  by_cases h : i < A.length
  · rw [intl, cfq, List.getD, List.getElem?_map, List.getElem?_range h]; rfl
  · rw [cfq_ge (by rw [intl_len]; omega), cfq_ge (q := A) (by omega), Rat.zero_mul]
theorem intr_ne (i : Nat) : (((i + 1 : Nat) : Int) : Rat) ≠ 0 := fun h => by have := Rat.intCast_eq_zero_iff.mp h; omega
theorem intq_trim {A : List Rat} (h : trimq A = A) : trimq (intq A) = intq A := by
  unfold intq
  split
  · rfl
  · rename_i hA
    have h0 : A.length ≠ 0 := fun e => hA (List.length_eq_zero_iff.mp e)
    have ht := trimq_full h
    have hp := cfq_tzq_pred (q := A) (by omega)
    rw [ht] at hp
    have hc : cfq (0 :: intl A) A.length ≠ 0 := by
      rw [show A.length = (A.length - 1) + 1 by omega, cfq_cons_succ, cfq_intl]
      intro e
      rcases Rat.mul_eq_zero.mp e with e | e
      · exact hp e
      · have := intr_ne (A.length - 1)
        have h1 : (1 : Rat) / (((A.length - 1 + 1 : Nat) : Int) : Rat) * (((A.length - 1 + 1 : Nat) : Int) : Rat) = 1 := Rat.div_mul_cancel this
        rw [e] at h1
        grind
    have := tzq_spec hc fun k hk => cfq_ge (by rw [List.length_cons, intl_len]; omega)
    rw [trimq, this, List.take_of_length_le (by rw [List.length_cons, intl_len]; omega)]
theorem derq_intq {A : List Rat} (k : Nat) : cfq (derq (intq A)) k = cfq A k := by
  rw [cfq_derq]
  unfold intq
  split
  · rename_i h; rw [h]; rw [cfq_nil, cfq_nil]; grind
  · rw [cfq_cons_succ, cfq_intl]
    have := intr_ne k
    rw [← Rat.intCast_natCast]
    grind
theorem qz_inv1 {i : Nat} (h : i + 1 < W) : qz (1 / (((i + 1 : Nat) : Int) : Rat)) ≤ 1 := by
  have := qz_divn (c := 1) (d := i + 1) (M := 1) (by omega) (zl_w (by decide)) (wd_w h)
  rwa [Rat.intCast_one] at this
theorem QB.intl {n k : Nat} {A : List Rat} (h : QB n k A) (hn : n ≤ 2 ^ 40) (hk : 1 ≤ k) : QB n (k + 1) (intl A) := .of (by rw [intl_len]; exact h.1) fun i => by
  by_cases hi : i < A.length
  · rw [cfq_intl]
    have h1 := qz_mul (cfq A i) (1 / (((i + 1 : Nat) : Int) : Rat))
    have h2 := h.cz hk i
    have h3 := qz_inv1 (i := i) (by have := h.1; simp only [W]; omega)
    omega
  · rw [cfq_ge (by rw [intl_len]; omega), qz_zero]; omega
theorem QB.intq {n k : Nat} {A : List Rat} (h : QB n k A) (hn : n ≤ 2 ^ 40) (hk : 1 ≤ k) : QB (n + 1) (k + 1) (intq A) := by
  rw [intq_def]
  split
  · exact ⟨Nat.zero_le _, fun c hc => nomatch hc⟩
  · have hi := h.intl hn hk
    refine ⟨by rw [List.length_cons, intl_len]; have := h.1; omega, fun c hc => ?_⟩
    rcases List.mem_cons.1 hc with rfl | hc
    · rw [qz_zero]; omega
    · exact hi.2 c hc

theorem qintegral_ok (p : List RQ) (n k : Nat) (h : GQ n k p) (hn : n ≤ 2 ^ 40) (hk : k ≤ 2 ^ 34) (hk1 : 1 ≤ k) : AC Tryz.prog 65 [cqw p] none [cqp (intq (trimq (qvs p))), ci 0] := by
  have nm := qpnorm_ok p (h.mono hn (by omega))
  have hA := h.qb.trimq
  have tt := trimq_trimq (qvs p)
  refine AC.by_walk (rs := [.tmp 2, .tmp 3]) ords Tryz.func65 (by rfl) (by rfl) (by rfl) (by rfl) (by rfl) ?_
  simp (disch := omega) only [wk, tis, Int.reduceNe, Int.reduceEq, Int.reduceLT, Int.reduceLE, Int.reduceAdd, Int.reduceSub, Int.reduceNeg, Int.reduceMul, Int.reduceToNat, Nat.reduceSub, Nat.reduceMul, Nat.reduceLeDiff, Nat.reduceAdd, Nat.reduceLT, Nat.reduceEqDiff, reduceCtorEq, ↓reduceIte, rqs, ilims_len, ilims_at]
  refine call_by (nm) (by rfl) (by simp) ?_
  simp (disch := omega) only [wk, tis, Int.reduceNe, Int.reduceEq, Int.reduceLT, Int.reduceLE, Int.reduceAdd, Int.reduceSub, Int.reduceNeg, Int.reduceMul, Int.reduceToNat, Nat.reduceSub, Nat.reduceMul, Nat.reduceLeDiff, Nat.reduceAdd, Nat.reduceLT, Nat.reduceEqDiff, reduceCtorEq, ↓reduceIte, rqs, ilims_len, ilims_at]
  unfold cqs
  generalize trimq (qvs p) = A at *
  have hAl := hA.1
  have hq : (A.map crat).length = A.length := List.length_map _
  have hil := intl_len A
  have hI := intq_trim tt
  by_cases h0 : A.length = 0
  · have h0' : ((A.map crat).length : Int) = 0 := by omega
    have e : A = [] := List.length_eq_zero_iff.mp h0
    rw [show cqp (intq A) = cqw [] by rw [e]; rfl]
    simp (disch := omega) only [wk, tis, Int.reduceNe, Int.reduceEq, Int.reduceLT, Int.reduceLE, Int.reduceAdd, Int.reduceSub, Int.reduceNeg, Int.reduceMul, Int.reduceToNat, Nat.reduceSub, Nat.reduceMul, Nat.reduceLeDiff, Nat.reduceAdd, Nat.reduceLT, Nat.reduceEqDiff, reduceCtorEq, ↓reduceIte, rqs, ilims_len, ilims_at, h0']
    try rfl
  · have h0' : ¬ ((A.map crat).length : Int) = 0 := by omega
    have e : intq A = 0 :: intl A := by unfold intq; rw [if_neg (fun e => h0 (by rw [e]; rfl))]
    have e2 : cqp (intq A) = cqw (crat 0 :: (intl A).map crat) := congrArg cqw (by rw [cqs, hI, e]; rfl)
    rw [e2]
    have e3 : [qrow (crat 0)] = rats (crat 0 :: ((intl A).take 0).map crat) := rfl
    simp (disch := omega) only [wk, tis, Int.reduceNe, Int.reduceEq, Int.reduceLT, Int.reduceLE, Int.reduceAdd, Int.reduceSub, Int.reduceNeg, Int.reduceMul, Int.reduceToNat, Nat.reduceSub, Nat.reduceMul, Nat.reduceLeDiff, Nat.reduceAdd, Nat.reduceLT, Nat.reduceEqDiff, reduceCtorEq, ↓reduceIte, rqs, ilims_len, ilims_at, h0']
    refine call_by (qnone_ok) (by first | rfl | (simp only [tocvs, tocv, h0']; rfl) | (simp only [tocvs, tocv, toboxes, tobox, updH_at, Nat.reduceEqDiff, ↓reduceIte, h0']; rfl)) (by simp) ?_
    simp (disch := omega) only [wk, tis, Int.reduceNe, Int.reduceEq, Int.reduceLT, Int.reduceLE, Int.reduceAdd, Int.reduceSub, Int.reduceNeg, Int.reduceMul, Int.reduceToNat, Nat.reduceSub, Nat.reduceMul, Nat.reduceLeDiff, Nat.reduceAdd, Nat.reduceLT, Nat.reduceEqDiff, reduceCtorEq, ↓reduceIte, rqs, ilims_len, ilims_at, h0']
    simp (disch := omega) only [wk, tis, Int.reduceNe, Int.reduceEq, Int.reduceLT, Int.reduceLE, Int.reduceAdd, Int.reduceSub, Int.reduceNeg, Int.reduceMul, Int.reduceToNat, Nat.reduceSub, Nat.reduceMul, Nat.reduceLeDiff, Nat.reduceAdd, Nat.reduceLT, Nat.reduceEqDiff, reduceCtorEq, ↓reduceIte, rqs, ilims_len, ilims_at, e3]
    refine aloop_by (fun f H => ∃ (i st : Nat), i ≤ A.length ∧ f 30 = .iv (.int .i64 i) ∧ f 28 = .iv (.sl (rats (A.map crat))) ∧ f 29 = .iv (.int .i64 A.length) ∧ f 6 = .hs 27 st ∧ H 27 = .blk false st 31 3 (rats (crat 0 :: ((intl A).take i).map crat))) (fun f H => (A.length - intAt f 30).toNat) ?_ ?_
    · refine ⟨0, 1, by omega, ?_⟩
      simp (disch := omega) only [wk, tis, Int.reduceNe, Int.reduceEq, Int.reduceLT, Int.reduceLE, Int.reduceAdd, Int.reduceSub, Int.reduceNeg, Int.reduceMul, Int.reduceToNat, Nat.reduceSub, Nat.reduceMul, Nat.reduceLeDiff, Nat.reduceAdd, Nat.reduceLT, Nat.reduceEqDiff, reduceCtorEq, ↓reduceIte, rqs, ilims_len, ilims_at, hq, e3]
    rintro f H ⟨i, st, hi, hF⟩
    rw [intAt_of hF.1]
    simp (disch := omega) only [wk, tis, Int.reduceNe, Int.reduceEq, Int.reduceLT, Int.reduceLE, Int.reduceAdd, Int.reduceSub, Int.reduceNeg, Int.reduceMul, Int.reduceToNat, Nat.reduceSub, Nat.reduceMul, Nat.reduceLeDiff, Nat.reduceAdd, Nat.reduceLT, Nat.reduceEqDiff, reduceCtorEq, ↓reduceIte, rqs, ilims_len, ilims_at, hF]
    refine if_by (fun hlt => ?_) (fun hlt => ?_)
    · have hlt' : i < A.length := by omega
      have hrq : (crat 0 :: ((intl A).take i).map crat).length = i + 1 := by rw [List.length_cons, List.length_map, List.length_take]; omega
      have e := cratq_get hlt'
      have ei : ((i : Int) + 1) = ((i + 1 : Nat) : Int) := by omega
      have o := qof_ok 1 ((i + 1 : Nat) : Int) (by omega) (by omega) (by omega) (by omega) (by omega)
      rw [Rat.intCast_one] at o
      have z1 := hA.cz hk1 i
      have z2 := qz_inv1 (i := i) (by simp only [W]; omega)
      have m := qmul_ok (crat (cfq A i)) (crat (1 / (((i + 1 : Nat) : Int) : Rat))) (szq_crat (by omega)) (szq_crat (by omega)) (nv_crat0 _) (nv_crat0 _)
      rw [qv_crat, qv_crat, ← cfq_intl] at m
      simp (disch := omega) only [wk, tis, Int.reduceNe, Int.reduceEq, Int.reduceLT, Int.reduceLE, Int.reduceAdd, Int.reduceSub, Int.reduceNeg, Int.reduceMul, Int.reduceToNat, Nat.reduceSub, Nat.reduceMul, Nat.reduceLeDiff, Nat.reduceAdd, Nat.reduceLT, Nat.reduceEqDiff, reduceCtorEq, ↓reduceIte, rqs, ilims_len, ilims_at, hF, hq, hrq, e, ei]
      refine call_by (o) (by first | rfl | (simp only [tocvs, tocv, hF, hq, hrq, e, ei]; rfl) | (simp only [tocvs, tocv, toboxes, tobox, updH_at, Nat.reduceEqDiff, ↓reduceIte, hF, hq, hrq, e, ei]; rfl)) (by simp) ?_
      simp (disch := omega) only [wk, tis, Int.reduceNe, Int.reduceEq, Int.reduceLT, Int.reduceLE, Int.reduceAdd, Int.reduceSub, Int.reduceNeg, Int.reduceMul, Int.reduceToNat, Nat.reduceSub, Nat.reduceMul, Nat.reduceLeDiff, Nat.reduceAdd, Nat.reduceLT, Nat.reduceEqDiff, reduceCtorEq, ↓reduceIte, rqs, ilims_len, ilims_at, hF, hq, hrq, e, ei]
      refine call_by (m) (by first | rfl | (simp only [tocvs, tocv, hF, hq, hrq, e, ei]; rfl) | (simp only [tocvs, tocv, toboxes, tobox, updH_at, Nat.reduceEqDiff, ↓reduceIte, hF, hq, hrq, e, ei]; rfl)) (by simp) ?_
      simp (disch := omega) only [wk, tis, Int.reduceNe, Int.reduceEq, Int.reduceLT, Int.reduceLE, Int.reduceAdd, Int.reduceSub, Int.reduceNeg, Int.reduceMul, Int.reduceToNat, Nat.reduceSub, Nat.reduceMul, Nat.reduceLeDiff, Nat.reduceAdd, Nat.reduceLT, Nat.reduceEqDiff, reduceCtorEq, ↓reduceIte, rqs, ilims_len, ilims_at, hF, hq, hrq, e, ei]
      have et := takeq_snoc (q := intl A) (i := i) (by omega)
      refine ⟨⟨i + 1, st + 1, by omega, ?_⟩, by omega⟩
      rw [et, List.map_append]
      (repeat' apply And.intro) <;> first | rfl | omega
    · obtain rfl : i = A.length := by omega
      rw [List.take_of_length_le (by omega)] at hF
      simp (disch := omega) only [wk, tis, Int.reduceNe, Int.reduceEq, Int.reduceLT, Int.reduceLE, Int.reduceAdd, Int.reduceSub, Int.reduceNeg, Int.reduceMul, Int.reduceToNat, Nat.reduceSub, Nat.reduceMul, Nat.reduceLeDiff, Nat.reduceAdd, Nat.reduceLT, Nat.reduceEqDiff, reduceCtorEq, ↓reduceIte, rqs, ilims_len, ilims_at, hF]
      try rfl
theorem qintegral_bad (p : List RQ) (h : BQ (2 ^ 40) (2 ^ 38) p) (hg : gd p = false) : AC Tryz.prog 65 [cqw p] none [cqw [], ci 1] := by
  have n := qpnorm_bad p h hg
  refine AC.by_walk (rs := [.tmp 2, .tmp 3]) ords Tryz.func65 (by rfl) (by rfl) (by rfl) (by rfl) (by rfl) ?_
  simp (disch := omega) only [wk, tis, Int.reduceNe, Int.reduceEq, Int.reduceLT, Int.reduceLE, Int.reduceAdd, Int.reduceSub, Int.reduceNeg, Int.reduceMul, Int.reduceToNat, Nat.reduceSub, Nat.reduceMul, Nat.reduceLeDiff, Nat.reduceAdd, Nat.reduceLT, Nat.reduceEqDiff, reduceCtorEq, ↓reduceIte, rqs, ilims_len, ilims_at]
  refine call_by (n) (by rfl) (by simp) ?_
  simp (disch := omega) only [wk, tis, Int.reduceNe, Int.reduceEq, Int.reduceLT, Int.reduceLE, Int.reduceAdd, Int.reduceSub, Int.reduceNeg, Int.reduceMul, Int.reduceToNat, Nat.reduceSub, Nat.reduceMul, Nat.reduceLeDiff, Nat.reduceAdd, Nat.reduceLT, Nat.reduceEqDiff, reduceCtorEq, ↓reduceIte, rqs, ilims_len, ilims_at]
  try rfl

theorem all0_ok (n : Nat) (hn : n ≤ 100) : AC Tryz.prog 63 [cis (List.replicate n 0)] none [cb true] := by
  have hq : (List.replicate n (0 : Int)).length = n := List.length_replicate ..
  refine AC.by_walk (rs := [.tmp 2]) ords Tryz.func63 (by rfl) (by rfl) (by rfl) (by rfl) (by rfl) ?_
  simp (disch := omega) only [wk, tis, Int.reduceNe, Int.reduceEq, Int.reduceLT, Int.reduceLE, Int.reduceAdd, Int.reduceSub, Int.reduceNeg, Int.reduceMul, Int.reduceToNat, Nat.reduceSub, Nat.reduceMul, Nat.reduceLeDiff, Nat.reduceAdd, Nat.reduceLT, Nat.reduceEqDiff, reduceCtorEq, ↓reduceIte, rqs, ilims_len, ilims_at]
  refine aloop_by (fun f H => ∃ (i : Nat), i ≤ n ∧ f 3 = .iv (.int .i64 i) ∧ f 0 = .iv (.sl (ilims (List.replicate n 0)))) (fun f H => (n - intAt f 3).toNat) ?_ ?_
  · refine ⟨0, by omega, ?_⟩
    simp (disch := omega) only [wk, tis, Int.reduceNe, Int.reduceEq, Int.reduceLT, Int.reduceLE, Int.reduceAdd, Int.reduceSub, Int.reduceNeg, Int.reduceMul, Int.reduceToNat, Nat.reduceSub, Nat.reduceMul, Nat.reduceLeDiff, Nat.reduceAdd, Nat.reduceLT, Nat.reduceEqDiff, reduceCtorEq, ↓reduceIte, rqs, ilims_len, ilims_at]
  rintro f H ⟨i, hi, hF⟩
  rw [intAt_of hF.1]
  simp (disch := omega) only [wk, tis, Int.reduceNe, Int.reduceEq, Int.reduceLT, Int.reduceLE, Int.reduceAdd, Int.reduceSub, Int.reduceNeg, Int.reduceMul, Int.reduceToNat, Nat.reduceSub, Nat.reduceMul, Nat.reduceLeDiff, Nat.reduceAdd, Nat.reduceLT, Nat.reduceEqDiff, reduceCtorEq, ↓reduceIte, rqs, ilims_len, ilims_at, hF]
  refine if_by (fun hlt => ?_) (fun hlt => ?_)
  · have hlt' : i < n := by omega
    have e : (List.replicate n (0 : Int)).getD i 0 = 0 := by simp [List.getD, hlt']
    simp (disch := omega) only [wk, tis, Int.reduceNe, Int.reduceEq, Int.reduceLT, Int.reduceLE, Int.reduceAdd, Int.reduceSub, Int.reduceNeg, Int.reduceMul, Int.reduceToNat, Nat.reduceSub, Nat.reduceMul, Nat.reduceLeDiff, Nat.reduceAdd, Nat.reduceLT, Nat.reduceEqDiff, reduceCtorEq, ↓reduceIte, rqs, ilims_len, ilims_at, hF, hq, e]
    exact ⟨⟨i + 1, by omega, by omega⟩, by omega⟩
  · simp (disch := omega) only [wk, tis, Int.reduceNe, Int.reduceEq, Int.reduceLT, Int.reduceLE, Int.reduceAdd, Int.reduceSub, Int.reduceNeg, Int.reduceMul, Int.reduceToNat, Nat.reduceSub, Nat.reduceMul, Nat.reduceLeDiff, Nat.reduceAdd, Nat.reduceLT, Nat.reduceEqDiff, reduceCtorEq, ↓reduceIte, rqs, ilims_len, ilims_at, hF, hq]
end Go.Proofs.YtjadkhkgmdikiaaGreat

namespace Go.Proofs.YtjadkhkgmdikiaaGreat
open Go Go.Proofs Go.AL
set_option linter.unusedSimpArgs false
set_option linter.unusedVariables false

theorem qp_len (P : List Int) : (qp P).length = P.length := by simp [qp]
theorem tzq_qp (P : List Int) : tzq (qp P) = tz P := by
  rcases Nat.eq_zero_or_pos (tz P) with h | h
  · rw [h]
    exact tzq_zero_iff.mpr fun k => by rw [cfq_qp, tz_zero_iff.mp h k]; rfl
  · have := tzq_spec (q := qp P) (n := tz P - 1) (by
      rw [cfq_qp]
      exact fun e => cf_tz_pred (q := P) (by omega) (Rat.intCast_eq_zero_iff.mp e)) fun k hk => by rw [cfq_qp, cf_ge_tz P (by omega)]; rfl
    omega
theorem qp_trim (P : List Int) : trimq (qp P) = qp (trimz P) := by rw [trimq, tzq_qp, trimz, qp, qp, List.map_take]
theorem qp_num (L : List Int) : (qp L).map (fun c => c.num) = L := by
  rw [qp, List.map_map]
  conv => rhs; rw [← List.map_id L]
  exact List.map_congr_left fun z _ => Rat.num_intCast z

theorem qof10_ok (p : List RI) (h : RP (2 ^ 40) (2 ^ 38) p) : AC Tryz.prog 29 [cw p] none [cqp (qp (pv p))] := by
  have n := pnorm_ok p (h.mono (by omega) (by omega))
  have m := nof_ok 1 (by decide)
  rw [show wd 1 = [1] by decide +kernel] at m
  rw [show cqp (qp (pv p)) = cqw ((qp (trimz (pv p))).map crat) from congrArg cqw (by rw [cqs, qp_trim])]
  refine AC.by_walk (rs := [.tmp 2]) ords Tryz.func29 (by rfl) (by rfl) (by rfl) (by rfl) (by rfl) ?_
  simp (disch := omega) only [wk, tis, Int.reduceNe, Int.reduceEq, Int.reduceLT, Int.reduceLE, Int.reduceAdd, Int.reduceSub, Int.reduceNeg, Int.reduceMul, Int.reduceToNat, Nat.reduceSub, Nat.reduceMul, Nat.reduceLeDiff, Nat.reduceAdd, Nat.reduceLT, Nat.reduceEqDiff, reduceCtorEq, ↓reduceIte, rqs]
  refine call_by (n) (by rfl) (by simp) ?_
  simp (disch := omega) only [wk, tis, Int.reduceNe, Int.reduceEq, Int.reduceLT, Int.reduceLE, Int.reduceAdd, Int.reduceSub, Int.reduceNeg, Int.reduceMul, Int.reduceToNat, Nat.reduceSub, Nat.reduceMul, Nat.reduceLeDiff, Nat.reduceAdd, Nat.reduceLT, Nat.reduceEqDiff, reduceCtorEq, ↓reduceIte, rqs]
  unfold cpoly
  have hAl : (trimz (pv p)).length ≤ 2 ^ 40 := h.pv.trimz.1
  generalize trimz (pv p) = A at *
  have hq : (A.map canon).length = A.length := List.length_map _
  have hql := qp_len A
  simp (disch := omega) only [wk, tis, Int.reduceNe, Int.reduceEq, Int.reduceLT, Int.reduceLE, Int.reduceAdd, Int.reduceSub, Int.reduceNeg, Int.reduceMul, Int.reduceToNat, Nat.reduceSub, Nat.reduceMul, Nat.reduceLeDiff, Nat.reduceAdd, Nat.reduceLT, Nat.reduceEqDiff, reduceCtorEq, ↓reduceIte, rqs, hq]
  refine aloop_nil 3 3 31 3 (by simp (disch := omega) only [wk, tis, Int.reduceNe, Int.reduceEq, Int.reduceLT, Int.reduceLE, Int.reduceAdd, Int.reduceSub, Int.reduceNeg, Int.reduceMul, Int.reduceToNat, Nat.reduceSub, Nat.reduceMul, Nat.reduceLeDiff, Nat.reduceAdd, Nat.reduceLT, Nat.reduceEqDiff, reduceCtorEq, ↓reduceIte, rqs]) (fun f H => ∃ (i st : Nat), i ≤ A.length ∧ f 9 = .iv (.int .i64 i) ∧ f 7 = .iv (.sl (raws (A.map canon))) ∧ f 8 = .iv (.int .i64 A.length) ∧ f 3 = .hs 3 st ∧ H 3 = .blk false st 31 3 (rats (((qp A).take i).map crat))) (fun f H => (A.length - intAt f 9).toNat) ?_ ?_
  · refine ⟨0, 1, by omega, ?_⟩
    simp (disch := omega) only [wk, tis, Int.reduceNe, Int.reduceEq, Int.reduceLT, Int.reduceLE, Int.reduceAdd, Int.reduceSub, Int.reduceNeg, Int.reduceMul, Int.reduceToNat, Nat.reduceSub, Nat.reduceMul, Nat.reduceLeDiff, Nat.reduceAdd, Nat.reduceLT, Nat.reduceEqDiff, reduceCtorEq, ↓reduceIte, rqs, ghostF, ghostH, hq, List.take_zero, List.map_nil]
  rintro f H ⟨i, st, hi, hF⟩
  rw [intAt_of hF.1]
  simp (disch := omega) only [wk, tis, Int.reduceNe, Int.reduceEq, Int.reduceLT, Int.reduceLE, Int.reduceAdd, Int.reduceSub, Int.reduceNeg, Int.reduceMul, Int.reduceToNat, Nat.reduceSub, Nat.reduceMul, Nat.reduceLeDiff, Nat.reduceAdd, Nat.reduceLT, Nat.reduceEqDiff, reduceCtorEq, ↓reduceIte, rqs, hF]
  refine if_by (fun hlt => ?_) (fun hlt => ?_)
  · have hlt' : i < A.length := by omega
    have hrq : (((qp A).take i).map crat).length = i := by rw [List.length_map, List.length_take]; omega
    have e1 := canon_getD A i
    have hrow : [IV.bool (canon (cf A i)).1, IV.sl (lims (canon (cf A i)).2), IV.sl (lims [1])] = qrow (crat (cf A i : Rat)) := by rw [crat_int]
    simp (disch := omega) only [wk, tis, Int.reduceNe, Int.reduceEq, Int.reduceLT, Int.reduceLE, Int.reduceAdd, Int.reduceSub, Int.reduceNeg, Int.reduceMul, Int.reduceToNat, Nat.reduceSub, Nat.reduceMul, Nat.reduceLeDiff, Nat.reduceAdd, Nat.reduceLT, Nat.reduceEqDiff, reduceCtorEq, ↓reduceIte, rqs, hF, hq, hrq, e1]
    refine ⟨tmps_by (by kernel_rfl), ?_⟩
    refine call_by (m) (by first | rfl | (simp only [tocvs, tocv, hF, hq, hrq, e1, hrow]; rfl) | (simp only [tocvs, tocv, toboxes, tobox, updH_at, Nat.reduceEqDiff, ↓reduceIte, hF, hq, hrq, e1, hrow]; rfl)) (by simp) ?_
    simp (disch := omega) only [wk, tis, Int.reduceNe, Int.reduceEq, Int.reduceLT, Int.reduceLE, Int.reduceAdd, Int.reduceSub, Int.reduceNeg, Int.reduceMul, Int.reduceToNat, Nat.reduceSub, Nat.reduceMul, Nat.reduceLeDiff, Nat.reduceAdd, Nat.reduceLT, Nat.reduceEqDiff, reduceCtorEq, ↓reduceIte, rqs, hF, hq, hrq, e1, hrow]
    first | exact log_by (by kernel_rfl) | refine ⟨log_by (by kernel_rfl), ?_⟩
    have et := takeq_snoc (q := qp A) (i := i) (by omega)
    rw [cfq_qp] at et
    refine ⟨⟨i + 1, st + 1, by omega, ?_⟩, by omega⟩
    rw [et, List.map_append, show rats (((qp A).take i).map crat ++ List.map crat [((cf A i : Int) : Rat)]) = rats (((qp A).take i).map crat) ++ [[IV.bool (canon (cf A i)).1, IV.sl (lims (canon (cf A i)).2), IV.sl (lims [1])]] by rw [hrow]; exact List.map_append]
    (repeat' apply And.intro) <;> first | rfl | omega
  · rw [List.take_of_length_le (l := qp A) (by omega)] at hF
    simp (disch := omega) only [wk, tis, Int.reduceNe, Int.reduceEq, Int.reduceLT, Int.reduceLE, Int.reduceAdd, Int.reduceSub, Int.reduceNeg, Int.reduceMul, Int.reduceToNat, Nat.reduceSub, Nat.reduceMul, Nat.reduceLeDiff, Nat.reduceAdd, Nat.reduceLT, Nat.reduceEqDiff, reduceCtorEq, ↓reduceIte, rqs, hF]
    try rfl

theorem tof_ok (p : List RI) (h : RP (2 ^ 40) (2 ^ 38) p) : AC Tryz.prog 30 [cw p] none [cqp (qp (pv p))] := by
  refine AC.by_walk (rs := [.tmp 2]) ords Tryz.func30 (by rfl) (by rfl) (by rfl) (by rfl) (by rfl) ?_
  have hl := h.1
  have hql : (qp (pv p)).length = p.length := by simp [qp, pv_len]
  simp (disch := omega) only [wk, tis, Int.reduceNe, Int.reduceEq, Int.reduceLT, Int.reduceLE, Int.reduceAdd, Int.reduceSub, Int.reduceNeg, Int.reduceMul, Int.reduceToNat, Nat.reduceSub, Nat.reduceMul, Nat.reduceLeDiff, Nat.reduceAdd, Nat.reduceLT, Nat.reduceEqDiff, reduceCtorEq, ↓reduceIte, rqs]
  refine aloop_nil 3 3 31 3 (by simp (disch := omega) only [wk, tis, Int.reduceNe, Int.reduceEq, Int.reduceLT, Int.reduceLE, Int.reduceAdd, Int.reduceSub, Int.reduceNeg, Int.reduceMul, Int.reduceToNat, Nat.reduceSub, Nat.reduceMul, Nat.reduceLeDiff, Nat.reduceAdd, Nat.reduceLT, Nat.reduceEqDiff, reduceCtorEq, ↓reduceIte, rqs]) (fun f H => ∃ (i st : Nat), i ≤ p.length ∧ f 4 = .iv (.int .i64 i) ∧ f 0 = .iv (.sl (raws p)) ∧ f 3 = .hs 3 st ∧ H 3 = .blk false st 31 3 (rats (((qp (pv p)).take i).map crat))) (fun f H => (p.length - intAt f 4).toNat) ?_ ?_
  · refine ⟨0, 1, by omega, ?_⟩
    simp (disch := omega) only [wk, tis, Int.reduceNe, Int.reduceEq, Int.reduceLT, Int.reduceLE, Int.reduceAdd, Int.reduceSub, Int.reduceNeg, Int.reduceMul, Int.reduceToNat, Nat.reduceSub, Nat.reduceMul, Nat.reduceLeDiff, Nat.reduceAdd, Nat.reduceLT, Nat.reduceEqDiff, reduceCtorEq, ↓reduceIte, rqs, ghostF, ghostH, List.take_zero, List.map_nil]
  rintro f H ⟨i, st, hi, hF⟩
  rw [intAt_of hF.1]
  simp (disch := omega) only [wk, tis, Int.reduceNe, Int.reduceEq, Int.reduceLT, Int.reduceLE, Int.reduceAdd, Int.reduceSub, Int.reduceNeg, Int.reduceMul, Int.reduceToNat, Nat.reduceSub, Nat.reduceMul, Nat.reduceLeDiff, Nat.reduceAdd, Nat.reduceLT, Nat.reduceEqDiff, reduceCtorEq, ↓reduceIte, rqs, hF]
  refine if_by (fun hlt => ?_) (fun hlt => ?_)
  · have hq : (((qp (pv p)).take i).map crat).length = i := by rw [List.length_map, List.length_take, hql]; omega
    have m := hZ_ok (p.getD i (false, [])) (h.get i)
    rw [← cf_pv, ← cfq_qp] at m
    simp (disch := omega) only [wk, tis, Int.reduceNe, Int.reduceEq, Int.reduceLT, Int.reduceLE, Int.reduceAdd, Int.reduceSub, Int.reduceNeg, Int.reduceMul, Int.reduceToNat, Nat.reduceSub, Nat.reduceMul, Nat.reduceLeDiff, Nat.reduceAdd, Nat.reduceLT, Nat.reduceEqDiff, reduceCtorEq, ↓reduceIte, rqs, hF, hq]
    refine call_by (m) (by first | rfl | (simp only [tocvs, tocv, hF, hq]; rfl) | (simp only [tocvs, tocv, toboxes, tobox, updH_at, Nat.reduceEqDiff, ↓reduceIte, hF, hq]; rfl)) (by simp) ?_
    simp (disch := omega) only [wk, tis, Int.reduceNe, Int.reduceEq, Int.reduceLT, Int.reduceLE, Int.reduceAdd, Int.reduceSub, Int.reduceNeg, Int.reduceMul, Int.reduceToNat, Nat.reduceSub, Nat.reduceMul, Nat.reduceLeDiff, Nat.reduceAdd, Nat.reduceLT, Nat.reduceEqDiff, reduceCtorEq, ↓reduceIte, rqs, hF, hq]
    have e := takeq_snoc (q := qp (pv p)) (i := i) (by omega)
    refine ⟨⟨i + 1, st + 1, by omega, ?_⟩, by omega⟩
    rw [e, List.map_append]
    (repeat' apply And.intro) <;> first | rfl | omega
  · simp (disch := omega) only [wk, tis, Int.reduceNe, Int.reduceEq, Int.reduceLT, Int.reduceLE, Int.reduceAdd, Int.reduceSub, Int.reduceNeg, Int.reduceMul, Int.reduceToNat, Nat.reduceSub, Nat.reduceMul, Nat.reduceLeDiff, Nat.reduceAdd, Nat.reduceLT, Nat.reduceEqDiff, reduceCtorEq, ↓reduceIte, rqs, hF]
    rw [List.take_of_length_le (by omega)] at hF
    have b := PB.ofZ (h.pv.mono (k' := 2 ^ 38) (Nat.le_refl _) (by omega)) (by omega)
    have m := tform_ok ((qp (pv p)).map crat) b.gq
    rw [qvs_map] at m
    refine call_by (m) (by first | rfl | (simp only [tocvs, tocv, hF]; rfl) | (simp only [tocvs, tocv, toboxes, tobox, updH_at, Nat.reduceEqDiff, ↓reduceIte, hF]; rfl)) (by simp) ?_
    simp (disch := omega) only [wk, tis, Int.reduceNe, Int.reduceEq, Int.reduceLT, Int.reduceLE, Int.reduceAdd, Int.reduceSub, Int.reduceNeg, Int.reduceMul, Int.reduceToNat, Nat.reduceSub, Nat.reduceMul, Nat.reduceLeDiff, Nat.reduceAdd, Nat.reduceLT, Nat.reduceEqDiff, reduceCtorEq, ↓reduceIte, rqs, hF]

/-- The sum of p and c times r. -/
def fma (c : Rat) (a b : Rat) : Rat := a + c * b
theorem fma_zero (c : Rat) : fma c 0 0 = 0 := by unfold fma; grind

theorem tplus_ok (p r : List RQ) (c : RQ) (K : Nat) (hp : GQ (2 ^ 30) K p) (hr : GQ (2 ^ 30) K r) (hc : SzQ K c) (h0 : nv c.2 ≠ 0) (hK : K ≤ 2 ^ 33) (hK1 : 1 ≤ K) : AC Tryz.prog 73 [cqw p, cqq c, cqw r] none [cqp (zipq (fma (qv c)) (qvs p) (qvs r))] := by
  have m := tform_ok p (hp.mono (by omega) (by omega))
  have n := tform_ok r (hr.mono (by omega) (by omega))
  have hA := hp.qb.trimq
  have hB := hr.qb.trimq
  have zc := qz_raw hc h0
  have e : cqp (zipq (fma (qv c)) (qvs p) (qvs r)) = cqp (zipq (fma (qv c)) (trimq (qvs p)) (trimq (qvs r))) := congrArg cqw (cqs_ext fun k => by rw [cfq_zipq (fma_zero _), cfq_zipq (fma_zero _), cfq_trimq, cfq_trimq])
  rw [e]
  refine AC.by_walk (rs := [.tmp 6]) ords Tryz.func73 (by rfl) (by rfl) (by rfl) (by rfl) (by rfl) ?_
  simp (disch := omega) only [wk, tis, Int.reduceNe, Int.reduceEq, Int.reduceLT, Int.reduceLE, Int.reduceAdd, Int.reduceSub, Int.reduceNeg, Int.reduceMul, Int.reduceToNat, Nat.reduceSub, Nat.reduceMul, Nat.reduceLeDiff, Nat.reduceAdd, Nat.reduceLT, Nat.reduceEqDiff, reduceCtorEq, ↓reduceIte, rqs]
  refine call_by (m) (by rfl) (by simp) ?_
  simp (disch := omega) only [wk, tis, Int.reduceNe, Int.reduceEq, Int.reduceLT, Int.reduceLE, Int.reduceAdd, Int.reduceSub, Int.reduceNeg, Int.reduceMul, Int.reduceToNat, Nat.reduceSub, Nat.reduceMul, Nat.reduceLeDiff, Nat.reduceAdd, Nat.reduceLT, Nat.reduceEqDiff, reduceCtorEq, ↓reduceIte, rqs]
  refine call_by (n) (by rfl) (by simp) ?_
  simp (disch := omega) only [wk, tis, Int.reduceNe, Int.reduceEq, Int.reduceLT, Int.reduceLE, Int.reduceAdd, Int.reduceSub, Int.reduceNeg, Int.reduceMul, Int.reduceToNat, Nat.reduceSub, Nat.reduceMul, Nat.reduceLeDiff, Nat.reduceAdd, Nat.reduceLT, Nat.reduceEqDiff, reduceCtorEq, ↓reduceIte, rqs]
  unfold cqs
  generalize trimq (qvs p) = A at *
  generalize trimq (qvs r) = B at *
  have hAl := hA.1
  have hBl := hB.1
  have hqa : (A.map crat).length = A.length := List.length_map _
  have hqb : (B.map crat).length = B.length := List.length_map _
  have hRl := zipq_len (fma (qv c)) A B
  have hsz : ∀ i, qz (cfq (zipq (fma (qv c)) A B) i) ≤ 2 ^ 38 := fun i => by
    rw [cfq_zipq (fma_zero _)]
    have h1 := hA.cz hK1 i
    have h2 := hB.cz hK1 i
    have h3 := qz_mul (qv c) (cfq B i)
    have h4 := qz_add (cfq A i) (qv c * cfq B i)
    unfold fma
    omega
  have hR : QB (2 ^ 40) (2 ^ 38) (zipq (fma (qv c)) A B) := .of (by omega) hsz
  have t := tform_ok ((zipq (fma (qv c)) A B).map crat) hR.gq
  rw [qvs_map] at t
  refine aloop_nil 7 7 31 3 (by simp (disch := omega) only [wk, tis, Int.reduceNe, Int.reduceEq, Int.reduceLT, Int.reduceLE, Int.reduceAdd, Int.reduceSub, Int.reduceNeg, Int.reduceMul, Int.reduceToNat, Nat.reduceSub, Nat.reduceMul, Nat.reduceLeDiff, Nat.reduceAdd, Nat.reduceLT, Nat.reduceEqDiff, reduceCtorEq, ↓reduceIte, rqs]) (fun f H => ∃ (i st st4 : Nat), i ≤ max A.length B.length ∧ f 8 = .iv (.int .i64 i) ∧ f 0 = .iv (.sl (rats (A.map crat))) ∧ f 2 = .iv (.sl (rats (B.map crat))) ∧ f 4 = .hp 4 st4 0 0 ∧ H 4 = .blk false st4 31 3 [qrow c] ∧ f 7 = .hs 7 st ∧ H 7 = .blk false st 31 3 (rats (((zipq (fma (qv c)) A B).take i).map crat))) (fun f H => (max A.length B.length - intAt f 8).toNat) ?_ ?_
  · refine ⟨0, 1, 1, by omega, ?_⟩
    simp (disch := omega) only [wk, tis, Int.reduceNe, Int.reduceEq, Int.reduceLT, Int.reduceLE, Int.reduceAdd, Int.reduceSub, Int.reduceNeg, Int.reduceMul, Int.reduceToNat, Nat.reduceSub, Nat.reduceMul, Nat.reduceLeDiff, Nat.reduceAdd, Nat.reduceLT, Nat.reduceEqDiff, reduceCtorEq, ↓reduceIte, rqs, ghostF, ghostH, List.take_zero, List.map_nil]
  rintro f H ⟨i, st, st4, hi, hF⟩
  rw [intAt_of hF.1]
  simp (disch := omega) only [wk, tis, Int.reduceNe, Int.reduceEq, Int.reduceLT, Int.reduceLE, Int.reduceAdd, Int.reduceSub, Int.reduceNeg, Int.reduceMul, Int.reduceToNat, Nat.reduceSub, Nat.reduceMul, Nat.reduceLeDiff, Nat.reduceAdd, Nat.reduceLT, Nat.reduceEqDiff, reduceCtorEq, ↓reduceIte, rqs, hF]
  by_cases ha : i < A.length
  · have ha' : (i : Int) < ((A.map crat).length : Int) := by omega
    simp (disch := omega) only [wk, tis, Int.reduceNe, Int.reduceEq, Int.reduceLT, Int.reduceLE, Int.reduceAdd, Int.reduceSub, Int.reduceNeg, Int.reduceMul, Int.reduceToNat, Nat.reduceSub, Nat.reduceMul, Nat.reduceLeDiff, Nat.reduceAdd, Nat.reduceLT, Nat.reduceEqDiff, reduceCtorEq, ↓reduceIte, rqs, hF, ha']
    have hrq : (((zipq (fma (qv c)) A B).take i).map crat).length = i := by rw [List.length_map, List.length_take]; omega
    have h1 := hA.cz hK1 i
    have h2 := hB.cz hK1 i
    have h3 := qz_mul (qv c) (cfq B i)
    have c1 := tat_nat A i (by omega)
    have c2 := tat_nat B i (by omega)
    have x := htimes_ok c (crat (cfq B i)) (hc.mono (by omega)) (szq_crat (by omega)) h0 (nv_crat0 _)
    rw [qv_crat] at x
    have y := hplus_ok (crat (cfq A i)) (crat (qv c * cfq B i)) (szq_crat (by omega)) (szq_crat (by omega)) (nv_crat0 _) (nv_crat0 _)
    rw [qv_crat, qv_crat, show cfq A i + qv c * cfq B i = cfq (zipq (fma (qv c)) A B) i by rw [cfq_zipq (fma_zero _)]; rfl] at y
    refine ⟨tmps_by (by kernel_rfl), ?_⟩
    refine call_by (c1) (by first | rfl | (simp only [tocvs, tocv, hF, hrq]; rfl) | (simp only [tocvs, tocv, toboxes, tobox, updH_at, Nat.reduceEqDiff, ↓reduceIte, hF, hrq]; rfl)) (by simp) ?_
    simp (disch := omega) only [wk, tis, Int.reduceNe, Int.reduceEq, Int.reduceLT, Int.reduceLE, Int.reduceAdd, Int.reduceSub, Int.reduceNeg, Int.reduceMul, Int.reduceToNat, Nat.reduceSub, Nat.reduceMul, Nat.reduceLeDiff, Nat.reduceAdd, Nat.reduceLT, Nat.reduceEqDiff, reduceCtorEq, ↓reduceIte, rqs, hF, hrq]
    refine call_by (c2) (by first | rfl | (simp only [tocvs, tocv, hF, hrq]; rfl) | (simp only [tocvs, tocv, toboxes, tobox, updH_at, Nat.reduceEqDiff, ↓reduceIte, hF, hrq]; rfl)) (by simp) ?_
    simp (disch := omega) only [wk, tis, Int.reduceNe, Int.reduceEq, Int.reduceLT, Int.reduceLE, Int.reduceAdd, Int.reduceSub, Int.reduceNeg, Int.reduceMul, Int.reduceToNat, Nat.reduceSub, Nat.reduceMul, Nat.reduceLeDiff, Nat.reduceAdd, Nat.reduceLT, Nat.reduceEqDiff, reduceCtorEq, ↓reduceIte, rqs, hF, hrq]
    refine call_by (x) (by first | rfl | (simp only [tocvs, tocv, hF, hrq]; rfl) | (simp only [tocvs, tocv, toboxes, tobox, updH_at, Nat.reduceEqDiff, ↓reduceIte, hF, hrq]; rfl)) (by simp) ?_
    simp (disch := omega) only [wk, tis, Int.reduceNe, Int.reduceEq, Int.reduceLT, Int.reduceLE, Int.reduceAdd, Int.reduceSub, Int.reduceNeg, Int.reduceMul, Int.reduceToNat, Nat.reduceSub, Nat.reduceMul, Nat.reduceLeDiff, Nat.reduceAdd, Nat.reduceLT, Nat.reduceEqDiff, reduceCtorEq, ↓reduceIte, rqs, hF, hrq]
    refine call_by (y) (by first | rfl | (simp only [tocvs, tocv, hF, hrq]; rfl) | (simp only [tocvs, tocv, toboxes, tobox, updH_at, Nat.reduceEqDiff, ↓reduceIte, hF, hrq]; rfl)) (by simp) ?_
    simp (disch := omega) only [wk, tis, Int.reduceNe, Int.reduceEq, Int.reduceLT, Int.reduceLE, Int.reduceAdd, Int.reduceSub, Int.reduceNeg, Int.reduceMul, Int.reduceToNat, Nat.reduceSub, Nat.reduceMul, Nat.reduceLeDiff, Nat.reduceAdd, Nat.reduceLT, Nat.reduceEqDiff, reduceCtorEq, ↓reduceIte, rqs, hF, hrq]
    first | exact log_by (by kernel_rfl) | refine ⟨log_by (by kernel_rfl), ?_⟩
    have et := takeq_snoc (q := zipq (fma (qv c)) A B) (i := i) (by omega)
    refine ⟨⟨i + 1, st + 1, st4, by omega, ?_⟩, by omega⟩
    rw [et, List.map_append]
    (repeat' apply And.intro) <;> first | rfl | omega
  · have ha' : ¬ (i : Int) < ((A.map crat).length : Int) := by omega
    by_cases hb : i < B.length
    · have hb' : (i : Int) < ((B.map crat).length : Int) := by omega
      simp (disch := omega) only [wk, tis, Int.reduceNe, Int.reduceEq, Int.reduceLT, Int.reduceLE, Int.reduceAdd, Int.reduceSub, Int.reduceNeg, Int.reduceMul, Int.reduceToNat, Nat.reduceSub, Nat.reduceMul, Nat.reduceLeDiff, Nat.reduceAdd, Nat.reduceLT, Nat.reduceEqDiff, reduceCtorEq, ↓reduceIte, rqs, hF, ha', hb']
      have hrq : (((zipq (fma (qv c)) A B).take i).map crat).length = i := by rw [List.length_map, List.length_take]; omega
      have h1 := hA.cz hK1 i
      have h2 := hB.cz hK1 i
      have h3 := qz_mul (qv c) (cfq B i)
      have c1 := tat_nat A i (by omega)
      have c2 := tat_nat B i (by omega)
      have x := htimes_ok c (crat (cfq B i)) (hc.mono (by omega)) (szq_crat (by omega)) h0 (nv_crat0 _)
      rw [qv_crat] at x
      have y := hplus_ok (crat (cfq A i)) (crat (qv c * cfq B i)) (szq_crat (by omega)) (szq_crat (by omega)) (nv_crat0 _) (nv_crat0 _)
      rw [qv_crat, qv_crat, show cfq A i + qv c * cfq B i = cfq (zipq (fma (qv c)) A B) i by rw [cfq_zipq (fma_zero _)]; rfl] at y
      refine ⟨tmps_by (by kernel_rfl), ?_⟩
      refine call_by (c1) (by first | rfl | (simp only [tocvs, tocv, hF, hrq]; rfl) | (simp only [tocvs, tocv, toboxes, tobox, updH_at, Nat.reduceEqDiff, ↓reduceIte, hF, hrq]; rfl)) (by simp) ?_
      simp (disch := omega) only [wk, tis, Int.reduceNe, Int.reduceEq, Int.reduceLT, Int.reduceLE, Int.reduceAdd, Int.reduceSub, Int.reduceNeg, Int.reduceMul, Int.reduceToNat, Nat.reduceSub, Nat.reduceMul, Nat.reduceLeDiff, Nat.reduceAdd, Nat.reduceLT, Nat.reduceEqDiff, reduceCtorEq, ↓reduceIte, rqs, hF, hrq]
      refine call_by (c2) (by first | rfl | (simp only [tocvs, tocv, hF, hrq]; rfl) | (simp only [tocvs, tocv, toboxes, tobox, updH_at, Nat.reduceEqDiff, ↓reduceIte, hF, hrq]; rfl)) (by simp) ?_
      simp (disch := omega) only [wk, tis, Int.reduceNe, Int.reduceEq, Int.reduceLT, Int.reduceLE, Int.reduceAdd, Int.reduceSub, Int.reduceNeg, Int.reduceMul, Int.reduceToNat, Nat.reduceSub, Nat.reduceMul, Nat.reduceLeDiff, Nat.reduceAdd, Nat.reduceLT, Nat.reduceEqDiff, reduceCtorEq, ↓reduceIte, rqs, hF, hrq]
      refine call_by (x) (by first | rfl | (simp only [tocvs, tocv, hF, hrq]; rfl) | (simp only [tocvs, tocv, toboxes, tobox, updH_at, Nat.reduceEqDiff, ↓reduceIte, hF, hrq]; rfl)) (by simp) ?_
      simp (disch := omega) only [wk, tis, Int.reduceNe, Int.reduceEq, Int.reduceLT, Int.reduceLE, Int.reduceAdd, Int.reduceSub, Int.reduceNeg, Int.reduceMul, Int.reduceToNat, Nat.reduceSub, Nat.reduceMul, Nat.reduceLeDiff, Nat.reduceAdd, Nat.reduceLT, Nat.reduceEqDiff, reduceCtorEq, ↓reduceIte, rqs, hF, hrq]
      refine call_by (y) (by first | rfl | (simp only [tocvs, tocv, hF, hrq]; rfl) | (simp only [tocvs, tocv, toboxes, tobox, updH_at, Nat.reduceEqDiff, ↓reduceIte, hF, hrq]; rfl)) (by simp) ?_
      simp (disch := omega) only [wk, tis, Int.reduceNe, Int.reduceEq, Int.reduceLT, Int.reduceLE, Int.reduceAdd, Int.reduceSub, Int.reduceNeg, Int.reduceMul, Int.reduceToNat, Nat.reduceSub, Nat.reduceMul, Nat.reduceLeDiff, Nat.reduceAdd, Nat.reduceLT, Nat.reduceEqDiff, reduceCtorEq, ↓reduceIte, rqs, hF, hrq]
      first | exact log_by (by kernel_rfl) | refine ⟨log_by (by kernel_rfl), ?_⟩
      have et := takeq_snoc (q := zipq (fma (qv c)) A B) (i := i) (by omega)
      refine ⟨⟨i + 1, st + 1, st4, by omega, ?_⟩, by omega⟩
      rw [et, List.map_append]
      (repeat' apply And.intro) <;> first | rfl | omega
    · have hb' : ¬ (i : Int) < ((B.map crat).length : Int) := by omega
      simp (disch := omega) only [wk, tis, Int.reduceNe, Int.reduceEq, Int.reduceLT, Int.reduceLE, Int.reduceAdd, Int.reduceSub, Int.reduceNeg, Int.reduceMul, Int.reduceToNat, Nat.reduceSub, Nat.reduceMul, Nat.reduceLeDiff, Nat.reduceAdd, Nat.reduceLT, Nat.reduceEqDiff, reduceCtorEq, ↓reduceIte, rqs, hF, ha', hb']
      rw [List.take_of_length_le (by omega)] at hF
      refine call_by (t) (by first | rfl | (simp only [tocvs, tocv, hF]; rfl) | (simp only [tocvs, tocv, toboxes, tobox, updH_at, Nat.reduceEqDiff, ↓reduceIte, hF]; rfl)) (by simp) ?_
      simp (disch := omega) only [wk, tis, Int.reduceNe, Int.reduceEq, Int.reduceLT, Int.reduceLE, Int.reduceAdd, Int.reduceSub, Int.reduceNeg, Int.reduceMul, Int.reduceToNat, Nat.reduceSub, Nat.reduceMul, Nat.reduceLeDiff, Nat.reduceAdd, Nat.reduceLT, Nat.reduceEqDiff, reduceCtorEq, ↓reduceIte, rqs, hF]

theorem twhole_ok (p : List RQ) (h : GQ (2 ^ 40) (2 ^ 38) p) : AC Tryz.prog 107 [cqw p] none [cw (((trimq (qvs p)).map fun c => c.num).map canon)] := by
  have f := tform_ok p h
  refine AC.by_walk (rs := [.tmp 2]) ords Tryz.func107 (by rfl) (by rfl) (by rfl) (by rfl) (by rfl) ?_
  simp (disch := omega) only [wk, tis, Int.reduceNe, Int.reduceEq, Int.reduceLT, Int.reduceLE, Int.reduceAdd, Int.reduceSub, Int.reduceNeg, Int.reduceMul, Int.reduceToNat, Nat.reduceSub, Nat.reduceMul, Nat.reduceLeDiff, Nat.reduceAdd, Nat.reduceLT, Nat.reduceEqDiff, reduceCtorEq, ↓reduceIte, rqs]
  refine call_by (f) (by rfl) (by simp) ?_
  simp (disch := omega) only [wk, tis, Int.reduceNe, Int.reduceEq, Int.reduceLT, Int.reduceLE, Int.reduceAdd, Int.reduceSub, Int.reduceNeg, Int.reduceMul, Int.reduceToNat, Nat.reduceSub, Nat.reduceMul, Nat.reduceLeDiff, Nat.reduceAdd, Nat.reduceLT, Nat.reduceEqDiff, reduceCtorEq, ↓reduceIte, rqs]
  unfold cqs
  have hAl := h.qb.trimq.1
  generalize trimq (qvs p) = A at *
  have hq : (A.map crat).length = A.length := List.length_map _
  have hnl : (A.map fun c => c.num).length = A.length := List.length_map _
  refine aloop_nil 3 3 29 2 (by simp (disch := omega) only [wk, tis, Int.reduceNe, Int.reduceEq, Int.reduceLT, Int.reduceLE, Int.reduceAdd, Int.reduceSub, Int.reduceNeg, Int.reduceMul, Int.reduceToNat, Nat.reduceSub, Nat.reduceMul, Nat.reduceLeDiff, Nat.reduceAdd, Nat.reduceLT, Nat.reduceEqDiff, reduceCtorEq, ↓reduceIte, rqs]) (fun f H => ∃ (i st : Nat), i ≤ A.length ∧ f 4 = .iv (.int .i64 i) ∧ f 0 = .iv (.sl (rats (A.map crat))) ∧ f 3 = .hs 3 st ∧ H 3 = .blk false st 29 2 (raws (((A.map fun c => c.num).take i).map canon))) (fun f H => (A.length - intAt f 4).toNat) ?_ ?_
  · refine ⟨0, 1, by omega, ?_⟩
    simp (disch := omega) only [wk, tis, Int.reduceNe, Int.reduceEq, Int.reduceLT, Int.reduceLE, Int.reduceAdd, Int.reduceSub, Int.reduceNeg, Int.reduceMul, Int.reduceToNat, Nat.reduceSub, Nat.reduceMul, Nat.reduceLeDiff, Nat.reduceAdd, Nat.reduceLT, Nat.reduceEqDiff, reduceCtorEq, ↓reduceIte, rqs, ghostF, ghostH, List.take_zero, List.map_nil]
  rintro f H ⟨i, st, hi, hF⟩
  rw [intAt_of hF.1]
  simp (disch := omega) only [wk, tis, Int.reduceNe, Int.reduceEq, Int.reduceLT, Int.reduceLE, Int.reduceAdd, Int.reduceSub, Int.reduceNeg, Int.reduceMul, Int.reduceToNat, Nat.reduceSub, Nat.reduceMul, Nat.reduceLeDiff, Nat.reduceAdd, Nat.reduceLT, Nat.reduceEqDiff, reduceCtorEq, ↓reduceIte, rqs, hF]
  refine if_by (fun hlt => ?_) (fun hlt => ?_)
  · have hlt' : i < A.length := by omega
    have hrq : (((A.map fun c => c.num).take i).map canon).length = i := by rw [List.length_map, List.length_take]; omega
    have e := cratq_get hlt'
    have e3 : prow (crat (cfq A i)).1 = prow (canon (cfq A i).num) := rfl
    have e4 : cf (A.map fun c => c.num) i = (cfq A i).num := by simp [cf, cfq, List.getD, hlt']
    simp (disch := omega) only [wk, tis, Int.reduceNe, Int.reduceEq, Int.reduceLT, Int.reduceLE, Int.reduceAdd, Int.reduceSub, Int.reduceNeg, Int.reduceMul, Int.reduceToNat, Nat.reduceSub, Nat.reduceMul, Nat.reduceLeDiff, Nat.reduceAdd, Nat.reduceLT, Nat.reduceEqDiff, reduceCtorEq, ↓reduceIte, rqs, hF, hq, hrq, e, e3]
    have et := takez_snoc (q := A.map fun c => c.num) (i := i) (by omega)
    rw [e4] at et
    refine ⟨⟨i + 1, st + 1, by omega, ?_⟩, by omega⟩
    rw [et, List.map_append]
    (repeat' apply And.intro) <;> first | rfl | omega
  · simp (disch := omega) only [wk, tis, Int.reduceNe, Int.reduceEq, Int.reduceLT, Int.reduceLE, Int.reduceAdd, Int.reduceSub, Int.reduceNeg, Int.reduceMul, Int.reduceToNat, Nat.reduceSub, Nat.reduceMul, Nat.reduceLeDiff, Nat.reduceAdd, Nat.reduceLT, Nat.reduceEqDiff, reduceCtorEq, ↓reduceIte, rqs, hF]
    rw [List.take_of_length_le (by omega)]

/-- A polynomial times a number, whole. -/
theorem whole_of {A : List Rat} {L : List Int} {s : Rat} (hL : trimz L = L) (h : ∀ k, s * cfq A k = (cf L k : Rat)) : (trimq (qvs (cqs (zipq (fma s) [] A)))).map (fun c => c.num) = L := by
  rw [qvs_cqs, trimq_trimq, trimq_ext (q := qp L) fun k => by rw [cfq_zipq (fma_zero _), cfq_nil, cfq_qp, ← h]; unfold fma; grind, qp_trim, hL, qp_num]

theorem tclear_ok (p : List RQ) (n k : Nat) (hp : GQ n k p) (hn : n ≤ 2 ^ 28) (hM : n * k + k + 2 ≤ 2 ^ 32) (hk : 1 ≤ k) : AC Tryz.prog 35 [cqw p] none [cl (wd (cden (trimq (qvs p)))), cw ((clr (trimq (qvs p))).map canon)] := by
  have f := tform_ok p (hp.mono (by omega) (by omega))
  have hA := hp.qb.trimq
  have tt := trimq_trimq (qvs p)
  have w1 := rword_ok 1 (by omega)
  refine AC.by_walk (rs := [.tmp 2, .tmp 3]) ords Tryz.func35 (by rfl) (by rfl) (by rfl) (by rfl) (by rfl) ?_
  simp (disch := omega) only [wk, tis, Int.reduceNe, Int.reduceEq, Int.reduceLT, Int.reduceLE, Int.reduceAdd, Int.reduceSub, Int.reduceNeg, Int.reduceMul, Int.reduceToNat, Nat.reduceSub, Nat.reduceMul, Nat.reduceLeDiff, Nat.reduceAdd, Nat.reduceLT, Nat.reduceEqDiff, reduceCtorEq, ↓reduceIte, rqs]
  refine call_by (f) (by rfl) (by simp) ?_
  simp (disch := omega) only [wk, tis, Int.reduceNe, Int.reduceEq, Int.reduceLT, Int.reduceLE, Int.reduceAdd, Int.reduceSub, Int.reduceNeg, Int.reduceMul, Int.reduceToNat, Nat.reduceSub, Nat.reduceMul, Nat.reduceLeDiff, Nat.reduceAdd, Nat.reduceLT, Nat.reduceEqDiff, reduceCtorEq, ↓reduceIte, rqs]
  unfold cqs
  generalize trimq (qvs p) = A at *
  have hAl := hA.1
  have hq : (A.map crat).length = A.length := List.length_map _
  have hdl := dens_len A
  have e0 : wd (lcmL ((dens A).take 0)) = wd 1 := by rw [List.take_zero]; rfl
  refine call_by (w1) (by rfl) (by simp) ?_
  simp (disch := omega) only [wk, tis, Int.reduceNe, Int.reduceEq, Int.reduceLT, Int.reduceLE, Int.reduceAdd, Int.reduceSub, Int.reduceNeg, Int.reduceMul, Int.reduceToNat, Nat.reduceSub, Nat.reduceMul, Nat.reduceLeDiff, Nat.reduceAdd, Nat.reduceLT, Nat.reduceEqDiff, reduceCtorEq, ↓reduceIte, rqs]
  refine aloop_by (fun f H => ∃ (i : Nat), i ≤ A.length ∧ f 5 = .iv (.int .i64 i) ∧ f 0 = .iv (.sl (rats (A.map crat))) ∧ f 4 = .iv (.sl (lims (wd (lcmL ((dens A).take i)))))) (fun f H => (A.length - intAt f 5).toNat) ?_ ?_
  · refine ⟨0, by omega, ?_⟩
    simp (disch := omega) only [wk, tis, Int.reduceNe, Int.reduceEq, Int.reduceLT, Int.reduceLE, Int.reduceAdd, Int.reduceSub, Int.reduceNeg, Int.reduceMul, Int.reduceToNat, Nat.reduceSub, Nat.reduceMul, Nat.reduceLeDiff, Nat.reduceAdd, Nat.reduceLT, Nat.reduceEqDiff, reduceCtorEq, ↓reduceIte, rqs, e0]
  rintro f H ⟨i, hi, hF⟩
  rw [intAt_of hF.1]
  simp (disch := omega) only [wk, tis, Int.reduceNe, Int.reduceEq, Int.reduceLT, Int.reduceLE, Int.reduceAdd, Int.reduceSub, Int.reduceNeg, Int.reduceMul, Int.reduceToNat, Nat.reduceSub, Nat.reduceMul, Nat.reduceLeDiff, Nat.reduceAdd, Nat.reduceLT, Nat.reduceEqDiff, reduceCtorEq, ↓reduceIte, rqs, hF]
  refine if_by (fun hlt => ?_) (fun hlt => ?_)
  · have hlt' : i < A.length := by omega
    obtain ⟨a1, a2, a3⟩ := lcmL_facts (dens A) k dens_ne hA.dens i (by omega)
    have h2 : i * k ≤ n * k := Nat.mul_le_mul_right _ (by omega)
    have e := cratq_get hlt'
    have e2 : lims (crat (cfq A i)).2 = lims (wd (cfq A i).den) := rfl
    have hc : qz (cfq A i) ≤ k := by rw [cfq_lt hlt']; exact hA.2 _ (List.getElem_mem hlt')
    have hc2 := qz_parts (cfq A i)
    have hdn := (cfq A i).den_nz
    have g := rGcd_ok (wd (cfq A i).den) (wd (lcmL ((dens A).take i))) (lim_wd _) (lim_wd _) (by omega) (by omega)
    rw [nv_wd, nv_wd] at g
    have hgp : Nat.gcd (cfq A i).den (lcmL ((dens A).take i)) ≠ 0 := Nat.ne_of_gt (Nat.gcd_pos_of_pos_left _ (by omega))
    have hgl := wd_len_mono (Nat.gcd_le_left (m := (cfq A i).den) (lcmL ((dens A).take i)) (by omega))
    have q := rQuo_ok (wd (cfq A i).den) (wd (Nat.gcd (cfq A i).den (lcmL ((dens A).take i)))) (lim_wd _) (lim_wd _) (by omega) (by omega) (by rw [nv_wd]; exact hgp)
    rw [nv_wd, nv_wd] at q
    have hql := wd_len_mono (Nat.div_le_self (cfq A i).den (Nat.gcd (cfq A i).den (lcmL ((dens A).take i))))
    have t := rTimes_ok (wd (lcmL ((dens A).take i))) (wd ((cfq A i).den / Nat.gcd (cfq A i).den (lcmL ((dens A).take i)))) (lim_wd _) (lim_wd _) (by omega) (by omega)
    have el : lcmL ((dens A).take i) * ((cfq A i).den / Nat.gcd (cfq A i).den (lcmL ((dens A).take i))) = lcmL ((dens A).take (i + 1)) := by
      rw [Nat.mul_comm, lcm_val, Nat.lcm_comm, lcmL_take (by omega), dens_get hlt']
    rw [nv_wd, nv_wd, el] at t
    simp (disch := omega) only [wk, tis, Int.reduceNe, Int.reduceEq, Int.reduceLT, Int.reduceLE, Int.reduceAdd, Int.reduceSub, Int.reduceNeg, Int.reduceMul, Int.reduceToNat, Nat.reduceSub, Nat.reduceMul, Nat.reduceLeDiff, Nat.reduceAdd, Nat.reduceLT, Nat.reduceEqDiff, reduceCtorEq, ↓reduceIte, rqs, hF, hq, e, e2]
    refine ⟨tmps_by (by kernel_rfl), ?_⟩
    refine call_by (g) (by first | rfl | (simp only [tocvs, tocv, hF, hq, e, e2]; rfl) | (simp only [tocvs, tocv, toboxes, tobox, updH_at, Nat.reduceEqDiff, ↓reduceIte, hF, hq, e, e2]; rfl)) (by simp) ?_
    simp (disch := omega) only [wk, tis, Int.reduceNe, Int.reduceEq, Int.reduceLT, Int.reduceLE, Int.reduceAdd, Int.reduceSub, Int.reduceNeg, Int.reduceMul, Int.reduceToNat, Nat.reduceSub, Nat.reduceMul, Nat.reduceLeDiff, Nat.reduceAdd, Nat.reduceLT, Nat.reduceEqDiff, reduceCtorEq, ↓reduceIte, rqs, hF, hq, e, e2]
    refine call_by (q) (by first | rfl | (simp only [tocvs, tocv, hF, hq, e, e2]; rfl) | (simp only [tocvs, tocv, toboxes, tobox, updH_at, Nat.reduceEqDiff, ↓reduceIte, hF, hq, e, e2]; rfl)) (by simp) ?_
    simp (disch := omega) only [wk, tis, Int.reduceNe, Int.reduceEq, Int.reduceLT, Int.reduceLE, Int.reduceAdd, Int.reduceSub, Int.reduceNeg, Int.reduceMul, Int.reduceToNat, Nat.reduceSub, Nat.reduceMul, Nat.reduceLeDiff, Nat.reduceAdd, Nat.reduceLT, Nat.reduceEqDiff, reduceCtorEq, ↓reduceIte, rqs, hF, hq, e, e2]
    first | exact log_by (by kernel_rfl) | refine ⟨log_by (by kernel_rfl), ?_⟩
    refine call_by (t) (by first | rfl | (simp only [tocvs, tocv, hF, hq, e, e2]; rfl) | (simp only [tocvs, tocv, toboxes, tobox, updH_at, Nat.reduceEqDiff, ↓reduceIte, hF, hq, e, e2]; rfl)) (by simp) ?_
    simp (disch := omega) only [wk, tis, Int.reduceNe, Int.reduceEq, Int.reduceLT, Int.reduceLE, Int.reduceAdd, Int.reduceSub, Int.reduceNeg, Int.reduceMul, Int.reduceToNat, Nat.reduceSub, Nat.reduceMul, Nat.reduceLeDiff, Nat.reduceAdd, Nat.reduceLT, Nat.reduceEqDiff, reduceCtorEq, ↓reduceIte, rqs, hF, hq, e, e2]
    refine ⟨⟨i + 1, by omega, ?_⟩, by omega⟩
    (repeat' apply And.intro) <;> first | rfl | omega
  · have hie : i = A.length := by omega
    subst hie
    rw [List.take_of_length_le (by omega), show lcmL (dens A) = cden A from rfl] at hF
    have hcd := cden_len hA
    have i1 := rI_ok false (wd (cden A)) (lim_wd _) (by omega)
    rw [nv_wd, sgf] at i1
    have z1 := hZ_ok (canon (cden A : Int)) ((sz_canon _).mono (by rw [zl_nat]; omega))
    rw [iv_canon, Rat.intCast_natCast] at z1
    have zq : qz (cden A : Rat) ≤ n * k + k + 2 := by
      have h1 := qz_int (cden A : Int)
      rw [Rat.intCast_natCast, zl_nat] at h1
      omega
    have pl := tplus_ok [] (A.map crat) (crat (cden A : Rat)) (n * k + k + 2) ⟨Nat.zero_le _, fun r hr => nomatch hr⟩ (hA.gq.mono (by omega) (by omega)) (szq_crat zq) (nv_crat0 _) (by omega) (by omega)
    rw [qv_crat, qvs_map, show qvs [] = [] from rfl] at pl
    have hX : QB (2 ^ 40) (2 ^ 38) (zipq (fma (cden A : Rat)) [] A) := .of (by rw [zipq_len, List.length_nil]; omega) fun i => by
      rw [cfq_zipq (fma_zero _), cfq_nil]
      have h1 := hA.cz hk i
      have h2 := qz_mul (cden A : Rat) (cfq A i)
      have h3 := qz_add 0 ((cden A : Rat) * cfq A i)
      rw [qz_zero] at h3
      unfold fma
      omega
    have wh := twhole_ok (cqs (zipq (fma (cden A : Rat)) [] A)) hX.gqs
    rw [whole_of (clr_trim tt) fun k => by rw [cf_clr, Rat.mul_comm]] at wh
    simp (disch := omega) only [wk, tis, Int.reduceNe, Int.reduceEq, Int.reduceLT, Int.reduceLE, Int.reduceAdd, Int.reduceSub, Int.reduceNeg, Int.reduceMul, Int.reduceToNat, Nat.reduceSub, Nat.reduceMul, Nat.reduceLeDiff, Nat.reduceAdd, Nat.reduceLT, Nat.reduceEqDiff, reduceCtorEq, ↓reduceIte, rqs, hF]
    refine call_by (i1) (by first | rfl | (simp only [tocvs, tocv, hF]; rfl) | (simp only [tocvs, tocv, toboxes, tobox, updH_at, Nat.reduceEqDiff, ↓reduceIte, hF]; rfl)) (by simp) ?_
    simp (disch := omega) only [wk, tis, Int.reduceNe, Int.reduceEq, Int.reduceLT, Int.reduceLE, Int.reduceAdd, Int.reduceSub, Int.reduceNeg, Int.reduceMul, Int.reduceToNat, Nat.reduceSub, Nat.reduceMul, Nat.reduceLeDiff, Nat.reduceAdd, Nat.reduceLT, Nat.reduceEqDiff, reduceCtorEq, ↓reduceIte, rqs, hF]
    refine call_by (z1) (by first | rfl | (simp only [tocvs, tocv, hF]; rfl) | (simp only [tocvs, tocv, toboxes, tobox, updH_at, Nat.reduceEqDiff, ↓reduceIte, hF]; rfl)) (by simp) ?_
    simp (disch := omega) only [wk, tis, Int.reduceNe, Int.reduceEq, Int.reduceLT, Int.reduceLE, Int.reduceAdd, Int.reduceSub, Int.reduceNeg, Int.reduceMul, Int.reduceToNat, Nat.reduceSub, Nat.reduceMul, Nat.reduceLeDiff, Nat.reduceAdd, Nat.reduceLT, Nat.reduceEqDiff, reduceCtorEq, ↓reduceIte, rqs, hF]
    refine call_by (pl) (by first | rfl | (simp only [tocvs, tocv, hF]; rfl) | (simp only [tocvs, tocv, toboxes, tobox, updH_at, Nat.reduceEqDiff, ↓reduceIte, hF]; rfl)) (by simp) ?_
    simp (disch := omega) only [wk, tis, Int.reduceNe, Int.reduceEq, Int.reduceLT, Int.reduceLE, Int.reduceAdd, Int.reduceSub, Int.reduceNeg, Int.reduceMul, Int.reduceToNat, Nat.reduceSub, Nat.reduceMul, Nat.reduceLeDiff, Nat.reduceAdd, Nat.reduceLT, Nat.reduceEqDiff, reduceCtorEq, ↓reduceIte, rqs, hF]
    refine call_by (wh) (by first | rfl | (simp only [tocvs, tocv, hF]; rfl) | (simp only [tocvs, tocv, toboxes, tobox, updH_at, Nat.reduceEqDiff, ↓reduceIte, hF]; rfl)) (by simp) ?_
    simp (disch := omega) only [wk, tis, Int.reduceNe, Int.reduceEq, Int.reduceLT, Int.reduceLE, Int.reduceAdd, Int.reduceSub, Int.reduceNeg, Int.reduceMul, Int.reduceToNat, Nat.reduceSub, Nat.reduceMul, Nat.reduceLeDiff, Nat.reduceAdd, Nat.reduceLT, Nat.reduceEqDiff, reduceCtorEq, ↓reduceIte, rqs, hF]
    try rfl
end Go.Proofs.YtjadkhkgmdikiaaGreat

namespace Go.Proofs.YtjadkhkgmdikiaaGreat
open Go Go.Proofs Go.AL
set_option linter.unusedSimpArgs false
set_option linter.unusedVariables false

/-- The content, over the rationals. -/
def partq (A : List Rat) : Rat := (cont (clr A) : Rat) / (((cden A : Nat) : Int) : Rat)
theorem cont_clr_ne {A : List Rat} (h : trimq A = A) (h0 : A.length ≠ 0) : cont (clr A) ≠ 0 := by
  have ht := trimq_full h
  have hp := cfq_tzq_pred (q := A) (by omega)
  intro e
  have hg : gz (clr A) = 0 := by rw [← cont_natAbs, e]; rfl
  have hd := gz_dvd (clr A) (tzq A - 1)
  rw [hg] at hd
  exact hp (clr_zero.mp (Int.zero_dvd.mp hd))
theorem zl_cont' {n k : Nat} {q : List Int} (h : PB n k q) : zl (cont q) ≤ k := by
  unfold zl
  rw [cont_natAbs]
  have := gz_len (p := q.map canon) (RP.canon h)
  rwa [pv_canon] at this
theorem partq_nil : partq [] = 0 := by decide +kernel
theorem prim_nil : cp (prim []) = cw [] := by
  have : cp (prim []) = cp [] := cp_ext fun k => by
    unfold prim
    rw [cf_pdivs, cf_nil, Int.zero_ediv]
  rw [this]; rfl

theorem qpart_ok (p : List RQ) (n k : Nat) (hp : GQ n k p) (hn : n ≤ 2 ^ 28) (hM : n * k + k + 2 ≤ 2 ^ 32) : AC Tryz.prog 33 [cqw p] none [cqz (partq (trimq (qvs p))), cp (prim (clr (trimq (qvs p)))), ci 0] := by
  have c := qclear_ok p n k hp hn (by omega)
  have hA := hp.qb.trimq
  have hB := hA.clr
  have rc := RP.canon hB
  have ct := pcontent_ok ((clr (trimq (qvs p))).map canon) (rc.mono (by omega) (by omega))
  have pr := pprim_ok ((clr (trimq (qvs p))).map canon) (rc.mono (by omega) (by omega))
  rw [pv_canon] at ct pr
  have hl := cden_len hA
  have hd0 := cden_ne (trimq (qvs p))
  have nt := znat_ok false (cden (trimq (qvs p))) (by omega)
  rw [sgf] at nt
  have zc := zl_cont' hB
  have mk := qmake_ok (canon (cont (clr (trimq (qvs p))))) (canon ((cden (trimq (qvs p)) : Nat) : Int)) ((sz_canon _).mono (by omega)) ((sz_canon _).mono (by rw [zl_nat]; omega)) (by rw [iv_canon]; omega)
  rw [iv_canon, iv_canon] at mk
  rw [show cqz (partq (trimq (qvs p))) = cqz ((cont (clr (trimq (qvs p))) : Rat) / (((cden (trimq (qvs p)) : Nat) : Int) : Rat)) from rfl]
  refine AC.by_walk (rs := [.cell 2 31, .tmp 3, .tmp 4]) ords Tryz.func33 (by rfl) (by rfl) (by rfl) (by rfl) (by rfl) ?_
  simp (disch := omega) only [wk, tis, Int.reduceNe, Int.reduceEq, Int.reduceLT, Int.reduceLE, Int.reduceAdd, Int.reduceSub, Int.reduceNeg, Int.reduceMul, Int.reduceToNat, Nat.reduceSub, Nat.reduceMul, Nat.reduceLeDiff, Nat.reduceAdd, Nat.reduceLT, Nat.reduceEqDiff, reduceCtorEq, ↓reduceIte, rqs]
  refine call_by (c) (by rfl) (by simp) ?_
  simp (disch := omega) only [wk, tis, Int.reduceNe, Int.reduceEq, Int.reduceLT, Int.reduceLE, Int.reduceAdd, Int.reduceSub, Int.reduceNeg, Int.reduceMul, Int.reduceToNat, Nat.reduceSub, Nat.reduceMul, Nat.reduceLeDiff, Nat.reduceAdd, Nat.reduceLT, Nat.reduceEqDiff, reduceCtorEq, ↓reduceIte, rqs]
  refine call_by (ct) (by rfl) (by simp) ?_
  simp (disch := omega) only [wk, tis, Int.reduceNe, Int.reduceEq, Int.reduceLT, Int.reduceLE, Int.reduceAdd, Int.reduceSub, Int.reduceNeg, Int.reduceMul, Int.reduceToNat, Nat.reduceSub, Nat.reduceMul, Nat.reduceLeDiff, Nat.reduceAdd, Nat.reduceLT, Nat.reduceEqDiff, reduceCtorEq, ↓reduceIte, rqs]
  refine call_by (nt) (by rfl) (by simp) ?_
  simp (disch := omega) only [wk, tis, Int.reduceNe, Int.reduceEq, Int.reduceLT, Int.reduceLE, Int.reduceAdd, Int.reduceSub, Int.reduceNeg, Int.reduceMul, Int.reduceToNat, Nat.reduceSub, Nat.reduceMul, Nat.reduceLeDiff, Nat.reduceAdd, Nat.reduceLT, Nat.reduceEqDiff, reduceCtorEq, ↓reduceIte, rqs]
  refine call_by (mk) (by rfl) (by simp) ?_
  simp (disch := omega) only [wk, tis, Int.reduceNe, Int.reduceEq, Int.reduceLT, Int.reduceLE, Int.reduceAdd, Int.reduceSub, Int.reduceNeg, Int.reduceMul, Int.reduceToNat, Nat.reduceSub, Nat.reduceMul, Nat.reduceLeDiff, Nat.reduceAdd, Nat.reduceLT, Nat.reduceEqDiff, reduceCtorEq, ↓reduceIte, rqs]
  refine ⟨tmps_by (by kernel_rfl), ?_⟩
  refine call_by (pr) (by rfl) (by simp) ?_
  simp (disch := omega) only [wk, tis, Int.reduceNe, Int.reduceEq, Int.reduceLT, Int.reduceLE, Int.reduceAdd, Int.reduceSub, Int.reduceNeg, Int.reduceMul, Int.reduceToNat, Nat.reduceSub, Nat.reduceMul, Nat.reduceLeDiff, Nat.reduceAdd, Nat.reduceLT, Nat.reduceEqDiff, reduceCtorEq, ↓reduceIte, rqs]
  first | exact log_by (by kernel_rfl) | refine ⟨log_by (by kernel_rfl), ?_⟩
  try rfl
theorem qclear_bad (p : List RQ) (h : BQ (2 ^ 40) (2 ^ 38) p) (hg : gd p = false) : AC Tryz.prog 32 [cqw p] none [cl [], cw [], ci 1] := by
  have n := qpnorm_bad p h hg
  refine AC.by_walk (rs := [.tmp 2, .tmp 3, .tmp 4]) ords Tryz.func32 (by rfl) (by rfl) (by rfl) (by rfl) (by rfl) ?_
  simp (disch := omega) only [wk, tis, Int.reduceNe, Int.reduceEq, Int.reduceLT, Int.reduceLE, Int.reduceAdd, Int.reduceSub, Int.reduceNeg, Int.reduceMul, Int.reduceToNat, Nat.reduceSub, Nat.reduceMul, Nat.reduceLeDiff, Nat.reduceAdd, Nat.reduceLT, Nat.reduceEqDiff, reduceCtorEq, ↓reduceIte, rqs]
  refine call_by (n) (by rfl) (by simp) ?_
  simp (disch := omega) only [wk, tis, Int.reduceNe, Int.reduceEq, Int.reduceLT, Int.reduceLE, Int.reduceAdd, Int.reduceSub, Int.reduceNeg, Int.reduceMul, Int.reduceToNat, Nat.reduceSub, Nat.reduceMul, Nat.reduceLeDiff, Nat.reduceAdd, Nat.reduceLT, Nat.reduceEqDiff, reduceCtorEq, ↓reduceIte, rqs]
  try rfl
theorem qpart_bad (p : List RQ) (h : BQ (2 ^ 40) (2 ^ 38) p) (hg : gd p = false) : AC Tryz.prog 33 [cqw p] none [cqq q0, cw [], ci 1] := by
  have n := qclear_bad p h hg
  refine AC.by_walk (rs := [.cell 2 31, .tmp 3, .tmp 4]) ords Tryz.func33 (by rfl) (by rfl) (by rfl) (by rfl) (by rfl) ?_
  simp (disch := omega) only [wk, tis, Int.reduceNe, Int.reduceEq, Int.reduceLT, Int.reduceLE, Int.reduceAdd, Int.reduceSub, Int.reduceNeg, Int.reduceMul, Int.reduceToNat, Nat.reduceSub, Nat.reduceMul, Nat.reduceLeDiff, Nat.reduceAdd, Nat.reduceLT, Nat.reduceEqDiff, reduceCtorEq, ↓reduceIte, rqs]
  refine call_by (n) (by rfl) (by simp) ?_
  simp (disch := omega) only [wk, tis, Int.reduceNe, Int.reduceEq, Int.reduceLT, Int.reduceLE, Int.reduceAdd, Int.reduceSub, Int.reduceNeg, Int.reduceMul, Int.reduceToNat, Nat.reduceSub, Nat.reduceMul, Nat.reduceLeDiff, Nat.reduceAdd, Nat.reduceLT, Nat.reduceEqDiff, reduceCtorEq, ↓reduceIte, rqs]
  try rfl

theorem tpart_ok (p : List RQ) (n k : Nat) (hp : GQ n k p) (hn : n ≤ 2 ^ 28) (hM : n * k + k + 2 ≤ 2 ^ 32) (hk : 1 ≤ k) : AC Tryz.prog 36 [cqw p] none [cqz (partq (trimq (qvs p))), cp (prim (clr (trimq (qvs p))))] := by
  have f := tform_ok p (hp.mono (by omega) (by omega))
  have hA := hp.qb.trimq
  have tt := trimq_trimq (qvs p)
  have z0 := hP_ok 0 1 (by omega) (by omega) (by omega) (by omega)
  rw [show ((0 : Int) : Rat) / ((1 : Nat) : Rat) = 0 by decide +kernel] at z0
  have w0 := rword_ok 0 (by omega)
  have o1 := hone_ok
  refine AC.by_walk (rs := [.cell 2 31, .tmp 3]) ords Tryz.func36 (by rfl) (by rfl) (by rfl) (by rfl) (by rfl) ?_
  simp (disch := omega) only [wk, tis, Int.reduceNe, Int.reduceEq, Int.reduceLT, Int.reduceLE, Int.reduceAdd, Int.reduceSub, Int.reduceNeg, Int.reduceMul, Int.reduceToNat, Nat.reduceSub, Nat.reduceMul, Nat.reduceLeDiff, Nat.reduceAdd, Nat.reduceLT, Nat.reduceEqDiff, reduceCtorEq, ↓reduceIte, rqs]
  refine call_by (f) (by rfl) (by simp) ?_
  simp (disch := omega) only [wk, tis, Int.reduceNe, Int.reduceEq, Int.reduceLT, Int.reduceLE, Int.reduceAdd, Int.reduceSub, Int.reduceNeg, Int.reduceMul, Int.reduceToNat, Nat.reduceSub, Nat.reduceMul, Nat.reduceLeDiff, Nat.reduceAdd, Nat.reduceLT, Nat.reduceEqDiff, reduceCtorEq, ↓reduceIte, rqs]
  unfold cqs
  generalize trimq (qvs p) = A at *
  have hAl := hA.1
  have hq : (A.map crat).length = A.length := List.length_map _
  by_cases h0 : A.length = 0
  · have h0' : ((A.map crat).length : Int) = 0 := by omega
    have e : A = [] := List.length_eq_zero_iff.mp h0
    subst e
    rw [partq_nil, show cp (prim (clr [])) = cw [] from prim_nil]
    simp (disch := omega) only [wk, tis, Int.reduceNe, Int.reduceEq, Int.reduceLT, Int.reduceLE, Int.reduceAdd, Int.reduceSub, Int.reduceNeg, Int.reduceMul, Int.reduceToNat, Nat.reduceSub, Nat.reduceMul, Nat.reduceLeDiff, Nat.reduceAdd, Nat.reduceLT, Nat.reduceEqDiff, reduceCtorEq, ↓reduceIte, rqs, h0']
    refine call_by (z0) (by rfl) (by simp) ?_
    simp (disch := omega) only [wk, tis, Int.reduceNe, Int.reduceEq, Int.reduceLT, Int.reduceLE, Int.reduceAdd, Int.reduceSub, Int.reduceNeg, Int.reduceMul, Int.reduceToNat, Nat.reduceSub, Nat.reduceMul, Nat.reduceLeDiff, Nat.reduceAdd, Nat.reduceLT, Nat.reduceEqDiff, reduceCtorEq, ↓reduceIte, rqs]
    try rfl
  have h0' : ¬ ((A.map crat).length : Int) = 0 := by omega
  have c := tclear_ok (A.map crat) n k hA.gq hn hM hk
  rw [qvs_map, tt] at c
  have hB := hA.clr
  have hcl := clr_len A
  have hqc : ((clr A).map canon).length = A.length := by rw [List.length_map, hcl]
  have e0 : wd (gz ((clr A).take 0)) = wd 0 := by rw [List.take_zero]; rfl
  have hgl : ∀ i, (wd (gz ((clr A).take i))).length ≤ k + n * k + 1 := fun i => by
    have := gz_len (p := ((clr A).take i).map canon) (RP.canon (PB_take hB i))
    rwa [pv_canon] at this
  have hc0 := cont_clr_ne tt h0
  simp (disch := omega) only [wk, tis, Int.reduceNe, Int.reduceEq, Int.reduceLT, Int.reduceLE, Int.reduceAdd, Int.reduceSub, Int.reduceNeg, Int.reduceMul, Int.reduceToNat, Nat.reduceSub, Nat.reduceMul, Nat.reduceLeDiff, Nat.reduceAdd, Nat.reduceLT, Nat.reduceEqDiff, reduceCtorEq, ↓reduceIte, rqs, h0']
  refine call_by (c) (by rfl) (by simp) ?_
  simp (disch := omega) only [wk, tis, Int.reduceNe, Int.reduceEq, Int.reduceLT, Int.reduceLE, Int.reduceAdd, Int.reduceSub, Int.reduceNeg, Int.reduceMul, Int.reduceToNat, Nat.reduceSub, Nat.reduceMul, Nat.reduceLeDiff, Nat.reduceAdd, Nat.reduceLT, Nat.reduceEqDiff, reduceCtorEq, ↓reduceIte, rqs]
  refine call_by (w0) (by rfl) (by simp) ?_
  simp (disch := omega) only [wk, tis, Int.reduceNe, Int.reduceEq, Int.reduceLT, Int.reduceLE, Int.reduceAdd, Int.reduceSub, Int.reduceNeg, Int.reduceMul, Int.reduceToNat, Nat.reduceSub, Nat.reduceMul, Nat.reduceLeDiff, Nat.reduceAdd, Nat.reduceLT, Nat.reduceEqDiff, reduceCtorEq, ↓reduceIte, rqs]
  refine aloop_by (fun f H => ∃ (i : Nat), i ≤ A.length ∧ f 7 = .iv (.int .i64 i) ∧ f 0 = .iv (.sl (rats (A.map crat))) ∧ f 5 = .iv (.sl (raws ((clr A).map canon))) ∧ f 4 = .iv (.sl (lims (wd (cden A)))) ∧ f 6 = .iv (.sl (lims (wd (gz ((clr A).take i))))) ∧ f 2 = .hp 2 1 0 0 ∧ H 2 = .blk false 1 31 3 [[.bool false, .sl [], .sl []]]) (fun f H => (A.length - intAt f 7).toNat) ?_ ?_
  · refine ⟨0, by omega, ?_⟩
    simp (disch := omega) only [wk, tis, Int.reduceNe, Int.reduceEq, Int.reduceLT, Int.reduceLE, Int.reduceAdd, Int.reduceSub, Int.reduceNeg, Int.reduceMul, Int.reduceToNat, Nat.reduceSub, Nat.reduceMul, Nat.reduceLeDiff, Nat.reduceAdd, Nat.reduceLT, Nat.reduceEqDiff, reduceCtorEq, ↓reduceIte, rqs, e0]
  rintro f H ⟨i, hi, hF⟩
  rw [intAt_of hF.1]
  simp (disch := omega) only [wk, tis, Int.reduceNe, Int.reduceEq, Int.reduceLT, Int.reduceLE, Int.reduceAdd, Int.reduceSub, Int.reduceNeg, Int.reduceMul, Int.reduceToNat, Nat.reduceSub, Nat.reduceMul, Nat.reduceLeDiff, Nat.reduceAdd, Nat.reduceLT, Nat.reduceEqDiff, reduceCtorEq, ↓reduceIte, rqs, hF]
  refine if_by (fun hlt => ?_) (fun hlt => ?_)
  · have hlt' : i < A.length := by omega
    have e1 := canon_getD (clr A) i
    have e2 : (canon (cf (clr A) i)).2 = wd (cf (clr A) i).natAbs := rfl
    have hz := hB.cf i
    have g := rGcd_ok (wd (gz ((clr A).take i))) (wd (cf (clr A) i).natAbs) (lim_wd _) (lim_wd _) (Nat.le_trans (hgl i) (by omega)) (Nat.le_trans hz (by omega))
    rw [nv_wd, nv_wd, ← gz_take (by omega)] at g
    simp (disch := omega) only [wk, tis, Int.reduceNe, Int.reduceEq, Int.reduceLT, Int.reduceLE, Int.reduceAdd, Int.reduceSub, Int.reduceNeg, Int.reduceMul, Int.reduceToNat, Nat.reduceSub, Nat.reduceMul, Nat.reduceLeDiff, Nat.reduceAdd, Nat.reduceLT, Nat.reduceEqDiff, reduceCtorEq, ↓reduceIte, rqs, hF, hqc, e1, e2]
    refine call_by (g) (by first | rfl | (simp only [tocvs, tocv, hF, hqc, e1, e2]; rfl) | (simp only [tocvs, tocv, toboxes, tobox, updH_at, Nat.reduceEqDiff, ↓reduceIte, hF, hqc, e1, e2]; rfl)) (by simp) ?_
    simp (disch := omega) only [wk, tis, Int.reduceNe, Int.reduceEq, Int.reduceLT, Int.reduceLE, Int.reduceAdd, Int.reduceSub, Int.reduceNeg, Int.reduceMul, Int.reduceToNat, Nat.reduceSub, Nat.reduceMul, Nat.reduceLeDiff, Nat.reduceAdd, Nat.reduceLT, Nat.reduceEqDiff, reduceCtorEq, ↓reduceIte, rqs, hF, hqc, e1, e2]
    refine ⟨⟨i + 1, by omega, ?_⟩, by omega⟩
    (repeat' apply And.intro) <;> first | rfl | omega
  · have hie : i = A.length := by omega
    subst hie
    rw [List.take_of_length_le (by omega)] at hF
    have ej : (A.length : Int) - 1 = ((A.length - 1 : Nat) : Int) := by omega
    have e1 := canon_getD (clr A) (A.length - 1)
    have tz1 : tz (clr A) = A.length := by rw [← trimz_len, clr_trim tt, hcl]
    have e2 : decide (cf (clr A) (A.length - 1) < 0) = decide (lc (clr A) < 0) := by unfold lc; rw [tz1]
    have hgf : (wd (gz (clr A))).length ≤ k + n * k + 1 := by have := hgl A.length; rwa [List.take_of_length_le (by omega)] at this
    have i1 := rI_ok (decide (lc (clr A) < 0)) (wd (gz (clr A))) (lim_wd _) (by omega)
    rw [nv_wd, show sg (decide (lc (clr A) < 0)) (gz (clr A)) = cont (clr A) from rfl] at i1
    have hcd := cden_len hA
    have hd0 := cden_ne A
    have zc := zl_cont' hB
    have r1 := rR_ok (canon (cont (clr A))) (wd (cden A)) ((sz_canon _).mono (by omega)) ⟨by omega, lim_wd _⟩ (by rw [nv_wd]; exact hd0)
    rw [iv_canon, nv_wd, show mkRat (cont (clr A)) (cden A) = partq A by rw [Rat.mkRat_eq_div]; unfold partq; rw [Rat.intCast_natCast]] at r1
    have zp : qz (partq A) ≤ n * k + k + 2 := qz_divn hd0 (by omega) (by omega)
    have hpn : partq A ≠ 0 := by
      have h1 : ((cont (clr A) : Int) : Rat) ≠ 0 := fun e => hc0 (Rat.intCast_eq_zero_iff.mp e)
      have h2 : (((cden A : Nat) : Int) : Rat) ≠ 0 := fun e => hd0 (by have := Rat.intCast_eq_zero_iff.mp e; omega)
      unfold partq
      intro e
      have h3 := Rat.div_mul_cancel (a := ((cont (clr A) : Int) : Rat)) h2
      rw [e, Rat.zero_mul] at h3
      exact h1 h3.symm
    have ov := hover_ok (crat 1) (crat (partq A)) (szq_crat (by rw [qz_one]; omega)) (szq_crat (by omega)) (nv_crat0 _) (nv_crat0 _) (by rw [iv_crat]; exact fun e => hpn (Rat.num_eq_zero.mp e))
    rw [qv_crat, qv_crat] at ov
    have zi : qz (1 / partq A) ≤ n * k + k + 2 := by
      have h1 : (1 : Rat) / partq A = ((cden A : Nat) : Rat) / ((cont (clr A) : Int) : Rat) := by
        have h1 : ((cont (clr A) : Int) : Rat) ≠ 0 := fun e => hc0 (Rat.intCast_eq_zero_iff.mp e)
        have h2 : (((cden A : Nat) : Int) : Rat) ≠ 0 := fun e => hd0 (by have := Rat.intCast_eq_zero_iff.mp e; omega)
        unfold partq
        rw [← Rat.intCast_natCast]
        grind
      rw [h1, ← Rat.intCast_natCast, ← mk_div hc0]
      refine qz_mk (by omega) ?_ ?_
      · split
        · rw [zl_neg, zl_nat]; omega
        · rw [zl_nat]; omega
      · exact Nat.le_trans zc (by omega)
    have pl := tplus_ok [] (A.map crat) (crat (1 / partq A)) (n * k + k + 2) ⟨Nat.zero_le _, fun r hr => nomatch hr⟩ (hA.gq.mono (by omega) (by omega)) (szq_crat zi) (nv_crat0 _) (by omega) (by omega)
    rw [qv_crat, qvs_map, show qvs [] = [] from rfl] at pl
    have hX : QB (2 ^ 40) (2 ^ 38) (zipq (fma (1 / partq A)) [] A) := .of (by rw [zipq_len, List.length_nil]; omega) fun i => by
      rw [cfq_zipq (fma_zero _), cfq_nil]
      have h1 := hA.cz hk i
      have h2 := qz_mul (1 / partq A) (cfq A i)
      have h3 := qz_add 0 ((1 / partq A) * cfq A i)
      rw [qz_zero] at h3
      unfold fma
      omega
    have wh := twhole_ok (cqs (zipq (fma (1 / partq A)) [] A)) hX.gqs
    have hpc : ∀ k, (1 / partq A) * cfq A k = (cf (prim (clr A)) k : Rat) := fun k => by
      have h1 : ((cont (clr A) : Int) : Rat) ≠ 0 := fun e => hc0 (Rat.intCast_eq_zero_iff.mp e)
      have h2 : (((cden A : Nat) : Int) : Rat) ≠ 0 := fun e => hd0 (by have := Rat.intCast_eq_zero_iff.mp e; omega)
      obtain ⟨m, hm⟩ := cont_dvd (clr A) k
      have h3 := cf_clr A k
      unfold prim
      rw [cf_pdivs, hm, Int.mul_ediv_cancel_left _ hc0]
      rw [hm, Rat.intCast_mul, ← Rat.intCast_natCast] at h3
      unfold partq
      grind
    have tp : tz (prim (clr A)) = A.length := by
      have := tz_spec (q := prim (clr A)) (n := A.length - 1) (by
        intro e
        have h1 := hpc (A.length - 1)
        rw [e, Rat.intCast_zero] at h1
        rcases Rat.mul_eq_zero.mp h1 with h2 | h2
        · have h3 := Rat.div_mul_cancel (a := (1 : Rat)) hpn
          rw [h2, Rat.zero_mul] at h3
          exact absurd h3 (by decide +kernel)
        · have hp := cfq_tzq_pred (q := A) (by rw [trimq_full tt]; exact h0)
          rw [trimq_full tt] at hp
          exact hp h2) fun k hk => cf_ge (by unfold prim pdivs; rw [List.length_map, hcl]; omega)
      omega
    have tpr : trimz (prim (clr A)) = prim (clr A) := by
      rw [trimz, tp, List.take_of_length_le (by unfold prim pdivs; rw [List.length_map, hcl]; exact Nat.le_refl _)]
    rw [whole_of tpr hpc, show cw ((prim (clr A)).map canon) = cp (prim (clr A)) by unfold cp cpoly; rw [tpr]] at wh
    simp (disch := omega) only [wk, tis, Int.reduceNe, Int.reduceEq, Int.reduceLT, Int.reduceLE, Int.reduceAdd, Int.reduceSub, Int.reduceNeg, Int.reduceMul, Int.reduceToNat, Nat.reduceSub, Nat.reduceMul, Nat.reduceLeDiff, Nat.reduceAdd, Nat.reduceLT, Nat.reduceEqDiff, reduceCtorEq, ↓reduceIte, rqs, hF, hqc, ej, e1, e2]
    refine call_by (i1) (by first | rfl | (simp only [tocvs, tocv, hF, hqc, ej, e1, e2]; rfl) | (simp only [tocvs, tocv, toboxes, tobox, updH_at, Nat.reduceEqDiff, ↓reduceIte, hF, hqc, ej, e1, e2]; rfl)) (by simp) ?_
    simp (disch := omega) only [wk, tis, Int.reduceNe, Int.reduceEq, Int.reduceLT, Int.reduceLE, Int.reduceAdd, Int.reduceSub, Int.reduceNeg, Int.reduceMul, Int.reduceToNat, Nat.reduceSub, Nat.reduceMul, Nat.reduceLeDiff, Nat.reduceAdd, Nat.reduceLT, Nat.reduceEqDiff, reduceCtorEq, ↓reduceIte, rqs, hF, hqc, ej, e1, e2]
    refine call_by (r1) (by first | rfl | (simp only [tocvs, tocv, hF, hqc]; rfl) | (simp only [tocvs, tocv, toboxes, tobox, updH_at, Nat.reduceEqDiff, ↓reduceIte, hF, hqc]; rfl)) (by simp) ?_
    simp (disch := omega) only [wk, tis, Int.reduceNe, Int.reduceEq, Int.reduceLT, Int.reduceLE, Int.reduceAdd, Int.reduceSub, Int.reduceNeg, Int.reduceMul, Int.reduceToNat, Nat.reduceSub, Nat.reduceMul, Nat.reduceLeDiff, Nat.reduceAdd, Nat.reduceLT, Nat.reduceEqDiff, reduceCtorEq, ↓reduceIte, rqs, hF, hqc]
    refine ⟨tmps_by (by kernel_rfl), ?_⟩
    refine call_by (o1) (by first | rfl | (simp only [tocvs, tocv, hF, hqc]; rfl) | (simp only [tocvs, tocv, toboxes, tobox, updH_at, Nat.reduceEqDiff, ↓reduceIte, hF, hqc]; rfl)) (by simp) ?_
    simp (disch := omega) only [wk, tis, Int.reduceNe, Int.reduceEq, Int.reduceLT, Int.reduceLE, Int.reduceAdd, Int.reduceSub, Int.reduceNeg, Int.reduceMul, Int.reduceToNat, Nat.reduceSub, Nat.reduceMul, Nat.reduceLeDiff, Nat.reduceAdd, Nat.reduceLT, Nat.reduceEqDiff, reduceCtorEq, ↓reduceIte, rqs, hF, hqc]
    refine call_by (ov) (by first | rfl | (simp only [tocvs, tocv, hF, hqc]; rfl) | (simp only [tocvs, tocv, toboxes, tobox, updH_at, Nat.reduceEqDiff, ↓reduceIte, hF, hqc]; rfl)) (by simp) ?_
    simp (disch := omega) only [wk, tis, Int.reduceNe, Int.reduceEq, Int.reduceLT, Int.reduceLE, Int.reduceAdd, Int.reduceSub, Int.reduceNeg, Int.reduceMul, Int.reduceToNat, Nat.reduceSub, Nat.reduceMul, Nat.reduceLeDiff, Nat.reduceAdd, Nat.reduceLT, Nat.reduceEqDiff, reduceCtorEq, ↓reduceIte, rqs, hF, hqc]
    refine call_by (pl) (by first | rfl | (simp only [tocvs, tocv, hF, hqc]; rfl) | (simp only [tocvs, tocv, toboxes, tobox, updH_at, Nat.reduceEqDiff, ↓reduceIte, hF, hqc]; rfl)) (by simp) ?_
    simp (disch := omega) only [wk, tis, Int.reduceNe, Int.reduceEq, Int.reduceLT, Int.reduceLE, Int.reduceAdd, Int.reduceSub, Int.reduceNeg, Int.reduceMul, Int.reduceToNat, Nat.reduceSub, Nat.reduceMul, Nat.reduceLeDiff, Nat.reduceAdd, Nat.reduceLT, Nat.reduceEqDiff, reduceCtorEq, ↓reduceIte, rqs, hF, hqc]
    refine call_by (wh) (by first | rfl | (simp only [tocvs, tocv, hF, hqc]; rfl) | (simp only [tocvs, tocv, toboxes, tobox, updH_at, Nat.reduceEqDiff, ↓reduceIte, hF, hqc]; rfl)) (by simp) ?_
    simp (disch := omega) only [wk, tis, Int.reduceNe, Int.reduceEq, Int.reduceLT, Int.reduceLE, Int.reduceAdd, Int.reduceSub, Int.reduceNeg, Int.reduceMul, Int.reduceToNat, Nat.reduceSub, Nat.reduceMul, Nat.reduceLeDiff, Nat.reduceAdd, Nat.reduceLT, Nat.reduceEqDiff, reduceCtorEq, ↓reduceIte, rqs, hF, hqc]
    first | exact log_by (by kernel_rfl) | refine ⟨log_by (by kernel_rfl), ?_⟩
    try rfl

theorem zsame_self {p : List RI} (h : RP (2 ^ 40) (2 ^ 43) p) : AC Tryz.prog 38 [cw p, cw p] none [cb true] := by
  have := zsame_ok p p h h
  rwa [decide_eq_true rfl] at this

theorem clears_law (p : List RQ) (w : List RI) (hp : BQ 1048576 1048576 p) (hw : RP 1048576 1048576 w) : AC Tryz.prog 5 [cqw p, cw w] none [cb true] := by
  have o1 := qof10_ok w (hw.mono (by omega) (by omega))
  have o2 := tof_ok w (hw.mono (by omega) (by omega))
  have hwq := PB.ofZ (hw.pv) (by omega)
  have os := tsame_self (hwq.gqs.bq.mono (n' := 2 ^ 40) (k' := 2 ^ 40) (by omega) (by omega))
  have fa := few10_ok p (Nat.le_trans hp.1 (by omega))
  have ha : BQ 40 (2 ^ 20) (p.take 40) := hp.few
  generalize p.take 40 = a at *
  have g := tgood_ok a (ha.mono (by omega) (by omega))
  cases hg : gd a with
  | false =>
    rw [hg] at g
    have c := qclear_bad a (ha.mono (by omega) (by omega)) hg
    have d := qpart_bad a (ha.mono (by omega) (by omega)) hg
    refine AC.by_walk (rs := [.tmp 4]) ords Tryz.func5 (by rfl) (by rfl) (by rfl) (by rfl) (by rfl) ?_
    simp (disch := omega) only [wk, tis, Int.reduceNe, Int.reduceEq, Int.reduceLT, Int.reduceLE, Int.reduceAdd, Int.reduceSub, Int.reduceNeg, Int.reduceMul, Int.reduceToNat, Nat.reduceSub, Nat.reduceMul, Nat.reduceLeDiff, Nat.reduceAdd, Nat.reduceLT, Nat.reduceEqDiff, reduceCtorEq, ↓reduceIte, rqs]
    refine call_by (known_ok) (by rfl) (by simp) ?_
    simp (disch := omega) only [wk, tis, Int.reduceNe, Int.reduceEq, Int.reduceLT, Int.reduceLE, Int.reduceAdd, Int.reduceSub, Int.reduceNeg, Int.reduceMul, Int.reduceToNat, Nat.reduceSub, Nat.reduceMul, Nat.reduceLeDiff, Nat.reduceAdd, Nat.reduceLT, Nat.reduceEqDiff, reduceCtorEq, ↓reduceIte, rqs]
    refine call_by (o1) (by rfl) (by simp) ?_
    simp (disch := omega) only [wk, tis, Int.reduceNe, Int.reduceEq, Int.reduceLT, Int.reduceLE, Int.reduceAdd, Int.reduceSub, Int.reduceNeg, Int.reduceMul, Int.reduceToNat, Nat.reduceSub, Nat.reduceMul, Nat.reduceLeDiff, Nat.reduceAdd, Nat.reduceLT, Nat.reduceEqDiff, reduceCtorEq, ↓reduceIte, rqs]
    refine call_by (o2) (by rfl) (by simp) ?_
    simp (disch := omega) only [wk, tis, Int.reduceNe, Int.reduceEq, Int.reduceLT, Int.reduceLE, Int.reduceAdd, Int.reduceSub, Int.reduceNeg, Int.reduceMul, Int.reduceToNat, Nat.reduceSub, Nat.reduceMul, Nat.reduceLeDiff, Nat.reduceAdd, Nat.reduceLT, Nat.reduceEqDiff, reduceCtorEq, ↓reduceIte, rqs]
    refine call_by (os) (by rfl) (by simp) ?_
    simp (disch := omega) only [wk, tis, Int.reduceNe, Int.reduceEq, Int.reduceLT, Int.reduceLE, Int.reduceAdd, Int.reduceSub, Int.reduceNeg, Int.reduceMul, Int.reduceToNat, Nat.reduceSub, Nat.reduceMul, Nat.reduceLeDiff, Nat.reduceAdd, Nat.reduceLT, Nat.reduceEqDiff, reduceCtorEq, ↓reduceIte, rqs]
    refine call_by (fa) (by rfl) (by simp) ?_
    simp (disch := omega) only [wk, tis, Int.reduceNe, Int.reduceEq, Int.reduceLT, Int.reduceLE, Int.reduceAdd, Int.reduceSub, Int.reduceNeg, Int.reduceMul, Int.reduceToNat, Nat.reduceSub, Nat.reduceMul, Nat.reduceLeDiff, Nat.reduceAdd, Nat.reduceLT, Nat.reduceEqDiff, reduceCtorEq, ↓reduceIte, rqs]
    refine call_by (c) (by rfl) (by simp) ?_
    simp (disch := omega) only [wk, tis, Int.reduceNe, Int.reduceEq, Int.reduceLT, Int.reduceLE, Int.reduceAdd, Int.reduceSub, Int.reduceNeg, Int.reduceMul, Int.reduceToNat, Nat.reduceSub, Nat.reduceMul, Nat.reduceLeDiff, Nat.reduceAdd, Nat.reduceLT, Nat.reduceEqDiff, reduceCtorEq, ↓reduceIte, rqs]
    refine call_by (d) (by rfl) (by simp) ?_
    simp (disch := omega) only [wk, tis, Int.reduceNe, Int.reduceEq, Int.reduceLT, Int.reduceLE, Int.reduceAdd, Int.reduceSub, Int.reduceNeg, Int.reduceMul, Int.reduceToNat, Nat.reduceSub, Nat.reduceMul, Nat.reduceLeDiff, Nat.reduceAdd, Nat.reduceLT, Nat.reduceEqDiff, reduceCtorEq, ↓reduceIte, rqs]
    refine call_by (g) (by rfl) (by simp) ?_
    simp (disch := omega) only [wk, tis, Int.reduceNe, Int.reduceEq, Int.reduceLT, Int.reduceLE, Int.reduceAdd, Int.reduceSub, Int.reduceNeg, Int.reduceMul, Int.reduceToNat, Nat.reduceSub, Nat.reduceMul, Nat.reduceLeDiff, Nat.reduceAdd, Nat.reduceLT, Nat.reduceEqDiff, reduceCtorEq, ↓reduceIte, rqs]
    try rfl
  | true =>
    rw [hg] at g
    have hG := ha.gq hg
    have hA := hG.qb.trimq
    have c1 := qclear_ok a 40 (2 ^ 20) hG (by omega) (by omega)
    have c2 := tclear_ok a 40 (2 ^ 20) hG (by omega) (by omega) (by omega)
    have p1 := qpart_ok a 40 (2 ^ 20) hG (by omega) (by omega)
    have p2 := tpart_ok a 40 (2 ^ 20) hG (by omega) (by omega) (by omega)
    have hl := cden_len hA
    have hd0 := cden_ne (trimq (qvs a))
    have s1 := samenat_g (a := cden (trimq (qvs a))) (by omega)
    have hB := hA.clr
    have s2 := zsame_self ((RP.canon hB).mono (n' := 2 ^ 40) (k' := 2 ^ 43) (by omega) (by omega))
    have zc := zl_cont' hB
    have zp : qz (partq (trimq (qvs a))) ≤ 2 ^ 40 := qz_divn hd0 (by omega) (by omega)
    have s3 := same_self (szq_crat (k := 2 ^ 43) (Nat.le_trans zp (by omega)))
    have hpb : PB 40 (2 ^ 40) (prim (clr (trimq (qvs a)))) := .of (by unfold prim pdivs; rw [List.length_map]; exact hB.1) fun i => by
      unfold prim
      rw [cf_pdivs]
      exact Nat.le_trans (zl_div (cont_dvd _ i)) (Nat.le_trans (hB.cf i) (by omega))
    have s4 := zsame_self (rp_cn (hpb.mono (n' := 2 ^ 40) (k' := 2 ^ 43) (by omega) (by omega)))
    refine AC.by_walk (rs := [.tmp 4]) ords Tryz.func5 (by rfl) (by rfl) (by rfl) (by rfl) (by rfl) ?_
    simp (disch := omega) only [wk, tis, Int.reduceNe, Int.reduceEq, Int.reduceLT, Int.reduceLE, Int.reduceAdd, Int.reduceSub, Int.reduceNeg, Int.reduceMul, Int.reduceToNat, Nat.reduceSub, Nat.reduceMul, Nat.reduceLeDiff, Nat.reduceAdd, Nat.reduceLT, Nat.reduceEqDiff, reduceCtorEq, ↓reduceIte, rqs]
    refine call_by (known_ok) (by rfl) (by simp) ?_
    simp (disch := omega) only [wk, tis, Int.reduceNe, Int.reduceEq, Int.reduceLT, Int.reduceLE, Int.reduceAdd, Int.reduceSub, Int.reduceNeg, Int.reduceMul, Int.reduceToNat, Nat.reduceSub, Nat.reduceMul, Nat.reduceLeDiff, Nat.reduceAdd, Nat.reduceLT, Nat.reduceEqDiff, reduceCtorEq, ↓reduceIte, rqs]
    refine call_by (o1) (by rfl) (by simp) ?_
    simp (disch := omega) only [wk, tis, Int.reduceNe, Int.reduceEq, Int.reduceLT, Int.reduceLE, Int.reduceAdd, Int.reduceSub, Int.reduceNeg, Int.reduceMul, Int.reduceToNat, Nat.reduceSub, Nat.reduceMul, Nat.reduceLeDiff, Nat.reduceAdd, Nat.reduceLT, Nat.reduceEqDiff, reduceCtorEq, ↓reduceIte, rqs]
    refine call_by (o2) (by rfl) (by simp) ?_
    simp (disch := omega) only [wk, tis, Int.reduceNe, Int.reduceEq, Int.reduceLT, Int.reduceLE, Int.reduceAdd, Int.reduceSub, Int.reduceNeg, Int.reduceMul, Int.reduceToNat, Nat.reduceSub, Nat.reduceMul, Nat.reduceLeDiff, Nat.reduceAdd, Nat.reduceLT, Nat.reduceEqDiff, reduceCtorEq, ↓reduceIte, rqs]
    refine call_by (os) (by rfl) (by simp) ?_
    simp (disch := omega) only [wk, tis, Int.reduceNe, Int.reduceEq, Int.reduceLT, Int.reduceLE, Int.reduceAdd, Int.reduceSub, Int.reduceNeg, Int.reduceMul, Int.reduceToNat, Nat.reduceSub, Nat.reduceMul, Nat.reduceLeDiff, Nat.reduceAdd, Nat.reduceLT, Nat.reduceEqDiff, reduceCtorEq, ↓reduceIte, rqs]
    refine call_by (fa) (by rfl) (by simp) ?_
    simp (disch := omega) only [wk, tis, Int.reduceNe, Int.reduceEq, Int.reduceLT, Int.reduceLE, Int.reduceAdd, Int.reduceSub, Int.reduceNeg, Int.reduceMul, Int.reduceToNat, Nat.reduceSub, Nat.reduceMul, Nat.reduceLeDiff, Nat.reduceAdd, Nat.reduceLT, Nat.reduceEqDiff, reduceCtorEq, ↓reduceIte, rqs]
    refine call_by (c1) (by rfl) (by simp) ?_
    simp (disch := omega) only [wk, tis, Int.reduceNe, Int.reduceEq, Int.reduceLT, Int.reduceLE, Int.reduceAdd, Int.reduceSub, Int.reduceNeg, Int.reduceMul, Int.reduceToNat, Nat.reduceSub, Nat.reduceMul, Nat.reduceLeDiff, Nat.reduceAdd, Nat.reduceLT, Nat.reduceEqDiff, reduceCtorEq, ↓reduceIte, rqs]
    refine call_by (p1) (by rfl) (by simp) ?_
    simp (disch := omega) only [wk, tis, Int.reduceNe, Int.reduceEq, Int.reduceLT, Int.reduceLE, Int.reduceAdd, Int.reduceSub, Int.reduceNeg, Int.reduceMul, Int.reduceToNat, Nat.reduceSub, Nat.reduceMul, Nat.reduceLeDiff, Nat.reduceAdd, Nat.reduceLT, Nat.reduceEqDiff, reduceCtorEq, ↓reduceIte, rqs]
    refine call_by (g) (by rfl) (by simp) ?_
    simp (disch := omega) only [wk, tis, Int.reduceNe, Int.reduceEq, Int.reduceLT, Int.reduceLE, Int.reduceAdd, Int.reduceSub, Int.reduceNeg, Int.reduceMul, Int.reduceToNat, Nat.reduceSub, Nat.reduceMul, Nat.reduceLeDiff, Nat.reduceAdd, Nat.reduceLT, Nat.reduceEqDiff, reduceCtorEq, ↓reduceIte, rqs]
    refine call_by (c2) (by rfl) (by simp) ?_
    simp (disch := omega) only [wk, tis, Int.reduceNe, Int.reduceEq, Int.reduceLT, Int.reduceLE, Int.reduceAdd, Int.reduceSub, Int.reduceNeg, Int.reduceMul, Int.reduceToNat, Nat.reduceSub, Nat.reduceMul, Nat.reduceLeDiff, Nat.reduceAdd, Nat.reduceLT, Nat.reduceEqDiff, reduceCtorEq, ↓reduceIte, rqs]
    refine call_by (p2) (by rfl) (by simp) ?_
    simp (disch := omega) only [wk, tis, Int.reduceNe, Int.reduceEq, Int.reduceLT, Int.reduceLE, Int.reduceAdd, Int.reduceSub, Int.reduceNeg, Int.reduceMul, Int.reduceToNat, Nat.reduceSub, Nat.reduceMul, Nat.reduceLeDiff, Nat.reduceAdd, Nat.reduceLT, Nat.reduceEqDiff, reduceCtorEq, ↓reduceIte, rqs]
    refine call_by (s1) (by rfl) (by simp) ?_
    simp (disch := omega) only [wk, tis, Int.reduceNe, Int.reduceEq, Int.reduceLT, Int.reduceLE, Int.reduceAdd, Int.reduceSub, Int.reduceNeg, Int.reduceMul, Int.reduceToNat, Nat.reduceSub, Nat.reduceMul, Nat.reduceLeDiff, Nat.reduceAdd, Nat.reduceLT, Nat.reduceEqDiff, reduceCtorEq, ↓reduceIte, rqs]
    refine call_by (s2) (by rfl) (by simp) ?_
    simp (disch := omega) only [wk, tis, Int.reduceNe, Int.reduceEq, Int.reduceLT, Int.reduceLE, Int.reduceAdd, Int.reduceSub, Int.reduceNeg, Int.reduceMul, Int.reduceToNat, Nat.reduceSub, Nat.reduceMul, Nat.reduceLeDiff, Nat.reduceAdd, Nat.reduceLT, Nat.reduceEqDiff, reduceCtorEq, ↓reduceIte, rqs]
    refine call_by (s3) (by rfl) (by simp) ?_
    simp (disch := omega) only [wk, tis, Int.reduceNe, Int.reduceEq, Int.reduceLT, Int.reduceLE, Int.reduceAdd, Int.reduceSub, Int.reduceNeg, Int.reduceMul, Int.reduceToNat, Nat.reduceSub, Nat.reduceMul, Nat.reduceLeDiff, Nat.reduceAdd, Nat.reduceLT, Nat.reduceEqDiff, reduceCtorEq, ↓reduceIte, rqs]
    refine call_by (s4) (by rfl) (by simp) ?_
    simp (disch := omega) only [wk, tis, Int.reduceNe, Int.reduceEq, Int.reduceLT, Int.reduceLE, Int.reduceAdd, Int.reduceSub, Int.reduceNeg, Int.reduceMul, Int.reduceToNat, Nat.reduceSub, Nat.reduceMul, Nat.reduceLeDiff, Nat.reduceAdd, Nat.reduceLT, Nat.reduceEqDiff, reduceCtorEq, ↓reduceIte, rqs]
    try rfl
end Go.Proofs.YtjadkhkgmdikiaaGreat
