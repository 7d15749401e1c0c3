/-
  Contracts of the functions that the law reaches.
-/
import Derived.Test.YthgecppfgdadiaaL20
namespace Go.Proofs.Ythgecppfgdadiaa
open Go Go.Proofs Go.AL
set_option linter.unusedSimpArgs false
set_option linter.unusedVariables false

/-- A case of the layer 9. -/
abbrev case9 (A B C : List RI) (K : RI) (N : Int) : List IV := [.sl (raws A), .sl (raws B), .sl (raws C), .bool K.1, .sl (lims K.2), .int .i64 N]

theorem gints_sub {K : RI} {k : Nat} (hK : Sz k K) (h : gi [K] = false) : Sz 200 K := by
  unfold gi at h
  rw [List.any_eq_false] at h
  have := h K (by simp)
  simp only [decide_eq_true_eq] at this
  exact ⟨by omega, hK.2⟩

theorem one_great_ok (K : RI) (hK : Sz 9223372036854775807 K) : AC Try.prog 26 [cw [K]] none [cb (gi [K])] :=
  sgints_ok [K] (by simp) (fun c hc => by simp at hc; subst hc; exact hK.1)

theorem pb_shift {n m k : Nat} {p : List Int} (hn : n ≤ 2 ^ 20) (h : PB m k p) (hm : m ≤ 2 ^ 20 := by decide) (hk : k ≤ 2 ^ 35 := by decide) : PB (2 ^ 30) (2 ^ 35) (pshift n p) :=
  ⟨by have := h.1; simp [pshift]; omega, fun z hz => by
    rcases List.mem_append.mp hz with hz | hz
    · rw [List.eq_of_mem_replicate hz, zl_zero]; omega
    · have := h.2 z hz; omega⟩

theorem ring_ok (A B C : List RI) (K : RI) (N : Int) (ha : Raw A) (hb : Raw B) (hc : Raw C) (hK : Sz 9223372036854775807 K) (hn1 : -9223372036854775808 ≤ N) (hn2 : N ≤ 9223372036854775807) :
    AC Try.prog 5 [.agg (case9 A B C K N)] none [cb true] := by
  refine AC.by_walk (rs := [.tmp 2]) ords Try.func5 (by rfl) (by rfl) (by rfl) (by rfl) (by rfl) ?_
  simp (disch := omega) only [wk, tis, Int.reduceNe, Int.reduceEq, Int.reduceLT, Int.reduceLE, Int.reduceAdd, Int.reduceSub, Int.reduceNeg, Int.reduceMul, Int.reduceToNat, Nat.reduceSub, Nat.reduceMul, Nat.reduceLeDiff, Nat.reduceAdd, Nat.reduceLT, Nat.reduceEqDiff, reduceCtorEq, ↓reduceIte, cpoly_len, List.drop_succ_cons, List.take_succ_cons, List.take_zero]
  refine call_by (awake_ok) (by rfl) (by simp) ?_
  simp (disch := omega) only [wk, tis, Int.reduceNe, Int.reduceEq, Int.reduceLT, Int.reduceLE, Int.reduceAdd, Int.reduceSub, Int.reduceNeg, Int.reduceMul, Int.reduceToNat, Nat.reduceSub, Nat.reduceMul, Nat.reduceLeDiff, Nat.reduceAdd, Nat.reduceLT, Nat.reduceEqDiff, reduceCtorEq, ↓reduceIte, cpoly_len, List.drop_succ_cons, List.take_succ_cons, List.take_zero]
  refine call_by ((great2_ok A B ha hb)) (by rfl) (by simp) ?_
  simp (disch := omega) only [wk, tis, Int.reduceNe, Int.reduceEq, Int.reduceLT, Int.reduceLE, Int.reduceAdd, Int.reduceSub, Int.reduceNeg, Int.reduceMul, Int.reduceToNat, Nat.reduceSub, Nat.reduceMul, Nat.reduceLeDiff, Nat.reduceAdd, Nat.reduceLT, Nat.reduceEqDiff, reduceCtorEq, ↓reduceIte, cpoly_len, List.drop_succ_cons, List.take_succ_cons, List.take_zero]
  by_cases hz : gp [A, B] = true
  · simp (disch := omega) only [wk, tis, Int.reduceNe, Int.reduceEq, Int.reduceLT, Int.reduceLE, Int.reduceAdd, Int.reduceSub, Int.reduceNeg, Int.reduceMul, Int.reduceToNat, Nat.reduceSub, Nat.reduceMul, Nat.reduceLeDiff, Nat.reduceAdd, Nat.reduceLT, Nat.reduceEqDiff, reduceCtorEq, ↓reduceIte, cpoly_len, List.drop_succ_cons, List.take_succ_cons, List.take_zero, hz]
  have hz : gp [A, B] = false := by simpa using hz
  simp (disch := omega) only [wk, tis, Int.reduceNe, Int.reduceEq, Int.reduceLT, Int.reduceLE, Int.reduceAdd, Int.reduceSub, Int.reduceNeg, Int.reduceMul, Int.reduceToNat, Nat.reduceSub, Nat.reduceMul, Nat.reduceLeDiff, Nat.reduceAdd, Nat.reduceLT, Nat.reduceEqDiff, reduceCtorEq, ↓reduceIte, cpoly_len, List.drop_succ_cons, List.take_succ_cons, List.take_zero, hz]
  refine call_by ((one_great_ok K hK)) (by first | rfl | (simp only [tocvs, tocv, hz]; rfl)) (by simp) ?_
  simp (disch := omega) only [wk, tis, Int.reduceNe, Int.reduceEq, Int.reduceLT, Int.reduceLE, Int.reduceAdd, Int.reduceSub, Int.reduceNeg, Int.reduceMul, Int.reduceToNat, Nat.reduceSub, Nat.reduceMul, Nat.reduceLeDiff, Nat.reduceAdd, Nat.reduceLT, Nat.reduceEqDiff, reduceCtorEq, ↓reduceIte, cpoly_len, List.drop_succ_cons, List.take_succ_cons, List.take_zero, hz]
  by_cases hk : gi [K] = true
  · simp (disch := omega) only [wk, tis, Int.reduceNe, Int.reduceEq, Int.reduceLT, Int.reduceLE, Int.reduceAdd, Int.reduceSub, Int.reduceNeg, Int.reduceMul, Int.reduceToNat, Nat.reduceSub, Nat.reduceMul, Nat.reduceLeDiff, Nat.reduceAdd, Nat.reduceLT, Nat.reduceEqDiff, reduceCtorEq, ↓reduceIte, cpoly_len, List.drop_succ_cons, List.take_succ_cons, List.take_zero, hz, hk]
  have hk : gi [K] = false := by simpa using hk
  simp (disch := omega) only [wk, tis, Int.reduceNe, Int.reduceEq, Int.reduceLT, Int.reduceLE, Int.reduceAdd, Int.reduceSub, Int.reduceNeg, Int.reduceMul, Int.reduceToNat, Nat.reduceSub, Nat.reduceMul, Nat.reduceLeDiff, Nat.reduceAdd, Nat.reduceLT, Nat.reduceEqDiff, reduceCtorEq, ↓reduceIte, cpoly_len, List.drop_succ_cons, List.take_succ_cons, List.take_zero, hz, hk]
  have ra := great_sub hz (by simp) ha
  have rb := great_sub hz (by simp) hb
  have rk := gints_sub hK hk
  have qa := ra.pv
  have qb := rb.pv
  have Ra := ra.mono (n' := 2 ^ 30) (k' := 2 ^ 35) (by decide) (by decide)
  have Rb := rb.mono (n' := 2 ^ 30) (k' := 2 ^ 35) (by decide) (by decide)
  have z1 : zl (-1) ≤ 1 := zl_le.mpr (by decide)
  have zk := zl_iv rk
  have sab := qa.padd qb
  have nb : PB _ _ (pscale (-1) (pv B)) := qb.pscale
  have na : PB _ _ (pscale (-1) (pv A)) := qa.pscale
  have dab := qa.padd nb
  have pab := qa.pmul qb (by decide)
  have ka : PB _ _ (pscale (iv K) (pv A)) := qa.pscale
  refine ⟨tmps_by (by kernel_rfl), ?_⟩
  refine call_by ((padd_g Ra Rb rfl rfl)) (by rfl) (by simp) ?_
  simp (disch := omega) only [wk, tis, Int.reduceNe, Int.reduceEq, Int.reduceLT, Int.reduceLE, Int.reduceAdd, Int.reduceSub, Int.reduceNeg, Int.reduceMul, Int.reduceToNat, Nat.reduceSub, Nat.reduceMul, Nat.reduceLeDiff, Nat.reduceAdd, Nat.reduceLT, Nat.reduceEqDiff, reduceCtorEq, ↓reduceIte, cpoly_len, List.drop_succ_cons, List.take_succ_cons, List.take_zero]
  refine call_by ((sadd_ok A B (ra.mono (by decide) (by decide)) (rb.mono (by decide) (by decide)))) (by rfl) (by simp) ?_
  simp (disch := omega) only [wk, tis, Int.reduceNe, Int.reduceEq, Int.reduceLT, Int.reduceLE, Int.reduceAdd, Int.reduceSub, Int.reduceNeg, Int.reduceMul, Int.reduceToNat, Nat.reduceSub, Nat.reduceMul, Nat.reduceLeDiff, Nat.reduceAdd, Nat.reduceLT, Nat.reduceEqDiff, reduceCtorEq, ↓reduceIte, cpoly_len, List.drop_succ_cons, List.take_succ_cons, List.take_zero]
  refine call_by ((same_g (sab.mono (by decide) (by decide)) (sab.mono (by decide) (by decide)) rfl)) (by rfl) (by simp) ?_
  simp (disch := omega) only [wk, tis, Int.reduceNe, Int.reduceEq, Int.reduceLT, Int.reduceLE, Int.reduceAdd, Int.reduceSub, Int.reduceNeg, Int.reduceMul, Int.reduceToNat, Nat.reduceSub, Nat.reduceMul, Nat.reduceLeDiff, Nat.reduceAdd, Nat.reduceLT, Nat.reduceEqDiff, reduceCtorEq, ↓reduceIte, cpoly_len, List.drop_succ_cons, List.take_succ_cons, List.take_zero]
  refine call_by ((psub_g Ra Rb rfl rfl)) (by rfl) (by simp) ?_
  simp (disch := omega) only [wk, tis, Int.reduceNe, Int.reduceEq, Int.reduceLT, Int.reduceLE, Int.reduceAdd, Int.reduceSub, Int.reduceNeg, Int.reduceMul, Int.reduceToNat, Nat.reduceSub, Nat.reduceMul, Nat.reduceLeDiff, Nat.reduceAdd, Nat.reduceLT, Nat.reduceEqDiff, reduceCtorEq, ↓reduceIte, cpoly_len, List.drop_succ_cons, List.take_succ_cons, List.take_zero]
  refine call_by ((ssub_ok A B (ra.mono (by decide) (by decide)) (rb.mono (by decide) (by decide)))) (by rfl) (by simp) ?_
  simp (disch := omega) only [wk, tis, Int.reduceNe, Int.reduceEq, Int.reduceLT, Int.reduceLE, Int.reduceAdd, Int.reduceSub, Int.reduceNeg, Int.reduceMul, Int.reduceToNat, Nat.reduceSub, Nat.reduceMul, Nat.reduceLeDiff, Nat.reduceAdd, Nat.reduceLT, Nat.reduceEqDiff, reduceCtorEq, ↓reduceIte, cpoly_len, List.drop_succ_cons, List.take_succ_cons, List.take_zero]
  refine call_by ((same_g (dab.mono (by decide) (by omega)) (dab.mono (by decide) (by omega)) rfl)) (by rfl) (by simp) ?_
  simp (disch := omega) only [wk, tis, Int.reduceNe, Int.reduceEq, Int.reduceLT, Int.reduceLE, Int.reduceAdd, Int.reduceSub, Int.reduceNeg, Int.reduceMul, Int.reduceToNat, Nat.reduceSub, Nat.reduceMul, Nat.reduceLeDiff, Nat.reduceAdd, Nat.reduceLT, Nat.reduceEqDiff, reduceCtorEq, ↓reduceIte, cpoly_len, List.drop_succ_cons, List.take_succ_cons, List.take_zero]
  refine call_by ((pneg_g Ra rfl)) (by rfl) (by simp) ?_
  simp (disch := omega) only [wk, tis, Int.reduceNe, Int.reduceEq, Int.reduceLT, Int.reduceLE, Int.reduceAdd, Int.reduceSub, Int.reduceNeg, Int.reduceMul, Int.reduceToNat, Nat.reduceSub, Nat.reduceMul, Nat.reduceLeDiff, Nat.reduceAdd, Nat.reduceLT, Nat.reduceEqDiff, reduceCtorEq, ↓reduceIte, cpoly_len, List.drop_succ_cons, List.take_succ_cons, List.take_zero]
  refine call_by ((sneg_ok A Ra)) (by rfl) (by simp) ?_
  simp (disch := omega) only [wk, tis, Int.reduceNe, Int.reduceEq, Int.reduceLT, Int.reduceLE, Int.reduceAdd, Int.reduceSub, Int.reduceNeg, Int.reduceMul, Int.reduceToNat, Nat.reduceSub, Nat.reduceMul, Nat.reduceLeDiff, Nat.reduceAdd, Nat.reduceLT, Nat.reduceEqDiff, reduceCtorEq, ↓reduceIte, cpoly_len, List.drop_succ_cons, List.take_succ_cons, List.take_zero]
  refine call_by ((same_g (na.mono (by decide) (by omega)) (na.mono (by decide) (by omega)) rfl)) (by rfl) (by simp) ?_
  simp (disch := omega) only [wk, tis, Int.reduceNe, Int.reduceEq, Int.reduceLT, Int.reduceLE, Int.reduceAdd, Int.reduceSub, Int.reduceNeg, Int.reduceMul, Int.reduceToNat, Nat.reduceSub, Nat.reduceMul, Nat.reduceLeDiff, Nat.reduceAdd, Nat.reduceLT, Nat.reduceEqDiff, reduceCtorEq, ↓reduceIte, cpoly_len, List.drop_succ_cons, List.take_succ_cons, List.take_zero]
  first | exact log_by (by kernel_rfl) | refine ⟨log_by (by kernel_rfl), ?_⟩
  refine ⟨tmps_by (by kernel_rfl), ?_⟩
  refine call_by ((pmul_g Ra Rb rfl rfl)) (by rfl) (by simp) ?_
  simp (disch := omega) only [wk, tis, Int.reduceNe, Int.reduceEq, Int.reduceLT, Int.reduceLE, Int.reduceAdd, Int.reduceSub, Int.reduceNeg, Int.reduceMul, Int.reduceToNat, Nat.reduceSub, Nat.reduceMul, Nat.reduceLeDiff, Nat.reduceAdd, Nat.reduceLT, Nat.reduceEqDiff, reduceCtorEq, ↓reduceIte, cpoly_len, List.drop_succ_cons, List.take_succ_cons, List.take_zero]
  refine call_by ((smul_ok A B Ra Rb)) (by rfl) (by simp) ?_
  simp (disch := omega) only [wk, tis, Int.reduceNe, Int.reduceEq, Int.reduceLT, Int.reduceLE, Int.reduceAdd, Int.reduceSub, Int.reduceNeg, Int.reduceMul, Int.reduceToNat, Nat.reduceSub, Nat.reduceMul, Nat.reduceLeDiff, Nat.reduceAdd, Nat.reduceLT, Nat.reduceEqDiff, reduceCtorEq, ↓reduceIte, cpoly_len, List.drop_succ_cons, List.take_succ_cons, List.take_zero]
  refine call_by ((same_g (pab.mono (by decide) (by decide)) (pab.mono (by decide) (by decide)) rfl)) (by rfl) (by simp) ?_
  simp (disch := omega) only [wk, tis, Int.reduceNe, Int.reduceEq, Int.reduceLT, Int.reduceLE, Int.reduceAdd, Int.reduceSub, Int.reduceNeg, Int.reduceMul, Int.reduceToNat, Nat.reduceSub, Nat.reduceMul, Nat.reduceLeDiff, Nat.reduceAdd, Nat.reduceLT, Nat.reduceEqDiff, reduceCtorEq, ↓reduceIte, cpoly_len, List.drop_succ_cons, List.take_succ_cons, List.take_zero]
  refine call_by ((pscale_g Ra (rk.mono (by decide)) rfl)) (by rfl) (by simp) ?_
  simp (disch := omega) only [wk, tis, Int.reduceNe, Int.reduceEq, Int.reduceLT, Int.reduceLE, Int.reduceAdd, Int.reduceSub, Int.reduceNeg, Int.reduceMul, Int.reduceToNat, Nat.reduceSub, Nat.reduceMul, Nat.reduceLeDiff, Nat.reduceAdd, Nat.reduceLT, Nat.reduceEqDiff, reduceCtorEq, ↓reduceIte, cpoly_len, List.drop_succ_cons, List.take_succ_cons, List.take_zero]
  refine call_by ((sscale_ok A K (ra.mono (by decide) (by decide)) (rk.mono (by decide)))) (by rfl) (by simp) ?_
  simp (disch := omega) only [wk, tis, Int.reduceNe, Int.reduceEq, Int.reduceLT, Int.reduceLE, Int.reduceAdd, Int.reduceSub, Int.reduceNeg, Int.reduceMul, Int.reduceToNat, Nat.reduceSub, Nat.reduceMul, Nat.reduceLeDiff, Nat.reduceAdd, Nat.reduceLT, Nat.reduceEqDiff, reduceCtorEq, ↓reduceIte, cpoly_len, List.drop_succ_cons, List.take_succ_cons, List.take_zero]
  refine call_by ((same_g (ka.mono (by decide) (by omega)) (ka.mono (by decide) (by omega)) rfl)) (by rfl) (by simp) ?_
  simp (disch := omega) only [wk, tis, Int.reduceNe, Int.reduceEq, Int.reduceLT, Int.reduceLE, Int.reduceAdd, Int.reduceSub, Int.reduceNeg, Int.reduceMul, Int.reduceToNat, Nat.reduceSub, Nat.reduceMul, Nat.reduceLeDiff, Nat.reduceAdd, Nat.reduceLT, Nat.reduceEqDiff, reduceCtorEq, ↓reduceIte, cpoly_len, List.drop_succ_cons, List.take_succ_cons, List.take_zero]
  first | exact log_by (by kernel_rfl) | refine ⟨log_by (by kernel_rfl), ?_⟩
  have bm : PB (2 ^ 30) (2 ^ 35) (if 0 ≤ N ∧ N ≤ 1000 then pmono (iv K) N.toNat else []) := by
    split
    · exact pb_shift (m := 1) (k := 200) (by omega) ⟨by simp, fun z hz => by simp at hz; subst hz; omega⟩
    · exact ⟨by simp, fun z hz => nomatch hz⟩
  have bu : PB (2 ^ 30) (2 ^ 35) (if 0 ≤ N ∧ N ≤ 1000 then pshift N.toNat (pv A) else []) := by
    split
    · exact pb_shift (by omega) qa
    · exact ⟨by simp, fun z hz => nomatch hz⟩
  have bp : PB (2 ^ 30) (2 ^ 35) (if 0 ≤ N ∧ N ≤ 1000 then ppow (pv A) N.toNat else []) := by
    split
    · exact ((qa.ppow (by decide)) _).mono (by omega) (by omega)
    · exact ⟨by simp, fun z hz => nomatch hz⟩
  have m1 := smono_ok K N (rk.mono (by decide))
  have m2 := pmono_ok K N (rk.mono (by decide))
  have u1 := sup_ok A N (ra.mono (by decide) (by decide))
  have u2 := pup_ok A N (ra.mono (by decide) (by decide))
  have w1 := spow_ok A N (ra.mono (by decide) (by decide))
  have w2 := ppow_ok A N (ra.mono (by decide) (by decide))
  generalize (if 0 ≤ N ∧ N ≤ 1000 then pmono (iv K) N.toNat else []) = qm at *
  generalize (if 0 ≤ N ∧ N ≤ 1000 then pshift N.toNat (pv A) else []) = qu at *
  generalize (if 0 ≤ N ∧ N ≤ 1000 then ppow (pv A) N.toNat else []) = qp at *
  generalize (if N < 0 then 3 else if 1000 < N then 13 else 0 : Int) = er at *
  refine frame_call (fun f H => f 1 = .hp 1 1 0 0 ∧ H 1 = .blk false 1 44 6 [case9 A B C K N]) ?_ (fun f H hF => ?_)
  · simp (disch := omega) only [wk, tis, Int.reduceNe, Int.reduceEq, Int.reduceLT, Int.reduceLE, Int.reduceAdd, Int.reduceSub, Int.reduceNeg, Int.reduceMul, Int.reduceToNat, Nat.reduceSub, Nat.reduceMul, Nat.reduceLeDiff, Nat.reduceAdd, Nat.reduceLT, Nat.reduceEqDiff, reduceCtorEq, ↓reduceIte, cpoly_len, List.drop_succ_cons, List.take_succ_cons, List.take_zero]
  refine call_by (m1) (by first | rfl | (simp only [tocvs, tocv, hF]; rfl)) (by simp) ?_
  simp (disch := omega) only [wk, tis, Int.reduceNe, Int.reduceEq, Int.reduceLT, Int.reduceLE, Int.reduceAdd, Int.reduceSub, Int.reduceNeg, Int.reduceMul, Int.reduceToNat, Nat.reduceSub, Nat.reduceMul, Nat.reduceLeDiff, Nat.reduceAdd, Nat.reduceLT, Nat.reduceEqDiff, reduceCtorEq, ↓reduceIte, cpoly_len, List.drop_succ_cons, List.take_succ_cons, List.take_zero, hF]
  refine call_by (u1) (by first | rfl | (simp only [tocvs, tocv, hF]; rfl)) (by simp) ?_
  simp (disch := omega) only [wk, tis, Int.reduceNe, Int.reduceEq, Int.reduceLT, Int.reduceLE, Int.reduceAdd, Int.reduceSub, Int.reduceNeg, Int.reduceMul, Int.reduceToNat, Nat.reduceSub, Nat.reduceMul, Nat.reduceLeDiff, Nat.reduceAdd, Nat.reduceLT, Nat.reduceEqDiff, reduceCtorEq, ↓reduceIte, cpoly_len, List.drop_succ_cons, List.take_succ_cons, List.take_zero, hF]
  refine call_by (m2) (by first | rfl | (simp only [tocvs, tocv, hF]; rfl)) (by simp) ?_
  simp (disch := omega) only [wk, tis, Int.reduceNe, Int.reduceEq, Int.reduceLT, Int.reduceLE, Int.reduceAdd, Int.reduceSub, Int.reduceNeg, Int.reduceMul, Int.reduceToNat, Nat.reduceSub, Nat.reduceMul, Nat.reduceLeDiff, Nat.reduceAdd, Nat.reduceLT, Nat.reduceEqDiff, reduceCtorEq, ↓reduceIte, cpoly_len, List.drop_succ_cons, List.take_succ_cons, List.take_zero, hF]
  refine call_by ((lplain_ok er er)) (by first | rfl | (simp only [tocvs, tocv, hF]; rfl)) (by simp) ?_
  simp (disch := omega) only [wk, tis, Int.reduceNe, Int.reduceEq, Int.reduceLT, Int.reduceLE, Int.reduceAdd, Int.reduceSub, Int.reduceNeg, Int.reduceMul, Int.reduceToNat, Nat.reduceSub, Nat.reduceMul, Nat.reduceLeDiff, Nat.reduceAdd, Nat.reduceLT, Nat.reduceEqDiff, reduceCtorEq, ↓reduceIte, cpoly_len, List.drop_succ_cons, List.take_succ_cons, List.take_zero, hF]
  refine call_by ((same_g (bm.mono (by decide) (by decide)) (bm.mono (by decide) (by decide)) rfl)) (by first | rfl | (simp only [tocvs, tocv, hF]; rfl)) (by simp) ?_
  simp (disch := omega) only [wk, tis, Int.reduceNe, Int.reduceEq, Int.reduceLT, Int.reduceLE, Int.reduceAdd, Int.reduceSub, Int.reduceNeg, Int.reduceMul, Int.reduceToNat, Nat.reduceSub, Nat.reduceMul, Nat.reduceLeDiff, Nat.reduceAdd, Nat.reduceLT, Nat.reduceEqDiff, reduceCtorEq, ↓reduceIte, cpoly_len, List.drop_succ_cons, List.take_succ_cons, List.take_zero, hF]
  refine frame_call (fun f H => f 1 = .hp 1 1 0 0 ∧ f 5 = .iv (.sl (cpoly qu)) ∧ f 6 = .iv (.int .i64 er) ∧ H 1 = .blk false 1 44 6 [case9 A B C K N]) ?_ (fun f H hF => ?_)
  · simp (disch := omega) only [wk, tis, Int.reduceNe, Int.reduceEq, Int.reduceLT, Int.reduceLE, Int.reduceAdd, Int.reduceSub, Int.reduceNeg, Int.reduceMul, Int.reduceToNat, Nat.reduceSub, Nat.reduceMul, Nat.reduceLeDiff, Nat.reduceAdd, Nat.reduceLT, Nat.reduceEqDiff, reduceCtorEq, ↓reduceIte, cpoly_len, List.drop_succ_cons, List.take_succ_cons, List.take_zero, hF]
  refine call_by (u2) (by first | rfl | (simp only [tocvs, tocv, hF]; rfl)) (by simp) ?_
  simp (disch := omega) only [wk, tis, Int.reduceNe, Int.reduceEq, Int.reduceLT, Int.reduceLE, Int.reduceAdd, Int.reduceSub, Int.reduceNeg, Int.reduceMul, Int.reduceToNat, Nat.reduceSub, Nat.reduceMul, Nat.reduceLeDiff, Nat.reduceAdd, Nat.reduceLT, Nat.reduceEqDiff, reduceCtorEq, ↓reduceIte, cpoly_len, List.drop_succ_cons, List.take_succ_cons, List.take_zero, hF]
  refine call_by ((lplain_ok er er)) (by first | rfl | (simp only [tocvs, tocv, hF]; rfl)) (by simp) ?_
  simp (disch := omega) only [wk, tis, Int.reduceNe, Int.reduceEq, Int.reduceLT, Int.reduceLE, Int.reduceAdd, Int.reduceSub, Int.reduceNeg, Int.reduceMul, Int.reduceToNat, Nat.reduceSub, Nat.reduceMul, Nat.reduceLeDiff, Nat.reduceAdd, Nat.reduceLT, Nat.reduceEqDiff, reduceCtorEq, ↓reduceIte, cpoly_len, List.drop_succ_cons, List.take_succ_cons, List.take_zero, hF]
  refine call_by ((same_g (bu.mono (by decide) (by decide)) (bu.mono (by decide) (by decide)) rfl)) (by first | rfl | (simp only [tocvs, tocv, hF]; rfl)) (by simp) ?_
  simp (disch := omega) only [wk, tis, Int.reduceNe, Int.reduceEq, Int.reduceLT, Int.reduceLE, Int.reduceAdd, Int.reduceSub, Int.reduceNeg, Int.reduceMul, Int.reduceToNat, Nat.reduceSub, Nat.reduceMul, Nat.reduceLeDiff, Nat.reduceAdd, Nat.reduceLT, Nat.reduceEqDiff, reduceCtorEq, ↓reduceIte, cpoly_len, List.drop_succ_cons, List.take_succ_cons, List.take_zero, hF]
  by_cases hle : N ≤ 1000
  · simp (disch := omega) only [wk, tis, Int.reduceNe, Int.reduceEq, Int.reduceLT, Int.reduceLE, Int.reduceAdd, Int.reduceSub, Int.reduceNeg, Int.reduceMul, Int.reduceToNat, Nat.reduceSub, Nat.reduceMul, Nat.reduceLeDiff, Nat.reduceAdd, Nat.reduceLT, Nat.reduceEqDiff, reduceCtorEq, ↓reduceIte, cpoly_len, List.drop_succ_cons, List.take_succ_cons, List.take_zero, hF, hle]
    refine call_by ((heavy_ok A N ra)) (by first | rfl | (simp only [tocvs, tocv, hF, hle]; rfl)) (by simp) ?_
    simp (disch := omega) only [wk, tis, Int.reduceNe, Int.reduceEq, Int.reduceLT, Int.reduceLE, Int.reduceAdd, Int.reduceSub, Int.reduceNeg, Int.reduceMul, Int.reduceToNat, Nat.reduceSub, Nat.reduceMul, Nat.reduceLeDiff, Nat.reduceAdd, Nat.reduceLT, Nat.reduceEqDiff, reduceCtorEq, ↓reduceIte, cpoly_len, List.drop_succ_cons, List.take_succ_cons, List.take_zero, hF, hle]
    refine if_bool (fun hh => ?_) (fun hh => ?_)
    · simp (disch := omega) only [wk, tis, Int.reduceNe, Int.reduceEq, Int.reduceLT, Int.reduceLE, Int.reduceAdd, Int.reduceSub, Int.reduceNeg, Int.reduceMul, Int.reduceToNat, Nat.reduceSub, Nat.reduceMul, Nat.reduceLeDiff, Nat.reduceAdd, Nat.reduceLT, Nat.reduceEqDiff, reduceCtorEq, ↓reduceIte, cpoly_len, List.drop_succ_cons, List.take_succ_cons, List.take_zero, hF]
    simp (disch := omega) only [wk, tis, Int.reduceNe, Int.reduceEq, Int.reduceLT, Int.reduceLE, Int.reduceAdd, Int.reduceSub, Int.reduceNeg, Int.reduceMul, Int.reduceToNat, Nat.reduceSub, Nat.reduceMul, Nat.reduceLeDiff, Nat.reduceAdd, Nat.reduceLT, Nat.reduceEqDiff, reduceCtorEq, ↓reduceIte, cpoly_len, List.drop_succ_cons, List.take_succ_cons, List.take_zero, hF]
    refine frame_call (fun f H => f 1 = .hp 1 1 0 0 ∧ H 1 = .blk false 1 44 6 [case9 A B C K N]) ?_ (fun f H hF => ?_)
    · simp (disch := omega) only [wk, tis, Int.reduceNe, Int.reduceEq, Int.reduceLT, Int.reduceLE, Int.reduceAdd, Int.reduceSub, Int.reduceNeg, Int.reduceMul, Int.reduceToNat, Nat.reduceSub, Nat.reduceMul, Nat.reduceLeDiff, Nat.reduceAdd, Nat.reduceLT, Nat.reduceEqDiff, reduceCtorEq, ↓reduceIte, cpoly_len, List.drop_succ_cons, List.take_succ_cons, List.take_zero, hF]
    refine call_by (w1) (by first | rfl | (simp only [tocvs, tocv, hF]; rfl)) (by simp) ?_
    simp (disch := omega) only [wk, tis, Int.reduceNe, Int.reduceEq, Int.reduceLT, Int.reduceLE, Int.reduceAdd, Int.reduceSub, Int.reduceNeg, Int.reduceMul, Int.reduceToNat, Nat.reduceSub, Nat.reduceMul, Nat.reduceLeDiff, Nat.reduceAdd, Nat.reduceLT, Nat.reduceEqDiff, reduceCtorEq, ↓reduceIte, cpoly_len, List.drop_succ_cons, List.take_succ_cons, List.take_zero, hF]
    refine call_by (w2) (by first | rfl | (simp only [tocvs, tocv, hF]; rfl)) (by simp) ?_
    simp (disch := omega) only [wk, tis, Int.reduceNe, Int.reduceEq, Int.reduceLT, Int.reduceLE, Int.reduceAdd, Int.reduceSub, Int.reduceNeg, Int.reduceMul, Int.reduceToNat, Nat.reduceSub, Nat.reduceMul, Nat.reduceLeDiff, Nat.reduceAdd, Nat.reduceLT, Nat.reduceEqDiff, reduceCtorEq, ↓reduceIte, cpoly_len, List.drop_succ_cons, List.take_succ_cons, List.take_zero, hF]
    refine call_by ((lplain_ok er er)) (by first | rfl | (simp only [tocvs, tocv, hF]; rfl)) (by simp) ?_
    simp (disch := omega) only [wk, tis, Int.reduceNe, Int.reduceEq, Int.reduceLT, Int.reduceLE, Int.reduceAdd, Int.reduceSub, Int.reduceNeg, Int.reduceMul, Int.reduceToNat, Nat.reduceSub, Nat.reduceMul, Nat.reduceLeDiff, Nat.reduceAdd, Nat.reduceLT, Nat.reduceEqDiff, reduceCtorEq, ↓reduceIte, cpoly_len, List.drop_succ_cons, List.take_succ_cons, List.take_zero, hF]
    refine call_by ((same_g (bp.mono (by decide) (by decide)) (bp.mono (by decide) (by decide)) rfl)) (by first | rfl | (simp only [tocvs, tocv, hF]; rfl)) (by simp) ?_
    simp (disch := omega) only [wk, tis, Int.reduceNe, Int.reduceEq, Int.reduceLT, Int.reduceLE, Int.reduceAdd, Int.reduceSub, Int.reduceNeg, Int.reduceMul, Int.reduceToNat, Nat.reduceSub, Nat.reduceMul, Nat.reduceLeDiff, Nat.reduceAdd, Nat.reduceLT, Nat.reduceEqDiff, reduceCtorEq, ↓reduceIte, cpoly_len, List.drop_succ_cons, List.take_succ_cons, List.take_zero, hF]
  · simp (disch := omega) only [wk, tis, Int.reduceNe, Int.reduceEq, Int.reduceLT, Int.reduceLE, Int.reduceAdd, Int.reduceSub, Int.reduceNeg, Int.reduceMul, Int.reduceToNat, Nat.reduceSub, Nat.reduceMul, Nat.reduceLeDiff, Nat.reduceAdd, Nat.reduceLT, Nat.reduceEqDiff, reduceCtorEq, ↓reduceIte, cpoly_len, List.drop_succ_cons, List.take_succ_cons, List.take_zero, hF, hle]
    refine frame_call (fun f H => f 1 = .hp 1 1 0 0 ∧ H 1 = .blk false 1 44 6 [case9 A B C K N]) ?_ (fun f H hF => ?_)
    · simp (disch := omega) only [wk, tis, Int.reduceNe, Int.reduceEq, Int.reduceLT, Int.reduceLE, Int.reduceAdd, Int.reduceSub, Int.reduceNeg, Int.reduceMul, Int.reduceToNat, Nat.reduceSub, Nat.reduceMul, Nat.reduceLeDiff, Nat.reduceAdd, Nat.reduceLT, Nat.reduceEqDiff, reduceCtorEq, ↓reduceIte, cpoly_len, List.drop_succ_cons, List.take_succ_cons, List.take_zero, hF]
    refine call_by (w1) (by first | rfl | (simp only [tocvs, tocv, hF]; rfl)) (by simp) ?_
    simp (disch := omega) only [wk, tis, Int.reduceNe, Int.reduceEq, Int.reduceLT, Int.reduceLE, Int.reduceAdd, Int.reduceSub, Int.reduceNeg, Int.reduceMul, Int.reduceToNat, Nat.reduceSub, Nat.reduceMul, Nat.reduceLeDiff, Nat.reduceAdd, Nat.reduceLT, Nat.reduceEqDiff, reduceCtorEq, ↓reduceIte, cpoly_len, List.drop_succ_cons, List.take_succ_cons, List.take_zero, hF]
    refine call_by (w2) (by first | rfl | (simp only [tocvs, tocv, hF]; rfl)) (by simp) ?_
    simp (disch := omega) only [wk, tis, Int.reduceNe, Int.reduceEq, Int.reduceLT, Int.reduceLE, Int.reduceAdd, Int.reduceSub, Int.reduceNeg, Int.reduceMul, Int.reduceToNat, Nat.reduceSub, Nat.reduceMul, Nat.reduceLeDiff, Nat.reduceAdd, Nat.reduceLT, Nat.reduceEqDiff, reduceCtorEq, ↓reduceIte, cpoly_len, List.drop_succ_cons, List.take_succ_cons, List.take_zero, hF]
    refine call_by ((lplain_ok er er)) (by first | rfl | (simp only [tocvs, tocv, hF]; rfl)) (by simp) ?_
    simp (disch := omega) only [wk, tis, Int.reduceNe, Int.reduceEq, Int.reduceLT, Int.reduceLE, Int.reduceAdd, Int.reduceSub, Int.reduceNeg, Int.reduceMul, Int.reduceToNat, Nat.reduceSub, Nat.reduceMul, Nat.reduceLeDiff, Nat.reduceAdd, Nat.reduceLT, Nat.reduceEqDiff, reduceCtorEq, ↓reduceIte, cpoly_len, List.drop_succ_cons, List.take_succ_cons, List.take_zero, hF]
    refine call_by ((same_g (bp.mono (by decide) (by decide)) (bp.mono (by decide) (by decide)) rfl)) (by first | rfl | (simp only [tocvs, tocv, hF]; rfl)) (by simp) ?_
    simp (disch := omega) only [wk, tis, Int.reduceNe, Int.reduceEq, Int.reduceLT, Int.reduceLE, Int.reduceAdd, Int.reduceSub, Int.reduceNeg, Int.reduceMul, Int.reduceToNat, Nat.reduceSub, Nat.reduceMul, Nat.reduceLeDiff, Nat.reduceAdd, Nat.reduceLT, Nat.reduceEqDiff, reduceCtorEq, ↓reduceIte, cpoly_len, List.drop_succ_cons, List.take_succ_cons, List.take_zero, hF]

end Go.Proofs.Ythgecppfgdadiaa
