/-
  Contracts of the functions that the law reaches.
-/
import Derived.Test.YthgecppfgdadiaaL19
import Derived.Test.YthgecppfgdadiaaAbsV
namespace Go.Proofs.Ythgecppfgdadiaa
open Go Go.Proofs Go.AL
set_option linter.unusedSimpArgs false
set_option linter.unusedVariables false

theorem slow_ok (p : List RI) (h : RP (2 ^ 40) (2 ^ 40) p) : AC Try.prog 39 [cw p] none [ci (if lw (pv p) < p.length then lw (pv p) else 0), ci (if lw (pv p) < p.length then 0 else 1)] := by
  refine AC.by_walk (rs := [.tmp 2, .tmp 3]) ords Try.func39 (by rfl) (by rfl) (by rfl) (by rfl) (by rfl) ?_
  have hl := h.1
  simp (disch := omega) only [wk, tis, Int.reduceNe, Int.reduceEq, Int.reduceLT, Int.reduceLE, Int.reduceAdd, Int.reduceSub, Int.reduceNeg, Int.reduceMul, Int.reduceToNat, Nat.reduceSub, Nat.reduceMul, Nat.reduceLeDiff, Nat.reduceAdd, Nat.reduceLT, Nat.reduceEqDiff, reduceCtorEq, ↓reduceIte, cpoly_len, natsr_len, natsr_at, natsr_snoc, natsr_app, natsr_rows, natsr_nil]
  refine aloop_by (fun f H => ∃ (i : Nat), i ≤ p.length ∧ (∀ j, j < i → cf (pv p) j = 0) ∧ f 4 = .iv (.int .i64 i) ∧ f 0 = .iv (.sl (raws p))) (fun f H => (p.length - intAt f 4).toNat) ?_ ?_
  · refine ⟨0, by omega, fun j hj => by omega, ?_⟩
    simp (disch := omega) only [wk, tis, Int.reduceNe, Int.reduceEq, Int.reduceLT, Int.reduceLE, Int.reduceAdd, Int.reduceSub, Int.reduceNeg, Int.reduceMul, Int.reduceToNat, Nat.reduceSub, Nat.reduceMul, Nat.reduceLeDiff, Nat.reduceAdd, Nat.reduceLT, Nat.reduceEqDiff, reduceCtorEq, ↓reduceIte, cpoly_len, natsr_len, natsr_at, natsr_snoc, natsr_app, natsr_rows, natsr_nil]
  rintro f H ⟨i, hi, hz, hF⟩
  rw [intAt_of hF.1]
  simp (disch := omega) only [wk, tis, Int.reduceNe, Int.reduceEq, Int.reduceLT, Int.reduceLE, Int.reduceAdd, Int.reduceSub, Int.reduceNeg, Int.reduceMul, Int.reduceToNat, Nat.reduceSub, Nat.reduceMul, Nat.reduceLeDiff, Nat.reduceAdd, Nat.reduceLT, Nat.reduceEqDiff, reduceCtorEq, ↓reduceIte, cpoly_len, natsr_len, natsr_at, natsr_snoc, natsr_app, natsr_rows, natsr_nil, hF]
  refine if_by (fun hlt => ?_) (fun hlt => ?_)
  · simp (disch := omega) only [wk, tis, Int.reduceNe, Int.reduceEq, Int.reduceLT, Int.reduceLE, Int.reduceAdd, Int.reduceSub, Int.reduceNeg, Int.reduceMul, Int.reduceToNat, Nat.reduceSub, Nat.reduceMul, Nat.reduceLeDiff, Nat.reduceAdd, Nat.reduceLT, Nat.reduceEqDiff, reduceCtorEq, ↓reduceIte, cpoly_len, natsr_len, natsr_at, natsr_snoc, natsr_app, natsr_rows, natsr_nil, hF]
    refine call_by ((rSign_ok (p.getD i (false, [])) (h.get _))) (by first | rfl | (simp only [tocvs, tocv, hF]; rfl)) (by simp) ?_
    simp (disch := omega) only [wk, tis, Int.reduceNe, Int.reduceEq, Int.reduceLT, Int.reduceLE, Int.reduceAdd, Int.reduceSub, Int.reduceNeg, Int.reduceMul, Int.reduceToNat, Nat.reduceSub, Nat.reduceMul, Nat.reduceLeDiff, Nat.reduceAdd, Nat.reduceLT, Nat.reduceEqDiff, reduceCtorEq, ↓reduceIte, cpoly_len, natsr_len, natsr_at, natsr_snoc, natsr_app, natsr_rows, natsr_nil, hF]
    rw [← cf_pv]
    refine if_by (fun hs => ?_) (fun hs => ?_)
    · simp (disch := omega) only [wk, tis, Int.reduceNe, Int.reduceEq, Int.reduceLT, Int.reduceLE, Int.reduceAdd, Int.reduceSub, Int.reduceNeg, Int.reduceMul, Int.reduceToNat, Nat.reduceSub, Nat.reduceMul, Nat.reduceLeDiff, Nat.reduceAdd, Nat.reduceLT, Nat.reduceEqDiff, reduceCtorEq, ↓reduceIte, cpoly_len, natsr_len, natsr_at, natsr_snoc, natsr_app, natsr_rows, natsr_nil, hF]
      have := lw_at hz (fun e => hs (by rw [e]; rfl))
      rw [this, if_pos (by omega), if_pos (by omega)]
      exact ⟨rfl, rfl⟩
    · simp (disch := omega) only [wk, tis, Int.reduceNe, Int.reduceEq, Int.reduceLT, Int.reduceLE, Int.reduceAdd, Int.reduceSub, Int.reduceNeg, Int.reduceMul, Int.reduceToNat, Nat.reduceSub, Nat.reduceMul, Nat.reduceLeDiff, Nat.reduceAdd, Nat.reduceLT, Nat.reduceEqDiff, reduceCtorEq, ↓reduceIte, cpoly_len, natsr_len, natsr_at, natsr_snoc, natsr_app, natsr_rows, natsr_nil, hF]
      have hs : cf (pv p) i = 0 := Int.sign_eq_zero_iff_zero.mp (Decidable.not_not.mp hs)
      refine ⟨⟨i + 1, by omega, fun j hj => ?_, by omega⟩, by omega⟩
      by_cases e : j = i
      · rw [e]; exact hs
      · exact hz j (by omega)
  · simp (disch := omega) only [wk, tis, Int.reduceNe, Int.reduceEq, Int.reduceLT, Int.reduceLE, Int.reduceAdd, Int.reduceSub, Int.reduceNeg, Int.reduceMul, Int.reduceToNat, Nat.reduceSub, Nat.reduceMul, Nat.reduceLeDiff, Nat.reduceAdd, Nat.reduceLT, Nat.reduceEqDiff, reduceCtorEq, ↓reduceIte, cpoly_len, natsr_len, natsr_at, natsr_snoc, natsr_app, natsr_rows, natsr_nil, hF]
    have := lw_all (q := pv p) (fun j hj => hz j (by rw [pv_len] at hj; omega))
    rw [this, pv_len, if_neg (by omega), if_neg (by omega)]
    exact ⟨rfl, rfl⟩

theorem plow_ok (p : List RI) (h : RP (2 ^ 40) (2 ^ 40) p) : AC Try.prog 40 [cw p] none [ci (if lw (pv p) < p.length then lw (pv p) else 0), ci (if lw (pv p) < p.length then 0 else 1)] := by
  refine AC.by_walk (rs := [.tmp 2, .tmp 3]) ords Try.func40 (by rfl) (by rfl) (by rfl) (by rfl) (by rfl) ?_
  have hl := h.1
  simp (disch := omega) only [wk, tis, Int.reduceNe, Int.reduceEq, Int.reduceLT, Int.reduceLE, Int.reduceAdd, Int.reduceSub, Int.reduceNeg, Int.reduceMul, Int.reduceToNat, Nat.reduceSub, Nat.reduceMul, Nat.reduceLeDiff, Nat.reduceAdd, Nat.reduceLT, Nat.reduceEqDiff, reduceCtorEq, ↓reduceIte, cpoly_len, natsr_len, natsr_at, natsr_snoc, natsr_app, natsr_rows, natsr_nil]
  refine aloop_by (fun f H => ∃ (i : Nat), i ≤ p.length ∧ (∀ j, j < i → cf (pv p) j = 0) ∧ f 7 = .iv (.int .i64 i) ∧ f 0 = .iv (.sl (raws p)) ∧ f 6 = .iv (.int .i64 p.length)) (fun f H => (p.length - intAt f 7).toNat) ?_ ?_
  · refine ⟨0, by omega, fun j hj => by omega, ?_⟩
    simp (disch := omega) only [wk, tis, Int.reduceNe, Int.reduceEq, Int.reduceLT, Int.reduceLE, Int.reduceAdd, Int.reduceSub, Int.reduceNeg, Int.reduceMul, Int.reduceToNat, Nat.reduceSub, Nat.reduceMul, Nat.reduceLeDiff, Nat.reduceAdd, Nat.reduceLT, Nat.reduceEqDiff, reduceCtorEq, ↓reduceIte, cpoly_len, natsr_len, natsr_at, natsr_snoc, natsr_app, natsr_rows, natsr_nil]
  rintro f H ⟨i, hi, hz, hF⟩
  rw [intAt_of hF.1]
  simp (disch := omega) only [wk, tis, Int.reduceNe, Int.reduceEq, Int.reduceLT, Int.reduceLE, Int.reduceAdd, Int.reduceSub, Int.reduceNeg, Int.reduceMul, Int.reduceToNat, Nat.reduceSub, Nat.reduceMul, Nat.reduceLeDiff, Nat.reduceAdd, Nat.reduceLT, Nat.reduceEqDiff, reduceCtorEq, ↓reduceIte, cpoly_len, natsr_len, natsr_at, natsr_snoc, natsr_app, natsr_rows, natsr_nil, hF]
  refine if_by (fun hlt => ?_) (fun hlt => ?_)
  · simp (disch := omega) only [wk, tis, Int.reduceNe, Int.reduceEq, Int.reduceLT, Int.reduceLE, Int.reduceAdd, Int.reduceSub, Int.reduceNeg, Int.reduceMul, Int.reduceToNat, Nat.reduceSub, Nat.reduceMul, Nat.reduceLeDiff, Nat.reduceAdd, Nat.reduceLT, Nat.reduceEqDiff, reduceCtorEq, ↓reduceIte, cpoly_len, natsr_len, natsr_at, natsr_snoc, natsr_app, natsr_rows, natsr_nil, hF]
    refine call_by ((zsign_ok (p.getD i (false, [])) (h.get _))) (by first | rfl | (simp only [tocvs, tocv, hF]; rfl)) (by simp) ?_
    simp (disch := omega) only [wk, tis, Int.reduceNe, Int.reduceEq, Int.reduceLT, Int.reduceLE, Int.reduceAdd, Int.reduceSub, Int.reduceNeg, Int.reduceMul, Int.reduceToNat, Nat.reduceSub, Nat.reduceMul, Nat.reduceLeDiff, Nat.reduceAdd, Nat.reduceLT, Nat.reduceEqDiff, reduceCtorEq, ↓reduceIte, cpoly_len, natsr_len, natsr_at, natsr_snoc, natsr_app, natsr_rows, natsr_nil, hF]
    rw [← cf_pv]
    refine if_by (fun hs => ?_) (fun hs => ?_)
    · simp (disch := omega) only [wk, tis, Int.reduceNe, Int.reduceEq, Int.reduceLT, Int.reduceLE, Int.reduceAdd, Int.reduceSub, Int.reduceNeg, Int.reduceMul, Int.reduceToNat, Nat.reduceSub, Nat.reduceMul, Nat.reduceLeDiff, Nat.reduceAdd, Nat.reduceLT, Nat.reduceEqDiff, reduceCtorEq, ↓reduceIte, cpoly_len, natsr_len, natsr_at, natsr_snoc, natsr_app, natsr_rows, natsr_nil, hF]
      have := lw_at hz (fun e => hs (by rw [e]; rfl))
      rw [this, if_pos (by omega), if_pos (by omega)]
      exact ⟨rfl, rfl⟩
    · simp (disch := omega) only [wk, tis, Int.reduceNe, Int.reduceEq, Int.reduceLT, Int.reduceLE, Int.reduceAdd, Int.reduceSub, Int.reduceNeg, Int.reduceMul, Int.reduceToNat, Nat.reduceSub, Nat.reduceMul, Nat.reduceLeDiff, Nat.reduceAdd, Nat.reduceLT, Nat.reduceEqDiff, reduceCtorEq, ↓reduceIte, cpoly_len, natsr_len, natsr_at, natsr_snoc, natsr_app, natsr_rows, natsr_nil, hF]
      have hs : cf (pv p) i = 0 := Int.sign_eq_zero_iff_zero.mp (Decidable.not_not.mp hs)
      refine ⟨⟨i + 1, by omega, fun j hj => ?_, by omega⟩, by omega⟩
      by_cases e : j = i
      · rw [e]; exact hs
      · exact hz j (by omega)
  · simp (disch := omega) only [wk, tis, Int.reduceNe, Int.reduceEq, Int.reduceLT, Int.reduceLE, Int.reduceAdd, Int.reduceSub, Int.reduceNeg, Int.reduceMul, Int.reduceToNat, Nat.reduceSub, Nat.reduceMul, Nat.reduceLeDiff, Nat.reduceAdd, Nat.reduceLT, Nat.reduceEqDiff, reduceCtorEq, ↓reduceIte, cpoly_len, natsr_len, natsr_at, natsr_snoc, natsr_app, natsr_rows, natsr_nil, hF]
    have := lw_all (q := pv p) (fun j hj => hz j (by rw [pv_len] at hj; omega))
    rw [this, pv_len, if_neg (by omega), if_neg (by omega)]
    exact ⟨rfl, rfl⟩

theorem sdeg_ok (p : List RI) (h : RP (2 ^ 40) (2 ^ 40) p) : AC Try.prog 41 [cw p] none [ci ((tz (pv p) : Int) - 1)] := by
  refine AC.by_walk (rs := [.tmp 2]) ords Try.func41 (by rfl) (by rfl) (by rfl) (by rfl) (by rfl) ?_
  have hl := h.1
  simp (disch := omega) only [wk, tis, Int.reduceNe, Int.reduceEq, Int.reduceLT, Int.reduceLE, Int.reduceAdd, Int.reduceSub, Int.reduceNeg, Int.reduceMul, Int.reduceToNat, Nat.reduceSub, Nat.reduceMul, Nat.reduceLeDiff, Nat.reduceAdd, Nat.reduceLT, Nat.reduceEqDiff, reduceCtorEq, ↓reduceIte, cpoly_len, natsr_len, natsr_at, natsr_snoc, natsr_app, natsr_rows, natsr_nil]
  refine aloop_by (fun f H => ∃ (k : Nat), k ≤ p.length ∧ tz ((pv p).take k) = tz (pv p) ∧ f 3 = .iv (.int .i64 ((k : Int) - 1)) ∧ f 0 = .iv (.sl (raws p))) (fun f H => (intAt f 3 + 1).toNat) ?_ ?_
  · refine ⟨p.length, by omega, by rw [← pv_len p, List.take_length], ?_⟩
    simp (disch := omega) only [wk, tis, Int.reduceNe, Int.reduceEq, Int.reduceLT, Int.reduceLE, Int.reduceAdd, Int.reduceSub, Int.reduceNeg, Int.reduceMul, Int.reduceToNat, Nat.reduceSub, Nat.reduceMul, Nat.reduceLeDiff, Nat.reduceAdd, Nat.reduceLT, Nat.reduceEqDiff, reduceCtorEq, ↓reduceIte, cpoly_len, natsr_len, natsr_at, natsr_snoc, natsr_app, natsr_rows, natsr_nil]
  rintro f H ⟨k, hk, ht, hF⟩
  rw [intAt_of hF.1]
  simp (disch := omega) only [wk, tis, Int.reduceNe, Int.reduceEq, Int.reduceLT, Int.reduceLE, Int.reduceAdd, Int.reduceSub, Int.reduceNeg, Int.reduceMul, Int.reduceToNat, Nat.reduceSub, Nat.reduceMul, Nat.reduceLeDiff, Nat.reduceAdd, Nat.reduceLT, Nat.reduceEqDiff, reduceCtorEq, ↓reduceIte, cpoly_len, natsr_len, natsr_at, natsr_snoc, natsr_app, natsr_rows, natsr_nil, hF]
  by_cases h0 : 0 ≤ (k : Int) - 1
  · obtain ⟨j, rfl⟩ : ∃ j, k = j + 1 := ⟨k - 1, by omega⟩
    have ej : ((j + 1 : Nat) : Int) - 1 = (j : Int) := by omega
    rw [ej] at hF
    simp (disch := omega) only [wk, tis, Int.reduceNe, Int.reduceEq, Int.reduceLT, Int.reduceLE, Int.reduceAdd, Int.reduceSub, Int.reduceNeg, Int.reduceMul, Int.reduceToNat, Nat.reduceSub, Nat.reduceMul, Nat.reduceLeDiff, Nat.reduceAdd, Nat.reduceLT, Nat.reduceEqDiff, reduceCtorEq, ↓reduceIte, cpoly_len, natsr_len, natsr_at, natsr_snoc, natsr_app, natsr_rows, natsr_nil, hF, h0, ej]
    refine call_by ((rSign_ok (p.getD j (false, [])) (h.get _))) (by first | rfl | (simp only [tocvs, tocv, hF]; rfl)) (by simp) ?_
    simp (disch := omega) only [wk, tis, Int.reduceNe, Int.reduceEq, Int.reduceLT, Int.reduceLE, Int.reduceAdd, Int.reduceSub, Int.reduceNeg, Int.reduceMul, Int.reduceToNat, Nat.reduceSub, Nat.reduceMul, Nat.reduceLeDiff, Nat.reduceAdd, Nat.reduceLT, Nat.reduceEqDiff, reduceCtorEq, ↓reduceIte, cpoly_len, natsr_len, natsr_at, natsr_snoc, natsr_app, natsr_rows, natsr_nil, hF]
    rw [← cf_pv]
    refine if_by (fun hs => ?_) (fun hs => ?_)
    · simp (disch := omega) only [wk, tis, Int.reduceNe, Int.reduceEq, Int.reduceLT, Int.reduceLE, Int.reduceAdd, Int.reduceSub, Int.reduceNeg, Int.reduceMul, Int.reduceToNat, Nat.reduceSub, Nat.reduceMul, Nat.reduceLeDiff, Nat.reduceAdd, Nat.reduceLT, Nat.reduceEqDiff, reduceCtorEq, ↓reduceIte, cpoly_len, natsr_len, natsr_at, natsr_snoc, natsr_app, natsr_rows, natsr_nil, hF]
      exact ⟨⟨j, by omega, by rw [← tz_take_zero (by rw [pv_len]; omega) (Int.sign_eq_zero_iff_zero.mp hs), ht], rfl⟩, by omega⟩
    · simp (disch := omega) only [wk, tis, Int.reduceNe, Int.reduceEq, Int.reduceLT, Int.reduceLE, Int.reduceAdd, Int.reduceSub, Int.reduceNeg, Int.reduceMul, Int.reduceToNat, Nat.reduceSub, Nat.reduceMul, Nat.reduceLeDiff, Nat.reduceAdd, Nat.reduceLT, Nat.reduceEqDiff, reduceCtorEq, ↓reduceIte, cpoly_len, natsr_len, natsr_at, natsr_snoc, natsr_app, natsr_rows, natsr_nil, hF]
      rw [← ht, tz_full (by rw [pv_len]; omega) (fun e => hs (by rw [e]; rfl))]
      omega
  · simp (disch := omega) only [wk, tis, Int.reduceNe, Int.reduceEq, Int.reduceLT, Int.reduceLE, Int.reduceAdd, Int.reduceSub, Int.reduceNeg, Int.reduceMul, Int.reduceToNat, Nat.reduceSub, Nat.reduceMul, Nat.reduceLeDiff, Nat.reduceAdd, Nat.reduceLT, Nat.reduceEqDiff, reduceCtorEq, ↓reduceIte, cpoly_len, natsr_len, natsr_at, natsr_snoc, natsr_app, natsr_rows, natsr_nil, hF, h0]
    have : k = 0 := by omega
    subst this
    rw [← ht]; rfl

theorem pcoef_ok (p : List RI) (i : Int) (h : RP (2 ^ 40) (2 ^ 40) p) : AC Try.prog 43 [cw p, ci i] none [cz (if i < 0 then 0 else cf (pv p) i.toNat)] := by
  refine AC.by_walk (rs := [.cell 4 40]) ords Try.func43 (by rfl) (by rfl) (by rfl) (by rfl) (by rfl) ?_
  have hl := h.1
  simp (disch := omega) only [wk, tis, Int.reduceNe, Int.reduceEq, Int.reduceLT, Int.reduceLE, Int.reduceAdd, Int.reduceSub, Int.reduceNeg, Int.reduceMul, Int.reduceToNat, Nat.reduceSub, Nat.reduceMul, Nat.reduceLeDiff, Nat.reduceAdd, Nat.reduceLT, Nat.reduceEqDiff, reduceCtorEq, ↓reduceIte, cpoly_len, natsr_len, natsr_at, natsr_snoc, natsr_app, natsr_rows, natsr_nil]
  have key : AC Try.prog 95 [cw p, ci i] none [cr (if i < 0 then (false, []) else p.getD i.toNat (false, []))] := by
    refine AC.by_walk (rs := [.cell 4 40]) ords Try.func95 (by rfl) (by rfl) (by rfl) (by rfl) (by rfl) ?_
    by_cases h0 : i < 0
    · simp (disch := omega) only [wk, tis, Int.reduceNe, Int.reduceEq, Int.reduceLT, Int.reduceLE, Int.reduceAdd, Int.reduceSub, Int.reduceNeg, Int.reduceMul, Int.reduceToNat, Nat.reduceSub, Nat.reduceMul, Nat.reduceLeDiff, Nat.reduceAdd, Nat.reduceLT, Nat.reduceEqDiff, reduceCtorEq, ↓reduceIte, cpoly_len, natsr_len, natsr_at, natsr_snoc, natsr_app, natsr_rows, natsr_nil, h0]
    by_cases h1 : (p.length : Int) ≤ i
    · simp (disch := omega) only [wk, tis, Int.reduceNe, Int.reduceEq, Int.reduceLT, Int.reduceLE, Int.reduceAdd, Int.reduceSub, Int.reduceNeg, Int.reduceMul, Int.reduceToNat, Nat.reduceSub, Nat.reduceMul, Nat.reduceLeDiff, Nat.reduceAdd, Nat.reduceLT, Nat.reduceEqDiff, reduceCtorEq, ↓reduceIte, cpoly_len, natsr_len, natsr_at, natsr_snoc, natsr_app, natsr_rows, natsr_nil, h0, h1]
      have e : p.getD i.toNat (false, []) = (false, []) := by rw [List.getD_eq_getElem?_getD, List.getElem?_eq_none (by omega)]; rfl
      rw [e]
    · simp (disch := omega) only [wk, tis, Int.reduceNe, Int.reduceEq, Int.reduceLT, Int.reduceLE, Int.reduceAdd, Int.reduceSub, Int.reduceNeg, Int.reduceMul, Int.reduceToNat, Nat.reduceSub, Nat.reduceMul, Nat.reduceLeDiff, Nat.reduceAdd, Nat.reduceLT, Nat.reduceEqDiff, reduceCtorEq, ↓reduceIte, cpoly_len, natsr_len, natsr_at, natsr_snoc, natsr_app, natsr_rows, natsr_nil, h0, h1]
  refine call_by (key) (by rfl) (by simp) ?_
  simp (disch := omega) only [wk, tis, Int.reduceNe, Int.reduceEq, Int.reduceLT, Int.reduceLE, Int.reduceAdd, Int.reduceSub, Int.reduceNeg, Int.reduceMul, Int.reduceToNat, Nat.reduceSub, Nat.reduceMul, Nat.reduceLeDiff, Nat.reduceAdd, Nat.reduceLT, Nat.reduceEqDiff, reduceCtorEq, ↓reduceIte, cpoly_len, natsr_len, natsr_at, natsr_snoc, natsr_app, natsr_rows, natsr_nil]
  have hs : Sz (2 ^ 40) (if i < 0 then (false, []) else p.getD i.toNat (false, [])) := by
    split
    · exact ⟨by simp, Lim.nil⟩
    · exact h.get _
  have e : iv (if i < 0 then (false, []) else p.getD i.toNat (false, [])) = if i < 0 then 0 else cf (pv p) i.toNat := by
    split
    · exact iv_zero
    · rw [← cf_pv]
  refine call_by ((znorm_ok _ hs)) (by rfl) (by simp) ?_
  simp (disch := omega) only [wk, tis, Int.reduceNe, Int.reduceEq, Int.reduceLT, Int.reduceLE, Int.reduceAdd, Int.reduceSub, Int.reduceNeg, Int.reduceMul, Int.reduceToNat, Nat.reduceSub, Nat.reduceMul, Nat.reduceLeDiff, Nat.reduceAdd, Nat.reduceLT, Nat.reduceEqDiff, reduceCtorEq, ↓reduceIte, cpoly_len, natsr_len, natsr_at, natsr_snoc, natsr_app, natsr_rows, natsr_nil]
  rw [e]

theorem plead_ok (p : List RI) (h : RP (2 ^ 40) (2 ^ 40) p) : AC Try.prog 45 [cw p] none [cz (cf (pv p) (tz (pv p) - 1))] := by
  refine AC.by_walk (rs := [.cell 2 40]) ords Try.func45 (by rfl) (by rfl) (by rfl) (by rfl) (by rfl) ?_
  have hl := h.1
  simp (disch := omega) only [wk, tis, Int.reduceNe, Int.reduceEq, Int.reduceLT, Int.reduceLE, Int.reduceAdd, Int.reduceSub, Int.reduceNeg, Int.reduceMul, Int.reduceToNat, Nat.reduceSub, Nat.reduceMul, Nat.reduceLeDiff, Nat.reduceAdd, Nat.reduceLT, Nat.reduceEqDiff, reduceCtorEq, ↓reduceIte, cpoly_len, natsr_len, natsr_at, natsr_snoc, natsr_app, natsr_rows, natsr_nil]
  refine call_by ((pdeg_ok p h)) (by rfl) (by simp) ?_
  simp (disch := omega) only [wk, tis, Int.reduceNe, Int.reduceEq, Int.reduceLT, Int.reduceLE, Int.reduceAdd, Int.reduceSub, Int.reduceNeg, Int.reduceMul, Int.reduceToNat, Nat.reduceSub, Nat.reduceMul, Nat.reduceLeDiff, Nat.reduceAdd, Nat.reduceLT, Nat.reduceEqDiff, reduceCtorEq, ↓reduceIte, cpoly_len, natsr_len, natsr_at, natsr_snoc, natsr_app, natsr_rows, natsr_nil]
  have := pcoef_ok p ((tz (pv p) : Int) - 1) h
  have e : (if (tz (pv p) : Int) - 1 < 0 then 0 else cf (pv p) ((tz (pv p) : Int) - 1).toNat) = cf (pv p) (tz (pv p) - 1) := by
    by_cases h0 : tz (pv p) = 0
    · rw [if_pos (by omega), cf_ge_tz _ (by omega)]
    · rw [if_neg (by omega)]; congr 1; omega
  rw [e] at this
  refine call_by (this) (by rfl) (by simp) ?_
  simp (disch := omega) only [wk, tis, Int.reduceNe, Int.reduceEq, Int.reduceLT, Int.reduceLE, Int.reduceAdd, Int.reduceSub, Int.reduceNeg, Int.reduceMul, Int.reduceToNat, Nat.reduceSub, Nat.reduceMul, Nat.reduceLeDiff, Nat.reduceAdd, Nat.reduceLT, Nat.reduceEqDiff, reduceCtorEq, ↓reduceIte, cpoly_len, natsr_len, natsr_at, natsr_snoc, natsr_app, natsr_rows, natsr_nil]

theorem slead_ok (p : List RI) (h : RP (2 ^ 40) (2 ^ 40) p) : AC Try.prog 46 [cw p] none [cz (cf (pv p) (tz (pv p) - 1))] := by
  refine AC.by_walk (rs := [.cell 2 40]) ords Try.func46 (by rfl) (by rfl) (by rfl) (by rfl) (by rfl) ?_
  have hl := h.1
  simp (disch := omega) only [wk, tis, Int.reduceNe, Int.reduceEq, Int.reduceLT, Int.reduceLE, Int.reduceAdd, Int.reduceSub, Int.reduceNeg, Int.reduceMul, Int.reduceToNat, Nat.reduceSub, Nat.reduceMul, Nat.reduceLeDiff, Nat.reduceAdd, Nat.reduceLT, Nat.reduceEqDiff, reduceCtorEq, ↓reduceIte, cpoly_len, natsr_len, natsr_at, natsr_snoc, natsr_app, natsr_rows, natsr_nil]
  refine call_by ((sdeg_ok p h)) (by rfl) (by simp) ?_
  simp (disch := omega) only [wk, tis, Int.reduceNe, Int.reduceEq, Int.reduceLT, Int.reduceLE, Int.reduceAdd, Int.reduceSub, Int.reduceNeg, Int.reduceMul, Int.reduceToNat, Nat.reduceSub, Nat.reduceMul, Nat.reduceLeDiff, Nat.reduceAdd, Nat.reduceLT, Nat.reduceEqDiff, reduceCtorEq, ↓reduceIte, cpoly_len, natsr_len, natsr_at, natsr_snoc, natsr_app, natsr_rows, natsr_nil]
  have := scoef_ok p ((tz (pv p) : Int) - 1) h
  have e : (if (tz (pv p) : Int) - 1 < 0 then 0 else cf (pv p) ((tz (pv p) : Int) - 1).toNat) = cf (pv p) (tz (pv p) - 1) := by
    by_cases h0 : tz (pv p) = 0
    · rw [if_pos (by omega), cf_ge_tz _ (by omega)]
    · rw [if_neg (by omega)]; congr 1; omega
  rw [e] at this
  refine call_by (this) (by rfl) (by simp) ?_
  simp (disch := omega) only [wk, tis, Int.reduceNe, Int.reduceEq, Int.reduceLT, Int.reduceLE, Int.reduceAdd, Int.reduceSub, Int.reduceNeg, Int.reduceMul, Int.reduceToNat, Nat.reduceSub, Nat.reduceMul, Nat.reduceLeDiff, Nat.reduceAdd, Nat.reduceLT, Nat.reduceEqDiff, reduceCtorEq, ↓reduceIte, cpoly_len, natsr_len, natsr_at, natsr_snoc, natsr_app, natsr_rows, natsr_nil]

end Go.Proofs.Ythgecppfgdadiaa
