/-
  Contracts of the functions that the law reaches.
-/
import Derived.Test.YtjadkhkgmdikiaaGreatL103M
namespace Go.Proofs.YtjadkhkgmdikiaaGreat
open Go Go.Proofs Go.AL
set_option linter.unusedSimpArgs false
set_option linter.unusedVariables false

theorem tat_ok (A : List Rat) (n : Int) (hl : A.length ≤ 2 ^ 40) : AC Tryz.prog 47 [cqw (A.map crat), ci n] none [cqz (if n < 0 then 0 else cfq A n.toNat)] := by
  have hq : (A.map crat).length = A.length := List.length_map _
  have z := hP_ok 0 1 (by omega) (by omega) (by omega) (by omega)
  rw [show ((0 : Int) : Rat) / ((1 : Nat) : Rat) = 0 by decide +kernel] at z
  refine AC.by_walk (rs := [.cell 4 31]) ords Tryz.func47 (by rfl) (by rfl) (by rfl) (by rfl) (by rfl) ?_
  by_cases h0 : n < 0
  · rw [if_pos h0]
    simp (disch := omega) only [wk, tis, Int.reduceNe, Int.reduceEq, Int.reduceLT, Int.reduceLE, Int.reduceAdd, Int.reduceSub, Int.reduceNeg, Int.reduceMul, Int.reduceToNat, Nat.reduceSub, Nat.reduceMul, Nat.reduceLeDiff, Nat.reduceAdd, Nat.reduceLT, Nat.reduceEqDiff, reduceCtorEq, ↓reduceIte, rqs, h0]
    refine call_by (z) (by first | rfl | (simp only [tocvs, tocv, h0]; rfl) | (simp only [tocvs, tocv, toboxes, tobox, updH_at, Nat.reduceEqDiff, ↓reduceIte, h0]; rfl)) (by simp) ?_
    simp (disch := omega) only [wk, tis, Int.reduceNe, Int.reduceEq, Int.reduceLT, Int.reduceLE, Int.reduceAdd, Int.reduceSub, Int.reduceNeg, Int.reduceMul, Int.reduceToNat, Nat.reduceSub, Nat.reduceMul, Nat.reduceLeDiff, Nat.reduceAdd, Nat.reduceLT, Nat.reduceEqDiff, reduceCtorEq, ↓reduceIte, rqs, h0]
    try rfl
  · rw [if_neg h0]
    obtain ⟨i, rfl⟩ : ∃ i : Nat, n = i := ⟨n.toNat, by omega⟩
    rw [Int.toNat_natCast]
    by_cases h1 : i < A.length
    · have h2 : ¬ (A.length : Int) ≤ (i : Int) := by omega
      have e := cratq_get h1
      simp (disch := omega) only [wk, tis, Int.reduceNe, Int.reduceEq, Int.reduceLT, Int.reduceLE, Int.reduceAdd, Int.reduceSub, Int.reduceNeg, Int.reduceMul, Int.reduceToNat, Nat.reduceSub, Nat.reduceMul, Nat.reduceLeDiff, Nat.reduceAdd, Nat.reduceLT, Nat.reduceEqDiff, reduceCtorEq, ↓reduceIte, rqs, h0, h2, hq, e]
      try rfl
    · have h2 : (A.length : Int) ≤ (i : Int) := by omega
      rw [cfq_ge (by omega)]
      simp (disch := omega) only [wk, tis, Int.reduceNe, Int.reduceEq, Int.reduceLT, Int.reduceLE, Int.reduceAdd, Int.reduceSub, Int.reduceNeg, Int.reduceMul, Int.reduceToNat, Nat.reduceSub, Nat.reduceMul, Nat.reduceLeDiff, Nat.reduceAdd, Nat.reduceLT, Nat.reduceEqDiff, reduceCtorEq, ↓reduceIte, rqs, h0, h2, hq]
      refine call_by (z) (by first | rfl | (simp only [tocvs, tocv, h0, h2, hq]; rfl) | (simp only [tocvs, tocv, toboxes, tobox, updH_at, Nat.reduceEqDiff, ↓reduceIte, h0, h2, hq]; rfl)) (by simp) ?_
      simp (disch := omega) only [wk, tis, Int.reduceNe, Int.reduceEq, Int.reduceLT, Int.reduceLE, Int.reduceAdd, Int.reduceSub, Int.reduceNeg, Int.reduceMul, Int.reduceToNat, Nat.reduceSub, Nat.reduceMul, Nat.reduceLeDiff, Nat.reduceAdd, Nat.reduceLT, Nat.reduceEqDiff, reduceCtorEq, ↓reduceIte, rqs, h0, h2, hq]
      try rfl
/-- c * x^n. -/
def monoq (c : Rat) (n : Nat) : List Rat := List.replicate n 0 ++ [c]
theorem monoq_len (c : Rat) (n : Nat) : (monoq c n).length = n + 1 := by simp [monoq]
theorem monoq_crat (n : Nat) (c : Rat) : (monoq c n).map crat = (List.replicate n 0).map crat ++ [crat c] := by rw [monoq, List.map_append]; rfl
theorem rep0_snoc (n : Nat) : (List.replicate (n + 1) (0 : Rat)).map crat = (List.replicate n (0 : Rat)).map crat ++ [crat 0] := by
  rw [List.replicate_succ', List.map_append]; rfl
theorem qz_monoq {c : Rat} {n k : Nat} (h : qz c ≤ k) (hk : 1 ≤ k) : QB (n + 1) k (monoq c n) := ⟨by rw [monoq_len]; exact Nat.le_refl _, fun x hx => by
  rcases List.mem_append.1 hx with h1 | h1
  · rw [List.eq_of_mem_replicate h1, qz_zero]; exact hk
  · rw [List.mem_singleton.1 h1]; exact h⟩

theorem qmono_ok (r : RQ) (n : Nat) (h : SzQ (2 ^ 38) r) (h0 : nv r.2 ≠ 0) (hn : n ≤ 4096) : AC Tryz.prog 50 [cqq r, ci n] none [cqp (monoq (qv r) n), ci 0] := by
  have m := qnorm_ok r h h0
  have h1 : ¬ (n : Int) < 0 := by omega
  have h2 : ¬ 4096 < (n : Int) := by omega
  have t := qtrim_own (monoq (qv r) n) ((qz_monoq (n := n) (qz_raw h h0) (by omega)).mono (by omega) (Nat.le_refl _))
  rw [monoq_crat] at t
  refine AC.by_walk (rs := [.tmp 4, .tmp 5]) ords Tryz.func50 (by rfl) (by rfl) (by rfl) (by rfl) (by rfl) ?_
  simp (disch := omega) only [wk, tis, Int.reduceNe, Int.reduceEq, Int.reduceLT, Int.reduceLE, Int.reduceAdd, Int.reduceSub, Int.reduceNeg, Int.reduceMul, Int.reduceToNat, Nat.reduceSub, Nat.reduceMul, Nat.reduceLeDiff, Nat.reduceAdd, Nat.reduceLT, Nat.reduceEqDiff, reduceCtorEq, ↓reduceIte, rqs]
  refine call_by (m) (by rfl) (by simp) ?_
  simp (disch := omega) only [wk, tis, Int.reduceNe, Int.reduceEq, Int.reduceLT, Int.reduceLE, Int.reduceAdd, Int.reduceSub, Int.reduceNeg, Int.reduceMul, Int.reduceToNat, Nat.reduceSub, Nat.reduceMul, Nat.reduceLeDiff, Nat.reduceAdd, Nat.reduceLT, Nat.reduceEqDiff, reduceCtorEq, ↓reduceIte, rqs]
  simp (disch := omega) only [wk, tis, Int.reduceNe, Int.reduceEq, Int.reduceLT, Int.reduceLE, Int.reduceAdd, Int.reduceSub, Int.reduceNeg, Int.reduceMul, Int.reduceToNat, Nat.reduceSub, Nat.reduceMul, Nat.reduceLeDiff, Nat.reduceAdd, Nat.reduceLT, Nat.reduceEqDiff, reduceCtorEq, ↓reduceIte, rqs, h1, h2]
  refine aloop_nil 8 8 31 3 (by simp (disch := omega) only [wk, tis, Int.reduceNe, Int.reduceEq, Int.reduceLT, Int.reduceLE, Int.reduceAdd, Int.reduceSub, Int.reduceNeg, Int.reduceMul, Int.reduceToNat, Nat.reduceSub, Nat.reduceMul, Nat.reduceLeDiff, Nat.reduceAdd, Nat.reduceLT, Nat.reduceEqDiff, reduceCtorEq, ↓reduceIte, rqs]) (fun f H => ∃ (i st st6 : Nat), i ≤ n ∧ f 26 = .iv (.int .i64 i) ∧ f 25 = .iv (.int .i64 n) ∧ f 6 = .hp 6 st6 0 0 ∧ H 6 = .blk false st6 31 3 [qrow (crat (qv r))] ∧ f 8 = .hs 8 st ∧ H 8 = .blk false st 31 3 (rats ((List.replicate i 0).map crat))) (fun f H => (n - intAt f 26).toNat) ?_ ?_
  · refine ⟨0, 1, 1, by omega, ?_⟩
    simp (disch := omega) only [wk, tis, Int.reduceNe, Int.reduceEq, Int.reduceLT, Int.reduceLE, Int.reduceAdd, Int.reduceSub, Int.reduceNeg, Int.reduceMul, Int.reduceToNat, Nat.reduceSub, Nat.reduceMul, Nat.reduceLeDiff, Nat.reduceAdd, Nat.reduceLT, Nat.reduceEqDiff, reduceCtorEq, ↓reduceIte, rqs, ghostF, ghostH, List.replicate_zero, List.map_nil]
  rintro f H ⟨i, st, st6, hi, hF⟩
  rw [intAt_of hF.1]
  simp (disch := omega) only [wk, tis, Int.reduceNe, Int.reduceEq, Int.reduceLT, Int.reduceLE, Int.reduceAdd, Int.reduceSub, Int.reduceNeg, Int.reduceMul, Int.reduceToNat, Nat.reduceSub, Nat.reduceMul, Nat.reduceLeDiff, Nat.reduceAdd, Nat.reduceLT, Nat.reduceEqDiff, reduceCtorEq, ↓reduceIte, rqs, hF]
  have hq : ((List.replicate i (0 : Rat)).map crat).length = i := by simp
  refine if_by (fun hlt => ?_) (fun hlt => ?_)
  · simp (disch := omega) only [wk, tis, Int.reduceNe, Int.reduceEq, Int.reduceLT, Int.reduceLE, Int.reduceAdd, Int.reduceSub, Int.reduceNeg, Int.reduceMul, Int.reduceToNat, Nat.reduceSub, Nat.reduceMul, Nat.reduceLeDiff, Nat.reduceAdd, Nat.reduceLT, Nat.reduceEqDiff, reduceCtorEq, ↓reduceIte, rqs, hF, hq]
    refine call_by (qnone_ok) (by first | rfl | (simp only [tocvs, tocv, hF, hq]; rfl) | (simp only [tocvs, tocv, toboxes, tobox, updH_at, Nat.reduceEqDiff, ↓reduceIte, hF, hq]; rfl)) (by simp) ?_
    simp (disch := omega) only [wk, tis, Int.reduceNe, Int.reduceEq, Int.reduceLT, Int.reduceLE, Int.reduceAdd, Int.reduceSub, Int.reduceNeg, Int.reduceMul, Int.reduceToNat, Nat.reduceSub, Nat.reduceMul, Nat.reduceLeDiff, Nat.reduceAdd, Nat.reduceLT, Nat.reduceEqDiff, reduceCtorEq, ↓reduceIte, rqs, hF, hq]
    refine ⟨⟨i + 1, st + 1, st6, by omega, ?_⟩, by omega⟩
    rw [rep0_snoc]
    (repeat' apply And.intro) <;> first | rfl | omega
  · obtain rfl : i = n := by omega
    simp (disch := omega) only [wk, tis, Int.reduceNe, Int.reduceEq, Int.reduceLT, Int.reduceLE, Int.reduceAdd, Int.reduceSub, Int.reduceNeg, Int.reduceMul, Int.reduceToNat, Nat.reduceSub, Nat.reduceMul, Nat.reduceLeDiff, Nat.reduceAdd, Nat.reduceLT, Nat.reduceEqDiff, reduceCtorEq, ↓reduceIte, rqs, hF, hq]
    refine call_by (t) (by first | rfl | (simp only [tocvs, tocv, hF, hq]; rfl) | (simp only [tocvs, tocv, toboxes, tobox, updH_at, Nat.reduceEqDiff, ↓reduceIte, hF, hq]; rfl)) (by simp) ?_
    simp (disch := omega) only [wk, tis, Int.reduceNe, Int.reduceEq, Int.reduceLT, Int.reduceLE, Int.reduceAdd, Int.reduceSub, Int.reduceNeg, Int.reduceMul, Int.reduceToNat, Nat.reduceSub, Nat.reduceMul, Nat.reduceLeDiff, Nat.reduceAdd, Nat.reduceLT, Nat.reduceEqDiff, reduceCtorEq, ↓reduceIte, rqs, hF, hq]
theorem qmono_bad (r : RQ) (n : Int) (h : Nt (2 ^ 42) r.2) (h0 : nv r.2 = 0) : AC Tryz.prog 50 [cqq r, ci n] none [cqw [], ci 1] := by
  have m := qnorm_bad r h h0
  refine AC.by_walk (rs := [.tmp 4, .tmp 5]) ords Tryz.func50 (by rfl) (by rfl) (by rfl) (by rfl) (by rfl) ?_
  simp (disch := omega) only [wk, tis, Int.reduceNe, Int.reduceEq, Int.reduceLT, Int.reduceLE, Int.reduceAdd, Int.reduceSub, Int.reduceNeg, Int.reduceMul, Int.reduceToNat, Nat.reduceSub, Nat.reduceMul, Nat.reduceLeDiff, Nat.reduceAdd, Nat.reduceLT, Nat.reduceEqDiff, reduceCtorEq, ↓reduceIte, rqs]
  refine call_by (m) (by rfl) (by simp) ?_
  simp (disch := omega) only [wk, tis, Int.reduceNe, Int.reduceEq, Int.reduceLT, Int.reduceLE, Int.reduceAdd, Int.reduceSub, Int.reduceNeg, Int.reduceMul, Int.reduceToNat, Nat.reduceSub, Nat.reduceMul, Nat.reduceLeDiff, Nat.reduceAdd, Nat.reduceLT, Nat.reduceEqDiff, reduceCtorEq, ↓reduceIte, rqs]
  try rfl
theorem qmono_arg (r : RQ) (n : Int) (h : SzQ (2 ^ 38) r) (h0 : nv r.2 ≠ 0) (hn : n < 0 ∨ 4096 < n) : AC Tryz.prog 50 [cqq r, ci n] none [cqw [], ci 3] := by
  have m := qnorm_ok r h h0
  refine AC.by_walk (rs := [.tmp 4, .tmp 5]) ords Tryz.func50 (by rfl) (by rfl) (by rfl) (by rfl) (by rfl) ?_
  simp (disch := omega) only [wk, tis, Int.reduceNe, Int.reduceEq, Int.reduceLT, Int.reduceLE, Int.reduceAdd, Int.reduceSub, Int.reduceNeg, Int.reduceMul, Int.reduceToNat, Nat.reduceSub, Nat.reduceMul, Nat.reduceLeDiff, Nat.reduceAdd, Nat.reduceLT, Nat.reduceEqDiff, reduceCtorEq, ↓reduceIte, rqs]
  refine call_by (m) (by rfl) (by simp) ?_
  simp (disch := omega) only [wk, tis, Int.reduceNe, Int.reduceEq, Int.reduceLT, Int.reduceLE, Int.reduceAdd, Int.reduceSub, Int.reduceNeg, Int.reduceMul, Int.reduceToNat, Nat.reduceSub, Nat.reduceMul, Nat.reduceLeDiff, Nat.reduceAdd, Nat.reduceLT, Nat.reduceEqDiff, reduceCtorEq, ↓reduceIte, rqs]
  by_cases h1 : n < 0
  · simp (disch := omega) only [wk, tis, Int.reduceNe, Int.reduceEq, Int.reduceLT, Int.reduceLE, Int.reduceAdd, Int.reduceSub, Int.reduceNeg, Int.reduceMul, Int.reduceToNat, Nat.reduceSub, Nat.reduceMul, Nat.reduceLeDiff, Nat.reduceAdd, Nat.reduceLT, Nat.reduceEqDiff, reduceCtorEq, ↓reduceIte, rqs, h1]
    try rfl
  · have h2 : 4096 < n := hn.resolve_left h1
    simp (disch := omega) only [wk, tis, Int.reduceNe, Int.reduceEq, Int.reduceLT, Int.reduceLE, Int.reduceAdd, Int.reduceSub, Int.reduceNeg, Int.reduceMul, Int.reduceToNat, Nat.reduceSub, Nat.reduceMul, Nat.reduceLeDiff, Nat.reduceAdd, Nat.reduceLT, Nat.reduceEqDiff, reduceCtorEq, ↓reduceIte, rqs, h1, h2]
    try rfl

theorem tmono_ok (r : RQ) (n : Nat) (h : SzQ (2 ^ 38) r) (h0 : nv r.2 ≠ 0) (hn : n ≤ 4096) : AC Tryz.prog 49 [cqq r, ci n] none [cqp (monoq (qv r) n), ci 0] := by
  have o := hok_ok r ⟨Nat.le_trans h.2.1 (by omega), h.2.2⟩
  rw [decide_eq_true h0] at o
  have h1 : ¬ (n : Int) < 0 := by omega
  have h2 : ¬ 4096 < (n : Int) := by omega
  have z := hP_ok 0 1 (by omega) (by omega) (by omega) (by omega)
  rw [show ((0 : Int) : Rat) / ((1 : Nat) : Rat) = 0 by decide +kernel] at z
  have g : GQ (2 ^ 40) (2 ^ 38) ((List.replicate n (0 : Rat)).map crat ++ [r]) := ⟨by simp; omega, fun c hc => by
    rcases List.mem_append.1 hc with h3 | h3
    · obtain ⟨d, hd, rfl⟩ := List.mem_map.1 h3
      rw [List.eq_of_mem_replicate hd]
      exact ⟨szq_crat (by rw [qz_zero]; omega), nv_crat0 _⟩
    · rw [List.mem_singleton.1 h3]
      exact ⟨h, h0⟩⟩
  have f := tform_ok _ g
  have e : qvs ((List.replicate n (0 : Rat)).map crat ++ [r]) = monoq (qv r) n := by
    rw [qvs, List.map_append, monoq]
    congr 1
    exact qvs_map _
  rw [e] at f
  refine AC.by_walk (rs := [.tmp 4, .tmp 5]) ords Tryz.func49 (by rfl) (by rfl) (by rfl) (by rfl) (by rfl) ?_
  simp (disch := omega) only [wk, tis, Int.reduceNe, Int.reduceEq, Int.reduceLT, Int.reduceLE, Int.reduceAdd, Int.reduceSub, Int.reduceNeg, Int.reduceMul, Int.reduceToNat, Nat.reduceSub, Nat.reduceMul, Nat.reduceLeDiff, Nat.reduceAdd, Nat.reduceLT, Nat.reduceEqDiff, reduceCtorEq, ↓reduceIte, rqs]
  refine call_by (o) (by rfl) (by simp) ?_
  simp (disch := omega) only [wk, tis, Int.reduceNe, Int.reduceEq, Int.reduceLT, Int.reduceLE, Int.reduceAdd, Int.reduceSub, Int.reduceNeg, Int.reduceMul, Int.reduceToNat, Nat.reduceSub, Nat.reduceMul, Nat.reduceLeDiff, Nat.reduceAdd, Nat.reduceLT, Nat.reduceEqDiff, reduceCtorEq, ↓reduceIte, rqs]
  simp (disch := omega) only [wk, tis, Int.reduceNe, Int.reduceEq, Int.reduceLT, Int.reduceLE, Int.reduceAdd, Int.reduceSub, Int.reduceNeg, Int.reduceMul, Int.reduceToNat, Nat.reduceSub, Nat.reduceMul, Nat.reduceLeDiff, Nat.reduceAdd, Nat.reduceLT, Nat.reduceEqDiff, reduceCtorEq, ↓reduceIte, rqs, h1, h2]
  refine aloop_nil 6 6 31 3 (by simp (disch := omega) only [wk, tis, Int.reduceNe, Int.reduceEq, Int.reduceLT, Int.reduceLE, Int.reduceAdd, Int.reduceSub, Int.reduceNeg, Int.reduceMul, Int.reduceToNat, Nat.reduceSub, Nat.reduceMul, Nat.reduceLeDiff, Nat.reduceAdd, Nat.reduceLT, Nat.reduceEqDiff, reduceCtorEq, ↓reduceIte, rqs]) (fun f H => ∃ (i st st2 : Nat), i ≤ n ∧ f 7 = .iv (.int .i64 i) ∧ f 1 = .iv (.int .i64 n) ∧ f 2 = .hp 2 st2 0 0 ∧ H 2 = .blk false st2 31 3 [qrow r] ∧ f 6 = .hs 6 st ∧ H 6 = .blk false st 31 3 (rats ((List.replicate i 0).map crat))) (fun f H => (n - intAt f 7).toNat) ?_ ?_
  · refine ⟨0, 1, 1, by omega, ?_⟩
    simp (disch := omega) only [wk, tis, Int.reduceNe, Int.reduceEq, Int.reduceLT, Int.reduceLE, Int.reduceAdd, Int.reduceSub, Int.reduceNeg, Int.reduceMul, Int.reduceToNat, Nat.reduceSub, Nat.reduceMul, Nat.reduceLeDiff, Nat.reduceAdd, Nat.reduceLT, Nat.reduceEqDiff, reduceCtorEq, ↓reduceIte, rqs, ghostF, ghostH, List.replicate_zero, List.map_nil]
  rintro f H ⟨i, st, st2, hi, hF⟩
  rw [intAt_of hF.1]
  simp (disch := omega) only [wk, tis, Int.reduceNe, Int.reduceEq, Int.reduceLT, Int.reduceLE, Int.reduceAdd, Int.reduceSub, Int.reduceNeg, Int.reduceMul, Int.reduceToNat, Nat.reduceSub, Nat.reduceMul, Nat.reduceLeDiff, Nat.reduceAdd, Nat.reduceLT, Nat.reduceEqDiff, reduceCtorEq, ↓reduceIte, rqs, hF]
  have hq : ((List.replicate i (0 : Rat)).map crat).length = i := by simp
  refine if_by (fun hlt => ?_) (fun hlt => ?_)
  · simp (disch := omega) only [wk, tis, Int.reduceNe, Int.reduceEq, Int.reduceLT, Int.reduceLE, Int.reduceAdd, Int.reduceSub, Int.reduceNeg, Int.reduceMul, Int.reduceToNat, Nat.reduceSub, Nat.reduceMul, Nat.reduceLeDiff, Nat.reduceAdd, Nat.reduceLT, Nat.reduceEqDiff, reduceCtorEq, ↓reduceIte, rqs, hF, hq]
    refine call_by (z) (by first | rfl | (simp only [tocvs, tocv, hF, hq]; rfl) | (simp only [tocvs, tocv, toboxes, tobox, updH_at, Nat.reduceEqDiff, ↓reduceIte, hF, hq]; rfl)) (by simp) ?_
    simp (disch := omega) only [wk, tis, Int.reduceNe, Int.reduceEq, Int.reduceLT, Int.reduceLE, Int.reduceAdd, Int.reduceSub, Int.reduceNeg, Int.reduceMul, Int.reduceToNat, Nat.reduceSub, Nat.reduceMul, Nat.reduceLeDiff, Nat.reduceAdd, Nat.reduceLT, Nat.reduceEqDiff, reduceCtorEq, ↓reduceIte, rqs, hF, hq]
    refine ⟨⟨i + 1, st + 1, st2, by omega, ?_⟩, by omega⟩
    rw [rep0_snoc]
    (repeat' apply And.intro) <;> first | rfl | omega
  · obtain rfl : i = n := by omega
    simp (disch := omega) only [wk, tis, Int.reduceNe, Int.reduceEq, Int.reduceLT, Int.reduceLE, Int.reduceAdd, Int.reduceSub, Int.reduceNeg, Int.reduceMul, Int.reduceToNat, Nat.reduceSub, Nat.reduceMul, Nat.reduceLeDiff, Nat.reduceAdd, Nat.reduceLT, Nat.reduceEqDiff, reduceCtorEq, ↓reduceIte, rqs, hF, hq]
    refine call_by (f) (by first | rfl | (simp only [tocvs, tocv, hF, hq]; rfl) | (simp only [tocvs, tocv, toboxes, tobox, updH_at, Nat.reduceEqDiff, ↓reduceIte, hF, hq]; rfl)) (by simp) ?_
    simp (disch := omega) only [wk, tis, Int.reduceNe, Int.reduceEq, Int.reduceLT, Int.reduceLE, Int.reduceAdd, Int.reduceSub, Int.reduceNeg, Int.reduceMul, Int.reduceToNat, Nat.reduceSub, Nat.reduceMul, Nat.reduceLeDiff, Nat.reduceAdd, Nat.reduceLT, Nat.reduceEqDiff, reduceCtorEq, ↓reduceIte, rqs, hF, hq]
theorem tmono_bad (r : RQ) (n : Int) (h : Nt (2 ^ 40) r.2) (h0 : nv r.2 = 0) : AC Tryz.prog 49 [cqq r, ci n] none [cqw [], ci 1] := by
  have o := hok_ok r h
  rw [decide_eq_false (fun h => h h0)] at o
  refine AC.by_walk (rs := [.tmp 4, .tmp 5]) ords Tryz.func49 (by rfl) (by rfl) (by rfl) (by rfl) (by rfl) ?_
  simp (disch := omega) only [wk, tis, Int.reduceNe, Int.reduceEq, Int.reduceLT, Int.reduceLE, Int.reduceAdd, Int.reduceSub, Int.reduceNeg, Int.reduceMul, Int.reduceToNat, Nat.reduceSub, Nat.reduceMul, Nat.reduceLeDiff, Nat.reduceAdd, Nat.reduceLT, Nat.reduceEqDiff, reduceCtorEq, ↓reduceIte, rqs]
  refine call_by (o) (by rfl) (by simp) ?_
  simp (disch := omega) only [wk, tis, Int.reduceNe, Int.reduceEq, Int.reduceLT, Int.reduceLE, Int.reduceAdd, Int.reduceSub, Int.reduceNeg, Int.reduceMul, Int.reduceToNat, Nat.reduceSub, Nat.reduceMul, Nat.reduceLeDiff, Nat.reduceAdd, Nat.reduceLT, Nat.reduceEqDiff, reduceCtorEq, ↓reduceIte, rqs]
  try rfl
theorem tmono_arg (r : RQ) (n : Int) (h : Nt (2 ^ 40) r.2) (h0 : nv r.2 ≠ 0) (hn : n < 0 ∨ 4096 < n) : AC Tryz.prog 49 [cqq r, ci n] none [cqw [], ci 3] := by
  have o := hok_ok r h
  rw [decide_eq_true h0] at o
  refine AC.by_walk (rs := [.tmp 4, .tmp 5]) ords Tryz.func49 (by rfl) (by rfl) (by rfl) (by rfl) (by rfl) ?_
  simp (disch := omega) only [wk, tis, Int.reduceNe, Int.reduceEq, Int.reduceLT, Int.reduceLE, Int.reduceAdd, Int.reduceSub, Int.reduceNeg, Int.reduceMul, Int.reduceToNat, Nat.reduceSub, Nat.reduceMul, Nat.reduceLeDiff, Nat.reduceAdd, Nat.reduceLT, Nat.reduceEqDiff, reduceCtorEq, ↓reduceIte, rqs]
  refine call_by (o) (by rfl) (by simp) ?_
  simp (disch := omega) only [wk, tis, Int.reduceNe, Int.reduceEq, Int.reduceLT, Int.reduceLE, Int.reduceAdd, Int.reduceSub, Int.reduceNeg, Int.reduceMul, Int.reduceToNat, Nat.reduceSub, Nat.reduceMul, Nat.reduceLeDiff, Nat.reduceAdd, Nat.reduceLT, Nat.reduceEqDiff, reduceCtorEq, ↓reduceIte, rqs]
  by_cases h1 : n < 0
  · simp (disch := omega) only [wk, tis, Int.reduceNe, Int.reduceEq, Int.reduceLT, Int.reduceLE, Int.reduceAdd, Int.reduceSub, Int.reduceNeg, Int.reduceMul, Int.reduceToNat, Nat.reduceSub, Nat.reduceMul, Nat.reduceLeDiff, Nat.reduceAdd, Nat.reduceLT, Nat.reduceEqDiff, reduceCtorEq, ↓reduceIte, rqs, h1]
    try rfl
  · have h2 : 4096 < n := hn.resolve_left h1
    simp (disch := omega) only [wk, tis, Int.reduceNe, Int.reduceEq, Int.reduceLT, Int.reduceLE, Int.reduceAdd, Int.reduceSub, Int.reduceNeg, Int.reduceMul, Int.reduceToNat, Nat.reduceSub, Nat.reduceMul, Nat.reduceLeDiff, Nat.reduceAdd, Nat.reduceLT, Nat.reduceEqDiff, reduceCtorEq, ↓reduceIte, rqs, h1, h2]
    try rfl

/-- Both, whatever they are handed. -/
theorem mono_both (r : RQ) (n : Int) (h : SzQ (2 ^ 38) r) : ∃ m e, BQ (2 ^ 40) (2 ^ 40) m ∧ AC Tryz.prog 49 [cqq r, ci n] none [cqw m, ci e] ∧ AC Tryz.prog 50 [cqq r, ci n] none [cqw m, ci e] := by
  by_cases h0 : nv r.2 = 0
  · exact ⟨[], 1, bq_nil _ _, tmono_bad r n ⟨Nat.le_trans h.2.1 (by omega), h.2.2⟩ h0, qmono_bad r n ⟨Nat.le_trans h.2.1 (by omega), h.2.2⟩ h0⟩
  · by_cases hn : n < 0 ∨ 4096 < n
    · exact ⟨[], 3, bq_nil _ _, tmono_arg r n ⟨Nat.le_trans h.2.1 (by omega), h.2.2⟩ h0 hn, qmono_arg r n h h0 hn⟩
    · obtain ⟨i, rfl⟩ : ∃ i : Nat, n = i := ⟨n.toNat, by omega⟩
      exact ⟨cqs (monoq (qv r) i), 0, ((qz_monoq (n := i) (qz_raw h h0) (by omega)).gqs.bq).mono (by omega) (by omega), tmono_ok r i h h0 (by omega), qmono_ok r i h h0 (by omega)⟩

/-! ### The fixed fact -/
theorem known_ok : AC Tryz.prog 27 [] none [cb true] := by
  have p1 := hP_ok 1 2 (by omega) (by omega) (by omega) (by omega)
  have p2 := hP_ok 1 1 (by omega) (by omega) (by omega) (by omega)
  have p3 := hP_ok (-1) 2 (by omega) (by omega) (by omega) (by omega)
  have p4 := hP_ok (-1) 4 (by omega) (by omega) (by omega) (by omega)
  have p5 := hP_ok 0 1 (by omega) (by omega) (by omega) (by omega)
  rw [show ((1 : Int) : Rat) / ((2 : Nat) : Rat) = mkRat 1 2 by decide +kernel] at p1
  rw [show ((1 : Int) : Rat) / ((1 : Nat) : Rat) = 1 by decide +kernel] at p2
  rw [show ((-1 : Int) : Rat) / ((2 : Nat) : Rat) = mkRat (-1) 2 by decide +kernel] at p3
  rw [show ((-1 : Int) : Rat) / ((4 : Nat) : Rat) = mkRat (-1) 4 by decide +kernel] at p4
  rw [show ((0 : Int) : Rat) / ((1 : Nat) : Rat) = 0 by decide +kernel] at p5
  have b : ∀ x ∈ [mkRat 1 2, (1 : Rat), mkRat (-1) 2, mkRat (-1) 4, 0], qz x ≤ 1 := by decide +kernel
  have q1 : QB 2 1 [mkRat 1 2, 1] := ⟨by simp, fun c hc => b c (by simp at hc ⊢; rcases hc with rfl | rfl <;> simp)⟩
  have q2 : QB 2 1 [mkRat (-1) 2, 1] := ⟨by simp, fun c hc => b c (by simp at hc ⊢; rcases hc with rfl | rfl <;> simp)⟩
  have q3 : QB 3 1 [mkRat (-1) 4, 0, 1] := ⟨by simp, fun c hc => b c (by simp at hc ⊢; rcases hc with rfl | rfl | rfl <;> simp)⟩
  have m := qpmul_ok ([mkRat 1 2, 1].map crat) ([mkRat (-1) 2, 1].map crat) 2 1 q1.gq q2.gq (by omega) (by omega) (by omega)
  rw [qvs_map, qvs_map] at m
  have e : cqs (mulq [mkRat 1 2, 1] [mkRat (-1) 2, 1]) = [mkRat (-1) 4, 0, 1].map crat := by
    rw [cqs, show trimq (mulq [mkRat 1 2, 1] [mkRat (-1) 2, 1]) = [mkRat (-1) 4, 0, 1] by decide +kernel]
  rw [show cqp (mulq [mkRat 1 2, 1] [mkRat (-1) 2, 1]) = cqw ([mkRat (-1) 4, 0, 1].map crat) from congrArg cqw e] at m
  have s := tsame_self (q3.gq.bq.mono (n' := 2 ^ 40) (k' := 2 ^ 40) (by omega) (by omega))
  refine AC.by_walk (rs := [.tmp 0]) ords Tryz.func27 (by rfl) (by rfl) (by rfl) (by rfl) (by rfl) ?_
  simp (disch := omega) only [wk, tis, Int.reduceNe, Int.reduceEq, Int.reduceLT, Int.reduceLE, Int.reduceAdd, Int.reduceSub, Int.reduceNeg, Int.reduceMul, Int.reduceToNat, Nat.reduceSub, Nat.reduceMul, Nat.reduceLeDiff, Nat.reduceAdd, Nat.reduceLT, Nat.reduceEqDiff, reduceCtorEq, ↓reduceIte, rqs]
  refine call_by (p1) (by rfl) (by simp) ?_
  simp (disch := omega) only [wk, tis, Int.reduceNe, Int.reduceEq, Int.reduceLT, Int.reduceLE, Int.reduceAdd, Int.reduceSub, Int.reduceNeg, Int.reduceMul, Int.reduceToNat, Nat.reduceSub, Nat.reduceMul, Nat.reduceLeDiff, Nat.reduceAdd, Nat.reduceLT, Nat.reduceEqDiff, reduceCtorEq, ↓reduceIte, rqs]
  refine call_by (p2) (by rfl) (by simp) ?_
  simp (disch := omega) only [wk, tis, Int.reduceNe, Int.reduceEq, Int.reduceLT, Int.reduceLE, Int.reduceAdd, Int.reduceSub, Int.reduceNeg, Int.reduceMul, Int.reduceToNat, Nat.reduceSub, Nat.reduceMul, Nat.reduceLeDiff, Nat.reduceAdd, Nat.reduceLT, Nat.reduceEqDiff, reduceCtorEq, ↓reduceIte, rqs]
  refine call_by (p3) (by rfl) (by simp) ?_
  simp (disch := omega) only [wk, tis, Int.reduceNe, Int.reduceEq, Int.reduceLT, Int.reduceLE, Int.reduceAdd, Int.reduceSub, Int.reduceNeg, Int.reduceMul, Int.reduceToNat, Nat.reduceSub, Nat.reduceMul, Nat.reduceLeDiff, Nat.reduceAdd, Nat.reduceLT, Nat.reduceEqDiff, reduceCtorEq, ↓reduceIte, rqs]
  refine call_by (p2) (by rfl) (by simp) ?_
  simp (disch := omega) only [wk, tis, Int.reduceNe, Int.reduceEq, Int.reduceLT, Int.reduceLE, Int.reduceAdd, Int.reduceSub, Int.reduceNeg, Int.reduceMul, Int.reduceToNat, Nat.reduceSub, Nat.reduceMul, Nat.reduceLeDiff, Nat.reduceAdd, Nat.reduceLT, Nat.reduceEqDiff, reduceCtorEq, ↓reduceIte, rqs]
  refine call_by (m) (by rfl) (by simp) ?_
  simp (disch := omega) only [wk, tis, Int.reduceNe, Int.reduceEq, Int.reduceLT, Int.reduceLE, Int.reduceAdd, Int.reduceSub, Int.reduceNeg, Int.reduceMul, Int.reduceToNat, Nat.reduceSub, Nat.reduceMul, Nat.reduceLeDiff, Nat.reduceAdd, Nat.reduceLT, Nat.reduceEqDiff, reduceCtorEq, ↓reduceIte, rqs]
  refine call_by (p4) (by rfl) (by simp) ?_
  simp (disch := omega) only [wk, tis, Int.reduceNe, Int.reduceEq, Int.reduceLT, Int.reduceLE, Int.reduceAdd, Int.reduceSub, Int.reduceNeg, Int.reduceMul, Int.reduceToNat, Nat.reduceSub, Nat.reduceMul, Nat.reduceLeDiff, Nat.reduceAdd, Nat.reduceLT, Nat.reduceEqDiff, reduceCtorEq, ↓reduceIte, rqs]
  refine call_by (p5) (by rfl) (by simp) ?_
  simp (disch := omega) only [wk, tis, Int.reduceNe, Int.reduceEq, Int.reduceLT, Int.reduceLE, Int.reduceAdd, Int.reduceSub, Int.reduceNeg, Int.reduceMul, Int.reduceToNat, Nat.reduceSub, Nat.reduceMul, Nat.reduceLeDiff, Nat.reduceAdd, Nat.reduceLT, Nat.reduceEqDiff, reduceCtorEq, ↓reduceIte, rqs]
  refine call_by (p2) (by rfl) (by simp) ?_
  simp (disch := omega) only [wk, tis, Int.reduceNe, Int.reduceEq, Int.reduceLT, Int.reduceLE, Int.reduceAdd, Int.reduceSub, Int.reduceNeg, Int.reduceMul, Int.reduceToNat, Nat.reduceSub, Nat.reduceMul, Nat.reduceLeDiff, Nat.reduceAdd, Nat.reduceLT, Nat.reduceEqDiff, reduceCtorEq, ↓reduceIte, rqs]
  refine call_by (s) (by rfl) (by simp) ?_
  simp (disch := omega) only [wk, tis, Int.reduceNe, Int.reduceEq, Int.reduceLT, Int.reduceLE, Int.reduceAdd, Int.reduceSub, Int.reduceNeg, Int.reduceMul, Int.reduceToNat, Nat.reduceSub, Nat.reduceMul, Nat.reduceLeDiff, Nat.reduceAdd, Nat.reduceLT, Nat.reduceEqDiff, reduceCtorEq, ↓reduceIte, rqs]
  try rfl
end Go.Proofs.YtjadkhkgmdikiaaGreat
