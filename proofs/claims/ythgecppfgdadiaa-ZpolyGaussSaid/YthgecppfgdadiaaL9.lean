/-
  Contracts of the functions that the law reaches.
-/
import Derived.Test.YthgecppfgdadiaaL8
namespace Go.Proofs.Ythgecppfgdadiaa
open Go Go.Proofs Go.AL
set_option linter.unusedSimpArgs false
set_option linter.unusedVariables false

/-- Several polynomials. -/

theorem sZ_ok (n : Int) (h : -9223372036854775808 < n) (h' : n < 9223372036854775808) : AC Try.prog 98 [ci n] none [cz n] := by
  refine AC.by_walk (rs := [.cell 2 40]) ords Try.func98 (by rfl) (by rfl) (by rfl) (by rfl) (by rfl) ?_
  simp (disch := omega) only [wk, tis, Int.reduceNe, Int.reduceEq, Int.reduceLT, Int.reduceLE, Int.reduceAdd, Int.reduceSub, Int.reduceNeg, Int.reduceMul, Int.reduceToNat, Nat.reduceSub, Nat.reduceMul, Nat.reduceLeDiff, Nat.reduceAdd, Nat.reduceLT, Nat.reduceEqDiff, reduceCtorEq, ↓reduceIte]
  refine call_by ((rZ_ok n h h')) (by rfl) (by simp) ?_
  simp (disch := omega) only [wk, tis, Int.reduceNe, Int.reduceEq, Int.reduceLT, Int.reduceLE, Int.reduceAdd, Int.reduceSub, Int.reduceNeg, Int.reduceMul, Int.reduceToNat, Nat.reduceSub, Nat.reduceMul, Nat.reduceLeDiff, Nat.reduceAdd, Nat.reduceLT, Nat.reduceEqDiff, reduceCtorEq, ↓reduceIte]

theorem sown_ok (c : RI) (h : Sz (2 ^ 40) c) : AC Try.prog 105 [cr c] none [cz (iv c)] := by
  refine AC.by_walk (rs := [.cell 2 40]) ords Try.func105 (by rfl) (by rfl) (by rfl) (by rfl) (by rfl) ?_
  simp (disch := omega) only [wk, tis, Int.reduceNe, Int.reduceEq, Int.reduceLT, Int.reduceLE, Int.reduceAdd, Int.reduceSub, Int.reduceNeg, Int.reduceMul, Int.reduceToNat, Nat.reduceSub, Nat.reduceMul, Nat.reduceLeDiff, Nat.reduceAdd, Nat.reduceLT, Nat.reduceEqDiff, reduceCtorEq, ↓reduceIte]
  refine call_by ((rI_ok c.1 c.2 h.2 h.1)) (by rfl) (by simp) ?_
  simp (disch := omega) only [wk, tis, Int.reduceNe, Int.reduceEq, Int.reduceLT, Int.reduceLE, Int.reduceAdd, Int.reduceSub, Int.reduceNeg, Int.reduceMul, Int.reduceToNat, Nat.reduceSub, Nat.reduceMul, Nat.reduceLeDiff, Nat.reduceAdd, Nat.reduceLT, Nat.reduceEqDiff, reduceCtorEq, ↓reduceIte]
  rfl

theorem snorm_ok (p : List RI) (h : RP (2 ^ 40) (2 ^ 40) p) : AC Try.prog 38 [cw p] none [cp (pv p)] := by
  refine AC.by_walk (rs := [.tmp 2]) ords Try.func38 (by rfl) (by rfl) (by rfl) (by rfl) (by rfl) ?_
  have hl := h.1
  have htl := tz_le (pv p)
  rw [pv_len] at htl
  simp (disch := omega) only [wk, tis, Int.reduceNe, Int.reduceEq, Int.reduceLT, Int.reduceLE, Int.reduceAdd, Int.reduceSub, Int.reduceNeg, Int.reduceMul, Int.reduceToNat, Nat.reduceSub, Nat.reduceMul, Nat.reduceLeDiff, Nat.reduceAdd, Nat.reduceLT, Nat.reduceEqDiff, reduceCtorEq, ↓reduceIte]
  refine aloop_by (fun f H => ∃ k : Nat, k ≤ p.length ∧ f 0 = .iv (.sl (raws p)) ∧ f 3 = .iv (.int .i64 k) ∧ tz ((pv p).take k) = tz (pv p)) (fun f H => (intAt f 3).toNat) ?_ ?_
  · exact ⟨p.length, Nat.le_refl _, by simp (disch := omega) only [wk, tis, Int.reduceNe, Int.reduceEq, Int.reduceLT, Int.reduceLE, Int.reduceAdd, Int.reduceSub, Int.reduceNeg, Int.reduceMul, Int.reduceToNat, Nat.reduceSub, Nat.reduceMul, Nat.reduceLeDiff, Nat.reduceAdd, Nat.reduceLT, Nat.reduceEqDiff, reduceCtorEq, ↓reduceIte], by simp (disch := omega) only [wk, tis, Int.reduceNe, Int.reduceEq, Int.reduceLT, Int.reduceLE, Int.reduceAdd, Int.reduceSub, Int.reduceNeg, Int.reduceMul, Int.reduceToNat, Nat.reduceSub, Nat.reduceMul, Nat.reduceLeDiff, Nat.reduceAdd, Nat.reduceLT, Nat.reduceEqDiff, reduceCtorEq, ↓reduceIte], by rw [← pv_len p, List.take_length]⟩
  rintro f H ⟨k, hk, h0, h3, ht⟩
  rw [intAt_of h3]
  by_cases hc : 0 < (k : Int)
  · simp (disch := omega) only [wk, tis, Int.reduceNe, Int.reduceEq, Int.reduceLT, Int.reduceLE, Int.reduceAdd, Int.reduceSub, Int.reduceNeg, Int.reduceMul, Int.reduceToNat, Nat.reduceSub, Nat.reduceMul, Nat.reduceLeDiff, Nat.reduceAdd, Nat.reduceLT, Nat.reduceEqDiff, reduceCtorEq, ↓reduceIte, h0, h3, hc]
    have ek : ((k : Int) - 1).toNat = k - 1 := by omega
    have ek' : k = (k - 1) + 1 := by omega
    rw [ek]
    refine call_by ((rSign_ok (p.getD (k - 1) (false, [])) (h.get _))) (by first | rfl | (simp only [tocvs, tocv, h0, h3, hc]; rfl)) (by simp) ?_
    simp (disch := omega) only [wk, tis, Int.reduceNe, Int.reduceEq, Int.reduceLT, Int.reduceLE, Int.reduceAdd, Int.reduceSub, Int.reduceNeg, Int.reduceMul, Int.reduceToNat, Nat.reduceSub, Nat.reduceMul, Nat.reduceLeDiff, Nat.reduceAdd, Nat.reduceLT, Nat.reduceEqDiff, reduceCtorEq, ↓reduceIte, h0, h3, hc]
    rw [← cf_pv]
    refine if_by (fun hz => ?_) (fun hz => ?_)
    · simp (disch := omega) only [wk, tis, Int.reduceNe, Int.reduceEq, Int.reduceLT, Int.reduceLE, Int.reduceAdd, Int.reduceSub, Int.reduceNeg, Int.reduceMul, Int.reduceToNat, Nat.reduceSub, Nat.reduceMul, Nat.reduceLeDiff, Nat.reduceAdd, Nat.reduceLT, Nat.reduceEqDiff, reduceCtorEq, ↓reduceIte, h0, h3]
      refine ⟨⟨k - 1, by omega, by omega, ?_⟩, by omega⟩
      rw [← tz_take_zero (k := k - 1) (by rw [pv_len]; omega) (Int.sign_eq_zero_iff_zero.mp hz), ← ek', ht]
    · have hk : k = tz (pv p) := by
        have := tz_full (q := pv p) (k := k - 1) (by rw [pv_len]; omega) (fun e => hz (Int.sign_eq_zero_iff_zero.mpr e))
        rw [← ek', ht] at this; exact this.symm
      simp (disch := omega) only [wk, tis, Int.reduceNe, Int.reduceEq, Int.reduceLT, Int.reduceLE, Int.reduceAdd, Int.reduceSub, Int.reduceNeg, Int.reduceMul, Int.reduceToNat, Nat.reduceSub, Nat.reduceMul, Nat.reduceLeDiff, Nat.reduceAdd, Nat.reduceLT, Nat.reduceEqDiff, reduceCtorEq, ↓reduceIte, h0, h3]
      refine aloop_nil 4 4 40 2 (by simp (disch := omega) only [wk, tis, Int.reduceNe, Int.reduceEq, Int.reduceLT, Int.reduceLE, Int.reduceAdd, Int.reduceSub, Int.reduceNeg, Int.reduceMul, Int.reduceToNat, Nat.reduceSub, Nat.reduceMul, Nat.reduceLeDiff, Nat.reduceAdd, Nat.reduceLT, Nat.reduceEqDiff, reduceCtorEq, ↓reduceIte]) (fun f H => ∃ (k st : Nat), k ≤ tz (pv p) ∧ f 0 = .iv (.sl (raws p)) ∧ f 3 = .iv (.int .i64 (tz (pv p))) ∧ f 4 = .hs 4 st ∧ f 5 = .iv (.int .i64 k) ∧ H 4 = .blk false st 40 2 (raws (((trimz (pv p)).take k).map canon))) (fun f H => (tz (pv p) - intAt f 5).toNat) ?_ ?_
      · refine ⟨0, (H 4).stamp + 1, by omega, ?_⟩
        simp (disch := omega) only [wk, tis, Int.reduceNe, Int.reduceEq, Int.reduceLT, Int.reduceLE, Int.reduceAdd, Int.reduceSub, Int.reduceNeg, Int.reduceMul, Int.reduceToNat, Nat.reduceSub, Nat.reduceMul, Nat.reduceLeDiff, Nat.reduceAdd, Nat.reduceLT, Nat.reduceEqDiff, reduceCtorEq, ↓reduceIte, ghostF, ghostH, List.take_zero, h0, h3, hk]
      clear h0 h3 hk
      clear f H
      rintro f H ⟨k, st, hk, h0, h3, h4, h5, hH⟩
      rw [intAt_of h5]
      simp (disch := omega) only [wk, tis, Int.reduceNe, Int.reduceEq, Int.reduceLT, Int.reduceLE, Int.reduceAdd, Int.reduceSub, Int.reduceNeg, Int.reduceMul, Int.reduceToNat, Nat.reduceSub, Nat.reduceMul, Nat.reduceLeDiff, Nat.reduceAdd, Nat.reduceLT, Nat.reduceEqDiff, reduceCtorEq, ↓reduceIte, h0, h3, h4, h5, hH]
      refine if_by (fun hlt => ?_) (fun hlt => ?_)
      · simp (disch := omega) only [wk, tis, Int.reduceNe, Int.reduceEq, Int.reduceLT, Int.reduceLE, Int.reduceAdd, Int.reduceSub, Int.reduceNeg, Int.reduceMul, Int.reduceToNat, Nat.reduceSub, Nat.reduceMul, Nat.reduceLeDiff, Nat.reduceAdd, Nat.reduceLT, Nat.reduceEqDiff, reduceCtorEq, ↓reduceIte, h0, h3, h4, h5, hH]
        have hq : (((trimz (pv p)).take k).map canon).length = k := by rw [List.length_map, List.length_take, trimz_len]; omega
        refine call_by ((sown_ok (p.getD k (false, [])) (h.get _))) (by first | rfl | (simp only [tocvs, tocv, h0, h3, h4, h5, hH, hq]; rfl)) (by simp) ?_
        simp (disch := omega) only [wk, tis, Int.reduceNe, Int.reduceEq, Int.reduceLT, Int.reduceLE, Int.reduceAdd, Int.reduceSub, Int.reduceNeg, Int.reduceMul, Int.reduceToNat, Nat.reduceSub, Nat.reduceMul, Nat.reduceLeDiff, Nat.reduceAdd, Nat.reduceLT, Nat.reduceEqDiff, reduceCtorEq, ↓reduceIte, h0, h3, h4, h5, hH, hq]
        refine ⟨⟨k + 1, st + 1, by omega, rfl, by omega, ?_⟩, by omega⟩
        rw [trimz_take_succ (by omega), cf_pv]
      · simp (disch := omega) only [wk, tis, Int.reduceNe, Int.reduceEq, Int.reduceLT, Int.reduceLE, Int.reduceAdd, Int.reduceSub, Int.reduceNeg, Int.reduceMul, Int.reduceToNat, Nat.reduceSub, Nat.reduceMul, Nat.reduceLeDiff, Nat.reduceAdd, Nat.reduceLT, Nat.reduceEqDiff, reduceCtorEq, ↓reduceIte, h0, h3, h4, h5, hH]
        have hk : k = tz (pv p) := by omega
        rw [hk, List.take_of_length_le (by rw [trimz_len]; exact Nat.le_refl _)]
        rfl
  · have hk : k = tz (pv p) := by
      obtain rfl : k = 0 := by omega
      rw [← ht]; rfl
    simp (disch := omega) only [wk, tis, Int.reduceNe, Int.reduceEq, Int.reduceLT, Int.reduceLE, Int.reduceAdd, Int.reduceSub, Int.reduceNeg, Int.reduceMul, Int.reduceToNat, Nat.reduceSub, Nat.reduceMul, Nat.reduceLeDiff, Nat.reduceAdd, Nat.reduceLT, Nat.reduceEqDiff, reduceCtorEq, ↓reduceIte, h0, h3, hc]
    refine aloop_nil 4 4 40 2 (by simp (disch := omega) only [wk, tis, Int.reduceNe, Int.reduceEq, Int.reduceLT, Int.reduceLE, Int.reduceAdd, Int.reduceSub, Int.reduceNeg, Int.reduceMul, Int.reduceToNat, Nat.reduceSub, Nat.reduceMul, Nat.reduceLeDiff, Nat.reduceAdd, Nat.reduceLT, Nat.reduceEqDiff, reduceCtorEq, ↓reduceIte]) (fun f H => ∃ (k st : Nat), k ≤ tz (pv p) ∧ f 0 = .iv (.sl (raws p)) ∧ f 3 = .iv (.int .i64 (tz (pv p))) ∧ f 4 = .hs 4 st ∧ f 5 = .iv (.int .i64 k) ∧ H 4 = .blk false st 40 2 (raws (((trimz (pv p)).take k).map canon))) (fun f H => (tz (pv p) - intAt f 5).toNat) ?_ ?_
    · refine ⟨0, (H 4).stamp + 1, by omega, ?_⟩
      simp (disch := omega) only [wk, tis, Int.reduceNe, Int.reduceEq, Int.reduceLT, Int.reduceLE, Int.reduceAdd, Int.reduceSub, Int.reduceNeg, Int.reduceMul, Int.reduceToNat, Nat.reduceSub, Nat.reduceMul, Nat.reduceLeDiff, Nat.reduceAdd, Nat.reduceLT, Nat.reduceEqDiff, reduceCtorEq, ↓reduceIte, ghostF, ghostH, List.take_zero, h0, h3, hk]
    clear h0 h3 hk
    clear f H
    rintro f H ⟨k, st, hk, h0, h3, h4, h5, hH⟩
    rw [intAt_of h5]
    simp (disch := omega) only [wk, tis, Int.reduceNe, Int.reduceEq, Int.reduceLT, Int.reduceLE, Int.reduceAdd, Int.reduceSub, Int.reduceNeg, Int.reduceMul, Int.reduceToNat, Nat.reduceSub, Nat.reduceMul, Nat.reduceLeDiff, Nat.reduceAdd, Nat.reduceLT, Nat.reduceEqDiff, reduceCtorEq, ↓reduceIte, h0, h3, h4, h5, hH]
    refine if_by (fun hlt => ?_) (fun hlt => ?_)
    · simp (disch := omega) only [wk, tis, Int.reduceNe, Int.reduceEq, Int.reduceLT, Int.reduceLE, Int.reduceAdd, Int.reduceSub, Int.reduceNeg, Int.reduceMul, Int.reduceToNat, Nat.reduceSub, Nat.reduceMul, Nat.reduceLeDiff, Nat.reduceAdd, Nat.reduceLT, Nat.reduceEqDiff, reduceCtorEq, ↓reduceIte, h0, h3, h4, h5, hH]
      have hq : (((trimz (pv p)).take k).map canon).length = k := by rw [List.length_map, List.length_take, trimz_len]; omega
      refine call_by ((sown_ok (p.getD k (false, [])) (h.get _))) (by first | rfl | (simp only [tocvs, tocv, h0, h3, h4, h5, hH, hq]; rfl)) (by simp) ?_
      simp (disch := omega) only [wk, tis, Int.reduceNe, Int.reduceEq, Int.reduceLT, Int.reduceLE, Int.reduceAdd, Int.reduceSub, Int.reduceNeg, Int.reduceMul, Int.reduceToNat, Nat.reduceSub, Nat.reduceMul, Nat.reduceLeDiff, Nat.reduceAdd, Nat.reduceLT, Nat.reduceEqDiff, reduceCtorEq, ↓reduceIte, h0, h3, h4, h5, hH, hq]
      refine ⟨⟨k + 1, st + 1, by omega, rfl, by omega, ?_⟩, by omega⟩
      rw [trimz_take_succ (by omega), cf_pv]
    · simp (disch := omega) only [wk, tis, Int.reduceNe, Int.reduceEq, Int.reduceLT, Int.reduceLE, Int.reduceAdd, Int.reduceSub, Int.reduceNeg, Int.reduceMul, Int.reduceToNat, Nat.reduceSub, Nat.reduceMul, Nat.reduceLeDiff, Nat.reduceAdd, Nat.reduceLT, Nat.reduceEqDiff, reduceCtorEq, ↓reduceIte, h0, h3, h4, h5, hH]
      have hk : k = tz (pv p) := by omega
      rw [hk, List.take_of_length_le (by rw [trimz_len]; exact Nat.le_refl _)]
      rfl

/-- Plain numbers, as they are handed. -/
abbrev cis (l : List Int) : CV := .iv (.sl (ilims l))

theorem sof_ok (l : List Int) (hl : l.length ≤ 2 ^ 30) (h : ∀ z ∈ l, -9223372036854775808 < z ∧ z < 9223372036854775808) : AC Try.prog 21 [cis l] none [cp l] := by
  refine AC.by_walk (rs := [.tmp 2]) ords Try.func21 (by rfl) (by rfl) (by rfl) (by rfl) (by rfl) ?_
  simp (disch := omega) only [wk, tis, Int.reduceNe, Int.reduceEq, Int.reduceLT, Int.reduceLE, Int.reduceAdd, Int.reduceSub, Int.reduceNeg, Int.reduceMul, Int.reduceToNat, Nat.reduceSub, Nat.reduceMul, Nat.reduceLeDiff, Nat.reduceAdd, Nat.reduceLT, Nat.reduceEqDiff, reduceCtorEq, ↓reduceIte]
  refine aloop_nil 3 3 40 2 (by simp (disch := omega) only [wk, tis, Int.reduceNe, Int.reduceEq, Int.reduceLT, Int.reduceLE, Int.reduceAdd, Int.reduceSub, Int.reduceNeg, Int.reduceMul, Int.reduceToNat, Nat.reduceSub, Nat.reduceMul, Nat.reduceLeDiff, Nat.reduceAdd, Nat.reduceLT, Nat.reduceEqDiff, reduceCtorEq, ↓reduceIte]) (fun f H => ∃ (k st : Nat), k ≤ l.length ∧ f 0 = .iv (.sl (ilims l)) ∧ f 3 = .hs 3 st ∧ f 4 = .iv (.int .i64 k) ∧ H 3 = .blk false st 40 2 (raws ((l.take k).map canon))) (fun f H => (l.length - intAt f 4).toNat) ?_ ?_
  · refine ⟨0, 1, by omega, ?_⟩
    simp (disch := omega) only [wk, tis, Int.reduceNe, Int.reduceEq, Int.reduceLT, Int.reduceLE, Int.reduceAdd, Int.reduceSub, Int.reduceNeg, Int.reduceMul, Int.reduceToNat, Nat.reduceSub, Nat.reduceMul, Nat.reduceLeDiff, Nat.reduceAdd, Nat.reduceLT, Nat.reduceEqDiff, reduceCtorEq, ↓reduceIte, ghostF, ghostH, List.take_zero]
  rintro f H ⟨k, st, hk, h0, h3, h4, hH⟩
  rw [intAt_of h4]
  simp (disch := omega) only [wk, tis, Int.reduceNe, Int.reduceEq, Int.reduceLT, Int.reduceLE, Int.reduceAdd, Int.reduceSub, Int.reduceNeg, Int.reduceMul, Int.reduceToNat, Nat.reduceSub, Nat.reduceMul, Nat.reduceLeDiff, Nat.reduceAdd, Nat.reduceLT, Nat.reduceEqDiff, reduceCtorEq, ↓reduceIte, h0, h3, h4, hH]
  refine if_by (fun hlt => ?_) (fun hlt => ?_)
  · have hq : ((l.take k).map canon).length = k := by rw [List.length_map, List.length_take]; omega
    have hkl : k < l.length := by omega
    have hg : l.getD k 0 = l[k] := by simp [List.getD, hkl]
    have hb := h l[k] (List.getElem_mem hkl)
    simp (disch := omega) only [wk, tis, Int.reduceNe, Int.reduceEq, Int.reduceLT, Int.reduceLE, Int.reduceAdd, Int.reduceSub, Int.reduceNeg, Int.reduceMul, Int.reduceToNat, Nat.reduceSub, Nat.reduceMul, Nat.reduceLeDiff, Nat.reduceAdd, Nat.reduceLT, Nat.reduceEqDiff, reduceCtorEq, ↓reduceIte, h0, h3, h4, hH, hq]
    rw [hg]
    refine call_by ((sZ_ok l[k] hb.1 hb.2)) (by first | rfl | (simp only [tocvs, tocv, h0, h3, h4, hH, hq]; rfl)) (by simp) ?_
    simp (disch := omega) only [wk, tis, Int.reduceNe, Int.reduceEq, Int.reduceLT, Int.reduceLE, Int.reduceAdd, Int.reduceSub, Int.reduceNeg, Int.reduceMul, Int.reduceToNat, Nat.reduceSub, Nat.reduceMul, Nat.reduceLeDiff, Nat.reduceAdd, Nat.reduceLT, Nat.reduceEqDiff, reduceCtorEq, ↓reduceIte, h0, h3, h4, hH, hq]
    refine ⟨⟨k + 1, st + 1, by omega, rfl, by omega, ?_⟩, by omega⟩
    rw [List.take_add_one]
    simp [hkl]
  · simp (disch := omega) only [wk, tis, Int.reduceNe, Int.reduceEq, Int.reduceLT, Int.reduceLE, Int.reduceAdd, Int.reduceSub, Int.reduceNeg, Int.reduceMul, Int.reduceToNat, Nat.reduceSub, Nat.reduceMul, Nat.reduceLeDiff, Nat.reduceAdd, Nat.reduceLT, Nat.reduceEqDiff, reduceCtorEq, ↓reduceIte, h0, h3, h4, hH]
    have hk : k = l.length := by omega
    have hz : ∀ z : Int, -9223372036854775808 < z → z < 9223372036854775808 → zl z ≤ 1 := fun z h1 h2 => zl_le.mpr (by simp only [W]; omega)
    have := snorm_ok (l.map canon) (RP.canon ⟨by omega, fun z hz' => Nat.le_trans (hz z (h z hz').1 (h z hz').2) (by omega)⟩)
    rw [pv_canon] at this
    rw [hk, List.take_length] at hH
    refine call_by (this) (by first | rfl | (simp only [tocvs, tocv, h0, h3, h4, hH]; rfl)) (by simp) ?_
    simp (disch := omega) only [wk, tis, Int.reduceNe, Int.reduceEq, Int.reduceLT, Int.reduceLE, Int.reduceAdd, Int.reduceSub, Int.reduceNeg, Int.reduceMul, Int.reduceToNat, Nat.reduceSub, Nat.reduceMul, Nat.reduceLeDiff, Nat.reduceAdd, Nat.reduceLT, Nat.reduceEqDiff, reduceCtorEq, ↓reduceIte, h0, h3, h4, hH]

theorem sform_ok (a b : List RI) (ha : RP (2 ^ 40) (2 ^ 43) a) (hb : RP (2 ^ 40) (2 ^ 43) b) : AC Try.prog 93 [cw a, cw b] none [cb (decide (a = b))] := by
  refine AC.by_walk (rs := [.tmp 4]) ords Try.func93 (by rfl) (by rfl) (by rfl) (by rfl) (by rfl) ?_
  have hla := ha.1
  have hlb := hb.1
  simp (disch := omega) only [wk, tis, Int.reduceNe, Int.reduceEq, Int.reduceLT, Int.reduceLE, Int.reduceAdd, Int.reduceSub, Int.reduceNeg, Int.reduceMul, Int.reduceToNat, Nat.reduceSub, Nat.reduceMul, Nat.reduceLeDiff, Nat.reduceAdd, Nat.reduceLT, Nat.reduceEqDiff, reduceCtorEq, ↓reduceIte]
  refine if_by (fun hz => ?_) (fun hz => ?_)
  · simp (disch := omega) only [wk, tis, Int.reduceNe, Int.reduceEq, Int.reduceLT, Int.reduceLE, Int.reduceAdd, Int.reduceSub, Int.reduceNeg, Int.reduceMul, Int.reduceToNat, Nat.reduceSub, Nat.reduceMul, Nat.reduceLeDiff, Nat.reduceAdd, Nat.reduceLT, Nat.reduceEqDiff, reduceCtorEq, ↓reduceIte]
    exact (decide_eq_false (fun e => hz (by rw [e]))).symm
  have hl : a.length = b.length := by omega
  simp (disch := omega) only [wk, tis, Int.reduceNe, Int.reduceEq, Int.reduceLT, Int.reduceLE, Int.reduceAdd, Int.reduceSub, Int.reduceNeg, Int.reduceMul, Int.reduceToNat, Nat.reduceSub, Nat.reduceMul, Nat.reduceLeDiff, Nat.reduceAdd, Nat.reduceLT, Nat.reduceEqDiff, reduceCtorEq, ↓reduceIte]
  refine aloop_by (fun f H => ∃ i : Nat, i ≤ a.length ∧ a.take i = b.take i ∧ f 0 = .iv (.sl (raws a)) ∧ f 1 = .iv (.sl (raws b)) ∧ f 5 = .iv (.int .i64 i)) (fun f H => (a.length - intAt f 5).toNat) ?_ ?_
  · exact ⟨0, by omega, rfl, by simp (disch := omega) only [wk, tis, Int.reduceNe, Int.reduceEq, Int.reduceLT, Int.reduceLE, Int.reduceAdd, Int.reduceSub, Int.reduceNeg, Int.reduceMul, Int.reduceToNat, Nat.reduceSub, Nat.reduceMul, Nat.reduceLeDiff, Nat.reduceAdd, Nat.reduceLT, Nat.reduceEqDiff, reduceCtorEq, ↓reduceIte], by simp (disch := omega) only [wk, tis, Int.reduceNe, Int.reduceEq, Int.reduceLT, Int.reduceLE, Int.reduceAdd, Int.reduceSub, Int.reduceNeg, Int.reduceMul, Int.reduceToNat, Nat.reduceSub, Nat.reduceMul, Nat.reduceLeDiff, Nat.reduceAdd, Nat.reduceLT, Nat.reduceEqDiff, reduceCtorEq, ↓reduceIte], by simp (disch := omega) only [wk, tis, Int.reduceNe, Int.reduceEq, Int.reduceLT, Int.reduceLE, Int.reduceAdd, Int.reduceSub, Int.reduceNeg, Int.reduceMul, Int.reduceToNat, Nat.reduceSub, Nat.reduceMul, Nat.reduceLeDiff, Nat.reduceAdd, Nat.reduceLT, Nat.reduceEqDiff, reduceCtorEq, ↓reduceIte]⟩
  rintro f H ⟨i, hi, he, h0, h1, h5⟩
  rw [intAt_of h5]
  simp (disch := omega) only [wk, tis, Int.reduceNe, Int.reduceEq, Int.reduceLT, Int.reduceLE, Int.reduceAdd, Int.reduceSub, Int.reduceNeg, Int.reduceMul, Int.reduceToNat, Nat.reduceSub, Nat.reduceMul, Nat.reduceLeDiff, Nat.reduceAdd, Nat.reduceLT, Nat.reduceEqDiff, reduceCtorEq, ↓reduceIte, h0, h1, h5]
  refine if_by (fun hlt => ?_) (fun hlt => ?_)
  · simp (disch := omega) only [wk, tis, Int.reduceNe, Int.reduceEq, Int.reduceLT, Int.reduceLE, Int.reduceAdd, Int.reduceSub, Int.reduceNeg, Int.reduceMul, Int.reduceToNat, Nat.reduceSub, Nat.reduceMul, Nat.reduceLeDiff, Nat.reduceAdd, Nat.reduceLT, Nat.reduceEqDiff, reduceCtorEq, ↓reduceIte, h0, h1, h5]
    refine ⟨tmps_by (by kernel_rfl), ?_⟩
    refine call_by ((rSameInt_ok (a.getD i (false, [])) (b.getD i (false, [])) (ha.get i).1 (hb.get i).1)) (by first | rfl | (simp only [tocvs, tocv, h0, h1, h5]; rfl)) (by simp) ?_
    simp (disch := omega) only [wk, tis, Int.reduceNe, Int.reduceEq, Int.reduceLT, Int.reduceLE, Int.reduceAdd, Int.reduceSub, Int.reduceNeg, Int.reduceMul, Int.reduceToNat, Nat.reduceSub, Nat.reduceMul, Nat.reduceLeDiff, Nat.reduceAdd, Nat.reduceLT, Nat.reduceEqDiff, reduceCtorEq, ↓reduceIte, h0, h1, h5]
    first | exact log_by (by kernel_rfl) | refine ⟨log_by (by kernel_rfl), ?_⟩
    by_cases hne : a.getD i (false, []) = b.getD i (false, [])
    · simp (disch := omega) only [wk, tis, Int.reduceNe, Int.reduceEq, Int.reduceLT, Int.reduceLE, Int.reduceAdd, Int.reduceSub, Int.reduceNeg, Int.reduceMul, Int.reduceToNat, Nat.reduceSub, Nat.reduceMul, Nat.reduceLeDiff, Nat.reduceAdd, Nat.reduceLT, Nat.reduceEqDiff, reduceCtorEq, ↓reduceIte, h0, h1, h5, hne, Bool.not_true]
      refine ⟨⟨i + 1, by omega, ?_, by omega⟩, by omega⟩
      have hia : i < a.length := by omega
      have hib : i < b.length := by omega
      rw [List.take_add_one, List.take_add_one, he, List.getElem?_eq_getElem hia, List.getElem?_eq_getElem hib]
      have e1 : a.getD i (false, []) = a[i] := by simp [List.getD, hia]
      have e2 : b.getD i (false, []) = b[i] := by simp [List.getD, hib]
      rw [← e1, ← e2, hne]
    · simp (disch := omega) only [wk, tis, Int.reduceNe, Int.reduceEq, Int.reduceLT, Int.reduceLE, Int.reduceAdd, Int.reduceSub, Int.reduceNeg, Int.reduceMul, Int.reduceToNat, Nat.reduceSub, Nat.reduceMul, Nat.reduceLeDiff, Nat.reduceAdd, Nat.reduceLT, Nat.reduceEqDiff, reduceCtorEq, ↓reduceIte, h0, h1, h5, hne, Bool.not_false]
      exact (decide_eq_false (fun e => hne (by rw [e]))).symm
  · simp (disch := omega) only [wk, tis, Int.reduceNe, Int.reduceEq, Int.reduceLT, Int.reduceLE, Int.reduceAdd, Int.reduceSub, Int.reduceNeg, Int.reduceMul, Int.reduceToNat, Nat.reduceSub, Nat.reduceMul, Nat.reduceLeDiff, Nat.reduceAdd, Nat.reduceLT, Nat.reduceEqDiff, reduceCtorEq, ↓reduceIte, h0, h1, h5]
    rw [List.take_of_length_le (by omega), List.take_of_length_le (by omega)] at he
    exact (decide_eq_true he).symm

theorem slong_ok (a : List Nat) (hl : a.length ≤ 9223372036854775807) : AC Try.prog 102 [cl a] none [cb (decide (200 < a.length))] := by
  refine AC.by_walk (rs := [.tmp 2]) ords Try.func102 (by rfl) (by rfl) (by rfl) (by rfl) (by rfl) ?_
  simp (disch := omega) only [wk, tis, Int.reduceNe, Int.reduceEq, Int.reduceLT, Int.reduceLE, Int.reduceAdd, Int.reduceSub, Int.reduceNeg, Int.reduceMul, Int.reduceToNat, Nat.reduceSub, Nat.reduceMul, Nat.reduceLeDiff, Nat.reduceAdd, Nat.reduceLT, Nat.reduceEqDiff, reduceCtorEq, ↓reduceIte]
  rw [decide_eq_decide]; omega

/-- Is one of the integers long? -/
def gi (l : List RI) : Bool := l.any fun c => decide (200 < c.2.length)
/-- Is one of the polynomials great? -/
def gp (ps : List (List RI)) : Bool := ps.any fun p => decide (40 < p.length) || gi p

theorem any_take_succ {α : Type} {g : α → Bool} {l : List α} {i : Nat} (hi : i < l.length) : (l.take (i + 1)).any g = ((l.take i).any g || g l[i]) := by
  rw [List.take_add_one, List.getElem?_eq_getElem hi, List.any_append]; simp only [Option.toList, List.any_cons, List.any_nil, Bool.or_false]
theorem any_of_get {α : Type} {g : α → Bool} {l : List α} {i : Nat} (hi : i < l.length) (h : g l[i] = true) : l.any g = true :=
  List.any_eq_true.mpr ⟨l[i], List.getElem_mem hi, h⟩

theorem sgints_ok (l : List RI) (hl : l.length ≤ 9223372036854775807) (h : ∀ c ∈ l, c.2.length ≤ 9223372036854775807) : AC Try.prog 26 [cw l] none [cb (gi l)] := by
  refine AC.by_walk (rs := [.tmp 2]) ords Try.func26 (by rfl) (by rfl) (by rfl) (by rfl) (by rfl) ?_
  simp (disch := omega) only [wk, tis, Int.reduceNe, Int.reduceEq, Int.reduceLT, Int.reduceLE, Int.reduceAdd, Int.reduceSub, Int.reduceNeg, Int.reduceMul, Int.reduceToNat, Nat.reduceSub, Nat.reduceMul, Nat.reduceLeDiff, Nat.reduceAdd, Nat.reduceLT, Nat.reduceEqDiff, reduceCtorEq, ↓reduceIte]
  refine aloop_by (fun f H => ∃ i : Nat, i ≤ l.length ∧ gi (l.take i) = false ∧ f 0 = .iv (.sl (raws l)) ∧ f 3 = .iv (.int .i64 i)) (fun f H => (l.length - intAt f 3).toNat) ?_ ?_
  · exact ⟨0, by omega, rfl, by simp (disch := omega) only [wk, tis, Int.reduceNe, Int.reduceEq, Int.reduceLT, Int.reduceLE, Int.reduceAdd, Int.reduceSub, Int.reduceNeg, Int.reduceMul, Int.reduceToNat, Nat.reduceSub, Nat.reduceMul, Nat.reduceLeDiff, Nat.reduceAdd, Nat.reduceLT, Nat.reduceEqDiff, reduceCtorEq, ↓reduceIte], by simp (disch := omega) only [wk, tis, Int.reduceNe, Int.reduceEq, Int.reduceLT, Int.reduceLE, Int.reduceAdd, Int.reduceSub, Int.reduceNeg, Int.reduceMul, Int.reduceToNat, Nat.reduceSub, Nat.reduceMul, Nat.reduceLeDiff, Nat.reduceAdd, Nat.reduceLT, Nat.reduceEqDiff, reduceCtorEq, ↓reduceIte]⟩
  rintro f H ⟨i, hi, he, h0, h3⟩
  rw [intAt_of h3]
  simp (disch := omega) only [wk, tis, Int.reduceNe, Int.reduceEq, Int.reduceLT, Int.reduceLE, Int.reduceAdd, Int.reduceSub, Int.reduceNeg, Int.reduceMul, Int.reduceToNat, Nat.reduceSub, Nat.reduceMul, Nat.reduceLeDiff, Nat.reduceAdd, Nat.reduceLT, Nat.reduceEqDiff, reduceCtorEq, ↓reduceIte, h0, h3]
  refine if_by (fun hlt => ?_) (fun hlt => ?_)
  · have hil : i < l.length := by omega
    have hg : l.getD i (false, []) = l[i] := by simp [List.getD, hil]
    simp (disch := omega) only [wk, tis, Int.reduceNe, Int.reduceEq, Int.reduceLT, Int.reduceLE, Int.reduceAdd, Int.reduceSub, Int.reduceNeg, Int.reduceMul, Int.reduceToNat, Nat.reduceSub, Nat.reduceMul, Nat.reduceLeDiff, Nat.reduceAdd, Nat.reduceLT, Nat.reduceEqDiff, reduceCtorEq, ↓reduceIte, h0, h3]
    rw [hg]
    refine call_by ((slong_ok l[i].2 (h _ (List.getElem_mem hil)))) (by first | rfl | (simp only [tocvs, tocv, h0, h3]; rfl)) (by simp) ?_
    simp (disch := omega) only [wk, tis, Int.reduceNe, Int.reduceEq, Int.reduceLT, Int.reduceLE, Int.reduceAdd, Int.reduceSub, Int.reduceNeg, Int.reduceMul, Int.reduceToNat, Nat.reduceSub, Nat.reduceMul, Nat.reduceLeDiff, Nat.reduceAdd, Nat.reduceLT, Nat.reduceEqDiff, reduceCtorEq, ↓reduceIte, h0, h3]
    refine if_by (fun hz => ?_) (fun hz => ?_)
    · simp (disch := omega) only [wk, tis, Int.reduceNe, Int.reduceEq, Int.reduceLT, Int.reduceLE, Int.reduceAdd, Int.reduceSub, Int.reduceNeg, Int.reduceMul, Int.reduceToNat, Nat.reduceSub, Nat.reduceMul, Nat.reduceLeDiff, Nat.reduceAdd, Nat.reduceLT, Nat.reduceEqDiff, reduceCtorEq, ↓reduceIte, h0, h3]
      exact (any_of_get hil (decide_eq_true hz)).symm
    · simp (disch := omega) only [wk, tis, Int.reduceNe, Int.reduceEq, Int.reduceLT, Int.reduceLE, Int.reduceAdd, Int.reduceSub, Int.reduceNeg, Int.reduceMul, Int.reduceToNat, Nat.reduceSub, Nat.reduceMul, Nat.reduceLeDiff, Nat.reduceAdd, Nat.reduceLT, Nat.reduceEqDiff, reduceCtorEq, ↓reduceIte, h0, h3]
      refine ⟨⟨i + 1, by omega, ?_, by omega⟩, by omega⟩
      unfold gi at he ⊢
      rw [any_take_succ hil, he, decide_eq_false hz]; rfl
  · simp (disch := omega) only [wk, tis, Int.reduceNe, Int.reduceEq, Int.reduceLT, Int.reduceLE, Int.reduceAdd, Int.reduceSub, Int.reduceNeg, Int.reduceMul, Int.reduceToNat, Nat.reduceSub, Nat.reduceMul, Nat.reduceLeDiff, Nat.reduceAdd, Nat.reduceLT, Nat.reduceEqDiff, reduceCtorEq, ↓reduceIte, h0, h3]
    rw [List.take_of_length_le (by omega)] at he
    exact he.symm

theorem sgreat_ok (ps : List (List RI)) (hl : ps.length ≤ 9223372036854775807) (h : ∀ p ∈ ps, p.length ≤ 9223372036854775807 ∧ ∀ c ∈ p, c.2.length ≤ 9223372036854775807) : AC Try.prog 12 [.iv (.sl (polys ps))] none [cb (gp ps)] := by
  refine AC.by_walk (rs := [.tmp 2]) ords Try.func12 (by rfl) (by rfl) (by rfl) (by rfl) (by rfl) ?_
  simp (disch := omega) only [wk, tis, Int.reduceNe, Int.reduceEq, Int.reduceLT, Int.reduceLE, Int.reduceAdd, Int.reduceSub, Int.reduceNeg, Int.reduceMul, Int.reduceToNat, Nat.reduceSub, Nat.reduceMul, Nat.reduceLeDiff, Nat.reduceAdd, Nat.reduceLT, Nat.reduceEqDiff, reduceCtorEq, ↓reduceIte]
  refine aloop_by (fun f H => ∃ i : Nat, i ≤ ps.length ∧ gp (ps.take i) = false ∧ f 0 = .iv (.sl (polys ps)) ∧ f 3 = .iv (.int .i64 i)) (fun f H => (ps.length - intAt f 3).toNat) ?_ ?_
  · exact ⟨0, by omega, rfl, by simp (disch := omega) only [wk, tis, Int.reduceNe, Int.reduceEq, Int.reduceLT, Int.reduceLE, Int.reduceAdd, Int.reduceSub, Int.reduceNeg, Int.reduceMul, Int.reduceToNat, Nat.reduceSub, Nat.reduceMul, Nat.reduceLeDiff, Nat.reduceAdd, Nat.reduceLT, Nat.reduceEqDiff, reduceCtorEq, ↓reduceIte], by simp (disch := omega) only [wk, tis, Int.reduceNe, Int.reduceEq, Int.reduceLT, Int.reduceLE, Int.reduceAdd, Int.reduceSub, Int.reduceNeg, Int.reduceMul, Int.reduceToNat, Nat.reduceSub, Nat.reduceMul, Nat.reduceLeDiff, Nat.reduceAdd, Nat.reduceLT, Nat.reduceEqDiff, reduceCtorEq, ↓reduceIte]⟩
  rintro f H ⟨i, hi, he, h0, h3⟩
  rw [intAt_of h3]
  simp (disch := omega) only [wk, tis, Int.reduceNe, Int.reduceEq, Int.reduceLT, Int.reduceLE, Int.reduceAdd, Int.reduceSub, Int.reduceNeg, Int.reduceMul, Int.reduceToNat, Nat.reduceSub, Nat.reduceMul, Nat.reduceLeDiff, Nat.reduceAdd, Nat.reduceLT, Nat.reduceEqDiff, reduceCtorEq, ↓reduceIte, h0, h3]
  refine if_by (fun hlt => ?_) (fun hlt => ?_)
  · have hil : i < ps.length := by omega
    have hg : ps.getD i [] = ps[i] := by simp [List.getD, hil]
    have hp := h ps[i] (List.getElem_mem hil)
    have hw : 40 < (ps[i].length : Int) ↔ 40 < ps[i].length := by omega
    by_cases hz : 40 < (ps[i].length : Int)
    · simp (disch := omega) only [wk, tis, Int.reduceNe, Int.reduceEq, Int.reduceLT, Int.reduceLE, Int.reduceAdd, Int.reduceSub, Int.reduceNeg, Int.reduceMul, Int.reduceToNat, Nat.reduceSub, Nat.reduceMul, Nat.reduceLeDiff, Nat.reduceAdd, Nat.reduceLT, Nat.reduceEqDiff, reduceCtorEq, ↓reduceIte, h0, h3, hg, hz]
      exact (any_of_get hil (by rw [decide_eq_true (hw.mp hz)]; rfl)).symm
    · simp (disch := omega) only [wk, tis, Int.reduceNe, Int.reduceEq, Int.reduceLT, Int.reduceLE, Int.reduceAdd, Int.reduceSub, Int.reduceNeg, Int.reduceMul, Int.reduceToNat, Nat.reduceSub, Nat.reduceMul, Nat.reduceLeDiff, Nat.reduceAdd, Nat.reduceLT, Nat.reduceEqDiff, reduceCtorEq, ↓reduceIte, h0, h3, hg, hz]
      refine call_by ((sgints_ok ps[i] hp.1 hp.2)) (by first | rfl | (simp only [tocvs, tocv, h0, h3, hg, hz]; rfl)) (by simp) ?_
      simp (disch := omega) only [wk, tis, Int.reduceNe, Int.reduceEq, Int.reduceLT, Int.reduceLE, Int.reduceAdd, Int.reduceSub, Int.reduceNeg, Int.reduceMul, Int.reduceToNat, Nat.reduceSub, Nat.reduceMul, Nat.reduceLeDiff, Nat.reduceAdd, Nat.reduceLT, Nat.reduceEqDiff, reduceCtorEq, ↓reduceIte, h0, h3, hg, hz]
      have hz' : ¬ 40 < ps[i].length := fun h => hz (hw.mpr h)
      refine if_bool (fun hb => ?_) (fun hb => ?_)
      · simp (disch := omega) only [wk, tis, Int.reduceNe, Int.reduceEq, Int.reduceLT, Int.reduceLE, Int.reduceAdd, Int.reduceSub, Int.reduceNeg, Int.reduceMul, Int.reduceToNat, Nat.reduceSub, Nat.reduceMul, Nat.reduceLeDiff, Nat.reduceAdd, Nat.reduceLT, Nat.reduceEqDiff, reduceCtorEq, ↓reduceIte, h0, h3, hg, hz]
        exact (any_of_get hil (by rw [hb]; exact Bool.or_true _)).symm
      · simp (disch := omega) only [wk, tis, Int.reduceNe, Int.reduceEq, Int.reduceLT, Int.reduceLE, Int.reduceAdd, Int.reduceSub, Int.reduceNeg, Int.reduceMul, Int.reduceToNat, Nat.reduceSub, Nat.reduceMul, Nat.reduceLeDiff, Nat.reduceAdd, Nat.reduceLT, Nat.reduceEqDiff, reduceCtorEq, ↓reduceIte, h0, h3, hg, hz]
        refine ⟨⟨i + 1, by omega, ?_, by omega⟩, by omega⟩
        unfold gp at he ⊢
        rw [any_take_succ hil, he, decide_eq_false hz', hb]; rfl
  · simp (disch := omega) only [wk, tis, Int.reduceNe, Int.reduceEq, Int.reduceLT, Int.reduceLE, Int.reduceAdd, Int.reduceSub, Int.reduceNeg, Int.reduceMul, Int.reduceToNat, Nat.reduceSub, Nat.reduceMul, Nat.reduceLeDiff, Nat.reduceAdd, Nat.reduceLT, Nat.reduceEqDiff, reduceCtorEq, ↓reduceIte, h0, h3]
    rw [List.take_of_length_le (by omega)] at he
    exact he.symm

theorem same_ok (a b : List RI) (ha : RP (2 ^ 40) (2 ^ 43) a) (hb : RP (2 ^ 40) (2 ^ 43) b) : AC Try.prog 14 [cw a, cw b] none [cb (decide (a = b))] := by
  refine AC.by_walk (rs := [.tmp 4]) ords Try.func14 (by rfl) (by rfl) (by rfl) (by rfl) (by rfl) ?_
  simp (disch := omega) only [wk, tis, Int.reduceNe, Int.reduceEq, Int.reduceLT, Int.reduceLE, Int.reduceAdd, Int.reduceSub, Int.reduceNeg, Int.reduceMul, Int.reduceToNat, Nat.reduceSub, Nat.reduceMul, Nat.reduceLeDiff, Nat.reduceAdd, Nat.reduceLT, Nat.reduceEqDiff, reduceCtorEq, ↓reduceIte]
  refine call_by ((sform_ok a b ha hb)) (by rfl) (by simp) ?_
  simp (disch := omega) only [wk, tis, Int.reduceNe, Int.reduceEq, Int.reduceLT, Int.reduceLE, Int.reduceAdd, Int.reduceSub, Int.reduceNeg, Int.reduceMul, Int.reduceToNat, Nat.reduceSub, Nat.reduceMul, Nat.reduceLeDiff, Nat.reduceAdd, Nat.reduceLT, Nat.reduceEqDiff, reduceCtorEq, ↓reduceIte]

theorem small_pb (l : List Int) (n : Nat) (hl : l.length ≤ n) (h : ∀ z ∈ l, z.natAbs < W) : PB n 1 l := ⟨hl, fun z hz => zl_le.mpr (by simpa using h z hz)⟩

theorem awake_ok : AC Try.prog 11 [] none [cb true] := by
  refine AC.by_walk (rs := [.tmp 0]) ords Try.func11 (by rfl) (by rfl) (by rfl) (by rfl) (by rfl) ?_
  simp (disch := omega) only [wk, tis, Int.reduceNe, Int.reduceEq, Int.reduceLT, Int.reduceLE, Int.reduceAdd, Int.reduceSub, Int.reduceNeg, Int.reduceMul, Int.reduceToNat, Nat.reduceSub, Nat.reduceMul, Nat.reduceLeDiff, Nat.reduceAdd, Nat.reduceLT, Nat.reduceEqDiff, reduceCtorEq, ↓reduceIte]
  refine call_by ((sof_ok [1, -1] (by decide) (by decide))) (by rfl) (by simp) ?_
  simp (disch := omega) only [wk, tis, Int.reduceNe, Int.reduceEq, Int.reduceLT, Int.reduceLE, Int.reduceAdd, Int.reduceSub, Int.reduceNeg, Int.reduceMul, Int.reduceToNat, Nat.reduceSub, Nat.reduceMul, Nat.reduceLeDiff, Nat.reduceAdd, Nat.reduceLT, Nat.reduceEqDiff, reduceCtorEq, ↓reduceIte]
  have hm := pmul_ok [(false, [1]), (false, [1, 0]), (false, [])] ((trimz [1, -1]).map canon) ⟨by decide, by unfold Sz Lim; decide⟩ (RP.canon ((small_pb [1, -1] 2 (by decide) (by decide)).trimz.mono (by decide) (by decide)))
  have e : cp (pmul (pv [(false, [1]), (false, [1, 0]), (false, [])]) (pv ((trimz [1, -1]).map canon))) = cp [1, 0, -1] := by
    rw [pv_canon]
    unfold cp cpoly
    have : trimz (pmul (pv [(false, [1]), (false, [1, 0]), (false, [])]) (trimz [1, -1])) = trimz [1, 0, -1] := by decide
    rw [this]
  rw [e] at hm
  refine call_by (hm) (by rfl) (by simp) ?_
  simp (disch := omega) only [wk, tis, Int.reduceNe, Int.reduceEq, Int.reduceLT, Int.reduceLE, Int.reduceAdd, Int.reduceSub, Int.reduceNeg, Int.reduceMul, Int.reduceToNat, Nat.reduceSub, Nat.reduceMul, Nat.reduceLeDiff, Nat.reduceAdd, Nat.reduceLT, Nat.reduceEqDiff, reduceCtorEq, ↓reduceIte]
  refine call_by ((sof_ok [1, 0, -1] (by decide) (by decide))) (by rfl) (by simp) ?_
  simp (disch := omega) only [wk, tis, Int.reduceNe, Int.reduceEq, Int.reduceLT, Int.reduceLE, Int.reduceAdd, Int.reduceSub, Int.reduceNeg, Int.reduceMul, Int.reduceToNat, Nat.reduceSub, Nat.reduceMul, Nat.reduceLeDiff, Nat.reduceAdd, Nat.reduceLT, Nat.reduceEqDiff, reduceCtorEq, ↓reduceIte]
  have hp := RP.canon ((small_pb [1, 0, -1] 3 (by decide) (by decide)).trimz.mono (n' := 2 ^ 40) (k' := 2 ^ 43) (by decide) (by decide))
  have hs := sform_ok ((trimz [1, 0, -1]).map canon) ((trimz [1, 0, -1]).map canon) hp hp
  rw [decide_eq_true rfl] at hs
  refine call_by (hs) (by rfl) (by simp) ?_
  simp (disch := omega) only [wk, tis, Int.reduceNe, Int.reduceEq, Int.reduceLT, Int.reduceLE, Int.reduceAdd, Int.reduceSub, Int.reduceNeg, Int.reduceMul, Int.reduceToNat, Nat.reduceSub, Nat.reduceMul, Nat.reduceLeDiff, Nat.reduceAdd, Nat.reduceLT, Nat.reduceEqDiff, reduceCtorEq, ↓reduceIte]

end Go.Proofs.Ythgecppfgdadiaa
