/-
  Contracts of the functions that the law reaches.
-/
import Derived.Test.YthgecppfgdadiaaL1M
import Derived.Test.YthgecppfgdadiaaAbsRM
import Derived.Test.YthgecppfgdadiaaAbsFM
namespace Go.Proofs.Ythgecppfgdadiaa
open Go Go.Proofs Go.AL
set_option linter.unusedSimpArgs false
set_option linter.unusedVariables false

theorem cp_ps {p q : List Int} (h : ps p = ps q) : cp p = cp q := cp_ext (ps_eq h)

theorem pbound_ok (n : Int) : AC Try.prog 99 [ci n] none [ci (if n < 0 then 3 else if 1000 < n then 13 else 0)] := by
  refine AC.by_walk (rs := [.tmp 2]) ords Try.func99 (by rfl) (by rfl) (by rfl) (by rfl) (by rfl) ?_
  simp (disch := omega) only [wk, tis, Int.reduceNe, Int.reduceEq, Int.reduceLT, Int.reduceLE, Int.reduceAdd, Int.reduceSub, Int.reduceNeg, Int.reduceMul, Int.reduceToNat, Nat.reduceSub, Nat.reduceMul, Nat.reduceLeDiff, Nat.reduceAdd, Nat.reduceLT, Nat.reduceEqDiff, reduceCtorEq, ↓reduceIte, cpoly_len]
  refine if_by (fun h => ?_) (fun h => ?_)
  · simp (disch := omega) only [wk, tis, Int.reduceNe, Int.reduceEq, Int.reduceLT, Int.reduceLE, Int.reduceAdd, Int.reduceSub, Int.reduceNeg, Int.reduceMul, Int.reduceToNat, Nat.reduceSub, Nat.reduceMul, Nat.reduceLeDiff, Nat.reduceAdd, Nat.reduceLT, Nat.reduceEqDiff, reduceCtorEq, ↓reduceIte, cpoly_len, h]
  simp (disch := omega) only [wk, tis, Int.reduceNe, Int.reduceEq, Int.reduceLT, Int.reduceLE, Int.reduceAdd, Int.reduceSub, Int.reduceNeg, Int.reduceMul, Int.reduceToNat, Nat.reduceSub, Nat.reduceMul, Nat.reduceLeDiff, Nat.reduceAdd, Nat.reduceLT, Nat.reduceEqDiff, reduceCtorEq, ↓reduceIte, cpoly_len, h]
  refine if_by (fun h' => ?_) (fun h' => ?_)
  · simp (disch := omega) only [wk, tis, Int.reduceNe, Int.reduceEq, Int.reduceLT, Int.reduceLE, Int.reduceAdd, Int.reduceSub, Int.reduceNeg, Int.reduceMul, Int.reduceToNat, Nat.reduceSub, Nat.reduceMul, Nat.reduceLeDiff, Nat.reduceAdd, Nat.reduceLT, Nat.reduceEqDiff, reduceCtorEq, ↓reduceIte, cpoly_len, h, h']
  simp (disch := omega) only [wk, tis, Int.reduceNe, Int.reduceEq, Int.reduceLT, Int.reduceLE, Int.reduceAdd, Int.reduceSub, Int.reduceNeg, Int.reduceMul, Int.reduceToNat, Nat.reduceSub, Nat.reduceMul, Nat.reduceLeDiff, Nat.reduceAdd, Nat.reduceLT, Nat.reduceEqDiff, reduceCtorEq, ↓reduceIte, cpoly_len, h, h']

theorem pderiv_take {P : List Int} {i : Nat} (h : i + 1 < P.length + 1) (h0 : 0 < i) : pderiv (P.take (i + 1)) = pderiv (P.take i) ++ [cf P i * (i : Int)] := by
  have e : ∀ m, m ≤ P.length → pderiv (P.take m) = (List.range (m - 1)).map fun k => cf P (k + 1) * ((k + 1 : Nat) : Int) := by
    intro m hm
    rw [pderiv, List.length_take, Nat.min_eq_left hm]
    refine List.map_congr_left fun k hk => ?_
    have hk := List.mem_range.mp hk
    simp [cf, List.getD, List.getElem?_take, show k + 1 < m by omega]
  rw [e _ (by omega), e _ (by omega), show i + 1 - 1 = (i - 1) + 1 by omega, List.range_succ, List.map_append, List.map_singleton, show i - 1 + 1 = i by omega]

theorem pderiv_ok (p : List RI) (h : RP (2 ^ 30) (2 ^ 35) p) : AC Try.prog 20 [cw p] none [cp (pderiv (pv p))] := by
  refine AC.by_walk (rs := [.tmp 2]) ords Try.func20 (by rfl) (by rfl) (by rfl) (by rfl) (by rfl) ?_
  have hl := h.1
  have htl := tz_le (pv p)
  rw [pv_len] at htl
  simp (disch := omega) only [wk, tis, Int.reduceNe, Int.reduceEq, Int.reduceLT, Int.reduceLE, Int.reduceAdd, Int.reduceSub, Int.reduceNeg, Int.reduceMul, Int.reduceToNat, Nat.reduceSub, Nat.reduceMul, Nat.reduceLeDiff, Nat.reduceAdd, Nat.reduceLT, Nat.reduceEqDiff, reduceCtorEq, ↓reduceIte, cpoly_len]
  refine call_by ((size_ok p (h.mono (by omega) (by omega)))) (by rfl) (by simp) ?_
  simp (disch := omega) only [wk, tis, Int.reduceNe, Int.reduceEq, Int.reduceLT, Int.reduceLE, Int.reduceAdd, Int.reduceSub, Int.reduceNeg, Int.reduceMul, Int.reduceToNat, Nat.reduceSub, Nat.reduceMul, Nat.reduceLeDiff, Nat.reduceAdd, Nat.reduceLT, Nat.reduceEqDiff, reduceCtorEq, ↓reduceIte, cpoly_len]
  refine aloop_nil 3 3 40 2 (by simp (disch := omega) only [wk, tis, Int.reduceNe, Int.reduceEq, Int.reduceLT, Int.reduceLE, Int.reduceAdd, Int.reduceSub, Int.reduceNeg, Int.reduceMul, Int.reduceToNat, Nat.reduceSub, Nat.reduceMul, Nat.reduceLeDiff, Nat.reduceAdd, Nat.reduceLT, Nat.reduceEqDiff, reduceCtorEq, ↓reduceIte, cpoly_len]) (fun f H => ∃ (k st : Nat), k ≤ tz (pv p) ∧ f 7 = .iv (.int .i64 k) ∧ f 0 = .iv (.sl (raws p)) ∧ f 3 = .hs 3 st ∧ f 6 = .iv (.int .i64 (tz (pv p))) ∧ H 3 = .blk false st 40 2 (raws ((pderiv ((pv p).take k)).map canon))) (fun f H => (tz (pv p) - intAt f 7).toNat) ?_ ?_
  · refine ⟨0, 1, by omega, ?_⟩
    simp (disch := omega) only [wk, tis, Int.reduceNe, Int.reduceEq, Int.reduceLT, Int.reduceLE, Int.reduceAdd, Int.reduceSub, Int.reduceNeg, Int.reduceMul, Int.reduceToNat, Nat.reduceSub, Nat.reduceMul, Nat.reduceLeDiff, Nat.reduceAdd, Nat.reduceLT, Nat.reduceEqDiff, reduceCtorEq, ↓reduceIte, cpoly_len, ghostF, ghostH, List.take_zero, pderiv]
  rintro f H ⟨k, st, hk, hF⟩
  rw [intAt_of hF.1]
  simp (disch := omega) only [wk, tis, Int.reduceNe, Int.reduceEq, Int.reduceLT, Int.reduceLE, Int.reduceAdd, Int.reduceSub, Int.reduceNeg, Int.reduceMul, Int.reduceToNat, Nat.reduceSub, Nat.reduceMul, Nat.reduceLeDiff, Nat.reduceAdd, Nat.reduceLT, Nat.reduceEqDiff, reduceCtorEq, ↓reduceIte, cpoly_len, hF]
  refine if_by (fun hlt => ?_) (fun hlt => ?_)
  · simp (disch := omega) only [wk, tis, Int.reduceNe, Int.reduceEq, Int.reduceLT, Int.reduceLE, Int.reduceAdd, Int.reduceSub, Int.reduceNeg, Int.reduceMul, Int.reduceToNat, Nat.reduceSub, Nat.reduceMul, Nat.reduceLeDiff, Nat.reduceAdd, Nat.reduceLT, Nat.reduceEqDiff, reduceCtorEq, ↓reduceIte, cpoly_len, hF]
    refine if_by (fun h0 => ?_) (fun h0 => ?_)
    · simp (disch := omega) only [wk, tis, Int.reduceNe, Int.reduceEq, Int.reduceLT, Int.reduceLE, Int.reduceAdd, Int.reduceSub, Int.reduceNeg, Int.reduceMul, Int.reduceToNat, Nat.reduceSub, Nat.reduceMul, Nat.reduceLeDiff, Nat.reduceAdd, Nat.reduceLT, Nat.reduceEqDiff, reduceCtorEq, ↓reduceIte, cpoly_len, hF]
      have hq : ((pderiv ((pv p).take k)).map canon).length = k - 1 := by
        simp only [pderiv, List.length_map, List.length_range, List.length_take, pv_len]; omega
      refine ⟨tmps_by (by kernel_rfl), ?_⟩
      refine call_by ((zOf_ok k (by omega) (by omega))) (by first | rfl | (simp only [tocvs, tocv, hF, hq]; rfl) | (simp only [tocvs, tocv, toboxes, tobox, updH_at, Nat.reduceEqDiff, ↓reduceIte, hF, hq]; rfl)) (by simp) ?_
      simp (disch := omega) only [wk, tis, Int.reduceNe, Int.reduceEq, Int.reduceLT, Int.reduceLE, Int.reduceAdd, Int.reduceSub, Int.reduceNeg, Int.reduceMul, Int.reduceToNat, Nat.reduceSub, Nat.reduceMul, Nat.reduceLeDiff, Nat.reduceAdd, Nat.reduceLT, Nat.reduceEqDiff, reduceCtorEq, ↓reduceIte, cpoly_len, hF, hq]
      have hz : zl (k : Int) ≤ 1 := zl_le.mpr (by simp only [W]; omega)
      have m := zmul_ok (p.getD k (false, [])) (canon k) ((h.get _).mono (by omega)) ((sz_canon _).mono (by omega))
      rw [iv_canon, ← cf_pv] at m
      refine call_by (m) (by first | rfl | (simp only [tocvs, tocv, hF, hq]; rfl) | (simp only [tocvs, tocv, toboxes, tobox, updH_at, Nat.reduceEqDiff, ↓reduceIte, hF, hq]; rfl)) (by simp) ?_
      simp (disch := omega) only [wk, tis, Int.reduceNe, Int.reduceEq, Int.reduceLT, Int.reduceLE, Int.reduceAdd, Int.reduceSub, Int.reduceNeg, Int.reduceMul, Int.reduceToNat, Nat.reduceSub, Nat.reduceMul, Nat.reduceLeDiff, Nat.reduceAdd, Nat.reduceLT, Nat.reduceEqDiff, reduceCtorEq, ↓reduceIte, cpoly_len, hF, hq]
      first | exact log_by (by kernel_rfl) | refine ⟨log_by (by kernel_rfl), ?_⟩
      refine ⟨⟨k + 1, st + 1, by omega, ?_⟩, by omega⟩
      rw [pderiv_take (by rw [pv_len]; omega) (by omega)]
      exact ⟨by omega, rfl, rfl⟩
    · simp (disch := omega) only [wk, tis, Int.reduceNe, Int.reduceEq, Int.reduceLT, Int.reduceLE, Int.reduceAdd, Int.reduceSub, Int.reduceNeg, Int.reduceMul, Int.reduceToNat, Nat.reduceSub, Nat.reduceMul, Nat.reduceLeDiff, Nat.reduceAdd, Nat.reduceLT, Nat.reduceEqDiff, reduceCtorEq, ↓reduceIte, cpoly_len, hF]
      obtain rfl : k = 0 := by omega
      refine ⟨⟨1, st, by omega, ?_⟩, by omega⟩
      have : pderiv ((pv p).take 1) = [] := by simp [pderiv]; omega
      rw [this]; exact ⟨rfl, rfl, rfl⟩
  · simp (disch := omega) only [wk, tis, Int.reduceNe, Int.reduceEq, Int.reduceLT, Int.reduceLE, Int.reduceAdd, Int.reduceSub, Int.reduceNeg, Int.reduceMul, Int.reduceToNat, Nat.reduceSub, Nat.reduceMul, Nat.reduceLeDiff, Nat.reduceAdd, Nat.reduceLT, Nat.reduceEqDiff, reduceCtorEq, ↓reduceIte, cpoly_len, hF]
    have hk : k = tz (pv p) := by omega
    have e : cp (pderiv (pv p)) = cp (pv ((pderiv ((pv p).take k)).map canon)) := by
      refine cp_ps ?_
      rw [pv_canon, ps_pderiv, ps_pderiv, hk]
      exact congrArg PS.D (ps_trimz (pv p)).symm
    rw [e]
    have hb : PB (2 ^ 30) (2 ^ 40) (pderiv ((pv p).take k)) := ((PB_take h.pv k).pderiv (by decide)).mono (by omega) (by omega)
    refine call_by ((pnorm_ok ((pderiv ((pv p).take k)).map canon) (RP.canon (hb.mono (by omega) (by omega))))) (by first | rfl | (simp only [tocvs, tocv, hF]; rfl) | (simp only [tocvs, tocv, toboxes, tobox, updH_at, Nat.reduceEqDiff, ↓reduceIte, hF]; rfl)) (by simp) ?_
    simp (disch := omega) only [wk, tis, Int.reduceNe, Int.reduceEq, Int.reduceLT, Int.reduceLE, Int.reduceAdd, Int.reduceSub, Int.reduceNeg, Int.reduceMul, Int.reduceToNat, Nat.reduceSub, Nat.reduceMul, Nat.reduceLeDiff, Nat.reduceAdd, Nat.reduceLT, Nat.reduceEqDiff, reduceCtorEq, ↓reduceIte, cpoly_len, hF]

end Go.Proofs.Ythgecppfgdadiaa

namespace Go.Proofs.Ythgecppfgdadiaa
open Go Go.Proofs Go.AL
set_option linter.unusedSimpArgs false
set_option linter.unusedVariables false

def cn (q : List Int) : List RI := (trimz q).map canon

theorem cf_cn (q : List Int) (k : Nat) : cf (pv (cn q)) k = cf q k := by rw [cn, pv_canon, cf_trimz]

theorem ps_cn (q : List Int) : ps (pv (cn q)) = ps q := ps_ext (cf_cn q)

theorem rp_cn {n k : Nat} {q : List Int} (h : PB n k q) : RP n k (cn q) := RP.canon h.trimz

/-- The product of two polynomials in their own form. -/
theorem pmul_cn {q r s : List Int} (hq : PB (2 ^ 30) (2 ^ 35) q) (hr : PB (2 ^ 30) (2 ^ 35) r) (e : ps q * ps r = ps s) : AC Try.prog 13 [cp q, cp r] none [cp s] := by
  have h := pmul_ok (cn q) (cn r) (rp_cn hq) (rp_cn hr)
  rw [cp_ps (q := s) (by rw [ps_pmul, ps_cn, ps_cn, e])] at h
  exact h

theorem canon_one : canon 1 = (false, [1]) := by
  have : wd 1 = [1] := by rw [wd, dg_pos (by decide) (by decide)]; rw [show 1 / W = 0 by decide, dg_zero]; rfl
  simp only [canon, Int.natAbs_one, this]; rfl

theorem cpoly_one : cpoly [1] = [prow (canon 1)] := by
  have : tz [1] = 1 := by rw [tz_cons]; simp [tz_zero_iff, cf_nil]
  simp [cpoly, trimz, this, raws]

theorem ppow_ok (p : List RI) (n : Int) (h : RP (2 ^ 15) (2 ^ 20) p) : AC Try.prog 23 [cw p, ci n] none [cp (if 0 ≤ n ∧ n ≤ 1000 then ppow (pv p) n.toNat else []), ci (if n < 0 then 3 else if 1000 < n then 13 else 0)] := by
  refine AC.by_walk (rs := [.tmp 4, .tmp 5]) ords Try.func23 (by rfl) (by rfl) (by rfl) (by rfl) (by rfl) ?_
  simp (disch := omega) only [wk, tis, Int.reduceNe, Int.reduceEq, Int.reduceLT, Int.reduceLE, Int.reduceAdd, Int.reduceSub, Int.reduceNeg, Int.reduceMul, Int.reduceToNat, Nat.reduceSub, Nat.reduceMul, Nat.reduceLeDiff, Nat.reduceAdd, Nat.reduceLT, Nat.reduceEqDiff, reduceCtorEq, ↓reduceIte, cpoly_len]
  refine call_by ((pbound_ok n)) (by rfl) (by simp) ?_
  simp (disch := omega) only [wk, tis, Int.reduceNe, Int.reduceEq, Int.reduceLT, Int.reduceLE, Int.reduceAdd, Int.reduceSub, Int.reduceNeg, Int.reduceMul, Int.reduceToNat, Nat.reduceSub, Nat.reduceMul, Nat.reduceLeDiff, Nat.reduceAdd, Nat.reduceLT, Nat.reduceEqDiff, reduceCtorEq, ↓reduceIte, cpoly_len]
  by_cases h1 : n < 0
  · have : ¬ (0 ≤ n ∧ n ≤ 1000) := by omega
    simp (disch := omega) only [wk, tis, Int.reduceNe, Int.reduceEq, Int.reduceLT, Int.reduceLE, Int.reduceAdd, Int.reduceSub, Int.reduceNeg, Int.reduceMul, Int.reduceToNat, Nat.reduceSub, Nat.reduceMul, Nat.reduceLeDiff, Nat.reduceAdd, Nat.reduceLT, Nat.reduceEqDiff, reduceCtorEq, ↓reduceIte, cpoly_len, h1, this]
    rfl
  by_cases h2 : 1000 < n
  · have : ¬ (0 ≤ n ∧ n ≤ 1000) := by omega
    simp (disch := omega) only [wk, tis, Int.reduceNe, Int.reduceEq, Int.reduceLT, Int.reduceLE, Int.reduceAdd, Int.reduceSub, Int.reduceNeg, Int.reduceMul, Int.reduceToNat, Nat.reduceSub, Nat.reduceMul, Nat.reduceLeDiff, Nat.reduceAdd, Nat.reduceLT, Nat.reduceEqDiff, reduceCtorEq, ↓reduceIte, cpoly_len, h1, h2, this]
    rfl
  have h3 : 0 ≤ n ∧ n ≤ 1000 := by omega
  obtain ⟨m, rfl⟩ := Int.eq_ofNat_of_zero_le h3.1
  have hm : m ≤ 1000 := by omega
  simp (disch := omega) only [wk, tis, Int.reduceNe, Int.reduceEq, Int.reduceLT, Int.reduceLE, Int.reduceAdd, Int.reduceSub, Int.reduceNeg, Int.reduceMul, Int.reduceToNat, Nat.reduceSub, Nat.reduceMul, Nat.reduceLeDiff, Nat.reduceAdd, Nat.reduceLT, Nat.reduceEqDiff, reduceCtorEq, ↓reduceIte, cpoly_len, h1, h2, h3]
  refine call_by ((zOf_ok 1 (by omega) (by omega))) (by first | rfl | (simp only [tocvs, tocv, h1, h2]; rfl) | (simp only [tocvs, tocv, toboxes, tobox, updH_at, Nat.reduceEqDiff, ↓reduceIte, h1, h2]; rfl)) (by simp) ?_
  simp (disch := omega) only [wk, tis, Int.reduceNe, Int.reduceEq, Int.reduceLT, Int.reduceLE, Int.reduceAdd, Int.reduceSub, Int.reduceNeg, Int.reduceMul, Int.reduceToNat, Nat.reduceSub, Nat.reduceMul, Nat.reduceLeDiff, Nat.reduceAdd, Nat.reduceLT, Nat.reduceEqDiff, reduceCtorEq, ↓reduceIte, cpoly_len, h1, h2]
  refine call_by ((pnorm_ok p (h.mono (by omega) (by omega)))) (by first | rfl | (simp only [tocvs, tocv, h1, h2]; rfl) | (simp only [tocvs, tocv, toboxes, tobox, updH_at, Nat.reduceEqDiff, ↓reduceIte, h1, h2]; rfl)) (by simp) ?_
  simp (disch := omega) only [wk, tis, Int.reduceNe, Int.reduceEq, Int.reduceLT, Int.reduceLE, Int.reduceAdd, Int.reduceSub, Int.reduceNeg, Int.reduceMul, Int.reduceToNat, Nat.reduceSub, Nat.reduceMul, Nat.reduceLeDiff, Nat.reduceAdd, Nat.reduceLT, Nat.reduceEqDiff, reduceCtorEq, ↓reduceIte, cpoly_len, h1, h2]
  have hb : ∀ x, x ≤ 1000 → PB (2 ^ 30) (2 ^ 35) (ppow (pv p) x) := fun x hx => ((h.pv.ppow (by decide)) x).mono (by omega) (by omega)
  have e1 : cpoly (pv p) = cpoly (ppow (pv p) 1) := cpoly_ext (ps_eq (by rw [ps_ppow, PS.pw_one]))
  refine aloop_w (.iv 7 15 1 false 40 2 [prow (canon 1)] (by simp (disch := omega) only [wk, tis, Int.reduceNe, Int.reduceEq, Int.reduceLT, Int.reduceLE, Int.reduceAdd, Int.reduceSub, Int.reduceNeg, Int.reduceMul, Int.reduceToNat, Nat.reduceSub, Nat.reduceMul, Nat.reduceLeDiff, Nat.reduceAdd, Nat.reduceLT, Nat.reduceEqDiff, reduceCtorEq, ↓reduceIte, cpoly_len]) (by simp (disch := omega) only [wk, tis, Int.reduceNe, Int.reduceEq, Int.reduceLT, Int.reduceLE, Int.reduceAdd, Int.reduceSub, Int.reduceNeg, Int.reduceMul, Int.reduceToNat, Nat.reduceSub, Nat.reduceMul, Nat.reduceLeDiff, Nat.reduceAdd, Nat.reduceLT, Nat.reduceEqDiff, reduceCtorEq, ↓reduceIte, cpoly_len]) (.refl _ _)) (fun f H => ∃ (x y r : Nat), x + y * r = m ∧ (0 < r → y ≤ m) ∧ 0 < y ∧ f 1 = .iv (.int .i64 r) ∧ f 7 = .iv (.sl (cpoly (ppow (pv p) x))) ∧ f 8 = .iv (.sl (cpoly (ppow (pv p) y)))) (fun f H => (intAt f 1).toNat) ?_ ?_
  · refine ⟨0, 1, m, by omega, fun _ => by omega, by omega, ?_⟩
    simp (disch := omega) only [wk, tis, Int.reduceNe, Int.reduceEq, Int.reduceLT, Int.reduceLE, Int.reduceAdd, Int.reduceSub, Int.reduceNeg, Int.reduceMul, Int.reduceToNat, Nat.reduceSub, Nat.reduceMul, Nat.reduceLeDiff, Nat.reduceAdd, Nat.reduceLT, Nat.reduceEqDiff, reduceCtorEq, ↓reduceIte, cpoly_len, e1, ppow, cpoly_one]
  rintro f H ⟨x, y, r, hx, hy, hy0, hF⟩
  rw [intAt_of hF.1]
  simp (disch := omega) only [wk, tis, Int.reduceNe, Int.reduceEq, Int.reduceLT, Int.reduceLE, Int.reduceAdd, Int.reduceSub, Int.reduceNeg, Int.reduceMul, Int.reduceToNat, Nat.reduceSub, Nat.reduceMul, Nat.reduceLeDiff, Nat.reduceAdd, Nat.reduceLT, Nat.reduceEqDiff, reduceCtorEq, ↓reduceIte, cpoly_len, hF]
  refine if_by (fun hr => ?_) (fun hr => ?_)
  · have hy := hy (by omega)
    have hr1 : r ≤ m := by
      have : 1 * r ≤ y * r := Nat.mul_le_mul_right _ hy0
      omega
    have hxm : x + y ≤ m := by
      have : y * 1 ≤ y * r := Nat.mul_le_mul_left _ (by omega)
      omega
    have et : (r : Int).tmod 2 = ((r % 2 : Nat) : Int) := by rw [Int.tmod_eq_emod_of_nonneg (by omega)]; rfl
    have ed : (r : Int).tdiv 2 = ((r / 2 : Nat) : Int) := by rw [Int.tdiv_eq_ediv_of_nonneg (by omega)]; rfl
    simp (disch := omega) only [wk, tis, Int.reduceNe, Int.reduceEq, Int.reduceLT, Int.reduceLE, Int.reduceAdd, Int.reduceSub, Int.reduceNeg, Int.reduceMul, Int.reduceToNat, Nat.reduceSub, Nat.reduceMul, Nat.reduceLeDiff, Nat.reduceAdd, Nat.reduceLT, Nat.reduceEqDiff, reduceCtorEq, ↓reduceIte, cpoly_len, hF, et]
    have next : ∀ (x' y' : Nat), x' = (if r % 2 = 1 then x + y else x) → (y' = y + y ∨ r ≤ 1 ∧ y' = y) → x' + y' * (r / 2) = m ∧ (0 < r / 2 → y' ≤ m) ∧ 0 < y' := by
      intro x' y' ex ey
      have hd := Nat.div_add_mod r 2
      have e2 : y * r = (y + y) * (r / 2) + y * (r % 2) := by
        rw [← Nat.two_mul, Nat.mul_comm 2 y, Nat.mul_assoc, ← Nat.mul_add, hd]
      rcases ey with rfl | ⟨h1, rfl⟩
      · refine ⟨?_, fun h0 => ?_, by omega⟩
        · rcases Nat.mod_two_eq_zero_or_one r with h | h <;> simp [h] at ex e2 <;> omega
        · have : (y + y) * 1 ≤ (y + y) * (r / 2) := Nat.mul_le_mul_left _ h0
          omega
      · have : r = 1 := by omega
        subst this
        simp at ex ⊢
        omega
    refine if_by (fun hodd => ?_) (fun hodd => ?_)
    · have hodd : r % 2 = 1 := by omega
      simp (disch := omega) only [wk, tis, Int.reduceNe, Int.reduceEq, Int.reduceLT, Int.reduceLE, Int.reduceAdd, Int.reduceSub, Int.reduceNeg, Int.reduceMul, Int.reduceToNat, Nat.reduceSub, Nat.reduceMul, Nat.reduceLeDiff, Nat.reduceAdd, Nat.reduceLT, Nat.reduceEqDiff, reduceCtorEq, ↓reduceIte, cpoly_len, hF]
      refine call_by ((pmul_cn (s := ppow (pv p) (x + y)) (hb x (by omega)) (hb y (by omega)) (by rw [ps_ppow, ps_ppow, ps_ppow, PS.pw_add]))) (by first | rfl | (simp only [tocvs, tocv, hF]; rfl) | (simp only [tocvs, tocv, toboxes, tobox, updH_at, Nat.reduceEqDiff, ↓reduceIte, hF]; rfl)) (by simp) ?_
      simp (disch := omega) only [wk, tis, Int.reduceNe, Int.reduceEq, Int.reduceLT, Int.reduceLE, Int.reduceAdd, Int.reduceSub, Int.reduceNeg, Int.reduceMul, Int.reduceToNat, Nat.reduceSub, Nat.reduceMul, Nat.reduceLeDiff, Nat.reduceAdd, Nat.reduceLT, Nat.reduceEqDiff, reduceCtorEq, ↓reduceIte, cpoly_len, hF]
      refine if_by (fun h1 => ?_) (fun h1 => ?_)
      · simp (disch := omega) only [wk, tis, Int.reduceNe, Int.reduceEq, Int.reduceLT, Int.reduceLE, Int.reduceAdd, Int.reduceSub, Int.reduceNeg, Int.reduceMul, Int.reduceToNat, Nat.reduceSub, Nat.reduceMul, Nat.reduceLeDiff, Nat.reduceAdd, Nat.reduceLT, Nat.reduceEqDiff, reduceCtorEq, ↓reduceIte, cpoly_len, hF]
        refine call_by ((pmul_cn (s := ppow (pv p) (y + y)) (hb y (by omega)) (hb y (by omega)) (by rw [ps_ppow, ps_ppow, PS.pw_add]))) (by first | rfl | (simp only [tocvs, tocv, hF, ed]; rfl) | (simp only [tocvs, tocv, toboxes, tobox, updH_at, Nat.reduceEqDiff, ↓reduceIte, hF, ed]; rfl)) (by simp) ?_
        simp (disch := omega) only [wk, tis, Int.reduceNe, Int.reduceEq, Int.reduceLT, Int.reduceLE, Int.reduceAdd, Int.reduceSub, Int.reduceNeg, Int.reduceMul, Int.reduceToNat, Nat.reduceSub, Nat.reduceMul, Nat.reduceLeDiff, Nat.reduceAdd, Nat.reduceLT, Nat.reduceEqDiff, reduceCtorEq, ↓reduceIte, cpoly_len, hF, ed]
        obtain ⟨a1, a2, a3⟩ := next (x + y) (y + y) (by rw [if_pos hodd]) (.inl rfl)
        exact ⟨⟨x + y, y + y, r / 2, a1, a2, a3, rfl, rfl, rfl⟩, by omega⟩
      · simp (disch := omega) only [wk, tis, Int.reduceNe, Int.reduceEq, Int.reduceLT, Int.reduceLE, Int.reduceAdd, Int.reduceSub, Int.reduceNeg, Int.reduceMul, Int.reduceToNat, Nat.reduceSub, Nat.reduceMul, Nat.reduceLeDiff, Nat.reduceAdd, Nat.reduceLT, Nat.reduceEqDiff, reduceCtorEq, ↓reduceIte, cpoly_len, hF, ed]
        obtain ⟨a1, a2, a3⟩ := next (x + y) y (by rw [if_pos hodd]) (.inr ⟨by omega, rfl⟩)
        exact ⟨⟨x + y, y, r / 2, a1, a2, a3, rfl, rfl, rfl⟩, by omega⟩
    · have hodd : ¬ r % 2 = 1 := by omega
      simp (disch := omega) only [wk, tis, Int.reduceNe, Int.reduceEq, Int.reduceLT, Int.reduceLE, Int.reduceAdd, Int.reduceSub, Int.reduceNeg, Int.reduceMul, Int.reduceToNat, Nat.reduceSub, Nat.reduceMul, Nat.reduceLeDiff, Nat.reduceAdd, Nat.reduceLT, Nat.reduceEqDiff, reduceCtorEq, ↓reduceIte, cpoly_len, hF]
      refine if_by (fun h1 => ?_) (fun h1 => ?_)
      · simp (disch := omega) only [wk, tis, Int.reduceNe, Int.reduceEq, Int.reduceLT, Int.reduceLE, Int.reduceAdd, Int.reduceSub, Int.reduceNeg, Int.reduceMul, Int.reduceToNat, Nat.reduceSub, Nat.reduceMul, Nat.reduceLeDiff, Nat.reduceAdd, Nat.reduceLT, Nat.reduceEqDiff, reduceCtorEq, ↓reduceIte, cpoly_len, hF]
        refine call_by ((pmul_cn (s := ppow (pv p) (y + y)) (hb y (by omega)) (hb y (by omega)) (by rw [ps_ppow, ps_ppow, PS.pw_add]))) (by first | rfl | (simp only [tocvs, tocv, hF, ed]; rfl) | (simp only [tocvs, tocv, toboxes, tobox, updH_at, Nat.reduceEqDiff, ↓reduceIte, hF, ed]; rfl)) (by simp) ?_
        simp (disch := omega) only [wk, tis, Int.reduceNe, Int.reduceEq, Int.reduceLT, Int.reduceLE, Int.reduceAdd, Int.reduceSub, Int.reduceNeg, Int.reduceMul, Int.reduceToNat, Nat.reduceSub, Nat.reduceMul, Nat.reduceLeDiff, Nat.reduceAdd, Nat.reduceLT, Nat.reduceEqDiff, reduceCtorEq, ↓reduceIte, cpoly_len, hF, ed]
        obtain ⟨a1, a2, a3⟩ := next x (y + y) (by rw [if_neg hodd]) (.inl rfl)
        exact ⟨⟨x, y + y, r / 2, a1, a2, a3, rfl, rfl, rfl⟩, by omega⟩
      · simp (disch := omega) only [wk, tis, Int.reduceNe, Int.reduceEq, Int.reduceLT, Int.reduceLE, Int.reduceAdd, Int.reduceSub, Int.reduceNeg, Int.reduceMul, Int.reduceToNat, Nat.reduceSub, Nat.reduceMul, Nat.reduceLeDiff, Nat.reduceAdd, Nat.reduceLT, Nat.reduceEqDiff, reduceCtorEq, ↓reduceIte, cpoly_len, hF, ed]
        obtain ⟨a1, a2, a3⟩ := next x y (by rw [if_neg hodd]) (.inr ⟨by omega, rfl⟩)
        exact ⟨⟨x, y, r / 2, a1, a2, a3, rfl, rfl, rfl⟩, by omega⟩
  · simp (disch := omega) only [wk, tis, Int.reduceNe, Int.reduceEq, Int.reduceLT, Int.reduceLE, Int.reduceAdd, Int.reduceSub, Int.reduceNeg, Int.reduceMul, Int.reduceToNat, Nat.reduceSub, Nat.reduceMul, Nat.reduceLeDiff, Nat.reduceAdd, Nat.reduceLT, Nat.reduceEqDiff, reduceCtorEq, ↓reduceIte, cpoly_len, hF]
    obtain rfl : r = 0 := by omega
    obtain rfl : x = m := by omega
    rfl

/-- The greatest size, and 1. -/
def msz (l : List RI) : Nat := l.foldl (fun s c => max s c.2.length) 1

theorem msz_take {l : List RI} {i : Nat} (h : i < l.length) : msz (l.take (i + 1)) = max (msz (l.take i)) (l.getD i (false, [])).2.length := by
  have : l.take (i + 1) = l.take i ++ [l.getD i (false, [])] := by
    rw [List.take_add_one]; congr 1; simp [List.getD, h]
  rw [this, msz, List.foldl_append]; rfl

theorem msz_le {n k : Nat} {l : List RI} (h : RP n k l) : ∀ i, i ≤ l.length → msz (l.take i) ≤ max 1 k
  | 0, _ => by simp [msz]; omega
  | i + 1, hi => by
    have h1 := msz_le h i (by omega)
    have h2 := (h.get i).1
    rw [msz_take (by omega)]; omega

/-- Is the power too great to be reckoned? -/
def hvy (p : List RI) (n : Int) : Bool := decide (0 < n) && (decide (40 < n) || decide (4000 < ((p.length * msz p * n.toNat * n.toNat : Nat) : Int)))

theorem heavy_ok (p : List RI) (n : Int) (h : RP 40 200 p) : AC Try.prog 22 [cw p, ci n] none [cb (hvy p n)] := by
  refine AC.by_walk (rs := [.tmp 4]) ords Try.func22 (by rfl) (by rfl) (by rfl) (by rfl) (by rfl) ?_
  have hl := h.1
  simp (disch := omega) only [wk, tis, Int.reduceNe, Int.reduceEq, Int.reduceLT, Int.reduceLE, Int.reduceAdd, Int.reduceSub, Int.reduceNeg, Int.reduceMul, Int.reduceToNat, Nat.reduceSub, Nat.reduceMul, Nat.reduceLeDiff, Nat.reduceAdd, Nat.reduceLT, Nat.reduceEqDiff, reduceCtorEq, ↓reduceIte, cpoly_len]
  refine aloop_by (fun f H => ∃ (i s : Nat), i ≤ p.length ∧ s = msz (p.take i) ∧ f 9 = .iv (.int .i64 i) ∧ f 0 = .iv (.sl (raws p)) ∧ f 1 = .iv (.int .i64 n) ∧ f 5 = .iv (.int .i64 s) ∧ f 8 = .iv (.int .i64 p.length)) (fun f H => (p.length - intAt f 9).toNat) ?_ ?_
  · refine ⟨0, 1, by omega, by simp [msz], ?_⟩
    simp (disch := omega) only [wk, tis, Int.reduceNe, Int.reduceEq, Int.reduceLT, Int.reduceLE, Int.reduceAdd, Int.reduceSub, Int.reduceNeg, Int.reduceMul, Int.reduceToNat, Nat.reduceSub, Nat.reduceMul, Nat.reduceLeDiff, Nat.reduceAdd, Nat.reduceLT, Nat.reduceEqDiff, reduceCtorEq, ↓reduceIte, cpoly_len]
  rintro f H ⟨i, s, hi, hs, hF⟩
  rw [intAt_of hF.1]
  simp (disch := omega) only [wk, tis, Int.reduceNe, Int.reduceEq, Int.reduceLT, Int.reduceLE, Int.reduceAdd, Int.reduceSub, Int.reduceNeg, Int.reduceMul, Int.reduceToNat, Nat.reduceSub, Nat.reduceMul, Nat.reduceLeDiff, Nat.reduceAdd, Nat.reduceLT, Nat.reduceEqDiff, reduceCtorEq, ↓reduceIte, cpoly_len, hF]
  have hms := msz_le h i hi
  refine if_by (fun hlt => ?_) (fun hlt => ?_)
  · simp (disch := omega) only [wk, tis, Int.reduceNe, Int.reduceEq, Int.reduceLT, Int.reduceLE, Int.reduceAdd, Int.reduceSub, Int.reduceNeg, Int.reduceMul, Int.reduceToNat, Nat.reduceSub, Nat.reduceMul, Nat.reduceLeDiff, Nat.reduceAdd, Nat.reduceLT, Nat.reduceEqDiff, reduceCtorEq, ↓reduceIte, cpoly_len, hF]
    have hg := (h.get i).1
    have hm := msz_take (l := p) (i := i) (by omega)
    refine if_by (fun hgt => ?_) (fun hgt => ?_)
    · simp (disch := omega) only [wk, tis, Int.reduceNe, Int.reduceEq, Int.reduceLT, Int.reduceLE, Int.reduceAdd, Int.reduceSub, Int.reduceNeg, Int.reduceMul, Int.reduceToNat, Nat.reduceSub, Nat.reduceMul, Nat.reduceLeDiff, Nat.reduceAdd, Nat.reduceLT, Nat.reduceEqDiff, reduceCtorEq, ↓reduceIte, cpoly_len, hF]
      exact ⟨⟨i + 1, _, by omega, hm.symm ▸ by omega, by omega, rfl⟩, by omega⟩
    · simp (disch := omega) only [wk, tis, Int.reduceNe, Int.reduceEq, Int.reduceLT, Int.reduceLE, Int.reduceAdd, Int.reduceSub, Int.reduceNeg, Int.reduceMul, Int.reduceToNat, Nat.reduceSub, Nat.reduceMul, Nat.reduceLeDiff, Nat.reduceAdd, Nat.reduceLT, Nat.reduceEqDiff, reduceCtorEq, ↓reduceIte, cpoly_len, hF]
      exact ⟨⟨i + 1, _, by omega, hm.symm ▸ by omega, by omega, rfl⟩, by omega⟩
  · have hip : i = p.length := by omega
    subst hip
    rw [List.take_length] at hs hms
    subst hs
    clear hlt
    by_cases h0 : 0 < n
    · by_cases h1 : 40 < n
      · simp (disch := omega) only [wk, tis, Int.reduceNe, Int.reduceEq, Int.reduceLT, Int.reduceLE, Int.reduceAdd, Int.reduceSub, Int.reduceNeg, Int.reduceMul, Int.reduceToNat, Nat.reduceSub, Nat.reduceMul, Nat.reduceLeDiff, Nat.reduceAdd, Nat.reduceLT, Nat.reduceEqDiff, reduceCtorEq, ↓reduceIte, cpoly_len, hF, h0, h1]
        simp [hvy, h0, h1]
      · obtain ⟨m, rfl⟩ := Int.eq_ofNat_of_zero_le (show 0 ≤ n by omega)
        have b1 : p.length * msz p ≤ 40 * 200 := Nat.mul_le_mul hl (by omega)
        have b2 : p.length * msz p * m ≤ 40 * 200 * 40 := Nat.mul_le_mul b1 (by omega)
        have b3 : p.length * msz p * m * m ≤ 40 * 200 * 40 * 40 := Nat.mul_le_mul b2 (by omega)
        have w1 : (p.length : Int) * (msz p : Int) = ((p.length * msz p : Nat) : Int) := rfl
        have w2 : ((p.length * msz p : Nat) : Int) * (m : Int) = ((p.length * msz p * m : Nat) : Int) := rfl
        have w3 : ((p.length * msz p * m : Nat) : Int) * (m : Int) = ((p.length * msz p * m * m : Nat) : Int) := rfl
        generalize hx1 : p.length * msz p = x1 at *
        generalize hx2 : x1 * m = x2 at *
        generalize hx3 : x2 * m = x3 at *
        simp (disch := omega) only [wk, tis, Int.reduceNe, Int.reduceEq, Int.reduceLT, Int.reduceLE, Int.reduceAdd, Int.reduceSub, Int.reduceNeg, Int.reduceMul, Int.reduceToNat, Nat.reduceSub, Nat.reduceMul, Nat.reduceLeDiff, Nat.reduceAdd, Nat.reduceLT, Nat.reduceEqDiff, reduceCtorEq, ↓reduceIte, cpoly_len, hF, h0, h1, w1, w2, w3]
        simp [hvy, h0, h1, hx1, hx2, hx3]; intro _; omega
    · simp (disch := omega) only [wk, tis, Int.reduceNe, Int.reduceEq, Int.reduceLT, Int.reduceLE, Int.reduceAdd, Int.reduceSub, Int.reduceNeg, Int.reduceMul, Int.reduceToNat, Nat.reduceSub, Nat.reduceMul, Nat.reduceLeDiff, Nat.reduceAdd, Nat.reduceLT, Nat.reduceEqDiff, reduceCtorEq, ↓reduceIte, cpoly_len, hF, h0]
      simp [hvy, h0]

end Go.Proofs.Ythgecppfgdadiaa

namespace Go.Proofs.Ythgecppfgdadiaa
open Go Go.Proofs Go.AL
set_option linter.unusedSimpArgs false
set_option linter.unusedVariables false

/-- A list of digits, as it is handed. -/
abbrev cd (l : List Nat) : CV := .iv (.sl (nums l))

theorem rdigit_ok (d : List Nat) (i : Nat) (hl : d.length ≤ 2 ^ 43) : AC Try.prog 163 [cd d, ci i] none [ci (d.getD i 0 : Nat)] := by
  refine AC.by_walk (rs := [.tmp 4]) ords Try.func163 (by rfl) (by rfl) (by rfl) (by rfl) (by rfl) ?_
  simp (disch := omega) only [wk, tis, Int.reduceNe, Int.reduceEq, Int.reduceLT, Int.reduceLE, Int.reduceAdd, Int.reduceSub, Int.reduceNeg, Int.reduceMul, Int.reduceToNat, Nat.reduceSub, Nat.reduceMul, Nat.reduceLeDiff, Nat.reduceAdd, Nat.reduceLT, Nat.reduceEqDiff, reduceCtorEq, ↓reduceIte]
  refine if_by (fun h => ?_) (fun h => ?_)
  · simp (disch := omega) only [wk, tis, Int.reduceNe, Int.reduceEq, Int.reduceLT, Int.reduceLE, Int.reduceAdd, Int.reduceSub, Int.reduceNeg, Int.reduceMul, Int.reduceToNat, Nat.reduceSub, Nat.reduceMul, Nat.reduceLeDiff, Nat.reduceAdd, Nat.reduceLT, Nat.reduceEqDiff, reduceCtorEq, ↓reduceIte]
  · simp (disch := omega) only [wk, tis, Int.reduceNe, Int.reduceEq, Int.reduceLT, Int.reduceLE, Int.reduceAdd, Int.reduceSub, Int.reduceNeg, Int.reduceMul, Int.reduceToNat, Nat.reduceSub, Nat.reduceMul, Nat.reduceLeDiff, Nat.reduceAdd, Nat.reduceLT, Nat.reduceEqDiff, reduceCtorEq, ↓reduceIte]
    rw [List.getD_eq_getElem?_getD, List.getElem?_eq_none (by omega)]
    rfl

theorem rcut_ok (l : List Nat) (hl : l.length ≤ 2 ^ 43) : AC Try.prog 152 [cd l] none [cd (l.take (topN l))] := by
  refine AC.by_walk (rs := [.tmp 2]) ords Try.func152 (by rfl) (by rfl) (by rfl) (by rfl) (by rfl) ?_
  simp (disch := omega) only [wk, tis, Int.reduceNe, Int.reduceEq, Int.reduceLT, Int.reduceLE, Int.reduceAdd, Int.reduceSub, Int.reduceNeg, Int.reduceMul, Int.reduceToNat, Nat.reduceSub, Nat.reduceMul, Nat.reduceLeDiff, Nat.reduceAdd, Nat.reduceLT, Nat.reduceEqDiff, reduceCtorEq, ↓reduceIte]
  have htl := topN_le l
  refine aloop_by (fun f H => ∃ k : Nat, k ≤ l.length ∧ f 0 = .iv (.sl (nums l)) ∧ f 3 = .iv (.int .i64 k) ∧ topN (l.take k) = topN l) (fun f H => (intAt f 3).toNat) ?_ ?_
  · exact ⟨l.length, Nat.le_refl _, by simp (disch := omega) only [wk, tis, Int.reduceNe, Int.reduceEq, Int.reduceLT, Int.reduceLE, Int.reduceAdd, Int.reduceSub, Int.reduceNeg, Int.reduceMul, Int.reduceToNat, Nat.reduceSub, Nat.reduceMul, Nat.reduceLeDiff, Nat.reduceAdd, Nat.reduceLT, Nat.reduceEqDiff, reduceCtorEq, ↓reduceIte], by simp (disch := omega) only [wk, tis, Int.reduceNe, Int.reduceEq, Int.reduceLT, Int.reduceLE, Int.reduceAdd, Int.reduceSub, Int.reduceNeg, Int.reduceMul, Int.reduceToNat, Nat.reduceSub, Nat.reduceMul, Nat.reduceLeDiff, Nat.reduceAdd, Nat.reduceLT, Nat.reduceEqDiff, reduceCtorEq, ↓reduceIte], by rw [List.take_length]⟩
  rintro f H ⟨k, hk, h0, h3, ht⟩
  rw [intAt_of h3]
  by_cases hc : 0 < (k : Int)
  · simp (disch := omega) only [wk, tis, Int.reduceNe, Int.reduceEq, Int.reduceLT, Int.reduceLE, Int.reduceAdd, Int.reduceSub, Int.reduceNeg, Int.reduceMul, Int.reduceToNat, Nat.reduceSub, Nat.reduceMul, Nat.reduceLeDiff, Nat.reduceAdd, Nat.reduceLT, Nat.reduceEqDiff, reduceCtorEq, ↓reduceIte, h0, h3, hc]
    rw [show ((k : Int) - 1).toNat = k - 1 by omega]
    refine if_by (fun hz => ?_) (fun hz => ?_)
    · simp (disch := omega) only [wk, tis, Int.reduceNe, Int.reduceEq, Int.reduceLT, Int.reduceLE, Int.reduceAdd, Int.reduceSub, Int.reduceNeg, Int.reduceMul, Int.reduceToNat, Nat.reduceSub, Nat.reduceMul, Nat.reduceLeDiff, Nat.reduceAdd, Nat.reduceLT, Nat.reduceEqDiff, reduceCtorEq, ↓reduceIte, h0, h3]
      refine ⟨⟨k - 1, by omega, by omega, ?_⟩, by omega⟩
      have e : k = (k - 1) + 1 := by omega
      rw [← topN_take_zero (k := k - 1) (by omega) (by exact_mod_cast hz), ← e, ht]
    · simp (disch := omega) only [wk, tis, Int.reduceNe, Int.reduceEq, Int.reduceLT, Int.reduceLE, Int.reduceAdd, Int.reduceSub, Int.reduceNeg, Int.reduceMul, Int.reduceToNat, Nat.reduceSub, Nat.reduceMul, Nat.reduceLeDiff, Nat.reduceAdd, Nat.reduceLT, Nat.reduceEqDiff, reduceCtorEq, ↓reduceIte, h0, h3]
      have e := topN_full (l := l) (k := k - 1) (by omega) (by exact_mod_cast hz)
      rw [show k - 1 + 1 = k by omega, ht] at e
      rw [e]
  · simp (disch := omega) only [wk, tis, Int.reduceNe, Int.reduceEq, Int.reduceLT, Int.reduceLE, Int.reduceAdd, Int.reduceSub, Int.reduceNeg, Int.reduceMul, Int.reduceToNat, Nat.reduceSub, Nat.reduceMul, Nat.reduceLeDiff, Nat.reduceAdd, Nat.reduceLT, Nat.reduceEqDiff, reduceCtorEq, ↓reduceIte, h0, h3, hc]
    obtain rfl : k = 0 := by omega
    rw [← ht]; rfl

theorem rdigits_ok (a : List Nat) (h : Lim a) (hl : a.length ≤ 2 ^ 40) : AC Try.prog 164 [cl a] none [cd (dd a)] := by
  refine AC.by_walk (rs := [.tmp 2]) ords Try.func164 (by rfl) (by rfl) (by rfl) (by rfl) (by rfl) ?_
  simp (disch := omega) only [wk, tis, Int.reduceNe, Int.reduceEq, Int.reduceLT, Int.reduceLE, Int.reduceAdd, Int.reduceSub, Int.reduceNeg, Int.reduceMul, Int.reduceToNat, Nat.reduceSub, Nat.reduceMul, Nat.reduceLeDiff, Nat.reduceAdd, Nat.reduceLT, Nat.reduceEqDiff, reduceCtorEq, ↓reduceIte]
  refine aloop_nil 3 3 3 1 (by simp (disch := omega) only [wk, tis, Int.reduceNe, Int.reduceEq, Int.reduceLT, Int.reduceLE, Int.reduceAdd, Int.reduceSub, Int.reduceNeg, Int.reduceMul, Int.reduceToNat, Nat.reduceSub, Nat.reduceMul, Nat.reduceLeDiff, Nat.reduceAdd, Nat.reduceLT, Nat.reduceEqDiff, reduceCtorEq, ↓reduceIte]) (fun f H => ∃ (i st : Nat), i ≤ a.length ∧ f 0 = .iv (.sl (lims a)) ∧ f 3 = .hs 3 st ∧ f 4 = .iv (.int .i64 i) ∧ H 3 = .blk false st 3 1 (nums (dd (a.take i)))) (fun f H => (a.length - intAt f 4).toNat) ?_ ?_
  · refine ⟨0, 1, by omega, ?_⟩
    simp (disch := omega) only [wk, tis, Int.reduceNe, Int.reduceEq, Int.reduceLT, Int.reduceLE, Int.reduceAdd, Int.reduceSub, Int.reduceNeg, Int.reduceMul, Int.reduceToNat, Nat.reduceSub, Nat.reduceMul, Nat.reduceLeDiff, Nat.reduceAdd, Nat.reduceLT, Nat.reduceEqDiff, reduceCtorEq, ↓reduceIte, ghostF, ghostH, List.take_zero]
    rfl
  rintro f H ⟨i, st, hi, h0, h3, h4, hH⟩
  rw [intAt_of h4]
  simp (disch := omega) only [wk, tis, Int.reduceNe, Int.reduceEq, Int.reduceLT, Int.reduceLE, Int.reduceAdd, Int.reduceSub, Int.reduceNeg, Int.reduceMul, Int.reduceToNat, Nat.reduceSub, Nat.reduceMul, Nat.reduceLeDiff, Nat.reduceAdd, Nat.reduceLT, Nat.reduceEqDiff, reduceCtorEq, ↓reduceIte, h0, h3, h4, hH]
  refine if_by (fun hlt => ?_) (fun hlt => ?_)
  · simp (disch := omega) only [wk, tis, Int.reduceNe, Int.reduceEq, Int.reduceLT, Int.reduceLE, Int.reduceAdd, Int.reduceSub, Int.reduceNeg, Int.reduceMul, Int.reduceToNat, Nat.reduceSub, Nat.reduceMul, Nat.reduceLeDiff, Nat.reduceAdd, Nat.reduceLT, Nat.reduceEqDiff, reduceCtorEq, ↓reduceIte, h0, h3, h4, hH]
    refine aloop_by (fun f H => ∃ (k st : Nat), k ≤ 4 ∧ f 0 = .iv (.sl (lims a)) ∧ f 3 = .hs 3 st ∧ f 4 = .iv (.int .i64 i) ∧ f 5 = .iv (.int .u64 (a.getD i 0 / D16 ^ k : Nat)) ∧ f 6 = .iv (.int .i64 k) ∧ H 3 = .blk false st 3 1 (nums (dd (a.take i) ++ dn k (a.getD i 0)))) (fun f H => (4 - intAt f 6).toNat) ?_ ?_
    · refine ⟨0, st, by omega, by simp (disch := omega) only [wk, tis, Int.reduceNe, Int.reduceEq, Int.reduceLT, Int.reduceLE, Int.reduceAdd, Int.reduceSub, Int.reduceNeg, Int.reduceMul, Int.reduceToNat, Nat.reduceSub, Nat.reduceMul, Nat.reduceLeDiff, Nat.reduceAdd, Nat.reduceLT, Nat.reduceEqDiff, reduceCtorEq, ↓reduceIte, h0], by simp (disch := omega) only [wk, tis, Int.reduceNe, Int.reduceEq, Int.reduceLT, Int.reduceLE, Int.reduceAdd, Int.reduceSub, Int.reduceNeg, Int.reduceMul, Int.reduceToNat, Nat.reduceSub, Nat.reduceMul, Nat.reduceLeDiff, Nat.reduceAdd, Nat.reduceLT, Nat.reduceEqDiff, reduceCtorEq, ↓reduceIte, h3], by simp (disch := omega) only [wk, tis, Int.reduceNe, Int.reduceEq, Int.reduceLT, Int.reduceLE, Int.reduceAdd, Int.reduceSub, Int.reduceNeg, Int.reduceMul, Int.reduceToNat, Nat.reduceSub, Nat.reduceMul, Nat.reduceLeDiff, Nat.reduceAdd, Nat.reduceLT, Nat.reduceEqDiff, reduceCtorEq, ↓reduceIte, h4], by simp (disch := omega) only [wk, tis, Int.reduceNe, Int.reduceEq, Int.reduceLT, Int.reduceLE, Int.reduceAdd, Int.reduceSub, Int.reduceNeg, Int.reduceMul, Int.reduceToNat, Nat.reduceSub, Nat.reduceMul, Nat.reduceLeDiff, Nat.reduceAdd, Nat.reduceLT, Nat.reduceEqDiff, reduceCtorEq, ↓reduceIte, Nat.pow_zero, Nat.div_one], by simp (disch := omega) only [wk, tis, Int.reduceNe, Int.reduceEq, Int.reduceLT, Int.reduceLE, Int.reduceAdd, Int.reduceSub, Int.reduceNeg, Int.reduceMul, Int.reduceToNat, Nat.reduceSub, Nat.reduceMul, Nat.reduceLeDiff, Nat.reduceAdd, Nat.reduceLT, Nat.reduceEqDiff, reduceCtorEq, ↓reduceIte], by simp (disch := omega) only [wk, tis, Int.reduceNe, Int.reduceEq, Int.reduceLT, Int.reduceLE, Int.reduceAdd, Int.reduceSub, Int.reduceNeg, Int.reduceMul, Int.reduceToNat, Nat.reduceSub, Nat.reduceMul, Nat.reduceLeDiff, Nat.reduceAdd, Nat.reduceLT, Nat.reduceEqDiff, reduceCtorEq, ↓reduceIte, hH]; rw [show dn 0 (a.getD i 0) = [] from rfl, List.append_nil]⟩
    have hai := h.get i
    clear h0 h3 h4 hH
    clear st f H
    rintro f H ⟨k, st, hk, h0, h3, h4, h5, h6, hH⟩
    rw [intAt_of h6]
    simp (disch := omega) only [wk, tis, Int.reduceNe, Int.reduceEq, Int.reduceLT, Int.reduceLE, Int.reduceAdd, Int.reduceSub, Int.reduceNeg, Int.reduceMul, Int.reduceToNat, Nat.reduceSub, Nat.reduceMul, Nat.reduceLeDiff, Nat.reduceAdd, Nat.reduceLT, Nat.reduceEqDiff, reduceCtorEq, ↓reduceIte, h0, h3, h4, h5, h6, hH]
    refine if_by (fun hlk => ?_) (fun hlk => ?_)
    · have hl1 : (dd (a.take i)).length = 4 * i := by rw [dd_len, List.length_take, Nat.min_eq_left (by omega)]
      have hl2 : (dn k (a.getD i 0)).length = k := dn_len _ _
      simp (disch := omega) only [wk, tis, Int.reduceNe, Int.reduceEq, Int.reduceLT, Int.reduceLE, Int.reduceAdd, Int.reduceSub, Int.reduceNeg, Int.reduceMul, Int.reduceToNat, Nat.reduceSub, Nat.reduceMul, Nat.reduceLeDiff, Nat.reduceAdd, Nat.reduceLT, Nat.reduceEqDiff, reduceCtorEq, ↓reduceIte, h0, h3, h4, h5, h6, hH, hl1, hl2]
      refine ⟨⟨k + 1, st + 1, by omega, rfl, ?_, by omega, ?_⟩, by omega⟩
      · rw [Nat.pow_succ, ← Nat.div_div_eq_div_mul]
        exact wrap_nat (Nat.lt_of_le_of_lt (Nat.le_trans (Nat.div_le_self _ _) (Nat.div_le_self _ _)) hai)
      · rw [dn_succ, List.append_assoc]
    · simp (disch := omega) only [wk, tis, Int.reduceNe, Int.reduceEq, Int.reduceLT, Int.reduceLE, Int.reduceAdd, Int.reduceSub, Int.reduceNeg, Int.reduceMul, Int.reduceToNat, Nat.reduceSub, Nat.reduceMul, Nat.reduceLeDiff, Nat.reduceAdd, Nat.reduceLT, Nat.reduceEqDiff, reduceCtorEq, ↓reduceIte, h0, h3, h4, h5, h6, hH]
      have hk4 : k = 4 := by omega
      subst hk4
      refine ⟨⟨i + 1, st, by omega, rfl, by omega, ?_⟩, by omega⟩
      rw [dd_take_succ a (by omega)]
  · simp (disch := omega) only [wk, tis, Int.reduceNe, Int.reduceEq, Int.reduceLT, Int.reduceLE, Int.reduceAdd, Int.reduceSub, Int.reduceNeg, Int.reduceMul, Int.reduceToNat, Nat.reduceSub, Nat.reduceMul, Nat.reduceLeDiff, Nat.reduceAdd, Nat.reduceLT, Nat.reduceEqDiff, reduceCtorEq, ↓reduceIte, h0, h3, h4, hH]
    rw [show i = a.length by omega, List.take_length]

theorem rwords_ok (d : List Nat) (n : Nat) (h : Dig d) (hl : d.length ≤ 2 ^ 43) (hn : n ≤ 2 ^ 41) : AC Try.prog 153 [cd d, ci n] none [cl (pad n (vl D16 (d.take (4 * n))))] := by
  refine AC.by_walk (rs := [.tmp 4]) ords Try.func153 (by rfl) (by rfl) (by rfl) (by rfl) (by rfl) ?_
  simp (disch := omega) only [wk, tis, Int.reduceNe, Int.reduceEq, Int.reduceLT, Int.reduceLE, Int.reduceAdd, Int.reduceSub, Int.reduceNeg, Int.reduceMul, Int.reduceToNat, Nat.reduceSub, Nat.reduceMul, Nat.reduceLeDiff, Nat.reduceAdd, Nat.reduceLT, Nat.reduceEqDiff, reduceCtorEq, ↓reduceIte]
  refine aloop_by (fun f H => ∃ (i st : Nat) (out : List Nat), i ≤ n ∧ out.length = n ∧ Lim out ∧ nv (out.take i) = vl D16 (d.take (4 * i)) ∧ (∀ k, i ≤ k → out.getD k 0 = 0) ∧ f 0 = .iv (.sl (nums d)) ∧ f 1 = .iv (.int .i64 n) ∧ f 5 = .hs 9 st ∧ f 6 = .iv (.int .i64 i) ∧ H 9 = .blk false st 87 1 (lims out)) (fun f H => (n - intAt f 6).toNat) ?_ ?_
  · refine ⟨0, 1, List.replicate n 0, by omega, by simp, Lim.replicate n, by simp [vl], fun k _ => ?_, by simp (disch := omega) only [wk, tis, Int.reduceNe, Int.reduceEq, Int.reduceLT, Int.reduceLE, Int.reduceAdd, Int.reduceSub, Int.reduceNeg, Int.reduceMul, Int.reduceToNat, Nat.reduceSub, Nat.reduceMul, Nat.reduceLeDiff, Nat.reduceAdd, Nat.reduceLT, Nat.reduceEqDiff, reduceCtorEq, ↓reduceIte], by simp (disch := omega) only [wk, tis, Int.reduceNe, Int.reduceEq, Int.reduceLT, Int.reduceLE, Int.reduceAdd, Int.reduceSub, Int.reduceNeg, Int.reduceMul, Int.reduceToNat, Nat.reduceSub, Nat.reduceMul, Nat.reduceLeDiff, Nat.reduceAdd, Nat.reduceLT, Nat.reduceEqDiff, reduceCtorEq, ↓reduceIte], by simp (disch := omega) only [wk, tis, Int.reduceNe, Int.reduceEq, Int.reduceLT, Int.reduceLE, Int.reduceAdd, Int.reduceSub, Int.reduceNeg, Int.reduceMul, Int.reduceToNat, Nat.reduceSub, Nat.reduceMul, Nat.reduceLeDiff, Nat.reduceAdd, Nat.reduceLT, Nat.reduceEqDiff, reduceCtorEq, ↓reduceIte], by simp (disch := omega) only [wk, tis, Int.reduceNe, Int.reduceEq, Int.reduceLT, Int.reduceLE, Int.reduceAdd, Int.reduceSub, Int.reduceNeg, Int.reduceMul, Int.reduceToNat, Nat.reduceSub, Nat.reduceMul, Nat.reduceLeDiff, Nat.reduceAdd, Nat.reduceLT, Nat.reduceEqDiff, reduceCtorEq, ↓reduceIte], by simp (disch := omega) only [wk, tis, Int.reduceNe, Int.reduceEq, Int.reduceLT, Int.reduceLE, Int.reduceAdd, Int.reduceSub, Int.reduceNeg, Int.reduceMul, Int.reduceToNat, Nat.reduceSub, Nat.reduceMul, Nat.reduceLeDiff, Nat.reduceAdd, Nat.reduceLT, Nat.reduceEqDiff, reduceCtorEq, ↓reduceIte, Int.toNat_natCast]⟩
    rw [List.getD_eq_getElem?_getD, List.getElem?_replicate]; split <;> rfl
  rintro f H ⟨i, st, out, hi, hol, hO, hv, hz, h0, h1, h5, h6, hH⟩
  rw [intAt_of h6]
  simp (disch := omega) only [wk, tis, Int.reduceNe, Int.reduceEq, Int.reduceLT, Int.reduceLE, Int.reduceAdd, Int.reduceSub, Int.reduceNeg, Int.reduceMul, Int.reduceToNat, Nat.reduceSub, Nat.reduceMul, Nat.reduceLeDiff, Nat.reduceAdd, Nat.reduceLT, Nat.reduceEqDiff, reduceCtorEq, ↓reduceIte, h0, h1, h5, h6, hH]
  refine if_by (fun hlt => ?_) (fun hlt => ?_)
  · simp (disch := omega) only [wk, tis, Int.reduceNe, Int.reduceEq, Int.reduceLT, Int.reduceLE, Int.reduceAdd, Int.reduceSub, Int.reduceNeg, Int.reduceMul, Int.reduceToNat, Nat.reduceSub, Nat.reduceMul, Nat.reduceLeDiff, Nat.reduceAdd, Nat.reduceLT, Nat.reduceEqDiff, reduceCtorEq, ↓reduceIte, h0, h1, h5, h6, hH]
    refine aloop_by (fun f H => ∃ (j st : Nat) (out : List Nat), j ≤ 4 ∧ out.length = n ∧ Lim out ∧ nv (out.take i) = vl D16 (d.take (4 * i)) ∧ (∀ k, i + 1 ≤ k → out.getD k 0 = 0) ∧ out.getD i 0 = vl D16 ((four d i).drop j) ∧
      f 0 = .iv (.sl (nums d)) ∧ f 1 = .iv (.int .i64 n) ∧ f 5 = .hs 9 st ∧ f 6 = .iv (.int .i64 i) ∧ f 7 = .iv (.int .i64 ((j : Int) - 1)) ∧ H 9 = .blk false st 87 1 (lims out)) (fun f H => (1 + intAt f 7).toNat) ?_ ?_
    · refine ⟨4, st, out, by omega, hol, hO, hv, fun k hk => hz k (by omega), hz i (by omega), by simp (disch := omega) only [wk, tis, Int.reduceNe, Int.reduceEq, Int.reduceLT, Int.reduceLE, Int.reduceAdd, Int.reduceSub, Int.reduceNeg, Int.reduceMul, Int.reduceToNat, Nat.reduceSub, Nat.reduceMul, Nat.reduceLeDiff, Nat.reduceAdd, Nat.reduceLT, Nat.reduceEqDiff, reduceCtorEq, ↓reduceIte, h0], by simp (disch := omega) only [wk, tis, Int.reduceNe, Int.reduceEq, Int.reduceLT, Int.reduceLE, Int.reduceAdd, Int.reduceSub, Int.reduceNeg, Int.reduceMul, Int.reduceToNat, Nat.reduceSub, Nat.reduceMul, Nat.reduceLeDiff, Nat.reduceAdd, Nat.reduceLT, Nat.reduceEqDiff, reduceCtorEq, ↓reduceIte, h1], by simp (disch := omega) only [wk, tis, Int.reduceNe, Int.reduceEq, Int.reduceLT, Int.reduceLE, Int.reduceAdd, Int.reduceSub, Int.reduceNeg, Int.reduceMul, Int.reduceToNat, Nat.reduceSub, Nat.reduceMul, Nat.reduceLeDiff, Nat.reduceAdd, Nat.reduceLT, Nat.reduceEqDiff, reduceCtorEq, ↓reduceIte, h5], by simp (disch := omega) only [wk, tis, Int.reduceNe, Int.reduceEq, Int.reduceLT, Int.reduceLE, Int.reduceAdd, Int.reduceSub, Int.reduceNeg, Int.reduceMul, Int.reduceToNat, Nat.reduceSub, Nat.reduceMul, Nat.reduceLeDiff, Nat.reduceAdd, Nat.reduceLT, Nat.reduceEqDiff, reduceCtorEq, ↓reduceIte, h6], (by simp (disch := omega) only [wk, tis, Int.reduceNe, Int.reduceEq, Int.reduceLT, Int.reduceLE, Int.reduceAdd, Int.reduceSub, Int.reduceNeg, Int.reduceMul, Int.reduceToNat, Nat.reduceSub, Nat.reduceMul, Nat.reduceLeDiff, Nat.reduceAdd, Nat.reduceLT, Nat.reduceEqDiff, reduceCtorEq, ↓reduceIte]; rfl), by simp (disch := omega) only [wk, tis, Int.reduceNe, Int.reduceEq, Int.reduceLT, Int.reduceLE, Int.reduceAdd, Int.reduceSub, Int.reduceNeg, Int.reduceMul, Int.reduceToNat, Nat.reduceSub, Nat.reduceMul, Nat.reduceLeDiff, Nat.reduceAdd, Nat.reduceLT, Nat.reduceEqDiff, reduceCtorEq, ↓reduceIte, hH]⟩
    clear h0 h1 h5 h6 hH hz hv hO hol
    clear st out f H
    rintro f H ⟨j, st, out, hj, hol, hO, hv, hz, hi4, h0, h1, h5, h6, h7, hH⟩
    rw [intAt_of h7]
    by_cases hlj : (0 : Int) ≤ (j : Int) - 1
    · simp (disch := omega) only [wk, tis, Int.reduceNe, Int.reduceEq, Int.reduceLT, Int.reduceLE, Int.reduceAdd, Int.reduceSub, Int.reduceNeg, Int.reduceMul, Int.reduceToNat, Nat.reduceSub, Nat.reduceMul, Nat.reduceLeDiff, Nat.reduceAdd, Nat.reduceLT, Nat.reduceEqDiff, reduceCtorEq, ↓reduceIte, h0, h1, h5, h6, h7, hH, hlj]
      have e1 : ((4 : Int) * (i : Int) + ((j : Int) - 1)) = ((4 * i + (j - 1) : Nat) : Int) := by omega
      rw [e1]
      refine ⟨tmps_by (by kernel_rfl), ?_⟩
      refine call_by ((rdigit_ok d (4 * i + (j - 1)) (by omega))) (by first | rfl | (simp only [tocvs, tocv, h0, h1, h5, h6, h7, hH]; rfl) | (simp only [tocvs, tocv, toboxes, tobox, updH_at, Nat.reduceEqDiff, ↓reduceIte, h0, h1, h5, h6, h7, hH]; rfl)) (by simp) ?_
      simp (disch := omega) only [wk, tis, Int.reduceNe, Int.reduceEq, Int.reduceLT, Int.reduceLE, Int.reduceAdd, Int.reduceSub, Int.reduceNeg, Int.reduceMul, Int.reduceToNat, Nat.reduceSub, Nat.reduceMul, Nat.reduceLeDiff, Nat.reduceAdd, Nat.reduceLT, Nat.reduceEqDiff, reduceCtorEq, ↓reduceIte, h0, h1, h5, h6, h7, hH]
      have hd := h.get (4 * i + (j - 1))
      have hb := four_drop_lt h i (j - 1)
      have hf := four_drop d i (j := j - 1) (by omega)
      rw [show j - 1 + 1 = j by omega] at hb hf
      rw [← hi4] at hb hf
      have hw : IntKind.u64.wrap (IntKind.u64.wrap ((out.getD i 0 : Nat) * 65536 : Int) + IntKind.u64.wrap (d.getD (4 * i + (j - 1)) 0 : Nat)) = ((out.getD i 0 * 65536 + d.getD (4 * i + (j - 1)) 0 : Nat) : Int) := by
        rw [wrap_u64 (n := ((out.getD i 0 : Nat) * 65536 : Int)) (by omega), wrap_u64 (n := (d.getD (4 * i + (j - 1)) 0 : Nat)) (by simp only [D16] at hd; omega), wrap_u64 (by simp only [D16] at hd; omega)]
        omega
      rw [hw, lims_set]
      first | exact log_by (by kernel_rfl) | refine ⟨log_by (by kernel_rfl), ?_⟩
      refine ⟨⟨j - 1, st, out.set i (out.getD i 0 * 65536 + d.getD (4 * i + (j - 1)) 0), by omega, by simp [hol], hO.set (by simp only [D16, W] at *; omega), ?_, fun k hk => ?_, ?_, rfl, by omega, rfl⟩, by omega⟩
      · rw [List.take_set_of_le (Nat.le_refl _)]; exact hv
      · have := hz k hk
        simp only [List.getD, List.getElem?_set, if_neg (show ¬ i = k by omega)] at this ⊢
        exact this
      · rw [hf]
        have hio : i < out.length := by omega
        have e : ∀ x, (out.set i x).getD i 0 = x := fun x => by simp [List.getD, hio]
        rw [e]; simp only [D16]; omega
    · simp (disch := omega) only [wk, tis, Int.reduceNe, Int.reduceEq, Int.reduceLT, Int.reduceLE, Int.reduceAdd, Int.reduceSub, Int.reduceNeg, Int.reduceMul, Int.reduceToNat, Nat.reduceSub, Nat.reduceMul, Nat.reduceLeDiff, Nat.reduceAdd, Nat.reduceLT, Nat.reduceEqDiff, reduceCtorEq, ↓reduceIte, h0, h1, h5, h6, h7, hH, hlj]
      have hj0 : j = 0 := by omega
      subst hj0
      refine ⟨⟨i + 1, st, out, by omega, hol, hO, ?_, hz, rfl, by omega, rfl⟩, by omega⟩
      have := vl_take_next W out i
      simp only [nv] at hv ⊢
      rw [this, hv, hi4, vl_four]; rfl
  · simp (disch := omega) only [wk, tis, Int.reduceNe, Int.reduceEq, Int.reduceLT, Int.reduceLE, Int.reduceAdd, Int.reduceSub, Int.reduceNeg, Int.reduceMul, Int.reduceToNat, Nat.reduceSub, Nat.reduceMul, Nat.reduceLeDiff, Nat.reduceAdd, Nat.reduceLT, Nat.reduceEqDiff, reduceCtorEq, ↓reduceIte, h0, h1, h5, h6, hH]
    have hin : i = n := by omega
    subst hin
    rw [List.take_of_length_le (by omega)] at hv
    rw [← hv, ← eq_pad hO hol (s := nv out) (by have := nv_lt hO; rw [hol] at this; rw [Nat.mod_eq_of_lt this])]

theorem rnumber_ok (d : List Nat) (h : Dig d) (hl : d.length ≤ 2 ^ 42) : AC Try.prog 130 [cd d] none [cl (wd (vl D16 d))] := by
  refine AC.by_walk (rs := [.tmp 2]) ords Try.func130 (by rfl) (by rfl) (by rfl) (by rfl) (by rfl) ?_
  have hlen : (dgD (vl D16 d)).length ≤ d.length := by rw [← dgD_of h, List.length_take]; omega
  simp (disch := omega) only [wk, tis, Int.reduceNe, Int.reduceEq, Int.reduceLT, Int.reduceLE, Int.reduceAdd, Int.reduceSub, Int.reduceNeg, Int.reduceMul, Int.reduceToNat, Nat.reduceSub, Nat.reduceMul, Nat.reduceLeDiff, Nat.reduceAdd, Nat.reduceLT, Nat.reduceEqDiff, reduceCtorEq, ↓reduceIte]
  have c1 := rcut_ok d (by omega)
  rw [dgD_of h] at c1
  have e : ((dgD (vl D16 d)).length + 3 : Int).tdiv 4 = (((dgD (vl D16 d)).length + 3) / 4 : Nat) := by rw [Int.tdiv_eq_ediv_of_nonneg (by omega)]; omega
  refine call_by (c1) (by first | rfl | (simp only [tocvs, tocv, e]; rfl) | (simp only [tocvs, tocv, toboxes, tobox, updH_at, Nat.reduceEqDiff, ↓reduceIte, e]; rfl)) (by simp) ?_
  simp (disch := omega) only [wk, tis, Int.reduceNe, Int.reduceEq, Int.reduceLT, Int.reduceLE, Int.reduceAdd, Int.reduceSub, Int.reduceNeg, Int.reduceMul, Int.reduceToNat, Nat.reduceSub, Nat.reduceMul, Nat.reduceLeDiff, Nat.reduceAdd, Nat.reduceLT, Nat.reduceEqDiff, reduceCtorEq, ↓reduceIte, e]
  have := rwords_ok (dgD (vl D16 d)) (((dgD (vl D16 d)).length + 3) / 4) (dgD_dig _) (by omega) (by omega)
  rw [List.take_of_length_le (by omega), vl_dgD, pad_wd] at this
  refine call_by (this) (by rfl) (by simp) ?_
  simp (disch := omega) only [wk, tis, Int.reduceNe, Int.reduceEq, Int.reduceLT, Int.reduceLE, Int.reduceAdd, Int.reduceSub, Int.reduceNeg, Int.reduceMul, Int.reduceToNat, Nat.reduceSub, Nat.reduceMul, Nat.reduceLeDiff, Nat.reduceAdd, Nat.reduceLT, Nat.reduceEqDiff, reduceCtorEq, ↓reduceIte]

theorem rdig_ok (a : List Nat) (h : Lim a) (hl : a.length ≤ 2 ^ 40) : AC Try.prog 144 [cl a] none [cd (dgD (nv a))] := by
  refine AC.by_walk (rs := [.tmp 2]) ords Try.func144 (by rfl) (by rfl) (by rfl) (by rfl) (by rfl) ?_
  simp (disch := omega) only [wk, tis, Int.reduceNe, Int.reduceEq, Int.reduceLT, Int.reduceLE, Int.reduceAdd, Int.reduceSub, Int.reduceNeg, Int.reduceMul, Int.reduceToNat, Nat.reduceSub, Nat.reduceMul, Nat.reduceLeDiff, Nat.reduceAdd, Nat.reduceLT, Nat.reduceEqDiff, reduceCtorEq, ↓reduceIte]
  refine call_by ((rdigits_ok a h hl)) (by rfl) (by simp) ?_
  simp (disch := omega) only [wk, tis, Int.reduceNe, Int.reduceEq, Int.reduceLT, Int.reduceLE, Int.reduceAdd, Int.reduceSub, Int.reduceNeg, Int.reduceMul, Int.reduceToNat, Nat.reduceSub, Nat.reduceMul, Nat.reduceLeDiff, Nat.reduceAdd, Nat.reduceLT, Nat.reduceEqDiff, reduceCtorEq, ↓reduceIte]
  have := rcut_ok (dd a) (by rw [dd_len]; omega)
  rw [dgD_dd h] at this
  refine call_by (this) (by rfl) (by simp) ?_
  simp (disch := omega) only [wk, tis, Int.reduceNe, Int.reduceEq, Int.reduceLT, Int.reduceLE, Int.reduceAdd, Int.reduceSub, Int.reduceNeg, Int.reduceMul, Int.reduceToNat, Nat.reduceSub, Nat.reduceMul, Nat.reduceLeDiff, Nat.reduceAdd, Nat.reduceLT, Nat.reduceEqDiff, reduceCtorEq, ↓reduceIte]

theorem rnorm_ok (a : List Nat) (h : Lim a) (hl : a.length ≤ 2 ^ 40) : AC Try.prog 112 [cl a] none [cl (wd (nv a))] := by
  refine AC.by_walk (rs := [.tmp 2]) ords Try.func112 (by rfl) (by rfl) (by rfl) (by rfl) (by rfl) ?_
  simp (disch := omega) only [wk, tis, Int.reduceNe, Int.reduceEq, Int.reduceLT, Int.reduceLE, Int.reduceAdd, Int.reduceSub, Int.reduceNeg, Int.reduceMul, Int.reduceToNat, Nat.reduceSub, Nat.reduceMul, Nat.reduceLeDiff, Nat.reduceAdd, Nat.reduceLT, Nat.reduceEqDiff, reduceCtorEq, ↓reduceIte]
  refine call_by ((rdig_ok a h hl)) (by rfl) (by simp) ?_
  simp (disch := omega) only [wk, tis, Int.reduceNe, Int.reduceEq, Int.reduceLT, Int.reduceLE, Int.reduceAdd, Int.reduceSub, Int.reduceNeg, Int.reduceMul, Int.reduceToNat, Nat.reduceSub, Nat.reduceMul, Nat.reduceLeDiff, Nat.reduceAdd, Nat.reduceLT, Nat.reduceEqDiff, reduceCtorEq, ↓reduceIte]
  have := rnumber_ok (dgD (nv a)) (dgD_dig _) (by have := dgD_len h; omega)
  rw [vl_dgD] at this
  refine call_by (this) (by rfl) (by simp) ?_
  simp (disch := omega) only [wk, tis, Int.reduceNe, Int.reduceEq, Int.reduceLT, Int.reduceLE, Int.reduceAdd, Int.reduceSub, Int.reduceNeg, Int.reduceMul, Int.reduceToNat, Nat.reduceSub, Nat.reduceMul, Nat.reduceLeDiff, Nat.reduceAdd, Nat.reduceLT, Nat.reduceEqDiff, reduceCtorEq, ↓reduceIte]

theorem rI_ok (s : Bool) (a : List Nat) (h : Lim a) (hl : a.length ≤ 2 ^ 40) : AC Try.prog 77 [cb s, cl a] none [cz (sg s (nv a))] := by
  refine AC.by_walk (rs := [.cell 4 40]) ords Try.func77 (by rfl) (by rfl) (by rfl) (by rfl) (by rfl) ?_
  simp (disch := omega) only [wk, tis, Int.reduceNe, Int.reduceEq, Int.reduceLT, Int.reduceLE, Int.reduceAdd, Int.reduceSub, Int.reduceNeg, Int.reduceMul, Int.reduceToNat, Nat.reduceSub, Nat.reduceMul, Nat.reduceLeDiff, Nat.reduceAdd, Nat.reduceLT, Nat.reduceEqDiff, reduceCtorEq, ↓reduceIte]
  refine call_by ((rnorm_ok a h hl)) (by rfl) (by simp) ?_
  simp (disch := omega) only [wk, tis, Int.reduceNe, Int.reduceEq, Int.reduceLT, Int.reduceLE, Int.reduceAdd, Int.reduceSub, Int.reduceNeg, Int.reduceMul, Int.reduceToNat, Nat.reduceSub, Nat.reduceMul, Nat.reduceLeDiff, Nat.reduceAdd, Nat.reduceLT, Nat.reduceEqDiff, reduceCtorEq, ↓reduceIte]
  have hz : (0 < ((wd (nv a)).length : Int)) ↔ nv a ≠ 0 := by have := wd_len_zero (n := nv a); omega
  cases s
  · simp (disch := omega) only [wk, tis, Int.reduceNe, Int.reduceEq, Int.reduceLT, Int.reduceLE, Int.reduceAdd, Int.reduceSub, Int.reduceNeg, Int.reduceMul, Int.reduceToNat, Nat.reduceSub, Nat.reduceMul, Nat.reduceLeDiff, Nat.reduceAdd, Nat.reduceLT, Nat.reduceEqDiff, reduceCtorEq, ↓reduceIte]
    rw [canon_sg]; rfl
  · simp (disch := omega) only [wk, tis, Int.reduceNe, Int.reduceEq, Int.reduceLT, Int.reduceLE, Int.reduceAdd, Int.reduceSub, Int.reduceNeg, Int.reduceMul, Int.reduceToNat, Nat.reduceSub, Nat.reduceMul, Nat.reduceLeDiff, Nat.reduceAdd, Nat.reduceLT, Nat.reduceEqDiff, reduceCtorEq, ↓reduceIte]
    rw [canon_sg]
    have h' : decide (0 < (wd (nv a)).length) = decide (nv a ≠ 0) := by rw [decide_eq_decide]; omega
    simp [prow, splice, h']

theorem rword_ok (n : Nat) (hn : n < 9223372036854775808) : AC Try.prog 126 [ci n] none [cl (wd n)] := by
  refine AC.by_walk (rs := [.tmp 2]) ords Try.func126 (by rfl) (by rfl) (by rfl) (by rfl) (by rfl) ?_
  simp (disch := omega) only [wk, tis, Int.reduceNe, Int.reduceEq, Int.reduceLT, Int.reduceLE, Int.reduceAdd, Int.reduceSub, Int.reduceNeg, Int.reduceMul, Int.reduceToNat, Nat.reduceSub, Nat.reduceMul, Nat.reduceLeDiff, Nat.reduceAdd, Nat.reduceLT, Nat.reduceEqDiff, reduceCtorEq, ↓reduceIte]
  have hd : Dig [n % 65536, n / 65536 % 65536, n / 65536 / 65536 % 65536, n / 65536 / 65536 / 65536] := by
    intro x hx
    simp only [List.mem_cons, List.not_mem_nil, or_false] at hx
    simp only [D16]
    omega
  have e : vl D16 [n % 65536, n / 65536 % 65536, n / 65536 / 65536 % 65536, n / 65536 / 65536 / 65536] = n := by
    simp only [vl, D16]; omega
  have := rnumber_ok _ hd (by simp)
  rw [e] at this
  refine call_by (this) (by rfl) (by simp) ?_
  simp (disch := omega) only [wk, tis, Int.reduceNe, Int.reduceEq, Int.reduceLT, Int.reduceLE, Int.reduceAdd, Int.reduceSub, Int.reduceNeg, Int.reduceMul, Int.reduceToNat, Nat.reduceSub, Nat.reduceMul, Nat.reduceLeDiff, Nat.reduceAdd, Nat.reduceLT, Nat.reduceEqDiff, reduceCtorEq, ↓reduceIte]

theorem rZ_ok (n : Int) (h : -9223372036854775808 < n) (h' : n < 9223372036854775808) : AC Try.prog 65 [ci n] none [cz n] := by
  refine AC.by_walk (rs := [.cell 2 40]) ords Try.func65 (by rfl) (by rfl) (by rfl) (by rfl) (by rfl) ?_
  have hl : (wd n.natAbs).length ≤ 1 := wd_len_le.mpr (by simp only [W]; omega)
  simp (disch := omega) only [wk, tis, Int.reduceNe, Int.reduceEq, Int.reduceLT, Int.reduceLE, Int.reduceAdd, Int.reduceSub, Int.reduceNeg, Int.reduceMul, Int.reduceToNat, Nat.reduceSub, Nat.reduceMul, Nat.reduceLeDiff, Nat.reduceAdd, Nat.reduceLT, Nat.reduceEqDiff, reduceCtorEq, ↓reduceIte]
  refine if_by (fun hn => ?_) (fun hn => ?_)
  · simp (disch := omega) only [wk, tis, Int.reduceNe, Int.reduceEq, Int.reduceLT, Int.reduceLE, Int.reduceAdd, Int.reduceSub, Int.reduceNeg, Int.reduceMul, Int.reduceToNat, Nat.reduceSub, Nat.reduceMul, Nat.reduceLeDiff, Nat.reduceAdd, Nat.reduceLT, Nat.reduceEqDiff, reduceCtorEq, ↓reduceIte]
    have e1 : (0 : Int) - n = (n.natAbs : Int) := by omega
    rw [e1]
    refine call_by ((rword_ok n.natAbs (by omega))) (by rfl) (by simp) ?_
    simp (disch := omega) only [wk, tis, Int.reduceNe, Int.reduceEq, Int.reduceLT, Int.reduceLE, Int.reduceAdd, Int.reduceSub, Int.reduceNeg, Int.reduceMul, Int.reduceToNat, Nat.reduceSub, Nat.reduceMul, Nat.reduceLeDiff, Nat.reduceAdd, Nat.reduceLT, Nat.reduceEqDiff, reduceCtorEq, ↓reduceIte]
    have e : sg true n.natAbs = n := by unfold sg; simp; omega
    have := rI_ok true (wd n.natAbs) (lim_wd _) (by omega)
    rw [nv_wd, e] at this
    refine call_by (this) (by rfl) (by simp) ?_
    simp (disch := omega) only [wk, tis, Int.reduceNe, Int.reduceEq, Int.reduceLT, Int.reduceLE, Int.reduceAdd, Int.reduceSub, Int.reduceNeg, Int.reduceMul, Int.reduceToNat, Nat.reduceSub, Nat.reduceMul, Nat.reduceLeDiff, Nat.reduceAdd, Nat.reduceLT, Nat.reduceEqDiff, reduceCtorEq, ↓reduceIte]
  · simp (disch := omega) only [wk, tis, Int.reduceNe, Int.reduceEq, Int.reduceLT, Int.reduceLE, Int.reduceAdd, Int.reduceSub, Int.reduceNeg, Int.reduceMul, Int.reduceToNat, Nat.reduceSub, Nat.reduceMul, Nat.reduceLeDiff, Nat.reduceAdd, Nat.reduceLT, Nat.reduceEqDiff, reduceCtorEq, ↓reduceIte]
    have e1 : n = (n.natAbs : Int) := by omega
    have c1 := rword_ok n.natAbs (by omega)
    rw [← e1] at c1
    refine call_by (c1) (by rfl) (by simp) ?_
    simp (disch := omega) only [wk, tis, Int.reduceNe, Int.reduceEq, Int.reduceLT, Int.reduceLE, Int.reduceAdd, Int.reduceSub, Int.reduceNeg, Int.reduceMul, Int.reduceToNat, Nat.reduceSub, Nat.reduceMul, Nat.reduceLeDiff, Nat.reduceAdd, Nat.reduceLT, Nat.reduceEqDiff, reduceCtorEq, ↓reduceIte]
    have e : sg false n.natAbs = n := by unfold sg; simp; omega
    have := rI_ok false (wd n.natAbs) (lim_wd _) (by omega)
    rw [nv_wd, e] at this
    refine call_by (this) (by rfl) (by simp) ?_
    simp (disch := omega) only [wk, tis, Int.reduceNe, Int.reduceEq, Int.reduceLT, Int.reduceLE, Int.reduceAdd, Int.reduceSub, Int.reduceNeg, Int.reduceMul, Int.reduceToNat, Nat.reduceSub, Nat.reduceMul, Nat.reduceLeDiff, Nat.reduceAdd, Nat.reduceLT, Nat.reduceEqDiff, reduceCtorEq, ↓reduceIte]

theorem rZero_ok (a : List Nat) (h : Lim a) (hl : a.length ≤ 2 ^ 40) : AC Try.prog 141 [cl a] none [cb (decide (nv a = 0))] := by
  refine AC.by_walk (rs := [.tmp 2]) ords Try.func141 (by rfl) (by rfl) (by rfl) (by rfl) (by rfl) ?_
  simp (disch := omega) only [wk, tis, Int.reduceNe, Int.reduceEq, Int.reduceLT, Int.reduceLE, Int.reduceAdd, Int.reduceSub, Int.reduceNeg, Int.reduceMul, Int.reduceToNat, Nat.reduceSub, Nat.reduceMul, Nat.reduceLeDiff, Nat.reduceAdd, Nat.reduceLT, Nat.reduceEqDiff, reduceCtorEq, ↓reduceIte]
  refine call_by ((rdig_ok a h hl)) (by rfl) (by simp) ?_
  simp (disch := omega) only [wk, tis, Int.reduceNe, Int.reduceEq, Int.reduceLT, Int.reduceLE, Int.reduceAdd, Int.reduceSub, Int.reduceNeg, Int.reduceMul, Int.reduceToNat, Nat.reduceSub, Nat.reduceMul, Nat.reduceLeDiff, Nat.reduceAdd, Nat.reduceLT, Nat.reduceEqDiff, reduceCtorEq, ↓reduceIte]
  have := dgD_len_zero (n := nv a)
  rw [decide_eq_decide]; omega

theorem rSign_ok (c : RI) (h : Sz (2 ^ 40) c) : AC Try.prog 104 [cr c] none [ci (iv c).sign] := by
  refine AC.by_walk (rs := [.tmp 2]) ords Try.func104 (by rfl) (by rfl) (by rfl) (by rfl) (by rfl) ?_
  simp (disch := omega) only [wk, tis, Int.reduceNe, Int.reduceEq, Int.reduceLT, Int.reduceLE, Int.reduceAdd, Int.reduceSub, Int.reduceNeg, Int.reduceMul, Int.reduceToNat, Nat.reduceSub, Nat.reduceMul, Nat.reduceLeDiff, Nat.reduceAdd, Nat.reduceLT, Nat.reduceEqDiff, reduceCtorEq, ↓reduceIte]
  refine call_by ((rZero_ok c.2 h.2 h.1)) (by rfl) (by simp) ?_
  simp (disch := omega) only [wk, tis, Int.reduceNe, Int.reduceEq, Int.reduceLT, Int.reduceLE, Int.reduceAdd, Int.reduceSub, Int.reduceNeg, Int.reduceMul, Int.reduceToNat, Nat.reduceSub, Nat.reduceMul, Nat.reduceLeDiff, Nat.reduceAdd, Nat.reduceLT, Nat.reduceEqDiff, reduceCtorEq, ↓reduceIte]
  refine if_by (fun hz => ?_) (fun hz => ?_)
  · simp (disch := omega) only [wk, tis, Int.reduceNe, Int.reduceEq, Int.reduceLT, Int.reduceLE, Int.reduceAdd, Int.reduceSub, Int.reduceNeg, Int.reduceMul, Int.reduceToNat, Nat.reduceSub, Nat.reduceMul, Nat.reduceLeDiff, Nat.reduceAdd, Nat.reduceLT, Nat.reduceEqDiff, reduceCtorEq, ↓reduceIte]
    unfold iv; rw [hz]; split <;> rfl
  · simp (disch := omega) only [wk, tis, Int.reduceNe, Int.reduceEq, Int.reduceLT, Int.reduceLE, Int.reduceAdd, Int.reduceSub, Int.reduceNeg, Int.reduceMul, Int.reduceToNat, Nat.reduceSub, Nat.reduceMul, Nat.reduceLeDiff, Nat.reduceAdd, Nat.reduceLT, Nat.reduceEqDiff, reduceCtorEq, ↓reduceIte]
    refine if_bool (fun hs => ?_) (fun hs => ?_)
    · simp (disch := omega) only [wk, tis, Int.reduceNe, Int.reduceEq, Int.reduceLT, Int.reduceLE, Int.reduceAdd, Int.reduceSub, Int.reduceNeg, Int.reduceMul, Int.reduceToNat, Nat.reduceSub, Nat.reduceMul, Nat.reduceLeDiff, Nat.reduceAdd, Nat.reduceLT, Nat.reduceEqDiff, reduceCtorEq, ↓reduceIte]
      unfold iv; rw [if_pos hs]; exact (Int.sign_eq_neg_one_of_neg (by omega)).symm
    · simp (disch := omega) only [wk, tis, Int.reduceNe, Int.reduceEq, Int.reduceLT, Int.reduceLE, Int.reduceAdd, Int.reduceSub, Int.reduceNeg, Int.reduceMul, Int.reduceToNat, Nat.reduceSub, Nat.reduceMul, Nat.reduceLeDiff, Nat.reduceAdd, Nat.reduceLT, Nat.reduceEqDiff, reduceCtorEq, ↓reduceIte]
      unfold iv; rw [hs]; exact (Int.sign_eq_one_of_pos (by simp; omega)).symm

theorem rsame_ok (a b : List Nat) (hla : a.length ≤ 2 ^ 43) (hlb : b.length ≤ 2 ^ 43) : AC Try.prog 108 [cl a, cl b] none [cb (decide (a = b))] := by
  refine AC.by_walk (rs := [.tmp 4]) ords Try.func108 (by rfl) (by rfl) (by rfl) (by rfl) (by rfl) ?_
  simp (disch := omega) only [wk, tis, Int.reduceNe, Int.reduceEq, Int.reduceLT, Int.reduceLE, Int.reduceAdd, Int.reduceSub, Int.reduceNeg, Int.reduceMul, Int.reduceToNat, Nat.reduceSub, Nat.reduceMul, Nat.reduceLeDiff, Nat.reduceAdd, Nat.reduceLT, Nat.reduceEqDiff, reduceCtorEq, ↓reduceIte]
  refine if_by (fun hz => ?_) (fun hz => ?_)
  · simp (disch := omega) only [wk, tis, Int.reduceNe, Int.reduceEq, Int.reduceLT, Int.reduceLE, Int.reduceAdd, Int.reduceSub, Int.reduceNeg, Int.reduceMul, Int.reduceToNat, Nat.reduceSub, Nat.reduceMul, Nat.reduceLeDiff, Nat.reduceAdd, Nat.reduceLT, Nat.reduceEqDiff, reduceCtorEq, ↓reduceIte]
    exact (decide_eq_false (fun e => hz (by rw [e]))).symm
  have hl : a.length = b.length := by omega
  simp (disch := omega) only [wk, tis, Int.reduceNe, Int.reduceEq, Int.reduceLT, Int.reduceLE, Int.reduceAdd, Int.reduceSub, Int.reduceNeg, Int.reduceMul, Int.reduceToNat, Nat.reduceSub, Nat.reduceMul, Nat.reduceLeDiff, Nat.reduceAdd, Nat.reduceLT, Nat.reduceEqDiff, reduceCtorEq, ↓reduceIte]
  refine aloop_by (fun f H => ∃ i : Nat, i ≤ a.length ∧ a.take i = b.take i ∧ f 0 = .iv (.sl (lims a)) ∧ f 1 = .iv (.sl (lims b)) ∧ f 5 = .iv (.int .i64 i)) (fun f H => (a.length - intAt f 5).toNat) ?_ ?_
  · exact ⟨0, by omega, rfl, by simp (disch := omega) only [wk, tis, Int.reduceNe, Int.reduceEq, Int.reduceLT, Int.reduceLE, Int.reduceAdd, Int.reduceSub, Int.reduceNeg, Int.reduceMul, Int.reduceToNat, Nat.reduceSub, Nat.reduceMul, Nat.reduceLeDiff, Nat.reduceAdd, Nat.reduceLT, Nat.reduceEqDiff, reduceCtorEq, ↓reduceIte], by simp (disch := omega) only [wk, tis, Int.reduceNe, Int.reduceEq, Int.reduceLT, Int.reduceLE, Int.reduceAdd, Int.reduceSub, Int.reduceNeg, Int.reduceMul, Int.reduceToNat, Nat.reduceSub, Nat.reduceMul, Nat.reduceLeDiff, Nat.reduceAdd, Nat.reduceLT, Nat.reduceEqDiff, reduceCtorEq, ↓reduceIte], by simp (disch := omega) only [wk, tis, Int.reduceNe, Int.reduceEq, Int.reduceLT, Int.reduceLE, Int.reduceAdd, Int.reduceSub, Int.reduceNeg, Int.reduceMul, Int.reduceToNat, Nat.reduceSub, Nat.reduceMul, Nat.reduceLeDiff, Nat.reduceAdd, Nat.reduceLT, Nat.reduceEqDiff, reduceCtorEq, ↓reduceIte]⟩
  rintro f H ⟨i, hi, he, h0, h1, h5⟩
  rw [intAt_of h5]
  simp (disch := omega) only [wk, tis, Int.reduceNe, Int.reduceEq, Int.reduceLT, Int.reduceLE, Int.reduceAdd, Int.reduceSub, Int.reduceNeg, Int.reduceMul, Int.reduceToNat, Nat.reduceSub, Nat.reduceMul, Nat.reduceLeDiff, Nat.reduceAdd, Nat.reduceLT, Nat.reduceEqDiff, reduceCtorEq, ↓reduceIte, h0, h1, h5]
  refine if_by (fun hlt => ?_) (fun hlt => ?_)
  · simp (disch := omega) only [wk, tis, Int.reduceNe, Int.reduceEq, Int.reduceLT, Int.reduceLE, Int.reduceAdd, Int.reduceSub, Int.reduceNeg, Int.reduceMul, Int.reduceToNat, Nat.reduceSub, Nat.reduceMul, Nat.reduceLeDiff, Nat.reduceAdd, Nat.reduceLT, Nat.reduceEqDiff, reduceCtorEq, ↓reduceIte, h0, h1, h5]
    refine ⟨tmps_by (by kernel_rfl), ?_⟩
    first | exact log_by (by kernel_rfl) | refine ⟨log_by (by kernel_rfl), ?_⟩
    refine if_by (fun hne => ?_) (fun hne => ?_)
    · simp (disch := omega) only [wk, tis, Int.reduceNe, Int.reduceEq, Int.reduceLT, Int.reduceLE, Int.reduceAdd, Int.reduceSub, Int.reduceNeg, Int.reduceMul, Int.reduceToNat, Nat.reduceSub, Nat.reduceMul, Nat.reduceLeDiff, Nat.reduceAdd, Nat.reduceLT, Nat.reduceEqDiff, reduceCtorEq, ↓reduceIte, h0, h1, h5]
      exact (decide_eq_false (fun e => hne (by rw [e]))).symm
    · simp (disch := omega) only [wk, tis, Int.reduceNe, Int.reduceEq, Int.reduceLT, Int.reduceLE, Int.reduceAdd, Int.reduceSub, Int.reduceNeg, Int.reduceMul, Int.reduceToNat, Nat.reduceSub, Nat.reduceMul, Nat.reduceLeDiff, Nat.reduceAdd, Nat.reduceLT, Nat.reduceEqDiff, reduceCtorEq, ↓reduceIte, h0, h1, h5]
      refine ⟨⟨i + 1, by omega, ?_, by omega⟩, by omega⟩
      have h1 : a.getD i 0 = b.getD i 0 := by omega
      have hia : i < a.length := by omega
      have hib : i < b.length := by omega
      rw [List.take_add_one, List.take_add_one, he, List.getElem?_eq_getElem hia, List.getElem?_eq_getElem hib]
      have e1 : a.getD i 0 = a[i] := by simp [List.getD, hia]
      have e2 : b.getD i 0 = b[i] := by simp [List.getD, hib]
      rw [← e1, ← e2, h1]
  · simp (disch := omega) only [wk, tis, Int.reduceNe, Int.reduceEq, Int.reduceLT, Int.reduceLE, Int.reduceAdd, Int.reduceSub, Int.reduceNeg, Int.reduceMul, Int.reduceToNat, Nat.reduceSub, Nat.reduceMul, Nat.reduceLeDiff, Nat.reduceAdd, Nat.reduceLT, Nat.reduceEqDiff, reduceCtorEq, ↓reduceIte, h0, h1, h5]
    rw [List.take_of_length_le (by omega), List.take_of_length_le (by omega)] at he
    exact (decide_eq_true he).symm

theorem rSame_ok (a b : List Nat) (hla : a.length ≤ 2 ^ 43) (hlb : b.length ≤ 2 ^ 43) : AC Try.prog 49 [cl a, cl b] none [cb (decide (a = b))] := by
  refine AC.by_walk (rs := [.tmp 4]) ords Try.func49 (by rfl) (by rfl) (by rfl) (by rfl) (by rfl) ?_
  simp (disch := omega) only [wk, tis, Int.reduceNe, Int.reduceEq, Int.reduceLT, Int.reduceLE, Int.reduceAdd, Int.reduceSub, Int.reduceNeg, Int.reduceMul, Int.reduceToNat, Nat.reduceSub, Nat.reduceMul, Nat.reduceLeDiff, Nat.reduceAdd, Nat.reduceLT, Nat.reduceEqDiff, reduceCtorEq, ↓reduceIte]
  refine call_by ((rsame_ok a b hla hlb)) (by rfl) (by simp) ?_
  simp (disch := omega) only [wk, tis, Int.reduceNe, Int.reduceEq, Int.reduceLT, Int.reduceLE, Int.reduceAdd, Int.reduceSub, Int.reduceNeg, Int.reduceMul, Int.reduceToNat, Nat.reduceSub, Nat.reduceMul, Nat.reduceLeDiff, Nat.reduceAdd, Nat.reduceLT, Nat.reduceEqDiff, reduceCtorEq, ↓reduceIte]

theorem rSameInt_ok (a b : RI) (hla : a.2.length ≤ 2 ^ 43) (hlb : b.2.length ≤ 2 ^ 43) : AC Try.prog 42 [cr a, cr b] none [cb (decide (a = b))] := by
  refine AC.by_walk (rs := [.tmp 4]) ords Try.func42 (by rfl) (by rfl) (by rfl) (by rfl) (by rfl) ?_
  cases hb : (a.1 == b.1)
  · simp (disch := omega) only [wk, tis, Int.reduceNe, Int.reduceEq, Int.reduceLT, Int.reduceLE, Int.reduceAdd, Int.reduceSub, Int.reduceNeg, Int.reduceMul, Int.reduceToNat, Nat.reduceSub, Nat.reduceMul, Nat.reduceLeDiff, Nat.reduceAdd, Nat.reduceLT, Nat.reduceEqDiff, reduceCtorEq, ↓reduceIte, hb]
    exact (decide_eq_false (fun e => by rw [e] at hb; simp at hb)).symm
  · simp (disch := omega) only [wk, tis, Int.reduceNe, Int.reduceEq, Int.reduceLT, Int.reduceLE, Int.reduceAdd, Int.reduceSub, Int.reduceNeg, Int.reduceMul, Int.reduceToNat, Nat.reduceSub, Nat.reduceMul, Nat.reduceLeDiff, Nat.reduceAdd, Nat.reduceLT, Nat.reduceEqDiff, reduceCtorEq, ↓reduceIte, hb]
    refine call_by ((rSame_ok a.2 b.2 hla hlb)) (by first | rfl | (simp only [tocvs, tocv, hb]; rfl) | (simp only [tocvs, tocv, toboxes, tobox, updH_at, Nat.reduceEqDiff, ↓reduceIte, hb]; rfl)) (by simp) ?_
    simp (disch := omega) only [wk, tis, Int.reduceNe, Int.reduceEq, Int.reduceLT, Int.reduceLE, Int.reduceAdd, Int.reduceSub, Int.reduceNeg, Int.reduceMul, Int.reduceToNat, Nat.reduceSub, Nat.reduceMul, Nat.reduceLeDiff, Nat.reduceAdd, Nat.reduceLT, Nat.reduceEqDiff, reduceCtorEq, ↓reduceIte, hb]
    have hb : a.1 = b.1 := by simpa using hb
    rw [decide_eq_decide]
    exact ⟨fun h => Prod.ext hb h, fun h => by rw [h]⟩

end Go.Proofs.Ythgecppfgdadiaa

namespace Go.Proofs.Ythgecppfgdadiaa
open Go Go.Proofs Go.AL
set_option linter.unusedSimpArgs false
set_option linter.unusedVariables false

/-- Several polynomials. -/

theorem sZ_ok (n : Int) (h : -9223372036854775808 < n) (h' : n < 9223372036854775808) : AC Try.prog 98 [ci n] none [cz n] := by
  refine AC.by_walk (rs := [.cell 2 40]) ords Try.func98 (by rfl) (by rfl) (by rfl) (by rfl) (by rfl) ?_
  simp (disch := omega) only [wk, tis, Int.reduceNe, Int.reduceEq, Int.reduceLT, Int.reduceLE, Int.reduceAdd, Int.reduceSub, Int.reduceNeg, Int.reduceMul, Int.reduceToNat, Nat.reduceSub, Nat.reduceMul, Nat.reduceLeDiff, Nat.reduceAdd, Nat.reduceLT, Nat.reduceEqDiff, reduceCtorEq, ↓reduceIte]
  refine call_by ((rZ_ok n h h')) (by rfl) (by simp) ?_
  simp (disch := omega) only [wk, tis, Int.reduceNe, Int.reduceEq, Int.reduceLT, Int.reduceLE, Int.reduceAdd, Int.reduceSub, Int.reduceNeg, Int.reduceMul, Int.reduceToNat, Nat.reduceSub, Nat.reduceMul, Nat.reduceLeDiff, Nat.reduceAdd, Nat.reduceLT, Nat.reduceEqDiff, reduceCtorEq, ↓reduceIte]

theorem sown_ok (c : RI) (h : Sz (2 ^ 40) c) : AC Try.prog 105 [cr c] none [cz (iv c)] := by
  refine AC.by_walk (rs := [.cell 2 40]) ords Try.func105 (by rfl) (by rfl) (by rfl) (by rfl) (by rfl) ?_
  simp (disch := omega) only [wk, tis, Int.reduceNe, Int.reduceEq, Int.reduceLT, Int.reduceLE, Int.reduceAdd, Int.reduceSub, Int.reduceNeg, Int.reduceMul, Int.reduceToNat, Nat.reduceSub, Nat.reduceMul, Nat.reduceLeDiff, Nat.reduceAdd, Nat.reduceLT, Nat.reduceEqDiff, reduceCtorEq, ↓reduceIte]
  refine call_by ((rI_ok c.1 c.2 h.2 h.1)) (by rfl) (by simp) ?_
  simp (disch := omega) only [wk, tis, Int.reduceNe, Int.reduceEq, Int.reduceLT, Int.reduceLE, Int.reduceAdd, Int.reduceSub, Int.reduceNeg, Int.reduceMul, Int.reduceToNat, Nat.reduceSub, Nat.reduceMul, Nat.reduceLeDiff, Nat.reduceAdd, Nat.reduceLT, Nat.reduceEqDiff, reduceCtorEq, ↓reduceIte]
  rfl

theorem snorm_ok (p : List RI) (h : RP (2 ^ 40) (2 ^ 40) p) : AC Try.prog 38 [cw p] none [cp (pv p)] := by
  refine AC.by_walk (rs := [.tmp 2]) ords Try.func38 (by rfl) (by rfl) (by rfl) (by rfl) (by rfl) ?_
  have hl := h.1
  have htl := tz_le (pv p)
  rw [pv_len] at htl
  simp (disch := omega) only [wk, tis, Int.reduceNe, Int.reduceEq, Int.reduceLT, Int.reduceLE, Int.reduceAdd, Int.reduceSub, Int.reduceNeg, Int.reduceMul, Int.reduceToNat, Nat.reduceSub, Nat.reduceMul, Nat.reduceLeDiff, Nat.reduceAdd, Nat.reduceLT, Nat.reduceEqDiff, reduceCtorEq, ↓reduceIte]
  refine aloop_by (fun f H => ∃ k : Nat, k ≤ p.length ∧ f 0 = .iv (.sl (raws p)) ∧ f 3 = .iv (.int .i64 k) ∧ tz ((pv p).take k) = tz (pv p)) (fun f H => (intAt f 3).toNat) ?_ ?_
  · exact ⟨p.length, Nat.le_refl _, by simp (disch := omega) only [wk, tis, Int.reduceNe, Int.reduceEq, Int.reduceLT, Int.reduceLE, Int.reduceAdd, Int.reduceSub, Int.reduceNeg, Int.reduceMul, Int.reduceToNat, Nat.reduceSub, Nat.reduceMul, Nat.reduceLeDiff, Nat.reduceAdd, Nat.reduceLT, Nat.reduceEqDiff, reduceCtorEq, ↓reduceIte], by simp (disch := omega) only [wk, tis, Int.reduceNe, Int.reduceEq, Int.reduceLT, Int.reduceLE, Int.reduceAdd, Int.reduceSub, Int.reduceNeg, Int.reduceMul, Int.reduceToNat, Nat.reduceSub, Nat.reduceMul, Nat.reduceLeDiff, Nat.reduceAdd, Nat.reduceLT, Nat.reduceEqDiff, reduceCtorEq, ↓reduceIte], by rw [← pv_len p, List.take_length]⟩
  rintro f H ⟨k, hk, h0, h3, ht⟩
  rw [intAt_of h3]
  by_cases hc : 0 < (k : Int)
  · simp (disch := omega) only [wk, tis, Int.reduceNe, Int.reduceEq, Int.reduceLT, Int.reduceLE, Int.reduceAdd, Int.reduceSub, Int.reduceNeg, Int.reduceMul, Int.reduceToNat, Nat.reduceSub, Nat.reduceMul, Nat.reduceLeDiff, Nat.reduceAdd, Nat.reduceLT, Nat.reduceEqDiff, reduceCtorEq, ↓reduceIte, h0, h3, hc]
    have ek : ((k : Int) - 1).toNat = k - 1 := by omega
    have ek' : k = (k - 1) + 1 := by omega
    rw [ek]
    refine call_by ((rSign_ok (p.getD (k - 1) (false, [])) (h.get _))) (by first | rfl | (simp only [tocvs, tocv, h0, h3, hc]; rfl) | (simp only [tocvs, tocv, toboxes, tobox, updH_at, Nat.reduceEqDiff, ↓reduceIte, h0, h3, hc]; rfl)) (by simp) ?_
    simp (disch := omega) only [wk, tis, Int.reduceNe, Int.reduceEq, Int.reduceLT, Int.reduceLE, Int.reduceAdd, Int.reduceSub, Int.reduceNeg, Int.reduceMul, Int.reduceToNat, Nat.reduceSub, Nat.reduceMul, Nat.reduceLeDiff, Nat.reduceAdd, Nat.reduceLT, Nat.reduceEqDiff, reduceCtorEq, ↓reduceIte, h0, h3, hc]
    rw [← cf_pv]
    refine if_by (fun hz => ?_) (fun hz => ?_)
    · simp (disch := omega) only [wk, tis, Int.reduceNe, Int.reduceEq, Int.reduceLT, Int.reduceLE, Int.reduceAdd, Int.reduceSub, Int.reduceNeg, Int.reduceMul, Int.reduceToNat, Nat.reduceSub, Nat.reduceMul, Nat.reduceLeDiff, Nat.reduceAdd, Nat.reduceLT, Nat.reduceEqDiff, reduceCtorEq, ↓reduceIte, h0, h3]
      refine ⟨⟨k - 1, by omega, by omega, ?_⟩, by omega⟩
      rw [← tz_take_zero (k := k - 1) (by rw [pv_len]; omega) (Int.sign_eq_zero_iff_zero.mp hz), ← ek', ht]
    · have hk : k = tz (pv p) := by
        have := tz_full (q := pv p) (k := k - 1) (by rw [pv_len]; omega) (fun e => hz (Int.sign_eq_zero_iff_zero.mpr e))
        rw [← ek', ht] at this; exact this.symm
      simp (disch := omega) only [wk, tis, Int.reduceNe, Int.reduceEq, Int.reduceLT, Int.reduceLE, Int.reduceAdd, Int.reduceSub, Int.reduceNeg, Int.reduceMul, Int.reduceToNat, Nat.reduceSub, Nat.reduceMul, Nat.reduceLeDiff, Nat.reduceAdd, Nat.reduceLT, Nat.reduceEqDiff, reduceCtorEq, ↓reduceIte, h0, h3]
      refine aloop_nil 4 4 40 2 (by simp (disch := omega) only [wk, tis, Int.reduceNe, Int.reduceEq, Int.reduceLT, Int.reduceLE, Int.reduceAdd, Int.reduceSub, Int.reduceNeg, Int.reduceMul, Int.reduceToNat, Nat.reduceSub, Nat.reduceMul, Nat.reduceLeDiff, Nat.reduceAdd, Nat.reduceLT, Nat.reduceEqDiff, reduceCtorEq, ↓reduceIte]) (fun f H => ∃ (k st : Nat), k ≤ tz (pv p) ∧ f 0 = .iv (.sl (raws p)) ∧ f 3 = .iv (.int .i64 (tz (pv p))) ∧ f 4 = .hs 4 st ∧ f 5 = .iv (.int .i64 k) ∧ H 4 = .blk false st 40 2 (raws (((trimz (pv p)).take k).map canon))) (fun f H => (tz (pv p) - intAt f 5).toNat) ?_ ?_
      · refine ⟨0, (H 4).stamp + 1, by omega, ?_⟩
        simp (disch := omega) only [wk, tis, Int.reduceNe, Int.reduceEq, Int.reduceLT, Int.reduceLE, Int.reduceAdd, Int.reduceSub, Int.reduceNeg, Int.reduceMul, Int.reduceToNat, Nat.reduceSub, Nat.reduceMul, Nat.reduceLeDiff, Nat.reduceAdd, Nat.reduceLT, Nat.reduceEqDiff, reduceCtorEq, ↓reduceIte, ghostF, ghostH, List.take_zero, h0, h3, hk]
      clear h0 h3 hk
      clear f H
      rintro f H ⟨k, st, hk, h0, h3, h4, h5, hH⟩
      rw [intAt_of h5]
      simp (disch := omega) only [wk, tis, Int.reduceNe, Int.reduceEq, Int.reduceLT, Int.reduceLE, Int.reduceAdd, Int.reduceSub, Int.reduceNeg, Int.reduceMul, Int.reduceToNat, Nat.reduceSub, Nat.reduceMul, Nat.reduceLeDiff, Nat.reduceAdd, Nat.reduceLT, Nat.reduceEqDiff, reduceCtorEq, ↓reduceIte, h0, h3, h4, h5, hH]
      refine if_by (fun hlt => ?_) (fun hlt => ?_)
      · simp (disch := omega) only [wk, tis, Int.reduceNe, Int.reduceEq, Int.reduceLT, Int.reduceLE, Int.reduceAdd, Int.reduceSub, Int.reduceNeg, Int.reduceMul, Int.reduceToNat, Nat.reduceSub, Nat.reduceMul, Nat.reduceLeDiff, Nat.reduceAdd, Nat.reduceLT, Nat.reduceEqDiff, reduceCtorEq, ↓reduceIte, h0, h3, h4, h5, hH]
        have hq : (((trimz (pv p)).take k).map canon).length = k := by rw [List.length_map, List.length_take, trimz_len]; omega
        refine call_by ((sown_ok (p.getD k (false, [])) (h.get _))) (by first | rfl | (simp only [tocvs, tocv, h0, h3, h4, h5, hH, hq]; rfl) | (simp only [tocvs, tocv, toboxes, tobox, updH_at, Nat.reduceEqDiff, ↓reduceIte, h0, h3, h4, h5, hH, hq]; rfl)) (by simp) ?_
        simp (disch := omega) only [wk, tis, Int.reduceNe, Int.reduceEq, Int.reduceLT, Int.reduceLE, Int.reduceAdd, Int.reduceSub, Int.reduceNeg, Int.reduceMul, Int.reduceToNat, Nat.reduceSub, Nat.reduceMul, Nat.reduceLeDiff, Nat.reduceAdd, Nat.reduceLT, Nat.reduceEqDiff, reduceCtorEq, ↓reduceIte, h0, h3, h4, h5, hH, hq]
        refine ⟨⟨k + 1, st + 1, by omega, rfl, by omega, ?_⟩, by omega⟩
        rw [trimz_take_succ (by omega), cf_pv]
      · simp (disch := omega) only [wk, tis, Int.reduceNe, Int.reduceEq, Int.reduceLT, Int.reduceLE, Int.reduceAdd, Int.reduceSub, Int.reduceNeg, Int.reduceMul, Int.reduceToNat, Nat.reduceSub, Nat.reduceMul, Nat.reduceLeDiff, Nat.reduceAdd, Nat.reduceLT, Nat.reduceEqDiff, reduceCtorEq, ↓reduceIte, h0, h3, h4, h5, hH]
        have hk : k = tz (pv p) := by omega
        rw [hk, List.take_of_length_le (by rw [trimz_len]; exact Nat.le_refl _)]
        rfl
  · have hk : k = tz (pv p) := by
      obtain rfl : k = 0 := by omega
      rw [← ht]; rfl
    simp (disch := omega) only [wk, tis, Int.reduceNe, Int.reduceEq, Int.reduceLT, Int.reduceLE, Int.reduceAdd, Int.reduceSub, Int.reduceNeg, Int.reduceMul, Int.reduceToNat, Nat.reduceSub, Nat.reduceMul, Nat.reduceLeDiff, Nat.reduceAdd, Nat.reduceLT, Nat.reduceEqDiff, reduceCtorEq, ↓reduceIte, h0, h3, hc]
    refine aloop_nil 4 4 40 2 (by simp (disch := omega) only [wk, tis, Int.reduceNe, Int.reduceEq, Int.reduceLT, Int.reduceLE, Int.reduceAdd, Int.reduceSub, Int.reduceNeg, Int.reduceMul, Int.reduceToNat, Nat.reduceSub, Nat.reduceMul, Nat.reduceLeDiff, Nat.reduceAdd, Nat.reduceLT, Nat.reduceEqDiff, reduceCtorEq, ↓reduceIte]) (fun f H => ∃ (k st : Nat), k ≤ tz (pv p) ∧ f 0 = .iv (.sl (raws p)) ∧ f 3 = .iv (.int .i64 (tz (pv p))) ∧ f 4 = .hs 4 st ∧ f 5 = .iv (.int .i64 k) ∧ H 4 = .blk false st 40 2 (raws (((trimz (pv p)).take k).map canon))) (fun f H => (tz (pv p) - intAt f 5).toNat) ?_ ?_
    · refine ⟨0, (H 4).stamp + 1, by omega, ?_⟩
      simp (disch := omega) only [wk, tis, Int.reduceNe, Int.reduceEq, Int.reduceLT, Int.reduceLE, Int.reduceAdd, Int.reduceSub, Int.reduceNeg, Int.reduceMul, Int.reduceToNat, Nat.reduceSub, Nat.reduceMul, Nat.reduceLeDiff, Nat.reduceAdd, Nat.reduceLT, Nat.reduceEqDiff, reduceCtorEq, ↓reduceIte, ghostF, ghostH, List.take_zero, h0, h3, hk]
    clear h0 h3 hk
    clear f H
    rintro f H ⟨k, st, hk, h0, h3, h4, h5, hH⟩
    rw [intAt_of h5]
    simp (disch := omega) only [wk, tis, Int.reduceNe, Int.reduceEq, Int.reduceLT, Int.reduceLE, Int.reduceAdd, Int.reduceSub, Int.reduceNeg, Int.reduceMul, Int.reduceToNat, Nat.reduceSub, Nat.reduceMul, Nat.reduceLeDiff, Nat.reduceAdd, Nat.reduceLT, Nat.reduceEqDiff, reduceCtorEq, ↓reduceIte, h0, h3, h4, h5, hH]
    refine if_by (fun hlt => ?_) (fun hlt => ?_)
    · simp (disch := omega) only [wk, tis, Int.reduceNe, Int.reduceEq, Int.reduceLT, Int.reduceLE, Int.reduceAdd, Int.reduceSub, Int.reduceNeg, Int.reduceMul, Int.reduceToNat, Nat.reduceSub, Nat.reduceMul, Nat.reduceLeDiff, Nat.reduceAdd, Nat.reduceLT, Nat.reduceEqDiff, reduceCtorEq, ↓reduceIte, h0, h3, h4, h5, hH]
      have hq : (((trimz (pv p)).take k).map canon).length = k := by rw [List.length_map, List.length_take, trimz_len]; omega
      refine call_by ((sown_ok (p.getD k (false, [])) (h.get _))) (by first | rfl | (simp only [tocvs, tocv, h0, h3, h4, h5, hH, hq]; rfl) | (simp only [tocvs, tocv, toboxes, tobox, updH_at, Nat.reduceEqDiff, ↓reduceIte, h0, h3, h4, h5, hH, hq]; rfl)) (by simp) ?_
      simp (disch := omega) only [wk, tis, Int.reduceNe, Int.reduceEq, Int.reduceLT, Int.reduceLE, Int.reduceAdd, Int.reduceSub, Int.reduceNeg, Int.reduceMul, Int.reduceToNat, Nat.reduceSub, Nat.reduceMul, Nat.reduceLeDiff, Nat.reduceAdd, Nat.reduceLT, Nat.reduceEqDiff, reduceCtorEq, ↓reduceIte, h0, h3, h4, h5, hH, hq]
      refine ⟨⟨k + 1, st + 1, by omega, rfl, by omega, ?_⟩, by omega⟩
      rw [trimz_take_succ (by omega), cf_pv]
    · simp (disch := omega) only [wk, tis, Int.reduceNe, Int.reduceEq, Int.reduceLT, Int.reduceLE, Int.reduceAdd, Int.reduceSub, Int.reduceNeg, Int.reduceMul, Int.reduceToNat, Nat.reduceSub, Nat.reduceMul, Nat.reduceLeDiff, Nat.reduceAdd, Nat.reduceLT, Nat.reduceEqDiff, reduceCtorEq, ↓reduceIte, h0, h3, h4, h5, hH]
      have hk : k = tz (pv p) := by omega
      rw [hk, List.take_of_length_le (by rw [trimz_len]; exact Nat.le_refl _)]
      rfl

/-- Plain numbers, as they are handed. -/
abbrev cis (l : List Int) : CV := .iv (.sl (ilims l))

theorem sof_ok (l : List Int) (hl : l.length ≤ 2 ^ 30) (h : ∀ z ∈ l, -9223372036854775808 < z ∧ z < 9223372036854775808) : AC Try.prog 21 [cis l] none [cp l] := by
  refine AC.by_walk (rs := [.tmp 2]) ords Try.func21 (by rfl) (by rfl) (by rfl) (by rfl) (by rfl) ?_
  simp (disch := omega) only [wk, tis, Int.reduceNe, Int.reduceEq, Int.reduceLT, Int.reduceLE, Int.reduceAdd, Int.reduceSub, Int.reduceNeg, Int.reduceMul, Int.reduceToNat, Nat.reduceSub, Nat.reduceMul, Nat.reduceLeDiff, Nat.reduceAdd, Nat.reduceLT, Nat.reduceEqDiff, reduceCtorEq, ↓reduceIte]
  refine aloop_nil 3 3 40 2 (by simp (disch := omega) only [wk, tis, Int.reduceNe, Int.reduceEq, Int.reduceLT, Int.reduceLE, Int.reduceAdd, Int.reduceSub, Int.reduceNeg, Int.reduceMul, Int.reduceToNat, Nat.reduceSub, Nat.reduceMul, Nat.reduceLeDiff, Nat.reduceAdd, Nat.reduceLT, Nat.reduceEqDiff, reduceCtorEq, ↓reduceIte]) (fun f H => ∃ (k st : Nat), k ≤ l.length ∧ f 0 = .iv (.sl (ilims l)) ∧ f 3 = .hs 3 st ∧ f 4 = .iv (.int .i64 k) ∧ H 3 = .blk false st 40 2 (raws ((l.take k).map canon))) (fun f H => (l.length - intAt f 4).toNat) ?_ ?_
  · refine ⟨0, 1, by omega, ?_⟩
    simp (disch := omega) only [wk, tis, Int.reduceNe, Int.reduceEq, Int.reduceLT, Int.reduceLE, Int.reduceAdd, Int.reduceSub, Int.reduceNeg, Int.reduceMul, Int.reduceToNat, Nat.reduceSub, Nat.reduceMul, Nat.reduceLeDiff, Nat.reduceAdd, Nat.reduceLT, Nat.reduceEqDiff, reduceCtorEq, ↓reduceIte, ghostF, ghostH, List.take_zero]
  rintro f H ⟨k, st, hk, h0, h3, h4, hH⟩
  rw [intAt_of h4]
  simp (disch := omega) only [wk, tis, Int.reduceNe, Int.reduceEq, Int.reduceLT, Int.reduceLE, Int.reduceAdd, Int.reduceSub, Int.reduceNeg, Int.reduceMul, Int.reduceToNat, Nat.reduceSub, Nat.reduceMul, Nat.reduceLeDiff, Nat.reduceAdd, Nat.reduceLT, Nat.reduceEqDiff, reduceCtorEq, ↓reduceIte, h0, h3, h4, hH]
  refine if_by (fun hlt => ?_) (fun hlt => ?_)
  · have hq : ((l.take k).map canon).length = k := by rw [List.length_map, List.length_take]; omega
    have hkl : k < l.length := by omega
    have hg : l.getD k 0 = l[k] := by simp [List.getD, hkl]
    have hb := h l[k] (List.getElem_mem hkl)
    simp (disch := omega) only [wk, tis, Int.reduceNe, Int.reduceEq, Int.reduceLT, Int.reduceLE, Int.reduceAdd, Int.reduceSub, Int.reduceNeg, Int.reduceMul, Int.reduceToNat, Nat.reduceSub, Nat.reduceMul, Nat.reduceLeDiff, Nat.reduceAdd, Nat.reduceLT, Nat.reduceEqDiff, reduceCtorEq, ↓reduceIte, h0, h3, h4, hH, hq]
    rw [hg]
    refine call_by ((sZ_ok l[k] hb.1 hb.2)) (by first | rfl | (simp only [tocvs, tocv, h0, h3, h4, hH, hq]; rfl) | (simp only [tocvs, tocv, toboxes, tobox, updH_at, Nat.reduceEqDiff, ↓reduceIte, h0, h3, h4, hH, hq]; rfl)) (by simp) ?_
    simp (disch := omega) only [wk, tis, Int.reduceNe, Int.reduceEq, Int.reduceLT, Int.reduceLE, Int.reduceAdd, Int.reduceSub, Int.reduceNeg, Int.reduceMul, Int.reduceToNat, Nat.reduceSub, Nat.reduceMul, Nat.reduceLeDiff, Nat.reduceAdd, Nat.reduceLT, Nat.reduceEqDiff, reduceCtorEq, ↓reduceIte, h0, h3, h4, hH, hq]
    refine ⟨⟨k + 1, st + 1, by omega, rfl, by omega, ?_⟩, by omega⟩
    rw [List.take_add_one]
    simp [hkl]
  · simp (disch := omega) only [wk, tis, Int.reduceNe, Int.reduceEq, Int.reduceLT, Int.reduceLE, Int.reduceAdd, Int.reduceSub, Int.reduceNeg, Int.reduceMul, Int.reduceToNat, Nat.reduceSub, Nat.reduceMul, Nat.reduceLeDiff, Nat.reduceAdd, Nat.reduceLT, Nat.reduceEqDiff, reduceCtorEq, ↓reduceIte, h0, h3, h4, hH]
    have hk : k = l.length := by omega
    have hz : ∀ z : Int, -9223372036854775808 < z → z < 9223372036854775808 → zl z ≤ 1 := fun z h1 h2 => zl_le.mpr (by simp only [W]; omega)
    have := snorm_ok (l.map canon) (RP.canon ⟨by omega, fun z hz' => Nat.le_trans (hz z (h z hz').1 (h z hz').2) (by omega)⟩)
    rw [pv_canon] at this
    rw [hk, List.take_length] at hH
    refine call_by (this) (by first | rfl | (simp only [tocvs, tocv, h0, h3, h4, hH]; rfl) | (simp only [tocvs, tocv, toboxes, tobox, updH_at, Nat.reduceEqDiff, ↓reduceIte, h0, h3, h4, hH]; rfl)) (by simp) ?_
    simp (disch := omega) only [wk, tis, Int.reduceNe, Int.reduceEq, Int.reduceLT, Int.reduceLE, Int.reduceAdd, Int.reduceSub, Int.reduceNeg, Int.reduceMul, Int.reduceToNat, Nat.reduceSub, Nat.reduceMul, Nat.reduceLeDiff, Nat.reduceAdd, Nat.reduceLT, Nat.reduceEqDiff, reduceCtorEq, ↓reduceIte, h0, h3, h4, hH]

theorem sform_ok (a b : List RI) (ha : RP (2 ^ 40) (2 ^ 43) a) (hb : RP (2 ^ 40) (2 ^ 43) b) : AC Try.prog 93 [cw a, cw b] none [cb (decide (a = b))] := by
  refine AC.by_walk (rs := [.tmp 4]) ords Try.func93 (by rfl) (by rfl) (by rfl) (by rfl) (by rfl) ?_
  have hla := ha.1
  have hlb := hb.1
  simp (disch := omega) only [wk, tis, Int.reduceNe, Int.reduceEq, Int.reduceLT, Int.reduceLE, Int.reduceAdd, Int.reduceSub, Int.reduceNeg, Int.reduceMul, Int.reduceToNat, Nat.reduceSub, Nat.reduceMul, Nat.reduceLeDiff, Nat.reduceAdd, Nat.reduceLT, Nat.reduceEqDiff, reduceCtorEq, ↓reduceIte]
  refine if_by (fun hz => ?_) (fun hz => ?_)
  · simp (disch := omega) only [wk, tis, Int.reduceNe, Int.reduceEq, Int.reduceLT, Int.reduceLE, Int.reduceAdd, Int.reduceSub, Int.reduceNeg, Int.reduceMul, Int.reduceToNat, Nat.reduceSub, Nat.reduceMul, Nat.reduceLeDiff, Nat.reduceAdd, Nat.reduceLT, Nat.reduceEqDiff, reduceCtorEq, ↓reduceIte]
    exact (decide_eq_false (fun e => hz (by rw [e]))).symm
  have hl : a.length = b.length := by omega
  simp (disch := omega) only [wk, tis, Int.reduceNe, Int.reduceEq, Int.reduceLT, Int.reduceLE, Int.reduceAdd, Int.reduceSub, Int.reduceNeg, Int.reduceMul, Int.reduceToNat, Nat.reduceSub, Nat.reduceMul, Nat.reduceLeDiff, Nat.reduceAdd, Nat.reduceLT, Nat.reduceEqDiff, reduceCtorEq, ↓reduceIte]
  refine aloop_by (fun f H => ∃ i : Nat, i ≤ a.length ∧ a.take i = b.take i ∧ f 0 = .iv (.sl (raws a)) ∧ f 1 = .iv (.sl (raws b)) ∧ f 5 = .iv (.int .i64 i)) (fun f H => (a.length - intAt f 5).toNat) ?_ ?_
  · exact ⟨0, by omega, rfl, by simp (disch := omega) only [wk, tis, Int.reduceNe, Int.reduceEq, Int.reduceLT, Int.reduceLE, Int.reduceAdd, Int.reduceSub, Int.reduceNeg, Int.reduceMul, Int.reduceToNat, Nat.reduceSub, Nat.reduceMul, Nat.reduceLeDiff, Nat.reduceAdd, Nat.reduceLT, Nat.reduceEqDiff, reduceCtorEq, ↓reduceIte], by simp (disch := omega) only [wk, tis, Int.reduceNe, Int.reduceEq, Int.reduceLT, Int.reduceLE, Int.reduceAdd, Int.reduceSub, Int.reduceNeg, Int.reduceMul, Int.reduceToNat, Nat.reduceSub, Nat.reduceMul, Nat.reduceLeDiff, Nat.reduceAdd, Nat.reduceLT, Nat.reduceEqDiff, reduceCtorEq, ↓reduceIte], by simp (disch := omega) only [wk, tis, Int.reduceNe, Int.reduceEq, Int.reduceLT, Int.reduceLE, Int.reduceAdd, Int.reduceSub, Int.reduceNeg, Int.reduceMul, Int.reduceToNat, Nat.reduceSub, Nat.reduceMul, Nat.reduceLeDiff, Nat.reduceAdd, Nat.reduceLT, Nat.reduceEqDiff, reduceCtorEq, ↓reduceIte]⟩
  rintro f H ⟨i, hi, he, h0, h1, h5⟩
  rw [intAt_of h5]
  simp (disch := omega) only [wk, tis, Int.reduceNe, Int.reduceEq, Int.reduceLT, Int.reduceLE, Int.reduceAdd, Int.reduceSub, Int.reduceNeg, Int.reduceMul, Int.reduceToNat, Nat.reduceSub, Nat.reduceMul, Nat.reduceLeDiff, Nat.reduceAdd, Nat.reduceLT, Nat.reduceEqDiff, reduceCtorEq, ↓reduceIte, h0, h1, h5]
  refine if_by (fun hlt => ?_) (fun hlt => ?_)
  · simp (disch := omega) only [wk, tis, Int.reduceNe, Int.reduceEq, Int.reduceLT, Int.reduceLE, Int.reduceAdd, Int.reduceSub, Int.reduceNeg, Int.reduceMul, Int.reduceToNat, Nat.reduceSub, Nat.reduceMul, Nat.reduceLeDiff, Nat.reduceAdd, Nat.reduceLT, Nat.reduceEqDiff, reduceCtorEq, ↓reduceIte, h0, h1, h5]
    refine ⟨tmps_by (by kernel_rfl), ?_⟩
    refine call_by ((rSameInt_ok (a.getD i (false, [])) (b.getD i (false, [])) (ha.get i).1 (hb.get i).1)) (by first | rfl | (simp only [tocvs, tocv, h0, h1, h5]; rfl) | (simp only [tocvs, tocv, toboxes, tobox, updH_at, Nat.reduceEqDiff, ↓reduceIte, h0, h1, h5]; rfl)) (by simp) ?_
    simp (disch := omega) only [wk, tis, Int.reduceNe, Int.reduceEq, Int.reduceLT, Int.reduceLE, Int.reduceAdd, Int.reduceSub, Int.reduceNeg, Int.reduceMul, Int.reduceToNat, Nat.reduceSub, Nat.reduceMul, Nat.reduceLeDiff, Nat.reduceAdd, Nat.reduceLT, Nat.reduceEqDiff, reduceCtorEq, ↓reduceIte, h0, h1, h5]
    first | exact log_by (by kernel_rfl) | refine ⟨log_by (by kernel_rfl), ?_⟩
    by_cases hne : a.getD i (false, []) = b.getD i (false, [])
    · simp (disch := omega) only [wk, tis, Int.reduceNe, Int.reduceEq, Int.reduceLT, Int.reduceLE, Int.reduceAdd, Int.reduceSub, Int.reduceNeg, Int.reduceMul, Int.reduceToNat, Nat.reduceSub, Nat.reduceMul, Nat.reduceLeDiff, Nat.reduceAdd, Nat.reduceLT, Nat.reduceEqDiff, reduceCtorEq, ↓reduceIte, h0, h1, h5, hne, Bool.not_true]
      refine ⟨⟨i + 1, by omega, ?_, by omega⟩, by omega⟩
      have hia : i < a.length := by omega
      have hib : i < b.length := by omega
      rw [List.take_add_one, List.take_add_one, he, List.getElem?_eq_getElem hia, List.getElem?_eq_getElem hib]
      have e1 : a.getD i (false, []) = a[i] := by simp [List.getD, hia]
      have e2 : b.getD i (false, []) = b[i] := by simp [List.getD, hib]
      rw [← e1, ← e2, hne]
    · simp (disch := omega) only [wk, tis, Int.reduceNe, Int.reduceEq, Int.reduceLT, Int.reduceLE, Int.reduceAdd, Int.reduceSub, Int.reduceNeg, Int.reduceMul, Int.reduceToNat, Nat.reduceSub, Nat.reduceMul, Nat.reduceLeDiff, Nat.reduceAdd, Nat.reduceLT, Nat.reduceEqDiff, reduceCtorEq, ↓reduceIte, h0, h1, h5, hne, Bool.not_false]
      exact (decide_eq_false (fun e => hne (by rw [e]))).symm
  · simp (disch := omega) only [wk, tis, Int.reduceNe, Int.reduceEq, Int.reduceLT, Int.reduceLE, Int.reduceAdd, Int.reduceSub, Int.reduceNeg, Int.reduceMul, Int.reduceToNat, Nat.reduceSub, Nat.reduceMul, Nat.reduceLeDiff, Nat.reduceAdd, Nat.reduceLT, Nat.reduceEqDiff, reduceCtorEq, ↓reduceIte, h0, h1, h5]
    rw [List.take_of_length_le (by omega), List.take_of_length_le (by omega)] at he
    exact (decide_eq_true he).symm

theorem slong_ok (a : List Nat) (hl : a.length ≤ 9223372036854775807) : AC Try.prog 102 [cl a] none [cb (decide (200 < a.length))] := by
  refine AC.by_walk (rs := [.tmp 2]) ords Try.func102 (by rfl) (by rfl) (by rfl) (by rfl) (by rfl) ?_
  simp (disch := omega) only [wk, tis, Int.reduceNe, Int.reduceEq, Int.reduceLT, Int.reduceLE, Int.reduceAdd, Int.reduceSub, Int.reduceNeg, Int.reduceMul, Int.reduceToNat, Nat.reduceSub, Nat.reduceMul, Nat.reduceLeDiff, Nat.reduceAdd, Nat.reduceLT, Nat.reduceEqDiff, reduceCtorEq, ↓reduceIte]
  rw [decide_eq_decide]; omega

/-- Is one of the integers long? -/
def gi (l : List RI) : Bool := l.any fun c => decide (200 < c.2.length)
/-- Is one of the polynomials great? -/
def gp (ps : List (List RI)) : Bool := ps.any fun p => decide (40 < p.length) || gi p

theorem any_take_succ {α : Type} {g : α → Bool} {l : List α} {i : Nat} (hi : i < l.length) : (l.take (i + 1)).any g = ((l.take i).any g || g l[i]) := by
  rw [List.take_add_one, List.getElem?_eq_getElem hi, List.any_append]; simp only [Option.toList, List.any_cons, List.any_nil, Bool.or_false]
theorem any_of_get {α : Type} {g : α → Bool} {l : List α} {i : Nat} (hi : i < l.length) (h : g l[i] = true) : l.any g = true :=
  List.any_eq_true.mpr ⟨l[i], List.getElem_mem hi, h⟩

theorem sgints_ok (l : List RI) (hl : l.length ≤ 9223372036854775807) (h : ∀ c ∈ l, c.2.length ≤ 9223372036854775807) : AC Try.prog 26 [cw l] none [cb (gi l)] := by
  refine AC.by_walk (rs := [.tmp 2]) ords Try.func26 (by rfl) (by rfl) (by rfl) (by rfl) (by rfl) ?_
  simp (disch := omega) only [wk, tis, Int.reduceNe, Int.reduceEq, Int.reduceLT, Int.reduceLE, Int.reduceAdd, Int.reduceSub, Int.reduceNeg, Int.reduceMul, Int.reduceToNat, Nat.reduceSub, Nat.reduceMul, Nat.reduceLeDiff, Nat.reduceAdd, Nat.reduceLT, Nat.reduceEqDiff, reduceCtorEq, ↓reduceIte]
  refine aloop_by (fun f H => ∃ i : Nat, i ≤ l.length ∧ gi (l.take i) = false ∧ f 0 = .iv (.sl (raws l)) ∧ f 3 = .iv (.int .i64 i)) (fun f H => (l.length - intAt f 3).toNat) ?_ ?_
  · exact ⟨0, by omega, rfl, by simp (disch := omega) only [wk, tis, Int.reduceNe, Int.reduceEq, Int.reduceLT, Int.reduceLE, Int.reduceAdd, Int.reduceSub, Int.reduceNeg, Int.reduceMul, Int.reduceToNat, Nat.reduceSub, Nat.reduceMul, Nat.reduceLeDiff, Nat.reduceAdd, Nat.reduceLT, Nat.reduceEqDiff, reduceCtorEq, ↓reduceIte], by simp (disch := omega) only [wk, tis, Int.reduceNe, Int.reduceEq, Int.reduceLT, Int.reduceLE, Int.reduceAdd, Int.reduceSub, Int.reduceNeg, Int.reduceMul, Int.reduceToNat, Nat.reduceSub, Nat.reduceMul, Nat.reduceLeDiff, Nat.reduceAdd, Nat.reduceLT, Nat.reduceEqDiff, reduceCtorEq, ↓reduceIte]⟩
  rintro f H ⟨i, hi, he, h0, h3⟩
  rw [intAt_of h3]
  simp (disch := omega) only [wk, tis, Int.reduceNe, Int.reduceEq, Int.reduceLT, Int.reduceLE, Int.reduceAdd, Int.reduceSub, Int.reduceNeg, Int.reduceMul, Int.reduceToNat, Nat.reduceSub, Nat.reduceMul, Nat.reduceLeDiff, Nat.reduceAdd, Nat.reduceLT, Nat.reduceEqDiff, reduceCtorEq, ↓reduceIte, h0, h3]
  refine if_by (fun hlt => ?_) (fun hlt => ?_)
  · have hil : i < l.length := by omega
    have hg : l.getD i (false, []) = l[i] := by simp [List.getD, hil]
    simp (disch := omega) only [wk, tis, Int.reduceNe, Int.reduceEq, Int.reduceLT, Int.reduceLE, Int.reduceAdd, Int.reduceSub, Int.reduceNeg, Int.reduceMul, Int.reduceToNat, Nat.reduceSub, Nat.reduceMul, Nat.reduceLeDiff, Nat.reduceAdd, Nat.reduceLT, Nat.reduceEqDiff, reduceCtorEq, ↓reduceIte, h0, h3]
    rw [hg]
    refine call_by ((slong_ok l[i].2 (h _ (List.getElem_mem hil)))) (by first | rfl | (simp only [tocvs, tocv, h0, h3]; rfl) | (simp only [tocvs, tocv, toboxes, tobox, updH_at, Nat.reduceEqDiff, ↓reduceIte, h0, h3]; rfl)) (by simp) ?_
    simp (disch := omega) only [wk, tis, Int.reduceNe, Int.reduceEq, Int.reduceLT, Int.reduceLE, Int.reduceAdd, Int.reduceSub, Int.reduceNeg, Int.reduceMul, Int.reduceToNat, Nat.reduceSub, Nat.reduceMul, Nat.reduceLeDiff, Nat.reduceAdd, Nat.reduceLT, Nat.reduceEqDiff, reduceCtorEq, ↓reduceIte, h0, h3]
    refine if_by (fun hz => ?_) (fun hz => ?_)
    · simp (disch := omega) only [wk, tis, Int.reduceNe, Int.reduceEq, Int.reduceLT, Int.reduceLE, Int.reduceAdd, Int.reduceSub, Int.reduceNeg, Int.reduceMul, Int.reduceToNat, Nat.reduceSub, Nat.reduceMul, Nat.reduceLeDiff, Nat.reduceAdd, Nat.reduceLT, Nat.reduceEqDiff, reduceCtorEq, ↓reduceIte, h0, h3]
      exact (any_of_get hil (decide_eq_true hz)).symm
    · simp (disch := omega) only [wk, tis, Int.reduceNe, Int.reduceEq, Int.reduceLT, Int.reduceLE, Int.reduceAdd, Int.reduceSub, Int.reduceNeg, Int.reduceMul, Int.reduceToNat, Nat.reduceSub, Nat.reduceMul, Nat.reduceLeDiff, Nat.reduceAdd, Nat.reduceLT, Nat.reduceEqDiff, reduceCtorEq, ↓reduceIte, h0, h3]
      refine ⟨⟨i + 1, by omega, ?_, by omega⟩, by omega⟩
      unfold gi at he ⊢
      rw [any_take_succ hil, he, decide_eq_false hz]; rfl
  · simp (disch := omega) only [wk, tis, Int.reduceNe, Int.reduceEq, Int.reduceLT, Int.reduceLE, Int.reduceAdd, Int.reduceSub, Int.reduceNeg, Int.reduceMul, Int.reduceToNat, Nat.reduceSub, Nat.reduceMul, Nat.reduceLeDiff, Nat.reduceAdd, Nat.reduceLT, Nat.reduceEqDiff, reduceCtorEq, ↓reduceIte, h0, h3]
    rw [List.take_of_length_le (by omega)] at he
    exact he.symm

theorem sgreat_ok (ps : List (List RI)) (hl : ps.length ≤ 9223372036854775807) (h : ∀ p ∈ ps, p.length ≤ 9223372036854775807 ∧ ∀ c ∈ p, c.2.length ≤ 9223372036854775807) : AC Try.prog 12 [.iv (.sl (polys ps))] none [cb (gp ps)] := by
  refine AC.by_walk (rs := [.tmp 2]) ords Try.func12 (by rfl) (by rfl) (by rfl) (by rfl) (by rfl) ?_
  simp (disch := omega) only [wk, tis, Int.reduceNe, Int.reduceEq, Int.reduceLT, Int.reduceLE, Int.reduceAdd, Int.reduceSub, Int.reduceNeg, Int.reduceMul, Int.reduceToNat, Nat.reduceSub, Nat.reduceMul, Nat.reduceLeDiff, Nat.reduceAdd, Nat.reduceLT, Nat.reduceEqDiff, reduceCtorEq, ↓reduceIte]
  refine aloop_by (fun f H => ∃ i : Nat, i ≤ ps.length ∧ gp (ps.take i) = false ∧ f 0 = .iv (.sl (polys ps)) ∧ f 3 = .iv (.int .i64 i)) (fun f H => (ps.length - intAt f 3).toNat) ?_ ?_
  · exact ⟨0, by omega, rfl, by simp (disch := omega) only [wk, tis, Int.reduceNe, Int.reduceEq, Int.reduceLT, Int.reduceLE, Int.reduceAdd, Int.reduceSub, Int.reduceNeg, Int.reduceMul, Int.reduceToNat, Nat.reduceSub, Nat.reduceMul, Nat.reduceLeDiff, Nat.reduceAdd, Nat.reduceLT, Nat.reduceEqDiff, reduceCtorEq, ↓reduceIte], by simp (disch := omega) only [wk, tis, Int.reduceNe, Int.reduceEq, Int.reduceLT, Int.reduceLE, Int.reduceAdd, Int.reduceSub, Int.reduceNeg, Int.reduceMul, Int.reduceToNat, Nat.reduceSub, Nat.reduceMul, Nat.reduceLeDiff, Nat.reduceAdd, Nat.reduceLT, Nat.reduceEqDiff, reduceCtorEq, ↓reduceIte]⟩
  rintro f H ⟨i, hi, he, h0, h3⟩
  rw [intAt_of h3]
  simp (disch := omega) only [wk, tis, Int.reduceNe, Int.reduceEq, Int.reduceLT, Int.reduceLE, Int.reduceAdd, Int.reduceSub, Int.reduceNeg, Int.reduceMul, Int.reduceToNat, Nat.reduceSub, Nat.reduceMul, Nat.reduceLeDiff, Nat.reduceAdd, Nat.reduceLT, Nat.reduceEqDiff, reduceCtorEq, ↓reduceIte, h0, h3]
  refine if_by (fun hlt => ?_) (fun hlt => ?_)
  · have hil : i < ps.length := by omega
    have hg : ps.getD i [] = ps[i] := by simp [List.getD, hil]
    have hp := h ps[i] (List.getElem_mem hil)
    have hw : 40 < (ps[i].length : Int) ↔ 40 < ps[i].length := by omega
    by_cases hz : 40 < (ps[i].length : Int)
    · simp (disch := omega) only [wk, tis, Int.reduceNe, Int.reduceEq, Int.reduceLT, Int.reduceLE, Int.reduceAdd, Int.reduceSub, Int.reduceNeg, Int.reduceMul, Int.reduceToNat, Nat.reduceSub, Nat.reduceMul, Nat.reduceLeDiff, Nat.reduceAdd, Nat.reduceLT, Nat.reduceEqDiff, reduceCtorEq, ↓reduceIte, h0, h3, hg, hz]
      exact (any_of_get hil (by rw [decide_eq_true (hw.mp hz)]; rfl)).symm
    · simp (disch := omega) only [wk, tis, Int.reduceNe, Int.reduceEq, Int.reduceLT, Int.reduceLE, Int.reduceAdd, Int.reduceSub, Int.reduceNeg, Int.reduceMul, Int.reduceToNat, Nat.reduceSub, Nat.reduceMul, Nat.reduceLeDiff, Nat.reduceAdd, Nat.reduceLT, Nat.reduceEqDiff, reduceCtorEq, ↓reduceIte, h0, h3, hg, hz]
      refine call_by ((sgints_ok ps[i] hp.1 hp.2)) (by first | rfl | (simp only [tocvs, tocv, h0, h3, hg, hz]; rfl) | (simp only [tocvs, tocv, toboxes, tobox, updH_at, Nat.reduceEqDiff, ↓reduceIte, h0, h3, hg, hz]; rfl)) (by simp) ?_
      simp (disch := omega) only [wk, tis, Int.reduceNe, Int.reduceEq, Int.reduceLT, Int.reduceLE, Int.reduceAdd, Int.reduceSub, Int.reduceNeg, Int.reduceMul, Int.reduceToNat, Nat.reduceSub, Nat.reduceMul, Nat.reduceLeDiff, Nat.reduceAdd, Nat.reduceLT, Nat.reduceEqDiff, reduceCtorEq, ↓reduceIte, h0, h3, hg, hz]
      have hz' : ¬ 40 < ps[i].length := fun h => hz (hw.mpr h)
      refine if_bool (fun hb => ?_) (fun hb => ?_)
      · simp (disch := omega) only [wk, tis, Int.reduceNe, Int.reduceEq, Int.reduceLT, Int.reduceLE, Int.reduceAdd, Int.reduceSub, Int.reduceNeg, Int.reduceMul, Int.reduceToNat, Nat.reduceSub, Nat.reduceMul, Nat.reduceLeDiff, Nat.reduceAdd, Nat.reduceLT, Nat.reduceEqDiff, reduceCtorEq, ↓reduceIte, h0, h3, hg, hz]
        exact (any_of_get hil (by rw [hb]; exact Bool.or_true _)).symm
      · simp (disch := omega) only [wk, tis, Int.reduceNe, Int.reduceEq, Int.reduceLT, Int.reduceLE, Int.reduceAdd, Int.reduceSub, Int.reduceNeg, Int.reduceMul, Int.reduceToNat, Nat.reduceSub, Nat.reduceMul, Nat.reduceLeDiff, Nat.reduceAdd, Nat.reduceLT, Nat.reduceEqDiff, reduceCtorEq, ↓reduceIte, h0, h3, hg, hz]
        refine ⟨⟨i + 1, by omega, ?_, by omega⟩, by omega⟩
        unfold gp at he ⊢
        rw [any_take_succ hil, he, decide_eq_false hz', hb]; rfl
  · simp (disch := omega) only [wk, tis, Int.reduceNe, Int.reduceEq, Int.reduceLT, Int.reduceLE, Int.reduceAdd, Int.reduceSub, Int.reduceNeg, Int.reduceMul, Int.reduceToNat, Nat.reduceSub, Nat.reduceMul, Nat.reduceLeDiff, Nat.reduceAdd, Nat.reduceLT, Nat.reduceEqDiff, reduceCtorEq, ↓reduceIte, h0, h3]
    rw [List.take_of_length_le (by omega)] at he
    exact he.symm

theorem same_ok (a b : List RI) (ha : RP (2 ^ 40) (2 ^ 43) a) (hb : RP (2 ^ 40) (2 ^ 43) b) : AC Try.prog 14 [cw a, cw b] none [cb (decide (a = b))] := by
  refine AC.by_walk (rs := [.tmp 4]) ords Try.func14 (by rfl) (by rfl) (by rfl) (by rfl) (by rfl) ?_
  simp (disch := omega) only [wk, tis, Int.reduceNe, Int.reduceEq, Int.reduceLT, Int.reduceLE, Int.reduceAdd, Int.reduceSub, Int.reduceNeg, Int.reduceMul, Int.reduceToNat, Nat.reduceSub, Nat.reduceMul, Nat.reduceLeDiff, Nat.reduceAdd, Nat.reduceLT, Nat.reduceEqDiff, reduceCtorEq, ↓reduceIte]
  refine call_by ((sform_ok a b ha hb)) (by rfl) (by simp) ?_
  simp (disch := omega) only [wk, tis, Int.reduceNe, Int.reduceEq, Int.reduceLT, Int.reduceLE, Int.reduceAdd, Int.reduceSub, Int.reduceNeg, Int.reduceMul, Int.reduceToNat, Nat.reduceSub, Nat.reduceMul, Nat.reduceLeDiff, Nat.reduceAdd, Nat.reduceLT, Nat.reduceEqDiff, reduceCtorEq, ↓reduceIte]

theorem small_pb (l : List Int) (n : Nat) (hl : l.length ≤ n) (h : ∀ z ∈ l, z.natAbs < W) : PB n 1 l := ⟨hl, fun z hz => zl_le.mpr (by simpa using h z hz)⟩

theorem awake_ok : AC Try.prog 11 [] none [cb true] := by
  refine AC.by_walk (rs := [.tmp 0]) ords Try.func11 (by rfl) (by rfl) (by rfl) (by rfl) (by rfl) ?_
  simp (disch := omega) only [wk, tis, Int.reduceNe, Int.reduceEq, Int.reduceLT, Int.reduceLE, Int.reduceAdd, Int.reduceSub, Int.reduceNeg, Int.reduceMul, Int.reduceToNat, Nat.reduceSub, Nat.reduceMul, Nat.reduceLeDiff, Nat.reduceAdd, Nat.reduceLT, Nat.reduceEqDiff, reduceCtorEq, ↓reduceIte]
  refine call_by ((sof_ok [1, -1] (by decide) (by decide))) (by rfl) (by simp) ?_
  simp (disch := omega) only [wk, tis, Int.reduceNe, Int.reduceEq, Int.reduceLT, Int.reduceLE, Int.reduceAdd, Int.reduceSub, Int.reduceNeg, Int.reduceMul, Int.reduceToNat, Nat.reduceSub, Nat.reduceMul, Nat.reduceLeDiff, Nat.reduceAdd, Nat.reduceLT, Nat.reduceEqDiff, reduceCtorEq, ↓reduceIte]
  have hm := pmul_ok [(false, [1]), (false, [1, 0]), (false, [])] ((trimz [1, -1]).map canon) ⟨by decide, by unfold Sz Lim; decide⟩ (RP.canon ((small_pb [1, -1] 2 (by decide) (by decide)).trimz.mono (by decide) (by decide)))
  have e : cp (pmul (pv [(false, [1]), (false, [1, 0]), (false, [])]) (pv ((trimz [1, -1]).map canon))) = cp [1, 0, -1] := by
    rw [pv_canon]
    unfold cp cpoly
    have : trimz (pmul (pv [(false, [1]), (false, [1, 0]), (false, [])]) (trimz [1, -1])) = trimz [1, 0, -1] := by decide
    rw [this]
  rw [e] at hm
  refine call_by (hm) (by rfl) (by simp) ?_
  simp (disch := omega) only [wk, tis, Int.reduceNe, Int.reduceEq, Int.reduceLT, Int.reduceLE, Int.reduceAdd, Int.reduceSub, Int.reduceNeg, Int.reduceMul, Int.reduceToNat, Nat.reduceSub, Nat.reduceMul, Nat.reduceLeDiff, Nat.reduceAdd, Nat.reduceLT, Nat.reduceEqDiff, reduceCtorEq, ↓reduceIte]
  refine call_by ((sof_ok [1, 0, -1] (by decide) (by decide))) (by rfl) (by simp) ?_
  simp (disch := omega) only [wk, tis, Int.reduceNe, Int.reduceEq, Int.reduceLT, Int.reduceLE, Int.reduceAdd, Int.reduceSub, Int.reduceNeg, Int.reduceMul, Int.reduceToNat, Nat.reduceSub, Nat.reduceMul, Nat.reduceLeDiff, Nat.reduceAdd, Nat.reduceLT, Nat.reduceEqDiff, reduceCtorEq, ↓reduceIte]
  have hp := RP.canon ((small_pb [1, 0, -1] 3 (by decide) (by decide)).trimz.mono (n' := 2 ^ 40) (k' := 2 ^ 43) (by decide) (by decide))
  have hs := sform_ok ((trimz [1, 0, -1]).map canon) ((trimz [1, 0, -1]).map canon) hp hp
  rw [decide_eq_true rfl] at hs
  refine call_by (hs) (by rfl) (by simp) ?_
  simp (disch := omega) only [wk, tis, Int.reduceNe, Int.reduceEq, Int.reduceLT, Int.reduceLE, Int.reduceAdd, Int.reduceSub, Int.reduceNeg, Int.reduceMul, Int.reduceToNat, Nat.reduceSub, Nat.reduceMul, Nat.reduceLeDiff, Nat.reduceAdd, Nat.reduceLT, Nat.reduceEqDiff, reduceCtorEq, ↓reduceIte]

end Go.Proofs.Ythgecppfgdadiaa

namespace Go.Proofs.Ythgecppfgdadiaa
open Go Go.Proofs Go.AL
set_option linter.unusedSimpArgs false
set_option linter.unusedVariables false

theorem pmul_g {a b : List RI} {q r : List Int} (ha : RP (2 ^ 30) (2 ^ 35) a) (hb : RP (2 ^ 30) (2 ^ 35) b) (eq : ps (pv a) = ps q) (er : ps (pv b) = ps r) : AC Try.prog 13 [cw a, cw b] none [cp (pmul q r)] := by
  have h := pmul_ok a b ha hb
  rwa [cp_ps (q := pmul q r) (by rw [ps_pmul, ps_pmul, eq, er])] at h

theorem padd_g {a b : List RI} {q r : List Int} (ha : RP (2 ^ 30) (2 ^ 35) a) (hb : RP (2 ^ 30) (2 ^ 35) b) (eq : ps (pv a) = ps q) (er : ps (pv b) = ps r) : AC Try.prog 15 [cw a, cw b] none [cp (padd q r)] := by
  have h := padd_ok a b (ha.mono (by omega) (by omega)) (hb.mono (by omega) (by omega))
  rwa [cp_ps (q := padd q r) (by rw [ps_padd, ps_padd, eq, er])] at h

theorem psub_g {a b : List RI} {q r : List Int} (ha : RP (2 ^ 30) (2 ^ 35) a) (hb : RP (2 ^ 30) (2 ^ 35) b) (eq : ps (pv a) = ps q) (er : ps (pv b) = ps r) : AC Try.prog 17 [cw a, cw b] none [cp (padd q (pscale (-1) r))] := by
  have h := psub_ok a b (ha.mono (by omega) (by omega)) hb
  rwa [cp_ps (q := padd q (pscale (-1) r)) (by rw [ps_padd, ps_pscale, ps_padd, ps_pscale, eq, er])] at h

theorem pneg_g {a : List RI} {q : List Int} (ha : RP (2 ^ 30) (2 ^ 35) a) (eq : ps (pv a) = ps q) : AC Try.prog 18 [cw a] none [cp (pscale (-1) q)] := by
  have h := pneg_ok a ha
  rwa [cp_ps (q := pscale (-1) q) (by rw [ps_pscale, ps_pscale, eq])] at h

theorem pscale_g {a : List RI} {q : List Int} {c : RI} (ha : RP (2 ^ 30) (2 ^ 35) a) (hc : Sz (2 ^ 35) c) (eq : ps (pv a) = ps q) : AC Try.prog 24 [cw a, cr c] none [cp (pscale (iv c) q)] := by
  have h := pscale_ok a c ha hc
  rwa [cp_ps (q := pscale (iv c) q) (by rw [ps_pscale, ps_pscale, eq])] at h

theorem pderiv_g {a : List RI} {q : List Int} (ha : RP (2 ^ 30) (2 ^ 35) a) (eq : ps (pv a) = ps q) : AC Try.prog 20 [cw a] none [cp (pderiv q)] := by
  have h := pderiv_ok a ha
  rwa [cp_ps (q := pderiv q) (by rw [ps_pderiv, ps_pderiv, eq])] at h

theorem pnorm_g {a : List RI} {q : List Int} (ha : RP (2 ^ 30) (2 ^ 35) a) (eq : ps (pv a) = ps q) : AC Try.prog 16 [cw a] none [cp q] := by
  have h := pnorm_ok a (ha.mono (by omega) (by omega))
  rwa [cp_ps eq] at h

theorem pdeg_g {a : List RI} {q : List Int} (ha : RP (2 ^ 30) (2 ^ 35) a) (eq : ps (pv a) = ps q) : AC Try.prog 19 [cw a] none [ci ((tz q : Int) - 1)] := by
  rw [← tz_eq_of_cf (ps_eq eq)]; exact pdeg_ok a (ha.mono (by omega) (by omega))

theorem cn_ext {p q : List Int} (h : ∀ k, cf p k = cf q k) : cn p = cn q := forms_eq h

theorem same_g {q r : List Int} (ha : PB (2 ^ 40) (2 ^ 43) q) (hb : PB (2 ^ 40) (2 ^ 43) r) (e : ps q = ps r) : AC Try.prog 14 [cp q, cp r] none [cb true] := by
  have := same_ok (cn q) (cn r) (rp_cn ha) (rp_cn hb)
  rw [decide_eq_true (cn_ext (ps_eq e))] at this; exact this

/-- What a law may be handed. -/
def Raw (p : List RI) : Prop := p.length ≤ 9223372036854775807 ∧ ∀ c ∈ p, Sz (9223372036854775807) c

theorem great_sub {ps : List (List RI)} (h : gp ps = false) {p : List RI} (hp : p ∈ ps) (hr : Raw p) : RP 40 200 p := by
  unfold gp at h
  rw [List.any_eq_false] at h
  have := h p hp
  simp only [Bool.or_eq_true, decide_eq_true_eq, not_or, Bool.not_eq_true] at this
  refine ⟨by omega, fun c hc => ⟨?_, (hr.2 c hc).2⟩⟩
  have h2 := this.2
  unfold gi at h2
  rw [List.any_eq_false] at h2
  have := h2 c hc
  simp only [decide_eq_true_eq] at this
  omega

theorem great2_ok (a b : List RI) (ha : Raw a) (hb : Raw b) : AC Try.prog 12 [.iv (.sl (polys [a, b]))] none [cb (gp [a, b])] :=
  sgreat_ok [a, b] (by simp) (by
    intro p hp
    simp only [List.mem_cons, List.not_mem_nil, or_false] at hp
    rcases hp with rfl | rfl
    · exact ⟨ha.1, fun c hc => (ha.2 c hc).1⟩
    · exact ⟨hb.1, fun c hc => (hb.2 c hc).1⟩)

end Go.Proofs.Ythgecppfgdadiaa

namespace Go.Proofs.Ythgecppfgdadiaa
open Go Go.Proofs Go.AL
set_option linter.unusedSimpArgs false
set_option linter.unusedVariables false

/-! ### A polynomial at a fraction of power series -/

/-- The sum of c_i * f^i * g^(n-1-i). -/
def hom : List Int → PS → PS → PS
  | [], _, _ => 0
  | c :: p, f, g => PS.C c * PS.pw g p.length + f * hom p f g

theorem pw_one1 (n : Nat) : PS.pw 1 n = 1 := by
  induction n with
  | zero => rfl
  | succ n ih => rw [PS.pw, ih, PS.mul_one]

theorem hom_snoc (p : List Int) (c : Int) (f g : PS) : hom (p ++ [c]) f g = hom p f g * g + PS.C c * PS.pw f p.length := by
  induction p with
  | nil => simp only [List.nil_append, hom, List.length_nil, PS.pw, PS.mul_one, PS.mul_zero, PS.zero_mul, PS.add_zero, PS.zero_add]
  | cons x p ih =>
    simp only [List.cons_append, hom, ih, List.length_append, List.length_cons, List.length_nil, PS.pw, PS.add_mul, PS.mul_add]
    ac_rfl

/-- At a power series. -/
def cmp (p : List Int) (f : PS) : PS := hom p f 1
theorem cmp_nil (f : PS) : cmp [] f = 0 := rfl
theorem cmp_cons (c : Int) (p : List Int) (f : PS) : cmp (c :: p) f = PS.C c + f * cmp p f := by
  simp only [cmp, hom, pw_one1, PS.mul_one]

theorem cmp_zero {p : List Int} (f : PS) (h : ∀ k, cf p k = 0) : cmp p f = 0 := by
  induction p with
  | nil => rfl
  | cons c p ih =>
    have h0 := h 0
    rw [cmp_cons, ih (fun k => by have := h (k + 1); simpa [cf] using this), show c = 0 by simpa [cf] using h0, PS.C_zero, PS.mul_zero, PS.add_zero]

theorem cmp_ext {p q : List Int} (f : PS) (h : ∀ k, cf p k = cf q k) : cmp p f = cmp q f := by
  induction p generalizing q with
  | nil => rw [cmp_nil, cmp_zero f (fun k => (h k).symm.trans (cf_nil k))]
  | cons c p ih =>
    cases q with
    | nil => rw [cmp_nil, cmp_zero f (fun k => (h k).trans (cf_nil k))]
    | cons d q =>
      have h0 := h 0
      rw [cmp_cons, cmp_cons, ih (fun k => by have := h (k + 1); simpa [cf] using this), show c = d by simpa [cf] using h0]
theorem cmp_ps {p q : List Int} (f : PS) (h : ps p = ps q) : cmp p f = cmp q f := cmp_ext f (ps_eq h)

theorem cf_padd_cons (c d : Int) (p q : List Int) (k : Nat) : cf (padd (c :: p) (d :: q)) k = cf ((c + d) :: padd p q) k := by
  rw [cf_padd]
  cases k with
  | zero => simp [cf]
  | succ k => simp only [cf, List.getD_cons_succ]; exact (cf_padd p q k).symm

theorem cmp_padd (p q : List Int) (f : PS) : cmp (padd p q) f = cmp p f + cmp q f := by
  induction p generalizing q with
  | nil => rw [cmp_nil, PS.zero_add]; exact cmp_ext f fun k => by rw [cf_padd, cf_nil, Int.zero_add]
  | cons c p ih =>
    cases q with
    | nil => rw [cmp_nil, PS.add_zero]; exact cmp_ext f fun k => by rw [cf_padd, cf_nil, Int.add_zero]
    | cons d q =>
      rw [cmp_ext f (cf_padd_cons c d p q), cmp_cons, cmp_cons, cmp_cons, ih, PS.C_add, PS.mul_add]
      ac_rfl

theorem cmp_pscale (c : Int) (p : List Int) (f : PS) : cmp (pscale c p) f = PS.C c * cmp p f := by
  induction p with
  | nil => rw [cmp_nil, PS.mul_zero]; rfl
  | cons d p ih =>
    have : pscale c (d :: p) = (d * c) :: pscale c p := rfl
    rw [this, cmp_cons, cmp_cons, ih, PS.C_mul, PS.mul_add]
    ac_rfl

theorem cmp_pmul (p q : List Int) (f : PS) : cmp (pmul p q) f = cmp p f * cmp q f := by
  induction p with
  | nil => rw [cmp_nil, PS.zero_mul]; exact cmp_zero f fun k => by rw [cf_pmul]; rfl
  | cons c p ih =>
    have e : ∀ k, cf (pmul (c :: p) q) k = cf (padd (pscale c q) (0 :: pmul p q)) k := fun k => by
      rw [cf_pmul_cons, cf_padd, cf_pscale, Int.mul_comm c]
      congr 1
      cases k with
      | zero => rfl
      | succ k => rfl
    rw [cmp_ext f e, cmp_padd, cmp_pscale, cmp_cons, cmp_cons, ih, PS.C_zero, PS.zero_add, PS.add_mul, PS.mul_assoc]

theorem ps_X : ps [0, 1] = PS.X := PS.ext fun k => by
  rw [ps_c, PS.X]
  match k with
  | 0 => rfl
  | 1 => rfl
  | k + 2 => simp [cf]

theorem cmp_X (p : List Int) : cmp p PS.X = ps p := by
  induction p with
  | nil => rw [cmp_nil, ps_nil]
  | cons c p ih =>
    rw [cmp_cons, ih, ← ps_X, ← ps_pmul, ← ps_const, ← ps_padd]
    refine ps_ext fun k => ?_
    rw [cf_padd, cf_pmul_cons]
    cases k with
    | zero => simp [cf, shiftf]
    | succ k =>
      rw [shiftf, cf_pmul_cons]
      have hn : ∀ n, cf (pmul [] p) n = 0 := fun n => by rw [cf_pmul]; rfl
      have hs : shiftf (cf (pmul [] p)) k = 0 := by cases k <;> simp [shiftf, hn]
      rw [hs]
      simp [cf]

/-! ### In lists -/

def lhom : List Int → List Int → List Int → List Int
  | [], _, _ => []
  | c :: p, f, g => padd (pscale c (ppow g p.length)) (pmul f (lhom p f g))

theorem ps_lhom (p f g : List Int) : ps (lhom p f g) = hom p (ps f) (ps g) := by
  induction p with
  | nil => rw [lhom, hom, ps_nil]
  | cons c p ih => rw [lhom, hom, ps_padd, ps_pscale, ps_ppow, ps_pmul, ih]

theorem cmp_ppow (g : List Int) (n : Nat) (F : PS) : cmp (ppow g n) F = PS.pw (cmp g F) n := by
  induction n with
  | zero => rw [ppow, PS.pw, cmp_cons, cmp_nil, PS.mul_zero, PS.add_zero]; rfl
  | succ n ih => rw [ppow, PS.pw, cmp_pmul, ih]; try exact PS.mul_comm _ _

theorem cmp_lhom (p f g : List Int) (F : PS) : cmp (lhom p f g) F = hom p (cmp f F) (cmp g F) := by
  induction p with
  | nil => rfl
  | cons c p ih => rw [lhom, hom, cmp_padd, cmp_pscale, cmp_pmul, cmp_ppow, ih]

theorem pb_lhom {N K : Nat} {f g : List Int} (hf : PB N K f) (hg : PB N K g) (hN : N < 2 ^ 20) : ∀ {p : List Int} {m : Nat}, m < 2 ^ 20 → PB m K p → PB (p.length * N + 1) (p.length * (K + 2) + K + 3) (lhom p f g)
  | [], _, _, _ => ⟨by simp [lhom], fun z hz => by simp [lhom] at hz⟩
  | c :: p, m, hm, hp => by
    have h1 : PB m K p := ⟨by have := hp.1; simp at this; omega, fun z hz => hp.2 z (List.mem_cons_of_mem _ hz)⟩
    have ih := pb_lhom hf hg hN hm h1
    have hc := hp.2 c (by simp)
    have hpl : p.length ≤ 2 ^ 20 := by have := hp.1; simp at this; omega
    have hW : ∀ x, x < 2 ^ 60 → x < W := fun x hx => by simp only [W]; omega
    have q := (hg.ppow (hW N (by omega)) p.length).pscale (c := c)
    have r := hf.pmul ih (hW N (by omega))
    have e1 : (p.length + 1) * N = p.length * N + N := Nat.succ_mul _ _
    have e2 : (p.length + 1) * (K + 2) = p.length * (K + 2) + (K + 2) := Nat.succ_mul _ _
    have e3 : p.length * (K + 2) = p.length * (K + 1) + p.length := by rw [show K + 2 = K + 1 + 1 from rfl, Nat.mul_succ]
    have hlen : (c :: p).length = p.length + 1 := rfl
    rw [hlen, e1, e2]
    exact (q.padd r).mono (by omega) (by omega)
end Go.Proofs.Ythgecppfgdadiaa

namespace Go.Proofs.Ythgecppfgdadiaa
open Go Go.Proofs Go.AL
set_option linter.unusedSimpArgs false
set_option linter.unusedVariables false

/-- How many bits a number has. -/
def bl (n : Nat) : Nat := if n = 0 then 0 else n.log2 + 1

theorem bl_shift {x k : Nat} (h : 2 ^ k ≤ x) : bl x = bl (x / 2 ^ k) + k := by
  have h0 : x ≠ 0 := by have := Nat.pow_pos (n := k) (show 0 < 2 by decide); omega
  have h1 : x / 2 ^ k ≠ 0 := by
    intro h1
    rw [Nat.div_eq_zero_iff] at h1
    have := Nat.pow_pos (n := k) (show 0 < 2 by decide)
    omega
  unfold bl
  rw [if_neg h0, if_neg h1]
  have h2 : (x / 2 ^ k).log2 = x.log2 - k := by
    rw [Nat.log2_eq_iff h1]
    have a1 := Nat.log2_self_le h0
    have a2 := Nat.lt_log2_self (n := x)
    have hk : k ≤ x.log2 := (Nat.le_log2 h0).mpr h
    constructor
    · rw [Nat.le_div_iff_mul_le (Nat.pow_pos (by decide)), ← Nat.pow_add, Nat.sub_add_cancel hk]; exact a1
    · rw [Nat.div_lt_iff_lt_mul (Nat.pow_pos (by decide)), ← Nat.pow_add]
      rw [show x.log2 - k + 1 + k = x.log2 + 1 by omega]; exact a2
  have hk : k ≤ x.log2 := (Nat.le_log2 h0).mpr h
  omega

theorem bl_le {n k : Nat} : bl n ≤ k ↔ n < 2 ^ k := by
  unfold bl
  split
  · rename_i h; subst h; simp [Nat.pow_pos]
  · rename_i h
    constructor
    · intro h'; exact Nat.lt_of_lt_of_le Nat.lt_log2_self (Nat.pow_le_pow_right (by decide) h')
    · intro h'; exact (Nat.log2_lt h).mpr h'

theorem shr_nat (x m : Nat) (hm : m ≤ 64) : ((x : Int)).fdiv (2 ^ min m IntKind.u64.bits) = ((x / 2 ^ m : Nat) : Int) := by
  rw [show min m IntKind.u64.bits = m from Nat.min_eq_left (by simp only [IntKind.bits]; omega), Int.fdiv_eq_ediv_of_nonneg _ (by exact Int.le_of_lt (Int.pow_pos (by decide)))]
  norm_cast

theorem shr_lit (x : Nat) (m : Nat) (hm : m ≤ 64) : ((x : Int)).fdiv (2 ^ m) = ((x / 2 ^ m : Nat) : Int) := by
  rw [Int.fdiv_eq_ediv_of_nonneg _ (by exact Int.le_of_lt (Int.pow_pos (by decide)))]
  norm_cast

theorem cst_str (S : ByteArray) : cstA (.string S) = .iv (.raw (.string S)) := rfl

/-- A sign of the table. -/
theorem astep_tab {S : ByteArray} {y d : Nat} {K : Fr → Hp → Log → Prop} {f : Fr} {H : Hp} {lg : Log} (h : ∀ n, n < 256 → n < S.size ∧ (S[n]?.getD 0).toNat = bl n) (hy : y < 256)
    (hk : K (upd f d (.iv (.int .u8 (bl y)))) H (([], []) :: lg)) : AStep (some ⟨0 ≤ (y : Int) ∧ (y : Int) < (S.size : Int), .iv (.int .u8 ((S[y]?.getD 0).toNat : Nat)), [], [], []⟩) (some d) K f H lg := by
  have h1 := h y hy
  refine ⟨⟨by omega, by omega⟩, ?_⟩
  show K (upd f d (.iv (.int .u8 ((S[y]?.getD 0).toNat : Nat)))) H _
  rw [h1.2]
  exact hk

theorem len64_ok (x : Nat) (hx : x < W) : AC Try.prog 192 [cu x] none [ci (bl x)] := by
  refine AC.by_walk (rs := [.tmp 2]) ords Try.func192 (by rfl) (by rfl) (by rfl) (by rfl) (by rfl) ?_
  simp (disch := omega) only [wk, tis, Int.reduceNe, Int.reduceEq, Int.reduceLT, Int.reduceLE, Int.reduceAdd, Int.reduceSub, Int.reduceNeg, Int.reduceMul, Int.reduceToNat, Nat.reduceSub, Nat.reduceMul, Nat.reduceLeDiff, Nat.reduceAdd, Nat.reduceLT, Nat.reduceEqDiff, reduceCtorEq, ↓reduceIte]
  refine if_cut (fun f H => ∃ y n : Nat, y < 2 ^ 32 ∧ n ≤ 32 ∧ bl x = bl y + n ∧ f 0 = .iv (.int .u64 y) ∧ f 2 = .iv (.int .i64 n)) ?_ ?_
  · refine if_by (fun h => ?_) (fun h => ?_)
    · simp (disch := omega) only [wk, tis, Int.reduceNe, Int.reduceEq, Int.reduceLT, Int.reduceLE, Int.reduceAdd, Int.reduceSub, Int.reduceNeg, Int.reduceMul, Int.reduceToNat, Nat.reduceSub, Nat.reduceMul, Nat.reduceLeDiff, Nat.reduceAdd, Nat.reduceLT, Nat.reduceEqDiff, reduceCtorEq, ↓reduceIte, shr_nat x 32 (by omega)]
      exact ⟨x / 2 ^ 32, 32, by simp only [W] at hx; omega, by omega, bl_shift (k := 32) (by omega), rfl, rfl⟩
    · simp (disch := omega) only [wk, tis, Int.reduceNe, Int.reduceEq, Int.reduceLT, Int.reduceLE, Int.reduceAdd, Int.reduceSub, Int.reduceNeg, Int.reduceMul, Int.reduceToNat, Nat.reduceSub, Nat.reduceMul, Nat.reduceLeDiff, Nat.reduceAdd, Nat.reduceLT, Nat.reduceEqDiff, reduceCtorEq, ↓reduceIte]
      exact ⟨x, 0, by omega, by omega, rfl, rfl, rfl⟩
  rintro f H ⟨y, n, hy, hn, e, hF⟩
  rw [e]
  clear e hx
  simp (disch := omega) only [wk, tis, Int.reduceNe, Int.reduceEq, Int.reduceLT, Int.reduceLE, Int.reduceAdd, Int.reduceSub, Int.reduceNeg, Int.reduceMul, Int.reduceToNat, Nat.reduceSub, Nat.reduceMul, Nat.reduceLeDiff, Nat.reduceAdd, Nat.reduceLT, Nat.reduceEqDiff, reduceCtorEq, ↓reduceIte, hF]
  refine if_cut (fun f H => ∃ z m : Nat, z < 2 ^ 16 ∧ m ≤ 48 ∧ bl y + n = bl z + m ∧ f 0 = .iv (.int .u64 z) ∧ f 2 = .iv (.int .i64 m)) ?_ ?_
  · refine if_by (fun h => ?_) (fun h => ?_)
    · have := bl_shift (x := y) (k := 16) (by omega)
      simp (disch := omega) only [wk, tis, Int.reduceNe, Int.reduceEq, Int.reduceLT, Int.reduceLE, Int.reduceAdd, Int.reduceSub, Int.reduceNeg, Int.reduceMul, Int.reduceToNat, Nat.reduceSub, Nat.reduceMul, Nat.reduceLeDiff, Nat.reduceAdd, Nat.reduceLT, Nat.reduceEqDiff, reduceCtorEq, ↓reduceIte, hF, shr_nat y 16 (by omega)]
      exact ⟨y / 2 ^ 16, n + 16, by omega, by omega, by omega, rfl, by omega⟩
    · simp (disch := omega) only [wk, tis, Int.reduceNe, Int.reduceEq, Int.reduceLT, Int.reduceLE, Int.reduceAdd, Int.reduceSub, Int.reduceNeg, Int.reduceMul, Int.reduceToNat, Nat.reduceSub, Nat.reduceMul, Nat.reduceLeDiff, Nat.reduceAdd, Nat.reduceLT, Nat.reduceEqDiff, reduceCtorEq, ↓reduceIte, hF]
      exact ⟨y, n, by omega, by omega, rfl, rfl, rfl⟩
  clear hF
  rintro f H ⟨z, m, hz, hm, e, hF⟩
  rw [e]
  clear e hy
  simp (disch := omega) only [wk, tis, Int.reduceNe, Int.reduceEq, Int.reduceLT, Int.reduceLE, Int.reduceAdd, Int.reduceSub, Int.reduceNeg, Int.reduceMul, Int.reduceToNat, Nat.reduceSub, Nat.reduceMul, Nat.reduceLeDiff, Nat.reduceAdd, Nat.reduceLT, Nat.reduceEqDiff, reduceCtorEq, ↓reduceIte, hF]
  refine if_cut (fun f H => ∃ y n : Nat, y < 2 ^ 8 ∧ n ≤ 56 ∧ bl z + m = bl y + n ∧ f 0 = .iv (.int .u64 y) ∧ f 2 = .iv (.int .i64 n)) ?_ ?_
  · refine if_by (fun h => ?_) (fun h => ?_)
    · have := bl_shift (x := z) (k := 8) (by omega)
      simp (disch := omega) only [wk, tis, Int.reduceNe, Int.reduceEq, Int.reduceLT, Int.reduceLE, Int.reduceAdd, Int.reduceSub, Int.reduceNeg, Int.reduceMul, Int.reduceToNat, Nat.reduceSub, Nat.reduceMul, Nat.reduceLeDiff, Nat.reduceAdd, Nat.reduceLT, Nat.reduceEqDiff, reduceCtorEq, ↓reduceIte, hF, shr_nat z 8 (by omega)]
      exact ⟨z / 2 ^ 8, m + 8, by omega, by omega, by omega, rfl, by omega⟩
    · simp (disch := omega) only [wk, tis, Int.reduceNe, Int.reduceEq, Int.reduceLT, Int.reduceLE, Int.reduceAdd, Int.reduceSub, Int.reduceNeg, Int.reduceMul, Int.reduceToNat, Nat.reduceSub, Nat.reduceMul, Nat.reduceLeDiff, Nat.reduceAdd, Nat.reduceLT, Nat.reduceEqDiff, reduceCtorEq, ↓reduceIte, hF]
      exact ⟨z, m, by omega, by omega, rfl, rfl, rfl⟩
  clear hF
  rintro f H ⟨y, n, hy, hn, e, hF⟩
  rw [e]
  have hb : bl y ≤ 8 := bl_le.mpr hy
  have hw : IntKind.u8.wrap (y : Int) = (y : Int) := by
    simp only [IntKind.wrap, IntKind.signed, IntKind.bits, Bool.false_and, Bool.false_eq_true, if_false]; omega
  have hw2 : IntKind.i64.wrap (bl y : Int) = (bl y : Int) := wrap_i64 _ (by omega) (by omega)
  simp (disch := omega) only [wk, tis, Int.reduceNe, Int.reduceEq, Int.reduceLT, Int.reduceLE, Int.reduceAdd, Int.reduceSub, Int.reduceNeg, Int.reduceMul, Int.reduceToNat, Nat.reduceSub, Nat.reduceMul, Nat.reduceLeDiff, Nat.reduceAdd, Nat.reduceLT, Nat.reduceEqDiff, reduceCtorEq, ↓reduceIte, hF, hw, cst_str]
  refine astep_tab ?_ (by omega) ?_
  · decide +kernel
  simp (disch := omega) only [wk, tis, Int.reduceNe, Int.reduceEq, Int.reduceLT, Int.reduceLE, Int.reduceAdd, Int.reduceSub, Int.reduceNeg, Int.reduceMul, Int.reduceToNat, Nat.reduceSub, Nat.reduceMul, Nat.reduceLeDiff, Nat.reduceAdd, Nat.reduceLT, Nat.reduceEqDiff, reduceCtorEq, ↓reduceIte, hF, hw, hw2]
  omega

end Go.Proofs.Ythgecppfgdadiaa
