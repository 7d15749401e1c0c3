/-
  Contracts of the functions that the law reaches.
-/
import Derived.Test.YthgecppfgdadiaaL12
namespace Go.Proofs.Ythgecppfgdadiaa
open Go Go.Proofs Go.AL
set_option linter.unusedSimpArgs false
set_option linter.unusedVariables false

def cn (q : List Int) : List RI := (trimz q).map canon

theorem cf_cn (q : List Int) (k : Nat) : cf (pv (cn q)) k = cf q k := by rw [cn, pv_canon, cf_trimz]

theorem ps_cn (q : List Int) : ps (pv (cn q)) = ps q := ps_ext (cf_cn q)

theorem rp_cn {n k : Nat} {q : List Int} (h : PB n k q) : RP n k (cn q) := RP.canon h.trimz

/-- The product of two polynomials in their own form. -/
theorem pmul_cn {q r s : List Int} (hq : PB (2 ^ 30) (2 ^ 35) q) (hr : PB (2 ^ 30) (2 ^ 35) r) (e : ps q * ps r = ps s) : AC Try.prog 13 [cp q, cp r] none [cp s] := by
  have h := pmul_ok (cn q) (cn r) (rp_cn hq) (rp_cn hr)
  rw [cp_ps (q := s) (by rw [ps_pmul, ps_cn, ps_cn, e])] at h
  exact h

theorem canon_one : canon 1 = (false, [1]) := by
  have : wd 1 = [1] := by rw [wd, dg_pos (by decide) (by decide)]; rw [show 1 / W = 0 by decide, dg_zero]; rfl
  simp only [canon, Int.natAbs_one, this]; rfl

theorem cpoly_one : cpoly [1] = [prow (canon 1)] := by
  have : tz [1] = 1 := by rw [tz_cons]; simp [tz_zero_iff, cf_nil]
  simp [cpoly, trimz, this, raws]

theorem ppow_ok (p : List RI) (n : Int) (h : RP (2 ^ 15) (2 ^ 20) p) : AC Try.prog 23 [cw p, ci n] none [cp (if 0 ≤ n ∧ n ≤ 1000 then ppow (pv p) n.toNat else []), ci (if n < 0 then 3 else if 1000 < n then 13 else 0)] := by
  refine AC.by_walk (rs := [.tmp 4, .tmp 5]) ords Try.func23 (by rfl) (by rfl) (by rfl) (by rfl) (by rfl) ?_
  simp (disch := omega) only [wk, tis, Int.reduceNe, Int.reduceEq, Int.reduceLT, Int.reduceLE, Int.reduceAdd, Int.reduceSub, Int.reduceNeg, Int.reduceMul, Int.reduceToNat, Nat.reduceSub, Nat.reduceMul, Nat.reduceLeDiff, Nat.reduceAdd, Nat.reduceLT, Nat.reduceEqDiff, reduceCtorEq, ↓reduceIte, cpoly_len]
  refine call_by ((pbound_ok n)) (by rfl) (by simp) ?_
  simp (disch := omega) only [wk, tis, Int.reduceNe, Int.reduceEq, Int.reduceLT, Int.reduceLE, Int.reduceAdd, Int.reduceSub, Int.reduceNeg, Int.reduceMul, Int.reduceToNat, Nat.reduceSub, Nat.reduceMul, Nat.reduceLeDiff, Nat.reduceAdd, Nat.reduceLT, Nat.reduceEqDiff, reduceCtorEq, ↓reduceIte, cpoly_len]
  by_cases h1 : n < 0
  · have : ¬ (0 ≤ n ∧ n ≤ 1000) := by omega
    simp (disch := omega) only [wk, tis, Int.reduceNe, Int.reduceEq, Int.reduceLT, Int.reduceLE, Int.reduceAdd, Int.reduceSub, Int.reduceNeg, Int.reduceMul, Int.reduceToNat, Nat.reduceSub, Nat.reduceMul, Nat.reduceLeDiff, Nat.reduceAdd, Nat.reduceLT, Nat.reduceEqDiff, reduceCtorEq, ↓reduceIte, cpoly_len, h1, this]
    rfl
  by_cases h2 : 1000 < n
  · have : ¬ (0 ≤ n ∧ n ≤ 1000) := by omega
    simp (disch := omega) only [wk, tis, Int.reduceNe, Int.reduceEq, Int.reduceLT, Int.reduceLE, Int.reduceAdd, Int.reduceSub, Int.reduceNeg, Int.reduceMul, Int.reduceToNat, Nat.reduceSub, Nat.reduceMul, Nat.reduceLeDiff, Nat.reduceAdd, Nat.reduceLT, Nat.reduceEqDiff, reduceCtorEq, ↓reduceIte, cpoly_len, h1, h2, this]
    rfl
  have h3 : 0 ≤ n ∧ n ≤ 1000 := by omega
  obtain ⟨m, rfl⟩ := Int.eq_ofNat_of_zero_le h3.1
  have hm : m ≤ 1000 := by omega
  simp (disch := omega) only [wk, tis, Int.reduceNe, Int.reduceEq, Int.reduceLT, Int.reduceLE, Int.reduceAdd, Int.reduceSub, Int.reduceNeg, Int.reduceMul, Int.reduceToNat, Nat.reduceSub, Nat.reduceMul, Nat.reduceLeDiff, Nat.reduceAdd, Nat.reduceLT, Nat.reduceEqDiff, reduceCtorEq, ↓reduceIte, cpoly_len, h1, h2, h3]
  refine call_by ((zOf_ok 1 (by omega) (by omega))) (by first | rfl | (simp only [tocvs, tocv, h1, h2]; rfl)) (by simp) ?_
  simp (disch := omega) only [wk, tis, Int.reduceNe, Int.reduceEq, Int.reduceLT, Int.reduceLE, Int.reduceAdd, Int.reduceSub, Int.reduceNeg, Int.reduceMul, Int.reduceToNat, Nat.reduceSub, Nat.reduceMul, Nat.reduceLeDiff, Nat.reduceAdd, Nat.reduceLT, Nat.reduceEqDiff, reduceCtorEq, ↓reduceIte, cpoly_len, h1, h2]
  refine call_by ((pnorm_ok p (h.mono (by omega) (by omega)))) (by first | rfl | (simp only [tocvs, tocv, h1, h2]; rfl)) (by simp) ?_
  simp (disch := omega) only [wk, tis, Int.reduceNe, Int.reduceEq, Int.reduceLT, Int.reduceLE, Int.reduceAdd, Int.reduceSub, Int.reduceNeg, Int.reduceMul, Int.reduceToNat, Nat.reduceSub, Nat.reduceMul, Nat.reduceLeDiff, Nat.reduceAdd, Nat.reduceLT, Nat.reduceEqDiff, reduceCtorEq, ↓reduceIte, cpoly_len, h1, h2]
  have hb : ∀ x, x ≤ 1000 → PB (2 ^ 30) (2 ^ 35) (ppow (pv p) x) := fun x hx => ((h.pv.ppow (by decide)) x).mono (by omega) (by omega)
  have e1 : cpoly (pv p) = cpoly (ppow (pv p) 1) := cpoly_ext (ps_eq (by rw [ps_ppow, PS.pw_one]))
  refine aloop_w (.iv 7 15 1 false 40 2 [prow (canon 1)] (by simp (disch := omega) only [wk, tis, Int.reduceNe, Int.reduceEq, Int.reduceLT, Int.reduceLE, Int.reduceAdd, Int.reduceSub, Int.reduceNeg, Int.reduceMul, Int.reduceToNat, Nat.reduceSub, Nat.reduceMul, Nat.reduceLeDiff, Nat.reduceAdd, Nat.reduceLT, Nat.reduceEqDiff, reduceCtorEq, ↓reduceIte, cpoly_len]) (by simp (disch := omega) only [wk, tis, Int.reduceNe, Int.reduceEq, Int.reduceLT, Int.reduceLE, Int.reduceAdd, Int.reduceSub, Int.reduceNeg, Int.reduceMul, Int.reduceToNat, Nat.reduceSub, Nat.reduceMul, Nat.reduceLeDiff, Nat.reduceAdd, Nat.reduceLT, Nat.reduceEqDiff, reduceCtorEq, ↓reduceIte, cpoly_len]) (.refl _ _)) (fun f H => ∃ (x y r : Nat), x + y * r = m ∧ (0 < r → y ≤ m) ∧ 0 < y ∧ f 1 = .iv (.int .i64 r) ∧ f 7 = .iv (.sl (cpoly (ppow (pv p) x))) ∧ f 8 = .iv (.sl (cpoly (ppow (pv p) y)))) (fun f H => (intAt f 1).toNat) ?_ ?_
  · refine ⟨0, 1, m, by omega, fun _ => by omega, by omega, ?_⟩
    simp (disch := omega) only [wk, tis, Int.reduceNe, Int.reduceEq, Int.reduceLT, Int.reduceLE, Int.reduceAdd, Int.reduceSub, Int.reduceNeg, Int.reduceMul, Int.reduceToNat, Nat.reduceSub, Nat.reduceMul, Nat.reduceLeDiff, Nat.reduceAdd, Nat.reduceLT, Nat.reduceEqDiff, reduceCtorEq, ↓reduceIte, cpoly_len, e1, ppow, cpoly_one]
  rintro f H ⟨x, y, r, hx, hy, hy0, hF⟩
  rw [intAt_of hF.1]
  simp (disch := omega) only [wk, tis, Int.reduceNe, Int.reduceEq, Int.reduceLT, Int.reduceLE, Int.reduceAdd, Int.reduceSub, Int.reduceNeg, Int.reduceMul, Int.reduceToNat, Nat.reduceSub, Nat.reduceMul, Nat.reduceLeDiff, Nat.reduceAdd, Nat.reduceLT, Nat.reduceEqDiff, reduceCtorEq, ↓reduceIte, cpoly_len, hF]
  refine if_by (fun hr => ?_) (fun hr => ?_)
  · have hy := hy (by omega)
    have hr1 : r ≤ m := by
      have : 1 * r ≤ y * r := Nat.mul_le_mul_right _ hy0
      omega
    have hxm : x + y ≤ m := by
      have : y * 1 ≤ y * r := Nat.mul_le_mul_left _ (by omega)
      omega
    have et : (r : Int).tmod 2 = ((r % 2 : Nat) : Int) := by rw [Int.tmod_eq_emod_of_nonneg (by omega)]; rfl
    have ed : (r : Int).tdiv 2 = ((r / 2 : Nat) : Int) := by rw [Int.tdiv_eq_ediv_of_nonneg (by omega)]; rfl
    simp (disch := omega) only [wk, tis, Int.reduceNe, Int.reduceEq, Int.reduceLT, Int.reduceLE, Int.reduceAdd, Int.reduceSub, Int.reduceNeg, Int.reduceMul, Int.reduceToNat, Nat.reduceSub, Nat.reduceMul, Nat.reduceLeDiff, Nat.reduceAdd, Nat.reduceLT, Nat.reduceEqDiff, reduceCtorEq, ↓reduceIte, cpoly_len, hF, et]
    have next : ∀ (x' y' : Nat), x' = (if r % 2 = 1 then x + y else x) → (y' = y + y ∨ r ≤ 1 ∧ y' = y) → x' + y' * (r / 2) = m ∧ (0 < r / 2 → y' ≤ m) ∧ 0 < y' := by
      intro x' y' ex ey
      have hd := Nat.div_add_mod r 2
      have e2 : y * r = (y + y) * (r / 2) + y * (r % 2) := by
        rw [← Nat.two_mul, Nat.mul_comm 2 y, Nat.mul_assoc, ← Nat.mul_add, hd]
      rcases ey with rfl | ⟨h1, rfl⟩
      · refine ⟨?_, fun h0 => ?_, by omega⟩
        · rcases Nat.mod_two_eq_zero_or_one r with h | h <;> simp [h] at ex e2 <;> omega
        · have : (y + y) * 1 ≤ (y + y) * (r / 2) := Nat.mul_le_mul_left _ h0
          omega
      · have : r = 1 := by omega
        subst this
        simp at ex ⊢
        omega
    refine if_by (fun hodd => ?_) (fun hodd => ?_)
    · have hodd : r % 2 = 1 := by omega
      simp (disch := omega) only [wk, tis, Int.reduceNe, Int.reduceEq, Int.reduceLT, Int.reduceLE, Int.reduceAdd, Int.reduceSub, Int.reduceNeg, Int.reduceMul, Int.reduceToNat, Nat.reduceSub, Nat.reduceMul, Nat.reduceLeDiff, Nat.reduceAdd, Nat.reduceLT, Nat.reduceEqDiff, reduceCtorEq, ↓reduceIte, cpoly_len, hF]
      refine call_by ((pmul_cn (s := ppow (pv p) (x + y)) (hb x (by omega)) (hb y (by omega)) (by rw [ps_ppow, ps_ppow, ps_ppow, PS.pw_add]))) (by first | rfl | (simp only [tocvs, tocv, hF]; rfl)) (by simp) ?_
      simp (disch := omega) only [wk, tis, Int.reduceNe, Int.reduceEq, Int.reduceLT, Int.reduceLE, Int.reduceAdd, Int.reduceSub, Int.reduceNeg, Int.reduceMul, Int.reduceToNat, Nat.reduceSub, Nat.reduceMul, Nat.reduceLeDiff, Nat.reduceAdd, Nat.reduceLT, Nat.reduceEqDiff, reduceCtorEq, ↓reduceIte, cpoly_len, hF]
      refine if_by (fun h1 => ?_) (fun h1 => ?_)
      · simp (disch := omega) only [wk, tis, Int.reduceNe, Int.reduceEq, Int.reduceLT, Int.reduceLE, Int.reduceAdd, Int.reduceSub, Int.reduceNeg, Int.reduceMul, Int.reduceToNat, Nat.reduceSub, Nat.reduceMul, Nat.reduceLeDiff, Nat.reduceAdd, Nat.reduceLT, Nat.reduceEqDiff, reduceCtorEq, ↓reduceIte, cpoly_len, hF]
        refine call_by ((pmul_cn (s := ppow (pv p) (y + y)) (hb y (by omega)) (hb y (by omega)) (by rw [ps_ppow, ps_ppow, PS.pw_add]))) (by first | rfl | (simp only [tocvs, tocv, hF, ed]; rfl)) (by simp) ?_
        simp (disch := omega) only [wk, tis, Int.reduceNe, Int.reduceEq, Int.reduceLT, Int.reduceLE, Int.reduceAdd, Int.reduceSub, Int.reduceNeg, Int.reduceMul, Int.reduceToNat, Nat.reduceSub, Nat.reduceMul, Nat.reduceLeDiff, Nat.reduceAdd, Nat.reduceLT, Nat.reduceEqDiff, reduceCtorEq, ↓reduceIte, cpoly_len, hF, ed]
        obtain ⟨a1, a2, a3⟩ := next (x + y) (y + y) (by rw [if_pos hodd]) (.inl rfl)
        exact ⟨⟨x + y, y + y, r / 2, a1, a2, a3, rfl, rfl, rfl⟩, by omega⟩
      · simp (disch := omega) only [wk, tis, Int.reduceNe, Int.reduceEq, Int.reduceLT, Int.reduceLE, Int.reduceAdd, Int.reduceSub, Int.reduceNeg, Int.reduceMul, Int.reduceToNat, Nat.reduceSub, Nat.reduceMul, Nat.reduceLeDiff, Nat.reduceAdd, Nat.reduceLT, Nat.reduceEqDiff, reduceCtorEq, ↓reduceIte, cpoly_len, hF, ed]
        obtain ⟨a1, a2, a3⟩ := next (x + y) y (by rw [if_pos hodd]) (.inr ⟨by omega, rfl⟩)
        exact ⟨⟨x + y, y, r / 2, a1, a2, a3, rfl, rfl, rfl⟩, by omega⟩
    · have hodd : ¬ r % 2 = 1 := by omega
      simp (disch := omega) only [wk, tis, Int.reduceNe, Int.reduceEq, Int.reduceLT, Int.reduceLE, Int.reduceAdd, Int.reduceSub, Int.reduceNeg, Int.reduceMul, Int.reduceToNat, Nat.reduceSub, Nat.reduceMul, Nat.reduceLeDiff, Nat.reduceAdd, Nat.reduceLT, Nat.reduceEqDiff, reduceCtorEq, ↓reduceIte, cpoly_len, hF]
      refine if_by (fun h1 => ?_) (fun h1 => ?_)
      · simp (disch := omega) only [wk, tis, Int.reduceNe, Int.reduceEq, Int.reduceLT, Int.reduceLE, Int.reduceAdd, Int.reduceSub, Int.reduceNeg, Int.reduceMul, Int.reduceToNat, Nat.reduceSub, Nat.reduceMul, Nat.reduceLeDiff, Nat.reduceAdd, Nat.reduceLT, Nat.reduceEqDiff, reduceCtorEq, ↓reduceIte, cpoly_len, hF]
        refine call_by ((pmul_cn (s := ppow (pv p) (y + y)) (hb y (by omega)) (hb y (by omega)) (by rw [ps_ppow, ps_ppow, PS.pw_add]))) (by first | rfl | (simp only [tocvs, tocv, hF, ed]; rfl)) (by simp) ?_
        simp (disch := omega) only [wk, tis, Int.reduceNe, Int.reduceEq, Int.reduceLT, Int.reduceLE, Int.reduceAdd, Int.reduceSub, Int.reduceNeg, Int.reduceMul, Int.reduceToNat, Nat.reduceSub, Nat.reduceMul, Nat.reduceLeDiff, Nat.reduceAdd, Nat.reduceLT, Nat.reduceEqDiff, reduceCtorEq, ↓reduceIte, cpoly_len, hF, ed]
        obtain ⟨a1, a2, a3⟩ := next x (y + y) (by rw [if_neg hodd]) (.inl rfl)
        exact ⟨⟨x, y + y, r / 2, a1, a2, a3, rfl, rfl, rfl⟩, by omega⟩
      · simp (disch := omega) only [wk, tis, Int.reduceNe, Int.reduceEq, Int.reduceLT, Int.reduceLE, Int.reduceAdd, Int.reduceSub, Int.reduceNeg, Int.reduceMul, Int.reduceToNat, Nat.reduceSub, Nat.reduceMul, Nat.reduceLeDiff, Nat.reduceAdd, Nat.reduceLT, Nat.reduceEqDiff, reduceCtorEq, ↓reduceIte, cpoly_len, hF, ed]
        obtain ⟨a1, a2, a3⟩ := next x y (by rw [if_neg hodd]) (.inr ⟨by omega, rfl⟩)
        exact ⟨⟨x, y, r / 2, a1, a2, a3, rfl, rfl, rfl⟩, by omega⟩
  · simp (disch := omega) only [wk, tis, Int.reduceNe, Int.reduceEq, Int.reduceLT, Int.reduceLE, Int.reduceAdd, Int.reduceSub, Int.reduceNeg, Int.reduceMul, Int.reduceToNat, Nat.reduceSub, Nat.reduceMul, Nat.reduceLeDiff, Nat.reduceAdd, Nat.reduceLT, Nat.reduceEqDiff, reduceCtorEq, ↓reduceIte, cpoly_len, hF]
    obtain rfl : r = 0 := by omega
    obtain rfl : x = m := by omega
    rfl

/-- The greatest size, and 1. -/
def msz (l : List RI) : Nat := l.foldl (fun s c => max s c.2.length) 1

theorem msz_take {l : List RI} {i : Nat} (h : i < l.length) : msz (l.take (i + 1)) = max (msz (l.take i)) (l.getD i (false, [])).2.length := by
  have : l.take (i + 1) = l.take i ++ [l.getD i (false, [])] := by
    rw [List.take_add_one]; congr 1; simp [List.getD, h]
  rw [this, msz, List.foldl_append]; rfl

theorem msz_le {n k : Nat} {l : List RI} (h : RP n k l) : ∀ i, i ≤ l.length → msz (l.take i) ≤ max 1 k
  | 0, _ => by simp [msz]; omega
  | i + 1, hi => by
    have h1 := msz_le h i (by omega)
    have h2 := (h.get i).1
    rw [msz_take (by omega)]; omega

/-- Is the power too great to be reckoned? -/
def hvy (p : List RI) (n : Int) : Bool := decide (0 < n) && (decide (40 < n) || decide (4000 < ((p.length * msz p * n.toNat * n.toNat : Nat) : Int)))

theorem heavy_ok (p : List RI) (n : Int) (h : RP 40 200 p) : AC Try.prog 22 [cw p, ci n] none [cb (hvy p n)] := by
  refine AC.by_walk (rs := [.tmp 4]) ords Try.func22 (by rfl) (by rfl) (by rfl) (by rfl) (by rfl) ?_
  have hl := h.1
  simp (disch := omega) only [wk, tis, Int.reduceNe, Int.reduceEq, Int.reduceLT, Int.reduceLE, Int.reduceAdd, Int.reduceSub, Int.reduceNeg, Int.reduceMul, Int.reduceToNat, Nat.reduceSub, Nat.reduceMul, Nat.reduceLeDiff, Nat.reduceAdd, Nat.reduceLT, Nat.reduceEqDiff, reduceCtorEq, ↓reduceIte, cpoly_len]
  refine aloop_by (fun f H => ∃ (i s : Nat), i ≤ p.length ∧ s = msz (p.take i) ∧ f 9 = .iv (.int .i64 i) ∧ f 0 = .iv (.sl (raws p)) ∧ f 1 = .iv (.int .i64 n) ∧ f 5 = .iv (.int .i64 s) ∧ f 8 = .iv (.int .i64 p.length)) (fun f H => (p.length - intAt f 9).toNat) ?_ ?_
  · refine ⟨0, 1, by omega, by simp [msz], ?_⟩
    simp (disch := omega) only [wk, tis, Int.reduceNe, Int.reduceEq, Int.reduceLT, Int.reduceLE, Int.reduceAdd, Int.reduceSub, Int.reduceNeg, Int.reduceMul, Int.reduceToNat, Nat.reduceSub, Nat.reduceMul, Nat.reduceLeDiff, Nat.reduceAdd, Nat.reduceLT, Nat.reduceEqDiff, reduceCtorEq, ↓reduceIte, cpoly_len]
  rintro f H ⟨i, s, hi, hs, hF⟩
  rw [intAt_of hF.1]
  simp (disch := omega) only [wk, tis, Int.reduceNe, Int.reduceEq, Int.reduceLT, Int.reduceLE, Int.reduceAdd, Int.reduceSub, Int.reduceNeg, Int.reduceMul, Int.reduceToNat, Nat.reduceSub, Nat.reduceMul, Nat.reduceLeDiff, Nat.reduceAdd, Nat.reduceLT, Nat.reduceEqDiff, reduceCtorEq, ↓reduceIte, cpoly_len, hF]
  have hms := msz_le h i hi
  refine if_by (fun hlt => ?_) (fun hlt => ?_)
  · simp (disch := omega) only [wk, tis, Int.reduceNe, Int.reduceEq, Int.reduceLT, Int.reduceLE, Int.reduceAdd, Int.reduceSub, Int.reduceNeg, Int.reduceMul, Int.reduceToNat, Nat.reduceSub, Nat.reduceMul, Nat.reduceLeDiff, Nat.reduceAdd, Nat.reduceLT, Nat.reduceEqDiff, reduceCtorEq, ↓reduceIte, cpoly_len, hF]
    have hg := (h.get i).1
    have hm := msz_take (l := p) (i := i) (by omega)
    refine if_by (fun hgt => ?_) (fun hgt => ?_)
    · simp (disch := omega) only [wk, tis, Int.reduceNe, Int.reduceEq, Int.reduceLT, Int.reduceLE, Int.reduceAdd, Int.reduceSub, Int.reduceNeg, Int.reduceMul, Int.reduceToNat, Nat.reduceSub, Nat.reduceMul, Nat.reduceLeDiff, Nat.reduceAdd, Nat.reduceLT, Nat.reduceEqDiff, reduceCtorEq, ↓reduceIte, cpoly_len, hF]
      exact ⟨⟨i + 1, _, by omega, hm.symm ▸ by omega, by omega, rfl⟩, by omega⟩
    · simp (disch := omega) only [wk, tis, Int.reduceNe, Int.reduceEq, Int.reduceLT, Int.reduceLE, Int.reduceAdd, Int.reduceSub, Int.reduceNeg, Int.reduceMul, Int.reduceToNat, Nat.reduceSub, Nat.reduceMul, Nat.reduceLeDiff, Nat.reduceAdd, Nat.reduceLT, Nat.reduceEqDiff, reduceCtorEq, ↓reduceIte, cpoly_len, hF]
      exact ⟨⟨i + 1, _, by omega, hm.symm ▸ by omega, by omega, rfl⟩, by omega⟩
  · have hip : i = p.length := by omega
    subst hip
    rw [List.take_length] at hs hms
    subst hs
    clear hlt
    by_cases h0 : 0 < n
    · by_cases h1 : 40 < n
      · simp (disch := omega) only [wk, tis, Int.reduceNe, Int.reduceEq, Int.reduceLT, Int.reduceLE, Int.reduceAdd, Int.reduceSub, Int.reduceNeg, Int.reduceMul, Int.reduceToNat, Nat.reduceSub, Nat.reduceMul, Nat.reduceLeDiff, Nat.reduceAdd, Nat.reduceLT, Nat.reduceEqDiff, reduceCtorEq, ↓reduceIte, cpoly_len, hF, h0, h1]
        simp [hvy, h0, h1]
      · obtain ⟨m, rfl⟩ := Int.eq_ofNat_of_zero_le (show 0 ≤ n by omega)
        have b1 : p.length * msz p ≤ 40 * 200 := Nat.mul_le_mul hl (by omega)
        have b2 : p.length * msz p * m ≤ 40 * 200 * 40 := Nat.mul_le_mul b1 (by omega)
        have b3 : p.length * msz p * m * m ≤ 40 * 200 * 40 * 40 := Nat.mul_le_mul b2 (by omega)
        have w1 : (p.length : Int) * (msz p : Int) = ((p.length * msz p : Nat) : Int) := rfl
        have w2 : ((p.length * msz p : Nat) : Int) * (m : Int) = ((p.length * msz p * m : Nat) : Int) := rfl
        have w3 : ((p.length * msz p * m : Nat) : Int) * (m : Int) = ((p.length * msz p * m * m : Nat) : Int) := rfl
        generalize hx1 : p.length * msz p = x1 at *
        generalize hx2 : x1 * m = x2 at *
        generalize hx3 : x2 * m = x3 at *
        simp (disch := omega) only [wk, tis, Int.reduceNe, Int.reduceEq, Int.reduceLT, Int.reduceLE, Int.reduceAdd, Int.reduceSub, Int.reduceNeg, Int.reduceMul, Int.reduceToNat, Nat.reduceSub, Nat.reduceMul, Nat.reduceLeDiff, Nat.reduceAdd, Nat.reduceLT, Nat.reduceEqDiff, reduceCtorEq, ↓reduceIte, cpoly_len, hF, h0, h1, w1, w2, w3]
        simp [hvy, h0, h1, hx1, hx2, hx3]; intro _; omega
    · simp (disch := omega) only [wk, tis, Int.reduceNe, Int.reduceEq, Int.reduceLT, Int.reduceLE, Int.reduceAdd, Int.reduceSub, Int.reduceNeg, Int.reduceMul, Int.reduceToNat, Nat.reduceSub, Nat.reduceMul, Nat.reduceLeDiff, Nat.reduceAdd, Nat.reduceLT, Nat.reduceEqDiff, reduceCtorEq, ↓reduceIte, cpoly_len, hF, h0]
      simp [hvy, h0]

end Go.Proofs.Ythgecppfgdadiaa
