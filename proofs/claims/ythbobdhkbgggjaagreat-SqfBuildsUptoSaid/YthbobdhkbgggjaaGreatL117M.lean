/-
  Contracts of the functions that the law reaches.
-/
import Derived.Test.YthbobdhkbgggjaaGreatL59M
import Derived.Test.YthbobdhkbgggjaaGreatAbsT
import Derived.Test.YthbobdhkbgggjaaGreatL18M
import Derived.Test.YthbobdhkbgggjaaGreatL36M
import Derived.Test.YthbobdhkbgggjaaGreatL1M
import Derived.Test.YthbobdhkbgggjaaGreatTyA
import Derived.MapKept
import Derived.Maps.RangeRun
set_option maxHeartbeats 2000000
namespace Go.Proofs.YthbobdhkbgggjaaGreat
open Go Go.Proofs Go.AL
set_option linter.unusedSimpArgs false
set_option linter.unusedVariables false
end Go.Proofs.YthbobdhkbgggjaaGreat

namespace Go.Proofs.YthbobdhkbgggjaaGreat
open Go Go.Proofs Go.AL
set_option linter.unusedSimpArgs false
set_option linter.unusedVariables false
end Go.Proofs.YthbobdhkbgggjaaGreat

namespace Go.Proofs.YthbobdhkbgggjaaGreat
open Go Go.Proofs Go.AL
set_option linter.unusedSimpArgs false
set_option linter.unusedVariables false
def fma (c : Rat) (a b : Rat) : Rat := a + c * b
end Go.Proofs.YthbobdhkbgggjaaGreat

namespace Go.Proofs.YthbobdhkbgggjaaGreat
open Go Go.Proofs Go.AL
set_option linter.unusedSimpArgs false
set_option linter.unusedVariables false
end Go.Proofs.YthbobdhkbgggjaaGreat

namespace Go.Proofs.YthbobdhkbgggjaaGreat
open Go Go.Proofs Go.AL
set_option linter.unusedSimpArgs false
set_option linter.unusedVariables false
def upq (c : Rat) (n : Nat) : List Rat := List.replicate n 0 ++ [c]
def dc (A B : List Rat) : Rat := cfq A (A.length - 1) / cfq B (B.length - 1)
def dn1 (A B : List Rat) : List Rat := trimq (zipq (fma (-1)) A (mulq (upq (dc A B) (A.length - B.length)) B))
def dit (A B : List Rat) : Nat → List Rat
  | 0 => A
  | k + 1 => dn1 (dit A B k) B
def dqu (A B : List Rat) : Nat → List Rat
  | 0 => []
  | k + 1 => zipq (fma 1) (dqu A B k) (upq (dc (dit A B k) B) ((dit A B k).length - B.length))
theorem CD.cf {D n M : Nat} {q : List Rat} (h : CB D n M q) (k : Nat) : CD D M (cfq q k) := by
  by_cases hk : k < q.length
  · rw [cfq_lt hk]; exact h.c _ (List.getElem_mem hk)
  · rw [cfq_ge (by omega)]; exact CD.zero _ _
end Go.Proofs.YthbobdhkbgggjaaGreat

namespace Go.Proofs.YthbobdhkbgggjaaGreat
open Go Go.Proofs Go.AL
set_option linter.unusedSimpArgs false
set_option linter.unusedVariables false
theorem CD.den_dvd {D M : Nat} {q : Rat} (hD : D ≠ 0) (h : CD D M q) : q.den ∣ D := by
  obtain ⟨z, e, hz⟩ := h
  have h1 := natr_ne hD
  have h2 := natr_ne q.den_nz
  have h3 : (q.num : Rat) / (q.den : Rat) = (z : Rat) / (D : Rat) := by
    rw [← e, ← Rat.mkRat_eq_div]; exact Rat.mkRat_self q
  have h4 : (q.num : Rat) * (D : Rat) = (z : Rat) * (q.den : Rat) := by grind
  have h5 : q.num * (D : Int) = z * (q.den : Int) := by
    rw [← Rat.intCast_natCast, ← Rat.intCast_natCast, ← Rat.intCast_mul, ← Rat.intCast_mul] at h4
    exact Rat.intCast_inj.mp h4
  have h6 : q.den ∣ q.num.natAbs * D := ⟨z.natAbs, by
    have := congrArg Int.natAbs h5
    rw [Int.natAbs_mul, Int.natAbs_mul, Int.natAbs_natCast, Int.natAbs_natCast] at this
    rw [this, Nat.mul_comm]⟩
  exact (q.reduced.symm).dvd_of_dvd_mul_left h6
theorem qsum_cd {D M n : Nat} {f : Nat → Rat} (h : ∀ i, i < n → CD D M (f i)) : CD D (M + n) (qsum n f) := by
  induction n with
  | zero => exact CD.zero _ _
  | succ n ih =>
    have h1 := ih fun i hi => h i (by omega)
    have h2 := h n (by omega)
    exact (h1.add h2).mono (by omega)
theorem lcmL_dvd {D : Nat} : ∀ (l : List Nat) (i : Nat), (∀ x ∈ l, x ∣ D) → lcmL (l.take i) ∣ D
  | l, 0, _ => by rw [List.take_zero]; exact Nat.one_dvd _
  | l, i + 1, h => by
    by_cases hi : i < l.length
    · rw [lcmL_take hi]
      refine Nat.lcm_dvd (lcmL_dvd l i h) (h _ ?_)
      rw [List.getD, List.getElem?_eq_getElem hi, Option.getD_some]
      exact List.getElem_mem hi
    · rw [List.take_of_length_le (by omega), ← List.take_of_length_le (l := l) (i := i) (by omega)]
      exact lcmL_dvd l i h
theorem CB.dens_dvd {D n M : Nat} {A : List Rat} (h : CB D n M A) : ∀ x ∈ dens A, x ∣ D := fun x hx => by
  obtain ⟨c, hc, rfl⟩ := List.mem_map.1 hx
  exact (h.c c hc).den_dvd h.d
theorem CB.lcm_len {D n M : Nat} {A : List Rat} (h : CB D n M A) (i : Nat) : (wd (lcmL ((dens A).take i))).length ≤ M :=
  Nat.le_trans (wd_len_mono (Nat.le_of_dvd (Nat.pos_of_ne_zero h.d) (lcmL_dvd _ i h.dens_dvd))) h.w
theorem CB.cden_dvd {D n M : Nat} {A : List Rat} (h : CB D n M A) : cden A ∣ D := by
  have := lcmL_dvd (dens A) (dens A).length h.dens_dvd
  rwa [List.take_length] at this
theorem CB.cden_len {D n M : Nat} {A : List Rat} (h : CB D n M A) : (wd (cden A)).length ≤ M :=
  Nat.le_trans (wd_len_mono (Nat.le_of_dvd (Nat.pos_of_ne_zero h.d) h.cden_dvd)) h.w
theorem CB.mulq {D E n m M N : Nat} {A B : List Rat} (hA : CB D n M A) (hB : CB E m N B) : CB (D * E) (n + m) (M + N + (n + m)) (mulq A B) where
  d := Nat.mul_ne_zero hA.d hB.d
  w := by
    have h1 := AL.wd_mul_len D E
    have h2 := hA.w
    have h3 := hB.w
    omega
  l := by
    simp only [mulq_def, List.length_map, List.length_range]
    have := hA.l
    have := hB.l
    omega
  c := fun c hc => by
    obtain ⟨k, hk, rfl⟩ := List.getElem_of_mem hc
    have hl : k < n + m := by
      simp only [mulq_def, List.length_map, List.length_range] at hk
      have := hA.l
      have := hB.l
      omega
    rw [← cfq_lt hk, cfq_mulq, PQ.cvq_conv]
    exact (qsum_cd (n := k + 1) (f := fun i => cfq A i * cfq B (k - i)) fun i _ => CD.mul hA.d hB.d (CD.cf hA _) (CD.cf hB _)).mono (by omega)
end Go.Proofs.YthbobdhkbgggjaaGreat

namespace Go.Proofs.YthbobdhkbgggjaaGreat
open Go Go.Proofs Go.AL
set_option linter.unusedSimpArgs false
set_option linter.unusedVariables false
end Go.Proofs.YthbobdhkbgggjaaGreat

namespace Go.Proofs.YthbobdhkbgggjaaGreat
open Go Go.Proofs Go.AL
set_option linter.unusedSimpArgs false
set_option linter.unusedVariables false
structure DV (A B : List Rat) (n K : Nat) : Prop where
  la : A.length ≤ 2 ^ 28
  lb : B.length ≤ 2 ^ 28
  h0 : B.length ≠ 0
  hb : cfq B (B.length - 1) ≠ 0
  ta : trimq A = A
  tb : trimq B = B
  en : (dit A B n).length < B.length
  hj : ∀ j, j < n → B.length ≤ (dit A B j).length
  za : ∀ k, k ≤ n → ∀ i, qz (cfq (dit A B k) i) ≤ K
  zb : ∀ i, qz (cfq B i) ≤ K
  k1 : 1 ≤ K
  k2 : K ≤ 2 ^ 32
def hrows : HC → Nat
  | .blk _ _ _ _ rows => rows.length
  | _ => 0
end Go.Proofs.YthbobdhkbgggjaaGreat

namespace Go.Proofs.YthbobdhkbgggjaaGreat
open Go Go.Proofs Go.AL
set_option linter.unusedSimpArgs false
set_option linter.unusedVariables false
end Go.Proofs.YthbobdhkbgggjaaGreat

namespace Go.Proofs.YthbobdhkbgggjaaGreat
open Go Go.Proofs Go.AL
set_option linter.unusedSimpArgs false
set_option linter.unusedVariables false
end Go.Proofs.YthbobdhkbgggjaaGreat

namespace Go.Proofs.YthbobdhkbgggjaaGreat
open Go Go.Proofs Go.AL
set_option linter.unusedSimpArgs false
set_option linter.unusedVariables false
def PWH (A : List Rat) (m N K : Nat) : Prop := ∀ k, k ≤ m → ∃ D, CB D N K (powq A k)
structure PWK (A : List Rat) (m N K : Nat) : Prop where
  h : ∀ k, k ≤ m → ∃ D, CB D N K (trimq (powq A k))
theorem PWH.k {A : List Rat} {m N K : Nat} (h : PWH A m N K) : PWK A m N K := ⟨fun k hk => by
  obtain ⟨D, hD⟩ := h k hk
  exact ⟨D, hD.trim⟩⟩
theorem PWK.mono {A : List Rat} {m N K N' K' : Nat} (h : PWK A m N K) (hN : N ≤ N') (hK : K ≤ K') : PWK A m N' K' := ⟨fun k hk => by
  obtain ⟨D, hD⟩ := h.h k hk
  exact ⟨D, hD.mono hN hK⟩⟩
theorem CB.part {D E n m M N : Nat} {A B : List Rat} (hA : CB D n M A) (hB : CB E m N B) (h1 : 1 ≤ M + N + (n + m)) (i k : Nat) : qz (cvq (A.take i) (cfq B) k) ≤ M + N + (n + m) := by
  have h := ((hA.sub (r := A.take i) (by rw [List.length_take]; have := hA.l; omega) fun c hc => List.mem_of_mem_take hc).mulq hB).qb.cz h1 k
  rwa [cfq_mulq] at h
end Go.Proofs.YthbobdhkbgggjaaGreat

namespace Go.Proofs.YthbobdhkbgggjaaGreat
open Go Go.Proofs Go.AL
set_option linter.unusedSimpArgs false
set_option linter.unusedVariables false
end Go.Proofs.YthbobdhkbgggjaaGreat

namespace Go.Proofs.YthbobdhkbgggjaaGreat
open Go Go.Proofs Go.AL
set_option linter.unusedSimpArgs false
set_option linter.unusedVariables false
def lineq (c : Rat) : List Rat := [-c, 1]
def froot (X : List Rat) (b : Nat) : Nat → List Rat
  | 0 => [1]
  | k + 1 => if k = b then froot X b k else mulq (froot X b k) (lineq (cfq X k))
theorem CB.addq {D E n m M N : Nat} {A B : List Rat} (hA : CB D n M A) (hB : CB E m N B) : CB (D * E) (max n m) (M + N + 1) (addq A B) where
  d := Nat.mul_ne_zero hA.d hB.d
  w := by
    have h1 := AL.wd_mul_len D E
    have h2 := hA.w
    have h3 := hB.w
    omega
  l := by
    simp only [Go.Proofs.YthbobdhkbgggjaaGreat.addq, List.length_map, List.length_range]
    have := hA.l
    have := hB.l
    omega
  c := fun c hc => by
    obtain ⟨k, hk, rfl⟩ := List.getElem_of_mem hc
    rw [← cfq_lt hk, cfq_addq]
    have h1 := CD.up hA.d hB.d hB.w (CD.cf hA k)
    have h2 := CD.up hB.d hA.d hA.w (CD.cf hB k)
    rw [Nat.mul_comm] at h2
    exact (h1.add h2).mono (by omega)
theorem CB.const {c : Rat} {K : Nat} (h : qz c ≤ K) : CB c.den 1 K [c] where
  d := c.den_nz
  w := Nat.le_trans (qz_parts c).2 h
  l := Nat.le_refl _
  c := fun x hx => by
    rcases List.mem_singleton.1 hx with rfl
    exact (CD.ofRat x).mono (Nat.le_trans (qz_parts x).1 h)
def newc (X Y S : List Rat) (k : Nat) : Rat := (cfq Y k - evq S (cfq X k)) / evq (froot X X.length k) (cfq X k)
def news (X Y : List Rat) : Nat → List Rat
  | 0 => []
  | k + 1 => addq (news X Y k) (sclq (newc X Y (news X Y k) k) (froot X X.length k))
end Go.Proofs.YthbobdhkbgggjaaGreat

namespace Go.Proofs.YthbobdhkbgggjaaGreat
open Go Go.Proofs Go.AL
set_option linter.unusedSimpArgs false
set_option linter.unusedVariables false
end Go.Proofs.YthbobdhkbgggjaaGreat

namespace Go.Proofs.YthbobdhkbgggjaaGreat
open Go Go.Proofs Go.AL
set_option linter.unusedSimpArgs false
set_option linter.unusedVariables false
end Go.Proofs.YthbobdhkbgggjaaGreat

namespace Go.Proofs.YthbobdhkbgggjaaGreat
open Go Go.Proofs Go.AL
set_option linter.unusedSimpArgs false
set_option linter.unusedVariables false
end Go.Proofs.YthbobdhkbgggjaaGreat

namespace Go.Proofs.YthbobdhkbgggjaaGreat
open Go Go.Proofs Go.AL
set_option linter.unusedSimpArgs false
set_option linter.unusedVariables false
end Go.Proofs.YthbobdhkbgggjaaGreat

namespace Go.Proofs.YthbobdhkbgggjaaGreat
open Go Go.Proofs Go.AL
set_option linter.unusedSimpArgs false
set_option linter.unusedVariables false
end Go.Proofs.YthbobdhkbgggjaaGreat

namespace Go.Proofs.YthbobdhkbgggjaaGreat
open Go Go.Proofs Go.AL
set_option linter.unusedSimpArgs false
set_option linter.unusedVariables false
end Go.Proofs.YthbobdhkbgggjaaGreat

namespace Go.Proofs.YthbobdhkbgggjaaGreat
open Go Go.Proofs Go.AL
set_option linter.unusedSimpArgs false
set_option linter.unusedVariables false
end Go.Proofs.YthbobdhkbgggjaaGreat

namespace Go.Proofs.YthbobdhkbgggjaaGreat
open Go Go.Proofs Go.AL
set_option linter.unusedSimpArgs false
set_option linter.unusedVariables false
end Go.Proofs.YthbobdhkbgggjaaGreat

namespace Go.Proofs.YthbobdhkbgggjaaGreat
open Go Go.Proofs Go.AL
set_option linter.unusedSimpArgs false
set_option linter.unusedVariables false
end Go.Proofs.YthbobdhkbgggjaaGreat

namespace Go.Proofs.YthbobdhkbgggjaaGreat
open Go Go.Proofs Go.AL
set_option linter.unusedSimpArgs false
set_option linter.unusedVariables false
theorem pover_bad (p : List RI) (c : RI) (hp : RP (2 ^ 30) (2 ^ 35) p) (hc : Sz (2 ^ 35) c) (h0 : iv c ≠ 0) (hb : ¬ ∀ k, iv c ∣ cf (pv p) k) : AC Tryz.prog 58 [cw p, cr c] none [cw [], ci 4] := by
  refine AC.by_walk (rs := [.tmp 4, .tmp 5]) ords Tryz.func58 (by rfl) (by rfl) (by rfl) (by rfl) (by rfl) ?_
  have hl := hp.1
  have hs0 : (iv c).sign ≠ 0 := fun h => h0 (Int.sign_eq_zero_iff_zero.mp h)
  simp (disch := omega) only [wk, tis, seval, reduceCtorEq, Nat.reduceEqDiff, cpoly_len]
  refine call_by ((zsign_ok c (hc.mono (by omega)))) (by rfl) (by simp) ?_
  simp (disch := omega) only [wk, tis, seval, reduceCtorEq, Nat.reduceEqDiff, cpoly_len]
  simp (disch := omega) only [wk, tis, seval, reduceCtorEq, Nat.reduceEqDiff, cpoly_len, hs0]
  refine aloop_by (fun f H => ∃ (i st st3 : Nat) (out : List RI), i ≤ p.length ∧ out.length = p.length ∧ (∀ k, k < i → iv c ∣ cf (pv p) k) ∧ f 18 = .iv (.int .i64 i) ∧ f 0 = .iv (.sl (raws p)) ∧ f 3 = .hp 3 st3 0 0 ∧ f 6 = .hs 15 st ∧ f 17 = .iv (.int .i64 p.length) ∧ H 15 = .blk false st 43 2 (raws out) ∧ H 3 = .blk false st3 43 2 [prow c]) (fun f H => (p.length - intAt f 18).toNat) ?_ ?_
  · refine ⟨0, 1, 1, List.replicate p.length (false, []), by omega, by simp, fun k hk => by omega, ?_⟩
    simp (disch := omega) only [wk, tis, seval, reduceCtorEq, Nat.reduceEqDiff, cpoly_len, Int.toNat_natCast]
  rintro f H ⟨i, st, st3, out, hi, hol, hv, hF⟩
  rw [intAt_of hF.1]
  simp (disch := omega) only [wk, tis, seval, reduceCtorEq, Nat.reduceEqDiff, cpoly_len, hF]
  refine if_by (fun hlt => ?_) (fun hlt => ?_)
  · by_cases hdv : iv c ∣ cf (pv p) i
    · have hdi := hdv
      rw [cf_pv] at hdi
      have m := zexact_ok (p.getD i (false, [])) c ((hp.get i).mono (by omega)) (hc.mono (by omega)) h0 hdi
      simp (disch := omega) only [wk, tis, seval, reduceCtorEq, Nat.reduceEqDiff, cpoly_len, hF]
      refine ⟨tmps_by (by kernel_rfl), ?_⟩
      refine call_by (m) (by first | rfl | (simp only [tocvs, tocv, hF]; rfl) | (simp only [tocvs, tocv, toboxes, tobox, updH_at, Nat.reduceEqDiff, ↓reduceIte, hF]; rfl)) (by simp) ?_
      simp (disch := omega) only [wk, tis, seval, reduceCtorEq, Nat.reduceEqDiff, cpoly_len, hF]
      first | exact log_by (by kernel_rfl) | refine ⟨log_by (by kernel_rfl), ?_⟩
      refine ⟨⟨i + 1, st, st3, out.set i (canon (iv (p.getD i (false, [])) / iv c)), by omega, by simpa using hol, fun k hk => ?_, by omega, rfl, rfl, rfl, rfl⟩, by omega⟩
      rcases Nat.lt_or_ge k i with hk' | hk'
      · exact hv k hk'
      · obtain rfl : k = i := by omega
        exact hdv
    · have hdi := hdv
      rw [cf_pv] at hdi
      have m := zexact_bad (p.getD i (false, [])) c ((hp.get i).mono (by omega)) (hc.mono (by omega)) h0 hdi
      simp (disch := omega) only [wk, tis, seval, reduceCtorEq, Nat.reduceEqDiff, cpoly_len, hF]
      refine ⟨tmps_by (by kernel_rfl), ?_⟩
      refine call_by (m) (by first | rfl | (simp only [tocvs, tocv, hF]; rfl) | (simp only [tocvs, tocv, toboxes, tobox, updH_at, Nat.reduceEqDiff, ↓reduceIte, hF]; rfl)) (by simp) ?_
      simp (disch := omega) only [wk, tis, seval, reduceCtorEq, Nat.reduceEqDiff, cpoly_len, hF]
      first | exact log_by (by kernel_rfl) | refine ⟨log_by (by kernel_rfl), ?_⟩
  · refine (hb fun k => ?_).elim
    rcases Nat.lt_or_ge k p.length with hk | hk
    · exact hv k (by omega)
    · rw [cf_ge (by rw [pv_len]; omega)]; exact Int.dvd_zero _
end Go.Proofs.YthbobdhkbgggjaaGreat

namespace Go.Proofs.YthbobdhkbgggjaaGreat
open Go Go.Proofs Go.AL
set_option linter.unusedSimpArgs false
set_option linter.unusedVariables false
structure OV (P R : List Int) (n K : Nat) : Prop where
  dv : DV (qp (trimz P)) (qp (trimz R)) n K
  w : decide ((dit (qp (trimz P)) (qp (trimz R)) n).length = 0) = dvb R P
  q : Dv R P → ∀ k, ((lc R ^ dxp P R : Int) : Rat) * cfq (dqu (qp (trimz P)) (qp (trimz R)) n) k = (cf (dq P R) k : Rat)
  s : Dv R P → ps (clr (dqu (qp (trimz P)) (qp (trimz R)) n)) * ps R = PS.C (cden (dqu (qp (trimz P)) (qp (trimz R)) n) : Int) * ps P
def exok (P R : List Int) : Bool := dvb R P && decide ((lc R ^ dxp P R) ∣ (gz (dq P R) : Int))
def exv (P R : List Int) : List Int := if tz R = 0 then [] else if exok P R then pdivs (lc R ^ dxp P R) (dq P R) else []
def exe (P R : List Int) : Int := if tz R = 0 then 1 else if exok P R then 0 else 4
theorem dvd_gz {c : Int} {q : List Int} : c ∣ (gz q : Int) ↔ ∀ k, c ∣ cf q k := by
  constructor
  · intro h k
    exact Int.dvd_trans h (gz_dvd q k)
  · intro h
    refine Int.natAbs_dvd.mp (Int.natCast_dvd_natCast.mpr (gz_greatest q c.natAbs fun k => Int.natAbs_dvd.mpr (h k)))
theorem pow_z {c : Int} {K : Nat} (h : zl c ≤ K) (n : Nat) (hn : n ≤ 41) : zl (c ^ n) ≤ 41 * K + 1 := by
  have h1 := zl_pow h n
  have h2 : n * K ≤ 41 * K := Nat.mul_le_mul_right _ hn
  omega
set_option maxRecDepth 100000 in
theorem pexact_ok (p q : List RI) (S : Nat) (hp : RP 40 S p) (hq : RP 40 S q) (hS : S ≤ 2 ^ 20) : AC Tryz.prog 61 [cw p, cw q] none [cp (exv (pv p) (pv q)), ci (exe (pv p) (pv q))] := by
  have hp' := hp.mono (Nat.le_refl 40) (show S ≤ 2 ^ 27 by omega)
  have hq' := hq.mono (Nat.le_refl 40) (show S ≤ 2 ^ 27 by omega)
  have sP := sb_rp hp
  have sQ := sb_rp hq
  by_cases h0 : tz (pv q) = 0
  · rw [exv, exe, if_pos h0, if_pos h0]
    have d := pdiv_zero p q hq' h0
    refine AC.by_walk (rs := [.tmp 4, .tmp 5]) ords Tryz.func61 (by rfl) (by rfl) (by rfl) (by rfl) (by rfl) ?_
    simp (disch := omega) only [wk, tis, seval, reduceCtorEq, Nat.reduceEqDiff, rqs, cpoly_len]
    refine call_by (d) (by rfl) (by simp) ?_
    simp (disch := omega) only [wk, tis, seval, reduceCtorEq, Nat.reduceEqDiff, rqs, cpoly_len]
    try rfl
  have d := pdiv_ok p q hp' hq' h0
  have t1 := tz_rp hp
  have t2 := tz_rp hq
  have tr := drem_tz (A := pv p) h0
  have td := dq_tz (A := pv p) h0
  obtain ⟨s1, s2⟩ := div_sz h0 sP sQ
  have hdx : dxp (pv p) (pv q) ≤ 41 := by unfold dxp; omega
  have hdm : dxp (pv p) (pv q) * (S + 1) ≤ 41 * (S + 1) := Nat.mul_le_mul_right _ hdx
  have dg := pdeg_n (a := cn (dr (pv p) (pv q))) (q := dr (pv p) (pv q)) ((rp_sb (D := 40) (k := 2 ^ 35) (by omega) (s2.mono (by omega))).mono (by omega) (by omega)) (ps_cn _)
  rw [exv, exe, if_neg h0, if_neg h0]
  by_cases hd : ¬ dvb (pv q) (pv p) = true
  · have hb : dvb (pv q) (pv p) = false := by simpa using hd
    have he : exok (pv p) (pv q) = false := by unfold exok; rw [hb]; rfl
    rw [he]
    have hr : ¬ tz (dr (pv p) (pv q)) = 0 := fun h => hd ((dvb_iff _ _).mpr ((dv_dr h0).mpr h))
    have hr' : (0 : Int) ≤ (tz (dr (pv p) (pv q)) : Int) - 1 := by omega
    refine AC.by_walk (rs := [.tmp 4, .tmp 5]) ords Tryz.func61 (by rfl) (by rfl) (by rfl) (by rfl) (by rfl) ?_
    simp (disch := omega) only [wk, tis, seval, reduceCtorEq, Nat.reduceEqDiff, rqs, cpoly_len]
    refine call_by (d) (by rfl) (by simp) ?_
    simp (disch := omega) only [wk, tis, seval, reduceCtorEq, Nat.reduceEqDiff, rqs, cpoly_len]
    refine call_by (dg) (by first | rfl | (simp only [tocvs, tocv, hr']; rfl) | (simp only [tocvs, tocv, toboxes, tobox, updH_at, Nat.reduceEqDiff, ↓reduceIte, hr']; rfl)) (by simp) ?_
    simp (disch := omega) only [wk, tis, seval, reduceCtorEq, Nat.reduceEqDiff, rqs, cpoly_len, hr']
    try rfl
  have hd : dvb (pv q) (pv p) = true := Classical.not_not.mp hd
  have hdr := (dv_dr h0).mp ((dvb_iff _ _).mp hd)
  have he : exok (pv p) (pv q) = decide ((lc (pv q) ^ dxp (pv p) (pv q)) ∣ (gz (dq (pv p) (pv q)) : Int)) := by unfold exok; rw [hd, Bool.true_and]
  rw [he]
  rw [hdr] at dg
  have o1 := zOf_ok 1 (by omega) (by omega)
  have le := plead_g (a := q) (q := pv q) (hq.mono (by omega) (by omega)) rfl
  have hlz : zl (lc (pv q)) ≤ S := sQ _
  have rD := rp_sb (D := 41) (k := 2 ^ 35) (by omega) (s1.mono (by omega))
  have hlp := lcp_ne h0 (dxp (pv p) (pv q))
  have hpz := pow_z hlz (dxp (pv p) (pv q)) hdx
  have key : ∃ (res : List Int) (e : Int), AC Tryz.prog 58 [cp (dq (pv p) (pv q)), cz (lc (pv q) ^ dxp (pv p) (pv q))] none [cp res, ci e] ∧ res = (if decide ((lc (pv q) ^ dxp (pv p) (pv q)) ∣ (gz (dq (pv p) (pv q)) : Int)) = true then pdivs (lc (pv q) ^ dxp (pv p) (pv q)) (dq (pv p) (pv q)) else []) ∧ e = (if decide ((lc (pv q) ^ dxp (pv p) (pv q)) ∣ (gz (dq (pv p) (pv q)) : Int)) = true then 0 else 4) := by
    by_cases hg : (lc (pv q) ^ dxp (pv p) (pv q)) ∣ (gz (dq (pv p) (pv q)) : Int)
    · rw [decide_eq_true hg]
      have ov := pover_ok (cn (dq (pv p) (pv q))) (canon (lc (pv q) ^ dxp (pv p) (pv q))) (rD.mono (by omega) (by omega)) ((sz_canon _).mono (by omega)) (by rw [iv_canon]; exact hlp) (fun k => by rw [iv_canon, cf_cn]; exact dvd_gz.mp hg k)
      rw [iv_canon, show cp (pdivs (lc (pv q) ^ dxp (pv p) (pv q)) (pv (cn (dq (pv p) (pv q))))) = cp (pdivs (lc (pv q) ^ dxp (pv p) (pv q)) (dq (pv p) (pv q))) from cp_ext fun k => by rw [cf_pdivs, cf_pdivs, cf_cn]] at ov
      exact ⟨_, _, ov, rfl, rfl⟩
    · rw [decide_eq_false hg]
      have ov := pover_bad (cn (dq (pv p) (pv q))) (canon (lc (pv q) ^ dxp (pv p) (pv q))) (rD.mono (by omega) (by omega)) ((sz_canon _).mono (by omega)) (by rw [iv_canon]; exact hlp) (fun h => hg (dvd_gz.mpr fun k => by have := h k; rwa [iv_canon, cf_cn] at this))
      exact ⟨[], 4, ov, rfl, rfl⟩
  obtain ⟨res, e, ov, hres, hee⟩ := key
  rw [← hres, ← hee]
  have he2 : e = 0 ∨ (¬ e = 0 ∧ e = 4 ∧ res = []) := by
    rw [hres, hee]
    split
    · exact .inl rfl
    · exact .inr ⟨by decide, rfl, rfl⟩
  clear hres hee he hdm
  generalize hX : dxp (pv p) (pv q) = x at *
  generalize hL : lc (pv q) = L at *
  refine AC.by_walk (rs := [.tmp 4, .tmp 5]) ords Tryz.func61 (by rfl) (by rfl) (by rfl) (by rfl) (by rfl) ?_
  simp (disch := omega) only [wk, tis, seval, reduceCtorEq, Nat.reduceEqDiff, rqs, cpoly_len]
  refine call_by (d) (by rfl) (by simp) ?_
  simp (disch := omega) only [wk, tis, seval, reduceCtorEq, Nat.reduceEqDiff, rqs, cpoly_len]
  refine call_by (dg) (by rfl) (by simp) ?_
  simp (disch := omega) only [wk, tis, seval, reduceCtorEq, Nat.reduceEqDiff, rqs, cpoly_len]
  refine call_by (o1) (by rfl) (by simp) ?_
  simp (disch := omega) only [wk, tis, seval, reduceCtorEq, Nat.reduceEqDiff, rqs, cpoly_len]
  refine aloop_by (fun f H => ∃ (i st : Nat), i ≤ x ∧ f 26 = .iv (.int .i64 i) ∧ f 25 = .iv (.int .i64 x) ∧ f 1 = .iv (.sl (raws q)) ∧ f 6 = .iv (.sl (cpoly (dq (pv p) (pv q)))) ∧ f 10 = .hp 10 st 0 0 ∧ H 10 = .blk false st 43 2 [prow (canon (L ^ i))]) (fun f H => (x - intAt f 26).toNat) ?_ ?_
  · refine ⟨0, 1, by omega, ?_⟩
    simp (disch := omega) only [wk, tis, seval, reduceCtorEq, Nat.reduceEqDiff, rqs, cpoly_len, Int.pow_zero]
  rintro f H ⟨i, st, hi, hF⟩
  rw [intAt_of hF.1]
  simp (disch := omega) only [wk, tis, seval, reduceCtorEq, Nat.reduceEqDiff, rqs, cpoly_len, hF]
  by_cases hlt' : i < x
  · have hlt : (i : Int) < (x : Int) := by omega
    have hz := pow_z hlz i (by omega)
    have m := zmul_ok (canon (L ^ i)) (canon L) ((sz_canon _).mono (by omega)) ((sz_canon _).mono (by omega))
    rw [iv_canon, iv_canon, ← Int.pow_succ] at m
    simp (disch := omega) only [wk, tis, seval, reduceCtorEq, Nat.reduceEqDiff, rqs, cpoly_len, hF, hlt]
    refine ⟨tmps_by (by kernel_rfl), ?_⟩
    refine call_by (le) (by first | rfl | (simp only [tocvs, tocv, hF, hlt]; rfl) | (simp only [tocvs, tocv, toboxes, tobox, updH_at, Nat.reduceEqDiff, ↓reduceIte, hF, hlt]; rfl)) (by simp) ?_
    simp (disch := omega) only [wk, tis, seval, reduceCtorEq, Nat.reduceEqDiff, rqs, cpoly_len, hF, hlt]
    refine call_by (m) (by first | rfl | (simp only [tocvs, tocv, hF, hlt]; rfl) | (simp only [tocvs, tocv, toboxes, tobox, updH_at, Nat.reduceEqDiff, ↓reduceIte, hF, hlt]; rfl)) (by simp) ?_
    simp (disch := omega) only [wk, tis, seval, reduceCtorEq, Nat.reduceEqDiff, rqs, cpoly_len, hF, hlt]
    first | exact log_by (by kernel_rfl) | refine ⟨log_by (by kernel_rfl), ?_⟩
    refine ⟨⟨i + 1, st, by omega, ?_⟩, by omega⟩
    try (repeat' apply And.intro) <;> first | rfl | omega
  · obtain rfl : i = x := by omega
    have hlt : ¬ (i : Int) < (i : Int) := by omega
    simp (disch := omega) only [wk, tis, seval, reduceCtorEq, Nat.reduceEqDiff, rqs, cpoly_len, hF, hlt]
    rcases he2 with rfl | ⟨h1, rfl, rfl⟩
    · skip
      refine call_by (ov) (by first | rfl | (simp only [tocvs, tocv, hF]; rfl) | (simp only [tocvs, tocv, toboxes, tobox, updH_at, Nat.reduceEqDiff, ↓reduceIte, hF]; rfl)) (by simp) ?_
      simp (disch := omega) only [wk, tis, seval, reduceCtorEq, Nat.reduceEqDiff, rqs, cpoly_len, hF]
      try rfl
    · skip
      refine call_by (ov) (by first | rfl | (simp only [tocvs, tocv, hF]; rfl) | (simp only [tocvs, tocv, toboxes, tobox, updH_at, Nat.reduceEqDiff, ↓reduceIte, hF]; rfl)) (by simp) ?_
      simp (disch := omega) only [wk, tis, seval, reduceCtorEq, Nat.reduceEqDiff, rqs, cpoly_len, hF]
      try rfl
end Go.Proofs.YthbobdhkbgggjaaGreat

namespace Go.Proofs.YthbobdhkbgggjaaGreat
open Go Go.Proofs Go.AL
set_option linter.unusedSimpArgs false
set_option linter.unusedVariables false
def tiny (A : List Int) : Bool := decide (A.length ≤ 4) && A.all (fun c => decide (c.natAbs < 10)) && decide (trimz A = A)
theorem tiny_pv {A : List Int} (h : tiny A = true) : pv (cn A) = A := by
  simp only [tiny, Bool.and_eq_true, decide_eq_true_eq] at h
  exact pv_cnt h.2
theorem tiny_rp {A : List Int} (h : tiny A = true) : RP 4 1 (cn A) := by
  simp only [tiny, Bool.and_eq_true, decide_eq_true_eq, List.all_eq_true] at h
  obtain ⟨⟨h1, h2⟩, h3⟩ := h
  refine RP.canon (.trimz ⟨h1, fun z hz => zl_le.mpr ?_⟩)
  have := h2 z hz
  rw [Nat.pow_one]
  simp only [W]
  omega
theorem sover_ok (A B A' B' C R : List Int) (ha : tiny A = true) (hb : tiny B = true) (ha' : tiny A' = true) (hb' : tiny B' = true) (hc : tiny C = true) (ea : prim A = A') (eb : prim B = B') (ec : exv A' B' = C) (er : prim C = R) :
    AC Tryz.prog 38 [cp A, cp B] none [cp R] := by
  have p1 := pprim_ok (cn A) ((tiny_rp ha).mono (by decide) (by decide))
  have p2 := pprim_ok (cn B) ((tiny_rp hb).mono (by decide) (by decide))
  have p3 := pexact_ok (cn A') (cn B') 1 ((tiny_rp ha').mono (by decide) (by decide)) ((tiny_rp hb').mono (by decide) (by decide)) (by decide)
  have p4 := pprim_ok (cn C) ((tiny_rp hc).mono (by decide) (by decide))
  rw [tiny_pv ha, ea] at p1
  rw [tiny_pv hb, eb] at p2
  rw [tiny_pv ha', tiny_pv hb', ec] at p3
  rw [tiny_pv hc, er] at p4
  generalize exe A' B' = e at p3
  refine AC.by_walk (rs := [.tmp 4]) ords Tryz.func38 (by rfl) (by rfl) (by rfl) (by rfl) (by rfl) ?_
  simp (disch := omega) only [wk, tis, seval, reduceCtorEq, Nat.reduceEqDiff]
  refine call_by (p1) (by rfl) (by simp) ?_
  simp (disch := omega) only [wk, tis, seval, reduceCtorEq, Nat.reduceEqDiff]
  refine call_by (p2) (by rfl) (by simp) ?_
  simp (disch := omega) only [wk, tis, seval, reduceCtorEq, Nat.reduceEqDiff]
  refine call_by (p3) (by rfl) (by simp) ?_
  simp (disch := omega) only [wk, tis, seval, reduceCtorEq, Nat.reduceEqDiff]
  refine call_by (p4) (by rfl) (by simp) ?_
  simp (disch := omega) only [wk, tis, seval, reduceCtorEq, Nat.reduceEqDiff]
theorem sgcd_ok (A B R : List Int) (ha : tiny A = true) (hb : tiny B = true) (er : gcdp A B = R) : AC Tryz.prog 39 [cp A, cp B] none [cp R] := by
  have ra := tiny_rp ha
  have rb := tiny_rp hb
  have h := pgcd_ok (cn A) (cn B) 4 1 (ra.mono (by decide) (by decide)) (rb.mono (by decide) (by decide)) (tz_rp ra) (tz_rp rb) (by decide) (by decide)
  rwa [tiny_pv ha, tiny_pv hb, er] at h
theorem sdeg_ok (A : List Int) (ha : tiny A = true) : AC Tryz.prog 19 [cp A] none [ci ((tz A : Int) - 1)] := by
  have h := pdeg_ok (cn A) ((tiny_rp ha).mono (by decide) (by decide))
  rwa [tiny_pv ha] at h
theorem sconst_ok (A : List Int) (ha : tiny A = true) : AC Tryz.prog 37 [cp A] none [cb (decide ((tz A : Int) - 1 < 1))] := by
  have h := sdeg_ok A ha
  refine AC.by_walk (rs := [.tmp 2]) ords Tryz.func37 (by rfl) (by rfl) (by rfl) (by rfl) (by rfl) ?_
  simp (disch := omega) only [wk, tis, seval, reduceCtorEq, Nat.reduceEqDiff]
  refine call_by (h) (by rfl) (by simp) ?_
  simp (disch := omega) only [wk, tis, seval, reduceCtorEq, Nat.reduceEqDiff]
theorem sfree_ok (A D G R : List Int) (ha : tiny A = true) (hd : tiny D = true) (h0 : ¬ (tz A : Int) - 1 < 0) (ed : trimz (pderiv A) = D) (eg : gcdp A D = G) (ho : AC Tryz.prog 38 [cp A, cp G] none [cp R]) : AC Tryz.prog 36 [cp A] none [cp R] := by
  have h := sdeg_ok A ha
  have d := pderiv_ok (cn A) ((tiny_rp ha).mono (by decide) (by decide))
  rw [tiny_pv ha] at d
  have e : cp (pderiv A) = cp D := by rw [← ed]; exact cp_ext fun k => (cf_trimz _ k).symm
  rw [e] at d
  have g := sgcd_ok A D G ha hd eg
  refine AC.by_walk (rs := [.tmp 2]) ords Tryz.func36 (by rfl) (by rfl) (by rfl) (by rfl) (by rfl) ?_
  simp (disch := omega) only [wk, tis, seval, reduceCtorEq, Nat.reduceEqDiff]
  refine call_by (h) (by first | rfl | (simp only [tocvs, tocv, h0]; rfl) | (simp only [tocvs, tocv, toboxes, tobox, updH_at, Nat.reduceEqDiff, ↓reduceIte, h0]; rfl)) (by simp) ?_
  simp (disch := omega) only [wk, tis, seval, reduceCtorEq, Nat.reduceEqDiff, h0]
  refine call_by (d) (by rfl) (by simp) ?_
  simp (disch := omega) only [wk, tis, seval, reduceCtorEq, Nat.reduceEqDiff]
  refine call_by (g) (by rfl) (by simp) ?_
  simp (disch := omega) only [wk, tis, seval, reduceCtorEq, Nat.reduceEqDiff]
  refine call_by (ho) (by rfl) (by simp) ?_
  simp (disch := omega) only [wk, tis, seval, reduceCtorEq, Nat.reduceEqDiff]
end Go.Proofs.YthbobdhkbgggjaaGreat

namespace Go.Proofs.YthbobdhkbgggjaaGreat
open Go Go.Proofs Go.AL Go.RowKit
set_option linter.unusedSimpArgs false
set_option linter.unusedVariables false
section
variable {P : Program} {G : Gh} {M : Nat → Prop} {w0 : World} {D0 : Nat → Prop} {N : Nat} {f : Fr} {H : Hp} {β : Nat → Value} {a : Act} {w : World}
theorem op_value {o : Oper} {z : Value} {w2 : World} {ro : Option Nat} {K : Act → World → Prop} {Q : Exit → Act → World → Prop} (h : (execOp a.eval o).run P w = .ok (.value z) w2) (hnd : ∀ c, o.op ≠ .defer c) (hK : K (a.put o.dst z) w2) : o.wpIn (Wd ro) 0 P a w K Q := by
  refine ⟨fun _ _ => trivial, ?_⟩
  show o.uponIn (Wd ro) 0 P a K Q ((o.semAt ro a.eval).run P w)
  rw [semAt_of hnd, h]
  exact hK
theorem op_skip {o : Oper} {w2 : World} {ro : Option Nat} {K : Act → World → Prop} {Q : Exit → Act → World → Prop} (h : (execOp a.eval o).run P w = .ok .skip w2) (hnd : ∀ c, o.op ≠ .defer c) (hK : K (a.put o.dst Go.undef) w2) : o.wpIn (Wd ro) 0 P a w K Q := by
  refine ⟨fun _ _ => trivial, ?_⟩
  show o.uponIn (Wd ro) 0 P a K Q ((o.semAt ro a.eval).run P w)
  rw [semAt_of hnd, h]
  exact hK
theorem list_one {ro : Option Nat} {ops : Array Oper} {o : Oper} {rest : List Oper} {Q : Exit → Act → World → Prop} (hg : o.guard = none) (h : o.wpIn (Wd ro) 0 P a w (wpListIn (Wd ro) 0 P ops Q rest) Q) : wpListIn (Wd ro) 0 P ops Q (o :: rest) a w := by
  simp only [wpListIn, Region.wanted, hg, if_true]
  exact h
theorem aops_pre {ro : Option Nat} {ops : Array Oper} {rest2 : List Oper} {K : Fr → Hp → Log → Prop} {Q : Exit → Act → World → Prop} (hQ : ∀ f H lg β a w, K f H lg → Rel G M w0 D0 N f H β a w → wpListIn (Wd ro) 0 P ops Q rest2 a w) :
    ∀ (rest : List Oper) (f : Fr) (H : Hp) (lg : Log) (β : Nat → Value) (a : Act) (w : World), (∀ o ∈ rest, ∀ d, o.dst = some d → d < N) → AOps P (dsts ops) rest K f H lg → Rel G M w0 D0 N f H β a w → wpListIn (Wd ro) 0 P ops Q (rest ++ rest2) a w
  | [], f, H, lg, β, a, w, _, h, R => hQ f H lg β a w h R
  | o :: rest, f, H, lg, β, a, w, hd, h, R => by
    have hdo := hd o (by simp)
    have hdr : ∀ o ∈ rest, ∀ d, o.dst = some d → d < N := fun o ho => hd o (by simp [ho])
    have run : ARun P o (AOps P (dsts ops) rest K) f H lg → o.wpIn (Wd ro) 0 P a w (wpListIn (Wd ro) 0 P ops Q (rest ++ rest2)) Q := by
      intro h
      obtain ⟨u, rd, hs, hk, _⟩ := arun_sim h
      exact hs f H (fun _ _ => rfl) (fun _ _ => rfl) G M w0 D0 N β a w hdo R _ _ (fun a' w' β' R' => aops_pre hQ rest _ _ _ β' a' w' hdr hk R') ro
    simp only [AOps] at h
    simp only [List.cons_append, wpListIn]
    cases hg : o.guard with
    | none =>
      rw [hg] at h
      simp only [Region.wanted, hg, if_true]
      exact run h
    | some p =>
      obtain ⟨j, want⟩ := p
      rw [hg] at h
      have hy := yielded_of R (ops := ops) (j := j)
      simp only [Region.wanted, hg]
      simp only at h
      split at h
      · rename_i b hb
        rw [hy.1 b hb]
        by_cases hbw : b = want
        · subst hbw
          simp only [if_true] at h
          simp only [beq_self_eq_true, if_true]
          exact run h
        · simp only [hbw, if_false] at h
          rw [if_neg (by simp [hbw])]
          exact ⟨fun _ _ => trivial, aops_pre hQ rest _ _ _ β _ w hdr h (R.skip hdo)⟩
      · rename_i hb
        rw [hy.2 hb]
        rw [if_neg (by simp)]
        exact ⟨fun _ _ => trivial, aops_pre hQ rest _ _ _ β _ w hdr h (R.skip hdo)⟩
      · exact h.elim
def Heads (H : Hp) (β : Nat → Value) (g : Nat) : Prop := ∃ h, (H h).isMut ∧ headOf (β h) = some g
theorem _root_.Go.AL.Rel.heads (R : Rel G M w0 D0 N f H β a w) {g : Nat} (h : Heads H β g) : g < w.heap.size ∧ ¬ D0 g := by
  obtain ⟨k, hm, hk⟩ := h
  obtain ⟨h1, h2⟩ := R.mut_lt hm hk
  refine ⟨h1, fun hd => ?_⟩
  have h3 := R.old g hd
  rcases h2 with h2 | h2
  · omega
  · exact h3.2 h2
theorem _root_.Go.AL.Rel.rebase (R : Rel G M w0 D0 N f H β a w) (hr : G.rnd = true) {w2 : World} {D1 : Nat → Prop} {d : Option Nat} {x : AV} {val : Value} (hsz : w.heap.size ≤ w2.heap.size) (hk : ∀ k, k < w.heap.size → ¬ D0 k → w2.heap[k]? = w.heap[k]?)
    (h01 : ∀ b, D0 b → D1 b) (h1 : ∀ b, D1 b → b < w2.heap.size ∧ (D0 b ∨ w.heap.size ≤ b)) (hx : AVRep w2 (DD H β D1) H β x val) (hd : ∀ k, d = some k → k < N) : Rel G (Heads H β) w2 D1 N (updo f d x) H β (a.put d val) w2 := by
  have hdef := R.rnd hr
  have g : Grows w (DD H β D0) w2 (DD H β D1) := by
    refine ⟨hsz, fun b hb hD => ?_, fun b hb hD _ => hk b hb fun h => hD (.inl h)⟩
    rcases hD with hD | hD
    · rcases (h1 b hD).2 with h | h
      · exact .inl h
      · omega
    · exact .inr hD
  have same : ∀ h, (H h).isMut → ∀ k, headOf (β h) = some k → w2.heap[k]? = w.heap[k]? := fun h hm k hh => by
    have := R.heads ⟨h, hm, hh⟩
    exact hk k this.1 this.2
  have ht : ∀ t, AVRep w2 (DD H β D1) H β (f t) (a.tmps.getD t Go.undef) := fun t => AVRep.mono g (HStep.refl _ _) _ _ (R.tmps t)
  refine ⟨rfl, rfl, rfl, Nat.le_refl _, fun _ _ _ => rfl, fun b hb => ⟨(h1 b hb).1, fun hh => ?_⟩, ?_, ?_, fun _ => ?_, ?_, fun x v hp => AVRep.mono g (HStep.refl _ _) _ _ (R.gh x v hp), ?_, ?_, ?_, R.dis, ?_⟩
  · have := R.heads hh
    rcases (h1 b hb).2 with h | h
    · exact this.2 h
    · omega
  · cases d <;> simp [Act.put, R.tsize]
  · rw [show (a.put d val).defers = a.defers by cases d <;> rfl, hdef]
    exact fun d hd => nomatch hd
  · rw [show (a.put d val).defers = a.defers by cases d <;> rfl, hdef]
  · rw [show (a.put d val).defers = a.defers by cases d <;> rfl]; exact R.ndup
  · intro t
    cases d with
    | none => exact ht t
    | some d =>
      have hdN := hd d rfl
      by_cases e : t = d
      · subst e
        have : (a.put (some t) val).tmps.getD t Go.undef = val := by simp [Act.put, R.tsize, hdN]
        rw [this]; simpa [updo, upd] using hx
      · have : (a.put (some d) val).tmps.getD t Go.undef = a.tmps.getD t Go.undef := by simp [Act.put, Array.getElem?_setIfInBounds_ne (Ne.symm e)]
        rw [this]; simpa [updo, upd, e] using ht t
  · intro h st e sz rows hh
    have hm : (H h).isMut := by rw [hh]; trivial
    have ho := (R.own h st e sz rows hh).mono g (same h hm)
    refine ⟨ho.1, ?_⟩
    rcases ho.2 with hn | ⟨k, cap, cur, hv, hB, hr⟩
    · exact .inl hn
    · exact .inr ⟨k, cap, cur, hv, .inr ⟨h, hm, by rw [hv]; rfl⟩, hr⟩
  · intro h st e sz rows hh
    exact ⟨(R.frz h st e sz rows hh).1, (R.frz h st e sz rows hh).2.1.mono g, (R.frz h st e sz rows hh).2.2⟩
  · intro h st e rows hh
    have hm : (H h).isMut := by rw [hh]; trivial
    rcases (R.nst h st e rows hh).mono g (HStep.refl _ _) (same h hm) with hn | ⟨k, cap, cur, hv, hB, hr⟩
    · exact .inl hn
    · exact .inr ⟨k, cap, cur, hv, .inr ⟨h, hm, by rw [hv]; rfl⟩, hr⟩
def OnlyQ (J : Fr → Hp → Prop) : Post
  | .normal, f, H => J f H
  | _, _, _ => False
theorem seq_aw (hm : P.follows .mixedOrders = true) {x y : Code} {J : Fr → Hp → Prop} {Q : Exit → Act → World → Prop} (hd : codeOk N x = true) (nx : noRange x = true) (R : Rel G M w0 D0 N f H β a w) (h : AW P x (OnlyQ J) f H)
    (k : ∀ f H β a w, J f H → Rel G M w0 D0 N f H β a w → y.wpIn (Wd none) 0 P Q a w) : (Code.seq x y).wpIn (Wd none) 0 P Q a w := by
  refine wpIn_seq (wpIn_mono (aw_sound hm x none G M w0 _ f H β a w (.inl nx) hd h R) fun e a w hq => ?_)
  cases e with
  | normal => obtain ⟨f, H, β, hk, R⟩ := hq; exact k f H β a w hk R
  | panic _ => exact hq.elim
  | outgrown => exact hq.elim
  | exit _ => obtain ⟨f, H, β, hk, R⟩ := hq; exact hk.elim
  | ret => obtain ⟨f, H, β, hk, R⟩ := hq; exact hk.elim
  | goto _ => obtain ⟨f, H, β, hk, R⟩ := hq; exact hk.elim
theorem last_aw (hm : P.follows .mixedOrders = true) {x : Code} {J : Fr → Hp → Prop} {Q : Exit → Act → World → Prop} (hd : codeOk N x = true) (nx : noRange x = true) (R : Rel G M w0 D0 N f H β a w) (h : AW P x (OnlyQ J) f H)
    (k : ∀ f H β a w, J f H → Rel G M w0 D0 N f H β a w → Q .normal a w) : x.wpIn (Wd none) 0 P Q a w := by
  refine wpIn_mono (aw_sound hm x none G M w0 _ f H β a w (.inl nx) hd h R) fun e a w hq => ?_
  cases e with
  | normal => obtain ⟨f, H, β, hk, R⟩ := hq; exact k f H β a w hk R
  | panic _ => exact hq.elim
  | outgrown => exact hq.elim
  | exit _ => obtain ⟨f, H, β, hk, R⟩ := hq; exact hk.elim
  | ret => obtain ⟨f, H, β, hk, R⟩ := hq; exact hk.elim
  | goto _ => obtain ⟨f, H, β, hk, R⟩ := hq; exact hk.elim
theorem calls_of_body {g : Nat} {vs : List Value} {R : Value → World → Prop} {fn : Func} {body : Code} (hf : P.funcs[g]? = some fn) (hb : fn.body = some body) (hn : (fn.name == "runtime.NumGoroutine") = false)
    (h : body.wpIn (Wd none) 0 P (fun e a w' => (e = .normal ∨ e = .ret) ∧ a.defers = [] ∧ ∃ us, (fn.results.toList.mapM (rvS a.tmps)).run P w' = .ok us w' ∧ R (packV us) w') { tmps := vs.toArray ++ Array.replicate (fn.ntmps - vs.toArray.size) Go.undef, defers := [] } w) : CallsR P g vs w R := by
  refine .inl ⟨fn, hf, hn, by rw [hb]; rfl, callsIn_wide.1 (callsIn_of_wp_marks (n := 0) (F := Fence.wide) hf hb trivial ?_)⟩
  refine wpIn_mono h fun e a w' hq => ?_
  obtain ⟨he, hd, us, hr, hR⟩ := hq
  have fin : LeavesInM Fence.wide 0 P fn a.tmps (fun e w' => ∃ v, e = .returned v ∧ R v w') a.defers .returning w' := by
    rw [hd]
    exact ⟨_, results_run (a := a) hr, _, rfl, hR⟩
  rcases he with rfl | rfl
  · exact fin
  · exact fin
theorem rel_start {D : Nat → Prop} {vs : List Value} {args : List CV} {n : Nat} (hD : ∀ b, D b → b < w.heap.size) (hvs : CVReps w D args vs) (hn : args.length ≤ n) : Rel ⟨fun _ _ => False, true⟩ (fun _ => False) w D n (initF args) initH (fun _ => default) { tmps := vs.toArray ++ Array.replicate (n - vs.toArray.size) Go.undef, defers := [] } w := by
  have hlen := hvs.length
  have hcv : ∀ (cvs : List CV) (us : List Value), CVReps w D cvs us → ∀ t, AVRep w (DD initH (fun _ => default) D) initH (fun _ => default) (initF cvs t) ((us[t]?).getD Go.undef) := by
    intro cvs us hu t
    have hDD : ∀ b, DD initH (fun _ => default) D b → D b := by
      intro b hb
      rcases hb with hb | ⟨k, hm, _⟩
      · exact hb
      · exact hm.elim
    induction cvs generalizing us t with
    | nil =>
      match us, hu with
      | [], _ => simp [initF, AVRep]
    | cons c cs ih =>
      match us, hu with
      | u :: us, hu =>
        cases t with
        | zero => simp only [initF, List.map_cons, List.getElem?_cons_zero, Option.getD_some]; exact (hu.1.mono (Grows.of_sub hDD)).av
        | succ t => simpa only [initF, List.map_cons, List.getElem?_cons_succ] using ih us hu.2 t
  refine ⟨rfl, rfl, rfl, Nat.le_refl _, fun _ _ _ => rfl, fun b hb => ⟨hD b hb, fun h => h⟩, by simp; omega, fun d hd => (by cases hd), fun _ => rfl, List.nodup_nil, fun _ _ h => h.elim, fun t => ?_, fun h st e sz rows hh => (by cases hh), fun h st e sz rows hh => (by cases hh), fun h h' _ hm => hm.elim, fun h st e rows hh => (by cases hh)⟩
  have e : (vs.toArray ++ Array.replicate (n - vs.toArray.size) Go.undef).getD t Go.undef = (vs[t]?).getD Go.undef := by
    rw [Array.getD_eq_getD_getElem?, Array.getElem?_append]
    split
    · simp
    · rename_i ht
      simp only [List.size_toArray, Nat.not_lt] at ht
      rw [List.getElem?_eq_none ht]
      simp only [Array.getElem?_replicate]
      split <;> rfl
  rw [e]
  exact hcv args vs hvs t
def Pin (wA : World) (D : Nat → Prop) (N : Nat) (pins : List (Nat × Obj)) (gs : List (AV × Value)) (f : Fr) (H : Hp) (β : Nat → Value) (a : Act) (w : World) : Prop :=
  ∃ (G : Gh) (M : Nat → Prop) (w0 : World) (D0 : Nat → Prop), G.rnd = true ∧ Rel G M w0 D0 N f H β a w ∧ (∀ k, D k → D0 k) ∧ Below wA.heap.size wA w0 ∧ (∀ k, M k → wA.heap.size ≤ k) ∧ (∀ p ∈ pins, D0 p.1 ∧ w0.heap[p.1]? = some p.2 ∧ wA.heap.size ≤ p.1) ∧ ∀ g ∈ gs, G.vals g.1 g.2
section
variable {wA : World} {D : Nat → Prop} {pins : List (Nat × Obj)} {gs : List (AV × Value)}
theorem Pin.start {vs : List Value} {args : List CV} {n : Nat} (hD : ∀ b, D b → b < wA.heap.size) (hvs : CVReps wA D args vs) (hn : args.length ≤ n) : Pin wA D n [] [] (initF args) initH (fun _ => default) { tmps := vs.toArray ++ Array.replicate (n - vs.toArray.size) Go.undef, defers := [] } wA :=
  ⟨_, _, _, _, rfl, rel_start hD hvs hn, fun _ h => h, Below.refl _ _, fun _ h => h.elim, fun _ h => (by cases h), fun _ h => (by cases h)⟩
theorem Pin.obj (p : Pin wA D N pins gs f H β a w) {b : Nat} {o : Obj} (hb : (b, o) ∈ pins) : w.heap[b]? = some o := by
  obtain ⟨G, M, w0, D0, hr, R, hD, hB, hM, hp, hg⟩ := p
  obtain ⟨h1, h2, _⟩ := hp _ hb
  have h3 := R.old _ h1
  exact (R.keep _ h3.1 h3.2).trans h2
theorem Pin.seq (hm : P.follows .mixedOrders = true) {x y : Code} {J : Fr → Hp → Prop} {Q : Exit → Act → World → Prop} (hd : codeOk N x = true) (nx : noRange x = true) (p : Pin wA D N pins gs f H β a w) (h : AW P x (OnlyQ J) f H)
    (k : ∀ f H β a w, J f H → Pin wA D N pins gs f H β a w → y.wpIn (Wd none) 0 P Q a w) : (Code.seq x y).wpIn (Wd none) 0 P Q a w := by
  obtain ⟨G, M, w0, D0, hr, R, hD, hB, hM, hp, hg⟩ := p
  exact seq_aw hm hd nx R h fun f H β a w hk R => k f H β a w hk ⟨G, M, w0, D0, hr, R, hD, hB, hM, hp, hg⟩
theorem Pin.last (hm : P.follows .mixedOrders = true) {x : Code} {J : Fr → Hp → Prop} {Q : Exit → Act → World → Prop} (hd : codeOk N x = true) (nx : noRange x = true) (p : Pin wA D N pins gs f H β a w) (h : AW P x (OnlyQ J) f H)
    (k : ∀ f H β a w, J f H → Pin wA D N pins gs f H β a w → Q .normal a w) : x.wpIn (Wd none) 0 P Q a w := by
  obtain ⟨G, M, w0, D0, hr, R, hD, hB, hM, hp, hg⟩ := p
  exact last_aw hm hd nx R h fun f H β a w hk R => k f H β a w hk ⟨G, M, w0, D0, hr, R, hD, hB, hM, hp, hg⟩
theorem Pin.ops {ro : Option Nat} {ops : Array Oper} {rest2 : List Oper} {K : Fr → Hp → Log → Prop} {Q : Exit → Act → World → Prop} (rest : List Oper) (hd : ∀ o ∈ rest, ∀ d, o.dst = some d → d < N) (p : Pin wA D N pins gs f H β a w) (h : AOps P (dsts ops) rest K f H [])
    (k : ∀ f H lg β a w, K f H lg → Pin wA D N pins gs f H β a w → wpListIn (Wd ro) 0 P ops Q rest2 a w) : wpListIn (Wd ro) 0 P ops Q (rest ++ rest2) a w := by
  obtain ⟨G, M, w0, D0, hr, R, hD, hB, hM, hp, hg⟩ := p
  exact aops_pre (fun f H lg β a w hk R => k f H lg β a w hk ⟨G, M, w0, D0, hr, R, hD, hB, hM, hp, hg⟩) rest f H [] β a w hd h R
theorem pin_turn {G : Gh} {M : Nat → Prop} {w0 : World} {D0 : Nat → Prop} (hr : G.rnd = true) (R : Rel G M w0 D0 N f H β a w) (hD : ∀ k, D k → D0 k) (hB : Below wA.heap.size wA w0) (hM : ∀ k, M k → wA.heap.size ≤ k) (hp : ∀ p ∈ pins, D0 p.1 ∧ w0.heap[p.1]? = some p.2 ∧ wA.heap.size ≤ p.1)
    {w2 : World} {pins2 : List (Nat × Obj)} {gs2 : List (AV × Value)} {d : Option Nat} {x : AV} {val : Value} (ho : w2.os = w.os) (ht : w2.tape = w.tape) (hu : w2.output = w.output) (hsz : w.heap.size ≤ w2.heap.size)
    (hk : ∀ k, k < w.heap.size → (∀ o, (k, o) ∉ pins) → w2.heap[k]? = w.heap[k]?) (h2 : ∀ q ∈ pins2, w2.heap[q.1]? = some q.2 ∧ ((∃ o, (q.1, o) ∈ pins) ∨ w.heap.size ≤ q.1))
    (hv : ∀ (D' : Nat → Prop), (∀ k, D' k → DD H β D0 k ∨ ∃ o, (k, o) ∈ pins2) → Grows w (DD H β D0) w2 D' → AVRep w2 D' H β x val ∧ ∀ g ∈ gs2, AVRep w2 D' H β g.1 g.2)
    (hd : ∀ k, d = some k → k < N) : Pin wA D N pins2 gs2 (updo f d x) H β (a.put d val) w2 := by
  have hD1 : ∀ b, (D0 b ∨ (w.heap.size ≤ b ∧ ∃ o, (b, o) ∈ pins2)) → b < w2.heap.size ∧ (D0 b ∨ w.heap.size ≤ b) := by
    rintro b (hb | ⟨hb, o, ho⟩)
    · have := (R.old b hb).1
      have := R.size
      exact ⟨by omega, .inl hb⟩
    · obtain ⟨h3, _⟩ := h2 _ ho
      exact ⟨(Array.getElem?_eq_some_iff.1 h3).1, .inr hb⟩
  have hk' : ∀ k, k < w.heap.size → ¬ D0 k → w2.heap[k]? = w.heap[k]? := fun k hk1 hk2 => hk k hk1 fun o ho => hk2 (hp _ ho).1
  have g : Grows w (DD H β D0) w2 (DD H β fun b => D0 b ∨ (w.heap.size ≤ b ∧ ∃ o, (b, o) ∈ pins2)) := by
    refine ⟨hsz, fun b hb hD => ?_, fun b hb hD _ => hk' b hb fun h => hD (.inl h)⟩
    rcases hD with hD | hD
    · rcases (hD1 b hD).2 with h | h
      · exact .inl h
      · omega
    · exact .inr hD
  obtain ⟨hx, hgs⟩ := hv _ (fun k hk => by
    rcases hk with (hk | ⟨_, hk⟩) | hk
    · exact .inl (.inl hk)
    · exact .inr hk
    · exact .inl (.inr hk)) g
  have R2 := R.rebase hr hsz hk' (fun b h => .inl h) hD1 hx hd
  have hs0 := hB.size
  refine ⟨⟨fun x v => (x, v) ∈ gs2, true⟩, Heads H β, w2, _, rfl, ⟨R2.os, R2.tape, R2.output, R2.size, R2.keep, R2.old, R2.tsize, R2.defers, fun _ => R2.rnd hr, R2.ndup, fun x v hxv => hgs _ hxv, R2.tmps, R2.own, R2.frz, R2.dis, R2.nst⟩, fun k h => .inl (hD k h), ⟨ho.trans (R.os.trans hB.os), ht.trans (R.tape.trans hB.tape), hu.trans (R.output.trans hB.output), Nat.le_trans hs0 (Nat.le_trans R.size hsz), fun k hkk => ?_⟩, fun k hh => ?_, fun q hq => ?_, fun g hg => hg⟩
  · have hk0 : k < w0.heap.size := by omega
    have hkw : k < w.heap.size := Nat.lt_of_lt_of_le hk0 R.size
    rw [hk k hkw fun o ho' => by have := (hp _ ho').2.2; simp only at this; omega, R.keep k hk0 fun h => by have := hM k h; omega]
    exact hB.block k hkk
  · obtain ⟨h1, hm, hk1⟩ := hh
    rcases (R.mut_lt hm hk1).2 with h | h
    · omega
    · exact hM k h
  · obtain ⟨h3, h4⟩ := h2 q hq
    refine ⟨?_, h3, ?_⟩
    · rcases h4 with ⟨o, h4⟩ | h4
      · exact .inl (hp _ h4).1
      · exact .inr ⟨h4, q.2, hq⟩
    · rcases h4 with ⟨o, h4⟩ | h4
      · exact (hp _ h4).2.2
      · have := R.size; omega
theorem Pin.turn (p : Pin wA D N pins gs f H β a w) {w2 : World} {pins2 : List (Nat × Obj)} {gs2 : List (AV × Value)} {d : Option Nat} {x : AV} {val : Value} (ho : w2.os = w.os) (ht : w2.tape = w.tape) (hu : w2.output = w.output) (hsz : w.heap.size ≤ w2.heap.size)
    (hk : ∀ k, k < w.heap.size → (∀ o, (k, o) ∉ pins) → w2.heap[k]? = w.heap[k]?) (h2 : ∀ q ∈ pins2, w2.heap[q.1]? = some q.2 ∧ ((∃ o, (q.1, o) ∈ pins) ∨ w.heap.size ≤ q.1))
    (hv : ∀ (D' : Nat → Prop), (∀ g ∈ gs, AVRep w2 D' H β g.1 g.2) → (∀ x, AVRep w2 D' H β (AL.ev f x) (a.eval x)) → AVRep w2 D' H β x val ∧ ∀ g ∈ gs2, AVRep w2 D' H β g.1 g.2)
    (hd : ∀ k, d = some k → k < N) : Pin wA D N pins2 gs2 (updo f d x) H β (a.put d val) w2 := by
  obtain ⟨G, M, w0, D0, hr, R, hD, hB, hM, hp, hg⟩ := p
  exact pin_turn hr R hD hB hM hp ho ht hu hsz hk h2 (fun D' _ g => hv D' (fun q hq => AVRep.mono g (HStep.refl _ _) _ _ (R.gh q.1 q.2 (hg q hq))) (fun y => AVRep.mono g (HStep.refl _ _) _ _ (R.ev y))) hd
end
end
end Go.Proofs.YthbobdhkbgggjaaGreat

namespace Go.Proofs.YthbobdhkbgggjaaGreat
open Go Go.Proofs Go.AL Go.RowKit
open Go.ChangeMaps (setBlock)
set_option linter.unusedSimpArgs false
set_option linter.unusedVariables false
section
variable {P : Program} {ρ : Operand → Value} {o : Oper} {w : World}
theorem exec_makeMap {t : TypeId} (ho : o.op = .makeMap t none) : (execOp ρ o).run P w = .ok (.value (.map (some w.heap.size))) (w.alloc (.map #[] 0)) := by
  simp [execOp, ho, Instr.makeMap, Result.andThen]
theorem exec_update {t kt et : TypeId} {m k x : Operand} {b clock : Nat} {es : Array MapEntry} {n : Int} {v : Value} (ho : o.op = .mapUpdate t m k x) (hm : ρ m = .map (some b)) (hk : ρ k = .int .i64 n) (hx : ρ x = v) (hb : w.heap[b]? = some (.map es clock)) (ht : P.underlying t = some (.map kt et)) (hkt : P.underlying kt = some (.int .i64)) (hnew : ∀ e ∈ es.toList, ∃ m, e.key = .int .i64 m ∧ m ≠ n) :
    (execOp ρ o).run P w = .ok .skip (setBlock w b (.map (es.push ⟨.int .i64 n, v, clock⟩) (clock + 1))) := by
  have h1 : MapKept.IsKey (.int .i64) (.int .i64 n) := by simp [MapKept.IsKey]
  have h2 : Instr.findNow (.int .i64) (.int .i64 n) es.toList 0 = some none := by
    rcases MapKept.findNow_spec h1 es.toList 0 (fun e he => by obtain ⟨m, hm, _⟩ := hnew e he; rw [hm]; simp [MapKept.IsKey]) with h | ⟨j, e, _, h, hk⟩
    · exact h.1
    · obtain ⟨m, hm, hne⟩ := hnew e (List.mem_of_getElem? h)
      rw [hm] at hk
      cases hk
      exact (hne rfl).elim
  simp [execOp, ho, hm, hk, hx, Instr.mapUpdate, run_underlying ht, MapKept.run_getObj_map hb, MapKept.run_checkKey hkt h1, MapKept.run_findKey hkt h2, MapKept.run_setObj_map _ hb, Result.andThen, setBlock]
theorem exec_range {t kt et : TypeId} {x : Operand} {b clock : Nat} {es : Array MapEntry} (ho : o.op = .range t x) (hm : ρ x = .map (some b)) (hb : w.heap[b]? = some (.map es clock)) (ht : P.underlying t = some (.map kt et)) :
    (execOp ρ o).run P w = .ok (.value (.pointer (some ⟨w.heap.size, 0, none⟩))) (w.alloc (.mapIter (some b) clock #[] clock)) := by
  simp [execOp, ho, hm, Instr.range, run_underlying ht, MapKept.run_getObj_map hb, Result.andThen]
theorem exec_next {x : Operand} {r bm since c0 clock : Nat} {seen : Array Nat} {es : Array MapEntry} (ho : o.op = .next x false) (hx : ρ x = .pointer (some ⟨r, 0, none⟩))
    (hr : w.heap[r]? = some (.mapIter (some bm) since seen c0)) (hb : w.heap[bm]? = some (.map es clock)) (hold : ∀ x ∈ es.toList, x.born < since) (hsc : since ≤ c0) :
    ((leftOf es seen).size = 0 ∧ (execOp ρ o).run P w = .ok (.value (.tuple #[.bool false])) w) ∨
    ∃ e ∈ (leftOf es seen).toList, ∃ w1 : World, (w1 = w ∨ w1 = w.drew) ∧ (execOp ρ o).run P w = .ok (.value (.tuple #[.bool true, e.key, e.val])) (setBlock w1 r (.mapIter (some bm) since (seen.push e.born) clock)) := by
  rcases run_next_at (P := P) w o.type r bm since c0 seen es clock hr hb hold hsc with ⟨h1, h2⟩ | ⟨e, he, w1, hw, h2⟩
  · exact .inl ⟨h1, by simp [execOp, ho, hx, h2, Result.andThen]⟩
  · exact .inr ⟨e, he, w1, hw, by simp [execOp, ho, hx, h2, Result.andThen]⟩
theorem exec_entry {x : Operand} {r bm since clock : Nat} {seen : Array Nat} {es : Array MapEntry} {e : MapEntry} (ho : o.op = .entry x) (hx : ρ x = .pointer (some ⟨r, 0, none⟩))
    (hr : w.heap[r]? = some (.mapIter (some bm) since (seen.push e.born) clock)) (hb : w.heap[bm]? = some (.map es clock)) (he : e ∈ es.toList) (hn : (es.toList.map (·.born)).Nodup) :
    (execOp ρ o).run P w = .ok (.value (.tuple #[e.key, e.val])) w := by
  simp [execOp, ho, hx, run_entry_at (P := P) w r bm since seen es clock e hr hb he hn, Result.andThen]
end
end Go.Proofs.YthbobdhkbgggjaaGreat

namespace Go.Proofs.YthbobdhkbgggjaaGreat
open Go Go.Proofs Go.AL Go.RowKit
open Go.ChangeMaps (setBlock)
set_option linter.unusedSimpArgs false
set_option linter.unusedVariables false
section
variable {P : Program} {wA : World} {D : Nat → Prop} {N : Nat} {f : Fr} {H : Hp} {β : Nat → Value} {a : Act} {w : World} {ro : Option Nat} {ops : Array Oper} {rest : List Oper} {Q : Exit → Act → World → Prop} {gs : List (AV × Value)} {o : Oper}
theorem raw_rep {D' : Nat → Prop} {v : Value} (h : v.oneCell' = true) : AVRep w D' H β (.iv (.raw v)) v := by
  simp only [AVRep]; exact .raw v h
theorem sb_at {b : Nat} {x y : Obj} (h : w.heap[b]? = some x) : (setBlock w b y).heap[b]? = some y := by
  have := (Array.getElem?_eq_some_iff.1 h).1
  simp [setBlock, this]
theorem sb_ne {b k : Nat} {y : Obj} (h : k ≠ b) : (setBlock w b y).heap[k]? = w.heap[k]? := by
  simp [setBlock, Ne.symm h]
theorem sb_size {b : Nat} {y : Obj} : (setBlock w b y).heap.size = w.heap.size := by simp [setBlock]
theorem al_size {y : Obj} : (w.alloc y).heap.size = w.heap.size + 1 := Array.size_push _
theorem al_at {y : Obj} : (w.alloc y).heap[w.heap.size]? = some y := (MapKept.heap_alloc w y).1
theorem al_lt {y : Obj} {k : Nat} (h : k < w.heap.size) : (w.alloc y).heap[k]? = w.heap[k]? := (MapKept.heap_alloc w y).2 k h
theorem Pin.makeMap {t d : Nat} (p : Pin wA D N [] gs f H β a w) (hg : o.guard = none) (ho : o.op = .makeMap t none) (hd : o.dst = some d) (hN : d < N)
    (k : ∀ b a w, Pin wA D N [(b, .map #[] 0)] gs (upd f d (.iv (.raw (.map (some b))))) H β a w → wpListIn (Wd ro) 0 P ops Q rest a w) : wpListIn (Wd ro) 0 P ops Q (o :: rest) a w := by
  refine list_one hg (op_value (exec_makeMap ho) (by rw [ho]; intro c h; cases h) ?_)
  rw [hd]
  refine k w.heap.size _ _ (Pin.turn (d := some d) p rfl rfl rfl (by rw [al_size]; omega) (fun k hk _ => al_lt hk) (fun q hq => ?_) (fun D' hgs _ => ⟨raw_rep rfl, hgs⟩) (fun k hk => by cases hk; exact hN))
  cases List.mem_singleton.1 hq
  exact ⟨al_at, .inr (Nat.le_refl _)⟩
theorem Pin.update {t kt et : TypeId} {m k x : Operand} {b clock : Nat} {es : Array MapEntry} {n : Int} {X : AV} (p : Pin wA D N [(b, .map es clock)] gs f H β a w) (hg : o.guard = none) (ho : o.op = .mapUpdate t m k x) (hd : o.dst = none)
    (hm : AL.ev f m = .iv (.raw (.map (some b)))) (hk : AL.ev f k = .iv (.int .i64 n)) (hx : AL.ev f x = X) (ht : P.underlying t = some (.map kt et)) (hkt : P.underlying kt = some (.int .i64)) (hnew : ∀ e ∈ es.toList, ∃ m, e.key = .int .i64 m ∧ m ≠ n)
    (kk : ∀ v a w, Pin wA D N [(b, .map (es.push ⟨.int .i64 n, v, clock⟩) (clock + 1))] ((X, v) :: gs) f H β a w → wpListIn (Wd ro) 0 P ops Q rest a w) : wpListIn (Wd ro) 0 P ops Q (o :: rest) a w := by
  have hb := p.obj (List.mem_singleton.2 rfl)
  have hev : ∀ y, ∃ D', AVRep w D' H β (AL.ev f y) (a.eval y) := fun y => by
    obtain ⟨G, M, w0, D0, hr, R, _⟩ := p
    exact ⟨_, R.ev y⟩
  have em : a.eval m = .map (some b) := by
    obtain ⟨D', h⟩ := hev m
    rw [hm] at h; simp only [AVRep] at h
    generalize hv : a.eval m = v at h
    cases h; rfl
  have ek : a.eval k = .int .i64 n := by
    obtain ⟨D', h⟩ := hev k
    rw [hk] at h; simp only [AVRep] at h
    generalize hv : a.eval k = v at h
    cases h; rfl
  refine list_one hg (op_skip (exec_update ho em ek rfl hb ht hkt hnew) (by rw [ho]; intro c h; cases h) ?_)
  rw [hd]
  refine kk (a.eval x) _ _ (Pin.turn (d := none) (x := .undef) (val := Go.undef) p rfl rfl rfl (by rw [sb_size]; exact Nat.le_refl _) (fun k _ h => sb_ne fun e => h (.map es clock) (by simp [e])) (fun q hq => ?_) (fun D' hgs hev' => ⟨by simp [AVRep], fun g hg => ?_⟩) (fun k hk => nomatch hk))
  · cases List.mem_singleton.1 hq
    exact ⟨sb_at hb, .inl ⟨_, List.mem_singleton.2 rfl⟩⟩
  · rcases List.mem_cons.1 hg with rfl | hg
    · have := hev' x
      rwa [hx] at this
    · exact hgs g hg
theorem Pin.range {t kt et : TypeId} {x : Operand} {b d clock : Nat} {es : Array MapEntry} (p : Pin wA D N [(b, .map es clock)] gs f H β a w) (hg : o.guard = none) (ho : o.op = .range t x) (hd : o.dst = some d) (hN : d < N)
    (hm : AL.ev f x = .iv (.raw (.map (some b)))) (ht : P.underlying t = some (.map kt et))
    (kk : ∀ r a w, r ≠ b → Pin wA D N [(b, .map es clock), (r, .mapIter (some b) clock #[] clock)] gs (upd f d (.iv (.raw (.pointer (some ⟨r, 0, none⟩))))) H β a w → wpListIn (Wd ro) 0 P ops Q rest a w) : wpListIn (Wd ro) 0 P ops Q (o :: rest) a w := by
  have hb := p.obj (List.mem_singleton.2 rfl)
  have hlt := (Array.getElem?_eq_some_iff.1 hb).1
  have em : a.eval x = .map (some b) := by
    obtain ⟨G, M, w0, D0, hr, R, _⟩ := p
    have h := R.ev x
    rw [hm] at h; simp only [AVRep] at h
    generalize hv : a.eval x = v at h
    cases h; rfl
  refine list_one hg (op_value (exec_range ho em hb ht) (by rw [ho]; intro c h; cases h) ?_)
  rw [hd]
  refine kk w.heap.size _ _ (by omega) (Pin.turn (d := some d) p rfl rfl rfl (by rw [al_size]; omega) (fun k hk _ => al_lt hk) (fun q hq => ?_) (fun D' hgs _ => ⟨raw_rep rfl, hgs⟩) (fun k hk => by cases hk; exact hN))
  simp only [List.mem_cons, List.mem_singleton, List.not_mem_nil, or_false] at hq
  rcases hq with rfl | rfl
  · exact ⟨(al_lt hlt).trans hb, .inl ⟨_, List.mem_singleton.2 rfl⟩⟩
  · exact ⟨al_at, .inr (Nat.le_refl _)⟩
theorem Pin.next {x : Operand} {b r d since c0 clock : Nat} {seen : Array Nat} {es : Array MapEntry} (p : Pin wA D N [(b, .map es clock), (r, .mapIter (some b) since seen c0)] gs f H β a w) (hrb : r ≠ b) (hg : o.guard = none) (ho : o.op = .next x false) (hd : o.dst = some d) (hN : d < N)
    (hx : AL.ev f x = .iv (.raw (.pointer (some ⟨r, 0, none⟩)))) (hold : ∀ x ∈ es.toList, x.born < since) (hsc : since ≤ c0)
    (k0 : ∀ a w, (leftOf es seen).size = 0 → Pin wA D N [(b, .map es clock), (r, .mapIter (some b) since seen c0)] gs (upd f d (.tup [.iv (.bool false)])) H β a w → wpListIn (Wd ro) 0 P ops Q rest a w)
    (k1 : ∀ e a w, e ∈ (leftOf es seen).toList → Pin wA D N [(b, .map es clock), (r, .mapIter (some b) since (seen.push e.born) clock)] gs (upd f d (.tup [.iv (.bool true), .dead, .dead])) H β a w → wpListIn (Wd ro) 0 P ops Q rest a w) : wpListIn (Wd ro) 0 P ops Q (o :: rest) a w := by
  have hb : w.heap[b]? = some (.map es clock) := p.obj (by simp)
  have hr : w.heap[r]? = some (.mapIter (some b) since seen c0) := p.obj (by simp)
  have em : a.eval x = .pointer (some ⟨r, 0, none⟩) := by
    obtain ⟨G, M, w0, D0, hr, R, _⟩ := p
    have h := R.ev x
    rw [hx] at h; simp only [AVRep] at h
    generalize hv : a.eval x = v at h
    cases h; rfl
  rcases exec_next (P := P) ho em hr hb hold hsc with ⟨h1, h2⟩ | ⟨e, he, w1, hw, h2⟩
  · refine list_one hg (op_value h2 (by rw [ho]; intro c h; cases h) ?_)
    rw [hd]
    refine k0 _ _ h1 (Pin.turn (d := some d) p rfl rfl rfl (Nat.le_refl _) (fun _ _ _ => rfl) (fun q hq => ⟨p.obj hq, .inl ⟨_, hq⟩⟩) (fun D' hgs _ => ⟨?_, hgs⟩) (fun k hk => by cases hk; exact hN))
    simp only [AVRep]
    exact ⟨_, rfl, .bool _, trivial⟩
  · refine list_one hg (op_value h2 (by rw [ho]; intro c h; cases h) ?_)
    rw [hd]
    have hh : w1.heap = w.heap ∧ w1.os = w.os ∧ w1.tape = w.tape ∧ w1.output = w.output := by
      rcases hw with rfl | rfl
      · exact ⟨rfl, rfl, rfl, rfl⟩
      · exact ⟨rfl, rfl, rfl, rfl⟩
    obtain ⟨hh, ho', ht', hu'⟩ := hh
    have hr1 : w1.heap[r]? = some (.mapIter (some b) since seen c0) := by rw [hh]; exact hr
    refine k1 e _ _ he (Pin.turn (d := some d) p ho' ht' hu' (by rw [sb_size, hh]; exact Nat.le_refl _) (fun k _ h => ?_) (fun q hq => ?_) (fun D' hgs _ => ⟨?_, hgs⟩) (fun k hk => by cases hk; exact hN))
    · rw [sb_ne fun e => h (.mapIter (some b) since seen c0) (by simp [e]), hh]
    · simp only [List.mem_cons, List.mem_singleton, List.not_mem_nil, or_false] at hq
      rcases hq with rfl | rfl
      · exact ⟨by rw [sb_ne (Ne.symm hrb), hh]; exact hb, .inl ⟨.map es clock, by simp⟩⟩
      · exact ⟨sb_at hr1, .inl ⟨.mapIter (some b) since seen c0, by simp⟩⟩
    · simp only [AVRep]
      exact ⟨_, rfl, .bool _, by simp [AVRep], by simp [AVRep], trivial⟩
theorem Pin.entry {x : Operand} {b r d since clock : Nat} {seen : Array Nat} {es : Array MapEntry} {e : MapEntry} {n : Int} {X : AV} (p : Pin wA D N [(b, .map es clock), (r, .mapIter (some b) since (seen.push e.born) clock)] gs f H β a w) (hg : o.guard = none) (ho : o.op = .entry x) (hd : o.dst = some d) (hN : d < N)
    (hx : AL.ev f x = .iv (.raw (.pointer (some ⟨r, 0, none⟩)))) (he : e ∈ es.toList) (hn : (es.toList.map (·.born)).Nodup) (hkey : e.key = .int .i64 n) (hval : (X, e.val) ∈ gs)
    (k : ∀ a w, Pin wA D N [(b, .map es clock), (r, .mapIter (some b) since (seen.push e.born) clock)] gs (upd f d (.tup [.iv (.int .i64 n), X])) H β a w → wpListIn (Wd ro) 0 P ops Q rest a w) : wpListIn (Wd ro) 0 P ops Q (o :: rest) a w := by
  have hb : w.heap[b]? = some (.map es clock) := p.obj (by simp)
  have hr : w.heap[r]? = some (.mapIter (some b) since (seen.push e.born) clock) := p.obj (by simp)
  have em : a.eval x = .pointer (some ⟨r, 0, none⟩) := by
    obtain ⟨G, M, w0, D0, hr, R, _⟩ := p
    have h := R.ev x
    rw [hx] at h; simp only [AVRep] at h
    generalize hv : a.eval x = v at h
    cases h; rfl
  refine list_one hg (op_value (exec_entry ho em hr hb he hn) (by rw [ho]; intro c h; cases h) ?_)
  rw [hd, hkey]
  refine k _ _ (Pin.turn (d := some d) p rfl rfl rfl (Nat.le_refl _) (fun _ _ _ => rfl) (fun q hq => ⟨p.obj hq, .inl ⟨_, hq⟩⟩) (fun D' hgs _ => ⟨?_, hgs⟩) (fun k hk => by cases hk; exact hN))
  have := hgs _ hval
  simp only [AVRep]
  exact ⟨_, rfl, .int _ _, this, trivial⟩
def MapC2 (P : Program) (g : Nat) (args : List CV) (k1 : Int) (x1 : IV) (k2 : Int) (x2 : IV) : Prop :=
  ∀ (w : World) (D : Nat → Prop) (vs : List Value), (∀ b, D b → b < w.heap.size) → CVReps w D args vs →
    CallsR P g vs w fun v w' => Below w.heap.size w w' ∧ ∃ b v1 v2, v = .map (some b) ∧ w.heap.size ≤ b ∧ w'.heap[b]? = some (.map #[⟨.int .i64 k1, v1, 0⟩, ⟨.int .i64 k2, v2, 1⟩] 2) ∧ Rep w' (fun k => D k ∨ k = b) x1 v1 ∧ Rep w' (fun k => D k ∨ k = b) x2 v2
theorem Pin.callMap {g d : Nat} {args : Array Operand} {ats : Array TypeId} {cv : List CV} {c : Prop} {k1 k2 : Int} {x1 x2 : IV} (p : Pin wA D N [] gs f H β a w) (hg : o.guard = none) (ho : o.op = .call ⟨.value (.func g), args, ats⟩) (hd : o.dst = some d) (hN : d < N)
    (ht : tocvs H (args.toList.map (AL.ev f)) = some (c, cv, [])) (hc : c) (hac : MapC2 P g cv k1 x1 k2 x2)
    (k : ∀ b v1 v2 a w, Pin wA D N [(b, .map #[⟨.int .i64 k1, v1, 0⟩, ⟨.int .i64 k2, v2, 1⟩] 2)] ((.iv x1, v1) :: (.iv x2, v2) :: gs) (upd f d (.iv (.raw (.map (some b))))) H β a w → wpListIn (Wd ro) 0 P ops Q rest a w) : wpListIn (Wd ro) 0 P ops Q (o :: rest) a w := by
  obtain ⟨G, M, w0, D0, hr, R, hD, hB, hM, hp, hgs⟩ := p
  have hcv : CVReps w (DD H β D0) cv (args.toList.map a.eval) := tocvs_sound R (avall_map R args.toList) ht hc
  have hlt : ∀ b, DD H β D0 b → b < w.heap.size := by
    rintro b (hb | ⟨h, hm, hk⟩)
    · have := (R.old b hb).1
      have := R.size
      omega
    · exact (R.mut_lt hm hk).1
  refine list_one hg (callsR_wp (us := #[]) ho rfl (by rw [show (#[] : Array Value).toList = [] from rfl, List.append_nil]; exact hac w (DD H β D0) _ hlt hcv) ?_)
  rintro v w' ⟨hb, b, v1, v2, rfl, hbs, hob, r1, r2⟩
  rw [hd]
  refine k b v1 v2 _ _ (pin_turn (d := some d) hr R hD hB hM hp hb.os hb.tape hb.output hb.size (fun k hk _ => hb.block k hk) (fun q hq => ?_) (fun D' h1 g => ⟨raw_rep rfl, fun q hq => ?_⟩) (fun k hk => by cases hk; exact hN))
  · cases List.mem_singleton.1 hq
    exact ⟨hob, .inr hbs⟩
  · have sub : Grows w' (fun k => DD H β D0 k ∨ k = b) w' D' := Grows.of_sub fun k hk => by
      rcases h1 k hk with h | ⟨o, h⟩
      · exact .inl h
      · cases List.mem_singleton.1 h
        exact .inr rfl
    simp only [List.mem_cons] at hq
    rcases hq with rfl | rfl | hq
    · simp only [AVRep]; exact r1.mono sub
    · simp only [AVRep]; exact r2.mono sub
    · exact AVRep.mono g (HStep.refl _ _) _ _ (R.gh q.1 q.2 (hgs q hq))
theorem Pin.opsAll {pins : List (Nat × Obj)} {l : List Oper} {K : Fr → Hp → Log → Prop} (hd : ∀ o ∈ rest, ∀ d, o.dst = some d → d < N) (p : Pin wA D N pins gs f H β a w) (h : AOps P (l.map (·.dst)) rest K f H [])
    (k : ∀ f H lg β a w, K f H lg → Pin wA D N pins gs f H β a w → Q .normal a w) : wpListIn (Wd ro) 0 P l.toArray Q rest a w := by
  have := Pin.ops (ro := ro) (ops := l.toArray) (rest2 := []) (Q := Q) rest hd p h k
  rwa [List.append_nil] at this
theorem Pin.opsN {pins : List (Nat × Obj)} {l l1 l2 : List Oper} {K : Fr → Hp → Log → Prop} (hl : rest = l1 ++ l2) (hd : ∀ o ∈ l1, ∀ d, o.dst = some d → d < N) (p : Pin wA D N pins gs f H β a w) (h : AOps P (l.map (·.dst)) l1 K f H [])
    (k : ∀ f H lg β a w, K f H lg → Pin wA D N pins gs f H β a w → wpListIn (Wd ro) 0 P l.toArray Q l2 a w) : wpListIn (Wd ro) 0 P l.toArray Q rest a w := by
  subst hl
  exact Pin.ops (ro := ro) (ops := l.toArray) (rest2 := l2) (Q := Q) l1 hd p h k
def OnlyE (id : Nat) (J : Fr → Hp → Prop) : Post
  | .exit i, f, H => i = id ∧ J f H
  | _, _, _ => False
theorem Pin.seqE {pins : List (Nat × Obj)} {id : Nat} (hm : P.follows .mixedOrders = true) {x y : Code} {J : Fr → Hp → Prop} (hd : codeOk N x = true) (nx : noRange x = true) (p : Pin wA D N pins gs f H β a w) (h : AW P x (OnlyE id J) f H)
    (k : ∀ f H β a w, J f H → Pin wA D N pins gs f H β a w → Q (.exit id) a w) : (Code.seq x y).wpIn (Wd none) 0 P Q a w := by
  obtain ⟨G, M, w0, D0, hr, R, hD, hB, hM, hp, hg⟩ := p
  refine wpIn_seq (wpIn_mono (aw_sound hm x none G M w0 _ f H β a w (.inl nx) hd h R) fun e a w hq => ?_)
  cases e with
  | normal => obtain ⟨f, H, β, hk, R⟩ := hq; exact hk.elim
  | panic _ => exact hq.elim
  | outgrown => exact hq.elim
  | exit i =>
    obtain ⟨f, H, β, hk, R⟩ := hq
    obtain ⟨rfl, hk⟩ := hk
    exact k f H β a w hk ⟨G, M, w0, D0, hr, R, hD, hB, hM, hp, hg⟩
  | ret => obtain ⟨f, H, β, hk, R⟩ := hq; exact hk.elim
  | goto _ => obtain ⟨f, H, β, hk, R⟩ := hq; exact hk.elim
theorem Pin.cond_true {pins : List (Nat × Obj)} {c : Operand} {x y : Code} (p : Pin wA D N pins gs f H β a w) (hc : AL.ev f c = .iv (.bool true)) (h : x.wpIn (Wd ro) 0 P Q a w) : (Code.cond c x y).wpIn (Wd ro) 0 P Q a w := by
  have hv : a.eval c = .bool true := by
    obtain ⟨G, M, w0, D0, hr, R, _⟩ := p
    have h := R.ev c
    rw [hc] at h; simp only [AVRep] at h
    generalize hv : a.eval c = v at h
    cases h; rfl
  exact wpIn_cond_split hv (fun _ => h) (fun h => nomatch h)
theorem Pin.weak {pins : List (Nat × Obj)} {f' : Fr} {H' : Hp} (p : Pin wA D N pins gs f H β a w) (k : Weak f H f' H') : ∃ β', Pin wA D N pins gs f' H' β' a w := by
  obtain ⟨G, M, w0, D0, hr, R, hD, hB, hM, hp, hg⟩ := p
  obtain ⟨β', R'⟩ := R.weak k
  exact ⟨β', G, M, w0, D0, hr, R', hD, hB, hM, hp, hg⟩
theorem Pin.below {pins : List (Nat × Obj)} (p : Pin wA D N pins gs f H β a w) : Below wA.heap.size wA w := by
  obtain ⟨G, M, w0, D0, hr, R, hD, hB, hM, hp, hgs⟩ := p
  have hs0 := hB.size
  refine ⟨R.os.trans hB.os, R.tape.trans hB.tape, R.output.trans hB.output, Nat.le_trans hs0 R.size, fun k hk => ?_⟩
  rw [R.keep k (by omega) fun h => by have := hM k h; omega]
  exact hB.block k hk
theorem rets_none {G : Gh} {M : Nat → Prop} {w0 : World} {D0 : Nat → Prop} (R : Rel G M w0 D0 N f H β a w) : ∀ (rs : List ResultVar) (j : Nat) (cs : List CV), rets P f H none j rs cs →
    ∃ us : List Value, (rs.mapM (rvS a.tmps)).run P w = .ok us w ∧ us.length = cs.length ∧ ∀ (k : Nat) c v, cs[k]? = some c → us[k]? = some v → ∃ ms, CVRep w (DD (frzAll ms H) β D0) c v
  | [], j, [], _ => ⟨[], by simp, rfl, by simp⟩
  | r :: rs, j, c :: cs, h => by
    simp only [rets] at h
    obtain ⟨us, a1, a2, a3⟩ := rets_none R rs (j + 1) cs h.2
    have hv := h.1
    unfold RetVal at hv
    split at hv
    · rename_i p c' ms hr
      obtain ⟨hp, rfl, _⟩ := hv
      obtain ⟨v, hv1, hv2⟩ := retv_sound R hr hp
      refine ⟨v :: us, by simp [List.mapM_cons, hv1, a1], by simp [a2], fun k c v hc hv => ?_⟩
      cases k with
      | zero => cases hc; cases hv; exact ⟨ms, hv2⟩
      | succ k => exact a3 k c v hc hv
    · exact hv.elim
  | [], _, _ :: _, h => by simp [rets] at h
  | _ :: _, _, [], h => by simp [rets] at h
theorem Pin.ret {pins : List (Nat × Obj)} {rs : List ResultVar} {res : List CV} (p : Pin wA D N pins gs f H β a w) (h : rets P f H none 0 rs res) :
    a.defers = [] ∧ ∃ us, (rs.mapM (rvS a.tmps)).run P w = .ok us w ∧ (Below wA.heap.size wA w ∧ ∃ us', packV us = packV us' ∧ ResOk wA w D none res us') := by
  have hbl := p.below
  obtain ⟨G, M, w0, D0, hr, R, hD, hB, hM, hp, hgs⟩ := p
  obtain ⟨us, h1, h2, h3⟩ := rets_none R _ _ _ h
  refine ⟨R.rnd hr, us, h1, hbl, us, rfl, h2, fun j c v hj hc hv => ?_, fun i e sz rows ho => nomatch ho⟩
  obtain ⟨ms, hrep⟩ := h3 j c v hc hv
  refine hrep.mono (Grows.of_sub fun b hb => ?_)
  rcases hb with hb | hb
  · exact .inl (hD b hb)
  · exact hb.elim
theorem Pin.ret_map {b t : Nat} {k1 k2 : Int} {x1 x2 : IV} {v1 v2 : Value} (p : Pin wA D N [(b, .map #[⟨.int .i64 k1, v1, 0⟩, ⟨.int .i64 k2, v2, 1⟩] 2)] [(.iv x2, v2), (.iv x1, v1)] f H β a w) (h : f t = .iv (.raw (.map (some b)))) :
    a.defers = [] ∧ ∃ us, (([.tmp t] : List ResultVar).mapM (rvS a.tmps)).run P w = .ok us w ∧ (Below wA.heap.size wA w ∧ ∃ b v1 v2, packV us = .map (some b) ∧ wA.heap.size ≤ b ∧ w.heap[b]? = some (.map #[⟨.int .i64 k1, v1, 0⟩, ⟨.int .i64 k2, v2, 1⟩] 2) ∧ Rep w (fun k => D k ∨ k = b) x1 v1 ∧ Rep w (fun k => D k ∨ k = b) x2 v2) := by
  have hbl := p.below
  have hob := p.obj (List.mem_singleton.2 rfl)
  obtain ⟨G, M, w0, D0, hr, R, hD, hB, hM, hp, hgs⟩ := p
  obtain ⟨hb0, _, hbs⟩ := hp _ (List.mem_singleton.2 rfl)
  have ht : a.tmps.getD t Go.undef = .map (some b) := by
    have h1 := R.tmps t
    rw [h] at h1; simp only [AVRep] at h1
    generalize hv : a.tmps.getD t Go.undef = v at h1
    cases h1; rfl
  have sub : Grows w (DD H β D0) w (fun k => D k ∨ k = b) := Grows.of_sub fun k hk => by
    rcases hk with h | rfl
    · exact .inl (hD k h)
    · exact .inl hb0
  refine ⟨R.rnd hr, [.map (some b)], ?_, hbl, b, v1, v2, rfl, hbs, hob, ?_, ?_⟩
  · simp [List.mapM_cons, rvS, ht, Result.andThen]
  · have := R.gh (.iv x1) v1 (hgs (.iv x1, v1) (by simp)); simp only [AVRep] at this; exact this.mono sub
  · have := R.gh (.iv x2) v2 (hgs (.iv x2, v2) (by simp)); simp only [AVRep] at this; exact this.mono sub
end
end Go.Proofs.YthbobdhkbgggjaaGreat

namespace Go.Proofs.YthbobdhkbgggjaaGreat
open Go Go.Proofs Go.AL Go.RowKit
set_option linter.unusedSimpArgs false
set_option linter.unusedVariables false
abbrev qA : List Int := [0, 1, -2, 1]
abbrev qB : List Int := [0, -1, 1]
abbrev qC : List Int := [-1, 1]
abbrev qX : List Int := [0, 1]
abbrev qI : List Int := [1]
abbrev qD : List Int := [1, -4, 3]
theorem k_prim : AC Tryz.prog 35 [cp qA] none [cp qA] := by
  have p1 := pprim_ok (cn qA) ((tiny_rp (A := qA) (by decide +kernel)).mono (by decide) (by decide))
  rwa [tiny_pv (by decide +kernel), show prim qA = qA by decide +kernel] at p1
theorem k_over1 : AC Tryz.prog 38 [cp qA, cp qC] none [cp qB] := sover_ok qA qC qA qC qB qB (by decide +kernel) (by decide +kernel) (by decide +kernel) (by decide +kernel) (by decide +kernel) (by decide +kernel) (by decide +kernel) (by decide +kernel) (by decide +kernel)
theorem k_free : AC Tryz.prog 36 [cp qA] none [cp qB] := sfree_ok qA qD qC qB (by decide +kernel) (by decide +kernel) (by decide +kernel) (by decide +kernel) (by decide +kernel) k_over1
theorem k_over2 : AC Tryz.prog 38 [cp qA, cp qB] none [cp qC] := sover_ok qA qB qA qB qC qC (by decide +kernel) (by decide +kernel) (by decide +kernel) (by decide +kernel) (by decide +kernel) (by decide +kernel) (by decide +kernel) (by decide +kernel) (by decide +kernel)
theorem k_over3 : AC Tryz.prog 38 [cp qB, cp qC] none [cp qX] := sover_ok qB qC qB qC qX qX (by decide +kernel) (by decide +kernel) (by decide +kernel) (by decide +kernel) (by decide +kernel) (by decide +kernel) (by decide +kernel) (by decide +kernel) (by decide +kernel)
theorem k_over4 : AC Tryz.prog 38 [cp qC, cp qC] none [cp qI] := sover_ok qC qC qC qC qI qI (by decide +kernel) (by decide +kernel) (by decide +kernel) (by decide +kernel) (by decide +kernel) (by decide +kernel) (by decide +kernel) (by decide +kernel) (by decide +kernel)
theorem k_over5 : AC Tryz.prog 38 [cp qC, cp qI] none [cp qC] := sover_ok qC qI qC qI qC qC (by decide +kernel) (by decide +kernel) (by decide +kernel) (by decide +kernel) (by decide +kernel) (by decide +kernel) (by decide +kernel) (by decide +kernel) (by decide +kernel)
theorem k_gcd1 : AC Tryz.prog 39 [cp qB, cp qC] none [cp qC] := sgcd_ok qB qC qC (by decide +kernel) (by decide +kernel) (by decide +kernel)
theorem k_gcd2 : AC Tryz.prog 39 [cp qC, cp qI] none [cp qI] := sgcd_ok qC qI qI (by decide +kernel) (by decide +kernel) (by decide +kernel)
theorem k_const (A : List Int) (b : Bool) (h : tiny A = true) (e : decide ((tz A : Int) - 1 < 1) = b) : AC Tryz.prog 37 [cp A] none [cb b] := by
  have := sconst_ok A h
  rwa [e] at this
end Go.Proofs.YthbobdhkbgggjaaGreat

namespace Go.Proofs.YthbobdhkbgggjaaGreat
open Go Go.Proofs Go.AL Go.RowKit
set_option linter.unusedSimpArgs false
set_option linter.unusedVariables false
theorem new0 : ∀ e ∈ (#[] : Array MapEntry).toList, ∃ m, e.key = .int .i64 m ∧ m ≠ (1 : Int) := by simp
theorem new1 (v : Value) : ∀ e ∈ (#[⟨.int .i64 1, v, 0⟩] : Array MapEntry).toList, ∃ m, e.key = .int .i64 m ∧ m ≠ (2 : Int) := by
  intro e he
  cases List.mem_singleton.1 he
  exact ⟨1, rfl, by decide⟩
theorem und_map : Tryz.prog.underlying 49 = some (.map 3 26) := by kernel_rfl
theorem und_int : Tryz.prog.underlying 3 = some (.int .i64) := by kernel_rfl
theorem bymult_ok : MapC2 Tryz.prog 20 [cp qA] 1 (.sl (cpoly qX)) 2 (.sl (cpoly qC)) := by
  intro wA D vs hD hvs
  refine calls_of_body Tryz.func20 (by rfl) (by rfl) ?_
  have p := Pin.start (n := 36) hD hvs (by decide)
  refine p.seq ords (J := fun f H => f 0 = .iv (.sl (cpoly qA))) (by rfl) (by rfl) ?_ ?_
  · simp (disch := omega) only [wk, tis, seval, reduceCtorEq, Nat.reduceEqDiff, OnlyQ, OnlyE]
  intro f H β a w g0 p
  refine wpIn_seq (wpIn_region_list ?_)
  refine p.makeMap (d := 9) rfl rfl rfl (by decide) fun b a w p => ?_
  refine p.opsAll (K := fun f H _ => f 0 = .iv (.sl (cpoly qA)) ∧ f 3 = .iv (.raw (.map (some b)))) (by decide) ?_ ?_
  · simp (disch := omega) only [wk, tis, seval, reduceCtorEq, Nat.reduceEqDiff, OnlyQ, OnlyE, g0]
  intro f H _ β a w ⟨g0, g3⟩ p
  refine p.seq ords (J := fun f H => f 3 = .iv (.raw (.map (some b))) ∧ f 4 = .iv (.sl (cpoly qA))) (by rfl) (by rfl) ?_ ?_
  · simp (disch := omega) only [wk, tis, seval, reduceCtorEq, Nat.reduceEqDiff, OnlyQ, OnlyE, g0, g3]
    refine call_by (k_prim) (by first | rfl | (simp only [tocvs, tocv, g3]; rfl) | (simp only [tocvs, tocv, toboxes, tobox, updH_at, Nat.reduceEqDiff, ↓reduceIte, g3]; rfl)) (by simp) ?_
    simp (disch := omega) only [wk, tis, seval, reduceCtorEq, Nat.reduceEqDiff, OnlyQ, OnlyE, g3]
  intro f H β a w ⟨g3, g4⟩ p
  refine p.seq ords (J := fun f H => f 3 = .iv (.raw (.map (some b))) ∧ f 4 = .iv (.sl (cpoly qA)) ∧ f 5 = .iv (.sl (cpoly qB))) (by rfl) (by rfl) ?_ ?_
  · simp (disch := omega) only [wk, tis, seval, reduceCtorEq, Nat.reduceEqDiff, OnlyQ, OnlyE, g3, g4]
    refine call_by (k_free) (by first | rfl | (simp only [tocvs, tocv, g3, g4]; rfl) | (simp only [tocvs, tocv, toboxes, tobox, updH_at, Nat.reduceEqDiff, ↓reduceIte, g3, g4]; rfl)) (by simp) ?_
    simp (disch := omega) only [wk, tis, seval, reduceCtorEq, Nat.reduceEqDiff, OnlyQ, OnlyE, g3, g4]
  intro f H β a w ⟨g3, g4, g5⟩ p
  refine wpIn_seq ?_
  refine p.seq ords (J := fun f H => f 3 = .iv (.raw (.map (some b))) ∧ f 4 = .iv (.sl (cpoly qA)) ∧ f 5 = .iv (.sl (cpoly qB)) ∧ f 6 = .iv (.int .i64 1)) (by rfl) (by rfl) ?_ ?_
  · simp (disch := omega) only [wk, tis, seval, reduceCtorEq, Nat.reduceEqDiff, OnlyQ, OnlyE, g3, g4, g5]
  intro f H β a w ⟨g3, g4, g5, g6⟩ p
  refine wpIn_block (wpIn_loop_rel (fun n a w => ∃ f H β, f 3 = .iv (.raw (.map (some b))) ∧
    ((n = 2 ∧ f 4 = .iv (.sl (cpoly qA)) ∧ f 5 = .iv (.sl (cpoly qB)) ∧ f 6 = .iv (.int .i64 1) ∧ Pin wA D 36 [(b, .map #[] 0)] [] f H β a w) ∨
     (n = 1 ∧ f 4 = .iv (.sl (cpoly qC)) ∧ f 5 = .iv (.sl (cpoly qC)) ∧ f 6 = .iv (.int .i64 2) ∧ ∃ v1, Pin wA D 36 [(b, .map #[⟨.int .i64 1, v1, 0⟩] 1)] [(.iv (.sl (cpoly qX)), v1)] f H β a w) ∨
     (n = 0 ∧ f 5 = .iv (.sl (cpoly qI)) ∧ ∃ v1 v2, Pin wA D 36 [(b, .map #[⟨.int .i64 1, v1, 0⟩, ⟨.int .i64 2, v2, 1⟩] 2)] [(.iv (.sl (cpoly qC)), v2), (.iv (.sl (cpoly qX)), v1)] f H β a w))) ?_ (m := 2) ⟨f, H, β, g3, .inl ⟨rfl, g4, g5, g6, p⟩⟩)
  clear p g3 g4 g5 g6 f H β a w
  rintro n a w ⟨f, H, β, g3, ⟨rfl, g4, g5, g6, p⟩ | ⟨rfl, g4, g5, g6, v1, p⟩ | ⟨rfl, g5, v1, v2, p⟩⟩
  · have c1 := k_const qB false (by decide +kernel) (by decide +kernel)
    have c2 := k_over2
    have c3 := k_gcd1
    have c4 := k_over3
    have c5 := k_const qX false (by decide +kernel) (by decide +kernel)
    have hnew := new0
    refine p.seq ords (J := fun f H => f 3 = .iv (.raw (.map (some b))) ∧ f 4 = .iv (.sl (cpoly qA)) ∧ f 5 = .iv (.sl (cpoly qB)) ∧ f 6 = .iv (.int .i64 1)) (by rfl) (by rfl) ?_ ?_
    · simp (disch := omega) only [wk, tis, seval, reduceCtorEq, Nat.reduceEqDiff, OnlyQ, OnlyE, g3, g4, g5, g6]
      refine call_by (c1) (by first | rfl | (simp only [tocvs, tocv, g3, g4, g5, g6]; rfl) | (simp only [tocvs, tocv, toboxes, tobox, updH_at, Nat.reduceEqDiff, ↓reduceIte, g3, g4, g5, g6]; rfl)) (by simp) ?_
      simp (disch := omega) only [wk, tis, seval, reduceCtorEq, Nat.reduceEqDiff, OnlyQ, OnlyE, g3, g4, g5, g6]
    clear g3 g4 g5 g6 p
    intro f H β a w ⟨g3, g4, g5, g6⟩ p
    refine wpIn_seq (wpIn_block ?_)
    refine p.seq ords (J := fun f H => f 3 = .iv (.raw (.map (some b))) ∧ f 4 = .iv (.sl (cpoly qC)) ∧ f 5 = .iv (.sl (cpoly qB)) ∧ f 6 = .iv (.int .i64 1)) (by rfl) (by rfl) ?_ ?_
    · simp (disch := omega) only [wk, tis, seval, reduceCtorEq, Nat.reduceEqDiff, OnlyQ, OnlyE, g3, g4, g5, g6]
      refine call_by (c2) (by first | rfl | (simp only [tocvs, tocv, g3, g4, g5, g6]; rfl) | (simp only [tocvs, tocv, toboxes, tobox, updH_at, Nat.reduceEqDiff, ↓reduceIte, g3, g4, g5, g6]; rfl)) (by simp) ?_
      simp (disch := omega) only [wk, tis, seval, reduceCtorEq, Nat.reduceEqDiff, OnlyQ, OnlyE, g3, g4, g5, g6]
    clear g3 g4 g5 g6 p
    intro f H β a w ⟨g3, g4, g5, g6⟩ p
    refine p.seq ords (J := fun f H => f 3 = .iv (.raw (.map (some b))) ∧ f 4 = .iv (.sl (cpoly qC)) ∧ f 5 = .iv (.sl (cpoly qB)) ∧ f 6 = .iv (.int .i64 1) ∧ f 7 = .iv (.sl (cpoly qC))) (by rfl) (by rfl) ?_ ?_
    · simp (disch := omega) only [wk, tis, seval, reduceCtorEq, Nat.reduceEqDiff, OnlyQ, OnlyE, g3, g4, g5, g6]
      refine call_by (c3) (by first | rfl | (simp only [tocvs, tocv, g3, g4, g5, g6]; rfl) | (simp only [tocvs, tocv, toboxes, tobox, updH_at, Nat.reduceEqDiff, ↓reduceIte, g3, g4, g5, g6]; rfl)) (by simp) ?_
      simp (disch := omega) only [wk, tis, seval, reduceCtorEq, Nat.reduceEqDiff, OnlyQ, OnlyE, g3, g4, g5, g6]
    clear g3 g4 g5 g6 p
    intro f H β a w ⟨g3, g4, g5, g6, g7⟩ p
    refine wpIn_seq ?_
    refine p.seq ords (J := fun f H => f 3 = .iv (.raw (.map (some b))) ∧ f 4 = .iv (.sl (cpoly qC)) ∧ f 6 = .iv (.int .i64 1) ∧ f 7 = .iv (.sl (cpoly qC)) ∧ f 8 = .iv (.sl (cpoly qX))) (by rfl) (by rfl) ?_ ?_
    · simp (disch := omega) only [wk, tis, seval, reduceCtorEq, Nat.reduceEqDiff, OnlyQ, OnlyE, g3, g4, g5, g6, g7]
      refine call_by (c4) (by first | rfl | (simp only [tocvs, tocv, g3, g4, g5, g6, g7]; rfl) | (simp only [tocvs, tocv, toboxes, tobox, updH_at, Nat.reduceEqDiff, ↓reduceIte, g3, g4, g5, g6, g7]; rfl)) (by simp) ?_
      simp (disch := omega) only [wk, tis, seval, reduceCtorEq, Nat.reduceEqDiff, OnlyQ, OnlyE, g3, g4, g5, g6, g7]
    clear g3 g4 g5 g6 g7 p
    intro f H β a w ⟨g3, g4, g6, g7, g8⟩ p
    refine p.seq ords (J := fun f H => f 3 = .iv (.raw (.map (some b))) ∧ f 4 = .iv (.sl (cpoly qC)) ∧ f 6 = .iv (.int .i64 1) ∧ f 7 = .iv (.sl (cpoly qC)) ∧ f 8 = .iv (.sl (cpoly qX)) ∧ f 30 = .iv (.bool true)) (by rfl) (by rfl) ?_ ?_
    · simp (disch := omega) only [wk, tis, seval, reduceCtorEq, Nat.reduceEqDiff, OnlyQ, OnlyE, g3, g4, g6, g7, g8]
      refine call_by (c5) (by first | rfl | (simp only [tocvs, tocv, g3, g4, g6, g7, g8]; rfl) | (simp only [tocvs, tocv, toboxes, tobox, updH_at, Nat.reduceEqDiff, ↓reduceIte, g3, g4, g6, g7, g8]; rfl)) (by simp) ?_
      simp (disch := omega) only [wk, tis, seval, reduceCtorEq, Nat.reduceEqDiff, OnlyQ, OnlyE, g3, g4, g6, g7, g8]
    clear g3 g4 g6 g7 g8 p
    intro f H β a w ⟨g3, g4, g6, g7, g8, g30⟩ p
    refine p.cond_true (by simp (disch := omega) only [wk, tis, seval, reduceCtorEq, Nat.reduceEqDiff, OnlyQ, OnlyE, g30]) (wpIn_region_list ?_)
    refine p.opsN (l1 := [_, _, _]) (l2 := [_]) (K := fun f H _ => f 3 = .iv (.raw (.map (some b))) ∧ f 4 = .iv (.sl (cpoly qC)) ∧ f 6 = .iv (.int .i64 1) ∧ f 7 = .iv (.sl (cpoly qC)) ∧ f 31 = .iv (.raw (.map (some b))) ∧ f 32 = .iv (.int .i64 1) ∧ f 33 = .iv (.sl (cpoly qX))) rfl (by decide) ?_ ?_
    · simp (disch := omega) only [wk, tis, seval, reduceCtorEq, Nat.reduceEqDiff, OnlyQ, OnlyE, g3, g4, g6, g7, g8]
    clear g3 g4 g6 g7 g8 g30 p
    intro f H _ β a w ⟨g3, g4, g6, g7, g31, g32, g33⟩ p
    refine p.update rfl rfl rfl g31 g32 g33 und_map und_int hnew ?_
    clear g31 g32 g33 p
    intro v a w p
    refine p.last ords (J := fun f H => f 3 = .iv (.raw (.map (some b))) ∧ f 4 = .iv (.sl (cpoly qC)) ∧ f 5 = .iv (.sl (cpoly qC)) ∧ f 6 = .iv (.int .i64 1)) (by rfl) (by rfl) ?_ ?_
    · simp (disch := omega) only [wk, tis, seval, reduceCtorEq, Nat.reduceEqDiff, OnlyQ, OnlyE, g3, g4, g6, g7]
    clear g3 g4 g6 g7 p
    intro f H β a w ⟨g3, g4, g5, g6⟩ p
    refine p.last ords (J := fun f H => f 3 = .iv (.raw (.map (some b))) ∧ f 4 = .iv (.sl (cpoly qC)) ∧ f 5 = .iv (.sl (cpoly qC)) ∧ f 6 = .iv (.int .i64 2)) (by rfl) (by rfl) ?_ ?_
    · simp (disch := omega) only [wk, tis, seval, reduceCtorEq, Nat.reduceEqDiff, OnlyQ, OnlyE, g3, g4, g5, g6]
    clear g3 g4 g5 g6 p
    intro f H β a w ⟨g3, g4, g5, g6⟩ p
    exact ⟨1, by decide, f, H, β, g3, .inr (.inl ⟨rfl, g4, g5, g6, v, p⟩)⟩
  · have c1 := k_const qC false (by decide +kernel) (by decide +kernel)
    have c2 := k_over4
    have c3 := k_gcd2
    have c4 := k_over5
    have c5 := c1
    have hnew := new1 v1
    refine p.seq ords (J := fun f H => f 3 = .iv (.raw (.map (some b))) ∧ f 4 = .iv (.sl (cpoly qC)) ∧ f 5 = .iv (.sl (cpoly qC)) ∧ f 6 = .iv (.int .i64 2)) (by rfl) (by rfl) ?_ ?_
    · simp (disch := omega) only [wk, tis, seval, reduceCtorEq, Nat.reduceEqDiff, OnlyQ, OnlyE, g3, g4, g5, g6]
      refine call_by (c1) (by first | rfl | (simp only [tocvs, tocv, g3, g4, g5, g6]; rfl) | (simp only [tocvs, tocv, toboxes, tobox, updH_at, Nat.reduceEqDiff, ↓reduceIte, g3, g4, g5, g6]; rfl)) (by simp) ?_
      simp (disch := omega) only [wk, tis, seval, reduceCtorEq, Nat.reduceEqDiff, OnlyQ, OnlyE, g3, g4, g5, g6]
    clear g3 g4 g5 g6 p
    intro f H β a w ⟨g3, g4, g5, g6⟩ p
    refine wpIn_seq (wpIn_block ?_)
    refine p.seq ords (J := fun f H => f 3 = .iv (.raw (.map (some b))) ∧ f 4 = .iv (.sl (cpoly qI)) ∧ f 5 = .iv (.sl (cpoly qC)) ∧ f 6 = .iv (.int .i64 2)) (by rfl) (by rfl) ?_ ?_
    · simp (disch := omega) only [wk, tis, seval, reduceCtorEq, Nat.reduceEqDiff, OnlyQ, OnlyE, g3, g4, g5, g6]
      refine call_by (c2) (by first | rfl | (simp only [tocvs, tocv, g3, g4, g5, g6]; rfl) | (simp only [tocvs, tocv, toboxes, tobox, updH_at, Nat.reduceEqDiff, ↓reduceIte, g3, g4, g5, g6]; rfl)) (by simp) ?_
      simp (disch := omega) only [wk, tis, seval, reduceCtorEq, Nat.reduceEqDiff, OnlyQ, OnlyE, g3, g4, g5, g6]
    clear g3 g4 g5 g6 p
    intro f H β a w ⟨g3, g4, g5, g6⟩ p
    refine p.seq ords (J := fun f H => f 3 = .iv (.raw (.map (some b))) ∧ f 4 = .iv (.sl (cpoly qI)) ∧ f 5 = .iv (.sl (cpoly qC)) ∧ f 6 = .iv (.int .i64 2) ∧ f 7 = .iv (.sl (cpoly qI))) (by rfl) (by rfl) ?_ ?_
    · simp (disch := omega) only [wk, tis, seval, reduceCtorEq, Nat.reduceEqDiff, OnlyQ, OnlyE, g3, g4, g5, g6]
      refine call_by (c3) (by first | rfl | (simp only [tocvs, tocv, g3, g4, g5, g6]; rfl) | (simp only [tocvs, tocv, toboxes, tobox, updH_at, Nat.reduceEqDiff, ↓reduceIte, g3, g4, g5, g6]; rfl)) (by simp) ?_
      simp (disch := omega) only [wk, tis, seval, reduceCtorEq, Nat.reduceEqDiff, OnlyQ, OnlyE, g3, g4, g5, g6]
    clear g3 g4 g5 g6 p
    intro f H β a w ⟨g3, g4, g5, g6, g7⟩ p
    refine wpIn_seq ?_
    refine p.seq ords (J := fun f H => f 3 = .iv (.raw (.map (some b))) ∧ f 4 = .iv (.sl (cpoly qI)) ∧ f 6 = .iv (.int .i64 2) ∧ f 7 = .iv (.sl (cpoly qI)) ∧ f 8 = .iv (.sl (cpoly qC))) (by rfl) (by rfl) ?_ ?_
    · simp (disch := omega) only [wk, tis, seval, reduceCtorEq, Nat.reduceEqDiff, OnlyQ, OnlyE, g3, g4, g5, g6, g7]
      refine call_by (c4) (by first | rfl | (simp only [tocvs, tocv, g3, g4, g5, g6, g7]; rfl) | (simp only [tocvs, tocv, toboxes, tobox, updH_at, Nat.reduceEqDiff, ↓reduceIte, g3, g4, g5, g6, g7]; rfl)) (by simp) ?_
      simp (disch := omega) only [wk, tis, seval, reduceCtorEq, Nat.reduceEqDiff, OnlyQ, OnlyE, g3, g4, g5, g6, g7]
    clear g3 g4 g5 g6 g7 p
    intro f H β a w ⟨g3, g4, g6, g7, g8⟩ p
    refine p.seq ords (J := fun f H => f 3 = .iv (.raw (.map (some b))) ∧ f 4 = .iv (.sl (cpoly qI)) ∧ f 6 = .iv (.int .i64 2) ∧ f 7 = .iv (.sl (cpoly qI)) ∧ f 8 = .iv (.sl (cpoly qC)) ∧ f 30 = .iv (.bool true)) (by rfl) (by rfl) ?_ ?_
    · simp (disch := omega) only [wk, tis, seval, reduceCtorEq, Nat.reduceEqDiff, OnlyQ, OnlyE, g3, g4, g6, g7, g8]
      refine call_by (c5) (by first | rfl | (simp only [tocvs, tocv, g3, g4, g6, g7, g8]; rfl) | (simp only [tocvs, tocv, toboxes, tobox, updH_at, Nat.reduceEqDiff, ↓reduceIte, g3, g4, g6, g7, g8]; rfl)) (by simp) ?_
      simp (disch := omega) only [wk, tis, seval, reduceCtorEq, Nat.reduceEqDiff, OnlyQ, OnlyE, g3, g4, g6, g7, g8]
    clear g3 g4 g6 g7 g8 p
    intro f H β a w ⟨g3, g4, g6, g7, g8, g30⟩ p
    refine p.cond_true (by simp (disch := omega) only [wk, tis, seval, reduceCtorEq, Nat.reduceEqDiff, OnlyQ, OnlyE, g30]) (wpIn_region_list ?_)
    refine p.opsN (l1 := [_, _, _]) (l2 := [_]) (K := fun f H _ => f 3 = .iv (.raw (.map (some b))) ∧ f 4 = .iv (.sl (cpoly qI)) ∧ f 6 = .iv (.int .i64 2) ∧ f 7 = .iv (.sl (cpoly qI)) ∧ f 31 = .iv (.raw (.map (some b))) ∧ f 32 = .iv (.int .i64 2) ∧ f 33 = .iv (.sl (cpoly qC))) rfl (by decide) ?_ ?_
    · simp (disch := omega) only [wk, tis, seval, reduceCtorEq, Nat.reduceEqDiff, OnlyQ, OnlyE, g3, g4, g6, g7, g8]
    clear g3 g4 g6 g7 g8 g30 p
    intro f H _ β a w ⟨g3, g4, g6, g7, g31, g32, g33⟩ p
    refine p.update rfl rfl rfl g31 g32 g33 und_map und_int hnew ?_
    clear g31 g32 g33 p
    intro v a w p
    refine p.last ords (J := fun f H => f 3 = .iv (.raw (.map (some b))) ∧ f 4 = .iv (.sl (cpoly qI)) ∧ f 5 = .iv (.sl (cpoly qI)) ∧ f 6 = .iv (.int .i64 2)) (by rfl) (by rfl) ?_ ?_
    · simp (disch := omega) only [wk, tis, seval, reduceCtorEq, Nat.reduceEqDiff, OnlyQ, OnlyE, g3, g4, g6, g7]
    clear g3 g4 g6 g7 p
    intro f H β a w ⟨g3, g4, g5, g6⟩ p
    refine p.last ords (J := fun f H => f 3 = .iv (.raw (.map (some b))) ∧ f 4 = .iv (.sl (cpoly qI)) ∧ f 5 = .iv (.sl (cpoly qI)) ∧ f 6 = .iv (.int .i64 3)) (by rfl) (by rfl) ?_ ?_
    · simp (disch := omega) only [wk, tis, seval, reduceCtorEq, Nat.reduceEqDiff, OnlyQ, OnlyE, g3, g4, g5, g6]
    clear g3 g4 g5 g6 p
    intro f H β a w ⟨g3, g4, g5, g6⟩ p
    exact ⟨0, by decide, f, H, β, g3, .inr (.inr ⟨rfl, g5, v1, v, p⟩)⟩
  · refine p.seqE ords (id := 0) (J := fun f H => f 3 = .iv (.raw (.map (some b)))) (by rfl) (by rfl) ?_ ?_
    · simp (disch := omega) only [wk, tis, seval, reduceCtorEq, Nat.reduceEqDiff, OnlyQ, OnlyE, g3, g5]
      refine call_by ((k_const qI true (by decide +kernel) (by decide +kernel))) (by first | rfl | (simp only [tocvs, tocv, g3, g5]; rfl) | (simp only [tocvs, tocv, toboxes, tobox, updH_at, Nat.reduceEqDiff, ↓reduceIte, g3, g5]; rfl)) (by simp) ?_
      simp (disch := omega) only [wk, tis, seval, reduceCtorEq, Nat.reduceEqDiff, OnlyQ, OnlyE, g3, g5]
    intro f H β a w g3 p
    refine p.seq ords (J := fun f H => f 2 = .iv (.raw (.map (some b)))) (by rfl) (by rfl) ?_ ?_
    · simp (disch := omega) only [wk, tis, seval, reduceCtorEq, Nat.reduceEqDiff, OnlyQ, OnlyE, g3]
    intro f H β a w g2 p
    refine wpIn_ret ?_
    obtain ⟨h1, h2⟩ := p.ret_map (P := Tryz.prog) g2
    exact ⟨.inr rfl, h1, h2⟩
end Go.Proofs.YthbobdhkbgggjaaGreat

namespace Go.Proofs.YthbobdhkbgggjaaGreat
open Go Go.Proofs Go.AL
set_option linter.unusedSimpArgs false
set_option linter.unusedVariables false
def rowF (x : List (List IV)) (m : Int) : List IV := [.sl x, .int .i64 m]
theorem spl2 (a b c d : IV) : splice [a, b] 0 [c, d] = [c, d] := rfl
theorem tak2 (a b : IV) : List.take 2 [a, b] = [a, b] := rfl
theorem set21 (a b c : List IV) : [a, b].set 1 c = [a, c] := rfl
theorem set20 (a b c : List IV) : [a, b].set 0 c = [c, b] := rfl
theorem lay_fac (x : List (List IV)) (m : IV) : lay (fun i => [(0, 1), (1, 1)][i]?) [.sl [], .int .i64 0] ([0, 1].zip [[.sl x], [m]]) = some ((1 = 1 ∧ 0 + 1 ≤ 2) ∧ (1 = 1 ∧ 1 + 1 ≤ 2) ∧ True, [.sl x, m]) := rfl
theorem fcmp_ok (x y : List (List IV)) (m n : Int) (hm : -1000 ≤ m ∧ m ≤ 1000) (hn : -1000 ≤ n ∧ n ≤ 1000) : AC Tryz.prog 22 [.agg (rowF x m), .agg (rowF y n)] none [ci (m - n)] := by
  refine AC.by_walk (rs := [.tmp 4]) ords Tryz.func22 (by rfl) (by rfl) (by rfl) (by rfl) (by rfl) ?_
  simp (disch := omega) only [wk, tis, seval, reduceCtorEq, Nat.reduceEqDiff, rowF, spl2, tak2, set21, set20]
theorem blen_ok (x : Nat) (hx : x < W) : AC Tryz.prog 41 [cu x] none [ci (bl x)] := by
  have h := len64_ok x hx
  refine AC.by_walk (rs := [.tmp 2]) ords Tryz.func41 (by rfl) (by rfl) (by rfl) (by rfl) (by rfl) ?_
  simp (disch := omega) only [wk, tis, seval, reduceCtorEq, Nat.reduceEqDiff, rowF, spl2, tak2, set21, set20]
  refine call_by (h) (by rfl) (by simp) ?_
  simp (disch := omega) only [wk, tis, seval, reduceCtorEq, Nat.reduceEqDiff, rowF, spl2, tak2, set21, set20]
theorem ins_in (x y : List (List IV)) : ACW Tryz.prog 63 [.any, ci 0, ci 2, .fn 22 []] 0 39 2 [rowF x 1, rowF y 2] [rowF x 1, rowF y 2] [] := by
  have c1 := fcmp_ok y x 2 1 (by decide) (by decide)
  obtain ⟨rows, er⟩ : ∃ r, r = [rowF x 1, rowF y 2] := ⟨_, rfl⟩
  obtain ⟨rows', er'⟩ : ∃ r, r = [rowF x 1, rowF y 2] := ⟨_, rfl⟩
  have e12 : rows = rows' := er.trans er'.symm
  rw [← er]
  refine ACW.by_walk (rs := []) ords Tryz.func63 (by rfl) (by rfl) (by rfl) (by rfl) (by rfl) ?_
  simp (disch := omega) only [wk, tis, seval, reduceCtorEq, Nat.reduceEqDiff, rowF, spl2, tak2, set21, set20]
  refine aloop_by (fun f H => ∃ (i : Nat) (L : List (List IV)), ((i = 1 ∧ L = rows) ∨ (i = 2 ∧ L = rows')) ∧ f 8 = .iv (.int .i64 i) ∧ f 0 = .hs 0 1 ∧ f 1 = .iv (.int .i64 0) ∧ f 2 = .iv (.int .i64 2) ∧ f 3 = .fn 22 [] ∧ H 0 = .blk false 1 39 2 L) (fun f H => (2 - intAt f 8).toNat) ?_ ?_
  · refine ⟨1, rows, .inl ⟨rfl, rfl⟩, ?_⟩
    simp (disch := omega) only [wk, tis, seval, reduceCtorEq, Nat.reduceEqDiff, rowF, spl2, tak2, set21, set20]
  rintro f H ⟨i, L, hi, g8, g0, g1, g2, g3, h0⟩
  rw [intAt_of g8]
  rcases hi with ⟨rfl, rfl⟩ | ⟨rfl, rfl⟩
  · rw [er] at h0
    simp (disch := omega) only [wk, tis, seval, reduceCtorEq, Nat.reduceEqDiff, rowF, spl2, tak2, set21, set20, g8, g0, g1, g2, g3, h0]
    refine aloop_by (fun f H => f 9 = .iv (.int .i64 1) ∧ f 8 = .iv (.int .i64 1) ∧ f 0 = .hs 0 1 ∧ f 1 = .iv (.int .i64 0) ∧ f 2 = .iv (.int .i64 2) ∧ f 3 = .fn 22 [] ∧ H 0 = .blk false 1 39 2 [rowF x 1, rowF y 2]) (fun f H => 0) ?_ ?_
    · simp (disch := omega) only [wk, tis, seval, reduceCtorEq, Nat.reduceEqDiff, rowF, spl2, tak2, set21, set20, g8, g0, g1, g2, g3, h0]
    rintro f H ⟨g9, g8, g0, g1, g2, g3, h0⟩
    simp (disch := omega) only [wk, tis, seval, reduceCtorEq, Nat.reduceEqDiff, rowF, spl2, tak2, set21, set20, g9, g8, g0, g1, g2, g3, h0]
    refine ⟨tmps_by (by kernel_rfl), ?_⟩
    refine call_by (c1) (by first | rfl | (simp only [tocvs, tocv, g9, g8, g0, g1, g2, g3, h0]; rfl) | (simp only [tocvs, tocv, toboxes, tobox, updH_at, Nat.reduceEqDiff, ↓reduceIte, g9, g8, g0, g1, g2, g3, h0]; rfl)) (by simp) ?_
    simp (disch := omega) only [wk, tis, seval, reduceCtorEq, Nat.reduceEqDiff, rowF, spl2, tak2, set21, set20, g9, g8, g0, g1, g2, g3, h0]
    first | exact log_by (by kernel_rfl) | refine ⟨log_by (by kernel_rfl), ?_⟩
    exact ⟨2, rows', .inr ⟨rfl, rfl⟩, rfl, by rw [er']; rfl⟩
  · rw [← e12, er] at h0
    simp (disch := omega) only [wk, tis, seval, reduceCtorEq, Nat.reduceEqDiff, rowF, spl2, tak2, set21, set20, g8, g0, g1, g2, g3, h0, er]
theorem ins_out (x y : List (List IV)) : ACW Tryz.prog 63 [.any, ci 0, ci 2, .fn 22 []] 0 39 2 [rowF y 2, rowF x 1] [rowF x 1, rowF y 2] [] := by
  have c1 := fcmp_ok x y 1 2 (by decide) (by decide)
  obtain ⟨rows, er⟩ : ∃ r, r = [rowF y 2, rowF x 1] := ⟨_, rfl⟩
  obtain ⟨rows', er'⟩ : ∃ r, r = [rowF x 1, rowF y 2] := ⟨_, rfl⟩
  rw [← er, ← er']
  refine ACW.by_walk (rs := []) ords Tryz.func63 (by rfl) (by rfl) (by rfl) (by rfl) (by rfl) ?_
  simp (disch := omega) only [wk, tis, seval, reduceCtorEq, Nat.reduceEqDiff, rowF, spl2, tak2, set21, set20]
  refine aloop_by (fun f H => ∃ (i : Nat) (L : List (List IV)), ((i = 1 ∧ L = rows) ∨ (i = 2 ∧ L = rows')) ∧ f 8 = .iv (.int .i64 i) ∧ f 0 = .hs 0 1 ∧ f 1 = .iv (.int .i64 0) ∧ f 2 = .iv (.int .i64 2) ∧ f 3 = .fn 22 [] ∧ H 0 = .blk false 1 39 2 L) (fun f H => (2 - intAt f 8).toNat) ?_ ?_
  · refine ⟨1, rows, .inl ⟨rfl, rfl⟩, ?_⟩
    simp (disch := omega) only [wk, tis, seval, reduceCtorEq, Nat.reduceEqDiff, rowF, spl2, tak2, set21, set20]
  rintro f H ⟨i, L, hi, g8, g0, g1, g2, g3, h0⟩
  rw [intAt_of g8]
  rcases hi with ⟨rfl, rfl⟩ | ⟨rfl, rfl⟩
  · rw [er] at h0
    simp (disch := omega) only [wk, tis, seval, reduceCtorEq, Nat.reduceEqDiff, rowF, spl2, tak2, set21, set20, g8, g0, g1, g2, g3, h0]
    refine aloop_by (fun f H => ((f 9 = .iv (.int .i64 1) ∧ H 0 = .blk false 1 39 2 [rowF y 2, rowF x 1]) ∨ (f 9 = .iv (.int .i64 0) ∧ H 0 = .blk false 1 39 2 [rowF x 1, rowF y 2])) ∧ f 8 = .iv (.int .i64 1) ∧ f 0 = .hs 0 1 ∧ f 1 = .iv (.int .i64 0) ∧ f 2 = .iv (.int .i64 2) ∧ f 3 = .fn 22 []) (fun f H => (intAt f 9).toNat) ?_ ?_
    · refine ⟨.inl ?_, ?_⟩
      · simp (disch := omega) only [wk, tis, seval, reduceCtorEq, Nat.reduceEqDiff, rowF, spl2, tak2, set21, set20, g8, g0, g1, g2, g3, h0]
      · simp (disch := omega) only [wk, tis, seval, reduceCtorEq, Nat.reduceEqDiff, rowF, spl2, tak2, set21, set20, g8, g0, g1, g2, g3, h0]
    rintro f H ⟨⟨g9, h0⟩ | ⟨g9, h0⟩, g8, g0, g1, g2, g3⟩
    · rw [intAt_of g9]
      simp (disch := omega) only [wk, tis, seval, reduceCtorEq, Nat.reduceEqDiff, rowF, spl2, tak2, set21, set20, g9, g8, g0, g1, g2, g3, h0]
      refine ⟨tmps_by (by kernel_rfl), ?_⟩
      refine call_by (c1) (by first | rfl | (simp only [tocvs, tocv, g9, g8, g0, g1, g2, g3, h0]; rfl) | (simp only [tocvs, tocv, toboxes, tobox, updH_at, Nat.reduceEqDiff, ↓reduceIte, g9, g8, g0, g1, g2, g3, h0]; rfl)) (by simp) ?_
      simp (disch := omega) only [wk, tis, seval, reduceCtorEq, Nat.reduceEqDiff, rowF, spl2, tak2, set21, set20, g9, g8, g0, g1, g2, g3, h0]
      first | exact log_by (by kernel_rfl) | refine ⟨log_by (by kernel_rfl), ?_⟩
      refine ⟨tmps_by (by kernel_rfl), ?_⟩
      first | exact log_by (by kernel_rfl) | refine ⟨log_by (by kernel_rfl), ?_⟩
      exact .inr trivial
    · rw [intAt_of g9]
      simp (disch := omega) only [wk, tis, seval, reduceCtorEq, Nat.reduceEqDiff, rowF, spl2, tak2, set21, set20, g9, g8, g0, g1, g2, g3, h0]
      refine ⟨tmps_by (by kernel_rfl), ?_⟩
      first | exact log_by (by kernel_rfl) | refine ⟨log_by (by kernel_rfl), ?_⟩
      exact ⟨2, rows', .inr ⟨rfl, rfl⟩, rfl, by rw [er']; rfl⟩
  · rw [er'] at h0
    simp (disch := omega) only [wk, tis, seval, reduceCtorEq, Nat.reduceEqDiff, rowF, spl2, tak2, set21, set20, g8, g0, g1, g2, g3, h0, er']
theorem pdq_of (a b a' b' : List IV) (h : ACW Tryz.prog 63 [.any, ci 0, ci 2, .fn 22 []] 0 39 2 [a, b] [a', b'] []) : ACW Tryz.prog 40 [.any, ci 0, ci 2, ci 2, .fn 22 []] 0 39 2 [a, b] [a', b'] [] := by
  refine ACW.by_walk (rs := []) ords Tryz.func40 (by rfl) (by rfl) (by rfl) (by rfl) (by rfl) ?_
  simp (disch := omega) only [wk, tis, seval, reduceCtorEq, Nat.reduceEqDiff, rowF, spl2, tak2, set21, set20]
  refine aloop_by (fun f H => f 0 = .hs 0 1 ∧ f 1 = .iv (.int .i64 0) ∧ f 2 = .iv (.int .i64 2) ∧ f 3 = .iv (.int .i64 2) ∧ f 4 = .fn 22 [] ∧ H 0 = .blk false 1 39 2 [a, b]) (fun f H => 0) ?_ ?_
  · simp (disch := omega) only [wk, tis, seval, reduceCtorEq, Nat.reduceEqDiff, rowF, spl2, tak2, set21, set20]
  rintro f H ⟨g0, g1, g2, g3, g4, h0⟩
  simp (disch := omega) only [wk, tis, seval, reduceCtorEq, Nat.reduceEqDiff, rowF, spl2, tak2, set21, set20, g0, g1, g2, g3, g4, h0]
  refine callw_by (h) (by first | rfl | (simp (disch := omega) only [wk, tis, seval, reduceCtorEq, Nat.reduceEqDiff, rowF, spl2, tak2, set21, set20, g0, g1, g2, g3, g4, h0]; done)) (by first | rfl | (simp (disch := omega) only [wk, tis, seval, reduceCtorEq, Nat.reduceEqDiff, rowF, spl2, tak2, set21, set20, g0, g1, g2, g3, g4, h0]; done)) (by first | rfl | (simp only [tocvs, tocv, List.set_cons_zero, List.set_cons_succ, g0, g1, g2, g3, g4, h0]; rfl)) (by simp) (by simp) ?_
  simp (disch := omega) only [wk, tis, seval, reduceCtorEq, Nat.reduceEqDiff, rowF, spl2, tak2, set21, set20, g0, g1, g2, g3, g4, h0]
theorem bl2 : bl 2 = 2 := by decide +kernel
theorem sort_of (a b a' b' : List IV) (h : ACW Tryz.prog 63 [.any, ci 0, ci 2, .fn 22 []] 0 39 2 [a, b] [a', b'] []) : ACW Tryz.prog 21 [.any, .fn 22 []] 0 39 2 [a, b] [a', b'] [] := by
  have p := pdq_of a b a' b' h
  have c := blen_ok 2 (by simp only [W]; omega)
  rw [bl2] at c
  refine ACW.by_walk (rs := []) ords Tryz.func21 (by rfl) (by rfl) (by rfl) (by rfl) (by rfl) ?_
  simp (disch := omega) only [wk, tis, seval, reduceCtorEq, Nat.reduceEqDiff, rowF, spl2, tak2, set21, set20]
  refine call_by (c) (by rfl) (by simp) ?_
  simp (disch := omega) only [wk, tis, seval, reduceCtorEq, Nat.reduceEqDiff, rowF, spl2, tak2, set21, set20]
  refine callw_by (p) (by first | rfl | (simp (disch := omega) only [wk, tis, seval, reduceCtorEq, Nat.reduceEqDiff, rowF, spl2, tak2, set21, set20]; done)) (by first | rfl | (simp (disch := omega) only [wk, tis, seval, reduceCtorEq, Nat.reduceEqDiff, rowF, spl2, tak2, set21, set20]; done)) (by rfl) (by simp) (by simp) ?_
  simp (disch := omega) only [wk, tis, seval, reduceCtorEq, Nat.reduceEqDiff, rowF, spl2, tak2, set21, set20]
end Go.Proofs.YthbobdhkbgggjaaGreat

namespace Go.Proofs.YthbobdhkbgggjaaGreat
open Go Go.Proofs Go.AL Go.RowKit
set_option linter.unusedSimpArgs false
set_option linter.unusedVariables false
abbrev fX : List IV := rowF (cpoly qX) 1
abbrev fC : List IV := rowF (cpoly qC) 2
def St (seen : Array Nat) (rows : List (List IV)) (n : Nat) : Prop :=
  (n = 2 ∧ seen = #[] ∧ rows = []) ∨ (n = 1 ∧ seen = #[0] ∧ rows = [fX]) ∨ (n = 1 ∧ seen = #[1] ∧ rows = [fC]) ∨ (n = 0 ∧ seen = #[0, 1] ∧ rows = [fX, fC]) ∨ (n = 0 ∧ seen = #[1, 0] ∧ rows = [fC, fX])
abbrev mE (v1 v2 : Value) : Array MapEntry := #[⟨.int .i64 1, v1, 0⟩, ⟨.int .i64 2, v2, 1⟩]
theorem left0 (v1 v2 : Value) : (leftOf (mE v1 v2) #[]).toList = [⟨.int .i64 1, v1, 0⟩, ⟨.int .i64 2, v2, 1⟩] := by simp [leftOf]
theorem left1 (v1 v2 : Value) : (leftOf (mE v1 v2) #[0]).toList = [⟨.int .i64 2, v2, 1⟩] := by simp [leftOf]
theorem left2 (v1 v2 : Value) : (leftOf (mE v1 v2) #[1]).toList = [⟨.int .i64 1, v1, 0⟩] := by simp [leftOf]
theorem left3 (v1 v2 : Value) : (leftOf (mE v1 v2) #[0, 1]).toList = [] := by simp [leftOf]
theorem left4 (v1 v2 : Value) : (leftOf (mE v1 v2) #[1, 0]).toList = [] := by simp [leftOf]
theorem St.step {seen : Array Nat} {rows : List (List IV)} {n : Nat} {v1 v2 : Value} {e : MapEntry} (h : St seen rows n) (he : e ∈ (leftOf (mE v1 v2) seen).toList) :
    ∃ (m : Int) (X : List (List IV)) (k : Nat), n = k + 1 ∧ e ∈ (mE v1 v2).toList ∧ e.key = .int .i64 m ∧ ((AV.iv (.sl X), e.val) = (.iv (.sl (cpoly qX)), v1) ∨ (AV.iv (.sl X), e.val) = (.iv (.sl (cpoly qC)), v2)) ∧ St (seen.push e.born) (rows ++ [rowF X m]) k := by
  rcases h with ⟨rfl, rfl, rfl⟩ | ⟨rfl, rfl, rfl⟩ | ⟨rfl, rfl, rfl⟩ | ⟨rfl, rfl, rfl⟩ | ⟨rfl, rfl, rfl⟩
  · rw [left0] at he
    simp only [List.mem_cons, List.not_mem_nil, or_false] at he
    rcases he with rfl | rfl
    · exact ⟨1, cpoly qX, 1, rfl, by simp, rfl, .inl rfl, .inr (.inl ⟨rfl, rfl, rfl⟩)⟩
    · exact ⟨2, cpoly qC, 1, rfl, by simp, rfl, .inr rfl, .inr (.inr (.inl ⟨rfl, rfl, rfl⟩))⟩
  · rw [left1] at he
    cases List.mem_singleton.1 he
    exact ⟨2, cpoly qC, 0, rfl, by simp, rfl, .inr rfl, .inr (.inr (.inr (.inl ⟨rfl, rfl, rfl⟩)))⟩
  · rw [left2] at he
    cases List.mem_singleton.1 he
    exact ⟨1, cpoly qX, 0, rfl, by simp, rfl, .inl rfl, .inr (.inr (.inr (.inr ⟨rfl, rfl, rfl⟩)))⟩
  · rw [left3] at he
    cases he
  · rw [left4] at he
    cases he
theorem St.stop {seen : Array Nat} {rows : List (List IV)} {n : Nat} {v1 v2 : Value} (h : St seen rows n) (he : (leftOf (mE v1 v2) seen).size = 0) : rows = [fX, fC] ∨ rows = [fC, fX] := by
  rcases h with ⟨rfl, rfl, rfl⟩ | ⟨rfl, rfl, rfl⟩ | ⟨rfl, rfl, rfl⟩ | ⟨rfl, rfl, rfl⟩ | ⟨rfl, rfl, rfl⟩
  · exact absurd he (by rw [← Array.length_toList, left0]; simp)
  · exact absurd he (by rw [← Array.length_toList, left1]; simp)
  · exact absurd he (by rw [← Array.length_toList, left2]; simp)
  · exact .inl rfl
  · exact .inr rfl
theorem St.len {seen : Array Nat} {rows : List (List IV)} {n : Nat} (h : St seen rows n) : rows.length ≤ 2 := by
  rcases h with ⟨_, _, rfl⟩ | ⟨_, _, rfl⟩ | ⟨_, _, rfl⟩ | ⟨_, _, rfl⟩ | ⟨_, _, rfl⟩ <;> decide
theorem parts_ok : AC Tryz.prog 10 [cp qA] none [.iv (.sl [fX, fC]), ci 0] := by
  have k0 := sdeg_ok qA (by decide +kernel)
  rw [show (tz qA : Int) - 1 = 3 by decide +kernel] at k0
  intro wA D vs hD hvs
  refine calls_of_body Tryz.func10 (by rfl) (by rfl) ?_
  have p := Pin.start (n := 27) hD hvs (by decide)
  refine p.seq ords (J := fun f H => f 0 = .iv (.sl (cpoly qA))) (by rfl) (by rfl) ?_ ?_
  · simp (disch := omega) only [wk, tis, seval, reduceCtorEq, Nat.reduceEqDiff, OnlyQ, OnlyE, rowF, lay_fac]
  intro f H β a w g0 p
  refine p.seq ords (J := fun f H => f 0 = .iv (.sl (cpoly qA))) (by rfl) (by rfl) ?_ ?_
  · simp (disch := omega) only [wk, tis, seval, reduceCtorEq, Nat.reduceEqDiff, OnlyQ, OnlyE, rowF, lay_fac, g0]
    refine call_by (k0) (by first | rfl | (simp only [tocvs, tocv, g0]; rfl) | (simp only [tocvs, tocv, toboxes, tobox, updH_at, Nat.reduceEqDiff, ↓reduceIte, g0]; rfl)) (by simp) ?_
    simp (disch := omega) only [wk, tis, seval, reduceCtorEq, Nat.reduceEqDiff, OnlyQ, OnlyE, rowF, lay_fac, g0]
  intro f H β a w g0 p
  refine p.seq ords (J := fun f H => f 0 = .iv (.sl (cpoly qA)) ∧ f 4 = .nils) (by rfl) (by rfl) ?_ ?_
  · simp (disch := omega) only [wk, tis, seval, reduceCtorEq, Nat.reduceEqDiff, OnlyQ, OnlyE, rowF, lay_fac, g0]
  intro f H β a w ⟨g0, g4⟩ p
  refine wpIn_seq (wpIn_seq (wpIn_region_list ?_))
  refine p.opsN (l1 := [_]) (l2 := [_, _]) (K := fun f H _ => f 10 = .iv (.sl (cpoly qA)) ∧ f 4 = .nils) rfl (by decide) ?_ ?_
  · simp (disch := omega) only [wk, tis, seval, reduceCtorEq, Nat.reduceEqDiff, OnlyQ, OnlyE, rowF, lay_fac, g0, g4]
  intro f H _ β a w ⟨g10, g4⟩ p
  refine p.callMap (d := 11) rfl rfl rfl (by decide) (c := True ∧ True) (cv := [cp qA]) ?_ ⟨trivial, trivial⟩ bymult_ok ?_
  · simp only [List.map_cons, List.map_nil, ev_tmp, g10]
    rfl
  intro b v1 v2 a w p
  refine p.range (d := 12) rfl rfl rfl (by decide) rfl und_map ?_
  intro r a w hrb p
  obtain ⟨β, p⟩ := p.weak (.nil 4 4 39 2 (by simp (disch := omega) only [wk, tis, seval, reduceCtorEq, Nat.reduceEqDiff, OnlyQ, OnlyE, rowF, lay_fac, g4]) (.refl _ _))
  refine wpIn_block (wpIn_loop_rel (fun n a w => ∃ f H β seen rows st, St seen rows n ∧ f 4 = .hs 4 st ∧ H 4 = .blk false st 39 2 rows ∧ f 12 = .iv (.raw (.pointer (some ⟨r, 0, none⟩))) ∧ Pin wA D 27 [(b, .map (mE v1 v2) 2), (r, .mapIter (some b) 2 seen 2)] [(.iv (.sl (cpoly qX)), v1), (.iv (.sl (cpoly qC)), v2)] f H β a w) ?_ (m := 2) ⟨_, _, β, #[], [], _, .inl ⟨rfl, rfl, rfl⟩, rfl, rfl, rfl, p⟩)
  rintro n a w ⟨f, H, β, seen, rows, st, hS, g4, h4, g12, p⟩
  have hlen := hS.len
  refine wpIn_seq (wpIn_region_list ?_)
  refine p.next (d := 13) hrb rfl rfl rfl (by decide) g12 (by simp) (by decide) ?_ ?_
  · intro a w hz p
    refine p.opsAll (K := fun f H _ => f 14 = .iv (.bool false) ∧ f 4 = .hs 4 st ∧ H 4 = .blk false st 39 2 rows) (by decide) ?_ ?_
    · simp (disch := omega) only [wk, tis, seval, reduceCtorEq, Nat.reduceEqDiff, OnlyQ, OnlyE, rowF, lay_fac, g4, h4]
    intro f H _ β a w ⟨g14, g4, h4⟩ p
    refine p.seqE ords (id := 0) (J := fun f H => f 4 = .hs 4 st ∧ H 4 = .blk false st 39 2 rows) (by rfl) (by rfl) ?_ ?_
    · simp (disch := omega) only [wk, tis, seval, reduceCtorEq, Nat.reduceEqDiff, OnlyQ, OnlyE, rowF, lay_fac, g14, g4, h4]
    intro f H β a w ⟨g4, h4⟩ p
    have hs : ACW Tryz.prog 21 [.any, .fn 22 []] 0 39 2 rows [fX, fC] [] := by
      rcases hS.stop hz with rfl | rfl
      · exact sort_of _ _ _ _ (ins_in _ _)
      · exact sort_of _ _ _ _ (ins_out _ _)
    refine p.seq ords (J := fun f H => f 4 = .hs 4 st ∧ H 4 = .blk false st 39 2 [fX, fC]) (by rfl) (by rfl) ?_ ?_
    · simp (disch := omega) only [wk, tis, seval, reduceCtorEq, Nat.reduceEqDiff, OnlyQ, OnlyE, rowF, lay_fac, g4, h4]
      refine callw_by (hs) (by first | rfl | (simp (disch := omega) only [wk, tis, seval, reduceCtorEq, Nat.reduceEqDiff, OnlyQ, OnlyE, rowF, lay_fac, g4, h4]; done)) (by first | rfl | (simp (disch := omega) only [wk, tis, seval, reduceCtorEq, Nat.reduceEqDiff, OnlyQ, OnlyE, rowF, lay_fac, g4, h4]; done)) (by first | rfl | (simp only [tocvs, tocv, List.set_cons_zero, List.set_cons_succ, g4, h4]; rfl)) (by simp) (by simp) ?_
      simp (disch := omega) only [wk, tis, seval, reduceCtorEq, Nat.reduceEqDiff, OnlyQ, OnlyE, rowF, lay_fac, g4, h4]
    intro f H β a w ⟨g4, h4⟩ p
    refine p.seq ords (J := fun f H => f 2 = .hs 4 st ∧ f 3 = .iv (.int .i64 0) ∧ H 4 = .blk false st 39 2 [fX, fC]) (by rfl) (by rfl) ?_ ?_
    · simp (disch := omega) only [wk, tis, seval, reduceCtorEq, Nat.reduceEqDiff, OnlyQ, OnlyE, rowF, lay_fac, g4, h4]
    intro f H β a w ⟨g2, g3, h4⟩ p
    refine wpIn_ret ?_
    obtain ⟨h1, h2⟩ := p.ret (P := Tryz.prog) (rs := [.tmp 2, .tmp 3]) (res := [.iv (.sl [fX, fC]), ci 0]) (by simp (disch := omega) only [wk, tis, seval, reduceCtorEq, Nat.reduceEqDiff, OnlyQ, OnlyE, rowF, lay_fac, g2, g3, h4])
    exact ⟨.inr rfl, h1, h2⟩
  · intro e a w he p
    obtain ⟨m, X, k, rfl, hmem, hkey, hval, hS'⟩ := hS.step he
    refine p.opsAll (K := fun f H _ => f 14 = .iv (.bool true) ∧ f 12 = .iv (.raw (.pointer (some ⟨r, 0, none⟩))) ∧ f 4 = .hs 4 st ∧ H 4 = .blk false st 39 2 rows) (by decide) ?_ ?_
    · simp (disch := omega) only [wk, tis, seval, reduceCtorEq, Nat.reduceEqDiff, OnlyQ, OnlyE, rowF, lay_fac, g4, h4, g12]
    intro f H _ β a w ⟨g14, g12, g4, h4⟩ p
    refine p.seq ords (J := fun f H => f 12 = .iv (.raw (.pointer (some ⟨r, 0, none⟩))) ∧ f 4 = .hs 4 st ∧ H 4 = .blk false st 39 2 rows) (by rfl) (by rfl) ?_ ?_
    · simp (disch := omega) only [wk, tis, seval, reduceCtorEq, Nat.reduceEqDiff, OnlyQ, OnlyE, rowF, lay_fac, g14, g12, g4, h4]
    intro f H β a w ⟨g12, g4, h4⟩ p
    refine wpIn_block (wpIn_seq (wpIn_region_list ?_))
    refine p.entry (d := 15) (X := .iv (.sl X)) rfl rfl rfl (by decide) g12 hmem (by simp) hkey (by
      simp only [List.mem_cons, List.not_mem_nil, or_false]
      exact hval) ?_
    intro a w p
    refine p.opsAll (K := fun f H _ => f 5 = .iv (.int .i64 m) ∧ f 6 = .iv (.sl X) ∧ f 12 = .iv (.raw (.pointer (some ⟨r, 0, none⟩))) ∧ f 4 = .hs 4 st ∧ H 4 = .blk false st 39 2 rows) (by decide) ?_ ?_
    · simp (disch := omega) only [wk, tis, seval, reduceCtorEq, Nat.reduceEqDiff, OnlyQ, OnlyE, rowF, lay_fac, g4, h4, g12]
    intro f H _ β a w ⟨g5, g6, g12, g4, h4⟩ p
    refine p.last ords (J := fun f H => ∃ st, f 12 = .iv (.raw (.pointer (some ⟨r, 0, none⟩))) ∧ f 4 = .hs 4 st ∧ H 4 = .blk false st 39 2 (rows ++ [rowF X m])) (by rfl) (by rfl) ?_ ?_
    · simp (disch := omega) only [wk, tis, seval, reduceCtorEq, Nat.reduceEqDiff, OnlyQ, OnlyE, rowF, lay_fac, g5, g6, g12, g4, h4]
      exact ⟨_, rfl, rfl⟩
    intro f H β a w ⟨st, g12, g4, h4⟩ p
    exact ⟨k, by omega, f, H, β, _, _, st, hS', g4, h4, g12, p⟩
end Go.Proofs.YthbobdhkbgggjaaGreat

namespace Go.Proofs.YthbobdhkbgggjaaGreat
open Go Go.Proofs Go.AL
set_option linter.unusedSimpArgs false
set_option linter.unusedVariables false
theorem drp1 (a b : IV) : List.drop 1 [a, b] = [b] := rfl
theorem drp0 (a b : IV) : List.drop 0 [a, b] = [a, b] := rfl
theorem gt1 (a d : IV) : List.getD [a] 0 d = a := rfl
theorem gt2 (a b d : IV) : List.getD [a, b] 0 d = a := rfl
theorem ln1 (a : IV) : (0 < [a].length) = True := by simp
theorem ln2 (a b : IV) : (0 < [a, b].length) = True := by simp
theorem tform_ok (A : List Int) (h : tiny A = true) : AC Tryz.prog 18 [cp A, cp A] none [cb true] := by
  have r := (tiny_rp h).mono (n' := 2 ^ 40) (k' := 2 ^ 43) (by decide) (by decide)
  have := sform_ok (cn A) (cn A) r r
  rwa [decide_eq_true rfl] at this
set_option maxRecDepth 100000 in
theorem sfac_ok : AC Tryz.prog 12 [.iv (.sl [fX, fC]), .iv (.sl [fX, fC])] none [cb true] := by
  have c1 := tform_ok qX (by decide +kernel)
  have c2 := tform_ok qC (by decide +kernel)
  obtain ⟨rows, er⟩ : ∃ r, r = [fX, fC] := ⟨_, rfl⟩
  have hl : rows.length = 2 := by rw [er]; rfl
  have h0 : rows.getD 0 [] = [.sl (cpoly qX), .int .i64 1] := by rw [er]; rfl
  have h1 : rows.getD 1 [] = [.sl (cpoly qC), .int .i64 2] := by rw [er]; rfl
  rw [← er]
  clear er
  refine AC.by_walk (rs := [.tmp 4]) ords Tryz.func12 (by rfl) (by rfl) (by rfl) (by rfl) (by rfl) ?_
  simp (disch := omega) only [wk, tis, seval, reduceCtorEq, Nat.reduceEqDiff, rowF, lay_fac, drp1, drp0, gt1, gt2, ln1, ln2, hl]
  refine aloop_by (fun f H => ∃ (i : Nat), (i = 0 ∨ i = 1 ∨ i = 2) ∧ f 5 = .iv (.int .i64 i) ∧ f 0 = .iv (.sl rows) ∧ f 1 = .iv (.sl rows)) (fun f H => (2 - intAt f 5).toNat) ?_ ?_
  · refine ⟨0, .inl rfl, ?_⟩
    simp (disch := omega) only [wk, tis, seval, reduceCtorEq, Nat.reduceEqDiff, rowF, lay_fac, drp1, drp0, gt1, gt2, ln1, ln2]
  rintro f H ⟨i, hi, hF⟩
  rw [intAt_of hF.1]
  simp (disch := omega) only [wk, tis, seval, reduceCtorEq, Nat.reduceEqDiff, rowF, lay_fac, drp1, drp0, gt1, gt2, ln1, ln2, hF]
  rcases hi with rfl | rfl | rfl
  · simp (disch := omega) only [wk, tis, seval, reduceCtorEq, Nat.reduceEqDiff, rowF, lay_fac, drp1, drp0, gt1, gt2, ln1, ln2, hF, hl, h0, h1]
    refine ⟨tmps_by (by kernel_rfl), ?_⟩
    refine call_by (c1) (by first | rfl | (simp only [tocvs, tocv, hF, hl, h0, h1]; rfl) | (simp only [tocvs, tocv, toboxes, tobox, updH_at, Nat.reduceEqDiff, ↓reduceIte, hF, hl, h0, h1]; rfl)) (by simp) ?_
    simp (disch := omega) only [wk, tis, seval, reduceCtorEq, Nat.reduceEqDiff, rowF, lay_fac, drp1, drp0, gt1, gt2, ln1, ln2, hF, hl, h0, h1]
    first | exact log_by (by kernel_rfl) | refine ⟨log_by (by kernel_rfl), ?_⟩
    exact ⟨1, .inr (.inl rfl), rfl⟩
  · simp (disch := omega) only [wk, tis, seval, reduceCtorEq, Nat.reduceEqDiff, rowF, lay_fac, drp1, drp0, gt1, gt2, ln1, ln2, hF, hl, h0, h1]
    refine ⟨tmps_by (by kernel_rfl), ?_⟩
    refine call_by (c2) (by first | rfl | (simp only [tocvs, tocv, hF, hl, h0, h1]; rfl) | (simp only [tocvs, tocv, toboxes, tobox, updH_at, Nat.reduceEqDiff, ↓reduceIte, hF, hl, h0, h1]; rfl)) (by simp) ?_
    simp (disch := omega) only [wk, tis, seval, reduceCtorEq, Nat.reduceEqDiff, rowF, lay_fac, drp1, drp0, gt1, gt2, ln1, ln2, hF, hl, h0, h1]
    first | exact log_by (by kernel_rfl) | refine ⟨log_by (by kernel_rfl), ?_⟩
    exact ⟨2, .inr (.inr rfl), rfl⟩
  · simp (disch := omega) only [wk, tis, seval, reduceCtorEq, Nat.reduceEqDiff, rowF, lay_fac, drp1, drp0, gt1, gt2, ln1, ln2, hF, hl, h0, h1]
theorem awake_ok : AC Tryz.prog 4 [] none [cb true] := by
  have o1 := sof_ok [0, 1, -2, 1] (by decide) (by simp)
  have o2 := sof_ok [0, 1] (by decide) (by simp)
  have o3 := sof_ok [-1, 1] (by decide) (by simp)
  have p := parts_ok
  have s := sfac_ok
  refine AC.by_walk (rs := [.tmp 0]) ords Tryz.func4 (by rfl) (by rfl) (by rfl) (by rfl) (by rfl) ?_
  simp (disch := omega) only [wk, tis, seval, reduceCtorEq, Nat.reduceEqDiff, rowF, lay_fac, drp1, drp0, gt1, gt2, ln1, ln2]
  refine call_by (o1) (by rfl) (by simp) ?_
  simp (disch := omega) only [wk, tis, seval, reduceCtorEq, Nat.reduceEqDiff, rowF, lay_fac, drp1, drp0, gt1, gt2, ln1, ln2]
  refine call_by (p) (by rfl) (by simp) ?_
  simp (disch := omega) only [wk, tis, seval, reduceCtorEq, Nat.reduceEqDiff, rowF, lay_fac, drp1, drp0, gt1, gt2, ln1, ln2]
  refine call_by (o2) (by rfl) (by simp) ?_
  simp (disch := omega) only [wk, tis, seval, reduceCtorEq, Nat.reduceEqDiff, rowF, lay_fac, drp1, drp0, gt1, gt2, ln1, ln2]
  refine call_by (o3) (by rfl) (by simp) ?_
  simp (disch := omega) only [wk, tis, seval, reduceCtorEq, Nat.reduceEqDiff, rowF, lay_fac, drp1, drp0, gt1, gt2, ln1, ln2]
  refine call_by (s) (by rfl) (by simp) ?_
  simp (disch := omega) only [wk, tis, seval, reduceCtorEq, Nat.reduceEqDiff, rowF, lay_fac, drp1, drp0, gt1, gt2, ln1, ln2]
end Go.Proofs.YthbobdhkbgggjaaGreat

namespace Go.Proofs.YthbobdhkbgggjaaGreat
open Go Go.Proofs Go.AL
set_option linter.unusedSimpArgs false
set_option linter.unusedVariables false
theorem ppow_g (p : List RI) (m : Nat) (hm : m ≤ 1000) (hp : RP (2 ^ 40) (2 ^ 40) p) (hb : ∀ x, x ≤ m → PB (2 ^ 30) (2 ^ 35) (ppow (pv p) x)) : AC Tryz.prog 16 [cw p, ci m] none [cp (ppow (pv p) m), ci 0] := by
  have hbd := pbound_ok (m : Int)
  rw [if_neg (by omega), if_neg (by omega)] at hbd
  refine AC.by_walk (rs := [.tmp 4, .tmp 5]) ords Tryz.func16 (by rfl) (by rfl) (by rfl) (by rfl) (by rfl) ?_
  simp (disch := omega) only [wk, tis, seval, reduceCtorEq, Nat.reduceEqDiff]
  refine call_by (hbd) (by rfl) (by simp) ?_
  simp (disch := omega) only [wk, tis, seval, reduceCtorEq, Nat.reduceEqDiff]
  refine call_by ((zOf_ok 1 (by omega) (by omega))) (by rfl) (by simp) ?_
  simp (disch := omega) only [wk, tis, seval, reduceCtorEq, Nat.reduceEqDiff]
  refine call_by ((pnorm_ok p hp)) (by rfl) (by simp) ?_
  simp (disch := omega) only [wk, tis, seval, reduceCtorEq, Nat.reduceEqDiff]
  have e1 : cpoly (pv p) = cpoly (ppow (pv p) 1) := cpoly_ext (ps_eq (by rw [ps_ppow, PS.pw_one]))
  refine aloop_w (.iv 7 15 1 false 43 2 [prow (canon 1)] (by simp (disch := omega) only [wk, tis, seval, reduceCtorEq, Nat.reduceEqDiff]) (by simp (disch := omega) only [wk, tis, seval, reduceCtorEq, Nat.reduceEqDiff]) (.refl _ _)) (fun f H => ∃ (x y r : Nat), x + y * r = m ∧ (0 < r → y ≤ m) ∧ 0 < y ∧ f 1 = .iv (.int .i64 r) ∧ f 7 = .iv (.sl (cpoly (ppow (pv p) x))) ∧ f 8 = .iv (.sl (cpoly (ppow (pv p) y)))) (fun f H => (intAt f 1).toNat) ?_ ?_
  · refine ⟨0, 1, m, by omega, fun _ => by omega, by omega, ?_⟩
    simp (disch := omega) only [wk, tis, seval, reduceCtorEq, Nat.reduceEqDiff, e1, ppow, cpoly_one]
  rintro f H ⟨x, y, r, hx, hy, hy0, hF⟩
  rw [intAt_of hF.1]
  simp (disch := omega) only [wk, tis, seval, reduceCtorEq, Nat.reduceEqDiff, hF]
  refine if_by (fun hr => ?_) (fun hr => ?_)
  · have hy := hy (by omega)
    have hr1 : r ≤ m := by
      have : 1 * r ≤ y * r := Nat.mul_le_mul_right _ hy0
      omega
    have hxm : x + y ≤ m := by
      have : y * 1 ≤ y * r := Nat.mul_le_mul_left _ (by omega)
      omega
    have et : (r : Int).tmod 2 = ((r % 2 : Nat) : Int) := by rw [Int.tmod_eq_emod_of_nonneg (by omega)]; rfl
    have ed : (r : Int).tdiv 2 = ((r / 2 : Nat) : Int) := by rw [Int.tdiv_eq_ediv_of_nonneg (by omega)]; rfl
    simp (disch := omega) only [wk, tis, seval, reduceCtorEq, Nat.reduceEqDiff, hF, et]
    have next : ∀ (x' y' : Nat), x' = (if r % 2 = 1 then x + y else x) → (y' = y + y ∨ r ≤ 1 ∧ y' = y) → x' + y' * (r / 2) = m ∧ (0 < r / 2 → y' ≤ m) ∧ 0 < y' := by
      intro x' y' ex ey
      have hd := Nat.div_add_mod r 2
      have e2 : y * r = (y + y) * (r / 2) + y * (r % 2) := by
        rw [← Nat.two_mul, Nat.mul_comm 2 y, Nat.mul_assoc, ← Nat.mul_add, hd]
      rcases ey with rfl | ⟨h1, rfl⟩
      · refine ⟨?_, fun h0 => ?_, by omega⟩
        · rcases Nat.mod_two_eq_zero_or_one r with h | h <;> simp [h] at ex e2 <;> omega
        · have : (y + y) * 1 ≤ (y + y) * (r / 2) := Nat.mul_le_mul_left _ h0
          omega
      · have : r = 1 := by omega
        subst this
        simp at ex ⊢
        omega
    refine if_by (fun hodd => ?_) (fun hodd => ?_)
    · have hodd : r % 2 = 1 := by omega
      simp (disch := omega) only [wk, tis, seval, reduceCtorEq, Nat.reduceEqDiff, hF]
      refine call_by ((pmul_cn (s := ppow (pv p) (x + y)) (hb x (by omega)) (hb y (by omega)) (by rw [ps_ppow, ps_ppow, ps_ppow, PS.pw_add]))) (by first | rfl | (simp only [tocvs, tocv, hF]; rfl) | (simp only [tocvs, tocv, toboxes, tobox, updH_at, Nat.reduceEqDiff, ↓reduceIte, hF]; rfl)) (by simp) ?_
      simp (disch := omega) only [wk, tis, seval, reduceCtorEq, Nat.reduceEqDiff, hF]
      refine if_by (fun h1 => ?_) (fun h1 => ?_)
      · simp (disch := omega) only [wk, tis, seval, reduceCtorEq, Nat.reduceEqDiff, hF]
        refine call_by ((pmul_cn (s := ppow (pv p) (y + y)) (hb y (by omega)) (hb y (by omega)) (by rw [ps_ppow, ps_ppow, PS.pw_add]))) (by first | rfl | (simp only [tocvs, tocv, hF, ed]; rfl) | (simp only [tocvs, tocv, toboxes, tobox, updH_at, Nat.reduceEqDiff, ↓reduceIte, hF, ed]; rfl)) (by simp) ?_
        simp (disch := omega) only [wk, tis, seval, reduceCtorEq, Nat.reduceEqDiff, hF, ed]
        obtain ⟨a1, a2, a3⟩ := next (x + y) (y + y) (by rw [if_pos hodd]) (.inl rfl)
        exact ⟨⟨x + y, y + y, r / 2, a1, a2, a3, rfl, rfl, rfl⟩, by omega⟩
      · simp (disch := omega) only [wk, tis, seval, reduceCtorEq, Nat.reduceEqDiff, hF, ed]
        obtain ⟨a1, a2, a3⟩ := next (x + y) y (by rw [if_pos hodd]) (.inr ⟨by omega, rfl⟩)
        exact ⟨⟨x + y, y, r / 2, a1, a2, a3, rfl, rfl, rfl⟩, by omega⟩
    · have hodd : ¬ r % 2 = 1 := by omega
      simp (disch := omega) only [wk, tis, seval, reduceCtorEq, Nat.reduceEqDiff, hF]
      refine if_by (fun h1 => ?_) (fun h1 => ?_)
      · simp (disch := omega) only [wk, tis, seval, reduceCtorEq, Nat.reduceEqDiff, hF]
        refine call_by ((pmul_cn (s := ppow (pv p) (y + y)) (hb y (by omega)) (hb y (by omega)) (by rw [ps_ppow, ps_ppow, PS.pw_add]))) (by first | rfl | (simp only [tocvs, tocv, hF, ed]; rfl) | (simp only [tocvs, tocv, toboxes, tobox, updH_at, Nat.reduceEqDiff, ↓reduceIte, hF, ed]; rfl)) (by simp) ?_
        simp (disch := omega) only [wk, tis, seval, reduceCtorEq, Nat.reduceEqDiff, hF, ed]
        obtain ⟨a1, a2, a3⟩ := next x (y + y) (by rw [if_neg hodd]) (.inl rfl)
        exact ⟨⟨x, y + y, r / 2, a1, a2, a3, rfl, rfl, rfl⟩, by omega⟩
      · simp (disch := omega) only [wk, tis, seval, reduceCtorEq, Nat.reduceEqDiff, hF, ed]
        obtain ⟨a1, a2, a3⟩ := next x y (by rw [if_neg hodd]) (.inr ⟨by omega, rfl⟩)
        exact ⟨⟨x, y, r / 2, a1, a2, a3, rfl, rfl, rfl⟩, by omega⟩
  · simp (disch := omega) only [wk, tis, seval, reduceCtorEq, Nat.reduceEqDiff, hF]
    obtain rfl : r = 0 := by omega
    obtain rfl : x = m := by omega
    rfl
theorem ppow_big (p : List RI) (n : Int) (h : 1000 < n) : AC Tryz.prog 16 [cw p, ci n] none [cw [], ci 13] := by
  have hbd := pbound_ok n
  rw [if_neg (by omega), if_pos h] at hbd
  refine AC.by_walk (rs := [.tmp 4, .tmp 5]) ords Tryz.func16 (by rfl) (by rfl) (by rfl) (by rfl) (by rfl) ?_
  simp (disch := omega) only [wk, tis, seval, reduceCtorEq, Nat.reduceEqDiff]
  refine call_by (hbd) (by rfl) (by simp) ?_
  simp (disch := omega) only [wk, tis, seval, reduceCtorEq, Nat.reduceEqDiff]
theorem spow_g (p : List RI) (m : Nat) (hm : m ≤ 1000) (hp : RP (2 ^ 30) (2 ^ 35) p) (hb : ∀ x, x ≤ m → PB (2 ^ 30) (2 ^ 35) (ppow (pv p) x)) : AC Tryz.prog 13 [cw p, ci m] none [cp (ppow (pv p) m), ci 0] := by
  have hbd := splain_ok (m : Int)
  rw [if_neg (by omega), if_neg (by omega)] at hbd
  refine AC.by_walk (rs := [.tmp 4, .tmp 5]) ords Tryz.func13 (by rfl) (by rfl) (by rfl) (by rfl) (by rfl) ?_
  simp (disch := omega) only [wk, tis, seval, reduceCtorEq, Nat.reduceEqDiff]
  refine call_by (hbd) (by rfl) (by simp) ?_
  simp (disch := omega) only [wk, tis, seval, reduceCtorEq, Nat.reduceEqDiff]
  have s1 := sof_ok [1] (by decide) (by decide)
  refine call_by (s1) (by rfl) (by simp) ?_
  simp (disch := omega) only [wk, tis, seval, reduceCtorEq, Nat.reduceEqDiff]
  refine aloop_by (fun f H => ∃ (i : Nat), i ≤ m ∧ f 8 = .iv (.int .i64 i) ∧ f 0 = .iv (.sl (raws p)) ∧ f 1 = .iv (.int .i64 m) ∧ f 7 = .iv (.sl (cpoly (ppow (pv p) i)))) (fun f H => (m - intAt f 8).toNat) ?_ ?_
  · refine ⟨0, by omega, ?_⟩
    simp (disch := omega) only [wk, tis, seval, reduceCtorEq, Nat.reduceEqDiff, ppow]
  rintro f H ⟨i, hi, hF⟩
  rw [intAt_of hF.1]
  simp (disch := omega) only [wk, tis, seval, reduceCtorEq, Nat.reduceEqDiff, hF]
  refine if_by (fun hlt => ?_) (fun hlt => ?_)
  · simp (disch := omega) only [wk, tis, seval, reduceCtorEq, Nat.reduceEqDiff, hF]
    have hm := smul_ok (cn (ppow (pv p) i)) p (rp_cn (hb i (by omega))) hp
    have e : cp (pmul (pv (cn (ppow (pv p) i))) (pv p)) = cp (ppow (pv p) (i + 1)) := cp_ps (by rw [ps_pmul, ps_cn, ps_ppow, ps_ppow]; rfl)
    rw [e] at hm
    refine call_by (hm) (by first | rfl | (simp only [tocvs, tocv, hF]; rfl) | (simp only [tocvs, tocv, toboxes, tobox, updH_at, Nat.reduceEqDiff, ↓reduceIte, hF]; rfl)) (by simp) ?_
    simp (disch := omega) only [wk, tis, seval, reduceCtorEq, Nat.reduceEqDiff, hF]
    exact ⟨⟨i + 1, by omega, by omega, rfl⟩, by omega⟩
  · simp (disch := omega) only [wk, tis, seval, reduceCtorEq, Nat.reduceEqDiff, hF]
    have : i = m := by omega
    subst this
    rfl
end Go.Proofs.YthbobdhkbgggjaaGreat

namespace Go.Proofs.YthbobdhkbgggjaaGreat
open Go Go.Proofs Go.AL
set_option linter.unusedSimpArgs false
set_option linter.unusedVariables false
abbrev Fac := List RI × Int
def facs (fs : List Fac) : List (List IV) := fs.map fun f => [.sl (raws f.1), .int .i64 f.2]
abbrev fg (fs : List Fac) (i : Nat) : Fac := fs.getD i ([], 0)
theorem facs_len (fs : List Fac) : (facs fs).length = fs.length := List.length_map _
theorem facs_at {fs : List Fac} {i : Nat} (h : i < fs.length) : (facs fs).getD i [] = [.sl (raws (fg fs i).1), .int .i64 (fg fs i).2] := by simp [facs, fg, List.getD, h]
abbrev cfs (fs : List Fac) : CV := .iv (.sl (facs fs))
def lmb (p : List RI) : Nat := (p.map fun c => c.2.length).sum + 1
def cost (f : Fac) : Nat := if 0 < f.2 ∧ f.2 ≤ 12 then lmb f.1 * f.2.toNat else 0
def totF (fs : List Fac) : Nat := (fs.map cost).sum
def hvyF (f : Fac) : Bool := decide (12 < f.2) && decide (f.2 ≤ 1000)
def lgtF (fs : List Fac) : Bool := !(fs.any hvyF) && decide (totF fs ≤ 120)
structure FB (fs : List Fac) : Prop where
  len : fs.length ≤ 2 ^ 20
  rp : ∀ f ∈ fs, RP (2 ^ 20) (2 ^ 20) f.1
  sum : ∀ f ∈ fs, lmb f.1 ≤ 2 ^ 21
  lo : ∀ f ∈ fs, -9223372036854775808 ≤ f.2
  hi : ∀ f ∈ fs, f.2 ≤ 9223372036854775807
theorem fg_mem {fs : List Fac} {i : Nat} (h : i < fs.length) : fg fs i ∈ fs := by
  rw [fg, List.getD, List.getElem?_eq_getElem h, Option.getD_some]; exact List.getElem_mem h
theorem take_fg {fs : List Fac} {i : Nat} (h : i < fs.length) : fs.take (i + 1) = fs.take i ++ [fg fs i] := by
  rw [List.take_add_one, fg, List.getD, List.getElem?_eq_getElem h]; rfl
theorem totF_next {fs : List Fac} {i : Nat} (h : i < fs.length) : totF (fs.take (i + 1)) = totF (fs.take i) + cost (fg fs i) := by
  rw [take_fg h]; simp [totF]
theorem totF_nil : totF [] = 0 := rfl
theorem lmb_nil : lmb [] = 1 := rfl
theorem lmb_next {p : List RI} {j : Nat} (h : j < p.length) : lmb (p.take (j + 1)) = lmb (p.take j) + (p.getD j (false, [])).2.length := by
  have e : p.take (j + 1) = p.take j ++ [p.getD j (false, [])] := by
    rw [List.take_add_one, List.getD, List.getElem?_eq_getElem h]; rfl
  rw [e]; simp [lmb]; omega
theorem lmb_take (p : List RI) (j : Nat) : lmb (p.take j) ≤ lmb p := by
  have e : lmb p = lmb (p.take j) + ((p.drop j).map fun c => c.2.length).sum := by
    conv => lhs; rw [← List.take_append_drop j p]
    simp only [lmb, List.map_append, List.sum_append]; omega
  omega
theorem cost_le {f : Fac} (h : lmb f.1 ≤ 2 ^ 21) : cost f ≤ 2 ^ 25 := by
  unfold cost
  split
  · rename_i hf
    have : f.2.toNat ≤ 12 := by omega
    have := Nat.mul_le_mul h this
    omega
  · omega
theorem totF_take {fs : List Fac} (h : FB fs) : ∀ i, i ≤ fs.length → totF (fs.take i) ≤ i * 2 ^ 25
  | 0, _ => by simp [totF]
  | i + 1, hi => by
    rw [totF_next (by omega)]
    have := totF_take h i (by omega)
    have := cost_le (h.sum _ (fg_mem (fs := fs) (i := i) (by omega)))
    omega
theorem light_ok (fs : List Fac) (h : FB fs) : AC Tryz.prog 5 [cfs fs] none [cb (lgtF fs)] := by
  have hl := h.len
  refine AC.by_walk (rs := [.tmp 2]) ords Tryz.func5 (by rfl) (by rfl) (by rfl) (by rfl) (by rfl) ?_
  simp (disch := omega) only [wk, tis, seval, reduceCtorEq, Nat.reduceEqDiff, facs_len, facs_at, totF_nil, drp1, drp0, gt1, gt2, ln1, ln2]
  refine aloop_by (fun f H => ∃ (i : Nat), i ≤ fs.length ∧ (fs.take i).any hvyF = false ∧ f 9 = .iv (.int .i64 i) ∧ f 8 = .iv (.int .i64 fs.length) ∧ f 0 = .iv (.sl (facs fs)) ∧ f 3 = .iv (.int .i64 (totF (fs.take i) : Nat))) (fun f H => (fs.length - intAt f 9).toNat) ?_ ?_
  · refine ⟨0, by omega, rfl, ?_⟩
    simp (disch := omega) only [wk, tis, seval, reduceCtorEq, Nat.reduceEqDiff, facs_len, facs_at, totF_nil, drp1, drp0, gt1, gt2, ln1, ln2, List.take_zero]
  rintro f H ⟨i, hi, hh, hF⟩
  rw [intAt_of hF.1]
  simp (disch := omega) only [wk, tis, seval, reduceCtorEq, Nat.reduceEqDiff, facs_len, facs_at, totF_nil, drp1, drp0, gt1, gt2, ln1, ln2, hF]
  refine if_by (fun hlt => ?_) (fun hlt => ?_)
  · have hif : i < fs.length := by omega
    have hmem := fg_mem hif
    have hr := h.rp _ hmem
    have hs := h.sum _ hmem
    have hlo := h.lo _ hmem
    have hhi := h.hi _ hmem
    have ht := totF_take h i hi
    have hpl := hr.1
    have hnx := totF_next hif
    have hany : (fs.take (i + 1)).any hvyF = hvyF (fg fs i) := by rw [take_fg hif, List.any_append, hh]; simp
    have hat := facs_at hif
    rcases hfn : fg fs i with ⟨p, n⟩
    simp only [hfn] at hmem hr hs hlo hhi hpl hnx hany hat
    have hlm : ∀ j, lmb (p.take j) ≤ 2 ^ 21 := fun j => Nat.le_trans (lmb_take p j) hs
    simp (disch := omega) only [wk, tis, seval, reduceCtorEq, Nat.reduceEqDiff, facs_len, facs_at, totF_nil, drp1, drp0, gt1, gt2, ln1, ln2, hF, hat]
    refine aloop_by (fun f H => ∃ (j : Nat), j ≤ p.length ∧ f 18 = .iv (.int .i64 j) ∧ f 17 = .iv (.int .i64 p.length) ∧ f 0 = .iv (.sl (facs fs)) ∧ f 4 = .iv (.int .i64 i) ∧ f 9 = .iv (.int .i64 i) ∧ f 8 = .iv (.int .i64 fs.length) ∧ f 3 = .iv (.int .i64 (totF (fs.take i) : Nat)) ∧ f 5 = .iv (.int .i64 (lmb (p.take j) : Nat))) (fun f H => (p.length - intAt f 18).toNat) ?_ ?_
    · refine ⟨0, by omega, ?_⟩
      simp (disch := omega) only [wk, tis, seval, reduceCtorEq, Nat.reduceEqDiff, facs_len, facs_at, totF_nil, drp1, drp0, gt1, gt2, ln1, ln2, hF, List.take_zero, lmb_nil]
    rintro f H ⟨j, hj, hF⟩
    rw [intAt_of hF.1]
    simp (disch := omega) only [wk, tis, seval, reduceCtorEq, Nat.reduceEqDiff, facs_len, facs_at, totF_nil, drp1, drp0, gt1, gt2, ln1, ln2, hF]
    refine if_by (fun hlj => ?_) (fun hlj => ?_)
    · have hjp : j < p.length := by omega
      have hn := lmb_next hjp
      have := hlm (j + 1)
      simp (disch := omega) only [wk, tis, seval, reduceCtorEq, Nat.reduceEqDiff, facs_len, facs_at, totF_nil, drp1, drp0, gt1, gt2, ln1, ln2, hF, hat]
      exact ⟨⟨j + 1, by omega, by omega, by omega⟩, by omega⟩
    · have hjp : j = p.length := by omega
      subst hjp
      rw [List.take_length] at hF
      have hc : cost (p, n) ≤ 2 ^ 25 := cost_le hs
      have go : cost (p, n) = 0 → hvyF (p, n) = false → (∃ i1 : Nat, i1 ≤ fs.length ∧ (fs.take i1).any hvyF = false ∧ (i : Int) + 1 = i1 ∧ (totF (fs.take i) : Int) = (totF (fs.take i1) : Nat)) ∧ ((fs.length : Int) - (i + 1)).toNat < ((fs.length : Int) - i).toNat := fun h1 h2 => ⟨⟨i + 1, by omega, by rw [hany, h2], by omega, by omega⟩, by omega⟩
      by_cases h12 : 12 < n
      · by_cases h1k : n ≤ 1000
        · simp (disch := omega) only [wk, tis, seval, reduceCtorEq, Nat.reduceEqDiff, facs_len, facs_at, totF_nil, drp1, drp0, gt1, gt2, ln1, ln2, hF, hat, h12, h1k]
          have e : fs.any hvyF = true := List.any_eq_true.mpr ⟨(p, n), hmem, by simp [hvyF, h12, h1k]⟩
          simp [lgtF, e]
        · have h12' : ¬ n ≤ 12 := by omega
          have h0 : 0 < n := by omega
          simp (disch := omega) only [wk, tis, seval, reduceCtorEq, Nat.reduceEqDiff, facs_len, facs_at, totF_nil, drp1, drp0, gt1, gt2, ln1, ln2, hF, hat, h12, h1k, h12', h0]
          exact go (by simp [cost, h12']) (by simp [hvyF, h1k])
      · have h12' : n ≤ 12 := by omega
        by_cases h0 : 0 < n
        · have hm : (lmb p : Int) * n = (cost (p, n) : Nat) := by
            have e : cost (p, n) = lmb p * n.toNat := if_pos ⟨h0, h12'⟩
            rw [e, Int.natCast_mul, Int.toNat_of_nonneg (by omega)]
          simp (disch := omega) only [wk, tis, seval, reduceCtorEq, Nat.reduceEqDiff, facs_len, facs_at, totF_nil, drp1, drp0, gt1, gt2, ln1, ln2, hF, hat, h12, h12', h0, hm]
          exact ⟨⟨i + 1, by omega, by rw [hany]; simp [hvyF, h12], by omega, by omega⟩, by omega⟩
        · simp (disch := omega) only [wk, tis, seval, reduceCtorEq, Nat.reduceEqDiff, facs_len, facs_at, totF_nil, drp1, drp0, gt1, gt2, ln1, ln2, hF, hat, h12, h0]
          exact go (by simp [cost, h0]) (by simp [hvyF, h12])
  · simp (disch := omega) only [wk, tis, seval, reduceCtorEq, Nat.reduceEqDiff, facs_len, facs_at, totF_nil, drp1, drp0, gt1, gt2, ln1, ln2, hF]
    have e : i = fs.length := by omega
    subst e
    rw [List.take_length] at *
    rw [lgtF, hh, Bool.not_false, Bool.true_and]
    exact decide_eq_decide.mpr (by omega)
end Go.Proofs.YthbobdhkbgggjaaGreat

namespace Go.Proofs.YthbobdhkbgggjaaGreat
open Go Go.Proofs Go.AL
set_option linter.unusedSimpArgs false
set_option linter.unusedVariables false
def negF (fs : List Fac) : Bool := fs.any fun f => decide (f.2 < 0)
def bigF (fs : List Fac) : Bool := fs.any fun f => decide (1000 < f.2)
def pfac (f : Fac) : List Int := ppow (pv f.1) f.2.toNat
def pbu (fs : List Fac) : List Int := fs.foldl (fun out f => pmul out (pfac f)) [1]
def bval (fs : List Fac) : List Int := if negF fs then [] else if bigF fs then [] else pbu fs
def berr (fs : List Fac) : Int := if negF fs then 3 else if bigF fs then 13 else 0
theorem pbu_next {fs : List Fac} {i : Nat} (h : i < fs.length) : pbu (fs.take (i + 1)) = pmul (pbu (fs.take i)) (pfac (fg fs i)) := by
  rw [take_fg h]; simp [pbu]
theorem pbu_nil : pbu [] = [1] := rfl
theorem lmb_mem {p : List RI} {c : RI} (h : c ∈ p) : c.2.length ≤ lmb p := by
  have : ∀ (l : List Nat) (x : Nat), x ∈ l → x ≤ l.sum := fun l x hx => by
    induction l with
    | nil => cases hx
    | cons a l ih =>
      rw [List.sum_cons]
      rcases List.mem_cons.1 hx with rfl | hx
      · omega
      · have := ih hx; omega
  have := this (p.map fun c => c.2.length) c.2.length (List.mem_map.mpr ⟨c, h, rfl⟩)
  unfold lmb; omega
theorem rp_lmb {p : List RI} {n k : Nat} (h : RP n k p) : RP n (lmb p) p := ⟨h.1, fun c hc => ⟨lmb_mem hc, (h.2 c hc).2⟩⟩
theorem pb_fac {f : Fac} (hr : RP (2 ^ 20) (2 ^ 20) f.1) (h0 : 0 ≤ f.2) (h1 : f.2 ≤ 12) : PB (cost f * 1048576 + 1) (2 * cost f + 1) (pfac f) := by
  have h := (rp_lmb hr).pv.ppow (by decide) f.2.toNat
  have hl : 1 ≤ lmb f.1 := by unfold lmb; omega
  refine h.mono ?_ ?_
  · unfold cost
    split
    · have : 1 * f.2.toNat ≤ lmb f.1 * f.2.toNat := Nat.mul_le_mul_right _ hl
      exact Nat.succ_le_succ (Nat.mul_le_mul_right _ (by omega))
    · have : f.2.toNat = 0 := by omega
      rw [this]; simp
  · unfold cost
    split
    · have : 1 * f.2.toNat ≤ lmb f.1 * f.2.toNat := Nat.mul_le_mul_right _ hl
      rw [Nat.mul_add, Nat.mul_comm f.2.toNat (lmb f.1)]
      omega
    · have : f.2.toNat = 0 := by omega
      rw [this]; simp
theorem pb_pow {p : List RI} (hr : RP (2 ^ 20) (2 ^ 20) p) (x : Nat) (hx : x ≤ 12) : PB (2 ^ 30) (2 ^ 35) (ppow (pv p) x) := by
  refine (hr.pv.ppow (by decide) x).mono ?_ ?_
  · exact Nat.le_trans (Nat.succ_le_succ (Nat.mul_le_mul_right _ hx)) (by decide)
  · exact Nat.le_trans (Nat.succ_le_succ (Nat.mul_le_mul_right _ hx)) (by decide)
theorem totF_le (fs : List Fac) (i : Nat) : totF (fs.take i) ≤ totF fs := by
  have e : totF fs = totF (fs.take i) + totF (fs.drop i) := by
    conv => lhs; rw [← List.take_append_drop i fs]
    simp only [totF, List.map_append, List.sum_append]
  omega
theorem pb_pbu {fs : List Fac} (h : FB fs) (hT : totF fs ≤ 120) : ∀ i, i ≤ fs.length → (∀ f ∈ fs.take i, 0 ≤ f.2 ∧ f.2 ≤ 12) → PB (1 + i + totF (fs.take i) * 1048576) (1 + 2 * i + 2 * totF (fs.take i)) (pbu (fs.take i))
  | 0, _, _ => by
    rw [List.take_zero, pbu_nil]
    exact PB.one (by omega) (by omega)
  | i + 1, hi, hm => by
    have hif : i < fs.length := by omega
    have ih := pb_pbu h hT i (by omega) (fun f hf => hm f (by rw [take_fg hif]; exact List.mem_append_left _ hf))
    have hc := hm (fg fs i) (by rw [take_fg hif]; exact List.mem_append_right _ (List.mem_singleton.2 rfl))
    have ht := totF_le fs i
    have hl := h.len
    rw [pbu_next hif, totF_next hif]
    refine ((ih.pmul (pb_fac (h.rp _ (fg_mem hif)) hc.1 hc.2) ?_)).mono ?_ ?_
    · simp only [W]
      omega
    · omega
    · omega
theorem pb_all {fs : List Fac} (h : FB fs) (hT : totF fs ≤ 120) (i : Nat) (hi : i ≤ fs.length) (hm : ∀ f ∈ fs.take i, 0 ≤ f.2 ∧ f.2 ≤ 12) : PB (2 ^ 30) (2 ^ 35) (pbu (fs.take i)) := by
  have ht := totF_le fs i
  have hl := h.len
  exact (pb_pbu h hT i hi hm).mono (by omega) (by omega)
end Go.Proofs.YthbobdhkbgggjaaGreat

namespace Go.Proofs.YthbobdhkbgggjaaGreat
open Go Go.Proofs Go.AL
set_option linter.unusedSimpArgs false
set_option linter.unusedVariables false
theorem small_of {fs : List Fac} (hv : fs.any hvyF = false) (hn : negF fs = false) (hb : bigF fs = false) : ∀ f ∈ fs, 0 ≤ f.2 ∧ f.2 ≤ 12 := by
  intro f hf
  have h1 := List.any_eq_false.mp hv f hf
  have h2 := List.any_eq_false.mp hn f hf
  have h3 := List.any_eq_false.mp hb f hf
  simp only [hvyF, Bool.and_eq_true, decide_eq_true_eq] at h1 h2 h3
  omega
theorem any_next {g : Fac → Bool} {fs : List Fac} {i : Nat} (h : i < fs.length) (h0 : (fs.take i).any g = false) : (fs.take (i + 1)).any g = g (fg fs i) := by
  rw [take_fg h, List.any_append, h0]; simp
theorem any_mem {g : Fac → Bool} {fs : List Fac} {i : Nat} (h : i < fs.length) (h0 : g (fg fs i) = true) : fs.any g = true := List.any_eq_true.mpr ⟨_, fg_mem h, h0⟩
theorem any_all {g : Fac → Bool} {fs : List Fac} (h0 : (fs.take fs.length).any g = false) : fs.any g = false := by rwa [List.take_length] at h0
theorem smul_n {q r s : List Int} (hq : PB (2 ^ 30) (2 ^ 35) q) (hr : PB (2 ^ 30) (2 ^ 35) r) (e : ps q * ps r = ps s) : AC Tryz.prog 14 [cp q, cp r] none [cp s] := by
  have hm := smul_ok (cn q) (cn r) (rp_cn hq) (rp_cn hr)
  have e : cp (pmul (pv (cn q)) (pv (cn r))) = cp s := cp_ps (by rw [ps_pmul, ps_cn, ps_cn, e])
  rwa [e] at hm
set_option maxRecDepth 100000 in
theorem rbuild_ok (fs : List Fac) (h : FB fs) (hv : fs.any hvyF = false) (hT : totF fs ≤ 120) : AC Tryz.prog 6 [cfs fs] none [cp (bval fs), ci (berr fs)] := by
  have hl := h.len
  refine AC.by_walk (rs := [.tmp 2, .tmp 3]) ords Tryz.func6 (by rfl) (by rfl) (by rfl) (by rfl) (by rfl) ?_
  simp (disch := omega) only [wk, tis, seval, reduceCtorEq, Nat.reduceEqDiff, facs_len, facs_at, drp1, drp0, gt1, gt2, ln1, ln2]
  refine aloop_by (fun f H => ∃ (i : Nat), i ≤ fs.length ∧ negF (fs.take i) = false ∧ f 4 = .iv (.int .i64 i) ∧ f 0 = .iv (.sl (facs fs))) (fun f H => (fs.length - intAt f 4).toNat) ?_ ?_
  · refine ⟨0, by omega, rfl, ?_⟩
    simp (disch := omega) only [wk, tis, seval, reduceCtorEq, Nat.reduceEqDiff, facs_len, facs_at, drp1, drp0, gt1, gt2, ln1, ln2]
  rintro f H ⟨i, hi, hh, hF⟩
  rw [intAt_of hF.1]
  simp (disch := omega) only [wk, tis, seval, reduceCtorEq, Nat.reduceEqDiff, facs_len, facs_at, drp1, drp0, gt1, gt2, ln1, ln2, hF]
  refine if_by (fun hlt => ?_) (fun hlt => ?_)
  · have hif : i < fs.length := by omega
    have hat := facs_at hif
    have hnx : negF (fs.take (i + 1)) = decide ((fg fs i).2 < 0) := any_next hif hh
    have hlo := h.lo _ (fg_mem hif)
    have hhi := h.hi _ (fg_mem hif)
    by_cases hn : (fg fs i).2 < 0
    · have e : negF fs = true := any_mem hif (decide_eq_true hn)
      simp (disch := omega) only [wk, tis, seval, reduceCtorEq, Nat.reduceEqDiff, facs_len, facs_at, drp1, drp0, gt1, gt2, ln1, ln2, hF, hat, hn, bval, berr, e]
      rfl
    · simp (disch := omega) only [wk, tis, seval, reduceCtorEq, Nat.reduceEqDiff, facs_len, facs_at, drp1, drp0, gt1, gt2, ln1, ln2, hF, hat, hn]
      exact ⟨⟨i + 1, by omega, by rw [hnx]; exact decide_eq_false hn, by omega⟩, by omega⟩
  have e : i = fs.length := by omega
  subst e
  have hneg : negF fs = false := any_all hh
  simp (disch := omega) only [wk, tis, seval, reduceCtorEq, Nat.reduceEqDiff, facs_len, facs_at, drp1, drp0, gt1, gt2, ln1, ln2, hF]
  have s1 := sof_ok [1] (by decide) (by simp)
  refine call_by (s1) (by first | rfl | (simp only [tocvs, tocv, hF]; rfl) | (simp only [tocvs, tocv, toboxes, tobox, updH_at, Nat.reduceEqDiff, ↓reduceIte, hF]; rfl)) (by simp) ?_
  simp (disch := omega) only [wk, tis, seval, reduceCtorEq, Nat.reduceEqDiff, facs_len, facs_at, drp1, drp0, gt1, gt2, ln1, ln2, hF]
  refine aloop_by (fun f H => ∃ (i : Nat), i ≤ fs.length ∧ bigF (fs.take i) = false ∧ f 6 = .iv (.int .i64 i) ∧ f 0 = .iv (.sl (facs fs)) ∧ f 5 = .iv (.sl (cpoly [1]))) (fun f H => (fs.length - intAt f 6).toNat) ?_ ?_
  · refine ⟨0, by omega, rfl, ?_⟩
    simp (disch := omega) only [wk, tis, seval, reduceCtorEq, Nat.reduceEqDiff, facs_len, facs_at, drp1, drp0, gt1, gt2, ln1, ln2, hF]
  rintro f H ⟨i, hi, hh, hF⟩
  rw [intAt_of hF.1]
  simp (disch := omega) only [wk, tis, seval, reduceCtorEq, Nat.reduceEqDiff, facs_len, facs_at, drp1, drp0, gt1, gt2, ln1, ln2, hF]
  refine if_by (fun hlt => ?_) (fun hlt => ?_)
  · have hif : i < fs.length := by omega
    have hat := facs_at hif
    have hnx : bigF (fs.take (i + 1)) = decide (1000 < (fg fs i).2) := any_next hif hh
    have hlo := h.lo _ (fg_mem hif)
    have hhi := h.hi _ (fg_mem hif)
    by_cases hn : 1000 < (fg fs i).2
    · have e : bigF fs = true := any_mem hif (decide_eq_true hn)
      simp (disch := omega) only [wk, tis, seval, reduceCtorEq, Nat.reduceEqDiff, facs_len, facs_at, drp1, drp0, gt1, gt2, ln1, ln2, hF, hat, hn, bval, berr, e, hneg]
      rfl
    · simp (disch := omega) only [wk, tis, seval, reduceCtorEq, Nat.reduceEqDiff, facs_len, facs_at, drp1, drp0, gt1, gt2, ln1, ln2, hF, hat, hn]
      exact ⟨⟨i + 1, by omega, by rw [hnx]; exact decide_eq_false hn, by omega⟩, by omega⟩
  have e : i = fs.length := by omega
  subst e
  have hbig : bigF fs = false := any_all hh
  have hsm := small_of hv hneg hbig
  simp (disch := omega) only [wk, tis, seval, reduceCtorEq, Nat.reduceEqDiff, facs_len, facs_at, drp1, drp0, gt1, gt2, ln1, ln2, hF]
  refine aloop_by (fun f H => ∃ (i : Nat), i ≤ fs.length ∧ f 7 = .iv (.int .i64 i) ∧ f 0 = .iv (.sl (facs fs)) ∧ f 5 = .iv (.sl (cpoly (pbu (fs.take i))))) (fun f H => (fs.length - intAt f 7).toNat) ?_ ?_
  · refine ⟨0, by omega, ?_⟩
    simp (disch := omega) only [wk, tis, seval, reduceCtorEq, Nat.reduceEqDiff, facs_len, facs_at, drp1, drp0, gt1, gt2, ln1, ln2, hF, List.take_zero, pbu_nil]
  rintro f H ⟨i, hi, hF⟩
  rw [intAt_of hF.1]
  simp (disch := omega) only [wk, tis, seval, reduceCtorEq, Nat.reduceEqDiff, facs_len, facs_at, drp1, drp0, gt1, gt2, ln1, ln2, hF]
  refine if_by (fun hlt => ?_) (fun hlt => ?_)
  · have hif : i < fs.length := by omega
    have hat := facs_at hif
    have hr := h.rp _ (fg_mem hif)
    have hs := hsm _ (fg_mem hif)
    have hpb := pb_all h hT i hi (fun f hf => hsm f (List.mem_of_mem_take hf))
    have hnx := pbu_next hif
    rcases hfn : fg fs i with ⟨p, n⟩
    simp only [hfn, pfac] at hr hs hat hnx
    obtain ⟨m, rfl⟩ := Int.eq_ofNat_of_zero_le hs.1
    have hm12 : m ≤ 12 := by omega
    have c1 := spow_g p m (by omega) (hr.mono (by decide) (by decide)) (fun x hx => pb_pow hr x (by omega))
    have c2 := smul_n (s := pbu (fs.take (i + 1))) hpb (pb_pow hr m hm12) (by rw [hnx, ps_pmul, Int.toNat_natCast])
    simp (disch := omega) only [wk, tis, seval, reduceCtorEq, Nat.reduceEqDiff, facs_len, facs_at, drp1, drp0, gt1, gt2, ln1, ln2, hF, hat]
    refine ⟨tmps_by (by kernel_rfl), ?_⟩
    refine call_by (c1) (by first | rfl | (simp only [tocvs, tocv, hF, hat]; rfl) | (simp only [tocvs, tocv, toboxes, tobox, updH_at, Nat.reduceEqDiff, ↓reduceIte, hF, hat]; rfl)) (by simp) ?_
    simp (disch := omega) only [wk, tis, seval, reduceCtorEq, Nat.reduceEqDiff, facs_len, facs_at, drp1, drp0, gt1, gt2, ln1, ln2, hF, hat]
    first | exact log_by (by kernel_rfl) | refine ⟨log_by (by kernel_rfl), ?_⟩
    refine call_by (c2) (by first | rfl | (simp only [tocvs, tocv, hF, hat]; rfl) | (simp only [tocvs, tocv, toboxes, tobox, updH_at, Nat.reduceEqDiff, ↓reduceIte, hF, hat]; rfl)) (by simp) ?_
    simp (disch := omega) only [wk, tis, seval, reduceCtorEq, Nat.reduceEqDiff, facs_len, facs_at, drp1, drp0, gt1, gt2, ln1, ln2, hF, hat]
    exact ⟨⟨i + 1, by omega, by omega, rfl⟩, by omega⟩
  · have e : i = fs.length := by omega
    subst e
    rw [List.take_length] at hF
    simp (disch := omega) only [wk, tis, seval, reduceCtorEq, Nat.reduceEqDiff, facs_len, facs_at, drp1, drp0, gt1, gt2, ln1, ln2, hF, bval, berr, hneg, hbig]
end Go.Proofs.YthbobdhkbgggjaaGreat

namespace Go.Proofs.YthbobdhkbgggjaaGreat
open Go Go.Proofs Go.AL
set_option linter.unusedSimpArgs false
set_option linter.unusedVariables false
theorem sone_ok : AC Tryz.prog 15 [] none [cp [1]] := by
  have c := ppow_g [] 0 (by omega) ⟨by simp, by simp⟩ (fun x hx => by obtain rfl : x = 0 := by omega
                                                                      exact PB.one (by decide) (by decide))
  refine AC.by_walk (rs := [.tmp 0]) ords Tryz.func15 (by rfl) (by rfl) (by rfl) (by rfl) (by rfl) ?_
  simp (disch := omega) only [wk, tis, seval, reduceCtorEq, Nat.reduceEqDiff, facs_len, facs_at, drp1, drp0, gt1, gt2, ln1, ln2, spl2, tak2]
  refine call_by (c) (by rfl) (by simp) ?_
  simp (disch := omega) only [wk, tis, seval, reduceCtorEq, Nat.reduceEqDiff, facs_len, facs_at, drp1, drp0, gt1, gt2, ln1, ln2, spl2, tak2]
  rfl
theorem pmul_n {q r s : List Int} (hq : PB (2 ^ 30) (2 ^ 35) q) (hr : PB (2 ^ 30) (2 ^ 35) r) (e : ps q * ps r = ps s) : AC Tryz.prog 17 [cp q, cp r] none [cp s] := pmul_cn hq hr e
set_option maxRecDepth 100000 in
theorem sbuild_ok (fs : List Fac) (h : FB fs) (hv : fs.any hvyF = false) (hT : totF fs ≤ 120) : AC Tryz.prog 7 [cfs fs] none [cp (bval fs), ci (berr fs)] := by
  have hl := h.len
  have c0 := sone_ok
  refine AC.by_walk (rs := [.tmp 2, .tmp 3]) ords Tryz.func7 (by rfl) (by rfl) (by rfl) (by rfl) (by rfl) ?_
  simp (disch := omega) only [wk, tis, seval, reduceCtorEq, Nat.reduceEqDiff, facs_len, facs_at, drp1, drp0, gt1, gt2, ln1, ln2, spl2, tak2]
  refine aloop_by (fun f H => ∃ (i : Nat), i ≤ fs.length ∧ negF (fs.take i) = false ∧ f 13 = .iv (.int .i64 i) ∧ f 0 = .iv (.sl (facs fs)) ∧ f 11 = .iv (.sl (facs fs)) ∧ f 12 = .iv (.int .i64 fs.length)) (fun f H => (fs.length - intAt f 13).toNat) ?_ ?_
  · refine ⟨0, by omega, rfl, ?_⟩
    simp (disch := omega) only [wk, tis, seval, reduceCtorEq, Nat.reduceEqDiff, facs_len, facs_at, drp1, drp0, gt1, gt2, ln1, ln2, spl2, tak2]
  rintro f H ⟨i, hi, hh, hF⟩
  rw [intAt_of hF.1]
  simp (disch := omega) only [wk, tis, seval, reduceCtorEq, Nat.reduceEqDiff, facs_len, facs_at, drp1, drp0, gt1, gt2, ln1, ln2, spl2, tak2, hF]
  refine if_by (fun hlt => ?_) (fun hlt => ?_)
  · have hif : i < fs.length := by omega
    have hat := facs_at hif
    have hnx : negF (fs.take (i + 1)) = decide ((fg fs i).2 < 0) := any_next hif hh
    have hlo := h.lo _ (fg_mem hif)
    have hhi := h.hi _ (fg_mem hif)
    by_cases hn : (fg fs i).2 < 0
    · have e : negF fs = true := any_mem hif (decide_eq_true hn)
      simp (disch := omega) only [wk, tis, seval, reduceCtorEq, Nat.reduceEqDiff, facs_len, facs_at, drp1, drp0, gt1, gt2, ln1, ln2, spl2, tak2, hF, hat, hn, bval, berr, e]
      rfl
    · simp (disch := omega) only [wk, tis, seval, reduceCtorEq, Nat.reduceEqDiff, facs_len, facs_at, drp1, drp0, gt1, gt2, ln1, ln2, spl2, tak2, hF, hat, hn]
      exact ⟨⟨i + 1, by omega, by rw [hnx]; exact decide_eq_false hn, by omega⟩, by omega⟩
  have e : i = fs.length := by omega
  subst e
  have hneg : negF fs = false := any_all hh
  simp (disch := omega) only [wk, tis, seval, reduceCtorEq, Nat.reduceEqDiff, facs_len, facs_at, drp1, drp0, gt1, gt2, ln1, ln2, spl2, tak2, hF]
  refine call_by (c0) (by first | rfl | (simp only [tocvs, tocv, hF]; rfl) | (simp only [tocvs, tocv, toboxes, tobox, updH_at, Nat.reduceEqDiff, ↓reduceIte, hF]; rfl)) (by simp) ?_
  simp (disch := omega) only [wk, tis, seval, reduceCtorEq, Nat.reduceEqDiff, facs_len, facs_at, drp1, drp0, gt1, gt2, ln1, ln2, spl2, tak2, hF]
  refine aloop_by (fun f H => ∃ (i : Nat), i ≤ fs.length ∧ bigF (fs.take i) = false ∧ f 24 = .iv (.int .i64 i) ∧ f 22 = .iv (.sl (facs fs)) ∧ f 23 = .iv (.int .i64 fs.length) ∧ f 6 = .iv (.sl (cpoly (pbu (fs.take i))))) (fun f H => (fs.length - intAt f 24).toNat) ?_ ?_
  · refine ⟨0, by omega, rfl, ?_⟩
    simp (disch := omega) only [wk, tis, seval, reduceCtorEq, Nat.reduceEqDiff, facs_len, facs_at, drp1, drp0, gt1, gt2, ln1, ln2, spl2, tak2, hF, List.take_zero, pbu_nil]
  rintro f H ⟨i, hi, hh, hF⟩
  rw [intAt_of hF.1]
  simp (disch := omega) only [wk, tis, seval, reduceCtorEq, Nat.reduceEqDiff, facs_len, facs_at, drp1, drp0, gt1, gt2, ln1, ln2, spl2, tak2, hF]
  refine if_by (fun hlt => ?_) (fun hlt => ?_)
  · have hif : i < fs.length := by omega
    have hat := facs_at hif
    have hnx : bigF (fs.take (i + 1)) = decide (1000 < (fg fs i).2) := any_next hif hh
    have hlo := h.lo _ (fg_mem hif)
    have hhi := h.hi _ (fg_mem hif)
    have hr := h.rp _ (fg_mem hif)
    have hsm : ∀ f ∈ fs.take i, 0 ≤ f.2 ∧ f.2 ≤ 12 := fun f hf => by
      have h1 := List.any_eq_false.mp hv f (List.mem_of_mem_take hf)
      have h2 := List.any_eq_false.mp hneg f (List.mem_of_mem_take hf)
      have h3 := List.any_eq_false.mp hh f hf
      simp only [hvyF, Bool.and_eq_true, decide_eq_true_eq] at h1 h2 h3
      omega
    have hpb := pb_all h hT i hi hsm
    have hpn := pbu_next hif
    have h1 := List.any_eq_false.mp hv _ (fg_mem hif)
    have h2 := List.any_eq_false.mp hneg _ (fg_mem hif)
    simp only [hvyF, Bool.and_eq_true, decide_eq_true_eq] at h1 h2
    by_cases hn : 1000 < (fg fs i).2
    · have e : bigF fs = true := any_mem hif (decide_eq_true hn)
      have c1 := ppow_big (fg fs i).1 (fg fs i).2 hn
      simp (disch := omega) only [wk, tis, seval, reduceCtorEq, Nat.reduceEqDiff, facs_len, facs_at, drp1, drp0, gt1, gt2, ln1, ln2, spl2, tak2, hF, hat, bval, berr, e, hneg]
      refine call_by (c1) (by first | rfl | (simp only [tocvs, tocv, hF, hat]; rfl) | (simp only [tocvs, tocv, toboxes, tobox, updH_at, Nat.reduceEqDiff, ↓reduceIte, hF, hat]; rfl)) (by simp) ?_
      simp (disch := omega) only [wk, tis, seval, reduceCtorEq, Nat.reduceEqDiff, facs_len, facs_at, drp1, drp0, gt1, gt2, ln1, ln2, spl2, tak2, hF, hat]
      rfl
    · rcases hfn : fg fs i with ⟨p, n⟩
      simp only [hfn, pfac] at hr hat hpn hnx hn h1 h2 hlo hhi
      obtain ⟨m, rfl⟩ := Int.eq_ofNat_of_zero_le (show 0 ≤ n by omega)
      have hm12 : m ≤ 12 := by omega
      have c1 := ppow_g p m (by omega) (hr.mono (by decide) (by decide)) (fun x hx => pb_pow hr x (by omega))
      have c2 := pmul_n (s := pbu (fs.take (i + 1))) hpb (pb_pow hr m hm12) (by rw [hpn, ps_pmul, Int.toNat_natCast])
      simp (disch := omega) only [wk, tis, seval, reduceCtorEq, Nat.reduceEqDiff, facs_len, facs_at, drp1, drp0, gt1, gt2, ln1, ln2, spl2, tak2, hF, hat]
      refine call_by (c1) (by first | rfl | (simp only [tocvs, tocv, hF, hat]; rfl) | (simp only [tocvs, tocv, toboxes, tobox, updH_at, Nat.reduceEqDiff, ↓reduceIte, hF, hat]; rfl)) (by simp) ?_
      simp (disch := omega) only [wk, tis, seval, reduceCtorEq, Nat.reduceEqDiff, facs_len, facs_at, drp1, drp0, gt1, gt2, ln1, ln2, spl2, tak2, hF, hat]
      refine call_by (c2) (by first | rfl | (simp only [tocvs, tocv, hF, hat]; rfl) | (simp only [tocvs, tocv, toboxes, tobox, updH_at, Nat.reduceEqDiff, ↓reduceIte, hF, hat]; rfl)) (by simp) ?_
      simp (disch := omega) only [wk, tis, seval, reduceCtorEq, Nat.reduceEqDiff, facs_len, facs_at, drp1, drp0, gt1, gt2, ln1, ln2, spl2, tak2, hF, hat]
      exact ⟨⟨i + 1, by omega, by rw [hnx]; exact decide_eq_false hn, by omega, rfl⟩, by omega⟩
  · have e : i = fs.length := by omega
    subst e
    have hbig : bigF fs = false := any_all hh
    rw [List.take_length] at hF
    simp (disch := omega) only [wk, tis, seval, reduceCtorEq, Nat.reduceEqDiff, facs_len, facs_at, drp1, drp0, gt1, gt2, ln1, ln2, spl2, tak2, hF, bval, berr, hneg, hbig]
end Go.Proofs.YthbobdhkbgggjaaGreat

namespace Go.Proofs.YthbobdhkbgggjaaGreat
open Go Go.Proofs Go.AL
set_option linter.unusedSimpArgs false
set_option linter.unusedVariables false
theorem bplain_ok (e w : Int) : AC Tryz.prog 8 [ci e, ci w] none [cb (decide (e = w))] := by
  refine AC.by_walk (rs := [.tmp 4]) ords Tryz.func8 (by rfl) (by rfl) (by rfl) (by rfl) (by rfl) ?_
  simp (disch := omega) only [wk, tis, seval, reduceCtorEq, Nat.reduceEqDiff, facs_len, facs_at]
theorem bsame_ok (a b : List RI) (ha : RP (2 ^ 40) (2 ^ 43) a) (hb : RP (2 ^ 40) (2 ^ 43) b) : AC Tryz.prog 9 [cw a, cw b] none [cb (decide (a = b))] := by
  have c := sform_ok a b ha hb
  refine AC.by_walk (rs := [.tmp 4]) ords Tryz.func9 (by rfl) (by rfl) (by rfl) (by rfl) (by rfl) ?_
  simp (disch := omega) only [wk, tis, seval, reduceCtorEq, Nat.reduceEqDiff, facs_len, facs_at]
  refine call_by (c) (by rfl) (by simp) ?_
  simp (disch := omega) only [wk, tis, seval, reduceCtorEq, Nat.reduceEqDiff, facs_len, facs_at]
theorem bval_pb {fs : List Fac} (h : FB fs) (hv : fs.any hvyF = false) (hT : totF fs ≤ 120) : PB (2 ^ 30) (2 ^ 35) (bval fs) := by
  have hn : PB (2 ^ 30) (2 ^ 35) [] := ⟨by simp, by simp⟩
  unfold bval
  cases hneg : negF fs with
  | true => exact hn
  | false =>
    cases hbig : bigF fs with
    | true => exact hn
    | false =>
      have := pb_all h hT fs.length (Nat.le_refl _) (fun f hf => small_of hv hneg hbig f (List.mem_of_mem_take hf))
      rw [List.take_length] at this
      exact this
theorem builds_ok (fs : List Fac) (h : FB fs) : AC Tryz.prog 3 [cfs fs] none [cb true] := by
  have c1 := awake_ok
  have c2 := light_ok fs h
  refine AC.by_walk (rs := [.tmp 2]) ords Tryz.func3 (by rfl) (by rfl) (by rfl) (by rfl) (by rfl) ?_
  simp (disch := omega) only [wk, tis, seval, reduceCtorEq, Nat.reduceEqDiff, facs_len, facs_at]
  refine call_by (c1) (by rfl) (by simp) ?_
  simp (disch := omega) only [wk, tis, seval, reduceCtorEq, Nat.reduceEqDiff, facs_len, facs_at]
  cases hg : lgtF fs with
  | false =>
    rw [hg] at c2
    refine call_by (c2) (by rfl) (by simp) ?_
    simp (disch := omega) only [wk, tis, seval, reduceCtorEq, Nat.reduceEqDiff, facs_len, facs_at]
  | true =>
    rw [hg] at c2
    simp only [lgtF, Bool.and_eq_true, Bool.not_eq_true', decide_eq_true_eq] at hg
    have c3 := rbuild_ok fs h hg.1 hg.2
    have c4 := sbuild_ok fs h hg.1 hg.2
    have hr : RP (2 ^ 40) (2 ^ 43) (cn (bval fs)) := (rp_cn (bval_pb h hg.1 hg.2)).mono (by decide) (by decide)
    have c5 := bplain_ok (berr fs) (berr fs)
    have c6 := bsame_ok (cn (bval fs)) (cn (bval fs)) hr hr
    rw [decide_eq_true rfl] at c5 c6
    refine call_by (c2) (by rfl) (by simp) ?_
    simp (disch := omega) only [wk, tis, seval, reduceCtorEq, Nat.reduceEqDiff, facs_len, facs_at]
    refine call_by (c3) (by rfl) (by simp) ?_
    simp (disch := omega) only [wk, tis, seval, reduceCtorEq, Nat.reduceEqDiff, facs_len, facs_at]
    refine call_by (c4) (by rfl) (by simp) ?_
    simp (disch := omega) only [wk, tis, seval, reduceCtorEq, Nat.reduceEqDiff, facs_len, facs_at]
    refine call_by (c5) (by rfl) (by simp) ?_
    simp (disch := omega) only [wk, tis, seval, reduceCtorEq, Nat.reduceEqDiff, facs_len, facs_at]
    refine call_by (c6) (by rfl) (by simp) ?_
    simp (disch := omega) only [wk, tis, seval, reduceCtorEq, Nat.reduceEqDiff, facs_len, facs_at]
end Go.Proofs.YthbobdhkbgggjaaGreat

namespace Go.Proofs.YthbobdhkbgggjaaGreat
open Go Go.Proofs Go.AL Go.RowKit Go.ChangeShapes
set_option linter.unusedSimpArgs false
set_option linter.unusedVariables false
theorem sum_idx : ∀ (xs ys : List Nat), xs.length = ys.length → (∀ i, i < xs.length → xs.getD i 0 ≤ ys.getD i 0) → xs.sum ≤ ys.sum
  | [], [], _, _ => Nat.le_refl _
  | x :: xs, y :: ys, hl, h => by
    have h0 := h 0 (by simp)
    have := sum_idx xs ys (by simpa using hl) fun i hi => by simpa using h (i + 1) (by simpa using hi)
    simp only [List.getD_cons_zero] at h0
    simp only [List.sum_cons]; omega
  | [], _ :: _, hl, _ => by simp at hl
  | _ :: _, [], hl, _ => by simp at hl
section
variable {P : Program} {w : World}
theorem readsB_sum {bk : {H : Type} → DataW H → Nat} {α : Type} (hbk : BulkOk bk) (hsum : ∀ {H : Type} (es sp : List (DataW H)), (es.map fun d => bk d).sum ≤ bk (.slice es sp)) (m : α → Nat) {f : α → List IV} {Q : Nat → α → Prop} {t e : TypeId} {sz : Nat} (hqm : ∀ N c, Q N c → m c ≤ N) (hmono : ∀ N N' c, N ≤ N' → Q N c → Q N' c) (ht : P.underlying t = some (.slice e)) (hc : P.cellsOf e = sz) (hsz : ∀ c, (f c).length = sz) (hpos : 0 < sz) (he : ReadsB bk P w f Q e) :
    ReadsB bk P w (fun l : List α => [.sl (l.map f)]) (fun N l => (l.length ≤ N ∧ ∀ c ∈ l, Q N c) ∧ (l.map m).sum ≤ N) t := by
  intro H enc sp held fuel cs x N h hN
  rcases DataW.trod_slice ht h with ⟨rfl, _⟩ | ⟨a, len, cap, elems, rest, n, _, rfl, rfl, hb, hl, hm, hlen, hel, hsp, hns⟩
  · exact ⟨[], ⟨⟨by simp, by simp⟩, by simp⟩, by simp only [Reps, List.map_nil]; exact ⟨.nil none 0 (Nat.zero_le _), trivial⟩⟩
  have each : ∀ i, i < len → ∃ c : α, Q (@bk H ((elems.map (·.1)).getD i DataW.nil)) c ∧ ∃ us, w.cells? 0 (a.add (i * sz)) sz = some us ∧ Reps w (fun _ => False) (f c) us := by
    intro i hi
    have := hel i hi
    rw [hc] at this
    have hi' : i < elems.length := by omega
    rw [List.getElem?_eq_getElem hi', Option.bind_eq_some_iff] at this
    obtain ⟨us, hus, hy⟩ := this
    obtain ⟨c, hQ, hr⟩ := he enc sp held n us _ (@bk H ((elems.map (·.1)).getD i DataW.nil)) hy (Nat.le_of_eq (by simp [List.getD, hi']))
    exact ⟨c, hQ, us, hus, hr⟩
  obtain ⟨l, hll, hlr⟩ := listOf len each
  have hle : ∀ i, i < elems.length → @bk H ((elems.map (·.1)).getD i DataW.nil) ≤ N := fun i hi => Nat.le_trans (hbk.2.1 _ _ _ (by rw [List.getD, List.getElem?_map, List.getElem?_eq_getElem hi]; exact List.mem_map.mpr ⟨_, List.getElem_mem hi, rfl⟩)) hN
  refine ⟨l, ⟨⟨by have := hbk.1 (elems.map (·.1)) (rest.map (·.1)); rw [List.length_map] at this; exact Nat.le_trans (by omega) (Nat.le_trans this hN), fun c hc => ?_⟩, ?_⟩, ?_⟩
  · obtain ⟨i, hi⟩ := List.getElem?_of_mem hc
    have := (List.getElem?_eq_some_iff.mp hi).1
    exact hmono _ _ _ (hle i (by omega)) (hlr i c hi).1
  · refine Nat.le_trans (sum_idx (l.map m) ((elems.map (·.1)).map fun d => @bk H d) (by simp; omega) fun i hi => ?_) (Nat.le_trans (hsum _ (rest.map (·.1))) hN)
    rw [List.length_map] at hi
    have := hqm _ _ (hlr i l[i] (List.getElem?_eq_getElem hi)).1
    have hi' : i < elems.length := by omega
    simpa [List.getD, hi, hi'] using this
  · simp only [Reps, and_true]
    by_cases h0 : len = 0
    · have : l = [] := by rw [← List.length_eq_zero_iff]; omega
      subst this; subst h0
      exact .nil (some a) cap hm
    · have hlm : (l.map f).length = len := by simp [hll]
      have cellAt : ∀ (i : Nat) (r : List IV), (l.map f)[i]? = some r → ∀ (j : Nat) (x : IV), r[j]? = some x → ∃ v, w.cell? ((a.add (i * sz)).add j) = some v ∧ Rep w (fun _ => False) x v := by
        intro i r hr j x hx
        rw [List.getElem?_map, Option.map_eq_some_iff] at hr
        obtain ⟨c, hc', rfl⟩ := hr
        obtain ⟨_, us, hus, hrep⟩ := hlr i c hc'
        obtain ⟨v, hv, hrv⟩ := hrep.at' j x hx
        obtain ⟨_, _, hcell⟩ := World.cells?_some hus
        have hj : j < sz := by
          have := (List.getElem?_eq_some_iff.mp hx).1
          rw [hsz] at this; exact this
        exact ⟨v, by rw [hcell j hj]; exact hv, hrv⟩
      obtain ⟨b, off, spot⟩ := a
      have h00 : 0 < l.length := by omega
      obtain ⟨v0, hv0, _⟩ := cellAt 0 (f l[0]) (by simp [h00]) 0 ((f l[0])[0]'(by rw [hsz]; exact hpos)) (by simp)
      have hspot : spot = none := by simpa [Addr.add] using World.cell?_spot hv0
      subst hspot
      have hadd : ∀ i j, ((⟨b, off, none⟩ : Addr).add (i * sz)).add j = ⟨b, off + (i * sz + j), none⟩ := by
        intro i j
        unfold Addr.add
        by_cases h1 : i * sz = 0 <;> by_cases h2 : j = 0 <;> simp [h1, h2, Nat.add_assoc]
      have := Rep.sl (w := w) (D := fun _ => False) (l.map f) b off cap sz (fun i j => (w.cell? ⟨b, off + (i * sz + j), none⟩).getD default) ?_ (by rw [hlm]; exact hl) hm ?_ (fun h => h) ?_ ?_
      · rw [hlm] at this; exact this
      · intro i r hr
        rw [List.getElem?_map, Option.map_eq_some_iff] at hr
        obtain ⟨c, _, rfl⟩ := hr
        exact hsz c
      · rw [show (⟨b, off, none⟩ : Addr).add (0 * sz) = ⟨b, off, none⟩ by simp [Addr.add]] at hv0
        exact World.block_lt_of_cell? w _ hv0
      · intro i r hr j x hx
        obtain ⟨v, hv, _⟩ := cellAt i r hr j x hx
        rw [hadd] at hv; simp only [hv, Option.getD_some]
      · intro i r hr j x hx
        obtain ⟨v, hv, hrv⟩ := cellAt i r hr j x hx
        rw [hadd] at hv; simp only [hv, Option.getD_some]; exact hrv
end
theorem builds_law (fs : List Fac) (h : fs.length ≤ 1048576 ∧ ∀ f ∈ fs, ((RP 1048576 1048576 f.1 ∧ (f.1.map fun c => c.2.length).sum ≤ 1048576) ∧ -9223372036854775808 ≤ f.2 ∧ f.2 ≤ 9223372036854775807)) : AC Tryz.prog 3 [cfs fs] none [cb true] :=
  builds_ok fs ⟨h.1, fun f hf => (h.2 f hf).1.1, fun f hf => by have := (h.2 f hf).1.2; unfold lmb; omega, fun f hf => (h.2 f hf).2.1, fun f hf => (h.2 f hf).2.2⟩
end Go.Proofs.YthbobdhkbgggjaaGreat
