/-
  Contracts of the functions that the law reaches.
-/
import Derived.Test.YtaepoooifkjbmaaGreatL104M
import Derived.Test.YtaepoooifkjbmaaGreatAbsT
import Derived.Test.YtaepoooifkjbmaaGreatTyA
import Derived.Test.YtaepoooifkjbmaaGreatL1M
import Derived.RangeFuncBox
import Derived.OwnWalkIn
import Derived.TacticsInMore
import Derived.LoopNIn
import Derived.LoopIn
import Derived.Test.YtaepoooifkjbmaaGreatL36M
import Derived.Test.YtaepoooifkjbmaaGreatL12M
namespace Go.Proofs.YtaepoooifkjbmaaGreat
open Go Go.Proofs Go.AL
set_option linter.unusedSimpArgs false
set_option linter.unusedVariables false

end Go.Proofs.YtaepoooifkjbmaaGreat

namespace Go.Proofs.YtaepoooifkjbmaaGreat
open Go Go.Proofs Go.AL
set_option linter.unusedSimpArgs false
set_option linter.unusedVariables false

theorem pq_cqs (X : List Rat) : pq (qvs (cqs X)) = pq X := by rw [qvs_cqs, pq_trimq]
theorem cqs_pq {X Y : List Rat} (h : pq X = pq Y) : cqs X = cqs Y := cqs_ext (pq_eq h)
theorem qpadd_g {p q : List RQ} {K : Nat} {X Y : List Rat} (hp : GQ (2 ^ 30) K p) (hq : GQ (2 ^ 30) K q) (hK : K ≤ 2 ^ 35) (hK1 : 1 ≤ K) (ex : pq (qvs p) = pq X) (ey : pq (qvs q) = pq Y) : AC Tryz.prog 71 [cqw p, cqw q] none [cqp (addq X Y), ci 0] := by
  have h := qpadd_ok p q K hp hq hK hK1
  rwa [show cqp (addq (qvs p) (qvs q)) = cqp (addq X Y) from congrArg cqw (cqs_pq (by rw [pq_addq, pq_addq, ex, ey]))] at h
theorem qpnorm_g {p : List RQ} {X : List Rat} (hp : GQ (2 ^ 40) (2 ^ 38) p) (ex : pq (qvs p) = pq X) : AC Tryz.prog 41 [cqw p] none [cqp X, ci 0] := by
  have h := qpnorm_ok p hp
  rwa [show cqp (qvs p) = cqp X from congrArg cqw (cqs_pq ex)] at h

end Go.Proofs.YtaepoooifkjbmaaGreat

namespace Go.Proofs.YtaepoooifkjbmaaGreat
open Go Go.Proofs Go.AL
set_option linter.unusedSimpArgs false
set_option linter.unusedVariables false

/-- The sum of p and c times r. -/
def fma (c : Rat) (a b : Rat) : Rat := a + c * b
end Go.Proofs.YtaepoooifkjbmaaGreat

namespace Go.Proofs.YtaepoooifkjbmaaGreat
open Go Go.Proofs Go.AL
set_option linter.unusedSimpArgs false
set_option linter.unusedVariables false

end Go.Proofs.YtaepoooifkjbmaaGreat

namespace Go.Proofs.YtaepoooifkjbmaaGreat
open Go Go.Proofs Go.AL
set_option linter.unusedSimpArgs false
set_option linter.unusedVariables false

/-! ### Division over the rationals -/
/-- c x^n. -/
def upq (c : Rat) (n : Nat) : List Rat := List.replicate n 0 ++ [c]
/-- The quotient of the leading coefficients. -/
def dc (A B : List Rat) : Rat := cfq A (A.length - 1) / cfq B (B.length - 1)
/-- One step of the division. -/
def dn1 (A B : List Rat) : List Rat := trimq (zipq (fma (-1)) A (mulq (upq (dc A B) (A.length - B.length)) B))
/-- What is left after k steps. -/
def dit (A B : List Rat) : Nat → List Rat
  | 0 => A
  | k + 1 => dn1 (dit A B k) B
theorem CD.cf {D n M : Nat} {q : List Rat} (h : CB D n M q) (k : Nat) : CD D M (cfq q k) := by
  by_cases hk : k < q.length
  · rw [cfq_lt hk]; exact h.c _ (List.getElem_mem hk)
  · rw [cfq_ge (by omega)]; exact CD.zero _ _
end Go.Proofs.YtaepoooifkjbmaaGreat

namespace Go.Proofs.YtaepoooifkjbmaaGreat
open Go Go.Proofs Go.AL
set_option linter.unusedSimpArgs false
set_option linter.unusedVariables false

/-! ### What has a common denominator is cleared by it -/
theorem CD.den_dvd {D M : Nat} {q : Rat} (hD : D ≠ 0) (h : CD D M q) : q.den ∣ D := by
  obtain ⟨z, e, hz⟩ := h
  have h1 := natr_ne hD
  have h2 := natr_ne q.den_nz
  have h3 : (q.num : Rat) / (q.den : Rat) = (z : Rat) / (D : Rat) := by
    rw [← e, ← Rat.mkRat_eq_div]; exact Rat.mkRat_self q
  have h4 : (q.num : Rat) * (D : Rat) = (z : Rat) * (q.den : Rat) := by grind
  have h5 : q.num * (D : Int) = z * (q.den : Int) := by
    rw [← Rat.intCast_natCast, ← Rat.intCast_natCast, ← Rat.intCast_mul, ← Rat.intCast_mul] at h4
    exact Rat.intCast_inj.mp h4
  have h6 : q.den ∣ q.num.natAbs * D := ⟨z.natAbs, by
    have := congrArg Int.natAbs h5
    rw [Int.natAbs_mul, Int.natAbs_mul, Int.natAbs_natCast, Int.natAbs_natCast] at this
    rw [this, Nat.mul_comm]⟩
  exact (q.reduced.symm).dvd_of_dvd_mul_left h6
/-- Products over one denominator: the product of both. -/
theorem qsum_cd {D M n : Nat} {f : Nat → Rat} (h : ∀ i, i < n → CD D M (f i)) : CD D (M + n) (qsum n f) := by
  induction n with
  | zero => exact CD.zero _ _
  | succ n ih =>
    have h1 := ih fun i hi => h i (by omega)
    have h2 := h n (by omega)
    exact (h1.add h2).mono (by omega)
theorem lcmL_dvd {D : Nat} : ∀ (l : List Nat) (i : Nat), (∀ x ∈ l, x ∣ D) → lcmL (l.take i) ∣ D
  | l, 0, _ => by rw [List.take_zero]; exact Nat.one_dvd _
  | l, i + 1, h => by
    by_cases hi : i < l.length
    · rw [lcmL_take hi]
      refine Nat.lcm_dvd (lcmL_dvd l i h) (h _ ?_)
      rw [List.getD, List.getElem?_eq_getElem hi, Option.getD_some]
      exact List.getElem_mem hi
    · rw [List.take_of_length_le (by omega), ← List.take_of_length_le (l := l) (i := i) (by omega)]
      exact lcmL_dvd l i h
theorem CB.dens_dvd {D n M : Nat} {A : List Rat} (h : CB D n M A) : ∀ x ∈ dens A, x ∣ D := fun x hx => by
  obtain ⟨c, hc, rfl⟩ := List.mem_map.1 hx
  exact (h.c c hc).den_dvd h.d
theorem CB.lcm_len {D n M : Nat} {A : List Rat} (h : CB D n M A) (i : Nat) : (wd (lcmL ((dens A).take i))).length ≤ M :=
  Nat.le_trans (wd_len_mono (Nat.le_of_dvd (Nat.pos_of_ne_zero h.d) (lcmL_dvd _ i h.dens_dvd))) h.w
theorem CB.cden_dvd {D n M : Nat} {A : List Rat} (h : CB D n M A) : cden A ∣ D := by
  have := lcmL_dvd (dens A) (dens A).length h.dens_dvd
  rwa [List.take_length] at this
theorem CB.cden_len {D n M : Nat} {A : List Rat} (h : CB D n M A) : (wd (cden A)).length ≤ M :=
  Nat.le_trans (wd_len_mono (Nat.le_of_dvd (Nat.pos_of_ne_zero h.d) h.cden_dvd)) h.w
/-- .. so what it is times that is no longer. -/
theorem CB.clr_pb {D n M : Nat} {A : List Rat} (h : CB D n M A) : PB n M (clr A) := .of (by rw [clr_len]; exact h.l) fun k => by
  obtain ⟨z, e, hz⟩ := CD.cf h k
  obtain ⟨t, ht⟩ := h.cden_dvd
  have ht0 : t ≠ 0 := fun e => h.d (by rw [ht, e, Nat.mul_zero])
  have h1 := natr_ne (cden_ne A)
  have h2 := natr_ne ht0
  have h3 := cf_clr A k
  rw [e, ht, Rat.natCast_mul] at h3
  have h4 : (cf (clr A) k : Rat) * (t : Rat) = (z : Rat) := by rw [h3]; grind
  have h5 : cf (clr A) k * (t : Int) = z := by
    rw [← Rat.intCast_natCast, ← Rat.intCast_mul] at h4
    exact Rat.intCast_inj.mp h4
  refine Nat.le_trans (wd_len_mono ?_) hz
  rw [← h5, Int.natAbs_mul, Int.natAbs_natCast]
  exact Nat.le_mul_of_pos_right _ (Nat.pos_of_ne_zero ht0)
theorem CB.mulq {D E n m M N : Nat} {A B : List Rat} (hA : CB D n M A) (hB : CB E m N B) : CB (D * E) (n + m) (M + N + (n + m)) (mulq A B) where
  d := Nat.mul_ne_zero hA.d hB.d
  w := by
    have h1 := AL.wd_mul_len D E
    have h2 := hA.w
    have h3 := hB.w
    omega
  l := by
    simp only [mulq_def, List.length_map, List.length_range]
    have := hA.l
    have := hB.l
    omega
  c := fun c hc => by
    obtain ⟨k, hk, rfl⟩ := List.getElem_of_mem hc
    have hl : k < n + m := by
      simp only [mulq_def, List.length_map, List.length_range] at hk
      have := hA.l
      have := hB.l
      omega
    rw [← cfq_lt hk, cfq_mulq, PQ.cvq_conv]
    exact (qsum_cd (n := k + 1) (f := fun i => cfq A i * cfq B (k - i)) fun i _ => CD.mul hA.d hB.d (CD.cf hA _) (CD.cf hB _)).mono (by omega)
end Go.Proofs.YtaepoooifkjbmaaGreat

namespace Go.Proofs.YtaepoooifkjbmaaGreat
open Go Go.Proofs Go.AL
set_option linter.unusedSimpArgs false
set_option linter.unusedVariables false

theorem rats_length (l : List RQ) : (rats l).length = l.length := by simp [rats]
end Go.Proofs.YtaepoooifkjbmaaGreat

namespace Go.Proofs.YtaepoooifkjbmaaGreat
open Go Go.Proofs Go.AL
set_option linter.unusedSimpArgs false
set_option linter.unusedVariables false

/-- What a division of A by B that ends after n steps is known by. -/
structure DV (A B : List Rat) (n K : Nat) : Prop where
  la : A.length ≤ 2 ^ 28
  lb : B.length ≤ 2 ^ 28
  h0 : B.length ≠ 0
  hb : cfq B (B.length - 1) ≠ 0
  ta : trimq A = A
  tb : trimq B = B
  en : (dit A B n).length < B.length
  hj : ∀ j, j < n → B.length ≤ (dit A B j).length
  za : ∀ k, k ≤ n → ∀ i, qz (cfq (dit A B k) i) ≤ K
  zb : ∀ i, qz (cfq B i) ≤ K
  k1 : 1 ≤ K
  k2 : K ≤ 2 ^ 32

def hrows : HC → Nat
  | .blk _ _ _ _ rows => rows.length
  | .none => 0
end Go.Proofs.YtaepoooifkjbmaaGreat

namespace Go.Proofs.YtaepoooifkjbmaaGreat
open Go Go.Proofs Go.AL
set_option linter.unusedSimpArgs false
set_option linter.unusedVariables false

theorem cvq_take_all {g : Nat → Rat} (A : List Rat) (k : Nat) : cvq (A.take (k + 1)) g k = cvq A g k := by
  have h : ∀ m, cvq (A.take (k + 1 + m)) g k = cvq (A.take (k + 1)) g k := fun m => by
    induction m with
    | zero => rfl
    | succ m ih => rw [← Nat.add_assoc, cvq_take_succ, ih, if_neg (by omega), Rat.add_zero]
  rw [← h A.length, List.take_of_length_le (by omega)]
theorem mulq_len (A B : List Rat) : (mulq A B).length = A.length + B.length := by simp [mulq]

end Go.Proofs.YtaepoooifkjbmaaGreat

namespace Go.Proofs.YtaepoooifkjbmaaGreat
open Go Go.Proofs Go.AL
set_option linter.unusedSimpArgs false
set_option linter.unusedVariables false

end Go.Proofs.YtaepoooifkjbmaaGreat

namespace Go.Proofs.YtaepoooifkjbmaaGreat
open Go Go.Proofs Go.AL
set_option linter.unusedSimpArgs false
set_option linter.unusedVariables false

/-! ### Powers by common denominators -/
theorem CB.one_list : CB 1 1 1 [1] where
  d := by omega
  w := by decide +kernel
  l := Nat.le_refl _
  c := fun c hc => by
    rcases List.mem_singleton.1 hc with rfl
    exact ⟨1, by decide +kernel, by decide +kernel⟩
theorem powq_cb {D n M c : Nat} {A : List Rat} (h : CB D n M A) : ∀ k, 1 + k * n ≤ c → ∃ E, CB E (1 + k * n) (1 + k * (M + n + c)) (powq A k)
  | 0, _ => ⟨1, by rw [Nat.zero_mul, Nat.zero_mul]; exact CB.one_list⟩
  | k + 1, hk => by
    have e1 : (k + 1) * n = k * n + n := Nat.succ_mul k n
    obtain ⟨E, hE⟩ := powq_cb (c := c) h k (by omega)
    refine ⟨D * E, ?_⟩
    rw [powq]
    have e2 : (k + 1) * (M + n + c) = k * (M + n + c) + (M + n + c) := Nat.succ_mul k _
    exact (h.mulq hE).mono (by omega) (by omega)
/-- Every power to the m-th has a common denominator of bounded length. -/
def PWH (A : List Rat) (m N K : Nat) : Prop := ∀ k, k ≤ m → ∃ D, CB D N K (powq A k)
/-- What a power is known by. -/
structure PWK (A : List Rat) (m N K : Nat) : Prop where
  h : ∀ k, k ≤ m → ∃ D, CB D N K (trimq (powq A k))
theorem PWH.k {A : List Rat} {m N K : Nat} (h : PWH A m N K) : PWK A m N K := ⟨fun k hk => by
  obtain ⟨D, hD⟩ := h k hk
  exact ⟨D, hD.trim⟩⟩
theorem PWK.mono {A : List Rat} {m N K N' K' : Nat} (h : PWK A m N K) (hN : N ≤ N') (hK : K ≤ K') : PWK A m N' K' := ⟨fun k hk => by
  obtain ⟨D, hD⟩ := h.h k hk
  exact ⟨D, hD.mono hN hK⟩⟩
theorem CB.part {D E n m M N : Nat} {A B : List Rat} (hA : CB D n M A) (hB : CB E m N B) (h1 : 1 ≤ M + N + (n + m)) (i k : Nat) : qz (cvq (A.take i) (cfq B) k) ≤ M + N + (n + m) := by
  have h := ((hA.sub (r := A.take i) (by rw [List.length_take]; have := hA.l; omega) fun c hc => List.mem_of_mem_take hc).mulq hB).qb.cz h1 k
  rwa [cfq_mulq] at h
end Go.Proofs.YtaepoooifkjbmaaGreat

namespace Go.Proofs.YtaepoooifkjbmaaGreat
open Go Go.Proofs Go.AL
set_option linter.unusedSimpArgs false
set_option linter.unusedVariables false

end Go.Proofs.YtaepoooifkjbmaaGreat

namespace Go.Proofs.YtaepoooifkjbmaaGreat
open Go Go.Proofs Go.AL
set_option linter.unusedSimpArgs false
set_option linter.unusedVariables false

/-! ### Products of x - r -/
def lineq (c : Rat) : List Rat := [-c, 1]
def froot (X : List Rat) (b : Nat) : Nat → List Rat
  | 0 => [1]
  | k + 1 => if k = b then froot X b k else mulq (froot X b k) (lineq (cfq X k))
/-! ### Sums over common denominators -/
theorem CB.addq {D E n m M N : Nat} {A B : List Rat} (hA : CB D n M A) (hB : CB E m N B) : CB (D * E) (max n m) (M + N + 1) (addq A B) where
  d := Nat.mul_ne_zero hA.d hB.d
  w := by
    have h1 := AL.wd_mul_len D E
    have h2 := hA.w
    have h3 := hB.w
    omega
  l := by
    simp only [Go.Proofs.YtaepoooifkjbmaaGreat.addq, List.length_map, List.length_range]
    have := hA.l
    have := hB.l
    omega
  c := fun c hc => by
    obtain ⟨k, hk, rfl⟩ := List.getElem_of_mem hc
    rw [← cfq_lt hk, cfq_addq]
    have h1 := CD.up hA.d hB.d hB.w (CD.cf hA k)
    have h2 := CD.up hB.d hA.d hA.w (CD.cf hB k)
    rw [Nat.mul_comm] at h2
    exact (h1.add h2).mono (by omega)
theorem CB.const {c : Rat} {K : Nat} (h : qz c ≤ K) : CB c.den 1 K [c] where
  d := c.den_nz
  w := Nat.le_trans (qz_parts c).2 h
  l := Nat.le_refl _
  c := fun x hx => by
    rcases List.mem_singleton.1 hx with rfl
    exact (CD.ofRat x).mono (Nat.le_trans (qz_parts x).1 h)

/-! ### Newton's sum -/
def newc (X Y S : List Rat) (k : Nat) : Rat := (cfq Y k - evq S (cfq X k)) / evq (froot X X.length k) (cfq X k)
def news (X Y : List Rat) : Nat → List Rat
  | 0 => []
  | k + 1 => addq (news X Y k) (sclq (newc X Y (news X Y k) k) (froot X X.length k))
end Go.Proofs.YtaepoooifkjbmaaGreat

namespace Go.Proofs.YtaepoooifkjbmaaGreat
open Go Go.Proofs Go.AL
set_option linter.unusedSimpArgs false
set_option linter.unusedVariables false

theorem tz_take_snoc (q : List Int) {i : Nat} (h : i < q.length) : tz (q.take (i + 1)) = if cf q i ≠ 0 then i + 1 else tz (q.take i) := by
  by_cases hz : cf q i = 0
  · rw [if_neg (by simpa using hz)]; exact tz_take_zero h hz
  · rw [if_pos hz]; exact tz_full h hz

theorem tN_ok (p : List RI) (h : RP (2 ^ 40) (2 ^ 40) p) : AC Tryz.prog 36 [cw p] none [cp (pv p)] := by
  refine AC.by_walk (rs := [.tmp 2]) ords Tryz.func36 (by rfl) (by rfl) (by rfl) (by rfl) (by rfl) ?_
  have hl := h.1
  have hpl := pv_len p
  simp (disch := omega) only [wk, tis, Int.reduceNe, Int.reduceEq, Int.reduceLT, Int.reduceLE, Int.reduceAdd, Int.reduceSub, Int.reduceNeg, Int.reduceMul, Int.reduceToNat, Nat.reduceSub, Nat.reduceMul, Nat.reduceLeDiff, Nat.reduceAdd, Nat.reduceLT, Nat.reduceEqDiff, reduceCtorEq, ↓reduceIte]
  refine aloop_by (fun f H => ∃ (i st : Nat), i ≤ p.length ∧ f 5 = .iv (.int .i64 i) ∧ f 4 = .iv (.int .i64 (tz ((pv p).take i))) ∧ f 0 = .iv (.sl (raws p)) ∧ f 3 = .hs 7 st ∧ H 7 = .blk false st 27 2 (raws (((pv p).take i).map canon))) (fun f H => (p.length - intAt f 5).toNat) ?_ ?_
  · refine ⟨0, 1, by omega, ?_⟩
    simp (disch := omega) only [wk, tis, Int.reduceNe, Int.reduceEq, Int.reduceLT, Int.reduceLE, Int.reduceAdd, Int.reduceSub, Int.reduceNeg, Int.reduceMul, Int.reduceToNat, Nat.reduceSub, Nat.reduceMul, Nat.reduceLeDiff, Nat.reduceAdd, Nat.reduceLT, Nat.reduceEqDiff, reduceCtorEq, ↓reduceIte, List.take_zero, show tz [] = 0 from rfl]
  rintro f H ⟨i, st, hi, hF⟩
  rw [intAt_of hF.1]
  simp (disch := omega) only [wk, tis, Int.reduceNe, Int.reduceEq, Int.reduceLT, Int.reduceLE, Int.reduceAdd, Int.reduceSub, Int.reduceNeg, Int.reduceMul, Int.reduceToNat, Nat.reduceSub, Nat.reduceMul, Nat.reduceLeDiff, Nat.reduceAdd, Nat.reduceLT, Nat.reduceEqDiff, reduceCtorEq, ↓reduceIte, hF]
  refine if_by (fun hlt => ?_) (fun hlt => ?_)
  · have hq : (((pv p).take i).map canon).length = i := by rw [List.length_map, List.length_take]; omega
    simp (disch := omega) only [wk, tis, Int.reduceNe, Int.reduceEq, Int.reduceLT, Int.reduceLE, Int.reduceAdd, Int.reduceSub, Int.reduceNeg, Int.reduceMul, Int.reduceToNat, Nat.reduceSub, Nat.reduceMul, Nat.reduceLeDiff, Nat.reduceAdd, Nat.reduceLT, Nat.reduceEqDiff, reduceCtorEq, ↓reduceIte, hF, hq]
    refine ⟨tmps_by (by kernel_rfl), ?_⟩
    have m := rI_ok (p.getD i (false, [])).1 (p.getD i (false, [])).2 (h.get i).2 (h.get i).1
    have ev : sg (p.getD i (false, [])).1 (nv (p.getD i (false, [])).2) = cf (pv p) i := by rw [cf_pv]; rfl
    rw [ev] at m
    have hcz := h.pv.cf i
    refine call_by (m) (by first | rfl | (simp only [tocvs, tocv, hF, hq]; rfl) | (simp only [tocvs, tocv, toboxes, tobox, updH_at, Nat.reduceEqDiff, ↓reduceIte, hF, hq]; rfl)) (by simp) ?_
    simp (disch := omega) only [wk, tis, Int.reduceNe, Int.reduceEq, Int.reduceLT, Int.reduceLE, Int.reduceAdd, Int.reduceSub, Int.reduceNeg, Int.reduceMul, Int.reduceToNat, Nat.reduceSub, Nat.reduceMul, Nat.reduceLeDiff, Nat.reduceAdd, Nat.reduceLT, Nat.reduceEqDiff, reduceCtorEq, ↓reduceIte, hF, hq]
    first | exact log_by (by kernel_rfl) | refine ⟨log_by (by kernel_rfl), ?_⟩
    have q := rSign_ok (canon (cf (pv p) i)) ((sz_canon _).mono (by omega))
    rw [iv_canon] at q
    refine call_by (q) (by first | rfl | (simp only [tocvs, tocv, hF, hq]; rfl) | (simp only [tocvs, tocv, toboxes, tobox, updH_at, Nat.reduceEqDiff, ↓reduceIte, hF, hq]; rfl)) (by simp) ?_
    simp (disch := omega) only [wk, tis, Int.reduceNe, Int.reduceEq, Int.reduceLT, Int.reduceLE, Int.reduceAdd, Int.reduceSub, Int.reduceNeg, Int.reduceMul, Int.reduceToNat, Nat.reduceSub, Nat.reduceMul, Nat.reduceLeDiff, Nat.reduceAdd, Nat.reduceLT, Nat.reduceEqDiff, reduceCtorEq, ↓reduceIte, hF, hq]
    have et := tz_take_snoc (pv p) (i := i) (by omega)
    have e : (pv p).take (i + 1) = (pv p).take i ++ [cf (pv p) i] := by
      rw [List.take_add_one]
      congr 1
      simp [cf, List.getD, show i < (pv p).length by omega]
    refine if_by (fun hs => ?_) (fun hs => ?_)
    · have hz : cf (pv p) i ≠ 0 := fun e => hs (by rw [e]; rfl)
      rw [if_pos hz] at et
      simp (disch := omega) only [wk, tis, Int.reduceNe, Int.reduceEq, Int.reduceLT, Int.reduceLE, Int.reduceAdd, Int.reduceSub, Int.reduceNeg, Int.reduceMul, Int.reduceToNat, Nat.reduceSub, Nat.reduceMul, Nat.reduceLeDiff, Nat.reduceAdd, Nat.reduceLT, Nat.reduceEqDiff, reduceCtorEq, ↓reduceIte, hF, hq]
      refine ⟨⟨i + 1, st + 1, by omega, by omega, by rw [et]; omega, ?_⟩, by omega⟩
      rw [e]
      exact ⟨rfl, rfl⟩
    · have hz : ¬ cf (pv p) i ≠ 0 := fun e => hs (fun h => e (Int.sign_eq_zero_iff_zero.mp h))
      rw [if_neg hz] at et
      simp (disch := omega) only [wk, tis, Int.reduceNe, Int.reduceEq, Int.reduceLT, Int.reduceLE, Int.reduceAdd, Int.reduceSub, Int.reduceNeg, Int.reduceMul, Int.reduceToNat, Nat.reduceSub, Nat.reduceMul, Nat.reduceLeDiff, Nat.reduceAdd, Nat.reduceLT, Nat.reduceEqDiff, reduceCtorEq, ↓reduceIte, hF, hq]
      refine ⟨⟨i + 1, st + 1, by omega, by omega, by rw [et], ?_⟩, by omega⟩
      rw [e]
      exact ⟨rfl, rfl⟩
  · simp (disch := omega) only [wk, tis, Int.reduceNe, Int.reduceEq, Int.reduceLT, Int.reduceLE, Int.reduceAdd, Int.reduceSub, Int.reduceNeg, Int.reduceMul, Int.reduceToNat, Nat.reduceSub, Nat.reduceMul, Nat.reduceLeDiff, Nat.reduceAdd, Nat.reduceLT, Nat.reduceEqDiff, reduceCtorEq, ↓reduceIte, hF]
    have hq : (((pv p).take i).map canon).length = p.length := by rw [List.length_map, List.length_take]; omega
    have htl : tz ((pv p).take i) ≤ p.length := by have := tz_le ((pv p).take i); rw [List.length_take] at this; omega
    simp (disch := omega) only [wk, tis, Int.reduceNe, Int.reduceEq, Int.reduceLT, Int.reduceLE, Int.reduceAdd, Int.reduceSub, Int.reduceNeg, Int.reduceMul, Int.reduceToNat, Nat.reduceSub, Nat.reduceMul, Nat.reduceLeDiff, Nat.reduceAdd, Nat.reduceLT, Nat.reduceEqDiff, reduceCtorEq, ↓reduceIte, hF, hq]
    refine ⟨htl, ?_⟩
    rw [List.take_of_length_le (i := i) (by omega), ← List.map_take]
    rfl

theorem tP_ok (l : List Int) (hl : l.length ≤ 2 ^ 30) (h : ∀ z ∈ l, -9223372036854775808 < z ∧ z < 9223372036854775808) : AC Tryz.prog 20 [cis l] none [cp l] := by
  refine AC.by_walk (rs := [.tmp 2]) ords Tryz.func20 (by rfl) (by rfl) (by rfl) (by rfl) (by rfl) ?_
  simp (disch := omega) only [wk, tis, Int.reduceNe, Int.reduceEq, Int.reduceLT, Int.reduceLE, Int.reduceAdd, Int.reduceSub, Int.reduceNeg, Int.reduceMul, Int.reduceToNat, Nat.reduceSub, Nat.reduceMul, Nat.reduceLeDiff, Nat.reduceAdd, Nat.reduceLT, Nat.reduceEqDiff, reduceCtorEq, ↓reduceIte]
  refine aloop_nil 3 3 27 2 (by simp (disch := omega) only [wk, tis, Int.reduceNe, Int.reduceEq, Int.reduceLT, Int.reduceLE, Int.reduceAdd, Int.reduceSub, Int.reduceNeg, Int.reduceMul, Int.reduceToNat, Nat.reduceSub, Nat.reduceMul, Nat.reduceLeDiff, Nat.reduceAdd, Nat.reduceLT, Nat.reduceEqDiff, reduceCtorEq, ↓reduceIte]) (fun f H => ∃ (k st : Nat), k ≤ l.length ∧ f 0 = .iv (.sl (ilims l)) ∧ f 3 = .hs 3 st ∧ f 4 = .iv (.int .i64 k) ∧ H 3 = .blk false st 27 2 (raws ((l.take k).map canon))) (fun f H => (l.length - intAt f 4).toNat) ?_ ?_
  · refine ⟨0, 1, by omega, ?_⟩
    simp (disch := omega) only [wk, tis, Int.reduceNe, Int.reduceEq, Int.reduceLT, Int.reduceLE, Int.reduceAdd, Int.reduceSub, Int.reduceNeg, Int.reduceMul, Int.reduceToNat, Nat.reduceSub, Nat.reduceMul, Nat.reduceLeDiff, Nat.reduceAdd, Nat.reduceLT, Nat.reduceEqDiff, reduceCtorEq, ↓reduceIte, ghostF, ghostH, List.take_zero]
  rintro f H ⟨k, st, hk, h0, h3, h4, hH⟩
  rw [intAt_of h4]
  simp (disch := omega) only [wk, tis, Int.reduceNe, Int.reduceEq, Int.reduceLT, Int.reduceLE, Int.reduceAdd, Int.reduceSub, Int.reduceNeg, Int.reduceMul, Int.reduceToNat, Nat.reduceSub, Nat.reduceMul, Nat.reduceLeDiff, Nat.reduceAdd, Nat.reduceLT, Nat.reduceEqDiff, reduceCtorEq, ↓reduceIte, h0, h3, h4, hH]
  refine if_by (fun hlt => ?_) (fun hlt => ?_)
  · have hq : ((l.take k).map canon).length = k := by rw [List.length_map, List.length_take]; omega
    have hkl : k < l.length := by omega
    have hg : l.getD k 0 = l[k] := by simp [List.getD, hkl]
    have hb := h l[k] (List.getElem_mem hkl)
    simp (disch := omega) only [wk, tis, Int.reduceNe, Int.reduceEq, Int.reduceLT, Int.reduceLE, Int.reduceAdd, Int.reduceSub, Int.reduceNeg, Int.reduceMul, Int.reduceToNat, Nat.reduceSub, Nat.reduceMul, Nat.reduceLeDiff, Nat.reduceAdd, Nat.reduceLT, Nat.reduceEqDiff, reduceCtorEq, ↓reduceIte, h0, h3, h4, hH, hq]
    rw [hg]
    refine call_by ((rZ_ok l[k] hb.1 hb.2)) (by first | rfl | (simp only [tocvs, tocv, h0, h3, h4, hH, hq]; rfl) | (simp only [tocvs, tocv, toboxes, tobox, updH_at, Nat.reduceEqDiff, ↓reduceIte, h0, h3, h4, hH, hq]; rfl)) (by simp) ?_
    simp (disch := omega) only [wk, tis, Int.reduceNe, Int.reduceEq, Int.reduceLT, Int.reduceLE, Int.reduceAdd, Int.reduceSub, Int.reduceNeg, Int.reduceMul, Int.reduceToNat, Nat.reduceSub, Nat.reduceMul, Nat.reduceLeDiff, Nat.reduceAdd, Nat.reduceLT, Nat.reduceEqDiff, reduceCtorEq, ↓reduceIte, h0, h3, h4, hH, hq]
    refine ⟨⟨k + 1, st + 1, by omega, rfl, by omega, ?_⟩, by omega⟩
    rw [List.take_add_one]
    simp [hkl]
  · simp (disch := omega) only [wk, tis, Int.reduceNe, Int.reduceEq, Int.reduceLT, Int.reduceLE, Int.reduceAdd, Int.reduceSub, Int.reduceNeg, Int.reduceMul, Int.reduceToNat, Nat.reduceSub, Nat.reduceMul, Nat.reduceLeDiff, Nat.reduceAdd, Nat.reduceLT, Nat.reduceEqDiff, reduceCtorEq, ↓reduceIte, h0, h3, h4, hH]
    have hk : k = l.length := by omega
    have hz : ∀ z : Int, -9223372036854775808 < z → z < 9223372036854775808 → zl z ≤ 1 := fun z h1 h2 => zl_le.mpr (by simp only [W]; omega)
    have := tN_ok (l.map canon) (RP.canon ⟨by omega, fun z hz' => Nat.le_trans (hz z (h z hz').1 (h z hz').2) (by omega)⟩)
    rw [pv_canon] at this
    rw [hk, List.take_length] at hH
    refine call_by (this) (by first | rfl | (simp only [tocvs, tocv, h0, h3, h4, hH]; rfl) | (simp only [tocvs, tocv, toboxes, tobox, updH_at, Nat.reduceEqDiff, ↓reduceIte, h0, h3, h4, hH]; rfl)) (by simp) ?_
    simp (disch := omega) only [wk, tis, Int.reduceNe, Int.reduceEq, Int.reduceLT, Int.reduceLE, Int.reduceAdd, Int.reduceSub, Int.reduceNeg, Int.reduceMul, Int.reduceToNat, Nat.reduceSub, Nat.reduceMul, Nat.reduceLeDiff, Nat.reduceAdd, Nat.reduceLT, Nat.reduceEqDiff, reduceCtorEq, ↓reduceIte, h0, h3, h4, hH]

theorem tSame_ok (a b : List RI) (ha : RP (2 ^ 40) (2 ^ 43) a) (hb : RP (2 ^ 40) (2 ^ 43) b) : AC Tryz.prog 6 [cw a, cw b] none [cb (decide (a = b))] := by
  refine AC.by_walk (rs := [.tmp 4]) ords Tryz.func6 (by rfl) (by rfl) (by rfl) (by rfl) (by rfl) ?_
  have hla := ha.1
  have hlb := hb.1
  simp (disch := omega) only [wk, tis, Int.reduceNe, Int.reduceEq, Int.reduceLT, Int.reduceLE, Int.reduceAdd, Int.reduceSub, Int.reduceNeg, Int.reduceMul, Int.reduceToNat, Nat.reduceSub, Nat.reduceMul, Nat.reduceLeDiff, Nat.reduceAdd, Nat.reduceLT, Nat.reduceEqDiff, reduceCtorEq, ↓reduceIte]
  refine if_by (fun hz => ?_) (fun hz => ?_)
  · simp (disch := omega) only [wk, tis, Int.reduceNe, Int.reduceEq, Int.reduceLT, Int.reduceLE, Int.reduceAdd, Int.reduceSub, Int.reduceNeg, Int.reduceMul, Int.reduceToNat, Nat.reduceSub, Nat.reduceMul, Nat.reduceLeDiff, Nat.reduceAdd, Nat.reduceLT, Nat.reduceEqDiff, reduceCtorEq, ↓reduceIte]
    exact (decide_eq_false (fun e => hz (by rw [e]))).symm
  have hl : a.length = b.length := by omega
  simp (disch := omega) only [wk, tis, Int.reduceNe, Int.reduceEq, Int.reduceLT, Int.reduceLE, Int.reduceAdd, Int.reduceSub, Int.reduceNeg, Int.reduceMul, Int.reduceToNat, Nat.reduceSub, Nat.reduceMul, Nat.reduceLeDiff, Nat.reduceAdd, Nat.reduceLT, Nat.reduceEqDiff, reduceCtorEq, ↓reduceIte]
  refine aloop_by (fun f H => ∃ i : Nat, i ≤ a.length ∧ a.take i = b.take i ∧ f 0 = .iv (.sl (raws a)) ∧ f 1 = .iv (.sl (raws b)) ∧ f 5 = .iv (.int .i64 i)) (fun f H => (a.length - intAt f 5).toNat) ?_ ?_
  · exact ⟨0, by omega, rfl, by simp (disch := omega) only [wk, tis, Int.reduceNe, Int.reduceEq, Int.reduceLT, Int.reduceLE, Int.reduceAdd, Int.reduceSub, Int.reduceNeg, Int.reduceMul, Int.reduceToNat, Nat.reduceSub, Nat.reduceMul, Nat.reduceLeDiff, Nat.reduceAdd, Nat.reduceLT, Nat.reduceEqDiff, reduceCtorEq, ↓reduceIte], by simp (disch := omega) only [wk, tis, Int.reduceNe, Int.reduceEq, Int.reduceLT, Int.reduceLE, Int.reduceAdd, Int.reduceSub, Int.reduceNeg, Int.reduceMul, Int.reduceToNat, Nat.reduceSub, Nat.reduceMul, Nat.reduceLeDiff, Nat.reduceAdd, Nat.reduceLT, Nat.reduceEqDiff, reduceCtorEq, ↓reduceIte], by simp (disch := omega) only [wk, tis, Int.reduceNe, Int.reduceEq, Int.reduceLT, Int.reduceLE, Int.reduceAdd, Int.reduceSub, Int.reduceNeg, Int.reduceMul, Int.reduceToNat, Nat.reduceSub, Nat.reduceMul, Nat.reduceLeDiff, Nat.reduceAdd, Nat.reduceLT, Nat.reduceEqDiff, reduceCtorEq, ↓reduceIte]⟩
  rintro f H ⟨i, hi, he, h0, h1, h5⟩
  rw [intAt_of h5]
  simp (disch := omega) only [wk, tis, Int.reduceNe, Int.reduceEq, Int.reduceLT, Int.reduceLE, Int.reduceAdd, Int.reduceSub, Int.reduceNeg, Int.reduceMul, Int.reduceToNat, Nat.reduceSub, Nat.reduceMul, Nat.reduceLeDiff, Nat.reduceAdd, Nat.reduceLT, Nat.reduceEqDiff, reduceCtorEq, ↓reduceIte, h0, h1, h5]
  refine if_by (fun hlt => ?_) (fun hlt => ?_)
  · simp (disch := omega) only [wk, tis, Int.reduceNe, Int.reduceEq, Int.reduceLT, Int.reduceLE, Int.reduceAdd, Int.reduceSub, Int.reduceNeg, Int.reduceMul, Int.reduceToNat, Nat.reduceSub, Nat.reduceMul, Nat.reduceLeDiff, Nat.reduceAdd, Nat.reduceLT, Nat.reduceEqDiff, reduceCtorEq, ↓reduceIte, h0, h1, h5]
    refine ⟨tmps_by (by kernel_rfl), ?_⟩
    refine call_by ((rSameInt_ok (a.getD i (false, [])) (b.getD i (false, [])) (ha.get i).1 (hb.get i).1)) (by first | rfl | (simp only [tocvs, tocv, h0, h1, h5]; rfl) | (simp only [tocvs, tocv, toboxes, tobox, updH_at, Nat.reduceEqDiff, ↓reduceIte, h0, h1, h5]; rfl)) (by simp) ?_
    simp (disch := omega) only [wk, tis, Int.reduceNe, Int.reduceEq, Int.reduceLT, Int.reduceLE, Int.reduceAdd, Int.reduceSub, Int.reduceNeg, Int.reduceMul, Int.reduceToNat, Nat.reduceSub, Nat.reduceMul, Nat.reduceLeDiff, Nat.reduceAdd, Nat.reduceLT, Nat.reduceEqDiff, reduceCtorEq, ↓reduceIte, h0, h1, h5]
    first | exact log_by (by kernel_rfl) | refine ⟨log_by (by kernel_rfl), ?_⟩
    by_cases hne : a.getD i (false, []) = b.getD i (false, [])
    · simp (disch := omega) only [wk, tis, Int.reduceNe, Int.reduceEq, Int.reduceLT, Int.reduceLE, Int.reduceAdd, Int.reduceSub, Int.reduceNeg, Int.reduceMul, Int.reduceToNat, Nat.reduceSub, Nat.reduceMul, Nat.reduceLeDiff, Nat.reduceAdd, Nat.reduceLT, Nat.reduceEqDiff, reduceCtorEq, ↓reduceIte, h0, h1, h5, hne, Bool.not_true]
      refine ⟨⟨i + 1, by omega, ?_, by omega⟩, by omega⟩
      have hia : i < a.length := by omega
      have hib : i < b.length := by omega
      rw [List.take_add_one, List.take_add_one, he, List.getElem?_eq_getElem hia, List.getElem?_eq_getElem hib]
      have e1 : a.getD i (false, []) = a[i] := by simp [List.getD, hia]
      have e2 : b.getD i (false, []) = b[i] := by simp [List.getD, hib]
      rw [← e1, ← e2, hne]
    · simp (disch := omega) only [wk, tis, Int.reduceNe, Int.reduceEq, Int.reduceLT, Int.reduceLE, Int.reduceAdd, Int.reduceSub, Int.reduceNeg, Int.reduceMul, Int.reduceToNat, Nat.reduceSub, Nat.reduceMul, Nat.reduceLeDiff, Nat.reduceAdd, Nat.reduceLT, Nat.reduceEqDiff, reduceCtorEq, ↓reduceIte, h0, h1, h5, hne, Bool.not_false]
      exact (decide_eq_false (fun e => hne (by rw [e]))).symm
  · simp (disch := omega) only [wk, tis, Int.reduceNe, Int.reduceEq, Int.reduceLT, Int.reduceLE, Int.reduceAdd, Int.reduceSub, Int.reduceNeg, Int.reduceMul, Int.reduceToNat, Nat.reduceSub, Nat.reduceMul, Nat.reduceLeDiff, Nat.reduceAdd, Nat.reduceLT, Nat.reduceEqDiff, reduceCtorEq, ↓reduceIte, h0, h1, h5]
    rw [List.take_of_length_le (by omega), List.take_of_length_le (by omega)] at he
    exact (decide_eq_true he).symm

theorem rcopy_ok (c : RI) (h : c.2.length ≤ 2 ^ 40) : AC Tryz.prog 38 [cr c] none [cr c] := by
  refine AC.by_walk (rs := [.cell 2 27]) ords Tryz.func38 (by rfl) (by rfl) (by rfl) (by rfl) (by rfl) ?_
  simp (disch := omega) only [wk, tis, Int.reduceNe, Int.reduceEq, Int.reduceLT, Int.reduceLE, Int.reduceAdd, Int.reduceSub, Int.reduceNeg, Int.reduceMul, Int.reduceToNat, Nat.reduceSub, Nat.reduceMul, Nat.reduceLeDiff, Nat.reduceAdd, Nat.reduceLT, Nat.reduceEqDiff, reduceCtorEq, ↓reduceIte]
  refine ⟨tmps_by (by kernel_rfl), ?_⟩
  first | exact log_by (by kernel_rfl) | refine ⟨log_by (by kernel_rfl), ?_⟩
  rfl

theorem tcopy_ok (p : List RI) (h : RP (2 ^ 40) (2 ^ 40) p) : AC Tryz.prog 34 [cw p] none [cw p] := by
  refine AC.by_walk (rs := [.tmp 2]) ords Tryz.func34 (by rfl) (by rfl) (by rfl) (by rfl) (by rfl) ?_
  have hl := h.1
  simp (disch := omega) only [wk, tis, Int.reduceNe, Int.reduceEq, Int.reduceLT, Int.reduceLE, Int.reduceAdd, Int.reduceSub, Int.reduceNeg, Int.reduceMul, Int.reduceToNat, Nat.reduceSub, Nat.reduceMul, Nat.reduceLeDiff, Nat.reduceAdd, Nat.reduceLT, Nat.reduceEqDiff, reduceCtorEq, ↓reduceIte]
  refine aloop_nil 3 3 27 2 (by simp (disch := omega) only [wk, tis, Int.reduceNe, Int.reduceEq, Int.reduceLT, Int.reduceLE, Int.reduceAdd, Int.reduceSub, Int.reduceNeg, Int.reduceMul, Int.reduceToNat, Nat.reduceSub, Nat.reduceMul, Nat.reduceLeDiff, Nat.reduceAdd, Nat.reduceLT, Nat.reduceEqDiff, reduceCtorEq, ↓reduceIte]) (fun f H => ∃ (i st : Nat), i ≤ p.length ∧ f 4 = .iv (.int .i64 i) ∧ f 0 = .iv (.sl (raws p)) ∧ f 3 = .hs 3 st ∧ H 3 = .blk false st 27 2 (raws (p.take i))) (fun f H => (p.length - intAt f 4).toNat) ?_ ?_
  · refine ⟨0, 1, by omega, ?_⟩
    simp (disch := omega) only [wk, tis, Int.reduceNe, Int.reduceEq, Int.reduceLT, Int.reduceLE, Int.reduceAdd, Int.reduceSub, Int.reduceNeg, Int.reduceMul, Int.reduceToNat, Nat.reduceSub, Nat.reduceMul, Nat.reduceLeDiff, Nat.reduceAdd, Nat.reduceLT, Nat.reduceEqDiff, reduceCtorEq, ↓reduceIte, ghostF, ghostH, List.take_zero]
  rintro f H ⟨i, st, hi, hF⟩
  rw [intAt_of hF.1]
  simp (disch := omega) only [wk, tis, Int.reduceNe, Int.reduceEq, Int.reduceLT, Int.reduceLE, Int.reduceAdd, Int.reduceSub, Int.reduceNeg, Int.reduceMul, Int.reduceToNat, Nat.reduceSub, Nat.reduceMul, Nat.reduceLeDiff, Nat.reduceAdd, Nat.reduceLT, Nat.reduceEqDiff, reduceCtorEq, ↓reduceIte, hF]
  refine if_by (fun hlt => ?_) (fun hlt => ?_)
  · have hq : (p.take i).length = i := by rw [List.length_take]; omega
    simp (disch := omega) only [wk, tis, Int.reduceNe, Int.reduceEq, Int.reduceLT, Int.reduceLE, Int.reduceAdd, Int.reduceSub, Int.reduceNeg, Int.reduceMul, Int.reduceToNat, Nat.reduceSub, Nat.reduceMul, Nat.reduceLeDiff, Nat.reduceAdd, Nat.reduceLT, Nat.reduceEqDiff, reduceCtorEq, ↓reduceIte, hF, hq]
    refine call_by ((rcopy_ok (p.getD i (false, [])) (h.get i).1)) (by first | rfl | (simp only [tocvs, tocv, hF, hq]; rfl) | (simp only [tocvs, tocv, toboxes, tobox, updH_at, Nat.reduceEqDiff, ↓reduceIte, hF, hq]; rfl)) (by simp) ?_
    simp (disch := omega) only [wk, tis, Int.reduceNe, Int.reduceEq, Int.reduceLT, Int.reduceLE, Int.reduceAdd, Int.reduceSub, Int.reduceNeg, Int.reduceMul, Int.reduceToNat, Nat.reduceSub, Nat.reduceMul, Nat.reduceLeDiff, Nat.reduceAdd, Nat.reduceLT, Nat.reduceEqDiff, reduceCtorEq, ↓reduceIte, hF, hq]
    have hip : i < p.length := by omega
    refine ⟨⟨i + 1, st + 1, by omega, by omega, rfl, ?_⟩, by omega⟩
    rw [List.take_add_one]
    simp [hip, List.getD]
  · simp (disch := omega) only [wk, tis, Int.reduceNe, Int.reduceEq, Int.reduceLT, Int.reduceLE, Int.reduceAdd, Int.reduceSub, Int.reduceNeg, Int.reduceMul, Int.reduceToNat, Nat.reduceSub, Nat.reduceMul, Nat.reduceLeDiff, Nat.reduceAdd, Nat.reduceLT, Nat.reduceEqDiff, reduceCtorEq, ↓reduceIte, hF]
    rw [List.take_of_length_le (by omega)]
end Go.Proofs.YtaepoooifkjbmaaGreat

namespace Go.Proofs.YtaepoooifkjbmaaGreat
open Go Go.Proofs Go.AL
set_option linter.unusedSimpArgs false
set_option linter.unusedVariables false

/-! ### The document's polynomials over the rationals, chapter 11 -/
theorem copyrat_ok (a : RQ) (ha : SzQ (2 ^ 40) a) : AC Tryz.prog 12 [cqq a] none [cqq a] := by
  have c := rcopy_ok a.1 ha.1.1
  have hl := ha.2.1
  refine AC.by_walk (rs := [.cell 2 33]) ords Tryz.func12 (by rfl) (by rfl) (by rfl) (by rfl) (by rfl) ?_
  simp (disch := omega) only [wk, tis, Int.reduceNe, Int.reduceEq, Int.reduceLT, Int.reduceLE, Int.reduceAdd, Int.reduceSub, Int.reduceNeg, Int.reduceMul, Int.reduceToNat, Nat.reduceSub, Nat.reduceMul, Nat.reduceLeDiff, Nat.reduceAdd, Nat.reduceLT, Nat.reduceEqDiff, reduceCtorEq, ↓reduceIte, rqs]
  refine ⟨tmps_by (by kernel_rfl), ?_⟩
  refine call_by (c) (by rfl) (by simp) ?_
  simp (disch := omega) only [wk, tis, Int.reduceNe, Int.reduceEq, Int.reduceLT, Int.reduceLE, Int.reduceAdd, Int.reduceSub, Int.reduceNeg, Int.reduceMul, Int.reduceToNat, Nat.reduceSub, Nat.reduceMul, Nat.reduceLeDiff, Nat.reduceAdd, Nat.reduceLT, Nat.reduceEqDiff, reduceCtorEq, ↓reduceIte, rqs]
  first | exact log_by (by kernel_rfl) | refine ⟨log_by (by kernel_rfl), ?_⟩
  try rfl
theorem take_snocq (p : List RQ) {i : Nat} (h : i < p.length) : p.take (i + 1) = p.take i ++ [p.getD i q0] := by
  rw [List.take_add_one]
  simp [h, List.getD]
theorem copyq_ok (p : List RQ) (h : BQ (2 ^ 40) (2 ^ 40) p) : AC Tryz.prog 11 [cqw p] none [cqw p] := by
  refine AC.by_walk (rs := [.tmp 2]) ords Tryz.func11 (by rfl) (by rfl) (by rfl) (by rfl) (by rfl) ?_
  have hl := h.1
  simp (disch := omega) only [wk, tis, Int.reduceNe, Int.reduceEq, Int.reduceLT, Int.reduceLE, Int.reduceAdd, Int.reduceSub, Int.reduceNeg, Int.reduceMul, Int.reduceToNat, Nat.reduceSub, Nat.reduceMul, Nat.reduceLeDiff, Nat.reduceAdd, Nat.reduceLT, Nat.reduceEqDiff, reduceCtorEq, ↓reduceIte, rqs]
  refine aloop_nil 3 3 33 3 (by simp (disch := omega) only [wk, tis, Int.reduceNe, Int.reduceEq, Int.reduceLT, Int.reduceLE, Int.reduceAdd, Int.reduceSub, Int.reduceNeg, Int.reduceMul, Int.reduceToNat, Nat.reduceSub, Nat.reduceMul, Nat.reduceLeDiff, Nat.reduceAdd, Nat.reduceLT, Nat.reduceEqDiff, reduceCtorEq, ↓reduceIte, rqs]) (fun f H => ∃ (i st : Nat), i ≤ p.length ∧ f 4 = .iv (.int .i64 i) ∧ f 0 = .iv (.sl (rats p)) ∧ f 3 = .hs 3 st ∧ H 3 = .blk false st 33 3 (rats (p.take i))) (fun f H => (p.length - intAt f 4).toNat) ?_ ?_
  · refine ⟨0, 1, by omega, ?_⟩
    simp (disch := omega) only [wk, tis, Int.reduceNe, Int.reduceEq, Int.reduceLT, Int.reduceLE, Int.reduceAdd, Int.reduceSub, Int.reduceNeg, Int.reduceMul, Int.reduceToNat, Nat.reduceSub, Nat.reduceMul, Nat.reduceLeDiff, Nat.reduceAdd, Nat.reduceLT, Nat.reduceEqDiff, reduceCtorEq, ↓reduceIte, rqs, ghostF, ghostH, List.take_zero]
  rintro f H ⟨i, st, hi, hF⟩
  rw [intAt_of hF.1]
  simp (disch := omega) only [wk, tis, Int.reduceNe, Int.reduceEq, Int.reduceLT, Int.reduceLE, Int.reduceAdd, Int.reduceSub, Int.reduceNeg, Int.reduceMul, Int.reduceToNat, Nat.reduceSub, Nat.reduceMul, Nat.reduceLeDiff, Nat.reduceAdd, Nat.reduceLT, Nat.reduceEqDiff, reduceCtorEq, ↓reduceIte, rqs, hF]
  refine if_by (fun hlt => ?_) (fun hlt => ?_)
  · have hq : (p.take i).length = i := by rw [List.length_take]; omega
    have hip : i < p.length := by omega
    have et := take_snocq p hip
    simp (disch := omega) only [wk, tis, Int.reduceNe, Int.reduceEq, Int.reduceLT, Int.reduceLE, Int.reduceAdd, Int.reduceSub, Int.reduceNeg, Int.reduceMul, Int.reduceToNat, Nat.reduceSub, Nat.reduceMul, Nat.reduceLeDiff, Nat.reduceAdd, Nat.reduceLT, Nat.reduceEqDiff, reduceCtorEq, ↓reduceIte, rqs, hF, hq]
    refine call_by ((copyrat_ok (p.getD i q0) (h.get hip))) (by first | rfl | (simp only [tocvs, tocv, hF, hq]; rfl) | (simp only [tocvs, tocv, toboxes, tobox, updH_at, Nat.reduceEqDiff, ↓reduceIte, hF, hq]; rfl)) (by simp) ?_
    simp (disch := omega) only [wk, tis, Int.reduceNe, Int.reduceEq, Int.reduceLT, Int.reduceLE, Int.reduceAdd, Int.reduceSub, Int.reduceNeg, Int.reduceMul, Int.reduceToNat, Nat.reduceSub, Nat.reduceMul, Nat.reduceLeDiff, Nat.reduceAdd, Nat.reduceLT, Nat.reduceEqDiff, reduceCtorEq, ↓reduceIte, rqs, hF, hq]
    refine ⟨⟨i + 1, st + 1, by omega, ?_⟩, by omega⟩
    rw [et]
    (repeat' apply And.intro) <;> first | rfl | omega
  · simp (disch := omega) only [wk, tis, Int.reduceNe, Int.reduceEq, Int.reduceLT, Int.reduceLE, Int.reduceAdd, Int.reduceSub, Int.reduceNeg, Int.reduceMul, Int.reduceToNat, Nat.reduceSub, Nat.reduceMul, Nat.reduceLeDiff, Nat.reduceAdd, Nat.reduceLT, Nat.reduceEqDiff, reduceCtorEq, ↓reduceIte, rqs, hF]
    rw [List.take_of_length_le (by omega)]
    try rfl
theorem okq_ok (p : List RQ) (h : BQ (2 ^ 40) (2 ^ 38) p) : AC Tryz.prog 43 [cqw p] none [cb (gd p)] := by
  refine AC.by_walk (rs := [.tmp 2]) ords Tryz.func43 (by rfl) (by rfl) (by rfl) (by rfl) (by rfl) ?_
  have hl := h.1
  simp (disch := omega) only [wk, tis, Int.reduceNe, Int.reduceEq, Int.reduceLT, Int.reduceLE, Int.reduceAdd, Int.reduceSub, Int.reduceNeg, Int.reduceMul, Int.reduceToNat, Nat.reduceSub, Nat.reduceMul, Nat.reduceLeDiff, Nat.reduceAdd, Nat.reduceLT, Nat.reduceEqDiff, reduceCtorEq, ↓reduceIte, rqs]
  refine aloop_by (fun f H => ∃ (i : Nat), i ≤ p.length ∧ (∀ j, j < i → nv (p.getD j q0).2 ≠ 0) ∧ f 3 = .iv (.int .i64 i) ∧ f 0 = .iv (.sl (rats p))) (fun f H => (p.length - intAt f 3).toNat) ?_ ?_
  · refine ⟨0, by omega, fun j hj => by omega, ?_⟩
    simp (disch := omega) only [wk, tis, Int.reduceNe, Int.reduceEq, Int.reduceLT, Int.reduceLE, Int.reduceAdd, Int.reduceSub, Int.reduceNeg, Int.reduceMul, Int.reduceToNat, Nat.reduceSub, Nat.reduceMul, Nat.reduceLeDiff, Nat.reduceAdd, Nat.reduceLT, Nat.reduceEqDiff, reduceCtorEq, ↓reduceIte, rqs]
  rintro f H ⟨i, hi, hg, hF⟩
  rw [intAt_of hF.1]
  simp (disch := omega) only [wk, tis, Int.reduceNe, Int.reduceEq, Int.reduceLT, Int.reduceLE, Int.reduceAdd, Int.reduceSub, Int.reduceNeg, Int.reduceMul, Int.reduceToNat, Nat.reduceSub, Nat.reduceMul, Nat.reduceLeDiff, Nat.reduceAdd, Nat.reduceLT, Nat.reduceEqDiff, reduceCtorEq, ↓reduceIte, rqs, hF]
  refine if_by (fun hlt => ?_) (fun hlt => ?_)
  · have hip : i < p.length := by omega
    have o := hok_ok (p.getD i q0) ⟨Nat.le_trans (h.get hip).2.1 (by omega), (h.get hip).2.2⟩
    by_cases h0 : nv (p.getD i q0).2 = 0
    · rw [decide_eq_false (fun e => e h0)] at o
      simp (disch := omega) only [wk, tis, Int.reduceNe, Int.reduceEq, Int.reduceLT, Int.reduceLE, Int.reduceAdd, Int.reduceSub, Int.reduceNeg, Int.reduceMul, Int.reduceToNat, Nat.reduceSub, Nat.reduceMul, Nat.reduceLeDiff, Nat.reduceAdd, Nat.reduceLT, Nat.reduceEqDiff, reduceCtorEq, ↓reduceIte, rqs, hF]
      refine call_by (o) (by first | rfl | (simp only [tocvs, tocv, hF]; rfl) | (simp only [tocvs, tocv, toboxes, tobox, updH_at, Nat.reduceEqDiff, ↓reduceIte, hF]; rfl)) (by simp) ?_
      simp (disch := omega) only [wk, tis, Int.reduceNe, Int.reduceEq, Int.reduceLT, Int.reduceLE, Int.reduceAdd, Int.reduceSub, Int.reduceNeg, Int.reduceMul, Int.reduceToNat, Nat.reduceSub, Nat.reduceMul, Nat.reduceLeDiff, Nat.reduceAdd, Nat.reduceLT, Nat.reduceEqDiff, reduceCtorEq, ↓reduceIte, rqs, hF]
      have hb : gd p = false := by
        rw [Bool.eq_false_iff]
        exact fun hh => gd_iff.mp hh _ (getq_mem hip) h0
      rw [hb]
    · rw [decide_eq_true h0] at o
      simp (disch := omega) only [wk, tis, Int.reduceNe, Int.reduceEq, Int.reduceLT, Int.reduceLE, Int.reduceAdd, Int.reduceSub, Int.reduceNeg, Int.reduceMul, Int.reduceToNat, Nat.reduceSub, Nat.reduceMul, Nat.reduceLeDiff, Nat.reduceAdd, Nat.reduceLT, Nat.reduceEqDiff, reduceCtorEq, ↓reduceIte, rqs, hF]
      refine call_by (o) (by first | rfl | (simp only [tocvs, tocv, hF]; rfl) | (simp only [tocvs, tocv, toboxes, tobox, updH_at, Nat.reduceEqDiff, ↓reduceIte, hF]; rfl)) (by simp) ?_
      simp (disch := omega) only [wk, tis, Int.reduceNe, Int.reduceEq, Int.reduceLT, Int.reduceLE, Int.reduceAdd, Int.reduceSub, Int.reduceNeg, Int.reduceMul, Int.reduceToNat, Nat.reduceSub, Nat.reduceMul, Nat.reduceLeDiff, Nat.reduceAdd, Nat.reduceLT, Nat.reduceEqDiff, reduceCtorEq, ↓reduceIte, rqs, hF]
      refine ⟨⟨i + 1, by omega, fun j hj => ?_, ?_⟩, by omega⟩
      · by_cases e : j = i
        · rw [e]; exact h0
        · exact hg j (by omega)
      · (repeat' apply And.intro) <;> first | rfl | omega
  · simp (disch := omega) only [wk, tis, Int.reduceNe, Int.reduceEq, Int.reduceLT, Int.reduceLE, Int.reduceAdd, Int.reduceSub, Int.reduceNeg, Int.reduceMul, Int.reduceToNat, Nat.reduceSub, Nat.reduceMul, Nat.reduceLeDiff, Nat.reduceAdd, Nat.reduceLT, Nat.reduceEqDiff, reduceCtorEq, ↓reduceIte, rqs, hF]
    have hb : gd p = true := gd_iff.mpr fun r hr => by
      obtain ⟨j, hj, rfl⟩ := List.getElem_of_mem hr
      have := hg j (by omega)
      rwa [List.getD, List.getElem?_eq_getElem hj, Option.getD_some] at this
    rw [hb]
theorem tzq_take_snoc (q : List Rat) {i : Nat} (h : i < q.length) : tzq (q.take (i + 1)) = if cfq q i ≠ 0 then i + 1 else tzq (q.take i) := by
  by_cases hz : cfq q i = 0
  · rw [if_neg (by simpa using hz)]; exact tzq_take_zero h hz
  · rw [if_pos hz]; exact tzq_full h hz
theorem nq_ok (p : List RQ) (h : GQ (2 ^ 40) (2 ^ 38) p) : AC Tryz.prog 47 [cqw p] none [cqp (qvs p)] := by
  refine AC.by_walk (rs := [.tmp 2]) ords Tryz.func47 (by rfl) (by rfl) (by rfl) (by rfl) (by rfl) ?_
  have hl := h.1
  have hpl := qvs_len p
  have tz0 : tzq [] = 0 := rfl
  simp (disch := omega) only [wk, tis, Int.reduceNe, Int.reduceEq, Int.reduceLT, Int.reduceLE, Int.reduceAdd, Int.reduceSub, Int.reduceNeg, Int.reduceMul, Int.reduceToNat, Nat.reduceSub, Nat.reduceMul, Nat.reduceLeDiff, Nat.reduceAdd, Nat.reduceLT, Nat.reduceEqDiff, reduceCtorEq, ↓reduceIte, rqs]
  refine aloop_by (fun f H => ∃ (i st : Nat), i ≤ p.length ∧ f 5 = .iv (.int .i64 i) ∧ f 4 = .iv (.int .i64 (tzq ((qvs p).take i))) ∧ f 0 = .iv (.sl (rats p)) ∧ f 3 = .hs 7 st ∧ H 7 = .blk false st 33 3 (rats (((qvs p).take i).map crat))) (fun f H => (p.length - intAt f 5).toNat) ?_ ?_
  · refine ⟨0, 1, by omega, ?_⟩
    simp (disch := omega) only [wk, tis, Int.reduceNe, Int.reduceEq, Int.reduceLT, Int.reduceLE, Int.reduceAdd, Int.reduceSub, Int.reduceNeg, Int.reduceMul, Int.reduceToNat, Nat.reduceSub, Nat.reduceMul, Nat.reduceLeDiff, Nat.reduceAdd, Nat.reduceLT, Nat.reduceEqDiff, reduceCtorEq, ↓reduceIte, rqs, List.take_zero, List.map_nil, tz0]
  rintro f H ⟨i, st, hi, hF⟩
  rw [intAt_of hF.1]
  simp (disch := omega) only [wk, tis, Int.reduceNe, Int.reduceEq, Int.reduceLT, Int.reduceLE, Int.reduceAdd, Int.reduceSub, Int.reduceNeg, Int.reduceMul, Int.reduceToNat, Nat.reduceSub, Nat.reduceMul, Nat.reduceLeDiff, Nat.reduceAdd, Nat.reduceLT, Nat.reduceEqDiff, reduceCtorEq, ↓reduceIte, rqs, hF]
  refine if_by (fun hlt => ?_) (fun hlt => ?_)
  · have hip : i < p.length := by omega
    have hq : (((qvs p).take i).map crat).length = i := by rw [List.length_map, List.length_take]; omega
    have hr := h.get hip
    have hd := h.den hip
    have m := rR_ok (p.getD i q0).1 (p.getD i q0).2 hr.1 hr.2 hd
    rw [show mkRat (iv (p.getD i q0).1) (nv (p.getD i q0).2) = cfq (qvs p) i from (cfq_qvs p i).symm] at m
    have zc := qz_raw hr hd
    rw [← cfq_qvs] at zc
    have s := hS_ok (crat (cfq (qvs p) i)) ((szq_crat zc).1.mono (by omega))
    rw [sgq_qv (nv_crat0 _), qv_crat] at s
    have et := tzq_take_snoc (qvs p) (i := i) (by omega)
    have e := takeq_snoc (q := qvs p) (i := i) (by omega)
    simp (disch := omega) only [wk, tis, Int.reduceNe, Int.reduceEq, Int.reduceLT, Int.reduceLE, Int.reduceAdd, Int.reduceSub, Int.reduceNeg, Int.reduceMul, Int.reduceToNat, Nat.reduceSub, Nat.reduceMul, Nat.reduceLeDiff, Nat.reduceAdd, Nat.reduceLT, Nat.reduceEqDiff, reduceCtorEq, ↓reduceIte, rqs, hF, hq]
    refine ⟨tmps_by (by kernel_rfl), ?_⟩
    refine call_by (m) (by first | rfl | (simp only [tocvs, tocv, hF, hq]; rfl) | (simp only [tocvs, tocv, toboxes, tobox, updH_at, Nat.reduceEqDiff, ↓reduceIte, hF, hq]; rfl)) (by simp) ?_
    simp (disch := omega) only [wk, tis, Int.reduceNe, Int.reduceEq, Int.reduceLT, Int.reduceLE, Int.reduceAdd, Int.reduceSub, Int.reduceNeg, Int.reduceMul, Int.reduceToNat, Nat.reduceSub, Nat.reduceMul, Nat.reduceLeDiff, Nat.reduceAdd, Nat.reduceLT, Nat.reduceEqDiff, reduceCtorEq, ↓reduceIte, rqs, hF, hq]
    first | exact log_by (by kernel_rfl) | refine ⟨log_by (by kernel_rfl), ?_⟩
    by_cases hz : cfq (qvs p) i = 0
    · rw [if_neg (by simpa using hz)] at et
      rw [hz, sgq_zero] at s
      rw [hz] at e
      rw [hz]
      refine call_by (s) (by first | rfl | (simp only [tocvs, tocv, hF, hq]; rfl) | (simp only [tocvs, tocv, toboxes, tobox, updH_at, Nat.reduceEqDiff, ↓reduceIte, hF, hq]; rfl)) (by simp) ?_
      simp (disch := omega) only [wk, tis, Int.reduceNe, Int.reduceEq, Int.reduceLT, Int.reduceLE, Int.reduceAdd, Int.reduceSub, Int.reduceNeg, Int.reduceMul, Int.reduceToNat, Nat.reduceSub, Nat.reduceMul, Nat.reduceLeDiff, Nat.reduceAdd, Nat.reduceLT, Nat.reduceEqDiff, reduceCtorEq, ↓reduceIte, rqs, hF, hq]
      refine ⟨⟨i + 1, st + 1, by omega, ?_⟩, by omega⟩
      rw [et, e, List.map_append]
      (repeat' apply And.intro) <;> first | rfl | omega
    · rw [if_pos hz] at et
      have hs : ¬ sgq (cfq (qvs p) i) = 0 := fun h => hz (sgq_eq_zero.mp h)
      refine call_by (s) (by first | rfl | (simp only [tocvs, tocv, hF, hq, hs]; rfl) | (simp only [tocvs, tocv, toboxes, tobox, updH_at, Nat.reduceEqDiff, ↓reduceIte, hF, hq, hs]; rfl)) (by simp) ?_
      simp (disch := omega) only [wk, tis, Int.reduceNe, Int.reduceEq, Int.reduceLT, Int.reduceLE, Int.reduceAdd, Int.reduceSub, Int.reduceNeg, Int.reduceMul, Int.reduceToNat, Nat.reduceSub, Nat.reduceMul, Nat.reduceLeDiff, Nat.reduceAdd, Nat.reduceLT, Nat.reduceEqDiff, reduceCtorEq, ↓reduceIte, rqs, hF, hq, hs]
      refine ⟨⟨i + 1, st + 1, by omega, ?_⟩, by omega⟩
      rw [et, e, List.map_append]
      (repeat' apply And.intro) <;> first | rfl | omega
  · obtain rfl : i = p.length := by omega
    rw [List.take_of_length_le (by omega)] at hF
    have htl : tzq (qvs p) ≤ p.length := by have := tzq_le (qvs p); omega
    have hq : ((qvs p).map crat).length = p.length := by rw [List.length_map]; omega
    simp (disch := omega) only [wk, tis, Int.reduceNe, Int.reduceEq, Int.reduceLT, Int.reduceLE, Int.reduceAdd, Int.reduceSub, Int.reduceNeg, Int.reduceMul, Int.reduceToNat, Nat.reduceSub, Nat.reduceMul, Nat.reduceLeDiff, Nat.reduceAdd, Nat.reduceLT, Nat.reduceEqDiff, reduceCtorEq, ↓reduceIte, rqs, hF, hq]
    rw [cqs, trimq, List.map_take]
    first | exact ⟨htl, rfl⟩ | rfl | (refine ⟨htl, ?_⟩; rfl)

theorem byq_ok (A : List Rat) (c : RQ) (K : Nat) (hA : QB (2 ^ 30) K A) (hc : SzQ K c) (h0 : nv c.2 ≠ 0) (hK : K ≤ 2 ^ 34) (hK1 : 1 ≤ K) : AC Tryz.prog 45 [cqw (A.map crat), cqq c] none [cqp (sclq (qv c) A)] := by
  have hl := hA.1
  have hqa : (A.map crat).length = A.length := List.length_map _
  have zc := qz_raw hc h0
  have hsl : (sclq (qv c) A).length = A.length := by simp [sclq]
  have hR : QB (2 ^ 40) (2 ^ 38) (sclq (qv c) A) := .of (by omega) fun k => by
    rw [cfq_sclq]
    have h1 := qz_mul (cfq A k) (qv c)
    have h2 := hA.cz hK1 k
    omega
  have t := nq_ok ((sclq (qv c) A).map crat) hR.gq
  rw [qvs_map] at t
  refine AC.by_walk (rs := [.tmp 4]) ords Tryz.func45 (by rfl) (by rfl) (by rfl) (by rfl) (by rfl) ?_
  simp (disch := omega) only [wk, tis, Int.reduceNe, Int.reduceEq, Int.reduceLT, Int.reduceLE, Int.reduceAdd, Int.reduceSub, Int.reduceNeg, Int.reduceMul, Int.reduceToNat, Nat.reduceSub, Nat.reduceMul, Nat.reduceLeDiff, Nat.reduceAdd, Nat.reduceLT, Nat.reduceEqDiff, reduceCtorEq, ↓reduceIte, rqs]
  refine aloop_nil 5 5 33 3 (by simp (disch := omega) only [wk, tis, Int.reduceNe, Int.reduceEq, Int.reduceLT, Int.reduceLE, Int.reduceAdd, Int.reduceSub, Int.reduceNeg, Int.reduceMul, Int.reduceToNat, Nat.reduceSub, Nat.reduceMul, Nat.reduceLeDiff, Nat.reduceAdd, Nat.reduceLT, Nat.reduceEqDiff, reduceCtorEq, ↓reduceIte, rqs]) (fun f H => ∃ (i st s3 : Nat), i ≤ A.length ∧ f 6 = .iv (.int .i64 i) ∧ f 0 = .iv (.sl (rats (A.map crat))) ∧ f 3 = .hp 3 s3 0 0 ∧ H 3 = .blk false s3 33 3 [qrow c] ∧ f 5 = .hs 5 st ∧ H 5 = .blk false st 33 3 (rats (((sclq (qv c) A).take i).map crat))) (fun f H => (A.length - intAt f 6).toNat) ?_ ?_
  · refine ⟨0, 1, 1, by omega, ?_⟩
    simp (disch := omega) only [wk, tis, Int.reduceNe, Int.reduceEq, Int.reduceLT, Int.reduceLE, Int.reduceAdd, Int.reduceSub, Int.reduceNeg, Int.reduceMul, Int.reduceToNat, Nat.reduceSub, Nat.reduceMul, Nat.reduceLeDiff, Nat.reduceAdd, Nat.reduceLT, Nat.reduceEqDiff, reduceCtorEq, ↓reduceIte, rqs, ghostF, ghostH, List.take_zero, List.map_nil]
  rintro f H ⟨i, st, s3, hi, hF⟩
  rw [intAt_of hF.1]
  simp (disch := omega) only [wk, tis, Int.reduceNe, Int.reduceEq, Int.reduceLT, Int.reduceLE, Int.reduceAdd, Int.reduceSub, Int.reduceNeg, Int.reduceMul, Int.reduceToNat, Nat.reduceSub, Nat.reduceMul, Nat.reduceLeDiff, Nat.reduceAdd, Nat.reduceLT, Nat.reduceEqDiff, reduceCtorEq, ↓reduceIte, rqs, hF]
  by_cases hlt' : i < A.length
  · have hlt : (i : Int) < (A.length : Int) := by omega
    have hrq : (((sclq (qv c) A).take i).map crat).length = i := by rw [List.length_map, List.length_take]; omega
    have g := cratq_get hlt'
    have et := takeq_snoc (q := sclq (qv c) A) (i := i) (by omega)
    rw [cfq_sclq] at et
    have m := htimes_ok (crat (cfq A i)) c (szq_crat (Nat.le_trans (hA.cz hK1 i) (by omega))) (hc.mono (by omega)) (nv_crat0 _) h0
    rw [qv_crat] at m
    simp (disch := omega) only [wk, tis, Int.reduceNe, Int.reduceEq, Int.reduceLT, Int.reduceLE, Int.reduceAdd, Int.reduceSub, Int.reduceNeg, Int.reduceMul, Int.reduceToNat, Nat.reduceSub, Nat.reduceMul, Nat.reduceLeDiff, Nat.reduceAdd, Nat.reduceLT, Nat.reduceEqDiff, reduceCtorEq, ↓reduceIte, rqs, hF, hqa, hlt, hrq, g]
    refine ⟨tmps_by (by kernel_rfl), ?_⟩
    refine call_by (m) (by first | rfl | (simp only [tocvs, tocv, hF, hqa, hrq, g]; rfl) | (simp only [tocvs, tocv, toboxes, tobox, updH_at, Nat.reduceEqDiff, ↓reduceIte, hF, hqa, hrq, g]; rfl)) (by simp) ?_
    simp (disch := omega) only [wk, tis, Int.reduceNe, Int.reduceEq, Int.reduceLT, Int.reduceLE, Int.reduceAdd, Int.reduceSub, Int.reduceNeg, Int.reduceMul, Int.reduceToNat, Nat.reduceSub, Nat.reduceMul, Nat.reduceLeDiff, Nat.reduceAdd, Nat.reduceLT, Nat.reduceEqDiff, reduceCtorEq, ↓reduceIte, rqs, hF, hqa, hrq, g]
    first | exact log_by (by kernel_rfl) | refine ⟨log_by (by kernel_rfl), ?_⟩
    refine ⟨⟨i + 1, st + 1, s3, by omega, ?_⟩, by omega⟩
    rw [et, List.map_append]
    (repeat' apply And.intro) <;> first | rfl | omega
  · have hlt : ¬ (i : Int) < (A.length : Int) := by omega
    rw [List.take_of_length_le (by omega)] at hF
    simp (disch := omega) only [wk, tis, Int.reduceNe, Int.reduceEq, Int.reduceLT, Int.reduceLE, Int.reduceAdd, Int.reduceSub, Int.reduceNeg, Int.reduceMul, Int.reduceToNat, Nat.reduceSub, Nat.reduceMul, Nat.reduceLeDiff, Nat.reduceAdd, Nat.reduceLT, Nat.reduceEqDiff, reduceCtorEq, ↓reduceIte, rqs, hF, hqa, hlt]
    refine call_by (t) (by first | rfl | (simp only [tocvs, tocv, hF]; rfl) | (simp only [tocvs, tocv, toboxes, tobox, updH_at, Nat.reduceEqDiff, ↓reduceIte, hF]; rfl)) (by simp) ?_
    simp (disch := omega) only [wk, tis, Int.reduceNe, Int.reduceEq, Int.reduceLT, Int.reduceLE, Int.reduceAdd, Int.reduceSub, Int.reduceNeg, Int.reduceMul, Int.reduceToNat, Nat.reduceSub, Nat.reduceMul, Nat.reduceLeDiff, Nat.reduceAdd, Nat.reduceLT, Nat.reduceEqDiff, reduceCtorEq, ↓reduceIte, rqs, hF]
    try rfl
theorem atq_ok (A : List Rat) (i : Nat) (hl : A.length ≤ 2 ^ 40) : AC Tryz.prog 74 [cqw (A.map crat), ci i] none [cqz (cfq A i)] := by
  have hqa : (A.map crat).length = A.length := List.length_map _
  have z0 := hP_ok 0 1 (by omega) (by omega) (by omega) (by omega)
  rw [show ((0 : Int) : Rat) / ((1 : Nat) : Rat) = 0 by decide +kernel] at z0
  refine AC.by_walk (rs := [.cell 4 33]) ords Tryz.func74 (by rfl) (by rfl) (by rfl) (by rfl) (by rfl) ?_
  simp (disch := omega) only [wk, tis, Int.reduceNe, Int.reduceEq, Int.reduceLT, Int.reduceLE, Int.reduceAdd, Int.reduceSub, Int.reduceNeg, Int.reduceMul, Int.reduceToNat, Nat.reduceSub, Nat.reduceMul, Nat.reduceLeDiff, Nat.reduceAdd, Nat.reduceLT, Nat.reduceEqDiff, reduceCtorEq, ↓reduceIte, rqs]
  by_cases h : i < A.length
  · have h' : (i : Int) < (A.length : Int) := by omega
    have g := cratq_get h
    simp (disch := omega) only [wk, tis, Int.reduceNe, Int.reduceEq, Int.reduceLT, Int.reduceLE, Int.reduceAdd, Int.reduceSub, Int.reduceNeg, Int.reduceMul, Int.reduceToNat, Nat.reduceSub, Nat.reduceMul, Nat.reduceLeDiff, Nat.reduceAdd, Nat.reduceLT, Nat.reduceEqDiff, reduceCtorEq, ↓reduceIte, rqs, hqa, h', g]
    try rfl
  · have h' : ¬ (i : Int) < (A.length : Int) := by omega
    rw [cfq_ge (by omega)]
    simp (disch := omega) only [wk, tis, Int.reduceNe, Int.reduceEq, Int.reduceLT, Int.reduceLE, Int.reduceAdd, Int.reduceSub, Int.reduceNeg, Int.reduceMul, Int.reduceToNat, Nat.reduceSub, Nat.reduceMul, Nat.reduceLeDiff, Nat.reduceAdd, Nat.reduceLT, Nat.reduceEqDiff, reduceCtorEq, ↓reduceIte, rqs, hqa, h']
    refine call_by (z0) (by rfl) (by simp) ?_
    simp (disch := omega) only [wk, tis, Int.reduceNe, Int.reduceEq, Int.reduceLT, Int.reduceLE, Int.reduceAdd, Int.reduceSub, Int.reduceNeg, Int.reduceMul, Int.reduceToNat, Nat.reduceSub, Nat.reduceMul, Nat.reduceLeDiff, Nat.reduceAdd, Nat.reduceLT, Nat.reduceEqDiff, reduceCtorEq, ↓reduceIte, rqs]
    try rfl
theorem plusq_ok (A B : List Rat) (hA : QB (2 ^ 30) (2 ^ 33) A) (hB : QB (2 ^ 30) (2 ^ 33) B) : AC Tryz.prog 44 [cqw (A.map crat), cqw (B.map crat)] none [cqp (addq A B)] := by
  have hAl := hA.1
  have hBl := hB.1
  have hqa : (A.map crat).length = A.length := List.length_map _
  have hqb : (B.map crat).length = B.length := List.length_map _
  have hal : (addq A B).length = max A.length B.length := by simp [addq]
  have hR : QB (2 ^ 40) (2 ^ 38) (addq A B) := .of (by rw [hal]; omega) fun k => by
    rw [cfq_addq]
    have h1 := qz_add (cfq A k) (cfq B k)
    have h2 := hA.cz (by omega) k
    have h3 := hB.cz (by omega) k
    omega
  have t := nq_ok ((addq A B).map crat) hR.gq
  rw [qvs_map] at t
  refine AC.by_walk (rs := [.tmp 4]) ords Tryz.func44 (by rfl) (by rfl) (by rfl) (by rfl) (by rfl) ?_
  simp (disch := omega) only [wk, tis, Int.reduceNe, Int.reduceEq, Int.reduceLT, Int.reduceLE, Int.reduceAdd, Int.reduceSub, Int.reduceNeg, Int.reduceMul, Int.reduceToNat, Nat.reduceSub, Nat.reduceMul, Nat.reduceLeDiff, Nat.reduceAdd, Nat.reduceLT, Nat.reduceEqDiff, reduceCtorEq, ↓reduceIte, rqs]
  refine aloop_nil 5 5 33 3 (by simp (disch := omega) only [wk, tis, Int.reduceNe, Int.reduceEq, Int.reduceLT, Int.reduceLE, Int.reduceAdd, Int.reduceSub, Int.reduceNeg, Int.reduceMul, Int.reduceToNat, Nat.reduceSub, Nat.reduceMul, Nat.reduceLeDiff, Nat.reduceAdd, Nat.reduceLT, Nat.reduceEqDiff, reduceCtorEq, ↓reduceIte, rqs]) (fun f H => ∃ (i st : Nat), i ≤ max A.length B.length ∧ f 6 = .iv (.int .i64 i) ∧ f 0 = .iv (.sl (rats (A.map crat))) ∧ f 1 = .iv (.sl (rats (B.map crat))) ∧ f 5 = .hs 5 st ∧ H 5 = .blk false st 33 3 (rats (((addq A B).take i).map crat))) (fun f H => (A.length + B.length - intAt f 6).toNat) ?_ ?_
  · refine ⟨0, 1, by omega, ?_⟩
    simp (disch := omega) only [wk, tis, Int.reduceNe, Int.reduceEq, Int.reduceLT, Int.reduceLE, Int.reduceAdd, Int.reduceSub, Int.reduceNeg, Int.reduceMul, Int.reduceToNat, Nat.reduceSub, Nat.reduceMul, Nat.reduceLeDiff, Nat.reduceAdd, Nat.reduceLT, Nat.reduceEqDiff, reduceCtorEq, ↓reduceIte, rqs, ghostF, ghostH, List.take_zero, List.map_nil]
  rintro f H ⟨i, st, hi, hF⟩
  rw [intAt_of hF.1]
  simp (disch := omega) only [wk, tis, Int.reduceNe, Int.reduceEq, Int.reduceLT, Int.reduceLE, Int.reduceAdd, Int.reduceSub, Int.reduceNeg, Int.reduceMul, Int.reduceToNat, Nat.reduceSub, Nat.reduceMul, Nat.reduceLeDiff, Nat.reduceAdd, Nat.reduceLT, Nat.reduceEqDiff, reduceCtorEq, ↓reduceIte, rqs, hF]
  have hrq : (((addq A B).take i).map crat).length = i := by rw [List.length_map, List.length_take, hal]; omega
  have y1 := hA.cz (by omega) i
  have y2 := hB.cz (by omega) i
  have a1 := atq_ok A i (by omega)
  have a2 := atq_ok B i (by omega)
  have y := hplus_ok (crat (cfq A i)) (crat (cfq B i)) (szq_crat (by omega)) (szq_crat (by omega)) (nv_crat0 _) (nv_crat0 _)
  rw [qv_crat, qv_crat] at y
  by_cases hm : i < max A.length B.length
  · have et := takeq_snoc (q := addq A B) (i := i) (by rw [hal]; exact hm)
    rw [cfq_addq] at et
    by_cases h1 : i < A.length
    · have h1' : (i : Int) < (A.length : Int) := by omega
      simp (disch := omega) only [wk, tis, Int.reduceNe, Int.reduceEq, Int.reduceLT, Int.reduceLE, Int.reduceAdd, Int.reduceSub, Int.reduceNeg, Int.reduceMul, Int.reduceToNat, Nat.reduceSub, Nat.reduceMul, Nat.reduceLeDiff, Nat.reduceAdd, Nat.reduceLT, Nat.reduceEqDiff, reduceCtorEq, ↓reduceIte, rqs, hF, hqa, h1', hrq]
      refine call_by (a1) (by first | rfl | (simp only [tocvs, tocv, hF, hrq]; rfl) | (simp only [tocvs, tocv, toboxes, tobox, updH_at, Nat.reduceEqDiff, ↓reduceIte, hF, hrq]; rfl)) (by simp) ?_
      simp (disch := omega) only [wk, tis, Int.reduceNe, Int.reduceEq, Int.reduceLT, Int.reduceLE, Int.reduceAdd, Int.reduceSub, Int.reduceNeg, Int.reduceMul, Int.reduceToNat, Nat.reduceSub, Nat.reduceMul, Nat.reduceLeDiff, Nat.reduceAdd, Nat.reduceLT, Nat.reduceEqDiff, reduceCtorEq, ↓reduceIte, rqs, hF, hrq]
      refine call_by (a2) (by first | rfl | (simp only [tocvs, tocv, hF, hrq]; rfl) | (simp only [tocvs, tocv, toboxes, tobox, updH_at, Nat.reduceEqDiff, ↓reduceIte, hF, hrq]; rfl)) (by simp) ?_
      simp (disch := omega) only [wk, tis, Int.reduceNe, Int.reduceEq, Int.reduceLT, Int.reduceLE, Int.reduceAdd, Int.reduceSub, Int.reduceNeg, Int.reduceMul, Int.reduceToNat, Nat.reduceSub, Nat.reduceMul, Nat.reduceLeDiff, Nat.reduceAdd, Nat.reduceLT, Nat.reduceEqDiff, reduceCtorEq, ↓reduceIte, rqs, hF, hrq]
      refine call_by (y) (by first | rfl | (simp only [tocvs, tocv, hF, hrq]; rfl) | (simp only [tocvs, tocv, toboxes, tobox, updH_at, Nat.reduceEqDiff, ↓reduceIte, hF, hrq]; rfl)) (by simp) ?_
      simp (disch := omega) only [wk, tis, Int.reduceNe, Int.reduceEq, Int.reduceLT, Int.reduceLE, Int.reduceAdd, Int.reduceSub, Int.reduceNeg, Int.reduceMul, Int.reduceToNat, Nat.reduceSub, Nat.reduceMul, Nat.reduceLeDiff, Nat.reduceAdd, Nat.reduceLT, Nat.reduceEqDiff, reduceCtorEq, ↓reduceIte, rqs, hF, hrq]
      refine ⟨⟨i + 1, st + 1, by omega, ?_⟩, by omega⟩
      rw [et, List.map_append]
      (repeat' apply And.intro) <;> first | rfl | omega
    · have h1' : ¬ (i : Int) < (A.length : Int) := by omega
      have h2' : (i : Int) < (B.length : Int) := by omega
      simp (disch := omega) only [wk, tis, Int.reduceNe, Int.reduceEq, Int.reduceLT, Int.reduceLE, Int.reduceAdd, Int.reduceSub, Int.reduceNeg, Int.reduceMul, Int.reduceToNat, Nat.reduceSub, Nat.reduceMul, Nat.reduceLeDiff, Nat.reduceAdd, Nat.reduceLT, Nat.reduceEqDiff, reduceCtorEq, ↓reduceIte, rqs, hF, hqa, hqb, h1', h2', hrq]
      refine call_by (a1) (by first | rfl | (simp only [tocvs, tocv, hF, hrq]; rfl) | (simp only [tocvs, tocv, toboxes, tobox, updH_at, Nat.reduceEqDiff, ↓reduceIte, hF, hrq]; rfl)) (by simp) ?_
      simp (disch := omega) only [wk, tis, Int.reduceNe, Int.reduceEq, Int.reduceLT, Int.reduceLE, Int.reduceAdd, Int.reduceSub, Int.reduceNeg, Int.reduceMul, Int.reduceToNat, Nat.reduceSub, Nat.reduceMul, Nat.reduceLeDiff, Nat.reduceAdd, Nat.reduceLT, Nat.reduceEqDiff, reduceCtorEq, ↓reduceIte, rqs, hF, hrq]
      refine call_by (a2) (by first | rfl | (simp only [tocvs, tocv, hF, hrq]; rfl) | (simp only [tocvs, tocv, toboxes, tobox, updH_at, Nat.reduceEqDiff, ↓reduceIte, hF, hrq]; rfl)) (by simp) ?_
      simp (disch := omega) only [wk, tis, Int.reduceNe, Int.reduceEq, Int.reduceLT, Int.reduceLE, Int.reduceAdd, Int.reduceSub, Int.reduceNeg, Int.reduceMul, Int.reduceToNat, Nat.reduceSub, Nat.reduceMul, Nat.reduceLeDiff, Nat.reduceAdd, Nat.reduceLT, Nat.reduceEqDiff, reduceCtorEq, ↓reduceIte, rqs, hF, hrq]
      refine call_by (y) (by first | rfl | (simp only [tocvs, tocv, hF, hrq]; rfl) | (simp only [tocvs, tocv, toboxes, tobox, updH_at, Nat.reduceEqDiff, ↓reduceIte, hF, hrq]; rfl)) (by simp) ?_
      simp (disch := omega) only [wk, tis, Int.reduceNe, Int.reduceEq, Int.reduceLT, Int.reduceLE, Int.reduceAdd, Int.reduceSub, Int.reduceNeg, Int.reduceMul, Int.reduceToNat, Nat.reduceSub, Nat.reduceMul, Nat.reduceLeDiff, Nat.reduceAdd, Nat.reduceLT, Nat.reduceEqDiff, reduceCtorEq, ↓reduceIte, rqs, hF, hrq]
      refine ⟨⟨i + 1, st + 1, by omega, ?_⟩, by omega⟩
      rw [et, List.map_append]
      (repeat' apply And.intro) <;> first | rfl | omega
  · have h1' : ¬ (i : Int) < (A.length : Int) := by omega
    have h2' : ¬ (i : Int) < (B.length : Int) := by omega
    rw [List.take_of_length_le (by rw [hal]; omega)] at hF
    simp (disch := omega) only [wk, tis, Int.reduceNe, Int.reduceEq, Int.reduceLT, Int.reduceLE, Int.reduceAdd, Int.reduceSub, Int.reduceNeg, Int.reduceMul, Int.reduceToNat, Nat.reduceSub, Nat.reduceMul, Nat.reduceLeDiff, Nat.reduceAdd, Nat.reduceLT, Nat.reduceEqDiff, reduceCtorEq, ↓reduceIte, rqs, hF, hqa, hqb, h1', h2']
    refine call_by (t) (by first | rfl | (simp only [tocvs, tocv, hF]; rfl) | (simp only [tocvs, tocv, toboxes, tobox, updH_at, Nat.reduceEqDiff, ↓reduceIte, hF]; rfl)) (by simp) ?_
    simp (disch := omega) only [wk, tis, Int.reduceNe, Int.reduceEq, Int.reduceLT, Int.reduceLE, Int.reduceAdd, Int.reduceSub, Int.reduceNeg, Int.reduceMul, Int.reduceToNat, Nat.reduceSub, Nat.reduceMul, Nat.reduceLeDiff, Nat.reduceAdd, Nat.reduceLT, Nat.reduceEqDiff, reduceCtorEq, ↓reduceIte, rqs, hF]
    try rfl

theorem timesq_ok (A B : List Rat) (hA : QB (2 ^ 30) (2 ^ 33) A) (hB : QB (2 ^ 30) (2 ^ 33) B) (hz : ∀ i k, qz (cvq (A.take i) (cfq B) k) ≤ 2 ^ 34) : AC Tryz.prog 46 [cqw (A.map crat), cqw (B.map crat)] none [cqp (mulq A B)] := by
  have hAl := hA.1
  have hBl := hB.1
  have hqa : (A.map crat).length = A.length := List.length_map _
  have hqb : (B.map crat).length = B.length := List.length_map _
  have hml := mulq_len A B
  have z0 := hP_ok 0 1 (by omega) (by omega) (by omega) (by omega)
  rw [show ((0 : Int) : Rat) / ((1 : Nat) : Rat) = 0 by decide +kernel] at z0
  have hR : QB (2 ^ 40) (2 ^ 38) (mulq A B) := .of (by omega) fun k => by
    rw [cfq_mulq, ← cvq_take_all]
    have := hz (k + 1) k
    omega
  have t := nq_ok ((mulq A B).map crat) hR.gq
  rw [qvs_map] at t
  refine AC.by_walk (rs := [.tmp 4]) ords Tryz.func46 (by rfl) (by rfl) (by rfl) (by rfl) (by rfl) ?_
  simp (disch := omega) only [wk, tis, Int.reduceNe, Int.reduceEq, Int.reduceLT, Int.reduceLE, Int.reduceAdd, Int.reduceSub, Int.reduceNeg, Int.reduceMul, Int.reduceToNat, Nat.reduceSub, Nat.reduceMul, Nat.reduceLeDiff, Nat.reduceAdd, Nat.reduceLT, Nat.reduceEqDiff, reduceCtorEq, ↓reduceIte, rqs]
  refine aloop_nil 5 5 33 3 (by simp (disch := omega) only [wk, tis, Int.reduceNe, Int.reduceEq, Int.reduceLT, Int.reduceLE, Int.reduceAdd, Int.reduceSub, Int.reduceNeg, Int.reduceMul, Int.reduceToNat, Nat.reduceSub, Nat.reduceMul, Nat.reduceLeDiff, Nat.reduceAdd, Nat.reduceLT, Nat.reduceEqDiff, reduceCtorEq, ↓reduceIte, rqs]) (fun f H => ∃ (k st : Nat), k ≤ A.length + B.length ∧ f 6 = .iv (.int .i64 k) ∧ f 0 = .iv (.sl (rats (A.map crat))) ∧ f 1 = .iv (.sl (rats (B.map crat))) ∧ f 5 = .hs 5 st ∧ H 5 = .blk false st 33 3 (rats (((mulq A B).take k).map crat))) (fun f H => (A.length + B.length - intAt f 6).toNat) ?_ ?_
  · refine ⟨0, 1, by omega, ?_⟩
    simp (disch := omega) only [wk, tis, Int.reduceNe, Int.reduceEq, Int.reduceLT, Int.reduceLE, Int.reduceAdd, Int.reduceSub, Int.reduceNeg, Int.reduceMul, Int.reduceToNat, Nat.reduceSub, Nat.reduceMul, Nat.reduceLeDiff, Nat.reduceAdd, Nat.reduceLT, Nat.reduceEqDiff, reduceCtorEq, ↓reduceIte, rqs, ghostF, ghostH, List.take_zero, List.map_nil]
  rintro f H ⟨k, st, hk, hF⟩
  rw [intAt_of hF.1]
  simp (disch := omega) only [wk, tis, Int.reduceNe, Int.reduceEq, Int.reduceLT, Int.reduceLE, Int.reduceAdd, Int.reduceSub, Int.reduceNeg, Int.reduceMul, Int.reduceToNat, Nat.reduceSub, Nat.reduceMul, Nat.reduceLeDiff, Nat.reduceAdd, Nat.reduceLT, Nat.reduceEqDiff, reduceCtorEq, ↓reduceIte, rqs, hF]
  by_cases hlt : k < A.length + B.length
  · have hlt' : (k : Int) < (A.length : Int) + (B.length : Int) := by omega
    simp (disch := omega) only [wk, tis, Int.reduceNe, Int.reduceEq, Int.reduceLT, Int.reduceLE, Int.reduceAdd, Int.reduceSub, Int.reduceNeg, Int.reduceMul, Int.reduceToNat, Nat.reduceSub, Nat.reduceMul, Nat.reduceLeDiff, Nat.reduceAdd, Nat.reduceLT, Nat.reduceEqDiff, reduceCtorEq, ↓reduceIte, rqs, hF, hqa, hqb, hlt']
    refine call_by (z0) (by first | rfl | (simp only [tocvs, tocv, hF, hqa, hqb]; rfl) | (simp only [tocvs, tocv, toboxes, tobox, updH_at, Nat.reduceEqDiff, ↓reduceIte, hF, hqa, hqb]; rfl)) (by simp) ?_
    simp (disch := omega) only [wk, tis, Int.reduceNe, Int.reduceEq, Int.reduceLT, Int.reduceLE, Int.reduceAdd, Int.reduceSub, Int.reduceNeg, Int.reduceMul, Int.reduceToNat, Nat.reduceSub, Nat.reduceMul, Nat.reduceLeDiff, Nat.reduceAdd, Nat.reduceLT, Nat.reduceEqDiff, reduceCtorEq, ↓reduceIte, rqs, hF, hqa, hqb]
    refine aloop_by (fun f H => ∃ (i s7 : Nat), i ≤ k + 1 ∧ f 8 = .iv (.int .i64 i) ∧ f 6 = .iv (.int .i64 k) ∧ f 0 = .iv (.sl (rats (A.map crat))) ∧ f 1 = .iv (.sl (rats (B.map crat))) ∧ f 5 = .hs 5 st ∧ H 5 = .blk false st 33 3 (rats (((mulq A B).take k).map crat)) ∧ f 7 = .hp 7 s7 0 0 ∧ H 7 = .blk false s7 33 3 [qrow (crat (cvq (A.take i) (cfq B) k))]) (fun f H => (k + 1 - intAt f 8).toNat) ?_ ?_
    · refine ⟨0, (H 7).stamp + 1, by omega, ?_⟩
      simp (disch := omega) only [wk, tis, Int.reduceNe, Int.reduceEq, Int.reduceLT, Int.reduceLE, Int.reduceAdd, Int.reduceSub, Int.reduceNeg, Int.reduceMul, Int.reduceToNat, Nat.reduceSub, Nat.reduceMul, Nat.reduceLeDiff, Nat.reduceAdd, Nat.reduceLT, Nat.reduceEqDiff, reduceCtorEq, ↓reduceIte, rqs, hF, show crat (cvq (A.take 0) (cfq B) k) = crat 0 from rfl]
    rintro f H ⟨i, s7, hi, hF⟩
    rw [intAt_of hF.1]
    simp (disch := omega) only [wk, tis, Int.reduceNe, Int.reduceEq, Int.reduceLT, Int.reduceLE, Int.reduceAdd, Int.reduceSub, Int.reduceNeg, Int.reduceMul, Int.reduceToNat, Nat.reduceSub, Nat.reduceMul, Nat.reduceLeDiff, Nat.reduceAdd, Nat.reduceLT, Nat.reduceEqDiff, reduceCtorEq, ↓reduceIte, rqs, hF]
    by_cases hik : i ≤ k
    · have hik' : (i : Int) ≤ (k : Int) := by omega
      have es := cvq_take_succ (g := cfq B) A i k
      rw [if_pos hik] at es
      by_cases h1 : i < A.length
      · have h1' : (i : Int) < (A.length : Int) := by omega
        have e1 : (k : Int) - (i : Int) = ((k - i : Nat) : Int) := by omega
        by_cases h2 : k - i < B.length
        · have h2' : ((k - i : Nat) : Int) < (B.length : Int) := by omega
          have g1 := cratq_get h1
          have g2 := cratq_get h2
          have y1 := hA.cz (by omega) i
          have y2 := hB.cz (by omega) (k - i)
          have y3 := hz i k
          have y4 := qz_mul (cfq A i) (cfq B (k - i))
          have x := htimes_ok (crat (cfq A i)) (crat (cfq B (k - i))) (szq_crat (by omega)) (szq_crat (by omega)) (nv_crat0 _) (nv_crat0 _)
          have y := hplus_ok (crat (cvq (A.take i) (cfq B) k)) (crat (cfq A i * cfq B (k - i))) (szq_crat (by omega)) (szq_crat (by omega)) (nv_crat0 _) (nv_crat0 _)
          rw [qv_crat, qv_crat] at x y
          rw [← es] at y
          simp (disch := omega) only [wk, tis, Int.reduceNe, Int.reduceEq, Int.reduceLT, Int.reduceLE, Int.reduceAdd, Int.reduceSub, Int.reduceNeg, Int.reduceMul, Int.reduceToNat, Nat.reduceSub, Nat.reduceMul, Nat.reduceLeDiff, Nat.reduceAdd, Nat.reduceLT, Nat.reduceEqDiff, reduceCtorEq, ↓reduceIte, rqs, hF, hqa, hqb, hik', h1', e1, h2', g1, g2]
          refine ⟨tmps_by (by kernel_rfl), ?_⟩
          refine call_by (x) (by first | rfl | (simp only [tocvs, tocv, hF, hqa, hqb, g1, g2]; rfl) | (simp only [tocvs, tocv, toboxes, tobox, updH_at, Nat.reduceEqDiff, ↓reduceIte, hF, hqa, hqb, g1, g2]; rfl)) (by simp) ?_
          simp (disch := omega) only [wk, tis, Int.reduceNe, Int.reduceEq, Int.reduceLT, Int.reduceLE, Int.reduceAdd, Int.reduceSub, Int.reduceNeg, Int.reduceMul, Int.reduceToNat, Nat.reduceSub, Nat.reduceMul, Nat.reduceLeDiff, Nat.reduceAdd, Nat.reduceLT, Nat.reduceEqDiff, reduceCtorEq, ↓reduceIte, rqs, hF, hqa, hqb, g1, g2]
          refine call_by (y) (by first | rfl | (simp only [tocvs, tocv, hF, hqa, hqb, g1, g2]; rfl) | (simp only [tocvs, tocv, toboxes, tobox, updH_at, Nat.reduceEqDiff, ↓reduceIte, hF, hqa, hqb, g1, g2]; rfl)) (by simp) ?_
          simp (disch := omega) only [wk, tis, Int.reduceNe, Int.reduceEq, Int.reduceLT, Int.reduceLE, Int.reduceAdd, Int.reduceSub, Int.reduceNeg, Int.reduceMul, Int.reduceToNat, Nat.reduceSub, Nat.reduceMul, Nat.reduceLeDiff, Nat.reduceAdd, Nat.reduceLT, Nat.reduceEqDiff, reduceCtorEq, ↓reduceIte, rqs, hF, hqa, hqb, g1, g2]
          first | exact log_by (by kernel_rfl) | refine ⟨log_by (by kernel_rfl), ?_⟩
          refine ⟨⟨i + 1, s7, by omega, ?_⟩, by omega⟩
          (repeat' apply And.intro) <;> first | rfl | omega
        · have h2' : ¬ ((k - i : Nat) : Int) < (B.length : Int) := by omega
          rw [cfq_ge (q := B) (by omega), Rat.mul_zero, Rat.add_zero] at es
          simp (disch := omega) only [wk, tis, Int.reduceNe, Int.reduceEq, Int.reduceLT, Int.reduceLE, Int.reduceAdd, Int.reduceSub, Int.reduceNeg, Int.reduceMul, Int.reduceToNat, Nat.reduceSub, Nat.reduceMul, Nat.reduceLeDiff, Nat.reduceAdd, Nat.reduceLT, Nat.reduceEqDiff, reduceCtorEq, ↓reduceIte, rqs, hF, hqa, hqb, hik', h1', e1, h2']
          refine ⟨⟨i + 1, s7, by omega, ?_⟩, by omega⟩
          rw [es]
          (repeat' apply And.intro) <;> first | rfl | omega
      · have h1' : ¬ (i : Int) < (A.length : Int) := by omega
        rw [cfq_ge (q := A) (by omega), Rat.zero_mul, Rat.add_zero] at es
        simp (disch := omega) only [wk, tis, Int.reduceNe, Int.reduceEq, Int.reduceLT, Int.reduceLE, Int.reduceAdd, Int.reduceSub, Int.reduceNeg, Int.reduceMul, Int.reduceToNat, Nat.reduceSub, Nat.reduceMul, Nat.reduceLeDiff, Nat.reduceAdd, Nat.reduceLT, Nat.reduceEqDiff, reduceCtorEq, ↓reduceIte, rqs, hF, hqa, hqb, hik', h1']
        refine ⟨⟨i + 1, s7, by omega, ?_⟩, by omega⟩
        rw [es]
        (repeat' apply And.intro) <;> first | rfl | omega
    · have hik' : ¬ (i : Int) ≤ (k : Int) := by omega
      obtain rfl : i = k + 1 := by omega
      rw [cvq_take_all, ← cfq_mulq] at hF
      have hrq : (((mulq A B).take k).map crat).length = k := by rw [List.length_map, List.length_take]; omega
      have et := takeq_snoc (q := mulq A B) (i := k) (by omega)
      simp (disch := omega) only [wk, tis, Int.reduceNe, Int.reduceEq, Int.reduceLT, Int.reduceLE, Int.reduceAdd, Int.reduceSub, Int.reduceNeg, Int.reduceMul, Int.reduceToNat, Nat.reduceSub, Nat.reduceMul, Nat.reduceLeDiff, Nat.reduceAdd, Nat.reduceLT, Nat.reduceEqDiff, reduceCtorEq, ↓reduceIte, rqs, hF, hik', hrq]
      refine ⟨⟨k + 1, st + 1, by omega, ?_⟩, by omega⟩
      rw [et, List.map_append]
      (repeat' apply And.intro) <;> first | rfl | omega
  · have hlt' : ¬ (k : Int) < (A.length : Int) + (B.length : Int) := by omega
    rw [List.take_of_length_le (by omega)] at hF
    simp (disch := omega) only [wk, tis, Int.reduceNe, Int.reduceEq, Int.reduceLT, Int.reduceLE, Int.reduceAdd, Int.reduceSub, Int.reduceNeg, Int.reduceMul, Int.reduceToNat, Nat.reduceSub, Nat.reduceMul, Nat.reduceLeDiff, Nat.reduceAdd, Nat.reduceLT, Nat.reduceEqDiff, reduceCtorEq, ↓reduceIte, rqs, hF, hqa, hqb, hlt']
    refine call_by (t) (by first | rfl | (simp only [tocvs, tocv, hF]; rfl) | (simp only [tocvs, tocv, toboxes, tobox, updH_at, Nat.reduceEqDiff, ↓reduceIte, hF]; rfl)) (by simp) ?_
    simp (disch := omega) only [wk, tis, Int.reduceNe, Int.reduceEq, Int.reduceLT, Int.reduceLE, Int.reduceAdd, Int.reduceSub, Int.reduceNeg, Int.reduceMul, Int.reduceToNat, Nat.reduceSub, Nat.reduceMul, Nat.reduceLeDiff, Nat.reduceAdd, Nat.reduceLT, Nat.reduceEqDiff, reduceCtorEq, ↓reduceIte, rqs, hF]
    try rfl
theorem sameq11_self (a : List RQ) (ha : BQ (2 ^ 40) (2 ^ 40) a) : AC Tryz.prog 14 [cqw a, cqw a] none [cb true] := by
  have hl := ha.1
  refine AC.by_walk (rs := [.tmp 4]) ords Tryz.func14 (by rfl) (by rfl) (by rfl) (by rfl) (by rfl) ?_
  simp (disch := omega) only [wk, tis, Int.reduceNe, Int.reduceEq, Int.reduceLT, Int.reduceLE, Int.reduceAdd, Int.reduceSub, Int.reduceNeg, Int.reduceMul, Int.reduceToNat, Nat.reduceSub, Nat.reduceMul, Nat.reduceLeDiff, Nat.reduceAdd, Nat.reduceLT, Nat.reduceEqDiff, reduceCtorEq, ↓reduceIte, rqs]
  refine aloop_by (fun f H => ∃ (i : Nat), i ≤ a.length ∧ f 5 = .iv (.int .i64 i) ∧ f 0 = .iv (.sl (rats a)) ∧ f 1 = .iv (.sl (rats a))) (fun f H => (a.length - intAt f 5).toNat) ?_ ?_
  · refine ⟨0, by omega, ?_⟩
    simp (disch := omega) only [wk, tis, Int.reduceNe, Int.reduceEq, Int.reduceLT, Int.reduceLE, Int.reduceAdd, Int.reduceSub, Int.reduceNeg, Int.reduceMul, Int.reduceToNat, Nat.reduceSub, Nat.reduceMul, Nat.reduceLeDiff, Nat.reduceAdd, Nat.reduceLT, Nat.reduceEqDiff, reduceCtorEq, ↓reduceIte, rqs]
  rintro f H ⟨i, hi, hF⟩
  rw [intAt_of hF.1]
  simp (disch := omega) only [wk, tis, Int.reduceNe, Int.reduceEq, Int.reduceLT, Int.reduceLE, Int.reduceAdd, Int.reduceSub, Int.reduceNeg, Int.reduceMul, Int.reduceToNat, Nat.reduceSub, Nat.reduceMul, Nat.reduceLeDiff, Nat.reduceAdd, Nat.reduceLT, Nat.reduceEqDiff, reduceCtorEq, ↓reduceIte, rqs, hF]
  refine if_by (fun hlt => ?_) (fun hlt => ?_)
  · have hip : i < a.length := by omega
    have s := hsame_ok (a.getD i q0) (a.getD i q0) ((ha.get hip).mono (by omega)) ((ha.get hip).mono (by omega))
    rw [decide_eq_true rfl] at s
    simp (disch := omega) only [wk, tis, Int.reduceNe, Int.reduceEq, Int.reduceLT, Int.reduceLE, Int.reduceAdd, Int.reduceSub, Int.reduceNeg, Int.reduceMul, Int.reduceToNat, Nat.reduceSub, Nat.reduceMul, Nat.reduceLeDiff, Nat.reduceAdd, Nat.reduceLT, Nat.reduceEqDiff, reduceCtorEq, ↓reduceIte, rqs, hF]
    refine ⟨tmps_by (by kernel_rfl), ?_⟩
    refine call_by (s) (by first | rfl | (simp only [tocvs, tocv, hF]; rfl) | (simp only [tocvs, tocv, toboxes, tobox, updH_at, Nat.reduceEqDiff, ↓reduceIte, hF]; rfl)) (by simp) ?_
    simp (disch := omega) only [wk, tis, Int.reduceNe, Int.reduceEq, Int.reduceLT, Int.reduceLE, Int.reduceAdd, Int.reduceSub, Int.reduceNeg, Int.reduceMul, Int.reduceToNat, Nat.reduceSub, Nat.reduceMul, Nat.reduceLeDiff, Nat.reduceAdd, Nat.reduceLT, Nat.reduceEqDiff, reduceCtorEq, ↓reduceIte, rqs, hF]
    first | exact log_by (by kernel_rfl) | refine ⟨log_by (by kernel_rfl), ?_⟩
    refine ⟨⟨i + 1, by omega, ?_⟩, by omega⟩
    (repeat' apply And.intro) <;> first | rfl | omega
  · simp (disch := omega) only [wk, tis, Int.reduceNe, Int.reduceEq, Int.reduceLT, Int.reduceLE, Int.reduceAdd, Int.reduceSub, Int.reduceNeg, Int.reduceMul, Int.reduceToNat, Nat.reduceSub, Nat.reduceMul, Nat.reduceLeDiff, Nat.reduceAdd, Nat.reduceLT, Nat.reduceEqDiff, reduceCtorEq, ↓reduceIte, rqs, hF]
end Go.Proofs.YtaepoooifkjbmaaGreat

namespace Go.Proofs.YtaepoooifkjbmaaGreat
open Go Go.Proofs Go.AL
set_option linter.unusedSimpArgs false
set_option linter.unusedVariables false

/-! ### A polynomial at a polynomial, over the rationals -/
def cmq : List Rat → PQ → PQ
  | [], _ => 0
  | c :: p, Q => PQ.C c + Q * cmq p Q
theorem cmq_nil (Q : PQ) : cmq [] Q = 0 := rfl
theorem cmq_cons (c : Rat) (p : List Rat) (Q : PQ) : cmq (c :: p) Q = PQ.C c + Q * cmq p Q := rfl
theorem cmq_snoc (p : List Rat) (c : Rat) (Q : PQ) : cmq (p ++ [c]) Q = cmq p Q + PQ.C c * PQ.pw Q p.length := by
  induction p with
  | nil => rw [List.nil_append, cmq_cons, cmq_nil, PQ.mul_zero, PQ.add_zero, PQ.zero_add, List.length_nil, PQ.pw, PQ.mul_one]
  | cons d p ih =>
    rw [List.cons_append, cmq_cons, ih, cmq_cons, List.length_cons, PQ.pw, PQ.mul_add, PQ.add_assoc]
    congr 2
    rw [← PQ.mul_assoc, PQ.mul_comm Q (PQ.C c), PQ.mul_assoc, PQ.mul_comm Q]
theorem cmq_ext {Q : PQ} : ∀ {p q : List Rat}, (∀ k, cfq p k = cfq q k) → cmq p Q = cmq q Q
  | [], [], _ => rfl
  | [], d :: q, h => by
    have h0 : d = 0 := (h 0).symm
    rw [cmq_nil, cmq_cons, ← cmq_ext (p := []) (q := q) fun k => h (k + 1), h0, PQ.C_zero, cmq_nil, PQ.mul_zero, PQ.add_zero]
  | c :: p, [], h => by
    have h0 : c = 0 := h 0
    rw [cmq_nil, cmq_cons, cmq_ext (p := p) (q := []) fun k => h (k + 1), h0, PQ.C_zero, cmq_nil, PQ.mul_zero, PQ.add_zero]
  | c :: p, d :: q, h => by
    have h0 : c = d := h 0
    rw [cmq_cons, cmq_cons, cmq_ext (p := p) (q := q) fun k => h (k + 1), h0]

/-- Horner's steps. -/
def hoq (p Q : List Rat) : Nat → List Rat
  | 0 => []
  | k + 1 => addq (mulq (hoq p Q k) Q) [cfq p (p.length - 1 - k)]
theorem pq_hoq (p Q : List Rat) : ∀ k, k ≤ p.length → pq (hoq p Q k) = cmq (p.drop (p.length - k)) (pq Q)
  | 0, _ => by rw [Nat.sub_zero, List.drop_length, hoq, pq_nil, cmq_nil]
  | k + 1, hk => by
    rw [hoq, pq_addq, pq_mulq, pq_hoq p Q k (by omega), pq_const]
    have e := dropq_cf p (i := p.length - (k + 1)) (by omega)
    rw [e, cmq_cons, show p.length - (k + 1) + 1 = p.length - k by omega, show p.length - 1 - k = p.length - (k + 1) by omega, PQ.add_comm, PQ.mul_comm]
theorem hoq_cb {p Q : List Rat} {D n M m K N : Nat} (hQ : CB D n M Q) (hp : QB m K p) (hK : 1 ≤ K) (hn : 1 ≤ n) : ∀ k, k * n ≤ N → ∃ E, CB E (1 + k * n) (1 + k * (M + K + n + N + 2)) (hoq p Q k)
  | 0, _ => ⟨1, by omega, by rw [Nat.zero_mul]; decide +kernel, Nat.zero_le _, fun c hc => nomatch hc⟩
  | k + 1, hk => by
    have e1 : (k + 1) * n = k * n + n := Nat.succ_mul k n
    obtain ⟨E, hE⟩ := hoq_cb (N := N) hQ hp hK hn k (by omega)
    have e2 : (k + 1) * (M + K + n + N + 2) = k * (M + K + n + N + 2) + (M + K + n + N + 2) := Nat.succ_mul k _
    have hc := CB.const (hp.cz hK (p.length - 1 - k))
    rw [hoq]
    exact ⟨_, ((hE.mulq hQ).addq hc).mono (by omega) (by omega)⟩

/-- The document's steps: power by power. -/
def csq (p Q : List Rat) : Nat → List Rat
  | 0 => []
  | k + 1 => addq (csq p Q k) (sclq (cfq p k) (powq Q k))
theorem pq_csq (p Q : List Rat) : ∀ k, k ≤ p.length → pq (csq p Q k) = cmq (p.take k) (pq Q)
  | 0, _ => by rw [List.take_zero, csq, pq_nil, cmq_nil]
  | k + 1, hk => by
    rw [csq, pq_addq, pq_sclq, pq_powq, pq_csq p Q k (by omega), takeq_snoc (by omega), cmq_snoc, List.length_take, Nat.min_eq_left (by omega)]
theorem CB.sclq {D n M K : Nat} {A : List Rat} {c : Rat} (h : CB D n M A) (hc : qz c ≤ K) : CB (D * c.den) n (M + K) (sclq c A) where
  d := Nat.mul_ne_zero h.d c.den_nz
  w := by
    have h1 := AL.wd_mul_len D c.den
    have h2 := h.w
    have h3 := (qz_parts c).2
    omega
  l := by simp only [Go.Proofs.YtaepoooifkjbmaaGreat.sclq, List.length_map]; exact h.l
  c := fun x hx => by
    obtain ⟨y, hy, rfl⟩ := List.mem_map.1 hx
    exact CD.mul h.d c.den_nz (h.c y hy) ((CD.ofRat c).mono (Nat.le_trans (qz_parts c).1 hc))
theorem csq_cb {p Q : List Rat} {D n M m K c : Nat} (hQ : CB D n M Q) (hp : QB m K p) (hK : 1 ≤ K) : ∀ k, 1 + k * n ≤ c → ∃ E, CB E c (1 + k * (1 + k * (M + n + c) + K + 1)) (csq p Q k)
  | 0, _ => ⟨1, by omega, by rw [Nat.zero_mul]; decide +kernel, Nat.zero_le _, fun c hc => nomatch hc⟩
  | k + 1, hk => by
    have e1 : (k + 1) * n = k * n + n := Nat.succ_mul k n
    obtain ⟨E, hE⟩ := csq_cb (c := c) hQ hp hK k (by omega)
    obtain ⟨F, hF⟩ := powq_cb (c := c) hQ k (by omega)
    have hs := hF.sclq (hp.cz hK k)
    rw [csq]
    refine ⟨_, (hE.addq hs).mono (by omega) ?_⟩
    have e2 : (k + 1) * (M + n + c) = k * (M + n + c) + (M + n + c) := Nat.succ_mul k _
    have e3 : k * (1 + k * (M + n + c) + K + 1) ≤ k * (1 + (k + 1) * (M + n + c) + K + 1) := Nat.mul_le_mul_left _ (by omega)
    have e4 : (k + 1) * (1 + (k + 1) * (M + n + c) + K + 1) = k * (1 + (k + 1) * (M + n + c) + K + 1) + (1 + (k + 1) * (M + n + c) + K + 1) := Nat.succ_mul k _
    omega
/-- Both are the same. -/
theorem hoq_csq (p Q : List Rat) : pq (hoq p Q p.length) = pq (csq p Q p.length) := by
  rw [pq_hoq p Q _ (Nat.le_refl _), pq_csq p Q _ (Nat.le_refl _), Nat.sub_self, List.drop_zero, List.take_length]
end Go.Proofs.YtaepoooifkjbmaaGreat

namespace Go.Proofs.YtaepoooifkjbmaaGreat
open Go Go.Proofs Go.AL
open Go.RowKit Go.Shelf
set_option linter.unusedSimpArgs false
set_option linter.unusedVariables false
attribute [local go_sem] Oper.semAt_some

set_option maxRecDepth 100000 in
set_option maxHeartbeats 4000000 in
theorem back_in (F : Fence) (n : Nat) (h7 : F.fn 57) (hro : F.round = none) (hn : 1 ≤ n) (l Bs Bo b off len cap : Nat) (cell : Nat → Nat → Value) (n0 : Nat) (D : Nat → Prop) (hlen : (len : Int) * 32 ≤ 140737488351232) (J Jx : Nat → World → Prop) (w : World)
    (hBs0 : Bs < n0) (hBs1 : ¬ D Bs) (hb0 : b < n0) (hb1 : ¬ D b)
    (hY : ∀ k W1, k < len → J k W1 → YieldAt F (n - 1) Tryz.prog l #[.int .i64 ((len : Int) - 1 - k), .agg #[cell (len - 1 - k) 0, cell (len - 1 - k) 1]] W1 fun e W' => (e = .returned (.bool true) ∧ J (k + 1) W' ∧ Kept D n0 W1 W') ∨ (e = .returned (.bool false) ∧ Jx k W'))
    (hw : w.cell? ⟨Bs, Bo, none⟩ = some (.slice (some ⟨b, off, none⟩) len cap)) (hc : ∀ i, i < len → w.cell? ⟨b, off + i * 2, none⟩ = some (cell i 0) ∧ w.cell? ⟨b, off + i * 2 + 1, none⟩ = some (cell i 1))
    (W : World) (hk : Kept D n0 w W) (h0 : J 0 W) :
    CallsIn F n Tryz.prog 57 #[.func (.yield l) #[] #[], .pointer (some ⟨Bs, Bo, none⟩)] W fun e W' => (∃ v, e = .returned v) ∧ (J len W' ∨ ∃ k, Jx k W') := by
  refine callsIn_of_wp Tryz.func57 rfl h7 ?_ hro
  simp only [Tryz.ntmps57, List.size_toArray, List.length_cons, List.length_nil, Nat.reduceAdd, Nat.reduceSub, Array.replicate_succ, Array.replicate_zero, List.push_toArray, List.append_toArray, List.nil_append, List.cons_append]
  have kc : ∀ {W' : World} {g o : Nat} {v : Value}, Kept D n0 w W' → g < n0 → ¬ D g → w.cell? ⟨g, o, none⟩ = some v → W'.cell? ⟨g, o, none⟩ = some v := fun hk hg hD hv => by
    rw [World.cell?_of_block (hk _ hg hD (cells_of_cell hv))]; exact hv
  have hW := kc hk hBs0 hBs1 hw
  gi_wp2
  gi_loopw [3] (fun i wr => ∃ k : Nat, k ≤ len ∧ i = .int .i64 ((len : Int) - 1 - k) ∧ J k wr ∧ Kept D n0 w wr)
    (fun i _ => (intOf i + 1).toNat)
  case atStart => exact ⟨0, Nat.zero_le _, by congr 1; omega, h0, hk⟩
  case round =>
    obtain ⟨k, hkl, rfl, hJs, hnx⟩ := hrel
    have hWr := kc hnx hBs0 hBs1 hw
    by_cases hlt : k < len
    · obtain ⟨fn, tmps, assign, body, hy, hR⟩ := hY k wr hlt hJs
      obtain ⟨hc0, hc1⟩ := hc (len - 1 - k) (by omega)
      have hcx0 := kc hnx hb0 hb1 hc0
      have hcx1 := kc hnx hb0 hb1 hc1
      have hge : (k : Int) ≤ (len : Int) - 1 := by omega
      gi_wp2
      refine hR.mono ?_
      rintro e W3 (⟨rfl, hJ3, hk3⟩ | ⟨rfl, hJx3⟩)
      · gi_wp2
        go_roundw
        case rel => exact ⟨k + 1, by omega, by congr 1; omega, hJ3, hnx.trans hk3⟩
        case measure => simp [intOf]; omega
      · gi_wp2
        refine bodyPost_ret (results_none rfl _ _ _) rfl ?_
        exact ⟨⟨_, rfl⟩, .inr ⟨_, hJx3⟩⟩
    · obtain rfl : k = len := by omega
      have hge : ¬ ((k : Int) ≤ (k : Int) - 1) := by omega
      gi_wp2
      go_end0
      exact ⟨⟨_, rfl⟩, .inl hJs⟩

set_option maxRecDepth 100000 in
set_option maxHeartbeats 1000000 in
theorem back_nil_in (F : Fence) (n : Nat) (h7 : F.fn 57) (hro : F.round = none) (l Bs Bo : Nat) (a : Option Addr) (cap : Nat) (J : World → Prop)
    (W : World) (hW : W.cell? ⟨Bs, Bo, none⟩ = some (.slice a 0 cap)) (h0 : J W) :
    CallsIn F n Tryz.prog 57 #[.func (.yield l) #[] #[], .pointer (some ⟨Bs, Bo, none⟩)] W fun e W' => (∃ v, e = .returned v) ∧ J W' := by
  refine callsIn_of_wp Tryz.func57 rfl h7 ?_ hro
  simp only [Tryz.ntmps57, List.size_toArray, List.length_cons, List.length_nil, Nat.reduceAdd, Nat.reduceSub, Array.replicate_succ, Array.replicate_zero, List.push_toArray, List.append_toArray, List.nil_append, List.cons_append]
  gi_wp2
  gi_loopw [3] (fun i wr => i = .int .i64 (-1) ∧ J wr) (fun _ _ => 0)
  case atStart => exact ⟨rfl, h0⟩
  case round =>
    obtain ⟨rfl, hJs⟩ := hrel
    gi_wp2
    go_end0
    exact ⟨⟨_, rfl⟩, hJs⟩

theorem run_enter_back : ∀ args w, (callFunc 57 args).run Tryz.prog w = .ok (.enter 57 args) w := enters_of Tryz.func57 (by kernel_rfl) rfl

/-- slices.Backward's closure is an iterator: the last first. -/
theorem back_iter {rows : List (List IV)} (h2 : ∀ r ∈ rows, r.length = 2) (hlen : (rows.length : Int) * 32 ≤ 140737488351232) : AIter Tryz.prog 57 [[.sl rows]] 2 rows.length
    (fun k => [ci ((rows.length : Int) - 1 - k), .agg (rows.getD (rows.length - 1 - k) [])]) := by
  refine ⟨run_enter_back, fun w D vs hD hb => ?_⟩
  match vs, hb with
  | ⟨[v]⟩, hb =>
    obtain ⟨⟨Bs, Bo, rfl, hDb, us, hus, hcs⟩, -⟩ := hb
    match us, hus with
    | [u], hus =>
      have hcell : w.cell? ⟨Bs, Bo, none⟩ = some u := by simpa using hcs 0 u rfl
      have hBs1 := hDb (by simp)
      have hBs0 := World.block_lt_of_cell? w _ hcell
      generalize hx : IV.sl rows = x at hus
      cases hus.1 with
      | int => cases hx
      | bool => cases hx
      | raw => cases hx
      | nil a cap hcap =>
        cases hx
        refine ⟨fun _ => #[Go.undef, Go.undef], fun _ => rfl, fun k hk => absurd hk (by simp), fun l J Jx W hk hs _ _ hY h0 => ?_⟩
        have hW : W.cell? ⟨Bs, Bo, none⟩ = some (.slice a 0 cap) := by
          rw [World.cell?_of_block (hk _ hBs0 hBs1 (cells_of_cell hcell))]; exact hcell
        exact ((back_nil_in (Wd none) 0 trivial rfl l Bs Bo a cap (J 0) W hW h0).mono fun e W' h => ⟨h.1, .inl h.2⟩)
      | sl rows' g o cap sz cell hsz hle hcap hg hD' hc hr =>
        cases hx
        have goW : ∀ {W : World}, Kept D w.heap.size w W → W.cell? ⟨Bs, Bo, none⟩ = some (.slice (some ⟨g, o, none⟩) rows.length cap) := fun hk => by
          rw [World.cell?_of_block (hk _ hBs0 hBs1 (cells_of_cell hcell))]; exact hcell
        by_cases hne : rows = []
        · subst hne
          refine ⟨fun _ => #[Go.undef, Go.undef], fun _ => rfl, fun k hk => absurd hk (by simp), fun l J Jx W hk hs _ _ hY h0 => ?_⟩
          exact ((back_nil_in (Wd none) 0 trivial rfl l Bs Bo _ cap (J 0) W (goW hk) h0).mono fun e W' h => ⟨h.1, .inl h.2⟩)
        · obtain ⟨r0, hr0⟩ : ∃ r, rows[0]? = some r := ⟨rows[0]'(List.length_pos_iff.2 hne), by simp⟩
          obtain rfl : sz = 2 := (hsz 0 r0 hr0).symm.trans (h2 r0 (List.mem_of_getElem? hr0))
          have hro : ∀ i, i < rows.length → ∃ x y, rows[i]? = some [x, y] := fun i hi => by
            have e : rows[i]? = some rows[i] := by simp [hi]
            have hl := h2 rows[i] (List.mem_of_getElem? e)
            match hm : rows[i], hl with
            | [x, y], _ => exact ⟨x, y, by rw [e, hm]⟩
          refine ⟨fun k => #[.int .i64 ((rows.length : Int) - 1 - k), .agg #[cell (rows.length - 1 - k) 0, cell (rows.length - 1 - k) 1]], fun _ => rfl, fun k hk => ?_, fun l J Jx W hk hs _ _ hY h0 => ?_⟩
          · obtain ⟨x, y, he⟩ := hro (rows.length - 1 - k) (by omega)
            refine ⟨Rep.int _ _, ⟨_, rfl, ?_⟩, trivial⟩
            have hg2 : rows.getD (rows.length - 1 - k) [] = [x, y] := by rw [List.getD_eq_getElem?_getD, he]; rfl
            rw [hg2]
            exact ⟨hr _ _ he 0 x rfl, hr _ _ he 1 y rfl, trivial⟩
          · have h := back_in (Wd none) 1 trivial rfl (Nat.le_refl _) l Bs Bo g o rows.length cap cell w.heap.size D hlen J Jx w hBs0 hBs1 hg hD' hY hcell (fun i hi => by
              obtain ⟨x, y, he⟩ := hro i hi
              exact ⟨hc _ _ he 0 x rfl, hc _ _ he 1 y rfl⟩) W hk h0
            exact ⟨trivial, fun cs _ => h.2 cs (room_wd _ _)⟩

theorem back_ok (rows : List (List IV)) : AC Tryz.prog 31 [.iv (.sl rows)] none [.fn 57 [[.sl rows]]] := by
  refine AC.by_walk (rs := [.tmp 2]) ords Tryz.func31 (by rfl) (by rfl) (by rfl) (by rfl) (by rfl) ?_
  simp (disch := omega) only [wk, tis, Int.reduceNe, Int.reduceEq, Int.reduceLT, Int.reduceLE, Int.reduceAdd, Int.reduceSub, Int.reduceNeg, Int.reduceMul, Int.reduceToNat, Nat.reduceSub, Nat.reduceMul, Nat.reduceLeDiff, Nat.reduceAdd, Nat.reduceLT, Nat.reduceEqDiff, reduceCtorEq, ↓reduceIte]
end Go.Proofs.YtaepoooifkjbmaaGreat

namespace Go.Proofs.YtaepoooifkjbmaaGreat
open Go Go.Proofs Go.AL
open Go.RowKit Go.Shelf
set_option linter.unusedSimpArgs false
set_option linter.unusedVariables false
attribute [local go_sem] Oper.semAt_some

set_option maxRecDepth 100000 in
set_option maxHeartbeats 4000000 in
theorem backq_in (F : Fence) (n : Nat) (h7 : F.fn 99) (hro : F.round = none) (hn : 1 ≤ n) (l Bs Bo b off len cap : Nat) (cell : Nat → Nat → Value) (n0 : Nat) (D : Nat → Prop) (hlen : (len : Int) * 56 ≤ 140737488351232) (J Jx : Nat → World → Prop) (w : World)
    (hBs0 : Bs < n0) (hBs1 : ¬ D Bs) (hb0 : b < n0) (hb1 : ¬ D b)
    (hY : ∀ k W1, k < len → J k W1 → YieldAt F (n - 1) Tryz.prog l #[.int .i64 ((len : Int) - 1 - k), .agg #[cell (len - 1 - k) 0, cell (len - 1 - k) 1, cell (len - 1 - k) 2]] W1 fun e W' => (e = .returned (.bool true) ∧ J (k + 1) W' ∧ Kept D n0 W1 W') ∨ (e = .returned (.bool false) ∧ Jx k W'))
    (hw : w.cell? ⟨Bs, Bo, none⟩ = some (.slice (some ⟨b, off, none⟩) len cap)) (hc : ∀ i, i < len → w.cell? ⟨b, off + i * 3, none⟩ = some (cell i 0) ∧ w.cell? ⟨b, off + i * 3 + 1, none⟩ = some (cell i 1) ∧ w.cell? ⟨b, off + i * 3 + 2, none⟩ = some (cell i 2))
    (W : World) (hk : Kept D n0 w W) (h0 : J 0 W) :
    CallsIn F n Tryz.prog 99 #[.func (.yield l) #[] #[], .pointer (some ⟨Bs, Bo, none⟩)] W fun e W' => (∃ v, e = .returned v) ∧ (J len W' ∨ ∃ k, Jx k W') := by
  refine callsIn_of_wp Tryz.func99 rfl h7 ?_ hro
  simp only [Tryz.ntmps99, List.size_toArray, List.length_cons, List.length_nil, Nat.reduceAdd, Nat.reduceSub, Array.replicate_succ, Array.replicate_zero, List.push_toArray, List.append_toArray, List.nil_append, List.cons_append]
  have kc : ∀ {W' : World} {g o : Nat} {v : Value}, Kept D n0 w W' → g < n0 → ¬ D g → w.cell? ⟨g, o, none⟩ = some v → W'.cell? ⟨g, o, none⟩ = some v := fun hk hg hD hv => by
    rw [World.cell?_of_block (hk _ hg hD (cells_of_cell hv))]; exact hv
  have hW := kc hk hBs0 hBs1 hw
  gi_wp2
  gi_loopw [3] (fun i wr => ∃ k : Nat, k ≤ len ∧ i = .int .i64 ((len : Int) - 1 - k) ∧ J k wr ∧ Kept D n0 w wr)
    (fun i _ => (intOf i + 1).toNat)
  case atStart => exact ⟨0, Nat.zero_le _, by congr 1; omega, h0, hk⟩
  case round =>
    obtain ⟨k, hkl, rfl, hJs, hnx⟩ := hrel
    have hWr := kc hnx hBs0 hBs1 hw
    by_cases hlt : k < len
    · obtain ⟨fn, tmps, assign, body, hy, hR⟩ := hY k wr hlt hJs
      obtain ⟨hc0, hc1, hc2⟩ := hc (len - 1 - k) (by omega)
      have hcx0 := kc hnx hb0 hb1 hc0
      have hcx1 := kc hnx hb0 hb1 hc1
      have hcx2 := kc hnx hb0 hb1 hc2
      have hge : (k : Int) ≤ (len : Int) - 1 := by omega
      gi_wp2
      refine hR.mono ?_
      rintro e W3 (⟨rfl, hJ3, hk3⟩ | ⟨rfl, hJx3⟩)
      · gi_wp2
        go_roundw
        case rel => exact ⟨k + 1, by omega, by congr 1; omega, hJ3, hnx.trans hk3⟩
        case measure => simp [intOf]; omega
      · gi_wp2
        refine bodyPost_ret (results_none rfl _ _ _) rfl ?_
        exact ⟨⟨_, rfl⟩, .inr ⟨_, hJx3⟩⟩
    · obtain rfl : k = len := by omega
      have hge : ¬ ((k : Int) ≤ (k : Int) - 1) := by omega
      gi_wp2
      go_end0
      exact ⟨⟨_, rfl⟩, .inl hJs⟩

set_option maxRecDepth 100000 in
set_option maxHeartbeats 1000000 in
theorem backq_nil_in (F : Fence) (n : Nat) (h7 : F.fn 99) (hro : F.round = none) (l Bs Bo : Nat) (a : Option Addr) (cap : Nat) (J : World → Prop)
    (W : World) (hW : W.cell? ⟨Bs, Bo, none⟩ = some (.slice a 0 cap)) (h0 : J W) :
    CallsIn F n Tryz.prog 99 #[.func (.yield l) #[] #[], .pointer (some ⟨Bs, Bo, none⟩)] W fun e W' => (∃ v, e = .returned v) ∧ J W' := by
  refine callsIn_of_wp Tryz.func99 rfl h7 ?_ hro
  simp only [Tryz.ntmps99, List.size_toArray, List.length_cons, List.length_nil, Nat.reduceAdd, Nat.reduceSub, Array.replicate_succ, Array.replicate_zero, List.push_toArray, List.append_toArray, List.nil_append, List.cons_append]
  gi_wp2
  gi_loopw [3] (fun i wr => i = .int .i64 (-1) ∧ J wr) (fun _ _ => 0)
  case atStart => exact ⟨rfl, h0⟩
  case round =>
    obtain ⟨rfl, hJs⟩ := hrel
    gi_wp2
    go_end0
    exact ⟨⟨_, rfl⟩, hJs⟩

theorem run_enter_backq : ∀ args w, (callFunc 99 args).run Tryz.prog w = .ok (.enter 99 args) w := enters_of Tryz.func99 (by kernel_rfl) rfl

/-- slices.Backward's closure is an iterator: the last first. -/
theorem backq_iter {rows : List (List IV)} (h2 : ∀ r ∈ rows, r.length = 3) (hlen : (rows.length : Int) * 56 ≤ 140737488351232) : AIter Tryz.prog 99 [[.sl rows]] 2 rows.length
    (fun k => [ci ((rows.length : Int) - 1 - k), .agg (rows.getD (rows.length - 1 - k) [])]) := by
  refine ⟨run_enter_backq, fun w D vs hD hb => ?_⟩
  match vs, hb with
  | ⟨[v]⟩, hb =>
    obtain ⟨⟨Bs, Bo, rfl, hDb, us, hus, hcs⟩, -⟩ := hb
    match us, hus with
    | [u], hus =>
      have hcell : w.cell? ⟨Bs, Bo, none⟩ = some u := by simpa using hcs 0 u rfl
      have hBs1 := hDb (by simp)
      have hBs0 := World.block_lt_of_cell? w _ hcell
      generalize hx : IV.sl rows = x at hus
      cases hus.1 with
      | int => cases hx
      | bool => cases hx
      | raw => cases hx
      | nil a cap hcap =>
        cases hx
        refine ⟨fun _ => #[Go.undef, Go.undef], fun _ => rfl, fun k hk => absurd hk (by simp), fun l J Jx W hk hs _ _ hY h0 => ?_⟩
        have hW : W.cell? ⟨Bs, Bo, none⟩ = some (.slice a 0 cap) := by
          rw [World.cell?_of_block (hk _ hBs0 hBs1 (cells_of_cell hcell))]; exact hcell
        exact ((backq_nil_in (Wd none) 0 trivial rfl l Bs Bo a cap (J 0) W hW h0).mono fun e W' h => ⟨h.1, .inl h.2⟩)
      | sl rows' g o cap sz cell hsz hle hcap hg hD' hc hr =>
        cases hx
        have goW : ∀ {W : World}, Kept D w.heap.size w W → W.cell? ⟨Bs, Bo, none⟩ = some (.slice (some ⟨g, o, none⟩) rows.length cap) := fun hk => by
          rw [World.cell?_of_block (hk _ hBs0 hBs1 (cells_of_cell hcell))]; exact hcell
        by_cases hne : rows = []
        · subst hne
          refine ⟨fun _ => #[Go.undef, Go.undef], fun _ => rfl, fun k hk => absurd hk (by simp), fun l J Jx W hk hs _ _ hY h0 => ?_⟩
          exact ((backq_nil_in (Wd none) 0 trivial rfl l Bs Bo _ cap (J 0) W (goW hk) h0).mono fun e W' h => ⟨h.1, .inl h.2⟩)
        · obtain ⟨r0, hr0⟩ : ∃ r, rows[0]? = some r := ⟨rows[0]'(List.length_pos_iff.2 hne), by simp⟩
          obtain rfl : sz = 3 := (hsz 0 r0 hr0).symm.trans (h2 r0 (List.mem_of_getElem? hr0))
          have hro : ∀ i, i < rows.length → ∃ x y z, rows[i]? = some [x, y, z] := fun i hi => by
            have e : rows[i]? = some rows[i] := by simp [hi]
            have hl := h2 rows[i] (List.mem_of_getElem? e)
            match hm : rows[i], hl with
            | [x, y, z], _ => exact ⟨x, y, z, by rw [e, hm]⟩
          refine ⟨fun k => #[.int .i64 ((rows.length : Int) - 1 - k), .agg #[cell (rows.length - 1 - k) 0, cell (rows.length - 1 - k) 1, cell (rows.length - 1 - k) 2]], fun _ => rfl, fun k hk => ?_, fun l J Jx W hk hs _ _ hY h0 => ?_⟩
          · obtain ⟨x, y, z, he⟩ := hro (rows.length - 1 - k) (by omega)
            refine ⟨Rep.int _ _, ⟨_, rfl, ?_⟩, trivial⟩
            have hg2 : rows.getD (rows.length - 1 - k) [] = [x, y, z] := by rw [List.getD_eq_getElem?_getD, he]; rfl
            rw [hg2]
            exact ⟨hr _ _ he 0 x rfl, hr _ _ he 1 y rfl, hr _ _ he 2 z rfl, trivial⟩
          · have h := backq_in (Wd none) 1 trivial rfl (Nat.le_refl _) l Bs Bo g o rows.length cap cell w.heap.size D hlen J Jx w hBs0 hBs1 hg hD' hY hcell (fun i hi => by
              obtain ⟨x, y, z, he⟩ := hro i hi
              exact ⟨hc _ _ he 0 x rfl, hc _ _ he 1 y rfl, hc _ _ he 2 z rfl⟩) W hk h0
            exact ⟨trivial, fun cs _ => h.2 cs (room_wd _ _)⟩

theorem backq_ok (rows : List (List IV)) : AC Tryz.prog 69 [.iv (.sl rows)] none [.fn 99 [[.sl rows]]] := by
  refine AC.by_walk (rs := [.tmp 2]) ords Tryz.func69 (by rfl) (by rfl) (by rfl) (by rfl) (by rfl) ?_
  simp (disch := omega) only [wk, tis, Int.reduceNe, Int.reduceEq, Int.reduceLT, Int.reduceLE, Int.reduceAdd, Int.reduceSub, Int.reduceNeg, Int.reduceMul, Int.reduceToNat, Nat.reduceSub, Nat.reduceMul, Nat.reduceLeDiff, Nat.reduceAdd, Nat.reduceLT, Nat.reduceEqDiff, reduceCtorEq, ↓reduceIte]
end Go.Proofs.YtaepoooifkjbmaaGreat

namespace Go.Proofs.YtaepoooifkjbmaaGreat
open Go Go.Proofs Go.AL
set_option linter.unusedSimpArgs false
set_option linter.unusedVariables false

set_option maxRecDepth 100000 in
theorem galllcm_cb (l : List Nat) (K : Nat) (hM : ∀ i, (wd (lcmL (l.take i))).length ≤ K) (hl : l.length ≤ 2 ^ 30) (h0 : ∀ x ∈ l, x ≠ 0) (hK : ∀ x ∈ l, (wd x).length ≤ K) (hB : K ≤ 2 ^ 34) : AC Tryz.prog 126 [.iv (.sl (natsr (l.map wd)))] none [cl (wd (lcmL l))] := by
  have o := nof_ok 1 (by decide)
  have hml : (l.map wd).length = l.length := List.length_map _
  have e0 : wd (lcmL (l.take 0)) = wd 1 := by rw [List.take_zero]; rfl
  refine AC.by_walk (rs := [.tmp 2]) ords Tryz.func126 (by rfl) (by rfl) (by rfl) (by rfl) (by rfl) ?_
  simp (disch := omega) only [wk, tis, Int.reduceNe, Int.reduceEq, Int.reduceLT, Int.reduceLE, Int.reduceAdd, Int.reduceSub, Int.reduceNeg, Int.reduceMul, Int.reduceToNat, Nat.reduceSub, Nat.reduceMul, Nat.reduceLeDiff, Nat.reduceAdd, Nat.reduceLT, Nat.reduceEqDiff, reduceCtorEq, ↓reduceIte, rqs, natsr_len, natsr_at, natsr_snoc, natsr_app, natsr_rows, natsr_nil]
  refine call_by (o) (by rfl) (by simp) ?_
  simp (disch := omega) only [wk, tis, Int.reduceNe, Int.reduceEq, Int.reduceLT, Int.reduceLE, Int.reduceAdd, Int.reduceSub, Int.reduceNeg, Int.reduceMul, Int.reduceToNat, Nat.reduceSub, Nat.reduceMul, Nat.reduceLeDiff, Nat.reduceAdd, Nat.reduceLT, Nat.reduceEqDiff, reduceCtorEq, ↓reduceIte, rqs, natsr_len, natsr_at, natsr_snoc, natsr_app, natsr_rows, natsr_nil]
  refine aloop_by (fun f H => ∃ (i : Nat), i ≤ l.length ∧ f 9 = .iv (.int .i64 i) ∧ f 7 = .iv (.sl (natsr (l.map wd))) ∧ f 8 = .iv (.int .i64 l.length) ∧ f 3 = .iv (.sl (lims (wd (lcmL (l.take i)))))) (fun f H => (l.length - intAt f 9).toNat) ?_ ?_
  · refine ⟨0, by omega, ?_⟩
    simp (disch := omega) only [wk, tis, Int.reduceNe, Int.reduceEq, Int.reduceLT, Int.reduceLE, Int.reduceAdd, Int.reduceSub, Int.reduceNeg, Int.reduceMul, Int.reduceToNat, Nat.reduceSub, Nat.reduceMul, Nat.reduceLeDiff, Nat.reduceAdd, Nat.reduceLT, Nat.reduceEqDiff, reduceCtorEq, ↓reduceIte, rqs, natsr_len, natsr_at, natsr_snoc, natsr_app, natsr_rows, natsr_nil, e0, hml]
  rintro f H ⟨i, hi, hF⟩
  rw [intAt_of hF.1]
  simp (disch := omega) only [wk, tis, Int.reduceNe, Int.reduceEq, Int.reduceLT, Int.reduceLE, Int.reduceAdd, Int.reduceSub, Int.reduceNeg, Int.reduceMul, Int.reduceToNat, Nat.reduceSub, Nat.reduceMul, Nat.reduceLeDiff, Nat.reduceAdd, Nat.reduceLT, Nat.reduceEqDiff, reduceCtorEq, ↓reduceIte, rqs, natsr_len, natsr_at, natsr_snoc, natsr_app, natsr_rows, natsr_nil, hF]
  refine if_by (fun hlt => ?_) (fun hlt => ?_)
  · have hlt' : i < l.length := by omega
    obtain ⟨a1, a2, a3⟩ := lcmL_facts l K h0 hK i hi
    have hm : l.getD i 0 ∈ l := by rw [List.getD, List.getElem?_eq_getElem hlt', Option.getD_some]; exact List.getElem_mem _
    have hg : (l.map wd).getD i [] = wd (l.getD i 0) := by simp [List.getD, hlt']
    have hk := hK _ hm
    have h2 := hM i
    have m := glcm_ok (wd (lcmL (l.take i))) (wd (l.getD i 0)) ⟨by omega, lim_wd _⟩ ⟨by omega, lim_wd _⟩ (by rw [nv_wd]; exact a1) (by rw [nv_wd]; exact h0 _ hm)
    rw [nv_wd, nv_wd, ← lcmL_take hlt'] at m
    simp (disch := omega) only [wk, tis, Int.reduceNe, Int.reduceEq, Int.reduceLT, Int.reduceLE, Int.reduceAdd, Int.reduceSub, Int.reduceNeg, Int.reduceMul, Int.reduceToNat, Nat.reduceSub, Nat.reduceMul, Nat.reduceLeDiff, Nat.reduceAdd, Nat.reduceLT, Nat.reduceEqDiff, reduceCtorEq, ↓reduceIte, rqs, natsr_len, natsr_at, natsr_snoc, natsr_app, natsr_rows, natsr_nil, hF, hml, hg]
    refine call_by (m) (by first | rfl | (simp only [tocvs, tocv, hF, hml, hg]; rfl) | (simp only [tocvs, tocv, toboxes, tobox, updH_at, Nat.reduceEqDiff, ↓reduceIte, hF, hml, hg]; rfl)) (by simp) ?_
    simp (disch := omega) only [wk, tis, Int.reduceNe, Int.reduceEq, Int.reduceLT, Int.reduceLE, Int.reduceAdd, Int.reduceSub, Int.reduceNeg, Int.reduceMul, Int.reduceToNat, Nat.reduceSub, Nat.reduceMul, Nat.reduceLeDiff, Nat.reduceAdd, Nat.reduceLT, Nat.reduceEqDiff, reduceCtorEq, ↓reduceIte, rqs, natsr_len, natsr_at, natsr_snoc, natsr_app, natsr_rows, natsr_nil, hF, hml, hg]
    refine ⟨⟨i + 1, by omega, ?_⟩, by omega⟩
    (repeat' apply And.intro) <;> first | rfl | omega
  · simp (disch := omega) only [wk, tis, Int.reduceNe, Int.reduceEq, Int.reduceLT, Int.reduceLE, Int.reduceAdd, Int.reduceSub, Int.reduceNeg, Int.reduceMul, Int.reduceToNat, Nat.reduceSub, Nat.reduceMul, Nat.reduceLeDiff, Nat.reduceAdd, Nat.reduceLT, Nat.reduceEqDiff, reduceCtorEq, ↓reduceIte, rqs, natsr_len, natsr_at, natsr_snoc, natsr_app, natsr_rows, natsr_nil, hF]
    rw [List.take_of_length_le (by omega)]
theorem qclear_cb (p : List RQ) (D n k : Nat) (hp : GQ (2 ^ 30) (2 ^ 36) p) (hC : CB D n k (trimq (qvs p))) (hn : n ≤ 2 ^ 28) (hM : k ≤ 2 ^ 33) : AC Tryz.prog 101 [cqw p] none [cl (wd (cden (trimq (qvs p)))), cw ((clr (trimq (qvs p))).map canon), ci 0] := by
  have nm := qpnorm_ok p (hp.mono (by omega) (by omega))
  have hA := hC.qb
  refine AC.by_walk (rs := [.tmp 2, .tmp 3, .tmp 4]) ords Tryz.func101 (by rfl) (by rfl) (by rfl) (by rfl) (by rfl) ?_
  simp (disch := omega) only [wk, tis, Int.reduceNe, Int.reduceEq, Int.reduceLT, Int.reduceLE, Int.reduceAdd, Int.reduceSub, Int.reduceNeg, Int.reduceMul, Int.reduceToNat, Nat.reduceSub, Nat.reduceMul, Nat.reduceLeDiff, Nat.reduceAdd, Nat.reduceLT, Nat.reduceEqDiff, reduceCtorEq, ↓reduceIte, rqs, natsr_len, natsr_at, natsr_snoc, natsr_app, natsr_rows, natsr_nil]
  refine call_by (nm) (by rfl) (by simp) ?_
  simp (disch := omega) only [wk, tis, Int.reduceNe, Int.reduceEq, Int.reduceLT, Int.reduceLE, Int.reduceAdd, Int.reduceSub, Int.reduceNeg, Int.reduceMul, Int.reduceToNat, Nat.reduceSub, Nat.reduceMul, Nat.reduceLeDiff, Nat.reduceAdd, Nat.reduceLT, Nat.reduceEqDiff, reduceCtorEq, ↓reduceIte, rqs, natsr_len, natsr_at, natsr_snoc, natsr_app, natsr_rows, natsr_nil]
  unfold cqs
  generalize trimq (qvs p) = A at *
  have hAl := hA.1
  have hq : (A.map crat).length = A.length := List.length_map _
  have hdl := dens_len A
  have hcl := clr_len A
  simp (disch := omega) only [wk, tis, Int.reduceNe, Int.reduceEq, Int.reduceLT, Int.reduceLE, Int.reduceAdd, Int.reduceSub, Int.reduceNeg, Int.reduceMul, Int.reduceToNat, Nat.reduceSub, Nat.reduceMul, Nat.reduceLeDiff, Nat.reduceAdd, Nat.reduceLT, Nat.reduceEqDiff, reduceCtorEq, ↓reduceIte, rqs, natsr_len, natsr_at, natsr_snoc, natsr_app, natsr_rows, natsr_nil, hq]
  refine aloop_by (fun f H => ∃ (i st26 : Nat), i ≤ A.length ∧ f 29 = .iv (.int .i64 i) ∧ f 27 = .iv (.sl (rats (A.map crat))) ∧ f 28 = .iv (.int .i64 A.length) ∧ f 5 = .iv (.sl (rats (A.map crat))) ∧ f 7 = .hs 26 st26 ∧ H 26 = .blk false st26 25 1 (natsr (((dens A).take i).map wd))) (fun f H => (A.length - intAt f 29).toNat) ?_ ?_
  · refine ⟨0, 1, by omega, ?_⟩
    simp (disch := omega) only [wk, tis, Int.reduceNe, Int.reduceEq, Int.reduceLT, Int.reduceLE, Int.reduceAdd, Int.reduceSub, Int.reduceNeg, Int.reduceMul, Int.reduceToNat, Nat.reduceSub, Nat.reduceMul, Nat.reduceLeDiff, Nat.reduceAdd, Nat.reduceLT, Nat.reduceEqDiff, reduceCtorEq, ↓reduceIte, rqs, natsr_len, natsr_at, natsr_snoc, natsr_app, natsr_rows, natsr_nil, hq, List.take_zero, List.map_nil, Int.toNat_natCast, List.replicate_zero]
  rintro f H ⟨i, st26, hi, hF⟩
  rw [intAt_of hF.1]
  simp (disch := omega) only [wk, tis, Int.reduceNe, Int.reduceEq, Int.reduceLT, Int.reduceLE, Int.reduceAdd, Int.reduceSub, Int.reduceNeg, Int.reduceMul, Int.reduceToNat, Nat.reduceSub, Nat.reduceMul, Nat.reduceLeDiff, Nat.reduceAdd, Nat.reduceLT, Nat.reduceEqDiff, reduceCtorEq, ↓reduceIte, rqs, natsr_len, natsr_at, natsr_snoc, natsr_app, natsr_rows, natsr_nil, hF]
  refine if_by (fun hlt => ?_) (fun hlt => ?_)
  · have hlt' : i < A.length := by omega
    have hdq : (((dens A).take i).map wd).length = i := by rw [List.length_map, List.length_take]; omega
    have e := cratq_get hlt'
    have e2 : lims (crat (cfq A i)).2 = lims (wd (cfq A i).den) := rfl
    simp (disch := omega) only [wk, tis, Int.reduceNe, Int.reduceEq, Int.reduceLT, Int.reduceLE, Int.reduceAdd, Int.reduceSub, Int.reduceNeg, Int.reduceMul, Int.reduceToNat, Nat.reduceSub, Nat.reduceMul, Nat.reduceLeDiff, Nat.reduceAdd, Nat.reduceLT, Nat.reduceEqDiff, reduceCtorEq, ↓reduceIte, rqs, natsr_len, natsr_at, natsr_snoc, natsr_app, natsr_rows, natsr_nil, hF, hq, hdq, e, e2]
    refine ⟨⟨i + 1, st26 + 1, by omega, ?_⟩, by omega⟩
    rw [natsr_dens A hlt']
    (repeat' apply And.intro) <;> first | rfl | omega
  · have hie : i = A.length := by omega
    subst hie
    rw [List.take_of_length_le (by omega)] at hF
    have m := galllcm_cb (dens A) k (fun i => hC.lcm_len i) (by omega) dens_ne hA.dens (by omega)
    have hcd := hC.cden_len
    have hcn := cden_ne A
    simp (disch := omega) only [wk, tis, Int.reduceNe, Int.reduceEq, Int.reduceLT, Int.reduceLE, Int.reduceAdd, Int.reduceSub, Int.reduceNeg, Int.reduceMul, Int.reduceToNat, Nat.reduceSub, Nat.reduceMul, Nat.reduceLeDiff, Nat.reduceAdd, Nat.reduceLT, Nat.reduceEqDiff, reduceCtorEq, ↓reduceIte, rqs, natsr_len, natsr_at, natsr_snoc, natsr_app, natsr_rows, natsr_nil, hF, hq]
    refine call_by (m) (by first | rfl | (simp only [tocvs, tocv, hF, hq]; rfl) | (simp only [tocvs, tocv, toboxes, tobox, updH_at, Nat.reduceEqDiff, ↓reduceIte, hF, hq]; rfl)) (by simp) ?_
    simp (disch := omega) only [wk, tis, Int.reduceNe, Int.reduceEq, Int.reduceLT, Int.reduceLE, Int.reduceAdd, Int.reduceSub, Int.reduceNeg, Int.reduceMul, Int.reduceToNat, Nat.reduceSub, Nat.reduceMul, Nat.reduceLeDiff, Nat.reduceAdd, Nat.reduceLT, Nat.reduceEqDiff, reduceCtorEq, ↓reduceIte, rqs, natsr_len, natsr_at, natsr_snoc, natsr_app, natsr_rows, natsr_nil, hF, hq]
    rw [show lcmL (dens A) = cden A from rfl]
    refine aloop_nil 11 11 27 2 (by simp (disch := omega) only [wk, tis, Int.reduceNe, Int.reduceEq, Int.reduceLT, Int.reduceLE, Int.reduceAdd, Int.reduceSub, Int.reduceNeg, Int.reduceMul, Int.reduceToNat, Nat.reduceSub, Nat.reduceMul, Nat.reduceLeDiff, Nat.reduceAdd, Nat.reduceLT, Nat.reduceEqDiff, reduceCtorEq, ↓reduceIte, rqs, natsr_len, natsr_at, natsr_snoc, natsr_app, natsr_rows, natsr_nil]) (fun f H => ∃ (i st : Nat), i ≤ A.length ∧ f 43 = .iv (.int .i64 i) ∧ f 41 = .iv (.sl (rats (A.map crat))) ∧ f 42 = .iv (.int .i64 A.length) ∧ f 10 = .iv (.sl (lims (wd (cden A)))) ∧ f 11 = .hs 11 st ∧ H 11 = .blk false st 27 2 (raws (((clr A).take i).map canon))) (fun f H => (A.length - intAt f 43).toNat) ?_ ?_
    · refine ⟨0, (H 11).stamp + 1, by omega, ?_⟩
      simp (disch := omega) only [wk, tis, Int.reduceNe, Int.reduceEq, Int.reduceLT, Int.reduceLE, Int.reduceAdd, Int.reduceSub, Int.reduceNeg, Int.reduceMul, Int.reduceToNat, Nat.reduceSub, Nat.reduceMul, Nat.reduceLeDiff, Nat.reduceAdd, Nat.reduceLT, Nat.reduceEqDiff, reduceCtorEq, ↓reduceIte, rqs, natsr_len, natsr_at, natsr_snoc, natsr_app, natsr_rows, natsr_nil, ghostF, ghostH, hF, hq, List.take_zero, List.map_nil]
    rintro f H ⟨i, st, hi, hF⟩
    rw [intAt_of hF.1]
    simp (disch := omega) only [wk, tis, Int.reduceNe, Int.reduceEq, Int.reduceLT, Int.reduceLE, Int.reduceAdd, Int.reduceSub, Int.reduceNeg, Int.reduceMul, Int.reduceToNat, Nat.reduceSub, Nat.reduceMul, Nat.reduceLeDiff, Nat.reduceAdd, Nat.reduceLT, Nat.reduceEqDiff, reduceCtorEq, ↓reduceIte, rqs, natsr_len, natsr_at, natsr_snoc, natsr_app, natsr_rows, natsr_nil, hF]
    refine if_by (fun hlt => ?_) (fun hlt => ?_)
    · have hlt' : i < A.length := by omega
      have hcq : (((clr A).take i).map canon).length = i := by rw [List.length_map, List.length_take]; omega
      have e := cratq_get hlt'
      have e2 : lims (crat (cfq A i)).2 = lims (wd (cfq A i).den) := rfl
      have e3 : prow (crat (cfq A i)).1 = prow (canon (cfq A i).num) := rfl
      have hc : qz (cfq A i) ≤ k := by rw [cfq_lt hlt']; exact hA.2 _ (List.getElem_mem hlt')
      have hc2 := qz_parts (cfq A i)
      have n1 := znat_ok false (cden A) (by omega)
      have n2 := znat_ok false (cfq A i).den (by omega)
      rw [sgf] at n1 n2
      have hdv : ((cfq A i).den : Int) ∣ (cden A : Int) := Int.natCast_dvd_natCast.mpr (cden_dvd hlt')
      have x := zexact_ok (canon (cden A : Int)) (canon ((cfq A i).den : Int)) ((sz_canon _).mono (by rw [zl_nat]; omega)) ((sz_canon _).mono (by rw [zl_nat]; omega)) (by rw [iv_canon]; have := (cfq A i).den_nz; omega) (by rw [iv_canon, iv_canon]; exact hdv)
      rw [iv_canon, iv_canon] at x
      have zd := zl_div hdv
      rw [zl_nat] at zd
      have w := zmul_ok (canon (cfq A i).num) (canon ((cden A : Int) / ((cfq A i).den : Int))) ((sz_canon _).mono (by omega)) ((sz_canon _).mono (by omega))
      rw [iv_canon, iv_canon, ← clr_get hlt'] at w
      simp (disch := omega) only [wk, tis, Int.reduceNe, Int.reduceEq, Int.reduceLT, Int.reduceLE, Int.reduceAdd, Int.reduceSub, Int.reduceNeg, Int.reduceMul, Int.reduceToNat, Nat.reduceSub, Nat.reduceMul, Nat.reduceLeDiff, Nat.reduceAdd, Nat.reduceLT, Nat.reduceEqDiff, reduceCtorEq, ↓reduceIte, rqs, natsr_len, natsr_at, natsr_snoc, natsr_app, natsr_rows, natsr_nil, hF, hq, hcq, e, e2, e3]
      refine ⟨tmps_by (by kernel_rfl), ?_⟩
      refine call_by (n1) (by first | rfl | (simp only [tocvs, tocv, hF, hq, hcq, e, e2, e3]; rfl) | (simp only [tocvs, tocv, toboxes, tobox, updH_at, Nat.reduceEqDiff, ↓reduceIte, hF, hq, hcq, e, e2, e3]; rfl)) (by simp) ?_
      simp (disch := omega) only [wk, tis, Int.reduceNe, Int.reduceEq, Int.reduceLT, Int.reduceLE, Int.reduceAdd, Int.reduceSub, Int.reduceNeg, Int.reduceMul, Int.reduceToNat, Nat.reduceSub, Nat.reduceMul, Nat.reduceLeDiff, Nat.reduceAdd, Nat.reduceLT, Nat.reduceEqDiff, reduceCtorEq, ↓reduceIte, rqs, natsr_len, natsr_at, natsr_snoc, natsr_app, natsr_rows, natsr_nil, hF, hq, hcq, e, e2, e3]
      refine call_by (n2) (by first | rfl | (simp only [tocvs, tocv, hF, hq, hcq, e, e2, e3]; rfl) | (simp only [tocvs, tocv, toboxes, tobox, updH_at, Nat.reduceEqDiff, ↓reduceIte, hF, hq, hcq, e, e2, e3]; rfl)) (by simp) ?_
      simp (disch := omega) only [wk, tis, Int.reduceNe, Int.reduceEq, Int.reduceLT, Int.reduceLE, Int.reduceAdd, Int.reduceSub, Int.reduceNeg, Int.reduceMul, Int.reduceToNat, Nat.reduceSub, Nat.reduceMul, Nat.reduceLeDiff, Nat.reduceAdd, Nat.reduceLT, Nat.reduceEqDiff, reduceCtorEq, ↓reduceIte, rqs, natsr_len, natsr_at, natsr_snoc, natsr_app, natsr_rows, natsr_nil, hF, hq, hcq, e, e2, e3]
      refine call_by (x) (by first | rfl | (simp only [tocvs, tocv, hF, hq, hcq, e, e2, e3]; rfl) | (simp only [tocvs, tocv, toboxes, tobox, updH_at, Nat.reduceEqDiff, ↓reduceIte, hF, hq, hcq, e, e2, e3]; rfl)) (by simp) ?_
      simp (disch := omega) only [wk, tis, Int.reduceNe, Int.reduceEq, Int.reduceLT, Int.reduceLE, Int.reduceAdd, Int.reduceSub, Int.reduceNeg, Int.reduceMul, Int.reduceToNat, Nat.reduceSub, Nat.reduceMul, Nat.reduceLeDiff, Nat.reduceAdd, Nat.reduceLT, Nat.reduceEqDiff, reduceCtorEq, ↓reduceIte, rqs, natsr_len, natsr_at, natsr_snoc, natsr_app, natsr_rows, natsr_nil, hF, hq, hcq, e, e2, e3]
      first | exact log_by (by kernel_rfl) | refine ⟨log_by (by kernel_rfl), ?_⟩
      refine call_by (w) (by first | rfl | (simp only [tocvs, tocv, hF, hq, hcq, e, e2, e3]; rfl) | (simp only [tocvs, tocv, toboxes, tobox, updH_at, Nat.reduceEqDiff, ↓reduceIte, hF, hq, hcq, e, e2, e3]; rfl)) (by simp) ?_
      simp (disch := omega) only [wk, tis, Int.reduceNe, Int.reduceEq, Int.reduceLT, Int.reduceLE, Int.reduceAdd, Int.reduceSub, Int.reduceNeg, Int.reduceMul, Int.reduceToNat, Nat.reduceSub, Nat.reduceMul, Nat.reduceLeDiff, Nat.reduceAdd, Nat.reduceLT, Nat.reduceEqDiff, reduceCtorEq, ↓reduceIte, rqs, natsr_len, natsr_at, natsr_snoc, natsr_app, natsr_rows, natsr_nil, hF, hq, hcq, e, e2, e3]
      have et := takez_snoc (q := clr A) (i := i) (by omega)
      refine ⟨⟨i + 1, st + 1, by omega, ?_⟩, by omega⟩
      rw [et, List.map_append]
      (repeat' apply And.intro) <;> first | rfl | omega
    · have hie : i = A.length := by omega
      subst hie
      rw [List.take_of_length_le (by omega)] at hF
      simp (disch := omega) only [wk, tis, Int.reduceNe, Int.reduceEq, Int.reduceLT, Int.reduceLE, Int.reduceAdd, Int.reduceSub, Int.reduceNeg, Int.reduceMul, Int.reduceToNat, Nat.reduceSub, Nat.reduceMul, Nat.reduceLeDiff, Nat.reduceAdd, Nat.reduceLT, Nat.reduceEqDiff, reduceCtorEq, ↓reduceIte, rqs, natsr_len, natsr_at, natsr_snoc, natsr_app, natsr_rows, natsr_nil, hF]
      try rfl
theorem qpmul_cb (p q : List RQ) (D E n k : Nat) (hp : GQ (2 ^ 30) (2 ^ 36) p) (hq : GQ (2 ^ 30) (2 ^ 36) q) (hCA : CB D n k (trimq (qvs p))) (hCB : CB E n k (trimq (qvs q))) (hn : n ≤ 2 ^ 28) (hM : k ≤ 2 ^ 33) (hk : 1 ≤ k) : AC Tryz.prog 70 [cqw p, cqw q] none [cqp (mulq (qvs p) (qvs q)), ci 0] := by
  have m := qboth_ok p q (hp.mono (by omega) (by omega)) (hq.mono (by omega) (by omega))
  have hA := hCA.qb
  have hB := hCB.qb
  have e : cqp (mulq (qvs p) (qvs q)) = cqp (mulq (trimq (qvs p)) (trimq (qvs q))) := congrArg cqw (cqs_ext fun k => (mulq_trim _ _ k).symm)
  have tA := trimq_trimq (qvs p)
  have tB := trimq_trimq (qvs q)
  rw [e]
  refine AC.by_walk (rs := [.tmp 4, .tmp 5]) ords Tryz.func70 (by rfl) (by rfl) (by rfl) (by rfl) (by rfl) ?_
  simp (disch := omega) only [wk, tis, Int.reduceNe, Int.reduceEq, Int.reduceLT, Int.reduceLE, Int.reduceAdd, Int.reduceSub, Int.reduceNeg, Int.reduceMul, Int.reduceToNat, Nat.reduceSub, Nat.reduceMul, Nat.reduceLeDiff, Nat.reduceAdd, Nat.reduceLT, Nat.reduceEqDiff, reduceCtorEq, ↓reduceIte, rqs, natsr_len, natsr_at, natsr_snoc, natsr_app, natsr_rows, natsr_nil]
  refine call_by (m) (by rfl) (by simp) ?_
  simp (disch := omega) only [wk, tis, Int.reduceNe, Int.reduceEq, Int.reduceLT, Int.reduceLE, Int.reduceAdd, Int.reduceSub, Int.reduceNeg, Int.reduceMul, Int.reduceToNat, Nat.reduceSub, Nat.reduceMul, Nat.reduceLeDiff, Nat.reduceAdd, Nat.reduceLT, Nat.reduceEqDiff, reduceCtorEq, ↓reduceIte, rqs, natsr_len, natsr_at, natsr_snoc, natsr_app, natsr_rows, natsr_nil]
  unfold cqs
  generalize trimq (qvs p) = A at *
  generalize trimq (qvs q) = B at *
  have hqa : (A.map crat).length = A.length := List.length_map _
  have hqb : (B.map crat).length = B.length := List.length_map _
  by_cases ha : A.length = 0
  · have ha' : ((A.map crat).length : Int) = 0 := by omega
    have hn := mulq_nil (A := A) (B := B) (.inl (by rw [tA]; exact List.length_eq_zero_iff.mp ha))
    rw [show cqp (mulq A B) = cqw [] from congrArg cqw hn]
    simp (disch := omega) only [wk, tis, Int.reduceNe, Int.reduceEq, Int.reduceLT, Int.reduceLE, Int.reduceAdd, Int.reduceSub, Int.reduceNeg, Int.reduceMul, Int.reduceToNat, Nat.reduceSub, Nat.reduceMul, Nat.reduceLeDiff, Nat.reduceAdd, Nat.reduceLT, Nat.reduceEqDiff, reduceCtorEq, ↓reduceIte, rqs, natsr_len, natsr_at, natsr_snoc, natsr_app, natsr_rows, natsr_nil, ha']
    try rfl
  have ha' : ¬ ((A.map crat).length : Int) = 0 := by omega
  by_cases hb : B.length = 0
  · have hb' : ((B.map crat).length : Int) = 0 := by omega
    have hn := mulq_nil (A := A) (B := B) (.inr (by rw [tB]; exact List.length_eq_zero_iff.mp hb))
    rw [show cqp (mulq A B) = cqw [] from congrArg cqw hn]
    simp (disch := omega) only [wk, tis, Int.reduceNe, Int.reduceEq, Int.reduceLT, Int.reduceLE, Int.reduceAdd, Int.reduceSub, Int.reduceNeg, Int.reduceMul, Int.reduceToNat, Nat.reduceSub, Nat.reduceMul, Nat.reduceLeDiff, Nat.reduceAdd, Nat.reduceLT, Nat.reduceEqDiff, reduceCtorEq, ↓reduceIte, rqs, natsr_len, natsr_at, natsr_snoc, natsr_app, natsr_rows, natsr_nil, ha', hb']
    try rfl
  have hb' : ¬ ((B.map crat).length : Int) = 0 := by omega
  have c1 := qclear_cb (A.map crat) D n k ((hA.mono (by omega) (by omega)).gq) (by rw [qvs_map, tA]; exact hCA) hn hM
  have c2 := qclear_cb (B.map crat) E n k ((hB.mono (by omega) (by omega)).gq) (by rw [qvs_map, tB]; exact hCB) hn hM
  rw [qvs_map, tA] at c1
  rw [qvs_map, tB] at c2
  have pA := hCA.clr_pb.mono (n' := 2 ^ 30) (k' := 2 ^ 35) (by omega) (by omega)
  have pB := hCB.clr_pb.mono (n' := 2 ^ 30) (k' := 2 ^ 35) (by omega) (by omega)
  have z := pmul_ok ((clr A).map canon) ((clr B).map canon) (RP.canon pA) (RP.canon pB)
  rw [pv_canon, pv_canon] at z
  have l1 := hCA.cden_len
  have l2 := hCB.cden_len
  have pm := (pA.pmul pB (by decide)).trimz
  have o := qover_ok (trimz (pmul (clr A) (clr B))) (cden A) (cden B) (pm.mono (by omega) (by omega)) (by omega) (by omega) (cden_ne A) (cden_ne B)
  have ee : cqs (divl (trimz (pmul (clr A) (clr B))) ((cden A * cden B : Nat) : Int)) = cqs (mulq A B) := cqs_ext (cfq_clear_mul A B)
  rw [show cqp (divl (trimz (pmul (clr A) (clr B))) ((cden A * cden B : Nat) : Int)) = cqw (cqs (mulq A B)) from congrArg cqw ee] at o
  simp (disch := omega) only [wk, tis, Int.reduceNe, Int.reduceEq, Int.reduceLT, Int.reduceLE, Int.reduceAdd, Int.reduceSub, Int.reduceNeg, Int.reduceMul, Int.reduceToNat, Nat.reduceSub, Nat.reduceMul, Nat.reduceLeDiff, Nat.reduceAdd, Nat.reduceLT, Nat.reduceEqDiff, reduceCtorEq, ↓reduceIte, rqs, natsr_len, natsr_at, natsr_snoc, natsr_app, natsr_rows, natsr_nil, ha', hb']
  refine call_by (c1) (by rfl) (by simp) ?_
  simp (disch := omega) only [wk, tis, Int.reduceNe, Int.reduceEq, Int.reduceLT, Int.reduceLE, Int.reduceAdd, Int.reduceSub, Int.reduceNeg, Int.reduceMul, Int.reduceToNat, Nat.reduceSub, Nat.reduceMul, Nat.reduceLeDiff, Nat.reduceAdd, Nat.reduceLT, Nat.reduceEqDiff, reduceCtorEq, ↓reduceIte, rqs, natsr_len, natsr_at, natsr_snoc, natsr_app, natsr_rows, natsr_nil]
  refine call_by (c2) (by rfl) (by simp) ?_
  simp (disch := omega) only [wk, tis, Int.reduceNe, Int.reduceEq, Int.reduceLT, Int.reduceLE, Int.reduceAdd, Int.reduceSub, Int.reduceNeg, Int.reduceMul, Int.reduceToNat, Nat.reduceSub, Nat.reduceMul, Nat.reduceLeDiff, Nat.reduceAdd, Nat.reduceLT, Nat.reduceEqDiff, reduceCtorEq, ↓reduceIte, rqs, natsr_len, natsr_at, natsr_snoc, natsr_app, natsr_rows, natsr_nil]
  refine call_by (z) (by rfl) (by simp) ?_
  simp (disch := omega) only [wk, tis, Int.reduceNe, Int.reduceEq, Int.reduceLT, Int.reduceLE, Int.reduceAdd, Int.reduceSub, Int.reduceNeg, Int.reduceMul, Int.reduceToNat, Nat.reduceSub, Nat.reduceMul, Nat.reduceLeDiff, Nat.reduceAdd, Nat.reduceLT, Nat.reduceEqDiff, reduceCtorEq, ↓reduceIte, rqs, natsr_len, natsr_at, natsr_snoc, natsr_app, natsr_rows, natsr_nil]
  refine call_by (o) (by rfl) (by simp) ?_
  simp (disch := omega) only [wk, tis, Int.reduceNe, Int.reduceEq, Int.reduceLT, Int.reduceLE, Int.reduceAdd, Int.reduceSub, Int.reduceNeg, Int.reduceMul, Int.reduceToNat, Nat.reduceSub, Nat.reduceMul, Nat.reduceLeDiff, Nat.reduceAdd, Nat.reduceLT, Nat.reduceEqDiff, reduceCtorEq, ↓reduceIte, rqs, natsr_len, natsr_at, natsr_snoc, natsr_app, natsr_rows, natsr_nil]
  try rfl
end Go.Proofs.YtaepoooifkjbmaaGreat

namespace Go.Proofs.YtaepoooifkjbmaaGreat
open Go Go.Proofs Go.AL
set_option linter.unusedSimpArgs false
set_option linter.unusedVariables false

theorem mone_ok' : AC Tryz.prog 37 [] none [cqz 1] := by
  have z := zOf_ok 1 (by omega) (by omega)
  rw [show cqz 1 = cqq (canon 1, [1]) from congrArg cqq (crat_int 1)]
  refine AC.by_walk (rs := [.cell 0 33]) ords Tryz.func37 (by rfl) (by rfl) (by rfl) (by rfl) (by rfl) ?_
  simp (disch := omega) only [wk, tis, Int.reduceNe, Int.reduceEq, Int.reduceLT, Int.reduceLE, Int.reduceAdd, Int.reduceSub, Int.reduceNeg, Int.reduceMul, Int.reduceToNat, Nat.reduceSub, Nat.reduceMul, Nat.reduceLeDiff, Nat.reduceAdd, Nat.reduceLT, Nat.reduceEqDiff, reduceCtorEq, ↓reduceIte, rqs]
  refine call_by (z) (by rfl) (by simp) ?_
  simp (disch := omega) only [wk, tis, Int.reduceNe, Int.reduceEq, Int.reduceLT, Int.reduceLE, Int.reduceAdd, Int.reduceSub, Int.reduceNeg, Int.reduceMul, Int.reduceToNat, Nat.reduceSub, Nat.reduceMul, Nat.reduceLeDiff, Nat.reduceAdd, Nat.reduceLT, Nat.reduceEqDiff, reduceCtorEq, ↓reduceIte, rqs]
  try rfl
theorem ratsA_getD {A : List Rat} {i : Nat} (h : i < A.length) : (rats (A.map crat)).getD i [] = qrow (crat (cfq A i)) := by
  rw [rats_get (by rw [List.length_map]; exact h), cratq_get h]
theorem rats_three (l : List RQ) : ∀ r ∈ rats l, r.length = 3 := (rats_rows l).mpr trivial

/-- What Horner's steps are known by. -/
structure HQ (A B : List Rat) : Prop where
  la : A.length ≤ 2 ^ 10
  h : ∀ k, k ≤ A.length → ∃ E, CB E (2 ^ 20) (2 ^ 32) (hoq A B k)
  b : ∃ D, CB D (2 ^ 20) (2 ^ 32) B
  a : QB (2 ^ 20) (2 ^ 32) A

set_option maxRecDepth 100000 in
theorem mcomposeq_ok (A B : List Rat) (hh : HQ A B) : AC Tryz.prog 42 [cqw (A.map crat), cqw (B.map crat)] none [cqp (hoq A B A.length), ci 0] := by
  have hla := hh.la
  have hrl : (rats (A.map crat)).length = A.length := by rw [rats_length, List.length_map]
  obtain ⟨D, hB⟩ := hh.b
  refine AC.by_walk (rs := [.cell 4 31, .cell 5 41]) ords Tryz.func42 (by rfl) (by rfl) (by rfl) (by rfl) (by rfl) ?_
  simp (disch := omega) only [wk, tis, Int.reduceNe, Int.reduceEq, Int.reduceLT, Int.reduceLE, Int.reduceAdd, Int.reduceSub, Int.reduceNeg, Int.reduceMul, Int.reduceToNat, Nat.reduceSub, Nat.reduceMul, Nat.reduceLeDiff, Nat.reduceAdd, Nat.reduceLT, Nat.reduceEqDiff, reduceCtorEq, ↓reduceIte, rqs]
  refine call_by ((backq_ok (rats (A.map crat)))) (by rfl) (by simp) ?_
  simp (disch := omega) only [wk, tis, Int.reduceNe, Int.reduceEq, Int.reduceLT, Int.reduceLE, Int.reduceAdd, Int.reduceSub, Int.reduceNeg, Int.reduceMul, Int.reduceToNat, Nat.reduceSub, Nat.reduceMul, Nat.reduceLeDiff, Nat.reduceAdd, Nat.reduceLT, Nat.reduceEqDiff, reduceCtorEq, ↓reduceIte, rqs]
  refine range_by (l := [.ip [.sl (rats (A.map crat))]]) (c := True ∧ True) (ms := []) (backq_iter (rows := rats (A.map crat)) (rats_three _) (by rw [hrl]; omega)) (fun k H2 => k ≤ A.length ∧ H2 3 = HC.blk false 1 31 1 [[.sl (rats (B.map crat))]] ∧ H2 6 = HC.blk false 1 31 1 [[.sl (rats (cqs (hoq A B k)))]] ∧ H2 4 = HC.blk false 1 31 1 [[.sl []]] ∧ H2 5 = HC.blk false 1 41 1 [[.int .i64 0]]) (by simp (disch := omega) only [wk, tis, Int.reduceNe, Int.reduceEq, Int.reduceLT, Int.reduceLE, Int.reduceAdd, Int.reduceSub, Int.reduceNeg, Int.reduceMul, Int.reduceToNat, Nat.reduceSub, Nat.reduceMul, Nat.reduceLeDiff, Nat.reduceAdd, Nat.reduceLT, Nat.reduceEqDiff, reduceCtorEq, ↓reduceIte, rqs]) (by rfl) ⟨trivial, trivial⟩ ?_ ?_ ?_
  · refine ⟨by omega, by simp (disch := omega) only [wk, tis, Int.reduceNe, Int.reduceEq, Int.reduceLT, Int.reduceLE, Int.reduceAdd, Int.reduceSub, Int.reduceNeg, Int.reduceMul, Int.reduceToNat, Nat.reduceSub, Nat.reduceMul, Nat.reduceLeDiff, Nat.reduceAdd, Nat.reduceLT, Nat.reduceEqDiff, reduceCtorEq, ↓reduceIte, rqs], by simp (disch := omega) only [wk, tis, Int.reduceNe, Int.reduceEq, Int.reduceLT, Int.reduceLE, Int.reduceAdd, Int.reduceSub, Int.reduceNeg, Int.reduceMul, Int.reduceToNat, Nat.reduceSub, Nat.reduceMul, Nat.reduceLeDiff, Nat.reduceAdd, Nat.reduceLT, Nat.reduceEqDiff, reduceCtorEq, ↓reduceIte, rqs, show rats (cqs (hoq A B 0)) = [] from rfl], by simp (disch := omega) only [wk, tis, Int.reduceNe, Int.reduceEq, Int.reduceLT, Int.reduceLE, Int.reduceAdd, Int.reduceSub, Int.reduceNeg, Int.reduceMul, Int.reduceToNat, Nat.reduceSub, Nat.reduceMul, Nat.reduceLeDiff, Nat.reduceAdd, Nat.reduceLT, Nat.reduceEqDiff, reduceCtorEq, ↓reduceIte, rqs], by simp (disch := omega) only [wk, tis, Int.reduceNe, Int.reduceEq, Int.reduceLT, Int.reduceLE, Int.reduceAdd, Int.reduceSub, Int.reduceNeg, Int.reduceMul, Int.reduceToNat, Nat.reduceSub, Nat.reduceMul, Nat.reduceLeDiff, Nat.reduceAdd, Nat.reduceLT, Nat.reduceEqDiff, reduceCtorEq, ↓reduceIte, rqs]⟩
  · rintro k H2 hk ⟨hk', h3, h6, h4, h5⟩
    rw [hrl] at hk
    rw [hrl, ratsA_getD (by omega)]
    obtain ⟨E, hE⟩ := hh.h k hk'
    have hE' := hE.trim
    have hBt := hB.trim
    have m := qpmul_cb (cqs (hoq A B k)) (B.map crat) E D (2 ^ 20) (2 ^ 32) ((hE.qb.gqs).mono (by omega) (by omega)) ((hB.qb.gq).mono (by omega) (by omega)) (by rw [qvs_cqs, trimq_trimq]; exact hE') (by rw [qvs_map]; exact hBt) (by omega) (by omega) (by omega)
    rw [show cqp (mulq (qvs (cqs (hoq A B k))) (qvs (B.map crat))) = cqp (mulq (hoq A B k) B) from congrArg cqw (cqs_ext fun j => by rw [qvs_cqs, qvs_map]; exact mulq_congr (cfq_trimq _) (fun _ => rfl) j)] at m
    have hm := hE.mulq hB
    have hc := hh.a.cz (by omega) (A.length - 1 - k)
    have s := qpadd_g (p := cqs (mulq (hoq A B k) B)) (q := [crat (cfq A (A.length - 1 - k))]) (K := 2 ^ 34) (X := mulq (hoq A B k) B) (Y := [cfq A (A.length - 1 - k)]) ((hm.qb.gqs).mono (by omega) (by omega)) ⟨by simp, fun r hr => by
      rcases List.mem_singleton.1 hr with rfl
      exact ⟨szq_crat (by omega), nv_crat0 _⟩⟩ (by omega) (by omega) (pq_cqs _) (by rw [show qvs [crat (cfq A (A.length - 1 - k))] = [cfq A (A.length - 1 - k)] from qvs_map [_]])
    rw [show addq (mulq (hoq A B k) B) [cfq A (A.length - 1 - k)] = hoq A B (k + 1) from rfl] at s
    simp (disch := omega) only [wk, tis, Int.reduceNe, Int.reduceEq, Int.reduceLT, Int.reduceLE, Int.reduceAdd, Int.reduceSub, Int.reduceNeg, Int.reduceMul, Int.reduceToNat, Nat.reduceSub, Nat.reduceMul, Nat.reduceLeDiff, Nat.reduceAdd, Nat.reduceLT, Nat.reduceEqDiff, reduceCtorEq, ↓reduceIte, rqs, h3, h6, h4, h5]
    refine call_by (m) (by first | rfl | (simp only [tocvs, tocv, h3, h6, h4, h5]; rfl) | (simp only [tocvs, tocv, toboxes, tobox, updH_at, Nat.reduceEqDiff, ↓reduceIte, h3, h6, h4, h5]; rfl)) (by simp) ?_
    simp (disch := omega) only [wk, tis, Int.reduceNe, Int.reduceEq, Int.reduceLT, Int.reduceLE, Int.reduceAdd, Int.reduceSub, Int.reduceNeg, Int.reduceMul, Int.reduceToNat, Nat.reduceSub, Nat.reduceMul, Nat.reduceLeDiff, Nat.reduceAdd, Nat.reduceLT, Nat.reduceEqDiff, reduceCtorEq, ↓reduceIte, rqs, h3, h6, h4, h5]
    refine call_by (s) (by first | rfl | (simp only [tocvs, tocv, h3, h6, h4, h5]; rfl) | (simp only [tocvs, tocv, toboxes, tobox, updH_at, Nat.reduceEqDiff, ↓reduceIte, h3, h6, h4, h5]; rfl)) (by simp) ?_
    simp (disch := omega) only [wk, tis, Int.reduceNe, Int.reduceEq, Int.reduceLT, Int.reduceLE, Int.reduceAdd, Int.reduceSub, Int.reduceNeg, Int.reduceMul, Int.reduceToNat, Nat.reduceSub, Nat.reduceMul, Nat.reduceLeDiff, Nat.reduceAdd, Nat.reduceLT, Nat.reduceEqDiff, reduceCtorEq, ↓reduceIte, rqs, h3, h6, h4, h5]
    omega
  · rintro H2 ⟨hk', h3, h6, h4, h5⟩
    rw [hrl] at h6
    obtain ⟨E, hE⟩ := hh.h A.length (Nat.le_refl _)
    have m := qpnorm_g (p := cqs (hoq A B A.length)) (X := hoq A B A.length) ((hE.qb.gqs).mono (by omega) (by omega)) (pq_cqs _)
    simp (disch := omega) only [wk, tis, Int.reduceNe, Int.reduceEq, Int.reduceLT, Int.reduceLE, Int.reduceAdd, Int.reduceSub, Int.reduceNeg, Int.reduceMul, Int.reduceToNat, Nat.reduceSub, Nat.reduceMul, Nat.reduceLeDiff, Nat.reduceAdd, Nat.reduceLT, Nat.reduceEqDiff, reduceCtorEq, ↓reduceIte, rqs, h3, h6, h4, h5]
    refine call_by (m) (by first | rfl | (simp only [tocvs, tocv, h3, h6, h4, h5]; rfl) | (simp only [tocvs, tocv, toboxes, tobox, updH_at, Nat.reduceEqDiff, ↓reduceIte, h3, h6, h4, h5]; rfl)) (by simp) ?_
    simp (disch := omega) only [wk, tis, Int.reduceNe, Int.reduceEq, Int.reduceLT, Int.reduceLE, Int.reduceAdd, Int.reduceSub, Int.reduceNeg, Int.reduceMul, Int.reduceToNat, Nat.reduceSub, Nat.reduceMul, Nat.reduceLeDiff, Nat.reduceAdd, Nat.reduceLT, Nat.reduceEqDiff, reduceCtorEq, ↓reduceIte, rqs, h3, h6, h4, h5]
    try rfl

theorem mComposeQ_ok (p q : List RQ) (hp : GQ (2 ^ 40) (2 ^ 38) p) (hq : GQ (2 ^ 40) (2 ^ 38) q) (hh : HQ (trimq (qvs p)) (trimq (qvs q))) : AC Tryz.prog 17 [cqw p, cqw q] none [cqp (hoq (trimq (qvs p)) (trimq (qvs q)) (trimq (qvs p)).length), ci 0] := by
  have n1 := qpnorm_ok p hp
  have n2 := qpnorm_ok q hq
  have c := mcomposeq_ok _ _ hh
  refine AC.by_walk (rs := [.tmp 4, .tmp 5]) ords Tryz.func17 (by rfl) (by rfl) (by rfl) (by rfl) (by rfl) ?_
  simp (disch := omega) only [wk, tis, Int.reduceNe, Int.reduceEq, Int.reduceLT, Int.reduceLE, Int.reduceAdd, Int.reduceSub, Int.reduceNeg, Int.reduceMul, Int.reduceToNat, Nat.reduceSub, Nat.reduceMul, Nat.reduceLeDiff, Nat.reduceAdd, Nat.reduceLT, Nat.reduceEqDiff, reduceCtorEq, ↓reduceIte, rqs]
  refine call_by (n1) (by rfl) (by simp) ?_
  simp (disch := omega) only [wk, tis, Int.reduceNe, Int.reduceEq, Int.reduceLT, Int.reduceLE, Int.reduceAdd, Int.reduceSub, Int.reduceNeg, Int.reduceMul, Int.reduceToNat, Nat.reduceSub, Nat.reduceMul, Nat.reduceLeDiff, Nat.reduceAdd, Nat.reduceLT, Nat.reduceEqDiff, reduceCtorEq, ↓reduceIte, rqs]
  refine call_by (n2) (by rfl) (by simp) ?_
  simp (disch := omega) only [wk, tis, Int.reduceNe, Int.reduceEq, Int.reduceLT, Int.reduceLE, Int.reduceAdd, Int.reduceSub, Int.reduceNeg, Int.reduceMul, Int.reduceToNat, Nat.reduceSub, Nat.reduceMul, Nat.reduceLeDiff, Nat.reduceAdd, Nat.reduceLT, Nat.reduceEqDiff, reduceCtorEq, ↓reduceIte, rqs]
  refine call_by (c) (by rfl) (by simp) ?_
  simp (disch := omega) only [wk, tis, Int.reduceNe, Int.reduceEq, Int.reduceLT, Int.reduceLE, Int.reduceAdd, Int.reduceSub, Int.reduceNeg, Int.reduceMul, Int.reduceToNat, Nat.reduceSub, Nat.reduceMul, Nat.reduceLeDiff, Nat.reduceAdd, Nat.reduceLT, Nat.reduceEqDiff, reduceCtorEq, ↓reduceIte, rqs]
  try rfl
theorem mComposeQ_bad (p q : List RQ) (hp : BQ (2 ^ 40) (2 ^ 38) p) (hq : BQ (2 ^ 40) (2 ^ 38) q) (h : gd p = false ∨ gd q = false) : AC Tryz.prog 17 [cqw p, cqw q] none [cqw [], ci 1] := by
  cases hg : gd p with
  | false =>
    have n1 := qpnorm_bad p hp hg
    refine AC.by_walk (rs := [.tmp 4, .tmp 5]) ords Tryz.func17 (by rfl) (by rfl) (by rfl) (by rfl) (by rfl) ?_
    simp (disch := omega) only [wk, tis, Int.reduceNe, Int.reduceEq, Int.reduceLT, Int.reduceLE, Int.reduceAdd, Int.reduceSub, Int.reduceNeg, Int.reduceMul, Int.reduceToNat, Nat.reduceSub, Nat.reduceMul, Nat.reduceLeDiff, Nat.reduceAdd, Nat.reduceLT, Nat.reduceEqDiff, reduceCtorEq, ↓reduceIte, rqs]
    refine call_by (n1) (by rfl) (by simp) ?_
    simp (disch := omega) only [wk, tis, Int.reduceNe, Int.reduceEq, Int.reduceLT, Int.reduceLE, Int.reduceAdd, Int.reduceSub, Int.reduceNeg, Int.reduceMul, Int.reduceToNat, Nat.reduceSub, Nat.reduceMul, Nat.reduceLeDiff, Nat.reduceAdd, Nat.reduceLT, Nat.reduceEqDiff, reduceCtorEq, ↓reduceIte, rqs]
    try rfl
  | true =>
    have n1 := qpnorm_ok p (hp.gq hg)
    have n2 := qpnorm_bad q hq (h.resolve_left (by rw [hg]; decide))
    refine AC.by_walk (rs := [.tmp 4, .tmp 5]) ords Tryz.func17 (by rfl) (by rfl) (by rfl) (by rfl) (by rfl) ?_
    simp (disch := omega) only [wk, tis, Int.reduceNe, Int.reduceEq, Int.reduceLT, Int.reduceLE, Int.reduceAdd, Int.reduceSub, Int.reduceNeg, Int.reduceMul, Int.reduceToNat, Nat.reduceSub, Nat.reduceMul, Nat.reduceLeDiff, Nat.reduceAdd, Nat.reduceLT, Nat.reduceEqDiff, reduceCtorEq, ↓reduceIte, rqs]
    refine call_by (n1) (by rfl) (by simp) ?_
    simp (disch := omega) only [wk, tis, Int.reduceNe, Int.reduceEq, Int.reduceLT, Int.reduceLE, Int.reduceAdd, Int.reduceSub, Int.reduceNeg, Int.reduceMul, Int.reduceToNat, Nat.reduceSub, Nat.reduceMul, Nat.reduceLeDiff, Nat.reduceAdd, Nat.reduceLT, Nat.reduceEqDiff, reduceCtorEq, ↓reduceIte, rqs]
    refine call_by (n2) (by rfl) (by simp) ?_
    simp (disch := omega) only [wk, tis, Int.reduceNe, Int.reduceEq, Int.reduceLT, Int.reduceLE, Int.reduceAdd, Int.reduceSub, Int.reduceNeg, Int.reduceMul, Int.reduceToNat, Nat.reduceSub, Nat.reduceMul, Nat.reduceLeDiff, Nat.reduceAdd, Nat.reduceLT, Nat.reduceEqDiff, reduceCtorEq, ↓reduceIte, rqs]
    try rfl
theorem mShiftQ_of (p : List RQ) (a : RQ) (l : List RQ) (e : Int) (h : AC Tryz.prog 17 [cqw p, cqw [a, crat 1]] none [cqw l, ci e]) : AC Tryz.prog 10 [cqw p, cqq a] none [cqw l, ci e] := by
  have o := mone_ok'
  have p3 := rats_two a (crat 1)
  refine AC.by_walk (rs := [.tmp 4, .tmp 5]) ords Tryz.func10 (by rfl) (by rfl) (by rfl) (by rfl) (by rfl) ?_
  simp (disch := omega) only [wk, tis, Int.reduceNe, Int.reduceEq, Int.reduceLT, Int.reduceLE, Int.reduceAdd, Int.reduceSub, Int.reduceNeg, Int.reduceMul, Int.reduceToNat, Nat.reduceSub, Nat.reduceMul, Nat.reduceLeDiff, Nat.reduceAdd, Nat.reduceLT, Nat.reduceEqDiff, reduceCtorEq, ↓reduceIte, rqs]
  refine ⟨tmps_by (by kernel_rfl), ?_⟩
  refine call_by (o) (by first | rfl | (simp only [tocvs, tocv, p3]; rfl) | (simp only [tocvs, tocv, toboxes, tobox, updH_at, Nat.reduceEqDiff, ↓reduceIte, p3]; rfl)) (by simp) ?_
  simp (disch := omega) only [wk, tis, Int.reduceNe, Int.reduceEq, Int.reduceLT, Int.reduceLE, Int.reduceAdd, Int.reduceSub, Int.reduceNeg, Int.reduceMul, Int.reduceToNat, Nat.reduceSub, Nat.reduceMul, Nat.reduceLeDiff, Nat.reduceAdd, Nat.reduceLT, Nat.reduceEqDiff, reduceCtorEq, ↓reduceIte, rqs, p3]
  refine call_by (h) (by first | rfl | (simp only [tocvs, tocv, p3]; rfl) | (simp only [tocvs, tocv, toboxes, tobox, updH_at, Nat.reduceEqDiff, ↓reduceIte, p3]; rfl)) (by simp) ?_
  simp (disch := omega) only [wk, tis, Int.reduceNe, Int.reduceEq, Int.reduceLT, Int.reduceLE, Int.reduceAdd, Int.reduceSub, Int.reduceNeg, Int.reduceMul, Int.reduceToNat, Nat.reduceSub, Nat.reduceMul, Nat.reduceLeDiff, Nat.reduceAdd, Nat.reduceLT, Nat.reduceEqDiff, reduceCtorEq, ↓reduceIte, rqs, p3]
  first | exact log_by (by kernel_rfl) | refine ⟨log_by (by kernel_rfl), ?_⟩
  try rfl
theorem lay_zero : lay (fun i => [(0, 2), (2, 1)][i]?) [.bool false, .sl [], .sl []] ([1].zip [[.sl [[.int .u64 1]]]]) = some ((1 = 1 ∧ 2 + 1 ≤ 3) ∧ True, qrow (crat 0)) := by
  rw [crat_zero']; rfl
theorem mScaleQ_of (p : List RQ) (a : RQ) (l : List RQ) (e : Int) (h : AC Tryz.prog 17 [cqw p, cqw [crat 0, a]] none [cqw l, ci e]) : AC Tryz.prog 15 [cqw p, cqq a] none [cqw l, ci e] := by
  have p3 := rats_two (crat 0) a
  have z := lay_zero
  refine AC.by_walk (rs := [.tmp 4, .tmp 5]) ords Tryz.func15 (by rfl) (by rfl) (by rfl) (by rfl) (by rfl) ?_
  simp (disch := omega) only [wk, tis, Int.reduceNe, Int.reduceEq, Int.reduceLT, Int.reduceLE, Int.reduceAdd, Int.reduceSub, Int.reduceNeg, Int.reduceMul, Int.reduceToNat, Nat.reduceSub, Nat.reduceMul, Nat.reduceLeDiff, Nat.reduceAdd, Nat.reduceLT, Nat.reduceEqDiff, reduceCtorEq, ↓reduceIte, rqs, z, p3]
  refine call_by (h) (by first | rfl | (simp only [tocvs, tocv, z, p3]; rfl) | (simp only [tocvs, tocv, toboxes, tobox, updH_at, Nat.reduceEqDiff, ↓reduceIte, z, p3]; rfl)) (by simp) ?_
  simp (disch := omega) only [wk, tis, Int.reduceNe, Int.reduceEq, Int.reduceLT, Int.reduceLE, Int.reduceAdd, Int.reduceSub, Int.reduceNeg, Int.reduceMul, Int.reduceToNat, Nat.reduceSub, Nat.reduceMul, Nat.reduceLeDiff, Nat.reduceAdd, Nat.reduceLT, Nat.reduceEqDiff, reduceCtorEq, ↓reduceIte, rqs, z, p3]
  try rfl

/-! ### The document's -/
structure CQ (p : List RQ) (Q : List Rat) : Prop where
  hp : GQ 64 (2 ^ 20) p
  q : ∃ D, CB D (2 ^ 20) (2 ^ 30) Q
  w : ∀ k, k ≤ p.length → ∃ E, CB E (2 ^ 20) (2 ^ 30) (powq Q k)
  s : ∀ k, k ≤ p.length → ∃ E, CB E (2 ^ 20) (2 ^ 30) (csq (qvs p) Q k)
set_option maxRecDepth 100000 in
theorem tComposeQ_ok (p r : List RQ) (hr : GQ (2 ^ 40) (2 ^ 38) r) (h : CQ p (trimq (qvs r))) : AC Tryz.prog 18 [cqw p, cqw r] none [cqp (csq (qvs p) (trimq (qvs r)) p.length), ci 0] := by
  have hp := h.hp
  have g1 := okq_ok p (hp.bq.mono (by omega) (by omega))
  have g2 := okq_ok r hr.bq
  rw [hp.gd] at g1
  rw [hr.gd] at g2
  have nr := nq_ok r hr
  rw [show cqp (qvs r) = cqw ((trimq (qvs r)).map crat) from rfl] at nr
  have hl := hp.1
  obtain ⟨D, hQ⟩ := h.q
  have tQ := trimq_trimq (qvs r)
  have hw := h.w
  have hs := h.s
  generalize trimq (qvs r) = Q at *
  have e0 : rats (cqs (powq Q 0)) = [qrow (crat 1)] := rfl
  have e1 : rats (cqs (csq (qvs p) Q 0)) = [] := rfl
  refine AC.by_walk (rs := [.tmp 4, .tmp 5]) ords Tryz.func18 (by rfl) (by rfl) (by rfl) (by rfl) (by rfl) ?_
  simp (disch := omega) only [wk, tis, Int.reduceNe, Int.reduceEq, Int.reduceLT, Int.reduceLE, Int.reduceAdd, Int.reduceSub, Int.reduceNeg, Int.reduceMul, Int.reduceToNat, Nat.reduceSub, Nat.reduceMul, Nat.reduceLeDiff, Nat.reduceAdd, Nat.reduceLT, Nat.reduceEqDiff, reduceCtorEq, ↓reduceIte, rqs]
  refine call_by (g1) (by rfl) (by simp) ?_
  simp (disch := omega) only [wk, tis, Int.reduceNe, Int.reduceEq, Int.reduceLT, Int.reduceLE, Int.reduceAdd, Int.reduceSub, Int.reduceNeg, Int.reduceMul, Int.reduceToNat, Nat.reduceSub, Nat.reduceMul, Nat.reduceLeDiff, Nat.reduceAdd, Nat.reduceLT, Nat.reduceEqDiff, reduceCtorEq, ↓reduceIte, rqs]
  refine call_by (g2) (by rfl) (by simp) ?_
  simp (disch := omega) only [wk, tis, Int.reduceNe, Int.reduceEq, Int.reduceLT, Int.reduceLE, Int.reduceAdd, Int.reduceSub, Int.reduceNeg, Int.reduceMul, Int.reduceToNat, Nat.reduceSub, Nat.reduceMul, Nat.reduceLeDiff, Nat.reduceAdd, Nat.reduceLT, Nat.reduceEqDiff, reduceCtorEq, ↓reduceIte, rqs]
  refine call_by (hone_ok) (by rfl) (by simp) ?_
  simp (disch := omega) only [wk, tis, Int.reduceNe, Int.reduceEq, Int.reduceLT, Int.reduceLE, Int.reduceAdd, Int.reduceSub, Int.reduceNeg, Int.reduceMul, Int.reduceToNat, Nat.reduceSub, Nat.reduceMul, Nat.reduceLeDiff, Nat.reduceAdd, Nat.reduceLT, Nat.reduceEqDiff, reduceCtorEq, ↓reduceIte, rqs]
  refine aloop_w (.iv 6 17 1 false 33 3 [] (by simp (disch := omega) only [wk, tis, Int.reduceNe, Int.reduceEq, Int.reduceLT, Int.reduceLE, Int.reduceAdd, Int.reduceSub, Int.reduceNeg, Int.reduceMul, Int.reduceToNat, Nat.reduceSub, Nat.reduceMul, Nat.reduceLeDiff, Nat.reduceAdd, Nat.reduceLT, Nat.reduceEqDiff, reduceCtorEq, ↓reduceIte, rqs]) (by simp (disch := omega) only [wk, tis, Int.reduceNe, Int.reduceEq, Int.reduceLT, Int.reduceLE, Int.reduceAdd, Int.reduceSub, Int.reduceNeg, Int.reduceMul, Int.reduceToNat, Nat.reduceSub, Nat.reduceMul, Nat.reduceLeDiff, Nat.reduceAdd, Nat.reduceLT, Nat.reduceEqDiff, reduceCtorEq, ↓reduceIte, rqs]) (.iv 7 19 1 false 33 3 [qrow (crat 1)] (by simp (disch := omega) only [wk, tis, Int.reduceNe, Int.reduceEq, Int.reduceLT, Int.reduceLE, Int.reduceAdd, Int.reduceSub, Int.reduceNeg, Int.reduceMul, Int.reduceToNat, Nat.reduceSub, Nat.reduceMul, Nat.reduceLeDiff, Nat.reduceAdd, Nat.reduceLT, Nat.reduceEqDiff, reduceCtorEq, ↓reduceIte, rqs]) (by simp (disch := omega) only [wk, tis, Int.reduceNe, Int.reduceEq, Int.reduceLT, Int.reduceLE, Int.reduceAdd, Int.reduceSub, Int.reduceNeg, Int.reduceMul, Int.reduceToNat, Nat.reduceSub, Nat.reduceMul, Nat.reduceLeDiff, Nat.reduceAdd, Nat.reduceLT, Nat.reduceEqDiff, reduceCtorEq, ↓reduceIte, rqs]) (.refl _ _))) (fun f H => ∃ (i : Nat), i ≤ p.length ∧ f 8 = .iv (.int .i64 i) ∧ f 0 = .iv (.sl (rats p)) ∧ f 1 = .iv (.sl (rats r)) ∧ f 6 = .iv (.sl (rats (cqs (csq (qvs p) Q i)))) ∧ f 7 = .iv (.sl (rats (cqs (powq Q i))))) (fun f H => (p.length - intAt f 8).toNat) ?_ ?_
  · refine ⟨0, by omega, ?_⟩
    simp (disch := omega) only [wk, tis, Int.reduceNe, Int.reduceEq, Int.reduceLT, Int.reduceLE, Int.reduceAdd, Int.reduceSub, Int.reduceNeg, Int.reduceMul, Int.reduceToNat, Nat.reduceSub, Nat.reduceMul, Nat.reduceLeDiff, Nat.reduceAdd, Nat.reduceLT, Nat.reduceEqDiff, reduceCtorEq, ↓reduceIte, rqs, e0, e1]
  rintro f H ⟨i, hi, hF⟩
  rw [intAt_of hF.1]
  simp (disch := omega) only [wk, tis, Int.reduceNe, Int.reduceEq, Int.reduceLT, Int.reduceLE, Int.reduceAdd, Int.reduceSub, Int.reduceNeg, Int.reduceMul, Int.reduceToNat, Nat.reduceSub, Nat.reduceMul, Nat.reduceLeDiff, Nat.reduceAdd, Nat.reduceLT, Nat.reduceEqDiff, reduceCtorEq, ↓reduceIte, rqs, hF]
  refine if_by (fun hlt => ?_) (fun hlt => ?_)
  · have hip : i < p.length := by omega
    obtain ⟨E, hE⟩ := hw i hi
    obtain ⟨F, hF1⟩ := hs i hi
    have b1 := byq_ok (trimq (powq Q i)) (p.getD i q0) (2 ^ 30) (hE.trim.qb.mono (by omega) (by omega)) ((hp.get hip).mono (by omega)) (hp.den hip) (by omega) (by omega)
    rw [← cfq_qvs, show cqp (sclq (cfq (qvs p) i) (trimq (powq Q i))) = cqp (sclq (cfq (qvs p) i) (powq Q i)) from congrArg cqw (cqs_ext fun j => sclq_congr _ (cfq_trimq _) j)] at b1
    have hc := hp.qb.cz (by omega) i
    have hsc := (hE.sclq hc).trim
    have b2 := plusq_ok (trimq (csq (qvs p) Q i)) (trimq (sclq (cfq (qvs p) i) (powq Q i))) (hF1.trim.qb.mono (by omega) (by omega)) (hsc.qb.mono (by omega) (by omega))
    rw [show cqp (addq (trimq (csq (qvs p) Q i)) (trimq (sclq (cfq (qvs p) i) (powq Q i)))) = cqp (csq (qvs p) Q (i + 1)) from congrArg cqw (cqs_ext fun j => by rw [csq]; exact addq_congr (cfq_trimq _) (cfq_trimq _) j)] at b2
    have b3 := timesq_ok (trimq (powq Q i)) Q (hE.trim.qb.mono (by omega) (by omega)) (hQ.qb.mono (by omega) (by omega)) (fun a k => Nat.le_trans (hE.trim.part hQ (by omega) a k) (by omega))
    rw [show cqp (mulq (trimq (powq Q i)) Q) = cqp (powq Q (i + 1)) from congrArg cqw (cqs_ext fun j => by rw [powq, mulq_comm Q]; exact mulq_congr (cfq_trimq _) (fun _ => rfl) j)] at b3
    simp (disch := omega) only [wk, tis, Int.reduceNe, Int.reduceEq, Int.reduceLT, Int.reduceLE, Int.reduceAdd, Int.reduceSub, Int.reduceNeg, Int.reduceMul, Int.reduceToNat, Nat.reduceSub, Nat.reduceMul, Nat.reduceLeDiff, Nat.reduceAdd, Nat.reduceLT, Nat.reduceEqDiff, reduceCtorEq, ↓reduceIte, rqs, hF]
    refine call_by (b1) (by first | rfl | (simp only [tocvs, tocv, hF]; rfl) | (simp only [tocvs, tocv, toboxes, tobox, updH_at, Nat.reduceEqDiff, ↓reduceIte, hF]; rfl)) (by simp) ?_
    simp (disch := omega) only [wk, tis, Int.reduceNe, Int.reduceEq, Int.reduceLT, Int.reduceLE, Int.reduceAdd, Int.reduceSub, Int.reduceNeg, Int.reduceMul, Int.reduceToNat, Nat.reduceSub, Nat.reduceMul, Nat.reduceLeDiff, Nat.reduceAdd, Nat.reduceLT, Nat.reduceEqDiff, reduceCtorEq, ↓reduceIte, rqs, hF]
    refine call_by (b2) (by first | rfl | (simp only [tocvs, tocv, hF]; rfl) | (simp only [tocvs, tocv, toboxes, tobox, updH_at, Nat.reduceEqDiff, ↓reduceIte, hF]; rfl)) (by simp) ?_
    simp (disch := omega) only [wk, tis, Int.reduceNe, Int.reduceEq, Int.reduceLT, Int.reduceLE, Int.reduceAdd, Int.reduceSub, Int.reduceNeg, Int.reduceMul, Int.reduceToNat, Nat.reduceSub, Nat.reduceMul, Nat.reduceLeDiff, Nat.reduceAdd, Nat.reduceLT, Nat.reduceEqDiff, reduceCtorEq, ↓reduceIte, rqs, hF]
    refine call_by (nr) (by first | rfl | (simp only [tocvs, tocv, hF]; rfl) | (simp only [tocvs, tocv, toboxes, tobox, updH_at, Nat.reduceEqDiff, ↓reduceIte, hF]; rfl)) (by simp) ?_
    simp (disch := omega) only [wk, tis, Int.reduceNe, Int.reduceEq, Int.reduceLT, Int.reduceLE, Int.reduceAdd, Int.reduceSub, Int.reduceNeg, Int.reduceMul, Int.reduceToNat, Nat.reduceSub, Nat.reduceMul, Nat.reduceLeDiff, Nat.reduceAdd, Nat.reduceLT, Nat.reduceEqDiff, reduceCtorEq, ↓reduceIte, rqs, hF]
    refine call_by (b3) (by first | rfl | (simp only [tocvs, tocv, hF]; rfl) | (simp only [tocvs, tocv, toboxes, tobox, updH_at, Nat.reduceEqDiff, ↓reduceIte, hF]; rfl)) (by simp) ?_
    simp (disch := omega) only [wk, tis, Int.reduceNe, Int.reduceEq, Int.reduceLT, Int.reduceLE, Int.reduceAdd, Int.reduceSub, Int.reduceNeg, Int.reduceMul, Int.reduceToNat, Nat.reduceSub, Nat.reduceMul, Nat.reduceLeDiff, Nat.reduceAdd, Nat.reduceLT, Nat.reduceEqDiff, reduceCtorEq, ↓reduceIte, rqs, hF]
    refine ⟨⟨i + 1, by omega, ?_⟩, by omega⟩
    (repeat' apply And.intro) <;> first | rfl | omega
  · obtain rfl : i = p.length := by omega
    simp (disch := omega) only [wk, tis, Int.reduceNe, Int.reduceEq, Int.reduceLT, Int.reduceLE, Int.reduceAdd, Int.reduceSub, Int.reduceNeg, Int.reduceMul, Int.reduceToNat, Nat.reduceSub, Nat.reduceMul, Nat.reduceLeDiff, Nat.reduceAdd, Nat.reduceLT, Nat.reduceEqDiff, reduceCtorEq, ↓reduceIte, rqs, hF]
    try rfl
theorem tComposeQ_bad (p q : List RQ) (hp : BQ (2 ^ 40) (2 ^ 38) p) (hq : BQ (2 ^ 40) (2 ^ 38) q) (h : gd p = false ∨ gd q = false) : AC Tryz.prog 18 [cqw p, cqw q] none [cqw [], ci 1] := by
  have g1 := okq_ok p hp
  have g2 := okq_ok q hq
  cases hg : gd p with
  | false =>
    rw [hg] at g1
    refine AC.by_walk (rs := [.tmp 4, .tmp 5]) ords Tryz.func18 (by rfl) (by rfl) (by rfl) (by rfl) (by rfl) ?_
    simp (disch := omega) only [wk, tis, Int.reduceNe, Int.reduceEq, Int.reduceLT, Int.reduceLE, Int.reduceAdd, Int.reduceSub, Int.reduceNeg, Int.reduceMul, Int.reduceToNat, Nat.reduceSub, Nat.reduceMul, Nat.reduceLeDiff, Nat.reduceAdd, Nat.reduceLT, Nat.reduceEqDiff, reduceCtorEq, ↓reduceIte, rqs]
    refine call_by (g1) (by rfl) (by simp) ?_
    simp (disch := omega) only [wk, tis, Int.reduceNe, Int.reduceEq, Int.reduceLT, Int.reduceLE, Int.reduceAdd, Int.reduceSub, Int.reduceNeg, Int.reduceMul, Int.reduceToNat, Nat.reduceSub, Nat.reduceMul, Nat.reduceLeDiff, Nat.reduceAdd, Nat.reduceLT, Nat.reduceEqDiff, reduceCtorEq, ↓reduceIte, rqs]
    try rfl
  | true =>
    rw [hg] at g1
    rw [h.resolve_left (by rw [hg]; decide)] at g2
    refine AC.by_walk (rs := [.tmp 4, .tmp 5]) ords Tryz.func18 (by rfl) (by rfl) (by rfl) (by rfl) (by rfl) ?_
    simp (disch := omega) only [wk, tis, Int.reduceNe, Int.reduceEq, Int.reduceLT, Int.reduceLE, Int.reduceAdd, Int.reduceSub, Int.reduceNeg, Int.reduceMul, Int.reduceToNat, Nat.reduceSub, Nat.reduceMul, Nat.reduceLeDiff, Nat.reduceAdd, Nat.reduceLT, Nat.reduceEqDiff, reduceCtorEq, ↓reduceIte, rqs]
    refine call_by (g1) (by rfl) (by simp) ?_
    simp (disch := omega) only [wk, tis, Int.reduceNe, Int.reduceEq, Int.reduceLT, Int.reduceLE, Int.reduceAdd, Int.reduceSub, Int.reduceNeg, Int.reduceMul, Int.reduceToNat, Nat.reduceSub, Nat.reduceMul, Nat.reduceLeDiff, Nat.reduceAdd, Nat.reduceLT, Nat.reduceEqDiff, reduceCtorEq, ↓reduceIte, rqs]
    refine call_by (g2) (by rfl) (by simp) ?_
    simp (disch := omega) only [wk, tis, Int.reduceNe, Int.reduceEq, Int.reduceLT, Int.reduceLE, Int.reduceAdd, Int.reduceSub, Int.reduceNeg, Int.reduceMul, Int.reduceToNat, Nat.reduceSub, Nat.reduceMul, Nat.reduceLeDiff, Nat.reduceAdd, Nat.reduceLT, Nat.reduceEqDiff, reduceCtorEq, ↓reduceIte, rqs]
    try rfl
theorem tShiftQ_of (p : List RQ) (a : RQ) (l : List RQ) (e : Int) (h : AC Tryz.prog 18 [cqw p, cqw [a, crat 1]] none [cqw l, ci e]) : AC Tryz.prog 13 [cqw p, cqq a] none [cqw l, ci e] := by
  have p3 := rats_two a (crat 1)
  refine AC.by_walk (rs := [.tmp 4, .tmp 5]) ords Tryz.func13 (by rfl) (by rfl) (by rfl) (by rfl) (by rfl) ?_
  simp (disch := omega) only [wk, tis, Int.reduceNe, Int.reduceEq, Int.reduceLT, Int.reduceLE, Int.reduceAdd, Int.reduceSub, Int.reduceNeg, Int.reduceMul, Int.reduceToNat, Nat.reduceSub, Nat.reduceMul, Nat.reduceLeDiff, Nat.reduceAdd, Nat.reduceLT, Nat.reduceEqDiff, reduceCtorEq, ↓reduceIte, rqs]
  refine ⟨tmps_by (by kernel_rfl), ?_⟩
  refine call_by (hone_ok) (by first | rfl | (simp only [tocvs, tocv, p3]; rfl) | (simp only [tocvs, tocv, toboxes, tobox, updH_at, Nat.reduceEqDiff, ↓reduceIte, p3]; rfl)) (by simp) ?_
  simp (disch := omega) only [wk, tis, Int.reduceNe, Int.reduceEq, Int.reduceLT, Int.reduceLE, Int.reduceAdd, Int.reduceSub, Int.reduceNeg, Int.reduceMul, Int.reduceToNat, Nat.reduceSub, Nat.reduceMul, Nat.reduceLeDiff, Nat.reduceAdd, Nat.reduceLT, Nat.reduceEqDiff, reduceCtorEq, ↓reduceIte, rqs, p3]
  refine call_by (h) (by first | rfl | (simp only [tocvs, tocv, p3]; rfl) | (simp only [tocvs, tocv, toboxes, tobox, updH_at, Nat.reduceEqDiff, ↓reduceIte, p3]; rfl)) (by simp) ?_
  simp (disch := omega) only [wk, tis, Int.reduceNe, Int.reduceEq, Int.reduceLT, Int.reduceLE, Int.reduceAdd, Int.reduceSub, Int.reduceNeg, Int.reduceMul, Int.reduceToNat, Nat.reduceSub, Nat.reduceMul, Nat.reduceLeDiff, Nat.reduceAdd, Nat.reduceLT, Nat.reduceEqDiff, reduceCtorEq, ↓reduceIte, rqs, p3]
  first | exact log_by (by kernel_rfl) | refine ⟨log_by (by kernel_rfl), ?_⟩
  try rfl
theorem tScaleQ_of (p : List RQ) (a : RQ) (l : List RQ) (e : Int) (h : AC Tryz.prog 18 [cqw p, cqw [crat 0, a]] none [cqw l, ci e]) : AC Tryz.prog 16 [cqw p, cqq a] none [cqw l, ci e] := by
  have p3 := rats_two (crat 0) a
  have z0 := hP_ok 0 1 (by omega) (by omega) (by omega) (by omega)
  rw [show ((0 : Int) : Rat) / ((1 : Nat) : Rat) = 0 by decide +kernel] at z0
  refine AC.by_walk (rs := [.tmp 4, .tmp 5]) ords Tryz.func16 (by rfl) (by rfl) (by rfl) (by rfl) (by rfl) ?_
  simp (disch := omega) only [wk, tis, Int.reduceNe, Int.reduceEq, Int.reduceLT, Int.reduceLE, Int.reduceAdd, Int.reduceSub, Int.reduceNeg, Int.reduceMul, Int.reduceToNat, Nat.reduceSub, Nat.reduceMul, Nat.reduceLeDiff, Nat.reduceAdd, Nat.reduceLT, Nat.reduceEqDiff, reduceCtorEq, ↓reduceIte, rqs]
  refine ⟨tmps_by (by kernel_rfl), ?_⟩
  refine call_by (z0) (by first | rfl | (simp only [tocvs, tocv, p3]; rfl) | (simp only [tocvs, tocv, toboxes, tobox, updH_at, Nat.reduceEqDiff, ↓reduceIte, p3]; rfl)) (by simp) ?_
  simp (disch := omega) only [wk, tis, Int.reduceNe, Int.reduceEq, Int.reduceLT, Int.reduceLE, Int.reduceAdd, Int.reduceSub, Int.reduceNeg, Int.reduceMul, Int.reduceToNat, Nat.reduceSub, Nat.reduceMul, Nat.reduceLeDiff, Nat.reduceAdd, Nat.reduceLT, Nat.reduceEqDiff, reduceCtorEq, ↓reduceIte, rqs, p3]
  refine call_by (h) (by first | rfl | (simp only [tocvs, tocv, p3]; rfl) | (simp only [tocvs, tocv, toboxes, tobox, updH_at, Nat.reduceEqDiff, ↓reduceIte, p3]; rfl)) (by simp) ?_
  simp (disch := omega) only [wk, tis, Int.reduceNe, Int.reduceEq, Int.reduceLT, Int.reduceLE, Int.reduceAdd, Int.reduceSub, Int.reduceNeg, Int.reduceMul, Int.reduceToNat, Nat.reduceSub, Nat.reduceMul, Nat.reduceLeDiff, Nat.reduceAdd, Nat.reduceLT, Nat.reduceEqDiff, reduceCtorEq, ↓reduceIte, rqs, p3]
  first | exact log_by (by kernel_rfl) | refine ⟨log_by (by kernel_rfl), ?_⟩
  try rfl

/-! ### Small ones -/
theorem hq_small {p q : List RQ} (hp : GQ 9 3 p) (hq : GQ 9 3 q) : HQ (trimq (qvs p)) (trimq (qvs q)) := by
  obtain ⟨D, hD⟩ := hq.qb.trimq.cb
  have hA := hp.qb.trimq
  have hl := hA.1
  exact ⟨by omega, fun k hk => by
    obtain ⟨E, hE⟩ := hoq_cb (N := 81) hD hA (by omega) (by omega) k (by have := Nat.mul_le_mul_right 9 (show k ≤ 9 by omega); omega)
    have h1 : k * 9 ≤ 9 * 9 := Nat.mul_le_mul_right _ (by omega)
    have h2 : k * (9 * 3 + 3 + 1 + 3 + 9 + 81 + 2) ≤ 9 * (9 * 3 + 3 + 1 + 3 + 9 + 81 + 2) := Nat.mul_le_mul_right _ (by omega)
    exact ⟨E, hE.mono (by omega) (by omega)⟩, ⟨D, hD.mono (by omega) (by omega)⟩, hA.mono (by omega) (by omega)⟩
theorem cq_small {p q : List RQ} (hp : GQ 9 3 p) (hq : GQ 9 3 q) : CQ p (trimq (qvs q)) := by
  obtain ⟨D, hD⟩ := hq.qb.trimq.cb
  have hA := hp.qb
  have hl := hp.1
  exact ⟨hp.mono (by omega) (by omega), ⟨D, hD.mono (by omega) (by omega)⟩, fun k hk => by
    have h1 : k * 9 ≤ 9 * 9 := Nat.mul_le_mul_right _ (by omega)
    obtain ⟨E, hE⟩ := powq_cb (c := 82) hD k (by omega)
    have h2 : k * (9 * 3 + 3 + 1 + 9 + 82) ≤ 9 * (9 * 3 + 3 + 1 + 9 + 82) := Nat.mul_le_mul_right _ (by omega)
    exact ⟨E, hE.mono (by omega) (by omega)⟩, fun k hk => by
    have h1 : k * 9 ≤ 9 * 9 := Nat.mul_le_mul_right _ (by omega)
    obtain ⟨E, hE⟩ := csq_cb (c := 82) hD hA (by omega) k (by omega)
    have h2 : k * (9 * 3 + 3 + 1 + 9 + 82) ≤ 9 * (9 * 3 + 3 + 1 + 9 + 82) := Nat.mul_le_mul_right _ (by omega)
    have h3 : k * (1 + k * (9 * 3 + 3 + 1 + 9 + 82) + 3 + 1) ≤ 9 * (1 + 9 * (9 * 3 + 3 + 1 + 9 + 82) + 3 + 1) := Nat.mul_le_mul (by omega) (by omega)
    exact ⟨E, hE.mono (by omega) (by omega)⟩⟩
theorem composeq_both (p q : List RQ) (hp : BQ 9 3 p) (hq : BQ 9 3 q) : ∃ l e, AC Tryz.prog 17 [cqw p, cqw q] none [cqw l, ci e] ∧ AC Tryz.prog 18 [cqw p, cqw q] none [cqw l, ci e] ∧ AC Tryz.prog 14 [cqw l, cqw l] none [cb true] := by
  by_cases h : gd p = true ∧ gd q = true
  · have hP := hp.gq h.1
    have hQ := hq.gq h.2
    have hh := hq_small hP hQ
    have hc := cq_small hP hQ
    have m := mComposeQ_ok p q (hP.mono (by omega) (by omega)) (hQ.mono (by omega) (by omega)) hh
    have t := tComposeQ_ok p q (hQ.mono (by omega) (by omega)) hc
    have e : cqs (hoq (trimq (qvs p)) (trimq (qvs q)) (trimq (qvs p)).length) = cqs (csq (qvs p) (trimq (qvs q)) p.length) := cqs_pq (by
      rw [hoq_csq, pq_csq _ _ _ (Nat.le_refl _), List.take_length, cmq_ext (cfq_trimq (qvs p)), ← qvs_len p, pq_csq _ _ _ (Nat.le_refl _), List.take_length])
    rw [show cqp (hoq (trimq (qvs p)) (trimq (qvs q)) (trimq (qvs p)).length) = cqw (cqs (csq (qvs p) (trimq (qvs q)) p.length)) from congrArg cqw e] at m
    obtain ⟨F, hF⟩ := hc.s p.length (Nat.le_refl _)
    exact ⟨_, 0, m, t, sameq11_self _ (hF.qb.gqs.bq.mono (by omega) (by omega))⟩
  · have h' : gd p = false ∨ gd q = false := by
      cases h1 : gd p with
      | false => exact .inl rfl
      | true =>
        cases h2 : gd q with
        | false => exact .inr rfl
        | true => exact (h ⟨h1, h2⟩).elim
    exact ⟨[], 1, mComposeQ_bad p q (hp.mono (by omega) (by omega)) (hq.mono (by omega) (by omega)) h', tComposeQ_bad p q (hp.mono (by omega) (by omega)) (hq.mono (by omega) (by omega)) h', sameq11_self _ ⟨Nat.zero_le _, fun r hr => nomatch hr⟩⟩
end Go.Proofs.YtaepoooifkjbmaaGreat

namespace Go.Proofs.YtaepoooifkjbmaaGreat
open Go Go.Proofs Go.AL
set_option linter.unusedSimpArgs false
set_option linter.unusedVariables false

/-! ### A polynomial at a fraction of power series -/

/-- The sum of c_i * f^i * g^(n-1-i). -/
def hom : List Int → PS → PS → PS
  | [], _, _ => 0
  | c :: p, f, g => PS.C c * PS.pw g p.length + f * hom p f g

theorem pw_one1 (n : Nat) : PS.pw 1 n = 1 := by
  induction n with
  | zero => rfl
  | succ n ih => rw [PS.pw, ih, PS.mul_one]

theorem hom_snoc (p : List Int) (c : Int) (f g : PS) : hom (p ++ [c]) f g = hom p f g * g + PS.C c * PS.pw f p.length := by
  induction p with
  | nil => simp only [List.nil_append, hom, List.length_nil, PS.pw, PS.mul_one, PS.mul_zero, PS.zero_mul, PS.add_zero, PS.zero_add]
  | cons x p ih =>
    simp only [List.cons_append, hom, ih, List.length_append, List.length_cons, List.length_nil, PS.pw, PS.add_mul, PS.mul_add]
    ac_rfl

/-- At a power series. -/
def cmp (p : List Int) (f : PS) : PS := hom p f 1
theorem cmp_nil (f : PS) : cmp [] f = 0 := rfl
theorem cmp_cons (c : Int) (p : List Int) (f : PS) : cmp (c :: p) f = PS.C c + f * cmp p f := by
  simp only [cmp, hom, pw_one1, PS.mul_one]

theorem cmp_zero {p : List Int} (f : PS) (h : ∀ k, cf p k = 0) : cmp p f = 0 := by
  induction p with
  | nil => rfl
  | cons c p ih =>
    have h0 := h 0
    rw [cmp_cons, ih (fun k => by have := h (k + 1); simpa [cf] using this), show c = 0 by simpa [cf] using h0, PS.C_zero, PS.mul_zero, PS.add_zero]

theorem cmp_ext {p q : List Int} (f : PS) (h : ∀ k, cf p k = cf q k) : cmp p f = cmp q f := by
  induction p generalizing q with
  | nil => rw [cmp_nil, cmp_zero f (fun k => (h k).symm.trans (cf_nil k))]
  | cons c p ih =>
    cases q with
    | nil => rw [cmp_nil, cmp_zero f (fun k => (h k).trans (cf_nil k))]
    | cons d q =>
      have h0 := h 0
      rw [cmp_cons, cmp_cons, ih (fun k => by have := h (k + 1); simpa [cf] using this), show c = d by simpa [cf] using h0]
theorem cmp_ps {p q : List Int} (f : PS) (h : ps p = ps q) : cmp p f = cmp q f := cmp_ext f (ps_eq h)

/-! ### In lists -/

def lhom : List Int → List Int → List Int → List Int
  | [], _, _ => []
  | c :: p, f, g => padd (pscale c (ppow g p.length)) (pmul f (lhom p f g))

theorem ps_lhom (p f g : List Int) : ps (lhom p f g) = hom p (ps f) (ps g) := by
  induction p with
  | nil => rw [lhom, hom, ps_nil]
  | cons c p ih => rw [lhom, hom, ps_padd, ps_pscale, ps_ppow, ps_pmul, ih]

theorem pb_lhom {N K : Nat} {f g : List Int} (hf : PB N K f) (hg : PB N K g) (hN : N < 2 ^ 20) : ∀ {p : List Int} {m : Nat}, m < 2 ^ 20 → PB m K p → PB (p.length * N + 1) (p.length * (K + 2) + K + 3) (lhom p f g)
  | [], _, _, _ => ⟨by simp [lhom], fun z hz => by simp [lhom] at hz⟩
  | c :: p, m, hm, hp => by
    have h1 : PB m K p := ⟨by have := hp.1; simp at this; omega, fun z hz => hp.2 z (List.mem_cons_of_mem _ hz)⟩
    have ih := pb_lhom hf hg hN hm h1
    have hc := hp.2 c (by simp)
    have hpl : p.length ≤ 2 ^ 20 := by have := hp.1; simp at this; omega
    have hW : ∀ x, x < 2 ^ 60 → x < W := fun x hx => by simp only [W]; omega
    have q := (hg.ppow (hW N (by omega)) p.length).pscale (c := c)
    have r := hf.pmul ih (hW N (by omega))
    have e1 : (p.length + 1) * N = p.length * N + N := Nat.succ_mul _ _
    have e2 : (p.length + 1) * (K + 2) = p.length * (K + 2) + (K + 2) := Nat.succ_mul _ _
    have e3 : p.length * (K + 2) = p.length * (K + 1) + p.length := by rw [show K + 2 = K + 1 + 1 from rfl, Nat.mul_succ]
    have hlen : (c :: p).length = p.length + 1 := rfl
    rw [hlen, e1, e2]
    exact (q.padd r).mono (by omega) (by omega)
end Go.Proofs.YtaepoooifkjbmaaGreat
