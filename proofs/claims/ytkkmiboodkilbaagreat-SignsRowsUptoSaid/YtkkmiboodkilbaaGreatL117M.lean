/-
  Contracts of the functions that the law reaches.
-/
import Derived.Test.YtkkmiboodkilbaaGreatL104M
import Derived.Test.YtkkmiboodkilbaaGreatAbsT
import Derived.Test.YtkkmiboodkilbaaGreatTyA
import Derived.Test.YtkkmiboodkilbaaGreatL1M
import Derived.RangeFuncBox
import Derived.OwnWalkIn
import Derived.TacticsInMore
import Derived.LoopNIn
import Derived.LoopIn
import Derived.Test.YtkkmiboodkilbaaGreatL36M
import Derived.Test.YtkkmiboodkilbaaGreatL12M
namespace Go.Proofs.YtkkmiboodkilbaaGreat
open Go Go.Proofs Go.AL
set_option linter.unusedSimpArgs false
set_option linter.unusedVariables false

end Go.Proofs.YtkkmiboodkilbaaGreat

namespace Go.Proofs.YtkkmiboodkilbaaGreat
open Go Go.Proofs Go.AL
set_option linter.unusedSimpArgs false
set_option linter.unusedVariables false

theorem pq_cqs (X : List Rat) : pq (qvs (cqs X)) = pq X := by rw [qvs_cqs, pq_trimq]
theorem cqs_pq {X Y : List Rat} (h : pq X = pq Y) : cqs X = cqs Y := cqs_ext (pq_eq h)
theorem qpadd_g {p q : List RQ} {K : Nat} {X Y : List Rat} (hp : GQ (2 ^ 30) K p) (hq : GQ (2 ^ 30) K q) (hK : K ≤ 2 ^ 35) (hK1 : 1 ≤ K) (ex : pq (qvs p) = pq X) (ey : pq (qvs q) = pq Y) : AC Tryz.prog 96 [cqw p, cqw q] none [cqp (addq X Y), ci 0] := by
  have h := qpadd_ok p q K hp hq hK hK1
  rwa [show cqp (addq (qvs p) (qvs q)) = cqp (addq X Y) from congrArg cqw (cqs_pq (by rw [pq_addq, pq_addq, ex, ey]))] at h
theorem qpnorm_g {p : List RQ} {X : List Rat} (hp : GQ (2 ^ 40) (2 ^ 38) p) (ex : pq (qvs p) = pq X) : AC Tryz.prog 51 [cqw p] none [cqp X, ci 0] := by
  have h := qpnorm_ok p hp
  rwa [show cqp (qvs p) = cqp X from congrArg cqw (cqs_pq ex)] at h

end Go.Proofs.YtkkmiboodkilbaaGreat

namespace Go.Proofs.YtkkmiboodkilbaaGreat
open Go Go.Proofs Go.AL
set_option linter.unusedSimpArgs false
set_option linter.unusedVariables false

theorem qp_len (P : List Int) : (qp P).length = P.length := by simp [qp]
theorem tzq_qp (P : List Int) : tzq (qp P) = tz P := by
  rcases Nat.eq_zero_or_pos (tz P) with h | h
  · rw [h]
    exact tzq_zero_iff.mpr fun k => by rw [cfq_qp, tz_zero_iff.mp h k]; rfl
  · have := tzq_spec (q := qp P) (n := tz P - 1) (by
      rw [cfq_qp]
      exact fun e => cf_tz_pred (q := P) (by omega) (Rat.intCast_eq_zero_iff.mp e)) fun k hk => by rw [cfq_qp, cf_ge_tz P (by omega)]; rfl
    omega
theorem qp_trim (P : List Int) : trimq (qp P) = qp (trimz P) := by rw [trimq, tzq_qp, trimz, qp, qp, List.map_take]
theorem qof10_ok (p : List RI) (h : RP (2 ^ 40) (2 ^ 38) p) : AC Tryz.prog 25 [cw p] none [cqp (qp (pv p))] := by
  have n := pnorm_ok p (h.mono (by omega) (by omega))
  have m := nof_ok 1 (by decide)
  rw [show wd 1 = [1] by decide +kernel] at m
  rw [show cqp (qp (pv p)) = cqw ((qp (trimz (pv p))).map crat) from congrArg cqw (by rw [cqs, qp_trim])]
  refine AC.by_walk (rs := [.tmp 2]) ords Tryz.func25 (by rfl) (by rfl) (by rfl) (by rfl) (by rfl) ?_
  simp (disch := omega) only [wk, tis, Int.reduceNe, Int.reduceEq, Int.reduceLT, Int.reduceLE, Int.reduceAdd, Int.reduceSub, Int.reduceNeg, Int.reduceMul, Int.reduceToNat, Nat.reduceSub, Nat.reduceMul, Nat.reduceLeDiff, Nat.reduceAdd, Nat.reduceLT, Nat.reduceEqDiff, reduceCtorEq, ↓reduceIte, rqs]
  refine call_by (n) (by rfl) (by simp) ?_
  simp (disch := omega) only [wk, tis, Int.reduceNe, Int.reduceEq, Int.reduceLT, Int.reduceLE, Int.reduceAdd, Int.reduceSub, Int.reduceNeg, Int.reduceMul, Int.reduceToNat, Nat.reduceSub, Nat.reduceMul, Nat.reduceLeDiff, Nat.reduceAdd, Nat.reduceLT, Nat.reduceEqDiff, reduceCtorEq, ↓reduceIte, rqs]
  unfold cpoly
  have hAl : (trimz (pv p)).length ≤ 2 ^ 40 := h.pv.trimz.1
  generalize trimz (pv p) = A at *
  have hq : (A.map canon).length = A.length := List.length_map _
  have hql := qp_len A
  simp (disch := omega) only [wk, tis, Int.reduceNe, Int.reduceEq, Int.reduceLT, Int.reduceLE, Int.reduceAdd, Int.reduceSub, Int.reduceNeg, Int.reduceMul, Int.reduceToNat, Nat.reduceSub, Nat.reduceMul, Nat.reduceLeDiff, Nat.reduceAdd, Nat.reduceLT, Nat.reduceEqDiff, reduceCtorEq, ↓reduceIte, rqs, hq]
  refine aloop_nil 3 3 38 3 (by simp (disch := omega) only [wk, tis, Int.reduceNe, Int.reduceEq, Int.reduceLT, Int.reduceLE, Int.reduceAdd, Int.reduceSub, Int.reduceNeg, Int.reduceMul, Int.reduceToNat, Nat.reduceSub, Nat.reduceMul, Nat.reduceLeDiff, Nat.reduceAdd, Nat.reduceLT, Nat.reduceEqDiff, reduceCtorEq, ↓reduceIte, rqs]) (fun f H => ∃ (i st : Nat), i ≤ A.length ∧ f 9 = .iv (.int .i64 i) ∧ f 7 = .iv (.sl (raws (A.map canon))) ∧ f 8 = .iv (.int .i64 A.length) ∧ f 3 = .hs 3 st ∧ H 3 = .blk false st 38 3 (rats (((qp A).take i).map crat))) (fun f H => (A.length - intAt f 9).toNat) ?_ ?_
  · refine ⟨0, 1, by omega, ?_⟩
    simp (disch := omega) only [wk, tis, Int.reduceNe, Int.reduceEq, Int.reduceLT, Int.reduceLE, Int.reduceAdd, Int.reduceSub, Int.reduceNeg, Int.reduceMul, Int.reduceToNat, Nat.reduceSub, Nat.reduceMul, Nat.reduceLeDiff, Nat.reduceAdd, Nat.reduceLT, Nat.reduceEqDiff, reduceCtorEq, ↓reduceIte, rqs, ghostF, ghostH, hq, List.take_zero, List.map_nil]
  rintro f H ⟨i, st, hi, hF⟩
  rw [intAt_of hF.1]
  simp (disch := omega) only [wk, tis, Int.reduceNe, Int.reduceEq, Int.reduceLT, Int.reduceLE, Int.reduceAdd, Int.reduceSub, Int.reduceNeg, Int.reduceMul, Int.reduceToNat, Nat.reduceSub, Nat.reduceMul, Nat.reduceLeDiff, Nat.reduceAdd, Nat.reduceLT, Nat.reduceEqDiff, reduceCtorEq, ↓reduceIte, rqs, hF]
  refine if_by (fun hlt => ?_) (fun hlt => ?_)
  · have hlt' : i < A.length := by omega
    have hrq : (((qp A).take i).map crat).length = i := by rw [List.length_map, List.length_take]; omega
    have e1 := canon_getD A i
    have hrow : [IV.bool (canon (cf A i)).1, IV.sl (lims (canon (cf A i)).2), IV.sl (lims [1])] = qrow (crat (cf A i : Rat)) := by rw [crat_int]
    simp (disch := omega) only [wk, tis, Int.reduceNe, Int.reduceEq, Int.reduceLT, Int.reduceLE, Int.reduceAdd, Int.reduceSub, Int.reduceNeg, Int.reduceMul, Int.reduceToNat, Nat.reduceSub, Nat.reduceMul, Nat.reduceLeDiff, Nat.reduceAdd, Nat.reduceLT, Nat.reduceEqDiff, reduceCtorEq, ↓reduceIte, rqs, hF, hq, hrq, e1]
    refine ⟨tmps_by (by kernel_rfl), ?_⟩
    refine call_by (m) (by first | rfl | (simp only [tocvs, tocv, hF, hq, hrq, e1, hrow]; rfl) | (simp only [tocvs, tocv, toboxes, tobox, updH_at, Nat.reduceEqDiff, ↓reduceIte, hF, hq, hrq, e1, hrow]; rfl)) (by simp) ?_
    simp (disch := omega) only [wk, tis, Int.reduceNe, Int.reduceEq, Int.reduceLT, Int.reduceLE, Int.reduceAdd, Int.reduceSub, Int.reduceNeg, Int.reduceMul, Int.reduceToNat, Nat.reduceSub, Nat.reduceMul, Nat.reduceLeDiff, Nat.reduceAdd, Nat.reduceLT, Nat.reduceEqDiff, reduceCtorEq, ↓reduceIte, rqs, hF, hq, hrq, e1, hrow]
    first | exact log_by (by kernel_rfl) | refine ⟨log_by (by kernel_rfl), ?_⟩
    have et := takeq_snoc (q := qp A) (i := i) (by omega)
    rw [cfq_qp] at et
    refine ⟨⟨i + 1, st + 1, by omega, ?_⟩, by omega⟩
    rw [et, List.map_append, show rats (((qp A).take i).map crat ++ List.map crat [((cf A i : Int) : Rat)]) = rats (((qp A).take i).map crat) ++ [[IV.bool (canon (cf A i)).1, IV.sl (lims (canon (cf A i)).2), IV.sl (lims [1])]] by rw [hrow]; exact List.map_append]
    (repeat' apply And.intro) <;> first | rfl | omega
  · rw [List.take_of_length_le (l := qp A) (by omega)] at hF
    simp (disch := omega) only [wk, tis, Int.reduceNe, Int.reduceEq, Int.reduceLT, Int.reduceLE, Int.reduceAdd, Int.reduceSub, Int.reduceNeg, Int.reduceMul, Int.reduceToNat, Nat.reduceSub, Nat.reduceMul, Nat.reduceLeDiff, Nat.reduceAdd, Nat.reduceLT, Nat.reduceEqDiff, reduceCtorEq, ↓reduceIte, rqs, hF]
    try rfl

/-- The sum of p and c times r. -/
def fma (c : Rat) (a b : Rat) : Rat := a + c * b
end Go.Proofs.YtkkmiboodkilbaaGreat

namespace Go.Proofs.YtkkmiboodkilbaaGreat
open Go Go.Proofs Go.AL
set_option linter.unusedSimpArgs false
set_option linter.unusedVariables false

end Go.Proofs.YtkkmiboodkilbaaGreat

namespace Go.Proofs.YtkkmiboodkilbaaGreat
open Go Go.Proofs Go.AL
set_option linter.unusedSimpArgs false
set_option linter.unusedVariables false

theorem rats_length (l : List RQ) : (rats l).length = l.length := by simp [rats]
end Go.Proofs.YtkkmiboodkilbaaGreat

namespace Go.Proofs.YtkkmiboodkilbaaGreat
open Go Go.Proofs Go.AL
set_option linter.unusedSimpArgs false
set_option linter.unusedVariables false

/-! ### Division over the rationals -/
/-- c x^n. -/
def upq (c : Rat) (n : Nat) : List Rat := List.replicate n 0 ++ [c]
/-- The quotient of the leading coefficients. -/
def dc (A B : List Rat) : Rat := cfq A (A.length - 1) / cfq B (B.length - 1)
/-- One step of the division. -/
def dn1 (A B : List Rat) : List Rat := trimq (zipq (fma (-1)) A (mulq (upq (dc A B) (A.length - B.length)) B))
/-- What is left after k steps. -/
def dit (A B : List Rat) : Nat → List Rat
  | 0 => A
  | k + 1 => dn1 (dit A B k) B
theorem CD.cf {D n M : Nat} {q : List Rat} (h : CB D n M q) (k : Nat) : CD D M (cfq q k) := by
  by_cases hk : k < q.length
  · rw [cfq_lt hk]; exact h.c _ (List.getElem_mem hk)
  · rw [cfq_ge (by omega)]; exact CD.zero _ _
end Go.Proofs.YtkkmiboodkilbaaGreat

namespace Go.Proofs.YtkkmiboodkilbaaGreat
open Go Go.Proofs Go.AL
set_option linter.unusedSimpArgs false
set_option linter.unusedVariables false

/-- What a division of A by B that ends after n steps is known by. -/
structure DV (A B : List Rat) (n K : Nat) : Prop where
  la : A.length ≤ 2 ^ 28
  lb : B.length ≤ 2 ^ 28
  h0 : B.length ≠ 0
  hb : cfq B (B.length - 1) ≠ 0
  ta : trimq A = A
  tb : trimq B = B
  en : (dit A B n).length < B.length
  hj : ∀ j, j < n → B.length ≤ (dit A B j).length
  za : ∀ k, k ≤ n → ∀ i, qz (cfq (dit A B k) i) ≤ K
  zb : ∀ i, qz (cfq B i) ≤ K
  k1 : 1 ≤ K
  k2 : K ≤ 2 ^ 32

def hrows : HC → Nat
  | .blk _ _ _ _ rows => rows.length
  | .none => 0
end Go.Proofs.YtkkmiboodkilbaaGreat

namespace Go.Proofs.YtkkmiboodkilbaaGreat
open Go Go.Proofs Go.AL
set_option linter.unusedSimpArgs false
set_option linter.unusedVariables false

end Go.Proofs.YtkkmiboodkilbaaGreat

namespace Go.Proofs.YtkkmiboodkilbaaGreat
open Go Go.Proofs Go.AL
set_option linter.unusedSimpArgs false
set_option linter.unusedVariables false

end Go.Proofs.YtkkmiboodkilbaaGreat

namespace Go.Proofs.YtkkmiboodkilbaaGreat
open Go Go.Proofs Go.AL
set_option linter.unusedSimpArgs false
set_option linter.unusedVariables false

end Go.Proofs.YtkkmiboodkilbaaGreat

namespace Go.Proofs.YtkkmiboodkilbaaGreat
open Go Go.Proofs Go.AL
set_option linter.unusedSimpArgs false
set_option linter.unusedVariables false

end Go.Proofs.YtkkmiboodkilbaaGreat

namespace Go.Proofs.YtkkmiboodkilbaaGreat
open Go Go.Proofs Go.AL
set_option linter.unusedSimpArgs false
set_option linter.unusedVariables false

end Go.Proofs.YtkkmiboodkilbaaGreat

namespace Go.Proofs.YtkkmiboodkilbaaGreat
open Go Go.Proofs Go.AL
set_option linter.unusedSimpArgs false
set_option linter.unusedVariables false

end Go.Proofs.YtkkmiboodkilbaaGreat

namespace Go.Proofs.YtkkmiboodkilbaaGreat
open Go Go.Proofs Go.AL
set_option linter.unusedSimpArgs false
set_option linter.unusedVariables false

end Go.Proofs.YtkkmiboodkilbaaGreat

namespace Go.Proofs.YtkkmiboodkilbaaGreat
open Go Go.Proofs Go.AL
set_option linter.unusedSimpArgs false
set_option linter.unusedVariables false

/-! ### What has a common denominator is cleared by it -/
theorem CD.den_dvd {D M : Nat} {q : Rat} (hD : D ≠ 0) (h : CD D M q) : q.den ∣ D := by
  obtain ⟨z, e, hz⟩ := h
  have h1 := natr_ne hD
  have h2 := natr_ne q.den_nz
  have h3 : (q.num : Rat) / (q.den : Rat) = (z : Rat) / (D : Rat) := by
    rw [← e, ← Rat.mkRat_eq_div]; exact Rat.mkRat_self q
  have h4 : (q.num : Rat) * (D : Rat) = (z : Rat) * (q.den : Rat) := by grind
  have h5 : q.num * (D : Int) = z * (q.den : Int) := by
    rw [← Rat.intCast_natCast, ← Rat.intCast_natCast, ← Rat.intCast_mul, ← Rat.intCast_mul] at h4
    exact Rat.intCast_inj.mp h4
  have h6 : q.den ∣ q.num.natAbs * D := ⟨z.natAbs, by
    have := congrArg Int.natAbs h5
    rw [Int.natAbs_mul, Int.natAbs_mul, Int.natAbs_natCast, Int.natAbs_natCast] at this
    rw [this, Nat.mul_comm]⟩
  exact (q.reduced.symm).dvd_of_dvd_mul_left h6
/-- Products over one denominator: the product of both. -/
theorem qsum_cd {D M n : Nat} {f : Nat → Rat} (h : ∀ i, i < n → CD D M (f i)) : CD D (M + n) (qsum n f) := by
  induction n with
  | zero => exact CD.zero _ _
  | succ n ih =>
    have h1 := ih fun i hi => h i (by omega)
    have h2 := h n (by omega)
    exact (h1.add h2).mono (by omega)
theorem lcmL_dvd {D : Nat} : ∀ (l : List Nat) (i : Nat), (∀ x ∈ l, x ∣ D) → lcmL (l.take i) ∣ D
  | l, 0, _ => by rw [List.take_zero]; exact Nat.one_dvd _
  | l, i + 1, h => by
    by_cases hi : i < l.length
    · rw [lcmL_take hi]
      refine Nat.lcm_dvd (lcmL_dvd l i h) (h _ ?_)
      rw [List.getD, List.getElem?_eq_getElem hi, Option.getD_some]
      exact List.getElem_mem hi
    · rw [List.take_of_length_le (by omega), ← List.take_of_length_le (l := l) (i := i) (by omega)]
      exact lcmL_dvd l i h
theorem CB.dens_dvd {D n M : Nat} {A : List Rat} (h : CB D n M A) : ∀ x ∈ dens A, x ∣ D := fun x hx => by
  obtain ⟨c, hc, rfl⟩ := List.mem_map.1 hx
  exact (h.c c hc).den_dvd h.d
theorem CB.lcm_len {D n M : Nat} {A : List Rat} (h : CB D n M A) (i : Nat) : (wd (lcmL ((dens A).take i))).length ≤ M :=
  Nat.le_trans (wd_len_mono (Nat.le_of_dvd (Nat.pos_of_ne_zero h.d) (lcmL_dvd _ i h.dens_dvd))) h.w
theorem CB.cden_dvd {D n M : Nat} {A : List Rat} (h : CB D n M A) : cden A ∣ D := by
  have := lcmL_dvd (dens A) (dens A).length h.dens_dvd
  rwa [List.take_length] at this
theorem CB.cden_len {D n M : Nat} {A : List Rat} (h : CB D n M A) : (wd (cden A)).length ≤ M :=
  Nat.le_trans (wd_len_mono (Nat.le_of_dvd (Nat.pos_of_ne_zero h.d) h.cden_dvd)) h.w
/-- .. so what it is times that is no longer. -/
theorem CB.clr_pb {D n M : Nat} {A : List Rat} (h : CB D n M A) : PB n M (clr A) := .of (by rw [clr_len]; exact h.l) fun k => by
  obtain ⟨z, e, hz⟩ := CD.cf h k
  obtain ⟨t, ht⟩ := h.cden_dvd
  have ht0 : t ≠ 0 := fun e => h.d (by rw [ht, e, Nat.mul_zero])
  have h1 := natr_ne (cden_ne A)
  have h2 := natr_ne ht0
  have h3 := cf_clr A k
  rw [e, ht, Rat.natCast_mul] at h3
  have h4 : (cf (clr A) k : Rat) * (t : Rat) = (z : Rat) := by rw [h3]; grind
  have h5 : cf (clr A) k * (t : Int) = z := by
    rw [← Rat.intCast_natCast, ← Rat.intCast_mul] at h4
    exact Rat.intCast_inj.mp h4
  refine Nat.le_trans (wd_len_mono ?_) hz
  rw [← h5, Int.natAbs_mul, Int.natAbs_natCast]
  exact Nat.le_mul_of_pos_right _ (Nat.pos_of_ne_zero ht0)
theorem CB.mulq {D E n m M N : Nat} {A B : List Rat} (hA : CB D n M A) (hB : CB E m N B) : CB (D * E) (n + m) (M + N + (n + m)) (mulq A B) where
  d := Nat.mul_ne_zero hA.d hB.d
  w := by
    have h1 := AL.wd_mul_len D E
    have h2 := hA.w
    have h3 := hB.w
    omega
  l := by
    simp only [mulq_def, List.length_map, List.length_range]
    have := hA.l
    have := hB.l
    omega
  c := fun c hc => by
    obtain ⟨k, hk, rfl⟩ := List.getElem_of_mem hc
    have hl : k < n + m := by
      simp only [mulq_def, List.length_map, List.length_range] at hk
      have := hA.l
      have := hB.l
      omega
    rw [← cfq_lt hk, cfq_mulq, PQ.cvq_conv]
    exact (qsum_cd (n := k + 1) (f := fun i => cfq A i * cfq B (k - i)) fun i _ => CD.mul hA.d hB.d (CD.cf hA _) (CD.cf hB _)).mono (by omega)
end Go.Proofs.YtkkmiboodkilbaaGreat

namespace Go.Proofs.YtkkmiboodkilbaaGreat
open Go Go.Proofs Go.AL
set_option linter.unusedSimpArgs false
set_option linter.unusedVariables false

/-- Every power to the m-th has a common denominator of bounded length. -/
def PWH (A : List Rat) (m N K : Nat) : Prop := ∀ k, k ≤ m → ∃ D, CB D N K (powq A k)
/-- What a power is known by. -/
structure PWK (A : List Rat) (m N K : Nat) : Prop where
  h : ∀ k, k ≤ m → ∃ D, CB D N K (trimq (powq A k))
theorem PWH.k {A : List Rat} {m N K : Nat} (h : PWH A m N K) : PWK A m N K := ⟨fun k hk => by
  obtain ⟨D, hD⟩ := h k hk
  exact ⟨D, hD.trim⟩⟩
theorem PWK.mono {A : List Rat} {m N K N' K' : Nat} (h : PWK A m N K) (hN : N ≤ N') (hK : K ≤ K') : PWK A m N' K' := ⟨fun k hk => by
  obtain ⟨D, hD⟩ := h.h k hk
  exact ⟨D, hD.mono hN hK⟩⟩
theorem CB.part {D E n m M N : Nat} {A B : List Rat} (hA : CB D n M A) (hB : CB E m N B) (h1 : 1 ≤ M + N + (n + m)) (i k : Nat) : qz (cvq (A.take i) (cfq B) k) ≤ M + N + (n + m) := by
  have h := ((hA.sub (r := A.take i) (by rw [List.length_take]; have := hA.l; omega) fun c hc => List.mem_of_mem_take hc).mulq hB).qb.cz h1 k
  rwa [cfq_mulq] at h
end Go.Proofs.YtkkmiboodkilbaaGreat

namespace Go.Proofs.YtkkmiboodkilbaaGreat
open Go Go.Proofs Go.AL
set_option linter.unusedSimpArgs false
set_option linter.unusedVariables false

end Go.Proofs.YtkkmiboodkilbaaGreat

namespace Go.Proofs.YtkkmiboodkilbaaGreat
open Go Go.Proofs Go.AL
set_option linter.unusedSimpArgs false
set_option linter.unusedVariables false

/-! ### Products of x - r -/
def lineq (c : Rat) : List Rat := [-c, 1]
def froot (X : List Rat) (b : Nat) : Nat → List Rat
  | 0 => [1]
  | k + 1 => if k = b then froot X b k else mulq (froot X b k) (lineq (cfq X k))
/-! ### Sums over common denominators -/
theorem CB.addq {D E n m M N : Nat} {A B : List Rat} (hA : CB D n M A) (hB : CB E m N B) : CB (D * E) (max n m) (M + N + 1) (addq A B) where
  d := Nat.mul_ne_zero hA.d hB.d
  w := by
    have h1 := AL.wd_mul_len D E
    have h2 := hA.w
    have h3 := hB.w
    omega
  l := by
    simp only [Go.Proofs.YtkkmiboodkilbaaGreat.addq, List.length_map, List.length_range]
    have := hA.l
    have := hB.l
    omega
  c := fun c hc => by
    obtain ⟨k, hk, rfl⟩ := List.getElem_of_mem hc
    rw [← cfq_lt hk, cfq_addq]
    have h1 := CD.up hA.d hB.d hB.w (CD.cf hA k)
    have h2 := CD.up hB.d hA.d hA.w (CD.cf hB k)
    rw [Nat.mul_comm] at h2
    exact (h1.add h2).mono (by omega)
theorem CB.const {c : Rat} {K : Nat} (h : qz c ≤ K) : CB c.den 1 K [c] where
  d := c.den_nz
  w := Nat.le_trans (qz_parts c).2 h
  l := Nat.le_refl _
  c := fun x hx => by
    rcases List.mem_singleton.1 hx with rfl
    exact (CD.ofRat x).mono (Nat.le_trans (qz_parts x).1 h)

/-! ### Newton's sum -/
def newc (X Y S : List Rat) (k : Nat) : Rat := (cfq Y k - evq S (cfq X k)) / evq (froot X X.length k) (cfq X k)
def news (X Y : List Rat) : Nat → List Rat
  | 0 => []
  | k + 1 => addq (news X Y k) (sclq (newc X Y (news X Y k) k) (froot X X.length k))
end Go.Proofs.YtkkmiboodkilbaaGreat

namespace Go.Proofs.YtkkmiboodkilbaaGreat
open Go Go.Proofs Go.AL
set_option linter.unusedSimpArgs false
set_option linter.unusedVariables false

end Go.Proofs.YtkkmiboodkilbaaGreat

namespace Go.Proofs.YtkkmiboodkilbaaGreat
open Go Go.Proofs Go.AL
set_option linter.unusedSimpArgs false
set_option linter.unusedVariables false

/-! ### Sign changes -/
/-- One more number: so many changes, and the last sign that isn't 0. -/
def chs (st : Nat × Int) (x : Int) : Nat × Int :=
  if x.sign = 0 then st else (if st.2 ≠ 0 ∧ x.sign ≠ st.2 then st.1 + 1 else st.1, x.sign)
def chf (l : List Int) : Nat × Int := l.foldl chs (0, 0)
/-- The variations of a list. -/
def chg (l : List Int) : Nat := (chf l).1
theorem takei_snoc {l : List Int} {i : Nat} (h : i < l.length) : l.take (i + 1) = l.take i ++ [l.getD i 0] := by
  rw [List.take_add_one]; congr 1; simp [List.getD, h]
theorem chf_take {l : List Int} {i : Nat} (h : i < l.length) : chf (l.take (i + 1)) = chs (chf (l.take i)) (l.getD i 0) := by
  rw [takei_snoc h, chf, List.foldl_append]; rfl
theorem chs_zero {st : Nat × Int} {x : Int} (h : x.sign = 0) : chs st x = st := by rw [chs, if_pos h]
theorem chs_more {st : Nat × Int} {x : Int} (h : x.sign ≠ 0) (h2 : st.2 ≠ 0 ∧ x.sign ≠ st.2) : chs st x = (st.1 + 1, x.sign) := by rw [chs, if_neg h, if_pos h2]
theorem chs_same {st : Nat × Int} {x : Int} (h : x.sign ≠ 0) (h2 : ¬ (st.2 ≠ 0 ∧ x.sign ≠ st.2)) : chs st x = (st.1, x.sign) := by rw [chs, if_neg h, if_neg h2]
theorem chf_le (l : List Int) : ∀ i, i ≤ l.length → (chf (l.take i)).1 ≤ i
  | 0, _ => by rw [List.take_zero]; exact Nat.le_refl _
  | i + 1, h => by
    have ih := chf_le l i (by omega)
    rw [chf_take (by omega)]
    unfold chs
    split
    · omega
    · split <;> (simp only; omega)
theorem chf_sign (l : List Int) (i : Nat) : (chf (l.take i)).2 = 0 ∨ (chf (l.take i)).2 = 1 ∨ (chf (l.take i)).2 = -1 := by
  induction i with
  | zero => rw [List.take_zero]; exact .inl rfl
  | succ i ih =>
    by_cases h : i < l.length
    · rw [chf_take h]
      unfold chs
      split
      · exact ih
      · rename_i hs
        show (l.getD i 0).sign = 0 ∨ _
        rcases Int.lt_trichotomy (l.getD i 0) 0 with hx | hx | hx
        · exact .inr (.inr (Int.sign_eq_neg_one_of_neg hx))
        · rw [hx] at hs; exact absurd rfl hs
        · exact .inr (.inl (Int.sign_eq_one_of_pos hx))
    · rw [List.take_of_length_le (by omega), ← List.take_of_length_le (l := l) (i := i) (by omega)]
      exact ih
theorem sign_cases (x : Int) : (x < 0 ∧ x.sign = -1) ∨ (x = 0 ∧ x.sign = 0) ∨ (0 < x ∧ x.sign = 1) := by
  rcases Int.lt_trichotomy x 0 with hx | hx | hx
  · exact .inl ⟨hx, Int.sign_eq_neg_one_of_neg hx⟩
  · exact .inr (.inl ⟨hx, by rw [hx]; rfl⟩)
  · exact .inr (.inr ⟨hx, Int.sign_eq_one_of_pos hx⟩)
theorem sign_sign (x : Int) : x.sign.sign = x.sign := by
  rcases sign_cases x with ⟨_, h⟩ | ⟨_, h⟩ | ⟨_, h⟩ <;> rw [h] <;> rfl
theorem chs_sign (st : Nat × Int) (x : Int) : chs st x.sign = chs st x := by unfold chs; rw [sign_sign]
theorem chf_map_sign (l : List Int) : chf (l.map Int.sign) = chf l := by
  have : ∀ (l : List Int) (st : Nat × Int), (l.map Int.sign).foldl chs st = l.foldl chs st := fun l => by
    induction l with
    | nil => exact fun _ => rfl
    | cons x l ih => exact fun st => by rw [List.map_cons, List.foldl_cons, List.foldl_cons, chs_sign, ih]
  exact this l _
end Go.Proofs.YtkkmiboodkilbaaGreat

namespace Go.Proofs.YtkkmiboodkilbaaGreat
open Go Go.Proofs Go.AL
set_option linter.unusedSimpArgs false
set_option linter.unusedVariables false

set_option maxRecDepth 100000 in
theorem chg_ok (l : List Int) (hl : l.length ≤ 2 ^ 40) : AC Tryz.prog 5 [cis l] none [ci (chg l)] := by
  refine AC.by_walk (rs := [.tmp 2]) ords Tryz.func5 (by rfl) (by rfl) (by rfl) (by rfl) (by rfl) ?_
  simp (disch := omega) only [wk, tis, Int.reduceNe, Int.reduceEq, Int.reduceLT, Int.reduceLE, Int.reduceAdd, Int.reduceSub, Int.reduceNeg, Int.reduceMul, Int.reduceToNat, Nat.reduceSub, Nat.reduceMul, Nat.reduceLeDiff, Nat.reduceAdd, Nat.reduceLT, Nat.reduceEqDiff, reduceCtorEq, ↓reduceIte, rqs, Bool.true_beq, Bool.false_beq, Bool.not_true, Bool.not_false]
  refine aloop_by (fun f H => ∃ (i : Nat) (last : Int), i ≤ l.length ∧ last.sign = (chf (l.take i)).2 ∧ f 9 = .iv (.int .i64 i) ∧ f 8 = .iv (.int .i64 l.length) ∧ f 7 = .iv (.sl (ilims l)) ∧ f 3 = .iv (.int .i64 (chf (l.take i)).1) ∧ f 4 = .iv (.int .i64 last)) (fun f H => (l.length - intAt f 9).toNat) ?_ ?_
  · refine ⟨0, 0, by omega, rfl, ?_⟩
    simp (disch := omega) only [wk, tis, Int.reduceNe, Int.reduceEq, Int.reduceLT, Int.reduceLE, Int.reduceAdd, Int.reduceSub, Int.reduceNeg, Int.reduceMul, Int.reduceToNat, Nat.reduceSub, Nat.reduceMul, Nat.reduceLeDiff, Nat.reduceAdd, Nat.reduceLT, Nat.reduceEqDiff, reduceCtorEq, ↓reduceIte, rqs, Bool.true_beq, Bool.false_beq, Bool.not_true, Bool.not_false, List.take_zero, show (chf []).1 = 0 from rfl]
  rintro f H ⟨i, last, hi, hs, hF⟩
  rw [intAt_of hF.1]
  simp (disch := omega) only [wk, tis, Int.reduceNe, Int.reduceEq, Int.reduceLT, Int.reduceLE, Int.reduceAdd, Int.reduceSub, Int.reduceNeg, Int.reduceMul, Int.reduceToNat, Nat.reduceSub, Nat.reduceMul, Nat.reduceLeDiff, Nat.reduceAdd, Nat.reduceLT, Nat.reduceEqDiff, reduceCtorEq, ↓reduceIte, rqs, Bool.true_beq, Bool.false_beq, Bool.not_true, Bool.not_false, hF]
  refine if_by (fun hlt => ?_) (fun hlt => ?_)
  · have hlt' : i < l.length := by omega
    have et := chf_take hlt'
    have hle := chf_le l i hi
    obtain ⟨x, hx⟩ : ∃ x, x = l.getD i 0 := ⟨_, rfl⟩
    rw [← hx] at et
    generalize hst : chf (l.take i) = st at *
    rcases sign_cases x with ⟨c1, s1⟩ | ⟨c1, s1⟩ | ⟨c1, s1⟩
    · have n0 : ¬ x = 0 := by omega
      by_cases hl0 : last = 0
      · rw [hl0] at hs
        rw [chs_same (by rw [s1]; decide) (fun h => h.1 hs.symm)] at et
        simp (disch := omega) only [wk, tis, Int.reduceNe, Int.reduceEq, Int.reduceLT, Int.reduceLE, Int.reduceAdd, Int.reduceSub, Int.reduceNeg, Int.reduceMul, Int.reduceToNat, Nat.reduceSub, Nat.reduceMul, Nat.reduceLeDiff, Nat.reduceAdd, Nat.reduceLT, Nat.reduceEqDiff, reduceCtorEq, ↓reduceIte, rqs, Bool.true_beq, Bool.false_beq, Bool.not_true, Bool.not_false, hF, ← hx, n0, hl0]
        refine ⟨⟨i + 1, x, by omega, by rw [et], ?_⟩, by omega⟩
        rw [et]
        (repeat' apply And.intro) <;> first | rfl | omega
      · rcases sign_cases last with ⟨c2, s2⟩ | ⟨c2, s2⟩ | ⟨c2, s2⟩
        · rw [chs_same (by rw [s1]; decide) (fun h => h.2 (by rw [s1, ← hs, s2]))] at et
          simp (disch := omega) only [wk, tis, Int.reduceNe, Int.reduceEq, Int.reduceLT, Int.reduceLE, Int.reduceAdd, Int.reduceSub, Int.reduceNeg, Int.reduceMul, Int.reduceToNat, Nat.reduceSub, Nat.reduceMul, Nat.reduceLeDiff, Nat.reduceAdd, Nat.reduceLT, Nat.reduceEqDiff, reduceCtorEq, ↓reduceIte, rqs, Bool.true_beq, Bool.false_beq, Bool.not_true, Bool.not_false, hF, ← hx, n0, hl0, c1, c2]
          refine ⟨⟨i + 1, x, by omega, by rw [et], ?_⟩, by omega⟩
          rw [et]
          (repeat' apply And.intro) <;> first | rfl | omega
        · omega
        · have c2' : ¬ last < 0 := by omega
          rw [chs_more (by rw [s1]; decide) ⟨by rw [← hs, s2]; decide, by rw [s1, ← hs, s2]; decide⟩] at et
          simp (disch := omega) only [wk, tis, Int.reduceNe, Int.reduceEq, Int.reduceLT, Int.reduceLE, Int.reduceAdd, Int.reduceSub, Int.reduceNeg, Int.reduceMul, Int.reduceToNat, Nat.reduceSub, Nat.reduceMul, Nat.reduceLeDiff, Nat.reduceAdd, Nat.reduceLT, Nat.reduceEqDiff, reduceCtorEq, ↓reduceIte, rqs, Bool.true_beq, Bool.false_beq, Bool.not_true, Bool.not_false, hF, ← hx, n0, hl0, c1, c2']
          refine ⟨⟨i + 1, x, by omega, by rw [et], ?_⟩, by omega⟩
          rw [et]
          (repeat' apply And.intro) <;> first | rfl | omega
    · rw [chs_zero s1] at et
      simp (disch := omega) only [wk, tis, Int.reduceNe, Int.reduceEq, Int.reduceLT, Int.reduceLE, Int.reduceAdd, Int.reduceSub, Int.reduceNeg, Int.reduceMul, Int.reduceToNat, Nat.reduceSub, Nat.reduceMul, Nat.reduceLeDiff, Nat.reduceAdd, Nat.reduceLT, Nat.reduceEqDiff, reduceCtorEq, ↓reduceIte, rqs, Bool.true_beq, Bool.false_beq, Bool.not_true, Bool.not_false, hF, ← hx, c1]
      refine ⟨⟨i + 1, last, by omega, by rw [et]; exact hs, ?_⟩, by omega⟩
      rw [et]
      (repeat' apply And.intro) <;> first | rfl | omega
    · have n0 : ¬ x = 0 := by omega
      have c1' : ¬ x < 0 := by omega
      by_cases hl0 : last = 0
      · rw [hl0] at hs
        rw [chs_same (by rw [s1]; decide) (fun h => h.1 hs.symm)] at et
        simp (disch := omega) only [wk, tis, Int.reduceNe, Int.reduceEq, Int.reduceLT, Int.reduceLE, Int.reduceAdd, Int.reduceSub, Int.reduceNeg, Int.reduceMul, Int.reduceToNat, Nat.reduceSub, Nat.reduceMul, Nat.reduceLeDiff, Nat.reduceAdd, Nat.reduceLT, Nat.reduceEqDiff, reduceCtorEq, ↓reduceIte, rqs, Bool.true_beq, Bool.false_beq, Bool.not_true, Bool.not_false, hF, ← hx, n0, hl0]
        refine ⟨⟨i + 1, x, by omega, by rw [et], ?_⟩, by omega⟩
        rw [et]
        (repeat' apply And.intro) <;> first | rfl | omega
      · rcases sign_cases last with ⟨c2, s2⟩ | ⟨c2, s2⟩ | ⟨c2, s2⟩
        · rw [chs_more (by rw [s1]; decide) ⟨by rw [← hs, s2]; decide, by rw [s1, ← hs, s2]; decide⟩] at et
          simp (disch := omega) only [wk, tis, Int.reduceNe, Int.reduceEq, Int.reduceLT, Int.reduceLE, Int.reduceAdd, Int.reduceSub, Int.reduceNeg, Int.reduceMul, Int.reduceToNat, Nat.reduceSub, Nat.reduceMul, Nat.reduceLeDiff, Nat.reduceAdd, Nat.reduceLT, Nat.reduceEqDiff, reduceCtorEq, ↓reduceIte, rqs, Bool.true_beq, Bool.false_beq, Bool.not_true, Bool.not_false, hF, ← hx, n0, hl0, c1', c2]
          refine ⟨⟨i + 1, x, by omega, by rw [et], ?_⟩, by omega⟩
          rw [et]
          (repeat' apply And.intro) <;> first | rfl | omega
        · omega
        · have c2' : ¬ last < 0 := by omega
          rw [chs_same (by rw [s1]; decide) (fun h => h.2 (by rw [s1, ← hs, s2]))] at et
          simp (disch := omega) only [wk, tis, Int.reduceNe, Int.reduceEq, Int.reduceLT, Int.reduceLE, Int.reduceAdd, Int.reduceSub, Int.reduceNeg, Int.reduceMul, Int.reduceToNat, Nat.reduceSub, Nat.reduceMul, Nat.reduceLeDiff, Nat.reduceAdd, Nat.reduceLT, Nat.reduceEqDiff, reduceCtorEq, ↓reduceIte, rqs, Bool.true_beq, Bool.false_beq, Bool.not_true, Bool.not_false, hF, ← hx, n0, hl0, c1', c2']
          refine ⟨⟨i + 1, x, by omega, by rw [et], ?_⟩, by omega⟩
          rw [et]
          (repeat' apply And.intro) <;> first | rfl | omega
  · obtain rfl : i = l.length := by omega
    rw [List.take_length] at hF
    simp (disch := omega) only [wk, tis, Int.reduceNe, Int.reduceEq, Int.reduceLT, Int.reduceLE, Int.reduceAdd, Int.reduceSub, Int.reduceNeg, Int.reduceMul, Int.reduceToNat, Nat.reduceSub, Nat.reduceMul, Nat.reduceLeDiff, Nat.reduceAdd, Nat.reduceLT, Nat.reduceEqDiff, reduceCtorEq, ↓reduceIte, rqs, Bool.true_beq, Bool.false_beq, Bool.not_true, Bool.not_false, hF]
    try rfl

theorem tchg_ok (l : List Int) (hl : l.length ≤ 2 ^ 40) : AC Tryz.prog 6 [cis l] none [ci (chg l)] := by
  refine AC.by_walk (rs := [.tmp 2]) ords Tryz.func6 (by rfl) (by rfl) (by rfl) (by rfl) (by rfl) ?_
  simp (disch := omega) only [wk, tis, Int.reduceNe, Int.reduceEq, Int.reduceLT, Int.reduceLE, Int.reduceAdd, Int.reduceSub, Int.reduceNeg, Int.reduceMul, Int.reduceToNat, Nat.reduceSub, Nat.reduceMul, Nat.reduceLeDiff, Nat.reduceAdd, Nat.reduceLT, Nat.reduceEqDiff, reduceCtorEq, ↓reduceIte, rqs, Bool.true_beq, Bool.false_beq, Bool.not_true, Bool.not_false]
  refine aloop_by (fun f H => ∃ (i : Nat), i ≤ l.length ∧ f 5 = .iv (.int .i64 i) ∧ f 0 = .iv (.sl (ilims l)) ∧ f 3 = .iv (.int .i64 (chf (l.take i)).1) ∧ f 4 = .iv (.int .i64 (chf (l.take i)).2)) (fun f H => (l.length - intAt f 5).toNat) ?_ ?_
  · refine ⟨0, by omega, ?_⟩
    simp (disch := omega) only [wk, tis, Int.reduceNe, Int.reduceEq, Int.reduceLT, Int.reduceLE, Int.reduceAdd, Int.reduceSub, Int.reduceNeg, Int.reduceMul, Int.reduceToNat, Nat.reduceSub, Nat.reduceMul, Nat.reduceLeDiff, Nat.reduceAdd, Nat.reduceLT, Nat.reduceEqDiff, reduceCtorEq, ↓reduceIte, rqs, Bool.true_beq, Bool.false_beq, Bool.not_true, Bool.not_false, List.take_zero, show (chf []).1 = 0 from rfl, show (chf []).2 = 0 from rfl]
  rintro f H ⟨i, hi, hF⟩
  rw [intAt_of hF.1]
  simp (disch := omega) only [wk, tis, Int.reduceNe, Int.reduceEq, Int.reduceLT, Int.reduceLE, Int.reduceAdd, Int.reduceSub, Int.reduceNeg, Int.reduceMul, Int.reduceToNat, Nat.reduceSub, Nat.reduceMul, Nat.reduceLeDiff, Nat.reduceAdd, Nat.reduceLT, Nat.reduceEqDiff, reduceCtorEq, ↓reduceIte, rqs, Bool.true_beq, Bool.false_beq, Bool.not_true, Bool.not_false, hF]
  refine if_by (fun hlt => ?_) (fun hlt => ?_)
  · have hlt' : i < l.length := by omega
    have et := chf_take hlt'
    have hle := chf_le l i hi
    have hsg := chf_sign l i
    obtain ⟨x, hx⟩ : ∃ x, x = l.getD i 0 := ⟨_, rfl⟩
    rw [← hx] at et
    generalize hst : chf (l.take i) = st at *
    obtain ⟨n, s⟩ := st
    rcases sign_cases x with ⟨c1, s1⟩ | ⟨c1, s1⟩ | ⟨c1, s1⟩
    · have n1 : ¬ 0 < x := by omega
      by_cases hl0 : s = 0
      · rw [chs_same (by rw [s1]; decide) (fun h => h.1 hl0), s1] at et
        simp (disch := omega) only [wk, tis, Int.reduceNe, Int.reduceEq, Int.reduceLT, Int.reduceLE, Int.reduceAdd, Int.reduceSub, Int.reduceNeg, Int.reduceMul, Int.reduceToNat, Nat.reduceSub, Nat.reduceMul, Nat.reduceLeDiff, Nat.reduceAdd, Nat.reduceLT, Nat.reduceEqDiff, reduceCtorEq, ↓reduceIte, rqs, Bool.true_beq, Bool.false_beq, Bool.not_true, Bool.not_false, hF, ← hx, c1, n1, hl0]
        refine ⟨⟨i + 1, by omega, ?_⟩, by omega⟩
        rw [et]
        (repeat' apply And.intro) <;> first | rfl | omega
      · by_cases he : s = -1
        · subst he
          rw [chs_same (by rw [s1]; decide) (fun h => h.2 s1), s1] at et
          simp (disch := omega) only [wk, tis, Int.reduceNe, Int.reduceEq, Int.reduceLT, Int.reduceLE, Int.reduceAdd, Int.reduceSub, Int.reduceNeg, Int.reduceMul, Int.reduceToNat, Nat.reduceSub, Nat.reduceMul, Nat.reduceLeDiff, Nat.reduceAdd, Nat.reduceLT, Nat.reduceEqDiff, reduceCtorEq, ↓reduceIte, rqs, Bool.true_beq, Bool.false_beq, Bool.not_true, Bool.not_false, hF, ← hx, c1, n1]
          refine ⟨⟨i + 1, by omega, ?_⟩, by omega⟩
          rw [et]
          (repeat' apply And.intro) <;> first | rfl | omega
        · obtain rfl : s = 1 := by simp only at hsg; omega
          rw [chs_more (by rw [s1]; decide) ⟨(by decide : (1 : Int) ≠ 0), by rw [s1]; exact (by decide : (-1 : Int) ≠ 1)⟩, s1] at et
          simp (disch := omega) only [wk, tis, Int.reduceNe, Int.reduceEq, Int.reduceLT, Int.reduceLE, Int.reduceAdd, Int.reduceSub, Int.reduceNeg, Int.reduceMul, Int.reduceToNat, Nat.reduceSub, Nat.reduceMul, Nat.reduceLeDiff, Nat.reduceAdd, Nat.reduceLT, Nat.reduceEqDiff, reduceCtorEq, ↓reduceIte, rqs, Bool.true_beq, Bool.false_beq, Bool.not_true, Bool.not_false, hF, ← hx, c1, n1]
          refine ⟨⟨i + 1, by omega, ?_⟩, by omega⟩
          rw [et]
          (repeat' apply And.intro) <;> first | rfl | omega
    · rw [chs_zero s1] at et
      have n1 : ¬ x < 0 := by omega
      have n2 : ¬ 0 < x := by omega
      simp (disch := omega) only [wk, tis, Int.reduceNe, Int.reduceEq, Int.reduceLT, Int.reduceLE, Int.reduceAdd, Int.reduceSub, Int.reduceNeg, Int.reduceMul, Int.reduceToNat, Nat.reduceSub, Nat.reduceMul, Nat.reduceLeDiff, Nat.reduceAdd, Nat.reduceLT, Nat.reduceEqDiff, reduceCtorEq, ↓reduceIte, rqs, Bool.true_beq, Bool.false_beq, Bool.not_true, Bool.not_false, hF, ← hx, n1, n2]
      refine ⟨⟨i + 1, by omega, ?_⟩, by omega⟩
      rw [et]
      (repeat' apply And.intro) <;> first | rfl | omega
    · have n1 : ¬ x < 0 := by omega
      by_cases hl0 : s = 0
      · rw [chs_same (by rw [s1]; decide) (fun h => h.1 hl0), s1] at et
        simp (disch := omega) only [wk, tis, Int.reduceNe, Int.reduceEq, Int.reduceLT, Int.reduceLE, Int.reduceAdd, Int.reduceSub, Int.reduceNeg, Int.reduceMul, Int.reduceToNat, Nat.reduceSub, Nat.reduceMul, Nat.reduceLeDiff, Nat.reduceAdd, Nat.reduceLT, Nat.reduceEqDiff, reduceCtorEq, ↓reduceIte, rqs, Bool.true_beq, Bool.false_beq, Bool.not_true, Bool.not_false, hF, ← hx, c1, n1, hl0]
        refine ⟨⟨i + 1, by omega, ?_⟩, by omega⟩
        rw [et]
        (repeat' apply And.intro) <;> first | rfl | omega
      · by_cases he : s = 1
        · subst he
          rw [chs_same (by rw [s1]; decide) (fun h => h.2 s1), s1] at et
          simp (disch := omega) only [wk, tis, Int.reduceNe, Int.reduceEq, Int.reduceLT, Int.reduceLE, Int.reduceAdd, Int.reduceSub, Int.reduceNeg, Int.reduceMul, Int.reduceToNat, Nat.reduceSub, Nat.reduceMul, Nat.reduceLeDiff, Nat.reduceAdd, Nat.reduceLT, Nat.reduceEqDiff, reduceCtorEq, ↓reduceIte, rqs, Bool.true_beq, Bool.false_beq, Bool.not_true, Bool.not_false, hF, ← hx, c1, n1]
          refine ⟨⟨i + 1, by omega, ?_⟩, by omega⟩
          rw [et]
          (repeat' apply And.intro) <;> first | rfl | omega
        · obtain rfl : s = -1 := by simp only at hsg; omega
          rw [chs_more (by rw [s1]; decide) ⟨(by decide : (-1 : Int) ≠ 0), by rw [s1]; exact (by decide : (1 : Int) ≠ -1)⟩, s1] at et
          simp (disch := omega) only [wk, tis, Int.reduceNe, Int.reduceEq, Int.reduceLT, Int.reduceLE, Int.reduceAdd, Int.reduceSub, Int.reduceNeg, Int.reduceMul, Int.reduceToNat, Nat.reduceSub, Nat.reduceMul, Nat.reduceLeDiff, Nat.reduceAdd, Nat.reduceLT, Nat.reduceEqDiff, reduceCtorEq, ↓reduceIte, rqs, Bool.true_beq, Bool.false_beq, Bool.not_true, Bool.not_false, hF, ← hx, c1, n1]
          refine ⟨⟨i + 1, by omega, ?_⟩, by omega⟩
          rw [et]
          (repeat' apply And.intro) <;> first | rfl | omega
  · obtain rfl : i = l.length := by omega
    rw [List.take_length] at hF
    simp (disch := omega) only [wk, tis, Int.reduceNe, Int.reduceEq, Int.reduceLT, Int.reduceLE, Int.reduceAdd, Int.reduceSub, Int.reduceNeg, Int.reduceMul, Int.reduceToNat, Nat.reduceSub, Nat.reduceMul, Nat.reduceLeDiff, Nat.reduceAdd, Nat.reduceLT, Nat.reduceEqDiff, reduceCtorEq, ↓reduceIte, rqs, Bool.true_beq, Bool.false_beq, Bool.not_true, Bool.not_false, hF]
    try rfl

theorem ilims_snoc (l : List Int) (x : Int) : ilims (l ++ [x]) = ilims l ++ [[.int .i64 x]] := by simp [ilims]
theorem sgn_get {p : List RI} {i : Nat} (h : i < p.length) : (((pv p).map Int.sign).take (i + 1)) = ((pv p).map Int.sign).take i ++ [(iv (p.getD i (false, []))).sign] := by
  have hl := pv_len p
  rw [takei_snoc (by rw [List.length_map]; omega)]
  congr 2
  rw [← cf_pv]
  simp [cf, List.getD, show i < (pv p).length by omega]
theorem of16_ok (p : List RI) (h : RP (2 ^ 40) (2 ^ 40) p) : AC Tryz.prog 7 [cw p] none [ci (chg (pv p))] := by
  have hl := h.1
  have hpl := pv_len p
  have m := chg_ok ((pv p).map Int.sign) (by rw [List.length_map]; omega)
  rw [chg, chf_map_sign] at m
  refine AC.by_walk (rs := [.tmp 2]) ords Tryz.func7 (by rfl) (by rfl) (by rfl) (by rfl) (by rfl) ?_
  simp (disch := omega) only [wk, tis, Int.reduceNe, Int.reduceEq, Int.reduceLT, Int.reduceLE, Int.reduceAdd, Int.reduceSub, Int.reduceNeg, Int.reduceMul, Int.reduceToNat, Nat.reduceSub, Nat.reduceMul, Nat.reduceLeDiff, Nat.reduceAdd, Nat.reduceLT, Nat.reduceEqDiff, reduceCtorEq, ↓reduceIte, rqs, Bool.true_beq, Bool.false_beq, Bool.not_true, Bool.not_false]
  refine aloop_by (fun f H => ∃ (i st : Nat), i ≤ p.length ∧ f 11 = .iv (.int .i64 i) ∧ f 10 = .iv (.int .i64 p.length) ∧ f 9 = .iv (.sl (raws p)) ∧ f 3 = .hs 8 st ∧ H 8 = .blk false st 3 1 (ilims (((pv p).map Int.sign).take i))) (fun f H => (p.length - intAt f 11).toNat) ?_ ?_
  · refine ⟨0, 1, by omega, ?_⟩
    simp (disch := omega) only [wk, tis, Int.reduceNe, Int.reduceEq, Int.reduceLT, Int.reduceLE, Int.reduceAdd, Int.reduceSub, Int.reduceNeg, Int.reduceMul, Int.reduceToNat, Nat.reduceSub, Nat.reduceMul, Nat.reduceLeDiff, Nat.reduceAdd, Nat.reduceLT, Nat.reduceEqDiff, reduceCtorEq, ↓reduceIte, rqs, Bool.true_beq, Bool.false_beq, Bool.not_true, Bool.not_false, List.take_zero, show ilims [] = [] from rfl, Int.toNat_zero, List.replicate_zero]
  rintro f H ⟨i, st, hi, hF⟩
  rw [intAt_of hF.1]
  simp (disch := omega) only [wk, tis, Int.reduceNe, Int.reduceEq, Int.reduceLT, Int.reduceLE, Int.reduceAdd, Int.reduceSub, Int.reduceNeg, Int.reduceMul, Int.reduceToNat, Nat.reduceSub, Nat.reduceMul, Nat.reduceLeDiff, Nat.reduceAdd, Nat.reduceLT, Nat.reduceEqDiff, reduceCtorEq, ↓reduceIte, rqs, Bool.true_beq, Bool.false_beq, Bool.not_true, Bool.not_false, hF]
  refine if_by (fun hlt => ?_) (fun hlt => ?_)
  · have hlt' : i < p.length := by omega
    have hq : (((pv p).map Int.sign).take i).length = i := by rw [List.length_take, List.length_map]; omega
    have e := sgn_get hlt'
    have z := zsign_ok (p.getD i (false, [])) (h.get i)
    simp (disch := omega) only [wk, tis, Int.reduceNe, Int.reduceEq, Int.reduceLT, Int.reduceLE, Int.reduceAdd, Int.reduceSub, Int.reduceNeg, Int.reduceMul, Int.reduceToNat, Nat.reduceSub, Nat.reduceMul, Nat.reduceLeDiff, Nat.reduceAdd, Nat.reduceLT, Nat.reduceEqDiff, reduceCtorEq, ↓reduceIte, rqs, Bool.true_beq, Bool.false_beq, Bool.not_true, Bool.not_false, hF, hq]
    refine call_by (z) (by first | rfl | (simp only [tocvs, tocv, hF, hq]; rfl) | (simp only [tocvs, tocv, toboxes, tobox, updH_at, Nat.reduceEqDiff, ↓reduceIte, hF, hq]; rfl)) (by simp) ?_
    simp (disch := omega) only [wk, tis, Int.reduceNe, Int.reduceEq, Int.reduceLT, Int.reduceLE, Int.reduceAdd, Int.reduceSub, Int.reduceNeg, Int.reduceMul, Int.reduceToNat, Nat.reduceSub, Nat.reduceMul, Nat.reduceLeDiff, Nat.reduceAdd, Nat.reduceLT, Nat.reduceEqDiff, reduceCtorEq, ↓reduceIte, rqs, Bool.true_beq, Bool.false_beq, Bool.not_true, Bool.not_false, hF, hq]
    refine ⟨⟨i + 1, st + 1, by omega, ?_⟩, by omega⟩
    rw [e, ilims_snoc]
    (repeat' apply And.intro) <;> first | rfl | omega
  · obtain rfl : i = p.length := by omega
    rw [List.take_of_length_le (by rw [List.length_map]; omega)] at hF
    simp (disch := omega) only [wk, tis, Int.reduceNe, Int.reduceEq, Int.reduceLT, Int.reduceLE, Int.reduceAdd, Int.reduceSub, Int.reduceNeg, Int.reduceMul, Int.reduceToNat, Nat.reduceSub, Nat.reduceMul, Nat.reduceLeDiff, Nat.reduceAdd, Nat.reduceLT, Nat.reduceEqDiff, reduceCtorEq, ↓reduceIte, rqs, Bool.true_beq, Bool.false_beq, Bool.not_true, Bool.not_false, hF]
    refine call_by (m) (by first | rfl | (simp only [tocvs, tocv, hF]; rfl) | (simp only [tocvs, tocv, toboxes, tobox, updH_at, Nat.reduceEqDiff, ↓reduceIte, hF]; rfl)) (by simp) ?_
    simp (disch := omega) only [wk, tis, Int.reduceNe, Int.reduceEq, Int.reduceLT, Int.reduceLE, Int.reduceAdd, Int.reduceSub, Int.reduceNeg, Int.reduceMul, Int.reduceToNat, Nat.reduceSub, Nat.reduceMul, Nat.reduceLeDiff, Nat.reduceAdd, Nat.reduceLT, Nat.reduceEqDiff, reduceCtorEq, ↓reduceIte, rqs, Bool.true_beq, Bool.false_beq, Bool.not_true, Bool.not_false, hF]
    try rfl
theorem tof16_ok (p : List RI) (h : RP (2 ^ 40) (2 ^ 40) p) : AC Tryz.prog 8 [cw p] none [ci (chg (pv p))] := by
  have hl := h.1
  have hpl := pv_len p
  have m := tchg_ok ((pv p).map Int.sign) (by rw [List.length_map]; omega)
  rw [chg, chf_map_sign] at m
  refine AC.by_walk (rs := [.tmp 2]) ords Tryz.func8 (by rfl) (by rfl) (by rfl) (by rfl) (by rfl) ?_
  simp (disch := omega) only [wk, tis, Int.reduceNe, Int.reduceEq, Int.reduceLT, Int.reduceLE, Int.reduceAdd, Int.reduceSub, Int.reduceNeg, Int.reduceMul, Int.reduceToNat, Nat.reduceSub, Nat.reduceMul, Nat.reduceLeDiff, Nat.reduceAdd, Nat.reduceLT, Nat.reduceEqDiff, reduceCtorEq, ↓reduceIte, rqs, Bool.true_beq, Bool.false_beq, Bool.not_true, Bool.not_false]
  refine aloop_nil 3 3 3 1 (by simp (disch := omega) only [wk, tis, Int.reduceNe, Int.reduceEq, Int.reduceLT, Int.reduceLE, Int.reduceAdd, Int.reduceSub, Int.reduceNeg, Int.reduceMul, Int.reduceToNat, Nat.reduceSub, Nat.reduceMul, Nat.reduceLeDiff, Nat.reduceAdd, Nat.reduceLT, Nat.reduceEqDiff, reduceCtorEq, ↓reduceIte, rqs, Bool.true_beq, Bool.false_beq, Bool.not_true, Bool.not_false]) (fun f H => ∃ (i st : Nat), i ≤ p.length ∧ f 4 = .iv (.int .i64 i) ∧ f 0 = .iv (.sl (raws p)) ∧ f 3 = .hs 3 st ∧ H 3 = .blk false st 3 1 (ilims (((pv p).map Int.sign).take i))) (fun f H => (p.length - intAt f 4).toNat) ?_ ?_
  · refine ⟨0, 1, by omega, ?_⟩
    simp (disch := omega) only [wk, tis, Int.reduceNe, Int.reduceEq, Int.reduceLT, Int.reduceLE, Int.reduceAdd, Int.reduceSub, Int.reduceNeg, Int.reduceMul, Int.reduceToNat, Nat.reduceSub, Nat.reduceMul, Nat.reduceLeDiff, Nat.reduceAdd, Nat.reduceLT, Nat.reduceEqDiff, reduceCtorEq, ↓reduceIte, rqs, Bool.true_beq, Bool.false_beq, Bool.not_true, Bool.not_false, ghostF, ghostH, List.take_zero, show ilims [] = [] from rfl]
  rintro f H ⟨i, st, hi, hF⟩
  rw [intAt_of hF.1]
  simp (disch := omega) only [wk, tis, Int.reduceNe, Int.reduceEq, Int.reduceLT, Int.reduceLE, Int.reduceAdd, Int.reduceSub, Int.reduceNeg, Int.reduceMul, Int.reduceToNat, Nat.reduceSub, Nat.reduceMul, Nat.reduceLeDiff, Nat.reduceAdd, Nat.reduceLT, Nat.reduceEqDiff, reduceCtorEq, ↓reduceIte, rqs, Bool.true_beq, Bool.false_beq, Bool.not_true, Bool.not_false, hF]
  refine if_by (fun hlt => ?_) (fun hlt => ?_)
  · have hlt' : i < p.length := by omega
    have hq : (((pv p).map Int.sign).take i).length = i := by rw [List.length_take, List.length_map]; omega
    have e := sgn_get hlt'
    have z := rSign_ok (p.getD i (false, [])) (h.get i)
    simp (disch := omega) only [wk, tis, Int.reduceNe, Int.reduceEq, Int.reduceLT, Int.reduceLE, Int.reduceAdd, Int.reduceSub, Int.reduceNeg, Int.reduceMul, Int.reduceToNat, Nat.reduceSub, Nat.reduceMul, Nat.reduceLeDiff, Nat.reduceAdd, Nat.reduceLT, Nat.reduceEqDiff, reduceCtorEq, ↓reduceIte, rqs, Bool.true_beq, Bool.false_beq, Bool.not_true, Bool.not_false, hF, hq]
    refine call_by (z) (by first | rfl | (simp only [tocvs, tocv, hF, hq]; rfl) | (simp only [tocvs, tocv, toboxes, tobox, updH_at, Nat.reduceEqDiff, ↓reduceIte, hF, hq]; rfl)) (by simp) ?_
    simp (disch := omega) only [wk, tis, Int.reduceNe, Int.reduceEq, Int.reduceLT, Int.reduceLE, Int.reduceAdd, Int.reduceSub, Int.reduceNeg, Int.reduceMul, Int.reduceToNat, Nat.reduceSub, Nat.reduceMul, Nat.reduceLeDiff, Nat.reduceAdd, Nat.reduceLT, Nat.reduceEqDiff, reduceCtorEq, ↓reduceIte, rqs, Bool.true_beq, Bool.false_beq, Bool.not_true, Bool.not_false, hF, hq]
    refine ⟨⟨i + 1, st + 1, by omega, ?_⟩, by omega⟩
    rw [e, ilims_snoc]
    (repeat' apply And.intro) <;> first | rfl | omega
  · obtain rfl : i = p.length := by omega
    rw [List.take_of_length_le (by rw [List.length_map]; omega)] at hF
    simp (disch := omega) only [wk, tis, Int.reduceNe, Int.reduceEq, Int.reduceLT, Int.reduceLE, Int.reduceAdd, Int.reduceSub, Int.reduceNeg, Int.reduceMul, Int.reduceToNat, Nat.reduceSub, Nat.reduceMul, Nat.reduceLeDiff, Nat.reduceAdd, Nat.reduceLT, Nat.reduceEqDiff, reduceCtorEq, ↓reduceIte, rqs, Bool.true_beq, Bool.false_beq, Bool.not_true, Bool.not_false, hF]
    refine call_by (m) (by first | rfl | (simp only [tocvs, tocv, hF]; rfl) | (simp only [tocvs, tocv, toboxes, tobox, updH_at, Nat.reduceEqDiff, ↓reduceIte, hF]; rfl)) (by simp) ?_
    simp (disch := omega) only [wk, tis, Int.reduceNe, Int.reduceEq, Int.reduceLT, Int.reduceLE, Int.reduceAdd, Int.reduceSub, Int.reduceNeg, Int.reduceMul, Int.reduceToNat, Nat.reduceSub, Nat.reduceMul, Nat.reduceLeDiff, Nat.reduceAdd, Nat.reduceLT, Nat.reduceEqDiff, reduceCtorEq, ↓reduceIte, rqs, Bool.true_beq, Bool.false_beq, Bool.not_true, Bool.not_false, hF]
    try rfl

theorem poly16_ok (l : List Int) (hl : l.length ≤ 2 ^ 30) (h : ∀ z ∈ l, -9223372036854775808 < z ∧ z < 9223372036854775808) : AC Tryz.prog 10 [cis l] none [cw (l.map canon)] := by
  refine AC.by_walk (rs := [.tmp 2]) ords Tryz.func10 (by rfl) (by rfl) (by rfl) (by rfl) (by rfl) ?_
  simp (disch := omega) only [wk, tis, Int.reduceNe, Int.reduceEq, Int.reduceLT, Int.reduceLE, Int.reduceAdd, Int.reduceSub, Int.reduceNeg, Int.reduceMul, Int.reduceToNat, Nat.reduceSub, Nat.reduceMul, Nat.reduceLeDiff, Nat.reduceAdd, Nat.reduceLT, Nat.reduceEqDiff, reduceCtorEq, ↓reduceIte, rqs, Bool.true_beq, Bool.false_beq, Bool.not_true, Bool.not_false]
  refine aloop_nil 3 3 36 2 (by simp (disch := omega) only [wk, tis, Int.reduceNe, Int.reduceEq, Int.reduceLT, Int.reduceLE, Int.reduceAdd, Int.reduceSub, Int.reduceNeg, Int.reduceMul, Int.reduceToNat, Nat.reduceSub, Nat.reduceMul, Nat.reduceLeDiff, Nat.reduceAdd, Nat.reduceLT, Nat.reduceEqDiff, reduceCtorEq, ↓reduceIte, rqs, Bool.true_beq, Bool.false_beq, Bool.not_true, Bool.not_false]) (fun f H => ∃ (k st : Nat), k ≤ l.length ∧ f 0 = .iv (.sl (ilims l)) ∧ f 3 = .hs 3 st ∧ f 4 = .iv (.int .i64 k) ∧ H 3 = .blk false st 36 2 (raws ((l.take k).map canon))) (fun f H => (l.length - intAt f 4).toNat) ?_ ?_
  · refine ⟨0, 1, by omega, ?_⟩
    simp (disch := omega) only [wk, tis, Int.reduceNe, Int.reduceEq, Int.reduceLT, Int.reduceLE, Int.reduceAdd, Int.reduceSub, Int.reduceNeg, Int.reduceMul, Int.reduceToNat, Nat.reduceSub, Nat.reduceMul, Nat.reduceLeDiff, Nat.reduceAdd, Nat.reduceLT, Nat.reduceEqDiff, reduceCtorEq, ↓reduceIte, rqs, Bool.true_beq, Bool.false_beq, Bool.not_true, Bool.not_false, ghostF, ghostH, List.take_zero]
  rintro f H ⟨k, st, hk, h0, h3, h4, hH⟩
  rw [intAt_of h4]
  simp (disch := omega) only [wk, tis, Int.reduceNe, Int.reduceEq, Int.reduceLT, Int.reduceLE, Int.reduceAdd, Int.reduceSub, Int.reduceNeg, Int.reduceMul, Int.reduceToNat, Nat.reduceSub, Nat.reduceMul, Nat.reduceLeDiff, Nat.reduceAdd, Nat.reduceLT, Nat.reduceEqDiff, reduceCtorEq, ↓reduceIte, rqs, Bool.true_beq, Bool.false_beq, Bool.not_true, Bool.not_false, h0, h3, h4, hH]
  refine if_by (fun hlt => ?_) (fun hlt => ?_)
  · have hq : ((l.take k).map canon).length = k := by rw [List.length_map, List.length_take]; omega
    have hkl : k < l.length := by omega
    have hg : l.getD k 0 = l[k] := by simp [List.getD, hkl]
    have hb := h l[k] (List.getElem_mem hkl)
    simp (disch := omega) only [wk, tis, Int.reduceNe, Int.reduceEq, Int.reduceLT, Int.reduceLE, Int.reduceAdd, Int.reduceSub, Int.reduceNeg, Int.reduceMul, Int.reduceToNat, Nat.reduceSub, Nat.reduceMul, Nat.reduceLeDiff, Nat.reduceAdd, Nat.reduceLT, Nat.reduceEqDiff, reduceCtorEq, ↓reduceIte, rqs, Bool.true_beq, Bool.false_beq, Bool.not_true, Bool.not_false, h0, h3, h4, hH, hq]
    rw [hg]
    refine call_by ((rZ_ok l[k] hb.1 hb.2)) (by first | rfl | (simp only [tocvs, tocv, h0, h3, h4, hH, hq]; rfl) | (simp only [tocvs, tocv, toboxes, tobox, updH_at, Nat.reduceEqDiff, ↓reduceIte, h0, h3, h4, hH, hq]; rfl)) (by simp) ?_
    simp (disch := omega) only [wk, tis, Int.reduceNe, Int.reduceEq, Int.reduceLT, Int.reduceLE, Int.reduceAdd, Int.reduceSub, Int.reduceNeg, Int.reduceMul, Int.reduceToNat, Nat.reduceSub, Nat.reduceMul, Nat.reduceLeDiff, Nat.reduceAdd, Nat.reduceLT, Nat.reduceEqDiff, reduceCtorEq, ↓reduceIte, rqs, Bool.true_beq, Bool.false_beq, Bool.not_true, Bool.not_false, h0, h3, h4, hH, hq]
    refine ⟨⟨k + 1, st + 1, by omega, rfl, by omega, ?_⟩, by omega⟩
    rw [List.take_add_one]
    simp [hkl]
  · simp (disch := omega) only [wk, tis, Int.reduceNe, Int.reduceEq, Int.reduceLT, Int.reduceLE, Int.reduceAdd, Int.reduceSub, Int.reduceNeg, Int.reduceMul, Int.reduceToNat, Nat.reduceSub, Nat.reduceMul, Nat.reduceLeDiff, Nat.reduceAdd, Nat.reduceLT, Nat.reduceEqDiff, reduceCtorEq, ↓reduceIte, rqs, Bool.true_beq, Bool.false_beq, Bool.not_true, Bool.not_false, h0, h3, h4, hH]
    have hk : k = l.length := by omega
    rw [hk, List.take_length]
end Go.Proofs.YtkkmiboodkilbaaGreat

namespace Go.Proofs.YtkkmiboodkilbaaGreat
open Go Go.Proofs Go.AL
set_option linter.unusedSimpArgs false
set_option linter.unusedVariables false

end Go.Proofs.YtkkmiboodkilbaaGreat

namespace Go.Proofs.YtkkmiboodkilbaaGreat
open Go Go.Proofs Go.AL
set_option linter.unusedSimpArgs false
set_option linter.unusedVariables false

end Go.Proofs.YtkkmiboodkilbaaGreat

namespace Go.Proofs.YtkkmiboodkilbaaGreat
open Go Go.Proofs Go.AL
set_option linter.unusedSimpArgs false
set_option linter.unusedVariables false

/-- Horner's steps. -/
def hoq (p Q : List Rat) : Nat → List Rat
  | 0 => []
  | k + 1 => addq (mulq (hoq p Q k) Q) [cfq p (p.length - 1 - k)]
theorem hoq_cb {p Q : List Rat} {D n M m K N : Nat} (hQ : CB D n M Q) (hp : QB m K p) (hK : 1 ≤ K) (hn : 1 ≤ n) : ∀ k, k * n ≤ N → ∃ E, CB E (1 + k * n) (1 + k * (M + K + n + N + 2)) (hoq p Q k)
  | 0, _ => ⟨1, by omega, by rw [Nat.zero_mul]; decide +kernel, Nat.zero_le _, fun c hc => nomatch hc⟩
  | k + 1, hk => by
    have e1 : (k + 1) * n = k * n + n := Nat.succ_mul k n
    obtain ⟨E, hE⟩ := hoq_cb (N := N) hQ hp hK hn k (by omega)
    have e2 : (k + 1) * (M + K + n + N + 2) = k * (M + K + n + N + 2) + (M + K + n + N + 2) := Nat.succ_mul k _
    have hc := CB.const (hp.cz hK (p.length - 1 - k))
    rw [hoq]
    exact ⟨_, ((hE.mulq hQ).addq hc).mono (by omega) (by omega)⟩

/-- The document's steps: power by power. -/
def csq (p Q : List Rat) : Nat → List Rat
  | 0 => []
  | k + 1 => addq (csq p Q k) (sclq (cfq p k) (powq Q k))
theorem CB.sclq {D n M K : Nat} {A : List Rat} {c : Rat} (h : CB D n M A) (hc : qz c ≤ K) : CB (D * c.den) n (M + K) (sclq c A) where
  d := Nat.mul_ne_zero h.d c.den_nz
  w := by
    have h1 := AL.wd_mul_len D c.den
    have h2 := h.w
    have h3 := (qz_parts c).2
    omega
  l := by simp only [Go.Proofs.YtkkmiboodkilbaaGreat.sclq, List.length_map]; exact h.l
  c := fun x hx => by
    obtain ⟨y, hy, rfl⟩ := List.mem_map.1 hx
    exact CD.mul h.d c.den_nz (h.c y hy) ((CD.ofRat c).mono (Nat.le_trans (qz_parts c).1 hc))
end Go.Proofs.YtkkmiboodkilbaaGreat

namespace Go.Proofs.YtkkmiboodkilbaaGreat
open Go Go.Proofs Go.AL
open Go.RowKit Go.Shelf
set_option linter.unusedSimpArgs false
set_option linter.unusedVariables false
attribute [local go_sem] Oper.semAt_some

set_option maxRecDepth 100000 in
set_option maxHeartbeats 4000000 in
theorem back_in (F : Fence) (n : Nat) (h7 : F.fn 80) (hro : F.round = none) (hn : 1 ≤ n) (l Bs Bo b off len cap : Nat) (cell : Nat → Nat → Value) (n0 : Nat) (D : Nat → Prop) (hlen : (len : Int) * 32 ≤ 140737488351232) (J Jx : Nat → World → Prop) (w : World)
    (hBs0 : Bs < n0) (hBs1 : ¬ D Bs) (hb0 : b < n0) (hb1 : ¬ D b)
    (hY : ∀ k W1, k < len → J k W1 → YieldAt F (n - 1) Tryz.prog l #[.int .i64 ((len : Int) - 1 - k), .agg #[cell (len - 1 - k) 0, cell (len - 1 - k) 1]] W1 fun e W' => (e = .returned (.bool true) ∧ J (k + 1) W' ∧ Kept D n0 W1 W') ∨ (e = .returned (.bool false) ∧ Jx k W'))
    (hw : w.cell? ⟨Bs, Bo, none⟩ = some (.slice (some ⟨b, off, none⟩) len cap)) (hc : ∀ i, i < len → w.cell? ⟨b, off + i * 2, none⟩ = some (cell i 0) ∧ w.cell? ⟨b, off + i * 2 + 1, none⟩ = some (cell i 1))
    (W : World) (hk : Kept D n0 w W) (h0 : J 0 W) :
    CallsIn F n Tryz.prog 80 #[.func (.yield l) #[] #[], .pointer (some ⟨Bs, Bo, none⟩)] W fun e W' => (∃ v, e = .returned v) ∧ (J len W' ∨ ∃ k, Jx k W') := by
  refine callsIn_of_wp Tryz.func80 rfl h7 ?_ hro
  simp only [Tryz.ntmps80, List.size_toArray, List.length_cons, List.length_nil, Nat.reduceAdd, Nat.reduceSub, Array.replicate_succ, Array.replicate_zero, List.push_toArray, List.append_toArray, List.nil_append, List.cons_append]
  have kc : ∀ {W' : World} {g o : Nat} {v : Value}, Kept D n0 w W' → g < n0 → ¬ D g → w.cell? ⟨g, o, none⟩ = some v → W'.cell? ⟨g, o, none⟩ = some v := fun hk hg hD hv => by
    rw [World.cell?_of_block (hk _ hg hD (cells_of_cell hv))]; exact hv
  have hW := kc hk hBs0 hBs1 hw
  gi_wp2
  gi_loopw [3] (fun i wr => ∃ k : Nat, k ≤ len ∧ i = .int .i64 ((len : Int) - 1 - k) ∧ J k wr ∧ Kept D n0 w wr)
    (fun i _ => (intOf i + 1).toNat)
  case atStart => exact ⟨0, Nat.zero_le _, by congr 1; omega, h0, hk⟩
  case round =>
    obtain ⟨k, hkl, rfl, hJs, hnx⟩ := hrel
    have hWr := kc hnx hBs0 hBs1 hw
    by_cases hlt : k < len
    · obtain ⟨fn, tmps, assign, body, hy, hR⟩ := hY k wr hlt hJs
      obtain ⟨hc0, hc1⟩ := hc (len - 1 - k) (by omega)
      have hcx0 := kc hnx hb0 hb1 hc0
      have hcx1 := kc hnx hb0 hb1 hc1
      have hge : (k : Int) ≤ (len : Int) - 1 := by omega
      gi_wp2
      refine hR.mono ?_
      rintro e W3 (⟨rfl, hJ3, hk3⟩ | ⟨rfl, hJx3⟩)
      · gi_wp2
        go_roundw
        case rel => exact ⟨k + 1, by omega, by congr 1; omega, hJ3, hnx.trans hk3⟩
        case measure => simp [intOf]; omega
      · gi_wp2
        refine bodyPost_ret (results_none rfl _ _ _) rfl ?_
        exact ⟨⟨_, rfl⟩, .inr ⟨_, hJx3⟩⟩
    · obtain rfl : k = len := by omega
      have hge : ¬ ((k : Int) ≤ (k : Int) - 1) := by omega
      gi_wp2
      go_end0
      exact ⟨⟨_, rfl⟩, .inl hJs⟩

set_option maxRecDepth 100000 in
set_option maxHeartbeats 1000000 in
theorem back_nil_in (F : Fence) (n : Nat) (h7 : F.fn 80) (hro : F.round = none) (l Bs Bo : Nat) (a : Option Addr) (cap : Nat) (J : World → Prop)
    (W : World) (hW : W.cell? ⟨Bs, Bo, none⟩ = some (.slice a 0 cap)) (h0 : J W) :
    CallsIn F n Tryz.prog 80 #[.func (.yield l) #[] #[], .pointer (some ⟨Bs, Bo, none⟩)] W fun e W' => (∃ v, e = .returned v) ∧ J W' := by
  refine callsIn_of_wp Tryz.func80 rfl h7 ?_ hro
  simp only [Tryz.ntmps80, List.size_toArray, List.length_cons, List.length_nil, Nat.reduceAdd, Nat.reduceSub, Array.replicate_succ, Array.replicate_zero, List.push_toArray, List.append_toArray, List.nil_append, List.cons_append]
  gi_wp2
  gi_loopw [3] (fun i wr => i = .int .i64 (-1) ∧ J wr) (fun _ _ => 0)
  case atStart => exact ⟨rfl, h0⟩
  case round =>
    obtain ⟨rfl, hJs⟩ := hrel
    gi_wp2
    go_end0
    exact ⟨⟨_, rfl⟩, hJs⟩

theorem run_enter_back : ∀ args w, (callFunc 80 args).run Tryz.prog w = .ok (.enter 80 args) w := enters_of Tryz.func80 (by kernel_rfl) rfl

/-- slices.Backward's closure is an iterator: the last first. -/
theorem back_iter {rows : List (List IV)} (h2 : ∀ r ∈ rows, r.length = 2) (hlen : (rows.length : Int) * 32 ≤ 140737488351232) : AIter Tryz.prog 80 [[.sl rows]] 2 rows.length
    (fun k => [ci ((rows.length : Int) - 1 - k), .agg (rows.getD (rows.length - 1 - k) [])]) := by
  refine ⟨run_enter_back, fun w D vs hD hb => ?_⟩
  match vs, hb with
  | ⟨[v]⟩, hb =>
    obtain ⟨⟨Bs, Bo, rfl, hDb, us, hus, hcs⟩, -⟩ := hb
    match us, hus with
    | [u], hus =>
      have hcell : w.cell? ⟨Bs, Bo, none⟩ = some u := by simpa using hcs 0 u rfl
      have hBs1 := hDb (by simp)
      have hBs0 := World.block_lt_of_cell? w _ hcell
      generalize hx : IV.sl rows = x at hus
      cases hus.1 with
      | int => cases hx
      | bool => cases hx
      | raw => cases hx
      | nil a cap hcap =>
        cases hx
        refine ⟨fun _ => #[Go.undef, Go.undef], fun _ => rfl, fun k hk => absurd hk (by simp), fun l J Jx W hk hs _ _ hY h0 => ?_⟩
        have hW : W.cell? ⟨Bs, Bo, none⟩ = some (.slice a 0 cap) := by
          rw [World.cell?_of_block (hk _ hBs0 hBs1 (cells_of_cell hcell))]; exact hcell
        exact ((back_nil_in (Wd none) 0 trivial rfl l Bs Bo a cap (J 0) W hW h0).mono fun e W' h => ⟨h.1, .inl h.2⟩)
      | sl rows' g o cap sz cell hsz hle hcap hg hD' hc hr =>
        cases hx
        have goW : ∀ {W : World}, Kept D w.heap.size w W → W.cell? ⟨Bs, Bo, none⟩ = some (.slice (some ⟨g, o, none⟩) rows.length cap) := fun hk => by
          rw [World.cell?_of_block (hk _ hBs0 hBs1 (cells_of_cell hcell))]; exact hcell
        by_cases hne : rows = []
        · subst hne
          refine ⟨fun _ => #[Go.undef, Go.undef], fun _ => rfl, fun k hk => absurd hk (by simp), fun l J Jx W hk hs _ _ hY h0 => ?_⟩
          exact ((back_nil_in (Wd none) 0 trivial rfl l Bs Bo _ cap (J 0) W (goW hk) h0).mono fun e W' h => ⟨h.1, .inl h.2⟩)
        · obtain ⟨r0, hr0⟩ : ∃ r, rows[0]? = some r := ⟨rows[0]'(List.length_pos_iff.2 hne), by simp⟩
          obtain rfl : sz = 2 := (hsz 0 r0 hr0).symm.trans (h2 r0 (List.mem_of_getElem? hr0))
          have hro : ∀ i, i < rows.length → ∃ x y, rows[i]? = some [x, y] := fun i hi => by
            have e : rows[i]? = some rows[i] := by simp [hi]
            have hl := h2 rows[i] (List.mem_of_getElem? e)
            match hm : rows[i], hl with
            | [x, y], _ => exact ⟨x, y, by rw [e, hm]⟩
          refine ⟨fun k => #[.int .i64 ((rows.length : Int) - 1 - k), .agg #[cell (rows.length - 1 - k) 0, cell (rows.length - 1 - k) 1]], fun _ => rfl, fun k hk => ?_, fun l J Jx W hk hs _ _ hY h0 => ?_⟩
          · obtain ⟨x, y, he⟩ := hro (rows.length - 1 - k) (by omega)
            refine ⟨Rep.int _ _, ⟨_, rfl, ?_⟩, trivial⟩
            have hg2 : rows.getD (rows.length - 1 - k) [] = [x, y] := by rw [List.getD_eq_getElem?_getD, he]; rfl
            rw [hg2]
            exact ⟨hr _ _ he 0 x rfl, hr _ _ he 1 y rfl, trivial⟩
          · have h := back_in (Wd none) 1 trivial rfl (Nat.le_refl _) l Bs Bo g o rows.length cap cell w.heap.size D hlen J Jx w hBs0 hBs1 hg hD' hY hcell (fun i hi => by
              obtain ⟨x, y, he⟩ := hro i hi
              exact ⟨hc _ _ he 0 x rfl, hc _ _ he 1 y rfl⟩) W hk h0
            exact ⟨trivial, fun cs _ => h.2 cs (room_wd _ _)⟩

theorem back_ok (rows : List (List IV)) : AC Tryz.prog 56 [.iv (.sl rows)] none [.fn 80 [[.sl rows]]] := by
  refine AC.by_walk (rs := [.tmp 2]) ords Tryz.func56 (by rfl) (by rfl) (by rfl) (by rfl) (by rfl) ?_
  simp (disch := omega) only [wk, tis, Int.reduceNe, Int.reduceEq, Int.reduceLT, Int.reduceLE, Int.reduceAdd, Int.reduceSub, Int.reduceNeg, Int.reduceMul, Int.reduceToNat, Nat.reduceSub, Nat.reduceMul, Nat.reduceLeDiff, Nat.reduceAdd, Nat.reduceLT, Nat.reduceEqDiff, reduceCtorEq, ↓reduceIte]
end Go.Proofs.YtkkmiboodkilbaaGreat

namespace Go.Proofs.YtkkmiboodkilbaaGreat
open Go Go.Proofs Go.AL
open Go.RowKit Go.Shelf
set_option linter.unusedSimpArgs false
set_option linter.unusedVariables false
attribute [local go_sem] Oper.semAt_some

set_option maxRecDepth 100000 in
set_option maxHeartbeats 4000000 in
theorem backq_in (F : Fence) (n : Nat) (h7 : F.fn 110) (hro : F.round = none) (hn : 1 ≤ n) (l Bs Bo b off len cap : Nat) (cell : Nat → Nat → Value) (n0 : Nat) (D : Nat → Prop) (hlen : (len : Int) * 56 ≤ 140737488351232) (J Jx : Nat → World → Prop) (w : World)
    (hBs0 : Bs < n0) (hBs1 : ¬ D Bs) (hb0 : b < n0) (hb1 : ¬ D b)
    (hY : ∀ k W1, k < len → J k W1 → YieldAt F (n - 1) Tryz.prog l #[.int .i64 ((len : Int) - 1 - k), .agg #[cell (len - 1 - k) 0, cell (len - 1 - k) 1, cell (len - 1 - k) 2]] W1 fun e W' => (e = .returned (.bool true) ∧ J (k + 1) W' ∧ Kept D n0 W1 W') ∨ (e = .returned (.bool false) ∧ Jx k W'))
    (hw : w.cell? ⟨Bs, Bo, none⟩ = some (.slice (some ⟨b, off, none⟩) len cap)) (hc : ∀ i, i < len → w.cell? ⟨b, off + i * 3, none⟩ = some (cell i 0) ∧ w.cell? ⟨b, off + i * 3 + 1, none⟩ = some (cell i 1) ∧ w.cell? ⟨b, off + i * 3 + 2, none⟩ = some (cell i 2))
    (W : World) (hk : Kept D n0 w W) (h0 : J 0 W) :
    CallsIn F n Tryz.prog 110 #[.func (.yield l) #[] #[], .pointer (some ⟨Bs, Bo, none⟩)] W fun e W' => (∃ v, e = .returned v) ∧ (J len W' ∨ ∃ k, Jx k W') := by
  refine callsIn_of_wp Tryz.func110 rfl h7 ?_ hro
  simp only [Tryz.ntmps110, List.size_toArray, List.length_cons, List.length_nil, Nat.reduceAdd, Nat.reduceSub, Array.replicate_succ, Array.replicate_zero, List.push_toArray, List.append_toArray, List.nil_append, List.cons_append]
  have kc : ∀ {W' : World} {g o : Nat} {v : Value}, Kept D n0 w W' → g < n0 → ¬ D g → w.cell? ⟨g, o, none⟩ = some v → W'.cell? ⟨g, o, none⟩ = some v := fun hk hg hD hv => by
    rw [World.cell?_of_block (hk _ hg hD (cells_of_cell hv))]; exact hv
  have hW := kc hk hBs0 hBs1 hw
  gi_wp2
  gi_loopw [3] (fun i wr => ∃ k : Nat, k ≤ len ∧ i = .int .i64 ((len : Int) - 1 - k) ∧ J k wr ∧ Kept D n0 w wr)
    (fun i _ => (intOf i + 1).toNat)
  case atStart => exact ⟨0, Nat.zero_le _, by congr 1; omega, h0, hk⟩
  case round =>
    obtain ⟨k, hkl, rfl, hJs, hnx⟩ := hrel
    have hWr := kc hnx hBs0 hBs1 hw
    by_cases hlt : k < len
    · obtain ⟨fn, tmps, assign, body, hy, hR⟩ := hY k wr hlt hJs
      obtain ⟨hc0, hc1, hc2⟩ := hc (len - 1 - k) (by omega)
      have hcx0 := kc hnx hb0 hb1 hc0
      have hcx1 := kc hnx hb0 hb1 hc1
      have hcx2 := kc hnx hb0 hb1 hc2
      have hge : (k : Int) ≤ (len : Int) - 1 := by omega
      gi_wp2
      refine hR.mono ?_
      rintro e W3 (⟨rfl, hJ3, hk3⟩ | ⟨rfl, hJx3⟩)
      · gi_wp2
        go_roundw
        case rel => exact ⟨k + 1, by omega, by congr 1; omega, hJ3, hnx.trans hk3⟩
        case measure => simp [intOf]; omega
      · gi_wp2
        refine bodyPost_ret (results_none rfl _ _ _) rfl ?_
        exact ⟨⟨_, rfl⟩, .inr ⟨_, hJx3⟩⟩
    · obtain rfl : k = len := by omega
      have hge : ¬ ((k : Int) ≤ (k : Int) - 1) := by omega
      gi_wp2
      go_end0
      exact ⟨⟨_, rfl⟩, .inl hJs⟩

set_option maxRecDepth 100000 in
set_option maxHeartbeats 1000000 in
theorem backq_nil_in (F : Fence) (n : Nat) (h7 : F.fn 110) (hro : F.round = none) (l Bs Bo : Nat) (a : Option Addr) (cap : Nat) (J : World → Prop)
    (W : World) (hW : W.cell? ⟨Bs, Bo, none⟩ = some (.slice a 0 cap)) (h0 : J W) :
    CallsIn F n Tryz.prog 110 #[.func (.yield l) #[] #[], .pointer (some ⟨Bs, Bo, none⟩)] W fun e W' => (∃ v, e = .returned v) ∧ J W' := by
  refine callsIn_of_wp Tryz.func110 rfl h7 ?_ hro
  simp only [Tryz.ntmps110, List.size_toArray, List.length_cons, List.length_nil, Nat.reduceAdd, Nat.reduceSub, Array.replicate_succ, Array.replicate_zero, List.push_toArray, List.append_toArray, List.nil_append, List.cons_append]
  gi_wp2
  gi_loopw [3] (fun i wr => i = .int .i64 (-1) ∧ J wr) (fun _ _ => 0)
  case atStart => exact ⟨rfl, h0⟩
  case round =>
    obtain ⟨rfl, hJs⟩ := hrel
    gi_wp2
    go_end0
    exact ⟨⟨_, rfl⟩, hJs⟩

theorem run_enter_backq : ∀ args w, (callFunc 110 args).run Tryz.prog w = .ok (.enter 110 args) w := enters_of Tryz.func110 (by kernel_rfl) rfl

/-- slices.Backward's closure is an iterator: the last first. -/
theorem backq_iter {rows : List (List IV)} (h2 : ∀ r ∈ rows, r.length = 3) (hlen : (rows.length : Int) * 56 ≤ 140737488351232) : AIter Tryz.prog 110 [[.sl rows]] 2 rows.length
    (fun k => [ci ((rows.length : Int) - 1 - k), .agg (rows.getD (rows.length - 1 - k) [])]) := by
  refine ⟨run_enter_backq, fun w D vs hD hb => ?_⟩
  match vs, hb with
  | ⟨[v]⟩, hb =>
    obtain ⟨⟨Bs, Bo, rfl, hDb, us, hus, hcs⟩, -⟩ := hb
    match us, hus with
    | [u], hus =>
      have hcell : w.cell? ⟨Bs, Bo, none⟩ = some u := by simpa using hcs 0 u rfl
      have hBs1 := hDb (by simp)
      have hBs0 := World.block_lt_of_cell? w _ hcell
      generalize hx : IV.sl rows = x at hus
      cases hus.1 with
      | int => cases hx
      | bool => cases hx
      | raw => cases hx
      | nil a cap hcap =>
        cases hx
        refine ⟨fun _ => #[Go.undef, Go.undef], fun _ => rfl, fun k hk => absurd hk (by simp), fun l J Jx W hk hs _ _ hY h0 => ?_⟩
        have hW : W.cell? ⟨Bs, Bo, none⟩ = some (.slice a 0 cap) := by
          rw [World.cell?_of_block (hk _ hBs0 hBs1 (cells_of_cell hcell))]; exact hcell
        exact ((backq_nil_in (Wd none) 0 trivial rfl l Bs Bo a cap (J 0) W hW h0).mono fun e W' h => ⟨h.1, .inl h.2⟩)
      | sl rows' g o cap sz cell hsz hle hcap hg hD' hc hr =>
        cases hx
        have goW : ∀ {W : World}, Kept D w.heap.size w W → W.cell? ⟨Bs, Bo, none⟩ = some (.slice (some ⟨g, o, none⟩) rows.length cap) := fun hk => by
          rw [World.cell?_of_block (hk _ hBs0 hBs1 (cells_of_cell hcell))]; exact hcell
        by_cases hne : rows = []
        · subst hne
          refine ⟨fun _ => #[Go.undef, Go.undef], fun _ => rfl, fun k hk => absurd hk (by simp), fun l J Jx W hk hs _ _ hY h0 => ?_⟩
          exact ((backq_nil_in (Wd none) 0 trivial rfl l Bs Bo _ cap (J 0) W (goW hk) h0).mono fun e W' h => ⟨h.1, .inl h.2⟩)
        · obtain ⟨r0, hr0⟩ : ∃ r, rows[0]? = some r := ⟨rows[0]'(List.length_pos_iff.2 hne), by simp⟩
          obtain rfl : sz = 3 := (hsz 0 r0 hr0).symm.trans (h2 r0 (List.mem_of_getElem? hr0))
          have hro : ∀ i, i < rows.length → ∃ x y z, rows[i]? = some [x, y, z] := fun i hi => by
            have e : rows[i]? = some rows[i] := by simp [hi]
            have hl := h2 rows[i] (List.mem_of_getElem? e)
            match hm : rows[i], hl with
            | [x, y, z], _ => exact ⟨x, y, z, by rw [e, hm]⟩
          refine ⟨fun k => #[.int .i64 ((rows.length : Int) - 1 - k), .agg #[cell (rows.length - 1 - k) 0, cell (rows.length - 1 - k) 1, cell (rows.length - 1 - k) 2]], fun _ => rfl, fun k hk => ?_, fun l J Jx W hk hs _ _ hY h0 => ?_⟩
          · obtain ⟨x, y, z, he⟩ := hro (rows.length - 1 - k) (by omega)
            refine ⟨Rep.int _ _, ⟨_, rfl, ?_⟩, trivial⟩
            have hg2 : rows.getD (rows.length - 1 - k) [] = [x, y, z] := by rw [List.getD_eq_getElem?_getD, he]; rfl
            rw [hg2]
            exact ⟨hr _ _ he 0 x rfl, hr _ _ he 1 y rfl, hr _ _ he 2 z rfl, trivial⟩
          · have h := backq_in (Wd none) 1 trivial rfl (Nat.le_refl _) l Bs Bo g o rows.length cap cell w.heap.size D hlen J Jx w hBs0 hBs1 hg hD' hY hcell (fun i hi => by
              obtain ⟨x, y, z, he⟩ := hro i hi
              exact ⟨hc _ _ he 0 x rfl, hc _ _ he 1 y rfl, hc _ _ he 2 z rfl⟩) W hk h0
            exact ⟨trivial, fun cs _ => h.2 cs (room_wd _ _)⟩

theorem backq_ok (rows : List (List IV)) : AC Tryz.prog 94 [.iv (.sl rows)] none [.fn 110 [[.sl rows]]] := by
  refine AC.by_walk (rs := [.tmp 2]) ords Tryz.func94 (by rfl) (by rfl) (by rfl) (by rfl) (by rfl) ?_
  simp (disch := omega) only [wk, tis, Int.reduceNe, Int.reduceEq, Int.reduceLT, Int.reduceLE, Int.reduceAdd, Int.reduceSub, Int.reduceNeg, Int.reduceMul, Int.reduceToNat, Nat.reduceSub, Nat.reduceMul, Nat.reduceLeDiff, Nat.reduceAdd, Nat.reduceLT, Nat.reduceEqDiff, reduceCtorEq, ↓reduceIte]
end Go.Proofs.YtkkmiboodkilbaaGreat

namespace Go.Proofs.YtkkmiboodkilbaaGreat
open Go Go.Proofs Go.AL
set_option linter.unusedSimpArgs false
set_option linter.unusedVariables false

set_option maxRecDepth 100000 in
theorem galllcm_cb (l : List Nat) (K : Nat) (hM : ∀ i, (wd (lcmL (l.take i))).length ≤ K) (hl : l.length ≤ 2 ^ 30) (h0 : ∀ x ∈ l, x ≠ 0) (hK : ∀ x ∈ l, (wd x).length ≤ K) (hB : K ≤ 2 ^ 34) : AC Tryz.prog 52 [.iv (.sl (natsr (l.map wd)))] none [cl (wd (lcmL l))] := by
  have o := nof_ok 1 (by decide)
  have hml : (l.map wd).length = l.length := List.length_map _
  have e0 : wd (lcmL (l.take 0)) = wd 1 := by rw [List.take_zero]; rfl
  refine AC.by_walk (rs := [.tmp 2]) ords Tryz.func52 (by rfl) (by rfl) (by rfl) (by rfl) (by rfl) ?_
  simp (disch := omega) only [wk, tis, Int.reduceNe, Int.reduceEq, Int.reduceLT, Int.reduceLE, Int.reduceAdd, Int.reduceSub, Int.reduceNeg, Int.reduceMul, Int.reduceToNat, Nat.reduceSub, Nat.reduceMul, Nat.reduceLeDiff, Nat.reduceAdd, Nat.reduceLT, Nat.reduceEqDiff, reduceCtorEq, ↓reduceIte, rqs, natsr_len, natsr_at, natsr_snoc, natsr_app, natsr_rows, natsr_nil]
  refine call_by (o) (by rfl) (by simp) ?_
  simp (disch := omega) only [wk, tis, Int.reduceNe, Int.reduceEq, Int.reduceLT, Int.reduceLE, Int.reduceAdd, Int.reduceSub, Int.reduceNeg, Int.reduceMul, Int.reduceToNat, Nat.reduceSub, Nat.reduceMul, Nat.reduceLeDiff, Nat.reduceAdd, Nat.reduceLT, Nat.reduceEqDiff, reduceCtorEq, ↓reduceIte, rqs, natsr_len, natsr_at, natsr_snoc, natsr_app, natsr_rows, natsr_nil]
  refine aloop_by (fun f H => ∃ (i : Nat), i ≤ l.length ∧ f 9 = .iv (.int .i64 i) ∧ f 7 = .iv (.sl (natsr (l.map wd))) ∧ f 8 = .iv (.int .i64 l.length) ∧ f 3 = .iv (.sl (lims (wd (lcmL (l.take i)))))) (fun f H => (l.length - intAt f 9).toNat) ?_ ?_
  · refine ⟨0, by omega, ?_⟩
    simp (disch := omega) only [wk, tis, Int.reduceNe, Int.reduceEq, Int.reduceLT, Int.reduceLE, Int.reduceAdd, Int.reduceSub, Int.reduceNeg, Int.reduceMul, Int.reduceToNat, Nat.reduceSub, Nat.reduceMul, Nat.reduceLeDiff, Nat.reduceAdd, Nat.reduceLT, Nat.reduceEqDiff, reduceCtorEq, ↓reduceIte, rqs, natsr_len, natsr_at, natsr_snoc, natsr_app, natsr_rows, natsr_nil, e0, hml]
  rintro f H ⟨i, hi, hF⟩
  rw [intAt_of hF.1]
  simp (disch := omega) only [wk, tis, Int.reduceNe, Int.reduceEq, Int.reduceLT, Int.reduceLE, Int.reduceAdd, Int.reduceSub, Int.reduceNeg, Int.reduceMul, Int.reduceToNat, Nat.reduceSub, Nat.reduceMul, Nat.reduceLeDiff, Nat.reduceAdd, Nat.reduceLT, Nat.reduceEqDiff, reduceCtorEq, ↓reduceIte, rqs, natsr_len, natsr_at, natsr_snoc, natsr_app, natsr_rows, natsr_nil, hF]
  refine if_by (fun hlt => ?_) (fun hlt => ?_)
  · have hlt' : i < l.length := by omega
    obtain ⟨a1, a2, a3⟩ := lcmL_facts l K h0 hK i hi
    have hm : l.getD i 0 ∈ l := by rw [List.getD, List.getElem?_eq_getElem hlt', Option.getD_some]; exact List.getElem_mem _
    have hg : (l.map wd).getD i [] = wd (l.getD i 0) := by simp [List.getD, hlt']
    have hk := hK _ hm
    have h2 := hM i
    have m := glcm_ok (wd (lcmL (l.take i))) (wd (l.getD i 0)) ⟨by omega, lim_wd _⟩ ⟨by omega, lim_wd _⟩ (by rw [nv_wd]; exact a1) (by rw [nv_wd]; exact h0 _ hm)
    rw [nv_wd, nv_wd, ← lcmL_take hlt'] at m
    simp (disch := omega) only [wk, tis, Int.reduceNe, Int.reduceEq, Int.reduceLT, Int.reduceLE, Int.reduceAdd, Int.reduceSub, Int.reduceNeg, Int.reduceMul, Int.reduceToNat, Nat.reduceSub, Nat.reduceMul, Nat.reduceLeDiff, Nat.reduceAdd, Nat.reduceLT, Nat.reduceEqDiff, reduceCtorEq, ↓reduceIte, rqs, natsr_len, natsr_at, natsr_snoc, natsr_app, natsr_rows, natsr_nil, hF, hml, hg]
    refine call_by (m) (by first | rfl | (simp only [tocvs, tocv, hF, hml, hg]; rfl) | (simp only [tocvs, tocv, toboxes, tobox, updH_at, Nat.reduceEqDiff, ↓reduceIte, hF, hml, hg]; rfl)) (by simp) ?_
    simp (disch := omega) only [wk, tis, Int.reduceNe, Int.reduceEq, Int.reduceLT, Int.reduceLE, Int.reduceAdd, Int.reduceSub, Int.reduceNeg, Int.reduceMul, Int.reduceToNat, Nat.reduceSub, Nat.reduceMul, Nat.reduceLeDiff, Nat.reduceAdd, Nat.reduceLT, Nat.reduceEqDiff, reduceCtorEq, ↓reduceIte, rqs, natsr_len, natsr_at, natsr_snoc, natsr_app, natsr_rows, natsr_nil, hF, hml, hg]
    refine ⟨⟨i + 1, by omega, ?_⟩, by omega⟩
    (repeat' apply And.intro) <;> first | rfl | omega
  · simp (disch := omega) only [wk, tis, Int.reduceNe, Int.reduceEq, Int.reduceLT, Int.reduceLE, Int.reduceAdd, Int.reduceSub, Int.reduceNeg, Int.reduceMul, Int.reduceToNat, Nat.reduceSub, Nat.reduceMul, Nat.reduceLeDiff, Nat.reduceAdd, Nat.reduceLT, Nat.reduceEqDiff, reduceCtorEq, ↓reduceIte, rqs, natsr_len, natsr_at, natsr_snoc, natsr_app, natsr_rows, natsr_nil, hF]
    rw [List.take_of_length_le (by omega)]
theorem qclear_cb (p : List RQ) (D n k : Nat) (hp : GQ (2 ^ 30) (2 ^ 36) p) (hC : CB D n k (trimq (qvs p))) (hn : n ≤ 2 ^ 28) (hM : k ≤ 2 ^ 33) : AC Tryz.prog 27 [cqw p] none [cl (wd (cden (trimq (qvs p)))), cw ((clr (trimq (qvs p))).map canon), ci 0] := by
  have nm := qpnorm_ok p (hp.mono (by omega) (by omega))
  have hA := hC.qb
  refine AC.by_walk (rs := [.tmp 2, .tmp 3, .tmp 4]) ords Tryz.func27 (by rfl) (by rfl) (by rfl) (by rfl) (by rfl) ?_
  simp (disch := omega) only [wk, tis, Int.reduceNe, Int.reduceEq, Int.reduceLT, Int.reduceLE, Int.reduceAdd, Int.reduceSub, Int.reduceNeg, Int.reduceMul, Int.reduceToNat, Nat.reduceSub, Nat.reduceMul, Nat.reduceLeDiff, Nat.reduceAdd, Nat.reduceLT, Nat.reduceEqDiff, reduceCtorEq, ↓reduceIte, rqs, natsr_len, natsr_at, natsr_snoc, natsr_app, natsr_rows, natsr_nil]
  refine call_by (nm) (by rfl) (by simp) ?_
  simp (disch := omega) only [wk, tis, Int.reduceNe, Int.reduceEq, Int.reduceLT, Int.reduceLE, Int.reduceAdd, Int.reduceSub, Int.reduceNeg, Int.reduceMul, Int.reduceToNat, Nat.reduceSub, Nat.reduceMul, Nat.reduceLeDiff, Nat.reduceAdd, Nat.reduceLT, Nat.reduceEqDiff, reduceCtorEq, ↓reduceIte, rqs, natsr_len, natsr_at, natsr_snoc, natsr_app, natsr_rows, natsr_nil]
  unfold cqs
  generalize trimq (qvs p) = A at *
  have hAl := hA.1
  have hq : (A.map crat).length = A.length := List.length_map _
  have hdl := dens_len A
  have hcl := clr_len A
  simp (disch := omega) only [wk, tis, Int.reduceNe, Int.reduceEq, Int.reduceLT, Int.reduceLE, Int.reduceAdd, Int.reduceSub, Int.reduceNeg, Int.reduceMul, Int.reduceToNat, Nat.reduceSub, Nat.reduceMul, Nat.reduceLeDiff, Nat.reduceAdd, Nat.reduceLT, Nat.reduceEqDiff, reduceCtorEq, ↓reduceIte, rqs, natsr_len, natsr_at, natsr_snoc, natsr_app, natsr_rows, natsr_nil, hq]
  refine aloop_by (fun f H => ∃ (i st26 : Nat), i ≤ A.length ∧ f 29 = .iv (.int .i64 i) ∧ f 27 = .iv (.sl (rats (A.map crat))) ∧ f 28 = .iv (.int .i64 A.length) ∧ f 5 = .iv (.sl (rats (A.map crat))) ∧ f 7 = .hs 26 st26 ∧ H 26 = .blk false st26 34 1 (natsr (((dens A).take i).map wd))) (fun f H => (A.length - intAt f 29).toNat) ?_ ?_
  · refine ⟨0, 1, by omega, ?_⟩
    simp (disch := omega) only [wk, tis, Int.reduceNe, Int.reduceEq, Int.reduceLT, Int.reduceLE, Int.reduceAdd, Int.reduceSub, Int.reduceNeg, Int.reduceMul, Int.reduceToNat, Nat.reduceSub, Nat.reduceMul, Nat.reduceLeDiff, Nat.reduceAdd, Nat.reduceLT, Nat.reduceEqDiff, reduceCtorEq, ↓reduceIte, rqs, natsr_len, natsr_at, natsr_snoc, natsr_app, natsr_rows, natsr_nil, hq, List.take_zero, List.map_nil, Int.toNat_natCast, List.replicate_zero]
  rintro f H ⟨i, st26, hi, hF⟩
  rw [intAt_of hF.1]
  simp (disch := omega) only [wk, tis, Int.reduceNe, Int.reduceEq, Int.reduceLT, Int.reduceLE, Int.reduceAdd, Int.reduceSub, Int.reduceNeg, Int.reduceMul, Int.reduceToNat, Nat.reduceSub, Nat.reduceMul, Nat.reduceLeDiff, Nat.reduceAdd, Nat.reduceLT, Nat.reduceEqDiff, reduceCtorEq, ↓reduceIte, rqs, natsr_len, natsr_at, natsr_snoc, natsr_app, natsr_rows, natsr_nil, hF]
  refine if_by (fun hlt => ?_) (fun hlt => ?_)
  · have hlt' : i < A.length := by omega
    have hdq : (((dens A).take i).map wd).length = i := by rw [List.length_map, List.length_take]; omega
    have e := cratq_get hlt'
    have e2 : lims (crat (cfq A i)).2 = lims (wd (cfq A i).den) := rfl
    simp (disch := omega) only [wk, tis, Int.reduceNe, Int.reduceEq, Int.reduceLT, Int.reduceLE, Int.reduceAdd, Int.reduceSub, Int.reduceNeg, Int.reduceMul, Int.reduceToNat, Nat.reduceSub, Nat.reduceMul, Nat.reduceLeDiff, Nat.reduceAdd, Nat.reduceLT, Nat.reduceEqDiff, reduceCtorEq, ↓reduceIte, rqs, natsr_len, natsr_at, natsr_snoc, natsr_app, natsr_rows, natsr_nil, hF, hq, hdq, e, e2]
    refine ⟨⟨i + 1, st26 + 1, by omega, ?_⟩, by omega⟩
    rw [natsr_dens A hlt']
    (repeat' apply And.intro) <;> first | rfl | omega
  · have hie : i = A.length := by omega
    subst hie
    rw [List.take_of_length_le (by omega)] at hF
    have m := galllcm_cb (dens A) k (fun i => hC.lcm_len i) (by omega) dens_ne hA.dens (by omega)
    have hcd := hC.cden_len
    have hcn := cden_ne A
    simp (disch := omega) only [wk, tis, Int.reduceNe, Int.reduceEq, Int.reduceLT, Int.reduceLE, Int.reduceAdd, Int.reduceSub, Int.reduceNeg, Int.reduceMul, Int.reduceToNat, Nat.reduceSub, Nat.reduceMul, Nat.reduceLeDiff, Nat.reduceAdd, Nat.reduceLT, Nat.reduceEqDiff, reduceCtorEq, ↓reduceIte, rqs, natsr_len, natsr_at, natsr_snoc, natsr_app, natsr_rows, natsr_nil, hF, hq]
    refine call_by (m) (by first | rfl | (simp only [tocvs, tocv, hF, hq]; rfl) | (simp only [tocvs, tocv, toboxes, tobox, updH_at, Nat.reduceEqDiff, ↓reduceIte, hF, hq]; rfl)) (by simp) ?_
    simp (disch := omega) only [wk, tis, Int.reduceNe, Int.reduceEq, Int.reduceLT, Int.reduceLE, Int.reduceAdd, Int.reduceSub, Int.reduceNeg, Int.reduceMul, Int.reduceToNat, Nat.reduceSub, Nat.reduceMul, Nat.reduceLeDiff, Nat.reduceAdd, Nat.reduceLT, Nat.reduceEqDiff, reduceCtorEq, ↓reduceIte, rqs, natsr_len, natsr_at, natsr_snoc, natsr_app, natsr_rows, natsr_nil, hF, hq]
    rw [show lcmL (dens A) = cden A from rfl]
    refine aloop_nil 11 11 36 2 (by simp (disch := omega) only [wk, tis, Int.reduceNe, Int.reduceEq, Int.reduceLT, Int.reduceLE, Int.reduceAdd, Int.reduceSub, Int.reduceNeg, Int.reduceMul, Int.reduceToNat, Nat.reduceSub, Nat.reduceMul, Nat.reduceLeDiff, Nat.reduceAdd, Nat.reduceLT, Nat.reduceEqDiff, reduceCtorEq, ↓reduceIte, rqs, natsr_len, natsr_at, natsr_snoc, natsr_app, natsr_rows, natsr_nil]) (fun f H => ∃ (i st : Nat), i ≤ A.length ∧ f 43 = .iv (.int .i64 i) ∧ f 41 = .iv (.sl (rats (A.map crat))) ∧ f 42 = .iv (.int .i64 A.length) ∧ f 10 = .iv (.sl (lims (wd (cden A)))) ∧ f 11 = .hs 11 st ∧ H 11 = .blk false st 36 2 (raws (((clr A).take i).map canon))) (fun f H => (A.length - intAt f 43).toNat) ?_ ?_
    · refine ⟨0, (H 11).stamp + 1, by omega, ?_⟩
      simp (disch := omega) only [wk, tis, Int.reduceNe, Int.reduceEq, Int.reduceLT, Int.reduceLE, Int.reduceAdd, Int.reduceSub, Int.reduceNeg, Int.reduceMul, Int.reduceToNat, Nat.reduceSub, Nat.reduceMul, Nat.reduceLeDiff, Nat.reduceAdd, Nat.reduceLT, Nat.reduceEqDiff, reduceCtorEq, ↓reduceIte, rqs, natsr_len, natsr_at, natsr_snoc, natsr_app, natsr_rows, natsr_nil, ghostF, ghostH, hF, hq, List.take_zero, List.map_nil]
    rintro f H ⟨i, st, hi, hF⟩
    rw [intAt_of hF.1]
    simp (disch := omega) only [wk, tis, Int.reduceNe, Int.reduceEq, Int.reduceLT, Int.reduceLE, Int.reduceAdd, Int.reduceSub, Int.reduceNeg, Int.reduceMul, Int.reduceToNat, Nat.reduceSub, Nat.reduceMul, Nat.reduceLeDiff, Nat.reduceAdd, Nat.reduceLT, Nat.reduceEqDiff, reduceCtorEq, ↓reduceIte, rqs, natsr_len, natsr_at, natsr_snoc, natsr_app, natsr_rows, natsr_nil, hF]
    refine if_by (fun hlt => ?_) (fun hlt => ?_)
    · have hlt' : i < A.length := by omega
      have hcq : (((clr A).take i).map canon).length = i := by rw [List.length_map, List.length_take]; omega
      have e := cratq_get hlt'
      have e2 : lims (crat (cfq A i)).2 = lims (wd (cfq A i).den) := rfl
      have e3 : prow (crat (cfq A i)).1 = prow (canon (cfq A i).num) := rfl
      have hc : qz (cfq A i) ≤ k := by rw [cfq_lt hlt']; exact hA.2 _ (List.getElem_mem hlt')
      have hc2 := qz_parts (cfq A i)
      have n1 := znat_ok false (cden A) (by omega)
      have n2 := znat_ok false (cfq A i).den (by omega)
      rw [sgf] at n1 n2
      have hdv : ((cfq A i).den : Int) ∣ (cden A : Int) := Int.natCast_dvd_natCast.mpr (cden_dvd hlt')
      have x := zexact_ok (canon (cden A : Int)) (canon ((cfq A i).den : Int)) ((sz_canon _).mono (by rw [zl_nat]; omega)) ((sz_canon _).mono (by rw [zl_nat]; omega)) (by rw [iv_canon]; have := (cfq A i).den_nz; omega) (by rw [iv_canon, iv_canon]; exact hdv)
      rw [iv_canon, iv_canon] at x
      have zd := zl_div hdv
      rw [zl_nat] at zd
      have w := zmul_ok (canon (cfq A i).num) (canon ((cden A : Int) / ((cfq A i).den : Int))) ((sz_canon _).mono (by omega)) ((sz_canon _).mono (by omega))
      rw [iv_canon, iv_canon, ← clr_get hlt'] at w
      simp (disch := omega) only [wk, tis, Int.reduceNe, Int.reduceEq, Int.reduceLT, Int.reduceLE, Int.reduceAdd, Int.reduceSub, Int.reduceNeg, Int.reduceMul, Int.reduceToNat, Nat.reduceSub, Nat.reduceMul, Nat.reduceLeDiff, Nat.reduceAdd, Nat.reduceLT, Nat.reduceEqDiff, reduceCtorEq, ↓reduceIte, rqs, natsr_len, natsr_at, natsr_snoc, natsr_app, natsr_rows, natsr_nil, hF, hq, hcq, e, e2, e3]
      refine ⟨tmps_by (by kernel_rfl), ?_⟩
      refine call_by (n1) (by first | rfl | (simp only [tocvs, tocv, hF, hq, hcq, e, e2, e3]; rfl) | (simp only [tocvs, tocv, toboxes, tobox, updH_at, Nat.reduceEqDiff, ↓reduceIte, hF, hq, hcq, e, e2, e3]; rfl)) (by simp) ?_
      simp (disch := omega) only [wk, tis, Int.reduceNe, Int.reduceEq, Int.reduceLT, Int.reduceLE, Int.reduceAdd, Int.reduceSub, Int.reduceNeg, Int.reduceMul, Int.reduceToNat, Nat.reduceSub, Nat.reduceMul, Nat.reduceLeDiff, Nat.reduceAdd, Nat.reduceLT, Nat.reduceEqDiff, reduceCtorEq, ↓reduceIte, rqs, natsr_len, natsr_at, natsr_snoc, natsr_app, natsr_rows, natsr_nil, hF, hq, hcq, e, e2, e3]
      refine call_by (n2) (by first | rfl | (simp only [tocvs, tocv, hF, hq, hcq, e, e2, e3]; rfl) | (simp only [tocvs, tocv, toboxes, tobox, updH_at, Nat.reduceEqDiff, ↓reduceIte, hF, hq, hcq, e, e2, e3]; rfl)) (by simp) ?_
      simp (disch := omega) only [wk, tis, Int.reduceNe, Int.reduceEq, Int.reduceLT, Int.reduceLE, Int.reduceAdd, Int.reduceSub, Int.reduceNeg, Int.reduceMul, Int.reduceToNat, Nat.reduceSub, Nat.reduceMul, Nat.reduceLeDiff, Nat.reduceAdd, Nat.reduceLT, Nat.reduceEqDiff, reduceCtorEq, ↓reduceIte, rqs, natsr_len, natsr_at, natsr_snoc, natsr_app, natsr_rows, natsr_nil, hF, hq, hcq, e, e2, e3]
      refine call_by (x) (by first | rfl | (simp only [tocvs, tocv, hF, hq, hcq, e, e2, e3]; rfl) | (simp only [tocvs, tocv, toboxes, tobox, updH_at, Nat.reduceEqDiff, ↓reduceIte, hF, hq, hcq, e, e2, e3]; rfl)) (by simp) ?_
      simp (disch := omega) only [wk, tis, Int.reduceNe, Int.reduceEq, Int.reduceLT, Int.reduceLE, Int.reduceAdd, Int.reduceSub, Int.reduceNeg, Int.reduceMul, Int.reduceToNat, Nat.reduceSub, Nat.reduceMul, Nat.reduceLeDiff, Nat.reduceAdd, Nat.reduceLT, Nat.reduceEqDiff, reduceCtorEq, ↓reduceIte, rqs, natsr_len, natsr_at, natsr_snoc, natsr_app, natsr_rows, natsr_nil, hF, hq, hcq, e, e2, e3]
      first | exact log_by (by kernel_rfl) | refine ⟨log_by (by kernel_rfl), ?_⟩
      refine call_by (w) (by first | rfl | (simp only [tocvs, tocv, hF, hq, hcq, e, e2, e3]; rfl) | (simp only [tocvs, tocv, toboxes, tobox, updH_at, Nat.reduceEqDiff, ↓reduceIte, hF, hq, hcq, e, e2, e3]; rfl)) (by simp) ?_
      simp (disch := omega) only [wk, tis, Int.reduceNe, Int.reduceEq, Int.reduceLT, Int.reduceLE, Int.reduceAdd, Int.reduceSub, Int.reduceNeg, Int.reduceMul, Int.reduceToNat, Nat.reduceSub, Nat.reduceMul, Nat.reduceLeDiff, Nat.reduceAdd, Nat.reduceLT, Nat.reduceEqDiff, reduceCtorEq, ↓reduceIte, rqs, natsr_len, natsr_at, natsr_snoc, natsr_app, natsr_rows, natsr_nil, hF, hq, hcq, e, e2, e3]
      have et := takez_snoc (q := clr A) (i := i) (by omega)
      refine ⟨⟨i + 1, st + 1, by omega, ?_⟩, by omega⟩
      rw [et, List.map_append]
      (repeat' apply And.intro) <;> first | rfl | omega
    · have hie : i = A.length := by omega
      subst hie
      rw [List.take_of_length_le (by omega)] at hF
      simp (disch := omega) only [wk, tis, Int.reduceNe, Int.reduceEq, Int.reduceLT, Int.reduceLE, Int.reduceAdd, Int.reduceSub, Int.reduceNeg, Int.reduceMul, Int.reduceToNat, Nat.reduceSub, Nat.reduceMul, Nat.reduceLeDiff, Nat.reduceAdd, Nat.reduceLT, Nat.reduceEqDiff, reduceCtorEq, ↓reduceIte, rqs, natsr_len, natsr_at, natsr_snoc, natsr_app, natsr_rows, natsr_nil, hF]
      try rfl
theorem qpmul_cb (p q : List RQ) (D E n k : Nat) (hp : GQ (2 ^ 30) (2 ^ 36) p) (hq : GQ (2 ^ 30) (2 ^ 36) q) (hCA : CB D n k (trimq (qvs p))) (hCB : CB E n k (trimq (qvs q))) (hn : n ≤ 2 ^ 28) (hM : k ≤ 2 ^ 33) (hk : 1 ≤ k) : AC Tryz.prog 95 [cqw p, cqw q] none [cqp (mulq (qvs p) (qvs q)), ci 0] := by
  have m := qboth_ok p q (hp.mono (by omega) (by omega)) (hq.mono (by omega) (by omega))
  have hA := hCA.qb
  have hB := hCB.qb
  have e : cqp (mulq (qvs p) (qvs q)) = cqp (mulq (trimq (qvs p)) (trimq (qvs q))) := congrArg cqw (cqs_ext fun k => (mulq_trim _ _ k).symm)
  have tA := trimq_trimq (qvs p)
  have tB := trimq_trimq (qvs q)
  rw [e]
  refine AC.by_walk (rs := [.tmp 4, .tmp 5]) ords Tryz.func95 (by rfl) (by rfl) (by rfl) (by rfl) (by rfl) ?_
  simp (disch := omega) only [wk, tis, Int.reduceNe, Int.reduceEq, Int.reduceLT, Int.reduceLE, Int.reduceAdd, Int.reduceSub, Int.reduceNeg, Int.reduceMul, Int.reduceToNat, Nat.reduceSub, Nat.reduceMul, Nat.reduceLeDiff, Nat.reduceAdd, Nat.reduceLT, Nat.reduceEqDiff, reduceCtorEq, ↓reduceIte, rqs, natsr_len, natsr_at, natsr_snoc, natsr_app, natsr_rows, natsr_nil]
  refine call_by (m) (by rfl) (by simp) ?_
  simp (disch := omega) only [wk, tis, Int.reduceNe, Int.reduceEq, Int.reduceLT, Int.reduceLE, Int.reduceAdd, Int.reduceSub, Int.reduceNeg, Int.reduceMul, Int.reduceToNat, Nat.reduceSub, Nat.reduceMul, Nat.reduceLeDiff, Nat.reduceAdd, Nat.reduceLT, Nat.reduceEqDiff, reduceCtorEq, ↓reduceIte, rqs, natsr_len, natsr_at, natsr_snoc, natsr_app, natsr_rows, natsr_nil]
  unfold cqs
  generalize trimq (qvs p) = A at *
  generalize trimq (qvs q) = B at *
  have hqa : (A.map crat).length = A.length := List.length_map _
  have hqb : (B.map crat).length = B.length := List.length_map _
  by_cases ha : A.length = 0
  · have ha' : ((A.map crat).length : Int) = 0 := by omega
    have hn := mulq_nil (A := A) (B := B) (.inl (by rw [tA]; exact List.length_eq_zero_iff.mp ha))
    rw [show cqp (mulq A B) = cqw [] from congrArg cqw hn]
    simp (disch := omega) only [wk, tis, Int.reduceNe, Int.reduceEq, Int.reduceLT, Int.reduceLE, Int.reduceAdd, Int.reduceSub, Int.reduceNeg, Int.reduceMul, Int.reduceToNat, Nat.reduceSub, Nat.reduceMul, Nat.reduceLeDiff, Nat.reduceAdd, Nat.reduceLT, Nat.reduceEqDiff, reduceCtorEq, ↓reduceIte, rqs, natsr_len, natsr_at, natsr_snoc, natsr_app, natsr_rows, natsr_nil, ha']
    try rfl
  have ha' : ¬ ((A.map crat).length : Int) = 0 := by omega
  by_cases hb : B.length = 0
  · have hb' : ((B.map crat).length : Int) = 0 := by omega
    have hn := mulq_nil (A := A) (B := B) (.inr (by rw [tB]; exact List.length_eq_zero_iff.mp hb))
    rw [show cqp (mulq A B) = cqw [] from congrArg cqw hn]
    simp (disch := omega) only [wk, tis, Int.reduceNe, Int.reduceEq, Int.reduceLT, Int.reduceLE, Int.reduceAdd, Int.reduceSub, Int.reduceNeg, Int.reduceMul, Int.reduceToNat, Nat.reduceSub, Nat.reduceMul, Nat.reduceLeDiff, Nat.reduceAdd, Nat.reduceLT, Nat.reduceEqDiff, reduceCtorEq, ↓reduceIte, rqs, natsr_len, natsr_at, natsr_snoc, natsr_app, natsr_rows, natsr_nil, ha', hb']
    try rfl
  have hb' : ¬ ((B.map crat).length : Int) = 0 := by omega
  have c1 := qclear_cb (A.map crat) D n k ((hA.mono (by omega) (by omega)).gq) (by rw [qvs_map, tA]; exact hCA) hn hM
  have c2 := qclear_cb (B.map crat) E n k ((hB.mono (by omega) (by omega)).gq) (by rw [qvs_map, tB]; exact hCB) hn hM
  rw [qvs_map, tA] at c1
  rw [qvs_map, tB] at c2
  have pA := hCA.clr_pb.mono (n' := 2 ^ 30) (k' := 2 ^ 35) (by omega) (by omega)
  have pB := hCB.clr_pb.mono (n' := 2 ^ 30) (k' := 2 ^ 35) (by omega) (by omega)
  have z := pmul_ok ((clr A).map canon) ((clr B).map canon) (RP.canon pA) (RP.canon pB)
  rw [pv_canon, pv_canon] at z
  have l1 := hCA.cden_len
  have l2 := hCB.cden_len
  have pm := (pA.pmul pB (by decide)).trimz
  have o := qover_ok (trimz (pmul (clr A) (clr B))) (cden A) (cden B) (pm.mono (by omega) (by omega)) (by omega) (by omega) (cden_ne A) (cden_ne B)
  have ee : cqs (divl (trimz (pmul (clr A) (clr B))) ((cden A * cden B : Nat) : Int)) = cqs (mulq A B) := cqs_ext (cfq_clear_mul A B)
  rw [show cqp (divl (trimz (pmul (clr A) (clr B))) ((cden A * cden B : Nat) : Int)) = cqw (cqs (mulq A B)) from congrArg cqw ee] at o
  simp (disch := omega) only [wk, tis, Int.reduceNe, Int.reduceEq, Int.reduceLT, Int.reduceLE, Int.reduceAdd, Int.reduceSub, Int.reduceNeg, Int.reduceMul, Int.reduceToNat, Nat.reduceSub, Nat.reduceMul, Nat.reduceLeDiff, Nat.reduceAdd, Nat.reduceLT, Nat.reduceEqDiff, reduceCtorEq, ↓reduceIte, rqs, natsr_len, natsr_at, natsr_snoc, natsr_app, natsr_rows, natsr_nil, ha', hb']
  refine call_by (c1) (by rfl) (by simp) ?_
  simp (disch := omega) only [wk, tis, Int.reduceNe, Int.reduceEq, Int.reduceLT, Int.reduceLE, Int.reduceAdd, Int.reduceSub, Int.reduceNeg, Int.reduceMul, Int.reduceToNat, Nat.reduceSub, Nat.reduceMul, Nat.reduceLeDiff, Nat.reduceAdd, Nat.reduceLT, Nat.reduceEqDiff, reduceCtorEq, ↓reduceIte, rqs, natsr_len, natsr_at, natsr_snoc, natsr_app, natsr_rows, natsr_nil]
  refine call_by (c2) (by rfl) (by simp) ?_
  simp (disch := omega) only [wk, tis, Int.reduceNe, Int.reduceEq, Int.reduceLT, Int.reduceLE, Int.reduceAdd, Int.reduceSub, Int.reduceNeg, Int.reduceMul, Int.reduceToNat, Nat.reduceSub, Nat.reduceMul, Nat.reduceLeDiff, Nat.reduceAdd, Nat.reduceLT, Nat.reduceEqDiff, reduceCtorEq, ↓reduceIte, rqs, natsr_len, natsr_at, natsr_snoc, natsr_app, natsr_rows, natsr_nil]
  refine call_by (z) (by rfl) (by simp) ?_
  simp (disch := omega) only [wk, tis, Int.reduceNe, Int.reduceEq, Int.reduceLT, Int.reduceLE, Int.reduceAdd, Int.reduceSub, Int.reduceNeg, Int.reduceMul, Int.reduceToNat, Nat.reduceSub, Nat.reduceMul, Nat.reduceLeDiff, Nat.reduceAdd, Nat.reduceLT, Nat.reduceEqDiff, reduceCtorEq, ↓reduceIte, rqs, natsr_len, natsr_at, natsr_snoc, natsr_app, natsr_rows, natsr_nil]
  refine call_by (o) (by rfl) (by simp) ?_
  simp (disch := omega) only [wk, tis, Int.reduceNe, Int.reduceEq, Int.reduceLT, Int.reduceLE, Int.reduceAdd, Int.reduceSub, Int.reduceNeg, Int.reduceMul, Int.reduceToNat, Nat.reduceSub, Nat.reduceMul, Nat.reduceLeDiff, Nat.reduceAdd, Nat.reduceLT, Nat.reduceEqDiff, reduceCtorEq, ↓reduceIte, rqs, natsr_len, natsr_at, natsr_snoc, natsr_app, natsr_rows, natsr_nil]
  try rfl
end Go.Proofs.YtkkmiboodkilbaaGreat

namespace Go.Proofs.YtkkmiboodkilbaaGreat
open Go Go.Proofs Go.AL
set_option linter.unusedSimpArgs false
set_option linter.unusedVariables false

theorem mone_ok' : AC Tryz.prog 48 [] none [cqz 1] := by
  have z := zOf_ok 1 (by omega) (by omega)
  rw [show cqz 1 = cqq (canon 1, [1]) from congrArg cqq (crat_int 1)]
  refine AC.by_walk (rs := [.cell 0 38]) ords Tryz.func48 (by rfl) (by rfl) (by rfl) (by rfl) (by rfl) ?_
  simp (disch := omega) only [wk, tis, Int.reduceNe, Int.reduceEq, Int.reduceLT, Int.reduceLE, Int.reduceAdd, Int.reduceSub, Int.reduceNeg, Int.reduceMul, Int.reduceToNat, Nat.reduceSub, Nat.reduceMul, Nat.reduceLeDiff, Nat.reduceAdd, Nat.reduceLT, Nat.reduceEqDiff, reduceCtorEq, ↓reduceIte, rqs]
  refine call_by (z) (by rfl) (by simp) ?_
  simp (disch := omega) only [wk, tis, Int.reduceNe, Int.reduceEq, Int.reduceLT, Int.reduceLE, Int.reduceAdd, Int.reduceSub, Int.reduceNeg, Int.reduceMul, Int.reduceToNat, Nat.reduceSub, Nat.reduceMul, Nat.reduceLeDiff, Nat.reduceAdd, Nat.reduceLT, Nat.reduceEqDiff, reduceCtorEq, ↓reduceIte, rqs]
  try rfl
theorem ratsA_getD {A : List Rat} {i : Nat} (h : i < A.length) : (rats (A.map crat)).getD i [] = qrow (crat (cfq A i)) := by
  rw [rats_get (by rw [List.length_map]; exact h), cratq_get h]
theorem rats_three (l : List RQ) : ∀ r ∈ rats l, r.length = 3 := (rats_rows l).mpr trivial

/-- What Horner's steps are known by. -/
structure HQ (A B : List Rat) : Prop where
  la : A.length ≤ 2 ^ 10
  h : ∀ k, k ≤ A.length → ∃ E, CB E (2 ^ 20) (2 ^ 32) (hoq A B k)
  b : ∃ D, CB D (2 ^ 20) (2 ^ 32) B
  a : QB (2 ^ 20) (2 ^ 32) A

set_option maxRecDepth 100000 in
theorem mcomposeq_ok (A B : List Rat) (hh : HQ A B) : AC Tryz.prog 75 [cqw (A.map crat), cqw (B.map crat)] none [cqp (hoq A B A.length), ci 0] := by
  have hla := hh.la
  have hrl : (rats (A.map crat)).length = A.length := by rw [rats_length, List.length_map]
  obtain ⟨D, hB⟩ := hh.b
  refine AC.by_walk (rs := [.cell 4 54, .cell 5 28]) ords Tryz.func75 (by rfl) (by rfl) (by rfl) (by rfl) (by rfl) ?_
  simp (disch := omega) only [wk, tis, Int.reduceNe, Int.reduceEq, Int.reduceLT, Int.reduceLE, Int.reduceAdd, Int.reduceSub, Int.reduceNeg, Int.reduceMul, Int.reduceToNat, Nat.reduceSub, Nat.reduceMul, Nat.reduceLeDiff, Nat.reduceAdd, Nat.reduceLT, Nat.reduceEqDiff, reduceCtorEq, ↓reduceIte, rqs]
  refine call_by ((backq_ok (rats (A.map crat)))) (by rfl) (by simp) ?_
  simp (disch := omega) only [wk, tis, Int.reduceNe, Int.reduceEq, Int.reduceLT, Int.reduceLE, Int.reduceAdd, Int.reduceSub, Int.reduceNeg, Int.reduceMul, Int.reduceToNat, Nat.reduceSub, Nat.reduceMul, Nat.reduceLeDiff, Nat.reduceAdd, Nat.reduceLT, Nat.reduceEqDiff, reduceCtorEq, ↓reduceIte, rqs]
  refine range_by (l := [.ip [.sl (rats (A.map crat))]]) (c := True ∧ True) (ms := []) (backq_iter (rows := rats (A.map crat)) (rats_three _) (by rw [hrl]; omega)) (fun k H2 => k ≤ A.length ∧ H2 3 = HC.blk false 1 54 1 [[.sl (rats (B.map crat))]] ∧ H2 6 = HC.blk false 1 54 1 [[.sl (rats (cqs (hoq A B k)))]] ∧ H2 4 = HC.blk false 1 54 1 [[.sl []]] ∧ H2 5 = HC.blk false 1 28 1 [[.int .i64 0]]) (by simp (disch := omega) only [wk, tis, Int.reduceNe, Int.reduceEq, Int.reduceLT, Int.reduceLE, Int.reduceAdd, Int.reduceSub, Int.reduceNeg, Int.reduceMul, Int.reduceToNat, Nat.reduceSub, Nat.reduceMul, Nat.reduceLeDiff, Nat.reduceAdd, Nat.reduceLT, Nat.reduceEqDiff, reduceCtorEq, ↓reduceIte, rqs]) (by rfl) ⟨trivial, trivial⟩ ?_ ?_ ?_
  · refine ⟨by omega, by simp (disch := omega) only [wk, tis, Int.reduceNe, Int.reduceEq, Int.reduceLT, Int.reduceLE, Int.reduceAdd, Int.reduceSub, Int.reduceNeg, Int.reduceMul, Int.reduceToNat, Nat.reduceSub, Nat.reduceMul, Nat.reduceLeDiff, Nat.reduceAdd, Nat.reduceLT, Nat.reduceEqDiff, reduceCtorEq, ↓reduceIte, rqs], by simp (disch := omega) only [wk, tis, Int.reduceNe, Int.reduceEq, Int.reduceLT, Int.reduceLE, Int.reduceAdd, Int.reduceSub, Int.reduceNeg, Int.reduceMul, Int.reduceToNat, Nat.reduceSub, Nat.reduceMul, Nat.reduceLeDiff, Nat.reduceAdd, Nat.reduceLT, Nat.reduceEqDiff, reduceCtorEq, ↓reduceIte, rqs, show rats (cqs (hoq A B 0)) = [] from rfl], by simp (disch := omega) only [wk, tis, Int.reduceNe, Int.reduceEq, Int.reduceLT, Int.reduceLE, Int.reduceAdd, Int.reduceSub, Int.reduceNeg, Int.reduceMul, Int.reduceToNat, Nat.reduceSub, Nat.reduceMul, Nat.reduceLeDiff, Nat.reduceAdd, Nat.reduceLT, Nat.reduceEqDiff, reduceCtorEq, ↓reduceIte, rqs], by simp (disch := omega) only [wk, tis, Int.reduceNe, Int.reduceEq, Int.reduceLT, Int.reduceLE, Int.reduceAdd, Int.reduceSub, Int.reduceNeg, Int.reduceMul, Int.reduceToNat, Nat.reduceSub, Nat.reduceMul, Nat.reduceLeDiff, Nat.reduceAdd, Nat.reduceLT, Nat.reduceEqDiff, reduceCtorEq, ↓reduceIte, rqs]⟩
  · rintro k H2 hk ⟨hk', h3, h6, h4, h5⟩
    rw [hrl] at hk
    rw [hrl, ratsA_getD (by omega)]
    obtain ⟨E, hE⟩ := hh.h k hk'
    have hE' := hE.trim
    have hBt := hB.trim
    have m := qpmul_cb (cqs (hoq A B k)) (B.map crat) E D (2 ^ 20) (2 ^ 32) ((hE.qb.gqs).mono (by omega) (by omega)) ((hB.qb.gq).mono (by omega) (by omega)) (by rw [qvs_cqs, trimq_trimq]; exact hE') (by rw [qvs_map]; exact hBt) (by omega) (by omega) (by omega)
    rw [show cqp (mulq (qvs (cqs (hoq A B k))) (qvs (B.map crat))) = cqp (mulq (hoq A B k) B) from congrArg cqw (cqs_ext fun j => by rw [qvs_cqs, qvs_map]; exact mulq_congr (cfq_trimq _) (fun _ => rfl) j)] at m
    have hm := hE.mulq hB
    have hc := hh.a.cz (by omega) (A.length - 1 - k)
    have s := qpadd_g (p := cqs (mulq (hoq A B k) B)) (q := [crat (cfq A (A.length - 1 - k))]) (K := 2 ^ 34) (X := mulq (hoq A B k) B) (Y := [cfq A (A.length - 1 - k)]) ((hm.qb.gqs).mono (by omega) (by omega)) ⟨by simp, fun r hr => by
      rcases List.mem_singleton.1 hr with rfl
      exact ⟨szq_crat (by omega), nv_crat0 _⟩⟩ (by omega) (by omega) (pq_cqs _) (by rw [show qvs [crat (cfq A (A.length - 1 - k))] = [cfq A (A.length - 1 - k)] from qvs_map [_]])
    rw [show addq (mulq (hoq A B k) B) [cfq A (A.length - 1 - k)] = hoq A B (k + 1) from rfl] at s
    simp (disch := omega) only [wk, tis, Int.reduceNe, Int.reduceEq, Int.reduceLT, Int.reduceLE, Int.reduceAdd, Int.reduceSub, Int.reduceNeg, Int.reduceMul, Int.reduceToNat, Nat.reduceSub, Nat.reduceMul, Nat.reduceLeDiff, Nat.reduceAdd, Nat.reduceLT, Nat.reduceEqDiff, reduceCtorEq, ↓reduceIte, rqs, h3, h6, h4, h5]
    refine call_by (m) (by first | rfl | (simp only [tocvs, tocv, h3, h6, h4, h5]; rfl) | (simp only [tocvs, tocv, toboxes, tobox, updH_at, Nat.reduceEqDiff, ↓reduceIte, h3, h6, h4, h5]; rfl)) (by simp) ?_
    simp (disch := omega) only [wk, tis, Int.reduceNe, Int.reduceEq, Int.reduceLT, Int.reduceLE, Int.reduceAdd, Int.reduceSub, Int.reduceNeg, Int.reduceMul, Int.reduceToNat, Nat.reduceSub, Nat.reduceMul, Nat.reduceLeDiff, Nat.reduceAdd, Nat.reduceLT, Nat.reduceEqDiff, reduceCtorEq, ↓reduceIte, rqs, h3, h6, h4, h5]
    refine call_by (s) (by first | rfl | (simp only [tocvs, tocv, h3, h6, h4, h5]; rfl) | (simp only [tocvs, tocv, toboxes, tobox, updH_at, Nat.reduceEqDiff, ↓reduceIte, h3, h6, h4, h5]; rfl)) (by simp) ?_
    simp (disch := omega) only [wk, tis, Int.reduceNe, Int.reduceEq, Int.reduceLT, Int.reduceLE, Int.reduceAdd, Int.reduceSub, Int.reduceNeg, Int.reduceMul, Int.reduceToNat, Nat.reduceSub, Nat.reduceMul, Nat.reduceLeDiff, Nat.reduceAdd, Nat.reduceLT, Nat.reduceEqDiff, reduceCtorEq, ↓reduceIte, rqs, h3, h6, h4, h5]
    omega
  · rintro H2 ⟨hk', h3, h6, h4, h5⟩
    rw [hrl] at h6
    obtain ⟨E, hE⟩ := hh.h A.length (Nat.le_refl _)
    have m := qpnorm_g (p := cqs (hoq A B A.length)) (X := hoq A B A.length) ((hE.qb.gqs).mono (by omega) (by omega)) (pq_cqs _)
    simp (disch := omega) only [wk, tis, Int.reduceNe, Int.reduceEq, Int.reduceLT, Int.reduceLE, Int.reduceAdd, Int.reduceSub, Int.reduceNeg, Int.reduceMul, Int.reduceToNat, Nat.reduceSub, Nat.reduceMul, Nat.reduceLeDiff, Nat.reduceAdd, Nat.reduceLT, Nat.reduceEqDiff, reduceCtorEq, ↓reduceIte, rqs, h3, h6, h4, h5]
    refine call_by (m) (by first | rfl | (simp only [tocvs, tocv, h3, h6, h4, h5]; rfl) | (simp only [tocvs, tocv, toboxes, tobox, updH_at, Nat.reduceEqDiff, ↓reduceIte, h3, h6, h4, h5]; rfl)) (by simp) ?_
    simp (disch := omega) only [wk, tis, Int.reduceNe, Int.reduceEq, Int.reduceLT, Int.reduceLE, Int.reduceAdd, Int.reduceSub, Int.reduceNeg, Int.reduceMul, Int.reduceToNat, Nat.reduceSub, Nat.reduceMul, Nat.reduceLeDiff, Nat.reduceAdd, Nat.reduceLT, Nat.reduceEqDiff, reduceCtorEq, ↓reduceIte, rqs, h3, h6, h4, h5]
    try rfl

theorem mComposeQ_ok (p q : List RQ) (hp : GQ (2 ^ 40) (2 ^ 38) p) (hq : GQ (2 ^ 40) (2 ^ 38) q) (hh : HQ (trimq (qvs p)) (trimq (qvs q))) : AC Tryz.prog 47 [cqw p, cqw q] none [cqp (hoq (trimq (qvs p)) (trimq (qvs q)) (trimq (qvs p)).length), ci 0] := by
  have n1 := qpnorm_ok p hp
  have n2 := qpnorm_ok q hq
  have c := mcomposeq_ok _ _ hh
  refine AC.by_walk (rs := [.tmp 4, .tmp 5]) ords Tryz.func47 (by rfl) (by rfl) (by rfl) (by rfl) (by rfl) ?_
  simp (disch := omega) only [wk, tis, Int.reduceNe, Int.reduceEq, Int.reduceLT, Int.reduceLE, Int.reduceAdd, Int.reduceSub, Int.reduceNeg, Int.reduceMul, Int.reduceToNat, Nat.reduceSub, Nat.reduceMul, Nat.reduceLeDiff, Nat.reduceAdd, Nat.reduceLT, Nat.reduceEqDiff, reduceCtorEq, ↓reduceIte, rqs]
  refine call_by (n1) (by rfl) (by simp) ?_
  simp (disch := omega) only [wk, tis, Int.reduceNe, Int.reduceEq, Int.reduceLT, Int.reduceLE, Int.reduceAdd, Int.reduceSub, Int.reduceNeg, Int.reduceMul, Int.reduceToNat, Nat.reduceSub, Nat.reduceMul, Nat.reduceLeDiff, Nat.reduceAdd, Nat.reduceLT, Nat.reduceEqDiff, reduceCtorEq, ↓reduceIte, rqs]
  refine call_by (n2) (by rfl) (by simp) ?_
  simp (disch := omega) only [wk, tis, Int.reduceNe, Int.reduceEq, Int.reduceLT, Int.reduceLE, Int.reduceAdd, Int.reduceSub, Int.reduceNeg, Int.reduceMul, Int.reduceToNat, Nat.reduceSub, Nat.reduceMul, Nat.reduceLeDiff, Nat.reduceAdd, Nat.reduceLT, Nat.reduceEqDiff, reduceCtorEq, ↓reduceIte, rqs]
  refine call_by (c) (by rfl) (by simp) ?_
  simp (disch := omega) only [wk, tis, Int.reduceNe, Int.reduceEq, Int.reduceLT, Int.reduceLE, Int.reduceAdd, Int.reduceSub, Int.reduceNeg, Int.reduceMul, Int.reduceToNat, Nat.reduceSub, Nat.reduceMul, Nat.reduceLeDiff, Nat.reduceAdd, Nat.reduceLT, Nat.reduceEqDiff, reduceCtorEq, ↓reduceIte, rqs]
  try rfl
theorem mShiftQ_of (p : List RQ) (a : RQ) (l : List RQ) (e : Int) (h : AC Tryz.prog 47 [cqw p, cqw [a, crat 1]] none [cqw l, ci e]) : AC Tryz.prog 24 [cqw p, cqq a] none [cqw l, ci e] := by
  have o := mone_ok'
  have p3 := rats_two a (crat 1)
  refine AC.by_walk (rs := [.tmp 4, .tmp 5]) ords Tryz.func24 (by rfl) (by rfl) (by rfl) (by rfl) (by rfl) ?_
  simp (disch := omega) only [wk, tis, Int.reduceNe, Int.reduceEq, Int.reduceLT, Int.reduceLE, Int.reduceAdd, Int.reduceSub, Int.reduceNeg, Int.reduceMul, Int.reduceToNat, Nat.reduceSub, Nat.reduceMul, Nat.reduceLeDiff, Nat.reduceAdd, Nat.reduceLT, Nat.reduceEqDiff, reduceCtorEq, ↓reduceIte, rqs]
  refine ⟨tmps_by (by kernel_rfl), ?_⟩
  refine call_by (o) (by first | rfl | (simp only [tocvs, tocv, p3]; rfl) | (simp only [tocvs, tocv, toboxes, tobox, updH_at, Nat.reduceEqDiff, ↓reduceIte, p3]; rfl)) (by simp) ?_
  simp (disch := omega) only [wk, tis, Int.reduceNe, Int.reduceEq, Int.reduceLT, Int.reduceLE, Int.reduceAdd, Int.reduceSub, Int.reduceNeg, Int.reduceMul, Int.reduceToNat, Nat.reduceSub, Nat.reduceMul, Nat.reduceLeDiff, Nat.reduceAdd, Nat.reduceLT, Nat.reduceEqDiff, reduceCtorEq, ↓reduceIte, rqs, p3]
  refine call_by (h) (by first | rfl | (simp only [tocvs, tocv, p3]; rfl) | (simp only [tocvs, tocv, toboxes, tobox, updH_at, Nat.reduceEqDiff, ↓reduceIte, p3]; rfl)) (by simp) ?_
  simp (disch := omega) only [wk, tis, Int.reduceNe, Int.reduceEq, Int.reduceLT, Int.reduceLE, Int.reduceAdd, Int.reduceSub, Int.reduceNeg, Int.reduceMul, Int.reduceToNat, Nat.reduceSub, Nat.reduceMul, Nat.reduceLeDiff, Nat.reduceAdd, Nat.reduceLT, Nat.reduceEqDiff, reduceCtorEq, ↓reduceIte, rqs, p3]
  first | exact log_by (by kernel_rfl) | refine ⟨log_by (by kernel_rfl), ?_⟩
  try rfl
theorem lay_zero : lay (fun i => [(0, 2), (2, 1)][i]?) [.bool false, .sl [], .sl []] ([1].zip [[.sl [[.int .u64 1]]]]) = some ((1 = 1 ∧ 2 + 1 ≤ 3) ∧ True, qrow (crat 0)) := by
  rw [crat_zero']; rfl
theorem mScaleQ_of (p : List RQ) (a : RQ) (l : List RQ) (e : Int) (h : AC Tryz.prog 47 [cqw p, cqw [crat 0, a]] none [cqw l, ci e]) : AC Tryz.prog 26 [cqw p, cqq a] none [cqw l, ci e] := by
  have p3 := rats_two (crat 0) a
  have z := lay_zero
  refine AC.by_walk (rs := [.tmp 4, .tmp 5]) ords Tryz.func26 (by rfl) (by rfl) (by rfl) (by rfl) (by rfl) ?_
  simp (disch := omega) only [wk, tis, Int.reduceNe, Int.reduceEq, Int.reduceLT, Int.reduceLE, Int.reduceAdd, Int.reduceSub, Int.reduceNeg, Int.reduceMul, Int.reduceToNat, Nat.reduceSub, Nat.reduceMul, Nat.reduceLeDiff, Nat.reduceAdd, Nat.reduceLT, Nat.reduceEqDiff, reduceCtorEq, ↓reduceIte, rqs, z, p3]
  refine call_by (h) (by first | rfl | (simp only [tocvs, tocv, z, p3]; rfl) | (simp only [tocvs, tocv, toboxes, tobox, updH_at, Nat.reduceEqDiff, ↓reduceIte, z, p3]; rfl)) (by simp) ?_
  simp (disch := omega) only [wk, tis, Int.reduceNe, Int.reduceEq, Int.reduceLT, Int.reduceLE, Int.reduceAdd, Int.reduceSub, Int.reduceNeg, Int.reduceMul, Int.reduceToNat, Nat.reduceSub, Nat.reduceMul, Nat.reduceLeDiff, Nat.reduceAdd, Nat.reduceLT, Nat.reduceEqDiff, reduceCtorEq, ↓reduceIte, rqs, z, p3]
  try rfl

/-! ### The document's -/
structure CQ (p : List RQ) (Q : List Rat) : Prop where
  hp : GQ 64 (2 ^ 20) p
  q : ∃ D, CB D (2 ^ 20) (2 ^ 30) Q
  w : ∀ k, k ≤ p.length → ∃ E, CB E (2 ^ 20) (2 ^ 30) (powq Q k)
  s : ∀ k, k ≤ p.length → ∃ E, CB E (2 ^ 20) (2 ^ 30) (csq (qvs p) Q k)
/-! ### Small ones -/
theorem hq_small {p q : List RQ} (hp : GQ 9 3 p) (hq : GQ 9 3 q) : HQ (trimq (qvs p)) (trimq (qvs q)) := by
  obtain ⟨D, hD⟩ := hq.qb.trimq.cb
  have hA := hp.qb.trimq
  have hl := hA.1
  exact ⟨by omega, fun k hk => by
    obtain ⟨E, hE⟩ := hoq_cb (N := 81) hD hA (by omega) (by omega) k (by have := Nat.mul_le_mul_right 9 (show k ≤ 9 by omega); omega)
    have h1 : k * 9 ≤ 9 * 9 := Nat.mul_le_mul_right _ (by omega)
    have h2 : k * (9 * 3 + 3 + 1 + 3 + 9 + 81 + 2) ≤ 9 * (9 * 3 + 3 + 1 + 3 + 9 + 81 + 2) := Nat.mul_le_mul_right _ (by omega)
    exact ⟨E, hE.mono (by omega) (by omega)⟩, ⟨D, hD.mono (by omega) (by omega)⟩, hA.mono (by omega) (by omega)⟩
end Go.Proofs.YtkkmiboodkilbaaGreat

namespace Go.Proofs.YtkkmiboodkilbaaGreat
open Go Go.Proofs Go.AL
set_option linter.unusedSimpArgs false
set_option linter.unusedVariables false

/-! ### A polynomial at a fraction of power series -/

/-- The sum of c_i * f^i * g^(n-1-i). -/
def hom : List Int → PS → PS → PS
  | [], _, _ => 0
  | c :: p, f, g => PS.C c * PS.pw g p.length + f * hom p f g

/-! ### In lists -/

def lhom : List Int → List Int → List Int → List Int
  | [], _, _ => []
  | c :: p, f, g => padd (pscale c (ppow g p.length)) (pmul f (lhom p f g))

theorem ps_lhom (p f g : List Int) : ps (lhom p f g) = hom p (ps f) (ps g) := by
  induction p with
  | nil => rw [lhom, hom, ps_nil]
  | cons c p ih => rw [lhom, hom, ps_padd, ps_pscale, ps_ppow, ps_pmul, ih]

theorem pb_lhom {N K : Nat} {f g : List Int} (hf : PB N K f) (hg : PB N K g) (hN : N < 2 ^ 20) : ∀ {p : List Int} {m : Nat}, m < 2 ^ 20 → PB m K p → PB (p.length * N + 1) (p.length * (K + 2) + K + 3) (lhom p f g)
  | [], _, _, _ => ⟨by simp [lhom], fun z hz => by simp [lhom] at hz⟩
  | c :: p, m, hm, hp => by
    have h1 : PB m K p := ⟨by have := hp.1; simp at this; omega, fun z hz => hp.2 z (List.mem_cons_of_mem _ hz)⟩
    have ih := pb_lhom hf hg hN hm h1
    have hc := hp.2 c (by simp)
    have hpl : p.length ≤ 2 ^ 20 := by have := hp.1; simp at this; omega
    have hW : ∀ x, x < 2 ^ 60 → x < W := fun x hx => by simp only [W]; omega
    have q := (hg.ppow (hW N (by omega)) p.length).pscale (c := c)
    have r := hf.pmul ih (hW N (by omega))
    have e1 : (p.length + 1) * N = p.length * N + N := Nat.succ_mul _ _
    have e2 : (p.length + 1) * (K + 2) = p.length * (K + 2) + (K + 2) := Nat.succ_mul _ _
    have e3 : p.length * (K + 2) = p.length * (K + 1) + p.length := by rw [show K + 2 = K + 1 + 1 from rfl, Nat.mul_succ]
    have hlen : (c :: p).length = p.length + 1 := rfl
    rw [hlen, e1, e2]
    exact (q.padd r).mono (by omega) (by omega)
end Go.Proofs.YtkkmiboodkilbaaGreat

namespace Go.Proofs.YtkkmiboodkilbaaGreat
open Go Go.Proofs Go.AL
set_option linter.unusedSimpArgs false
set_option linter.unusedVariables false

theorem mline_ok (a b : RI) (ha : Sz (2 ^ 35) a) (hb : Sz (2 ^ 35) b) : AC Tryz.prog 55 [cr a, cr b] none [cp [iv b, iv a]] := by
  refine AC.by_walk (rs := [.tmp 4]) ords Tryz.func55 (by rfl) (by rfl) (by rfl) (by rfl) (by rfl) ?_
  simp (disch := omega) only [wk, tis, Int.reduceNe, Int.reduceEq, Int.reduceLT, Int.reduceLE, Int.reduceAdd, Int.reduceSub, Int.reduceNeg, Int.reduceMul, Int.reduceToNat, Nat.reduceSub, Nat.reduceMul, Nat.reduceLeDiff, Nat.reduceAdd, Nat.reduceLT, Nat.reduceEqDiff, reduceCtorEq, ↓reduceIte]
  have := pnorm_ok [b, a] ⟨by simp, fun c hc => by
    rcases List.mem_cons.1 hc with rfl | hc
    · exact hb.mono (by omega)
    · rw [List.mem_singleton.1 hc]; exact ha.mono (by omega)⟩
  have e : pv [b, a] = [iv b, iv a] := rfl
  rw [e] at this
  refine call_by (this) (by rfl) (by simp) ?_
  simp (disch := omega) only [wk, tis, Int.reduceNe, Int.reduceEq, Int.reduceLT, Int.reduceLE, Int.reduceAdd, Int.reduceSub, Int.reduceNeg, Int.reduceMul, Int.reduceToNat, Nat.reduceSub, Nat.reduceMul, Nat.reduceLeDiff, Nat.reduceAdd, Nat.reduceLT, Nat.reduceEqDiff, reduceCtorEq, ↓reduceIte]

theorem cpoly_two (q : List Int) : ∀ r ∈ cpoly q, r.length = 2 := fun r hr => by
  obtain ⟨c, _, rfl⟩ := List.mem_map.1 hr
  rfl
theorem cpoly_len' (q : List Int) : (cpoly q).length = tz q := by simp [cpoly, raws, trimz_len]
theorem cpoly_getD (q : List Int) {i : Nat} (h : i < tz q) : (cpoly q).getD i [] = prow (canon (cf q i)) := by
  have hl : i < (trimz q).length := by rw [trimz_len]; exact h
  have e : cf q i = (trimz q)[i] := by rw [← cf_trimz]; simp [cf, List.getD, hl]
  rw [e]
  simp [cpoly, raws, List.getD, hl]
theorem drop_trimz (q : List Int) {i : Nat} (h : i < tz q) : (trimz q).drop i = cf q i :: (trimz q).drop (i + 1) := by
  have hl : i < (trimz q).length := by rw [trimz_len]; exact h
  have e : cf q i = (trimz q)[i] := by rw [← cf_trimz]; simp [cf, List.getD, hl]
  rw [e, List.drop_eq_getElem_cons hl]

theorem lh_bounds {m : Nat} (h : m ≤ 2 ^ 10) : m * 2 ^ 10 + 1 ≤ 2 ^ 20 + 1 ∧ m * (2 ^ 20 + 2) + 2 ^ 20 + 3 ≤ 2 ^ 32 := by
  constructor <;> omega

end Go.Proofs.YtkkmiboodkilbaaGreat

namespace Go.Proofs.YtkkmiboodkilbaaGreat
open Go Go.Proofs Go.AL
set_option linter.unusedSimpArgs false
set_option linter.unusedVariables false

theorem pb_two {b a : RI} {K : Nat} (hb : Sz K b) (ha : Sz K a) : PB (2 ^ 10) K [iv b, iv a] := ⟨by simp, fun z hz => by
  rcases List.mem_cons.1 hz with rfl | hz
  · exact zl_iv hb
  · rw [List.mem_singleton.1 hz]; exact zl_iv ha⟩

theorem moeb_step {out Q R : PS} {c : Int} {p : List Int} {n : Nat} (hn : p.length = n) (h : out = hom p Q R) : out * Q + PS.C c * PS.pw R n = hom (c :: p) Q R := by
  rw [hom, h, hn]
  ac_rfl

theorem mmoebius_ok (p : List RI) (a b c d : RI) (hp : RP (2 ^ 10) (2 ^ 20) p) (ha : Sz (2 ^ 20) a) (hb : Sz (2 ^ 20) b) (hc : Sz (2 ^ 20) c) (hd : Sz (2 ^ 20) d) :
    AC Tryz.prog 28 [cw p, cr a, cr b, cr c, cr d] none [cp (lhom (trimz (pv p)) [iv b, iv a] [iv d, iv c])] := by
  refine AC.by_walk (rs := [.tmp 10]) ords Tryz.func28 (by rfl) (by rfl) (by rfl) (by rfl) (by rfl) ?_
  simp (disch := omega) only [wk, tis, Int.reduceNe, Int.reduceEq, Int.reduceLT, Int.reduceLE, Int.reduceAdd, Int.reduceSub, Int.reduceNeg, Int.reduceMul, Int.reduceToNat, Nat.reduceSub, Nat.reduceMul, Nat.reduceLeDiff, Nat.reduceAdd, Nat.reduceLT, Nat.reduceEqDiff, reduceCtorEq, ↓reduceIte]
  refine call_by ((pnorm_ok p (hp.mono (by omega) (by omega)))) (by rfl) (by simp) ?_
  simp (disch := omega) only [wk, tis, Int.reduceNe, Int.reduceEq, Int.reduceLT, Int.reduceLE, Int.reduceAdd, Int.reduceSub, Int.reduceNeg, Int.reduceMul, Int.reduceToNat, Nat.reduceSub, Nat.reduceMul, Nat.reduceLeDiff, Nat.reduceAdd, Nat.reduceLT, Nat.reduceEqDiff, reduceCtorEq, ↓reduceIte]
  refine ⟨tmps_by (by kernel_rfl), ?_⟩
  refine call_by ((mline_ok a b (ha.mono (by omega)) (hb.mono (by omega)))) (by rfl) (by simp) ?_
  simp (disch := omega) only [wk, tis, Int.reduceNe, Int.reduceEq, Int.reduceLT, Int.reduceLE, Int.reduceAdd, Int.reduceSub, Int.reduceNeg, Int.reduceMul, Int.reduceToNat, Nat.reduceSub, Nat.reduceMul, Nat.reduceLeDiff, Nat.reduceAdd, Nat.reduceLT, Nat.reduceEqDiff, reduceCtorEq, ↓reduceIte]
  refine call_by ((mline_ok c d (hc.mono (by omega)) (hd.mono (by omega)))) (by rfl) (by simp) ?_
  simp (disch := omega) only [wk, tis, Int.reduceNe, Int.reduceEq, Int.reduceLT, Int.reduceLE, Int.reduceAdd, Int.reduceSub, Int.reduceNeg, Int.reduceMul, Int.reduceToNat, Nat.reduceSub, Nat.reduceMul, Nat.reduceLeDiff, Nat.reduceAdd, Nat.reduceLT, Nat.reduceEqDiff, reduceCtorEq, ↓reduceIte]
  first | exact log_by (by kernel_rfl) | refine ⟨log_by (by kernel_rfl), ?_⟩
  refine call_by ((zOf_ok 1 (by omega) (by omega))) (by rfl) (by simp) ?_
  simp (disch := omega) only [wk, tis, Int.reduceNe, Int.reduceEq, Int.reduceLT, Int.reduceLE, Int.reduceAdd, Int.reduceSub, Int.reduceNeg, Int.reduceMul, Int.reduceToNat, Nat.reduceSub, Nat.reduceMul, Nat.reduceLeDiff, Nat.reduceAdd, Nat.reduceLT, Nat.reduceEqDiff, reduceCtorEq, ↓reduceIte]
  refine call_by ((back_ok (cpoly (pv p)))) (by rfl) (by simp) ?_
  simp (disch := omega) only [wk, tis, Int.reduceNe, Int.reduceEq, Int.reduceLT, Int.reduceLE, Int.reduceAdd, Int.reduceSub, Int.reduceNeg, Int.reduceMul, Int.reduceToNat, Nat.reduceSub, Nat.reduceMul, Nat.reduceLeDiff, Nat.reduceAdd, Nat.reduceLT, Nat.reduceEqDiff, reduceCtorEq, ↓reduceIte]
  have hA := hp.pv.trimz
  have hlt : tz (pv p) ≤ 2 ^ 10 := by rw [← trimz_len]; exact hA.1
  have hdr : ∀ i, PB (2 ^ 10) (2 ^ 20) ((trimz (pv p)).drop i) := fun i => ⟨by rw [List.length_drop]; have := hA.1; omega, fun z hz => hA.2 z (List.mem_of_mem_drop hz)⟩
  have hQ := pb_two hb ha
  have hR := pb_two hd hc
  generalize [iv b, iv a] = Q at *
  generalize [iv d, iv c] = R at *
  have hB : ∀ i, PB (2 ^ 20 + 1) (2 ^ 32) (lhom ((trimz (pv p)).drop i) Q R) := fun i => by
    have h := pb_lhom hQ hR (by omega) (by omega) (hdr i)
    exact h.mono (lh_bounds (hdr i).1).1 (lh_bounds (hdr i).1).2
  have hP : ∀ k, k ≤ 2 ^ 10 → PB (2 ^ 20 + 1) (2 ^ 32) (ppow R k) := fun k hk => by
    exact (hR.ppow (by decide) k).mono (by omega) (by omega)
  have hcl := cpoly_len' (pv p)
  have e0 : cpoly (ppow R 0) = [prow (canon 1)] := rfl
  refine range_by (l := [.ip [.sl (cpoly (pv p))]]) (c := True ∧ True) (ms := []) (back_iter (rows := cpoly (pv p)) (cpoly_two _) (by omega)) (fun k H2 => k ≤ tz (pv p) ∧ H2 11 = HC.blk false 1 31 1 [[.sl (cpoly Q)]] ∧ H2 12 = HC.blk false 1 31 1 [[.sl (cpoly R)]] ∧
    H2 13 = HC.blk false 1 31 1 [[.sl (cpoly (lhom ((trimz (pv p)).drop (tz (pv p) - k)) Q R))]] ∧ H2 14 = HC.blk false 1 31 1 [[.sl (cpoly (ppow R k))]]) (by simp (disch := omega) only [wk, tis, Int.reduceNe, Int.reduceEq, Int.reduceLT, Int.reduceLE, Int.reduceAdd, Int.reduceSub, Int.reduceNeg, Int.reduceMul, Int.reduceToNat, Nat.reduceSub, Nat.reduceMul, Nat.reduceLeDiff, Nat.reduceAdd, Nat.reduceLT, Nat.reduceEqDiff, reduceCtorEq, ↓reduceIte]) (by rfl) ⟨trivial, trivial⟩ ?_ ?_ ?_
  · rw [List.drop_of_length_le (by rw [trimz_len]; omega)]
    refine ⟨by omega, by simp (disch := omega) only [wk, tis, Int.reduceNe, Int.reduceEq, Int.reduceLT, Int.reduceLE, Int.reduceAdd, Int.reduceSub, Int.reduceNeg, Int.reduceMul, Int.reduceToNat, Nat.reduceSub, Nat.reduceMul, Nat.reduceLeDiff, Nat.reduceAdd, Nat.reduceLT, Nat.reduceEqDiff, reduceCtorEq, ↓reduceIte], by simp (disch := omega) only [wk, tis, Int.reduceNe, Int.reduceEq, Int.reduceLT, Int.reduceLE, Int.reduceAdd, Int.reduceSub, Int.reduceNeg, Int.reduceMul, Int.reduceToNat, Nat.reduceSub, Nat.reduceMul, Nat.reduceLeDiff, Nat.reduceAdd, Nat.reduceLT, Nat.reduceEqDiff, reduceCtorEq, ↓reduceIte], by simp (disch := omega) only [wk, tis, Int.reduceNe, Int.reduceEq, Int.reduceLT, Int.reduceLE, Int.reduceAdd, Int.reduceSub, Int.reduceNeg, Int.reduceMul, Int.reduceToNat, Nat.reduceSub, Nat.reduceMul, Nat.reduceLeDiff, Nat.reduceAdd, Nat.reduceLT, Nat.reduceEqDiff, reduceCtorEq, ↓reduceIte, show cpoly (lhom [] Q R) = [] from rfl], by simp (disch := omega) only [wk, tis, Int.reduceNe, Int.reduceEq, Int.reduceLT, Int.reduceLE, Int.reduceAdd, Int.reduceSub, Int.reduceNeg, Int.reduceMul, Int.reduceToNat, Nat.reduceSub, Nat.reduceMul, Nat.reduceLeDiff, Nat.reduceAdd, Nat.reduceLT, Nat.reduceEqDiff, reduceCtorEq, ↓reduceIte, e0]⟩
  · rintro k H2 hk ⟨hk', h11, h12, h13, h14⟩
    rw [hcl] at hk
    rw [hcl, cpoly_getD _ (by omega)]
    simp (disch := omega) only [wk, tis, Int.reduceNe, Int.reduceEq, Int.reduceLT, Int.reduceLE, Int.reduceAdd, Int.reduceSub, Int.reduceNeg, Int.reduceMul, Int.reduceToNat, Nat.reduceSub, Nat.reduceMul, Nat.reduceLeDiff, Nat.reduceAdd, Nat.reduceLT, Nat.reduceEqDiff, reduceCtorEq, ↓reduceIte, h11, h12, h13, h14]
    refine ⟨tmps_by (by kernel_rfl), ?_⟩
    obtain ⟨i, hi⟩ : ∃ i, i = tz (pv p) - 1 - k := ⟨_, rfl⟩
    have hi1 : tz (pv p) - k = i + 1 := by omega
    have hi2 : tz (pv p) - (k + 1) = i := by omega
    have hdi := drop_trimz (pv p) (i := i) (by omega)
    rw [hi1, ← hi]
    rw [hi1] at h13
    have hBi := hB (i + 1)
    have hPk := hP k (by omega)
    have eo := ps_lhom ((trimz (pv p)).drop i) Q R
    rw [hdi] at eo
    have eo1 := ps_lhom ((trimz (pv p)).drop (i + 1)) Q R
    have hlk : ((trimz (pv p)).drop (i + 1)).length = k := by rw [List.length_drop, trimz_len]; omega
    have ep := ps_ppow R k
    have ep1 : cpoly (pmul (ppow R k) R) = cpoly (ppow R (k + 1)) := cpoly_ext (ps_eq (by rw [ps_pmul, ps_ppow, ps_ppow, PS.pw]))
    generalize ppow R k = pw at hPk ep ep1 h14 ⊢
    generalize lhom ((trimz (pv p)).drop (i + 1)) Q R = out at hBi eo1 h13 ⊢
    have zc := hp.pv.cf i
    have m := pmul_g (a := cn out) (b := cn Q) (rp_cn (hBi.mono (by omega) (by omega))) (rp_cn (hQ.mono (by omega) (by omega))) (ps_cn out) (ps_cn Q)
    refine call_by (m) (by first | rfl | (simp only [tocvs, tocv, h11, h12, h13, h14]; rfl) | (simp only [tocvs, tocv, toboxes, tobox, updH_at, Nat.reduceEqDiff, ↓reduceIte, h11, h12, h13, h14]; rfl)) (by simp) ?_
    simp (disch := omega) only [wk, tis, Int.reduceNe, Int.reduceEq, Int.reduceLT, Int.reduceLE, Int.reduceAdd, Int.reduceSub, Int.reduceNeg, Int.reduceMul, Int.reduceToNat, Nat.reduceSub, Nat.reduceMul, Nat.reduceLeDiff, Nat.reduceAdd, Nat.reduceLT, Nat.reduceEqDiff, reduceCtorEq, ↓reduceIte, h11, h12, h13, h14]
    have t := pscale_g (a := cn pw) (c := canon (cf (pv p) i)) (rp_cn (hPk.mono (by omega) (by omega))) ((sz_canon _).mono (by omega)) (ps_cn pw)
    rw [iv_canon] at t
    refine call_by (t) (by first | rfl | (simp only [tocvs, tocv, h11, h12, h13, h14]; rfl) | (simp only [tocvs, tocv, toboxes, tobox, updH_at, Nat.reduceEqDiff, ↓reduceIte, h11, h12, h13, h14]; rfl)) (by simp) ?_
    simp (disch := omega) only [wk, tis, Int.reduceNe, Int.reduceEq, Int.reduceLT, Int.reduceLE, Int.reduceAdd, Int.reduceSub, Int.reduceNeg, Int.reduceMul, Int.reduceToNat, Nat.reduceSub, Nat.reduceMul, Nat.reduceLeDiff, Nat.reduceAdd, Nat.reduceLT, Nat.reduceEqDiff, reduceCtorEq, ↓reduceIte, h11, h12, h13, h14]
    have hm := hBi.pmul hQ (by decide)
    have ht := hPk.pscale (c := cf (pv p) i)
    have s := padd_g (a := cn (pmul out Q)) (b := cn (pscale (cf (pv p) i) pw)) (rp_cn (hm.mono (by omega) (by omega))) (rp_cn (ht.mono (by omega) (by omega))) (ps_cn _) (ps_cn _)
    refine call_by (s) (by first | rfl | (simp only [tocvs, tocv, h11, h12, h13, h14]; rfl) | (simp only [tocvs, tocv, toboxes, tobox, updH_at, Nat.reduceEqDiff, ↓reduceIte, h11, h12, h13, h14]; rfl)) (by simp) ?_
    simp (disch := omega) only [wk, tis, Int.reduceNe, Int.reduceEq, Int.reduceLT, Int.reduceLE, Int.reduceAdd, Int.reduceSub, Int.reduceNeg, Int.reduceMul, Int.reduceToNat, Nat.reduceSub, Nat.reduceMul, Nat.reduceLeDiff, Nat.reduceAdd, Nat.reduceLT, Nat.reduceEqDiff, reduceCtorEq, ↓reduceIte, h11, h12, h13, h14]
    first | exact log_by (by kernel_rfl) | refine ⟨log_by (by kernel_rfl), ?_⟩
    have u := pmul_g (a := cn pw) (b := cn R) (rp_cn (hPk.mono (by omega) (by omega))) (rp_cn (hR.mono (by omega) (by omega))) (ps_cn pw) (ps_cn R)
    refine call_by (u) (by first | rfl | (simp only [tocvs, tocv, h11, h12, h13, h14]; rfl) | (simp only [tocvs, tocv, toboxes, tobox, updH_at, Nat.reduceEqDiff, ↓reduceIte, h11, h12, h13, h14]; rfl)) (by simp) ?_
    simp (disch := omega) only [wk, tis, Int.reduceNe, Int.reduceEq, Int.reduceLT, Int.reduceLE, Int.reduceAdd, Int.reduceSub, Int.reduceNeg, Int.reduceMul, Int.reduceToNat, Nat.reduceSub, Nat.reduceMul, Nat.reduceLeDiff, Nat.reduceAdd, Nat.reduceLT, Nat.reduceEqDiff, reduceCtorEq, ↓reduceIte, h11, h12, h13, h14]
    refine ⟨by omega, ?_, by rw [ep1]⟩
    rw [hi2, cpoly_ext (ps_eq (p := padd (pmul out Q) (pscale (cf (pv p) i) pw)) (q := lhom ((trimz (pv p)).drop i) Q R) ?_)]
    rw [hdi, eo, ps_padd, ps_pmul, ps_pscale, ep]
    exact moeb_step hlk eo1
  · rintro H2 ⟨hk', h11, h12, h13, h14⟩
    rw [hcl, Nat.sub_self, List.drop_zero] at h13
    simp (disch := omega) only [wk, tis, Int.reduceNe, Int.reduceEq, Int.reduceLT, Int.reduceLE, Int.reduceAdd, Int.reduceSub, Int.reduceNeg, Int.reduceMul, Int.reduceToNat, Nat.reduceSub, Nat.reduceMul, Nat.reduceLeDiff, Nat.reduceAdd, Nat.reduceLT, Nat.reduceEqDiff, reduceCtorEq, ↓reduceIte, h13]
    have hB0 := hB 0
    rw [List.drop_zero] at hB0
    have m := pnorm_g (a := cn (lhom (trimz (pv p)) Q R)) (rp_cn (hB0.mono (by omega) (by omega))) (ps_cn _)
    refine call_by (m) (by first | rfl | (simp only [tocvs, tocv, h13]; rfl) | (simp only [tocvs, tocv, toboxes, tobox, updH_at, Nat.reduceEqDiff, ↓reduceIte, h13]; rfl)) (by simp) ?_
    simp (disch := omega) only [wk, tis, Int.reduceNe, Int.reduceEq, Int.reduceLT, Int.reduceLE, Int.reduceAdd, Int.reduceSub, Int.reduceNeg, Int.reduceMul, Int.reduceToNat, Nat.reduceSub, Nat.reduceMul, Nat.reduceLeDiff, Nat.reduceAdd, Nat.reduceLT, Nat.reduceEqDiff, reduceCtorEq, ↓reduceIte, h13]
end Go.Proofs.YtkkmiboodkilbaaGreat

namespace Go.Proofs.YtkkmiboodkilbaaGreat
open Go Go.Proofs Go.AL
set_option linter.unusedSimpArgs false
set_option linter.unusedVariables false

theorem qcmp_ok (a b : RQ) (ha : SzQ (2 ^ 34) a) (hb : SzQ (2 ^ 34) b) (h0 : nv a.2 ≠ 0) (h1 : nv b.2 ≠ 0) : AC Tryz.prog 21 [cqq a, cqq b] none [ci (cmpZ (iv a.1 * nv b.2) (iv b.1 * nv a.2)), ci 0] := by
  have c := qchecks_two a b (ha.mono (by omega)) (hb.mono (by omega)) h0 h1
  have t1 := qtimes_ok a.1 b.2 (ha.1.mono (by omega)) ⟨Nat.le_trans hb.2.1 (by omega), hb.2.2⟩
  have t2 := qtimes_ok b.1 a.2 (hb.1.mono (by omega)) ⟨Nat.le_trans ha.2.1 (by omega), ha.2.2⟩
  have y1 := zl_iv ha.1
  have y2 := zl_iv hb.1
  have y3 := nt_zl ha.2
  have y4 := nt_zl hb.2
  have z1 := zl_mul (iv a.1) (nv b.2 : Nat)
  have z2 := zl_mul (iv b.1) (nv a.2 : Nat)
  have m := zcmp_ok (canon (iv a.1 * (nv b.2 : Nat))) (canon (iv b.1 * (nv a.2 : Nat))) ((sz_canon _).mono (by omega)) ((sz_canon _).mono (by omega))
  rw [iv_canon, iv_canon] at m
  refine AC.by_walk (rs := [.tmp 4, .tmp 5]) ords Tryz.func21 (by rfl) (by rfl) (by rfl) (by rfl) (by rfl) ?_
  simp (disch := omega) only [wk, tis, Int.reduceNe, Int.reduceEq, Int.reduceLT, Int.reduceLE, Int.reduceAdd, Int.reduceSub, Int.reduceNeg, Int.reduceMul, Int.reduceToNat, Nat.reduceSub, Nat.reduceMul, Nat.reduceLeDiff, Nat.reduceAdd, Nat.reduceLT, Nat.reduceEqDiff, reduceCtorEq, ↓reduceIte, rqs, rats_two]
  refine call_by (c) (by first | rfl | (simp only [tocvs, tocv, rats_two]; rfl) | (simp only [tocvs, tocv, toboxes, tobox, updH_at, Nat.reduceEqDiff, ↓reduceIte, rats_two]; rfl)) (by simp) ?_
  simp (disch := omega) only [wk, tis, Int.reduceNe, Int.reduceEq, Int.reduceLT, Int.reduceLE, Int.reduceAdd, Int.reduceSub, Int.reduceNeg, Int.reduceMul, Int.reduceToNat, Nat.reduceSub, Nat.reduceMul, Nat.reduceLeDiff, Nat.reduceAdd, Nat.reduceLT, Nat.reduceEqDiff, reduceCtorEq, ↓reduceIte, rqs, rats_two]
  refine ⟨tmps_by (by kernel_rfl), ?_⟩
  refine call_by (t1) (by rfl) (by simp) ?_
  simp (disch := omega) only [wk, tis, Int.reduceNe, Int.reduceEq, Int.reduceLT, Int.reduceLE, Int.reduceAdd, Int.reduceSub, Int.reduceNeg, Int.reduceMul, Int.reduceToNat, Nat.reduceSub, Nat.reduceMul, Nat.reduceLeDiff, Nat.reduceAdd, Nat.reduceLT, Nat.reduceEqDiff, reduceCtorEq, ↓reduceIte, rqs]
  refine call_by (t2) (by rfl) (by simp) ?_
  simp (disch := omega) only [wk, tis, Int.reduceNe, Int.reduceEq, Int.reduceLT, Int.reduceLE, Int.reduceAdd, Int.reduceSub, Int.reduceNeg, Int.reduceMul, Int.reduceToNat, Nat.reduceSub, Nat.reduceMul, Nat.reduceLeDiff, Nat.reduceAdd, Nat.reduceLT, Nat.reduceEqDiff, reduceCtorEq, ↓reduceIte, rqs]
  refine call_by (m) (by rfl) (by simp) ?_
  simp (disch := omega) only [wk, tis, Int.reduceNe, Int.reduceEq, Int.reduceLT, Int.reduceLE, Int.reduceAdd, Int.reduceSub, Int.reduceNeg, Int.reduceMul, Int.reduceToNat, Nat.reduceSub, Nat.reduceMul, Nat.reduceLeDiff, Nat.reduceAdd, Nat.reduceLT, Nat.reduceEqDiff, reduceCtorEq, ↓reduceIte, rqs]
  first | exact log_by (by kernel_rfl) | refine ⟨log_by (by kernel_rfl), ?_⟩
  try rfl
theorem snone_ok (p : List RI) (h : RP (2 ^ 40) (2 ^ 40) p) : AC Tryz.prog 40 [cw p] none [cb (decide (tz (pv p) = 0))] := by
  have d := pdeg_ok p h
  refine AC.by_walk (rs := [.tmp 2]) ords Tryz.func40 (by rfl) (by rfl) (by rfl) (by rfl) (by rfl) ?_
  simp (disch := omega) only [wk, tis, Int.reduceNe, Int.reduceEq, Int.reduceLT, Int.reduceLE, Int.reduceAdd, Int.reduceSub, Int.reduceNeg, Int.reduceMul, Int.reduceToNat, Nat.reduceSub, Nat.reduceMul, Nat.reduceLeDiff, Nat.reduceAdd, Nat.reduceLT, Nat.reduceEqDiff, reduceCtorEq, ↓reduceIte, rqs]
  refine call_by (d) (by rfl) (by simp) ?_
  simp (disch := omega) only [wk, tis, Int.reduceNe, Int.reduceEq, Int.reduceLT, Int.reduceLE, Int.reduceAdd, Int.reduceSub, Int.reduceNeg, Int.reduceMul, Int.reduceToNat, Nat.reduceSub, Nat.reduceMul, Nat.reduceLeDiff, Nat.reduceAdd, Nat.reduceLT, Nat.reduceEqDiff, reduceCtorEq, ↓reduceIte, rqs]
  exact decide_eq_decide.mpr (by omega)
theorem sask_ok (p : List RI) (l : List RQ) (h : RP (2 ^ 40) (2 ^ 40) p) (hl : GQ (2 ^ 40) (2 ^ 40) l) (h0 : tz (pv p) ≠ 0) : AC Tryz.prog 20 [cw p, cqw l] none [ci 0] := by
  have n := snone_ok p h
  rw [decide_eq_false h0] at n
  have hll := hl.1
  refine AC.by_walk (rs := [.tmp 4]) ords Tryz.func20 (by rfl) (by rfl) (by rfl) (by rfl) (by rfl) ?_
  simp (disch := omega) only [wk, tis, Int.reduceNe, Int.reduceEq, Int.reduceLT, Int.reduceLE, Int.reduceAdd, Int.reduceSub, Int.reduceNeg, Int.reduceMul, Int.reduceToNat, Nat.reduceSub, Nat.reduceMul, Nat.reduceLeDiff, Nat.reduceAdd, Nat.reduceLT, Nat.reduceEqDiff, reduceCtorEq, ↓reduceIte, rqs]
  refine aloop_by (fun f H => ∃ (i : Nat), i ≤ l.length ∧ f 10 = .iv (.int .i64 i) ∧ f 9 = .iv (.int .i64 l.length) ∧ f 8 = .iv (.sl (rats l)) ∧ f 0 = .iv (.sl (raws p))) (fun f H => (l.length - intAt f 10).toNat) ?_ ?_
  · refine ⟨0, by omega, ?_⟩
    simp (disch := omega) only [wk, tis, Int.reduceNe, Int.reduceEq, Int.reduceLT, Int.reduceLE, Int.reduceAdd, Int.reduceSub, Int.reduceNeg, Int.reduceMul, Int.reduceToNat, Nat.reduceSub, Nat.reduceMul, Nat.reduceLeDiff, Nat.reduceAdd, Nat.reduceLT, Nat.reduceEqDiff, reduceCtorEq, ↓reduceIte, rqs]
  rintro f H ⟨i, hi, hF⟩
  rw [intAt_of hF.1]
  simp (disch := omega) only [wk, tis, Int.reduceNe, Int.reduceEq, Int.reduceLT, Int.reduceLE, Int.reduceAdd, Int.reduceSub, Int.reduceNeg, Int.reduceMul, Int.reduceToNat, Nat.reduceSub, Nat.reduceMul, Nat.reduceLeDiff, Nat.reduceAdd, Nat.reduceLT, Nat.reduceEqDiff, reduceCtorEq, ↓reduceIte, rqs, hF]
  refine if_by (fun hlt => ?_) (fun hlt => ?_)
  · have hlt' : i < l.length := by omega
    have c := qcheck_good (l.getD i q0) ⟨Nat.le_trans (hl.get hlt').2.1 (by omega), (hl.get hlt').2.2⟩ (hl.den hlt')
    simp (disch := omega) only [wk, tis, Int.reduceNe, Int.reduceEq, Int.reduceLT, Int.reduceLE, Int.reduceAdd, Int.reduceSub, Int.reduceNeg, Int.reduceMul, Int.reduceToNat, Nat.reduceSub, Nat.reduceMul, Nat.reduceLeDiff, Nat.reduceAdd, Nat.reduceLT, Nat.reduceEqDiff, reduceCtorEq, ↓reduceIte, rqs, hF]
    refine call_by (c) (by first | rfl | (simp only [tocvs, tocv, hF]; rfl) | (simp only [tocvs, tocv, toboxes, tobox, updH_at, Nat.reduceEqDiff, ↓reduceIte, hF]; rfl)) (by simp) ?_
    simp (disch := omega) only [wk, tis, Int.reduceNe, Int.reduceEq, Int.reduceLT, Int.reduceLE, Int.reduceAdd, Int.reduceSub, Int.reduceNeg, Int.reduceMul, Int.reduceToNat, Nat.reduceSub, Nat.reduceMul, Nat.reduceLeDiff, Nat.reduceAdd, Nat.reduceLT, Nat.reduceEqDiff, reduceCtorEq, ↓reduceIte, rqs, hF]
    refine ⟨⟨i + 1, by omega, ?_⟩, by omega⟩
    (repeat' apply And.intro) <;> first | rfl | omega
  · simp (disch := omega) only [wk, tis, Int.reduceNe, Int.reduceEq, Int.reduceLT, Int.reduceLE, Int.reduceAdd, Int.reduceSub, Int.reduceNeg, Int.reduceMul, Int.reduceToNat, Nat.reduceSub, Nat.reduceMul, Nat.reduceLeDiff, Nat.reduceAdd, Nat.reduceLT, Nat.reduceEqDiff, reduceCtorEq, ↓reduceIte, rqs, hF]
    refine call_by (n) (by first | rfl | (simp only [tocvs, tocv, hF]; rfl) | (simp only [tocvs, tocv, toboxes, tobox, updH_at, Nat.reduceEqDiff, ↓reduceIte, hF]; rfl)) (by simp) ?_
    simp (disch := omega) only [wk, tis, Int.reduceNe, Int.reduceEq, Int.reduceLT, Int.reduceLE, Int.reduceAdd, Int.reduceSub, Int.reduceNeg, Int.reduceMul, Int.reduceToNat, Nat.reduceSub, Nat.reduceMul, Nat.reduceLeDiff, Nat.reduceAdd, Nat.reduceLT, Nat.reduceEqDiff, reduceCtorEq, ↓reduceIte, rqs, hF]
    try rfl

/-- The row that the program reckons. -/
def rowz (Z : List Int) (n : Nat) (D : Int) : List Int := (List.range (n + 1)).map fun i => cf Z i / ((gz (Z ++ [D]) : Nat) : Int)
theorem rowz_len (Z : List Int) (n : Nat) (D : Int) : (rowz Z n D).length = n + 1 := by simp [rowz]
theorem cf_rowz {Z : List Int} {n i : Nat} {D : Int} (h : i < n + 1) : cf (rowz Z n D) i = cf Z i / ((gz (Z ++ [D]) : Nat) : Int) := by
  rw [rowz, cf, List.getD, List.getElem?_map, List.getElem?_range h]; rfl
theorem gz_app_dvd (Z : List Int) (D : Int) : (∀ i, ((gz (Z ++ [D]) : Nat) : Int) ∣ cf Z i) ∧ ((gz (Z ++ [D]) : Nat) : Int) ∣ D := by
  refine ⟨fun i => ?_, ?_⟩
  · by_cases h : i < Z.length
    · have := gz_dvd (Z ++ [D]) i
      rwa [show cf (Z ++ [D]) i = cf Z i by simp [cf, List.getD, List.getElem?_append_left h]] at this
    · rw [cf_ge (by omega)]; exact Int.dvd_zero _
  · have := gz_dvd (Z ++ [D]) Z.length
    rwa [show cf (Z ++ [D]) Z.length = D by simp [cf, List.getD]] at this
theorem sleast_ok (p : List RI) (n : Nat) (d : RI) (hp : RP (2 ^ 30) (2 ^ 35) p) (hd : Sz (2 ^ 35) d) (h0 : iv d ≠ 0) (hn : n ≤ 2 ^ 30) : AC Tryz.prog 30 [cw p, ci n, cr d] none [cw ((rowz (pv p) n (iv d)).map canon)] := by
  have hpl := hp.1
  have hpd : RP (2 ^ 40) (2 ^ 38) (p ++ [d]) := ⟨by rw [List.length_append, List.length_singleton]; omega, fun c hc => by
    rcases List.mem_append.1 hc with hc | hc
    · exact (hp.2 c hc).mono (by omega)
    · rw [List.mem_singleton.1 hc]; exact hd.mono (by omega)⟩
  have g := zgcd_ok (p ++ [d]) hpd
  have epv : pv (p ++ [d]) = pv p ++ [iv d] := by simp [pv]
  have hgl := gz_len (p := p ++ [d]) hpd
  rw [epv] at g hgl
  obtain ⟨hdv, hdd⟩ := gz_app_dvd (pv p) (iv d)
  have hg0 : gz (pv p ++ [iv d]) ≠ 0 := fun e => h0 (by rw [e] at hdd; exact Int.zero_dvd.mp hdd)
  have w := znat_ok false (gz (pv p ++ [iv d])) (by omega)
  rw [sgf] at w
  have hrl := rowz_len (pv p) n (iv d)
  have e1 : (n : Int) + 1 = ((n + 1 : Nat) : Int) := by omega
  have hsn : raws p ++ [prow d] = raws (p ++ [d]) := by simp [raws]
  refine AC.by_walk (rs := [.tmp 6]) ords Tryz.func30 (by rfl) (by rfl) (by rfl) (by rfl) (by rfl) ?_
  simp (disch := omega) only [wk, tis, Int.reduceNe, Int.reduceEq, Int.reduceLT, Int.reduceLE, Int.reduceAdd, Int.reduceSub, Int.reduceNeg, Int.reduceMul, Int.reduceToNat, Nat.reduceSub, Nat.reduceMul, Nat.reduceLeDiff, Nat.reduceAdd, Nat.reduceLT, Nat.reduceEqDiff, reduceCtorEq, ↓reduceIte, rqs]
  refine ⟨tmps_by (by kernel_rfl), ?_⟩
  refine call_by (g) (by first | rfl | (simp only [tocvs, tocv, hsn]; rfl) | (simp only [tocvs, tocv, toboxes, tobox, updH_at, Nat.reduceEqDiff, ↓reduceIte, hsn]; rfl)) (by simp) ?_
  simp (disch := omega) only [wk, tis, Int.reduceNe, Int.reduceEq, Int.reduceLT, Int.reduceLE, Int.reduceAdd, Int.reduceSub, Int.reduceNeg, Int.reduceMul, Int.reduceToNat, Nat.reduceSub, Nat.reduceMul, Nat.reduceLeDiff, Nat.reduceAdd, Nat.reduceLT, Nat.reduceEqDiff, reduceCtorEq, ↓reduceIte, rqs, hsn]
  refine call_by (w) (by first | rfl | (simp only [tocvs, tocv, hsn]; rfl) | (simp only [tocvs, tocv, toboxes, tobox, updH_at, Nat.reduceEqDiff, ↓reduceIte, hsn]; rfl)) (by simp) ?_
  simp (disch := omega) only [wk, tis, Int.reduceNe, Int.reduceEq, Int.reduceLT, Int.reduceLE, Int.reduceAdd, Int.reduceSub, Int.reduceNeg, Int.reduceMul, Int.reduceToNat, Nat.reduceSub, Nat.reduceMul, Nat.reduceLeDiff, Nat.reduceAdd, Nat.reduceLT, Nat.reduceEqDiff, reduceCtorEq, ↓reduceIte, rqs, hsn]
  first | exact log_by (by kernel_rfl) | refine ⟨log_by (by kernel_rfl), ?_⟩
  refine aloop_by (fun f H => ∃ (i s7 st : Nat), i ≤ n + 1 ∧ f 25 = .iv (.int .i64 i) ∧ f 24 = .iv (.int .i64 (n + 1 : Nat)) ∧ f 0 = .iv (.sl (raws p)) ∧ f 7 = .hp 7 s7 0 0 ∧ H 7 = .blk false s7 36 2 [prow (canon ((gz (pv p ++ [iv d]) : Nat) : Int))] ∧ f 8 = .hs 22 st ∧ H 22 = .blk false st 36 2 (raws (((rowz (pv p) n (iv d)).take i).map canon))) (fun f H => ((n + 1 : Nat) - intAt f 25).toNat) ?_ ?_
  · refine ⟨0, 1, 1, by omega, ?_⟩
    simp (disch := omega) only [wk, tis, Int.reduceNe, Int.reduceEq, Int.reduceLT, Int.reduceLE, Int.reduceAdd, Int.reduceSub, Int.reduceNeg, Int.reduceMul, Int.reduceToNat, Nat.reduceSub, Nat.reduceMul, Nat.reduceLeDiff, Nat.reduceAdd, Nat.reduceLT, Nat.reduceEqDiff, reduceCtorEq, ↓reduceIte, rqs, List.take_zero, List.map_nil, e1, Int.toNat_zero, List.replicate_zero, show raws [] = [] from rfl]
  rintro f H ⟨i, s7, st, hi, hF⟩
  rw [intAt_of hF.1]
  simp (disch := omega) only [wk, tis, Int.reduceNe, Int.reduceEq, Int.reduceLT, Int.reduceLE, Int.reduceAdd, Int.reduceSub, Int.reduceNeg, Int.reduceMul, Int.reduceToNat, Nat.reduceSub, Nat.reduceMul, Nat.reduceLeDiff, Nat.reduceAdd, Nat.reduceLT, Nat.reduceEqDiff, reduceCtorEq, ↓reduceIte, rqs, hF]
  refine if_by (fun hlt => ?_) (fun hlt => ?_)
  · have hlt' : i < n + 1 := by omega
    have hq : (((rowz (pv p) n (iv d)).take i).map canon).length = i := by rw [List.length_map, List.length_take]; omega
    have c := pcoef_ok p i (hp.mono (by omega) (by omega))
    rw [if_neg (by omega), Int.toNat_natCast] at c
    have zc := hp.pv.cf i
    have zg : zl ((gz (pv p ++ [iv d]) : Nat) : Int) ≤ 2 ^ 38 := by rw [zl_nat]; exact hgl
    have x := zexact_ok (canon (cf (pv p) i)) (canon ((gz (pv p ++ [iv d]) : Nat) : Int)) ((sz_canon _).mono (by omega)) ((sz_canon _).mono zg) (by rw [iv_canon]; omega) (by rw [iv_canon, iv_canon]; exact hdv i)
    rw [iv_canon, iv_canon, ← cf_rowz hlt'] at x
    have et := takez_snoc (q := rowz (pv p) n (iv d)) (i := i) (by omega)
    simp (disch := omega) only [wk, tis, Int.reduceNe, Int.reduceEq, Int.reduceLT, Int.reduceLE, Int.reduceAdd, Int.reduceSub, Int.reduceNeg, Int.reduceMul, Int.reduceToNat, Nat.reduceSub, Nat.reduceMul, Nat.reduceLeDiff, Nat.reduceAdd, Nat.reduceLT, Nat.reduceEqDiff, reduceCtorEq, ↓reduceIte, rqs, hF, hq]
    refine ⟨tmps_by (by kernel_rfl), ?_⟩
    refine call_by (c) (by first | rfl | (simp only [tocvs, tocv, hF, hq]; rfl) | (simp only [tocvs, tocv, toboxes, tobox, updH_at, Nat.reduceEqDiff, ↓reduceIte, hF, hq]; rfl)) (by simp) ?_
    simp (disch := omega) only [wk, tis, Int.reduceNe, Int.reduceEq, Int.reduceLT, Int.reduceLE, Int.reduceAdd, Int.reduceSub, Int.reduceNeg, Int.reduceMul, Int.reduceToNat, Nat.reduceSub, Nat.reduceMul, Nat.reduceLeDiff, Nat.reduceAdd, Nat.reduceLT, Nat.reduceEqDiff, reduceCtorEq, ↓reduceIte, rqs, hF, hq]
    refine call_by (x) (by first | rfl | (simp only [tocvs, tocv, hF, hq]; rfl) | (simp only [tocvs, tocv, toboxes, tobox, updH_at, Nat.reduceEqDiff, ↓reduceIte, hF, hq]; rfl)) (by simp) ?_
    simp (disch := omega) only [wk, tis, Int.reduceNe, Int.reduceEq, Int.reduceLT, Int.reduceLE, Int.reduceAdd, Int.reduceSub, Int.reduceNeg, Int.reduceMul, Int.reduceToNat, Nat.reduceSub, Nat.reduceMul, Nat.reduceLeDiff, Nat.reduceAdd, Nat.reduceLT, Nat.reduceEqDiff, reduceCtorEq, ↓reduceIte, rqs, hF, hq]
    first | exact log_by (by kernel_rfl) | refine ⟨log_by (by kernel_rfl), ?_⟩
    refine ⟨⟨i + 1, s7, st + 1, by omega, ?_⟩, by omega⟩
    rw [et, List.map_append]
    (repeat' apply And.intro) <;> first | rfl | omega
  · obtain rfl : i = n + 1 := by omega
    rw [List.take_of_length_le (by omega)] at hF
    simp (disch := omega) only [wk, tis, Int.reduceNe, Int.reduceEq, Int.reduceLT, Int.reduceLE, Int.reduceAdd, Int.reduceSub, Int.reduceNeg, Int.reduceMul, Int.reduceToNat, Nat.reduceSub, Nat.reduceMul, Nat.reduceLeDiff, Nat.reduceAdd, Nat.reduceLT, Nat.reduceEqDiff, reduceCtorEq, ↓reduceIte, rqs, hF]
    try rfl

/-- A row, out of what its steps answer. -/
theorem srow_ok (p : List RI) (a b : RQ) (n : Nat) (w : Rat) (l0 l1 l2 : List RQ) (D : Nat) (Z S R : List RI)
    (h1 : AC Tryz.prog 20 [cw p, cqw [a, b]] none [ci 0])
    (h2 : AC Tryz.prog 21 [cqq a, cqq b] none [ci (-1), ci 0])
    (h3 : AC Tryz.prog 22 [cw p] none [ci n])
    (h4 : AC Tryz.prog 23 [cqq b, cqq a] none [cqz w, ci 0])
    (h5 : AC Tryz.prog 25 [cw p] none [cqw l0])
    (h6 : AC Tryz.prog 24 [cqw l0, cqq a] none [cqw l1, ci 0])
    (h7 : AC Tryz.prog 26 [cqw l1, cqz w] none [cqw l2, ci 0])
    (h8 : AC Tryz.prog 27 [cqw l2] none [cl (wd D), cw Z, ci 0])
    (h9 : AC Tryz.prog 28 [cw Z, cz 1, cz 0, cz 1, cz 1] none [cw S])
    (h10 : AC Tryz.prog 30 [cw S, ci n, cz D] none [cw R])
    (hD : (wd D).length ≤ 2 ^ 40) : AC Tryz.prog 14 [cw p, cqq a, cqq b] none [cw R, ci 0] := by
  have o1 := zOf_ok 1 (by omega) (by omega)
  have o0 := zOf_ok 0 (by omega) (by omega)
  have nd := znat_ok false D hD
  rw [sgf] at nd
  refine AC.by_walk (rs := [.tmp 6, .tmp 7]) ords Tryz.func14 (by rfl) (by rfl) (by rfl) (by rfl) (by rfl) ?_
  simp (disch := omega) only [wk, tis, Int.reduceNe, Int.reduceEq, Int.reduceLT, Int.reduceLE, Int.reduceAdd, Int.reduceSub, Int.reduceNeg, Int.reduceMul, Int.reduceToNat, Nat.reduceSub, Nat.reduceMul, Nat.reduceLeDiff, Nat.reduceAdd, Nat.reduceLT, Nat.reduceEqDiff, reduceCtorEq, ↓reduceIte, rqs, rats_two]
  refine call_by (h1) (by first | rfl | (simp only [tocvs, tocv, rats_two]; rfl) | (simp only [tocvs, tocv, toboxes, tobox, updH_at, Nat.reduceEqDiff, ↓reduceIte, rats_two]; rfl)) (by simp) ?_
  simp (disch := omega) only [wk, tis, Int.reduceNe, Int.reduceEq, Int.reduceLT, Int.reduceLE, Int.reduceAdd, Int.reduceSub, Int.reduceNeg, Int.reduceMul, Int.reduceToNat, Nat.reduceSub, Nat.reduceMul, Nat.reduceLeDiff, Nat.reduceAdd, Nat.reduceLT, Nat.reduceEqDiff, reduceCtorEq, ↓reduceIte, rqs, rats_two]
  refine call_by (h2) (by rfl) (by simp) ?_
  simp (disch := omega) only [wk, tis, Int.reduceNe, Int.reduceEq, Int.reduceLT, Int.reduceLE, Int.reduceAdd, Int.reduceSub, Int.reduceNeg, Int.reduceMul, Int.reduceToNat, Nat.reduceSub, Nat.reduceMul, Nat.reduceLeDiff, Nat.reduceAdd, Nat.reduceLT, Nat.reduceEqDiff, reduceCtorEq, ↓reduceIte, rqs]
  refine call_by (h3) (by rfl) (by simp) ?_
  simp (disch := omega) only [wk, tis, Int.reduceNe, Int.reduceEq, Int.reduceLT, Int.reduceLE, Int.reduceAdd, Int.reduceSub, Int.reduceNeg, Int.reduceMul, Int.reduceToNat, Nat.reduceSub, Nat.reduceMul, Nat.reduceLeDiff, Nat.reduceAdd, Nat.reduceLT, Nat.reduceEqDiff, reduceCtorEq, ↓reduceIte, rqs]
  refine call_by (h4) (by rfl) (by simp) ?_
  simp (disch := omega) only [wk, tis, Int.reduceNe, Int.reduceEq, Int.reduceLT, Int.reduceLE, Int.reduceAdd, Int.reduceSub, Int.reduceNeg, Int.reduceMul, Int.reduceToNat, Nat.reduceSub, Nat.reduceMul, Nat.reduceLeDiff, Nat.reduceAdd, Nat.reduceLT, Nat.reduceEqDiff, reduceCtorEq, ↓reduceIte, rqs]
  refine ⟨tmps_by (by kernel_rfl), ?_⟩
  refine call_by (h5) (by rfl) (by simp) ?_
  simp (disch := omega) only [wk, tis, Int.reduceNe, Int.reduceEq, Int.reduceLT, Int.reduceLE, Int.reduceAdd, Int.reduceSub, Int.reduceNeg, Int.reduceMul, Int.reduceToNat, Nat.reduceSub, Nat.reduceMul, Nat.reduceLeDiff, Nat.reduceAdd, Nat.reduceLT, Nat.reduceEqDiff, reduceCtorEq, ↓reduceIte, rqs]
  refine call_by (h6) (by rfl) (by simp) ?_
  simp (disch := omega) only [wk, tis, Int.reduceNe, Int.reduceEq, Int.reduceLT, Int.reduceLE, Int.reduceAdd, Int.reduceSub, Int.reduceNeg, Int.reduceMul, Int.reduceToNat, Nat.reduceSub, Nat.reduceMul, Nat.reduceLeDiff, Nat.reduceAdd, Nat.reduceLT, Nat.reduceEqDiff, reduceCtorEq, ↓reduceIte, rqs]
  first | exact log_by (by kernel_rfl) | refine ⟨log_by (by kernel_rfl), ?_⟩
  refine call_by (h7) (by rfl) (by simp) ?_
  simp (disch := omega) only [wk, tis, Int.reduceNe, Int.reduceEq, Int.reduceLT, Int.reduceLE, Int.reduceAdd, Int.reduceSub, Int.reduceNeg, Int.reduceMul, Int.reduceToNat, Nat.reduceSub, Nat.reduceMul, Nat.reduceLeDiff, Nat.reduceAdd, Nat.reduceLT, Nat.reduceEqDiff, reduceCtorEq, ↓reduceIte, rqs]
  refine call_by (h8) (by rfl) (by simp) ?_
  simp (disch := omega) only [wk, tis, Int.reduceNe, Int.reduceEq, Int.reduceLT, Int.reduceLE, Int.reduceAdd, Int.reduceSub, Int.reduceNeg, Int.reduceMul, Int.reduceToNat, Nat.reduceSub, Nat.reduceMul, Nat.reduceLeDiff, Nat.reduceAdd, Nat.reduceLT, Nat.reduceEqDiff, reduceCtorEq, ↓reduceIte, rqs]
  refine call_by (o1) (by rfl) (by simp) ?_
  simp (disch := omega) only [wk, tis, Int.reduceNe, Int.reduceEq, Int.reduceLT, Int.reduceLE, Int.reduceAdd, Int.reduceSub, Int.reduceNeg, Int.reduceMul, Int.reduceToNat, Nat.reduceSub, Nat.reduceMul, Nat.reduceLeDiff, Nat.reduceAdd, Nat.reduceLT, Nat.reduceEqDiff, reduceCtorEq, ↓reduceIte, rqs]
  refine call_by (o0) (by rfl) (by simp) ?_
  simp (disch := omega) only [wk, tis, Int.reduceNe, Int.reduceEq, Int.reduceLT, Int.reduceLE, Int.reduceAdd, Int.reduceSub, Int.reduceNeg, Int.reduceMul, Int.reduceToNat, Nat.reduceSub, Nat.reduceMul, Nat.reduceLeDiff, Nat.reduceAdd, Nat.reduceLT, Nat.reduceEqDiff, reduceCtorEq, ↓reduceIte, rqs]
  refine call_by (o1) (by rfl) (by simp) ?_
  simp (disch := omega) only [wk, tis, Int.reduceNe, Int.reduceEq, Int.reduceLT, Int.reduceLE, Int.reduceAdd, Int.reduceSub, Int.reduceNeg, Int.reduceMul, Int.reduceToNat, Nat.reduceSub, Nat.reduceMul, Nat.reduceLeDiff, Nat.reduceAdd, Nat.reduceLT, Nat.reduceEqDiff, reduceCtorEq, ↓reduceIte, rqs]
  refine call_by (o1) (by rfl) (by simp) ?_
  simp (disch := omega) only [wk, tis, Int.reduceNe, Int.reduceEq, Int.reduceLT, Int.reduceLE, Int.reduceAdd, Int.reduceSub, Int.reduceNeg, Int.reduceMul, Int.reduceToNat, Nat.reduceSub, Nat.reduceMul, Nat.reduceLeDiff, Nat.reduceAdd, Nat.reduceLT, Nat.reduceEqDiff, reduceCtorEq, ↓reduceIte, rqs]
  refine call_by (h9) (by rfl) (by simp) ?_
  simp (disch := omega) only [wk, tis, Int.reduceNe, Int.reduceEq, Int.reduceLT, Int.reduceLE, Int.reduceAdd, Int.reduceSub, Int.reduceNeg, Int.reduceMul, Int.reduceToNat, Nat.reduceSub, Nat.reduceMul, Nat.reduceLeDiff, Nat.reduceAdd, Nat.reduceLT, Nat.reduceEqDiff, reduceCtorEq, ↓reduceIte, rqs]
  refine call_by (nd) (by rfl) (by simp) ?_
  simp (disch := omega) only [wk, tis, Int.reduceNe, Int.reduceEq, Int.reduceLT, Int.reduceLE, Int.reduceAdd, Int.reduceSub, Int.reduceNeg, Int.reduceMul, Int.reduceToNat, Nat.reduceSub, Nat.reduceMul, Nat.reduceLeDiff, Nat.reduceAdd, Nat.reduceLT, Nat.reduceEqDiff, reduceCtorEq, ↓reduceIte, rqs]
  refine call_by (h10) (by rfl) (by simp) ?_
  simp (disch := omega) only [wk, tis, Int.reduceNe, Int.reduceEq, Int.reduceLT, Int.reduceLE, Int.reduceAdd, Int.reduceSub, Int.reduceNeg, Int.reduceMul, Int.reduceToNat, Nat.reduceSub, Nat.reduceMul, Nat.reduceLeDiff, Nat.reduceAdd, Nat.reduceLT, Nat.reduceEqDiff, reduceCtorEq, ↓reduceIte, rqs]
  try rfl
theorem sin_ok (p : List RI) (a b : RQ) (R : List RI) (h : AC Tryz.prog 14 [cw p, cqq a, cqq b] none [cw R, ci 0]) (hR : RP (2 ^ 40) (2 ^ 40) R) : AC Tryz.prog 9 [cw p, cqq a, cqq b] none [ci (chg (pv R)), ci 0] := by
  have o := of16_ok R hR
  refine AC.by_walk (rs := [.tmp 6, .tmp 7]) ords Tryz.func9 (by rfl) (by rfl) (by rfl) (by rfl) (by rfl) ?_
  simp (disch := omega) only [wk, tis, Int.reduceNe, Int.reduceEq, Int.reduceLT, Int.reduceLE, Int.reduceAdd, Int.reduceSub, Int.reduceNeg, Int.reduceMul, Int.reduceToNat, Nat.reduceSub, Nat.reduceMul, Nat.reduceLeDiff, Nat.reduceAdd, Nat.reduceLT, Nat.reduceEqDiff, reduceCtorEq, ↓reduceIte, rqs]
  refine call_by (h) (by rfl) (by simp) ?_
  simp (disch := omega) only [wk, tis, Int.reduceNe, Int.reduceEq, Int.reduceLT, Int.reduceLE, Int.reduceAdd, Int.reduceSub, Int.reduceNeg, Int.reduceMul, Int.reduceToNat, Nat.reduceSub, Nat.reduceMul, Nat.reduceLeDiff, Nat.reduceAdd, Nat.reduceLT, Nat.reduceEqDiff, reduceCtorEq, ↓reduceIte, rqs]
  refine call_by (o) (by rfl) (by simp) ?_
  simp (disch := omega) only [wk, tis, Int.reduceNe, Int.reduceEq, Int.reduceLT, Int.reduceLE, Int.reduceAdd, Int.reduceSub, Int.reduceNeg, Int.reduceMul, Int.reduceToNat, Nat.reduceSub, Nat.reduceMul, Nat.reduceLeDiff, Nat.reduceAdd, Nat.reduceLT, Nat.reduceEqDiff, reduceCtorEq, ↓reduceIte, rqs]
  try rfl

theorem rp_small (l : List Int) (n : Nat) (hl : l.length ≤ n) (h : ∀ z ∈ l, z.natAbs < W) : RP n 1 (l.map canon) := RP.canon (small_pb l n hl h)
theorem cp_dec {q r : List Int} (h : trimz q = r) : cp q = cw (r.map canon) := by
  unfold cp cpoly
  rw [h]
theorem row0_ok : AC Tryz.prog 14 [cw (([-2, 0, 1] : List Int).map canon), cqz 1, cqz 2] none [cw (([-1, 0, 2] : List Int).map canon), ci 0] := by
  have rp : RP 3 1 (([-2, 0, 1] : List Int).map canon) := rp_small _ 3 (by decide) (by decide)
  have s1 : SzQ 1 (crat 1) := szq_crat (by rw [qz_one]; omega)
  have s2 : SzQ 1 (crat 2) := szq_crat (by decide +kernel)
  have s0 : SzQ 1 (crat 0) := szq_crat (by rw [qz_zero]; omega)
  have h1 := sask_ok (([-2, 0, 1] : List Int).map canon) [crat 1, crat 2] (rp.mono (by omega) (by omega)) ⟨by simp, fun r hr => by
    simp only [List.mem_cons, List.not_mem_nil, or_false] at hr
    rcases hr with rfl | rfl
    · exact ⟨s1.mono (by omega), nv_crat0 _⟩
    · exact ⟨s2.mono (by omega), nv_crat0 _⟩⟩ (by rw [pv_canon]; decide)
  have h2 := qcmp_ok (crat 1) (crat 2) (s1.mono (by omega)) (s2.mono (by omega)) (nv_crat0 _) (nv_crat0 _)
  rw [show cmpZ (iv (crat 1).1 * (nv (crat 2).2 : Nat)) (iv (crat 2).1 * (nv (crat 1).2 : Nat)) = -1 by decide +kernel] at h2
  have h3 := pdeg_ok (([-2, 0, 1] : List Int).map canon) (rp.mono (by omega) (by omega))
  rw [pv_canon, show ((tz [-2, 0, 1] : Nat) : Int) - 1 = ((2 : Nat) : Int) by decide] at h3
  have h4 := qsub_ok (crat 2) (crat 1) (s2.mono (by omega)) (s1.mono (by omega)) (nv_crat0 _) (nv_crat0 _)
  rw [qv_crat, qv_crat, show (2 : Rat) - 1 = 1 by decide +kernel] at h4
  have h5 := qof10_ok (([-2, 0, 1] : List Int).map canon) (rp.mono (by omega) (by omega))
  rw [pv_canon, show cqp (qp [-2, 0, 1]) = cqw (([-2, 0, 1] : List Rat).map crat) from congrArg cqw (by decide +kernel)] at h5
  have two : ∀ {a b : RQ}, SzQ 1 a → SzQ 1 b → nv a.2 ≠ 0 → nv b.2 ≠ 0 → GQ 9 3 [a, b] := fun ha hb h0 h1 => ⟨by simp, fun r hr => by
    simp only [List.mem_cons, List.not_mem_nil, or_false] at hr
    rcases hr with rfl | rfl
    · exact ⟨ha.mono (by omega), h0⟩
    · exact ⟨hb.mono (by omega), h1⟩⟩
  have g1 : QB 9 3 ([-2, 0, 1] : List Rat) := ⟨by decide, by decide +kernel⟩
  have g2 : QB 9 3 ([-1, 2, 1] : List Rat) := ⟨by decide, by decide +kernel⟩
  have t1 := two s1 s1 (nv_crat0 _) (nv_crat0 _)
  have t2 := two s0 s1 (nv_crat0 _) (nv_crat0 _)
  have m1 := mComposeQ_ok (([-2, 0, 1] : List Rat).map crat) [crat 1, crat 1] (g1.gq.mono (by omega) (by omega)) (t1.mono (by omega) (by omega)) (hq_small g1.gq t1)
  rw [qvs_map, show cqp (hoq (trimq [-2, 0, 1]) (trimq (qvs [crat 1, crat 1])) (trimq [-2, 0, 1]).length) = cqw (([-1, 2, 1] : List Rat).map crat) from congrArg cqw (by decide +kernel)] at m1
  have h6 := mShiftQ_of _ _ _ _ m1
  have m2 := mComposeQ_ok (([-1, 2, 1] : List Rat).map crat) [crat 0, crat 1] (g2.gq.mono (by omega) (by omega)) (t2.mono (by omega) (by omega)) (hq_small g2.gq t2)
  rw [qvs_map, show cqp (hoq (trimq [-1, 2, 1]) (trimq (qvs [crat 0, crat 1])) (trimq [-1, 2, 1]).length) = cqw (([-1, 2, 1] : List Rat).map crat) from congrArg cqw (by decide +kernel)] at m2
  have h7 := mScaleQ_of _ _ _ _ m2
  have h8 := qclear_ok (([-1, 2, 1] : List Rat).map crat) 9 3 g2.gq (by omega) (by omega)
  rw [qvs_map, show cden (trimq [-1, 2, 1]) = 1 by decide +kernel, show clr (trimq [-1, 2, 1]) = [-1, 2, 1] by decide +kernel] at h8
  have rz : RP 3 1 (([-1, 2, 1] : List Int).map canon) := rp_small _ 3 (by decide) (by decide)
  have oz : ∀ z : Int, zl z ≤ 1 → Sz (2 ^ 20) (canon z) := fun z h => (sz_canon z).mono (by omega)
  have h9 := mmoebius_ok (([-1, 2, 1] : List Int).map canon) (canon 1) (canon 0) (canon 1) (canon 1) (rz.mono (by omega) (by omega)) (oz 1 (by decide +kernel)) (oz 0 (by decide +kernel)) (oz 1 (by decide +kernel)) (oz 1 (by decide +kernel))
  rw [pv_canon, iv_canon, iv_canon, cp_dec (r := [-1, 0, 2]) (by decide +kernel)] at h9
  have rs : RP 3 1 (([-1, 0, 2] : List Int).map canon) := rp_small _ 3 (by decide) (by decide)
  have h10 := sleast_ok (([-1, 0, 2] : List Int).map canon) 2 (canon ((1 : Nat) : Int)) (rs.mono (by omega) (by omega)) ((sz_canon _).mono (by decide +kernel)) (by rw [iv_canon]; decide) (by omega)
  rw [pv_canon, iv_canon, show rowz [-1, 0, 2] 2 ((1 : Nat) : Int) = [-1, 0, 2] by decide +kernel] at h10
  exact srow_ok _ _ _ 2 1 _ _ _ 1 _ _ _ h1 h2 h3 h4 h5 h6 h7 h8 h9 h10 (by decide +kernel)
theorem known16_ok : AC Tryz.prog 4 [] none [cb true] := by
  have p := poly16_ok [-2, 0, 1] (by decide) (by decide)
  have a := hP_ok 1 1 (by omega) (by omega) (by omega) (by omega)
  have b := hP_ok 2 1 (by omega) (by omega) (by omega) (by omega)
  rw [show ((1 : Int) : Rat) / ((1 : Nat) : Rat) = 1 by decide +kernel] at a
  rw [show ((2 : Int) : Rat) / ((1 : Nat) : Rat) = 2 by decide +kernel] at b
  have i := sin_ok _ _ _ _ row0_ok ((rp_small [-1, 0, 2] 3 (by decide) (by decide)).mono (by omega) (by omega))
  rw [pv_canon, show chg [-1, 0, 2] = 1 by decide, show ((1 : Nat) : Int) = 1 from rfl] at i
  have c := chg_ok [1, 0, -5, 0, 0, 2] (by decide)
  rw [show chg [1, 0, -5, 0, 0, 2] = 2 by decide, show ((2 : Nat) : Int) = 2 from rfl] at c
  have hr6 : List.range 6 = [0, 1, 2, 3, 4, 5] := rfl
  have hil : [[IV.int .i64 1], [IV.int .i64 0], [IV.int .i64 (-5)], [IV.int .i64 0], [IV.int .i64 0], [IV.int .i64 2]] = ilims [1, 0, -5, 0, 0, 2] := rfl
  have hir : ∀ l : List Int, (∀ r ∈ ilims l, r.length = 1) ↔ True := fun l => by simp [ilims]
  refine AC.by_walk (rs := [.tmp 0]) ords Tryz.func4 (by rfl) (by rfl) (by rfl) (by rfl) (by rfl) ?_
  simp (disch := omega) only [wk, tis, Int.reduceNe, Int.reduceEq, Int.reduceLT, Int.reduceLE, Int.reduceAdd, Int.reduceSub, Int.reduceNeg, Int.reduceMul, Int.reduceToNat, Nat.reduceSub, Nat.reduceMul, Nat.reduceLeDiff, Nat.reduceAdd, Nat.reduceLT, Nat.reduceEqDiff, reduceCtorEq, ↓reduceIte, rqs]
  refine call_by (p) (by rfl) (by simp) ?_
  simp (disch := omega) only [wk, tis, Int.reduceNe, Int.reduceEq, Int.reduceLT, Int.reduceLE, Int.reduceAdd, Int.reduceSub, Int.reduceNeg, Int.reduceMul, Int.reduceToNat, Nat.reduceSub, Nat.reduceMul, Nat.reduceLeDiff, Nat.reduceAdd, Nat.reduceLT, Nat.reduceEqDiff, reduceCtorEq, ↓reduceIte, rqs]
  refine call_by (a) (by rfl) (by simp) ?_
  simp (disch := omega) only [wk, tis, Int.reduceNe, Int.reduceEq, Int.reduceLT, Int.reduceLE, Int.reduceAdd, Int.reduceSub, Int.reduceNeg, Int.reduceMul, Int.reduceToNat, Nat.reduceSub, Nat.reduceMul, Nat.reduceLeDiff, Nat.reduceAdd, Nat.reduceLT, Nat.reduceEqDiff, reduceCtorEq, ↓reduceIte, rqs]
  refine call_by (b) (by rfl) (by simp) ?_
  simp (disch := omega) only [wk, tis, Int.reduceNe, Int.reduceEq, Int.reduceLT, Int.reduceLE, Int.reduceAdd, Int.reduceSub, Int.reduceNeg, Int.reduceMul, Int.reduceToNat, Nat.reduceSub, Nat.reduceMul, Nat.reduceLeDiff, Nat.reduceAdd, Nat.reduceLT, Nat.reduceEqDiff, reduceCtorEq, ↓reduceIte, rqs]
  refine call_by (i) (by first | rfl | (simp only [tocvs, tocv, hr6, hil, hir]; rfl) | (simp only [tocvs, tocv, toboxes, tobox, updH_at, Nat.reduceEqDiff, ↓reduceIte, hr6, hil, hir]; rfl)) (by simp) ?_
  simp (disch := omega) only [wk, tis, Int.reduceNe, Int.reduceEq, Int.reduceLT, Int.reduceLE, Int.reduceAdd, Int.reduceSub, Int.reduceNeg, Int.reduceMul, Int.reduceToNat, Nat.reduceSub, Nat.reduceMul, Nat.reduceLeDiff, Nat.reduceAdd, Nat.reduceLT, Nat.reduceEqDiff, reduceCtorEq, ↓reduceIte, rqs, hr6, hil, hir]
  refine call_by (c) (by first | rfl | (simp only [tocvs, tocv, hr6, hil, hir]; rfl) | (simp only [tocvs, tocv, toboxes, tobox, updH_at, Nat.reduceEqDiff, ↓reduceIte, hr6, hil, hir]; rfl)) (by simp) ?_
  simp (disch := omega) only [wk, tis, Int.reduceNe, Int.reduceEq, Int.reduceLT, Int.reduceLE, Int.reduceAdd, Int.reduceSub, Int.reduceNeg, Int.reduceMul, Int.reduceToNat, Nat.reduceSub, Nat.reduceMul, Nat.reduceLeDiff, Nat.reduceAdd, Nat.reduceLT, Nat.reduceEqDiff, reduceCtorEq, ↓reduceIte, rqs, hr6, hil, hir]
  try rfl

theorem rows16_law (l : List Int) (p : List RI) (hl : l.length ≤ 1048576) (hp : RP 1048576 1048576 p) : AC Tryz.prog 3 [cis l, cw p] none [cb true] := by
  have c1 := chg_ok l (by omega)
  have c2 := tchg_ok l (by omega)
  have o1 := of16_ok p (hp.mono (by omega) (by omega))
  have o2 := tof16_ok p (hp.mono (by omega) (by omega))
  refine AC.by_walk (rs := [.tmp 4]) ords Tryz.func3 (by rfl) (by rfl) (by rfl) (by rfl) (by rfl) ?_
  simp (disch := omega) only [wk, tis, Int.reduceNe, Int.reduceEq, Int.reduceLT, Int.reduceLE, Int.reduceAdd, Int.reduceSub, Int.reduceNeg, Int.reduceMul, Int.reduceToNat, Nat.reduceSub, Nat.reduceMul, Nat.reduceLeDiff, Nat.reduceAdd, Nat.reduceLT, Nat.reduceEqDiff, reduceCtorEq, ↓reduceIte, rqs]
  refine call_by (known16_ok) (by rfl) (by simp) ?_
  simp (disch := omega) only [wk, tis, Int.reduceNe, Int.reduceEq, Int.reduceLT, Int.reduceLE, Int.reduceAdd, Int.reduceSub, Int.reduceNeg, Int.reduceMul, Int.reduceToNat, Nat.reduceSub, Nat.reduceMul, Nat.reduceLeDiff, Nat.reduceAdd, Nat.reduceLT, Nat.reduceEqDiff, reduceCtorEq, ↓reduceIte, rqs]
  refine call_by (c1) (by rfl) (by simp) ?_
  simp (disch := omega) only [wk, tis, Int.reduceNe, Int.reduceEq, Int.reduceLT, Int.reduceLE, Int.reduceAdd, Int.reduceSub, Int.reduceNeg, Int.reduceMul, Int.reduceToNat, Nat.reduceSub, Nat.reduceMul, Nat.reduceLeDiff, Nat.reduceAdd, Nat.reduceLT, Nat.reduceEqDiff, reduceCtorEq, ↓reduceIte, rqs]
  refine call_by (c2) (by rfl) (by simp) ?_
  simp (disch := omega) only [wk, tis, Int.reduceNe, Int.reduceEq, Int.reduceLT, Int.reduceLE, Int.reduceAdd, Int.reduceSub, Int.reduceNeg, Int.reduceMul, Int.reduceToNat, Nat.reduceSub, Nat.reduceMul, Nat.reduceLeDiff, Nat.reduceAdd, Nat.reduceLT, Nat.reduceEqDiff, reduceCtorEq, ↓reduceIte, rqs]
  refine call_by (o1) (by rfl) (by simp) ?_
  simp (disch := omega) only [wk, tis, Int.reduceNe, Int.reduceEq, Int.reduceLT, Int.reduceLE, Int.reduceAdd, Int.reduceSub, Int.reduceNeg, Int.reduceMul, Int.reduceToNat, Nat.reduceSub, Nat.reduceMul, Nat.reduceLeDiff, Nat.reduceAdd, Nat.reduceLT, Nat.reduceEqDiff, reduceCtorEq, ↓reduceIte, rqs]
  refine call_by (o2) (by rfl) (by simp) ?_
  simp (disch := omega) only [wk, tis, Int.reduceNe, Int.reduceEq, Int.reduceLT, Int.reduceLE, Int.reduceAdd, Int.reduceSub, Int.reduceNeg, Int.reduceMul, Int.reduceToNat, Nat.reduceSub, Nat.reduceMul, Nat.reduceLeDiff, Nat.reduceAdd, Nat.reduceLT, Nat.reduceEqDiff, reduceCtorEq, ↓reduceIte, rqs]
  try rfl
theorem rows16_law2 (l : List Int) (p : List RI) (hl : l.length ≤ 1048576 ∧ ∀ x ∈ l, -9223372036854775808 ≤ x ∧ x ≤ 9223372036854775807) (hp : RP 1048576 1048576 p) : AC Tryz.prog 3 [cis l, cw p] none [cb true] := rows16_law l p hl.1 hp
end Go.Proofs.YtkkmiboodkilbaaGreat
