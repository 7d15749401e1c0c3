/-
  Contracts of the functions that the law reaches.
-/
import Derived.Test.YtlmkieimciodoaaGreatL59M
import Derived.Test.YtlmkieimciodoaaGreatAbsT
import Derived.Test.YtlmkieimciodoaaGreatL39M
import Derived.Test.YtlmkieimciodoaaGreatL52M
import Derived.Test.YtlmkieimciodoaaGreatL36M
set_option maxHeartbeats 2000000
namespace Go.Proofs.YtlmkieimciodoaaGreat
open Go Go.Proofs Go.AL
set_option linter.unusedSimpArgs false
set_option linter.unusedVariables false
end Go.Proofs.YtlmkieimciodoaaGreat

namespace Go.Proofs.YtlmkieimciodoaaGreat
open Go Go.Proofs Go.AL
set_option linter.unusedSimpArgs false
set_option linter.unusedVariables false
end Go.Proofs.YtlmkieimciodoaaGreat

namespace Go.Proofs.YtlmkieimciodoaaGreat
open Go Go.Proofs Go.AL
set_option linter.unusedSimpArgs false
set_option linter.unusedVariables false
theorem qp_len (P : List Int) : (qp P).length = P.length := by simp [qp]
theorem tzq_qp (P : List Int) : tzq (qp P) = tz P := by
  rcases Nat.eq_zero_or_pos (tz P) with h | h
  · rw [h]
    exact tzq_zero_iff.mpr fun k => by rw [cfq_qp, tz_zero_iff.mp h k]; rfl
  · have := tzq_spec (q := qp P) (n := tz P - 1) (by
      rw [cfq_qp]
      exact fun e => cf_tz_pred (q := P) (by omega) (Rat.intCast_eq_zero_iff.mp e)) fun k hk => by rw [cfq_qp, cf_ge_tz P (by omega)]; rfl
    omega
theorem qp_trim (P : List Int) : trimq (qp P) = qp (trimz P) := by rw [trimq, tzq_qp, trimz, qp, qp, List.map_take]
def fma (c : Rat) (a b : Rat) : Rat := a + c * b
theorem fma_zero (c : Rat) : fma c 0 0 = 0 := by unfold fma; grind
end Go.Proofs.YtlmkieimciodoaaGreat

namespace Go.Proofs.YtlmkieimciodoaaGreat
open Go Go.Proofs Go.AL
set_option linter.unusedSimpArgs false
set_option linter.unusedVariables false
end Go.Proofs.YtlmkieimciodoaaGreat

namespace Go.Proofs.YtlmkieimciodoaaGreat
open Go Go.Proofs Go.AL
set_option linter.unusedSimpArgs false
set_option linter.unusedVariables false
def upq (c : Rat) (n : Nat) : List Rat := List.replicate n 0 ++ [c]
theorem upq_len (c : Rat) (n : Nat) : (upq c n).length = n + 1 := by simp [upq]
theorem upq_succ (c : Rat) (n : Nat) : upq c (n + 1) = 0 :: upq c n := rfl
theorem cfq_upq (c : Rat) : ∀ n k, cfq (upq c n) k = if k = n then c else 0
  | 0, 0 => rfl
  | 0, k + 1 => by rw [if_neg (by omega)]; exact cfq_ge (by rw [upq_len]; omega)
  | n + 1, 0 => by rw [if_neg (by omega)]; rfl
  | n + 1, k + 1 => by
    rw [upq_succ, cfq_cons_succ, cfq_upq c n k]
    by_cases h : k = n
    · rw [if_pos h, if_pos (by omega)]
    · rw [if_neg h, if_neg (by omega)]
theorem cvq_upq (c : Rat) (g : Nat → Rat) : ∀ n k, cvq (upq c n) g k = if n ≤ k then c * g (k - n) else 0
  | 0, k => by
    rw [if_pos (Nat.zero_le _), show upq c 0 = [c] from rfl, cvq_cons]
    cases k with
    | zero => simp only [qshift, Nat.sub_zero]; grind
    | succ k => simp only [qshift, Nat.sub_zero, cvq]; grind
  | n + 1, 0 => by
    rw [if_neg (by omega), upq_succ, cvq_cons]
    simp only [qshift]; grind
  | n + 1, k + 1 => by
    rw [upq_succ, cvq_cons, qshift, cvq_upq c g n k]
    by_cases h : n ≤ k
    · rw [if_pos h, if_pos (by omega), Nat.add_sub_add_right]; grind
    · rw [if_neg h, if_neg (by omega)]; grind
theorem cfq_mul_upq (c : Rat) (n : Nat) (B : List Rat) (k : Nat) : cfq (mulq (upq c n) B) k = if n ≤ k then c * cfq B (k - n) else 0 := by
  rw [cfq_mulq, cvq_upq]
def dc (A B : List Rat) : Rat := cfq A (A.length - 1) / cfq B (B.length - 1)
def dn1 (A B : List Rat) : List Rat := trimq (zipq (fma (-1)) A (mulq (upq (dc A B) (A.length - B.length)) B))
theorem cfq_dn1 (A B : List Rat) (k : Nat) : cfq (dn1 A B) k = cfq A k - if A.length - B.length ≤ k then dc A B * cfq B (k - (A.length - B.length)) else 0 := by
  rw [dn1, cfq_trimq, cfq_zipq (fma_zero _), cfq_mul_upq]
  unfold fma
  grind
theorem tzq_low {q : List Rat} {n : Nat} (h : ∀ k, n ≤ k → cfq q k = 0) : tzq q ≤ n := by
  rcases Nat.lt_or_ge n (tzq q) with h1 | h1
  · exact absurd (h (tzq q - 1) (by omega)) (cfq_tzq_pred (by omega))
  · exact h1
theorem dn1_len {A B : List Rat} (h0 : B.length ≠ 0) (hb : cfq B (B.length - 1) ≠ 0) (hl : B.length ≤ A.length) : (dn1 A B).length < A.length := by
  have : (dn1 A B).length = tzq (dn1 A B) := by
    have := trimq_len (dn1 A B)
    rwa [show trimq (dn1 A B) = dn1 A B from trimq_trimq _] at this
  have h1 := tzq_low (q := dn1 A B) (n := A.length - 1) fun k hk => by
    rw [cfq_dn1, if_pos (by omega)]
    by_cases hk2 : k = A.length - 1
    · rw [hk2, show A.length - 1 - (A.length - B.length) = B.length - 1 by omega]
      have := Rat.div_mul_cancel (a := cfq A (A.length - 1)) hb
      unfold dc
      grind
    · rw [cfq_ge (q := A) (by omega), cfq_ge (q := B) (by omega)]; grind
  omega
def dit (A B : List Rat) : Nat → List Rat
  | 0 => A
  | k + 1 => dn1 (dit A B k) B
def dqu (A B : List Rat) : Nat → List Rat
  | 0 => []
  | k + 1 => zipq (fma 1) (dqu A B k) (upq (dc (dit A B k) B) ((dit A B k).length - B.length))
theorem dit_len {A B : List Rat} (h0 : B.length ≠ 0) (hb : cfq B (B.length - 1) ≠ 0) : ∀ k, (∀ j, j < k → B.length ≤ (dit A B j).length) → (dit A B k).length + k ≤ A.length
  | 0, _ => Nat.le_refl _
  | k + 1, h => by
    have h1 := dit_len h0 hb k fun j hj => h j (by omega)
    have h2 := dn1_len h0 hb (h k (by omega))
    rw [dit]; omega
theorem cfq_dqu_succ (A B : List Rat) (k j : Nat) : cfq (dqu A B (k + 1)) j = cfq (dqu A B k) j + if j = (dit A B k).length - B.length then dc (dit A B k) B else 0 := by
  rw [dqu, cfq_zipq (fma_zero _), cfq_upq]
  unfold fma
  grind
theorem dqu_low {A B : List Rat} (h0 : B.length ≠ 0) (hb : cfq B (B.length - 1) ≠ 0) : ∀ k, (∀ j, j < k → B.length ≤ (dit A B j).length) → ∀ j, j + B.length ≤ (dit A B k).length → cfq (dqu A B k) j = 0
  | 0, _, j, _ => cfq_nil j
  | k + 1, h, j, hj => by
    have h2 := dn1_len h0 hb (h k (by omega))
    rw [dit] at hj
    rw [cfq_dqu_succ, if_neg (by omega), dqu_low h0 hb k (fun i hi => h i (by omega)) j (by omega)]
    grind
theorem dqu_len {A B : List Rat} (h0 : B.length ≠ 0) (hb : cfq B (B.length - 1) ≠ 0) : ∀ k, (∀ j, j < k → B.length ≤ (dit A B j).length) → (dqu A B k).length ≤ A.length + 1 - B.length
  | 0, _ => Nat.zero_le _
  | k + 1, h => by
    have h1 := dqu_len h0 hb k fun j hj => h j (by omega)
    have h2 := dit_len h0 hb k fun j hj => h j (by omega)
    have h3 := h k (by omega)
    rw [dqu, zipq_len, upq_len]
    omega
theorem CD.cf {D n M : Nat} {q : List Rat} (h : CB D n M q) (k : Nat) : CD D M (cfq q k) := by
  by_cases hk : k < q.length
  · rw [cfq_lt hk]; exact h.c _ (List.getElem_mem hk)
  · rw [cfq_ge (by omega)]; exact CD.zero _ _
theorem qz_inv (q : Rat) : qz (1 / q) ≤ qz q := by
  by_cases h : q.num = 0
  · have : q = 0 := Rat.num_eq_zero.mp h
    rw [this, show (1 : Rat) / 0 = 0 by decide +kernel]
    exact Nat.le_refl _
  · have h1 : (q.num : Rat) ≠ 0 := fun e => h (Rat.intCast_eq_zero_iff.mp e)
    have h2 := natr_ne q.den_nz
    have e : (1 : Rat) / q = ((q.den : Int) : Rat) / (q.num : Rat) := by
      have h3 : q = (q.num : Rat) / (q.den : Rat) := by rw [← Rat.mkRat_eq_div]; exact (Rat.mkRat_self q).symm
      rw [Rat.intCast_natCast]
      conv => lhs; rw [h3]
      grind
    have hp := qz_parts q
    rw [e, ← mk_div h]
    refine qz_mk (by omega) ?_ ?_
    · split
      · rw [zl_neg, zl_nat]; exact hp.2
      · rw [zl_nat]; exact hp.2
    · exact hp.1
theorem qz_div (p q : Rat) : qz (p / q) ≤ qz p + qz q := by
  have h1 := qz_mul p (1 / q)
  have h2 := qz_inv q
  rw [show p * (1 / q) = p / q by rw [Rat.div_def, Rat.div_def, Rat.one_mul]] at h1
  omega
end Go.Proofs.YtlmkieimciodoaaGreat

namespace Go.Proofs.YtlmkieimciodoaaGreat
open Go Go.Proofs Go.AL
set_option linter.unusedSimpArgs false
set_option linter.unusedVariables false
theorem CD.den_dvd {D M : Nat} {q : Rat} (hD : D ≠ 0) (h : CD D M q) : q.den ∣ D := by
  obtain ⟨z, e, hz⟩ := h
  have h1 := natr_ne hD
  have h2 := natr_ne q.den_nz
  have h3 : (q.num : Rat) / (q.den : Rat) = (z : Rat) / (D : Rat) := by
    rw [← e, ← Rat.mkRat_eq_div]; exact Rat.mkRat_self q
  have h4 : (q.num : Rat) * (D : Rat) = (z : Rat) * (q.den : Rat) := by grind
  have h5 : q.num * (D : Int) = z * (q.den : Int) := by
    rw [← Rat.intCast_natCast, ← Rat.intCast_natCast, ← Rat.intCast_mul, ← Rat.intCast_mul] at h4
    exact Rat.intCast_inj.mp h4
  have h6 : q.den ∣ q.num.natAbs * D := ⟨z.natAbs, by
    have := congrArg Int.natAbs h5
    rw [Int.natAbs_mul, Int.natAbs_mul, Int.natAbs_natCast, Int.natAbs_natCast] at this
    rw [this, Nat.mul_comm]⟩
  exact (q.reduced.symm).dvd_of_dvd_mul_left h6
theorem qsum_cd {D M n : Nat} {f : Nat → Rat} (h : ∀ i, i < n → CD D M (f i)) : CD D (M + n) (qsum n f) := by
  induction n with
  | zero => exact CD.zero _ _
  | succ n ih =>
    have h1 := ih fun i hi => h i (by omega)
    have h2 := h n (by omega)
    exact (h1.add h2).mono (by omega)
theorem lcmL_dvd {D : Nat} : ∀ (l : List Nat) (i : Nat), (∀ x ∈ l, x ∣ D) → lcmL (l.take i) ∣ D
  | l, 0, _ => by rw [List.take_zero]; exact Nat.one_dvd _
  | l, i + 1, h => by
    by_cases hi : i < l.length
    · rw [lcmL_take hi]
      refine Nat.lcm_dvd (lcmL_dvd l i h) (h _ ?_)
      rw [List.getD, List.getElem?_eq_getElem hi, Option.getD_some]
      exact List.getElem_mem hi
    · rw [List.take_of_length_le (by omega), ← List.take_of_length_le (l := l) (i := i) (by omega)]
      exact lcmL_dvd l i h
theorem CB.dens_dvd {D n M : Nat} {A : List Rat} (h : CB D n M A) : ∀ x ∈ dens A, x ∣ D := fun x hx => by
  obtain ⟨c, hc, rfl⟩ := List.mem_map.1 hx
  exact (h.c c hc).den_dvd h.d
theorem CB.lcm_len {D n M : Nat} {A : List Rat} (h : CB D n M A) (i : Nat) : (wd (lcmL ((dens A).take i))).length ≤ M :=
  Nat.le_trans (wd_len_mono (Nat.le_of_dvd (Nat.pos_of_ne_zero h.d) (lcmL_dvd _ i h.dens_dvd))) h.w
theorem CB.cden_dvd {D n M : Nat} {A : List Rat} (h : CB D n M A) : cden A ∣ D := by
  have := lcmL_dvd (dens A) (dens A).length h.dens_dvd
  rwa [List.take_length] at this
theorem CB.cden_len {D n M : Nat} {A : List Rat} (h : CB D n M A) : (wd (cden A)).length ≤ M :=
  Nat.le_trans (wd_len_mono (Nat.le_of_dvd (Nat.pos_of_ne_zero h.d) h.cden_dvd)) h.w
theorem CB.mulq {D E n m M N : Nat} {A B : List Rat} (hA : CB D n M A) (hB : CB E m N B) : CB (D * E) (n + m) (M + N + (n + m)) (mulq A B) where
  d := Nat.mul_ne_zero hA.d hB.d
  w := by
    have h1 := AL.wd_mul_len D E
    have h2 := hA.w
    have h3 := hB.w
    omega
  l := by
    simp only [mulq_def, List.length_map, List.length_range]
    have := hA.l
    have := hB.l
    omega
  c := fun c hc => by
    obtain ⟨k, hk, rfl⟩ := List.getElem_of_mem hc
    have hl : k < n + m := by
      simp only [mulq_def, List.length_map, List.length_range] at hk
      have := hA.l
      have := hB.l
      omega
    rw [← cfq_lt hk, cfq_mulq, PQ.cvq_conv]
    exact (qsum_cd (n := k + 1) (f := fun i => cfq A i * cfq B (k - i)) fun i _ => CD.mul hA.d hB.d (CD.cf hA _) (CD.cf hB _)).mono (by omega)
end Go.Proofs.YtlmkieimciodoaaGreat

namespace Go.Proofs.YtlmkieimciodoaaGreat
open Go Go.Proofs Go.AL
set_option linter.unusedSimpArgs false
set_option linter.unusedVariables false
theorem rats_length (l : List RQ) : (rats l).length = l.length := by simp [rats]
theorem qtrim_t (X : List Rat) (h : QB (2 ^ 40) (2 ^ 38) X) : ACT Tryz.prog 113 [.any] 0 57 3 (rats (X.map crat)) (rats (cqs X)) := by
  have fin : ∀ k, k = tzq X → rats (cqs X) = rats ((X.map crat).take k) := fun k e => by rw [← List.map_take, e]; rfl
  have htl := tzq_le X
  have hl := h.1
  have hq : (X.map crat).length = X.length := List.length_map _
  refine ACT.by_walk (rs := [.tmp 2]) ords Tryz.func113 (by rfl) (by rfl) (by rfl) (by rfl) (by rfl) ?_
  simp (disch := omega) only [wk, tis, seval, reduceCtorEq, Nat.reduceEqDiff, rqs]
  refine aloop_by (fun f H => ∃ k : Nat, k ≤ X.length ∧ f 0 = .hs 0 1 ∧ f 3 = .iv (.int .i64 k) ∧ H 0 = .blk false 1 57 3 (rats (X.map crat)) ∧ tzq (X.take k) = tzq X) (fun f H => (intAt f 3).toNat) ?_ ?_
  · exact ⟨X.length, Nat.le_refl _, by simp (disch := omega) only [wk, tis, seval, reduceCtorEq, Nat.reduceEqDiff, rqs], by simp (disch := omega) only [wk, tis, seval, reduceCtorEq, Nat.reduceEqDiff, rqs, hq], by simp (disch := omega) only [wk, tis, seval, reduceCtorEq, Nat.reduceEqDiff, rqs], by rw [List.take_length]⟩
  rintro f H ⟨k, hk, h0, h3, hh, ht⟩
  rw [intAt_of h3]
  by_cases hc : 0 < (k : Int)
  · have ek : ((k : Int) - 1).toNat = k - 1 := by omega
    have ek' : k = (k - 1) + 1 := by omega
    have e := cratq_get (q := X) (i := k - 1) (by omega)
    have z := qpzero_ok (crat (cfq X (k - 1))) (szq_crat (h.cz (by omega) _)) (nv_crat0 _)
    rw [qv_crat] at z
    simp (disch := omega) only [wk, tis, seval, reduceCtorEq, Nat.reduceEqDiff, rqs, h0, h3, hh, hc, ek, hq, e]
    refine call_by (z) (by first | rfl | (simp only [tocvs, tocv, h0, h3, hh, hc]; rfl) | (simp only [tocvs, tocv, toboxes, tobox, updH_at, Nat.reduceEqDiff, ↓reduceIte, h0, h3, hh, hc]; rfl)) (by simp) ?_
    simp (disch := omega) only [wk, tis, seval, reduceCtorEq, Nat.reduceEqDiff, rqs, h0, h3, hh, hc]
    by_cases hz : cfq X (k - 1) = 0
    · simp (disch := omega) only [wk, tis, seval, reduceCtorEq, Nat.reduceEqDiff, rqs, h0, h3, hh, hz]
      refine ⟨⟨k - 1, by omega, by omega, ?_⟩, by omega⟩
      rw [← tzq_take_zero (k := k - 1) (by omega) hz, ← ek', ht]
    · simp (disch := omega) only [wk, tis, seval, reduceCtorEq, Nat.reduceEqDiff, rqs, h0, h3, hh, hz]
      have hk : k = tzq X := by
        have := tzq_full (q := X) (k := k - 1) (by omega) hz
        rw [← ek', ht] at this; exact this.symm
      refine ⟨by omega, fin k hk⟩
  · have hk : k = tzq X := by
      obtain rfl : k = 0 := by omega
      rw [← ht]; rfl
    simp (disch := omega) only [wk, tis, seval, reduceCtorEq, Nat.reduceEqDiff, rqs, h0, h3, hh, hc]
    refine ⟨by omega, fin k hk⟩
theorem qpnorm_own (p : List RQ) (h : GQ (2 ^ 40) (2 ^ 38) p) : AC Tryz.prog 72 [cqw p] (some (0, 57, 3, rats (cqs (qvs p)))) [cqp (qvs p), ci 0] := by
  have t := qtrim_t (qvs p) h.qb
  refine AC.by_walk (rs := [.tmp 2, .tmp 3]) ords Tryz.func72 (by rfl) (by rfl) (by rfl) (by rfl) (by rfl) ?_
  have hl := h.1
  simp (disch := omega) only [wk, tis, seval, reduceCtorEq, Nat.reduceEqDiff, rqs]
  refine aloop_nil 4 4 57 3 (by simp (disch := omega) only [wk, tis, seval, reduceCtorEq, Nat.reduceEqDiff, rqs]) (fun f H => ∃ (i st : Nat), i ≤ p.length ∧ f 11 = .iv (.int .i64 i) ∧ f 9 = .iv (.sl (rats p)) ∧ f 10 = .iv (.int .i64 p.length) ∧ f 4 = .hs 4 st ∧ H 4 = .blk false st 57 3 (rats (((qvs p).take i).map crat))) (fun f H => (p.length - intAt f 11).toNat) ?_ ?_
  · refine ⟨0, 1, by omega, ?_⟩
    simp (disch := omega) only [wk, tis, seval, reduceCtorEq, Nat.reduceEqDiff, rqs, ghostF, ghostH, List.take_zero, List.map_nil]
  rintro f H ⟨i, st, hi, hF⟩
  rw [intAt_of hF.1]
  simp (disch := omega) only [wk, tis, seval, reduceCtorEq, Nat.reduceEqDiff, rqs, hF]
  refine if_by (fun hlt => ?_) (fun hlt => ?_)
  · have hlt' : i < p.length := by omega
    have hq : (((qvs p).take i).map crat).length = i := by rw [List.length_map, List.length_take, qvs_len]; omega
    have m := qnorm_ok (p.getD i q0) (h.get hlt') (h.den hlt')
    rw [← cfq_qvs] at m
    simp (disch := omega) only [wk, tis, seval, reduceCtorEq, Nat.reduceEqDiff, rqs, hF, hq]
    refine call_by (m) (by first | rfl | (simp only [tocvs, tocv, hF, hq]; rfl) | (simp only [tocvs, tocv, toboxes, tobox, updH_at, Nat.reduceEqDiff, ↓reduceIte, hF, hq]; rfl)) (by simp) ?_
    simp (disch := omega) only [wk, tis, seval, reduceCtorEq, Nat.reduceEqDiff, rqs, hF, hq]
    have e := takeq_snoc (q := qvs p) (i := i) (by rw [qvs_len]; omega)
    refine ⟨⟨i + 1, st + 1, by omega, ?_⟩, by omega⟩
    rw [e, List.map_append]
    (repeat' apply And.intro) <;> first | rfl | omega
  · simp (disch := omega) only [wk, tis, seval, reduceCtorEq, Nat.reduceEqDiff, rqs, hF]
    rw [List.take_of_length_le (by rw [qvs_len]; omega)] at hF
    refine callt_by (t) (by first | rfl | (simp (disch := omega) only [wk, tis, seval, reduceCtorEq, Nat.reduceEqDiff, rqs, hF]; done)) (by first | rfl | (simp (disch := omega) only [wk, tis, seval, reduceCtorEq, Nat.reduceEqDiff, rqs, hF]; done)) (by first | rfl | (simp only [tocvs, tocv, List.set_cons_zero, List.set_cons_succ, hF]; rfl)) (by simp) (by simp) ?_
    simp (disch := omega) only [wk, tis, seval, reduceCtorEq, Nat.reduceEqDiff, rqs, hF]
theorem qboth_own (p q : List RQ) (hp : GQ (2 ^ 40) (2 ^ 38) p) (hq : GQ (2 ^ 40) (2 ^ 38) q) : AC Tryz.prog 121 [cqw p, cqw q] (some (0, 57, 3, rats (cqs (qvs p)))) [cqp (qvs p), cqp (qvs q), ci 0] := by
  have m := qpnorm_own p hp
  have n := qpnorm_ok q hq
  refine AC.by_walk (rs := [.tmp 4, .tmp 5, .tmp 6]) ords Tryz.func121 (by rfl) (by rfl) (by rfl) (by rfl) (by rfl) ?_
  simp (disch := omega) only [wk, tis, seval, reduceCtorEq, Nat.reduceEqDiff, rqs]
  refine call_by (m) (by rfl) (by simp) ?_
  simp (disch := omega) only [wk, tis, seval, reduceCtorEq, Nat.reduceEqDiff, rqs]
  refine call_by (n) (by rfl) (by simp) ?_
  simp (disch := omega) only [wk, tis, seval, reduceCtorEq, Nat.reduceEqDiff, rqs]
  try rfl
end Go.Proofs.YtlmkieimciodoaaGreat

namespace Go.Proofs.YtlmkieimciodoaaGreat
open Go Go.Proofs Go.AL
set_option linter.unusedSimpArgs false
set_option linter.unusedVariables false
theorem set_crat {X Y : List Rat} {i : Nat} {c : Rat} (hl : X.length = Y.length) (hc : cfq Y i = c) (ho : ∀ j, j < Y.length → j ≠ i → cfq Y j = cfq X j) : (X.map crat).set i (crat c) = Y.map crat := by
  rw [← List.map_set]
  congr 1
  refine List.ext_getElem (by rw [List.length_set, hl]) fun j h1 h2 => ?_
  rw [List.getElem_set]
  split
  · rename_i e; subst e; rw [← hc, cfq_lt h2]
  · rename_i e
    have := ho j h2 (fun h => e h.symm)
    rw [cfq_lt h2, cfq_lt (by rw [List.length_set] at h1; exact h1)] at this
    exact this.symm
def padq (N : Nat) (Q : List Rat) : List Rat := (List.range N).map (cfq Q)
theorem padq_len (N : Nat) (Q : List Rat) : (padq N Q).length = N := by simp [padq]
theorem cfq_padq {N : Nat} {Q : List Rat} {k : Nat} (h : k < N) : cfq (padq N Q) k = cfq Q k := by
  simp only [padq, cfq, List.getD, List.getElem?_map, List.getElem?_range h, Option.map_some, Option.getD_some]
theorem padq_all {N : Nat} {Q : List Rat} (h : Q.length ≤ N) (k : Nat) : cfq (padq N Q) k = cfq Q k := by
  by_cases hk : k < N
  · exact cfq_padq hk
  · rw [cfq_ge (by rw [padq_len]; omega), cfq_ge (by omega)]
theorem padq_nil (N : Nat) : padq N [] = List.replicate N 0 := by
  refine List.ext_getElem (by rw [padq_len, List.length_replicate]) fun j h1 h2 => ?_
  rw [← cfq_lt h1, cfq_padq (by rwa [padq_len] at h1), cfq_nil, List.getElem_replicate]
def subp (A B : List Rat) (c : Rat) (s i : Nat) : List Rat := (List.range A.length).map fun k => if s ≤ k ∧ k < s + i then cfq A k - c * cfq B (k - s) else cfq A k
theorem subp_len (A B : List Rat) (c : Rat) (s i : Nat) : (subp A B c s i).length = A.length := by simp [subp]
theorem cfq_subp {A B : List Rat} {c : Rat} {s i : Nat} (h : s + i ≤ A.length) (k : Nat) : cfq (subp A B c s i) k = if s ≤ k ∧ k < s + i then cfq A k - c * cfq B (k - s) else cfq A k := by
  by_cases hk : k < A.length
  · simp only [subp, cfq, List.getD, List.getElem?_map, List.getElem?_range hk, Option.map_some, Option.getD_some]
  · rw [cfq_ge (by rw [subp_len]; omega), if_neg (by omega), cfq_ge (by omega)]
theorem subp_zero (A B : List Rat) (c : Rat) {s : Nat} (h : s ≤ A.length) : subp A B c s 0 = A := by
  refine List.ext_getElem (subp_len ..) fun j h1 h2 => ?_
  rw [← cfq_lt h1, cfq_subp (by omega), if_neg (by omega), cfq_lt h2]
theorem subp_set {A B : List Rat} {c : Rat} {s i : Nat} (h : s + (i + 1) ≤ A.length) : ((subp A B c s i).map crat).set (s + i) (crat (cfq A (s + i) - c * cfq B i)) = (subp A B c s (i + 1)).map crat := by
  refine set_crat (by rw [subp_len, subp_len]) ?_ fun j hj hne => ?_
  · rw [cfq_subp h, if_pos ⟨by omega, by omega⟩, Nat.add_sub_cancel_left]
  · rw [cfq_subp h, cfq_subp (by omega)]
    by_cases h1 : s ≤ j ∧ j < s + i
    · rw [if_pos h1, if_pos ⟨h1.1, by omega⟩]
    · rw [if_neg h1, if_neg (by omega)]
theorem subp_end {A B : List Rat} (h : B.length ≤ A.length) : cqs (subp A B (dc A B) (A.length - B.length) B.length) = (dn1 A B).map crat := by
  have e : trimq (subp A B (dc A B) (A.length - B.length) B.length) = dn1 A B := by
    have h1 := trimq_trimq (zipq (fma (-1)) A (mulq (upq (dc A B) (A.length - B.length)) B))
    rw [← show trimq (dn1 A B) = dn1 A B from h1]
    refine trimq_ext fun k => ?_
    rw [cfq_subp (by omega), cfq_dn1]
    by_cases h1 : A.length - B.length ≤ k
    · by_cases h2 : k < A.length - B.length + B.length
      · rw [if_pos ⟨h1, h2⟩, if_pos h1]
      · rw [if_neg (by omega), if_pos h1, cfq_ge (q := B) (by omega)]; grind
    · rw [if_neg (by omega), if_neg h1]; grind
  rw [cqs, e]
theorem dqu_set {A B : List Rat} {N k : Nat} (hs : (dit A B k).length - B.length < N) (h0 : cfq (dqu A B k) ((dit A B k).length - B.length) = 0) : ((padq N (dqu A B k)).map crat).set ((dit A B k).length - B.length) (crat (dc (dit A B k) B)) = (padq N (dqu A B (k + 1))).map crat := by
  refine set_crat (by rw [padq_len, padq_len]) ?_ fun j hj hne => ?_
  · rw [cfq_padq hs, cfq_dqu_succ, if_pos rfl, h0]; grind
  · rw [padq_len] at hj
    rw [cfq_padq hj, cfq_padq hj, cfq_dqu_succ, if_neg hne]; grind
structure DV (A B : List Rat) (n K : Nat) : Prop where
  la : A.length ≤ 2 ^ 28
  lb : B.length ≤ 2 ^ 28
  h0 : B.length ≠ 0
  hb : cfq B (B.length - 1) ≠ 0
  ta : trimq A = A
  tb : trimq B = B
  en : (dit A B n).length < B.length
  hj : ∀ j, j < n → B.length ≤ (dit A B j).length
  za : ∀ k, k ≤ n → ∀ i, qz (cfq (dit A B k) i) ≤ K
  zb : ∀ i, qz (cfq B i) ≤ K
  k1 : 1 ≤ K
  k2 : K ≤ 2 ^ 32
theorem dqu_size {A B : List Rat} {K n : Nat} (h0 : B.length ≠ 0) (hb : cfq B (B.length - 1) ≠ 0) (za : ∀ k, k ≤ n → ∀ i, qz (cfq (dit A B k) i) ≤ K) (zb : ∀ i, qz (cfq B i) ≤ K) (k1 : 1 ≤ K) : ∀ k, k ≤ n → (∀ j, j < k → B.length ≤ (dit A B j).length) → ∀ j, qz (cfq (dqu A B k) j) ≤ K + K
  | 0, _, _, j => by rw [dqu, cfq_nil, qz_zero]; omega
  | k + 1, hk, h, j => by
    have ih := dqu_size h0 hb za zb k1 k (by omega) (fun i hi => h i (by omega)) j
    rw [cfq_dqu_succ]
    by_cases hj : j = (dit A B k).length - B.length
    · have hl := h k (by omega)
      rw [if_pos hj, dqu_low h0 hb k (fun i hi => h i (by omega)) j (by omega), Rat.zero_add]
      have h1 := qz_div (cfq (dit A B k) ((dit A B k).length - 1)) (cfq B (B.length - 1))
      have h2 := za k (by omega) ((dit A B k).length - 1)
      have h3 := zb (B.length - 1)
      unfold dc
      omega
    · rw [if_neg hj, Rat.add_zero]
      exact ih
def hrows : HC → Nat
  | .blk _ _ _ _ rows => rows.length
  | .none => 0
theorem hrows_blk (fz : Bool) (st e sz : Nat) (rows : List (List IV)) : hrows (.blk fz st e sz rows) = rows.length := rfl
set_option maxHeartbeats 1000000 in
theorem qdiv_ok (p q : List RQ) (hp : GQ (2 ^ 30) (2 ^ 32) p) (hq : GQ (2 ^ 30) (2 ^ 32) q) (n K : Nat) (v : DV (trimq (qvs p)) (trimq (qvs q)) n K) : AC Tryz.prog 78 [cqw p, cqw q] none [cqp (dqu (trimq (qvs p)) (trimq (qvs q)) n), cqw ((dit (trimq (qvs p)) (trimq (qvs q)) n).map crat), ci 0] := by
  have m := qboth_own p q (hp.mono (by omega) (by omega)) (hq.mono (by omega) (by omega))
  refine AC.by_walk (rs := [.tmp 4, .tmp 5, .tmp 6]) ords Tryz.func78 (by rfl) (by rfl) (by rfl) (by rfl) (by rfl) ?_
  simp (disch := omega) only [wk, tis, seval, reduceCtorEq, Nat.reduceEqDiff, rqs]
  refine call_by (m) (by rfl) (by simp) ?_
  simp (disch := omega) only [wk, tis, seval, reduceCtorEq, Nat.reduceEqDiff, rqs]
  unfold cqs
  generalize trimq (qvs p) = A at *
  generalize trimq (qvs q) = B at *
  obtain ⟨la, lb, h0, hb, ta, tb, en, hj, za, zb, k1, k2⟩ := v
  have hqa : (A.map crat).length = A.length := List.length_map _
  have hqb : (B.map crat).length = B.length := List.length_map _
  have hb0 : ¬ (B.length : Int) = 0 := by omega
  obtain ⟨N, hN⟩ : ∃ N, N = A.length + 1 - B.length := ⟨_, rfl⟩
  have hNI : max ((A.length : Int) - (B.length : Int) + 1) 0 = (N : Int) := by omega
  simp (disch := omega) only [wk, tis, seval, reduceCtorEq, Nat.reduceEqDiff, rqs, hqa, hqb, hb0, hNI]
  refine aloop_nil 10 10 57 3 (by simp (disch := omega) only [wk, tis, seval, reduceCtorEq, Nat.reduceEqDiff, rqs]) (fun f H => ∃ (i sr st : Nat), i ≤ N ∧ f 40 = .iv (.int .i64 i) ∧ f 39 = .iv (.int .i64 N) ∧ f 7 = .hs 21 sr ∧ f 8 = .iv (.sl (rats (B.map crat))) ∧ H 21 = .blk false sr 57 3 (rats (A.map crat)) ∧ f 10 = .hs 10 st ∧ H 10 = .blk false st 57 3 (rats ((List.replicate i (0 : Rat)).map crat))) (fun f H => (N - intAt f 40).toNat) ?_ ?_
  · refine ⟨0, 1, 1, by omega, ?_⟩
    simp (disch := omega) only [wk, tis, seval, reduceCtorEq, Nat.reduceEqDiff, rqs, ghostF, ghostH, hqa, hqb, hNI, List.replicate_zero, List.map_nil]
  rintro f H ⟨i, sr, st, hi, hF⟩
  rw [intAt_of hF.1]
  simp (disch := omega) only [wk, tis, seval, reduceCtorEq, Nat.reduceEqDiff, rqs, hF]
  refine if_by (fun hlt => ?_) (fun hlt => ?_)
  · have hrq : ((List.replicate i (0 : Rat)).map crat).length = i := by simp
    simp (disch := omega) only [wk, tis, seval, reduceCtorEq, Nat.reduceEqDiff, rqs, hF, hrq]
    refine call_by (qnone_ok) (by first | rfl | (simp only [tocvs, tocv, hF, hrq]; rfl) | (simp only [tocvs, tocv, toboxes, tobox, updH_at, Nat.reduceEqDiff, ↓reduceIte, hF, hrq]; rfl)) (by simp) ?_
    simp (disch := omega) only [wk, tis, seval, reduceCtorEq, Nat.reduceEqDiff, rqs, hF, hrq]
    refine ⟨⟨i + 1, sr, st + 1, by omega, ?_⟩, by omega⟩
    rw [List.replicate_succ', List.map_append]
    (repeat' apply And.intro) <;> first | rfl | omega
  obtain rfl : i = N := by omega
  rw [← padq_nil] at hF
  simp (disch := omega) only [wk, tis, seval, reduceCtorEq, Nat.reduceEqDiff, rqs, hF]
  refine aloop_by (fun f H => ∃ k sr sq : Nat, k ≤ n ∧ f 7 = .hs 21 sr ∧ f 8 = .iv (.sl (rats (B.map crat))) ∧ f 10 = .hs 10 sq ∧ H 21 = .blk false sr 57 3 (rats ((dit A B k).map crat)) ∧ H 10 = .blk false sq 57 3 (rats ((padq i (dqu A B k)).map crat))) (fun f H => hrows (H 21)) ?_ ?_
  · exact ⟨0, sr, st, Nat.zero_le _, by simp (disch := omega) only [wk, tis, seval, reduceCtorEq, Nat.reduceEqDiff, rqs, hF], by simp (disch := omega) only [wk, tis, seval, reduceCtorEq, Nat.reduceEqDiff, rqs, hF], by simp (disch := omega) only [wk, tis, seval, reduceCtorEq, Nat.reduceEqDiff, rqs, hF], hF.2.2.2.2.1, hF.2.2.2.2.2.2⟩
  rintro f H ⟨k, sr, sq, hk, h7, h8, h10, hH1, hH2⟩
  have hql : ((dit A B k).map crat).length = (dit A B k).length := List.length_map _
  rw [show hrows (H 21) = (dit A B k).length by rw [hH1, hrows_blk, rats_length, hql]]
  by_cases hge : B.length ≤ (dit A B k).length
  · have hkn : k < n := Nat.lt_of_le_of_ne hk fun e => by rw [e] at hge; omega
    have hl1 := dit_len h0 hb k fun j hjk => hj j (by omega)
    have hlow := dqu_low h0 hb k (fun j hjk => hj j (by omega)) ((dit A B k).length - B.length) (by omega)
    have hset := dqu_set (N := i) (k := k) (A := A) (B := B) (by omega) hlow
    have hend := subp_end hge
    have hdn := dn1_len h0 hb hge
    have zx := za k hk
    have zx1 := za (k + 1) hkn
    rw [show dit A B (k + 1) = dn1 (dit A B k) B from rfl] at zx1
    have hdit : dit A B (k + 1) = dn1 (dit A B k) B := rfl
    generalize hQ' : dqu A B (k + 1) = Q' at *
    generalize hXX : dit A B k = X at *
    generalize dqu A B k = Q at *
    obtain ⟨s, hs⟩ : ∃ s, s = X.length - B.length := ⟨_, rfl⟩
    rw [← hs] at hset hend
    have zc := qz_div (cfq X (X.length - 1)) (cfq B (B.length - 1))
    have zc1 := zx (X.length - 1)
    have zc2 := zb (B.length - 1)
    have mq := qquo_ok (crat (cfq X (X.length - 1))) (crat (cfq B (B.length - 1))) (szq_crat (by omega)) (szq_crat (by omega)) (nv_crat0 _) (nv_crat0 _) (by rw [iv_crat]; exact fun e => hb (Rat.num_eq_zero.mp e))
    rw [qv_crat, qv_crat, show cfq X (X.length - 1) / cfq B (B.length - 1) = dc X B from rfl] at mq
    rw [show cfq X (X.length - 1) / cfq B (B.length - 1) = dc X B from rfl] at zc
    have hge' : (B.length : Int) ≤ (X.length : Int) := by omega
    have e1 : (X.length : Int) - 1 = ((X.length - 1 : Nat) : Int) := by omega
    have e2 : (B.length : Int) - 1 = ((B.length - 1 : Nat) : Int) := by omega
    have e3 : (X.length : Int) - (B.length : Int) = (s : Int) := by omega
    have g1 := cratq_get (q := X) (i := X.length - 1) (by omega)
    have g2 := cratq_get (q := B) (i := B.length - 1) (by omega)
    have hs0 := subp_zero X B (dc X B) (s := s) (by omega)
    simp (disch := omega) only [wk, tis, seval, reduceCtorEq, Nat.reduceEqDiff, rqs, h7, h8, h10, hH1, hH2, hql, hqb, hge', e1, e2, e3, g1, g2]
    refine ⟨tmps_by (by kernel_rfl), ?_⟩
    refine call_by (mq) (by first | rfl | (simp only [tocvs, tocv, h7, h8, h10, hH1, hH2, hql, hqb, hge', e1, e2, e3, g1, g2]; rfl) | (simp only [tocvs, tocv, toboxes, tobox, updH_at, Nat.reduceEqDiff, ↓reduceIte, h7, h8, h10, hH1, hH2, hql, hqb, hge', e1, e2, e3, g1, g2]; rfl)) (by simp) ?_
    simp (disch := omega) only [wk, tis, seval, reduceCtorEq, Nat.reduceEqDiff, rqs, h7, h8, h10, hH1, hH2, hql, hqb, hge', e1, e2, e3, g1, g2]
    first | exact log_by (by kernel_rfl) | refine ⟨log_by (by kernel_rfl), ?_⟩
    refine aloop_by (fun f H => ∃ (j sc : Nat), j ≤ B.length ∧ f 75 = .iv (.int .i64 j) ∧ f 74 = .iv (.int .i64 B.length) ∧ f 73 = .iv (.sl (rats (B.map crat))) ∧ f 8 = .iv (.sl (rats (B.map crat))) ∧ f 7 = .hs 21 sr ∧ f 10 = .hs 10 sq ∧ f 11 = .iv (.int .i64 s) ∧ f 12 = .hp 12 sc 0 0 ∧ H 12 = .blk false sc 57 3 [qrow (crat (dc X B))] ∧ H 21 = .blk false sr 57 3 (rats ((subp X B (dc X B) s j).map crat)) ∧ H 10 = .blk false sq 57 3 (rats ((padq i Q).map crat))) (fun f H => (B.length - intAt f 75).toNat) ?_ ?_
    · refine ⟨0, (H 12).stamp + 1, by omega, ?_⟩
      simp (disch := omega) only [wk, tis, seval, reduceCtorEq, Nat.reduceEqDiff, rqs, h7, h8, h10, hH1, hH2, hql, hqb, hs0]
    rintro f H ⟨j, sc, hjl, hF⟩
    rw [intAt_of hF.1]
    simp (disch := omega) only [wk, tis, seval, reduceCtorEq, Nat.reduceEqDiff, rqs, hF]
    refine if_by (fun hlt => ?_) (fun hlt => ?_)
    · have hlt' : j < B.length := by omega
      have hsl : ((subp X B (dc X B) s j).map crat).length = X.length := by rw [List.length_map, subp_len]
      have e4 : (s : Int) + (j : Int) = ((s + j : Nat) : Int) := by omega
      have g3 := cratq_get hlt'
      have g4 := cratq_get (q := subp X B (dc X B) s j) (i := s + j) (by rw [subp_len]; omega)
      rw [cfq_subp (by omega), if_neg (by omega)] at g4
      have zj := zb j
      have zs := zx (s + j)
      have zm := qz_mul (dc X B) (cfq B j)
      have mm := qmul_ok (crat (dc X B)) (crat (cfq B j)) (szq_crat (by omega)) (szq_crat (by omega)) (nv_crat0 _) (nv_crat0 _)
      have ms := qsub_ok (crat (cfq X (s + j))) (crat (dc X B * cfq B j)) (szq_crat (by omega)) (szq_crat (by omega)) (nv_crat0 _) (nv_crat0 _)
      rw [qv_crat, qv_crat] at mm ms
      have hst := subp_set (A := X) (B := B) (c := dc X B) (s := s) (i := j) (by omega)
      simp (disch := omega) only [wk, tis, seval, reduceCtorEq, Nat.reduceEqDiff, rqs, hF, hqb, hsl, e4, g3, g4]
      refine call_by (mm) (by first | rfl | (simp only [tocvs, tocv, hF, hqb, hsl, e4, g3, g4]; rfl) | (simp only [tocvs, tocv, toboxes, tobox, updH_at, Nat.reduceEqDiff, ↓reduceIte, hF, hqb, hsl, e4, g3, g4]; rfl)) (by simp) ?_
      simp (disch := omega) only [wk, tis, seval, reduceCtorEq, Nat.reduceEqDiff, rqs, hF, hqb, hsl, e4, g3, g4]
      refine ⟨tmps_by (by kernel_rfl), ?_⟩
      refine call_by (ms) (by first | rfl | (simp only [tocvs, tocv, hF, hqb, hsl, e4, g3, g4]; rfl) | (simp only [tocvs, tocv, toboxes, tobox, updH_at, Nat.reduceEqDiff, ↓reduceIte, hF, hqb, hsl, e4, g3, g4]; rfl)) (by simp) ?_
      simp (disch := omega) only [wk, tis, seval, reduceCtorEq, Nat.reduceEqDiff, rqs, hF, hqb, hsl, e4, g3, g4]
      first | exact log_by (by kernel_rfl) | refine ⟨log_by (by kernel_rfl), ?_⟩
      simp (disch := omega) only [wk, tis, seval, reduceCtorEq, Nat.reduceEqDiff, rqs, hF, hst]
      refine ⟨⟨j + 1, sc, by omega, ?_⟩, by omega⟩
      (repeat' apply And.intro) <;> first | rfl | omega
    · obtain rfl : j = B.length := by omega
      have hpl : ((padq i Q).map crat).length = i := by rw [List.length_map, padq_len]
      have hsq : QB (2 ^ 40) (2 ^ 38) (subp X B (dc X B) s B.length) := .of (by rw [subp_len]; omega) fun a => by
        rw [cfq_subp (by omega)]
        have z1 := zx a
        have z2 := zb (a - s)
        have z3 := qz_mul (dc X B) (cfq B (a - s))
        have z4 := qz_sub (cfq X a) (dc X B * cfq B (a - s))
        split <;> omega
      have tt := qtrim_t _ hsq
      rw [hend] at tt
      have hql2 : ((dn1 X B).map crat).length = (dn1 X B).length := List.length_map _
      simp (disch := omega) only [wk, tis, seval, reduceCtorEq, Nat.reduceEqDiff, rqs, hF, hpl, hset]
      refine callt_by (tt) (by first | rfl | (simp (disch := omega) only [wk, tis, seval, reduceCtorEq, Nat.reduceEqDiff, rqs, hF, hpl, hset]; done)) (by first | rfl | (simp (disch := omega) only [wk, tis, seval, reduceCtorEq, Nat.reduceEqDiff, rqs, hF, hpl, hset]; done)) (by first | rfl | (simp only [tocvs, tocv, List.set_cons_zero, List.set_cons_succ, hF, hpl, hset]; rfl)) (by simp) (by simp) ?_
      simp (disch := omega) only [wk, tis, seval, reduceCtorEq, Nat.reduceEqDiff, rqs, hF, hpl, hset]
      simp (disch := omega) only [wk, tis, seval, reduceCtorEq, Nat.reduceEqDiff, rqs, hrows_blk, rats_length, hql2]
      refine ⟨⟨k + 1, sr + 1, sq, hkn, ?_⟩, hdn⟩
      rw [hdit, hQ']
      (repeat' apply And.intro) <;> first | rfl | omega
  · obtain rfl : k = n := by
      rcases Nat.lt_or_ge k n with h | h
      · exact absurd (hj k h) hge
      · omega
    have hge' : ¬ (B.length : Int) ≤ ((dit A B k).length : Int) := by omega
    have dl := dqu_len h0 hb k hj
    have hpl : ((padq i (dqu A B k)).map crat).length = i := by rw [List.length_map, padq_len]
    have zd := dqu_size h0 hb za zb k1 k (Nat.le_refl _) hj
    have tq := qtrim_own (padq i (dqu A B k)) (.of (by rw [padq_len]; omega) fun a => by
      rw [padq_all (by omega)]
      have := zd a
      omega)
    rw [show cqp (padq i (dqu A B k)) = cqp (dqu A B k) from congrArg cqw (cqs_ext (padq_all (by omega)))] at tq
    simp (disch := omega) only [wk, tis, seval, reduceCtorEq, Nat.reduceEqDiff, rqs, h7, h8, h10, hH1, hH2, hql, hqb, hge']
    refine call_by (tq) (by first | rfl | (simp only [tocvs, tocv, h7, h8, h10, hH1, hH2, hql, hqb, hge', hpl]; rfl) | (simp only [tocvs, tocv, toboxes, tobox, updH_at, Nat.reduceEqDiff, ↓reduceIte, h7, h8, h10, hH1, hH2, hql, hqb, hge', hpl]; rfl)) (by simp) ?_
    simp (disch := omega) only [wk, tis, seval, reduceCtorEq, Nat.reduceEqDiff, rqs, h7, h8, h10, hH1, hH2, hql, hqb, hge', hpl]
    try rfl
end Go.Proofs.YtlmkieimciodoaaGreat

namespace Go.Proofs.YtlmkieimciodoaaGreat
open Go Go.Proofs Go.AL
set_option linter.unusedSimpArgs false
set_option linter.unusedVariables false
end Go.Proofs.YtlmkieimciodoaaGreat

namespace Go.Proofs.YtlmkieimciodoaaGreat
open Go Go.Proofs Go.AL
set_option linter.unusedSimpArgs false
set_option linter.unusedVariables false
end Go.Proofs.YtlmkieimciodoaaGreat

namespace Go.Proofs.YtlmkieimciodoaaGreat
open Go Go.Proofs Go.AL
set_option linter.unusedSimpArgs false
set_option linter.unusedVariables false
def PWH (A : List Rat) (m N K : Nat) : Prop := ∀ k, k ≤ m → ∃ D, CB D N K (powq A k)
structure PWK (A : List Rat) (m N K : Nat) : Prop where
  h : ∀ k, k ≤ m → ∃ D, CB D N K (trimq (powq A k))
theorem PWH.k {A : List Rat} {m N K : Nat} (h : PWH A m N K) : PWK A m N K := ⟨fun k hk => by
  obtain ⟨D, hD⟩ := h k hk
  exact ⟨D, hD.trim⟩⟩
theorem PWK.mono {A : List Rat} {m N K N' K' : Nat} (h : PWK A m N K) (hN : N ≤ N') (hK : K ≤ K') : PWK A m N' K' := ⟨fun k hk => by
  obtain ⟨D, hD⟩ := h.h k hk
  exact ⟨D, hD.mono hN hK⟩⟩
theorem CB.part {D E n m M N : Nat} {A B : List Rat} (hA : CB D n M A) (hB : CB E m N B) (h1 : 1 ≤ M + N + (n + m)) (i k : Nat) : qz (cvq (A.take i) (cfq B) k) ≤ M + N + (n + m) := by
  have h := ((hA.sub (r := A.take i) (by rw [List.length_take]; have := hA.l; omega) fun c hc => List.mem_of_mem_take hc).mulq hB).qb.cz h1 k
  rwa [cfq_mulq] at h
end Go.Proofs.YtlmkieimciodoaaGreat

namespace Go.Proofs.YtlmkieimciodoaaGreat
open Go Go.Proofs Go.AL
set_option linter.unusedSimpArgs false
set_option linter.unusedVariables false
end Go.Proofs.YtlmkieimciodoaaGreat

namespace Go.Proofs.YtlmkieimciodoaaGreat
open Go Go.Proofs Go.AL
set_option linter.unusedSimpArgs false
set_option linter.unusedVariables false
def lineq (c : Rat) : List Rat := [-c, 1]
def froot (X : List Rat) (b : Nat) : Nat → List Rat
  | 0 => [1]
  | k + 1 => if k = b then froot X b k else mulq (froot X b k) (lineq (cfq X k))
theorem CB.addq {D E n m M N : Nat} {A B : List Rat} (hA : CB D n M A) (hB : CB E m N B) : CB (D * E) (max n m) (M + N + 1) (addq A B) where
  d := Nat.mul_ne_zero hA.d hB.d
  w := by
    have h1 := AL.wd_mul_len D E
    have h2 := hA.w
    have h3 := hB.w
    omega
  l := by
    simp only [Go.Proofs.YtlmkieimciodoaaGreat.addq, List.length_map, List.length_range]
    have := hA.l
    have := hB.l
    omega
  c := fun c hc => by
    obtain ⟨k, hk, rfl⟩ := List.getElem_of_mem hc
    rw [← cfq_lt hk, cfq_addq]
    have h1 := CD.up hA.d hB.d hB.w (CD.cf hA k)
    have h2 := CD.up hB.d hA.d hA.w (CD.cf hB k)
    rw [Nat.mul_comm] at h2
    exact (h1.add h2).mono (by omega)
theorem CB.const {c : Rat} {K : Nat} (h : qz c ≤ K) : CB c.den 1 K [c] where
  d := c.den_nz
  w := Nat.le_trans (qz_parts c).2 h
  l := Nat.le_refl _
  c := fun x hx => by
    rcases List.mem_singleton.1 hx with rfl
    exact (CD.ofRat x).mono (Nat.le_trans (qz_parts x).1 h)
def newc (X Y S : List Rat) (k : Nat) : Rat := (cfq Y k - evq S (cfq X k)) / evq (froot X X.length k) (cfq X k)
def news (X Y : List Rat) : Nat → List Rat
  | 0 => []
  | k + 1 => addq (news X Y k) (sclq (newc X Y (news X Y k) k) (froot X X.length k))
end Go.Proofs.YtlmkieimciodoaaGreat

namespace Go.Proofs.YtlmkieimciodoaaGreat
open Go Go.Proofs Go.AL
set_option linter.unusedSimpArgs false
set_option linter.unusedVariables false
theorem tzq_take_snoc (q : List Rat) {i : Nat} (h : i < q.length) : tzq (q.take (i + 1)) = if cfq q i ≠ 0 then i + 1 else tzq (q.take i) := by
  by_cases hz : cfq q i = 0
  · rw [if_neg (by simpa using hz)]; exact tzq_take_zero h hz
  · rw [if_pos hz]; exact tzq_full h hz
theorem nq_ok (p : List RQ) (h : GQ (2 ^ 40) (2 ^ 38) p) : AC Tryz.prog 82 [cqw p] none [cqp (qvs p)] := by
  refine AC.by_walk (rs := [.tmp 2]) ords Tryz.func82 (by rfl) (by rfl) (by rfl) (by rfl) (by rfl) ?_
  have hl := h.1
  have hpl := qvs_len p
  have tz0 : tzq [] = 0 := rfl
  simp (disch := omega) only [wk, tis, seval, reduceCtorEq, Nat.reduceEqDiff, rqs]
  refine aloop_by (fun f H => ∃ (i st : Nat), i ≤ p.length ∧ f 5 = .iv (.int .i64 i) ∧ f 4 = .iv (.int .i64 (tzq ((qvs p).take i))) ∧ f 0 = .iv (.sl (rats p)) ∧ f 3 = .hs 7 st ∧ H 7 = .blk false st 57 3 (rats (((qvs p).take i).map crat))) (fun f H => (p.length - intAt f 5).toNat) ?_ ?_
  · refine ⟨0, 1, by omega, ?_⟩
    simp (disch := omega) only [wk, tis, seval, reduceCtorEq, Nat.reduceEqDiff, rqs, List.take_zero, List.map_nil, tz0]
  rintro f H ⟨i, st, hi, hF⟩
  rw [intAt_of hF.1]
  simp (disch := omega) only [wk, tis, seval, reduceCtorEq, Nat.reduceEqDiff, rqs, hF]
  refine if_by (fun hlt => ?_) (fun hlt => ?_)
  · have hip : i < p.length := by omega
    have hq : (((qvs p).take i).map crat).length = i := by rw [List.length_map, List.length_take]; omega
    have hr := h.get hip
    have hd := h.den hip
    have m := rR_ok (p.getD i q0).1 (p.getD i q0).2 hr.1 hr.2 hd
    rw [show mkRat (iv (p.getD i q0).1) (nv (p.getD i q0).2) = cfq (qvs p) i from (cfq_qvs p i).symm] at m
    have zc := qz_raw hr hd
    rw [← cfq_qvs] at zc
    have s := hS_ok (crat (cfq (qvs p) i)) ((szq_crat zc).1.mono (by omega))
    rw [sgq_qv (nv_crat0 _), qv_crat] at s
    have et := tzq_take_snoc (qvs p) (i := i) (by omega)
    have e := takeq_snoc (q := qvs p) (i := i) (by omega)
    simp (disch := omega) only [wk, tis, seval, reduceCtorEq, Nat.reduceEqDiff, rqs, hF, hq]
    refine ⟨tmps_by (by kernel_rfl), ?_⟩
    refine call_by (m) (by first | rfl | (simp only [tocvs, tocv, hF, hq]; rfl) | (simp only [tocvs, tocv, toboxes, tobox, updH_at, Nat.reduceEqDiff, ↓reduceIte, hF, hq]; rfl)) (by simp) ?_
    simp (disch := omega) only [wk, tis, seval, reduceCtorEq, Nat.reduceEqDiff, rqs, hF, hq]
    first | exact log_by (by kernel_rfl) | refine ⟨log_by (by kernel_rfl), ?_⟩
    by_cases hz : cfq (qvs p) i = 0
    · rw [if_neg (by simpa using hz)] at et
      rw [hz, sgq_zero] at s
      rw [hz] at e
      rw [hz]
      refine call_by (s) (by first | rfl | (simp only [tocvs, tocv, hF, hq]; rfl) | (simp only [tocvs, tocv, toboxes, tobox, updH_at, Nat.reduceEqDiff, ↓reduceIte, hF, hq]; rfl)) (by simp) ?_
      simp (disch := omega) only [wk, tis, seval, reduceCtorEq, Nat.reduceEqDiff, rqs, hF, hq]
      refine ⟨⟨i + 1, st + 1, by omega, ?_⟩, by omega⟩
      rw [et, e, List.map_append]
      (repeat' apply And.intro) <;> first | rfl | omega
    · rw [if_pos hz] at et
      have hs : ¬ sgq (cfq (qvs p) i) = 0 := fun h => hz (sgq_eq_zero.mp h)
      refine call_by (s) (by first | rfl | (simp only [tocvs, tocv, hF, hq, hs]; rfl) | (simp only [tocvs, tocv, toboxes, tobox, updH_at, Nat.reduceEqDiff, ↓reduceIte, hF, hq, hs]; rfl)) (by simp) ?_
      simp (disch := omega) only [wk, tis, seval, reduceCtorEq, Nat.reduceEqDiff, rqs, hF, hq, hs]
      refine ⟨⟨i + 1, st + 1, by omega, ?_⟩, by omega⟩
      rw [et, e, List.map_append]
      (repeat' apply And.intro) <;> first | rfl | omega
  · obtain rfl : i = p.length := by omega
    rw [List.take_of_length_le (by omega)] at hF
    have htl : tzq (qvs p) ≤ p.length := by have := tzq_le (qvs p); omega
    have hq : ((qvs p).map crat).length = p.length := by rw [List.length_map]; omega
    simp (disch := omega) only [wk, tis, seval, reduceCtorEq, Nat.reduceEqDiff, rqs, hF, hq]
    rw [cqs, trimq, List.map_take]
    first | exact ⟨htl, rfl⟩ | rfl | (refine ⟨htl, ?_⟩; rfl)
theorem sameq11_self (a : List RQ) (ha : BQ (2 ^ 40) (2 ^ 40) a) : AC Tryz.prog 40 [cqw a, cqw a] none [cb true] := by
  have hl := ha.1
  refine AC.by_walk (rs := [.tmp 4]) ords Tryz.func40 (by rfl) (by rfl) (by rfl) (by rfl) (by rfl) ?_
  simp (disch := omega) only [wk, tis, seval, reduceCtorEq, Nat.reduceEqDiff, rqs]
  refine aloop_by (fun f H => ∃ (i : Nat), i ≤ a.length ∧ f 5 = .iv (.int .i64 i) ∧ f 0 = .iv (.sl (rats a)) ∧ f 1 = .iv (.sl (rats a))) (fun f H => (a.length - intAt f 5).toNat) ?_ ?_
  · refine ⟨0, by omega, ?_⟩
    simp (disch := omega) only [wk, tis, seval, reduceCtorEq, Nat.reduceEqDiff, rqs]
  rintro f H ⟨i, hi, hF⟩
  rw [intAt_of hF.1]
  simp (disch := omega) only [wk, tis, seval, reduceCtorEq, Nat.reduceEqDiff, rqs, hF]
  refine if_by (fun hlt => ?_) (fun hlt => ?_)
  · have hip : i < a.length := by omega
    have s := hsame_ok (a.getD i q0) (a.getD i q0) ((ha.get hip).mono (by omega)) ((ha.get hip).mono (by omega))
    rw [decide_eq_true rfl] at s
    simp (disch := omega) only [wk, tis, seval, reduceCtorEq, Nat.reduceEqDiff, rqs, hF]
    refine ⟨tmps_by (by kernel_rfl), ?_⟩
    refine call_by (s) (by first | rfl | (simp only [tocvs, tocv, hF]; rfl) | (simp only [tocvs, tocv, toboxes, tobox, updH_at, Nat.reduceEqDiff, ↓reduceIte, hF]; rfl)) (by simp) ?_
    simp (disch := omega) only [wk, tis, seval, reduceCtorEq, Nat.reduceEqDiff, rqs, hF]
    first | exact log_by (by kernel_rfl) | refine ⟨log_by (by kernel_rfl), ?_⟩
    refine ⟨⟨i + 1, by omega, ?_⟩, by omega⟩
    (repeat' apply And.intro) <;> first | rfl | omega
  · simp (disch := omega) only [wk, tis, seval, reduceCtorEq, Nat.reduceEqDiff, rqs, hF]
end Go.Proofs.YtlmkieimciodoaaGreat

namespace Go.Proofs.YtlmkieimciodoaaGreat
open Go Go.Proofs Go.AL
set_option linter.unusedSimpArgs false
set_option linter.unusedVariables false
end Go.Proofs.YtlmkieimciodoaaGreat

namespace Go.Proofs.YtlmkieimciodoaaGreat
open Go Go.Proofs Go.AL
set_option linter.unusedSimpArgs false
set_option linter.unusedVariables false
theorem qsc1_ok (a b : Rat) (c : RQ) (K : Nat) (ha : qz a ≤ K) (hc : SzQ K c) (h0 : nv c.2 ≠ 0) (hK : K ≤ 2 ^ 35) : AC Tryz.prog 128 [cqz a, cqz b, .box (qrow c)] none [cqz (a * qv c), ci 0] := by
  have m := qmul_ok (crat a) c (szq_crat (by omega)) (hc.mono hK) (nv_crat0 _) h0
  rw [qv_crat] at m
  refine AC.by_walk (rs := [.cell 5 57, .tmp 6]) ords Tryz.func128 (by rfl) (by rfl) (by rfl) (by rfl) (by rfl) ?_
  simp (disch := omega) only [wk, tis, seval, reduceCtorEq, Nat.reduceEqDiff, rqs, List.map_cons, List.map_nil]
  refine call_by (m) (by first | rfl | (simp only [tocvs, tocv, List.map_cons, List.map_nil]; rfl) | (simp only [tocvs, tocv, toboxes, tobox, updH_at, Nat.reduceEqDiff, ↓reduceIte, List.map_cons, List.map_nil]; rfl)) (by simp) ?_
  simp (disch := omega) only [wk, tis, seval, reduceCtorEq, Nat.reduceEqDiff, rqs, List.map_cons, List.map_nil]
  try rfl
theorem qeach1_ok (p q : List RQ) (g : Nat) (row : List IV) (F : Rat → Rat → Rat) (K : Nat) (hp : GQ (2 ^ 30) K p) (hq : GQ (2 ^ 30) K q) (hK : K ≤ 2 ^ 35) (hK1 : 1 ≤ K) (hF0 : F 0 0 = 0) (hs : ∀ a b, qz a ≤ K → qz b ≤ K → qz (F a b) ≤ 2 ^ 38)
    (hop : ∀ a b, qz a ≤ K → qz b ≤ K → AC Tryz.prog g [cqz a, cqz b, .box row] none [cqz (F a b), ci 0]) : AC Tryz.prog 127 [cqw p, cqw q, .fn g [row]] none [cqp (zipq F (qvs p) (qvs q)), ci 0] := by
  have m := qboth_ok p q (hp.mono (by omega) (by omega)) (hq.mono (by omega) (by omega))
  have hA := hp.qb.trimq
  have hB := hq.qb.trimq
  have e : cqp (zipq F (qvs p) (qvs q)) = cqp (zipq F (trimq (qvs p)) (trimq (qvs q))) := congrArg cqw (cqs_ext fun k => by rw [cfq_zipq hF0, cfq_zipq hF0, cfq_trimq, cfq_trimq])
  rw [e]
  refine AC.by_walk (rs := [.tmp 6, .tmp 7]) ords Tryz.func127 (by rfl) (by rfl) (by rfl) (by rfl) (by rfl) ?_
  simp (disch := omega) only [wk, tis, seval, reduceCtorEq, Nat.reduceEqDiff, rqs, List.map_cons, List.map_nil]
  refine call_by (m) (by first | rfl | (simp only [tocvs, tocv, List.map_cons, List.map_nil]; rfl) | (simp only [tocvs, tocv, toboxes, tobox, updH_at, Nat.reduceEqDiff, ↓reduceIte, List.map_cons, List.map_nil]; rfl)) (by simp) ?_
  simp (disch := omega) only [wk, tis, seval, reduceCtorEq, Nat.reduceEqDiff, rqs, List.map_cons, List.map_nil]
  unfold cqs
  generalize trimq (qvs p) = A at *
  generalize trimq (qvs q) = B at *
  have hAl := hA.1
  have hBl := hB.1
  have hqa : (A.map crat).length = A.length := List.length_map _
  have hqb : (B.map crat).length = B.length := List.length_map _
  have hRl := zipq_len F A B
  have hR : QB (2 ^ 40) (2 ^ 38) (zipq F A B) := .of (by omega) fun i => by rw [cfq_zipq hF0]; exact hs _ _ (hA.cz hK1 i) (hB.cz hK1 i)
  obtain ⟨n, hn⟩ : ∃ n, n = max A.length B.length := ⟨_, rfl⟩
  have hnI : max (A.length : Int) (B.length : Int) = (n : Int) := by omega
  rw [← hn] at hRl
  simp (disch := omega) only [wk, tis, seval, reduceCtorEq, Nat.reduceEqDiff, rqs, hqa, hqb, hnI]
  refine aloop_nil 11 11 57 3 (by simp (disch := omega) only [wk, tis, seval, reduceCtorEq, Nat.reduceEqDiff, rqs]) (fun f H => ∃ (i st : Nat), i ≤ n ∧ f 30 = .iv (.int .i64 i) ∧ f 29 = .iv (.int .i64 n) ∧ f 8 = .iv (.sl (rats (A.map crat))) ∧ f 9 = .iv (.sl (rats (B.map crat))) ∧ f 2 = .fn g [.ip row] ∧ f 11 = .hs 11 st ∧ H 11 = .blk false st 57 3 (rats (((zipq F A B).take i).map crat))) (fun f H => (n - intAt f 30).toNat) ?_ ?_
  · refine ⟨0, 1, by omega, ?_⟩
    simp (disch := omega) only [wk, tis, seval, reduceCtorEq, Nat.reduceEqDiff, rqs, ghostF, ghostH, List.take_zero, List.map_nil, List.map_cons, hqa, hqb, hnI]
  rintro f H ⟨i, st, hi, hF⟩
  rw [intAt_of hF.1]
  simp (disch := omega) only [wk, tis, seval, reduceCtorEq, Nat.reduceEqDiff, rqs, hF]
  refine if_by (fun hlt => ?_) (fun hlt => ?_)
  · have hq : (((zipq F A B).take i).map crat).length = i := by rw [List.length_map, List.length_take]; omega
    have c1 := qcoef_nat A i (hA.mono (by omega) (by omega))
    have c2 := qcoef_nat B i (hB.mono (by omega) (by omega))
    have o := hop (cfq A i) (cfq B i) (hA.cz hK1 i) (hB.cz hK1 i)
    simp (disch := omega) only [wk, tis, seval, reduceCtorEq, Nat.reduceEqDiff, rqs, hF, hq]
    refine call_by (c1) (by first | rfl | (simp only [tocvs, tocv, hF, hq]; rfl) | (simp only [tocvs, tocv, toboxes, tobox, updH_at, Nat.reduceEqDiff, ↓reduceIte, hF, hq]; rfl)) (by simp) ?_
    simp (disch := omega) only [wk, tis, seval, reduceCtorEq, Nat.reduceEqDiff, rqs, hF, hq]
    refine call_by (c2) (by first | rfl | (simp only [tocvs, tocv, hF, hq]; rfl) | (simp only [tocvs, tocv, toboxes, tobox, updH_at, Nat.reduceEqDiff, ↓reduceIte, hF, hq]; rfl)) (by simp) ?_
    simp (disch := omega) only [wk, tis, seval, reduceCtorEq, Nat.reduceEqDiff, rqs, hF, hq]
    refine call_by (o) (by first | rfl | (simp only [tocvs, tocv, hF, hq]; rfl) | (simp only [tocvs, tocv, toboxes, tobox, updH_at, Nat.reduceEqDiff, ↓reduceIte, hF, hq]; rfl)) (by simp) ?_
    simp (disch := omega) only [wk, tis, seval, reduceCtorEq, Nat.reduceEqDiff, rqs, hF, hq]
    have e := takeq_snoc (q := zipq F A B) (i := i) (by omega)
    rw [cfq_zipq hF0] at e
    refine ⟨⟨i + 1, st + 1, by omega, ?_⟩, by omega⟩
    rw [e, List.map_append]
    (repeat' apply And.intro) <;> first | rfl | omega
  · simp (disch := omega) only [wk, tis, seval, reduceCtorEq, Nat.reduceEqDiff, rqs, hF]
    rw [List.take_of_length_le (by omega)] at hF
    have m := qtrim_own (zipq F A B) hR
    refine call_by (m) (by first | rfl | (simp only [tocvs, tocv, hF]; rfl) | (simp only [tocvs, tocv, toboxes, tobox, updH_at, Nat.reduceEqDiff, ↓reduceIte, hF]; rfl)) (by simp) ?_
    simp (disch := omega) only [wk, tis, seval, reduceCtorEq, Nat.reduceEqDiff, rqs, hF]
theorem qscale_ok (p : List RQ) (c : RQ) (K : Nat) (hp : GQ (2 ^ 30) K p) (hc : SzQ K c) (h0 : nv c.2 ≠ 0) (hK : K ≤ 2 ^ 35) (hK1 : 1 ≤ K) : AC Tryz.prog 80 [cqw p, cqq c] none [cqp (sclq (qv c) (qvs p)), ci 0] := by
  have k := qcheck_good c ⟨Nat.le_trans hc.2.1 (by omega), hc.2.2⟩ h0
  have zc := qz_raw hc h0
  have m := qeach1_ok p [] 128 (qrow c) (fun a _ => a * qv c) K hp ⟨Nat.zero_le _, fun r hr => nomatch hr⟩ hK hK1 (Rat.zero_mul _) (fun a b ha hb => by have := qz_mul a (qv c); omega) (fun a b ha hb => qsc1_ok a b c K ha hc h0 hK)
  rw [show cqp (zipq (fun a _ => a * qv c) (qvs p) (qvs [])) = cqp (sclq (qv c) (qvs p)) from congrArg cqw (cqs_ext fun j => by rw [cfq_zipq (F := fun a _ => a * qv c) (Rat.zero_mul _), cfq_sclq])] at m
  refine AC.by_walk (rs := [.tmp 4, .tmp 5]) ords Tryz.func80 (by rfl) (by rfl) (by rfl) (by rfl) (by rfl) ?_
  simp (disch := omega) only [wk, tis, seval, reduceCtorEq, Nat.reduceEqDiff, rqs]
  refine call_by (k) (by rfl) (by simp) ?_
  simp (disch := omega) only [wk, tis, seval, reduceCtorEq, Nat.reduceEqDiff, rqs]
  refine call_by (m) (by first | rfl | (simp only [tocvs, tocv, List.map_nil]; rfl) | (simp only [tocvs, tocv, toboxes, tobox, updH_at, Nat.reduceEqDiff, ↓reduceIte, List.map_nil]; rfl)) (by simp) ?_
  simp (disch := omega) only [wk, tis, seval, reduceCtorEq, Nat.reduceEqDiff, rqs, List.map_nil]
  try rfl
end Go.Proofs.YtlmkieimciodoaaGreat

namespace Go.Proofs.YtlmkieimciodoaaGreat
open Go Go.Proofs Go.AL
set_option linter.unusedSimpArgs false
set_option linter.unusedVariables false
end Go.Proofs.YtlmkieimciodoaaGreat

namespace Go.Proofs.YtlmkieimciodoaaGreat
open Go Go.Proofs Go.AL
set_option linter.unusedSimpArgs false
set_option linter.unusedVariables false
end Go.Proofs.YtlmkieimciodoaaGreat

namespace Go.Proofs.YtlmkieimciodoaaGreat
open Go Go.Proofs Go.AL
set_option linter.unusedSimpArgs false
set_option linter.unusedVariables false
end Go.Proofs.YtlmkieimciodoaaGreat

namespace Go.Proofs.YtlmkieimciodoaaGreat
open Go Go.Proofs Go.AL
set_option linter.unusedSimpArgs false
set_option linter.unusedVariables false
end Go.Proofs.YtlmkieimciodoaaGreat

namespace Go.Proofs.YtlmkieimciodoaaGreat
open Go Go.Proofs Go.AL
set_option linter.unusedSimpArgs false
set_option linter.unusedVariables false
end Go.Proofs.YtlmkieimciodoaaGreat

namespace Go.Proofs.YtlmkieimciodoaaGreat
open Go Go.Proofs Go.AL
set_option linter.unusedSimpArgs false
set_option linter.unusedVariables false
theorem overq_ok (p : List RI) (h : RP (2 ^ 40) (2 ^ 37) p) : AC Tryz.prog 39 [cw p] none [cqp (qp (pv p))] := by
  have hl := h.1
  have hql : (qp (pv p)).length = p.length := by rw [qp_len, pv_len]
  have hX : QB (2 ^ 40) (2 ^ 38) (qp (pv p)) := .of (by omega) fun k => by
    rw [cfq_qp]
    have h1 := qz_int (cf (pv p) k)
    have h2 := h.pv.cf k
    omega
  have n := nq_ok ((qp (pv p)).map crat) hX.gq
  rw [qvs_map] at n
  refine AC.by_walk (rs := [.tmp 2]) ords Tryz.func39 (by rfl) (by rfl) (by rfl) (by rfl) (by rfl) ?_
  simp (disch := omega) only [wk, tis, seval, reduceCtorEq, Nat.reduceEqDiff, rqs]
  refine aloop_nil 3 3 57 3 (by simp (disch := omega) only [wk, tis, seval, reduceCtorEq, Nat.reduceEqDiff, rqs]) (fun f H => ∃ (i st : Nat), i ≤ p.length ∧ f 4 = .iv (.int .i64 i) ∧ f 0 = .iv (.sl (raws p)) ∧ f 3 = .hs 3 st ∧ H 3 = .blk false st 57 3 (rats (((qp (pv p)).take i).map crat))) (fun f H => (p.length - intAt f 4).toNat) ?_ ?_
  · refine ⟨0, 1, by omega, ?_⟩
    simp (disch := omega) only [wk, tis, seval, reduceCtorEq, Nat.reduceEqDiff, rqs, ghostF, ghostH, List.take_zero, List.map_nil]
  rintro f H ⟨i, st, hi, hF⟩
  rw [intAt_of hF.1]
  simp (disch := omega) only [wk, tis, seval, reduceCtorEq, Nat.reduceEqDiff, rqs, hF]
  by_cases hlt : i < p.length
  · have hlt' : (i : Int) < (p.length : Int) := by omega
    have hrq : (((qp (pv p)).take i).map crat).length = i := by rw [List.length_map, List.length_take]; omega
    have et := takeq_snoc (q := qp (pv p)) (i := i) (by omega)
    have z := hZ_ok (p.getD i (false, [])) ((h.get i).mono (by omega))
    rw [← cf_pv, ← cfq_qp] at z
    simp (disch := omega) only [wk, tis, seval, reduceCtorEq, Nat.reduceEqDiff, rqs, hF, hlt', hrq]
    refine call_by (z) (by first | rfl | (simp only [tocvs, tocv, hF, hlt', hrq]; rfl) | (simp only [tocvs, tocv, toboxes, tobox, updH_at, Nat.reduceEqDiff, ↓reduceIte, hF, hlt', hrq]; rfl)) (by simp) ?_
    simp (disch := omega) only [wk, tis, seval, reduceCtorEq, Nat.reduceEqDiff, rqs, hF, hlt', hrq]
    refine ⟨⟨i + 1, st + 1, by omega, ?_⟩, by omega⟩
    rw [et, List.map_append]
    (repeat' apply And.intro) <;> first | rfl | omega
  · have hlt' : ¬ (i : Int) < (p.length : Int) := by omega
    rw [List.take_of_length_le (by omega)] at hF
    simp (disch := omega) only [wk, tis, seval, reduceCtorEq, Nat.reduceEqDiff, rqs, hF, hlt']
    refine call_by (n) (by first | rfl | (simp only [tocvs, tocv, hF]; rfl) | (simp only [tocvs, tocv, toboxes, tobox, updH_at, Nat.reduceEqDiff, ↓reduceIte, hF]; rfl)) (by simp) ?_
    simp (disch := omega) only [wk, tis, seval, reduceCtorEq, Nat.reduceEqDiff, rqs, hF]
    try rfl
end Go.Proofs.YtlmkieimciodoaaGreat

namespace Go.Proofs.YtlmkieimciodoaaGreat
open Go Go.Proofs Go.AL
set_option linter.unusedSimpArgs false
set_option linter.unusedVariables false
theorem pover_bad (p : List RI) (c : RI) (hp : RP (2 ^ 30) (2 ^ 35) p) (hc : Sz (2 ^ 35) c) (h0 : iv c ≠ 0) (hb : ¬ ∀ k, iv c ∣ cf (pv p) k) : AC Tryz.prog 57 [cw p, cr c] none [cw [], ci 4] := by
  refine AC.by_walk (rs := [.tmp 4, .tmp 5]) ords Tryz.func57 (by rfl) (by rfl) (by rfl) (by rfl) (by rfl) ?_
  have hl := hp.1
  have hs0 : (iv c).sign ≠ 0 := fun h => h0 (Int.sign_eq_zero_iff_zero.mp h)
  simp (disch := omega) only [wk, tis, seval, reduceCtorEq, Nat.reduceEqDiff, cpoly_len]
  refine call_by ((zsign_ok c (hc.mono (by omega)))) (by rfl) (by simp) ?_
  simp (disch := omega) only [wk, tis, seval, reduceCtorEq, Nat.reduceEqDiff, cpoly_len]
  simp (disch := omega) only [wk, tis, seval, reduceCtorEq, Nat.reduceEqDiff, cpoly_len, hs0]
  refine aloop_by (fun f H => ∃ (i st st3 : Nat) (out : List RI), i ≤ p.length ∧ out.length = p.length ∧ (∀ k, k < i → iv c ∣ cf (pv p) k) ∧ f 18 = .iv (.int .i64 i) ∧ f 0 = .iv (.sl (raws p)) ∧ f 3 = .hp 3 st3 0 0 ∧ f 6 = .hs 15 st ∧ f 17 = .iv (.int .i64 p.length) ∧ H 15 = .blk false st 55 2 (raws out) ∧ H 3 = .blk false st3 55 2 [prow c]) (fun f H => (p.length - intAt f 18).toNat) ?_ ?_
  · refine ⟨0, 1, 1, List.replicate p.length (false, []), by omega, by simp, fun k hk => by omega, ?_⟩
    simp (disch := omega) only [wk, tis, seval, reduceCtorEq, Nat.reduceEqDiff, cpoly_len, Int.toNat_natCast]
  rintro f H ⟨i, st, st3, out, hi, hol, hv, hF⟩
  rw [intAt_of hF.1]
  simp (disch := omega) only [wk, tis, seval, reduceCtorEq, Nat.reduceEqDiff, cpoly_len, hF]
  refine if_by (fun hlt => ?_) (fun hlt => ?_)
  · by_cases hdv : iv c ∣ cf (pv p) i
    · have hdi := hdv
      rw [cf_pv] at hdi
      have m := zexact_ok (p.getD i (false, [])) c ((hp.get i).mono (by omega)) (hc.mono (by omega)) h0 hdi
      simp (disch := omega) only [wk, tis, seval, reduceCtorEq, Nat.reduceEqDiff, cpoly_len, hF]
      refine ⟨tmps_by (by kernel_rfl), ?_⟩
      refine call_by (m) (by first | rfl | (simp only [tocvs, tocv, hF]; rfl) | (simp only [tocvs, tocv, toboxes, tobox, updH_at, Nat.reduceEqDiff, ↓reduceIte, hF]; rfl)) (by simp) ?_
      simp (disch := omega) only [wk, tis, seval, reduceCtorEq, Nat.reduceEqDiff, cpoly_len, hF]
      first | exact log_by (by kernel_rfl) | refine ⟨log_by (by kernel_rfl), ?_⟩
      refine ⟨⟨i + 1, st, st3, out.set i (canon (iv (p.getD i (false, [])) / iv c)), by omega, by simpa using hol, fun k hk => ?_, by omega, rfl, rfl, rfl, rfl⟩, by omega⟩
      rcases Nat.lt_or_ge k i with hk' | hk'
      · exact hv k hk'
      · obtain rfl : k = i := by omega
        exact hdv
    · have hdi := hdv
      rw [cf_pv] at hdi
      have m := zexact_bad (p.getD i (false, [])) c ((hp.get i).mono (by omega)) (hc.mono (by omega)) h0 hdi
      simp (disch := omega) only [wk, tis, seval, reduceCtorEq, Nat.reduceEqDiff, cpoly_len, hF]
      refine ⟨tmps_by (by kernel_rfl), ?_⟩
      refine call_by (m) (by first | rfl | (simp only [tocvs, tocv, hF]; rfl) | (simp only [tocvs, tocv, toboxes, tobox, updH_at, Nat.reduceEqDiff, ↓reduceIte, hF]; rfl)) (by simp) ?_
      simp (disch := omega) only [wk, tis, seval, reduceCtorEq, Nat.reduceEqDiff, cpoly_len, hF]
      first | exact log_by (by kernel_rfl) | refine ⟨log_by (by kernel_rfl), ?_⟩
  · refine (hb fun k => ?_).elim
    rcases Nat.lt_or_ge k p.length with hk | hk
    · exact hv k (by omega)
    · rw [cf_ge (by rw [pv_len]; omega)]; exact Int.dvd_zero _
end Go.Proofs.YtlmkieimciodoaaGreat

namespace Go.Proofs.YtlmkieimciodoaaGreat
open Go Go.Proofs Go.AL
set_option linter.unusedSimpArgs false
set_option linter.unusedVariables false
structure OV (P R : List Int) (n K : Nat) : Prop where
  dv : DV (qp (trimz P)) (qp (trimz R)) n K
  w : decide ((dit (qp (trimz P)) (qp (trimz R)) n).length = 0) = dvb R P
  q : Dv R P → ∀ k, ((lc R ^ dxp P R : Int) : Rat) * cfq (dqu (qp (trimz P)) (qp (trimz R)) n) k = (cf (dq P R) k : Rat)
  s : Dv R P → ps (clr (dqu (qp (trimz P)) (qp (trimz R)) n)) * ps R = PS.C (cden (dqu (qp (trimz P)) (qp (trimz R)) n) : Int) * ps P
def exok (P R : List Int) : Bool := dvb R P && decide ((lc R ^ dxp P R) ∣ (gz (dq P R) : Int))
def exv (P R : List Int) : List Int := if tz R = 0 then [] else if exok P R then pdivs (lc R ^ dxp P R) (dq P R) else []
def exe (P R : List Int) : Int := if tz R = 0 then 1 else if exok P R then 0 else 4
theorem dvd_gz {c : Int} {q : List Int} : c ∣ (gz q : Int) ↔ ∀ k, c ∣ cf q k := by
  constructor
  · intro h k
    exact Int.dvd_trans h (gz_dvd q k)
  · intro h
    refine Int.natAbs_dvd.mp (Int.natCast_dvd_natCast.mpr (gz_greatest q c.natAbs fun k => Int.natAbs_dvd.mpr (h k)))
theorem pow_z {c : Int} {K : Nat} (h : zl c ≤ K) (n : Nat) (hn : n ≤ 41) : zl (c ^ n) ≤ 41 * K + 1 := by
  have h1 := zl_pow h n
  have h2 : n * K ≤ 41 * K := Nat.mul_le_mul_right _ hn
  omega
set_option maxRecDepth 100000 in
theorem pexact_ok (p q : List RI) (S : Nat) (hp : RP 40 S p) (hq : RP 40 S q) (hS : S ≤ 2 ^ 20) : AC Tryz.prog 20 [cw p, cw q] none [cp (exv (pv p) (pv q)), ci (exe (pv p) (pv q))] := by
  have hp' := hp.mono (Nat.le_refl 40) (show S ≤ 2 ^ 27 by omega)
  have hq' := hq.mono (Nat.le_refl 40) (show S ≤ 2 ^ 27 by omega)
  have sP := sb_rp hp
  have sQ := sb_rp hq
  by_cases h0 : tz (pv q) = 0
  · rw [exv, exe, if_pos h0, if_pos h0]
    have d := pdiv_zero p q hq' h0
    refine AC.by_walk (rs := [.tmp 4, .tmp 5]) ords Tryz.func20 (by rfl) (by rfl) (by rfl) (by rfl) (by rfl) ?_
    simp (disch := omega) only [wk, tis, seval, reduceCtorEq, Nat.reduceEqDiff, rqs, cpoly_len]
    refine call_by (d) (by rfl) (by simp) ?_
    simp (disch := omega) only [wk, tis, seval, reduceCtorEq, Nat.reduceEqDiff, rqs, cpoly_len]
    try rfl
  have d := pdiv_ok p q hp' hq' h0
  have t1 := tz_rp hp
  have t2 := tz_rp hq
  have tr := drem_tz (A := pv p) h0
  have td := dq_tz (A := pv p) h0
  obtain ⟨s1, s2⟩ := div_sz h0 sP sQ
  have hdx : dxp (pv p) (pv q) ≤ 41 := by unfold dxp; omega
  have hdm : dxp (pv p) (pv q) * (S + 1) ≤ 41 * (S + 1) := Nat.mul_le_mul_right _ hdx
  have dg := pdeg_n (a := cn (dr (pv p) (pv q))) (q := dr (pv p) (pv q)) ((rp_sb (D := 40) (k := 2 ^ 35) (by omega) (s2.mono (by omega))).mono (by omega) (by omega)) (ps_cn _)
  rw [exv, exe, if_neg h0, if_neg h0]
  by_cases hd : ¬ dvb (pv q) (pv p) = true
  · have hb : dvb (pv q) (pv p) = false := by simpa using hd
    have he : exok (pv p) (pv q) = false := by unfold exok; rw [hb]; rfl
    rw [he]
    have hr : ¬ tz (dr (pv p) (pv q)) = 0 := fun h => hd ((dvb_iff _ _).mpr ((dv_dr h0).mpr h))
    have hr' : (0 : Int) ≤ (tz (dr (pv p) (pv q)) : Int) - 1 := by omega
    refine AC.by_walk (rs := [.tmp 4, .tmp 5]) ords Tryz.func20 (by rfl) (by rfl) (by rfl) (by rfl) (by rfl) ?_
    simp (disch := omega) only [wk, tis, seval, reduceCtorEq, Nat.reduceEqDiff, rqs, cpoly_len]
    refine call_by (d) (by rfl) (by simp) ?_
    simp (disch := omega) only [wk, tis, seval, reduceCtorEq, Nat.reduceEqDiff, rqs, cpoly_len]
    refine call_by (dg) (by first | rfl | (simp only [tocvs, tocv, hr']; rfl) | (simp only [tocvs, tocv, toboxes, tobox, updH_at, Nat.reduceEqDiff, ↓reduceIte, hr']; rfl)) (by simp) ?_
    simp (disch := omega) only [wk, tis, seval, reduceCtorEq, Nat.reduceEqDiff, rqs, cpoly_len, hr']
    try rfl
  have hd : dvb (pv q) (pv p) = true := Classical.not_not.mp hd
  have hdr := (dv_dr h0).mp ((dvb_iff _ _).mp hd)
  have he : exok (pv p) (pv q) = decide ((lc (pv q) ^ dxp (pv p) (pv q)) ∣ (gz (dq (pv p) (pv q)) : Int)) := by unfold exok; rw [hd, Bool.true_and]
  rw [he]
  rw [hdr] at dg
  have o1 := zOf_ok 1 (by omega) (by omega)
  have le := plead_g (a := q) (q := pv q) (hq.mono (by omega) (by omega)) rfl
  have hlz : zl (lc (pv q)) ≤ S := sQ _
  have rD := rp_sb (D := 41) (k := 2 ^ 35) (by omega) (s1.mono (by omega))
  have hlp := lcp_ne h0 (dxp (pv p) (pv q))
  have hpz := pow_z hlz (dxp (pv p) (pv q)) hdx
  have key : ∃ (res : List Int) (e : Int), AC Tryz.prog 57 [cp (dq (pv p) (pv q)), cz (lc (pv q) ^ dxp (pv p) (pv q))] none [cp res, ci e] ∧ res = (if decide ((lc (pv q) ^ dxp (pv p) (pv q)) ∣ (gz (dq (pv p) (pv q)) : Int)) = true then pdivs (lc (pv q) ^ dxp (pv p) (pv q)) (dq (pv p) (pv q)) else []) ∧ e = (if decide ((lc (pv q) ^ dxp (pv p) (pv q)) ∣ (gz (dq (pv p) (pv q)) : Int)) = true then 0 else 4) := by
    by_cases hg : (lc (pv q) ^ dxp (pv p) (pv q)) ∣ (gz (dq (pv p) (pv q)) : Int)
    · rw [decide_eq_true hg]
      have ov := pover_ok (cn (dq (pv p) (pv q))) (canon (lc (pv q) ^ dxp (pv p) (pv q))) (rD.mono (by omega) (by omega)) ((sz_canon _).mono (by omega)) (by rw [iv_canon]; exact hlp) (fun k => by rw [iv_canon, cf_cn]; exact dvd_gz.mp hg k)
      rw [iv_canon, show cp (pdivs (lc (pv q) ^ dxp (pv p) (pv q)) (pv (cn (dq (pv p) (pv q))))) = cp (pdivs (lc (pv q) ^ dxp (pv p) (pv q)) (dq (pv p) (pv q))) from cp_ext fun k => by rw [cf_pdivs, cf_pdivs, cf_cn]] at ov
      exact ⟨_, _, ov, rfl, rfl⟩
    · rw [decide_eq_false hg]
      have ov := pover_bad (cn (dq (pv p) (pv q))) (canon (lc (pv q) ^ dxp (pv p) (pv q))) (rD.mono (by omega) (by omega)) ((sz_canon _).mono (by omega)) (by rw [iv_canon]; exact hlp) (fun h => hg (dvd_gz.mpr fun k => by have := h k; rwa [iv_canon, cf_cn] at this))
      exact ⟨[], 4, ov, rfl, rfl⟩
  obtain ⟨res, e, ov, hres, hee⟩ := key
  rw [← hres, ← hee]
  have he2 : e = 0 ∨ (¬ e = 0 ∧ e = 4 ∧ res = []) := by
    rw [hres, hee]
    split
    · exact .inl rfl
    · exact .inr ⟨by decide, rfl, rfl⟩
  clear hres hee he hdm
  generalize hX : dxp (pv p) (pv q) = x at *
  generalize hL : lc (pv q) = L at *
  refine AC.by_walk (rs := [.tmp 4, .tmp 5]) ords Tryz.func20 (by rfl) (by rfl) (by rfl) (by rfl) (by rfl) ?_
  simp (disch := omega) only [wk, tis, seval, reduceCtorEq, Nat.reduceEqDiff, rqs, cpoly_len]
  refine call_by (d) (by rfl) (by simp) ?_
  simp (disch := omega) only [wk, tis, seval, reduceCtorEq, Nat.reduceEqDiff, rqs, cpoly_len]
  refine call_by (dg) (by rfl) (by simp) ?_
  simp (disch := omega) only [wk, tis, seval, reduceCtorEq, Nat.reduceEqDiff, rqs, cpoly_len]
  refine call_by (o1) (by rfl) (by simp) ?_
  simp (disch := omega) only [wk, tis, seval, reduceCtorEq, Nat.reduceEqDiff, rqs, cpoly_len]
  refine aloop_by (fun f H => ∃ (i st : Nat), i ≤ x ∧ f 26 = .iv (.int .i64 i) ∧ f 25 = .iv (.int .i64 x) ∧ f 1 = .iv (.sl (raws q)) ∧ f 6 = .iv (.sl (cpoly (dq (pv p) (pv q)))) ∧ f 10 = .hp 10 st 0 0 ∧ H 10 = .blk false st 55 2 [prow (canon (L ^ i))]) (fun f H => (x - intAt f 26).toNat) ?_ ?_
  · refine ⟨0, 1, by omega, ?_⟩
    simp (disch := omega) only [wk, tis, seval, reduceCtorEq, Nat.reduceEqDiff, rqs, cpoly_len, Int.pow_zero]
  rintro f H ⟨i, st, hi, hF⟩
  rw [intAt_of hF.1]
  simp (disch := omega) only [wk, tis, seval, reduceCtorEq, Nat.reduceEqDiff, rqs, cpoly_len, hF]
  by_cases hlt' : i < x
  · have hlt : (i : Int) < (x : Int) := by omega
    have hz := pow_z hlz i (by omega)
    have m := zmul_ok (canon (L ^ i)) (canon L) ((sz_canon _).mono (by omega)) ((sz_canon _).mono (by omega))
    rw [iv_canon, iv_canon, ← Int.pow_succ] at m
    simp (disch := omega) only [wk, tis, seval, reduceCtorEq, Nat.reduceEqDiff, rqs, cpoly_len, hF, hlt]
    refine ⟨tmps_by (by kernel_rfl), ?_⟩
    refine call_by (le) (by first | rfl | (simp only [tocvs, tocv, hF, hlt]; rfl) | (simp only [tocvs, tocv, toboxes, tobox, updH_at, Nat.reduceEqDiff, ↓reduceIte, hF, hlt]; rfl)) (by simp) ?_
    simp (disch := omega) only [wk, tis, seval, reduceCtorEq, Nat.reduceEqDiff, rqs, cpoly_len, hF, hlt]
    refine call_by (m) (by first | rfl | (simp only [tocvs, tocv, hF, hlt]; rfl) | (simp only [tocvs, tocv, toboxes, tobox, updH_at, Nat.reduceEqDiff, ↓reduceIte, hF, hlt]; rfl)) (by simp) ?_
    simp (disch := omega) only [wk, tis, seval, reduceCtorEq, Nat.reduceEqDiff, rqs, cpoly_len, hF, hlt]
    first | exact log_by (by kernel_rfl) | refine ⟨log_by (by kernel_rfl), ?_⟩
    refine ⟨⟨i + 1, st, by omega, ?_⟩, by omega⟩
    try (repeat' apply And.intro) <;> first | rfl | omega
  · obtain rfl : i = x := by omega
    have hlt : ¬ (i : Int) < (i : Int) := by omega
    simp (disch := omega) only [wk, tis, seval, reduceCtorEq, Nat.reduceEqDiff, rqs, cpoly_len, hF, hlt]
    rcases he2 with rfl | ⟨h1, rfl, rfl⟩
    · skip
      refine call_by (ov) (by first | rfl | (simp only [tocvs, tocv, hF]; rfl) | (simp only [tocvs, tocv, toboxes, tobox, updH_at, Nat.reduceEqDiff, ↓reduceIte, hF]; rfl)) (by simp) ?_
      simp (disch := omega) only [wk, tis, seval, reduceCtorEq, Nat.reduceEqDiff, rqs, cpoly_len, hF]
      try rfl
    · skip
      refine call_by (ov) (by first | rfl | (simp only [tocvs, tocv, hF]; rfl) | (simp only [tocvs, tocv, toboxes, tobox, updH_at, Nat.reduceEqDiff, ↓reduceIte, hF]; rfl)) (by simp) ?_
      simp (disch := omega) only [wk, tis, seval, reduceCtorEq, Nat.reduceEqDiff, rqs, cpoly_len, hF]
      try rfl
end Go.Proofs.YtlmkieimciodoaaGreat

namespace Go.Proofs.YtlmkieimciodoaaGreat
open Go Go.Proofs Go.AL
set_option linter.unusedSimpArgs false
set_option linter.unusedVariables false
theorem sb_zero {A : List Int} {k : Nat} (h : tz A = 0) : SBd k A := fun i => by rw [tz_zero_iff.mp h i, zl_zero]; omega
theorem small_dv {P X : List Int} (h0 : tz P ≠ 0) (tP : tz P ≤ 9) (sP : SBd 2 P) (hX : Nf X) (h : Dv X P) : SBd 92 X ∧ tz X ≤ 9 ∧ tz X ≠ 0 := by
  have h1 := dv_tz h h0
  exact ⟨dv_sz h0 tP (by omega) sP hX h, by omega, h1.1⟩
theorem small_npr {P : List Int} (tP : tz P ≤ 9) (sP : SBd 2 P) : SBd 92 (npr P) ∧ tz (npr P) ≤ 9 := ⟨(sb_npr sP).mono (by omega), by rw [tz_npr]; exact tP⟩
theorem gcdp_tz0 {A B : List Int} (h : tz A = 0) (h2 : tz B = 0) : tz (gcdp A B) = 0 := by
  rw [← tz_of_ps (gcdp_l0 h), tz_npr]; exact h2
theorem small_gcd {A P : List Int} (sA : SBd 92 A) (tA : tz A ≤ 9) (tP : tz P ≤ 9) (sP : SBd 2 P) : SBd 92 (gcdp A P) ∧ tz (gcdp A P) ≤ 9 := by
  by_cases h : tz P = 0
  · have e := gcdp_r0 (A := A) h
    refine ⟨fun i => by rw [← ps_eq e]; exact sb_npr sA i, ?_⟩
    rw [← tz_of_ps e, tz_npr]; exact tA
  · have := small_dv h tP sP (gcdp_nf A P) (gcdp_gg A P).b
    exact ⟨this.1, this.2.1⟩
theorem ez92 : EZ 92 9 ≤ 2 ^ 27 := by decide
theorem ez2 : EZ 2 9 ≤ 2 ^ 27 := by decide
theorem few_facts {p : List RI} (h : RP 9 2 p) : tz (pv p) ≤ 9 ∧ SBd 2 (pv p) := ⟨tz_rp h, sb_rp h⟩
theorem rp92 {A : List Int} (h : SBd 92 A) (ht : tz A ≤ 9) : RP 40 92 (cn A) := (rp_sb ht h).mono (by omega) (Nat.le_refl _)
theorem quo_dv {A B : List Int} (hB : tz B ≠ 0) (h : Dv B A) : Dv (quo A B) A := by
  refine Dv.as (B := quo A B) (A := pmul B (quo A B)) (.mul (S := B) (by rw [ps_pmul])) (.refl _) ?_
  exact ((As.of_ps (by rw [ps_pmul, ps_pmul, PS.mul_comm])).trans (quo_mul hB h).symm)
theorem as_mul {A A' K : List Int} (h : As A A') : As (pmul K A) (pmul K A') := by
  obtain ⟨a, b, ha, hb, e⟩ := h
  refine ⟨a, b, ha, hb, ?_⟩
  rw [ps_pmul, ps_pmul, show PS.C a * (ps K * ps A) = ps K * (PS.C a * ps A) by ac_rfl, e]
  ac_rfl
end Go.Proofs.YtlmkieimciodoaaGreat

namespace Go.Proofs.YtlmkieimciodoaaGreat
open Go Go.Proofs Go.AL
set_option linter.unusedSimpArgs false
set_option linter.unusedVariables false
def leftv (P G : List Int) : List Int := if tz P = 0 then [] else quo P G
theorem pleft_ok (p : List RI) {G : List Int} (hp : RP 9 2 p) (sG : SBd 92 G) (tG : tz G ≤ 9) (hG : tz G ≠ 0) (hd : Dv G (pv p)) : AC Tryz.prog 62 [cw p, cp G] none [cp (leftv (pv p) G)] := by
  have d1 := pdeg_ok p (hp.mono (by omega) (by omega))
  by_cases h1 : tz (pv p) = 0
  · rw [leftv, if_pos h1]
    rw [h1] at d1
    refine AC.by_walk (rs := [.tmp 4]) ords Tryz.func62 (by rfl) (by rfl) (by rfl) (by rfl) (by rfl) ?_
    simp (disch := omega) only [wk, tis, seval, reduceCtorEq, Nat.reduceEqDiff, rqs, cpoly_len, polys_len]
    refine call_by (d1) (by rfl) (by simp) ?_
    simp (disch := omega) only [wk, tis, seval, reduceCtorEq, Nat.reduceEqDiff, rqs, cpoly_len, polys_len]
    try rfl
  have h1' : ¬ ((tz (pv p) : Nat) : Int) - 1 < 0 := by omega
  rw [leftv, if_neg h1]
  have qo := pquot_g (p := p) (q := cn G) (A := pv p) (B := G) (hp.mono (by omega) (by omega)) ((rp92 sG tG).mono (Nat.le_refl _) (by omega)) rfl (ps_cn _) hG hd
  refine AC.by_walk (rs := [.tmp 4]) ords Tryz.func62 (by rfl) (by rfl) (by rfl) (by rfl) (by rfl) ?_
  simp (disch := omega) only [wk, tis, seval, reduceCtorEq, Nat.reduceEqDiff, rqs, cpoly_len, polys_len]
  refine call_by (d1) (by first | rfl | (simp only [tocvs, tocv, h1']; rfl) | (simp only [tocvs, tocv, toboxes, tobox, updH_at, Nat.reduceEqDiff, ↓reduceIte, h1']; rfl)) (by simp) ?_
  simp (disch := omega) only [wk, tis, seval, reduceCtorEq, Nat.reduceEqDiff, rqs, cpoly_len, polys_len, h1']
  refine call_by (qo) (by rfl) (by simp) ?_
  simp (disch := omega) only [wk, tis, seval, reduceCtorEq, Nat.reduceEqDiff, rqs, cpoly_len, polys_len]
  try rfl
theorem gcd_small {P R : List Int} (tP : tz P ≤ 9) (sP : SBd 2 P) (tR : tz R ≤ 9) (sR : SBd 2 R) : SBd 92 (gcdp P R) ∧ tz (gcdp P R) ≤ 9 := small_gcd (sP.mono (by omega)) tP tR sR
theorem pparts_ok (p q : List RI) (hp : RP 9 2 p) (hq : RP 9 2 q) : AC Tryz.prog 24 [cw p, cw q] none (if tz (gcdp (pv p) (pv q)) = 0 then [cw [], cw [], cw [], ci 1] else [cp (gcdp (pv p) (pv q)), cp (leftv (pv p) (gcdp (pv p) (pv q))), cp (leftv (pv q) (gcdp (pv p) (pv q))), ci 0]) := by
  obtain ⟨tP, sP⟩ := few_facts hp
  obtain ⟨tQ, sQ⟩ := few_facts hq
  have g := pgcd_g 9 2 (hp.mono (show 9 ≤ 40 by omega) (Nat.le_refl 2)) (hq.mono (show 9 ≤ 40 by omega) (Nat.le_refl 2)) rfl rfl tP tQ (by omega) ez2
  have gg := gcdp_gg (pv p) (pv q)
  obtain ⟨g1, g2⟩ := gcd_small tP sP tQ sQ
  have d := pdeg_n (a := cn (gcdp (pv p) (pv q))) (q := gcdp (pv p) (pv q)) ((rp92 g1 g2).mono (by omega) (by omega)) (ps_cn _)
  by_cases h0 : tz (gcdp (pv p) (pv q)) = 0
  · rw [if_pos h0]
    rw [h0] at d
    refine AC.by_walk (rs := [.tmp 4, .tmp 5, .tmp 6, .tmp 7]) ords Tryz.func24 (by rfl) (by rfl) (by rfl) (by rfl) (by rfl) ?_
    simp (disch := omega) only [wk, tis, seval, reduceCtorEq, Nat.reduceEqDiff, rqs, cpoly_len, polys_len]
    refine call_by (g) (by rfl) (by simp) ?_
    simp (disch := omega) only [wk, tis, seval, reduceCtorEq, Nat.reduceEqDiff, rqs, cpoly_len, polys_len]
    refine call_by (d) (by rfl) (by simp) ?_
    simp (disch := omega) only [wk, tis, seval, reduceCtorEq, Nat.reduceEqDiff, rqs, cpoly_len, polys_len]
    try rfl
  have h0' : ¬ ((tz (gcdp (pv p) (pv q)) : Nat) : Int) - 1 < 0 := by omega
  rw [if_neg h0]
  have l1 := pleft_ok p hp g1 g2 h0 gg.a
  have l2 := pleft_ok q hq g1 g2 h0 gg.b
  refine AC.by_walk (rs := [.tmp 4, .tmp 5, .tmp 6, .tmp 7]) ords Tryz.func24 (by rfl) (by rfl) (by rfl) (by rfl) (by rfl) ?_
  simp (disch := omega) only [wk, tis, seval, reduceCtorEq, Nat.reduceEqDiff, rqs, cpoly_len, polys_len]
  refine call_by (g) (by rfl) (by simp) ?_
  simp (disch := omega) only [wk, tis, seval, reduceCtorEq, Nat.reduceEqDiff, rqs, cpoly_len, polys_len]
  refine call_by (d) (by first | rfl | (simp only [tocvs, tocv, h0']; rfl) | (simp only [tocvs, tocv, toboxes, tobox, updH_at, Nat.reduceEqDiff, ↓reduceIte, h0']; rfl)) (by simp) ?_
  simp (disch := omega) only [wk, tis, seval, reduceCtorEq, Nat.reduceEqDiff, rqs, cpoly_len, polys_len, h0']
  refine call_by (l1) (by rfl) (by simp) ?_
  simp (disch := omega) only [wk, tis, seval, reduceCtorEq, Nat.reduceEqDiff, rqs, cpoly_len, polys_len]
  refine call_by (l2) (by rfl) (by simp) ?_
  simp (disch := omega) only [wk, tis, seval, reduceCtorEq, Nat.reduceEqDiff, rqs, cpoly_len, polys_len]
  try exact ⟨rfl, rfl, rfl⟩
def tmn (B : List Int) : Nat → List Int → Nat
  | 0, _ => 0
  | f + 1, A => if dvb B A then tmn B f (quo A B) + 1 else 0
def tmr (B : List Int) : Nat → List Int → List Int
  | 0, A => A
  | f + 1, A => if dvb B A then tmr B f (quo A B) else A
theorem tm_stop {B A : List Int} (h : dvb B A = false) : ∀ f, tmn B f A = 0 ∧ tmr B f A = A
  | 0 => ⟨rfl, rfl⟩
  | f + 1 => by rw [tmn, tmr, h]; exact ⟨rfl, rfl⟩
theorem quo_trim (A B : List Int) : trimz (quo A B) = quo A B := npr_trim _
set_option maxRecDepth 100000 in
theorem ptimes_ok (p q : List RI) (hp : RP 9 2 p) (hq : RP 9 2 q) : AC Tryz.prog 26 [cw p, cw q] none (if tz (pv p) = 0 then [ci 0, cw [], ci 1] else if tz (pv q) ≤ 1 then [ci 0, cw [], ci 3] else [ci (tmn (pv q) 9 (npr (pv p))), cp (tmr (pv q) 9 (npr (pv p))), ci 0]) := by
  have d1 := pdeg_ok p (hp.mono (by omega) (by omega))
  have d2 := pdeg_ok q (hq.mono (by omega) (by omega))
  obtain ⟨tP, sP⟩ := few_facts hp
  obtain ⟨tQ, sQ⟩ := few_facts hq
  by_cases h1 : tz (pv p) = 0
  · rw [if_pos h1]
    rw [h1] at d1
    refine AC.by_walk (rs := [.tmp 4, .tmp 5, .tmp 6]) ords Tryz.func26 (by rfl) (by rfl) (by rfl) (by rfl) (by rfl) ?_
    simp (disch := omega) only [wk, tis, seval, reduceCtorEq, Nat.reduceEqDiff, rqs, cpoly_len, polys_len]
    refine call_by (d1) (by rfl) (by simp) ?_
    simp (disch := omega) only [wk, tis, seval, reduceCtorEq, Nat.reduceEqDiff, rqs, cpoly_len, polys_len]
    try rfl
  have h1' : ¬ ((tz (pv p) : Nat) : Int) - 1 < 0 := by omega
  rw [if_neg h1]
  by_cases h2 : tz (pv q) ≤ 1
  · have h2' : ((tz (pv q) : Nat) : Int) - 1 < 1 := by omega
    rw [if_pos h2]
    refine AC.by_walk (rs := [.tmp 4, .tmp 5, .tmp 6]) ords Tryz.func26 (by rfl) (by rfl) (by rfl) (by rfl) (by rfl) ?_
    simp (disch := omega) only [wk, tis, seval, reduceCtorEq, Nat.reduceEqDiff, rqs, cpoly_len, polys_len]
    refine call_by (d1) (by first | rfl | (simp only [tocvs, tocv, h1']; rfl) | (simp only [tocvs, tocv, toboxes, tobox, updH_at, Nat.reduceEqDiff, ↓reduceIte, h1']; rfl)) (by simp) ?_
    simp (disch := omega) only [wk, tis, seval, reduceCtorEq, Nat.reduceEqDiff, rqs, cpoly_len, polys_len, h1']
    refine call_by (d2) (by first | rfl | (simp only [tocvs, tocv, h1', h2']; rfl) | (simp only [tocvs, tocv, toboxes, tobox, updH_at, Nat.reduceEqDiff, ↓reduceIte, h1', h2']; rfl)) (by simp) ?_
    simp (disch := omega) only [wk, tis, seval, reduceCtorEq, Nat.reduceEqDiff, rqs, cpoly_len, polys_len, h1', h2']
    try rfl
  have h2' : ¬ ((tz (pv q) : Nat) : Int) - 1 < 1 := by omega
  rw [if_neg h2]
  have pr := pprim_n (a := p) (q := pv p) (hp.mono (by omega) (by omega)) rfl
  have t0 := npr_trim (pv p)
  have f0 := nf_npr (pv p)
  have z0 := tz_npr (pv p)
  have v0 : Dv (npr (pv p)) (pv p) := (as_npr (pv p)).symm.dv
  generalize npr (pv p) = A0 at *
  refine AC.by_walk (rs := [.tmp 4, .tmp 5, .tmp 6]) ords Tryz.func26 (by rfl) (by rfl) (by rfl) (by rfl) (by rfl) ?_
  simp (disch := omega) only [wk, tis, seval, reduceCtorEq, Nat.reduceEqDiff, rqs, cpoly_len, polys_len]
  refine call_by (d1) (by first | rfl | (simp only [tocvs, tocv, h1']; rfl) | (simp only [tocvs, tocv, toboxes, tobox, updH_at, Nat.reduceEqDiff, ↓reduceIte, h1']; rfl)) (by simp) ?_
  simp (disch := omega) only [wk, tis, seval, reduceCtorEq, Nat.reduceEqDiff, rqs, cpoly_len, polys_len, h1']
  refine call_by (d2) (by first | rfl | (simp only [tocvs, tocv, h1', h2']; rfl) | (simp only [tocvs, tocv, toboxes, tobox, updH_at, Nat.reduceEqDiff, ↓reduceIte, h1', h2']; rfl)) (by simp) ?_
  simp (disch := omega) only [wk, tis, seval, reduceCtorEq, Nat.reduceEqDiff, rqs, cpoly_len, polys_len, h1', h2']
  refine call_by (pr) (by rfl) (by simp) ?_
  simp (disch := omega) only [wk, tis, seval, reduceCtorEq, Nat.reduceEqDiff, rqs, cpoly_len, polys_len]
  refine aloop_by (fun f H => ∃ (k n : Nat) (A : List Int), tmn (pv q) k A + n = tmn (pv q) 9 A0 ∧ tmr (pv q) k A = tmr (pv q) 9 A0 ∧ tz A ≤ k ∧ n + k ≤ 9 ∧ trimz A = A ∧ Nf A ∧ Dv A (pv p) ∧ tz A ≠ 0 ∧ f 1 = .iv (.sl (raws q)) ∧ f 7 = .iv (.int .i64 n) ∧ f 8 = .iv (.sl (cpoly A))) (fun f H => match f 8 with | .iv (.sl l) => l.length | _ => 0) ?_ ?_
  · refine ⟨9, 0, A0, rfl, rfl, by omega, by omega, t0, f0, v0, by omega, ?_⟩
    simp (disch := omega) only [wk, tis, seval, reduceCtorEq, Nat.reduceEqDiff, rqs, cpoly_len, polys_len]
    try exact ⟨rfl, rfl⟩
  rintro f H ⟨k, n, A, en, er, tk, hnk, tA, nA, vA, hA0, hF⟩
  have hmu : (match f 8 with | .iv (.sl l) => l.length | _ => 0) = tz A := by rw [hF.2.2]; simp only []; rw [cpoly_len]
  rw [hmu]
  obtain ⟨a1, a2, _⟩ := small_dv h1 tP sP nA vA
  have dv := pdivides_g (p := cn A) (q := q) (A := A) (B := pv q) ((rp92 a1 a2).mono (Nat.le_refl _) (by omega)) (hq.mono (by omega) (by omega)) (ps_cn _) rfl
  by_cases hd : dvb (pv q) A = true
  · rw [hd] at dv
    obtain ⟨k', rfl⟩ : ∃ k', k = k' + 1 := ⟨k - 1, by omega⟩
    have hdv := (dvb_iff _ _).mp hd
    have qo := pquot_g (p := cn A) (q := q) (A := A) (B := pv q) ((rp92 a1 a2).mono (Nat.le_refl _) (by omega)) (hq.mono (by omega) (by omega)) (ps_cn _) rfl (by omega) hdv
    obtain ⟨qt, qn⟩ := quo_tz (A := A) (B := pv q) (by omega) hA0 hdv
    rw [tmn, if_pos hd] at en
    rw [tmr, if_pos hd] at er
    simp (disch := omega) only [wk, tis, seval, reduceCtorEq, Nat.reduceEqDiff, rqs, cpoly_len, polys_len, hF]
    refine call_by (dv) (by first | rfl | (simp only [tocvs, tocv, hF]; rfl) | (simp only [tocvs, tocv, toboxes, tobox, updH_at, Nat.reduceEqDiff, ↓reduceIte, hF]; rfl)) (by simp) ?_
    simp (disch := omega) only [wk, tis, seval, reduceCtorEq, Nat.reduceEqDiff, rqs, cpoly_len, polys_len, hF]
    refine call_by (qo) (by first | rfl | (simp only [tocvs, tocv, hF]; rfl) | (simp only [tocvs, tocv, toboxes, tobox, updH_at, Nat.reduceEqDiff, ↓reduceIte, hF]; rfl)) (by simp) ?_
    simp (disch := omega) only [wk, tis, seval, reduceCtorEq, Nat.reduceEqDiff, rqs, cpoly_len, polys_len, hF]
    refine ⟨⟨k', n + 1, quo A (pv q), by omega, er, by omega, by omega, quo_trim _ _, quo_nf _ _, (quo_dv (by omega) hdv).trans vA, qn, ?_⟩, by omega⟩
    try (repeat' apply And.intro) <;> first | rfl | omega
  · have hd' : dvb (pv q) A = false := by simpa using hd
    rw [hd'] at dv
    obtain ⟨s1, s2⟩ := tm_stop hd' k
    rw [← en, ← er, s1, s2]
    simp (disch := omega) only [wk, tis, seval, reduceCtorEq, Nat.reduceEqDiff, rqs, cpoly_len, polys_len, hF]
    refine call_by (dv) (by first | rfl | (simp only [tocvs, tocv, hF]; rfl) | (simp only [tocvs, tocv, toboxes, tobox, updH_at, Nat.reduceEqDiff, ↓reduceIte, hF]; rfl)) (by simp) ?_
    simp (disch := omega) only [wk, tis, seval, reduceCtorEq, Nat.reduceEqDiff, rqs, cpoly_len, polys_len, hF]
    try exact ⟨by omega, rfl⟩
def wof (B : List Int) : Nat → List Int → List Int
  | 0, A => A
  | f + 1, A => if tz (gcdp A B) = 1 then A else wof B f (quo A (gcdp A B))
set_option maxRecDepth 100000 in
theorem pwithout_ok (p q : List RI) (hp : RP 9 2 p) (hq : RP 9 2 q) : AC Tryz.prog 28 [cw p, cw q] none (if tz (pv p) = 0 ∨ tz (pv q) = 0 then [cw [], ci 1] else [cp (wof (pv q) 10 (npr (pv p))), ci 0]) := by
  have d1 := pdeg_ok p (hp.mono (by omega) (by omega))
  have d2 := pdeg_ok q (hq.mono (by omega) (by omega))
  obtain ⟨tP, sP⟩ := few_facts hp
  obtain ⟨tQ, sQ⟩ := few_facts hq
  by_cases h1 : tz (pv p) = 0
  · rw [if_pos (.inl h1)]
    rw [h1] at d1
    refine AC.by_walk (rs := [.tmp 4, .tmp 5]) ords Tryz.func28 (by rfl) (by rfl) (by rfl) (by rfl) (by rfl) ?_
    simp (disch := omega) only [wk, tis, seval, reduceCtorEq, Nat.reduceEqDiff, rqs, cpoly_len, polys_len]
    refine call_by (d1) (by rfl) (by simp) ?_
    simp (disch := omega) only [wk, tis, seval, reduceCtorEq, Nat.reduceEqDiff, rqs, cpoly_len, polys_len]
    try rfl
  have h1' : ¬ ((tz (pv p) : Nat) : Int) - 1 < 0 := by omega
  by_cases h2 : tz (pv q) = 0
  · rw [if_pos (.inr h2)]
    rw [h2] at d2
    refine AC.by_walk (rs := [.tmp 4, .tmp 5]) ords Tryz.func28 (by rfl) (by rfl) (by rfl) (by rfl) (by rfl) ?_
    simp (disch := omega) only [wk, tis, seval, reduceCtorEq, Nat.reduceEqDiff, rqs, cpoly_len, polys_len]
    refine call_by (d1) (by first | rfl | (simp only [tocvs, tocv, h1']; rfl) | (simp only [tocvs, tocv, toboxes, tobox, updH_at, Nat.reduceEqDiff, ↓reduceIte, h1']; rfl)) (by simp) ?_
    simp (disch := omega) only [wk, tis, seval, reduceCtorEq, Nat.reduceEqDiff, rqs, cpoly_len, polys_len, h1']
    refine call_by (d2) (by first | rfl | (simp only [tocvs, tocv, h1']; rfl) | (simp only [tocvs, tocv, toboxes, tobox, updH_at, Nat.reduceEqDiff, ↓reduceIte, h1']; rfl)) (by simp) ?_
    simp (disch := omega) only [wk, tis, seval, reduceCtorEq, Nat.reduceEqDiff, rqs, cpoly_len, polys_len, h1']
    try rfl
  have h2' : ¬ ((tz (pv q) : Nat) : Int) - 1 < 0 := by omega
  rw [if_neg (by omega)]
  have pr := pprim_n (a := p) (q := pv p) (hp.mono (by omega) (by omega)) rfl
  have t0 := npr_trim (pv p)
  have f0 := nf_npr (pv p)
  have z0 := tz_npr (pv p)
  have v0 : Dv (npr (pv p)) (pv p) := (as_npr (pv p)).symm.dv
  generalize npr (pv p) = A0 at *
  refine AC.by_walk (rs := [.tmp 4, .tmp 5]) ords Tryz.func28 (by rfl) (by rfl) (by rfl) (by rfl) (by rfl) ?_
  simp (disch := omega) only [wk, tis, seval, reduceCtorEq, Nat.reduceEqDiff, rqs, cpoly_len, polys_len]
  refine call_by (d1) (by first | rfl | (simp only [tocvs, tocv, h1']; rfl) | (simp only [tocvs, tocv, toboxes, tobox, updH_at, Nat.reduceEqDiff, ↓reduceIte, h1']; rfl)) (by simp) ?_
  simp (disch := omega) only [wk, tis, seval, reduceCtorEq, Nat.reduceEqDiff, rqs, cpoly_len, polys_len, h1']
  refine call_by (d2) (by first | rfl | (simp only [tocvs, tocv, h1', h2']; rfl) | (simp only [tocvs, tocv, toboxes, tobox, updH_at, Nat.reduceEqDiff, ↓reduceIte, h1', h2']; rfl)) (by simp) ?_
  simp (disch := omega) only [wk, tis, seval, reduceCtorEq, Nat.reduceEqDiff, rqs, cpoly_len, polys_len, h1', h2']
  refine call_by (pr) (by rfl) (by simp) ?_
  simp (disch := omega) only [wk, tis, seval, reduceCtorEq, Nat.reduceEqDiff, rqs, cpoly_len, polys_len]
  refine aloop_by (fun f H => ∃ (k : Nat) (A : List Int), wof (pv q) k A = wof (pv q) 10 A0 ∧ tz A + 1 ≤ k ∧ Nf A ∧ Dv A (pv p) ∧ tz A ≠ 0 ∧ f 1 = .iv (.sl (raws q)) ∧ f 6 = .iv (.sl (cpoly A))) (fun f H => match f 6 with | .iv (.sl l) => l.length | _ => 0) ?_ ?_
  · refine ⟨10, A0, rfl, by omega, f0, v0, by omega, ?_⟩
    simp (disch := omega) only [wk, tis, seval, reduceCtorEq, Nat.reduceEqDiff, rqs, cpoly_len, polys_len]
    try rfl
  rintro f H ⟨k, A, er, tk, nA, vA, hA0, hF⟩
  have hmu : (match f 6 with | .iv (.sl l) => l.length | _ => 0) = tz A := by rw [hF.2]; simp only []; rw [cpoly_len]
  rw [hmu]
  obtain ⟨a1, a2, _⟩ := small_dv h1 tP sP nA vA
  have rA := rp92 a1 a2
  have rQ := hq.mono (show 9 ≤ 40 by omega) (show 2 ≤ 92 by omega)
  have g := pgcd_g 9 92 rA rQ (ps_cn _) rfl a2 tQ (by omega) ez92
  have gg := gcdp_gg A (pv q)
  obtain ⟨g1, g2, g3⟩ := small_dv h1 tP sP (gcdp_nf A (pv q)) (gg.a.trans vA)
  have dg := pdeg_n (a := cn (gcdp A (pv q))) (q := gcdp A (pv q)) ((rp92 g1 g2).mono (by omega) (by omega)) (ps_cn _)
  obtain ⟨k', rfl⟩ : ∃ k', k = k' + 1 := ⟨k - 1, by omega⟩
  rw [wof] at er
  by_cases hd : tz (gcdp A (pv q)) = 1
  · rw [if_pos hd] at er
    rw [← er]
    rw [hd] at dg
    simp (disch := omega) only [wk, tis, seval, reduceCtorEq, Nat.reduceEqDiff, rqs, cpoly_len, polys_len, hF]
    refine call_by (g) (by first | rfl | (simp only [tocvs, tocv, hF]; rfl) | (simp only [tocvs, tocv, toboxes, tobox, updH_at, Nat.reduceEqDiff, ↓reduceIte, hF]; rfl)) (by simp) ?_
    simp (disch := omega) only [wk, tis, seval, reduceCtorEq, Nat.reduceEqDiff, rqs, cpoly_len, polys_len, hF]
    refine call_by (dg) (by first | rfl | (simp only [tocvs, tocv, hF]; rfl) | (simp only [tocvs, tocv, toboxes, tobox, updH_at, Nat.reduceEqDiff, ↓reduceIte, hF]; rfl)) (by simp) ?_
    simp (disch := omega) only [wk, tis, seval, reduceCtorEq, Nat.reduceEqDiff, rqs, cpoly_len, polys_len, hF]
    try rfl
  · rw [if_neg hd] at er
    have hd' : ¬ ((tz (gcdp A (pv q)) : Nat) : Int) - 1 = 0 := by omega
    have qo := pquot_g (p := cn A) (q := cn (gcdp A (pv q))) (A := A) (B := gcdp A (pv q)) (rA.mono (Nat.le_refl _) (by omega)) ((rp92 g1 g2).mono (Nat.le_refl _) (by omega)) (ps_cn _) (ps_cn _) g3 gg.a
    obtain ⟨qt, qn⟩ := quo_tz g3 hA0 gg.a
    simp (disch := omega) only [wk, tis, seval, reduceCtorEq, Nat.reduceEqDiff, rqs, cpoly_len, polys_len, hF]
    refine call_by (g) (by first | rfl | (simp only [tocvs, tocv, hF]; rfl) | (simp only [tocvs, tocv, toboxes, tobox, updH_at, Nat.reduceEqDiff, ↓reduceIte, hF]; rfl)) (by simp) ?_
    simp (disch := omega) only [wk, tis, seval, reduceCtorEq, Nat.reduceEqDiff, rqs, cpoly_len, polys_len, hF]
    refine call_by (dg) (by first | rfl | (simp only [tocvs, tocv, hF, hd']; rfl) | (simp only [tocvs, tocv, toboxes, tobox, updH_at, Nat.reduceEqDiff, ↓reduceIte, hF, hd']; rfl)) (by simp) ?_
    simp (disch := omega) only [wk, tis, seval, reduceCtorEq, Nat.reduceEqDiff, rqs, cpoly_len, polys_len, hF, hd']
    refine call_by (qo) (by first | rfl | (simp only [tocvs, tocv, hF]; rfl) | (simp only [tocvs, tocv, toboxes, tobox, updH_at, Nat.reduceEqDiff, ↓reduceIte, hF]; rfl)) (by simp) ?_
    simp (disch := omega) only [wk, tis, seval, reduceCtorEq, Nat.reduceEqDiff, rqs, cpoly_len, polys_len, hF]
    refine ⟨⟨k', quo A (gcdp A (pv q)), er, by omega, quo_nf _ _, (quo_dv g3 gg.a).trans vA, qn, ?_⟩, by omega⟩
    try (repeat' apply And.intro) <;> first | rfl | omega
end Go.Proofs.YtlmkieimciodoaaGreat

namespace Go.Proofs.YtlmkieimciodoaaGreat
open Go Go.Proofs Go.AL
set_option linter.unusedSimpArgs false
set_option linter.unusedVariables false
end Go.Proofs.YtlmkieimciodoaaGreat

namespace Go.Proofs.YtlmkieimciodoaaGreat
open Go Go.Proofs Go.AL
set_option linter.unusedSimpArgs false
set_option linter.unusedVariables false
def fi (a : RI) : RI := (a.1, a.2.take 3)
def fr (r : RQ) : RQ := (fi r.1, r.2.take 3)
def fq (p : List RQ) : List RQ := (p.take 7).map fr
theorem take_min {α : Type} (l : List α) (n : Nat) : l.take (min (l.length : Int) n).toNat = l.take n := by
  rcases Nat.le_total l.length n with h | h
  · rw [List.take_of_length_le (i := n) h, List.take_of_length_le (by omega)]
  · congr 1; omega
theorem prow_len2 (c : RI) : (prow c).length = 2 := rfl
structure C11 where
  (P R : List RI) (A B C D : RI) (K M : Int) (At : RI) (E : Int) (Pt : Bool) (F G : List RQ) (X : RQ)
end Go.Proofs.YtlmkieimciodoaaGreat

namespace Go.Proofs.YtlmkieimciodoaaGreat
open Go Go.Proofs Go.AL
set_option linter.unusedSimpArgs false
set_option linter.unusedVariables false
end Go.Proofs.YtlmkieimciodoaaGreat

namespace Go.Proofs.YtlmkieimciodoaaGreat
open Go Go.Proofs Go.AL
set_option linter.unusedSimpArgs false
set_option linter.unusedVariables false
def NearOk (k : Int) : Prop := k < 0 ∨ 65536 < k ∨ ∃ n : Nat, k = n ∧ n ≤ 200
structure Few (y : C11) : Prop where
  P : RP 9 3 y.P
  R : RP 9 3 y.R
  A : Sz 3 y.A
  B : Sz 3 y.B
  C : Sz 3 y.C
  D : Sz 3 y.D
  At : Sz 3 y.At
  K : NearOk y.K
  M : NearOk y.M
  E : NearOk y.E
structure Ok11 (x : C11) : Prop where
  P : Raw x.P
  R : Raw x.R
  A : Sz 9223372036854775807 x.A
  B : Sz 9223372036854775807 x.B
  C : Sz 9223372036854775807 x.C
  D : Sz 9223372036854775807 x.D
  K : -9223372036854775808 ≤ x.K ∧ x.K ≤ 9223372036854775807
  M : -9223372036854775808 ≤ x.M ∧ x.M ≤ 9223372036854775807
  At : Sz 9223372036854775807 x.At
  E : -9223372036854775808 ≤ x.E ∧ x.E ≤ 9223372036854775807
  F : RawQ x.F
  G : RawQ x.G
  X : SzQ 9223372036854775807 x.X
end Go.Proofs.YtlmkieimciodoaaGreat

namespace Go.Proofs.YtlmkieimciodoaaGreat
open Go Go.Proofs Go.AL
set_option linter.unusedSimpArgs false
set_option linter.unusedVariables false
def fi2 (a : RI) : RI := (a.1, a.2.take 2)
def fp2 (p : List RI) : List RI := (p.take 9).map fi2
def fr1 (r : RQ) : RQ := ((r.1.1, r.1.2.take 1), r.2.take 1)
def fq1 (p : List RQ) : List RQ := (p.take 7).map fr1
theorem fp2_rp {p : List RI} (h : ∀ c ∈ p, Lim c.2) : RP 9 2 (fp2 p) := ⟨by simp [fp2]; omega, fun c hc => by
  obtain ⟨d, hd, rfl⟩ := List.mem_map.1 hc
  exact ⟨by simp [fi2]; omega, fun x hx => h d (List.mem_of_mem_take hd) x (List.mem_of_mem_take hx)⟩⟩
theorem raws_app (l : List RI) (c : RI) : raws l ++ [[.bool c.1, .sl (lims c.2)]] = raws (l ++ [c]) := by simp [raws, prow]
set_option maxRecDepth 100000 in
theorem few14_ok (p : List RI) (hl : p.length ≤ 9223372036854775807) (h : ∀ c ∈ p, c.2.length ≤ 9223372036854775807) : AC Tryz.prog 42 [cw p] none [cw (fp2 p)] := by
  refine AC.by_walk (rs := [.tmp 2]) ords Tryz.func42 (by rfl) (by rfl) (by rfl) (by rfl) (by rfl) ?_
  simp (disch := omega) only [wk, tis, seval, reduceCtorEq, Nat.reduceEqDiff, rqs, cpoly_len, polys_len]
  refine aloop_nil 3 3 55 2 (by simp (disch := omega) only [wk, tis, seval, reduceCtorEq, Nat.reduceEqDiff, rqs, cpoly_len, polys_len]) (fun f H => ∃ (i st : Nat), i ≤ p.length ∧ i ≤ 9 ∧ f 4 = .iv (.int .i64 i) ∧ f 0 = .iv (.sl (raws p)) ∧ f 3 = .hs 3 st ∧ H 3 = .blk false st 55 2 (raws ((p.take i).map fi2))) (fun f H => (p.length - intAt f 4).toNat) ?_ ?_
  · refine ⟨0, 1, by omega, by omega, ?_⟩
    simp (disch := omega) only [wk, tis, seval, reduceCtorEq, Nat.reduceEqDiff, rqs, cpoly_len, polys_len, ghostF, ghostH, List.take_zero]
  rintro f H ⟨i, st, hi, hi9, hF⟩
  rw [intAt_of hF.1]
  simp (disch := omega) only [wk, tis, seval, reduceCtorEq, Nat.reduceEqDiff, rqs, cpoly_len, polys_len, hF]
  by_cases hlt : i < p.length
  · have h1 : (i : Int) < p.length := by omega
    by_cases h9 : (i : Int) < 9
    · have hq : ((p.take i).map fi2).length = i := by rw [List.length_map, List.length_take]; omega
      have hg : p.getD i (false, []) = p[i] := by simp [List.getD, hlt]
      have hcl : (p.getD i (false, [])).2.length ≤ 9223372036854775807 := by rw [hg]; exact h _ (List.getElem_mem hlt)
      have e := take_min (p.getD i (false, [])).2 2
      rw [show ((2 : Nat) : Int) = 2 from rfl] at e
      have et : (p.take (i + 1)).map fi2 = (p.take i).map fi2 ++ [fi2 (p.getD i (false, []))] := by
        rw [List.take_add_one, List.getElem?_eq_getElem hlt, List.map_append, hg]; rfl
      simp (disch := omega) only [wk, tis, seval, reduceCtorEq, Nat.reduceEqDiff, rqs, cpoly_len, polys_len, hF, h1, h9, hq, e]
      refine ⟨tmps_by (by kernel_rfl), ?_⟩
      first | exact log_by (by kernel_rfl) | refine ⟨log_by (by kernel_rfl), ?_⟩
      refine ⟨⟨i + 1, st + 1, by omega, by omega, ?_⟩, by omega⟩
      rw [et]
      exact ⟨by omega, rfl, congrArg _ (raws_app ((p.take i).map fi2) (fi2 (p.getD i (false, []))))⟩
    · have e9 : i = 9 := by omega
      have e : (p.take i).map fi2 = fp2 p := by rw [e9]; rfl
      rw [e] at hF
      simp (disch := omega) only [wk, tis, seval, reduceCtorEq, Nat.reduceEqDiff, rqs, cpoly_len, polys_len, hF, h1, h9]
      try rfl
  · have h1 : ¬ (i : Int) < p.length := by omega
    simp (disch := omega) only [wk, tis, seval, reduceCtorEq, Nat.reduceEqDiff, rqs, cpoly_len, polys_len, hF, h1]
    rw [fp2, List.take_of_length_le (by omega), List.take_of_length_le (by omega)]
theorem rats_app (l : List RQ) (r : RQ) : rats l ++ [[.bool r.1.1, .sl (lims r.1.2), .sl (lims r.2)]] = rats (l ++ [r]) := by simp [rats, qrow, prow]
set_option maxRecDepth 100000 in
theorem fewQ14_ok (p : List RQ) (hl : p.length ≤ 9223372036854775807) (h : ∀ c ∈ p, c.1.2.length ≤ 9223372036854775807 ∧ c.2.length ≤ 9223372036854775807) : AC Tryz.prog 43 [cqw p] none [cqw (fq1 p)] := by
  have hrl := rats_len p
  refine AC.by_walk (rs := [.tmp 2]) ords Tryz.func43 (by rfl) (by rfl) (by rfl) (by rfl) (by rfl) ?_
  simp (disch := omega) only [wk, tis, seval, reduceCtorEq, Nat.reduceEqDiff, rqs, cpoly_len, polys_len]
  refine aloop_nil 3 3 57 3 (by simp (disch := omega) only [wk, tis, seval, reduceCtorEq, Nat.reduceEqDiff, rqs, cpoly_len, polys_len]) (fun f H => ∃ (i st s5 : Nat), i ≤ p.length ∧ i ≤ 7 ∧ f 4 = .iv (.int .i64 i) ∧ f 0 = .iv (.sl (rats p)) ∧ f 3 = .hs 3 st ∧ H 3 = .blk false st 57 3 (rats ((p.take i).map fr1))) (fun f H => (p.length - intAt f 4).toNat) ?_ ?_
  · refine ⟨0, 1, 1, by omega, by omega, ?_⟩
    simp (disch := omega) only [wk, tis, seval, reduceCtorEq, Nat.reduceEqDiff, rqs, cpoly_len, polys_len, ghostF, ghostH, List.take_zero, List.map_nil]
  rintro f H ⟨i, st, s5, hi, hi9, hF⟩
  rw [intAt_of hF.1]
  simp (disch := omega) only [wk, tis, seval, reduceCtorEq, Nat.reduceEqDiff, rqs, cpoly_len, polys_len, hF]
  by_cases hlt : i < p.length
  · have h1 : (i : Int) < p.length := by omega
    by_cases h9 : (i : Int) < 7
    · have hq : ((p.take i).map fr1).length = i := by rw [List.length_map, List.length_take]; omega
      have hg : p.getD i q0 = p[i] := by simp [List.getD, hlt]
      have hm := h _ (List.getElem_mem hlt)
      rw [← hg] at hm
      have e := take_min (p.getD i q0).1.2 1
      have e' := take_min (p.getD i q0).2 1
      rw [show ((1 : Nat) : Int) = 1 from rfl] at e e'
      have et : (p.take (i + 1)).map fr1 = (p.take i).map fr1 ++ [fr1 (p.getD i q0)] := by
        rw [List.take_add_one, List.getElem?_eq_getElem hlt, List.map_append, hg]; rfl
      obtain ⟨hm1, hm2⟩ := hm
      have hpr : ∀ (b : Bool) (l : List Nat), [IV.bool b, IV.sl (lims l)] = prow (b, l) := fun _ _ => rfl
      have hp2 := prow_len2
      simp (disch := omega) only [wk, tis, seval, reduceCtorEq, Nat.reduceEqDiff, rqs, cpoly_len, polys_len, hF, h1, h9, hq, e, e', hpr, hp2]
      refine ⟨tmps_by (by kernel_rfl), ?_⟩
      first | exact log_by (by kernel_rfl) | refine ⟨log_by (by kernel_rfl), ?_⟩
      refine ⟨⟨i + 1, st + 1, 1, by omega, by omega, ?_⟩, by omega⟩
      rw [et]
      exact ⟨by omega, rfl, congrArg _ (rats_app ((p.take i).map fr1) (fr1 (p.getD i q0)))⟩
    · have e9 : i = 7 := by omega
      have e : (p.take i).map fr1 = fq1 p := by rw [e9]; rfl
      rw [e] at hF
      simp (disch := omega) only [wk, tis, seval, reduceCtorEq, Nat.reduceEqDiff, rqs, cpoly_len, polys_len, hF, h1, h9]
      try rfl
  · have h1 : ¬ (i : Int) < p.length := by omega
    simp (disch := omega) only [wk, tis, seval, reduceCtorEq, Nat.reduceEqDiff, rqs, cpoly_len, polys_len, hF, h1]
    rw [fq1, List.take_of_length_le (by omega), List.take_of_length_le (by omega)]
structure C14 where
  (P R K : List RI) (L : List (List RI)) (F G : List RQ)
abbrev case14 (x : C14) : List IV := [.sl (raws x.P), .sl (raws x.R), .sl (raws x.K), .sl (polys x.L), .sl (rats x.F), .sl (rats x.G)]
def less14 (x : C14) : C14 := ⟨fp2 x.P, fp2 x.R, fp2 x.K, (x.L.take 6).map fp2, fq1 x.F, fq1 x.G⟩
structure Ok14 (x : C14) : Prop where
  P : Raw x.P
  R : Raw x.R
  K : Raw x.K
  L : x.L.length ≤ 9223372036854775807 ∧ ∀ p ∈ x.L, Raw p
  F : RawQ x.F
  G : RawQ x.G
set_option maxRecDepth 100000 in
theorem less14_ok {x : C14} (h : Ok14 x) : AC Tryz.prog 8 [.agg (case14 x)] none [.agg (case14 (less14 x))] := by
  have fz : ∀ {p : List RI}, Raw p → AC Tryz.prog 42 [cw p] none [cw (fp2 p)] := fun {p} hp => few14_ok p hp.1 fun c hc => (hp.2 c hc).1
  have fq : ∀ {p : List RQ}, RawQ p → AC Tryz.prog 43 [cqw p] none [cqw (fq1 p)] := fun {p} hp => fewQ14_ok p hp.1 fun c hc => ⟨(hp.2 c hc).1.1, (hp.2 c hc).2.1⟩
  have hP := fz h.P
  have hR := fz h.R
  have hK := fz h.K
  have hFq := fq h.F
  have hG := fq h.G
  have hl := h.L.1
  refine AC.by_walk (rs := [.cell 2 28]) ords Tryz.func8 (by rfl) (by rfl) (by rfl) (by rfl) (by rfl) ?_
  simp (disch := omega) only [wk, tis, seval, reduceCtorEq, Nat.reduceEqDiff, rqs, cpoly_len, polys_len]
  refine ⟨tmps_by (by kernel_rfl), ?_⟩
  refine call_by (hP) (by rfl) (by simp) ?_
  simp (disch := omega) only [wk, tis, seval, reduceCtorEq, Nat.reduceEqDiff, rqs, cpoly_len, polys_len]
  refine call_by (hR) (by rfl) (by simp) ?_
  simp (disch := omega) only [wk, tis, seval, reduceCtorEq, Nat.reduceEqDiff, rqs, cpoly_len, polys_len]
  refine call_by (hK) (by rfl) (by simp) ?_
  simp (disch := omega) only [wk, tis, seval, reduceCtorEq, Nat.reduceEqDiff, rqs, cpoly_len, polys_len]
  refine call_by (hFq) (by rfl) (by simp) ?_
  simp (disch := omega) only [wk, tis, seval, reduceCtorEq, Nat.reduceEqDiff, rqs, cpoly_len, polys_len]
  refine call_by (hG) (by rfl) (by simp) ?_
  simp (disch := omega) only [wk, tis, seval, reduceCtorEq, Nat.reduceEqDiff, rqs, cpoly_len, polys_len]
  first | exact log_by (by kernel_rfl) | refine ⟨log_by (by kernel_rfl), ?_⟩
  refine aloop_nil 3 3 23 1 (by simp (disch := omega) only [wk, tis, seval, reduceCtorEq, Nat.reduceEqDiff, rqs, cpoly_len, polys_len]) (fun f H => ∃ (i st : Nat), i ≤ x.L.length ∧ i ≤ 6 ∧ f 4 = .iv (.int .i64 i) ∧ f 1 = .hp 1 1 0 0 ∧ H 1 = .blk false 1 28 6 [case14 ⟨fp2 x.P, fp2 x.R, fp2 x.K, x.L, fq1 x.F, fq1 x.G⟩] ∧ f 2 = .hp 2 1 0 0 ∧ H 2 = .blk false 1 28 6 [[.sl [], .sl [], .sl [], .sl [], .sl [], .sl []]] ∧ f 3 = .hs 3 st ∧ H 3 = .blk false st 23 1 (polys ((x.L.take i).map fp2))) (fun f H => (x.L.length - intAt f 4).toNat) ?_ ?_
  · refine ⟨0, 1, by omega, by omega, ?_⟩
    simp (disch := omega) only [wk, tis, seval, reduceCtorEq, Nat.reduceEqDiff, rqs, cpoly_len, polys_len, ghostF, ghostH, ghostF, ghostH, List.map_nil, case14, splice, List.take_succ_cons, List.drop_succ_cons, List.take_zero, List.drop_zero, List.take_nil, List.drop_nil, List.length_cons, List.length_nil, List.cons_append, List.nil_append, show polys [] = [] from rfl]
  rintro f H ⟨i, st, hi, hi6, hF⟩
  rw [intAt_of hF.1]
  simp (disch := omega) only [wk, tis, seval, reduceCtorEq, Nat.reduceEqDiff, rqs, cpoly_len, polys_len, hF]
  by_cases hlt : i < x.L.length
  · have h1 : (i : Int) < x.L.length := by omega
    by_cases h9 : (i : Int) < 6
    · have hq : ((x.L.take i).map fp2).length = i := by rw [List.length_map, List.length_take]; omega
      have hg : x.L.getD i [] = x.L[i] := by simp [List.getD, hlt]
      have hat := polys_at hlt
      have f := fz (p := x.L.getD i []) (by rw [hg]; exact h.L.2 _ (List.getElem_mem hlt))
      have et : (x.L.take (i + 1)).map fp2 = (x.L.take i).map fp2 ++ [fp2 (x.L.getD i [])] := by
        rw [List.take_add_one, List.getElem?_eq_getElem hlt, List.map_append, hg]; rfl
      have hsn := polys_snoc ((x.L.take i).map fp2) (fp2 (x.L.getD i []))
      simp (disch := omega) only [wk, tis, seval, reduceCtorEq, Nat.reduceEqDiff, rqs, cpoly_len, polys_len, hF, h1, h9, hq, hat]
      refine call_by (f) (by first | rfl | (simp only [tocvs, tocv, hF, h1, h9, hq, hat, hsn]; rfl) | (simp only [tocvs, tocv, toboxes, tobox, updH_at, Nat.reduceEqDiff, ↓reduceIte, hF, h1, h9, hq, hat, hsn]; rfl)) (by simp) ?_
      simp (disch := omega) only [wk, tis, seval, reduceCtorEq, Nat.reduceEqDiff, rqs, cpoly_len, polys_len, hF, h1, h9, hq, hat, hsn]
      refine ⟨⟨i + 1, st + 1, by omega, by omega, ?_⟩, by omega⟩
      rw [et]
      (repeat' apply And.intro) <;> first | rfl | omega
    · have e9 : i = 6 := by omega
      have e : (x.L.take i).map fp2 = (x.L.take 6).map fp2 := by rw [e9]
      rw [e] at hF
      simp (disch := omega) only [wk, tis, seval, reduceCtorEq, Nat.reduceEqDiff, rqs, cpoly_len, polys_len, hF, h1, h9, case14, splice, List.take_succ_cons, List.drop_succ_cons, List.take_zero, List.drop_zero, List.take_nil, List.drop_nil, List.length_cons, List.length_nil, List.cons_append, List.nil_append]
      try rfl
  · have h1 : ¬ (i : Int) < x.L.length := by omega
    have e : (x.L.take i).map fp2 = (x.L.take 6).map fp2 := by rw [List.take_of_length_le (by omega), List.take_of_length_le (by omega)]
    rw [e] at hF
    simp (disch := omega) only [wk, tis, seval, reduceCtorEq, Nat.reduceEqDiff, rqs, cpoly_len, polys_len, hF, h1, case14, splice, List.take_succ_cons, List.drop_succ_cons, List.take_zero, List.drop_zero, List.take_nil, List.drop_nil, List.length_cons, List.length_nil, List.cons_append, List.nil_append]
    try rfl
theorem c14_ok (p : List RI) (h : RP (2 ^ 40) (2 ^ 40) p) : AC Tryz.prog 11 [cw p] none [cw p] := by
  have t := tcopy_ok p h
  refine AC.by_walk (rs := [.tmp 2]) ords Tryz.func11 (by rfl) (by rfl) (by rfl) (by rfl) (by rfl) ?_
  simp (disch := omega) only [wk, tis, seval, reduceCtorEq, Nat.reduceEqDiff, rqs, cpoly_len, polys_len]
  refine call_by (t) (by rfl) (by simp) ?_
  simp (disch := omega) only [wk, tis, seval, reduceCtorEq, Nat.reduceEqDiff, rqs, cpoly_len, polys_len]
  try rfl
theorem primitive_ok {A : List Int} (n : Nf A) (hs : SBd (2 ^ 34) A) (ht : tz A ≤ 2 ^ 29) : AC Tryz.prog 30 [cp A] none [cb true] := by
  have r := rp_sb ht hs
  have pr := tpart14_g (p := cn A) (A := A) (r.mono (by omega) (by omega)) (ps_cn _)
  rw [show cp (npr A) = cp A from cp_ps (((as_npr A).symm).uniq (nf_npr A) n)] at pr
  have s := tSame_ok (cn A) (cn A) (r.mono (by omega) (by omega)) (r.mono (by omega) (by omega))
  rw [decide_eq_true rfl] at s
  refine AC.by_walk (rs := [.tmp 2]) ords Tryz.func30 (by rfl) (by rfl) (by rfl) (by rfl) (by rfl) ?_
  simp (disch := omega) only [wk, tis, seval, reduceCtorEq, Nat.reduceEqDiff, rqs, cpoly_len, polys_len]
  refine call_by (pr) (by rfl) (by simp) ?_
  simp (disch := omega) only [wk, tis, seval, reduceCtorEq, Nat.reduceEqDiff, rqs, cpoly_len, polys_len]
  refine call_by (s) (by rfl) (by simp) ?_
  simp (disch := omega) only [wk, tis, seval, reduceCtorEq, Nat.reduceEqDiff, rqs, cpoly_len, polys_len]
  try rfl
theorem same14 {A : List Int} (hs : SBd (2 ^ 40) A) (ht : tz A ≤ 2 ^ 40) : AC Tryz.prog 9 [cp A, cp A] none [cb true] := by
  have r := rp_sb ht hs
  have s := tSame_ok (cn A) (cn A) (r.mono (by omega) (by omega)) (r.mono (by omega) (by omega))
  rwa [decide_eq_true rfl] at s
end Go.Proofs.YtlmkieimciodoaaGreat

namespace Go.Proofs.YtlmkieimciodoaaGreat
open Go Go.Proofs Go.AL
set_option linter.unusedSimpArgs false
set_option linter.unusedVariables false
abbrev cqc (l : List Rat) : CV := cqw (l.map crat)
theorem mulc {a b c : List Rat} (ha : QB 9 3 a) (hb : QB 9 3 b) (h : trimq (mulq a b) = c) : AC Tryz.prog 76 [cqc a, cqc b] none [cqc c] := by
  have m := qpmul_ok (a.map crat) (b.map crat) 9 3 ha.gq hb.gq (by omega) (by omega) (by omega)
  rw [qvs_map, qvs_map, show cqp (mulq a b) = cqc c from congrArg cqw (by rw [cqs, h])] at m
  refine AC.by_walk (rs := [.tmp 4]) ords Tryz.func76 (by rfl) (by rfl) (by rfl) (by rfl) (by rfl) ?_
  simp (disch := omega) only [wk, tis, seval, reduceCtorEq, Nat.reduceEqDiff, rqs, cpoly_len]
  refine call_by (m) (by rfl) (by simp) ?_
  simp (disch := omega) only [wk, tis, seval, reduceCtorEq, Nat.reduceEqDiff, rqs, cpoly_len]
  try rfl
theorem subc {a b c : List Rat} (ha : QB 9 3 a) (hb : QB 9 3 b) (h : trimq (subq a b) = c) : AC Tryz.prog 79 [cqc a, cqc b] none [cqc c] := by
  have m := qpsub_ok (a.map crat) (b.map crat) 3 (ha.gq.mono (by omega) (by omega)) (hb.gq.mono (by omega) (by omega)) (by omega) (by omega)
  rw [qvs_map, qvs_map, show cqp (subq a b) = cqc c from congrArg cqw (by rw [cqs, h])] at m
  refine AC.by_walk (rs := [.tmp 4]) ords Tryz.func79 (by rfl) (by rfl) (by rfl) (by rfl) (by rfl) ?_
  simp (disch := omega) only [wk, tis, seval, reduceCtorEq, Nat.reduceEqDiff, rqs, cpoly_len]
  refine call_by (m) (by rfl) (by simp) ?_
  simp (disch := omega) only [wk, tis, seval, reduceCtorEq, Nat.reduceEqDiff, rqs, cpoly_len]
  try rfl
theorem dv_dec {A B : List Rat} {n : Nat} (h : (A.length ≤ 9 ∧ B.length ≤ 9 ∧ B.length ≠ 0 ∧ cfq B (B.length - 1) ≠ 0) ∧ (trimq A = A ∧ trimq B = B) ∧ ((dit A B n).length < B.length ∧ ∀ j, j < n → B.length ≤ (dit A B j).length) ∧ (∀ k, k < n + 1 → (dit A B k).length ≤ 9 ∧ ∀ c ∈ dit A B k, qz c ≤ 3) ∧ ∀ c ∈ B, qz c ≤ 3) : DV A B n 3 := by
  obtain ⟨⟨h1, h2, h3, h4⟩, ⟨h5, h6⟩, ⟨h7, h8⟩, h9, h10⟩ := h
  have hB : QB 9 3 B := ⟨h2, h10⟩
  exact ⟨by omega, by omega, h3, h4, h5, h6, h7, h8, fun k hk i => QB.cz (n := 9) (k := 3) ⟨(h9 k (by omega)).1, (h9 k (by omega)).2⟩ (by omega) i, fun i => hB.cz (by omega) i, by omega, by omega⟩
theorem divc {a b q r : List Rat} {n : Nat} (v : DV a b n 3) (ha : QB 9 3 a) (hb : QB 9 3 b) (hq : trimq (dqu a b n) = q) (hr : dit a b n = r) : AC Tryz.prog 78 [cqc a, cqc b] none [cqc q, cqc r, ci 0] := by
  have m := qdiv_ok (a.map crat) (b.map crat) (ha.gq.mono (by omega) (by omega)) (hb.gq.mono (by omega) (by omega)) n 3 (by rw [qvs_map, qvs_map, v.ta, v.tb]; exact v)
  rw [qvs_map, qvs_map, v.ta, v.tb, hr, show cqp (dqu a b n) = cqc q from congrArg cqw (by rw [cqs, hq])] at m
  exact m
theorem normc {a : List Rat} (ha : QB 9 3 a) (h : trimq a = a) : AC Tryz.prog 72 [cqc a] none [cqc a, ci 0] := by
  have m := qpnorm_ok (a.map crat) (ha.gq.mono (by omega) (by omega))
  rwa [qvs_map, show cqp a = cqc a from congrArg cqw (by rw [cqs, h])] at m
theorem scalec {a c : List Rat} {k : Rat} (ha : QB 9 3 a) (hk : qz k ≤ 3) (h : trimq (sclq k a) = c) : AC Tryz.prog 80 [cqc a, cqz k] none [cqc c, ci 0] := by
  have m := qscale_ok (a.map crat) (crat k) 3 (ha.gq.mono (by omega) (by omega)) (szq_crat hk) (nv_crat0 _) (by omega) (by omega)
  rwa [qvs_map, qv_crat, show cqp (sclq k a) = cqc c from congrArg cqw (by rw [cqs, h])] at m
theorem leadc {a : List Rat} {x : Rat} {n : Nat} (ha : QB 9 3 a) (ht : tzq a = n + 1) (h : cfq a n = x) : AC Tryz.prog 75 [cqc a] none [cqz x] := by
  have d := qdeg_ok (a.map crat) (ha.gq.mono (by omega) (by omega))
  rw [qvs_map, ht, show ((n + 1 : Nat) : Int) - 1 = (n : Int) by omega] at d
  have dg : AC Tryz.prog 118 [cqc a] none [ci n] := by
    refine AC.by_walk (rs := [.tmp 2]) ords Tryz.func118 (by rfl) (by rfl) (by rfl) (by rfl) (by rfl) ?_
    simp (disch := omega) only [wk, tis, seval, reduceCtorEq, Nat.reduceEqDiff, rqs, cpoly_len]
    refine call_by (d) (by rfl) (by simp) ?_
    simp (disch := omega) only [wk, tis, seval, reduceCtorEq, Nat.reduceEqDiff, rqs, cpoly_len]
    try rfl
  have c := qCoef_ok (a.map crat) n (ha.gq.mono (by omega) (by omega))
  rw [qvs_map, if_neg (by omega), Int.toNat_natCast, h] at c
  refine AC.by_walk (rs := [.cell 2 57]) ords Tryz.func75 (by rfl) (by rfl) (by rfl) (by rfl) (by rfl) ?_
  simp (disch := omega) only [wk, tis, seval, reduceCtorEq, Nat.reduceEqDiff, rqs, cpoly_len]
  refine call_by (dg) (by rfl) (by simp) ?_
  simp (disch := omega) only [wk, tis, seval, reduceCtorEq, Nat.reduceEqDiff, rqs, cpoly_len]
  refine call_by (c) (by rfl) (by simp) ?_
  simp (disch := omega) only [wk, tis, seval, reduceCtorEq, Nat.reduceEqDiff, rqs, cpoly_len]
  try rfl
theorem inv3_ok : AC Tryz.prog 74 [cqz 3] none [cqz (1 / 3)] := by
  have e : crat 3 = (canon 3, wd 1) := by decide +kernel
  have e2 : crat (1 / 3) = (canon 1, wd 3) := by decide +kernel
  have z := znat_ok false 1 (by decide +kernel)
  have n := norm_ok (wd 3) (lim_wd 3) (by decide +kernel)
  rw [nv_wd] at n
  have c3 : canon 3 = (false, wd 3) := by decide +kernel
  have c1 : sg false 1 = 1 := rfl
  rw [c1] at z
  have E1 : cqz 3 = .agg [.bool false, .sl (lims (wd 3)), .sl (lims (wd 1))] := by
    show CV.agg (qrow (crat 3)) = _
    rw [e, c3]
    try rfl
  have E2 : cqz (1 / 3) = .agg (prow (canon 1) ++ [.sl (lims (wd 3))]) := by
    show CV.agg (qrow (crat (1 / 3))) = _
    rw [e2]
    try rfl
  rw [E1, E2]
  refine AC.by_walk (rs := [.cell 2 57]) ords Tryz.func74 (by rfl) (by rfl) (by rfl) (by rfl) (by rfl) ?_
  simp (disch := omega) only [wk, tis, seval, reduceCtorEq, Nat.reduceEqDiff, rqs, cpoly_len]
  refine ⟨tmps_by (by kernel_rfl), ?_⟩
  refine call_by (z) (by rfl) (by simp) ?_
  simp (disch := omega) only [wk, tis, seval, reduceCtorEq, Nat.reduceEqDiff, rqs, cpoly_len]
  refine call_by (n) (by rfl) (by simp) ?_
  simp (disch := omega) only [wk, tis, seval, reduceCtorEq, Nat.reduceEqDiff, rqs, cpoly_len]
  first | exact log_by (by kernel_rfl) | refine ⟨log_by (by kernel_rfl), ?_⟩
  try rfl
theorem good2_ok {a b : List Rat} (ha : QB 9 3 a) (hb : QB 9 3 b) : AC Tryz.prog 71 [.iv (.sl [[.sl (rats (a.map crat))], [.sl (rats (b.map crat))]])] none [ci 0] := by
  have g : ∀ {a : List Rat}, QB 9 3 a → AC Tryz.prog 111 [cqc a] none [cb true] := fun {a} ha => by
    have h := qgood_ok (a.map crat) (ha.gq.bq.mono (by omega) (by omega))
    rwa [show gd (a.map crat) = true from gd_iff.mpr fun r hr => by
      obtain ⟨c, _, rfl⟩ := List.mem_map.1 hr
      exact nv_crat0 c] at h
  have g1 := g ha
  have g2 := g hb
  refine AC.by_walk (rs := [.tmp 2]) ords Tryz.func71 (by rfl) (by rfl) (by rfl) (by rfl) (by rfl) ?_
  simp (disch := omega) only [wk, tis, seval, reduceCtorEq, Nat.reduceEqDiff, rqs, cpoly_len]
  refine aloop_by (fun f H => ∃ (i : Nat), i ≤ 2 ∧ f 7 = .iv (.int .i64 i) ∧ f 6 = .iv (.int .i64 2) ∧ f 5 = .iv (.sl [[.sl (rats (a.map crat))], [.sl (rats (b.map crat))]])) (fun f H => (2 - intAt f 7).toNat) ?_ ?_
  · refine ⟨0, by omega, ?_⟩
    simp (disch := omega) only [wk, tis, seval, reduceCtorEq, Nat.reduceEqDiff, rqs, cpoly_len]
  rintro f H ⟨i, hi, hF⟩
  rw [intAt_of hF.1]
  simp (disch := omega) only [wk, tis, seval, reduceCtorEq, Nat.reduceEqDiff, rqs, cpoly_len, hF]
  rcases (show i = 0 ∨ i = 1 ∨ i = 2 by omega) with e | e | e
  · have h : (i : Int) < 2 := by omega
    have hg : [[IV.sl (rats (a.map crat))], [IV.sl (rats (b.map crat))]].getD i [] = [IV.sl (rats (a.map crat))] := by rw [e]; rfl
    simp (disch := omega) only [wk, tis, seval, reduceCtorEq, Nat.reduceEqDiff, rqs, cpoly_len, hF, h, hg]
    refine call_by (g1) (by first | rfl | (simp only [tocvs, tocv, hF]; rfl) | (simp only [tocvs, tocv, toboxes, tobox, updH_at, Nat.reduceEqDiff, ↓reduceIte, hF]; rfl)) (by simp) ?_
    simp (disch := omega) only [wk, tis, seval, reduceCtorEq, Nat.reduceEqDiff, rqs, cpoly_len, hF]
    refine ⟨⟨i + 1, by omega, ?_⟩, by omega⟩
    try (repeat' apply And.intro) <;> first | rfl | omega
  · have h : (i : Int) < 2 := by omega
    have hg : [[IV.sl (rats (a.map crat))], [IV.sl (rats (b.map crat))]].getD i [] = [IV.sl (rats (b.map crat))] := by rw [e]; rfl
    simp (disch := omega) only [wk, tis, seval, reduceCtorEq, Nat.reduceEqDiff, rqs, cpoly_len, hF, h, hg]
    refine call_by (g2) (by first | rfl | (simp only [tocvs, tocv, hF]; rfl) | (simp only [tocvs, tocv, toboxes, tobox, updH_at, Nat.reduceEqDiff, ↓reduceIte, hF]; rfl)) (by simp) ?_
    simp (disch := omega) only [wk, tis, seval, reduceCtorEq, Nat.reduceEqDiff, rqs, cpoly_len, hF]
    refine ⟨⟨i + 1, by omega, ?_⟩, by omega⟩
    try (repeat' apply And.intro) <;> first | rfl | omega
  · have h : ¬ (i : Int) < 2 := by omega
    simp (disch := omega) only [wk, tis, seval, reduceCtorEq, Nat.reduceEqDiff, rqs, cpoly_len, hF, h]
    try rfl
def bR0 : Nat → List Rat
  | 0 => [-2, 1]
  | 1 => [-1, 0, 1]
  | 2 => [-2, 1]
  | _ => [3]
def bR1 : Nat → List Rat
  | 0 => [-1, 0, 1]
  | 1 => [-2, 1]
  | 2 => [3]
  | _ => []
def bU0 : Nat → List Rat
  | 0 => []
  | 1 => [1]
  | 2 => []
  | _ => [1]
def bU1 : Nat → List Rat
  | 0 => [1]
  | 1 => []
  | 2 => [1]
  | _ => [2 / 3, -1 / 3]
theorem bez_ok : AC Tryz.prog 38 [cqc [-1, 0, 1], cqc [-2, 1]] none [cqc [1], cqc [1 / 3], cqc [-2 / 3, -1 / 3], ci 0] := by
  have sm : ∀ l : List Rat, (l.length ≤ 9 ∧ ∀ c ∈ l, qz c ≤ 3) → QB 9 3 l := fun l h => ⟨h.1, h.2⟩
  have sp := sm [-1, 0, 1] (by decide +kernel)
  have sq := sm [-2, 1] (by decide +kernel)
  have s0 := sm [] (by decide +kernel)
  have s1 := sm [1] (by decide +kernel)
  have s2 := sm [2, 1] (by decide +kernel)
  have s3 := sm [3] (by decide +kernel)
  have s4 := sm [-2 / 3, 1 / 3] (by decide +kernel)
  have s5 := sm [1 / 3] (by decide +kernel)
  have s6 := sm [-1 / 3, 0, 1 / 3] (by decide +kernel)
  have s7 := sm [4 / 3, 0, -1 / 3] (by decide +kernel)
  have gd2 := good2_ok sp sq
  have n1 := normc sp (by decide +kernel)
  have n2 := normc sq (by decide +kernel)
  have zo := zOf_ok 1 (by omega) (by omega)
  have no := nof_ok 1 (by simp only [W]; omega)
  have mo := qmono_ok (crat 1) 0 (szq_crat (by rw [qz_one]; omega)) (nv_crat0 _) (by omega)
  rw [qv_crat, show cqp (monoq 1 0) = cqc [1] from congrArg cqw (by rw [cqs, show trimq (monoq 1 0) = [1] by decide +kernel])] at mo
  have d0 := divc (a := [-2, 1]) (b := [-1, 0, 1]) (q := []) (r := [-2, 1]) (n := 0) (dv_dec (by decide +kernel)) sq sp (by decide +kernel) (by decide +kernel)
  have d1 := divc (a := [-1, 0, 1]) (b := [-2, 1]) (q := [2, 1]) (r := [3]) (n := 2) (dv_dec (by decide +kernel)) sp sq (by decide +kernel) (by decide +kernel)
  have d2 := divc (a := [-2, 1]) (b := [3]) (q := [-2 / 3, 1 / 3]) (r := []) (n := 2) (dv_dec (by decide +kernel)) sq s3 (by decide +kernel) (by decide +kernel)
  have m0 := mulc (a := []) (b := [1]) (c := []) s0 s1 (by decide +kernel)
  have m1 := mulc (a := [2, 1]) (b := []) (c := []) s2 s0 (by decide +kernel)
  have m2 := mulc (a := [-2 / 3, 1 / 3]) (b := [1]) (c := [-2 / 3, 1 / 3]) s4 s1 (by decide +kernel)
  have b0 := subc (a := []) (b := []) (c := []) s0 s0 (by decide +kernel)
  have b1 := subc (a := [1]) (b := []) (c := [1]) s1 s0 (by decide +kernel)
  have b2 := subc (a := []) (b := [-2 / 3, 1 / 3]) (c := [2 / 3, -1 / 3]) s0 s4 (by decide +kernel)
  have ld := leadc (a := [3]) (x := 3) (n := 0) s3 (by decide +kernel) (by decide +kernel)
  have g1 := scalec (a := [3]) (k := 1 / 3) (c := [1]) s3 (by decide +kernel) (by decide +kernel)
  have g2 := scalec (a := [1]) (k := 1 / 3) (c := [1 / 3]) s1 (by decide +kernel) (by decide +kernel)
  have d3 := divc (a := [-2, 1]) (b := [1]) (q := [-2, 1]) (r := []) (n := 2) (dv_dec (by decide +kernel)) sq s1 (by decide +kernel) (by decide +kernel)
  have d4 := divc (a := [1 / 3]) (b := [-2, 1]) (q := []) (r := [1 / 3]) (n := 0) (dv_dec (by decide +kernel)) s5 sq (by decide +kernel) (by decide +kernel)
  have m3 := mulc (a := [1 / 3]) (b := [-1, 0, 1]) (c := [-1 / 3, 0, 1 / 3]) s5 sp (by decide +kernel)
  have b3 := subc (a := [1]) (b := [-1 / 3, 0, 1 / 3]) (c := [4 / 3, 0, -1 / 3]) s1 s6 (by decide +kernel)
  have d5 := divc (a := [4 / 3, 0, -1 / 3]) (b := [-2, 1]) (q := [-2 / 3, -1 / 3]) (r := []) (n := 2) (dv_dec (by decide +kernel)) s7 sq (by decide +kernel) (by decide +kernel)
  refine AC.by_walk (rs := [.tmp 4, .tmp 5, .tmp 6, .tmp 7]) ords Tryz.func38 (by rfl) (by rfl) (by rfl) (by rfl) (by rfl) ?_
  simp (disch := omega) only [wk, tis, seval, reduceCtorEq, Nat.reduceEqDiff, rqs, cpoly_len]
  refine call_by (gd2) (by rfl) (by simp) ?_
  simp (disch := omega) only [wk, tis, seval, reduceCtorEq, Nat.reduceEqDiff, rqs, cpoly_len]
  refine call_by (n1) (by rfl) (by simp) ?_
  simp (disch := omega) only [wk, tis, seval, reduceCtorEq, Nat.reduceEqDiff, rqs, cpoly_len]
  refine call_by (n2) (by rfl) (by simp) ?_
  simp (disch := omega) only [wk, tis, seval, reduceCtorEq, Nat.reduceEqDiff, rqs, cpoly_len]
  refine call_by (zo) (by rfl) (by simp) ?_
  simp (disch := omega) only [wk, tis, seval, reduceCtorEq, Nat.reduceEqDiff, rqs, cpoly_len]
  refine call_by (no) (by rfl) (by simp) ?_
  simp (disch := omega) only [wk, tis, seval, reduceCtorEq, Nat.reduceEqDiff, rqs, cpoly_len]
  refine call_by (mo) (by rfl) (by simp) ?_
  simp (disch := omega) only [wk, tis, seval, reduceCtorEq, Nat.reduceEqDiff, rqs, cpoly_len]
  refine aloop_w (.nilv 13 (by simp (disch := omega) only [wk, tis, seval, reduceCtorEq, Nat.reduceEqDiff, rqs, cpoly_len]) (.refl _ _)) (fun f H => ∃ j : Nat, j ≤ 3 ∧ f 0 = .iv (.sl (rats (([-1, 0, 1] : List Rat).map crat))) ∧ f 1 = .iv (.sl (rats (([-2, 1] : List Rat).map crat))) ∧ f 11 = .iv (.sl (rats ((bR0 j).map crat))) ∧ f 12 = .iv (.sl (rats ((bR1 j).map crat))) ∧ f 13 = .iv (.sl (rats ((bU0 j).map crat))) ∧ f 14 = .iv (.sl (rats ((bU1 j).map crat)))) (fun f H => match f 12 with | .iv (.sl l) => l.length | _ => 0) ?_ ?_
  · refine ⟨0, by omega, ?_⟩
    simp (disch := omega) only [wk, tis, seval, reduceCtorEq, Nat.reduceEqDiff, rqs, cpoly_len]
    try (repeat' apply And.intro) <;> first | rfl | omega
  rintro f H ⟨j, hj, hF⟩
  rcases (show j = 0 ∨ j = 1 ∨ j = 2 ∨ j = 3 by omega) with rfl | rfl | rfl | rfl
  · simp only [bR0, bR1, bU0, bU1] at hF
    have hl : (0 : Int) < ((([-1, 0, 1] : List Rat).map crat).length : Int) := by decide
    have hmu : (match f 12 with | .iv (.sl l) => l.length | _ => 0) = 3 := by rw [hF.2.2.2.1]; rfl
    rw [hmu]
    simp (disch := omega) only [wk, tis, seval, reduceCtorEq, Nat.reduceEqDiff, rqs, cpoly_len, hF, hl]
    refine call_by (d0) (by first | rfl | (simp only [tocvs, tocv, hF]; rfl) | (simp only [tocvs, tocv, toboxes, tobox, updH_at, Nat.reduceEqDiff, ↓reduceIte, hF]; rfl)) (by simp) ?_
    simp (disch := omega) only [wk, tis, seval, reduceCtorEq, Nat.reduceEqDiff, rqs, cpoly_len, hF]
    refine call_by (m0) (by first | rfl | (simp only [tocvs, tocv, hF]; rfl) | (simp only [tocvs, tocv, toboxes, tobox, updH_at, Nat.reduceEqDiff, ↓reduceIte, hF]; rfl)) (by simp) ?_
    simp (disch := omega) only [wk, tis, seval, reduceCtorEq, Nat.reduceEqDiff, rqs, cpoly_len, hF]
    refine call_by (b0) (by first | rfl | (simp only [tocvs, tocv, hF]; rfl) | (simp only [tocvs, tocv, toboxes, tobox, updH_at, Nat.reduceEqDiff, ↓reduceIte, hF]; rfl)) (by simp) ?_
    simp (disch := omega) only [wk, tis, seval, reduceCtorEq, Nat.reduceEqDiff, rqs, cpoly_len, hF]
    refine ⟨1, by omega, ?_⟩
    try (repeat' apply And.intro) <;> first | rfl | omega
  · simp only [bR0, bR1, bU0, bU1] at hF
    have hl : (0 : Int) < ((([-2, 1] : List Rat).map crat).length : Int) := by decide
    have hmu : (match f 12 with | .iv (.sl l) => l.length | _ => 0) = 2 := by rw [hF.2.2.2.1]; rfl
    rw [hmu]
    simp (disch := omega) only [wk, tis, seval, reduceCtorEq, Nat.reduceEqDiff, rqs, cpoly_len, hF, hl]
    refine call_by (d1) (by first | rfl | (simp only [tocvs, tocv, hF]; rfl) | (simp only [tocvs, tocv, toboxes, tobox, updH_at, Nat.reduceEqDiff, ↓reduceIte, hF]; rfl)) (by simp) ?_
    simp (disch := omega) only [wk, tis, seval, reduceCtorEq, Nat.reduceEqDiff, rqs, cpoly_len, hF]
    refine call_by (m1) (by first | rfl | (simp only [tocvs, tocv, hF]; rfl) | (simp only [tocvs, tocv, toboxes, tobox, updH_at, Nat.reduceEqDiff, ↓reduceIte, hF]; rfl)) (by simp) ?_
    simp (disch := omega) only [wk, tis, seval, reduceCtorEq, Nat.reduceEqDiff, rqs, cpoly_len, hF]
    refine call_by (b1) (by first | rfl | (simp only [tocvs, tocv, hF]; rfl) | (simp only [tocvs, tocv, toboxes, tobox, updH_at, Nat.reduceEqDiff, ↓reduceIte, hF]; rfl)) (by simp) ?_
    simp (disch := omega) only [wk, tis, seval, reduceCtorEq, Nat.reduceEqDiff, rqs, cpoly_len, hF]
    refine ⟨2, by omega, ?_⟩
    try (repeat' apply And.intro) <;> first | rfl | omega
  · simp only [bR0, bR1, bU0, bU1] at hF
    have hl : (0 : Int) < ((([3] : List Rat).map crat).length : Int) := by decide
    have hmu : (match f 12 with | .iv (.sl l) => l.length | _ => 0) = 1 := by rw [hF.2.2.2.1]; rfl
    rw [hmu]
    simp (disch := omega) only [wk, tis, seval, reduceCtorEq, Nat.reduceEqDiff, rqs, cpoly_len, hF, hl]
    refine call_by (d2) (by first | rfl | (simp only [tocvs, tocv, hF]; rfl) | (simp only [tocvs, tocv, toboxes, tobox, updH_at, Nat.reduceEqDiff, ↓reduceIte, hF]; rfl)) (by simp) ?_
    simp (disch := omega) only [wk, tis, seval, reduceCtorEq, Nat.reduceEqDiff, rqs, cpoly_len, hF]
    refine call_by (m2) (by first | rfl | (simp only [tocvs, tocv, hF]; rfl) | (simp only [tocvs, tocv, toboxes, tobox, updH_at, Nat.reduceEqDiff, ↓reduceIte, hF]; rfl)) (by simp) ?_
    simp (disch := omega) only [wk, tis, seval, reduceCtorEq, Nat.reduceEqDiff, rqs, cpoly_len, hF]
    refine call_by (b2) (by first | rfl | (simp only [tocvs, tocv, hF]; rfl) | (simp only [tocvs, tocv, toboxes, tobox, updH_at, Nat.reduceEqDiff, ↓reduceIte, hF]; rfl)) (by simp) ?_
    simp (disch := omega) only [wk, tis, seval, reduceCtorEq, Nat.reduceEqDiff, rqs, cpoly_len, hF]
    refine ⟨3, by omega, ?_⟩
    try (repeat' apply And.intro) <;> first | rfl | omega
  · simp only [bR0, bR1, bU0, bU1] at hF
    have hl : ¬ (0 : Int) < ((([] : List Rat).map crat).length : Int) := by decide
    simp (disch := omega) only [wk, tis, seval, reduceCtorEq, Nat.reduceEqDiff, rqs, cpoly_len, hF, hl]
    refine call_by (ld) (by first | rfl | (simp only [tocvs, tocv, hF]; rfl) | (simp only [tocvs, tocv, toboxes, tobox, updH_at, Nat.reduceEqDiff, ↓reduceIte, hF]; rfl)) (by simp) ?_
    simp (disch := omega) only [wk, tis, seval, reduceCtorEq, Nat.reduceEqDiff, rqs, cpoly_len, hF]
    refine call_by (inv3_ok) (by first | rfl | (simp only [tocvs, tocv, hF]; rfl) | (simp only [tocvs, tocv, toboxes, tobox, updH_at, Nat.reduceEqDiff, ↓reduceIte, hF]; rfl)) (by simp) ?_
    simp (disch := omega) only [wk, tis, seval, reduceCtorEq, Nat.reduceEqDiff, rqs, cpoly_len, hF]
    refine call_by (g1) (by first | rfl | (simp only [tocvs, tocv, hF]; rfl) | (simp only [tocvs, tocv, toboxes, tobox, updH_at, Nat.reduceEqDiff, ↓reduceIte, hF]; rfl)) (by simp) ?_
    simp (disch := omega) only [wk, tis, seval, reduceCtorEq, Nat.reduceEqDiff, rqs, cpoly_len, hF]
    refine call_by (g2) (by first | rfl | (simp only [tocvs, tocv, hF]; rfl) | (simp only [tocvs, tocv, toboxes, tobox, updH_at, Nat.reduceEqDiff, ↓reduceIte, hF]; rfl)) (by simp) ?_
    simp (disch := omega) only [wk, tis, seval, reduceCtorEq, Nat.reduceEqDiff, rqs, cpoly_len, hF]
    refine call_by (d3) (by first | rfl | (simp only [tocvs, tocv, hF]; rfl) | (simp only [tocvs, tocv, toboxes, tobox, updH_at, Nat.reduceEqDiff, ↓reduceIte, hF]; rfl)) (by simp) ?_
    simp (disch := omega) only [wk, tis, seval, reduceCtorEq, Nat.reduceEqDiff, rqs, cpoly_len, hF]
    refine call_by (d4) (by first | rfl | (simp only [tocvs, tocv, hF]; rfl) | (simp only [tocvs, tocv, toboxes, tobox, updH_at, Nat.reduceEqDiff, ↓reduceIte, hF]; rfl)) (by simp) ?_
    simp (disch := omega) only [wk, tis, seval, reduceCtorEq, Nat.reduceEqDiff, rqs, cpoly_len, hF]
    refine call_by (m3) (by first | rfl | (simp only [tocvs, tocv, hF]; rfl) | (simp only [tocvs, tocv, toboxes, tobox, updH_at, Nat.reduceEqDiff, ↓reduceIte, hF]; rfl)) (by simp) ?_
    simp (disch := omega) only [wk, tis, seval, reduceCtorEq, Nat.reduceEqDiff, rqs, cpoly_len, hF]
    refine call_by (b3) (by first | rfl | (simp only [tocvs, tocv, hF]; rfl) | (simp only [tocvs, tocv, toboxes, tobox, updH_at, Nat.reduceEqDiff, ↓reduceIte, hF]; rfl)) (by simp) ?_
    simp (disch := omega) only [wk, tis, seval, reduceCtorEq, Nat.reduceEqDiff, rqs, cpoly_len, hF]
    refine call_by (d5) (by first | rfl | (simp only [tocvs, tocv, hF]; rfl) | (simp only [tocvs, tocv, toboxes, tobox, updH_at, Nat.reduceEqDiff, ↓reduceIte, hF]; rfl)) (by simp) ?_
    simp (disch := omega) only [wk, tis, seval, reduceCtorEq, Nat.reduceEqDiff, rqs, cpoly_len, hF]
    try exact ⟨rfl, rfl, rfl⟩
theorem fixed14_ok : AC Tryz.prog 7 [] none [cb true] := by
  have lim : ∀ l : List Int, (l.length ≤ 9 ∧ ∀ z ∈ l, z.natAbs < 10) → (AC Tryz.prog 37 [cis l] none [cp l]) ∧ RP 9 1 (cn l) := fun l h => by
    refine ⟨tP_ok l (by omega) (fun z hz => by have := h.2 z hz; omega), ?_⟩
    exact rp_cn (small_pb l 9 h.1 fun z hz => by have := h.2 z hz; simp only [W]; omega)
  have mo : ∀ {l : List RI}, RP 9 1 l → RP 9 2 l := fun h => h.mono (Nat.le_refl _) (by omega)
  obtain ⟨p1, r1⟩ := lim [-1, 0, 1] (by decide)
  obtain ⟨p2, r2⟩ := lim [1, -2, 1] (by decide)
  obtain ⟨p3, r3⟩ := lim [-1, 1] (by decide)
  obtain ⟨p4, r4⟩ := lim [0, 0, 0, -1, 1] (by decide)
  obtain ⟨p5, r5⟩ := lim [0, 1] (by decide)
  obtain ⟨p6, r6⟩ := lim [0, 2] (by decide)
  obtain ⟨p7, r7⟩ := lim [4] (by decide)
  obtain ⟨p8, r8⟩ := lim [-2, 1] (by decide)
  obtain ⟨p9, r9⟩ := lim [1] (by decide)
  have g := pgcd_g (p := cn [-1, 0, 1]) (q := cn [1, -2, 1]) (A := [-1, 0, 1]) (B := [1, -2, 1]) 9 2 (r1.mono (by omega) (by omega)) (r2.mono (by omega) (by omega)) (ps_cn _) (ps_cn _) (by decide) (by decide) (by omega) ez2
  rw [show cp (gcdp [-1, 0, 1] [1, -2, 1]) = cp [-1, 1] from cp_ps (by rw [← ps_trimz, show trimz (gcdp [-1, 0, 1] [1, -2, 1]) = [-1, 1] by decide +kernel])] at g
  have s3 := tSame_ok (cn [-1, 1]) (cn [-1, 1]) (r3.mono (by omega) (by omega)) (r3.mono (by omega) (by omega))
  rw [decide_eq_true rfl] at s3
  have e4 : pv (cn [0, 0, 0, -1, 1]) = [0, 0, 0, -1, 1] := pv_cnt (by decide)
  have e5 : pv (cn [0, 1]) = [0, 1] := pv_cnt (by decide)
  have e6 : pv (cn [0, 2]) = [0, 2] := pv_cnt (by decide)
  have e7 : pv (cn [4]) = [4] := pv_cnt (by decide)
  have t := ptimes_ok (cn [0, 0, 0, -1, 1]) (cn [0, 1]) (mo r4) (mo r5)
  rw [e4, e5, if_neg (by decide), if_neg (by decide), show tmn [0, 1] 9 (npr [0, 0, 0, -1, 1]) = 3 by decide +kernel, show cp (tmr [0, 1] 9 (npr [0, 0, 0, -1, 1])) = cp [-1, 1] from cp_ps (by rw [← ps_trimz, show trimz (tmr [0, 1] 9 (npr [0, 0, 0, -1, 1])) = [-1, 1] by decide +kernel]), show ((3 : Nat) : Int) = 3 from rfl] at t
  have x := pexact_ok (cn [0, 2]) (cn [4]) 1 (r6.mono (by omega) (by omega)) (r7.mono (by omega) (by omega)) (by omega)
  rw [e6, e7, show exv [0, 2] [4] = [] by decide +kernel, show exe [0, 2] [4] = 4 by decide +kernel] at x
  have ov : ∀ l : List Int, RP 9 1 (cn l) → trimz l = l → AC Tryz.prog 39 [cp l] none [cqc (qp l)] := fun l h e => by
    have o := overq_ok (cn l) (h.mono (by omega) (by omega))
    rwa [pv_cnt e, show cqp (qp l) = cqc (qp l) from congrArg cqw (by rw [cqs, qp_trim, e])] at o
  have o1 := ov [-1, 0, 1] r1 (by decide)
  have o8 := ov [-2, 1] r8 (by decide)
  have o9 := ov [1] r9 (by decide)
  rw [show qp [-1, 0, 1] = [-1, 0, 1] by decide +kernel] at o1
  rw [show qp [-2, 1] = [-2, 1] by decide +kernel] at o8
  rw [show qp [1] = [1] by decide +kernel] at o9
  have bz := bez_ok
  have sq : ∀ l : List Rat, (l.length ≤ 9 ∧ ∀ c ∈ l, qz c ≤ 3) → AC Tryz.prog 40 [cqc l, cqc l] none [cb true] := fun l h => by
    have hb : QB 9 3 l := ⟨h.1, h.2⟩
    exact sameq11_self (l.map crat) (hb.gq.bq.mono (by omega) (by omega))
  have q1 := sq [1] (by decide +kernel)
  have q2 := sq [1 / 3] (by decide +kernel)
  have q3 := sq [-2 / 3, -1 / 3] (by decide +kernel)
  have h1 := hP_ok 1 3 (by omega) (by omega) (by omega) (by omega)
  have h2 := hP_ok (-2) 3 (by omega) (by omega) (by omega) (by omega)
  have h3 := hP_ok (-1) 3 (by omega) (by omega) (by omega) (by omega)
  rw [show ((1 : Int) : Rat) / ((3 : Nat) : Rat) = 1 / 3 by decide +kernel] at h1
  rw [show ((-2 : Int) : Rat) / ((3 : Nat) : Rat) = -2 / 3 by decide +kernel] at h2
  rw [show ((-1 : Int) : Rat) / ((3 : Nat) : Rat) = -1 / 3 by decide +kernel] at h3
  have i1 : [[IV.int .i64 (-1)], [IV.int .i64 0], [IV.int .i64 1]] = ilims [-1, 0, 1] := rfl
  have i2 : [[IV.int .i64 1], [IV.int .i64 (-2)], [IV.int .i64 1]] = ilims [1, -2, 1] := rfl
  have i3 : [[IV.int .i64 (-1)], [IV.int .i64 1]] = ilims [-1, 1] := rfl
  have i4 : [[IV.int .i64 0], [IV.int .i64 0], [IV.int .i64 0], [IV.int .i64 (-1)], [IV.int .i64 1]] = ilims [0, 0, 0, -1, 1] := rfl
  have i5 : [[IV.int .i64 0], [IV.int .i64 1]] = ilims [0, 1] := rfl
  have i6 : [[IV.int .i64 0], [IV.int .i64 2]] = ilims [0, 2] := rfl
  have i7 : [[IV.int .i64 4]] = ilims [4] := rfl
  have i8 : [[IV.int .i64 (-2)], [IV.int .i64 1]] = ilims [-2, 1] := rfl
  have i9 : [[IV.int .i64 1]] = ilims [1] := rfl
  have hir : ∀ l : List Int, (∀ r ∈ ilims l, r.length = 1) ↔ True := fun l => by simp [ilims]
  have hr5 : List.range 5 = [0, 1, 2, 3, 4] := rfl
  have j1 : [qrow (crat (1 / 3))] = rats (([1 / 3] : List Rat).map crat) := rfl
  have j2 : [qrow (crat (-2 / 3)), qrow (crat (-1 / 3))] = rats (([-2 / 3, -1 / 3] : List Rat).map crat) := rfl
  refine AC.by_walk (rs := [.tmp 0]) ords Tryz.func7 (by rfl) (by rfl) (by rfl) (by rfl) (by rfl) ?_
  simp (disch := omega) only [wk, tis, seval, reduceCtorEq, Nat.reduceEqDiff, rqs, cpoly_len]
  refine call_by (p1) (by first | rfl | (simp only [tocvs, tocv, i1, i2, hir]; rfl) | (simp only [tocvs, tocv, toboxes, tobox, updH_at, Nat.reduceEqDiff, ↓reduceIte, i1, i2, hir]; rfl)) (by simp) ?_
  simp (disch := omega) only [wk, tis, seval, reduceCtorEq, Nat.reduceEqDiff, rqs, cpoly_len, i1, i2, hir]
  refine call_by (p2) (by first | rfl | (simp only [tocvs, tocv, i1, i2, i3, hir]; rfl) | (simp only [tocvs, tocv, toboxes, tobox, updH_at, Nat.reduceEqDiff, ↓reduceIte, i1, i2, i3, hir]; rfl)) (by simp) ?_
  simp (disch := omega) only [wk, tis, seval, reduceCtorEq, Nat.reduceEqDiff, rqs, cpoly_len, i1, i2, i3, hir]
  refine call_by (g) (by first | rfl | (simp only [tocvs, tocv, i3, hir]; rfl) | (simp only [tocvs, tocv, toboxes, tobox, updH_at, Nat.reduceEqDiff, ↓reduceIte, i3, hir]; rfl)) (by simp) ?_
  simp (disch := omega) only [wk, tis, seval, reduceCtorEq, Nat.reduceEqDiff, rqs, cpoly_len, i3, hir]
  refine call_by (p3) (by first | rfl | (simp only [tocvs, tocv, i3, hir]; rfl) | (simp only [tocvs, tocv, toboxes, tobox, updH_at, Nat.reduceEqDiff, ↓reduceIte, i3, hir]; rfl)) (by simp) ?_
  simp (disch := omega) only [wk, tis, seval, reduceCtorEq, Nat.reduceEqDiff, rqs, cpoly_len, i3, hir]
  refine call_by (s3) (by first | rfl | (simp only [tocvs, tocv, i4, i5, hir, hr5]; rfl) | (simp only [tocvs, tocv, toboxes, tobox, updH_at, Nat.reduceEqDiff, ↓reduceIte, i4, i5, hir, hr5]; rfl)) (by simp) ?_
  simp (disch := omega) only [wk, tis, seval, reduceCtorEq, Nat.reduceEqDiff, rqs, cpoly_len, i4, i5, hir, hr5]
  refine call_by (p4) (by first | rfl | (simp only [tocvs, tocv, i4, i5, hir, hr5]; rfl) | (simp only [tocvs, tocv, toboxes, tobox, updH_at, Nat.reduceEqDiff, ↓reduceIte, i4, i5, hir, hr5]; rfl)) (by simp) ?_
  simp (disch := omega) only [wk, tis, seval, reduceCtorEq, Nat.reduceEqDiff, rqs, cpoly_len, i4, i5, hir, hr5]
  refine call_by (p5) (by first | rfl | (simp only [tocvs, tocv, i5, hir]; rfl) | (simp only [tocvs, tocv, toboxes, tobox, updH_at, Nat.reduceEqDiff, ↓reduceIte, i5, hir]; rfl)) (by simp) ?_
  simp (disch := omega) only [wk, tis, seval, reduceCtorEq, Nat.reduceEqDiff, rqs, cpoly_len, i5, hir]
  refine call_by (t) (by first | rfl | (simp only [tocvs, tocv, i6, i7, hir]; rfl) | (simp only [tocvs, tocv, toboxes, tobox, updH_at, Nat.reduceEqDiff, ↓reduceIte, i6, i7, hir]; rfl)) (by simp) ?_
  simp (disch := omega) only [wk, tis, seval, reduceCtorEq, Nat.reduceEqDiff, rqs, cpoly_len, i6, i7, hir]
  refine call_by (p6) (by first | rfl | (simp only [tocvs, tocv, i6, i7, hir]; rfl) | (simp only [tocvs, tocv, toboxes, tobox, updH_at, Nat.reduceEqDiff, ↓reduceIte, i6, i7, hir]; rfl)) (by simp) ?_
  simp (disch := omega) only [wk, tis, seval, reduceCtorEq, Nat.reduceEqDiff, rqs, cpoly_len, i6, i7, hir]
  refine call_by (p7) (by first | rfl | (simp only [tocvs, tocv, i7, hir]; rfl) | (simp only [tocvs, tocv, toboxes, tobox, updH_at, Nat.reduceEqDiff, ↓reduceIte, i7, hir]; rfl)) (by simp) ?_
  simp (disch := omega) only [wk, tis, seval, reduceCtorEq, Nat.reduceEqDiff, rqs, cpoly_len, i7, hir]
  refine call_by (x) (by first | rfl | (simp only [tocvs, tocv, i1, hir]; rfl) | (simp only [tocvs, tocv, toboxes, tobox, updH_at, Nat.reduceEqDiff, ↓reduceIte, i1, hir]; rfl)) (by simp) ?_
  simp (disch := omega) only [wk, tis, seval, reduceCtorEq, Nat.reduceEqDiff, rqs, cpoly_len, i1, hir]
  refine call_by (p1) (by first | rfl | (simp only [tocvs, tocv, i1, i8, hir]; rfl) | (simp only [tocvs, tocv, toboxes, tobox, updH_at, Nat.reduceEqDiff, ↓reduceIte, i1, i8, hir]; rfl)) (by simp) ?_
  simp (disch := omega) only [wk, tis, seval, reduceCtorEq, Nat.reduceEqDiff, rqs, cpoly_len, i1, i8, hir]
  refine call_by (o1) (by first | rfl | (simp only [tocvs, tocv, i8, hir]; rfl) | (simp only [tocvs, tocv, toboxes, tobox, updH_at, Nat.reduceEqDiff, ↓reduceIte, i8, hir]; rfl)) (by simp) ?_
  simp (disch := omega) only [wk, tis, seval, reduceCtorEq, Nat.reduceEqDiff, rqs, cpoly_len, i8, hir]
  refine call_by (p8) (by first | rfl | (simp only [tocvs, tocv, i8, hir]; rfl) | (simp only [tocvs, tocv, toboxes, tobox, updH_at, Nat.reduceEqDiff, ↓reduceIte, i8, hir]; rfl)) (by simp) ?_
  simp (disch := omega) only [wk, tis, seval, reduceCtorEq, Nat.reduceEqDiff, rqs, cpoly_len, i8, hir]
  refine call_by (o8) (by rfl) (by simp) ?_
  simp (disch := omega) only [wk, tis, seval, reduceCtorEq, Nat.reduceEqDiff, rqs, cpoly_len]
  refine call_by (bz) (by first | rfl | (simp only [tocvs, tocv, i3, hir]; rfl) | (simp only [tocvs, tocv, toboxes, tobox, updH_at, Nat.reduceEqDiff, ↓reduceIte, i3, hir]; rfl)) (by simp) ?_
  simp (disch := omega) only [wk, tis, seval, reduceCtorEq, Nat.reduceEqDiff, rqs, cpoly_len, i3, hir]
  refine call_by (p3) (by first | rfl | (simp only [tocvs, tocv, i3, hir]; rfl) | (simp only [tocvs, tocv, toboxes, tobox, updH_at, Nat.reduceEqDiff, ↓reduceIte, i3, hir]; rfl)) (by simp) ?_
  simp (disch := omega) only [wk, tis, seval, reduceCtorEq, Nat.reduceEqDiff, rqs, cpoly_len, i3, hir]
  refine call_by (s3) (by first | rfl | (simp only [tocvs, tocv, i9, hir]; rfl) | (simp only [tocvs, tocv, toboxes, tobox, updH_at, Nat.reduceEqDiff, ↓reduceIte, i9, hir]; rfl)) (by simp) ?_
  simp (disch := omega) only [wk, tis, seval, reduceCtorEq, Nat.reduceEqDiff, rqs, cpoly_len, i9, hir]
  refine call_by (p9) (by first | rfl | (simp only [tocvs, tocv, i9, hir]; rfl) | (simp only [tocvs, tocv, toboxes, tobox, updH_at, Nat.reduceEqDiff, ↓reduceIte, i9, hir]; rfl)) (by simp) ?_
  simp (disch := omega) only [wk, tis, seval, reduceCtorEq, Nat.reduceEqDiff, rqs, cpoly_len, i9, hir]
  refine call_by (o9) (by rfl) (by simp) ?_
  simp (disch := omega) only [wk, tis, seval, reduceCtorEq, Nat.reduceEqDiff, rqs, cpoly_len]
  refine call_by (q1) (by rfl) (by simp) ?_
  simp (disch := omega) only [wk, tis, seval, reduceCtorEq, Nat.reduceEqDiff, rqs, cpoly_len]
  refine call_by (h1) (by first | rfl | (simp only [tocvs, tocv, j1]; rfl) | (simp only [tocvs, tocv, toboxes, tobox, updH_at, Nat.reduceEqDiff, ↓reduceIte, j1]; rfl)) (by simp) ?_
  simp (disch := omega) only [wk, tis, seval, reduceCtorEq, Nat.reduceEqDiff, rqs, cpoly_len, j1]
  refine call_by (q2) (by rfl) (by simp) ?_
  simp (disch := omega) only [wk, tis, seval, reduceCtorEq, Nat.reduceEqDiff, rqs, cpoly_len]
  refine call_by (h2) (by rfl) (by simp) ?_
  simp (disch := omega) only [wk, tis, seval, reduceCtorEq, Nat.reduceEqDiff, rqs, cpoly_len]
  refine call_by (h3) (by first | rfl | (simp only [tocvs, tocv, j2]; rfl) | (simp only [tocvs, tocv, toboxes, tobox, updH_at, Nat.reduceEqDiff, ↓reduceIte, j2]; rfl)) (by simp) ?_
  simp (disch := omega) only [wk, tis, seval, reduceCtorEq, Nat.reduceEqDiff, rqs, cpoly_len, j2]
  refine call_by (q3) (by rfl) (by simp) ?_
  simp (disch := omega) only [wk, tis, seval, reduceCtorEq, Nat.reduceEqDiff, rqs, cpoly_len]
  try rfl
end Go.Proofs.YtlmkieimciodoaaGreat

namespace Go.Proofs.YtlmkieimciodoaaGreat
open Go Go.Proofs Go.AL
set_option linter.unusedSimpArgs false
set_option linter.unusedVariables false
theorem same92 {A : List Int} (h : SBd 92 A ∧ tz A ≤ 9) : AC Tryz.prog 9 [cp A, cp A] none [cb true] := same14 (h.1.mono (by omega)) (by omega)
theorem left_small {P G : List Int} (tP : tz P ≤ 9) (sP : SBd 2 P) (hG : tz G ≠ 0) (hd : Dv G P) : SBd 92 (leftv P G) ∧ tz (leftv P G) ≤ 9 := by
  unfold leftv
  split
  · exact ⟨sb_zero (by decide), by decide⟩
  · rename_i h0
    have := small_dv h0 tP sP (quo_nf P G) (quo_dv hG hd)
    exact ⟨this.1, this.2.1⟩
theorem tmr_small {P B : List Int} (h0 : tz P ≠ 0) (tP : tz P ≤ 9) (sP : SBd 2 P) (hB : tz B ≠ 0) : ∀ (f : Nat) (A : List Int), Nf A → Dv A P → SBd 92 (tmr B f A) ∧ tz (tmr B f A) ≤ 9 ∧ Nf (tmr B f A) ∧ Dv (tmr B f A) P
  | 0, A, n, d => by
    have := small_dv h0 tP sP n d
    exact ⟨this.1, this.2.1, n, d⟩
  | f + 1, A, n, d => by
    rw [tmr]
    split
    · rename_i hd
      have hdv := (dvb_iff _ _).mp hd
      exact tmr_small h0 tP sP hB f _ (quo_nf _ _) ((quo_dv hB hdv).trans d)
    · have := small_dv h0 tP sP n d
      exact ⟨this.1, this.2.1, n, d⟩
theorem wof_small {P B : List Int} (h0 : tz P ≠ 0) (tP : tz P ≤ 9) (sP : SBd 2 P) : ∀ (f : Nat) (A : List Int), Nf A → Dv A P → SBd 92 (wof B f A) ∧ tz (wof B f A) ≤ 9 ∧ Nf (wof B f A) ∧ Dv (wof B f A) P
  | 0, A, n, d => by
    have := small_dv h0 tP sP n d
    exact ⟨this.1, this.2.1, n, d⟩
  | f + 1, A, n, d => by
    rw [wof]
    split
    · have := small_dv h0 tP sP n d
      exact ⟨this.1, this.2.1, n, d⟩
    · have gg := gcdp_gg A B
      have hA := (dv_tz d h0).1
      exact wof_small h0 tP sP f _ (quo_nf _ _) ((quo_dv (dv_tz gg.a hA).1 gg.a).trans d)
structure Y14 (y : C14) : Prop where
  P : RP 9 2 y.P
  R : RP 9 2 y.R
  K : RP 9 2 y.K
  L : y.L.length ≤ 6 ∧ ∀ p ∈ y.L, RP 9 2 p
theorem y14 {x : C14} (h : Ok14 x) : Y14 (less14 x) := by
  have f : ∀ {p : List RI}, Raw p → RP 9 2 (fp2 p) := fun {p} hp => fp2_rp fun c hc => (hp.2 c hc).2
  refine ⟨f h.P, f h.R, f h.K, ?_, fun p hp => ?_⟩
  · show ((x.L.take 6).map fp2).length ≤ 6
    rw [List.length_map, List.length_take]; omega
  · obtain ⟨q, hq, rfl⟩ := List.mem_map.1 hp
    exact f (h.L.2 q (List.mem_of_mem_take hq))
end Go.Proofs.YtlmkieimciodoaaGreat

namespace Go.Proofs.YtlmkieimciodoaaGreat
open Go Go.Proofs Go.AL
set_option linter.unusedSimpArgs false
set_option linter.unusedVariables false
structure AG (G : List Int) (l : List (List Int)) : Prop where
  d : ∀ A ∈ l, Dv G A
  g : ∀ D, (∀ A ∈ l, Dv D A) → Dv D G
theorem AG.uniq {G G' : List Int} {l : List (List Int)} (h : AG G l) (h' : AG G' l) (n : Nf G) (n' : Nf G') : ps G = ps G' := ((h'.g G h.d).anti (h.g G' h'.d)).uniq n n'
theorem nf_nil : Nf [] := .inl (by decide)
theorem left_mul {P G : List Int} (hG : tz G ≠ 0) (h : Dv G P) : As P (pmul G (leftv P G)) := by
  unfold leftv
  split
  · rename_i h0
    exact .of_ps (by rw [ps_pmul, ps_nil, PS.mul_zero, ps_zero_of h0])
  · exact (quo_mul hG h).trans (.of_ps (by rw [ps_pmul, ps_pmul, PS.mul_comm]))
theorem nf_mul {A B : List Int} (hA : Nf A) (hB : Nf B) : Nf (pmul A B) := by
  rcases hA with hA | hA
  · exact .inl (tz_pmul_zero (.inl hA))
  rcases hB with hB | hB
  · exact .inl (tz_pmul_zero (.inr hB))
  · exact .inr (prm_mul hA hB)
theorem left_nf (P G : List Int) : Nf (leftv P G) := by
  unfold leftv
  split
  · exact nf_nil
  · exact quo_nf _ _
theorem left_times {P G : List Int} (hG : tz G ≠ 0) (hn : Nf G) (h : Dv G P) : ps (pmul G (leftv P G)) = ps (npr P) := (((left_mul hG h).symm).trans (as_npr P)).uniq (nf_mul hn (left_nf P G)) (nf_npr P)
theorem gg_one {A B U V : List Int} {c : Int} (hc : c ≠ 0) (e : ps U * ps A + ps V * ps B = PS.C c) : tz (gcdp A B) = 1 := by
  have h1 : GG [1] A B := ⟨⟨1, A, by decide, by rw [ps_one, PS.mul_one, PS.C_one, PS.one_mul]⟩, ⟨1, B, by decide, by rw [ps_one, PS.mul_one, PS.C_one, PS.one_mul]⟩, c, U, V, hc, by rw [e, ps_one, PS.mul_one]⟩
  have n1 : Nf [1] := .inr ⟨by decide, by decide⟩
  rw [← tz_of_ps (gcdp_eq h1 n1)]
  decide
theorem left_coprime {P R : List Int} (hG : tz (gcdp P R) ≠ 0) : tz (gcdp (leftv P (gcdp P R)) (leftv R (gcdp P R))) = 1 := by
  have gg := gcdp_gg P R
  obtain ⟨c, U, V, hc, e⟩ := gg.z
  obtain ⟨a, a', ha, ha', ea⟩ := left_mul hG gg.a
  obtain ⟨b, b', hb, hb', eb⟩ := left_mul hG gg.b
  generalize leftv P (gcdp P R) = A at *
  generalize leftv R (gcdp P R) = B at *
  generalize gcdp P R = G at *
  refine gg_one (U := pscale (b * a') U) (V := pscale (a * b') V) (c := c * a * b) (Int.mul_ne_zero (Int.mul_ne_zero hc ha) hb) ?_
  have h1 : ps (padd (pmul (pscale (b * a') U) A) (pmul (pscale (a * b') V) B)) * ps G = ps [c * a * b] * ps G := by
    rw [ps_padd, ps_pmul, ps_pmul, ps_pscale, ps_pscale, ps_const, PS.add_mul]
    rw [ps_pmul] at ea eb
    have x1 : PS.C (b * a') * ps U * ps A * ps G = PS.C b * ps U * (PS.C a' * (ps G * ps A)) := by rw [PS.C_mul]; ac_rfl
    have x2 : PS.C (a * b') * ps V * ps B * ps G = PS.C a * ps V * (PS.C b' * (ps G * ps B)) := by rw [PS.C_mul]; ac_rfl
    rw [x1, x2, ← ea, ← eb, PS.C_mul, PS.C_mul]
    have x3 : PS.C c * PS.C a * PS.C b * ps G = PS.C a * PS.C b * (PS.C c * ps G) := by ac_rfl
    rw [x3, ← e, PS.mul_add]
    congr 1 <;> ac_rfl
  have h2 := ps_cancel h1 hG
  rw [ps_padd, ps_pmul, ps_pmul, ps_const] at h2
  exact h2
theorem tm_facts {B : List Int} (hB : 2 ≤ tz B) : ∀ (f : Nat) (A : List Int), Nf A → tz A ≠ 0 → tz A ≤ f → As (pmul (tmr B f A) (ppow B (tmn B f A))) A ∧ tz (tmr B f A) + tmn B f A * (tz B - 1) = tz A ∧ dvb B (tmr B f A) = false ∧ tz (tmr B f A) ≠ 0
  | 0, A, _, h0, h => absurd (by omega) h0
  | f + 1, A, n, h0, h => by
    rw [tmn, tmr]
    by_cases hd : dvb B A = true
    · rw [if_pos hd, if_pos hd]
      have hdv := (dvb_iff _ _).mp hd
      obtain ⟨qt, qn⟩ := quo_tz (A := A) (B := B) (by omega) h0 hdv
      obtain ⟨i1, i2, i3, i4⟩ := tm_facts hB f (quo A B) (quo_nf _ _) qn (by omega)
      refine ⟨?_, ?_, i3, i4⟩
      · refine As.trans ?_ (quo_mul (by omega) hdv).symm
        have h1 := as_mul (K := B) i1
        refine As.trans (.of_ps ?_) (h1.trans (.of_ps ?_))
        · rw [ps_pmul, ps_pmul, ps_pmul, ps_ppow, ps_ppow, PS.pw_add, PS.pw_one]
          ac_rfl
        · rw [ps_pmul, ps_pmul, PS.mul_comm]
      · rw [Nat.succ_mul]; omega
    · have hd' : dvb B A = false := by simpa using hd
      rw [if_neg hd, if_neg hd]
      refine ⟨.of_ps ?_, by omega, hd', h0⟩
      rw [ps_pmul, ps_ppow]
      show ps A * 1 = _
      rw [PS.mul_one]
theorem wof_facts {B : List Int} (hB : tz B ≠ 0) : ∀ (f : Nat) (A : List Int), Nf A → tz A ≠ 0 → tz A + 1 ≤ f → tz (gcdp (wof B f A) B) = 1 ∧ tz (wof B f A) ≤ tz A ∧ (tz (gcdp A B) ≠ 1 → tz (wof B f A) < tz A) ∧ (tz (gcdp A B) = 1 → wof B f A = A) ∧ tz (wof B f A) ≠ 0
  | 0, A, _, h0, h => absurd h (by omega)
  | f + 1, A, n, h0, h => by
    rw [wof]
    by_cases hd : tz (gcdp A B) = 1
    · rw [if_pos hd]
      exact ⟨hd, Nat.le_refl _, fun e => absurd hd e, fun _ => rfl, h0⟩
    · rw [if_neg hd]
      have gg := gcdp_gg A B
      have hg := (dv_tz gg.a h0).1
      obtain ⟨qt, qn⟩ := quo_tz (A := A) (B := gcdp A B) hg h0 gg.a
      obtain ⟨i1, i2, i3, i4, i5⟩ := wof_facts hB f (quo A (gcdp A B)) (quo_nf _ _) qn (by omega)
      exact ⟨i1, by omega, fun _ => by omega, fun e => absurd e hd, i5⟩
theorem exact_prod {P R Q : List Int} (hR : tz R ≠ 0) (e : ps P = ps Q * ps R) : exe P R = 0 ∧ ps (exv P R) = ps Q := by
  have hd : Dv R P := .mul e
  have h0 := (dv_dr hR).mp hd
  have e2 := dres_div P R
  rw [ps_zero_of h0, PS.add_zero, e] at e2
  have hq : ps (dq P R) = PS.C (lc R ^ dxp P R) * ps Q := by
    have : ps (dq P R) * ps R = ps (pscale (lc R ^ dxp P R) Q) * ps R := by rw [e2, ps_pscale, PS.mul_assoc]
    rw [ps_cancel this hR, ps_pscale]
  have hk : ∀ k, cf (dq P R) k = lc R ^ dxp P R * cf Q k := fun k => by
    have := congrArg (fun f => PS.c f k) hq
    simp only [PS.C_mul_c, ps_c] at this
    exact this
  have hg : (lc R ^ dxp P R) ∣ (gz (dq P R) : Int) := dvd_gz.mpr fun k => by rw [hk]; exact Int.dvd_mul_right _ _
  have hx : exok P R = true := by
    unfold exok
    rw [(dvb_iff _ _).mpr hd, decide_eq_true hg]; rfl
  refine ⟨by rw [exe, if_neg hR, if_pos hx], ?_⟩
  rw [exv, if_neg hR, if_pos hx]
  refine PS.ext fun k => ?_
  rw [ps_c, ps_c, cf_pdivs, hk, Int.mul_ediv_cancel_left _ (lcp_ne hR _)]
end Go.Proofs.YtlmkieimciodoaaGreat

namespace Go.Proofs.YtlmkieimciodoaaGreat
open Go Go.Proofs Go.AL
set_option linter.unusedVariables false
def RawPs (p : List (List RI)) : Prop := p.length ≤ 9223372036854775807 ∧ ∀ c ∈ p, Raw c
theorem ok14 {P R K : List RI} {L : List (List RI)} {F G : List RQ} (h1 : Raw P) (h2 : Raw R) (h3 : Raw K) (h4 : RawPs L) (h5 : RawQ F) (h6 : RawQ G) : Ok14 ⟨P, R, K, L, F, G⟩ := ⟨h1, h2, h3, h4, h5, h6⟩
end Go.Proofs.YtlmkieimciodoaaGreat

namespace Go.Proofs.YtlmkieimciodoaaGreat
open Go Go.Proofs Go.AL
set_option linter.unusedSimpArgs false
set_option linter.unusedVariables false
theorem rp_small9 {A : List Int} (t : tz A ≤ 9) (s : SBd 92 A) : RP (2 ^ 30) (2 ^ 30) (cn A) := (rp_sb t s).mono (by omega) (by omega)
theorem sb_pmul {A B : List Int} {a b n m : Nat} (hA : SBd a A) (hB : SBd b B) (tA : tz A ≤ n) (tB : tz B ≤ m) (hn : n < W) : SBd (a + b + 1) (pmul A B) ∧ tz (pmul A B) ≤ n + m := by
  refine ⟨fun i => ?_, ?_⟩
  · have h := (PB.pmul (rp_sb tA hA).pv (rp_sb tB hB).pv hn).cf i
    rwa [pmul_congr (p' := A) (q' := B) (cf_cn _) (cf_cn _)] at h
  · by_cases h : tz A = 0 ∨ tz B = 0
    · rw [tz_pmul_zero h]; omega
    · rw [tz_pmul (by omega) (by omega)]; omega
theorem ttimes_n {p q : List RI} {A B : List Int} {a b n m : Nat} (hA : SBd a A) (hB : SBd b B) (tA : tz A ≤ n) (tB : tz B ≤ m) (hn : n ≤ 1000) (hm : m ≤ 1000) (ha : a ≤ 10000) (hb : b ≤ 10000) (hp : RP (2 ^ 30) (2 ^ 30) p) (hq : RP (2 ^ 30) (2 ^ 30) q) (ea : ps (pv p) = ps A) (eb : ps (pv q) = ps B) :
    AC Tryz.prog 32 [cw p, cw q] none [cp (pmul A B)] ∧ SBd (a + b + 1) (pmul A B) ∧ tz (pmul A B) ≤ n + m ∧ RP (n + m) (a + b + 1) (cn (pmul A B)) := by
  obtain ⟨s, t⟩ := sb_pmul hA hB tA tB (by simp only [W]; omega)
  exact ⟨ttimes_g (hp.mono (Nat.le_refl _) (by omega)) (hq.mono (Nat.le_refl _) (by omega)) ea eb, s, t, rp_sb t s⟩
end Go.Proofs.YtlmkieimciodoaaGreat
