/-
  Contracts of the functions that the law reaches.
-/
import Derived.Test.YtenlbifnhdmnnaaGreatL59M
import Derived.Test.YtenlbifnhdmnnaaGreatAbsT
import Derived.Test.YtenlbifnhdmnnaaGreatL39M
import Derived.Test.YtenlbifnhdmnnaaGreatL54M
import Derived.Test.YtenlbifnhdmnnaaGreatL36M
set_option maxHeartbeats 2000000
namespace Go.Proofs.YtenlbifnhdmnnaaGreat
open Go Go.Proofs Go.AL
set_option linter.unusedSimpArgs false
set_option linter.unusedVariables false
end Go.Proofs.YtenlbifnhdmnnaaGreat

namespace Go.Proofs.YtenlbifnhdmnnaaGreat
open Go Go.Proofs Go.AL
set_option linter.unusedSimpArgs false
set_option linter.unusedVariables false
theorem pq_subq (X Y : List Rat) : pq (subq X Y) = pq X - pq Y := PQ.ext fun k => cfq_subq X Y k
end Go.Proofs.YtenlbifnhdmnnaaGreat

namespace Go.Proofs.YtenlbifnhdmnnaaGreat
open Go Go.Proofs Go.AL
set_option linter.unusedSimpArgs false
set_option linter.unusedVariables false
theorem qp_len (P : List Int) : (qp P).length = P.length := by simp [qp]
theorem tzq_qp (P : List Int) : tzq (qp P) = tz P := by
  rcases Nat.eq_zero_or_pos (tz P) with h | h
  · rw [h]
    exact tzq_zero_iff.mpr fun k => by rw [cfq_qp, tz_zero_iff.mp h k]; rfl
  · have := tzq_spec (q := qp P) (n := tz P - 1) (by
      rw [cfq_qp]
      exact fun e => cf_tz_pred (q := P) (by omega) (Rat.intCast_eq_zero_iff.mp e)) fun k hk => by rw [cfq_qp, cf_ge_tz P (by omega)]; rfl
    omega
theorem qp_trim (P : List Int) : trimq (qp P) = qp (trimz P) := by rw [trimq, tzq_qp, trimz, qp, qp, List.map_take]
def fma (c : Rat) (a b : Rat) : Rat := a + c * b
theorem fma_zero (c : Rat) : fma c 0 0 = 0 := by unfold fma; grind
end Go.Proofs.YtenlbifnhdmnnaaGreat

namespace Go.Proofs.YtenlbifnhdmnnaaGreat
open Go Go.Proofs Go.AL
set_option linter.unusedSimpArgs false
set_option linter.unusedVariables false
end Go.Proofs.YtenlbifnhdmnnaaGreat

namespace Go.Proofs.YtenlbifnhdmnnaaGreat
open Go Go.Proofs Go.AL
set_option linter.unusedSimpArgs false
set_option linter.unusedVariables false
def upq (c : Rat) (n : Nat) : List Rat := List.replicate n 0 ++ [c]
theorem upq_len (c : Rat) (n : Nat) : (upq c n).length = n + 1 := by simp [upq]
theorem upq_succ (c : Rat) (n : Nat) : upq c (n + 1) = 0 :: upq c n := rfl
theorem cfq_upq (c : Rat) : ∀ n k, cfq (upq c n) k = if k = n then c else 0
  | 0, 0 => rfl
  | 0, k + 1 => by rw [if_neg (by omega)]; exact cfq_ge (by rw [upq_len]; omega)
  | n + 1, 0 => by rw [if_neg (by omega)]; rfl
  | n + 1, k + 1 => by
    rw [upq_succ, cfq_cons_succ, cfq_upq c n k]
    by_cases h : k = n
    · rw [if_pos h, if_pos (by omega)]
    · rw [if_neg h, if_neg (by omega)]
theorem cvq_upq (c : Rat) (g : Nat → Rat) : ∀ n k, cvq (upq c n) g k = if n ≤ k then c * g (k - n) else 0
  | 0, k => by
    rw [if_pos (Nat.zero_le _), show upq c 0 = [c] from rfl, cvq_cons]
    cases k with
    | zero => simp only [qshift, Nat.sub_zero]; grind
    | succ k => simp only [qshift, Nat.sub_zero, cvq]; grind
  | n + 1, 0 => by
    rw [if_neg (by omega), upq_succ, cvq_cons]
    simp only [qshift]; grind
  | n + 1, k + 1 => by
    rw [upq_succ, cvq_cons, qshift, cvq_upq c g n k]
    by_cases h : n ≤ k
    · rw [if_pos h, if_pos (by omega), Nat.add_sub_add_right]; grind
    · rw [if_neg h, if_neg (by omega)]; grind
theorem cfq_mul_upq (c : Rat) (n : Nat) (B : List Rat) (k : Nat) : cfq (mulq (upq c n) B) k = if n ≤ k then c * cfq B (k - n) else 0 := by
  rw [cfq_mulq, cvq_upq]
def dc (A B : List Rat) : Rat := cfq A (A.length - 1) / cfq B (B.length - 1)
def dn1 (A B : List Rat) : List Rat := trimq (zipq (fma (-1)) A (mulq (upq (dc A B) (A.length - B.length)) B))
theorem cfq_dn1 (A B : List Rat) (k : Nat) : cfq (dn1 A B) k = cfq A k - if A.length - B.length ≤ k then dc A B * cfq B (k - (A.length - B.length)) else 0 := by
  rw [dn1, cfq_trimq, cfq_zipq (fma_zero _), cfq_mul_upq]
  unfold fma
  grind
theorem tzq_low {q : List Rat} {n : Nat} (h : ∀ k, n ≤ k → cfq q k = 0) : tzq q ≤ n := by
  rcases Nat.lt_or_ge n (tzq q) with h1 | h1
  · exact absurd (h (tzq q - 1) (by omega)) (cfq_tzq_pred (by omega))
  · exact h1
theorem dn1_len {A B : List Rat} (h0 : B.length ≠ 0) (hb : cfq B (B.length - 1) ≠ 0) (hl : B.length ≤ A.length) : (dn1 A B).length < A.length := by
  have : (dn1 A B).length = tzq (dn1 A B) := by
    have := trimq_len (dn1 A B)
    rwa [show trimq (dn1 A B) = dn1 A B from trimq_trimq _] at this
  have h1 := tzq_low (q := dn1 A B) (n := A.length - 1) fun k hk => by
    rw [cfq_dn1, if_pos (by omega)]
    by_cases hk2 : k = A.length - 1
    · rw [hk2, show A.length - 1 - (A.length - B.length) = B.length - 1 by omega]
      have := Rat.div_mul_cancel (a := cfq A (A.length - 1)) hb
      unfold dc
      grind
    · rw [cfq_ge (q := A) (by omega), cfq_ge (q := B) (by omega)]; grind
  omega
def dit (A B : List Rat) : Nat → List Rat
  | 0 => A
  | k + 1 => dn1 (dit A B k) B
def dqu (A B : List Rat) : Nat → List Rat
  | 0 => []
  | k + 1 => zipq (fma 1) (dqu A B k) (upq (dc (dit A B k) B) ((dit A B k).length - B.length))
theorem dit_trim {A B : List Rat} (h : trimq A = A) : ∀ k, trimq (dit A B k) = dit A B k
  | 0 => h
  | k + 1 => trimq_trimq _
theorem dit_len {A B : List Rat} (h0 : B.length ≠ 0) (hb : cfq B (B.length - 1) ≠ 0) : ∀ k, (∀ j, j < k → B.length ≤ (dit A B j).length) → (dit A B k).length + k ≤ A.length
  | 0, _ => Nat.le_refl _
  | k + 1, h => by
    have h1 := dit_len h0 hb k fun j hj => h j (by omega)
    have h2 := dn1_len h0 hb (h k (by omega))
    rw [dit]; omega
theorem dit_end (A : List Rat) {B : List Rat} (h0 : B.length ≠ 0) (hb : cfq B (B.length - 1) ≠ 0) : ∃ n, (dit A B n).length < B.length ∧ (∀ j, j < n → B.length ≤ (dit A B j).length) ∧ n ≤ A.length := by
  have e : ∃ n, (dit A B n).length < B.length := by
    by_cases hn : ∃ n, (dit A B n).length < B.length
    · exact hn
    · have := dit_len (A := A) h0 hb (A.length + 1) fun j _ => Nat.le_of_not_lt fun hj => hn ⟨j, hj⟩
      omega
  obtain ⟨n, hn, hj⟩ := first_of e
  have hj' : ∀ j, j < n → B.length ≤ (dit A B j).length := fun j hjn => Nat.le_of_not_lt (hj j hjn)
  have := dit_len h0 hb n hj'
  exact ⟨n, hn, hj', by omega⟩
theorem cfq_dqu_succ (A B : List Rat) (k j : Nat) : cfq (dqu A B (k + 1)) j = cfq (dqu A B k) j + if j = (dit A B k).length - B.length then dc (dit A B k) B else 0 := by
  rw [dqu, cfq_zipq (fma_zero _), cfq_upq]
  unfold fma
  grind
theorem dqu_low {A B : List Rat} (h0 : B.length ≠ 0) (hb : cfq B (B.length - 1) ≠ 0) : ∀ k, (∀ j, j < k → B.length ≤ (dit A B j).length) → ∀ j, j + B.length ≤ (dit A B k).length → cfq (dqu A B k) j = 0
  | 0, _, j, _ => cfq_nil j
  | k + 1, h, j, hj => by
    have h2 := dn1_len h0 hb (h k (by omega))
    rw [dit] at hj
    rw [cfq_dqu_succ, if_neg (by omega), dqu_low h0 hb k (fun i hi => h i (by omega)) j (by omega)]
    grind
theorem dqu_len {A B : List Rat} (h0 : B.length ≠ 0) (hb : cfq B (B.length - 1) ≠ 0) : ∀ k, (∀ j, j < k → B.length ≤ (dit A B j).length) → (dqu A B k).length ≤ A.length + 1 - B.length
  | 0, _ => Nat.zero_le _
  | k + 1, h => by
    have h1 := dqu_len h0 hb k fun j hj => h j (by omega)
    have h2 := dit_len h0 hb k fun j hj => h j (by omega)
    have h3 := h k (by omega)
    rw [dqu, zipq_len, upq_len]
    omega
theorem natAbs_cast (m : Int) : (m.natAbs : Rat) = if m < 0 then -(m : Rat) else (m : Rat) := by
  split
  · rw [← Rat.intCast_natCast, ← Rat.intCast_neg]; congr 1; omega
  · rw [← Rat.intCast_natCast]; congr 1; omega
theorem CD.divstep {D M N e : Nat} {x t b y : Rat} {m w : Int} (hD : D ≠ 0) (hm : m ≠ 0) (he : e ≠ 0) (hx : CD D M x) (ht : CD D M t) (hb : b * (e : Rat) = (m : Rat)) (hy : y * (e : Rat) = (w : Rat)) (zm : zl m ≤ N) (zw : zl w ≤ N) : CD (D * m.natAbs) (M + N + 1) (x - t / b * y) := by
  obtain ⟨z, e1, hz⟩ := hx
  obtain ⟨u, e2, hu⟩ := ht
  have h1 := natr_ne hD
  have h2 : (m : Rat) ≠ 0 := fun h => hm (Rat.intCast_eq_zero_iff.mp h)
  have h3 := natr_ne he
  have hb0 : b ≠ 0 := fun h => h2 (by rw [← hb, h, Rat.zero_mul])
  have z1 := zl_mul z m
  have z2 := zl_mul u w
  have e3 : x - t / b * y = ((z : Rat) * (m : Rat) - (u : Rat) * (w : Rat)) / ((D : Rat) * (m : Rat)) := by
    rw [e1, e2, ← hb, ← hy]
    grind
  by_cases hs : m < 0
  · refine ⟨u * w - z * m, ?_, ?_⟩
    · rw [e3, Rat.natCast_mul, natAbs_cast, if_pos hs, Rat.intCast_sub, Rat.intCast_mul, Rat.intCast_mul]
      grind
    · have := zl_add (u * w) (-(z * m))
      rw [zl_neg, ← Int.sub_eq_add_neg] at this
      omega
  · refine ⟨z * m - u * w, ?_, ?_⟩
    · rw [e3, Rat.natCast_mul, natAbs_cast, if_neg hs, Rat.intCast_sub, Rat.intCast_mul, Rat.intCast_mul]
    · have := zl_add (z * m) (-(u * w))
      rw [zl_neg, ← Int.sub_eq_add_neg] at this
      omega
theorem CD.cf {D n M : Nat} {q : List Rat} (h : CB D n M q) (k : Nat) : CD D M (cfq q k) := by
  by_cases hk : k < q.length
  · rw [cfq_lt hk]; exact h.c _ (List.getElem_mem hk)
  · rw [cfq_ge (by omega)]; exact CD.zero _ _
theorem dn1_cb {D n M N : Nat} {A B : List Rat} (hA : CB D n M A) (hB : PB n N (clr B)) (h0 : B.length ≠ 0) (hb : cfq B (B.length - 1) ≠ 0) (hl : B.length ≤ A.length) : ∃ E, CB E n (M + N + 1) (dn1 A B) := by
  have hm : cf (clr B) (B.length - 1) ≠ 0 := fun e => hb (clr_zero.mp e)
  have hcb : ∀ k, cfq B k * (cden B : Rat) = (cf (clr B) k : Rat) := fun k => (cf_clr B k).symm
  have hl2 := dn1_len h0 hb hl
  refine ⟨D * (cf (clr B) (B.length - 1)).natAbs, Nat.mul_ne_zero hA.d (by omega), ?_, by have := hA.l; omega, fun c hc => ?_⟩
  · have h1 := AL.wd_mul_len D (cf (clr B) (B.length - 1)).natAbs
    have h2 := hA.w
    have h3 := hB.cf (B.length - 1)
    unfold zl at h3
    omega
  · obtain ⟨i, hi, rfl⟩ := List.getElem_of_mem hc
    rw [← cfq_lt hi, cfq_dn1]
    split
    · exact CD.divstep hA.d hm (cden_ne B) (CD.cf hA _) (CD.cf hA _) (hcb _) (hcb _) (hB.cf _) (hB.cf _)
    · have := (CD.cf hA i).up hA.d (E := (cf (clr B) (B.length - 1)).natAbs) (V := N) (by omega) (hB.cf _)
      rw [show cfq A i - 0 = cfq A i by grind]
      exact this.mono (by omega)
theorem dit_cb {D n M N : Nat} {A B : List Rat} (hA : CB D n M A) (hB : PB n N (clr B)) (h0 : B.length ≠ 0) (hb : cfq B (B.length - 1) ≠ 0) : ∀ k, (∀ j, j < k → B.length ≤ (dit A B j).length) → ∃ E, CB E n (M + k * (N + 1)) (dit A B k)
  | 0, _ => ⟨D, by rw [Nat.zero_mul]; exact hA⟩
  | k + 1, h => by
    obtain ⟨E, hE⟩ := dit_cb hA hB h0 hb k fun j hj => h j (by omega)
    obtain ⟨F, hF'⟩ := dn1_cb hE hB h0 hb (h k (by omega))
    exact ⟨F, hF'.mono (Nat.le_refl _) (by rw [Nat.succ_mul]; omega)⟩
theorem qz_inv (q : Rat) : qz (1 / q) ≤ qz q := by
  by_cases h : q.num = 0
  · have : q = 0 := Rat.num_eq_zero.mp h
    rw [this, show (1 : Rat) / 0 = 0 by decide +kernel]
    exact Nat.le_refl _
  · have h1 : (q.num : Rat) ≠ 0 := fun e => h (Rat.intCast_eq_zero_iff.mp e)
    have h2 := natr_ne q.den_nz
    have e : (1 : Rat) / q = ((q.den : Int) : Rat) / (q.num : Rat) := by
      have h3 : q = (q.num : Rat) / (q.den : Rat) := by rw [← Rat.mkRat_eq_div]; exact (Rat.mkRat_self q).symm
      rw [Rat.intCast_natCast]
      conv => lhs; rw [h3]
      grind
    have hp := qz_parts q
    rw [e, ← mk_div h]
    refine qz_mk (by omega) ?_ ?_
    · split
      · rw [zl_neg, zl_nat]; exact hp.2
      · rw [zl_nat]; exact hp.2
    · exact hp.1
theorem qz_div (p q : Rat) : qz (p / q) ≤ qz p + qz q := by
  have h1 := qz_mul p (1 / q)
  have h2 := qz_inv q
  rw [show p * (1 / q) = p / q by rw [Rat.div_def, Rat.div_def, Rat.one_mul]] at h1
  omega
end Go.Proofs.YtenlbifnhdmnnaaGreat

namespace Go.Proofs.YtenlbifnhdmnnaaGreat
open Go Go.Proofs Go.AL
set_option linter.unusedSimpArgs false
set_option linter.unusedVariables false
theorem CD.den_dvd {D M : Nat} {q : Rat} (hD : D ≠ 0) (h : CD D M q) : q.den ∣ D := by
  obtain ⟨z, e, hz⟩ := h
  have h1 := natr_ne hD
  have h2 := natr_ne q.den_nz
  have h3 : (q.num : Rat) / (q.den : Rat) = (z : Rat) / (D : Rat) := by
    rw [← e, ← Rat.mkRat_eq_div]; exact Rat.mkRat_self q
  have h4 : (q.num : Rat) * (D : Rat) = (z : Rat) * (q.den : Rat) := by grind
  have h5 : q.num * (D : Int) = z * (q.den : Int) := by
    rw [← Rat.intCast_natCast, ← Rat.intCast_natCast, ← Rat.intCast_mul, ← Rat.intCast_mul] at h4
    exact Rat.intCast_inj.mp h4
  have h6 : q.den ∣ q.num.natAbs * D := ⟨z.natAbs, by
    have := congrArg Int.natAbs h5
    rw [Int.natAbs_mul, Int.natAbs_mul, Int.natAbs_natCast, Int.natAbs_natCast] at this
    rw [this, Nat.mul_comm]⟩
  exact (q.reduced.symm).dvd_of_dvd_mul_left h6
theorem qsum_cd {D M n : Nat} {f : Nat → Rat} (h : ∀ i, i < n → CD D M (f i)) : CD D (M + n) (qsum n f) := by
  induction n with
  | zero => exact CD.zero _ _
  | succ n ih =>
    have h1 := ih fun i hi => h i (by omega)
    have h2 := h n (by omega)
    exact (h1.add h2).mono (by omega)
theorem lcmL_dvd {D : Nat} : ∀ (l : List Nat) (i : Nat), (∀ x ∈ l, x ∣ D) → lcmL (l.take i) ∣ D
  | l, 0, _ => by rw [List.take_zero]; exact Nat.one_dvd _
  | l, i + 1, h => by
    by_cases hi : i < l.length
    · rw [lcmL_take hi]
      refine Nat.lcm_dvd (lcmL_dvd l i h) (h _ ?_)
      rw [List.getD, List.getElem?_eq_getElem hi, Option.getD_some]
      exact List.getElem_mem hi
    · rw [List.take_of_length_le (by omega), ← List.take_of_length_le (l := l) (i := i) (by omega)]
      exact lcmL_dvd l i h
theorem CB.dens_dvd {D n M : Nat} {A : List Rat} (h : CB D n M A) : ∀ x ∈ dens A, x ∣ D := fun x hx => by
  obtain ⟨c, hc, rfl⟩ := List.mem_map.1 hx
  exact (h.c c hc).den_dvd h.d
theorem CB.lcm_len {D n M : Nat} {A : List Rat} (h : CB D n M A) (i : Nat) : (wd (lcmL ((dens A).take i))).length ≤ M :=
  Nat.le_trans (wd_len_mono (Nat.le_of_dvd (Nat.pos_of_ne_zero h.d) (lcmL_dvd _ i h.dens_dvd))) h.w
theorem CB.cden_dvd {D n M : Nat} {A : List Rat} (h : CB D n M A) : cden A ∣ D := by
  have := lcmL_dvd (dens A) (dens A).length h.dens_dvd
  rwa [List.take_length] at this
theorem CB.cden_len {D n M : Nat} {A : List Rat} (h : CB D n M A) : (wd (cden A)).length ≤ M :=
  Nat.le_trans (wd_len_mono (Nat.le_of_dvd (Nat.pos_of_ne_zero h.d) h.cden_dvd)) h.w
theorem CB.clr_pb {D n M : Nat} {A : List Rat} (h : CB D n M A) : PB n M (clr A) := .of (by rw [clr_len]; exact h.l) fun k => by
  obtain ⟨z, e, hz⟩ := CD.cf h k
  obtain ⟨t, ht⟩ := h.cden_dvd
  have ht0 : t ≠ 0 := fun e => h.d (by rw [ht, e, Nat.mul_zero])
  have h1 := natr_ne (cden_ne A)
  have h2 := natr_ne ht0
  have h3 := cf_clr A k
  rw [e, ht, Rat.natCast_mul] at h3
  have h4 : (cf (clr A) k : Rat) * (t : Rat) = (z : Rat) := by rw [h3]; grind
  have h5 : cf (clr A) k * (t : Int) = z := by
    rw [← Rat.intCast_natCast, ← Rat.intCast_mul] at h4
    exact Rat.intCast_inj.mp h4
  refine Nat.le_trans (wd_len_mono ?_) hz
  rw [← h5, Int.natAbs_mul, Int.natAbs_natCast]
  exact Nat.le_mul_of_pos_right _ (Nat.pos_of_ne_zero ht0)
theorem CB.mulq {D E n m M N : Nat} {A B : List Rat} (hA : CB D n M A) (hB : CB E m N B) : CB (D * E) (n + m) (M + N + (n + m)) (mulq A B) where
  d := Nat.mul_ne_zero hA.d hB.d
  w := by
    have h1 := AL.wd_mul_len D E
    have h2 := hA.w
    have h3 := hB.w
    omega
  l := by
    simp only [mulq_def, List.length_map, List.length_range]
    have := hA.l
    have := hB.l
    omega
  c := fun c hc => by
    obtain ⟨k, hk, rfl⟩ := List.getElem_of_mem hc
    have hl : k < n + m := by
      simp only [mulq_def, List.length_map, List.length_range] at hk
      have := hA.l
      have := hB.l
      omega
    rw [← cfq_lt hk, cfq_mulq, PQ.cvq_conv]
    exact (qsum_cd (n := k + 1) (f := fun i => cfq A i * cfq B (k - i)) fun i _ => CD.mul hA.d hB.d (CD.cf hA _) (CD.cf hB _)).mono (by omega)
end Go.Proofs.YtenlbifnhdmnnaaGreat

namespace Go.Proofs.YtenlbifnhdmnnaaGreat
open Go Go.Proofs Go.AL
set_option linter.unusedSimpArgs false
set_option linter.unusedVariables false
theorem rats_length (l : List RQ) : (rats l).length = l.length := by simp [rats]
theorem qtrim_t (X : List Rat) (h : QB (2 ^ 40) (2 ^ 38) X) : ACT Tryz.prog 70 [.any] 0 46 3 (rats (X.map crat)) (rats (cqs X)) := by
  have fin : ∀ k, k = tzq X → rats (cqs X) = rats ((X.map crat).take k) := fun k e => by rw [← List.map_take, e]; rfl
  have htl := tzq_le X
  have hl := h.1
  have hq : (X.map crat).length = X.length := List.length_map _
  refine ACT.by_walk (rs := [.tmp 2]) ords Tryz.func70 (by rfl) (by rfl) (by rfl) (by rfl) (by rfl) ?_
  simp (disch := omega) only [wk, tis, seval, reduceCtorEq, Nat.reduceEqDiff, rqs]
  refine aloop_by (fun f H => ∃ k : Nat, k ≤ X.length ∧ f 0 = .hs 0 1 ∧ f 3 = .iv (.int .i64 k) ∧ H 0 = .blk false 1 46 3 (rats (X.map crat)) ∧ tzq (X.take k) = tzq X) (fun f H => (intAt f 3).toNat) ?_ ?_
  · exact ⟨X.length, Nat.le_refl _, by simp (disch := omega) only [wk, tis, seval, reduceCtorEq, Nat.reduceEqDiff, rqs], by simp (disch := omega) only [wk, tis, seval, reduceCtorEq, Nat.reduceEqDiff, rqs, hq], by simp (disch := omega) only [wk, tis, seval, reduceCtorEq, Nat.reduceEqDiff, rqs], by rw [List.take_length]⟩
  rintro f H ⟨k, hk, h0, h3, hh, ht⟩
  rw [intAt_of h3]
  by_cases hc : 0 < (k : Int)
  · have ek : ((k : Int) - 1).toNat = k - 1 := by omega
    have ek' : k = (k - 1) + 1 := by omega
    have e := cratq_get (q := X) (i := k - 1) (by omega)
    have z := qpzero_ok (crat (cfq X (k - 1))) (szq_crat (h.cz (by omega) _)) (nv_crat0 _)
    rw [qv_crat] at z
    simp (disch := omega) only [wk, tis, seval, reduceCtorEq, Nat.reduceEqDiff, rqs, h0, h3, hh, hc, ek, hq, e]
    refine call_by (z) (by first | rfl | (simp only [tocvs, tocv, h0, h3, hh, hc]; rfl) | (simp only [tocvs, tocv, toboxes, tobox, updH_at, Nat.reduceEqDiff, ↓reduceIte, h0, h3, hh, hc]; rfl)) (by simp) ?_
    simp (disch := omega) only [wk, tis, seval, reduceCtorEq, Nat.reduceEqDiff, rqs, h0, h3, hh, hc]
    by_cases hz : cfq X (k - 1) = 0
    · simp (disch := omega) only [wk, tis, seval, reduceCtorEq, Nat.reduceEqDiff, rqs, h0, h3, hh, hz]
      refine ⟨⟨k - 1, by omega, by omega, ?_⟩, by omega⟩
      rw [← tzq_take_zero (k := k - 1) (by omega) hz, ← ek', ht]
    · simp (disch := omega) only [wk, tis, seval, reduceCtorEq, Nat.reduceEqDiff, rqs, h0, h3, hh, hz]
      have hk : k = tzq X := by
        have := tzq_full (q := X) (k := k - 1) (by omega) hz
        rw [← ek', ht] at this; exact this.symm
      refine ⟨by omega, fin k hk⟩
  · have hk : k = tzq X := by
      obtain rfl : k = 0 := by omega
      rw [← ht]; rfl
    simp (disch := omega) only [wk, tis, seval, reduceCtorEq, Nat.reduceEqDiff, rqs, h0, h3, hh, hc]
    refine ⟨by omega, fin k hk⟩
theorem qpnorm_own (p : List RQ) (h : GQ (2 ^ 40) (2 ^ 38) p) : AC Tryz.prog 31 [cqw p] (some (0, 46, 3, rats (cqs (qvs p)))) [cqp (qvs p), ci 0] := by
  have t := qtrim_t (qvs p) h.qb
  refine AC.by_walk (rs := [.tmp 2, .tmp 3]) ords Tryz.func31 (by rfl) (by rfl) (by rfl) (by rfl) (by rfl) ?_
  have hl := h.1
  simp (disch := omega) only [wk, tis, seval, reduceCtorEq, Nat.reduceEqDiff, rqs]
  refine aloop_nil 4 4 46 3 (by simp (disch := omega) only [wk, tis, seval, reduceCtorEq, Nat.reduceEqDiff, rqs]) (fun f H => ∃ (i st : Nat), i ≤ p.length ∧ f 11 = .iv (.int .i64 i) ∧ f 9 = .iv (.sl (rats p)) ∧ f 10 = .iv (.int .i64 p.length) ∧ f 4 = .hs 4 st ∧ H 4 = .blk false st 46 3 (rats (((qvs p).take i).map crat))) (fun f H => (p.length - intAt f 11).toNat) ?_ ?_
  · refine ⟨0, 1, by omega, ?_⟩
    simp (disch := omega) only [wk, tis, seval, reduceCtorEq, Nat.reduceEqDiff, rqs, ghostF, ghostH, List.take_zero, List.map_nil]
  rintro f H ⟨i, st, hi, hF⟩
  rw [intAt_of hF.1]
  simp (disch := omega) only [wk, tis, seval, reduceCtorEq, Nat.reduceEqDiff, rqs, hF]
  refine if_by (fun hlt => ?_) (fun hlt => ?_)
  · have hlt' : i < p.length := by omega
    have hq : (((qvs p).take i).map crat).length = i := by rw [List.length_map, List.length_take, qvs_len]; omega
    have m := qnorm_ok (p.getD i q0) (h.get hlt') (h.den hlt')
    rw [← cfq_qvs] at m
    simp (disch := omega) only [wk, tis, seval, reduceCtorEq, Nat.reduceEqDiff, rqs, hF, hq]
    refine call_by (m) (by first | rfl | (simp only [tocvs, tocv, hF, hq]; rfl) | (simp only [tocvs, tocv, toboxes, tobox, updH_at, Nat.reduceEqDiff, ↓reduceIte, hF, hq]; rfl)) (by simp) ?_
    simp (disch := omega) only [wk, tis, seval, reduceCtorEq, Nat.reduceEqDiff, rqs, hF, hq]
    have e := takeq_snoc (q := qvs p) (i := i) (by rw [qvs_len]; omega)
    refine ⟨⟨i + 1, st + 1, by omega, ?_⟩, by omega⟩
    rw [e, List.map_append]
    (repeat' apply And.intro) <;> first | rfl | omega
  · simp (disch := omega) only [wk, tis, seval, reduceCtorEq, Nat.reduceEqDiff, rqs, hF]
    rw [List.take_of_length_le (by rw [qvs_len]; omega)] at hF
    refine callt_by (t) (by first | rfl | (simp (disch := omega) only [wk, tis, seval, reduceCtorEq, Nat.reduceEqDiff, rqs, hF]; done)) (by first | rfl | (simp (disch := omega) only [wk, tis, seval, reduceCtorEq, Nat.reduceEqDiff, rqs, hF]; done)) (by first | rfl | (simp only [tocvs, tocv, List.set_cons_zero, List.set_cons_succ, hF]; rfl)) (by simp) (by simp) ?_
    simp (disch := omega) only [wk, tis, seval, reduceCtorEq, Nat.reduceEqDiff, rqs, hF]
theorem qboth_own (p q : List RQ) (hp : GQ (2 ^ 40) (2 ^ 38) p) (hq : GQ (2 ^ 40) (2 ^ 38) q) : AC Tryz.prog 78 [cqw p, cqw q] (some (0, 46, 3, rats (cqs (qvs p)))) [cqp (qvs p), cqp (qvs q), ci 0] := by
  have m := qpnorm_own p hp
  have n := qpnorm_ok q hq
  refine AC.by_walk (rs := [.tmp 4, .tmp 5, .tmp 6]) ords Tryz.func78 (by rfl) (by rfl) (by rfl) (by rfl) (by rfl) ?_
  simp (disch := omega) only [wk, tis, seval, reduceCtorEq, Nat.reduceEqDiff, rqs]
  refine call_by (m) (by rfl) (by simp) ?_
  simp (disch := omega) only [wk, tis, seval, reduceCtorEq, Nat.reduceEqDiff, rqs]
  refine call_by (n) (by rfl) (by simp) ?_
  simp (disch := omega) only [wk, tis, seval, reduceCtorEq, Nat.reduceEqDiff, rqs]
  try rfl
end Go.Proofs.YtenlbifnhdmnnaaGreat

namespace Go.Proofs.YtenlbifnhdmnnaaGreat
open Go Go.Proofs Go.AL
set_option linter.unusedSimpArgs false
set_option linter.unusedVariables false
theorem set_crat {X Y : List Rat} {i : Nat} {c : Rat} (hl : X.length = Y.length) (hc : cfq Y i = c) (ho : ∀ j, j < Y.length → j ≠ i → cfq Y j = cfq X j) : (X.map crat).set i (crat c) = Y.map crat := by
  rw [← List.map_set]
  congr 1
  refine List.ext_getElem (by rw [List.length_set, hl]) fun j h1 h2 => ?_
  rw [List.getElem_set]
  split
  · rename_i e; subst e; rw [← hc, cfq_lt h2]
  · rename_i e
    have := ho j h2 (fun h => e h.symm)
    rw [cfq_lt h2, cfq_lt (by rw [List.length_set] at h1; exact h1)] at this
    exact this.symm
def padq (N : Nat) (Q : List Rat) : List Rat := (List.range N).map (cfq Q)
theorem padq_len (N : Nat) (Q : List Rat) : (padq N Q).length = N := by simp [padq]
theorem cfq_padq {N : Nat} {Q : List Rat} {k : Nat} (h : k < N) : cfq (padq N Q) k = cfq Q k := by
  simp only [padq, cfq, List.getD, List.getElem?_map, List.getElem?_range h, Option.map_some, Option.getD_some]
theorem padq_all {N : Nat} {Q : List Rat} (h : Q.length ≤ N) (k : Nat) : cfq (padq N Q) k = cfq Q k := by
  by_cases hk : k < N
  · exact cfq_padq hk
  · rw [cfq_ge (by rw [padq_len]; omega), cfq_ge (by omega)]
theorem padq_nil (N : Nat) : padq N [] = List.replicate N 0 := by
  refine List.ext_getElem (by rw [padq_len, List.length_replicate]) fun j h1 h2 => ?_
  rw [← cfq_lt h1, cfq_padq (by rwa [padq_len] at h1), cfq_nil, List.getElem_replicate]
def subp (A B : List Rat) (c : Rat) (s i : Nat) : List Rat := (List.range A.length).map fun k => if s ≤ k ∧ k < s + i then cfq A k - c * cfq B (k - s) else cfq A k
theorem subp_len (A B : List Rat) (c : Rat) (s i : Nat) : (subp A B c s i).length = A.length := by simp [subp]
theorem cfq_subp {A B : List Rat} {c : Rat} {s i : Nat} (h : s + i ≤ A.length) (k : Nat) : cfq (subp A B c s i) k = if s ≤ k ∧ k < s + i then cfq A k - c * cfq B (k - s) else cfq A k := by
  by_cases hk : k < A.length
  · simp only [subp, cfq, List.getD, List.getElem?_map, List.getElem?_range hk, Option.map_some, Option.getD_some]
  · rw [cfq_ge (by rw [subp_len]; omega), if_neg (by omega), cfq_ge (by omega)]
theorem subp_zero (A B : List Rat) (c : Rat) {s : Nat} (h : s ≤ A.length) : subp A B c s 0 = A := by
  refine List.ext_getElem (subp_len ..) fun j h1 h2 => ?_
  rw [← cfq_lt h1, cfq_subp (by omega), if_neg (by omega), cfq_lt h2]
theorem subp_set {A B : List Rat} {c : Rat} {s i : Nat} (h : s + (i + 1) ≤ A.length) : ((subp A B c s i).map crat).set (s + i) (crat (cfq A (s + i) - c * cfq B i)) = (subp A B c s (i + 1)).map crat := by
  refine set_crat (by rw [subp_len, subp_len]) ?_ fun j hj hne => ?_
  · rw [cfq_subp h, if_pos ⟨by omega, by omega⟩, Nat.add_sub_cancel_left]
  · rw [cfq_subp h, cfq_subp (by omega)]
    by_cases h1 : s ≤ j ∧ j < s + i
    · rw [if_pos h1, if_pos ⟨h1.1, by omega⟩]
    · rw [if_neg h1, if_neg (by omega)]
theorem subp_end {A B : List Rat} (h : B.length ≤ A.length) : cqs (subp A B (dc A B) (A.length - B.length) B.length) = (dn1 A B).map crat := by
  have e : trimq (subp A B (dc A B) (A.length - B.length) B.length) = dn1 A B := by
    have h1 := trimq_trimq (zipq (fma (-1)) A (mulq (upq (dc A B) (A.length - B.length)) B))
    rw [← show trimq (dn1 A B) = dn1 A B from h1]
    refine trimq_ext fun k => ?_
    rw [cfq_subp (by omega), cfq_dn1]
    by_cases h1 : A.length - B.length ≤ k
    · by_cases h2 : k < A.length - B.length + B.length
      · rw [if_pos ⟨h1, h2⟩, if_pos h1]
      · rw [if_neg (by omega), if_pos h1, cfq_ge (q := B) (by omega)]; grind
    · rw [if_neg (by omega), if_neg h1]; grind
  rw [cqs, e]
theorem dqu_set {A B : List Rat} {N k : Nat} (hs : (dit A B k).length - B.length < N) (h0 : cfq (dqu A B k) ((dit A B k).length - B.length) = 0) : ((padq N (dqu A B k)).map crat).set ((dit A B k).length - B.length) (crat (dc (dit A B k) B)) = (padq N (dqu A B (k + 1))).map crat := by
  refine set_crat (by rw [padq_len, padq_len]) ?_ fun j hj hne => ?_
  · rw [cfq_padq hs, cfq_dqu_succ, if_pos rfl, h0]; grind
  · rw [padq_len] at hj
    rw [cfq_padq hj, cfq_padq hj, cfq_dqu_succ, if_neg hne]; grind
structure DV (A B : List Rat) (n K : Nat) : Prop where
  la : A.length ≤ 2 ^ 28
  lb : B.length ≤ 2 ^ 28
  h0 : B.length ≠ 0
  hb : cfq B (B.length - 1) ≠ 0
  ta : trimq A = A
  tb : trimq B = B
  en : (dit A B n).length < B.length
  hj : ∀ j, j < n → B.length ≤ (dit A B j).length
  za : ∀ k, k ≤ n → ∀ i, qz (cfq (dit A B k) i) ≤ K
  zb : ∀ i, qz (cfq B i) ≤ K
  k1 : 1 ≤ K
  k2 : K ≤ 2 ^ 32
theorem dqu_size {A B : List Rat} {K n : Nat} (h0 : B.length ≠ 0) (hb : cfq B (B.length - 1) ≠ 0) (za : ∀ k, k ≤ n → ∀ i, qz (cfq (dit A B k) i) ≤ K) (zb : ∀ i, qz (cfq B i) ≤ K) (k1 : 1 ≤ K) : ∀ k, k ≤ n → (∀ j, j < k → B.length ≤ (dit A B j).length) → ∀ j, qz (cfq (dqu A B k) j) ≤ K + K
  | 0, _, _, j => by rw [dqu, cfq_nil, qz_zero]; omega
  | k + 1, hk, h, j => by
    have ih := dqu_size h0 hb za zb k1 k (by omega) (fun i hi => h i (by omega)) j
    rw [cfq_dqu_succ]
    by_cases hj : j = (dit A B k).length - B.length
    · have hl := h k (by omega)
      rw [if_pos hj, dqu_low h0 hb k (fun i hi => h i (by omega)) j (by omega), Rat.zero_add]
      have h1 := qz_div (cfq (dit A B k) ((dit A B k).length - 1)) (cfq B (B.length - 1))
      have h2 := za k (by omega) ((dit A B k).length - 1)
      have h3 := zb (B.length - 1)
      unfold dc
      omega
    · rw [if_neg hj, Rat.add_zero]
      exact ih
def hrows : HC → Nat
  | .blk _ _ _ _ rows => rows.length
  | .none => 0
theorem hrows_blk (fz : Bool) (st e sz : Nat) (rows : List (List IV)) : hrows (.blk fz st e sz rows) = rows.length := rfl
set_option maxHeartbeats 1000000 in
theorem qdiv_ok (p q : List RQ) (hp : GQ (2 ^ 30) (2 ^ 32) p) (hq : GQ (2 ^ 30) (2 ^ 32) q) (n K : Nat) (v : DV (trimq (qvs p)) (trimq (qvs q)) n K) : AC Tryz.prog 38 [cqw p, cqw q] none [cqp (dqu (trimq (qvs p)) (trimq (qvs q)) n), cqw ((dit (trimq (qvs p)) (trimq (qvs q)) n).map crat), ci 0] := by
  have m := qboth_own p q (hp.mono (by omega) (by omega)) (hq.mono (by omega) (by omega))
  refine AC.by_walk (rs := [.tmp 4, .tmp 5, .tmp 6]) ords Tryz.func38 (by rfl) (by rfl) (by rfl) (by rfl) (by rfl) ?_
  simp (disch := omega) only [wk, tis, seval, reduceCtorEq, Nat.reduceEqDiff, rqs]
  refine call_by (m) (by rfl) (by simp) ?_
  simp (disch := omega) only [wk, tis, seval, reduceCtorEq, Nat.reduceEqDiff, rqs]
  unfold cqs
  generalize trimq (qvs p) = A at *
  generalize trimq (qvs q) = B at *
  obtain ⟨la, lb, h0, hb, ta, tb, en, hj, za, zb, k1, k2⟩ := v
  have hqa : (A.map crat).length = A.length := List.length_map _
  have hqb : (B.map crat).length = B.length := List.length_map _
  have hb0 : ¬ (B.length : Int) = 0 := by omega
  obtain ⟨N, hN⟩ : ∃ N, N = A.length + 1 - B.length := ⟨_, rfl⟩
  have hNI : max ((A.length : Int) - (B.length : Int) + 1) 0 = (N : Int) := by omega
  simp (disch := omega) only [wk, tis, seval, reduceCtorEq, Nat.reduceEqDiff, rqs, hqa, hqb, hb0, hNI]
  refine aloop_nil 10 10 46 3 (by simp (disch := omega) only [wk, tis, seval, reduceCtorEq, Nat.reduceEqDiff, rqs]) (fun f H => ∃ (i sr st : Nat), i ≤ N ∧ f 40 = .iv (.int .i64 i) ∧ f 39 = .iv (.int .i64 N) ∧ f 7 = .hs 21 sr ∧ f 8 = .iv (.sl (rats (B.map crat))) ∧ H 21 = .blk false sr 46 3 (rats (A.map crat)) ∧ f 10 = .hs 10 st ∧ H 10 = .blk false st 46 3 (rats ((List.replicate i (0 : Rat)).map crat))) (fun f H => (N - intAt f 40).toNat) ?_ ?_
  · refine ⟨0, 1, 1, by omega, ?_⟩
    simp (disch := omega) only [wk, tis, seval, reduceCtorEq, Nat.reduceEqDiff, rqs, ghostF, ghostH, hqa, hqb, hNI, List.replicate_zero, List.map_nil]
  rintro f H ⟨i, sr, st, hi, hF⟩
  rw [intAt_of hF.1]
  simp (disch := omega) only [wk, tis, seval, reduceCtorEq, Nat.reduceEqDiff, rqs, hF]
  refine if_by (fun hlt => ?_) (fun hlt => ?_)
  · have hrq : ((List.replicate i (0 : Rat)).map crat).length = i := by simp
    simp (disch := omega) only [wk, tis, seval, reduceCtorEq, Nat.reduceEqDiff, rqs, hF, hrq]
    refine call_by (qnone_ok) (by first | rfl | (simp only [tocvs, tocv, hF, hrq]; rfl) | (simp only [tocvs, tocv, toboxes, tobox, updH_at, Nat.reduceEqDiff, ↓reduceIte, hF, hrq]; rfl)) (by simp) ?_
    simp (disch := omega) only [wk, tis, seval, reduceCtorEq, Nat.reduceEqDiff, rqs, hF, hrq]
    refine ⟨⟨i + 1, sr, st + 1, by omega, ?_⟩, by omega⟩
    rw [List.replicate_succ', List.map_append]
    (repeat' apply And.intro) <;> first | rfl | omega
  obtain rfl : i = N := by omega
  rw [← padq_nil] at hF
  simp (disch := omega) only [wk, tis, seval, reduceCtorEq, Nat.reduceEqDiff, rqs, hF]
  refine aloop_by (fun f H => ∃ k sr sq : Nat, k ≤ n ∧ f 7 = .hs 21 sr ∧ f 8 = .iv (.sl (rats (B.map crat))) ∧ f 10 = .hs 10 sq ∧ H 21 = .blk false sr 46 3 (rats ((dit A B k).map crat)) ∧ H 10 = .blk false sq 46 3 (rats ((padq i (dqu A B k)).map crat))) (fun f H => hrows (H 21)) ?_ ?_
  · exact ⟨0, sr, st, Nat.zero_le _, by simp (disch := omega) only [wk, tis, seval, reduceCtorEq, Nat.reduceEqDiff, rqs, hF], by simp (disch := omega) only [wk, tis, seval, reduceCtorEq, Nat.reduceEqDiff, rqs, hF], by simp (disch := omega) only [wk, tis, seval, reduceCtorEq, Nat.reduceEqDiff, rqs, hF], hF.2.2.2.2.1, hF.2.2.2.2.2.2⟩
  rintro f H ⟨k, sr, sq, hk, h7, h8, h10, hH1, hH2⟩
  have hql : ((dit A B k).map crat).length = (dit A B k).length := List.length_map _
  rw [show hrows (H 21) = (dit A B k).length by rw [hH1, hrows_blk, rats_length, hql]]
  by_cases hge : B.length ≤ (dit A B k).length
  · have hkn : k < n := Nat.lt_of_le_of_ne hk fun e => by rw [e] at hge; omega
    have hl1 := dit_len h0 hb k fun j hjk => hj j (by omega)
    have hlow := dqu_low h0 hb k (fun j hjk => hj j (by omega)) ((dit A B k).length - B.length) (by omega)
    have hset := dqu_set (N := i) (k := k) (A := A) (B := B) (by omega) hlow
    have hend := subp_end hge
    have hdn := dn1_len h0 hb hge
    have zx := za k hk
    have zx1 := za (k + 1) hkn
    rw [show dit A B (k + 1) = dn1 (dit A B k) B from rfl] at zx1
    have hdit : dit A B (k + 1) = dn1 (dit A B k) B := rfl
    generalize hQ' : dqu A B (k + 1) = Q' at *
    generalize hXX : dit A B k = X at *
    generalize dqu A B k = Q at *
    obtain ⟨s, hs⟩ : ∃ s, s = X.length - B.length := ⟨_, rfl⟩
    rw [← hs] at hset hend
    have zc := qz_div (cfq X (X.length - 1)) (cfq B (B.length - 1))
    have zc1 := zx (X.length - 1)
    have zc2 := zb (B.length - 1)
    have mq := qquo_ok (crat (cfq X (X.length - 1))) (crat (cfq B (B.length - 1))) (szq_crat (by omega)) (szq_crat (by omega)) (nv_crat0 _) (nv_crat0 _) (by rw [iv_crat]; exact fun e => hb (Rat.num_eq_zero.mp e))
    rw [qv_crat, qv_crat, show cfq X (X.length - 1) / cfq B (B.length - 1) = dc X B from rfl] at mq
    rw [show cfq X (X.length - 1) / cfq B (B.length - 1) = dc X B from rfl] at zc
    have hge' : (B.length : Int) ≤ (X.length : Int) := by omega
    have e1 : (X.length : Int) - 1 = ((X.length - 1 : Nat) : Int) := by omega
    have e2 : (B.length : Int) - 1 = ((B.length - 1 : Nat) : Int) := by omega
    have e3 : (X.length : Int) - (B.length : Int) = (s : Int) := by omega
    have g1 := cratq_get (q := X) (i := X.length - 1) (by omega)
    have g2 := cratq_get (q := B) (i := B.length - 1) (by omega)
    have hs0 := subp_zero X B (dc X B) (s := s) (by omega)
    simp (disch := omega) only [wk, tis, seval, reduceCtorEq, Nat.reduceEqDiff, rqs, h7, h8, h10, hH1, hH2, hql, hqb, hge', e1, e2, e3, g1, g2]
    refine ⟨tmps_by (by kernel_rfl), ?_⟩
    refine call_by (mq) (by first | rfl | (simp only [tocvs, tocv, h7, h8, h10, hH1, hH2, hql, hqb, hge', e1, e2, e3, g1, g2]; rfl) | (simp only [tocvs, tocv, toboxes, tobox, updH_at, Nat.reduceEqDiff, ↓reduceIte, h7, h8, h10, hH1, hH2, hql, hqb, hge', e1, e2, e3, g1, g2]; rfl)) (by simp) ?_
    simp (disch := omega) only [wk, tis, seval, reduceCtorEq, Nat.reduceEqDiff, rqs, h7, h8, h10, hH1, hH2, hql, hqb, hge', e1, e2, e3, g1, g2]
    first | exact log_by (by kernel_rfl) | refine ⟨log_by (by kernel_rfl), ?_⟩
    refine aloop_by (fun f H => ∃ (j sc : Nat), j ≤ B.length ∧ f 75 = .iv (.int .i64 j) ∧ f 74 = .iv (.int .i64 B.length) ∧ f 73 = .iv (.sl (rats (B.map crat))) ∧ f 8 = .iv (.sl (rats (B.map crat))) ∧ f 7 = .hs 21 sr ∧ f 10 = .hs 10 sq ∧ f 11 = .iv (.int .i64 s) ∧ f 12 = .hp 12 sc 0 0 ∧ H 12 = .blk false sc 46 3 [qrow (crat (dc X B))] ∧ H 21 = .blk false sr 46 3 (rats ((subp X B (dc X B) s j).map crat)) ∧ H 10 = .blk false sq 46 3 (rats ((padq i Q).map crat))) (fun f H => (B.length - intAt f 75).toNat) ?_ ?_
    · refine ⟨0, (H 12).stamp + 1, by omega, ?_⟩
      simp (disch := omega) only [wk, tis, seval, reduceCtorEq, Nat.reduceEqDiff, rqs, h7, h8, h10, hH1, hH2, hql, hqb, hs0]
    rintro f H ⟨j, sc, hjl, hF⟩
    rw [intAt_of hF.1]
    simp (disch := omega) only [wk, tis, seval, reduceCtorEq, Nat.reduceEqDiff, rqs, hF]
    refine if_by (fun hlt => ?_) (fun hlt => ?_)
    · have hlt' : j < B.length := by omega
      have hsl : ((subp X B (dc X B) s j).map crat).length = X.length := by rw [List.length_map, subp_len]
      have e4 : (s : Int) + (j : Int) = ((s + j : Nat) : Int) := by omega
      have g3 := cratq_get hlt'
      have g4 := cratq_get (q := subp X B (dc X B) s j) (i := s + j) (by rw [subp_len]; omega)
      rw [cfq_subp (by omega), if_neg (by omega)] at g4
      have zj := zb j
      have zs := zx (s + j)
      have zm := qz_mul (dc X B) (cfq B j)
      have mm := qmul_ok (crat (dc X B)) (crat (cfq B j)) (szq_crat (by omega)) (szq_crat (by omega)) (nv_crat0 _) (nv_crat0 _)
      have ms := qsub_ok (crat (cfq X (s + j))) (crat (dc X B * cfq B j)) (szq_crat (by omega)) (szq_crat (by omega)) (nv_crat0 _) (nv_crat0 _)
      rw [qv_crat, qv_crat] at mm ms
      have hst := subp_set (A := X) (B := B) (c := dc X B) (s := s) (i := j) (by omega)
      simp (disch := omega) only [wk, tis, seval, reduceCtorEq, Nat.reduceEqDiff, rqs, hF, hqb, hsl, e4, g3, g4]
      refine call_by (mm) (by first | rfl | (simp only [tocvs, tocv, hF, hqb, hsl, e4, g3, g4]; rfl) | (simp only [tocvs, tocv, toboxes, tobox, updH_at, Nat.reduceEqDiff, ↓reduceIte, hF, hqb, hsl, e4, g3, g4]; rfl)) (by simp) ?_
      simp (disch := omega) only [wk, tis, seval, reduceCtorEq, Nat.reduceEqDiff, rqs, hF, hqb, hsl, e4, g3, g4]
      refine ⟨tmps_by (by kernel_rfl), ?_⟩
      refine call_by (ms) (by first | rfl | (simp only [tocvs, tocv, hF, hqb, hsl, e4, g3, g4]; rfl) | (simp only [tocvs, tocv, toboxes, tobox, updH_at, Nat.reduceEqDiff, ↓reduceIte, hF, hqb, hsl, e4, g3, g4]; rfl)) (by simp) ?_
      simp (disch := omega) only [wk, tis, seval, reduceCtorEq, Nat.reduceEqDiff, rqs, hF, hqb, hsl, e4, g3, g4]
      first | exact log_by (by kernel_rfl) | refine ⟨log_by (by kernel_rfl), ?_⟩
      simp (disch := omega) only [wk, tis, seval, reduceCtorEq, Nat.reduceEqDiff, rqs, hF, hst]
      refine ⟨⟨j + 1, sc, by omega, ?_⟩, by omega⟩
      (repeat' apply And.intro) <;> first | rfl | omega
    · obtain rfl : j = B.length := by omega
      have hpl : ((padq i Q).map crat).length = i := by rw [List.length_map, padq_len]
      have hsq : QB (2 ^ 40) (2 ^ 38) (subp X B (dc X B) s B.length) := .of (by rw [subp_len]; omega) fun a => by
        rw [cfq_subp (by omega)]
        have z1 := zx a
        have z2 := zb (a - s)
        have z3 := qz_mul (dc X B) (cfq B (a - s))
        have z4 := qz_sub (cfq X a) (dc X B * cfq B (a - s))
        split <;> omega
      have tt := qtrim_t _ hsq
      rw [hend] at tt
      have hql2 : ((dn1 X B).map crat).length = (dn1 X B).length := List.length_map _
      simp (disch := omega) only [wk, tis, seval, reduceCtorEq, Nat.reduceEqDiff, rqs, hF, hpl, hset]
      refine callt_by (tt) (by first | rfl | (simp (disch := omega) only [wk, tis, seval, reduceCtorEq, Nat.reduceEqDiff, rqs, hF, hpl, hset]; done)) (by first | rfl | (simp (disch := omega) only [wk, tis, seval, reduceCtorEq, Nat.reduceEqDiff, rqs, hF, hpl, hset]; done)) (by first | rfl | (simp only [tocvs, tocv, List.set_cons_zero, List.set_cons_succ, hF, hpl, hset]; rfl)) (by simp) (by simp) ?_
      simp (disch := omega) only [wk, tis, seval, reduceCtorEq, Nat.reduceEqDiff, rqs, hF, hpl, hset]
      simp (disch := omega) only [wk, tis, seval, reduceCtorEq, Nat.reduceEqDiff, rqs, hrows_blk, rats_length, hql2]
      refine ⟨⟨k + 1, sr + 1, sq, hkn, ?_⟩, hdn⟩
      rw [hdit, hQ']
      (repeat' apply And.intro) <;> first | rfl | omega
  · obtain rfl : k = n := by
      rcases Nat.lt_or_ge k n with h | h
      · exact absurd (hj k h) hge
      · omega
    have hge' : ¬ (B.length : Int) ≤ ((dit A B k).length : Int) := by omega
    have dl := dqu_len h0 hb k hj
    have hpl : ((padq i (dqu A B k)).map crat).length = i := by rw [List.length_map, padq_len]
    have zd := dqu_size h0 hb za zb k1 k (Nat.le_refl _) hj
    have tq := qtrim_own (padq i (dqu A B k)) (.of (by rw [padq_len]; omega) fun a => by
      rw [padq_all (by omega)]
      have := zd a
      omega)
    rw [show cqp (padq i (dqu A B k)) = cqp (dqu A B k) from congrArg cqw (cqs_ext (padq_all (by omega)))] at tq
    simp (disch := omega) only [wk, tis, seval, reduceCtorEq, Nat.reduceEqDiff, rqs, h7, h8, h10, hH1, hH2, hql, hqb, hge']
    refine call_by (tq) (by first | rfl | (simp only [tocvs, tocv, h7, h8, h10, hH1, hH2, hql, hqb, hge', hpl]; rfl) | (simp only [tocvs, tocv, toboxes, tobox, updH_at, Nat.reduceEqDiff, ↓reduceIte, h7, h8, h10, hH1, hH2, hql, hqb, hge', hpl]; rfl)) (by simp) ?_
    simp (disch := omega) only [wk, tis, seval, reduceCtorEq, Nat.reduceEqDiff, rqs, h7, h8, h10, hH1, hH2, hql, hqb, hge', hpl]
    try rfl
end Go.Proofs.YtenlbifnhdmnnaaGreat

namespace Go.Proofs.YtenlbifnhdmnnaaGreat
open Go Go.Proofs Go.AL
set_option linter.unusedSimpArgs false
set_option linter.unusedVariables false
theorem cvq_take_all {g : Nat → Rat} (A : List Rat) (k : Nat) : cvq (A.take (k + 1)) g k = cvq A g k := by
  have h : ∀ m, cvq (A.take (k + 1 + m)) g k = cvq (A.take (k + 1)) g k := fun m => by
    induction m with
    | zero => rfl
    | succ m ih => rw [← Nat.add_assoc, cvq_take_succ, ih, if_neg (by omega), Rat.add_zero]
  rw [← h A.length, List.take_of_length_le (by omega)]
theorem mulq_len (A B : List Rat) : (mulq A B).length = A.length + B.length := by simp [mulq]
end Go.Proofs.YtenlbifnhdmnnaaGreat

namespace Go.Proofs.YtenlbifnhdmnnaaGreat
open Go Go.Proofs Go.AL
set_option linter.unusedSimpArgs false
set_option linter.unusedVariables false
end Go.Proofs.YtenlbifnhdmnnaaGreat

namespace Go.Proofs.YtenlbifnhdmnnaaGreat
open Go Go.Proofs Go.AL
set_option linter.unusedSimpArgs false
set_option linter.unusedVariables false
theorem CB.one_list : CB 1 1 1 [1] where
  d := by omega
  w := by decide +kernel
  l := Nat.le_refl _
  c := fun c hc => by
    rcases List.mem_singleton.1 hc with rfl
    exact ⟨1, by decide +kernel, by decide +kernel⟩
def PWH (A : List Rat) (m N K : Nat) : Prop := ∀ k, k ≤ m → ∃ D, CB D N K (powq A k)
structure PWK (A : List Rat) (m N K : Nat) : Prop where
  h : ∀ k, k ≤ m → ∃ D, CB D N K (trimq (powq A k))
theorem PWH.k {A : List Rat} {m N K : Nat} (h : PWH A m N K) : PWK A m N K := ⟨fun k hk => by
  obtain ⟨D, hD⟩ := h k hk
  exact ⟨D, hD.trim⟩⟩
theorem PWK.mono {A : List Rat} {m N K N' K' : Nat} (h : PWK A m N K) (hN : N ≤ N') (hK : K ≤ K') : PWK A m N' K' := ⟨fun k hk => by
  obtain ⟨D, hD⟩ := h.h k hk
  exact ⟨D, hD.mono hN hK⟩⟩
theorem CB.part {D E n m M N : Nat} {A B : List Rat} (hA : CB D n M A) (hB : CB E m N B) (h1 : 1 ≤ M + N + (n + m)) (i k : Nat) : qz (cvq (A.take i) (cfq B) k) ≤ M + N + (n + m) := by
  have h := ((hA.sub (r := A.take i) (by rw [List.length_take]; have := hA.l; omega) fun c hc => List.mem_of_mem_take hc).mulq hB).qb.cz h1 k
  rwa [cfq_mulq] at h
end Go.Proofs.YtenlbifnhdmnnaaGreat

namespace Go.Proofs.YtenlbifnhdmnnaaGreat
open Go Go.Proofs Go.AL
set_option linter.unusedSimpArgs false
set_option linter.unusedVariables false
end Go.Proofs.YtenlbifnhdmnnaaGreat

namespace Go.Proofs.YtenlbifnhdmnnaaGreat
open Go Go.Proofs Go.AL
set_option linter.unusedSimpArgs false
set_option linter.unusedVariables false
def lineq (c : Rat) : List Rat := [-c, 1]
def froot (X : List Rat) (b : Nat) : Nat → List Rat
  | 0 => [1]
  | k + 1 => if k = b then froot X b k else mulq (froot X b k) (lineq (cfq X k))
theorem CB.addq {D E n m M N : Nat} {A B : List Rat} (hA : CB D n M A) (hB : CB E m N B) : CB (D * E) (max n m) (M + N + 1) (addq A B) where
  d := Nat.mul_ne_zero hA.d hB.d
  w := by
    have h1 := AL.wd_mul_len D E
    have h2 := hA.w
    have h3 := hB.w
    omega
  l := by
    simp only [Go.Proofs.YtenlbifnhdmnnaaGreat.addq, List.length_map, List.length_range]
    have := hA.l
    have := hB.l
    omega
  c := fun c hc => by
    obtain ⟨k, hk, rfl⟩ := List.getElem_of_mem hc
    rw [← cfq_lt hk, cfq_addq]
    have h1 := CD.up hA.d hB.d hB.w (CD.cf hA k)
    have h2 := CD.up hB.d hA.d hA.w (CD.cf hB k)
    rw [Nat.mul_comm] at h2
    exact (h1.add h2).mono (by omega)
theorem CB.const {c : Rat} {K : Nat} (h : qz c ≤ K) : CB c.den 1 K [c] where
  d := c.den_nz
  w := Nat.le_trans (qz_parts c).2 h
  l := Nat.le_refl _
  c := fun x hx => by
    rcases List.mem_singleton.1 hx with rfl
    exact (CD.ofRat x).mono (Nat.le_trans (qz_parts x).1 h)
def newc (X Y S : List Rat) (k : Nat) : Rat := (cfq Y k - evq S (cfq X k)) / evq (froot X X.length k) (cfq X k)
def news (X Y : List Rat) : Nat → List Rat
  | 0 => []
  | k + 1 => addq (news X Y k) (sclq (newc X Y (news X Y k) k) (froot X X.length k))
end Go.Proofs.YtenlbifnhdmnnaaGreat

namespace Go.Proofs.YtenlbifnhdmnnaaGreat
open Go Go.Proofs Go.AL
set_option linter.unusedSimpArgs false
set_option linter.unusedVariables false
theorem copyrat_ok (a : RQ) (ha : SzQ (2 ^ 40) a) : AC Tryz.prog 41 [cqq a] none [cqq a] := by
  have c := rcopy_ok a.1 ha.1.1
  have hl := ha.2.1
  refine AC.by_walk (rs := [.cell 2 46]) ords Tryz.func41 (by rfl) (by rfl) (by rfl) (by rfl) (by rfl) ?_
  simp (disch := omega) only [wk, tis, seval, reduceCtorEq, Nat.reduceEqDiff, rqs]
  refine ⟨tmps_by (by kernel_rfl), ?_⟩
  refine call_by (c) (by rfl) (by simp) ?_
  simp (disch := omega) only [wk, tis, seval, reduceCtorEq, Nat.reduceEqDiff, rqs]
  first | exact log_by (by kernel_rfl) | refine ⟨log_by (by kernel_rfl), ?_⟩
  try rfl
theorem take_snocq (p : List RQ) {i : Nat} (h : i < p.length) : p.take (i + 1) = p.take i ++ [p.getD i q0] := by
  rw [List.take_add_one]
  simp [h, List.getD]
theorem copyq_ok (p : List RQ) (h : BQ (2 ^ 40) (2 ^ 40) p) : AC Tryz.prog 10 [cqw p] none [cqw p] := by
  refine AC.by_walk (rs := [.tmp 2]) ords Tryz.func10 (by rfl) (by rfl) (by rfl) (by rfl) (by rfl) ?_
  have hl := h.1
  simp (disch := omega) only [wk, tis, seval, reduceCtorEq, Nat.reduceEqDiff, rqs]
  refine aloop_nil 3 3 46 3 (by simp (disch := omega) only [wk, tis, seval, reduceCtorEq, Nat.reduceEqDiff, rqs]) (fun f H => ∃ (i st : Nat), i ≤ p.length ∧ f 4 = .iv (.int .i64 i) ∧ f 0 = .iv (.sl (rats p)) ∧ f 3 = .hs 3 st ∧ H 3 = .blk false st 46 3 (rats (p.take i))) (fun f H => (p.length - intAt f 4).toNat) ?_ ?_
  · refine ⟨0, 1, by omega, ?_⟩
    simp (disch := omega) only [wk, tis, seval, reduceCtorEq, Nat.reduceEqDiff, rqs, ghostF, ghostH, List.take_zero]
  rintro f H ⟨i, st, hi, hF⟩
  rw [intAt_of hF.1]
  simp (disch := omega) only [wk, tis, seval, reduceCtorEq, Nat.reduceEqDiff, rqs, hF]
  refine if_by (fun hlt => ?_) (fun hlt => ?_)
  · have hq : (p.take i).length = i := by rw [List.length_take]; omega
    have hip : i < p.length := by omega
    have et := take_snocq p hip
    simp (disch := omega) only [wk, tis, seval, reduceCtorEq, Nat.reduceEqDiff, rqs, hF, hq]
    refine call_by ((copyrat_ok (p.getD i q0) (h.get hip))) (by first | rfl | (simp only [tocvs, tocv, hF, hq]; rfl) | (simp only [tocvs, tocv, toboxes, tobox, updH_at, Nat.reduceEqDiff, ↓reduceIte, hF, hq]; rfl)) (by simp) ?_
    simp (disch := omega) only [wk, tis, seval, reduceCtorEq, Nat.reduceEqDiff, rqs, hF, hq]
    refine ⟨⟨i + 1, st + 1, by omega, ?_⟩, by omega⟩
    rw [et]
    (repeat' apply And.intro) <;> first | rfl | omega
  · simp (disch := omega) only [wk, tis, seval, reduceCtorEq, Nat.reduceEqDiff, rqs, hF]
    rw [List.take_of_length_le (by omega)]
    try rfl
theorem okq_ok (p : List RQ) (h : BQ (2 ^ 40) (2 ^ 38) p) : AC Tryz.prog 6 [cqw p] none [cb (gd p)] := by
  refine AC.by_walk (rs := [.tmp 2]) ords Tryz.func6 (by rfl) (by rfl) (by rfl) (by rfl) (by rfl) ?_
  have hl := h.1
  simp (disch := omega) only [wk, tis, seval, reduceCtorEq, Nat.reduceEqDiff, rqs]
  refine aloop_by (fun f H => ∃ (i : Nat), i ≤ p.length ∧ (∀ j, j < i → nv (p.getD j q0).2 ≠ 0) ∧ f 3 = .iv (.int .i64 i) ∧ f 0 = .iv (.sl (rats p))) (fun f H => (p.length - intAt f 3).toNat) ?_ ?_
  · refine ⟨0, by omega, fun j hj => by omega, ?_⟩
    simp (disch := omega) only [wk, tis, seval, reduceCtorEq, Nat.reduceEqDiff, rqs]
  rintro f H ⟨i, hi, hg, hF⟩
  rw [intAt_of hF.1]
  simp (disch := omega) only [wk, tis, seval, reduceCtorEq, Nat.reduceEqDiff, rqs, hF]
  refine if_by (fun hlt => ?_) (fun hlt => ?_)
  · have hip : i < p.length := by omega
    have o := hok_ok (p.getD i q0) ⟨Nat.le_trans (h.get hip).2.1 (by omega), (h.get hip).2.2⟩
    by_cases h0 : nv (p.getD i q0).2 = 0
    · rw [decide_eq_false (fun e => e h0)] at o
      simp (disch := omega) only [wk, tis, seval, reduceCtorEq, Nat.reduceEqDiff, rqs, hF]
      refine call_by (o) (by first | rfl | (simp only [tocvs, tocv, hF]; rfl) | (simp only [tocvs, tocv, toboxes, tobox, updH_at, Nat.reduceEqDiff, ↓reduceIte, hF]; rfl)) (by simp) ?_
      simp (disch := omega) only [wk, tis, seval, reduceCtorEq, Nat.reduceEqDiff, rqs, hF]
      have hb : gd p = false := by
        rw [Bool.eq_false_iff]
        exact fun hh => gd_iff.mp hh _ (getq_mem hip) h0
      rw [hb]
    · rw [decide_eq_true h0] at o
      simp (disch := omega) only [wk, tis, seval, reduceCtorEq, Nat.reduceEqDiff, rqs, hF]
      refine call_by (o) (by first | rfl | (simp only [tocvs, tocv, hF]; rfl) | (simp only [tocvs, tocv, toboxes, tobox, updH_at, Nat.reduceEqDiff, ↓reduceIte, hF]; rfl)) (by simp) ?_
      simp (disch := omega) only [wk, tis, seval, reduceCtorEq, Nat.reduceEqDiff, rqs, hF]
      refine ⟨⟨i + 1, by omega, fun j hj => ?_, ?_⟩, by omega⟩
      · by_cases e : j = i
        · rw [e]; exact h0
        · exact hg j (by omega)
      · (repeat' apply And.intro) <;> first | rfl | omega
  · simp (disch := omega) only [wk, tis, seval, reduceCtorEq, Nat.reduceEqDiff, rqs, hF]
    have hb : gd p = true := gd_iff.mpr fun r hr => by
      obtain ⟨j, hj, rfl⟩ := List.getElem_of_mem hr
      have := hg j (by omega)
      rwa [List.getD, List.getElem?_eq_getElem hj, Option.getD_some] at this
    rw [hb]
theorem tzq_take_snoc (q : List Rat) {i : Nat} (h : i < q.length) : tzq (q.take (i + 1)) = if cfq q i ≠ 0 then i + 1 else tzq (q.take i) := by
  by_cases hz : cfq q i = 0
  · rw [if_neg (by simpa using hz)]; exact tzq_take_zero h hz
  · rw [if_pos hz]; exact tzq_full h hz
theorem nq_ok (p : List RQ) (h : GQ (2 ^ 40) (2 ^ 38) p) : AC Tryz.prog 8 [cqw p] none [cqp (qvs p)] := by
  refine AC.by_walk (rs := [.tmp 2]) ords Tryz.func8 (by rfl) (by rfl) (by rfl) (by rfl) (by rfl) ?_
  have hl := h.1
  have hpl := qvs_len p
  have tz0 : tzq [] = 0 := rfl
  simp (disch := omega) only [wk, tis, seval, reduceCtorEq, Nat.reduceEqDiff, rqs]
  refine aloop_by (fun f H => ∃ (i st : Nat), i ≤ p.length ∧ f 5 = .iv (.int .i64 i) ∧ f 4 = .iv (.int .i64 (tzq ((qvs p).take i))) ∧ f 0 = .iv (.sl (rats p)) ∧ f 3 = .hs 7 st ∧ H 7 = .blk false st 46 3 (rats (((qvs p).take i).map crat))) (fun f H => (p.length - intAt f 5).toNat) ?_ ?_
  · refine ⟨0, 1, by omega, ?_⟩
    simp (disch := omega) only [wk, tis, seval, reduceCtorEq, Nat.reduceEqDiff, rqs, List.take_zero, List.map_nil, tz0]
  rintro f H ⟨i, st, hi, hF⟩
  rw [intAt_of hF.1]
  simp (disch := omega) only [wk, tis, seval, reduceCtorEq, Nat.reduceEqDiff, rqs, hF]
  refine if_by (fun hlt => ?_) (fun hlt => ?_)
  · have hip : i < p.length := by omega
    have hq : (((qvs p).take i).map crat).length = i := by rw [List.length_map, List.length_take]; omega
    have hr := h.get hip
    have hd := h.den hip
    have m := rR_ok (p.getD i q0).1 (p.getD i q0).2 hr.1 hr.2 hd
    rw [show mkRat (iv (p.getD i q0).1) (nv (p.getD i q0).2) = cfq (qvs p) i from (cfq_qvs p i).symm] at m
    have zc := qz_raw hr hd
    rw [← cfq_qvs] at zc
    have s := hS_ok (crat (cfq (qvs p) i)) ((szq_crat zc).1.mono (by omega))
    rw [sgq_qv (nv_crat0 _), qv_crat] at s
    have et := tzq_take_snoc (qvs p) (i := i) (by omega)
    have e := takeq_snoc (q := qvs p) (i := i) (by omega)
    simp (disch := omega) only [wk, tis, seval, reduceCtorEq, Nat.reduceEqDiff, rqs, hF, hq]
    refine ⟨tmps_by (by kernel_rfl), ?_⟩
    refine call_by (m) (by first | rfl | (simp only [tocvs, tocv, hF, hq]; rfl) | (simp only [tocvs, tocv, toboxes, tobox, updH_at, Nat.reduceEqDiff, ↓reduceIte, hF, hq]; rfl)) (by simp) ?_
    simp (disch := omega) only [wk, tis, seval, reduceCtorEq, Nat.reduceEqDiff, rqs, hF, hq]
    first | exact log_by (by kernel_rfl) | refine ⟨log_by (by kernel_rfl), ?_⟩
    by_cases hz : cfq (qvs p) i = 0
    · rw [if_neg (by simpa using hz)] at et
      rw [hz, sgq_zero] at s
      rw [hz] at e
      rw [hz]
      refine call_by (s) (by first | rfl | (simp only [tocvs, tocv, hF, hq]; rfl) | (simp only [tocvs, tocv, toboxes, tobox, updH_at, Nat.reduceEqDiff, ↓reduceIte, hF, hq]; rfl)) (by simp) ?_
      simp (disch := omega) only [wk, tis, seval, reduceCtorEq, Nat.reduceEqDiff, rqs, hF, hq]
      refine ⟨⟨i + 1, st + 1, by omega, ?_⟩, by omega⟩
      rw [et, e, List.map_append]
      (repeat' apply And.intro) <;> first | rfl | omega
    · rw [if_pos hz] at et
      have hs : ¬ sgq (cfq (qvs p) i) = 0 := fun h => hz (sgq_eq_zero.mp h)
      refine call_by (s) (by first | rfl | (simp only [tocvs, tocv, hF, hq, hs]; rfl) | (simp only [tocvs, tocv, toboxes, tobox, updH_at, Nat.reduceEqDiff, ↓reduceIte, hF, hq, hs]; rfl)) (by simp) ?_
      simp (disch := omega) only [wk, tis, seval, reduceCtorEq, Nat.reduceEqDiff, rqs, hF, hq, hs]
      refine ⟨⟨i + 1, st + 1, by omega, ?_⟩, by omega⟩
      rw [et, e, List.map_append]
      (repeat' apply And.intro) <;> first | rfl | omega
  · obtain rfl : i = p.length := by omega
    rw [List.take_of_length_le (by omega)] at hF
    have htl : tzq (qvs p) ≤ p.length := by have := tzq_le (qvs p); omega
    have hq : ((qvs p).map crat).length = p.length := by rw [List.length_map]; omega
    simp (disch := omega) only [wk, tis, seval, reduceCtorEq, Nat.reduceEqDiff, rqs, hF, hq]
    rw [cqs, trimq, List.map_take]
    first | exact ⟨htl, rfl⟩ | rfl | (refine ⟨htl, ?_⟩; rfl)
theorem byq_ok (A : List Rat) (c : RQ) (K : Nat) (hA : QB (2 ^ 30) K A) (hc : SzQ K c) (h0 : nv c.2 ≠ 0) (hK : K ≤ 2 ^ 34) (hK1 : 1 ≤ K) : AC Tryz.prog 51 [cqw (A.map crat), cqq c] none [cqp (sclq (qv c) A)] := by
  have hl := hA.1
  have hqa : (A.map crat).length = A.length := List.length_map _
  have zc := qz_raw hc h0
  have hsl : (sclq (qv c) A).length = A.length := by simp [sclq]
  have hR : QB (2 ^ 40) (2 ^ 38) (sclq (qv c) A) := .of (by omega) fun k => by
    rw [cfq_sclq]
    have h1 := qz_mul (cfq A k) (qv c)
    have h2 := hA.cz hK1 k
    omega
  have t := nq_ok ((sclq (qv c) A).map crat) hR.gq
  rw [qvs_map] at t
  refine AC.by_walk (rs := [.tmp 4]) ords Tryz.func51 (by rfl) (by rfl) (by rfl) (by rfl) (by rfl) ?_
  simp (disch := omega) only [wk, tis, seval, reduceCtorEq, Nat.reduceEqDiff, rqs]
  refine aloop_nil 5 5 46 3 (by simp (disch := omega) only [wk, tis, seval, reduceCtorEq, Nat.reduceEqDiff, rqs]) (fun f H => ∃ (i st s3 : Nat), i ≤ A.length ∧ f 6 = .iv (.int .i64 i) ∧ f 0 = .iv (.sl (rats (A.map crat))) ∧ f 3 = .hp 3 s3 0 0 ∧ H 3 = .blk false s3 46 3 [qrow c] ∧ f 5 = .hs 5 st ∧ H 5 = .blk false st 46 3 (rats (((sclq (qv c) A).take i).map crat))) (fun f H => (A.length - intAt f 6).toNat) ?_ ?_
  · refine ⟨0, 1, 1, by omega, ?_⟩
    simp (disch := omega) only [wk, tis, seval, reduceCtorEq, Nat.reduceEqDiff, rqs, ghostF, ghostH, List.take_zero, List.map_nil]
  rintro f H ⟨i, st, s3, hi, hF⟩
  rw [intAt_of hF.1]
  simp (disch := omega) only [wk, tis, seval, reduceCtorEq, Nat.reduceEqDiff, rqs, hF]
  by_cases hlt' : i < A.length
  · have hlt : (i : Int) < (A.length : Int) := by omega
    have hrq : (((sclq (qv c) A).take i).map crat).length = i := by rw [List.length_map, List.length_take]; omega
    have g := cratq_get hlt'
    have et := takeq_snoc (q := sclq (qv c) A) (i := i) (by omega)
    rw [cfq_sclq] at et
    have m := htimes_ok (crat (cfq A i)) c (szq_crat (Nat.le_trans (hA.cz hK1 i) (by omega))) (hc.mono (by omega)) (nv_crat0 _) h0
    rw [qv_crat] at m
    simp (disch := omega) only [wk, tis, seval, reduceCtorEq, Nat.reduceEqDiff, rqs, hF, hqa, hlt, hrq, g]
    refine ⟨tmps_by (by kernel_rfl), ?_⟩
    refine call_by (m) (by first | rfl | (simp only [tocvs, tocv, hF, hqa, hrq, g]; rfl) | (simp only [tocvs, tocv, toboxes, tobox, updH_at, Nat.reduceEqDiff, ↓reduceIte, hF, hqa, hrq, g]; rfl)) (by simp) ?_
    simp (disch := omega) only [wk, tis, seval, reduceCtorEq, Nat.reduceEqDiff, rqs, hF, hqa, hrq, g]
    first | exact log_by (by kernel_rfl) | refine ⟨log_by (by kernel_rfl), ?_⟩
    refine ⟨⟨i + 1, st + 1, s3, by omega, ?_⟩, by omega⟩
    rw [et, List.map_append]
    (repeat' apply And.intro) <;> first | rfl | omega
  · have hlt : ¬ (i : Int) < (A.length : Int) := by omega
    rw [List.take_of_length_le (by omega)] at hF
    simp (disch := omega) only [wk, tis, seval, reduceCtorEq, Nat.reduceEqDiff, rqs, hF, hqa, hlt]
    refine call_by (t) (by first | rfl | (simp only [tocvs, tocv, hF]; rfl) | (simp only [tocvs, tocv, toboxes, tobox, updH_at, Nat.reduceEqDiff, ↓reduceIte, hF]; rfl)) (by simp) ?_
    simp (disch := omega) only [wk, tis, seval, reduceCtorEq, Nat.reduceEqDiff, rqs, hF]
    try rfl
theorem atq_ok (A : List Rat) (i : Nat) (hl : A.length ≤ 2 ^ 40) : AC Tryz.prog 43 [cqw (A.map crat), ci i] none [cqz (cfq A i)] := by
  have hqa : (A.map crat).length = A.length := List.length_map _
  have z0 := hP_ok 0 1 (by omega) (by omega) (by omega) (by omega)
  rw [show ((0 : Int) : Rat) / ((1 : Nat) : Rat) = 0 by decide +kernel] at z0
  refine AC.by_walk (rs := [.cell 4 46]) ords Tryz.func43 (by rfl) (by rfl) (by rfl) (by rfl) (by rfl) ?_
  simp (disch := omega) only [wk, tis, seval, reduceCtorEq, Nat.reduceEqDiff, rqs]
  by_cases h : i < A.length
  · have h' : (i : Int) < (A.length : Int) := by omega
    have g := cratq_get h
    simp (disch := omega) only [wk, tis, seval, reduceCtorEq, Nat.reduceEqDiff, rqs, hqa, h', g]
    try rfl
  · have h' : ¬ (i : Int) < (A.length : Int) := by omega
    rw [cfq_ge (by omega)]
    simp (disch := omega) only [wk, tis, seval, reduceCtorEq, Nat.reduceEqDiff, rqs, hqa, h']
    refine call_by (z0) (by rfl) (by simp) ?_
    simp (disch := omega) only [wk, tis, seval, reduceCtorEq, Nat.reduceEqDiff, rqs]
    try rfl
theorem plusq_ok (A B : List Rat) (hA : QB (2 ^ 30) (2 ^ 33) A) (hB : QB (2 ^ 30) (2 ^ 33) B) : AC Tryz.prog 12 [cqw (A.map crat), cqw (B.map crat)] none [cqp (addq A B)] := by
  have hAl := hA.1
  have hBl := hB.1
  have hqa : (A.map crat).length = A.length := List.length_map _
  have hqb : (B.map crat).length = B.length := List.length_map _
  have hal : (addq A B).length = max A.length B.length := by simp [addq]
  have hR : QB (2 ^ 40) (2 ^ 38) (addq A B) := .of (by rw [hal]; omega) fun k => by
    rw [cfq_addq]
    have h1 := qz_add (cfq A k) (cfq B k)
    have h2 := hA.cz (by omega) k
    have h3 := hB.cz (by omega) k
    omega
  have t := nq_ok ((addq A B).map crat) hR.gq
  rw [qvs_map] at t
  refine AC.by_walk (rs := [.tmp 4]) ords Tryz.func12 (by rfl) (by rfl) (by rfl) (by rfl) (by rfl) ?_
  simp (disch := omega) only [wk, tis, seval, reduceCtorEq, Nat.reduceEqDiff, rqs]
  refine aloop_nil 5 5 46 3 (by simp (disch := omega) only [wk, tis, seval, reduceCtorEq, Nat.reduceEqDiff, rqs]) (fun f H => ∃ (i st : Nat), i ≤ max A.length B.length ∧ f 6 = .iv (.int .i64 i) ∧ f 0 = .iv (.sl (rats (A.map crat))) ∧ f 1 = .iv (.sl (rats (B.map crat))) ∧ f 5 = .hs 5 st ∧ H 5 = .blk false st 46 3 (rats (((addq A B).take i).map crat))) (fun f H => (A.length + B.length - intAt f 6).toNat) ?_ ?_
  · refine ⟨0, 1, by omega, ?_⟩
    simp (disch := omega) only [wk, tis, seval, reduceCtorEq, Nat.reduceEqDiff, rqs, ghostF, ghostH, List.take_zero, List.map_nil]
  rintro f H ⟨i, st, hi, hF⟩
  rw [intAt_of hF.1]
  simp (disch := omega) only [wk, tis, seval, reduceCtorEq, Nat.reduceEqDiff, rqs, hF]
  have hrq : (((addq A B).take i).map crat).length = i := by rw [List.length_map, List.length_take, hal]; omega
  have y1 := hA.cz (by omega) i
  have y2 := hB.cz (by omega) i
  have a1 := atq_ok A i (by omega)
  have a2 := atq_ok B i (by omega)
  have y := hplus_ok (crat (cfq A i)) (crat (cfq B i)) (szq_crat (by omega)) (szq_crat (by omega)) (nv_crat0 _) (nv_crat0 _)
  rw [qv_crat, qv_crat] at y
  by_cases hm : i < max A.length B.length
  · have et := takeq_snoc (q := addq A B) (i := i) (by rw [hal]; exact hm)
    rw [cfq_addq] at et
    by_cases h1 : i < A.length
    · have h1' : (i : Int) < (A.length : Int) := by omega
      simp (disch := omega) only [wk, tis, seval, reduceCtorEq, Nat.reduceEqDiff, rqs, hF, hqa, h1', hrq]
      refine call_by (a1) (by first | rfl | (simp only [tocvs, tocv, hF, hrq]; rfl) | (simp only [tocvs, tocv, toboxes, tobox, updH_at, Nat.reduceEqDiff, ↓reduceIte, hF, hrq]; rfl)) (by simp) ?_
      simp (disch := omega) only [wk, tis, seval, reduceCtorEq, Nat.reduceEqDiff, rqs, hF, hrq]
      refine call_by (a2) (by first | rfl | (simp only [tocvs, tocv, hF, hrq]; rfl) | (simp only [tocvs, tocv, toboxes, tobox, updH_at, Nat.reduceEqDiff, ↓reduceIte, hF, hrq]; rfl)) (by simp) ?_
      simp (disch := omega) only [wk, tis, seval, reduceCtorEq, Nat.reduceEqDiff, rqs, hF, hrq]
      refine call_by (y) (by first | rfl | (simp only [tocvs, tocv, hF, hrq]; rfl) | (simp only [tocvs, tocv, toboxes, tobox, updH_at, Nat.reduceEqDiff, ↓reduceIte, hF, hrq]; rfl)) (by simp) ?_
      simp (disch := omega) only [wk, tis, seval, reduceCtorEq, Nat.reduceEqDiff, rqs, hF, hrq]
      refine ⟨⟨i + 1, st + 1, by omega, ?_⟩, by omega⟩
      rw [et, List.map_append]
      (repeat' apply And.intro) <;> first | rfl | omega
    · have h1' : ¬ (i : Int) < (A.length : Int) := by omega
      have h2' : (i : Int) < (B.length : Int) := by omega
      simp (disch := omega) only [wk, tis, seval, reduceCtorEq, Nat.reduceEqDiff, rqs, hF, hqa, hqb, h1', h2', hrq]
      refine call_by (a1) (by first | rfl | (simp only [tocvs, tocv, hF, hrq]; rfl) | (simp only [tocvs, tocv, toboxes, tobox, updH_at, Nat.reduceEqDiff, ↓reduceIte, hF, hrq]; rfl)) (by simp) ?_
      simp (disch := omega) only [wk, tis, seval, reduceCtorEq, Nat.reduceEqDiff, rqs, hF, hrq]
      refine call_by (a2) (by first | rfl | (simp only [tocvs, tocv, hF, hrq]; rfl) | (simp only [tocvs, tocv, toboxes, tobox, updH_at, Nat.reduceEqDiff, ↓reduceIte, hF, hrq]; rfl)) (by simp) ?_
      simp (disch := omega) only [wk, tis, seval, reduceCtorEq, Nat.reduceEqDiff, rqs, hF, hrq]
      refine call_by (y) (by first | rfl | (simp only [tocvs, tocv, hF, hrq]; rfl) | (simp only [tocvs, tocv, toboxes, tobox, updH_at, Nat.reduceEqDiff, ↓reduceIte, hF, hrq]; rfl)) (by simp) ?_
      simp (disch := omega) only [wk, tis, seval, reduceCtorEq, Nat.reduceEqDiff, rqs, hF, hrq]
      refine ⟨⟨i + 1, st + 1, by omega, ?_⟩, by omega⟩
      rw [et, List.map_append]
      (repeat' apply And.intro) <;> first | rfl | omega
  · have h1' : ¬ (i : Int) < (A.length : Int) := by omega
    have h2' : ¬ (i : Int) < (B.length : Int) := by omega
    rw [List.take_of_length_le (by rw [hal]; omega)] at hF
    simp (disch := omega) only [wk, tis, seval, reduceCtorEq, Nat.reduceEqDiff, rqs, hF, hqa, hqb, h1', h2']
    refine call_by (t) (by first | rfl | (simp only [tocvs, tocv, hF]; rfl) | (simp only [tocvs, tocv, toboxes, tobox, updH_at, Nat.reduceEqDiff, ↓reduceIte, hF]; rfl)) (by simp) ?_
    simp (disch := omega) only [wk, tis, seval, reduceCtorEq, Nat.reduceEqDiff, rqs, hF]
    try rfl
theorem timesq_ok (A B : List Rat) (hA : QB (2 ^ 30) (2 ^ 33) A) (hB : QB (2 ^ 30) (2 ^ 33) B) (hz : ∀ i k, qz (cvq (A.take i) (cfq B) k) ≤ 2 ^ 34) : AC Tryz.prog 13 [cqw (A.map crat), cqw (B.map crat)] none [cqp (mulq A B)] := by
  have hAl := hA.1
  have hBl := hB.1
  have hqa : (A.map crat).length = A.length := List.length_map _
  have hqb : (B.map crat).length = B.length := List.length_map _
  have hml := mulq_len A B
  have z0 := hP_ok 0 1 (by omega) (by omega) (by omega) (by omega)
  rw [show ((0 : Int) : Rat) / ((1 : Nat) : Rat) = 0 by decide +kernel] at z0
  have hR : QB (2 ^ 40) (2 ^ 38) (mulq A B) := .of (by omega) fun k => by
    rw [cfq_mulq, ← cvq_take_all]
    have := hz (k + 1) k
    omega
  have t := nq_ok ((mulq A B).map crat) hR.gq
  rw [qvs_map] at t
  refine AC.by_walk (rs := [.tmp 4]) ords Tryz.func13 (by rfl) (by rfl) (by rfl) (by rfl) (by rfl) ?_
  simp (disch := omega) only [wk, tis, seval, reduceCtorEq, Nat.reduceEqDiff, rqs]
  refine aloop_nil 5 5 46 3 (by simp (disch := omega) only [wk, tis, seval, reduceCtorEq, Nat.reduceEqDiff, rqs]) (fun f H => ∃ (k st : Nat), k ≤ A.length + B.length ∧ f 6 = .iv (.int .i64 k) ∧ f 0 = .iv (.sl (rats (A.map crat))) ∧ f 1 = .iv (.sl (rats (B.map crat))) ∧ f 5 = .hs 5 st ∧ H 5 = .blk false st 46 3 (rats (((mulq A B).take k).map crat))) (fun f H => (A.length + B.length - intAt f 6).toNat) ?_ ?_
  · refine ⟨0, 1, by omega, ?_⟩
    simp (disch := omega) only [wk, tis, seval, reduceCtorEq, Nat.reduceEqDiff, rqs, ghostF, ghostH, List.take_zero, List.map_nil]
  rintro f H ⟨k, st, hk, hF⟩
  rw [intAt_of hF.1]
  simp (disch := omega) only [wk, tis, seval, reduceCtorEq, Nat.reduceEqDiff, rqs, hF]
  by_cases hlt : k < A.length + B.length
  · have hlt' : (k : Int) < (A.length : Int) + (B.length : Int) := by omega
    simp (disch := omega) only [wk, tis, seval, reduceCtorEq, Nat.reduceEqDiff, rqs, hF, hqa, hqb, hlt']
    refine call_by (z0) (by first | rfl | (simp only [tocvs, tocv, hF, hqa, hqb]; rfl) | (simp only [tocvs, tocv, toboxes, tobox, updH_at, Nat.reduceEqDiff, ↓reduceIte, hF, hqa, hqb]; rfl)) (by simp) ?_
    simp (disch := omega) only [wk, tis, seval, reduceCtorEq, Nat.reduceEqDiff, rqs, hF, hqa, hqb]
    refine aloop_by (fun f H => ∃ (i s7 : Nat), i ≤ k + 1 ∧ f 8 = .iv (.int .i64 i) ∧ f 6 = .iv (.int .i64 k) ∧ f 0 = .iv (.sl (rats (A.map crat))) ∧ f 1 = .iv (.sl (rats (B.map crat))) ∧ f 5 = .hs 5 st ∧ H 5 = .blk false st 46 3 (rats (((mulq A B).take k).map crat)) ∧ f 7 = .hp 7 s7 0 0 ∧ H 7 = .blk false s7 46 3 [qrow (crat (cvq (A.take i) (cfq B) k))]) (fun f H => (k + 1 - intAt f 8).toNat) ?_ ?_
    · refine ⟨0, (H 7).stamp + 1, by omega, ?_⟩
      simp (disch := omega) only [wk, tis, seval, reduceCtorEq, Nat.reduceEqDiff, rqs, hF, show crat (cvq (A.take 0) (cfq B) k) = crat 0 from rfl]
    rintro f H ⟨i, s7, hi, hF⟩
    rw [intAt_of hF.1]
    simp (disch := omega) only [wk, tis, seval, reduceCtorEq, Nat.reduceEqDiff, rqs, hF]
    by_cases hik : i ≤ k
    · have hik' : (i : Int) ≤ (k : Int) := by omega
      have es := cvq_take_succ (g := cfq B) A i k
      rw [if_pos hik] at es
      by_cases h1 : i < A.length
      · have h1' : (i : Int) < (A.length : Int) := by omega
        have e1 : (k : Int) - (i : Int) = ((k - i : Nat) : Int) := by omega
        by_cases h2 : k - i < B.length
        · have h2' : ((k - i : Nat) : Int) < (B.length : Int) := by omega
          have g1 := cratq_get h1
          have g2 := cratq_get h2
          have y1 := hA.cz (by omega) i
          have y2 := hB.cz (by omega) (k - i)
          have y3 := hz i k
          have y4 := qz_mul (cfq A i) (cfq B (k - i))
          have x := htimes_ok (crat (cfq A i)) (crat (cfq B (k - i))) (szq_crat (by omega)) (szq_crat (by omega)) (nv_crat0 _) (nv_crat0 _)
          have y := hplus_ok (crat (cvq (A.take i) (cfq B) k)) (crat (cfq A i * cfq B (k - i))) (szq_crat (by omega)) (szq_crat (by omega)) (nv_crat0 _) (nv_crat0 _)
          rw [qv_crat, qv_crat] at x y
          rw [← es] at y
          simp (disch := omega) only [wk, tis, seval, reduceCtorEq, Nat.reduceEqDiff, rqs, hF, hqa, hqb, hik', h1', e1, h2', g1, g2]
          refine ⟨tmps_by (by kernel_rfl), ?_⟩
          refine call_by (x) (by first | rfl | (simp only [tocvs, tocv, hF, hqa, hqb, g1, g2]; rfl) | (simp only [tocvs, tocv, toboxes, tobox, updH_at, Nat.reduceEqDiff, ↓reduceIte, hF, hqa, hqb, g1, g2]; rfl)) (by simp) ?_
          simp (disch := omega) only [wk, tis, seval, reduceCtorEq, Nat.reduceEqDiff, rqs, hF, hqa, hqb, g1, g2]
          refine call_by (y) (by first | rfl | (simp only [tocvs, tocv, hF, hqa, hqb, g1, g2]; rfl) | (simp only [tocvs, tocv, toboxes, tobox, updH_at, Nat.reduceEqDiff, ↓reduceIte, hF, hqa, hqb, g1, g2]; rfl)) (by simp) ?_
          simp (disch := omega) only [wk, tis, seval, reduceCtorEq, Nat.reduceEqDiff, rqs, hF, hqa, hqb, g1, g2]
          first | exact log_by (by kernel_rfl) | refine ⟨log_by (by kernel_rfl), ?_⟩
          refine ⟨⟨i + 1, s7, by omega, ?_⟩, by omega⟩
          (repeat' apply And.intro) <;> first | rfl | omega
        · have h2' : ¬ ((k - i : Nat) : Int) < (B.length : Int) := by omega
          rw [cfq_ge (q := B) (by omega), Rat.mul_zero, Rat.add_zero] at es
          simp (disch := omega) only [wk, tis, seval, reduceCtorEq, Nat.reduceEqDiff, rqs, hF, hqa, hqb, hik', h1', e1, h2']
          refine ⟨⟨i + 1, s7, by omega, ?_⟩, by omega⟩
          rw [es]
          (repeat' apply And.intro) <;> first | rfl | omega
      · have h1' : ¬ (i : Int) < (A.length : Int) := by omega
        rw [cfq_ge (q := A) (by omega), Rat.zero_mul, Rat.add_zero] at es
        simp (disch := omega) only [wk, tis, seval, reduceCtorEq, Nat.reduceEqDiff, rqs, hF, hqa, hqb, hik', h1']
        refine ⟨⟨i + 1, s7, by omega, ?_⟩, by omega⟩
        rw [es]
        (repeat' apply And.intro) <;> first | rfl | omega
    · have hik' : ¬ (i : Int) ≤ (k : Int) := by omega
      obtain rfl : i = k + 1 := by omega
      rw [cvq_take_all, ← cfq_mulq] at hF
      have hrq : (((mulq A B).take k).map crat).length = k := by rw [List.length_map, List.length_take]; omega
      have et := takeq_snoc (q := mulq A B) (i := k) (by omega)
      simp (disch := omega) only [wk, tis, seval, reduceCtorEq, Nat.reduceEqDiff, rqs, hF, hik', hrq]
      refine ⟨⟨k + 1, st + 1, by omega, ?_⟩, by omega⟩
      rw [et, List.map_append]
      (repeat' apply And.intro) <;> first | rfl | omega
  · have hlt' : ¬ (k : Int) < (A.length : Int) + (B.length : Int) := by omega
    rw [List.take_of_length_le (by omega)] at hF
    simp (disch := omega) only [wk, tis, seval, reduceCtorEq, Nat.reduceEqDiff, rqs, hF, hqa, hqb, hlt']
    refine call_by (t) (by first | rfl | (simp only [tocvs, tocv, hF]; rfl) | (simp only [tocvs, tocv, toboxes, tobox, updH_at, Nat.reduceEqDiff, ↓reduceIte, hF]; rfl)) (by simp) ?_
    simp (disch := omega) only [wk, tis, seval, reduceCtorEq, Nat.reduceEqDiff, rqs, hF]
    try rfl
theorem sameq11_self (a : List RQ) (ha : BQ (2 ^ 40) (2 ^ 40) a) : AC Tryz.prog 11 [cqw a, cqw a] none [cb true] := by
  have hl := ha.1
  refine AC.by_walk (rs := [.tmp 4]) ords Tryz.func11 (by rfl) (by rfl) (by rfl) (by rfl) (by rfl) ?_
  simp (disch := omega) only [wk, tis, seval, reduceCtorEq, Nat.reduceEqDiff, rqs]
  refine aloop_by (fun f H => ∃ (i : Nat), i ≤ a.length ∧ f 5 = .iv (.int .i64 i) ∧ f 0 = .iv (.sl (rats a)) ∧ f 1 = .iv (.sl (rats a))) (fun f H => (a.length - intAt f 5).toNat) ?_ ?_
  · refine ⟨0, by omega, ?_⟩
    simp (disch := omega) only [wk, tis, seval, reduceCtorEq, Nat.reduceEqDiff, rqs]
  rintro f H ⟨i, hi, hF⟩
  rw [intAt_of hF.1]
  simp (disch := omega) only [wk, tis, seval, reduceCtorEq, Nat.reduceEqDiff, rqs, hF]
  refine if_by (fun hlt => ?_) (fun hlt => ?_)
  · have hip : i < a.length := by omega
    have s := hsame_ok (a.getD i q0) (a.getD i q0) ((ha.get hip).mono (by omega)) ((ha.get hip).mono (by omega))
    rw [decide_eq_true rfl] at s
    simp (disch := omega) only [wk, tis, seval, reduceCtorEq, Nat.reduceEqDiff, rqs, hF]
    refine ⟨tmps_by (by kernel_rfl), ?_⟩
    refine call_by (s) (by first | rfl | (simp only [tocvs, tocv, hF]; rfl) | (simp only [tocvs, tocv, toboxes, tobox, updH_at, Nat.reduceEqDiff, ↓reduceIte, hF]; rfl)) (by simp) ?_
    simp (disch := omega) only [wk, tis, seval, reduceCtorEq, Nat.reduceEqDiff, rqs, hF]
    first | exact log_by (by kernel_rfl) | refine ⟨log_by (by kernel_rfl), ?_⟩
    refine ⟨⟨i + 1, by omega, ?_⟩, by omega⟩
    (repeat' apply And.intro) <;> first | rfl | omega
  · simp (disch := omega) only [wk, tis, seval, reduceCtorEq, Nat.reduceEqDiff, rqs, hF]
end Go.Proofs.YtenlbifnhdmnnaaGreat

namespace Go.Proofs.YtenlbifnhdmnnaaGreat
open Go Go.Proofs Go.AL
set_option linter.unusedSimpArgs false
set_option linter.unusedVariables false
end Go.Proofs.YtenlbifnhdmnnaaGreat

namespace Go.Proofs.YtenlbifnhdmnnaaGreat
open Go Go.Proofs Go.AL
set_option linter.unusedSimpArgs false
set_option linter.unusedVariables false
theorem qsc1_ok (a b : Rat) (c : RQ) (K : Nat) (ha : qz a ≤ K) (hc : SzQ K c) (h0 : nv c.2 ≠ 0) (hK : K ≤ 2 ^ 35) : AC Tryz.prog 85 [cqz a, cqz b, .box (qrow c)] none [cqz (a * qv c), ci 0] := by
  have m := qmul_ok (crat a) c (szq_crat (by omega)) (hc.mono hK) (nv_crat0 _) h0
  rw [qv_crat] at m
  refine AC.by_walk (rs := [.cell 5 46, .tmp 6]) ords Tryz.func85 (by rfl) (by rfl) (by rfl) (by rfl) (by rfl) ?_
  simp (disch := omega) only [wk, tis, seval, reduceCtorEq, Nat.reduceEqDiff, rqs, List.map_cons, List.map_nil]
  refine call_by (m) (by first | rfl | (simp only [tocvs, tocv, List.map_cons, List.map_nil]; rfl) | (simp only [tocvs, tocv, toboxes, tobox, updH_at, Nat.reduceEqDiff, ↓reduceIte, List.map_cons, List.map_nil]; rfl)) (by simp) ?_
  simp (disch := omega) only [wk, tis, seval, reduceCtorEq, Nat.reduceEqDiff, rqs, List.map_cons, List.map_nil]
  try rfl
theorem qeach1_ok (p q : List RQ) (g : Nat) (row : List IV) (F : Rat → Rat → Rat) (K : Nat) (hp : GQ (2 ^ 30) K p) (hq : GQ (2 ^ 30) K q) (hK : K ≤ 2 ^ 35) (hK1 : 1 ≤ K) (hF0 : F 0 0 = 0) (hs : ∀ a b, qz a ≤ K → qz b ≤ K → qz (F a b) ≤ 2 ^ 38)
    (hop : ∀ a b, qz a ≤ K → qz b ≤ K → AC Tryz.prog g [cqz a, cqz b, .box row] none [cqz (F a b), ci 0]) : AC Tryz.prog 84 [cqw p, cqw q, .fn g [row]] none [cqp (zipq F (qvs p) (qvs q)), ci 0] := by
  have m := qboth_ok p q (hp.mono (by omega) (by omega)) (hq.mono (by omega) (by omega))
  have hA := hp.qb.trimq
  have hB := hq.qb.trimq
  have e : cqp (zipq F (qvs p) (qvs q)) = cqp (zipq F (trimq (qvs p)) (trimq (qvs q))) := congrArg cqw (cqs_ext fun k => by rw [cfq_zipq hF0, cfq_zipq hF0, cfq_trimq, cfq_trimq])
  rw [e]
  refine AC.by_walk (rs := [.tmp 6, .tmp 7]) ords Tryz.func84 (by rfl) (by rfl) (by rfl) (by rfl) (by rfl) ?_
  simp (disch := omega) only [wk, tis, seval, reduceCtorEq, Nat.reduceEqDiff, rqs, List.map_cons, List.map_nil]
  refine call_by (m) (by first | rfl | (simp only [tocvs, tocv, List.map_cons, List.map_nil]; rfl) | (simp only [tocvs, tocv, toboxes, tobox, updH_at, Nat.reduceEqDiff, ↓reduceIte, List.map_cons, List.map_nil]; rfl)) (by simp) ?_
  simp (disch := omega) only [wk, tis, seval, reduceCtorEq, Nat.reduceEqDiff, rqs, List.map_cons, List.map_nil]
  unfold cqs
  generalize trimq (qvs p) = A at *
  generalize trimq (qvs q) = B at *
  have hAl := hA.1
  have hBl := hB.1
  have hqa : (A.map crat).length = A.length := List.length_map _
  have hqb : (B.map crat).length = B.length := List.length_map _
  have hRl := zipq_len F A B
  have hR : QB (2 ^ 40) (2 ^ 38) (zipq F A B) := .of (by omega) fun i => by rw [cfq_zipq hF0]; exact hs _ _ (hA.cz hK1 i) (hB.cz hK1 i)
  obtain ⟨n, hn⟩ : ∃ n, n = max A.length B.length := ⟨_, rfl⟩
  have hnI : max (A.length : Int) (B.length : Int) = (n : Int) := by omega
  rw [← hn] at hRl
  simp (disch := omega) only [wk, tis, seval, reduceCtorEq, Nat.reduceEqDiff, rqs, hqa, hqb, hnI]
  refine aloop_nil 11 11 46 3 (by simp (disch := omega) only [wk, tis, seval, reduceCtorEq, Nat.reduceEqDiff, rqs]) (fun f H => ∃ (i st : Nat), i ≤ n ∧ f 30 = .iv (.int .i64 i) ∧ f 29 = .iv (.int .i64 n) ∧ f 8 = .iv (.sl (rats (A.map crat))) ∧ f 9 = .iv (.sl (rats (B.map crat))) ∧ f 2 = .fn g [.ip row] ∧ f 11 = .hs 11 st ∧ H 11 = .blk false st 46 3 (rats (((zipq F A B).take i).map crat))) (fun f H => (n - intAt f 30).toNat) ?_ ?_
  · refine ⟨0, 1, by omega, ?_⟩
    simp (disch := omega) only [wk, tis, seval, reduceCtorEq, Nat.reduceEqDiff, rqs, ghostF, ghostH, List.take_zero, List.map_nil, List.map_cons, hqa, hqb, hnI]
  rintro f H ⟨i, st, hi, hF⟩
  rw [intAt_of hF.1]
  simp (disch := omega) only [wk, tis, seval, reduceCtorEq, Nat.reduceEqDiff, rqs, hF]
  refine if_by (fun hlt => ?_) (fun hlt => ?_)
  · have hq : (((zipq F A B).take i).map crat).length = i := by rw [List.length_map, List.length_take]; omega
    have c1 := qcoef_nat A i (hA.mono (by omega) (by omega))
    have c2 := qcoef_nat B i (hB.mono (by omega) (by omega))
    have o := hop (cfq A i) (cfq B i) (hA.cz hK1 i) (hB.cz hK1 i)
    simp (disch := omega) only [wk, tis, seval, reduceCtorEq, Nat.reduceEqDiff, rqs, hF, hq]
    refine call_by (c1) (by first | rfl | (simp only [tocvs, tocv, hF, hq]; rfl) | (simp only [tocvs, tocv, toboxes, tobox, updH_at, Nat.reduceEqDiff, ↓reduceIte, hF, hq]; rfl)) (by simp) ?_
    simp (disch := omega) only [wk, tis, seval, reduceCtorEq, Nat.reduceEqDiff, rqs, hF, hq]
    refine call_by (c2) (by first | rfl | (simp only [tocvs, tocv, hF, hq]; rfl) | (simp only [tocvs, tocv, toboxes, tobox, updH_at, Nat.reduceEqDiff, ↓reduceIte, hF, hq]; rfl)) (by simp) ?_
    simp (disch := omega) only [wk, tis, seval, reduceCtorEq, Nat.reduceEqDiff, rqs, hF, hq]
    refine call_by (o) (by first | rfl | (simp only [tocvs, tocv, hF, hq]; rfl) | (simp only [tocvs, tocv, toboxes, tobox, updH_at, Nat.reduceEqDiff, ↓reduceIte, hF, hq]; rfl)) (by simp) ?_
    simp (disch := omega) only [wk, tis, seval, reduceCtorEq, Nat.reduceEqDiff, rqs, hF, hq]
    have e := takeq_snoc (q := zipq F A B) (i := i) (by omega)
    rw [cfq_zipq hF0] at e
    refine ⟨⟨i + 1, st + 1, by omega, ?_⟩, by omega⟩
    rw [e, List.map_append]
    (repeat' apply And.intro) <;> first | rfl | omega
  · simp (disch := omega) only [wk, tis, seval, reduceCtorEq, Nat.reduceEqDiff, rqs, hF]
    rw [List.take_of_length_le (by omega)] at hF
    have m := qtrim_own (zipq F A B) hR
    refine call_by (m) (by first | rfl | (simp only [tocvs, tocv, hF]; rfl) | (simp only [tocvs, tocv, toboxes, tobox, updH_at, Nat.reduceEqDiff, ↓reduceIte, hF]; rfl)) (by simp) ?_
    simp (disch := omega) only [wk, tis, seval, reduceCtorEq, Nat.reduceEqDiff, rqs, hF]
theorem qscale_ok (p : List RQ) (c : RQ) (K : Nat) (hp : GQ (2 ^ 30) K p) (hc : SzQ K c) (h0 : nv c.2 ≠ 0) (hK : K ≤ 2 ^ 35) (hK1 : 1 ≤ K) : AC Tryz.prog 40 [cqw p, cqq c] none [cqp (sclq (qv c) (qvs p)), ci 0] := by
  have k := qcheck_good c ⟨Nat.le_trans hc.2.1 (by omega), hc.2.2⟩ h0
  have zc := qz_raw hc h0
  have m := qeach1_ok p [] 85 (qrow c) (fun a _ => a * qv c) K hp ⟨Nat.zero_le _, fun r hr => nomatch hr⟩ hK hK1 (Rat.zero_mul _) (fun a b ha hb => by have := qz_mul a (qv c); omega) (fun a b ha hb => qsc1_ok a b c K ha hc h0 hK)
  rw [show cqp (zipq (fun a _ => a * qv c) (qvs p) (qvs [])) = cqp (sclq (qv c) (qvs p)) from congrArg cqw (cqs_ext fun j => by rw [cfq_zipq (F := fun a _ => a * qv c) (Rat.zero_mul _), cfq_sclq])] at m
  refine AC.by_walk (rs := [.tmp 4, .tmp 5]) ords Tryz.func40 (by rfl) (by rfl) (by rfl) (by rfl) (by rfl) ?_
  simp (disch := omega) only [wk, tis, seval, reduceCtorEq, Nat.reduceEqDiff, rqs]
  refine call_by (k) (by rfl) (by simp) ?_
  simp (disch := omega) only [wk, tis, seval, reduceCtorEq, Nat.reduceEqDiff, rqs]
  refine call_by (m) (by first | rfl | (simp only [tocvs, tocv, List.map_nil]; rfl) | (simp only [tocvs, tocv, toboxes, tobox, updH_at, Nat.reduceEqDiff, ↓reduceIte, List.map_nil]; rfl)) (by simp) ?_
  simp (disch := omega) only [wk, tis, seval, reduceCtorEq, Nat.reduceEqDiff, rqs, List.map_nil]
  try rfl
end Go.Proofs.YtenlbifnhdmnnaaGreat

namespace Go.Proofs.YtenlbifnhdmnnaaGreat
open Go Go.Proofs Go.AL
set_option linter.unusedSimpArgs false
set_option linter.unusedVariables false
theorem inv_parts {q : Rat} (h : q ≠ 0) : ((q.den : Int) : Rat) / (q.num : Rat) = 1 / q := by
  have hn : q.num ≠ 0 := fun e => h (Rat.num_eq_zero.mp e)
  have h1 : (q.num : Rat) ≠ 0 := fun e => hn (Rat.intCast_eq_zero_iff.mp e)
  have h2 := natr_ne q.den_nz
  have h3 : q = (q.num : Rat) / (q.den : Rat) := by rw [← Rat.mkRat_eq_div]; exact (Rat.mkRat_self q).symm
  rw [Rat.intCast_natCast]
  conv => rhs; rw [h3]
  grind
end Go.Proofs.YtenlbifnhdmnnaaGreat

namespace Go.Proofs.YtenlbifnhdmnnaaGreat
open Go Go.Proofs Go.AL
set_option linter.unusedSimpArgs false
set_option linter.unusedVariables false
theorem hminus_ok : AC Tryz.prog 15 [ci (-1), ci 1] none [cqz (-1)] := by
  have m := hP_ok (-1) 1 (by omega) (by omega) (by omega) (by omega)
  rwa [show ((-1 : Int) : Rat) / ((1 : Nat) : Rat) = -1 by decide +kernel] at m
theorem upq_trim {c : Rat} (h : c ≠ 0) (s : Nat) : trimq (upq c s) = upq c s := by
  have := tzq_spec (q := upq c s) (n := s) (by rw [cfq_upq, if_pos rfl]; exact h) fun k hk => by rw [cfq_upq, if_neg (by omega)]
  rw [trimq, this, List.take_of_length_le (by rw [upq_len]; omega)]
theorem upq_take (c : Rat) (s i : Nat) (g : Nat → Rat) (k : Nat) : cvq ((upq c s).take i) g k = if s < i then (if s ≤ k then c * g (k - s) else 0) else 0 := by
  by_cases h : s < i
  · rw [if_pos h, List.take_of_length_le (by rw [upq_len]; omega), cvq_upq]
  · rw [if_neg h]
    have e : (upq c s).take i = List.replicate i 0 := by
      rw [upq, List.take_append_of_le_length (by rw [List.length_replicate]; omega), List.take_replicate, Nat.min_eq_left (by omega)]
    rw [e]
    clear e h
    induction i generalizing k with
    | zero => rfl
    | succ i ih =>
      rw [List.replicate_succ, cvq_cons]
      cases k with
      | zero => simp only [qshift]; grind
      | succ k => rw [qshift, ih]; grind
theorem rep_upq (c : Rat) (s : Nat) : (List.replicate s (0 : Rat)).map crat ++ [crat c] = (upq c s).map crat := by rw [upq, List.map_append]; rfl
end Go.Proofs.YtenlbifnhdmnnaaGreat

namespace Go.Proofs.YtenlbifnhdmnnaaGreat
open Go Go.Proofs Go.AL
set_option linter.unusedSimpArgs false
set_option linter.unusedVariables false
end Go.Proofs.YtenlbifnhdmnnaaGreat

namespace Go.Proofs.YtenlbifnhdmnnaaGreat
open Go Go.Proofs Go.AL
set_option linter.unusedSimpArgs false
set_option linter.unusedVariables false
theorem PQ.add_sub (f g : PQ) : f + (g - f) = g := PQ.ext fun k => by rw [PQ.c_add, PQ.c_sub]; grind
theorem pq_dn1 (A B : List Rat) : pq (dn1 A B) = pq A - pq (upq (dc A B) (A.length - B.length)) * pq B := PQ.ext fun k => by
  rw [PQ.c_sub, ← pq_mulq, pq_c, pq_c, pq_c, cfq_dn1, cfq_mul_upq]
theorem pq_dqu (A B : List Rat) (k : Nat) : pq (dqu A B (k + 1)) = pq (dqu A B k) + pq (upq (dc (dit A B k) B) ((dit A B k).length - B.length)) := PQ.ext fun j => by
  rw [PQ.c_add, pq_c, pq_c, pq_c, cfq_dqu_succ, cfq_upq]
theorem pq_dit (A B : List Rat) : ∀ k, pq A = pq (dqu A B k) * pq B + pq (dit A B k)
  | 0 => by rw [dqu, dit, pq_nil, PQ.zero_mul, PQ.zero_add]
  | k + 1 => by rw [pq_dqu, dit, pq_dn1, PQ.add_mul, PQ.add_assoc, PQ.add_sub]; exact pq_dit A B k
theorem div_unique {Q R Q' R' B : List Rat} (h : pq Q * pq B + pq R = pq Q' * pq B + pq R') (hB : tzq B ≠ 0) (hR : tzq R < tzq B) (hR' : tzq R' < tzq B) : pq Q = pq Q' ∧ pq R = pq R' := by
  have hc : ∀ k, cfq (mulq Q B) k + cfq R k = cfq (mulq Q' B) k + cfq R' k := fun k => by
    have := congrArg (fun f => PQ.c f k) h
    simp only [PQ.c_add, ← pq_mulq, pq_c] at this
    exact this
  have hE : ∀ k, cfq (mulq (addq Q (sclq (-1) Q')) B) k = cfq (addq R' (sclq (-1) R)) k := fun k => by
    have e1 : pq (mulq (addq Q (sclq (-1) Q')) B) = pq (mulq Q B) + PQ.C (-1) * pq (mulq Q' B) := by
      rw [pq_mulq, pq_addq, pq_sclq, PQ.add_mul, PQ.mul_assoc, pq_mulq, pq_mulq]
    have e2 := congrArg (fun f => PQ.c f k) e1
    simp only [PQ.c_add, PQ.C_mul_c, pq_c] at e2
    rw [e2, cfq_addq, cfq_sclq]
    have := hc k
    grind
  have hl : tzq (addq R' (sclq (-1) R)) < tzq B := by
    refine Nat.lt_of_le_of_lt (tzq_low (n := max (tzq R) (tzq R')) fun k hk => ?_) (by omega)
    rw [cfq_addq, cfq_sclq, cfq_ge_tzq R (by omega), cfq_ge_tzq R' (by omega)]
    grind
  by_cases h0 : tzq (addq Q (sclq (-1) Q')) = 0
  · have z1 := tzq_zero_iff.mp h0
    have z2 := tzq_zero_iff.mp ((tzq_eq_of_cf hE).symm.trans (tzq_mulq_zero (.inl h0)))
    refine ⟨PQ.ext fun k => ?_, PQ.ext fun k => ?_⟩
    · have := z1 k
      rw [cfq_addq, cfq_sclq] at this
      rw [pq_c, pq_c]
      grind
    · have := z2 k
      rw [cfq_addq, cfq_sclq] at this
      rw [pq_c, pq_c]
      grind
  · have h1 := tzq_mulq h0 hB
    rw [tzq_eq_of_cf hE] at h1
    omega
theorem lead_ne {B : List Rat} (tb : trimq B = B) (h0 : B.length ≠ 0) : cfq B (B.length - 1) ≠ 0 := by
  have ht := trimq_full tb
  have := cfq_tzq_pred (q := B) (by omega)
  rwa [ht] at this
theorem dit_steps {A B : List Rat} {n s : Nat} (h0 : B.length ≠ 0) (hb : cfq B (B.length - 1) ≠ 0) (hj : ∀ j, j < n → B.length ≤ (dit A B j).length) (hs : A.length + 1 ≤ s + B.length) : n ≤ s := by
  cases n with
  | zero => omega
  | succ n =>
    have h1 := dit_len h0 hb n fun j h => hj j (by omega)
    have h2 := hj n (by omega)
    omega
theorem dv_steps {A B : List Rat} {D m M N s : Nat} (hA : CB D m M A) (hC : PB m N (clr B)) (hB : QB m M B) (ta : trimq A = A) (tb : trimq B = B) (h0 : B.length ≠ 0) (hs : A.length + 1 ≤ s + B.length) (hm : m ≤ 2 ^ 28) (hK : M + s * (N + 1) ≤ 2 ^ 32) (h1 : 1 ≤ M) : ∃ n, DV A B n (M + s * (N + 1)) := by
  have hb := lead_ne tb h0
  obtain ⟨n, en, hj, _⟩ := dit_end A h0 hb
  have hn := dit_steps h0 hb hj hs
  refine ⟨n, ⟨Nat.le_trans hA.l hm, Nat.le_trans hB.1 hm, h0, hb, ta, tb, en, hj, fun k hk i => ?_, fun i => ?_, by omega, hK⟩⟩
  · obtain ⟨E, hE⟩ := dit_cb hA hC h0 hb k fun j hjk => hj j (by omega)
    have h1 := hE.qb.cz (by omega) i
    have h2 : k * (N + 1) ≤ s * (N + 1) := Nat.mul_le_mul_right _ (by omega)
    omega
  · have := hB.cz h1 i
    omega
end Go.Proofs.YtenlbifnhdmnnaaGreat

namespace Go.Proofs.YtenlbifnhdmnnaaGreat
open Go Go.Proofs Go.AL
set_option linter.unusedSimpArgs false
set_option linter.unusedVariables false
set_option maxRecDepth 100000 in
theorem galllcm_cb (l : List Nat) (K : Nat) (hM : ∀ i, (wd (lcmL (l.take i))).length ≤ K) (hl : l.length ≤ 2 ^ 30) (h0 : ∀ x ∈ l, x ≠ 0) (hK : ∀ x ∈ l, (wd x).length ≤ K) (hB : K ≤ 2 ^ 34) : AC Tryz.prog 146 [.iv (.sl (natsr (l.map wd)))] none [cl (wd (lcmL l))] := by
  have o := nof_ok 1 (by decide)
  have hml : (l.map wd).length = l.length := List.length_map _
  have e0 : wd (lcmL (l.take 0)) = wd 1 := by rw [List.take_zero]; rfl
  refine AC.by_walk (rs := [.tmp 2]) ords Tryz.func146 (by rfl) (by rfl) (by rfl) (by rfl) (by rfl) ?_
  simp (disch := omega) only [wk, tis, seval, reduceCtorEq, Nat.reduceEqDiff, rqs, natsr_len, natsr_at, natsr_snoc, natsr_app, natsr_rows, natsr_nil]
  refine call_by (o) (by rfl) (by simp) ?_
  simp (disch := omega) only [wk, tis, seval, reduceCtorEq, Nat.reduceEqDiff, rqs, natsr_len, natsr_at, natsr_snoc, natsr_app, natsr_rows, natsr_nil]
  refine aloop_by (fun f H => ∃ (i : Nat), i ≤ l.length ∧ f 9 = .iv (.int .i64 i) ∧ f 7 = .iv (.sl (natsr (l.map wd))) ∧ f 8 = .iv (.int .i64 l.length) ∧ f 3 = .iv (.sl (lims (wd (lcmL (l.take i)))))) (fun f H => (l.length - intAt f 9).toNat) ?_ ?_
  · refine ⟨0, by omega, ?_⟩
    simp (disch := omega) only [wk, tis, seval, reduceCtorEq, Nat.reduceEqDiff, rqs, natsr_len, natsr_at, natsr_snoc, natsr_app, natsr_rows, natsr_nil, e0, hml]
  rintro f H ⟨i, hi, hF⟩
  rw [intAt_of hF.1]
  simp (disch := omega) only [wk, tis, seval, reduceCtorEq, Nat.reduceEqDiff, rqs, natsr_len, natsr_at, natsr_snoc, natsr_app, natsr_rows, natsr_nil, hF]
  refine if_by (fun hlt => ?_) (fun hlt => ?_)
  · have hlt' : i < l.length := by omega
    obtain ⟨a1, a2, a3⟩ := lcmL_facts l K h0 hK i hi
    have hm : l.getD i 0 ∈ l := by rw [List.getD, List.getElem?_eq_getElem hlt', Option.getD_some]; exact List.getElem_mem _
    have hg : (l.map wd).getD i [] = wd (l.getD i 0) := by simp [List.getD, hlt']
    have hk := hK _ hm
    have h2 := hM i
    have m := glcm_ok (wd (lcmL (l.take i))) (wd (l.getD i 0)) ⟨by omega, lim_wd _⟩ ⟨by omega, lim_wd _⟩ (by rw [nv_wd]; exact a1) (by rw [nv_wd]; exact h0 _ hm)
    rw [nv_wd, nv_wd, ← lcmL_take hlt'] at m
    simp (disch := omega) only [wk, tis, seval, reduceCtorEq, Nat.reduceEqDiff, rqs, natsr_len, natsr_at, natsr_snoc, natsr_app, natsr_rows, natsr_nil, hF, hml, hg]
    refine call_by (m) (by first | rfl | (simp only [tocvs, tocv, hF, hml, hg]; rfl) | (simp only [tocvs, tocv, toboxes, tobox, updH_at, Nat.reduceEqDiff, ↓reduceIte, hF, hml, hg]; rfl)) (by simp) ?_
    simp (disch := omega) only [wk, tis, seval, reduceCtorEq, Nat.reduceEqDiff, rqs, natsr_len, natsr_at, natsr_snoc, natsr_app, natsr_rows, natsr_nil, hF, hml, hg]
    refine ⟨⟨i + 1, by omega, ?_⟩, by omega⟩
    (repeat' apply And.intro) <;> first | rfl | omega
  · simp (disch := omega) only [wk, tis, seval, reduceCtorEq, Nat.reduceEqDiff, rqs, natsr_len, natsr_at, natsr_snoc, natsr_app, natsr_rows, natsr_nil, hF]
    rw [List.take_of_length_le (by omega)]
theorem qclear_cb (p : List RQ) (D n k : Nat) (hp : GQ (2 ^ 30) (2 ^ 36) p) (hC : CB D n k (trimq (qvs p))) (hn : n ≤ 2 ^ 28) (hM : k ≤ 2 ^ 33) : AC Tryz.prog 115 [cqw p] none [cl (wd (cden (trimq (qvs p)))), cw ((clr (trimq (qvs p))).map canon), ci 0] := by
  have nm := qpnorm_ok p (hp.mono (by omega) (by omega))
  have hA := hC.qb
  refine AC.by_walk (rs := [.tmp 2, .tmp 3, .tmp 4]) ords Tryz.func115 (by rfl) (by rfl) (by rfl) (by rfl) (by rfl) ?_
  simp (disch := omega) only [wk, tis, seval, reduceCtorEq, Nat.reduceEqDiff, rqs, natsr_len, natsr_at, natsr_snoc, natsr_app, natsr_rows, natsr_nil]
  refine call_by (nm) (by rfl) (by simp) ?_
  simp (disch := omega) only [wk, tis, seval, reduceCtorEq, Nat.reduceEqDiff, rqs, natsr_len, natsr_at, natsr_snoc, natsr_app, natsr_rows, natsr_nil]
  unfold cqs
  generalize trimq (qvs p) = A at *
  have hAl := hA.1
  have hq : (A.map crat).length = A.length := List.length_map _
  have hdl := dens_len A
  have hcl := clr_len A
  simp (disch := omega) only [wk, tis, seval, reduceCtorEq, Nat.reduceEqDiff, rqs, natsr_len, natsr_at, natsr_snoc, natsr_app, natsr_rows, natsr_nil, hq]
  refine aloop_by (fun f H => ∃ (i st26 : Nat), i ≤ A.length ∧ f 29 = .iv (.int .i64 i) ∧ f 27 = .iv (.sl (rats (A.map crat))) ∧ f 28 = .iv (.int .i64 A.length) ∧ f 5 = .iv (.sl (rats (A.map crat))) ∧ f 7 = .hs 26 st26 ∧ H 26 = .blk false st26 42 1 (natsr (((dens A).take i).map wd))) (fun f H => (A.length - intAt f 29).toNat) ?_ ?_
  · refine ⟨0, 1, by omega, ?_⟩
    simp (disch := omega) only [wk, tis, seval, reduceCtorEq, Nat.reduceEqDiff, rqs, natsr_len, natsr_at, natsr_snoc, natsr_app, natsr_rows, natsr_nil, hq, List.take_zero, List.map_nil, Int.toNat_natCast, List.replicate_zero]
  rintro f H ⟨i, st26, hi, hF⟩
  rw [intAt_of hF.1]
  simp (disch := omega) only [wk, tis, seval, reduceCtorEq, Nat.reduceEqDiff, rqs, natsr_len, natsr_at, natsr_snoc, natsr_app, natsr_rows, natsr_nil, hF]
  refine if_by (fun hlt => ?_) (fun hlt => ?_)
  · have hlt' : i < A.length := by omega
    have hdq : (((dens A).take i).map wd).length = i := by rw [List.length_map, List.length_take]; omega
    have e := cratq_get hlt'
    have e2 : lims (crat (cfq A i)).2 = lims (wd (cfq A i).den) := rfl
    simp (disch := omega) only [wk, tis, seval, reduceCtorEq, Nat.reduceEqDiff, rqs, natsr_len, natsr_at, natsr_snoc, natsr_app, natsr_rows, natsr_nil, hF, hq, hdq, e, e2]
    refine ⟨⟨i + 1, st26 + 1, by omega, ?_⟩, by omega⟩
    rw [natsr_dens A hlt']
    (repeat' apply And.intro) <;> first | rfl | omega
  · have hie : i = A.length := by omega
    subst hie
    rw [List.take_of_length_le (by omega)] at hF
    have m := galllcm_cb (dens A) k (fun i => hC.lcm_len i) (by omega) dens_ne hA.dens (by omega)
    have hcd := hC.cden_len
    have hcn := cden_ne A
    simp (disch := omega) only [wk, tis, seval, reduceCtorEq, Nat.reduceEqDiff, rqs, natsr_len, natsr_at, natsr_snoc, natsr_app, natsr_rows, natsr_nil, hF, hq]
    refine call_by (m) (by first | rfl | (simp only [tocvs, tocv, hF, hq]; rfl) | (simp only [tocvs, tocv, toboxes, tobox, updH_at, Nat.reduceEqDiff, ↓reduceIte, hF, hq]; rfl)) (by simp) ?_
    simp (disch := omega) only [wk, tis, seval, reduceCtorEq, Nat.reduceEqDiff, rqs, natsr_len, natsr_at, natsr_snoc, natsr_app, natsr_rows, natsr_nil, hF, hq]
    rw [show lcmL (dens A) = cden A from rfl]
    refine aloop_nil 11 11 44 2 (by simp (disch := omega) only [wk, tis, seval, reduceCtorEq, Nat.reduceEqDiff, rqs, natsr_len, natsr_at, natsr_snoc, natsr_app, natsr_rows, natsr_nil]) (fun f H => ∃ (i st : Nat), i ≤ A.length ∧ f 43 = .iv (.int .i64 i) ∧ f 41 = .iv (.sl (rats (A.map crat))) ∧ f 42 = .iv (.int .i64 A.length) ∧ f 10 = .iv (.sl (lims (wd (cden A)))) ∧ f 11 = .hs 11 st ∧ H 11 = .blk false st 44 2 (raws (((clr A).take i).map canon))) (fun f H => (A.length - intAt f 43).toNat) ?_ ?_
    · refine ⟨0, (H 11).stamp + 1, by omega, ?_⟩
      simp (disch := omega) only [wk, tis, seval, reduceCtorEq, Nat.reduceEqDiff, rqs, natsr_len, natsr_at, natsr_snoc, natsr_app, natsr_rows, natsr_nil, ghostF, ghostH, hF, hq, List.take_zero, List.map_nil]
    rintro f H ⟨i, st, hi, hF⟩
    rw [intAt_of hF.1]
    simp (disch := omega) only [wk, tis, seval, reduceCtorEq, Nat.reduceEqDiff, rqs, natsr_len, natsr_at, natsr_snoc, natsr_app, natsr_rows, natsr_nil, hF]
    refine if_by (fun hlt => ?_) (fun hlt => ?_)
    · have hlt' : i < A.length := by omega
      have hcq : (((clr A).take i).map canon).length = i := by rw [List.length_map, List.length_take]; omega
      have e := cratq_get hlt'
      have e2 : lims (crat (cfq A i)).2 = lims (wd (cfq A i).den) := rfl
      have e3 : prow (crat (cfq A i)).1 = prow (canon (cfq A i).num) := rfl
      have hc : qz (cfq A i) ≤ k := by rw [cfq_lt hlt']; exact hA.2 _ (List.getElem_mem hlt')
      have hc2 := qz_parts (cfq A i)
      have n1 := znat_ok false (cden A) (by omega)
      have n2 := znat_ok false (cfq A i).den (by omega)
      rw [sgf] at n1 n2
      have hdv : ((cfq A i).den : Int) ∣ (cden A : Int) := Int.natCast_dvd_natCast.mpr (cden_dvd hlt')
      have x := zexact_ok (canon (cden A : Int)) (canon ((cfq A i).den : Int)) ((sz_canon _).mono (by rw [zl_nat]; omega)) ((sz_canon _).mono (by rw [zl_nat]; omega)) (by rw [iv_canon]; have := (cfq A i).den_nz; omega) (by rw [iv_canon, iv_canon]; exact hdv)
      rw [iv_canon, iv_canon] at x
      have zd := zl_div hdv
      rw [zl_nat] at zd
      have w := zmul_ok (canon (cfq A i).num) (canon ((cden A : Int) / ((cfq A i).den : Int))) ((sz_canon _).mono (by omega)) ((sz_canon _).mono (by omega))
      rw [iv_canon, iv_canon, ← clr_get hlt'] at w
      simp (disch := omega) only [wk, tis, seval, reduceCtorEq, Nat.reduceEqDiff, rqs, natsr_len, natsr_at, natsr_snoc, natsr_app, natsr_rows, natsr_nil, hF, hq, hcq, e, e2, e3]
      refine ⟨tmps_by (by kernel_rfl), ?_⟩
      refine call_by (n1) (by first | rfl | (simp only [tocvs, tocv, hF, hq, hcq, e, e2, e3]; rfl) | (simp only [tocvs, tocv, toboxes, tobox, updH_at, Nat.reduceEqDiff, ↓reduceIte, hF, hq, hcq, e, e2, e3]; rfl)) (by simp) ?_
      simp (disch := omega) only [wk, tis, seval, reduceCtorEq, Nat.reduceEqDiff, rqs, natsr_len, natsr_at, natsr_snoc, natsr_app, natsr_rows, natsr_nil, hF, hq, hcq, e, e2, e3]
      refine call_by (n2) (by first | rfl | (simp only [tocvs, tocv, hF, hq, hcq, e, e2, e3]; rfl) | (simp only [tocvs, tocv, toboxes, tobox, updH_at, Nat.reduceEqDiff, ↓reduceIte, hF, hq, hcq, e, e2, e3]; rfl)) (by simp) ?_
      simp (disch := omega) only [wk, tis, seval, reduceCtorEq, Nat.reduceEqDiff, rqs, natsr_len, natsr_at, natsr_snoc, natsr_app, natsr_rows, natsr_nil, hF, hq, hcq, e, e2, e3]
      refine call_by (x) (by first | rfl | (simp only [tocvs, tocv, hF, hq, hcq, e, e2, e3]; rfl) | (simp only [tocvs, tocv, toboxes, tobox, updH_at, Nat.reduceEqDiff, ↓reduceIte, hF, hq, hcq, e, e2, e3]; rfl)) (by simp) ?_
      simp (disch := omega) only [wk, tis, seval, reduceCtorEq, Nat.reduceEqDiff, rqs, natsr_len, natsr_at, natsr_snoc, natsr_app, natsr_rows, natsr_nil, hF, hq, hcq, e, e2, e3]
      first | exact log_by (by kernel_rfl) | refine ⟨log_by (by kernel_rfl), ?_⟩
      refine call_by (w) (by first | rfl | (simp only [tocvs, tocv, hF, hq, hcq, e, e2, e3]; rfl) | (simp only [tocvs, tocv, toboxes, tobox, updH_at, Nat.reduceEqDiff, ↓reduceIte, hF, hq, hcq, e, e2, e3]; rfl)) (by simp) ?_
      simp (disch := omega) only [wk, tis, seval, reduceCtorEq, Nat.reduceEqDiff, rqs, natsr_len, natsr_at, natsr_snoc, natsr_app, natsr_rows, natsr_nil, hF, hq, hcq, e, e2, e3]
      have et := takez_snoc (q := clr A) (i := i) (by omega)
      refine ⟨⟨i + 1, st + 1, by omega, ?_⟩, by omega⟩
      rw [et, List.map_append]
      (repeat' apply And.intro) <;> first | rfl | omega
    · have hie : i = A.length := by omega
      subst hie
      rw [List.take_of_length_le (by omega)] at hF
      simp (disch := omega) only [wk, tis, seval, reduceCtorEq, Nat.reduceEqDiff, rqs, natsr_len, natsr_at, natsr_snoc, natsr_app, natsr_rows, natsr_nil, hF]
      try rfl
theorem qpmul_cb (p q : List RQ) (D E n k : Nat) (hp : GQ (2 ^ 30) (2 ^ 36) p) (hq : GQ (2 ^ 30) (2 ^ 36) q) (hCA : CB D n k (trimq (qvs p))) (hCB : CB E n k (trimq (qvs q))) (hn : n ≤ 2 ^ 28) (hM : k ≤ 2 ^ 33) (hk : 1 ≤ k) : AC Tryz.prog 75 [cqw p, cqw q] none [cqp (mulq (qvs p) (qvs q)), ci 0] := by
  have m := qboth_ok p q (hp.mono (by omega) (by omega)) (hq.mono (by omega) (by omega))
  have hA := hCA.qb
  have hB := hCB.qb
  have e : cqp (mulq (qvs p) (qvs q)) = cqp (mulq (trimq (qvs p)) (trimq (qvs q))) := congrArg cqw (cqs_ext fun k => (mulq_trim _ _ k).symm)
  have tA := trimq_trimq (qvs p)
  have tB := trimq_trimq (qvs q)
  rw [e]
  refine AC.by_walk (rs := [.tmp 4, .tmp 5]) ords Tryz.func75 (by rfl) (by rfl) (by rfl) (by rfl) (by rfl) ?_
  simp (disch := omega) only [wk, tis, seval, reduceCtorEq, Nat.reduceEqDiff, rqs, natsr_len, natsr_at, natsr_snoc, natsr_app, natsr_rows, natsr_nil]
  refine call_by (m) (by rfl) (by simp) ?_
  simp (disch := omega) only [wk, tis, seval, reduceCtorEq, Nat.reduceEqDiff, rqs, natsr_len, natsr_at, natsr_snoc, natsr_app, natsr_rows, natsr_nil]
  unfold cqs
  generalize trimq (qvs p) = A at *
  generalize trimq (qvs q) = B at *
  have hqa : (A.map crat).length = A.length := List.length_map _
  have hqb : (B.map crat).length = B.length := List.length_map _
  by_cases ha : A.length = 0
  · have ha' : ((A.map crat).length : Int) = 0 := by omega
    have hn := mulq_nil (A := A) (B := B) (.inl (by rw [tA]; exact List.length_eq_zero_iff.mp ha))
    rw [show cqp (mulq A B) = cqw [] from congrArg cqw hn]
    simp (disch := omega) only [wk, tis, seval, reduceCtorEq, Nat.reduceEqDiff, rqs, natsr_len, natsr_at, natsr_snoc, natsr_app, natsr_rows, natsr_nil, ha']
    try rfl
  have ha' : ¬ ((A.map crat).length : Int) = 0 := by omega
  by_cases hb : B.length = 0
  · have hb' : ((B.map crat).length : Int) = 0 := by omega
    have hn := mulq_nil (A := A) (B := B) (.inr (by rw [tB]; exact List.length_eq_zero_iff.mp hb))
    rw [show cqp (mulq A B) = cqw [] from congrArg cqw hn]
    simp (disch := omega) only [wk, tis, seval, reduceCtorEq, Nat.reduceEqDiff, rqs, natsr_len, natsr_at, natsr_snoc, natsr_app, natsr_rows, natsr_nil, ha', hb']
    try rfl
  have hb' : ¬ ((B.map crat).length : Int) = 0 := by omega
  have c1 := qclear_cb (A.map crat) D n k ((hA.mono (by omega) (by omega)).gq) (by rw [qvs_map, tA]; exact hCA) hn hM
  have c2 := qclear_cb (B.map crat) E n k ((hB.mono (by omega) (by omega)).gq) (by rw [qvs_map, tB]; exact hCB) hn hM
  rw [qvs_map, tA] at c1
  rw [qvs_map, tB] at c2
  have pA := hCA.clr_pb.mono (n' := 2 ^ 30) (k' := 2 ^ 35) (by omega) (by omega)
  have pB := hCB.clr_pb.mono (n' := 2 ^ 30) (k' := 2 ^ 35) (by omega) (by omega)
  have z := pmul_ok ((clr A).map canon) ((clr B).map canon) (RP.canon pA) (RP.canon pB)
  rw [pv_canon, pv_canon] at z
  have l1 := hCA.cden_len
  have l2 := hCB.cden_len
  have pm := (pA.pmul pB (by decide)).trimz
  have o := qover_ok (trimz (pmul (clr A) (clr B))) (cden A) (cden B) (pm.mono (by omega) (by omega)) (by omega) (by omega) (cden_ne A) (cden_ne B)
  have ee : cqs (divl (trimz (pmul (clr A) (clr B))) ((cden A * cden B : Nat) : Int)) = cqs (mulq A B) := cqs_ext (cfq_clear_mul A B)
  rw [show cqp (divl (trimz (pmul (clr A) (clr B))) ((cden A * cden B : Nat) : Int)) = cqw (cqs (mulq A B)) from congrArg cqw ee] at o
  simp (disch := omega) only [wk, tis, seval, reduceCtorEq, Nat.reduceEqDiff, rqs, natsr_len, natsr_at, natsr_snoc, natsr_app, natsr_rows, natsr_nil, ha', hb']
  refine call_by (c1) (by rfl) (by simp) ?_
  simp (disch := omega) only [wk, tis, seval, reduceCtorEq, Nat.reduceEqDiff, rqs, natsr_len, natsr_at, natsr_snoc, natsr_app, natsr_rows, natsr_nil]
  refine call_by (c2) (by rfl) (by simp) ?_
  simp (disch := omega) only [wk, tis, seval, reduceCtorEq, Nat.reduceEqDiff, rqs, natsr_len, natsr_at, natsr_snoc, natsr_app, natsr_rows, natsr_nil]
  refine call_by (z) (by rfl) (by simp) ?_
  simp (disch := omega) only [wk, tis, seval, reduceCtorEq, Nat.reduceEqDiff, rqs, natsr_len, natsr_at, natsr_snoc, natsr_app, natsr_rows, natsr_nil]
  refine call_by (o) (by rfl) (by simp) ?_
  simp (disch := omega) only [wk, tis, seval, reduceCtorEq, Nat.reduceEqDiff, rqs, natsr_len, natsr_at, natsr_snoc, natsr_app, natsr_rows, natsr_nil]
  try rfl
end Go.Proofs.YtenlbifnhdmnnaaGreat

namespace Go.Proofs.YtenlbifnhdmnnaaGreat
open Go Go.Proofs Go.AL
set_option linter.unusedSimpArgs false
set_option linter.unusedVariables false
theorem overq_ok (p : List RI) (h : RP (2 ^ 40) (2 ^ 37) p) : AC Tryz.prog 19 [cw p] none [cqp (qp (pv p))] := by
  have hl := h.1
  have hql : (qp (pv p)).length = p.length := by rw [qp_len, pv_len]
  have hX : QB (2 ^ 40) (2 ^ 38) (qp (pv p)) := .of (by omega) fun k => by
    rw [cfq_qp]
    have h1 := qz_int (cf (pv p) k)
    have h2 := h.pv.cf k
    omega
  have n := nq_ok ((qp (pv p)).map crat) hX.gq
  rw [qvs_map] at n
  refine AC.by_walk (rs := [.tmp 2]) ords Tryz.func19 (by rfl) (by rfl) (by rfl) (by rfl) (by rfl) ?_
  simp (disch := omega) only [wk, tis, seval, reduceCtorEq, Nat.reduceEqDiff, rqs]
  refine aloop_nil 3 3 46 3 (by simp (disch := omega) only [wk, tis, seval, reduceCtorEq, Nat.reduceEqDiff, rqs]) (fun f H => ∃ (i st : Nat), i ≤ p.length ∧ f 4 = .iv (.int .i64 i) ∧ f 0 = .iv (.sl (raws p)) ∧ f 3 = .hs 3 st ∧ H 3 = .blk false st 46 3 (rats (((qp (pv p)).take i).map crat))) (fun f H => (p.length - intAt f 4).toNat) ?_ ?_
  · refine ⟨0, 1, by omega, ?_⟩
    simp (disch := omega) only [wk, tis, seval, reduceCtorEq, Nat.reduceEqDiff, rqs, ghostF, ghostH, List.take_zero, List.map_nil]
  rintro f H ⟨i, st, hi, hF⟩
  rw [intAt_of hF.1]
  simp (disch := omega) only [wk, tis, seval, reduceCtorEq, Nat.reduceEqDiff, rqs, hF]
  by_cases hlt : i < p.length
  · have hlt' : (i : Int) < (p.length : Int) := by omega
    have hrq : (((qp (pv p)).take i).map crat).length = i := by rw [List.length_map, List.length_take]; omega
    have et := takeq_snoc (q := qp (pv p)) (i := i) (by omega)
    have z := hZ_ok (p.getD i (false, [])) ((h.get i).mono (by omega))
    rw [← cf_pv, ← cfq_qp] at z
    simp (disch := omega) only [wk, tis, seval, reduceCtorEq, Nat.reduceEqDiff, rqs, hF, hlt', hrq]
    refine call_by (z) (by first | rfl | (simp only [tocvs, tocv, hF, hlt', hrq]; rfl) | (simp only [tocvs, tocv, toboxes, tobox, updH_at, Nat.reduceEqDiff, ↓reduceIte, hF, hlt', hrq]; rfl)) (by simp) ?_
    simp (disch := omega) only [wk, tis, seval, reduceCtorEq, Nat.reduceEqDiff, rqs, hF, hlt', hrq]
    refine ⟨⟨i + 1, st + 1, by omega, ?_⟩, by omega⟩
    rw [et, List.map_append]
    (repeat' apply And.intro) <;> first | rfl | omega
  · have hlt' : ¬ (i : Int) < (p.length : Int) := by omega
    rw [List.take_of_length_le (by omega)] at hF
    simp (disch := omega) only [wk, tis, seval, reduceCtorEq, Nat.reduceEqDiff, rqs, hF, hlt']
    refine call_by (n) (by first | rfl | (simp only [tocvs, tocv, hF]; rfl) | (simp only [tocvs, tocv, toboxes, tobox, updH_at, Nat.reduceEqDiff, ↓reduceIte, hF]; rfl)) (by simp) ?_
    simp (disch := omega) only [wk, tis, seval, reduceCtorEq, Nat.reduceEqDiff, rqs, hF]
    try rfl
theorem lessq_ok (A B : List Rat) (hA : QB (2 ^ 30) (2 ^ 33) A) (hB : QB (2 ^ 30) (2 ^ 33) B) : AC Tryz.prog 18 [cqw (A.map crat), cqw (B.map crat)] none [cqp (addq A (trimq (sclq (-1) B)))] := by
  have b := byq_ok B (crat (-1)) (2 ^ 33) hB (szq_crat (by rw [qz_neg, qz_one]; omega)) (nv_crat0 _) (by omega) (by omega)
  rw [qv_crat] at b
  have hsl : (sclq (-1) B).length = B.length := by simp [sclq]
  have hBl := hB.1
  have hS : QB (2 ^ 30) (2 ^ 33) (sclq (-1) B) := .of (by omega) fun k => by
    rw [cfq_sclq, show cfq B k * -1 = -cfq B k by grind, qz_neg]
    exact hB.cz (by omega) k
  have p := plusq_ok A (trimq (sclq (-1) B)) hA hS.trimq
  refine AC.by_walk (rs := [.tmp 4]) ords Tryz.func18 (by rfl) (by rfl) (by rfl) (by rfl) (by rfl) ?_
  simp (disch := omega) only [wk, tis, seval, reduceCtorEq, Nat.reduceEqDiff, rqs]
  refine call_by (hminus_ok) (by rfl) (by simp) ?_
  simp (disch := omega) only [wk, tis, seval, reduceCtorEq, Nat.reduceEqDiff, rqs]
  refine call_by (b) (by rfl) (by simp) ?_
  simp (disch := omega) only [wk, tis, seval, reduceCtorEq, Nat.reduceEqDiff, rqs]
  refine call_by (p) (by rfl) (by simp) ?_
  simp (disch := omega) only [wk, tis, seval, reduceCtorEq, Nat.reduceEqDiff, rqs]
  try rfl
set_option maxHeartbeats 1000000 in
theorem divideq_ok (p r : List RQ) (hp : GQ (2 ^ 30) (2 ^ 30) p) (hr : GQ (2 ^ 30) (2 ^ 30) r) (n K : Nat) (v : DV (trimq (qvs p)) (trimq (qvs r)) n K) (hKK : K ≤ 2 ^ 30) : AC Tryz.prog 17 [cqw p, cqw r] none [cqp (dqu (trimq (qvs p)) (trimq (qvs r)) n), cqw ((dit (trimq (qvs p)) (trimq (qvs r)) n).map crat)] := by
  have m := nq_ok p (hp.mono (by omega) (by omega))
  have m2 := nq_ok r (hr.mono (by omega) (by omega))
  have z0 := hP_ok 0 1 (by omega) (by omega) (by omega) (by omega)
  rw [show ((0 : Int) : Rat) / ((1 : Nat) : Rat) = 0 by decide +kernel] at z0
  refine AC.by_walk (rs := [.tmp 4, .tmp 5]) ords Tryz.func17 (by rfl) (by rfl) (by rfl) (by rfl) (by rfl) ?_
  simp (disch := omega) only [wk, tis, seval, reduceCtorEq, Nat.reduceEqDiff, rqs]
  refine call_by (m) (by rfl) (by simp) ?_
  simp (disch := omega) only [wk, tis, seval, reduceCtorEq, Nat.reduceEqDiff, rqs]
  refine call_by (m2) (by rfl) (by simp) ?_
  simp (disch := omega) only [wk, tis, seval, reduceCtorEq, Nat.reduceEqDiff, rqs]
  unfold cqs
  generalize trimq (qvs p) = A at *
  generalize trimq (qvs r) = B at *
  obtain ⟨la, lb, h0, hb, ta, tb, en, hj, za, zb, k1, k2⟩ := v
  have hqb : (B.map crat).length = B.length := List.length_map _
  refine aloop_w (.iv 6 15 1 false 46 3 [] (by simp (disch := omega) only [wk, tis, seval, reduceCtorEq, Nat.reduceEqDiff, rqs]) (by simp (disch := omega) only [wk, tis, seval, reduceCtorEq, Nat.reduceEqDiff, rqs]) (.refl _ _)) (fun f H => ∃ k : Nat, k ≤ n ∧ f 0 = .iv (.sl (rats ((dit A B k).map crat))) ∧ f 1 = .iv (.sl (rats (B.map crat))) ∧ f 6 = .iv (.sl (rats (cqs (dqu A B k))))) (fun f H => match f 0 with | .iv (.sl l) => l.length | _ => 0) ?_ ?_
  · exact ⟨0, Nat.zero_le _, by simp (disch := omega) only [wk, tis, seval, reduceCtorEq, Nat.reduceEqDiff, rqs] <;> rfl, by simp (disch := omega) only [wk, tis, seval, reduceCtorEq, Nat.reduceEqDiff, rqs], by simp (disch := omega) only [wk, tis, seval, reduceCtorEq, Nat.reduceEqDiff, rqs]; rfl⟩
  rintro f H ⟨k, hk, g0, g1, g6⟩
  have hql : ((dit A B k).map crat).length = (dit A B k).length := List.length_map _
  have hmu : (match f 0 with | .iv (.sl l) => l.length | _ => 0) = (dit A B k).length := by rw [g0]; simp only []; rw [rats_length, hql]
  rw [hmu]
  by_cases hge : B.length ≤ (dit A B k).length
  · have hkn : k < n := Nat.lt_of_le_of_ne hk fun e => by rw [e] at hge; omega
    have hl1 := dit_len h0 hb k fun j hjk => hj j (by omega)
    have ll := dqu_len h0 hb k fun j hjk => hj j (by omega)
    have hdn := dn1_len h0 hb hge
    have zx := za k hk
    have zq := dqu_size h0 hb za zb k1 k hk fun j hjk => hj j (by omega)
    have hdit : dit A B (k + 1) = dn1 (dit A B k) B := rfl
    have htx := dit_trim (B := B) ta k
    have hdq : dqu A B (k + 1) = zipq (fma 1) (dqu A B k) (upq (dc (dit A B k) B) ((dit A B k).length - B.length)) := rfl
    generalize hQ' : dqu A B (k + 1) = Q' at *
    generalize hXX : dit A B k = X at *
    generalize dqu A B k = Q at *
    obtain ⟨s, hs⟩ : ∃ s, s = X.length - B.length := ⟨_, rfl⟩
    rw [← hs] at hdq
    have zc := qz_div (cfq X (X.length - 1)) (cfq B (B.length - 1))
    have zc1 := zx (X.length - 1)
    have zc2 := zb (B.length - 1)
    have mq := hover_ok (crat (cfq X (X.length - 1))) (crat (cfq B (B.length - 1))) (szq_crat (by omega)) (szq_crat (by omega)) (nv_crat0 _) (nv_crat0 _) (by rw [iv_crat]; exact fun e => hb (Rat.num_eq_zero.mp e))
    rw [qv_crat, qv_crat, show cfq X (X.length - 1) / cfq B (B.length - 1) = dc X B from rfl] at mq
    rw [show cfq X (X.length - 1) / cfq B (B.length - 1) = dc X B from rfl] at zc
    have hc0 : dc X B ≠ 0 := by
      have ht := trimq_full htx
      have h1 := cfq_tzq_pred (q := X) (by omega)
      rw [ht] at h1
      intro e
      have h2 := Rat.div_mul_cancel (a := cfq X (X.length - 1)) hb
      rw [show cfq X (X.length - 1) / cfq B (B.length - 1) = dc X B from rfl, e, Rat.zero_mul] at h2
      exact h1 h2.symm
    have hU : QB (2 ^ 30) (2 * K) (upq (dc X B) s) := .of (by rw [upq_len]; omega) fun i => by
      rw [cfq_upq]
      split
      · omega
      · rw [qz_zero]; omega
    have hQB : QB (2 ^ 30) (2 * K) Q := .of (by omega) fun i => by have := zq i; omega
    have hXB : QB (2 ^ 30) K X := .of (by omega) zx
    have hBB : QB (2 ^ 30) K B := .of (by omega) zb
    have p1 := plusq_ok (trimq Q) (upq (dc X B) s) (hQB.trimq.mono (Nat.le_refl _) (by omega)) (hU.mono (Nat.le_refl _) (by omega))
    rw [show cqp (addq (trimq Q) (upq (dc X B) s)) = cqw (cqs Q') from congrArg cqw (cqs_ext fun j => by rw [hdq, cfq_zipq (fma_zero _), cfq_addq, cfq_trimq]; unfold fma; grind), show cqw ((trimq Q).map crat) = cqw (cqs Q) from rfl] at p1
    have hzc : ∀ k, qz (dc X B * cfq B k) ≤ 3 * K := fun k => by
      have h1 := qz_mul (dc X B) (cfq B k)
      have h2 := zb k
      omega
    have tt := timesq_ok (upq (dc X B) s) B (hU.mono (Nat.le_refl _) (by omega)) (hBB.mono (Nat.le_refl _) (by omega)) (by
      intro i k
      rw [upq_take]
      have := hzc (k - s)
      split
      · split
        · omega
        · rw [qz_zero]; omega
      · rw [qz_zero]; omega)
    have hMB : QB (2 ^ 30) (4 * K) (mulq (upq (dc X B) s) B) := .of (by rw [mulq_len, upq_len]; omega) fun i => by
      rw [cfq_mul_upq]
      have := hzc (i - s)
      split
      · omega
      · rw [qz_zero]; omega
    have p2 := lessq_ok X (trimq (mulq (upq (dc X B) s) B)) (hXB.mono (Nat.le_refl _) (by omega)) (hMB.trimq.mono (Nat.le_refl _) (by omega))
    rw [show cqp (addq X (trimq (sclq (-1) (trimq (mulq (upq (dc X B) s) B))))) = cqw ((dn1 X B).map crat) from congrArg cqw (by
      rw [cqs]
      congr 1
      rw [dn1, ← hs]
      exact trimq_ext fun j => by rw [cfq_zipq (fma_zero _), cfq_addq, cfq_trimq, cfq_sclq, cfq_trimq]; unfold fma; grind), show cqw ((trimq (mulq (upq (dc X B) s) B)).map crat) = cqp (mulq (upq (dc X B) s) B) from rfl] at p2
    have hge' : (B.length : Int) ≤ (X.length : Int) := by omega
    have e1 : (X.length : Int) - 1 = ((X.length - 1 : Nat) : Int) := by omega
    have e2 : (B.length : Int) - 1 = ((B.length - 1 : Nat) : Int) := by omega
    have e3 : (X.length : Int) - (B.length : Int) = (s : Int) := by omega
    have c1 := cratq_get (q := X) (i := X.length - 1) (by omega)
    have c2 := cratq_get (q := B) (i := B.length - 1) (by omega)
    simp (disch := omega) only [wk, tis, seval, reduceCtorEq, Nat.reduceEqDiff, rqs, g0, g1, g6, hql, hqb, hge', e1, e2, e3, c1, c2]
    refine ⟨tmps_by (by kernel_rfl), ?_⟩
    refine call_by (mq) (by first | rfl | (simp only [tocvs, tocv, g0, g1, g6, hql, hqb, hge', e1, e2, e3, c1, c2]; rfl) | (simp only [tocvs, tocv, toboxes, tobox, updH_at, Nat.reduceEqDiff, ↓reduceIte, g0, g1, g6, hql, hqb, hge', e1, e2, e3, c1, c2]; rfl)) (by simp) ?_
    simp (disch := omega) only [wk, tis, seval, reduceCtorEq, Nat.reduceEqDiff, rqs, g0, g1, g6, hql, hqb, hge', e1, e2, e3, c1, c2]
    first | exact log_by (by kernel_rfl) | refine ⟨log_by (by kernel_rfl), ?_⟩
    refine aloop_by (fun f H => ∃ (i st sc : Nat), i ≤ s ∧ f 9 = .iv (.int .i64 i) ∧ f 0 = .iv (.sl (rats (X.map crat))) ∧ f 1 = .iv (.sl (rats (B.map crat))) ∧ f 6 = .iv (.sl (rats (cqs Q))) ∧ f 7 = .hp 7 sc 0 0 ∧ H 7 = .blk false sc 46 3 [qrow (crat (dc X B))] ∧ f 8 = .hs 34 st ∧ H 34 = .blk false st 46 3 (rats ((List.replicate i (0 : Rat)).map crat))) (fun f H => (s - intAt f 9).toNat) ?_ ?_
    · refine ⟨0, (H 34).stamp + 1, (H 7).stamp + 1, by omega, ?_⟩
      simp (disch := omega) only [wk, tis, seval, reduceCtorEq, Nat.reduceEqDiff, rqs, g0, g1, g6, hql, hqb, e3, List.replicate_zero, List.map_nil]
    rintro f H ⟨i, st, sc, hi, hF⟩
    rw [intAt_of hF.1]
    simp (disch := omega) only [wk, tis, seval, reduceCtorEq, Nat.reduceEqDiff, rqs, hF]
    have hrq : ((List.replicate i (0 : Rat)).map crat).length = i := by simp
    have hXl : (X.map crat).length = X.length := List.length_map _
    by_cases hlt' : i < s
    · have hlt : (i : Int) < (s : Int) := by omega
      simp (disch := omega) only [wk, tis, seval, reduceCtorEq, Nat.reduceEqDiff, rqs, hF, hrq, hXl, hqb, e3, hlt]
      refine call_by (z0) (by first | rfl | (simp only [tocvs, tocv, hF, hrq]; rfl) | (simp only [tocvs, tocv, toboxes, tobox, updH_at, Nat.reduceEqDiff, ↓reduceIte, hF, hrq]; rfl)) (by simp) ?_
      simp (disch := omega) only [wk, tis, seval, reduceCtorEq, Nat.reduceEqDiff, rqs, hF, hrq]
      refine ⟨⟨i + 1, st + 1, sc, by omega, ?_⟩, by omega⟩
      rw [List.replicate_succ', List.map_append]
      (repeat' apply And.intro) <;> first | rfl | omega
    · have hlt : ¬ (i : Int) < (s : Int) := by omega
      obtain rfl : i = s := by omega
      have hup := rep_upq (dc X B) i
      simp (disch := omega) only [wk, tis, seval, reduceCtorEq, Nat.reduceEqDiff, rqs, hF, hrq, hXl, hqb, e3, hlt, hup]
      refine ⟨tmps_by (by kernel_rfl), ?_⟩
      first | exact log_by (by kernel_rfl) | refine ⟨log_by (by kernel_rfl), ?_⟩
      refine call_by (p1) (by first | rfl | (simp only [tocvs, tocv, hF, hrq, hup]; rfl) | (simp only [tocvs, tocv, toboxes, tobox, updH_at, Nat.reduceEqDiff, ↓reduceIte, hF, hrq, hup]; rfl)) (by simp) ?_
      simp (disch := omega) only [wk, tis, seval, reduceCtorEq, Nat.reduceEqDiff, rqs, hF, hrq, hup]
      refine call_by (tt) (by first | rfl | (simp only [tocvs, tocv, hF, hrq, hup]; rfl) | (simp only [tocvs, tocv, toboxes, tobox, updH_at, Nat.reduceEqDiff, ↓reduceIte, hF, hrq, hup]; rfl)) (by simp) ?_
      simp (disch := omega) only [wk, tis, seval, reduceCtorEq, Nat.reduceEqDiff, rqs, hF, hrq, hup]
      refine call_by (p2) (by first | rfl | (simp only [tocvs, tocv, hF, hrq, hup]; rfl) | (simp only [tocvs, tocv, toboxes, tobox, updH_at, Nat.reduceEqDiff, ↓reduceIte, hF, hrq, hup]; rfl)) (by simp) ?_
      simp (disch := omega) only [wk, tis, seval, reduceCtorEq, Nat.reduceEqDiff, rqs, hF, hrq, hup]
      refine ⟨⟨k + 1, hkn, ?_⟩, ?_⟩
      · rw [hdit, hQ']
        (repeat' apply And.intro) <;> first | rfl | omega
      · rw [List.length_map]
        exact hdn
  · obtain rfl : k = n := by
      rcases Nat.lt_or_ge k n with h | h
      · exact absurd (hj k h) hge
      · omega
    have hge' : ¬ (B.length : Int) ≤ ((dit A B k).length : Int) := by omega
    simp (disch := omega) only [wk, tis, seval, reduceCtorEq, Nat.reduceEqDiff, rqs, g0, g1, g6, hql, hqb, hge']
    try rfl
end Go.Proofs.YtenlbifnhdmnnaaGreat

namespace Go.Proofs.YtenlbifnhdmnnaaGreat
open Go Go.Proofs Go.AL
set_option linter.unusedSimpArgs false
set_option linter.unusedVariables false
theorem pover_bad (p : List RI) (c : RI) (hp : RP (2 ^ 30) (2 ^ 35) p) (hc : Sz (2 ^ 35) c) (h0 : iv c ≠ 0) (hb : ¬ ∀ k, iv c ∣ cf (pv p) k) : AC Tryz.prog 62 [cw p, cr c] none [cw [], ci 4] := by
  refine AC.by_walk (rs := [.tmp 4, .tmp 5]) ords Tryz.func62 (by rfl) (by rfl) (by rfl) (by rfl) (by rfl) ?_
  have hl := hp.1
  have hs0 : (iv c).sign ≠ 0 := fun h => h0 (Int.sign_eq_zero_iff_zero.mp h)
  simp (disch := omega) only [wk, tis, seval, reduceCtorEq, Nat.reduceEqDiff, cpoly_len]
  refine call_by ((zsign_ok c (hc.mono (by omega)))) (by rfl) (by simp) ?_
  simp (disch := omega) only [wk, tis, seval, reduceCtorEq, Nat.reduceEqDiff, cpoly_len]
  simp (disch := omega) only [wk, tis, seval, reduceCtorEq, Nat.reduceEqDiff, cpoly_len, hs0]
  refine aloop_by (fun f H => ∃ (i st st3 : Nat) (out : List RI), i ≤ p.length ∧ out.length = p.length ∧ (∀ k, k < i → iv c ∣ cf (pv p) k) ∧ f 18 = .iv (.int .i64 i) ∧ f 0 = .iv (.sl (raws p)) ∧ f 3 = .hp 3 st3 0 0 ∧ f 6 = .hs 15 st ∧ f 17 = .iv (.int .i64 p.length) ∧ H 15 = .blk false st 44 2 (raws out) ∧ H 3 = .blk false st3 44 2 [prow c]) (fun f H => (p.length - intAt f 18).toNat) ?_ ?_
  · refine ⟨0, 1, 1, List.replicate p.length (false, []), by omega, by simp, fun k hk => by omega, ?_⟩
    simp (disch := omega) only [wk, tis, seval, reduceCtorEq, Nat.reduceEqDiff, cpoly_len, Int.toNat_natCast]
  rintro f H ⟨i, st, st3, out, hi, hol, hv, hF⟩
  rw [intAt_of hF.1]
  simp (disch := omega) only [wk, tis, seval, reduceCtorEq, Nat.reduceEqDiff, cpoly_len, hF]
  refine if_by (fun hlt => ?_) (fun hlt => ?_)
  · by_cases hdv : iv c ∣ cf (pv p) i
    · have hdi := hdv
      rw [cf_pv] at hdi
      have m := zexact_ok (p.getD i (false, [])) c ((hp.get i).mono (by omega)) (hc.mono (by omega)) h0 hdi
      simp (disch := omega) only [wk, tis, seval, reduceCtorEq, Nat.reduceEqDiff, cpoly_len, hF]
      refine ⟨tmps_by (by kernel_rfl), ?_⟩
      refine call_by (m) (by first | rfl | (simp only [tocvs, tocv, hF]; rfl) | (simp only [tocvs, tocv, toboxes, tobox, updH_at, Nat.reduceEqDiff, ↓reduceIte, hF]; rfl)) (by simp) ?_
      simp (disch := omega) only [wk, tis, seval, reduceCtorEq, Nat.reduceEqDiff, cpoly_len, hF]
      first | exact log_by (by kernel_rfl) | refine ⟨log_by (by kernel_rfl), ?_⟩
      refine ⟨⟨i + 1, st, st3, out.set i (canon (iv (p.getD i (false, [])) / iv c)), by omega, by simpa using hol, fun k hk => ?_, by omega, rfl, rfl, rfl, rfl⟩, by omega⟩
      rcases Nat.lt_or_ge k i with hk' | hk'
      · exact hv k hk'
      · obtain rfl : k = i := by omega
        exact hdv
    · have hdi := hdv
      rw [cf_pv] at hdi
      have m := zexact_bad (p.getD i (false, [])) c ((hp.get i).mono (by omega)) (hc.mono (by omega)) h0 hdi
      simp (disch := omega) only [wk, tis, seval, reduceCtorEq, Nat.reduceEqDiff, cpoly_len, hF]
      refine ⟨tmps_by (by kernel_rfl), ?_⟩
      refine call_by (m) (by first | rfl | (simp only [tocvs, tocv, hF]; rfl) | (simp only [tocvs, tocv, toboxes, tobox, updH_at, Nat.reduceEqDiff, ↓reduceIte, hF]; rfl)) (by simp) ?_
      simp (disch := omega) only [wk, tis, seval, reduceCtorEq, Nat.reduceEqDiff, cpoly_len, hF]
      first | exact log_by (by kernel_rfl) | refine ⟨log_by (by kernel_rfl), ?_⟩
  · refine (hb fun k => ?_).elim
    rcases Nat.lt_or_ge k p.length with hk | hk
    · exact hv k (by omega)
    · rw [cf_ge (by rw [pv_len]; omega)]; exact Int.dvd_zero _
end Go.Proofs.YtenlbifnhdmnnaaGreat

namespace Go.Proofs.YtenlbifnhdmnnaaGreat
open Go Go.Proofs Go.AL
set_option linter.unusedSimpArgs false
set_option linter.unusedVariables false
structure OV (P R : List Int) (n K : Nat) : Prop where
  dv : DV (qp (trimz P)) (qp (trimz R)) n K
  w : decide ((dit (qp (trimz P)) (qp (trimz R)) n).length = 0) = dvb R P
  q : Dv R P → ∀ k, ((lc R ^ dxp P R : Int) : Rat) * cfq (dqu (qp (trimz P)) (qp (trimz R)) n) k = (cf (dq P R) k : Rat)
  s : Dv R P → ps (clr (dqu (qp (trimz P)) (qp (trimz R)) n)) * ps R = PS.C (cden (dqu (qp (trimz P)) (qp (trimz R)) n) : Int) * ps P
def exok (P R : List Int) : Bool := dvb R P && decide ((lc R ^ dxp P R) ∣ (gz (dq P R) : Int))
def exv (P R : List Int) : List Int := if tz R = 0 then [] else if exok P R then pdivs (lc R ^ dxp P R) (dq P R) else []
def exe (P R : List Int) : Int := if tz R = 0 then 1 else if exok P R then 0 else 4
theorem dvd_gz {c : Int} {q : List Int} : c ∣ (gz q : Int) ↔ ∀ k, c ∣ cf q k := by
  constructor
  · intro h k
    exact Int.dvd_trans h (gz_dvd q k)
  · intro h
    refine Int.natAbs_dvd.mp (Int.natCast_dvd_natCast.mpr (gz_greatest q c.natAbs fun k => Int.natAbs_dvd.mpr (h k)))
theorem pow_z {c : Int} {K : Nat} (h : zl c ≤ K) (n : Nat) (hn : n ≤ 41) : zl (c ^ n) ≤ 41 * K + 1 := by
  have h1 := zl_pow h n
  have h2 : n * K ≤ 41 * K := Nat.mul_le_mul_right _ hn
  omega
set_option maxRecDepth 100000 in
theorem pexact_ok (p q : List RI) (S : Nat) (hp : RP 40 S p) (hq : RP 40 S q) (hS : S ≤ 2 ^ 20) : AC Tryz.prog 24 [cw p, cw q] none [cp (exv (pv p) (pv q)), ci (exe (pv p) (pv q))] := by
  have hp' := hp.mono (Nat.le_refl 40) (show S ≤ 2 ^ 27 by omega)
  have hq' := hq.mono (Nat.le_refl 40) (show S ≤ 2 ^ 27 by omega)
  have sP := sb_rp hp
  have sQ := sb_rp hq
  by_cases h0 : tz (pv q) = 0
  · rw [exv, exe, if_pos h0, if_pos h0]
    have d := pdiv_zero p q hq' h0
    refine AC.by_walk (rs := [.tmp 4, .tmp 5]) ords Tryz.func24 (by rfl) (by rfl) (by rfl) (by rfl) (by rfl) ?_
    simp (disch := omega) only [wk, tis, seval, reduceCtorEq, Nat.reduceEqDiff, rqs, cpoly_len]
    refine call_by (d) (by rfl) (by simp) ?_
    simp (disch := omega) only [wk, tis, seval, reduceCtorEq, Nat.reduceEqDiff, rqs, cpoly_len]
    try rfl
  have d := pdiv_ok p q hp' hq' h0
  have t1 := tz_rp hp
  have t2 := tz_rp hq
  have tr := drem_tz (A := pv p) h0
  have td := dq_tz (A := pv p) h0
  obtain ⟨s1, s2⟩ := div_sz h0 sP sQ
  have hdx : dxp (pv p) (pv q) ≤ 41 := by unfold dxp; omega
  have hdm : dxp (pv p) (pv q) * (S + 1) ≤ 41 * (S + 1) := Nat.mul_le_mul_right _ hdx
  have dg := pdeg_n (a := cn (dr (pv p) (pv q))) (q := dr (pv p) (pv q)) ((rp_sb (D := 40) (k := 2 ^ 35) (by omega) (s2.mono (by omega))).mono (by omega) (by omega)) (ps_cn _)
  rw [exv, exe, if_neg h0, if_neg h0]
  by_cases hd : ¬ dvb (pv q) (pv p) = true
  · have hb : dvb (pv q) (pv p) = false := by simpa using hd
    have he : exok (pv p) (pv q) = false := by unfold exok; rw [hb]; rfl
    rw [he]
    have hr : ¬ tz (dr (pv p) (pv q)) = 0 := fun h => hd ((dvb_iff _ _).mpr ((dv_dr h0).mpr h))
    have hr' : (0 : Int) ≤ (tz (dr (pv p) (pv q)) : Int) - 1 := by omega
    refine AC.by_walk (rs := [.tmp 4, .tmp 5]) ords Tryz.func24 (by rfl) (by rfl) (by rfl) (by rfl) (by rfl) ?_
    simp (disch := omega) only [wk, tis, seval, reduceCtorEq, Nat.reduceEqDiff, rqs, cpoly_len]
    refine call_by (d) (by rfl) (by simp) ?_
    simp (disch := omega) only [wk, tis, seval, reduceCtorEq, Nat.reduceEqDiff, rqs, cpoly_len]
    refine call_by (dg) (by first | rfl | (simp only [tocvs, tocv, hr']; rfl) | (simp only [tocvs, tocv, toboxes, tobox, updH_at, Nat.reduceEqDiff, ↓reduceIte, hr']; rfl)) (by simp) ?_
    simp (disch := omega) only [wk, tis, seval, reduceCtorEq, Nat.reduceEqDiff, rqs, cpoly_len, hr']
    try rfl
  have hd : dvb (pv q) (pv p) = true := Classical.not_not.mp hd
  have hdr := (dv_dr h0).mp ((dvb_iff _ _).mp hd)
  have he : exok (pv p) (pv q) = decide ((lc (pv q) ^ dxp (pv p) (pv q)) ∣ (gz (dq (pv p) (pv q)) : Int)) := by unfold exok; rw [hd, Bool.true_and]
  rw [he]
  rw [hdr] at dg
  have o1 := zOf_ok 1 (by omega) (by omega)
  have le := plead_g (a := q) (q := pv q) (hq.mono (by omega) (by omega)) rfl
  have hlz : zl (lc (pv q)) ≤ S := sQ _
  have rD := rp_sb (D := 41) (k := 2 ^ 35) (by omega) (s1.mono (by omega))
  have hlp := lcp_ne h0 (dxp (pv p) (pv q))
  have hpz := pow_z hlz (dxp (pv p) (pv q)) hdx
  have key : ∃ (res : List Int) (e : Int), AC Tryz.prog 62 [cp (dq (pv p) (pv q)), cz (lc (pv q) ^ dxp (pv p) (pv q))] none [cp res, ci e] ∧ res = (if decide ((lc (pv q) ^ dxp (pv p) (pv q)) ∣ (gz (dq (pv p) (pv q)) : Int)) = true then pdivs (lc (pv q) ^ dxp (pv p) (pv q)) (dq (pv p) (pv q)) else []) ∧ e = (if decide ((lc (pv q) ^ dxp (pv p) (pv q)) ∣ (gz (dq (pv p) (pv q)) : Int)) = true then 0 else 4) := by
    by_cases hg : (lc (pv q) ^ dxp (pv p) (pv q)) ∣ (gz (dq (pv p) (pv q)) : Int)
    · rw [decide_eq_true hg]
      have ov := pover_ok (cn (dq (pv p) (pv q))) (canon (lc (pv q) ^ dxp (pv p) (pv q))) (rD.mono (by omega) (by omega)) ((sz_canon _).mono (by omega)) (by rw [iv_canon]; exact hlp) (fun k => by rw [iv_canon, cf_cn]; exact dvd_gz.mp hg k)
      rw [iv_canon, show cp (pdivs (lc (pv q) ^ dxp (pv p) (pv q)) (pv (cn (dq (pv p) (pv q))))) = cp (pdivs (lc (pv q) ^ dxp (pv p) (pv q)) (dq (pv p) (pv q))) from cp_ext fun k => by rw [cf_pdivs, cf_pdivs, cf_cn]] at ov
      exact ⟨_, _, ov, rfl, rfl⟩
    · rw [decide_eq_false hg]
      have ov := pover_bad (cn (dq (pv p) (pv q))) (canon (lc (pv q) ^ dxp (pv p) (pv q))) (rD.mono (by omega) (by omega)) ((sz_canon _).mono (by omega)) (by rw [iv_canon]; exact hlp) (fun h => hg (dvd_gz.mpr fun k => by have := h k; rwa [iv_canon, cf_cn] at this))
      exact ⟨[], 4, ov, rfl, rfl⟩
  obtain ⟨res, e, ov, hres, hee⟩ := key
  rw [← hres, ← hee]
  have he2 : e = 0 ∨ (¬ e = 0 ∧ e = 4 ∧ res = []) := by
    rw [hres, hee]
    split
    · exact .inl rfl
    · exact .inr ⟨by decide, rfl, rfl⟩
  clear hres hee he hdm
  generalize hX : dxp (pv p) (pv q) = x at *
  generalize hL : lc (pv q) = L at *
  refine AC.by_walk (rs := [.tmp 4, .tmp 5]) ords Tryz.func24 (by rfl) (by rfl) (by rfl) (by rfl) (by rfl) ?_
  simp (disch := omega) only [wk, tis, seval, reduceCtorEq, Nat.reduceEqDiff, rqs, cpoly_len]
  refine call_by (d) (by rfl) (by simp) ?_
  simp (disch := omega) only [wk, tis, seval, reduceCtorEq, Nat.reduceEqDiff, rqs, cpoly_len]
  refine call_by (dg) (by rfl) (by simp) ?_
  simp (disch := omega) only [wk, tis, seval, reduceCtorEq, Nat.reduceEqDiff, rqs, cpoly_len]
  refine call_by (o1) (by rfl) (by simp) ?_
  simp (disch := omega) only [wk, tis, seval, reduceCtorEq, Nat.reduceEqDiff, rqs, cpoly_len]
  refine aloop_by (fun f H => ∃ (i st : Nat), i ≤ x ∧ f 26 = .iv (.int .i64 i) ∧ f 25 = .iv (.int .i64 x) ∧ f 1 = .iv (.sl (raws q)) ∧ f 6 = .iv (.sl (cpoly (dq (pv p) (pv q)))) ∧ f 10 = .hp 10 st 0 0 ∧ H 10 = .blk false st 44 2 [prow (canon (L ^ i))]) (fun f H => (x - intAt f 26).toNat) ?_ ?_
  · refine ⟨0, 1, by omega, ?_⟩
    simp (disch := omega) only [wk, tis, seval, reduceCtorEq, Nat.reduceEqDiff, rqs, cpoly_len, Int.pow_zero]
  rintro f H ⟨i, st, hi, hF⟩
  rw [intAt_of hF.1]
  simp (disch := omega) only [wk, tis, seval, reduceCtorEq, Nat.reduceEqDiff, rqs, cpoly_len, hF]
  by_cases hlt' : i < x
  · have hlt : (i : Int) < (x : Int) := by omega
    have hz := pow_z hlz i (by omega)
    have m := zmul_ok (canon (L ^ i)) (canon L) ((sz_canon _).mono (by omega)) ((sz_canon _).mono (by omega))
    rw [iv_canon, iv_canon, ← Int.pow_succ] at m
    simp (disch := omega) only [wk, tis, seval, reduceCtorEq, Nat.reduceEqDiff, rqs, cpoly_len, hF, hlt]
    refine ⟨tmps_by (by kernel_rfl), ?_⟩
    refine call_by (le) (by first | rfl | (simp only [tocvs, tocv, hF, hlt]; rfl) | (simp only [tocvs, tocv, toboxes, tobox, updH_at, Nat.reduceEqDiff, ↓reduceIte, hF, hlt]; rfl)) (by simp) ?_
    simp (disch := omega) only [wk, tis, seval, reduceCtorEq, Nat.reduceEqDiff, rqs, cpoly_len, hF, hlt]
    refine call_by (m) (by first | rfl | (simp only [tocvs, tocv, hF, hlt]; rfl) | (simp only [tocvs, tocv, toboxes, tobox, updH_at, Nat.reduceEqDiff, ↓reduceIte, hF, hlt]; rfl)) (by simp) ?_
    simp (disch := omega) only [wk, tis, seval, reduceCtorEq, Nat.reduceEqDiff, rqs, cpoly_len, hF, hlt]
    first | exact log_by (by kernel_rfl) | refine ⟨log_by (by kernel_rfl), ?_⟩
    refine ⟨⟨i + 1, st, by omega, ?_⟩, by omega⟩
    try (repeat' apply And.intro) <;> first | rfl | omega
  · obtain rfl : i = x := by omega
    have hlt : ¬ (i : Int) < (i : Int) := by omega
    simp (disch := omega) only [wk, tis, seval, reduceCtorEq, Nat.reduceEqDiff, rqs, cpoly_len, hF, hlt]
    rcases he2 with rfl | ⟨h1, rfl, rfl⟩
    · skip
      refine call_by (ov) (by first | rfl | (simp only [tocvs, tocv, hF]; rfl) | (simp only [tocvs, tocv, toboxes, tobox, updH_at, Nat.reduceEqDiff, ↓reduceIte, hF]; rfl)) (by simp) ?_
      simp (disch := omega) only [wk, tis, seval, reduceCtorEq, Nat.reduceEqDiff, rqs, cpoly_len, hF]
      try rfl
    · skip
      refine call_by (ov) (by first | rfl | (simp only [tocvs, tocv, hF]; rfl) | (simp only [tocvs, tocv, toboxes, tobox, updH_at, Nat.reduceEqDiff, ↓reduceIte, hF]; rfl)) (by simp) ?_
      simp (disch := omega) only [wk, tis, seval, reduceCtorEq, Nat.reduceEqDiff, rqs, cpoly_len, hF]
      try rfl
end Go.Proofs.YtenlbifnhdmnnaaGreat

namespace Go.Proofs.YtenlbifnhdmnnaaGreat
open Go Go.Proofs Go.AL
set_option linter.unusedSimpArgs false
set_option linter.unusedVariables false
theorem small_dv {P X : List Int} (h0 : tz P ≠ 0) (tP : tz P ≤ 9) (sP : SBd 2 P) (hX : Nf X) (h : Dv X P) : SBd 92 X ∧ tz X ≤ 9 ∧ tz X ≠ 0 := by
  have h1 := dv_tz h h0
  exact ⟨dv_sz h0 tP (by omega) sP hX h, by omega, h1.1⟩
theorem ez2 : EZ 2 9 ≤ 2 ^ 27 := by decide
theorem few_facts {p : List RI} (h : RP 9 2 p) : tz (pv p) ≤ 9 ∧ SBd 2 (pv p) := ⟨tz_rp h, sb_rp h⟩
theorem rp92 {A : List Int} (h : SBd 92 A) (ht : tz A ≤ 9) : RP 40 92 (cn A) := (rp_sb ht h).mono (by omega) (Nat.le_refl _)
theorem quo_dv {A B : List Int} (hB : tz B ≠ 0) (h : Dv B A) : Dv (quo A B) A := by
  refine Dv.as (B := quo A B) (A := pmul B (quo A B)) (.mul (S := B) (by rw [ps_pmul])) (.refl _) ?_
  exact ((As.of_ps (by rw [ps_pmul, ps_pmul, PS.mul_comm])).trans (quo_mul hB h).symm)
end Go.Proofs.YtenlbifnhdmnnaaGreat

namespace Go.Proofs.YtenlbifnhdmnnaaGreat
open Go Go.Proofs Go.AL
set_option linter.unusedSimpArgs false
set_option linter.unusedVariables false
def tmn (B : List Int) : Nat → List Int → Nat
  | 0, _ => 0
  | f + 1, A => if dvb B A then tmn B f (quo A B) + 1 else 0
def tmr (B : List Int) : Nat → List Int → List Int
  | 0, A => A
  | f + 1, A => if dvb B A then tmr B f (quo A B) else A
theorem tm_stop {B A : List Int} (h : dvb B A = false) : ∀ f, tmn B f A = 0 ∧ tmr B f A = A
  | 0 => ⟨rfl, rfl⟩
  | f + 1 => by rw [tmn, tmr, h]; exact ⟨rfl, rfl⟩
theorem quo_trim (A B : List Int) : trimz (quo A B) = quo A B := npr_trim _
set_option maxRecDepth 100000 in
theorem ptimes_ok (p q : List RI) (hp : RP 9 2 p) (hq : RP 9 2 q) : AC Tryz.prog 23 [cw p, cw q] none (if tz (pv p) = 0 then [ci 0, cw [], ci 1] else if tz (pv q) ≤ 1 then [ci 0, cw [], ci 3] else [ci (tmn (pv q) 9 (npr (pv p))), cp (tmr (pv q) 9 (npr (pv p))), ci 0]) := by
  have d1 := pdeg_ok p (hp.mono (by omega) (by omega))
  have d2 := pdeg_ok q (hq.mono (by omega) (by omega))
  obtain ⟨tP, sP⟩ := few_facts hp
  obtain ⟨tQ, sQ⟩ := few_facts hq
  by_cases h1 : tz (pv p) = 0
  · rw [if_pos h1]
    rw [h1] at d1
    refine AC.by_walk (rs := [.tmp 4, .tmp 5, .tmp 6]) ords Tryz.func23 (by rfl) (by rfl) (by rfl) (by rfl) (by rfl) ?_
    simp (disch := omega) only [wk, tis, seval, reduceCtorEq, Nat.reduceEqDiff, rqs, cpoly_len, polys_len]
    refine call_by (d1) (by rfl) (by simp) ?_
    simp (disch := omega) only [wk, tis, seval, reduceCtorEq, Nat.reduceEqDiff, rqs, cpoly_len, polys_len]
    try rfl
  have h1' : ¬ ((tz (pv p) : Nat) : Int) - 1 < 0 := by omega
  rw [if_neg h1]
  by_cases h2 : tz (pv q) ≤ 1
  · have h2' : ((tz (pv q) : Nat) : Int) - 1 < 1 := by omega
    rw [if_pos h2]
    refine AC.by_walk (rs := [.tmp 4, .tmp 5, .tmp 6]) ords Tryz.func23 (by rfl) (by rfl) (by rfl) (by rfl) (by rfl) ?_
    simp (disch := omega) only [wk, tis, seval, reduceCtorEq, Nat.reduceEqDiff, rqs, cpoly_len, polys_len]
    refine call_by (d1) (by first | rfl | (simp only [tocvs, tocv, h1']; rfl) | (simp only [tocvs, tocv, toboxes, tobox, updH_at, Nat.reduceEqDiff, ↓reduceIte, h1']; rfl)) (by simp) ?_
    simp (disch := omega) only [wk, tis, seval, reduceCtorEq, Nat.reduceEqDiff, rqs, cpoly_len, polys_len, h1']
    refine call_by (d2) (by first | rfl | (simp only [tocvs, tocv, h1', h2']; rfl) | (simp only [tocvs, tocv, toboxes, tobox, updH_at, Nat.reduceEqDiff, ↓reduceIte, h1', h2']; rfl)) (by simp) ?_
    simp (disch := omega) only [wk, tis, seval, reduceCtorEq, Nat.reduceEqDiff, rqs, cpoly_len, polys_len, h1', h2']
    try rfl
  have h2' : ¬ ((tz (pv q) : Nat) : Int) - 1 < 1 := by omega
  rw [if_neg h2]
  have pr := pprim_n (a := p) (q := pv p) (hp.mono (by omega) (by omega)) rfl
  have t0 := npr_trim (pv p)
  have f0 := nf_npr (pv p)
  have z0 := tz_npr (pv p)
  have v0 : Dv (npr (pv p)) (pv p) := (as_npr (pv p)).symm.dv
  generalize npr (pv p) = A0 at *
  refine AC.by_walk (rs := [.tmp 4, .tmp 5, .tmp 6]) ords Tryz.func23 (by rfl) (by rfl) (by rfl) (by rfl) (by rfl) ?_
  simp (disch := omega) only [wk, tis, seval, reduceCtorEq, Nat.reduceEqDiff, rqs, cpoly_len, polys_len]
  refine call_by (d1) (by first | rfl | (simp only [tocvs, tocv, h1']; rfl) | (simp only [tocvs, tocv, toboxes, tobox, updH_at, Nat.reduceEqDiff, ↓reduceIte, h1']; rfl)) (by simp) ?_
  simp (disch := omega) only [wk, tis, seval, reduceCtorEq, Nat.reduceEqDiff, rqs, cpoly_len, polys_len, h1']
  refine call_by (d2) (by first | rfl | (simp only [tocvs, tocv, h1', h2']; rfl) | (simp only [tocvs, tocv, toboxes, tobox, updH_at, Nat.reduceEqDiff, ↓reduceIte, h1', h2']; rfl)) (by simp) ?_
  simp (disch := omega) only [wk, tis, seval, reduceCtorEq, Nat.reduceEqDiff, rqs, cpoly_len, polys_len, h1', h2']
  refine call_by (pr) (by rfl) (by simp) ?_
  simp (disch := omega) only [wk, tis, seval, reduceCtorEq, Nat.reduceEqDiff, rqs, cpoly_len, polys_len]
  refine aloop_by (fun f H => ∃ (k n : Nat) (A : List Int), tmn (pv q) k A + n = tmn (pv q) 9 A0 ∧ tmr (pv q) k A = tmr (pv q) 9 A0 ∧ tz A ≤ k ∧ n + k ≤ 9 ∧ trimz A = A ∧ Nf A ∧ Dv A (pv p) ∧ tz A ≠ 0 ∧ f 1 = .iv (.sl (raws q)) ∧ f 7 = .iv (.int .i64 n) ∧ f 8 = .iv (.sl (cpoly A))) (fun f H => match f 8 with | .iv (.sl l) => l.length | _ => 0) ?_ ?_
  · refine ⟨9, 0, A0, rfl, rfl, by omega, by omega, t0, f0, v0, by omega, ?_⟩
    simp (disch := omega) only [wk, tis, seval, reduceCtorEq, Nat.reduceEqDiff, rqs, cpoly_len, polys_len]
    try exact ⟨rfl, rfl⟩
  rintro f H ⟨k, n, A, en, er, tk, hnk, tA, nA, vA, hA0, hF⟩
  have hmu : (match f 8 with | .iv (.sl l) => l.length | _ => 0) = tz A := by rw [hF.2.2]; simp only []; rw [cpoly_len]
  rw [hmu]
  obtain ⟨a1, a2, _⟩ := small_dv h1 tP sP nA vA
  have dv := pdivides_g (p := cn A) (q := q) (A := A) (B := pv q) ((rp92 a1 a2).mono (Nat.le_refl _) (by omega)) (hq.mono (by omega) (by omega)) (ps_cn _) rfl
  by_cases hd : dvb (pv q) A = true
  · rw [hd] at dv
    obtain ⟨k', rfl⟩ : ∃ k', k = k' + 1 := ⟨k - 1, by omega⟩
    have hdv := (dvb_iff _ _).mp hd
    have qo := pquot_g (p := cn A) (q := q) (A := A) (B := pv q) ((rp92 a1 a2).mono (Nat.le_refl _) (by omega)) (hq.mono (by omega) (by omega)) (ps_cn _) rfl (by omega) hdv
    obtain ⟨qt, qn⟩ := quo_tz (A := A) (B := pv q) (by omega) hA0 hdv
    rw [tmn, if_pos hd] at en
    rw [tmr, if_pos hd] at er
    simp (disch := omega) only [wk, tis, seval, reduceCtorEq, Nat.reduceEqDiff, rqs, cpoly_len, polys_len, hF]
    refine call_by (dv) (by first | rfl | (simp only [tocvs, tocv, hF]; rfl) | (simp only [tocvs, tocv, toboxes, tobox, updH_at, Nat.reduceEqDiff, ↓reduceIte, hF]; rfl)) (by simp) ?_
    simp (disch := omega) only [wk, tis, seval, reduceCtorEq, Nat.reduceEqDiff, rqs, cpoly_len, polys_len, hF]
    refine call_by (qo) (by first | rfl | (simp only [tocvs, tocv, hF]; rfl) | (simp only [tocvs, tocv, toboxes, tobox, updH_at, Nat.reduceEqDiff, ↓reduceIte, hF]; rfl)) (by simp) ?_
    simp (disch := omega) only [wk, tis, seval, reduceCtorEq, Nat.reduceEqDiff, rqs, cpoly_len, polys_len, hF]
    refine ⟨⟨k', n + 1, quo A (pv q), by omega, er, by omega, by omega, quo_trim _ _, quo_nf _ _, (quo_dv (by omega) hdv).trans vA, qn, ?_⟩, by omega⟩
    try (repeat' apply And.intro) <;> first | rfl | omega
  · have hd' : dvb (pv q) A = false := by simpa using hd
    rw [hd'] at dv
    obtain ⟨s1, s2⟩ := tm_stop hd' k
    rw [← en, ← er, s1, s2]
    simp (disch := omega) only [wk, tis, seval, reduceCtorEq, Nat.reduceEqDiff, rqs, cpoly_len, polys_len, hF]
    refine call_by (dv) (by first | rfl | (simp only [tocvs, tocv, hF]; rfl) | (simp only [tocvs, tocv, toboxes, tobox, updH_at, Nat.reduceEqDiff, ↓reduceIte, hF]; rfl)) (by simp) ?_
    simp (disch := omega) only [wk, tis, seval, reduceCtorEq, Nat.reduceEqDiff, rqs, cpoly_len, polys_len, hF]
    try exact ⟨by omega, rfl⟩
end Go.Proofs.YtenlbifnhdmnnaaGreat

namespace Go.Proofs.YtenlbifnhdmnnaaGreat
open Go Go.Proofs Go.AL
set_option linter.unusedSimpArgs false
set_option linter.unusedVariables false
end Go.Proofs.YtenlbifnhdmnnaaGreat

namespace Go.Proofs.YtenlbifnhdmnnaaGreat
open Go Go.Proofs Go.AL
set_option linter.unusedSimpArgs false
set_option linter.unusedVariables false
def fi (a : RI) : RI := (a.1, a.2.take 3)
def fr (r : RQ) : RQ := (fi r.1, r.2.take 3)
def fq (p : List RQ) : List RQ := (p.take 7).map fr
theorem take_min {α : Type} (l : List α) (n : Nat) : l.take (min (l.length : Int) n).toNat = l.take n := by
  rcases Nat.le_total l.length n with h | h
  · rw [List.take_of_length_le (i := n) h, List.take_of_length_le (by omega)]
  · congr 1; omega
theorem prow_len2 (c : RI) : (prow c).length = 2 := rfl
structure C11 where
  (P R : List RI) (A B C D : RI) (K M : Int) (At : RI) (E : Int) (Pt : Bool) (F G : List RQ) (X : RQ)
end Go.Proofs.YtenlbifnhdmnnaaGreat

namespace Go.Proofs.YtenlbifnhdmnnaaGreat
open Go Go.Proofs Go.AL
set_option linter.unusedSimpArgs false
set_option linter.unusedVariables false
end Go.Proofs.YtenlbifnhdmnnaaGreat

namespace Go.Proofs.YtenlbifnhdmnnaaGreat
open Go Go.Proofs Go.AL
set_option linter.unusedSimpArgs false
set_option linter.unusedVariables false
def NearOk (k : Int) : Prop := k < 0 ∨ 65536 < k ∨ ∃ n : Nat, k = n ∧ n ≤ 200
structure Few (y : C11) : Prop where
  P : RP 9 3 y.P
  R : RP 9 3 y.R
  A : Sz 3 y.A
  B : Sz 3 y.B
  C : Sz 3 y.C
  D : Sz 3 y.D
  At : Sz 3 y.At
  K : NearOk y.K
  M : NearOk y.M
  E : NearOk y.E
structure Ok11 (x : C11) : Prop where
  P : Raw x.P
  R : Raw x.R
  A : Sz 9223372036854775807 x.A
  B : Sz 9223372036854775807 x.B
  C : Sz 9223372036854775807 x.C
  D : Sz 9223372036854775807 x.D
  K : -9223372036854775808 ≤ x.K ∧ x.K ≤ 9223372036854775807
  M : -9223372036854775808 ≤ x.M ∧ x.M ≤ 9223372036854775807
  At : Sz 9223372036854775807 x.At
  E : -9223372036854775808 ≤ x.E ∧ x.E ≤ 9223372036854775807
  F : RawQ x.F
  G : RawQ x.G
  X : SzQ 9223372036854775807 x.X
end Go.Proofs.YtenlbifnhdmnnaaGreat

namespace Go.Proofs.YtenlbifnhdmnnaaGreat
open Go Go.Proofs Go.AL
set_option linter.unusedSimpArgs false
set_option linter.unusedVariables false
def fi2 (a : RI) : RI := (a.1, a.2.take 2)
def fp2 (p : List RI) : List RI := (p.take 9).map fi2
def fr1 (r : RQ) : RQ := ((r.1.1, r.1.2.take 1), r.2.take 1)
def fq1 (p : List RQ) : List RQ := (p.take 7).map fr1
theorem raws_app (l : List RI) (c : RI) : raws l ++ [[.bool c.1, .sl (lims c.2)]] = raws (l ++ [c]) := by simp [raws, prow]
set_option maxRecDepth 100000 in
theorem few14_ok (p : List RI) (hl : p.length ≤ 9223372036854775807) (h : ∀ c ∈ p, c.2.length ≤ 9223372036854775807) : AC Tryz.prog 25 [cw p] none [cw (fp2 p)] := by
  refine AC.by_walk (rs := [.tmp 2]) ords Tryz.func25 (by rfl) (by rfl) (by rfl) (by rfl) (by rfl) ?_
  simp (disch := omega) only [wk, tis, seval, reduceCtorEq, Nat.reduceEqDiff, rqs, cpoly_len, polys_len]
  refine aloop_nil 3 3 44 2 (by simp (disch := omega) only [wk, tis, seval, reduceCtorEq, Nat.reduceEqDiff, rqs, cpoly_len, polys_len]) (fun f H => ∃ (i st : Nat), i ≤ p.length ∧ i ≤ 9 ∧ f 4 = .iv (.int .i64 i) ∧ f 0 = .iv (.sl (raws p)) ∧ f 3 = .hs 3 st ∧ H 3 = .blk false st 44 2 (raws ((p.take i).map fi2))) (fun f H => (p.length - intAt f 4).toNat) ?_ ?_
  · refine ⟨0, 1, by omega, by omega, ?_⟩
    simp (disch := omega) only [wk, tis, seval, reduceCtorEq, Nat.reduceEqDiff, rqs, cpoly_len, polys_len, ghostF, ghostH, List.take_zero]
  rintro f H ⟨i, st, hi, hi9, hF⟩
  rw [intAt_of hF.1]
  simp (disch := omega) only [wk, tis, seval, reduceCtorEq, Nat.reduceEqDiff, rqs, cpoly_len, polys_len, hF]
  by_cases hlt : i < p.length
  · have h1 : (i : Int) < p.length := by omega
    by_cases h9 : (i : Int) < 9
    · have hq : ((p.take i).map fi2).length = i := by rw [List.length_map, List.length_take]; omega
      have hg : p.getD i (false, []) = p[i] := by simp [List.getD, hlt]
      have hcl : (p.getD i (false, [])).2.length ≤ 9223372036854775807 := by rw [hg]; exact h _ (List.getElem_mem hlt)
      have e := take_min (p.getD i (false, [])).2 2
      rw [show ((2 : Nat) : Int) = 2 from rfl] at e
      have et : (p.take (i + 1)).map fi2 = (p.take i).map fi2 ++ [fi2 (p.getD i (false, []))] := by
        rw [List.take_add_one, List.getElem?_eq_getElem hlt, List.map_append, hg]; rfl
      simp (disch := omega) only [wk, tis, seval, reduceCtorEq, Nat.reduceEqDiff, rqs, cpoly_len, polys_len, hF, h1, h9, hq, e]
      refine ⟨tmps_by (by kernel_rfl), ?_⟩
      first | exact log_by (by kernel_rfl) | refine ⟨log_by (by kernel_rfl), ?_⟩
      refine ⟨⟨i + 1, st + 1, by omega, by omega, ?_⟩, by omega⟩
      rw [et]
      exact ⟨by omega, rfl, congrArg _ (raws_app ((p.take i).map fi2) (fi2 (p.getD i (false, []))))⟩
    · have e9 : i = 9 := by omega
      have e : (p.take i).map fi2 = fp2 p := by rw [e9]; rfl
      rw [e] at hF
      simp (disch := omega) only [wk, tis, seval, reduceCtorEq, Nat.reduceEqDiff, rqs, cpoly_len, polys_len, hF, h1, h9]
      try rfl
  · have h1 : ¬ (i : Int) < p.length := by omega
    simp (disch := omega) only [wk, tis, seval, reduceCtorEq, Nat.reduceEqDiff, rqs, cpoly_len, polys_len, hF, h1]
    rw [fp2, List.take_of_length_le (by omega), List.take_of_length_le (by omega)]
theorem rats_app (l : List RQ) (r : RQ) : rats l ++ [[.bool r.1.1, .sl (lims r.1.2), .sl (lims r.2)]] = rats (l ++ [r]) := by simp [rats, qrow, prow]
set_option maxRecDepth 100000 in
theorem fewQ14_ok (p : List RQ) (hl : p.length ≤ 9223372036854775807) (h : ∀ c ∈ p, c.1.2.length ≤ 9223372036854775807 ∧ c.2.length ≤ 9223372036854775807) : AC Tryz.prog 26 [cqw p] none [cqw (fq1 p)] := by
  have hrl := rats_len p
  refine AC.by_walk (rs := [.tmp 2]) ords Tryz.func26 (by rfl) (by rfl) (by rfl) (by rfl) (by rfl) ?_
  simp (disch := omega) only [wk, tis, seval, reduceCtorEq, Nat.reduceEqDiff, rqs, cpoly_len, polys_len]
  refine aloop_nil 3 3 46 3 (by simp (disch := omega) only [wk, tis, seval, reduceCtorEq, Nat.reduceEqDiff, rqs, cpoly_len, polys_len]) (fun f H => ∃ (i st s5 : Nat), i ≤ p.length ∧ i ≤ 7 ∧ f 4 = .iv (.int .i64 i) ∧ f 0 = .iv (.sl (rats p)) ∧ f 3 = .hs 3 st ∧ H 3 = .blk false st 46 3 (rats ((p.take i).map fr1))) (fun f H => (p.length - intAt f 4).toNat) ?_ ?_
  · refine ⟨0, 1, 1, by omega, by omega, ?_⟩
    simp (disch := omega) only [wk, tis, seval, reduceCtorEq, Nat.reduceEqDiff, rqs, cpoly_len, polys_len, ghostF, ghostH, List.take_zero, List.map_nil]
  rintro f H ⟨i, st, s5, hi, hi9, hF⟩
  rw [intAt_of hF.1]
  simp (disch := omega) only [wk, tis, seval, reduceCtorEq, Nat.reduceEqDiff, rqs, cpoly_len, polys_len, hF]
  by_cases hlt : i < p.length
  · have h1 : (i : Int) < p.length := by omega
    by_cases h9 : (i : Int) < 7
    · have hq : ((p.take i).map fr1).length = i := by rw [List.length_map, List.length_take]; omega
      have hg : p.getD i q0 = p[i] := by simp [List.getD, hlt]
      have hm := h _ (List.getElem_mem hlt)
      rw [← hg] at hm
      have e := take_min (p.getD i q0).1.2 1
      have e' := take_min (p.getD i q0).2 1
      rw [show ((1 : Nat) : Int) = 1 from rfl] at e e'
      have et : (p.take (i + 1)).map fr1 = (p.take i).map fr1 ++ [fr1 (p.getD i q0)] := by
        rw [List.take_add_one, List.getElem?_eq_getElem hlt, List.map_append, hg]; rfl
      obtain ⟨hm1, hm2⟩ := hm
      have hpr : ∀ (b : Bool) (l : List Nat), [IV.bool b, IV.sl (lims l)] = prow (b, l) := fun _ _ => rfl
      have hp2 := prow_len2
      simp (disch := omega) only [wk, tis, seval, reduceCtorEq, Nat.reduceEqDiff, rqs, cpoly_len, polys_len, hF, h1, h9, hq, e, e', hpr, hp2]
      refine ⟨tmps_by (by kernel_rfl), ?_⟩
      first | exact log_by (by kernel_rfl) | refine ⟨log_by (by kernel_rfl), ?_⟩
      refine ⟨⟨i + 1, st + 1, 1, by omega, by omega, ?_⟩, by omega⟩
      rw [et]
      exact ⟨by omega, rfl, congrArg _ (rats_app ((p.take i).map fr1) (fr1 (p.getD i q0)))⟩
    · have e9 : i = 7 := by omega
      have e : (p.take i).map fr1 = fq1 p := by rw [e9]; rfl
      rw [e] at hF
      simp (disch := omega) only [wk, tis, seval, reduceCtorEq, Nat.reduceEqDiff, rqs, cpoly_len, polys_len, hF, h1, h9]
      try rfl
  · have h1 : ¬ (i : Int) < p.length := by omega
    simp (disch := omega) only [wk, tis, seval, reduceCtorEq, Nat.reduceEqDiff, rqs, cpoly_len, polys_len, hF, h1]
    rw [fq1, List.take_of_length_le (by omega), List.take_of_length_le (by omega)]
structure C14 where
  (P R K : List RI) (L : List (List RI)) (F G : List RQ)
abbrev case14 (x : C14) : List IV := [.sl (raws x.P), .sl (raws x.R), .sl (raws x.K), .sl (polys x.L), .sl (rats x.F), .sl (rats x.G)]
def less14 (x : C14) : C14 := ⟨fp2 x.P, fp2 x.R, fp2 x.K, (x.L.take 6).map fp2, fq1 x.F, fq1 x.G⟩
structure Ok14 (x : C14) : Prop where
  P : Raw x.P
  R : Raw x.R
  K : Raw x.K
  L : x.L.length ≤ 9223372036854775807 ∧ ∀ p ∈ x.L, Raw p
  F : RawQ x.F
  G : RawQ x.G
set_option maxRecDepth 100000 in
theorem less14_ok {x : C14} (h : Ok14 x) : AC Tryz.prog 5 [.agg (case14 x)] none [.agg (case14 (less14 x))] := by
  have fz : ∀ {p : List RI}, Raw p → AC Tryz.prog 25 [cw p] none [cw (fp2 p)] := fun {p} hp => few14_ok p hp.1 fun c hc => (hp.2 c hc).1
  have fq : ∀ {p : List RQ}, RawQ p → AC Tryz.prog 26 [cqw p] none [cqw (fq1 p)] := fun {p} hp => fewQ14_ok p hp.1 fun c hc => ⟨(hp.2 c hc).1.1, (hp.2 c hc).2.1⟩
  have hP := fz h.P
  have hR := fz h.R
  have hK := fz h.K
  have hFq := fq h.F
  have hG := fq h.G
  have hl := h.L.1
  refine AC.by_walk (rs := [.cell 2 28]) ords Tryz.func5 (by rfl) (by rfl) (by rfl) (by rfl) (by rfl) ?_
  simp (disch := omega) only [wk, tis, seval, reduceCtorEq, Nat.reduceEqDiff, rqs, cpoly_len, polys_len]
  refine ⟨tmps_by (by kernel_rfl), ?_⟩
  refine call_by (hP) (by rfl) (by simp) ?_
  simp (disch := omega) only [wk, tis, seval, reduceCtorEq, Nat.reduceEqDiff, rqs, cpoly_len, polys_len]
  refine call_by (hR) (by rfl) (by simp) ?_
  simp (disch := omega) only [wk, tis, seval, reduceCtorEq, Nat.reduceEqDiff, rqs, cpoly_len, polys_len]
  refine call_by (hK) (by rfl) (by simp) ?_
  simp (disch := omega) only [wk, tis, seval, reduceCtorEq, Nat.reduceEqDiff, rqs, cpoly_len, polys_len]
  refine call_by (hFq) (by rfl) (by simp) ?_
  simp (disch := omega) only [wk, tis, seval, reduceCtorEq, Nat.reduceEqDiff, rqs, cpoly_len, polys_len]
  refine call_by (hG) (by rfl) (by simp) ?_
  simp (disch := omega) only [wk, tis, seval, reduceCtorEq, Nat.reduceEqDiff, rqs, cpoly_len, polys_len]
  first | exact log_by (by kernel_rfl) | refine ⟨log_by (by kernel_rfl), ?_⟩
  refine aloop_nil 3 3 23 1 (by simp (disch := omega) only [wk, tis, seval, reduceCtorEq, Nat.reduceEqDiff, rqs, cpoly_len, polys_len]) (fun f H => ∃ (i st : Nat), i ≤ x.L.length ∧ i ≤ 6 ∧ f 4 = .iv (.int .i64 i) ∧ f 1 = .hp 1 1 0 0 ∧ H 1 = .blk false 1 28 6 [case14 ⟨fp2 x.P, fp2 x.R, fp2 x.K, x.L, fq1 x.F, fq1 x.G⟩] ∧ f 2 = .hp 2 1 0 0 ∧ H 2 = .blk false 1 28 6 [[.sl [], .sl [], .sl [], .sl [], .sl [], .sl []]] ∧ f 3 = .hs 3 st ∧ H 3 = .blk false st 23 1 (polys ((x.L.take i).map fp2))) (fun f H => (x.L.length - intAt f 4).toNat) ?_ ?_
  · refine ⟨0, 1, by omega, by omega, ?_⟩
    simp (disch := omega) only [wk, tis, seval, reduceCtorEq, Nat.reduceEqDiff, rqs, cpoly_len, polys_len, ghostF, ghostH, ghostF, ghostH, List.map_nil, case14, splice, List.take_succ_cons, List.drop_succ_cons, List.take_zero, List.drop_zero, List.take_nil, List.drop_nil, List.length_cons, List.length_nil, List.cons_append, List.nil_append, show polys [] = [] from rfl]
  rintro f H ⟨i, st, hi, hi6, hF⟩
  rw [intAt_of hF.1]
  simp (disch := omega) only [wk, tis, seval, reduceCtorEq, Nat.reduceEqDiff, rqs, cpoly_len, polys_len, hF]
  by_cases hlt : i < x.L.length
  · have h1 : (i : Int) < x.L.length := by omega
    by_cases h9 : (i : Int) < 6
    · have hq : ((x.L.take i).map fp2).length = i := by rw [List.length_map, List.length_take]; omega
      have hg : x.L.getD i [] = x.L[i] := by simp [List.getD, hlt]
      have hat := polys_at hlt
      have f := fz (p := x.L.getD i []) (by rw [hg]; exact h.L.2 _ (List.getElem_mem hlt))
      have et : (x.L.take (i + 1)).map fp2 = (x.L.take i).map fp2 ++ [fp2 (x.L.getD i [])] := by
        rw [List.take_add_one, List.getElem?_eq_getElem hlt, List.map_append, hg]; rfl
      have hsn := polys_snoc ((x.L.take i).map fp2) (fp2 (x.L.getD i []))
      simp (disch := omega) only [wk, tis, seval, reduceCtorEq, Nat.reduceEqDiff, rqs, cpoly_len, polys_len, hF, h1, h9, hq, hat]
      refine call_by (f) (by first | rfl | (simp only [tocvs, tocv, hF, h1, h9, hq, hat, hsn]; rfl) | (simp only [tocvs, tocv, toboxes, tobox, updH_at, Nat.reduceEqDiff, ↓reduceIte, hF, h1, h9, hq, hat, hsn]; rfl)) (by simp) ?_
      simp (disch := omega) only [wk, tis, seval, reduceCtorEq, Nat.reduceEqDiff, rqs, cpoly_len, polys_len, hF, h1, h9, hq, hat, hsn]
      refine ⟨⟨i + 1, st + 1, by omega, by omega, ?_⟩, by omega⟩
      rw [et]
      (repeat' apply And.intro) <;> first | rfl | omega
    · have e9 : i = 6 := by omega
      have e : (x.L.take i).map fp2 = (x.L.take 6).map fp2 := by rw [e9]
      rw [e] at hF
      simp (disch := omega) only [wk, tis, seval, reduceCtorEq, Nat.reduceEqDiff, rqs, cpoly_len, polys_len, hF, h1, h9, case14, splice, List.take_succ_cons, List.drop_succ_cons, List.take_zero, List.drop_zero, List.take_nil, List.drop_nil, List.length_cons, List.length_nil, List.cons_append, List.nil_append]
      try rfl
  · have h1 : ¬ (i : Int) < x.L.length := by omega
    have e : (x.L.take i).map fp2 = (x.L.take 6).map fp2 := by rw [List.take_of_length_le (by omega), List.take_of_length_le (by omega)]
    rw [e] at hF
    simp (disch := omega) only [wk, tis, seval, reduceCtorEq, Nat.reduceEqDiff, rqs, cpoly_len, polys_len, hF, h1, case14, splice, List.take_succ_cons, List.drop_succ_cons, List.take_zero, List.drop_zero, List.take_nil, List.drop_nil, List.length_cons, List.length_nil, List.cons_append, List.nil_append]
    try rfl
end Go.Proofs.YtenlbifnhdmnnaaGreat
