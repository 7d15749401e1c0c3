/-
  Contracts of the functions that the law reaches.
-/
import Derived.Test.YtcjnacpekbhhcaaGreatL115M
import Derived.Test.YtcjnacpekbhhcaaGreatAbsT
import Derived.Test.YtcjnacpekbhhcaaGreatL98M
namespace Go.Proofs.YtcjnacpekbhhcaaGreat
open Go Go.Proofs Go.AL
set_option linter.unusedSimpArgs false
set_option linter.unusedVariables false

end Go.Proofs.YtcjnacpekbhhcaaGreat

namespace Go.Proofs.YtcjnacpekbhhcaaGreat
open Go Go.Proofs Go.AL
set_option linter.unusedSimpArgs false
set_option linter.unusedVariables false

theorem pq_cqs (X : List Rat) : pq (qvs (cqs X)) = pq X := by rw [qvs_cqs, pq_trimq]
theorem cqs_pq {X Y : List Rat} (h : pq X = pq Y) : cqs X = cqs Y := cqs_ext (pq_eq h)
theorem qpmul_g {p q : List RQ} {n k : Nat} {X Y : List Rat} (hp : GQ n k p) (hq : GQ n k q) (hn : n ≤ 2 ^ 28) (hM : n * k + k + 2 ≤ 2 ^ 34) (hk : 1 ≤ k) (ex : pq (qvs p) = pq X) (ey : pq (qvs q) = pq Y) : AC Tryz.prog 24 [cqw p, cqw q] none [cqp (mulq X Y), ci 0] := by
  have h := qpmul_ok p q n k hp hq hn hM hk
  rwa [show cqp (mulq (qvs p) (qvs q)) = cqp (mulq X Y) from congrArg cqw (cqs_pq (by rw [pq_mulq, pq_mulq, ex, ey]))] at h
theorem qpadd_g {p q : List RQ} {K : Nat} {X Y : List Rat} (hp : GQ (2 ^ 30) K p) (hq : GQ (2 ^ 30) K q) (hK : K ≤ 2 ^ 35) (hK1 : 1 ≤ K) (ex : pq (qvs p) = pq X) (ey : pq (qvs q) = pq Y) : AC Tryz.prog 25 [cqw p, cqw q] none [cqp (addq X Y), ci 0] := by
  have h := qpadd_ok p q K hp hq hK hK1
  rwa [show cqp (addq (qvs p) (qvs q)) = cqp (addq X Y) from congrArg cqw (cqs_pq (by rw [pq_addq, pq_addq, ex, ey]))] at h
end Go.Proofs.YtcjnacpekbhhcaaGreat

namespace Go.Proofs.YtcjnacpekbhhcaaGreat
open Go Go.Proofs Go.AL
set_option linter.unusedSimpArgs false
set_option linter.unusedVariables false

/-- The sum of p and c times r. -/
def fma (c : Rat) (a b : Rat) : Rat := a + c * b
end Go.Proofs.YtcjnacpekbhhcaaGreat

namespace Go.Proofs.YtcjnacpekbhhcaaGreat
open Go Go.Proofs Go.AL
set_option linter.unusedSimpArgs false
set_option linter.unusedVariables false

end Go.Proofs.YtcjnacpekbhhcaaGreat

namespace Go.Proofs.YtcjnacpekbhhcaaGreat
open Go Go.Proofs Go.AL
set_option linter.unusedSimpArgs false
set_option linter.unusedVariables false

/-! ### Division over the rationals -/
/-- c x^n. -/
def upq (c : Rat) (n : Nat) : List Rat := List.replicate n 0 ++ [c]
/-- The quotient of the leading coefficients. -/
def dc (A B : List Rat) : Rat := cfq A (A.length - 1) / cfq B (B.length - 1)
/-- One step of the division. -/
def dn1 (A B : List Rat) : List Rat := trimq (zipq (fma (-1)) A (mulq (upq (dc A B) (A.length - B.length)) B))
theorem tzq_low {q : List Rat} {n : Nat} (h : ∀ k, n ≤ k → cfq q k = 0) : tzq q ≤ n := by
  rcases Nat.lt_or_ge n (tzq q) with h1 | h1
  · exact absurd (h (tzq q - 1) (by omega)) (cfq_tzq_pred (by omega))
  · exact h1
/-- What is left after k steps. -/
def dit (A B : List Rat) : Nat → List Rat
  | 0 => A
  | k + 1 => dn1 (dit A B k) B
theorem CD.cf {D n M : Nat} {q : List Rat} (h : CB D n M q) (k : Nat) : CD D M (cfq q k) := by
  by_cases hk : k < q.length
  · rw [cfq_lt hk]; exact h.c _ (List.getElem_mem hk)
  · rw [cfq_ge (by omega)]; exact CD.zero _ _
theorem qz_inv (q : Rat) : qz (1 / q) ≤ qz q := by
  by_cases h : q.num = 0
  · have : q = 0 := Rat.num_eq_zero.mp h
    rw [this, show (1 : Rat) / 0 = 0 by decide +kernel]
    exact Nat.le_refl _
  · have h1 : (q.num : Rat) ≠ 0 := fun e => h (Rat.intCast_eq_zero_iff.mp e)
    have h2 := natr_ne q.den_nz
    have e : (1 : Rat) / q = ((q.den : Int) : Rat) / (q.num : Rat) := by
      have h3 : q = (q.num : Rat) / (q.den : Rat) := by rw [← Rat.mkRat_eq_div]; exact (Rat.mkRat_self q).symm
      rw [Rat.intCast_natCast]
      conv => lhs; rw [h3]
      grind
    have hp := qz_parts q
    rw [e, ← mk_div h]
    refine qz_mk (by omega) ?_ ?_
    · split
      · rw [zl_neg, zl_nat]; exact hp.2
      · rw [zl_nat]; exact hp.2
    · exact hp.1
theorem qz_div (p q : Rat) : qz (p / q) ≤ qz p + qz q := by
  have h1 := qz_mul p (1 / q)
  have h2 := qz_inv q
  rw [show p * (1 / q) = p / q by rw [Rat.div_def, Rat.div_def, Rat.one_mul]] at h1
  omega
end Go.Proofs.YtcjnacpekbhhcaaGreat

namespace Go.Proofs.YtcjnacpekbhhcaaGreat
open Go Go.Proofs Go.AL
set_option linter.unusedSimpArgs false
set_option linter.unusedVariables false

/-! ### What has a common denominator is cleared by it -/
theorem CD.den_dvd {D M : Nat} {q : Rat} (hD : D ≠ 0) (h : CD D M q) : q.den ∣ D := by
  obtain ⟨z, e, hz⟩ := h
  have h1 := natr_ne hD
  have h2 := natr_ne q.den_nz
  have h3 : (q.num : Rat) / (q.den : Rat) = (z : Rat) / (D : Rat) := by
    rw [← e, ← Rat.mkRat_eq_div]; exact Rat.mkRat_self q
  have h4 : (q.num : Rat) * (D : Rat) = (z : Rat) * (q.den : Rat) := by grind
  have h5 : q.num * (D : Int) = z * (q.den : Int) := by
    rw [← Rat.intCast_natCast, ← Rat.intCast_natCast, ← Rat.intCast_mul, ← Rat.intCast_mul] at h4
    exact Rat.intCast_inj.mp h4
  have h6 : q.den ∣ q.num.natAbs * D := ⟨z.natAbs, by
    have := congrArg Int.natAbs h5
    rw [Int.natAbs_mul, Int.natAbs_mul, Int.natAbs_natCast, Int.natAbs_natCast] at this
    rw [this, Nat.mul_comm]⟩
  exact (q.reduced.symm).dvd_of_dvd_mul_left h6
/-- Products over one denominator: the product of both. -/
theorem qsum_cd {D M n : Nat} {f : Nat → Rat} (h : ∀ i, i < n → CD D M (f i)) : CD D (M + n) (qsum n f) := by
  induction n with
  | zero => exact CD.zero _ _
  | succ n ih =>
    have h1 := ih fun i hi => h i (by omega)
    have h2 := h n (by omega)
    exact (h1.add h2).mono (by omega)
theorem lcmL_dvd {D : Nat} : ∀ (l : List Nat) (i : Nat), (∀ x ∈ l, x ∣ D) → lcmL (l.take i) ∣ D
  | l, 0, _ => by rw [List.take_zero]; exact Nat.one_dvd _
  | l, i + 1, h => by
    by_cases hi : i < l.length
    · rw [lcmL_take hi]
      refine Nat.lcm_dvd (lcmL_dvd l i h) (h _ ?_)
      rw [List.getD, List.getElem?_eq_getElem hi, Option.getD_some]
      exact List.getElem_mem hi
    · rw [List.take_of_length_le (by omega), ← List.take_of_length_le (l := l) (i := i) (by omega)]
      exact lcmL_dvd l i h
theorem CB.dens_dvd {D n M : Nat} {A : List Rat} (h : CB D n M A) : ∀ x ∈ dens A, x ∣ D := fun x hx => by
  obtain ⟨c, hc, rfl⟩ := List.mem_map.1 hx
  exact (h.c c hc).den_dvd h.d
theorem CB.lcm_len {D n M : Nat} {A : List Rat} (h : CB D n M A) (i : Nat) : (wd (lcmL ((dens A).take i))).length ≤ M :=
  Nat.le_trans (wd_len_mono (Nat.le_of_dvd (Nat.pos_of_ne_zero h.d) (lcmL_dvd _ i h.dens_dvd))) h.w
theorem CB.cden_dvd {D n M : Nat} {A : List Rat} (h : CB D n M A) : cden A ∣ D := by
  have := lcmL_dvd (dens A) (dens A).length h.dens_dvd
  rwa [List.take_length] at this
theorem CB.cden_len {D n M : Nat} {A : List Rat} (h : CB D n M A) : (wd (cden A)).length ≤ M :=
  Nat.le_trans (wd_len_mono (Nat.le_of_dvd (Nat.pos_of_ne_zero h.d) h.cden_dvd)) h.w
theorem CB.mulq {D E n m M N : Nat} {A B : List Rat} (hA : CB D n M A) (hB : CB E m N B) : CB (D * E) (n + m) (M + N + (n + m)) (mulq A B) where
  d := Nat.mul_ne_zero hA.d hB.d
  w := by
    have h1 := AL.wd_mul_len D E
    have h2 := hA.w
    have h3 := hB.w
    omega
  l := by
    simp only [mulq_def, List.length_map, List.length_range]
    have := hA.l
    have := hB.l
    omega
  c := fun c hc => by
    obtain ⟨k, hk, rfl⟩ := List.getElem_of_mem hc
    have hl : k < n + m := by
      simp only [mulq_def, List.length_map, List.length_range] at hk
      have := hA.l
      have := hB.l
      omega
    rw [← cfq_lt hk, cfq_mulq, PQ.cvq_conv]
    exact (qsum_cd (n := k + 1) (f := fun i => cfq A i * cfq B (k - i)) fun i _ => CD.mul hA.d hB.d (CD.cf hA _) (CD.cf hB _)).mono (by omega)
end Go.Proofs.YtcjnacpekbhhcaaGreat

namespace Go.Proofs.YtcjnacpekbhhcaaGreat
open Go Go.Proofs Go.AL
set_option linter.unusedSimpArgs false
set_option linter.unusedVariables false

end Go.Proofs.YtcjnacpekbhhcaaGreat

namespace Go.Proofs.YtcjnacpekbhhcaaGreat
open Go Go.Proofs Go.AL
set_option linter.unusedSimpArgs false
set_option linter.unusedVariables false

theorem set_crat {X Y : List Rat} {i : Nat} {c : Rat} (hl : X.length = Y.length) (hc : cfq Y i = c) (ho : ∀ j, j < Y.length → j ≠ i → cfq Y j = cfq X j) : (X.map crat).set i (crat c) = Y.map crat := by
  rw [← List.map_set]
  congr 1
  refine List.ext_getElem (by rw [List.length_set, hl]) fun j h1 h2 => ?_
  rw [List.getElem_set]
  split
  · rename_i e; subst e; rw [← hc, cfq_lt h2]
  · rename_i e
    have := ho j h2 (fun h => e h.symm)
    rw [cfq_lt h2, cfq_lt (by rw [List.length_set] at h1; exact h1)] at this
    exact this.symm
/-- What a division of A by B that ends after n steps is known by. -/
structure DV (A B : List Rat) (n K : Nat) : Prop where
  la : A.length ≤ 2 ^ 28
  lb : B.length ≤ 2 ^ 28
  h0 : B.length ≠ 0
  hb : cfq B (B.length - 1) ≠ 0
  ta : trimq A = A
  tb : trimq B = B
  en : (dit A B n).length < B.length
  hj : ∀ j, j < n → B.length ≤ (dit A B j).length
  za : ∀ k, k ≤ n → ∀ i, qz (cfq (dit A B k) i) ≤ K
  zb : ∀ i, qz (cfq B i) ≤ K
  k1 : 1 ≤ K
  k2 : K ≤ 2 ^ 32

def hrows : HC → Nat
  | .blk _ _ _ _ rows => rows.length
  | .none => 0
end Go.Proofs.YtcjnacpekbhhcaaGreat

namespace Go.Proofs.YtcjnacpekbhhcaaGreat
open Go Go.Proofs Go.AL
set_option linter.unusedSimpArgs false
set_option linter.unusedVariables false

end Go.Proofs.YtcjnacpekbhhcaaGreat

namespace Go.Proofs.YtcjnacpekbhhcaaGreat
open Go Go.Proofs Go.AL
set_option linter.unusedSimpArgs false
set_option linter.unusedVariables false

end Go.Proofs.YtcjnacpekbhhcaaGreat

namespace Go.Proofs.YtcjnacpekbhhcaaGreat
open Go Go.Proofs Go.AL
set_option linter.unusedSimpArgs false
set_option linter.unusedVariables false

/-! ### Powers by common denominators -/
theorem CB.one_list : CB 1 1 1 [1] where
  d := by omega
  w := by decide +kernel
  l := Nat.le_refl _
  c := fun c hc => by
    rcases List.mem_singleton.1 hc with rfl
    exact ⟨1, by decide +kernel, by decide +kernel⟩
/-- Every power to the m-th has a common denominator of bounded length. -/
def PWH (A : List Rat) (m N K : Nat) : Prop := ∀ k, k ≤ m → ∃ D, CB D N K (powq A k)
/-- What a power is known by. -/
structure PWK (A : List Rat) (m N K : Nat) : Prop where
  h : ∀ k, k ≤ m → ∃ D, CB D N K (trimq (powq A k))
theorem PWH.k {A : List Rat} {m N K : Nat} (h : PWH A m N K) : PWK A m N K := ⟨fun k hk => by
  obtain ⟨D, hD⟩ := h k hk
  exact ⟨D, hD.trim⟩⟩
theorem PWK.mono {A : List Rat} {m N K N' K' : Nat} (h : PWK A m N K) (hN : N ≤ N') (hK : K ≤ K') : PWK A m N' K' := ⟨fun k hk => by
  obtain ⟨D, hD⟩ := h.h k hk
  exact ⟨D, hD.mono hN hK⟩⟩
end Go.Proofs.YtcjnacpekbhhcaaGreat

namespace Go.Proofs.YtcjnacpekbhhcaaGreat
open Go Go.Proofs Go.AL
set_option linter.unusedSimpArgs false
set_option linter.unusedVariables false

/-! ### Values are a homomorphism -/
theorem evq_addq : ∀ (p q : List Rat) (x : Rat), evq (addq p q) x = evq p x + evq q x
  | [], q, x => by
    rw [evq_ext x (q := q) fun k => by rw [cfq_addq, cfq_nil, Rat.zero_add], evq, Rat.zero_add]
  | c :: p, [], x => by
    rw [evq_ext x (q := c :: p) fun k => by rw [cfq_addq, cfq_nil, Rat.add_zero], evq_nil, Rat.add_zero]
  | c :: p, d :: q, x => by
    have e : ∀ k, cfq (addq (c :: p) (d :: q)) k = cfq ((c + d) :: addq p q) k := fun k => by
      rw [cfq_addq]
      cases k with
      | zero => rfl
      | succ k => rw [cfq_cons_succ, cfq_cons_succ, cfq_cons_succ, cfq_addq]
    rw [evq_ext x e, evq, evq, evq, evq_addq p q x]
    grind
theorem evq_sclq (c : Rat) (p : List Rat) (x : Rat) : evq (sclq c p) x = c * evq p x := by
  induction p with
  | nil => rw [show sclq c [] = [] from rfl, evq]; grind
  | cons d p ih =>
    rw [show sclq c (d :: p) = (d * c) :: sclq c p from rfl, evq, evq, ih]
    grind
theorem evq_mulq : ∀ (p q : List Rat) (x : Rat), evq (mulq p q) x = evq p x * evq q x
  | [], q, x => by
    rw [evq_ext x (q := []) fun k => by rw [cfq_mulq]; rfl, evq]
    grind
  | c :: p, q, x => by
    have e : ∀ k, cfq (mulq (c :: p) q) k = cfq (addq (sclq c q) (0 :: mulq p q)) k := fun k => by
      rw [cfq_mulq_cons, cfq_addq, cfq_sclq, Rat.mul_comm c]
      congr 1
      cases k with
      | zero => rfl
      | succ k => rfl
    rw [evq_ext x e, evq_addq, evq_sclq, evq, evq, evq_mulq p q x]
    grind

end Go.Proofs.YtcjnacpekbhhcaaGreat

namespace Go.Proofs.YtcjnacpekbhhcaaGreat
open Go Go.Proofs Go.AL
set_option linter.unusedSimpArgs false
set_option linter.unusedVariables false

/-! ### A polynomial of low degree with many zeros is 0 -/
theorem sqq_cons (c d : Rat) (p : List Rat) (a : Rat) : sqq (c :: d :: p) a = evq (d :: p) a :: sqq (d :: p) a := by
  simp only [sqq, List.length_cons, Nat.add_sub_cancel, List.range_succ_eq_map, List.map_cons, List.map_map, List.drop_succ_cons, List.drop_zero]
  rfl
theorem evq_cons (c : Rat) (p : List Rat) (x : Rat) : evq (c :: p) x = c + x * evq p x := rfl
theorem evq_split (p : List Rat) (a x : Rat) : evq p x = evq p a + (x - a) * evq (sqq p a) x := by
  induction p with
  | nil => rw [sqq_nil, evq_nil, evq_nil]; grind
  | cons c p ih =>
    cases p with
    | nil => rw [show sqq [c] a = [] from rfl]; simp only [evq_cons, evq_nil]; grind
    | cons d p =>
      rw [sqq_cons, evq_cons c, evq_cons c, evq_cons (evq (d :: p) a), ih]
      generalize evq (d :: p) a = u
      generalize evq (sqq (d :: p) a) x = v
      grind
theorem sqq_all_zero {p : List Rat} {a : Rat} (h : ∀ k, cfq (sqq p a) k = 0) (h0 : evq p a = 0) : ∀ k, cfq p k = 0 := fun k => by
  by_cases hk : k < p.length
  · have e := evq_drop p a hk
    have e1 : evq (p.drop (k + 1)) a = 0 := by rw [← cfq_sqq]; exact h k
    have e2 : evq (p.drop k) a = 0 := by
      cases k with
      | zero => rwa [List.drop_zero]
      | succ j => rw [← cfq_sqq]; exact h j
    rw [e1, e2] at e
    show p.getD k 0 = 0
    grind
  · exact cfq_ge (by omega)
theorem roots_zero : ∀ (X p : List Rat), p.length ≤ X.length → X.Nodup → (∀ x ∈ X, evq p x = 0) → ∀ k, cfq p k = 0
  | [], p, hl, _, _ => by
    rw [List.length_eq_zero_iff.mp (Nat.le_zero.mp hl)]; exact cfq_nil
  | a :: X, p, hl, hd, hz => by
    have hd' := List.nodup_cons.mp hd
    refine sqq_all_zero (roots_zero X (sqq p a) (by rw [sqq_len]; rw [List.length_cons] at hl; omega) hd'.2 fun x hx => ?_) (hz a (by simp))
    have e := evq_split p a x
    rw [hz x (by simp [hx]), hz a (by simp)] at e
    have hne : x ≠ a := fun e => hd'.1 (e ▸ hx)
    have hne' : x - a ≠ 0 := fun h => hne (by grind)
    grind
theorem roots_low {X p : List Rat} (hl : ∀ k, X.length ≤ k → cfq p k = 0) (hd : X.Nodup) (hz : ∀ x ∈ X, evq p x = 0) (k : Nat) : cfq p k = 0 := by
  rw [← cfq_trimq]
  refine roots_zero X (trimq p) ?_ hd (fun x hx => by rw [evq_trim]; exact hz x hx) k
  rw [trimq_len]
  exact tzq_low hl
/-- What is known at as many places as it has coefficients is known. -/
theorem interp_unique {X p q : List Rat} (hp : ∀ k, X.length ≤ k → cfq p k = 0) (hq : ∀ k, X.length ≤ k → cfq q k = 0) (hd : X.Nodup) (hz : ∀ x ∈ X, evq p x = evq q x) (k : Nat) : cfq p k = cfq q k := by
  have h := roots_low (X := X) (p := addq p (sclq (-1) q)) (fun k hk => by rw [cfq_addq, cfq_sclq, hp k hk, hq k hk]; grind) hd (fun x hx => by rw [evq_addq, evq_sclq, hz x hx]; grind) k
  rw [cfq_addq, cfq_sclq] at h
  grind
theorem nodup_of {X : List Rat} (h : ∀ i j, j < i → i < X.length → cfq X i ≠ cfq X j) : X.Nodup := by
  rw [List.Nodup, List.pairwise_iff_getElem]
  intro i j hi hj hij e
  have := h j i hij hj
  rw [cfq_lt hj, cfq_lt hi] at this
  exact this e.symm
theorem nodup_cf {X : List Rat} (h : X.Nodup) {i j : Nat} (hi : i < X.length) (hj : j < X.length) (hij : i ≠ j) : cfq X i ≠ cfq X j := by
  rw [cfq_lt hi, cfq_lt hj]
  rw [List.Nodup, List.pairwise_iff_getElem] at h
  rcases Nat.lt_or_gt_of_ne hij with hl | hl
  · exact h i j hi hj hl
  · exact fun e => h j i hj hi hl e.symm

/-! ### Products of x - r -/
def lineq (c : Rat) : List Rat := [-c, 1]
theorem evq_line (c x : Rat) : evq (lineq c) x = x - c := by
  rw [lineq, evq, evq, evq_nil]; grind
theorem cfq_line (c : Rat) (k : Nat) (h : 1 < k) : cfq (lineq c) k = 0 := cfq_ge (by simp [lineq]; omega)
def froot (X : List Rat) (b : Nat) : Nat → List Rat
  | 0 => [1]
  | k + 1 => if k = b then froot X b k else mulq (froot X b k) (lineq (cfq X k))
theorem froot_zero (X : List Rat) (b k i : Nat) (hi : i < k) (hb : i ≠ b) : evq (froot X b k) (cfq X i) = 0 := by
  induction k with
  | zero => omega
  | succ k ih =>
    rw [froot]
    by_cases hk : i = k
    · subst hk
      rw [if_neg hb, evq_mulq, evq_line]; grind
    · have h := ih (by omega)
      split
      · exact h
      · rw [evq_mulq, h, Rat.zero_mul]
theorem froot_ne (X : List Rat) (b k : Nat) (x : Rat) (h : ∀ i, i < k → i ≠ b → x ≠ cfq X i) : evq (froot X b k) x ≠ 0 := by
  induction k with
  | zero => rw [froot, evq, evq_nil]; grind
  | succ k ih =>
    have h1 := ih fun i hi => h i (by omega)
    rw [froot]
    split
    · exact h1
    · rename_i hk
      have h2 := h k (by omega) hk
      rw [evq_mulq, evq_line]
      have h3 : x - cfq X k ≠ 0 := fun e => h2 (by grind)
      exact fun e => by rcases Rat.mul_eq_zero.mp e with e | e <;> contradiction
/-- Its degree. -/
def fdeg (b k : Nat) : Nat := if b < k then k - 1 else k
theorem froot_deg (X : List Rat) (b k : Nat) : cfq (froot X b k) (fdeg b k) = 1 ∧ ∀ j, fdeg b k < j → cfq (froot X b k) j = 0 := by
  induction k with
  | zero =>
    refine ⟨rfl, fun j hj => cfq_ge ?_⟩
    rw [froot, List.length_singleton]; omega
  | succ k ih =>
    rw [froot]
    by_cases hk : k = b
    · rw [if_pos hk, show fdeg b (k + 1) = fdeg b k by unfold fdeg; rw [if_pos (by omega), if_neg (by omega)]; omega]
      exact ih
    · rw [if_neg hk, show fdeg b (k + 1) = fdeg b k + 1 by unfold fdeg; split <;> split <;> omega]
      obtain ⟨h1, h2⟩ := cvq_top (g := cfq (lineq (cfq X k))) (n := 1) (fun j hj => cfq_line _ j hj) (froot X b k) (fdeg b k) ih.2
      refine ⟨?_, fun j hj => by rw [cfq_mulq]; exact h2 j hj⟩
      rw [cfq_mulq, h1, ih.1, show cfq (lineq (cfq X k)) 1 = 1 from rfl, Rat.mul_one]
theorem CB.line {c : Rat} {K : Nat} (h : qz c ≤ K) : CB c.den 2 K (lineq c) where
  d := c.den_nz
  w := Nat.le_trans (qz_parts c).2 h
  l := Nat.le_refl _
  c := fun x hx => by
    rcases List.mem_cons.1 hx with rfl | hx
    · exact ((CD.ofRat c).neg).mono (Nat.le_trans (qz_parts c).1 h)
    · rcases List.mem_singleton.1 hx with rfl
      refine ⟨(c.den : Int), ?_, ?_⟩
      · rw [Rat.intCast_natCast, Rat.div_def, Rat.mul_inv_cancel _ (natr_ne c.den_nz)]
      · rw [zl_nat]; exact Nat.le_trans (qz_parts c).2 h
theorem froot_cb {X : List Rat} {K N : Nat} (h : ∀ i, qz (cfq X i) ≤ K) (b : Nat) : ∀ k, k ≤ N → ∃ E, CB E (1 + 2 * k) (1 + k * (K + 2 * N + 3)) (froot X b k)
  | 0, _ => ⟨1, by rw [Nat.mul_zero, Nat.zero_mul]; exact CB.one_list⟩
  | k + 1, hk => by
    obtain ⟨E, hE⟩ := froot_cb (N := N) h b k (by omega)
    have e2 : (k + 1) * (K + 2 * N + 3) = k * (K + 2 * N + 3) + (K + 2 * N + 3) := Nat.succ_mul k _
    rw [froot]
    split
    · exact ⟨E, hE.mono (by omega) (by omega)⟩
    · exact ⟨_, (hE.mulq (CB.line (h k))).mono (by omega) (by omega)⟩

/-! ### Sums over common denominators -/
theorem CB.addq {D E n m M N : Nat} {A B : List Rat} (hA : CB D n M A) (hB : CB E m N B) : CB (D * E) (max n m) (M + N + 1) (addq A B) where
  d := Nat.mul_ne_zero hA.d hB.d
  w := by
    have h1 := AL.wd_mul_len D E
    have h2 := hA.w
    have h3 := hB.w
    omega
  l := by
    simp only [Go.Proofs.YtcjnacpekbhhcaaGreat.addq, List.length_map, List.length_range]
    have := hA.l
    have := hB.l
    omega
  c := fun c hc => by
    obtain ⟨k, hk, rfl⟩ := List.getElem_of_mem hc
    rw [← cfq_lt hk, cfq_addq]
    have h1 := CD.up hA.d hB.d hB.w (CD.cf hA k)
    have h2 := CD.up hB.d hA.d hA.w (CD.cf hB k)
    rw [Nat.mul_comm] at h2
    exact (h1.add h2).mono (by omega)
theorem CB.const {c : Rat} {K : Nat} (h : qz c ≤ K) : CB c.den 1 K [c] where
  d := c.den_nz
  w := Nat.le_trans (qz_parts c).2 h
  l := Nat.le_refl _
  c := fun x hx => by
    rcases List.mem_singleton.1 hx with rfl
    exact (CD.ofRat x).mono (Nat.le_trans (qz_parts x).1 h)

/-! ### Lagrange's sum -/
def lagk (X Y : List Rat) (i : Nat) : Rat := cfq Y i / evq (froot X i X.length) (cfq X i)
def lags (X Y : List Rat) : Nat → List Rat
  | 0 => []
  | i + 1 => addq (lags X Y i) (mulq (froot X i X.length) [lagk X Y i])
theorem evq_const (c x : Rat) : evq [c] x = c := by rw [evq, evq_nil]; grind
theorem lag_ne {X : List Rat} (hd : X.Nodup) {i : Nat} (hi : i < X.length) : evq (froot X i X.length) (cfq X i) ≠ 0 :=
  froot_ne X i X.length _ fun j hj hji => nodup_cf hd hi hj (Ne.symm hji)
theorem lags_at {X Y : List Rat} (hd : X.Nodup) {j : Nat} (hj : j < X.length) : ∀ k, k ≤ X.length → evq (lags X Y k) (cfq X j) = if j < k then cfq Y j else 0
  | 0, _ => by rw [lags, evq_nil, if_neg (by omega)]
  | k + 1, hk => by
    rw [lags, evq_addq, evq_mulq, evq_const, lags_at hd hj k (by omega)]
    by_cases e : j = k
    · subst e
      rw [if_neg (by omega), if_pos (by omega), lagk]
      have := lag_ne hd hj
      grind
    · rw [froot_zero X k X.length j hj e, Rat.zero_mul, Rat.add_zero]
      by_cases h : j < k
      · rw [if_pos h, if_pos (by omega)]
      · rw [if_neg h, if_neg (by omega)]
theorem lags_deg (X Y : List Rat) : ∀ k, k ≤ X.length → ∀ j, X.length ≤ j → cfq (lags X Y k) j = 0
  | 0, _, j, _ => by rw [lags]; rfl
  | k + 1, hk, j, hj => by
    rw [lags, cfq_addq, lags_deg X Y k (by omega) j hj, Rat.zero_add]
    have hf := (froot_deg X k X.length).2
    have e : fdeg k X.length = X.length - 1 := by unfold fdeg; rw [if_pos (by omega)]
    rw [e] at hf
    obtain ⟨_, h2⟩ := cvq_top (g := cfq [lagk X Y k]) (n := 0) (fun i hi => cfq_ge (by simp; omega)) (froot X k X.length) (X.length - 1) hf
    rw [cfq_mulq]
    exact h2 j (by omega)
theorem lagk_z {X Y : List Rat} {K : Nat} (hX : ∀ i, qz (cfq X i) ≤ K) (hY : ∀ i, qz (cfq Y i) ≤ K) (hl : X.length ≤ 40) (i : Nat) : qz (lagk X Y i) ≤ K + (81 * (1 + 40 * (K + 83) + K + 1) + 1) := by
  obtain ⟨E, hE⟩ := froot_cb (N := 40) hX i X.length hl
  have hE' := hE.mono (n := 1 + 2 * X.length) (m := 81) (N := 1 + 40 * (K + 83)) (by omega) (by
    have : X.length * (K + 2 * 40 + 3) ≤ 40 * (K + 2 * 40 + 3) := Nat.mul_le_mul_right _ hl
    omega)
  have hq := hE'.qb
  have h1 := qz_evq (K := 1 + 40 * (K + 83)) (hX i) hq.2
  have h2 := Nat.mul_le_mul_right (1 + 40 * (K + 83) + K + 1) hq.1
  have h3 := qz_div (cfq Y i) (evq (froot X i X.length) (cfq X i))
  have h4 := hY i
  unfold lagk
  omega
/-- The term's sizes. -/
def lagT (K : Nat) : Nat := (1 + 40 * (K + 83)) + (K + (81 * (1 + 40 * (K + 83) + K + 1) + 1)) + 82
theorem lags_cb {X Y : List Rat} {K : Nat} (hX : ∀ i, qz (cfq X i) ≤ K) (hY : ∀ i, qz (cfq Y i) ≤ K) (hl : X.length ≤ 40) : ∀ k, ∃ E, CB E 82 (1 + k * (lagT K + 1)) (lags X Y k)
  | 0 => ⟨1, by omega, by rw [Nat.zero_mul]; decide +kernel, Nat.zero_le _, fun c hc => nomatch hc⟩
  | k + 1 => by
    obtain ⟨E, hE⟩ := lags_cb hX hY hl k
    obtain ⟨F, hF⟩ := froot_cb (N := 40) hX k X.length hl
    have hF' := hF.mono (n := 1 + 2 * X.length) (m := 81) (N := 1 + 40 * (K + 83)) (by omega) (by
      have : X.length * (K + 2 * 40 + 3) ≤ 40 * (K + 2 * 40 + 3) := Nat.mul_le_mul_right _ hl
      omega)
    have hm := hF'.mulq (CB.const (lagk_z hX hY hl k))
    have e2 : (k + 1) * (lagT K + 1) = k * (lagT K + 1) + (lagT K + 1) := Nat.succ_mul k _
    exact ⟨_, (hE.addq hm).mono (by omega) (by unfold lagT at *; omega)⟩

/-! ### Newton's sum -/
def newc (X Y S : List Rat) (k : Nat) : Rat := (cfq Y k - evq S (cfq X k)) / evq (froot X X.length k) (cfq X k)
def news (X Y : List Rat) : Nat → List Rat
  | 0 => []
  | k + 1 => addq (news X Y k) (sclq (newc X Y (news X Y k) k) (froot X X.length k))
theorem news_at {X Y : List Rat} : ∀ k, k ≤ X.length → (∀ i j, j < i → i < k → cfq X i ≠ cfq X j) → ∀ j, j < k → evq (news X Y k) (cfq X j) = cfq Y j
  | 0, _, _, j, hj => by omega
  | k + 1, hk, hd, j, hj => by
    rw [news, evq_addq, evq_sclq]
    by_cases e : j = k
    · subst e
      have hne : evq (froot X X.length j) (cfq X j) ≠ 0 := froot_ne X X.length j _ fun i hi _ => hd j i hi (by omega)
      unfold newc
      grind
    · rw [froot_zero X X.length k j (by omega) (by omega), Rat.mul_zero, Rat.add_zero]
      exact news_at k (by omega) (fun i j h1 h2 => hd i j h1 (by omega)) j (by omega)
theorem news_deg (X Y : List Rat) : ∀ k, k ≤ X.length → ∀ j, k ≤ j → cfq (news X Y k) j = 0
  | 0, _, j, _ => by rw [news]; rfl
  | k + 1, hk, j, hj => by
    have hf := (froot_deg X X.length k).2 j (by unfold fdeg; rw [if_neg (by omega)]; omega)
    rw [news, cfq_addq, cfq_sclq, hf, Rat.zero_mul, Rat.add_zero]
    exact news_deg X Y k (by omega) j (by omega)
theorem cfq_take {q : List Rat} {n i : Nat} (h : i < n) : cfq (q.take n) i = cfq q i := by
  simp [cfq, List.getD, List.getElem?_take, h]
theorem news_lags {X Y : List Rat} {k : Nat} (hk : k ≤ X.length) (hd : ∀ i j, j < i → i < k → cfq X i ≠ cfq X j) (j : Nat) : cfq (news X Y k) j = cfq (lags (X.take k) (Y.take k) k) j := by
  have hl : (X.take k).length = k := by rw [List.length_take]; omega
  have hn : (X.take k).Nodup := nodup_of fun i j h1 h2 => by
    rw [hl] at h2
    rw [cfq_take h2, cfq_take (by omega)]
    exact hd i j h1 h2
  refine interp_unique (X := X.take k) (fun i hi => news_deg X Y k hk i (by omega)) (fun i hi => lags_deg (X.take k) (Y.take k) k (by omega) i hi) hn (fun x hx => ?_) j
  obtain ⟨i, hi, rfl⟩ := List.getElem_of_mem hx
  rw [← cfq_lt hi]
  rw [lags_at hn hi k (by omega), if_pos (by omega), cfq_take (by omega), cfq_take (by omega)]
  exact news_at k hk hd i (by omega)
theorem qz_take {q : List Rat} {K : Nat} (hK : 1 ≤ K) (h : ∀ i, qz (cfq q i) ≤ K) (n i : Nat) : qz (cfq (q.take n) i) ≤ K := by
  by_cases hi : i < n
  · rw [cfq_take hi]; exact h i
  · rw [cfq_ge (by rw [List.length_take]; omega), qz_zero]; exact hK
theorem news_z {X Y : List Rat} {K k : Nat} (hK : 1 ≤ K) (hX : ∀ i, qz (cfq X i) ≤ K) (hY : ∀ i, qz (cfq Y i) ≤ K) (hl : X.length ≤ 40) (hk : k ≤ X.length) (hd : ∀ i j, j < i → i < k → cfq X i ≠ cfq X j) (j : Nat) : qz (cfq (news X Y k) j) ≤ 1 + 40 * (lagT K + 1) := by
  rw [news_lags hk hd]
  obtain ⟨E, hE⟩ := lags_cb (X := X.take k) (Y := Y.take k) (qz_take hK hX k) (qz_take hK hY k) (by rw [List.length_take]; omega) k
  have h1 := hE.qb.cz (by omega) j
  have h2 : k * (lagT K + 1) ≤ 40 * (lagT K + 1) := Nat.mul_le_mul_right _ (by omega)
  omega
/-- Both sums are the same. -/
theorem news_eq {X Y : List Rat} (hd : X.Nodup) (j : Nat) : cfq (news X Y X.length) j = cfq (lags X Y X.length) j := by
  refine interp_unique (X := X) (fun i hi => news_deg X Y _ (Nat.le_refl _) i hi) (fun i hi => lags_deg X Y _ (Nat.le_refl _) i hi) hd (fun x hx => ?_) j
  obtain ⟨i, hi, rfl⟩ := List.getElem_of_mem hx
  rw [← cfq_lt hi, lags_at hd hi _ (Nat.le_refl _), if_pos hi]
  exact news_at _ (Nat.le_refl _) (fun i j h1 h2 => nodup_cf hd h2 (by omega) (by omega)) i hi
end Go.Proofs.YtcjnacpekbhhcaaGreat

namespace Go.Proofs.YtcjnacpekbhhcaaGreat
open Go Go.Proofs Go.AL
set_option linter.unusedSimpArgs false
set_option linter.unusedVariables false

/-- A place of the table. -/
structure TPl (x s y : RQ) (i : Nat) : Prop where
  v : qv y = qv x + (i : Rat) * qv s
  z : SzQ (200 + i * 201) y
  d : nv y.2 ≠ 0
theorem egood_ok (l : List RQ) (h : BQ (2 ^ 40) (2 ^ 38) l) : AC Tryz.prog 53 [cqw l] none [cb (gd l)] := by
  have g := qgood_ok l (h.mono (by omega) (by omega))
  refine AC.by_walk (rs := [.tmp 2]) ords Tryz.func53 (by rfl) (by rfl) (by rfl) (by rfl) (by rfl) ?_
  simp (disch := omega) only [wk, tis, Int.reduceNe, Int.reduceEq, Int.reduceLT, Int.reduceLE, Int.reduceAdd, Int.reduceSub, Int.reduceNeg, Int.reduceMul, Int.reduceToNat, Nat.reduceSub, Nat.reduceMul, Nat.reduceLeDiff, Nat.reduceAdd, Nat.reduceLT, Nat.reduceEqDiff, reduceCtorEq, ↓reduceIte, rqs, case12_A, case12_B, case12_X, case12_Y, ints_two]
  refine call_by (g) (by rfl) (by simp) ?_
  simp (disch := omega) only [wk, tis, Int.reduceNe, Int.reduceEq, Int.reduceLT, Int.reduceLE, Int.reduceAdd, Int.reduceSub, Int.reduceNeg, Int.reduceMul, Int.reduceToNat, Nat.reduceSub, Nat.reduceMul, Nat.reduceLeDiff, Nat.reduceAdd, Nat.reduceLT, Nat.reduceEqDiff, reduceCtorEq, ↓reduceIte, rqs, case12_A, case12_B, case12_X, case12_Y, ints_two]
  try rfl
end Go.Proofs.YtcjnacpekbhhcaaGreat

namespace Go.Proofs.YtcjnacpekbhhcaaGreat
open Go Go.Proofs Go.AL
set_option linter.unusedSimpArgs false
set_option linter.unusedVariables false

/-! ### Rows of the product, so far -/
def mrow (A B : List Rat) (i j : Nat) : List Rat := (List.range (A.length + B.length - 1)).map fun k => cvq (A.take i) (cfq B) k + if i ≤ k ∧ k < i + j then cfq A i * cfq B (k - i) else 0
theorem mrow_len (A B : List Rat) (i j : Nat) : (mrow A B i j).length = A.length + B.length - 1 := by simp [mrow]
theorem cfq_mrow {A B : List Rat} {i j k : Nat} (h : k < A.length + B.length - 1) : cfq (mrow A B i j) k = cvq (A.take i) (cfq B) k + if i ≤ k ∧ k < i + j then cfq A i * cfq B (k - i) else 0 := by
  rw [mrow, cfq, List.getD, List.getElem?_map, List.getElem?_range h]; rfl
theorem mrow_zero (A B : List Rat) : (mrow A B 0 0).map crat = List.replicate (A.length + B.length - 1) (crat 0) := by
  have e : mrow A B 0 0 = List.replicate (A.length + B.length - 1) 0 := by
    apply List.ext_getElem
    · simp [mrow]
    · intro k h1 h2
      simp only [mrow, List.getElem_map, List.getElem_range, List.getElem_replicate, List.take_zero]
      rw [if_neg (by omega), Rat.add_zero]
      exact rfl
  rw [e, List.map_replicate]
theorem mrow_set {A B : List Rat} {i j : Nat} (hi : i < A.length) (hj : j < B.length) : ((mrow A B i j).map crat).set (i + j) (crat (cfq (mrow A B i j) (i + j) + cfq A i * cfq B j)) = (mrow A B i (j + 1)).map crat := by
  refine set_crat (by rw [mrow_len, mrow_len]) ?_ fun k hk hne => ?_
  · rw [cfq_mrow (by omega), cfq_mrow (by omega), if_pos (by omega), if_neg (by omega), Nat.add_sub_cancel_left, Rat.add_zero]
  · rw [mrow_len] at hk
    rw [cfq_mrow hk, cfq_mrow hk]
    congr 1
    by_cases h : i ≤ k ∧ k < i + j
    · rw [if_pos h, if_pos (by omega)]
    · rw [if_neg h, if_neg (by omega)]
theorem mrow_next {A B : List Rat} (i : Nat) : mrow A B i B.length = mrow A B (i + 1) 0 := by
  unfold mrow
  refine List.map_congr_left fun k hk => ?_
  rw [cvq_take_succ, if_neg (show ¬ (i + 1 ≤ k ∧ k < i + 1 + 0) by omega), Rat.add_zero]
  congr 1
  by_cases h : i ≤ k
  · by_cases h2 : k < i + B.length
    · rw [if_pos ⟨h, h2⟩, if_pos h]
    · rw [if_neg (by omega), if_pos h, cfq_ge (q := B) (by omega), Rat.mul_zero]
  · rw [if_neg (by omega), if_neg h]
theorem mrow_end (A B : List Rat) (k : Nat) : cfq (mrow A B A.length 0) k = cfq (mulq A B) k := by
  by_cases h : k < A.length + B.length - 1
  · rw [cfq_mrow h, if_neg (by omega), Rat.add_zero, List.take_length, cfq_mulq]
  · rw [cfq_ge (by rw [mrow_len]; omega), cfq_mulq, cvq_zero (n := B.length) A (fun j hj => cfq_ge hj) (by omega)]
theorem mrow_z {A B : List Rat} {Z : Nat} (h1 : 1 ≤ Z) (hz : ∀ i k, qz (cvq (A.take i) (cfq B) k) ≤ Z) (i j k : Nat) : qz (cfq (mrow A B i j) k) ≤ Z := by
  by_cases h : k < A.length + B.length - 1
  · rw [cfq_mrow h]
    by_cases h2 : i ≤ k ∧ k < i + j
    · rw [if_pos h2]
      have := cvq_take_succ (g := cfq B) A i k
      rw [if_pos h2.1] at this
      rw [← this]
      exact hz _ _
    · rw [if_neg h2, Rat.add_zero]; exact hz _ _
  · rw [cfq_ge (by rw [mrow_len]; omega), qz_zero]; exact h1
theorem repq_set {N i : Nat} (h : i < N) : (List.replicate i (crat 0) ++ List.replicate (N - i) q0).set i (crat 0) = List.replicate (i + 1) (crat 0) ++ List.replicate (N - (i + 1)) q0 := by
  rw [List.set_append_right _ _ (by simp), List.length_replicate, Nat.sub_self, show N - i = (N - (i + 1)) + 1 by omega, List.replicate_succ, List.set_cons_zero, List.replicate_succ', List.append_assoc]
  rfl

set_option maxRecDepth 100000 in
theorem hmulq_ok (A B : List Rat) (hA : QB (2 ^ 30) (2 ^ 33) A) (hB : QB (2 ^ 30) (2 ^ 33) B) (hz : ∀ i k, qz (cvq (A.take i) (cfq B) k) ≤ 2 ^ 34) : AC Tryz.prog 60 [cqw (A.map crat), cqw (B.map crat)] none [cqp (mulq A B)] := by
  have hAl := hA.1
  have hBl := hB.1
  have hqa : (A.map crat).length = A.length := List.length_map _
  have hqb : (B.map crat).length = B.length := List.length_map _
  refine AC.by_walk (rs := [.tmp 4]) ords Tryz.func60 (by rfl) (by rfl) (by rfl) (by rfl) (by rfl) ?_
  simp (disch := omega) only [wk, tis, Int.reduceNe, Int.reduceEq, Int.reduceLT, Int.reduceLE, Int.reduceAdd, Int.reduceSub, Int.reduceNeg, Int.reduceMul, Int.reduceToNat, Nat.reduceSub, Nat.reduceMul, Nat.reduceLeDiff, Nat.reduceAdd, Nat.reduceLT, Nat.reduceEqDiff, reduceCtorEq, ↓reduceIte, rqs]
  by_cases ha : A.length = 0
  · have ha' : (A.length : Int) = 0 := by omega
    have e := List.length_eq_zero_iff.mp ha
    rw [show cqp (mulq A B) = cqw [] from congrArg cqw (mulq_nil (.inl (by rw [e]; rfl)))]
    simp (disch := omega) only [wk, tis, Int.reduceNe, Int.reduceEq, Int.reduceLT, Int.reduceLE, Int.reduceAdd, Int.reduceSub, Int.reduceNeg, Int.reduceMul, Int.reduceToNat, Nat.reduceSub, Nat.reduceMul, Nat.reduceLeDiff, Nat.reduceAdd, Nat.reduceLT, Nat.reduceEqDiff, reduceCtorEq, ↓reduceIte, rqs, hqa, ha']
    try rfl
  by_cases hb : B.length = 0
  · have ha' : ¬ (A.length : Int) = 0 := by omega
    have hb' : (B.length : Int) = 0 := by omega
    have e := List.length_eq_zero_iff.mp hb
    rw [show cqp (mulq A B) = cqw [] from congrArg cqw (mulq_nil (.inr (by rw [e]; rfl)))]
    simp (disch := omega) only [wk, tis, Int.reduceNe, Int.reduceEq, Int.reduceLT, Int.reduceLE, Int.reduceAdd, Int.reduceSub, Int.reduceNeg, Int.reduceMul, Int.reduceToNat, Nat.reduceSub, Nat.reduceMul, Nat.reduceLeDiff, Nat.reduceAdd, Nat.reduceLT, Nat.reduceEqDiff, reduceCtorEq, ↓reduceIte, rqs, hqa, ha', hqb, hb']
    try rfl
  have ha' : ¬ (A.length : Int) = 0 := by omega
  have hb' : ¬ (B.length : Int) = 0 := by omega
  obtain ⟨N, hN⟩ : ∃ N, N = A.length + B.length - 1 := ⟨_, rfl⟩
  have hNI : (A.length : Int) + (B.length : Int) - 1 = (N : Int) := by omega
  simp (disch := omega) only [wk, tis, Int.reduceNe, Int.reduceEq, Int.reduceLT, Int.reduceLE, Int.reduceAdd, Int.reduceSub, Int.reduceNeg, Int.reduceMul, Int.reduceToNat, Nat.reduceSub, Nat.reduceMul, Nat.reduceLeDiff, Nat.reduceAdd, Nat.reduceLT, Nat.reduceEqDiff, reduceCtorEq, ↓reduceIte, rqs, hqa, ha', hqb, hb', hNI]
  refine aloop_by (fun f H => ∃ (i st : Nat), i ≤ N ∧ f 6 = .iv (.int .i64 i) ∧ f 0 = .iv (.sl (rats (A.map crat))) ∧ f 1 = .iv (.sl (rats (B.map crat))) ∧ f 5 = .hs 23 st ∧ H 23 = .blk false st 31 3 (rats (List.replicate i (crat 0) ++ List.replicate (N - i) q0))) (fun f H => (N - intAt f 6).toNat) ?_ ?_
  · refine ⟨0, 1, by omega, ?_⟩
    simp (disch := omega) only [wk, tis, Int.reduceNe, Int.reduceEq, Int.reduceLT, Int.reduceLE, Int.reduceAdd, Int.reduceSub, Int.reduceNeg, Int.reduceMul, Int.reduceToNat, Nat.reduceSub, Nat.reduceMul, Nat.reduceLeDiff, Nat.reduceAdd, Nat.reduceLT, Nat.reduceEqDiff, reduceCtorEq, ↓reduceIte, rqs, List.replicate_zero, List.nil_append, Int.toNat_natCast, Nat.sub_zero]
  rintro f H ⟨i, st, hi, hF⟩
  rw [intAt_of hF.1]
  simp (disch := omega) only [wk, tis, Int.reduceNe, Int.reduceEq, Int.reduceLT, Int.reduceLE, Int.reduceAdd, Int.reduceSub, Int.reduceNeg, Int.reduceMul, Int.reduceToNat, Nat.reduceSub, Nat.reduceMul, Nat.reduceLeDiff, Nat.reduceAdd, Nat.reduceLT, Nat.reduceEqDiff, reduceCtorEq, ↓reduceIte, rqs, hF]
  have hl1 : (List.replicate i (crat 0) ++ List.replicate (N - i) q0).length = N := by
    rw [List.length_append, List.length_replicate, List.length_replicate]; omega
  refine if_by (fun hlt => ?_) (fun hlt => ?_)
  · have hset := repq_set (N := N) (i := i) (by omega)
    simp (disch := omega) only [wk, tis, Int.reduceNe, Int.reduceEq, Int.reduceLT, Int.reduceLE, Int.reduceAdd, Int.reduceSub, Int.reduceNeg, Int.reduceMul, Int.reduceToNat, Nat.reduceSub, Nat.reduceMul, Nat.reduceLeDiff, Nat.reduceAdd, Nat.reduceLT, Nat.reduceEqDiff, reduceCtorEq, ↓reduceIte, rqs, hF, hl1]
    refine call_by (hzero_ok) (by first | rfl | (simp only [tocvs, tocv, hF, hl1, hset]; rfl) | (simp only [tocvs, tocv, toboxes, tobox, updH_at, Nat.reduceEqDiff, ↓reduceIte, hF, hl1, hset]; rfl)) (by simp) ?_
    simp (disch := omega) only [wk, tis, Int.reduceNe, Int.reduceEq, Int.reduceLT, Int.reduceLE, Int.reduceAdd, Int.reduceSub, Int.reduceNeg, Int.reduceMul, Int.reduceToNat, Nat.reduceSub, Nat.reduceMul, Nat.reduceLeDiff, Nat.reduceAdd, Nat.reduceLT, Nat.reduceEqDiff, reduceCtorEq, ↓reduceIte, rqs, hF, hl1, hset]
    refine ⟨⟨i + 1, st, by omega, ?_⟩, by omega⟩
    (repeat' apply And.intro) <;> first | rfl | omega
  obtain rfl : i = N := by omega
  rw [Nat.sub_self, List.replicate_zero, List.append_nil, hN, ← mrow_zero] at hF
  simp (disch := omega) only [wk, tis, Int.reduceNe, Int.reduceEq, Int.reduceLT, Int.reduceLE, Int.reduceAdd, Int.reduceSub, Int.reduceNeg, Int.reduceMul, Int.reduceToNat, Nat.reduceSub, Nat.reduceMul, Nat.reduceLeDiff, Nat.reduceAdd, Nat.reduceLT, Nat.reduceEqDiff, reduceCtorEq, ↓reduceIte, rqs, hF]
  refine aloop_by (fun f H => ∃ (i2 st : Nat), i2 ≤ A.length ∧ f 7 = .iv (.int .i64 i2) ∧ f 0 = .iv (.sl (rats (A.map crat))) ∧ f 1 = .iv (.sl (rats (B.map crat))) ∧ f 5 = .hs 23 st ∧ H 23 = .blk false st 31 3 (rats ((mrow A B i2 0).map crat))) (fun f H => (A.length - intAt f 7).toNat) ?_ ?_
  · refine ⟨0, st, by omega, ?_⟩
    simp (disch := omega) only [wk, tis, Int.reduceNe, Int.reduceEq, Int.reduceLT, Int.reduceLE, Int.reduceAdd, Int.reduceSub, Int.reduceNeg, Int.reduceMul, Int.reduceToNat, Nat.reduceSub, Nat.reduceMul, Nat.reduceLeDiff, Nat.reduceAdd, Nat.reduceLT, Nat.reduceEqDiff, reduceCtorEq, ↓reduceIte, rqs, hF]
  rintro f H ⟨i2, st, hi2, hF⟩
  rw [intAt_of hF.1]
  simp (disch := omega) only [wk, tis, Int.reduceNe, Int.reduceEq, Int.reduceLT, Int.reduceLE, Int.reduceAdd, Int.reduceSub, Int.reduceNeg, Int.reduceMul, Int.reduceToNat, Nat.reduceSub, Nat.reduceMul, Nat.reduceLeDiff, Nat.reduceAdd, Nat.reduceLT, Nat.reduceEqDiff, reduceCtorEq, ↓reduceIte, rqs, hF]
  simp (disch := omega) only [wk, tis, Int.reduceNe, Int.reduceEq, Int.reduceLT, Int.reduceLE, Int.reduceAdd, Int.reduceSub, Int.reduceNeg, Int.reduceMul, Int.reduceToNat, Nat.reduceSub, Nat.reduceMul, Nat.reduceLeDiff, Nat.reduceAdd, Nat.reduceLT, Nat.reduceEqDiff, reduceCtorEq, ↓reduceIte, rqs, hF, hqa]
  refine if_by (fun hlt => ?_) (fun hlt => ?_)
  · have hlt' : i2 < A.length := by omega
    simp (disch := omega) only [wk, tis, Int.reduceNe, Int.reduceEq, Int.reduceLT, Int.reduceLE, Int.reduceAdd, Int.reduceSub, Int.reduceNeg, Int.reduceMul, Int.reduceToNat, Nat.reduceSub, Nat.reduceMul, Nat.reduceLeDiff, Nat.reduceAdd, Nat.reduceLT, Nat.reduceEqDiff, reduceCtorEq, ↓reduceIte, rqs, hF, hqa]
    refine aloop_by (fun f H => ∃ (j st : Nat), j ≤ B.length ∧ f 8 = .iv (.int .i64 j) ∧ f 7 = .iv (.int .i64 i2) ∧ f 0 = .iv (.sl (rats (A.map crat))) ∧ f 1 = .iv (.sl (rats (B.map crat))) ∧ f 5 = .hs 23 st ∧ H 23 = .blk false st 31 3 (rats ((mrow A B i2 j).map crat))) (fun f H => (B.length - intAt f 8).toNat) ?_ ?_
    · refine ⟨0, st, by omega, ?_⟩
      simp (disch := omega) only [wk, tis, Int.reduceNe, Int.reduceEq, Int.reduceLT, Int.reduceLE, Int.reduceAdd, Int.reduceSub, Int.reduceNeg, Int.reduceMul, Int.reduceToNat, Nat.reduceSub, Nat.reduceMul, Nat.reduceLeDiff, Nat.reduceAdd, Nat.reduceLT, Nat.reduceEqDiff, reduceCtorEq, ↓reduceIte, rqs, hF]
    rintro f H ⟨j, st, hj, hF⟩
    rw [intAt_of hF.1]
    simp (disch := omega) only [wk, tis, Int.reduceNe, Int.reduceEq, Int.reduceLT, Int.reduceLE, Int.reduceAdd, Int.reduceSub, Int.reduceNeg, Int.reduceMul, Int.reduceToNat, Nat.reduceSub, Nat.reduceMul, Nat.reduceLeDiff, Nat.reduceAdd, Nat.reduceLT, Nat.reduceEqDiff, reduceCtorEq, ↓reduceIte, rqs, hF]
    simp (disch := omega) only [wk, tis, Int.reduceNe, Int.reduceEq, Int.reduceLT, Int.reduceLE, Int.reduceAdd, Int.reduceSub, Int.reduceNeg, Int.reduceMul, Int.reduceToNat, Nat.reduceSub, Nat.reduceMul, Nat.reduceLeDiff, Nat.reduceAdd, Nat.reduceLT, Nat.reduceEqDiff, reduceCtorEq, ↓reduceIte, rqs, hF, hqb]
    refine if_by (fun hlj => ?_) (fun hlj => ?_)
    · have hlj' : j < B.length := by omega
      have g1 := cratq_get hlt'
      have g2 := cratq_get hlj'
      have g3 := cratq_get (q := mrow A B i2 j) (i := i2 + j) (by rw [mrow_len]; omega)
      have hml : ((mrow A B i2 j).map crat).length = i := by rw [List.length_map, mrow_len, hN]
      have eij : (i2 : Int) + (j : Int) = ((i2 + j : Nat) : Int) := by omega
      have hset := mrow_set hlt' hlj'
      have y1 := hA.cz (by omega) i2
      have y2 := hB.cz (by omega) j
      have y3 := mrow_z (A := A) (B := B) (by omega) hz i2 j (i2 + j)
      have y4 := qz_mul (cfq A i2) (cfq B j)
      have x := htimes_ok (crat (cfq A i2)) (crat (cfq B j)) (szq_crat (by omega)) (szq_crat (by omega)) (nv_crat0 _) (nv_crat0 _)
      have y := hplus_ok (crat (cfq (mrow A B i2 j) (i2 + j))) (crat (cfq A i2 * cfq B j)) (szq_crat (by omega)) (szq_crat (by omega)) (nv_crat0 _) (nv_crat0 _)
      rw [qv_crat, qv_crat] at x y
      simp (disch := omega) only [wk, tis, Int.reduceNe, Int.reduceEq, Int.reduceLT, Int.reduceLE, Int.reduceAdd, Int.reduceSub, Int.reduceNeg, Int.reduceMul, Int.reduceToNat, Nat.reduceSub, Nat.reduceMul, Nat.reduceLeDiff, Nat.reduceAdd, Nat.reduceLT, Nat.reduceEqDiff, reduceCtorEq, ↓reduceIte, rqs, hF, hqa, hqb, hml, eij, g1, g2, g3]
      refine ⟨tmps_by (by kernel_rfl), ?_⟩
      refine call_by (x) (by first | rfl | (simp only [tocvs, tocv, hF, hqa, hqb, hml, eij, g1, g2, g3]; rfl) | (simp only [tocvs, tocv, toboxes, tobox, updH_at, Nat.reduceEqDiff, ↓reduceIte, hF, hqa, hqb, hml, eij, g1, g2, g3]; rfl)) (by simp) ?_
      simp (disch := omega) only [wk, tis, Int.reduceNe, Int.reduceEq, Int.reduceLT, Int.reduceLE, Int.reduceAdd, Int.reduceSub, Int.reduceNeg, Int.reduceMul, Int.reduceToNat, Nat.reduceSub, Nat.reduceMul, Nat.reduceLeDiff, Nat.reduceAdd, Nat.reduceLT, Nat.reduceEqDiff, reduceCtorEq, ↓reduceIte, rqs, hF, hqa, hqb, hml, eij, g1, g2, g3]
      refine call_by (y) (by first | rfl | (simp only [tocvs, tocv, hF, hqa, hqb, hml, eij, g1, g2, g3, hset]; rfl) | (simp only [tocvs, tocv, toboxes, tobox, updH_at, Nat.reduceEqDiff, ↓reduceIte, hF, hqa, hqb, hml, eij, g1, g2, g3, hset]; rfl)) (by simp) ?_
      simp (disch := omega) only [wk, tis, Int.reduceNe, Int.reduceEq, Int.reduceLT, Int.reduceLE, Int.reduceAdd, Int.reduceSub, Int.reduceNeg, Int.reduceMul, Int.reduceToNat, Nat.reduceSub, Nat.reduceMul, Nat.reduceLeDiff, Nat.reduceAdd, Nat.reduceLT, Nat.reduceEqDiff, reduceCtorEq, ↓reduceIte, rqs, hF, hqa, hqb, hml, eij, g1, g2, g3, hset]
      first | exact log_by (by kernel_rfl) | refine ⟨log_by (by kernel_rfl), ?_⟩
      refine ⟨⟨j + 1, st, by omega, ?_⟩, by omega⟩
      (repeat' apply And.intro) <;> first | rfl | omega
    · obtain rfl : j = B.length := by omega
      rw [mrow_next] at hF
      simp (disch := omega) only [wk, tis, Int.reduceNe, Int.reduceEq, Int.reduceLT, Int.reduceLE, Int.reduceAdd, Int.reduceSub, Int.reduceNeg, Int.reduceMul, Int.reduceToNat, Nat.reduceSub, Nat.reduceMul, Nat.reduceLeDiff, Nat.reduceAdd, Nat.reduceLT, Nat.reduceEqDiff, reduceCtorEq, ↓reduceIte, rqs, hF]
      refine ⟨⟨i2 + 1, st, by omega, ?_⟩, by omega⟩
      (repeat' apply And.intro) <;> first | rfl | omega
  · obtain rfl : i2 = A.length := by omega
    have hR : QB (2 ^ 40) (2 ^ 38) (mrow A B A.length 0) := .of (by rw [mrow_len]; omega) fun k => by
      have := mrow_z (A := A) (B := B) (by omega) hz A.length 0 k
      omega
    have t := hnormq_ok ((mrow A B A.length 0).map crat) hR.gq
    rw [qvs_map, show cqp (mrow A B A.length 0) = cqp (mulq A B) from congrArg cqw (cqs_ext (mrow_end A B))] at t
    simp (disch := omega) only [wk, tis, Int.reduceNe, Int.reduceEq, Int.reduceLT, Int.reduceLE, Int.reduceAdd, Int.reduceSub, Int.reduceNeg, Int.reduceMul, Int.reduceToNat, Nat.reduceSub, Nat.reduceMul, Nat.reduceLeDiff, Nat.reduceAdd, Nat.reduceLT, Nat.reduceEqDiff, reduceCtorEq, ↓reduceIte, rqs, hF]
    refine call_by (t) (by first | rfl | (simp only [tocvs, tocv, hF]; rfl) | (simp only [tocvs, tocv, toboxes, tobox, updH_at, Nat.reduceEqDiff, ↓reduceIte, hF]; rfl)) (by simp) ?_
    simp (disch := omega) only [wk, tis, Int.reduceNe, Int.reduceEq, Int.reduceLT, Int.reduceLE, Int.reduceAdd, Int.reduceSub, Int.reduceNeg, Int.reduceMul, Int.reduceToNat, Nat.reduceSub, Nat.reduceMul, Nat.reduceLeDiff, Nat.reduceAdd, Nat.reduceLT, Nat.reduceEqDiff, reduceCtorEq, ↓reduceIte, rqs, hF]
    try rfl

theorem haddq_ok (A B : List Rat) (hA : QB (2 ^ 30) (2 ^ 33) A) (hB : QB (2 ^ 30) (2 ^ 33) B) : AC Tryz.prog 59 [cqw (A.map crat), cqw (B.map crat)] none [cqp (addq A B)] := by
  have hAl := hA.1
  have hBl := hB.1
  have hqa : (A.map crat).length = A.length := List.length_map _
  have hqb : (B.map crat).length = B.length := List.length_map _
  have hal : (addq A B).length = max A.length B.length := by simp [addq]
  have hR : QB (2 ^ 40) (2 ^ 38) (addq A B) := .of (by rw [hal]; omega) fun k => by
    rw [cfq_addq]
    have h1 := qz_add (cfq A k) (cfq B k)
    have h2 := hA.cz (by omega) k
    have h3 := hB.cz (by omega) k
    omega
  have t := hnormq_ok ((addq A B).map crat) hR.gq
  rw [qvs_map] at t
  refine AC.by_walk (rs := [.tmp 4]) ords Tryz.func59 (by rfl) (by rfl) (by rfl) (by rfl) (by rfl) ?_
  simp (disch := omega) only [wk, tis, Int.reduceNe, Int.reduceEq, Int.reduceLT, Int.reduceLE, Int.reduceAdd, Int.reduceSub, Int.reduceNeg, Int.reduceMul, Int.reduceToNat, Nat.reduceSub, Nat.reduceMul, Nat.reduceLeDiff, Nat.reduceAdd, Nat.reduceLT, Nat.reduceEqDiff, reduceCtorEq, ↓reduceIte, rqs]
  refine aloop_nil 5 5 31 3 (by simp (disch := omega) only [wk, tis, Int.reduceNe, Int.reduceEq, Int.reduceLT, Int.reduceLE, Int.reduceAdd, Int.reduceSub, Int.reduceNeg, Int.reduceMul, Int.reduceToNat, Nat.reduceSub, Nat.reduceMul, Nat.reduceLeDiff, Nat.reduceAdd, Nat.reduceLT, Nat.reduceEqDiff, reduceCtorEq, ↓reduceIte, rqs]) (fun f H => ∃ (i st : Nat), i ≤ max A.length B.length ∧ f 6 = .iv (.int .i64 i) ∧ f 0 = .iv (.sl (rats (A.map crat))) ∧ f 1 = .iv (.sl (rats (B.map crat))) ∧ f 5 = .hs 5 st ∧ H 5 = .blk false st 31 3 (rats (((addq A B).take i).map crat))) (fun f H => (A.length + B.length - intAt f 6).toNat) ?_ ?_
  · refine ⟨0, 1, by omega, ?_⟩
    simp (disch := omega) only [wk, tis, Int.reduceNe, Int.reduceEq, Int.reduceLT, Int.reduceLE, Int.reduceAdd, Int.reduceSub, Int.reduceNeg, Int.reduceMul, Int.reduceToNat, Nat.reduceSub, Nat.reduceMul, Nat.reduceLeDiff, Nat.reduceAdd, Nat.reduceLT, Nat.reduceEqDiff, reduceCtorEq, ↓reduceIte, rqs, ghostF, ghostH, List.take_zero, List.map_nil]
  rintro f H ⟨i, st, hi, hF⟩
  rw [intAt_of hF.1]
  simp (disch := omega) only [wk, tis, Int.reduceNe, Int.reduceEq, Int.reduceLT, Int.reduceLE, Int.reduceAdd, Int.reduceSub, Int.reduceNeg, Int.reduceMul, Int.reduceToNat, Nat.reduceSub, Nat.reduceMul, Nat.reduceLeDiff, Nat.reduceAdd, Nat.reduceLT, Nat.reduceEqDiff, reduceCtorEq, ↓reduceIte, rqs, hF]
  have hrq : (((addq A B).take i).map crat).length = i := by rw [List.length_map, List.length_take, hal]; omega
  have y1 := hA.cz (by omega) i
  have y2 := hB.cz (by omega) i
  by_cases hm : i < max A.length B.length
  · have et := takeq_snoc (q := addq A B) (i := i) (by rw [hal]; exact hm)
    rw [cfq_addq] at et
    by_cases h1 : i < A.length
    · have h1' : (i : Int) < (A.length : Int) := by omega
      have g1 := cratq_get h1
      have x := hplus_ok (crat 0) (crat (cfq A i)) (szq_crat (by rw [qz_zero]; omega)) (szq_crat (by omega)) (nv_crat0 _) (nv_crat0 _)
      rw [qv_crat, qv_crat, Rat.zero_add] at x
      simp (disch := omega) only [wk, tis, Int.reduceNe, Int.reduceEq, Int.reduceLT, Int.reduceLE, Int.reduceAdd, Int.reduceSub, Int.reduceNeg, Int.reduceMul, Int.reduceToNat, Nat.reduceSub, Nat.reduceMul, Nat.reduceLeDiff, Nat.reduceAdd, Nat.reduceLT, Nat.reduceEqDiff, reduceCtorEq, ↓reduceIte, rqs, hF, hqa, h1']
      refine call_by (hzero_ok) (by first | rfl | (simp only [tocvs, tocv, hF, hqa, hqb, h1', g1]; rfl) | (simp only [tocvs, tocv, toboxes, tobox, updH_at, Nat.reduceEqDiff, ↓reduceIte, hF, hqa, hqb, h1', g1]; rfl)) (by simp) ?_
      simp (disch := omega) only [wk, tis, Int.reduceNe, Int.reduceEq, Int.reduceLT, Int.reduceLE, Int.reduceAdd, Int.reduceSub, Int.reduceNeg, Int.reduceMul, Int.reduceToNat, Nat.reduceSub, Nat.reduceMul, Nat.reduceLeDiff, Nat.reduceAdd, Nat.reduceLT, Nat.reduceEqDiff, reduceCtorEq, ↓reduceIte, rqs, hF, hqa, hqb, h1', g1]
      refine ⟨tmps_by (by kernel_rfl), ?_⟩
      refine call_by (x) (by first | rfl | (simp only [tocvs, tocv, hF, hqa, hqb, h1', g1]; rfl) | (simp only [tocvs, tocv, toboxes, tobox, updH_at, Nat.reduceEqDiff, ↓reduceIte, hF, hqa, hqb, h1', g1]; rfl)) (by simp) ?_
      simp (disch := omega) only [wk, tis, Int.reduceNe, Int.reduceEq, Int.reduceLT, Int.reduceLE, Int.reduceAdd, Int.reduceSub, Int.reduceNeg, Int.reduceMul, Int.reduceToNat, Nat.reduceSub, Nat.reduceMul, Nat.reduceLeDiff, Nat.reduceAdd, Nat.reduceLT, Nat.reduceEqDiff, reduceCtorEq, ↓reduceIte, rqs, hF, hqa, hqb, h1', g1]
      first | exact log_by (by kernel_rfl) | refine ⟨log_by (by kernel_rfl), ?_⟩
      by_cases h2 : i < B.length
      · have h2' : (i : Int) < (B.length : Int) := by omega
        have g2 := cratq_get h2
        have y := hplus_ok (crat (cfq A i)) (crat (cfq B i)) (szq_crat (by omega)) (szq_crat (by omega)) (nv_crat0 _) (nv_crat0 _)
        rw [qv_crat, qv_crat] at y
        simp (disch := omega) only [wk, tis, Int.reduceNe, Int.reduceEq, Int.reduceLT, Int.reduceLE, Int.reduceAdd, Int.reduceSub, Int.reduceNeg, Int.reduceMul, Int.reduceToNat, Nat.reduceSub, Nat.reduceMul, Nat.reduceLeDiff, Nat.reduceAdd, Nat.reduceLT, Nat.reduceEqDiff, reduceCtorEq, ↓reduceIte, rqs, hF, hqa, hqb, h2', g2]
        refine ⟨tmps_by (by kernel_rfl), ?_⟩
        refine call_by (y) (by first | rfl | (simp only [tocvs, tocv, hF, hqa, hqb, h2', g2]; rfl) | (simp only [tocvs, tocv, toboxes, tobox, updH_at, Nat.reduceEqDiff, ↓reduceIte, hF, hqa, hqb, h2', g2]; rfl)) (by simp) ?_
        simp (disch := omega) only [wk, tis, Int.reduceNe, Int.reduceEq, Int.reduceLT, Int.reduceLE, Int.reduceAdd, Int.reduceSub, Int.reduceNeg, Int.reduceMul, Int.reduceToNat, Nat.reduceSub, Nat.reduceMul, Nat.reduceLeDiff, Nat.reduceAdd, Nat.reduceLT, Nat.reduceEqDiff, reduceCtorEq, ↓reduceIte, rqs, hF, hqa, hqb, h2', g2]
        first | exact log_by (by kernel_rfl) | refine ⟨log_by (by kernel_rfl), ?_⟩
        refine ⟨⟨i + 1, st + 1, by omega, ?_⟩, by omega⟩
        rw [et, List.map_append]
        (repeat' apply And.intro) <;> first | rfl | omega
      · have h2' : ¬ (i : Int) < (B.length : Int) := by omega
        rw [cfq_ge (q := B) (by omega), Rat.add_zero] at et
        simp (disch := omega) only [wk, tis, Int.reduceNe, Int.reduceEq, Int.reduceLT, Int.reduceLE, Int.reduceAdd, Int.reduceSub, Int.reduceNeg, Int.reduceMul, Int.reduceToNat, Nat.reduceSub, Nat.reduceMul, Nat.reduceLeDiff, Nat.reduceAdd, Nat.reduceLT, Nat.reduceEqDiff, reduceCtorEq, ↓reduceIte, rqs, hF, hqa, hqb, h2', hrq]
        refine ⟨⟨i + 1, st + 1, by omega, ?_⟩, by omega⟩
        rw [et, List.map_append]
        (repeat' apply And.intro) <;> first | rfl | omega
    · have h1' : ¬ (i : Int) < (A.length : Int) := by omega
      have h2 : i < B.length := by omega
      have h2' : (i : Int) < (B.length : Int) := by omega
      have g2 := cratq_get h2
      have y := hplus_ok (crat 0) (crat (cfq B i)) (szq_crat (by rw [qz_zero]; omega)) (szq_crat (by omega)) (nv_crat0 _) (nv_crat0 _)
      rw [qv_crat, qv_crat, Rat.zero_add] at y
      rw [cfq_ge (q := A) (by omega), Rat.zero_add] at et
      simp (disch := omega) only [wk, tis, Int.reduceNe, Int.reduceEq, Int.reduceLT, Int.reduceLE, Int.reduceAdd, Int.reduceSub, Int.reduceNeg, Int.reduceMul, Int.reduceToNat, Nat.reduceSub, Nat.reduceMul, Nat.reduceLeDiff, Nat.reduceAdd, Nat.reduceLT, Nat.reduceEqDiff, reduceCtorEq, ↓reduceIte, rqs, hF, hqa, hqb, h1', h2']
      refine call_by (hzero_ok) (by first | rfl | (simp only [tocvs, tocv, hF, hqa, hqb, h1', h2', g2]; rfl) | (simp only [tocvs, tocv, toboxes, tobox, updH_at, Nat.reduceEqDiff, ↓reduceIte, hF, hqa, hqb, h1', h2', g2]; rfl)) (by simp) ?_
      simp (disch := omega) only [wk, tis, Int.reduceNe, Int.reduceEq, Int.reduceLT, Int.reduceLE, Int.reduceAdd, Int.reduceSub, Int.reduceNeg, Int.reduceMul, Int.reduceToNat, Nat.reduceSub, Nat.reduceMul, Nat.reduceLeDiff, Nat.reduceAdd, Nat.reduceLT, Nat.reduceEqDiff, reduceCtorEq, ↓reduceIte, rqs, hF, hqa, hqb, h1', h2', g2]
      refine ⟨tmps_by (by kernel_rfl), ?_⟩
      refine call_by (y) (by first | rfl | (simp only [tocvs, tocv, hF, hqa, hqb, h1', h2', g2]; rfl) | (simp only [tocvs, tocv, toboxes, tobox, updH_at, Nat.reduceEqDiff, ↓reduceIte, hF, hqa, hqb, h1', h2', g2]; rfl)) (by simp) ?_
      simp (disch := omega) only [wk, tis, Int.reduceNe, Int.reduceEq, Int.reduceLT, Int.reduceLE, Int.reduceAdd, Int.reduceSub, Int.reduceNeg, Int.reduceMul, Int.reduceToNat, Nat.reduceSub, Nat.reduceMul, Nat.reduceLeDiff, Nat.reduceAdd, Nat.reduceLT, Nat.reduceEqDiff, reduceCtorEq, ↓reduceIte, rqs, hF, hqa, hqb, h1', h2', g2]
      first | exact log_by (by kernel_rfl) | refine ⟨log_by (by kernel_rfl), ?_⟩
      refine ⟨⟨i + 1, st + 1, by omega, ?_⟩, by omega⟩
      rw [et, List.map_append]
      (repeat' apply And.intro) <;> first | rfl | omega
  · have h1' : ¬ (i : Int) < (A.length : Int) := by omega
    have h2' : ¬ (i : Int) < (B.length : Int) := by omega
    rw [List.take_of_length_le (by rw [hal]; omega)] at hF
    simp (disch := omega) only [wk, tis, Int.reduceNe, Int.reduceEq, Int.reduceLT, Int.reduceLE, Int.reduceAdd, Int.reduceSub, Int.reduceNeg, Int.reduceMul, Int.reduceToNat, Nat.reduceSub, Nat.reduceMul, Nat.reduceLeDiff, Nat.reduceAdd, Nat.reduceLT, Nat.reduceEqDiff, reduceCtorEq, ↓reduceIte, rqs, hF, hqa, hqb, h1', h2']
    refine call_by (t) (by first | rfl | (simp only [tocvs, tocv, hF]; rfl) | (simp only [tocvs, tocv, toboxes, tobox, updH_at, Nat.reduceEqDiff, ↓reduceIte, hF]; rfl)) (by simp) ?_
    simp (disch := omega) only [wk, tis, Int.reduceNe, Int.reduceEq, Int.reduceLT, Int.reduceLE, Int.reduceAdd, Int.reduceSub, Int.reduceNeg, Int.reduceMul, Int.reduceToNat, Nat.reduceSub, Nat.reduceMul, Nat.reduceLeDiff, Nat.reduceAdd, Nat.reduceLT, Nat.reduceEqDiff, reduceCtorEq, ↓reduceIte, rqs, hF]
    try rfl
end Go.Proofs.YtcjnacpekbhhcaaGreat

namespace Go.Proofs.YtcjnacpekbhhcaaGreat
open Go Go.Proofs Go.AL
set_option linter.unusedSimpArgs false
set_option linter.unusedVariables false

theorem fldRat0 : fldA Tryz.prog 31 0 = some (0, 2, true) := by kernel_rfl
theorem CB.part {D E n m M N : Nat} {A B : List Rat} (hA : CB D n M A) (hB : CB E m N B) (h1 : 1 ≤ M + N + (n + m)) (i k : Nat) : qz (cvq (A.take i) (cfq B) k) ≤ M + N + (n + m) := by
  have h := ((hA.sub (r := A.take i) (by rw [List.length_take]; have := hA.l; omega) fun c hc => List.mem_of_mem_take hc).mulq hB).qb.cz h1 k
  rwa [cfq_mulq] at h

theorem hminus2_ok (a b : RQ) (ha : SzQ (2 ^ 34) a) (hb : SzQ (2 ^ 34) b) (h0 : nv a.2 ≠ 0) (h1 : nv b.2 ≠ 0) : AC Tryz.prog 98 [cqq a, cqq b] none [cqz (qv a - qv b)] := by
  have n := hnot_ok b (hb.mono (by omega)) h1
  have z := qz_raw hb h1
  have zn : qz (-qv b) ≤ 2 ^ 34 := by
    exact ((CD.ofRat (qv b)).neg.mono (Nat.le_trans (qz_parts (qv b)).1 z)).size (qv b).den_nz (Nat.le_trans (qz_parts (qv b)).2 z)
  have p := hplus_ok a (crat (-qv b)) (ha.mono (by omega)) (szq_crat (by omega)) h0 (nv_crat0 _)
  rw [qv_crat, ← Rat.sub_eq_add_neg] at p
  refine AC.by_walk (rs := [.cell 4 31]) ords Tryz.func98 (by rfl) (by rfl) (by rfl) (by rfl) (by rfl) ?_
  simp (disch := omega) only [wk, tis, Int.reduceNe, Int.reduceEq, Int.reduceLT, Int.reduceLE, Int.reduceAdd, Int.reduceSub, Int.reduceNeg, Int.reduceMul, Int.reduceToNat, Nat.reduceSub, Nat.reduceMul, Nat.reduceLeDiff, Nat.reduceAdd, Nat.reduceLT, Nat.reduceEqDiff, reduceCtorEq, ↓reduceIte, rqs, fldRat0]
  refine ⟨tmps_by (by kernel_rfl), ?_⟩
  refine call_by (n) (by rfl) (by simp) ?_
  simp (disch := omega) only [wk, tis, Int.reduceNe, Int.reduceEq, Int.reduceLT, Int.reduceLE, Int.reduceAdd, Int.reduceSub, Int.reduceNeg, Int.reduceMul, Int.reduceToNat, Nat.reduceSub, Nat.reduceMul, Nat.reduceLeDiff, Nat.reduceAdd, Nat.reduceLT, Nat.reduceEqDiff, reduceCtorEq, ↓reduceIte, rqs, fldRat0]
  refine call_by (p) (by rfl) (by simp) ?_
  simp (disch := omega) only [wk, tis, Int.reduceNe, Int.reduceEq, Int.reduceLT, Int.reduceLE, Int.reduceAdd, Int.reduceSub, Int.reduceNeg, Int.reduceMul, Int.reduceToNat, Nat.reduceSub, Nat.reduceMul, Nat.reduceLeDiff, Nat.reduceAdd, Nat.reduceLT, Nat.reduceEqDiff, reduceCtorEq, ↓reduceIte, rqs, fldRat0]
  first | exact log_by (by kernel_rfl) | refine ⟨log_by (by kernel_rfl), ?_⟩
  try rfl
theorem horder_ok (a b : RQ) (ha : SzQ (2 ^ 34) a) (hb : SzQ (2 ^ 34) b) (h0 : nv a.2 ≠ 0) (h1 : nv b.2 ≠ 0) : AC Tryz.prog 56 [cqq a, cqq b] none [ci (sgq (qv a - qv b))] := by
  have m := hminus2_ok a b ha hb h0 h1
  have z1 := qz_raw ha h0
  have z2 := qz_raw hb h1
  have zs : qz (qv a - qv b) ≤ 2 ^ 36 := by
    have zn : qz (-qv b) ≤ 2 ^ 34 := ((CD.ofRat (qv b)).neg.mono (Nat.le_trans (qz_parts (qv b)).1 z2)).size (qv b).den_nz (Nat.le_trans (qz_parts (qv b)).2 z2)
    have := qz_add (qv a) (-qv b)
    rw [Rat.sub_eq_add_neg]
    omega
  have s := rSign_ok (crat (qv a - qv b)).1 ((szq_crat zs).1.mono (by omega))
  rw [sgq_qv (nv_crat0 _), qv_crat] at s
  refine AC.by_walk (rs := [.tmp 4]) ords Tryz.func56 (by rfl) (by rfl) (by rfl) (by rfl) (by rfl) ?_
  simp (disch := omega) only [wk, tis, Int.reduceNe, Int.reduceEq, Int.reduceLT, Int.reduceLE, Int.reduceAdd, Int.reduceSub, Int.reduceNeg, Int.reduceMul, Int.reduceToNat, Nat.reduceSub, Nat.reduceMul, Nat.reduceLeDiff, Nat.reduceAdd, Nat.reduceLT, Nat.reduceEqDiff, reduceCtorEq, ↓reduceIte, rqs, fldRat0]
  refine call_by (m) (by rfl) (by simp) ?_
  simp (disch := omega) only [wk, tis, Int.reduceNe, Int.reduceEq, Int.reduceLT, Int.reduceLE, Int.reduceAdd, Int.reduceSub, Int.reduceNeg, Int.reduceMul, Int.reduceToNat, Nat.reduceSub, Nat.reduceMul, Nat.reduceLeDiff, Nat.reduceAdd, Nat.reduceLT, Nat.reduceEqDiff, reduceCtorEq, ↓reduceIte, rqs, fldRat0]
  refine call_by (s) (by rfl) (by simp) ?_
  simp (disch := omega) only [wk, tis, Int.reduceNe, Int.reduceEq, Int.reduceLT, Int.reduceLE, Int.reduceAdd, Int.reduceSub, Int.reduceNeg, Int.reduceMul, Int.reduceToNat, Nat.reduceSub, Nat.reduceMul, Nat.reduceLeDiff, Nat.reduceAdd, Nat.reduceLT, Nat.reduceEqDiff, reduceCtorEq, ↓reduceIte, rqs, fldRat0]
  try rfl

/-- Numbers of at most 200 words, 40 of them at most. -/
theorem cf200 {xs : List RQ} (hx : GQ 40 200 xs) (i : Nat) : qz (cfq (qvs xs) i) ≤ 200 := hx.qb.cz (by omega) i
theorem line_crat (c : Rat) : [qrow (crat (-c)), qrow (crat 1)] = rats ((lineq c).map crat) := rfl

theorem hfroot_ok (xs : List RQ) (b : Int) (b' : Nat) (hx : GQ 40 200 xs) (hbb : ∀ i : Nat, i < xs.length → ((i : Int) = b ↔ i = b')) : AC Tryz.prog 57 [cqw xs, ci b] none [cqp (froot (qvs xs) b' xs.length)] := by
  have hl := hx.1
  have e0 : rats (cqs (froot (qvs xs) b' 0)) = [qrow (crat 1)] := rfl
  refine AC.by_walk (rs := [.tmp 4]) ords Tryz.func57 (by rfl) (by rfl) (by rfl) (by rfl) (by rfl) ?_
  simp (disch := omega) only [wk, tis, Int.reduceNe, Int.reduceEq, Int.reduceLT, Int.reduceLE, Int.reduceAdd, Int.reduceSub, Int.reduceNeg, Int.reduceMul, Int.reduceToNat, Nat.reduceSub, Nat.reduceMul, Nat.reduceLeDiff, Nat.reduceAdd, Nat.reduceLT, Nat.reduceEqDiff, reduceCtorEq, ↓reduceIte, rqs, fldRat0]
  refine call_by (hone_ok) (by rfl) (by simp) ?_
  simp (disch := omega) only [wk, tis, Int.reduceNe, Int.reduceEq, Int.reduceLT, Int.reduceLE, Int.reduceAdd, Int.reduceSub, Int.reduceNeg, Int.reduceMul, Int.reduceToNat, Nat.reduceSub, Nat.reduceMul, Nat.reduceLeDiff, Nat.reduceAdd, Nat.reduceLT, Nat.reduceEqDiff, reduceCtorEq, ↓reduceIte, rqs, fldRat0]
  refine aloop_w (.iv 5 8 1 false 31 3 [qrow (crat 1)] (by simp (disch := omega) only [wk, tis, Int.reduceNe, Int.reduceEq, Int.reduceLT, Int.reduceLE, Int.reduceAdd, Int.reduceSub, Int.reduceNeg, Int.reduceMul, Int.reduceToNat, Nat.reduceSub, Nat.reduceMul, Nat.reduceLeDiff, Nat.reduceAdd, Nat.reduceLT, Nat.reduceEqDiff, reduceCtorEq, ↓reduceIte, rqs, fldRat0]) (by simp (disch := omega) only [wk, tis, Int.reduceNe, Int.reduceEq, Int.reduceLT, Int.reduceLE, Int.reduceAdd, Int.reduceSub, Int.reduceNeg, Int.reduceMul, Int.reduceToNat, Nat.reduceSub, Nat.reduceMul, Nat.reduceLeDiff, Nat.reduceAdd, Nat.reduceLT, Nat.reduceEqDiff, reduceCtorEq, ↓reduceIte, rqs, fldRat0]) (.refl _ _)) (fun f H => ∃ (k : Nat), k ≤ xs.length ∧ f 6 = .iv (.int .i64 k) ∧ f 0 = .iv (.sl (rats xs)) ∧ f 1 = .iv (.int .i64 b) ∧ f 5 = .iv (.sl (rats (cqs (froot (qvs xs) b' k))))) (fun f H => (xs.length - intAt f 6).toNat) ?_ ?_
  · refine ⟨0, by omega, ?_⟩
    simp (disch := omega) only [wk, tis, Int.reduceNe, Int.reduceEq, Int.reduceLT, Int.reduceLE, Int.reduceAdd, Int.reduceSub, Int.reduceNeg, Int.reduceMul, Int.reduceToNat, Nat.reduceSub, Nat.reduceMul, Nat.reduceLeDiff, Nat.reduceAdd, Nat.reduceLT, Nat.reduceEqDiff, reduceCtorEq, ↓reduceIte, rqs, fldRat0, e0]
  rintro f H ⟨k, hk, hF⟩
  rw [intAt_of hF.1]
  simp (disch := omega) only [wk, tis, Int.reduceNe, Int.reduceEq, Int.reduceLT, Int.reduceLE, Int.reduceAdd, Int.reduceSub, Int.reduceNeg, Int.reduceMul, Int.reduceToNat, Nat.reduceSub, Nat.reduceMul, Nat.reduceLeDiff, Nat.reduceAdd, Nat.reduceLT, Nat.reduceEqDiff, reduceCtorEq, ↓reduceIte, rqs, fldRat0, hF]
  refine if_by (fun hlt => ?_) (fun hlt => ?_)
  · have hlt' : k < xs.length := by omega
    by_cases hkb : k = b'
    · have hkb' : (k : Int) = b := (hbb k hlt').mpr hkb
      have es : froot (qvs xs) b' (k + 1) = froot (qvs xs) b' k := by rw [froot, if_pos hkb]
      simp (disch := omega) only [wk, tis, Int.reduceNe, Int.reduceEq, Int.reduceLT, Int.reduceLE, Int.reduceAdd, Int.reduceSub, Int.reduceNeg, Int.reduceMul, Int.reduceToNat, Nat.reduceSub, Nat.reduceMul, Nat.reduceLeDiff, Nat.reduceAdd, Nat.reduceLT, Nat.reduceEqDiff, reduceCtorEq, ↓reduceIte, rqs, fldRat0, hF, hkb']
      refine ⟨⟨k + 1, by omega, ?_⟩, by omega⟩
      rw [es]
      (repeat' apply And.intro) <;> first | rfl | omega
    · have hkb' : ¬ (k : Int) = b := fun e => hkb ((hbb k hlt').mp e)
      have es : froot (qvs xs) b' (k + 1) = mulq (froot (qvs xs) b' k) (lineq (cfq (qvs xs) k)) := by rw [froot, if_neg hkb]
      have hr := hx.get hlt'
      have hd := hx.den hlt'
      have n := hnot_ok (xs.getD k q0) (hr.mono (by omega)) hd
      rw [← cfq_qvs] at n
      obtain ⟨E, hE⟩ := froot_cb (N := 40) (cf200 hx) b' k (by omega)
      have hc := hE.trim.mono (m := 81) (N := 11321) (by omega) (by
        have : k * (200 + 2 * 40 + 3) ≤ 40 * (200 + 2 * 40 + 3) := Nat.mul_le_mul_right _ (by omega)
        omega)
      have hcl := CB.line (cf200 hx k)
      have m := hmulq_ok (trimq (froot (qvs xs) b' k)) (lineq (cfq (qvs xs) k)) (hc.qb.mono (by omega) (by omega)) (hcl.qb.mono (by omega) (by omega)) (fun i j => Nat.le_trans (hc.part hcl (by omega) i j) (by omega))
      rw [show cqp (mulq (trimq (froot (qvs xs) b' k)) (lineq (cfq (qvs xs) k))) = cqp (froot (qvs xs) b' (k + 1)) from congrArg cqw (by rw [es]; exact cqs_ext fun j => mulq_congr (cfq_trimq _) (fun _ => rfl) j)] at m
      have p3 := line_crat (cfq (qvs xs) k)
      simp (disch := omega) only [wk, tis, Int.reduceNe, Int.reduceEq, Int.reduceLT, Int.reduceLE, Int.reduceAdd, Int.reduceSub, Int.reduceNeg, Int.reduceMul, Int.reduceToNat, Nat.reduceSub, Nat.reduceMul, Nat.reduceLeDiff, Nat.reduceAdd, Nat.reduceLT, Nat.reduceEqDiff, reduceCtorEq, ↓reduceIte, rqs, fldRat0, hF, hkb']
      refine call_by (n) (by first | rfl | (simp only [tocvs, tocv, hF]; rfl) | (simp only [tocvs, tocv, toboxes, tobox, updH_at, Nat.reduceEqDiff, ↓reduceIte, hF]; rfl)) (by simp) ?_
      simp (disch := omega) only [wk, tis, Int.reduceNe, Int.reduceEq, Int.reduceLT, Int.reduceLE, Int.reduceAdd, Int.reduceSub, Int.reduceNeg, Int.reduceMul, Int.reduceToNat, Nat.reduceSub, Nat.reduceMul, Nat.reduceLeDiff, Nat.reduceAdd, Nat.reduceLT, Nat.reduceEqDiff, reduceCtorEq, ↓reduceIte, rqs, fldRat0, hF]
      refine call_by (hone_ok) (by first | rfl | (simp only [tocvs, tocv, hF, p3]; rfl) | (simp only [tocvs, tocv, toboxes, tobox, updH_at, Nat.reduceEqDiff, ↓reduceIte, hF, p3]; rfl)) (by simp) ?_
      simp (disch := omega) only [wk, tis, Int.reduceNe, Int.reduceEq, Int.reduceLT, Int.reduceLE, Int.reduceAdd, Int.reduceSub, Int.reduceNeg, Int.reduceMul, Int.reduceToNat, Nat.reduceSub, Nat.reduceMul, Nat.reduceLeDiff, Nat.reduceAdd, Nat.reduceLT, Nat.reduceEqDiff, reduceCtorEq, ↓reduceIte, rqs, fldRat0, hF, p3]
      refine call_by (m) (by first | rfl | (simp only [tocvs, tocv, hF, p3]; rfl) | (simp only [tocvs, tocv, toboxes, tobox, updH_at, Nat.reduceEqDiff, ↓reduceIte, hF, p3]; rfl)) (by simp) ?_
      simp (disch := omega) only [wk, tis, Int.reduceNe, Int.reduceEq, Int.reduceLT, Int.reduceLE, Int.reduceAdd, Int.reduceSub, Int.reduceNeg, Int.reduceMul, Int.reduceToNat, Nat.reduceSub, Nat.reduceMul, Nat.reduceLeDiff, Nat.reduceAdd, Nat.reduceLT, Nat.reduceEqDiff, reduceCtorEq, ↓reduceIte, rqs, fldRat0, hF, p3]
      refine ⟨⟨k + 1, by omega, ?_⟩, by omega⟩
      (repeat' apply And.intro) <;> first | rfl | omega
  · obtain rfl : k = xs.length := by omega
    simp (disch := omega) only [wk, tis, Int.reduceNe, Int.reduceEq, Int.reduceLT, Int.reduceLE, Int.reduceAdd, Int.reduceSub, Int.reduceNeg, Int.reduceMul, Int.reduceToNat, Nat.reduceSub, Nat.reduceMul, Nat.reduceLeDiff, Nat.reduceAdd, Nat.reduceLT, Nat.reduceEqDiff, reduceCtorEq, ↓reduceIte, rqs, fldRat0, hF]
    try rfl
theorem hFroots_ok (xs : List RQ) (hx : GQ 40 200 xs) : AC Tryz.prog 15 [cqw xs] none [cqp (froot (qvs xs) xs.length xs.length), ci 0] := by
  have g := hgood_ok xs (hx.bq.mono (by omega) (by omega))
  rw [hx.gd] at g
  have m := hfroot_ok xs (-1) xs.length hx (fun i hi => ⟨fun h => by omega, fun h => by omega⟩)
  refine AC.by_walk (rs := [.tmp 2, .tmp 3]) ords Tryz.func15 (by rfl) (by rfl) (by rfl) (by rfl) (by rfl) ?_
  simp (disch := omega) only [wk, tis, Int.reduceNe, Int.reduceEq, Int.reduceLT, Int.reduceLE, Int.reduceAdd, Int.reduceSub, Int.reduceNeg, Int.reduceMul, Int.reduceToNat, Nat.reduceSub, Nat.reduceMul, Nat.reduceLeDiff, Nat.reduceAdd, Nat.reduceLT, Nat.reduceEqDiff, reduceCtorEq, ↓reduceIte, rqs, fldRat0]
  refine call_by (g) (by rfl) (by simp) ?_
  simp (disch := omega) only [wk, tis, Int.reduceNe, Int.reduceEq, Int.reduceLT, Int.reduceLE, Int.reduceAdd, Int.reduceSub, Int.reduceNeg, Int.reduceMul, Int.reduceToNat, Nat.reduceSub, Nat.reduceMul, Nat.reduceLeDiff, Nat.reduceAdd, Nat.reduceLT, Nat.reduceEqDiff, reduceCtorEq, ↓reduceIte, rqs, fldRat0]
  refine call_by (m) (by rfl) (by simp) ?_
  simp (disch := omega) only [wk, tis, Int.reduceNe, Int.reduceEq, Int.reduceLT, Int.reduceLE, Int.reduceAdd, Int.reduceSub, Int.reduceNeg, Int.reduceMul, Int.reduceToNat, Nat.reduceSub, Nat.reduceMul, Nat.reduceLeDiff, Nat.reduceAdd, Nat.reduceLT, Nat.reduceEqDiff, reduceCtorEq, ↓reduceIte, rqs, fldRat0]
  try rfl
theorem hFroots_bad (xs : List RQ) (hx : BQ 40 200 xs) (h : gd xs = false) : AC Tryz.prog 15 [cqw xs] none [cqw [], ci 1] := by
  have g := hgood_ok xs (hx.mono (by omega) (by omega))
  rw [h] at g
  refine AC.by_walk (rs := [.tmp 2, .tmp 3]) ords Tryz.func15 (by rfl) (by rfl) (by rfl) (by rfl) (by rfl) ?_
  simp (disch := omega) only [wk, tis, Int.reduceNe, Int.reduceEq, Int.reduceLT, Int.reduceLE, Int.reduceAdd, Int.reduceSub, Int.reduceNeg, Int.reduceMul, Int.reduceToNat, Nat.reduceSub, Nat.reduceMul, Nat.reduceLeDiff, Nat.reduceAdd, Nat.reduceLT, Nat.reduceEqDiff, reduceCtorEq, ↓reduceIte, rqs, fldRat0]
  refine call_by (g) (by rfl) (by simp) ?_
  simp (disch := omega) only [wk, tis, Int.reduceNe, Int.reduceEq, Int.reduceLT, Int.reduceLE, Int.reduceAdd, Int.reduceSub, Int.reduceNeg, Int.reduceMul, Int.reduceToNat, Nat.reduceSub, Nat.reduceMul, Nat.reduceLeDiff, Nat.reduceAdd, Nat.reduceLT, Nat.reduceEqDiff, reduceCtorEq, ↓reduceIte, rqs, fldRat0]
  try rfl

set_option maxRecDepth 100000 in
theorem hthrough_ok (xs ys : List RQ) (l : List RQ) (e : Int) (hx : GQ 40 200 xs) (hy : GQ 40 200 ys) (hxy : xs.length = ys.length) (h1 : (qvs xs).Nodup → l = cqs (lags (qvs xs) (qvs ys) xs.length) ∧ e = 0) (h2 : ¬ (qvs xs).Nodup → l = [] ∧ e = 3) : AC Tryz.prog 14 [cqw xs, cqw ys] none [cqw l, ci e] := by
  have g1 := hgood_ok xs (hx.bq.mono (by omega) (by omega))
  have g2 := hgood_ok ys (hy.bq.mono (by omega) (by omega))
  rw [hx.gd] at g1
  rw [hy.gd] at g2
  have hl := hx.1
  have hl2 := hy.1
  have hql := qvs_len xs
  have hxyi : (xs.length : Int) = (ys.length : Int) := by omega
  refine AC.by_walk (rs := [.tmp 4, .tmp 5]) ords Tryz.func14 (by rfl) (by rfl) (by rfl) (by rfl) (by rfl) ?_
  simp (disch := omega) only [wk, tis, Int.reduceNe, Int.reduceEq, Int.reduceLT, Int.reduceLE, Int.reduceAdd, Int.reduceSub, Int.reduceNeg, Int.reduceMul, Int.reduceToNat, Nat.reduceSub, Nat.reduceMul, Nat.reduceLeDiff, Nat.reduceAdd, Nat.reduceLT, Nat.reduceEqDiff, reduceCtorEq, ↓reduceIte, rqs, fldRat0]
  refine call_by (g1) (by rfl) (by simp) ?_
  simp (disch := omega) only [wk, tis, Int.reduceNe, Int.reduceEq, Int.reduceLT, Int.reduceLE, Int.reduceAdd, Int.reduceSub, Int.reduceNeg, Int.reduceMul, Int.reduceToNat, Nat.reduceSub, Nat.reduceMul, Nat.reduceLeDiff, Nat.reduceAdd, Nat.reduceLT, Nat.reduceEqDiff, reduceCtorEq, ↓reduceIte, rqs, fldRat0]
  refine call_by (g2) (by first | rfl | (simp only [tocvs, tocv, hxyi]; rfl) | (simp only [tocvs, tocv, toboxes, tobox, updH_at, Nat.reduceEqDiff, ↓reduceIte, hxyi]; rfl)) (by simp) ?_
  simp (disch := omega) only [wk, tis, Int.reduceNe, Int.reduceEq, Int.reduceLT, Int.reduceLE, Int.reduceAdd, Int.reduceSub, Int.reduceNeg, Int.reduceMul, Int.reduceToNat, Nat.reduceSub, Nat.reduceMul, Nat.reduceLeDiff, Nat.reduceAdd, Nat.reduceLT, Nat.reduceEqDiff, reduceCtorEq, ↓reduceIte, rqs, fldRat0, hxyi]
  refine aloop_by (fun f H => ∃ (i : Nat), i ≤ xs.length ∧ (∀ a b, b < a → a < i → cfq (qvs xs) a ≠ cfq (qvs xs) b) ∧ f 6 = .iv (.int .i64 i) ∧ f 0 = .iv (.sl (rats xs)) ∧ f 1 = .iv (.sl (rats ys))) (fun f H => (xs.length - intAt f 6).toNat) ?_ ?_
  · refine ⟨0, by omega, fun a b _ h => by omega, ?_⟩
    simp (disch := omega) only [wk, tis, Int.reduceNe, Int.reduceEq, Int.reduceLT, Int.reduceLE, Int.reduceAdd, Int.reduceSub, Int.reduceNeg, Int.reduceMul, Int.reduceToNat, Nat.reduceSub, Nat.reduceMul, Nat.reduceLeDiff, Nat.reduceAdd, Nat.reduceLT, Nat.reduceEqDiff, reduceCtorEq, ↓reduceIte, rqs, fldRat0]
  rintro f H ⟨i, hi, hdist, hF⟩
  rw [intAt_of hF.1]
  simp (disch := omega) only [wk, tis, Int.reduceNe, Int.reduceEq, Int.reduceLT, Int.reduceLE, Int.reduceAdd, Int.reduceSub, Int.reduceNeg, Int.reduceMul, Int.reduceToNat, Nat.reduceSub, Nat.reduceMul, Nat.reduceLeDiff, Nat.reduceAdd, Nat.reduceLT, Nat.reduceEqDiff, reduceCtorEq, ↓reduceIte, rqs, fldRat0, hF]
  refine if_by (fun hlt => ?_) (fun hlt => ?_)
  · have hlt' : i < xs.length := by omega
    simp (disch := omega) only [wk, tis, Int.reduceNe, Int.reduceEq, Int.reduceLT, Int.reduceLE, Int.reduceAdd, Int.reduceSub, Int.reduceNeg, Int.reduceMul, Int.reduceToNat, Nat.reduceSub, Nat.reduceMul, Nat.reduceLeDiff, Nat.reduceAdd, Nat.reduceLT, Nat.reduceEqDiff, reduceCtorEq, ↓reduceIte, rqs, fldRat0, hF]
    refine aloop_by (fun f H => ∃ (j : Nat), j ≤ i ∧ (∀ b, b < j → cfq (qvs xs) i ≠ cfq (qvs xs) b) ∧ f 7 = .iv (.int .i64 j) ∧ f 6 = .iv (.int .i64 i) ∧ f 0 = .iv (.sl (rats xs)) ∧ f 1 = .iv (.sl (rats ys))) (fun f H => (i - intAt f 7).toNat) ?_ ?_
    · refine ⟨0, by omega, fun b h => by omega, ?_⟩
      simp (disch := omega) only [wk, tis, Int.reduceNe, Int.reduceEq, Int.reduceLT, Int.reduceLE, Int.reduceAdd, Int.reduceSub, Int.reduceNeg, Int.reduceMul, Int.reduceToNat, Nat.reduceSub, Nat.reduceMul, Nat.reduceLeDiff, Nat.reduceAdd, Nat.reduceLT, Nat.reduceEqDiff, reduceCtorEq, ↓reduceIte, rqs, fldRat0, hF]
    rintro f H ⟨j, hj, hdj, hF⟩
    rw [intAt_of hF.1]
    simp (disch := omega) only [wk, tis, Int.reduceNe, Int.reduceEq, Int.reduceLT, Int.reduceLE, Int.reduceAdd, Int.reduceSub, Int.reduceNeg, Int.reduceMul, Int.reduceToNat, Nat.reduceSub, Nat.reduceMul, Nat.reduceLeDiff, Nat.reduceAdd, Nat.reduceLT, Nat.reduceEqDiff, reduceCtorEq, ↓reduceIte, rqs, fldRat0, hF]
    refine if_by (fun hlj => ?_) (fun hlj => ?_)
    · have hlj' : j < i := by omega
      have o := horder_ok (xs.getD i q0) (xs.getD j q0) ((hx.get hlt').mono (by omega)) ((hx.get (by omega)).mono (by omega)) (hx.den hlt') (hx.den (by omega))
      rw [← cfq_qvs, ← cfq_qvs] at o
      by_cases he : cfq (qvs xs) i = cfq (qvs xs) j
      · obtain ⟨rfl, rfl⟩ := h2 fun hn => nodup_cf hn (by omega) (by omega) (by omega) he
        rw [he, show cfq (qvs xs) j - cfq (qvs xs) j = 0 by grind, sgq_zero] at o
        simp (disch := omega) only [wk, tis, Int.reduceNe, Int.reduceEq, Int.reduceLT, Int.reduceLE, Int.reduceAdd, Int.reduceSub, Int.reduceNeg, Int.reduceMul, Int.reduceToNat, Nat.reduceSub, Nat.reduceMul, Nat.reduceLeDiff, Nat.reduceAdd, Nat.reduceLT, Nat.reduceEqDiff, reduceCtorEq, ↓reduceIte, rqs, fldRat0, hF]
        refine ⟨tmps_by (by kernel_rfl), ?_⟩
        refine call_by (o) (by first | rfl | (simp only [tocvs, tocv, hF]; rfl) | (simp only [tocvs, tocv, toboxes, tobox, updH_at, Nat.reduceEqDiff, ↓reduceIte, hF]; rfl)) (by simp) ?_
        simp (disch := omega) only [wk, tis, Int.reduceNe, Int.reduceEq, Int.reduceLT, Int.reduceLE, Int.reduceAdd, Int.reduceSub, Int.reduceNeg, Int.reduceMul, Int.reduceToNat, Nat.reduceSub, Nat.reduceMul, Nat.reduceLeDiff, Nat.reduceAdd, Nat.reduceLT, Nat.reduceEqDiff, reduceCtorEq, ↓reduceIte, rqs, fldRat0, hF]
        first | exact log_by (by kernel_rfl) | refine ⟨log_by (by kernel_rfl), ?_⟩
      · have hs : ¬ sgq (cfq (qvs xs) i - cfq (qvs xs) j) = 0 := fun h => he (by have := sgq_eq_zero.mp h; grind)
        simp (disch := omega) only [wk, tis, Int.reduceNe, Int.reduceEq, Int.reduceLT, Int.reduceLE, Int.reduceAdd, Int.reduceSub, Int.reduceNeg, Int.reduceMul, Int.reduceToNat, Nat.reduceSub, Nat.reduceMul, Nat.reduceLeDiff, Nat.reduceAdd, Nat.reduceLT, Nat.reduceEqDiff, reduceCtorEq, ↓reduceIte, rqs, fldRat0, hF]
        refine ⟨tmps_by (by kernel_rfl), ?_⟩
        refine call_by (o) (by first | rfl | (simp only [tocvs, tocv, hF, hs]; rfl) | (simp only [tocvs, tocv, toboxes, tobox, updH_at, Nat.reduceEqDiff, ↓reduceIte, hF, hs]; rfl)) (by simp) ?_
        simp (disch := omega) only [wk, tis, Int.reduceNe, Int.reduceEq, Int.reduceLT, Int.reduceLE, Int.reduceAdd, Int.reduceSub, Int.reduceNeg, Int.reduceMul, Int.reduceToNat, Nat.reduceSub, Nat.reduceMul, Nat.reduceLeDiff, Nat.reduceAdd, Nat.reduceLT, Nat.reduceEqDiff, reduceCtorEq, ↓reduceIte, rqs, fldRat0, hF, hs]
        first | exact log_by (by kernel_rfl) | refine ⟨log_by (by kernel_rfl), ?_⟩
        refine ⟨⟨j + 1, by omega, fun b hb => ?_, ?_⟩, by omega⟩
        · by_cases e : b = j
          · rw [e]; exact he
          · exact hdj b (by omega)
        · (repeat' apply And.intro) <;> first | rfl | omega
    · obtain rfl : j = i := by omega
      simp (disch := omega) only [wk, tis, Int.reduceNe, Int.reduceEq, Int.reduceLT, Int.reduceLE, Int.reduceAdd, Int.reduceSub, Int.reduceNeg, Int.reduceMul, Int.reduceToNat, Nat.reduceSub, Nat.reduceMul, Nat.reduceLeDiff, Nat.reduceAdd, Nat.reduceLT, Nat.reduceEqDiff, reduceCtorEq, ↓reduceIte, rqs, fldRat0, hF]
      refine ⟨⟨j + 1, by omega, fun a b hb ha => ?_, ?_⟩, by omega⟩
      · by_cases e : a = j
        · rw [e]; exact hdj b (by omega)
        · exact hdist a b hb (by omega)
      · (repeat' apply And.intro) <;> first | rfl | omega
  obtain rfl : i = xs.length := by omega
  have hn : (qvs xs).Nodup := nodup_of fun a b hb ha => hdist a b hb (by omega)
  obtain ⟨rfl, rfl⟩ := h1 hn
  clear h1 h2
  simp (disch := omega) only [wk, tis, Int.reduceNe, Int.reduceEq, Int.reduceLT, Int.reduceLE, Int.reduceAdd, Int.reduceSub, Int.reduceNeg, Int.reduceMul, Int.reduceToNat, Nat.reduceSub, Nat.reduceMul, Nat.reduceLeDiff, Nat.reduceAdd, Nat.reduceLT, Nat.reduceEqDiff, reduceCtorEq, ↓reduceIte, rqs, fldRat0, hF]
  refine aloop_w (.nilv 8 (by simp (disch := omega) only [wk, tis, Int.reduceNe, Int.reduceEq, Int.reduceLT, Int.reduceLE, Int.reduceAdd, Int.reduceSub, Int.reduceNeg, Int.reduceMul, Int.reduceToNat, Nat.reduceSub, Nat.reduceMul, Nat.reduceLeDiff, Nat.reduceAdd, Nat.reduceLT, Nat.reduceEqDiff, reduceCtorEq, ↓reduceIte, rqs, fldRat0]) (.refl _ _)) (fun f H => ∃ (i : Nat), i ≤ xs.length ∧ f 9 = .iv (.int .i64 i) ∧ f 0 = .iv (.sl (rats xs)) ∧ f 1 = .iv (.sl (rats ys)) ∧ f 8 = .iv (.sl (rats (cqs (lags (qvs xs) (qvs ys) i))))) (fun f H => (xs.length - intAt f 9).toNat) ?_ ?_
  · refine ⟨0, by omega, ?_⟩
    simp (disch := omega) only [wk, tis, Int.reduceNe, Int.reduceEq, Int.reduceLT, Int.reduceLE, Int.reduceAdd, Int.reduceSub, Int.reduceNeg, Int.reduceMul, Int.reduceToNat, Nat.reduceSub, Nat.reduceMul, Nat.reduceLeDiff, Nat.reduceAdd, Nat.reduceLT, Nat.reduceEqDiff, reduceCtorEq, ↓reduceIte, rqs, fldRat0, hF, show rats (cqs (lags (qvs xs) (qvs ys) 0)) = [] from rfl]
  rintro f H ⟨i, hi, hF⟩
  rw [intAt_of hF.1]
  simp (disch := omega) only [wk, tis, Int.reduceNe, Int.reduceEq, Int.reduceLT, Int.reduceLE, Int.reduceAdd, Int.reduceSub, Int.reduceNeg, Int.reduceMul, Int.reduceToNat, Nat.reduceSub, Nat.reduceMul, Nat.reduceLeDiff, Nat.reduceAdd, Nat.reduceLT, Nat.reduceEqDiff, reduceCtorEq, ↓reduceIte, rqs, fldRat0, hF]
  refine if_by (fun hlt => ?_) (fun hlt => ?_)
  · have hlt' : i < xs.length := by omega
    have f := hfroot_ok xs i i hx (fun j _ => ⟨fun h => by omega, fun h => by omega⟩)
    obtain ⟨E, hE⟩ := froot_cb (N := 40) (cf200 hx) i xs.length (by omega)
    have hc := hE.trim.mono (m := 81) (N := 11321) (by omega) (by
      have : xs.length * (200 + 2 * 40 + 3) ≤ 40 * (200 + 2 * 40 + 3) := Nat.mul_le_mul_right _ (by omega)
      omega)
    have v := VB.of (B := 2 ^ 30) (hc.qb.gq) (hx.get hlt') (hx.den hlt') (by omega) (by omega) (by omega)
    have a := hat_ok ((trimq (froot (qvs xs) i xs.length)).map crat) (xs.getD i q0) _ v
    rw [qvs_map, evq_trim, ← cfq_qvs] at a
    have hne := lag_ne hn (i := i) (by omega)
    rw [hql] at hne
    have za : qz (evq (froot (qvs xs) i xs.length) (cfq (qvs xs) i)) ≤ 2 ^ 30 := by
      have := v.e (trimq (froot (qvs xs) i xs.length)) (by rw [List.length_map]; exact Nat.le_refl _) (fun c hc => by rw [qvs_map]; exact hc)
      rwa [evq_trim, ← cfq_qvs] at this
    have hy' := hy.get (i := i) (by omega)
    have hd' := hy.den (i := i) (by omega)
    have o := hover_ok (ys.getD i q0) (crat (evq (froot (qvs xs) i xs.length) (cfq (qvs xs) i))) (hy'.mono (by omega)) (szq_crat (by omega)) hd' (nv_crat0 _) (by rw [iv_crat]; exact fun e => hne (Rat.num_eq_zero.mp e))
    rw [qv_crat, ← cfq_qvs, show cfq (qvs ys) i / evq (froot (qvs xs) i xs.length) (cfq (qvs xs) i) = lagk (qvs xs) (qvs ys) i by rw [lagk, hql]] at o
    have zk := lagk_z (X := qvs xs) (Y := qvs ys) (cf200 hx) (cf200 hy) (by omega) i
    have nq := hnormq_ok [crat (lagk (qvs xs) (qvs ys) i)] ⟨by simp, fun r hr => by
      rcases List.mem_singleton.1 hr with rfl
      exact ⟨szq_crat (by omega), nv_crat0 _⟩⟩
    rw [show qvs [crat (lagk (qvs xs) (qvs ys) i)] = [lagk (qvs xs) (qvs ys) i] from qvs_map [_]] at nq
    have hk := (CB.const zk).trim
    have m := hmulq_ok (trimq (froot (qvs xs) i xs.length)) (trimq [lagk (qvs xs) (qvs ys) i]) (hc.qb.mono (by omega) (by omega)) (hk.qb.mono (by omega) (by omega)) (fun i j => Nat.le_trans (hc.part hk (by omega) i j) (by omega))
    rw [show cqp (mulq (trimq (froot (qvs xs) i xs.length)) (trimq [lagk (qvs xs) (qvs ys) i])) = cqp (mulq (froot (qvs xs) i xs.length) [lagk (qvs xs) (qvs ys) i]) from congrArg cqw (cqs_ext fun j => mulq_trim _ _ j)] at m
    obtain ⟨F, hF1⟩ := lags_cb (X := qvs xs) (Y := qvs ys) (cf200 hx) (cf200 hy) (by omega) i
    have hS := hF1.trim.mono (m := 82) (N := 2 ^ 26) (by omega) (by
      have : i * (lagT 200 + 1) ≤ 40 * (lagT 200 + 1) := Nat.mul_le_mul_right _ (by omega)
      have e : lagT 200 = 944886 := by decide
      omega)
    have hc0 := hE.mono (m := 81) (N := 11321) (by omega) (by
      have : xs.length * (200 + 2 * 40 + 3) ≤ 40 * (200 + 2 * 40 + 3) := Nat.mul_le_mul_right _ (by omega)
      omega)
    have hm := (hc0.mulq (CB.const zk)).trim
    have es : lags (qvs xs) (qvs ys) (i + 1) = addq (lags (qvs xs) (qvs ys) i) (mulq (froot (qvs xs) i xs.length) [lagk (qvs xs) (qvs ys) i]) := by rw [lags, hql]
    have ad := haddq_ok (trimq (lags (qvs xs) (qvs ys) i)) (trimq (mulq (froot (qvs xs) i xs.length) [lagk (qvs xs) (qvs ys) i])) (hS.qb.mono (by omega) (by omega)) (hm.qb.mono (by omega) (by omega))
    rw [show cqp (addq (trimq (lags (qvs xs) (qvs ys) i)) (trimq (mulq (froot (qvs xs) i xs.length) [lagk (qvs xs) (qvs ys) i]))) = cqp (lags (qvs xs) (qvs ys) (i + 1)) from congrArg cqw (by rw [es]; exact cqs_ext fun j => addq_congr (cfq_trimq _) (cfq_trimq _) j)] at ad
    simp (disch := omega) only [wk, tis, Int.reduceNe, Int.reduceEq, Int.reduceLT, Int.reduceLE, Int.reduceAdd, Int.reduceSub, Int.reduceNeg, Int.reduceMul, Int.reduceToNat, Nat.reduceSub, Nat.reduceMul, Nat.reduceLeDiff, Nat.reduceAdd, Nat.reduceLT, Nat.reduceEqDiff, reduceCtorEq, ↓reduceIte, rqs, fldRat0, hF]
    refine call_by (f) (by first | rfl | (simp only [tocvs, tocv, hF]; rfl) | (simp only [tocvs, tocv, toboxes, tobox, updH_at, Nat.reduceEqDiff, ↓reduceIte, hF]; rfl)) (by simp) ?_
    simp (disch := omega) only [wk, tis, Int.reduceNe, Int.reduceEq, Int.reduceLT, Int.reduceLE, Int.reduceAdd, Int.reduceSub, Int.reduceNeg, Int.reduceMul, Int.reduceToNat, Nat.reduceSub, Nat.reduceMul, Nat.reduceLeDiff, Nat.reduceAdd, Nat.reduceLT, Nat.reduceEqDiff, reduceCtorEq, ↓reduceIte, rqs, fldRat0, hF]
    refine ⟨tmps_by (by kernel_rfl), ?_⟩
    refine call_by (a) (by first | rfl | (simp only [tocvs, tocv, hF]; rfl) | (simp only [tocvs, tocv, toboxes, tobox, updH_at, Nat.reduceEqDiff, ↓reduceIte, hF]; rfl)) (by simp) ?_
    simp (disch := omega) only [wk, tis, Int.reduceNe, Int.reduceEq, Int.reduceLT, Int.reduceLE, Int.reduceAdd, Int.reduceSub, Int.reduceNeg, Int.reduceMul, Int.reduceToNat, Nat.reduceSub, Nat.reduceMul, Nat.reduceLeDiff, Nat.reduceAdd, Nat.reduceLT, Nat.reduceEqDiff, reduceCtorEq, ↓reduceIte, rqs, fldRat0, hF]
    refine call_by (o) (by first | rfl | (simp only [tocvs, tocv, hF]; rfl) | (simp only [tocvs, tocv, toboxes, tobox, updH_at, Nat.reduceEqDiff, ↓reduceIte, hF]; rfl)) (by simp) ?_
    simp (disch := omega) only [wk, tis, Int.reduceNe, Int.reduceEq, Int.reduceLT, Int.reduceLE, Int.reduceAdd, Int.reduceSub, Int.reduceNeg, Int.reduceMul, Int.reduceToNat, Nat.reduceSub, Nat.reduceMul, Nat.reduceLeDiff, Nat.reduceAdd, Nat.reduceLT, Nat.reduceEqDiff, reduceCtorEq, ↓reduceIte, rqs, fldRat0, hF]
    first | exact log_by (by kernel_rfl) | refine ⟨log_by (by kernel_rfl), ?_⟩
    refine call_by (nq) (by first | rfl | (simp only [tocvs, tocv, hF]; rfl) | (simp only [tocvs, tocv, toboxes, tobox, updH_at, Nat.reduceEqDiff, ↓reduceIte, hF]; rfl)) (by simp) ?_
    simp (disch := omega) only [wk, tis, Int.reduceNe, Int.reduceEq, Int.reduceLT, Int.reduceLE, Int.reduceAdd, Int.reduceSub, Int.reduceNeg, Int.reduceMul, Int.reduceToNat, Nat.reduceSub, Nat.reduceMul, Nat.reduceLeDiff, Nat.reduceAdd, Nat.reduceLT, Nat.reduceEqDiff, reduceCtorEq, ↓reduceIte, rqs, fldRat0, hF]
    refine call_by (m) (by first | rfl | (simp only [tocvs, tocv, hF]; rfl) | (simp only [tocvs, tocv, toboxes, tobox, updH_at, Nat.reduceEqDiff, ↓reduceIte, hF]; rfl)) (by simp) ?_
    simp (disch := omega) only [wk, tis, Int.reduceNe, Int.reduceEq, Int.reduceLT, Int.reduceLE, Int.reduceAdd, Int.reduceSub, Int.reduceNeg, Int.reduceMul, Int.reduceToNat, Nat.reduceSub, Nat.reduceMul, Nat.reduceLeDiff, Nat.reduceAdd, Nat.reduceLT, Nat.reduceEqDiff, reduceCtorEq, ↓reduceIte, rqs, fldRat0, hF]
    refine call_by (ad) (by first | rfl | (simp only [tocvs, tocv, hF]; rfl) | (simp only [tocvs, tocv, toboxes, tobox, updH_at, Nat.reduceEqDiff, ↓reduceIte, hF]; rfl)) (by simp) ?_
    simp (disch := omega) only [wk, tis, Int.reduceNe, Int.reduceEq, Int.reduceLT, Int.reduceLE, Int.reduceAdd, Int.reduceSub, Int.reduceNeg, Int.reduceMul, Int.reduceToNat, Nat.reduceSub, Nat.reduceMul, Nat.reduceLeDiff, Nat.reduceAdd, Nat.reduceLT, Nat.reduceEqDiff, reduceCtorEq, ↓reduceIte, rqs, fldRat0, hF]
    refine ⟨⟨i + 1, by omega, ?_⟩, by omega⟩
    (repeat' apply And.intro) <;> first | rfl | omega
  · obtain rfl : i = xs.length := by omega
    simp (disch := omega) only [wk, tis, Int.reduceNe, Int.reduceEq, Int.reduceLT, Int.reduceLE, Int.reduceAdd, Int.reduceSub, Int.reduceNeg, Int.reduceMul, Int.reduceToNat, Nat.reduceSub, Nat.reduceMul, Nat.reduceLeDiff, Nat.reduceAdd, Nat.reduceLT, Nat.reduceEqDiff, reduceCtorEq, ↓reduceIte, rqs, fldRat0, hF]
    try rfl
end Go.Proofs.YtcjnacpekbhhcaaGreat

namespace Go.Proofs.YtcjnacpekbhhcaaGreat
open Go Go.Proofs Go.AL
set_option linter.unusedSimpArgs false
set_option linter.unusedVariables false

/-! ### Scale -/
theorem qsc1_ok (a b : Rat) (c : RQ) (K : Nat) (ha : qz a ≤ K) (hc : SzQ K c) (h0 : nv c.2 ≠ 0) (hK : K ≤ 2 ^ 35) : AC Tryz.prog 85 [cqz a, cqz b, .box (qrow c)] none [cqz (a * qv c), ci 0] := by
  have m := qmul_ok (crat a) c (szq_crat (by omega)) (hc.mono hK) (nv_crat0 _) h0
  rw [qv_crat] at m
  refine AC.by_walk (rs := [.cell 5 31, .tmp 6]) ords Tryz.func85 (by rfl) (by rfl) (by rfl) (by rfl) (by rfl) ?_
  simp (disch := omega) only [wk, tis, Int.reduceNe, Int.reduceEq, Int.reduceLT, Int.reduceLE, Int.reduceAdd, Int.reduceSub, Int.reduceNeg, Int.reduceMul, Int.reduceToNat, Nat.reduceSub, Nat.reduceMul, Nat.reduceLeDiff, Nat.reduceAdd, Nat.reduceLT, Nat.reduceEqDiff, reduceCtorEq, ↓reduceIte, rqs, List.map_cons, List.map_nil]
  refine call_by (m) (by first | rfl | (simp only [tocvs, tocv, List.map_cons, List.map_nil]; rfl) | (simp only [tocvs, tocv, toboxes, tobox, updH_at, Nat.reduceEqDiff, ↓reduceIte, List.map_cons, List.map_nil]; rfl)) (by simp) ?_
  simp (disch := omega) only [wk, tis, Int.reduceNe, Int.reduceEq, Int.reduceLT, Int.reduceLE, Int.reduceAdd, Int.reduceSub, Int.reduceNeg, Int.reduceMul, Int.reduceToNat, Nat.reduceSub, Nat.reduceMul, Nat.reduceLeDiff, Nat.reduceAdd, Nat.reduceLT, Nat.reduceEqDiff, reduceCtorEq, ↓reduceIte, rqs, List.map_cons, List.map_nil]
  try rfl
theorem qeach1_ok (p q : List RQ) (g : Nat) (row : List IV) (F : Rat → Rat → Rat) (K : Nat) (hp : GQ (2 ^ 30) K p) (hq : GQ (2 ^ 30) K q) (hK : K ≤ 2 ^ 35) (hK1 : 1 ≤ K) (hF0 : F 0 0 = 0) (hs : ∀ a b, qz a ≤ K → qz b ≤ K → qz (F a b) ≤ 2 ^ 38)
    (hop : ∀ a b, qz a ≤ K → qz b ≤ K → AC Tryz.prog g [cqz a, cqz b, .box row] none [cqz (F a b), ci 0]) : AC Tryz.prog 75 [cqw p, cqw q, .fn g [row]] none [cqp (zipq F (qvs p) (qvs q)), ci 0] := by
  have m := qboth_ok p q (hp.mono (by omega) (by omega)) (hq.mono (by omega) (by omega))
  have hA := hp.qb.trimq
  have hB := hq.qb.trimq
  have e : cqp (zipq F (qvs p) (qvs q)) = cqp (zipq F (trimq (qvs p)) (trimq (qvs q))) := congrArg cqw (cqs_ext fun k => by rw [cfq_zipq hF0, cfq_zipq hF0, cfq_trimq, cfq_trimq])
  rw [e]
  refine AC.by_walk (rs := [.tmp 6, .tmp 7]) ords Tryz.func75 (by rfl) (by rfl) (by rfl) (by rfl) (by rfl) ?_
  simp (disch := omega) only [wk, tis, Int.reduceNe, Int.reduceEq, Int.reduceLT, Int.reduceLE, Int.reduceAdd, Int.reduceSub, Int.reduceNeg, Int.reduceMul, Int.reduceToNat, Nat.reduceSub, Nat.reduceMul, Nat.reduceLeDiff, Nat.reduceAdd, Nat.reduceLT, Nat.reduceEqDiff, reduceCtorEq, ↓reduceIte, rqs, List.map_cons, List.map_nil]
  refine call_by (m) (by first | rfl | (simp only [tocvs, tocv, List.map_cons, List.map_nil]; rfl) | (simp only [tocvs, tocv, toboxes, tobox, updH_at, Nat.reduceEqDiff, ↓reduceIte, List.map_cons, List.map_nil]; rfl)) (by simp) ?_
  simp (disch := omega) only [wk, tis, Int.reduceNe, Int.reduceEq, Int.reduceLT, Int.reduceLE, Int.reduceAdd, Int.reduceSub, Int.reduceNeg, Int.reduceMul, Int.reduceToNat, Nat.reduceSub, Nat.reduceMul, Nat.reduceLeDiff, Nat.reduceAdd, Nat.reduceLT, Nat.reduceEqDiff, reduceCtorEq, ↓reduceIte, rqs, List.map_cons, List.map_nil]
  unfold cqs
  generalize trimq (qvs p) = A at *
  generalize trimq (qvs q) = B at *
  have hAl := hA.1
  have hBl := hB.1
  have hqa : (A.map crat).length = A.length := List.length_map _
  have hqb : (B.map crat).length = B.length := List.length_map _
  have hRl := zipq_len F A B
  have hR : QB (2 ^ 40) (2 ^ 38) (zipq F A B) := .of (by omega) fun i => by rw [cfq_zipq hF0]; exact hs _ _ (hA.cz hK1 i) (hB.cz hK1 i)
  obtain ⟨n, hn⟩ : ∃ n, n = max A.length B.length := ⟨_, rfl⟩
  have hnI : max (A.length : Int) (B.length : Int) = (n : Int) := by omega
  rw [← hn] at hRl
  simp (disch := omega) only [wk, tis, Int.reduceNe, Int.reduceEq, Int.reduceLT, Int.reduceLE, Int.reduceAdd, Int.reduceSub, Int.reduceNeg, Int.reduceMul, Int.reduceToNat, Nat.reduceSub, Nat.reduceMul, Nat.reduceLeDiff, Nat.reduceAdd, Nat.reduceLT, Nat.reduceEqDiff, reduceCtorEq, ↓reduceIte, rqs, hqa, hqb, hnI]
  refine aloop_nil 11 11 31 3 (by simp (disch := omega) only [wk, tis, Int.reduceNe, Int.reduceEq, Int.reduceLT, Int.reduceLE, Int.reduceAdd, Int.reduceSub, Int.reduceNeg, Int.reduceMul, Int.reduceToNat, Nat.reduceSub, Nat.reduceMul, Nat.reduceLeDiff, Nat.reduceAdd, Nat.reduceLT, Nat.reduceEqDiff, reduceCtorEq, ↓reduceIte, rqs]) (fun f H => ∃ (i st : Nat), i ≤ n ∧ f 30 = .iv (.int .i64 i) ∧ f 29 = .iv (.int .i64 n) ∧ f 8 = .iv (.sl (rats (A.map crat))) ∧ f 9 = .iv (.sl (rats (B.map crat))) ∧ f 2 = .fn g [.ip row] ∧ f 11 = .hs 11 st ∧ H 11 = .blk false st 31 3 (rats (((zipq F A B).take i).map crat))) (fun f H => (n - intAt f 30).toNat) ?_ ?_
  · refine ⟨0, 1, by omega, ?_⟩
    simp (disch := omega) only [wk, tis, Int.reduceNe, Int.reduceEq, Int.reduceLT, Int.reduceLE, Int.reduceAdd, Int.reduceSub, Int.reduceNeg, Int.reduceMul, Int.reduceToNat, Nat.reduceSub, Nat.reduceMul, Nat.reduceLeDiff, Nat.reduceAdd, Nat.reduceLT, Nat.reduceEqDiff, reduceCtorEq, ↓reduceIte, rqs, ghostF, ghostH, List.take_zero, List.map_nil, List.map_cons, hqa, hqb, hnI]
  rintro f H ⟨i, st, hi, hF⟩
  rw [intAt_of hF.1]
  simp (disch := omega) only [wk, tis, Int.reduceNe, Int.reduceEq, Int.reduceLT, Int.reduceLE, Int.reduceAdd, Int.reduceSub, Int.reduceNeg, Int.reduceMul, Int.reduceToNat, Nat.reduceSub, Nat.reduceMul, Nat.reduceLeDiff, Nat.reduceAdd, Nat.reduceLT, Nat.reduceEqDiff, reduceCtorEq, ↓reduceIte, rqs, hF]
  refine if_by (fun hlt => ?_) (fun hlt => ?_)
  · have hq : (((zipq F A B).take i).map crat).length = i := by rw [List.length_map, List.length_take]; omega
    have c1 := qcoef_nat A i (hA.mono (by omega) (by omega))
    have c2 := qcoef_nat B i (hB.mono (by omega) (by omega))
    have o := hop (cfq A i) (cfq B i) (hA.cz hK1 i) (hB.cz hK1 i)
    simp (disch := omega) only [wk, tis, Int.reduceNe, Int.reduceEq, Int.reduceLT, Int.reduceLE, Int.reduceAdd, Int.reduceSub, Int.reduceNeg, Int.reduceMul, Int.reduceToNat, Nat.reduceSub, Nat.reduceMul, Nat.reduceLeDiff, Nat.reduceAdd, Nat.reduceLT, Nat.reduceEqDiff, reduceCtorEq, ↓reduceIte, rqs, hF, hq]
    refine call_by (c1) (by first | rfl | (simp only [tocvs, tocv, hF, hq]; rfl) | (simp only [tocvs, tocv, toboxes, tobox, updH_at, Nat.reduceEqDiff, ↓reduceIte, hF, hq]; rfl)) (by simp) ?_
    simp (disch := omega) only [wk, tis, Int.reduceNe, Int.reduceEq, Int.reduceLT, Int.reduceLE, Int.reduceAdd, Int.reduceSub, Int.reduceNeg, Int.reduceMul, Int.reduceToNat, Nat.reduceSub, Nat.reduceMul, Nat.reduceLeDiff, Nat.reduceAdd, Nat.reduceLT, Nat.reduceEqDiff, reduceCtorEq, ↓reduceIte, rqs, hF, hq]
    refine call_by (c2) (by first | rfl | (simp only [tocvs, tocv, hF, hq]; rfl) | (simp only [tocvs, tocv, toboxes, tobox, updH_at, Nat.reduceEqDiff, ↓reduceIte, hF, hq]; rfl)) (by simp) ?_
    simp (disch := omega) only [wk, tis, Int.reduceNe, Int.reduceEq, Int.reduceLT, Int.reduceLE, Int.reduceAdd, Int.reduceSub, Int.reduceNeg, Int.reduceMul, Int.reduceToNat, Nat.reduceSub, Nat.reduceMul, Nat.reduceLeDiff, Nat.reduceAdd, Nat.reduceLT, Nat.reduceEqDiff, reduceCtorEq, ↓reduceIte, rqs, hF, hq]
    refine call_by (o) (by first | rfl | (simp only [tocvs, tocv, hF, hq]; rfl) | (simp only [tocvs, tocv, toboxes, tobox, updH_at, Nat.reduceEqDiff, ↓reduceIte, hF, hq]; rfl)) (by simp) ?_
    simp (disch := omega) only [wk, tis, Int.reduceNe, Int.reduceEq, Int.reduceLT, Int.reduceLE, Int.reduceAdd, Int.reduceSub, Int.reduceNeg, Int.reduceMul, Int.reduceToNat, Nat.reduceSub, Nat.reduceMul, Nat.reduceLeDiff, Nat.reduceAdd, Nat.reduceLT, Nat.reduceEqDiff, reduceCtorEq, ↓reduceIte, rqs, hF, hq]
    have e := takeq_snoc (q := zipq F A B) (i := i) (by omega)
    rw [cfq_zipq hF0] at e
    refine ⟨⟨i + 1, st + 1, by omega, ?_⟩, by omega⟩
    rw [e, List.map_append]
    (repeat' apply And.intro) <;> first | rfl | omega
  · simp (disch := omega) only [wk, tis, Int.reduceNe, Int.reduceEq, Int.reduceLT, Int.reduceLE, Int.reduceAdd, Int.reduceSub, Int.reduceNeg, Int.reduceMul, Int.reduceToNat, Nat.reduceSub, Nat.reduceMul, Nat.reduceLeDiff, Nat.reduceAdd, Nat.reduceLT, Nat.reduceEqDiff, reduceCtorEq, ↓reduceIte, rqs, hF]
    rw [List.take_of_length_le (by omega)] at hF
    have m := qtrim_own (zipq F A B) hR
    refine call_by (m) (by first | rfl | (simp only [tocvs, tocv, hF]; rfl) | (simp only [tocvs, tocv, toboxes, tobox, updH_at, Nat.reduceEqDiff, ↓reduceIte, hF]; rfl)) (by simp) ?_
    simp (disch := omega) only [wk, tis, Int.reduceNe, Int.reduceEq, Int.reduceLT, Int.reduceLE, Int.reduceAdd, Int.reduceSub, Int.reduceNeg, Int.reduceMul, Int.reduceToNat, Nat.reduceSub, Nat.reduceMul, Nat.reduceLeDiff, Nat.reduceAdd, Nat.reduceLT, Nat.reduceEqDiff, reduceCtorEq, ↓reduceIte, rqs, hF]
theorem qscale_ok (p : List RQ) (c : RQ) (K : Nat) (hp : GQ (2 ^ 30) K p) (hc : SzQ K c) (h0 : nv c.2 ≠ 0) (hK : K ≤ 2 ^ 35) (hK1 : 1 ≤ K) : AC Tryz.prog 31 [cqw p, cqq c] none [cqp (sclq (qv c) (qvs p)), ci 0] := by
  have k := qcheck_good c ⟨Nat.le_trans hc.2.1 (by omega), hc.2.2⟩ h0
  have zc := qz_raw hc h0
  have m := qeach1_ok p [] 85 (qrow c) (fun a _ => a * qv c) K hp ⟨Nat.zero_le _, fun r hr => nomatch hr⟩ hK hK1 (Rat.zero_mul _) (fun a b ha hb => by have := qz_mul a (qv c); omega) (fun a b ha hb => qsc1_ok a b c K ha hc h0 hK)
  rw [show cqp (zipq (fun a _ => a * qv c) (qvs p) (qvs [])) = cqp (sclq (qv c) (qvs p)) from congrArg cqw (cqs_ext fun j => by rw [cfq_zipq (F := fun a _ => a * qv c) (Rat.zero_mul _), cfq_sclq])] at m
  refine AC.by_walk (rs := [.tmp 4, .tmp 5]) ords Tryz.func31 (by rfl) (by rfl) (by rfl) (by rfl) (by rfl) ?_
  simp (disch := omega) only [wk, tis, Int.reduceNe, Int.reduceEq, Int.reduceLT, Int.reduceLE, Int.reduceAdd, Int.reduceSub, Int.reduceNeg, Int.reduceMul, Int.reduceToNat, Nat.reduceSub, Nat.reduceMul, Nat.reduceLeDiff, Nat.reduceAdd, Nat.reduceLT, Nat.reduceEqDiff, reduceCtorEq, ↓reduceIte, rqs]
  refine call_by (k) (by rfl) (by simp) ?_
  simp (disch := omega) only [wk, tis, Int.reduceNe, Int.reduceEq, Int.reduceLT, Int.reduceLE, Int.reduceAdd, Int.reduceSub, Int.reduceNeg, Int.reduceMul, Int.reduceToNat, Nat.reduceSub, Nat.reduceMul, Nat.reduceLeDiff, Nat.reduceAdd, Nat.reduceLT, Nat.reduceEqDiff, reduceCtorEq, ↓reduceIte, rqs]
  refine call_by (m) (by first | rfl | (simp only [tocvs, tocv, List.map_nil]; rfl) | (simp only [tocvs, tocv, toboxes, tobox, updH_at, Nat.reduceEqDiff, ↓reduceIte, List.map_nil]; rfl)) (by simp) ?_
  simp (disch := omega) only [wk, tis, Int.reduceNe, Int.reduceEq, Int.reduceLT, Int.reduceLE, Int.reduceAdd, Int.reduceSub, Int.reduceNeg, Int.reduceMul, Int.reduceToNat, Nat.reduceSub, Nat.reduceMul, Nat.reduceLeDiff, Nat.reduceAdd, Nat.reduceLT, Nat.reduceEqDiff, reduceCtorEq, ↓reduceIte, rqs, List.map_nil]
  try rfl
end Go.Proofs.YtcjnacpekbhhcaaGreat

namespace Go.Proofs.YtcjnacpekbhhcaaGreat
open Go Go.Proofs Go.AL
set_option linter.unusedSimpArgs false
set_option linter.unusedVariables false

theorem qneg_ok (a : RQ) (ha : SzQ (2 ^ 38) a) (h0 : nv a.2 ≠ 0) : AC Tryz.prog 123 [cqq a] none [cqz (-qv a), ci 0] := by
  have n := zneg_ok a.1 (ha.1.mono (by omega))
  have y1 := zl_iv ha.1
  have m := qnorm_ok (canon (-iv a.1), a.2) ⟨(sz_canon _).mono (by rw [zl_neg]; exact y1), ha.2⟩ h0
  rw [show qv (canon (-iv a.1), a.2) = -qv a by rw [qv, qv, iv_canon, Rat.neg_mkRat]] at m
  refine AC.by_walk (rs := [.cell 2 31, .tmp 3]) ords Tryz.func123 (by rfl) (by rfl) (by rfl) (by rfl) (by rfl) ?_
  simp (disch := omega) only [wk, tis, Int.reduceNe, Int.reduceEq, Int.reduceLT, Int.reduceLE, Int.reduceAdd, Int.reduceSub, Int.reduceNeg, Int.reduceMul, Int.reduceToNat, Nat.reduceSub, Nat.reduceMul, Nat.reduceLeDiff, Nat.reduceAdd, Nat.reduceLT, Nat.reduceEqDiff, reduceCtorEq, ↓reduceIte, rqs, fldRat0]
  refine call_by (n) (by rfl) (by simp) ?_
  simp (disch := omega) only [wk, tis, Int.reduceNe, Int.reduceEq, Int.reduceLT, Int.reduceLE, Int.reduceAdd, Int.reduceSub, Int.reduceNeg, Int.reduceMul, Int.reduceToNat, Nat.reduceSub, Nat.reduceMul, Nat.reduceLeDiff, Nat.reduceAdd, Nat.reduceLT, Nat.reduceEqDiff, reduceCtorEq, ↓reduceIte, rqs, fldRat0]
  refine call_by (m) (by rfl) (by simp) ?_
  simp (disch := omega) only [wk, tis, Int.reduceNe, Int.reduceEq, Int.reduceLT, Int.reduceLE, Int.reduceAdd, Int.reduceSub, Int.reduceNeg, Int.reduceMul, Int.reduceToNat, Nat.reduceSub, Nat.reduceMul, Nat.reduceLeDiff, Nat.reduceAdd, Nat.reduceLT, Nat.reduceEqDiff, reduceCtorEq, ↓reduceIte, rqs, fldRat0]
  try rfl
theorem eline_ok (x : RQ) (hx : SzQ (2 ^ 34) x) (h0 : nv x.2 ≠ 0) : AC Tryz.prog 66 [cqq x] none [cqw ((lineq (qv x)).map crat)] := by
  have n := qneg_ok x (hx.mono (by omega)) h0
  have w := ewhole_ok 1 (by omega) (by omega)
  rw [show ((1 : Int) : Rat) = 1 from rfl] at w
  refine AC.by_walk (rs := [.tmp 2]) ords Tryz.func66 (by rfl) (by rfl) (by rfl) (by rfl) (by rfl) ?_
  simp (disch := omega) only [wk, tis, Int.reduceNe, Int.reduceEq, Int.reduceLT, Int.reduceLE, Int.reduceAdd, Int.reduceSub, Int.reduceNeg, Int.reduceMul, Int.reduceToNat, Nat.reduceSub, Nat.reduceMul, Nat.reduceLeDiff, Nat.reduceAdd, Nat.reduceLT, Nat.reduceEqDiff, reduceCtorEq, ↓reduceIte, rqs, fldRat0]
  refine call_by (n) (by rfl) (by simp) ?_
  simp (disch := omega) only [wk, tis, Int.reduceNe, Int.reduceEq, Int.reduceLT, Int.reduceLE, Int.reduceAdd, Int.reduceSub, Int.reduceNeg, Int.reduceMul, Int.reduceToNat, Nat.reduceSub, Nat.reduceMul, Nat.reduceLeDiff, Nat.reduceAdd, Nat.reduceLT, Nat.reduceEqDiff, reduceCtorEq, ↓reduceIte, rqs, fldRat0]
  refine ⟨tmps_by (by kernel_rfl), ?_⟩
  refine call_by (w) (by rfl) (by simp) ?_
  simp (disch := omega) only [wk, tis, Int.reduceNe, Int.reduceEq, Int.reduceLT, Int.reduceLE, Int.reduceAdd, Int.reduceSub, Int.reduceNeg, Int.reduceMul, Int.reduceToNat, Nat.reduceSub, Nat.reduceMul, Nat.reduceLeDiff, Nat.reduceAdd, Nat.reduceLT, Nat.reduceEqDiff, reduceCtorEq, ↓reduceIte, rqs, fldRat0]
  first | exact log_by (by kernel_rfl) | refine ⟨log_by (by kernel_rfl), ?_⟩
  try rfl

theorem froot_qb {xs : List RQ} (hx : GQ 40 200 xs) (b k : Nat) (hk : k ≤ 40) : QB 81 11321 (froot (qvs xs) b k) := by
  obtain ⟨E, hE⟩ := froot_cb (N := 40) (cf200 hx) b k hk
  exact (hE.mono (m := 81) (N := 11321) (by omega) (by
    have : k * (200 + 2 * 40 + 3) ≤ 40 * (200 + 2 * 40 + 3) := Nat.mul_le_mul_right _ hk
    omega)).qb
theorem ewhole1 : AC Tryz.prog 62 [ci 1] none [cqz 1] := by
  have w := ewhole_ok 1 (by omega) (by omega)
  rwa [show ((1 : Int) : Rat) = 1 from rfl] at w

theorem eFroots_ok (xs : List RQ) (hx : GQ 40 200 xs) : AC Tryz.prog 18 [cqw xs] none [cqp (froot (qvs xs) xs.length xs.length), ci 0] := by
  have g := egood_ok xs (hx.bq.mono (by omega) (by omega))
  rw [hx.gd] at g
  have hl := hx.1
  have e0 : rats (cqs (froot (qvs xs) xs.length 0)) = [qrow (crat 1)] := rfl
  refine AC.by_walk (rs := [.tmp 2, .tmp 3]) ords Tryz.func18 (by rfl) (by rfl) (by rfl) (by rfl) (by rfl) ?_
  simp (disch := omega) only [wk, tis, Int.reduceNe, Int.reduceEq, Int.reduceLT, Int.reduceLE, Int.reduceAdd, Int.reduceSub, Int.reduceNeg, Int.reduceMul, Int.reduceToNat, Nat.reduceSub, Nat.reduceMul, Nat.reduceLeDiff, Nat.reduceAdd, Nat.reduceLT, Nat.reduceEqDiff, reduceCtorEq, ↓reduceIte, rqs, fldRat0]
  refine call_by (g) (by rfl) (by simp) ?_
  simp (disch := omega) only [wk, tis, Int.reduceNe, Int.reduceEq, Int.reduceLT, Int.reduceLE, Int.reduceAdd, Int.reduceSub, Int.reduceNeg, Int.reduceMul, Int.reduceToNat, Nat.reduceSub, Nat.reduceMul, Nat.reduceLeDiff, Nat.reduceAdd, Nat.reduceLT, Nat.reduceEqDiff, reduceCtorEq, ↓reduceIte, rqs, fldRat0]
  refine call_by (ewhole1) (by rfl) (by simp) ?_
  simp (disch := omega) only [wk, tis, Int.reduceNe, Int.reduceEq, Int.reduceLT, Int.reduceLE, Int.reduceAdd, Int.reduceSub, Int.reduceNeg, Int.reduceMul, Int.reduceToNat, Nat.reduceSub, Nat.reduceMul, Nat.reduceLeDiff, Nat.reduceAdd, Nat.reduceLT, Nat.reduceEqDiff, reduceCtorEq, ↓reduceIte, rqs, fldRat0]
  refine aloop_w (.iv 4 11 1 false 31 3 [qrow (crat 1)] (by simp (disch := omega) only [wk, tis, Int.reduceNe, Int.reduceEq, Int.reduceLT, Int.reduceLE, Int.reduceAdd, Int.reduceSub, Int.reduceNeg, Int.reduceMul, Int.reduceToNat, Nat.reduceSub, Nat.reduceMul, Nat.reduceLeDiff, Nat.reduceAdd, Nat.reduceLT, Nat.reduceEqDiff, reduceCtorEq, ↓reduceIte, rqs, fldRat0]) (by simp (disch := omega) only [wk, tis, Int.reduceNe, Int.reduceEq, Int.reduceLT, Int.reduceLE, Int.reduceAdd, Int.reduceSub, Int.reduceNeg, Int.reduceMul, Int.reduceToNat, Nat.reduceSub, Nat.reduceMul, Nat.reduceLeDiff, Nat.reduceAdd, Nat.reduceLT, Nat.reduceEqDiff, reduceCtorEq, ↓reduceIte, rqs, fldRat0]) (.refl _ _)) (fun f H => ∃ (k : Nat), k ≤ xs.length ∧ f 14 = .iv (.int .i64 k) ∧ f 13 = .iv (.int .i64 xs.length) ∧ f 12 = .iv (.sl (rats xs)) ∧ f 4 = .iv (.sl (rats (cqs (froot (qvs xs) xs.length k))))) (fun f H => (xs.length - intAt f 14).toNat) ?_ ?_
  · refine ⟨0, by omega, ?_⟩
    simp (disch := omega) only [wk, tis, Int.reduceNe, Int.reduceEq, Int.reduceLT, Int.reduceLE, Int.reduceAdd, Int.reduceSub, Int.reduceNeg, Int.reduceMul, Int.reduceToNat, Nat.reduceSub, Nat.reduceMul, Nat.reduceLeDiff, Nat.reduceAdd, Nat.reduceLT, Nat.reduceEqDiff, reduceCtorEq, ↓reduceIte, rqs, fldRat0, e0]
  rintro f H ⟨k, hk, hF⟩
  rw [intAt_of hF.1]
  simp (disch := omega) only [wk, tis, Int.reduceNe, Int.reduceEq, Int.reduceLT, Int.reduceLE, Int.reduceAdd, Int.reduceSub, Int.reduceNeg, Int.reduceMul, Int.reduceToNat, Nat.reduceSub, Nat.reduceMul, Nat.reduceLeDiff, Nat.reduceAdd, Nat.reduceLT, Nat.reduceEqDiff, reduceCtorEq, ↓reduceIte, rqs, fldRat0, hF]
  refine if_by (fun hlt => ?_) (fun hlt => ?_)
  · have hlt' : k < xs.length := by omega
    have es : froot (qvs xs) xs.length (k + 1) = mulq (froot (qvs xs) xs.length k) (lineq (cfq (qvs xs) k)) := by rw [froot, if_neg (by omega)]
    have n := eline_ok (xs.getD k q0) ((hx.get hlt').mono (by omega)) (hx.den hlt')
    rw [← cfq_qvs] at n
    have hq := froot_qb hx xs.length k (by omega)
    have hcl := (CB.line (cf200 hx k)).qb
    have m := qpmul_g (p := cqs (froot (qvs xs) xs.length k)) (q := (lineq (cfq (qvs xs) k)).map crat) (n := 81) (k := 11321) (X := froot (qvs xs) xs.length k) (Y := lineq (cfq (qvs xs) k)) hq.gqs ((hcl.mono (by omega) (by omega)).gq) (by omega) (by omega) (by omega) (pq_cqs _) (by rw [qvs_map])
    rw [← es] at m
    simp (disch := omega) only [wk, tis, Int.reduceNe, Int.reduceEq, Int.reduceLT, Int.reduceLE, Int.reduceAdd, Int.reduceSub, Int.reduceNeg, Int.reduceMul, Int.reduceToNat, Nat.reduceSub, Nat.reduceMul, Nat.reduceLeDiff, Nat.reduceAdd, Nat.reduceLT, Nat.reduceEqDiff, reduceCtorEq, ↓reduceIte, rqs, fldRat0, hF]
    refine call_by (n) (by first | rfl | (simp only [tocvs, tocv, hF]; rfl) | (simp only [tocvs, tocv, toboxes, tobox, updH_at, Nat.reduceEqDiff, ↓reduceIte, hF]; rfl)) (by simp) ?_
    simp (disch := omega) only [wk, tis, Int.reduceNe, Int.reduceEq, Int.reduceLT, Int.reduceLE, Int.reduceAdd, Int.reduceSub, Int.reduceNeg, Int.reduceMul, Int.reduceToNat, Nat.reduceSub, Nat.reduceMul, Nat.reduceLeDiff, Nat.reduceAdd, Nat.reduceLT, Nat.reduceEqDiff, reduceCtorEq, ↓reduceIte, rqs, fldRat0, hF]
    refine call_by (m) (by first | rfl | (simp only [tocvs, tocv, hF]; rfl) | (simp only [tocvs, tocv, toboxes, tobox, updH_at, Nat.reduceEqDiff, ↓reduceIte, hF]; rfl)) (by simp) ?_
    simp (disch := omega) only [wk, tis, Int.reduceNe, Int.reduceEq, Int.reduceLT, Int.reduceLE, Int.reduceAdd, Int.reduceSub, Int.reduceNeg, Int.reduceMul, Int.reduceToNat, Nat.reduceSub, Nat.reduceMul, Nat.reduceLeDiff, Nat.reduceAdd, Nat.reduceLT, Nat.reduceEqDiff, reduceCtorEq, ↓reduceIte, rqs, fldRat0, hF]
    refine ⟨⟨k + 1, by omega, ?_⟩, by omega⟩
    (repeat' apply And.intro) <;> first | rfl | omega
  · obtain rfl : k = xs.length := by omega
    simp (disch := omega) only [wk, tis, Int.reduceNe, Int.reduceEq, Int.reduceLT, Int.reduceLE, Int.reduceAdd, Int.reduceSub, Int.reduceNeg, Int.reduceMul, Int.reduceToNat, Nat.reduceSub, Nat.reduceMul, Nat.reduceLeDiff, Nat.reduceAdd, Nat.reduceLT, Nat.reduceEqDiff, reduceCtorEq, ↓reduceIte, rqs, fldRat0, hF]
    try rfl
theorem eFroots_bad (xs : List RQ) (hx : BQ 40 200 xs) (h : gd xs = false) : AC Tryz.prog 18 [cqw xs] none [cqw [], ci 1] := by
  have g := egood_ok xs (hx.mono (by omega) (by omega))
  rw [h] at g
  refine AC.by_walk (rs := [.tmp 2, .tmp 3]) ords Tryz.func18 (by rfl) (by rfl) (by rfl) (by rfl) (by rfl) ?_
  simp (disch := omega) only [wk, tis, Int.reduceNe, Int.reduceEq, Int.reduceLT, Int.reduceLE, Int.reduceAdd, Int.reduceSub, Int.reduceNeg, Int.reduceMul, Int.reduceToNat, Nat.reduceSub, Nat.reduceMul, Nat.reduceLeDiff, Nat.reduceAdd, Nat.reduceLT, Nat.reduceEqDiff, reduceCtorEq, ↓reduceIte, rqs, fldRat0]
  refine call_by (g) (by rfl) (by simp) ?_
  simp (disch := omega) only [wk, tis, Int.reduceNe, Int.reduceEq, Int.reduceLT, Int.reduceLE, Int.reduceAdd, Int.reduceSub, Int.reduceNeg, Int.reduceMul, Int.reduceToNat, Nat.reduceSub, Nat.reduceMul, Nat.reduceLeDiff, Nat.reduceAdd, Nat.reduceLT, Nat.reduceEqDiff, reduceCtorEq, ↓reduceIte, rqs, fldRat0]
  try rfl

theorem news_qb {xs ys : List RQ} (hx : GQ 40 200 xs) (hy : GQ 40 200 ys) {k : Nat} (hk : k ≤ xs.length) (hd : ∀ i j, j < i → i < k → cfq (qvs xs) i ≠ cfq (qvs xs) j) : QB 40 (2 ^ 26) (trimq (news (qvs xs) (qvs ys) k)) := .of (by
    rw [trimq_len]
    have := tzq_low (q := news (qvs xs) (qvs ys) k) (n := k) fun j hj => news_deg (qvs xs) (qvs ys) k (by rw [qvs_len]; exact hk) j hj
    have := hx.1
    omega) fun i => by
  rw [cfq_trimq]
  have h := news_z (X := qvs xs) (Y := qvs ys) (K := 200) (by omega) (cf200 hx) (cf200 hy) (by rw [qvs_len]; exact hx.1) (by rw [qvs_len]; exact hk) hd i
  have e : lagT 200 = 944886 := by decide
  omega

set_option maxRecDepth 100000 in
theorem ethrough_ok (xs ys : List RQ) (l : List RQ) (e : Int) (hx : GQ 40 200 xs) (hy : GQ 40 200 ys) (hxy : xs.length = ys.length) (h1 : (qvs xs).Nodup → l = cqs (news (qvs xs) (qvs ys) xs.length) ∧ e = 0) (h2 : ¬ (qvs xs).Nodup → l = [] ∧ e = 3) : AC Tryz.prog 16 [cqw xs, cqw ys] none [cqw l, ci e] := by
  have g1 := egood_ok xs (hx.bq.mono (by omega) (by omega))
  have g2 := egood_ok ys (hy.bq.mono (by omega) (by omega))
  rw [hx.gd] at g1
  rw [hy.gd] at g2
  have hl := hx.1
  have hl2 := hy.1
  have hql := qvs_len xs
  have hxyi : (xs.length : Int) = (ys.length : Int) := by omega
  have e0 : rats (cqs (froot (qvs xs) xs.length 0)) = [qrow (crat 1)] := rfl
  have e1 : rats (cqs (news (qvs xs) (qvs ys) 0)) = [] := rfl
  refine AC.by_walk (rs := [.tmp 4, .tmp 5]) ords Tryz.func16 (by rfl) (by rfl) (by rfl) (by rfl) (by rfl) ?_
  simp (disch := omega) only [wk, tis, Int.reduceNe, Int.reduceEq, Int.reduceLT, Int.reduceLE, Int.reduceAdd, Int.reduceSub, Int.reduceNeg, Int.reduceMul, Int.reduceToNat, Nat.reduceSub, Nat.reduceMul, Nat.reduceLeDiff, Nat.reduceAdd, Nat.reduceLT, Nat.reduceEqDiff, reduceCtorEq, ↓reduceIte, rqs, fldRat0]
  refine call_by (g1) (by rfl) (by simp) ?_
  simp (disch := omega) only [wk, tis, Int.reduceNe, Int.reduceEq, Int.reduceLT, Int.reduceLE, Int.reduceAdd, Int.reduceSub, Int.reduceNeg, Int.reduceMul, Int.reduceToNat, Nat.reduceSub, Nat.reduceMul, Nat.reduceLeDiff, Nat.reduceAdd, Nat.reduceLT, Nat.reduceEqDiff, reduceCtorEq, ↓reduceIte, rqs, fldRat0]
  refine call_by (g2) (by first | rfl | (simp only [tocvs, tocv, hxyi]; rfl) | (simp only [tocvs, tocv, toboxes, tobox, updH_at, Nat.reduceEqDiff, ↓reduceIte, hxyi]; rfl)) (by simp) ?_
  simp (disch := omega) only [wk, tis, Int.reduceNe, Int.reduceEq, Int.reduceLT, Int.reduceLE, Int.reduceAdd, Int.reduceSub, Int.reduceNeg, Int.reduceMul, Int.reduceToNat, Nat.reduceSub, Nat.reduceMul, Nat.reduceLeDiff, Nat.reduceAdd, Nat.reduceLT, Nat.reduceEqDiff, reduceCtorEq, ↓reduceIte, rqs, fldRat0, hxyi]
  refine call_by (ewhole1) (by rfl) (by simp) ?_
  simp (disch := omega) only [wk, tis, Int.reduceNe, Int.reduceEq, Int.reduceLT, Int.reduceLE, Int.reduceAdd, Int.reduceSub, Int.reduceNeg, Int.reduceMul, Int.reduceToNat, Nat.reduceSub, Nat.reduceMul, Nat.reduceLeDiff, Nat.reduceAdd, Nat.reduceLT, Nat.reduceEqDiff, reduceCtorEq, ↓reduceIte, rqs, fldRat0]
  refine aloop_w (.nilv 6 (by simp (disch := omega) only [wk, tis, Int.reduceNe, Int.reduceEq, Int.reduceLT, Int.reduceLE, Int.reduceAdd, Int.reduceSub, Int.reduceNeg, Int.reduceMul, Int.reduceToNat, Nat.reduceSub, Nat.reduceMul, Nat.reduceLeDiff, Nat.reduceAdd, Nat.reduceLT, Nat.reduceEqDiff, reduceCtorEq, ↓reduceIte, rqs, fldRat0]) (.iv 7 36 1 false 31 3 [qrow (crat 1)] (by simp (disch := omega) only [wk, tis, Int.reduceNe, Int.reduceEq, Int.reduceLT, Int.reduceLE, Int.reduceAdd, Int.reduceSub, Int.reduceNeg, Int.reduceMul, Int.reduceToNat, Nat.reduceSub, Nat.reduceMul, Nat.reduceLeDiff, Nat.reduceAdd, Nat.reduceLT, Nat.reduceEqDiff, reduceCtorEq, ↓reduceIte, rqs, fldRat0]) (by simp (disch := omega) only [wk, tis, Int.reduceNe, Int.reduceEq, Int.reduceLT, Int.reduceLE, Int.reduceAdd, Int.reduceSub, Int.reduceNeg, Int.reduceMul, Int.reduceToNat, Nat.reduceSub, Nat.reduceMul, Nat.reduceLeDiff, Nat.reduceAdd, Nat.reduceLT, Nat.reduceEqDiff, reduceCtorEq, ↓reduceIte, rqs, fldRat0]) (.refl _ _))) (fun f H => ∃ (i : Nat), i ≤ xs.length ∧ (∀ a b, b < a → a < i → cfq (qvs xs) a ≠ cfq (qvs xs) b) ∧ f 39 = .iv (.int .i64 i) ∧ f 38 = .iv (.int .i64 xs.length) ∧ f 37 = .iv (.sl (rats xs)) ∧ f 1 = .iv (.sl (rats ys)) ∧ f 6 = .iv (.sl (rats (cqs (news (qvs xs) (qvs ys) i)))) ∧ f 7 = .iv (.sl (rats (cqs (froot (qvs xs) xs.length i))))) (fun f H => (xs.length - intAt f 39).toNat) ?_ ?_
  · refine ⟨0, by omega, fun a b _ h => by omega, ?_⟩
    simp (disch := omega) only [wk, tis, Int.reduceNe, Int.reduceEq, Int.reduceLT, Int.reduceLE, Int.reduceAdd, Int.reduceSub, Int.reduceNeg, Int.reduceMul, Int.reduceToNat, Nat.reduceSub, Nat.reduceMul, Nat.reduceLeDiff, Nat.reduceAdd, Nat.reduceLT, Nat.reduceEqDiff, reduceCtorEq, ↓reduceIte, rqs, fldRat0, e0, e1, hxyi]
  rintro f H ⟨i, hi, hdist, hF⟩
  rw [intAt_of hF.1]
  simp (disch := omega) only [wk, tis, Int.reduceNe, Int.reduceEq, Int.reduceLT, Int.reduceLE, Int.reduceAdd, Int.reduceSub, Int.reduceNeg, Int.reduceMul, Int.reduceToNat, Nat.reduceSub, Nat.reduceMul, Nat.reduceLeDiff, Nat.reduceAdd, Nat.reduceLT, Nat.reduceEqDiff, reduceCtorEq, ↓reduceIte, rqs, fldRat0, hF]
  refine if_by (fun hlt => ?_) (fun hlt => ?_)
  · have hlt' : i < xs.length := by omega
    have hx' := hx.get hlt'
    have hdx := hx.den hlt'
    have hy' := hy.get (i := i) (by omega)
    have hdy := hy.den (i := i) (by omega)
    have hfq := froot_qb hx xs.length i (by omega)
    have v1 := VB.of (B := 2 ^ 24) hfq.trimq.gq hx' hdx (by omega) (by omega) (by omega)
    have a1 := eAt_ok ((trimq (froot (qvs xs) xs.length i)).map crat) (xs.getD i q0) _ v1
    rw [qvs_map, evq_trim, ← cfq_qvs] at a1
    have z1 : qz (evq (froot (qvs xs) xs.length i) (cfq (qvs xs) i)) ≤ 2 ^ 24 := by
      have := v1.e (trimq (froot (qvs xs) xs.length i)) (by rw [List.length_map]; exact Nat.le_refl _) (fun c hc => by rw [qvs_map]; exact hc)
      rwa [evq_trim, ← cfq_qvs] at this
    have s1 := qsign_ok (crat (evq (froot (qvs xs) xs.length i) (cfq (qvs xs) i))) (szq_crat (by omega)) (nv_crat0 _)
    rw [sgq_qv (nv_crat0 _), qv_crat] at s1
    by_cases h0 : evq (froot (qvs xs) xs.length i) (cfq (qvs xs) i) = 0
    · have hnd : ¬ (qvs xs).Nodup := fun hn => froot_ne (qvs xs) xs.length i (cfq (qvs xs) i) (fun j hj _ => nodup_cf hn (by omega) (by omega) (by omega)) h0
      obtain ⟨rfl, rfl⟩ := h2 hnd
      rw [h0] at a1 s1
      rw [sgq_zero] at s1
      simp (disch := omega) only [wk, tis, Int.reduceNe, Int.reduceEq, Int.reduceLT, Int.reduceLE, Int.reduceAdd, Int.reduceSub, Int.reduceNeg, Int.reduceMul, Int.reduceToNat, Nat.reduceSub, Nat.reduceMul, Nat.reduceLeDiff, Nat.reduceAdd, Nat.reduceLT, Nat.reduceEqDiff, reduceCtorEq, ↓reduceIte, rqs, fldRat0, hF]
      refine call_by (a1) (by first | rfl | (simp only [tocvs, tocv, hF]; rfl) | (simp only [tocvs, tocv, toboxes, tobox, updH_at, Nat.reduceEqDiff, ↓reduceIte, hF]; rfl)) (by simp) ?_
      simp (disch := omega) only [wk, tis, Int.reduceNe, Int.reduceEq, Int.reduceLT, Int.reduceLE, Int.reduceAdd, Int.reduceSub, Int.reduceNeg, Int.reduceMul, Int.reduceToNat, Nat.reduceSub, Nat.reduceMul, Nat.reduceLeDiff, Nat.reduceAdd, Nat.reduceLT, Nat.reduceEqDiff, reduceCtorEq, ↓reduceIte, rqs, fldRat0, hF]
      refine call_by (s1) (by first | rfl | (simp only [tocvs, tocv, hF]; rfl) | (simp only [tocvs, tocv, toboxes, tobox, updH_at, Nat.reduceEqDiff, ↓reduceIte, hF]; rfl)) (by simp) ?_
      simp (disch := omega) only [wk, tis, Int.reduceNe, Int.reduceEq, Int.reduceLT, Int.reduceLE, Int.reduceAdd, Int.reduceSub, Int.reduceNeg, Int.reduceMul, Int.reduceToNat, Nat.reduceSub, Nat.reduceMul, Nat.reduceLeDiff, Nat.reduceAdd, Nat.reduceLT, Nat.reduceEqDiff, reduceCtorEq, ↓reduceIte, rqs, fldRat0, hF]
    · have hs : ¬ sgq (evq (froot (qvs xs) xs.length i) (cfq (qvs xs) i)) = 0 := fun h => h0 (sgq_eq_zero.mp h)
      have hdn : ∀ j, j < i → cfq (qvs xs) i ≠ cfq (qvs xs) j := fun j hj he => h0 (by rw [he]; exact froot_zero (qvs xs) xs.length i j hj (by omega))
      have hnq := news_qb hx hy hi (fun a b hb ha => hdist a b hb ha)
      have v2 := VB.of (B := 2 ^ 32) hnq.gq hx' hdx (by omega) (by omega) (by omega)
      have a2 := eAt_ok ((trimq (news (qvs xs) (qvs ys) i)).map crat) (xs.getD i q0) _ v2
      rw [qvs_map, evq_trim, ← cfq_qvs] at a2
      have z2 : qz (evq (news (qvs xs) (qvs ys) i) (cfq (qvs xs) i)) ≤ 2 ^ 32 := by
        have := v2.e (trimq (news (qvs xs) (qvs ys) i)) (by rw [List.length_map]; exact Nat.le_refl _) (fun c hc => by rw [qvs_map]; exact hc)
        rwa [evq_trim, ← cfq_qvs] at this
      have b1 := qsub_ok (ys.getD i q0) (crat (evq (news (qvs xs) (qvs ys) i) (cfq (qvs xs) i))) (hy'.mono (by omega)) (szq_crat (by omega)) hdy (nv_crat0 _)
      rw [qv_crat, ← cfq_qvs] at b1
      have z3 : qz (cfq (qvs ys) i - evq (news (qvs xs) (qvs ys) i) (cfq (qvs xs) i)) ≤ 2 ^ 33 := by
        have h1 := cf200 hy i
        have zn : qz (-evq (news (qvs xs) (qvs ys) i) (cfq (qvs xs) i)) ≤ 2 ^ 32 := ((CD.ofRat _).neg.mono (Nat.le_trans (qz_parts _).1 z2)).size (Rat.den_nz _) (Nat.le_trans (qz_parts _).2 z2)
        have := qz_add (cfq (qvs ys) i) (-evq (news (qvs xs) (qvs ys) i) (cfq (qvs xs) i))
        rw [Rat.sub_eq_add_neg]
        omega
      have b2 := qquo_ok (crat (cfq (qvs ys) i - evq (news (qvs xs) (qvs ys) i) (cfq (qvs xs) i))) (crat (evq (froot (qvs xs) xs.length i) (cfq (qvs xs) i))) (szq_crat (by omega)) (szq_crat (by omega)) (nv_crat0 _) (nv_crat0 _) (by rw [iv_crat]; exact fun e => h0 (Rat.num_eq_zero.mp e))
      have z4 := qz_div (cfq (qvs ys) i - evq (news (qvs xs) (qvs ys) i) (cfq (qvs xs) i)) (evq (froot (qvs xs) xs.length i) (cfq (qvs xs) i))
      have ec : (cfq (qvs ys) i - evq (news (qvs xs) (qvs ys) i) (cfq (qvs xs) i)) / evq (froot (qvs xs) xs.length i) (cfq (qvs xs) i) = newc (qvs xs) (qvs ys) (news (qvs xs) (qvs ys) i) i := by rw [newc, hql]
      rw [qv_crat, qv_crat, ec] at b2
      rw [ec] at z4
      have es : news (qvs xs) (qvs ys) (i + 1) = addq (news (qvs xs) (qvs ys) i) (sclq (newc (qvs xs) (qvs ys) (news (qvs xs) (qvs ys) i) i) (froot (qvs xs) xs.length i)) := by rw [news, hql]
      generalize newc (qvs xs) (qvs ys) (news (qvs xs) (qvs ys) i) i = c at *
      have b3 := qscale_ok (cqs (froot (qvs xs) xs.length i)) (crat c) (2 ^ 34) (hfq.gqs.mono (by omega) (by omega)) (szq_crat (by omega)) (nv_crat0 _) (by omega) (by omega)
      rw [qv_crat, show cqp (sclq c (qvs (cqs (froot (qvs xs) xs.length i)))) = cqp (sclq c (froot (qvs xs) xs.length i)) from congrArg cqw (cqs_ext fun j => sclq_congr c (fun j => by rw [qvs_cqs, cfq_trimq]) j)] at b3
      have hsq : QB 81 (2 ^ 34) (sclq c (froot (qvs xs) xs.length i)) := .of (by simp [sclq]; exact hfq.1) fun j => by
        rw [cfq_sclq]
        have h1 := qz_mul (cfq (froot (qvs xs) xs.length i) j) c
        have h2 := hfq.cz (by omega) j
        omega
      have b4 := qpadd_g (p := cqs (news (qvs xs) (qvs ys) i)) (q := cqs (sclq c (froot (qvs xs) xs.length i))) (K := 2 ^ 34) (X := news (qvs xs) (qvs ys) i) (Y := sclq c (froot (qvs xs) xs.length i)) (hnq.gq.mono (by omega) (by omega)) (hsq.gqs.mono (by omega) (by omega)) (by omega) (by omega) (pq_cqs _) (pq_cqs _)
      rw [← es] at b4
      have el : froot (qvs xs) xs.length (i + 1) = mulq (froot (qvs xs) xs.length i) (lineq (cfq (qvs xs) i)) := by rw [froot, if_neg (by omega)]
      have n := eline_ok (xs.getD i q0) (hx'.mono (by omega)) hdx
      rw [← cfq_qvs] at n
      have hcl := (CB.line (cf200 hx i)).qb
      have m := qpmul_g (p := cqs (froot (qvs xs) xs.length i)) (q := (lineq (cfq (qvs xs) i)).map crat) (n := 81) (k := 11321) (X := froot (qvs xs) xs.length i) (Y := lineq (cfq (qvs xs) i)) hfq.gqs ((hcl.mono (by omega) (by omega)).gq) (by omega) (by omega) (by omega) (pq_cqs _) (by rw [qvs_map])
      rw [← el] at m
      simp (disch := omega) only [wk, tis, Int.reduceNe, Int.reduceEq, Int.reduceLT, Int.reduceLE, Int.reduceAdd, Int.reduceSub, Int.reduceNeg, Int.reduceMul, Int.reduceToNat, Nat.reduceSub, Nat.reduceMul, Nat.reduceLeDiff, Nat.reduceAdd, Nat.reduceLT, Nat.reduceEqDiff, reduceCtorEq, ↓reduceIte, rqs, fldRat0, hF]
      refine call_by (a1) (by first | rfl | (simp only [tocvs, tocv, hF]; rfl) | (simp only [tocvs, tocv, toboxes, tobox, updH_at, Nat.reduceEqDiff, ↓reduceIte, hF]; rfl)) (by simp) ?_
      simp (disch := omega) only [wk, tis, Int.reduceNe, Int.reduceEq, Int.reduceLT, Int.reduceLE, Int.reduceAdd, Int.reduceSub, Int.reduceNeg, Int.reduceMul, Int.reduceToNat, Nat.reduceSub, Nat.reduceMul, Nat.reduceLeDiff, Nat.reduceAdd, Nat.reduceLT, Nat.reduceEqDiff, reduceCtorEq, ↓reduceIte, rqs, fldRat0, hF]
      refine call_by (s1) (by first | rfl | (simp only [tocvs, tocv, hF, hs]; rfl) | (simp only [tocvs, tocv, toboxes, tobox, updH_at, Nat.reduceEqDiff, ↓reduceIte, hF, hs]; rfl)) (by simp) ?_
      simp (disch := omega) only [wk, tis, Int.reduceNe, Int.reduceEq, Int.reduceLT, Int.reduceLE, Int.reduceAdd, Int.reduceSub, Int.reduceNeg, Int.reduceMul, Int.reduceToNat, Nat.reduceSub, Nat.reduceMul, Nat.reduceLeDiff, Nat.reduceAdd, Nat.reduceLT, Nat.reduceEqDiff, reduceCtorEq, ↓reduceIte, rqs, fldRat0, hF, hs]
      refine call_by (a2) (by first | rfl | (simp only [tocvs, tocv, hF]; rfl) | (simp only [tocvs, tocv, toboxes, tobox, updH_at, Nat.reduceEqDiff, ↓reduceIte, hF]; rfl)) (by simp) ?_
      simp (disch := omega) only [wk, tis, Int.reduceNe, Int.reduceEq, Int.reduceLT, Int.reduceLE, Int.reduceAdd, Int.reduceSub, Int.reduceNeg, Int.reduceMul, Int.reduceToNat, Nat.reduceSub, Nat.reduceMul, Nat.reduceLeDiff, Nat.reduceAdd, Nat.reduceLT, Nat.reduceEqDiff, reduceCtorEq, ↓reduceIte, rqs, fldRat0, hF]
      refine ⟨tmps_by (by kernel_rfl), ?_⟩
      refine call_by (b1) (by first | rfl | (simp only [tocvs, tocv, hF]; rfl) | (simp only [tocvs, tocv, toboxes, tobox, updH_at, Nat.reduceEqDiff, ↓reduceIte, hF]; rfl)) (by simp) ?_
      simp (disch := omega) only [wk, tis, Int.reduceNe, Int.reduceEq, Int.reduceLT, Int.reduceLE, Int.reduceAdd, Int.reduceSub, Int.reduceNeg, Int.reduceMul, Int.reduceToNat, Nat.reduceSub, Nat.reduceMul, Nat.reduceLeDiff, Nat.reduceAdd, Nat.reduceLT, Nat.reduceEqDiff, reduceCtorEq, ↓reduceIte, rqs, fldRat0, hF]
      first | exact log_by (by kernel_rfl) | refine ⟨log_by (by kernel_rfl), ?_⟩
      refine call_by (b2) (by first | rfl | (simp only [tocvs, tocv, hF]; rfl) | (simp only [tocvs, tocv, toboxes, tobox, updH_at, Nat.reduceEqDiff, ↓reduceIte, hF]; rfl)) (by simp) ?_
      simp (disch := omega) only [wk, tis, Int.reduceNe, Int.reduceEq, Int.reduceLT, Int.reduceLE, Int.reduceAdd, Int.reduceSub, Int.reduceNeg, Int.reduceMul, Int.reduceToNat, Nat.reduceSub, Nat.reduceMul, Nat.reduceLeDiff, Nat.reduceAdd, Nat.reduceLT, Nat.reduceEqDiff, reduceCtorEq, ↓reduceIte, rqs, fldRat0, hF]
      refine call_by (b3) (by first | rfl | (simp only [tocvs, tocv, hF]; rfl) | (simp only [tocvs, tocv, toboxes, tobox, updH_at, Nat.reduceEqDiff, ↓reduceIte, hF]; rfl)) (by simp) ?_
      simp (disch := omega) only [wk, tis, Int.reduceNe, Int.reduceEq, Int.reduceLT, Int.reduceLE, Int.reduceAdd, Int.reduceSub, Int.reduceNeg, Int.reduceMul, Int.reduceToNat, Nat.reduceSub, Nat.reduceMul, Nat.reduceLeDiff, Nat.reduceAdd, Nat.reduceLT, Nat.reduceEqDiff, reduceCtorEq, ↓reduceIte, rqs, fldRat0, hF]
      refine call_by (b4) (by first | rfl | (simp only [tocvs, tocv, hF]; rfl) | (simp only [tocvs, tocv, toboxes, tobox, updH_at, Nat.reduceEqDiff, ↓reduceIte, hF]; rfl)) (by simp) ?_
      simp (disch := omega) only [wk, tis, Int.reduceNe, Int.reduceEq, Int.reduceLT, Int.reduceLE, Int.reduceAdd, Int.reduceSub, Int.reduceNeg, Int.reduceMul, Int.reduceToNat, Nat.reduceSub, Nat.reduceMul, Nat.reduceLeDiff, Nat.reduceAdd, Nat.reduceLT, Nat.reduceEqDiff, reduceCtorEq, ↓reduceIte, rqs, fldRat0, hF]
      refine call_by (n) (by first | rfl | (simp only [tocvs, tocv, hF]; rfl) | (simp only [tocvs, tocv, toboxes, tobox, updH_at, Nat.reduceEqDiff, ↓reduceIte, hF]; rfl)) (by simp) ?_
      simp (disch := omega) only [wk, tis, Int.reduceNe, Int.reduceEq, Int.reduceLT, Int.reduceLE, Int.reduceAdd, Int.reduceSub, Int.reduceNeg, Int.reduceMul, Int.reduceToNat, Nat.reduceSub, Nat.reduceMul, Nat.reduceLeDiff, Nat.reduceAdd, Nat.reduceLT, Nat.reduceEqDiff, reduceCtorEq, ↓reduceIte, rqs, fldRat0, hF]
      refine call_by (m) (by first | rfl | (simp only [tocvs, tocv, hF]; rfl) | (simp only [tocvs, tocv, toboxes, tobox, updH_at, Nat.reduceEqDiff, ↓reduceIte, hF]; rfl)) (by simp) ?_
      simp (disch := omega) only [wk, tis, Int.reduceNe, Int.reduceEq, Int.reduceLT, Int.reduceLE, Int.reduceAdd, Int.reduceSub, Int.reduceNeg, Int.reduceMul, Int.reduceToNat, Nat.reduceSub, Nat.reduceMul, Nat.reduceLeDiff, Nat.reduceAdd, Nat.reduceLT, Nat.reduceEqDiff, reduceCtorEq, ↓reduceIte, rqs, fldRat0, hF]
      refine ⟨⟨i + 1, by omega, fun a b hb ha => ?_, ?_⟩, by omega⟩
      · by_cases e : a = i
        · rw [e] at hb ⊢; exact hdn b hb
        · exact hdist a b hb (by omega)
      · (repeat' apply And.intro) <;> first | rfl | omega
  · obtain rfl : i = xs.length := by omega
    have hn : (qvs xs).Nodup := nodup_of fun a b hb ha => hdist a b hb (by omega)
    obtain ⟨rfl, rfl⟩ := h1 hn
    simp (disch := omega) only [wk, tis, Int.reduceNe, Int.reduceEq, Int.reduceLT, Int.reduceLE, Int.reduceAdd, Int.reduceSub, Int.reduceNeg, Int.reduceMul, Int.reduceToNat, Nat.reduceSub, Nat.reduceMul, Nat.reduceLeDiff, Nat.reduceAdd, Nat.reduceLT, Nat.reduceEqDiff, reduceCtorEq, ↓reduceIte, rqs, fldRat0, hF]
    try rfl
theorem ethrough_bad (xs ys : List RQ) (hx : BQ 40 200 xs) (hy : BQ 40 200 ys) (h : gd xs = false ∨ gd ys = false) : AC Tryz.prog 16 [cqw xs, cqw ys] none [cqw [], ci 1] := by
  have g1 := egood_ok xs (hx.mono (by omega) (by omega))
  have g2 := egood_ok ys (hy.mono (by omega) (by omega))
  cases hg : gd xs with
  | false =>
    rw [hg] at g1
    refine AC.by_walk (rs := [.tmp 4, .tmp 5]) ords Tryz.func16 (by rfl) (by rfl) (by rfl) (by rfl) (by rfl) ?_
    simp (disch := omega) only [wk, tis, Int.reduceNe, Int.reduceEq, Int.reduceLT, Int.reduceLE, Int.reduceAdd, Int.reduceSub, Int.reduceNeg, Int.reduceMul, Int.reduceToNat, Nat.reduceSub, Nat.reduceMul, Nat.reduceLeDiff, Nat.reduceAdd, Nat.reduceLT, Nat.reduceEqDiff, reduceCtorEq, ↓reduceIte, rqs, fldRat0]
    refine call_by (g1) (by rfl) (by simp) ?_
    simp (disch := omega) only [wk, tis, Int.reduceNe, Int.reduceEq, Int.reduceLT, Int.reduceLE, Int.reduceAdd, Int.reduceSub, Int.reduceNeg, Int.reduceMul, Int.reduceToNat, Nat.reduceSub, Nat.reduceMul, Nat.reduceLeDiff, Nat.reduceAdd, Nat.reduceLT, Nat.reduceEqDiff, reduceCtorEq, ↓reduceIte, rqs, fldRat0]
    try rfl
  | true =>
    rw [hg] at g1
    have hg2 : gd ys = false := h.resolve_left (by rw [hg]; decide)
    rw [hg2] at g2
    refine AC.by_walk (rs := [.tmp 4, .tmp 5]) ords Tryz.func16 (by rfl) (by rfl) (by rfl) (by rfl) (by rfl) ?_
    simp (disch := omega) only [wk, tis, Int.reduceNe, Int.reduceEq, Int.reduceLT, Int.reduceLE, Int.reduceAdd, Int.reduceSub, Int.reduceNeg, Int.reduceMul, Int.reduceToNat, Nat.reduceSub, Nat.reduceMul, Nat.reduceLeDiff, Nat.reduceAdd, Nat.reduceLT, Nat.reduceEqDiff, reduceCtorEq, ↓reduceIte, rqs, fldRat0]
    refine call_by (g1) (by rfl) (by simp) ?_
    simp (disch := omega) only [wk, tis, Int.reduceNe, Int.reduceEq, Int.reduceLT, Int.reduceLE, Int.reduceAdd, Int.reduceSub, Int.reduceNeg, Int.reduceMul, Int.reduceToNat, Nat.reduceSub, Nat.reduceMul, Nat.reduceLeDiff, Nat.reduceAdd, Nat.reduceLT, Nat.reduceEqDiff, reduceCtorEq, ↓reduceIte, rqs, fldRat0]
    refine call_by (g2) (by rfl) (by simp) ?_
    simp (disch := omega) only [wk, tis, Int.reduceNe, Int.reduceEq, Int.reduceLT, Int.reduceLE, Int.reduceAdd, Int.reduceSub, Int.reduceNeg, Int.reduceMul, Int.reduceToNat, Nat.reduceSub, Nat.reduceMul, Nat.reduceLeDiff, Nat.reduceAdd, Nat.reduceLT, Nat.reduceEqDiff, reduceCtorEq, ↓reduceIte, rqs, fldRat0]
    try rfl
theorem hthrough_bad (xs ys : List RQ) (hx : BQ 40 200 xs) (hy : BQ 40 200 ys) (h : gd xs = false ∨ gd ys = false) : AC Tryz.prog 14 [cqw xs, cqw ys] none [cqw [], ci 1] := by
  have g1 := hgood_ok xs (hx.mono (by omega) (by omega))
  have g2 := hgood_ok ys (hy.mono (by omega) (by omega))
  cases hg : gd xs with
  | false =>
    rw [hg] at g1
    refine AC.by_walk (rs := [.tmp 4, .tmp 5]) ords Tryz.func14 (by rfl) (by rfl) (by rfl) (by rfl) (by rfl) ?_
    simp (disch := omega) only [wk, tis, Int.reduceNe, Int.reduceEq, Int.reduceLT, Int.reduceLE, Int.reduceAdd, Int.reduceSub, Int.reduceNeg, Int.reduceMul, Int.reduceToNat, Nat.reduceSub, Nat.reduceMul, Nat.reduceLeDiff, Nat.reduceAdd, Nat.reduceLT, Nat.reduceEqDiff, reduceCtorEq, ↓reduceIte, rqs, fldRat0]
    refine call_by (g1) (by rfl) (by simp) ?_
    simp (disch := omega) only [wk, tis, Int.reduceNe, Int.reduceEq, Int.reduceLT, Int.reduceLE, Int.reduceAdd, Int.reduceSub, Int.reduceNeg, Int.reduceMul, Int.reduceToNat, Nat.reduceSub, Nat.reduceMul, Nat.reduceLeDiff, Nat.reduceAdd, Nat.reduceLT, Nat.reduceEqDiff, reduceCtorEq, ↓reduceIte, rqs, fldRat0]
    try rfl
  | true =>
    rw [hg] at g1
    have hg2 : gd ys = false := h.resolve_left (by rw [hg]; decide)
    rw [hg2] at g2
    refine AC.by_walk (rs := [.tmp 4, .tmp 5]) ords Tryz.func14 (by rfl) (by rfl) (by rfl) (by rfl) (by rfl) ?_
    simp (disch := omega) only [wk, tis, Int.reduceNe, Int.reduceEq, Int.reduceLT, Int.reduceLE, Int.reduceAdd, Int.reduceSub, Int.reduceNeg, Int.reduceMul, Int.reduceToNat, Nat.reduceSub, Nat.reduceMul, Nat.reduceLeDiff, Nat.reduceAdd, Nat.reduceLT, Nat.reduceEqDiff, reduceCtorEq, ↓reduceIte, rqs, fldRat0]
    refine call_by (g1) (by rfl) (by simp) ?_
    simp (disch := omega) only [wk, tis, Int.reduceNe, Int.reduceEq, Int.reduceLT, Int.reduceLE, Int.reduceAdd, Int.reduceSub, Int.reduceNeg, Int.reduceMul, Int.reduceToNat, Nat.reduceSub, Nat.reduceMul, Nat.reduceLeDiff, Nat.reduceAdd, Nat.reduceLT, Nat.reduceEqDiff, reduceCtorEq, ↓reduceIte, rqs, fldRat0]
    refine call_by (g2) (by rfl) (by simp) ?_
    simp (disch := omega) only [wk, tis, Int.reduceNe, Int.reduceEq, Int.reduceLT, Int.reduceLE, Int.reduceAdd, Int.reduceSub, Int.reduceNeg, Int.reduceMul, Int.reduceToNat, Nat.reduceSub, Nat.reduceMul, Nat.reduceLeDiff, Nat.reduceAdd, Nat.reduceLT, Nat.reduceEqDiff, reduceCtorEq, ↓reduceIte, rqs, fldRat0]
    try rfl
theorem through_len (xs ys : List RQ) (hx : GQ 40 200 xs) (hy : GQ 40 200 ys) (h : xs.length ≠ ys.length) : AC Tryz.prog 14 [cqw xs, cqw ys] none [cqw [], ci 3] ∧ AC Tryz.prog 16 [cqw xs, cqw ys] none [cqw [], ci 3] := by
  have g1 := egood_ok xs (hx.bq.mono (by omega) (by omega))
  have g2 := egood_ok ys (hy.bq.mono (by omega) (by omega))
  have k1 := hgood_ok xs (hx.bq.mono (by omega) (by omega))
  have k2 := hgood_ok ys (hy.bq.mono (by omega) (by omega))
  rw [hx.gd] at g1 k1
  rw [hy.gd] at g2 k2
  have hne : ¬ (xs.length : Int) = (ys.length : Int) := by omega
  refine ⟨?_, ?_⟩
  · refine AC.by_walk (rs := [.tmp 4, .tmp 5]) ords Tryz.func14 (by rfl) (by rfl) (by rfl) (by rfl) (by rfl) ?_
    simp (disch := omega) only [wk, tis, Int.reduceNe, Int.reduceEq, Int.reduceLT, Int.reduceLE, Int.reduceAdd, Int.reduceSub, Int.reduceNeg, Int.reduceMul, Int.reduceToNat, Nat.reduceSub, Nat.reduceMul, Nat.reduceLeDiff, Nat.reduceAdd, Nat.reduceLT, Nat.reduceEqDiff, reduceCtorEq, ↓reduceIte, rqs, fldRat0]
    refine call_by (k1) (by rfl) (by simp) ?_
    simp (disch := omega) only [wk, tis, Int.reduceNe, Int.reduceEq, Int.reduceLT, Int.reduceLE, Int.reduceAdd, Int.reduceSub, Int.reduceNeg, Int.reduceMul, Int.reduceToNat, Nat.reduceSub, Nat.reduceMul, Nat.reduceLeDiff, Nat.reduceAdd, Nat.reduceLT, Nat.reduceEqDiff, reduceCtorEq, ↓reduceIte, rqs, fldRat0]
    refine call_by (k2) (by first | rfl | (simp only [tocvs, tocv, hne]; rfl) | (simp only [tocvs, tocv, toboxes, tobox, updH_at, Nat.reduceEqDiff, ↓reduceIte, hne]; rfl)) (by simp) ?_
    simp (disch := omega) only [wk, tis, Int.reduceNe, Int.reduceEq, Int.reduceLT, Int.reduceLE, Int.reduceAdd, Int.reduceSub, Int.reduceNeg, Int.reduceMul, Int.reduceToNat, Nat.reduceSub, Nat.reduceMul, Nat.reduceLeDiff, Nat.reduceAdd, Nat.reduceLT, Nat.reduceEqDiff, reduceCtorEq, ↓reduceIte, rqs, fldRat0, hne]
    try rfl
  · refine AC.by_walk (rs := [.tmp 4, .tmp 5]) ords Tryz.func16 (by rfl) (by rfl) (by rfl) (by rfl) (by rfl) ?_
    simp (disch := omega) only [wk, tis, Int.reduceNe, Int.reduceEq, Int.reduceLT, Int.reduceLE, Int.reduceAdd, Int.reduceSub, Int.reduceNeg, Int.reduceMul, Int.reduceToNat, Nat.reduceSub, Nat.reduceMul, Nat.reduceLeDiff, Nat.reduceAdd, Nat.reduceLT, Nat.reduceEqDiff, reduceCtorEq, ↓reduceIte, rqs, fldRat0]
    refine call_by (g1) (by rfl) (by simp) ?_
    simp (disch := omega) only [wk, tis, Int.reduceNe, Int.reduceEq, Int.reduceLT, Int.reduceLE, Int.reduceAdd, Int.reduceSub, Int.reduceNeg, Int.reduceMul, Int.reduceToNat, Nat.reduceSub, Nat.reduceMul, Nat.reduceLeDiff, Nat.reduceAdd, Nat.reduceLT, Nat.reduceEqDiff, reduceCtorEq, ↓reduceIte, rqs, fldRat0]
    refine call_by (g2) (by first | rfl | (simp only [tocvs, tocv, hne]; rfl) | (simp only [tocvs, tocv, toboxes, tobox, updH_at, Nat.reduceEqDiff, ↓reduceIte, hne]; rfl)) (by simp) ?_
    simp (disch := omega) only [wk, tis, Int.reduceNe, Int.reduceEq, Int.reduceLT, Int.reduceLE, Int.reduceAdd, Int.reduceSub, Int.reduceNeg, Int.reduceMul, Int.reduceToNat, Nat.reduceSub, Nat.reduceMul, Nat.reduceLeDiff, Nat.reduceAdd, Nat.reduceLT, Nat.reduceEqDiff, reduceCtorEq, ↓reduceIte, rqs, fldRat0, hne]
    try rfl
/-- Both answers alike. -/
theorem through_both (xs ys : List RQ) (hx : BQ 40 200 xs) (hy : BQ 40 200 ys) : ∃ l e, AC Tryz.prog 14 [cqw xs, cqw ys] none [cqw l, ci e] ∧ AC Tryz.prog 16 [cqw xs, cqw ys] none [cqw l, ci e] ∧ AC Tryz.prog 17 [cqw l, cqw l] none [cb true] := by
  by_cases h : gd xs = true ∧ gd ys = true
  · have hX := hx.gq h.1
    have hY := hy.gq h.2
    by_cases hxy : xs.length = ys.length
    · by_cases hn : (qvs xs).Nodup
      · have e : cqs (news (qvs xs) (qvs ys) xs.length) = cqs (lags (qvs xs) (qvs ys) xs.length) := cqs_ext fun j => by
          have := news_eq (Y := qvs ys) hn j
          rwa [qvs_len] at this
        have hq := news_qb hX hY (Nat.le_refl _) (fun a b hb ha => nodup_cf hn (by rw [qvs_len]; omega) (by rw [qvs_len]; omega) (by omega))
        exact ⟨_, 0, hthrough_ok xs ys _ 0 hX hY hxy (fun _ => ⟨rfl, rfl⟩) (fun h => (h hn).elim), ethrough_ok xs ys _ 0 hX hY hxy (fun _ => ⟨e.symm, rfl⟩) (fun h => (h hn).elim), sameq_self (by rw [← e]; exact hq.gq.bq.mono (by omega) (by omega))⟩
      · exact ⟨[], 3, hthrough_ok xs ys _ 3 hX hY hxy (fun h => (hn h).elim) (fun _ => ⟨rfl, rfl⟩), ethrough_ok xs ys _ 3 hX hY hxy (fun h => (hn h).elim) (fun _ => ⟨rfl, rfl⟩), sameq_self (bq_nil _ _)⟩
    · have := through_len xs ys hX hY hxy
      exact ⟨[], 3, this.1, this.2, sameq_self (bq_nil _ _)⟩
  · have h' : gd xs = false ∨ gd ys = false := by
      cases h1 : gd xs with
      | false => exact .inl rfl
      | true =>
        cases h2 : gd ys with
        | false => exact .inr rfl
        | true => exact (h ⟨h1, h2⟩).elim
    exact ⟨[], 1, hthrough_bad xs ys hx hy h', ethrough_bad xs ys hx hy h', sameq_self (bq_nil _ _)⟩
theorem roots_both (xs : List RQ) (hx : BQ 40 200 xs) : ∃ l e, AC Tryz.prog 15 [cqw xs] none [cqw l, ci e] ∧ AC Tryz.prog 18 [cqw xs] none [cqw l, ci e] ∧ AC Tryz.prog 17 [cqw l, cqw l] none [cb true] := by
  cases h : gd xs with
  | true =>
    have hX := hx.gq h
    exact ⟨_, 0, hFroots_ok xs hX, eFroots_ok xs hX, sameq_self ((froot_qb hX xs.length xs.length hX.1).gqs.bq.mono (by omega) (by omega))⟩
  | false => exact ⟨[], 1, hFroots_bad xs hx h, eFroots_bad xs hx h, sameq_self (bq_nil _ _)⟩

theorem points_law (xs ys : List RQ) (hx : RawQ xs) (hy : RawQ ys) : AC Tryz.prog 4 [cqw xs, cqw ys] none [cb true] := by
  have g1 := sgrats_ok xs hx.1 (fun r hr => rawq_len (hx.2 r hr))
  have g2 := sgrats_ok ys hy.1 (fun r hr => rawq_len (hy.2 r hr))
  cases h1 : gqr xs with
  | true =>
    rw [h1] at g1
    refine AC.by_walk (rs := [.tmp 4]) ords Tryz.func4 (by rfl) (by rfl) (by rfl) (by rfl) (by rfl) ?_
    simp (disch := omega) only [wk, tis, Int.reduceNe, Int.reduceEq, Int.reduceLT, Int.reduceLE, Int.reduceAdd, Int.reduceSub, Int.reduceNeg, Int.reduceMul, Int.reduceToNat, Nat.reduceSub, Nat.reduceMul, Nat.reduceLeDiff, Nat.reduceAdd, Nat.reduceLT, Nat.reduceEqDiff, reduceCtorEq, ↓reduceIte, rqs, fldRat0]
    refine call_by (awake12_ok) (by rfl) (by simp) ?_
    simp (disch := omega) only [wk, tis, Int.reduceNe, Int.reduceEq, Int.reduceLT, Int.reduceLE, Int.reduceAdd, Int.reduceSub, Int.reduceNeg, Int.reduceMul, Int.reduceToNat, Nat.reduceSub, Nat.reduceMul, Nat.reduceLeDiff, Nat.reduceAdd, Nat.reduceLT, Nat.reduceEqDiff, reduceCtorEq, ↓reduceIte, rqs, fldRat0]
    refine call_by (g1) (by rfl) (by simp) ?_
    simp (disch := omega) only [wk, tis, Int.reduceNe, Int.reduceEq, Int.reduceLT, Int.reduceLE, Int.reduceAdd, Int.reduceSub, Int.reduceNeg, Int.reduceMul, Int.reduceToNat, Nat.reduceSub, Nat.reduceMul, Nat.reduceLeDiff, Nat.reduceAdd, Nat.reduceLT, Nat.reduceEqDiff, reduceCtorEq, ↓reduceIte, rqs, fldRat0]
    try rfl
  | false =>
    rw [h1] at g1
    cases h2 : gqr ys with
    | true =>
      rw [h2] at g2
      refine AC.by_walk (rs := [.tmp 4]) ords Tryz.func4 (by rfl) (by rfl) (by rfl) (by rfl) (by rfl) ?_
      simp (disch := omega) only [wk, tis, Int.reduceNe, Int.reduceEq, Int.reduceLT, Int.reduceLE, Int.reduceAdd, Int.reduceSub, Int.reduceNeg, Int.reduceMul, Int.reduceToNat, Nat.reduceSub, Nat.reduceMul, Nat.reduceLeDiff, Nat.reduceAdd, Nat.reduceLT, Nat.reduceEqDiff, reduceCtorEq, ↓reduceIte, rqs, fldRat0]
      refine call_by (awake12_ok) (by rfl) (by simp) ?_
      simp (disch := omega) only [wk, tis, Int.reduceNe, Int.reduceEq, Int.reduceLT, Int.reduceLE, Int.reduceAdd, Int.reduceSub, Int.reduceNeg, Int.reduceMul, Int.reduceToNat, Nat.reduceSub, Nat.reduceMul, Nat.reduceLeDiff, Nat.reduceAdd, Nat.reduceLT, Nat.reduceEqDiff, reduceCtorEq, ↓reduceIte, rqs, fldRat0]
      refine call_by (g1) (by rfl) (by simp) ?_
      simp (disch := omega) only [wk, tis, Int.reduceNe, Int.reduceEq, Int.reduceLT, Int.reduceLE, Int.reduceAdd, Int.reduceSub, Int.reduceNeg, Int.reduceMul, Int.reduceToNat, Nat.reduceSub, Nat.reduceMul, Nat.reduceLeDiff, Nat.reduceAdd, Nat.reduceLT, Nat.reduceEqDiff, reduceCtorEq, ↓reduceIte, rqs, fldRat0]
      refine call_by (g2) (by rfl) (by simp) ?_
      simp (disch := omega) only [wk, tis, Int.reduceNe, Int.reduceEq, Int.reduceLT, Int.reduceLE, Int.reduceAdd, Int.reduceSub, Int.reduceNeg, Int.reduceMul, Int.reduceToNat, Nat.reduceSub, Nat.reduceMul, Nat.reduceLeDiff, Nat.reduceAdd, Nat.reduceLT, Nat.reduceEqDiff, reduceCtorEq, ↓reduceIte, rqs, fldRat0]
      try rfl
    | false =>
      rw [h2] at g2
      obtain ⟨l, e, a1, a2, s⟩ := through_both xs ys (gqr_bq h1 hx.2) (gqr_bq h2 hy.2)
      obtain ⟨k, d, b1, b2, t⟩ := roots_both xs (gqr_bq h1 hx.2)
      have p1 := plain12_ok e e
      have p2 := plain12_ok d d
      rw [decide_eq_true rfl] at p1 p2
      refine AC.by_walk (rs := [.tmp 4]) ords Tryz.func4 (by rfl) (by rfl) (by rfl) (by rfl) (by rfl) ?_
      simp (disch := omega) only [wk, tis, Int.reduceNe, Int.reduceEq, Int.reduceLT, Int.reduceLE, Int.reduceAdd, Int.reduceSub, Int.reduceNeg, Int.reduceMul, Int.reduceToNat, Nat.reduceSub, Nat.reduceMul, Nat.reduceLeDiff, Nat.reduceAdd, Nat.reduceLT, Nat.reduceEqDiff, reduceCtorEq, ↓reduceIte, rqs, fldRat0]
      refine call_by (awake12_ok) (by rfl) (by simp) ?_
      simp (disch := omega) only [wk, tis, Int.reduceNe, Int.reduceEq, Int.reduceLT, Int.reduceLE, Int.reduceAdd, Int.reduceSub, Int.reduceNeg, Int.reduceMul, Int.reduceToNat, Nat.reduceSub, Nat.reduceMul, Nat.reduceLeDiff, Nat.reduceAdd, Nat.reduceLT, Nat.reduceEqDiff, reduceCtorEq, ↓reduceIte, rqs, fldRat0]
      refine call_by (g1) (by rfl) (by simp) ?_
      simp (disch := omega) only [wk, tis, Int.reduceNe, Int.reduceEq, Int.reduceLT, Int.reduceLE, Int.reduceAdd, Int.reduceSub, Int.reduceNeg, Int.reduceMul, Int.reduceToNat, Nat.reduceSub, Nat.reduceMul, Nat.reduceLeDiff, Nat.reduceAdd, Nat.reduceLT, Nat.reduceEqDiff, reduceCtorEq, ↓reduceIte, rqs, fldRat0]
      refine call_by (g2) (by rfl) (by simp) ?_
      simp (disch := omega) only [wk, tis, Int.reduceNe, Int.reduceEq, Int.reduceLT, Int.reduceLE, Int.reduceAdd, Int.reduceSub, Int.reduceNeg, Int.reduceMul, Int.reduceToNat, Nat.reduceSub, Nat.reduceMul, Nat.reduceLeDiff, Nat.reduceAdd, Nat.reduceLT, Nat.reduceEqDiff, reduceCtorEq, ↓reduceIte, rqs, fldRat0]
      refine call_by (a1) (by rfl) (by simp) ?_
      simp (disch := omega) only [wk, tis, Int.reduceNe, Int.reduceEq, Int.reduceLT, Int.reduceLE, Int.reduceAdd, Int.reduceSub, Int.reduceNeg, Int.reduceMul, Int.reduceToNat, Nat.reduceSub, Nat.reduceMul, Nat.reduceLeDiff, Nat.reduceAdd, Nat.reduceLT, Nat.reduceEqDiff, reduceCtorEq, ↓reduceIte, rqs, fldRat0]
      refine call_by (b1) (by rfl) (by simp) ?_
      simp (disch := omega) only [wk, tis, Int.reduceNe, Int.reduceEq, Int.reduceLT, Int.reduceLE, Int.reduceAdd, Int.reduceSub, Int.reduceNeg, Int.reduceMul, Int.reduceToNat, Nat.reduceSub, Nat.reduceMul, Nat.reduceLeDiff, Nat.reduceAdd, Nat.reduceLT, Nat.reduceEqDiff, reduceCtorEq, ↓reduceIte, rqs, fldRat0]
      refine call_by (a2) (by rfl) (by simp) ?_
      simp (disch := omega) only [wk, tis, Int.reduceNe, Int.reduceEq, Int.reduceLT, Int.reduceLE, Int.reduceAdd, Int.reduceSub, Int.reduceNeg, Int.reduceMul, Int.reduceToNat, Nat.reduceSub, Nat.reduceMul, Nat.reduceLeDiff, Nat.reduceAdd, Nat.reduceLT, Nat.reduceEqDiff, reduceCtorEq, ↓reduceIte, rqs, fldRat0]
      refine call_by (p1) (by rfl) (by simp) ?_
      simp (disch := omega) only [wk, tis, Int.reduceNe, Int.reduceEq, Int.reduceLT, Int.reduceLE, Int.reduceAdd, Int.reduceSub, Int.reduceNeg, Int.reduceMul, Int.reduceToNat, Nat.reduceSub, Nat.reduceMul, Nat.reduceLeDiff, Nat.reduceAdd, Nat.reduceLT, Nat.reduceEqDiff, reduceCtorEq, ↓reduceIte, rqs, fldRat0]
      refine call_by (s) (by rfl) (by simp) ?_
      simp (disch := omega) only [wk, tis, Int.reduceNe, Int.reduceEq, Int.reduceLT, Int.reduceLE, Int.reduceAdd, Int.reduceSub, Int.reduceNeg, Int.reduceMul, Int.reduceToNat, Nat.reduceSub, Nat.reduceMul, Nat.reduceLeDiff, Nat.reduceAdd, Nat.reduceLT, Nat.reduceEqDiff, reduceCtorEq, ↓reduceIte, rqs, fldRat0]
      refine call_by (b2) (by rfl) (by simp) ?_
      simp (disch := omega) only [wk, tis, Int.reduceNe, Int.reduceEq, Int.reduceLT, Int.reduceLE, Int.reduceAdd, Int.reduceSub, Int.reduceNeg, Int.reduceMul, Int.reduceToNat, Nat.reduceSub, Nat.reduceMul, Nat.reduceLeDiff, Nat.reduceAdd, Nat.reduceLT, Nat.reduceEqDiff, reduceCtorEq, ↓reduceIte, rqs, fldRat0]
      refine call_by (p2) (by rfl) (by simp) ?_
      simp (disch := omega) only [wk, tis, Int.reduceNe, Int.reduceEq, Int.reduceLT, Int.reduceLE, Int.reduceAdd, Int.reduceSub, Int.reduceNeg, Int.reduceMul, Int.reduceToNat, Nat.reduceSub, Nat.reduceMul, Nat.reduceLeDiff, Nat.reduceAdd, Nat.reduceLT, Nat.reduceEqDiff, reduceCtorEq, ↓reduceIte, rqs, fldRat0]
      refine call_by (t) (by rfl) (by simp) ?_
      simp (disch := omega) only [wk, tis, Int.reduceNe, Int.reduceEq, Int.reduceLT, Int.reduceLE, Int.reduceAdd, Int.reduceSub, Int.reduceNeg, Int.reduceMul, Int.reduceToNat, Nat.reduceSub, Nat.reduceMul, Nat.reduceLeDiff, Nat.reduceAdd, Nat.reduceLT, Nat.reduceEqDiff, reduceCtorEq, ↓reduceIte, rqs, fldRat0]
      try rfl
end Go.Proofs.YtcjnacpekbhhcaaGreat
