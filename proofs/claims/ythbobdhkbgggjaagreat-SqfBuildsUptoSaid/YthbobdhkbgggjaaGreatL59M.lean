/-
  Contracts of the functions that the law reaches.
-/
import Derived.Test.YthbobdhkbgggjaaGreatL36M
import Derived.Test.YthbobdhkbgggjaaGreatAbsS
import Derived.Test.YthbobdhkbgggjaaGreatL18M
import Derived.Test.YthbobdhkbgggjaaGreatL1M
set_option maxHeartbeats 2000000
namespace Go.Proofs.YthbobdhkbgggjaaGreat
open Go Go.Proofs Go.AL
set_option linter.unusedSimpArgs false
set_option linter.unusedVariables false
abbrev RQ := RI × List Nat
abbrev qrow (r : RQ) : List IV := [.bool r.1.1, .sl (lims r.1.2), .sl (lims r.2)]
def rats (l : List RQ) : List (List IV) := l.map qrow
theorem lay_rat (c : RI) (x : IV) : lay (fun i => [(0, 2), (2, 1)][i]?) [.bool false, .sl [], .sl []] ([0, 1].zip [prow c, [x]]) = some ((2 = 2 ∧ 0 + 2 ≤ 3) ∧ (1 = 1 ∧ 2 + 1 ≤ 3) ∧ True, [.bool c.1, .sl (lims c.2), x]) := rfl
theorem rats_len (l : List RQ) : (rats l).length = l.length := by simp [rats]
def Nt (k : Nat) (l : List Nat) : Prop := l.length ≤ k ∧ Lim l
def SzQ (k : Nat) (r : RQ) : Prop := Sz k r.1 ∧ Nt k r.2
def RawQ (p : List RQ) : Prop := p.length ≤ 9223372036854775807 ∧ ∀ c ∈ p, SzQ 9223372036854775807 c
end Go.Proofs.YthbobdhkbgggjaaGreat

namespace Go.Proofs.YthbobdhkbgggjaaGreat
open Go Go.Proofs Go.AL
set_option linter.unusedSimpArgs false
set_option linter.unusedVariables false
def rq (n : Int) (d : Nat) : RQ := (canon (n / (Nat.gcd n.natAbs d : Nat)), wd (d / Nat.gcd n.natAbs d))
theorem gcd_pos_r {n : Int} {d : Nat} (hd : 0 < d) : 0 < Nat.gcd n.natAbs d := Nat.gcd_pos_of_pos_right _ hd
theorem rq_parts {n : Int} {d : Nat} (hd : 0 < d) : ∃ (g : Nat) (a : Int) (b : Nat), 0 < g ∧ 0 < b ∧ n = a * g ∧ d = b * g ∧ Nat.gcd a.natAbs b = 1 ∧ rq n d = (canon a, wd b) := by
  have hg := gcd_pos_r (n := n) hd
  obtain ⟨g, hgd⟩ : ∃ g, g = Nat.gcd n.natAbs d := ⟨_, rfl⟩
  have h1 : g ∣ n.natAbs := by rw [hgd]; exact Nat.gcd_dvd_left _ _
  have h2 : g ∣ d := by rw [hgd]; exact Nat.gcd_dvd_right _ _
  rw [← hgd] at hg
  obtain ⟨b, hb⟩ := h2
  obtain ⟨a, ha⟩ : (g : Int) ∣ n := Int.ofNat_dvd_left.mpr h1
  have hg' : (g : Int) ≠ 0 := by omega
  have hb0 : 0 < b := Nat.pos_of_ne_zero fun e => by rw [e, Nat.mul_zero] at hb; omega
  refine ⟨g, a, b, hg, hb0, by rw [ha, Int.mul_comm], by rw [hb, Nat.mul_comm], ?_, ?_⟩
  · have e : Nat.gcd n.natAbs d = g * Nat.gcd a.natAbs b := by rw [ha, hb, Int.natAbs_mul, Int.natAbs_natCast, Nat.gcd_mul_left]
    rw [← hgd] at e
    exact Nat.eq_of_mul_eq_mul_left hg (by rw [← e, Nat.mul_one])
  · unfold rq
    rw [← hgd]
    rw [ha, hb, Int.mul_ediv_cancel_left _ hg', Nat.mul_div_cancel_left _ hg]
theorem rq_sz {n : Int} {d K L : Nat} (hd : 0 < d) (hn : zl n ≤ K) (hl : (wd d).length ≤ L) : Sz K (rq n d).1 ∧ Nt L (rq n d).2 := by
  obtain ⟨g, a, b, hg, hb, rfl, rfl, hc, e⟩ := rq_parts (n := n) hd
  rw [e]
  refine ⟨⟨?_, lim_wd _⟩, ?_, lim_wd _⟩
  · refine Nat.le_trans ?_ hn
    show zl a ≤ zl (a * g)
    refine zl_le.mpr (Nat.lt_of_le_of_lt ?_ (zl_le.mp (Nat.le_refl (zl (a * g)))))
    rw [Int.natAbs_mul, Int.natAbs_natCast]
    exact Nat.le_mul_of_pos_right _ hg
  · refine Nat.le_trans ?_ hl
    refine wd_len_le.mpr (Nat.lt_of_le_of_lt ?_ (wd_len_le.mp (Nat.le_refl (wd (b * g)).length)))
    exact Nat.le_mul_of_pos_right _ hg
end Go.Proofs.YthbobdhkbgggjaaGreat

namespace Go.Proofs.YthbobdhkbgggjaaGreat
open Go Go.Proofs Go.AL
set_option linter.unusedSimpArgs false
set_option linter.unusedVariables false
def qv (r : RQ) : Rat := mkRat (iv r.1) (nv r.2)
def crat (q : Rat) : RQ := (canon q.num, wd q.den)
theorem rq_crat {n : Int} {d : Nat} (hd : d ≠ 0) : rq n d = crat (mkRat n d) := by
  have : mkRat n d = Rat.normalize n d hd := Rat.mkRat_def n d |>.trans (by rw [dif_neg hd])
  rw [this, Rat.normalize_eq hd]
  rfl
def qz (q : Rat) : Nat := max (zl q.num) (wd q.den).length
theorem qz_mk {n : Int} {d k : Nat} (hd : d ≠ 0) (hn : zl n ≤ k) (h : (wd d).length ≤ k) : qz (mkRat n d) ≤ k := by
  have e := rq_crat (n := n) hd
  have s := rq_sz (n := n) (Nat.pos_of_ne_zero hd) hn h
  rw [e] at s
  refine Nat.max_le.2 ⟨?_, s.2.1⟩
  have := zl_iv s.1
  rwa [show iv (crat (mkRat n d)).1 = (mkRat n d).num from iv_canon _] at this
theorem qz_raw {r : RQ} {k : Nat} (h : SzQ k r) (hd : nv r.2 ≠ 0) : qz (qv r) ≤ k :=
  qz_mk hd (zl_iv h.1) (Nat.le_trans (nv_len h.2.2) h.2.1)
theorem wd_mul_len (a b : Nat) : (wd (a * b)).length ≤ (wd a).length + (wd b).length := by
  have := zl_mul (a : Int) (b : Int)
  unfold zl at this
  rwa [Int.natAbs_mul, Int.natAbs_natCast, Int.natAbs_natCast] at this
theorem zl_nat (d : Nat) : zl (d : Int) = (wd d).length := rfl
theorem qz_add (p q : Rat) : qz (p + q) ≤ qz p + qz q + 1 := by
  have e : p + q = mkRat (p.num * q.den + q.num * p.den) (p.den * q.den) := by
    rw [← Rat.mkRat_add_mkRat _ _ p.den_nz q.den_nz, Rat.mkRat_self, Rat.mkRat_self]
  have h1 := Nat.le_max_left (zl p.num) (wd p.den).length
  have h2 := Nat.le_max_right (zl p.num) (wd p.den).length
  have h3 := Nat.le_max_left (zl q.num) (wd q.den).length
  have h4 := Nat.le_max_right (zl q.num) (wd q.den).length
  have m1 := zl_mul p.num (q.den : Int)
  have m2 := zl_mul q.num (p.den : Int)
  have m3 := zl_add (p.num * q.den) (q.num * p.den)
  have m4 := wd_mul_len p.den q.den
  rw [zl_nat] at m1 m2
  rw [e]
  unfold qz
  exact qz_mk (Nat.mul_ne_zero p.den_nz q.den_nz) (by omega) (by omega)
theorem qz_mul (p q : Rat) : qz (p * q) ≤ qz p + qz q := by
  have e : p * q = mkRat (p.num * q.num) (p.den * q.den) := by
    rw [← Rat.mkRat_mul_mkRat, Rat.mkRat_self, Rat.mkRat_self]
  have h1 := Nat.le_max_left (zl p.num) (wd p.den).length
  have h2 := Nat.le_max_right (zl p.num) (wd p.den).length
  have h3 := Nat.le_max_left (zl q.num) (wd q.den).length
  have h4 := Nat.le_max_right (zl q.num) (wd q.den).length
  have m1 := zl_mul p.num q.num
  have m4 := wd_mul_len p.den q.den
  rw [e]
  unfold qz
  exact qz_mk (Nat.mul_ne_zero p.den_nz q.den_nz) (by omega) (by omega)
end Go.Proofs.YthbobdhkbgggjaaGreat

namespace Go.Proofs.YthbobdhkbgggjaaGreat
open Go Go.Proofs Go.AL
set_option linter.unusedSimpArgs false
set_option linter.unusedVariables false
def evq : List Rat → Rat → Rat
  | [], _ => 0
  | c :: p, x => c + x * evq p x
theorem qz_zero : qz 0 = 1 := by decide +kernel
theorem qz_one : qz 1 = 1 := by decide +kernel
theorem qz_pow {x : Rat} {X : Nat} (h : qz x ≤ X) (i : Nat) : qz (x ^ i) ≤ i * X + 1 := by
  induction i with
  | zero => rw [Rat.pow_zero, qz_one]; omega
  | succ i ih =>
    rw [Rat.pow_succ]
    have := qz_mul (x ^ i) x
    rw [Nat.succ_mul]
    omega
theorem qz_evq {x : Rat} {K X : Nat} (hx : qz x ≤ X) : ∀ {p : List Rat}, (∀ c ∈ p, qz c ≤ K) → qz (evq p x) ≤ p.length * (K + X + 1) + 1
  | [], _ => by rw [evq, qz_zero]; omega
  | c :: p, h => by
    have ih := qz_evq hx (p := p) fun z hz => h z (List.mem_cons_of_mem _ hz)
    have h1 := qz_add c (x * evq p x)
    have h2 := qz_mul x (evq p x)
    have h3 := h c (by simp)
    rw [evq, List.length_cons, Nat.succ_mul]
    omega
end Go.Proofs.YthbobdhkbgggjaaGreat

namespace Go.Proofs.YthbobdhkbgggjaaGreat
open Go Go.Proofs Go.AL
set_option linter.unusedSimpArgs false
set_option linter.unusedVariables false
def tzq : List Rat → Nat
  | [] => 0
  | x :: xs => if tzq xs = 0 then (if x = 0 then 0 else 1) else tzq xs + 1
def trimq (q : List Rat) : List Rat := q.take (tzq q)
def cfq (q : List Rat) (k : Nat) : Rat := q.getD k 0
theorem tzq_le : ∀ q : List Rat, tzq q ≤ q.length
  | [] => Nat.le_refl _
  | x :: xs => by
    have := tzq_le xs
    rw [tzq, List.length_cons]
    split
    · split <;> omega
    · omega
theorem trimq_len (q : List Rat) : (trimq q).length = tzq q := by rw [trimq, List.length_take, Nat.min_eq_left (tzq_le q)]
theorem cfq_ge {q : List Rat} {k : Nat} (h : q.length ≤ k) : cfq q k = 0 := by simp [cfq, List.getD, List.getElem?_eq_none h]
theorem cfq_cons_zero (x : Rat) (xs : List Rat) : cfq (x :: xs) 0 = x := rfl
theorem cfq_cons_succ (x : Rat) (xs : List Rat) (k : Nat) : cfq (x :: xs) (k + 1) = cfq xs k := rfl
theorem cfq_nil (k : Nat) : cfq [] k = 0 := rfl
theorem cfq_lt {q : List Rat} {k : Nat} (h : k < q.length) : cfq q k = q[k] := by simp [cfq, List.getD, h]
theorem tzq_full : ∀ {q : List Rat} {k : Nat}, k < q.length → cfq q k ≠ 0 → tzq (q.take (k + 1)) = k + 1
  | [], k, h, _ => by simp at h
  | x :: xs, 0, _, h => by
    have hx : x ≠ 0 := h
    simp [tzq, hx]
  | x :: xs, k + 1, h, h0 => by
    have ih := tzq_full (q := xs) (k := k) (by simpa using h) h0
    rw [List.take_succ_cons, tzq, ih, if_neg (by omega)]
theorem tzq_zero_iff : ∀ {q : List Rat}, tzq q = 0 ↔ ∀ k, cfq q k = 0
  | [] => by simp [tzq, cfq_nil]
  | x :: xs => by
    rw [tzq]
    constructor
    · intro h k
      split at h
      · rename_i h0
        split at h
        · rename_i hx; subst hx
          cases k with
          | zero => rfl
          | succ k => exact tzq_zero_iff.mp h0 k
        · omega
      · omega
    · intro h
      have h0 : tzq xs = 0 := tzq_zero_iff.mpr fun k => h (k + 1)
      have hx : x = 0 := h 0
      rw [if_pos h0, if_pos hx]
theorem trimq_cons (x : Rat) (xs : List Rat) : trimq (x :: xs) = if tzq xs = 0 ∧ x = 0 then [] else x :: trimq xs := by
  unfold trimq; rw [tzq]
  by_cases h : tzq xs = 0
  · by_cases hx : x = 0 <;> simp [h, hx]
  · simp [h]
theorem trimq_ext : ∀ {p q : List Rat}, (∀ k, cfq p k = cfq q k) → trimq p = trimq q
  | [], q, h => by
    have : tzq q = 0 := tzq_zero_iff.mpr fun k => (h k).symm
    simp [trimq, this]
  | x :: xs, [], h => by
    have : tzq (x :: xs) = 0 := tzq_zero_iff.mpr fun k => h k
    simp [trimq, this]
  | x :: xs, y :: ys, h => by
    have hx : x = y := h 0
    have ih := trimq_ext (p := xs) (q := ys) fun k => h (k + 1)
    have ht : tzq xs = 0 ↔ tzq ys = 0 := by
      rw [tzq_zero_iff, tzq_zero_iff]
      exact forall_congr' fun k => by rw [show cfq xs k = cfq ys k from h (k + 1)]
    rw [trimq_cons, trimq_cons, hx, ih]; simp only [ht]
theorem cfq_trimq : ∀ (q : List Rat) (k : Nat), cfq (trimq q) k = cfq q k
  | [], k => by simp [trimq]
  | x :: xs, k => by
    rw [trimq_cons]
    split
    · rename_i h
      cases k with
      | zero => simp [cfq_nil, cfq_cons_zero, h.2]
      | succ k => rw [cfq_cons_succ, cfq_nil]; exact (tzq_zero_iff.mp h.1 k).symm
    · cases k with
      | zero => rfl
      | succ k => rw [cfq_cons_succ, cfq_cons_succ, cfq_trimq xs k]
theorem trimq_trimq (q : List Rat) : trimq (trimq q) = trimq q := trimq_ext (cfq_trimq q)
theorem tzq_eq_of_cf {p q : List Rat} (h : ∀ k, cfq p k = cfq q k) : tzq p = tzq q := by rw [← trimq_len, ← trimq_len, trimq_ext h]
def qvs (p : List RQ) : List Rat := p.map qv
theorem qvs_len (p : List RQ) : (qvs p).length = p.length := by simp [qvs]
end Go.Proofs.YthbobdhkbgggjaaGreat

namespace Go.Proofs.YthbobdhkbgggjaaGreat
open Go Go.Proofs Go.AL
set_option linter.unusedSimpArgs false
set_option linter.unusedVariables false
theorem tzq_spec {q : List Rat} {n : Nat} (h : cfq q n ≠ 0) (h0 : ∀ k, n < k → cfq q k = 0) : tzq q = n + 1 := by
  have hn : n < q.length := by
    rcases Nat.lt_or_ge n q.length with h' | h'
    · exact h'
    · exact (h (cfq_ge h')).elim
  have e : ∀ k, cfq q k = cfq (q.take (n + 1)) k := by
    intro k
    by_cases hk : k < n + 1
    · simp [cfq, List.getD, List.getElem?_take, hk]
    · rw [h0 k (by omega), cfq_ge (by rw [List.length_take]; omega)]
  rw [tzq_eq_of_cf e, tzq_full hn h]
theorem cfq_tzq_pred {q : List Rat} (h : tzq q ≠ 0) : cfq q (tzq q - 1) ≠ 0 := by
  induction q with
  | nil => simp [tzq] at h
  | cons x xs ih =>
    rw [tzq] at h ⊢
    by_cases h0 : tzq xs = 0
    · rw [if_pos h0] at h ⊢
      by_cases hx : x = 0
      · simp [hx] at h
      · rw [if_neg hx]; exact hx
    · rw [if_neg h0]
      have := ih h0
      rw [show tzq xs + 1 - 1 = (tzq xs - 1) + 1 by omega]; exact this
def addq (p q : List Rat) : List Rat := (List.range (max p.length q.length)).map fun k => cfq p k + cfq q k
theorem cfq_addq (p q : List Rat) (k : Nat) : cfq (addq p q) k = cfq p k + cfq q k := by
  by_cases h : k < max p.length q.length
  · simp only [addq, cfq, List.getD, List.getElem?_map, List.getElem?_range h, Option.map_some, Option.getD_some]
  · rw [cfq_ge (by simp [addq]; omega), cfq_ge (by omega), cfq_ge (by omega)]; grind
def sclq (c : Rat) (p : List Rat) : List Rat := p.map fun x => x * c
def cvq : List Rat → (Nat → Rat) → Nat → Rat
  | [], _, _ => 0
  | x :: xs, g, k => x * g k + match k with | 0 => 0 | k + 1 => cvq xs g k
def mulq (p q : List Rat) : List Rat := (List.range (p.length + q.length)).map (cvq p (cfq q))
theorem cvq_none : ∀ (p : List Rat) (k : Nat), cvq p (cfq []) k = 0
  | [], _ => rfl
  | x :: xs, 0 => by simp [cvq, cfq_nil] <;> grind
  | x :: xs, k + 1 => by simp [cvq, cfq_nil, cvq_none xs k] <;> grind
theorem cvq_congr {g g' : Nat → Rat} : ∀ (p : List Rat) (k : Nat), (∀ j, g j = g' j) → cvq p g k = cvq p g' k
  | [], _, _ => rfl
  | x :: xs, k, h => by
    simp only [cvq, h k]
    cases k with
    | zero => rfl
    | succ k => simp only; rw [cvq_congr xs k h]
theorem cvq_zero {g : Nat → Rat} : ∀ (p : List Rat) {n k : Nat}, (∀ j, n ≤ j → g j = 0) → p.length + n ≤ k + 1 → cvq p g k = 0
  | [], _, _, _, _ => rfl
  | x :: xs, n, k, h, hk => by
    simp only [List.length_cons] at hk
    simp only [cvq, h k (by omega), Rat.mul_zero, Rat.zero_add]
    cases k with
    | zero => rfl
    | succ k => exact cvq_zero xs h (by omega)
theorem cfq_mulq (p q : List Rat) (k : Nat) : cfq (mulq p q) k = cvq p (cfq q) k := by
  by_cases h : k < p.length + q.length
  · simp only [mulq]; rw [cfq, List.getD, List.getElem?_map, List.getElem?_range h]; rfl
  · rw [cfq_ge (by simp [mulq]; omega), cvq_zero p (n := q.length) (fun j hj => cfq_ge hj) (by omega)]
theorem cvq_cfq_congr {p p' : List Rat} {g : Nat → Rat} (h : ∀ j, cfq p j = cfq p' j) : ∀ k, cvq p g k = cvq p' g k := by
  induction p generalizing p' with
  | nil =>
    intro k
    induction p' generalizing k with
    | nil => rfl
    | cons y ys ih =>
      have hy : y = 0 := (h 0).symm
      simp only [cvq, hy, Rat.zero_mul, Rat.zero_add]
      cases k with
      | zero => rfl
      | succ k => exact ih (fun j => h (j + 1)) k
  | cons x xs ih =>
    intro k
    cases p' with
    | nil =>
      have hx : x = 0 := h 0
      simp only [cvq, hx, Rat.zero_mul, Rat.zero_add]
      cases k with
      | zero => rfl
      | succ k => exact ih (p' := []) (fun j => h (j + 1)) k
    | cons y ys =>
      have hx : x = y := h 0
      simp only [cvq, hx]
      cases k with
      | zero => rfl
      | succ k => simp only; rw [ih (p' := ys) (fun j => h (j + 1)) k]
def qshift (g : Nat → Rat) : Nat → Rat
  | 0 => 0
  | k + 1 => g k
theorem cvq_add (g h : Nat → Rat) : ∀ (p : List Rat) (k : Nat), cvq p (fun j => g j + h j) k = cvq p g k + cvq p h k
  | [], _ => by simp only [cvq]; grind
  | x :: xs, 0 => by simp only [cvq, Rat.mul_add]; grind
  | x :: xs, k + 1 => by simp only [cvq, cvq_add g h xs k, Rat.mul_add]; grind
theorem cvq_smul (c : Rat) (g : Nat → Rat) : ∀ (p : List Rat) (k : Nat), cvq p (fun j => c * g j) k = c * cvq p g k
  | [], _ => by simp [cvq] <;> grind
  | x :: xs, 0 => by simp only [cvq, Rat.add_zero]; grind
  | x :: xs, k + 1 => by simp only [cvq, cvq_smul c g xs k, Rat.mul_add]; grind
theorem cvq_shift (g : Nat → Rat) : ∀ (p : List Rat) (k : Nat), cvq p (qshift g) k = qshift (cvq p g) k
  | [], 0 => rfl
  | [], k + 1 => rfl
  | x :: xs, 0 => by simp [cvq, qshift] <;> grind
  | x :: xs, 1 => by simp [cvq, qshift, cvq_shift g xs 0] <;> grind
  | x :: xs, k + 2 => by simp [cvq, qshift, cvq_shift g xs (k + 1)] <;> grind
theorem cvq_delta (x : Rat) : ∀ (q : List Rat) (k : Nat), cvq q (fun j => if j = 0 then x else 0) k = cfq q k * x
  | [], k => by simp [cvq, cfq_nil] <;> grind
  | y :: ys, 0 => by simp [cvq, cfq_cons_zero] <;> grind
  | y :: ys, k + 1 => by simp [cvq, cfq_cons_succ, cvq_delta x ys k] <;> grind
theorem cfq_cons (x : Rat) (xs : List Rat) (j : Nat) : cfq (x :: xs) j = (if j = 0 then x else 0) + qshift (cfq xs) j := by
  cases j <;> simp [cfq_cons_zero, cfq_cons_succ, qshift] <;> grind
theorem cvq_cons (x : Rat) (xs : List Rat) (g : Nat → Rat) (k : Nat) : cvq (x :: xs) g k = x * g k + qshift (cvq xs g) k := by
  cases k <;> rfl
theorem qshift_congr {g h : Nat → Rat} (e : ∀ j, g j = h j) (k : Nat) : qshift g k = qshift h k := by cases k <;> simp [qshift, e] <;> grind
theorem cvq_comm : ∀ (p q : List Rat) (k : Nat), cvq p (cfq q) k = cvq q (cfq p) k
  | [], q, k => by rw [cvq_none]; rfl
  | x :: xs, q, k => by
    rw [cvq_cons, cvq_congr q k (cfq_cons x xs), cvq_add, cvq_delta, cvq_shift, qshift_congr (fun j => cvq_comm xs q j), Rat.mul_comm]
theorem cfq_mulq_cons (x : Rat) (xs q : List Rat) (j : Nat) : cfq (mulq (x :: xs) q) j = x * cfq q j + qshift (cfq (mulq xs q)) j := by
  rw [cfq_mulq, cvq_cons, qshift_congr (fun j => (cfq_mulq xs q j).symm)]
theorem cvq_assoc : ∀ (p q r : List Rat) (k : Nat), cvq (mulq p q) (cfq r) k = cvq p (cfq (mulq q r)) k
  | [], q, r, k => by
    rw [cvq_cfq_congr (p' := []) (fun j => by rw [cfq_mulq]; rfl)]; rfl
  | x :: xs, q, r, k => by
    rw [cvq_comm (mulq (x :: xs) q) r, cvq_congr r k (cfq_mulq_cons x xs q), cvq_add, cvq_smul, cvq_shift, cvq_cons, cfq_mulq, cvq_comm q r]
    congr 1
    exact qshift_congr (fun j => by rw [cvq_comm, cvq_assoc xs q r j]) k
theorem mulq_comm (p q : List Rat) (k : Nat) : cfq (mulq p q) k = cfq (mulq q p) k := by rw [cfq_mulq, cfq_mulq, cvq_comm]
def qsum : Nat → (Nat → Rat) → Rat
  | 0, _ => 0
  | n + 1, f => qsum n f + f n
theorem qsum_congr {n : Nat} {f g : Nat → Rat} (h : ∀ i, i < n → f i = g i) : qsum n f = qsum n g := by
  induction n with
  | zero => rfl
  | succ n ih => rw [qsum, qsum, ih (fun i hi => h i (by omega)), h n (by omega)]
theorem qsum_add (n : Nat) (f g : Nat → Rat) : qsum n (fun i => f i + g i) = qsum n f + qsum n g := by
  induction n with
  | zero => simp only [qsum]; grind
  | succ n ih => simp only [qsum, ih]; grind
theorem qsum_mul (n : Nat) (c : Rat) (f : Nat → Rat) : qsum n (fun i => c * f i) = c * qsum n f := by
  induction n with
  | zero => simp [qsum]
  | succ n ih => simp only [qsum, ih, Rat.mul_add]
theorem qsum_zero {n : Nat} {f : Nat → Rat} (h : ∀ i, i < n → f i = 0) : qsum n f = 0 := by
  induction n with
  | zero => rfl
  | succ n ih => rw [qsum, ih (fun i hi => h i (by omega)), h n (by omega)]; grind
theorem qsum_first (n : Nat) (f : Nat → Rat) : qsum (n + 1) f = f 0 + qsum n (fun i => f (i + 1)) := by
  induction n with
  | zero => simp only [qsum]; grind
  | succ n ih => rw [qsum, ih, qsum]; grind
structure PQ where
  c : Nat → Rat
namespace PQ
theorem ext {f g : PQ} (h : ∀ k, f.c k = g.c k) : f = g := by
  cases f; cases g; congr; exact funext h
def conv (f g : Nat → Rat) (k : Nat) : Rat := qsum (k + 1) fun i => f i * g (k - i)
instance : Add PQ := ⟨fun f g => ⟨fun k => f.c k + g.c k⟩⟩
instance : Mul PQ := ⟨fun f g => ⟨conv f.c g.c⟩⟩
instance : Neg PQ := ⟨fun f => ⟨fun k => - f.c k⟩⟩
instance : Sub PQ := ⟨fun f g => ⟨fun k => f.c k - g.c k⟩⟩
instance : Zero PQ := ⟨⟨fun _ => 0⟩⟩
def C (z : Rat) : PQ := ⟨fun k => if k = 0 then z else 0⟩
instance : One PQ := ⟨C 1⟩
def X : PQ := ⟨fun k => if k = 1 then 1 else 0⟩
theorem c_add (f g : PQ) (k : Nat) : (f + g).c k = f.c k + g.c k := rfl
theorem c_neg (f : PQ) (k : Nat) : (-f).c k = -f.c k := rfl
theorem c_zero (k : Nat) : (0 : PQ).c k = 0 := rfl
theorem c_C (z : Rat) (k : Nat) : (C z).c k = if k = 0 then z else 0 := rfl
theorem c_one (k : Nat) : (1 : PQ).c k = if k = 0 then 1 else 0 := rfl
theorem c_mul (f g : PQ) (k : Nat) : (f * g).c k = conv f.c g.c k := rfl
theorem cvq_conv : ∀ (p : List Rat) (g : Nat → Rat) (k : Nat), cvq p g k = conv (cfq p) g k
  | [], g, k => by simp only [cvq, conv]; rw [qsum_zero]; intro i _; rw [cfq_nil, Rat.zero_mul]
  | x :: xs, g, k => by
    rw [cvq_cons, conv, qsum_first]
    simp only [cfq_cons_zero, Nat.sub_zero, cfq_cons_succ]
    congr 1
    cases k with
    | zero => rfl
    | succ k =>
      show cvq xs g k = _
      rw [cvq_conv xs g k, conv]
      exact qsum_congr fun i hi => by congr 2; omega
def cut (n : Nat) (f : Nat → Rat) : List Rat := (List.range n).map f
theorem cfq_cut {n : Nat} {f : Nat → Rat} {i : Nat} (h : i < n) : cfq (cut n f) i = f i := by
  simp [cut, cfq, List.getD, h] <;> grind
theorem conv_congr {f f' g g' : Nat → Rat} {k : Nat} (hf : ∀ i, i ≤ k → f i = f' i) (hg : ∀ i, i ≤ k → g i = g' i) : conv f g k = conv f' g' k :=
  qsum_congr fun i hi => by rw [hf i (by omega), hg (k - i) (by omega)]
theorem conv_cut (f g : Nat → Rat) {n k : Nat} (h : k < n) : conv f g k = cfq (mulq (cut n f) (cut n g)) k := by
  rw [cfq_mulq, cvq_conv]
  exact conv_congr (fun i hi => (cfq_cut (by omega)).symm) (fun i hi => (cfq_cut (by omega)).symm)
theorem mul_comm (f g : PQ) : f * g = g * f := ext fun k => by
  rw [c_mul, c_mul, conv_cut _ _ (Nat.lt_succ_self k), conv_cut _ _ (Nat.lt_succ_self k), mulq_comm]
theorem mul_assoc (f g h : PQ) : f * g * h = f * (g * h) := ext fun k => by
  rw [c_mul, c_mul]
  have e1 : conv (f * g).c h.c k = conv (cfq (mulq (cut (k+1) f.c) (cut (k+1) g.c))) (cfq (cut (k+1) h.c)) k :=
    conv_congr (fun i hi => by rw [c_mul, conv_cut f.c g.c (n := k + 1) (by omega)]) (fun i hi => (cfq_cut (by omega)).symm)
  have e2 : conv f.c (g * h).c k = conv (cfq (cut (k+1) f.c)) (cfq (mulq (cut (k+1) g.c) (cut (k+1) h.c))) k :=
    conv_congr (fun i hi => (cfq_cut (by omega)).symm) (fun i hi => by rw [c_mul, conv_cut g.c h.c (n := k + 1) (by omega)])
  rw [e1, e2, ← cvq_conv, ← cvq_conv, cvq_assoc]
theorem mul_add (f g h : PQ) : f * (g + h) = f * g + f * h := ext fun k => by
  simp only [c_mul, c_add, conv]
  rw [← qsum_add]
  exact qsum_congr fun i _ => Rat.mul_add _ _ _
theorem add_mul (f g h : PQ) : (f + g) * h = f * h + g * h := by rw [mul_comm, mul_add, mul_comm h f, mul_comm h g]
theorem add_comm (f g : PQ) : f + g = g + f := ext fun k => Rat.add_comm _ _
theorem add_assoc (f g h : PQ) : f + g + h = f + (g + h) := ext fun k => Rat.add_assoc _ _ _
theorem zero_add (f : PQ) : 0 + f = f := ext fun k => Rat.zero_add _
theorem add_zero (f : PQ) : f + 0 = f := ext fun k => Rat.add_zero _
theorem C_mul_c (z : Rat) (f : PQ) (k : Nat) : (C z * f).c k = z * f.c k := by
  rw [c_mul, conv, qsum_first, qsum_zero (fun i _ => by rw [c_C, if_neg (by omega), Rat.zero_mul]), Rat.add_zero, c_C, if_pos rfl, Nat.sub_zero]
theorem one_mul (f : PQ) : 1 * f = f := ext fun k => by
  show (C 1 * f).c k = _
  rw [C_mul_c, Rat.one_mul]
theorem mul_one (f : PQ) : f * 1 = f := by rw [mul_comm, one_mul]
theorem zero_mul (f : PQ) : 0 * f = 0 := ext fun k => by
  rw [c_mul, conv, c_zero, qsum_zero]; intro i _; rw [c_zero, Rat.zero_mul]
theorem mul_zero (f : PQ) : f * 0 = 0 := by rw [mul_comm, zero_mul]
theorem add_neg (f : PQ) : f + -f = 0 := ext fun k => by rw [c_add, c_neg, c_zero]; grind
theorem neg_mul (f g : PQ) : -f * g = -(f * g) := ext fun k => by
  rw [c_mul, c_neg, c_mul, conv, conv, show ∀ x : Rat, -x = (-1) * x by grind, ← qsum_mul]
  exact qsum_congr fun i _ => by rw [c_neg]; grind
theorem mul_neg (f g : PQ) : f * -g = -(f * g) := by rw [mul_comm, neg_mul, mul_comm]
theorem neg_one_C (f : PQ) : C (-1) * f = -f := ext fun k => by rw [C_mul_c, c_neg]; grind
theorem C_mul (a b : Rat) : C (a * b) = C a * C b := ext fun k => by
  rw [C_mul_c, c_C, c_C]; split <;> simp
theorem C_zero : C 0 = 0 := ext fun k => by rw [c_C, c_zero]; split <;> rfl
theorem C_one : C 1 = 1 := rfl
instance : Std.Associative (α := PQ) (· * ·) := ⟨mul_assoc⟩
instance : Std.Commutative (α := PQ) (· * ·) := ⟨mul_comm⟩
instance : Std.Associative (α := PQ) (· + ·) := ⟨add_assoc⟩
instance : Std.Commutative (α := PQ) (· + ·) := ⟨add_comm⟩
def pw (f : PQ) : Nat → PQ
  | 0 => 1
  | n + 1 => pw f n * f
theorem pw_add (f : PQ) (m n : Nat) : pw f (m + n) = pw f m * pw f n := by
  induction n with
  | zero => rw [Nat.add_zero, pw, mul_one]
  | succ n ih => rw [← Nat.add_assoc, pw, ih, pw, mul_assoc]
theorem pw_one (f : PQ) : pw f 1 = f := by rw [pw, pw, one_mul]
def D (f : PQ) : PQ := ⟨fun k => f.c (k + 1) * ((k + 1 : Nat) : Rat)⟩
end PQ
def pq (q : List Rat) : PQ := ⟨cfq q⟩
theorem pq_c (q : List Rat) (k : Nat) : (pq q).c k = cfq q k := rfl
theorem pq_mulq (p q : List Rat) : pq (mulq p q) = pq p * pq q := PQ.ext fun k => by rw [pq_c, cfq_mulq, PQ.cvq_conv]; rfl
def powq (p : List Rat) : Nat → List Rat
  | 0 => [1]
  | n + 1 => mulq p (powq p n)
end Go.Proofs.YthbobdhkbgggjaaGreat

namespace Go.Proofs.YthbobdhkbgggjaaGreat
open Go Go.Proofs Go.AL
set_option linter.unusedSimpArgs false
set_option linter.unusedVariables false
abbrev q0 : RQ := ((false, []), [])
theorem rats_get {l : List RQ} {i : Nat} (h : i < l.length) : (rats l).getD i [] = qrow (l.getD i q0) := by simp [rats, List.getD, h]
theorem rats_rows (p : List RQ) : (∀ r ∈ rats p, r.length = 3) ↔ True := by
  simp only [iff_true]
  intro r hr
  obtain ⟨c, _, rfl⟩ := List.mem_map.1 hr
  rfl
theorem rats_snoc (p : List RQ) (c : RQ) : rats p ++ [qrow c] = rats (p ++ [c]) := by simp [rats]
theorem rats_nil : rats [] = [] := rfl
theorem rats_set (p : List RQ) (i : Nat) (c : RQ) : (rats p).set i (qrow c) = rats (p.set i c) := by simp [rats, List.map_set]
theorem rats_take (p : List RQ) (k : Nat) : (rats p).take k = rats (p.take k) := by simp [rats, List.map_take]
theorem rats_rep (n : Nat) : List.replicate n [IV.bool false, IV.sl [], IV.sl []] = rats (List.replicate n q0) := by rw [rats, List.map_replicate]; rfl
theorem qrow_take (r : RQ) : List.take 3 (qrow r) = qrow r := rfl
theorem qrow_drop2 (r : RQ) : List.drop 2 (qrow r) = [.sl (lims r.2)] := rfl
theorem qrow_drop1 (r : RQ) : List.drop 1 (qrow r) = [.sl (lims r.1.2), .sl (lims r.2)] := rfl
theorem qrow_take2 (r : RQ) : List.take 2 (qrow r) = prow r.1 := rfl
theorem qrow_spl0 (r : RQ) (c : RI) : splice (qrow r) 0 (prow c) = qrow (c, r.2) := rfl
theorem qrow_len (r : RQ) : (qrow r).length = 3 := rfl
theorem qrow_splice (x y z : IV) (r : RQ) : splice [x, y, z] 0 (qrow r) = qrow r := rfl
theorem qrow_row (r : RQ) : [IV.bool r.1.1, IV.sl (lims r.1.2), IV.sl (lims r.2)] = qrow r := rfl
theorem rqs : (∀ l : List RQ, (rats l).length = l.length) ∧ (∀ {l : List RQ} {i : Nat}, i < l.length → (rats l).getD i [] = qrow (l.getD i q0)) ∧
    (∀ (c : RI) (x : IV), lay (fun i => [(0, 2), (2, 1)][i]?) [.bool false, .sl [], .sl []] ([0, 1].zip [prow c, [x]]) = some ((2 = 2 ∧ 0 + 2 ≤ 3) ∧ (1 = 1 ∧ 2 + 1 ≤ 3) ∧ True, [.bool c.1, .sl (lims c.2), x])) ∧
    (∀ r : RQ, List.take 3 (qrow r) = qrow r) ∧ (∀ r : RQ, (qrow r).length = 3) ∧ (∀ (x y z : IV) (r : RQ), splice [x, y, z] 0 (qrow r) = qrow r) ∧ (∀ r : RQ, [IV.bool r.1.1, IV.sl (lims r.1.2), IV.sl (lims r.2)] = qrow r) ∧
    (∀ p : List RQ, (∀ r ∈ rats p, r.length = 3) ↔ True) ∧ (∀ (p : List RQ) (c : RQ), rats p ++ [qrow c] = rats (p ++ [c])) ∧ (∀ (p : List RQ) (i : Nat) (c : RQ), (rats p).set i (qrow c) = rats (p.set i c)) ∧
    (∀ (p : List RQ) (k : Nat), (rats p).take k = rats (p.take k)) ∧ (∀ n : Nat, List.replicate n [IV.bool false, IV.sl [], IV.sl []] = rats (List.replicate n q0)) ∧ (rats [] = []) ∧
    (∀ r : RQ, List.drop 2 (qrow r) = [.sl (lims r.2)]) ∧ (∀ r : RQ, List.take 2 (qrow r) = prow r.1) ∧ (∀ r : RQ, List.drop 1 (qrow r) = [.sl (lims r.1.2), .sl (lims r.2)]) ∧ (∀ (r : RQ) (c : RI), splice (qrow r) 0 (prow c) = qrow (c, r.2)) :=
  ⟨rats_len, rats_get, lay_rat, qrow_take, qrow_len, qrow_splice, qrow_row, rats_rows, rats_snoc, rats_set, rats_take, rats_rep, rats_nil, qrow_drop2, qrow_take2, qrow_drop1, qrow_spl0⟩
end Go.Proofs.YthbobdhkbgggjaaGreat

namespace Go.Proofs.YthbobdhkbgggjaaGreat
open Go Go.Proofs Go.AL
set_option linter.unusedSimpArgs false
set_option linter.unusedVariables false
theorem SzQ.mono {j k : Nat} {r : RQ} (h : SzQ j r) (hk : j ≤ k) : SzQ k r := ⟨h.1.mono hk, Nat.le_trans h.2.1 hk, h.2.2⟩
theorem wd_len2 {a b : Nat} {j k : Nat} (ha : (wd a).length ≤ j) (hb : (wd b).length ≤ k) : (wd (a * b)).length ≤ j + k := Nat.le_trans (AL.wd_mul_len a b) (Nat.add_le_add ha hb)
end Go.Proofs.YthbobdhkbgggjaaGreat

namespace Go.Proofs.YthbobdhkbgggjaaGreat
open Go Go.Proofs Go.AL
set_option linter.unusedSimpArgs false
set_option linter.unusedVariables false
end Go.Proofs.YthbobdhkbgggjaaGreat

namespace Go.Proofs.YthbobdhkbgggjaaGreat
open Go Go.Proofs Go.AL
set_option linter.unusedSimpArgs false
set_option linter.unusedVariables false
def BQ (n k : Nat) (p : List RQ) : Prop := p.length ≤ n ∧ ∀ r ∈ p, SzQ k r
def GQ (n k : Nat) (p : List RQ) : Prop := p.length ≤ n ∧ ∀ r ∈ p, SzQ k r ∧ nv r.2 ≠ 0
def QB (n k : Nat) (q : List Rat) : Prop := q.length ≤ n ∧ ∀ c ∈ q, qz c ≤ k
def gd (p : List RQ) : Bool := p.all fun r => decide (nv r.2 ≠ 0)
theorem getq_mem {p : List RQ} {i : Nat} (h : i < p.length) : p.getD i q0 ∈ p := by rw [List.getD, List.getElem?_eq_getElem h, Option.getD_some]; exact List.getElem_mem h
theorem BQ.get {n k i : Nat} {p : List RQ} (h : BQ n k p) (hi : i < p.length) : SzQ k (p.getD i q0) := h.2 _ (getq_mem hi)
theorem GQ.get {n k i : Nat} {p : List RQ} (h : GQ n k p) (hi : i < p.length) : SzQ k (p.getD i q0) := (h.2 _ (getq_mem hi)).1
theorem GQ.den {n k i : Nat} {p : List RQ} (h : GQ n k p) (hi : i < p.length) : nv (p.getD i q0).2 ≠ 0 := (h.2 _ (getq_mem hi)).2
theorem gd_iff {p : List RQ} : gd p = true ↔ ∀ r ∈ p, nv r.2 ≠ 0 := by simp [gd]
theorem GQ.gd {n k : Nat} {p : List RQ} (h : GQ n k p) : gd p = true := gd_iff.mpr fun r hr => (h.2 r hr).2
theorem BQ.mono {n k n' k' : Nat} {p : List RQ} (h : BQ n k p) (hn : n ≤ n') (hk : k ≤ k') : BQ n' k' p := ⟨Nat.le_trans h.1 hn, fun r hr => (h.2 r hr).mono hk⟩
theorem GQ.mono {n k n' k' : Nat} {p : List RQ} (h : GQ n k p) (hn : n ≤ n') (hk : k ≤ k') : GQ n' k' p := ⟨Nat.le_trans h.1 hn, fun r hr => ⟨(h.2 r hr).1.mono hk, (h.2 r hr).2⟩⟩
theorem QB.mono {n k n' k' : Nat} {q : List Rat} (h : QB n k q) (hn : n ≤ n') (hk : k ≤ k') : QB n' k' q := ⟨Nat.le_trans h.1 hn, fun r hr => Nat.le_trans (h.2 r hr) hk⟩
theorem GQ.qb {n k : Nat} {p : List RQ} (h : GQ n k p) : QB n k (qvs p) := ⟨by rw [qvs_len]; exact h.1, fun c hc => by
  obtain ⟨r, hr, rfl⟩ := List.mem_map.1 hc
  exact qz_raw (h.2 r hr).1 (h.2 r hr).2⟩
theorem QB.trimq {n k : Nat} {q : List Rat} (h : QB n k q) : QB n k (trimq q) := ⟨Nat.le_trans (by rw [trimq_len]; exact tzq_le q) h.1, fun c hc => h.2 c (List.mem_of_mem_take hc)⟩
theorem QB.cz {n k : Nat} {q : List Rat} (h : QB n k q) (hk : 1 ≤ k) (i : Nat) : qz (cfq q i) ≤ k := by
  unfold cfq
  rw [List.getD_eq_getElem?_getD]
  cases hi : q[i]? with
  | none => rw [Option.getD_none, qz_zero]; exact hk
  | some x => exact h.2 x (List.mem_of_getElem? hi)
theorem QB.of {n k : Nat} {q : List Rat} (hl : q.length ≤ n) (h : ∀ i, qz (cfq q i) ≤ k) : QB n k q := ⟨hl, fun c hc => by
  obtain ⟨i, hi, rfl⟩ := List.getElem_of_mem hc
  have := h i
  rwa [cfq_lt hi] at this⟩
def qp (p : List Int) : List Rat := p.map fun z : Int => (z : Rat)
theorem cfq_qp (p : List Int) (k : Nat) : cfq (qp p) k = (cf p k : Rat) := by
  unfold cfq qp cf
  rw [List.getD_eq_getElem?_getD, List.getD_eq_getElem?_getD, List.getElem?_map]
  cases p[k]? <;> rfl
end Go.Proofs.YthbobdhkbgggjaaGreat

namespace Go.Proofs.YthbobdhkbgggjaaGreat
open Go Go.Proofs Go.AL
set_option linter.unusedSimpArgs false
set_option linter.unusedVariables false
structure VB (p : List RQ) (x : RQ) (B : Nat) : Prop where
  hp : GQ (2 ^ 30) B p
  hx : SzQ B x
  d : nv x.2 ≠ 0
  e : ∀ q : List Rat, q.length ≤ p.length → (∀ c ∈ q, c ∈ qvs p) → qz (evq q (qv x)) ≤ B
  w : ∀ i, i ≤ p.length → qz (qv x ^ i) ≤ B
  b : B ≤ 2 ^ 34
  one : 1 ≤ B
theorem VB.of {n K X B : Nat} {p : List RQ} {x : RQ} (hp : GQ n K p) (hx : SzQ X x) (hd : nv x.2 ≠ 0) (hn : n ≤ 2 ^ 30) (hB : n * (K + X + 1) + K + X + 1 ≤ B) (hB' : B ≤ 2 ^ 34) : VB p x B where
  hp := hp.mono hn (by omega)
  hx := hx.mono (by omega)
  d := hd
  e := fun q hq hc => by
    have h := qz_evq (K := K) (qz_raw hx hd) (p := q) fun c hc' => hp.qb.2 c (hc c hc')
    have h2 := Nat.mul_le_mul_right (K + X + 1) (Nat.le_trans hq hp.1)
    omega
  w := fun i hi => by
    have h := qz_pow (qz_raw hx hd) i
    have h2 := Nat.mul_le_mul_right X (Nat.le_trans hi hp.1)
    have h3 : n * X ≤ n * (K + X + 1) := Nat.mul_le_mul_left n (by omega)
    omega
  b := hB'
  one := by omega
theorem VB.take {p : List RQ} {x : RQ} {B : Nat} (v : VB p x B) (i : Nat) : qz (evq ((qvs p).take i) (qv x)) ≤ B :=
  v.e _ (by rw [List.length_take, qvs_len]; omega) fun c hc => List.mem_of_mem_take hc
theorem VB.drop {p : List RQ} {x : RQ} {B : Nat} (v : VB p x B) (i : Nat) : qz (evq ((qvs p).drop i) (qv x)) ≤ B :=
  v.e _ (by rw [List.length_drop, qvs_len]; omega) fun c hc => List.mem_of_mem_drop hc
end Go.Proofs.YthbobdhkbgggjaaGreat

namespace Go.Proofs.YthbobdhkbgggjaaGreat
open Go Go.Proofs Go.AL
set_option linter.unusedSimpArgs false
set_option linter.unusedVariables false
end Go.Proofs.YthbobdhkbgggjaaGreat

namespace Go.Proofs.YthbobdhkbgggjaaGreat
open Go Go.Proofs Go.AL
set_option linter.unusedSimpArgs false
set_option linter.unusedVariables false
structure C12 where
  (P Q : List RI) (R S : List RQ) (A B : RI) (X Y : RQ) (N : Int)
structure Ok12 (x : C12) : Prop where
  P : Raw x.P
  Q : Raw x.Q
  R : RawQ x.R
  S : RawQ x.S
  A : Sz 9223372036854775807 x.A
  B : Sz 9223372036854775807 x.B
  X : SzQ 9223372036854775807 x.X
  Y : SzQ 9223372036854775807 x.Y
  N : -9223372036854775808 ≤ x.N ∧ x.N ≤ 9223372036854775807
structure Fit12 (x : C12) : Prop where
  P : RP 40 200 x.P
  Q : RP 40 200 x.Q
  R : BQ 40 200 x.R
  S : BQ 40 200 x.S
  A : Sz 200 x.A
  B : Sz 200 x.B
  X : SzQ 200 x.X
  Y : SzQ 200 x.Y
end Go.Proofs.YthbobdhkbgggjaaGreat

namespace Go.Proofs.YthbobdhkbgggjaaGreat
open Go Go.Proofs Go.AL
set_option linter.unusedSimpArgs false
set_option linter.unusedVariables false
def CD (D M : Nat) (q : Rat) : Prop := ∃ z : Int, q = (z : Rat) / (D : Rat) ∧ zl z ≤ M
theorem CD.mono {D M N : Nat} {q : Rat} (h : CD D M q) (hk : M ≤ N) : CD D N q := by
  obtain ⟨z, e, hz⟩ := h
  exact ⟨z, e, Nat.le_trans hz hk⟩
theorem natr_ne {n : Nat} (h : n ≠ 0) : (n : Rat) ≠ 0 := fun e => h (Rat.natCast_eq_zero_iff.mp e)
theorem CD.add {D M N : Nat} {p q : Rat} (h : CD D M p) (k : CD D N q) : CD D (max M N + 1) (p + q) := by
  obtain ⟨z, e, hz⟩ := h
  obtain ⟨w, f, hw⟩ := k
  refine ⟨z + w, ?_, ?_⟩
  · rw [e, f, Rat.intCast_add, Rat.div_def, Rat.div_def, Rat.div_def, Rat.add_mul]
  · have := zl_add z w
    omega
theorem CD.neg {D M : Nat} {p : Rat} (h : CD D M p) : CD D M (-p) := by
  obtain ⟨z, e, hz⟩ := h
  exact ⟨-z, by rw [e, Rat.intCast_neg, Rat.div_def, Rat.div_def, Rat.neg_mul], by rw [zl_neg]; exact hz⟩
theorem CD.mul {D E M N : Nat} {p q : Rat} (hD : D ≠ 0) (hE : E ≠ 0) (h : CD D M p) (k : CD E N q) : CD (D * E) (M + N) (p * q) := by
  obtain ⟨z, e, hz⟩ := h
  obtain ⟨w, f, hw⟩ := k
  refine ⟨z * w, ?_, ?_⟩
  · have h1 := natr_ne hD
    have h2 := natr_ne hE
    rw [e, f, Rat.intCast_mul, Rat.natCast_mul]
    grind
  · have := zl_mul z w
    omega
theorem CD.up {D E M V : Nat} {q : Rat} (hD : D ≠ 0) (hE : E ≠ 0) (hV : (wd E).length ≤ V) (h : CD D M q) : CD (D * E) (M + V) q := by
  obtain ⟨z, e, hz⟩ := h
  refine ⟨z * E, ?_, ?_⟩
  · have h1 := natr_ne hD
    have h2 := natr_ne hE
    rw [e, Rat.intCast_mul, Rat.natCast_mul, Rat.intCast_natCast]
    grind
  · have := zl_mul z E
    rw [zl_nat] at this
    omega
theorem CD.ofRat (q : Rat) : CD q.den (zl q.num) q := ⟨q.num, by rw [← Rat.mkRat_eq_div]; exact (Rat.mkRat_self q).symm, Nat.le_refl _⟩
theorem CD.size {D M : Nat} {q : Rat} (hD : D ≠ 0) (hw : (wd D).length ≤ M) (h : CD D M q) : qz q ≤ M := by
  obtain ⟨z, e, hz⟩ := h
  rw [e, ← Rat.mkRat_eq_div]
  exact qz_mk hD hz hw
theorem CD.zero (D M : Nat) : CD D M 0 := ⟨0, by rw [Rat.intCast_zero, Rat.div_def, Rat.zero_mul], by rw [zl_zero]; omega⟩
theorem wd_pow {v V : Nat} (h : (wd v).length ≤ V) (n : Nat) : (wd (v ^ n)).length ≤ n * V + 1 := by
  have := zl_pow (a := (v : Int)) (K := V) h n
  unfold zl at this
  rwa [Int.natAbs_pow, Int.natAbs_natCast] at this
theorem pow_ne {v : Nat} (h : v ≠ 0) (n : Nat) : v ^ n ≠ 0 := Nat.ne_of_gt (Nat.pow_pos (Nat.pos_of_ne_zero h))
theorem evq_cd {D K v X V : Nat} {x : Rat} (hD : D ≠ 0) (hv : v ≠ 0) (hV : (wd v).length ≤ V) (hx : CD v X x) : ∀ p : List Rat, (∀ c ∈ p, CD D K c) → CD (D * v ^ p.length) (K + p.length * (X + V + 1) + 1) (evq p x)
  | [], _ => CD.zero _ _
  | c :: p, h => by
    have ih := evq_cd hD hv hV hx p fun c' hc => h c' (List.mem_cons_of_mem _ hc)
    have h1 := (h c (by simp)).up hD (pow_ne hv (p.length + 1)) (wd_pow hV (p.length + 1))
    have h2 := hx.mul hv (Nat.mul_ne_zero hD (pow_ne hv _)) ih
    rw [show v * (D * v ^ p.length) = D * v ^ (p.length + 1) by rw [Nat.pow_succ]; ac_rfl] at h2
    rw [evq, List.length_cons]
    refine (h1.add h2).mono ?_
    have e1 : (p.length + 1) * V = p.length * V + V := Nat.succ_mul _ _
    have e2 : (p.length + 1) * (X + V + 1) = p.length * (X + V + 1) + (X + V + 1) := Nat.succ_mul _ _
    have e3 : p.length * V ≤ p.length * (X + V + 1) := Nat.mul_le_mul_left _ (by omega)
    omega
theorem evq_cdN {D K v X V N : Nat} {x : Rat} (hD : D ≠ 0) (hv : v ≠ 0) (hV : (wd v).length ≤ V) (hx : CD v X x) {p : List Rat} (hp : ∀ c ∈ p, CD D K c) (hN : p.length ≤ N) : CD (D * v ^ N) (K + N * (X + V + 1) + N * V + 2) (evq p x) := by
  have h1 := (evq_cd hD hv hV hx p hp).up (Nat.mul_ne_zero hD (pow_ne hv _)) (pow_ne hv (N - p.length)) (wd_pow hV (N - p.length))
  rw [Nat.mul_assoc, ← Nat.pow_add, show p.length + (N - p.length) = N by omega] at h1
  refine h1.mono ?_
  have e1 : p.length * (X + V + 1) ≤ N * (X + V + 1) := Nat.mul_le_mul_right _ hN
  have e2 : (N - p.length) * V ≤ N * V := Nat.mul_le_mul_right _ (by omega)
  omega
structure CB (D n M : Nat) (q : List Rat) : Prop where
  d : D ≠ 0
  w : (wd D).length ≤ M
  l : q.length ≤ n
  c : ∀ c ∈ q, CD D M c
theorem CB.qb {D n M : Nat} {q : List Rat} (h : CB D n M q) : QB n M q := ⟨h.l, fun c hc => (h.c c hc).size h.d h.w⟩
theorem CB.mono {D n M m N : Nat} {q : List Rat} (h : CB D n M q) (hn : n ≤ m) (hM : M ≤ N) : CB D m N q := ⟨h.d, Nat.le_trans h.w hM, Nat.le_trans h.l hn, fun c hc => (h.c c hc).mono hM⟩
theorem CB.sub {D n M : Nat} {q r : List Rat} (h : CB D n M q) (hl : r.length ≤ n) (hr : ∀ c ∈ r, c ∈ q) : CB D n M r := ⟨h.d, h.w, hl, fun c hc => h.c c (hr c hc)⟩
theorem CB.trim {D n M : Nat} {q : List Rat} (h : CB D n M q) : CB D n M (trimq q) := h.sub (Nat.le_trans (by rw [trimq_len]; exact tzq_le q) h.l) fun c hc => List.mem_of_mem_take hc
theorem qz_parts (q : Rat) : zl q.num ≤ qz q ∧ (wd q.den).length ≤ qz q := ⟨Nat.le_max_left _ _, Nat.le_max_right _ _⟩
theorem one_cd : ∀ {k : Nat} (q : List Rat), (∀ c ∈ q, qz c ≤ k) → ∃ D, D ≠ 0 ∧ (wd D).length ≤ q.length * k + 1 ∧ ∀ c ∈ q, CD D (q.length * k + k + 1) c
  | k, [], _ => ⟨1, by omega, by rw [show wd 1 = [1] by decide +kernel]; simp, fun c hc => nomatch hc⟩
  | k, a :: q, h => by
    obtain ⟨D, hD, hw, hc⟩ := one_cd q fun c hc => h c (List.mem_cons_of_mem _ hc)
    have ha := h a (by simp)
    have hp := qz_parts a
    refine ⟨a.den * D, Nat.mul_ne_zero a.den_nz hD, ?_, fun c hc' => ?_⟩
    · have := AL.wd_mul_len a.den D
      rw [List.length_cons, Nat.succ_mul]
      omega
    · rw [List.length_cons, Nat.succ_mul]
      rcases List.mem_cons.1 hc' with rfl | hc'
      · exact ((CD.ofRat c).up c.den_nz hD hw).mono (by omega)
      · rw [Nat.mul_comm]
        exact ((hc c hc').up hD a.den_nz hp.2).mono (by omega)
theorem QB.cb {n k : Nat} {q : List Rat} (h : QB n k q) : ∃ D, CB D n (n * k + k + 1) q := by
  obtain ⟨D, hD, hw, hc⟩ := one_cd q h.2
  have := Nat.mul_le_mul_right k h.1
  exact ⟨D, hD, by omega, h.1, fun c hc' => (hc c hc').mono (by omega)⟩
def sqq (q : List Rat) (c : Rat) : List Rat := (List.range (q.length - 1)).map fun i => evq (q.drop (i + 1)) c
theorem sqq_len (q : List Rat) (c : Rat) : (sqq q c).length = q.length - 1 := by simp [sqq]
theorem cfq_sqq (q : List Rat) (c : Rat) (i : Nat) : cfq (sqq q c) i = evq (q.drop (i + 1)) c := by
  by_cases h : i < q.length - 1
  · rw [sqq, cfq, List.getD, List.getElem?_map, List.getElem?_range h]; rfl
  · rw [cfq_ge (by rw [sqq_len]; omega), List.drop_of_length_le (by omega)]; rfl
theorem CB.sqq {D n M v X V : Nat} {q : List Rat} {x : Rat} (h : CB D n M q) (hv : v ≠ 0) (hV : (wd v).length ≤ V) (hx : CD v X x) : CB (D * v ^ n) n (M + n * (X + V + 1) + n * V + 2) (sqq q x) where
  d := Nat.mul_ne_zero h.d (pow_ne hv _)
  w := by
    have h1 := AL.wd_mul_len D (v ^ n)
    have h2 := wd_pow hV n
    have h3 := h.w
    omega
  l := by rw [sqq_len]; have := h.l; omega
  c := fun c hc => by
    obtain ⟨i, _, rfl⟩ := List.mem_map.1 hc
    exact evq_cdN h.d hv hV hx (fun c hc => h.c c (List.mem_of_mem_drop hc)) (by rw [List.length_drop]; have := h.l; omega)
theorem trimq_full {q : List Rat} (h : trimq q = q) : tzq q = q.length := by rw [← trimq_len, h]
theorem sqq_tz {q : List Rat} {c : Rat} (h : trimq q = q) (h0 : q.length ≠ 0) (he : evq q c = 0) : tzq (sqq q c) = q.length - 1 ∧ q.length - 1 ≠ 0 := by
  have ht := trimq_full h
  have h1 : q.length ≠ 1 := fun e => by
    match q, e with
    | [a], _ =>
      have := cfq_tzq_pred (q := [a]) (by rw [ht]; simp)
      rw [ht] at this
      rw [evq, evq] at he
      exact this (by show a = 0; rw [← he]; grind)
  have h2 : cfq (sqq q c) (q.length - 2) ≠ 0 := by
    have := cfq_tzq_pred (q := q) (by rw [ht]; exact h0)
    rw [ht] at this
    rw [cfq_sqq, show q.length - 2 + 1 = q.length - 1 by omega, List.drop_eq_getElem_cons (by omega), evq, List.drop_of_length_le (by omega), evq]
    rw [cfq_lt (by omega)] at this
    intro e
    exact this (by rw [← e]; grind)
  have := tzq_spec h2 fun k hk => by rw [cfq_sqq, List.drop_of_length_le (by omega)]; rfl
  exact ⟨by omega, by omega⟩
def qit (q : List Rat) (c : Rat) : Nat → List Rat
  | 0 => q
  | k + 1 => trimq (sqq (qit q c k) c)
theorem qit_len {q : List Rat} {c : Rat} (h : trimq q = q) (h0 : q.length ≠ 0) : ∀ k, (∀ j, j < k → evq (qit q c j) c = 0) → (qit q c k).length + k = q.length ∧ (qit q c k).length ≠ 0 ∧ trimq (qit q c k) = qit q c k
  | 0, _ => ⟨rfl, h0, h⟩
  | k + 1, hk => by
    obtain ⟨h1, h2, h3⟩ := qit_len h h0 k fun j hj => hk j (by omega)
    obtain ⟨h4, h5⟩ := sqq_tz h3 h2 (hk k (by omega))
    refine ⟨?_, ?_, trimq_trimq _⟩
    · rw [qit, trimq_len]; omega
    · rw [qit, trimq_len]; omega
end Go.Proofs.YthbobdhkbgggjaaGreat

namespace Go.Proofs.YthbobdhkbgggjaaGreat
open Go Go.Proofs Go.AL
set_option linter.unusedSimpArgs false
set_option linter.unusedVariables false
end Go.Proofs.YthbobdhkbgggjaaGreat

namespace Go.Proofs.YthbobdhkbgggjaaGreat
open Go Go.Proofs Go.AL
set_option linter.unusedSimpArgs false
set_option linter.unusedVariables false
structure SB (A : List Rat) (x : RQ) (B : Nat) : Prop where
  l : A.length ≤ 2 ^ 30
  c : ∀ i, i < A.length → qz (cfq A i) ≤ B
  e : ∀ i, qz (evq (A.drop i) (qv x)) ≤ B
  hx : SzQ B x
  d : nv x.2 ≠ 0
  b : B ≤ 2 ^ 34
  one : 1 ≤ B
theorem VB.sb {p : List RQ} {x : RQ} {B : Nat} (v : VB p x B) : SB (trimq (qvs p)) x B where
  l := by rw [trimq_len]; exact Nat.le_trans (tzq_le _) (by rw [qvs_len]; exact v.hp.1)
  c := fun i hi => by
    have := v.hp.qb.trimq
    exact this.cz v.one i
  e := fun i => v.e _ (by rw [List.length_drop, trimq_len]; have := tzq_le (qvs p); rw [qvs_len] at this; omega) fun c hc => List.mem_of_mem_take (List.mem_of_mem_drop hc)
  hx := v.hx
  d := v.d
  b := v.b
  one := v.one
end Go.Proofs.YthbobdhkbgggjaaGreat

namespace Go.Proofs.YthbobdhkbgggjaaGreat
open Go Go.Proofs Go.AL
set_option linter.unusedSimpArgs false
set_option linter.unusedVariables false
structure TB (A : List Rat) (x : RQ) (n : Nat) : Prop where
  t : trimq A = A
  l : A.length ≤ 2 ^ 30
  n0 : A.length ≠ 0
  z : ∀ j, j < n → evq (qit A (qv x) j) (qv x) = 0
  e : evq (qit A (qv x) n) (qv x) ≠ 0
  v : ∀ k, k ≤ n → VB ((qit A (qv x) k).map crat) x (2 ^ 34)
theorem TB.le {A : List Rat} {x : RQ} {n : Nat} (h : TB A x n) {k : Nat} (hk : k ≤ n) : (qit A (qv x) k).length + k = A.length ∧ (qit A (qv x) k).length ≠ 0 ∧ trimq (qit A (qv x) k) = qit A (qv x) k :=
  qit_len h.t h.n0 k fun j hj => h.z j (by omega)
end Go.Proofs.YthbobdhkbgggjaaGreat

namespace Go.Proofs.YthbobdhkbgggjaaGreat
open Go Go.Proofs Go.AL
set_option linter.unusedSimpArgs false
set_option linter.unusedVariables false
end Go.Proofs.YthbobdhkbgggjaaGreat

namespace Go.Proofs.YthbobdhkbgggjaaGreat
open Go Go.Proofs Go.AL
set_option linter.unusedSimpArgs false
set_option linter.unusedVariables false
def zipq (F : Rat → Rat → Rat) (A B : List Rat) : List Rat := (List.range (max A.length B.length)).map fun k => F (cfq A k) (cfq B k)
end Go.Proofs.YthbobdhkbgggjaaGreat

namespace Go.Proofs.YthbobdhkbgggjaaGreat
open Go Go.Proofs Go.AL
set_option linter.unusedSimpArgs false
set_option linter.unusedVariables false
theorem lcm_len {a b j k : Nat} (ha : (wd a).length ≤ j) (hb : (wd b).length ≤ k) : (wd (Nat.lcm a b)).length ≤ j + k :=
  Nat.le_trans (wd_len_mono (Nat.div_le_self _ _)) (wd_len2 ha hb)
theorem lcm_ne {a b : Nat} (ha : a ≠ 0) (hb : b ≠ 0) : Nat.lcm a b ≠ 0 := Nat.lcm_ne_zero ha hb
def lcmL (l : List Nat) : Nat := l.foldl Nat.lcm 1
theorem lcmL_take {l : List Nat} {i : Nat} (h : i < l.length) : lcmL (l.take (i + 1)) = Nat.lcm (lcmL (l.take i)) (l.getD i 0) := by
  rw [List.take_add_one, List.getElem?_eq_getElem h, lcmL, List.foldl_append]
  simp [lcmL, List.getD, h]
theorem lcmL_facts (l : List Nat) (K : Nat) (h0 : ∀ x ∈ l, x ≠ 0) (hK : ∀ x ∈ l, (wd x).length ≤ K) : ∀ i, i ≤ l.length → lcmL (l.take i) ≠ 0 ∧ (wd (lcmL (l.take i))).length ≤ i * K + 1 ∧ ∀ j, j < i → l.getD j 0 ∣ lcmL (l.take i)
  | 0, _ => ⟨by simp [lcmL], by rw [List.take_zero]; show (wd 1).length ≤ _; rw [show wd 1 = [1] by decide +kernel]; simp, fun j hj => by omega⟩
  | i + 1, hi => by
    obtain ⟨a1, a2, a3⟩ := lcmL_facts l K h0 hK i (by omega)
    have hm : l.getD i 0 ∈ l := by rw [List.getD, List.getElem?_eq_getElem (by omega), Option.getD_some]; exact List.getElem_mem _
    rw [lcmL_take (by omega)]
    refine ⟨lcm_ne a1 (h0 _ hm), ?_, fun j hj => ?_⟩
    · have := lcm_len a2 (hK _ hm)
      rw [Nat.succ_mul]
      omega
    · rcases Nat.lt_or_ge j i with h | h
      · exact Nat.dvd_trans (a3 j h) (Nat.dvd_lcm_left _ _)
      · obtain rfl : j = i := by omega
        exact Nat.dvd_lcm_right _ _
def dens (A : List Rat) : List Nat := A.map fun c => c.den
def cden (A : List Rat) : Nat := lcmL (dens A)
def clr (A : List Rat) : List Int := A.map fun c => c.num * ((cden A : Int) / (c.den : Int))
theorem dens_len (A : List Rat) : (dens A).length = A.length := List.length_map _
theorem clr_len (A : List Rat) : (clr A).length = A.length := List.length_map _
theorem dens_get {A : List Rat} {i : Nat} (h : i < A.length) : (dens A).getD i 0 = (cfq A i).den := by simp [dens, cfq, List.getD, h]
theorem clr_get {A : List Rat} {i : Nat} (h : i < A.length) : cf (clr A) i = (cfq A i).num * ((cden A : Int) / ((cfq A i).den : Int)) := by simp [clr, cf, cfq, List.getD, h]
theorem dens_ne {A : List Rat} : ∀ x ∈ dens A, x ≠ 0 := fun x hx => by
  obtain ⟨c, _, rfl⟩ := List.mem_map.1 hx
  exact c.den_nz
theorem QB.dens {n k : Nat} {A : List Rat} (h : QB n k A) : ∀ x ∈ dens A, (wd x).length ≤ k := fun x hx => by
  obtain ⟨c, hc, rfl⟩ := List.mem_map.1 hx
  exact Nat.le_trans (qz_parts c).2 (h.2 c hc)
theorem cden_ne (A : List Rat) : cden A ≠ 0 := by
  have := (lcmL_facts (dens A) ((dens A).foldl (fun m x => max m (wd x).length) 0) dens_ne (fun x hx => by
    have key : ∀ (l : List Nat) (m : Nat), m ≤ l.foldl (fun m x => max m (wd x).length) m ∧ ∀ x ∈ l, (wd x).length ≤ l.foldl (fun m x => max m (wd x).length) m := by
      intro l
      induction l with
      | nil => exact fun m => ⟨Nat.le_refl _, fun x hx => nomatch hx⟩
      | cons a l ih =>
        intro m
        have := ih (max m (wd a).length)
        refine ⟨Nat.le_trans (Nat.le_max_left _ _) this.1, fun x hx => ?_⟩
        rcases List.mem_cons.1 hx with rfl | hx
        · exact Nat.le_trans (Nat.le_max_right _ _) this.1
        · exact this.2 x hx
    exact (key (dens A) 0).2 x hx) (dens A).length (Nat.le_refl _)).1
  rwa [List.take_of_length_le (Nat.le_refl _)] at this
theorem cden_dvd {A : List Rat} {i : Nat} (h : i < A.length) : (cfq A i).den ∣ cden A := by
  have := (lcmL_facts (dens A) (cden A + (dens A).foldl (fun m x => m + (wd x).length) 0) dens_ne (fun x hx => by
    have key : ∀ (l : List Nat) (m : Nat), m ≤ l.foldl (fun m x => m + (wd x).length) m ∧ ∀ x ∈ l, (wd x).length ≤ l.foldl (fun m x => m + (wd x).length) m := by
      intro l
      induction l with
      | nil => exact fun m => ⟨Nat.le_refl _, fun x hx => nomatch hx⟩
      | cons a l ih =>
        intro m
        have := ih (m + (wd a).length)
        refine ⟨Nat.le_trans (by omega) this.1, fun x hx => ?_⟩
        rcases List.mem_cons.1 hx with rfl | hx
        · exact Nat.le_trans (by omega) this.1
        · exact this.2 x hx
    have := (key (dens A) 0).2 x hx
    omega) (dens A).length (Nat.le_refl _)).2.2 i (by rw [dens_len]; exact h)
  rw [List.take_of_length_le (Nat.le_refl _), dens_get h] at this
  exact this
theorem cden_len {n k : Nat} {A : List Rat} (h : QB n k A) : (wd (cden A)).length ≤ n * k + 1 := by
  have := (lcmL_facts (dens A) k dens_ne h.dens (dens A).length (Nat.le_refl _)).2.1
  rw [List.take_of_length_le (Nat.le_refl _), dens_len] at this
  have h2 := Nat.mul_le_mul_right k h.1
  show (wd (lcmL (dens A))).length ≤ _
  omega
theorem cf_clr (A : List Rat) (i : Nat) : (cf (clr A) i : Rat) = cfq A i * (cden A : Rat) := by
  by_cases h : i < A.length
  · rw [clr_get h]
    obtain ⟨m, hm⟩ := cden_dvd h
    have hd : ((cfq A i).den : Int) ≠ 0 := by have := (cfq A i).den_nz; omega
    have e : (cden A : Int) / ((cfq A i).den : Int) = (m : Int) := by
      rw [hm, Int.natCast_mul, Int.mul_ediv_cancel_left _ hd]
    rw [e, Rat.intCast_mul, Rat.intCast_natCast, hm, Rat.natCast_mul]
    have h1 : cfq A i = ((cfq A i).num : Rat) / ((cfq A i).den : Rat) := by rw [← Rat.mkRat_eq_div, Rat.mkRat_self]
    have h2 := natr_ne (cfq A i).den_nz
    generalize (cfq A i).num = u at *
    generalize (cfq A i).den = v at *
    rw [h1]
    grind
  · rw [cf_ge (by rw [clr_len]; omega), cfq_ge (by omega), Rat.intCast_zero, Rat.zero_mul]
theorem zl_clr {n k : Nat} {A : List Rat} (h : QB n k A) (i : Nat) : zl (cf (clr A) i) ≤ k + n * k + 1 := by
  by_cases hi : i < A.length
  · rw [clr_get hi]
    have h1 := zl_mul (cfq A i).num ((cden A : Int) / ((cfq A i).den : Int))
    have h2 := zl_div (a := (cden A : Int)) (b := ((cfq A i).den : Int)) (Int.natCast_dvd_natCast.mpr (cden_dvd hi))
    have h3 := cden_len h
    have h4 := (qz_parts (cfq A i)).1
    have h5 : qz (cfq A i) ≤ k := by rw [cfq_lt hi]; exact h.2 _ (List.getElem_mem hi)
    rw [zl_nat] at h2
    omega
  · rw [cf_ge (by rw [clr_len]; omega), zl_zero]; omega
theorem QB.clr {n k : Nat} {A : List Rat} (h : QB n k A) : PB n (k + n * k + 1) (clr A) := .of (by rw [clr_len]; exact h.1) (zl_clr h)
end Go.Proofs.YthbobdhkbgggjaaGreat

namespace Go.Proofs.YthbobdhkbgggjaaGreat
open Go Go.Proofs Go.AL
set_option linter.unusedSimpArgs false
set_option linter.unusedVariables false
def divl (L : List Int) (D : Int) : List Rat := L.map fun c : Int => (c : Rat) / (D : Rat)
theorem divl_len (L : List Int) (D : Int) : (divl L D).length = L.length := List.length_map _
theorem zero_divr (x : Rat) : (0 : Rat) / x = 0 := by rw [Rat.div_def, Rat.zero_mul]
theorem cfq_divl (L : List Int) (D : Int) (k : Nat) : cfq (divl L D) k = (cf L k : Rat) / (D : Rat) := by
  unfold divl cfq cf
  rw [List.getD_eq_getElem?_getD, List.getD_eq_getElem?_getD, List.getElem?_map]
  cases L[k]? with
  | none => simp only [Option.map_none, Option.getD_none]; rw [Rat.intCast_zero, zero_divr]
  | some x => rfl
theorem qz_divn {c : Int} {d M : Nat} (hd : d ≠ 0) (hc : zl c ≤ M) (hw : (wd d).length ≤ M) : qz ((c : Rat) / (((d : Nat) : Int) : Rat)) ≤ M := by
  rw [Rat.intCast_natCast, ← Rat.mkRat_eq_div]
  exact qz_mk hd hc hw
theorem QB.divl {n M : Nat} {L : List Int} {d : Nat} (h : PB n M L) (hd : d ≠ 0) (hw : (wd d).length ≤ M) : QB n M (divl L (d : Int)) := .of (by rw [divl_len]; exact h.1) fun i => by
  rw [cfq_divl]
  exact qz_divn hd (h.cf i) hw
theorem cv_cast (g : Nat → Int) : ∀ (p : List Int) (k : Nat), ((cv p g k : Int) : Rat) = cvq (qp p) (fun j => (g j : Rat)) k
  | [], k => by simp only [cv, qp, List.map_nil, cvq]; rfl
  | x :: xs, 0 => by
    have e : qp (x :: xs) = (x : Rat) :: qp xs := rfl
    rw [e]
    simp only [cv, cvq]
    rw [Int.add_zero, Rat.intCast_mul, Rat.add_zero]
  | x :: xs, k + 1 => by
    have e : qp (x :: xs) = (x : Rat) :: qp xs := rfl
    have ih := cv_cast g xs k
    rw [e]
    simp only [cv, cvq]
    rw [Rat.intCast_add, Rat.intCast_mul, ih]
theorem cfq_qp_pmul (x y : List Int) (k : Nat) : cfq (qp (pmul x y)) k = cfq (mulq (qp x) (qp y)) k := by
  rw [cfq_qp, cf_pmul, cfq_mulq, cv_cast]
  exact cvq_congr _ _ fun j => (cfq_qp y j).symm
theorem pq_clr (A : List Rat) : pq (qp (clr A)) = PQ.C (cden A : Rat) * pq A := PQ.ext fun k => by
  rw [PQ.C_mul_c, pq_c, pq_c, cfq_qp, cf_clr, Rat.mul_comm]
theorem cfq_clear_mul (A B : List Rat) (k : Nat) : cfq (divl (trimz (pmul (clr A) (clr B))) ((cden A * cden B : Nat) : Int)) k = cfq (mulq A B) k := by
  have h1 := natr_ne (cden_ne A)
  have h2 := natr_ne (cden_ne B)
  rw [cfq_divl, cf_trimz, ← cfq_qp, cfq_qp_pmul]
  have e : pq (mulq (qp (clr A)) (qp (clr B))) = PQ.C ((cden A : Rat) * (cden B : Rat)) * pq (mulq A B) := by
    rw [pq_mulq, pq_clr, pq_clr, PQ.C_mul, pq_mulq]
    ac_rfl
  have e2 := congrArg (fun f => PQ.c f k) e
  simp only [PQ.C_mul_c, pq_c] at e2
  rw [e2, Rat.intCast_natCast, Rat.natCast_mul]
  grind
theorem mulq_def (A B : List Rat) : mulq A B = (List.range (A.length + B.length)).map (cvq A (cfq B)) := rfl
theorem QB.mulq {n k M : Nat} {A B : List Rat} (hA : QB n k A) (hB : QB n k B) (hn : n < W) (hM : n * k + k + 1 ≤ M) (hk : 1 ≤ k) : QB (2 * n) (2 * M + 1) (mulq A B) := by
  have pA := hA.clr.mono (n' := n) (k' := M) (Nat.le_refl _) (by omega)
  have pB := hB.clr.mono (n' := n) (k' := M) (Nat.le_refl _) (by omega)
  have pm := (pA.pmul pB hn).trimz
  have c1 := cden_len hA
  have c2 := cden_len hB
  have hw : (wd (cden A * cden B)).length ≤ M + M := wd_len2 (by omega) (by omega)
  have q := QB.divl (pm.mono (n' := n + n) (k' := M + M + 1) (Nat.le_refl _) (by omega)) (Nat.mul_ne_zero (cden_ne A) (cden_ne B)) (by omega)
  refine .of (by simp only [mulq_def, List.length_map, List.length_range]; have := hA.1; have := hB.1; omega) fun i => ?_
  rw [← cfq_clear_mul]
  have := q.cz (by omega) i
  omega
end Go.Proofs.YthbobdhkbgggjaaGreat

namespace Go.Proofs.YthbobdhkbgggjaaGreat
open Go Go.Proofs Go.AL
set_option linter.unusedSimpArgs false
set_option linter.unusedVariables false
end Go.Proofs.YthbobdhkbgggjaaGreat

namespace Go.Proofs.YthbobdhkbgggjaaGreat
open Go Go.Proofs Go.AL
set_option linter.unusedSimpArgs false
set_option linter.unusedVariables false
end Go.Proofs.YthbobdhkbgggjaaGreat
