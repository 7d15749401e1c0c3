/-
  Contracts of the functions that the law reaches.
-/
import Derived.Test.YtenlbifnhdmnnaaGreatL36M
import Derived.Test.YtenlbifnhdmnnaaGreatAbsS
import Derived.Test.YtenlbifnhdmnnaaGreatL54M
import Derived.Test.YtenlbifnhdmnnaaGreatL1M
import Derived.Test.YtenlbifnhdmnnaaGreatL39M
set_option maxHeartbeats 2000000
namespace Go.Proofs.YtenlbifnhdmnnaaGreat
open Go Go.Proofs Go.AL
set_option linter.unusedSimpArgs false
set_option linter.unusedVariables false
abbrev RQ := RI × List Nat
abbrev qrow (r : RQ) : List IV := [.bool r.1.1, .sl (lims r.1.2), .sl (lims r.2)]
def rats (l : List RQ) : List (List IV) := l.map qrow
theorem lay_rat (c : RI) (x : IV) : lay (fun i => [(0, 2), (2, 1)][i]?) [.bool false, .sl [], .sl []] ([0, 1].zip [prow c, [x]]) = some ((2 = 2 ∧ 0 + 2 ≤ 3) ∧ (1 = 1 ∧ 2 + 1 ≤ 3) ∧ True, [.bool c.1, .sl (lims c.2), x]) := rfl
theorem rats_len (l : List RQ) : (rats l).length = l.length := by simp [rats]
def Nt (k : Nat) (l : List Nat) : Prop := l.length ≤ k ∧ Lim l
def SzQ (k : Nat) (r : RQ) : Prop := Sz k r.1 ∧ Nt k r.2
def RawQ (p : List RQ) : Prop := p.length ≤ 9223372036854775807 ∧ ∀ c ∈ p, SzQ 9223372036854775807 c
theorem reads_rat {P : Program} {w : World} {t : TypeId} (h : Reads P w (fun c : (RI × (List Nat × Unit)) => prow c.1 ++ ([.sl (lims c.2.1)] ++ [])) (fun c => Sz 9223372036854775807 c.1 ∧ (Nt 9223372036854775807 c.2.1 ∧ True)) t) : Reads P w qrow (SzQ 9223372036854775807) t := fun enc sp held fuel cs x hx => by
  obtain ⟨a, f, e⟩ := h enc sp held fuel cs x hx
  exact ⟨(a.1, a.2.1), ⟨f.1, f.2.1⟩, e⟩
end Go.Proofs.YtenlbifnhdmnnaaGreat

namespace Go.Proofs.YtenlbifnhdmnnaaGreat
open Go Go.Proofs Go.AL
set_option linter.unusedSimpArgs false
set_option linter.unusedVariables false
def rq (n : Int) (d : Nat) : RQ := (canon (n / (Nat.gcd n.natAbs d : Nat)), wd (d / Nat.gcd n.natAbs d))
theorem gcd_pos_r {n : Int} {d : Nat} (hd : 0 < d) : 0 < Nat.gcd n.natAbs d := Nat.gcd_pos_of_pos_right _ hd
theorem rq_parts {n : Int} {d : Nat} (hd : 0 < d) : ∃ (g : Nat) (a : Int) (b : Nat), 0 < g ∧ 0 < b ∧ n = a * g ∧ d = b * g ∧ Nat.gcd a.natAbs b = 1 ∧ rq n d = (canon a, wd b) := by
  have hg := gcd_pos_r (n := n) hd
  obtain ⟨g, hgd⟩ : ∃ g, g = Nat.gcd n.natAbs d := ⟨_, rfl⟩
  have h1 : g ∣ n.natAbs := by rw [hgd]; exact Nat.gcd_dvd_left _ _
  have h2 : g ∣ d := by rw [hgd]; exact Nat.gcd_dvd_right _ _
  rw [← hgd] at hg
  obtain ⟨b, hb⟩ := h2
  obtain ⟨a, ha⟩ : (g : Int) ∣ n := Int.ofNat_dvd_left.mpr h1
  have hg' : (g : Int) ≠ 0 := by omega
  have hb0 : 0 < b := Nat.pos_of_ne_zero fun e => by rw [e, Nat.mul_zero] at hb; omega
  refine ⟨g, a, b, hg, hb0, by rw [ha, Int.mul_comm], by rw [hb, Nat.mul_comm], ?_, ?_⟩
  · have e : Nat.gcd n.natAbs d = g * Nat.gcd a.natAbs b := by rw [ha, hb, Int.natAbs_mul, Int.natAbs_natCast, Nat.gcd_mul_left]
    rw [← hgd] at e
    exact Nat.eq_of_mul_eq_mul_left hg (by rw [← e, Nat.mul_one])
  · unfold rq
    rw [← hgd]
    rw [ha, hb, Int.mul_ediv_cancel_left _ hg', Nat.mul_div_cancel_left _ hg]
theorem rq_sz {n : Int} {d K L : Nat} (hd : 0 < d) (hn : zl n ≤ K) (hl : (wd d).length ≤ L) : Sz K (rq n d).1 ∧ Nt L (rq n d).2 := by
  obtain ⟨g, a, b, hg, hb, rfl, rfl, hc, e⟩ := rq_parts (n := n) hd
  rw [e]
  refine ⟨⟨?_, lim_wd _⟩, ?_, lim_wd _⟩
  · refine Nat.le_trans ?_ hn
    show zl a ≤ zl (a * g)
    refine zl_le.mpr (Nat.lt_of_le_of_lt ?_ (zl_le.mp (Nat.le_refl (zl (a * g)))))
    rw [Int.natAbs_mul, Int.natAbs_natCast]
    exact Nat.le_mul_of_pos_right _ hg
  · refine Nat.le_trans ?_ hl
    refine wd_len_le.mpr (Nat.lt_of_le_of_lt ?_ (wd_len_le.mp (Nat.le_refl (wd (b * g)).length)))
    exact Nat.le_mul_of_pos_right _ hg
end Go.Proofs.YtenlbifnhdmnnaaGreat

namespace Go.Proofs.YtenlbifnhdmnnaaGreat
open Go Go.Proofs Go.AL
set_option linter.unusedSimpArgs false
set_option linter.unusedVariables false
def qv (r : RQ) : Rat := mkRat (iv r.1) (nv r.2)
def crat (q : Rat) : RQ := (canon q.num, wd q.den)
theorem rq_crat {n : Int} {d : Nat} (hd : d ≠ 0) : rq n d = crat (mkRat n d) := by
  have : mkRat n d = Rat.normalize n d hd := Rat.mkRat_def n d |>.trans (by rw [dif_neg hd])
  rw [this, Rat.normalize_eq hd]
  rfl
theorem qv_crat (q : Rat) : qv (crat q) = q := by
  unfold qv crat
  rw [iv_canon, nv_wd]
  exact Rat.mkRat_self q
theorem den_crat (q : Rat) : nv (crat q).2 ≠ 0 := by
  show nv (wd q.den) ≠ 0
  rw [nv_wd]
  exact q.den_nz
def qz (q : Rat) : Nat := max (zl q.num) (wd q.den).length
theorem sz_crat (q : Rat) : SzQ (qz q) (crat q) := ⟨(sz_canon _).mono (Nat.le_max_left _ _), ⟨Nat.le_max_right _ _, lim_wd _⟩⟩
theorem qz_mk {n : Int} {d k : Nat} (hd : d ≠ 0) (hn : zl n ≤ k) (h : (wd d).length ≤ k) : qz (mkRat n d) ≤ k := by
  have e := rq_crat (n := n) hd
  have s := rq_sz (n := n) (Nat.pos_of_ne_zero hd) hn h
  rw [e] at s
  refine Nat.max_le.2 ⟨?_, s.2.1⟩
  have := zl_iv s.1
  rwa [show iv (crat (mkRat n d)).1 = (mkRat n d).num from iv_canon _] at this
theorem qz_raw {r : RQ} {k : Nat} (h : SzQ k r) (hd : nv r.2 ≠ 0) : qz (qv r) ≤ k :=
  qz_mk hd (zl_iv h.1) (Nat.le_trans (nv_len h.2.2) h.2.1)
theorem wd_mul_len (a b : Nat) : (wd (a * b)).length ≤ (wd a).length + (wd b).length := by
  have := zl_mul (a : Int) (b : Int)
  unfold zl at this
  rwa [Int.natAbs_mul, Int.natAbs_natCast, Int.natAbs_natCast] at this
theorem zl_nat (d : Nat) : zl (d : Int) = (wd d).length := rfl
theorem qz_add (p q : Rat) : qz (p + q) ≤ qz p + qz q + 1 := by
  have e : p + q = mkRat (p.num * q.den + q.num * p.den) (p.den * q.den) := by
    rw [← Rat.mkRat_add_mkRat _ _ p.den_nz q.den_nz, Rat.mkRat_self, Rat.mkRat_self]
  have h1 := Nat.le_max_left (zl p.num) (wd p.den).length
  have h2 := Nat.le_max_right (zl p.num) (wd p.den).length
  have h3 := Nat.le_max_left (zl q.num) (wd q.den).length
  have h4 := Nat.le_max_right (zl q.num) (wd q.den).length
  have m1 := zl_mul p.num (q.den : Int)
  have m2 := zl_mul q.num (p.den : Int)
  have m3 := zl_add (p.num * q.den) (q.num * p.den)
  have m4 := wd_mul_len p.den q.den
  rw [zl_nat] at m1 m2
  rw [e]
  unfold qz
  exact qz_mk (Nat.mul_ne_zero p.den_nz q.den_nz) (by omega) (by omega)
theorem qz_mul (p q : Rat) : qz (p * q) ≤ qz p + qz q := by
  have e : p * q = mkRat (p.num * q.num) (p.den * q.den) := by
    rw [← Rat.mkRat_mul_mkRat, Rat.mkRat_self, Rat.mkRat_self]
  have h1 := Nat.le_max_left (zl p.num) (wd p.den).length
  have h2 := Nat.le_max_right (zl p.num) (wd p.den).length
  have h3 := Nat.le_max_left (zl q.num) (wd q.den).length
  have h4 := Nat.le_max_right (zl q.num) (wd q.den).length
  have m1 := zl_mul p.num q.num
  have m4 := wd_mul_len p.den q.den
  rw [e]
  unfold qz
  exact qz_mk (Nat.mul_ne_zero p.den_nz q.den_nz) (by omega) (by omega)
end Go.Proofs.YtenlbifnhdmnnaaGreat

namespace Go.Proofs.YtenlbifnhdmnnaaGreat
open Go Go.Proofs Go.AL
set_option linter.unusedSimpArgs false
set_option linter.unusedVariables false
def evq : List Rat → Rat → Rat
  | [], _ => 0
  | c :: p, x => c + x * evq p x
theorem qz_zero : qz 0 = 1 := by decide +kernel
theorem qz_one : qz 1 = 1 := by decide +kernel
theorem qz_pow {x : Rat} {X : Nat} (h : qz x ≤ X) (i : Nat) : qz (x ^ i) ≤ i * X + 1 := by
  induction i with
  | zero => rw [Rat.pow_zero, qz_one]; omega
  | succ i ih =>
    rw [Rat.pow_succ]
    have := qz_mul (x ^ i) x
    rw [Nat.succ_mul]
    omega
theorem qz_evq {x : Rat} {K X : Nat} (hx : qz x ≤ X) : ∀ {p : List Rat}, (∀ c ∈ p, qz c ≤ K) → qz (evq p x) ≤ p.length * (K + X + 1) + 1
  | [], _ => by rw [evq, qz_zero]; omega
  | c :: p, h => by
    have ih := qz_evq hx (p := p) fun z hz => h z (List.mem_cons_of_mem _ hz)
    have h1 := qz_add c (x * evq p x)
    have h2 := qz_mul x (evq p x)
    have h3 := h c (by simp)
    rw [evq, List.length_cons, Nat.succ_mul]
    omega
end Go.Proofs.YtenlbifnhdmnnaaGreat

namespace Go.Proofs.YtenlbifnhdmnnaaGreat
open Go Go.Proofs Go.AL
set_option linter.unusedSimpArgs false
set_option linter.unusedVariables false
def tzq : List Rat → Nat
  | [] => 0
  | x :: xs => if tzq xs = 0 then (if x = 0 then 0 else 1) else tzq xs + 1
def trimq (q : List Rat) : List Rat := q.take (tzq q)
def cfq (q : List Rat) (k : Nat) : Rat := q.getD k 0
theorem tzq_le : ∀ q : List Rat, tzq q ≤ q.length
  | [] => Nat.le_refl _
  | x :: xs => by
    have := tzq_le xs
    rw [tzq, List.length_cons]
    split
    · split <;> omega
    · omega
theorem trimq_len (q : List Rat) : (trimq q).length = tzq q := by rw [trimq, List.length_take, Nat.min_eq_left (tzq_le q)]
theorem cfq_ge {q : List Rat} {k : Nat} (h : q.length ≤ k) : cfq q k = 0 := by simp [cfq, List.getD, List.getElem?_eq_none h]
theorem cfq_cons_zero (x : Rat) (xs : List Rat) : cfq (x :: xs) 0 = x := rfl
theorem cfq_cons_succ (x : Rat) (xs : List Rat) (k : Nat) : cfq (x :: xs) (k + 1) = cfq xs k := rfl
theorem cfq_nil (k : Nat) : cfq [] k = 0 := rfl
theorem cfq_lt {q : List Rat} {k : Nat} (h : k < q.length) : cfq q k = q[k] := by simp [cfq, List.getD, h]
theorem tzq_take_zero : ∀ {q : List Rat} {k : Nat}, k < q.length → cfq q k = 0 → tzq (q.take (k + 1)) = tzq (q.take k)
  | [], k, h, _ => by simp at h
  | x :: xs, 0, _, h => by
    have hx : x = 0 := h
    simp [tzq, hx]
  | x :: xs, k + 1, h, h0 => by
    have ih := tzq_take_zero (q := xs) (k := k) (by simpa using h) h0
    rw [List.take_succ_cons, List.take_succ_cons, tzq, tzq, ih]
theorem tzq_full : ∀ {q : List Rat} {k : Nat}, k < q.length → cfq q k ≠ 0 → tzq (q.take (k + 1)) = k + 1
  | [], k, h, _ => by simp at h
  | x :: xs, 0, _, h => by
    have hx : x ≠ 0 := h
    simp [tzq, hx]
  | x :: xs, k + 1, h, h0 => by
    have ih := tzq_full (q := xs) (k := k) (by simpa using h) h0
    rw [List.take_succ_cons, tzq, ih, if_neg (by omega)]
theorem tzq_zero_iff : ∀ {q : List Rat}, tzq q = 0 ↔ ∀ k, cfq q k = 0
  | [] => by simp [tzq, cfq_nil]
  | x :: xs => by
    rw [tzq]
    constructor
    · intro h k
      split at h
      · rename_i h0
        split at h
        · rename_i hx; subst hx
          cases k with
          | zero => rfl
          | succ k => exact tzq_zero_iff.mp h0 k
        · omega
      · omega
    · intro h
      have h0 : tzq xs = 0 := tzq_zero_iff.mpr fun k => h (k + 1)
      have hx : x = 0 := h 0
      rw [if_pos h0, if_pos hx]
theorem trimq_cons (x : Rat) (xs : List Rat) : trimq (x :: xs) = if tzq xs = 0 ∧ x = 0 then [] else x :: trimq xs := by
  unfold trimq; rw [tzq]
  by_cases h : tzq xs = 0
  · by_cases hx : x = 0 <;> simp [h, hx]
  · simp [h]
theorem trimq_ext : ∀ {p q : List Rat}, (∀ k, cfq p k = cfq q k) → trimq p = trimq q
  | [], q, h => by
    have : tzq q = 0 := tzq_zero_iff.mpr fun k => (h k).symm
    simp [trimq, this]
  | x :: xs, [], h => by
    have : tzq (x :: xs) = 0 := tzq_zero_iff.mpr fun k => h k
    simp [trimq, this]
  | x :: xs, y :: ys, h => by
    have hx : x = y := h 0
    have ih := trimq_ext (p := xs) (q := ys) fun k => h (k + 1)
    have ht : tzq xs = 0 ↔ tzq ys = 0 := by
      rw [tzq_zero_iff, tzq_zero_iff]
      exact forall_congr' fun k => by rw [show cfq xs k = cfq ys k from h (k + 1)]
    rw [trimq_cons, trimq_cons, hx, ih]; simp only [ht]
theorem cfq_trimq : ∀ (q : List Rat) (k : Nat), cfq (trimq q) k = cfq q k
  | [], k => by simp [trimq]
  | x :: xs, k => by
    rw [trimq_cons]
    split
    · rename_i h
      cases k with
      | zero => simp [cfq_nil, cfq_cons_zero, h.2]
      | succ k => rw [cfq_cons_succ, cfq_nil]; exact (tzq_zero_iff.mp h.1 k).symm
    · cases k with
      | zero => rfl
      | succ k => rw [cfq_cons_succ, cfq_cons_succ, cfq_trimq xs k]
theorem trimq_trimq (q : List Rat) : trimq (trimq q) = trimq q := trimq_ext (cfq_trimq q)
theorem tzq_eq_of_cf {p q : List Rat} (h : ∀ k, cfq p k = cfq q k) : tzq p = tzq q := by rw [← trimq_len, ← trimq_len, trimq_ext h]
theorem cfq_ge_tz (q : List Rat) {k : Nat} (h : tzq q ≤ k) : cfq q k = 0 := by
  rw [← cfq_trimq]; exact cfq_ge (by rw [trimq_len]; exact h)
def qvs (p : List RQ) : List Rat := p.map qv
def cqs (q : List Rat) : List RQ := (trimq q).map crat
theorem qvs_len (p : List RQ) : (qvs p).length = p.length := by simp [qvs]
theorem qvs_map (q : List Rat) : qvs (q.map crat) = q := by
  simp only [qvs, List.map_map]
  conv => rhs; rw [← List.map_id q]
  exact List.map_congr_left fun z _ => qv_crat z
theorem cqs_ext {p q : List Rat} (h : ∀ k, cfq p k = cfq q k) : cqs p = cqs q := by rw [cqs, cqs, trimq_ext h]
end Go.Proofs.YtenlbifnhdmnnaaGreat

namespace Go.Proofs.YtenlbifnhdmnnaaGreat
open Go Go.Proofs Go.AL
set_option linter.unusedSimpArgs false
set_option linter.unusedVariables false
theorem tzq_spec {q : List Rat} {n : Nat} (h : cfq q n ≠ 0) (h0 : ∀ k, n < k → cfq q k = 0) : tzq q = n + 1 := by
  have hn : n < q.length := by
    rcases Nat.lt_or_ge n q.length with h' | h'
    · exact h'
    · exact (h (cfq_ge h')).elim
  have e : ∀ k, cfq q k = cfq (q.take (n + 1)) k := by
    intro k
    by_cases hk : k < n + 1
    · simp [cfq, List.getD, List.getElem?_take, hk]
    · rw [h0 k (by omega), cfq_ge (by rw [List.length_take]; omega)]
  rw [tzq_eq_of_cf e, tzq_full hn h]
theorem cfq_tzq_pred {q : List Rat} (h : tzq q ≠ 0) : cfq q (tzq q - 1) ≠ 0 := by
  induction q with
  | nil => simp [tzq] at h
  | cons x xs ih =>
    rw [tzq] at h ⊢
    by_cases h0 : tzq xs = 0
    · rw [if_pos h0] at h ⊢
      by_cases hx : x = 0
      · simp [hx] at h
      · rw [if_neg hx]; exact hx
    · rw [if_neg h0]
      have := ih h0
      rw [show tzq xs + 1 - 1 = (tzq xs - 1) + 1 by omega]; exact this
theorem cfq_ge_tzq (q : List Rat) {k : Nat} (h : tzq q ≤ k) : cfq q k = 0 := cfq_ge_tz q h
def addq (p q : List Rat) : List Rat := (List.range (max p.length q.length)).map fun k => cfq p k + cfq q k
theorem cfq_addq (p q : List Rat) (k : Nat) : cfq (addq p q) k = cfq p k + cfq q k := by
  by_cases h : k < max p.length q.length
  · simp only [addq, cfq, List.getD, List.getElem?_map, List.getElem?_range h, Option.map_some, Option.getD_some]
  · rw [cfq_ge (by simp [addq]; omega), cfq_ge (by omega), cfq_ge (by omega)]; grind
def sclq (c : Rat) (p : List Rat) : List Rat := p.map fun x => x * c
theorem cfq_sclq (c : Rat) (p : List Rat) (k : Nat) : cfq (sclq c p) k = cfq p k * c := by
  simp only [sclq, cfq, List.getD, List.getElem?_map]
  cases p[k]? <;> simp <;> grind
def cvq : List Rat → (Nat → Rat) → Nat → Rat
  | [], _, _ => 0
  | x :: xs, g, k => x * g k + match k with | 0 => 0 | k + 1 => cvq xs g k
def mulq (p q : List Rat) : List Rat := (List.range (p.length + q.length)).map (cvq p (cfq q))
theorem cvq_none : ∀ (p : List Rat) (k : Nat), cvq p (cfq []) k = 0
  | [], _ => rfl
  | x :: xs, 0 => by simp [cvq, cfq_nil] <;> grind
  | x :: xs, k + 1 => by simp [cvq, cfq_nil, cvq_none xs k] <;> grind
theorem cvq_congr {g g' : Nat → Rat} : ∀ (p : List Rat) (k : Nat), (∀ j, g j = g' j) → cvq p g k = cvq p g' k
  | [], _, _ => rfl
  | x :: xs, k, h => by
    simp only [cvq, h k]
    cases k with
    | zero => rfl
    | succ k => simp only; rw [cvq_congr xs k h]
theorem cvq_zero {g : Nat → Rat} : ∀ (p : List Rat) {n k : Nat}, (∀ j, n ≤ j → g j = 0) → p.length + n ≤ k + 1 → cvq p g k = 0
  | [], _, _, _, _ => rfl
  | x :: xs, n, k, h, hk => by
    simp only [List.length_cons] at hk
    simp only [cvq, h k (by omega), Rat.mul_zero, Rat.zero_add]
    cases k with
    | zero => rfl
    | succ k => exact cvq_zero xs h (by omega)
theorem cfq_mulq (p q : List Rat) (k : Nat) : cfq (mulq p q) k = cvq p (cfq q) k := by
  by_cases h : k < p.length + q.length
  · simp only [mulq]; rw [cfq, List.getD, List.getElem?_map, List.getElem?_range h]; rfl
  · rw [cfq_ge (by simp [mulq]; omega), cvq_zero p (n := q.length) (fun j hj => cfq_ge hj) (by omega)]
theorem cvq_cfq_congr {p p' : List Rat} {g : Nat → Rat} (h : ∀ j, cfq p j = cfq p' j) : ∀ k, cvq p g k = cvq p' g k := by
  induction p generalizing p' with
  | nil =>
    intro k
    induction p' generalizing k with
    | nil => rfl
    | cons y ys ih =>
      have hy : y = 0 := (h 0).symm
      simp only [cvq, hy, Rat.zero_mul, Rat.zero_add]
      cases k with
      | zero => rfl
      | succ k => exact ih (fun j => h (j + 1)) k
  | cons x xs ih =>
    intro k
    cases p' with
    | nil =>
      have hx : x = 0 := h 0
      simp only [cvq, hx, Rat.zero_mul, Rat.zero_add]
      cases k with
      | zero => rfl
      | succ k => exact ih (p' := []) (fun j => h (j + 1)) k
    | cons y ys =>
      have hx : x = y := h 0
      simp only [cvq, hx]
      cases k with
      | zero => rfl
      | succ k => simp only; rw [ih (p' := ys) (fun j => h (j + 1)) k]
theorem cvq_take_succ {g : Nat → Rat} : ∀ (p : List Rat) (i k : Nat), cvq (p.take (i + 1)) g k = cvq (p.take i) g k + (if i ≤ k then cfq p i * g (k - i) else 0)
  | [], i, k => by simp [cvq, cfq_nil] <;> grind
  | x :: xs, 0, k => by
    simp only [List.take_succ_cons, List.take_zero, cvq, cfq_cons_zero, Nat.sub_zero, Nat.zero_le, if_true]
    cases k <;> simp <;> grind
  | x :: xs, i + 1, k => by
    simp only [List.take_succ_cons, cvq, cfq_cons_succ]
    cases k with
    | zero => simp <;> grind
    | succ k =>
      have := cvq_take_succ (g := g) xs i k
      simp only [List.take_succ_cons] at this ⊢
      rw [this]
      simp only [Nat.add_le_add_iff_right, Nat.add_sub_add_right]
      grind
def qshift (g : Nat → Rat) : Nat → Rat
  | 0 => 0
  | k + 1 => g k
theorem cvq_add (g h : Nat → Rat) : ∀ (p : List Rat) (k : Nat), cvq p (fun j => g j + h j) k = cvq p g k + cvq p h k
  | [], _ => by simp only [cvq]; grind
  | x :: xs, 0 => by simp only [cvq, Rat.mul_add]; grind
  | x :: xs, k + 1 => by simp only [cvq, cvq_add g h xs k, Rat.mul_add]; grind
theorem cvq_smul (c : Rat) (g : Nat → Rat) : ∀ (p : List Rat) (k : Nat), cvq p (fun j => c * g j) k = c * cvq p g k
  | [], _ => by simp [cvq] <;> grind
  | x :: xs, 0 => by simp only [cvq, Rat.add_zero]; grind
  | x :: xs, k + 1 => by simp only [cvq, cvq_smul c g xs k, Rat.mul_add]; grind
theorem cvq_shift (g : Nat → Rat) : ∀ (p : List Rat) (k : Nat), cvq p (qshift g) k = qshift (cvq p g) k
  | [], 0 => rfl
  | [], k + 1 => rfl
  | x :: xs, 0 => by simp [cvq, qshift] <;> grind
  | x :: xs, 1 => by simp [cvq, qshift, cvq_shift g xs 0] <;> grind
  | x :: xs, k + 2 => by simp [cvq, qshift, cvq_shift g xs (k + 1)] <;> grind
theorem cvq_delta (x : Rat) : ∀ (q : List Rat) (k : Nat), cvq q (fun j => if j = 0 then x else 0) k = cfq q k * x
  | [], k => by simp [cvq, cfq_nil] <;> grind
  | y :: ys, 0 => by simp [cvq, cfq_cons_zero] <;> grind
  | y :: ys, k + 1 => by simp [cvq, cfq_cons_succ, cvq_delta x ys k] <;> grind
theorem cfq_cons (x : Rat) (xs : List Rat) (j : Nat) : cfq (x :: xs) j = (if j = 0 then x else 0) + qshift (cfq xs) j := by
  cases j <;> simp [cfq_cons_zero, cfq_cons_succ, qshift] <;> grind
theorem cvq_cons (x : Rat) (xs : List Rat) (g : Nat → Rat) (k : Nat) : cvq (x :: xs) g k = x * g k + qshift (cvq xs g) k := by
  cases k <;> rfl
theorem qshift_congr {g h : Nat → Rat} (e : ∀ j, g j = h j) (k : Nat) : qshift g k = qshift h k := by cases k <;> simp [qshift, e] <;> grind
theorem cvq_comm : ∀ (p q : List Rat) (k : Nat), cvq p (cfq q) k = cvq q (cfq p) k
  | [], q, k => by rw [cvq_none]; rfl
  | x :: xs, q, k => by
    rw [cvq_cons, cvq_congr q k (cfq_cons x xs), cvq_add, cvq_delta, cvq_shift, qshift_congr (fun j => cvq_comm xs q j), Rat.mul_comm]
theorem cfq_mulq_cons (x : Rat) (xs q : List Rat) (j : Nat) : cfq (mulq (x :: xs) q) j = x * cfq q j + qshift (cfq (mulq xs q)) j := by
  rw [cfq_mulq, cvq_cons, qshift_congr (fun j => (cfq_mulq xs q j).symm)]
theorem cvq_assoc : ∀ (p q r : List Rat) (k : Nat), cvq (mulq p q) (cfq r) k = cvq p (cfq (mulq q r)) k
  | [], q, r, k => by
    rw [cvq_cfq_congr (p' := []) (fun j => by rw [cfq_mulq]; rfl)]; rfl
  | x :: xs, q, r, k => by
    rw [cvq_comm (mulq (x :: xs) q) r, cvq_congr r k (cfq_mulq_cons x xs q), cvq_add, cvq_smul, cvq_shift, cvq_cons, cfq_mulq, cvq_comm q r]
    congr 1
    exact qshift_congr (fun j => by rw [cvq_comm, cvq_assoc xs q r j]) k
theorem mulq_comm (p q : List Rat) (k : Nat) : cfq (mulq p q) k = cfq (mulq q p) k := by rw [cfq_mulq, cfq_mulq, cvq_comm]
theorem mulq_congr {p p' q q' : List Rat} (hp : ∀ k, cfq p k = cfq p' k) (hq : ∀ k, cfq q k = cfq q' k) (k : Nat) : cfq (mulq p q) k = cfq (mulq p' q') k := by
  rw [cfq_mulq, cfq_mulq, cvq_cfq_congr hp, cvq_congr _ k hq]
theorem cvq_top {g : Nat → Rat} {n : Nat} (hg : ∀ j, n < j → g j = 0) : ∀ (p : List Rat) (m : Nat), (∀ j, m < j → cfq p j = 0) → cvq p g (m + n) = cfq p m * g n ∧ ∀ k, m + n < k → cvq p g k = 0
  | [], m, _ => ⟨by simp [cvq, cfq_nil], fun _ _ => rfl⟩
  | x :: xs, 0, h => by
    have h0 : ∀ j, cfq xs j = cfq [] j := fun j => h (j + 1) (by omega)
    have hz : ∀ k, qshift (cvq xs g) k = 0 := by
      intro k; cases k with
      | zero => rfl
      | succ k => show cvq xs g k = 0; rw [cvq_cfq_congr h0]; rfl
    refine ⟨?_, fun k hk => ?_⟩
    · rw [cvq_cons, hz, Nat.zero_add, cfq_cons_zero, Rat.add_zero]
    · rw [cvq_cons, hz, hg k (by omega)]; grind
  | x :: xs, m + 1, h => by
    obtain ⟨h1, h2⟩ := cvq_top hg xs m fun j hj => h (j + 1) (by omega)
    refine ⟨?_, fun k hk => ?_⟩
    · rw [cvq_cons, hg _ (by omega), cfq_cons_succ, show m + 1 + n = (m + n) + 1 by omega]
      show x * 0 + cvq xs g (m + n) = _
      rw [h1]; grind
    · cases k with
      | zero => omega
      | succ k =>
        rw [cvq_cons, hg _ (by omega)]
        show x * 0 + cvq xs g k = 0
        rw [h2 k (by omega)]; grind
theorem tzq_mulq {p q : List Rat} (hp : tzq p ≠ 0) (hq : tzq q ≠ 0) : tzq (mulq p q) = tzq p + tzq q - 1 := by
  obtain ⟨h1, h2⟩ := cvq_top (g := cfq q) (n := tzq q - 1) (fun j hj => cfq_ge_tzq q (by omega)) p (tzq p - 1) (fun j hj => cfq_ge_tzq p (by omega))
  have := tzq_spec (q := mulq p q) (n := tzq p - 1 + (tzq q - 1)) (by
    rw [cfq_mulq, h1]
    exact fun h => (Rat.mul_eq_zero.mp h).elim (cfq_tzq_pred hp) (cfq_tzq_pred hq)) (fun k hk => by rw [cfq_mulq]; exact h2 k hk)
  omega
theorem tzq_mulq_zero {p q : List Rat} (h : tzq p = 0 ∨ tzq q = 0) : tzq (mulq p q) = 0 := by
  rw [tzq_zero_iff]
  intro k
  rcases h with h | h
  · rw [cfq_mulq, cvq_cfq_congr (p' := []) (tzq_zero_iff.mp h)]; rfl
  · rw [mulq_comm, cfq_mulq, cvq_cfq_congr (p' := []) (tzq_zero_iff.mp h)]; rfl
def qsum : Nat → (Nat → Rat) → Rat
  | 0, _ => 0
  | n + 1, f => qsum n f + f n
theorem qsum_congr {n : Nat} {f g : Nat → Rat} (h : ∀ i, i < n → f i = g i) : qsum n f = qsum n g := by
  induction n with
  | zero => rfl
  | succ n ih => rw [qsum, qsum, ih (fun i hi => h i (by omega)), h n (by omega)]
theorem qsum_add (n : Nat) (f g : Nat → Rat) : qsum n (fun i => f i + g i) = qsum n f + qsum n g := by
  induction n with
  | zero => simp only [qsum]; grind
  | succ n ih => simp only [qsum, ih]; grind
theorem qsum_mul (n : Nat) (c : Rat) (f : Nat → Rat) : qsum n (fun i => c * f i) = c * qsum n f := by
  induction n with
  | zero => simp [qsum]
  | succ n ih => simp only [qsum, ih, Rat.mul_add]
theorem qsum_zero {n : Nat} {f : Nat → Rat} (h : ∀ i, i < n → f i = 0) : qsum n f = 0 := by
  induction n with
  | zero => rfl
  | succ n ih => rw [qsum, ih (fun i hi => h i (by omega)), h n (by omega)]; grind
theorem qsum_first (n : Nat) (f : Nat → Rat) : qsum (n + 1) f = f 0 + qsum n (fun i => f (i + 1)) := by
  induction n with
  | zero => simp only [qsum]; grind
  | succ n ih => rw [qsum, ih, qsum]; grind
structure PQ where
  c : Nat → Rat
namespace PQ
theorem ext {f g : PQ} (h : ∀ k, f.c k = g.c k) : f = g := by
  cases f; cases g; congr; exact funext h
def conv (f g : Nat → Rat) (k : Nat) : Rat := qsum (k + 1) fun i => f i * g (k - i)
instance : Add PQ := ⟨fun f g => ⟨fun k => f.c k + g.c k⟩⟩
instance : Mul PQ := ⟨fun f g => ⟨conv f.c g.c⟩⟩
instance : Neg PQ := ⟨fun f => ⟨fun k => - f.c k⟩⟩
instance : Sub PQ := ⟨fun f g => ⟨fun k => f.c k - g.c k⟩⟩
instance : Zero PQ := ⟨⟨fun _ => 0⟩⟩
def C (z : Rat) : PQ := ⟨fun k => if k = 0 then z else 0⟩
instance : One PQ := ⟨C 1⟩
def X : PQ := ⟨fun k => if k = 1 then 1 else 0⟩
theorem c_add (f g : PQ) (k : Nat) : (f + g).c k = f.c k + g.c k := rfl
theorem c_sub (f g : PQ) (k : Nat) : (f - g).c k = f.c k - g.c k := rfl
theorem c_neg (f : PQ) (k : Nat) : (-f).c k = -f.c k := rfl
theorem c_zero (k : Nat) : (0 : PQ).c k = 0 := rfl
theorem c_C (z : Rat) (k : Nat) : (C z).c k = if k = 0 then z else 0 := rfl
theorem c_one (k : Nat) : (1 : PQ).c k = if k = 0 then 1 else 0 := rfl
theorem c_mul (f g : PQ) (k : Nat) : (f * g).c k = conv f.c g.c k := rfl
theorem cvq_conv : ∀ (p : List Rat) (g : Nat → Rat) (k : Nat), cvq p g k = conv (cfq p) g k
  | [], g, k => by simp only [cvq, conv]; rw [qsum_zero]; intro i _; rw [cfq_nil, Rat.zero_mul]
  | x :: xs, g, k => by
    rw [cvq_cons, conv, qsum_first]
    simp only [cfq_cons_zero, Nat.sub_zero, cfq_cons_succ]
    congr 1
    cases k with
    | zero => rfl
    | succ k =>
      show cvq xs g k = _
      rw [cvq_conv xs g k, conv]
      exact qsum_congr fun i hi => by congr 2; omega
def cut (n : Nat) (f : Nat → Rat) : List Rat := (List.range n).map f
theorem cfq_cut {n : Nat} {f : Nat → Rat} {i : Nat} (h : i < n) : cfq (cut n f) i = f i := by
  simp [cut, cfq, List.getD, h] <;> grind
theorem conv_congr {f f' g g' : Nat → Rat} {k : Nat} (hf : ∀ i, i ≤ k → f i = f' i) (hg : ∀ i, i ≤ k → g i = g' i) : conv f g k = conv f' g' k :=
  qsum_congr fun i hi => by rw [hf i (by omega), hg (k - i) (by omega)]
theorem conv_cut (f g : Nat → Rat) {n k : Nat} (h : k < n) : conv f g k = cfq (mulq (cut n f) (cut n g)) k := by
  rw [cfq_mulq, cvq_conv]
  exact conv_congr (fun i hi => (cfq_cut (by omega)).symm) (fun i hi => (cfq_cut (by omega)).symm)
theorem mul_comm (f g : PQ) : f * g = g * f := ext fun k => by
  rw [c_mul, c_mul, conv_cut _ _ (Nat.lt_succ_self k), conv_cut _ _ (Nat.lt_succ_self k), mulq_comm]
theorem mul_assoc (f g h : PQ) : f * g * h = f * (g * h) := ext fun k => by
  rw [c_mul, c_mul]
  have e1 : conv (f * g).c h.c k = conv (cfq (mulq (cut (k+1) f.c) (cut (k+1) g.c))) (cfq (cut (k+1) h.c)) k :=
    conv_congr (fun i hi => by rw [c_mul, conv_cut f.c g.c (n := k + 1) (by omega)]) (fun i hi => (cfq_cut (by omega)).symm)
  have e2 : conv f.c (g * h).c k = conv (cfq (cut (k+1) f.c)) (cfq (mulq (cut (k+1) g.c) (cut (k+1) h.c))) k :=
    conv_congr (fun i hi => (cfq_cut (by omega)).symm) (fun i hi => by rw [c_mul, conv_cut g.c h.c (n := k + 1) (by omega)])
  rw [e1, e2, ← cvq_conv, ← cvq_conv, cvq_assoc]
theorem mul_add (f g h : PQ) : f * (g + h) = f * g + f * h := ext fun k => by
  simp only [c_mul, c_add, conv]
  rw [← qsum_add]
  exact qsum_congr fun i _ => Rat.mul_add _ _ _
theorem add_mul (f g h : PQ) : (f + g) * h = f * h + g * h := by rw [mul_comm, mul_add, mul_comm h f, mul_comm h g]
theorem add_comm (f g : PQ) : f + g = g + f := ext fun k => Rat.add_comm _ _
theorem add_assoc (f g h : PQ) : f + g + h = f + (g + h) := ext fun k => Rat.add_assoc _ _ _
theorem zero_add (f : PQ) : 0 + f = f := ext fun k => Rat.zero_add _
theorem add_zero (f : PQ) : f + 0 = f := ext fun k => Rat.add_zero _
theorem C_mul_c (z : Rat) (f : PQ) (k : Nat) : (C z * f).c k = z * f.c k := by
  rw [c_mul, conv, qsum_first, qsum_zero (fun i _ => by rw [c_C, if_neg (by omega), Rat.zero_mul]), Rat.add_zero, c_C, if_pos rfl, Nat.sub_zero]
theorem one_mul (f : PQ) : 1 * f = f := ext fun k => by
  show (C 1 * f).c k = _
  rw [C_mul_c, Rat.one_mul]
theorem mul_one (f : PQ) : f * 1 = f := by rw [mul_comm, one_mul]
theorem zero_mul (f : PQ) : 0 * f = 0 := ext fun k => by
  rw [c_mul, conv, c_zero, qsum_zero]; intro i _; rw [c_zero, Rat.zero_mul]
theorem mul_zero (f : PQ) : f * 0 = 0 := by rw [mul_comm, zero_mul]
theorem add_neg (f : PQ) : f + -f = 0 := ext fun k => by rw [c_add, c_neg, c_zero]; grind
theorem neg_mul (f g : PQ) : -f * g = -(f * g) := ext fun k => by
  rw [c_mul, c_neg, c_mul, conv, conv, show ∀ x : Rat, -x = (-1) * x by grind, ← qsum_mul]
  exact qsum_congr fun i _ => by rw [c_neg]; grind
theorem mul_neg (f g : PQ) : f * -g = -(f * g) := by rw [mul_comm, neg_mul, mul_comm]
theorem neg_neg (f : PQ) : - -f = f := ext fun k => Rat.neg_neg _
theorem neg_one_C (f : PQ) : C (-1) * f = -f := ext fun k => by rw [C_mul_c, c_neg]; grind
theorem C_mul (a b : Rat) : C (a * b) = C a * C b := ext fun k => by
  rw [C_mul_c, c_C, c_C]; split <;> simp
theorem C_zero : C 0 = 0 := ext fun k => by rw [c_C, c_zero]; split <;> rfl
theorem C_one : C 1 = 1 := rfl
instance : Std.Associative (α := PQ) (· * ·) := ⟨mul_assoc⟩
instance : Std.Commutative (α := PQ) (· * ·) := ⟨mul_comm⟩
instance : Std.Associative (α := PQ) (· + ·) := ⟨add_assoc⟩
instance : Std.Commutative (α := PQ) (· + ·) := ⟨add_comm⟩
def pw (f : PQ) : Nat → PQ
  | 0 => 1
  | n + 1 => pw f n * f
theorem pw_add (f : PQ) (m n : Nat) : pw f (m + n) = pw f m * pw f n := by
  induction n with
  | zero => rw [Nat.add_zero, pw, mul_one]
  | succ n ih => rw [← Nat.add_assoc, pw, ih, pw, mul_assoc]
theorem pw_one (f : PQ) : pw f 1 = f := by rw [pw, pw, one_mul]
def D (f : PQ) : PQ := ⟨fun k => f.c (k + 1) * ((k + 1 : Nat) : Rat)⟩
end PQ
def pq (q : List Rat) : PQ := ⟨cfq q⟩
theorem pq_c (q : List Rat) (k : Nat) : (pq q).c k = cfq q k := rfl
theorem pq_addq (p q : List Rat) : pq (addq p q) = pq p + pq q := PQ.ext fun k => cfq_addq p q k
theorem pq_mulq (p q : List Rat) : pq (mulq p q) = pq p * pq q := PQ.ext fun k => by rw [pq_c, cfq_mulq, PQ.cvq_conv]; rfl
theorem pq_sclq (c : Rat) (p : List Rat) : pq (sclq c p) = PQ.C c * pq p := PQ.ext fun k => by rw [PQ.C_mul_c, pq_c, pq_c, cfq_sclq, Rat.mul_comm]
theorem pq_trimq (p : List Rat) : pq (trimq p) = pq p := PQ.ext (cfq_trimq p)
theorem pq_nil : pq [] = 0 := PQ.ext fun k => cfq_nil k
theorem pq_one : pq [1] = 1 := PQ.ext fun k => by
  rw [PQ.c_one, pq_c]
  cases k with
  | zero => rfl
  | succ k => rw [cfq_cons_succ, cfq_nil, if_neg (by omega)]
def powq (p : List Rat) : Nat → List Rat
  | 0 => [1]
  | n + 1 => mulq p (powq p n)
end Go.Proofs.YtenlbifnhdmnnaaGreat

namespace Go.Proofs.YtenlbifnhdmnnaaGreat
open Go Go.Proofs Go.AL
set_option linter.unusedSimpArgs false
set_option linter.unusedVariables false
abbrev cqq (r : RQ) : CV := .agg (qrow r)
abbrev cqz (q : Rat) : CV := cqq (crat q)
abbrev cqw (l : List RQ) : CV := .iv (.sl (rats l))
abbrev cqp (q : List Rat) : CV := cqw (cqs q)
abbrev q0 : RQ := ((false, []), [])
theorem rats_get {l : List RQ} {i : Nat} (h : i < l.length) : (rats l).getD i [] = qrow (l.getD i q0) := by simp [rats, List.getD, h]
theorem rats_rows (p : List RQ) : (∀ r ∈ rats p, r.length = 3) ↔ True := by
  simp only [iff_true]
  intro r hr
  obtain ⟨c, _, rfl⟩ := List.mem_map.1 hr
  rfl
theorem rats_snoc (p : List RQ) (c : RQ) : rats p ++ [qrow c] = rats (p ++ [c]) := by simp [rats]
theorem rats_nil : rats [] = [] := rfl
theorem rats_set (p : List RQ) (i : Nat) (c : RQ) : (rats p).set i (qrow c) = rats (p.set i c) := by simp [rats, List.map_set]
theorem rats_take (p : List RQ) (k : Nat) : (rats p).take k = rats (p.take k) := by simp [rats, List.map_take]
theorem rats_rep (n : Nat) : List.replicate n [IV.bool false, IV.sl [], IV.sl []] = rats (List.replicate n q0) := by rw [rats, List.map_replicate]; rfl
theorem qrow_take (r : RQ) : List.take 3 (qrow r) = qrow r := rfl
theorem qrow_drop2 (r : RQ) : List.drop 2 (qrow r) = [.sl (lims r.2)] := rfl
theorem qrow_drop1 (r : RQ) : List.drop 1 (qrow r) = [.sl (lims r.1.2), .sl (lims r.2)] := rfl
theorem qrow_take2 (r : RQ) : List.take 2 (qrow r) = prow r.1 := rfl
theorem qrow_spl0 (r : RQ) (c : RI) : splice (qrow r) 0 (prow c) = qrow (c, r.2) := rfl
theorem qrow_len (r : RQ) : (qrow r).length = 3 := rfl
theorem qrow_splice (x y z : IV) (r : RQ) : splice [x, y, z] 0 (qrow r) = qrow r := rfl
theorem qrow_row (r : RQ) : [IV.bool r.1.1, IV.sl (lims r.1.2), IV.sl (lims r.2)] = qrow r := rfl
theorem rqs : (∀ l : List RQ, (rats l).length = l.length) ∧ (∀ {l : List RQ} {i : Nat}, i < l.length → (rats l).getD i [] = qrow (l.getD i q0)) ∧
    (∀ (c : RI) (x : IV), lay (fun i => [(0, 2), (2, 1)][i]?) [.bool false, .sl [], .sl []] ([0, 1].zip [prow c, [x]]) = some ((2 = 2 ∧ 0 + 2 ≤ 3) ∧ (1 = 1 ∧ 2 + 1 ≤ 3) ∧ True, [.bool c.1, .sl (lims c.2), x])) ∧
    (∀ r : RQ, List.take 3 (qrow r) = qrow r) ∧ (∀ r : RQ, (qrow r).length = 3) ∧ (∀ (x y z : IV) (r : RQ), splice [x, y, z] 0 (qrow r) = qrow r) ∧ (∀ r : RQ, [IV.bool r.1.1, IV.sl (lims r.1.2), IV.sl (lims r.2)] = qrow r) ∧
    (∀ p : List RQ, (∀ r ∈ rats p, r.length = 3) ↔ True) ∧ (∀ (p : List RQ) (c : RQ), rats p ++ [qrow c] = rats (p ++ [c])) ∧ (∀ (p : List RQ) (i : Nat) (c : RQ), (rats p).set i (qrow c) = rats (p.set i c)) ∧
    (∀ (p : List RQ) (k : Nat), (rats p).take k = rats (p.take k)) ∧ (∀ n : Nat, List.replicate n [IV.bool false, IV.sl [], IV.sl []] = rats (List.replicate n q0)) ∧ (rats [] = []) ∧
    (∀ r : RQ, List.drop 2 (qrow r) = [.sl (lims r.2)]) ∧ (∀ r : RQ, List.take 2 (qrow r) = prow r.1) ∧ (∀ r : RQ, List.drop 1 (qrow r) = [.sl (lims r.1.2), .sl (lims r.2)]) ∧ (∀ (r : RQ) (c : RI), splice (qrow r) 0 (prow c) = qrow (c, r.2)) :=
  ⟨rats_len, rats_get, lay_rat, qrow_take, qrow_len, qrow_splice, qrow_row, rats_rows, rats_snoc, rats_set, rats_take, rats_rep, rats_nil, qrow_drop2, qrow_take2, qrow_drop1, qrow_spl0⟩
theorem pow64 (m : Nat) : W ^ m = 2 ^ (64 * m) := by rw [Nat.pow_mul]
theorem bl_top {l : List Nat} (h : Lim l) {m : Nat} (h0 : topN l = m + 1) : l.getD m 0 < W ∧ m * 64 + bl (l.getD m 0) = bl (nv l) := by
  have e : (wd (nv l)).length = m + 1 := by rw [wd_nv h, List.length_take, Nat.min_eq_left (topN_le l), h0]
  have h1 : nv l < W ^ (m + 1) := wd_len_le.mp (by omega)
  have h2 : W ^ m ≤ nv l := Nat.le_of_not_lt fun h3 => by have := wd_len_le.mpr h3; omega
  have h4 : nv l / W ^ m < W := by rw [Nat.div_lt_iff_lt_mul (W_pow_pos m), Nat.mul_comm, ← Nat.pow_succ]; exact h1
  have h5 := word_at h m
  rw [Nat.mod_eq_of_lt h4] at h5
  refine ⟨by rw [h5]; exact h4, ?_⟩
  rw [h5, pow64] at *
  rw [bl_shift h2]
  omega
theorem lbits_ok (l : List Nat) (h : Lim l) (hl : l.length ≤ 2 ^ 42) : AC Tryz.prog 150 [cl l] none [ci (bl (nv l))] := by
  refine AC.by_walk (rs := [.tmp 2]) ords Tryz.func150 (by rfl) (by rfl) (by rfl) (by rfl) (by rfl) ?_
  simp (disch := omega) only [wk, tis, seval, reduceCtorEq, Nat.reduceEqDiff, rqs]
  refine call_by ((top_ok l (by omega))) (by rfl) (by simp) ?_
  simp (disch := omega) only [wk, tis, seval, reduceCtorEq, Nat.reduceEqDiff, rqs]
  have ht := topN_le l
  refine if_by (fun h1 => ?_) (fun h1 => ?_)
  · have h2 : topN l = 0 := by omega
    simp (disch := omega) only [wk, tis, seval, reduceCtorEq, Nat.reduceEqDiff, rqs]
    rw [show nv l = 0 from (vl_zero_top two_le_W l).mpr h2]
    rfl
  · obtain ⟨m, hm⟩ : ∃ m, topN l = m + 1 := ⟨topN l - 1, by omega⟩
    obtain ⟨h3, h4⟩ := bl_top h hm
    have e : ((m + 1 : Nat) : Int) - 1 = (m : Int) := by omega
    rw [hm]
    have hb : bl (l.getD m 0) ≤ 64 := bl_le.mpr h3
    simp (disch := omega) only [wk, tis, seval, reduceCtorEq, Nat.reduceEqDiff, rqs, e]
    refine call_by ((len64_ok (l.getD m 0) h3)) (by first | rfl | (simp only [tocvs, tocv, e]; rfl) | (simp only [tocvs, tocv, toboxes, tobox, updH_at, Nat.reduceEqDiff, ↓reduceIte, e]; rfl)) (by simp) ?_
    simp (disch := omega) only [wk, tis, seval, reduceCtorEq, Nat.reduceEqDiff, rqs, e]
    rw [← h4]
    push_cast
    rfl
theorem nbits_ok (l : List Nat) (h : Lim l) (hl : l.length ≤ 2 ^ 42) : AC Tryz.prog 125 [cl l] none [ci (bl (nv l))] := by
  refine AC.by_walk (rs := [.tmp 2]) ords Tryz.func125 (by rfl) (by rfl) (by rfl) (by rfl) (by rfl) ?_
  simp (disch := omega) only [wk, tis, seval, reduceCtorEq, Nat.reduceEqDiff, rqs]
  refine call_by ((lbits_ok l h hl)) (by rfl) (by simp) ?_
  simp (disch := omega) only [wk, tis, seval, reduceCtorEq, Nat.reduceEqDiff, rqs]
theorem bl_zero {n : Nat} : bl n = 0 ↔ n = 0 := by unfold bl; split <;> simp_all
theorem qcheck_ok (r : RQ) (h : Nt (2 ^ 42) r.2) : AC Tryz.prog 83 [cqq r] none [ci (if nv r.2 = 0 then 1 else 0)] := by
  refine AC.by_walk (rs := [.tmp 2]) ords Tryz.func83 (by rfl) (by rfl) (by rfl) (by rfl) (by rfl) ?_
  simp (disch := omega) only [wk, tis, seval, reduceCtorEq, Nat.reduceEqDiff, rqs]
  refine call_by ((nbits_ok r.2 h.2 h.1)) (by rfl) (by simp) ?_
  simp (disch := omega) only [wk, tis, seval, reduceCtorEq, Nat.reduceEqDiff, rqs]
  refine if_by (fun h1 => ?_) (fun h1 => ?_)
  · rw [if_pos (bl_zero.mp (by omega))]
    simp (disch := omega) only [wk, tis, seval, reduceCtorEq, Nat.reduceEqDiff, rqs]
  · rw [if_neg (fun h2 => h1 (by rw [bl_zero.mpr h2]; rfl))]
    simp (disch := omega) only [wk, tis, seval, reduceCtorEq, Nat.reduceEqDiff, rqs]
theorem qcheck_good (r : RQ) (h : Nt (2 ^ 42) r.2) (h0 : nv r.2 ≠ 0) : AC Tryz.prog 83 [cqq r] none [ci 0] := by
  have := qcheck_ok r h; rwa [if_neg h0] at this
theorem qcheck_bad (r : RQ) (h : Nt (2 ^ 42) r.2) (h0 : nv r.2 = 0) : AC Tryz.prog 83 [cqq r] none [ci 1] := by
  have := qcheck_ok r h; rwa [if_pos h0] at this
theorem qchecks_gen (l : List RQ) (e : Int) (hl : l.length ≤ 2 ^ 40) (h : ∀ r ∈ l, Nt (2 ^ 42) r.2) (hg : (∀ r ∈ l, nv r.2 ≠ 0) → e = 0) (hb : (¬ ∀ r ∈ l, nv r.2 ≠ 0) → e = 1) : AC Tryz.prog 120 [cqw l] none [ci e] := by
  refine AC.by_walk (rs := [.tmp 2]) ords Tryz.func120 (by rfl) (by rfl) (by rfl) (by rfl) (by rfl) ?_
  simp (disch := omega) only [wk, tis, seval, reduceCtorEq, Nat.reduceEqDiff, rqs]
  refine aloop_by (fun f H => ∃ (i : Nat), i ≤ l.length ∧ (∀ j, j < i → nv (l.getD j q0).2 ≠ 0) ∧ f 8 = .iv (.int .i64 i) ∧ f 6 = .iv (.sl (rats l)) ∧ f 7 = .iv (.int .i64 l.length)) (fun f H => (l.length - intAt f 8).toNat) ?_ ?_
  · refine ⟨0, by omega, fun j hj => by omega, ?_⟩
    simp (disch := omega) only [wk, tis, seval, reduceCtorEq, Nat.reduceEqDiff, rqs]
  rintro f H ⟨i, hi, hz, hF⟩
  rw [intAt_of hF.1]
  simp (disch := omega) only [wk, tis, seval, reduceCtorEq, Nat.reduceEqDiff, rqs, hF]
  refine if_by (fun hlt => ?_) (fun hlt => ?_)
  · have hlt' : i < l.length := by omega
    have hmem : l.getD i q0 ∈ l := by rw [List.getD, List.getElem?_eq_getElem hlt', Option.getD_some]; exact List.getElem_mem hlt'
    simp (disch := omega) only [wk, tis, seval, reduceCtorEq, Nat.reduceEqDiff, rqs, hF]
    by_cases h0 : nv (l.getD i q0).2 = 0
    · obtain rfl := hb (fun h1 => h1 _ hmem h0)
      refine call_by ((qcheck_bad (l.getD i q0) (h _ hmem) h0)) (by first | rfl | (simp only [tocvs, tocv, hF]; rfl) | (simp only [tocvs, tocv, toboxes, tobox, updH_at, Nat.reduceEqDiff, ↓reduceIte, hF]; rfl)) (by simp) ?_
      simp (disch := omega) only [wk, tis, seval, reduceCtorEq, Nat.reduceEqDiff, rqs, hF]
    · have h0' := h0
      refine call_by ((qcheck_good (l.getD i q0) (h _ hmem) h0)) (by first | rfl | (simp only [tocvs, tocv, hF]; rfl) | (simp only [tocvs, tocv, toboxes, tobox, updH_at, Nat.reduceEqDiff, ↓reduceIte, hF]; rfl)) (by simp) ?_
      simp (disch := omega) only [wk, tis, seval, reduceCtorEq, Nat.reduceEqDiff, rqs, hF]
      refine ⟨⟨i + 1, by omega, fun j hj => ?_, by omega⟩, by omega⟩
      rcases Nat.lt_or_ge j i with hj' | hj'
      · exact hz j hj'
      · obtain rfl : j = i := by omega
        exact h0
  · obtain rfl := hg (fun r hr => by
      obtain ⟨j, hj, rfl⟩ := List.getElem_of_mem hr
      have := hz j (by omega)
      rwa [List.getD, List.getElem?_eq_getElem hj, Option.getD_some] at this)
    simp (disch := omega) only [wk, tis, seval, reduceCtorEq, Nat.reduceEqDiff, rqs, hF]
theorem sg_over (n : Int) (g : Nat) (h : (g : Int) ∣ n) (hg : g ≠ 0) : sg (decide (n < 0)) (n.natAbs / g) = n / g := by
  obtain ⟨k, rfl⟩ := h
  have hg' : (g : Int) ≠ 0 := by omega
  have hp : (0 : Int) < g := by omega
  rw [Int.mul_ediv_cancel_left _ hg', Int.natAbs_mul, Int.natAbs_natCast, Nat.mul_div_cancel_left _ (by omega)]
  unfold sg
  by_cases hk : k < 0
  · rw [decide_eq_true (Int.mul_neg_of_pos_of_neg hp hk), if_pos rfl]; omega
  · rw [decide_eq_false (by have := Int.mul_nonneg (a := (g : Int)) (b := k) (by omega) (by omega); omega), if_neg (by decide)]; omega
theorem qred_ok (n : RI) (d : List Nat) (hn : Sz (2 ^ 38) n) (hd : Nt (2 ^ 38) d) (h0 : nv d ≠ 0) : AC Tryz.prog 111 [cr n, cl d] none [cqz (mkRat (iv n) (nv d))] := by
  rw [show cqz (mkRat (iv n) (nv d)) = cqq (rq (iv n) (nv d)) by rw [rq_crat h0]]
  have zn := zl_iv hn
  have hgp : 0 < Nat.gcd (iv n).natAbs (nv d) := Nat.gcd_pos_of_pos_right _ (by omega)
  have hgd : (wd (Nat.gcd (iv n).natAbs (nv d))).length ≤ 2 ^ 38 := Nat.le_trans (wd_len_mono (Nat.gcd_le_right _ (by omega))) (Nat.le_trans (nv_len hd.2) hd.1)
  have h1 : ((Nat.gcd (iv n).natAbs (nv d) : Nat) : Int) ∣ iv n := Int.ofNat_dvd_left.mpr (Nat.gcd_dvd_left _ _)
  have g := gcd_ok (wd (iv n).natAbs) d (lim_wd _) hd.2 zn hd.1
  rw [nv_wd] at g
  have e1 := dexact_ok (wd (iv n).natAbs) (wd (Nat.gcd (iv n).natAbs (nv d))) (lim_wd _) (lim_wd _) zn hgd (by rw [nv_wd]; omega)
  rw [nv_wd, nv_wd, if_pos (Nat.mod_eq_zero_of_dvd (Nat.gcd_dvd_left _ _)), if_pos (Nat.mod_eq_zero_of_dvd (Nat.gcd_dvd_left _ _))] at e1
  have e2 := dexact_ok d (wd (Nat.gcd (iv n).natAbs (nv d))) hd.2 (lim_wd _) hd.1 hgd (by rw [nv_wd]; omega)
  rw [nv_wd, if_pos (Nat.mod_eq_zero_of_dvd (Nat.gcd_dvd_right _ _)), if_pos (Nat.mod_eq_zero_of_dvd (Nat.gcd_dvd_right _ _))] at e2
  have e3 := znat_ok (decide (iv n < 0)) ((iv n).natAbs / Nat.gcd (iv n).natAbs (nv d)) (Nat.le_trans (wd_len_mono (Nat.div_le_self _ _)) (Nat.le_trans zn (by omega)))
  rw [sg_over _ _ h1 (by omega)] at e3
  refine AC.by_walk (rs := [.cell 4 46]) ords Tryz.func111 (by rfl) (by rfl) (by rfl) (by rfl) (by rfl) ?_
  simp (disch := omega) only [wk, tis, seval, reduceCtorEq, Nat.reduceEqDiff, rqs]
  refine call_by ((znorm_ok n (hn.mono (by omega)))) (by rfl) (by simp) ?_
  simp (disch := omega) only [wk, tis, seval, reduceCtorEq, Nat.reduceEqDiff, rqs]
  refine call_by (g) (by rfl) (by simp) ?_
  simp (disch := omega) only [wk, tis, seval, reduceCtorEq, Nat.reduceEqDiff, rqs]
  refine call_by (e1) (by rfl) (by simp) ?_
  simp (disch := omega) only [wk, tis, seval, reduceCtorEq, Nat.reduceEqDiff, rqs]
  refine call_by (e2) (by rfl) (by simp) ?_
  simp (disch := omega) only [wk, tis, seval, reduceCtorEq, Nat.reduceEqDiff, rqs]
  refine call_by (e3) (by rfl) (by simp) ?_
  simp (disch := omega) only [wk, tis, seval, reduceCtorEq, Nat.reduceEqDiff, rqs]
  rfl
theorem rR_ok (n : RI) (d : List Nat) (hn : Sz (2 ^ 38) n) (hd : Nt (2 ^ 38) d) (h0 : nv d ≠ 0) : AC Tryz.prog 28 [cr n, cl d] none [cqz (mkRat (iv n) (nv d))] := by
  rw [show cqz (mkRat (iv n) (nv d)) = cqq (rq (iv n) (nv d)) by rw [rq_crat h0]]
  have zn := zl_iv hn
  have hgp : 0 < Nat.gcd (iv n).natAbs (nv d) := Nat.gcd_pos_of_pos_right _ (by omega)
  have hgd : (wd (Nat.gcd (iv n).natAbs (nv d))).length ≤ 2 ^ 38 := Nat.le_trans (wd_len_mono (Nat.gcd_le_right _ (by omega))) (Nat.le_trans (nv_len hd.2) hd.1)
  have h1 : ((Nat.gcd (iv n).natAbs (nv d) : Nat) : Int) ∣ iv n := Int.ofNat_dvd_left.mpr (Nat.gcd_dvd_left _ _)
  have i1 := rI_ok n.1 n.2 hn.2 (Nat.le_trans hn.1 (by omega))
  rw [← iv_sg] at i1
  have g := rGcd_ok (wd (iv n).natAbs) d (lim_wd _) hd.2 zn hd.1
  rw [nv_wd] at g
  have e1 := rQuo_ok (wd (iv n).natAbs) (wd (Nat.gcd (iv n).natAbs (nv d))) (lim_wd _) (lim_wd _) zn hgd (by rw [nv_wd]; omega)
  rw [nv_wd, nv_wd] at e1
  have e2 := rQuo_ok d (wd (Nat.gcd (iv n).natAbs (nv d))) hd.2 (lim_wd _) hd.1 hgd (by rw [nv_wd]; omega)
  rw [nv_wd] at e2
  have e3 := rI_ok (decide (iv n < 0)) (wd ((iv n).natAbs / Nat.gcd (iv n).natAbs (nv d))) (lim_wd _) (Nat.le_trans (wd_len_mono (Nat.div_le_self _ _)) (Nat.le_trans zn (by omega)))
  rw [nv_wd, sg_over _ _ h1 (by omega)] at e3
  refine AC.by_walk (rs := [.cell 4 46]) ords Tryz.func28 (by rfl) (by rfl) (by rfl) (by rfl) (by rfl) ?_
  simp (disch := omega) only [wk, tis, seval, reduceCtorEq, Nat.reduceEqDiff, rqs]
  refine call_by (i1) (by rfl) (by simp) ?_
  simp (disch := omega) only [wk, tis, seval, reduceCtorEq, Nat.reduceEqDiff, rqs]
  refine call_by (g) (by rfl) (by simp) ?_
  simp (disch := omega) only [wk, tis, seval, reduceCtorEq, Nat.reduceEqDiff, rqs]
  refine call_by (e1) (by rfl) (by simp) ?_
  simp (disch := omega) only [wk, tis, seval, reduceCtorEq, Nat.reduceEqDiff, rqs]
  refine call_by (e2) (by rfl) (by simp) ?_
  simp (disch := omega) only [wk, tis, seval, reduceCtorEq, Nat.reduceEqDiff, rqs]
  refine call_by (e3) (by rfl) (by simp) ?_
  simp (disch := omega) only [wk, tis, seval, reduceCtorEq, Nat.reduceEqDiff, rqs]
  rfl
end Go.Proofs.YtenlbifnhdmnnaaGreat

namespace Go.Proofs.YtenlbifnhdmnnaaGreat
open Go Go.Proofs Go.AL
set_option linter.unusedSimpArgs false
set_option linter.unusedVariables false
theorem qv_eq (r : RQ) : qv r = (iv r.1 : Rat) / (nv r.2 : Rat) := Rat.mkRat_eq_div _ _
theorem mk_add {r s : RQ} (hr : nv r.2 ≠ 0) (hs : nv s.2 ≠ 0) : mkRat (iv r.1 * nv s.2 + iv s.1 * nv r.2) (nv r.2 * nv s.2) = qv r + qv s := (Rat.mkRat_add_mkRat _ _ hr hs).symm
theorem mk_mul (r s : RQ) : mkRat (iv r.1 * iv s.1) (nv r.2 * nv s.2) = qv r * qv s := (Rat.mkRat_mul_mkRat _ _ _ _).symm
theorem crat_int (n : Int) : crat (n : Rat) = (canon n, [1]) := by
  unfold crat
  rw [Rat.num_intCast, Rat.den_intCast]
  have : wd 1 = [1] := by decide +kernel
  rw [this]
theorem iv_crat (q : Rat) : iv (crat q).1 = q.num := iv_canon _
theorem nv_crat0 (q : Rat) : nv (crat q).2 ≠ 0 := den_crat q
theorem SzQ.mono {j k : Nat} {r : RQ} (h : SzQ j r) (hk : j ≤ k) : SzQ k r := ⟨h.1.mono hk, Nat.le_trans h.2.1 hk, h.2.2⟩
theorem szq_crat {q : Rat} {k : Nat} (h : qz q ≤ k) : SzQ k (crat q) := (sz_crat q).mono h
theorem znatl_ok (s : Bool) (l : List Nat) (h : Lim l) (hl : l.length ≤ 2 ^ 40) : AC Tryz.prog 72 [cb s, cl l] none [cz (sg s (nv l))] := by
  refine AC.by_walk (rs := [.cell 4 44]) ords Tryz.func72 (by rfl) (by rfl) (by rfl) (by rfl) (by rfl) ?_
  simp (disch := omega) only [wk, tis, seval, reduceCtorEq, Nat.reduceEqDiff, rqs]
  have m := znorm_ok (s, l) ⟨hl, h⟩
  rw [iv_sg] at m
  refine call_by (m) (by rfl) (by simp) ?_
  simp (disch := omega) only [wk, tis, seval, reduceCtorEq, Nat.reduceEqDiff, rqs]
theorem nt_zl {l : List Nat} {k : Nat} (h : Nt k l) : zl ((nv l : Nat) : Int) ≤ k := Nat.le_trans (nv_len h.2) h.1
theorem sgf (n : Nat) : sg false n = (n : Int) := rfl
theorem qtimes_ok (a : RI) (d : List Nat) (ha : Sz (2 ^ 36) a) (hd : Nt (2 ^ 36) d) : AC Tryz.prog 122 [cr a, cl d] none [cz (iv a * nv d)] := by
  have m := znatl_ok false d hd.2 (Nat.le_trans hd.1 (by omega))
  rw [sgf] at m
  have n := zmul_ok a (canon (nv d)) ha ((sz_canon _).mono (nt_zl hd))
  rw [iv_canon] at n
  refine AC.by_walk (rs := [.cell 4 44]) ords Tryz.func122 (by rfl) (by rfl) (by rfl) (by rfl) (by rfl) ?_
  simp (disch := omega) only [wk, tis, seval, reduceCtorEq, Nat.reduceEqDiff, rqs]
  refine ⟨tmps_by (by kernel_rfl), ?_⟩
  refine call_by (m) (by rfl) (by simp) ?_
  simp (disch := omega) only [wk, tis, seval, reduceCtorEq, Nat.reduceEqDiff, rqs]
  refine call_by (n) (by rfl) (by simp) ?_
  simp (disch := omega) only [wk, tis, seval, reduceCtorEq, Nat.reduceEqDiff, rqs]
  first | exact log_by (by kernel_rfl) | refine ⟨log_by (by kernel_rfl), ?_⟩
  try rfl
theorem qchecks_two (a b : RQ) (ha : SzQ (2 ^ 36) a) (hb : SzQ (2 ^ 36) b) (h0 : nv a.2 ≠ 0) (h1 : nv b.2 ≠ 0) : AC Tryz.prog 120 [cqw [a, b]] none [ci 0] :=
  qchecks_gen [a, b] 0 (by simp) (fun r hr => by
    simp only [List.mem_cons, List.not_mem_nil, or_false] at hr
    rcases hr with rfl | rfl
    · exact ⟨Nat.le_trans ha.2.1 (by omega), ha.2.2⟩
    · exact ⟨Nat.le_trans hb.2.1 (by omega), hb.2.2⟩) (fun _ => rfl) (fun h => (h fun r hr => by
      simp only [List.mem_cons, List.not_mem_nil, or_false] at hr
      rcases hr with rfl | rfl
      · exact h0
      · exact h1).elim)
theorem rats_two (a b : RQ) : [qrow a, qrow b] = rats [a, b] := rfl
theorem wd_len2 {a b : Nat} {j k : Nat} (ha : (wd a).length ≤ j) (hb : (wd b).length ≤ k) : (wd (a * b)).length ≤ j + k := Nat.le_trans (AL.wd_mul_len a b) (Nat.add_le_add ha hb)
theorem qadd_ok (a b : RQ) (ha : SzQ (2 ^ 35) a) (hb : SzQ (2 ^ 35) b) (h0 : nv a.2 ≠ 0) (h1 : nv b.2 ≠ 0) : AC Tryz.prog 124 [cqq a, cqq b] none [cqz (qv a + qv b), ci 0] := by
  have c := qchecks_two a b (ha.mono (by omega)) (hb.mono (by omega)) h0 h1
  have t1 := qtimes_ok a.1 b.2 (ha.1.mono (by omega)) ⟨Nat.le_trans hb.2.1 (by omega), hb.2.2⟩
  have t2 := qtimes_ok b.1 a.2 (hb.1.mono (by omega)) ⟨Nat.le_trans ha.2.1 (by omega), ha.2.2⟩
  have z1 := zl_mul (iv a.1) (nv b.2 : Nat)
  have z2 := zl_mul (iv b.1) (nv a.2 : Nat)
  have y1 := zl_iv ha.1
  have y2 := zl_iv hb.1
  have y3 := nt_zl ha.2
  have y4 := nt_zl hb.2
  have z3 := zl_add (iv a.1 * (nv b.2 : Nat)) (iv b.1 * (nv a.2 : Nat))
  have s := zadd_ok (canon (iv a.1 * (nv b.2 : Nat))) (canon (iv b.1 * (nv a.2 : Nat))) ((sz_canon _).mono (by omega)) ((sz_canon _).mono (by omega))
  rw [iv_canon, iv_canon] at s
  have m := mmul_ok a.2 b.2 ha.2.2 hb.2.2 (Nat.le_trans ha.2.1 (by omega)) (Nat.le_trans hb.2.1 (by omega))
  have hw : (wd (nv a.2 * nv b.2)).length ≤ 2 ^ 35 + 2 ^ 35 := wd_len2 y3 y4
  have r := qred_ok (canon (iv a.1 * (nv b.2 : Nat) + iv b.1 * (nv a.2 : Nat))) (wd (nv a.2 * nv b.2)) ((sz_canon _).mono (by omega)) ⟨by omega, lim_wd _⟩ (by rw [nv_wd]; exact Nat.mul_ne_zero h0 h1)
  rw [iv_canon, nv_wd, mk_add h0 h1] at r
  refine AC.by_walk (rs := [.cell 4 46, .tmp 5]) ords Tryz.func124 (by rfl) (by rfl) (by rfl) (by rfl) (by rfl) ?_
  simp (disch := omega) only [wk, tis, seval, reduceCtorEq, Nat.reduceEqDiff, rqs, rats_two]
  refine call_by (c) (by first | rfl | (simp only [tocvs, tocv, rats_two]; rfl) | (simp only [tocvs, tocv, toboxes, tobox, updH_at, Nat.reduceEqDiff, ↓reduceIte, rats_two]; rfl)) (by simp) ?_
  simp (disch := omega) only [wk, tis, seval, reduceCtorEq, Nat.reduceEqDiff, rqs, rats_two]
  refine ⟨tmps_by (by kernel_rfl), ?_⟩
  refine call_by (t1) (by rfl) (by simp) ?_
  simp (disch := omega) only [wk, tis, seval, reduceCtorEq, Nat.reduceEqDiff, rqs]
  refine call_by (t2) (by rfl) (by simp) ?_
  simp (disch := omega) only [wk, tis, seval, reduceCtorEq, Nat.reduceEqDiff, rqs]
  refine call_by (s) (by rfl) (by simp) ?_
  simp (disch := omega) only [wk, tis, seval, reduceCtorEq, Nat.reduceEqDiff, rqs]
  refine call_by (m) (by rfl) (by simp) ?_
  simp (disch := omega) only [wk, tis, seval, reduceCtorEq, Nat.reduceEqDiff, rqs]
  refine call_by (r) (by rfl) (by simp) ?_
  simp (disch := omega) only [wk, tis, seval, reduceCtorEq, Nat.reduceEqDiff, rqs]
  first | exact log_by (by kernel_rfl) | refine ⟨log_by (by kernel_rfl), ?_⟩
  try rfl
theorem qmul_ok (a b : RQ) (ha : SzQ (2 ^ 35) a) (hb : SzQ (2 ^ 35) b) (h0 : nv a.2 ≠ 0) (h1 : nv b.2 ≠ 0) : AC Tryz.prog 80 [cqq a, cqq b] none [cqz (qv a * qv b), ci 0] := by
  have c := qchecks_two a b (ha.mono (by omega)) (hb.mono (by omega)) h0 h1
  have z1 := zl_mul (iv a.1) (iv b.1)
  have y1 := zl_iv ha.1
  have y2 := zl_iv hb.1
  have y3 := nt_zl ha.2
  have y4 := nt_zl hb.2
  have s := zmul_ok a.1 b.1 (ha.1.mono (by omega)) (hb.1.mono (by omega))
  have m := mmul_ok a.2 b.2 ha.2.2 hb.2.2 (Nat.le_trans ha.2.1 (by omega)) (Nat.le_trans hb.2.1 (by omega))
  have hw : (wd (nv a.2 * nv b.2)).length ≤ 2 ^ 35 + 2 ^ 35 := wd_len2 y3 y4
  have r := qred_ok (canon (iv a.1 * iv b.1)) (wd (nv a.2 * nv b.2)) ((sz_canon _).mono (by omega)) ⟨by omega, lim_wd _⟩ (by rw [nv_wd]; exact Nat.mul_ne_zero h0 h1)
  rw [iv_canon, nv_wd, mk_mul] at r
  refine AC.by_walk (rs := [.cell 4 46, .tmp 5]) ords Tryz.func80 (by rfl) (by rfl) (by rfl) (by rfl) (by rfl) ?_
  simp (disch := omega) only [wk, tis, seval, reduceCtorEq, Nat.reduceEqDiff, rqs, rats_two]
  refine call_by (c) (by first | rfl | (simp only [tocvs, tocv, rats_two]; rfl) | (simp only [tocvs, tocv, toboxes, tobox, updH_at, Nat.reduceEqDiff, ↓reduceIte, rats_two]; rfl)) (by simp) ?_
  simp (disch := omega) only [wk, tis, seval, reduceCtorEq, Nat.reduceEqDiff, rqs, rats_two]
  refine ⟨tmps_by (by kernel_rfl), ?_⟩
  refine call_by (s) (by rfl) (by simp) ?_
  simp (disch := omega) only [wk, tis, seval, reduceCtorEq, Nat.reduceEqDiff, rqs]
  refine call_by (m) (by rfl) (by simp) ?_
  simp (disch := omega) only [wk, tis, seval, reduceCtorEq, Nat.reduceEqDiff, rqs]
  refine call_by (r) (by rfl) (by simp) ?_
  simp (disch := omega) only [wk, tis, seval, reduceCtorEq, Nat.reduceEqDiff, rqs]
  first | exact log_by (by kernel_rfl) | refine ⟨log_by (by kernel_rfl), ?_⟩
  try rfl
theorem zneg_ok (c : RI) (h : Sz (2 ^ 40) c) : AC Tryz.prog 123 [cr c] none [cz (-iv c)] := by
  have e : sg (!c.1) (nv c.2) = -iv c := by
    rw [iv_sg]
    unfold sg
    cases c.1 <;> simp
  have m := zof_ok (!c.1) (nv c.2)
  rw [e] at m
  have n := norm_ok c.2 h.2 (Nat.le_trans h.1 (by omega))
  refine AC.by_walk (rs := [.cell 2 44]) ords Tryz.func123 (by rfl) (by rfl) (by rfl) (by rfl) (by rfl) ?_
  simp (disch := omega) only [wk, tis, seval, reduceCtorEq, Nat.reduceEqDiff, rqs]
  refine ⟨tmps_by (by kernel_rfl), ?_⟩
  refine call_by (n) (by rfl) (by simp) ?_
  simp (disch := omega) only [wk, tis, seval, reduceCtorEq, Nat.reduceEqDiff, rqs]
  refine call_by (m) (by rfl) (by simp) ?_
  simp (disch := omega) only [wk, tis, seval, reduceCtorEq, Nat.reduceEqDiff, rqs]
  first | exact log_by (by kernel_rfl) | refine ⟨log_by (by kernel_rfl), ?_⟩
  try rfl
theorem neg_raw (c : RI) (x : List Nat) : qv (canon (-iv c), x) = -qv (c, x) := by
  unfold qv
  rw [iv_canon, Rat.neg_mkRat]
theorem qsub_ok (a b : RQ) (ha : SzQ (2 ^ 35) a) (hb : SzQ (2 ^ 35) b) (h0 : nv a.2 ≠ 0) (h1 : nv b.2 ≠ 0) : AC Tryz.prog 81 [cqq a, cqq b] none [cqz (qv a - qv b), ci 0] := by
  have n := zneg_ok b.1 (hb.1.mono (by omega))
  have z := zl_iv hb.1
  have m := qadd_ok a (canon (-iv b.1), b.2) ha ⟨(sz_canon _).mono (by rw [zl_neg]; exact z), hb.2⟩ h0 h1
  rw [neg_raw, ← Rat.sub_eq_add_neg] at m
  refine AC.by_walk (rs := [.cell 4 46, .tmp 5]) ords Tryz.func81 (by rfl) (by rfl) (by rfl) (by rfl) (by rfl) ?_
  simp (disch := omega) only [wk, tis, seval, reduceCtorEq, Nat.reduceEqDiff, rqs]
  refine call_by (n) (by rfl) (by simp) ?_
  simp (disch := omega) only [wk, tis, seval, reduceCtorEq, Nat.reduceEqDiff, rqs]
  refine call_by (m) (by rfl) (by simp) ?_
  simp (disch := omega) only [wk, tis, seval, reduceCtorEq, Nat.reduceEqDiff, rqs]
  try rfl
theorem zabsn_ok (c : RI) (h : Sz (2 ^ 40) c) : AC Tryz.prog 149 [cr c] none [cl (wd (iv c).natAbs)] := by
  have n := norm_ok c.2 h.2 (Nat.le_trans h.1 (by omega))
  rw [← iv_abs] at n
  refine AC.by_walk (rs := [.tmp 2]) ords Tryz.func149 (by rfl) (by rfl) (by rfl) (by rfl) (by rfl) ?_
  simp (disch := omega) only [wk, tis, seval, reduceCtorEq, Nat.reduceEqDiff, rqs]
  refine call_by (n) (by rfl) (by simp) ?_
  simp (disch := omega) only [wk, tis, seval, reduceCtorEq, Nat.reduceEqDiff, rqs]
theorem mk_div {a b : Int} (hb : b ≠ 0) : mkRat (if b < 0 then -a else a) b.natAbs = (a : Rat) / (b : Rat) := by
  have hr : (b : Rat) ≠ 0 := fun h => hb (Rat.intCast_eq_zero_iff.mp h)
  rw [Rat.mkRat_eq_div]
  by_cases h : b < 0
  · have e : ((b.natAbs : Nat) : Rat) = -(b : Rat) := by
      rw [← Rat.intCast_natCast, ← Rat.intCast_neg]
      congr 1
      omega
    rw [if_pos h, e, Rat.intCast_neg]
    grind
  · have e : ((b.natAbs : Nat) : Rat) = (b : Rat) := by
      rw [← Rat.intCast_natCast]
      congr 1
      omega
    rw [if_neg h, e]
theorem qmake_ok (a b : RI) (ha : Sz (2 ^ 38) a) (hb : Sz (2 ^ 38) b) (h0 : iv b ≠ 0) : AC Tryz.prog 121 [cr a, cr b] none [cqz ((iv a : Rat) / (iv b : Rat)), ci 0] := by
  have s := zsign_ok b (hb.mono (by omega))
  have hs0 : (iv b).sign ≠ 0 := fun h => h0 (Int.sign_eq_zero_iff_zero.mp h)
  have n := zneg_ok a (ha.mono (by omega))
  have w := zabsn_ok b (hb.mono (by omega))
  have za := zl_iv ha
  have zb := zl_iv hb
  have d := mk_div (a := iv a) h0
  refine AC.by_walk (rs := [.cell 4 46, .tmp 5]) ords Tryz.func121 (by rfl) (by rfl) (by rfl) (by rfl) (by rfl) ?_
  simp (disch := omega) only [wk, tis, seval, reduceCtorEq, Nat.reduceEqDiff, rqs]
  refine call_by (s) (by rfl) (by simp) ?_
  simp (disch := omega) only [wk, tis, seval, reduceCtorEq, Nat.reduceEqDiff, rqs]
  simp (disch := omega) only [wk, tis, seval, reduceCtorEq, Nat.reduceEqDiff, rqs, hs0]
  refine call_by (s) (by first | rfl | (simp only [tocvs, tocv, hs0]; rfl) | (simp only [tocvs, tocv, toboxes, tobox, updH_at, Nat.reduceEqDiff, ↓reduceIte, hs0]; rfl)) (by simp) ?_
  simp (disch := omega) only [wk, tis, seval, reduceCtorEq, Nat.reduceEqDiff, rqs, hs0]
  have hsg := sign_neg (iv b)
  by_cases h : iv b < 0
  · have h1 := hsg.mpr h
    rw [if_pos h] at d
    have r := qred_ok (canon (-iv a)) (wd (iv b).natAbs) ((sz_canon _).mono (by rw [zl_neg]; exact za)) ⟨zb, lim_wd _⟩ (by rw [nv_wd]; omega)
    rw [iv_canon, nv_wd, d] at r
    simp (disch := omega) only [wk, tis, seval, reduceCtorEq, Nat.reduceEqDiff, rqs, h1]
    refine call_by (n) (by first | rfl | (simp only [tocvs, tocv, h1]; rfl) | (simp only [tocvs, tocv, toboxes, tobox, updH_at, Nat.reduceEqDiff, ↓reduceIte, h1]; rfl)) (by simp) ?_
    simp (disch := omega) only [wk, tis, seval, reduceCtorEq, Nat.reduceEqDiff, rqs, h1]
    refine ⟨tmps_by (by kernel_rfl), ?_⟩
    refine call_by (w) (by rfl) (by simp) ?_
    simp (disch := omega) only [wk, tis, seval, reduceCtorEq, Nat.reduceEqDiff, rqs]
    refine call_by (r) (by rfl) (by simp) ?_
    simp (disch := omega) only [wk, tis, seval, reduceCtorEq, Nat.reduceEqDiff, rqs]
    first | exact log_by (by kernel_rfl) | refine ⟨log_by (by kernel_rfl), ?_⟩
    try rfl
  · have h1 : ¬ (iv b).sign < 0 := fun h' => h (hsg.mp h')
    rw [if_neg h] at d
    have r := qred_ok a (wd (iv b).natAbs) ha ⟨zb, lim_wd _⟩ (by rw [nv_wd]; omega)
    rw [nv_wd, d] at r
    simp (disch := omega) only [wk, tis, seval, reduceCtorEq, Nat.reduceEqDiff, rqs, h1]
    refine ⟨tmps_by (by kernel_rfl), ?_⟩
    refine call_by (w) (by rfl) (by simp) ?_
    simp (disch := omega) only [wk, tis, seval, reduceCtorEq, Nat.reduceEqDiff, rqs]
    refine call_by (r) (by rfl) (by simp) ?_
    simp (disch := omega) only [wk, tis, seval, reduceCtorEq, Nat.reduceEqDiff, rqs]
    first | exact log_by (by kernel_rfl) | refine ⟨log_by (by kernel_rfl), ?_⟩
    try rfl
theorem qv_div {a b : RQ} (h0 : nv a.2 ≠ 0) (h1 : nv b.2 ≠ 0) (h2 : iv b.1 ≠ 0) : ((iv a.1 * nv b.2 : Int) : Rat) / ((iv b.1 * nv a.2 : Int) : Rat) = qv a / qv b := by
  rw [qv_eq, qv_eq, Rat.intCast_mul, Rat.intCast_mul, Rat.intCast_natCast, Rat.intCast_natCast]
  have e0 : (nv a.2 : Rat) ≠ 0 := fun h => h0 (Rat.natCast_eq_zero_iff.mp h)
  have e1 : (nv b.2 : Rat) ≠ 0 := fun h => h1 (Rat.natCast_eq_zero_iff.mp h)
  have e2 : (iv b.1 : Rat) ≠ 0 := fun h => h2 (Rat.intCast_eq_zero_iff.mp h)
  grind
theorem qquo_ok (a b : RQ) (ha : SzQ (2 ^ 35) a) (hb : SzQ (2 ^ 35) b) (h0 : nv a.2 ≠ 0) (h1 : nv b.2 ≠ 0) (h2 : iv b.1 ≠ 0) : AC Tryz.prog 79 [cqq a, cqq b] none [cqz (qv a / qv b), ci 0] := by
  have c := qchecks_two a b (ha.mono (by omega)) (hb.mono (by omega)) h0 h1
  have t1 := qtimes_ok a.1 b.2 (ha.1.mono (by omega)) ⟨Nat.le_trans hb.2.1 (by omega), hb.2.2⟩
  have t2 := qtimes_ok b.1 a.2 (hb.1.mono (by omega)) ⟨Nat.le_trans ha.2.1 (by omega), ha.2.2⟩
  have z1 := zl_mul (iv a.1) (nv b.2 : Nat)
  have z2 := zl_mul (iv b.1) (nv a.2 : Nat)
  have y1 := zl_iv ha.1
  have y2 := zl_iv hb.1
  have y3 := nt_zl ha.2
  have y4 := nt_zl hb.2
  have r := qmake_ok (canon (iv a.1 * (nv b.2 : Nat))) (canon (iv b.1 * (nv a.2 : Nat))) ((sz_canon _).mono (by omega)) ((sz_canon _).mono (by omega)) (by rw [iv_canon]; exact Int.mul_ne_zero h2 (by omega))
  rw [iv_canon, iv_canon, qv_div h0 h1 h2] at r
  refine AC.by_walk (rs := [.cell 4 46, .tmp 5]) ords Tryz.func79 (by rfl) (by rfl) (by rfl) (by rfl) (by rfl) ?_
  simp (disch := omega) only [wk, tis, seval, reduceCtorEq, Nat.reduceEqDiff, rqs, rats_two]
  refine call_by (c) (by first | rfl | (simp only [tocvs, tocv, rats_two]; rfl) | (simp only [tocvs, tocv, toboxes, tobox, updH_at, Nat.reduceEqDiff, ↓reduceIte, rats_two]; rfl)) (by simp) ?_
  simp (disch := omega) only [wk, tis, seval, reduceCtorEq, Nat.reduceEqDiff, rqs, rats_two]
  refine ⟨tmps_by (by kernel_rfl), ?_⟩
  refine call_by (t1) (by rfl) (by simp) ?_
  simp (disch := omega) only [wk, tis, seval, reduceCtorEq, Nat.reduceEqDiff, rqs]
  refine call_by (t2) (by rfl) (by simp) ?_
  simp (disch := omega) only [wk, tis, seval, reduceCtorEq, Nat.reduceEqDiff, rqs]
  refine call_by (r) (by rfl) (by simp) ?_
  simp (disch := omega) only [wk, tis, seval, reduceCtorEq, Nat.reduceEqDiff, rqs]
  first | exact log_by (by kernel_rfl) | refine ⟨log_by (by kernel_rfl), ?_⟩
  try rfl
theorem qnorm_ok (r : RQ) (h : SzQ (2 ^ 38) r) (h0 : nv r.2 ≠ 0) : AC Tryz.prog 69 [cqq r] none [cqz (qv r), ci 0] := by
  have c := qcheck_good r ⟨Nat.le_trans h.2.1 (by omega), h.2.2⟩ h0
  have m := qred_ok r.1 r.2 h.1 h.2 h0
  refine AC.by_walk (rs := [.cell 2 46, .tmp 3]) ords Tryz.func69 (by rfl) (by rfl) (by rfl) (by rfl) (by rfl) ?_
  simp (disch := omega) only [wk, tis, seval, reduceCtorEq, Nat.reduceEqDiff, rqs]
  refine call_by (c) (by rfl) (by simp) ?_
  simp (disch := omega) only [wk, tis, seval, reduceCtorEq, Nat.reduceEqDiff, rqs]
  refine call_by (m) (by rfl) (by simp) ?_
  simp (disch := omega) only [wk, tis, seval, reduceCtorEq, Nat.reduceEqDiff, rqs]
  try rfl
theorem qsign_ok (r : RQ) (h : SzQ (2 ^ 38) r) (h0 : nv r.2 ≠ 0) : AC Tryz.prog 145 [cqq r] none [ci (iv r.1).sign, ci 0] := by
  have c := qcheck_good r ⟨Nat.le_trans h.2.1 (by omega), h.2.2⟩ h0
  have m := zsign_ok r.1 (h.1.mono (by omega))
  refine AC.by_walk (rs := [.tmp 2, .tmp 3]) ords Tryz.func145 (by rfl) (by rfl) (by rfl) (by rfl) (by rfl) ?_
  simp (disch := omega) only [wk, tis, seval, reduceCtorEq, Nat.reduceEqDiff, rqs]
  refine call_by (c) (by rfl) (by simp) ?_
  simp (disch := omega) only [wk, tis, seval, reduceCtorEq, Nat.reduceEqDiff, rqs]
  refine call_by (m) (by rfl) (by simp) ?_
  simp (disch := omega) only [wk, tis, seval, reduceCtorEq, Nat.reduceEqDiff, rqs]
  try rfl
end Go.Proofs.YtenlbifnhdmnnaaGreat

namespace Go.Proofs.YtenlbifnhdmnnaaGreat
open Go Go.Proofs Go.AL
set_option linter.unusedSimpArgs false
set_option linter.unusedVariables false
theorem zl_w {x : Int} (h : x.natAbs < W) : zl x ≤ 1 := zl_le.mpr (by rwa [Nat.pow_one])
theorem wd_w {d : Nat} (h : d < W) : (wd d).length ≤ 1 := wd_len_le.mpr (by rwa [Nat.pow_one])
theorem hok_ok (r : RQ) (h : Nt (2 ^ 40) r.2) : AC Tryz.prog 27 [cqq r] none [cb (decide (nv r.2 ≠ 0))] := by
  have z := rZero_ok r.2 h.2 h.1
  refine AC.by_walk (rs := [.tmp 2]) ords Tryz.func27 (by rfl) (by rfl) (by rfl) (by rfl) (by rfl) ?_
  simp (disch := omega) only [wk, tis, seval, reduceCtorEq, Nat.reduceEqDiff, rqs]
  refine call_by (z) (by rfl) (by simp) ?_
  simp (disch := omega) only [wk, tis, seval, reduceCtorEq, Nat.reduceEqDiff, rqs]
  try rfl
  try simp
theorem hS_ok (r : RQ) (h : Sz (2 ^ 40) r.1) : AC Tryz.prog 29 [cqq r] none [ci (iv r.1).sign] := by
  have z := rSign_ok r.1 h
  refine AC.by_walk (rs := [.tmp 2]) ords Tryz.func29 (by rfl) (by rfl) (by rfl) (by rfl) (by rfl) ?_
  simp (disch := omega) only [wk, tis, seval, reduceCtorEq, Nat.reduceEqDiff, rqs]
  refine call_by (z) (by rfl) (by simp) ?_
  simp (disch := omega) only [wk, tis, seval, reduceCtorEq, Nat.reduceEqDiff, rqs]
  try rfl
theorem hZ_ok (n : RI) (h : Sz (2 ^ 38) n) : AC Tryz.prog 52 [cr n] none [cqz (iv n : Rat)] := by
  have w := rword_ok 1 (by omega)
  have hw : (wd 1).length ≤ 2 ^ 38 := by decide +kernel
  have r := rR_ok n (wd 1) h ⟨hw, lim_wd _⟩ (by rw [nv_wd]; omega)
  rw [nv_wd, Rat.mkRat_one] at r
  refine AC.by_walk (rs := [.cell 2 46]) ords Tryz.func52 (by rfl) (by rfl) (by rfl) (by rfl) (by rfl) ?_
  simp (disch := omega) only [wk, tis, seval, reduceCtorEq, Nat.reduceEqDiff, rqs]
  refine ⟨tmps_by (by kernel_rfl), ?_⟩
  refine call_by (w) (by rfl) (by simp) ?_
  simp (disch := omega) only [wk, tis, seval, reduceCtorEq, Nat.reduceEqDiff, rqs]
  refine call_by (r) (by rfl) (by simp) ?_
  simp (disch := omega) only [wk, tis, seval, reduceCtorEq, Nat.reduceEqDiff, rqs]
  first | exact log_by (by kernel_rfl) | refine ⟨log_by (by kernel_rfl), ?_⟩
  try rfl
theorem hP_ok (n : Int) (d : Nat) (h : -9223372036854775808 < n) (h' : n < 9223372036854775808) (hd : d < 9223372036854775808) (h0 : d ≠ 0) : AC Tryz.prog 15 [ci n, ci d] none [cqz ((n : Rat) / (d : Rat))] := by
  have z := rZ_ok n h h'
  have w := rword_ok d hd
  have hz : zl n ≤ 2 ^ 38 := Nat.le_trans (zl_w (by simp only [W]; omega)) (by omega)
  have hw : (wd d).length ≤ 2 ^ 38 := Nat.le_trans (wd_w (by simp only [W]; omega)) (by omega)
  have r := rR_ok (canon n) (wd d) ((sz_canon _).mono hz) ⟨hw, lim_wd _⟩ (by rw [nv_wd]; exact h0)
  rw [iv_canon, nv_wd, Rat.mkRat_eq_div] at r
  refine AC.by_walk (rs := [.cell 4 46]) ords Tryz.func15 (by rfl) (by rfl) (by rfl) (by rfl) (by rfl) ?_
  simp (disch := omega) only [wk, tis, seval, reduceCtorEq, Nat.reduceEqDiff, rqs]
  refine call_by (z) (by rfl) (by simp) ?_
  simp (disch := omega) only [wk, tis, seval, reduceCtorEq, Nat.reduceEqDiff, rqs]
  refine call_by (w) (by rfl) (by simp) ?_
  simp (disch := omega) only [wk, tis, seval, reduceCtorEq, Nat.reduceEqDiff, rqs]
  refine call_by (r) (by rfl) (by simp) ?_
  simp (disch := omega) only [wk, tis, seval, reduceCtorEq, Nat.reduceEqDiff, rqs]
  try rfl
theorem hplus_ok (a b : RQ) (ha : SzQ (2 ^ 35) a) (hb : SzQ (2 ^ 35) b) (h0 : nv a.2 ≠ 0) (h1 : nv b.2 ≠ 0) : AC Tryz.prog 42 [cqq a, cqq b] none [cqz (qv a + qv b)] := by
  have z1 := zl_mul (iv a.1) (nv b.2 : Nat)
  have z2 := zl_mul (iv b.1) (nv a.2 : Nat)
  have y1 := zl_iv ha.1
  have y2 := zl_iv hb.1
  have y3 := nt_zl ha.2
  have y4 := nt_zl hb.2
  have i1 := rI_ok false b.2 hb.2.2 (Nat.le_trans hb.2.1 (by omega))
  have i2 := rI_ok false a.2 ha.2.2 (Nat.le_trans ha.2.1 (by omega))
  rw [sgf] at i1 i2
  have t1 := rMul_ok a.1 (canon (nv b.2 : Nat)) (ha.1.mono (by omega)) ((sz_canon _).mono (by omega))
  have t2 := rMul_ok b.1 (canon (nv a.2 : Nat)) (hb.1.mono (by omega)) ((sz_canon _).mono (by omega))
  rw [iv_canon] at t1 t2
  have z3 := zl_add (iv a.1 * (nv b.2 : Nat)) (iv b.1 * (nv a.2 : Nat))
  have s := rAdd_ok (canon (iv a.1 * (nv b.2 : Nat))) (canon (iv b.1 * (nv a.2 : Nat))) ((sz_canon _).mono (by omega)) ((sz_canon _).mono (by omega))
  rw [iv_canon, iv_canon] at s
  have m := rTimes_ok a.2 b.2 ha.2.2 hb.2.2 (Nat.le_trans ha.2.1 (by omega)) (Nat.le_trans hb.2.1 (by omega))
  have hw : (wd (nv a.2 * nv b.2)).length ≤ 2 ^ 35 + 2 ^ 35 := wd_len2 y3 y4
  have r := rR_ok (canon (iv a.1 * (nv b.2 : Nat) + iv b.1 * (nv a.2 : Nat))) (wd (nv a.2 * nv b.2)) ((sz_canon _).mono (by omega)) ⟨by omega, lim_wd _⟩ (by rw [nv_wd]; exact Nat.mul_ne_zero h0 h1)
  rw [iv_canon, nv_wd, mk_add h0 h1] at r
  refine AC.by_walk (rs := [.cell 4 46]) ords Tryz.func42 (by rfl) (by rfl) (by rfl) (by rfl) (by rfl) ?_
  simp (disch := omega) only [wk, tis, seval, reduceCtorEq, Nat.reduceEqDiff, rqs]
  refine ⟨tmps_by (by kernel_rfl), ?_⟩
  refine call_by (i1) (by rfl) (by simp) ?_
  simp (disch := omega) only [wk, tis, seval, reduceCtorEq, Nat.reduceEqDiff, rqs]
  refine call_by (t1) (by rfl) (by simp) ?_
  simp (disch := omega) only [wk, tis, seval, reduceCtorEq, Nat.reduceEqDiff, rqs]
  refine call_by (i2) (by rfl) (by simp) ?_
  simp (disch := omega) only [wk, tis, seval, reduceCtorEq, Nat.reduceEqDiff, rqs]
  refine call_by (t2) (by rfl) (by simp) ?_
  simp (disch := omega) only [wk, tis, seval, reduceCtorEq, Nat.reduceEqDiff, rqs]
  refine call_by (s) (by rfl) (by simp) ?_
  simp (disch := omega) only [wk, tis, seval, reduceCtorEq, Nat.reduceEqDiff, rqs]
  refine call_by (m) (by rfl) (by simp) ?_
  simp (disch := omega) only [wk, tis, seval, reduceCtorEq, Nat.reduceEqDiff, rqs]
  refine call_by (r) (by rfl) (by simp) ?_
  simp (disch := omega) only [wk, tis, seval, reduceCtorEq, Nat.reduceEqDiff, rqs]
  first | exact log_by (by kernel_rfl) | refine ⟨log_by (by kernel_rfl), ?_⟩
  try rfl
theorem htimes_ok (a b : RQ) (ha : SzQ (2 ^ 35) a) (hb : SzQ (2 ^ 35) b) (h0 : nv a.2 ≠ 0) (h1 : nv b.2 ≠ 0) : AC Tryz.prog 44 [cqq a, cqq b] none [cqz (qv a * qv b)] := by
  have z1 := zl_mul (iv a.1) (iv b.1)
  have y1 := zl_iv ha.1
  have y2 := zl_iv hb.1
  have y3 := nt_zl ha.2
  have y4 := nt_zl hb.2
  have s := rMul_ok a.1 b.1 (ha.1.mono (by omega)) (hb.1.mono (by omega))
  have m := rTimes_ok a.2 b.2 ha.2.2 hb.2.2 (Nat.le_trans ha.2.1 (by omega)) (Nat.le_trans hb.2.1 (by omega))
  have hw : (wd (nv a.2 * nv b.2)).length ≤ 2 ^ 35 + 2 ^ 35 := wd_len2 y3 y4
  have r := rR_ok (canon (iv a.1 * iv b.1)) (wd (nv a.2 * nv b.2)) ((sz_canon _).mono (by omega)) ⟨by omega, lim_wd _⟩ (by rw [nv_wd]; exact Nat.mul_ne_zero h0 h1)
  rw [iv_canon, nv_wd, mk_mul] at r
  refine AC.by_walk (rs := [.cell 4 46]) ords Tryz.func44 (by rfl) (by rfl) (by rfl) (by rfl) (by rfl) ?_
  simp (disch := omega) only [wk, tis, seval, reduceCtorEq, Nat.reduceEqDiff, rqs]
  refine ⟨tmps_by (by kernel_rfl), ?_⟩
  refine call_by (s) (by rfl) (by simp) ?_
  simp (disch := omega) only [wk, tis, seval, reduceCtorEq, Nat.reduceEqDiff, rqs]
  refine call_by (m) (by rfl) (by simp) ?_
  simp (disch := omega) only [wk, tis, seval, reduceCtorEq, Nat.reduceEqDiff, rqs]
  refine call_by (r) (by rfl) (by simp) ?_
  simp (disch := omega) only [wk, tis, seval, reduceCtorEq, Nat.reduceEqDiff, rqs]
  first | exact log_by (by kernel_rfl) | refine ⟨log_by (by kernel_rfl), ?_⟩
  try rfl
theorem over_raw {a b : RQ} (h0 : nv a.2 ≠ 0) (h1 : nv b.2 ≠ 0) (h2 : iv b.1 ≠ 0) : mkRat (iv a.1 * sg b.1.1 (nv b.2)) (nv a.2 * nv b.1.2) = qv a / qv b := by
  rw [qv_eq, qv_eq, Rat.mkRat_eq_div, Rat.intCast_mul, Rat.natCast_mul]
  have e0 : (nv a.2 : Rat) ≠ 0 := fun h => h0 (Rat.natCast_eq_zero_iff.mp h)
  have e1 : (nv b.2 : Rat) ≠ 0 := fun h => h1 (Rat.natCast_eq_zero_iff.mp h)
  have e2 : (nv b.1.2 : Rat) ≠ 0 := fun h => h2 (by rw [iv_sg, Rat.natCast_eq_zero_iff.mp h]; cases b.1.1 <;> rfl)
  have e3 : (iv b.1 : Rat) = if b.1.1 then -(nv b.1.2 : Rat) else (nv b.1.2 : Rat) := by
    unfold iv
    split
    · rw [Rat.intCast_neg, Rat.intCast_natCast]
    · rw [Rat.intCast_natCast]
  have e4 : ((sg b.1.1 (nv b.2) : Int) : Rat) = if b.1.1 then -(nv b.2 : Rat) else (nv b.2 : Rat) := by
    unfold sg
    split
    · rw [Rat.intCast_neg, Rat.intCast_natCast]
    · rw [Rat.intCast_natCast]
  rw [e3, e4]
  split <;> grind
theorem hover_ok (a b : RQ) (ha : SzQ (2 ^ 35) a) (hb : SzQ (2 ^ 35) b) (h0 : nv a.2 ≠ 0) (h1 : nv b.2 ≠ 0) (h2 : iv b.1 ≠ 0) : AC Tryz.prog 50 [cqq a, cqq b] none [cqz (qv a / qv b)] := by
  have i1 := rI_ok b.1.1 b.2 hb.2.2 (Nat.le_trans hb.2.1 (by omega))
  have y1 := zl_iv ha.1
  have y3 := nt_zl ha.2
  have y4 : zl (sg b.1.1 (nv b.2)) ≤ 2 ^ 35 := by rw [zl_sg]; exact nt_zl hb.2
  have y5 : (wd (nv b.1.2)).length ≤ 2 ^ 35 := Nat.le_trans (nv_len hb.1.2) hb.1.1
  have z1 := zl_mul (iv a.1) (sg b.1.1 (nv b.2))
  have s := rMul_ok a.1 (canon (sg b.1.1 (nv b.2))) (ha.1.mono (by omega)) ((sz_canon _).mono (by omega))
  rw [iv_canon] at s
  have m := rTimes_ok a.2 b.1.2 ha.2.2 hb.1.2 (Nat.le_trans ha.2.1 (by omega)) (Nat.le_trans hb.1.1 (by omega))
  have hw : (wd (nv a.2 * nv b.1.2)).length ≤ 2 ^ 35 + 2 ^ 35 := wd_len2 y3 y5
  have hn : nv b.1.2 ≠ 0 := fun h => h2 (by rw [iv_sg, h]; cases b.1.1 <;> rfl)
  have r := rR_ok (canon (iv a.1 * sg b.1.1 (nv b.2))) (wd (nv a.2 * nv b.1.2)) ((sz_canon _).mono (by omega)) ⟨by omega, lim_wd _⟩ (by rw [nv_wd]; exact Nat.mul_ne_zero h0 hn)
  rw [iv_canon, nv_wd, over_raw h0 h1 h2] at r
  refine AC.by_walk (rs := [.cell 4 46]) ords Tryz.func50 (by rfl) (by rfl) (by rfl) (by rfl) (by rfl) ?_
  simp (disch := omega) only [wk, tis, seval, reduceCtorEq, Nat.reduceEqDiff, rqs]
  refine ⟨tmps_by (by kernel_rfl), ?_⟩
  refine call_by (i1) (by rfl) (by simp) ?_
  simp (disch := omega) only [wk, tis, seval, reduceCtorEq, Nat.reduceEqDiff, rqs]
  refine call_by (s) (by rfl) (by simp) ?_
  simp (disch := omega) only [wk, tis, seval, reduceCtorEq, Nat.reduceEqDiff, rqs]
  refine call_by (m) (by rfl) (by simp) ?_
  simp (disch := omega) only [wk, tis, seval, reduceCtorEq, Nat.reduceEqDiff, rqs]
  refine call_by (r) (by rfl) (by simp) ?_
  simp (disch := omega) only [wk, tis, seval, reduceCtorEq, Nat.reduceEqDiff, rqs]
  first | exact log_by (by kernel_rfl) | refine ⟨log_by (by kernel_rfl), ?_⟩
  try rfl
theorem hsame_ok (a b : RQ) (ha : SzQ (2 ^ 43) a) (hb : SzQ (2 ^ 43) b) : AC Tryz.prog 14 [cqq a, cqq b] none [cb (decide (a = b))] := by
  have s := rSameInt_ok a.1 b.1 ha.1.1 hb.1.1
  have t := rSame_ok a.2 b.2 ha.2.1 hb.2.1
  refine AC.by_walk (rs := [.tmp 4]) ords Tryz.func14 (by rfl) (by rfl) (by rfl) (by rfl) (by rfl) ?_
  simp (disch := omega) only [wk, tis, seval, reduceCtorEq, Nat.reduceEqDiff, rqs]
  refine call_by (s) (by rfl) (by simp) ?_
  simp (disch := omega) only [wk, tis, seval, reduceCtorEq, Nat.reduceEqDiff, rqs]
  by_cases h1 : a.1 = b.1
  · simp (disch := omega) only [wk, tis, seval, reduceCtorEq, Nat.reduceEqDiff, rqs, h1]
    by_cases h2 : a.2 = b.2
    · have e : a = b := Prod.ext h1 h2
      subst e
      refine call_by (t) (by rfl) (by simp) ?_
      simp (disch := omega) only [wk, tis, seval, reduceCtorEq, Nat.reduceEqDiff, rqs]
      try rfl
    · have e : ¬ a = b := fun h => h2 (by rw [h])
      refine call_by (t) (by first | rfl | (simp only [tocvs, tocv, h1, h2, e]; rfl) | (simp only [tocvs, tocv, toboxes, tobox, updH_at, Nat.reduceEqDiff, ↓reduceIte, h1, h2, e]; rfl)) (by simp) ?_
      simp (disch := omega) only [wk, tis, seval, reduceCtorEq, Nat.reduceEqDiff, rqs, h1, h2, e]
      try rfl
  · have e : ¬ a = b := fun h => h1 (by rw [h])
    simp (disch := omega) only [wk, tis, seval, reduceCtorEq, Nat.reduceEqDiff, rqs, h1, e]
    try rfl
end Go.Proofs.YtenlbifnhdmnnaaGreat

namespace Go.Proofs.YtenlbifnhdmnnaaGreat
open Go Go.Proofs Go.AL
set_option linter.unusedSimpArgs false
set_option linter.unusedVariables false
def BQ (n k : Nat) (p : List RQ) : Prop := p.length ≤ n ∧ ∀ r ∈ p, SzQ k r
def GQ (n k : Nat) (p : List RQ) : Prop := p.length ≤ n ∧ ∀ r ∈ p, SzQ k r ∧ nv r.2 ≠ 0
def QB (n k : Nat) (q : List Rat) : Prop := q.length ≤ n ∧ ∀ c ∈ q, qz c ≤ k
def gd (p : List RQ) : Bool := p.all fun r => decide (nv r.2 ≠ 0)
theorem getq_mem {p : List RQ} {i : Nat} (h : i < p.length) : p.getD i q0 ∈ p := by rw [List.getD, List.getElem?_eq_getElem h, Option.getD_some]; exact List.getElem_mem h
theorem BQ.get {n k i : Nat} {p : List RQ} (h : BQ n k p) (hi : i < p.length) : SzQ k (p.getD i q0) := h.2 _ (getq_mem hi)
theorem GQ.get {n k i : Nat} {p : List RQ} (h : GQ n k p) (hi : i < p.length) : SzQ k (p.getD i q0) := (h.2 _ (getq_mem hi)).1
theorem GQ.den {n k i : Nat} {p : List RQ} (h : GQ n k p) (hi : i < p.length) : nv (p.getD i q0).2 ≠ 0 := (h.2 _ (getq_mem hi)).2
theorem GQ.bq {n k : Nat} {p : List RQ} (h : GQ n k p) : BQ n k p := ⟨h.1, fun r hr => (h.2 r hr).1⟩
theorem gd_iff {p : List RQ} : gd p = true ↔ ∀ r ∈ p, nv r.2 ≠ 0 := by simp [gd]
theorem GQ.gd {n k : Nat} {p : List RQ} (h : GQ n k p) : gd p = true := gd_iff.mpr fun r hr => (h.2 r hr).2
theorem BQ.gq {n k : Nat} {p : List RQ} (h : BQ n k p) (g : gd p = true) : GQ n k p := ⟨h.1, fun r hr => ⟨h.2 r hr, gd_iff.mp g r hr⟩⟩
theorem BQ.mono {n k n' k' : Nat} {p : List RQ} (h : BQ n k p) (hn : n ≤ n') (hk : k ≤ k') : BQ n' k' p := ⟨Nat.le_trans h.1 hn, fun r hr => (h.2 r hr).mono hk⟩
theorem GQ.mono {n k n' k' : Nat} {p : List RQ} (h : GQ n k p) (hn : n ≤ n') (hk : k ≤ k') : GQ n' k' p := ⟨Nat.le_trans h.1 hn, fun r hr => ⟨(h.2 r hr).1.mono hk, (h.2 r hr).2⟩⟩
theorem QB.mono {n k n' k' : Nat} {q : List Rat} (h : QB n k q) (hn : n ≤ n') (hk : k ≤ k') : QB n' k' q := ⟨Nat.le_trans h.1 hn, fun r hr => Nat.le_trans (h.2 r hr) hk⟩
theorem cfq_qvs (p : List RQ) (i : Nat) : cfq (qvs p) i = qv (p.getD i q0) := by
  unfold cfq qvs
  rw [List.getD_eq_getElem?_getD, List.getD_eq_getElem?_getD, List.getElem?_map]
  cases p[i]? with
  | none => decide +kernel
  | some x => rfl
theorem GQ.qb {n k : Nat} {p : List RQ} (h : GQ n k p) : QB n k (qvs p) := ⟨by rw [qvs_len]; exact h.1, fun c hc => by
  obtain ⟨r, hr, rfl⟩ := List.mem_map.1 hc
  exact qz_raw (h.2 r hr).1 (h.2 r hr).2⟩
theorem QB.gq {n k : Nat} {q : List Rat} (h : QB n k q) : GQ n k (q.map crat) := ⟨by rw [List.length_map]; exact h.1, fun r hr => by
  obtain ⟨c, hc, rfl⟩ := List.mem_map.1 hr
  exact ⟨szq_crat (h.2 c hc), nv_crat0 c⟩⟩
theorem QB.trimq {n k : Nat} {q : List Rat} (h : QB n k q) : QB n k (trimq q) := ⟨Nat.le_trans (by rw [trimq_len]; exact tzq_le q) h.1, fun c hc => h.2 c (List.mem_of_mem_take hc)⟩
theorem QB.cz {n k : Nat} {q : List Rat} (h : QB n k q) (hk : 1 ≤ k) (i : Nat) : qz (cfq q i) ≤ k := by
  unfold cfq
  rw [List.getD_eq_getElem?_getD]
  cases hi : q[i]? with
  | none => rw [Option.getD_none, qz_zero]; exact hk
  | some x => exact h.2 x (List.mem_of_getElem? hi)
theorem QB.of {n k : Nat} {q : List Rat} (hl : q.length ≤ n) (h : ∀ i, qz (cfq q i) ≤ k) : QB n k q := ⟨hl, fun c hc => by
  obtain ⟨i, hi, rfl⟩ := List.getElem_of_mem hc
  have := h i
  rwa [cfq_lt hi] at this⟩
theorem qv_zero {r : RQ} (h : nv r.2 ≠ 0) : qv r = 0 ↔ iv r.1 = 0 := Rat.mkRat_eq_zero h
theorem takeq_snoc {q : List Rat} {i : Nat} (h : i < q.length) : q.take (i + 1) = q.take i ++ [cfq q i] := by
  rw [List.take_add_one]
  congr 1
  simp [cfq, List.getD, h]
theorem cratq_len (q : List Rat) : (q.map crat).length = q.length := List.length_map _
theorem cqs_len (q : List Rat) : (cqs q).length = tzq q := by rw [cqs, cratq_len, trimq_len]
def qp (p : List Int) : List Rat := p.map fun z : Int => (z : Rat)
theorem cfq_qp (p : List Int) (k : Nat) : cfq (qp p) k = (cf p k : Rat) := by
  unfold cfq qp cf
  rw [List.getD_eq_getElem?_getD, List.getD_eq_getElem?_getD, List.getElem?_map]
  cases p[k]? <;> rfl
theorem qz_int (z : Int) : qz (z : Rat) ≤ max (zl z) 1 := by
  unfold qz
  rw [Rat.num_intCast, Rat.den_intCast]
  have : (wd 1).length = 1 := by decide +kernel
  omega
end Go.Proofs.YtenlbifnhdmnnaaGreat

namespace Go.Proofs.YtenlbifnhdmnnaaGreat
open Go Go.Proofs Go.AL
set_option linter.unusedSimpArgs false
set_option linter.unusedVariables false
theorem idxq_gen (l : List RQ) (g : Nat) (P : RQ → Bool) (e : Int) (hl : l.length ≤ 2 ^ 43) (hc : ∀ r ∈ l, AC Tryz.prog g [cqq r] none [cb (P r)])
    (h1 : ∀ i, i < l.length → (∀ j, j < i → P (l.getD j q0) = false) → P (l.getD i q0) = true → e = i) (h2 : (∀ j, j < l.length → P (l.getD j q0) = false) → e = -1) :
    AC Tryz.prog 143 [cqw l, .fn g []] none [ci e] := by
  refine AC.by_walk (rs := [.tmp 4]) ords Tryz.func143 (by rfl) (by rfl) (by rfl) (by rfl) (by rfl) ?_
  simp (disch := omega) only [wk, tis, seval, reduceCtorEq, Nat.reduceEqDiff, rqs]
  refine aloop_by (fun f H => ∃ (i : Nat), i ≤ l.length ∧ (∀ j, j < i → P (l.getD j q0) = false) ∧ f 8 = .iv (.int .i64 i) ∧ f 0 = .iv (.sl (rats l)) ∧ f 6 = .iv (.sl (rats l)) ∧ f 7 = .iv (.int .i64 l.length) ∧ f 1 = .fn g []) (fun f H => (l.length - intAt f 8).toNat) ?_ ?_
  · refine ⟨0, by omega, fun j hj => by omega, ?_⟩
    simp (disch := omega) only [wk, tis, seval, reduceCtorEq, Nat.reduceEqDiff, rqs, List.map_nil]
  rintro f H ⟨i, hi, hz, hF⟩
  rw [intAt_of hF.1]
  simp (disch := omega) only [wk, tis, seval, reduceCtorEq, Nat.reduceEqDiff, rqs, hF]
  refine if_by (fun hlt => ?_) (fun hlt => ?_)
  · have hlt' : i < l.length := by omega
    simp (disch := omega) only [wk, tis, seval, reduceCtorEq, Nat.reduceEqDiff, rqs, hF]
    refine call_by ((hc (l.getD i q0) (getq_mem hlt'))) (by first | rfl | (simp only [tocvs, tocv, hF]; rfl) | (simp only [tocvs, tocv, toboxes, tobox, updH_at, Nat.reduceEqDiff, ↓reduceIte, hF]; rfl)) (by simp) ?_
    simp (disch := omega) only [wk, tis, seval, reduceCtorEq, Nat.reduceEqDiff, rqs, hF]
    cases hP : P (l.getD i q0) with
    | true =>
      obtain rfl := h1 i hlt' hz hP
      simp (disch := omega) only [wk, tis, seval, reduceCtorEq, Nat.reduceEqDiff, rqs, hF]
    | false =>
      simp (disch := omega) only [wk, tis, seval, reduceCtorEq, Nat.reduceEqDiff, rqs, hF]
      refine ⟨⟨i + 1, by omega, fun j hj => ?_, by omega⟩, by omega⟩
      rcases Nat.lt_or_ge j i with hj' | hj'
      · exact hz j hj'
      · obtain rfl : j = i := by omega
        exact hP
  · obtain rfl := h2 fun j hj => hz j (by omega)
    simp (disch := omega) only [wk, tis, seval, reduceCtorEq, Nat.reduceEqDiff, rqs, hF]
theorem conq_ok (l : List RQ) (g : Nat) (P : RQ → Bool) (hl : l.length ≤ 2 ^ 43) (hc : ∀ r ∈ l, AC Tryz.prog g [cqq r] none [cb (P r)]) :
    AC Tryz.prog 109 [cqw l, .fn g []] none [cb (l.any P)] := by
  have key : ∃ e : Int, (0 ≤ e ↔ l.any P = true) ∧ AC Tryz.prog 143 [cqw l, .fn g []] none [ci e] := by
    by_cases h : ∃ i, i < l.length ∧ P (l.getD i q0) = true
    · obtain ⟨i, hi, hP, hz⟩ : ∃ i, i < l.length ∧ P (l.getD i q0) = true ∧ ∀ j, j < i → P (l.getD j q0) = false := by
        obtain ⟨i0, hi0⟩ := h
        induction i0 using Nat.strongRecOn with
        | _ n ih =>
          by_cases hm : ∃ m, m < n ∧ P (l.getD m q0) = true
          · obtain ⟨m, hm1, hm2⟩ := hm
            exact ih m hm1 ⟨by omega, hm2⟩
          · refine ⟨n, hi0.1, hi0.2, fun j hj => ?_⟩
            cases hj' : P (l.getD j q0) with
            | false => rfl
            | true => exact (hm ⟨j, hj, hj'⟩).elim
      refine ⟨i, ⟨fun _ => List.any_eq_true.mpr ⟨_, getq_mem hi, hP⟩, fun _ => by omega⟩, idxq_gen l g P i hl hc (fun k hk hkz hkP => ?_) (fun hall => ?_)⟩
      · have : k = i := by
          rcases Nat.lt_trichotomy k i with h | h | h
          · have := hz k h; rw [this] at hkP; cases hkP
          · exact h
          · have := hkz i h; rw [this] at hP; cases hP
        rw [this]
      · rw [hall i hi] at hP; cases hP
    · refine ⟨-1, ⟨fun h0 => by omega, fun h0 => ?_⟩, idxq_gen l g P (-1) hl hc (fun k hk _ hkP => (h ⟨k, hk, hkP⟩).elim) (fun _ => rfl)⟩
      obtain ⟨r, hr, hP⟩ := List.any_eq_true.mp h0
      obtain ⟨j, hj, rfl⟩ := List.getElem_of_mem hr
      exact (h ⟨j, hj, by rw [List.getD, List.getElem?_eq_getElem hj, Option.getD_some]; exact hP⟩).elim
  obtain ⟨e, he, m⟩ := key
  refine AC.by_walk (rs := [.tmp 4]) ords Tryz.func109 (by rfl) (by rfl) (by rfl) (by rfl) (by rfl) ?_
  simp (disch := omega) only [wk, tis, seval, reduceCtorEq, Nat.reduceEqDiff, rqs]
  refine call_by (m) (by rfl) (by simp) ?_
  simp (disch := omega) only [wk, tis, seval, reduceCtorEq, Nat.reduceEqDiff, rqs]
  cases hP : l.any P with
  | true => rw [decide_eq_true (he.mpr hP)]
  | false => rw [decide_eq_false fun h => by rw [he.mp h] at hP; cases hP]
theorem qgood1_ok (r : RQ) (h : Nt (2 ^ 42) r.2) : AC Tryz.prog 110 [cqq r] none [cb (decide (nv r.2 = 0))] := by
  refine AC.by_walk (rs := [.tmp 2]) ords Tryz.func110 (by rfl) (by rfl) (by rfl) (by rfl) (by rfl) ?_
  simp (disch := omega) only [wk, tis, seval, reduceCtorEq, Nat.reduceEqDiff, rqs]
  by_cases h0 : nv r.2 = 0
  · have h0' := h0
    refine call_by ((qcheck_bad r h h0)) (by rfl) (by simp) ?_
    simp (disch := omega) only [wk, tis, seval, reduceCtorEq, Nat.reduceEqDiff, rqs]
    rw [decide_eq_true h0]
    try rfl
  · have h0' := h0
    refine call_by ((qcheck_good r h h0)) (by rfl) (by simp) ?_
    simp (disch := omega) only [wk, tis, seval, reduceCtorEq, Nat.reduceEqDiff, rqs]
    rw [decide_eq_false h0]
    try rfl
theorem not_any {l : List RQ} : (!l.any fun r => decide (nv r.2 = 0)) = gd l := by
  unfold gd
  induction l with
  | nil => rfl
  | cons a l ih =>
    rw [List.any_cons, List.all_cons, Bool.not_or, ih]
    congr 1
    by_cases h : nv a.2 = 0 <;> simp [h]
theorem qgood_ok (l : List RQ) (h : BQ (2 ^ 40) (2 ^ 40) l) : AC Tryz.prog 68 [cqw l] none [cb (gd l)] := by
  have m := conq_ok l 110 (fun r => decide (nv r.2 = 0)) (Nat.le_trans h.1 (by omega)) (fun r hr => qgood1_ok r ⟨Nat.le_trans (h.2 r hr).2.1 (by omega), (h.2 r hr).2.2⟩)
  refine AC.by_walk (rs := [.tmp 2]) ords Tryz.func68 (by rfl) (by rfl) (by rfl) (by rfl) (by rfl) ?_
  simp (disch := omega) only [wk, tis, seval, reduceCtorEq, Nat.reduceEqDiff, rqs, List.map_nil]
  refine call_by (m) (by first | rfl | (simp only [tocvs, tocv, List.map_nil]; rfl) | (simp only [tocvs, tocv, toboxes, tobox, updH_at, Nat.reduceEqDiff, ↓reduceIte, List.map_nil]; rfl)) (by simp) ?_
  simp (disch := omega) only [wk, tis, seval, reduceCtorEq, Nat.reduceEqDiff, rqs, List.map_nil]
  exact not_any
structure VB (p : List RQ) (x : RQ) (B : Nat) : Prop where
  hp : GQ (2 ^ 30) B p
  hx : SzQ B x
  d : nv x.2 ≠ 0
  e : ∀ q : List Rat, q.length ≤ p.length → (∀ c ∈ q, c ∈ qvs p) → qz (evq q (qv x)) ≤ B
  w : ∀ i, i ≤ p.length → qz (qv x ^ i) ≤ B
  b : B ≤ 2 ^ 34
  one : 1 ≤ B
theorem VB.of {n K X B : Nat} {p : List RQ} {x : RQ} (hp : GQ n K p) (hx : SzQ X x) (hd : nv x.2 ≠ 0) (hn : n ≤ 2 ^ 30) (hB : n * (K + X + 1) + K + X + 1 ≤ B) (hB' : B ≤ 2 ^ 34) : VB p x B where
  hp := hp.mono hn (by omega)
  hx := hx.mono (by omega)
  d := hd
  e := fun q hq hc => by
    have h := qz_evq (K := K) (qz_raw hx hd) (p := q) fun c hc' => hp.qb.2 c (hc c hc')
    have h2 := Nat.mul_le_mul_right (K + X + 1) (Nat.le_trans hq hp.1)
    omega
  w := fun i hi => by
    have h := qz_pow (qz_raw hx hd) i
    have h2 := Nat.mul_le_mul_right X (Nat.le_trans hi hp.1)
    have h3 : n * X ≤ n * (K + X + 1) := Nat.mul_le_mul_left n (by omega)
    omega
  b := hB'
  one := by omega
theorem VB.take {p : List RQ} {x : RQ} {B : Nat} (v : VB p x B) (i : Nat) : qz (evq ((qvs p).take i) (qv x)) ≤ B :=
  v.e _ (by rw [List.length_take, qvs_len]; omega) fun c hc => List.mem_of_mem_take hc
theorem VB.drop {p : List RQ} {x : RQ} {B : Nat} (v : VB p x B) (i : Nat) : qz (evq ((qvs p).drop i) (qv x)) ≤ B :=
  v.e _ (by rw [List.length_drop, qvs_len]; omega) fun c hc => List.mem_of_mem_drop hc
theorem crat_zero' : qrow (crat 0) = qrow ((false, []), [1]) := by
  have := crat_int 0
  rw [canon_zero] at this
  exact congrArg qrow this
theorem hone_ok : AC Tryz.prog 15 [ci 1, ci 1] none [cqz 1] := by
  have m := hP_ok 1 1 (by omega) (by omega) (by omega) (by omega)
  rwa [show ((1 : Int) : Rat) / ((1 : Nat) : Rat) = 1 by decide +kernel] at m
end Go.Proofs.YtenlbifnhdmnnaaGreat

namespace Go.Proofs.YtenlbifnhdmnnaaGreat
open Go Go.Proofs Go.AL
set_option linter.unusedSimpArgs false
set_option linter.unusedVariables false
def sgq (q : Rat) : Int := q.num.sign
theorem sgq_pos {q : Rat} (h : 0 < q) : sgq q = 1 := by
  refine Int.sign_eq_one_of_pos ?_
  have h1 : 0 ≤ q.num := Rat.num_nonneg.mpr (Rat.le_of_lt h)
  have h2 : q.num ≠ 0 := fun e => by rw [Rat.num_eq_zero.mp e] at h; exact Rat.lt_irrefl h
  omega
theorem sgq_neg {q : Rat} (h : q < 0) : sgq q = -1 := by
  refine Int.sign_eq_neg_one_of_neg ?_
  have h1 : ¬ 0 ≤ q.num := fun e => Rat.not_le.mpr h (Rat.num_nonneg.mp e)
  omega
theorem sgq_zero : sgq 0 = 0 := rfl
theorem sgq_cases (q : Rat) : (0 < q ∧ sgq q = 1) ∨ (q = 0 ∧ sgq q = 0) ∨ (q < 0 ∧ sgq q = -1) := by
  by_cases h : q < 0
  · exact .inr (.inr ⟨h, sgq_neg h⟩)
  · by_cases h0 : q = 0
    · exact .inr (.inl ⟨h0, by rw [h0]; rfl⟩)
    · have : 0 < q := Rat.lt_of_le_of_ne (Rat.not_lt.mp h) (fun e => h0 e.symm)
      exact .inl ⟨this, sgq_pos this⟩
theorem sgq_mul (p q : Rat) : sgq (p * q) = sgq p * sgq q := by
  have hn : ∀ {x : Rat}, x < 0 → 0 < -x := fun {x} h => by grind
  rcases sgq_cases p with ⟨h1, e1⟩ | ⟨h1, e1⟩ | ⟨h1, e1⟩ <;> rcases sgq_cases q with ⟨h2, e2⟩ | ⟨h2, e2⟩ | ⟨h2, e2⟩ <;> rw [e1, e2]
  · rw [sgq_pos (Rat.mul_pos h1 h2)]; rfl
  · rw [h2, Rat.mul_zero]; rfl
  · have := Rat.mul_pos h1 (hn h2)
    rw [sgq_neg (by rw [Rat.mul_neg] at this; grind)]; rfl
  · rw [h1, Rat.zero_mul]; rfl
  · rw [h1, Rat.zero_mul]; rfl
  · rw [h1, Rat.zero_mul]; rfl
  · have := Rat.mul_pos (hn h1) h2
    rw [sgq_neg (by rw [Rat.neg_mul] at this; grind)]; rfl
  · rw [h2, Rat.mul_zero]; rfl
  · have := Rat.mul_pos (hn h1) (hn h2)
    rw [sgq_pos (by rw [Rat.neg_mul, Rat.mul_neg, Rat.neg_neg] at this; exact this)]; rfl
theorem sgq_int (z : Int) : sgq (z : Rat) = z.sign := by rw [sgq, Rat.num_intCast]
theorem sgq_eq_zero {q : Rat} : sgq q = 0 ↔ q = 0 := by
  rcases sgq_cases q with ⟨h1, e1⟩ | ⟨h1, e1⟩ | ⟨h1, e1⟩ <;> rw [e1]
  · exact ⟨fun h => by omega, fun h => by rw [h] at h1; exact (Rat.lt_irrefl h1).elim⟩
  · exact ⟨fun _ => h1, fun _ => rfl⟩
  · exact ⟨fun h => by omega, fun h => by rw [h] at h1; exact (Rat.lt_irrefl h1).elim⟩
theorem sgq_qv {r : RQ} (h : nv r.2 ≠ 0) : (iv r.1).sign = sgq (qv r) := by
  rw [qv_eq]
  have hp : (0 : Rat) < (nv r.2 : Rat) := Rat.natCast_pos.mpr (by omega)
  have e : (iv r.1 : Rat) = (iv r.1 : Rat) / (nv r.2 : Rat) * (nv r.2 : Rat) := (Rat.div_mul_cancel (Rat.ne_of_gt hp)).symm
  have e2 := congrArg sgq e
  rw [sgq_mul, sgq_int, sgq_pos hp, Int.mul_one] at e2
  exact e2
theorem takez_snoc {q : List Int} {i : Nat} (h : i < q.length) : q.take (i + 1) = q.take i ++ [cf q i] := by
  rw [List.take_add_one]
  congr 1
  simp [cf, List.getD, h]
end Go.Proofs.YtenlbifnhdmnnaaGreat

namespace Go.Proofs.YtenlbifnhdmnnaaGreat
open Go Go.Proofs Go.AL
set_option linter.unusedSimpArgs false
set_option linter.unusedVariables false
structure C12 where
  (P Q : List RI) (R S : List RQ) (A B : RI) (X Y : RQ) (N : Int)
structure Ok12 (x : C12) : Prop where
  P : Raw x.P
  Q : Raw x.Q
  R : RawQ x.R
  S : RawQ x.S
  A : Sz 9223372036854775807 x.A
  B : Sz 9223372036854775807 x.B
  X : SzQ 9223372036854775807 x.X
  Y : SzQ 9223372036854775807 x.Y
  N : -9223372036854775808 ≤ x.N ∧ x.N ≤ 9223372036854775807
structure Fit12 (x : C12) : Prop where
  P : RP 40 200 x.P
  Q : RP 40 200 x.Q
  R : BQ 40 200 x.R
  S : BQ 40 200 x.S
  A : Sz 200 x.A
  B : Sz 200 x.B
  X : SzQ 200 x.X
  Y : SzQ 200 x.Y
end Go.Proofs.YtenlbifnhdmnnaaGreat

namespace Go.Proofs.YtenlbifnhdmnnaaGreat
open Go Go.Proofs Go.AL
set_option linter.unusedSimpArgs false
set_option linter.unusedVariables false
def CD (D M : Nat) (q : Rat) : Prop := ∃ z : Int, q = (z : Rat) / (D : Rat) ∧ zl z ≤ M
theorem CD.mono {D M N : Nat} {q : Rat} (h : CD D M q) (hk : M ≤ N) : CD D N q := by
  obtain ⟨z, e, hz⟩ := h
  exact ⟨z, e, Nat.le_trans hz hk⟩
theorem natr_ne {n : Nat} (h : n ≠ 0) : (n : Rat) ≠ 0 := fun e => h (Rat.natCast_eq_zero_iff.mp e)
theorem CD.add {D M N : Nat} {p q : Rat} (h : CD D M p) (k : CD D N q) : CD D (max M N + 1) (p + q) := by
  obtain ⟨z, e, hz⟩ := h
  obtain ⟨w, f, hw⟩ := k
  refine ⟨z + w, ?_, ?_⟩
  · rw [e, f, Rat.intCast_add, Rat.div_def, Rat.div_def, Rat.div_def, Rat.add_mul]
  · have := zl_add z w
    omega
theorem CD.neg {D M : Nat} {p : Rat} (h : CD D M p) : CD D M (-p) := by
  obtain ⟨z, e, hz⟩ := h
  exact ⟨-z, by rw [e, Rat.intCast_neg, Rat.div_def, Rat.div_def, Rat.neg_mul], by rw [zl_neg]; exact hz⟩
theorem CD.mul {D E M N : Nat} {p q : Rat} (hD : D ≠ 0) (hE : E ≠ 0) (h : CD D M p) (k : CD E N q) : CD (D * E) (M + N) (p * q) := by
  obtain ⟨z, e, hz⟩ := h
  obtain ⟨w, f, hw⟩ := k
  refine ⟨z * w, ?_, ?_⟩
  · have h1 := natr_ne hD
    have h2 := natr_ne hE
    rw [e, f, Rat.intCast_mul, Rat.natCast_mul]
    grind
  · have := zl_mul z w
    omega
theorem CD.up {D E M V : Nat} {q : Rat} (hD : D ≠ 0) (hE : E ≠ 0) (hV : (wd E).length ≤ V) (h : CD D M q) : CD (D * E) (M + V) q := by
  obtain ⟨z, e, hz⟩ := h
  refine ⟨z * E, ?_, ?_⟩
  · have h1 := natr_ne hD
    have h2 := natr_ne hE
    rw [e, Rat.intCast_mul, Rat.natCast_mul, Rat.intCast_natCast]
    grind
  · have := zl_mul z E
    rw [zl_nat] at this
    omega
theorem CD.ofRat (q : Rat) : CD q.den (zl q.num) q := ⟨q.num, by rw [← Rat.mkRat_eq_div]; exact (Rat.mkRat_self q).symm, Nat.le_refl _⟩
theorem CD.size {D M : Nat} {q : Rat} (hD : D ≠ 0) (hw : (wd D).length ≤ M) (h : CD D M q) : qz q ≤ M := by
  obtain ⟨z, e, hz⟩ := h
  rw [e, ← Rat.mkRat_eq_div]
  exact qz_mk hD hz hw
theorem CD.zero (D M : Nat) : CD D M 0 := ⟨0, by rw [Rat.intCast_zero, Rat.div_def, Rat.zero_mul], by rw [zl_zero]; omega⟩
theorem wd_pow {v V : Nat} (h : (wd v).length ≤ V) (n : Nat) : (wd (v ^ n)).length ≤ n * V + 1 := by
  have := zl_pow (a := (v : Int)) (K := V) h n
  unfold zl at this
  rwa [Int.natAbs_pow, Int.natAbs_natCast] at this
theorem pow_ne {v : Nat} (h : v ≠ 0) (n : Nat) : v ^ n ≠ 0 := Nat.ne_of_gt (Nat.pow_pos (Nat.pos_of_ne_zero h))
theorem evq_cd {D K v X V : Nat} {x : Rat} (hD : D ≠ 0) (hv : v ≠ 0) (hV : (wd v).length ≤ V) (hx : CD v X x) : ∀ p : List Rat, (∀ c ∈ p, CD D K c) → CD (D * v ^ p.length) (K + p.length * (X + V + 1) + 1) (evq p x)
  | [], _ => CD.zero _ _
  | c :: p, h => by
    have ih := evq_cd hD hv hV hx p fun c' hc => h c' (List.mem_cons_of_mem _ hc)
    have h1 := (h c (by simp)).up hD (pow_ne hv (p.length + 1)) (wd_pow hV (p.length + 1))
    have h2 := hx.mul hv (Nat.mul_ne_zero hD (pow_ne hv _)) ih
    rw [show v * (D * v ^ p.length) = D * v ^ (p.length + 1) by rw [Nat.pow_succ]; ac_rfl] at h2
    rw [evq, List.length_cons]
    refine (h1.add h2).mono ?_
    have e1 : (p.length + 1) * V = p.length * V + V := Nat.succ_mul _ _
    have e2 : (p.length + 1) * (X + V + 1) = p.length * (X + V + 1) + (X + V + 1) := Nat.succ_mul _ _
    have e3 : p.length * V ≤ p.length * (X + V + 1) := Nat.mul_le_mul_left _ (by omega)
    omega
theorem evq_cdN {D K v X V N : Nat} {x : Rat} (hD : D ≠ 0) (hv : v ≠ 0) (hV : (wd v).length ≤ V) (hx : CD v X x) {p : List Rat} (hp : ∀ c ∈ p, CD D K c) (hN : p.length ≤ N) : CD (D * v ^ N) (K + N * (X + V + 1) + N * V + 2) (evq p x) := by
  have h1 := (evq_cd hD hv hV hx p hp).up (Nat.mul_ne_zero hD (pow_ne hv _)) (pow_ne hv (N - p.length)) (wd_pow hV (N - p.length))
  rw [Nat.mul_assoc, ← Nat.pow_add, show p.length + (N - p.length) = N by omega] at h1
  refine h1.mono ?_
  have e1 : p.length * (X + V + 1) ≤ N * (X + V + 1) := Nat.mul_le_mul_right _ hN
  have e2 : (N - p.length) * V ≤ N * V := Nat.mul_le_mul_right _ (by omega)
  omega
structure CB (D n M : Nat) (q : List Rat) : Prop where
  d : D ≠ 0
  w : (wd D).length ≤ M
  l : q.length ≤ n
  c : ∀ c ∈ q, CD D M c
theorem CB.qb {D n M : Nat} {q : List Rat} (h : CB D n M q) : QB n M q := ⟨h.l, fun c hc => (h.c c hc).size h.d h.w⟩
theorem CB.mono {D n M m N : Nat} {q : List Rat} (h : CB D n M q) (hn : n ≤ m) (hM : M ≤ N) : CB D m N q := ⟨h.d, Nat.le_trans h.w hM, Nat.le_trans h.l hn, fun c hc => (h.c c hc).mono hM⟩
theorem CB.sub {D n M : Nat} {q r : List Rat} (h : CB D n M q) (hl : r.length ≤ n) (hr : ∀ c ∈ r, c ∈ q) : CB D n M r := ⟨h.d, h.w, hl, fun c hc => h.c c (hr c hc)⟩
theorem CB.trim {D n M : Nat} {q : List Rat} (h : CB D n M q) : CB D n M (trimq q) := h.sub (Nat.le_trans (by rw [trimq_len]; exact tzq_le q) h.l) fun c hc => List.mem_of_mem_take hc
theorem qz_parts (q : Rat) : zl q.num ≤ qz q ∧ (wd q.den).length ≤ qz q := ⟨Nat.le_max_left _ _, Nat.le_max_right _ _⟩
theorem one_cd : ∀ {k : Nat} (q : List Rat), (∀ c ∈ q, qz c ≤ k) → ∃ D, D ≠ 0 ∧ (wd D).length ≤ q.length * k + 1 ∧ ∀ c ∈ q, CD D (q.length * k + k + 1) c
  | k, [], _ => ⟨1, by omega, by rw [show wd 1 = [1] by decide +kernel]; simp, fun c hc => nomatch hc⟩
  | k, a :: q, h => by
    obtain ⟨D, hD, hw, hc⟩ := one_cd q fun c hc => h c (List.mem_cons_of_mem _ hc)
    have ha := h a (by simp)
    have hp := qz_parts a
    refine ⟨a.den * D, Nat.mul_ne_zero a.den_nz hD, ?_, fun c hc' => ?_⟩
    · have := AL.wd_mul_len a.den D
      rw [List.length_cons, Nat.succ_mul]
      omega
    · rw [List.length_cons, Nat.succ_mul]
      rcases List.mem_cons.1 hc' with rfl | hc'
      · exact ((CD.ofRat c).up c.den_nz hD hw).mono (by omega)
      · rw [Nat.mul_comm]
        exact ((hc c hc').up hD a.den_nz hp.2).mono (by omega)
theorem QB.cb {n k : Nat} {q : List Rat} (h : QB n k q) : ∃ D, CB D n (n * k + k + 1) q := by
  obtain ⟨D, hD, hw, hc⟩ := one_cd q h.2
  have := Nat.mul_le_mul_right k h.1
  exact ⟨D, hD, by omega, h.1, fun c hc' => (hc c hc').mono (by omega)⟩
def sqq (q : List Rat) (c : Rat) : List Rat := (List.range (q.length - 1)).map fun i => evq (q.drop (i + 1)) c
theorem sqq_len (q : List Rat) (c : Rat) : (sqq q c).length = q.length - 1 := by simp [sqq]
theorem cfq_sqq (q : List Rat) (c : Rat) (i : Nat) : cfq (sqq q c) i = evq (q.drop (i + 1)) c := by
  by_cases h : i < q.length - 1
  · rw [sqq, cfq, List.getD, List.getElem?_map, List.getElem?_range h]; rfl
  · rw [cfq_ge (by rw [sqq_len]; omega), List.drop_of_length_le (by omega)]; rfl
theorem CB.sqq {D n M v X V : Nat} {q : List Rat} {x : Rat} (h : CB D n M q) (hv : v ≠ 0) (hV : (wd v).length ≤ V) (hx : CD v X x) : CB (D * v ^ n) n (M + n * (X + V + 1) + n * V + 2) (sqq q x) where
  d := Nat.mul_ne_zero h.d (pow_ne hv _)
  w := by
    have h1 := AL.wd_mul_len D (v ^ n)
    have h2 := wd_pow hV n
    have h3 := h.w
    omega
  l := by rw [sqq_len]; have := h.l; omega
  c := fun c hc => by
    obtain ⟨i, _, rfl⟩ := List.mem_map.1 hc
    exact evq_cdN h.d hv hV hx (fun c hc => h.c c (List.mem_of_mem_drop hc)) (by rw [List.length_drop]; have := h.l; omega)
theorem trimq_full {q : List Rat} (h : trimq q = q) : tzq q = q.length := by rw [← trimq_len, h]
theorem sqq_tz {q : List Rat} {c : Rat} (h : trimq q = q) (h0 : q.length ≠ 0) (he : evq q c = 0) : tzq (sqq q c) = q.length - 1 ∧ q.length - 1 ≠ 0 := by
  have ht := trimq_full h
  have h1 : q.length ≠ 1 := fun e => by
    match q, e with
    | [a], _ =>
      have := cfq_tzq_pred (q := [a]) (by rw [ht]; simp)
      rw [ht] at this
      rw [evq, evq] at he
      exact this (by show a = 0; rw [← he]; grind)
  have h2 : cfq (sqq q c) (q.length - 2) ≠ 0 := by
    have := cfq_tzq_pred (q := q) (by rw [ht]; exact h0)
    rw [ht] at this
    rw [cfq_sqq, show q.length - 2 + 1 = q.length - 1 by omega, List.drop_eq_getElem_cons (by omega), evq, List.drop_of_length_le (by omega), evq]
    rw [cfq_lt (by omega)] at this
    intro e
    exact this (by rw [← e]; grind)
  have := tzq_spec h2 fun k hk => by rw [cfq_sqq, List.drop_of_length_le (by omega)]; rfl
  exact ⟨by omega, by omega⟩
def qit (q : List Rat) (c : Rat) : Nat → List Rat
  | 0 => q
  | k + 1 => trimq (sqq (qit q c k) c)
theorem qit_len {q : List Rat} {c : Rat} (h : trimq q = q) (h0 : q.length ≠ 0) : ∀ k, (∀ j, j < k → evq (qit q c j) c = 0) → (qit q c k).length + k = q.length ∧ (qit q c k).length ≠ 0 ∧ trimq (qit q c k) = qit q c k
  | 0, _ => ⟨rfl, h0, h⟩
  | k + 1, hk => by
    obtain ⟨h1, h2, h3⟩ := qit_len h h0 k fun j hj => hk j (by omega)
    obtain ⟨h4, h5⟩ := sqq_tz h3 h2 (hk k (by omega))
    refine ⟨?_, ?_, trimq_trimq _⟩
    · rw [qit, trimq_len]; omega
    · rw [qit, trimq_len]; omega
theorem first_of {P : Nat → Prop} (h : ∃ n, P n) : ∃ n, P n ∧ ∀ j, j < n → ¬ P j := by
  obtain ⟨n, hn⟩ := h
  induction n using Nat.strongRecOn with
  | _ n ih =>
    by_cases hm : ∃ m, m < n ∧ P m
    · obtain ⟨m, hm1, hm2⟩ := hm
      exact ih m hm1 hm2
    · exact ⟨n, hn, fun j hj hp => hm ⟨j, hj, hp⟩⟩
end Go.Proofs.YtenlbifnhdmnnaaGreat

namespace Go.Proofs.YtenlbifnhdmnnaaGreat
open Go Go.Proofs Go.AL
set_option linter.unusedSimpArgs false
set_option linter.unusedVariables false
theorem qpzero_ok (r : RQ) (h : SzQ (2 ^ 38) r) (h0 : nv r.2 ≠ 0) : AC Tryz.prog 112 [cqq r] none [cb (decide (qv r = 0))] := by
  have s := qsign_ok r h h0
  refine AC.by_walk (rs := [.tmp 2]) ords Tryz.func112 (by rfl) (by rfl) (by rfl) (by rfl) (by rfl) ?_
  simp (disch := omega) only [wk, tis, seval, reduceCtorEq, Nat.reduceEqDiff, rqs]
  refine call_by (s) (by rfl) (by simp) ?_
  simp (disch := omega) only [wk, tis, seval, reduceCtorEq, Nat.reduceEqDiff, rqs]
  rw [decide_eq_decide, qv_zero h0]
  exact Int.sign_eq_zero_iff_zero
theorem qtrim_ok (p : List RQ) (h : GQ (2 ^ 40) (2 ^ 38) p) : AC Tryz.prog 70 [cqw p] none [cqw (p.take (tzq (qvs p)))] := by
  refine AC.by_walk (rs := [.tmp 2]) ords Tryz.func70 (by rfl) (by rfl) (by rfl) (by rfl) (by rfl) ?_
  have hl := h.1
  have htl := tzq_le (qvs p)
  rw [qvs_len] at htl
  simp (disch := omega) only [wk, tis, seval, reduceCtorEq, Nat.reduceEqDiff, rqs]
  refine aloop_by (fun f H => ∃ k : Nat, k ≤ p.length ∧ f 0 = .iv (.sl (rats p)) ∧ f 3 = .iv (.int .i64 k) ∧ tzq ((qvs p).take k) = tzq (qvs p)) (fun f H => (intAt f 3).toNat) ?_ ?_
  · exact ⟨p.length, Nat.le_refl _, by simp (disch := omega) only [wk, tis, seval, reduceCtorEq, Nat.reduceEqDiff, rqs], by simp (disch := omega) only [wk, tis, seval, reduceCtorEq, Nat.reduceEqDiff, rqs], by rw [← qvs_len p, List.take_length]⟩
  rintro f H ⟨k, hk, h0, h3, ht⟩
  rw [intAt_of h3]
  by_cases hc : 0 < (k : Int)
  · simp (disch := omega) only [wk, tis, seval, reduceCtorEq, Nat.reduceEqDiff, rqs, h0, h3, hc]
    have ek : ((k : Int) - 1).toNat = k - 1 := by omega
    have ek' : k = (k - 1) + 1 := by omega
    rw [ek]
    have hr := h.get (i := k - 1) (by omega)
    refine call_by ((qpzero_ok (p.getD (k - 1) q0) hr (h.den (by omega)))) (by first | rfl | (simp only [tocvs, tocv, h0, h3, hc]; rfl) | (simp only [tocvs, tocv, toboxes, tobox, updH_at, Nat.reduceEqDiff, ↓reduceIte, h0, h3, hc]; rfl)) (by simp) ?_
    simp (disch := omega) only [wk, tis, seval, reduceCtorEq, Nat.reduceEqDiff, rqs, h0, h3, hc]
    by_cases hz : qv (p.getD (k - 1) q0) = 0
    · simp (disch := omega) only [wk, tis, seval, reduceCtorEq, Nat.reduceEqDiff, rqs, h0, h3, hz]
      rw [← cfq_qvs] at hz
      refine ⟨⟨k - 1, by omega, by omega, ?_⟩, by omega⟩
      rw [← tzq_take_zero (k := k - 1) (by rw [qvs_len]; omega) hz, ← ek', ht]
    · simp (disch := omega) only [wk, tis, seval, reduceCtorEq, Nat.reduceEqDiff, rqs, h0, h3, hz]
      have hk : k = tzq (qvs p) := by
        rw [← cfq_qvs] at hz
        have := tzq_full (q := qvs p) (k := k - 1) (by rw [qvs_len]; omega) hz
        rw [← ek', ht] at this; exact this.symm
      rw [← hk]
  · have hk : k = tzq (qvs p) := by
      obtain rfl : k = 0 := by omega
      rw [← ht]; rfl
    simp (disch := omega) only [wk, tis, seval, reduceCtorEq, Nat.reduceEqDiff, rqs, h0, h3, hc]
    rw [← hk]
theorem trim_own {q : List Rat} : (q.map crat).take (tzq (qvs (q.map crat))) = cqs q := by rw [qvs_map, ← List.map_take]; rfl
theorem qtrim_own (q : List Rat) (h : QB (2 ^ 40) (2 ^ 38) q) : AC Tryz.prog 70 [cqw (q.map crat)] none [cqp q] := by
  have m := qtrim_ok (q.map crat) h.gq
  rwa [trim_own] at m
theorem qpnorm_ok (p : List RQ) (h : GQ (2 ^ 40) (2 ^ 38) p) : AC Tryz.prog 31 [cqw p] none [cqp (qvs p), ci 0] := by
  refine AC.by_walk (rs := [.tmp 2, .tmp 3]) ords Tryz.func31 (by rfl) (by rfl) (by rfl) (by rfl) (by rfl) ?_
  have hl := h.1
  simp (disch := omega) only [wk, tis, seval, reduceCtorEq, Nat.reduceEqDiff, rqs]
  refine aloop_nil 4 4 46 3 (by simp (disch := omega) only [wk, tis, seval, reduceCtorEq, Nat.reduceEqDiff, rqs]) (fun f H => ∃ (i st : Nat), i ≤ p.length ∧ f 11 = .iv (.int .i64 i) ∧ f 9 = .iv (.sl (rats p)) ∧ f 10 = .iv (.int .i64 p.length) ∧ f 4 = .hs 4 st ∧ H 4 = .blk false st 46 3 (rats (((qvs p).take i).map crat))) (fun f H => (p.length - intAt f 11).toNat) ?_ ?_
  · refine ⟨0, 1, by omega, ?_⟩
    simp (disch := omega) only [wk, tis, seval, reduceCtorEq, Nat.reduceEqDiff, rqs, ghostF, ghostH, List.take_zero, List.map_nil]
  rintro f H ⟨i, st, hi, hF⟩
  rw [intAt_of hF.1]
  simp (disch := omega) only [wk, tis, seval, reduceCtorEq, Nat.reduceEqDiff, rqs, hF]
  refine if_by (fun hlt => ?_) (fun hlt => ?_)
  · have hlt' : i < p.length := by omega
    have hq : (((qvs p).take i).map crat).length = i := by rw [List.length_map, List.length_take, qvs_len]; omega
    have m := qnorm_ok (p.getD i q0) (h.get hlt') (h.den hlt')
    rw [← cfq_qvs] at m
    simp (disch := omega) only [wk, tis, seval, reduceCtorEq, Nat.reduceEqDiff, rqs, hF, hq]
    refine call_by (m) (by first | rfl | (simp only [tocvs, tocv, hF, hq]; rfl) | (simp only [tocvs, tocv, toboxes, tobox, updH_at, Nat.reduceEqDiff, ↓reduceIte, hF, hq]; rfl)) (by simp) ?_
    simp (disch := omega) only [wk, tis, seval, reduceCtorEq, Nat.reduceEqDiff, rqs, hF, hq]
    have e := takeq_snoc (q := qvs p) (i := i) (by rw [qvs_len]; omega)
    refine ⟨⟨i + 1, st + 1, by omega, ?_⟩, by omega⟩
    rw [e, List.map_append]
    (repeat' apply And.intro) <;> first | rfl | omega
  · simp (disch := omega) only [wk, tis, seval, reduceCtorEq, Nat.reduceEqDiff, rqs, hF]
    rw [List.take_of_length_le (by rw [qvs_len]; omega)] at hF
    have m := qtrim_own (qvs p) h.qb
    refine call_by (m) (by first | rfl | (simp only [tocvs, tocv, hF]; rfl) | (simp only [tocvs, tocv, toboxes, tobox, updH_at, Nat.reduceEqDiff, ↓reduceIte, hF]; rfl)) (by simp) ?_
    simp (disch := omega) only [wk, tis, seval, reduceCtorEq, Nat.reduceEqDiff, rqs, hF]
end Go.Proofs.YtenlbifnhdmnnaaGreat

namespace Go.Proofs.YtenlbifnhdmnnaaGreat
open Go Go.Proofs Go.AL
set_option linter.unusedSimpArgs false
set_option linter.unusedVariables false
theorem cratq_get {q : List Rat} {i : Nat} (h : i < q.length) : (q.map crat).getD i q0 = crat (cfq q i) := by simp [cfq, List.getD, h]
structure SB (A : List Rat) (x : RQ) (B : Nat) : Prop where
  l : A.length ≤ 2 ^ 30
  c : ∀ i, i < A.length → qz (cfq A i) ≤ B
  e : ∀ i, qz (evq (A.drop i) (qv x)) ≤ B
  hx : SzQ B x
  d : nv x.2 ≠ 0
  b : B ≤ 2 ^ 34
  one : 1 ≤ B
theorem VB.sb {p : List RQ} {x : RQ} {B : Nat} (v : VB p x B) : SB (trimq (qvs p)) x B where
  l := by rw [trimq_len]; exact Nat.le_trans (tzq_le _) (by rw [qvs_len]; exact v.hp.1)
  c := fun i hi => by
    have := v.hp.qb.trimq
    exact this.cz v.one i
  e := fun i => v.e _ (by rw [List.length_drop, trimq_len]; have := tzq_le (qvs p); rw [qvs_len] at this; omega) fun c hc => List.mem_of_mem_take (List.mem_of_mem_drop hc)
  hx := v.hx
  d := v.d
  b := v.b
  one := v.one
end Go.Proofs.YtenlbifnhdmnnaaGreat

namespace Go.Proofs.YtenlbifnhdmnnaaGreat
open Go Go.Proofs Go.AL
set_option linter.unusedSimpArgs false
set_option linter.unusedVariables false
structure TB (A : List Rat) (x : RQ) (n : Nat) : Prop where
  t : trimq A = A
  l : A.length ≤ 2 ^ 30
  n0 : A.length ≠ 0
  z : ∀ j, j < n → evq (qit A (qv x) j) (qv x) = 0
  e : evq (qit A (qv x) n) (qv x) ≠ 0
  v : ∀ k, k ≤ n → VB ((qit A (qv x) k).map crat) x (2 ^ 34)
theorem TB.le {A : List Rat} {x : RQ} {n : Nat} (h : TB A x n) {k : Nat} (hk : k ≤ n) : (qit A (qv x) k).length + k = A.length ∧ (qit A (qv x) k).length ≠ 0 ∧ trimq (qit A (qv x) k) = qit A (qv x) k :=
  qit_len h.t h.n0 k fun j hj => h.z j (by omega)
end Go.Proofs.YtenlbifnhdmnnaaGreat

namespace Go.Proofs.YtenlbifnhdmnnaaGreat
open Go Go.Proofs Go.AL
set_option linter.unusedSimpArgs false
set_option linter.unusedVariables false
end Go.Proofs.YtenlbifnhdmnnaaGreat

namespace Go.Proofs.YtenlbifnhdmnnaaGreat
open Go Go.Proofs Go.AL
set_option linter.unusedSimpArgs false
set_option linter.unusedVariables false
theorem lay_rat1 (l : List (List IV)) : lay (fun i => [(0, 2), (2, 1)][i]?) [.bool false, .sl [], .sl []] ([1].zip [[.sl l]]) = some ((1 = 1 ∧ 2 + 1 ≤ 3) ∧ True, [.bool false, .sl [], .sl l]) := rfl
theorem qnone_ok : AC Tryz.prog 71 [] none [cqz 0] := by
  have m := nof_ok 1 (by decide)
  rw [show wd 1 = [1] by decide +kernel] at m
  rw [show cqz 0 = .agg (qrow ((false, []), [1])) from congrArg CV.agg crat_zero']
  have hl := lay_rat1
  refine AC.by_walk (rs := [.cell 0 46]) ords Tryz.func71 (by rfl) (by rfl) (by rfl) (by rfl) (by rfl) ?_
  simp (disch := omega) only [wk, tis, seval, reduceCtorEq, Nat.reduceEqDiff, rqs, hl]
  refine call_by (m) (by first | rfl | (simp only [tocvs, tocv, hl]; rfl) | (simp only [tocvs, tocv, toboxes, tobox, updH_at, Nat.reduceEqDiff, ↓reduceIte, hl]; rfl)) (by simp) ?_
  simp (disch := omega) only [wk, tis, seval, reduceCtorEq, Nat.reduceEqDiff, rqs, hl]
  try rfl
theorem qcoef_ok (A : List Rat) (n : Int) (h : QB (2 ^ 40) (2 ^ 38) A) : AC Tryz.prog 114 [cqw (A.map crat), ci n] none [cqz (if n < 0 then 0 else cfq A n.toNat)] := by
  have hl := h.1
  have hq : (A.map crat).length = A.length := List.length_map _
  refine AC.by_walk (rs := [.cell 4 46]) ords Tryz.func114 (by rfl) (by rfl) (by rfl) (by rfl) (by rfl) ?_
  by_cases h0 : n < 0
  · rw [if_pos h0]
    simp (disch := omega) only [wk, tis, seval, reduceCtorEq, Nat.reduceEqDiff, rqs, h0]
    refine call_by (qnone_ok) (by first | rfl | (simp only [tocvs, tocv, h0]; rfl) | (simp only [tocvs, tocv, toboxes, tobox, updH_at, Nat.reduceEqDiff, ↓reduceIte, h0]; rfl)) (by simp) ?_
    simp (disch := omega) only [wk, tis, seval, reduceCtorEq, Nat.reduceEqDiff, rqs, h0]
    try rfl
  · rw [if_neg h0]
    obtain ⟨i, rfl⟩ : ∃ i : Nat, n = i := ⟨n.toNat, by omega⟩
    rw [Int.toNat_natCast]
    by_cases h1 : i < A.length
    · have h2 : ¬ (A.length : Int) ≤ (i : Int) := by omega
      have m := qnorm_ok (crat (cfq A i)) (szq_crat (h.cz (by omega) i)) (nv_crat0 _)
      rw [qv_crat] at m
      have e := cratq_get h1
      simp (disch := omega) only [wk, tis, seval, reduceCtorEq, Nat.reduceEqDiff, rqs, h0, h2, hq, e]
      refine call_by (m) (by first | rfl | (simp only [tocvs, tocv, h0, h2, hq, e]; rfl) | (simp only [tocvs, tocv, toboxes, tobox, updH_at, Nat.reduceEqDiff, ↓reduceIte, h0, h2, hq, e]; rfl)) (by simp) ?_
      simp (disch := omega) only [wk, tis, seval, reduceCtorEq, Nat.reduceEqDiff, rqs, h0, h2, hq, e]
      try rfl
    · have h2 : (A.length : Int) ≤ (i : Int) := by omega
      rw [cfq_ge (by omega)]
      simp (disch := omega) only [wk, tis, seval, reduceCtorEq, Nat.reduceEqDiff, rqs, h0, h2, hq]
      refine call_by (qnone_ok) (by first | rfl | (simp only [tocvs, tocv, h0, h2, hq]; rfl) | (simp only [tocvs, tocv, toboxes, tobox, updH_at, Nat.reduceEqDiff, ↓reduceIte, h0, h2, hq]; rfl)) (by simp) ?_
      simp (disch := omega) only [wk, tis, seval, reduceCtorEq, Nat.reduceEqDiff, rqs, h0, h2, hq]
      try rfl
theorem qcoef_nat (A : List Rat) (i : Nat) (h : QB (2 ^ 40) (2 ^ 38) A) : AC Tryz.prog 114 [cqw (A.map crat), ci i] none [cqz (cfq A i)] := by
  have := qcoef_ok A i h
  rwa [if_neg (by omega), Int.toNat_natCast] at this
theorem qboth_ok (p q : List RQ) (hp : GQ (2 ^ 40) (2 ^ 38) p) (hq : GQ (2 ^ 40) (2 ^ 38) q) : AC Tryz.prog 78 [cqw p, cqw q] none [cqp (qvs p), cqp (qvs q), ci 0] := by
  have m := qpnorm_ok p hp
  have n := qpnorm_ok q hq
  refine AC.by_walk (rs := [.tmp 4, .tmp 5, .tmp 6]) ords Tryz.func78 (by rfl) (by rfl) (by rfl) (by rfl) (by rfl) ?_
  simp (disch := omega) only [wk, tis, seval, reduceCtorEq, Nat.reduceEqDiff, rqs]
  refine call_by (m) (by rfl) (by simp) ?_
  simp (disch := omega) only [wk, tis, seval, reduceCtorEq, Nat.reduceEqDiff, rqs]
  refine call_by (n) (by rfl) (by simp) ?_
  simp (disch := omega) only [wk, tis, seval, reduceCtorEq, Nat.reduceEqDiff, rqs]
  try rfl
def zipq (F : Rat → Rat → Rat) (A B : List Rat) : List Rat := (List.range (max A.length B.length)).map fun k => F (cfq A k) (cfq B k)
theorem zipq_len (F : Rat → Rat → Rat) (A B : List Rat) : (zipq F A B).length = max A.length B.length := by simp [zipq]
theorem cfq_zipq {F : Rat → Rat → Rat} (hF : F 0 0 = 0) (A B : List Rat) (k : Nat) : cfq (zipq F A B) k = F (cfq A k) (cfq B k) := by
  by_cases h : k < max A.length B.length
  · simp only [zipq, cfq, List.getD, List.getElem?_map, List.getElem?_range h, Option.map_some, Option.getD_some]
  · rw [cfq_ge (by rw [zipq_len]; omega), cfq_ge (by omega), cfq_ge (by omega), hF]
theorem qeach_ok (p q : List RQ) (g : Nat) (F : Rat → Rat → Rat) (K : Nat) (hp : GQ (2 ^ 30) K p) (hq : GQ (2 ^ 30) K q) (hK : K ≤ 2 ^ 35) (hK1 : 1 ≤ K) (hF0 : F 0 0 = 0) (hs : ∀ a b, qz a ≤ K → qz b ≤ K → qz (F a b) ≤ 2 ^ 38)
    (hop : ∀ a b, qz a ≤ K → qz b ≤ K → AC Tryz.prog g [cqz a, cqz b] none [cqz (F a b), ci 0]) : AC Tryz.prog 84 [cqw p, cqw q, .fn g []] none [cqp (zipq F (qvs p) (qvs q)), ci 0] := by
  have m := qboth_ok p q (hp.mono (by omega) (by omega)) (hq.mono (by omega) (by omega))
  have hA := hp.qb.trimq
  have hB := hq.qb.trimq
  have e : cqp (zipq F (qvs p) (qvs q)) = cqp (zipq F (trimq (qvs p)) (trimq (qvs q))) := congrArg cqw (cqs_ext fun k => by rw [cfq_zipq hF0, cfq_zipq hF0, cfq_trimq, cfq_trimq])
  rw [e]
  refine AC.by_walk (rs := [.tmp 6, .tmp 7]) ords Tryz.func84 (by rfl) (by rfl) (by rfl) (by rfl) (by rfl) ?_
  simp (disch := omega) only [wk, tis, seval, reduceCtorEq, Nat.reduceEqDiff, rqs]
  refine call_by (m) (by rfl) (by simp) ?_
  simp (disch := omega) only [wk, tis, seval, reduceCtorEq, Nat.reduceEqDiff, rqs]
  unfold cqs
  generalize trimq (qvs p) = A at *
  generalize trimq (qvs q) = B at *
  have hAl := hA.1
  have hBl := hB.1
  have hqa : (A.map crat).length = A.length := List.length_map _
  have hqb : (B.map crat).length = B.length := List.length_map _
  have hRl := zipq_len F A B
  have hR : QB (2 ^ 40) (2 ^ 38) (zipq F A B) := .of (by omega) fun i => by rw [cfq_zipq hF0]; exact hs _ _ (hA.cz hK1 i) (hB.cz hK1 i)
  obtain ⟨n, hn⟩ : ∃ n, n = max A.length B.length := ⟨_, rfl⟩
  have hnI : max (A.length : Int) (B.length : Int) = (n : Int) := by omega
  rw [← hn] at hRl
  simp (disch := omega) only [wk, tis, seval, reduceCtorEq, Nat.reduceEqDiff, rqs, hqa, hqb, hnI]
  refine aloop_nil 11 11 46 3 (by simp (disch := omega) only [wk, tis, seval, reduceCtorEq, Nat.reduceEqDiff, rqs]) (fun f H => ∃ (i st : Nat), i ≤ n ∧ f 30 = .iv (.int .i64 i) ∧ f 29 = .iv (.int .i64 n) ∧ f 8 = .iv (.sl (rats (A.map crat))) ∧ f 9 = .iv (.sl (rats (B.map crat))) ∧ f 2 = .fn g [] ∧ f 11 = .hs 11 st ∧ H 11 = .blk false st 46 3 (rats (((zipq F A B).take i).map crat))) (fun f H => (n - intAt f 30).toNat) ?_ ?_
  · refine ⟨0, 1, by omega, ?_⟩
    simp (disch := omega) only [wk, tis, seval, reduceCtorEq, Nat.reduceEqDiff, rqs, ghostF, ghostH, List.take_zero, List.map_nil, hqa, hqb, hnI]
  rintro f H ⟨i, st, hi, hF⟩
  rw [intAt_of hF.1]
  simp (disch := omega) only [wk, tis, seval, reduceCtorEq, Nat.reduceEqDiff, rqs, hF]
  refine if_by (fun hlt => ?_) (fun hlt => ?_)
  · have hq : (((zipq F A B).take i).map crat).length = i := by rw [List.length_map, List.length_take]; omega
    have c1 := qcoef_nat A i (hA.mono (by omega) (by omega))
    have c2 := qcoef_nat B i (hB.mono (by omega) (by omega))
    have o := hop (cfq A i) (cfq B i) (hA.cz hK1 i) (hB.cz hK1 i)
    simp (disch := omega) only [wk, tis, seval, reduceCtorEq, Nat.reduceEqDiff, rqs, hF, hq]
    refine call_by (c1) (by first | rfl | (simp only [tocvs, tocv, hF, hq]; rfl) | (simp only [tocvs, tocv, toboxes, tobox, updH_at, Nat.reduceEqDiff, ↓reduceIte, hF, hq]; rfl)) (by simp) ?_
    simp (disch := omega) only [wk, tis, seval, reduceCtorEq, Nat.reduceEqDiff, rqs, hF, hq]
    refine call_by (c2) (by first | rfl | (simp only [tocvs, tocv, hF, hq]; rfl) | (simp only [tocvs, tocv, toboxes, tobox, updH_at, Nat.reduceEqDiff, ↓reduceIte, hF, hq]; rfl)) (by simp) ?_
    simp (disch := omega) only [wk, tis, seval, reduceCtorEq, Nat.reduceEqDiff, rqs, hF, hq]
    refine call_by (o) (by first | rfl | (simp only [tocvs, tocv, hF, hq]; rfl) | (simp only [tocvs, tocv, toboxes, tobox, updH_at, Nat.reduceEqDiff, ↓reduceIte, hF, hq]; rfl)) (by simp) ?_
    simp (disch := omega) only [wk, tis, seval, reduceCtorEq, Nat.reduceEqDiff, rqs, hF, hq]
    have e := takeq_snoc (q := zipq F A B) (i := i) (by omega)
    rw [cfq_zipq hF0] at e
    refine ⟨⟨i + 1, st + 1, by omega, ?_⟩, by omega⟩
    rw [e, List.map_append]
    (repeat' apply And.intro) <;> first | rfl | omega
  · simp (disch := omega) only [wk, tis, seval, reduceCtorEq, Nat.reduceEqDiff, rqs, hF]
    rw [List.take_of_length_le (by omega)] at hF
    have m := qtrim_own (zipq F A B) hR
    refine call_by (m) (by first | rfl | (simp only [tocvs, tocv, hF]; rfl) | (simp only [tocvs, tocv, toboxes, tobox, updH_at, Nat.reduceEqDiff, ↓reduceIte, hF]; rfl)) (by simp) ?_
    simp (disch := omega) only [wk, tis, seval, reduceCtorEq, Nat.reduceEqDiff, rqs, hF]
def subq (A B : List Rat) : List Rat := zipq (fun a b => a - b) A B
theorem cfq_subq (A B : List Rat) (k : Nat) : cfq (subq A B) k = cfq A k - cfq B k := cfq_zipq (by decide +kernel) A B k
theorem qz_neg (q : Rat) : qz (-q) = qz q := by unfold qz; rw [Rat.neg_num, Rat.neg_den, zl_neg]
theorem qz_sub (p q : Rat) : qz (p - q) ≤ qz p + qz q + 1 := by
  rw [Rat.sub_eq_add_neg]
  have := qz_add p (-q)
  rwa [qz_neg] at this
theorem qpsub_ok (p q : List RQ) (K : Nat) (hp : GQ (2 ^ 30) K p) (hq : GQ (2 ^ 30) K q) (hK : K ≤ 2 ^ 35) (hK1 : 1 ≤ K) : AC Tryz.prog 82 [cqw p, cqw q] none [cqp (subq (qvs p) (qvs q)), ci 0] := by
  have m := qeach_ok p q 81 (fun a b => a - b) K hp hq hK hK1 (by decide +kernel) (fun a b ha hb => by have := qz_sub a b; omega) (fun a b ha hb => by
    have := qsub_ok (crat a) (crat b) (szq_crat (by omega)) (szq_crat (by omega)) (nv_crat0 _) (nv_crat0 _)
    rwa [qv_crat, qv_crat] at this)
  refine AC.by_walk (rs := [.tmp 4, .tmp 5]) ords Tryz.func82 (by rfl) (by rfl) (by rfl) (by rfl) (by rfl) ?_
  simp (disch := omega) only [wk, tis, seval, reduceCtorEq, Nat.reduceEqDiff, rqs, List.map_nil]
  refine call_by (m) (by first | rfl | (simp only [tocvs, tocv, List.map_nil]; rfl) | (simp only [tocvs, tocv, toboxes, tobox, updH_at, Nat.reduceEqDiff, ↓reduceIte, List.map_nil]; rfl)) (by simp) ?_
  simp (disch := omega) only [wk, tis, seval, reduceCtorEq, Nat.reduceEqDiff, rqs, List.map_nil]
  try rfl
end Go.Proofs.YtenlbifnhdmnnaaGreat

namespace Go.Proofs.YtenlbifnhdmnnaaGreat
open Go Go.Proofs Go.AL
set_option linter.unusedSimpArgs false
set_option linter.unusedVariables false
theorem gzero_ok (a : List Nat) (h : Nt (2 ^ 42) a) : AC Tryz.prog 173 [cl a] none [cb (decide (nv a = 0))] := by
  have m := nbits_ok a h.2 h.1
  refine AC.by_walk (rs := [.tmp 2]) ords Tryz.func173 (by rfl) (by rfl) (by rfl) (by rfl) (by rfl) ?_
  simp (disch := omega) only [wk, tis, seval, reduceCtorEq, Nat.reduceEqDiff, rqs, natsr_len, natsr_at, natsr_snoc, natsr_app, natsr_rows, natsr_nil]
  refine call_by (m) (by rfl) (by simp) ?_
  simp (disch := omega) only [wk, tis, seval, reduceCtorEq, Nat.reduceEqDiff, rqs, natsr_len, natsr_at, natsr_snoc, natsr_app, natsr_rows, natsr_nil]
  rw [decide_eq_decide]
  constructor
  · intro e; exact bl_zero.mp (by omega)
  · intro e; rw [bl_zero.mpr e]; rfl
theorem gquo_ok (a b : List Nat) (ha : Nt (2 ^ 38) a) (hb : Nt (2 ^ 38) b) (h0 : nv b ≠ 0) : AC Tryz.prog 174 [cl a, cl b] none [cl (wd (nv a / nv b))] := by
  have m := quo_ok a b ha.2 hb.2 ha.1 hb.1 h0
  refine AC.by_walk (rs := [.tmp 4]) ords Tryz.func174 (by rfl) (by rfl) (by rfl) (by rfl) (by rfl) ?_
  simp (disch := omega) only [wk, tis, seval, reduceCtorEq, Nat.reduceEqDiff, rqs, natsr_len, natsr_at, natsr_snoc, natsr_app, natsr_rows, natsr_nil]
  refine call_by (m) (by rfl) (by simp) ?_
  simp (disch := omega) only [wk, tis, seval, reduceCtorEq, Nat.reduceEqDiff, rqs, natsr_len, natsr_at, natsr_snoc, natsr_app, natsr_rows, natsr_nil]
theorem lcm_val (a b : Nat) : a / Nat.gcd a b * b = Nat.lcm a b := by
  unfold Nat.lcm
  rcases Nat.eq_zero_or_pos (Nat.gcd a b) with h | h
  · rw [h, Nat.div_zero, Nat.div_zero, Nat.zero_mul]
  · obtain ⟨k, hk⟩ := Nat.gcd_dvd_left a b
    have e : a / Nat.gcd a b = k := Nat.div_eq_of_eq_mul_right h hk
    rw [e]
    refine (Nat.div_eq_of_eq_mul_right h ?_).symm
    rw [← Nat.mul_assoc, ← hk]
theorem lcm_len {a b j k : Nat} (ha : (wd a).length ≤ j) (hb : (wd b).length ≤ k) : (wd (Nat.lcm a b)).length ≤ j + k :=
  Nat.le_trans (wd_len_mono (Nat.div_le_self _ _)) (wd_len2 ha hb)
theorem lcm_ne {a b : Nat} (ha : a ≠ 0) (hb : b ≠ 0) : Nat.lcm a b ≠ 0 := Nat.lcm_ne_zero ha hb
theorem glcm_ok (a b : List Nat) (ha : Nt (2 ^ 35) a) (hb : Nt (2 ^ 35) b) (h0 : nv a ≠ 0) (h1 : nv b ≠ 0) : AC Tryz.prog 160 [cl a, cl b] none [cl (wd (Nat.lcm (nv a) (nv b)))] := by
  have z1 := gzero_ok a ⟨Nat.le_trans ha.1 (by omega), ha.2⟩
  have z2 := gzero_ok b ⟨Nat.le_trans hb.1 (by omega), hb.2⟩
  rw [decide_eq_false h0] at z1
  rw [decide_eq_false h1] at z2
  have g := gcd_ok a b ha.2 hb.2 (Nat.le_trans ha.1 (by omega)) (Nat.le_trans hb.1 (by omega))
  have hgp : Nat.gcd (nv a) (nv b) ≠ 0 := Nat.ne_of_gt (Nat.gcd_pos_of_pos_right _ (by omega))
  have hgl : (wd (Nat.gcd (nv a) (nv b))).length ≤ 2 ^ 38 := Nat.le_trans (wd_len_mono (Nat.gcd_le_right _ (by omega))) (Nat.le_trans (nv_len hb.2) (Nat.le_trans hb.1 (by omega)))
  have q := gquo_ok a (wd (Nat.gcd (nv a) (nv b))) ⟨Nat.le_trans ha.1 (by omega), ha.2⟩ ⟨hgl, lim_wd _⟩ (by rw [nv_wd]; exact hgp)
  rw [nv_wd] at q
  have m := mmul_ok (wd (nv a / Nat.gcd (nv a) (nv b))) b (lim_wd _) hb.2 (Nat.le_trans (wd_len_mono (Nat.div_le_self _ _)) (Nat.le_trans (nv_len ha.2) (Nat.le_trans ha.1 (by omega)))) (Nat.le_trans hb.1 (by omega))
  rw [nv_wd, lcm_val] at m
  refine AC.by_walk (rs := [.tmp 4]) ords Tryz.func160 (by rfl) (by rfl) (by rfl) (by rfl) (by rfl) ?_
  simp (disch := omega) only [wk, tis, seval, reduceCtorEq, Nat.reduceEqDiff, rqs, natsr_len, natsr_at, natsr_snoc, natsr_app, natsr_rows, natsr_nil]
  refine call_by (z1) (by rfl) (by simp) ?_
  simp (disch := omega) only [wk, tis, seval, reduceCtorEq, Nat.reduceEqDiff, rqs, natsr_len, natsr_at, natsr_snoc, natsr_app, natsr_rows, natsr_nil]
  refine call_by (z2) (by rfl) (by simp) ?_
  simp (disch := omega) only [wk, tis, seval, reduceCtorEq, Nat.reduceEqDiff, rqs, natsr_len, natsr_at, natsr_snoc, natsr_app, natsr_rows, natsr_nil]
  refine call_by (g) (by rfl) (by simp) ?_
  simp (disch := omega) only [wk, tis, seval, reduceCtorEq, Nat.reduceEqDiff, rqs, natsr_len, natsr_at, natsr_snoc, natsr_app, natsr_rows, natsr_nil]
  refine call_by (q) (by rfl) (by simp) ?_
  simp (disch := omega) only [wk, tis, seval, reduceCtorEq, Nat.reduceEqDiff, rqs, natsr_len, natsr_at, natsr_snoc, natsr_app, natsr_rows, natsr_nil]
  refine call_by (m) (by rfl) (by simp) ?_
  simp (disch := omega) only [wk, tis, seval, reduceCtorEq, Nat.reduceEqDiff, rqs, natsr_len, natsr_at, natsr_snoc, natsr_app, natsr_rows, natsr_nil]
def lcmL (l : List Nat) : Nat := l.foldl Nat.lcm 1
theorem lcmL_take {l : List Nat} {i : Nat} (h : i < l.length) : lcmL (l.take (i + 1)) = Nat.lcm (lcmL (l.take i)) (l.getD i 0) := by
  rw [List.take_add_one, List.getElem?_eq_getElem h, lcmL, List.foldl_append]
  simp [lcmL, List.getD, h]
theorem lcmL_facts (l : List Nat) (K : Nat) (h0 : ∀ x ∈ l, x ≠ 0) (hK : ∀ x ∈ l, (wd x).length ≤ K) : ∀ i, i ≤ l.length → lcmL (l.take i) ≠ 0 ∧ (wd (lcmL (l.take i))).length ≤ i * K + 1 ∧ ∀ j, j < i → l.getD j 0 ∣ lcmL (l.take i)
  | 0, _ => ⟨by simp [lcmL], by rw [List.take_zero]; show (wd 1).length ≤ _; rw [show wd 1 = [1] by decide +kernel]; simp, fun j hj => by omega⟩
  | i + 1, hi => by
    obtain ⟨a1, a2, a3⟩ := lcmL_facts l K h0 hK i (by omega)
    have hm : l.getD i 0 ∈ l := by rw [List.getD, List.getElem?_eq_getElem (by omega), Option.getD_some]; exact List.getElem_mem _
    rw [lcmL_take (by omega)]
    refine ⟨lcm_ne a1 (h0 _ hm), ?_, fun j hj => ?_⟩
    · have := lcm_len a2 (hK _ hm)
      rw [Nat.succ_mul]
      omega
    · rcases Nat.lt_or_ge j i with h | h
      · exact Nat.dvd_trans (a3 j h) (Nat.dvd_lcm_left _ _)
      · obtain rfl : j = i := by omega
        exact Nat.dvd_lcm_right _ _
set_option maxRecDepth 100000 in
theorem galllcm_ok (l : List Nat) (K : Nat) (hl : l.length ≤ 2 ^ 30) (h0 : ∀ x ∈ l, x ≠ 0) (hK : ∀ x ∈ l, (wd x).length ≤ K) (hB : l.length * K + K + 1 ≤ 2 ^ 35) : AC Tryz.prog 146 [.iv (.sl (natsr (l.map wd)))] none [cl (wd (lcmL l))] := by
  have o := nof_ok 1 (by decide)
  have hml : (l.map wd).length = l.length := List.length_map _
  have e0 : wd (lcmL (l.take 0)) = wd 1 := by rw [List.take_zero]; rfl
  refine AC.by_walk (rs := [.tmp 2]) ords Tryz.func146 (by rfl) (by rfl) (by rfl) (by rfl) (by rfl) ?_
  simp (disch := omega) only [wk, tis, seval, reduceCtorEq, Nat.reduceEqDiff, rqs, natsr_len, natsr_at, natsr_snoc, natsr_app, natsr_rows, natsr_nil]
  refine call_by (o) (by rfl) (by simp) ?_
  simp (disch := omega) only [wk, tis, seval, reduceCtorEq, Nat.reduceEqDiff, rqs, natsr_len, natsr_at, natsr_snoc, natsr_app, natsr_rows, natsr_nil]
  refine aloop_by (fun f H => ∃ (i : Nat), i ≤ l.length ∧ f 9 = .iv (.int .i64 i) ∧ f 7 = .iv (.sl (natsr (l.map wd))) ∧ f 8 = .iv (.int .i64 l.length) ∧ f 3 = .iv (.sl (lims (wd (lcmL (l.take i)))))) (fun f H => (l.length - intAt f 9).toNat) ?_ ?_
  · refine ⟨0, by omega, ?_⟩
    simp (disch := omega) only [wk, tis, seval, reduceCtorEq, Nat.reduceEqDiff, rqs, natsr_len, natsr_at, natsr_snoc, natsr_app, natsr_rows, natsr_nil, e0, hml]
  rintro f H ⟨i, hi, hF⟩
  rw [intAt_of hF.1]
  simp (disch := omega) only [wk, tis, seval, reduceCtorEq, Nat.reduceEqDiff, rqs, natsr_len, natsr_at, natsr_snoc, natsr_app, natsr_rows, natsr_nil, hF]
  refine if_by (fun hlt => ?_) (fun hlt => ?_)
  · have hlt' : i < l.length := by omega
    obtain ⟨a1, a2, a3⟩ := lcmL_facts l K h0 hK i hi
    have hm : l.getD i 0 ∈ l := by rw [List.getD, List.getElem?_eq_getElem hlt', Option.getD_some]; exact List.getElem_mem _
    have hg : (l.map wd).getD i [] = wd (l.getD i 0) := by simp [List.getD, hlt']
    have hk := hK _ hm
    have h2 : i * K ≤ l.length * K := Nat.mul_le_mul_right _ hi
    have m := glcm_ok (wd (lcmL (l.take i))) (wd (l.getD i 0)) ⟨by omega, lim_wd _⟩ ⟨by omega, lim_wd _⟩ (by rw [nv_wd]; exact a1) (by rw [nv_wd]; exact h0 _ hm)
    rw [nv_wd, nv_wd, ← lcmL_take hlt'] at m
    simp (disch := omega) only [wk, tis, seval, reduceCtorEq, Nat.reduceEqDiff, rqs, natsr_len, natsr_at, natsr_snoc, natsr_app, natsr_rows, natsr_nil, hF, hml, hg]
    refine call_by (m) (by first | rfl | (simp only [tocvs, tocv, hF, hml, hg]; rfl) | (simp only [tocvs, tocv, toboxes, tobox, updH_at, Nat.reduceEqDiff, ↓reduceIte, hF, hml, hg]; rfl)) (by simp) ?_
    simp (disch := omega) only [wk, tis, seval, reduceCtorEq, Nat.reduceEqDiff, rqs, natsr_len, natsr_at, natsr_snoc, natsr_app, natsr_rows, natsr_nil, hF, hml, hg]
    refine ⟨⟨i + 1, by omega, ?_⟩, by omega⟩
    (repeat' apply And.intro) <;> first | rfl | omega
  · simp (disch := omega) only [wk, tis, seval, reduceCtorEq, Nat.reduceEqDiff, rqs, natsr_len, natsr_at, natsr_snoc, natsr_app, natsr_rows, natsr_nil, hF]
    rw [List.take_of_length_le (by omega)]
def dens (A : List Rat) : List Nat := A.map fun c => c.den
def cden (A : List Rat) : Nat := lcmL (dens A)
def clr (A : List Rat) : List Int := A.map fun c => c.num * ((cden A : Int) / (c.den : Int))
theorem dens_len (A : List Rat) : (dens A).length = A.length := List.length_map _
theorem clr_len (A : List Rat) : (clr A).length = A.length := List.length_map _
theorem dens_get {A : List Rat} {i : Nat} (h : i < A.length) : (dens A).getD i 0 = (cfq A i).den := by simp [dens, cfq, List.getD, h]
theorem clr_get {A : List Rat} {i : Nat} (h : i < A.length) : cf (clr A) i = (cfq A i).num * ((cden A : Int) / ((cfq A i).den : Int)) := by simp [clr, cf, cfq, List.getD, h]
theorem dens_ne {A : List Rat} : ∀ x ∈ dens A, x ≠ 0 := fun x hx => by
  obtain ⟨c, _, rfl⟩ := List.mem_map.1 hx
  exact c.den_nz
theorem QB.dens {n k : Nat} {A : List Rat} (h : QB n k A) : ∀ x ∈ dens A, (wd x).length ≤ k := fun x hx => by
  obtain ⟨c, hc, rfl⟩ := List.mem_map.1 hx
  exact Nat.le_trans (qz_parts c).2 (h.2 c hc)
theorem cden_ne (A : List Rat) : cden A ≠ 0 := by
  have := (lcmL_facts (dens A) ((dens A).foldl (fun m x => max m (wd x).length) 0) dens_ne (fun x hx => by
    have key : ∀ (l : List Nat) (m : Nat), m ≤ l.foldl (fun m x => max m (wd x).length) m ∧ ∀ x ∈ l, (wd x).length ≤ l.foldl (fun m x => max m (wd x).length) m := by
      intro l
      induction l with
      | nil => exact fun m => ⟨Nat.le_refl _, fun x hx => nomatch hx⟩
      | cons a l ih =>
        intro m
        have := ih (max m (wd a).length)
        refine ⟨Nat.le_trans (Nat.le_max_left _ _) this.1, fun x hx => ?_⟩
        rcases List.mem_cons.1 hx with rfl | hx
        · exact Nat.le_trans (Nat.le_max_right _ _) this.1
        · exact this.2 x hx
    exact (key (dens A) 0).2 x hx) (dens A).length (Nat.le_refl _)).1
  rwa [List.take_of_length_le (Nat.le_refl _)] at this
theorem cden_dvd {A : List Rat} {i : Nat} (h : i < A.length) : (cfq A i).den ∣ cden A := by
  have := (lcmL_facts (dens A) (cden A + (dens A).foldl (fun m x => m + (wd x).length) 0) dens_ne (fun x hx => by
    have key : ∀ (l : List Nat) (m : Nat), m ≤ l.foldl (fun m x => m + (wd x).length) m ∧ ∀ x ∈ l, (wd x).length ≤ l.foldl (fun m x => m + (wd x).length) m := by
      intro l
      induction l with
      | nil => exact fun m => ⟨Nat.le_refl _, fun x hx => nomatch hx⟩
      | cons a l ih =>
        intro m
        have := ih (m + (wd a).length)
        refine ⟨Nat.le_trans (by omega) this.1, fun x hx => ?_⟩
        rcases List.mem_cons.1 hx with rfl | hx
        · exact Nat.le_trans (by omega) this.1
        · exact this.2 x hx
    have := (key (dens A) 0).2 x hx
    omega) (dens A).length (Nat.le_refl _)).2.2 i (by rw [dens_len]; exact h)
  rw [List.take_of_length_le (Nat.le_refl _), dens_get h] at this
  exact this
theorem cden_len {n k : Nat} {A : List Rat} (h : QB n k A) : (wd (cden A)).length ≤ n * k + 1 := by
  have := (lcmL_facts (dens A) k dens_ne h.dens (dens A).length (Nat.le_refl _)).2.1
  rw [List.take_of_length_le (Nat.le_refl _), dens_len] at this
  have h2 := Nat.mul_le_mul_right k h.1
  show (wd (lcmL (dens A))).length ≤ _
  omega
theorem cf_clr (A : List Rat) (i : Nat) : (cf (clr A) i : Rat) = cfq A i * (cden A : Rat) := by
  by_cases h : i < A.length
  · rw [clr_get h]
    obtain ⟨m, hm⟩ := cden_dvd h
    have hd : ((cfq A i).den : Int) ≠ 0 := by have := (cfq A i).den_nz; omega
    have e : (cden A : Int) / ((cfq A i).den : Int) = (m : Int) := by
      rw [hm, Int.natCast_mul, Int.mul_ediv_cancel_left _ hd]
    rw [e, Rat.intCast_mul, Rat.intCast_natCast, hm, Rat.natCast_mul]
    have h1 : cfq A i = ((cfq A i).num : Rat) / ((cfq A i).den : Rat) := by rw [← Rat.mkRat_eq_div, Rat.mkRat_self]
    have h2 := natr_ne (cfq A i).den_nz
    generalize (cfq A i).num = u at *
    generalize (cfq A i).den = v at *
    rw [h1]
    grind
  · rw [cf_ge (by rw [clr_len]; omega), cfq_ge (by omega), Rat.intCast_zero, Rat.zero_mul]
theorem zl_clr {n k : Nat} {A : List Rat} (h : QB n k A) (i : Nat) : zl (cf (clr A) i) ≤ k + n * k + 1 := by
  by_cases hi : i < A.length
  · rw [clr_get hi]
    have h1 := zl_mul (cfq A i).num ((cden A : Int) / ((cfq A i).den : Int))
    have h2 := zl_div (a := (cden A : Int)) (b := ((cfq A i).den : Int)) (Int.natCast_dvd_natCast.mpr (cden_dvd hi))
    have h3 := cden_len h
    have h4 := (qz_parts (cfq A i)).1
    have h5 : qz (cfq A i) ≤ k := by rw [cfq_lt hi]; exact h.2 _ (List.getElem_mem hi)
    rw [zl_nat] at h2
    omega
  · rw [cf_ge (by rw [clr_len]; omega), zl_zero]; omega
theorem QB.clr {n k : Nat} {A : List Rat} (h : QB n k A) : PB n (k + n * k + 1) (clr A) := .of (by rw [clr_len]; exact h.1) (zl_clr h)
theorem clr_zero {A : List Rat} {i : Nat} : cf (clr A) i = 0 ↔ cfq A i = 0 := by
  have h := cf_clr A i
  have hd := natr_ne (cden_ne A)
  constructor
  · intro e
    rw [e, Rat.intCast_zero] at h
    exact (Rat.mul_eq_zero.mp h.symm).resolve_right hd
  · intro e
    rw [e, Rat.zero_mul] at h
    exact Rat.intCast_eq_zero_iff.mp h
theorem natsr_dens (A : List Rat) {i : Nat} (h : i < A.length) : ((dens A).take (i + 1)).map wd = ((dens A).take i).map wd ++ [wd (cfq A i).den] := by
  rw [List.take_add_one, List.getElem?_eq_getElem (by rw [dens_len]; exact h), List.map_append]
  have e : (dens A)[i]'(by rw [dens_len]; exact h) = (cfq A i).den := by
    have := dens_get h
    rw [List.getD, List.getElem?_eq_getElem (by rw [dens_len]; exact h), Option.getD_some] at this
    exact this
  simp only [Option.toList, List.map_cons, List.map_nil, e]
theorem qclear_ok (p : List RQ) (n k : Nat) (hp : GQ n k p) (hn : n ≤ 2 ^ 28) (hM : n * k + k + 2 ≤ 2 ^ 34) : AC Tryz.prog 115 [cqw p] none [cl (wd (cden (trimq (qvs p)))), cw ((clr (trimq (qvs p))).map canon), ci 0] := by
  have nm := qpnorm_ok p (hp.mono (by omega) (by omega))
  have hA := hp.qb.trimq
  refine AC.by_walk (rs := [.tmp 2, .tmp 3, .tmp 4]) ords Tryz.func115 (by rfl) (by rfl) (by rfl) (by rfl) (by rfl) ?_
  simp (disch := omega) only [wk, tis, seval, reduceCtorEq, Nat.reduceEqDiff, rqs, natsr_len, natsr_at, natsr_snoc, natsr_app, natsr_rows, natsr_nil]
  refine call_by (nm) (by rfl) (by simp) ?_
  simp (disch := omega) only [wk, tis, seval, reduceCtorEq, Nat.reduceEqDiff, rqs, natsr_len, natsr_at, natsr_snoc, natsr_app, natsr_rows, natsr_nil]
  unfold cqs
  generalize trimq (qvs p) = A at *
  have hAl := hA.1
  have hq : (A.map crat).length = A.length := List.length_map _
  have hdl := dens_len A
  have hcl := clr_len A
  simp (disch := omega) only [wk, tis, seval, reduceCtorEq, Nat.reduceEqDiff, rqs, natsr_len, natsr_at, natsr_snoc, natsr_app, natsr_rows, natsr_nil, hq]
  refine aloop_by (fun f H => ∃ (i st26 : Nat), i ≤ A.length ∧ f 29 = .iv (.int .i64 i) ∧ f 27 = .iv (.sl (rats (A.map crat))) ∧ f 28 = .iv (.int .i64 A.length) ∧ f 5 = .iv (.sl (rats (A.map crat))) ∧ f 7 = .hs 26 st26 ∧ H 26 = .blk false st26 42 1 (natsr (((dens A).take i).map wd))) (fun f H => (A.length - intAt f 29).toNat) ?_ ?_
  · refine ⟨0, 1, by omega, ?_⟩
    simp (disch := omega) only [wk, tis, seval, reduceCtorEq, Nat.reduceEqDiff, rqs, natsr_len, natsr_at, natsr_snoc, natsr_app, natsr_rows, natsr_nil, hq, List.take_zero, List.map_nil, Int.toNat_natCast, List.replicate_zero]
  rintro f H ⟨i, st26, hi, hF⟩
  rw [intAt_of hF.1]
  simp (disch := omega) only [wk, tis, seval, reduceCtorEq, Nat.reduceEqDiff, rqs, natsr_len, natsr_at, natsr_snoc, natsr_app, natsr_rows, natsr_nil, hF]
  refine if_by (fun hlt => ?_) (fun hlt => ?_)
  · have hlt' : i < A.length := by omega
    have hdq : (((dens A).take i).map wd).length = i := by rw [List.length_map, List.length_take]; omega
    have e := cratq_get hlt'
    have e2 : lims (crat (cfq A i)).2 = lims (wd (cfq A i).den) := rfl
    simp (disch := omega) only [wk, tis, seval, reduceCtorEq, Nat.reduceEqDiff, rqs, natsr_len, natsr_at, natsr_snoc, natsr_app, natsr_rows, natsr_nil, hF, hq, hdq, e, e2]
    refine ⟨⟨i + 1, st26 + 1, by omega, ?_⟩, by omega⟩
    rw [natsr_dens A hlt']
    (repeat' apply And.intro) <;> first | rfl | omega
  · have hie : i = A.length := by omega
    subst hie
    rw [List.take_of_length_le (by omega)] at hF
    have m := galllcm_ok (dens A) k (by omega) dens_ne hA.dens (by rw [hdl]; have := Nat.mul_le_mul_right k hA.1; omega)
    have hcd := cden_len hA
    have hcn := cden_ne A
    simp (disch := omega) only [wk, tis, seval, reduceCtorEq, Nat.reduceEqDiff, rqs, natsr_len, natsr_at, natsr_snoc, natsr_app, natsr_rows, natsr_nil, hF, hq]
    refine call_by (m) (by first | rfl | (simp only [tocvs, tocv, hF, hq]; rfl) | (simp only [tocvs, tocv, toboxes, tobox, updH_at, Nat.reduceEqDiff, ↓reduceIte, hF, hq]; rfl)) (by simp) ?_
    simp (disch := omega) only [wk, tis, seval, reduceCtorEq, Nat.reduceEqDiff, rqs, natsr_len, natsr_at, natsr_snoc, natsr_app, natsr_rows, natsr_nil, hF, hq]
    rw [show lcmL (dens A) = cden A from rfl]
    refine aloop_nil 11 11 44 2 (by simp (disch := omega) only [wk, tis, seval, reduceCtorEq, Nat.reduceEqDiff, rqs, natsr_len, natsr_at, natsr_snoc, natsr_app, natsr_rows, natsr_nil]) (fun f H => ∃ (i st : Nat), i ≤ A.length ∧ f 43 = .iv (.int .i64 i) ∧ f 41 = .iv (.sl (rats (A.map crat))) ∧ f 42 = .iv (.int .i64 A.length) ∧ f 10 = .iv (.sl (lims (wd (cden A)))) ∧ f 11 = .hs 11 st ∧ H 11 = .blk false st 44 2 (raws (((clr A).take i).map canon))) (fun f H => (A.length - intAt f 43).toNat) ?_ ?_
    · refine ⟨0, (H 11).stamp + 1, by omega, ?_⟩
      simp (disch := omega) only [wk, tis, seval, reduceCtorEq, Nat.reduceEqDiff, rqs, natsr_len, natsr_at, natsr_snoc, natsr_app, natsr_rows, natsr_nil, ghostF, ghostH, hF, hq, List.take_zero, List.map_nil]
    rintro f H ⟨i, st, hi, hF⟩
    rw [intAt_of hF.1]
    simp (disch := omega) only [wk, tis, seval, reduceCtorEq, Nat.reduceEqDiff, rqs, natsr_len, natsr_at, natsr_snoc, natsr_app, natsr_rows, natsr_nil, hF]
    refine if_by (fun hlt => ?_) (fun hlt => ?_)
    · have hlt' : i < A.length := by omega
      have hcq : (((clr A).take i).map canon).length = i := by rw [List.length_map, List.length_take]; omega
      have e := cratq_get hlt'
      have e2 : lims (crat (cfq A i)).2 = lims (wd (cfq A i).den) := rfl
      have e3 : prow (crat (cfq A i)).1 = prow (canon (cfq A i).num) := rfl
      have hc : qz (cfq A i) ≤ k := by rw [cfq_lt hlt']; exact hA.2 _ (List.getElem_mem hlt')
      have hc2 := qz_parts (cfq A i)
      have n1 := znat_ok false (cden A) (by omega)
      have n2 := znat_ok false (cfq A i).den (by omega)
      rw [sgf] at n1 n2
      have hdv : ((cfq A i).den : Int) ∣ (cden A : Int) := Int.natCast_dvd_natCast.mpr (cden_dvd hlt')
      have x := zexact_ok (canon (cden A : Int)) (canon ((cfq A i).den : Int)) ((sz_canon _).mono (by rw [zl_nat]; omega)) ((sz_canon _).mono (by rw [zl_nat]; omega)) (by rw [iv_canon]; have := (cfq A i).den_nz; omega) (by rw [iv_canon, iv_canon]; exact hdv)
      rw [iv_canon, iv_canon] at x
      have zd := zl_div hdv
      rw [zl_nat] at zd
      have w := zmul_ok (canon (cfq A i).num) (canon ((cden A : Int) / ((cfq A i).den : Int))) ((sz_canon _).mono (by omega)) ((sz_canon _).mono (by omega))
      rw [iv_canon, iv_canon, ← clr_get hlt'] at w
      simp (disch := omega) only [wk, tis, seval, reduceCtorEq, Nat.reduceEqDiff, rqs, natsr_len, natsr_at, natsr_snoc, natsr_app, natsr_rows, natsr_nil, hF, hq, hcq, e, e2, e3]
      refine ⟨tmps_by (by kernel_rfl), ?_⟩
      refine call_by (n1) (by first | rfl | (simp only [tocvs, tocv, hF, hq, hcq, e, e2, e3]; rfl) | (simp only [tocvs, tocv, toboxes, tobox, updH_at, Nat.reduceEqDiff, ↓reduceIte, hF, hq, hcq, e, e2, e3]; rfl)) (by simp) ?_
      simp (disch := omega) only [wk, tis, seval, reduceCtorEq, Nat.reduceEqDiff, rqs, natsr_len, natsr_at, natsr_snoc, natsr_app, natsr_rows, natsr_nil, hF, hq, hcq, e, e2, e3]
      refine call_by (n2) (by first | rfl | (simp only [tocvs, tocv, hF, hq, hcq, e, e2, e3]; rfl) | (simp only [tocvs, tocv, toboxes, tobox, updH_at, Nat.reduceEqDiff, ↓reduceIte, hF, hq, hcq, e, e2, e3]; rfl)) (by simp) ?_
      simp (disch := omega) only [wk, tis, seval, reduceCtorEq, Nat.reduceEqDiff, rqs, natsr_len, natsr_at, natsr_snoc, natsr_app, natsr_rows, natsr_nil, hF, hq, hcq, e, e2, e3]
      refine call_by (x) (by first | rfl | (simp only [tocvs, tocv, hF, hq, hcq, e, e2, e3]; rfl) | (simp only [tocvs, tocv, toboxes, tobox, updH_at, Nat.reduceEqDiff, ↓reduceIte, hF, hq, hcq, e, e2, e3]; rfl)) (by simp) ?_
      simp (disch := omega) only [wk, tis, seval, reduceCtorEq, Nat.reduceEqDiff, rqs, natsr_len, natsr_at, natsr_snoc, natsr_app, natsr_rows, natsr_nil, hF, hq, hcq, e, e2, e3]
      first | exact log_by (by kernel_rfl) | refine ⟨log_by (by kernel_rfl), ?_⟩
      refine call_by (w) (by first | rfl | (simp only [tocvs, tocv, hF, hq, hcq, e, e2, e3]; rfl) | (simp only [tocvs, tocv, toboxes, tobox, updH_at, Nat.reduceEqDiff, ↓reduceIte, hF, hq, hcq, e, e2, e3]; rfl)) (by simp) ?_
      simp (disch := omega) only [wk, tis, seval, reduceCtorEq, Nat.reduceEqDiff, rqs, natsr_len, natsr_at, natsr_snoc, natsr_app, natsr_rows, natsr_nil, hF, hq, hcq, e, e2, e3]
      have et := takez_snoc (q := clr A) (i := i) (by omega)
      refine ⟨⟨i + 1, st + 1, by omega, ?_⟩, by omega⟩
      rw [et, List.map_append]
      (repeat' apply And.intro) <;> first | rfl | omega
    · have hie : i = A.length := by omega
      subst hie
      rw [List.take_of_length_le (by omega)] at hF
      simp (disch := omega) only [wk, tis, seval, reduceCtorEq, Nat.reduceEqDiff, rqs, natsr_len, natsr_at, natsr_snoc, natsr_app, natsr_rows, natsr_nil, hF]
      try rfl
end Go.Proofs.YtenlbifnhdmnnaaGreat

namespace Go.Proofs.YtenlbifnhdmnnaaGreat
open Go Go.Proofs Go.AL
set_option linter.unusedSimpArgs false
set_option linter.unusedVariables false
def divl (L : List Int) (D : Int) : List Rat := L.map fun c : Int => (c : Rat) / (D : Rat)
theorem divl_len (L : List Int) (D : Int) : (divl L D).length = L.length := List.length_map _
theorem zero_divr (x : Rat) : (0 : Rat) / x = 0 := by rw [Rat.div_def, Rat.zero_mul]
theorem cfq_divl (L : List Int) (D : Int) (k : Nat) : cfq (divl L D) k = (cf L k : Rat) / (D : Rat) := by
  unfold divl cfq cf
  rw [List.getD_eq_getElem?_getD, List.getD_eq_getElem?_getD, List.getElem?_map]
  cases L[k]? with
  | none => simp only [Option.map_none, Option.getD_none]; rw [Rat.intCast_zero, zero_divr]
  | some x => rfl
theorem qz_divn {c : Int} {d M : Nat} (hd : d ≠ 0) (hc : zl c ≤ M) (hw : (wd d).length ≤ M) : qz ((c : Rat) / (((d : Nat) : Int) : Rat)) ≤ M := by
  rw [Rat.intCast_natCast, ← Rat.mkRat_eq_div]
  exact qz_mk hd hc hw
theorem QB.divl {n M : Nat} {L : List Int} {d : Nat} (h : PB n M L) (hd : d ≠ 0) (hw : (wd d).length ≤ M) : QB n M (divl L (d : Int)) := .of (by rw [divl_len]; exact h.1) fun i => by
  rw [cfq_divl]
  exact qz_divn hd (h.cf i) hw
theorem qover_ok (L : List Int) (d e : Nat) (hL : PB (2 ^ 31) (2 ^ 37) L) (hd : (wd d).length ≤ 2 ^ 35) (he : (wd e).length ≤ 2 ^ 35) (hd0 : d ≠ 0) (he0 : e ≠ 0) : AC Tryz.prog 116 [cw (L.map canon), cl (wd d), cl (wd e)] none [cqp (divl L ((d * e : Nat) : Int)), ci 0] := by
  have hl := hL.1
  have hq : (L.map canon).length = L.length := List.length_map _
  have hrl := divl_len L ((d * e : Nat) : Int)
  have n1 := znat_ok false d (by omega)
  have n2 := znat_ok false e (by omega)
  rw [sgf] at n1 n2
  have m := zmul_ok (canon (d : Int)) (canon (e : Int)) ((sz_canon _).mono (by rw [zl_nat]; omega)) ((sz_canon _).mono (by rw [zl_nat]; omega))
  rw [iv_canon, iv_canon, ← Int.natCast_mul] at m
  have hde : d * e ≠ 0 := Nat.mul_ne_zero hd0 he0
  have hw : (wd (d * e)).length ≤ 2 ^ 35 + 2 ^ 35 := wd_len2 hd he
  have hR : QB (2 ^ 40) (2 ^ 38) (divl L ((d * e : Nat) : Int)) := (QB.divl hL hde (by omega)).mono (by omega) (by omega)
  refine AC.by_walk (rs := [.tmp 6, .tmp 7]) ords Tryz.func116 (by rfl) (by rfl) (by rfl) (by rfl) (by rfl) ?_
  simp (disch := omega) only [wk, tis, seval, reduceCtorEq, Nat.reduceEqDiff, rqs]
  refine call_by (n1) (by rfl) (by simp) ?_
  simp (disch := omega) only [wk, tis, seval, reduceCtorEq, Nat.reduceEqDiff, rqs]
  refine call_by (n2) (by rfl) (by simp) ?_
  simp (disch := omega) only [wk, tis, seval, reduceCtorEq, Nat.reduceEqDiff, rqs]
  refine call_by (m) (by rfl) (by simp) ?_
  simp (disch := omega) only [wk, tis, seval, reduceCtorEq, Nat.reduceEqDiff, rqs]
  refine aloop_nil 9 9 46 3 (by simp (disch := omega) only [wk, tis, seval, reduceCtorEq, Nat.reduceEqDiff, rqs]) (fun f H => ∃ (i st st8 : Nat), i ≤ L.length ∧ f 21 = .iv (.int .i64 i) ∧ f 19 = .iv (.sl (raws (L.map canon))) ∧ f 20 = .iv (.int .i64 L.length) ∧ f 8 = .hp 8 st8 0 0 ∧ H 8 = .blk false st8 44 2 [prow (canon ((d * e : Nat) : Int))] ∧ f 9 = .hs 9 st ∧ H 9 = .blk false st 46 3 (rats (((divl L ((d * e : Nat) : Int)).take i).map crat))) (fun f H => (L.length - intAt f 21).toNat) ?_ ?_
  · refine ⟨0, 1, 1, by omega, ?_⟩
    simp (disch := omega) only [wk, tis, seval, reduceCtorEq, Nat.reduceEqDiff, rqs, ghostF, ghostH, hq, List.take_zero, List.map_nil]
  rintro f H ⟨i, st, st8, hi, hF⟩
  rw [intAt_of hF.1]
  simp (disch := omega) only [wk, tis, seval, reduceCtorEq, Nat.reduceEqDiff, rqs, hF]
  refine if_by (fun hlt => ?_) (fun hlt => ?_)
  · have hlt' : i < L.length := by omega
    have hrq : (((divl L ((d * e : Nat) : Int)).take i).map crat).length = i := by rw [List.length_map, List.length_take]; omega
    have e1 := canon_getD L i
    have hz := hL.cf i
    have k := qmake_ok (canon (cf L i)) (canon ((d * e : Nat) : Int)) ((sz_canon _).mono (by omega)) ((sz_canon _).mono (by rw [zl_nat]; omega)) (by rw [iv_canon]; omega)
    rw [iv_canon, iv_canon, ← cfq_divl] at k
    simp (disch := omega) only [wk, tis, seval, reduceCtorEq, Nat.reduceEqDiff, rqs, hF, hq, hrq, e1]
    refine call_by (k) (by first | rfl | (simp only [tocvs, tocv, hF, hq, hrq, e1]; rfl) | (simp only [tocvs, tocv, toboxes, tobox, updH_at, Nat.reduceEqDiff, ↓reduceIte, hF, hq, hrq, e1]; rfl)) (by simp) ?_
    simp (disch := omega) only [wk, tis, seval, reduceCtorEq, Nat.reduceEqDiff, rqs, hF, hq, hrq, e1]
    have et := takeq_snoc (q := divl L ((d * e : Nat) : Int)) (i := i) (by omega)
    refine ⟨⟨i + 1, st + 1, st8, by omega, ?_⟩, by omega⟩
    rw [et, List.map_append]
    (repeat' apply And.intro) <;> first | rfl | omega
  · simp (disch := omega) only [wk, tis, seval, reduceCtorEq, Nat.reduceEqDiff, rqs, hF]
    rw [List.take_of_length_le (by omega)] at hF
    have m := qtrim_own _ hR
    refine call_by (m) (by first | rfl | (simp only [tocvs, tocv, hF]; rfl) | (simp only [tocvs, tocv, toboxes, tobox, updH_at, Nat.reduceEqDiff, ↓reduceIte, hF]; rfl)) (by simp) ?_
    simp (disch := omega) only [wk, tis, seval, reduceCtorEq, Nat.reduceEqDiff, rqs, hF]
theorem cv_cast (g : Nat → Int) : ∀ (p : List Int) (k : Nat), ((cv p g k : Int) : Rat) = cvq (qp p) (fun j => (g j : Rat)) k
  | [], k => by simp only [cv, qp, List.map_nil, cvq]; rfl
  | x :: xs, 0 => by
    have e : qp (x :: xs) = (x : Rat) :: qp xs := rfl
    rw [e]
    simp only [cv, cvq]
    rw [Int.add_zero, Rat.intCast_mul, Rat.add_zero]
  | x :: xs, k + 1 => by
    have e : qp (x :: xs) = (x : Rat) :: qp xs := rfl
    have ih := cv_cast g xs k
    rw [e]
    simp only [cv, cvq]
    rw [Rat.intCast_add, Rat.intCast_mul, ih]
theorem cfq_qp_pmul (x y : List Int) (k : Nat) : cfq (qp (pmul x y)) k = cfq (mulq (qp x) (qp y)) k := by
  rw [cfq_qp, cf_pmul, cfq_mulq, cv_cast]
  exact cvq_congr _ _ fun j => (cfq_qp y j).symm
theorem pq_clr (A : List Rat) : pq (qp (clr A)) = PQ.C (cden A : Rat) * pq A := PQ.ext fun k => by
  rw [PQ.C_mul_c, pq_c, pq_c, cfq_qp, cf_clr, Rat.mul_comm]
theorem cfq_clear_mul (A B : List Rat) (k : Nat) : cfq (divl (trimz (pmul (clr A) (clr B))) ((cden A * cden B : Nat) : Int)) k = cfq (mulq A B) k := by
  have h1 := natr_ne (cden_ne A)
  have h2 := natr_ne (cden_ne B)
  rw [cfq_divl, cf_trimz, ← cfq_qp, cfq_qp_pmul]
  have e : pq (mulq (qp (clr A)) (qp (clr B))) = PQ.C ((cden A : Rat) * (cden B : Rat)) * pq (mulq A B) := by
    rw [pq_mulq, pq_clr, pq_clr, PQ.C_mul, pq_mulq]
    ac_rfl
  have e2 := congrArg (fun f => PQ.c f k) e
  simp only [PQ.C_mul_c, pq_c] at e2
  rw [e2, Rat.intCast_natCast, Rat.natCast_mul]
  grind
theorem mulq_def (A B : List Rat) : mulq A B = (List.range (A.length + B.length)).map (cvq A (cfq B)) := rfl
theorem QB.mulq {n k M : Nat} {A B : List Rat} (hA : QB n k A) (hB : QB n k B) (hn : n < W) (hM : n * k + k + 1 ≤ M) (hk : 1 ≤ k) : QB (2 * n) (2 * M + 1) (mulq A B) := by
  have pA := hA.clr.mono (n' := n) (k' := M) (Nat.le_refl _) (by omega)
  have pB := hB.clr.mono (n' := n) (k' := M) (Nat.le_refl _) (by omega)
  have pm := (pA.pmul pB hn).trimz
  have c1 := cden_len hA
  have c2 := cden_len hB
  have hw : (wd (cden A * cden B)).length ≤ M + M := wd_len2 (by omega) (by omega)
  have q := QB.divl (pm.mono (n' := n + n) (k' := M + M + 1) (Nat.le_refl _) (by omega)) (Nat.mul_ne_zero (cden_ne A) (cden_ne B)) (by omega)
  refine .of (by simp only [mulq_def, List.length_map, List.length_range]; have := hA.1; have := hB.1; omega) fun i => ?_
  rw [← cfq_clear_mul]
  have := q.cz (by omega) i
  omega
theorem mulq_trim (A B : List Rat) (k : Nat) : cfq (mulq (trimq A) (trimq B)) k = cfq (mulq A B) k := mulq_congr (cfq_trimq A) (cfq_trimq B) k
theorem mulq_nil {A B : List Rat} (h : trimq A = [] ∨ trimq B = []) : cqs (mulq A B) = [] := by
  have hz : ∀ k, cfq (mulq A B) k = 0 := fun k => by
    rw [← mulq_trim]
    rcases h with h | h
    · rw [h, cfq_mulq]; rfl
    · rw [h, cfq_mulq, cvq_none]
  have : tzq (mulq A B) = 0 := tzq_zero_iff.mpr hz
  rw [cqs, show trimq (mulq A B) = [] by rw [trimq, this, List.take_zero]]; rfl
theorem qpmul_ok (p q : List RQ) (n k : Nat) (hp : GQ n k p) (hq : GQ n k q) (hn : n ≤ 2 ^ 28) (hM : n * k + k + 2 ≤ 2 ^ 34) (hk : 1 ≤ k) : AC Tryz.prog 75 [cqw p, cqw q] none [cqp (mulq (qvs p) (qvs q)), ci 0] := by
  have m := qboth_ok p q (hp.mono (by omega) (by omega)) (hq.mono (by omega) (by omega))
  have hA := hp.qb.trimq
  have hB := hq.qb.trimq
  have e : cqp (mulq (qvs p) (qvs q)) = cqp (mulq (trimq (qvs p)) (trimq (qvs q))) := congrArg cqw (cqs_ext fun k => (mulq_trim _ _ k).symm)
  have tA := trimq_trimq (qvs p)
  have tB := trimq_trimq (qvs q)
  rw [e]
  refine AC.by_walk (rs := [.tmp 4, .tmp 5]) ords Tryz.func75 (by rfl) (by rfl) (by rfl) (by rfl) (by rfl) ?_
  simp (disch := omega) only [wk, tis, seval, reduceCtorEq, Nat.reduceEqDiff, rqs]
  refine call_by (m) (by rfl) (by simp) ?_
  simp (disch := omega) only [wk, tis, seval, reduceCtorEq, Nat.reduceEqDiff, rqs]
  unfold cqs
  generalize trimq (qvs p) = A at *
  generalize trimq (qvs q) = B at *
  have hqa : (A.map crat).length = A.length := List.length_map _
  have hqb : (B.map crat).length = B.length := List.length_map _
  by_cases ha : A.length = 0
  · have ha' : ((A.map crat).length : Int) = 0 := by omega
    have hn := mulq_nil (A := A) (B := B) (.inl (by rw [tA]; exact List.length_eq_zero_iff.mp ha))
    rw [show cqp (mulq A B) = cqw [] from congrArg cqw hn]
    simp (disch := omega) only [wk, tis, seval, reduceCtorEq, Nat.reduceEqDiff, rqs, ha']
    try rfl
  have ha' : ¬ ((A.map crat).length : Int) = 0 := by omega
  by_cases hb : B.length = 0
  · have hb' : ((B.map crat).length : Int) = 0 := by omega
    have hn := mulq_nil (A := A) (B := B) (.inr (by rw [tB]; exact List.length_eq_zero_iff.mp hb))
    rw [show cqp (mulq A B) = cqw [] from congrArg cqw hn]
    simp (disch := omega) only [wk, tis, seval, reduceCtorEq, Nat.reduceEqDiff, rqs, ha', hb']
    try rfl
  have hb' : ¬ ((B.map crat).length : Int) = 0 := by omega
  have c1 := qclear_ok (A.map crat) n k hA.gq hn hM
  have c2 := qclear_ok (B.map crat) n k hB.gq hn hM
  rw [qvs_map, tA] at c1
  rw [qvs_map, tB] at c2
  have pA := hA.clr.mono (n' := 2 ^ 30) (k' := 2 ^ 35) (by omega) (by omega)
  have pB := hB.clr.mono (n' := 2 ^ 30) (k' := 2 ^ 35) (by omega) (by omega)
  have z := pmul_ok ((clr A).map canon) ((clr B).map canon) (RP.canon pA) (RP.canon pB)
  rw [pv_canon, pv_canon] at z
  have l1 := cden_len hA
  have l2 := cden_len hB
  have pm := (pA.pmul pB (by decide)).trimz
  have o := qover_ok (trimz (pmul (clr A) (clr B))) (cden A) (cden B) (pm.mono (by omega) (by omega)) (by omega) (by omega) (cden_ne A) (cden_ne B)
  have ee : cqs (divl (trimz (pmul (clr A) (clr B))) ((cden A * cden B : Nat) : Int)) = cqs (mulq A B) := cqs_ext (cfq_clear_mul A B)
  rw [show cqp (divl (trimz (pmul (clr A) (clr B))) ((cden A * cden B : Nat) : Int)) = cqw (cqs (mulq A B)) from congrArg cqw ee] at o
  simp (disch := omega) only [wk, tis, seval, reduceCtorEq, Nat.reduceEqDiff, rqs, ha', hb']
  refine call_by (c1) (by rfl) (by simp) ?_
  simp (disch := omega) only [wk, tis, seval, reduceCtorEq, Nat.reduceEqDiff, rqs]
  refine call_by (c2) (by rfl) (by simp) ?_
  simp (disch := omega) only [wk, tis, seval, reduceCtorEq, Nat.reduceEqDiff, rqs]
  refine call_by (z) (by rfl) (by simp) ?_
  simp (disch := omega) only [wk, tis, seval, reduceCtorEq, Nat.reduceEqDiff, rqs]
  refine call_by (o) (by rfl) (by simp) ?_
  simp (disch := omega) only [wk, tis, seval, reduceCtorEq, Nat.reduceEqDiff, rqs]
  try rfl
end Go.Proofs.YtenlbifnhdmnnaaGreat

namespace Go.Proofs.YtenlbifnhdmnnaaGreat
open Go Go.Proofs Go.AL
set_option linter.unusedSimpArgs false
set_option linter.unusedVariables false
theorem qdeg_ok (p : List RQ) (h : GQ (2 ^ 40) (2 ^ 38) p) : AC Tryz.prog 92 [cqw p] none [ci ((tzq (qvs p) : Int) - 1), ci 0] := by
  have n := qpnorm_ok p h
  have hl := h.1
  have htl := tzq_le (qvs p)
  rw [qvs_len] at htl
  have hq := cqs_len (qvs p)
  refine AC.by_walk (rs := [.tmp 2, .tmp 3]) ords Tryz.func92 (by rfl) (by rfl) (by rfl) (by rfl) (by rfl) ?_
  simp (disch := omega) only [wk, tis, seval, reduceCtorEq, Nat.reduceEqDiff, rqs]
  refine call_by (n) (by first | rfl | (simp only [tocvs, tocv, hq]; rfl) | (simp only [tocvs, tocv, toboxes, tobox, updH_at, Nat.reduceEqDiff, ↓reduceIte, hq]; rfl)) (by simp) ?_
  simp (disch := omega) only [wk, tis, seval, reduceCtorEq, Nat.reduceEqDiff, rqs, hq]
  try rfl
theorem qCoef_ok (p : List RQ) (n : Int) (h : GQ (2 ^ 40) (2 ^ 38) p) : AC Tryz.prog 74 [cqw p, ci n] none [cqz (if n < 0 then 0 else cfq (qvs p) n.toNat), ci 0] := by
  have m := qpnorm_ok p h
  have c := qcoef_ok (trimq (qvs p)) n h.qb.trimq
  rw [cfq_trimq] at c
  refine AC.by_walk (rs := [.cell 4 46, .tmp 5]) ords Tryz.func74 (by rfl) (by rfl) (by rfl) (by rfl) (by rfl) ?_
  simp (disch := omega) only [wk, tis, seval, reduceCtorEq, Nat.reduceEqDiff, rqs]
  refine call_by (m) (by rfl) (by simp) ?_
  simp (disch := omega) only [wk, tis, seval, reduceCtorEq, Nat.reduceEqDiff, rqs]
  refine call_by (c) (by rfl) (by simp) ?_
  simp (disch := omega) only [wk, tis, seval, reduceCtorEq, Nat.reduceEqDiff, rqs]
  try rfl
end Go.Proofs.YtenlbifnhdmnnaaGreat

namespace Go.Proofs.YtenlbifnhdmnnaaGreat
open Go Go.Proofs Go.AL
set_option linter.unusedSimpArgs false
set_option linter.unusedVariables false
def monoq (c : Rat) (n : Nat) : List Rat := List.replicate n 0 ++ [c]
theorem monoq_len (c : Rat) (n : Nat) : (monoq c n).length = n + 1 := by simp [monoq]
theorem monoq_crat (n : Nat) (c : Rat) : (monoq c n).map crat = (List.replicate n 0).map crat ++ [crat c] := by rw [monoq, List.map_append]; rfl
theorem rep0_snoc (n : Nat) : (List.replicate (n + 1) (0 : Rat)).map crat = (List.replicate n (0 : Rat)).map crat ++ [crat 0] := by
  rw [List.replicate_succ', List.map_append]; rfl
theorem qz_monoq {c : Rat} {n k : Nat} (h : qz c ≤ k) (hk : 1 ≤ k) : QB (n + 1) k (monoq c n) := ⟨by rw [monoq_len]; exact Nat.le_refl _, fun x hx => by
  rcases List.mem_append.1 hx with h1 | h1
  · rw [List.eq_of_mem_replicate h1, qz_zero]; exact hk
  · rw [List.mem_singleton.1 h1]; exact h⟩
theorem qmono_ok (r : RQ) (n : Nat) (h : SzQ (2 ^ 38) r) (h0 : nv r.2 ≠ 0) (hn : n ≤ 4096) : AC Tryz.prog 32 [cqq r, ci n] none [cqp (monoq (qv r) n), ci 0] := by
  have m := qnorm_ok r h h0
  have h1 : ¬ (n : Int) < 0 := by omega
  have h2 : ¬ 4096 < (n : Int) := by omega
  have t := qtrim_own (monoq (qv r) n) ((qz_monoq (n := n) (qz_raw h h0) (by omega)).mono (by omega) (Nat.le_refl _))
  rw [monoq_crat] at t
  refine AC.by_walk (rs := [.tmp 4, .tmp 5]) ords Tryz.func32 (by rfl) (by rfl) (by rfl) (by rfl) (by rfl) ?_
  simp (disch := omega) only [wk, tis, seval, reduceCtorEq, Nat.reduceEqDiff, rqs]
  refine call_by (m) (by rfl) (by simp) ?_
  simp (disch := omega) only [wk, tis, seval, reduceCtorEq, Nat.reduceEqDiff, rqs]
  simp (disch := omega) only [wk, tis, seval, reduceCtorEq, Nat.reduceEqDiff, rqs, h1, h2]
  refine aloop_nil 8 8 46 3 (by simp (disch := omega) only [wk, tis, seval, reduceCtorEq, Nat.reduceEqDiff, rqs]) (fun f H => ∃ (i st st6 : Nat), i ≤ n ∧ f 26 = .iv (.int .i64 i) ∧ f 25 = .iv (.int .i64 n) ∧ f 6 = .hp 6 st6 0 0 ∧ H 6 = .blk false st6 46 3 [qrow (crat (qv r))] ∧ f 8 = .hs 8 st ∧ H 8 = .blk false st 46 3 (rats ((List.replicate i 0).map crat))) (fun f H => (n - intAt f 26).toNat) ?_ ?_
  · refine ⟨0, 1, 1, by omega, ?_⟩
    simp (disch := omega) only [wk, tis, seval, reduceCtorEq, Nat.reduceEqDiff, rqs, ghostF, ghostH, List.replicate_zero, List.map_nil]
  rintro f H ⟨i, st, st6, hi, hF⟩
  rw [intAt_of hF.1]
  simp (disch := omega) only [wk, tis, seval, reduceCtorEq, Nat.reduceEqDiff, rqs, hF]
  have hq : ((List.replicate i (0 : Rat)).map crat).length = i := by simp
  refine if_by (fun hlt => ?_) (fun hlt => ?_)
  · simp (disch := omega) only [wk, tis, seval, reduceCtorEq, Nat.reduceEqDiff, rqs, hF, hq]
    refine call_by (qnone_ok) (by first | rfl | (simp only [tocvs, tocv, hF, hq]; rfl) | (simp only [tocvs, tocv, toboxes, tobox, updH_at, Nat.reduceEqDiff, ↓reduceIte, hF, hq]; rfl)) (by simp) ?_
    simp (disch := omega) only [wk, tis, seval, reduceCtorEq, Nat.reduceEqDiff, rqs, hF, hq]
    refine ⟨⟨i + 1, st + 1, st6, by omega, ?_⟩, by omega⟩
    rw [rep0_snoc]
    (repeat' apply And.intro) <;> first | rfl | omega
  · obtain rfl : i = n := by omega
    simp (disch := omega) only [wk, tis, seval, reduceCtorEq, Nat.reduceEqDiff, rqs, hF, hq]
    refine call_by (t) (by first | rfl | (simp only [tocvs, tocv, hF, hq]; rfl) | (simp only [tocvs, tocv, toboxes, tobox, updH_at, Nat.reduceEqDiff, ↓reduceIte, hF, hq]; rfl)) (by simp) ?_
    simp (disch := omega) only [wk, tis, seval, reduceCtorEq, Nat.reduceEqDiff, rqs, hF, hq]
end Go.Proofs.YtenlbifnhdmnnaaGreat
