/-
  Lists of coefficients.
-/
import Derived.Test.YthgecppfgdadiaaAbsN
namespace Go.AL
set_option linter.unusedSimpArgs false
set_option linter.unusedVariables false

/-! ### Polynomials -/

/-- Coefficients' values. -/
def pv (p : List RI) : List Int := p.map iv
/-- How many coefficients, without the zeros above; the list without them. -/
def tz (q : List Int) : Nat := topN (q.map Int.natAbs)
def trimz (q : List Int) : List Int := q.take (tz q)
/-- A coefficient. -/
def cf (q : List Int) (k : Nat) : Int := q.getD k 0
/-- Bounds. -/
def RP (n k : Nat) (p : List RI) : Prop := p.length ≤ n ∧ ∀ c ∈ p, Sz k c
def PB (n k : Nat) (q : List Int) : Prop := q.length ≤ n ∧ ∀ z ∈ q, zl z ≤ k
/-- A polynomial in its own form. -/
def cpoly (q : List Int) : List (List IV) := raws ((trimz q).map canon)

theorem tz_le (q : List Int) : tz q ≤ q.length := by simpa [tz] using topN_le (q.map Int.natAbs)
theorem trimz_len (q : List Int) : (trimz q).length = tz q := by rw [trimz, List.length_take, Nat.min_eq_left (tz_le q)]
theorem tz_take_zero {q : List Int} {k : Nat} (h : k < q.length) (h0 : cf q k = 0) : tz (q.take (k + 1)) = tz (q.take k) := by
  unfold tz; rw [List.map_take, List.map_take]
  refine topN_take_zero (by simpa using h) ?_
  simp only [cf, List.getD, List.getElem?_map, h, List.getElem?_eq_getElem, Option.map_some, Option.getD_some] at h0 ⊢
  simp [h0]
theorem tz_full {q : List Int} {k : Nat} (h : k < q.length) (h0 : cf q k ≠ 0) : tz (q.take (k + 1)) = k + 1 := by
  unfold tz; rw [List.map_take]
  refine topN_full (by simpa using h) ?_
  simp only [cf, List.getD, List.getElem?_map, h, List.getElem?_eq_getElem, Option.map_some, Option.getD_some] at h0 ⊢
  simp; exact h0

theorem cf_ge {q : List Int} {k : Nat} (h : q.length ≤ k) : cf q k = 0 := by
  simp [cf, List.getD, List.getElem?_eq_none h]
theorem cf_cons_zero (x : Int) (xs : List Int) : cf (x :: xs) 0 = x := rfl
theorem cf_cons_succ (x : Int) (xs : List Int) (k : Nat) : cf (x :: xs) (k + 1) = cf xs k := rfl
theorem cf_nil (k : Nat) : cf [] k = 0 := rfl
theorem tz_cons (x : Int) (xs : List Int) : tz (x :: xs) = if tz xs = 0 then (if x = 0 then 0 else 1) else tz xs + 1 := by
  unfold tz; simp only [List.map_cons, topN]
  by_cases hx : x = 0
  · simp [hx]
  · rw [if_neg hx, if_neg (show ¬ x.natAbs = 0 by omega)]
theorem tz_zero_iff : ∀ {q : List Int}, tz q = 0 ↔ ∀ k, cf q k = 0
  | [] => by simp [tz, topN, cf_nil]
  | x :: xs => by
    rw [tz_cons]
    constructor
    · intro h k
      split at h
      · rename_i h0
        split at h
        · rename_i hx; subst hx
          cases k with
          | zero => rfl
          | succ k => exact tz_zero_iff.mp h0 k
        · omega
      · omega
    · intro h
      have h0 : tz xs = 0 := tz_zero_iff.mpr fun k => h (k + 1)
      have hx : x = 0 := h 0
      rw [if_pos h0, if_pos hx]
theorem trimz_cons (x : Int) (xs : List Int) : trimz (x :: xs) = if tz xs = 0 ∧ x = 0 then [] else x :: trimz xs := by
  unfold trimz; rw [tz_cons]
  by_cases h : tz xs = 0
  · by_cases hx : x = 0 <;> simp [h, hx]
  · simp [h]
/-- Trimming hangs on the coefficients alone. -/
theorem trimz_ext : ∀ {p q : List Int}, (∀ k, cf p k = cf q k) → trimz p = trimz q
  | [], q, h => by
    have : tz q = 0 := tz_zero_iff.mpr fun k => (h k).symm
    simp [trimz, this]
  | x :: xs, [], h => by
    have : tz (x :: xs) = 0 := tz_zero_iff.mpr fun k => h k
    simp [trimz, this]
  | x :: xs, y :: ys, h => by
    have hx : x = y := h 0
    have ih := trimz_ext (p := xs) (q := ys) fun k => h (k + 1)
    have ht : tz xs = 0 ↔ tz ys = 0 := by
      rw [tz_zero_iff, tz_zero_iff]
      exact forall_congr' fun k => by rw [show cf xs k = cf ys k from h (k + 1)]
    rw [trimz_cons, trimz_cons, hx, ih]; simp only [ht]
theorem cf_trimz : ∀ (q : List Int) (k : Nat), cf (trimz q) k = cf q k
  | [], k => by simp [trimz]
  | x :: xs, k => by
    rw [trimz_cons]
    split
    · rename_i h
      cases k with
      | zero => simp [cf_nil, cf_cons_zero, h.2]
      | succ k => rw [cf_cons_succ, cf_nil]; exact (tz_zero_iff.mp h.1 k).symm
    · cases k with
      | zero => rfl
      | succ k => rw [cf_cons_succ, cf_cons_succ, cf_trimz xs k]
theorem trimz_eq_iff {p q : List Int} : trimz p = trimz q ↔ ∀ k, cf p k = cf q k :=
  ⟨fun h k => by rw [← cf_trimz p, ← cf_trimz q, h], trimz_ext⟩
theorem trimz_trimz (q : List Int) : trimz (trimz q) = trimz q := trimz_ext (cf_trimz q)
theorem tz_eq_of_cf {p q : List Int} (h : ∀ k, cf p k = cf q k) : tz p = tz q := by
  rw [← trimz_len, ← trimz_len, trimz_ext h]
theorem cpoly_ext {p q : List Int} (h : ∀ k, cf p k = cf q k) : cpoly p = cpoly q := by
  unfold cpoly; rw [trimz_ext h]
theorem tz_trimz (q : List Int) : tz (trimz q) = tz q := tz_eq_of_cf (cf_trimz q)
/-- The number of coefficients is one above the last that isn't 0. -/
theorem tz_spec {q : List Int} {n : Nat} (h : cf q n ≠ 0) (h0 : ∀ k, n < k → cf q k = 0) : tz q = n + 1 := by
  have hn : n < q.length := by
    rcases Nat.lt_or_ge n q.length with h' | h'
    · exact h'
    · exact (h (cf_ge h')).elim
  have e : ∀ k, cf q k = cf (q.take (n + 1)) k := by
    intro k
    by_cases hk : k < n + 1
    · simp [cf, List.getD, List.getElem?_take, hk]
    · rw [h0 k (by omega), cf_ge (by rw [List.length_take]; omega)]
  rw [tz_eq_of_cf e, tz_full hn h]
theorem cf_tz_pred {q : List Int} (h : tz q ≠ 0) : cf q (tz q - 1) ≠ 0 := by
  induction q with
  | nil => simp [tz, topN] at h
  | cons x xs ih =>
    rw [tz_cons] at h ⊢
    by_cases h0 : tz xs = 0
    · rw [if_pos h0] at h ⊢
      by_cases hx : x = 0
      · simp [hx] at h
      · rw [if_neg hx]; exact hx
    · rw [if_neg h0]
      have := ih h0
      rw [show tz xs + 1 - 1 = (tz xs - 1) + 1 by omega]; exact this
theorem cf_ge_tz (q : List Int) {k : Nat} (h : tz q ≤ k) : cf q k = 0 := by
  rw [← cf_trimz]; exact cf_ge (by rw [trimz_len]; exact h)

/-! sums, products -/
def padd (p q : List Int) : List Int := (List.range (max p.length q.length)).map fun k => cf p k + cf q k
theorem cf_padd (p q : List Int) (k : Nat) : cf (padd p q) k = cf p k + cf q k := by
  by_cases h : k < max p.length q.length
  · simp only [padd, cf, List.getD, List.getElem?_map, List.getElem?_range h, Option.map_some, Option.getD_some]
  · rw [cf_ge (by simp [padd]; omega), cf_ge (by omega), cf_ge (by omega)]; rfl
def pscale (c : Int) (p : List Int) : List Int := p.map fun x => x * c
theorem cf_pscale (c : Int) (p : List Int) (k : Nat) : cf (pscale c p) k = cf p k * c := by
  simp only [pscale, cf, List.getD, List.getElem?_map]
  cases p[k]? <;> simp
/-- The product's coefficients. -/
def cv : List Int → (Nat → Int) → Nat → Int
  | [], _, _ => 0
  | x :: xs, g, k => x * g k + match k with | 0 => 0 | k + 1 => cv xs g k
def pmul (p q : List Int) : List Int := (List.range (p.length + q.length)).map (cv p (cf q))

theorem cv_congr {g g' : Nat → Int} : ∀ (p : List Int) (k : Nat), (∀ j, g j = g' j) → cv p g k = cv p g' k
  | [], _, _ => rfl
  | x :: xs, k, h => by
    simp only [cv, h k]
    cases k with
    | zero => rfl
    | succ k => simp only; rw [cv_congr xs k h]
theorem cv_zero {g : Nat → Int} : ∀ (p : List Int) {n k : Nat}, (∀ j, n ≤ j → g j = 0) → p.length + n ≤ k + 1 → cv p g k = 0
  | [], _, _, _, _ => rfl
  | x :: xs, n, k, h, hk => by
    simp only [List.length_cons] at hk
    simp only [cv, h k (by omega), Int.mul_zero, Int.zero_add]
    cases k with
    | zero => rfl
    | succ k => exact cv_zero xs h (by omega)
theorem cf_pmul (p q : List Int) (k : Nat) : cf (pmul p q) k = cv p (cf q) k := by
  by_cases h : k < p.length + q.length
  · simp only [pmul]; rw [cf, List.getD, List.getElem?_map, List.getElem?_range h]; rfl
  · rw [cf_ge (by simp [pmul]; omega), cv_zero p (n := q.length) (fun j hj => cf_ge hj) (by omega)]
theorem cv_cf_congr {p p' : List Int} {g : Nat → Int} (h : ∀ j, cf p j = cf p' j) : ∀ k, cv p g k = cv p' g k := by
  induction p generalizing p' with
  | nil =>
    intro k
    induction p' generalizing k with
    | nil => rfl
    | cons y ys ih =>
      have hy : y = 0 := (h 0).symm
      simp only [cv, hy, Int.zero_mul, Int.zero_add]
      cases k with
      | zero => rfl
      | succ k => exact ih (fun j => h (j + 1)) k
  | cons x xs ih =>
    intro k
    cases p' with
    | nil =>
      have hx : x = 0 := h 0
      simp only [cv, hx, Int.zero_mul, Int.zero_add]
      cases k with
      | zero => rfl
      | succ k => exact ih (p' := []) (fun j => h (j + 1)) k
    | cons y ys =>
      have hx : x = y := h 0
      simp only [cv, hx]
      cases k with
      | zero => rfl
      | succ k => simp only; rw [ih (p' := ys) (fun j => h (j + 1)) k]
theorem cv_take_succ {g : Nat → Int} : ∀ (p : List Int) (i k : Nat), cv (p.take (i + 1)) g k = cv (p.take i) g k + (if i ≤ k then cf p i * g (k - i) else 0)
  | [], i, k => by simp [cv, cf_nil]
  | x :: xs, 0, k => by
    simp only [List.take_succ_cons, List.take_zero, cv, cf_cons_zero, Nat.sub_zero, Nat.zero_le, if_true]
    cases k <;> simp
  | x :: xs, i + 1, k => by
    simp only [List.take_succ_cons, cv, cf_cons_succ]
    cases k with
    | zero => simp
    | succ k =>
      have := cv_take_succ (g := g) xs i k
      simp only [List.take_succ_cons] at this ⊢
      rw [this]
      simp only [Nat.add_le_add_iff_right, Nat.add_sub_add_right]
      omega

theorem pv_len (p : List RI) : (pv p).length = p.length := by simp [pv]
theorem cf_pv (p : List RI) (k : Nat) : cf (pv p) k = iv (p.getD k (false, [])) := by
  simp only [cf, pv, List.getD, List.getElem?_map]
  cases p[k]? <;> simp [iv_zero]
theorem RP.get {n k : Nat} {p : List RI} (h : RP n k p) (i : Nat) : Sz k (p.getD i (false, [])) := by
  by_cases hi : i < p.length
  · have : p.getD i (false, []) = p[i] := by simp [List.getD, hi]
    rw [this]; exact h.2 _ (List.getElem_mem hi)
  · rw [List.getD_eq_getElem?_getD, List.getElem?_eq_none (by omega)]; exact ⟨Nat.zero_le _, Lim.nil⟩
theorem canon_getD (q : List Int) (i : Nat) : (q.map canon).getD i (false, []) = canon (cf q i) := by
  simp only [cf, List.getD, List.getElem?_map]
  cases q[i]? <;> simp [canon_zero]
theorem canon_set (q : List Int) (i : Nat) (z : Int) : (q.map canon).set i (canon z) = (q.set i z).map canon := by rw [List.map_set]
theorem canon_snoc (q : List Int) (z : Int) : q.map canon ++ [canon z] = (q ++ [z]).map canon := by simp
theorem pv_canon (q : List Int) : pv (q.map canon) = q := by
  simp only [pv, List.map_map]
  conv => rhs; rw [← List.map_id q]
  exact List.map_congr_left fun z _ => iv_canon z
theorem RP.canon {n k : Nat} {q : List Int} (h : PB n k q) : RP n k (q.map canon) := by
  refine ⟨by simpa using h.1, fun c hc => ?_⟩
  obtain ⟨z, hz, rfl⟩ := List.mem_map.mp hc
  exact (sz_canon z).mono (h.2 z hz)
theorem PB.cf {n k : Nat} {q : List Int} (h : PB n k q) (i : Nat) : zl (cf q i) ≤ k := by
  by_cases hi : i < q.length
  · have : AL.cf q i = q[i] := by simp [AL.cf, List.getD, hi]
    rw [this]; exact h.2 _ (List.getElem_mem hi)
  · rw [cf_ge (by omega), zl_zero]; exact Nat.zero_le _
theorem PB.of {n k : Nat} {q : List Int} (hl : q.length ≤ n) (h : ∀ i, zl (AL.cf q i) ≤ k) : PB n k q := by
  refine ⟨hl, fun z hz => ?_⟩
  obtain ⟨i, hi, rfl⟩ := List.getElem_of_mem hz
  have := h i
  rwa [show AL.cf q i = q[i] by simp [AL.cf, List.getD, hi]] at this
theorem PB.trimz {n k : Nat} {q : List Int} (h : PB n k q) : PB n k (trimz q) :=
  .of (by rw [trimz_len]; exact Nat.le_trans (tz_le q) h.1) fun i => by rw [cf_trimz]; exact h.cf i
theorem RP.pv {n k : Nat} {p : List RI} (h : RP n k p) : PB n k (pv p) :=
  .of (by rw [pv_len]; exact h.1) fun i => by rw [cf_pv]; exact zl_iv (h.get i)
theorem PB.mono {n k n' k' : Nat} {q : List Int} (h : PB n k q) (hn : n ≤ n') (hk : k ≤ k') : PB n' k' q := ⟨Nat.le_trans h.1 hn, fun z hz => Nat.le_trans (h.2 z hz) hk⟩
theorem RP.mono {n k n' k' : Nat} {q : List RI} (h : RP n k q) (hn : n ≤ n') (hk : k ≤ k') : RP n' k' q := ⟨Nat.le_trans h.1 hn, fun z hz => (h.2 z hz).mono hk⟩
theorem PB.padd {n k m j : Nat} {p q : List Int} (hp : PB n k p) (hq : PB m j q) : PB (max n m) (max k j + 1) (padd p q) :=
  .of (by simp [AL.padd]; have := hp.1; have := hq.1; omega) fun i => by
    rw [cf_padd]; have := zl_add (AL.cf p i) (AL.cf q i); have := hp.cf i; have := hq.cf i; omega
theorem PB.pscale {n k : Nat} {p : List Int} {c : Int} (hp : PB n k p) : PB n (k + zl c) (pscale c p) :=
  .of (by simp [AL.pscale]; exact hp.1) fun i => by rw [cf_pscale]; have := zl_mul (AL.cf p i) c; have := hp.cf i; omega

theorem zl_le {z : Int} {k : Nat} : zl z ≤ k ↔ z.natAbs < W ^ k := wd_len_le
theorem cv_abs {g : Nat → Int} {M N : Nat} (hg : ∀ j, (g j).natAbs ≤ N) : ∀ (p : List Int) (k : Nat), (∀ z ∈ p, z.natAbs ≤ M) → (cv p g k).natAbs ≤ p.length * (M * N)
  | [], _, _ => by simp [cv]
  | x :: xs, k, h => by
    have hx := Nat.mul_le_mul (h x (by simp)) (hg k)
    have hsum : ∀ b : Int, b.natAbs ≤ xs.length * (M * N) → (x * g k + b).natAbs ≤ (xs.length + 1) * (M * N) := by
      intro b hb
      have := Int.natAbs_add_le (x * g k) b
      rw [Int.natAbs_mul] at this
      rw [Nat.add_mul, Nat.one_mul]; omega
    simp only [cv, List.length_cons]
    cases k with
    | zero => exact hsum 0 (by simp)
    | succ k => exact hsum _ (cv_abs hg xs k fun z hz => h z (by simp [hz]))
theorem zl_cv {p q : List Int} {n k m j : Nat} (hp : PB n k p) (hq : PB m j q) (hn : n < W) (i : Nat) : zl (cv p (cf q) i) ≤ k + j + 1 := by
  rw [zl_le]
  have h := cv_abs (g := cf q) (M := W ^ k - 1) (N := W ^ j - 1) (fun i => by have := zl_le.mp (hq.cf i); omega) p i (fun z hz => by have := zl_le.mp (hp.2 z hz); omega)
  refine Nat.lt_of_le_of_lt h ?_
  have h1 : p.length * ((W ^ k - 1) * (W ^ j - 1)) ≤ n * ((W ^ k - 1) * (W ^ j - 1)) := Nat.mul_le_mul_right _ hp.1
  have h2 : (W ^ k - 1) * (W ^ j - 1) ≤ W ^ k * W ^ j := Nat.mul_le_mul (by omega) (by omega)
  have h3 : n * ((W ^ k - 1) * (W ^ j - 1)) ≤ n * (W ^ k * W ^ j) := Nat.mul_le_mul_left _ h2
  have h4 : n * (W ^ k * W ^ j) < W * (W ^ k * W ^ j) := (Nat.mul_lt_mul_right (Nat.mul_pos (W_pow_pos k) (W_pow_pos j))).mpr hn
  rw [Nat.pow_succ, Nat.pow_add, Nat.mul_comm _ W]
  omega
theorem PB.pmul {p q : List Int} {n k m j : Nat} (hp : PB n k p) (hq : PB m j q) (hn : n < W) : PB (n + m) (k + j + 1) (pmul p q) :=
  .of (by simp [AL.pmul]; have := hp.1; have := hq.1; omega) fun i => by rw [cf_pmul]; exact zl_cv hp hq hn i

theorem rep_canon (n : Nat) : List.replicate n ((false, []) : RI) = (List.replicate n 0).map canon := by rw [List.map_replicate, canon_zero]
theorem cpoly_len (q : List Int) : (cpoly q).length = tz q := by simp [cpoly, raws, trimz_len]
theorem PB_take {n k : Nat} {q : List Int} (h : PB n k q) (i : Nat) : PB n k (q.take i) := ⟨by rw [List.length_take]; have := h.1; omega, fun z hz => h.2 z (List.mem_of_mem_take hz)⟩
theorem lay_int1 (c : RI) (l : List (List IV)) : lay (fun i => [(0, 1), (1, 1)][i]?) (prow c) ([1].zip [[.sl l]]) = some (True, [.bool c.1, .sl l]) := by simp [lay, splice, prow]
def polys (ps : List (List RI)) : List (List IV) := ps.map fun p => [.sl (raws p)]
theorem polys_len (ps : List (List RI)) : (polys ps).length = ps.length := by simp [polys]
theorem polys_at {ps : List (List RI)} {i : Nat} (h : i < ps.length) : (polys ps).getD i [] = [.sl (raws (ps.getD i []))] := by simp [polys, List.getD, h]
theorem lay_none (g : Nat → Option (Nat × Nat)) (cells : List IV) : lay g cells (([] : List Nat).zip ([] : List (List IV))) = some (True, cells) := rfl
theorem cf_rep (n k : Nat) : cf (List.replicate n 0) k = 0 := by
  simp only [cf, List.getD, List.getElem?_replicate]; split <;> rfl
theorem cf_set {q : List Int} {i : Nat} (h : i < q.length) (z : Int) (k : Nat) : cf (q.set i z) k = if k = i then z else cf q k := by
  simp only [cf, List.getD, List.getElem?_set]
  by_cases e : i = k
  · subst e; simp [h]
  · simp [e, Ne.symm e]
theorem cf_snoc (q : List Int) (z : Int) (k : Nat) : cf (q ++ [z]) k = if k = q.length then z else cf q k := by
  simp only [cf, List.getD, List.getElem?_append]
  by_cases h : k < q.length
  · rw [if_pos h, if_neg (by omega)]
  · rw [if_neg h]
    by_cases e : k = q.length
    · subst e; simp
    · rw [if_neg e, List.getElem?_eq_none (by simp; omega), List.getElem?_eq_none (by omega)]

theorem cv_none : ∀ (p : List Int) (k : Nat), cv p (cf []) k = 0
  | [], _ => rfl
  | x :: xs, k => by
    simp only [cv, cf_nil, Int.mul_zero, Int.zero_add]
    cases k with
    | zero => rfl
    | succ k => exact cv_none xs k

end Go.AL
