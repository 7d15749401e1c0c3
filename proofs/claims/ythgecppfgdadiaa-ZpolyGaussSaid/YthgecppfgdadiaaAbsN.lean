/-
  Lists of digits and their numbers.
-/
import Derived.Test.YthgecppfgdadiaaAbsG
namespace Go.AL
set_option linter.unusedSimpArgs false
set_option linter.unusedVariables false

/-! ### Lists of digits -/

/-- The number of a list of digits, the lowest first. -/
def vl (b : Nat) : List Nat → Nat
  | [] => 0
  | x :: xs => x + b * vl b xs

/-- How many there are without the zeros above. -/
def topN : List Nat → Nat
  | [] => 0
  | x :: xs => if topN xs = 0 then (if x = 0 then 0 else 1) else topN xs + 1

theorem topN_le : ∀ l : List Nat, topN l ≤ l.length
  | [] => Nat.le_refl _
  | x :: xs => by
    have := topN_le xs
    simp only [topN, List.length_cons]
    split
    · split <;> omega
    · omega
theorem topN_take_zero {l : List Nat} : ∀ {k : Nat}, k < l.length → l.getD k 0 = 0 → topN (l.take (k + 1)) = topN (l.take k) := by
  induction l with
  | nil => intro k h; simp at h
  | cons x xs ih =>
    intro k h h0
    cases k with
    | zero => simp at h0; simp [topN, h0]
    | succ k =>
      simp only [List.length_cons] at h
      simp only [List.take_succ_cons, topN]
      rw [ih (by omega) (by simpa using h0)]
theorem topN_full {l : List Nat} : ∀ {k : Nat}, k < l.length → l.getD k 0 ≠ 0 → topN (l.take (k + 1)) = k + 1 := by
  induction l with
  | nil => intro k h; simp at h
  | cons x xs ih =>
    intro k h h0
    cases k with
    | zero => simp at h0; simp [topN, h0]
    | succ k =>
      simp only [List.length_cons] at h
      simp only [List.take_succ_cons, topN]
      rw [ih (by omega) (by simpa using h0)]
      simp

/-- The digits of a number. -/
def dg (b n : Nat) : List Nat := if h : n = 0 ∨ b < 2 then [] else n % b :: dg b (n / b)
termination_by n
decreasing_by exact Nat.div_lt_self (by omega) (by omega)

theorem dg_zero (b : Nat) : dg b 0 = [] := by rw [dg]; simp
theorem dg_pos {b n : Nat} (hb : 2 ≤ b) (hn : n ≠ 0) : dg b n = n % b :: dg b (n / b) := by rw [dg]; rw [dif_neg (by omega)]
theorem dg_eq_nil {b n : Nat} (hb : 2 ≤ b) : dg b n = [] ↔ n = 0 := by
  constructor
  · intro h; by_cases hn : n = 0
    · exact hn
    · rw [dg_pos hb hn] at h; cases h
  · rintro rfl; exact dg_zero b

theorem vl_dg {b : Nat} (hb : 2 ≤ b) (n : Nat) : vl b (dg b n) = n := by
  induction n using Nat.strongRecOn with
  | _ n ih =>
    by_cases hn : n = 0
    · subst hn; rw [dg_zero]; rfl
    · rw [dg_pos hb hn, vl, ih _ (Nat.div_lt_self (by omega) (by omega))]
      exact Nat.mod_add_div n b

theorem dg_lt {b : Nat} (hb : 2 ≤ b) (n : Nat) : ∀ x ∈ dg b n, x < b := by
  induction n using Nat.strongRecOn with
  | _ n ih =>
    by_cases hn : n = 0
    · subst hn; rw [dg_zero]; simp
    · rw [dg_pos hb hn]
      intro x hx
      simp only [List.mem_cons] at hx
      rcases hx with rfl | hx
      · exact Nat.mod_lt _ (by omega)
      · exact ih _ (Nat.div_lt_self (by omega) (by omega)) x hx

theorem vl_zero_top {b : Nat} (hb : 2 ≤ b) : ∀ l : List Nat, vl b l = 0 ↔ topN l = 0
  | [] => by simp [vl, topN]
  | x :: xs => by
    have := vl_zero_top hb xs
    simp only [vl, topN]
    constructor
    · intro h
      have h1 : x = 0 := by omega
      have h2 : b * vl b xs = 0 := by omega
      have h3 : vl b xs = 0 := by rcases Nat.mul_eq_zero.mp h2 with h | h <;> omega
      simp [this.mp h3, h1]
    · intro h
      split at h
      · rename_i h'
        split at h
        · rename_i hx; rw [this.mpr h', hx]; rfl
        · omega
      · omega

/-- Trimming is writing anew. -/
theorem dg_vl {b : Nat} (hb : 2 ≤ b) : ∀ {l : List Nat}, (∀ x ∈ l, x < b) → dg b (vl b l) = l.take (topN l)
  | [], _ => by simp [vl, dg_zero, topN]
  | x :: xs, h => by
    have ih := dg_vl hb (l := xs) (fun y hy => h y (by simp [hy]))
    have hx : x < b := h x (by simp)
    simp only [vl]
    by_cases h0 : x + b * vl b xs = 0
    · have := (vl_zero_top hb (x :: xs)).mp h0
      rw [h0, dg_zero, this]; rfl
    · rw [dg_pos hb h0, Nat.add_mul_mod_self_left, Nat.mod_eq_of_lt hx, Nat.add_mul_div_left _ _ (by omega), Nat.div_eq_of_lt hx, Nat.zero_add, ih]
      simp only [topN]
      split
      · rename_i ht
        have : vl b xs = 0 := (vl_zero_top hb xs).mpr ht
        have hx0 : x ≠ 0 := by rw [this] at h0; omega
        simp [ht, hx0]
      · rw [List.take_succ_cons]

theorem vl_append (b : Nat) (m : List Nat) : ∀ l : List Nat, vl b (l ++ m) = vl b l + b ^ l.length * vl b m
  | [] => by simp [vl]
  | x :: xs => by
    simp only [List.cons_append, vl, vl_append b m xs, List.length_cons, Nat.pow_succ, Nat.mul_add]
    rw [Nat.mul_comm (b ^ xs.length) b, Nat.mul_assoc]; omega

theorem vl_lt {b : Nat} : ∀ {l : List Nat}, (∀ x ∈ l, x < b) → vl b l < b ^ l.length
  | [], _ => by simp [vl]
  | x :: xs, h => by
    have ih := vl_lt (l := xs) (fun y hy => h y (by simp [hy]))
    have hx := h x (by simp)
    simp only [vl, List.length_cons, Nat.pow_succ]
    have : b * vl b xs + b ≤ b ^ xs.length * b := by
      rw [Nat.mul_comm (b ^ _) b, ← Nat.mul_succ]; exact Nat.mul_le_mul_left _ ih
    omega

theorem vl_split (b : Nat) (l : List Nat) {k : Nat} (h : k ≤ l.length) : vl b l = vl b (l.take k) + b ^ k * vl b (l.drop k) := by
  conv => lhs; rw [← List.take_append_drop k l]
  rw [vl_append, List.length_take, Nat.min_eq_left h]

theorem vl_replicate (b n : Nat) : vl b (List.replicate n 0) = 0 := by
  induction n with
  | zero => rfl
  | succ n ih => simp [List.replicate_succ, vl, ih]

theorem vl_take_succ (b : Nat) {l : List Nat} {k : Nat} (h : k < l.length) : vl b (l.take (k + 1)) = vl b (l.take k) + b ^ k * l.getD k 0 := by
  rw [List.take_add_one, vl_append, List.length_take, Nat.min_eq_left (by omega)]
  simp [List.getD, h, vl]

theorem dg_length_le {b : Nat} (hb : 2 ≤ b) (k : Nat) : ∀ {n : Nat}, (dg b n).length ≤ k ↔ n < b ^ k := by
  intro n
  constructor
  · intro h
    have := vl_lt (dg_lt hb n)
    rw [vl_dg hb] at this
    exact Nat.lt_of_lt_of_le this (Nat.pow_le_pow_right (by omega) h)
  · intro h
    induction k generalizing n with
    | zero => obtain rfl : n = 0 := by simpa using h
              simp [dg_zero]
    | succ k ih =>
      by_cases hn : n = 0
      · subst hn; simp [dg_zero]
      · rw [dg_pos hb hn, List.length_cons]
        have : n / b < b ^ k := by rw [Nat.div_lt_iff_lt_mul (by omega), ← Nat.pow_succ]; exact h
        have := ih this
        omega

theorem topN_take_self : ∀ {l : List Nat}, topN l = l.length → l.take (topN l) = l := by
  intro l h; rw [h, List.take_length]

theorem vl_drop_top {b : Nat} (hb : 2 ≤ b) : ∀ {l : List Nat}, (∀ x ∈ l, x < b) → vl b (l.take (topN l)) = vl b l := by
  intro l h; rw [← dg_vl hb h, vl_dg hb]

/-! ### The numbers' own words -/

/-- The base. -/
abbrev W : Nat := 18446744073709551616
/-- The words are words. -/
def Lim (l : List Nat) : Prop := ∀ x ∈ l, x < W
/-- A number's words, and its list of a model's. -/
abbrev wd (n : Nat) : List Nat := dg W n
abbrev nv (l : List Nat) : Nat := vl W l

theorem two_le_W : 2 ≤ W := by decide
theorem lim_wd (n : Nat) : Lim (wd n) := dg_lt two_le_W n
theorem nv_wd (n : Nat) : nv (wd n) = n := vl_dg two_le_W n
theorem wd_nv {l : List Nat} (h : Lim l) : wd (nv l) = l.take (topN l) := dg_vl two_le_W h
theorem wd_zero : wd 0 = [] := dg_zero W
theorem wd_nil {n : Nat} : wd n = [] ↔ n = 0 := dg_eq_nil two_le_W
theorem wd_len_zero {n : Nat} : (wd n).length = 0 ↔ n = 0 := by rw [List.length_eq_zero_iff]; exact wd_nil
theorem wd_len_le {n k : Nat} : (wd n).length ≤ k ↔ n < W ^ k := dg_length_le two_le_W k
theorem nv_len {l : List Nat} (h : Lim l) : (wd (nv l)).length ≤ l.length := wd_len_le.mpr (vl_lt h)
theorem Lim.get {l : List Nat} (h : Lim l) (i : Nat) : l.getD i 0 < W := by
  by_cases hi : i < l.length
  · have : l.getD i 0 = l[i] := by simp [List.getD, hi]
    rw [this]; exact h _ (List.getElem_mem hi)
  · rw [List.getD_eq_getElem?_getD, List.getElem?_eq_none (by omega)]; decide
theorem Lim.nil : Lim [] := fun _ h => nomatch h
theorem Lim.cons {x : Nat} {l : List Nat} (hx : x < W) (h : Lim l) : Lim (x :: l) := fun y hy => by
  rcases List.mem_cons.mp hy with rfl | hy
  · exact hx
  · exact h y hy
theorem Lim.append {l m : List Nat} (h : Lim l) (h' : Lim m) : Lim (l ++ m) := fun x hx => (List.mem_append.mp hx).elim (h x) (h' x)
theorem Lim.take {l : List Nat} (h : Lim l) (k : Nat) : Lim (l.take k) := fun x hx => h x (List.mem_of_mem_take hx)
theorem Lim.drop {l : List Nat} (h : Lim l) (k : Nat) : Lim (l.drop k) := fun x hx => h x (List.mem_of_mem_drop hx)
theorem Lim.set {l : List Nat} (h : Lim l) {i x : Nat} (hx : x < W) : Lim (l.set i x) := fun y hy => by
  rcases List.mem_or_eq_of_mem_set hy with hy | rfl
  · exact h y hy
  · exact hx
theorem Lim.replicate (n : Nat) : Lim (List.replicate n 0) := fun x hx => by rw [List.eq_of_mem_replicate hx]; decide

theorem wd_add_len (a b : Nat) : (wd (a + b)).length ≤ max (wd a).length (wd b).length + 1 := by
  rw [wd_len_le, Nat.pow_succ]
  have h1 : a < W ^ (max (wd a).length (wd b).length) := wd_len_le.mp (by omega)
  have h2 : b < W ^ (max (wd a).length (wd b).length) := wd_len_le.mp (by omega)
  have : W ^ (max (wd a).length (wd b).length) * 2 ≤ W ^ (max (wd a).length (wd b).length) * W := Nat.mul_le_mul_left _ (by decide)
  omega
theorem wd_mul_len (a b : Nat) : (wd (a * b)).length ≤ (wd a).length + (wd b).length := by
  rw [wd_len_le, Nat.pow_add]
  have h1 : a < W ^ (wd a).length := wd_len_le.mp (Nat.le_refl _)
  have h2 : b < W ^ (wd b).length := wd_len_le.mp (Nat.le_refl _)
  exact Nat.mul_lt_mul'' h1 h2
theorem wd_len_mono {a b : Nat} (h : a ≤ b) : (wd a).length ≤ (wd b).length := by
  rw [wd_len_le]; exact Nat.lt_of_le_of_lt h (wd_len_le.mp (Nat.le_refl _))

theorem vl_take_next (b : Nat) (l : List Nat) (k : Nat) : vl b (l.take (k + 1)) = vl b (l.take k) + b ^ k * l.getD k 0 := by
  by_cases h : k < l.length
  · exact vl_take_succ b h
  · rw [List.take_of_length_le (by omega), List.take_of_length_le (by omega), List.getD_eq_getElem?_getD, List.getElem?_eq_none (by omega)]
    simp
theorem vl_take_set (b : Nat) {l : List Nat} {k : Nat} (h : k < l.length) (x : Nat) : vl b ((l.set k x).take (k + 1)) = vl b (l.take k) + b ^ k * x := by
  rw [vl_take_succ b (by simpa using h), List.take_set_of_le (Nat.le_refl _)]
  simp [List.getD, h]
theorem vl_inj {b : Nat} : ∀ {l m : List Nat}, (∀ x ∈ l, x < b) → (∀ x ∈ m, x < b) → l.length = m.length → vl b l = vl b m → l = m
  | [], [], _, _, _, _ => rfl
  | x :: xs, y :: ys, h1, h2, hl, h => by
    simp only [vl] at h
    have hx := h1 x (by simp)
    have hy := h2 y (by simp)
    have e1 : x = y := by
      have := congrArg (· % b) h
      simpa [Nat.add_mul_mod_self_left, Nat.mod_eq_of_lt hx, Nat.mod_eq_of_lt hy] using this
    subst e1
    have e2 : b * vl b xs = b * vl b ys := by omega
    have e3 : vl b xs = vl b ys := Nat.eq_of_mul_eq_mul_left (by omega) e2
    rw [vl_inj (fun z hz => h1 z (by simp [hz])) (fun z hz => h2 z (by simp [hz])) (by simpa using hl) e3]
  | [], _ :: _, _, _, hl, _ => by simp at hl
  | _ :: _, [], _, _, hl, _ => by simp at hl

/-- So many words of a number. -/
def pad : Nat → Nat → List Nat
  | 0, _ => []
  | n + 1, s => s % W :: pad n (s / W)
theorem pad_len : ∀ n s, (pad n s).length = n
  | 0, _ => rfl
  | n + 1, s => by simp [pad, pad_len n]
theorem lim_pad : ∀ n s, Lim (pad n s)
  | 0, _ => Lim.nil
  | n + 1, s => Lim.cons (Nat.mod_lt _ (by decide)) (lim_pad n _)
theorem nv_pad : ∀ n s, nv (pad n s) = s % W ^ n
  | 0, s => by simp [pad, vl, Nat.mod_one]
  | n + 1, s => by
    have := nv_pad n (s / W)
    simp only [nv] at this
    simp only [pad, nv, vl, this]
    rw [Nat.pow_succ, Nat.mul_comm (W ^ n) W, Nat.mod_mul]
theorem eq_pad {l : List Nat} {n s : Nat} (h : Lim l) (hl : l.length = n) (hv : nv l = s % W ^ n) : l = pad n s :=
  vl_inj h (lim_pad n s) (by rw [pad_len, hl]) (by rw [← nv, hv]; exact (nv_pad n s).symm)
theorem nv_lt {l : List Nat} (h : Lim l) : nv l < W ^ l.length := vl_lt h
theorem W_pow_pos (n : Nat) : 0 < W ^ n := Nat.pow_pos (by decide)

/-- One column of a sum. -/
theorem carry_step {P A B O c x y s c' : Nat} (h : O + P * c = A + B) (he : s + W * c' = x + y + c) : (O + P * s) + P * W * c' = (A + P * x) + (B + P * y) := by
  have := congrArg (P * ·) he
  simp only [Nat.mul_add] at this
  rw [Nat.mul_assoc]; omega
/-- .. of a difference. -/
theorem borrow_step {P A B O c x y s c' : Nat} (h : O + B = A + P * c) (he : s + y + c = x + W * c') : (O + P * s) + (B + P * y) = (A + P * x) + P * W * c' := by
  have := congrArg (P * ·) he
  simp only [Nat.mul_add] at this
  rw [Nat.mul_assoc]; omega

theorem nv_snoc (l : List Nat) (x : Nat) : nv (l ++ [x]) = nv l + W ^ l.length * x := by simp [nv, vl_append, vl]

/-! ### Integers, as they are handed -/

abbrev RI := Bool × List Nat
def prow (c : RI) : List IV := [.bool c.1, .sl (lims c.2)]
/-- An integer's value. -/
def iv (c : RI) : Int := if c.1 then -(nv c.2 : Int) else (nv c.2 : Int)
/-- An integer's own form. -/
def canon (z : Int) : RI := (decide (z < 0), wd z.natAbs)
/-- .. of a sign and a size. -/
def sg (s : Bool) (n : Nat) : Int := if s then -(n : Int) else (n : Int)
/-- Within bounds. -/
def Sz (k : Nat) (c : RI) : Prop := c.2.length ≤ k ∧ Lim c.2
/-- How many words. -/
def zl (z : Int) : Nat := (wd z.natAbs).length
def raws (p : List RI) : List (List IV) := p.map prow

theorem prow_len (c : RI) : (prow c).length = 2 := rfl
theorem prow_drop0 (c : RI) : (prow c).drop 0 = prow c := rfl
theorem prow_drop1 (c : RI) : (prow c).drop 1 = [.sl (lims c.2)] := rfl
theorem prow_get0 (c : RI) (d : IV) : (prow c).getD 0 d = .bool c.1 := rfl
theorem prow_get1 (c : RI) (d : IV) : (prow c).getD 1 d = .sl (lims c.2) := rfl
theorem prow_take (c : RI) : (prow c).take 2 = prow c := rfl
theorem prow_zero : [IV.bool false, IV.sl []] = prow (false, []) := rfl
theorem prow_splice (c d : RI) : splice (prow c) 0 (prow d) = prow d := rfl
theorem raws_len (p : List RI) : (raws p).length = p.length := by simp [raws]
theorem raws_at {p : List RI} {i : Nat} (h : i < p.length) : (raws p).getD i [] = prow (p.getD i (false, [])) := by simp [raws, List.getD, h]
theorem raws_set (p : List RI) (i : Nat) (c : RI) : (raws p).set i (prow c) = raws (p.set i c) := by simp [raws, List.map_set]
theorem raws_snoc (p : List RI) (c : RI) : raws p ++ [prow c] = raws (p ++ [c]) := by simp [raws]
theorem raws_app (p q : List RI) : raws p ++ raws q = raws (p ++ q) := by simp [raws]
theorem raws_one (c : RI) : [prow c] = raws [c] := rfl
theorem raws_nil : raws [] = [] := rfl
theorem raws_rep (n : Nat) : List.replicate n (prow (false, [])) = raws (List.replicate n (false, [])) := by simp [raws]
theorem raws_rows (p : List RI) : (∀ r ∈ raws p, r.length = 2) ↔ True := by
  refine iff_true_intro fun r hr => ?_
  simp only [raws, List.mem_map] at hr
  obtain ⟨c, _, rfl⟩ := hr
  rfl
theorem raws_take (p : List RI) (k : Nat) : (raws p).take k = raws (p.take k) := by simp [raws, List.map_take]
theorem raws_drop (p : List RI) (k : Nat) : (raws p).drop k = raws (p.drop k) := by simp [raws, List.map_drop]

theorem canon_snd (z : Int) : (canon z).2 = wd z.natAbs := rfl
theorem canon_fst (z : Int) : (canon z).1 = decide (z < 0) := rfl
theorem iv_canon (z : Int) : iv (canon z) = z := by
  simp only [iv, canon, nv_wd]
  by_cases h : z < 0
  · simp only [h, decide_true, if_true]; omega
  · simp only [h, decide_false, Bool.false_eq_true, if_false]; omega
theorem sz_canon (z : Int) : Sz (zl z) (canon z) := ⟨Nat.le_refl _, lim_wd _⟩
theorem Sz.mono {j k : Nat} {c : RI} (h : Sz j c) (hk : j ≤ k) : Sz k c := ⟨Nat.le_trans h.1 hk, h.2⟩
theorem iv_abs (c : RI) : (iv c).natAbs = nv c.2 := by
  unfold iv; split <;> omega
theorem zl_iv {c : RI} {k : Nat} (h : Sz k c) : zl (iv c) ≤ k := by
  unfold zl; rw [iv_abs]; exact Nat.le_trans (nv_len h.2) h.1
theorem canon_sg (s : Bool) (n : Nat) : canon (sg s n) = (s && decide (n ≠ 0), wd n) := by
  unfold canon sg
  cases s
  · simp
  · by_cases h : n = 0
    · subst h; simp
    · simp [h]; omega
theorem zl_sg (s : Bool) (n : Nat) : zl (sg s n) = (wd n).length := by
  unfold zl sg; cases s <;> simp
theorem zl_add (a b : Int) : zl (a + b) ≤ max (zl a) (zl b) + 1 := by
  unfold zl
  exact Nat.le_trans (wd_len_mono (Int.natAbs_add_le a b)) (wd_add_len _ _)
theorem zl_neg (a : Int) : zl (-a) = zl a := by unfold zl; rw [Int.natAbs_neg]
theorem zl_mul (a b : Int) : zl (a * b) ≤ zl a + zl b := by
  unfold zl; rw [Int.natAbs_mul]; exact wd_mul_len _ _
theorem zl_zero : zl 0 = 0 := by simp [zl, wd_zero]
theorem iv_zero : iv (false, []) = 0 := by simp [iv, vl]
theorem iv_nil (s : Bool) : iv (s, []) = 0 := by simp [iv, vl]
theorem canon_zero : canon 0 = (false, []) := by simp [canon, wd_zero]
theorem iv_eq_sg (c : RI) : iv c = sg c.1 (nv c.2) := rfl

theorem lay_int (c : RI) (b : Bool) (l : List (List IV)) : lay (fun i => [(0, 1), (1, 1)][i]?) (prow c) ([0, 1].zip [[.bool b], [.sl l]]) = some (True, [.bool b, .sl l]) := by
  simp [lay, splice, prow]
theorem iv_add_same {a b : RI} (h : a.1 = b.1) : iv a + iv b = sg a.1 (nv a.2 + nv b.2) := by
  unfold iv sg; rw [← h]; split <;> omega
theorem iv_add_diff {a b : RI} (h : a.1 ≠ b.1) : iv a + iv b = sg (a.1 != decide (nv a.2 < nv b.2)) (if nv a.2 < nv b.2 then nv b.2 - nv a.2 else nv a.2 - nv b.2) := by
  unfold iv sg
  cases ha : a.1 <;> cases hb : b.1 <;> rw [ha, hb] at h <;> first | exact (h rfl).elim | skip
  all_goals
    by_cases hlt : nv a.2 < nv b.2
    · simp [hlt]; omega
    · simp [hlt]; omega
theorem iv_mul (a b : RI) : iv a * iv b = sg (a.1 != b.1) (nv a.2 * nv b.2) := by
  unfold iv sg
  cases a.1 <;> cases b.1 <;> simp [Int.neg_mul, Int.mul_neg]

theorem nv_take {l : List Nat} (h : Lim l) (k : Nat) : nv (l.take k) = nv l % W ^ k := by
  by_cases hk : k ≤ l.length
  · have e := vl_split W l hk
    have h2 := nv_lt (h.take k)
    rw [List.length_take, Nat.min_eq_left hk] at h2
    simp only [nv] at *
    rw [e, Nat.add_mul_mod_self_left, Nat.mod_eq_of_lt h2]
  · rw [List.take_of_length_le (by omega), Nat.mod_eq_of_lt]
    exact Nat.lt_of_lt_of_le (nv_lt h) (Nat.pow_le_pow_right (by decide) (by omega))
theorem nv_drop {l : List Nat} (h : Lim l) (k : Nat) : nv (l.drop k) = nv l / W ^ k := by
  by_cases hk : k ≤ l.length
  · have e := vl_split W l hk
    have h2 := nv_lt (h.take k)
    rw [List.length_take, Nat.min_eq_left hk] at h2
    simp only [nv] at *
    rw [e, Nat.add_mul_div_left _ _ (W_pow_pos k), Nat.div_eq_of_lt h2, Nat.zero_add]
  · rw [List.drop_of_length_le (by omega), Nat.div_eq_of_lt]
    · rfl
    · exact Nat.lt_of_lt_of_le (nv_lt h) (Nat.pow_le_pow_right (by decide) (by omega))
theorem vl_set (b : Nat) : ∀ {l : List Nat} {k : Nat} (_ : k < l.length) (x : Nat), vl b (l.set k x) + b ^ k * l.getD k 0 = vl b l + b ^ k * x
  | y :: ys, 0, _, x => by simp [vl]; omega
  | y :: ys, k + 1, h, x => by
    have ih := vl_set b (l := ys) (k := k) (by simpa using h) x
    have := congrArg (b * ·) ih
    simp only [Nat.mul_add] at this
    simp only [List.set_cons_succ, vl, List.getD_cons_succ, Nat.pow_succ]
    rw [Nat.mul_comm (b ^ k) b, Nat.mul_assoc, Nat.mul_assoc]; omega
theorem nv_set_take {l : List Nat} {k m : Nat} (hk : k < m) (hm : m ≤ l.length) (x : Nat) : nv ((l.set k x).take m) + W ^ k * l.getD k 0 = nv (l.take m) + W ^ k * x := by
  rw [List.take_set]
  have := vl_set W (l := l.take m) (k := k) (by rw [List.length_take]; omega) x
  have e : (l.take m).getD k 0 = l.getD k 0 := by simp [List.getD, List.getElem?_take, hk]
  rw [e] at this; exact this

/-- Words below. -/
def liftl (n : Nat) (l : List Nat) : List Nat := if l.length = 0 then [] else List.replicate n 0 ++ l
theorem nv_liftl (n : Nat) (l : List Nat) : nv (liftl n l) = W ^ n * nv l := by
  unfold liftl; split
  · rename_i h; rw [List.length_eq_zero_iff] at h; subst h; simp [vl]
  · simp [nv, vl_append, vl_replicate]
theorem lim_liftl (n : Nat) {l : List Nat} (h : Lim l) : Lim (liftl n l) := by
  unfold liftl; split
  · exact Lim.nil
  · exact (Lim.replicate n).append h
theorem liftl_len (n : Nat) (l : List Nat) : (liftl n l).length ≤ n + l.length := by
  unfold liftl; split <;> simp

theorem kara (x y P : Nat) (hP : 0 < P) : ∀ x1 x0 y1 y0, x1 = x / P → x0 = x % P → y1 = y / P → y0 = y % P →
    P * P * (x1 * y1) + P * ((x1 + x0) * (y1 + y0) - (x1 * y1 + x0 * y0)) + x0 * y0 = x * y ∧ x1 * y1 + x0 * y0 ≤ (x1 + x0) * (y1 + y0) := by
  intro x1 x0 y1 y0 h1 h2 h3 h4
  have ex : x = P * x1 + x0 := by rw [h1, h2]; exact (Nat.div_add_mod x P).symm
  have ey : y = P * y1 + y0 := by rw [h3, h4]; exact (Nat.div_add_mod y P).symm
  have e : (x1 + x0) * (y1 + y0) = x1 * y1 + x0 * y0 + (x1 * y0 + x0 * y1) := by simp only [Nat.add_mul, Nat.mul_add]; omega
  refine ⟨?_, by omega⟩
  rw [e, Nat.add_sub_cancel_left, ex, ey]
  simp only [Nat.add_mul, Nat.mul_add]
  have e1 : P * x1 * (P * y1) = P * P * (x1 * y1) := Nat.mul_mul_mul_comm _ _ _ _
  have e2 : P * x1 * y0 = P * (x1 * y0) := Nat.mul_assoc _ _ _
  have e3 : x0 * (P * y1) = P * (x0 * y1) := Nat.mul_left_comm _ _ _
  rw [e1, e2, e3]; omega

/-- One place of a product's row. -/
theorem row_step {T T' Q A b S Bj c o lo hi : Nat} (h : T + Q * c = S + b * Bj) (hT : T' + Q * o = T + Q * lo) (he : hi * W + lo = A + c + o) : T' + Q * W * hi = S + (b * Bj + Q * A) := by
  have := congrArg (Q * ·) he
  simp only [Nat.mul_add] at this
  rw [Nat.mul_assoc, Nat.mul_comm W hi]
  omega

end Go.AL
