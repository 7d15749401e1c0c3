/-
  Contracts of the functions that the law reaches.
-/
import Derived.Test.YthgecppfgdadiaaL36
namespace Go.Proofs.Ythgecppfgdadiaa
open Go Go.Proofs Go.AL
set_option linter.unusedSimpArgs false
set_option linter.unusedVariables false

/-- The guess is right, or one too great. -/
theorem knuth_est {b D D3 V V2 X g : Nat} (hX : 0 < X) (h1 : D3 * X ≤ D) (h2 : D < (D3 + 1) * X) (h3 : V2 * X ≤ V) (h4 : V < (V2 + 1) * X) (h5 : D < V * b) (h6 : b ≤ V2) (hb : 0 < b)
    (hg : g = min (D3 / V2) (b - 1)) : D / V ≤ g ∧ g ≤ D / V + 1 := by
  have hV2 : 0 < V2 := by omega
  have hV : 0 < V := Nat.lt_of_lt_of_le (Nat.mul_pos hV2 hX) h3
  constructor
  · rw [hg, Nat.le_min]
    have e1 := Nat.div_mul_le_self D V
    constructor
    · rw [Nat.le_div_iff_mul_le hV2]
      have e2 : D / V * V2 * X < (D3 + 1) * X := by
        rw [Nat.mul_assoc]
        exact Nat.lt_of_le_of_lt (Nat.le_trans (Nat.mul_le_mul_left _ h3) e1) h2
      have := Nat.lt_of_mul_lt_mul_right e2
      omega
    · have : D / V < b := by rw [Nat.div_lt_iff_lt_mul hV, Nat.mul_comm]; exact h5
      omega
  · have e2 : D < (D / V + 1) * V := by rw [Nat.mul_comm]; exact Nat.lt_mul_div_succ D hV
    generalize D / V = q at *
    rcases Nat.lt_or_ge (q + 1) g with h | h
    · exfalso
      have hgb : g ≤ b - 1 := by rw [hg]; exact Nat.min_le_right _ _
      have hgd : g ≤ D3 / V2 := by rw [hg]; exact Nat.min_le_left _ _
      have e1 : g * V2 ≤ D3 := (Nat.le_div_iff_mul_le hV2).mp hgd
      have e3 : (q + 1) * V ≤ (g - 1) * V := Nat.mul_le_mul_right _ (by omega)
      have e4 : (g - 1) * V < (g - 1) * ((V2 + 1) * X) := Nat.mul_lt_mul_of_pos_left h4 (by omega)
      have e5 : g * V2 * X ≤ D := Nat.le_trans (Nat.mul_le_mul_right _ e1) h1
      have e6 : g * V2 * X < (g - 1) * (V2 + 1) * X := by rw [Nat.mul_assoc (g - 1)]; omega
      have e7 := Nat.lt_of_mul_lt_mul_right e6
      obtain ⟨k, rfl⟩ : ∃ k, g = k + 1 := ⟨g - 1, by omega⟩
      rw [Nat.add_sub_cancel, Nat.succ_mul, Nat.mul_succ] at e7
      omega
    · exact h

/-- What is taken away, and what is left of the guess. -/
theorem knuth_sub {b N D V lo t g c r : Nat} (hN : 0 < N) (hlo : lo < N) (hD : D = lo + N * t) (hV : 0 < V) (hVN : V ≤ N) (h1 : D / V ≤ g) (h2 : g ≤ D / V + 1)
    (hr : r + V * g = lo + N * c) (hrN : r < N) :
    (c ≤ t → g = D / V ∧ r + N * (t - c) = D % V) ∧ (t < c → g = D / V + 1 ∧ c ≤ t + 1 + 0 * b ∧ r + V = D % V + N) := by
  have hd := Nat.div_add_mod D V
  have hm := Nat.mod_lt D hV
  generalize D / V = q at *
  generalize D % V = m at *
  constructor
  · intro hc
    obtain ⟨k, rfl⟩ : ∃ k, t = c + k := ⟨t - c, by omega⟩
    rw [Nat.mul_add] at hD
    rw [Nat.add_sub_cancel_left]
    have : g = q := by
      rcases Nat.lt_or_ge q g with h | h
      · obtain rfl : g = q + 1 := by omega
        rw [Nat.mul_succ] at hr
        omega
      · omega
    subst this
    exact ⟨rfl, by omega⟩
  · intro hc
    obtain ⟨k, rfl⟩ : ∃ k, c = t + 1 + k := ⟨c - t - 1, by omega⟩
    rw [Nat.mul_add, Nat.mul_add, Nat.mul_one] at hr
    have : g = q + 1 := by
      rcases Nat.lt_or_ge q g with h | h
      · omega
      · obtain rfl : g = q := by omega
        omega
    subst this
    rw [Nat.mul_succ] at hr
    have hk : k = 0 := by
      rcases Nat.eq_zero_or_pos k with h | h
      · exact h
      · have := Nat.mul_le_mul_left N h
        omega
    subst hk
    rw [Nat.mul_zero] at hr
    exact ⟨rfl, by omega, by omega⟩

theorem nv_drop (l : List Nat) (k : Nat) (h : k < l.length) : nv (l.drop k) = l.getD k 0 + W * nv (l.drop (k + 1)) := by
  rw [List.drop_eq_getElem_cons h]
  simp only [nv, vl, List.getD, List.getElem?_eq_getElem h, Option.getD_some]

theorem subC_eq {x y N : Nat} (hN : 0 < N) (hx : x < N) : (x + N * subC x y N - y) + y = x + N * subC x y N ∧ x + N * subC x y N - y < N := by
  unfold subC
  have h1 := Nat.div_add_mod (y - x + N - 1) N
  have h2 := Nat.mod_lt (y - x + N - 1) hN
  generalize (y - x + N - 1) / N = q at *
  rcases Nat.eq_zero_or_pos q with h | h
  · subst h
    rw [Nat.mul_zero] at *
    omega
  · have := Nat.mul_le_mul_left N h
    omega

/-- One digit of the quotient: the state, in numbers. -/
theorem knuth_digit {u v : List Nat} {i n : Nat} (hu : Lim u) (hv : Lim v) (hn : 2 ≤ n) (hin : i + n < u.length) (hvl : v.length = n) (hv1 : 0 < v.getD (n - 1) 0) (hR : nv (u.drop (i + 1)) < nv v) :
    u.getD (i + n) 0 ≤ v.getD (n - 1) 0 ∧ nv (u.drop i) = nv ((u.drop i).take n) + W ^ n * u.getD (i + n) 0 ∧ nv (u.drop (i + n + 1)) = 0 ∧
    nv (u.drop i) / nv v ≤ gd3 (u.getD (i + n) 0) (u.getD (i + n - 1) 0) (u.getD (i + n - 2) 0) (v.getD (n - 1) 0) (v.getD (n - 2) 0) ∧
    gd3 (u.getD (i + n) 0) (u.getD (i + n - 1) 0) (u.getD (i + n - 2) 0) (v.getD (n - 1) 0) (v.getD (n - 2) 0) ≤ nv (u.drop i) / nv v + 1 := by
  obtain ⟨k, rfl⟩ : ∃ k, n = k + 2 := ⟨n - 2, by omega⟩
  rw [show k + 2 - 1 = k + 1 by omega, show k + 2 - 2 = k by omega, show i + (k + 2) - 1 = i + k + 1 by omega, show i + (k + 2) - 2 = i + k by omega, show i + (k + 2) = i + k + 2 by omega] at *
  have hVlt := nv_lt hv
  rw [hvl] at hVlt
  have d1 := nv_drop u i (by omega)
  have hDR : nv (u.drop i) < nv v * W := by
    have := hu.get i
    have h2 := Nat.mul_le_mul_right W hR
    rw [Nat.succ_mul] at h2
    rw [Nat.mul_comm W] at d1
    omega
  have s1 := vl_split W (u.drop i) (k := k) (by simp; omega)
  rw [List.drop_drop] at s1
  have d2 := nv_drop u (i + k) (by omega)
  have d3 := nv_drop u (i + k + 1) (by omega)
  have d4 := nv_drop u (i + k + 1 + 1) (by omega)
  have s2 := vl_split W v (k := k) (by omega)
  have v2 := nv_drop v k (by omega)
  have v3 := nv_drop v (k + 1) (by omega)
  have v4 : nv (v.drop (k + 1 + 1)) = 0 := by rw [List.drop_of_length_le (by omega)]; rfl
  have s3 := vl_split W (u.drop i) (k := k + 2) (by simp; omega)
  rw [List.drop_drop] at s3
  have s4 := vl_split W (u.drop i) (k := k + 2 + 1) (by simp; omega)
  rw [List.drop_drop] at s4
  have s5 := vl_split W (u.drop (i + 1)) (k := k + 1) (by simp; omega)
  rw [List.drop_drop] at s5
  have s6 := vl_split W v (k := k + 1) (by omega)
  have l1 := nv_lt ((hu.drop i).take k)
  have l2 := nv_lt (hv.take k)
  have l3 := nv_lt (hv.take (k + 1))
  rw [List.length_take, Nat.min_eq_left (by simp only [List.length_drop]; omega)] at l1
  rw [List.length_take, Nat.min_eq_left (by omega)] at l2 l3
  simp only [nv] at *
  rw [show i + 1 + (k + 1) = i + k + 2 by omega] at s5
  rw [show i + (k + 2) = i + k + 2 by omega] at s3
  rw [show i + (k + 2 + 1) = i + k + 3 by omega] at s4
  rw [show i + k + 1 + 1 + 1 = i + k + 3 by omega, show i + k + 1 + 1 = i + k + 2 by omega] at d4
  rw [show i + k + 1 + 1 = i + k + 2 by omega] at d3
  rw [show i + k + 2 + 1 = i + k + 3 by omega]
  have hz : vl W (u.drop (i + k + 3)) = 0 := by
    rcases Nat.eq_zero_or_pos (vl W (u.drop (i + k + 3))) with h | h
    · exact h
    · exfalso
      have h1 := Nat.mul_le_mul_left (W ^ (k + 2 + 1)) h
      have h2 := Nat.mul_le_mul_right W (Nat.le_of_lt hVlt)
      rw [← Nat.pow_succ] at h2
      rw [Nat.mul_succ, Nat.mul_zero, Nat.zero_add] at h1
      have h3 := Nat.lt_of_lt_of_le hDR h2
      have h4 : W ^ (k + 2 + 1) ≤ vl W (u.drop i) := by rw [s4]; exact Nat.le_trans h1 (Nat.le_add_left _ _)
      exact absurd h3 (Nat.not_lt.mpr h4)
  rw [hz, Nat.mul_zero] at d4
  replace d4 := d4.trans (Nat.add_zero _)
  rw [d4] at d3 s3 s5
  rw [d3] at d2
  rw [d2] at s1
  rw [v4, Nat.mul_zero] at v3
  replace v3 := v3.trans (Nat.add_zero _)
  rw [v3] at v2 s6
  rw [v2] at s2
  have hX : 0 < W ^ k := W_pow_pos k
  refine ⟨?_, s3, hz, ?_⟩
  · rcases Nat.lt_or_ge (v.getD (k + 1) 0) (u.getD (i + k + 2) 0) with h | h
    · exfalso
      have h1 := Nat.mul_le_mul_left (W ^ (k + 1)) h
      rw [Nat.mul_succ] at h1
      generalize W ^ (k + 1) * u.getD (i + k + 2) 0 = z at *
      generalize W ^ (k + 1) * v.getD (k + 1) 0 = z' at *
      omega
    · exact h
  generalize u.getD (i + k + 2) 0 = u2 at *
  generalize u.getD (i + k + 1) 0 = u1 at *
  generalize u.getD (i + k) 0 = u0 at *
  generalize v.getD (k + 1) 0 = v1 at *
  generalize v.getD k 0 = v0 at *
  have eD : u0 + W * (u1 + W * u2) = (u2 * W + u1) * W + u0 := by rw [Nat.mul_comm u2 W, Nat.add_comm (W * u2) u1, Nat.mul_comm (u1 + W * u2) W]; exact Nat.add_comm _ _
  have eV : v0 + W * v1 = v1 * W + v0 := by rw [Nat.mul_comm v1 W]; exact Nat.add_comm _ _
  rw [eD] at s1
  rw [eV] at s2
  refine knuth_est (b := W) (X := W ^ k) (D3 := (u2 * W + u1) * W + u0) (V2 := v1 * W + v0) hX ?_ ?_ ?_ ?_ hDR ?_ (by decide) rfl
  · rw [s1, Nat.mul_comm]; exact Nat.le_add_left _ _
  · rw [s1, Nat.succ_mul, Nat.mul_comm _ (W ^ k)]
    exact Nat.add_comm _ _ ▸ Nat.add_lt_add_left l1 _
  · rw [s2, Nat.mul_comm]; exact Nat.le_add_left _ _
  · rw [s2, Nat.succ_mul, Nat.mul_comm _ (W ^ k)]
    exact Nat.add_comm _ _ ▸ Nat.add_lt_add_left l2 _
  · exact Nat.le_trans (Nat.le_of_eq (Nat.one_mul W).symm) (Nat.le_trans (Nat.mul_le_mul_right W hv1) (Nat.le_add_right _ _))

end Go.Proofs.Ythgecppfgdadiaa
