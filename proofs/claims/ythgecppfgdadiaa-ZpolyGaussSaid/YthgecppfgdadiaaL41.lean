/-
  Contracts of the functions that the law reaches.
-/
import Derived.Test.YthgecppfgdadiaaL40
namespace Go.Proofs.Ythgecppfgdadiaa
open Go Go.Proofs Go.AL
set_option linter.unusedSimpArgs false
set_option linter.unusedVariables false

theorem gz_greatest (q : List Int) (d : Nat) (h : ∀ k, (d : Int) ∣ cf q k) : d ∣ gz q := by
  have key : ∀ i, i ≤ q.length → d ∣ gz (q.take i) := by
    intro i
    induction i with
    | zero => intro _; exact Nat.dvd_zero _
    | succ i ih =>
      intro hi
      rw [gz_take (by omega)]
      exact Nat.dvd_gcd (ih (by omega)) (Int.ofNat_dvd_left.mp (h i))
  have := key q.length (Nat.le_refl _)
  rwa [List.take_of_length_le (Nat.le_refl _)] at this

theorem gz_eq {p q : List Int} (h : ∀ k, cf p k = cf q k) : gz p = gz q :=
  Nat.dvd_antisymm (gz_greatest q _ fun k => by rw [← h]; exact gz_dvd p k) (gz_greatest p _ fun k => by rw [h]; exact gz_dvd q k)

theorem gz_scale (c : Int) (q : List Int) : gz (pscale c q) = c.natAbs * gz q := by
  have key : ∀ (q : List Int) (g : Nat), (pscale c q).foldl (fun g x => Nat.gcd g x.natAbs) (c.natAbs * g) = c.natAbs * q.foldl (fun g x => Nat.gcd g x.natAbs) g := by
    intro q
    induction q with
    | nil => intro g; rfl
    | cons x xs ih =>
      intro g
      have e : pscale c (x :: xs) = (x * c) :: pscale c xs := rfl
      rw [e, List.foldl_cons, List.foldl_cons, Int.natAbs_mul, Nat.mul_comm x.natAbs, Nat.gcd_mul_left, ih]
  exact key q 0

/-- A divisor that cannot be split. -/
theorem prime_fac : ∀ n : Nat, 1 < n → ∃ r, 1 < r ∧ r ∣ n ∧ ∀ x : Nat, r ∣ x ∨ Nat.gcd r x = 1 := by
  intro n
  induction n using Nat.strongRecOn with
  | _ n ih =>
    intro hn
    by_cases h : ∀ x : Nat, n ∣ x ∨ Nat.gcd n x = 1
    · exact ⟨n, hn, Nat.dvd_refl _, h⟩
    · obtain ⟨x, hx⟩ := Classical.not_forall.mp h
      have h1 : ¬ n ∣ x := fun h => hx (.inl h)
      have h2 : ¬ Nat.gcd n x = 1 := fun h => hx (.inr h)
      have h3 : Nat.gcd n x ≤ n := Nat.gcd_le_left _ (by omega)
      have h4 : Nat.gcd n x ≠ n := fun h => h1 (by rw [← h]; exact Nat.gcd_dvd_right _ _)
      have h5 : Nat.gcd n x ≠ 0 := fun h => by have := Nat.eq_zero_of_gcd_eq_zero_left h; omega
      obtain ⟨r, hr, hrd, hp⟩ := ih (Nat.gcd n x) (by omega) (by omega)
      exact ⟨r, hr, Nat.dvd_trans hrd (Nat.gcd_dvd_left _ _), hp⟩

theorem prime_mul {r : Nat} (hp : ∀ x : Nat, r ∣ x ∨ Nat.gcd r x = 1) {x y : Int} (h : (r : Int) ∣ x * y) : (r : Int) ∣ x ∨ (r : Int) ∣ y := by
  have h1 := Int.ofNat_dvd_left.mp h
  rw [Int.natAbs_mul] at h1
  rcases hp x.natAbs with h2 | h2
  · exact .inl (Int.ofNat_dvd_left.mpr h2)
  · exact .inr (Int.ofNat_dvd_left.mpr (Nat.Coprime.dvd_of_dvd_mul_left h2 h1))

theorem sumN_dvd {r : Int} : ∀ {n : Nat} {f : Nat → Int}, (∀ k, k < n → r ∣ f k) → r ∣ sumN n f
  | 0, f, _ => Int.dvd_zero _
  | n + 1, f, h => Int.dvd_add (sumN_dvd fun k hk => h k (by omega)) (h n (by omega))

theorem sumN_dvd_one {r : Int} {n i : Nat} {f : Nat → Int} (hi : i < n) (h : ∀ k, k < n → k ≠ i → r ∣ f k) (hs : r ∣ sumN n f) : r ∣ f i := by
  have e : sumN n f = sumN n (fun k => if k = i then 0 else f k) + f i := by
    have h1 : sumN n (fun k => if k = i then f k else 0) = f i := by
      rw [sumN_one _ hi fun k _ hk => if_neg hk, if_pos rfl]
    rw [← h1, ← sumN_add]
    refine sumN_congr fun k _ => ?_
    by_cases hk : k = i
    · rw [if_pos hk, if_pos hk, Int.zero_add]
    · rw [if_neg hk, if_neg hk, Int.add_zero]
  have h2 : r ∣ sumN n (fun k => if k = i then 0 else f k) := sumN_dvd fun k hk => by
    by_cases hki : k = i
    · simp only [if_pos hki]; exact Int.dvd_zero _
    · simp only [if_neg hki]; exact h k hk hki
  rw [e] at hs
  exact (Int.dvd_add_right h2).mp hs

theorem gauss_prime {r : Nat} (hp : ∀ x : Nat, r ∣ x ∨ Nat.gcd r x = 1) {p q : List Int} (h : ∀ k, (r : Int) ∣ cf (pmul p q) k) : ∀ n i j, i + j = n → (r : Int) ∣ cf p i ∨ (r : Int) ∣ cf q j := by
  intro n
  induction n using Nat.strongRecOn with
  | _ n ih =>
    intro i j hij
    by_cases h1 : (r : Int) ∣ cf p i
    · exact .inl h1
    by_cases h2 : (r : Int) ∣ cf q j
    · exact .inr h2
    exfalso
    have h3 := h n
    rw [cf_pmul, PS.cv_conv, PS.conv] at h3
    have h4 := sumN_dvd_one (i := i) (by omega) (fun k hk hki => ?_) h3
    · rw [show n - i = j by omega] at h4
      rcases prime_mul hp h4 with h5 | h5
      · exact h1 h5
      · exact h2 h5
    · rcases Nat.lt_or_ge k i with h5 | h5
      · rcases ih (k + j) (by omega) k j rfl with h6 | h6
        · exact Int.dvd_trans h6 (Int.dvd_mul_right _ _)
        · exact absurd h6 h2
      · rcases ih (i + (n - k)) (by omega) i (n - k) rfl with h6 | h6
        · exact absurd h6 h1
        · exact Int.dvd_trans h6 (Int.dvd_mul_left _ _)

theorem gauss_gz {p q : List Int} (hp : gz p = 1) (hq : gz q = 1) : gz (pmul p q) = 1 := by
  rcases Nat.lt_trichotomy (gz (pmul p q)) 1 with h | h | h
  · exfalso
    obtain ⟨r, hr, hrd, hpr⟩ := prime_fac 2 (by decide)
    have h0 : gz (pmul p q) = 0 := by omega
    have hd : ∀ k, (r : Int) ∣ cf (pmul p q) k := fun k => by
      have := gz_dvd (pmul p q) k
      rw [h0] at this
      rw [Int.zero_dvd.mp this]
      exact Int.dvd_zero _
    have key := gauss_prime hpr hd
    by_cases ha : ∀ i, (r : Int) ∣ cf p i
    · have := gz_greatest p r ha
      rw [hp] at this
      have := Nat.le_of_dvd (by decide) this
      omega
    · obtain ⟨i, hi⟩ := Classical.not_forall.mp ha
      have := gz_greatest q r fun j => (key _ i j rfl).resolve_left hi
      rw [hq] at this
      have := Nat.le_of_dvd (by decide) this
      omega
  · exact h
  · exfalso
    obtain ⟨r, hr, hrd, hpr⟩ := prime_fac _ h
    have hd : ∀ k, (r : Int) ∣ cf (pmul p q) k := fun k => Int.dvd_trans (Int.natCast_dvd_natCast.mpr hrd) (gz_dvd _ k)
    have key := gauss_prime hpr hd
    by_cases ha : ∀ i, (r : Int) ∣ cf p i
    · have := gz_greatest p r ha
      rw [hp] at this
      have := Nat.le_of_dvd (by decide) this
      omega
    · obtain ⟨i, hi⟩ := Classical.not_forall.mp ha
      have := gz_greatest q r fun j => (key _ i j rfl).resolve_left hi
      rw [hq] at this
      have := Nat.le_of_dvd (by decide) this
      omega

theorem lc_spec {q : List Int} {n : Nat} (h : cf q n ≠ 0) (h0 : ∀ k, n < k → cf q k = 0) : lc q = cf q n := by
  unfold lc
  rw [tz_spec h h0, Nat.add_sub_cancel]

theorem lc_ne {q : List Int} (h : gz q ≠ 0) : tz q ≠ 0 ∧ lc q ≠ 0 := by
  have h1 : tz q ≠ 0 := fun h1 => by
    have h2 : (0 : Nat) ∣ gz q := gz_greatest q 0 fun k => by rw [tz_zero_iff.mp h1 k]; exact Int.dvd_zero _
    exact h (Nat.eq_zero_of_zero_dvd h2)
  exact ⟨h1, cf_tz_pred h1⟩

/-- Primitive, with a positive leading coefficient. -/
def Prm (q : List Int) : Prop := gz q = 1 ∧ 0 < lc q

theorem lc_scale {T R : List Int} {c : Int} (h : ∀ k, cf T k = c * cf R k) (hR : lc R ≠ 0) : lc T = c * lc R := by
  have hR' : tz R ≠ 0 := fun h0 => hR (by unfold lc; exact tz_zero_iff.mp h0 _)
  by_cases hc : c = 0
  · unfold lc; rw [h, hc, Int.zero_mul, Int.zero_mul]
  · have e : lc T = cf T (tz R - 1) := lc_spec (by rw [h]; exact Int.mul_ne_zero hc hR) fun k hk => by rw [h, cf_ge_tz R (by omega), Int.mul_zero]
    rw [e, h]; rfl

theorem gz_mul {T R : List Int} {c : Int} (h : ∀ k, cf T k = c * cf R k) : gz T = c.natAbs * gz R := by
  rw [← gz_scale]
  exact gz_eq fun k => by rw [h, cf_pscale, Int.mul_comm]

theorem sg_abs {c l : Int} (hl : 0 < l) : sg (decide (c * l < 0)) c.natAbs = c := by
  unfold sg
  by_cases hc : c < 0
  · rw [decide_eq_true (Int.mul_neg_of_neg_of_pos hc hl)]
    simp only [↓reduceIte]; omega
  · have h1 : ¬ c * l < 0 := by have := Int.mul_nonneg (show 0 ≤ c by omega) (show 0 ≤ l by omega); omega
    rw [decide_eq_false h1]
    simp only [Bool.false_eq_true, ↓reduceIte]; omega

theorem cont_of {T R : List Int} {c : Int} (hR : Prm R) (h : ∀ k, cf T k = c * cf R k) : cont T = c := by
  unfold cont
  rw [gz_mul h, hR.1, Nat.mul_one, lc_scale h (by have := hR.2; omega)]
  exact sg_abs hR.2

theorem prim_of {T R : List Int} {c : Int} (hR : Prm R) (hc : c ≠ 0) (h : ∀ k, cf T k = c * cf R k) (k : Nat) : cf (prim T) k = cf R k := by
  unfold prim
  rw [cf_pdivs, cont_of hR h, h, Int.mul_ediv_cancel_left _ hc]

theorem cf_prim (q : List Int) (k : Nat) : cf q k = cont q * cf (prim q) k := by
  unfold prim
  rw [cf_pdivs, Int.mul_ediv_cancel' (cont_dvd q k)]

theorem prm_prim {q : List Int} (h : cont q ≠ 0) : Prm (prim q) := by
  have h0 : gz q ≠ 0 := fun h0 => h (Int.natAbs_eq_zero.mp (by rw [cont_natAbs]; exact h0))
  have h1 := gz_mul (cf_prim q)
  rw [cont_natAbs] at h1
  have h2 : gz (prim q) = 1 := by
    have : gz q * gz (prim q) = gz q * 1 := by omega
    exact Nat.eq_of_mul_eq_mul_left (by omega) this
  refine ⟨h2, ?_⟩
  have h3 := (lc_ne (q := prim q) (by omega)).2
  have h4 := lc_scale (cf_prim q) h3
  have h5 := (lc_ne h0).2
  rcases Int.lt_trichotomy (lc (prim q)) 0 with h6 | h6 | h6
  · exfalso
    rcases Int.lt_or_gt_of_ne h5 with h7 | h7
    · have h8 : cont q < 0 := by
        unfold cont sg
        rw [decide_eq_true h7]
        simp only [↓reduceIte]; omega
      have := Int.mul_pos_of_neg_of_neg h8 h6
      omega
    · have h8 : 0 < cont q := by
        unfold cont sg
        rw [decide_eq_false (by omega)]
        simp only [Bool.false_eq_true, ↓reduceIte]; omega
      have := Int.mul_neg_of_pos_of_neg h8 h6
      omega
  · exact absurd h6 h3
  · exact h6

theorem lc_pmul {P Q : List Int} (hP : lc P ≠ 0) (hQ : lc Q ≠ 0) : lc (pmul P Q) = lc P * lc Q := by
  have hP' : tz P ≠ 0 := fun h0 => hP (by unfold lc; exact tz_zero_iff.mp h0 _)
  have hQ' : tz Q ≠ 0 := fun h0 => hQ (by unfold lc; exact tz_zero_iff.mp h0 _)
  have e1 : cf (pmul P Q) (tz P - 1 + (tz Q - 1)) = lc P * lc Q := by
    rw [cf_pmul, PS.cv_conv, PS.conv, sumN_one (j := tz P - 1) _ (by omega) fun i hi hne => ?_]
    · rw [show tz P - 1 + (tz Q - 1) - (tz P - 1) = tz Q - 1 by omega]; rfl
    · rcases Nat.lt_or_ge i (tz P - 1) with h | h
      · rw [cf_ge_tz Q (by omega), Int.mul_zero]
      · rw [cf_ge_tz P (by omega), Int.zero_mul]
  rw [lc_spec (n := tz P - 1 + (tz Q - 1)) (by rw [e1]; exact Int.mul_ne_zero hP hQ) fun k hk => ?_, e1]
  rw [cf_pmul, PS.cv_conv, PS.conv]
  refine sumN_zero fun i hi => ?_
  rcases Nat.lt_or_ge i (tz P) with h | h
  · rw [cf_ge_tz Q (by omega), Int.mul_zero]
  · rw [cf_ge_tz P (by omega), Int.zero_mul]

theorem prm_mul {P Q : List Int} (hP : Prm P) (hQ : Prm Q) : Prm (pmul P Q) := by
  refine ⟨gauss_gz hP.1 hQ.1, ?_⟩
  have h1 := hP.2
  have h2 := hQ.2
  rw [lc_pmul (by omega) (by omega)]
  exact Int.mul_pos h1 h2

theorem prim_zero {q : List Int} (h : cont q = 0) (k : Nat) : cf (prim q) k = 0 ∧ cf q k = 0 := by
  constructor
  · unfold prim
    rw [cf_pdivs, h, Int.ediv_zero]
  · rw [cf_prim, h, Int.zero_mul]

theorem pscale_eq (c : Int) (q : List Int) : ps (pscale c q) = PS.C c * ps q := ps_pscale c q

theorem ps_prim (q : List Int) : ps q = PS.C (cont q) * ps (prim q) := PS.ext fun k => by
  rw [PS.C_mul_c, ps_c, ps_c]; exact cf_prim q k

theorem mul_prims (p q : List Int) (k : Nat) : cf (pmul p q) k = cont p * cont q * cf (pmul (prim p) (prim q)) k := by
  have h : ps (pmul p q) = PS.C (cont p * cont q) * ps (pmul (prim p) (prim q)) := by
    rw [ps_pmul, ps_pmul, ps_prim p, ps_prim q, PS.C_mul]
    rw [← ps_prim p, ← ps_prim q]
    conv => lhs; rw [ps_prim p, ps_prim q]
    rw [PS.mul_assoc, PS.mul_assoc, ← PS.mul_assoc (ps (prim p)), PS.mul_comm (ps (prim p)) (PS.C _), PS.mul_assoc]
  have := congrArg (fun f => f.c k) h
  simp only [ps_c, PS.C_mul_c] at this
  exact this

/-- Gauss' lemma. -/
theorem cont_mul (p q : List Int) : cont (pmul p q) = cont p * cont q := by
  by_cases hp : cont p = 0
  · have h0 : ∀ k, cf (pmul p q) k = 0 := fun k => by rw [mul_prims, hp, Int.zero_mul, Int.zero_mul]
    have h1 : gz (pmul p q) = 0 := Nat.eq_zero_of_zero_dvd (gz_greatest _ 0 fun k => by rw [h0]; exact Int.dvd_zero _)
    rw [hp, Int.zero_mul]
    exact Int.natAbs_eq_zero.mp (by rw [cont_natAbs]; exact h1)
  by_cases hq : cont q = 0
  · have h0 : ∀ k, cf (pmul p q) k = 0 := fun k => by rw [mul_prims, hq, Int.mul_zero, Int.zero_mul]
    have h1 : gz (pmul p q) = 0 := Nat.eq_zero_of_zero_dvd (gz_greatest _ 0 fun k => by rw [h0]; exact Int.dvd_zero _)
    rw [hq, Int.mul_zero]
    exact Int.natAbs_eq_zero.mp (by rw [cont_natAbs]; exact h1)
  exact cont_of (prm_mul (prm_prim hp) (prm_prim hq)) (mul_prims p q)

theorem ps_zero {q : List Int} (h : ∀ k, cf q k = 0) : ps q = 0 := PS.ext h

theorem prim_mul (p q : List Int) : ps (prim (pmul p q)) = ps (pmul (prim p) (prim q)) := by
  by_cases hp : cont p = 0
  · have h1 : ps (prim p) = 0 := ps_zero fun k => (prim_zero hp k).1
    rw [ps_pmul, h1, PS.zero_mul]
    exact ps_zero fun k => (prim_zero (by rw [cont_mul, hp, Int.zero_mul]) k).1
  by_cases hq : cont q = 0
  · have h1 : ps (prim q) = 0 := ps_zero fun k => (prim_zero hq k).1
    rw [ps_pmul, h1, PS.mul_zero]
    exact ps_zero fun k => (prim_zero (by rw [cont_mul, hq, Int.mul_zero]) k).1
  exact ps_ext fun k => prim_of (prm_mul (prm_prim hp) (prm_prim hq)) (Int.mul_ne_zero hp hq) (mul_prims p q) k

theorem prm_self {q : List Int} (h : Prm q) : cont q = 1 ∧ ps (prim q) = ps q :=
  ⟨cont_of h fun k => (Int.one_mul _).symm, ps_ext fun k => prim_of h (by decide) (fun k => (Int.one_mul _).symm) k⟩

theorem cont_zero_iff {q : List Int} : cont q = 0 ↔ tz q = 0 := by
  constructor
  · intro h; exact tz_zero_iff.mpr fun k => (prim_zero h k).2
  · intro h
    refine Int.natAbs_eq_zero.mp ?_
    rw [cont_natAbs]
    exact Nat.eq_zero_of_zero_dvd (gz_greatest _ 0 fun k => by rw [tz_zero_iff.mp h k]; exact Int.dvd_zero _)

end Go.Proofs.Ythgecppfgdadiaa
