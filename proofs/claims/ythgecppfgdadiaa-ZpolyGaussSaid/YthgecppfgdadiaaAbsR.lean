/-
  The laws of the ring of polynomials.
-/
import Derived.Test.YthgecppfgdadiaaAbsQ
namespace Go.AL
set_option linter.unusedSimpArgs false
set_option linter.unusedVariables false

/-! ### The ring's laws, coefficient by coefficient -/

def shiftf (g : Nat → Int) : Nat → Int
  | 0 => 0
  | k + 1 => g k

theorem cv_add (g h : Nat → Int) : ∀ (p : List Int) (k : Nat), cv p (fun j => g j + h j) k = cv p g k + cv p h k
  | [], _ => rfl
  | x :: xs, 0 => by simp only [cv, Int.mul_add]; omega
  | x :: xs, k + 1 => by simp only [cv, cv_add g h xs k, Int.mul_add]; omega
theorem cv_smul (c : Int) (g : Nat → Int) : ∀ (p : List Int) (k : Nat), cv p (fun j => c * g j) k = c * cv p g k
  | [], _ => by simp [cv]
  | x :: xs, 0 => by simp only [cv, Int.add_zero]; rw [Int.mul_left_comm]
  | x :: xs, k + 1 => by simp only [cv, cv_smul c g xs k, Int.mul_add]; rw [Int.mul_left_comm]
theorem cv_shift (g : Nat → Int) : ∀ (p : List Int) (k : Nat), cv p (shiftf g) k = shiftf (cv p g) k
  | [], 0 => rfl
  | [], k + 1 => rfl
  | x :: xs, 0 => by simp [cv, shiftf]
  | x :: xs, 1 => by simp [cv, shiftf, cv_shift g xs 0]
  | x :: xs, k + 2 => by simp [cv, shiftf, cv_shift g xs (k + 1)]
theorem cv_delta (x : Int) : ∀ (q : List Int) (k : Nat), cv q (fun j => if j = 0 then x else 0) k = cf q k * x
  | [], k => by simp [cv, cf_nil]
  | y :: ys, 0 => by simp [cv, cf_cons_zero]
  | y :: ys, k + 1 => by simp [cv, cf_cons_succ, cv_delta x ys k]
theorem cf_cons (x : Int) (xs : List Int) (j : Nat) : cf (x :: xs) j = (if j = 0 then x else 0) + shiftf (cf xs) j := by
  cases j <;> simp [cf_cons_zero, cf_cons_succ, shiftf]
theorem cv_cons (x : Int) (xs : List Int) (g : Nat → Int) (k : Nat) : cv (x :: xs) g k = x * g k + shiftf (cv xs g) k := by
  cases k <;> rfl
theorem shiftf_congr {g h : Nat → Int} (e : ∀ j, g j = h j) (k : Nat) : shiftf g k = shiftf h k := by cases k <;> simp [shiftf, e]

theorem cv_comm : ∀ (p q : List Int) (k : Nat), cv p (cf q) k = cv q (cf p) k
  | [], q, k => by rw [cv_none]; rfl
  | x :: xs, q, k => by
    rw [cv_cons, cv_congr q k (cf_cons x xs), cv_add, cv_delta, cv_shift, shiftf_congr (fun j => cv_comm xs q j), Int.mul_comm]
theorem cf_pmul_cons (x : Int) (xs q : List Int) (j : Nat) : cf (pmul (x :: xs) q) j = x * cf q j + shiftf (cf (pmul xs q)) j := by
  rw [cf_pmul, cv_cons, shiftf_congr (fun j => (cf_pmul xs q j).symm)]
theorem cv_assoc : ∀ (p q r : List Int) (k : Nat), cv (pmul p q) (cf r) k = cv p (cf (pmul q r)) k
  | [], q, r, k => by
    rw [cv_cf_congr (p' := []) (fun j => by rw [cf_pmul]; rfl)]; rfl
  | x :: xs, q, r, k => by
    rw [cv_comm (pmul (x :: xs) q) r, cv_congr r k (cf_pmul_cons x xs q), cv_add, cv_smul, cv_shift, cv_cons, cf_pmul, cv_comm q r]
    congr 1
    exact shiftf_congr (fun j => by rw [cv_comm, cv_assoc xs q r j]) k

theorem pmul_comm (p q : List Int) (k : Nat) : cf (pmul p q) k = cf (pmul q p) k := by rw [cf_pmul, cf_pmul, cv_comm]
theorem pmul_assoc (p q r : List Int) (k : Nat) : cf (pmul (pmul p q) r) k = cf (pmul p (pmul q r)) k := by rw [cf_pmul, cf_pmul, cv_assoc]
theorem pmul_padd (p q r : List Int) (k : Nat) : cf (pmul p (padd q r)) k = cf (padd (pmul p q) (pmul p r)) k := by
  rw [cf_pmul, cf_padd, cf_pmul, cf_pmul, cv_congr p k (cf_padd q r), cv_add]
theorem pmul_congr {p p' q q' : List Int} (hp : ∀ k, cf p k = cf p' k) (hq : ∀ k, cf q k = cf q' k) (k : Nat) : cf (pmul p q) k = cf (pmul p' q') k := by
  rw [cf_pmul, cf_pmul, cv_cf_congr hp, cv_congr _ k hq]
theorem padd_congr {p p' q q' : List Int} (hp : ∀ k, cf p k = cf p' k) (hq : ∀ k, cf q k = cf q' k) (k : Nat) : cf (padd p q) k = cf (padd p' q') k := by
  rw [cf_padd, cf_padd, hp, hq]
theorem pscale_congr {p p' : List Int} (c : Int) (hp : ∀ k, cf p k = cf p' k) (k : Nat) : cf (pscale c p) k = cf (pscale c p') k := by
  rw [cf_pscale, cf_pscale, hp]

theorem cv_top {g : Nat → Int} {n : Nat} (hg : ∀ j, n < j → g j = 0) : ∀ (p : List Int) (m : Nat), (∀ j, m < j → cf p j = 0) → cv p g (m + n) = cf p m * g n ∧ ∀ k, m + n < k → cv p g k = 0
  | [], m, _ => ⟨by simp [cv, cf_nil], fun _ _ => rfl⟩
  | x :: xs, 0, h => by
    have h0 : ∀ j, cf xs j = cf [] j := fun j => h (j + 1) (by omega)
    have hz : ∀ k, shiftf (cv xs g) k = 0 := by
      intro k; cases k with
      | zero => rfl
      | succ k => show cv xs g k = 0; rw [cv_cf_congr h0]; rfl
    refine ⟨?_, fun k hk => ?_⟩
    · rw [cv_cons, hz, Nat.zero_add, cf_cons_zero, Int.add_zero]
    · rw [cv_cons, hz, hg k (by omega)]; simp
  | x :: xs, m + 1, h => by
    obtain ⟨h1, h2⟩ := cv_top hg xs m fun j hj => h (j + 1) (by omega)
    refine ⟨?_, fun k hk => ?_⟩
    · rw [cv_cons, hg _ (by omega), cf_cons_succ, show m + 1 + n = (m + n) + 1 by omega]
      show x * 0 + cv xs g (m + n) = _
      rw [h1]; simp
    · cases k with
      | zero => omega
      | succ k =>
        rw [cv_cons, hg _ (by omega)]
        show x * 0 + cv xs g k = 0
        rw [h2 k (by omega)]; simp
/-- There are no divisors of zero, and degrees add. -/
theorem tz_pmul {p q : List Int} (hp : tz p ≠ 0) (hq : tz q ≠ 0) : tz (pmul p q) = tz p + tz q - 1 := by
  obtain ⟨h1, h2⟩ := cv_top (g := cf q) (n := tz q - 1) (fun j hj => cf_ge_tz q (by omega)) p (tz p - 1) (fun j hj => cf_ge_tz p (by omega))
  have := tz_spec (q := pmul p q) (n := tz p - 1 + (tz q - 1)) (by
    rw [cf_pmul, h1]
    exact Int.mul_ne_zero (cf_tz_pred hp) (cf_tz_pred hq)) (fun k hk => by rw [cf_pmul]; exact h2 k hk)
  omega
theorem tz_pmul_zero {p q : List Int} (h : tz p = 0 ∨ tz q = 0) : tz (pmul p q) = 0 := by
  rw [tz_zero_iff]
  intro k
  rcases h with h | h
  · rw [cf_pmul, cv_cf_congr (p' := []) (tz_zero_iff.mp h)]; rfl
  · rw [pmul_comm, cf_pmul, cv_cf_congr (p' := []) (tz_zero_iff.mp h)]; rfl
theorem canon_inj {p q : List Int} (h : p.map canon = q.map canon) : p = q := by rw [← pv_canon p, h, pv_canon]
theorem forms_eq {p q : List Int} (h : ∀ k, cf p k = cf q k) : (trimz p).map canon = (trimz q).map canon := by rw [trimz_ext h]

end Go.AL
