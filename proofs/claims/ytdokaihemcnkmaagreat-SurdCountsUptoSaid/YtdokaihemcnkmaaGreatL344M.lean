/-
 Contracts of the functions that the law reaches.
-/
import Derived.Test.YtdokaihemcnkmaaGreatL6M
set_option maxHeartbeats 2000000
namespace Go.Proofs.YtdokaihemcnkmaaGreat
open Go Go.Proofs Go.AL
set_option linter.unusedSimpArgs false
set_option linter.unusedVariables false
def spos (A : List Int) : List Int := trimz (pdivs ((cont A).natAbs : Int) A)
theorem ps_spos (A : List Int) : ps A = PS.C ((cont A).natAbs : Int) * ps (spos A) := PS.ext fun k => by
 have hd : ((cont A).natAbs : Int) ∣ cf A k := Int.natAbs_dvd.2 (cont_dvd A k)
 rw [PS.C_mul_c, ps_c, ps_c, spos, cf_trimz, cf_pdivs, Int.mul_ediv_cancel' hd]
theorem spos_trim (A : List Int) : trimz (spos A) = spos A := trimz_trimz _
theorem cont_zero {A : List Int} (h : cont A = 0) : tz A = 0 := tz_zero_iff.mpr fun k => by
 have := cont_dvd A k; rw [h] at this; exact Int.zero_dvd.mp this
theorem tz_spos (A : List Int) : tz (spos A) = tz A := by
 by_cases h : cont A = 0
 ·have h0 := cont_zero h
  rw [h0]
  refine tz_zero_iff.mpr fun k => ?_
  rw [spos, cf_trimz, cf_pdivs, h, tz_zero_iff.mp h0 k]; rfl
 ·have e := ps_spos A
  have e2 : ps A = ps (pscale ((cont A).natAbs : Int) (spos A)) := by rw [ps_pscale]; exact e
  rw [tz_of_ps e2, tz_pscale (by omega)]
theorem dpos_div (A B : List Int) : ∃ Q, ps Q * ps B + ps (dpos A B) = PS.C (((lc B).natAbs : Int) ^ dxp A B) * ps A := by
 refine ⟨(dres ((lc B).natAbs : Int) (lc B) B (dxp A B) ([], A)).1, ?_⟩
 have h := dres_eq (c := ((lc B).natAbs : Int)) (L := lc B) (B := B) (dxp A B) ([], A)
 have e : ∀ (c : Int) n, PS.pw (PS.C c) n = PS.C (c ^ n) := fun c n => by
  induction n with
  | zero => rw [PS.pw, Int.pow_zero, PS.C_one]
  | succ n ih => rw [PS.pw_add, PS.pw_one, ih, Int.pow_succ, PS.C_mul]
 rw [e] at h
 rw [dpos, h]
 show _ * (ps [] * ps B + ps A) = _
 rw [ps_nil, PS.zero_mul, PS.zero_add]
theorem dpos_tz {A B : List Int} (h : tz B ≠ 0) : tz (dpos A B) < tz B := dres_tz rfl h (Int.dvd_natAbs.2 (Int.dvd_refl _)) _ _ (by show tz A < tz B + dxp A B; unfold dxp; omega)
def snx (X Y : List Int) : List Int := spos (pscale (-1) (dpos X Y))
def srl : Nat → List Int → List Int → List (List Int)
 | 0, X, _ => [X]
 | n + 1, X, Y => if tz Y = 0 then [X] else X :: srl n Y (snx X Y)
def sla : Nat → List Int → List Int → List Int
 | 0, X, _ => X
 | n + 1, X, Y => if tz Y = 0 then X else sla n Y (snx X Y)
theorem tz_snx {X Y : List Int} : tz (snx X Y) = tz (dpos X Y) := by
 rw [snx, tz_spos]
 exact tz_pscale (by decide) _
theorem snx_eq (X Y : List Int) : ∃ (Q : List Int) (a k : Int), 0 ≤ k ∧ (tz Y ≠ 0 → 0 < a) ∧ (tz (snx X Y) ≠ 0 → 0 < k) ∧ ∀ x, (a : Rat) * er X x = er Q x * er Y x - (k : Rat) * er (snx X Y) x := by
 obtain ⟨Q, hQ⟩ := dpos_div X Y
 have e := ps_spos (pscale (-1) (dpos X Y))
 refine ⟨Q, ((lc Y).natAbs : Int) ^ dxp X Y, ((cont (pscale (-1) (dpos X Y))).natAbs : Int), Int.natCast_nonneg _, fun h => Int.pow_pos (by have := lc_ne0 h; omega), fun h => ?_, fun x => ?_⟩
 ·have : cont (pscale (-1) (dpos X Y)) ≠ 0 := fun h0 => h (by
   have := cont_zero h0
   rw [snx, tz_spos]; exact this)
  omega
 ·have h1 := er_div hQ x
  have h2 := er_C (c := ((cont (pscale (-1) (dpos X Y))).natAbs : Int)) (p := pscale (-1) (dpos X Y)) (q := snx X Y) e x
  rw [er_pscale] at h2
  rw [h1]
  have h3 : ((-1 : Int) : Rat) = -1 := by rfl
  rw [h3] at h2
  grind
theorem srl_zero {n : Nat} {X Y : List Int} (h : tz Y = 0) : srl n X Y = [X] ∧ sla n X Y = X := by
 cases n with
 | zero => exact ⟨rfl, rfl⟩
 | succ n => rw [srl, sla, if_pos h, if_pos h]; exact ⟨rfl, rfl⟩
theorem srl_fun : ∀ (n : Nat) (X Y : List Int), tz Y ≤ n → ∃ (f : Rat → Rat) (l : List (Rat → Rat)), Ch (f :: l) ∧ (∀ x, (srl n X Y).map (fun p => er p x) = (f :: l).map fun h => er (sla n X Y) x * h x) ∧ (∀ x, er X x = er (sla n X Y) x * f x) ∧ (tz Y ≠ 0 → ∃ g l', l = g :: l' ∧ ∀ x, er Y x = er (sla n X Y) x * g x)
 | 0, X, Y, h => by
  rw [(srl_zero (by omega)).1, (srl_zero (by omega)).2]
  exact ⟨fun _ => 1, [], .one fun _ => rfl, fun x => by simp, fun x => by grind, fun h0 => by omega⟩
 | n + 1, X, Y, h => by
  by_cases h0 : tz Y = 0
  ·rw [(srl_zero h0).1, (srl_zero h0).2]
   exact ⟨fun _ => 1, [], .one fun _ => rfl, fun x => by simp, fun x => by grind, fun h1 => (h1 h0).elim⟩
  ·have ht : tz (snx X Y) ≤ n := by rw [tz_snx]; have := dpos_tz (A := X) h0; omega
   obtain ⟨g, l, hc, hm, hy, hz⟩ := srl_fun n Y (snx X Y) ht
   obtain ⟨Q, a, k, k0, ha, hk, e⟩ := snx_eq X Y
   have ha := ha h0
   have ha' : (0 : Rat) < a := by exact_mod_cast ha
   have hi : (a : Rat) * (a : Rat)⁻¹ = 1 := Rat.mul_inv_cancel _ (by grind)
   have hip : 0 < (a : Rat)⁻¹ := Rat.inv_pos.2 ha'
   rw [srl, sla, if_neg h0, if_neg h0]
   have lq : LB fun x => (a : Rat)⁻¹ * er Q x := (lb_er Q).smul _
   by_cases hs : tz (snx X Y) = 0
   ·have hl := (srl_zero (n := n) (X := Y) hs)
    have lz : l = [] := by
     have := congrArg List.length (hm 0)
     rw [hl.1] at this
     simpa using this.symm
    subst lz
    have hg1 : ∀ x, g x = 1 := by cases hc; assumption
    have hxx : ∀ x, er X x = er (sla n Y (snx X Y)) x * ((a : Rat)⁻¹ * er Q x) := fun x => by
     have e1 := e x
     rw [er_zero (p := snx X Y) fun j => tz_zero_iff.mp hs j] at e1
     rw [hl.2]
     grind
    refine ⟨fun x => (a : Rat)⁻¹ * er Q x, [g], .two lq hg1, fun x => ?_, hxx, fun _ => ⟨g, [], rfl, hy⟩⟩
    rw [List.map_cons, hm x, List.map_cons, List.map_cons, hxx x]; rfl
   ·obtain ⟨h', l', rfl, hz2⟩ := hz hs
    have hk' : (0 : Rat) < k := by exact_mod_cast hk hs
    have lf : LB fun x => (a : Rat)⁻¹ * er Q x * g x - (a : Rat)⁻¹ * k * h' x := (lq.mul hc.lb).sub ((by cases hc with | two _ hg => exact (LB.const 1).congr hg | more _ _ _ _ _ _ t => exact t.lb : LB h').smul _)
    have hxx : ∀ x, er X x = er (sla n Y (snx X Y)) x * ((a : Rat)⁻¹ * er Q x * g x - (a : Rat)⁻¹ * k * h' x) := fun x => by
     have e1 := e x
     have e2 := hy x
     have e3 := hz2 x
     have e4 : er X x = (a : Rat)⁻¹ * ((a : Rat) * er X x) := by grind
     rw [e4, e1, e2, e3]
     grind
    refine ⟨_, g :: h' :: l', .more lf _ _ lq (Rat.mul_pos hip hk') (fun x => rfl) hc, fun x => ?_, hxx, fun _ => ⟨g, _, rfl, hy⟩⟩
    rw [List.map_cons, hm x, List.map_cons, List.map_cons (l := g :: h' :: l'), hxx x]
    rfl
end Go.Proofs.YtdokaihemcnkmaaGreat

namespace Go.Proofs.YtdokaihemcnkmaaGreat
open Go Go.Proofs Go.AL
set_option linter.unusedSimpArgs false
set_option linter.unusedVariables false
theorem within (s t : Rat) : ∃ M : Rat, -M ≤ s ∧ s ≤ M ∧ -M ≤ t ∧ t ≤ M := by
 rcases Rat.le_total (a := 0) (b := s) with h1 | h1 <;> rcases Rat.le_total (a := 0) (b := t) with h2 | h2
 ·exact ⟨s + t, by grind, by grind, by grind, by grind⟩
 ·exact ⟨s - t, by grind, by grind, by grind, by grind⟩
 ·exact ⟨t - s, by grind, by grind, by grind, by grind⟩
 ·exact ⟨-s - t, by grind, by grind, by grind, by grind⟩
theorem near_pos {f : Rat → Rat} (hf : LB f) {r : Rat} (h : 0 < f r) : ∃ d, 0 < d ∧ ∀ x, r - d ≤ x → x ≤ r + d → 0 < f x := by
 obtain ⟨M, m1, m2, m3, m4⟩ := within (r - 1) (r + 1)
 obtain ⟨K, L, k0, l0, -, hL⟩ := hf M
 have hi := Rat.inv_pos.2 (show 0 < L + 1 by grind)
 have hone : (L + 1) * (L + 1)⁻¹ = 1 := Rat.mul_inv_cancel _ (by grind)
 have hu : 0 < f r * (1 / 2) * (L + 1)⁻¹ := Rat.mul_pos (by grind) hi
 obtain ⟨d, d0, d1, d2⟩ : ∃ d : Rat, 0 < d ∧ d ≤ f r * (1 / 2) * (L + 1)⁻¹ ∧ d ≤ 1 := by
  rcases Rat.le_total (a := f r * (1 / 2) * (L + 1)⁻¹) (b := 1) with h | h
  ·exact ⟨_, hu, Rat.le_refl, h⟩
  ·exact ⟨1, by grind, h, Rat.le_refl⟩
 have hd : L * d < f r := by
  have e6 : (L + 1) * (f r * (1 / 2) * (L + 1)⁻¹) = f r * (1 / 2) := by
   rw [show (L + 1) * (f r * (1 / 2) * (L + 1)⁻¹) = (L + 1) * (L + 1)⁻¹ * (f r * (1 / 2)) by grind, hone]; grind
  have := Rat.mul_nonneg (show 0 ≤ L + 1 by grind) (show 0 ≤ f r * (1 / 2) * (L + 1)⁻¹ - d by grind)
  grind
 refine ⟨d, d0, fun x h1 h2 => ?_⟩
 rcases Rat.le_total (a := r) (b := x) with h | h
 ·have := hL r x (by grind) h (by grind)
  have := Rat.mul_nonneg l0 (show 0 ≤ d - (x - r) by grind)
  grind
 ·have := hL x r (by grind) h (by grind)
  have := Rat.mul_nonneg l0 (show 0 ≤ d - (r - x) by grind)
  grind
theorem BA.of_mul {u f : Rat → Rat} (hu : LB u) {s t : Rat} (h : BA (fun x => u x * f x) s t) : BA f s t := by
 obtain ⟨e, he, hb⟩ := h
 obtain ⟨M, m1, m2, m3, m4⟩ := within s t
 obtain ⟨K, L, k0, l0, hK, -⟩ := hu M
 have hi := Rat.inv_pos.2 (show 0 < K + 1 by grind)
 have hone : (K + 1) * (K + 1)⁻¹ = 1 := Rat.mul_inv_cancel _ (by grind)
 have hd : 0 < e * (K + 1)⁻¹ := Rat.mul_pos he hi
 refine ⟨e * (K + 1)⁻¹, hd, fun x h1 h2 => ?_⟩
 by_cases hx : Big (e * (K + 1)⁻¹) (f x)
 ·exact hx
 ·exfalso
  have hf : -(e * (K + 1)⁻¹) ≤ f x ∧ f x ≤ e * (K + 1)⁻¹ := by unfold Big at hx; constructor <;> grind
  have q := hK x (by grind) (by grind)
  have m := mul_bd q.1 q.2 hf.1 hf.2
  have e1 : K * (e * (K + 1)⁻¹) = e - e * (K + 1)⁻¹ := by
   have : (K + 1) * (e * (K + 1)⁻¹) = e := by
    rw [show (K + 1) * (e * (K + 1)⁻¹) = (K + 1) * (K + 1)⁻¹ * e by grind, hone]; grind
   grind
  rcases hb x h1 h2 with h | h <;> grind
theorem qpow_ne {x : Rat} (h : x ≠ 0) : ∀ m : Nat, x ^ m ≠ 0
 | 0 => by rw [Rat.pow_zero]; grind
 | m + 1 => by
  rw [Rat.pow_succ]
  have h1 := qpow_ne h m
  rcases nz_cases h1 with u | u <;> rcases nz_cases h with v | v
  ·have := Rat.mul_pos u v; grind
  ·have := Rat.mul_pos u (show 0 < -x by grind); grind
  ·have := Rat.mul_pos (show 0 < -x ^ m by grind) v; grind
  ·have := Rat.mul_pos (show 0 < -x ^ m by grind) (show 0 < -x by grind); grind
theorem cancel_l {a b c : Rat} (h : a ≠ 0) (e : a * b = a * c) : b = c := by
 have h1 : a⁻¹ * a = 1 := Rat.inv_mul_cancel _ h
 have : a⁻¹ * (a * b) = a⁻¹ * (a * c) := by rw [e]
 rw [← Rat.mul_assoc, ← Rat.mul_assoc, h1, Rat.one_mul, Rat.one_mul] at this
 exact this
structure Root2 (P : List Int) (rs : List Rat) : Prop where
 nd : rs.Nodup
 fac : ∀ r ∈ rs, ∃ m, 0 < m ∧ Fac P r m
 off : ∀ s t, s ≤ t → (∀ r ∈ rs, ¬ (s ≤ r ∧ r ≤ t)) → BA (er P) s t
theorem cross {P : List Int} {r : Rat} {m : Nat} (hm : 0 < m) (hF : Fac P r m) {f g u : Rat → Rat} (lf : LB f) (lg : LB g) {k k' : Rat} (hk : 0 < k) (hk' : 0 < k') (e1 : ∀ x, er P x = k * (u x * f x)) (e2 : ∀ x, er (pderiv P) x = k' * (u x * g x)) :
  ∃ A A' : Rat → Rat, LB A ∧ LB A' ∧ A r ≠ 0 ∧ (∀ x, er P x = (x - r) ^ m * A x) ∧ ∀ x, (x - r) * (k' * (A x * g x)) = k * (m * A x + (x - r) * A' x) * f x := by
 obtain ⟨A, A', a1, a2, a3, a4⟩ := hF
 refine ⟨A, A', a1, a2, a3, fun x => (a4 x).1, ?_⟩
 have off : ∀ x, x ≠ r → (x - r) * (k' * (A x * g x)) = k * (m * A x + (x - r) * A' x) * f x := fun x hx => by
  obtain ⟨b1, b2⟩ := a4 x
  refine cancel_l (qpow_ne (show x - r ≠ 0 by grind) m) ?_
  have c1 := e1 x
  have c2 := e2 x
  have : (x - r) ^ m * ((x - r) * (k' * (A x * g x))) = (x - r) * k' * g x * er P x := by rw [b1]; grind
  rw [this, c1]
  have : (x - r) ^ m * (k * (m * A x + (x - r) * A' x) * f x) = k * f x * ((x - r) * er (pderiv P) x) := by rw [b2]; grind
  rw [this, c2]
  grind
 have lx : LB fun x => x - r := LB.id.sub (LB.const r)
 have l1 : LB fun x => (x - r) * (k' * (A x * g x)) := lx.mul ((a1.mul lg).smul k')
 have l2 : LB fun x => k * (m * A x + (x - r) * A' x) * f x := (((a1.smul (m : Rat)).add (lx.mul a2)).smul k).mul lf
 intro x
 by_cases hx : x = r
 ·subst hx; exact LB.at_point l1 l2 off
 ·exact off x hx
theorem rts_of {P : List Int} {rs : List Rat} (hR : Root2 P rs) {f g u : Rat → Rat} {l : List (Rat → Rat)} (lu : LB u) {k k' : Rat} (hk : 0 < k) (hk' : 0 < k') (e1 : ∀ x, er P x = k * (u x * f x)) (e2 : ∀ x, er (pderiv P) x = k' * (u x * g x)) (hc : Ch (f :: g :: l)) (M : Rat) : Rts f g rs M ∧ ∀ r ∈ rs, g r ≠ 0 := by
 have lf := hc.lb
 have lg : LB g := by cases hc with | two _ hg => exact (LB.const 1).congr hg | more _ _ _ _ _ _ t => exact t.lb
 have off : ∀ s t, s ≤ t → (∀ r ∈ rs, ¬ (s ≤ r ∧ r ≤ t)) → 0 < f s * f t := fun s t h1 h2 => by
  have b := hR.off s t h1 h2
  have b2 : BA (fun x => (k * u x) * f x) s t := by
   obtain ⟨e, he, hb⟩ := b
   exact ⟨e, he, fun x a c => by have := hb x a c; rw [e1, ← Rat.mul_assoc] at this; exact this⟩
  exact (b2.of_mul (lu.smul k)).sign lf h1
 have zero : ∀ r ∈ rs, f r = 0 ∧ g r ≠ 0 := fun r hr => by
  obtain ⟨m, hm, hF⟩ := hR.fac r hr
  obtain ⟨A, A', a1, a2, a3, a4, a5⟩ := cross hm hF lf lg hk hk' e1 e2
  have h1 := a5 r
  have hm' : (0 : Rat) < m := by exact_mod_cast hm
  have h2 : f r = 0 := by
   have h3 : k * m * A r ≠ 0 := by
    rcases nz_cases a3 with v | v
    ·have := Rat.mul_pos (Rat.mul_pos hk hm') v; grind
    ·have := Rat.mul_pos (Rat.mul_pos hk hm') (show 0 < -A r by grind); grind
   refine cancel_l h3 ?_
   grind
  refine ⟨h2, fun hg => ?_⟩
  obtain ⟨N, n1, n2, -, -⟩ := within r r
  obtain ⟨e, he, hp⟩ := Ch.pair N hc
  rcases hp r n1 n2 with h | h
  ·rw [h2] at h; rcases h with h | h <;> grind
  ·rw [hg] at h; rcases h with h | h <;> grind
 refine ⟨⟨hR.nd, fun r hr => (zero r hr).1, fun s t _ h1 _ h2 => off s t h1 h2, fun r hr x _ _ hx hb => ?_⟩, fun r hr => (zero r hr).2⟩
 obtain ⟨m, hm, hF⟩ := hR.fac r hr
 obtain ⟨A, A', a1, a2, a3, a4, a5⟩ := cross hm hF lf lg hk hk' e1 e2
 have hm' : (0 : Rat) < m := by exact_mod_cast hm
 have lx : LB fun x => x - r := LB.id.sub (LB.const r)
 have lB : LB fun x => k * (m * A x + (x - r) * A' x) := ((a1.smul (m : Rat)).add (lx.mul a2)).smul k
 have lW : LB fun x => g r * (k' * (A x * g x)) * (k * (m * A x + (x - r) * A' x)) := (((a1.mul lg).smul k').smul (g r)).mul lB
 have hg := (zero r hr).2
 have hW : 0 < g r * (k' * (A r * g r)) * (k * (m * A r + (r - r) * A' r)) := by
  have s1 : 0 < (g r * A r) * (g r * A r) := by
   rcases nz_cases hg with u | u <;> rcases nz_cases a3 with v | v
   ·have := Rat.mul_pos u v; exact Rat.mul_pos this this
   ·have := Rat.mul_pos u (show 0 < -A r by grind); have := Rat.mul_pos this this; grind
   ·have := Rat.mul_pos (show 0 < -g r by grind) v; have := Rat.mul_pos this this; grind
   ·have := Rat.mul_pos (show 0 < -g r by grind) (show 0 < -A r by grind); have := Rat.mul_pos this this; grind
  have s2 := Rat.mul_pos (Rat.mul_pos (Rat.mul_pos hk hk') hm') s1
  grind
 obtain ⟨d, hd, near⟩ := near_pos lW hW
 have loc : ∀ y, y ≠ r → r - d ≤ y → y ≤ r + d → 0 < f y * g r * (y - r) := fun y hy h1 h2 => by
  have w := near y h1 h2
  have e := a5 y
  have sq : 0 < (y - r) * (y - r) := by
   rcases nz_cases (show y - r ≠ 0 by grind) with v | v
   ·exact Rat.mul_pos v v
   ·have := Rat.mul_pos (show 0 < -(y - r) by grind) (show 0 < -(y - r) by grind); grind
  have p := Rat.mul_pos sq w
  generalize hBv : k * (m * A y + (y - r) * A' y) = b at *
  have : (y - r) * (y - r) * (g r * (k' * (A y * g y)) * b) = f y * g r * (y - r) * (b * b) := by
   have : (y - r) * (y - r) * (g r * (k' * (A y * g y)) * b) = (y - r) * g r * b * ((y - r) * (k' * (A y * g y))) := by grind
   rw [this, e]; grind
  rw [this] at p
  rcases pos_cases p with ⟨u, _⟩ | ⟨_, v⟩
  ·exact u
  ·have : 0 ≤ b * b := by
    rcases Rat.le_total (a := 0) (b := b) with h | h
    ·exact Rat.mul_nonneg h h
    ·have := Rat.mul_nonneg (show 0 ≤ -b by grind) (show 0 ≤ -b by grind); grind
   grind
 by_cases h1 : r - d ≤ x ∧ x ≤ r + d
 ·exact loc x hx h1.1 h1.2
 ·by_cases h2 : r < x
  ·have p := loc (r + d) (by grind) (by grind) Rat.le_refl
   have q := off (r + d) x (by grind) fun r' hr' hh => by have := hb r' hr' (.inr ⟨by grind, hh.2⟩); grind
   have u : 0 < x - r := by grind
   have v : 0 < r + d - r := by grind
   have p1 : 0 < f (r + d) * g r := by rcases pos_cases p with ⟨a, _⟩ | ⟨_, a⟩ <;> grind
   have : 0 < f x * g r := by
    rcases pos_cases p1 with ⟨a, b⟩ | ⟨a, b⟩ <;> rcases pos_cases q with ⟨c, e⟩ | ⟨c, e⟩
    ·exact Rat.mul_pos e b
    ·grind
    ·grind
    ·have := Rat.mul_pos (show 0 < -f x by grind) (show 0 < -g r by grind); grind
   exact Rat.mul_pos this u
  ·have p := loc (r - d) (by grind) Rat.le_refl (by grind)
   have q := off x (r - d) (by grind) fun r' hr' hh => by have := hb r' hr' (.inl ⟨hh.1, by grind⟩); grind
   have u : 0 < -(x - r) := by grind
   have p1 : 0 < -(f (r - d) * g r) := by rcases pos_cases p with ⟨_, a⟩ | ⟨a, _⟩ <;> grind
   have : 0 < -(f x * g r) := by
    rcases neg_cases (show f (r - d) * g r < 0 by grind) with ⟨a, b⟩ | ⟨a, b⟩ <;> rcases pos_cases q with ⟨c, e⟩ | ⟨c, e⟩
    ·have := Rat.mul_pos c (show 0 < -g r by grind); grind
    ·grind
    ·grind
    ·have := Rat.mul_pos (show 0 < -f x by grind) b; grind
   have := Rat.mul_pos this u
   grind
end Go.Proofs.YtdokaihemcnkmaaGreat
