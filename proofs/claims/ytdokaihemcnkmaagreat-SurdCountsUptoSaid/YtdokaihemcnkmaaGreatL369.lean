/-
 Contracts of the functions that the law reaches.
-/
import Derived.Test.YtdokaihemcnkmaaGreatL55M
set_option maxHeartbeats 2000000
namespace Go.Proofs.YtdokaihemcnkmaaGreat
open Go Go.Proofs Go.AL
set_option linter.unusedSimpArgs false
set_option linter.unusedVariables false
theorem sb_pmul1 {A B : List Int} {a n : Nat} (hA : SBd a A) (hB : SBd 1 B) (tA : tz A ≤ n) (tB : tz B ≤ 3) (hn : n < W) : SBd (a + 2) (pmul A B) := by
 intro i
 have h := (PB.pmul (rp_sb tA hA).pv (rp_sb tB hB).pv hn).cf i
 rw [pmul_congr (p' := A) (q' := B) (cf_cn _) (cf_cn _)] at h
 omega
structure Bw (Q : List Int) (S : Rat → Prop) (i m q : Nat) : Prop where
 root : RootP Q S
 com : ∃ D, Com Q D i
 sz : SBd m Q
 t : 2 * tz Q ≤ m + 1 + 2 * q
theorem Bw.start {c : Int} (hc : c ≠ 0) (h : c.natAbs < W) : Bw [c] (fun _ => False) 0 1 0 := by
 refine ⟨rootp_const hc, ⟨[1], com_const hc⟩, fun k => ?_, by have : tz [c] ≤ 1 := tz_le [c]; omega⟩
 match k with
 | 0 => exact zl_le.mpr (by rw [Nat.pow_one]; exact h)
 | k + 1 => show zl 0 ≤ 1; rw [zl_zero]; omega
theorem sb_two {x y : Int} (hx : x.natAbs < W) (hy : y.natAbs < W) : SBd 1 [x, y] := fun k => by
 match k with
 | 0 => exact zl_le.mpr (by rw [Nat.pow_one]; exact hx)
 | 1 => exact zl_le.mpr (by rw [Nat.pow_one]; exact hy)
 | k + 2 => show zl 0 ≤ 1; rw [zl_zero]; omega
theorem tz_lin2 {n d : Int} (hd : 0 < d) : tz [-n, d] = 2 := by
 refine Nat.le_antisymm (tz_le _) (Nat.le_of_not_lt fun h => ?_)
 have : cf [-n, d] 1 = d := rfl
 have h2 := cf_ge_tz [-n, d] (k := 1) (by omega)
 omega
theorem lmul_sz {P L : List Int} {m : Nat} (hP : SBd m P) (hL : SBd 1 L) (tL : tz L = 2) (hP0 : tz P ≠ 0) (k : Nat) (hm : tz P + k < W) : SBd (m + 2 * k) (lmul P L k) ∧ tz (lmul P L k) = tz P + k := by
 induction k with
 | zero => exact ⟨hP, rfl⟩
 | succ k ih =>
  obtain ⟨a, b⟩ := ih (by omega)
  refine ⟨?_, ?_⟩
  ·exact sb_pmul1 (n := tz P + k) a hL (by omega) (by omega) (by omega)
  ·rw [lmul, tz_pmul (by omega) (by omega)]; omega
theorem Bw.ne {Q : List Int} {S : Rat → Prop} {i m q : Nat} (h : Bw Q S i m q) : tz Q ≠ 0 := by
 obtain ⟨D, hD, E, G, e1, e2, e3, e4⟩ := h.com
 rw [tz_of_ps (q := pmul D E) (by rw [ps_pmul, e1]), tz_pmul hD e4]; omega
theorem Bw.lin {Q : List Int} {S : Rat → Prop} {i m q : Nat} (h : Bw Q S i m q) {n d : Int} (hd : 0 < d) (hn : n.natAbs < W) (hd2 : d.natAbs < W) (k : Nat) (hm : m + q + 2 * (k + 1) + 10 < W) : Bw (lmul Q [-n, d] (k + 1)) (fun r => S r ∨ r = (n : Rat) / (d : Rat)) (i + 1) (m + 2 * (k + 1)) q := by
 have t := tz_lin2 (n := n) hd
 obtain ⟨D, c⟩ := h.com
 obtain ⟨D', c', -⟩ := com_lmul c (L := [-n, d]) (by omega) (by omega) k
 have ht := h.t
 obtain ⟨a, b⟩ := lmul_sz h.sz (sb_two (x := -n) (y := d) (by omega) hd2) t h.ne (k + 1) (by omega)
 exact ⟨rootp_lmul h.root (rootp_lin hd) k, ⟨D', c'⟩, a, by omega⟩
theorem Bw.quad {Q : List Int} {S : Rat → Prop} {i m q : Nat} (h : Bw Q S i m q) {a b : Int} (hb : 1 ≤ b) (ha : -1000 ≤ a ∧ a ≤ 1000) (hb2 : b ≤ 1000) (hm : m + q + 10 < W) : Bw (pmul Q [a * a + b, -2 * a, 1]) S (i + 2) (m + 2) (q + 1) := by
 have t : tz [a * a + b, -2 * a, 1] = 3 := by
  refine Nat.le_antisymm (tz_le _) (Nat.le_of_not_lt fun h => ?_)
  have : cf [a * a + b, -2 * a, 1] 2 = 1 := rfl
  have h2 := cf_ge_tz [a * a + b, -2 * a, 1] (k := 2) (by omega)
  omega
 obtain ⟨D, c⟩ := h.com
 have q1 : 0 ≤ a * a := by
  rcases Int.le_total 0 a with h | h
  ·exact Int.mul_nonneg h h
  ·have := Int.mul_nonneg (show 0 ≤ -a by omega) (show 0 ≤ -a by omega)
   rwa [Int.neg_mul_neg] at this
 have q2 : a * a ≤ 1000 * 1000 := by
  rcases Int.le_total 0 a with h | h
  ·exact Int.mul_le_mul (by omega) (by omega) h (by omega)
  ·have := Int.mul_le_mul (a := -a) (b := -a) (c := 1000) (d := 1000) (by omega) (by omega) (by omega) (by omega)
   rwa [Int.neg_mul_neg] at this
 have sq : SBd 1 [a * a + b, -2 * a, 1] := fun k => by
  match k with
  | 0 => exact zl_le.mpr (by rw [Nat.pow_one]; show (a * a + b).natAbs < W; simp only [W]; omega)
  | 1 => exact zl_le.mpr (by rw [Nat.pow_one]; show (-2 * a).natAbs < W; simp only [W]; omega)
  | 2 => exact zl_le.mpr (by rw [Nat.pow_one]; show (1 : Int).natAbs < W; decide)
  | k + 3 => show zl 0 ≤ 1; rw [zl_zero]; omega
 refine ⟨(h.root.mul (rootp_quad hb)).congr fun r => ⟨fun h => h.elim (fun h => h) (fun h => h.elim), .inl⟩, ⟨D, c.one (k := 2) (by omega) (by omega)⟩, sb_pmul1 (n := m + 1 + q) h.sz sq (by have := h.t; omega) (by omega) (by omega), ?_⟩
 have ht := h.t
 rw [tz_pmul h.ne (by omega)]
 omega
theorem Bw.kw {Q : List Int} {l : List RQ} {i m q : Nat} (h : Bw Q (· ∈ l.map qv) i m q) (hi : i ≤ 10) (hm : m ≤ 44) (hqq : q ≤ 2) (hr : Rise l) (hq : trimz Q = Q) : ∃ D, Kw (cn Q) D i (m + 1) (l.map qv) := by
 obtain ⟨D, c⟩ := h.com
 have ht : tz Q ≤ 30 := by have := h.t; omega
 have e : pv (cn Q) = Q := pv_cnt hq
 refine ⟨D, ⟨?_, rp_sb (by omega) (h.sz.mono (by omega)), hi, by omega, ?_⟩⟩
 ·rw [e]
  refine ⟨c, h.sz.mono (by omega), sb_pderiv h.sz ht (by decide), ht, by omega, ?_⟩
  have := ez_top (S := m + 1) (n := i) (by omega) hi
  omega
 ·rw [e]; exact h.root.two (rise_nodup hr)
theorem Bw.of_ps {P Q : List Int} {S : Rat → Prop} {i m q : Nat} (h : Bw P S i m q) (e : ps P = ps Q) : Bw Q S i m q := by
 obtain ⟨D, c⟩ := h.com
 exact ⟨h.root.of_ps e, ⟨D, c.of_ps e⟩, fun k => by rw [← ps_eq e]; exact h.sz k, by rw [← tz_of_ps e]; exact h.t⟩
theorem Bw.congr {Q : List Int} {S T : Rat → Prop} {i m q : Nat} (h : Bw Q S i m q) (e : ∀ r, S r ↔ T r) : Bw Q T i m q := ⟨h.root.congr e, h.com, h.sz, h.t⟩
end Go.Proofs.YtdokaihemcnkmaaGreat
