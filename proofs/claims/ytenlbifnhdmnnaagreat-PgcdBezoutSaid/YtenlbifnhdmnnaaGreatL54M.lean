/-
  Contracts of the functions that the law reaches.
-/
import Derived.Test.YtenlbifnhdmnnaaGreatL39M
set_option maxHeartbeats 2000000
namespace Go.Proofs.YtenlbifnhdmnnaaGreat
open Go Go.Proofs Go.AL
set_option linter.unusedSimpArgs false
set_option linter.unusedVariables false
def digAt (f : Fr) (t : Nat) : Nat := match f t with
  | .iv (.sl rows) => vl D16 (rows.map fun r => match r with | [.int _ n] => n.toNat | _ => 0)
  | _ => 0
theorem digAt_of {f : Fr} {t : Nat} {l : List Nat} (h : f t = .iv (.sl (nums l))) : digAt f t = vl D16 l := by
  unfold digAt
  rw [h]
  simp only [nums, List.map_map]
  congr 1
  conv => rhs; rw [← List.map_id l]
  exact List.map_congr_left fun x _ => by simp
theorem dgD_mono {a b : Nat} (h : a ≤ b) : (dgD a).length ≤ (dgD b).length := by
  have h1 := vlD_lt (dgD_dig b)
  rw [vl_dgD] at h1
  exact (dg_length_le two_le_D (dgD b).length (n := a)).mpr (Nat.lt_of_le_of_lt h h1)
theorem rGcd_ok (a b : List Nat) (ha : Lim a) (hb : Lim b) (hla : a.length ≤ 2 ^ 38) (hlb : b.length ≤ 2 ^ 38) : AC Tryz.prog 65 [cl a, cl b] none [cl (wd (Nat.gcd (nv a) (nv b)))] := by
  refine AC.by_walk (rs := [.tmp 4]) ords Tryz.func65 (by rfl) (by rfl) (by rfl) (by rfl) (by rfl) ?_
  obtain ⟨x, y, s, h1, h2⟩ := rones_ok a b 63 ha hb (by omega) (by omega) (by omega)
  have h3 := dgD_len ha
  have h4 := dgD_len hb
  simp (disch := omega) only [wk, tis, seval, reduceCtorEq, Nat.reduceEqDiff, cpoly_len]
  refine call_by (h1) (by rfl) (by simp) ?_
  simp (disch := omega) only [wk, tis, seval, reduceCtorEq, Nat.reduceEqDiff, cpoly_len]
  cases s with
  | true =>
    obtain ⟨rfl, rfl, b1, b2⟩ := h2 rfl
    clear h1 h2
    generalize nv a = x at *
    generalize nv b = y at *
    refine aloop_by (fun f H => ∃ (u v : Nat), Nat.gcd u v = Nat.gcd x y ∧ u < 2 ^ 63 ∧ v < 2 ^ 63 ∧ f 6 = .iv (.int .u64 v) ∧ f 5 = .iv (.int .u64 u) ∧ f 7 = .iv (.bool true)) (fun f H => (intAt f 6).toNat) ?_ ?_
    · refine ⟨x, y, rfl, b1, b2, ?_⟩
      simp (disch := omega) only [wk, tis, seval, reduceCtorEq, Nat.reduceEqDiff, cpoly_len]
    rintro f H ⟨u, v, hg, hu, hv, hF⟩
    rw [intAt_of hF.1]
    simp (disch := omega) only [wk, tis, seval, reduceCtorEq, Nat.reduceEqDiff, cpoly_len, hF]
    by_cases hp : 0 < v
    · have hp' : (0 : Int) < (v : Int) := by omega
      have e2 : ((u : Nat) : Int).tmod ((v : Nat) : Int) = ((u % v : Nat) : Int) := by rw [Int.tmod_eq_emod_of_nonneg (by omega)]; rfl
      have hlt := Nat.mod_lt u hp
      generalize hr : u % v = r at *
      simp (disch := omega) only [wk, tis, seval, reduceCtorEq, Nat.reduceEqDiff, cpoly_len, hF, hp', e2]
      refine ⟨tmps_by (by kernel_rfl), ?_⟩
      first | exact log_by (by kernel_rfl) | refine ⟨log_by (by kernel_rfl), ?_⟩
      refine ⟨⟨v, r, ?_, hv, by omega, rfl, rfl⟩, by omega⟩
      rw [← hg, ← hr, Nat.gcd_comm u v, Nat.gcd_rec v u, Nat.gcd_comm]
    · obtain rfl : v = 0 := by omega
      rw [Nat.gcd_zero_right] at hg
      subst hg
      simp (disch := omega) only [wk, tis, seval, reduceCtorEq, Nat.reduceEqDiff, cpoly_len, hF]
      refine call_by ((rof_ok (Nat.gcd x y) (by simp only [W]; omega))) (by first | rfl | (simp only [tocvs, tocv, hF]; rfl) | (simp only [tocvs, tocv, toboxes, tobox, updH_at, Nat.reduceEqDiff, ↓reduceIte, hF]; rfl)) (by simp) ?_
      simp (disch := omega) only [wk, tis, seval, reduceCtorEq, Nat.reduceEqDiff, cpoly_len, hF]
  | false =>
    clear h2
    refine aloop_by (fun f H => True ∧ f 6 = .iv (.int .u64 y) ∧ f 5 = .iv (.int .u64 x) ∧ f 7 = .iv (.bool false) ∧ f 0 = .iv (.sl (lims a)) ∧ f 1 = .iv (.sl (lims b))) (fun f H => (intAt f 6).toNat) ?_ ?_
    · refine ⟨trivial, ?_⟩
      simp (disch := omega) only [wk, tis, seval, reduceCtorEq, Nat.reduceEqDiff, cpoly_len]
    rintro f H ⟨_, hF⟩
    rw [intAt_of hF.1]
    simp (disch := omega) only [wk, tis, seval, reduceCtorEq, Nat.reduceEqDiff, cpoly_len, hF]
    refine call_by ((rdig_ok a ha (by omega))) (by first | rfl | (simp only [tocvs, tocv, hF]; rfl) | (simp only [tocvs, tocv, toboxes, tobox, updH_at, Nat.reduceEqDiff, ↓reduceIte, hF]; rfl)) (by simp) ?_
    simp (disch := omega) only [wk, tis, seval, reduceCtorEq, Nat.reduceEqDiff, cpoly_len, hF]
    refine call_by ((rdig_ok b hb (by omega))) (by first | rfl | (simp only [tocvs, tocv, hF]; rfl) | (simp only [tocvs, tocv, toboxes, tobox, updH_at, Nat.reduceEqDiff, ↓reduceIte, hF]; rfl)) (by simp) ?_
    simp (disch := omega) only [wk, tis, seval, reduceCtorEq, Nat.reduceEqDiff, cpoly_len, hF]
    generalize nv a = x1 at *
    generalize nv b = y1 at *
    refine aloop_by (fun f H => ∃ u v : Nat, Nat.gcd u v = Nat.gcd x1 y1 ∧ (dgD u).length ≤ 2 ^ 40 ∧ (dgD v).length ≤ 2 ^ 40 ∧ f 8 = .iv (.sl (nums (dgD u))) ∧ f 9 = .iv (.sl (nums (dgD v)))) (fun f H => digAt f 9) ?_ ?_
    · exact ⟨x1, y1, rfl, by omega, by omega, by simp (disch := omega) only [wk, tis, seval, reduceCtorEq, Nat.reduceEqDiff, cpoly_len]⟩
    clear hF
    rintro f H ⟨u, v, hg, hu, hv, hF⟩
    rw [digAt_of hF.2, vl_dgD]
    simp (disch := omega) only [wk, tis, seval, reduceCtorEq, Nat.reduceEqDiff, cpoly_len, hF]
    refine if_by (fun h => ?_) (fun h => ?_)
    · have h0 : v ≠ 0 := fun h1 => by rw [h1, dgD_len_zero.mpr rfl] at h; simp at h
      obtain ⟨q, q1, q2, q3, m⟩ := divide_g u v h0 (by omega) (by omega)
      have hlt := Nat.mod_lt u (Nat.pos_of_ne_zero h0)
      have hml := dgD_mono (Nat.le_of_lt hlt)
      have mc := rcut_ok (dgD (u % v)) (by omega)
      rw [dgD_of (dgD_dig _), vl_dgD] at mc
      simp (disch := omega) only [wk, tis, seval, reduceCtorEq, Nat.reduceEqDiff, cpoly_len, hF]
      refine call_by (m) (by first | rfl | (simp only [tocvs, tocv, hF]; rfl) | (simp only [tocvs, tocv, toboxes, tobox, updH_at, Nat.reduceEqDiff, ↓reduceIte, hF]; rfl)) (by simp) ?_
      simp (disch := omega) only [wk, tis, seval, reduceCtorEq, Nat.reduceEqDiff, cpoly_len, hF]
      refine call_by (mc) (by first | rfl | (simp only [tocvs, tocv, hF]; rfl) | (simp only [tocvs, tocv, toboxes, tobox, updH_at, Nat.reduceEqDiff, ↓reduceIte, hF]; rfl)) (by simp) ?_
      simp (disch := omega) only [wk, tis, seval, reduceCtorEq, Nat.reduceEqDiff, cpoly_len, hF]
      rw [digAt_of rfl, vl_dgD]
      exact ⟨⟨v, u % v, by rw [← hg, Nat.gcd_comm u v, Nat.gcd_rec v u, Nat.gcd_comm], hv, by omega, rfl, rfl⟩, hlt⟩
    · have h0 : v = 0 := dgD_len_zero.mp (by omega)
      subst h0
      rw [Nat.gcd_zero_right] at hg
      subst hg
      have mn := rnumber_ok (dgD (Nat.gcd x1 y1)) (dgD_dig _) (by omega)
      rw [vl_dgD] at mn
      simp (disch := omega) only [wk, tis, seval, reduceCtorEq, Nat.reduceEqDiff, cpoly_len, hF]
      refine call_by (mn) (by first | rfl | (simp only [tocvs, tocv, hF]; rfl) | (simp only [tocvs, tocv, toboxes, tobox, updH_at, Nat.reduceEqDiff, ↓reduceIte, hF]; rfl)) (by simp) ?_
      simp (disch := omega) only [wk, tis, seval, reduceCtorEq, Nat.reduceEqDiff, cpoly_len, hF]
end Go.Proofs.YtenlbifnhdmnnaaGreat

namespace Go.Proofs.YtenlbifnhdmnnaaGreat
open Go Go.Proofs Go.AL
set_option linter.unusedSimpArgs false
set_option linter.unusedVariables false
end Go.Proofs.YtenlbifnhdmnnaaGreat

namespace Go.Proofs.YtenlbifnhdmnnaaGreat
open Go Go.Proofs Go.AL
set_option linter.unusedSimpArgs false
set_option linter.unusedVariables false
theorem canon_sg (z : Int) : (canon z).1 = decide (z < 0) := rfl
end Go.Proofs.YtenlbifnhdmnnaaGreat
