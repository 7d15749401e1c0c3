/-
  Contracts of the functions that the law reaches.
-/
import Derived.Test.YtdmodmcaahmgmaaGreatL39M
import Derived.Test.YtdmodmcaahmgmaaGreatL36M
set_option maxHeartbeats 2000000
namespace Go.Proofs.YtdmodmcaahmgmaaGreat
open Go Go.Proofs Go.AL
set_option linter.unusedSimpArgs false
set_option linter.unusedVariables false
theorem dvr_dgD {y : Nat} (h : y ≠ 0) : Dvr (dgD y) := by
  have hp : 0 < (dgD y).length := by
    rcases Nat.eq_zero_or_pos (dgD y).length with h0 | h0
    · exact absurd (dgD_len_zero.mp h0) h
    · exact h0
  refine ⟨dgD_dig y, hp, fun h0 => ?_⟩
  have e := vl_take_next D16 (dgD y) ((dgD y).length - 1)
  rw [show (dgD y).length - 1 + 1 = (dgD y).length by omega, List.take_length, h0, Nat.mul_zero, Nat.add_zero, vl_dgD] at e
  have h1 := vlD_lt ((dgD_dig y).take ((dgD y).length - 1))
  rw [List.length_take, Nat.min_eq_left (by omega), ← e] at h1
  have := (dg_length_le two_le_D ((dgD y).length - 1) (n := y)).mpr h1
  have h2 : (dg D16 y).length = (dgD y).length := rfl
  omega
theorem divide_short (a b : List Nat) (ha : a.length ≤ 2 ^ 41) (hb : b.length ≤ 2 ^ 41) (h : a.length < b.length) : AC Tryz.prog 116 [cd a, cd b] none [cd [], cd a] := by
  refine AC.by_walk (rs := [.tmp 4, .tmp 5]) ords Tryz.func116 (by rfl) (by rfl) (by rfl) (by rfl) (by rfl) ?_
  have hlt : (a.length : Int) < (b.length : Int) := by omega
  simp (disch := omega) only [wk, tis, seval, reduceCtorEq, Nat.reduceEqDiff, hlt]
theorem divide_g (x y : Nat) (hy : y ≠ 0) (hx : (dgD x).length ≤ 2 ^ 41) (hyl : (dgD y).length ≤ 2 ^ 41) : ∃ q, Dig q ∧ vl D16 q = x / y ∧ q.length ≤ (dgD x).length + 1 ∧ AC Tryz.prog 116 [cd (dgD x), cd (dgD y)] none [cd q, cd (dgD (x % y))] := by
  have hd := dvr_dgD hy
  rcases Nat.lt_or_ge (dgD x).length (dgD y).length with h | h
  · have hlt : x < y := by
      have h1 := vlD_lt (dgD_dig x)
      rw [vl_dgD] at h1
      have h2 := hd.bounds.1
      rw [vl_dgD] at h2
      exact Nat.lt_of_lt_of_le h1 (Nat.le_trans (Nat.pow_le_pow_right (by decide) (by omega)) h2)
    refine ⟨[], Dig.nil, by rw [Nat.div_eq_of_lt hlt]; rfl, by simp, ?_⟩
    rw [Nat.mod_eq_of_lt hlt]
    exact divide_short _ _ hx hyl h
  · have m := divide_ok5 (dgD x) (dgD y) (dgD_dig x) hd hx hyl h
    rw [vl_dgD, vl_dgD] at m
    refine ⟨_, dn_dig _ _, ?_, ?_, m⟩
    · rw [vl_dn]
      refine Nat.mod_eq_of_lt ?_
      have h1 := vlD_lt (dgD_dig x)
      rw [vl_dgD] at h1
      have h2 := hd.bounds.1
      rw [vl_dgD] at h2
      refine (Nat.div_lt_iff_lt_mul (by omega)).mpr (Nat.lt_of_lt_of_le h1 ?_)
      have e : D16 ^ (dgD x).length = D16 ^ ((dgD x).length - (dgD y).length + 1) * D16 ^ ((dgD y).length - 1) := by
        rw [← Nat.pow_add]; congr 1; have := hd.pos; omega
      rw [e]; exact Nat.mul_le_mul_left _ h2
    · rw [dn_len]; have := hd.pos; omega
theorem rQuo_ok (a b : List Nat) (ha : Lim a) (hb : Lim b) (hla : a.length ≤ 2 ^ 38) (hlb : b.length ≤ 2 ^ 38) (h0 : nv b ≠ 0) : AC Tryz.prog 68 [cl a, cl b] none [cl (wd (nv a / nv b)), cl (wd (nv a % nv b))] := by
  refine AC.by_walk (rs := [.tmp 4, .tmp 5]) ords Tryz.func68 (by rfl) (by rfl) (by rfl) (by rfl) (by rfl) ?_
  obtain ⟨x, y, s, h1, h2⟩ := rones_ok a b 63 ha hb (by omega) (by omega) (by omega)
  have h3 := dgD_len ha
  have h4 := dgD_len hb
  simp (disch := omega) only [wk, tis, seval, reduceCtorEq, Nat.reduceEqDiff]
  refine call_by (h1) (by rfl) (by simp) ?_
  simp (disch := omega) only [wk, tis, seval, reduceCtorEq, Nat.reduceEqDiff]
  cases s with
  | true =>
    obtain ⟨rfl, rfl, b1, b2⟩ := h2 rfl
    have e1 : ((nv a : Nat) : Int).tdiv ((nv b : Nat) : Int) = ((nv a / nv b : Nat) : Int) := by rw [Int.tdiv_eq_ediv_of_nonneg (by omega)]; rfl
    have e2 : ((nv a : Nat) : Int).tmod ((nv b : Nat) : Int) = ((nv a % nv b : Nat) : Int) := by rw [Int.tmod_eq_emod_of_nonneg (by omega)]; rfl
    have l1 : nv a / nv b ≤ nv a := Nat.div_le_self _ _
    have l2 : nv a % nv b ≤ nv a := Nat.mod_le _ _
    generalize nv a / nv b = q at *
    generalize nv a % nv b = r at *
    have hqW : q < W := by simp only [W]; omega
    have hrW : r < W := by simp only [W]; omega
    simp (disch := omega) only [wk, tis, seval, reduceCtorEq, Nat.reduceEqDiff, e1, e2, wrap_nat hqW]
    refine ⟨tmps_by (by kernel_rfl), ?_⟩
    refine call_by ((rof_ok q hqW)) (by first | rfl | (simp only [tocvs, tocv, e2]; rfl) | (simp only [tocvs, tocv, toboxes, tobox, updH_at, Nat.reduceEqDiff, ↓reduceIte, e2]; rfl)) (by simp) ?_
    simp (disch := omega) only [wk, tis, seval, reduceCtorEq, Nat.reduceEqDiff, e2]
    refine call_by ((rof_ok r hrW)) (by first | rfl | (simp only [tocvs, tocv, e2]; rfl) | (simp only [tocvs, tocv, toboxes, tobox, updH_at, Nat.reduceEqDiff, ↓reduceIte, e2]; rfl)) (by simp) ?_
    simp (disch := omega) only [wk, tis, seval, reduceCtorEq, Nat.reduceEqDiff, e2]
    first | exact log_by (by kernel_rfl) | refine ⟨log_by (by kernel_rfl), ?_⟩
  | false =>
    simp (disch := omega) only [wk, tis, seval, reduceCtorEq, Nat.reduceEqDiff]
    refine call_by ((rdig_ok a ha (by omega))) (by rfl) (by simp) ?_
    simp (disch := omega) only [wk, tis, seval, reduceCtorEq, Nat.reduceEqDiff]
    refine call_by ((rdig_ok b hb (by omega))) (by rfl) (by simp) ?_
    simp (disch := omega) only [wk, tis, seval, reduceCtorEq, Nat.reduceEqDiff]
    obtain ⟨q, q1, q2, q3, m⟩ := divide_g (nv a) (nv b) h0 (by omega) (by omega)
    refine call_by (m) (by rfl) (by simp) ?_
    simp (disch := omega) only [wk, tis, seval, reduceCtorEq, Nat.reduceEqDiff]
    have m1 := rnumber_ok q q1 (by omega)
    rw [q2] at m1
    have h5 : (dgD (nv a % nv b)).length ≤ 2 ^ 41 := by
      have h6 : nv a % nv b < D16 ^ (dgD (nv b)).length := Nat.lt_of_lt_of_le (Nat.mod_lt _ (by omega)) (by have := vlD_lt (dgD_dig (nv b)); rw [vl_dgD] at this; omega)
      have := (dg_length_le two_le_D (dgD (nv b)).length).mpr h6
      have e : (dg D16 (nv a % nv b)).length = (dgD (nv a % nv b)).length := rfl
      omega
    have m2 := rnumber_ok (dgD (nv a % nv b)) (dgD_dig _) (by omega)
    rw [vl_dgD] at m2
    refine call_by (m1) (by rfl) (by simp) ?_
    simp (disch := omega) only [wk, tis, seval, reduceCtorEq, Nat.reduceEqDiff]
    refine call_by (m2) (by rfl) (by simp) ?_
    simp (disch := omega) only [wk, tis, seval, reduceCtorEq, Nat.reduceEqDiff]
end Go.Proofs.YtdmodmcaahmgmaaGreat

namespace Go.Proofs.YtdmodmcaahmgmaaGreat
open Go Go.Proofs Go.AL
set_option linter.unusedSimpArgs false
set_option linter.unusedVariables false
theorem rExact_ok (a b : RI) (ha : Sz (2 ^ 38) a) (hb : Sz (2 ^ 38) b) (h0 : iv b ≠ 0) (hd : iv b ∣ iv a) : AC Tryz.prog 151 [cr a, cr b] none [cz (iv a / iv b)] := by
  refine AC.by_walk (rs := [.cell 4 50]) ords Tryz.func151 (by rfl) (by rfl) (by rfl) (by rfl) (by rfl) ?_
  rw [iv_sg, iv_sg] at hd
  rw [iv_sg] at h0
  have hm := sg_dvd.mp hd
  have hn : nv b.2 ≠ 0 := fun h => h0 (by rw [h]; cases b.1 <;> rfl)
  have m := rQuo_ok a.2 b.2 ha.2 hb.2 ha.1 hb.1 hn
  have hl : (wd (nv a.2 / nv b.2)).length ≤ 2 ^ 38 := Nat.le_trans (Nat.le_trans (wd_len_mono (Nat.div_le_self _ _)) (nv_len ha.2)) ha.1
  have i1 := rI_ok (a.1 != b.1) (wd (nv a.2 / nv b.2)) (lim_wd _) (by omega)
  rw [nv_wd] at i1
  rw [iv_sg, iv_sg, (sg_div hm).1]
  simp (disch := omega) only [wk, tis, seval, reduceCtorEq, Nat.reduceEqDiff, cpoly_len]
  refine call_by (m) (by rfl) (by simp) ?_
  simp (disch := omega) only [wk, tis, seval, reduceCtorEq, Nat.reduceEqDiff, cpoly_len]
  refine call_by (i1) (by rfl) (by simp) ?_
  simp (disch := omega) only [wk, tis, seval, reduceCtorEq, Nat.reduceEqDiff, cpoly_len]
def digAt (f : Fr) (t : Nat) : Nat := match f t with
  | .iv (.sl rows) => vl D16 (rows.map fun r => match r with | [.int _ n] => n.toNat | _ => 0)
  | _ => 0
theorem digAt_of {f : Fr} {t : Nat} {l : List Nat} (h : f t = .iv (.sl (nums l))) : digAt f t = vl D16 l := by
  unfold digAt
  rw [h]
  simp only [nums, List.map_map]
  congr 1
  conv => rhs; rw [← List.map_id l]
  exact List.map_congr_left fun x _ => by simp
theorem dgD_mono {a b : Nat} (h : a ≤ b) : (dgD a).length ≤ (dgD b).length := by
  have h1 := vlD_lt (dgD_dig b)
  rw [vl_dgD] at h1
  exact (dg_length_le two_le_D (dgD b).length (n := a)).mpr (Nat.lt_of_le_of_lt h h1)
theorem rGcd_ok (a b : List Nat) (ha : Lim a) (hb : Lim b) (hla : a.length ≤ 2 ^ 38) (hlb : b.length ≤ 2 ^ 38) : AC Tryz.prog 107 [cl a, cl b] none [cl (wd (Nat.gcd (nv a) (nv b)))] := by
  refine AC.by_walk (rs := [.tmp 4]) ords Tryz.func107 (by rfl) (by rfl) (by rfl) (by rfl) (by rfl) ?_
  obtain ⟨x, y, s, h1, h2⟩ := rones_ok a b 63 ha hb (by omega) (by omega) (by omega)
  have h3 := dgD_len ha
  have h4 := dgD_len hb
  simp (disch := omega) only [wk, tis, seval, reduceCtorEq, Nat.reduceEqDiff, cpoly_len]
  refine call_by (h1) (by rfl) (by simp) ?_
  simp (disch := omega) only [wk, tis, seval, reduceCtorEq, Nat.reduceEqDiff, cpoly_len]
  cases s with
  | true =>
    obtain ⟨rfl, rfl, b1, b2⟩ := h2 rfl
    clear h1 h2
    generalize nv a = x at *
    generalize nv b = y at *
    refine aloop_by (fun f H => ∃ (u v : Nat), Nat.gcd u v = Nat.gcd x y ∧ u < 2 ^ 63 ∧ v < 2 ^ 63 ∧ f 6 = .iv (.int .u64 v) ∧ f 5 = .iv (.int .u64 u) ∧ f 7 = .iv (.bool true)) (fun f H => (intAt f 6).toNat) ?_ ?_
    · refine ⟨x, y, rfl, b1, b2, ?_⟩
      simp (disch := omega) only [wk, tis, seval, reduceCtorEq, Nat.reduceEqDiff, cpoly_len]
    rintro f H ⟨u, v, hg, hu, hv, hF⟩
    rw [intAt_of hF.1]
    simp (disch := omega) only [wk, tis, seval, reduceCtorEq, Nat.reduceEqDiff, cpoly_len, hF]
    by_cases hp : 0 < v
    · have hp' : (0 : Int) < (v : Int) := by omega
      have e2 : ((u : Nat) : Int).tmod ((v : Nat) : Int) = ((u % v : Nat) : Int) := by rw [Int.tmod_eq_emod_of_nonneg (by omega)]; rfl
      have hlt := Nat.mod_lt u hp
      generalize hr : u % v = r at *
      simp (disch := omega) only [wk, tis, seval, reduceCtorEq, Nat.reduceEqDiff, cpoly_len, hF, hp', e2]
      refine ⟨tmps_by (by kernel_rfl), ?_⟩
      first | exact log_by (by kernel_rfl) | refine ⟨log_by (by kernel_rfl), ?_⟩
      refine ⟨⟨v, r, ?_, hv, by omega, rfl, rfl⟩, by omega⟩
      rw [← hg, ← hr, Nat.gcd_comm u v, Nat.gcd_rec v u, Nat.gcd_comm]
    · obtain rfl : v = 0 := by omega
      rw [Nat.gcd_zero_right] at hg
      subst hg
      simp (disch := omega) only [wk, tis, seval, reduceCtorEq, Nat.reduceEqDiff, cpoly_len, hF]
      refine call_by ((rof_ok (Nat.gcd x y) (by simp only [W]; omega))) (by first | rfl | (simp only [tocvs, tocv, hF]; rfl) | (simp only [tocvs, tocv, toboxes, tobox, updH_at, Nat.reduceEqDiff, ↓reduceIte, hF]; rfl)) (by simp) ?_
      simp (disch := omega) only [wk, tis, seval, reduceCtorEq, Nat.reduceEqDiff, cpoly_len, hF]
  | false =>
    clear h2
    refine aloop_by (fun f H => True ∧ f 6 = .iv (.int .u64 y) ∧ f 5 = .iv (.int .u64 x) ∧ f 7 = .iv (.bool false) ∧ f 0 = .iv (.sl (lims a)) ∧ f 1 = .iv (.sl (lims b))) (fun f H => (intAt f 6).toNat) ?_ ?_
    · refine ⟨trivial, ?_⟩
      simp (disch := omega) only [wk, tis, seval, reduceCtorEq, Nat.reduceEqDiff, cpoly_len]
    rintro f H ⟨_, hF⟩
    rw [intAt_of hF.1]
    simp (disch := omega) only [wk, tis, seval, reduceCtorEq, Nat.reduceEqDiff, cpoly_len, hF]
    refine call_by ((rdig_ok a ha (by omega))) (by first | rfl | (simp only [tocvs, tocv, hF]; rfl) | (simp only [tocvs, tocv, toboxes, tobox, updH_at, Nat.reduceEqDiff, ↓reduceIte, hF]; rfl)) (by simp) ?_
    simp (disch := omega) only [wk, tis, seval, reduceCtorEq, Nat.reduceEqDiff, cpoly_len, hF]
    refine call_by ((rdig_ok b hb (by omega))) (by first | rfl | (simp only [tocvs, tocv, hF]; rfl) | (simp only [tocvs, tocv, toboxes, tobox, updH_at, Nat.reduceEqDiff, ↓reduceIte, hF]; rfl)) (by simp) ?_
    simp (disch := omega) only [wk, tis, seval, reduceCtorEq, Nat.reduceEqDiff, cpoly_len, hF]
    generalize nv a = x1 at *
    generalize nv b = y1 at *
    refine aloop_by (fun f H => ∃ u v : Nat, Nat.gcd u v = Nat.gcd x1 y1 ∧ (dgD u).length ≤ 2 ^ 40 ∧ (dgD v).length ≤ 2 ^ 40 ∧ f 8 = .iv (.sl (nums (dgD u))) ∧ f 9 = .iv (.sl (nums (dgD v)))) (fun f H => digAt f 9) ?_ ?_
    · exact ⟨x1, y1, rfl, by omega, by omega, by simp (disch := omega) only [wk, tis, seval, reduceCtorEq, Nat.reduceEqDiff, cpoly_len]⟩
    clear hF
    rintro f H ⟨u, v, hg, hu, hv, hF⟩
    rw [digAt_of hF.2, vl_dgD]
    simp (disch := omega) only [wk, tis, seval, reduceCtorEq, Nat.reduceEqDiff, cpoly_len, hF]
    refine if_by (fun h => ?_) (fun h => ?_)
    · have h0 : v ≠ 0 := fun h1 => by rw [h1, dgD_len_zero.mpr rfl] at h; simp at h
      obtain ⟨q, q1, q2, q3, m⟩ := divide_g u v h0 (by omega) (by omega)
      have hlt := Nat.mod_lt u (Nat.pos_of_ne_zero h0)
      have hml := dgD_mono (Nat.le_of_lt hlt)
      have mc := rcut_ok (dgD (u % v)) (by omega)
      rw [dgD_of (dgD_dig _), vl_dgD] at mc
      simp (disch := omega) only [wk, tis, seval, reduceCtorEq, Nat.reduceEqDiff, cpoly_len, hF]
      refine call_by (m) (by first | rfl | (simp only [tocvs, tocv, hF]; rfl) | (simp only [tocvs, tocv, toboxes, tobox, updH_at, Nat.reduceEqDiff, ↓reduceIte, hF]; rfl)) (by simp) ?_
      simp (disch := omega) only [wk, tis, seval, reduceCtorEq, Nat.reduceEqDiff, cpoly_len, hF]
      refine call_by (mc) (by first | rfl | (simp only [tocvs, tocv, hF]; rfl) | (simp only [tocvs, tocv, toboxes, tobox, updH_at, Nat.reduceEqDiff, ↓reduceIte, hF]; rfl)) (by simp) ?_
      simp (disch := omega) only [wk, tis, seval, reduceCtorEq, Nat.reduceEqDiff, cpoly_len, hF]
      rw [digAt_of rfl, vl_dgD]
      exact ⟨⟨v, u % v, by rw [← hg, Nat.gcd_comm u v, Nat.gcd_rec v u, Nat.gcd_comm], hv, by omega, rfl, rfl⟩, hlt⟩
    · have h0 : v = 0 := dgD_len_zero.mp (by omega)
      subst h0
      rw [Nat.gcd_zero_right] at hg
      subst hg
      have mn := rnumber_ok (dgD (Nat.gcd x1 y1)) (dgD_dig _) (by omega)
      rw [vl_dgD] at mn
      simp (disch := omega) only [wk, tis, seval, reduceCtorEq, Nat.reduceEqDiff, cpoly_len, hF]
      refine call_by (mn) (by first | rfl | (simp only [tocvs, tocv, hF]; rfl) | (simp only [tocvs, tocv, toboxes, tobox, updH_at, Nat.reduceEqDiff, ↓reduceIte, hF]; rfl)) (by simp) ?_
      simp (disch := omega) only [wk, tis, seval, reduceCtorEq, Nat.reduceEqDiff, cpoly_len, hF]
end Go.Proofs.YtdmodmcaahmgmaaGreat

namespace Go.Proofs.YtdmodmcaahmgmaaGreat
open Go Go.Proofs Go.AL
set_option linter.unusedSimpArgs false
set_option linter.unusedVariables false
theorem tcontent_ok (p : List RI) (h : RP (2 ^ 40) (2 ^ 38) p) : AC Tryz.prog 150 [cw p] none [cl (wd (gz (pv p)))] := by
  have hl := h.1
  refine AC.by_walk (rs := [.tmp 2]) ords Tryz.func150 (by rfl) (by rfl) (by rfl) (by rfl) (by rfl) ?_
  simp (disch := omega) only [wk, tis, seval, reduceCtorEq, Nat.reduceEqDiff, cpoly_len]
  refine aloop_w (.iv 3 5 1 false 66 1 [] (by simp (disch := omega) only [wk, tis, seval, reduceCtorEq, Nat.reduceEqDiff, cpoly_len]) (by simp (disch := omega) only [wk, tis, seval, reduceCtorEq, Nat.reduceEqDiff, cpoly_len]) (.refl _ _)) (fun f H => ∃ (i : Nat), i ≤ p.length ∧ (wd (gz ((pv p).take i))).length ≤ 2 ^ 38 ∧ f 4 = .iv (.int .i64 i) ∧ f 0 = .iv (.sl (raws p)) ∧ f 3 = .iv (.sl (lims (wd (gz ((pv p).take i)))))) (fun f H => (p.length - intAt f 4).toNat) ?_ ?_
  · refine ⟨0, by omega, by rw [List.take_zero, gz, List.foldl_nil, wd_zero]; exact Nat.zero_le _, ?_⟩
    simp (disch := omega) only [wk, tis, seval, reduceCtorEq, Nat.reduceEqDiff, cpoly_len, List.take_zero, gz, List.foldl_nil, wd_zero, lims_nil]
  rintro f H ⟨i, hi, hs, hF⟩
  rw [intAt_of hF.1]
  simp (disch := omega) only [wk, tis, seval, reduceCtorEq, Nat.reduceEqDiff, cpoly_len, hF]
  refine if_by (fun hlt => ?_) (fun hlt => ?_)
  · have hc := h.get i
    have m := rGcd_ok (wd (gz ((pv p).take i))) (p.getD i (false, [])).2 (lim_wd _) hc.2 hs hc.1
    rw [nv_wd, ← iv_abs, ← cf_pv, ← gz_take (by rw [pv_len]; omega)] at m
    simp (disch := omega) only [wk, tis, seval, reduceCtorEq, Nat.reduceEqDiff, cpoly_len, hF]
    refine call_by (m) (by first | rfl | (simp only [tocvs, tocv, hF]; rfl) | (simp only [tocvs, tocv, toboxes, tobox, updH_at, Nat.reduceEqDiff, ↓reduceIte, hF]; rfl)) (by simp) ?_
    simp (disch := omega) only [wk, tis, seval, reduceCtorEq, Nat.reduceEqDiff, cpoly_len, hF]
    refine ⟨⟨i + 1, by omega, ?_, by omega, rfl⟩, by omega⟩
    rw [gz_take (by rw [pv_len]; omega)]
    rcases Nat.eq_zero_or_pos (cf (pv p) i).natAbs with h0 | h0
    · rw [h0, Nat.gcd_zero_right]; exact hs
    · refine Nat.le_trans (wd_len_mono (Nat.gcd_le_right _ h0)) ?_
      rw [cf_pv, iv_abs]
      exact Nat.le_trans (nv_len hc.2) hc.1
  · simp (disch := omega) only [wk, tis, seval, reduceCtorEq, Nat.reduceEqDiff, cpoly_len, hF]
    rw [List.take_of_length_le (by rw [pv_len]; omega)]
theorem take_snocz (q : List Int) {i : Nat} (h : i < q.length) : q.take (i + 1) = q.take i ++ [cf q i] := by
  rw [List.take_add_one]; congr 1; simp [cf, List.getD, h]
def qpos (q : List Int) : List Int := pdivs (gz q : Int) q
theorem gz_ne {q : List Int} (h : tz q ≠ 0) : gz q ≠ 0 := fun h0 => h (cont_zero_iff.mp (Int.natAbs_eq_zero.mp (by rw [cont_natAbs]; exact h0)))
theorem cf_qpos (q : List Int) (k : Nat) : cf q k = (gz q : Int) * cf (qpos q) k := by
  unfold qpos
  rw [cf_pdivs, Int.mul_ediv_cancel' (gz_dvd q k)]
theorem tpositive_ok (p : List RI) (h : RP (2 ^ 30) (2 ^ 35) p) : AC Tryz.prog 110 [cw p] none [cp (qpos (pv p))] := by
  have n := tN_ok p (h.mono (by omega) (by omega))
  have hPb := h.pv
  generalize pv p = P at *
  have hTb : PB (2 ^ 30) (2 ^ 35) (trimz P) := hPb.trimz
  have rT : RP (2 ^ 30) (2 ^ 35) (cn P) := rp_cn hPb
  have c := tcontent_ok (cn P) (rT.mono (by omega) (by omega))
  have eg : gz (pv (cn P)) = gz P := gz_eq (cf_cn P)
  have hgl := gz_len rT
  rw [eg] at c hgl
  have ri := rI_ok false (wd (gz P)) (lim_wd _) (by omega)
  rw [nv_wd, show sg false (gz P) = (gz P : Int) from rfl] at ri
  have hTl : (trimz P).length = tz P := trimz_len P
  have hl30 := hTb.1
  have hql : (pdivs (gz P : Int) (trimz P)).length = tz P := by unfold pdivs; rw [List.length_map, hTl]
  have hzq : ∀ k, zl (cf (pdivs (gz P : Int) (trimz P)) k) ≤ 2 ^ 35 := fun k => by
    rw [cf_pdivs, cf_trimz]
    exact Nat.le_trans (zl_div (gz_dvd P k)) (hPb.cf k)
  have n2 := tN_ok ((pdivs (gz P : Int) (trimz P)).map canon) ((RP.canon (.of (n := 2 ^ 30) (by omega) hzq)).mono (by omega) (by omega))
  rw [pv_canon, show cp (pdivs (gz P : Int) (trimz P)) = cp (qpos P) from cp_ext fun k => by unfold qpos; rw [cf_pdivs, cf_pdivs, cf_trimz]] at n2
  refine AC.by_walk (rs := [.tmp 2]) ords Tryz.func110 (by rfl) (by rfl) (by rfl) (by rfl) (by rfl) ?_
  simp (disch := omega) only [wk, tis, seval, reduceCtorEq, Nat.reduceEqDiff, cpoly_len]
  refine call_by (n) (by rfl) (by simp) ?_
  simp (disch := omega) only [wk, tis, seval, reduceCtorEq, Nat.reduceEqDiff, cpoly_len]
  refine call_by (c) (by rfl) (by simp) ?_
  simp (disch := omega) only [wk, tis, seval, reduceCtorEq, Nat.reduceEqDiff, cpoly_len]
  refine aloop_nil 4 4 50 2 (by simp (disch := omega) only [wk, tis, seval, reduceCtorEq, Nat.reduceEqDiff, cpoly_len]) (fun f H => ∃ (i st : Nat), i ≤ tz P ∧ f 5 = .iv (.int .i64 i) ∧ f 0 = .iv (.sl (cpoly P)) ∧ f 3 = .iv (.sl (lims (wd (gz P)))) ∧ f 4 = .hs 4 st ∧ H 4 = .blk false st 50 2 (raws (((pdivs (gz P : Int) (trimz P)).take i).map canon))) (fun f H => (tz P - intAt f 5).toNat) ?_ ?_
  · refine ⟨0, 1, by omega, ?_⟩
    simp (disch := omega) only [wk, tis, seval, reduceCtorEq, Nat.reduceEqDiff, cpoly_len, ghostF, ghostH, List.take_zero]
  rintro f H ⟨i, st, hi, hF⟩
  rw [intAt_of hF.1]
  simp (disch := omega) only [wk, tis, seval, reduceCtorEq, Nat.reduceEqDiff, cpoly_len, hF]
  by_cases hlt : i < tz P
  · have hlt' : (i : Int) < (tz P : Int) := by omega
    have hq : (((pdivs (gz P : Int) (trimz P)).take i).map canon).length = i := by rw [List.length_map, List.length_take]; omega
    have e := take_snocz (pdivs (gz P : Int) (trimz P)) (i := i) (by omega)
    rw [cf_pdivs, cf_trimz] at e
    have hat := cpoly_at (q := P) (i := i) hlt
    have hg0 : ((gz P : Nat) : Int) ≠ 0 := by have := gz_ne (q := P) (by omega); omega
    have x := rExact_ok (canon (cf P i)) (canon ((gz P : Nat) : Int)) ((sz_canon _).mono (Nat.le_trans (hPb.cf i) (by omega))) ((sz_canon _).mono (by unfold zl; rw [Int.natAbs_natCast]; omega)) (by rw [iv_canon]; exact hg0) (by rw [iv_canon, iv_canon]; exact gz_dvd P i)
    rw [iv_canon, iv_canon] at x
    simp (disch := omega) only [wk, tis, seval, reduceCtorEq, Nat.reduceEqDiff, cpoly_len, hF, hlt', hq, hat]
    refine ⟨tmps_by (by kernel_rfl), ?_⟩
    refine call_by (ri) (by first | rfl | (simp only [tocvs, tocv, hF, hlt', hq, hat]; rfl) | (simp only [tocvs, tocv, toboxes, tobox, updH_at, Nat.reduceEqDiff, ↓reduceIte, hF, hlt', hq, hat]; rfl)) (by simp) ?_
    simp (disch := omega) only [wk, tis, seval, reduceCtorEq, Nat.reduceEqDiff, cpoly_len, hF, hlt', hq, hat]
    refine call_by (x) (by first | rfl | (simp only [tocvs, tocv, hF, hlt', hq, hat]; rfl) | (simp only [tocvs, tocv, toboxes, tobox, updH_at, Nat.reduceEqDiff, ↓reduceIte, hF, hlt', hq, hat]; rfl)) (by simp) ?_
    simp (disch := omega) only [wk, tis, seval, reduceCtorEq, Nat.reduceEqDiff, cpoly_len, hF, hlt', hq, hat]
    first | exact log_by (by kernel_rfl) | refine ⟨log_by (by kernel_rfl), ?_⟩
    refine ⟨⟨i + 1, st + 1, by omega, ?_⟩, by omega⟩
    rw [e, List.map_append]
    (repeat' apply And.intro) <;> first | rfl | omega
  · have hlt' : ¬ (i : Int) < (tz P : Int) := by omega
    rw [List.take_of_length_le (by omega)] at hF
    simp (disch := omega) only [wk, tis, seval, reduceCtorEq, Nat.reduceEqDiff, cpoly_len, hF, hlt']
    refine call_by (n2) (by first | rfl | (simp only [tocvs, tocv, hF]; rfl) | (simp only [tocvs, tocv, toboxes, tobox, updH_at, Nat.reduceEqDiff, ↓reduceIte, hF]; rfl)) (by simp) ?_
    simp (disch := omega) only [wk, tis, seval, reduceCtorEq, Nat.reduceEqDiff, cpoly_len, hF]
    try rfl
theorem prim_pos {q : List Int} (h : ¬ lc q < 0) : prim q = qpos q := by
  unfold prim qpos cont
  rw [decide_eq_false h]; rfl
theorem prim_neg {q : List Int} (h : lc q < 0) (k : Nat) : cf (prim q) k = cf (pscale (-1) (qpos q)) k := by
  unfold prim qpos cont
  rw [cf_pscale, cf_pdivs, cf_pdivs, decide_eq_true h, show sg true (gz q) = -(gz q : Int) from rfl, Int.ediv_neg]
  omega
theorem tpart14_ok (p : List RI) (h : RP (2 ^ 30) (2 ^ 35) p) : AC Tryz.prog 65 [cw p] none [cp (npr (pv p))] := by
  have n := tpositive_ok p h
  have hPb := h.pv
  generalize pv p = P at *
  have htq : tz (qpos P) = tz P := by
    by_cases h0 : tz P = 0
    · rw [h0]
      refine tz_zero_iff.mpr fun k => ?_
      unfold qpos
      rw [cf_pdivs, tz_zero_iff.mp h0 k, Int.zero_ediv]
    · have hg := gz_ne h0
      rw [← tz_pscale (c := (gz P : Int)) (by omega) (qpos P)]
      exact tz_eq_of_cf fun k => by rw [cf_pscale, Int.mul_comm, ← cf_qpos]
  have hzq : ∀ k, zl (cf (qpos P) k) ≤ 2 ^ 35 := fun k => by
    unfold qpos
    rw [cf_pdivs]
    exact Nat.le_trans (zl_div (gz_dvd P k)) (hPb.cf k)
  have htl : tz P ≤ 2 ^ 30 := Nat.le_trans (tz_le P) hPb.1
  by_cases h0 : tz P = 0
  · rw [← cp_npr, prim_pos (q := P) (by unfold lc; rw [tz_zero_iff.mp h0]; omega)]
    rw [h0] at htq
    refine AC.by_walk (rs := [.tmp 2]) ords Tryz.func65 (by rfl) (by rfl) (by rfl) (by rfl) (by rfl) ?_
    simp (disch := omega) only [wk, tis, seval, reduceCtorEq, Nat.reduceEqDiff, cpoly_len]
    refine call_by (n) (by first | rfl | (simp only [tocvs, tocv, htq]; rfl) | (simp only [tocvs, tocv, toboxes, tobox, updH_at, Nat.reduceEqDiff, ↓reduceIte, htq]; rfl)) (by simp) ?_
    simp (disch := omega) only [wk, tis, seval, reduceCtorEq, Nat.reduceEqDiff, cpoly_len, htq]
    try rfl
  have hg := gz_ne h0
  have e1 : lc P = (gz P : Int) * lc (qpos P) := by
    unfold lc
    rw [htq, ← cf_qpos]
  have hat := cpoly_at (q := qpos P) (i := tz P - 1) (by omega)
  have hcz : cf (qpos P) (tz P - 1) = lc (qpos P) := by unfold lc; rw [htq]
  rw [hcz] at hat
  have s := rSign_ok (canon (lc (qpos P))) ((sz_canon _).mono (Nat.le_trans (hzq _) (by omega)))
  rw [iv_canon] at s
  have e2 : ((tz P : Nat) : Int) - 1 = ((tz P - 1 : Nat) : Int) := by omega
  have hp0 : (0 : Int) < ((tz P : Nat) : Int) := by omega
  have z1 := rZ_ok (-1) (by omega) (by omega)
  by_cases hs : lc P < 0
  · have hs2 : (lc (qpos P)).sign = -1 := by
      refine Int.sign_eq_neg_one_of_neg ?_
      rcases (show lc (qpos P) < 0 ∨ 0 ≤ lc (qpos P) by omega) with h1 | h1
      · exact h1
      · have := Int.mul_nonneg (show (0 : Int) ≤ (gz P : Int) by omega) h1
        omega
    rw [hs2] at s
    have b := tby_g (p := cn (qpos P)) (c := -1) (q := qpos P) ((rp_sb (D := 2 ^ 30) (k := 2 ^ 35) (by omega) hzq).mono (by omega) (by omega)) (Nat.le_trans (zl_le.mpr (by decide : (-1 : Int).natAbs < W ^ 1)) (by omega)) (ps_cn _)
    rw [← cp_npr, show cp (prim P) = cp (pscale (-1) (qpos P)) from cp_ext (prim_neg hs)]
    refine AC.by_walk (rs := [.tmp 2]) ords Tryz.func65 (by rfl) (by rfl) (by rfl) (by rfl) (by rfl) ?_
    simp (disch := omega) only [wk, tis, seval, reduceCtorEq, Nat.reduceEqDiff, cpoly_len]
    refine call_by (n) (by first | rfl | (simp only [tocvs, tocv, htq, hp0, e2, hat]; rfl) | (simp only [tocvs, tocv, toboxes, tobox, updH_at, Nat.reduceEqDiff, ↓reduceIte, htq, hp0, e2, hat]; rfl)) (by simp) ?_
    simp (disch := omega) only [wk, tis, seval, reduceCtorEq, Nat.reduceEqDiff, cpoly_len, htq, hp0, e2, hat]
    refine call_by (s) (by first | rfl | (simp only [tocvs, tocv, htq, hp0, e2, hat]; rfl) | (simp only [tocvs, tocv, toboxes, tobox, updH_at, Nat.reduceEqDiff, ↓reduceIte, htq, hp0, e2, hat]; rfl)) (by simp) ?_
    simp (disch := omega) only [wk, tis, seval, reduceCtorEq, Nat.reduceEqDiff, cpoly_len, htq, hp0, e2, hat]
    refine call_by (z1) (by first | rfl | (simp only [tocvs, tocv, htq, hp0, e2, hat]; rfl) | (simp only [tocvs, tocv, toboxes, tobox, updH_at, Nat.reduceEqDiff, ↓reduceIte, htq, hp0, e2, hat]; rfl)) (by simp) ?_
    simp (disch := omega) only [wk, tis, seval, reduceCtorEq, Nat.reduceEqDiff, cpoly_len, htq, hp0, e2, hat]
    refine call_by (b) (by first | rfl | (simp only [tocvs, tocv, htq, hp0, e2, hat]; rfl) | (simp only [tocvs, tocv, toboxes, tobox, updH_at, Nat.reduceEqDiff, ↓reduceIte, htq, hp0, e2, hat]; rfl)) (by simp) ?_
    simp (disch := omega) only [wk, tis, seval, reduceCtorEq, Nat.reduceEqDiff, cpoly_len, htq, hp0, e2, hat]
    try rfl
  · have hs2 : ¬ (lc (qpos P)).sign < 0 := by
      rw [sign_neg]
      intro h1
      exact hs (by rw [e1]; exact Int.mul_neg_of_pos_of_neg (by omega) h1)
    rw [← cp_npr, prim_pos hs]
    refine AC.by_walk (rs := [.tmp 2]) ords Tryz.func65 (by rfl) (by rfl) (by rfl) (by rfl) (by rfl) ?_
    simp (disch := omega) only [wk, tis, seval, reduceCtorEq, Nat.reduceEqDiff, cpoly_len]
    refine call_by (n) (by first | rfl | (simp only [tocvs, tocv, htq, hp0, e2, hat]; rfl) | (simp only [tocvs, tocv, toboxes, tobox, updH_at, Nat.reduceEqDiff, ↓reduceIte, htq, hp0, e2, hat]; rfl)) (by simp) ?_
    simp (disch := omega) only [wk, tis, seval, reduceCtorEq, Nat.reduceEqDiff, cpoly_len, htq, hp0, e2, hat]
    refine call_by (s) (by first | rfl | (simp only [tocvs, tocv, htq, hp0, e2, hat, hs2]; rfl) | (simp only [tocvs, tocv, toboxes, tobox, updH_at, Nat.reduceEqDiff, ↓reduceIte, htq, hp0, e2, hat, hs2]; rfl)) (by simp) ?_
    simp (disch := omega) only [wk, tis, seval, reduceCtorEq, Nat.reduceEqDiff, cpoly_len, htq, hp0, e2, hat, hs2]
    try rfl
theorem tpart14_g {p : List RI} {A : List Int} (h : RP (2 ^ 30) (2 ^ 35) p) (e : ps (pv p) = ps A) : AC Tryz.prog 65 [cw p] none [cp (npr A)] := by
  have := tpart14_ok p h
  rwa [npr_eq e] at this
theorem tless_ok {a b : List RI} {A B : List Int} (ha : RP (2 ^ 30) (2 ^ 36) a) (hb : RP (2 ^ 30) (2 ^ 35) b) (ea : ps (pv a) = ps A) (eb : ps (pv b) = ps B) : AC Tryz.prog 113 [cw a, cw b] none [cp (padd A (pscale (-1) B))] := by
  have z1 := rZ_ok (-1) (by omega) (by omega)
  have hz1 : zl (-1) ≤ 1 := zl_le.mpr (by decide)
  have b1 := tby_g (p := b) (c := -1) (q := B) (hb.mono (by omega) (by omega)) (by omega) eb
  have hbb : PB (2 ^ 30) (2 ^ 35 + 1) (pscale (-1) (pv b)) := hb.pv.pscale.mono (Nat.le_refl _) (by omega)
  have rb : RP (2 ^ 30) (2 ^ 36) (cn (pscale (-1) B)) := by
    have h1 := (rp_cn hbb).mono (Nat.le_refl (2 ^ 30)) (show 2 ^ 35 + 1 ≤ 2 ^ 36 by omega)
    have h2 : cn (pscale (-1) (pv b)) = cn (pscale (-1) B) := by
      unfold cn
      rw [trimz_ext (p := pscale (-1) (pv b)) (q := pscale (-1) B) fun k => by rw [cf_pscale, cf_pscale, ps_eq eb]]
    rwa [h2] at h1
  have p1 := tplus_g ha rb ea (ps_cn _)
  refine AC.by_walk (rs := [.tmp 4]) ords Tryz.func113 (by rfl) (by rfl) (by rfl) (by rfl) (by rfl) ?_
  simp (disch := omega) only [wk, tis, seval, reduceCtorEq, Nat.reduceEqDiff, cpoly_len]
  refine call_by (z1) (by rfl) (by simp) ?_
  simp (disch := omega) only [wk, tis, seval, reduceCtorEq, Nat.reduceEqDiff, cpoly_len]
  refine call_by (b1) (by rfl) (by simp) ?_
  simp (disch := omega) only [wk, tis, seval, reduceCtorEq, Nat.reduceEqDiff, cpoly_len]
  refine call_by (p1) (by rfl) (by simp) ?_
  simp (disch := omega) only [wk, tis, seval, reduceCtorEq, Nat.reduceEqDiff, cpoly_len]
  try rfl
def rst (A B : List Int) : List Int := trimz (padd (pscale ((lc B).natAbs : Int) A) (pscale (-1) (pmul (mono (tz A - tz B) ((lc B).sign * lc A)) B)))
def rrs (B : List Int) : Nat → List Int → List Int
  | 0, A => A
  | n + 1, A => if tz B ≤ tz A then rrs B n (rst A B) else A
theorem cf_rst (A B : List Int) (k : Nat) : cf (rst A B) k = cf A k * ((lc B).natAbs : Int) - (if tz A - tz B ≤ k then (lc B).sign * lc A * cf B (k - (tz A - tz B)) else 0) := by
  rw [rst, cf_trimz, cf_padd, cf_pscale, cf_pscale, cf_mono_mul]
  split <;> omega
theorem rst_tz {A B : List Int} (hB : tz B ≠ 0) (h : tz B ≤ tz A) : tz (rst A B) < tz A := by
  refine Nat.lt_of_le_of_lt (m := tz A - 1) (tz_le_of fun k hk => ?_) (by omega)
  rw [cf_rst, if_pos (by omega)]
  rcases Nat.lt_or_ge k (tz A) with h1 | h1
  · have e1 : k - (tz A - tz B) = tz B - 1 := by omega
    have e2 : cf A k = lc A := by unfold lc; congr 1; omega
    have e3 : cf B (tz B - 1) = lc B := rfl
    rw [e1, e2, e3, ← Int.mul_sign_self]
    have : (lc B).sign * lc A * lc B = lc A * (lc B * (lc B).sign) := by ac_rfl
    rw [this]; omega
  · rw [cf_ge_tz A h1, cf_ge_tz B (by omega)]
    omega
theorem rst_eq (A B : List Int) : ps (mono (tz A - tz B) ((lc B).sign * lc A)) * ps B + ps (rst A B) = PS.C ((lc B).natAbs : Int) * ps A := by
  rw [rst, ps_trimz, ps_padd, ps_pscale, ps_pscale, ps_pmul, PS.neg_one_C]
  generalize ps (mono (tz A - tz B) ((lc B).sign * lc A)) * ps B = x
  generalize PS.C ((lc B).natAbs : Int) * ps A = y
  refine PS.ext fun k => ?_
  simp only [PS.c_add, PS.c_neg]
  omega
theorem rst_sb {A B : List Int} {a b : Nat} (hA : SBd a A) (hB : SBd b B) : SBd (a + (b + 1)) (rst A B) := fun k => by
  rw [cf_rst]
  have h1 := zl_mul (cf A k) ((lc B).natAbs : Int)
  have h2 : zl ((lc B).natAbs : Int) ≤ b := by
    have : zl ((lc B).natAbs : Int) = zl (lc B) := by unfold zl; rw [Int.natAbs_natCast]
    rw [this]; exact hB _
  have h3 := hA k
  have h4 : zl (if tz A - tz B ≤ k then (lc B).sign * lc A * cf B (k - (tz A - tz B)) else 0) ≤ a + b := by
    split
    · have h5 := zl_mul ((lc B).sign * lc A) (cf B (k - (tz A - tz B)))
      have h6 : zl ((lc B).sign * lc A) ≤ zl (lc A) := by
        refine zl_le.mpr (Nat.lt_of_le_of_lt ?_ (zl_le.mp (Nat.le_refl _)))
        rw [Int.natAbs_mul]
        have : (lc B).sign.natAbs ≤ 1 := by
          rcases Int.lt_trichotomy (lc B) 0 with h | h | h
          · rw [Int.sign_eq_neg_one_of_neg h]; decide
          · rw [h]; decide
          · rw [Int.sign_eq_one_of_pos h]; decide
        have := Nat.mul_le_mul_right (lc A).natAbs this
        omega
      have h7 : zl (lc A) ≤ a := hA _
      have h8 := hB (k - (tz A - tz B))
      omega
    · rw [zl_zero]; omega
  have h9 := zl_add (cf A k * ((lc B).natAbs : Int)) (-(if tz A - tz B ≤ k then (lc B).sign * lc A * cf B (k - (tz A - tz B)) else 0))
  rw [zl_neg, ← Int.sub_eq_add_neg] at h9
  omega
theorem rrs_tz {B : List Int} (hB : tz B ≠ 0) : ∀ (n : Nat) (A : List Int), tz A < tz B + n → tz (rrs B n A) < tz B
  | 0, A, h => by simpa [rrs] using h
  | n + 1, A, h => by
    rw [rrs]
    split
    · rename_i h1
      have := rst_tz hB h1
      exact rrs_tz hB n _ (by omega)
    · omega
theorem rrs_eq {B : List Int} (hB : tz B ≠ 0) : ∀ (n : Nat) (A : List Int), ∃ (c : Int) (Q : List Int), c ≠ 0 ∧ ps Q * ps B + ps (rrs B n A) = PS.C c * ps A
  | 0, A => ⟨1, [], by decide, by rw [ps_nil, PS.zero_mul, PS.zero_add, PS.C_one, PS.one_mul]; rfl⟩
  | n + 1, A => by
    rw [rrs]
    split
    · obtain ⟨c, Q, hc, e⟩ := rrs_eq hB n (rst A B)
      have e2 := rst_eq A B
      have hl := lc_ne0 hB
      refine ⟨c * ((lc B).natAbs : Int), padd Q (pscale c (mono (tz A - tz B) ((lc B).sign * lc A))), Int.mul_ne_zero hc (by omega), ?_⟩
      rw [PS.C_mul, PS.mul_assoc, ← e2, ps_padd, ps_pscale, PS.add_mul, PS.mul_add, ← e, PS.mul_assoc]
      generalize ps Q * ps B = x
      generalize PS.C c * (ps (mono (tz A - tz B) ((lc B).sign * lc A)) * ps B) = y
      ac_rfl
    · exact ⟨1, [], by decide, by rw [ps_nil, PS.zero_mul, PS.zero_add, PS.C_one, PS.one_mul]⟩
theorem rrs_sb {B : List Int} {b : Nat} (hB : SBd b B) : ∀ (n a : Nat) (A : List Int), SBd a A → SBd (a + n * (b + 1)) (rrs B n A)
  | 0, a, A, h => by rw [Nat.zero_mul, Nat.add_zero]; exact h
  | n + 1, a, A, h => by
    rw [rrs]
    split
    · have := rrs_sb hB n _ _ (rst_sb h hB)
      exact this.mono (by rw [Nat.succ_mul]; omega)
    · exact h.mono (by omega)
def rre (A B : List Int) : List Int := rrs B (dxp A B) A
theorem EI.step' {D S : Nat} {X Y R : List Int} (h : EI D S X Y) (h0 : tz Y ≠ 0) (ht : tz R < tz Y) (hs : ∀ a b, SBd a X → SBd b Y → SBd (a + dxp X Y * (b + 1)) R) : EI D S Y (npr R) := by
  have hx := h.x
  have hy := h.y
  refine ⟨h.y, by rw [tz_npr]; omega, .inr ⟨by rw [tz_npr]; omega, ?_⟩⟩
  have norm : tz Y < tz X → SBd (EZ S (D - tz X)) X → SBd (EZ S (D - tz X + 1)) Y → SBd (EZ S (D - tz Y)) Y ∧ SBd (EZ S (D - tz Y + 1)) (npr R) := fun l a b => by
    refine ⟨b.mono (EZ.mono S (by omega)), sb_npr ((hs _ _ a b).mono ?_)⟩
    have g := EZ.grow S (D - tz X) (tz X - tz Y - 1)
    rw [show tz X - tz Y - 1 + 2 = dxp X Y by unfold dxp; omega, show D - tz X + 2 + (tz X - tz Y - 1) = D - tz Y + 1 by omega] at g
    exact g
  rcases h.s with ⟨a, b⟩ | ⟨l, a, b⟩
  · by_cases l : tz Y < tz X
    · exact norm l (a.mono (EZ.mono S (i := 0) (by omega))) (b.mono (EZ.mono S (i := 0) (by omega)))
    · refine ⟨b.mono (EZ.mono S (i := 0) (by omega)), sb_npr ((hs _ _ a b).mono ?_)⟩
      have g : EZ S 1 ≤ EZ S (D - tz Y + 1) := EZ.mono S (by omega)
      have e1 : EZ S 1 = 2 * S + 1 := rfl
      have hd : dxp X Y ≤ 1 := by unfold dxp; omega
      have := Nat.mul_le_mul_right (S + 1) hd
      omega
  · exact norm l a b
end Go.Proofs.YtdmodmcaahmgmaaGreat

namespace Go.Proofs.YtdmodmcaahmgmaaGreat
open Go Go.Proofs Go.AL
set_option linter.unusedSimpArgs false
set_option linter.unusedVariables false
theorem lim_canon (z : Int) : (canon z).2 = wd z.natAbs := rfl
theorem canon_sg (z : Int) : (canon z).1 = decide (z < 0) := rfl
theorem rep_cn (n : Nat) (q : List Int) : raws (List.replicate n (false, [])) ++ cpoly q = raws ((List.replicate n 0 ++ trimz q).map canon) := by
  rw [List.map_append, ← rep_canon]
  simp [raws, cpoly]
theorem cpoly_r2 (q : List Int) : (∀ r ∈ cpoly q, r.length = 2) ↔ True := by simp [cpoly, raws, prow]
set_option maxRecDepth 100000 in
set_option maxHeartbeats 1000000 in
theorem trest_ok (p q : List RI) (a b : Nat) (hp : RP 40 a p) (hq : RP 40 b q) (h0 : tz (pv q) ≠ 0) (ha : a ≤ 2 ^ 27) (hb : b ≤ 2 ^ 27) : AC Tryz.prog 66 [cw p, cw q] none [cp (rre (trimz (pv p)) (trimz (pv q)))] := by
  have n1 := tN_ok p (hp.mono (by omega) (by omega))
  have n2 := tN_ok q (hq.mono (by omega) (by omega))
  have sP := sb_rp hp
  have sQ := sb_rp hq
  have tP := tz_rp hp
  have tQ := tz_rp hq
  generalize pv p = P at *
  generalize pv q = Q at *
  rw [show cp P = cp (trimz P) from cp_ext fun k => (cf_trimz P k).symm] at n1
  rw [show cp Q = cp (trimz Q) from cp_ext fun k => (cf_trimz Q k).symm] at n2
  have hAs0 : SBd a (trimz P) := fun i => by rw [cf_trimz]; exact sP i
  have hBs : SBd b (trimz Q) := fun i => by rw [cf_trimz]; exact sQ i
  have tA0 : tz (trimz P) ≤ 40 := by rw [tz_trimz]; exact tP
  have tB : tz (trimz Q) ≤ 40 := by rw [tz_trimz]; exact tQ
  have hB0 : tz (trimz Q) ≠ 0 := by rw [tz_trimz]; exact h0
  have trA0 := trimz_trimz P
  have trB := trimz_trimz Q
  generalize trimz P = A0 at *
  generalize hBe : trimz Q = B at *
  have hL0 := lc_ne0 hB0
  have hatB := cpoly_at (q := B) (i := tz B - 1) (by omega)
  rw [show cf B (tz B - 1) = lc B from rfl] at hatB
  have e2 : ((tz B : Nat) : Int) - 1 = ((tz B - 1 : Nat) : Int) := by omega
  have hLz : zl (lc B) ≤ 2 ^ 27 := Nat.le_trans (hBs _) hb
  have ri := rI_ok false (canon (lc B)).2 (lim_wd _) (by have : (wd (lc B).natAbs).length ≤ 2 ^ 27 := hLz; rw [lim_canon]; omega)
  rw [lim_canon, nv_wd, show sg false (lc B).natAbs = ((lc B).natAbs : Int) from rfl] at ri
  have hdx : dxp A0 B ≤ 41 := by unfold dxp; omega
  have hK : a + dxp A0 B * (b + 1) ≤ 2 ^ 34 := by
    have := Nat.mul_le_mul_right (b + 1) hdx
    omega
  have hnat : zl ((lc B).natAbs : Int) ≤ 2 ^ 27 := by unfold zl; rw [Int.natAbs_natCast]; exact hLz
  refine AC.by_walk (rs := [.tmp 4]) ords Tryz.func66 (by rfl) (by rfl) (by rfl) (by rfl) (by rfl) ?_
  simp (disch := omega) only [wk, tis, seval, reduceCtorEq, Nat.reduceEqDiff, cpoly_len, cpoly_r2]
  refine call_by (n1) (by rfl) (by simp) ?_
  simp (disch := omega) only [wk, tis, seval, reduceCtorEq, Nat.reduceEqDiff, cpoly_len, cpoly_r2]
  refine call_by (n2) (by first | rfl | (simp only [tocvs, tocv, e2, hatB]; rfl) | (simp only [tocvs, tocv, toboxes, tobox, updH_at, Nat.reduceEqDiff, ↓reduceIte, e2, hatB]; rfl)) (by simp) ?_
  simp (disch := omega) only [wk, tis, seval, reduceCtorEq, Nat.reduceEqDiff, cpoly_len, cpoly_r2, e2, hatB]
  refine call_by (ri) (by first | rfl | (simp only [tocvs, tocv, e2, hatB]; rfl) | (simp only [tocvs, tocv, toboxes, tobox, updH_at, Nat.reduceEqDiff, ↓reduceIte, e2, hatB]; rfl)) (by simp) ?_
  simp (disch := omega) only [wk, tis, seval, reduceCtorEq, Nat.reduceEqDiff, cpoly_len, cpoly_r2, e2, hatB]
  refine aloop_by (fun f H => ∃ (n s5 s6 : Nat) (A : List Int), rrs B n A = rre A0 B ∧ tz A < tz B + n ∧ SBd (a + (dxp A0 B - n) * (b + 1)) A ∧ trimz A = A ∧ (n ≤ dxp A0 B ∧ tz A ≤ 40) ∧ f 0 = .iv (.sl (cpoly A)) ∧ f 1 = .iv (.sl (cpoly B)) ∧ f 5 = .hp 5 s5 0 0 ∧ f 6 = .hp 6 s6 0 0 ∧ H 5 = .blk false s5 50 2 [prow (canon (lc B))] ∧ H 6 = .blk false s6 50 2 [prow (canon ((lc B).natAbs : Int))]) (fun f H => match f 0 with | .iv (.sl l) => l.length | _ => 0) ?_ ?_
  · refine ⟨dxp A0 B, 1, 1, A0, rfl, by unfold dxp; omega, by rw [Nat.sub_self, Nat.zero_mul, Nat.add_zero]; exact hAs0, trA0, ⟨Nat.le_refl _, tA0⟩, ?_⟩
    simp (disch := omega) only [wk, tis, seval, reduceCtorEq, Nat.reduceEqDiff, cpoly_len, cpoly_r2]
    try rfl
  rintro f H ⟨n, s5, s6, A, hR, ht, hAs, trA, ⟨hn, tA⟩, hF⟩
  have hmu : (match f 0 with | .iv (.sl l) => l.length | _ => 0) = tz A := by rw [hF.1]; simp only []; rw [cpoly_len]
  rw [hmu]
  by_cases hge : tz B ≤ tz A
  · obtain ⟨m, rfl⟩ : ∃ m, n = m + 1 := ⟨n - 1, by omega⟩
    have hge' : (tz B : Int) ≤ (tz A : Int) := by omega
    rw [rrs, if_pos hge] at hR
    have hst := rst_tz hB0 hge
    have hsb := rst_sb hAs hBs
    have hKm : a + (dxp A0 B - (m + 1)) * (b + 1) ≤ 2 ^ 34 := by
      have := Nat.mul_le_mul_right (b + 1) (show dxp A0 B - (m + 1) ≤ dxp A0 B by omega)
      omega
    have ebd : a + (dxp A0 B - (m + 1)) * (b + 1) + (b + 1) = a + (dxp A0 B - m) * (b + 1) := by
      rw [show dxp A0 B - m = (dxp A0 B - (m + 1)) + 1 by omega, Nat.succ_mul]; omega
    rw [ebd] at hsb
    have hat := cpoly_at (q := A) (i := tz A - 1) (by omega)
    rw [show cf A (tz A - 1) = lc A from rfl] at hat
    have e1 : ((tz A : Nat) : Int) - 1 = ((tz A - 1 : Nat) : Int) := by omega
    have e3 : ((tz A : Nat) : Int) - ((tz B : Nat) : Int) = ((tz A - tz B : Nat) : Int) := by omega
    have rA := rp_sb tA hAs
    have rB := rp_sb tB hBs
    have hlA : zl (lc A) ≤ 2 ^ 34 := Nat.le_trans (hAs _) hKm
    have by2 := tby_g (p := cn A) (c := ((lc B).natAbs : Int)) (q := A) (rA.mono (by omega) (by omega)) (by omega) (ps_cn _)
    have s1 : SBd (2 ^ 36) (pscale ((lc B).natAbs : Int) A) := fun i => by
      rw [cf_pscale]
      have h1 := zl_mul (cf A i) ((lc B).natAbs : Int)
      have h2 := hAs i
      omega
    have ng := rneg_ok (canon (lc A)) ((sz_canon _).mono (by omega))
    rw [iv_canon] at ng
    have hrep := rep_cn (tz A - tz B)
    have fin : ∀ c : Int, c = (lc B).sign * lc A → zl c ≤ 2 ^ 34 ∧ AC Tryz.prog 111 [cw (cn B), cz c] none [cp (pscale c B)] ∧ AC Tryz.prog 113 [cp (pscale ((lc B).natAbs : Int) A), cw ((List.replicate (tz A - tz B) 0 ++ trimz (pscale c B)).map canon)] none [cp (rst A B)] := fun c hc => by
      have hcz : zl c ≤ 2 ^ 34 := by
        rcases Int.lt_trichotomy (lc B) 0 with h | h | h
        · rw [hc, Int.sign_eq_neg_one_of_neg h, Int.neg_mul, Int.one_mul, zl_neg]; exact hlA
        · exact absurd h hL0
        · rw [hc, Int.sign_eq_one_of_pos h, Int.one_mul]; exact hlA
      refine ⟨hcz, tby_g (p := cn B) (c := c) (q := B) (rB.mono (by omega) (by omega)) (by omega) (ps_cn _), ?_⟩
      have epv : ps (pv ((List.replicate (tz A - tz B) 0 ++ trimz (pscale c B)).map canon)) = ps (pmul (mono (tz A - tz B) c) B) := PS.ext fun k => by
        rw [pv_canon, ps_c, ps_c, cf_mono_mul]
        by_cases hk : tz A - tz B ≤ k
        · rw [if_pos hk]
          have : cf (List.replicate (tz A - tz B) 0 ++ trimz (pscale c B)) k = cf (trimz (pscale c B)) (k - (tz A - tz B)) := by
            simp [cf, List.getD, List.getElem?_append_right, hk]
          rw [this, cf_trimz, cf_pscale, Int.mul_comm]
        · rw [if_neg hk]
          have : cf (List.replicate (tz A - tz B) 0 ++ trimz (pscale c B)) k = cf (List.replicate (tz A - tz B) 0) k := by
            simp [cf, List.getD, List.getElem?_append_left, show k < tz A - tz B by omega]
          rw [this, cf_rep]
      have rr : RP (2 ^ 30) (2 ^ 35) ((List.replicate (tz A - tz B) 0 ++ trimz (pscale c B)).map canon) := RP.canon ⟨by
        have h1 := tz_scale_le c B
        rw [List.length_append, List.length_replicate, trimz_len]
        omega, fun z hz => by
        rcases List.mem_append.1 hz with hz | hz
        · rw [List.eq_of_mem_replicate hz, zl_zero]; omega
        · obtain ⟨i, hi, rfl⟩ := List.getElem_of_mem hz
          have h1 : (trimz (pscale c B))[i] = cf (pscale c B) i := by rw [← cf_trimz (pscale c B) i]; simp [cf, List.getD, hi]
          rw [h1, cf_pscale]
          have h2 := zl_mul (cf B i) c
          have h3 := hBs i
          omega⟩
      have ls := tless_ok (a := cn (pscale ((lc B).natAbs : Int) A)) (A := pscale ((lc B).natAbs : Int) A) (B := pmul (mono (tz A - tz B) c) B) ((rp_sb (D := 40) (Nat.le_trans (tz_scale_le _ A) tA) s1).mono (by omega) (by omega)) rr (ps_cn _) epv
      rw [hc] at ls ⊢
      rwa [show cp (padd (pscale ((lc B).natAbs : Int) A) (pscale (-1) (pmul (mono (tz A - tz B) ((lc B).sign * lc A)) B))) = cp (rst A B) from cp_ext fun k => (cf_trimz _ k).symm] at ls
    by_cases hneg : lc B < 0
    · obtain ⟨zc, by1, ls⟩ := fin (-(lc A)) (by rw [Int.sign_eq_neg_one_of_neg hneg]; omega)
      simp (disch := omega) only [wk, tis, seval, reduceCtorEq, Nat.reduceEqDiff, cpoly_len, cpoly_r2, hF, hge', e1, hat, e3, canon_sg, hneg]
      refine call_by (ng) (by first | rfl | (simp only [tocvs, tocv, hF, hge', e1, hat, e3]; rfl) | (simp only [tocvs, tocv, toboxes, tobox, updH_at, Nat.reduceEqDiff, ↓reduceIte, hF, hge', e1, hat, e3]; rfl)) (by simp) ?_
      simp (disch := omega) only [wk, tis, seval, reduceCtorEq, Nat.reduceEqDiff, cpoly_len, cpoly_r2, hF, hge', e1, hat, e3]
      refine ⟨tmps_by (by kernel_rfl), ?_⟩
      have htz := Nat.le_trans (tz_scale_le (-(lc A)) B) tB
      refine call_by (by1) (by first | rfl | (simp only [tocvs, tocv, hF, hge', e1, hat, e3, hrep]; rfl) | (simp only [tocvs, tocv, toboxes, tobox, updH_at, Nat.reduceEqDiff, ↓reduceIte, hF, hge', e1, hat, e3, hrep]; rfl)) (by simp) ?_
      simp (disch := omega) only [wk, tis, seval, reduceCtorEq, Nat.reduceEqDiff, cpoly_len, cpoly_r2, hF, hge', e1, hat, e3, hrep]
      first | exact log_by (by kernel_rfl) | refine ⟨log_by (by kernel_rfl), ?_⟩
      refine call_by (by2) (by first | rfl | (simp only [tocvs, tocv, hF, hrep]; rfl) | (simp only [tocvs, tocv, toboxes, tobox, updH_at, Nat.reduceEqDiff, ↓reduceIte, hF, hrep]; rfl)) (by simp) ?_
      simp (disch := omega) only [wk, tis, seval, reduceCtorEq, Nat.reduceEqDiff, cpoly_len, cpoly_r2, hF, hrep]
      refine call_by (ls) (by first | rfl | (simp only [tocvs, tocv, hF, hrep]; rfl) | (simp only [tocvs, tocv, toboxes, tobox, updH_at, Nat.reduceEqDiff, ↓reduceIte, hF, hrep]; rfl)) (by simp) ?_
      simp (disch := omega) only [wk, tis, seval, reduceCtorEq, Nat.reduceEqDiff, cpoly_len, cpoly_r2, hF, hrep]
      refine ⟨⟨m, s5, s6, rst A B, hR, by omega, hsb, trimz_trimz _, ⟨by omega, by omega⟩, ?_⟩, hst⟩
      try (repeat' apply And.intro) <;> first | rfl | omega
    · obtain ⟨zc, by1, ls⟩ := fin (lc A) (by rw [Int.sign_eq_one_of_pos (by omega)]; omega)
      simp (disch := omega) only [wk, tis, seval, reduceCtorEq, Nat.reduceEqDiff, cpoly_len, cpoly_r2, hF, hge', e1, hat, e3, canon_sg, hneg]
      refine ⟨tmps_by (by kernel_rfl), ?_⟩
      have htz := Nat.le_trans (tz_scale_le (lc A) B) tB
      refine call_by (by1) (by first | rfl | (simp only [tocvs, tocv, hF, hge', e1, hat, e3, hrep]; rfl) | (simp only [tocvs, tocv, toboxes, tobox, updH_at, Nat.reduceEqDiff, ↓reduceIte, hF, hge', e1, hat, e3, hrep]; rfl)) (by simp) ?_
      simp (disch := omega) only [wk, tis, seval, reduceCtorEq, Nat.reduceEqDiff, cpoly_len, cpoly_r2, hF, hge', e1, hat, e3, hrep]
      first | exact log_by (by kernel_rfl) | refine ⟨log_by (by kernel_rfl), ?_⟩
      refine call_by (by2) (by first | rfl | (simp only [tocvs, tocv, hF, hrep]; rfl) | (simp only [tocvs, tocv, toboxes, tobox, updH_at, Nat.reduceEqDiff, ↓reduceIte, hF, hrep]; rfl)) (by simp) ?_
      simp (disch := omega) only [wk, tis, seval, reduceCtorEq, Nat.reduceEqDiff, cpoly_len, cpoly_r2, hF, hrep]
      refine call_by (ls) (by first | rfl | (simp only [tocvs, tocv, hF, hrep]; rfl) | (simp only [tocvs, tocv, toboxes, tobox, updH_at, Nat.reduceEqDiff, ↓reduceIte, hF, hrep]; rfl)) (by simp) ?_
      simp (disch := omega) only [wk, tis, seval, reduceCtorEq, Nat.reduceEqDiff, cpoly_len, cpoly_r2, hF, hrep]
      refine ⟨⟨m, s5, s6, rst A B, hR, by omega, hsb, trimz_trimz _, ⟨by omega, by omega⟩, ?_⟩, hst⟩
      try (repeat' apply And.intro) <;> first | rfl | omega
  · have hge' : ¬ (tz B : Int) ≤ (tz A : Int) := by omega
    have e : rrs B n A = A := by
      cases n with
      | zero => rfl
      | succ n => rw [rrs, if_neg hge]
    rw [← hR, e]
    simp (disch := omega) only [wk, tis, seval, reduceCtorEq, Nat.reduceEqDiff, cpoly_len, cpoly_r2, hF, hge']
    try rfl
theorem rre_facts {X Y : List Int} (h0 : tz Y ≠ 0) : tz (rre X Y) < tz Y ∧ (∃ (c : Int) (Q : List Int), c ≠ 0 ∧ ps Q * ps Y + ps (rre X Y) = PS.C c * ps X) ∧ ∀ a b, SBd a X → SBd b Y → SBd (a + dxp X Y * (b + 1)) (rre X Y) :=
  ⟨rrs_tz h0 _ _ (by unfold dxp; omega), rrs_eq h0 _ _, fun a b ha hb => rrs_sb hb _ _ _ ha⟩
set_option maxRecDepth 100000 in
theorem tgcd14_ok (p q : List RI) (D S : Nat) (hp : RP 40 S p) (hq : RP 40 S q) (tp : tz (pv p) ≤ D) (tq : tz (pv q) ≤ D) (hD : D ≤ 40) (hE : EZ S D ≤ 2 ^ 27) :
    AC Tryz.prog 26 [cw p, cw q] none [cp (gcdp (pv p) (pv q))] := by
  have hS : S ≤ 2 ^ 27 := Nat.le_trans (EZ.mono S (i := 0) (by omega)) hE
  have pp := tpart14_g (p := p) (A := pv p) (hp.mono (by omega) (by omega)) rfl
  have pq := tpart14_g (p := q) (A := pv q) (hq.mono (by omega) (by omega)) rfl
  have ei0 : EI D S (npr (pv p)) (npr (pv q)) := EI.start tp tq (sb_rp hp) (sb_rp hq)
  have gg0 : ∀ G, GG G (npr (pv p)) (npr (pv q)) → GG G (pv p) (pv q) := fun G h => h.as (.refl _) (as_npr _).symm (as_npr _).symm
  have t0 := npr_trim (pv p)
  have t0' := npr_trim (pv q)
  have f0 := nf_npr (pv p)
  have f0' := nf_npr (pv q)
  generalize hA : pv p = A at *
  generalize hB : pv q = B at *
  generalize npr A = X0 at *
  generalize npr B = Y0 at *
  refine AC.by_walk (rs := [.tmp 4]) ords Tryz.func26 (by rfl) (by rfl) (by rfl) (by rfl) (by rfl) ?_
  simp (disch := omega) only [wk, tis, seval, reduceCtorEq, Nat.reduceEqDiff, cpoly_len, cpoly_r2]
  refine call_by (pp) (by rfl) (by simp) ?_
  simp (disch := omega) only [wk, tis, seval, reduceCtorEq, Nat.reduceEqDiff, cpoly_len, cpoly_r2]
  refine call_by (pq) (by rfl) (by simp) ?_
  simp (disch := omega) only [wk, tis, seval, reduceCtorEq, Nat.reduceEqDiff, cpoly_len, cpoly_r2]
  refine aloop_by (fun f H => ∃ (X Y : List Int), (∀ G, GG G X Y → GG G A B) ∧ trimz X = X ∧ trimz Y = Y ∧ Nf X ∧ Nf Y ∧ EI D S X Y ∧ f 0 = .iv (.sl (cpoly X)) ∧ f 1 = .iv (.sl (cpoly Y))) (fun f H => match f 1 with | .iv (.sl l) => l.length | _ => 0) ?_ ?_
  · refine ⟨X0, Y0, gg0, t0, t0', f0, f0', ei0, ?_⟩
    simp (disch := omega) only [wk, tis, seval, reduceCtorEq, Nat.reduceEqDiff, cpoly_len, cpoly_r2]
    try exact ⟨rfl, rfl⟩
  rintro f H ⟨X, Y, gg, tX, tY, nX, nY, ei, g0, g1⟩
  have hmu : (match f 1 with | .iv (.sl l) => l.length | _ => 0) = tz Y := by rw [g1]; simp only []; rw [cpoly_len]
  rw [hmu]
  obtain ⟨sX, sY⟩ := ei.bd
  have hx := ei.x
  have hy := ei.y
  by_cases h0 : tz Y = 0
  · have e := gcdp_eq (gg X (.zero h0)) nX
    have e' : cpoly X = cpoly (gcdp A B) := by
      have := cp_ps e
      exact cpoly_ext (ps_eq e)
    rw [e'] at g0
    simp (disch := omega) only [wk, tis, seval, reduceCtorEq, Nat.reduceEqDiff, cpoly_len, cpoly_r2, g0, g1, h0]
    try rfl
  · have h0' : (0 : Int) < (tz Y : Int) := by omega
    obtain ⟨r1, ⟨c, Q, hc, r2⟩, r3⟩ := rre_facts (X := X) h0
    have rr := trest_ok (cn X) (cn Y) (EZ S D) (EZ S D) ((rp_sb hx sX).mono hD (Nat.le_refl _)) ((rp_sb hy sY).mono hD (Nat.le_refl _)) (by rw [pv_cnt tY]; exact h0) hE hE
    rw [pv_cnt tX, pv_cnt tY, tX, tY] at rr
    have hdx : dxp X Y ≤ 41 := by unfold dxp; omega
    have hdm : dxp X Y * (EZ S D + 1) ≤ 41 * (EZ S D + 1) := Nat.mul_le_mul_right _ hdx
    have pr := tpart14_g (p := cn (rre X Y)) (A := rre X Y) ((rp_sb (D := 40) (k := 2 ^ 35) (by omega) ((r3 _ _ sX sY).mono (by omega))).mono (by omega) (by omega)) (ps_cn _)
    have ht := tz_npr (rre X Y)
    simp (disch := omega) only [wk, tis, seval, reduceCtorEq, Nat.reduceEqDiff, cpoly_len, cpoly_r2, g0, g1, h0']
    refine call_by (rr) (by first | rfl | (simp only [tocvs, tocv, g0, g1, h0']; rfl) | (simp only [tocvs, tocv, toboxes, tobox, updH_at, Nat.reduceEqDiff, ↓reduceIte, g0, g1, h0']; rfl)) (by simp) ?_
    simp (disch := omega) only [wk, tis, seval, reduceCtorEq, Nat.reduceEqDiff, cpoly_len, cpoly_r2, g0, g1, h0']
    refine call_by (pr) (by first | rfl | (simp only [tocvs, tocv, g0, g1, h0']; rfl) | (simp only [tocvs, tocv, toboxes, tobox, updH_at, Nat.reduceEqDiff, ↓reduceIte, g0, g1, h0']; rfl)) (by simp) ?_
    simp (disch := omega) only [wk, tis, seval, reduceCtorEq, Nat.reduceEqDiff, cpoly_len, cpoly_r2, g0, g1, h0']
    refine ⟨⟨Y, npr (rre X Y), fun G h => gg G ((h.as (.refl _) (.refl _) (as_npr _).symm).step hc r2), tY, npr_trim _, nY, nf_npr _, ei.step' h0 r1 r3, ?_⟩, by omega⟩
    try (repeat' apply And.intro) <;> first | rfl | omega
theorem tgcd14_g {p q : List RI} {A B : List Int} (D S : Nat) (hp : RP 40 S p) (hq : RP 40 S q) (ea : ps (pv p) = ps A) (eb : ps (pv q) = ps B) (tp : tz A ≤ D) (tq : tz B ≤ D) (hD : D ≤ 40) (hE : EZ S D ≤ 2 ^ 27) :
    AC Tryz.prog 26 [cw p, cw q] none [cp (gcdp A B)] := by
  have h := tgcd14_ok p q D S hp hq (by rw [tz_of_ps ea]; exact tp) (by rw [tz_of_ps eb]; exact tq) hD hE
  rwa [cp_ps (gcdp_as (.of_ps ea) (.of_ps eb))] at h
end Go.Proofs.YtdmodmcaahmgmaaGreat
