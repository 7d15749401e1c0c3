/-
  Contracts of the functions that the law reaches.
-/
import Derived.Test.YthgecppfgdadiaaGreatL51M
import Derived.Test.YthgecppfgdadiaaGreatL36M
namespace Go.Proofs.YthgecppfgdadiaaGreat
open Go Go.Proofs Go.AL
set_option linter.unusedSimpArgs false
set_option linter.unusedVariables false

theorem rExact_ok (a b : RI) (ha : Sz (2 ^ 38) a) (hb : Sz (2 ^ 38) b) (h0 : iv b ≠ 0) (hd : iv b ∣ iv a) : AC Tryz.prog 74 [cr a, cr b] none [cz (iv a / iv b)] := by
  refine AC.by_walk (rs := [.cell 4 27]) ords Tryz.func74 (by rfl) (by rfl) (by rfl) (by rfl) (by rfl) ?_
  rw [iv_sg, iv_sg] at hd
  rw [iv_sg] at h0
  have hm := sg_dvd.mp hd
  have hn : nv b.2 ≠ 0 := fun h => h0 (by rw [h]; cases b.1 <;> rfl)
  have m := rQuo_ok a.2 b.2 ha.2 hb.2 ha.1 hb.1 hn
  have hl : (wd (nv a.2 / nv b.2)).length ≤ 2 ^ 38 := Nat.le_trans (Nat.le_trans (wd_len_mono (Nat.div_le_self _ _)) (nv_len ha.2)) ha.1
  have i1 := rI_ok (a.1 != b.1) (wd (nv a.2 / nv b.2)) (lim_wd _) (by omega)
  rw [nv_wd] at i1
  rw [iv_sg, iv_sg, (sg_div hm).1]
  simp (disch := omega) only [wk, tis, Int.reduceNe, Int.reduceEq, Int.reduceLT, Int.reduceLE, Int.reduceAdd, Int.reduceSub, Int.reduceNeg, Int.reduceMul, Int.reduceToNat, Nat.reduceSub, Nat.reduceMul, Nat.reduceLeDiff, Nat.reduceAdd, Nat.reduceLT, Nat.reduceEqDiff, reduceCtorEq, ↓reduceIte, cpoly_len]
  refine call_by (m) (by rfl) (by simp) ?_
  simp (disch := omega) only [wk, tis, Int.reduceNe, Int.reduceEq, Int.reduceLT, Int.reduceLE, Int.reduceAdd, Int.reduceSub, Int.reduceNeg, Int.reduceMul, Int.reduceToNat, Nat.reduceSub, Nat.reduceMul, Nat.reduceLeDiff, Nat.reduceAdd, Nat.reduceLT, Nat.reduceEqDiff, reduceCtorEq, ↓reduceIte, cpoly_len]
  refine call_by (i1) (by rfl) (by simp) ?_
  simp (disch := omega) only [wk, tis, Int.reduceNe, Int.reduceEq, Int.reduceLT, Int.reduceLE, Int.reduceAdd, Int.reduceSub, Int.reduceNeg, Int.reduceMul, Int.reduceToNat, Nat.reduceSub, Nat.reduceMul, Nat.reduceLeDiff, Nat.reduceAdd, Nat.reduceLT, Nat.reduceEqDiff, reduceCtorEq, ↓reduceIte, cpoly_len]

/-- A slot of digits, as a number. -/
def digAt (f : Fr) (t : Nat) : Nat := match f t with
  | .iv (.sl rows) => vl D16 (rows.map fun r => match r with | [.int _ n] => n.toNat | _ => 0)
  | _ => 0

theorem digAt_of {f : Fr} {t : Nat} {l : List Nat} (h : f t = .iv (.sl (nums l))) : digAt f t = vl D16 l := by
  unfold digAt
  rw [h]
  simp only [nums, List.map_map]
  congr 1
  conv => rhs; rw [← List.map_id l]
  exact List.map_congr_left fun x _ => by simp

theorem dgD_mono {a b : Nat} (h : a ≤ b) : (dgD a).length ≤ (dgD b).length := by
  have h1 := vlD_lt (dgD_dig b)
  rw [vl_dgD] at h1
  exact (dg_length_le two_le_D (dgD b).length (n := a)).mpr (Nat.lt_of_le_of_lt h h1)

theorem rGcd_ok (a b : List Nat) (ha : Lim a) (hb : Lim b) (hla : a.length ≤ 2 ^ 38) (hlb : b.length ≤ 2 ^ 38) : AC Tryz.prog 83 [cl a, cl b] none [cl (wd (Nat.gcd (nv a) (nv b)))] := by
  refine AC.by_walk (rs := [.tmp 4]) ords Tryz.func83 (by rfl) (by rfl) (by rfl) (by rfl) (by rfl) ?_
  obtain ⟨x, y, s, h1, h2⟩ := rones_ok a b 63 ha hb (by omega) (by omega) (by omega)
  have h3 := dgD_len ha
  have h4 := dgD_len hb
  simp (disch := omega) only [wk, tis, Int.reduceNe, Int.reduceEq, Int.reduceLT, Int.reduceLE, Int.reduceAdd, Int.reduceSub, Int.reduceNeg, Int.reduceMul, Int.reduceToNat, Nat.reduceSub, Nat.reduceMul, Nat.reduceLeDiff, Nat.reduceAdd, Nat.reduceLT, Nat.reduceEqDiff, reduceCtorEq, ↓reduceIte, cpoly_len]
  refine call_by (h1) (by rfl) (by simp) ?_
  simp (disch := omega) only [wk, tis, Int.reduceNe, Int.reduceEq, Int.reduceLT, Int.reduceLE, Int.reduceAdd, Int.reduceSub, Int.reduceNeg, Int.reduceMul, Int.reduceToNat, Nat.reduceSub, Nat.reduceMul, Nat.reduceLeDiff, Nat.reduceAdd, Nat.reduceLT, Nat.reduceEqDiff, reduceCtorEq, ↓reduceIte, cpoly_len]
  cases s with
  | true =>
    obtain ⟨rfl, rfl, b1, b2⟩ := h2 rfl
    clear h1 h2
    generalize nv a = x at *
    generalize nv b = y at *
    refine aloop_by (fun f H => ∃ (u v : Nat), Nat.gcd u v = Nat.gcd x y ∧ u < 2 ^ 63 ∧ v < 2 ^ 63 ∧ f 6 = .iv (.int .u64 v) ∧ f 5 = .iv (.int .u64 u) ∧ f 7 = .iv (.bool true)) (fun f H => (intAt f 6).toNat) ?_ ?_
    · refine ⟨x, y, rfl, b1, b2, ?_⟩
      simp (disch := omega) only [wk, tis, Int.reduceNe, Int.reduceEq, Int.reduceLT, Int.reduceLE, Int.reduceAdd, Int.reduceSub, Int.reduceNeg, Int.reduceMul, Int.reduceToNat, Nat.reduceSub, Nat.reduceMul, Nat.reduceLeDiff, Nat.reduceAdd, Nat.reduceLT, Nat.reduceEqDiff, reduceCtorEq, ↓reduceIte, cpoly_len]
    rintro f H ⟨u, v, hg, hu, hv, hF⟩
    rw [intAt_of hF.1]
    simp (disch := omega) only [wk, tis, Int.reduceNe, Int.reduceEq, Int.reduceLT, Int.reduceLE, Int.reduceAdd, Int.reduceSub, Int.reduceNeg, Int.reduceMul, Int.reduceToNat, Nat.reduceSub, Nat.reduceMul, Nat.reduceLeDiff, Nat.reduceAdd, Nat.reduceLT, Nat.reduceEqDiff, reduceCtorEq, ↓reduceIte, cpoly_len, hF]
    by_cases hp : 0 < v
    · have hp' : (0 : Int) < (v : Int) := by omega
      have e2 : ((u : Nat) : Int).tmod ((v : Nat) : Int) = ((u % v : Nat) : Int) := by rw [Int.tmod_eq_emod_of_nonneg (by omega)]; rfl
      have hlt := Nat.mod_lt u hp
      generalize hr : u % v = r at *
      simp (disch := omega) only [wk, tis, Int.reduceNe, Int.reduceEq, Int.reduceLT, Int.reduceLE, Int.reduceAdd, Int.reduceSub, Int.reduceNeg, Int.reduceMul, Int.reduceToNat, Nat.reduceSub, Nat.reduceMul, Nat.reduceLeDiff, Nat.reduceAdd, Nat.reduceLT, Nat.reduceEqDiff, reduceCtorEq, ↓reduceIte, cpoly_len, hF, hp', e2]
      refine ⟨tmps_by (by kernel_rfl), ?_⟩
      first | exact log_by (by kernel_rfl) | refine ⟨log_by (by kernel_rfl), ?_⟩
      refine ⟨⟨v, r, ?_, hv, by omega, rfl, rfl⟩, by omega⟩
      rw [← hg, ← hr, Nat.gcd_comm u v, Nat.gcd_rec v u, Nat.gcd_comm]
    · obtain rfl : v = 0 := by omega
      rw [Nat.gcd_zero_right] at hg
      subst hg
      simp (disch := omega) only [wk, tis, Int.reduceNe, Int.reduceEq, Int.reduceLT, Int.reduceLE, Int.reduceAdd, Int.reduceSub, Int.reduceNeg, Int.reduceMul, Int.reduceToNat, Nat.reduceSub, Nat.reduceMul, Nat.reduceLeDiff, Nat.reduceAdd, Nat.reduceLT, Nat.reduceEqDiff, reduceCtorEq, ↓reduceIte, cpoly_len, hF]
      refine call_by ((rof_ok (Nat.gcd x y) (by simp only [W]; omega))) (by first | rfl | (simp only [tocvs, tocv, hF]; rfl) | (simp only [tocvs, tocv, toboxes, tobox, updH_at, Nat.reduceEqDiff, ↓reduceIte, hF]; rfl)) (by simp) ?_
      simp (disch := omega) only [wk, tis, Int.reduceNe, Int.reduceEq, Int.reduceLT, Int.reduceLE, Int.reduceAdd, Int.reduceSub, Int.reduceNeg, Int.reduceMul, Int.reduceToNat, Nat.reduceSub, Nat.reduceMul, Nat.reduceLeDiff, Nat.reduceAdd, Nat.reduceLT, Nat.reduceEqDiff, reduceCtorEq, ↓reduceIte, cpoly_len, hF]
  | false =>
    clear h2
    refine aloop_by (fun f H => True ∧ f 6 = .iv (.int .u64 y) ∧ f 5 = .iv (.int .u64 x) ∧ f 7 = .iv (.bool false) ∧ f 0 = .iv (.sl (lims a)) ∧ f 1 = .iv (.sl (lims b))) (fun f H => (intAt f 6).toNat) ?_ ?_
    · refine ⟨trivial, ?_⟩
      simp (disch := omega) only [wk, tis, Int.reduceNe, Int.reduceEq, Int.reduceLT, Int.reduceLE, Int.reduceAdd, Int.reduceSub, Int.reduceNeg, Int.reduceMul, Int.reduceToNat, Nat.reduceSub, Nat.reduceMul, Nat.reduceLeDiff, Nat.reduceAdd, Nat.reduceLT, Nat.reduceEqDiff, reduceCtorEq, ↓reduceIte, cpoly_len]
    rintro f H ⟨_, hF⟩
    rw [intAt_of hF.1]
    simp (disch := omega) only [wk, tis, Int.reduceNe, Int.reduceEq, Int.reduceLT, Int.reduceLE, Int.reduceAdd, Int.reduceSub, Int.reduceNeg, Int.reduceMul, Int.reduceToNat, Nat.reduceSub, Nat.reduceMul, Nat.reduceLeDiff, Nat.reduceAdd, Nat.reduceLT, Nat.reduceEqDiff, reduceCtorEq, ↓reduceIte, cpoly_len, hF]
    refine call_by ((rdig_ok a ha (by omega))) (by first | rfl | (simp only [tocvs, tocv, hF]; rfl) | (simp only [tocvs, tocv, toboxes, tobox, updH_at, Nat.reduceEqDiff, ↓reduceIte, hF]; rfl)) (by simp) ?_
    simp (disch := omega) only [wk, tis, Int.reduceNe, Int.reduceEq, Int.reduceLT, Int.reduceLE, Int.reduceAdd, Int.reduceSub, Int.reduceNeg, Int.reduceMul, Int.reduceToNat, Nat.reduceSub, Nat.reduceMul, Nat.reduceLeDiff, Nat.reduceAdd, Nat.reduceLT, Nat.reduceEqDiff, reduceCtorEq, ↓reduceIte, cpoly_len, hF]
    refine call_by ((rdig_ok b hb (by omega))) (by first | rfl | (simp only [tocvs, tocv, hF]; rfl) | (simp only [tocvs, tocv, toboxes, tobox, updH_at, Nat.reduceEqDiff, ↓reduceIte, hF]; rfl)) (by simp) ?_
    simp (disch := omega) only [wk, tis, Int.reduceNe, Int.reduceEq, Int.reduceLT, Int.reduceLE, Int.reduceAdd, Int.reduceSub, Int.reduceNeg, Int.reduceMul, Int.reduceToNat, Nat.reduceSub, Nat.reduceMul, Nat.reduceLeDiff, Nat.reduceAdd, Nat.reduceLT, Nat.reduceEqDiff, reduceCtorEq, ↓reduceIte, cpoly_len, hF]
    generalize nv a = x1 at *
    generalize nv b = y1 at *
    refine aloop_by (fun f H => ∃ u v : Nat, Nat.gcd u v = Nat.gcd x1 y1 ∧ (dgD u).length ≤ 2 ^ 40 ∧ (dgD v).length ≤ 2 ^ 40 ∧ f 8 = .iv (.sl (nums (dgD u))) ∧ f 9 = .iv (.sl (nums (dgD v)))) (fun f H => digAt f 9) ?_ ?_
    · exact ⟨x1, y1, rfl, by omega, by omega, by simp (disch := omega) only [wk, tis, Int.reduceNe, Int.reduceEq, Int.reduceLT, Int.reduceLE, Int.reduceAdd, Int.reduceSub, Int.reduceNeg, Int.reduceMul, Int.reduceToNat, Nat.reduceSub, Nat.reduceMul, Nat.reduceLeDiff, Nat.reduceAdd, Nat.reduceLT, Nat.reduceEqDiff, reduceCtorEq, ↓reduceIte, cpoly_len]⟩
    clear hF
    rintro f H ⟨u, v, hg, hu, hv, hF⟩
    rw [digAt_of hF.2, vl_dgD]
    simp (disch := omega) only [wk, tis, Int.reduceNe, Int.reduceEq, Int.reduceLT, Int.reduceLE, Int.reduceAdd, Int.reduceSub, Int.reduceNeg, Int.reduceMul, Int.reduceToNat, Nat.reduceSub, Nat.reduceMul, Nat.reduceLeDiff, Nat.reduceAdd, Nat.reduceLT, Nat.reduceEqDiff, reduceCtorEq, ↓reduceIte, cpoly_len, hF]
    refine if_by (fun h => ?_) (fun h => ?_)
    · have h0 : v ≠ 0 := fun h1 => by rw [h1, dgD_len_zero.mpr rfl] at h; simp at h
      obtain ⟨q, q1, q2, q3, m⟩ := divide_g u v h0 (by omega) (by omega)
      have hlt := Nat.mod_lt u (Nat.pos_of_ne_zero h0)
      have hml := dgD_mono (Nat.le_of_lt hlt)
      have mc := rcut_ok (dgD (u % v)) (by omega)
      rw [dgD_of (dgD_dig _), vl_dgD] at mc
      simp (disch := omega) only [wk, tis, Int.reduceNe, Int.reduceEq, Int.reduceLT, Int.reduceLE, Int.reduceAdd, Int.reduceSub, Int.reduceNeg, Int.reduceMul, Int.reduceToNat, Nat.reduceSub, Nat.reduceMul, Nat.reduceLeDiff, Nat.reduceAdd, Nat.reduceLT, Nat.reduceEqDiff, reduceCtorEq, ↓reduceIte, cpoly_len, hF]
      refine call_by (m) (by first | rfl | (simp only [tocvs, tocv, hF]; rfl) | (simp only [tocvs, tocv, toboxes, tobox, updH_at, Nat.reduceEqDiff, ↓reduceIte, hF]; rfl)) (by simp) ?_
      simp (disch := omega) only [wk, tis, Int.reduceNe, Int.reduceEq, Int.reduceLT, Int.reduceLE, Int.reduceAdd, Int.reduceSub, Int.reduceNeg, Int.reduceMul, Int.reduceToNat, Nat.reduceSub, Nat.reduceMul, Nat.reduceLeDiff, Nat.reduceAdd, Nat.reduceLT, Nat.reduceEqDiff, reduceCtorEq, ↓reduceIte, cpoly_len, hF]
      refine call_by (mc) (by first | rfl | (simp only [tocvs, tocv, hF]; rfl) | (simp only [tocvs, tocv, toboxes, tobox, updH_at, Nat.reduceEqDiff, ↓reduceIte, hF]; rfl)) (by simp) ?_
      simp (disch := omega) only [wk, tis, Int.reduceNe, Int.reduceEq, Int.reduceLT, Int.reduceLE, Int.reduceAdd, Int.reduceSub, Int.reduceNeg, Int.reduceMul, Int.reduceToNat, Nat.reduceSub, Nat.reduceMul, Nat.reduceLeDiff, Nat.reduceAdd, Nat.reduceLT, Nat.reduceEqDiff, reduceCtorEq, ↓reduceIte, cpoly_len, hF]
      rw [digAt_of rfl, vl_dgD]
      exact ⟨⟨v, u % v, by rw [← hg, Nat.gcd_comm u v, Nat.gcd_rec v u, Nat.gcd_comm], hv, by omega, rfl, rfl⟩, hlt⟩
    · have h0 : v = 0 := dgD_len_zero.mp (by omega)
      subst h0
      rw [Nat.gcd_zero_right] at hg
      subst hg
      have mn := rnumber_ok (dgD (Nat.gcd x1 y1)) (dgD_dig _) (by omega)
      rw [vl_dgD] at mn
      simp (disch := omega) only [wk, tis, Int.reduceNe, Int.reduceEq, Int.reduceLT, Int.reduceLE, Int.reduceAdd, Int.reduceSub, Int.reduceNeg, Int.reduceMul, Int.reduceToNat, Nat.reduceSub, Nat.reduceMul, Nat.reduceLeDiff, Nat.reduceAdd, Nat.reduceLT, Nat.reduceEqDiff, reduceCtorEq, ↓reduceIte, cpoly_len, hF]
      refine call_by (mn) (by first | rfl | (simp only [tocvs, tocv, hF]; rfl) | (simp only [tocvs, tocv, toboxes, tobox, updH_at, Nat.reduceEqDiff, ↓reduceIte, hF]; rfl)) (by simp) ?_
      simp (disch := omega) only [wk, tis, Int.reduceNe, Int.reduceEq, Int.reduceLT, Int.reduceLE, Int.reduceAdd, Int.reduceSub, Int.reduceNeg, Int.reduceMul, Int.reduceToNat, Nat.reduceSub, Nat.reduceMul, Nat.reduceLeDiff, Nat.reduceAdd, Nat.reduceLT, Nat.reduceEqDiff, reduceCtorEq, ↓reduceIte, cpoly_len, hF]

theorem sover_zero (p : List RI) (c : RI) (hc : Sz (2 ^ 38) c) (h0 : iv c = 0) : AC Tryz.prog 32 [cw p, cr c] none [cw [], ci 1] := by
  refine AC.by_walk (rs := [.tmp 4, .tmp 5]) ords Tryz.func32 (by rfl) (by rfl) (by rfl) (by rfl) (by rfl) ?_
  simp (disch := omega) only [wk, tis, Int.reduceNe, Int.reduceEq, Int.reduceLT, Int.reduceLE, Int.reduceAdd, Int.reduceSub, Int.reduceNeg, Int.reduceMul, Int.reduceToNat, Nat.reduceSub, Nat.reduceMul, Nat.reduceLeDiff, Nat.reduceAdd, Nat.reduceLT, Nat.reduceEqDiff, reduceCtorEq, ↓reduceIte, cpoly_len]
  have hs := rSign_ok c (hc.mono (by omega))
  rw [h0, Int.sign_zero] at hs
  refine call_by (hs) (by rfl) (by simp) ?_
  simp (disch := omega) only [wk, tis, Int.reduceNe, Int.reduceEq, Int.reduceLT, Int.reduceLE, Int.reduceAdd, Int.reduceSub, Int.reduceNeg, Int.reduceMul, Int.reduceToNat, Nat.reduceSub, Nat.reduceMul, Nat.reduceLeDiff, Nat.reduceAdd, Nat.reduceLT, Nat.reduceEqDiff, reduceCtorEq, ↓reduceIte, cpoly_len]

/-- .. as far as the first that doesn't divide. -/
theorem sover_gen (p : List RI) (c : RI) (hp : RP (2 ^ 30) (2 ^ 35) p) (hc : Sz (2 ^ 35) c) (h0 : iv c ≠ 0) (res : List CV)
    (hgood : (∀ k, iv c ∣ cf (pv p) k) → res = [cp (pdivs (iv c) (pv p)), ci 0]) (hbad : (¬ ∀ k, iv c ∣ cf (pv p) k) → res = [cw [], ci 4]) : AC Tryz.prog 32 [cw p, cr c] none res := by
  refine AC.by_walk (rs := [.tmp 4, .tmp 5]) ords Tryz.func32 (by rfl) (by rfl) (by rfl) (by rfl) (by rfl) ?_
  have hl := hp.1
  have hs0 : (iv c).sign ≠ 0 := fun h => h0 (Int.sign_eq_zero_iff_zero.mp h)
  have hn : nv c.2 ≠ 0 := fun h => h0 (by rw [iv_sg, h]; cases c.1 <;> rfl)
  simp (disch := omega) only [wk, tis, Int.reduceNe, Int.reduceEq, Int.reduceLT, Int.reduceLE, Int.reduceAdd, Int.reduceSub, Int.reduceNeg, Int.reduceMul, Int.reduceToNat, Nat.reduceSub, Nat.reduceMul, Nat.reduceLeDiff, Nat.reduceAdd, Nat.reduceLT, Nat.reduceEqDiff, reduceCtorEq, ↓reduceIte, cpoly_len]
  refine call_by ((rSign_ok c (hc.mono (by omega)))) (by rfl) (by simp) ?_
  simp (disch := omega) only [wk, tis, Int.reduceNe, Int.reduceEq, Int.reduceLT, Int.reduceLE, Int.reduceAdd, Int.reduceSub, Int.reduceNeg, Int.reduceMul, Int.reduceToNat, Nat.reduceSub, Nat.reduceMul, Nat.reduceLeDiff, Nat.reduceAdd, Nat.reduceLT, Nat.reduceEqDiff, reduceCtorEq, ↓reduceIte, cpoly_len]
  simp (disch := omega) only [wk, tis, Int.reduceNe, Int.reduceEq, Int.reduceLT, Int.reduceLE, Int.reduceAdd, Int.reduceSub, Int.reduceNeg, Int.reduceMul, Int.reduceToNat, Nat.reduceSub, Nat.reduceMul, Nat.reduceLeDiff, Nat.reduceAdd, Nat.reduceLT, Nat.reduceEqDiff, reduceCtorEq, ↓reduceIte, cpoly_len, hs0]
  refine aloop_nil 6 6 27 2 (by simp (disch := omega) only [wk, tis, Int.reduceNe, Int.reduceEq, Int.reduceLT, Int.reduceLE, Int.reduceAdd, Int.reduceSub, Int.reduceNeg, Int.reduceMul, Int.reduceToNat, Nat.reduceSub, Nat.reduceMul, Nat.reduceLeDiff, Nat.reduceAdd, Nat.reduceLT, Nat.reduceEqDiff, reduceCtorEq, ↓reduceIte, cpoly_len]) (fun f H => ∃ (i st st3 : Nat), i ≤ p.length ∧ (∀ k, k < i → iv c ∣ cf (pv p) k) ∧ f 7 = .iv (.int .i64 i) ∧ f 0 = .iv (.sl (raws p)) ∧ f 3 = .hp 3 st3 0 0 ∧ f 6 = .hs 6 st ∧ H 6 = .blk false st 27 2 (raws (((pdivs (iv c) (pv p)).take i).map canon)) ∧ H 3 = .blk false st3 27 2 [prow c]) (fun f H => (p.length - intAt f 7).toNat) ?_ ?_
  · refine ⟨0, 1, 1, by omega, fun k hk => by omega, ?_⟩
    simp (disch := omega) only [wk, tis, Int.reduceNe, Int.reduceEq, Int.reduceLT, Int.reduceLE, Int.reduceAdd, Int.reduceSub, Int.reduceNeg, Int.reduceMul, Int.reduceToNat, Nat.reduceSub, Nat.reduceMul, Nat.reduceLeDiff, Nat.reduceAdd, Nat.reduceLT, Nat.reduceEqDiff, reduceCtorEq, ↓reduceIte, cpoly_len, ghostF, ghostH, List.take_zero]
  rintro f H ⟨i, st, st3, hi, hv, hF⟩
  rw [intAt_of hF.1]
  simp (disch := omega) only [wk, tis, Int.reduceNe, Int.reduceEq, Int.reduceLT, Int.reduceLE, Int.reduceAdd, Int.reduceSub, Int.reduceNeg, Int.reduceMul, Int.reduceToNat, Nat.reduceSub, Nat.reduceMul, Nat.reduceLeDiff, Nat.reduceAdd, Nat.reduceLT, Nat.reduceEqDiff, reduceCtorEq, ↓reduceIte, cpoly_len, hF]
  refine if_by (fun hlt => ?_) (fun hlt => ?_)
  · have hci := hp.get i
    have hq : (((pdivs (iv c) (pv p)).take i).map canon).length = i := by rw [List.length_map, List.length_take, pdivs, List.length_map, pv_len]; omega
    have hmd : nv (p.getD i (false, [])).2 % nv c.2 = 0 ↔ iv c ∣ cf (pv p) i := by rw [cf_pv, iv_sg, iv_sg (p.getD i (false, [])), sg_dvd]
    have m := rQuo_ok (p.getD i (false, [])).2 c.2 hci.2 hc.2 (by have := hci.1; omega) (by have := hc.1; omega) hn
    have hrl : (wd (nv (p.getD i (false, [])).2 % nv c.2)).length ≤ 2 ^ 40 := by
      have := wd_len_mono (Nat.mod_le (nv (p.getD i (false, [])).2) (nv c.2))
      have := nv_len hci.2
      have := hci.1
      omega
    have mz := rZero_ok (wd (nv (p.getD i (false, [])).2 % nv c.2)) (lim_wd _) hrl
    rw [nv_wd] at mz
    simp (disch := omega) only [wk, tis, Int.reduceNe, Int.reduceEq, Int.reduceLT, Int.reduceLE, Int.reduceAdd, Int.reduceSub, Int.reduceNeg, Int.reduceMul, Int.reduceToNat, Nat.reduceSub, Nat.reduceMul, Nat.reduceLeDiff, Nat.reduceAdd, Nat.reduceLT, Nat.reduceEqDiff, reduceCtorEq, ↓reduceIte, cpoly_len, hF, hq]
    refine ⟨tmps_by (by kernel_rfl), ?_⟩
    refine call_by (m) (by first | rfl | (simp only [tocvs, tocv, hF, hq]; rfl) | (simp only [tocvs, tocv, toboxes, tobox, updH_at, Nat.reduceEqDiff, ↓reduceIte, hF, hq]; rfl)) (by simp) ?_
    simp (disch := omega) only [wk, tis, Int.reduceNe, Int.reduceEq, Int.reduceLT, Int.reduceLE, Int.reduceAdd, Int.reduceSub, Int.reduceNeg, Int.reduceMul, Int.reduceToNat, Nat.reduceSub, Nat.reduceMul, Nat.reduceLeDiff, Nat.reduceAdd, Nat.reduceLT, Nat.reduceEqDiff, reduceCtorEq, ↓reduceIte, cpoly_len, hF, hq]
    first | exact log_by (by kernel_rfl) | refine ⟨log_by (by kernel_rfl), ?_⟩
    refine call_by (mz) (by first | rfl | (simp only [tocvs, tocv, hF, hq]; rfl) | (simp only [tocvs, tocv, toboxes, tobox, updH_at, Nat.reduceEqDiff, ↓reduceIte, hF, hq]; rfl)) (by simp) ?_
    simp (disch := omega) only [wk, tis, Int.reduceNe, Int.reduceEq, Int.reduceLT, Int.reduceLE, Int.reduceAdd, Int.reduceSub, Int.reduceNeg, Int.reduceMul, Int.reduceToNat, Nat.reduceSub, Nat.reduceMul, Nat.reduceLeDiff, Nat.reduceAdd, Nat.reduceLT, Nat.reduceEqDiff, reduceCtorEq, ↓reduceIte, cpoly_len, hF, hq]
    by_cases hdv : nv (p.getD i (false, [])).2 % nv c.2 = 0
    · have hdi := hmd.mp hdv
      rw [cf_pv] at hdi
      have me := rExact_ok (p.getD i (false, [])) c (hci.mono (by omega)) (hc.mono (by omega)) h0 hdi
      rw [← cf_pv] at me
      simp (disch := omega) only [wk, tis, Int.reduceNe, Int.reduceEq, Int.reduceLT, Int.reduceLE, Int.reduceAdd, Int.reduceSub, Int.reduceNeg, Int.reduceMul, Int.reduceToNat, Nat.reduceSub, Nat.reduceMul, Nat.reduceLeDiff, Nat.reduceAdd, Nat.reduceLT, Nat.reduceEqDiff, reduceCtorEq, ↓reduceIte, cpoly_len, hF, hq, hdv]
      refine ⟨tmps_by (by kernel_rfl), ?_⟩
      refine call_by (me) (by first | rfl | (simp only [tocvs, tocv, hF, hq, hdv]; rfl) | (simp only [tocvs, tocv, toboxes, tobox, updH_at, Nat.reduceEqDiff, ↓reduceIte, hF, hq, hdv]; rfl)) (by simp) ?_
      simp (disch := omega) only [wk, tis, Int.reduceNe, Int.reduceEq, Int.reduceLT, Int.reduceLE, Int.reduceAdd, Int.reduceSub, Int.reduceNeg, Int.reduceMul, Int.reduceToNat, Nat.reduceSub, Nat.reduceMul, Nat.reduceLeDiff, Nat.reduceAdd, Nat.reduceLT, Nat.reduceEqDiff, reduceCtorEq, ↓reduceIte, cpoly_len, hF, hq, hdv]
      first | exact log_by (by kernel_rfl) | refine ⟨log_by (by kernel_rfl), ?_⟩
      refine ⟨⟨i + 1, st + 1, st3, by omega, fun k hk => ?_, ?_⟩, by omega⟩
      · rcases Nat.lt_or_ge k i with hk' | hk'
        · exact hv k hk'
        · obtain rfl : k = i := by omega
          rw [cf_pv]; exact hdi
      · have e : (pdivs (iv c) (pv p)).take (i + 1) = (pdivs (iv c) (pv p)).take i ++ [cf (pv p) i / iv c] := by
          rw [List.take_add_one]; congr 1
          rw [← cf_pdivs]; simp [cf, List.getD, show i < (pdivs (iv c) (pv p)).length by rw [pdivs, List.length_map, pv_len]; omega]
        rw [e]
        exact ⟨by omega, rfl, rfl, rfl, rfl⟩
    · obtain rfl := hbad (fun h => hdv (hmd.mpr (h i)))
      simp (disch := omega) only [wk, tis, Int.reduceNe, Int.reduceEq, Int.reduceLT, Int.reduceLE, Int.reduceAdd, Int.reduceSub, Int.reduceNeg, Int.reduceMul, Int.reduceToNat, Nat.reduceSub, Nat.reduceMul, Nat.reduceLeDiff, Nat.reduceAdd, Nat.reduceLT, Nat.reduceEqDiff, reduceCtorEq, ↓reduceIte, cpoly_len, hF, hq, hdv]
  · obtain rfl : i = p.length := by omega
    have hall : ∀ k, iv c ∣ cf (pv p) k := fun k => by
      rcases Nat.lt_or_ge k p.length with hk | hk
      · exact hv k hk
      · rw [cf_ge (by rw [pv_len]; omega)]; exact Int.dvd_zero _
    obtain rfl := hgood hall
    rw [List.take_of_length_le (by rw [pdivs, List.length_map, pv_len]; exact Nat.le_refl _)] at hF
    have mn := snorm_ok ((pdivs (iv c) (pv p)).map canon) (RP.canon (.of (by rw [pdivs, List.length_map, pv_len]; omega) fun k => by
      rw [cf_pdivs]
      have := zl_div (hall k)
      have := hp.pv.cf k
      omega))
    rw [pv_canon] at mn
    simp (disch := omega) only [wk, tis, Int.reduceNe, Int.reduceEq, Int.reduceLT, Int.reduceLE, Int.reduceAdd, Int.reduceSub, Int.reduceNeg, Int.reduceMul, Int.reduceToNat, Nat.reduceSub, Nat.reduceMul, Nat.reduceLeDiff, Nat.reduceAdd, Nat.reduceLT, Nat.reduceEqDiff, reduceCtorEq, ↓reduceIte, cpoly_len, hF]
    refine call_by (mn) (by first | rfl | (simp only [tocvs, tocv, hF]; rfl) | (simp only [tocvs, tocv, toboxes, tobox, updH_at, Nat.reduceEqDiff, ↓reduceIte, hF]; rfl)) (by simp) ?_
    simp (disch := omega) only [wk, tis, Int.reduceNe, Int.reduceEq, Int.reduceLT, Int.reduceLE, Int.reduceAdd, Int.reduceSub, Int.reduceNeg, Int.reduceMul, Int.reduceToNat, Nat.reduceSub, Nat.reduceMul, Nat.reduceLeDiff, Nat.reduceAdd, Nat.reduceLT, Nat.reduceEqDiff, reduceCtorEq, ↓reduceIte, cpoly_len, hF]
end Go.Proofs.YthgecppfgdadiaaGreat

namespace Go.Proofs.YthgecppfgdadiaaGreat
open Go Go.Proofs Go.AL
set_option linter.unusedSimpArgs false
set_option linter.unusedVariables false

/-- Numbers of at most k words, at most n of them. -/
def NP (n k : Nat) (l : List (List Nat)) : Prop := l.length ≤ n ∧ ∀ a ∈ l, Lim a ∧ a.length ≤ k

theorem NP.get {n k : Nat} {l : List (List Nat)} (h : NP n k l) (i : Nat) : Lim (l.getD i []) ∧ (l.getD i []).length ≤ k := by
  by_cases hi : i < l.length
  · have e : l.getD i [] = l[i] := by simp [List.getD, hi]
    rw [e]; exact h.2 _ (List.getElem_mem hi)
  · rw [List.getD_eq_getElem?_getD, List.getElem?_eq_none (by omega)]
    exact ⟨Lim.nil, by simp⟩

def nsum (l : List (List Nat)) : Nat := l.foldl (fun s a => s + nv a) 0

theorem nsum_take {l : List (List Nat)} {i : Nat} (h : i < l.length) : nsum (l.take (i + 1)) = nsum (l.take i) + nv (l.getD i []) := by
  have e : l.take (i + 1) = l.take i ++ [l.getD i []] := by
    rw [List.take_add_one]; congr 1; simp [List.getD, h]
  rw [e, nsum, List.foldl_append]; rfl

theorem nsum_len {n k : Nat} {l : List (List Nat)} (h : NP n k l) : ∀ i, i ≤ l.length → (wd (nsum (l.take i))).length ≤ k + i
  | 0, _ => by simp [nsum, wd_zero]
  | i + 1, hi => by
    have h1 := nsum_len h i (by omega)
    have e : l.getD i [] = l[i] := by simp [List.getD, show i < l.length by omega]
    obtain ⟨h2, h3⟩ := h.2 l[i] (List.getElem_mem (by omega))
    have h4 := nv_len h2
    rw [nsum_take (by omega), e]
    have := wd_add_len (nsum (l.take i)) (nv l[i])
    omega

theorem nsum_snd (p : List RI) : nsum (p.map (·.2)) = wgt (pv p) := by
  unfold nsum wgt pv
  rw [List.foldl_map, List.foldl_map]
  congr 1
  funext s c
  rw [iv_abs]

theorem wgt_len {n k : Nat} {p : List RI} (h : RP n k p) (i : Nat) (hi : i ≤ p.length) : (wd (wgt ((pv p).take i))).length ≤ k + i := by
  have := nsum_len (n := n) (k := k) (l := p.map (·.2)) ⟨by simpa using h.1, fun a ha => by
      obtain ⟨c, hc, rfl⟩ := List.mem_map.mp ha
      exact ⟨(h.2 c hc).2, (h.2 c hc).1⟩⟩ i (by simpa using hi)
  rw [← List.map_take, nsum_snd] at this
  rwa [show pv (p.take i) = (pv p).take i by simp [pv, List.map_take]] at this

theorem pv_cn (q : List Int) : pv (cn q) = trimz q := by rw [cn, pv_canon]

theorem zl_ite {z : Int} {c : Prop} [Decidable c] {k : Nat} (h : zl z ≤ k) : zl (if c then 0 else z) ≤ k := by
  split
  · rw [zl_zero]; omega
  · exact h

theorem sameint_g {a b : Int} (e : a = b) (h : zl a ≤ 2 ^ 43) : AC Tryz.prog 38 [cz a, cz b] none [cb true] := by
  subst e
  have := rSameInt_ok (canon a) (canon a) h h
  rwa [decide_eq_true rfl] at this

theorem samenat_g {a : Nat} (h : (wd a).length ≤ 2 ^ 43) : AC Tryz.prog 79 [cl (wd a), cl (wd a)] none [cb true] := by
  have := rSame_ok (wd a) (wd a) h h
  rwa [decide_eq_true rfl] at this

/-- A case of the layer 9. -/
abbrev case9' (A B C : List RI) (K : RI) (N : Int) : List IV := [.sl (raws A), .sl (raws B), .sl (raws C), .bool K.1, .sl (lims K.2), .int .i64 N]

theorem hgt_len {n k : Nat} {p : List RI} (h : RP n k p) : ∀ i, i ≤ p.length → (wd (hgt ((pv p).take i))).length ≤ k
  | 0, _ => by simp [hgt, wd_zero]
  | i + 1, hi => by
    have h1 := hgt_len h i (by omega)
    have h2 := h.get i
    have h3 := nv_len h2.2
    have h4 := h2.1
    rw [hgt_take (by rw [pv_len]; omega), cf_pv, iv_abs]
    rcases Nat.le_total (hgt ((pv p).take i)) (nv (p.getD i (false, [])).2) with h | h
    · rw [Nat.max_eq_right h]; omega
    · rw [Nat.max_eq_left h]; omega

end Go.Proofs.YthgecppfgdadiaaGreat

namespace Go.Proofs.YthgecppfgdadiaaGreat
open Go Go.Proofs Go.AL
set_option linter.unusedSimpArgs false
set_option linter.unusedVariables false

theorem pover_bad (p : List RI) (c : RI) (hp : RP (2 ^ 30) (2 ^ 35) p) (hc : Sz (2 ^ 35) c) (h0 : iv c ≠ 0) (hb : ¬ ∀ k, iv c ∣ cf (pv p) k) : AC Tryz.prog 33 [cw p, cr c] none [cw [], ci 4] := by
  refine AC.by_walk (rs := [.tmp 4, .tmp 5]) ords Tryz.func33 (by rfl) (by rfl) (by rfl) (by rfl) (by rfl) ?_
  have hl := hp.1
  have hs0 : (iv c).sign ≠ 0 := fun h => h0 (Int.sign_eq_zero_iff_zero.mp h)
  simp (disch := omega) only [wk, tis, Int.reduceNe, Int.reduceEq, Int.reduceLT, Int.reduceLE, Int.reduceAdd, Int.reduceSub, Int.reduceNeg, Int.reduceMul, Int.reduceToNat, Nat.reduceSub, Nat.reduceMul, Nat.reduceLeDiff, Nat.reduceAdd, Nat.reduceLT, Nat.reduceEqDiff, reduceCtorEq, ↓reduceIte, cpoly_len]
  refine call_by ((zsign_ok c (hc.mono (by omega)))) (by rfl) (by simp) ?_
  simp (disch := omega) only [wk, tis, Int.reduceNe, Int.reduceEq, Int.reduceLT, Int.reduceLE, Int.reduceAdd, Int.reduceSub, Int.reduceNeg, Int.reduceMul, Int.reduceToNat, Nat.reduceSub, Nat.reduceMul, Nat.reduceLeDiff, Nat.reduceAdd, Nat.reduceLT, Nat.reduceEqDiff, reduceCtorEq, ↓reduceIte, cpoly_len]
  simp (disch := omega) only [wk, tis, Int.reduceNe, Int.reduceEq, Int.reduceLT, Int.reduceLE, Int.reduceAdd, Int.reduceSub, Int.reduceNeg, Int.reduceMul, Int.reduceToNat, Nat.reduceSub, Nat.reduceMul, Nat.reduceLeDiff, Nat.reduceAdd, Nat.reduceLT, Nat.reduceEqDiff, reduceCtorEq, ↓reduceIte, cpoly_len, hs0]
  refine aloop_by (fun f H => ∃ (i st st3 : Nat) (out : List RI), i ≤ p.length ∧ out.length = p.length ∧ (∀ k, k < i → iv c ∣ cf (pv p) k) ∧ f 18 = .iv (.int .i64 i) ∧ f 0 = .iv (.sl (raws p)) ∧ f 3 = .hp 3 st3 0 0 ∧ f 6 = .hs 15 st ∧ f 17 = .iv (.int .i64 p.length) ∧ H 15 = .blk false st 27 2 (raws out) ∧ H 3 = .blk false st3 27 2 [prow c]) (fun f H => (p.length - intAt f 18).toNat) ?_ ?_
  · refine ⟨0, 1, 1, List.replicate p.length (false, []), by omega, by simp, fun k hk => by omega, ?_⟩
    simp (disch := omega) only [wk, tis, Int.reduceNe, Int.reduceEq, Int.reduceLT, Int.reduceLE, Int.reduceAdd, Int.reduceSub, Int.reduceNeg, Int.reduceMul, Int.reduceToNat, Nat.reduceSub, Nat.reduceMul, Nat.reduceLeDiff, Nat.reduceAdd, Nat.reduceLT, Nat.reduceEqDiff, reduceCtorEq, ↓reduceIte, cpoly_len, Int.toNat_natCast]
  rintro f H ⟨i, st, st3, out, hi, hol, hv, hF⟩
  rw [intAt_of hF.1]
  simp (disch := omega) only [wk, tis, Int.reduceNe, Int.reduceEq, Int.reduceLT, Int.reduceLE, Int.reduceAdd, Int.reduceSub, Int.reduceNeg, Int.reduceMul, Int.reduceToNat, Nat.reduceSub, Nat.reduceMul, Nat.reduceLeDiff, Nat.reduceAdd, Nat.reduceLT, Nat.reduceEqDiff, reduceCtorEq, ↓reduceIte, cpoly_len, hF]
  refine if_by (fun hlt => ?_) (fun hlt => ?_)
  · by_cases hdv : iv c ∣ cf (pv p) i
    · have hdi := hdv
      rw [cf_pv] at hdi
      have m := zexact_ok (p.getD i (false, [])) c ((hp.get i).mono (by omega)) (hc.mono (by omega)) h0 hdi
      simp (disch := omega) only [wk, tis, Int.reduceNe, Int.reduceEq, Int.reduceLT, Int.reduceLE, Int.reduceAdd, Int.reduceSub, Int.reduceNeg, Int.reduceMul, Int.reduceToNat, Nat.reduceSub, Nat.reduceMul, Nat.reduceLeDiff, Nat.reduceAdd, Nat.reduceLT, Nat.reduceEqDiff, reduceCtorEq, ↓reduceIte, cpoly_len, hF]
      refine ⟨tmps_by (by kernel_rfl), ?_⟩
      refine call_by (m) (by first | rfl | (simp only [tocvs, tocv, hF]; rfl) | (simp only [tocvs, tocv, toboxes, tobox, updH_at, Nat.reduceEqDiff, ↓reduceIte, hF]; rfl)) (by simp) ?_
      simp (disch := omega) only [wk, tis, Int.reduceNe, Int.reduceEq, Int.reduceLT, Int.reduceLE, Int.reduceAdd, Int.reduceSub, Int.reduceNeg, Int.reduceMul, Int.reduceToNat, Nat.reduceSub, Nat.reduceMul, Nat.reduceLeDiff, Nat.reduceAdd, Nat.reduceLT, Nat.reduceEqDiff, reduceCtorEq, ↓reduceIte, cpoly_len, hF]
      first | exact log_by (by kernel_rfl) | refine ⟨log_by (by kernel_rfl), ?_⟩
      refine ⟨⟨i + 1, st, st3, out.set i (canon (iv (p.getD i (false, [])) / iv c)), by omega, by simpa using hol, fun k hk => ?_, by omega, rfl, rfl, rfl, rfl⟩, by omega⟩
      rcases Nat.lt_or_ge k i with hk' | hk'
      · exact hv k hk'
      · obtain rfl : k = i := by omega
        exact hdv
    · have hdi := hdv
      rw [cf_pv] at hdi
      have m := zexact_bad (p.getD i (false, [])) c ((hp.get i).mono (by omega)) (hc.mono (by omega)) h0 hdi
      simp (disch := omega) only [wk, tis, Int.reduceNe, Int.reduceEq, Int.reduceLT, Int.reduceLE, Int.reduceAdd, Int.reduceSub, Int.reduceNeg, Int.reduceMul, Int.reduceToNat, Nat.reduceSub, Nat.reduceMul, Nat.reduceLeDiff, Nat.reduceAdd, Nat.reduceLT, Nat.reduceEqDiff, reduceCtorEq, ↓reduceIte, cpoly_len, hF]
      refine ⟨tmps_by (by kernel_rfl), ?_⟩
      refine call_by (m) (by first | rfl | (simp only [tocvs, tocv, hF]; rfl) | (simp only [tocvs, tocv, toboxes, tobox, updH_at, Nat.reduceEqDiff, ↓reduceIte, hF]; rfl)) (by simp) ?_
      simp (disch := omega) only [wk, tis, Int.reduceNe, Int.reduceEq, Int.reduceLT, Int.reduceLE, Int.reduceAdd, Int.reduceSub, Int.reduceNeg, Int.reduceMul, Int.reduceToNat, Nat.reduceSub, Nat.reduceMul, Nat.reduceLeDiff, Nat.reduceAdd, Nat.reduceLT, Nat.reduceEqDiff, reduceCtorEq, ↓reduceIte, cpoly_len, hF]
      first | exact log_by (by kernel_rfl) | refine ⟨log_by (by kernel_rfl), ?_⟩
  · refine (hb fun k => ?_).elim
    rcases Nat.lt_or_ge k p.length with hk | hk
    · exact hv k (by omega)
    · rw [cf_ge (by rw [pv_len]; omega)]; exact Int.dvd_zero _

theorem sderiv_ok (p : List RI) (h : RP (2 ^ 30) (2 ^ 35) p) : AC Tryz.prog 37 [cw p] none [cp (pderiv (pv p))] := by
  refine AC.by_walk (rs := [.tmp 2]) ords Tryz.func37 (by rfl) (by rfl) (by rfl) (by rfl) (by rfl) ?_
  have hl := h.1
  have e0 : pderiv ((pv p).take 1) = [] := by
    simp only [pderiv]
    rw [show ((pv p).take 1).length - 1 = 0 by rw [List.length_take]; omega]; rfl
  simp (disch := omega) only [wk, tis, Int.reduceNe, Int.reduceEq, Int.reduceLT, Int.reduceLE, Int.reduceAdd, Int.reduceSub, Int.reduceNeg, Int.reduceMul, Int.reduceToNat, Nat.reduceSub, Nat.reduceMul, Nat.reduceLeDiff, Nat.reduceAdd, Nat.reduceLT, Nat.reduceEqDiff, reduceCtorEq, ↓reduceIte, cpoly_len]
  refine aloop_nil 3 3 27 2 (by simp (disch := omega) only [wk, tis, Int.reduceNe, Int.reduceEq, Int.reduceLT, Int.reduceLE, Int.reduceAdd, Int.reduceSub, Int.reduceNeg, Int.reduceMul, Int.reduceToNat, Nat.reduceSub, Nat.reduceMul, Nat.reduceLeDiff, Nat.reduceAdd, Nat.reduceLT, Nat.reduceEqDiff, reduceCtorEq, ↓reduceIte, cpoly_len]) (fun f H => ∃ (k st : Nat), 1 ≤ k ∧ (k ≤ p.length ∨ k = 1) ∧ f 4 = .iv (.int .i64 k) ∧ f 0 = .iv (.sl (raws p)) ∧ f 3 = .hs 3 st ∧ H 3 = .blk false st 27 2 (raws ((pderiv ((pv p).take k)).map canon))) (fun f H => (p.length - intAt f 4).toNat) ?_ ?_
  · refine ⟨1, 1, by omega, by omega, ?_⟩
    simp (disch := omega) only [wk, tis, Int.reduceNe, Int.reduceEq, Int.reduceLT, Int.reduceLE, Int.reduceAdd, Int.reduceSub, Int.reduceNeg, Int.reduceMul, Int.reduceToNat, Nat.reduceSub, Nat.reduceMul, Nat.reduceLeDiff, Nat.reduceAdd, Nat.reduceLT, Nat.reduceEqDiff, reduceCtorEq, ↓reduceIte, cpoly_len, ghostF, ghostH, e0, List.map_nil, raws_nil]
  rintro f H ⟨k, st, hk, hk2, hF⟩
  rw [intAt_of hF.1]
  simp (disch := omega) only [wk, tis, Int.reduceNe, Int.reduceEq, Int.reduceLT, Int.reduceLE, Int.reduceAdd, Int.reduceSub, Int.reduceNeg, Int.reduceMul, Int.reduceToNat, Nat.reduceSub, Nat.reduceMul, Nat.reduceLeDiff, Nat.reduceAdd, Nat.reduceLT, Nat.reduceEqDiff, reduceCtorEq, ↓reduceIte, cpoly_len, hF]
  refine if_by (fun hlt => ?_) (fun hlt => ?_)
  · have hq : ((pderiv ((pv p).take k)).map canon).length = k - 1 := by
      simp only [pderiv, List.length_map, List.length_range, List.length_take, pv_len]; omega
    have hz : zl (k : Int) ≤ 1 := zl_le.mpr (by simp only [W]; omega)
    have m := rMul_ok (p.getD k (false, [])) (canon k) ((h.get _).mono (by omega)) ((sz_canon _).mono (by omega))
    rw [iv_canon, ← cf_pv] at m
    simp (disch := omega) only [wk, tis, Int.reduceNe, Int.reduceEq, Int.reduceLT, Int.reduceLE, Int.reduceAdd, Int.reduceSub, Int.reduceNeg, Int.reduceMul, Int.reduceToNat, Nat.reduceSub, Nat.reduceMul, Nat.reduceLeDiff, Nat.reduceAdd, Nat.reduceLT, Nat.reduceEqDiff, reduceCtorEq, ↓reduceIte, cpoly_len, hF, hq]
    refine ⟨tmps_by (by kernel_rfl), ?_⟩
    refine call_by ((sZ_ok k (by omega) (by omega))) (by first | rfl | (simp only [tocvs, tocv, hF, hq]; rfl) | (simp only [tocvs, tocv, toboxes, tobox, updH_at, Nat.reduceEqDiff, ↓reduceIte, hF, hq]; rfl)) (by simp) ?_
    simp (disch := omega) only [wk, tis, Int.reduceNe, Int.reduceEq, Int.reduceLT, Int.reduceLE, Int.reduceAdd, Int.reduceSub, Int.reduceNeg, Int.reduceMul, Int.reduceToNat, Nat.reduceSub, Nat.reduceMul, Nat.reduceLeDiff, Nat.reduceAdd, Nat.reduceLT, Nat.reduceEqDiff, reduceCtorEq, ↓reduceIte, cpoly_len, hF, hq]
    refine call_by (m) (by first | rfl | (simp only [tocvs, tocv, hF, hq]; rfl) | (simp only [tocvs, tocv, toboxes, tobox, updH_at, Nat.reduceEqDiff, ↓reduceIte, hF, hq]; rfl)) (by simp) ?_
    simp (disch := omega) only [wk, tis, Int.reduceNe, Int.reduceEq, Int.reduceLT, Int.reduceLE, Int.reduceAdd, Int.reduceSub, Int.reduceNeg, Int.reduceMul, Int.reduceToNat, Nat.reduceSub, Nat.reduceMul, Nat.reduceLeDiff, Nat.reduceAdd, Nat.reduceLT, Nat.reduceEqDiff, reduceCtorEq, ↓reduceIte, cpoly_len, hF, hq]
    first | exact log_by (by kernel_rfl) | refine ⟨log_by (by kernel_rfl), ?_⟩
    refine ⟨⟨k + 1, st + 1, by omega, by omega, ?_⟩, by omega⟩
    rw [pderiv_take (by rw [pv_len]; omega) (by omega)]
    exact ⟨by omega, rfl, rfl⟩
  · have e : (pv p).take k = pv p := List.take_of_length_le (by rw [pv_len]; omega)
    rw [e] at hF
    have hb := (h.pv).pderiv (by decide : 2 ^ 30 < W)
    have mn := snorm_ok ((pderiv (pv p)).map canon) (RP.canon (hb.mono (by omega) (by omega)))
    rw [pv_canon] at mn
    simp (disch := omega) only [wk, tis, Int.reduceNe, Int.reduceEq, Int.reduceLT, Int.reduceLE, Int.reduceAdd, Int.reduceSub, Int.reduceNeg, Int.reduceMul, Int.reduceToNat, Nat.reduceSub, Nat.reduceMul, Nat.reduceLeDiff, Nat.reduceAdd, Nat.reduceLT, Nat.reduceEqDiff, reduceCtorEq, ↓reduceIte, cpoly_len, hF]
    refine call_by (mn) (by first | rfl | (simp only [tocvs, tocv, hF]; rfl) | (simp only [tocvs, tocv, toboxes, tobox, updH_at, Nat.reduceEqDiff, ↓reduceIte, hF]; rfl)) (by simp) ?_
    simp (disch := omega) only [wk, tis, Int.reduceNe, Int.reduceEq, Int.reduceLT, Int.reduceLE, Int.reduceAdd, Int.reduceSub, Int.reduceNeg, Int.reduceMul, Int.reduceToNat, Nat.reduceSub, Nat.reduceMul, Nat.reduceLeDiff, Nat.reduceAdd, Nat.reduceLT, Nat.reduceEqDiff, reduceCtorEq, ↓reduceIte, cpoly_len, hF]

theorem scontent_ok (p : List RI) (h : RP (2 ^ 30) (2 ^ 35) p) : AC Tryz.prog 40 [cw p] none [cz (cont (pv p))] := by
  refine AC.by_walk (rs := [.cell 2 27]) ords Tryz.func40 (by rfl) (by rfl) (by rfl) (by rfl) (by rfl) ?_
  have hl := h.1
  have hg := gz_len h
  have hs := rSign_ok (canon (lc (pv p))) ((sz_canon _).mono (by
    have := (h.pv).cf (tz (pv p) - 1)
    unfold lc
    omega))
  rw [iv_canon] at hs
  simp (disch := omega) only [wk, tis, Int.reduceNe, Int.reduceEq, Int.reduceLT, Int.reduceLE, Int.reduceAdd, Int.reduceSub, Int.reduceNeg, Int.reduceMul, Int.reduceToNat, Nat.reduceSub, Nat.reduceMul, Nat.reduceLeDiff, Nat.reduceAdd, Nat.reduceLT, Nat.reduceEqDiff, reduceCtorEq, ↓reduceIte, cpoly_len]
  refine aloop_w (.nilv 3 (by simp (disch := omega) only [wk, tis, Int.reduceNe, Int.reduceEq, Int.reduceLT, Int.reduceLE, Int.reduceAdd, Int.reduceSub, Int.reduceNeg, Int.reduceMul, Int.reduceToNat, Nat.reduceSub, Nat.reduceMul, Nat.reduceLeDiff, Nat.reduceAdd, Nat.reduceLT, Nat.reduceEqDiff, reduceCtorEq, ↓reduceIte, cpoly_len]) (.refl _ _)) (fun f H => ∃ (i : Nat), i ≤ p.length ∧ (wd (gz ((pv p).take i))).length ≤ 2 ^ 35 ∧ f 4 = .iv (.int .i64 i) ∧ f 0 = .iv (.sl (raws p)) ∧ f 3 = .iv (.sl (lims (wd (gz ((pv p).take i))))) ∧ f 2 = .hp 2 1 0 0 ∧ H 2 = .blk false 1 27 2 [prow (false, [])]) (fun f H => (p.length - intAt f 4).toNat) ?_ ?_
  · refine ⟨0, by omega, by rw [List.take_zero, gz, List.foldl_nil, wd_zero]; exact Nat.zero_le _, ?_⟩
    simp (disch := omega) only [wk, tis, Int.reduceNe, Int.reduceEq, Int.reduceLT, Int.reduceLE, Int.reduceAdd, Int.reduceSub, Int.reduceNeg, Int.reduceMul, Int.reduceToNat, Nat.reduceSub, Nat.reduceMul, Nat.reduceLeDiff, Nat.reduceAdd, Nat.reduceLT, Nat.reduceEqDiff, reduceCtorEq, ↓reduceIte, cpoly_len, List.take_zero, gz, List.foldl_nil, wd_zero, lims_nil]
  rintro f H ⟨i, hi, hsz, hF⟩
  rw [intAt_of hF.1]
  simp (disch := omega) only [wk, tis, Int.reduceNe, Int.reduceEq, Int.reduceLT, Int.reduceLE, Int.reduceAdd, Int.reduceSub, Int.reduceNeg, Int.reduceMul, Int.reduceToNat, Nat.reduceSub, Nat.reduceMul, Nat.reduceLeDiff, Nat.reduceAdd, Nat.reduceLT, Nat.reduceEqDiff, reduceCtorEq, ↓reduceIte, cpoly_len, hF]
  refine if_by (fun hlt => ?_) (fun hlt => ?_)
  · have hc := h.get i
    have hc1 := hc.1
    have m := rGcd_ok (wd (gz ((pv p).take i))) (p.getD i (false, [])).2 (lim_wd _) hc.2 (by omega) (by omega)
    rw [nv_wd, ← iv_abs, ← cf_pv, ← gz_take (by rw [pv_len]; omega)] at m
    simp (disch := omega) only [wk, tis, Int.reduceNe, Int.reduceEq, Int.reduceLT, Int.reduceLE, Int.reduceAdd, Int.reduceSub, Int.reduceNeg, Int.reduceMul, Int.reduceToNat, Nat.reduceSub, Nat.reduceMul, Nat.reduceLeDiff, Nat.reduceAdd, Nat.reduceLT, Nat.reduceEqDiff, reduceCtorEq, ↓reduceIte, cpoly_len, hF]
    refine call_by (m) (by first | rfl | (simp only [tocvs, tocv, hF]; rfl) | (simp only [tocvs, tocv, toboxes, tobox, updH_at, Nat.reduceEqDiff, ↓reduceIte, hF]; rfl)) (by simp) ?_
    simp (disch := omega) only [wk, tis, Int.reduceNe, Int.reduceEq, Int.reduceLT, Int.reduceLE, Int.reduceAdd, Int.reduceSub, Int.reduceNeg, Int.reduceMul, Int.reduceToNat, Nat.reduceSub, Nat.reduceMul, Nat.reduceLeDiff, Nat.reduceAdd, Nat.reduceLT, Nat.reduceEqDiff, reduceCtorEq, ↓reduceIte, cpoly_len, hF]
    refine ⟨⟨i + 1, by omega, ?_, by omega, rfl⟩, by omega⟩
    rw [gz_take (by rw [pv_len]; omega)]
    rcases Nat.eq_zero_or_pos (cf (pv p) i).natAbs with h0 | h0
    · rw [h0, Nat.gcd_zero_right]; exact hsz
    · refine Nat.le_trans (wd_len_mono (Nat.gcd_le_right _ h0)) ?_
      rw [cf_pv, iv_abs]
      exact Nat.le_trans (nv_len hc.2) hc.1
  · rw [List.take_of_length_le (by rw [pv_len]; omega)] at hF
    have e : (decide ((lc (pv p)).sign < 0)) = decide (lc (pv p) < 0) := by rw [decide_eq_decide]; exact sign_neg _
    have m := rI_ok (decide (lc (pv p) < 0)) (wd (gz (pv p))) (lim_wd _) (by omega)
    rw [nv_wd] at m
    simp (disch := omega) only [wk, tis, Int.reduceNe, Int.reduceEq, Int.reduceLT, Int.reduceLE, Int.reduceAdd, Int.reduceSub, Int.reduceNeg, Int.reduceMul, Int.reduceToNat, Nat.reduceSub, Nat.reduceMul, Nat.reduceLeDiff, Nat.reduceAdd, Nat.reduceLT, Nat.reduceEqDiff, reduceCtorEq, ↓reduceIte, cpoly_len, hF]
    refine call_by ((slead_ok p (h.mono (by omega) (by omega)))) (by first | rfl | (simp only [tocvs, tocv, hF]; rfl) | (simp only [tocvs, tocv, toboxes, tobox, updH_at, Nat.reduceEqDiff, ↓reduceIte, hF]; rfl)) (by simp) ?_
    simp (disch := omega) only [wk, tis, Int.reduceNe, Int.reduceEq, Int.reduceLT, Int.reduceLE, Int.reduceAdd, Int.reduceSub, Int.reduceNeg, Int.reduceMul, Int.reduceToNat, Nat.reduceSub, Nat.reduceMul, Nat.reduceLeDiff, Nat.reduceAdd, Nat.reduceLT, Nat.reduceEqDiff, reduceCtorEq, ↓reduceIte, cpoly_len, hF]
    refine call_by (hs) (by first | rfl | (simp only [tocvs, tocv, hF, e]; rfl) | (simp only [tocvs, tocv, toboxes, tobox, updH_at, Nat.reduceEqDiff, ↓reduceIte, hF, e]; rfl)) (by simp) ?_
    simp (disch := omega) only [wk, tis, Int.reduceNe, Int.reduceEq, Int.reduceLT, Int.reduceLE, Int.reduceAdd, Int.reduceSub, Int.reduceNeg, Int.reduceMul, Int.reduceToNat, Nat.reduceSub, Nat.reduceMul, Nat.reduceLeDiff, Nat.reduceAdd, Nat.reduceLT, Nat.reduceEqDiff, reduceCtorEq, ↓reduceIte, cpoly_len, hF, e]
    refine call_by (m) (by first | rfl | (simp only [tocvs, tocv, hF]; rfl) | (simp only [tocvs, tocv, toboxes, tobox, updH_at, Nat.reduceEqDiff, ↓reduceIte, hF]; rfl)) (by simp) ?_
    simp (disch := omega) only [wk, tis, Int.reduceNe, Int.reduceEq, Int.reduceLT, Int.reduceLE, Int.reduceAdd, Int.reduceSub, Int.reduceNeg, Int.reduceMul, Int.reduceToNat, Nat.reduceSub, Nat.reduceMul, Nat.reduceLeDiff, Nat.reduceAdd, Nat.reduceLT, Nat.reduceEqDiff, reduceCtorEq, ↓reduceIte, cpoly_len, hF]
    rfl

theorem sprim_ok (p : List RI) (h : RP (2 ^ 30) (2 ^ 35) p) : AC Tryz.prog 42 [cw p] none [cp (prim (pv p))] := by
  refine AC.by_walk (rs := [.tmp 2]) ords Tryz.func42 (by rfl) (by rfl) (by rfl) (by rfl) (by rfl) ?_
  have hg := gz_len h
  have hsz : Sz (2 ^ 35) (canon (cont (pv p))) := (sz_canon _).mono (by unfold zl; rw [cont_natAbs]; exact hg)
  have hs := rSign_ok (canon (cont (pv p))) (hsz.mono (by omega))
  rw [iv_canon] at hs
  simp (disch := omega) only [wk, tis, Int.reduceNe, Int.reduceEq, Int.reduceLT, Int.reduceLE, Int.reduceAdd, Int.reduceSub, Int.reduceNeg, Int.reduceMul, Int.reduceToNat, Nat.reduceSub, Nat.reduceMul, Nat.reduceLeDiff, Nat.reduceAdd, Nat.reduceLT, Nat.reduceEqDiff, reduceCtorEq, ↓reduceIte, cpoly_len]
  refine call_by ((scontent_ok p h)) (by rfl) (by simp) ?_
  simp (disch := omega) only [wk, tis, Int.reduceNe, Int.reduceEq, Int.reduceLT, Int.reduceLE, Int.reduceAdd, Int.reduceSub, Int.reduceNeg, Int.reduceMul, Int.reduceToNat, Nat.reduceSub, Nat.reduceMul, Nat.reduceLeDiff, Nat.reduceAdd, Nat.reduceLT, Nat.reduceEqDiff, reduceCtorEq, ↓reduceIte, cpoly_len]
  refine call_by (hs) (by rfl) (by simp) ?_
  simp (disch := omega) only [wk, tis, Int.reduceNe, Int.reduceEq, Int.reduceLT, Int.reduceLE, Int.reduceAdd, Int.reduceSub, Int.reduceNeg, Int.reduceMul, Int.reduceToNat, Nat.reduceSub, Nat.reduceMul, Nat.reduceLeDiff, Nat.reduceAdd, Nat.reduceLT, Nat.reduceEqDiff, reduceCtorEq, ↓reduceIte, cpoly_len]
  by_cases h0 : cont (pv p) = 0
  · have e : cp (prim (pv p)) = cw [] := by
      have : cp (prim (pv p)) = cp [] := cp_ext fun k => by
        unfold prim
        rw [cf_pdivs, h0, Int.ediv_zero]; rfl
      rw [this]; rfl
    have hsg : (cont (pv p)).sign = 0 := by rw [h0]; rfl
    rw [e]
    simp (disch := omega) only [wk, tis, Int.reduceNe, Int.reduceEq, Int.reduceLT, Int.reduceLE, Int.reduceAdd, Int.reduceSub, Int.reduceNeg, Int.reduceMul, Int.reduceToNat, Nat.reduceSub, Nat.reduceMul, Nat.reduceLeDiff, Nat.reduceAdd, Nat.reduceLT, Nat.reduceEqDiff, reduceCtorEq, ↓reduceIte, cpoly_len, hsg]
  · have m := sover_gen p (canon (cont (pv p))) h hsz (by rw [iv_canon]; exact h0) [cp (prim (pv p)), ci 0] (fun _ => by rw [iv_canon]; rfl) (fun hn => (hn fun k => by rw [iv_canon]; exact cont_dvd _ k).elim)
    have hsg : ¬ (cont (pv p)).sign = 0 := fun h => h0 (Int.sign_eq_zero_iff_zero.mp h)
    simp (disch := omega) only [wk, tis, Int.reduceNe, Int.reduceEq, Int.reduceLT, Int.reduceLE, Int.reduceAdd, Int.reduceSub, Int.reduceNeg, Int.reduceMul, Int.reduceToNat, Nat.reduceSub, Nat.reduceMul, Nat.reduceLeDiff, Nat.reduceAdd, Nat.reduceLT, Nat.reduceEqDiff, reduceCtorEq, ↓reduceIte, cpoly_len, hsg]
    refine call_by (m) (by first | rfl | (simp only [tocvs, tocv, hsg]; rfl) | (simp only [tocvs, tocv, toboxes, tobox, updH_at, Nat.reduceEqDiff, ↓reduceIte, hsg]; rfl)) (by simp) ?_
    simp (disch := omega) only [wk, tis, Int.reduceNe, Int.reduceEq, Int.reduceLT, Int.reduceLE, Int.reduceAdd, Int.reduceSub, Int.reduceNeg, Int.reduceMul, Int.reduceToNat, Nat.reduceSub, Nat.reduceMul, Nat.reduceLeDiff, Nat.reduceAdd, Nat.reduceLT, Nat.reduceEqDiff, reduceCtorEq, ↓reduceIte, cpoly_len, hsg]
end Go.Proofs.YthgecppfgdadiaaGreat

namespace Go.Proofs.YthgecppfgdadiaaGreat
open Go Go.Proofs Go.AL
set_option linter.unusedSimpArgs false
set_option linter.unusedVariables false

theorem gz_greatest (q : List Int) (d : Nat) (h : ∀ k, (d : Int) ∣ cf q k) : d ∣ gz q := by
  have key : ∀ i, i ≤ q.length → d ∣ gz (q.take i) := by
    intro i
    induction i with
    | zero => intro _; exact Nat.dvd_zero _
    | succ i ih =>
      intro hi
      rw [gz_take (by omega)]
      exact Nat.dvd_gcd (ih (by omega)) (Int.ofNat_dvd_left.mp (h i))
  have := key q.length (Nat.le_refl _)
  rwa [List.take_of_length_le (Nat.le_refl _)] at this

theorem gz_eq {p q : List Int} (h : ∀ k, cf p k = cf q k) : gz p = gz q :=
  Nat.dvd_antisymm (gz_greatest q _ fun k => by rw [← h]; exact gz_dvd p k) (gz_greatest p _ fun k => by rw [h]; exact gz_dvd q k)

theorem gz_scale (c : Int) (q : List Int) : gz (pscale c q) = c.natAbs * gz q := by
  have key : ∀ (q : List Int) (g : Nat), (pscale c q).foldl (fun g x => Nat.gcd g x.natAbs) (c.natAbs * g) = c.natAbs * q.foldl (fun g x => Nat.gcd g x.natAbs) g := by
    intro q
    induction q with
    | nil => intro g; rfl
    | cons x xs ih =>
      intro g
      have e : pscale c (x :: xs) = (x * c) :: pscale c xs := rfl
      rw [e, List.foldl_cons, List.foldl_cons, Int.natAbs_mul, Nat.mul_comm x.natAbs, Nat.gcd_mul_left, ih]
  exact key q 0

/-- A divisor that cannot be split. -/
theorem prime_fac : ∀ n : Nat, 1 < n → ∃ r, 1 < r ∧ r ∣ n ∧ ∀ x : Nat, r ∣ x ∨ Nat.gcd r x = 1 := by
  intro n
  induction n using Nat.strongRecOn with
  | _ n ih =>
    intro hn
    by_cases h : ∀ x : Nat, n ∣ x ∨ Nat.gcd n x = 1
    · exact ⟨n, hn, Nat.dvd_refl _, h⟩
    · obtain ⟨x, hx⟩ := Classical.not_forall.mp h
      have h1 : ¬ n ∣ x := fun h => hx (.inl h)
      have h2 : ¬ Nat.gcd n x = 1 := fun h => hx (.inr h)
      have h3 : Nat.gcd n x ≤ n := Nat.gcd_le_left _ (by omega)
      have h4 : Nat.gcd n x ≠ n := fun h => h1 (by rw [← h]; exact Nat.gcd_dvd_right _ _)
      have h5 : Nat.gcd n x ≠ 0 := fun h => by have := Nat.eq_zero_of_gcd_eq_zero_left h; omega
      obtain ⟨r, hr, hrd, hp⟩ := ih (Nat.gcd n x) (by omega) (by omega)
      exact ⟨r, hr, Nat.dvd_trans hrd (Nat.gcd_dvd_left _ _), hp⟩

theorem prime_mul {r : Nat} (hp : ∀ x : Nat, r ∣ x ∨ Nat.gcd r x = 1) {x y : Int} (h : (r : Int) ∣ x * y) : (r : Int) ∣ x ∨ (r : Int) ∣ y := by
  have h1 := Int.ofNat_dvd_left.mp h
  rw [Int.natAbs_mul] at h1
  rcases hp x.natAbs with h2 | h2
  · exact .inl (Int.ofNat_dvd_left.mpr h2)
  · exact .inr (Int.ofNat_dvd_left.mpr (Nat.Coprime.dvd_of_dvd_mul_left h2 h1))

theorem sumN_dvd {r : Int} : ∀ {n : Nat} {f : Nat → Int}, (∀ k, k < n → r ∣ f k) → r ∣ sumN n f
  | 0, f, _ => Int.dvd_zero _
  | n + 1, f, h => Int.dvd_add (sumN_dvd fun k hk => h k (by omega)) (h n (by omega))

theorem sumN_dvd_one {r : Int} {n i : Nat} {f : Nat → Int} (hi : i < n) (h : ∀ k, k < n → k ≠ i → r ∣ f k) (hs : r ∣ sumN n f) : r ∣ f i := by
  have e : sumN n f = sumN n (fun k => if k = i then 0 else f k) + f i := by
    have h1 : sumN n (fun k => if k = i then f k else 0) = f i := by
      rw [sumN_one _ hi fun k _ hk => if_neg hk, if_pos rfl]
    rw [← h1, ← sumN_add]
    refine sumN_congr fun k _ => ?_
    by_cases hk : k = i
    · rw [if_pos hk, if_pos hk, Int.zero_add]
    · rw [if_neg hk, if_neg hk, Int.add_zero]
  have h2 : r ∣ sumN n (fun k => if k = i then 0 else f k) := sumN_dvd fun k hk => by
    by_cases hki : k = i
    · simp only [if_pos hki]; exact Int.dvd_zero _
    · simp only [if_neg hki]; exact h k hk hki
  rw [e] at hs
  exact (Int.dvd_add_right h2).mp hs

theorem gauss_prime {r : Nat} (hp : ∀ x : Nat, r ∣ x ∨ Nat.gcd r x = 1) {p q : List Int} (h : ∀ k, (r : Int) ∣ cf (pmul p q) k) : ∀ n i j, i + j = n → (r : Int) ∣ cf p i ∨ (r : Int) ∣ cf q j := by
  intro n
  induction n using Nat.strongRecOn with
  | _ n ih =>
    intro i j hij
    by_cases h1 : (r : Int) ∣ cf p i
    · exact .inl h1
    by_cases h2 : (r : Int) ∣ cf q j
    · exact .inr h2
    exfalso
    have h3 := h n
    rw [cf_pmul, PS.cv_conv, PS.conv] at h3
    have h4 := sumN_dvd_one (i := i) (by omega) (fun k hk hki => ?_) h3
    · rw [show n - i = j by omega] at h4
      rcases prime_mul hp h4 with h5 | h5
      · exact h1 h5
      · exact h2 h5
    · rcases Nat.lt_or_ge k i with h5 | h5
      · rcases ih (k + j) (by omega) k j rfl with h6 | h6
        · exact Int.dvd_trans h6 (Int.dvd_mul_right _ _)
        · exact absurd h6 h2
      · rcases ih (i + (n - k)) (by omega) i (n - k) rfl with h6 | h6
        · exact absurd h6 h1
        · exact Int.dvd_trans h6 (Int.dvd_mul_left _ _)

theorem gauss_gz {p q : List Int} (hp : gz p = 1) (hq : gz q = 1) : gz (pmul p q) = 1 := by
  rcases Nat.lt_trichotomy (gz (pmul p q)) 1 with h | h | h
  · exfalso
    obtain ⟨r, hr, hrd, hpr⟩ := prime_fac 2 (by decide)
    have h0 : gz (pmul p q) = 0 := by omega
    have hd : ∀ k, (r : Int) ∣ cf (pmul p q) k := fun k => by
      have := gz_dvd (pmul p q) k
      rw [h0] at this
      rw [Int.zero_dvd.mp this]
      exact Int.dvd_zero _
    have key := gauss_prime hpr hd
    by_cases ha : ∀ i, (r : Int) ∣ cf p i
    · have := gz_greatest p r ha
      rw [hp] at this
      have := Nat.le_of_dvd (by decide) this
      omega
    · obtain ⟨i, hi⟩ := Classical.not_forall.mp ha
      have := gz_greatest q r fun j => (key _ i j rfl).resolve_left hi
      rw [hq] at this
      have := Nat.le_of_dvd (by decide) this
      omega
  · exact h
  · exfalso
    obtain ⟨r, hr, hrd, hpr⟩ := prime_fac _ h
    have hd : ∀ k, (r : Int) ∣ cf (pmul p q) k := fun k => Int.dvd_trans (Int.natCast_dvd_natCast.mpr hrd) (gz_dvd _ k)
    have key := gauss_prime hpr hd
    by_cases ha : ∀ i, (r : Int) ∣ cf p i
    · have := gz_greatest p r ha
      rw [hp] at this
      have := Nat.le_of_dvd (by decide) this
      omega
    · obtain ⟨i, hi⟩ := Classical.not_forall.mp ha
      have := gz_greatest q r fun j => (key _ i j rfl).resolve_left hi
      rw [hq] at this
      have := Nat.le_of_dvd (by decide) this
      omega

theorem lc_spec {q : List Int} {n : Nat} (h : cf q n ≠ 0) (h0 : ∀ k, n < k → cf q k = 0) : lc q = cf q n := by
  unfold lc
  rw [tz_spec h h0, Nat.add_sub_cancel]

theorem lc_ne {q : List Int} (h : gz q ≠ 0) : tz q ≠ 0 ∧ lc q ≠ 0 := by
  have h1 : tz q ≠ 0 := fun h1 => by
    have h2 : (0 : Nat) ∣ gz q := gz_greatest q 0 fun k => by rw [tz_zero_iff.mp h1 k]; exact Int.dvd_zero _
    exact h (Nat.eq_zero_of_zero_dvd h2)
  exact ⟨h1, cf_tz_pred h1⟩

/-- Primitive, with a positive leading coefficient. -/
def Prm (q : List Int) : Prop := gz q = 1 ∧ 0 < lc q

theorem lc_scale {T R : List Int} {c : Int} (h : ∀ k, cf T k = c * cf R k) (hR : lc R ≠ 0) : lc T = c * lc R := by
  have hR' : tz R ≠ 0 := fun h0 => hR (by unfold lc; exact tz_zero_iff.mp h0 _)
  by_cases hc : c = 0
  · unfold lc; rw [h, hc, Int.zero_mul, Int.zero_mul]
  · have e : lc T = cf T (tz R - 1) := lc_spec (by rw [h]; exact Int.mul_ne_zero hc hR) fun k hk => by rw [h, cf_ge_tz R (by omega), Int.mul_zero]
    rw [e, h]; rfl

theorem gz_mul {T R : List Int} {c : Int} (h : ∀ k, cf T k = c * cf R k) : gz T = c.natAbs * gz R := by
  rw [← gz_scale]
  exact gz_eq fun k => by rw [h, cf_pscale, Int.mul_comm]

theorem sg_abs {c l : Int} (hl : 0 < l) : sg (decide (c * l < 0)) c.natAbs = c := by
  unfold sg
  by_cases hc : c < 0
  · rw [decide_eq_true (Int.mul_neg_of_neg_of_pos hc hl)]
    simp only [↓reduceIte]; omega
  · have h1 : ¬ c * l < 0 := by have := Int.mul_nonneg (show 0 ≤ c by omega) (show 0 ≤ l by omega); omega
    rw [decide_eq_false h1]
    simp only [Bool.false_eq_true, ↓reduceIte]; omega

theorem cont_of {T R : List Int} {c : Int} (hR : Prm R) (h : ∀ k, cf T k = c * cf R k) : cont T = c := by
  unfold cont
  rw [gz_mul h, hR.1, Nat.mul_one, lc_scale h (by have := hR.2; omega)]
  exact sg_abs hR.2

theorem prim_of {T R : List Int} {c : Int} (hR : Prm R) (hc : c ≠ 0) (h : ∀ k, cf T k = c * cf R k) (k : Nat) : cf (prim T) k = cf R k := by
  unfold prim
  rw [cf_pdivs, cont_of hR h, h, Int.mul_ediv_cancel_left _ hc]

theorem cf_prim (q : List Int) (k : Nat) : cf q k = cont q * cf (prim q) k := by
  unfold prim
  rw [cf_pdivs, Int.mul_ediv_cancel' (cont_dvd q k)]

theorem prm_prim {q : List Int} (h : cont q ≠ 0) : Prm (prim q) := by
  have h0 : gz q ≠ 0 := fun h0 => h (Int.natAbs_eq_zero.mp (by rw [cont_natAbs]; exact h0))
  have h1 := gz_mul (cf_prim q)
  rw [cont_natAbs] at h1
  have h2 : gz (prim q) = 1 := by
    have : gz q * gz (prim q) = gz q * 1 := by omega
    exact Nat.eq_of_mul_eq_mul_left (by omega) this
  refine ⟨h2, ?_⟩
  have h3 := (lc_ne (q := prim q) (by omega)).2
  have h4 := lc_scale (cf_prim q) h3
  have h5 := (lc_ne h0).2
  rcases Int.lt_trichotomy (lc (prim q)) 0 with h6 | h6 | h6
  · exfalso
    rcases Int.lt_or_gt_of_ne h5 with h7 | h7
    · have h8 : cont q < 0 := by
        unfold cont sg
        rw [decide_eq_true h7]
        simp only [↓reduceIte]; omega
      have := Int.mul_pos_of_neg_of_neg h8 h6
      omega
    · have h8 : 0 < cont q := by
        unfold cont sg
        rw [decide_eq_false (by omega)]
        simp only [Bool.false_eq_true, ↓reduceIte]; omega
      have := Int.mul_neg_of_pos_of_neg h8 h6
      omega
  · exact absurd h6 h3
  · exact h6

theorem lc_pmul {P Q : List Int} (hP : lc P ≠ 0) (hQ : lc Q ≠ 0) : lc (pmul P Q) = lc P * lc Q := by
  have hP' : tz P ≠ 0 := fun h0 => hP (by unfold lc; exact tz_zero_iff.mp h0 _)
  have hQ' : tz Q ≠ 0 := fun h0 => hQ (by unfold lc; exact tz_zero_iff.mp h0 _)
  have e1 : cf (pmul P Q) (tz P - 1 + (tz Q - 1)) = lc P * lc Q := by
    rw [cf_pmul, PS.cv_conv, PS.conv, sumN_one (j := tz P - 1) _ (by omega) fun i hi hne => ?_]
    · rw [show tz P - 1 + (tz Q - 1) - (tz P - 1) = tz Q - 1 by omega]; rfl
    · rcases Nat.lt_or_ge i (tz P - 1) with h | h
      · rw [cf_ge_tz Q (by omega), Int.mul_zero]
      · rw [cf_ge_tz P (by omega), Int.zero_mul]
  rw [lc_spec (n := tz P - 1 + (tz Q - 1)) (by rw [e1]; exact Int.mul_ne_zero hP hQ) fun k hk => ?_, e1]
  rw [cf_pmul, PS.cv_conv, PS.conv]
  refine sumN_zero fun i hi => ?_
  rcases Nat.lt_or_ge i (tz P) with h | h
  · rw [cf_ge_tz Q (by omega), Int.mul_zero]
  · rw [cf_ge_tz P (by omega), Int.zero_mul]

theorem prm_mul {P Q : List Int} (hP : Prm P) (hQ : Prm Q) : Prm (pmul P Q) := by
  refine ⟨gauss_gz hP.1 hQ.1, ?_⟩
  have h1 := hP.2
  have h2 := hQ.2
  rw [lc_pmul (by omega) (by omega)]
  exact Int.mul_pos h1 h2

theorem prim_zero {q : List Int} (h : cont q = 0) (k : Nat) : cf (prim q) k = 0 ∧ cf q k = 0 := by
  constructor
  · unfold prim
    rw [cf_pdivs, h, Int.ediv_zero]
  · rw [cf_prim, h, Int.zero_mul]

theorem pscale_eq (c : Int) (q : List Int) : ps (pscale c q) = PS.C c * ps q := ps_pscale c q

theorem ps_prim (q : List Int) : ps q = PS.C (cont q) * ps (prim q) := PS.ext fun k => by
  rw [PS.C_mul_c, ps_c, ps_c]; exact cf_prim q k

theorem mul_prims (p q : List Int) (k : Nat) : cf (pmul p q) k = cont p * cont q * cf (pmul (prim p) (prim q)) k := by
  have h : ps (pmul p q) = PS.C (cont p * cont q) * ps (pmul (prim p) (prim q)) := by
    rw [ps_pmul, ps_pmul, ps_prim p, ps_prim q, PS.C_mul]
    rw [← ps_prim p, ← ps_prim q]
    conv => lhs; rw [ps_prim p, ps_prim q]
    rw [PS.mul_assoc, PS.mul_assoc, ← PS.mul_assoc (ps (prim p)), PS.mul_comm (ps (prim p)) (PS.C _), PS.mul_assoc]
  have := congrArg (fun f => f.c k) h
  simp only [ps_c, PS.C_mul_c] at this
  exact this

/-- Gauss' lemma. -/
theorem cont_mul (p q : List Int) : cont (pmul p q) = cont p * cont q := by
  by_cases hp : cont p = 0
  · have h0 : ∀ k, cf (pmul p q) k = 0 := fun k => by rw [mul_prims, hp, Int.zero_mul, Int.zero_mul]
    have h1 : gz (pmul p q) = 0 := Nat.eq_zero_of_zero_dvd (gz_greatest _ 0 fun k => by rw [h0]; exact Int.dvd_zero _)
    rw [hp, Int.zero_mul]
    exact Int.natAbs_eq_zero.mp (by rw [cont_natAbs]; exact h1)
  by_cases hq : cont q = 0
  · have h0 : ∀ k, cf (pmul p q) k = 0 := fun k => by rw [mul_prims, hq, Int.mul_zero, Int.zero_mul]
    have h1 : gz (pmul p q) = 0 := Nat.eq_zero_of_zero_dvd (gz_greatest _ 0 fun k => by rw [h0]; exact Int.dvd_zero _)
    rw [hq, Int.mul_zero]
    exact Int.natAbs_eq_zero.mp (by rw [cont_natAbs]; exact h1)
  exact cont_of (prm_mul (prm_prim hp) (prm_prim hq)) (mul_prims p q)

theorem ps_zero {q : List Int} (h : ∀ k, cf q k = 0) : ps q = 0 := PS.ext h

theorem prim_mul (p q : List Int) : ps (prim (pmul p q)) = ps (pmul (prim p) (prim q)) := by
  by_cases hp : cont p = 0
  · have h1 : ps (prim p) = 0 := ps_zero fun k => (prim_zero hp k).1
    rw [ps_pmul, h1, PS.zero_mul]
    exact ps_zero fun k => (prim_zero (by rw [cont_mul, hp, Int.zero_mul]) k).1
  by_cases hq : cont q = 0
  · have h1 : ps (prim q) = 0 := ps_zero fun k => (prim_zero hq k).1
    rw [ps_pmul, h1, PS.mul_zero]
    exact ps_zero fun k => (prim_zero (by rw [cont_mul, hq, Int.mul_zero]) k).1
  exact ps_ext fun k => prim_of (prm_mul (prm_prim hp) (prm_prim hq)) (Int.mul_ne_zero hp hq) (mul_prims p q) k

theorem prm_self {q : List Int} (h : Prm q) : cont q = 1 ∧ ps (prim q) = ps q :=
  ⟨cont_of h fun k => (Int.one_mul _).symm, ps_ext fun k => prim_of h (by decide) (fun k => (Int.one_mul _).symm) k⟩

theorem cont_zero_iff {q : List Int} : cont q = 0 ↔ tz q = 0 := by
  constructor
  · intro h; exact tz_zero_iff.mpr fun k => (prim_zero h k).2
  · intro h
    refine Int.natAbs_eq_zero.mp ?_
    rw [cont_natAbs]
    exact Nat.eq_zero_of_zero_dvd (gz_greatest _ 0 fun k => by rw [tz_zero_iff.mp h k]; exact Int.dvd_zero _)

end Go.Proofs.YthgecppfgdadiaaGreat

namespace Go.Proofs.YthgecppfgdadiaaGreat
open Go Go.Proofs Go.AL
set_option linter.unusedSimpArgs false
set_option linter.unusedVariables false

theorem cont_ps {p q : List Int} (h : ps p = ps q) : cont p = cont q := by
  unfold cont lc
  rw [gz_eq (ps_eq h), tz_eq_of_cf (ps_eq h), ps_eq h]

theorem prim_ps {p q : List Int} (h : ps p = ps q) : ps (prim p) = ps (prim q) := ps_ext fun k => by
  unfold prim
  rw [cf_pdivs, cf_pdivs, cont_ps h, ps_eq h]

theorem pcontent_g {a : List RI} {q : List Int} (ha : RP (2 ^ 30) (2 ^ 35) a) (eq : ps (pv a) = ps q) : AC Tryz.prog 39 [cw a] none [cz (cont q)] := by
  rw [← cont_ps eq]; exact pcontent_ok a (ha.mono (by omega) (by omega))

theorem pprim_g {a : List RI} {q : List Int} (ha : RP (2 ^ 30) (2 ^ 35) a) (eq : ps (pv a) = ps q) : AC Tryz.prog 41 [cw a] none [cp (prim q)] := by
  have h := pprim_ok a ha
  rwa [cp_ps (prim_ps eq)] at h

theorem plead_g {a : List RI} {q : List Int} (ha : RP (2 ^ 30) (2 ^ 35) a) (eq : ps (pv a) = ps q) : AC Tryz.prog 81 [cw a] none [cz (lc q)] := by
  have h := plead_ok a (ha.mono (by omega) (by omega))
  have e : cf (pv a) (tz (pv a) - 1) = lc q := by unfold lc; rw [tz_eq_of_cf (ps_eq eq), ps_eq eq]
  rwa [e] at h

theorem pover_g {a : List RI} {r : List Int} {c : RI} (ha : RP (2 ^ 30) (2 ^ 35) a) (hc : Sz (2 ^ 35) c) (h0 : iv c ≠ 0) (eq : ps (pv a) = PS.C (iv c) * ps r) : AC Tryz.prog 33 [cw a, cr c] none [cp r, ci 0] := by
  have hk : ∀ k, cf (pv a) k = iv c * cf r k := fun k => by
    have := congrArg (fun f => f.c k) eq
    simp only [ps_c, PS.C_mul_c] at this
    exact this
  have h := pover_ok a c ha hc h0 fun k => by rw [hk]; exact Int.dvd_mul_right _ _
  rwa [cp_ps (q := r) (ps_ext fun k => by rw [cf_pdivs, hk, Int.mul_ediv_cancel_left _ h0])] at h

theorem pb_prim {n k : Nat} {q : List Int} (h : PB n k q) : PB n k (prim q) := by
  refine .of (by unfold prim pdivs; rw [List.length_map]; exact h.1) fun i => ?_
  unfold prim
  rw [cf_pdivs]
  exact Nat.le_trans (zl_div (cont_dvd q i)) (h.cf i)

theorem zl_cont {n k : Nat} {q : List Int} (h : PB n k q) : zl (cont q) ≤ k := by
  have := gz_len (rp_cn h)
  rw [gz_eq (ps_eq (ps_cn q))] at this
  unfold zl
  rw [cont_natAbs]; exact this

end Go.Proofs.YthgecppfgdadiaaGreat

namespace Go.Proofs.YthgecppfgdadiaaGreat
open Go Go.Proofs Go.AL
set_option linter.unusedSimpArgs false
set_option linter.unusedVariables false

theorem parts_ok (A B C : List RI) (K : RI) (N : Int) (hA : RP 1048576 1048576 A) (hB : RP 1048576 1048576 B) (hC : RP 1048576 1048576 C) (hK : Sz 1048576 K) (h1 : -9223372036854775808 ≤ N) (h2 : N ≤ 9223372036854775807) : AC Tryz.prog 5 [.agg (case9' A B C K N)] none [cb true] := by
  refine AC.by_walk (rs := [.tmp 2]) ords Tryz.func5 (by rfl) (by rfl) (by rfl) (by rfl) (by rfl) ?_
  have qa := hA.pv
  have Ra := hA.mono (n' := 2 ^ 30) (k' := 2 ^ 35) (by decide) (by decide)
  have Rk : Sz (2 ^ 35) K := hK.mono (by decide)
  have hdr := qa.pderiv (by decide)
  have zc := zl_cont qa
  have pp := pb_prim qa
  have key : ∃ (res : List Int) (e : Int), PB (2 ^ 40) (2 ^ 43) res ∧ AC Tryz.prog 32 [cw A, cr K] none [cp res, ci e] ∧ AC Tryz.prog 33 [cw A, cr K] none [cp res, ci e] := by
    by_cases h0 : iv K = 0
    · exact ⟨[], 1, ⟨by simp, by simp⟩, sover_zero A K (Rk.mono (by decide)) h0, pover_zero A K (Ra.mono (by decide) (by decide)) (Rk.mono (by decide)) h0⟩
    · by_cases hd : ∀ k, iv K ∣ cf (pv A) k
      · exact ⟨pdivs (iv K) (pv A), 0, .of (by rw [pdivs, List.length_map]; exact Nat.le_trans qa.1 (by decide)) fun k => by
          rw [cf_pdivs]; exact Nat.le_trans (zl_div (hd k)) (Nat.le_trans (qa.cf k) (by decide)), sover_gen A K Ra Rk h0 _ (fun _ => rfl) (fun h => (h hd).elim), pover_ok A K Ra Rk h0 hd⟩
      · exact ⟨[], 4, ⟨by simp, by simp⟩, sover_gen A K Ra Rk h0 _ (fun h => (hd h).elim) (fun _ => rfl), pover_bad A K Ra Rk h0 hd⟩
  obtain ⟨res, e, hres, o1, o2⟩ := key
  simp (disch := omega) only [wk, tis, Int.reduceNe, Int.reduceEq, Int.reduceLT, Int.reduceLE, Int.reduceAdd, Int.reduceSub, Int.reduceNeg, Int.reduceMul, Int.reduceToNat, Nat.reduceSub, Nat.reduceMul, Nat.reduceLeDiff, Nat.reduceAdd, Nat.reduceLT, Nat.reduceEqDiff, reduceCtorEq, ↓reduceIte, cpoly_len]
  refine call_by (awake_ok) (by rfl) (by simp) ?_
  simp (disch := omega) only [wk, tis, Int.reduceNe, Int.reduceEq, Int.reduceLT, Int.reduceLE, Int.reduceAdd, Int.reduceSub, Int.reduceNeg, Int.reduceMul, Int.reduceToNat, Nat.reduceSub, Nat.reduceMul, Nat.reduceLeDiff, Nat.reduceAdd, Nat.reduceLT, Nat.reduceEqDiff, reduceCtorEq, ↓reduceIte, cpoly_len]
  refine call_by (o1) (by rfl) (by simp) ?_
  simp (disch := omega) only [wk, tis, Int.reduceNe, Int.reduceEq, Int.reduceLT, Int.reduceLE, Int.reduceAdd, Int.reduceSub, Int.reduceNeg, Int.reduceMul, Int.reduceToNat, Nat.reduceSub, Nat.reduceMul, Nat.reduceLeDiff, Nat.reduceAdd, Nat.reduceLT, Nat.reduceEqDiff, reduceCtorEq, ↓reduceIte, cpoly_len]
  refine call_by (o2) (by rfl) (by simp) ?_
  simp (disch := omega) only [wk, tis, Int.reduceNe, Int.reduceEq, Int.reduceLT, Int.reduceLE, Int.reduceAdd, Int.reduceSub, Int.reduceNeg, Int.reduceMul, Int.reduceToNat, Nat.reduceSub, Nat.reduceMul, Nat.reduceLeDiff, Nat.reduceAdd, Nat.reduceLT, Nat.reduceEqDiff, reduceCtorEq, ↓reduceIte, cpoly_len]
  refine call_by ((lplain_ok e e)) (by rfl) (by simp) ?_
  simp (disch := omega) only [wk, tis, Int.reduceNe, Int.reduceEq, Int.reduceLT, Int.reduceLE, Int.reduceAdd, Int.reduceSub, Int.reduceNeg, Int.reduceMul, Int.reduceToNat, Nat.reduceSub, Nat.reduceMul, Nat.reduceLeDiff, Nat.reduceAdd, Nat.reduceLT, Nat.reduceEqDiff, reduceCtorEq, ↓reduceIte, cpoly_len]
  refine call_by ((same_g hres hres rfl)) (by rfl) (by simp) ?_
  simp (disch := omega) only [wk, tis, Int.reduceNe, Int.reduceEq, Int.reduceLT, Int.reduceLE, Int.reduceAdd, Int.reduceSub, Int.reduceNeg, Int.reduceMul, Int.reduceToNat, Nat.reduceSub, Nat.reduceMul, Nat.reduceLeDiff, Nat.reduceAdd, Nat.reduceLT, Nat.reduceEqDiff, reduceCtorEq, ↓reduceIte, cpoly_len]
  refine ⟨tmps_by (by kernel_rfl), ?_⟩
  refine frame_call (fun f H => f 1 = .hp 1 1 0 0 ∧ H 1 = .blk false 1 53 6 [case9' A B C K N]) ?_ (fun f H hF => ?_)
  · simp (disch := omega) only [wk, tis, Int.reduceNe, Int.reduceEq, Int.reduceLT, Int.reduceLE, Int.reduceAdd, Int.reduceSub, Int.reduceNeg, Int.reduceMul, Int.reduceToNat, Nat.reduceSub, Nat.reduceMul, Nat.reduceLeDiff, Nat.reduceAdd, Nat.reduceLT, Nat.reduceEqDiff, reduceCtorEq, ↓reduceIte, cpoly_len]
  refine call_by ((pderiv_ok A Ra)) (by first | rfl | (simp only [tocvs, tocv, hF]; rfl) | (simp only [tocvs, tocv, toboxes, tobox, updH_at, Nat.reduceEqDiff, ↓reduceIte, hF]; rfl)) (by simp) ?_
  simp (disch := omega) only [wk, tis, Int.reduceNe, Int.reduceEq, Int.reduceLT, Int.reduceLE, Int.reduceAdd, Int.reduceSub, Int.reduceNeg, Int.reduceMul, Int.reduceToNat, Nat.reduceSub, Nat.reduceMul, Nat.reduceLeDiff, Nat.reduceAdd, Nat.reduceLT, Nat.reduceEqDiff, reduceCtorEq, ↓reduceIte, cpoly_len, hF]
  refine call_by ((sderiv_ok A Ra)) (by first | rfl | (simp only [tocvs, tocv, hF]; rfl) | (simp only [tocvs, tocv, toboxes, tobox, updH_at, Nat.reduceEqDiff, ↓reduceIte, hF]; rfl)) (by simp) ?_
  simp (disch := omega) only [wk, tis, Int.reduceNe, Int.reduceEq, Int.reduceLT, Int.reduceLE, Int.reduceAdd, Int.reduceSub, Int.reduceNeg, Int.reduceMul, Int.reduceToNat, Nat.reduceSub, Nat.reduceMul, Nat.reduceLeDiff, Nat.reduceAdd, Nat.reduceLT, Nat.reduceEqDiff, reduceCtorEq, ↓reduceIte, cpoly_len, hF]
  refine call_by ((same_g (hdr.mono (by decide) (by decide)) (hdr.mono (by decide) (by decide)) rfl)) (by first | rfl | (simp only [tocvs, tocv, hF]; rfl) | (simp only [tocvs, tocv, toboxes, tobox, updH_at, Nat.reduceEqDiff, ↓reduceIte, hF]; rfl)) (by simp) ?_
  simp (disch := omega) only [wk, tis, Int.reduceNe, Int.reduceEq, Int.reduceLT, Int.reduceLE, Int.reduceAdd, Int.reduceSub, Int.reduceNeg, Int.reduceMul, Int.reduceToNat, Nat.reduceSub, Nat.reduceMul, Nat.reduceLeDiff, Nat.reduceAdd, Nat.reduceLT, Nat.reduceEqDiff, reduceCtorEq, ↓reduceIte, cpoly_len, hF]
  refine call_by ((pcontent_ok A (Ra.mono (by decide) (by decide)))) (by first | rfl | (simp only [tocvs, tocv, hF]; rfl) | (simp only [tocvs, tocv, toboxes, tobox, updH_at, Nat.reduceEqDiff, ↓reduceIte, hF]; rfl)) (by simp) ?_
  simp (disch := omega) only [wk, tis, Int.reduceNe, Int.reduceEq, Int.reduceLT, Int.reduceLE, Int.reduceAdd, Int.reduceSub, Int.reduceNeg, Int.reduceMul, Int.reduceToNat, Nat.reduceSub, Nat.reduceMul, Nat.reduceLeDiff, Nat.reduceAdd, Nat.reduceLT, Nat.reduceEqDiff, reduceCtorEq, ↓reduceIte, cpoly_len, hF]
  refine call_by ((scontent_ok A Ra)) (by first | rfl | (simp only [tocvs, tocv, hF]; rfl) | (simp only [tocvs, tocv, toboxes, tobox, updH_at, Nat.reduceEqDiff, ↓reduceIte, hF]; rfl)) (by simp) ?_
  simp (disch := omega) only [wk, tis, Int.reduceNe, Int.reduceEq, Int.reduceLT, Int.reduceLE, Int.reduceAdd, Int.reduceSub, Int.reduceNeg, Int.reduceMul, Int.reduceToNat, Nat.reduceSub, Nat.reduceMul, Nat.reduceLeDiff, Nat.reduceAdd, Nat.reduceLT, Nat.reduceEqDiff, reduceCtorEq, ↓reduceIte, cpoly_len, hF]
  refine call_by ((sameint_g rfl (Nat.le_trans zc (by decide)))) (by first | rfl | (simp only [tocvs, tocv, hF]; rfl) | (simp only [tocvs, tocv, toboxes, tobox, updH_at, Nat.reduceEqDiff, ↓reduceIte, hF]; rfl)) (by simp) ?_
  simp (disch := omega) only [wk, tis, Int.reduceNe, Int.reduceEq, Int.reduceLT, Int.reduceLE, Int.reduceAdd, Int.reduceSub, Int.reduceNeg, Int.reduceMul, Int.reduceToNat, Nat.reduceSub, Nat.reduceMul, Nat.reduceLeDiff, Nat.reduceAdd, Nat.reduceLT, Nat.reduceEqDiff, reduceCtorEq, ↓reduceIte, cpoly_len, hF]
  refine call_by ((pprim_ok A Ra)) (by first | rfl | (simp only [tocvs, tocv, hF]; rfl) | (simp only [tocvs, tocv, toboxes, tobox, updH_at, Nat.reduceEqDiff, ↓reduceIte, hF]; rfl)) (by simp) ?_
  simp (disch := omega) only [wk, tis, Int.reduceNe, Int.reduceEq, Int.reduceLT, Int.reduceLE, Int.reduceAdd, Int.reduceSub, Int.reduceNeg, Int.reduceMul, Int.reduceToNat, Nat.reduceSub, Nat.reduceMul, Nat.reduceLeDiff, Nat.reduceAdd, Nat.reduceLT, Nat.reduceEqDiff, reduceCtorEq, ↓reduceIte, cpoly_len, hF]
  refine call_by ((sprim_ok A Ra)) (by first | rfl | (simp only [tocvs, tocv, hF]; rfl) | (simp only [tocvs, tocv, toboxes, tobox, updH_at, Nat.reduceEqDiff, ↓reduceIte, hF]; rfl)) (by simp) ?_
  simp (disch := omega) only [wk, tis, Int.reduceNe, Int.reduceEq, Int.reduceLT, Int.reduceLE, Int.reduceAdd, Int.reduceSub, Int.reduceNeg, Int.reduceMul, Int.reduceToNat, Nat.reduceSub, Nat.reduceMul, Nat.reduceLeDiff, Nat.reduceAdd, Nat.reduceLT, Nat.reduceEqDiff, reduceCtorEq, ↓reduceIte, cpoly_len, hF]
  refine call_by ((same_g (pp.mono (by decide) (by decide)) (pp.mono (by decide) (by decide)) rfl)) (by first | rfl | (simp only [tocvs, tocv, hF]; rfl) | (simp only [tocvs, tocv, toboxes, tobox, updH_at, Nat.reduceEqDiff, ↓reduceIte, hF]; rfl)) (by simp) ?_
  simp (disch := omega) only [wk, tis, Int.reduceNe, Int.reduceEq, Int.reduceLT, Int.reduceLE, Int.reduceAdd, Int.reduceSub, Int.reduceNeg, Int.reduceMul, Int.reduceToNat, Nat.reduceSub, Nat.reduceMul, Nat.reduceLeDiff, Nat.reduceAdd, Nat.reduceLT, Nat.reduceEqDiff, reduceCtorEq, ↓reduceIte, cpoly_len, hF]
  first | exact log_by (by kernel_rfl) | refine ⟨log_by (by kernel_rfl), ?_⟩
end Go.Proofs.YthgecppfgdadiaaGreat
