/-
  Contracts of the functions that the law reaches.
-/
import Derived.Test.YtaepoooifkjbmaaGreatL117M
import Derived.Test.YtaepoooifkjbmaaGreatL36M
import Derived.Test.YtaepoooifkjbmaaGreatL59M
namespace Go.Proofs.YtaepoooifkjbmaaGreat
open Go Go.Proofs Go.AL
set_option linter.unusedSimpArgs false
set_option linter.unusedVariables false

theorem pnormo_ok (p : List RI) (h : RP (2 ^ 40) (2 ^ 40) p) : AC Tryz.prog 30 [cw p] (some (0, 27, 2, cpoly (pv p))) [cp (pv p)] := by
  refine AC.by_walk (rs := [.tmp 2]) ords Tryz.func30 (by rfl) (by rfl) (by rfl) (by rfl) (by rfl) ?_
  have hl := h.1
  have htl := tz_le (pv p)
  rw [pv_len] at htl
  simp (disch := omega) only [wk, tis, Int.reduceNe, Int.reduceEq, Int.reduceLT, Int.reduceLE, Int.reduceAdd, Int.reduceSub, Int.reduceNeg, Int.reduceMul, Int.reduceToNat, Nat.reduceSub, Nat.reduceMul, Nat.reduceLeDiff, Nat.reduceAdd, Nat.reduceLT, Nat.reduceEqDiff, reduceCtorEq, ↓reduceIte]
  refine call_by ((size_ok p h)) (by rfl) (by simp) ?_
  simp (disch := omega) only [wk, tis, Int.reduceNe, Int.reduceEq, Int.reduceLT, Int.reduceLE, Int.reduceAdd, Int.reduceSub, Int.reduceNeg, Int.reduceMul, Int.reduceToNat, Nat.reduceSub, Nat.reduceMul, Nat.reduceLeDiff, Nat.reduceAdd, Nat.reduceLT, Nat.reduceEqDiff, reduceCtorEq, ↓reduceIte]
  refine aloop_nil 3 3 27 2 (by simp (disch := omega) only [wk, tis, Int.reduceNe, Int.reduceEq, Int.reduceLT, Int.reduceLE, Int.reduceAdd, Int.reduceSub, Int.reduceNeg, Int.reduceMul, Int.reduceToNat, Nat.reduceSub, Nat.reduceMul, Nat.reduceLeDiff, Nat.reduceAdd, Nat.reduceLT, Nat.reduceEqDiff, reduceCtorEq, ↓reduceIte]) (fun f H => ∃ (k st : Nat), k ≤ tz (pv p) ∧ f 0 = .iv (.sl (raws p)) ∧ f 3 = .hs 3 st ∧ f 6 = .iv (.int .i64 (tz (pv p))) ∧ f 7 = .iv (.int .i64 k) ∧ H 3 = .blk false st 27 2 (raws (((trimz (pv p)).take k).map canon))) (fun f H => (tz (pv p) - intAt f 7).toNat) ?_ ?_
  · refine ⟨0, 1, by omega, ?_⟩
    simp (disch := omega) only [wk, tis, Int.reduceNe, Int.reduceEq, Int.reduceLT, Int.reduceLE, Int.reduceAdd, Int.reduceSub, Int.reduceNeg, Int.reduceMul, Int.reduceToNat, Nat.reduceSub, Nat.reduceMul, Nat.reduceLeDiff, Nat.reduceAdd, Nat.reduceLT, Nat.reduceEqDiff, reduceCtorEq, ↓reduceIte, ghostF, ghostH, List.take_zero]
  rintro f H ⟨k, st, hk, h0, h3, h6, h7, hH⟩
  rw [intAt_of h7]
  simp (disch := omega) only [wk, tis, Int.reduceNe, Int.reduceEq, Int.reduceLT, Int.reduceLE, Int.reduceAdd, Int.reduceSub, Int.reduceNeg, Int.reduceMul, Int.reduceToNat, Nat.reduceSub, Nat.reduceMul, Nat.reduceLeDiff, Nat.reduceAdd, Nat.reduceLT, Nat.reduceEqDiff, reduceCtorEq, ↓reduceIte, h0, h3, h6, h7, hH]
  refine if_by (fun hlt => ?_) (fun hlt => ?_)
  · simp (disch := omega) only [wk, tis, Int.reduceNe, Int.reduceEq, Int.reduceLT, Int.reduceLE, Int.reduceAdd, Int.reduceSub, Int.reduceNeg, Int.reduceMul, Int.reduceToNat, Nat.reduceSub, Nat.reduceMul, Nat.reduceLeDiff, Nat.reduceAdd, Nat.reduceLT, Nat.reduceEqDiff, reduceCtorEq, ↓reduceIte, h0, h3, h6, h7, hH]
    have hq : (((trimz (pv p)).take k).map canon).length = k := by rw [List.length_map, List.length_take, trimz_len]; omega
    refine call_by ((znorm_ok (p.getD k (false, [])) (h.get _))) (by first | rfl | (simp only [tocvs, tocv, h0, h3, h6, h7, hH, hq]; rfl) | (simp only [tocvs, tocv, toboxes, tobox, updH_at, Nat.reduceEqDiff, ↓reduceIte, h0, h3, h6, h7, hH, hq]; rfl)) (by simp) ?_
    simp (disch := omega) only [wk, tis, Int.reduceNe, Int.reduceEq, Int.reduceLT, Int.reduceLE, Int.reduceAdd, Int.reduceSub, Int.reduceNeg, Int.reduceMul, Int.reduceToNat, Nat.reduceSub, Nat.reduceMul, Nat.reduceLeDiff, Nat.reduceAdd, Nat.reduceLT, Nat.reduceEqDiff, reduceCtorEq, ↓reduceIte, h0, h3, h6, h7, hH, hq]
    refine ⟨⟨k + 1, st + 1, by omega, rfl, by omega, ?_⟩, by omega⟩
    rw [trimz_take_succ (by omega), cf_pv]
  · simp (disch := omega) only [wk, tis, Int.reduceNe, Int.reduceEq, Int.reduceLT, Int.reduceLE, Int.reduceAdd, Int.reduceSub, Int.reduceNeg, Int.reduceMul, Int.reduceToNat, Nat.reduceSub, Nat.reduceMul, Nat.reduceLeDiff, Nat.reduceAdd, Nat.reduceLT, Nat.reduceEqDiff, reduceCtorEq, ↓reduceIte, h0, h3, h6, h7, hH]
    have hk : k = tz (pv p) := by omega
    rw [hk, List.take_of_length_le (by rw [trimz_len]; exact Nat.le_refl _)]
    rfl


theorem mline_ok (a b : RI) (ha : Sz (2 ^ 35) a) (hb : Sz (2 ^ 35) b) : AC Tryz.prog 78 [cr a, cr b] none [cp [iv b, iv a]] := by
  refine AC.by_walk (rs := [.tmp 4]) ords Tryz.func78 (by rfl) (by rfl) (by rfl) (by rfl) (by rfl) ?_
  simp (disch := omega) only [wk, tis, Int.reduceNe, Int.reduceEq, Int.reduceLT, Int.reduceLE, Int.reduceAdd, Int.reduceSub, Int.reduceNeg, Int.reduceMul, Int.reduceToNat, Nat.reduceSub, Nat.reduceMul, Nat.reduceLeDiff, Nat.reduceAdd, Nat.reduceLT, Nat.reduceEqDiff, reduceCtorEq, ↓reduceIte]
  have := pnorm_ok [b, a] ⟨by simp, fun c hc => by
    rcases List.mem_cons.1 hc with rfl | hc
    · exact hb.mono (by omega)
    · rw [List.mem_singleton.1 hc]; exact ha.mono (by omega)⟩
  have e : pv [b, a] = [iv b, iv a] := rfl
  rw [e] at this
  refine call_by (this) (by rfl) (by simp) ?_
  simp (disch := omega) only [wk, tis, Int.reduceNe, Int.reduceEq, Int.reduceLT, Int.reduceLE, Int.reduceAdd, Int.reduceSub, Int.reduceNeg, Int.reduceMul, Int.reduceToNat, Nat.reduceSub, Nat.reduceMul, Nat.reduceLeDiff, Nat.reduceAdd, Nat.reduceLT, Nat.reduceEqDiff, reduceCtorEq, ↓reduceIte]

theorem cpoly_two (q : List Int) : ∀ r ∈ cpoly q, r.length = 2 := fun r hr => by
  obtain ⟨c, _, rfl⟩ := List.mem_map.1 hr
  rfl
theorem cpoly_len' (q : List Int) : (cpoly q).length = tz q := by simp [cpoly, raws, trimz_len]
theorem cpoly_getD (q : List Int) {i : Nat} (h : i < tz q) : (cpoly q).getD i [] = prow (canon (cf q i)) := by
  have hl : i < (trimz q).length := by rw [trimz_len]; exact h
  have e : cf q i = (trimz q)[i] := by rw [← cf_trimz]; simp [cf, List.getD, hl]
  rw [e]
  simp [cpoly, raws, List.getD, hl]
theorem drop_trimz (q : List Int) {i : Nat} (h : i < tz q) : (trimz q).drop i = cf q i :: (trimz q).drop (i + 1) := by
  have hl : i < (trimz q).length := by rw [trimz_len]; exact h
  have e : cf q i = (trimz q)[i] := by rw [← cf_trimz]; simp [cf, List.getD, hl]
  rw [e, List.drop_eq_getElem_cons hl]

theorem lh_bounds {m : Nat} (h : m ≤ 2 ^ 10) : m * 2 ^ 10 + 1 ≤ 2 ^ 20 + 1 ∧ m * (2 ^ 20 + 2) + 2 ^ 20 + 3 ≤ 2 ^ 32 := by
  constructor <;> omega

theorem mcompose_ok (p q : List RI) (hp : RP (2 ^ 10) (2 ^ 20) p) (hq : RP (2 ^ 10) (2 ^ 20) q) : AC Tryz.prog 7 [cw p, cw q] none [cp (lhom (trimz (pv p)) (pv q) [1])] := by
  refine AC.by_walk (rs := [.tmp 4]) ords Tryz.func7 (by rfl) (by rfl) (by rfl) (by rfl) (by rfl) ?_
  simp (disch := omega) only [wk, tis, Int.reduceNe, Int.reduceEq, Int.reduceLT, Int.reduceLE, Int.reduceAdd, Int.reduceSub, Int.reduceNeg, Int.reduceMul, Int.reduceToNat, Nat.reduceSub, Nat.reduceMul, Nat.reduceLeDiff, Nat.reduceAdd, Nat.reduceLT, Nat.reduceEqDiff, reduceCtorEq, ↓reduceIte]
  refine call_by ((pnorm_ok p (hp.mono (by omega) (by omega)))) (by rfl) (by simp) ?_
  simp (disch := omega) only [wk, tis, Int.reduceNe, Int.reduceEq, Int.reduceLT, Int.reduceLE, Int.reduceAdd, Int.reduceSub, Int.reduceNeg, Int.reduceMul, Int.reduceToNat, Nat.reduceSub, Nat.reduceMul, Nat.reduceLeDiff, Nat.reduceAdd, Nat.reduceLT, Nat.reduceEqDiff, reduceCtorEq, ↓reduceIte]
  refine call_by ((back_ok (cpoly (pv p)))) (by rfl) (by simp) ?_
  simp (disch := omega) only [wk, tis, Int.reduceNe, Int.reduceEq, Int.reduceLT, Int.reduceLE, Int.reduceAdd, Int.reduceSub, Int.reduceNeg, Int.reduceMul, Int.reduceToNat, Nat.reduceSub, Nat.reduceMul, Nat.reduceLeDiff, Nat.reduceAdd, Nat.reduceLT, Nat.reduceEqDiff, reduceCtorEq, ↓reduceIte]
  have hA := hp.pv.trimz
  have hlt : tz (pv p) ≤ 2 ^ 10 := by rw [← trimz_len]; exact hA.1
  have hdr : ∀ i, PB (2 ^ 10) (2 ^ 20) ((trimz (pv p)).drop i) := fun i => ⟨by rw [List.length_drop]; have := hA.1; omega, fun z hz => hA.2 z (List.mem_of_mem_drop hz)⟩
  have hone : PB (2 ^ 10) (2 ^ 20) [1] := .one (by omega) (by omega)
  have hB : ∀ i, PB (2 ^ 20 + 1) (2 ^ 32) (lhom ((trimz (pv p)).drop i) (pv q) [1]) := fun i => by
    have h := pb_lhom hq.pv hone (by omega) (by omega) (hdr i)
    exact h.mono (lh_bounds (hdr i).1).1 (lh_bounds (hdr i).1).2
  have hcl := cpoly_len' (pv p)
  refine range_by (l := [.ip [.sl (cpoly (pv p))]]) (c := True ∧ True) (ms := []) (back_iter (rows := cpoly (pv p)) (cpoly_two _) (by omega)) (fun k H2 => k ≤ tz (pv p) ∧ H2 3 = HC.blk false 1 23 1 [[.sl (raws q)]] ∧ H2 5 = HC.blk false 1 23 1 [[.sl (cpoly (lhom ((trimz (pv p)).drop (tz (pv p) - k)) (pv q) [1]))]]) (by simp (disch := omega) only [wk, tis, Int.reduceNe, Int.reduceEq, Int.reduceLT, Int.reduceLE, Int.reduceAdd, Int.reduceSub, Int.reduceNeg, Int.reduceMul, Int.reduceToNat, Nat.reduceSub, Nat.reduceMul, Nat.reduceLeDiff, Nat.reduceAdd, Nat.reduceLT, Nat.reduceEqDiff, reduceCtorEq, ↓reduceIte]) (by rfl) ⟨trivial, trivial⟩ ?_ ?_ ?_
  · rw [List.drop_of_length_le (by rw [trimz_len]; omega)]
    refine ⟨by omega, by simp (disch := omega) only [wk, tis, Int.reduceNe, Int.reduceEq, Int.reduceLT, Int.reduceLE, Int.reduceAdd, Int.reduceSub, Int.reduceNeg, Int.reduceMul, Int.reduceToNat, Nat.reduceSub, Nat.reduceMul, Nat.reduceLeDiff, Nat.reduceAdd, Nat.reduceLT, Nat.reduceEqDiff, reduceCtorEq, ↓reduceIte], by simp (disch := omega) only [wk, tis, Int.reduceNe, Int.reduceEq, Int.reduceLT, Int.reduceLE, Int.reduceAdd, Int.reduceSub, Int.reduceNeg, Int.reduceMul, Int.reduceToNat, Nat.reduceSub, Nat.reduceMul, Nat.reduceLeDiff, Nat.reduceAdd, Nat.reduceLT, Nat.reduceEqDiff, reduceCtorEq, ↓reduceIte, show cpoly (lhom [] (pv q) [1]) = [] from rfl]⟩
  · rintro k H2 hk ⟨hk', h3, h5⟩
    rw [hcl] at hk
    rw [hcl, cpoly_getD _ (by omega)]
    simp (disch := omega) only [wk, tis, Int.reduceNe, Int.reduceEq, Int.reduceLT, Int.reduceLE, Int.reduceAdd, Int.reduceSub, Int.reduceNeg, Int.reduceMul, Int.reduceToNat, Nat.reduceSub, Nat.reduceMul, Nat.reduceLeDiff, Nat.reduceAdd, Nat.reduceLT, Nat.reduceEqDiff, reduceCtorEq, ↓reduceIte, h3, h5]
    refine ⟨tmps_by (by kernel_rfl), ?_⟩
    obtain ⟨i, hi⟩ : ∃ i, i = tz (pv p) - 1 - k := ⟨_, rfl⟩
    have hi1 : tz (pv p) - k = i + 1 := by omega
    have hi2 : tz (pv p) - (k + 1) = i := by omega
    have hdi := drop_trimz (pv p) (i := i) (by omega)
    rw [hi1, ← hi]
    have hBi := hB (i + 1)
    have eo := ps_lhom ((trimz (pv p)).drop i) (pv q) [1]
    rw [hdi] at eo
    have eo1 := ps_lhom ((trimz (pv p)).drop (i + 1)) (pv q) [1]
    generalize lhom ((trimz (pv p)).drop (i + 1)) (pv q) [1] = out at hBi eo1 ⊢
    have zc := hp.pv.cf i
    have m := pmul_g (a := cn out) (b := q) (rp_cn (hBi.mono (by omega) (by omega))) (hq.mono (by omega) (by omega)) (ps_cn out) rfl
    refine call_by (m) (by first | rfl | (simp only [tocvs, tocv, h3, h5]; rfl) | (simp only [tocvs, tocv, toboxes, tobox, updH_at, Nat.reduceEqDiff, ↓reduceIte, h3, h5]; rfl)) (by simp) ?_
    simp (disch := omega) only [wk, tis, Int.reduceNe, Int.reduceEq, Int.reduceLT, Int.reduceLE, Int.reduceAdd, Int.reduceSub, Int.reduceNeg, Int.reduceMul, Int.reduceToNat, Nat.reduceSub, Nat.reduceMul, Nat.reduceLeDiff, Nat.reduceAdd, Nat.reduceLT, Nat.reduceEqDiff, reduceCtorEq, ↓reduceIte, h3, h5]
    have hm := hBi.pmul hq.pv (by decide)
    have s := padd_g (a := cn (pmul out (pv q))) (b := [canon (cf (pv p) i)]) (q := pmul out (pv q)) (r := [cf (pv p) i]) (rp_cn (hm.mono (by omega) (by omega))) (RP.canon (q := [cf (pv p) i]) ⟨by simp, fun z hz => by rw [List.mem_singleton.1 hz]; omega⟩) (ps_cn _) (by show ps [iv (canon (cf (pv p) i))] = _; rw [iv_canon])
    refine call_by (s) (by first | rfl | (simp only [tocvs, tocv, h3, h5]; rfl) | (simp only [tocvs, tocv, toboxes, tobox, updH_at, Nat.reduceEqDiff, ↓reduceIte, h3, h5]; rfl)) (by simp) ?_
    simp (disch := omega) only [wk, tis, Int.reduceNe, Int.reduceEq, Int.reduceLT, Int.reduceLE, Int.reduceAdd, Int.reduceSub, Int.reduceNeg, Int.reduceMul, Int.reduceToNat, Nat.reduceSub, Nat.reduceMul, Nat.reduceLeDiff, Nat.reduceAdd, Nat.reduceLT, Nat.reduceEqDiff, reduceCtorEq, ↓reduceIte, h3, h5]
    first | exact log_by (by kernel_rfl) | refine ⟨log_by (by kernel_rfl), ?_⟩
    refine ⟨by omega, ?_⟩
    rw [hi2]
    have e : cpoly (padd (pmul out (pv q)) [cf (pv p) i]) = cpoly (lhom ((trimz (pv p)).drop i) (pv q) [1]) := cpoly_ext (ps_eq (by
      rw [hdi, eo, ps_padd, ps_pmul, eo1, hom, ps_one, ps_const, pw_one1, PS.mul_one]
      ac_rfl))
    rw [e]
  · rintro H2 ⟨hk', h3, h5⟩
    rw [hcl, Nat.sub_self, List.drop_zero] at h5
    simp (disch := omega) only [wk, tis, Int.reduceNe, Int.reduceEq, Int.reduceLT, Int.reduceLE, Int.reduceAdd, Int.reduceSub, Int.reduceNeg, Int.reduceMul, Int.reduceToNat, Nat.reduceSub, Nat.reduceMul, Nat.reduceLeDiff, Nat.reduceAdd, Nat.reduceLT, Nat.reduceEqDiff, reduceCtorEq, ↓reduceIte, h3, h5]
    have hB0 := hB 0
    rw [List.drop_zero] at hB0
    have m := pnorm_g (a := cn (lhom (trimz (pv p)) (pv q) [1])) (rp_cn (hB0.mono (by omega) (by omega))) (ps_cn _)
    refine call_by (m) (by first | rfl | (simp only [tocvs, tocv, h3, h5]; rfl) | (simp only [tocvs, tocv, toboxes, tobox, updH_at, Nat.reduceEqDiff, ↓reduceIte, h3, h5]; rfl)) (by simp) ?_
    simp (disch := omega) only [wk, tis, Int.reduceNe, Int.reduceEq, Int.reduceLT, Int.reduceLE, Int.reduceAdd, Int.reduceSub, Int.reduceNeg, Int.reduceMul, Int.reduceToNat, Nat.reduceSub, Nat.reduceMul, Nat.reduceLeDiff, Nat.reduceAdd, Nat.reduceLT, Nat.reduceEqDiff, reduceCtorEq, ↓reduceIte, h3, h5]
end Go.Proofs.YtaepoooifkjbmaaGreat

namespace Go.Proofs.YtaepoooifkjbmaaGreat
open Go Go.Proofs Go.AL
set_option linter.unusedSimpArgs false
set_option linter.unusedVariables false

theorem trimz_cn (q : List Int) : trimz (pv (cn q)) = trimz q := trimz_ext (ps_eq (ps_cn q))
theorem pb_two {b a : RI} {K : Nat} (hb : Sz K b) (ha : Sz K a) : PB (2 ^ 10) K [iv b, iv a] := ⟨by simp, fun z hz => by
  rcases List.mem_cons.1 hz with rfl | hz
  · exact zl_iv hb
  · rw [List.mem_singleton.1 hz]; exact zl_iv ha⟩

theorem moeb_step {out Q R : PS} {c : Int} {p : List Int} {n : Nat} (hn : p.length = n) (h : out = hom p Q R) : out * Q + PS.C c * PS.pw R n = hom (c :: p) Q R := by
  rw [hom, h, hn]
  ac_rfl

theorem mmoebius_ok (p : List RI) (a b c d : RI) (hp : RP (2 ^ 10) (2 ^ 20) p) (ha : Sz (2 ^ 20) a) (hb : Sz (2 ^ 20) b) (hc : Sz (2 ^ 20) c) (hd : Sz (2 ^ 20) d) :
    AC Tryz.prog 51 [cw p, cr a, cr b, cr c, cr d] none [cp (lhom (trimz (pv p)) [iv b, iv a] [iv d, iv c])] := by
  refine AC.by_walk (rs := [.tmp 10]) ords Tryz.func51 (by rfl) (by rfl) (by rfl) (by rfl) (by rfl) ?_
  simp (disch := omega) only [wk, tis, Int.reduceNe, Int.reduceEq, Int.reduceLT, Int.reduceLE, Int.reduceAdd, Int.reduceSub, Int.reduceNeg, Int.reduceMul, Int.reduceToNat, Nat.reduceSub, Nat.reduceMul, Nat.reduceLeDiff, Nat.reduceAdd, Nat.reduceLT, Nat.reduceEqDiff, reduceCtorEq, ↓reduceIte]
  refine call_by ((pnorm_ok p (hp.mono (by omega) (by omega)))) (by rfl) (by simp) ?_
  simp (disch := omega) only [wk, tis, Int.reduceNe, Int.reduceEq, Int.reduceLT, Int.reduceLE, Int.reduceAdd, Int.reduceSub, Int.reduceNeg, Int.reduceMul, Int.reduceToNat, Nat.reduceSub, Nat.reduceMul, Nat.reduceLeDiff, Nat.reduceAdd, Nat.reduceLT, Nat.reduceEqDiff, reduceCtorEq, ↓reduceIte]
  refine ⟨tmps_by (by kernel_rfl), ?_⟩
  refine call_by ((mline_ok a b (ha.mono (by omega)) (hb.mono (by omega)))) (by rfl) (by simp) ?_
  simp (disch := omega) only [wk, tis, Int.reduceNe, Int.reduceEq, Int.reduceLT, Int.reduceLE, Int.reduceAdd, Int.reduceSub, Int.reduceNeg, Int.reduceMul, Int.reduceToNat, Nat.reduceSub, Nat.reduceMul, Nat.reduceLeDiff, Nat.reduceAdd, Nat.reduceLT, Nat.reduceEqDiff, reduceCtorEq, ↓reduceIte]
  refine call_by ((mline_ok c d (hc.mono (by omega)) (hd.mono (by omega)))) (by rfl) (by simp) ?_
  simp (disch := omega) only [wk, tis, Int.reduceNe, Int.reduceEq, Int.reduceLT, Int.reduceLE, Int.reduceAdd, Int.reduceSub, Int.reduceNeg, Int.reduceMul, Int.reduceToNat, Nat.reduceSub, Nat.reduceMul, Nat.reduceLeDiff, Nat.reduceAdd, Nat.reduceLT, Nat.reduceEqDiff, reduceCtorEq, ↓reduceIte]
  first | exact log_by (by kernel_rfl) | refine ⟨log_by (by kernel_rfl), ?_⟩
  refine call_by ((zOf_ok 1 (by omega) (by omega))) (by rfl) (by simp) ?_
  simp (disch := omega) only [wk, tis, Int.reduceNe, Int.reduceEq, Int.reduceLT, Int.reduceLE, Int.reduceAdd, Int.reduceSub, Int.reduceNeg, Int.reduceMul, Int.reduceToNat, Nat.reduceSub, Nat.reduceMul, Nat.reduceLeDiff, Nat.reduceAdd, Nat.reduceLT, Nat.reduceEqDiff, reduceCtorEq, ↓reduceIte]
  refine call_by ((back_ok (cpoly (pv p)))) (by rfl) (by simp) ?_
  simp (disch := omega) only [wk, tis, Int.reduceNe, Int.reduceEq, Int.reduceLT, Int.reduceLE, Int.reduceAdd, Int.reduceSub, Int.reduceNeg, Int.reduceMul, Int.reduceToNat, Nat.reduceSub, Nat.reduceMul, Nat.reduceLeDiff, Nat.reduceAdd, Nat.reduceLT, Nat.reduceEqDiff, reduceCtorEq, ↓reduceIte]
  have hA := hp.pv.trimz
  have hlt : tz (pv p) ≤ 2 ^ 10 := by rw [← trimz_len]; exact hA.1
  have hdr : ∀ i, PB (2 ^ 10) (2 ^ 20) ((trimz (pv p)).drop i) := fun i => ⟨by rw [List.length_drop]; have := hA.1; omega, fun z hz => hA.2 z (List.mem_of_mem_drop hz)⟩
  have hQ := pb_two hb ha
  have hR := pb_two hd hc
  generalize [iv b, iv a] = Q at *
  generalize [iv d, iv c] = R at *
  have hB : ∀ i, PB (2 ^ 20 + 1) (2 ^ 32) (lhom ((trimz (pv p)).drop i) Q R) := fun i => by
    have h := pb_lhom hQ hR (by omega) (by omega) (hdr i)
    exact h.mono (lh_bounds (hdr i).1).1 (lh_bounds (hdr i).1).2
  have hP : ∀ k, k ≤ 2 ^ 10 → PB (2 ^ 20 + 1) (2 ^ 32) (ppow R k) := fun k hk => by
    exact (hR.ppow (by decide) k).mono (by omega) (by omega)
  have hcl := cpoly_len' (pv p)
  have e0 : cpoly (ppow R 0) = [prow (canon 1)] := rfl
  refine range_by (l := [.ip [.sl (cpoly (pv p))]]) (c := True ∧ True) (ms := []) (back_iter (rows := cpoly (pv p)) (cpoly_two _) (by omega)) (fun k H2 => k ≤ tz (pv p) ∧ H2 11 = HC.blk false 1 23 1 [[.sl (cpoly Q)]] ∧ H2 12 = HC.blk false 1 23 1 [[.sl (cpoly R)]] ∧
    H2 13 = HC.blk false 1 23 1 [[.sl (cpoly (lhom ((trimz (pv p)).drop (tz (pv p) - k)) Q R))]] ∧ H2 14 = HC.blk false 1 23 1 [[.sl (cpoly (ppow R k))]]) (by simp (disch := omega) only [wk, tis, Int.reduceNe, Int.reduceEq, Int.reduceLT, Int.reduceLE, Int.reduceAdd, Int.reduceSub, Int.reduceNeg, Int.reduceMul, Int.reduceToNat, Nat.reduceSub, Nat.reduceMul, Nat.reduceLeDiff, Nat.reduceAdd, Nat.reduceLT, Nat.reduceEqDiff, reduceCtorEq, ↓reduceIte]) (by rfl) ⟨trivial, trivial⟩ ?_ ?_ ?_
  · rw [List.drop_of_length_le (by rw [trimz_len]; omega)]
    refine ⟨by omega, by simp (disch := omega) only [wk, tis, Int.reduceNe, Int.reduceEq, Int.reduceLT, Int.reduceLE, Int.reduceAdd, Int.reduceSub, Int.reduceNeg, Int.reduceMul, Int.reduceToNat, Nat.reduceSub, Nat.reduceMul, Nat.reduceLeDiff, Nat.reduceAdd, Nat.reduceLT, Nat.reduceEqDiff, reduceCtorEq, ↓reduceIte], by simp (disch := omega) only [wk, tis, Int.reduceNe, Int.reduceEq, Int.reduceLT, Int.reduceLE, Int.reduceAdd, Int.reduceSub, Int.reduceNeg, Int.reduceMul, Int.reduceToNat, Nat.reduceSub, Nat.reduceMul, Nat.reduceLeDiff, Nat.reduceAdd, Nat.reduceLT, Nat.reduceEqDiff, reduceCtorEq, ↓reduceIte], by simp (disch := omega) only [wk, tis, Int.reduceNe, Int.reduceEq, Int.reduceLT, Int.reduceLE, Int.reduceAdd, Int.reduceSub, Int.reduceNeg, Int.reduceMul, Int.reduceToNat, Nat.reduceSub, Nat.reduceMul, Nat.reduceLeDiff, Nat.reduceAdd, Nat.reduceLT, Nat.reduceEqDiff, reduceCtorEq, ↓reduceIte, show cpoly (lhom [] Q R) = [] from rfl], by simp (disch := omega) only [wk, tis, Int.reduceNe, Int.reduceEq, Int.reduceLT, Int.reduceLE, Int.reduceAdd, Int.reduceSub, Int.reduceNeg, Int.reduceMul, Int.reduceToNat, Nat.reduceSub, Nat.reduceMul, Nat.reduceLeDiff, Nat.reduceAdd, Nat.reduceLT, Nat.reduceEqDiff, reduceCtorEq, ↓reduceIte, e0]⟩
  · rintro k H2 hk ⟨hk', h11, h12, h13, h14⟩
    rw [hcl] at hk
    rw [hcl, cpoly_getD _ (by omega)]
    simp (disch := omega) only [wk, tis, Int.reduceNe, Int.reduceEq, Int.reduceLT, Int.reduceLE, Int.reduceAdd, Int.reduceSub, Int.reduceNeg, Int.reduceMul, Int.reduceToNat, Nat.reduceSub, Nat.reduceMul, Nat.reduceLeDiff, Nat.reduceAdd, Nat.reduceLT, Nat.reduceEqDiff, reduceCtorEq, ↓reduceIte, h11, h12, h13, h14]
    refine ⟨tmps_by (by kernel_rfl), ?_⟩
    obtain ⟨i, hi⟩ : ∃ i, i = tz (pv p) - 1 - k := ⟨_, rfl⟩
    have hi1 : tz (pv p) - k = i + 1 := by omega
    have hi2 : tz (pv p) - (k + 1) = i := by omega
    have hdi := drop_trimz (pv p) (i := i) (by omega)
    rw [hi1, ← hi]
    rw [hi1] at h13
    have hBi := hB (i + 1)
    have hPk := hP k (by omega)
    have eo := ps_lhom ((trimz (pv p)).drop i) Q R
    rw [hdi] at eo
    have eo1 := ps_lhom ((trimz (pv p)).drop (i + 1)) Q R
    have hlk : ((trimz (pv p)).drop (i + 1)).length = k := by rw [List.length_drop, trimz_len]; omega
    have ep := ps_ppow R k
    have ep1 : cpoly (pmul (ppow R k) R) = cpoly (ppow R (k + 1)) := cpoly_ext (ps_eq (by rw [ps_pmul, ps_ppow, ps_ppow, PS.pw]))
    generalize ppow R k = pw at hPk ep ep1 h14 ⊢
    generalize lhom ((trimz (pv p)).drop (i + 1)) Q R = out at hBi eo1 h13 ⊢
    have zc := hp.pv.cf i
    have m := pmul_g (a := cn out) (b := cn Q) (rp_cn (hBi.mono (by omega) (by omega))) (rp_cn (hQ.mono (by omega) (by omega))) (ps_cn out) (ps_cn Q)
    refine call_by (m) (by first | rfl | (simp only [tocvs, tocv, h11, h12, h13, h14]; rfl) | (simp only [tocvs, tocv, toboxes, tobox, updH_at, Nat.reduceEqDiff, ↓reduceIte, h11, h12, h13, h14]; rfl)) (by simp) ?_
    simp (disch := omega) only [wk, tis, Int.reduceNe, Int.reduceEq, Int.reduceLT, Int.reduceLE, Int.reduceAdd, Int.reduceSub, Int.reduceNeg, Int.reduceMul, Int.reduceToNat, Nat.reduceSub, Nat.reduceMul, Nat.reduceLeDiff, Nat.reduceAdd, Nat.reduceLT, Nat.reduceEqDiff, reduceCtorEq, ↓reduceIte, h11, h12, h13, h14]
    have t := pscale_g (a := cn pw) (c := canon (cf (pv p) i)) (rp_cn (hPk.mono (by omega) (by omega))) ((sz_canon _).mono (by omega)) (ps_cn pw)
    rw [iv_canon] at t
    refine call_by (t) (by first | rfl | (simp only [tocvs, tocv, h11, h12, h13, h14]; rfl) | (simp only [tocvs, tocv, toboxes, tobox, updH_at, Nat.reduceEqDiff, ↓reduceIte, h11, h12, h13, h14]; rfl)) (by simp) ?_
    simp (disch := omega) only [wk, tis, Int.reduceNe, Int.reduceEq, Int.reduceLT, Int.reduceLE, Int.reduceAdd, Int.reduceSub, Int.reduceNeg, Int.reduceMul, Int.reduceToNat, Nat.reduceSub, Nat.reduceMul, Nat.reduceLeDiff, Nat.reduceAdd, Nat.reduceLT, Nat.reduceEqDiff, reduceCtorEq, ↓reduceIte, h11, h12, h13, h14]
    have hm := hBi.pmul hQ (by decide)
    have ht := hPk.pscale (c := cf (pv p) i)
    have s := padd_g (a := cn (pmul out Q)) (b := cn (pscale (cf (pv p) i) pw)) (rp_cn (hm.mono (by omega) (by omega))) (rp_cn (ht.mono (by omega) (by omega))) (ps_cn _) (ps_cn _)
    refine call_by (s) (by first | rfl | (simp only [tocvs, tocv, h11, h12, h13, h14]; rfl) | (simp only [tocvs, tocv, toboxes, tobox, updH_at, Nat.reduceEqDiff, ↓reduceIte, h11, h12, h13, h14]; rfl)) (by simp) ?_
    simp (disch := omega) only [wk, tis, Int.reduceNe, Int.reduceEq, Int.reduceLT, Int.reduceLE, Int.reduceAdd, Int.reduceSub, Int.reduceNeg, Int.reduceMul, Int.reduceToNat, Nat.reduceSub, Nat.reduceMul, Nat.reduceLeDiff, Nat.reduceAdd, Nat.reduceLT, Nat.reduceEqDiff, reduceCtorEq, ↓reduceIte, h11, h12, h13, h14]
    first | exact log_by (by kernel_rfl) | refine ⟨log_by (by kernel_rfl), ?_⟩
    have u := pmul_g (a := cn pw) (b := cn R) (rp_cn (hPk.mono (by omega) (by omega))) (rp_cn (hR.mono (by omega) (by omega))) (ps_cn pw) (ps_cn R)
    refine call_by (u) (by first | rfl | (simp only [tocvs, tocv, h11, h12, h13, h14]; rfl) | (simp only [tocvs, tocv, toboxes, tobox, updH_at, Nat.reduceEqDiff, ↓reduceIte, h11, h12, h13, h14]; rfl)) (by simp) ?_
    simp (disch := omega) only [wk, tis, Int.reduceNe, Int.reduceEq, Int.reduceLT, Int.reduceLE, Int.reduceAdd, Int.reduceSub, Int.reduceNeg, Int.reduceMul, Int.reduceToNat, Nat.reduceSub, Nat.reduceMul, Nat.reduceLeDiff, Nat.reduceAdd, Nat.reduceLT, Nat.reduceEqDiff, reduceCtorEq, ↓reduceIte, h11, h12, h13, h14]
    refine ⟨by omega, ?_, by rw [ep1]⟩
    rw [hi2, cpoly_ext (ps_eq (p := padd (pmul out Q) (pscale (cf (pv p) i) pw)) (q := lhom ((trimz (pv p)).drop i) Q R) ?_)]
    rw [hdi, eo, ps_padd, ps_pmul, ps_pscale, ep]
    exact moeb_step hlk eo1
  · rintro H2 ⟨hk', h11, h12, h13, h14⟩
    rw [hcl, Nat.sub_self, List.drop_zero] at h13
    simp (disch := omega) only [wk, tis, Int.reduceNe, Int.reduceEq, Int.reduceLT, Int.reduceLE, Int.reduceAdd, Int.reduceSub, Int.reduceNeg, Int.reduceMul, Int.reduceToNat, Nat.reduceSub, Nat.reduceMul, Nat.reduceLeDiff, Nat.reduceAdd, Nat.reduceLT, Nat.reduceEqDiff, reduceCtorEq, ↓reduceIte, h13]
    have hB0 := hB 0
    rw [List.drop_zero] at hB0
    have m := pnorm_g (a := cn (lhom (trimz (pv p)) Q R)) (rp_cn (hB0.mono (by omega) (by omega))) (ps_cn _)
    refine call_by (m) (by first | rfl | (simp only [tocvs, tocv, h13]; rfl) | (simp only [tocvs, tocv, toboxes, tobox, updH_at, Nat.reduceEqDiff, ↓reduceIte, h13]; rfl)) (by simp) ?_
    simp (disch := omega) only [wk, tis, Int.reduceNe, Int.reduceEq, Int.reduceLT, Int.reduceLE, Int.reduceAdd, Int.reduceSub, Int.reduceNeg, Int.reduceMul, Int.reduceToNat, Nat.reduceSub, Nat.reduceMul, Nat.reduceLeDiff, Nat.reduceAdd, Nat.reduceLT, Nat.reduceEqDiff, reduceCtorEq, ↓reduceIte, h13]
end Go.Proofs.YtaepoooifkjbmaaGreat

namespace Go.Proofs.YtaepoooifkjbmaaGreat
open Go Go.Proofs Go.AL
set_option linter.unusedSimpArgs false
set_option linter.unusedVariables false

theorem sg_mul_pow (c : RI) (n : Nat) : sg c.1 (nv c.2 * 2 ^ n) = iv c * 2 ^ n := by
  rw [iv_sg]
  unfold sg
  split
  · rw [Int.neg_mul]; push_cast; rfl
  · push_cast; rfl

theorem zl_pow2 (n : Nat) : zl (2 ^ n) ≤ n / 64 + 1 := by
  refine zl_le.mpr ?_
  have e : (2 ^ n : Int).natAbs = 2 ^ n := by rw [Int.natAbs_pow]; rfl
  rw [e, show W = 2 ^ 64 from rfl, ← Nat.pow_mul]
  exact Nat.pow_lt_pow_right (by decide) (by omega)

theorem zshl_ok (a : RI) (n : Nat) (ha : Sz (2 ^ 39) a) (hn : n ≤ 1048576) : AC Tryz.prog 106 [cr a, ci n] none [cz (iv a * 2 ^ n), ci 0] := by
  refine AC.by_walk (rs := [.cell 4 27, .tmp 5]) ords Tryz.func106 (by rfl) (by rfl) (by rfl) (by rfl) (by rfl) ?_
  have h1 : ¬ (n : Int) < 0 := by omega
  have h2 : ¬ 1048576 < (n : Int) := by omega
  simp (disch := omega) only [wk, tis, Int.reduceNe, Int.reduceEq, Int.reduceLT, Int.reduceLE, Int.reduceAdd, Int.reduceSub, Int.reduceNeg, Int.reduceMul, Int.reduceToNat, Nat.reduceSub, Nat.reduceMul, Nat.reduceLeDiff, Nat.reduceAdd, Nat.reduceLT, Nat.reduceEqDiff, reduceCtorEq, ↓reduceIte, h1, h2]
  refine call_by ((nshl_ok a.2 n ha.2 ha.1 hn)) (by first | rfl | (simp only [tocvs, tocv, h1, h2]; rfl) | (simp only [tocvs, tocv, toboxes, tobox, updH_at, Nat.reduceEqDiff, ↓reduceIte, h1, h2]; rfl)) (by simp) ?_
  simp (disch := omega) only [wk, tis, Int.reduceNe, Int.reduceEq, Int.reduceLT, Int.reduceLE, Int.reduceAdd, Int.reduceSub, Int.reduceNeg, Int.reduceMul, Int.reduceToNat, Nat.reduceSub, Nat.reduceMul, Nat.reduceLeDiff, Nat.reduceAdd, Nat.reduceLT, Nat.reduceEqDiff, reduceCtorEq, ↓reduceIte, h1, h2]
  have := zof_ok a.1 (nv a.2 * 2 ^ n)
  rw [sg_mul_pow] at this
  refine call_by (this) (by first | rfl | (simp only [tocvs, tocv, h1, h2]; rfl) | (simp only [tocvs, tocv, toboxes, tobox, updH_at, Nat.reduceEqDiff, ↓reduceIte, h1, h2]; rfl)) (by simp) ?_
  simp (disch := omega) only [wk, tis, Int.reduceNe, Int.reduceEq, Int.reduceLT, Int.reduceLE, Int.reduceAdd, Int.reduceSub, Int.reduceNeg, Int.reduceMul, Int.reduceToNat, Nat.reduceSub, Nat.reduceMul, Nat.reduceLeDiff, Nat.reduceAdd, Nat.reduceLT, Nat.reduceEqDiff, reduceCtorEq, ↓reduceIte, h1, h2]

theorem mshl_ok (c : RI) (n : Nat) (hc : Sz (2 ^ 30) c) (hn : n ≤ 2 ^ 30) : AC Tryz.prog 77 [cr c, ci n] none [cz (iv c * 2 ^ n)] := by
  refine AC.by_walk (rs := [.cell 4 27]) ords Tryz.func77 (by rfl) (by rfl) (by rfl) (by rfl) (by rfl) ?_
  simp (disch := omega) only [wk, tis, Int.reduceNe, Int.reduceEq, Int.reduceLT, Int.reduceLE, Int.reduceAdd, Int.reduceSub, Int.reduceNeg, Int.reduceMul, Int.reduceToNat, Nat.reduceSub, Nat.reduceMul, Nat.reduceLeDiff, Nat.reduceAdd, Nat.reduceLT, Nat.reduceEqDiff, reduceCtorEq, ↓reduceIte]
  refine aloop_by (fun f H => ∃ (m : Nat) (x : RI) (st2 st4 : Nat), m ≤ n ∧ iv x * 2 ^ m = iv c * 2 ^ n ∧ Sz (2 ^ 30 + 2 * (n - m)) x ∧ f 1 = .iv (.int .i64 m) ∧ f 2 = .hp 2 st2 0 0 ∧ H 2 = .blk false st2 27 2 [prow x] ∧ f 4 = .hp 4 st4 0 0 ∧ H 4 = .blk false st4 27 2 [prow (false, [])]) (fun f H => (intAt f 1 - 0).toNat) ?_ ?_
  · refine ⟨n, c, 1, 1, by omega, rfl, hc.mono (by omega), ?_⟩
    simp (disch := omega) only [wk, tis, Int.reduceNe, Int.reduceEq, Int.reduceLT, Int.reduceLE, Int.reduceAdd, Int.reduceSub, Int.reduceNeg, Int.reduceMul, Int.reduceToNat, Nat.reduceSub, Nat.reduceMul, Nat.reduceLeDiff, Nat.reduceAdd, Nat.reduceLT, Nat.reduceEqDiff, reduceCtorEq, ↓reduceIte]
  rintro f H ⟨m, x, st2, st4, hm, hx, hs, hF⟩
  rw [intAt_of hF.1]
  simp (disch := omega) only [wk, tis, Int.reduceNe, Int.reduceEq, Int.reduceLT, Int.reduceLE, Int.reduceAdd, Int.reduceSub, Int.reduceNeg, Int.reduceMul, Int.reduceToNat, Nat.reduceSub, Nat.reduceMul, Nat.reduceLeDiff, Nat.reduceAdd, Nat.reduceLT, Nat.reduceEqDiff, reduceCtorEq, ↓reduceIte, hF]
  refine if_by (fun hlt => ?_) (fun hlt => ?_)
  · obtain ⟨e, he⟩ : ∃ e : Nat, e = 65536 := ⟨_, rfl⟩
    have q := zshl_ok x e (hs.mono (by omega)) (by omega)
    have he' : ((e : Nat) : Int) = 65536 := by omega
    rw [he'] at q
    have em : (m : Int) - 65536 = ((m - e : Nat) : Int) := by omega
    simp (disch := omega) only [wk, tis, Int.reduceNe, Int.reduceEq, Int.reduceLT, Int.reduceLE, Int.reduceAdd, Int.reduceSub, Int.reduceNeg, Int.reduceMul, Int.reduceToNat, Nat.reduceSub, Nat.reduceMul, Nat.reduceLeDiff, Nat.reduceAdd, Nat.reduceLT, Nat.reduceEqDiff, reduceCtorEq, ↓reduceIte, hF, em]
    refine call_by (q) (by first | rfl | (simp only [tocvs, tocv, hF, em]; rfl) | (simp only [tocvs, tocv, toboxes, tobox, updH_at, Nat.reduceEqDiff, ↓reduceIte, hF, em]; rfl)) (by simp) ?_
    simp (disch := omega) only [wk, tis, Int.reduceNe, Int.reduceEq, Int.reduceLT, Int.reduceLE, Int.reduceAdd, Int.reduceSub, Int.reduceNeg, Int.reduceMul, Int.reduceToNat, Nat.reduceSub, Nat.reduceMul, Nat.reduceLeDiff, Nat.reduceAdd, Nat.reduceLT, Nat.reduceEqDiff, reduceCtorEq, ↓reduceIte, hF, em]
    have hz := zl_mul (iv x) (2 ^ e)
    have hz1 := zl_pow2 e
    have hz2 := zl_iv hs
    refine ⟨⟨m - e, canon (iv x * 2 ^ e), st2, st4, by omega, ?_, (sz_canon _).mono (by omega), by omega, rfl, rfl, rfl, rfl⟩, by omega⟩
    rw [iv_canon, Int.mul_assoc, ← Int.pow_add, show e + (m - e) = m by omega, hx]
  · simp (disch := omega) only [wk, tis, Int.reduceNe, Int.reduceEq, Int.reduceLT, Int.reduceLE, Int.reduceAdd, Int.reduceSub, Int.reduceNeg, Int.reduceMul, Int.reduceToNat, Nat.reduceSub, Nat.reduceMul, Nat.reduceLeDiff, Nat.reduceAdd, Nat.reduceLT, Nat.reduceEqDiff, reduceCtorEq, ↓reduceIte, hF]
    have q := zshl_ok x m (hs.mono (by omega)) (by omega)
    refine call_by (q) (by first | rfl | (simp only [tocvs, tocv, hF]; rfl) | (simp only [tocvs, tocv, toboxes, tobox, updH_at, Nat.reduceEqDiff, ↓reduceIte, hF]; rfl)) (by simp) ?_
    simp (disch := omega) only [wk, tis, Int.reduceNe, Int.reduceEq, Int.reduceLT, Int.reduceLE, Int.reduceAdd, Int.reduceSub, Int.reduceNeg, Int.reduceMul, Int.reduceToNat, Nat.reduceSub, Nat.reduceMul, Nat.reduceLeDiff, Nat.reduceAdd, Nat.reduceLT, Nat.reduceEqDiff, reduceCtorEq, ↓reduceIte, hF]
    rw [hx]

/-- Each coefficient weighed. -/
def wt (t : Int) : List Int → List Int
  | [] => []
  | c :: p => c * t ^ p.length :: wt t p
theorem wt_len (t : Int) (p : List Int) : (wt t p).length = p.length := by induction p <;> simp_all [wt]
theorem cf_wt (t : Int) (p : List Int) (i : Nat) : cf (wt t p) i = cf p i * t ^ (p.length - 1 - i) := by
  induction p generalizing i with
  | nil => simp [wt, cf]
  | cons c p ih =>
    cases i with
    | zero => simp [wt, cf]
    | succ i =>
      have := ih i
      simp only [wt, cf, List.getD_cons_succ, List.length_cons] at this ⊢
      rw [this]
      congr 2
      omega
theorem ext_cf {p q : List Int} (hl : p.length = q.length) (h : ∀ k, k < p.length → cf p k = cf q k) : p = q :=
  List.ext_getElem hl fun i h1 h2 => by have := h i h1; simpa [cf, List.getD, h1, h2] using this
theorem trimz_of_last {p : List Int} (h : p ≠ [] → cf p (p.length - 1) ≠ 0) : trimz p = p := by
  by_cases e : p = []
  · subst e; rfl
  · have hl : 0 < p.length := List.length_pos_iff.2 e
    have := tz_full (q := p) (k := p.length - 1) (by omega) (h e)
    rw [show p.length - 1 + 1 = p.length by omega, List.take_length] at this
    rw [trimz, this, List.take_length]
theorem trimz_wt {t : Int} (ht : t ≠ 0) (p : List Int) : trimz (wt t (trimz p)) = wt t (trimz p) := by
  refine trimz_of_last fun hne => ?_
  rw [wt_len, cf_wt, cf_trimz, trimz_len]
  have hz : tz p ≠ 0 := fun e => hne (by rw [trimz_nil e]; rfl)
  rw [show tz p - 1 - (tz p - 1) = 0 by omega, Int.pow_zero, Int.mul_one]
  exact cf_tz_pred hz

theorem two_pow_ne (k : Nat) : (2 : Int) ^ k ≠ 0 := Int.pow_ne_zero (by decide)

theorem zl_wt2 {N K k : Nat} {p : List Int} (h : PB N K p) (hk : N * k ≤ 2 ^ 28) : PB N (K + (N * k) / 64 + 1) (wt (2 ^ k) p) := .of (by rw [wt_len]; exact h.1) fun i => by
  rw [cf_wt, ← Int.pow_mul]
  have h1 := zl_mul (cf p i) (2 ^ (k * (p.length - 1 - i)))
  have h2 := zl_pow2 (k * (p.length - 1 - i))
  have h3 := h.cf i
  have h4 : k * (p.length - 1 - i) ≤ N * k := by rw [Nat.mul_comm N]; exact Nat.mul_le_mul_left _ (by have := h.1; omega)
  omega

theorem mweigh_ok (p : List RI) (k : Nat) (hp : RP (2 ^ 10) (2 ^ 20) p) (hk : k ≤ 65536) : AC Tryz.prog 48 [cw p, ci k] (some (0, 27, 2, cpoly (wt (2 ^ k) (trimz (pv p))))) [cp (wt (2 ^ k) (trimz (pv p)))] := by
  have e : cpoly (wt (2 ^ k) (trimz (pv p))) = raws ((wt (2 ^ k) (trimz (pv p))).map canon) := by rw [cpoly, trimz_wt (two_pow_ne k)]
  unfold cp
  rw [e]
  refine AC.by_walk (rs := [.tmp 4]) ords Tryz.func48 (by rfl) (by rfl) (by rfl) (by rfl) (by rfl) ?_
  simp (disch := omega) only [wk, tis, Int.reduceNe, Int.reduceEq, Int.reduceLT, Int.reduceLE, Int.reduceAdd, Int.reduceSub, Int.reduceNeg, Int.reduceMul, Int.reduceToNat, Nat.reduceSub, Nat.reduceMul, Nat.reduceLeDiff, Nat.reduceAdd, Nat.reduceLT, Nat.reduceEqDiff, reduceCtorEq, ↓reduceIte]
  refine call_by ((pnormo_ok p (hp.mono (by omega) (by omega)))) (by rfl) (by simp) ?_
  simp (disch := omega) only [wk, tis, Int.reduceNe, Int.reduceEq, Int.reduceLT, Int.reduceLE, Int.reduceAdd, Int.reduceSub, Int.reduceNeg, Int.reduceMul, Int.reduceToNat, Nat.reduceSub, Nat.reduceMul, Nat.reduceLeDiff, Nat.reduceAdd, Nat.reduceLT, Nat.reduceEqDiff, reduceCtorEq, ↓reduceIte]
  have hA := hp.pv.trimz
  unfold cpoly
  generalize trimz (pv p) = A at *
  have hAl := hA.1
  have hq : (A.map canon).length = A.length := by simp
  simp (disch := omega) only [wk, tis, Int.reduceNe, Int.reduceEq, Int.reduceLT, Int.reduceLE, Int.reduceAdd, Int.reduceSub, Int.reduceNeg, Int.reduceMul, Int.reduceToNat, Nat.reduceSub, Nat.reduceMul, Nat.reduceLeDiff, Nat.reduceAdd, Nat.reduceLT, Nat.reduceEqDiff, reduceCtorEq, ↓reduceIte, hq]
  refine aloop_by (fun f H => ∃ (i st : Nat) (cur : List Int), i ≤ A.length ∧ cur.length = A.length ∧ (∀ j, cf cur j = if j < i then cf (wt (2 ^ k) A) j else cf A j) ∧ f 10 = .iv (.int .i64 i) ∧ f 9 = .iv (.int .i64 A.length) ∧ f 1 = .iv (.int .i64 k) ∧ f 0 = .hs 7 st ∧ H 7 = .blk false st 27 2 (raws (cur.map canon))) (fun f H => (A.length - intAt f 10).toNat) ?_ ?_
  · refine ⟨0, 1, A, by omega, rfl, fun j => by simp, ?_⟩
    simp (disch := omega) only [wk, tis, Int.reduceNe, Int.reduceEq, Int.reduceLT, Int.reduceLE, Int.reduceAdd, Int.reduceSub, Int.reduceNeg, Int.reduceMul, Int.reduceToNat, Nat.reduceSub, Nat.reduceMul, Nat.reduceLeDiff, Nat.reduceAdd, Nat.reduceLT, Nat.reduceEqDiff, reduceCtorEq, ↓reduceIte]
  rintro f H ⟨i, st, cur, hi, hcl, hc, hF⟩
  rw [intAt_of hF.1]
  simp (disch := omega) only [wk, tis, Int.reduceNe, Int.reduceEq, Int.reduceLT, Int.reduceLE, Int.reduceAdd, Int.reduceSub, Int.reduceNeg, Int.reduceMul, Int.reduceToNat, Nat.reduceSub, Nat.reduceMul, Nat.reduceLeDiff, Nat.reduceAdd, Nat.reduceLT, Nat.reduceEqDiff, reduceCtorEq, ↓reduceIte, hF]
  have hq : (cur.map canon).length = A.length := by simp [hcl]
  refine if_by (fun hlt => ?_) (fun hlt => ?_)
  · obtain ⟨m, hm⟩ : ∃ m : Nat, m = k * (A.length - 1 - i) := ⟨_, rfl⟩
    have hmb : m ≤ 67108864 := by
      rw [hm]
      exact Nat.le_trans (Nat.mul_le_mul hk (show A.length - 1 - i ≤ 1024 by omega)) (by omega)
    have em : (k : Int) * ((A.length : Int) - 1 - i) = (m : Int) := by rw [hm]; push_cast; congr 1; omega
    have e1 : cf cur i = cf A i := by rw [hc, if_neg (by omega)]
    have zi := hA.cf i
    have q := mshl_ok (canon (cf A i)) m ((sz_canon _).mono (by omega)) (by omega)
    rw [iv_canon] at q
    simp (disch := omega) only [wk, tis, Int.reduceNe, Int.reduceEq, Int.reduceLT, Int.reduceLE, Int.reduceAdd, Int.reduceSub, Int.reduceNeg, Int.reduceMul, Int.reduceToNat, Nat.reduceSub, Nat.reduceMul, Nat.reduceLeDiff, Nat.reduceAdd, Nat.reduceLT, Nat.reduceEqDiff, reduceCtorEq, ↓reduceIte, hF, hq, em, e1]
    refine call_by (q) (by first | rfl | (simp only [tocvs, tocv, hF, hq, em, e1]; rfl) | (simp only [tocvs, tocv, toboxes, tobox, updH_at, Nat.reduceEqDiff, ↓reduceIte, hF, hq, em, e1]; rfl)) (by simp) ?_
    simp (disch := omega) only [wk, tis, Int.reduceNe, Int.reduceEq, Int.reduceLT, Int.reduceLE, Int.reduceAdd, Int.reduceSub, Int.reduceNeg, Int.reduceMul, Int.reduceToNat, Nat.reduceSub, Nat.reduceMul, Nat.reduceLeDiff, Nat.reduceAdd, Nat.reduceLT, Nat.reduceEqDiff, reduceCtorEq, ↓reduceIte, hF, hq, em, e1]
    refine ⟨⟨i + 1, st, cur.set i (cf A i * 2 ^ m), by omega, by simp [hcl], fun j => ?_, by omega, rfl, rfl⟩, by omega⟩
    rw [cf_set (by omega), hc]
    by_cases hj : j = i
    · subst hj
      rw [if_pos rfl, if_pos (by omega), cf_wt, hm, Int.pow_mul]
    · rw [if_neg hj]
      by_cases hj2 : j < i
      · rw [if_pos hj2, if_pos (by omega)]
      · rw [if_neg hj2, if_neg (by omega)]
  · have ew : cur = wt (2 ^ k) A := ext_cf (by rw [wt_len, hcl]) fun j hj => by rw [hc, if_pos (by omega)]
    simp (disch := omega) only [wk, tis, Int.reduceNe, Int.reduceEq, Int.reduceLT, Int.reduceLE, Int.reduceAdd, Int.reduceSub, Int.reduceNeg, Int.reduceMul, Int.reduceToNat, Nat.reduceSub, Nat.reduceMul, Nat.reduceLeDiff, Nat.reduceAdd, Nat.reduceLT, Nat.reduceEqDiff, reduceCtorEq, ↓reduceIte, hF, hq]
    rw [ew]
end Go.Proofs.YtaepoooifkjbmaaGreat

namespace Go.Proofs.YtaepoooifkjbmaaGreat
open Go Go.Proofs Go.AL
set_option linter.unusedSimpArgs false
set_option linter.unusedVariables false

theorem mcompose_g {p q : List RI} {P Q out : List Int} (hp : RP (2 ^ 10) (2 ^ 20) p) (hq : RP (2 ^ 10) (2 ^ 20) q) (ep : ps (pv p) = ps P) (eq : ps (pv q) = ps Q) (eo : ps out = cmp P (ps Q)) : AC Tryz.prog 7 [cw p, cw q] none [cp out] := by
  have h := mcompose_ok p q hp hq
  have e : ps (lhom (trimz (pv p)) (pv q) [1]) = ps out := by
    rw [ps_lhom, eo, ps_one, eq]
    exact (cmp_ps _ (ps_trimz _)).trans (cmp_ps _ ep)
  rwa [cp_ps e] at h

theorem one_sz {K : Nat} (h : 1 ≤ K) : Sz K (canon 1) := (sz_canon 1).mono (by have : zl 1 ≤ 1 := zl_le.mpr (by decide); omega)

theorem mshift_g {p : List RI} {a : RI} {P out : List Int} (hp : RP (2 ^ 10) (2 ^ 20) p) (ha : Sz (2 ^ 20) a) (ep : ps (pv p) = ps P) (eo : ps out = cmp P (ps [iv a, 1])) : AC Tryz.prog 49 [cw p, cr a] none [cp out] := by
  refine AC.by_walk (rs := [.tmp 4]) ords Tryz.func49 (by rfl) (by rfl) (by rfl) (by rfl) (by rfl) ?_
  simp (disch := omega) only [wk, tis, Int.reduceNe, Int.reduceEq, Int.reduceLT, Int.reduceLE, Int.reduceAdd, Int.reduceSub, Int.reduceNeg, Int.reduceMul, Int.reduceToNat, Nat.reduceSub, Nat.reduceMul, Nat.reduceLeDiff, Nat.reduceAdd, Nat.reduceLT, Nat.reduceEqDiff, reduceCtorEq, ↓reduceIte]
  refine ⟨tmps_by (by kernel_rfl), ?_⟩
  refine call_by ((zOf_ok 1 (by omega) (by omega))) (by rfl) (by simp) ?_
  simp (disch := omega) only [wk, tis, Int.reduceNe, Int.reduceEq, Int.reduceLT, Int.reduceLE, Int.reduceAdd, Int.reduceSub, Int.reduceNeg, Int.reduceMul, Int.reduceToNat, Nat.reduceSub, Nat.reduceMul, Nat.reduceLeDiff, Nat.reduceAdd, Nat.reduceLT, Nat.reduceEqDiff, reduceCtorEq, ↓reduceIte]
  have l := mline_ok (canon 1) a (one_sz (by omega)) (ha.mono (by omega))
  rw [iv_canon] at l
  refine call_by (l) (by rfl) (by simp) ?_
  simp (disch := omega) only [wk, tis, Int.reduceNe, Int.reduceEq, Int.reduceLT, Int.reduceLE, Int.reduceAdd, Int.reduceSub, Int.reduceNeg, Int.reduceMul, Int.reduceToNat, Nat.reduceSub, Nat.reduceMul, Nat.reduceLeDiff, Nat.reduceAdd, Nat.reduceLT, Nat.reduceEqDiff, reduceCtorEq, ↓reduceIte]
  have hb := pb_two ha (one_sz (K := 2 ^ 20) (by omega))
  rw [iv_canon] at hb
  have m := mcompose_g (q := cn [iv a, 1]) hp (rp_cn hb) ep (ps_cn _) eo
  refine call_by (m) (by rfl) (by simp) ?_
  simp (disch := omega) only [wk, tis, Int.reduceNe, Int.reduceEq, Int.reduceLT, Int.reduceLE, Int.reduceAdd, Int.reduceSub, Int.reduceNeg, Int.reduceMul, Int.reduceToNat, Nat.reduceSub, Nat.reduceMul, Nat.reduceLeDiff, Nat.reduceAdd, Nat.reduceLT, Nat.reduceEqDiff, reduceCtorEq, ↓reduceIte]
  first | exact log_by (by kernel_rfl) | refine ⟨log_by (by kernel_rfl), ?_⟩

theorem mline2_ok (p : List RI) (hp : RP (2 ^ 10) (2 ^ 20) p) : AC Tryz.prog 21 [cw p] none [cp (lhom (trimz (pv p)) [1, 0] [1, 1])] := by
  refine AC.by_walk (rs := [.tmp 2]) ords Tryz.func21 (by rfl) (by rfl) (by rfl) (by rfl) (by rfl) ?_
  simp (disch := omega) only [wk, tis, Int.reduceNe, Int.reduceEq, Int.reduceLT, Int.reduceLE, Int.reduceAdd, Int.reduceSub, Int.reduceNeg, Int.reduceMul, Int.reduceToNat, Nat.reduceSub, Nat.reduceMul, Nat.reduceLeDiff, Nat.reduceAdd, Nat.reduceLT, Nat.reduceEqDiff, reduceCtorEq, ↓reduceIte]
  refine call_by ((zOf_ok 0 (by omega) (by omega))) (by rfl) (by simp) ?_
  simp (disch := omega) only [wk, tis, Int.reduceNe, Int.reduceEq, Int.reduceLT, Int.reduceLE, Int.reduceAdd, Int.reduceSub, Int.reduceNeg, Int.reduceMul, Int.reduceToNat, Nat.reduceSub, Nat.reduceMul, Nat.reduceLeDiff, Nat.reduceAdd, Nat.reduceLT, Nat.reduceEqDiff, reduceCtorEq, ↓reduceIte]
  refine call_by ((zOf_ok 1 (by omega) (by omega))) (by rfl) (by simp) ?_
  simp (disch := omega) only [wk, tis, Int.reduceNe, Int.reduceEq, Int.reduceLT, Int.reduceLE, Int.reduceAdd, Int.reduceSub, Int.reduceNeg, Int.reduceMul, Int.reduceToNat, Nat.reduceSub, Nat.reduceMul, Nat.reduceLeDiff, Nat.reduceAdd, Nat.reduceLT, Nat.reduceEqDiff, reduceCtorEq, ↓reduceIte]
  refine call_by ((zOf_ok 1 (by omega) (by omega))) (by rfl) (by simp) ?_
  simp (disch := omega) only [wk, tis, Int.reduceNe, Int.reduceEq, Int.reduceLT, Int.reduceLE, Int.reduceAdd, Int.reduceSub, Int.reduceNeg, Int.reduceMul, Int.reduceToNat, Nat.reduceSub, Nat.reduceMul, Nat.reduceLeDiff, Nat.reduceAdd, Nat.reduceLT, Nat.reduceEqDiff, reduceCtorEq, ↓reduceIte]
  refine call_by ((zOf_ok 1 (by omega) (by omega))) (by rfl) (by simp) ?_
  simp (disch := omega) only [wk, tis, Int.reduceNe, Int.reduceEq, Int.reduceLT, Int.reduceLE, Int.reduceAdd, Int.reduceSub, Int.reduceNeg, Int.reduceMul, Int.reduceToNat, Nat.reduceSub, Nat.reduceMul, Nat.reduceLeDiff, Nat.reduceAdd, Nat.reduceLT, Nat.reduceEqDiff, reduceCtorEq, ↓reduceIte]
  have m := mmoebius_ok p (canon 0) (canon 1) (canon 1) (canon 1) hp ((sz_canon 0).mono (by rw [zl_zero]; omega)) (one_sz (by omega)) (one_sz (by omega)) (one_sz (by omega))
  rw [iv_canon, iv_canon] at m
  refine call_by (m) (by rfl) (by simp) ?_
  simp (disch := omega) only [wk, tis, Int.reduceNe, Int.reduceEq, Int.reduceLT, Int.reduceLE, Int.reduceAdd, Int.reduceSub, Int.reduceNeg, Int.reduceMul, Int.reduceToNat, Nat.reduceSub, Nat.reduceMul, Nat.reduceLeDiff, Nat.reduceAdd, Nat.reduceLT, Nat.reduceEqDiff, reduceCtorEq, ↓reduceIte]

theorem mhalves_g {p : List RI} {out : List Int} (hp : RP (2 ^ 10) (2 ^ 19) p) (eo : ps out = cmp (wt 2 (trimz (pv p))) (ps [1, 1])) : AC Tryz.prog 19 [cw p] none [cp (wt 2 (trimz (pv p))), cp out] := by
  have hw := mweigh_ok p 1 (hp.mono (by omega) (by omega)) (by omega)
  have hb := zl_wt2 (k := 1) hp.pv.trimz (by omega)
  rw [Int.pow_one] at hw hb
  refine AC.by_walk (rs := [.tmp 2, .tmp 3]) ords Tryz.func19 (by rfl) (by rfl) (by rfl) (by rfl) (by rfl) ?_
  simp (disch := omega) only [wk, tis, Int.reduceNe, Int.reduceEq, Int.reduceLT, Int.reduceLE, Int.reduceAdd, Int.reduceSub, Int.reduceNeg, Int.reduceMul, Int.reduceToNat, Nat.reduceSub, Nat.reduceMul, Nat.reduceLeDiff, Nat.reduceAdd, Nat.reduceLT, Nat.reduceEqDiff, reduceCtorEq, ↓reduceIte]
  refine call_by (hw) (by rfl) (by simp) ?_
  simp (disch := omega) only [wk, tis, Int.reduceNe, Int.reduceEq, Int.reduceLT, Int.reduceLE, Int.reduceAdd, Int.reduceSub, Int.reduceNeg, Int.reduceMul, Int.reduceToNat, Nat.reduceSub, Nat.reduceMul, Nat.reduceLeDiff, Nat.reduceAdd, Nat.reduceLT, Nat.reduceEqDiff, reduceCtorEq, ↓reduceIte]
  refine call_by ((zOf_ok 1 (by omega) (by omega))) (by rfl) (by simp) ?_
  simp (disch := omega) only [wk, tis, Int.reduceNe, Int.reduceEq, Int.reduceLT, Int.reduceLE, Int.reduceAdd, Int.reduceSub, Int.reduceNeg, Int.reduceMul, Int.reduceToNat, Nat.reduceSub, Nat.reduceMul, Nat.reduceLeDiff, Nat.reduceAdd, Nat.reduceLT, Nat.reduceEqDiff, reduceCtorEq, ↓reduceIte]
  generalize wt 2 (trimz (pv p)) = V at *
  have m := mshift_g (p := cn V) (a := canon 1) (P := V) (out := out) (rp_cn (hb.mono (by omega) (by omega))) (one_sz (by omega)) (ps_cn _) (by rw [iv_canon]; exact eo)
  refine call_by (m) (by rfl) (by simp) ?_
  simp (disch := omega) only [wk, tis, Int.reduceNe, Int.reduceEq, Int.reduceLT, Int.reduceLE, Int.reduceAdd, Int.reduceSub, Int.reduceNeg, Int.reduceMul, Int.reduceToNat, Nat.reduceSub, Nat.reduceMul, Nat.reduceLeDiff, Nat.reduceAdd, Nat.reduceLT, Nat.reduceEqDiff, reduceCtorEq, ↓reduceIte]

/-- A cell. -/
abbrev ccell (a : RI) (e : Int) (b : Bool) : CV := .agg [.bool a.1, .sl (lims a.2), .int .i64 e, .bool b]

theorem minto_g {p : List RI} {a : RI} {e : Nat} {b : Bool} {out : List Int} (hp : RP (2 ^ 8) (2 ^ 10) p) (ha : Sz (2 ^ 20) a) (he : e ≤ 65536) (eo : ps out = cmp (wt (2 ^ e) (trimz (pv p))) (ps [iv a, 1])) : AC Tryz.prog 22 [cw p, ccell a e b] none [cp out, ci 0] := by
  have hw := mweigh_ok p e (hp.mono (by omega) (by omega)) he
  have hb := zl_wt2 (k := e) hp.pv.trimz (by omega)
  refine AC.by_walk (rs := [.tmp 4, .tmp 5]) ords Tryz.func22 (by rfl) (by rfl) (by rfl) (by rfl) (by rfl) ?_
  have h1 : ¬ (e : Int) < 0 := by omega
  have h2 : ¬ 65536 < (e : Int) := by omega
  simp (disch := omega) only [wk, tis, Int.reduceNe, Int.reduceEq, Int.reduceLT, Int.reduceLE, Int.reduceAdd, Int.reduceSub, Int.reduceNeg, Int.reduceMul, Int.reduceToNat, Nat.reduceSub, Nat.reduceMul, Nat.reduceLeDiff, Nat.reduceAdd, Nat.reduceLT, Nat.reduceEqDiff, reduceCtorEq, ↓reduceIte, h1, h2]
  refine ⟨tmps_by (by kernel_rfl), ?_⟩
  refine call_by (hw) (by first | rfl | (simp only [tocvs, tocv, h1, h2]; rfl) | (simp only [tocvs, tocv, toboxes, tobox, updH_at, Nat.reduceEqDiff, ↓reduceIte, h1, h2]; rfl)) (by simp) ?_
  simp (disch := omega) only [wk, tis, Int.reduceNe, Int.reduceEq, Int.reduceLT, Int.reduceLE, Int.reduceAdd, Int.reduceSub, Int.reduceNeg, Int.reduceMul, Int.reduceToNat, Nat.reduceSub, Nat.reduceMul, Nat.reduceLeDiff, Nat.reduceAdd, Nat.reduceLT, Nat.reduceEqDiff, reduceCtorEq, ↓reduceIte, h1, h2]
  generalize wt (2 ^ e) (trimz (pv p)) = V at *
  have m := mshift_g (p := cn V) (a := a) (P := V) (out := out) (rp_cn (hb.mono (by omega) (by omega))) ha (ps_cn _) eo
  refine call_by (m) (by first | rfl | (simp only [tocvs, tocv, h1, h2]; rfl) | (simp only [tocvs, tocv, toboxes, tobox, updH_at, Nat.reduceEqDiff, ↓reduceIte, h1, h2]; rfl)) (by simp) ?_
  simp (disch := omega) only [wk, tis, Int.reduceNe, Int.reduceEq, Int.reduceLT, Int.reduceLE, Int.reduceAdd, Int.reduceSub, Int.reduceNeg, Int.reduceMul, Int.reduceToNat, Nat.reduceSub, Nat.reduceMul, Nat.reduceLeDiff, Nat.reduceAdd, Nat.reduceLT, Nat.reduceEqDiff, reduceCtorEq, ↓reduceIte, h1, h2]
  first | exact log_by (by kernel_rfl) | refine ⟨log_by (by kernel_rfl), ?_⟩
end Go.Proofs.YtaepoooifkjbmaaGreat

namespace Go.Proofs.YtaepoooifkjbmaaGreat
open Go Go.Proofs Go.AL
set_option linter.unusedSimpArgs false
set_option linter.unusedVariables false

end Go.Proofs.YtaepoooifkjbmaaGreat

namespace Go.Proofs.YtaepoooifkjbmaaGreat
open Go Go.Proofs Go.AL
set_option linter.unusedSimpArgs false
set_option linter.unusedVariables false

end Go.Proofs.YtaepoooifkjbmaaGreat

namespace Go.Proofs.YtaepoooifkjbmaaGreat
open Go Go.Proofs Go.AL
set_option linter.unusedSimpArgs false
set_option linter.unusedVariables false

/-- Of at most three words. -/
def fi (a : RI) : RI := (a.1, a.2.take 3)
def fr (r : RQ) : RQ := (fi r.1, r.2.take 3)
def fp (p : List RI) : List RI := (p.take 9).map fi
def fq (p : List RQ) : List RQ := (p.take 7).map fr
def nearZ (k : Int) : Int := if 200 < k ∧ k ≤ 65536 then k.tmod 200 else k

theorem take_min {α : Type} (l : List α) (n : Nat) : l.take (min (l.length : Int) n).toNat = l.take n := by
  rcases Nat.le_total l.length n with h | h
  · rw [List.take_of_length_le (i := n) h, List.take_of_length_le (by omega)]
  · congr 1; omega

theorem prow_len2 (c : RI) : (prow c).length = 2 := rfl
theorem fewInt_ok (a : RI) (h : a.2.length ≤ 9223372036854775807) : AC Tryz.prog 27 [cr a] none [cr (fi a)] := by
  have e := take_min a.2 3
  rw [show ((3 : Nat) : Int) = 3 from rfl] at e
  refine AC.by_walk (rs := [.cell 2 27]) ords Tryz.func27 (by rfl) (by rfl) (by rfl) (by rfl) (by rfl) ?_
  simp (disch := omega) only [wk, tis, Int.reduceNe, Int.reduceEq, Int.reduceLT, Int.reduceLE, Int.reduceAdd, Int.reduceSub, Int.reduceNeg, Int.reduceMul, Int.reduceToNat, Nat.reduceSub, Nat.reduceMul, Nat.reduceLeDiff, Nat.reduceAdd, Nat.reduceLT, Nat.reduceEqDiff, reduceCtorEq, ↓reduceIte, e]
  refine ⟨tmps_by (by kernel_rfl), ?_⟩
  first | exact log_by (by kernel_rfl) | refine ⟨log_by (by kernel_rfl), ?_⟩
  rfl

theorem fewRat_ok (r : RQ) (h : r.1.2.length ≤ 9223372036854775807) (h2 : r.2.length ≤ 9223372036854775807) : AC Tryz.prog 26 [.agg (qrow r)] none [.agg (qrow (fr r))] := by
  have e := take_min r.2 3
  rw [show ((3 : Nat) : Int) = 3 from rfl] at e
  have hpr := prow_len2
  have hp3 := lay_rat
  refine AC.by_walk (rs := [.cell 2 33]) ords Tryz.func26 (by rfl) (by rfl) (by rfl) (by rfl) (by rfl) ?_
  simp (disch := omega) only [wk, tis, Int.reduceNe, Int.reduceEq, Int.reduceLT, Int.reduceLE, Int.reduceAdd, Int.reduceSub, Int.reduceNeg, Int.reduceMul, Int.reduceToNat, Nat.reduceSub, Nat.reduceMul, Nat.reduceLeDiff, Nat.reduceAdd, Nat.reduceLT, Nat.reduceEqDiff, reduceCtorEq, ↓reduceIte, e, hpr, hp3]
  refine ⟨tmps_by (by kernel_rfl), ?_⟩
  refine call_by ((fewInt_ok r.1 h)) (by first | rfl | (simp only [tocvs, tocv, e, hpr, hp3]; rfl) | (simp only [tocvs, tocv, toboxes, tobox, updH_at, Nat.reduceEqDiff, ↓reduceIte, e, hpr, hp3]; rfl)) (by simp) ?_
  simp (disch := omega) only [wk, tis, Int.reduceNe, Int.reduceEq, Int.reduceLT, Int.reduceLE, Int.reduceAdd, Int.reduceSub, Int.reduceNeg, Int.reduceMul, Int.reduceToNat, Nat.reduceSub, Nat.reduceMul, Nat.reduceLeDiff, Nat.reduceAdd, Nat.reduceLT, Nat.reduceEqDiff, reduceCtorEq, ↓reduceIte, e, hpr, hp3]
  first | exact log_by (by kernel_rfl) | refine ⟨log_by (by kernel_rfl), ?_⟩
  rfl

theorem few11_ok (p : List RI) (hl : p.length ≤ 9223372036854775807) (h : ∀ c ∈ p, c.2.length ≤ 9223372036854775807) : AC Tryz.prog 24 [cw p] none [cw (fp p)] := by
  refine AC.by_walk (rs := [.tmp 2]) ords Tryz.func24 (by rfl) (by rfl) (by rfl) (by rfl) (by rfl) ?_
  simp (disch := omega) only [wk, tis, Int.reduceNe, Int.reduceEq, Int.reduceLT, Int.reduceLE, Int.reduceAdd, Int.reduceSub, Int.reduceNeg, Int.reduceMul, Int.reduceToNat, Nat.reduceSub, Nat.reduceMul, Nat.reduceLeDiff, Nat.reduceAdd, Nat.reduceLT, Nat.reduceEqDiff, reduceCtorEq, ↓reduceIte]
  refine aloop_nil 3 3 27 2 (by simp (disch := omega) only [wk, tis, Int.reduceNe, Int.reduceEq, Int.reduceLT, Int.reduceLE, Int.reduceAdd, Int.reduceSub, Int.reduceNeg, Int.reduceMul, Int.reduceToNat, Nat.reduceSub, Nat.reduceMul, Nat.reduceLeDiff, Nat.reduceAdd, Nat.reduceLT, Nat.reduceEqDiff, reduceCtorEq, ↓reduceIte]) (fun f H => ∃ (i st : Nat), i ≤ p.length ∧ i ≤ 9 ∧ f 4 = .iv (.int .i64 i) ∧ f 0 = .iv (.sl (raws p)) ∧ f 3 = .hs 3 st ∧ H 3 = .blk false st 27 2 (raws ((p.take i).map fi))) (fun f H => (p.length - intAt f 4).toNat) ?_ ?_
  · refine ⟨0, 1, by omega, by omega, ?_⟩
    simp (disch := omega) only [wk, tis, Int.reduceNe, Int.reduceEq, Int.reduceLT, Int.reduceLE, Int.reduceAdd, Int.reduceSub, Int.reduceNeg, Int.reduceMul, Int.reduceToNat, Nat.reduceSub, Nat.reduceMul, Nat.reduceLeDiff, Nat.reduceAdd, Nat.reduceLT, Nat.reduceEqDiff, reduceCtorEq, ↓reduceIte, ghostF, ghostH, List.take_zero]
  rintro f H ⟨i, st, hi, hi9, hF⟩
  rw [intAt_of hF.1]
  simp (disch := omega) only [wk, tis, Int.reduceNe, Int.reduceEq, Int.reduceLT, Int.reduceLE, Int.reduceAdd, Int.reduceSub, Int.reduceNeg, Int.reduceMul, Int.reduceToNat, Nat.reduceSub, Nat.reduceMul, Nat.reduceLeDiff, Nat.reduceAdd, Nat.reduceLT, Nat.reduceEqDiff, reduceCtorEq, ↓reduceIte, hF]
  by_cases hlt : i < p.length
  · have h1 : (i : Int) < p.length := by omega
    by_cases h9 : (i : Int) < 9
    · have hq : ((p.take i).map fi).length = i := by rw [List.length_map, List.length_take]; omega
      simp (disch := omega) only [wk, tis, Int.reduceNe, Int.reduceEq, Int.reduceLT, Int.reduceLE, Int.reduceAdd, Int.reduceSub, Int.reduceNeg, Int.reduceMul, Int.reduceToNat, Nat.reduceSub, Nat.reduceMul, Nat.reduceLeDiff, Nat.reduceAdd, Nat.reduceLT, Nat.reduceEqDiff, reduceCtorEq, ↓reduceIte, hF, h1, h9, hq]
      have hg : p.getD i (false, []) = p[i] := by simp [List.getD, hlt]
      refine call_by ((fewInt_ok (p.getD i (false, [])) (by rw [hg]; exact h _ (List.getElem_mem hlt)))) (by first | rfl | (simp only [tocvs, tocv, hF, h1, h9, hq]; rfl) | (simp only [tocvs, tocv, toboxes, tobox, updH_at, Nat.reduceEqDiff, ↓reduceIte, hF, h1, h9, hq]; rfl)) (by simp) ?_
      simp (disch := omega) only [wk, tis, Int.reduceNe, Int.reduceEq, Int.reduceLT, Int.reduceLE, Int.reduceAdd, Int.reduceSub, Int.reduceNeg, Int.reduceMul, Int.reduceToNat, Nat.reduceSub, Nat.reduceMul, Nat.reduceLeDiff, Nat.reduceAdd, Nat.reduceLT, Nat.reduceEqDiff, reduceCtorEq, ↓reduceIte, hF, h1, h9, hq]
      refine ⟨⟨i + 1, st + 1, by omega, by omega, by omega, rfl, ?_⟩, by omega⟩
      rw [List.take_add_one, List.getElem?_eq_getElem hlt, List.map_append, hg]
      rfl
    · have e9 : i = 9 := by omega
      subst e9
      simp (disch := omega) only [wk, tis, Int.reduceNe, Int.reduceEq, Int.reduceLT, Int.reduceLE, Int.reduceAdd, Int.reduceSub, Int.reduceNeg, Int.reduceMul, Int.reduceToNat, Nat.reduceSub, Nat.reduceMul, Nat.reduceLeDiff, Nat.reduceAdd, Nat.reduceLT, Nat.reduceEqDiff, reduceCtorEq, ↓reduceIte, hF, h1, h9]
      rfl
  · have h1 : ¬ (i : Int) < p.length := by omega
    simp (disch := omega) only [wk, tis, Int.reduceNe, Int.reduceEq, Int.reduceLT, Int.reduceLE, Int.reduceAdd, Int.reduceSub, Int.reduceNeg, Int.reduceMul, Int.reduceToNat, Nat.reduceSub, Nat.reduceMul, Nat.reduceLeDiff, Nat.reduceAdd, Nat.reduceLT, Nat.reduceEqDiff, reduceCtorEq, ↓reduceIte, hF, h1]
    rw [fp, List.take_of_length_le (by omega), List.take_of_length_le (by omega)]

theorem near_ok (k : Int) (h1 : -9223372036854775808 ≤ k) (h2 : k ≤ 9223372036854775807) : AC Tryz.prog 28 [ci k] none [ci (nearZ k)] := by
  refine AC.by_walk (rs := [.tmp 2]) ords Tryz.func28 (by rfl) (by rfl) (by rfl) (by rfl) (by rfl) ?_
  unfold nearZ
  by_cases h : 200 < k
  · by_cases h' : k ≤ 65536
    · rw [if_pos ⟨h, h'⟩]
      simp (disch := omega) only [wk, tis, Int.reduceNe, Int.reduceEq, Int.reduceLT, Int.reduceLE, Int.reduceAdd, Int.reduceSub, Int.reduceNeg, Int.reduceMul, Int.reduceToNat, Nat.reduceSub, Nat.reduceMul, Nat.reduceLeDiff, Nat.reduceAdd, Nat.reduceLT, Nat.reduceEqDiff, reduceCtorEq, ↓reduceIte, h, h']
    · rw [if_neg (fun e => h' e.2)]
      simp (disch := omega) only [wk, tis, Int.reduceNe, Int.reduceEq, Int.reduceLT, Int.reduceLE, Int.reduceAdd, Int.reduceSub, Int.reduceNeg, Int.reduceMul, Int.reduceToNat, Nat.reduceSub, Nat.reduceMul, Nat.reduceLeDiff, Nat.reduceAdd, Nat.reduceLT, Nat.reduceEqDiff, reduceCtorEq, ↓reduceIte, h, h']
  · rw [if_neg (fun e => h e.1)]
    simp (disch := omega) only [wk, tis, Int.reduceNe, Int.reduceEq, Int.reduceLT, Int.reduceLE, Int.reduceAdd, Int.reduceSub, Int.reduceNeg, Int.reduceMul, Int.reduceToNat, Nat.reduceSub, Nat.reduceMul, Nat.reduceLeDiff, Nat.reduceAdd, Nat.reduceLT, Nat.reduceEqDiff, reduceCtorEq, ↓reduceIte, h]

theorem fewQ_ok (p : List RQ) (hl : p.length ≤ 9223372036854775807) (h : ∀ c ∈ p, c.1.2.length ≤ 9223372036854775807 ∧ c.2.length ≤ 9223372036854775807) : AC Tryz.prog 25 [.iv (.sl (rats p))] none [.iv (.sl (rats (fq p)))] := by
  refine AC.by_walk (rs := [.tmp 2]) ords Tryz.func25 (by rfl) (by rfl) (by rfl) (by rfl) (by rfl) ?_
  have hrl := rats_len p
  simp (disch := omega) only [wk, tis, Int.reduceNe, Int.reduceEq, Int.reduceLT, Int.reduceLE, Int.reduceAdd, Int.reduceSub, Int.reduceNeg, Int.reduceMul, Int.reduceToNat, Nat.reduceSub, Nat.reduceMul, Nat.reduceLeDiff, Nat.reduceAdd, Nat.reduceLT, Nat.reduceEqDiff, reduceCtorEq, ↓reduceIte]
  refine aloop_nil 3 3 33 3 (by simp (disch := omega) only [wk, tis, Int.reduceNe, Int.reduceEq, Int.reduceLT, Int.reduceLE, Int.reduceAdd, Int.reduceSub, Int.reduceNeg, Int.reduceMul, Int.reduceToNat, Nat.reduceSub, Nat.reduceMul, Nat.reduceLeDiff, Nat.reduceAdd, Nat.reduceLT, Nat.reduceEqDiff, reduceCtorEq, ↓reduceIte]) (fun f H => ∃ (i st : Nat), i ≤ p.length ∧ i ≤ 7 ∧ f 4 = .iv (.int .i64 i) ∧ f 0 = .iv (.sl (rats p)) ∧ f 3 = .hs 3 st ∧ H 3 = .blk false st 33 3 (rats ((p.take i).map fr))) (fun f H => (p.length - intAt f 4).toNat) ?_ ?_
  · refine ⟨0, 1, by omega, by omega, ?_⟩
    simp (disch := omega) only [wk, tis, Int.reduceNe, Int.reduceEq, Int.reduceLT, Int.reduceLE, Int.reduceAdd, Int.reduceSub, Int.reduceNeg, Int.reduceMul, Int.reduceToNat, Nat.reduceSub, Nat.reduceMul, Nat.reduceLeDiff, Nat.reduceAdd, Nat.reduceLT, Nat.reduceEqDiff, reduceCtorEq, ↓reduceIte, ghostF, ghostH, List.take_zero, hrl, show rats [] = [] from rfl]
  rintro f H ⟨i, st, hi, hi9, hF⟩
  rw [intAt_of hF.1]
  simp (disch := omega) only [wk, tis, Int.reduceNe, Int.reduceEq, Int.reduceLT, Int.reduceLE, Int.reduceAdd, Int.reduceSub, Int.reduceNeg, Int.reduceMul, Int.reduceToNat, Nat.reduceSub, Nat.reduceMul, Nat.reduceLeDiff, Nat.reduceAdd, Nat.reduceLT, Nat.reduceEqDiff, reduceCtorEq, ↓reduceIte, hF]
  simp (disch := omega) only [wk, tis, Int.reduceNe, Int.reduceEq, Int.reduceLT, Int.reduceLE, Int.reduceAdd, Int.reduceSub, Int.reduceNeg, Int.reduceMul, Int.reduceToNat, Nat.reduceSub, Nat.reduceMul, Nat.reduceLeDiff, Nat.reduceAdd, Nat.reduceLT, Nat.reduceEqDiff, reduceCtorEq, ↓reduceIte, hrl]
  by_cases hlt : i < p.length
  · have h1 : (i : Int) < p.length := by omega
    by_cases h9 : (i : Int) < 7
    · have hq : (rats ((p.take i).map fr)).length = i := by rw [rats_len, List.length_map, List.length_take]; omega
      have hg := rats_at hlt
      simp (disch := omega) only [wk, tis, Int.reduceNe, Int.reduceEq, Int.reduceLT, Int.reduceLE, Int.reduceAdd, Int.reduceSub, Int.reduceNeg, Int.reduceMul, Int.reduceToNat, Nat.reduceSub, Nat.reduceMul, Nat.reduceLeDiff, Nat.reduceAdd, Nat.reduceLT, Nat.reduceEqDiff, reduceCtorEq, ↓reduceIte, hF, h1, h9, hq, hrl, hg]
      have hm := h _ (List.getElem_mem hlt)
      refine call_by ((fewRat_ok p[i] hm.1 hm.2)) (by first | rfl | (simp only [tocvs, tocv, hF, h1, h9, hq, hrl, hg]; rfl) | (simp only [tocvs, tocv, toboxes, tobox, updH_at, Nat.reduceEqDiff, ↓reduceIte, hF, h1, h9, hq, hrl, hg]; rfl)) (by simp) ?_
      simp (disch := omega) only [wk, tis, Int.reduceNe, Int.reduceEq, Int.reduceLT, Int.reduceLE, Int.reduceAdd, Int.reduceSub, Int.reduceNeg, Int.reduceMul, Int.reduceToNat, Nat.reduceSub, Nat.reduceMul, Nat.reduceLeDiff, Nat.reduceAdd, Nat.reduceLT, Nat.reduceEqDiff, reduceCtorEq, ↓reduceIte, hF, h1, h9, hq, hrl, hg]
      refine ⟨⟨i + 1, st + 1, by omega, by omega, by omega, rfl, ?_⟩, by omega⟩
      rw [List.take_add_one, List.getElem?_eq_getElem hlt, List.map_append, rats, rats, List.map_append]
      rfl
    · have e9 : i = 7 := by omega
      subst e9
      simp (disch := omega) only [wk, tis, Int.reduceNe, Int.reduceEq, Int.reduceLT, Int.reduceLE, Int.reduceAdd, Int.reduceSub, Int.reduceNeg, Int.reduceMul, Int.reduceToNat, Nat.reduceSub, Nat.reduceMul, Nat.reduceLeDiff, Nat.reduceAdd, Nat.reduceLT, Nat.reduceEqDiff, reduceCtorEq, ↓reduceIte, hF, h1, h9, hrl]
      rfl
  · have h1 : ¬ (i : Int) < p.length := by omega
    simp (disch := omega) only [wk, tis, Int.reduceNe, Int.reduceEq, Int.reduceLT, Int.reduceLE, Int.reduceAdd, Int.reduceSub, Int.reduceNeg, Int.reduceMul, Int.reduceToNat, Nat.reduceSub, Nat.reduceMul, Nat.reduceLeDiff, Nat.reduceAdd, Nat.reduceLT, Nat.reduceEqDiff, reduceCtorEq, ↓reduceIte, hF, h1, hrl]
    rw [fq, List.take_of_length_le (by omega), List.take_of_length_le (by omega)]

/-- A case. -/
structure C11 where
  (P R : List RI) (A B C D : RI) (K M : Int) (At : RI) (E : Int) (Pt : Bool) (F G : List RQ) (X : RQ)
abbrev case11 (x : C11) : List IV := [.sl (raws x.P), .sl (raws x.R), .bool x.A.1, .sl (lims x.A.2), .bool x.B.1, .sl (lims x.B.2), .bool x.C.1, .sl (lims x.C.2), .bool x.D.1, .sl (lims x.D.2), .int .i64 x.K, .int .i64 x.M,
  .bool x.At.1, .sl (lims x.At.2), .int .i64 x.E, .bool x.Pt, .sl (rats x.F), .sl (rats x.G), .bool x.X.1.1, .sl (lims x.X.1.2), .sl (lims x.X.2)]
def lessC (x : C11) : C11 := ⟨fp x.P, fp x.R, fi x.A, fi x.B, fi x.C, fi x.D, nearZ x.K, nearZ x.M, fi x.At, nearZ x.E, x.Pt, fq x.F, fq x.G, fr x.X⟩

theorem lay_cell (c : RI) (x y : IV) : lay (fun i => [(0, 2), (2, 1), (3, 1)][i]?) [.bool false, .sl [], .int .i64 0, .bool false] ([0, 1, 2].zip [prow c, [x], [y]]) = some ((2 = 2 ∧ 0 + 2 ≤ 4) ∧ (1 = 1 ∧ 2 + 1 ≤ 4) ∧ (1 = 1 ∧ 3 + 1 ≤ 4) ∧ True, [.bool c.1, .sl (lims c.2), x, y]) := rfl

theorem less_ok (x : C11) (L : ∀ p ∈ [x.P, x.R], p.length ≤ 9223372036854775807 ∧ ∀ c ∈ p, c.2.length ≤ 9223372036854775807) (I : ∀ c ∈ [x.A, x.B, x.C, x.D, x.At, x.X.1], c.2.length ≤ 9223372036854775807) (Q : ∀ p ∈ [x.F, x.G, [x.X]], p.length ≤ 9223372036854775807 ∧ ∀ c ∈ p, c.1.2.length ≤ 9223372036854775807 ∧ c.2.length ≤ 9223372036854775807)
    (N : ∀ k ∈ [x.K, x.M, x.E], -9223372036854775808 ≤ k ∧ k ≤ 9223372036854775807) : AC Tryz.prog 5 [.agg (case11 x)] none [.agg (case11 (lessC x))] := by
  have hP := few11_ok x.P (L _ (by simp)).1 (L _ (by simp)).2
  have hR := few11_ok x.R (L _ (by simp)).1 (L _ (by simp)).2
  have hFq := fewQ_ok x.F (Q _ (by simp)).1 (Q _ (by simp)).2
  have hG := fewQ_ok x.G (Q _ (by simp)).1 (Q _ (by simp)).2
  have hX := fewRat_ok x.X ((Q [x.X] (by simp)).2 _ (by simp)).1 ((Q [x.X] (by simp)).2 _ (by simp)).2
  have hA := fewInt_ok x.A (I _ (by simp))
  have hB := fewInt_ok x.B (I _ (by simp))
  have hC := fewInt_ok x.C (I _ (by simp))
  have hD := fewInt_ok x.D (I _ (by simp))
  have hAt := fewInt_ok x.At (I _ (by simp))
  have hK := near_ok x.K (N _ (by simp)).1 (N _ (by simp)).2
  have hM := near_ok x.M (N _ (by simp)).1 (N _ (by simp)).2
  have hE := near_ok x.E (N _ (by simp)).1 (N _ (by simp)).2
  have hlc := lay_cell
  refine AC.by_walk (rs := [.cell 2 35]) ords Tryz.func5 (by rfl) (by rfl) (by rfl) (by rfl) (by rfl) ?_
  simp (disch := omega) only [wk, tis, Int.reduceNe, Int.reduceEq, Int.reduceLT, Int.reduceLE, Int.reduceAdd, Int.reduceSub, Int.reduceNeg, Int.reduceMul, Int.reduceToNat, Nat.reduceSub, Nat.reduceMul, Nat.reduceLeDiff, Nat.reduceAdd, Nat.reduceLT, Nat.reduceEqDiff, reduceCtorEq, ↓reduceIte]
  refine ⟨tmps_by (by kernel_rfl), ?_⟩
  refine call_by (hP) (by rfl) (by simp) ?_
  simp (disch := omega) only [wk, tis, Int.reduceNe, Int.reduceEq, Int.reduceLT, Int.reduceLE, Int.reduceAdd, Int.reduceSub, Int.reduceNeg, Int.reduceMul, Int.reduceToNat, Nat.reduceSub, Nat.reduceMul, Nat.reduceLeDiff, Nat.reduceAdd, Nat.reduceLT, Nat.reduceEqDiff, reduceCtorEq, ↓reduceIte]
  refine call_by (hR) (by rfl) (by simp) ?_
  simp (disch := omega) only [wk, tis, Int.reduceNe, Int.reduceEq, Int.reduceLT, Int.reduceLE, Int.reduceAdd, Int.reduceSub, Int.reduceNeg, Int.reduceMul, Int.reduceToNat, Nat.reduceSub, Nat.reduceMul, Nat.reduceLeDiff, Nat.reduceAdd, Nat.reduceLT, Nat.reduceEqDiff, reduceCtorEq, ↓reduceIte]
  refine call_by (hFq) (by rfl) (by simp) ?_
  simp (disch := omega) only [wk, tis, Int.reduceNe, Int.reduceEq, Int.reduceLT, Int.reduceLE, Int.reduceAdd, Int.reduceSub, Int.reduceNeg, Int.reduceMul, Int.reduceToNat, Nat.reduceSub, Nat.reduceMul, Nat.reduceLeDiff, Nat.reduceAdd, Nat.reduceLT, Nat.reduceEqDiff, reduceCtorEq, ↓reduceIte]
  refine call_by (hG) (by rfl) (by simp) ?_
  simp (disch := omega) only [wk, tis, Int.reduceNe, Int.reduceEq, Int.reduceLT, Int.reduceLE, Int.reduceAdd, Int.reduceSub, Int.reduceNeg, Int.reduceMul, Int.reduceToNat, Nat.reduceSub, Nat.reduceMul, Nat.reduceLeDiff, Nat.reduceAdd, Nat.reduceLT, Nat.reduceEqDiff, reduceCtorEq, ↓reduceIte]
  refine call_by (hX) (by rfl) (by simp) ?_
  simp (disch := omega) only [wk, tis, Int.reduceNe, Int.reduceEq, Int.reduceLT, Int.reduceLE, Int.reduceAdd, Int.reduceSub, Int.reduceNeg, Int.reduceMul, Int.reduceToNat, Nat.reduceSub, Nat.reduceMul, Nat.reduceLeDiff, Nat.reduceAdd, Nat.reduceLT, Nat.reduceEqDiff, reduceCtorEq, ↓reduceIte]
  first | exact log_by (by kernel_rfl) | refine ⟨log_by (by kernel_rfl), ?_⟩
  refine ⟨tmps_by (by kernel_rfl), ?_⟩
  refine frame_call (fun f H => f 1 = .hp 1 1 0 0 ∧ f 2 = .hp 2 1 0 0 ∧ H 1 = .blk false 1 35 21 [case11 { x with P := fp x.P, R := fp x.R, F := fq x.F, G := fq x.G, X := fr x.X }] ∧ H 2 = .blk false 1 35 21 [case11 ⟨[], [], (false, []), (false, []), (false, []), (false, []), 0, 0, (false, []), 0, false, [], [], ((false, []), [])⟩] ∧ f 24 = .agg (prow x.A)) ?_ (fun f H hF => ?_)
  · simp (disch := omega) only [wk, tis, Int.reduceNe, Int.reduceEq, Int.reduceLT, Int.reduceLE, Int.reduceAdd, Int.reduceSub, Int.reduceNeg, Int.reduceMul, Int.reduceToNat, Nat.reduceSub, Nat.reduceMul, Nat.reduceLeDiff, Nat.reduceAdd, Nat.reduceLT, Nat.reduceEqDiff, reduceCtorEq, ↓reduceIte]
    exact ⟨rfl, rfl, rfl⟩
  refine call_by (hA) (by first | rfl | (simp only [tocvs, tocv, hF]; rfl) | (simp only [tocvs, tocv, toboxes, tobox, updH_at, Nat.reduceEqDiff, ↓reduceIte, hF]; rfl)) (by simp) ?_
  simp (disch := omega) only [wk, tis, Int.reduceNe, Int.reduceEq, Int.reduceLT, Int.reduceLE, Int.reduceAdd, Int.reduceSub, Int.reduceNeg, Int.reduceMul, Int.reduceToNat, Nat.reduceSub, Nat.reduceMul, Nat.reduceLeDiff, Nat.reduceAdd, Nat.reduceLT, Nat.reduceEqDiff, reduceCtorEq, ↓reduceIte, hF]
  refine call_by (hB) (by first | rfl | (simp only [tocvs, tocv, hF]; rfl) | (simp only [tocvs, tocv, toboxes, tobox, updH_at, Nat.reduceEqDiff, ↓reduceIte, hF]; rfl)) (by simp) ?_
  simp (disch := omega) only [wk, tis, Int.reduceNe, Int.reduceEq, Int.reduceLT, Int.reduceLE, Int.reduceAdd, Int.reduceSub, Int.reduceNeg, Int.reduceMul, Int.reduceToNat, Nat.reduceSub, Nat.reduceMul, Nat.reduceLeDiff, Nat.reduceAdd, Nat.reduceLT, Nat.reduceEqDiff, reduceCtorEq, ↓reduceIte, hF]
  refine call_by (hC) (by first | rfl | (simp only [tocvs, tocv, hF]; rfl) | (simp only [tocvs, tocv, toboxes, tobox, updH_at, Nat.reduceEqDiff, ↓reduceIte, hF]; rfl)) (by simp) ?_
  simp (disch := omega) only [wk, tis, Int.reduceNe, Int.reduceEq, Int.reduceLT, Int.reduceLE, Int.reduceAdd, Int.reduceSub, Int.reduceNeg, Int.reduceMul, Int.reduceToNat, Nat.reduceSub, Nat.reduceMul, Nat.reduceLeDiff, Nat.reduceAdd, Nat.reduceLT, Nat.reduceEqDiff, reduceCtorEq, ↓reduceIte, hF]
  refine call_by (hD) (by first | rfl | (simp only [tocvs, tocv, hF]; rfl) | (simp only [tocvs, tocv, toboxes, tobox, updH_at, Nat.reduceEqDiff, ↓reduceIte, hF]; rfl)) (by simp) ?_
  simp (disch := omega) only [wk, tis, Int.reduceNe, Int.reduceEq, Int.reduceLT, Int.reduceLE, Int.reduceAdd, Int.reduceSub, Int.reduceNeg, Int.reduceMul, Int.reduceToNat, Nat.reduceSub, Nat.reduceMul, Nat.reduceLeDiff, Nat.reduceAdd, Nat.reduceLT, Nat.reduceEqDiff, reduceCtorEq, ↓reduceIte, hF]
  first | exact log_by (by kernel_rfl) | refine ⟨log_by (by kernel_rfl), ?_⟩
  refine ⟨tmps_by (by kernel_rfl), ?_⟩
  refine frame_call (fun f H => f 1 = .hp 1 1 0 0 ∧ f 2 = .hp 2 1 0 0 ∧ H 1 = .blk false 1 35 21 [case11 { x with P := fp x.P, R := fp x.R, F := fq x.F, G := fq x.G, X := fr x.X, A := fi x.A, B := fi x.B, C := fi x.C, D := fi x.D }] ∧ H 2 = .blk false 1 35 21 [case11 ⟨[], [], (false, []), (false, []), (false, []), (false, []), 0, 0, (false, []), 0, false, [], [], ((false, []), [])⟩]) ?_ (fun f H hF => ?_)
  · simp (disch := omega) only [wk, tis, Int.reduceNe, Int.reduceEq, Int.reduceLT, Int.reduceLE, Int.reduceAdd, Int.reduceSub, Int.reduceNeg, Int.reduceMul, Int.reduceToNat, Nat.reduceSub, Nat.reduceMul, Nat.reduceLeDiff, Nat.reduceAdd, Nat.reduceLT, Nat.reduceEqDiff, reduceCtorEq, ↓reduceIte, hF]
    exact rfl
  refine call_by (hK) (by first | rfl | (simp only [tocvs, tocv, hF]; rfl) | (simp only [tocvs, tocv, toboxes, tobox, updH_at, Nat.reduceEqDiff, ↓reduceIte, hF]; rfl)) (by simp) ?_
  simp (disch := omega) only [wk, tis, Int.reduceNe, Int.reduceEq, Int.reduceLT, Int.reduceLE, Int.reduceAdd, Int.reduceSub, Int.reduceNeg, Int.reduceMul, Int.reduceToNat, Nat.reduceSub, Nat.reduceMul, Nat.reduceLeDiff, Nat.reduceAdd, Nat.reduceLT, Nat.reduceEqDiff, reduceCtorEq, ↓reduceIte, hF]
  refine call_by (hM) (by first | rfl | (simp only [tocvs, tocv, hF]; rfl) | (simp only [tocvs, tocv, toboxes, tobox, updH_at, Nat.reduceEqDiff, ↓reduceIte, hF]; rfl)) (by simp) ?_
  simp (disch := omega) only [wk, tis, Int.reduceNe, Int.reduceEq, Int.reduceLT, Int.reduceLE, Int.reduceAdd, Int.reduceSub, Int.reduceNeg, Int.reduceMul, Int.reduceToNat, Nat.reduceSub, Nat.reduceMul, Nat.reduceLeDiff, Nat.reduceAdd, Nat.reduceLT, Nat.reduceEqDiff, reduceCtorEq, ↓reduceIte, hF]
  first | exact log_by (by kernel_rfl) | refine ⟨log_by (by kernel_rfl), ?_⟩
  refine ⟨tmps_by (by kernel_rfl), ?_⟩
  refine frame_call (fun f H => f 1 = .hp 1 1 0 0 ∧ f 2 = .hp 2 1 0 0 ∧ H 1 = .blk false 1 35 21 [case11 { x with P := fp x.P, R := fp x.R, F := fq x.F, G := fq x.G, X := fr x.X, A := fi x.A, B := fi x.B, C := fi x.C, D := fi x.D, K := nearZ x.K, M := nearZ x.M }] ∧ H 2 = .blk false 1 35 21 [case11 ⟨[], [], (false, []), (false, []), (false, []), (false, []), 0, 0, (false, []), 0, false, [], [], ((false, []), [])⟩] ∧ f 49 = .agg (prow x.At)) ?_ (fun f H hF => ?_)
  · simp (disch := omega) only [wk, tis, Int.reduceNe, Int.reduceEq, Int.reduceLT, Int.reduceLE, Int.reduceAdd, Int.reduceSub, Int.reduceNeg, Int.reduceMul, Int.reduceToNat, Nat.reduceSub, Nat.reduceMul, Nat.reduceLeDiff, Nat.reduceAdd, Nat.reduceLT, Nat.reduceEqDiff, reduceCtorEq, ↓reduceIte, hF]
    exact ⟨rfl, rfl⟩
  refine call_by (hAt) (by first | rfl | (simp only [tocvs, tocv, hF]; rfl) | (simp only [tocvs, tocv, toboxes, tobox, updH_at, Nat.reduceEqDiff, ↓reduceIte, hF]; rfl)) (by simp) ?_
  simp (disch := omega) only [wk, tis, Int.reduceNe, Int.reduceEq, Int.reduceLT, Int.reduceLE, Int.reduceAdd, Int.reduceSub, Int.reduceNeg, Int.reduceMul, Int.reduceToNat, Nat.reduceSub, Nat.reduceMul, Nat.reduceLeDiff, Nat.reduceAdd, Nat.reduceLT, Nat.reduceEqDiff, reduceCtorEq, ↓reduceIte, hF]
  refine call_by (hE) (by first | rfl | (simp only [tocvs, tocv, hF, hlc]; rfl) | (simp only [tocvs, tocv, toboxes, tobox, updH_at, Nat.reduceEqDiff, ↓reduceIte, hF, hlc]; rfl)) (by simp) ?_
  simp (disch := omega) only [wk, tis, Int.reduceNe, Int.reduceEq, Int.reduceLT, Int.reduceLE, Int.reduceAdd, Int.reduceSub, Int.reduceNeg, Int.reduceMul, Int.reduceToNat, Nat.reduceSub, Nat.reduceMul, Nat.reduceLeDiff, Nat.reduceAdd, Nat.reduceLT, Nat.reduceEqDiff, reduceCtorEq, ↓reduceIte, hF, hlc]
  first | exact log_by (by kernel_rfl) | refine ⟨log_by (by kernel_rfl), ?_⟩
  simp (disch := omega) only [wk, tis, Int.reduceNe, Int.reduceEq, Int.reduceLT, Int.reduceLE, Int.reduceAdd, Int.reduceSub, Int.reduceNeg, Int.reduceMul, Int.reduceToNat, Nat.reduceSub, Nat.reduceMul, Nat.reduceLeDiff, Nat.reduceAdd, Nat.reduceLT, Nat.reduceEqDiff, reduceCtorEq, ↓reduceIte, hF, case11, splice, List.take_succ_cons, List.drop_succ_cons, List.take_zero, List.drop_zero, List.take_nil, List.drop_nil]
  rfl
end Go.Proofs.YtaepoooifkjbmaaGreat

namespace Go.Proofs.YtaepoooifkjbmaaGreat
open Go Go.Proofs Go.AL
set_option linter.unusedSimpArgs false
set_option linter.unusedVariables false

theorem lc_ok (p : List RI) (h : RP (2 ^ 40) (2 ^ 40) p) : AC Tryz.prog 8 [cw p] none [cw p] := by
  refine AC.by_walk (rs := [.tmp 2]) ords Tryz.func8 (by rfl) (by rfl) (by rfl) (by rfl) (by rfl) ?_
  simp (disch := omega) only [wk, tis, Int.reduceNe, Int.reduceEq, Int.reduceLT, Int.reduceLE, Int.reduceAdd, Int.reduceSub, Int.reduceNeg, Int.reduceMul, Int.reduceToNat, Nat.reduceSub, Nat.reduceMul, Nat.reduceLeDiff, Nat.reduceAdd, Nat.reduceLT, Nat.reduceEqDiff, reduceCtorEq, ↓reduceIte]
  refine call_by ((tcopy_ok p h)) (by rfl) (by simp) ?_
  simp (disch := omega) only [wk, tis, Int.reduceNe, Int.reduceEq, Int.reduceLT, Int.reduceLE, Int.reduceAdd, Int.reduceSub, Int.reduceNeg, Int.reduceMul, Int.reduceToNat, Nat.reduceSub, Nat.reduceMul, Nat.reduceLeDiff, Nat.reduceAdd, Nat.reduceLT, Nat.reduceEqDiff, reduceCtorEq, ↓reduceIte]

theorem tsame_g {q r : List Int} (ha : PB (2 ^ 40) (2 ^ 43) q) (hb : PB (2 ^ 40) (2 ^ 43) r) (e : ps q = ps r) : AC Tryz.prog 6 [cp q, cp r] none [cb true] := by
  have := tSame_ok (cn q) (cn r) (rp_cn ha) (rp_cn hb)
  rw [decide_eq_true (cn_ext (ps_eq e))] at this; exact this

theorem smc {l : List Int} (hl : l.length ≤ 2 ^ 8) (h : ∀ z ∈ l, z.natAbs < W) : RP (2 ^ 8) (2 ^ 10) (cn l) := rp_cn ((small_pb l (2 ^ 8) hl h).mono (Nat.le_refl _) (by omega))
theorem sms {l : List Int} (hl : l.length ≤ 2 ^ 8) (h : ∀ z ∈ l, z.natAbs < W) : PB (2 ^ 40) (2 ^ 43) l := (small_pb l (2 ^ 8) hl h).mono (by omega) (by omega)
theorem hom_of {p f g out : List Int} (h : trimz (lhom p f g) = trimz out) : ps out = hom p (ps f) (ps g) := by
  rw [← ps_lhom]
  exact ps_ext fun k => (trimz_eq_iff.1 h k).symm
theorem cmp_of {p f out : List Int} (h : trimz (lhom p f [1]) = trimz out) : ps out = cmp p (ps f) := by
  have := hom_of h
  rwa [ps_one] at this
theorem cp_of {p q : List Int} (h : trimz p = trimz q) : cp p = cp q := cp_ext (trimz_eq_iff.1 h)

theorem lay_cell2 (c : RI) (x : IV) : lay (fun i => [(0, 2), (2, 1), (3, 1)][i]?) [.bool false, .sl [], .int .i64 0, .bool false] ([0, 1].zip [prow c, [x]]) = some ((2 = 2 ∧ 0 + 2 ≤ 4) ∧ (1 = 1 ∧ 2 + 1 ≤ 4) ∧ True, [.bool c.1, .sl (lims c.2), x, .bool false]) := rfl

theorem fixed_ok : AC Tryz.prog 4 [] none [cb true] := by
  have p1 := tP_ok [-2, 0, 1] (by decide) (by decide)
  have p2 := tP_ok [-1, 2, 1] (by decide) (by decide)
  have p3 := tP_ok [-8, 0, 1] (by decide) (by decide)
  have p4 := tP_ok [-7, 2, 1] (by decide) (by decide)
  have p5 := tP_ok [2, 0, -1] (by decide) (by decide)
  have p6 := tP_ok [1, -6, 1] (by decide) (by decide)
  have h1 := mhalves_g (p := cn [-2, 0, 1]) (out := [-7, 2, 1]) ((smc (by decide) (by decide)).mono (by omega) (by omega)) (by rw [trimz_cn]; exact cmp_of (by decide))
  rw [trimz_cn, show wt 2 (trimz [-2, 0, 1]) = [-8, 0, 1] by decide] at h1
  have h2 := mline2_ok (cn [-1, 2, 1]) ((smc (by decide) (by decide)).mono (by omega) (by omega))
  rw [trimz_cn, cp_of (show trimz (lhom (trimz [-1, 2, 1]) [1, 0] [1, 1]) = trimz [2, 0, -1] by decide)] at h2
  have h3 := minto_g (p := cn [-2, 0, 1]) (a := canon (-3)) (e := 1) (b := false) (out := [1, -6, 1]) (smc (by decide) (by decide)) ((sz_canon _).mono (by have : zl (-3) ≤ 1 := zl_le.mpr (by decide); omega)) (by omega) (by rw [trimz_cn, iv_canon]; exact cmp_of (by decide))
  have s1 := tsame_g (q := [-8, 0, 1]) (r := [-8, 0, 1]) (sms (by decide) (by decide)) (sms (by decide) (by decide)) rfl
  have s2 := tsame_g (q := [-7, 2, 1]) (r := [-7, 2, 1]) (sms (by decide) (by decide)) (sms (by decide) (by decide)) rfl
  have s3 := tsame_g (q := [2, 0, -1]) (r := [2, 0, -1]) (sms (by decide) (by decide)) (sms (by decide) (by decide)) rfl
  have s4 := tsame_g (q := [1, -6, 1]) (r := [1, -6, 1]) (sms (by decide) (by decide)) (sms (by decide) (by decide)) rfl
  have z3 := rZ_ok (-3) (by omega) (by omega)
  have hlc := lay_cell2
  refine AC.by_walk (rs := [.tmp 0]) ords Tryz.func4 (by rfl) (by rfl) (by rfl) (by rfl) (by rfl) ?_
  simp (disch := omega) only [wk, tis, Int.reduceNe, Int.reduceEq, Int.reduceLT, Int.reduceLE, Int.reduceAdd, Int.reduceSub, Int.reduceNeg, Int.reduceMul, Int.reduceToNat, Nat.reduceSub, Nat.reduceMul, Nat.reduceLeDiff, Nat.reduceAdd, Nat.reduceLT, Nat.reduceEqDiff, reduceCtorEq, ↓reduceIte]
  refine call_by (p1) (by rfl) (by simp) ?_
  simp (disch := omega) only [wk, tis, Int.reduceNe, Int.reduceEq, Int.reduceLT, Int.reduceLE, Int.reduceAdd, Int.reduceSub, Int.reduceNeg, Int.reduceMul, Int.reduceToNat, Nat.reduceSub, Nat.reduceMul, Nat.reduceLeDiff, Nat.reduceAdd, Nat.reduceLT, Nat.reduceEqDiff, reduceCtorEq, ↓reduceIte]
  refine call_by (h1) (by rfl) (by simp) ?_
  simp (disch := omega) only [wk, tis, Int.reduceNe, Int.reduceEq, Int.reduceLT, Int.reduceLE, Int.reduceAdd, Int.reduceSub, Int.reduceNeg, Int.reduceMul, Int.reduceToNat, Nat.reduceSub, Nat.reduceMul, Nat.reduceLeDiff, Nat.reduceAdd, Nat.reduceLT, Nat.reduceEqDiff, reduceCtorEq, ↓reduceIte]
  refine call_by (p2) (by rfl) (by simp) ?_
  simp (disch := omega) only [wk, tis, Int.reduceNe, Int.reduceEq, Int.reduceLT, Int.reduceLE, Int.reduceAdd, Int.reduceSub, Int.reduceNeg, Int.reduceMul, Int.reduceToNat, Nat.reduceSub, Nat.reduceMul, Nat.reduceLeDiff, Nat.reduceAdd, Nat.reduceLT, Nat.reduceEqDiff, reduceCtorEq, ↓reduceIte]
  refine call_by (h2) (by rfl) (by simp) ?_
  simp (disch := omega) only [wk, tis, Int.reduceNe, Int.reduceEq, Int.reduceLT, Int.reduceLE, Int.reduceAdd, Int.reduceSub, Int.reduceNeg, Int.reduceMul, Int.reduceToNat, Nat.reduceSub, Nat.reduceMul, Nat.reduceLeDiff, Nat.reduceAdd, Nat.reduceLT, Nat.reduceEqDiff, reduceCtorEq, ↓reduceIte]
  refine call_by (p1) (by rfl) (by simp) ?_
  simp (disch := omega) only [wk, tis, Int.reduceNe, Int.reduceEq, Int.reduceLT, Int.reduceLE, Int.reduceAdd, Int.reduceSub, Int.reduceNeg, Int.reduceMul, Int.reduceToNat, Nat.reduceSub, Nat.reduceMul, Nat.reduceLeDiff, Nat.reduceAdd, Nat.reduceLT, Nat.reduceEqDiff, reduceCtorEq, ↓reduceIte]
  refine call_by (z3) (by first | rfl | (simp only [tocvs, tocv, hlc]; rfl) | (simp only [tocvs, tocv, toboxes, tobox, updH_at, Nat.reduceEqDiff, ↓reduceIte, hlc]; rfl)) (by simp) ?_
  simp (disch := omega) only [wk, tis, Int.reduceNe, Int.reduceEq, Int.reduceLT, Int.reduceLE, Int.reduceAdd, Int.reduceSub, Int.reduceNeg, Int.reduceMul, Int.reduceToNat, Nat.reduceSub, Nat.reduceMul, Nat.reduceLeDiff, Nat.reduceAdd, Nat.reduceLT, Nat.reduceEqDiff, reduceCtorEq, ↓reduceIte, hlc]
  refine call_by (h3) (by first | rfl | (simp only [tocvs, tocv, hlc]; rfl) | (simp only [tocvs, tocv, toboxes, tobox, updH_at, Nat.reduceEqDiff, ↓reduceIte, hlc]; rfl)) (by simp) ?_
  simp (disch := omega) only [wk, tis, Int.reduceNe, Int.reduceEq, Int.reduceLT, Int.reduceLE, Int.reduceAdd, Int.reduceSub, Int.reduceNeg, Int.reduceMul, Int.reduceToNat, Nat.reduceSub, Nat.reduceMul, Nat.reduceLeDiff, Nat.reduceAdd, Nat.reduceLT, Nat.reduceEqDiff, reduceCtorEq, ↓reduceIte, hlc]
  refine call_by (p3) (by rfl) (by simp) ?_
  simp (disch := omega) only [wk, tis, Int.reduceNe, Int.reduceEq, Int.reduceLT, Int.reduceLE, Int.reduceAdd, Int.reduceSub, Int.reduceNeg, Int.reduceMul, Int.reduceToNat, Nat.reduceSub, Nat.reduceMul, Nat.reduceLeDiff, Nat.reduceAdd, Nat.reduceLT, Nat.reduceEqDiff, reduceCtorEq, ↓reduceIte]
  refine call_by (s1) (by rfl) (by simp) ?_
  simp (disch := omega) only [wk, tis, Int.reduceNe, Int.reduceEq, Int.reduceLT, Int.reduceLE, Int.reduceAdd, Int.reduceSub, Int.reduceNeg, Int.reduceMul, Int.reduceToNat, Nat.reduceSub, Nat.reduceMul, Nat.reduceLeDiff, Nat.reduceAdd, Nat.reduceLT, Nat.reduceEqDiff, reduceCtorEq, ↓reduceIte]
  refine call_by (p4) (by rfl) (by simp) ?_
  simp (disch := omega) only [wk, tis, Int.reduceNe, Int.reduceEq, Int.reduceLT, Int.reduceLE, Int.reduceAdd, Int.reduceSub, Int.reduceNeg, Int.reduceMul, Int.reduceToNat, Nat.reduceSub, Nat.reduceMul, Nat.reduceLeDiff, Nat.reduceAdd, Nat.reduceLT, Nat.reduceEqDiff, reduceCtorEq, ↓reduceIte]
  refine call_by (s2) (by rfl) (by simp) ?_
  simp (disch := omega) only [wk, tis, Int.reduceNe, Int.reduceEq, Int.reduceLT, Int.reduceLE, Int.reduceAdd, Int.reduceSub, Int.reduceNeg, Int.reduceMul, Int.reduceToNat, Nat.reduceSub, Nat.reduceMul, Nat.reduceLeDiff, Nat.reduceAdd, Nat.reduceLT, Nat.reduceEqDiff, reduceCtorEq, ↓reduceIte]
  refine call_by (p5) (by rfl) (by simp) ?_
  simp (disch := omega) only [wk, tis, Int.reduceNe, Int.reduceEq, Int.reduceLT, Int.reduceLE, Int.reduceAdd, Int.reduceSub, Int.reduceNeg, Int.reduceMul, Int.reduceToNat, Nat.reduceSub, Nat.reduceMul, Nat.reduceLeDiff, Nat.reduceAdd, Nat.reduceLT, Nat.reduceEqDiff, reduceCtorEq, ↓reduceIte]
  refine call_by (s3) (by rfl) (by simp) ?_
  simp (disch := omega) only [wk, tis, Int.reduceNe, Int.reduceEq, Int.reduceLT, Int.reduceLE, Int.reduceAdd, Int.reduceSub, Int.reduceNeg, Int.reduceMul, Int.reduceToNat, Nat.reduceSub, Nat.reduceMul, Nat.reduceLeDiff, Nat.reduceAdd, Nat.reduceLT, Nat.reduceEqDiff, reduceCtorEq, ↓reduceIte]
  refine call_by (p6) (by rfl) (by simp) ?_
  simp (disch := omega) only [wk, tis, Int.reduceNe, Int.reduceEq, Int.reduceLT, Int.reduceLE, Int.reduceAdd, Int.reduceSub, Int.reduceNeg, Int.reduceMul, Int.reduceToNat, Nat.reduceSub, Nat.reduceMul, Nat.reduceLeDiff, Nat.reduceAdd, Nat.reduceLT, Nat.reduceEqDiff, reduceCtorEq, ↓reduceIte]
  refine call_by (s4) (by rfl) (by simp) ?_
  simp (disch := omega) only [wk, tis, Int.reduceNe, Int.reduceEq, Int.reduceLT, Int.reduceLE, Int.reduceAdd, Int.reduceSub, Int.reduceNeg, Int.reduceMul, Int.reduceToNat, Nat.reduceSub, Nat.reduceMul, Nat.reduceLeDiff, Nat.reduceAdd, Nat.reduceLT, Nat.reduceEqDiff, reduceCtorEq, ↓reduceIte]
end Go.Proofs.YtaepoooifkjbmaaGreat

namespace Go.Proofs.YtaepoooifkjbmaaGreat
open Go Go.Proofs Go.AL
set_option linter.unusedSimpArgs false
set_option linter.unusedVariables false

/-- An exponent that is small, or out of range. -/
def NearOk (k : Int) : Prop := k < 0 ∨ 65536 < k ∨ ∃ n : Nat, k = n ∧ n ≤ 200
theorem nearOk (k : Int) : NearOk (nearZ k) := by
  unfold NearOk nearZ
  by_cases h : 200 < k ∧ k ≤ 65536
  · rw [if_pos h]
    have e := Int.tmod_eq_emod_of_nonneg (a := k) (b := 200) (by omega)
    refine .inr (.inr ⟨(k % 200).toNat, by omega, by omega⟩)
  · rw [if_neg h]
    by_cases h0 : k < 0
    · exact .inl h0
    · by_cases h1 : 65536 < k
      · exact .inr (.inl h1)
      · exact .inr (.inr ⟨k.toNat, by omega, by omega⟩)

theorem fi_sz {a : RI} {k : Nat} (h : Sz k a) : Sz 3 (fi a) := ⟨by simp [fi]; omega, fun x hx => h.2 x (List.mem_of_mem_take hx)⟩
theorem fp_rp {p : List RI} (h : Raw p) : RP 9 3 (fp p) := ⟨by simp [fp]; omega, fun c hc => by
  obtain ⟨d, hd, rfl⟩ := List.mem_map.1 hc
  exact fi_sz (h.2 d (List.mem_of_mem_take hd))⟩

structure Few (y : C11) : Prop where
  P : RP 9 3 y.P
  R : RP 9 3 y.R
  A : Sz 3 y.A
  B : Sz 3 y.B
  C : Sz 3 y.C
  D : Sz 3 y.D
  At : Sz 3 y.At
  K : NearOk y.K
  M : NearOk y.M
  E : NearOk y.E

/-- A case, as it is handed. -/
structure Ok11 (x : C11) : Prop where
  P : Raw x.P
  R : Raw x.R
  A : Sz 9223372036854775807 x.A
  B : Sz 9223372036854775807 x.B
  C : Sz 9223372036854775807 x.C
  D : Sz 9223372036854775807 x.D
  K : -9223372036854775808 ≤ x.K ∧ x.K ≤ 9223372036854775807
  M : -9223372036854775808 ≤ x.M ∧ x.M ≤ 9223372036854775807
  At : Sz 9223372036854775807 x.At
  E : -9223372036854775808 ≤ x.E ∧ x.E ≤ 9223372036854775807
  F : RawQ x.F
  G : RawQ x.G
  X : SzQ 9223372036854775807 x.X

theorem ok11 (P R : List RI) (A B C D : RI) (K M : Int) (At : RI) (E : Int) (Pt : Bool) (F G : List RQ) (X : RQ) (hP : Raw P) (hR : Raw R) (hA : Sz 9223372036854775807 A) (hB : Sz 9223372036854775807 B) (hC : Sz 9223372036854775807 C) (hD : Sz 9223372036854775807 D)
    (hK1 : -9223372036854775808 ≤ K) (hK2 : K ≤ 9223372036854775807) (hM1 : -9223372036854775808 ≤ M) (hM2 : M ≤ 9223372036854775807) (hAt : Sz 9223372036854775807 At) (hE1 : -9223372036854775808 ≤ E) (hE2 : E ≤ 9223372036854775807) (hF : RawQ F) (hG : RawQ G) (hX : SzQ 9223372036854775807 X) :
    Ok11 ⟨P, R, A, B, C, D, K, M, At, E, Pt, F, G, X⟩ := ⟨hP, hR, hA, hB, hC, hD, ⟨hK1, hK2⟩, ⟨hM1, hM2⟩, hAt, ⟨hE1, hE2⟩, hF, hG, hX⟩

theorem few_less {x : C11} (h : Ok11 x) : Few (lessC x) := ⟨fp_rp h.P, fp_rp h.R, fi_sz h.A, fi_sz h.B, fi_sz h.C, fi_sz h.D, fi_sz h.At, nearOk _, nearOk _, nearOk _⟩

theorem less_few {x : C11} (h : Ok11 x) : AC Tryz.prog 5 [.agg (case11 x)] none [.agg (case11 (lessC x))] := by
  refine less_ok x ?_ ?_ ?_ ?_
  · simp only [List.mem_cons, List.not_mem_nil, or_false, forall_eq_or_imp, forall_eq]
    exact ⟨⟨h.P.1, fun c hc => (h.P.2 c hc).1⟩, ⟨h.R.1, fun c hc => (h.R.2 c hc).1⟩⟩
  · simp only [List.mem_cons, List.not_mem_nil, or_false, forall_eq_or_imp, forall_eq]
    exact ⟨h.A.1, h.B.1, h.C.1, h.D.1, h.At.1, h.X.1.1⟩
  · simp only [List.mem_cons, List.not_mem_nil, or_false, forall_eq_or_imp, forall_eq]
    exact ⟨⟨h.F.1, fun c hc => ⟨(h.F.2 c hc).1.1, (h.F.2 c hc).2.1⟩⟩, ⟨h.G.1, fun c hc => ⟨(h.G.2 c hc).1.1, (h.G.2 c hc).2.1⟩⟩, by simp, ⟨h.X.1.1, h.X.2.1⟩⟩
  · simp only [List.mem_cons, List.not_mem_nil, or_false, forall_eq_or_imp, forall_eq]
    exact ⟨h.K, h.M, h.E⟩

end Go.Proofs.YtaepoooifkjbmaaGreat

namespace Go.Proofs.YtaepoooifkjbmaaGreat
open Go Go.Proofs Go.AL
set_option linter.unusedSimpArgs false
set_option linter.unusedVariables false

theorem tat_ok (p : List RI) (i : Nat) (hl : p.length ≤ 2 ^ 40) : AC Tryz.prog 91 [cw p, ci i] none [cr (p.getD i (false, []))] := by
  refine AC.by_walk (rs := [.cell 4 27]) ords Tryz.func91 (by rfl) (by rfl) (by rfl) (by rfl) (by rfl) ?_
  simp (disch := omega) only [wk, tis, Int.reduceNe, Int.reduceEq, Int.reduceLT, Int.reduceLE, Int.reduceAdd, Int.reduceSub, Int.reduceNeg, Int.reduceMul, Int.reduceToNat, Nat.reduceSub, Nat.reduceMul, Nat.reduceLeDiff, Nat.reduceAdd, Nat.reduceLT, Nat.reduceEqDiff, reduceCtorEq, ↓reduceIte]
  refine if_by (fun h => ?_) (fun h => ?_)
  · simp (disch := omega) only [wk, tis, Int.reduceNe, Int.reduceEq, Int.reduceLT, Int.reduceLE, Int.reduceAdd, Int.reduceSub, Int.reduceNeg, Int.reduceMul, Int.reduceToNat, Nat.reduceSub, Nat.reduceMul, Nat.reduceLeDiff, Nat.reduceAdd, Nat.reduceLT, Nat.reduceEqDiff, reduceCtorEq, ↓reduceIte]
  · simp (disch := omega) only [wk, tis, Int.reduceNe, Int.reduceEq, Int.reduceLT, Int.reduceLE, Int.reduceAdd, Int.reduceSub, Int.reduceNeg, Int.reduceMul, Int.reduceToNat, Nat.reduceSub, Nat.reduceMul, Nat.reduceLeDiff, Nat.reduceAdd, Nat.reduceLT, Nat.reduceEqDiff, reduceCtorEq, ↓reduceIte]
    simp [List.getD, show p.length ≤ i by omega]

theorem cv_take_full (p : List Int) (g : Nat → Int) (i : Nat) : cv (p.take (i + 1)) g i = cv p g i := by
  have key : ∀ m, cv (p.take (i + 1 + m)) g i = cv (p.take (i + 1)) g i := fun m => by
    induction m with
    | zero => rfl
    | succ m ih => rw [show i + 1 + (m + 1) = i + 1 + m + 1 by omega, cv_take_succ, if_neg (by omega), Int.add_zero, ih]
  rw [← key p.length, List.take_of_length_le (by omega)]

theorem tplus_ok (a b : List RI) (ha : RP (2 ^ 30) (2 ^ 36) a) (hb : RP (2 ^ 30) (2 ^ 36) b) : AC Tryz.prog 61 [cw a, cw b] none [cp (padd (pv a) (pv b))] := by
  refine AC.by_walk (rs := [.tmp 4]) ords Tryz.func61 (by rfl) (by rfl) (by rfl) (by rfl) (by rfl) ?_
  have hla := ha.1
  have hlb := hb.1
  generalize hn : max a.length b.length = n at *
  have hpl : (padd (pv a) (pv b)).length = n := by simp [padd, pv_len, hn]
  simp (disch := omega) only [wk, tis, Int.reduceNe, Int.reduceEq, Int.reduceLT, Int.reduceLE, Int.reduceAdd, Int.reduceSub, Int.reduceNeg, Int.reduceMul, Int.reduceToNat, Nat.reduceSub, Nat.reduceMul, Nat.reduceLeDiff, Nat.reduceAdd, Nat.reduceLT, Nat.reduceEqDiff, reduceCtorEq, ↓reduceIte]
  refine aloop_nil 5 5 27 2 (by simp (disch := omega) only [wk, tis, Int.reduceNe, Int.reduceEq, Int.reduceLT, Int.reduceLE, Int.reduceAdd, Int.reduceSub, Int.reduceNeg, Int.reduceMul, Int.reduceToNat, Nat.reduceSub, Nat.reduceMul, Nat.reduceLeDiff, Nat.reduceAdd, Nat.reduceLT, Nat.reduceEqDiff, reduceCtorEq, ↓reduceIte]) (fun f H => ∃ (i st : Nat), i ≤ n ∧ f 6 = .iv (.int .i64 i) ∧ f 0 = .iv (.sl (raws a)) ∧ f 1 = .iv (.sl (raws b)) ∧ f 5 = .hs 5 st ∧ H 5 = .blk false st 27 2 (raws (((padd (pv a) (pv b)).take i).map canon))) (fun f H => (n - intAt f 6).toNat) ?_ ?_
  · refine ⟨0, 1, by omega, ?_⟩
    simp (disch := omega) only [wk, tis, Int.reduceNe, Int.reduceEq, Int.reduceLT, Int.reduceLE, Int.reduceAdd, Int.reduceSub, Int.reduceNeg, Int.reduceMul, Int.reduceToNat, Nat.reduceSub, Nat.reduceMul, Nat.reduceLeDiff, Nat.reduceAdd, Nat.reduceLT, Nat.reduceEqDiff, reduceCtorEq, ↓reduceIte, ghostF, ghostH, List.take_zero]
  rintro f H ⟨i, st, hi, hF⟩
  rw [intAt_of hF.1]
  simp (disch := omega) only [wk, tis, Int.reduceNe, Int.reduceEq, Int.reduceLT, Int.reduceLE, Int.reduceAdd, Int.reduceSub, Int.reduceNeg, Int.reduceMul, Int.reduceToNat, Nat.reduceSub, Nat.reduceMul, Nat.reduceLeDiff, Nat.reduceAdd, Nat.reduceLT, Nat.reduceEqDiff, reduceCtorEq, ↓reduceIte, hF]
  by_cases hlt : i < n
  · have h3 : (i : Int) < a.length ∨ (¬ (i : Int) < a.length ∧ (i : Int) < b.length) := by omega
    have hq : (((padd (pv a) (pv b)).take i).map canon).length = i := by rw [List.length_map, List.length_take]; omega
    have z1 := ha.pv.cf i
    have z2 := hb.pv.cf i
    have c1 := tat_ok a i (by omega)
    have c2 := tat_ok b i (by omega)
    have m := rAdd_ok (a.getD i (false, [])) (b.getD i (false, [])) ((ha.get i).mono (by omega)) ((hb.get i).mono (by omega))
    rw [← cf_pv, ← cf_pv] at m
    have e : (padd (pv a) (pv b)).take (i + 1) = (padd (pv a) (pv b)).take i ++ [cf (pv a) i + cf (pv b) i] := by
      rw [List.take_add_one, ← cf_padd]
      congr 1
      simp [cf, List.getD, show i < (padd (pv a) (pv b)).length by omega]
    rcases h3 with h | ⟨h, h'⟩
    all_goals
      first | simp (disch := omega) only [wk, tis, Int.reduceNe, Int.reduceEq, Int.reduceLT, Int.reduceLE, Int.reduceAdd, Int.reduceSub, Int.reduceNeg, Int.reduceMul, Int.reduceToNat, Nat.reduceSub, Nat.reduceMul, Nat.reduceLeDiff, Nat.reduceAdd, Nat.reduceLT, Nat.reduceEqDiff, reduceCtorEq, ↓reduceIte, hF, h, h', hq] | simp (disch := omega) only [wk, tis, Int.reduceNe, Int.reduceEq, Int.reduceLT, Int.reduceLE, Int.reduceAdd, Int.reduceSub, Int.reduceNeg, Int.reduceMul, Int.reduceToNat, Nat.reduceSub, Nat.reduceMul, Nat.reduceLeDiff, Nat.reduceAdd, Nat.reduceLT, Nat.reduceEqDiff, reduceCtorEq, ↓reduceIte, hF, h, hq]
      refine call_by (c1) (by first | rfl | (simp only [tocvs, tocv, hF, hq]; rfl) | (simp only [tocvs, tocv, toboxes, tobox, updH_at, Nat.reduceEqDiff, ↓reduceIte, hF, hq]; rfl)) (by simp) ?_
      simp (disch := omega) only [wk, tis, Int.reduceNe, Int.reduceEq, Int.reduceLT, Int.reduceLE, Int.reduceAdd, Int.reduceSub, Int.reduceNeg, Int.reduceMul, Int.reduceToNat, Nat.reduceSub, Nat.reduceMul, Nat.reduceLeDiff, Nat.reduceAdd, Nat.reduceLT, Nat.reduceEqDiff, reduceCtorEq, ↓reduceIte, hF, hq]
      refine call_by (c2) (by first | rfl | (simp only [tocvs, tocv, hF, hq]; rfl) | (simp only [tocvs, tocv, toboxes, tobox, updH_at, Nat.reduceEqDiff, ↓reduceIte, hF, hq]; rfl)) (by simp) ?_
      simp (disch := omega) only [wk, tis, Int.reduceNe, Int.reduceEq, Int.reduceLT, Int.reduceLE, Int.reduceAdd, Int.reduceSub, Int.reduceNeg, Int.reduceMul, Int.reduceToNat, Nat.reduceSub, Nat.reduceMul, Nat.reduceLeDiff, Nat.reduceAdd, Nat.reduceLT, Nat.reduceEqDiff, reduceCtorEq, ↓reduceIte, hF, hq]
      refine call_by (m) (by first | rfl | (simp only [tocvs, tocv, hF, hq]; rfl) | (simp only [tocvs, tocv, toboxes, tobox, updH_at, Nat.reduceEqDiff, ↓reduceIte, hF, hq]; rfl)) (by simp) ?_
      simp (disch := omega) only [wk, tis, Int.reduceNe, Int.reduceEq, Int.reduceLT, Int.reduceLE, Int.reduceAdd, Int.reduceSub, Int.reduceNeg, Int.reduceMul, Int.reduceToNat, Nat.reduceSub, Nat.reduceMul, Nat.reduceLeDiff, Nat.reduceAdd, Nat.reduceLT, Nat.reduceEqDiff, reduceCtorEq, ↓reduceIte, hF, hq]
      exact ⟨⟨i + 1, st + 1, by omega, by omega, by rw [e]; exact ⟨rfl, rfl⟩⟩, by omega⟩
  · have h1 : ¬ (i : Int) < a.length := by omega
    have h2 : ¬ (i : Int) < b.length := by omega
    simp (disch := omega) only [wk, tis, Int.reduceNe, Int.reduceEq, Int.reduceLT, Int.reduceLE, Int.reduceAdd, Int.reduceSub, Int.reduceNeg, Int.reduceMul, Int.reduceToNat, Nat.reduceSub, Nat.reduceMul, Nat.reduceLeDiff, Nat.reduceAdd, Nat.reduceLT, Nat.reduceEqDiff, reduceCtorEq, ↓reduceIte, hF, h1, h2]
    have hb := ha.pv.padd hb.pv
    have := tN_ok ((padd (pv a) (pv b)).map canon) (RP.canon (hb.mono (by omega) (by omega)))
    rw [pv_canon] at this
    rw [List.take_of_length_le (by omega)] at hF
    refine call_by (this) (by first | rfl | (simp only [tocvs, tocv, hF]; rfl) | (simp only [tocvs, tocv, toboxes, tobox, updH_at, Nat.reduceEqDiff, ↓reduceIte, hF]; rfl)) (by simp) ?_
    simp (disch := omega) only [wk, tis, Int.reduceNe, Int.reduceEq, Int.reduceLT, Int.reduceLE, Int.reduceAdd, Int.reduceSub, Int.reduceNeg, Int.reduceMul, Int.reduceToNat, Nat.reduceSub, Nat.reduceMul, Nat.reduceLeDiff, Nat.reduceAdd, Nat.reduceLT, Nat.reduceEqDiff, reduceCtorEq, ↓reduceIte, hF]

theorem ttimes_ok (a b : List RI) (ha : RP (2 ^ 30) (2 ^ 35) a) (hb : RP (2 ^ 30) (2 ^ 35) b) : AC Tryz.prog 63 [cw a, cw b] none [cp (pmul (pv a) (pv b))] := by
  refine AC.by_walk (rs := [.tmp 4]) ords Tryz.func63 (by rfl) (by rfl) (by rfl) (by rfl) (by rfl) ?_
  have hla := ha.1
  have hlb := hb.1
  have pla := pv_len a
  have plb := pv_len b
  obtain ⟨F, hFd⟩ : ∃ F : Nat → List Int, F = fun i => (List.range i).map fun k => cv (pv a) (cf (pv b)) k := ⟨_, rfl⟩
  have hFl : ∀ i, (F i).length = i := fun i => by rw [hFd]; simp
  have hF0 : F 0 = [] := by rw [hFd]; rfl
  have hFs : ∀ i, F (i + 1) = F i ++ [cv (pv a) (cf (pv b)) i] := fun i => by rw [hFd]; simp [List.range_succ]
  simp (disch := omega) only [wk, tis, Int.reduceNe, Int.reduceEq, Int.reduceLT, Int.reduceLE, Int.reduceAdd, Int.reduceSub, Int.reduceNeg, Int.reduceMul, Int.reduceToNat, Nat.reduceSub, Nat.reduceMul, Nat.reduceLeDiff, Nat.reduceAdd, Nat.reduceLT, Nat.reduceEqDiff, reduceCtorEq, ↓reduceIte]
  refine aloop_nil 5 5 27 2 (by simp (disch := omega) only [wk, tis, Int.reduceNe, Int.reduceEq, Int.reduceLT, Int.reduceLE, Int.reduceAdd, Int.reduceSub, Int.reduceNeg, Int.reduceMul, Int.reduceToNat, Nat.reduceSub, Nat.reduceMul, Nat.reduceLeDiff, Nat.reduceAdd, Nat.reduceLT, Nat.reduceEqDiff, reduceCtorEq, ↓reduceIte]) (fun f H => ∃ (i st : Nat), i ≤ a.length + b.length ∧ f 6 = .iv (.int .i64 i) ∧ f 0 = .iv (.sl (raws a)) ∧ f 1 = .iv (.sl (raws b)) ∧ f 5 = .hs 5 st ∧ H 5 = .blk false st 27 2 (raws ((F i).map canon))) (fun f H => (a.length + b.length - intAt f 6).toNat) ?_ ?_
  · refine ⟨0, 1, by omega, ?_⟩
    simp (disch := omega) only [wk, tis, Int.reduceNe, Int.reduceEq, Int.reduceLT, Int.reduceLE, Int.reduceAdd, Int.reduceSub, Int.reduceNeg, Int.reduceMul, Int.reduceToNat, Nat.reduceSub, Nat.reduceMul, Nat.reduceLeDiff, Nat.reduceAdd, Nat.reduceLT, Nat.reduceEqDiff, reduceCtorEq, ↓reduceIte, ghostF, ghostH, hF0]
  rintro f H ⟨i, st, hi, hF⟩
  rw [intAt_of hF.1]
  simp (disch := omega) only [wk, tis, Int.reduceNe, Int.reduceEq, Int.reduceLT, Int.reduceLE, Int.reduceAdd, Int.reduceSub, Int.reduceNeg, Int.reduceMul, Int.reduceToNat, Nat.reduceSub, Nat.reduceMul, Nat.reduceLeDiff, Nat.reduceAdd, Nat.reduceLT, Nat.reduceEqDiff, reduceCtorEq, ↓reduceIte, hF]
  refine if_by (fun hlt => ?_) (fun hlt => ?_)
  · have hq : ((F i).map canon).length = i := by rw [List.length_map, hFl]
    simp (disch := omega) only [wk, tis, Int.reduceNe, Int.reduceEq, Int.reduceLT, Int.reduceLE, Int.reduceAdd, Int.reduceSub, Int.reduceNeg, Int.reduceMul, Int.reduceToNat, Nat.reduceSub, Nat.reduceMul, Nat.reduceLeDiff, Nat.reduceAdd, Nat.reduceLT, Nat.reduceEqDiff, reduceCtorEq, ↓reduceIte, hF, hq]
    refine aloop_by (fun f H => ∃ (k st st7 : Nat), k ≤ i + 1 ∧ f 8 = .iv (.int .i64 k) ∧ f 6 = .iv (.int .i64 i) ∧ f 0 = .iv (.sl (raws a)) ∧ f 1 = .iv (.sl (raws b)) ∧ f 5 = .hs 5 st ∧ H 5 = .blk false st 27 2 (raws ((F i).map canon)) ∧ f 7 = .hp 7 st7 0 0 ∧ H 7 = .blk false st7 27 2 [prow (canon (cv ((pv a).take k) (cf (pv b)) i))]) (fun f H => (i + 1 - intAt f 8).toNat) ?_ ?_
    · refine ⟨0, st, (H 7).stamp + 1, by omega, ?_⟩
      simp (disch := omega) only [wk, tis, Int.reduceNe, Int.reduceEq, Int.reduceLT, Int.reduceLE, Int.reduceAdd, Int.reduceSub, Int.reduceNeg, Int.reduceMul, Int.reduceToNat, Nat.reduceSub, Nat.reduceMul, Nat.reduceLeDiff, Nat.reduceAdd, Nat.reduceLT, Nat.reduceEqDiff, reduceCtorEq, ↓reduceIte, hF, canon_zero, List.take_zero, show cv [] (cf (pv b)) i = 0 from rfl]
    rintro f H ⟨k, st, st7, hk, hF⟩
    rw [intAt_of hF.1]
    simp (disch := omega) only [wk, tis, Int.reduceNe, Int.reduceEq, Int.reduceLT, Int.reduceLE, Int.reduceAdd, Int.reduceSub, Int.reduceNeg, Int.reduceMul, Int.reduceToNat, Nat.reduceSub, Nat.reduceMul, Nat.reduceLeDiff, Nat.reduceAdd, Nat.reduceLT, Nat.reduceEqDiff, reduceCtorEq, ↓reduceIte, hF]
    refine if_by (fun hki => ?_) (fun hki => ?_)
    · have hki' : k ≤ i := by omega
      have hz := zl_cv (PB_take ha.pv k) hb.pv (by decide) i
      have hs := cv_take_succ (g := cf (pv b)) (pv a) k i
      rw [if_pos hki'] at hs
      by_cases h1 : (k : Int) < a.length
      · by_cases h2 : (i : Int) - k < b.length
        · have eik : (i : Int) - k = ((i - k : Nat) : Int) := by omega
          have h2' : ((i - k : Nat) : Int) < b.length := by omega
          have h2'' : i - k < b.length := by omega
          have zak := ha.pv.cf k
          have zbk := hb.pv.cf (i - k)
          have hprod := zl_mul (cf (pv a) k) (cf (pv b) (i - k))
          simp (disch := omega) only [wk, tis, Int.reduceNe, Int.reduceEq, Int.reduceLT, Int.reduceLE, Int.reduceAdd, Int.reduceSub, Int.reduceNeg, Int.reduceMul, Int.reduceToNat, Nat.reduceSub, Nat.reduceMul, Nat.reduceLeDiff, Nat.reduceAdd, Nat.reduceLT, Nat.reduceEqDiff, reduceCtorEq, ↓reduceIte, hF, hq, h1, eik, h2', h2'']
          refine ⟨tmps_by (by kernel_rfl), ?_⟩
          have m := rMul_ok (a.getD k (false, [])) (b.getD (i - k) (false, [])) ((ha.get k).mono (by omega)) ((hb.get (i - k)).mono (by omega))
          rw [← cf_pv, ← cf_pv] at m
          refine call_by (m) (by first | rfl | (simp only [tocvs, tocv, hF, hq]; rfl) | (simp only [tocvs, tocv, toboxes, tobox, updH_at, Nat.reduceEqDiff, ↓reduceIte, hF, hq]; rfl)) (by simp) ?_
          simp (disch := omega) only [wk, tis, Int.reduceNe, Int.reduceEq, Int.reduceLT, Int.reduceLE, Int.reduceAdd, Int.reduceSub, Int.reduceNeg, Int.reduceMul, Int.reduceToNat, Nat.reduceSub, Nat.reduceMul, Nat.reduceLeDiff, Nat.reduceAdd, Nat.reduceLT, Nat.reduceEqDiff, reduceCtorEq, ↓reduceIte, hF, hq]
          have s := rAdd_ok (canon (cv ((pv a).take k) (cf (pv b)) i)) (canon (cf (pv a) k * cf (pv b) (i - k))) ((sz_canon _).mono (by omega)) ((sz_canon _).mono (by omega))
          rw [iv_canon, iv_canon] at s
          refine call_by (s) (by first | rfl | (simp only [tocvs, tocv, hF, hq]; rfl) | (simp only [tocvs, tocv, toboxes, tobox, updH_at, Nat.reduceEqDiff, ↓reduceIte, hF, hq]; rfl)) (by simp) ?_
          simp (disch := omega) only [wk, tis, Int.reduceNe, Int.reduceEq, Int.reduceLT, Int.reduceLE, Int.reduceAdd, Int.reduceSub, Int.reduceNeg, Int.reduceMul, Int.reduceToNat, Nat.reduceSub, Nat.reduceMul, Nat.reduceLeDiff, Nat.reduceAdd, Nat.reduceLT, Nat.reduceEqDiff, reduceCtorEq, ↓reduceIte, hF, hq]
          first | exact log_by (by kernel_rfl) | refine ⟨log_by (by kernel_rfl), ?_⟩
          exact ⟨⟨k + 1, st, st7, by omega, by omega, by rw [hs]; exact ⟨rfl, rfl, rfl, rfl⟩⟩, by omega⟩
        · rw [cf_ge (q := pv b) (by omega), Int.mul_zero, Int.add_zero] at hs
          simp (disch := omega) only [wk, tis, Int.reduceNe, Int.reduceEq, Int.reduceLT, Int.reduceLE, Int.reduceAdd, Int.reduceSub, Int.reduceNeg, Int.reduceMul, Int.reduceToNat, Nat.reduceSub, Nat.reduceMul, Nat.reduceLeDiff, Nat.reduceAdd, Nat.reduceLT, Nat.reduceEqDiff, reduceCtorEq, ↓reduceIte, hF, hq, h1, h2]
          exact ⟨⟨k + 1, st, st7, by omega, by omega, by rw [hs]; exact ⟨rfl, rfl, rfl, rfl⟩⟩, by omega⟩
      · rw [cf_ge (q := pv a) (by omega), Int.zero_mul, Int.add_zero] at hs
        simp (disch := omega) only [wk, tis, Int.reduceNe, Int.reduceEq, Int.reduceLT, Int.reduceLE, Int.reduceAdd, Int.reduceSub, Int.reduceNeg, Int.reduceMul, Int.reduceToNat, Nat.reduceSub, Nat.reduceMul, Nat.reduceLeDiff, Nat.reduceAdd, Nat.reduceLT, Nat.reduceEqDiff, reduceCtorEq, ↓reduceIte, hF, hq, h1]
        exact ⟨⟨k + 1, st, st7, by omega, by omega, by rw [hs]; exact ⟨rfl, rfl, rfl, rfl⟩⟩, by omega⟩
    · have ek : k = i + 1 := by omega
      subst ek
      rw [cv_take_full] at hF
      simp (disch := omega) only [wk, tis, Int.reduceNe, Int.reduceEq, Int.reduceLT, Int.reduceLE, Int.reduceAdd, Int.reduceSub, Int.reduceNeg, Int.reduceMul, Int.reduceToNat, Nat.reduceSub, Nat.reduceMul, Nat.reduceLeDiff, Nat.reduceAdd, Nat.reduceLT, Nat.reduceEqDiff, reduceCtorEq, ↓reduceIte, hF, hq]
      exact ⟨⟨i + 1, st + 1, by omega, by omega, by rw [hFs]; exact ⟨rfl, rfl⟩⟩, by omega⟩
  · simp (disch := omega) only [wk, tis, Int.reduceNe, Int.reduceEq, Int.reduceLT, Int.reduceLE, Int.reduceAdd, Int.reduceSub, Int.reduceNeg, Int.reduceMul, Int.reduceToNat, Nat.reduceSub, Nat.reduceMul, Nat.reduceLeDiff, Nat.reduceAdd, Nat.reduceLT, Nat.reduceEqDiff, reduceCtorEq, ↓reduceIte, hF]
    have hi' : i = a.length + b.length := by omega
    have e : F i = pmul (pv a) (pv b) := by rw [hFd, hi', ← pla, ← plb]; rfl
    rw [e] at hF
    have hb := ha.pv.pmul hb.pv (by decide)
    have := tN_ok ((pmul (pv a) (pv b)).map canon) (RP.canon (hb.mono (by omega) (by omega)))
    rw [pv_canon] at this
    refine call_by (this) (by first | rfl | (simp only [tocvs, tocv, hF]; rfl) | (simp only [tocvs, tocv, toboxes, tobox, updH_at, Nat.reduceEqDiff, ↓reduceIte, hF]; rfl)) (by simp) ?_
    simp (disch := omega) only [wk, tis, Int.reduceNe, Int.reduceEq, Int.reduceLT, Int.reduceLE, Int.reduceAdd, Int.reduceSub, Int.reduceNeg, Int.reduceMul, Int.reduceToNat, Nat.reduceSub, Nat.reduceMul, Nat.reduceLeDiff, Nat.reduceAdd, Nat.reduceLT, Nat.reduceEqDiff, reduceCtorEq, ↓reduceIte, hF]
end Go.Proofs.YtaepoooifkjbmaaGreat

namespace Go.Proofs.YtaepoooifkjbmaaGreat
open Go Go.Proofs Go.AL
set_option linter.unusedSimpArgs false
set_option linter.unusedVariables false

end Go.Proofs.YtaepoooifkjbmaaGreat

namespace Go.Proofs.YtaepoooifkjbmaaGreat
open Go Go.Proofs Go.AL
set_option linter.unusedSimpArgs false
set_option linter.unusedVariables false

theorem tby_ok (p : List RI) (c : RI) (hp : RP (2 ^ 30) (2 ^ 36) p) (hc : Sz (2 ^ 36) c) : AC Tryz.prog 62 [cw p, cr c] none [cp (pscale (iv c) (pv p))] := by
  refine AC.by_walk (rs := [.tmp 4]) ords Tryz.func62 (by rfl) (by rfl) (by rfl) (by rfl) (by rfl) ?_
  have hl := hp.1
  have hpl : (pscale (iv c) (pv p)).length = p.length := by simp [pscale, pv_len]
  simp (disch := omega) only [wk, tis, Int.reduceNe, Int.reduceEq, Int.reduceLT, Int.reduceLE, Int.reduceAdd, Int.reduceSub, Int.reduceNeg, Int.reduceMul, Int.reduceToNat, Nat.reduceSub, Nat.reduceMul, Nat.reduceLeDiff, Nat.reduceAdd, Nat.reduceLT, Nat.reduceEqDiff, reduceCtorEq, ↓reduceIte]
  refine aloop_nil 5 5 27 2 (by simp (disch := omega) only [wk, tis, Int.reduceNe, Int.reduceEq, Int.reduceLT, Int.reduceLE, Int.reduceAdd, Int.reduceSub, Int.reduceNeg, Int.reduceMul, Int.reduceToNat, Nat.reduceSub, Nat.reduceMul, Nat.reduceLeDiff, Nat.reduceAdd, Nat.reduceLT, Nat.reduceEqDiff, reduceCtorEq, ↓reduceIte]) (fun f H => ∃ (i st st3 : Nat), i ≤ p.length ∧ f 6 = .iv (.int .i64 i) ∧ f 0 = .iv (.sl (raws p)) ∧ f 3 = .hp 3 st3 0 0 ∧ f 5 = .hs 5 st ∧ H 3 = .blk false st3 27 2 [prow c] ∧ H 5 = .blk false st 27 2 (raws (((pscale (iv c) (pv p)).take i).map canon))) (fun f H => (p.length - intAt f 6).toNat) ?_ ?_
  · refine ⟨0, 1, 1, by omega, ?_⟩
    simp (disch := omega) only [wk, tis, Int.reduceNe, Int.reduceEq, Int.reduceLT, Int.reduceLE, Int.reduceAdd, Int.reduceSub, Int.reduceNeg, Int.reduceMul, Int.reduceToNat, Nat.reduceSub, Nat.reduceMul, Nat.reduceLeDiff, Nat.reduceAdd, Nat.reduceLT, Nat.reduceEqDiff, reduceCtorEq, ↓reduceIte, ghostF, ghostH, List.take_zero]
  rintro f H ⟨i, st, st3, hi, hF⟩
  rw [intAt_of hF.1]
  simp (disch := omega) only [wk, tis, Int.reduceNe, Int.reduceEq, Int.reduceLT, Int.reduceLE, Int.reduceAdd, Int.reduceSub, Int.reduceNeg, Int.reduceMul, Int.reduceToNat, Nat.reduceSub, Nat.reduceMul, Nat.reduceLeDiff, Nat.reduceAdd, Nat.reduceLT, Nat.reduceEqDiff, reduceCtorEq, ↓reduceIte, hF]
  refine if_by (fun hlt => ?_) (fun hlt => ?_)
  · have hq : (((pscale (iv c) (pv p)).take i).map canon).length = i := by rw [List.length_map, List.length_take]; omega
    simp (disch := omega) only [wk, tis, Int.reduceNe, Int.reduceEq, Int.reduceLT, Int.reduceLE, Int.reduceAdd, Int.reduceSub, Int.reduceNeg, Int.reduceMul, Int.reduceToNat, Nat.reduceSub, Nat.reduceMul, Nat.reduceLeDiff, Nat.reduceAdd, Nat.reduceLT, Nat.reduceEqDiff, reduceCtorEq, ↓reduceIte, hF, hq]
    refine ⟨tmps_by (by kernel_rfl), ?_⟩
    have m := rMul_ok (p.getD i (false, [])) c ((hp.get i).mono (by omega)) (hc.mono (by omega))
    rw [← cf_pv, ← cf_pscale] at m
    refine call_by (m) (by first | rfl | (simp only [tocvs, tocv, hF, hq]; rfl) | (simp only [tocvs, tocv, toboxes, tobox, updH_at, Nat.reduceEqDiff, ↓reduceIte, hF, hq]; rfl)) (by simp) ?_
    simp (disch := omega) only [wk, tis, Int.reduceNe, Int.reduceEq, Int.reduceLT, Int.reduceLE, Int.reduceAdd, Int.reduceSub, Int.reduceNeg, Int.reduceMul, Int.reduceToNat, Nat.reduceSub, Nat.reduceMul, Nat.reduceLeDiff, Nat.reduceAdd, Nat.reduceLT, Nat.reduceEqDiff, reduceCtorEq, ↓reduceIte, hF, hq]
    first | exact log_by (by kernel_rfl) | refine ⟨log_by (by kernel_rfl), ?_⟩
    have e : (pscale (iv c) (pv p)).take (i + 1) = (pscale (iv c) (pv p)).take i ++ [cf (pscale (iv c) (pv p)) i] := by
      rw [List.take_add_one]
      congr 1
      simp [cf, List.getD, show i < (pscale (iv c) (pv p)).length by omega]
    exact ⟨⟨i + 1, st + 1, st3, by omega, by omega, by rw [e]; exact ⟨rfl, rfl, rfl, rfl⟩⟩, by omega⟩
  · simp (disch := omega) only [wk, tis, Int.reduceNe, Int.reduceEq, Int.reduceLT, Int.reduceLE, Int.reduceAdd, Int.reduceSub, Int.reduceNeg, Int.reduceMul, Int.reduceToNat, Nat.reduceSub, Nat.reduceMul, Nat.reduceLeDiff, Nat.reduceAdd, Nat.reduceLT, Nat.reduceEqDiff, reduceCtorEq, ↓reduceIte, hF]
    have hz := zl_iv hc
    have hb := hp.pv.pscale (c := iv c)
    have := tN_ok ((pscale (iv c) (pv p)).map canon) (RP.canon (hb.mono (by omega) (by omega)))
    rw [pv_canon] at this
    rw [List.take_of_length_le (by omega)] at hF
    refine call_by (this) (by first | rfl | (simp only [tocvs, tocv, hF]; rfl) | (simp only [tocvs, tocv, toboxes, tobox, updH_at, Nat.reduceEqDiff, ↓reduceIte, hF]; rfl)) (by simp) ?_
    simp (disch := omega) only [wk, tis, Int.reduceNe, Int.reduceEq, Int.reduceLT, Int.reduceLE, Int.reduceAdd, Int.reduceSub, Int.reduceNeg, Int.reduceMul, Int.reduceToNat, Nat.reduceSub, Nat.reduceMul, Nat.reduceLeDiff, Nat.reduceAdd, Nat.reduceLT, Nat.reduceEqDiff, reduceCtorEq, ↓reduceIte, hF]

theorem tpow_ok (p : List RI) (m : Nat) (h : RP (2 ^ 10) (2 ^ 20) p) (hm : m ≤ 2 ^ 10) : AC Tryz.prog 64 [cw p, ci m] none [cp (ppow (pv p) m)] := by
  refine AC.by_walk (rs := [.tmp 4]) ords Tryz.func64 (by rfl) (by rfl) (by rfl) (by rfl) (by rfl) ?_
  simp (disch := omega) only [wk, tis, Int.reduceNe, Int.reduceEq, Int.reduceLT, Int.reduceLE, Int.reduceAdd, Int.reduceSub, Int.reduceNeg, Int.reduceMul, Int.reduceToNat, Nat.reduceSub, Nat.reduceMul, Nat.reduceLeDiff, Nat.reduceAdd, Nat.reduceLT, Nat.reduceEqDiff, reduceCtorEq, ↓reduceIte]
  have s1 := tP_ok [1] (by decide) (by decide)
  refine call_by (s1) (by rfl) (by simp) ?_
  simp (disch := omega) only [wk, tis, Int.reduceNe, Int.reduceEq, Int.reduceLT, Int.reduceLE, Int.reduceAdd, Int.reduceSub, Int.reduceNeg, Int.reduceMul, Int.reduceToNat, Nat.reduceSub, Nat.reduceMul, Nat.reduceLeDiff, Nat.reduceAdd, Nat.reduceLT, Nat.reduceEqDiff, reduceCtorEq, ↓reduceIte]
  have hb : ∀ x, x ≤ 2 ^ 10 → PB (2 ^ 30) (2 ^ 35) (ppow (pv p) x) := fun x hx => ((h.pv.ppow (by decide)) x).mono (by omega) (by omega)
  refine aloop_by (fun f H => ∃ (i : Nat), i ≤ m ∧ f 6 = .iv (.int .i64 i) ∧ f 0 = .iv (.sl (raws p)) ∧ f 1 = .iv (.int .i64 m) ∧ f 5 = .iv (.sl (cpoly (ppow (pv p) i)))) (fun f H => (m - intAt f 6).toNat) ?_ ?_
  · refine ⟨0, by omega, ?_⟩
    simp (disch := omega) only [wk, tis, Int.reduceNe, Int.reduceEq, Int.reduceLT, Int.reduceLE, Int.reduceAdd, Int.reduceSub, Int.reduceNeg, Int.reduceMul, Int.reduceToNat, Nat.reduceSub, Nat.reduceMul, Nat.reduceLeDiff, Nat.reduceAdd, Nat.reduceLT, Nat.reduceEqDiff, reduceCtorEq, ↓reduceIte, ppow]
  rintro f H ⟨i, hi, hF⟩
  rw [intAt_of hF.1]
  simp (disch := omega) only [wk, tis, Int.reduceNe, Int.reduceEq, Int.reduceLT, Int.reduceLE, Int.reduceAdd, Int.reduceSub, Int.reduceNeg, Int.reduceMul, Int.reduceToNat, Nat.reduceSub, Nat.reduceMul, Nat.reduceLeDiff, Nat.reduceAdd, Nat.reduceLT, Nat.reduceEqDiff, reduceCtorEq, ↓reduceIte, hF]
  refine if_by (fun hlt => ?_) (fun hlt => ?_)
  · simp (disch := omega) only [wk, tis, Int.reduceNe, Int.reduceEq, Int.reduceLT, Int.reduceLE, Int.reduceAdd, Int.reduceSub, Int.reduceNeg, Int.reduceMul, Int.reduceToNat, Nat.reduceSub, Nat.reduceMul, Nat.reduceLeDiff, Nat.reduceAdd, Nat.reduceLT, Nat.reduceEqDiff, reduceCtorEq, ↓reduceIte, hF]
    have hm := ttimes_ok (cn (ppow (pv p) i)) p (rp_cn (hb i (by omega))) (h.mono (by omega) (by omega))
    have e : cp (pmul (pv (cn (ppow (pv p) i))) (pv p)) = cp (ppow (pv p) (i + 1)) := cp_ps (by rw [ps_pmul, ps_cn, ps_ppow, ps_ppow]; rfl)
    rw [e] at hm
    refine call_by (hm) (by first | rfl | (simp only [tocvs, tocv, hF]; rfl) | (simp only [tocvs, tocv, toboxes, tobox, updH_at, Nat.reduceEqDiff, ↓reduceIte, hF]; rfl)) (by simp) ?_
    simp (disch := omega) only [wk, tis, Int.reduceNe, Int.reduceEq, Int.reduceLT, Int.reduceLE, Int.reduceAdd, Int.reduceSub, Int.reduceNeg, Int.reduceMul, Int.reduceToNat, Nat.reduceSub, Nat.reduceMul, Nat.reduceLeDiff, Nat.reduceAdd, Nat.reduceLT, Nat.reduceEqDiff, reduceCtorEq, ↓reduceIte, hF]
    exact ⟨⟨i + 1, by omega, by omega, rfl⟩, by omega⟩
  · simp (disch := omega) only [wk, tis, Int.reduceNe, Int.reduceEq, Int.reduceLT, Int.reduceLE, Int.reduceAdd, Int.reduceSub, Int.reduceNeg, Int.reduceMul, Int.reduceToNat, Nat.reduceSub, Nat.reduceMul, Nat.reduceLeDiff, Nat.reduceAdd, Nat.reduceLT, Nat.reduceEqDiff, reduceCtorEq, ↓reduceIte, hF]
    have : i = m := by omega
    subst this
    rfl

theorem tby_g {p : List RI} {c : Int} {q : List Int} (hp : RP (2 ^ 30) (2 ^ 36) p) (hc : zl c ≤ 2 ^ 36) (e : ps (pv p) = ps q) : AC Tryz.prog 62 [cw p, cz c] none [cp (pscale c q)] := by
  have h := tby_ok p (canon c) hp ((sz_canon _).mono hc)
  rw [iv_canon] at h
  rwa [cp_ps (show ps (pscale c (pv p)) = ps (pscale c q) by rw [ps_pscale, ps_pscale, e])] at h
theorem tplus_g {a b : List RI} {q r : List Int} (ha : RP (2 ^ 30) (2 ^ 36) a) (hb : RP (2 ^ 30) (2 ^ 36) b) (eq : ps (pv a) = ps q) (er : ps (pv b) = ps r) : AC Tryz.prog 61 [cw a, cw b] none [cp (padd q r)] := by
  have h := tplus_ok a b ha hb
  rwa [cp_ps (show ps (padd (pv a) (pv b)) = ps (padd q r) by rw [ps_padd, ps_padd, eq, er])] at h
theorem ttimes_g {a b : List RI} {q r : List Int} (ha : RP (2 ^ 30) (2 ^ 35) a) (hb : RP (2 ^ 30) (2 ^ 35) b) (eq : ps (pv a) = ps q) (er : ps (pv b) = ps r) : AC Tryz.prog 63 [cw a, cw b] none [cp (pmul q r)] := by
  have h := ttimes_ok a b ha hb
  rwa [cp_ps (show ps (pmul (pv a) (pv b)) = ps (pmul q r) by rw [ps_pmul, ps_pmul, eq, er])] at h

theorem into_step {S : PS} {f g : PS} {A : List Int} {c : Int} {i n : Nat} (hi : i < n) (hA : A.length = i) (h : S = hom A f g * PS.pw g (n - i)) :
    S + PS.C c * (PS.pw f i * PS.pw g (n - 1 - i)) = hom (A ++ [c]) f g * PS.pw g (n - (i + 1)) := by
  have e : n - i = n - (i + 1) + 1 := by omega
  rw [hom_snoc, PS.add_mul, h, e, PS.pw, hA, show n - 1 - i = n - (i + 1) by omega]
  ac_rfl

theorem tinto_ok (p a b : List RI) (hp : RP (2 ^ 8) (2 ^ 20) p) (ha : RP (2 ^ 10) (2 ^ 20) a) (hb : RP (2 ^ 10) (2 ^ 20) b) : AC Tryz.prog 35 [cw p, cw a, cw b] none [cp (lhom (trimz (pv p)) (pv a) (pv b))] := by
  have hA := hp.pv.trimz
  have hl : cpoly (pv p) = raws ((trimz (pv p)).map canon) := rfl
  refine AC.by_walk (rs := [.tmp 6]) ords Tryz.func35 (by rfl) (by rfl) (by rfl) (by rfl) (by rfl) ?_
  simp (disch := omega) only [wk, tis, Int.reduceNe, Int.reduceEq, Int.reduceLT, Int.reduceLE, Int.reduceAdd, Int.reduceSub, Int.reduceNeg, Int.reduceMul, Int.reduceToNat, Nat.reduceSub, Nat.reduceMul, Nat.reduceLeDiff, Nat.reduceAdd, Nat.reduceLT, Nat.reduceEqDiff, reduceCtorEq, ↓reduceIte]
  refine call_by ((tN_ok p (hp.mono (by omega) (by omega)))) (by rfl) (by simp) ?_
  simp (disch := omega) only [wk, tis, Int.reduceNe, Int.reduceEq, Int.reduceLT, Int.reduceLE, Int.reduceAdd, Int.reduceSub, Int.reduceNeg, Int.reduceMul, Int.reduceToNat, Nat.reduceSub, Nat.reduceMul, Nat.reduceLeDiff, Nat.reduceAdd, Nat.reduceLT, Nat.reduceEqDiff, reduceCtorEq, ↓reduceIte]
  rw [hl]
  generalize trimz (pv p) = A at *
  have hAl := hA.1
  have hq : (A.map canon).length = A.length := by simp
  have pa := ha.pv
  have pb := hb.pv
  have hPa : ∀ x, x ≤ 2 ^ 10 → PB (2 ^ 21) (2 ^ 32) (ppow (pv a) x) := fun x hx => (pa.ppow (by decide) x).mono (by omega) (by omega)
  have hPb : ∀ x, x ≤ 2 ^ 10 → PB (2 ^ 21) (2 ^ 32) (ppow (pv b) x) := fun x hx => (pb.ppow (by decide) x).mono (by omega) (by omega)
  have hq0 : cpoly [] = [] := rfl
  refine aloop_w ((.iv 7 11 1 false 27 2 [] (by simp (disch := omega) only [wk, tis, Int.reduceNe, Int.reduceEq, Int.reduceLT, Int.reduceLE, Int.reduceAdd, Int.reduceSub, Int.reduceNeg, Int.reduceMul, Int.reduceToNat, Nat.reduceSub, Nat.reduceMul, Nat.reduceLeDiff, Nat.reduceAdd, Nat.reduceLT, Nat.reduceEqDiff, reduceCtorEq, ↓reduceIte]) (by simp (disch := omega) only [wk, tis, Int.reduceNe, Int.reduceEq, Int.reduceLT, Int.reduceLE, Int.reduceAdd, Int.reduceSub, Int.reduceNeg, Int.reduceMul, Int.reduceToNat, Nat.reduceSub, Nat.reduceMul, Nat.reduceLeDiff, Nat.reduceAdd, Nat.reduceLT, Nat.reduceEqDiff, reduceCtorEq, ↓reduceIte]) (.refl _ _))) (fun f H => ∃ (i : Nat) (S : List Int), i ≤ A.length ∧ PB (2 ^ 22) (2 ^ 33 + 2 ^ 21 + i) S ∧ ps S = hom (A.take i) (ps (pv a)) (ps (pv b)) * PS.pw (ps (pv b)) (A.length - i) ∧ f 8 = .iv (.int .i64 i) ∧ f 0 = .iv (.sl (raws (A.map canon))) ∧ f 1 = .iv (.sl (raws a)) ∧ f 2 = .iv (.sl (raws b)) ∧ f 7 = .iv (.sl (cpoly S))) (fun f H => (A.length - intAt f 8).toNat) ?_ ?_
  · refine ⟨0, [], by omega, ⟨by simp, fun z hz => by simp at hz⟩, by rw [List.take_zero, hom, PS.zero_mul, ps_nil], ?_⟩
    simp (disch := omega) only [wk, tis, Int.reduceNe, Int.reduceEq, Int.reduceLT, Int.reduceLE, Int.reduceAdd, Int.reduceSub, Int.reduceNeg, Int.reduceMul, Int.reduceToNat, Nat.reduceSub, Nat.reduceMul, Nat.reduceLeDiff, Nat.reduceAdd, Nat.reduceLT, Nat.reduceEqDiff, reduceCtorEq, ↓reduceIte, hq0]
  rintro f H ⟨i, S, hi, hSb, hSe, hF⟩
  rw [intAt_of hF.1]
  simp (disch := omega) only [wk, tis, Int.reduceNe, Int.reduceEq, Int.reduceLT, Int.reduceLE, Int.reduceAdd, Int.reduceSub, Int.reduceNeg, Int.reduceMul, Int.reduceToNat, Nat.reduceSub, Nat.reduceMul, Nat.reduceLeDiff, Nat.reduceAdd, Nat.reduceLT, Nat.reduceEqDiff, reduceCtorEq, ↓reduceIte, hF]
  simp (disch := omega) only [wk, tis, Int.reduceNe, Int.reduceEq, Int.reduceLT, Int.reduceLE, Int.reduceAdd, Int.reduceSub, Int.reduceNeg, Int.reduceMul, Int.reduceToNat, Nat.reduceSub, Nat.reduceMul, Nat.reduceLeDiff, Nat.reduceAdd, Nat.reduceLT, Nat.reduceEqDiff, reduceCtorEq, ↓reduceIte, hq]
  refine if_by (fun hlt => ?_) (fun hlt => ?_)
  · have ei : (A.length : Int) - 1 - i = ((A.length - 1 - i : Nat) : Int) := by omega
    have zi := hA.cf i
    simp (disch := omega) only [wk, tis, Int.reduceNe, Int.reduceEq, Int.reduceLT, Int.reduceLE, Int.reduceAdd, Int.reduceSub, Int.reduceNeg, Int.reduceMul, Int.reduceToNat, Nat.reduceSub, Nat.reduceMul, Nat.reduceLeDiff, Nat.reduceAdd, Nat.reduceLT, Nat.reduceEqDiff, reduceCtorEq, ↓reduceIte, hF, hq, ei]
    refine ⟨tmps_by (by kernel_rfl), ?_⟩
    refine call_by ((tpow_ok a i ha (by omega))) (by first | rfl | (simp only [tocvs, tocv, hF, hq, ei]; rfl) | (simp only [tocvs, tocv, toboxes, tobox, updH_at, Nat.reduceEqDiff, ↓reduceIte, hF, hq, ei]; rfl)) (by simp) ?_
    simp (disch := omega) only [wk, tis, Int.reduceNe, Int.reduceEq, Int.reduceLT, Int.reduceLE, Int.reduceAdd, Int.reduceSub, Int.reduceNeg, Int.reduceMul, Int.reduceToNat, Nat.reduceSub, Nat.reduceMul, Nat.reduceLeDiff, Nat.reduceAdd, Nat.reduceLT, Nat.reduceEqDiff, reduceCtorEq, ↓reduceIte, hF, hq, ei]
    refine call_by ((tpow_ok b (A.length - 1 - i) hb (by omega))) (by first | rfl | (simp only [tocvs, tocv, hF, hq, ei]; rfl) | (simp only [tocvs, tocv, toboxes, tobox, updH_at, Nat.reduceEqDiff, ↓reduceIte, hF, hq, ei]; rfl)) (by simp) ?_
    simp (disch := omega) only [wk, tis, Int.reduceNe, Int.reduceEq, Int.reduceLT, Int.reduceLE, Int.reduceAdd, Int.reduceSub, Int.reduceNeg, Int.reduceMul, Int.reduceToNat, Nat.reduceSub, Nat.reduceMul, Nat.reduceLeDiff, Nat.reduceAdd, Nat.reduceLT, Nat.reduceEqDiff, reduceCtorEq, ↓reduceIte, hF, hq, ei]
    have b1 := hPa i (by omega)
    have b2 := hPb (A.length - 1 - i) (by omega)
    have m := ttimes_g (rp_cn (b1.mono (by omega) (by omega))) (rp_cn (b2.mono (by omega) (by omega))) (ps_cn (ppow (pv a) i)) (ps_cn (ppow (pv b) (A.length - 1 - i)))
    refine call_by (m) (by first | rfl | (simp only [tocvs, tocv, hF, hq, ei]; rfl) | (simp only [tocvs, tocv, toboxes, tobox, updH_at, Nat.reduceEqDiff, ↓reduceIte, hF, hq, ei]; rfl)) (by simp) ?_
    simp (disch := omega) only [wk, tis, Int.reduceNe, Int.reduceEq, Int.reduceLT, Int.reduceLE, Int.reduceAdd, Int.reduceSub, Int.reduceNeg, Int.reduceMul, Int.reduceToNat, Nat.reduceSub, Nat.reduceMul, Nat.reduceLeDiff, Nat.reduceAdd, Nat.reduceLT, Nat.reduceEqDiff, reduceCtorEq, ↓reduceIte, hF, hq, ei]
    have b3 := b1.pmul b2 (by decide)
    have m2 := tby_g (c := cf A i) (rp_cn (b3.mono (by omega) (by omega))) (by omega) (ps_cn (pmul (ppow (pv a) i) (ppow (pv b) (A.length - 1 - i))))
    refine call_by (m2) (by first | rfl | (simp only [tocvs, tocv, hF, hq, ei]; rfl) | (simp only [tocvs, tocv, toboxes, tobox, updH_at, Nat.reduceEqDiff, ↓reduceIte, hF, hq, ei]; rfl)) (by simp) ?_
    simp (disch := omega) only [wk, tis, Int.reduceNe, Int.reduceEq, Int.reduceLT, Int.reduceLE, Int.reduceAdd, Int.reduceSub, Int.reduceNeg, Int.reduceMul, Int.reduceToNat, Nat.reduceSub, Nat.reduceMul, Nat.reduceLeDiff, Nat.reduceAdd, Nat.reduceLT, Nat.reduceEqDiff, reduceCtorEq, ↓reduceIte, hF, hq, ei]
    have b4 := b3.pscale (c := cf A i)
    have m3 := tplus_g (rp_cn (hSb.mono (by omega) (by omega))) (rp_cn (b4.mono (by omega) (by omega))) (ps_cn S) (ps_cn (pscale (cf A i) (pmul (ppow (pv a) i) (ppow (pv b) (A.length - 1 - i)))))
    refine call_by (m3) (by first | rfl | (simp only [tocvs, tocv, hF, hq, ei]; rfl) | (simp only [tocvs, tocv, toboxes, tobox, updH_at, Nat.reduceEqDiff, ↓reduceIte, hF, hq, ei]; rfl)) (by simp) ?_
    simp (disch := omega) only [wk, tis, Int.reduceNe, Int.reduceEq, Int.reduceLT, Int.reduceLE, Int.reduceAdd, Int.reduceSub, Int.reduceNeg, Int.reduceMul, Int.reduceToNat, Nat.reduceSub, Nat.reduceMul, Nat.reduceLeDiff, Nat.reduceAdd, Nat.reduceLT, Nat.reduceEqDiff, reduceCtorEq, ↓reduceIte, hF, hq, ei]
    first | exact log_by (by kernel_rfl) | refine ⟨log_by (by kernel_rfl), ?_⟩
    have et : A.take (i + 1) = A.take i ++ [cf A i] := by
      rw [List.take_add_one]
      congr 1
      simp [cf, List.getD, show i < A.length by omega]
    refine ⟨⟨i + 1, _, by omega, (hSb.padd b4).mono (by omega) (by omega), ?_, by omega, rfl⟩, by omega⟩
    rw [et, ps_padd, ps_pscale, ps_pmul, ps_ppow, ps_ppow]
    exact into_step (by omega) (by rw [List.length_take]; omega) hSe
  · simp (disch := omega) only [wk, tis, Int.reduceNe, Int.reduceEq, Int.reduceLT, Int.reduceLE, Int.reduceAdd, Int.reduceSub, Int.reduceNeg, Int.reduceMul, Int.reduceToNat, Nat.reduceSub, Nat.reduceMul, Nat.reduceLeDiff, Nat.reduceAdd, Nat.reduceLT, Nat.reduceEqDiff, reduceCtorEq, ↓reduceIte, hF]
    have hi' : i = A.length := by omega
    subst hi'
    rw [List.take_length, Nat.sub_self, PS.pw, PS.mul_one] at hSe
    rw [cpoly_ext (ps_eq (hSe.trans (ps_lhom A (pv a) (pv b)).symm))]
end Go.Proofs.YtaepoooifkjbmaaGreat

namespace Go.Proofs.YtaepoooifkjbmaaGreat
open Go Go.Proofs Go.AL
set_option linter.unusedSimpArgs false
set_option linter.unusedVariables false

theorem tinto_g {p a b : List RI} {A B out : List Int} (hp : RP (2 ^ 8) (2 ^ 20) p) (ha : RP (2 ^ 10) (2 ^ 20) a) (hb : RP (2 ^ 10) (2 ^ 20) b) (eA : ps (pv a) = ps A) (eB : ps (pv b) = ps B) (eo : ps out = hom (trimz (pv p)) (ps A) (ps B)) : AC Tryz.prog 35 [cw p, cw a, cw b] none [cp out] := by
  have h := tinto_ok p a b hp ha hb
  rwa [cp_ps (show ps (lhom (trimz (pv p)) (pv a) (pv b)) = ps out by rw [ps_lhom, eo, eA, eB])] at h

theorem sm {l : List Int} (hl : l.length ≤ 2 ^ 10) (h : ∀ z ∈ l, z.natAbs < W) : PB (2 ^ 10) (2 ^ 20) l := (small_pb l (2 ^ 10) hl h).mono (Nat.le_refl _) (by omega)

theorem tcompose_g {p r : List RI} {P R out : List Int} (hp : RP (2 ^ 8) (2 ^ 20) p) (hr : RP (2 ^ 10) (2 ^ 20) r) (eP : ps (pv p) = ps P) (eR : ps (pv r) = ps R) (eo : ps out = cmp P (ps R)) : AC Tryz.prog 9 [cw p, cw r] none [cp out] := by
  refine AC.by_walk (rs := [.tmp 4]) ords Tryz.func9 (by rfl) (by rfl) (by rfl) (by rfl) (by rfl) ?_
  simp (disch := omega) only [wk, tis, Int.reduceNe, Int.reduceEq, Int.reduceLT, Int.reduceLE, Int.reduceAdd, Int.reduceSub, Int.reduceNeg, Int.reduceMul, Int.reduceToNat, Nat.reduceSub, Nat.reduceMul, Nat.reduceLeDiff, Nat.reduceAdd, Nat.reduceLT, Nat.reduceEqDiff, reduceCtorEq, ↓reduceIte]
  have h1 := tN_ok r (hr.mono (by omega) (by omega))
  rw [cp_ps eR] at h1
  refine call_by (h1) (by rfl) (by simp) ?_
  simp (disch := omega) only [wk, tis, Int.reduceNe, Int.reduceEq, Int.reduceLT, Int.reduceLE, Int.reduceAdd, Int.reduceSub, Int.reduceNeg, Int.reduceMul, Int.reduceToNat, Nat.reduceSub, Nat.reduceMul, Nat.reduceLeDiff, Nat.reduceAdd, Nat.reduceLT, Nat.reduceEqDiff, reduceCtorEq, ↓reduceIte]
  refine call_by ((tP_ok [1] (by decide) (by decide))) (by rfl) (by simp) ?_
  simp (disch := omega) only [wk, tis, Int.reduceNe, Int.reduceEq, Int.reduceLT, Int.reduceLE, Int.reduceAdd, Int.reduceSub, Int.reduceNeg, Int.reduceMul, Int.reduceToNat, Nat.reduceSub, Nat.reduceMul, Nat.reduceLeDiff, Nat.reduceAdd, Nat.reduceLT, Nat.reduceEqDiff, reduceCtorEq, ↓reduceIte]
  have hR : PB (2 ^ 10) (2 ^ 20) (trimz R) := by rw [← trimz_ext (ps_eq eR)]; exact hr.pv.trimz
  have m := tinto_g (a := cn R) (b := cn [1]) (A := R) (B := [1]) (out := out) hp (RP.canon hR) (rp_cn (sm (by decide) (by decide))) (ps_cn _) (ps_cn _) (by rw [ps_one, eo]; exact (cmp_ps _ ((ps_trimz _).trans eP)).symm)
  refine call_by (m) (by rfl) (by simp) ?_
  simp (disch := omega) only [wk, tis, Int.reduceNe, Int.reduceEq, Int.reduceLT, Int.reduceLE, Int.reduceAdd, Int.reduceSub, Int.reduceNeg, Int.reduceMul, Int.reduceToNat, Nat.reduceSub, Nat.reduceMul, Nat.reduceLeDiff, Nat.reduceAdd, Nat.reduceLT, Nat.reduceEqDiff, reduceCtorEq, ↓reduceIte]

end Go.Proofs.YtaepoooifkjbmaaGreat

namespace Go.Proofs.YtaepoooifkjbmaaGreat
open Go Go.Proofs Go.AL
set_option linter.unusedSimpArgs false
set_option linter.unusedVariables false

theorem case11_X (x : C11) : List.take 3 (List.drop 18 (case11 x)) = qrow x.X := rfl
theorem fr_szq {r : RQ} {k : Nat} (h : SzQ k r) : SzQ 3 (fr r) := ⟨fi_sz h.1, by simp [fr]; omega, fun x hx => h.2.2 x (List.mem_of_mem_take hx)⟩
theorem fq_bq {p : List RQ} (h : RawQ p) : BQ 9 3 (fq p) := ⟨by simp [fq]; omega, fun c hc => by
  obtain ⟨d, hd, rfl⟩ := List.mem_map.1 hc
  exact fr_szq (h.2 d (List.mem_of_mem_take hd))⟩
theorem two_bq {a b : RQ} (ha : SzQ 3 a) (hb : SzQ 3 b) : BQ 9 3 [a, b] := ⟨by simp, fun r hr => by
  simp only [List.mem_cons, List.not_mem_nil, or_false] at hr
  rcases hr with rfl | rfl <;> assumption⟩

theorem rational_ok (x : C11) (h : Ok11 x) : AC Tryz.prog 3 [.agg (case11 x)] none [cb true] := by
  have hl := less_few h
  have hy := few_less h
  have yF : BQ 9 3 (lessC x).F := fq_bq h.F
  have yG : BQ 9 3 (lessC x).G := fq_bq h.G
  have yX : SzQ 3 (lessC x).X := fr_szq h.X
  generalize lessC x = y at hl hy yF yG yX
  have RP10 : RP (2 ^ 10) (2 ^ 20) y.P := hy.P.mono (by omega) (by omega)
  have RPR : RP (2 ^ 10) (2 ^ 20) y.R := hy.R.mono (by omega) (by omega)
  have RPr : RP (2 ^ 8) (2 ^ 20) y.P := hy.P.mono (by omega) (by omega)
  have c1 := lc_ok y.P (hy.P.mono (by omega) (by omega))
  have c2 := lc_ok y.R (hy.R.mono (by omega) (by omega))
  have b1 : PB (2 ^ 20) (2 ^ 20) (lhom (pv y.P) (pv y.R) [1]) := by
    have hone : PB 9 3 [1] := (small_pb [1] 9 (by decide) (by decide)).mono (Nat.le_refl _) (by omega)
    have h := pb_lhom hy.R.pv hone (by omega) (by omega) hy.P.pv
    have hl := hy.P.pv.1
    exact h.mono (by omega) (by omega)
  have e1 : ps (lhom (pv y.P) (pv y.R) [1]) = cmp (pv y.P) (ps (pv y.R)) := by rw [ps_lhom, ps_one]; rfl
  have m1 := mcompose_g RP10 RPR rfl rfl e1
  have t1 := tcompose_g RPr RPR rfl rfl e1
  have s1 := tsame_g (b1.mono (n' := 2 ^ 40) (k' := 2 ^ 43) (by omega) (by omega)) (b1.mono (n' := 2 ^ 40) (k' := 2 ^ 43) (by omega) (by omega)) rfl
  have cF := copyq_ok y.F (yF.mono (by omega) (by omega))
  have cG := copyq_ok y.G (yG.mono (by omega) (by omega))
  have cX := copyrat_ok y.X (yX.mono (by omega))
  obtain ⟨l1, e1', p1, q1, r1⟩ := composeq_both y.F [y.X, crat 1] yF (two_bq yX (szq_crat (by rw [qz_one]; omega)))
  have p1 := mShiftQ_of _ _ _ _ p1
  have q1 := tShiftQ_of _ _ _ _ q1
  obtain ⟨l2, e2', p2, q2, r2⟩ := composeq_both y.F [crat 0, y.X] yF (two_bq (szq_crat (by rw [qz_zero]; omega)) yX)
  have p2 := mScaleQ_of _ _ _ _ p2
  have q2 := tScaleQ_of _ _ _ _ q2
  obtain ⟨l3, e3', p3, q3, r3⟩ := composeq_both y.F y.G yF yG
  refine AC.by_walk (rs := [.tmp 2]) ords Tryz.func3 (by rfl) (by rfl) (by rfl) (by rfl) (by rfl) ?_
  simp (disch := omega) only [wk, tis, Int.reduceNe, Int.reduceEq, Int.reduceLT, Int.reduceLE, Int.reduceAdd, Int.reduceSub, Int.reduceNeg, Int.reduceMul, Int.reduceToNat, Nat.reduceSub, Nat.reduceMul, Nat.reduceLeDiff, Nat.reduceAdd, Nat.reduceLT, Nat.reduceEqDiff, reduceCtorEq, ↓reduceIte, rqs, case11_X]
  refine call_by (fixed_ok) (by rfl) (by simp) ?_
  simp (disch := omega) only [wk, tis, Int.reduceNe, Int.reduceEq, Int.reduceLT, Int.reduceLE, Int.reduceAdd, Int.reduceSub, Int.reduceNeg, Int.reduceMul, Int.reduceToNat, Nat.reduceSub, Nat.reduceMul, Nat.reduceLeDiff, Nat.reduceAdd, Nat.reduceLT, Nat.reduceEqDiff, reduceCtorEq, ↓reduceIte, rqs, case11_X]
  refine call_by (hl) (by rfl) (by simp) ?_
  simp (disch := omega) only [wk, tis, Int.reduceNe, Int.reduceEq, Int.reduceLT, Int.reduceLE, Int.reduceAdd, Int.reduceSub, Int.reduceNeg, Int.reduceMul, Int.reduceToNat, Nat.reduceSub, Nat.reduceMul, Nat.reduceLeDiff, Nat.reduceAdd, Nat.reduceLT, Nat.reduceEqDiff, reduceCtorEq, ↓reduceIte, rqs, case11_X]
  refine ⟨tmps_by (by kernel_rfl), ?_⟩
  refine call_by (c1) (by rfl) (by simp) ?_
  simp (disch := omega) only [wk, tis, Int.reduceNe, Int.reduceEq, Int.reduceLT, Int.reduceLE, Int.reduceAdd, Int.reduceSub, Int.reduceNeg, Int.reduceMul, Int.reduceToNat, Nat.reduceSub, Nat.reduceMul, Nat.reduceLeDiff, Nat.reduceAdd, Nat.reduceLT, Nat.reduceEqDiff, reduceCtorEq, ↓reduceIte, rqs, case11_X]
  refine call_by (c2) (by rfl) (by simp) ?_
  simp (disch := omega) only [wk, tis, Int.reduceNe, Int.reduceEq, Int.reduceLT, Int.reduceLE, Int.reduceAdd, Int.reduceSub, Int.reduceNeg, Int.reduceMul, Int.reduceToNat, Nat.reduceSub, Nat.reduceMul, Nat.reduceLeDiff, Nat.reduceAdd, Nat.reduceLT, Nat.reduceEqDiff, reduceCtorEq, ↓reduceIte, rqs, case11_X]
  refine call_by (m1) (by rfl) (by simp) ?_
  simp (disch := omega) only [wk, tis, Int.reduceNe, Int.reduceEq, Int.reduceLT, Int.reduceLE, Int.reduceAdd, Int.reduceSub, Int.reduceNeg, Int.reduceMul, Int.reduceToNat, Nat.reduceSub, Nat.reduceMul, Nat.reduceLeDiff, Nat.reduceAdd, Nat.reduceLT, Nat.reduceEqDiff, reduceCtorEq, ↓reduceIte, rqs, case11_X]
  refine call_by (t1) (by rfl) (by simp) ?_
  simp (disch := omega) only [wk, tis, Int.reduceNe, Int.reduceEq, Int.reduceLT, Int.reduceLE, Int.reduceAdd, Int.reduceSub, Int.reduceNeg, Int.reduceMul, Int.reduceToNat, Nat.reduceSub, Nat.reduceMul, Nat.reduceLeDiff, Nat.reduceAdd, Nat.reduceLT, Nat.reduceEqDiff, reduceCtorEq, ↓reduceIte, rqs, case11_X]
  refine call_by (s1) (by rfl) (by simp) ?_
  simp (disch := omega) only [wk, tis, Int.reduceNe, Int.reduceEq, Int.reduceLT, Int.reduceLE, Int.reduceAdd, Int.reduceSub, Int.reduceNeg, Int.reduceMul, Int.reduceToNat, Nat.reduceSub, Nat.reduceMul, Nat.reduceLeDiff, Nat.reduceAdd, Nat.reduceLT, Nat.reduceEqDiff, reduceCtorEq, ↓reduceIte, rqs, case11_X]
  first | exact log_by (by kernel_rfl) | refine ⟨log_by (by kernel_rfl), ?_⟩
  refine ⟨tmps_by (by kernel_rfl), ?_⟩
  refine call_by (cF) (by rfl) (by simp) ?_
  simp (disch := omega) only [wk, tis, Int.reduceNe, Int.reduceEq, Int.reduceLT, Int.reduceLE, Int.reduceAdd, Int.reduceSub, Int.reduceNeg, Int.reduceMul, Int.reduceToNat, Nat.reduceSub, Nat.reduceMul, Nat.reduceLeDiff, Nat.reduceAdd, Nat.reduceLT, Nat.reduceEqDiff, reduceCtorEq, ↓reduceIte, rqs, case11_X]
  refine call_by (cX) (by rfl) (by simp) ?_
  simp (disch := omega) only [wk, tis, Int.reduceNe, Int.reduceEq, Int.reduceLT, Int.reduceLE, Int.reduceAdd, Int.reduceSub, Int.reduceNeg, Int.reduceMul, Int.reduceToNat, Nat.reduceSub, Nat.reduceMul, Nat.reduceLeDiff, Nat.reduceAdd, Nat.reduceLT, Nat.reduceEqDiff, reduceCtorEq, ↓reduceIte, rqs, case11_X]
  refine call_by (p1) (by rfl) (by simp) ?_
  simp (disch := omega) only [wk, tis, Int.reduceNe, Int.reduceEq, Int.reduceLT, Int.reduceLE, Int.reduceAdd, Int.reduceSub, Int.reduceNeg, Int.reduceMul, Int.reduceToNat, Nat.reduceSub, Nat.reduceMul, Nat.reduceLeDiff, Nat.reduceAdd, Nat.reduceLT, Nat.reduceEqDiff, reduceCtorEq, ↓reduceIte, rqs, case11_X]
  first | exact log_by (by kernel_rfl) | refine ⟨log_by (by kernel_rfl), ?_⟩
  refine call_by (q1) (by rfl) (by simp) ?_
  simp (disch := omega) only [wk, tis, Int.reduceNe, Int.reduceEq, Int.reduceLT, Int.reduceLE, Int.reduceAdd, Int.reduceSub, Int.reduceNeg, Int.reduceMul, Int.reduceToNat, Nat.reduceSub, Nat.reduceMul, Nat.reduceLeDiff, Nat.reduceAdd, Nat.reduceLT, Nat.reduceEqDiff, reduceCtorEq, ↓reduceIte, rqs, case11_X]
  refine call_by (r1) (by rfl) (by simp) ?_
  simp (disch := omega) only [wk, tis, Int.reduceNe, Int.reduceEq, Int.reduceLT, Int.reduceLE, Int.reduceAdd, Int.reduceSub, Int.reduceNeg, Int.reduceMul, Int.reduceToNat, Nat.reduceSub, Nat.reduceMul, Nat.reduceLeDiff, Nat.reduceAdd, Nat.reduceLT, Nat.reduceEqDiff, reduceCtorEq, ↓reduceIte, rqs, case11_X]
  refine ⟨tmps_by (by kernel_rfl), ?_⟩
  refine call_by (cF) (by rfl) (by simp) ?_
  simp (disch := omega) only [wk, tis, Int.reduceNe, Int.reduceEq, Int.reduceLT, Int.reduceLE, Int.reduceAdd, Int.reduceSub, Int.reduceNeg, Int.reduceMul, Int.reduceToNat, Nat.reduceSub, Nat.reduceMul, Nat.reduceLeDiff, Nat.reduceAdd, Nat.reduceLT, Nat.reduceEqDiff, reduceCtorEq, ↓reduceIte, rqs, case11_X]
  refine call_by (cX) (by rfl) (by simp) ?_
  simp (disch := omega) only [wk, tis, Int.reduceNe, Int.reduceEq, Int.reduceLT, Int.reduceLE, Int.reduceAdd, Int.reduceSub, Int.reduceNeg, Int.reduceMul, Int.reduceToNat, Nat.reduceSub, Nat.reduceMul, Nat.reduceLeDiff, Nat.reduceAdd, Nat.reduceLT, Nat.reduceEqDiff, reduceCtorEq, ↓reduceIte, rqs, case11_X]
  refine call_by (p2) (by rfl) (by simp) ?_
  simp (disch := omega) only [wk, tis, Int.reduceNe, Int.reduceEq, Int.reduceLT, Int.reduceLE, Int.reduceAdd, Int.reduceSub, Int.reduceNeg, Int.reduceMul, Int.reduceToNat, Nat.reduceSub, Nat.reduceMul, Nat.reduceLeDiff, Nat.reduceAdd, Nat.reduceLT, Nat.reduceEqDiff, reduceCtorEq, ↓reduceIte, rqs, case11_X]
  first | exact log_by (by kernel_rfl) | refine ⟨log_by (by kernel_rfl), ?_⟩
  refine call_by (q2) (by rfl) (by simp) ?_
  simp (disch := omega) only [wk, tis, Int.reduceNe, Int.reduceEq, Int.reduceLT, Int.reduceLE, Int.reduceAdd, Int.reduceSub, Int.reduceNeg, Int.reduceMul, Int.reduceToNat, Nat.reduceSub, Nat.reduceMul, Nat.reduceLeDiff, Nat.reduceAdd, Nat.reduceLT, Nat.reduceEqDiff, reduceCtorEq, ↓reduceIte, rqs, case11_X]
  refine call_by (r2) (by rfl) (by simp) ?_
  simp (disch := omega) only [wk, tis, Int.reduceNe, Int.reduceEq, Int.reduceLT, Int.reduceLE, Int.reduceAdd, Int.reduceSub, Int.reduceNeg, Int.reduceMul, Int.reduceToNat, Nat.reduceSub, Nat.reduceMul, Nat.reduceLeDiff, Nat.reduceAdd, Nat.reduceLT, Nat.reduceEqDiff, reduceCtorEq, ↓reduceIte, rqs, case11_X]
  refine ⟨tmps_by (by kernel_rfl), ?_⟩
  refine call_by (cF) (by rfl) (by simp) ?_
  simp (disch := omega) only [wk, tis, Int.reduceNe, Int.reduceEq, Int.reduceLT, Int.reduceLE, Int.reduceAdd, Int.reduceSub, Int.reduceNeg, Int.reduceMul, Int.reduceToNat, Nat.reduceSub, Nat.reduceMul, Nat.reduceLeDiff, Nat.reduceAdd, Nat.reduceLT, Nat.reduceEqDiff, reduceCtorEq, ↓reduceIte, rqs, case11_X]
  refine call_by (cG) (by rfl) (by simp) ?_
  simp (disch := omega) only [wk, tis, Int.reduceNe, Int.reduceEq, Int.reduceLT, Int.reduceLE, Int.reduceAdd, Int.reduceSub, Int.reduceNeg, Int.reduceMul, Int.reduceToNat, Nat.reduceSub, Nat.reduceMul, Nat.reduceLeDiff, Nat.reduceAdd, Nat.reduceLT, Nat.reduceEqDiff, reduceCtorEq, ↓reduceIte, rqs, case11_X]
  refine call_by (p3) (by rfl) (by simp) ?_
  simp (disch := omega) only [wk, tis, Int.reduceNe, Int.reduceEq, Int.reduceLT, Int.reduceLE, Int.reduceAdd, Int.reduceSub, Int.reduceNeg, Int.reduceMul, Int.reduceToNat, Nat.reduceSub, Nat.reduceMul, Nat.reduceLeDiff, Nat.reduceAdd, Nat.reduceLT, Nat.reduceEqDiff, reduceCtorEq, ↓reduceIte, rqs, case11_X]
  first | exact log_by (by kernel_rfl) | refine ⟨log_by (by kernel_rfl), ?_⟩
  refine call_by (q3) (by rfl) (by simp) ?_
  simp (disch := omega) only [wk, tis, Int.reduceNe, Int.reduceEq, Int.reduceLT, Int.reduceLE, Int.reduceAdd, Int.reduceSub, Int.reduceNeg, Int.reduceMul, Int.reduceToNat, Nat.reduceSub, Nat.reduceMul, Nat.reduceLeDiff, Nat.reduceAdd, Nat.reduceLT, Nat.reduceEqDiff, reduceCtorEq, ↓reduceIte, rqs, case11_X]
  refine call_by (r3) (by rfl) (by simp) ?_
  simp (disch := omega) only [wk, tis, Int.reduceNe, Int.reduceEq, Int.reduceLT, Int.reduceLE, Int.reduceAdd, Int.reduceSub, Int.reduceNeg, Int.reduceMul, Int.reduceToNat, Nat.reduceSub, Nat.reduceMul, Nat.reduceLeDiff, Nat.reduceAdd, Nat.reduceLT, Nat.reduceEqDiff, reduceCtorEq, ↓reduceIte, rqs, case11_X]
  try rfl
theorem rational_law (P R : List RI) (A B C D : RI) (K M : Int) (At : RI) (E : Int) (Pt : Bool) (F G : List RQ) (X : RQ) (hP : Raw P) (hR : Raw R) (hA : Sz 9223372036854775807 A) (hB : Sz 9223372036854775807 B) (hC : Sz 9223372036854775807 C) (hD : Sz 9223372036854775807 D)
    (hK1 : -9223372036854775808 ≤ K) (hK2 : K ≤ 9223372036854775807) (hM1 : -9223372036854775808 ≤ M) (hM2 : M ≤ 9223372036854775807) (hAt : Sz 9223372036854775807 At) (hE1 : -9223372036854775808 ≤ E) (hE2 : E ≤ 9223372036854775807) (hF : RawQ F) (hG : RawQ G) (hX : SzQ 9223372036854775807 X) :
    AC Tryz.prog 3 [.agg (case11 ⟨P, R, A, B, C, D, K, M, At, E, Pt, F, G, X⟩)] none [cb true] := rational_ok _ (ok11 P R A B C D K M At E Pt F G X hP hR hA hB hC hD hK1 hK2 hM1 hM2 hAt hE1 hE2 hF hG hX)
end Go.Proofs.YtaepoooifkjbmaaGreat
