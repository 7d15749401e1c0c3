/-
 Contracts of the functions that the law reaches.
-/
import Derived.Test.YtdokaihemcnkmaaGreatL19M
import Derived.Test.YtdokaihemcnkmaaGreatL36M
set_option maxHeartbeats 2000000
namespace Go.Proofs.YtdokaihemcnkmaaGreat
open Go Go.Proofs Go.AL
set_option linter.unusedSimpArgs false
set_option linter.unusedVariables false
theorem sderiv_ok (p : List RI) (h : RP (2 ^ 30) (2 ^ 35) p) : AC Tryz.prog 101 [cw p] none [cp (pderiv (pv p))] := by
 refine AC.by_walk (rs := [.tmp 2]) ords Tryz.func101 (by rfl) (by rfl) (by rfl) (by rfl) (by rfl) ?_
 have hl := h.1
 have e0 : pderiv ((pv p).take 1) = [] := by
  simp only [pderiv]
  rw [show ((pv p).take 1).length - 1 = 0 by rw [List.length_take]; omega]; rfl
 simp (disch := omega) only [wt, seval, reduceCtorEq, Nat.reduceEqDiff, cpoly_len]
 refine aloop_nil 3 3 27 2 (by simp (disch := omega) only [wt, seval, reduceCtorEq, Nat.reduceEqDiff, cpoly_len]) (fun f H => ∃ (k st : Nat), 1 ≤ k ∧ (k ≤ p.length ∨ k = 1) ∧ f 4 = .iv (.int .i64 k) ∧ f 0 = .iv (.sl (raws p)) ∧ f 3 = .hs 3 st ∧ H 3 = .blk false st 27 2 (raws ((pderiv ((pv p).take k)).map canon))) (fun f H => (p.length - intAt f 4).toNat) ?_ ?_
 ·refine ⟨1, 1, by omega, by omega, ?_⟩
  simp (disch := omega) only [wt, seval, reduceCtorEq, Nat.reduceEqDiff, cpoly_len, ghostF, ghostH, e0, List.map_nil, raws_nil]
 rintro f H ⟨k, st, hk, hk2, hF⟩
 rw [intAt_of hF.1]
 simp (disch := omega) only [wt, seval, reduceCtorEq, Nat.reduceEqDiff, cpoly_len, hF]
 refine if_by (fun hlt => ?_) (fun hlt => ?_)
 ·have hq : ((pderiv ((pv p).take k)).map canon).length = k - 1 := by
   simp only [pderiv, List.length_map, List.length_range, List.length_take, pv_len]; omega
  have hz : zl (k : Int) ≤ 1 := zl_le.mpr (by simp only [W]; omega)
  have m := rMul_ok (p.getD k (false, [])) (canon k) ((h.get _).mono (by omega)) ((sz_canon _).mono (by omega))
  rw [iv_canon, ← cf_pv] at m
  simp (disch := omega) only [wt, seval, reduceCtorEq, Nat.reduceEqDiff, cpoly_len, hF, hq]
  refine .inl ⟨tmps_by (by kernel_rfl), ?_⟩
  refine call_by ((sZ_ok k (by omega) (by omega))) (by first | rfl | (simp only [tocvs, tocv, toboxes, tobox, updH_at, Nat.reduceEqDiff, ↓reduceIte, hF, hq]; rfl)) (by simp) ?_
  simp (disch := omega) only [wt, seval, reduceCtorEq, Nat.reduceEqDiff, cpoly_len, hF, hq]
  refine call_by (m) (by first | rfl | (simp only [tocvs, tocv, toboxes, tobox, updH_at, Nat.reduceEqDiff, ↓reduceIte, hF, hq]; rfl)) (by simp) ?_
  simp (disch := omega) only [wt, seval, reduceCtorEq, Nat.reduceEqDiff, cpoly_len, hF, hq]
  first | exact log_by (by kernel_rfl) | refine ⟨log_by (by kernel_rfl), ?_⟩
  refine ⟨⟨k + 1, st + 1, by omega, by omega, ?_⟩, by omega⟩
  rw [pderiv_take (by rw [pv_len]; omega) (by omega)]
  exact ⟨by omega, rfl, rfl⟩
 ·have e : (pv p).take k = pv p := List.take_of_length_le (by rw [pv_len]; omega)
  rw [e] at hF
  have hb := (h.pv).pderiv (by decide : 2 ^ 30 < W)
  have mn := snorm_ok ((pderiv (pv p)).map canon) (RP.canon (hb.mono (by omega) (by omega)))
  rw [pv_canon] at mn
  simp (disch := omega) only [wt, seval, reduceCtorEq, Nat.reduceEqDiff, cpoly_len, hF]
  refine call_by (mn) (by first | rfl | (simp only [tocvs, tocv, toboxes, tobox, updH_at, Nat.reduceEqDiff, ↓reduceIte, hF]; rfl)) (by simp) ?_
  simp (disch := omega) only [wt, seval, reduceCtorEq, Nat.reduceEqDiff, cpoly_len, hF]
theorem scontent_ok (p : List RI) (h : RP (2 ^ 30) (2 ^ 35) p) : AC Tryz.prog 105 [cw p] none [cz (cont (pv p))] := by
 refine AC.by_walk (rs := [.cell 2 27]) ords Tryz.func105 (by rfl) (by rfl) (by rfl) (by rfl) (by rfl) ?_
 have hl := h.1
 have hg := gz_len h
 have hs := rSign_ok (canon (lc (pv p))) ((sz_canon _).mono (by
  have := (h.pv).cf (tz (pv p) - 1)
  unfold lc
  omega))
 rw [iv_canon] at hs
 simp (disch := omega) only [wt, seval, reduceCtorEq, Nat.reduceEqDiff, cpoly_len]
 refine aloop_w (.nilv 3 (by simp (disch := omega) only [wt, seval, reduceCtorEq, Nat.reduceEqDiff, cpoly_len]) (.refl _ _)) (fun f H => ∃ (i : Nat), i ≤ p.length ∧ (wd (gz ((pv p).take i))).length ≤ 2 ^ 35 ∧ f 4 = .iv (.int .i64 i) ∧ f 0 = .iv (.sl (raws p)) ∧ f 3 = .iv (.sl (lims (wd (gz ((pv p).take i))))) ∧ f 2 = .hp 2 1 0 0 ∧ H 2 = .blk false 1 27 2 [prow (false, [])]) (fun f H => (p.length - intAt f 4).toNat) ?_ ?_
 ·refine ⟨0, by omega, by rw [List.take_zero, gz, List.foldl_nil, wd_zero]; exact Nat.zero_le _, ?_⟩
  simp (disch := omega) only [wt, seval, reduceCtorEq, Nat.reduceEqDiff, cpoly_len, List.take_zero, gz, List.foldl_nil, wd_zero, lims_nil]
 rintro f H ⟨i, hi, hsz, hF⟩
 rw [intAt_of hF.1]
 simp (disch := omega) only [wt, seval, reduceCtorEq, Nat.reduceEqDiff, cpoly_len, hF]
 refine if_by (fun hlt => ?_) (fun hlt => ?_)
 ·have hc := h.get i
  have hc1 := hc.1
  have m := rGcd_ok (wd (gz ((pv p).take i))) (p.getD i (false, [])).2 (lim_wd _) hc.2 (by omega) (by omega)
  rw [nv_wd, ← iv_abs, ← cf_pv, ← gz_take (by rw [pv_len]; omega)] at m
  simp (disch := omega) only [wt, seval, reduceCtorEq, Nat.reduceEqDiff, cpoly_len, hF]
  refine call_by (m) (by first | rfl | (simp only [tocvs, tocv, toboxes, tobox, updH_at, Nat.reduceEqDiff, ↓reduceIte, hF]; rfl)) (by simp) ?_
  simp (disch := omega) only [wt, seval, reduceCtorEq, Nat.reduceEqDiff, cpoly_len, hF]
  refine ⟨⟨i + 1, by omega, ?_, by omega, rfl⟩, by omega⟩
  rw [gz_take (by rw [pv_len]; omega)]
  rcases Nat.eq_zero_or_pos (cf (pv p) i).natAbs with h0 | h0
  ·rw [h0, Nat.gcd_zero_right]; exact hsz
  ·refine Nat.le_trans (wd_len_mono (Nat.gcd_le_right _ h0)) ?_
   rw [cf_pv, iv_abs]
   exact Nat.le_trans (nv_len hc.2) hc.1
 ·rw [List.take_of_length_le (by rw [pv_len]; omega)] at hF
  have e : (decide ((lc (pv p)).sign < 0)) = decide (lc (pv p) < 0) := by rw [decide_eq_decide]; exact sign_neg _
  have m := rI_ok (decide (lc (pv p) < 0)) (wd (gz (pv p))) (lim_wd _) (by omega)
  rw [nv_wd] at m
  simp (disch := omega) only [wt, seval, reduceCtorEq, Nat.reduceEqDiff, cpoly_len, hF]
  refine call_by ((slead_ok p (h.mono (by omega) (by omega)))) (by first | rfl | (simp only [tocvs, tocv, toboxes, tobox, updH_at, Nat.reduceEqDiff, ↓reduceIte, hF]; rfl)) (by simp) ?_
  simp (disch := omega) only [wt, seval, reduceCtorEq, Nat.reduceEqDiff, cpoly_len, hF]
  refine call_by (hs) (by first | rfl | (simp only [tocvs, tocv, toboxes, tobox, updH_at, Nat.reduceEqDiff, ↓reduceIte, hF, e]; rfl)) (by simp) ?_
  simp (disch := omega) only [wt, seval, reduceCtorEq, Nat.reduceEqDiff, cpoly_len, hF, e]
  refine call_by (m) (by first | rfl | (simp only [tocvs, tocv, toboxes, tobox, updH_at, Nat.reduceEqDiff, ↓reduceIte, hF]; rfl)) (by simp) ?_
  simp (disch := omega) only [wt, seval, reduceCtorEq, Nat.reduceEqDiff, cpoly_len, hF]
  rfl
theorem sprim_ok (p : List RI) (h : RP (2 ^ 30) (2 ^ 35) p) : AC Tryz.prog 102 [cw p] none [cp (prim (pv p))] := by
 refine AC.by_walk (rs := [.tmp 2]) ords Tryz.func102 (by rfl) (by rfl) (by rfl) (by rfl) (by rfl) ?_
 have hg := gz_len h
 have hsz : Sz (2 ^ 35) (canon (cont (pv p))) := (sz_canon _).mono (by unfold zl; rw [cont_natAbs]; exact hg)
 have hs := rSign_ok (canon (cont (pv p))) (hsz.mono (by omega))
 rw [iv_canon] at hs
 simp (disch := omega) only [wt, seval, reduceCtorEq, Nat.reduceEqDiff, cpoly_len]
 refine call_by ((scontent_ok p h)) (by rfl) (by simp) ?_
 simp (disch := omega) only [wt, seval, reduceCtorEq, Nat.reduceEqDiff, cpoly_len]
 refine call_by (hs) (by rfl) (by simp) ?_
 simp (disch := omega) only [wt, seval, reduceCtorEq, Nat.reduceEqDiff, cpoly_len]
 by_cases h0 : cont (pv p) = 0
 ·have e : cp (prim (pv p)) = cw [] := by
   have : cp (prim (pv p)) = cp [] := cp_ext fun k => by
    unfold prim
    rw [cf_pdivs, h0, Int.ediv_zero]; rfl
   rw [this]; rfl
  have hsg : (cont (pv p)).sign = 0 := by rw [h0]; rfl
  rw [e]
  simp (disch := omega) only [wt, seval, reduceCtorEq, Nat.reduceEqDiff, cpoly_len, hsg]
 ·have m := sover_gen p (canon (cont (pv p))) h hsz (by rw [iv_canon]; exact h0) [cp (prim (pv p)), ci 0] (fun _ => by rw [iv_canon]; rfl) (fun hn => (hn fun k => by rw [iv_canon]; exact cont_dvd _ k).elim)
  have hsg : ¬ (cont (pv p)).sign = 0 := fun h => h0 (Int.sign_eq_zero_iff_zero.mp h)
  simp (disch := omega) only [wt, seval, reduceCtorEq, Nat.reduceEqDiff, cpoly_len, hsg]
  refine call_by (m) (by first | rfl | (simp only [tocvs, tocv, toboxes, tobox, updH_at, Nat.reduceEqDiff, ↓reduceIte, hsg]; rfl)) (by simp) ?_
  simp (disch := omega) only [wt, seval, reduceCtorEq, Nat.reduceEqDiff, cpoly_len, hsg]
end Go.Proofs.YtdokaihemcnkmaaGreat

namespace Go.Proofs.YtdokaihemcnkmaaGreat
open Go Go.Proofs Go.AL
set_option linter.unusedSimpArgs false
set_option linter.unusedVariables false
set_option maxRecDepth 4000 in
theorem pmonox_ok (c : RI) (n : Nat) (hn : n ≤ 1000) (hc : Sz (2 ^ 40) c) : ACX Tryz.prog 111 [cr c, ci n] (RPolyE (trimz (pmono (iv c) n)) 0) := by
 refine ACX.by_walk zi0 (rs := [.tmp 4, .tmp 5]) ords Tryz.func111 (by rfl) (by rfl) (by rfl) (by rfl) (by rfl) (ne_polye _ _) (fun B => ?_)
 simp (disch := omega) only [wt, seval, reduceCtorEq, Nat.reduceEqDiff, cpoly_len, natsr_len, natsr_at, natsr_snoc, natsr_app, natsr_rows, natsr_nil]
 have := pupx_ok [c] n hn ⟨by simp, fun d hd => by simp at hd; subst hd; exact hc⟩
 refine callx_by (this) (by rfl) (by simp) (by first | rfl | assumption | (simp (disch := omega) only [wt, seval, reduceCtorEq, Nat.reduceEqDiff, cpoly_len, natsr_len, natsr_at, natsr_snoc, natsr_app, natsr_rows, natsr_nil]; done) | ((repeat (replace hF := hF.2)); exact hF)) ?_
 rintro B' E _ hB hE ⟨b, bs, rfl, hl, hn⟩
 simp (disch := omega) only [wt, seval, reduceCtorEq, Nat.reduceEqDiff, cpoly_len, natsr_len, natsr_at, natsr_snoc, natsr_app, natsr_rows, natsr_nil]
 refine opn_done [.iv (fpoly b bs _), ci 0] (by first | rfl | assumption) (by first | (simp (disch := omega) only [wt, seval, reduceCtorEq, Nat.reduceEqDiff, cpoly_len, natsr_len, natsr_at, natsr_snoc, natsr_app, natsr_rows, natsr_nil]; done) | (simp (disch := omega) only [wt, seval, reduceCtorEq, Nat.reduceEqDiff, cpoly_len, natsr_len, natsr_at, natsr_snoc, natsr_app, natsr_rows, natsr_nil]; rfl) | rfl) ?_
 intro E hE
 exact ⟨b, bs, rfl, hl, hn.mono (by omega) (by omega)⟩
theorem pcoefx_ok (p : List RI) (i : Int) (h : RP (2 ^ 40) (2 ^ 40) p) : ACX Tryz.prog 120 [cw p, ci i] (RInt (if i < 0 then 0 else cf (pv p) i.toNat)) := by
 refine ACX.by_walk zi0 (rs := [.cell 4 27]) ords Tryz.func120 (by rfl) (by rfl) (by rfl) (by rfl) (by rfl) (ne_int _) (fun B => ?_)
 have hl := h.1
 simp (disch := omega) only [wt, seval, reduceCtorEq, Nat.reduceEqDiff, cpoly_len, natsr_len, natsr_at, natsr_snoc, natsr_app, natsr_rows, natsr_nil]
 have key : AC Tryz.prog 213 [cw p, ci i] none [cr (if i < 0 then (false, []) else p.getD i.toNat (false, []))] := by
  refine AC.by_walk (rs := [.cell 4 27]) ords Tryz.func213 (by rfl) (by rfl) (by rfl) (by rfl) (by rfl) ?_
  by_cases h0 : i < 0
  ·simp (disch := omega) only [wt, seval, reduceCtorEq, Nat.reduceEqDiff, cpoly_len, natsr_len, natsr_at, natsr_snoc, natsr_app, natsr_rows, natsr_nil, h0]
  by_cases h1 : (p.length : Int) ≤ i
  ·simp (disch := omega) only [wt, seval, reduceCtorEq, Nat.reduceEqDiff, cpoly_len, natsr_len, natsr_at, natsr_snoc, natsr_app, natsr_rows, natsr_nil, h0, h1]
   have e : p.getD i.toNat (false, []) = (false, []) := by rw [List.getD_eq_getElem?_getD, List.getElem?_eq_none (by omega)]; rfl
   rw [e]
  ·simp (disch := omega) only [wt, seval, reduceCtorEq, Nat.reduceEqDiff, cpoly_len, natsr_len, natsr_at, natsr_snoc, natsr_app, natsr_rows, natsr_nil, h0, h1]
 refine call_by (key) (by rfl) (by simp) ?_
 simp (disch := omega) only [wt, seval, reduceCtorEq, Nat.reduceEqDiff, cpoly_len, natsr_len, natsr_at, natsr_snoc, natsr_app, natsr_rows, natsr_nil]
 have hs : Sz (2 ^ 40) (if i < 0 then (false, []) else p.getD i.toNat (false, [])) := by
  split
  ·exact ⟨by simp, Lim.nil⟩
  ·exact h.get _
 have e : iv (if i < 0 then (false, []) else p.getD i.toNat (false, [])) = if i < 0 then 0 else cf (pv p) i.toNat := by
  split
  ·exact iv_zero
  ·rw [← cf_pv]
 have m := znormx_ok _ hs
 rw [e] at m
 refine callx_by (m) (by rfl) (by simp) (by first | rfl | assumption | (simp (disch := omega) only [wt, seval, reduceCtorEq, Nat.reduceEqDiff, cpoly_len, natsr_len, natsr_at, natsr_snoc, natsr_app, natsr_rows, natsr_nil]; done) | ((repeat (replace hF := hF.2)); exact hF)) ?_
 rintro B' E _ hB hE ⟨b, rfl, hb⟩
 simp (disch := omega) only [wt, seval, reduceCtorEq, Nat.reduceEqDiff, cpoly_len, natsr_len, natsr_at, natsr_snoc, natsr_app, natsr_rows, natsr_nil]
 refine opn_done [.agg (fint b _)] (by first | rfl | assumption) (by first | (simp (disch := omega) only [wt, seval, reduceCtorEq, Nat.reduceEqDiff, cpoly_len, natsr_len, natsr_at, natsr_snoc, natsr_app, natsr_rows, natsr_nil]; done) | (simp (disch := omega) only [wt, seval, reduceCtorEq, Nat.reduceEqDiff, cpoly_len, natsr_len, natsr_at, natsr_snoc, natsr_app, natsr_rows, natsr_nil]; rfl) | rfl) ?_
 intro E hE
 exact ⟨b, rfl, hb.mono hB (by omega)⟩
theorem pleadx_ok (p : List RI) (h : RP (2 ^ 40) (2 ^ 40) p) : ACX Tryz.prog 119 [cw p] (RInt (cf (pv p) (tz (pv p) - 1))) := by
 refine ACX.by_walk zi0 (rs := [.cell 2 27]) ords Tryz.func119 (by rfl) (by rfl) (by rfl) (by rfl) (by rfl) (ne_int _) (fun B => ?_)
 have hl := h.1
 simp (disch := omega) only [wt, seval, reduceCtorEq, Nat.reduceEqDiff, cpoly_len, natsr_len, natsr_at, natsr_snoc, natsr_app, natsr_rows, natsr_nil]
 refine call_by ((pdeg_ok p h)) (by rfl) (by simp) ?_
 simp (disch := omega) only [wt, seval, reduceCtorEq, Nat.reduceEqDiff, cpoly_len, natsr_len, natsr_at, natsr_snoc, natsr_app, natsr_rows, natsr_nil]
 have := pcoefx_ok p ((tz (pv p) : Int) - 1) h
 have e : (if (tz (pv p) : Int) - 1 < 0 then 0 else cf (pv p) ((tz (pv p) : Int) - 1).toNat) = cf (pv p) (tz (pv p) - 1) := by
  by_cases h0 : tz (pv p) = 0
  ·rw [if_pos (by omega), cf_ge_tz _ (by omega)]
  ·rw [if_neg (by omega)]; congr 1; omega
 rw [e] at this
 refine callx_by (this) (by rfl) (by simp) (by first | rfl | assumption | (simp (disch := omega) only [wt, seval, reduceCtorEq, Nat.reduceEqDiff, cpoly_len, natsr_len, natsr_at, natsr_snoc, natsr_app, natsr_rows, natsr_nil]; done) | ((repeat (replace hF := hF.2)); exact hF)) ?_
 rintro B' E _ hB hE ⟨b, rfl, hb⟩
 simp (disch := omega) only [wt, seval, reduceCtorEq, Nat.reduceEqDiff, cpoly_len, natsr_len, natsr_at, natsr_snoc, natsr_app, natsr_rows, natsr_nil]
 refine opn_done [.agg (fint b _)] (by first | rfl | assumption) (by first | (simp (disch := omega) only [wt, seval, reduceCtorEq, Nat.reduceEqDiff, cpoly_len, natsr_len, natsr_at, natsr_snoc, natsr_app, natsr_rows, natsr_nil]; done) | (simp (disch := omega) only [wt, seval, reduceCtorEq, Nat.reduceEqDiff, cpoly_len, natsr_len, natsr_at, natsr_snoc, natsr_app, natsr_rows, natsr_nil]; rfl) | rfl) ?_
 intro E hE
 exact ⟨b, rfl, hb.mono hB (by omega)⟩
theorem pcontentx_ok (p : List RI) (h : RP (2 ^ 40) (2 ^ 38) p) : ACX Tryz.prog 121 [cw p] (RInt (cont (pv p))) := by
 refine ACX.by_walk zi0 (rs := [.cell 2 27]) ords Tryz.func121 (by rfl) (by rfl) (by rfl) (by rfl) (by rfl) (ne_int _) (fun B => ?_)
 have hl := h.1
 have hg := gz_len h
 have hs := zsign_ok (canon (lc (pv p))) ((sz_canon _).mono (by
  have := (h.pv).cf (tz (pv p) - 1)
  unfold lc
  omega))
 rw [iv_canon] at hs
 simp (disch := omega) only [wt, seval, reduceCtorEq, Nat.reduceEqDiff, cpoly_len, natsr_len, natsr_at, natsr_snoc, natsr_app, natsr_rows, natsr_nil]
 refine call_by ((plead_ok p (h.mono (by omega) (by omega)))) (by rfl) (by simp) ?_
 simp (disch := omega) only [wt, seval, reduceCtorEq, Nat.reduceEqDiff, cpoly_len, natsr_len, natsr_at, natsr_snoc, natsr_app, natsr_rows, natsr_nil]
 refine call_by (hs) (by rfl) (by simp) ?_
 simp (disch := omega) only [wt, seval, reduceCtorEq, Nat.reduceEqDiff, cpoly_len, natsr_len, natsr_at, natsr_snoc, natsr_app, natsr_rows, natsr_nil]
 refine call_by ((zgcd_ok p h)) (by rfl) (by simp) ?_
 simp (disch := omega) only [wt, seval, reduceCtorEq, Nat.reduceEqDiff, cpoly_len, natsr_len, natsr_at, natsr_snoc, natsr_app, natsr_rows, natsr_nil]
 have m := znatx_ok (decide (lc (pv p) < 0)) (gz (pv p)) (by omega)
 have e : (decide ((lc (pv p)).sign < 0)) = decide (lc (pv p) < 0) := by rw [decide_eq_decide]; exact sign_neg _
 rw [e]
 refine callx_by (m) (by rfl) (by simp) (by first | rfl | assumption | (simp (disch := omega) only [wt, seval, reduceCtorEq, Nat.reduceEqDiff, cpoly_len, natsr_len, natsr_at, natsr_snoc, natsr_app, natsr_rows, natsr_nil]; done) | ((repeat (replace hF := hF.2)); exact hF)) ?_
 rintro B' E _ hB hE ⟨b, rfl, hb⟩
 simp (disch := omega) only [wt, seval, reduceCtorEq, Nat.reduceEqDiff, cpoly_len, natsr_len, natsr_at, natsr_snoc, natsr_app, natsr_rows, natsr_nil]
 refine opn_done [.agg (fint b _)] (by first | rfl | assumption) (by first | (simp (disch := omega) only [wt, seval, reduceCtorEq, Nat.reduceEqDiff, cpoly_len, natsr_len, natsr_at, natsr_snoc, natsr_app, natsr_rows, natsr_nil]; done) | (simp (disch := omega) only [wt, seval, reduceCtorEq, Nat.reduceEqDiff, cpoly_len, natsr_len, natsr_at, natsr_snoc, natsr_app, natsr_rows, natsr_nil]; rfl) | rfl) ?_
 intro E hE
 exact ⟨b, rfl, hb.mono hB (by omega)⟩
theorem poverx_zero (p : List RI) (c : RI) (hp : RP (2 ^ 40) (2 ^ 38) p) (hc : Sz (2 ^ 38) c) (h0 : iv c = 0) : ACX Tryz.prog 110 [cw p, cr c] (RPolyE [] 1) := by
 refine ACX.by_walk zi0 (rs := [.tmp 4, .tmp 5]) ords Tryz.func110 (by rfl) (by rfl) (by rfl) (by rfl) (by rfl) (ne_polye _ _) (fun B => ?_)
 simp (disch := omega) only [wt, seval, reduceCtorEq, Nat.reduceEqDiff, cpoly_len, natsr_len, natsr_at, natsr_snoc, natsr_app, natsr_rows, natsr_nil]
 have hs := zsign_ok c (hc.mono (by omega))
 rw [h0] at hs
 rw [Int.sign_zero] at hs
 refine call_by (hs) (by rfl) (by simp) ?_
 simp (disch := omega) only [wt, seval, reduceCtorEq, Nat.reduceEqDiff, cpoly_len, natsr_len, natsr_at, natsr_snoc, natsr_app, natsr_rows, natsr_nil]
 refine opn_nils 4 27 2 (by rfl) ?_
 refine opn_done [.iv (fpoly none [] []), ci 1] (by first | rfl | assumption) (by first | (simp (disch := omega) only [wt, seval, reduceCtorEq, Nat.reduceEqDiff, cpoly_len, natsr_len, natsr_at, natsr_snoc, natsr_app, natsr_rows, natsr_nil]; done) | (simp (disch := omega) only [wt, seval, reduceCtorEq, Nat.reduceEqDiff, cpoly_len, natsr_len, natsr_at, natsr_snoc, natsr_app, natsr_rows, natsr_nil]; rfl) | rfl) ?_
 intro E hE
 exact ⟨none, [], rfl, rfl, .nil _ _⟩
theorem pprimx_ok (p : List RI) (h : RP (2 ^ 30) (2 ^ 35) p) : ACX Tryz.prog 118 [cw p] (RPoly (trimz (prim (pv p)))) := by
 refine ACX.by_walk zi0 (rs := [.tmp 2]) ords Tryz.func118 (by rfl) (by rfl) (by rfl) (by rfl) (by rfl) (ne_poly _) (fun B => ?_)
 have hg := gz_len h
 have hsz : Sz (2 ^ 35) (canon (cont (pv p))) := (sz_canon _).mono (by unfold zl; rw [cont_natAbs]; exact hg)
 simp (disch := omega) only [wt, seval, reduceCtorEq, Nat.reduceEqDiff, cpoly_len, natsr_len, natsr_at, natsr_snoc, natsr_app, natsr_rows, natsr_nil]
 refine call_by ((pcontent_ok p (h.mono (by omega) (by omega)))) (by rfl) (by simp) ?_
 simp (disch := omega) only [wt, seval, reduceCtorEq, Nat.reduceEqDiff, cpoly_len, natsr_len, natsr_at, natsr_snoc, natsr_app, natsr_rows, natsr_nil]
 by_cases h0 : cont (pv p) = 0
 ·have m := poverx_zero p (canon (cont (pv p))) (h.mono (by omega) (by omega)) (hsz.mono (by omega)) (by rw [iv_canon]; exact h0)
  have e : trimz (prim (pv p)) = [] := trimz_nil (tz_zero_iff.mpr fun k => by unfold prim; rw [cf_pdivs, h0, Int.ediv_zero])
  rw [e]
  refine callx_by (m) (by rfl) (by simp) (by first | rfl | assumption | (simp (disch := omega) only [wt, seval, reduceCtorEq, Nat.reduceEqDiff, cpoly_len, natsr_len, natsr_at, natsr_snoc, natsr_app, natsr_rows, natsr_nil]; done) | ((repeat (replace hF := hF.2)); exact hF)) ?_
  rintro B' E _ hB hE ⟨b, bs, rfl, hl, hn⟩
  simp (disch := omega) only [wt, seval, reduceCtorEq, Nat.reduceEqDiff, cpoly_len, natsr_len, natsr_at, natsr_snoc, natsr_app, natsr_rows, natsr_nil]
  refine opn_done [.iv (fpoly b bs _)] (by first | rfl | assumption) (by first | (simp (disch := omega) only [wt, seval, reduceCtorEq, Nat.reduceEqDiff, cpoly_len, natsr_len, natsr_at, natsr_snoc, natsr_app, natsr_rows, natsr_nil]; done) | (simp (disch := omega) only [wt, seval, reduceCtorEq, Nat.reduceEqDiff, cpoly_len, natsr_len, natsr_at, natsr_snoc, natsr_app, natsr_rows, natsr_nil]; rfl) | rfl) ?_
  intro E hE
  exact ⟨b, bs, rfl, hl, hn.mono (by omega) (by omega)⟩
 ·have m := poverx_ok p (canon (cont (pv p))) h hsz (by rw [iv_canon]; exact h0) (fun k => by rw [iv_canon]; exact cont_dvd _ k)
  rw [iv_canon] at m
  refine callx_by (m) (by rfl) (by simp) (by first | rfl | assumption | (simp (disch := omega) only [wt, seval, reduceCtorEq, Nat.reduceEqDiff, cpoly_len, natsr_len, natsr_at, natsr_snoc, natsr_app, natsr_rows, natsr_nil]; done) | ((repeat (replace hF := hF.2)); exact hF)) ?_
  rintro B' E _ hB hE ⟨b, bs, rfl, hl, hn⟩
  simp (disch := omega) only [wt, seval, reduceCtorEq, Nat.reduceEqDiff, cpoly_len, natsr_len, natsr_at, natsr_snoc, natsr_app, natsr_rows, natsr_nil]
  refine opn_done [.iv (fpoly b bs _)] (by first | rfl | assumption) (by first | (simp (disch := omega) only [wt, seval, reduceCtorEq, Nat.reduceEqDiff, cpoly_len, natsr_len, natsr_at, natsr_snoc, natsr_app, natsr_rows, natsr_nil]; done) | (simp (disch := omega) only [wt, seval, reduceCtorEq, Nat.reduceEqDiff, cpoly_len, natsr_len, natsr_at, natsr_snoc, natsr_app, natsr_rows, natsr_nil]; rfl) | rfl) ?_
  intro E hE
  exact ⟨b, bs, rfl, hl, hn.mono (by omega) (by omega)⟩
theorem pheightx_ok (p : List RI) (h : RP (2 ^ 40) (2 ^ 40) p) : ACX Tryz.prog 122 [cw p] (RNat (wd (hgt (pv p)))) := by
 refine ACX.by_walk zi0 (rs := [.tmp 2]) ords Tryz.func122 (by rfl) (by rfl) (by rfl) (by rfl) (by rfl) (ne_nat _) (fun B => ?_)
 have hl := h.1
 simp (disch := omega) only [wt, seval, reduceCtorEq, Nat.reduceEqDiff, cpoly_len, natsr_len, natsr_at, natsr_snoc, natsr_app, natsr_rows, natsr_nil]
 refine aloop_w (.nilv 3 (by simp (disch := omega) only [wt, seval, reduceCtorEq, Nat.reduceEqDiff, cpoly_len, natsr_len, natsr_at, natsr_snoc, natsr_app, natsr_rows, natsr_nil]) (.refl _ _)) (fun f H => ∃ (i : Nat) (m : List Nat), i ≤ p.length ∧ Lim m ∧ m.length ≤ 2 ^ 40 ∧ nv m = hgt ((pv p).take i) ∧ f 8 = .iv (.int .i64 i) ∧ f 3 = .iv (.sl (lims m)) ∧ f 6 = .iv (.sl (raws p)) ∧ f 7 = .iv (.int .i64 p.length) ∧ H 999 = .mrk B) (fun f H => (p.length - intAt f 8).toNat) ?_ ?_
 ·refine ⟨0, [], by omega, Lim.nil, by simp, by simp [vl, hgt], ?_⟩
  simp (disch := omega) only [wt, seval, reduceCtorEq, Nat.reduceEqDiff, cpoly_len, natsr_len, natsr_at, natsr_snoc, natsr_app, natsr_rows, natsr_nil]
 rintro f H ⟨i, m, hi, hm, hml, hv, hF⟩
 rw [intAt_of hF.1]
 simp (disch := omega) only [wt, seval, reduceCtorEq, Nat.reduceEqDiff, cpoly_len, natsr_len, natsr_at, natsr_snoc, natsr_app, natsr_rows, natsr_nil, hF]
 refine if_by (fun hlt => ?_) (fun hlt => ?_)
 ·simp (disch := omega) only [wt, seval, reduceCtorEq, Nat.reduceEqDiff, cpoly_len, natsr_len, natsr_at, natsr_snoc, natsr_app, natsr_rows, natsr_nil, hF]
  have hc := h.get i
  have hcl := hc.1
  refine call_by ((ncmp_ok (p.getD i (false, [])).2 m hc.2 hm (by omega) (by omega))) (by first | rfl | (simp only [tocvs, tocv, toboxes, tobox, updH_at, Nat.reduceEqDiff, ↓reduceIte, hF]; rfl)) (by simp) ?_
  simp (disch := omega) only [wt, seval, reduceCtorEq, Nat.reduceEqDiff, cpoly_len, natsr_len, natsr_at, natsr_snoc, natsr_app, natsr_rows, natsr_nil, hF]
  have hn := hgt_take (q := pv p) (i := i) (by rw [pv_len]; omega)
  rw [cf_pv, iv_abs, ← hv] at hn
  refine if_by (fun hs => ?_) (fun hs => ?_)
  ·simp (disch := omega) only [wt, seval, reduceCtorEq, Nat.reduceEqDiff, cpoly_len, natsr_len, natsr_at, natsr_snoc, natsr_app, natsr_rows, natsr_nil, hF]
   have := cmpN_gt.mp hs
   exact ⟨⟨i + 1, _, by omega, hc.2, hcl, by rw [hn]; omega, by omega, rfl⟩, by omega⟩
  ·simp (disch := omega) only [wt, seval, reduceCtorEq, Nat.reduceEqDiff, cpoly_len, natsr_len, natsr_at, natsr_snoc, natsr_app, natsr_rows, natsr_nil, hF]
   have : ¬ nv m < nv (p.getD i (false, [])).2 := fun h => hs (cmpN_gt.mpr h)
   exact ⟨⟨i + 1, m, by omega, hm, hml, by rw [hn]; omega, by omega, rfl⟩, by omega⟩
 ·simp (disch := omega) only [wt, seval, reduceCtorEq, Nat.reduceEqDiff, cpoly_len, natsr_len, natsr_at, natsr_snoc, natsr_app, natsr_rows, natsr_nil, hF]
  rw [List.take_of_length_le (by rw [pv_len]; omega)] at hv
  have := normx_ok m hm (by omega)
  rw [hv] at this
  refine callx_by (this) (by first | rfl | (simp only [tocvs, tocv, toboxes, tobox, updH_at, Nat.reduceEqDiff, ↓reduceIte, hF]; rfl)) (by simp) (by first | rfl | assumption | (simp (disch := omega) only [wt, seval, reduceCtorEq, Nat.reduceEqDiff, cpoly_len, natsr_len, natsr_at, natsr_snoc, natsr_app, natsr_rows, natsr_nil, hF]; done) | ((repeat (replace hF := hF.2)); exact hF)) ?_
  rintro B' E _ hB hE ⟨b, rfl, hb⟩
  simp (disch := omega) only [wt, seval, reduceCtorEq, Nat.reduceEqDiff, cpoly_len, natsr_len, natsr_at, natsr_snoc, natsr_app, natsr_rows, natsr_nil, hF]
  refine opn_done [.iv (fnat b _)] (by first | rfl | assumption) (by first | (simp (disch := omega) only [wt, seval, reduceCtorEq, Nat.reduceEqDiff, cpoly_len, natsr_len, natsr_at, natsr_snoc, natsr_app, natsr_rows, natsr_nil]; done) | (simp (disch := omega) only [wt, seval, reduceCtorEq, Nat.reduceEqDiff, cpoly_len, natsr_len, natsr_at, natsr_snoc, natsr_app, natsr_rows, natsr_nil]; rfl) | rfl) ?_
  intro E hE
  exact ⟨b, rfl, hb.mono hB (by omega)⟩
theorem soft_fnat (b : OB) (l : List Nat) : SoftC (.iv (fnat b l)) (cl l) := by
 refine .iv (.own _ _ _ _ _ rfl (fun i r r' h h' => ?_) (fun i r r' h h' j x x' hx hx' => ?_))
 ·rw [h] at h'; cases h'; rfl
 ·rw [h] at h'; cases h'; rw [hx] at hx'; cases hx'; exact .refl _
theorem nsumx_ok (l : List (List Nat)) (h : NP (2 ^ 30) (2 ^ 30) l) : ACX Tryz.prog 218 [.iv (.sl (natsr l))] (RNat (wd (nsum l))) := by
 refine ACX.by_walk zi0 (rs := [.tmp 2]) ords Tryz.func218 (by rfl) (by rfl) (by rfl) (by rfl) (by rfl) (ne_nat _) (fun B => ?_)
 have hl := h.1
 simp (disch := omega) only [wt, seval, reduceCtorEq, Nat.reduceEqDiff, cpoly_len, natsr_len, natsr_at, natsr_snoc, natsr_app, natsr_rows, natsr_nil]
 refine aloop_w (.nilo 3 144 1 (by simp (disch := omega) only [wt, seval, reduceCtorEq, Nat.reduceEqDiff, cpoly_len, natsr_len, natsr_at, natsr_snoc, natsr_app, natsr_rows, natsr_nil]) (.refl _ _)) (fun f H => ∃ (i : Nat) (b : OB) (E : Nat), i ≤ l.length ∧ B ≤ E ∧ Nw B E (oid b) ∧ f 8 = .iv (.int .i64 i) ∧ f 3 = .iv (fnat b (wd (nsum (l.take i)))) ∧ f 6 = .iv (.sl (natsr l)) ∧ f 7 = .iv (.int .i64 l.length) ∧ H 999 = .mrk E) (fun f H => (l.length - intAt f 8).toNat) ?_ ?_
 ·refine ⟨0, none, B, by omega, by omega, .nil _ _, ?_⟩
  simp (disch := omega) only [wt, seval, reduceCtorEq, Nat.reduceEqDiff, cpoly_len, natsr_len, natsr_at, natsr_snoc, natsr_app, natsr_rows, natsr_nil, List.take_zero, nsum, List.foldl_nil, wd_zero, fnat]
 rintro f H ⟨i, b, E, hi, hBE, hnw, hF⟩
 rw [intAt_of hF.1]
 simp (disch := omega) only [wt, seval, reduceCtorEq, Nat.reduceEqDiff, cpoly_len, natsr_len, natsr_at, natsr_snoc, natsr_app, natsr_rows, natsr_nil, hF]
 have hs := nsum_len h i hi
 refine if_by (fun hlt => ?_) (fun hlt => ?_)
 ·have hg := h.get i
  have h3 := hg.2
  have m := (naddx_ok (wd (nsum (l.take i))) (l.getD i []) (lim_wd _) hg.1 (by omega) (by omega)).soft (.cons (soft_fnat b _) (.cons (.refl _) .nil))
  rw [nv_wd, ← nsum_take (by omega)] at m
  simp (disch := omega) only [wt, seval, reduceCtorEq, Nat.reduceEqDiff, cpoly_len, natsr_len, natsr_at, natsr_snoc, natsr_app, natsr_rows, natsr_nil, hF]
  refine callx_by (m) (by first | rfl | (simp only [tocvs, tocv, toboxes, tobox, updH_at, Nat.reduceEqDiff, ↓reduceIte, hF]; rfl)) (by simp) (by first | rfl | assumption | (simp (disch := omega) only [wt, seval, reduceCtorEq, Nat.reduceEqDiff, cpoly_len, natsr_len, natsr_at, natsr_snoc, natsr_app, natsr_rows, natsr_nil, hF]; done) | ((repeat (replace hF := hF.2)); exact hF)) ?_
  rintro B' E' _ hB hE ⟨b', rfl, hb⟩
  simp (disch := omega) only [wt, seval, reduceCtorEq, Nat.reduceEqDiff, cpoly_len, natsr_len, natsr_at, natsr_snoc, natsr_app, natsr_rows, natsr_nil, hF]
  exact ⟨⟨i + 1, b', E', by omega, by omega, hb.mono (by omega) (by omega), by omega, rfl, rfl⟩, by omega⟩
 ·simp (disch := omega) only [wt, seval, reduceCtorEq, Nat.reduceEqDiff, cpoly_len, natsr_len, natsr_at, natsr_snoc, natsr_app, natsr_rows, natsr_nil, hF]
  rw [List.take_of_length_le (by omega)]
  refine opn_done (B := E) [.iv (fnat b (wd (nsum l)))] hF.2.2.2.2 (by first | (simp (disch := omega) only [wt, seval, reduceCtorEq, Nat.reduceEqDiff, cpoly_len, natsr_len, natsr_at, natsr_snoc, natsr_app, natsr_rows, natsr_nil]; done) | rfl) ?_
  intro E2 hE2
  exact ⟨b, rfl, hnw.mono (Nat.le_refl _) hE2⟩
theorem pweightx_ok (p : List RI) (h : RP (2 ^ 30) (2 ^ 30) p) : ACX Tryz.prog 123 [cw p] (RNat (wd (wgt (pv p)))) := by
 refine ACX.by_walk zi0 (rs := [.tmp 2]) ords Tryz.func123 (by rfl) (by rfl) (by rfl) (by rfl) (by rfl) (ne_nat _) (fun B => ?_)
 have hl := h.1
 simp (disch := omega) only [wt, seval, reduceCtorEq, Nat.reduceEqDiff, cpoly_len, natsr_len, natsr_at, natsr_snoc, natsr_app, natsr_rows, natsr_nil]
 refine aloop_nil 3 3 25 1 (by simp (disch := omega) only [wt, seval, reduceCtorEq, Nat.reduceEqDiff, cpoly_len, natsr_len, natsr_at, natsr_snoc, natsr_app, natsr_rows, natsr_nil]) (fun f H => ∃ (i st : Nat), i ≤ p.length ∧ f 8 = .iv (.int .i64 i) ∧ f 3 = .hs 3 st ∧ f 6 = .iv (.sl (raws p)) ∧ f 7 = .iv (.int .i64 p.length) ∧ H 3 = .blk false st 25 1 (natsr ((p.take i).map (·.2))) ∧ H 999 = .mrk B) (fun f H => (p.length - intAt f 8).toNat) ?_ ?_
 ·refine ⟨0, 1, by omega, ?_⟩
  simp (disch := omega) only [wt, seval, reduceCtorEq, Nat.reduceEqDiff, cpoly_len, natsr_len, natsr_at, natsr_snoc, natsr_app, natsr_rows, natsr_nil, ghostF, ghostH, List.take_zero]
 rintro f H ⟨i, st, hi, hF⟩
 rw [intAt_of hF.1]
 simp (disch := omega) only [wt, seval, reduceCtorEq, Nat.reduceEqDiff, cpoly_len, natsr_len, natsr_at, natsr_snoc, natsr_app, natsr_rows, natsr_nil, hF]
 refine if_by (fun hlt => ?_) (fun hlt => ?_)
 ·have hq : ((p.take i).map (·.2)).length = i := by rw [List.length_map, List.length_take]; omega
  simp (disch := omega) only [wt, seval, reduceCtorEq, Nat.reduceEqDiff, cpoly_len, natsr_len, natsr_at, natsr_snoc, natsr_app, natsr_rows, natsr_nil, hF, hq]
  have e : (p.take (i + 1)).map (·.2) = (p.take i).map (·.2) ++ [(p.getD i (false, [])).2] := by
   rw [List.take_add_one, List.map_append]; congr 1; simp [List.getD, show i < p.length by omega]
  exact ⟨⟨i + 1, st + 1, by omega, by omega, by rw [e]; exact ⟨rfl, rfl⟩⟩, by omega⟩
 ·simp (disch := omega) only [wt, seval, reduceCtorEq, Nat.reduceEqDiff, cpoly_len, natsr_len, natsr_at, natsr_snoc, natsr_app, natsr_rows, natsr_nil, hF]
  rw [List.take_of_length_le (by omega)] at hF
  have m := nsumx_ok (p.map (·.2)) ⟨by simpa using hl, fun a ha => by
   obtain ⟨c, hc, rfl⟩ := List.mem_map.mp ha
   exact ⟨(h.2 c hc).2, (h.2 c hc).1⟩⟩
  rw [nsum_snd] at m
  refine callx_by (m) (by first | rfl | (simp only [tocvs, tocv, toboxes, tobox, updH_at, Nat.reduceEqDiff, ↓reduceIte, hF]; rfl)) (by simp) (by first | rfl | assumption | (simp (disch := omega) only [wt, seval, reduceCtorEq, Nat.reduceEqDiff, cpoly_len, natsr_len, natsr_at, natsr_snoc, natsr_app, natsr_rows, natsr_nil, hF]; done) | ((repeat (replace hF := hF.2)); exact hF)) ?_
  rintro B' E _ hB hE ⟨b, rfl, hb⟩
  simp (disch := omega) only [wt, seval, reduceCtorEq, Nat.reduceEqDiff, cpoly_len, natsr_len, natsr_at, natsr_snoc, natsr_app, natsr_rows, natsr_nil, hF]
  refine opn_done [.iv (fnat b _)] (by first | rfl | assumption) (by first | (simp (disch := omega) only [wt, seval, reduceCtorEq, Nat.reduceEqDiff, cpoly_len, natsr_len, natsr_at, natsr_snoc, natsr_app, natsr_rows, natsr_nil]; done) | (simp (disch := omega) only [wt, seval, reduceCtorEq, Nat.reduceEqDiff, cpoly_len, natsr_len, natsr_at, natsr_snoc, natsr_app, natsr_rows, natsr_nil]; rfl) | rfl) ?_
  intro E hE
  exact ⟨b, rfl, hb.mono hB (by omega)⟩
end Go.Proofs.YtdokaihemcnkmaaGreat

namespace Go.Proofs.YtdokaihemcnkmaaGreat
open Go Go.Proofs Go.AL
set_option linter.unusedSimpArgs false
set_option linter.unusedVariables false
theorem pmulx_cn {q r s : List Int} (hq : PB (2 ^ 30) (2 ^ 35) q) (hr : PB (2 ^ 30) (2 ^ 35) r) (e : ps q * ps r = ps s) : ACX Tryz.prog 88 [cp q, cp r] (RPoly (trimz s)) := by
 have h := pmulx_ok (cn q) (cn r) (rp_cn hq) (rp_cn hr)
 rw [trimz_ext (ps_eq (p := pmul (pv (cn q)) (pv (cn r))) (q := s) (by rw [ps_pmul, ps_cn, ps_cn, e]))] at h
 exact h
set_option maxRecDepth 4000 in
theorem ppowx_ok (p : List RI) (h : RP (2 ^ 15) (2 ^ 20) p) : ACX Tryz.prog 109 [cw p, ci 1] (RPolyE (trimz (pv p)) 0) := by
 refine ACX.by_walk zi0 (rs := [.tmp 4, .tmp 5]) ords Tryz.func109 (by rfl) (by rfl) (by rfl) (by rfl) (by rfl) (ne_polye _ _) (fun B => ?_)
 simp (disch := omega) only [wt, seval, reduceCtorEq, Nat.reduceEqDiff, cpoly_len]
 have hbd := pbound_ok 1
 rw [if_neg (by omega), if_neg (by omega)] at hbd
 refine call_by (hbd) (by rfl) (by simp) ?_
 simp (disch := omega) only [wt, seval, reduceCtorEq, Nat.reduceEqDiff, cpoly_len]
 refine call_by ((zOf_ok 1 (by omega) (by omega))) (by rfl) (by simp) ?_
 simp (disch := omega) only [wt, seval, reduceCtorEq, Nat.reduceEqDiff, cpoly_len]
 refine call_by ((pnorm_ok p (h.mono (by omega) (by omega)))) (by rfl) (by simp) ?_
 simp (disch := omega) only [wt, seval, reduceCtorEq, Nat.reduceEqDiff, cpoly_len]
 refine aloop_w (.iv 7 15 1 false 27 2 [prow (canon 1)] (by simp (disch := omega) only [wt, seval, reduceCtorEq, Nat.reduceEqDiff, cpoly_len]) (by simp (disch := omega) only [wt, seval, reduceCtorEq, Nat.reduceEqDiff, cpoly_len]) (.refl _ _)) (fun f H => (f 1 = .iv (.int .i64 1) ∧ f 7 = .iv (.sl (cpoly [1])) ∧ f 8 = .iv (.sl (cpoly (pv p))) ∧ H 999 = .mrk B) ∨ (f 1 = .iv (.int .i64 0) ∧ ∃ b bs E, f 7 = .iv (fpoly b bs (trimz (pv p))) ∧ H 999 = .mrk E ∧ B ≤ E ∧ bs.length = (trimz (pv p)).length ∧ Nw B E (oid b ++ ids bs))) (fun f H => (intAt f 1).toNat) ?_ ?_
 ·left
  simp (disch := omega) only [wt, seval, reduceCtorEq, Nat.reduceEqDiff, cpoly_len, cpoly_one]
 rintro f H (⟨h1, h7, h8, h9⟩ | ⟨h1, b, bs, E, h7, h9, hBE, hl, hn⟩)
 ·rw [intAt_of h1]
  have et : (1 : Int).tmod 2 = 1 := rfl
  have ed : (1 : Int).tdiv 2 = 0 := rfl
  have d1 : decide ((0 : Int) < 1) = true := rfl
  have d2 : decide ((1 : Int) = 1) = true := rfl
  have d3 : decide ((1 : Int) < 1) = false := rfl
  simp (disch := omega) only [wt, seval, reduceCtorEq, Nat.reduceEqDiff, cpoly_len, h1, h7, h8, h9, et, ed, d1, d2, d3]
  refine callx_by ((pmulx_cn (s := pv p) (q := [1]) (r := pv p) ⟨by simp, fun z hz => by simp at hz; subst hz; have : zl 1 ≤ 1 := zl_le.mpr (by decide); omega⟩ (h.pv.mono (by omega) (by omega)) (by rw [show ps [1] = ps (ppow (pv p) 0) from rfl, ps_ppow, PS.pw]; exact PS.one_mul _))) (by first | rfl | (simp only [tocvs, tocv, toboxes, tobox, updH_at, Nat.reduceEqDiff, ↓reduceIte, h1, h7, h8, h9, et, ed, d1, d2, d3]; rfl)) (by simp) (by first | rfl | assumption | (simp (disch := omega) only [wt, seval, reduceCtorEq, Nat.reduceEqDiff, cpoly_len, h1, h7, h8, h9, et, ed, d1, d2, d3]; done) | ((repeat (replace hF := hF.2)); exact hF)) ?_
  rintro B' E _ hB hE ⟨b, bs, rfl, hl, hn⟩
  simp (disch := omega) only [wt, seval, reduceCtorEq, Nat.reduceEqDiff, cpoly_len, h1, h7, h8, h9, et, ed, d1, d2, d3]
  exact .inr ⟨b, bs, E, rfl, rfl, by omega, hl, hn.mono hB (Nat.le_refl _)⟩
 ·rw [intAt_of h1]
  have d1 : decide ((0 : Int) < 0) = false := rfl
  simp (disch := omega) only [wt, seval, reduceCtorEq, Nat.reduceEqDiff, cpoly_len, h1, h7, h9, d1]
  refine opn_done (B := E) [.iv (fpoly b bs (trimz (pv p))), ci 0] h9 (by first | (simp (disch := omega) only [wt, seval, reduceCtorEq, Nat.reduceEqDiff, cpoly_len]; done) | rfl) ?_
  intro E2 hE2
  exact ⟨b, bs, rfl, hl, hn.mono (Nat.le_refl _) hE2⟩
end Go.Proofs.YtdokaihemcnkmaaGreat

namespace Go.Proofs.YtdokaihemcnkmaaGreat
open Go Go.Proofs Go.AL
set_option linter.unusedSimpArgs false
set_option linter.unusedVariables false
theorem range_5 : List.range 5 = [0, 1, 2, 3, 4] := rfl
theorem range_16 : List.range 16 = [0, 1, 2, 3, 4, 5, 6, 7, 8, 9, 10, 11, 12, 13, 14, 15] := rfl
theorem fld_int1 {zi : Zi} : fldA Tryz.prog 27 1 = some (1, 1, false) := by kernel_rfl
theorem Nw.perm {B E : Nat} {l m : List Nat} (h : Nw B E l) (p : l.Perm m) : Nw B E m := ⟨p.nodup_iff.1 h.1, fun g hg => h.2 g (p.mem_iff.2 hg)⟩
abbrev OP := OB × List OB
def pid (c : OP) : List Nat := oid c.1 ++ ids c.2
def plist (cs : List OP) (ps : List (List Int)) : List (List IV) := List.zipWith (fun c q => [fpoly c.1 c.2 q]) cs ps
def nlist (ds : List OB) (ns : List (List Nat)) : List (List IV) := List.zipWith (fun d n => [fnat d n]) ds ns
def POk (cs : List OP) (ps : List (List Int)) : Prop := cs.length = ps.length ∧ ∀ (i : Nat) c q, cs[i]? = some c → ps[i]? = some q → c.2.length = q.length
def RAsk (ps : List (List Int)) (ns : List (List Nat)) (B E : Nat) (res : List CV) : Prop := ∃ (o1 o2 : OB) (cs : List OP) (ds : List OB), res = [.iv (.own o1 23 1 (plist cs ps)), .iv (.own o2 25 1 (nlist ds ns))] ∧ POk cs ps ∧ ds.length = ns.length ∧ Nw B E (oid o2 ++ (oid o1 ++ (cs.flatMap pid ++ ds.flatMap oid)))
theorem ids_plist : ∀ {cs : List OP} {ps : List (List Int)}, POk cs ps → idsRows (plist cs ps) = cs.flatMap pid
 | [], _, _ => by simp [plist, idsRows]
 | c :: cs, [], h => by have := h.1; simp at this
 | c :: cs, q :: ps, h => by
  have h0 := h.2 0 c q rfl rfl
  have ht : POk cs ps := ⟨by have := h.1; simpa using this, fun i c' q' hc hq => h.2 (i + 1) c' q' (by simpa using hc) (by simpa using hq)⟩
  have := ids_plist ht
  simp only [plist, List.zipWith_cons_cons, idsRows, List.flatMap_cons] at this ⊢
  rw [this]
  congr 1
  simp only [idsRow, List.append_nil, pid]
  rw [← ids_frows h0]
  cases c.1 <;> simp [IV.ids, oid]
theorem ids_nlist : ∀ {ds : List OB} {ns : List (List Nat)}, ds.length = ns.length → idsRows (nlist ds ns) = ds.flatMap oid
 | [], _, _ => by simp [nlist, idsRows]
 | c :: cs, [], h => by simp at h
 | c :: cs, q :: ps, h => by
  have := ids_nlist (ds := cs) (ns := ps) (by simpa using h)
  simp only [nlist, List.zipWith_cons_cons, idsRows, List.flatMap_cons] at this ⊢
  rw [this]
  congr 1
  simp only [idsRow, List.append_nil]
  exact ids_fnat _ _
theorem nwput {B E E' : Nat} {b : OB} {l : List Nat} (hE : E ≤ E') (h : ∀ g cap, b = some (g, cap) → B ≤ g ∧ g < E' ∧ g ∉ l) (hl : Nw B E l) : Nw B E' (oid b ++ l) := by
 cases b with
 | none => exact hl.mono (Nat.le_refl _) hE
 | some g =>
  have := h g.1 g.2 rfl
  exact (hl.mono (Nat.le_refl _) hE).cons this.2.2 this.1 this.2.1
theorem ids_own0 (b : OB) (e sz : Nat) (rows : List (List IV)) : (IV.own b e sz rows).ids = oid b ++ idsRows rows := by
 cases b <;> simp [IV.ids, oid]
theorem ne_ask (ps : List (List Int)) (ns : List (List Nat)) (B : Nat) : ∃ E res, B ≤ E ∧ RAsk ps ns B E res := by
 refine ⟨B, _, Nat.le_refl _, none, none, ps.map fun q => (none, List.replicate q.length none), List.replicate ns.length none, rfl, ⟨by simp, fun i c q hc hq => ?_⟩, by simp, ?_⟩
 ·rw [List.getElem?_map, hq] at hc
  injection hc with hc
  rw [← hc]; simp
 ·have h1 : (ps.map fun q => ((none, List.replicate q.length none) : OP)).flatMap pid = [] := by
   rw [List.flatMap_eq_nil_iff]
   intro c hc
   obtain ⟨q, _, rfl⟩ := List.mem_map.1 hc
   simp [pid, oid, ids_nones]
  have h2 : (List.replicate ns.length (none : OB)).flatMap oid = [] := by
   rw [List.flatMap_eq_nil_iff]
   intro c hc
   rw [List.eq_of_mem_replicate hc]; rfl
  rw [h1, h2]; exact .nil _ _
def askp (a b : List Int) (k : Int) : List (List Int) :=
 [trimz a, trimz (padd a b), trimz a, trimz (padd a (pscale (-1) b)), trimz a, trimz (pscale (-1) a), trimz (pmul a b), trimz (pscale k a), trimz a, trimz (pderiv a), trimz (prim a), trimz (pshift 2 a), trimz a, trimz a, trimz a, trimz (pmono k 1)]
def askn (a : List Int) : List (List Nat) := [wd (cf a (tz a - 1)).natAbs, wd (cf a 0).natAbs, wd (cont a).natAbs, wd (hgt a), wd (wgt a)]
set_option maxRecDepth 8000 in
set_option maxHeartbeats 4000000 in
theorem ask_ok (a b : List RI) (k : RI) (ha : RP 40 200 a) (hb : RP 40 200 b) (hk : Sz 200 k) : ACX Tryz.prog 12 [cw a, cw b, cr k] (RAsk (askp (pv a) (pv b) (iv k)) (askn (pv a))) := by
 refine ACX.by_walk zi0 (rs := [.tmp 6, .tmp 7]) ords Tryz.func12 (by rfl) (by rfl) (by rfl) (by rfl) (by rfl) (ne_ask _ _) (fun B => ?_)
 have m1 := pupx_ok a 2 (by omega) (ha.mono (by omega) (by omega))
 have m2 := pupx_ok a 0 (by omega) (ha.mono (by omega) (by omega))
 rw [show pshift 0 (pv a) = pv a from rfl] at m2
 have m3 := ppowx_ok a (ha.mono (by omega) (by omega))
 have i1 : iv (false, [1]) = 1 := by simp [iv, nv, vl]
 have m4 := poverx_ok a (false, [1]) (ha.mono (by omega) (by omega)) ⟨by simp, Lim.cons (by decide) Lim.nil⟩ (by rw [i1]; decide) (fun k => by rw [i1]; exact Int.one_dvd _)
 rw [i1, trimz_ext (p := pdivs 1 (pv a)) (q := pv a) (fun k => by rw [cf_pdivs, Int.ediv_one])] at m4
 have m5 := pmonox_ok k 1 (by omega) (hk.mono (by omega))
 have m6 := pnormx_ok a (ha.mono (by omega) (by omega))
 have m7 := paddx_ok a b (ha.mono (by omega) (by omega)) (hb.mono (by omega) (by omega))
 have m8 := paddx_ok a [] (ha.mono (by omega) (by omega)) ⟨by simp, by simp⟩
 rw [trimz_ext (p := padd (pv a) (pv [])) (q := pv a) (fun k => by rw [cf_padd, show cf (pv []) k = 0 from rfl, Int.add_zero])] at m8
 have m9 := psubx_ok a b (ha.mono (by omega) (by omega)) (hb.mono (by omega) (by omega))
 have m10 := psubx_ok a [] (ha.mono (by omega) (by omega)) ⟨by simp, by simp⟩
 rw [trimz_ext (p := padd (pv a) (pscale (-1) (pv []))) (q := pv a) (fun k => by rw [cf_padd, show cf (pscale (-1) (pv [])) k = 0 from rfl, Int.add_zero])] at m10
 have m11 := pnegx_ok a (ha.mono (by omega) (by omega))
 have m12 := pmulx_ok a b (ha.mono (by omega) (by omega)) (hb.mono (by omega) (by omega))
 have m13 := pscalex_ok a k (ha.mono (by omega) (by omega)) (hk.mono (by omega))
 have m14 := pscalex_ok a (false, [1]) (ha.mono (by omega) (by omega)) ⟨by simp, Lim.cons (by decide) Lim.nil⟩
 rw [i1, trimz_ext (p := pscale 1 (pv a)) (q := pv a) (fun k => by rw [cf_pscale, Int.mul_one])] at m14
 have m15 := pderivx_ok a (ha.mono (by omega) (by omega))
 have m16 := pprimx_ok a (ha.mono (by omega) (by omega))
 have n1 := pleadx_ok a (ha.mono (by omega) (by omega))
 have n2 := pcoefx_ok a 0 (ha.mono (by omega) (by omega))
 rw [if_neg (by omega)] at n2
 have n3 := pcontentx_ok a (ha.mono (by omega) (by omega))
 have n4 := pheightx_ok a (ha.mono (by omega) (by omega))
 have n5 := pweightx_ok a (ha.mono (by omega) (by omega))
 clear i1
 simp (disch := omega) only [wt, seval, reduceCtorEq, Nat.reduceEqDiff, lay_own, spl_own, range_5, range_16, fld_int1]
 refine callx_by (m1) (by rfl) (by simp) (by first | rfl | assumption | (simp (disch := omega) only [wt, seval, reduceCtorEq, Nat.reduceEqDiff, lay_own, spl_own, range_5, range_16, fld_int1]; done) | ((repeat (replace hF := hF.2)); exact hF)) ?_
 rintro B1 E1 _ hB1 hE1 ⟨b1, c1, rfl, l1, w1⟩
 simp (disch := omega) only [wt, seval, reduceCtorEq, Nat.reduceEqDiff, lay_own, spl_own, range_5, range_16, fld_int1]
 refine callx_by (m2) (by rfl) (by simp) (by first | rfl | assumption | (simp (disch := omega) only [wt, seval, reduceCtorEq, Nat.reduceEqDiff, lay_own, spl_own, range_5, range_16, fld_int1]; done) | ((repeat (replace hF := hF.2)); exact hF)) ?_
 rintro B2 E2 _ hB2 hE2 ⟨b2, c2, rfl, l2, w2⟩
 simp (disch := omega) only [wt, seval, reduceCtorEq, Nat.reduceEqDiff, lay_own, spl_own, range_5, range_16, fld_int1]
 refine callx_by (m3) (by rfl) (by simp) (by first | rfl | assumption | (simp (disch := omega) only [wt, seval, reduceCtorEq, Nat.reduceEqDiff, lay_own, spl_own, range_5, range_16, fld_int1]; done) | ((repeat (replace hF := hF.2)); exact hF)) ?_
 rintro B3 E3 _ hB3 hE3 ⟨b3, c3, rfl, l3, w3⟩
 simp (disch := omega) only [wt, seval, reduceCtorEq, Nat.reduceEqDiff, lay_own, spl_own, range_5, range_16, fld_int1]
 refine callx_by (m4) (by rfl) (by simp) (by first | rfl | assumption | (simp (disch := omega) only [wt, seval, reduceCtorEq, Nat.reduceEqDiff, lay_own, spl_own, range_5, range_16, fld_int1]; done) | ((repeat (replace hF := hF.2)); exact hF)) ?_
 rintro B4 E4 _ hB4 hE4 ⟨b4, c4, rfl, l4, w4⟩
 simp (disch := omega) only [wt, seval, reduceCtorEq, Nat.reduceEqDiff, lay_own, spl_own, range_5, range_16, fld_int1]
 refine callx_by (m5) (by rfl) (by simp) (by first | rfl | assumption | (simp (disch := omega) only [wt, seval, reduceCtorEq, Nat.reduceEqDiff, lay_own, spl_own, range_5, range_16, fld_int1]; done) | ((repeat (replace hF := hF.2)); exact hF)) ?_
 rintro B5 E5 _ hB5 hE5 ⟨b5, c5, rfl, l5, w5⟩
 simp (disch := omega) only [wt, seval, reduceCtorEq, Nat.reduceEqDiff, lay_own, spl_own, range_5, range_16, fld_int1]
 refine .inr ⟨[0, 2, 3, 5, 7, 8, 10, 12, 14, 15, 17, 18, 20, 21, 22, 24, 26, 28, 29, 30, 31, 32, 1, 4, 6, 9, 11, 13, 16, 19, 23, 25, 27, 33, 34], [0, 22, 1, 2, 23, 3, 24, 4, 5, 25, 6, 26, 7, 27, 8, 9, 28, 10, 11, 29, 12, 13, 14, 30, 15, 31, 16, 32, 17, 18, 19, 20, 21, 33, 34], by kernel_rfl, tmps_by (by kernel_rfl), ?_⟩
 simp only [permL, renm, List.map_cons, List.map_nil, List.getD_cons_zero, List.getD_cons_succ]
 simp (disch := omega) only [wt, seval, reduceCtorEq, Nat.reduceEqDiff, lay_own, spl_own, range_5, range_16, fld_int1]
 refine callx_by (m6) (by rfl) (by simp) (by first | rfl | assumption | (simp (disch := omega) only [wt, seval, reduceCtorEq, Nat.reduceEqDiff, lay_own, spl_own, range_5, range_16, fld_int1]; done) | ((repeat (replace hF := hF.2)); exact hF)) ?_
 rintro B6 E6 _ hB6 hE6 ⟨b6, c6, rfl, l6, w6⟩
 simp (disch := omega) only [wt, seval, reduceCtorEq, Nat.reduceEqDiff, lay_own, spl_own, range_5, range_16, fld_int1]
 refine callx_by (m7) (by rfl) (by simp) (by first | rfl | assumption | (simp (disch := omega) only [wt, seval, reduceCtorEq, Nat.reduceEqDiff, lay_own, spl_own, range_5, range_16, fld_int1]; done) | ((repeat (replace hF := hF.2)); exact hF)) ?_
 rintro B7 E7 _ hB7 hE7 ⟨b7, c7, rfl, l7, w7⟩
 simp (disch := omega) only [wt, seval, reduceCtorEq, Nat.reduceEqDiff, lay_own, spl_own, range_5, range_16, fld_int1]
 refine callx_by (m8) (by rfl) (by simp) (by first | rfl | assumption | (simp (disch := omega) only [wt, seval, reduceCtorEq, Nat.reduceEqDiff, lay_own, spl_own, range_5, range_16, fld_int1]; done) | ((repeat (replace hF := hF.2)); exact hF)) ?_
 rintro B8 E8 _ hB8 hE8 ⟨b8, c8, rfl, l8, w8⟩
 simp (disch := omega) only [wt, seval, reduceCtorEq, Nat.reduceEqDiff, lay_own, spl_own, range_5, range_16, fld_int1]
 refine callx_by (m9) (by rfl) (by simp) (by first | rfl | assumption | (simp (disch := omega) only [wt, seval, reduceCtorEq, Nat.reduceEqDiff, lay_own, spl_own, range_5, range_16, fld_int1]; done) | ((repeat (replace hF := hF.2)); exact hF)) ?_
 rintro B9 E9 _ hB9 hE9 ⟨b9, c9, rfl, l9, w9⟩
 simp (disch := omega) only [wt, seval, reduceCtorEq, Nat.reduceEqDiff, lay_own, spl_own, range_5, range_16, fld_int1]
 refine callx_by (m10) (by rfl) (by simp) (by first | rfl | assumption | (simp (disch := omega) only [wt, seval, reduceCtorEq, Nat.reduceEqDiff, lay_own, spl_own, range_5, range_16, fld_int1]; done) | ((repeat (replace hF := hF.2)); exact hF)) ?_
 rintro B10 E10 _ hB10 hE10 ⟨b10, c10, rfl, l10, w10⟩
 simp (disch := omega) only [wt, seval, reduceCtorEq, Nat.reduceEqDiff, lay_own, spl_own, range_5, range_16, fld_int1]
 refine callx_by (m11) (by rfl) (by simp) (by first | rfl | assumption | (simp (disch := omega) only [wt, seval, reduceCtorEq, Nat.reduceEqDiff, lay_own, spl_own, range_5, range_16, fld_int1]; done) | ((repeat (replace hF := hF.2)); exact hF)) ?_
 rintro B11 E11 _ hB11 hE11 ⟨b11, c11, rfl, l11, w11⟩
 simp (disch := omega) only [wt, seval, reduceCtorEq, Nat.reduceEqDiff, lay_own, spl_own, range_5, range_16, fld_int1]
 refine callx_by (m12) (by rfl) (by simp) (by first | rfl | assumption | (simp (disch := omega) only [wt, seval, reduceCtorEq, Nat.reduceEqDiff, lay_own, spl_own, range_5, range_16, fld_int1]; done) | ((repeat (replace hF := hF.2)); exact hF)) ?_
 rintro B12 E12 _ hB12 hE12 ⟨b12, c12, rfl, l12, w12⟩
 simp (disch := omega) only [wt, seval, reduceCtorEq, Nat.reduceEqDiff, lay_own, spl_own, range_5, range_16, fld_int1]
 refine callx_by (m13) (by rfl) (by simp) (by first | rfl | assumption | (simp (disch := omega) only [wt, seval, reduceCtorEq, Nat.reduceEqDiff, lay_own, spl_own, range_5, range_16, fld_int1]; done) | ((repeat (replace hF := hF.2)); exact hF)) ?_
 rintro B13 E13 _ hB13 hE13 ⟨b13, c13, rfl, l13, w13⟩
 simp (disch := omega) only [wt, seval, reduceCtorEq, Nat.reduceEqDiff, lay_own, spl_own, range_5, range_16, fld_int1]
 refine callx_by (m14) (by rfl) (by simp) (by first | rfl | assumption | (simp (disch := omega) only [wt, seval, reduceCtorEq, Nat.reduceEqDiff, lay_own, spl_own, range_5, range_16, fld_int1]; done) | ((repeat (replace hF := hF.2)); exact hF)) ?_
 rintro B14 E14 _ hB14 hE14 ⟨b14, c14, rfl, l14, w14⟩
 simp (disch := omega) only [wt, seval, reduceCtorEq, Nat.reduceEqDiff, lay_own, spl_own, range_5, range_16, fld_int1]
 refine callx_by (m15) (by rfl) (by simp) (by first | rfl | assumption | (simp (disch := omega) only [wt, seval, reduceCtorEq, Nat.reduceEqDiff, lay_own, spl_own, range_5, range_16, fld_int1]; done) | ((repeat (replace hF := hF.2)); exact hF)) ?_
 rintro B15 E15 _ hB15 hE15 ⟨b15, c15, rfl, l15, w15⟩
 simp (disch := omega) only [wt, seval, reduceCtorEq, Nat.reduceEqDiff, lay_own, spl_own, range_5, range_16, fld_int1]
 refine callx_by (m16) (by rfl) (by simp) (by first | rfl | assumption | (simp (disch := omega) only [wt, seval, reduceCtorEq, Nat.reduceEqDiff, lay_own, spl_own, range_5, range_16, fld_int1]; done) | ((repeat (replace hF := hF.2)); exact hF)) ?_
 rintro B16 E16 _ hB16 hE16 ⟨b16, c16, rfl, l16, w16⟩
 simp (disch := omega) only [wt, seval, reduceCtorEq, Nat.reduceEqDiff, lay_own, spl_own, range_5, range_16, fld_int1]
 first | exact log_by (by kernel_rfl) | refine ⟨log_by (by kernel_rfl), ?_⟩
 refine callx_by (n1) (by rfl) (by simp) (by first | rfl | assumption | (simp (disch := omega) only [wt, seval, reduceCtorEq, Nat.reduceEqDiff, lay_own, spl_own, range_5, range_16, fld_int1]; done) | ((repeat (replace hF := hF.2)); exact hF)) ?_
 rintro B17 E17 _ hB17 hE17 ⟨d1, rfl, v1⟩
 simp (disch := omega) only [wt, seval, reduceCtorEq, Nat.reduceEqDiff, lay_own, spl_own, range_5, range_16, fld_int1]
 refine callx_by (n2) (by rfl) (by simp) (by first | rfl | assumption | (simp (disch := omega) only [wt, seval, reduceCtorEq, Nat.reduceEqDiff, lay_own, spl_own, range_5, range_16, fld_int1]; done) | ((repeat (replace hF := hF.2)); exact hF)) ?_
 rintro B18 E18 _ hB18 hE18 ⟨d2, rfl, v2⟩
 simp (disch := omega) only [wt, seval, reduceCtorEq, Nat.reduceEqDiff, lay_own, spl_own, range_5, range_16, fld_int1]
 refine callx_by (n3) (by rfl) (by simp) (by first | rfl | assumption | (simp (disch := omega) only [wt, seval, reduceCtorEq, Nat.reduceEqDiff, lay_own, spl_own, range_5, range_16, fld_int1]; done) | ((repeat (replace hF := hF.2)); exact hF)) ?_
 rintro B19 E19 _ hB19 hE19 ⟨d3, rfl, v3⟩
 simp (disch := omega) only [wt, seval, reduceCtorEq, Nat.reduceEqDiff, lay_own, spl_own, range_5, range_16, fld_int1]
 refine callx_by (n4) (by rfl) (by simp) (by first | rfl | assumption | (simp (disch := omega) only [wt, seval, reduceCtorEq, Nat.reduceEqDiff, lay_own, spl_own, range_5, range_16, fld_int1]; done) | ((repeat (replace hF := hF.2)); exact hF)) ?_
 rintro B20 E20 _ hB20 hE20 ⟨d4, rfl, v4⟩
 simp (disch := omega) only [wt, seval, reduceCtorEq, Nat.reduceEqDiff, lay_own, spl_own, range_5, range_16, fld_int1]
 refine callx_by (n5) (by rfl) (by simp) (by first | rfl | assumption | (simp (disch := omega) only [wt, seval, reduceCtorEq, Nat.reduceEqDiff, lay_own, spl_own, range_5, range_16, fld_int1]; done) | ((repeat (replace hF := hF.2)); exact hF)) ?_
 rintro B21 E21 _ hB21 hE21 ⟨d5, rfl, v5⟩
 simp (disch := omega) only [wt, seval, reduceCtorEq, Nat.reduceEqDiff, lay_own, spl_own, range_5, range_16, fld_int1]
 refine opn_by 6 79 _ 23 1 ((plist [(b6, c6), (b7, c7), (b8, c8), (b9, c9), (b10, c10), (b11, c11), (b12, c12), (b13, c13), (b14, c14), (b15, c15), (b16, c16), (b1, c1), (b2, c2), (b3, c3), (b4, c4), (b5, c5)] (askp (pv a) (pv b) (iv k)))) (by first | rfl | assumption | simp (disch := omega) only [wt, seval, reduceCtorEq, Nat.reduceEqDiff, lay_own, spl_own, range_5, range_16, fld_int1]) (by first | rfl | assumption | simp (disch := omega) only [wt, seval, reduceCtorEq, Nat.reduceEqDiff, lay_own, spl_own, range_5, range_16, fld_int1]) (by first | rfl | assumption) ?_
 rintro o1 E22 hE22 ho1
 refine opn_by 7 94 _ 25 1 ((nlist [d1, d2, d3, d4, d5] (askn (pv a)))) (by first | rfl | assumption | simp (disch := omega) only [wt, seval, reduceCtorEq, Nat.reduceEqDiff, lay_own, spl_own, range_5, range_16, fld_int1]) (by first | rfl | assumption | simp (disch := omega) only [wt, seval, reduceCtorEq, Nat.reduceEqDiff, lay_own, spl_own, range_5, range_16, fld_int1]) (by first | rfl | assumption) ?_
 rintro o2 E23 hE23 ho2
 refine opn_done (B := E23) [.iv (.own o1 23 1 (plist [(b6, c6), (b7, c7), (b8, c8), (b9, c9), (b10, c10), (b11, c11), (b12, c12), (b13, c13), (b14, c14), (b15, c15), (b16, c16), (b1, c1), (b2, c2), (b3, c3), (b4, c4), (b5, c5)] (askp (pv a) (pv b) (iv k)))), .iv (.own o2 25 1 (nlist [d1, d2, d3, d4, d5] (askn (pv a))))] (by rfl) (by first | (simp (disch := omega) only [wt, seval, reduceCtorEq, Nat.reduceEqDiff, lay_own, spl_own, range_5, range_16, fld_int1]; done) | (simp (disch := omega) only [wt, seval, reduceCtorEq, Nat.reduceEqDiff, lay_own, spl_own, range_5, range_16, fld_int1]; exact ⟨rfl, rfl⟩) | trace_state) ?_
 intro E hE
 have pok : POk [(b6, c6), (b7, c7), (b8, c8), (b9, c9), (b10, c10), (b11, c11), (b12, c12), (b13, c13), (b14, c14), (b15, c15), (b16, c16), (b1, c1), (b2, c2), (b3, c3), (b4, c4), (b5, c5)] (askp (pv a) (pv b) (iv k)) := ⟨rfl, fun i c q hc hq => by
  match i, hc, hq with
  | 0, hc, hq | 1, hc, hq | 2, hc, hq | 3, hc, hq | 4, hc, hq | 5, hc, hq | 6, hc, hq | 7, hc, hq | 8, hc, hq | 9, hc, hq | 10, hc, hq | 11, hc, hq | 12, hc, hq | 13, hc, hq | 14, hc, hq | 15, hc, hq => (injection hc with hc; injection hq with hq; subst hc hq; assumption)
  | i + 16, hc, hq => simp at hc⟩
 refine ⟨o1, o2, _, _, rfl, pok, rfl, ?_⟩
 ·have x1 := (((w1.append w2 (by omega) (by omega) (by omega)).append w3 (by omega) (by omega) (by omega)).append w4 (by omega) (by omega) (by omega)).append w5 (by omega) (by omega) (by omega)
  have x2 := ((((w6.append w7 (by omega) (by omega) (by omega)).append w8 (by omega) (by omega) (by omega)).append w9 (by omega) (by omega) (by omega)).append w10 (by omega) (by omega) (by omega)).append w11 (by omega) (by omega) (by omega)
  have x3 := (((x2.append w12 (by omega) (by omega) (by omega)).append w13 (by omega) (by omega) (by omega)).append w14 (by omega) (by omega) (by omega)).append w15 (by omega) (by omega) (by omega)
  have x4 := x3.append w16 (by omega) (by omega) (by omega)
  have y1 := (((v1.append v2 (by omega) (by omega) (by omega)).append v3 (by omega) (by omega) (by omega)).append v4 (by omega) (by omega) (by omega)).append v5 (by omega) (by omega) (by omega)
  have z := (x1.append x4 (by omega) (by omega) (by omega)).append y1 (by omega) (by omega) (by omega)
  have zz : Nw B E21 ([(b6, c6), (b7, c7), (b8, c8), (b9, c9), (b10, c10), (b11, c11), (b12, c12), (b13, c13), (b14, c14), (b15, c15), (b16, c16), (b1, c1), (b2, c2), (b3, c3), (b4, c4), (b5, c5)].flatMap pid ++ [d1, d2, d3, d4, d5].flatMap oid) := by
   refine ((z.mono (by omega) (by omega)).perm (List.Perm.append_right _ List.perm_append_comm)).perm (List.Perm.of_eq ?_)
   simp only [List.flatMap_cons, List.flatMap_nil, pid, List.append_nil, List.append_assoc]
  have z2 := nwput (b := o1) hE22 (fun g cap e => by
   have h := ho1.2 g cap e
   have i1 := h.2.2.2.1 83 _ rfl
   have i2 := h.2.2.2.1 86 _ rfl
   have i3 := h.2.2.2.1 89 _ rfl
   have i4 := h.2.2.2.1 91 _ rfl
   have i5 := h.2.2.2.1 93 _ rfl
   rw [ids_fnat] at i1 i2 i3 i4 i5
   have h3 := h.2.2.1
   rw [ids_plist pok] at h3
   refine ⟨h.1, h.2.1, fun hm => ?_⟩
   rcases List.mem_append.1 hm with hm | hm
   ·exact h3 hm
   ·simp only [List.flatMap_cons, List.flatMap_nil, List.append_nil, List.mem_append] at hm
    rcases hm with hm | hm | hm | hm | hm
    ·exact i1 hm
    ·exact i2 hm
    ·exact i3 hm
    ·exact i4 hm
    ·exact i5 hm) zz
  have z3 := nwput (b := o2) hE23 (fun g cap e => by
   have h := ho2.2 g cap e
   have i1 := h.2.2.2.1 6 _ rfl
   rw [ids_own0, ids_plist pok] at i1
   have h3 := h.2.2.1
   rw [ids_nlist rfl] at h3
   refine ⟨h.1, h.2.1, fun hm => ?_⟩
   rcases List.mem_append.1 hm with hm | hm
   ·exact i1 (List.mem_append.2 (.inl hm))
   ·rcases List.mem_append.1 hm with hm | hm
    ·exact i1 (List.mem_append.2 (.inr hm))
    ·exact h3 hm) z2
  exact z3.mono (Nat.le_refl _) hE
end Go.Proofs.YtdokaihemcnkmaaGreat

namespace Go.Proofs.YtdokaihemcnkmaaGreat
open Go Go.Proofs Go.AL
set_option linter.unusedSimpArgs false
set_option linter.unusedVariables false
set_option linter.defProp false
def marks : List Nat := [60928, 60929, 60930, 60931, 60932, 60933]
theorem lims_snoc1 (l : List Nat) (x : Nat) : lims l ++ [[.int .u64 (x : Int)]] = lims (l ++ [x]) := by simp [lims]
theorem marks_take {i : Nat} (h : i < 6) : marks.take (i + 1) = marks.take i ++ [60928 + i] := by
 match i, h with
 | 0, _ | 1, _ | 2, _ | 3, _ | 4, _ | 5, _ => rfl
theorem limbsx_ok (l : List Nat) (hl : l.length ≤ 2 ^ 40) : ACX Tryz.prog 92 [cl l] (RNat (l ++ marks)) := by
 refine ACX.by_walk zi0 (rs := [.tmp 2]) ords Tryz.func92 (by rfl) (by rfl) (by rfl) (by rfl) (by rfl) (ne_nat _) (fun B => ?_)
 simp (disch := omega) only [wt, seval, reduceCtorEq, Nat.reduceEqDiff, lay_own, spl_own, fld_int1]
 refine aloop_by (fun f H => ∃ (i st : Nat), i ≤ 6 ∧ f 4 = .iv (.int .i64 i) ∧ f 3 = .hs 5 st ∧ H 5 = .blk false st 144 1 (lims (l ++ marks.take i)) ∧ H 999 = .mrk B) (fun f H => (6 - intAt f 4).toNat) ?_ ?_
 ·refine ⟨0, 2, by omega, ?_⟩
  simp (disch := omega) only [wt, seval, reduceCtorEq, Nat.reduceEqDiff, lay_own, spl_own, fld_int1, List.take_zero, List.append_nil]
 rintro f H ⟨i, st, hi, hF⟩
 rw [intAt_of hF.1]
 simp (disch := omega) only [wt, seval, reduceCtorEq, Nat.reduceEqDiff, lay_own, spl_own, fld_int1, hF]
 refine if_by (fun hlt => ?_) (fun hlt => ?_)
 ·have e : IntKind.u64.wrap (60928 + (i : Int)) = ((60928 + i : Nat) : Int) := by rw [wrap_u64 (by omega)]; omega
  simp (disch := omega) only [wt, seval, reduceCtorEq, Nat.reduceEqDiff, lay_own, spl_own, fld_int1, hF, e]
  have e3 : lims (l ++ marks.take i) ++ [[.int .u64 (((60928 + i : Nat)) : Int)]] = lims (l ++ marks.take (i + 1)) := by rw [lims_snoc1, marks_take (by omega), List.append_assoc]
  have e4 : (marks.take i).length ≤ 6 := by rw [List.length_take]; simp [marks]; omega
  simp (disch := omega) only [wt, seval, reduceCtorEq, Nat.reduceEqDiff, lay_own, spl_own, fld_int1, hF, e, e3]
  exact ⟨⟨i + 1, st + 1, by omega, rfl, rfl, by rw [marks_take (by omega), List.append_assoc]⟩, by omega⟩
 ·simp (disch := omega) only [wt, seval, reduceCtorEq, Nat.reduceEqDiff, lay_own, spl_own, fld_int1, hF]
  have e : marks.take i = marks := List.take_of_length_le (by simp [marks]; omega)
  obtain ⟨h4, h3, hH, h9⟩ := hF
  rw [e] at hH
  refine opn_by 2 5 _ 144 1 ((lims (l ++ marks))) (by first | rfl | assumption | simp (disch := omega) only [wt, seval, reduceCtorEq, Nat.reduceEqDiff, lay_own, spl_own, fld_int1]) (by first | rfl | assumption | simp (disch := omega) only [wt, seval, reduceCtorEq, Nat.reduceEqDiff, lay_own, spl_own, fld_int1]) (by first | rfl | assumption) ?_
  rintro b E hE hb
  refine opn_done [.iv (fnat b (l ++ marks))] (by first | rfl | assumption) (by first | (simp (disch := omega) only [wt, seval, reduceCtorEq, Nat.reduceEqDiff, lay_own, spl_own, fld_int1]; done) | (simp (disch := omega) only [wt, seval, reduceCtorEq, Nat.reduceEqDiff, lay_own, spl_own, fld_int1]; rfl) | rfl) ?_
  intro E hE
  exact ⟨b, rfl, Nw.oid fun g cap e => by have := hb.2 g cap e; omega⟩
@[reducible] def zR : Zi := ⟨some (144, 1), (· == 3), (· == 53), .no⟩
theorem zstR : @Zi.st zR = .no := rfl
theorem zbxR (e : Nat) : @Zi.bx zR e = (e == 3) := rfl
theorem zbsR (e : Nat) : @Zi.bs zR e = (e == 53) := rfl
theorem zslR : @zsl zR = .own none 144 1 [] := rfl
def gint (b : OB) (c : RI) : List IV := [.bool c.1, fnat b c.2]
def gws (bs : List OB) (p : List RI) : List (List IV) := List.zipWith gint bs p
def iws (bs : List OB) (p : List RI) : List (List IV) := List.zipWith (fun b c => [fnat b (c.2 ++ marks)]) bs p
def spares : List RI := [(true, [70]), (true, [71]), (true, [72]), (true, [73]), (true, [74]), (true, [75])]
def RRoom (p : List RI) (B E : Nat) (res : List CV) : Prop := ∃ bo bi bs cs,
 res = [.agg [.own bo 27 2 (gws bs p), .own bo 27 2 (gws (bs ++ cs) (p ++ spares)), .own bi (if p = [] then 0 else 25) (if p = [] then 0 else 1) (iws bs p)]] ∧ bs.length = p.length ∧ cs.length = 6 ∧ Nw B E (oid bo ++ oid bi ++ ids bs ++ ids cs)
theorem gws_len {bs : List OB} {p : List RI} (h : bs.length = p.length) : (gws bs p).length = p.length := by simp [gws, h]
theorem iws_len {bs : List OB} {p : List RI} (h : bs.length = p.length) : (iws bs p).length = p.length := by simp [iws, h]
theorem gws_snoc {bs : List OB} {p : List RI} (h : bs.length = p.length) (b : OB) (c : RI) : gws bs p ++ [gint b c] = gws (bs ++ [b]) (p ++ [c]) := by
 rw [gws, gws, List.zipWith_append h]; rfl
theorem iws_snoc {bs : List OB} {p : List RI} (h : bs.length = p.length) (b : OB) (c : RI) : iws bs p ++ [[fnat b (c.2 ++ marks)]] = iws (bs ++ [b]) (p ++ [c]) := by
 rw [iws, iws, List.zipWith_append h]; rfl
theorem gws_two (bs : List OB) (p : List RI) : (∀ r ∈ gws bs p, r.length = 2) ↔ True := ⟨fun _ => trivial, fun _ r hr => by
 obtain ⟨i, hi⟩ := List.getElem?_of_mem hr
 rw [gws, List.getElem?_zipWith] at hi
 split at hi
 ·injection hi with hi; rw [← hi]; rfl
 ·cases hi⟩
theorem iws_one (bs : List OB) (p : List RI) : (∀ r ∈ iws bs p, r.length = 1) ↔ True := ⟨fun _ => trivial, fun _ r hr => by
 obtain ⟨i, hi⟩ := List.getElem?_of_mem hr
 rw [iws, List.getElem?_zipWith] at hi
 split at hi
 ·injection hi with hi; rw [← hi]; rfl
 ·cases hi⟩
theorem ne_room (p : List RI) (B : Nat) : ∃ E res, B ≤ E ∧ RRoom p B E res := ⟨B, _, Nat.le_refl _, none, none, List.replicate p.length none, List.replicate 6 none, rfl, by simp, by simp, by rw [ids_nones, ids_nones]; exact .nil _ _⟩
theorem lay_gint (x y : IV) (a : Bool) (o : OB) (e sz : Nat) (l : List (List IV)) : lay (fun i => [(0, 1), (1, 1)][i]?) [x, y] ([0, 1].zip [[.bool a], [.own o e sz l]]) = some (True, [.bool a, .own o e sz l]) := by
 simp [lay, splice]
theorem take_getD (p : List RI) {i : Nat} (h : i < p.length) : p.take (i + 1) = p.take i ++ [p.getD i (false, [])] := by
 rw [List.take_add_one, List.getElem?_eq_getElem h, List.getD_eq_getElem?_getD, List.getElem?_eq_getElem h]; rfl
theorem spares_take {j : Nat} (h : j < 6) : spares.take (j + 1) = spares.take j ++ [(true, [70 + j])] := by
 match j, h with
 | 0, _ | 1, _ | 2, _ | 3, _ | 4, _ | 5, _ => rfl
theorem spares_all : spares.take 6 = spares := rfl
theorem gws_take {bs : List OB} {p : List RI} (h : bs.length = p.length) (cs : List OB) (q : List RI) : (gws (bs ++ cs) (p ++ q)).take p.length = gws bs p := by
 rw [gws, gws, List.zipWith_append h, List.take_left' (by simp [h])]
theorem ids_gws {bs : List OB} : ∀ {p : List RI}, bs.length = p.length → idsRows (gws bs p) = ids bs := by
 induction bs with
 | nil => intro p h; simp [gws, ids, idsRows]
 | cons b bs ih =>
  intro p h
  cases p with
  | nil => simp at h
  | cons n q =>
   have := ih (p := q) (by simpa using h)
   simp only [gws, ids, gint, List.zipWith_cons_cons, idsRows, List.flatMap_cons, idsRow, IV.ids, List.nil_append, List.append_nil, ids_lims] at this ⊢
   rw [this]
   cases b <;> rfl
theorem ids_iws {bs : List OB} : ∀ {p : List RI}, bs.length = p.length → idsRows (iws bs p) = ids bs := by
 induction bs with
 | nil => intro p h; simp [iws, ids, idsRows]
 | cons b bs ih =>
  intro p h
  cases p with
  | nil => simp at h
  | cons n q =>
   have := ih (p := q) (by simpa using h)
   simp only [iws, ids, List.zipWith_cons_cons, idsRows, List.flatMap_cons, idsRow, IV.ids, List.nil_append, List.append_nil, ids_lims] at this ⊢
   rw [this]
   cases b <;> rfl
theorem ids_own (b : OB) (e sz : Nat) (rows : List (List IV)) : (IV.own b e sz rows).ids = oid b ++ idsRows rows := by
 cases b <;> simp [IV.ids, oid]
theorem Nw.perm' {B E : Nat} {l m : List Nat} (h : Nw B E l) (p : l.Perm m) : Nw B E m := ⟨p.nodup_iff.1 h.1, fun g hg => h.2 g (p.mem_iff.2 hg)⟩
theorem nw_put {B E E' : Nat} {b : OB} {l : List Nat} (hE : E ≤ E') (h : ∀ g cap, b = some (g, cap) → B ≤ g ∧ g < E' ∧ g ∉ l) (hl : Nw B E l) : Nw B E' (oid b ++ l) := by
 cases b with
 | none => exact hl.mono (Nat.le_refl _) hE
 | some g =>
  have := h g.1 g.2 rfl
  exact (hl.mono (Nat.le_refl _) hE).cons this.2.2 this.1 this.2.1
theorem take_app1 (l m : List Nat) : (l ++ m).take l.length = l := by simp
def wxR := And.intro @zstR (And.intro @zbxR (And.intro @zbsR (And.intro @zslR (And.intro @lay_own (And.intro @spl_own (And.intro @fld_int1 (And.intro @lay_gint (And.intro @take_app1 (And.intro @gws_two (@iws_one))))))))))
end Go.Proofs.YtdokaihemcnkmaaGreat

namespace Go.Proofs.YtdokaihemcnkmaaGreat
open Go Go.Proofs Go.AL
set_option linter.unusedSimpArgs false
set_option linter.unusedVariables false
set_option maxRecDepth 4000 in
theorem room_ok (p : List RI) (h : RP 1000 (2 ^ 40) p) : ACX Tryz.prog 10 [cw p] (RRoom p) := by
 refine ACX.by_walko zR 4 (rs := [.cell 2 35]) ords Tryz.func10 (by rfl) (by rfl) (by rfl) (by rfl) (by rfl) (ne_room _) (fun B => ?_)
 have hl := h.1
 simp (disch := omega) only [wt, seval, reduceCtorEq, Nat.reduceEqDiff, List.take_succ_cons, List.take_zero, List.set_cons_succ, List.set_cons_zero, List.getD_cons_succ, List.getD_cons_zero, Nat.reduceBEq, wxR]
 refine aloop_by (fun f H => ∃ (i E : Nat), i ≤ p.length ∧ B ≤ E ∧ f 4 = .iv (.int .i64 i) ∧ f 0 = .iv (.sl (raws p)) ∧ f 3 = .hp 3 1 0 0 ∧ f 2 = .hp 2 1 0 0 ∧ H 2 = .blk false 1 35 3 [[.own none 144 1 [], .own none 144 1 [], .own none 144 1 []]] ∧ H 999 = .mrk E ∧
  ((i = 0 ∧ H 3 = .nst 1 35 [.nils, .nils, .nils]) ∨ (0 < i ∧ ∃ (s1 s2 : Nat) (bs : List OB), bs.length = i ∧ Nw B E (ids bs) ∧ H 3 = .nst 1 35 [.nils, .hs 42 s1, .hs 23 s2] ∧ H 42 = .blk false s1 27 2 (gws bs (p.take i)) ∧ H 23 = .blk false s2 25 1 (iws bs (p.take i))))) (fun f H => (p.length - intAt f 4).toNat) ?_ ?_
 ·refine ⟨0, B, by omega, Nat.le_refl _, ?_⟩
  simp (disch := omega) only [wt, seval, reduceCtorEq, Nat.reduceEqDiff, List.take_succ_cons, List.take_zero, List.set_cons_succ, List.set_cons_zero, List.getD_cons_succ, List.getD_cons_zero, Nat.reduceBEq, wxR]
  exact .inl trivial
 rintro f H ⟨i, E, hi, hBE, hF⟩
 rw [intAt_of hF.1]
 obtain ⟨h4, h0, h3, h2, hH2, h9, hF⟩ := hF
 simp (disch := omega) only [wt, seval, reduceCtorEq, Nat.reduceEqDiff, List.take_succ_cons, List.take_zero, List.set_cons_succ, List.set_cons_zero, List.getD_cons_succ, List.getD_cons_zero, Nat.reduceBEq, wxR, h4, h0, h3, h2, hH2, h9]
 refine if_by (fun hlt => ?_) (fun hlt => ?_)
 ·simp (disch := omega) only [wt, seval, reduceCtorEq, Nat.reduceEqDiff, List.take_succ_cons, List.take_zero, List.set_cons_succ, List.set_cons_zero, List.getD_cons_succ, List.getD_cons_zero, Nat.reduceBEq, wxR, h4, h0, h3, h2, hH2, h9]
  refine callx_by ((limbsx_ok (p.getD i (false, [])).2 (h.get i).1)) (by first | rfl | (simp only [tocvs, tocv, toboxes, tobox, updH_at, Nat.reduceEqDiff, ↓reduceIte, h4, h0, h3, h2, hH2, h9]; rfl)) (by simp) (by first | rfl | assumption | (simp (disch := omega) only [wt, seval, reduceCtorEq, Nat.reduceEqDiff, List.take_succ_cons, List.take_zero, List.set_cons_succ, List.set_cons_zero, List.getD_cons_succ, List.getD_cons_zero, Nat.reduceBEq, wxR, h4, h0, h3, h2, hH2, h9]; done) | ((repeat (replace hF := hF.2)); exact hF)) ?_
  rintro B' E' _ hB hE ⟨b, rfl, hb⟩
  simp (disch := omega) only [wt, seval, reduceCtorEq, Nat.reduceEqDiff, List.take_succ_cons, List.take_zero, List.set_cons_succ, List.set_cons_zero, List.getD_cons_succ, List.getD_cons_zero, Nat.reduceBEq, wxR, h4, h0, h3, h2, hH2, h9]
  rcases hF with ⟨hi0, hH3⟩ | ⟨hi0, s1, s2, bs, hbl, hnw, hH3, hH42, hH23⟩
  ·subst hi0
   simp (disch := omega) only [wt, seval, reduceCtorEq, Nat.reduceEqDiff, List.take_succ_cons, List.take_zero, List.set_cons_succ, List.set_cons_zero, List.getD_cons_succ, List.getD_cons_zero, Nat.reduceBEq, wxR, h4, h0, h3, h2, hH2, h9, hH3]
   refine .inl ⟨tmps_by (by kernel_rfl), ?_⟩
   first | exact log_by (by kernel_rfl) | refine ⟨log_by (by kernel_rfl), ?_⟩
   refine ⟨⟨1, E', by omega, by omega, rfl, rfl, .inr ⟨by omega, _, _, [b], rfl, ?_, rfl, ?_, ?_⟩⟩, by omega⟩
   ·rw [show ids [b] = oid b by simp [ids]]; exact hb.mono (by omega) (Nat.le_refl _)
   ·rw [take_getD p (by omega)]; rfl
   ·rw [take_getD p (by omega)]; rfl
  ·have tl : (p.take i).length = i := by rw [List.length_take]; omega
   have gl : (gws bs (p.take i)).length = i := by rw [gws_len (by omega), tl]
   have il : (iws bs (p.take i)).length = i := by rw [iws_len (by omega), tl]
   simp (disch := omega) only [wt, seval, reduceCtorEq, Nat.reduceEqDiff, List.take_succ_cons, List.take_zero, List.set_cons_succ, List.set_cons_zero, List.getD_cons_succ, List.getD_cons_zero, Nat.reduceBEq, wxR, h4, h0, h3, h2, hH2, h9, hH3, hH42, hH23, gl, il]
   refine .inl ⟨tmps_by (by kernel_rfl), ?_⟩
   first | exact log_by (by kernel_rfl) | refine ⟨log_by (by kernel_rfl), ?_⟩
   refine ⟨⟨i + 1, E', by omega, by omega, rfl, rfl, .inr ⟨by omega, _, _, bs ++ [b], by simp [hbl], ?_, rfl, ?_, ?_⟩⟩, by omega⟩
   ·rw [ids_snoc]; exact hnw.append hb (by omega) hB (by omega)
   ·rw [take_getD p (by omega), ← gws_snoc (by omega)]; rfl
   ·rw [take_getD p (by omega), ← iws_snoc (by omega)]
 ·simp (disch := omega) only [wt, seval, reduceCtorEq, Nat.reduceEqDiff, List.take_succ_cons, List.take_zero, List.set_cons_succ, List.set_cons_zero, List.getD_cons_succ, List.getD_cons_zero, Nat.reduceBEq, wxR, h4, h0, h3, h2, hH2, h9]
  rcases hF with ⟨hi0, hH3⟩ | ⟨hi0, s1, s2, bs, hbl, hnw, hH3, hH42, hH23⟩
  ·have hp : p = [] := by rw [← List.length_eq_zero_iff]; omega
   subst hp
   refine aloop_by (fun f H => ∃ (j E2 : Nat), j ≤ 6 ∧ E ≤ E2 ∧ f 6 = .iv (.int .i64 j) ∧ f 0 = .iv (.sl (raws [])) ∧ f 3 = .hp 3 1 0 0 ∧ f 2 = .hp 2 1 0 0 ∧ H 2 = .blk false 1 35 3 [[.own none 144 1 [], .own none 144 1 [], .own none 144 1 []]] ∧ H 999 = .mrk E2 ∧
    ((j = 0 ∧ H 3 = .nst 1 35 [.nils, .nils, .nils]) ∨ ∃ (st : Nat) (cs : List OB), 0 < j ∧ cs.length = j ∧ Nw E E2 (ids cs) ∧ H 3 = .nst 1 35 [.nils, .hs 56 st, .nils] ∧ H 56 = .blk false st 27 2 (gws cs (spares.take j)))) (fun f H => (6 - intAt f 6).toNat) ?_ ?_
   ·refine ⟨0, E, by omega, Nat.le_refl _, ?_⟩
    simp (disch := omega) only [wt, seval, reduceCtorEq, Nat.reduceEqDiff, List.take_succ_cons, List.take_zero, List.set_cons_succ, List.set_cons_zero, List.getD_cons_succ, List.getD_cons_zero, Nat.reduceBEq, wxR, h4, h0, h3, h2, hH2, h9, hH3]
    exact .inl trivial
   clear h4 h0 h3 h2 hH2 h9 hH3
   rintro f H ⟨j, E2, hj, hE2, h6, h0, h3, h2, hH2, h9, hF⟩
   rw [intAt_of h6]
   simp (disch := omega) only [wt, seval, reduceCtorEq, Nat.reduceEqDiff, List.take_succ_cons, List.take_zero, List.set_cons_succ, List.set_cons_zero, List.getD_cons_succ, List.getD_cons_zero, Nat.reduceBEq, wxR, h6, h0, h3, h2, hH2, h9]
   refine if_by (fun hlt => ?_) (fun hlt => ?_)
   ·have e : IntKind.u64.wrap (70 + (j : Int)) = ((70 + j : Nat) : Int) := by rw [wrap_u64 (by omega)]; omega
    rcases hF with ⟨hj0, hH3⟩ | ⟨st, cs, hj0, hcl, hcn, hH3, hH56⟩
    ·subst hj0
     simp (disch := omega) only [wt, seval, reduceCtorEq, Nat.reduceEqDiff, List.take_succ_cons, List.take_zero, List.set_cons_succ, List.set_cons_zero, List.getD_cons_succ, List.getD_cons_zero, Nat.reduceBEq, wxR, h6, h0, h3, h2, hH2, h9, hH3, e]
     refine buildx_by (e := 144) (by rfl) (by rfl) (by simp (disch := omega) only [tis, List.length_cons, List.length_nil, List.map_cons, List.map_nil]; exact ⟨⟨trivial, trivial⟩, trivial, trivial, by decide, by simp, rfl⟩) h9 ?_
     intro B' E' b hB hE hbn hb
     simp (disch := omega) only [wt, seval, reduceCtorEq, Nat.reduceEqDiff, List.take_succ_cons, List.take_zero, List.set_cons_succ, List.set_cons_zero, List.getD_cons_succ, List.getD_cons_zero, Nat.reduceBEq, wxR, h6, h0, h3, h2, hH2, h9, hH3, e]
     refine ⟨1, E', by omega, by omega, rfl, rfl, .inr ⟨_, [b], by omega, rfl, ?_, rfl, rfl⟩⟩
     rw [show ids [b] = oid b by simp [ids]]; exact Nw.oid fun g cap e => by have := hb g cap e; omega
    ·have tl : (spares.take j).length = j := by rw [List.length_take]; simp [spares]; omega
     have gl : (gws cs (spares.take j)).length = j := by rw [gws_len (by omega), tl]
     simp (disch := omega) only [wt, seval, reduceCtorEq, Nat.reduceEqDiff, List.take_succ_cons, List.take_zero, List.set_cons_succ, List.set_cons_zero, List.getD_cons_succ, List.getD_cons_zero, Nat.reduceBEq, wxR, h6, h0, h3, h2, hH2, h9, hH3, hH56, e]
     refine buildx_by (e := 144) (by rfl) (by rfl) (by simp (disch := omega) only [tis, List.length_cons, List.length_nil, List.map_cons, List.map_nil]; exact ⟨⟨trivial, trivial⟩, trivial, trivial, by decide, by simp, rfl⟩) h9 ?_
     intro B' E' b hB hE hbn hb
     simp (disch := omega) only [wt, seval, reduceCtorEq, Nat.reduceEqDiff, List.take_succ_cons, List.take_zero, List.set_cons_succ, List.set_cons_zero, List.getD_cons_succ, List.getD_cons_zero, Nat.reduceBEq, wxR, h6, h0, h3, h2, hH2, h9, hH3, hH56, e, gl]
     refine ⟨⟨j + 1, E', by omega, by omega, rfl, rfl, .inr ⟨st + 1, cs ++ [b], by omega, by simp [hcl], ?_, rfl, ?_⟩⟩, by omega⟩
     ·rw [ids_snoc]; exact hcn.append (Nw.oid fun g cap e => by have := hb g cap e; omega) (by omega) hB (by omega)
     ·rw [spares_take (by omega), ← gws_snoc (by omega)]; rfl
   ·simp (disch := omega) only [wt, seval, reduceCtorEq, Nat.reduceEqDiff, List.take_succ_cons, List.take_zero, List.set_cons_succ, List.set_cons_zero, List.getD_cons_succ, List.getD_cons_zero, Nat.reduceBEq, wxR, h6, h0, h3, h2, hH2, h9]
    obtain rfl : j = 6 := by omega
    rcases hF with ⟨hj0, hH3⟩ | ⟨st, cs, hj0, hcl, hcn, hH3, hH56⟩
    ·omega
    rw [spares_all] at hH56
    have gl : (gws cs spares).length = 6 := by rw [gws_len (by simp [hcl, spares])]; simp [spares]
    refine Opn.row 3 1 35 1 56 st 27 2 _ _ E2 hH3 (by rfl) hH56 h9 ?_
    intro bo E3 hE3 hbo hbr
    refine Opn.done ?_
    simp (disch := omega) only [wt, seval, reduceCtorEq, Nat.reduceEqDiff, List.take_succ_cons, List.take_zero, List.set_cons_succ, List.set_cons_zero, List.getD_cons_succ, List.getD_cons_zero, Nat.reduceBEq, wxR, h6, h0, h3, h2, hH2, h9, hH3, hH56, gl]
    refine opn_done (B := E3) [.agg [.own bo 27 2 (gws [] []), .own bo 27 2 (gws ([] ++ cs) ([] ++ spares)), .own none 0 0 []]] (by rfl) (by simp (disch := omega) only [wt, seval, reduceCtorEq, Nat.reduceEqDiff, List.take_succ_cons, List.take_zero, List.set_cons_succ, List.set_cons_zero, List.getD_cons_succ, List.getD_cons_zero, Nat.reduceBEq, wxR, h6, h0, h3, h2, hH2, h9, hH3, hH56]; rfl) ?_
    intro E hE
    refine ⟨bo, none, [], cs, rfl, rfl, hcl, ?_⟩
    have n2 : Nw B E3 (oid bo ++ ids cs) := nw_put hE3 (fun g cap e => by
     have := hbo.2 g cap e; rw [ids_gws (by simp [hcl, spares])] at this; exact ⟨this.1, this.2.1, this.2.2.1⟩) (hcn.mono hBE (Nat.le_refl _))
    refine (n2.mono (Nat.le_refl _) hE).perm' ?_
    simp [ids, oid]
  ·obtain rfl : i = p.length := by omega
   rw [List.take_length] at hH42 hH23
   refine aloop_by (fun f H => ∃ (j st E2 : Nat) (cs : List OB), j ≤ 6 ∧ cs.length = j ∧ E ≤ E2 ∧ Nw E E2 (ids cs) ∧ f 6 = .iv (.int .i64 j) ∧ f 0 = .iv (.sl (raws p)) ∧ f 3 = .hp 3 1 0 0 ∧ f 2 = .hp 2 1 0 0 ∧ H 2 = .blk false 1 35 3 [[.own none 144 1 [], .own none 144 1 [], .own none 144 1 []]] ∧ H 999 = .mrk E2 ∧
    H 3 = .nst 1 35 [.nils, .hs 42 st, .hs 23 s2] ∧ H 42 = .blk false st 27 2 (gws (bs ++ cs) (p ++ spares.take j)) ∧ H 23 = .blk false s2 25 1 (iws bs p)) (fun f H => (6 - intAt f 6).toNat) ?_ ?_
   ·refine ⟨0, s1, E, [], by omega, rfl, Nat.le_refl _, .nil _ _, ?_⟩
    simp (disch := omega) only [wt, seval, reduceCtorEq, Nat.reduceEqDiff, List.take_succ_cons, List.take_zero, List.set_cons_succ, List.set_cons_zero, List.getD_cons_succ, List.getD_cons_zero, Nat.reduceBEq, wxR, h4, h0, h3, h2, hH2, h9, hH3, hH42, hH23, List.append_nil, List.take_zero]
   clear h4 h0 h3 h2 hH2 h9 hH3 hH42 hH23
   rintro f H ⟨j, st, E2, cs, hj, hcl, hE2, hcn, h6, h0, h3, h2, hH2, h9, hH3, hH42, hH23⟩
   rw [intAt_of h6]
   simp (disch := omega) only [wt, seval, reduceCtorEq, Nat.reduceEqDiff, List.take_succ_cons, List.take_zero, List.set_cons_succ, List.set_cons_zero, List.getD_cons_succ, List.getD_cons_zero, Nat.reduceBEq, wxR, h6, h0, h3, h2, hH2, h9, hH3, hH42, hH23]
   refine if_by (fun hlt => ?_) (fun hlt => ?_)
   ·have e : IntKind.u64.wrap (70 + (j : Int)) = ((70 + j : Nat) : Int) := by rw [wrap_u64 (by omega)]; omega
    simp (disch := omega) only [wt, seval, reduceCtorEq, Nat.reduceEqDiff, List.take_succ_cons, List.take_zero, List.set_cons_succ, List.set_cons_zero, List.getD_cons_succ, List.getD_cons_zero, Nat.reduceBEq, wxR, h6, h0, h3, h2, hH2, h9, hH3, hH42, hH23, e]
    have tl : (p ++ spares.take j).length = p.length + j := by rw [List.length_append, List.length_take]; simp [spares]; omega
    have gl : (gws (bs ++ cs) (p ++ spares.take j)).length = p.length + j := by rw [gws_len (by rw [tl, List.length_append]; omega), tl]
    refine buildx_by (e := 144) (by rfl) (by rfl) (by simp (disch := omega) only [tis, List.length_cons, List.length_nil, List.map_cons, List.map_nil]; exact ⟨⟨trivial, trivial⟩, trivial, trivial, by decide, by simp, rfl⟩) h9 ?_
    intro B' E' b hB hE hbn hb
    simp (disch := omega) only [wt, seval, reduceCtorEq, Nat.reduceEqDiff, List.take_succ_cons, List.take_zero, List.set_cons_succ, List.set_cons_zero, List.getD_cons_succ, List.getD_cons_zero, Nat.reduceBEq, wxR, h6, h0, h3, h2, hH2, h9, hH3, hH42, hH23, e, gl]
    refine ⟨⟨j + 1, st + 1, E', cs ++ [b], by omega, by simp [hcl], by omega, ?_, rfl, rfl, rfl, ?_⟩, by omega⟩
    ·rw [ids_snoc]; exact hcn.append (Nw.oid fun g cap e => by have := hb g cap e; omega) (by omega) hB (by omega)
    ·rw [spares_take (by omega), ← List.append_assoc, ← List.append_assoc, ← gws_snoc (by rw [tl, List.length_append]; omega)]; rfl
   ·simp (disch := omega) only [wt, seval, reduceCtorEq, Nat.reduceEqDiff, List.take_succ_cons, List.take_zero, List.set_cons_succ, List.set_cons_zero, List.getD_cons_succ, List.getD_cons_zero, Nat.reduceBEq, wxR, h6, h0, h3, h2, hH2, h9, hH3, hH42, hH23]
    obtain rfl : j = 6 := by omega
    rw [spares_all] at hH42
    have gl : (gws (bs ++ cs) (p ++ spares)).length = p.length + 6 := by rw [gws_len (by simp [hbl, hcl, spares])]; simp [spares]
    refine Opn.row 3 1 35 1 42 st 27 2 _ _ E2 hH3 (by rfl) hH42 h9 ?_
    intro bo E3 hE3 hbo hbr
    refine Opn.row 3 1 35 2 23 s2 25 1 _ (iws bs p) E3 (by rfl) (by rfl) (by simp (disch := omega) only [wt, seval, reduceCtorEq, Nat.reduceEqDiff, List.take_succ_cons, List.take_zero, List.set_cons_succ, List.set_cons_zero, List.getD_cons_succ, List.getD_cons_zero, Nat.reduceBEq, wxR, hH23]) (by rfl) ?_
    intro bi E4 hE4 hbi hbr2
    refine Opn.done ?_
    have gt := gws_take hbl cs spares
    simp (disch := omega) only [wt, seval, reduceCtorEq, Nat.reduceEqDiff, List.take_succ_cons, List.take_zero, List.set_cons_succ, List.set_cons_zero, List.getD_cons_succ, List.getD_cons_zero, Nat.reduceBEq, wxR, h6, h0, h3, h2, hH2, h9, hH3, hH42, hH23, gl, gt]
    refine opn_done (B := E4) [.agg [.own bo 27 2 (gws bs p), .own bo 27 2 (gws (bs ++ cs) (p ++ spares)), .own bi (if p = [] then 0 else 25) (if p = [] then 0 else 1) (iws bs p)]] (by rfl) (by rw [if_neg (by intro h; subst h; simp at hi0), if_neg (by intro h; subst h; simp at hi0)]; simp (disch := omega) only [wt, seval, reduceCtorEq, Nat.reduceEqDiff, List.take_succ_cons, List.take_zero, List.set_cons_succ, List.set_cons_zero, List.getD_cons_succ, List.getD_cons_zero, Nat.reduceBEq, wxR, h6, h0, h3, h2, hH2, h9, hH3, hH42, hH23]; rfl) ?_
    intro E hE
    refine ⟨bo, bi, bs, cs, rfl, hbl, hcl, ?_⟩
    have n1 : Nw B E2 (ids (bs ++ cs)) := by rw [ids_app]; exact hnw.append hcn (by omega) (Nat.le_refl _) hE2
    have n2 : Nw B E3 (oid bo ++ ids (bs ++ cs)) := nw_put hE3 (fun g cap e => by
     have := hbo.2 g cap e; rw [ids_gws (by simp [hbl, hcl, spares])] at this; exact ⟨this.1, this.2.1, this.2.2.1⟩) n1
    have n3 : Nw B E4 (oid bi ++ (oid bo ++ ids (bs ++ cs))) := nw_put hE4 (fun g cap e => by
     have h1 := hbi.2 g cap e
     have h2 := hbr2 g cap e (.own bo 27 2 (gws (bs ++ cs) (p ++ spares))) (by simp)
     rw [ids_own, ids_gws (by simp [hbl, hcl, spares])] at h2
     exact ⟨h1.1, h1.2.1, h2⟩) n2
    refine (n3.mono (Nat.le_refl _) hE).perm' ?_
    rw [ids_app, List.append_assoc, List.append_assoc, ← List.append_assoc, ← List.append_assoc (oid bo)]
    exact List.Perm.append_right _ List.perm_append_comm
end Go.Proofs.YtdokaihemcnkmaaGreat

namespace Go.Proofs.YtdokaihemcnkmaaGreat
open Go Go.Proofs Go.AL
set_option linter.unusedSimpArgs false
set_option linter.unusedVariables false
set_option linter.defProp false
def capN (k : Nat) : Nat := if k < 1000 then k else 1000
def capL (lg : Log) : Log := lg.map fun p => (p.1.map capN, p.2.map capN)
theorem capL_nil : capL [] = [] := rfl
theorem capL_cons (x y : List Nat) (lg : Log) : capL ((x, y) :: lg) = (x.map capN, y.map capN) :: capL lg := rfl
theorem capN_lt {k : Nat} (h : k < 1000) : capN k = k := if_pos h
theorem capN_ge {k : Nat} (h : 1000 ≤ k) : capN k = 1000 := if_neg (by omega)
theorem clash_cap {x y : List Nat × List Nat} (h : clash (x.1.map capN, x.2.map capN) (y.1.map capN, y.2.map capN) = false) : clash x y = false := by
 have key : ∀ (a b c : List Nat), ((a.map capN).any fun k => (b.map capN).contains k || (c.map capN).contains k) = false → (a.any fun k => b.contains k || c.contains k) = false := fun a b c h => by
  rw [List.any_eq_false] at h ⊢
  intro k hk hc
  have := h (capN k) (List.mem_map.2 ⟨k, hk, rfl⟩)
  simp only [Bool.or_eq_true, List.contains_iff_mem] at hc this
  exact this (hc.elim (fun h => .inl (List.mem_map.2 ⟨k, h, rfl⟩)) fun h => .inr (List.mem_map.2 ⟨k, h, rfl⟩))
 simp only [clash, Bool.or_eq_false_iff] at h ⊢
 exact ⟨key _ _ _ h.1, key _ _ _ h.2⟩
theorem cap_contains (l : List Nat) {m : Nat} (h : m < 1000) : (l.map capN).contains m = l.contains m := by
 rw [Bool.eq_iff_iff, List.contains_iff_mem, List.contains_iff_mem, List.mem_map]
 constructor
 ·rintro ⟨k, hk, e⟩
  unfold capN at e
  split at e
  ·subst e; exact hk
  ·omega
 ·intro hm
  exact ⟨m, hm, capN_lt h⟩
theorem logN_by {ops : Array Oper} {lg lg' : Log} (e : capL lg = lg') (h : logOk ops lg'.reverse = true) : LogOk ops lg := by
 subst e
 unfold LogOk
 unfold logOk pairsOk at h ⊢
 have hg : ∀ i, ((capL lg).reverse).getD i ([], []) = (((lg.reverse).getD i ([], [])).1.map capN, ((lg.reverse).getD i ([], [])).2.map capN) := fun i => by
  rw [capL, ← List.map_reverse, List.getD, List.getD, List.getElem?_map]
  cases lg.reverse[i]? <;> rfl
 simp only [Bool.and_eq_true] at h ⊢
 obtain ⟨⟨h1, h2⟩, h3⟩ := h
 refine ⟨⟨?_, ?_⟩, ?_⟩
 ·rw [List.all_eq_true] at h1 ⊢
  intro j hj
  have h := h1 j hj
  rw [List.all_eq_true] at h ⊢
  intro i hi
  have h := h i hi
  simp only [Bool.or_eq_true] at h ⊢
  refine h.elim (fun h => .inl ?_) .inr
  rw [hg, hg] at h
  rw [Bool.not_eq_true'] at h ⊢
  exact clash_cap h
 ·rw [List.all_eq_true] at h2 ⊢
  intro j hj
  have h := h2 j hj
  rw [List.all_eq_true] at h ⊢
  intro i hi
  have h := h i hi
  simp only [Bool.or_eq_true] at h ⊢
  refine h.elim (fun h => .inl ?_) .inr
  rw [hg] at h
  rwa [cap_contains _ (by omega)] at h
 ·rw [List.all_eq_true] at h3 ⊢
  intro e he
  have := h3 (e.1.map capN, e.2.map capN) (by rw [capL, ← List.map_reverse]; exact List.mem_map.2 ⟨e, he, rfl⟩)
  rwa [cap_contains _ (by omega)] at this
def hws (k n : Nat) : List AV := (List.range n).map fun i => .hw (k + i) 1
theorem hws_len (k n : Nat) : (hws k n).length = n := by simp [hws]
theorem hws_get (k n i : Nat) (x : AV) (h : i < n) : (hws k n).getD i x = .hw (k + i) 1 := by simp [hws, List.getD, h]
theorem lay_neg (c : RI) (b : Bool) : lay (fun i => [(0, 1), (1, 1)][i]?) (prow c) ([0].zip [[.bool b]]) = some (True, prow (b, c.2)) := by
 simp [lay, splice, prow]
theorem ite_far {α : Type} {a b : Nat} (h : a ≠ b) (x y : α) : (if a = b then x else y) = y := if_neg h
abbrev Rws := List (List IV)
def wxB := And.intro @lay_neg (And.intro @ite_far (And.intro @lay_own (And.intro @spl_own (And.intro @fld_int1 (And.intro @hws_get (@hws_len))))))
def Bk (ns ps : List Rws) (H : AL.Hp) : Prop :=
 H 900000 = .nst 1 49 [.hs 900002 1, .hs 900001 1, .nils, .nils, .nils, .nils] ∧ H 900002 = .nst 1 25 (hws 1000000 ns.length) ∧ H 900001 = .nst 1 23 (hws 2000000 ps.length) ∧
 (∀ i q, ns[i]? = some q → H (1000000 + i) = .blk false 1 144 1 q) ∧ ∀ i q, ps[i]? = some q → H (2000000 + i) = .blk false 1 27 2 q
def BkS (ns ps : List Rws) : Prop := ns.length ≤ 100000 ∧ ps.length ≤ 1000 ∧ (∀ q ∈ ns, q.length ≤ 100000 ∧ ∀ r ∈ q, r.length = 1) ∧ ∀ q ∈ ps, q.length ≤ 1000 ∧ ∀ r ∈ q, r.length = 2
theorem Bk.upd {ns ps : List Rws} {H : AL.Hp} (h : Bk ns ps H) {k : Nat} (hk : k < 900000) (c : HC) : Bk ns ps (updH H k c) := by
 refine ⟨?_, ?_, ?_, fun i q hi => ?_, fun i q hi => ?_⟩
 ·rw [updH_ne _ _ (by omega)]; exact h.1
 ·rw [updH_ne _ _ (by omega)]; exact h.2.1
 ·rw [updH_ne _ _ (by omega)]; exact h.2.2.1
 ·rw [updH_ne _ _ (by omega)]; exact h.2.2.2.1 i q hi
 ·rw [updH_ne _ _ (by omega)]; exact h.2.2.2.2 i q hi
theorem Bk.putP {ns ps : List Rws} {H : AL.Hp} (h : Bk ns ps H) (hs : BkS ns ps) {i : Nat} (hi : i < ps.length) (q : Rws) : Bk ns (ps.set i q) (updH H (2000000 + i) (.blk false 1 27 2 q)) := by
 have := hs.1; have := hs.2.1
 refine ⟨?_, ?_, ?_, fun j r hj => ?_, fun j r hj => ?_⟩
 ·rw [updH_ne _ _ (by omega)]; exact h.1
 ·rw [updH_ne _ _ (by omega)]; exact h.2.1
 ·rw [updH_ne _ _ (by omega), List.length_set]; exact h.2.2.1
 ·have := (List.getElem?_eq_some_iff.1 hj).1
  rw [updH_ne _ _ (by omega)]; exact h.2.2.2.1 j r hj
 ·by_cases e : j = i
  ·subst e
   rw [List.getElem?_set_self hi] at hj
   injection hj with hj; subst hj
   exact updH_same _ _ _
  ·rw [List.getElem?_set_ne (fun h => e h.symm)] at hj
   rw [updH_ne _ _ (by omega)]; exact h.2.2.2.2 j r hj
theorem Bk.putN {ns ps : List Rws} {H : AL.Hp} (h : Bk ns ps H) (hs : BkS ns ps) {i : Nat} (hi : i < ns.length) (q : Rws) : Bk (ns.set i q) ps (updH H (1000000 + i) (.blk false 1 144 1 q)) := by
 have := hs.1; have := hs.2.1
 refine ⟨?_, ?_, ?_, fun j r hj => ?_, fun j r hj => ?_⟩
 ·rw [updH_ne _ _ (by omega)]; exact h.1
 ·rw [updH_ne _ _ (by omega), List.length_set]; exact h.2.1
 ·rw [updH_ne _ _ (by omega)]; exact h.2.2.1
 ·by_cases e : j = i
  ·subst e
   rw [List.getElem?_set_self hi] at hj
   injection hj with hj; subst hj
   exact updH_same _ _ _
  ·rw [List.getElem?_set_ne (fun h => e h.symm)] at hj
   rw [updH_ne _ _ (by omega)]; exact h.2.2.2.1 j r hj
 ·rw [updH_ne _ _ (by omega)]; exact h.2.2.2.2 j r hj
theorem set_same {ps : List Rws} {i : Nat} {q : Rws} (h : ps[i]? = some q) : ps.set i q = ps := by
 apply List.ext_getElem?
 intro j
 by_cases e : i = j
 ·subst e
  rw [List.getElem?_set_self (List.getElem?_eq_some_iff.1 h).1, h]
 ·rw [List.getElem?_set_ne e]
theorem Bk.sameP {ns ps : List Rws} {H : AL.Hp} (h : Bk ns ps H) (hs : BkS ns ps) {i : Nat} {q : Rws} (hi : ps[i]? = some q) : Bk ns ps (updH H (2000000 + i) (.blk false 1 27 2 q)) := by
 have := h.putP hs (List.getElem?_eq_some_iff.1 hi).1 q
 rwa [set_same hi] at this
theorem Bk.sameN {ns ps : List Rws} {H : AL.Hp} (h : Bk ns ps H) (hs : BkS ns ps) {i : Nat} {q : Rws} (hi : ns[i]? = some q) : Bk ns ps (updH H (1000000 + i) (.blk false 1 144 1 q)) := by
 have := h.putN hs (List.getElem?_eq_some_iff.1 hi).1 q
 rwa [set_same hi] at this
end Go.Proofs.YtdokaihemcnkmaaGreat

namespace Go.Proofs.YtdokaihemcnkmaaGreat
open Go Go.Proofs Go.AL
set_option linter.unusedSimpArgs false
set_option linter.unusedVariables false
theorem mark_ok (i j : Nat) (h : i ≤ 2 ^ 20) (h' : j ≤ 2 ^ 20) : AC Tryz.prog 219 [ci i, ci j] none [ci (1000 * (i + 1) + j)] := by
 refine AC.by_walk (rs := [.tmp 4]) ords Tryz.func219 (by rfl) (by rfl) (by rfl) (by rfl) (by rfl) ?_
 simp (disch := omega) only [wt, seval, reduceCtorEq, Nat.reduceEqDiff, Nat.add_zero, List.getD_cons_succ, List.getD_cons_zero, wxB]
theorem bgrow_ok (ns ps : List Rws) (hs : BkS ns ps) (H : AL.Hp) (hB : Bk ns ps H) : ACI Tryz.prog 220 [.hp 900000 1 0 0] H (fun _ H' => Bk ns ps H') := by
 refine ACI.by_walk zi0 (rs := []) ords Tryz.func220 (by rfl) (by rfl) (by rfl) (by rfl) (by rfl) (by rfl) ⟨.dead, H, hB⟩ ?_
 have hs2 := hs.2.1
 simp (disch := omega) only [wt, seval, reduceCtorEq, Nat.reduceEqDiff, Nat.add_zero, List.getD_cons_succ, List.getD_cons_zero, wxB]
 refine aloop_by (fun f H => ∃ (i : Nat), i ≤ ps.length ∧ f 2 = .iv (.int .i64 i) ∧ f 0 = .hp 900000 1 0 0 ∧ Bk ns ps H) (fun f H => (ps.length - intAt f 2).toNat) ?_ ?_
 ·refine ⟨0, by omega, ?_⟩
  simp (disch := omega) only [wt, seval, reduceCtorEq, Nat.reduceEqDiff, Nat.add_zero, List.getD_cons_succ, List.getD_cons_zero, wxB]
  exact hB
 clear hB
 rintro f H ⟨i, hi, h2, h0, hB⟩
 rw [intAt_of h2]
 obtain ⟨hK, hN, hL, hP⟩ := id hB
 simp (disch := omega) only [wt, seval, reduceCtorEq, Nat.reduceEqDiff, Nat.add_zero, List.getD_cons_succ, List.getD_cons_zero, wxB, h2, h0, hK, hL]
 refine if_by (fun hlt => ?_) (fun hlt => ?_)
 ·obtain ⟨q, hpq⟩ : ∃ q, ps[i]? = some q := ⟨_, List.getElem?_eq_getElem (by omega)⟩
  have hPi := hP.2 i q hpq
  have hql := (hs.2.2.2 q (List.mem_of_getElem? hpq)).1
  simp (disch := omega) only [wt, seval, reduceCtorEq, Nat.reduceEqDiff, Nat.add_zero, List.getD_cons_succ, List.getD_cons_zero, wxB, h2, h0, hK, hL, hPi]
  exact ⟨⟨i + 1, by omega, rfl, ((hB.upd (by omega) _).sameP hs hpq).sameP hs hpq⟩, by omega⟩
 ·simp (disch := omega) only [wt, seval, reduceCtorEq, Nat.reduceEqDiff, Nat.add_zero, List.getD_cons_succ, List.getD_cons_zero, wxB, h2, h0, hK, hL]
  refine aloop_by (fun f H => f 3 = .iv (.int .i64 0) ∧ f 0 = .hp 900000 1 0 0 ∧ Bk ns ps H) (fun f H => 0) ?_ ?_
  ·simp (disch := omega) only [wt, seval, reduceCtorEq, Nat.reduceEqDiff, Nat.add_zero, List.getD_cons_succ, List.getD_cons_zero, wxB, h0]
   exact hB
  clear h2 h0 hB hK hN hL hP
  rintro f H ⟨h3, h0, hB⟩
  obtain ⟨hK, hN, hL, hP⟩ := id hB
  simp (disch := omega) only [wt, seval, reduceCtorEq, Nat.reduceEqDiff, Nat.add_zero, List.getD_cons_succ, List.getD_cons_zero, wxB, h3, h0, hK, hL]
  refine aloop_by (fun f H => f 4 = .iv (.int .i64 0) ∧ f 0 = .hp 900000 1 0 0 ∧ Bk ns ps H) (fun f H => 0) ?_ ?_
  ·simp (disch := omega) only [wt, seval, reduceCtorEq, Nat.reduceEqDiff, Nat.add_zero, List.getD_cons_succ, List.getD_cons_zero, wxB, h0]
   exact hB
  clear h3 h0 hB hK hN hL hP
  rintro f H ⟨h3, h0, hB⟩
  obtain ⟨hK, hN, hL, hP⟩ := id hB
  simp (disch := omega) only [wt, seval, reduceCtorEq, Nat.reduceEqDiff, Nat.add_zero, List.getD_cons_succ, List.getD_cons_zero, wxB, h3, h0, hK, hL]
  refine aloop_by (fun f H => f 5 = .iv (.int .i64 0) ∧ f 0 = .hp 900000 1 0 0 ∧ Bk ns ps H) (fun f H => 0) ?_ ?_
  ·simp (disch := omega) only [wt, seval, reduceCtorEq, Nat.reduceEqDiff, Nat.add_zero, List.getD_cons_succ, List.getD_cons_zero, wxB, h0]
   exact hB
  clear h3 h0 hB hK hN hL hP
  rintro f H ⟨h3, h0, hB⟩
  obtain ⟨hK, hN, hL, hP⟩ := id hB
  simp (disch := omega) only [wt, seval, reduceCtorEq, Nat.reduceEqDiff, Nat.add_zero, List.getD_cons_succ, List.getD_cons_zero, wxB, h3, h0, hK, hL]
  refine aloop_by (fun f H => f 6 = .iv (.int .i64 0) ∧ f 0 = .hp 900000 1 0 0 ∧ Bk ns ps H) (fun f H => 0) ?_ ?_
  ·simp (disch := omega) only [wt, seval, reduceCtorEq, Nat.reduceEqDiff, Nat.add_zero, List.getD_cons_succ, List.getD_cons_zero, wxB, h0]
   exact hB
  clear h3 h0 hB hK hN hL hP
  rintro f H ⟨h3, h0, hB⟩
  obtain ⟨hK, hN, hL, hP⟩ := id hB
  simp (disch := omega) only [wt, seval, reduceCtorEq, Nat.reduceEqDiff, Nat.add_zero, List.getD_cons_succ, List.getD_cons_zero, wxB, h3, h0, hK, hL]
  exact reti_none hB
end Go.Proofs.YtdokaihemcnkmaaGreat

namespace Go.Proofs.YtdokaihemcnkmaaGreat
open Go Go.Proofs Go.AL
set_option linter.unusedSimpArgs false
set_option linter.unusedVariables false
def mks (i n : Nat) : List RI := (List.range n).map fun j : Nat => canon (1000 * ((i : Int) + 1) + (j : Int))
theorem mks_len (i n : Nat) : (mks i n).length = n := by simp [mks]
theorem mks_one (i n j : Nat) (h : j < n) : ((raws (mks i n)).drop j).take 1 = raws [canon (1000 * ((i : Int) + 1) + (j : Int))] := by
 rw [List.drop_eq_getElem_cons (by simp [raws, mks_len, h])]
 simp [raws, mks]
theorem mks_succ (i j : Nat) : mks i (j + 1) = mks i j ++ [canon (1000 * ((i : Int) + 1) + (j : Int))] := by
 simp [mks, List.range_succ]
def BkF (ps : List Rws) (H : AL.Hp) : Prop :=
 H 900000 = .nst 1 49 [.hs 900002 1, .hs 900001 1, .nils, .nils, .nils, .nils] ∧ H 900001 = .nst 1 23 (hws 2000000 ps.length) ∧
 ∀ i q, ps[i]? = some q → ∃ fz, H (2000000 + i) = .blk fz 1 27 2 q
theorem Bk.f {ns ps : List Rws} {H : AL.Hp} (h : Bk ns ps H) : BkF ps H := ⟨h.1, h.2.2.1, fun i q hi => ⟨false, h.2.2.2.2 i q hi⟩⟩
theorem BkF.upd {ps : List Rws} {H : AL.Hp} (h : BkF ps H) {k : Nat} (hk : k < 900000) (c : HC) : BkF ps (updH H k c) := by
 refine ⟨?_, ?_, fun i q hi => ?_⟩
 ·rw [updH_ne _ _ (by omega)]; exact h.1
 ·rw [updH_ne _ _ (by omega)]; exact h.2.1
 ·rw [updH_ne _ _ (by omega)]; exact h.2.2 i q hi
theorem BkF.frz {ps : List Rws} {H : AL.Hp} (h : BkF ps H) {i : Nat} {q : Rws} (hi : ps[i]? = some q) (fz : Bool) : BkF ps (updH H (2000000 + i) (.blk fz 1 27 2 q)) := by
 refine ⟨?_, ?_, fun j r hj => ?_⟩
 ·rw [updH_ne _ _ (by omega)]; exact h.1
 ·rw [updH_ne _ _ (by omega)]; exact h.2.1
 ·by_cases e : j = i
  ·subst e; rw [hi] at hj; cases hj
   exact ⟨fz, updH_same _ _ _⟩
  ·rw [updH_ne _ _ (by omega)]; exact h.2.2 j r hj
set_option maxHeartbeats 1000000 in
theorem bread_ok (ps : List Rws) (hs : ps.length ≤ 1000 ∧ ∀ q ∈ ps, q.length ≤ 1000) (hm : ∀ i q, ps[i]? = some q → q = raws (mks i q.length)) (H : AL.Hp) (hB : BkF ps H) : ACI Tryz.prog 221 [.hp 900000 1 0 0] H (fun x _ => x = .iv (.bool true)) := by
 refine ACI.by_walk zi0 (rs := [.tmp 2]) ords Tryz.func221 (by rfl) (by rfl) (by rfl) (by rfl) (by rfl) (by rfl) ⟨_, H, rfl⟩ ?_
 have hs1 := hs.1
 simp (disch := omega) only [wt, seval, reduceCtorEq, Nat.reduceEqDiff, Nat.add_zero, List.getD_cons_succ, List.getD_cons_zero, wxB]
 refine aloop_by (fun f H => ∃ (i : Nat), i ≤ ps.length ∧ f 3 = .iv (.int .i64 i) ∧ f 0 = .hp 900000 1 0 0 ∧ BkF ps H) (fun f H => (ps.length - intAt f 3).toNat) ?_ ?_
 ·refine ⟨0, by omega, ?_⟩
  simp (disch := omega) only [wt, seval, reduceCtorEq, Nat.reduceEqDiff, Nat.add_zero, List.getD_cons_succ, List.getD_cons_zero, wxB]
  exact hB
 clear hB
 rintro f H ⟨i, hi, h3, h0, hB⟩
 rw [intAt_of h3]
 obtain ⟨hK, hL, hP⟩ := id hB
 simp (disch := omega) only [wt, seval, reduceCtorEq, Nat.reduceEqDiff, Nat.add_zero, List.getD_cons_succ, List.getD_cons_zero, wxB, h3, h0, hK, hL]
 refine if_by (fun hlt => ?_) (fun hlt => ?_)
 ·obtain ⟨q, hpq⟩ : ∃ q, ps[i]? = some q := ⟨_, List.getElem?_eq_getElem (by omega)⟩
  have hql := hs.2 q (List.mem_of_getElem? hpq)
  have hqm := hm i q hpq
  simp (disch := omega) only [wt, seval, reduceCtorEq, Nat.reduceEqDiff, Nat.add_zero, List.getD_cons_succ, List.getD_cons_zero, wxB, h3, h0, hK, hL]
  refine aloop_by (fun f H => ∃ (j : Nat), j ≤ q.length ∧ f 4 = .iv (.int .i64 j) ∧ f 3 = .iv (.int .i64 i) ∧ f 0 = .hp 900000 1 0 0 ∧ BkF ps H) (fun f H => (q.length - intAt f 4).toNat) ?_ ?_
  ·refine ⟨0, by omega, ?_⟩
   simp (disch := omega) only [wt, seval, reduceCtorEq, Nat.reduceEqDiff, Nat.add_zero, List.getD_cons_succ, List.getD_cons_zero, wxB, h3, h0]
   exact hB
  clear h3 h0 hB hK hL hP
  rintro f H ⟨j, hj, h4, h3, h0, hB⟩
  rw [intAt_of h4]
  obtain ⟨hK, hL, hP⟩ := id hB
  obtain ⟨fz, hPi⟩ := hP i q hpq
  simp (disch := omega) only [wt, seval, reduceCtorEq, Nat.reduceEqDiff, Nat.add_zero, List.getD_cons_succ, List.getD_cons_zero, wxB, h4, h3, h0, hK, hL, hPi]
  refine if_by (fun hlt2 => ?_) (fun hlt2 => ?_)
  ·simp (disch := omega) only [wt, seval, reduceCtorEq, Nat.reduceEqDiff, Nat.add_zero, List.getD_cons_succ, List.getD_cons_zero, wxB, h4, h3, h0, hK, hL, hPi]
   refine .inl ⟨tmps_by (by kernel_rfl), ?_⟩
   refine call_by ((mark_ok i j (by omega) (by omega))) (by first | rfl | (simp only [tocvs, tocv, toboxes, tobox, updH_at, Nat.reduceEqDiff, ↓reduceIte, h4, h3, h0, hK, hL, hPi]; rfl)) (by simp) ?_
   simp (disch := omega) only [wt, seval, reduceCtorEq, Nat.reduceEqDiff, Nat.add_zero, List.getD_cons_succ, List.getD_cons_zero, wxB, h4, h3, h0, hK, hL, hPi]
   refine call_by ((sZ_ok (1000 * ((i : Int) + 1) + (j : Int)) (by omega) (by omega))) (by first | rfl | (simp only [tocvs, tocv, toboxes, tobox, updH_at, Nat.reduceEqDiff, ↓reduceIte, h4, h3, h0, hK, hL, hPi]; rfl)) (by simp) ?_
   simp (disch := omega) only [wt, seval, reduceCtorEq, Nat.reduceEqDiff, Nat.add_zero, List.getD_cons_succ, List.getD_cons_zero, wxB, h4, h3, h0, hK, hL, hPi]
   have e1 : ((j : Int) + 1 - (j : Int)).toNat = 1 := by omega
   have hone : (q.drop j).take 1 = raws [canon (1000 * ((i : Int) + 1) + (j : Int))] := by rw [hqm]; exact mks_one _ _ _ (by omega)
   have hrp : RP (2 ^ 40) (2 ^ 43) [canon (1000 * ((i : Int) + 1) + (j : Int))] := RP.canon (q := [1000 * ((i : Int) + 1) + (j : Int)]) ⟨by simp, fun z hz => by
    simp only [List.mem_singleton] at hz; subst hz
    exact Nat.le_trans (zl_le.mpr (by simp only [W]; omega) : zl _ ≤ 1) (by omega)⟩
   refine call_flat (sform_ok _ _ hrp hrp) (by simp (disch := omega) only [tocvs, tocv, updH_at, Nat.reduceEqDiff, ↓reduceIte, ite_far, hPi, e1, hone]; rfl) (by simp; omega) (.inr (by simp [FlatRes, FlatCV, FlatI])) ?_
   simp (disch := omega) only [wt, seval, reduceCtorEq, Nat.reduceEqDiff, Nat.add_zero, List.getD_cons_succ, List.getD_cons_zero, wxB, h4, h3, h0, hK, hL, hPi]
   refine ⟨logN_by (by simp (disch := omega) only [capL_cons, capL_nil, List.map_cons, List.map_nil, List.cons_append, List.nil_append, List.append_nil, capN_lt, capN_ge]; rfl) (by kernel_rfl), ?_⟩
   exact ⟨⟨j + 1, by omega, rfl, hB.upd (by omega) _⟩, by omega⟩
  ·simp (disch := omega) only [wt, seval, reduceCtorEq, Nat.reduceEqDiff, Nat.add_zero, List.getD_cons_succ, List.getD_cons_zero, wxB, h4, h3, h0, hK, hL, hPi]
   exact ⟨⟨i + 1, by omega, rfl, hB⟩, by omega⟩
 ·simp (disch := omega) only [wt, seval, reduceCtorEq, Nat.reduceEqDiff, Nat.add_zero, List.getD_cons_succ, List.getD_cons_zero, wxB, h3, h0, hK, hL]
  refine aloop_by (fun f H => f 5 = .iv (.int .i64 0) ∧ f 0 = .hp 900000 1 0 0 ∧ BkF ps H) (fun f H => 0) ?_ ?_
  ·simp (disch := omega) only [wt, seval, reduceCtorEq, Nat.reduceEqDiff, Nat.add_zero, List.getD_cons_succ, List.getD_cons_zero, wxB, h0]
   exact hB
  clear h3 h0 hB hK hL hP
  rintro f H ⟨h3, h0, hB⟩
  obtain ⟨hK, hL, hP⟩ := id hB
  simp (disch := omega) only [wt, seval, reduceCtorEq, Nat.reduceEqDiff, Nat.add_zero, List.getD_cons_succ, List.getD_cons_zero, wxB, h3, h0, hK, hL]
  refine aloop_by (fun f H => f 7 = .iv (.int .i64 0) ∧ f 0 = .hp 900000 1 0 0 ∧ BkF ps H) (fun f H => 0) ?_ ?_
  ·simp (disch := omega) only [wt, seval, reduceCtorEq, Nat.reduceEqDiff, Nat.add_zero, List.getD_cons_succ, List.getD_cons_zero, wxB, h0]
   exact hB
  clear h3 h0 hB hK hL hP
  rintro f H ⟨h3, h0, hB⟩
  obtain ⟨hK, hL, hP⟩ := id hB
  simp (disch := omega) only [wt, seval, reduceCtorEq, Nat.reduceEqDiff, Nat.add_zero, List.getD_cons_succ, List.getD_cons_zero, wxB, h3, h0, hK, hL]
  refine aloop_by (fun f H => f 9 = .iv (.int .i64 0) ∧ f 0 = .hp 900000 1 0 0 ∧ BkF ps H) (fun f H => 0) ?_ ?_
  ·simp (disch := omega) only [wt, seval, reduceCtorEq, Nat.reduceEqDiff, Nat.add_zero, List.getD_cons_succ, List.getD_cons_zero, wxB, h0]
   exact hB
  clear h3 h0 hB hK hL hP
  rintro f H ⟨h3, h0, hB⟩
  obtain ⟨hK, hL, hP⟩ := id hB
  simp (disch := omega) only [wt, seval, reduceCtorEq, Nat.reduceEqDiff, Nat.add_zero, List.getD_cons_succ, List.getD_cons_zero, wxB, h3, h0, hK, hL]
  refine aloop_by (fun f H => f 11 = .iv (.int .i64 0) ∧ f 0 = .hp 900000 1 0 0 ∧ BkF ps H) (fun f H => 0) ?_ ?_
  ·simp (disch := omega) only [wt, seval, reduceCtorEq, Nat.reduceEqDiff, Nat.add_zero, List.getD_cons_succ, List.getD_cons_zero, wxB, h0]
   exact hB
  clear h3 h0 hB hK hL hP
  rintro f H ⟨h3, h0, hB⟩
  obtain ⟨hK, hL, hP⟩ := id hB
  simp (disch := omega) only [wt, seval, reduceCtorEq, Nat.reduceEqDiff, Nat.add_zero, List.getD_cons_succ, List.getD_cons_zero, wxB, h3, h0, hK, hL]
  exact reti_tmp (by simp (disch := omega) only [wt, seval, reduceCtorEq, Nat.reduceEqDiff, Nat.add_zero, List.getD_cons_succ, List.getD_cons_zero, wxB]) rfl
end Go.Proofs.YtdokaihemcnkmaaGreat

namespace Go.Proofs.YtdokaihemcnkmaaGreat
open Go Go.Proofs Go.AL
set_option linter.unusedSimpArgs false
set_option linter.unusedVariables false
theorem BkS.setP {ns ps : List Rws} (h : BkS ns ps) {i : Nat} {q : Rws} (hq : q.length ≤ 1000 ∧ ∀ r ∈ q, r.length = 2) : BkS ns (ps.set i q) := by
 refine ⟨h.1, by rw [List.length_set]; exact h.2.1, h.2.2.1, fun r hr => ?_⟩
 rcases List.mem_or_eq_of_mem_set hr with hr | rfl
 ·exact h.2.2.2 r hr
 ·exact hq
theorem spl_two (r : List IV) (c : RI) (h : r.length = 2) : splice r 0 (prow c) = prow c := by
 match r, h with
 | [x, y], _ => rfl
def Mk (i : Nat) (ps : List Rws) : Prop := ∀ k q, ps[k]? = some q → k < i → q = raws (mks k q.length)
set_option maxHeartbeats 1000000 in
theorem bouter_ok (ns ps : List Rws) (hs : BkS ns ps) (H : AL.Hp) (hB : Bk ns ps H) : ACI Tryz.prog 127 [.hp 900000 1 0 0] H (fun x _ => x = .iv (.bool true)) := by
 refine ACI.by_walk zi0 (rs := [.tmp 2]) ords Tryz.func127 (by rfl) (by rfl) (by rfl) (by rfl) (by rfl) (by rfl) ⟨_, H, rfl⟩ ?_
 have hs2 := hs.2.1
 simp (disch := omega) only [wt, seval, reduceCtorEq, Nat.reduceEqDiff, Nat.add_zero, List.getD_cons_succ, List.getD_cons_zero, wxB]
 refine aloop_by (fun f H => ∃ (i : Nat) (ps' : List Rws), i ≤ ps.length ∧ ps'.length = ps.length ∧ BkS ns ps' ∧ Mk i ps' ∧ f 3 = .iv (.int .i64 i) ∧ f 0 = .hp 900000 1 0 0 ∧ Bk ns ps' H) (fun f H => (ps.length - intAt f 3).toNat) ?_ ?_
 ·refine ⟨0, ps, by omega, rfl, hs, fun k q _ h => by omega, ?_⟩
  simp (disch := omega) only [wt, seval, reduceCtorEq, Nat.reduceEqDiff, Nat.add_zero, List.getD_cons_succ, List.getD_cons_zero, wxB]
  exact hB
 clear hB
 rintro f H ⟨i, ps1, hi, hl1, hs1, hm1, h3, h0, hB⟩
 rw [intAt_of h3]
 obtain ⟨hK, hN, hL, hP⟩ := id hB
 rw [hl1] at hL
 simp (disch := omega) only [wt, seval, reduceCtorEq, Nat.reduceEqDiff, Nat.add_zero, List.getD_cons_succ, List.getD_cons_zero, wxB, h3, h0, hK, hL]
 refine if_by (fun hlt => ?_) (fun hlt => ?_)
 ·obtain ⟨q, hpq⟩ : ∃ q, ps1[i]? = some q := ⟨_, List.getElem?_eq_getElem (by omega)⟩
  have hql := (hs1.2.2.2 q (List.mem_of_getElem? hpq)).1
  simp (disch := omega) only [wt, seval, reduceCtorEq, Nat.reduceEqDiff, Nat.add_zero, List.getD_cons_succ, List.getD_cons_zero, wxB, h3, h0, hK, hL]
  refine aloop_by (fun f H => ∃ (j : Nat) (ps' : List Rws) (q' : Rws), j ≤ q.length ∧ ps'.length = ps.length ∧ BkS ns ps' ∧ Mk i ps' ∧ ps'[i]? = some q' ∧ q'.length = q.length ∧ q'.take j = raws (mks i j) ∧ f 4 = .iv (.int .i64 j) ∧ f 3 = .iv (.int .i64 i) ∧ f 0 = .hp 900000 1 0 0 ∧ Bk ns ps' H) (fun f H => (q.length - intAt f 4).toNat) ?_ ?_
  ·refine ⟨0, ps1, q, by omega, hl1, hs1, hm1, hpq, rfl, rfl, ?_⟩
   simp (disch := omega) only [wt, seval, reduceCtorEq, Nat.reduceEqDiff, Nat.add_zero, List.getD_cons_succ, List.getD_cons_zero, wxB, h3, h0]
   exact hB
  clear h3 h0 hB hK hN hL hP
  rintro f H ⟨j, ps2, q2, hj, hl2, hs2', hm2, hpq2, hq2, ht2, h4, h3, h0, hB⟩
  rw [intAt_of h4]
  obtain ⟨hK, hN, hL, hP⟩ := id hB
  rw [hl2] at hL
  have hPi := hP.2 i q2 hpq2
  simp (disch := omega) only [wt, seval, reduceCtorEq, Nat.reduceEqDiff, Nat.add_zero, List.getD_cons_succ, List.getD_cons_zero, wxB, h4, h3, h0, hK, hL, hPi, hq2]
  refine if_by (fun hlt2 => ?_) (fun hlt2 => ?_)
  ·simp (disch := omega) only [wt, seval, reduceCtorEq, Nat.reduceEqDiff, Nat.add_zero, List.getD_cons_succ, List.getD_cons_zero, wxB, h4, h3, h0, hK, hL, hPi, hq2]
   refine .inl ⟨tmps_by (by kernel_rfl), ?_⟩
   refine call_by ((mark_ok i j (by omega) (by omega))) (by first | rfl | (simp only [tocvs, tocv, toboxes, tobox, updH_at, Nat.reduceEqDiff, ↓reduceIte, h4, h3, h0, hK, hL, hPi, hq2]; rfl)) (by simp) ?_
   simp (disch := omega) only [wt, seval, reduceCtorEq, Nat.reduceEqDiff, Nat.add_zero, List.getD_cons_succ, List.getD_cons_zero, wxB, h4, h3, h0, hK, hL, hPi, hq2]
   refine call_by ((sZ_ok (1000 * ((i : Int) + 1) + (j : Int)) (by omega) (by omega))) (by first | rfl | (simp only [tocvs, tocv, toboxes, tobox, updH_at, Nat.reduceEqDiff, ↓reduceIte, h4, h3, h0, hK, hL, hPi, hq2]; rfl)) (by simp) ?_
   simp (disch := omega) only [wt, seval, reduceCtorEq, Nat.reduceEqDiff, Nat.add_zero, List.getD_cons_succ, List.getD_cons_zero, wxB, h4, h3, h0, hK, hL, hPi, hq2]
   have hr2 := hs2'.2.2.2 q2 (List.mem_of_getElem? hpq2)
   have hrow : splice (q2.getD j []) 0 (prow (canon (1000 * ((i : Int) + 1) + (j : Int)))) = prow (canon (1000 * ((i : Int) + 1) + (j : Int))) := by
    have hj2 : j < q2.length := by omega
    have := hr2.2 (q2.getD j []) (by rw [List.getD_eq_getElem?_getD, List.getElem?_eq_getElem hj2]; exact List.getElem_mem hj2)
    exact spl_two _ _ this
   rw [hrow]
   refine ⟨logN_by (by simp (disch := omega) only [capL_cons, capL_nil, List.map_cons, List.map_nil, List.cons_append, List.nil_append, List.append_nil, capN_lt, capN_ge]; rfl) (by kernel_rfl), ?_⟩
   have hlp : i < ps2.length := by omega
   refine ⟨⟨j + 1, ps2.set i (q2.set j (prow (canon (1000 * ((i : Int) + 1) + (j : Int))))), _, by omega, by rw [List.length_set]; exact hl2, hs2'.setP ⟨by rw [List.length_set]; exact hr2.1, fun r hr => ?_⟩, fun k r hk hki => ?_, List.getElem?_set_self hlp, by rw [List.length_set]; exact hq2, ?_, rfl, hB.putP hs2' hlp _⟩, by omega⟩
   ·rcases List.mem_or_eq_of_mem_set hr with hr | rfl
    ·exact hr2.2 r hr
    ·rfl
   ·rw [List.getElem?_set_ne (by omega)] at hk
    exact hm2 k r hk hki
   ·rw [List.take_add_one, List.take_set_of_le (by omega), ht2, List.getElem?_set_self (by omega), mks_succ]
    simp [raws]
  ·simp (disch := omega) only [wt, seval, reduceCtorEq, Nat.reduceEqDiff, Nat.add_zero, List.getD_cons_succ, List.getD_cons_zero, wxB, h4, h3, h0, hK, hL, hPi, hq2]
   obtain rfl : j = q.length := by omega
   refine ⟨⟨i + 1, ps2, by omega, hl2, hs2', fun k r hk hki => ?_, rfl, hB⟩, by omega⟩
   by_cases e : k = i
   ·subst e
    rw [hpq2] at hk; cases hk
    rw [hq2, ← ht2, List.take_of_length_le (by omega)]
   ·exact hm2 k r hk (by omega)
 ·simp (disch := omega) only [wt, seval, reduceCtorEq, Nat.reduceEqDiff, Nat.add_zero, List.getD_cons_succ, List.getD_cons_zero, wxB, h3, h0, hK, hL]
  obtain rfl : i = ps.length := by omega
  refine aloop_by (fun f H => f 5 = .iv (.int .i64 0) ∧ f 0 = .hp 900000 1 0 0 ∧ Bk ns ps1 H) (fun f H => 0) ?_ ?_
  ·simp (disch := omega) only [wt, seval, reduceCtorEq, Nat.reduceEqDiff, Nat.add_zero, List.getD_cons_succ, List.getD_cons_zero, wxB, h0]
   exact hB
  clear h3 h0 hB hK hN hL hP
  rintro f H ⟨h3, h0, hB⟩
  obtain ⟨hK, hN, hL, hP⟩ := id hB
  simp (disch := omega) only [wt, seval, reduceCtorEq, Nat.reduceEqDiff, Nat.add_zero, List.getD_cons_succ, List.getD_cons_zero, wxB, h3, h0, hK, hL]
  refine aloop_by (fun f H => f 7 = .iv (.int .i64 0) ∧ f 0 = .hp 900000 1 0 0 ∧ Bk ns ps1 H) (fun f H => 0) ?_ ?_
  ·simp (disch := omega) only [wt, seval, reduceCtorEq, Nat.reduceEqDiff, Nat.add_zero, List.getD_cons_succ, List.getD_cons_zero, wxB, h0]
   exact hB
  clear h3 h0 hB hK hN hL hP
  rintro f H ⟨h3, h0, hB⟩
  obtain ⟨hK, hN, hL, hP⟩ := id hB
  simp (disch := omega) only [wt, seval, reduceCtorEq, Nat.reduceEqDiff, Nat.add_zero, List.getD_cons_succ, List.getD_cons_zero, wxB, h3, h0, hK, hL]
  refine aloop_by (fun f H => f 9 = .iv (.int .i64 0) ∧ f 0 = .hp 900000 1 0 0 ∧ Bk ns ps1 H) (fun f H => 0) ?_ ?_
  ·simp (disch := omega) only [wt, seval, reduceCtorEq, Nat.reduceEqDiff, Nat.add_zero, List.getD_cons_succ, List.getD_cons_zero, wxB, h0]
   exact hB
  clear h3 h0 hB hK hN hL hP
  rintro f H ⟨h3, h0, hB⟩
  obtain ⟨hK, hN, hL, hP⟩ := id hB
  simp (disch := omega) only [wt, seval, reduceCtorEq, Nat.reduceEqDiff, Nat.add_zero, List.getD_cons_succ, List.getD_cons_zero, wxB, h3, h0, hK, hL]
  refine aloop_by (fun f H => f 11 = .iv (.int .i64 0) ∧ f 0 = .hp 900000 1 0 0 ∧ Bk ns ps1 H) (fun f H => 0) ?_ ?_
  ·simp (disch := omega) only [wt, seval, reduceCtorEq, Nat.reduceEqDiff, Nat.add_zero, List.getD_cons_succ, List.getD_cons_zero, wxB, h0]
   exact hB
  clear h3 h0 hB hK hN hL hP
  rintro f H ⟨h3, h0, hB⟩
  obtain ⟨hK, hN, hL, hP⟩ := id hB
  simp (disch := omega) only [wt, seval, reduceCtorEq, Nat.reduceEqDiff, Nat.add_zero, List.getD_cons_succ, List.getD_cons_zero, wxB, h3, h0, hK, hL]
  refine calli_by (bgrow_ok ns ps1 hs1 H hB) ?_
  intro x H' hB'
  simp (disch := omega) only [wt, seval, reduceCtorEq, Nat.reduceEqDiff, Nat.add_zero, List.getD_cons_succ, List.getD_cons_zero, wxB, h3, h0]
  refine calli_by (bread_ok ps1 ⟨hs1.2.1, fun q hq => (hs1.2.2.2 q hq).1⟩ (fun k r hk => hm1 k r hk (by rw [← hl1]; exact (List.getElem?_eq_some_iff.1 hk).1)) H' hB'.f) ?_
  rintro x2 H2 rfl
  simp (disch := omega) only [wt, seval, reduceCtorEq, Nat.reduceEqDiff, Nat.add_zero, List.getD_cons_succ, List.getD_cons_zero, wxB, h3, h0]
  exact reti_tmp (by simp (disch := omega) only [wt, seval, reduceCtorEq, Nat.reduceEqDiff, Nat.add_zero, List.getD_cons_succ, List.getD_cons_zero, wxB]) rfl
end Go.Proofs.YtdokaihemcnkmaaGreat

namespace Go.Proofs.YtdokaihemcnkmaaGreat
open Go Go.Proofs Go.AL
set_option linter.unusedSimpArgs false
set_option linter.unusedVariables false
theorem BkS.setN {ns ps : List Rws} (h : BkS ns ps) {i : Nat} {q : Rws} (hq : q.length ≤ 100000 ∧ ∀ r ∈ q, r.length = 1) : BkS (ns.set i q) ps := by
 refine ⟨by rw [List.length_set]; exact h.1, h.2.1, fun r hr => ?_, h.2.2.2⟩
 rcases List.mem_or_eq_of_mem_set hr with hr | rfl
 ·exact h.2.2.1 r hr
 ·exact hq
def nks (i n : Nat) : List Nat := (List.range n).map fun j => 1000 * i + j
theorem nks_succ (i j : Nat) : nks i (j + 1) = nks i j ++ [1000 * i + j] := by simp [nks, List.range_succ]
theorem nks_get (i n j : Nat) (h : j < n) : (lims (nks i n)).getD j [] = [.int .u64 ((1000 * i + j : Nat) : Int)] := by
 simp [lims, nks, List.getD, h]
def Nk (i : Nat) (ns : List Rws) : Prop := ∀ k q, ns[k]? = some q → k < i → q = lims (nks k q.length)
theorem spl_one (r : List IV) (x : IV) (h : r.length = 1) : splice r 0 [x] = [x] := by
 match r, h with
 | [y], _ => rfl
set_option maxHeartbeats 2000000 in
theorem bapart_ok (ns ps : List Rws) (hs : BkS ns ps) (H : AL.Hp) (hB : Bk ns ps H) : ACI Tryz.prog 18 [.hp 900000 1 0 0] H (fun x _ => x = .iv (.bool true)) := by
 refine ACI.by_walk zi0 (rs := [.tmp 2]) ords Tryz.func18 (by rfl) (by rfl) (by rfl) (by rfl) (by rfl) (by rfl) ⟨_, H, rfl⟩ ?_
 have hs1 := hs.1
 simp (disch := omega) only [wt, seval, reduceCtorEq, Nat.reduceEqDiff, Nat.add_zero, List.getD_cons_succ, List.getD_cons_zero, wxB]
 refine aloop_by (fun f H => ∃ (i : Nat) (ns' : List Rws), i ≤ ns.length ∧ ns'.length = ns.length ∧ BkS ns' ps ∧ Nk i ns' ∧ f 3 = .iv (.int .i64 i) ∧ f 0 = .hp 900000 1 0 0 ∧ Bk ns' ps H) (fun f H => (ns.length - intAt f 3).toNat) ?_ ?_
 ·refine ⟨0, ns, by omega, rfl, hs, fun k q _ h => by omega, ?_⟩
  simp (disch := omega) only [wt, seval, reduceCtorEq, Nat.reduceEqDiff, Nat.add_zero, List.getD_cons_succ, List.getD_cons_zero, wxB]
  exact hB
 clear hB
 rintro f H ⟨i, ns1, hi, hl1, hb1, hm1, h3, h0, hB⟩
 rw [intAt_of h3]
 obtain ⟨hK, hN, hL, hP⟩ := id hB
 rw [hl1] at hN
 simp (disch := omega) only [wt, seval, reduceCtorEq, Nat.reduceEqDiff, Nat.add_zero, List.getD_cons_succ, List.getD_cons_zero, wxB, h3, h0, hK, hN]
 refine if_by (fun hlt => ?_) (fun hlt => ?_)
 ·obtain ⟨q, hpq⟩ : ∃ q, ns1[i]? = some q := ⟨_, List.getElem?_eq_getElem (by omega)⟩
  have hql := (hb1.2.2.1 q (List.mem_of_getElem? hpq)).1
  simp (disch := omega) only [wt, seval, reduceCtorEq, Nat.reduceEqDiff, Nat.add_zero, List.getD_cons_succ, List.getD_cons_zero, wxB, h3, h0, hK, hN]
  refine aloop_by (fun f H => ∃ (j : Nat) (ns' : List Rws) (q' : Rws), j ≤ q.length ∧ ns'.length = ns.length ∧ BkS ns' ps ∧ Nk i ns' ∧ ns'[i]? = some q' ∧ q'.length = q.length ∧ q'.take j = lims (nks i j) ∧ f 4 = .iv (.int .i64 j) ∧ f 3 = .iv (.int .i64 i) ∧ f 0 = .hp 900000 1 0 0 ∧ Bk ns' ps H) (fun f H => (q.length - intAt f 4).toNat) ?_ ?_
  ·refine ⟨0, ns1, q, by omega, hl1, hb1, hm1, hpq, rfl, rfl, ?_⟩
   simp (disch := omega) only [wt, seval, reduceCtorEq, Nat.reduceEqDiff, Nat.add_zero, List.getD_cons_succ, List.getD_cons_zero, wxB, h3, h0]
   exact hB
  clear h3 h0 hB hK hN hL hP
  rintro f H ⟨j, ns2, q2, hj, hl2, hb2, hm2, hpq2, hq2, ht2, h4, h3, h0, hB⟩
  rw [intAt_of h4]
  obtain ⟨hK, hN, hL, hP⟩ := id hB
  rw [hl2] at hN
  have hPi := hP.1 i q2 hpq2
  have e : IntKind.u64.wrap (1000 * (i : Int) + (j : Int)) = ((1000 * i + j : Nat) : Int) := by rw [wrap_u64 (by omega)]; omega
  simp (disch := omega) only [wt, seval, reduceCtorEq, Nat.reduceEqDiff, Nat.add_zero, List.getD_cons_succ, List.getD_cons_zero, wxB, h4, h3, h0, hK, hN, hPi, hq2]
  refine if_by (fun hlt2 => ?_) (fun hlt2 => ?_)
  ·simp (disch := omega) only [wt, seval, reduceCtorEq, Nat.reduceEqDiff, Nat.add_zero, List.getD_cons_succ, List.getD_cons_zero, wxB, h4, h3, h0, hK, hN, hPi, hq2, e]
   have hr2 := hb2.2.2.1 q2 (List.mem_of_getElem? hpq2)
   have hrow : splice (q2.getD j []) 0 [.int .u64 ((1000 * i + j : Nat) : Int)] = [.int .u64 ((1000 * i + j : Nat) : Int)] := by
    have hj2 : j < q2.length := by omega
    have := hr2.2 (q2.getD j []) (by rw [List.getD_eq_getElem?_getD, List.getElem?_eq_getElem hj2]; exact List.getElem_mem hj2)
    exact spl_one _ _ this
   have hlp : i < ns2.length := by omega
   rw [hrow]
   refine ⟨⟨j + 1, ns2.set i (q2.set j [.int .u64 ((1000 * i + j : Nat) : Int)]), _, by omega, by rw [List.length_set]; exact hl2, hb2.setN ⟨by rw [List.length_set]; exact hr2.1, fun r hr => ?_⟩, fun k r hk hki => ?_, List.getElem?_set_self hlp, by rw [List.length_set]; exact hq2, ?_, rfl, hB.putN hb2 hlp _⟩, by omega⟩
   ·rcases List.mem_or_eq_of_mem_set hr with hr | rfl
    ·exact hr2.2 r hr
    ·rfl
   ·rw [List.getElem?_set_ne (by omega)] at hk
    exact hm2 k r hk hki
   ·rw [List.take_add_one, List.take_set_of_le (by omega), ht2, List.getElem?_set_self (by omega), nks_succ]
    simp [lims]
  ·simp (disch := omega) only [wt, seval, reduceCtorEq, Nat.reduceEqDiff, Nat.add_zero, List.getD_cons_succ, List.getD_cons_zero, wxB, h4, h3, h0, hK, hN, hPi, hq2]
   obtain rfl : j = q.length := by omega
   refine ⟨⟨i + 1, ns2, by omega, hl2, hb2, fun k r hk hki => ?_, rfl, hB⟩, by omega⟩
   by_cases e : k = i
   ·subst e
    rw [hpq2] at hk; cases hk
    rw [hq2, ← ht2, List.take_of_length_le (by omega)]
   ·exact hm2 k r hk (by omega)
 ·simp (disch := omega) only [wt, seval, reduceCtorEq, Nat.reduceEqDiff, Nat.add_zero, List.getD_cons_succ, List.getD_cons_zero, wxB, h3, h0, hK, hN]
  obtain rfl : i = ns.length := by omega
  have hm : ∀ k q, ns1[k]? = some q → q = lims (nks k q.length) := fun k q hk => hm1 k q hk (by rw [← hl1]; exact (List.getElem?_eq_some_iff.1 hk).1)
  refine aloop_by (fun f H => ∃ (i : Nat), i ≤ ns.length ∧ f 5 = .iv (.int .i64 i) ∧ f 0 = .hp 900000 1 0 0 ∧ Bk ns1 ps H) (fun f H => (ns.length - intAt f 5).toNat) ?_ ?_
  ·refine ⟨0, by omega, ?_⟩
   simp (disch := omega) only [wt, seval, reduceCtorEq, Nat.reduceEqDiff, Nat.add_zero, List.getD_cons_succ, List.getD_cons_zero, wxB, h0]
   exact hB
  clear h3 h0 hB hK hN hL hP
  rintro f H ⟨i, hi, h3, h0, hB⟩
  rw [intAt_of h3]
  obtain ⟨hK, hN, hL, hP⟩ := id hB
  rw [hl1] at hN
  simp (disch := omega) only [wt, seval, reduceCtorEq, Nat.reduceEqDiff, Nat.add_zero, List.getD_cons_succ, List.getD_cons_zero, wxB, h3, h0, hK, hN]
  refine if_by (fun hlt => ?_) (fun hlt => ?_)
  ·obtain ⟨q, hpq⟩ : ∃ q, ns1[i]? = some q := ⟨_, List.getElem?_eq_getElem (by omega)⟩
   have hql := (hb1.2.2.1 q (List.mem_of_getElem? hpq)).1
   have hPi := hP.1 i q hpq
   simp (disch := omega) only [wt, seval, reduceCtorEq, Nat.reduceEqDiff, Nat.add_zero, List.getD_cons_succ, List.getD_cons_zero, wxB, h3, h0, hK, hN, hPi]
   exact ⟨⟨i + 1, by omega, rfl, ((hB.upd (by omega) _).sameN hb1 hpq).sameN hb1 hpq⟩, by omega⟩
  ·simp (disch := omega) only [wt, seval, reduceCtorEq, Nat.reduceEqDiff, Nat.add_zero, List.getD_cons_succ, List.getD_cons_zero, wxB, h3, h0, hK, hN]
   refine aloop_by (fun f H => ∃ (i : Nat), i ≤ ns.length ∧ f 6 = .iv (.int .i64 i) ∧ f 0 = .hp 900000 1 0 0 ∧ Bk ns1 ps H) (fun f H => (ns.length - intAt f 6).toNat) ?_ ?_
   ·refine ⟨0, by omega, ?_⟩
    simp (disch := omega) only [wt, seval, reduceCtorEq, Nat.reduceEqDiff, Nat.add_zero, List.getD_cons_succ, List.getD_cons_zero, wxB, h0]
    exact hB
   clear h3 h0 hB hK hN hL hP
   rintro f H ⟨i, hi, h3, h0, hB⟩
   rw [intAt_of h3]
   obtain ⟨hK, hN, hL, hP⟩ := id hB
   rw [hl1] at hN
   simp (disch := omega) only [wt, seval, reduceCtorEq, Nat.reduceEqDiff, Nat.add_zero, List.getD_cons_succ, List.getD_cons_zero, wxB, h3, h0, hK, hN]
   refine if_by (fun hlt => ?_) (fun hlt => ?_)
   ·obtain ⟨q, hpq⟩ : ∃ q, ns1[i]? = some q := ⟨_, List.getElem?_eq_getElem (by omega)⟩
    have hql := (hb1.2.2.1 q (List.mem_of_getElem? hpq)).1
    have hPi := hP.1 i q hpq
    have hqm := hm i q hpq
    simp (disch := omega) only [wt, seval, reduceCtorEq, Nat.reduceEqDiff, Nat.add_zero, List.getD_cons_succ, List.getD_cons_zero, wxB, h3, h0, hK, hN, hPi]
    refine aloop_by (fun f H => ∃ (j : Nat), j ≤ q.length ∧ f 7 = .iv (.int .i64 j) ∧ f 6 = .iv (.int .i64 i) ∧ f 0 = .hp 900000 1 0 0 ∧ Bk ns1 ps H) (fun f H => (q.length - intAt f 7).toNat) ?_ ?_
    ·refine ⟨0, by omega, ?_⟩
     simp (disch := omega) only [wt, seval, reduceCtorEq, Nat.reduceEqDiff, Nat.add_zero, List.getD_cons_succ, List.getD_cons_zero, wxB, h3, h0]
     exact hB
    clear h3 h0 hB hK hN hL hP hPi
    rintro f H ⟨j, hj, h4, h3, h0, hB⟩
    rw [intAt_of h4]
    obtain ⟨hK, hN, hL, hP⟩ := id hB
    rw [hl1] at hN
    have hPi := hP.1 i q hpq
    have e : IntKind.u64.wrap (1000 * (i : Int) + (j : Int)) = ((1000 * i + j : Nat) : Int) := by rw [wrap_u64 (by omega)]; omega
    simp (disch := omega) only [wt, seval, reduceCtorEq, Nat.reduceEqDiff, Nat.add_zero, List.getD_cons_succ, List.getD_cons_zero, wxB, h4, h3, h0, hK, hN, hPi]
    refine if_by (fun hlt2 => ?_) (fun hlt2 => ?_)
    ·have hget : q.getD j [] = [.int .u64 ((1000 * i + j : Nat) : Int)] := by
      have h1 : q.getD j [] = (lims (nks i q.length)).getD j [] := by rw [← hqm]
      rw [h1, nks_get _ _ _ (by omega)]
     simp (disch := omega) only [wt, seval, reduceCtorEq, Nat.reduceEqDiff, Nat.add_zero, List.getD_cons_succ, List.getD_cons_zero, wxB, h4, h3, h0, hK, hN, hPi, e, hget]
     exact ⟨⟨j + 1, by omega, rfl, hB⟩, by omega⟩
    ·simp (disch := omega) only [wt, seval, reduceCtorEq, Nat.reduceEqDiff, Nat.add_zero, List.getD_cons_succ, List.getD_cons_zero, wxB, h4, h3, h0, hK, hN, hPi]
     exact ⟨⟨i + 1, by omega, rfl, hB⟩, by omega⟩
   ·simp (disch := omega) only [wt, seval, reduceCtorEq, Nat.reduceEqDiff, Nat.add_zero, List.getD_cons_succ, List.getD_cons_zero, wxB, h3, h0, hK, hN]
    refine calli_by (bouter_ok ns1 ps hb1 H hB) ?_
    rintro x2 H2 rfl
    simp (disch := omega) only [wt, seval, reduceCtorEq, Nat.reduceEqDiff, Nat.add_zero, List.getD_cons_succ, List.getD_cons_zero, wxB, h3, h0]
    exact reti_tmp (by simp (disch := omega) only [wt, seval, reduceCtorEq, Nat.reduceEqDiff, Nat.add_zero, List.getD_cons_succ, List.getD_cons_zero, wxB]) rfl
end Go.Proofs.YtdokaihemcnkmaaGreat

namespace Go.Proofs.YtdokaihemcnkmaaGreat
open Go Go.Proofs Go.AL
set_option linter.unusedSimpArgs false
set_option linter.unusedVariables false
abbrev case9 (A B C : List RI) (K : RI) (N : Int) : List IV := [.sl (raws A), .sl (raws B), .sl (raws C), .bool K.1, .sl (lims K.2), .int .i64 N]
theorem gints_sub {K : RI} {k : Nat} (hK : Sz k K) (h : gi [K] = false) : Sz 200 K := by
 unfold gi at h
 rw [List.any_eq_false] at h
 have := h K (by simp)
 simp only [decide_eq_true_eq] at this
 exact ⟨by omega, hK.2⟩
theorem one_great_ok (K : RI) (hK : Sz 9223372036854775807 K) : AC Tryz.prog 9 [cw [K]] none [cb (gi [K])] :=
 sgints_ok [K] (by simp) (fun c hc => by simp at hc; subst hc; exact hK.1)
end Go.Proofs.YtdokaihemcnkmaaGreat
