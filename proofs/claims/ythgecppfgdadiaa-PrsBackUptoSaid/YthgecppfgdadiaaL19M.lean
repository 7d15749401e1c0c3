/-
  Contracts of the functions that the law reaches.
-/
import Derived.Test.YthgecppfgdadiaaL8M
import Derived.Test.YthgecppfgdadiaaAbsRM
import Derived.Test.YthgecppfgdadiaaL36M
namespace Go.Proofs.Ythgecppfgdadiaa
open Go Go.Proofs Go.AL
set_option linter.unusedSimpArgs false
set_option linter.unusedVariables false

theorem szero_ok : AC Try.prog 106 [] none [cr (false, [])] := by
  refine AC.by_walk (rs := [.cell 0 40]) ords Try.func106 (by rfl) (by rfl) (by rfl) (by rfl) (by rfl) ?_
  simp (disch := omega) only [wk, tis, Int.reduceNe, Int.reduceEq, Int.reduceLT, Int.reduceLE, Int.reduceAdd, Int.reduceSub, Int.reduceNeg, Int.reduceMul, Int.reduceToNat, Nat.reduceSub, Nat.reduceMul, Nat.reduceLeDiff, Nat.reduceAdd, Nat.reduceLT, Nat.reduceEqDiff, reduceCtorEq, ↓reduceIte, cpoly_len]

theorem scoef_ok (p : List RI) (i : Int) (h : RP (2 ^ 40) (2 ^ 40) p) : AC Try.prog 44 [cw p, ci i] none [cz (if i < 0 then 0 else cf (pv p) i.toNat)] := by
  refine AC.by_walk (rs := [.cell 4 40]) ords Try.func44 (by rfl) (by rfl) (by rfl) (by rfl) (by rfl) ?_
  have hl := h.1
  by_cases h0 : i < 0
  · simp (disch := omega) only [wk, tis, Int.reduceNe, Int.reduceEq, Int.reduceLT, Int.reduceLE, Int.reduceAdd, Int.reduceSub, Int.reduceNeg, Int.reduceMul, Int.reduceToNat, Nat.reduceSub, Nat.reduceMul, Nat.reduceLeDiff, Nat.reduceAdd, Nat.reduceLT, Nat.reduceEqDiff, reduceCtorEq, ↓reduceIte, cpoly_len, h0]
    refine call_by (szero_ok) (by first | rfl | (simp only [tocvs, tocv, h0]; rfl)) (by simp) ?_
    simp (disch := omega) only [wk, tis, Int.reduceNe, Int.reduceEq, Int.reduceLT, Int.reduceLE, Int.reduceAdd, Int.reduceSub, Int.reduceNeg, Int.reduceMul, Int.reduceToNat, Nat.reduceSub, Nat.reduceMul, Nat.reduceLeDiff, Nat.reduceAdd, Nat.reduceLT, Nat.reduceEqDiff, reduceCtorEq, ↓reduceIte, cpoly_len, h0]
    rw [canon_zero]
  by_cases h1 : (p.length : Int) ≤ i
  · simp (disch := omega) only [wk, tis, Int.reduceNe, Int.reduceEq, Int.reduceLT, Int.reduceLE, Int.reduceAdd, Int.reduceSub, Int.reduceNeg, Int.reduceMul, Int.reduceToNat, Nat.reduceSub, Nat.reduceMul, Nat.reduceLeDiff, Nat.reduceAdd, Nat.reduceLT, Nat.reduceEqDiff, reduceCtorEq, ↓reduceIte, cpoly_len, h0, h1]
    refine call_by (szero_ok) (by first | rfl | (simp only [tocvs, tocv, h0, h1]; rfl)) (by simp) ?_
    simp (disch := omega) only [wk, tis, Int.reduceNe, Int.reduceEq, Int.reduceLT, Int.reduceLE, Int.reduceAdd, Int.reduceSub, Int.reduceNeg, Int.reduceMul, Int.reduceToNat, Nat.reduceSub, Nat.reduceMul, Nat.reduceLeDiff, Nat.reduceAdd, Nat.reduceLT, Nat.reduceEqDiff, reduceCtorEq, ↓reduceIte, cpoly_len, h0, h1]
    rw [cf_ge (by rw [pv_len]; omega), canon_zero]
  simp (disch := omega) only [wk, tis, Int.reduceNe, Int.reduceEq, Int.reduceLT, Int.reduceLE, Int.reduceAdd, Int.reduceSub, Int.reduceNeg, Int.reduceMul, Int.reduceToNat, Nat.reduceSub, Nat.reduceMul, Nat.reduceLeDiff, Nat.reduceAdd, Nat.reduceLT, Nat.reduceEqDiff, reduceCtorEq, ↓reduceIte, cpoly_len, h0, h1]
  refine call_by ((sown_ok (p.getD i.toNat (false, [])) (h.get _))) (by first | rfl | (simp only [tocvs, tocv, h0, h1]; rfl)) (by simp) ?_
  simp (disch := omega) only [wk, tis, Int.reduceNe, Int.reduceEq, Int.reduceLT, Int.reduceLE, Int.reduceAdd, Int.reduceSub, Int.reduceNeg, Int.reduceMul, Int.reduceToNat, Nat.reduceSub, Nat.reduceMul, Nat.reduceLeDiff, Nat.reduceAdd, Nat.reduceLT, Nat.reduceEqDiff, reduceCtorEq, ↓reduceIte, cpoly_len, h0, h1]
  rw [← cf_pv]

theorem sadd_ok (a b : List RI) (ha : RP (2 ^ 30) (2 ^ 36) a) (hb : RP (2 ^ 30) (2 ^ 36) b) : AC Try.prog 27 [cw a, cw b] none [cp (padd (pv a) (pv b))] := by
  refine AC.by_walk (rs := [.tmp 4]) ords Try.func27 (by rfl) (by rfl) (by rfl) (by rfl) (by rfl) ?_
  have hla := ha.1
  have hlb := hb.1
  generalize hn : max a.length b.length = n at *
  have hpl : (padd (pv a) (pv b)).length = n := by simp [padd, pv_len, hn]
  simp (disch := omega) only [wk, tis, Int.reduceNe, Int.reduceEq, Int.reduceLT, Int.reduceLE, Int.reduceAdd, Int.reduceSub, Int.reduceNeg, Int.reduceMul, Int.reduceToNat, Nat.reduceSub, Nat.reduceMul, Nat.reduceLeDiff, Nat.reduceAdd, Nat.reduceLT, Nat.reduceEqDiff, reduceCtorEq, ↓reduceIte, cpoly_len]
  refine aloop_nil 5 5 40 2 (by simp (disch := omega) only [wk, tis, Int.reduceNe, Int.reduceEq, Int.reduceLT, Int.reduceLE, Int.reduceAdd, Int.reduceSub, Int.reduceNeg, Int.reduceMul, Int.reduceToNat, Nat.reduceSub, Nat.reduceMul, Nat.reduceLeDiff, Nat.reduceAdd, Nat.reduceLT, Nat.reduceEqDiff, reduceCtorEq, ↓reduceIte, cpoly_len]) (fun f H => ∃ (i st : Nat), i ≤ n ∧ f 6 = .iv (.int .i64 i) ∧ f 0 = .iv (.sl (raws a)) ∧ f 1 = .iv (.sl (raws b)) ∧ f 5 = .hs 5 st ∧ H 5 = .blk false st 40 2 (raws (((padd (pv a) (pv b)).take i).map canon))) (fun f H => (n - intAt f 6).toNat) ?_ ?_
  · refine ⟨0, 1, by omega, ?_⟩
    simp (disch := omega) only [wk, tis, Int.reduceNe, Int.reduceEq, Int.reduceLT, Int.reduceLE, Int.reduceAdd, Int.reduceSub, Int.reduceNeg, Int.reduceMul, Int.reduceToNat, Nat.reduceSub, Nat.reduceMul, Nat.reduceLeDiff, Nat.reduceAdd, Nat.reduceLT, Nat.reduceEqDiff, reduceCtorEq, ↓reduceIte, cpoly_len, ghostF, ghostH, List.take_zero]
  rintro f H ⟨i, st, hi, hF⟩
  rw [intAt_of hF.1]
  simp (disch := omega) only [wk, tis, Int.reduceNe, Int.reduceEq, Int.reduceLT, Int.reduceLE, Int.reduceAdd, Int.reduceSub, Int.reduceNeg, Int.reduceMul, Int.reduceToNat, Nat.reduceSub, Nat.reduceMul, Nat.reduceLeDiff, Nat.reduceAdd, Nat.reduceLT, Nat.reduceEqDiff, reduceCtorEq, ↓reduceIte, cpoly_len, hF]
  by_cases hlt : i < n
  · have h3 : (i : Int) < a.length ∨ (¬ (i : Int) < a.length ∧ (i : Int) < b.length) := by omega
    have hq : (((padd (pv a) (pv b)).take i).map canon).length = i := by rw [List.length_map, List.length_take]; omega
    have z1 := ha.pv.cf i
    have z2 := hb.pv.cf i
    have c1 := scoef_ok a i (ha.mono (by omega) (by omega))
    have c2 := scoef_ok b i (hb.mono (by omega) (by omega))
    rw [if_neg (by omega), Int.toNat_natCast] at c1 c2
    have m := rAdd_ok (canon (cf (pv a) i)) (canon (cf (pv b) i)) ((sz_canon _).mono (by omega)) ((sz_canon _).mono (by omega))
    rw [iv_canon, iv_canon] at m
    have e : (padd (pv a) (pv b)).take (i + 1) = (padd (pv a) (pv b)).take i ++ [cf (pv a) i + cf (pv b) i] := by
      rw [List.take_add_one, ← cf_padd]
      congr 1
      simp [cf, List.getD, show i < (padd (pv a) (pv b)).length by omega]
    rcases h3 with h | ⟨h, h'⟩
    all_goals
      first | simp (disch := omega) only [wk, tis, Int.reduceNe, Int.reduceEq, Int.reduceLT, Int.reduceLE, Int.reduceAdd, Int.reduceSub, Int.reduceNeg, Int.reduceMul, Int.reduceToNat, Nat.reduceSub, Nat.reduceMul, Nat.reduceLeDiff, Nat.reduceAdd, Nat.reduceLT, Nat.reduceEqDiff, reduceCtorEq, ↓reduceIte, cpoly_len, hF, h, h', hq] | simp (disch := omega) only [wk, tis, Int.reduceNe, Int.reduceEq, Int.reduceLT, Int.reduceLE, Int.reduceAdd, Int.reduceSub, Int.reduceNeg, Int.reduceMul, Int.reduceToNat, Nat.reduceSub, Nat.reduceMul, Nat.reduceLeDiff, Nat.reduceAdd, Nat.reduceLT, Nat.reduceEqDiff, reduceCtorEq, ↓reduceIte, cpoly_len, hF, h, hq]
      refine call_by (c1) (by first | rfl | (simp only [tocvs, tocv, hF, hq]; rfl)) (by simp) ?_
      simp (disch := omega) only [wk, tis, Int.reduceNe, Int.reduceEq, Int.reduceLT, Int.reduceLE, Int.reduceAdd, Int.reduceSub, Int.reduceNeg, Int.reduceMul, Int.reduceToNat, Nat.reduceSub, Nat.reduceMul, Nat.reduceLeDiff, Nat.reduceAdd, Nat.reduceLT, Nat.reduceEqDiff, reduceCtorEq, ↓reduceIte, cpoly_len, hF, hq]
      refine call_by (c2) (by first | rfl | (simp only [tocvs, tocv, hF, hq]; rfl)) (by simp) ?_
      simp (disch := omega) only [wk, tis, Int.reduceNe, Int.reduceEq, Int.reduceLT, Int.reduceLE, Int.reduceAdd, Int.reduceSub, Int.reduceNeg, Int.reduceMul, Int.reduceToNat, Nat.reduceSub, Nat.reduceMul, Nat.reduceLeDiff, Nat.reduceAdd, Nat.reduceLT, Nat.reduceEqDiff, reduceCtorEq, ↓reduceIte, cpoly_len, hF, hq]
      refine call_by (m) (by first | rfl | (simp only [tocvs, tocv, hF, hq]; rfl)) (by simp) ?_
      simp (disch := omega) only [wk, tis, Int.reduceNe, Int.reduceEq, Int.reduceLT, Int.reduceLE, Int.reduceAdd, Int.reduceSub, Int.reduceNeg, Int.reduceMul, Int.reduceToNat, Nat.reduceSub, Nat.reduceMul, Nat.reduceLeDiff, Nat.reduceAdd, Nat.reduceLT, Nat.reduceEqDiff, reduceCtorEq, ↓reduceIte, cpoly_len, hF, hq]
      exact ⟨⟨i + 1, st + 1, by omega, by omega, by rw [e]; exact ⟨rfl, rfl⟩⟩, by omega⟩
  · have h1 : ¬ (i : Int) < a.length := by omega
    have h2 : ¬ (i : Int) < b.length := by omega
    simp (disch := omega) only [wk, tis, Int.reduceNe, Int.reduceEq, Int.reduceLT, Int.reduceLE, Int.reduceAdd, Int.reduceSub, Int.reduceNeg, Int.reduceMul, Int.reduceToNat, Nat.reduceSub, Nat.reduceMul, Nat.reduceLeDiff, Nat.reduceAdd, Nat.reduceLT, Nat.reduceEqDiff, reduceCtorEq, ↓reduceIte, cpoly_len, hF, h1, h2]
    have hb := ha.pv.padd hb.pv
    have := snorm_ok ((padd (pv a) (pv b)).map canon) (RP.canon (hb.mono (by omega) (by omega)))
    rw [pv_canon] at this
    rw [List.take_of_length_le (by omega)] at hF
    refine call_by (this) (by first | rfl | (simp only [tocvs, tocv, hF]; rfl)) (by simp) ?_
    simp (disch := omega) only [wk, tis, Int.reduceNe, Int.reduceEq, Int.reduceLT, Int.reduceLE, Int.reduceAdd, Int.reduceSub, Int.reduceNeg, Int.reduceMul, Int.reduceToNat, Nat.reduceSub, Nat.reduceMul, Nat.reduceLeDiff, Nat.reduceAdd, Nat.reduceLT, Nat.reduceEqDiff, reduceCtorEq, ↓reduceIte, cpoly_len, hF]

theorem sscale_ok (p : List RI) (c : RI) (hp : RP (2 ^ 30) (2 ^ 36) p) (hc : Sz (2 ^ 36) c) : AC Try.prog 31 [cw p, cr c] none [cp (pscale (iv c) (pv p))] := by
  refine AC.by_walk (rs := [.tmp 4]) ords Try.func31 (by rfl) (by rfl) (by rfl) (by rfl) (by rfl) ?_
  have hl := hp.1
  have hpl : (pscale (iv c) (pv p)).length = p.length := by simp [pscale, pv_len]
  simp (disch := omega) only [wk, tis, Int.reduceNe, Int.reduceEq, Int.reduceLT, Int.reduceLE, Int.reduceAdd, Int.reduceSub, Int.reduceNeg, Int.reduceMul, Int.reduceToNat, Nat.reduceSub, Nat.reduceMul, Nat.reduceLeDiff, Nat.reduceAdd, Nat.reduceLT, Nat.reduceEqDiff, reduceCtorEq, ↓reduceIte, cpoly_len]
  refine aloop_nil 5 5 40 2 (by simp (disch := omega) only [wk, tis, Int.reduceNe, Int.reduceEq, Int.reduceLT, Int.reduceLE, Int.reduceAdd, Int.reduceSub, Int.reduceNeg, Int.reduceMul, Int.reduceToNat, Nat.reduceSub, Nat.reduceMul, Nat.reduceLeDiff, Nat.reduceAdd, Nat.reduceLT, Nat.reduceEqDiff, reduceCtorEq, ↓reduceIte, cpoly_len]) (fun f H => ∃ (i st st3 : Nat), i ≤ p.length ∧ f 6 = .iv (.int .i64 i) ∧ f 0 = .iv (.sl (raws p)) ∧ f 3 = .hp 3 st3 0 0 ∧ f 5 = .hs 5 st ∧ H 3 = .blk false st3 40 2 [prow c] ∧ H 5 = .blk false st 40 2 (raws (((pscale (iv c) (pv p)).take i).map canon))) (fun f H => (p.length - intAt f 6).toNat) ?_ ?_
  · refine ⟨0, 1, 1, by omega, ?_⟩
    simp (disch := omega) only [wk, tis, Int.reduceNe, Int.reduceEq, Int.reduceLT, Int.reduceLE, Int.reduceAdd, Int.reduceSub, Int.reduceNeg, Int.reduceMul, Int.reduceToNat, Nat.reduceSub, Nat.reduceMul, Nat.reduceLeDiff, Nat.reduceAdd, Nat.reduceLT, Nat.reduceEqDiff, reduceCtorEq, ↓reduceIte, cpoly_len, ghostF, ghostH, List.take_zero]
  rintro f H ⟨i, st, st3, hi, hF⟩
  rw [intAt_of hF.1]
  simp (disch := omega) only [wk, tis, Int.reduceNe, Int.reduceEq, Int.reduceLT, Int.reduceLE, Int.reduceAdd, Int.reduceSub, Int.reduceNeg, Int.reduceMul, Int.reduceToNat, Nat.reduceSub, Nat.reduceMul, Nat.reduceLeDiff, Nat.reduceAdd, Nat.reduceLT, Nat.reduceEqDiff, reduceCtorEq, ↓reduceIte, cpoly_len, hF]
  refine if_by (fun hlt => ?_) (fun hlt => ?_)
  · have hq : (((pscale (iv c) (pv p)).take i).map canon).length = i := by rw [List.length_map, List.length_take]; omega
    simp (disch := omega) only [wk, tis, Int.reduceNe, Int.reduceEq, Int.reduceLT, Int.reduceLE, Int.reduceAdd, Int.reduceSub, Int.reduceNeg, Int.reduceMul, Int.reduceToNat, Nat.reduceSub, Nat.reduceMul, Nat.reduceLeDiff, Nat.reduceAdd, Nat.reduceLT, Nat.reduceEqDiff, reduceCtorEq, ↓reduceIte, cpoly_len, hF, hq]
    refine ⟨tmps_by (by kernel_rfl), ?_⟩
    have m := rMul_ok (p.getD i (false, [])) c ((hp.get i).mono (by omega)) (hc.mono (by omega))
    rw [← cf_pv, ← cf_pscale] at m
    refine call_by (m) (by first | rfl | (simp only [tocvs, tocv, hF, hq]; rfl)) (by simp) ?_
    simp (disch := omega) only [wk, tis, Int.reduceNe, Int.reduceEq, Int.reduceLT, Int.reduceLE, Int.reduceAdd, Int.reduceSub, Int.reduceNeg, Int.reduceMul, Int.reduceToNat, Nat.reduceSub, Nat.reduceMul, Nat.reduceLeDiff, Nat.reduceAdd, Nat.reduceLT, Nat.reduceEqDiff, reduceCtorEq, ↓reduceIte, cpoly_len, hF, hq]
    first | exact log_by (by kernel_rfl) | refine ⟨log_by (by kernel_rfl), ?_⟩
    have e : (pscale (iv c) (pv p)).take (i + 1) = (pscale (iv c) (pv p)).take i ++ [cf (pscale (iv c) (pv p)) i] := by
      rw [List.take_add_one]
      congr 1
      simp [cf, List.getD, show i < (pscale (iv c) (pv p)).length by omega]
    exact ⟨⟨i + 1, st + 1, st3, by omega, by omega, by rw [e]; exact ⟨rfl, rfl, rfl, rfl⟩⟩, by omega⟩
  · simp (disch := omega) only [wk, tis, Int.reduceNe, Int.reduceEq, Int.reduceLT, Int.reduceLE, Int.reduceAdd, Int.reduceSub, Int.reduceNeg, Int.reduceMul, Int.reduceToNat, Nat.reduceSub, Nat.reduceMul, Nat.reduceLeDiff, Nat.reduceAdd, Nat.reduceLT, Nat.reduceEqDiff, reduceCtorEq, ↓reduceIte, cpoly_len, hF]
    have hz := zl_iv hc
    have hb := hp.pv.pscale (c := iv c)
    have := snorm_ok ((pscale (iv c) (pv p)).map canon) (RP.canon (hb.mono (by omega) (by omega)))
    rw [pv_canon] at this
    rw [List.take_of_length_le (by omega)] at hF
    refine call_by (this) (by first | rfl | (simp only [tocvs, tocv, hF]; rfl)) (by simp) ?_
    simp (disch := omega) only [wk, tis, Int.reduceNe, Int.reduceEq, Int.reduceLT, Int.reduceLE, Int.reduceAdd, Int.reduceSub, Int.reduceNeg, Int.reduceMul, Int.reduceToNat, Nat.reduceSub, Nat.reduceMul, Nat.reduceLeDiff, Nat.reduceAdd, Nat.reduceLT, Nat.reduceEqDiff, reduceCtorEq, ↓reduceIte, cpoly_len, hF]

theorem sneg_ok (p : List RI) (hp : RP (2 ^ 30) (2 ^ 35) p) : AC Try.prog 29 [cw p] none [cp (pscale (-1) (pv p))] := by
  refine AC.by_walk (rs := [.tmp 2]) ords Try.func29 (by rfl) (by rfl) (by rfl) (by rfl) (by rfl) ?_
  simp (disch := omega) only [wk, tis, Int.reduceNe, Int.reduceEq, Int.reduceLT, Int.reduceLE, Int.reduceAdd, Int.reduceSub, Int.reduceNeg, Int.reduceMul, Int.reduceToNat, Nat.reduceSub, Nat.reduceMul, Nat.reduceLeDiff, Nat.reduceAdd, Nat.reduceLT, Nat.reduceEqDiff, reduceCtorEq, ↓reduceIte, cpoly_len]
  refine call_by ((sZ_ok (-1) (by omega) (by omega))) (by rfl) (by simp) ?_
  simp (disch := omega) only [wk, tis, Int.reduceNe, Int.reduceEq, Int.reduceLT, Int.reduceLE, Int.reduceAdd, Int.reduceSub, Int.reduceNeg, Int.reduceMul, Int.reduceToNat, Nat.reduceSub, Nat.reduceMul, Nat.reduceLeDiff, Nat.reduceAdd, Nat.reduceLT, Nat.reduceEqDiff, reduceCtorEq, ↓reduceIte, cpoly_len]
  have := sscale_ok p (canon (-1)) (hp.mono (by omega) (by omega)) ((sz_canon (-1)).mono (by have : zl (-1) ≤ 1 := zl_le.mpr (by decide); omega))
  rw [iv_canon] at this
  refine call_by (this) (by rfl) (by simp) ?_
  simp (disch := omega) only [wk, tis, Int.reduceNe, Int.reduceEq, Int.reduceLT, Int.reduceLE, Int.reduceAdd, Int.reduceSub, Int.reduceNeg, Int.reduceMul, Int.reduceToNat, Nat.reduceSub, Nat.reduceMul, Nat.reduceLeDiff, Nat.reduceAdd, Nat.reduceLT, Nat.reduceEqDiff, reduceCtorEq, ↓reduceIte, cpoly_len]

theorem ssub_ok (a b : List RI) (ha : RP (2 ^ 30) (2 ^ 36) a) (hb : RP (2 ^ 30) (2 ^ 35) b) : AC Try.prog 28 [cw a, cw b] none [cp (padd (pv a) (pscale (-1) (pv b)))] := by
  refine AC.by_walk (rs := [.tmp 4]) ords Try.func28 (by rfl) (by rfl) (by rfl) (by rfl) (by rfl) ?_
  simp (disch := omega) only [wk, tis, Int.reduceNe, Int.reduceEq, Int.reduceLT, Int.reduceLE, Int.reduceAdd, Int.reduceSub, Int.reduceNeg, Int.reduceMul, Int.reduceToNat, Nat.reduceSub, Nat.reduceMul, Nat.reduceLeDiff, Nat.reduceAdd, Nat.reduceLT, Nat.reduceEqDiff, reduceCtorEq, ↓reduceIte, cpoly_len]
  refine call_by ((sneg_ok b hb)) (by rfl) (by simp) ?_
  simp (disch := omega) only [wk, tis, Int.reduceNe, Int.reduceEq, Int.reduceLT, Int.reduceLE, Int.reduceAdd, Int.reduceSub, Int.reduceNeg, Int.reduceMul, Int.reduceToNat, Nat.reduceSub, Nat.reduceMul, Nat.reduceLeDiff, Nat.reduceAdd, Nat.reduceLT, Nat.reduceEqDiff, reduceCtorEq, ↓reduceIte, cpoly_len]
  have h1 : zl (-1) ≤ 1 := zl_le.mpr (by decide)
  have := sadd_ok a (cn (pscale (-1) (pv b))) ha (rp_cn (hb.pv.pscale.mono (by omega) (by omega)))
  have e : cp (padd (pv a) (pv (cn (pscale (-1) (pv b))))) = cp (padd (pv a) (pscale (-1) (pv b))) := cp_ps (by rw [ps_padd, ps_padd, ps_cn])
  rw [e] at this
  refine call_by (this) (by rfl) (by simp) ?_
  simp (disch := omega) only [wk, tis, Int.reduceNe, Int.reduceEq, Int.reduceLT, Int.reduceLE, Int.reduceAdd, Int.reduceSub, Int.reduceNeg, Int.reduceMul, Int.reduceToNat, Nat.reduceSub, Nat.reduceMul, Nat.reduceLeDiff, Nat.reduceAdd, Nat.reduceLT, Nat.reduceEqDiff, reduceCtorEq, ↓reduceIte, cpoly_len]

theorem splain_ok (n : Int) : AC Try.prog 103 [ci n] none [ci (if n < 0 then 3 else if 1000 < n then 13 else 0)] := by
  refine AC.by_walk (rs := [.tmp 2]) ords Try.func103 (by rfl) (by rfl) (by rfl) (by rfl) (by rfl) ?_
  simp (disch := omega) only [wk, tis, Int.reduceNe, Int.reduceEq, Int.reduceLT, Int.reduceLE, Int.reduceAdd, Int.reduceSub, Int.reduceNeg, Int.reduceMul, Int.reduceToNat, Nat.reduceSub, Nat.reduceMul, Nat.reduceLeDiff, Nat.reduceAdd, Nat.reduceLT, Nat.reduceEqDiff, reduceCtorEq, ↓reduceIte, cpoly_len]
  refine if_by (fun h => ?_) (fun h => ?_)
  · simp (disch := omega) only [wk, tis, Int.reduceNe, Int.reduceEq, Int.reduceLT, Int.reduceLE, Int.reduceAdd, Int.reduceSub, Int.reduceNeg, Int.reduceMul, Int.reduceToNat, Nat.reduceSub, Nat.reduceMul, Nat.reduceLeDiff, Nat.reduceAdd, Nat.reduceLT, Nat.reduceEqDiff, reduceCtorEq, ↓reduceIte, cpoly_len, h]
  simp (disch := omega) only [wk, tis, Int.reduceNe, Int.reduceEq, Int.reduceLT, Int.reduceLE, Int.reduceAdd, Int.reduceSub, Int.reduceNeg, Int.reduceMul, Int.reduceToNat, Nat.reduceSub, Nat.reduceMul, Nat.reduceLeDiff, Nat.reduceAdd, Nat.reduceLT, Nat.reduceEqDiff, reduceCtorEq, ↓reduceIte, cpoly_len, h]
  refine if_by (fun h' => ?_) (fun h' => ?_)
  · simp (disch := omega) only [wk, tis, Int.reduceNe, Int.reduceEq, Int.reduceLT, Int.reduceLE, Int.reduceAdd, Int.reduceSub, Int.reduceNeg, Int.reduceMul, Int.reduceToNat, Nat.reduceSub, Nat.reduceMul, Nat.reduceLeDiff, Nat.reduceAdd, Nat.reduceLT, Nat.reduceEqDiff, reduceCtorEq, ↓reduceIte, cpoly_len, h, h']
  simp (disch := omega) only [wk, tis, Int.reduceNe, Int.reduceEq, Int.reduceLT, Int.reduceLE, Int.reduceAdd, Int.reduceSub, Int.reduceNeg, Int.reduceMul, Int.reduceToNat, Nat.reduceSub, Nat.reduceMul, Nat.reduceLeDiff, Nat.reduceAdd, Nat.reduceLT, Nat.reduceEqDiff, reduceCtorEq, ↓reduceIte, cpoly_len, h, h']

/-- Places below. -/
def pshift (n : Nat) (p : List Int) : List Int := List.replicate n 0 ++ p

theorem cf_pshift (n : Nat) (p : List Int) (k : Nat) : cf (pshift n p) k = if k < n then 0 else cf p (k - n) := by
  unfold pshift cf
  by_cases h : k < n
  · rw [if_pos h]; simp [List.getD, List.getElem?_append, List.getElem?_replicate, h]
  · rw [if_neg h]; simp [List.getD, List.getElem?_append, h]

theorem tz_pshift (n : Nat) (p : List Int) (h : tz p ≠ 0) : tz (pshift n p) = n + tz p := by
  have h1 := cf_tz_pred h
  have := tz_spec (q := pshift n p) (n := n + (tz p - 1)) (by rw [cf_pshift, if_neg (by omega), show n + (tz p - 1) - n = tz p - 1 by omega]; exact h1) (fun k hk => by
    rw [cf_pshift, if_neg (by omega), cf_ge_tz p (by omega)])
  omega

theorem trimz_pshift (n : Nat) (p : List Int) (h : tz p ≠ 0) : trimz (pshift n p) = List.replicate n 0 ++ trimz p := by
  rw [trimz, tz_pshift n p h, pshift, List.take_append, List.length_replicate, List.take_of_length_le (by simp), show n + tz p - n = tz p by omega]; rfl

theorem trimz_nil {p : List Int} (h : tz p = 0) : trimz p = [] := by rw [trimz, h]; rfl

theorem tz_pshift_zero (n : Nat) (p : List Int) (h : tz p = 0) : tz (pshift n p) = 0 := tz_zero_iff.mpr fun k => by
  rw [cf_pshift]; split
  · rfl
  · exact cf_ge_tz p (by omega)

theorem pv_shift (n : Nat) (p : List RI) : pv (List.replicate n (false, []) ++ p) = pshift n (pv p) := by
  simp [pv, pshift, iv_nil]

theorem sup_ok (p : List RI) (n : Int) (hp : RP (2 ^ 35) (2 ^ 40) p) : AC Try.prog 33 [cw p, ci n] none [cp (if 0 ≤ n ∧ n ≤ 1000 then pshift n.toNat (pv p) else []), ci (if n < 0 then 3 else if 1000 < n then 13 else 0)] := by
  refine AC.by_walk (rs := [.tmp 4, .tmp 5]) ords Try.func33 (by rfl) (by rfl) (by rfl) (by rfl) (by rfl) ?_
  have hl := hp.1
  simp (disch := omega) only [wk, tis, Int.reduceNe, Int.reduceEq, Int.reduceLT, Int.reduceLE, Int.reduceAdd, Int.reduceSub, Int.reduceNeg, Int.reduceMul, Int.reduceToNat, Nat.reduceSub, Nat.reduceMul, Nat.reduceLeDiff, Nat.reduceAdd, Nat.reduceLT, Nat.reduceEqDiff, reduceCtorEq, ↓reduceIte, cpoly_len]
  refine call_by ((splain_ok n)) (by rfl) (by simp) ?_
  simp (disch := omega) only [wk, tis, Int.reduceNe, Int.reduceEq, Int.reduceLT, Int.reduceLE, Int.reduceAdd, Int.reduceSub, Int.reduceNeg, Int.reduceMul, Int.reduceToNat, Nat.reduceSub, Nat.reduceMul, Nat.reduceLeDiff, Nat.reduceAdd, Nat.reduceLT, Nat.reduceEqDiff, reduceCtorEq, ↓reduceIte, cpoly_len]
  by_cases h1 : n < 0
  · have : ¬ (0 ≤ n ∧ n ≤ 1000) := by omega
    simp (disch := omega) only [wk, tis, Int.reduceNe, Int.reduceEq, Int.reduceLT, Int.reduceLE, Int.reduceAdd, Int.reduceSub, Int.reduceNeg, Int.reduceMul, Int.reduceToNat, Nat.reduceSub, Nat.reduceMul, Nat.reduceLeDiff, Nat.reduceAdd, Nat.reduceLT, Nat.reduceEqDiff, reduceCtorEq, ↓reduceIte, cpoly_len, h1, this]
    rfl
  by_cases h2 : 1000 < n
  · have : ¬ (0 ≤ n ∧ n ≤ 1000) := by omega
    simp (disch := omega) only [wk, tis, Int.reduceNe, Int.reduceEq, Int.reduceLT, Int.reduceLE, Int.reduceAdd, Int.reduceSub, Int.reduceNeg, Int.reduceMul, Int.reduceToNat, Nat.reduceSub, Nat.reduceMul, Nat.reduceLeDiff, Nat.reduceAdd, Nat.reduceLT, Nat.reduceEqDiff, reduceCtorEq, ↓reduceIte, cpoly_len, h1, h2, this]
    rfl
  have h3 : 0 ≤ n ∧ n ≤ 1000 := by omega
  obtain ⟨m, rfl⟩ := Int.eq_ofNat_of_zero_le h3.1
  simp (disch := omega) only [wk, tis, Int.reduceNe, Int.reduceEq, Int.reduceLT, Int.reduceLE, Int.reduceAdd, Int.reduceSub, Int.reduceNeg, Int.reduceMul, Int.reduceToNat, Nat.reduceSub, Nat.reduceMul, Nat.reduceLeDiff, Nat.reduceAdd, Nat.reduceLT, Nat.reduceEqDiff, reduceCtorEq, ↓reduceIte, cpoly_len, h1, h2, h3]
  have := snorm_ok (List.replicate m (false, []) ++ p) ⟨by simp; omega, fun c hc => by
    rcases List.mem_append.mp hc with hc | hc
    · rw [List.eq_of_mem_replicate hc]; exact ⟨by simp, Lim.nil⟩
    · exact hp.2 c hc⟩
  rw [pv_shift] at this
  refine call_by (this) (by first | rfl | (simp only [tocvs, tocv, h1, h2]; rfl)) (by simp) ?_
  simp (disch := omega) only [wk, tis, Int.reduceNe, Int.reduceEq, Int.reduceLT, Int.reduceLE, Int.reduceAdd, Int.reduceSub, Int.reduceNeg, Int.reduceMul, Int.reduceToNat, Nat.reduceSub, Nat.reduceMul, Nat.reduceLeDiff, Nat.reduceAdd, Nat.reduceLT, Nat.reduceEqDiff, reduceCtorEq, ↓reduceIte, cpoly_len, h1, h2]

theorem pup_ok (p : List RI) (n : Int) (hp : RP (2 ^ 35) (2 ^ 40) p) : AC Try.prog 36 [cw p, ci n] none [cp (if 0 ≤ n ∧ n ≤ 1000 then pshift n.toNat (pv p) else []), ci (if n < 0 then 3 else if 1000 < n then 13 else 0)] := by
  refine AC.by_walk (rs := [.tmp 4, .tmp 5]) ords Try.func36 (by rfl) (by rfl) (by rfl) (by rfl) (by rfl) ?_
  have hl := hp.1
  have htl := tz_le (pv p)
  rw [pv_len] at htl
  simp (disch := omega) only [wk, tis, Int.reduceNe, Int.reduceEq, Int.reduceLT, Int.reduceLE, Int.reduceAdd, Int.reduceSub, Int.reduceNeg, Int.reduceMul, Int.reduceToNat, Nat.reduceSub, Nat.reduceMul, Nat.reduceLeDiff, Nat.reduceAdd, Nat.reduceLT, Nat.reduceEqDiff, reduceCtorEq, ↓reduceIte, cpoly_len]
  refine call_by ((pbound_ok n)) (by rfl) (by simp) ?_
  simp (disch := omega) only [wk, tis, Int.reduceNe, Int.reduceEq, Int.reduceLT, Int.reduceLE, Int.reduceAdd, Int.reduceSub, Int.reduceNeg, Int.reduceMul, Int.reduceToNat, Nat.reduceSub, Nat.reduceMul, Nat.reduceLeDiff, Nat.reduceAdd, Nat.reduceLT, Nat.reduceEqDiff, reduceCtorEq, ↓reduceIte, cpoly_len]
  by_cases h1 : n < 0
  · have : ¬ (0 ≤ n ∧ n ≤ 1000) := by omega
    simp (disch := omega) only [wk, tis, Int.reduceNe, Int.reduceEq, Int.reduceLT, Int.reduceLE, Int.reduceAdd, Int.reduceSub, Int.reduceNeg, Int.reduceMul, Int.reduceToNat, Nat.reduceSub, Nat.reduceMul, Nat.reduceLeDiff, Nat.reduceAdd, Nat.reduceLT, Nat.reduceEqDiff, reduceCtorEq, ↓reduceIte, cpoly_len, h1, this]
    rfl
  by_cases h2 : 1000 < n
  · have : ¬ (0 ≤ n ∧ n ≤ 1000) := by omega
    simp (disch := omega) only [wk, tis, Int.reduceNe, Int.reduceEq, Int.reduceLT, Int.reduceLE, Int.reduceAdd, Int.reduceSub, Int.reduceNeg, Int.reduceMul, Int.reduceToNat, Nat.reduceSub, Nat.reduceMul, Nat.reduceLeDiff, Nat.reduceAdd, Nat.reduceLT, Nat.reduceEqDiff, reduceCtorEq, ↓reduceIte, cpoly_len, h1, h2, this]
    rfl
  have h3 : 0 ≤ n ∧ n ≤ 1000 := by omega
  obtain ⟨m, rfl⟩ := Int.eq_ofNat_of_zero_le h3.1
  simp (disch := omega) only [wk, tis, Int.reduceNe, Int.reduceEq, Int.reduceLT, Int.reduceLE, Int.reduceAdd, Int.reduceSub, Int.reduceNeg, Int.reduceMul, Int.reduceToNat, Nat.reduceSub, Nat.reduceMul, Nat.reduceLeDiff, Nat.reduceAdd, Nat.reduceLT, Nat.reduceEqDiff, reduceCtorEq, ↓reduceIte, cpoly_len, h1, h2, h3]
  refine call_by ((pnorm_ok p (hp.mono (by omega) (by omega)))) (by first | rfl | (simp only [tocvs, tocv, h1, h2]; rfl)) (by simp) ?_
  simp (disch := omega) only [wk, tis, Int.reduceNe, Int.reduceEq, Int.reduceLT, Int.reduceLE, Int.reduceAdd, Int.reduceSub, Int.reduceNeg, Int.reduceMul, Int.reduceToNat, Nat.reduceSub, Nat.reduceMul, Nat.reduceLeDiff, Nat.reduceAdd, Nat.reduceLT, Nat.reduceEqDiff, reduceCtorEq, ↓reduceIte, cpoly_len, h1, h2]
  refine if_by (fun hz => ?_) (fun hz => ?_)
  · simp (disch := omega) only [wk, tis, Int.reduceNe, Int.reduceEq, Int.reduceLT, Int.reduceLE, Int.reduceAdd, Int.reduceSub, Int.reduceNeg, Int.reduceMul, Int.reduceToNat, Nat.reduceSub, Nat.reduceMul, Nat.reduceLeDiff, Nat.reduceAdd, Nat.reduceLT, Nat.reduceEqDiff, reduceCtorEq, ↓reduceIte, cpoly_len, h1, h2]
    have : cpoly (pshift m (pv p)) = [] := by rw [cpoly, trimz_nil (tz_pshift_zero _ _ (by omega))]; rfl
    rw [this]
  · have e : cpoly (pshift m (pv p)) = raws (List.replicate m (false, []) ++ (trimz (pv p)).map canon) := by
      rw [cpoly, trimz_pshift _ _ (by omega), List.map_append, List.map_replicate, canon_zero]
    have hl2 : ((trimz (pv p)).map canon).length = tz (pv p) := by rw [List.length_map, trimz_len]
    have e2 : cp (pshift m (pv p)) = .iv (.sl (raws (List.replicate m (false, []) ++ (trimz (pv p)).map canon))) := by rw [← e]
    rw [e2]
    unfold cpoly
    simp (disch := omega) only [wk, tis, Int.reduceNe, Int.reduceEq, Int.reduceLT, Int.reduceLE, Int.reduceAdd, Int.reduceSub, Int.reduceNeg, Int.reduceMul, Int.reduceToNat, Nat.reduceSub, Nat.reduceMul, Nat.reduceLeDiff, Nat.reduceAdd, Nat.reduceLT, Nat.reduceEqDiff, reduceCtorEq, ↓reduceIte, cpoly_len, h1, h2, hl2]

/-- One coefficient. -/
def pmono (z : Int) (n : Nat) : List Int := pshift n [z]

theorem pmono_ok (c : RI) (n : Int) (hc : Sz (2 ^ 40) c) : AC Try.prog 34 [cr c, ci n] none [cp (if 0 ≤ n ∧ n ≤ 1000 then pmono (iv c) n.toNat else []), ci (if n < 0 then 3 else if 1000 < n then 13 else 0)] := by
  refine AC.by_walk (rs := [.tmp 4, .tmp 5]) ords Try.func34 (by rfl) (by rfl) (by rfl) (by rfl) (by rfl) ?_
  simp (disch := omega) only [wk, tis, Int.reduceNe, Int.reduceEq, Int.reduceLT, Int.reduceLE, Int.reduceAdd, Int.reduceSub, Int.reduceNeg, Int.reduceMul, Int.reduceToNat, Nat.reduceSub, Nat.reduceMul, Nat.reduceLeDiff, Nat.reduceAdd, Nat.reduceLT, Nat.reduceEqDiff, reduceCtorEq, ↓reduceIte, cpoly_len]
  have := pup_ok [c] n ⟨by simp, fun d hd => by simp at hd; subst hd; exact hc⟩
  refine call_by (this) (by rfl) (by simp) ?_
  simp (disch := omega) only [wk, tis, Int.reduceNe, Int.reduceEq, Int.reduceLT, Int.reduceLE, Int.reduceAdd, Int.reduceSub, Int.reduceNeg, Int.reduceMul, Int.reduceToNat, Nat.reduceSub, Nat.reduceMul, Nat.reduceLeDiff, Nat.reduceAdd, Nat.reduceLT, Nat.reduceEqDiff, reduceCtorEq, ↓reduceIte, cpoly_len]
  rfl

theorem smono_ok (c : RI) (n : Int) (hc : Sz (2 ^ 40) c) : AC Try.prog 32 [cr c, ci n] none [cp (if 0 ≤ n ∧ n ≤ 1000 then pmono (iv c) n.toNat else []), ci (if n < 0 then 3 else if 1000 < n then 13 else 0)] := by
  refine AC.by_walk (rs := [.tmp 4, .tmp 5]) ords Try.func32 (by rfl) (by rfl) (by rfl) (by rfl) (by rfl) ?_
  simp (disch := omega) only [wk, tis, Int.reduceNe, Int.reduceEq, Int.reduceLT, Int.reduceLE, Int.reduceAdd, Int.reduceSub, Int.reduceNeg, Int.reduceMul, Int.reduceToNat, Nat.reduceSub, Nat.reduceMul, Nat.reduceLeDiff, Nat.reduceAdd, Nat.reduceLT, Nat.reduceEqDiff, reduceCtorEq, ↓reduceIte, cpoly_len]
  refine call_by ((splain_ok n)) (by rfl) (by simp) ?_
  simp (disch := omega) only [wk, tis, Int.reduceNe, Int.reduceEq, Int.reduceLT, Int.reduceLE, Int.reduceAdd, Int.reduceSub, Int.reduceNeg, Int.reduceMul, Int.reduceToNat, Nat.reduceSub, Nat.reduceMul, Nat.reduceLeDiff, Nat.reduceAdd, Nat.reduceLT, Nat.reduceEqDiff, reduceCtorEq, ↓reduceIte, cpoly_len]
  by_cases h1 : n < 0
  · have : ¬ (0 ≤ n ∧ n ≤ 1000) := by omega
    simp (disch := omega) only [wk, tis, Int.reduceNe, Int.reduceEq, Int.reduceLT, Int.reduceLE, Int.reduceAdd, Int.reduceSub, Int.reduceNeg, Int.reduceMul, Int.reduceToNat, Nat.reduceSub, Nat.reduceMul, Nat.reduceLeDiff, Nat.reduceAdd, Nat.reduceLT, Nat.reduceEqDiff, reduceCtorEq, ↓reduceIte, cpoly_len, h1, this]
    rfl
  by_cases h2 : 1000 < n
  · have : ¬ (0 ≤ n ∧ n ≤ 1000) := by omega
    simp (disch := omega) only [wk, tis, Int.reduceNe, Int.reduceEq, Int.reduceLT, Int.reduceLE, Int.reduceAdd, Int.reduceSub, Int.reduceNeg, Int.reduceMul, Int.reduceToNat, Nat.reduceSub, Nat.reduceMul, Nat.reduceLeDiff, Nat.reduceAdd, Nat.reduceLT, Nat.reduceEqDiff, reduceCtorEq, ↓reduceIte, cpoly_len, h1, h2, this]
    rfl
  have h3 : 0 ≤ n ∧ n ≤ 1000 := by omega
  obtain ⟨m, rfl⟩ := Int.eq_ofNat_of_zero_le h3.1
  have em : (m : Int) + 1 = ((m + 1 : Nat) : Int) := rfl
  have hq : (List.replicate (m + 1) ((false, []) : RI)).length = m + 1 := by simp
  simp (disch := omega) only [wk, tis, Int.reduceNe, Int.reduceEq, Int.reduceLT, Int.reduceLE, Int.reduceAdd, Int.reduceSub, Int.reduceNeg, Int.reduceMul, Int.reduceToNat, Nat.reduceSub, Nat.reduceMul, Nat.reduceLeDiff, Nat.reduceAdd, Nat.reduceLT, Nat.reduceEqDiff, reduceCtorEq, ↓reduceIte, cpoly_len, h1, h2, h3, em]
  have e : (List.replicate (m + 1) ((false, []) : RI)).set m c = List.replicate m (false, []) ++ [c] := by
    rw [List.replicate_succ', List.set_append_right _ _ (by simp)]; simp
  have := snorm_ok (List.replicate m (false, []) ++ [c]) ⟨by simp; omega, fun d hd => by
    rcases List.mem_append.mp hd with hd | hd
    · rw [List.eq_of_mem_replicate hd]; exact ⟨by simp, Lim.nil⟩
    · simp at hd; subst hd; exact hc⟩
  rw [pv_shift, ← e, show pshift m (pv [c]) = pmono (iv c) m from rfl] at this
  refine call_by (this) (by first | rfl | (simp only [tocvs, tocv, h1, h2]; rfl)) (by simp) ?_
  simp (disch := omega) only [wk, tis, Int.reduceNe, Int.reduceEq, Int.reduceLT, Int.reduceLE, Int.reduceAdd, Int.reduceSub, Int.reduceNeg, Int.reduceMul, Int.reduceToNat, Nat.reduceSub, Nat.reduceMul, Nat.reduceLeDiff, Nat.reduceAdd, Nat.reduceLT, Nat.reduceEqDiff, reduceCtorEq, ↓reduceIte, cpoly_len, h1, h2]

end Go.Proofs.Ythgecppfgdadiaa

namespace Go.Proofs.Ythgecppfgdadiaa
open Go Go.Proofs Go.AL
set_option linter.unusedSimpArgs false
set_option linter.unusedVariables false

theorem slow_ok (p : List RI) (h : RP (2 ^ 40) (2 ^ 40) p) : AC Try.prog 39 [cw p] none [ci (if lw (pv p) < p.length then lw (pv p) else 0), ci (if lw (pv p) < p.length then 0 else 1)] := by
  refine AC.by_walk (rs := [.tmp 2, .tmp 3]) ords Try.func39 (by rfl) (by rfl) (by rfl) (by rfl) (by rfl) ?_
  have hl := h.1
  simp (disch := omega) only [wk, tis, Int.reduceNe, Int.reduceEq, Int.reduceLT, Int.reduceLE, Int.reduceAdd, Int.reduceSub, Int.reduceNeg, Int.reduceMul, Int.reduceToNat, Nat.reduceSub, Nat.reduceMul, Nat.reduceLeDiff, Nat.reduceAdd, Nat.reduceLT, Nat.reduceEqDiff, reduceCtorEq, ↓reduceIte, cpoly_len, natsr_len, natsr_at, natsr_snoc, natsr_app, natsr_rows, natsr_nil]
  refine aloop_by (fun f H => ∃ (i : Nat), i ≤ p.length ∧ (∀ j, j < i → cf (pv p) j = 0) ∧ f 4 = .iv (.int .i64 i) ∧ f 0 = .iv (.sl (raws p))) (fun f H => (p.length - intAt f 4).toNat) ?_ ?_
  · refine ⟨0, by omega, fun j hj => by omega, ?_⟩
    simp (disch := omega) only [wk, tis, Int.reduceNe, Int.reduceEq, Int.reduceLT, Int.reduceLE, Int.reduceAdd, Int.reduceSub, Int.reduceNeg, Int.reduceMul, Int.reduceToNat, Nat.reduceSub, Nat.reduceMul, Nat.reduceLeDiff, Nat.reduceAdd, Nat.reduceLT, Nat.reduceEqDiff, reduceCtorEq, ↓reduceIte, cpoly_len, natsr_len, natsr_at, natsr_snoc, natsr_app, natsr_rows, natsr_nil]
  rintro f H ⟨i, hi, hz, hF⟩
  rw [intAt_of hF.1]
  simp (disch := omega) only [wk, tis, Int.reduceNe, Int.reduceEq, Int.reduceLT, Int.reduceLE, Int.reduceAdd, Int.reduceSub, Int.reduceNeg, Int.reduceMul, Int.reduceToNat, Nat.reduceSub, Nat.reduceMul, Nat.reduceLeDiff, Nat.reduceAdd, Nat.reduceLT, Nat.reduceEqDiff, reduceCtorEq, ↓reduceIte, cpoly_len, natsr_len, natsr_at, natsr_snoc, natsr_app, natsr_rows, natsr_nil, hF]
  refine if_by (fun hlt => ?_) (fun hlt => ?_)
  · simp (disch := omega) only [wk, tis, Int.reduceNe, Int.reduceEq, Int.reduceLT, Int.reduceLE, Int.reduceAdd, Int.reduceSub, Int.reduceNeg, Int.reduceMul, Int.reduceToNat, Nat.reduceSub, Nat.reduceMul, Nat.reduceLeDiff, Nat.reduceAdd, Nat.reduceLT, Nat.reduceEqDiff, reduceCtorEq, ↓reduceIte, cpoly_len, natsr_len, natsr_at, natsr_snoc, natsr_app, natsr_rows, natsr_nil, hF]
    refine call_by ((rSign_ok (p.getD i (false, [])) (h.get _))) (by first | rfl | (simp only [tocvs, tocv, hF]; rfl)) (by simp) ?_
    simp (disch := omega) only [wk, tis, Int.reduceNe, Int.reduceEq, Int.reduceLT, Int.reduceLE, Int.reduceAdd, Int.reduceSub, Int.reduceNeg, Int.reduceMul, Int.reduceToNat, Nat.reduceSub, Nat.reduceMul, Nat.reduceLeDiff, Nat.reduceAdd, Nat.reduceLT, Nat.reduceEqDiff, reduceCtorEq, ↓reduceIte, cpoly_len, natsr_len, natsr_at, natsr_snoc, natsr_app, natsr_rows, natsr_nil, hF]
    rw [← cf_pv]
    refine if_by (fun hs => ?_) (fun hs => ?_)
    · simp (disch := omega) only [wk, tis, Int.reduceNe, Int.reduceEq, Int.reduceLT, Int.reduceLE, Int.reduceAdd, Int.reduceSub, Int.reduceNeg, Int.reduceMul, Int.reduceToNat, Nat.reduceSub, Nat.reduceMul, Nat.reduceLeDiff, Nat.reduceAdd, Nat.reduceLT, Nat.reduceEqDiff, reduceCtorEq, ↓reduceIte, cpoly_len, natsr_len, natsr_at, natsr_snoc, natsr_app, natsr_rows, natsr_nil, hF]
      have := lw_at hz (fun e => hs (by rw [e]; rfl))
      rw [this, if_pos (by omega), if_pos (by omega)]
      exact ⟨rfl, rfl⟩
    · simp (disch := omega) only [wk, tis, Int.reduceNe, Int.reduceEq, Int.reduceLT, Int.reduceLE, Int.reduceAdd, Int.reduceSub, Int.reduceNeg, Int.reduceMul, Int.reduceToNat, Nat.reduceSub, Nat.reduceMul, Nat.reduceLeDiff, Nat.reduceAdd, Nat.reduceLT, Nat.reduceEqDiff, reduceCtorEq, ↓reduceIte, cpoly_len, natsr_len, natsr_at, natsr_snoc, natsr_app, natsr_rows, natsr_nil, hF]
      have hs : cf (pv p) i = 0 := Int.sign_eq_zero_iff_zero.mp (Decidable.not_not.mp hs)
      refine ⟨⟨i + 1, by omega, fun j hj => ?_, by omega⟩, by omega⟩
      by_cases e : j = i
      · rw [e]; exact hs
      · exact hz j (by omega)
  · simp (disch := omega) only [wk, tis, Int.reduceNe, Int.reduceEq, Int.reduceLT, Int.reduceLE, Int.reduceAdd, Int.reduceSub, Int.reduceNeg, Int.reduceMul, Int.reduceToNat, Nat.reduceSub, Nat.reduceMul, Nat.reduceLeDiff, Nat.reduceAdd, Nat.reduceLT, Nat.reduceEqDiff, reduceCtorEq, ↓reduceIte, cpoly_len, natsr_len, natsr_at, natsr_snoc, natsr_app, natsr_rows, natsr_nil, hF]
    have := lw_all (q := pv p) (fun j hj => hz j (by rw [pv_len] at hj; omega))
    rw [this, pv_len, if_neg (by omega), if_neg (by omega)]
    exact ⟨rfl, rfl⟩

theorem plow_ok (p : List RI) (h : RP (2 ^ 40) (2 ^ 40) p) : AC Try.prog 40 [cw p] none [ci (if lw (pv p) < p.length then lw (pv p) else 0), ci (if lw (pv p) < p.length then 0 else 1)] := by
  refine AC.by_walk (rs := [.tmp 2, .tmp 3]) ords Try.func40 (by rfl) (by rfl) (by rfl) (by rfl) (by rfl) ?_
  have hl := h.1
  simp (disch := omega) only [wk, tis, Int.reduceNe, Int.reduceEq, Int.reduceLT, Int.reduceLE, Int.reduceAdd, Int.reduceSub, Int.reduceNeg, Int.reduceMul, Int.reduceToNat, Nat.reduceSub, Nat.reduceMul, Nat.reduceLeDiff, Nat.reduceAdd, Nat.reduceLT, Nat.reduceEqDiff, reduceCtorEq, ↓reduceIte, cpoly_len, natsr_len, natsr_at, natsr_snoc, natsr_app, natsr_rows, natsr_nil]
  refine aloop_by (fun f H => ∃ (i : Nat), i ≤ p.length ∧ (∀ j, j < i → cf (pv p) j = 0) ∧ f 7 = .iv (.int .i64 i) ∧ f 0 = .iv (.sl (raws p)) ∧ f 6 = .iv (.int .i64 p.length)) (fun f H => (p.length - intAt f 7).toNat) ?_ ?_
  · refine ⟨0, by omega, fun j hj => by omega, ?_⟩
    simp (disch := omega) only [wk, tis, Int.reduceNe, Int.reduceEq, Int.reduceLT, Int.reduceLE, Int.reduceAdd, Int.reduceSub, Int.reduceNeg, Int.reduceMul, Int.reduceToNat, Nat.reduceSub, Nat.reduceMul, Nat.reduceLeDiff, Nat.reduceAdd, Nat.reduceLT, Nat.reduceEqDiff, reduceCtorEq, ↓reduceIte, cpoly_len, natsr_len, natsr_at, natsr_snoc, natsr_app, natsr_rows, natsr_nil]
  rintro f H ⟨i, hi, hz, hF⟩
  rw [intAt_of hF.1]
  simp (disch := omega) only [wk, tis, Int.reduceNe, Int.reduceEq, Int.reduceLT, Int.reduceLE, Int.reduceAdd, Int.reduceSub, Int.reduceNeg, Int.reduceMul, Int.reduceToNat, Nat.reduceSub, Nat.reduceMul, Nat.reduceLeDiff, Nat.reduceAdd, Nat.reduceLT, Nat.reduceEqDiff, reduceCtorEq, ↓reduceIte, cpoly_len, natsr_len, natsr_at, natsr_snoc, natsr_app, natsr_rows, natsr_nil, hF]
  refine if_by (fun hlt => ?_) (fun hlt => ?_)
  · simp (disch := omega) only [wk, tis, Int.reduceNe, Int.reduceEq, Int.reduceLT, Int.reduceLE, Int.reduceAdd, Int.reduceSub, Int.reduceNeg, Int.reduceMul, Int.reduceToNat, Nat.reduceSub, Nat.reduceMul, Nat.reduceLeDiff, Nat.reduceAdd, Nat.reduceLT, Nat.reduceEqDiff, reduceCtorEq, ↓reduceIte, cpoly_len, natsr_len, natsr_at, natsr_snoc, natsr_app, natsr_rows, natsr_nil, hF]
    refine call_by ((zsign_ok (p.getD i (false, [])) (h.get _))) (by first | rfl | (simp only [tocvs, tocv, hF]; rfl)) (by simp) ?_
    simp (disch := omega) only [wk, tis, Int.reduceNe, Int.reduceEq, Int.reduceLT, Int.reduceLE, Int.reduceAdd, Int.reduceSub, Int.reduceNeg, Int.reduceMul, Int.reduceToNat, Nat.reduceSub, Nat.reduceMul, Nat.reduceLeDiff, Nat.reduceAdd, Nat.reduceLT, Nat.reduceEqDiff, reduceCtorEq, ↓reduceIte, cpoly_len, natsr_len, natsr_at, natsr_snoc, natsr_app, natsr_rows, natsr_nil, hF]
    rw [← cf_pv]
    refine if_by (fun hs => ?_) (fun hs => ?_)
    · simp (disch := omega) only [wk, tis, Int.reduceNe, Int.reduceEq, Int.reduceLT, Int.reduceLE, Int.reduceAdd, Int.reduceSub, Int.reduceNeg, Int.reduceMul, Int.reduceToNat, Nat.reduceSub, Nat.reduceMul, Nat.reduceLeDiff, Nat.reduceAdd, Nat.reduceLT, Nat.reduceEqDiff, reduceCtorEq, ↓reduceIte, cpoly_len, natsr_len, natsr_at, natsr_snoc, natsr_app, natsr_rows, natsr_nil, hF]
      have := lw_at hz (fun e => hs (by rw [e]; rfl))
      rw [this, if_pos (by omega), if_pos (by omega)]
      exact ⟨rfl, rfl⟩
    · simp (disch := omega) only [wk, tis, Int.reduceNe, Int.reduceEq, Int.reduceLT, Int.reduceLE, Int.reduceAdd, Int.reduceSub, Int.reduceNeg, Int.reduceMul, Int.reduceToNat, Nat.reduceSub, Nat.reduceMul, Nat.reduceLeDiff, Nat.reduceAdd, Nat.reduceLT, Nat.reduceEqDiff, reduceCtorEq, ↓reduceIte, cpoly_len, natsr_len, natsr_at, natsr_snoc, natsr_app, natsr_rows, natsr_nil, hF]
      have hs : cf (pv p) i = 0 := Int.sign_eq_zero_iff_zero.mp (Decidable.not_not.mp hs)
      refine ⟨⟨i + 1, by omega, fun j hj => ?_, by omega⟩, by omega⟩
      by_cases e : j = i
      · rw [e]; exact hs
      · exact hz j (by omega)
  · simp (disch := omega) only [wk, tis, Int.reduceNe, Int.reduceEq, Int.reduceLT, Int.reduceLE, Int.reduceAdd, Int.reduceSub, Int.reduceNeg, Int.reduceMul, Int.reduceToNat, Nat.reduceSub, Nat.reduceMul, Nat.reduceLeDiff, Nat.reduceAdd, Nat.reduceLT, Nat.reduceEqDiff, reduceCtorEq, ↓reduceIte, cpoly_len, natsr_len, natsr_at, natsr_snoc, natsr_app, natsr_rows, natsr_nil, hF]
    have := lw_all (q := pv p) (fun j hj => hz j (by rw [pv_len] at hj; omega))
    rw [this, pv_len, if_neg (by omega), if_neg (by omega)]
    exact ⟨rfl, rfl⟩

theorem sdeg_ok (p : List RI) (h : RP (2 ^ 40) (2 ^ 40) p) : AC Try.prog 41 [cw p] none [ci ((tz (pv p) : Int) - 1)] := by
  refine AC.by_walk (rs := [.tmp 2]) ords Try.func41 (by rfl) (by rfl) (by rfl) (by rfl) (by rfl) ?_
  have hl := h.1
  simp (disch := omega) only [wk, tis, Int.reduceNe, Int.reduceEq, Int.reduceLT, Int.reduceLE, Int.reduceAdd, Int.reduceSub, Int.reduceNeg, Int.reduceMul, Int.reduceToNat, Nat.reduceSub, Nat.reduceMul, Nat.reduceLeDiff, Nat.reduceAdd, Nat.reduceLT, Nat.reduceEqDiff, reduceCtorEq, ↓reduceIte, cpoly_len, natsr_len, natsr_at, natsr_snoc, natsr_app, natsr_rows, natsr_nil]
  refine aloop_by (fun f H => ∃ (k : Nat), k ≤ p.length ∧ tz ((pv p).take k) = tz (pv p) ∧ f 3 = .iv (.int .i64 ((k : Int) - 1)) ∧ f 0 = .iv (.sl (raws p))) (fun f H => (intAt f 3 + 1).toNat) ?_ ?_
  · refine ⟨p.length, by omega, by rw [← pv_len p, List.take_length], ?_⟩
    simp (disch := omega) only [wk, tis, Int.reduceNe, Int.reduceEq, Int.reduceLT, Int.reduceLE, Int.reduceAdd, Int.reduceSub, Int.reduceNeg, Int.reduceMul, Int.reduceToNat, Nat.reduceSub, Nat.reduceMul, Nat.reduceLeDiff, Nat.reduceAdd, Nat.reduceLT, Nat.reduceEqDiff, reduceCtorEq, ↓reduceIte, cpoly_len, natsr_len, natsr_at, natsr_snoc, natsr_app, natsr_rows, natsr_nil]
  rintro f H ⟨k, hk, ht, hF⟩
  rw [intAt_of hF.1]
  simp (disch := omega) only [wk, tis, Int.reduceNe, Int.reduceEq, Int.reduceLT, Int.reduceLE, Int.reduceAdd, Int.reduceSub, Int.reduceNeg, Int.reduceMul, Int.reduceToNat, Nat.reduceSub, Nat.reduceMul, Nat.reduceLeDiff, Nat.reduceAdd, Nat.reduceLT, Nat.reduceEqDiff, reduceCtorEq, ↓reduceIte, cpoly_len, natsr_len, natsr_at, natsr_snoc, natsr_app, natsr_rows, natsr_nil, hF]
  by_cases h0 : 0 ≤ (k : Int) - 1
  · obtain ⟨j, rfl⟩ : ∃ j, k = j + 1 := ⟨k - 1, by omega⟩
    have ej : ((j + 1 : Nat) : Int) - 1 = (j : Int) := by omega
    rw [ej] at hF
    simp (disch := omega) only [wk, tis, Int.reduceNe, Int.reduceEq, Int.reduceLT, Int.reduceLE, Int.reduceAdd, Int.reduceSub, Int.reduceNeg, Int.reduceMul, Int.reduceToNat, Nat.reduceSub, Nat.reduceMul, Nat.reduceLeDiff, Nat.reduceAdd, Nat.reduceLT, Nat.reduceEqDiff, reduceCtorEq, ↓reduceIte, cpoly_len, natsr_len, natsr_at, natsr_snoc, natsr_app, natsr_rows, natsr_nil, hF, h0, ej]
    refine call_by ((rSign_ok (p.getD j (false, [])) (h.get _))) (by first | rfl | (simp only [tocvs, tocv, hF]; rfl)) (by simp) ?_
    simp (disch := omega) only [wk, tis, Int.reduceNe, Int.reduceEq, Int.reduceLT, Int.reduceLE, Int.reduceAdd, Int.reduceSub, Int.reduceNeg, Int.reduceMul, Int.reduceToNat, Nat.reduceSub, Nat.reduceMul, Nat.reduceLeDiff, Nat.reduceAdd, Nat.reduceLT, Nat.reduceEqDiff, reduceCtorEq, ↓reduceIte, cpoly_len, natsr_len, natsr_at, natsr_snoc, natsr_app, natsr_rows, natsr_nil, hF]
    rw [← cf_pv]
    refine if_by (fun hs => ?_) (fun hs => ?_)
    · simp (disch := omega) only [wk, tis, Int.reduceNe, Int.reduceEq, Int.reduceLT, Int.reduceLE, Int.reduceAdd, Int.reduceSub, Int.reduceNeg, Int.reduceMul, Int.reduceToNat, Nat.reduceSub, Nat.reduceMul, Nat.reduceLeDiff, Nat.reduceAdd, Nat.reduceLT, Nat.reduceEqDiff, reduceCtorEq, ↓reduceIte, cpoly_len, natsr_len, natsr_at, natsr_snoc, natsr_app, natsr_rows, natsr_nil, hF]
      exact ⟨⟨j, by omega, by rw [← tz_take_zero (by rw [pv_len]; omega) (Int.sign_eq_zero_iff_zero.mp hs), ht], rfl⟩, by omega⟩
    · simp (disch := omega) only [wk, tis, Int.reduceNe, Int.reduceEq, Int.reduceLT, Int.reduceLE, Int.reduceAdd, Int.reduceSub, Int.reduceNeg, Int.reduceMul, Int.reduceToNat, Nat.reduceSub, Nat.reduceMul, Nat.reduceLeDiff, Nat.reduceAdd, Nat.reduceLT, Nat.reduceEqDiff, reduceCtorEq, ↓reduceIte, cpoly_len, natsr_len, natsr_at, natsr_snoc, natsr_app, natsr_rows, natsr_nil, hF]
      rw [← ht, tz_full (by rw [pv_len]; omega) (fun e => hs (by rw [e]; rfl))]
      omega
  · simp (disch := omega) only [wk, tis, Int.reduceNe, Int.reduceEq, Int.reduceLT, Int.reduceLE, Int.reduceAdd, Int.reduceSub, Int.reduceNeg, Int.reduceMul, Int.reduceToNat, Nat.reduceSub, Nat.reduceMul, Nat.reduceLeDiff, Nat.reduceAdd, Nat.reduceLT, Nat.reduceEqDiff, reduceCtorEq, ↓reduceIte, cpoly_len, natsr_len, natsr_at, natsr_snoc, natsr_app, natsr_rows, natsr_nil, hF, h0]
    have : k = 0 := by omega
    subst this
    rw [← ht]; rfl

theorem pcoef_ok (p : List RI) (i : Int) (h : RP (2 ^ 40) (2 ^ 40) p) : AC Try.prog 43 [cw p, ci i] none [cz (if i < 0 then 0 else cf (pv p) i.toNat)] := by
  refine AC.by_walk (rs := [.cell 4 40]) ords Try.func43 (by rfl) (by rfl) (by rfl) (by rfl) (by rfl) ?_
  have hl := h.1
  simp (disch := omega) only [wk, tis, Int.reduceNe, Int.reduceEq, Int.reduceLT, Int.reduceLE, Int.reduceAdd, Int.reduceSub, Int.reduceNeg, Int.reduceMul, Int.reduceToNat, Nat.reduceSub, Nat.reduceMul, Nat.reduceLeDiff, Nat.reduceAdd, Nat.reduceLT, Nat.reduceEqDiff, reduceCtorEq, ↓reduceIte, cpoly_len, natsr_len, natsr_at, natsr_snoc, natsr_app, natsr_rows, natsr_nil]
  have key : AC Try.prog 95 [cw p, ci i] none [cr (if i < 0 then (false, []) else p.getD i.toNat (false, []))] := by
    refine AC.by_walk (rs := [.cell 4 40]) ords Try.func95 (by rfl) (by rfl) (by rfl) (by rfl) (by rfl) ?_
    by_cases h0 : i < 0
    · simp (disch := omega) only [wk, tis, Int.reduceNe, Int.reduceEq, Int.reduceLT, Int.reduceLE, Int.reduceAdd, Int.reduceSub, Int.reduceNeg, Int.reduceMul, Int.reduceToNat, Nat.reduceSub, Nat.reduceMul, Nat.reduceLeDiff, Nat.reduceAdd, Nat.reduceLT, Nat.reduceEqDiff, reduceCtorEq, ↓reduceIte, cpoly_len, natsr_len, natsr_at, natsr_snoc, natsr_app, natsr_rows, natsr_nil, h0]
    by_cases h1 : (p.length : Int) ≤ i
    · simp (disch := omega) only [wk, tis, Int.reduceNe, Int.reduceEq, Int.reduceLT, Int.reduceLE, Int.reduceAdd, Int.reduceSub, Int.reduceNeg, Int.reduceMul, Int.reduceToNat, Nat.reduceSub, Nat.reduceMul, Nat.reduceLeDiff, Nat.reduceAdd, Nat.reduceLT, Nat.reduceEqDiff, reduceCtorEq, ↓reduceIte, cpoly_len, natsr_len, natsr_at, natsr_snoc, natsr_app, natsr_rows, natsr_nil, h0, h1]
      have e : p.getD i.toNat (false, []) = (false, []) := by rw [List.getD_eq_getElem?_getD, List.getElem?_eq_none (by omega)]; rfl
      rw [e]
    · simp (disch := omega) only [wk, tis, Int.reduceNe, Int.reduceEq, Int.reduceLT, Int.reduceLE, Int.reduceAdd, Int.reduceSub, Int.reduceNeg, Int.reduceMul, Int.reduceToNat, Nat.reduceSub, Nat.reduceMul, Nat.reduceLeDiff, Nat.reduceAdd, Nat.reduceLT, Nat.reduceEqDiff, reduceCtorEq, ↓reduceIte, cpoly_len, natsr_len, natsr_at, natsr_snoc, natsr_app, natsr_rows, natsr_nil, h0, h1]
  refine call_by (key) (by rfl) (by simp) ?_
  simp (disch := omega) only [wk, tis, Int.reduceNe, Int.reduceEq, Int.reduceLT, Int.reduceLE, Int.reduceAdd, Int.reduceSub, Int.reduceNeg, Int.reduceMul, Int.reduceToNat, Nat.reduceSub, Nat.reduceMul, Nat.reduceLeDiff, Nat.reduceAdd, Nat.reduceLT, Nat.reduceEqDiff, reduceCtorEq, ↓reduceIte, cpoly_len, natsr_len, natsr_at, natsr_snoc, natsr_app, natsr_rows, natsr_nil]
  have hs : Sz (2 ^ 40) (if i < 0 then (false, []) else p.getD i.toNat (false, [])) := by
    split
    · exact ⟨by simp, Lim.nil⟩
    · exact h.get _
  have e : iv (if i < 0 then (false, []) else p.getD i.toNat (false, [])) = if i < 0 then 0 else cf (pv p) i.toNat := by
    split
    · exact iv_zero
    · rw [← cf_pv]
  refine call_by ((znorm_ok _ hs)) (by rfl) (by simp) ?_
  simp (disch := omega) only [wk, tis, Int.reduceNe, Int.reduceEq, Int.reduceLT, Int.reduceLE, Int.reduceAdd, Int.reduceSub, Int.reduceNeg, Int.reduceMul, Int.reduceToNat, Nat.reduceSub, Nat.reduceMul, Nat.reduceLeDiff, Nat.reduceAdd, Nat.reduceLT, Nat.reduceEqDiff, reduceCtorEq, ↓reduceIte, cpoly_len, natsr_len, natsr_at, natsr_snoc, natsr_app, natsr_rows, natsr_nil]
  rw [e]

theorem plead_ok (p : List RI) (h : RP (2 ^ 40) (2 ^ 40) p) : AC Try.prog 45 [cw p] none [cz (cf (pv p) (tz (pv p) - 1))] := by
  refine AC.by_walk (rs := [.cell 2 40]) ords Try.func45 (by rfl) (by rfl) (by rfl) (by rfl) (by rfl) ?_
  have hl := h.1
  simp (disch := omega) only [wk, tis, Int.reduceNe, Int.reduceEq, Int.reduceLT, Int.reduceLE, Int.reduceAdd, Int.reduceSub, Int.reduceNeg, Int.reduceMul, Int.reduceToNat, Nat.reduceSub, Nat.reduceMul, Nat.reduceLeDiff, Nat.reduceAdd, Nat.reduceLT, Nat.reduceEqDiff, reduceCtorEq, ↓reduceIte, cpoly_len, natsr_len, natsr_at, natsr_snoc, natsr_app, natsr_rows, natsr_nil]
  refine call_by ((pdeg_ok p h)) (by rfl) (by simp) ?_
  simp (disch := omega) only [wk, tis, Int.reduceNe, Int.reduceEq, Int.reduceLT, Int.reduceLE, Int.reduceAdd, Int.reduceSub, Int.reduceNeg, Int.reduceMul, Int.reduceToNat, Nat.reduceSub, Nat.reduceMul, Nat.reduceLeDiff, Nat.reduceAdd, Nat.reduceLT, Nat.reduceEqDiff, reduceCtorEq, ↓reduceIte, cpoly_len, natsr_len, natsr_at, natsr_snoc, natsr_app, natsr_rows, natsr_nil]
  have := pcoef_ok p ((tz (pv p) : Int) - 1) h
  have e : (if (tz (pv p) : Int) - 1 < 0 then 0 else cf (pv p) ((tz (pv p) : Int) - 1).toNat) = cf (pv p) (tz (pv p) - 1) := by
    by_cases h0 : tz (pv p) = 0
    · rw [if_pos (by omega), cf_ge_tz _ (by omega)]
    · rw [if_neg (by omega)]; congr 1; omega
  rw [e] at this
  refine call_by (this) (by rfl) (by simp) ?_
  simp (disch := omega) only [wk, tis, Int.reduceNe, Int.reduceEq, Int.reduceLT, Int.reduceLE, Int.reduceAdd, Int.reduceSub, Int.reduceNeg, Int.reduceMul, Int.reduceToNat, Nat.reduceSub, Nat.reduceMul, Nat.reduceLeDiff, Nat.reduceAdd, Nat.reduceLT, Nat.reduceEqDiff, reduceCtorEq, ↓reduceIte, cpoly_len, natsr_len, natsr_at, natsr_snoc, natsr_app, natsr_rows, natsr_nil]

theorem slead_ok (p : List RI) (h : RP (2 ^ 40) (2 ^ 40) p) : AC Try.prog 46 [cw p] none [cz (cf (pv p) (tz (pv p) - 1))] := by
  refine AC.by_walk (rs := [.cell 2 40]) ords Try.func46 (by rfl) (by rfl) (by rfl) (by rfl) (by rfl) ?_
  have hl := h.1
  simp (disch := omega) only [wk, tis, Int.reduceNe, Int.reduceEq, Int.reduceLT, Int.reduceLE, Int.reduceAdd, Int.reduceSub, Int.reduceNeg, Int.reduceMul, Int.reduceToNat, Nat.reduceSub, Nat.reduceMul, Nat.reduceLeDiff, Nat.reduceAdd, Nat.reduceLT, Nat.reduceEqDiff, reduceCtorEq, ↓reduceIte, cpoly_len, natsr_len, natsr_at, natsr_snoc, natsr_app, natsr_rows, natsr_nil]
  refine call_by ((sdeg_ok p h)) (by rfl) (by simp) ?_
  simp (disch := omega) only [wk, tis, Int.reduceNe, Int.reduceEq, Int.reduceLT, Int.reduceLE, Int.reduceAdd, Int.reduceSub, Int.reduceNeg, Int.reduceMul, Int.reduceToNat, Nat.reduceSub, Nat.reduceMul, Nat.reduceLeDiff, Nat.reduceAdd, Nat.reduceLT, Nat.reduceEqDiff, reduceCtorEq, ↓reduceIte, cpoly_len, natsr_len, natsr_at, natsr_snoc, natsr_app, natsr_rows, natsr_nil]
  have := scoef_ok p ((tz (pv p) : Int) - 1) h
  have e : (if (tz (pv p) : Int) - 1 < 0 then 0 else cf (pv p) ((tz (pv p) : Int) - 1).toNat) = cf (pv p) (tz (pv p) - 1) := by
    by_cases h0 : tz (pv p) = 0
    · rw [if_pos (by omega), cf_ge_tz _ (by omega)]
    · rw [if_neg (by omega)]; congr 1; omega
  rw [e] at this
  refine call_by (this) (by rfl) (by simp) ?_
  simp (disch := omega) only [wk, tis, Int.reduceNe, Int.reduceEq, Int.reduceLT, Int.reduceLE, Int.reduceAdd, Int.reduceSub, Int.reduceNeg, Int.reduceMul, Int.reduceToNat, Nat.reduceSub, Nat.reduceMul, Nat.reduceLeDiff, Nat.reduceAdd, Nat.reduceLT, Nat.reduceEqDiff, reduceCtorEq, ↓reduceIte, cpoly_len, natsr_len, natsr_at, natsr_snoc, natsr_app, natsr_rows, natsr_nil]

end Go.Proofs.Ythgecppfgdadiaa

namespace Go.Proofs.Ythgecppfgdadiaa
open Go Go.Proofs Go.AL
set_option linter.unusedSimpArgs false
set_option linter.unusedVariables false

theorem topW_lt {x y i : Nat} (h : x / W ^ (i + 1) = y / W ^ (i + 1)) (hd : x / W ^ i % W < y / W ^ i % W) : x < y := by
  have e : ∀ z : Nat, z / W ^ i = W * (z / W ^ (i + 1)) + z / W ^ i % W := fun z => by
    rw [Nat.pow_succ, ← Nat.div_div_eq_div_mul]; exact (Nat.div_add_mod _ _).symm
  have h1 := e x
  have h2 := e y
  rw [h] at h1
  rcases Nat.lt_or_ge x y with h3 | h3
  · exact h3
  · have := Nat.div_le_div_right (c := W ^ i) h3
    omega

theorem word_at {l : List Nat} (h : Lim l) (k : Nat) : l.getD k 0 = nv l / W ^ k % W := by
  have h1 := vl_take_next W l k
  have e1 := nv_take h (k + 1)
  have e2 := nv_take h k
  simp only [nv] at *
  rw [e1, e2, Nat.mod_pow_succ] at h1
  exact (Nat.eq_of_mul_eq_mul_left (W_pow_pos k) (Nat.add_left_cancel h1)).symm

theorem lcmp_ok (a b : List Nat) (ha : Lim a) (hb : Lim b) (hla : a.length ≤ 2 ^ 42) (hlb : b.length ≤ 2 ^ 42) : AC Try.prog 142 [cl a, cl b] none [ci (cmpN (nv a) (nv b))] := by
  refine AC.by_walk (rs := [.tmp 4]) ords Try.func142 (by rfl) (by rfl) (by rfl) (by rfl) (by rfl) ?_
  generalize hn : max a.length b.length = n at *
  have hnI : max (a.length : Int) (b.length : Int) = (n : Int) := by omega
  have h0 : nv a / W ^ n = nv b / W ^ n := by
    have hA := nv_lt ha
    have hB := nv_lt hb
    have hA2 : W ^ a.length ≤ W ^ n := Nat.pow_le_pow_right (by decide) (by omega)
    have hB2 : W ^ b.length ≤ W ^ n := Nat.pow_le_pow_right (by decide) (by omega)
    rw [Nat.div_eq_of_lt (by omega), Nat.div_eq_of_lt (by omega)]
  simp (disch := omega) only [wk, tis, Int.reduceNe, Int.reduceEq, Int.reduceLT, Int.reduceLE, Int.reduceAdd, Int.reduceSub, Int.reduceNeg, Int.reduceMul, Int.reduceToNat, Nat.reduceSub, Nat.reduceMul, Nat.reduceLeDiff, Nat.reduceAdd, Nat.reduceLT, Nat.reduceEqDiff, reduceCtorEq, ↓reduceIte, cpoly_len, natsr_len, natsr_at, natsr_snoc, natsr_app, natsr_rows, natsr_nil, hnI]
  refine aloop_by (fun f H => ∃ (i : Nat), i ≤ n ∧ nv a / W ^ i = nv b / W ^ i ∧ f 6 = .iv (.int .i64 ((i : Int) - 1)) ∧ f 0 = .iv (.sl (lims a)) ∧ f 1 = .iv (.sl (lims b))) (fun f H => (intAt f 6 + 1).toNat) ?_ ?_
  · refine ⟨n, by omega, h0, ?_⟩
    simp (disch := omega) only [wk, tis, Int.reduceNe, Int.reduceEq, Int.reduceLT, Int.reduceLE, Int.reduceAdd, Int.reduceSub, Int.reduceNeg, Int.reduceMul, Int.reduceToNat, Nat.reduceSub, Nat.reduceMul, Nat.reduceLeDiff, Nat.reduceAdd, Nat.reduceLT, Nat.reduceEqDiff, reduceCtorEq, ↓reduceIte, cpoly_len, natsr_len, natsr_at, natsr_snoc, natsr_app, natsr_rows, natsr_nil]
  rintro f H ⟨i, hi, hv, hF⟩
  rw [intAt_of hF.1]
  simp (disch := omega) only [wk, tis, Int.reduceNe, Int.reduceEq, Int.reduceLT, Int.reduceLE, Int.reduceAdd, Int.reduceSub, Int.reduceNeg, Int.reduceMul, Int.reduceToNat, Nat.reduceSub, Nat.reduceMul, Nat.reduceLeDiff, Nat.reduceAdd, Nat.reduceLT, Nat.reduceEqDiff, reduceCtorEq, ↓reduceIte, cpoly_len, natsr_len, natsr_at, natsr_snoc, natsr_app, natsr_rows, natsr_nil, hF]
  refine if_by (fun hlt => ?_) (fun hlt => ?_)
  · obtain ⟨j, rfl⟩ : ∃ j, i = j + 1 := ⟨i - 1, by omega⟩
    have ej : ((j + 1 : Nat) : Int) - 1 = (j : Int) := by omega
    have hx := word_at ha j
    have hy := word_at hb j
    rw [ej] at hF
    simp (disch := omega) only [wk, tis, Int.reduceNe, Int.reduceEq, Int.reduceLT, Int.reduceLE, Int.reduceAdd, Int.reduceSub, Int.reduceNeg, Int.reduceMul, Int.reduceToNat, Nat.reduceSub, Nat.reduceMul, Nat.reduceLeDiff, Nat.reduceAdd, Nat.reduceLT, Nat.reduceEqDiff, reduceCtorEq, ↓reduceIte, cpoly_len, natsr_len, natsr_at, natsr_snoc, natsr_app, natsr_rows, natsr_nil, hF]
    refine call_by ((at_ok a j (by omega))) (by first | rfl | (simp only [tocvs, tocv, hF]; rfl)) (by simp) ?_
    simp (disch := omega) only [wk, tis, Int.reduceNe, Int.reduceEq, Int.reduceLT, Int.reduceLE, Int.reduceAdd, Int.reduceSub, Int.reduceNeg, Int.reduceMul, Int.reduceToNat, Nat.reduceSub, Nat.reduceMul, Nat.reduceLeDiff, Nat.reduceAdd, Nat.reduceLT, Nat.reduceEqDiff, reduceCtorEq, ↓reduceIte, cpoly_len, natsr_len, natsr_at, natsr_snoc, natsr_app, natsr_rows, natsr_nil, hF]
    refine call_by ((at_ok b j (by omega))) (by first | rfl | (simp only [tocvs, tocv, hF]; rfl)) (by simp) ?_
    simp (disch := omega) only [wk, tis, Int.reduceNe, Int.reduceEq, Int.reduceLT, Int.reduceLE, Int.reduceAdd, Int.reduceSub, Int.reduceNeg, Int.reduceMul, Int.reduceToNat, Nat.reduceSub, Nat.reduceMul, Nat.reduceLeDiff, Nat.reduceAdd, Nat.reduceLT, Nat.reduceEqDiff, reduceCtorEq, ↓reduceIte, cpoly_len, natsr_len, natsr_at, natsr_snoc, natsr_app, natsr_rows, natsr_nil, hF]
    refine if_by (fun h1 => ?_) (fun h1 => ?_)
    · simp (disch := omega) only [wk, tis, Int.reduceNe, Int.reduceEq, Int.reduceLT, Int.reduceLE, Int.reduceAdd, Int.reduceSub, Int.reduceNeg, Int.reduceMul, Int.reduceToNat, Nat.reduceSub, Nat.reduceMul, Nat.reduceLeDiff, Nat.reduceAdd, Nat.reduceLT, Nat.reduceEqDiff, reduceCtorEq, ↓reduceIte, cpoly_len, natsr_len, natsr_at, natsr_snoc, natsr_app, natsr_rows, natsr_nil, hF]
      refine ⟨⟨j, by omega, ?_, rfl⟩, by omega⟩
      have e : ∀ z : Nat, z / W ^ j = W * (z / W ^ (j + 1)) + z / W ^ j % W := fun z => by
        rw [Nat.pow_succ, ← Nat.div_div_eq_div_mul]; exact (Nat.div_add_mod _ _).symm
      rw [e (nv a), e (nv b), hv]
      omega
    simp (disch := omega) only [wk, tis, Int.reduceNe, Int.reduceEq, Int.reduceLT, Int.reduceLE, Int.reduceAdd, Int.reduceSub, Int.reduceNeg, Int.reduceMul, Int.reduceToNat, Nat.reduceSub, Nat.reduceMul, Nat.reduceLeDiff, Nat.reduceAdd, Nat.reduceLT, Nat.reduceEqDiff, reduceCtorEq, ↓reduceIte, cpoly_len, natsr_len, natsr_at, natsr_snoc, natsr_app, natsr_rows, natsr_nil, hF]
    refine if_by (fun h2 => ?_) (fun h2 => ?_)
    · simp (disch := omega) only [wk, tis, Int.reduceNe, Int.reduceEq, Int.reduceLT, Int.reduceLE, Int.reduceAdd, Int.reduceSub, Int.reduceNeg, Int.reduceMul, Int.reduceToNat, Nat.reduceSub, Nat.reduceMul, Nat.reduceLeDiff, Nat.reduceAdd, Nat.reduceLT, Nat.reduceEqDiff, reduceCtorEq, ↓reduceIte, cpoly_len, natsr_len, natsr_at, natsr_snoc, natsr_app, natsr_rows, natsr_nil, hF]
      have : nv a < nv b := topW_lt hv (by omega)
      rw [cmpN, if_pos this]
    simp (disch := omega) only [wk, tis, Int.reduceNe, Int.reduceEq, Int.reduceLT, Int.reduceLE, Int.reduceAdd, Int.reduceSub, Int.reduceNeg, Int.reduceMul, Int.reduceToNat, Nat.reduceSub, Nat.reduceMul, Nat.reduceLeDiff, Nat.reduceAdd, Nat.reduceLT, Nat.reduceEqDiff, reduceCtorEq, ↓reduceIte, cpoly_len, natsr_len, natsr_at, natsr_snoc, natsr_app, natsr_rows, natsr_nil, hF]
    have : nv b < nv a := topW_lt hv.symm (by omega)
    rw [cmpN, if_neg (by omega), if_pos this]
  · simp (disch := omega) only [wk, tis, Int.reduceNe, Int.reduceEq, Int.reduceLT, Int.reduceLE, Int.reduceAdd, Int.reduceSub, Int.reduceNeg, Int.reduceMul, Int.reduceToNat, Nat.reduceSub, Nat.reduceMul, Nat.reduceLeDiff, Nat.reduceAdd, Nat.reduceLT, Nat.reduceEqDiff, reduceCtorEq, ↓reduceIte, cpoly_len, natsr_len, natsr_at, natsr_snoc, natsr_app, natsr_rows, natsr_nil, hF]
    have : i = 0 := by omega
    subst this
    simp at hv
    rw [hv, cmpN]; simp

theorem ncmp_ok (a b : List Nat) (ha : Lim a) (hb : Lim b) (hla : a.length ≤ 2 ^ 42) (hlb : b.length ≤ 2 ^ 42) : AC Try.prog 109 [cl a, cl b] none [ci (cmpN (nv a) (nv b))] := by
  refine AC.by_walk (rs := [.tmp 4]) ords Try.func109 (by rfl) (by rfl) (by rfl) (by rfl) (by rfl) ?_
  simp (disch := omega) only [wk, tis, Int.reduceNe, Int.reduceEq, Int.reduceLT, Int.reduceLE, Int.reduceAdd, Int.reduceSub, Int.reduceNeg, Int.reduceMul, Int.reduceToNat, Nat.reduceSub, Nat.reduceMul, Nat.reduceLeDiff, Nat.reduceAdd, Nat.reduceLT, Nat.reduceEqDiff, reduceCtorEq, ↓reduceIte, cpoly_len, natsr_len, natsr_at, natsr_snoc, natsr_app, natsr_rows, natsr_nil]
  refine call_by ((lcmp_ok a b ha hb hla hlb)) (by rfl) (by simp) ?_
  simp (disch := omega) only [wk, tis, Int.reduceNe, Int.reduceEq, Int.reduceLT, Int.reduceLE, Int.reduceAdd, Int.reduceSub, Int.reduceNeg, Int.reduceMul, Int.reduceToNat, Nat.reduceSub, Nat.reduceMul, Nat.reduceLeDiff, Nat.reduceAdd, Nat.reduceLT, Nat.reduceEqDiff, reduceCtorEq, ↓reduceIte, cpoly_len, natsr_len, natsr_at, natsr_snoc, natsr_app, natsr_rows, natsr_nil]

theorem zcmp_ok (a b : RI) (ha : Sz (2 ^ 40) a) (hb : Sz (2 ^ 40) b) : AC Try.prog 107 [cr a, cr b] none [ci (cmpZ (iv a) (iv b))] := by
  refine AC.by_walk (rs := [.tmp 4]) ords Try.func107 (by rfl) (by rfl) (by rfl) (by rfl) (by rfl) ?_
  have hla := ha.1
  have hlb := hb.1
  have sa := Int.sign_mul_natAbs (iv a)
  have sb := Int.sign_mul_natAbs (iv b)
  have na := iv_abs a
  have nb := iv_abs b
  have ca : (iv a).sign = -1 ∧ iv a < 0 ∨ (iv a).sign = 0 ∧ iv a = 0 ∨ (iv a).sign = 1 ∧ 0 < iv a := by
    rcases Int.lt_trichotomy (iv a) 0 with h | h | h
    · exact .inl ⟨Int.sign_eq_neg_one_of_neg h, h⟩
    · exact .inr (.inl ⟨by rw [h]; rfl, h⟩)
    · exact .inr (.inr ⟨Int.sign_eq_one_of_pos h, h⟩)
  have cb' : (iv b).sign = -1 ∧ iv b < 0 ∨ (iv b).sign = 0 ∧ iv b = 0 ∨ (iv b).sign = 1 ∧ 0 < iv b := by
    rcases Int.lt_trichotomy (iv b) 0 with h | h | h
    · exact .inl ⟨Int.sign_eq_neg_one_of_neg h, h⟩
    · exact .inr (.inl ⟨by rw [h]; rfl, h⟩)
    · exact .inr (.inr ⟨Int.sign_eq_one_of_pos h, h⟩)
  simp (disch := omega) only [wk, tis, Int.reduceNe, Int.reduceEq, Int.reduceLT, Int.reduceLE, Int.reduceAdd, Int.reduceSub, Int.reduceNeg, Int.reduceMul, Int.reduceToNat, Nat.reduceSub, Nat.reduceMul, Nat.reduceLeDiff, Nat.reduceAdd, Nat.reduceLT, Nat.reduceEqDiff, reduceCtorEq, ↓reduceIte, cpoly_len, natsr_len, natsr_at, natsr_snoc, natsr_app, natsr_rows, natsr_nil]
  refine ⟨tmps_by (by kernel_rfl), ?_⟩
  refine call_by ((zsign_ok a ha)) (by rfl) (by simp) ?_
  simp (disch := omega) only [wk, tis, Int.reduceNe, Int.reduceEq, Int.reduceLT, Int.reduceLE, Int.reduceAdd, Int.reduceSub, Int.reduceNeg, Int.reduceMul, Int.reduceToNat, Nat.reduceSub, Nat.reduceMul, Nat.reduceLeDiff, Nat.reduceAdd, Nat.reduceLT, Nat.reduceEqDiff, reduceCtorEq, ↓reduceIte, cpoly_len, natsr_len, natsr_at, natsr_snoc, natsr_app, natsr_rows, natsr_nil]
  refine call_by ((zsign_ok b hb)) (by rfl) (by simp) ?_
  simp (disch := omega) only [wk, tis, Int.reduceNe, Int.reduceEq, Int.reduceLT, Int.reduceLE, Int.reduceAdd, Int.reduceSub, Int.reduceNeg, Int.reduceMul, Int.reduceToNat, Nat.reduceSub, Nat.reduceMul, Nat.reduceLeDiff, Nat.reduceAdd, Nat.reduceLT, Nat.reduceEqDiff, reduceCtorEq, ↓reduceIte, cpoly_len, natsr_len, natsr_at, natsr_snoc, natsr_app, natsr_rows, natsr_nil]
  first | exact log_by (by kernel_rfl) | refine ⟨log_by (by kernel_rfl), ?_⟩
  refine if_by (fun h1 => ?_) (fun h1 => ?_)
  · simp (disch := omega) only [wk, tis, Int.reduceNe, Int.reduceEq, Int.reduceLT, Int.reduceLE, Int.reduceAdd, Int.reduceSub, Int.reduceNeg, Int.reduceMul, Int.reduceToNat, Nat.reduceSub, Nat.reduceMul, Nat.reduceLeDiff, Nat.reduceAdd, Nat.reduceLT, Nat.reduceEqDiff, reduceCtorEq, ↓reduceIte, cpoly_len, natsr_len, natsr_at, natsr_snoc, natsr_app, natsr_rows, natsr_nil]
    rw [cmpZ, if_pos (by omega)]
  simp (disch := omega) only [wk, tis, Int.reduceNe, Int.reduceEq, Int.reduceLT, Int.reduceLE, Int.reduceAdd, Int.reduceSub, Int.reduceNeg, Int.reduceMul, Int.reduceToNat, Nat.reduceSub, Nat.reduceMul, Nat.reduceLeDiff, Nat.reduceAdd, Nat.reduceLT, Nat.reduceEqDiff, reduceCtorEq, ↓reduceIte, cpoly_len, natsr_len, natsr_at, natsr_snoc, natsr_app, natsr_rows, natsr_nil]
  refine if_by (fun h2 => ?_) (fun h2 => ?_)
  · simp (disch := omega) only [wk, tis, Int.reduceNe, Int.reduceEq, Int.reduceLT, Int.reduceLE, Int.reduceAdd, Int.reduceSub, Int.reduceNeg, Int.reduceMul, Int.reduceToNat, Nat.reduceSub, Nat.reduceMul, Nat.reduceLeDiff, Nat.reduceAdd, Nat.reduceLT, Nat.reduceEqDiff, reduceCtorEq, ↓reduceIte, cpoly_len, natsr_len, natsr_at, natsr_snoc, natsr_app, natsr_rows, natsr_nil]
    rw [cmpZ, if_neg (by omega), if_pos (by omega)]
  simp (disch := omega) only [wk, tis, Int.reduceNe, Int.reduceEq, Int.reduceLT, Int.reduceLE, Int.reduceAdd, Int.reduceSub, Int.reduceNeg, Int.reduceMul, Int.reduceToNat, Nat.reduceSub, Nat.reduceMul, Nat.reduceLeDiff, Nat.reduceAdd, Nat.reduceLT, Nat.reduceEqDiff, reduceCtorEq, ↓reduceIte, cpoly_len, natsr_len, natsr_at, natsr_snoc, natsr_app, natsr_rows, natsr_nil]
  refine call_by ((ncmp_ok a.2 b.2 ha.2 hb.2 (by omega) (by omega))) (by rfl) (by simp) ?_
  simp (disch := omega) only [wk, tis, Int.reduceNe, Int.reduceEq, Int.reduceLT, Int.reduceLE, Int.reduceAdd, Int.reduceSub, Int.reduceNeg, Int.reduceMul, Int.reduceToNat, Nat.reduceSub, Nat.reduceMul, Nat.reduceLeDiff, Nat.reduceAdd, Nat.reduceLT, Nat.reduceEqDiff, reduceCtorEq, ↓reduceIte, cpoly_len, natsr_len, natsr_at, natsr_snoc, natsr_app, natsr_rows, natsr_nil]
  have e : (iv a).sign * cmpN (nv a.2) (nv b.2) = cmpZ (iv a) (iv b) := by
    have hs : (iv a).sign = (iv b).sign := by omega
    rcases ca with ⟨h, h'⟩ | ⟨h, h'⟩ | ⟨h, h'⟩ <;> rw [h]
    · unfold cmpN cmpZ; rw [← na, ← nb]; split <;> split <;> (try split) <;> (try split) <;> omega
    · unfold cmpZ; rw [if_neg (by omega), if_neg (by omega)]; simp
    · unfold cmpN cmpZ; rw [← na, ← nb]; split <;> split <;> (try split) <;> (try split) <;> omega
  rw [e]
  have hb3 : -1 ≤ cmpZ (iv a) (iv b) ∧ cmpZ (iv a) (iv b) ≤ 1 := by unfold cmpZ; split <;> (try split) <;> omega
  simp (disch := omega) only [wk, tis, Int.reduceNe, Int.reduceEq, Int.reduceLT, Int.reduceLE, Int.reduceAdd, Int.reduceSub, Int.reduceNeg, Int.reduceMul, Int.reduceToNat, Nat.reduceSub, Nat.reduceMul, Nat.reduceLeDiff, Nat.reduceAdd, Nat.reduceLT, Nat.reduceEqDiff, reduceCtorEq, ↓reduceIte, cpoly_len, natsr_len, natsr_at, natsr_snoc, natsr_app, natsr_rows, natsr_nil]

theorem cmpZ_zero {x y : Int} : cmpZ x y = 0 ↔ x = y := by unfold cmpZ; split <;> (try split) <;> omega

theorem peq_ok (a b : List RI) (ha : RP (2 ^ 40) (2 ^ 40) a) (hb : RP (2 ^ 40) (2 ^ 40) b) : AC Try.prog 47 [cw a, cw b] none [cb (decide (trimz (pv a) = trimz (pv b)))] := by
  refine AC.by_walk (rs := [.tmp 4]) ords Try.func47 (by rfl) (by rfl) (by rfl) (by rfl) (by rfl) ?_
  have hla := ha.1
  have hlb := hb.1
  generalize hn : max a.length b.length = n at *
  have hnI : max (a.length : Int) (b.length : Int) = (n : Int) := by omega
  simp (disch := omega) only [wk, tis, Int.reduceNe, Int.reduceEq, Int.reduceLT, Int.reduceLE, Int.reduceAdd, Int.reduceSub, Int.reduceNeg, Int.reduceMul, Int.reduceToNat, Nat.reduceSub, Nat.reduceMul, Nat.reduceLeDiff, Nat.reduceAdd, Nat.reduceLT, Nat.reduceEqDiff, reduceCtorEq, ↓reduceIte, cpoly_len, natsr_len, natsr_at, natsr_snoc, natsr_app, natsr_rows, natsr_nil, hnI]
  refine aloop_by (fun f H => ∃ (i : Nat), i ≤ n ∧ (∀ j, j < i → cf (pv a) j = cf (pv b) j) ∧ f 11 = .iv (.int .i64 i) ∧ f 0 = .iv (.sl (raws a)) ∧ f 1 = .iv (.sl (raws b)) ∧ f 10 = .iv (.int .i64 n)) (fun f H => (n - intAt f 11).toNat) ?_ ?_
  · refine ⟨0, by omega, fun j hj => by omega, ?_⟩
    simp (disch := omega) only [wk, tis, Int.reduceNe, Int.reduceEq, Int.reduceLT, Int.reduceLE, Int.reduceAdd, Int.reduceSub, Int.reduceNeg, Int.reduceMul, Int.reduceToNat, Nat.reduceSub, Nat.reduceMul, Nat.reduceLeDiff, Nat.reduceAdd, Nat.reduceLT, Nat.reduceEqDiff, reduceCtorEq, ↓reduceIte, cpoly_len, natsr_len, natsr_at, natsr_snoc, natsr_app, natsr_rows, natsr_nil]
  rintro f H ⟨i, hi, hz, hF⟩
  rw [intAt_of hF.1]
  simp (disch := omega) only [wk, tis, Int.reduceNe, Int.reduceEq, Int.reduceLT, Int.reduceLE, Int.reduceAdd, Int.reduceSub, Int.reduceNeg, Int.reduceMul, Int.reduceToNat, Nat.reduceSub, Nat.reduceMul, Nat.reduceLeDiff, Nat.reduceAdd, Nat.reduceLT, Nat.reduceEqDiff, reduceCtorEq, ↓reduceIte, cpoly_len, natsr_len, natsr_at, natsr_snoc, natsr_app, natsr_rows, natsr_nil, hF]
  refine if_by (fun hlt => ?_) (fun hlt => ?_)
  · simp (disch := omega) only [wk, tis, Int.reduceNe, Int.reduceEq, Int.reduceLT, Int.reduceLE, Int.reduceAdd, Int.reduceSub, Int.reduceNeg, Int.reduceMul, Int.reduceToNat, Nat.reduceSub, Nat.reduceMul, Nat.reduceLeDiff, Nat.reduceAdd, Nat.reduceLT, Nat.reduceEqDiff, reduceCtorEq, ↓reduceIte, cpoly_len, natsr_len, natsr_at, natsr_snoc, natsr_app, natsr_rows, natsr_nil, hF]
    refine call_by ((pat_ok a i (by omega) (by omega))) (by first | rfl | (simp only [tocvs, tocv, hF]; rfl)) (by simp) ?_
    simp (disch := omega) only [wk, tis, Int.reduceNe, Int.reduceEq, Int.reduceLT, Int.reduceLE, Int.reduceAdd, Int.reduceSub, Int.reduceNeg, Int.reduceMul, Int.reduceToNat, Nat.reduceSub, Nat.reduceMul, Nat.reduceLeDiff, Nat.reduceAdd, Nat.reduceLT, Nat.reduceEqDiff, reduceCtorEq, ↓reduceIte, cpoly_len, natsr_len, natsr_at, natsr_snoc, natsr_app, natsr_rows, natsr_nil, hF]
    refine call_by ((pat_ok b i (by omega) (by omega))) (by first | rfl | (simp only [tocvs, tocv, hF]; rfl)) (by simp) ?_
    simp (disch := omega) only [wk, tis, Int.reduceNe, Int.reduceEq, Int.reduceLT, Int.reduceLE, Int.reduceAdd, Int.reduceSub, Int.reduceNeg, Int.reduceMul, Int.reduceToNat, Nat.reduceSub, Nat.reduceMul, Nat.reduceLeDiff, Nat.reduceAdd, Nat.reduceLT, Nat.reduceEqDiff, reduceCtorEq, ↓reduceIte, cpoly_len, natsr_len, natsr_at, natsr_snoc, natsr_app, natsr_rows, natsr_nil, hF]
    refine call_by ((zcmp_ok (a.getD i (false, [])) (b.getD i (false, [])) (ha.get i) (hb.get i))) (by first | rfl | (simp only [tocvs, tocv, hF]; rfl)) (by simp) ?_
    simp (disch := omega) only [wk, tis, Int.reduceNe, Int.reduceEq, Int.reduceLT, Int.reduceLE, Int.reduceAdd, Int.reduceSub, Int.reduceNeg, Int.reduceMul, Int.reduceToNat, Nat.reduceSub, Nat.reduceMul, Nat.reduceLeDiff, Nat.reduceAdd, Nat.reduceLT, Nat.reduceEqDiff, reduceCtorEq, ↓reduceIte, cpoly_len, natsr_len, natsr_at, natsr_snoc, natsr_app, natsr_rows, natsr_nil, hF]
    rw [← cf_pv, ← cf_pv]
    refine if_by (fun hs => ?_) (fun hs => ?_)
    · simp (disch := omega) only [wk, tis, Int.reduceNe, Int.reduceEq, Int.reduceLT, Int.reduceLE, Int.reduceAdd, Int.reduceSub, Int.reduceNeg, Int.reduceMul, Int.reduceToNat, Nat.reduceSub, Nat.reduceMul, Nat.reduceLeDiff, Nat.reduceAdd, Nat.reduceLT, Nat.reduceEqDiff, reduceCtorEq, ↓reduceIte, cpoly_len, natsr_len, natsr_at, natsr_snoc, natsr_app, natsr_rows, natsr_nil, hF]
      rw [decide_eq_false]
      intro e
      exact hs (cmpZ_zero.mpr (trimz_eq_iff.mp e i))
    · simp (disch := omega) only [wk, tis, Int.reduceNe, Int.reduceEq, Int.reduceLT, Int.reduceLE, Int.reduceAdd, Int.reduceSub, Int.reduceNeg, Int.reduceMul, Int.reduceToNat, Nat.reduceSub, Nat.reduceMul, Nat.reduceLeDiff, Nat.reduceAdd, Nat.reduceLT, Nat.reduceEqDiff, reduceCtorEq, ↓reduceIte, cpoly_len, natsr_len, natsr_at, natsr_snoc, natsr_app, natsr_rows, natsr_nil, hF]
      have hs := cmpZ_zero.mp (Decidable.not_not.mp hs)
      refine ⟨⟨i + 1, by omega, fun j hj => ?_, by omega⟩, by omega⟩
      by_cases e : j = i
      · rw [e]; exact hs
      · exact hz j (by omega)
  · simp (disch := omega) only [wk, tis, Int.reduceNe, Int.reduceEq, Int.reduceLT, Int.reduceLE, Int.reduceAdd, Int.reduceSub, Int.reduceNeg, Int.reduceMul, Int.reduceToNat, Nat.reduceSub, Nat.reduceMul, Nat.reduceLeDiff, Nat.reduceAdd, Nat.reduceLT, Nat.reduceEqDiff, reduceCtorEq, ↓reduceIte, cpoly_len, natsr_len, natsr_at, natsr_snoc, natsr_app, natsr_rows, natsr_nil, hF]
    rw [decide_eq_true]
    refine trimz_ext fun k => ?_
    by_cases hk : k < n
    · exact hz k (by omega)
    · rw [cf_ge (by rw [pv_len]; omega), cf_ge (by rw [pv_len]; omega)]

theorem seq_ok (a b : List RI) (ha : RP (2 ^ 40) (2 ^ 40) a) (hb : RP (2 ^ 40) (2 ^ 40) b) : AC Try.prog 48 [cw a, cw b] none [cb (decide (trimz (pv a) = trimz (pv b)))] := by
  refine AC.by_walk (rs := [.tmp 4]) ords Try.func48 (by rfl) (by rfl) (by rfl) (by rfl) (by rfl) ?_
  simp (disch := omega) only [wk, tis, Int.reduceNe, Int.reduceEq, Int.reduceLT, Int.reduceLE, Int.reduceAdd, Int.reduceSub, Int.reduceNeg, Int.reduceMul, Int.reduceToNat, Nat.reduceSub, Nat.reduceMul, Nat.reduceLeDiff, Nat.reduceAdd, Nat.reduceLT, Nat.reduceEqDiff, reduceCtorEq, ↓reduceIte, cpoly_len, natsr_len, natsr_at, natsr_snoc, natsr_app, natsr_rows, natsr_nil]
  refine call_by ((snorm_ok a ha)) (by rfl) (by simp) ?_
  simp (disch := omega) only [wk, tis, Int.reduceNe, Int.reduceEq, Int.reduceLT, Int.reduceLE, Int.reduceAdd, Int.reduceSub, Int.reduceNeg, Int.reduceMul, Int.reduceToNat, Nat.reduceSub, Nat.reduceMul, Nat.reduceLeDiff, Nat.reduceAdd, Nat.reduceLT, Nat.reduceEqDiff, reduceCtorEq, ↓reduceIte, cpoly_len, natsr_len, natsr_at, natsr_snoc, natsr_app, natsr_rows, natsr_nil]
  refine call_by ((snorm_ok b hb)) (by rfl) (by simp) ?_
  simp (disch := omega) only [wk, tis, Int.reduceNe, Int.reduceEq, Int.reduceLT, Int.reduceLE, Int.reduceAdd, Int.reduceSub, Int.reduceNeg, Int.reduceMul, Int.reduceToNat, Nat.reduceSub, Nat.reduceMul, Nat.reduceLeDiff, Nat.reduceAdd, Nat.reduceLT, Nat.reduceEqDiff, reduceCtorEq, ↓reduceIte, cpoly_len, natsr_len, natsr_at, natsr_snoc, natsr_app, natsr_rows, natsr_nil]
  have := sform_ok (cn (pv a)) (cn (pv b)) (rp_cn (ha.pv.mono (by omega) (by omega))) (rp_cn (hb.pv.mono (by omega) (by omega)))
  have e : decide (cn (pv a) = cn (pv b)) = decide (trimz (pv a) = trimz (pv b)) := decide_eq_decide.mpr ⟨fun h => canon_inj h, fun h => by rw [cn, cn, h]⟩
  rw [e] at this
  refine call_by (this) (by rfl) (by simp) ?_
  simp (disch := omega) only [wk, tis, Int.reduceNe, Int.reduceEq, Int.reduceLT, Int.reduceLE, Int.reduceAdd, Int.reduceSub, Int.reduceNeg, Int.reduceMul, Int.reduceToNat, Nat.reduceSub, Nat.reduceMul, Nat.reduceLeDiff, Nat.reduceAdd, Nat.reduceLT, Nat.reduceEqDiff, reduceCtorEq, ↓reduceIte, cpoly_len, natsr_len, natsr_at, natsr_snoc, natsr_app, natsr_rows, natsr_nil]

theorem cmpN_gt {x y : Nat} : 0 < cmpN x y ↔ y < x := by unfold cmpN; split <;> (try split) <;> omega

theorem pheight_ok (p : List RI) (h : RP (2 ^ 40) (2 ^ 40) p) : AC Try.prog 50 [cw p] none [cl (wd (hgt (pv p)))] := by
  refine AC.by_walk (rs := [.tmp 2]) ords Try.func50 (by rfl) (by rfl) (by rfl) (by rfl) (by rfl) ?_
  have hl := h.1
  simp (disch := omega) only [wk, tis, Int.reduceNe, Int.reduceEq, Int.reduceLT, Int.reduceLE, Int.reduceAdd, Int.reduceSub, Int.reduceNeg, Int.reduceMul, Int.reduceToNat, Nat.reduceSub, Nat.reduceMul, Nat.reduceLeDiff, Nat.reduceAdd, Nat.reduceLT, Nat.reduceEqDiff, reduceCtorEq, ↓reduceIte, cpoly_len, natsr_len, natsr_at, natsr_snoc, natsr_app, natsr_rows, natsr_nil]
  refine aloop_w (.nilv 3 (by simp (disch := omega) only [wk, tis, Int.reduceNe, Int.reduceEq, Int.reduceLT, Int.reduceLE, Int.reduceAdd, Int.reduceSub, Int.reduceNeg, Int.reduceMul, Int.reduceToNat, Nat.reduceSub, Nat.reduceMul, Nat.reduceLeDiff, Nat.reduceAdd, Nat.reduceLT, Nat.reduceEqDiff, reduceCtorEq, ↓reduceIte, cpoly_len, natsr_len, natsr_at, natsr_snoc, natsr_app, natsr_rows, natsr_nil]) (.refl _ _)) (fun f H => ∃ (i : Nat) (m : List Nat), i ≤ p.length ∧ Lim m ∧ m.length ≤ 2 ^ 40 ∧ nv m = hgt ((pv p).take i) ∧ f 8 = .iv (.int .i64 i) ∧ f 3 = .iv (.sl (lims m)) ∧ f 6 = .iv (.sl (raws p)) ∧ f 7 = .iv (.int .i64 p.length)) (fun f H => (p.length - intAt f 8).toNat) ?_ ?_
  · refine ⟨0, [], by omega, Lim.nil, by simp, by simp [vl, hgt], ?_⟩
    simp (disch := omega) only [wk, tis, Int.reduceNe, Int.reduceEq, Int.reduceLT, Int.reduceLE, Int.reduceAdd, Int.reduceSub, Int.reduceNeg, Int.reduceMul, Int.reduceToNat, Nat.reduceSub, Nat.reduceMul, Nat.reduceLeDiff, Nat.reduceAdd, Nat.reduceLT, Nat.reduceEqDiff, reduceCtorEq, ↓reduceIte, cpoly_len, natsr_len, natsr_at, natsr_snoc, natsr_app, natsr_rows, natsr_nil]
  rintro f H ⟨i, m, hi, hm, hml, hv, hF⟩
  rw [intAt_of hF.1]
  simp (disch := omega) only [wk, tis, Int.reduceNe, Int.reduceEq, Int.reduceLT, Int.reduceLE, Int.reduceAdd, Int.reduceSub, Int.reduceNeg, Int.reduceMul, Int.reduceToNat, Nat.reduceSub, Nat.reduceMul, Nat.reduceLeDiff, Nat.reduceAdd, Nat.reduceLT, Nat.reduceEqDiff, reduceCtorEq, ↓reduceIte, cpoly_len, natsr_len, natsr_at, natsr_snoc, natsr_app, natsr_rows, natsr_nil, hF]
  refine if_by (fun hlt => ?_) (fun hlt => ?_)
  · simp (disch := omega) only [wk, tis, Int.reduceNe, Int.reduceEq, Int.reduceLT, Int.reduceLE, Int.reduceAdd, Int.reduceSub, Int.reduceNeg, Int.reduceMul, Int.reduceToNat, Nat.reduceSub, Nat.reduceMul, Nat.reduceLeDiff, Nat.reduceAdd, Nat.reduceLT, Nat.reduceEqDiff, reduceCtorEq, ↓reduceIte, cpoly_len, natsr_len, natsr_at, natsr_snoc, natsr_app, natsr_rows, natsr_nil, hF]
    have hc := h.get i
    have hcl := hc.1
    refine call_by ((ncmp_ok (p.getD i (false, [])).2 m hc.2 hm (by omega) (by omega))) (by first | rfl | (simp only [tocvs, tocv, hF]; rfl)) (by simp) ?_
    simp (disch := omega) only [wk, tis, Int.reduceNe, Int.reduceEq, Int.reduceLT, Int.reduceLE, Int.reduceAdd, Int.reduceSub, Int.reduceNeg, Int.reduceMul, Int.reduceToNat, Nat.reduceSub, Nat.reduceMul, Nat.reduceLeDiff, Nat.reduceAdd, Nat.reduceLT, Nat.reduceEqDiff, reduceCtorEq, ↓reduceIte, cpoly_len, natsr_len, natsr_at, natsr_snoc, natsr_app, natsr_rows, natsr_nil, hF]
    have hn := hgt_take (q := pv p) (i := i) (by rw [pv_len]; omega)
    rw [cf_pv, iv_abs, ← hv] at hn
    refine if_by (fun hs => ?_) (fun hs => ?_)
    · simp (disch := omega) only [wk, tis, Int.reduceNe, Int.reduceEq, Int.reduceLT, Int.reduceLE, Int.reduceAdd, Int.reduceSub, Int.reduceNeg, Int.reduceMul, Int.reduceToNat, Nat.reduceSub, Nat.reduceMul, Nat.reduceLeDiff, Nat.reduceAdd, Nat.reduceLT, Nat.reduceEqDiff, reduceCtorEq, ↓reduceIte, cpoly_len, natsr_len, natsr_at, natsr_snoc, natsr_app, natsr_rows, natsr_nil, hF]
      have := cmpN_gt.mp hs
      exact ⟨⟨i + 1, _, by omega, hc.2, hcl, by rw [hn]; omega, by omega, rfl⟩, by omega⟩
    · simp (disch := omega) only [wk, tis, Int.reduceNe, Int.reduceEq, Int.reduceLT, Int.reduceLE, Int.reduceAdd, Int.reduceSub, Int.reduceNeg, Int.reduceMul, Int.reduceToNat, Nat.reduceSub, Nat.reduceMul, Nat.reduceLeDiff, Nat.reduceAdd, Nat.reduceLT, Nat.reduceEqDiff, reduceCtorEq, ↓reduceIte, cpoly_len, natsr_len, natsr_at, natsr_snoc, natsr_app, natsr_rows, natsr_nil, hF]
      have : ¬ nv m < nv (p.getD i (false, [])).2 := fun h => hs (cmpN_gt.mpr h)
      exact ⟨⟨i + 1, m, by omega, hm, hml, by rw [hn]; omega, by omega, rfl⟩, by omega⟩
  · simp (disch := omega) only [wk, tis, Int.reduceNe, Int.reduceEq, Int.reduceLT, Int.reduceLE, Int.reduceAdd, Int.reduceSub, Int.reduceNeg, Int.reduceMul, Int.reduceToNat, Nat.reduceSub, Nat.reduceMul, Nat.reduceLeDiff, Nat.reduceAdd, Nat.reduceLT, Nat.reduceEqDiff, reduceCtorEq, ↓reduceIte, cpoly_len, natsr_len, natsr_at, natsr_snoc, natsr_app, natsr_rows, natsr_nil, hF]
    rw [List.take_of_length_le (by rw [pv_len]; omega)] at hv
    have := norm_ok m hm (by omega)
    rw [hv] at this
    refine call_by (this) (by first | rfl | (simp only [tocvs, tocv, hF]; rfl)) (by simp) ?_
    simp (disch := omega) only [wk, tis, Int.reduceNe, Int.reduceEq, Int.reduceLT, Int.reduceLE, Int.reduceAdd, Int.reduceSub, Int.reduceNeg, Int.reduceMul, Int.reduceToNat, Nat.reduceSub, Nat.reduceMul, Nat.reduceLeDiff, Nat.reduceAdd, Nat.reduceLT, Nat.reduceEqDiff, reduceCtorEq, ↓reduceIte, cpoly_len, natsr_len, natsr_at, natsr_snoc, natsr_app, natsr_rows, natsr_nil, hF]

theorem sheight_ok (p : List RI) (h : RP (2 ^ 40) (2 ^ 40) p) : AC Try.prog 51 [cw p] none [cl (wd (hgt (pv p)))] := by
  refine AC.by_walk (rs := [.tmp 2]) ords Try.func51 (by rfl) (by rfl) (by rfl) (by rfl) (by rfl) ?_
  have hl := h.1
  simp (disch := omega) only [wk, tis, Int.reduceNe, Int.reduceEq, Int.reduceLT, Int.reduceLE, Int.reduceAdd, Int.reduceSub, Int.reduceNeg, Int.reduceMul, Int.reduceToNat, Nat.reduceSub, Nat.reduceMul, Nat.reduceLeDiff, Nat.reduceAdd, Nat.reduceLT, Nat.reduceEqDiff, reduceCtorEq, ↓reduceIte, cpoly_len, natsr_len, natsr_at, natsr_snoc, natsr_app, natsr_rows, natsr_nil]
  refine aloop_w (.nilv 3 (by simp (disch := omega) only [wk, tis, Int.reduceNe, Int.reduceEq, Int.reduceLT, Int.reduceLE, Int.reduceAdd, Int.reduceSub, Int.reduceNeg, Int.reduceMul, Int.reduceToNat, Nat.reduceSub, Nat.reduceMul, Nat.reduceLeDiff, Nat.reduceAdd, Nat.reduceLT, Nat.reduceEqDiff, reduceCtorEq, ↓reduceIte, cpoly_len, natsr_len, natsr_at, natsr_snoc, natsr_app, natsr_rows, natsr_nil]) (.refl _ _)) (fun f H => ∃ (i : Nat), i ≤ p.length ∧ (wd (hgt ((pv p).take i))).length ≤ 2 ^ 40 ∧ f 4 = .iv (.int .i64 i) ∧ f 0 = .iv (.sl (raws p)) ∧ f 3 = .iv (.sl (lims (wd (hgt ((pv p).take i)))))) (fun f H => (p.length - intAt f 4).toNat) ?_ ?_
  · refine ⟨0, by omega, by simp [hgt, wd_zero], ?_⟩
    simp (disch := omega) only [wk, tis, Int.reduceNe, Int.reduceEq, Int.reduceLT, Int.reduceLE, Int.reduceAdd, Int.reduceSub, Int.reduceNeg, Int.reduceMul, Int.reduceToNat, Nat.reduceSub, Nat.reduceMul, Nat.reduceLeDiff, Nat.reduceAdd, Nat.reduceLT, Nat.reduceEqDiff, reduceCtorEq, ↓reduceIte, cpoly_len, natsr_len, natsr_at, natsr_snoc, natsr_app, natsr_rows, natsr_nil, List.take_zero, hgt, List.foldl_nil, wd_zero]
  rintro f H ⟨i, hi, hw, hF⟩
  rw [intAt_of hF.1]
  simp (disch := omega) only [wk, tis, Int.reduceNe, Int.reduceEq, Int.reduceLT, Int.reduceLE, Int.reduceAdd, Int.reduceSub, Int.reduceNeg, Int.reduceMul, Int.reduceToNat, Nat.reduceSub, Nat.reduceMul, Nat.reduceLeDiff, Nat.reduceAdd, Nat.reduceLT, Nat.reduceEqDiff, reduceCtorEq, ↓reduceIte, cpoly_len, natsr_len, natsr_at, natsr_snoc, natsr_app, natsr_rows, natsr_nil, hF]
  refine if_by (fun hlt => ?_) (fun hlt => ?_)
  · simp (disch := omega) only [wk, tis, Int.reduceNe, Int.reduceEq, Int.reduceLT, Int.reduceLE, Int.reduceAdd, Int.reduceSub, Int.reduceNeg, Int.reduceMul, Int.reduceToNat, Nat.reduceSub, Nat.reduceMul, Nat.reduceLeDiff, Nat.reduceAdd, Nat.reduceLT, Nat.reduceEqDiff, reduceCtorEq, ↓reduceIte, cpoly_len, natsr_len, natsr_at, natsr_snoc, natsr_app, natsr_rows, natsr_nil, hF]
    have hc := h.get i
    have hcl := hc.1
    have c := rcmp_ok (p.getD i (false, [])).2 (wd (hgt ((pv p).take i))) hc.2 (lim_wd _) (by omega) hw
    rw [nv_wd] at c
    refine call_by (c) (by first | rfl | (simp only [tocvs, tocv, hF]; rfl)) (by simp) ?_
    simp (disch := omega) only [wk, tis, Int.reduceNe, Int.reduceEq, Int.reduceLT, Int.reduceLE, Int.reduceAdd, Int.reduceSub, Int.reduceNeg, Int.reduceMul, Int.reduceToNat, Nat.reduceSub, Nat.reduceMul, Nat.reduceLeDiff, Nat.reduceAdd, Nat.reduceLT, Nat.reduceEqDiff, reduceCtorEq, ↓reduceIte, cpoly_len, natsr_len, natsr_at, natsr_snoc, natsr_app, natsr_rows, natsr_nil, hF]
    have hn := hgt_take (q := pv p) (i := i) (by rw [pv_len]; omega)
    rw [cf_pv, iv_abs] at hn
    refine if_by (fun hs => ?_) (fun hs => ?_)
    · simp (disch := omega) only [wk, tis, Int.reduceNe, Int.reduceEq, Int.reduceLT, Int.reduceLE, Int.reduceAdd, Int.reduceSub, Int.reduceNeg, Int.reduceMul, Int.reduceToNat, Nat.reduceSub, Nat.reduceMul, Nat.reduceLeDiff, Nat.reduceAdd, Nat.reduceLT, Nat.reduceEqDiff, reduceCtorEq, ↓reduceIte, cpoly_len, natsr_len, natsr_at, natsr_snoc, natsr_app, natsr_rows, natsr_nil, hF]
      have hgt' := cmpN_gt.mp hs
      refine call_by ((rnorm_ok (p.getD i (false, [])).2 hc.2 (by omega))) (by first | rfl | (simp only [tocvs, tocv, hF]; rfl)) (by simp) ?_
      simp (disch := omega) only [wk, tis, Int.reduceNe, Int.reduceEq, Int.reduceLT, Int.reduceLE, Int.reduceAdd, Int.reduceSub, Int.reduceNeg, Int.reduceMul, Int.reduceToNat, Nat.reduceSub, Nat.reduceMul, Nat.reduceLeDiff, Nat.reduceAdd, Nat.reduceLT, Nat.reduceEqDiff, reduceCtorEq, ↓reduceIte, cpoly_len, natsr_len, natsr_at, natsr_snoc, natsr_app, natsr_rows, natsr_nil, hF]
      have e : nv (p.getD i (false, [])).2 = hgt ((pv p).take (i + 1)) := by omega
      have l2 := nv_len hc.2
      rw [e] at l2 ⊢
      exact ⟨⟨i + 1, by omega, by omega, by omega, rfl⟩, by omega⟩
    · simp (disch := omega) only [wk, tis, Int.reduceNe, Int.reduceEq, Int.reduceLT, Int.reduceLE, Int.reduceAdd, Int.reduceSub, Int.reduceNeg, Int.reduceMul, Int.reduceToNat, Nat.reduceSub, Nat.reduceMul, Nat.reduceLeDiff, Nat.reduceAdd, Nat.reduceLT, Nat.reduceEqDiff, reduceCtorEq, ↓reduceIte, cpoly_len, natsr_len, natsr_at, natsr_snoc, natsr_app, natsr_rows, natsr_nil, hF]
      have : ¬ hgt ((pv p).take i) < nv (p.getD i (false, [])).2 := fun h => hs (cmpN_gt.mpr h)
      have e : hgt ((pv p).take (i + 1)) = hgt ((pv p).take i) := by omega
      exact ⟨⟨i + 1, by omega, by rw [e]; exact hw, by rw [e]; exact ⟨by omega, rfl⟩⟩, by omega⟩
  · simp (disch := omega) only [wk, tis, Int.reduceNe, Int.reduceEq, Int.reduceLT, Int.reduceLE, Int.reduceAdd, Int.reduceSub, Int.reduceNeg, Int.reduceMul, Int.reduceToNat, Nat.reduceSub, Nat.reduceMul, Nat.reduceLeDiff, Nat.reduceAdd, Nat.reduceLT, Nat.reduceEqDiff, reduceCtorEq, ↓reduceIte, cpoly_len, natsr_len, natsr_at, natsr_snoc, natsr_app, natsr_rows, natsr_nil, hF]
    rw [List.take_of_length_le (by rw [pv_len]; omega)]

end Go.Proofs.Ythgecppfgdadiaa

namespace Go.Proofs.Ythgecppfgdadiaa
open Go Go.Proofs Go.AL
set_option linter.unusedSimpArgs false
set_option linter.unusedVariables false

theorem quo_zero (a b : List Nat) (ha : Lim a) (hb : Lim b) (hla : a.length ≤ 2 ^ 38) (hlb : b.length ≤ 2 ^ 38) (h0 : nv b = 0) : AC Try.prog 170 [cl a, cl b] none [cl [], cl [], ci 1] := by
  refine AC.by_walk (rs := [.tmp 4, .tmp 5, .tmp 6]) ords Try.func170 (by rfl) (by rfl) (by rfl) (by rfl) (by rfl) ?_
  simp (disch := omega) only [wk, tis, Int.reduceNe, Int.reduceEq, Int.reduceLT, Int.reduceLE, Int.reduceAdd, Int.reduceSub, Int.reduceNeg, Int.reduceMul, Int.reduceToNat, Nat.reduceSub, Nat.reduceMul, Nat.reduceLeDiff, Nat.reduceAdd, Nat.reduceLT, Nat.reduceEqDiff, reduceCtorEq, ↓reduceIte, natsr_len, natsr_at, Option.getD_some]
  refine call_by ((norm_ok a ha (by omega))) (by rfl) (by simp) ?_
  simp (disch := omega) only [wk, tis, Int.reduceNe, Int.reduceEq, Int.reduceLT, Int.reduceLE, Int.reduceAdd, Int.reduceSub, Int.reduceNeg, Int.reduceMul, Int.reduceToNat, Nat.reduceSub, Nat.reduceMul, Nat.reduceLeDiff, Nat.reduceAdd, Nat.reduceLT, Nat.reduceEqDiff, reduceCtorEq, ↓reduceIte, natsr_len, natsr_at, Option.getD_some]
  refine call_by ((norm_ok b hb (by omega))) (by rfl) (by simp) ?_
  simp (disch := omega) only [wk, tis, Int.reduceNe, Int.reduceEq, Int.reduceLT, Int.reduceLE, Int.reduceAdd, Int.reduceSub, Int.reduceNeg, Int.reduceMul, Int.reduceToNat, Nat.reduceSub, Nat.reduceMul, Nat.reduceLeDiff, Nat.reduceAdd, Nat.reduceLT, Nat.reduceEqDiff, reduceCtorEq, ↓reduceIte, natsr_len, natsr_at, Option.getD_some]
  rw [h0, wd_zero]
  simp (disch := omega) only [wk, tis, Int.reduceNe, Int.reduceEq, Int.reduceLT, Int.reduceLE, Int.reduceAdd, Int.reduceSub, Int.reduceNeg, Int.reduceMul, Int.reduceToNat, Nat.reduceSub, Nat.reduceMul, Nat.reduceLeDiff, Nat.reduceAdd, Nat.reduceLT, Nat.reduceEqDiff, reduceCtorEq, ↓reduceIte, natsr_len, natsr_at, Option.getD_some]

theorem wd_one {y : Nat} (h : (wd y).length = 1) : (wd y).getD 0 0 = y ∧ y < W := by
  have h1 := vl_take_next W (wd y) 0
  rw [Nat.zero_add, List.take_of_length_le (by omega), List.take_zero, Nat.pow_zero, Nat.one_mul] at h1
  have h2 := nv_wd y
  simp only [nv, vl, Nat.zero_add] at *
  have h3 := (lim_wd y).get 0
  omega

theorem quo_ok (a b : List Nat) (ha : Lim a) (hb : Lim b) (hla : a.length ≤ 2 ^ 38) (hlb : b.length ≤ 2 ^ 38) (h0 : nv b ≠ 0) : AC Try.prog 170 [cl a, cl b] none [cl (wd (nv a / nv b)), cl (wd (nv a % nv b)), ci 0] := by
  refine AC.by_walk (rs := [.tmp 4, .tmp 5, .tmp 6]) ords Try.func170 (by rfl) (by rfl) (by rfl) (by rfl) (by rfl) ?_
  simp (disch := omega) only [wk, tis, Int.reduceNe, Int.reduceEq, Int.reduceLT, Int.reduceLE, Int.reduceAdd, Int.reduceSub, Int.reduceNeg, Int.reduceMul, Int.reduceToNat, Nat.reduceSub, Nat.reduceMul, Nat.reduceLeDiff, Nat.reduceAdd, Nat.reduceLT, Nat.reduceEqDiff, reduceCtorEq, ↓reduceIte, natsr_len, natsr_at, Option.getD_some]
  refine call_by ((norm_ok a ha (by omega))) (by rfl) (by simp) ?_
  simp (disch := omega) only [wk, tis, Int.reduceNe, Int.reduceEq, Int.reduceLT, Int.reduceLE, Int.reduceAdd, Int.reduceSub, Int.reduceNeg, Int.reduceMul, Int.reduceToNat, Nat.reduceSub, Nat.reduceMul, Nat.reduceLeDiff, Nat.reduceAdd, Nat.reduceLT, Nat.reduceEqDiff, reduceCtorEq, ↓reduceIte, natsr_len, natsr_at, Option.getD_some]
  refine call_by ((norm_ok b hb (by omega))) (by rfl) (by simp) ?_
  simp (disch := omega) only [wk, tis, Int.reduceNe, Int.reduceEq, Int.reduceLT, Int.reduceLE, Int.reduceAdd, Int.reduceSub, Int.reduceNeg, Int.reduceMul, Int.reduceToNat, Nat.reduceSub, Nat.reduceMul, Nat.reduceLeDiff, Nat.reduceAdd, Nat.reduceLT, Nat.reduceEqDiff, reduceCtorEq, ↓reduceIte, natsr_len, natsr_at, Option.getD_some]
  have hxl := nv_len ha
  have hyl := nv_len hb
  generalize nv a = x at *
  generalize nv b = y at *
  refine if_by (fun h => ?_) (fun h => ?_)
  · have := wd_len_zero.mp (Int.ofNat.inj h)
    exact absurd this h0
  simp (disch := omega) only [wk, tis, Int.reduceNe, Int.reduceEq, Int.reduceLT, Int.reduceLE, Int.reduceAdd, Int.reduceSub, Int.reduceNeg, Int.reduceMul, Int.reduceToNat, Nat.reduceSub, Nat.reduceMul, Nat.reduceLeDiff, Nat.reduceAdd, Nat.reduceLT, Nat.reduceEqDiff, reduceCtorEq, ↓reduceIte, natsr_len, natsr_at, Option.getD_some]
  refine call_by ((ncmp_ok (wd x) (wd y) (lim_wd _) (lim_wd _) (by omega) (by omega))) (by rfl) (by simp) ?_
  simp (disch := omega) only [wk, tis, Int.reduceNe, Int.reduceEq, Int.reduceLT, Int.reduceLE, Int.reduceAdd, Int.reduceSub, Int.reduceNeg, Int.reduceMul, Int.reduceToNat, Nat.reduceSub, Nat.reduceMul, Nat.reduceLeDiff, Nat.reduceAdd, Nat.reduceLT, Nat.reduceEqDiff, reduceCtorEq, ↓reduceIte, natsr_len, natsr_at, Option.getD_some]
  rw [nv_wd, nv_wd]
  refine if_by (fun hc => ?_) (fun hc => ?_)
  · have hlt : x < y := by
      unfold cmpN at hc
      split at hc
      · assumption
      · split at hc <;> omega
    rw [Nat.div_eq_of_lt hlt, Nat.mod_eq_of_lt hlt, wd_zero]
    simp (disch := omega) only [wk, tis, Int.reduceNe, Int.reduceEq, Int.reduceLT, Int.reduceLE, Int.reduceAdd, Int.reduceSub, Int.reduceNeg, Int.reduceMul, Int.reduceToNat, Nat.reduceSub, Nat.reduceMul, Nat.reduceLeDiff, Nat.reduceAdd, Nat.reduceLT, Nat.reduceEqDiff, reduceCtorEq, ↓reduceIte, natsr_len, natsr_at, Option.getD_some]
  have hle : y ≤ x := by
    unfold cmpN at hc
    split at hc
    · omega
    · omega
  simp (disch := omega) only [wk, tis, Int.reduceNe, Int.reduceEq, Int.reduceLT, Int.reduceLE, Int.reduceAdd, Int.reduceSub, Int.reduceNeg, Int.reduceMul, Int.reduceToNat, Nat.reduceSub, Nat.reduceMul, Nat.reduceLeDiff, Nat.reduceAdd, Nat.reduceLT, Nat.reduceEqDiff, reduceCtorEq, ↓reduceIte, natsr_len, natsr_at, Option.getD_some]
  refine if_by (fun h1 => ?_) (fun h1 => ?_)
  · obtain ⟨e1, e2⟩ := wd_one (Int.ofNat.inj h1)
    have hp : 0 < (wd y).length := by omega
    simp (disch := omega) only [wk, tis, Int.reduceNe, Int.reduceEq, Int.reduceLT, Int.reduceLE, Int.reduceAdd, Int.reduceSub, Int.reduceNeg, Int.reduceMul, Int.reduceToNat, Nat.reduceSub, Nat.reduceMul, Nat.reduceLeDiff, Nat.reduceAdd, Nat.reduceLT, Nat.reduceEqDiff, reduceCtorEq, ↓reduceIte, natsr_len, natsr_at, Option.getD_some]
    have m := dword_ok (wd x) y (lim_wd _) (by omega) h0 e2
    rw [nv_wd] at m
    have n := nof_ok (x % y) (Nat.lt_trans (Nat.mod_lt _ (by omega)) e2)
    simp (disch := omega) only [wk, tis, Int.reduceNe, Int.reduceEq, Int.reduceLT, Int.reduceLE, Int.reduceAdd, Int.reduceSub, Int.reduceNeg, Int.reduceMul, Int.reduceToNat, Nat.reduceSub, Nat.reduceMul, Nat.reduceLeDiff, Nat.reduceAdd, Nat.reduceLT, Nat.reduceEqDiff, reduceCtorEq, ↓reduceIte, natsr_len, natsr_at, Option.getD_some, e1]
    refine call_by (m) (by first | rfl | (simp only [tocvs, tocv, e1]; rfl)) (by simp) ?_
    simp (disch := omega) only [wk, tis, Int.reduceNe, Int.reduceEq, Int.reduceLT, Int.reduceLE, Int.reduceAdd, Int.reduceSub, Int.reduceNeg, Int.reduceMul, Int.reduceToNat, Nat.reduceSub, Nat.reduceMul, Nat.reduceLeDiff, Nat.reduceAdd, Nat.reduceLT, Nat.reduceEqDiff, reduceCtorEq, ↓reduceIte, natsr_len, natsr_at, Option.getD_some, e1]
    refine call_by (n) (by first | rfl | (simp only [tocvs, tocv, e1]; rfl)) (by simp) ?_
    simp (disch := omega) only [wk, tis, Int.reduceNe, Int.reduceEq, Int.reduceLT, Int.reduceLE, Int.reduceAdd, Int.reduceSub, Int.reduceNeg, Int.reduceMul, Int.reduceToNat, Nat.reduceSub, Nat.reduceMul, Nat.reduceLeDiff, Nat.reduceAdd, Nat.reduceLT, Nat.reduceEqDiff, reduceCtorEq, ↓reduceIte, natsr_len, natsr_at, Option.getD_some, e1]
  · have hn : 2 ≤ (wd y).length := by omega
    simp (disch := omega) only [wk, tis, Int.reduceNe, Int.reduceEq, Int.reduceLT, Int.reduceLE, Int.reduceAdd, Int.reduceSub, Int.reduceNeg, Int.reduceMul, Int.reduceToNat, Nat.reduceSub, Nat.reduceMul, Nat.reduceLeDiff, Nat.reduceAdd, Nat.reduceLT, Nat.reduceEqDiff, reduceCtorEq, ↓reduceIte, natsr_len, natsr_at, Option.getD_some]
    refine call_by ((knuth_ok x y _ _ rfl rfl hn hle (by omega))) (by rfl) (by simp) ?_
    simp (disch := omega) only [wk, tis, Int.reduceNe, Int.reduceEq, Int.reduceLT, Int.reduceLE, Int.reduceAdd, Int.reduceSub, Int.reduceNeg, Int.reduceMul, Int.reduceToNat, Nat.reduceSub, Nat.reduceMul, Nat.reduceLeDiff, Nat.reduceAdd, Nat.reduceLT, Nat.reduceEqDiff, reduceCtorEq, ↓reduceIte, natsr_len, natsr_at, Option.getD_some]

theorem mod_ok (a b : List Nat) (ha : Lim a) (hb : Lim b) (hla : a.length ≤ 2 ^ 38) (hlb : b.length ≤ 2 ^ 38) (h0 : nv b ≠ 0) : AC Try.prog 175 [cl a, cl b] none [cl (wd (nv a % nv b)), ci 0] := by
  refine AC.by_walk (rs := [.tmp 4, .tmp 5]) ords Try.func175 (by rfl) (by rfl) (by rfl) (by rfl) (by rfl) ?_
  simp (disch := omega) only [wk, tis, Int.reduceNe, Int.reduceEq, Int.reduceLT, Int.reduceLE, Int.reduceAdd, Int.reduceSub, Int.reduceNeg, Int.reduceMul, Int.reduceToNat, Nat.reduceSub, Nat.reduceMul, Nat.reduceLeDiff, Nat.reduceAdd, Nat.reduceLT, Nat.reduceEqDiff, reduceCtorEq, ↓reduceIte, natsr_len, natsr_at, Option.getD_some]
  refine call_by ((quo_ok a b ha hb hla hlb h0)) (by rfl) (by simp) ?_
  simp (disch := omega) only [wk, tis, Int.reduceNe, Int.reduceEq, Int.reduceLT, Int.reduceLE, Int.reduceAdd, Int.reduceSub, Int.reduceNeg, Int.reduceMul, Int.reduceToNat, Nat.reduceSub, Nat.reduceMul, Nat.reduceLeDiff, Nat.reduceAdd, Nat.reduceLT, Nat.reduceEqDiff, reduceCtorEq, ↓reduceIte, natsr_len, natsr_at, Option.getD_some]

theorem gmod_ok (a b : List Nat) (ha : Lim a) (hb : Lim b) (hla : a.length ≤ 2 ^ 38) (hlb : b.length ≤ 2 ^ 38) (h0 : nv b ≠ 0) : AC Try.prog 167 [cl a, cl b] none [cl (wd (nv a % nv b))] := by
  refine AC.by_walk (rs := [.tmp 4]) ords Try.func167 (by rfl) (by rfl) (by rfl) (by rfl) (by rfl) ?_
  simp (disch := omega) only [wk, tis, Int.reduceNe, Int.reduceEq, Int.reduceLT, Int.reduceLE, Int.reduceAdd, Int.reduceSub, Int.reduceNeg, Int.reduceMul, Int.reduceToNat, Nat.reduceSub, Nat.reduceMul, Nat.reduceLeDiff, Nat.reduceAdd, Nat.reduceLT, Nat.reduceEqDiff, reduceCtorEq, ↓reduceIte, natsr_len, natsr_at, Option.getD_some]
  refine call_by ((mod_ok a b ha hb hla hlb h0)) (by rfl) (by simp) ?_
  simp (disch := omega) only [wk, tis, Int.reduceNe, Int.reduceEq, Int.reduceLT, Int.reduceLE, Int.reduceAdd, Int.reduceSub, Int.reduceNeg, Int.reduceMul, Int.reduceToNat, Nat.reduceSub, Nat.reduceMul, Nat.reduceLeDiff, Nat.reduceAdd, Nat.reduceLT, Nat.reduceEqDiff, reduceCtorEq, ↓reduceIte, natsr_len, natsr_at, Option.getD_some]

theorem dexact_zero (a b : List Nat) (ha : Lim a) (hb : Lim b) (hla : a.length ≤ 2 ^ 38) (hlb : b.length ≤ 2 ^ 38) (h0 : nv b = 0) : AC Try.prog 156 [cl a, cl b] none [cl [], ci 1] := by
  refine AC.by_walk (rs := [.tmp 4, .tmp 5]) ords Try.func156 (by rfl) (by rfl) (by rfl) (by rfl) (by rfl) ?_
  simp (disch := omega) only [wk, tis, Int.reduceNe, Int.reduceEq, Int.reduceLT, Int.reduceLE, Int.reduceAdd, Int.reduceSub, Int.reduceNeg, Int.reduceMul, Int.reduceToNat, Nat.reduceSub, Nat.reduceMul, Nat.reduceLeDiff, Nat.reduceAdd, Nat.reduceLT, Nat.reduceEqDiff, reduceCtorEq, ↓reduceIte, natsr_len, natsr_at, Option.getD_some]
  refine call_by ((quo_zero a b ha hb hla hlb h0)) (by rfl) (by simp) ?_
  simp (disch := omega) only [wk, tis, Int.reduceNe, Int.reduceEq, Int.reduceLT, Int.reduceLE, Int.reduceAdd, Int.reduceSub, Int.reduceNeg, Int.reduceMul, Int.reduceToNat, Nat.reduceSub, Nat.reduceMul, Nat.reduceLeDiff, Nat.reduceAdd, Nat.reduceLT, Nat.reduceEqDiff, reduceCtorEq, ↓reduceIte, natsr_len, natsr_at, Option.getD_some]

theorem dexact_ok (a b : List Nat) (ha : Lim a) (hb : Lim b) (hla : a.length ≤ 2 ^ 38) (hlb : b.length ≤ 2 ^ 38) (h0 : nv b ≠ 0) : AC Try.prog 156 [cl a, cl b] none [cl (if nv a % nv b = 0 then wd (nv a / nv b) else []), ci (if nv a % nv b = 0 then 0 else 4)] := by
  refine AC.by_walk (rs := [.tmp 4, .tmp 5]) ords Try.func156 (by rfl) (by rfl) (by rfl) (by rfl) (by rfl) ?_
  simp (disch := omega) only [wk, tis, Int.reduceNe, Int.reduceEq, Int.reduceLT, Int.reduceLE, Int.reduceAdd, Int.reduceSub, Int.reduceNeg, Int.reduceMul, Int.reduceToNat, Nat.reduceSub, Nat.reduceMul, Nat.reduceLeDiff, Nat.reduceAdd, Nat.reduceLT, Nat.reduceEqDiff, reduceCtorEq, ↓reduceIte, natsr_len, natsr_at, Option.getD_some]
  refine call_by ((quo_ok a b ha hb hla hlb h0)) (by rfl) (by simp) ?_
  simp (disch := omega) only [wk, tis, Int.reduceNe, Int.reduceEq, Int.reduceLT, Int.reduceLE, Int.reduceAdd, Int.reduceSub, Int.reduceNeg, Int.reduceMul, Int.reduceToNat, Nat.reduceSub, Nat.reduceMul, Nat.reduceLeDiff, Nat.reduceAdd, Nat.reduceLT, Nat.reduceEqDiff, reduceCtorEq, ↓reduceIte, natsr_len, natsr_at, Option.getD_some]
  refine if_by (fun h => ?_) (fun h => ?_)
  · have h1 : nv a % nv b ≠ 0 := fun h2 => by rw [h2, wd_zero] at h; simp at h
    rw [if_neg h1, if_neg h1]
    simp (disch := omega) only [wk, tis, Int.reduceNe, Int.reduceEq, Int.reduceLT, Int.reduceLE, Int.reduceAdd, Int.reduceSub, Int.reduceNeg, Int.reduceMul, Int.reduceToNat, Nat.reduceSub, Nat.reduceMul, Nat.reduceLeDiff, Nat.reduceAdd, Nat.reduceLT, Nat.reduceEqDiff, reduceCtorEq, ↓reduceIte, natsr_len, natsr_at, Option.getD_some]
  · have h1 : nv a % nv b = 0 := by
      rcases Nat.eq_zero_or_pos (wd (nv a % nv b)).length with h2 | h2
      · exact wd_len_zero.mp h2
      · exact absurd (by omega) h
    rw [if_pos h1, if_pos h1]
    simp (disch := omega) only [wk, tis, Int.reduceNe, Int.reduceEq, Int.reduceLT, Int.reduceLE, Int.reduceAdd, Int.reduceSub, Int.reduceNeg, Int.reduceMul, Int.reduceToNat, Nat.reduceSub, Nat.reduceMul, Nat.reduceLeDiff, Nat.reduceAdd, Nat.reduceLT, Nat.reduceEqDiff, reduceCtorEq, ↓reduceIte, natsr_len, natsr_at, Option.getD_some]

def natAt (f : Fr) (t : Nat) : Nat := match f t with
  | .iv (.sl rows) => nv (rows.map fun r => match r with | [.int _ n] => n.toNat | _ => 0)
  | _ => 0

theorem natAt_of {f : Fr} {t v : Nat} (h : f t = .iv (.sl (lims (wd v)))) : natAt f t = v := by
  unfold natAt
  rw [h]
  have e : (lims (wd v)).map (fun r => match r with | [.int _ n] => n.toNat | _ => 0) = wd v := by
    simp only [lims, List.map_map]
    conv => rhs; rw [← List.map_id (wd v)]
    rfl
  simp only [e, nv_wd]

theorem gcd_ok (a b : List Nat) (ha : Lim a) (hb : Lim b) (hla : a.length ≤ 2 ^ 38) (hlb : b.length ≤ 2 ^ 38) : AC Try.prog 154 [cl a, cl b] none [cl (wd (Nat.gcd (nv a) (nv b)))] := by
  refine AC.by_walk (rs := [.tmp 4]) ords Try.func154 (by rfl) (by rfl) (by rfl) (by rfl) (by rfl) ?_
  simp (disch := omega) only [wk, tis, Int.reduceNe, Int.reduceEq, Int.reduceLT, Int.reduceLE, Int.reduceAdd, Int.reduceSub, Int.reduceNeg, Int.reduceMul, Int.reduceToNat, Nat.reduceSub, Nat.reduceMul, Nat.reduceLeDiff, Nat.reduceAdd, Nat.reduceLT, Nat.reduceEqDiff, reduceCtorEq, ↓reduceIte, natsr_len, natsr_at, Option.getD_some]
  refine call_by ((norm_ok a ha (by omega))) (by rfl) (by simp) ?_
  simp (disch := omega) only [wk, tis, Int.reduceNe, Int.reduceEq, Int.reduceLT, Int.reduceLE, Int.reduceAdd, Int.reduceSub, Int.reduceNeg, Int.reduceMul, Int.reduceToNat, Nat.reduceSub, Nat.reduceMul, Nat.reduceLeDiff, Nat.reduceAdd, Nat.reduceLT, Nat.reduceEqDiff, reduceCtorEq, ↓reduceIte, natsr_len, natsr_at, Option.getD_some]
  refine call_by ((norm_ok b hb (by omega))) (by rfl) (by simp) ?_
  simp (disch := omega) only [wk, tis, Int.reduceNe, Int.reduceEq, Int.reduceLT, Int.reduceLE, Int.reduceAdd, Int.reduceSub, Int.reduceNeg, Int.reduceMul, Int.reduceToNat, Nat.reduceSub, Nat.reduceMul, Nat.reduceLeDiff, Nat.reduceAdd, Nat.reduceLT, Nat.reduceEqDiff, reduceCtorEq, ↓reduceIte, natsr_len, natsr_at, Option.getD_some]
  have hxl := nv_len ha
  have hyl := nv_len hb
  generalize nv a = x at *
  generalize nv b = y at *
  refine aloop_by (fun f H => ∃ u v : Nat, Nat.gcd u v = Nat.gcd x y ∧ (wd u).length ≤ 2 ^ 38 ∧ (wd v).length ≤ 2 ^ 38 ∧ f 0 = .iv (.sl (lims (wd u))) ∧ f 1 = .iv (.sl (lims (wd v)))) (fun f H => natAt f 1) ?_ ?_
  · exact ⟨x, y, rfl, by omega, by omega, by simp (disch := omega) only [wk, tis, Int.reduceNe, Int.reduceEq, Int.reduceLT, Int.reduceLE, Int.reduceAdd, Int.reduceSub, Int.reduceNeg, Int.reduceMul, Int.reduceToNat, Nat.reduceSub, Nat.reduceMul, Nat.reduceLeDiff, Nat.reduceAdd, Nat.reduceLT, Nat.reduceEqDiff, reduceCtorEq, ↓reduceIte, natsr_len, natsr_at, Option.getD_some]⟩
  rintro f H ⟨u, v, hg, hu, hv, hF⟩
  rw [natAt_of hF.2]
  simp (disch := omega) only [wk, tis, Int.reduceNe, Int.reduceEq, Int.reduceLT, Int.reduceLE, Int.reduceAdd, Int.reduceSub, Int.reduceNeg, Int.reduceMul, Int.reduceToNat, Nat.reduceSub, Nat.reduceMul, Nat.reduceLeDiff, Nat.reduceAdd, Nat.reduceLT, Nat.reduceEqDiff, reduceCtorEq, ↓reduceIte, natsr_len, natsr_at, Option.getD_some, hF]
  refine if_by (fun h => ?_) (fun h => ?_)
  · have h0 : v ≠ 0 := fun h1 => by rw [h1, wd_zero] at h; simp at h
    have hm := gmod_ok (wd u) (wd v) (lim_wd _) (lim_wd _) hu hv (by rw [nv_wd]; exact h0)
    rw [nv_wd, nv_wd] at hm
    simp (disch := omega) only [wk, tis, Int.reduceNe, Int.reduceEq, Int.reduceLT, Int.reduceLE, Int.reduceAdd, Int.reduceSub, Int.reduceNeg, Int.reduceMul, Int.reduceToNat, Nat.reduceSub, Nat.reduceMul, Nat.reduceLeDiff, Nat.reduceAdd, Nat.reduceLT, Nat.reduceEqDiff, reduceCtorEq, ↓reduceIte, natsr_len, natsr_at, Option.getD_some, hF]
    refine call_by (hm) (by first | rfl | (simp only [tocvs, tocv, hF]; rfl)) (by simp) ?_
    simp (disch := omega) only [wk, tis, Int.reduceNe, Int.reduceEq, Int.reduceLT, Int.reduceLE, Int.reduceAdd, Int.reduceSub, Int.reduceNeg, Int.reduceMul, Int.reduceToNat, Nat.reduceSub, Nat.reduceMul, Nat.reduceLeDiff, Nat.reduceAdd, Nat.reduceLT, Nat.reduceEqDiff, reduceCtorEq, ↓reduceIte, natsr_len, natsr_at, Option.getD_some, hF]
    have hlt := Nat.mod_lt u (Nat.pos_of_ne_zero h0)
    have := wd_len_mono (Nat.le_of_lt hlt)
    rw [natAt_of rfl]
    exact ⟨⟨v, u % v, by rw [← hg, Nat.gcd_comm u v, Nat.gcd_rec v u, Nat.gcd_comm], hv, by omega, rfl, rfl⟩, hlt⟩
  · have h0 : v = 0 := wd_len_zero.mp (by omega)
    subst h0
    rw [Nat.gcd_zero_right] at hg
    simp (disch := omega) only [wk, tis, Int.reduceNe, Int.reduceEq, Int.reduceLT, Int.reduceLE, Int.reduceAdd, Int.reduceSub, Int.reduceNeg, Int.reduceMul, Int.reduceToNat, Nat.reduceSub, Nat.reduceMul, Nat.reduceLeDiff, Nat.reduceAdd, Nat.reduceLT, Nat.reduceEqDiff, reduceCtorEq, ↓reduceIte, natsr_len, natsr_at, Option.getD_some, hF, hg]

end Go.Proofs.Ythgecppfgdadiaa

namespace Go.Proofs.Ythgecppfgdadiaa
open Go Go.Proofs Go.AL
set_option linter.unusedSimpArgs false
set_option linter.unusedVariables false

theorem iv_sg (c : RI) : iv c = sg c.1 (nv c.2) := rfl

theorem znat_ok (s : Bool) (n : Nat) (h : (wd n).length ≤ 2 ^ 40) : AC Try.prog 131 [cb s, cl (wd n)] none [cz (sg s n)] := by
  refine AC.by_walk (rs := [.cell 4 40]) ords Try.func131 (by rfl) (by rfl) (by rfl) (by rfl) (by rfl) ?_
  simp (disch := omega) only [wk, tis, Int.reduceNe, Int.reduceEq, Int.reduceLT, Int.reduceLE, Int.reduceAdd, Int.reduceSub, Int.reduceNeg, Int.reduceMul, Int.reduceToNat, Nat.reduceSub, Nat.reduceMul, Nat.reduceLeDiff, Nat.reduceAdd, Nat.reduceLT, Nat.reduceEqDiff, reduceCtorEq, ↓reduceIte, cpoly_len]
  have m := znorm_ok (s, wd n) ⟨h, lim_wd _⟩
  rw [iv_sg, nv_wd] at m
  refine call_by (m) (by rfl) (by simp) ?_
  simp (disch := omega) only [wk, tis, Int.reduceNe, Int.reduceEq, Int.reduceLT, Int.reduceLE, Int.reduceAdd, Int.reduceSub, Int.reduceNeg, Int.reduceMul, Int.reduceToNat, Nat.reduceSub, Nat.reduceMul, Nat.reduceLeDiff, Nat.reduceAdd, Nat.reduceLT, Nat.reduceEqDiff, reduceCtorEq, ↓reduceIte, cpoly_len]

theorem sg_div {s t : Bool} {x y : Nat} (h : x % y = 0) : sg s x / sg t y = sg (s != t) (x / y) ∧ sg t y ∣ sg s x := by
  obtain ⟨k, rfl⟩ := Nat.dvd_of_mod_eq_zero h
  rcases Nat.eq_zero_or_pos y with h0 | h0
  · subst h0; cases s <;> cases t <;> simp [sg]
  · rw [Nat.mul_div_cancel_left _ h0]
    have hy : (y : Int) ≠ 0 := by omega
    cases s <;> cases t <;> simp [sg, Int.mul_ediv_cancel_left _ hy, ← Int.mul_neg]

theorem sg_dvd {s t : Bool} {x y : Nat} : sg t y ∣ sg s x ↔ x % y = 0 := by
  constructor
  · intro h
    have h1 := Int.natAbs_dvd_natAbs.mpr h
    have e : ∀ (b : Bool) (n : Nat), (sg b n).natAbs = n := fun b n => by cases b <;> simp [sg]
    rw [e, e] at h1
    exact Nat.mod_eq_zero_of_dvd h1
  · intro h; exact (sg_div h).2

theorem zexact_ok (a b : RI) (ha : Sz (2 ^ 38) a) (hb : Sz (2 ^ 38) b) (h0 : iv b ≠ 0) (hd : iv b ∣ iv a) : AC Try.prog 134 [cr a, cr b] none [cz (iv a / iv b), ci 0] := by
  refine AC.by_walk (rs := [.cell 4 40, .tmp 5]) ords Try.func134 (by rfl) (by rfl) (by rfl) (by rfl) (by rfl) ?_
  rw [iv_sg, iv_sg] at hd
  rw [iv_sg] at h0
  have hm := sg_dvd.mp hd
  have hn : nv b.2 ≠ 0 := fun h => h0 (by rw [h]; cases b.1 <;> rfl)
  have m := dexact_ok a.2 b.2 ha.2 hb.2 ha.1 hb.1 hn
  rw [if_pos hm, if_pos hm] at m
  rw [iv_sg, iv_sg, (sg_div hm).1]
  simp (disch := omega) only [wk, tis, Int.reduceNe, Int.reduceEq, Int.reduceLT, Int.reduceLE, Int.reduceAdd, Int.reduceSub, Int.reduceNeg, Int.reduceMul, Int.reduceToNat, Nat.reduceSub, Nat.reduceMul, Nat.reduceLeDiff, Nat.reduceAdd, Nat.reduceLT, Nat.reduceEqDiff, reduceCtorEq, ↓reduceIte, cpoly_len]
  refine call_by (m) (by rfl) (by simp) ?_
  simp (disch := omega) only [wk, tis, Int.reduceNe, Int.reduceEq, Int.reduceLT, Int.reduceLE, Int.reduceAdd, Int.reduceSub, Int.reduceNeg, Int.reduceMul, Int.reduceToNat, Nat.reduceSub, Nat.reduceMul, Nat.reduceLeDiff, Nat.reduceAdd, Nat.reduceLT, Nat.reduceEqDiff, reduceCtorEq, ↓reduceIte, cpoly_len]
  refine call_by ((zof_ok (a.1 != b.1) (nv a.2 / nv b.2))) (by rfl) (by simp) ?_
  simp (disch := omega) only [wk, tis, Int.reduceNe, Int.reduceEq, Int.reduceLT, Int.reduceLE, Int.reduceAdd, Int.reduceSub, Int.reduceNeg, Int.reduceMul, Int.reduceToNat, Nat.reduceSub, Nat.reduceMul, Nat.reduceLeDiff, Nat.reduceAdd, Nat.reduceLT, Nat.reduceEqDiff, reduceCtorEq, ↓reduceIte, cpoly_len]

theorem zexact_bad (a b : RI) (ha : Sz (2 ^ 38) a) (hb : Sz (2 ^ 38) b) (h0 : iv b ≠ 0) (hd : ¬ iv b ∣ iv a) : AC Try.prog 134 [cr a, cr b] none [cr (false, []), ci 4] := by
  refine AC.by_walk (rs := [.cell 4 40, .tmp 5]) ords Try.func134 (by rfl) (by rfl) (by rfl) (by rfl) (by rfl) ?_
  rw [iv_sg, iv_sg] at hd
  rw [iv_sg] at h0
  have hm : ¬ nv a.2 % nv b.2 = 0 := fun h => hd (sg_dvd.mpr h)
  have hn : nv b.2 ≠ 0 := fun h => h0 (by rw [h]; cases b.1 <;> rfl)
  have m := dexact_ok a.2 b.2 ha.2 hb.2 ha.1 hb.1 hn
  rw [if_neg hm, if_neg hm] at m
  simp (disch := omega) only [wk, tis, Int.reduceNe, Int.reduceEq, Int.reduceLT, Int.reduceLE, Int.reduceAdd, Int.reduceSub, Int.reduceNeg, Int.reduceMul, Int.reduceToNat, Nat.reduceSub, Nat.reduceMul, Nat.reduceLeDiff, Nat.reduceAdd, Nat.reduceLT, Nat.reduceEqDiff, reduceCtorEq, ↓reduceIte, cpoly_len]
  refine call_by (m) (by rfl) (by simp) ?_
  simp (disch := omega) only [wk, tis, Int.reduceNe, Int.reduceEq, Int.reduceLT, Int.reduceLE, Int.reduceAdd, Int.reduceSub, Int.reduceNeg, Int.reduceMul, Int.reduceToNat, Nat.reduceSub, Nat.reduceMul, Nat.reduceLeDiff, Nat.reduceAdd, Nat.reduceLT, Nat.reduceEqDiff, reduceCtorEq, ↓reduceIte, cpoly_len]

def gz (q : List Int) : Nat := q.foldl (fun g c => Nat.gcd g c.natAbs) 0

theorem gz_take {q : List Int} {i : Nat} (h : i < q.length) : gz (q.take (i + 1)) = Nat.gcd (gz (q.take i)) (cf q i).natAbs := by
  have e : q.take (i + 1) = q.take i ++ [cf q i] := by
    rw [List.take_add_one]; congr 1; simp [cf, List.getD, h]
  rw [e, gz, List.foldl_append]; rfl

theorem zgcd_ok (p : List RI) (h : RP (2 ^ 40) (2 ^ 38) p) : AC Try.prog 132 [cw p] none [cl (wd (gz (pv p)))] := by
  refine AC.by_walk (rs := [.tmp 2]) ords Try.func132 (by rfl) (by rfl) (by rfl) (by rfl) (by rfl) ?_
  have hl := h.1
  simp (disch := omega) only [wk, tis, Int.reduceNe, Int.reduceEq, Int.reduceLT, Int.reduceLE, Int.reduceAdd, Int.reduceSub, Int.reduceNeg, Int.reduceMul, Int.reduceToNat, Nat.reduceSub, Nat.reduceMul, Nat.reduceLeDiff, Nat.reduceAdd, Nat.reduceLT, Nat.reduceEqDiff, reduceCtorEq, ↓reduceIte, cpoly_len]
  refine aloop_w (.iv 3 6 1 false 87 1 [] (by simp (disch := omega) only [wk, tis, Int.reduceNe, Int.reduceEq, Int.reduceLT, Int.reduceLE, Int.reduceAdd, Int.reduceSub, Int.reduceNeg, Int.reduceMul, Int.reduceToNat, Nat.reduceSub, Nat.reduceMul, Nat.reduceLeDiff, Nat.reduceAdd, Nat.reduceLT, Nat.reduceEqDiff, reduceCtorEq, ↓reduceIte, cpoly_len]) (by simp (disch := omega) only [wk, tis, Int.reduceNe, Int.reduceEq, Int.reduceLT, Int.reduceLE, Int.reduceAdd, Int.reduceSub, Int.reduceNeg, Int.reduceMul, Int.reduceToNat, Nat.reduceSub, Nat.reduceMul, Nat.reduceLeDiff, Nat.reduceAdd, Nat.reduceLT, Nat.reduceEqDiff, reduceCtorEq, ↓reduceIte, cpoly_len]) (.refl _ _)) (fun f H => ∃ (i : Nat), i ≤ p.length ∧ (wd (gz ((pv p).take i))).length ≤ 2 ^ 38 ∧ f 9 = .iv (.int .i64 i) ∧ f 7 = .iv (.sl (raws p)) ∧ f 8 = .iv (.int .i64 p.length) ∧ f 3 = .iv (.sl (lims (wd (gz ((pv p).take i)))))) (fun f H => (p.length - intAt f 9).toNat) ?_ ?_
  · refine ⟨0, by omega, by rw [List.take_zero, gz, List.foldl_nil, wd_zero]; exact Nat.zero_le _, ?_⟩
    simp (disch := omega) only [wk, tis, Int.reduceNe, Int.reduceEq, Int.reduceLT, Int.reduceLE, Int.reduceAdd, Int.reduceSub, Int.reduceNeg, Int.reduceMul, Int.reduceToNat, Nat.reduceSub, Nat.reduceMul, Nat.reduceLeDiff, Nat.reduceAdd, Nat.reduceLT, Nat.reduceEqDiff, reduceCtorEq, ↓reduceIte, cpoly_len, List.take_zero, gz, List.foldl_nil, wd_zero, lims_nil]
  rintro f H ⟨i, hi, hs, hF⟩
  rw [intAt_of hF.1]
  simp (disch := omega) only [wk, tis, Int.reduceNe, Int.reduceEq, Int.reduceLT, Int.reduceLE, Int.reduceAdd, Int.reduceSub, Int.reduceNeg, Int.reduceMul, Int.reduceToNat, Nat.reduceSub, Nat.reduceMul, Nat.reduceLeDiff, Nat.reduceAdd, Nat.reduceLT, Nat.reduceEqDiff, reduceCtorEq, ↓reduceIte, cpoly_len, hF]
  refine if_by (fun hlt => ?_) (fun hlt => ?_)
  · have hc := h.get i
    have m := gcd_ok (wd (gz ((pv p).take i))) (p.getD i (false, [])).2 (lim_wd _) hc.2 hs hc.1
    rw [nv_wd, ← iv_abs, ← cf_pv, ← gz_take (by rw [pv_len]; omega)] at m
    simp (disch := omega) only [wk, tis, Int.reduceNe, Int.reduceEq, Int.reduceLT, Int.reduceLE, Int.reduceAdd, Int.reduceSub, Int.reduceNeg, Int.reduceMul, Int.reduceToNat, Nat.reduceSub, Nat.reduceMul, Nat.reduceLeDiff, Nat.reduceAdd, Nat.reduceLT, Nat.reduceEqDiff, reduceCtorEq, ↓reduceIte, cpoly_len, hF]
    refine call_by (m) (by first | rfl | (simp only [tocvs, tocv, hF]; rfl)) (by simp) ?_
    simp (disch := omega) only [wk, tis, Int.reduceNe, Int.reduceEq, Int.reduceLT, Int.reduceLE, Int.reduceAdd, Int.reduceSub, Int.reduceNeg, Int.reduceMul, Int.reduceToNat, Nat.reduceSub, Nat.reduceMul, Nat.reduceLeDiff, Nat.reduceAdd, Nat.reduceLT, Nat.reduceEqDiff, reduceCtorEq, ↓reduceIte, cpoly_len, hF]
    refine ⟨⟨i + 1, by omega, ?_, by omega, rfl⟩, by omega⟩
    rw [gz_take (by rw [pv_len]; omega)]
    rcases Nat.eq_zero_or_pos (cf (pv p) i).natAbs with h0 | h0
    · rw [h0, Nat.gcd_zero_right]; exact hs
    · refine Nat.le_trans (wd_len_mono (Nat.gcd_le_right _ h0)) ?_
      rw [cf_pv, iv_abs]
      exact Nat.le_trans (nv_len hc.2) hc.1
  · simp (disch := omega) only [wk, tis, Int.reduceNe, Int.reduceEq, Int.reduceLT, Int.reduceLE, Int.reduceAdd, Int.reduceSub, Int.reduceNeg, Int.reduceMul, Int.reduceToNat, Nat.reduceSub, Nat.reduceMul, Nat.reduceLeDiff, Nat.reduceAdd, Nat.reduceLT, Nat.reduceEqDiff, reduceCtorEq, ↓reduceIte, cpoly_len, hF]
    rw [List.take_of_length_le (by rw [pv_len]; omega)]

theorem gz_len {n k : Nat} {p : List RI} (h : RP n k p) : (wd (gz (pv p))).length ≤ k := by
  have key : ∀ i, i ≤ p.length → (wd (gz ((pv p).take i))).length ≤ k := by
    intro i
    induction i with
    | zero => intro _; rw [List.take_zero, gz, List.foldl_nil, wd_zero]; exact Nat.zero_le _
    | succ i ih =>
      intro hi
      rw [gz_take (by rw [pv_len]; omega)]
      rcases Nat.eq_zero_or_pos (cf (pv p) i).natAbs with h0 | h0
      · rw [h0, Nat.gcd_zero_right]; exact ih (by omega)
      · refine Nat.le_trans (wd_len_mono (Nat.gcd_le_right _ h0)) ?_
        rw [cf_pv, iv_abs]
        exact Nat.le_trans (nv_len (h.get i).2) (h.get i).1
  have := key p.length (Nat.le_refl _)
  rwa [List.take_of_length_le (by rw [pv_len]; exact Nat.le_refl _)] at this

/-- The content, with the leading sign. -/
def lc (q : List Int) : Int := cf q (tz q - 1)
def cont (q : List Int) : Int := sg (decide (lc q < 0)) (gz q)

theorem sign_neg (z : Int) : z.sign < 0 ↔ z < 0 := by
  rcases Int.lt_trichotomy z 0 with h | h | h
  · rw [Int.sign_eq_neg_one_of_neg h]; omega
  · subst h; simp
  · rw [Int.sign_eq_one_of_pos h]; omega

theorem pcontent_ok (p : List RI) (h : RP (2 ^ 40) (2 ^ 38) p) : AC Try.prog 79 [cw p] none [cz (cont (pv p))] := by
  refine AC.by_walk (rs := [.cell 2 40]) ords Try.func79 (by rfl) (by rfl) (by rfl) (by rfl) (by rfl) ?_
  have hl := h.1
  have hg := gz_len h
  have hs := zsign_ok (canon (lc (pv p))) ((sz_canon _).mono (by
    have := (h.pv).cf (tz (pv p) - 1)
    unfold lc
    omega))
  rw [iv_canon] at hs
  simp (disch := omega) only [wk, tis, Int.reduceNe, Int.reduceEq, Int.reduceLT, Int.reduceLE, Int.reduceAdd, Int.reduceSub, Int.reduceNeg, Int.reduceMul, Int.reduceToNat, Nat.reduceSub, Nat.reduceMul, Nat.reduceLeDiff, Nat.reduceAdd, Nat.reduceLT, Nat.reduceEqDiff, reduceCtorEq, ↓reduceIte, cpoly_len]
  refine call_by ((plead_ok p (h.mono (by omega) (by omega)))) (by rfl) (by simp) ?_
  simp (disch := omega) only [wk, tis, Int.reduceNe, Int.reduceEq, Int.reduceLT, Int.reduceLE, Int.reduceAdd, Int.reduceSub, Int.reduceNeg, Int.reduceMul, Int.reduceToNat, Nat.reduceSub, Nat.reduceMul, Nat.reduceLeDiff, Nat.reduceAdd, Nat.reduceLT, Nat.reduceEqDiff, reduceCtorEq, ↓reduceIte, cpoly_len]
  refine call_by (hs) (by rfl) (by simp) ?_
  simp (disch := omega) only [wk, tis, Int.reduceNe, Int.reduceEq, Int.reduceLT, Int.reduceLE, Int.reduceAdd, Int.reduceSub, Int.reduceNeg, Int.reduceMul, Int.reduceToNat, Nat.reduceSub, Nat.reduceMul, Nat.reduceLeDiff, Nat.reduceAdd, Nat.reduceLT, Nat.reduceEqDiff, reduceCtorEq, ↓reduceIte, cpoly_len]
  refine call_by ((zgcd_ok p h)) (by rfl) (by simp) ?_
  simp (disch := omega) only [wk, tis, Int.reduceNe, Int.reduceEq, Int.reduceLT, Int.reduceLE, Int.reduceAdd, Int.reduceSub, Int.reduceNeg, Int.reduceMul, Int.reduceToNat, Nat.reduceSub, Nat.reduceMul, Nat.reduceLeDiff, Nat.reduceAdd, Nat.reduceLT, Nat.reduceEqDiff, reduceCtorEq, ↓reduceIte, cpoly_len]
  have m := znat_ok (decide (lc (pv p) < 0)) (gz (pv p)) (by omega)
  have e : (decide ((lc (pv p)).sign < 0)) = decide (lc (pv p) < 0) := by rw [decide_eq_decide]; exact sign_neg _
  rw [e]
  refine call_by (m) (by rfl) (by simp) ?_
  simp (disch := omega) only [wk, tis, Int.reduceNe, Int.reduceEq, Int.reduceLT, Int.reduceLE, Int.reduceAdd, Int.reduceSub, Int.reduceNeg, Int.reduceMul, Int.reduceToNat, Nat.reduceSub, Nat.reduceMul, Nat.reduceLeDiff, Nat.reduceAdd, Nat.reduceLT, Nat.reduceEqDiff, reduceCtorEq, ↓reduceIte, cpoly_len]
  rfl

def pdivs (c : Int) (q : List Int) : List Int := q.map (· / c)

theorem pover_zero (p : List RI) (c : RI) (hp : RP (2 ^ 40) (2 ^ 38) p) (hc : Sz (2 ^ 38) c) (h0 : iv c = 0) : AC Try.prog 83 [cw p, cr c] none [cw [], ci 1] := by
  refine AC.by_walk (rs := [.tmp 4, .tmp 5]) ords Try.func83 (by rfl) (by rfl) (by rfl) (by rfl) (by rfl) ?_
  simp (disch := omega) only [wk, tis, Int.reduceNe, Int.reduceEq, Int.reduceLT, Int.reduceLE, Int.reduceAdd, Int.reduceSub, Int.reduceNeg, Int.reduceMul, Int.reduceToNat, Nat.reduceSub, Nat.reduceMul, Nat.reduceLeDiff, Nat.reduceAdd, Nat.reduceLT, Nat.reduceEqDiff, reduceCtorEq, ↓reduceIte, cpoly_len]
  have hs := zsign_ok c (hc.mono (by omega))
  rw [h0] at hs
  rw [Int.sign_zero] at hs
  refine call_by (hs) (by rfl) (by simp) ?_
  simp (disch := omega) only [wk, tis, Int.reduceNe, Int.reduceEq, Int.reduceLT, Int.reduceLE, Int.reduceAdd, Int.reduceSub, Int.reduceNeg, Int.reduceMul, Int.reduceToNat, Nat.reduceSub, Nat.reduceMul, Nat.reduceLeDiff, Nat.reduceAdd, Nat.reduceLT, Nat.reduceEqDiff, reduceCtorEq, ↓reduceIte, cpoly_len]

theorem cf_pdivs (c : Int) (q : List Int) (k : Nat) : cf (pdivs c q) k = cf q k / c := by
  unfold pdivs cf
  rw [List.getD_eq_getElem?_getD, List.getD_eq_getElem?_getD, List.getElem?_map]
  cases q[k]? with
  | none => simp
  | some x => rfl

theorem zl_div {a b : Int} (h : b ∣ a) : zl (a / b) ≤ zl a := by
  obtain ⟨k, rfl⟩ := h
  by_cases h0 : b = 0
  · subst h0; simp
  · rw [Int.mul_ediv_cancel_left _ h0]
    unfold zl
    rw [Int.natAbs_mul]
    exact wd_len_mono (Nat.le_mul_of_pos_left _ (by omega))

theorem pover_ok (p : List RI) (c : RI) (hp : RP (2 ^ 30) (2 ^ 35) p) (hc : Sz (2 ^ 35) c) (h0 : iv c ≠ 0) (hd : ∀ k, iv c ∣ cf (pv p) k) : AC Try.prog 83 [cw p, cr c] none [cp (pdivs (iv c) (pv p)), ci 0] := by
  refine AC.by_walk (rs := [.tmp 4, .tmp 5]) ords Try.func83 (by rfl) (by rfl) (by rfl) (by rfl) (by rfl) ?_
  have hl := hp.1
  have hs0 : (iv c).sign ≠ 0 := fun h => h0 (Int.sign_eq_zero_iff_zero.mp h)
  simp (disch := omega) only [wk, tis, Int.reduceNe, Int.reduceEq, Int.reduceLT, Int.reduceLE, Int.reduceAdd, Int.reduceSub, Int.reduceNeg, Int.reduceMul, Int.reduceToNat, Nat.reduceSub, Nat.reduceMul, Nat.reduceLeDiff, Nat.reduceAdd, Nat.reduceLT, Nat.reduceEqDiff, reduceCtorEq, ↓reduceIte, cpoly_len]
  refine call_by ((zsign_ok c (hc.mono (by omega)))) (by rfl) (by simp) ?_
  simp (disch := omega) only [wk, tis, Int.reduceNe, Int.reduceEq, Int.reduceLT, Int.reduceLE, Int.reduceAdd, Int.reduceSub, Int.reduceNeg, Int.reduceMul, Int.reduceToNat, Nat.reduceSub, Nat.reduceMul, Nat.reduceLeDiff, Nat.reduceAdd, Nat.reduceLT, Nat.reduceEqDiff, reduceCtorEq, ↓reduceIte, cpoly_len]
  simp (disch := omega) only [wk, tis, Int.reduceNe, Int.reduceEq, Int.reduceLT, Int.reduceLE, Int.reduceAdd, Int.reduceSub, Int.reduceNeg, Int.reduceMul, Int.reduceToNat, Nat.reduceSub, Nat.reduceMul, Nat.reduceLeDiff, Nat.reduceAdd, Nat.reduceLT, Nat.reduceEqDiff, reduceCtorEq, ↓reduceIte, cpoly_len, hs0]
  refine aloop_by (fun f H => ∃ (i st st3 : Nat) (out : List Int), i ≤ p.length ∧ out.length = p.length ∧ (∀ k, zl (cf out k) ≤ 2 ^ 36) ∧ (∀ k, k < i → cf out k = cf (pv p) k / iv c) ∧ f 18 = .iv (.int .i64 i) ∧ f 0 = .iv (.sl (raws p)) ∧ f 3 = .hp 3 st3 0 0 ∧ f 6 = .hs 15 st ∧ f 17 = .iv (.int .i64 p.length) ∧ H 15 = .blk false st 40 2 (raws (out.map canon)) ∧ H 3 = .blk false st3 40 2 [prow c]) (fun f H => (p.length - intAt f 18).toNat) ?_ ?_
  · refine ⟨0, 1, 1, List.replicate p.length 0, by omega, by simp, fun k => by rw [cf_rep, zl_zero]; omega, fun k hk => by omega, ?_⟩
    simp (disch := omega) only [wk, tis, Int.reduceNe, Int.reduceEq, Int.reduceLT, Int.reduceLE, Int.reduceAdd, Int.reduceSub, Int.reduceNeg, Int.reduceMul, Int.reduceToNat, Nat.reduceSub, Nat.reduceMul, Nat.reduceLeDiff, Nat.reduceAdd, Nat.reduceLT, Nat.reduceEqDiff, reduceCtorEq, ↓reduceIte, cpoly_len, Int.toNat_natCast, rep_canon]
  rintro f H ⟨i, st, st3, out, hi, hol, hz, hv, hF⟩
  rw [intAt_of hF.1]
  simp (disch := omega) only [wk, tis, Int.reduceNe, Int.reduceEq, Int.reduceLT, Int.reduceLE, Int.reduceAdd, Int.reduceSub, Int.reduceNeg, Int.reduceMul, Int.reduceToNat, Nat.reduceSub, Nat.reduceMul, Nat.reduceLeDiff, Nat.reduceAdd, Nat.reduceLT, Nat.reduceEqDiff, reduceCtorEq, ↓reduceIte, cpoly_len, hF]
  refine if_by (fun hlt => ?_) (fun hlt => ?_)
  · have hq : (out.map canon).length = p.length := by rw [List.length_map, hol]
    have hdi := hd i
    rw [cf_pv] at hdi
    have m := zexact_ok (p.getD i (false, [])) c ((hp.get i).mono (by omega)) (hc.mono (by omega)) h0 hdi
    rw [← cf_pv] at m
    simp (disch := omega) only [wk, tis, Int.reduceNe, Int.reduceEq, Int.reduceLT, Int.reduceLE, Int.reduceAdd, Int.reduceSub, Int.reduceNeg, Int.reduceMul, Int.reduceToNat, Nat.reduceSub, Nat.reduceMul, Nat.reduceLeDiff, Nat.reduceAdd, Nat.reduceLT, Nat.reduceEqDiff, reduceCtorEq, ↓reduceIte, cpoly_len, hF, hq]
    refine ⟨tmps_by (by kernel_rfl), ?_⟩
    refine call_by (m) (by first | rfl | (simp only [tocvs, tocv, hF, hq]; rfl)) (by simp) ?_
    simp (disch := omega) only [wk, tis, Int.reduceNe, Int.reduceEq, Int.reduceLT, Int.reduceLE, Int.reduceAdd, Int.reduceSub, Int.reduceNeg, Int.reduceMul, Int.reduceToNat, Nat.reduceSub, Nat.reduceMul, Nat.reduceLeDiff, Nat.reduceAdd, Nat.reduceLT, Nat.reduceEqDiff, reduceCtorEq, ↓reduceIte, cpoly_len, hF, hq]
    first | exact log_by (by kernel_rfl) | refine ⟨log_by (by kernel_rfl), ?_⟩
    refine ⟨⟨i + 1, st, st3, out.set i (cf (pv p) i / iv c), by omega, by simp [hol], fun k => ?_, fun k hk => ?_, by omega, rfl, rfl, rfl, rfl⟩, by omega⟩
    · rw [cf_set (by omega)]
      split
      · have := zl_div (hd i)
        have := hp.pv.cf i
        omega
      · exact hz k
    · rw [cf_set (by omega)]
      split
      · rename_i e; rw [e]
      · exact hv k (by omega)
  · simp (disch := omega) only [wk, tis, Int.reduceNe, Int.reduceEq, Int.reduceLT, Int.reduceLE, Int.reduceAdd, Int.reduceSub, Int.reduceNeg, Int.reduceMul, Int.reduceToNat, Nat.reduceSub, Nat.reduceMul, Nat.reduceLeDiff, Nat.reduceAdd, Nat.reduceLT, Nat.reduceEqDiff, reduceCtorEq, ↓reduceIte, cpoly_len, hF]
    have e : cp (pdivs (iv c) (pv p)) = cp (pv (out.map canon)) := by
      refine cp_ext fun k => ?_
      rw [pv_canon, cf_pdivs]
      by_cases hk : k < p.length
      · exact (hv k (by omega)).symm
      · rw [cf_ge (q := out) (by omega), cf_ge (by rw [pv_len]; omega)]; simp
    rw [e]
    refine call_by ((pnorm_ok (out.map canon) (RP.canon (.of (by omega) fun k => Nat.le_trans (hz k) (by omega))))) (by first | rfl | (simp only [tocvs, tocv, hF]; rfl)) (by simp) ?_
    simp (disch := omega) only [wk, tis, Int.reduceNe, Int.reduceEq, Int.reduceLT, Int.reduceLE, Int.reduceAdd, Int.reduceSub, Int.reduceNeg, Int.reduceMul, Int.reduceToNat, Nat.reduceSub, Nat.reduceMul, Nat.reduceLeDiff, Nat.reduceAdd, Nat.reduceLT, Nat.reduceEqDiff, reduceCtorEq, ↓reduceIte, cpoly_len, hF]

theorem gz_dvd (q : List Int) (k : Nat) : (gz q : Int) ∣ cf q k := by
  have key : ∀ i, i ≤ q.length → ∀ k, k < i → (gz (q.take i) : Int) ∣ cf q k := by
    intro i
    induction i with
    | zero => intro _ k hk; omega
    | succ i ih =>
      intro hi k hk
      rw [gz_take (by omega)]
      rcases Nat.lt_or_ge k i with h | h
      · exact Int.dvd_trans (Int.natCast_dvd_natCast.mpr (Nat.gcd_dvd_left _ _)) (ih (by omega) k h)
      · obtain rfl : k = i := by omega
        exact Int.ofNat_dvd_left.mpr (Nat.gcd_dvd_right _ _)
  rcases Nat.lt_or_ge k q.length with h | h
  · have := key q.length (Nat.le_refl _) k h
    rwa [List.take_of_length_le (Nat.le_refl _)] at this
  · rw [cf_ge h]; exact Int.dvd_zero _

theorem cont_dvd (q : List Int) (k : Nat) : cont q ∣ cf q k := by
  have := gz_dvd q k
  unfold cont sg
  split
  · exact Int.neg_dvd.mpr this
  · exact this

theorem cont_natAbs (q : List Int) : (cont q).natAbs = gz q := by
  unfold cont sg
  split <;> simp

/-- The primitive part. -/
def prim (q : List Int) : List Int := pdivs (cont q) q

theorem pprim_ok (p : List RI) (h : RP (2 ^ 30) (2 ^ 35) p) : AC Try.prog 80 [cw p] none [cp (prim (pv p))] := by
  refine AC.by_walk (rs := [.tmp 2]) ords Try.func80 (by rfl) (by rfl) (by rfl) (by rfl) (by rfl) ?_
  have hg := gz_len h
  have hsz : Sz (2 ^ 35) (canon (cont (pv p))) := (sz_canon _).mono (by unfold zl; rw [cont_natAbs]; exact hg)
  simp (disch := omega) only [wk, tis, Int.reduceNe, Int.reduceEq, Int.reduceLT, Int.reduceLE, Int.reduceAdd, Int.reduceSub, Int.reduceNeg, Int.reduceMul, Int.reduceToNat, Nat.reduceSub, Nat.reduceMul, Nat.reduceLeDiff, Nat.reduceAdd, Nat.reduceLT, Nat.reduceEqDiff, reduceCtorEq, ↓reduceIte, cpoly_len]
  refine call_by ((pcontent_ok p (h.mono (by omega) (by omega)))) (by rfl) (by simp) ?_
  simp (disch := omega) only [wk, tis, Int.reduceNe, Int.reduceEq, Int.reduceLT, Int.reduceLE, Int.reduceAdd, Int.reduceSub, Int.reduceNeg, Int.reduceMul, Int.reduceToNat, Nat.reduceSub, Nat.reduceMul, Nat.reduceLeDiff, Nat.reduceAdd, Nat.reduceLT, Nat.reduceEqDiff, reduceCtorEq, ↓reduceIte, cpoly_len]
  by_cases h0 : cont (pv p) = 0
  · have m := pover_zero p (canon (cont (pv p))) (h.mono (by omega) (by omega)) (hsz.mono (by omega)) (by rw [iv_canon]; exact h0)
    have e : cp (prim (pv p)) = cw [] := by
      have : cp (prim (pv p)) = cp [] := cp_ext fun k => by
        unfold prim
        rw [cf_pdivs, h0, Int.ediv_zero]; rfl
      rw [this]; rfl
    rw [e]
    refine call_by (m) (by rfl) (by simp) ?_
    simp (disch := omega) only [wk, tis, Int.reduceNe, Int.reduceEq, Int.reduceLT, Int.reduceLE, Int.reduceAdd, Int.reduceSub, Int.reduceNeg, Int.reduceMul, Int.reduceToNat, Nat.reduceSub, Nat.reduceMul, Nat.reduceLeDiff, Nat.reduceAdd, Nat.reduceLT, Nat.reduceEqDiff, reduceCtorEq, ↓reduceIte, cpoly_len]
  · have m := pover_ok p (canon (cont (pv p))) h hsz (by rw [iv_canon]; exact h0) (fun k => by rw [iv_canon]; exact cont_dvd _ k)
    rw [iv_canon] at m
    refine call_by (m) (by rfl) (by simp) ?_
    simp (disch := omega) only [wk, tis, Int.reduceNe, Int.reduceEq, Int.reduceLT, Int.reduceLE, Int.reduceAdd, Int.reduceSub, Int.reduceNeg, Int.reduceMul, Int.reduceToNat, Nat.reduceSub, Nat.reduceMul, Nat.reduceLeDiff, Nat.reduceAdd, Nat.reduceLT, Nat.reduceEqDiff, reduceCtorEq, ↓reduceIte, cpoly_len]
    rfl
end Go.Proofs.Ythgecppfgdadiaa

namespace Go.Proofs.Ythgecppfgdadiaa
open Go Go.Proofs Go.AL
set_option linter.unusedSimpArgs false
set_option linter.unusedVariables false

theorem gz_greatest (q : List Int) (d : Nat) (h : ∀ k, (d : Int) ∣ cf q k) : d ∣ gz q := by
  have key : ∀ i, i ≤ q.length → d ∣ gz (q.take i) := by
    intro i
    induction i with
    | zero => intro _; exact Nat.dvd_zero _
    | succ i ih =>
      intro hi
      rw [gz_take (by omega)]
      exact Nat.dvd_gcd (ih (by omega)) (Int.ofNat_dvd_left.mp (h i))
  have := key q.length (Nat.le_refl _)
  rwa [List.take_of_length_le (Nat.le_refl _)] at this

theorem gz_eq {p q : List Int} (h : ∀ k, cf p k = cf q k) : gz p = gz q :=
  Nat.dvd_antisymm (gz_greatest q _ fun k => by rw [← h]; exact gz_dvd p k) (gz_greatest p _ fun k => by rw [h]; exact gz_dvd q k)

theorem gz_scale (c : Int) (q : List Int) : gz (pscale c q) = c.natAbs * gz q := by
  have key : ∀ (q : List Int) (g : Nat), (pscale c q).foldl (fun g x => Nat.gcd g x.natAbs) (c.natAbs * g) = c.natAbs * q.foldl (fun g x => Nat.gcd g x.natAbs) g := by
    intro q
    induction q with
    | nil => intro g; rfl
    | cons x xs ih =>
      intro g
      have e : pscale c (x :: xs) = (x * c) :: pscale c xs := rfl
      rw [e, List.foldl_cons, List.foldl_cons, Int.natAbs_mul, Nat.mul_comm x.natAbs, Nat.gcd_mul_left, ih]
  exact key q 0

/-- A divisor that cannot be split. -/
theorem prime_fac : ∀ n : Nat, 1 < n → ∃ r, 1 < r ∧ r ∣ n ∧ ∀ x : Nat, r ∣ x ∨ Nat.gcd r x = 1 := by
  intro n
  induction n using Nat.strongRecOn with
  | _ n ih =>
    intro hn
    by_cases h : ∀ x : Nat, n ∣ x ∨ Nat.gcd n x = 1
    · exact ⟨n, hn, Nat.dvd_refl _, h⟩
    · obtain ⟨x, hx⟩ := Classical.not_forall.mp h
      have h1 : ¬ n ∣ x := fun h => hx (.inl h)
      have h2 : ¬ Nat.gcd n x = 1 := fun h => hx (.inr h)
      have h3 : Nat.gcd n x ≤ n := Nat.gcd_le_left _ (by omega)
      have h4 : Nat.gcd n x ≠ n := fun h => h1 (by rw [← h]; exact Nat.gcd_dvd_right _ _)
      have h5 : Nat.gcd n x ≠ 0 := fun h => by have := Nat.eq_zero_of_gcd_eq_zero_left h; omega
      obtain ⟨r, hr, hrd, hp⟩ := ih (Nat.gcd n x) (by omega) (by omega)
      exact ⟨r, hr, Nat.dvd_trans hrd (Nat.gcd_dvd_left _ _), hp⟩

theorem prime_mul {r : Nat} (hp : ∀ x : Nat, r ∣ x ∨ Nat.gcd r x = 1) {x y : Int} (h : (r : Int) ∣ x * y) : (r : Int) ∣ x ∨ (r : Int) ∣ y := by
  have h1 := Int.ofNat_dvd_left.mp h
  rw [Int.natAbs_mul] at h1
  rcases hp x.natAbs with h2 | h2
  · exact .inl (Int.ofNat_dvd_left.mpr h2)
  · exact .inr (Int.ofNat_dvd_left.mpr (Nat.Coprime.dvd_of_dvd_mul_left h2 h1))

theorem sumN_dvd {r : Int} : ∀ {n : Nat} {f : Nat → Int}, (∀ k, k < n → r ∣ f k) → r ∣ sumN n f
  | 0, f, _ => Int.dvd_zero _
  | n + 1, f, h => Int.dvd_add (sumN_dvd fun k hk => h k (by omega)) (h n (by omega))

theorem sumN_dvd_one {r : Int} {n i : Nat} {f : Nat → Int} (hi : i < n) (h : ∀ k, k < n → k ≠ i → r ∣ f k) (hs : r ∣ sumN n f) : r ∣ f i := by
  have e : sumN n f = sumN n (fun k => if k = i then 0 else f k) + f i := by
    have h1 : sumN n (fun k => if k = i then f k else 0) = f i := by
      rw [sumN_one _ hi fun k _ hk => if_neg hk, if_pos rfl]
    rw [← h1, ← sumN_add]
    refine sumN_congr fun k _ => ?_
    by_cases hk : k = i
    · rw [if_pos hk, if_pos hk, Int.zero_add]
    · rw [if_neg hk, if_neg hk, Int.add_zero]
  have h2 : r ∣ sumN n (fun k => if k = i then 0 else f k) := sumN_dvd fun k hk => by
    by_cases hki : k = i
    · simp only [if_pos hki]; exact Int.dvd_zero _
    · simp only [if_neg hki]; exact h k hk hki
  rw [e] at hs
  exact (Int.dvd_add_right h2).mp hs

theorem gauss_prime {r : Nat} (hp : ∀ x : Nat, r ∣ x ∨ Nat.gcd r x = 1) {p q : List Int} (h : ∀ k, (r : Int) ∣ cf (pmul p q) k) : ∀ n i j, i + j = n → (r : Int) ∣ cf p i ∨ (r : Int) ∣ cf q j := by
  intro n
  induction n using Nat.strongRecOn with
  | _ n ih =>
    intro i j hij
    by_cases h1 : (r : Int) ∣ cf p i
    · exact .inl h1
    by_cases h2 : (r : Int) ∣ cf q j
    · exact .inr h2
    exfalso
    have h3 := h n
    rw [cf_pmul, PS.cv_conv, PS.conv] at h3
    have h4 := sumN_dvd_one (i := i) (by omega) (fun k hk hki => ?_) h3
    · rw [show n - i = j by omega] at h4
      rcases prime_mul hp h4 with h5 | h5
      · exact h1 h5
      · exact h2 h5
    · rcases Nat.lt_or_ge k i with h5 | h5
      · rcases ih (k + j) (by omega) k j rfl with h6 | h6
        · exact Int.dvd_trans h6 (Int.dvd_mul_right _ _)
        · exact absurd h6 h2
      · rcases ih (i + (n - k)) (by omega) i (n - k) rfl with h6 | h6
        · exact absurd h6 h1
        · exact Int.dvd_trans h6 (Int.dvd_mul_left _ _)

theorem gauss_gz {p q : List Int} (hp : gz p = 1) (hq : gz q = 1) : gz (pmul p q) = 1 := by
  rcases Nat.lt_trichotomy (gz (pmul p q)) 1 with h | h | h
  · exfalso
    obtain ⟨r, hr, hrd, hpr⟩ := prime_fac 2 (by decide)
    have h0 : gz (pmul p q) = 0 := by omega
    have hd : ∀ k, (r : Int) ∣ cf (pmul p q) k := fun k => by
      have := gz_dvd (pmul p q) k
      rw [h0] at this
      rw [Int.zero_dvd.mp this]
      exact Int.dvd_zero _
    have key := gauss_prime hpr hd
    by_cases ha : ∀ i, (r : Int) ∣ cf p i
    · have := gz_greatest p r ha
      rw [hp] at this
      have := Nat.le_of_dvd (by decide) this
      omega
    · obtain ⟨i, hi⟩ := Classical.not_forall.mp ha
      have := gz_greatest q r fun j => (key _ i j rfl).resolve_left hi
      rw [hq] at this
      have := Nat.le_of_dvd (by decide) this
      omega
  · exact h
  · exfalso
    obtain ⟨r, hr, hrd, hpr⟩ := prime_fac _ h
    have hd : ∀ k, (r : Int) ∣ cf (pmul p q) k := fun k => Int.dvd_trans (Int.natCast_dvd_natCast.mpr hrd) (gz_dvd _ k)
    have key := gauss_prime hpr hd
    by_cases ha : ∀ i, (r : Int) ∣ cf p i
    · have := gz_greatest p r ha
      rw [hp] at this
      have := Nat.le_of_dvd (by decide) this
      omega
    · obtain ⟨i, hi⟩ := Classical.not_forall.mp ha
      have := gz_greatest q r fun j => (key _ i j rfl).resolve_left hi
      rw [hq] at this
      have := Nat.le_of_dvd (by decide) this
      omega

theorem lc_spec {q : List Int} {n : Nat} (h : cf q n ≠ 0) (h0 : ∀ k, n < k → cf q k = 0) : lc q = cf q n := by
  unfold lc
  rw [tz_spec h h0, Nat.add_sub_cancel]

theorem lc_ne {q : List Int} (h : gz q ≠ 0) : tz q ≠ 0 ∧ lc q ≠ 0 := by
  have h1 : tz q ≠ 0 := fun h1 => by
    have h2 : (0 : Nat) ∣ gz q := gz_greatest q 0 fun k => by rw [tz_zero_iff.mp h1 k]; exact Int.dvd_zero _
    exact h (Nat.eq_zero_of_zero_dvd h2)
  exact ⟨h1, cf_tz_pred h1⟩

/-- Primitive, with a positive leading coefficient. -/
def Prm (q : List Int) : Prop := gz q = 1 ∧ 0 < lc q

theorem lc_scale {T R : List Int} {c : Int} (h : ∀ k, cf T k = c * cf R k) (hR : lc R ≠ 0) : lc T = c * lc R := by
  have hR' : tz R ≠ 0 := fun h0 => hR (by unfold lc; exact tz_zero_iff.mp h0 _)
  by_cases hc : c = 0
  · unfold lc; rw [h, hc, Int.zero_mul, Int.zero_mul]
  · have e : lc T = cf T (tz R - 1) := lc_spec (by rw [h]; exact Int.mul_ne_zero hc hR) fun k hk => by rw [h, cf_ge_tz R (by omega), Int.mul_zero]
    rw [e, h]; rfl

theorem gz_mul {T R : List Int} {c : Int} (h : ∀ k, cf T k = c * cf R k) : gz T = c.natAbs * gz R := by
  rw [← gz_scale]
  exact gz_eq fun k => by rw [h, cf_pscale, Int.mul_comm]

theorem sg_abs {c l : Int} (hl : 0 < l) : sg (decide (c * l < 0)) c.natAbs = c := by
  unfold sg
  by_cases hc : c < 0
  · rw [decide_eq_true (Int.mul_neg_of_neg_of_pos hc hl)]
    simp only [↓reduceIte]; omega
  · have h1 : ¬ c * l < 0 := by have := Int.mul_nonneg (show 0 ≤ c by omega) (show 0 ≤ l by omega); omega
    rw [decide_eq_false h1]
    simp only [Bool.false_eq_true, ↓reduceIte]; omega

theorem cont_of {T R : List Int} {c : Int} (hR : Prm R) (h : ∀ k, cf T k = c * cf R k) : cont T = c := by
  unfold cont
  rw [gz_mul h, hR.1, Nat.mul_one, lc_scale h (by have := hR.2; omega)]
  exact sg_abs hR.2

theorem prim_of {T R : List Int} {c : Int} (hR : Prm R) (hc : c ≠ 0) (h : ∀ k, cf T k = c * cf R k) (k : Nat) : cf (prim T) k = cf R k := by
  unfold prim
  rw [cf_pdivs, cont_of hR h, h, Int.mul_ediv_cancel_left _ hc]

theorem cf_prim (q : List Int) (k : Nat) : cf q k = cont q * cf (prim q) k := by
  unfold prim
  rw [cf_pdivs, Int.mul_ediv_cancel' (cont_dvd q k)]

theorem prm_prim {q : List Int} (h : cont q ≠ 0) : Prm (prim q) := by
  have h0 : gz q ≠ 0 := fun h0 => h (Int.natAbs_eq_zero.mp (by rw [cont_natAbs]; exact h0))
  have h1 := gz_mul (cf_prim q)
  rw [cont_natAbs] at h1
  have h2 : gz (prim q) = 1 := by
    have : gz q * gz (prim q) = gz q * 1 := by omega
    exact Nat.eq_of_mul_eq_mul_left (by omega) this
  refine ⟨h2, ?_⟩
  have h3 := (lc_ne (q := prim q) (by omega)).2
  have h4 := lc_scale (cf_prim q) h3
  have h5 := (lc_ne h0).2
  rcases Int.lt_trichotomy (lc (prim q)) 0 with h6 | h6 | h6
  · exfalso
    rcases Int.lt_or_gt_of_ne h5 with h7 | h7
    · have h8 : cont q < 0 := by
        unfold cont sg
        rw [decide_eq_true h7]
        simp only [↓reduceIte]; omega
      have := Int.mul_pos_of_neg_of_neg h8 h6
      omega
    · have h8 : 0 < cont q := by
        unfold cont sg
        rw [decide_eq_false (by omega)]
        simp only [Bool.false_eq_true, ↓reduceIte]; omega
      have := Int.mul_neg_of_pos_of_neg h8 h6
      omega
  · exact absurd h6 h3
  · exact h6

theorem lc_pmul {P Q : List Int} (hP : lc P ≠ 0) (hQ : lc Q ≠ 0) : lc (pmul P Q) = lc P * lc Q := by
  have hP' : tz P ≠ 0 := fun h0 => hP (by unfold lc; exact tz_zero_iff.mp h0 _)
  have hQ' : tz Q ≠ 0 := fun h0 => hQ (by unfold lc; exact tz_zero_iff.mp h0 _)
  have e1 : cf (pmul P Q) (tz P - 1 + (tz Q - 1)) = lc P * lc Q := by
    rw [cf_pmul, PS.cv_conv, PS.conv, sumN_one (j := tz P - 1) _ (by omega) fun i hi hne => ?_]
    · rw [show tz P - 1 + (tz Q - 1) - (tz P - 1) = tz Q - 1 by omega]; rfl
    · rcases Nat.lt_or_ge i (tz P - 1) with h | h
      · rw [cf_ge_tz Q (by omega), Int.mul_zero]
      · rw [cf_ge_tz P (by omega), Int.zero_mul]
  rw [lc_spec (n := tz P - 1 + (tz Q - 1)) (by rw [e1]; exact Int.mul_ne_zero hP hQ) fun k hk => ?_, e1]
  rw [cf_pmul, PS.cv_conv, PS.conv]
  refine sumN_zero fun i hi => ?_
  rcases Nat.lt_or_ge i (tz P) with h | h
  · rw [cf_ge_tz Q (by omega), Int.mul_zero]
  · rw [cf_ge_tz P (by omega), Int.zero_mul]

theorem prm_mul {P Q : List Int} (hP : Prm P) (hQ : Prm Q) : Prm (pmul P Q) := by
  refine ⟨gauss_gz hP.1 hQ.1, ?_⟩
  have h1 := hP.2
  have h2 := hQ.2
  rw [lc_pmul (by omega) (by omega)]
  exact Int.mul_pos h1 h2

theorem prim_zero {q : List Int} (h : cont q = 0) (k : Nat) : cf (prim q) k = 0 ∧ cf q k = 0 := by
  constructor
  · unfold prim
    rw [cf_pdivs, h, Int.ediv_zero]
  · rw [cf_prim, h, Int.zero_mul]

theorem pscale_eq (c : Int) (q : List Int) : ps (pscale c q) = PS.C c * ps q := ps_pscale c q

theorem ps_prim (q : List Int) : ps q = PS.C (cont q) * ps (prim q) := PS.ext fun k => by
  rw [PS.C_mul_c, ps_c, ps_c]; exact cf_prim q k

theorem mul_prims (p q : List Int) (k : Nat) : cf (pmul p q) k = cont p * cont q * cf (pmul (prim p) (prim q)) k := by
  have h : ps (pmul p q) = PS.C (cont p * cont q) * ps (pmul (prim p) (prim q)) := by
    rw [ps_pmul, ps_pmul, ps_prim p, ps_prim q, PS.C_mul]
    rw [← ps_prim p, ← ps_prim q]
    conv => lhs; rw [ps_prim p, ps_prim q]
    rw [PS.mul_assoc, PS.mul_assoc, ← PS.mul_assoc (ps (prim p)), PS.mul_comm (ps (prim p)) (PS.C _), PS.mul_assoc]
  have := congrArg (fun f => f.c k) h
  simp only [ps_c, PS.C_mul_c] at this
  exact this

/-- Gauss' lemma. -/
theorem cont_mul (p q : List Int) : cont (pmul p q) = cont p * cont q := by
  by_cases hp : cont p = 0
  · have h0 : ∀ k, cf (pmul p q) k = 0 := fun k => by rw [mul_prims, hp, Int.zero_mul, Int.zero_mul]
    have h1 : gz (pmul p q) = 0 := Nat.eq_zero_of_zero_dvd (gz_greatest _ 0 fun k => by rw [h0]; exact Int.dvd_zero _)
    rw [hp, Int.zero_mul]
    exact Int.natAbs_eq_zero.mp (by rw [cont_natAbs]; exact h1)
  by_cases hq : cont q = 0
  · have h0 : ∀ k, cf (pmul p q) k = 0 := fun k => by rw [mul_prims, hq, Int.mul_zero, Int.zero_mul]
    have h1 : gz (pmul p q) = 0 := Nat.eq_zero_of_zero_dvd (gz_greatest _ 0 fun k => by rw [h0]; exact Int.dvd_zero _)
    rw [hq, Int.mul_zero]
    exact Int.natAbs_eq_zero.mp (by rw [cont_natAbs]; exact h1)
  exact cont_of (prm_mul (prm_prim hp) (prm_prim hq)) (mul_prims p q)

theorem ps_zero {q : List Int} (h : ∀ k, cf q k = 0) : ps q = 0 := PS.ext h

theorem prim_mul (p q : List Int) : ps (prim (pmul p q)) = ps (pmul (prim p) (prim q)) := by
  by_cases hp : cont p = 0
  · have h1 : ps (prim p) = 0 := ps_zero fun k => (prim_zero hp k).1
    rw [ps_pmul, h1, PS.zero_mul]
    exact ps_zero fun k => (prim_zero (by rw [cont_mul, hp, Int.zero_mul]) k).1
  by_cases hq : cont q = 0
  · have h1 : ps (prim q) = 0 := ps_zero fun k => (prim_zero hq k).1
    rw [ps_pmul, h1, PS.mul_zero]
    exact ps_zero fun k => (prim_zero (by rw [cont_mul, hq, Int.mul_zero]) k).1
  exact ps_ext fun k => prim_of (prm_mul (prm_prim hp) (prm_prim hq)) (Int.mul_ne_zero hp hq) (mul_prims p q) k

theorem prm_self {q : List Int} (h : Prm q) : cont q = 1 ∧ ps (prim q) = ps q :=
  ⟨cont_of h fun k => (Int.one_mul _).symm, ps_ext fun k => prim_of h (by decide) (fun k => (Int.one_mul _).symm) k⟩

theorem cont_zero_iff {q : List Int} : cont q = 0 ↔ tz q = 0 := by
  constructor
  · intro h; exact tz_zero_iff.mpr fun k => (prim_zero h k).2
  · intro h
    refine Int.natAbs_eq_zero.mp ?_
    rw [cont_natAbs]
    exact Nat.eq_zero_of_zero_dvd (gz_greatest _ 0 fun k => by rw [tz_zero_iff.mp h k]; exact Int.dvd_zero _)

end Go.Proofs.Ythgecppfgdadiaa

namespace Go.Proofs.Ythgecppfgdadiaa
open Go Go.Proofs Go.AL
set_option linter.unusedSimpArgs false
set_option linter.unusedVariables false

theorem zsame_ok (a b : List RI) (ha : RP (2 ^ 40) (2 ^ 43) a) (hb : RP (2 ^ 40) (2 ^ 43) b) : AC Try.prog 90 [cw a, cw b] none [cb (decide (a = b))] := by
  refine AC.by_walk (rs := [.tmp 4]) ords Try.func90 (by rfl) (by rfl) (by rfl) (by rfl) (by rfl) ?_
  have hla := ha.1
  have hlb := hb.1
  simp (disch := omega) only [wk, tis, Int.reduceNe, Int.reduceEq, Int.reduceLT, Int.reduceLE, Int.reduceAdd, Int.reduceSub, Int.reduceNeg, Int.reduceMul, Int.reduceToNat, Nat.reduceSub, Nat.reduceMul, Nat.reduceLeDiff, Nat.reduceAdd, Nat.reduceLT, Nat.reduceEqDiff, reduceCtorEq, ↓reduceIte, cpoly_len]
  refine if_by (fun hz => ?_) (fun hz => ?_)
  · simp (disch := omega) only [wk, tis, Int.reduceNe, Int.reduceEq, Int.reduceLT, Int.reduceLE, Int.reduceAdd, Int.reduceSub, Int.reduceNeg, Int.reduceMul, Int.reduceToNat, Nat.reduceSub, Nat.reduceMul, Nat.reduceLeDiff, Nat.reduceAdd, Nat.reduceLT, Nat.reduceEqDiff, reduceCtorEq, ↓reduceIte, cpoly_len]
    exact (decide_eq_false (fun e => hz (by rw [e]))).symm
  have hl : a.length = b.length := by omega
  simp (disch := omega) only [wk, tis, Int.reduceNe, Int.reduceEq, Int.reduceLT, Int.reduceLE, Int.reduceAdd, Int.reduceSub, Int.reduceNeg, Int.reduceMul, Int.reduceToNat, Nat.reduceSub, Nat.reduceMul, Nat.reduceLeDiff, Nat.reduceAdd, Nat.reduceLT, Nat.reduceEqDiff, reduceCtorEq, ↓reduceIte, cpoly_len]
  refine aloop_by (fun f H => ∃ i : Nat, i ≤ a.length ∧ a.take i = b.take i ∧ f 0 = .iv (.sl (raws a)) ∧ f 1 = .iv (.sl (raws b)) ∧ f 5 = .iv (.int .i64 i)) (fun f H => (a.length - intAt f 5).toNat) ?_ ?_
  · exact ⟨0, by omega, rfl, by simp (disch := omega) only [wk, tis, Int.reduceNe, Int.reduceEq, Int.reduceLT, Int.reduceLE, Int.reduceAdd, Int.reduceSub, Int.reduceNeg, Int.reduceMul, Int.reduceToNat, Nat.reduceSub, Nat.reduceMul, Nat.reduceLeDiff, Nat.reduceAdd, Nat.reduceLT, Nat.reduceEqDiff, reduceCtorEq, ↓reduceIte, cpoly_len], by simp (disch := omega) only [wk, tis, Int.reduceNe, Int.reduceEq, Int.reduceLT, Int.reduceLE, Int.reduceAdd, Int.reduceSub, Int.reduceNeg, Int.reduceMul, Int.reduceToNat, Nat.reduceSub, Nat.reduceMul, Nat.reduceLeDiff, Nat.reduceAdd, Nat.reduceLT, Nat.reduceEqDiff, reduceCtorEq, ↓reduceIte, cpoly_len], by simp (disch := omega) only [wk, tis, Int.reduceNe, Int.reduceEq, Int.reduceLT, Int.reduceLE, Int.reduceAdd, Int.reduceSub, Int.reduceNeg, Int.reduceMul, Int.reduceToNat, Nat.reduceSub, Nat.reduceMul, Nat.reduceLeDiff, Nat.reduceAdd, Nat.reduceLT, Nat.reduceEqDiff, reduceCtorEq, ↓reduceIte, cpoly_len]⟩
  rintro f H ⟨i, hi, he, h0, h1, h5⟩
  rw [intAt_of h5]
  simp (disch := omega) only [wk, tis, Int.reduceNe, Int.reduceEq, Int.reduceLT, Int.reduceLE, Int.reduceAdd, Int.reduceSub, Int.reduceNeg, Int.reduceMul, Int.reduceToNat, Nat.reduceSub, Nat.reduceMul, Nat.reduceLeDiff, Nat.reduceAdd, Nat.reduceLT, Nat.reduceEqDiff, reduceCtorEq, ↓reduceIte, cpoly_len, h0, h1, h5]
  refine if_by (fun hlt => ?_) (fun hlt => ?_)
  · simp (disch := omega) only [wk, tis, Int.reduceNe, Int.reduceEq, Int.reduceLT, Int.reduceLE, Int.reduceAdd, Int.reduceSub, Int.reduceNeg, Int.reduceMul, Int.reduceToNat, Nat.reduceSub, Nat.reduceMul, Nat.reduceLeDiff, Nat.reduceAdd, Nat.reduceLT, Nat.reduceEqDiff, reduceCtorEq, ↓reduceIte, cpoly_len, h0, h1, h5]
    refine ⟨tmps_by (by kernel_rfl), ?_⟩
    refine call_by ((rSameInt_ok (a.getD i (false, [])) (b.getD i (false, [])) (ha.get i).1 (hb.get i).1)) (by first | rfl | (simp only [tocvs, tocv, h0, h1, h5]; rfl)) (by simp) ?_
    simp (disch := omega) only [wk, tis, Int.reduceNe, Int.reduceEq, Int.reduceLT, Int.reduceLE, Int.reduceAdd, Int.reduceSub, Int.reduceNeg, Int.reduceMul, Int.reduceToNat, Nat.reduceSub, Nat.reduceMul, Nat.reduceLeDiff, Nat.reduceAdd, Nat.reduceLT, Nat.reduceEqDiff, reduceCtorEq, ↓reduceIte, cpoly_len, h0, h1, h5]
    first | exact log_by (by kernel_rfl) | refine ⟨log_by (by kernel_rfl), ?_⟩
    by_cases hne : a.getD i (false, []) = b.getD i (false, [])
    · simp (disch := omega) only [wk, tis, Int.reduceNe, Int.reduceEq, Int.reduceLT, Int.reduceLE, Int.reduceAdd, Int.reduceSub, Int.reduceNeg, Int.reduceMul, Int.reduceToNat, Nat.reduceSub, Nat.reduceMul, Nat.reduceLeDiff, Nat.reduceAdd, Nat.reduceLT, Nat.reduceEqDiff, reduceCtorEq, ↓reduceIte, cpoly_len, h0, h1, h5, hne, Bool.not_true]
      refine ⟨⟨i + 1, by omega, ?_, by omega⟩, by omega⟩
      have hia : i < a.length := by omega
      have hib : i < b.length := by omega
      rw [List.take_add_one, List.take_add_one, he, List.getElem?_eq_getElem hia, List.getElem?_eq_getElem hib]
      have e1 : a.getD i (false, []) = a[i] := by simp [List.getD, hia]
      have e2 : b.getD i (false, []) = b[i] := by simp [List.getD, hib]
      rw [← e1, ← e2, hne]
    · simp (disch := omega) only [wk, tis, Int.reduceNe, Int.reduceEq, Int.reduceLT, Int.reduceLE, Int.reduceAdd, Int.reduceSub, Int.reduceNeg, Int.reduceMul, Int.reduceToNat, Nat.reduceSub, Nat.reduceMul, Nat.reduceLeDiff, Nat.reduceAdd, Nat.reduceLT, Nat.reduceEqDiff, reduceCtorEq, ↓reduceIte, cpoly_len, h0, h1, h5, hne, Bool.not_false]
      exact (decide_eq_false (fun e => hne (by rw [e]))).symm
  · simp (disch := omega) only [wk, tis, Int.reduceNe, Int.reduceEq, Int.reduceLT, Int.reduceLE, Int.reduceAdd, Int.reduceSub, Int.reduceNeg, Int.reduceMul, Int.reduceToNat, Nat.reduceSub, Nat.reduceMul, Nat.reduceLeDiff, Nat.reduceAdd, Nat.reduceLT, Nat.reduceEqDiff, reduceCtorEq, ↓reduceIte, cpoly_len, h0, h1, h5]
    rw [List.take_of_length_le (by omega), List.take_of_length_le (by omega)] at he
    exact (decide_eq_true he).symm

theorem few13_ok (p : List RI) (hl : p.length ≤ 2 ^ 62) : AC Try.prog 85 [cw p] none [cw (p.take 40)] := by
  refine AC.by_walk (rs := [.tmp 2]) ords Try.func85 (by rfl) (by rfl) (by rfl) (by rfl) (by rfl) ?_
  simp (disch := omega) only [wk, tis, Int.reduceNe, Int.reduceEq, Int.reduceLT, Int.reduceLE, Int.reduceAdd, Int.reduceSub, Int.reduceNeg, Int.reduceMul, Int.reduceToNat, Nat.reduceSub, Nat.reduceMul, Nat.reduceLeDiff, Nat.reduceAdd, Nat.reduceLT, Nat.reduceEqDiff, reduceCtorEq, ↓reduceIte, cpoly_len]
  have e : p.take (min (p.length : Int) 40).toNat = p.take 40 := by
    rcases Nat.le_total p.length 40 with h | h
    · rw [List.take_of_length_le (i := 40) h, List.take_of_length_le (by omega)]
    · congr 1; omega
  rw [e]

theorem pnone_ok (p : List RI) (h : RP (2 ^ 40) (2 ^ 40) p) : AC Try.prog 135 [cw p] none [cb (decide (tz (pv p) = 0))] := by
  refine AC.by_walk (rs := [.tmp 2]) ords Try.func135 (by rfl) (by rfl) (by rfl) (by rfl) (by rfl) ?_
  simp (disch := omega) only [wk, tis, Int.reduceNe, Int.reduceEq, Int.reduceLT, Int.reduceLE, Int.reduceAdd, Int.reduceSub, Int.reduceNeg, Int.reduceMul, Int.reduceToNat, Nat.reduceSub, Nat.reduceMul, Nat.reduceLeDiff, Nat.reduceAdd, Nat.reduceLT, Nat.reduceEqDiff, reduceCtorEq, ↓reduceIte, cpoly_len]
  refine call_by ((pdeg_ok p h)) (by rfl) (by simp) ?_
  simp (disch := omega) only [wk, tis, Int.reduceNe, Int.reduceEq, Int.reduceLT, Int.reduceLE, Int.reduceAdd, Int.reduceSub, Int.reduceNeg, Int.reduceMul, Int.reduceToNat, Nat.reduceSub, Nat.reduceMul, Nat.reduceLeDiff, Nat.reduceAdd, Nat.reduceLT, Nat.reduceEqDiff, reduceCtorEq, ↓reduceIte, cpoly_len]
  rw [decide_eq_decide]
  omega

theorem zabs_ok (c : RI) (h : Sz (2 ^ 40) c) : AC Try.prog 137 [cr c] none [cl (wd (iv c).natAbs)] := by
  refine AC.by_walk (rs := [.tmp 2]) ords Try.func137 (by rfl) (by rfl) (by rfl) (by rfl) (by rfl) ?_
  have hl := h.1
  simp (disch := omega) only [wk, tis, Int.reduceNe, Int.reduceEq, Int.reduceLT, Int.reduceLE, Int.reduceAdd, Int.reduceSub, Int.reduceNeg, Int.reduceMul, Int.reduceToNat, Nat.reduceSub, Nat.reduceMul, Nat.reduceLeDiff, Nat.reduceAdd, Nat.reduceLT, Nat.reduceEqDiff, reduceCtorEq, ↓reduceIte, cpoly_len]
  refine call_by ((norm_ok c.2 h.2 (by omega))) (by rfl) (by simp) ?_
  simp (disch := omega) only [wk, tis, Int.reduceNe, Int.reduceEq, Int.reduceLT, Int.reduceLE, Int.reduceAdd, Int.reduceSub, Int.reduceNeg, Int.reduceMul, Int.reduceToNat, Nat.reduceSub, Nat.reduceMul, Nat.reduceLeDiff, Nat.reduceAdd, Nat.reduceLT, Nat.reduceEqDiff, reduceCtorEq, ↓reduceIte, cpoly_len]
  rw [iv_abs]

theorem prsmono_ok (c : RI) (n : Nat) (hn : n ≤ 2 ^ 29) (hc : Sz (2 ^ 35) c) : AC Try.prog 157 [cr c, ci n] none [cp (List.replicate n 0 ++ [iv c])] := by
  refine AC.by_walk (rs := [.tmp 4]) ords Try.func157 (by rfl) (by rfl) (by rfl) (by rfl) (by rfl) ?_
  simp (disch := omega) only [wk, tis, Int.reduceNe, Int.reduceEq, Int.reduceLT, Int.reduceLE, Int.reduceAdd, Int.reduceSub, Int.reduceNeg, Int.reduceMul, Int.reduceToNat, Nat.reduceSub, Nat.reduceMul, Nat.reduceLeDiff, Nat.reduceAdd, Nat.reduceLT, Nat.reduceEqDiff, reduceCtorEq, ↓reduceIte, cpoly_len]
  refine ⟨tmps_by (by kernel_rfl), ?_⟩
  have m := pnorm_ok (List.replicate n (false, []) ++ [c]) ⟨by simp; omega, fun x hx => by
    rcases List.mem_append.mp hx with h | h
    · rw [List.eq_of_mem_replicate h]; exact ⟨by simp, Lim.nil⟩
    · rw [List.mem_singleton.mp h]; exact hc.mono (by omega)⟩
  have e : pv (List.replicate n (false, []) ++ [c]) = List.replicate n 0 ++ [iv c] := by
    simp only [pv, List.map_append, List.map_replicate, List.map_cons, List.map_nil, iv_zero]
  rw [e] at m
  refine call_by (m) (by rfl) (by simp) ?_
  simp (disch := omega) only [wk, tis, Int.reduceNe, Int.reduceEq, Int.reduceLT, Int.reduceLE, Int.reduceAdd, Int.reduceSub, Int.reduceNeg, Int.reduceMul, Int.reduceToNat, Nat.reduceSub, Nat.reduceMul, Nat.reduceLeDiff, Nat.reduceAdd, Nat.reduceLT, Nat.reduceEqDiff, reduceCtorEq, ↓reduceIte, cpoly_len]
  first | exact log_by (by kernel_rfl) | refine ⟨log_by (by kernel_rfl), ?_⟩

theorem poly13_ok (l : List Int) (hl : l.length ≤ 2 ^ 30) (h : ∀ z ∈ l, -9223372036854775808 < z ∧ z < 9223372036854775808) : AC Try.prog 92 [cis l] none [cw (l.map canon)] := by
  refine AC.by_walk (rs := [.tmp 2]) ords Try.func92 (by rfl) (by rfl) (by rfl) (by rfl) (by rfl) ?_
  simp (disch := omega) only [wk, tis, Int.reduceNe, Int.reduceEq, Int.reduceLT, Int.reduceLE, Int.reduceAdd, Int.reduceSub, Int.reduceNeg, Int.reduceMul, Int.reduceToNat, Nat.reduceSub, Nat.reduceMul, Nat.reduceLeDiff, Nat.reduceAdd, Nat.reduceLT, Nat.reduceEqDiff, reduceCtorEq, ↓reduceIte, cpoly_len]
  refine aloop_nil 3 3 40 2 (by simp (disch := omega) only [wk, tis, Int.reduceNe, Int.reduceEq, Int.reduceLT, Int.reduceLE, Int.reduceAdd, Int.reduceSub, Int.reduceNeg, Int.reduceMul, Int.reduceToNat, Nat.reduceSub, Nat.reduceMul, Nat.reduceLeDiff, Nat.reduceAdd, Nat.reduceLT, Nat.reduceEqDiff, reduceCtorEq, ↓reduceIte, cpoly_len]) (fun f H => ∃ (k st : Nat), k ≤ l.length ∧ f 0 = .iv (.sl (ilims l)) ∧ f 3 = .hs 3 st ∧ f 4 = .iv (.int .i64 k) ∧ H 3 = .blk false st 40 2 (raws ((l.take k).map canon))) (fun f H => (l.length - intAt f 4).toNat) ?_ ?_
  · refine ⟨0, 1, by omega, ?_⟩
    simp (disch := omega) only [wk, tis, Int.reduceNe, Int.reduceEq, Int.reduceLT, Int.reduceLE, Int.reduceAdd, Int.reduceSub, Int.reduceNeg, Int.reduceMul, Int.reduceToNat, Nat.reduceSub, Nat.reduceMul, Nat.reduceLeDiff, Nat.reduceAdd, Nat.reduceLT, Nat.reduceEqDiff, reduceCtorEq, ↓reduceIte, cpoly_len, ghostF, ghostH, List.take_zero]
  rintro f H ⟨k, st, hk, h0, h3, h4, hH⟩
  rw [intAt_of h4]
  simp (disch := omega) only [wk, tis, Int.reduceNe, Int.reduceEq, Int.reduceLT, Int.reduceLE, Int.reduceAdd, Int.reduceSub, Int.reduceNeg, Int.reduceMul, Int.reduceToNat, Nat.reduceSub, Nat.reduceMul, Nat.reduceLeDiff, Nat.reduceAdd, Nat.reduceLT, Nat.reduceEqDiff, reduceCtorEq, ↓reduceIte, cpoly_len, h0, h3, h4, hH]
  refine if_by (fun hlt => ?_) (fun hlt => ?_)
  · have hq : ((l.take k).map canon).length = k := by rw [List.length_map, List.length_take]; omega
    have hkl : k < l.length := by omega
    have hg : l.getD k 0 = l[k] := by simp [List.getD, hkl]
    have hb := h l[k] (List.getElem_mem hkl)
    simp (disch := omega) only [wk, tis, Int.reduceNe, Int.reduceEq, Int.reduceLT, Int.reduceLE, Int.reduceAdd, Int.reduceSub, Int.reduceNeg, Int.reduceMul, Int.reduceToNat, Nat.reduceSub, Nat.reduceMul, Nat.reduceLeDiff, Nat.reduceAdd, Nat.reduceLT, Nat.reduceEqDiff, reduceCtorEq, ↓reduceIte, cpoly_len, h0, h3, h4, hH, hq]
    rw [hg]
    refine call_by ((rZ_ok l[k] hb.1 hb.2)) (by first | rfl | (simp only [tocvs, tocv, h0, h3, h4, hH, hq]; rfl)) (by simp) ?_
    simp (disch := omega) only [wk, tis, Int.reduceNe, Int.reduceEq, Int.reduceLT, Int.reduceLE, Int.reduceAdd, Int.reduceSub, Int.reduceNeg, Int.reduceMul, Int.reduceToNat, Nat.reduceSub, Nat.reduceMul, Nat.reduceLeDiff, Nat.reduceAdd, Nat.reduceLT, Nat.reduceEqDiff, reduceCtorEq, ↓reduceIte, cpoly_len, h0, h3, h4, hH, hq]
    refine ⟨⟨k + 1, st + 1, by omega, rfl, by omega, ?_⟩, by omega⟩
    rw [List.take_add_one]
    simp [hkl]
  · simp (disch := omega) only [wk, tis, Int.reduceNe, Int.reduceEq, Int.reduceLT, Int.reduceLE, Int.reduceAdd, Int.reduceSub, Int.reduceNeg, Int.reduceMul, Int.reduceToNat, Nat.reduceSub, Nat.reduceMul, Nat.reduceLeDiff, Nat.reduceAdd, Nat.reduceLT, Nat.reduceEqDiff, reduceCtorEq, ↓reduceIte, cpoly_len, h0, h3, h4, hH]
    have hk : k = l.length := by omega
    rw [hk, List.take_length]

def rowsAt (f : Fr) (t : Nat) : Nat := match f t with
  | .iv (.sl rows) => rows.length
  | _ => 0

theorem rowsAt_of {f : Fr} {t : Nat} {rows : List (List IV)} (h : f t = .iv (.sl rows)) : rowsAt f t = rows.length := by
  unfold rowsAt; rw [h]

theorem zform_ok (p : List RI) (h : RP (2 ^ 40) (2 ^ 40) p) : AC Try.prog 86 [cw p] none [cp (pv p)] := by
  refine AC.by_walk (rs := [.tmp 2]) ords Try.func86 (by rfl) (by rfl) (by rfl) (by rfl) (by rfl) ?_
  have hl := h.1
  simp (disch := omega) only [wk, tis, Int.reduceNe, Int.reduceEq, Int.reduceLT, Int.reduceLE, Int.reduceAdd, Int.reduceSub, Int.reduceNeg, Int.reduceMul, Int.reduceToNat, Nat.reduceSub, Nat.reduceMul, Nat.reduceLeDiff, Nat.reduceAdd, Nat.reduceLT, Nat.reduceEqDiff, reduceCtorEq, ↓reduceIte, cpoly_len]
  refine aloop_nil 3 3 40 2 (by simp (disch := omega) only [wk, tis, Int.reduceNe, Int.reduceEq, Int.reduceLT, Int.reduceLE, Int.reduceAdd, Int.reduceSub, Int.reduceNeg, Int.reduceMul, Int.reduceToNat, Nat.reduceSub, Nat.reduceMul, Nat.reduceLeDiff, Nat.reduceAdd, Nat.reduceLT, Nat.reduceEqDiff, reduceCtorEq, ↓reduceIte, cpoly_len]) (fun f H => ∃ (i st : Nat), i ≤ p.length ∧ f 4 = .iv (.int .i64 i) ∧ f 3 = .hs 3 st ∧ f 0 = .iv (.sl (raws p)) ∧ H 3 = .blk false st 40 2 (raws (((pv p).take i).map canon))) (fun f H => (p.length - intAt f 4).toNat) ?_ ?_
  · refine ⟨0, 1, by omega, ?_⟩
    simp (disch := omega) only [wk, tis, Int.reduceNe, Int.reduceEq, Int.reduceLT, Int.reduceLE, Int.reduceAdd, Int.reduceSub, Int.reduceNeg, Int.reduceMul, Int.reduceToNat, Nat.reduceSub, Nat.reduceMul, Nat.reduceLeDiff, Nat.reduceAdd, Nat.reduceLT, Nat.reduceEqDiff, reduceCtorEq, ↓reduceIte, cpoly_len, ghostF, ghostH, List.take_zero]
  rintro f H ⟨i, st, hi, hF⟩
  rw [intAt_of hF.1]
  simp (disch := omega) only [wk, tis, Int.reduceNe, Int.reduceEq, Int.reduceLT, Int.reduceLE, Int.reduceAdd, Int.reduceSub, Int.reduceNeg, Int.reduceMul, Int.reduceToNat, Nat.reduceSub, Nat.reduceMul, Nat.reduceLeDiff, Nat.reduceAdd, Nat.reduceLT, Nat.reduceEqDiff, reduceCtorEq, ↓reduceIte, cpoly_len, hF]
  refine if_by (fun hlt => ?_) (fun hlt => ?_)
  · have hq : (((pv p).take i).map canon).length = i := by rw [List.length_map, List.length_take, pv_len]; omega
    have e : ((pv p).take (i + 1)).map canon = ((pv p).take i).map canon ++ [canon (iv (p.getD i (false, [])))] := by
      rw [List.take_add_one, List.map_append, ← cf_pv]; congr 1; simp [cf, List.getD, show i < (pv p).length by rw [pv_len]; omega]
    have m := rI_ok (p.getD i (false, [])).1 (p.getD i (false, [])).2 (h.get _).2 (h.get _).1
    simp (disch := omega) only [wk, tis, Int.reduceNe, Int.reduceEq, Int.reduceLT, Int.reduceLE, Int.reduceAdd, Int.reduceSub, Int.reduceNeg, Int.reduceMul, Int.reduceToNat, Nat.reduceSub, Nat.reduceMul, Nat.reduceLeDiff, Nat.reduceAdd, Nat.reduceLT, Nat.reduceEqDiff, reduceCtorEq, ↓reduceIte, cpoly_len, hF, hq]
    refine ⟨tmps_by (by kernel_rfl), ?_⟩
    refine call_by (m) (by first | rfl | (simp only [tocvs, tocv, hF, hq]; rfl)) (by simp) ?_
    simp (disch := omega) only [wk, tis, Int.reduceNe, Int.reduceEq, Int.reduceLT, Int.reduceLE, Int.reduceAdd, Int.reduceSub, Int.reduceNeg, Int.reduceMul, Int.reduceToNat, Nat.reduceSub, Nat.reduceMul, Nat.reduceLeDiff, Nat.reduceAdd, Nat.reduceLT, Nat.reduceEqDiff, reduceCtorEq, ↓reduceIte, cpoly_len, hF, hq]
    first | exact log_by (by kernel_rfl) | refine ⟨log_by (by kernel_rfl), ?_⟩
    rw [← iv_sg, ← cf_pv]
    refine ⟨⟨i + 1, st + 1, by omega, by omega, rfl, ?_⟩, by omega⟩
    rw [List.take_add_one]
    simp [cf, List.getD, show i < (pv p).length by rw [pv_len]; omega]
  · obtain rfl : i = p.length := by omega
    rw [List.take_of_length_le (by rw [pv_len]; exact Nat.le_refl _)] at hF
    simp (disch := omega) only [wk, tis, Int.reduceNe, Int.reduceEq, Int.reduceLT, Int.reduceLE, Int.reduceAdd, Int.reduceSub, Int.reduceNeg, Int.reduceMul, Int.reduceToNat, Nat.reduceSub, Nat.reduceMul, Nat.reduceLeDiff, Nat.reduceAdd, Nat.reduceLT, Nat.reduceEqDiff, reduceCtorEq, ↓reduceIte, cpoly_len, hF]
    refine aloop_w (.iv 3 3 st false 40 2 (raws ((pv p).map canon)) (by simp (disch := omega) only [wk, tis, Int.reduceNe, Int.reduceEq, Int.reduceLT, Int.reduceLE, Int.reduceAdd, Int.reduceSub, Int.reduceNeg, Int.reduceMul, Int.reduceToNat, Nat.reduceSub, Nat.reduceMul, Nat.reduceLeDiff, Nat.reduceAdd, Nat.reduceLT, Nat.reduceEqDiff, reduceCtorEq, ↓reduceIte, cpoly_len, hF]) (by simp (disch := omega) only [wk, tis, Int.reduceNe, Int.reduceEq, Int.reduceLT, Int.reduceLE, Int.reduceAdd, Int.reduceSub, Int.reduceNeg, Int.reduceMul, Int.reduceToNat, Nat.reduceSub, Nat.reduceMul, Nat.reduceLeDiff, Nat.reduceAdd, Nat.reduceLT, Nat.reduceEqDiff, reduceCtorEq, ↓reduceIte, cpoly_len, hF]) (.refl _ _)) (fun f H => ∃ k : Nat, k ≤ p.length ∧ tz ((pv p).take k) = tz (pv p) ∧ f 0 = .iv (.sl (raws p)) ∧ f 3 = .iv (.sl (raws (((pv p).take k).map canon)))) (fun f H => rowsAt f 3) ?_ ?_
    · refine ⟨p.length, Nat.le_refl _, by rw [← pv_len p, List.take_length], ?_⟩
      rw [show (pv p).take p.length = pv p from List.take_of_length_le (by rw [pv_len]; exact Nat.le_refl _)]
      simp (disch := omega) only [wk, tis, Int.reduceNe, Int.reduceEq, Int.reduceLT, Int.reduceLE, Int.reduceAdd, Int.reduceSub, Int.reduceNeg, Int.reduceMul, Int.reduceToNat, Nat.reduceSub, Nat.reduceMul, Nat.reduceLeDiff, Nat.reduceAdd, Nat.reduceLT, Nat.reduceEqDiff, reduceCtorEq, ↓reduceIte, cpoly_len, hF]
    clear hF
    rintro f H ⟨k, hk, ht, hF⟩
    have hq : (((pv p).take k).map canon).length = k := by rw [List.length_map, List.length_take, pv_len]; omega
    rw [rowsAt_of hF.2, raws_len, hq]
    by_cases hc : 0 < (k : Int)
    · have ek : ((k : Int) - 1).toNat = k - 1 := by omega
      have hg : (((pv p).take k).map canon).getD (k - 1) (false, []) = canon (cf (pv p) (k - 1)) := by
        simp [cf, List.getD, List.getElem?_take, show k - 1 < k by omega, show k - 1 < (pv p).length by rw [pv_len]; omega]
      have hs := rSign_ok (canon (cf (pv p) (k - 1))) ((sz_canon _).mono (h.pv.cf _))
      rw [iv_canon] at hs
      simp (disch := omega) only [wk, tis, Int.reduceNe, Int.reduceEq, Int.reduceLT, Int.reduceLE, Int.reduceAdd, Int.reduceSub, Int.reduceNeg, Int.reduceMul, Int.reduceToNat, Nat.reduceSub, Nat.reduceMul, Nat.reduceLeDiff, Nat.reduceAdd, Nat.reduceLT, Nat.reduceEqDiff, reduceCtorEq, ↓reduceIte, cpoly_len, hF, hq, hc, ek, hg]
      refine call_by (hs) (by first | rfl | (simp only [tocvs, tocv, hF, hq, hc, ek, hg]; rfl)) (by simp) ?_
      simp (disch := omega) only [wk, tis, Int.reduceNe, Int.reduceEq, Int.reduceLT, Int.reduceLE, Int.reduceAdd, Int.reduceSub, Int.reduceNeg, Int.reduceMul, Int.reduceToNat, Nat.reduceSub, Nat.reduceMul, Nat.reduceLeDiff, Nat.reduceAdd, Nat.reduceLT, Nat.reduceEqDiff, reduceCtorEq, ↓reduceIte, cpoly_len, hF, hq, hc, ek, hg]
      refine if_by (fun hz => ?_) (fun hz => ?_)
      · have e2 : (((pv p).take k).map canon).take (k - 1) = ((pv p).take (k - 1)).map canon := by
          rw [← List.map_take, List.take_take, Nat.min_eq_left (by omega)]
        have hq2 : (((pv p).take (k - 1)).map canon).length = k - 1 := by rw [List.length_map, List.length_take, pv_len]; omega
        simp (disch := omega) only [wk, tis, Int.reduceNe, Int.reduceEq, Int.reduceLT, Int.reduceLE, Int.reduceAdd, Int.reduceSub, Int.reduceNeg, Int.reduceMul, Int.reduceToNat, Nat.reduceSub, Nat.reduceMul, Nat.reduceLeDiff, Nat.reduceAdd, Nat.reduceLT, Nat.reduceEqDiff, reduceCtorEq, ↓reduceIte, cpoly_len, hF, hq, hc, ek, hg]
        refine ⟨⟨k - 1, by omega, ?_, by rw [e2]⟩, ?_⟩
        · rw [← tz_take_zero (k := k - 1) (by rw [pv_len]; omega) (Int.sign_eq_zero_iff_zero.mp hz), show k - 1 + 1 = k by omega, ht]
        · rw [rowsAt_of rfl, raws_len, e2, hq2]; omega
      · have hk : k = tz (pv p) := by
          have := tz_full (q := pv p) (k := k - 1) (by rw [pv_len]; omega) (fun e => hz (Int.sign_eq_zero_iff_zero.mpr e))
          rw [show k - 1 + 1 = k by omega, ht] at this; exact this.symm
        simp (disch := omega) only [wk, tis, Int.reduceNe, Int.reduceEq, Int.reduceLT, Int.reduceLE, Int.reduceAdd, Int.reduceSub, Int.reduceNeg, Int.reduceMul, Int.reduceToNat, Nat.reduceSub, Nat.reduceMul, Nat.reduceLeDiff, Nat.reduceAdd, Nat.reduceLT, Nat.reduceEqDiff, reduceCtorEq, ↓reduceIte, cpoly_len, hF, hq, hc, ek, hg]
        rw [hk]; rfl
    · have hk : k = tz (pv p) := by
        obtain rfl : k = 0 := by omega
        rw [← ht]; rfl
      simp (disch := omega) only [wk, tis, Int.reduceNe, Int.reduceEq, Int.reduceLT, Int.reduceLE, Int.reduceAdd, Int.reduceSub, Int.reduceNeg, Int.reduceMul, Int.reduceToNat, Nat.reduceSub, Nat.reduceMul, Nat.reduceLeDiff, Nat.reduceAdd, Nat.reduceLT, Nat.reduceEqDiff, reduceCtorEq, ↓reduceIte, cpoly_len, hF, hq, hc]
      rw [hk]; rfl
end Go.Proofs.Ythgecppfgdadiaa

namespace Go.Proofs.Ythgecppfgdadiaa
open Go Go.Proofs Go.AL
set_option linter.unusedSimpArgs false
set_option linter.unusedVariables false

def mono (n : Nat) (c : Int) : List Int := List.replicate n 0 ++ [c]

theorem cf_mono (n : Nat) (c : Int) (k : Nat) : cf (mono n c) k = if k = n then c else 0 := by
  unfold mono cf
  rw [List.getD_eq_getElem?_getD]
  rcases Nat.lt_trichotomy k n with h | h | h
  · rw [List.getElem?_append_left (by simpa using h), List.getElem?_replicate, if_pos h, if_neg (by omega)]; rfl
  · subst h
    rw [List.getElem?_append_right (by simp), if_pos rfl]
    simp
  · rw [List.getElem?_eq_none (by simp; omega), if_neg (by omega)]; rfl

theorem cf_mono_mul (n : Nat) (c : Int) (B : List Int) (k : Nat) : cf (pmul (mono n c) B) k = if n ≤ k then c * cf B (k - n) else 0 := by
  rw [cf_pmul, PS.cv_conv, PS.conv]
  by_cases h : n ≤ k
  · rw [if_pos h, sumN_one (j := n) _ (by omega) fun i hi hne => by rw [cf_mono, if_neg hne, Int.zero_mul], cf_mono, if_pos rfl]
  · rw [if_neg h]
    exact sumN_zero fun i hi => by rw [cf_mono, if_neg (by omega), Int.zero_mul]

/-- One step of the division, and all of them. -/
def dstep (c L : Int) (B : List Int) (s : List Int × List Int) : List Int × List Int :=
  (padd (pscale c s.1) (mono (tz s.2 - tz B) (c * lc s.2 / L)), padd (pscale c s.2) (pscale (-1) (pmul (mono (tz s.2 - tz B) (c * lc s.2 / L)) B)))

def dres (c L : Int) (B : List Int) : Nat → List Int × List Int → List Int × List Int
  | 0, s => s
  | n + 1, s => if tz B ≤ tz s.2 then dres c L B n (dstep c L B s) else dres c L B n (pscale c s.1, pscale c s.2)

theorem tz_le_of {q : List Int} {n : Nat} (h : ∀ k, n ≤ k → cf q k = 0) : tz q ≤ n := by
  rcases Nat.lt_or_ge n (tz q) with h1 | h1
  · exact absurd (h (tz q - 1) (by omega)) (cf_tz_pred (by omega))
  · exact h1

theorem dstep_tz {c L : Int} {B : List Int} {s : List Int × List Int} (hL : L = lc B) (hB : tz B ≠ 0) (hd : L ∣ c) (h : tz B ≤ tz s.2) : tz (dstep c L B s).2 ≤ tz s.2 - 1 := by
  refine tz_le_of fun k hk => ?_
  show cf (padd (pscale c s.2) (pscale (-1) (pmul (mono (tz s.2 - tz B) (c * lc s.2 / L)) B))) k = 0
  rw [cf_padd, cf_pscale, cf_pscale, cf_mono_mul, if_pos (by omega)]
  have hL0 : L ≠ 0 := by rw [hL]; exact cf_tz_pred hB
  rcases Nat.lt_or_ge k (tz s.2) with h1 | h1
  · have hk1 : k = tz s.2 - 1 := by omega
    have e1 : k - (tz s.2 - tz B) = tz B - 1 := by omega
    rw [e1]
    have e2 : cf B (tz B - 1) = L := hL.symm
    have e3 : cf s.2 k = lc s.2 := by rw [hk1]; rfl
    rw [e2, e3, Int.ediv_mul_cancel (Int.dvd_trans hd (Int.dvd_mul_right _ _)), Int.mul_comm c]
    omega
  · rw [cf_ge_tz s.2 h1, cf_ge_tz B (by omega)]
    simp

theorem dstep_eq {c L : Int} {B : List Int} {s : List Int × List Int} : ps (dstep c L B s).1 * ps B + ps (dstep c L B s).2 = PS.C c * (ps s.1 * ps B + ps s.2) := by
  show ps (padd _ _) * ps B + ps (padd _ _) = _
  rw [ps_padd, ps_padd, ps_pscale, ps_pscale, ps_pscale, ps_pmul, PS.neg_one_C, PS.add_mul, PS.mul_add, PS.mul_assoc, PS.add_assoc, PS.add_comm (PS.C c * ps s.2), ← PS.add_assoc (ps (mono _ _) * ps B), PS.add_neg, PS.zero_add]

theorem dres_eq {c L : Int} {B : List Int} : ∀ (n : Nat) (s : List Int × List Int), ps (dres c L B n s).1 * ps B + ps (dres c L B n s).2 = PS.pw (PS.C c) n * (ps s.1 * ps B + ps s.2)
  | 0, s => by rw [dres, PS.pw, PS.one_mul]
  | n + 1, s => by
    have e : PS.pw (PS.C c) (n + 1) = PS.pw (PS.C c) n * PS.C c := by rw [PS.pw_add, PS.pw_one]
    rw [dres]
    split
    · rw [dres_eq n, dstep_eq, e, PS.mul_assoc]
    · rw [dres_eq n, e, PS.mul_assoc]
      congr 1
      rw [ps_pscale, ps_pscale, PS.mul_assoc, PS.mul_add]

theorem tz_scale_le (c : Int) (q : List Int) : tz (pscale c q) ≤ tz q := tz_le_of fun k hk => by rw [cf_pscale, cf_ge_tz q hk, Int.zero_mul]

theorem dres_tz {c L : Int} {B : List Int} (hL : L = lc B) (hB : tz B ≠ 0) (hd : L ∣ c) : ∀ (n : Nat) (s : List Int × List Int), tz s.2 < tz B + n → tz (dres c L B n s).2 < tz B
  | 0, s, h => by simpa [dres] using h
  | n + 1, s, h => by
    rw [dres]
    split
    · rename_i h1
      refine dres_tz hL hB hd n _ ?_
      have := dstep_tz (c := c) hL hB hd h1
      omega
    · refine dres_tz hL hB hd n _ ?_
      have := tz_scale_le c s.2
      show tz (pscale c s.2) < _
      omega

end Go.Proofs.Ythgecppfgdadiaa
