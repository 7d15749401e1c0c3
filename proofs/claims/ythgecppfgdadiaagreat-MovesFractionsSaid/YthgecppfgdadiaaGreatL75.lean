/-
  Contracts of the functions that the law reaches.
-/
import Derived.Test.YthgecppfgdadiaaGreatL40M
namespace Go.Proofs.YthgecppfgdadiaaGreat
open Go Go.Proofs Go.AL
set_option linter.unusedSimpArgs false
set_option linter.unusedVariables false

theorem lc_ok (p : List RI) (h : RP (2 ^ 40) (2 ^ 40) p) : AC Tryz.prog 10 [cw p] none [cw p] := by
  refine AC.by_walk (rs := [.tmp 2]) ords Tryz.func10 (by rfl) (by rfl) (by rfl) (by rfl) (by rfl) ?_
  simp (disch := omega) only [wk, tis, Int.reduceNe, Int.reduceEq, Int.reduceLT, Int.reduceLE, Int.reduceAdd, Int.reduceSub, Int.reduceNeg, Int.reduceMul, Int.reduceToNat, Nat.reduceSub, Nat.reduceMul, Nat.reduceLeDiff, Nat.reduceAdd, Nat.reduceLT, Nat.reduceEqDiff, reduceCtorEq, ↓reduceIte]
  refine call_by ((tcopy_ok p h)) (by rfl) (by simp) ?_
  simp (disch := omega) only [wk, tis, Int.reduceNe, Int.reduceEq, Int.reduceLT, Int.reduceLE, Int.reduceAdd, Int.reduceSub, Int.reduceNeg, Int.reduceMul, Int.reduceToNat, Nat.reduceSub, Nat.reduceMul, Nat.reduceLeDiff, Nat.reduceAdd, Nat.reduceLT, Nat.reduceEqDiff, reduceCtorEq, ↓reduceIte]

theorem ln_ok (c : RI) (h : c.2.length ≤ 2 ^ 40) : AC Tryz.prog 11 [cr c] none [cr c] := by
  refine AC.by_walk (rs := [.cell 2 27]) ords Tryz.func11 (by rfl) (by rfl) (by rfl) (by rfl) (by rfl) ?_
  simp (disch := omega) only [wk, tis, Int.reduceNe, Int.reduceEq, Int.reduceLT, Int.reduceLE, Int.reduceAdd, Int.reduceSub, Int.reduceNeg, Int.reduceMul, Int.reduceToNat, Nat.reduceSub, Nat.reduceMul, Nat.reduceLeDiff, Nat.reduceAdd, Nat.reduceLT, Nat.reduceEqDiff, reduceCtorEq, ↓reduceIte]
  refine call_by ((rcopy_ok c h)) (by rfl) (by simp) ?_
  simp (disch := omega) only [wk, tis, Int.reduceNe, Int.reduceEq, Int.reduceLT, Int.reduceLE, Int.reduceAdd, Int.reduceSub, Int.reduceNeg, Int.reduceMul, Int.reduceToNat, Nat.reduceSub, Nat.reduceMul, Nat.reduceLeDiff, Nat.reduceAdd, Nat.reduceLT, Nat.reduceEqDiff, reduceCtorEq, ↓reduceIte]

theorem tsame_g {q r : List Int} (ha : PB (2 ^ 40) (2 ^ 43) q) (hb : PB (2 ^ 40) (2 ^ 43) r) (e : ps q = ps r) : AC Tryz.prog 8 [cp q, cp r] none [cb true] := by
  have := tSame_ok (cn q) (cn r) (rp_cn ha) (rp_cn hb)
  rw [decide_eq_true (cn_ext (ps_eq e))] at this; exact this

theorem smc {l : List Int} (hl : l.length ≤ 2 ^ 8) (h : ∀ z ∈ l, z.natAbs < W) : RP (2 ^ 8) (2 ^ 10) (cn l) := rp_cn ((small_pb l (2 ^ 8) hl h).mono (Nat.le_refl _) (by omega))
theorem sms {l : List Int} (hl : l.length ≤ 2 ^ 8) (h : ∀ z ∈ l, z.natAbs < W) : PB (2 ^ 40) (2 ^ 43) l := (small_pb l (2 ^ 8) hl h).mono (by omega) (by omega)
theorem hom_of {p f g out : List Int} (h : trimz (lhom p f g) = trimz out) : ps out = hom p (ps f) (ps g) := by
  rw [← ps_lhom]
  exact ps_ext fun k => (trimz_eq_iff.1 h k).symm
theorem cmp_of {p f out : List Int} (h : trimz (lhom p f [1]) = trimz out) : ps out = cmp p (ps f) := by
  have := hom_of h
  rwa [ps_one] at this
theorem cp_of {p q : List Int} (h : trimz p = trimz q) : cp p = cp q := cp_ext (trimz_eq_iff.1 h)

theorem lay_cell2 (c : RI) (x : IV) : lay (fun i => [(0, 2), (2, 1), (3, 1)][i]?) [.bool false, .sl [], .int .i64 0, .bool false] ([0, 1].zip [prow c, [x]]) = some ((2 = 2 ∧ 0 + 2 ≤ 4) ∧ (1 = 1 ∧ 2 + 1 ≤ 4) ∧ True, [.bool c.1, .sl (lims c.2), x, .bool false]) := rfl

theorem fixed_ok : AC Tryz.prog 6 [] none [cb true] := by
  have p1 := tP_ok [-2, 0, 1] (by decide) (by decide)
  have p2 := tP_ok [-1, 2, 1] (by decide) (by decide)
  have p3 := tP_ok [-8, 0, 1] (by decide) (by decide)
  have p4 := tP_ok [-7, 2, 1] (by decide) (by decide)
  have p5 := tP_ok [2, 0, -1] (by decide) (by decide)
  have p6 := tP_ok [1, -6, 1] (by decide) (by decide)
  have h1 := mhalves_g (p := cn [-2, 0, 1]) (out := [-7, 2, 1]) ((smc (by decide) (by decide)).mono (by omega) (by omega)) (by rw [trimz_cn]; exact cmp_of (by decide))
  rw [trimz_cn, show wt 2 (trimz [-2, 0, 1]) = [-8, 0, 1] by decide] at h1
  have h2 := mline2_ok (cn [-1, 2, 1]) ((smc (by decide) (by decide)).mono (by omega) (by omega))
  rw [trimz_cn, cp_of (show trimz (lhom (trimz [-1, 2, 1]) [1, 0] [1, 1]) = trimz [2, 0, -1] by decide)] at h2
  have h3 := minto_g (p := cn [-2, 0, 1]) (a := canon (-3)) (e := 1) (b := false) (out := [1, -6, 1]) (smc (by decide) (by decide)) ((sz_canon _).mono (by have : zl (-3) ≤ 1 := zl_le.mpr (by decide); omega)) (by omega) (by rw [trimz_cn, iv_canon]; exact cmp_of (by decide))
  have s1 := tsame_g (q := [-8, 0, 1]) (r := [-8, 0, 1]) (sms (by decide) (by decide)) (sms (by decide) (by decide)) rfl
  have s2 := tsame_g (q := [-7, 2, 1]) (r := [-7, 2, 1]) (sms (by decide) (by decide)) (sms (by decide) (by decide)) rfl
  have s3 := tsame_g (q := [2, 0, -1]) (r := [2, 0, -1]) (sms (by decide) (by decide)) (sms (by decide) (by decide)) rfl
  have s4 := tsame_g (q := [1, -6, 1]) (r := [1, -6, 1]) (sms (by decide) (by decide)) (sms (by decide) (by decide)) rfl
  have z3 := rZ_ok (-3) (by omega) (by omega)
  have hlc := lay_cell2
  refine AC.by_walk (rs := [.tmp 0]) ords Tryz.func6 (by rfl) (by rfl) (by rfl) (by rfl) (by rfl) ?_
  simp (disch := omega) only [wk, tis, Int.reduceNe, Int.reduceEq, Int.reduceLT, Int.reduceLE, Int.reduceAdd, Int.reduceSub, Int.reduceNeg, Int.reduceMul, Int.reduceToNat, Nat.reduceSub, Nat.reduceMul, Nat.reduceLeDiff, Nat.reduceAdd, Nat.reduceLT, Nat.reduceEqDiff, reduceCtorEq, ↓reduceIte]
  refine call_by (p1) (by rfl) (by simp) ?_
  simp (disch := omega) only [wk, tis, Int.reduceNe, Int.reduceEq, Int.reduceLT, Int.reduceLE, Int.reduceAdd, Int.reduceSub, Int.reduceNeg, Int.reduceMul, Int.reduceToNat, Nat.reduceSub, Nat.reduceMul, Nat.reduceLeDiff, Nat.reduceAdd, Nat.reduceLT, Nat.reduceEqDiff, reduceCtorEq, ↓reduceIte]
  refine call_by (h1) (by rfl) (by simp) ?_
  simp (disch := omega) only [wk, tis, Int.reduceNe, Int.reduceEq, Int.reduceLT, Int.reduceLE, Int.reduceAdd, Int.reduceSub, Int.reduceNeg, Int.reduceMul, Int.reduceToNat, Nat.reduceSub, Nat.reduceMul, Nat.reduceLeDiff, Nat.reduceAdd, Nat.reduceLT, Nat.reduceEqDiff, reduceCtorEq, ↓reduceIte]
  refine call_by (p2) (by rfl) (by simp) ?_
  simp (disch := omega) only [wk, tis, Int.reduceNe, Int.reduceEq, Int.reduceLT, Int.reduceLE, Int.reduceAdd, Int.reduceSub, Int.reduceNeg, Int.reduceMul, Int.reduceToNat, Nat.reduceSub, Nat.reduceMul, Nat.reduceLeDiff, Nat.reduceAdd, Nat.reduceLT, Nat.reduceEqDiff, reduceCtorEq, ↓reduceIte]
  refine call_by (h2) (by rfl) (by simp) ?_
  simp (disch := omega) only [wk, tis, Int.reduceNe, Int.reduceEq, Int.reduceLT, Int.reduceLE, Int.reduceAdd, Int.reduceSub, Int.reduceNeg, Int.reduceMul, Int.reduceToNat, Nat.reduceSub, Nat.reduceMul, Nat.reduceLeDiff, Nat.reduceAdd, Nat.reduceLT, Nat.reduceEqDiff, reduceCtorEq, ↓reduceIte]
  refine call_by (p1) (by rfl) (by simp) ?_
  simp (disch := omega) only [wk, tis, Int.reduceNe, Int.reduceEq, Int.reduceLT, Int.reduceLE, Int.reduceAdd, Int.reduceSub, Int.reduceNeg, Int.reduceMul, Int.reduceToNat, Nat.reduceSub, Nat.reduceMul, Nat.reduceLeDiff, Nat.reduceAdd, Nat.reduceLT, Nat.reduceEqDiff, reduceCtorEq, ↓reduceIte]
  refine call_by (z3) (by first | rfl | (simp only [tocvs, tocv, hlc]; rfl) | (simp only [tocvs, tocv, toboxes, tobox, updH_at, Nat.reduceEqDiff, ↓reduceIte, hlc]; rfl)) (by simp) ?_
  simp (disch := omega) only [wk, tis, Int.reduceNe, Int.reduceEq, Int.reduceLT, Int.reduceLE, Int.reduceAdd, Int.reduceSub, Int.reduceNeg, Int.reduceMul, Int.reduceToNat, Nat.reduceSub, Nat.reduceMul, Nat.reduceLeDiff, Nat.reduceAdd, Nat.reduceLT, Nat.reduceEqDiff, reduceCtorEq, ↓reduceIte, hlc]
  refine call_by (h3) (by first | rfl | (simp only [tocvs, tocv, hlc]; rfl) | (simp only [tocvs, tocv, toboxes, tobox, updH_at, Nat.reduceEqDiff, ↓reduceIte, hlc]; rfl)) (by simp) ?_
  simp (disch := omega) only [wk, tis, Int.reduceNe, Int.reduceEq, Int.reduceLT, Int.reduceLE, Int.reduceAdd, Int.reduceSub, Int.reduceNeg, Int.reduceMul, Int.reduceToNat, Nat.reduceSub, Nat.reduceMul, Nat.reduceLeDiff, Nat.reduceAdd, Nat.reduceLT, Nat.reduceEqDiff, reduceCtorEq, ↓reduceIte, hlc]
  refine call_by (p3) (by rfl) (by simp) ?_
  simp (disch := omega) only [wk, tis, Int.reduceNe, Int.reduceEq, Int.reduceLT, Int.reduceLE, Int.reduceAdd, Int.reduceSub, Int.reduceNeg, Int.reduceMul, Int.reduceToNat, Nat.reduceSub, Nat.reduceMul, Nat.reduceLeDiff, Nat.reduceAdd, Nat.reduceLT, Nat.reduceEqDiff, reduceCtorEq, ↓reduceIte]
  refine call_by (s1) (by rfl) (by simp) ?_
  simp (disch := omega) only [wk, tis, Int.reduceNe, Int.reduceEq, Int.reduceLT, Int.reduceLE, Int.reduceAdd, Int.reduceSub, Int.reduceNeg, Int.reduceMul, Int.reduceToNat, Nat.reduceSub, Nat.reduceMul, Nat.reduceLeDiff, Nat.reduceAdd, Nat.reduceLT, Nat.reduceEqDiff, reduceCtorEq, ↓reduceIte]
  refine call_by (p4) (by rfl) (by simp) ?_
  simp (disch := omega) only [wk, tis, Int.reduceNe, Int.reduceEq, Int.reduceLT, Int.reduceLE, Int.reduceAdd, Int.reduceSub, Int.reduceNeg, Int.reduceMul, Int.reduceToNat, Nat.reduceSub, Nat.reduceMul, Nat.reduceLeDiff, Nat.reduceAdd, Nat.reduceLT, Nat.reduceEqDiff, reduceCtorEq, ↓reduceIte]
  refine call_by (s2) (by rfl) (by simp) ?_
  simp (disch := omega) only [wk, tis, Int.reduceNe, Int.reduceEq, Int.reduceLT, Int.reduceLE, Int.reduceAdd, Int.reduceSub, Int.reduceNeg, Int.reduceMul, Int.reduceToNat, Nat.reduceSub, Nat.reduceMul, Nat.reduceLeDiff, Nat.reduceAdd, Nat.reduceLT, Nat.reduceEqDiff, reduceCtorEq, ↓reduceIte]
  refine call_by (p5) (by rfl) (by simp) ?_
  simp (disch := omega) only [wk, tis, Int.reduceNe, Int.reduceEq, Int.reduceLT, Int.reduceLE, Int.reduceAdd, Int.reduceSub, Int.reduceNeg, Int.reduceMul, Int.reduceToNat, Nat.reduceSub, Nat.reduceMul, Nat.reduceLeDiff, Nat.reduceAdd, Nat.reduceLT, Nat.reduceEqDiff, reduceCtorEq, ↓reduceIte]
  refine call_by (s3) (by rfl) (by simp) ?_
  simp (disch := omega) only [wk, tis, Int.reduceNe, Int.reduceEq, Int.reduceLT, Int.reduceLE, Int.reduceAdd, Int.reduceSub, Int.reduceNeg, Int.reduceMul, Int.reduceToNat, Nat.reduceSub, Nat.reduceMul, Nat.reduceLeDiff, Nat.reduceAdd, Nat.reduceLT, Nat.reduceEqDiff, reduceCtorEq, ↓reduceIte]
  refine call_by (p6) (by rfl) (by simp) ?_
  simp (disch := omega) only [wk, tis, Int.reduceNe, Int.reduceEq, Int.reduceLT, Int.reduceLE, Int.reduceAdd, Int.reduceSub, Int.reduceNeg, Int.reduceMul, Int.reduceToNat, Nat.reduceSub, Nat.reduceMul, Nat.reduceLeDiff, Nat.reduceAdd, Nat.reduceLT, Nat.reduceEqDiff, reduceCtorEq, ↓reduceIte]
  refine call_by (s4) (by rfl) (by simp) ?_
  simp (disch := omega) only [wk, tis, Int.reduceNe, Int.reduceEq, Int.reduceLT, Int.reduceLE, Int.reduceAdd, Int.reduceSub, Int.reduceNeg, Int.reduceMul, Int.reduceToNat, Nat.reduceSub, Nat.reduceMul, Nat.reduceLeDiff, Nat.reduceAdd, Nat.reduceLT, Nat.reduceEqDiff, reduceCtorEq, ↓reduceIte]
end Go.Proofs.YthgecppfgdadiaaGreat
