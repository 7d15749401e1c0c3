/-
  Contracts of the functions that the law reaches.
-/
import Derived.Test.YtcocppjgbcbndaaGreatL117M
import Derived.Test.YtcocppjgbcbndaaGreatL36M
import Derived.Test.YtcocppjgbcbndaaGreatL25M
namespace Go.Proofs.YtcocppjgbcbndaaGreat
open Go Go.Proofs Go.AL
set_option linter.unusedSimpArgs false
set_option linter.unusedVariables false
theorem qcmp_ok (a b : RQ) (ha : SzQ (2 ^ 34) a) (hb : SzQ (2 ^ 34) b) (h0 : nv a.2 ≠ 0) (h1 : nv b.2 ≠ 0) : AC Tryz.prog 61 [cqq a, cqq b] none [ci (cmpZ (iv a.1 * nv b.2) (iv b.1 * nv a.2)), ci 0] := by
  have c := qchecks_two a b (ha.mono (by omega)) (hb.mono (by omega)) h0 h1
  have t1 := qtimes_ok a.1 b.2 (ha.1.mono (by omega)) ⟨Nat.le_trans hb.2.1 (by omega), hb.2.2⟩
  have t2 := qtimes_ok b.1 a.2 (hb.1.mono (by omega)) ⟨Nat.le_trans ha.2.1 (by omega), ha.2.2⟩
  have y1 := zl_iv ha.1
  have y2 := zl_iv hb.1
  have y3 := nt_zl ha.2
  have y4 := nt_zl hb.2
  have z1 := zl_mul (iv a.1) (nv b.2 : Nat)
  have z2 := zl_mul (iv b.1) (nv a.2 : Nat)
  have m := zcmp_ok (canon (iv a.1 * (nv b.2 : Nat))) (canon (iv b.1 * (nv a.2 : Nat))) ((sz_canon _).mono (by omega)) ((sz_canon _).mono (by omega))
  rw [iv_canon, iv_canon] at m
  refine AC.by_walk (rs := [.tmp 4, .tmp 5]) ords Tryz.func61 (by rfl) (by rfl) (by rfl) (by rfl) (by rfl) ?_
  simp (disch := omega) only [wk, tis, Int.reduceNe, Int.reduceEq, Int.reduceLT, Int.reduceLE, Int.reduceAdd, Int.reduceSub, Int.reduceNeg, Int.reduceMul, Int.reduceToNat, Nat.reduceSub, Nat.reduceMul, Nat.reduceLeDiff, Nat.reduceAdd, Nat.reduceLT, Nat.reduceEqDiff, reduceCtorEq, ↓reduceIte, rqs, rats_two]
  refine call_by (c) (by first | rfl | (simp only [tocvs, tocv, rats_two]; rfl) | (simp only [tocvs, tocv, toboxes, tobox, updH_at, Nat.reduceEqDiff, ↓reduceIte, rats_two]; rfl)) (by simp) ?_
  simp (disch := omega) only [wk, tis, Int.reduceNe, Int.reduceEq, Int.reduceLT, Int.reduceLE, Int.reduceAdd, Int.reduceSub, Int.reduceNeg, Int.reduceMul, Int.reduceToNat, Nat.reduceSub, Nat.reduceMul, Nat.reduceLeDiff, Nat.reduceAdd, Nat.reduceLT, Nat.reduceEqDiff, reduceCtorEq, ↓reduceIte, rqs, rats_two]
  refine ⟨tmps_by (by kernel_rfl), ?_⟩
  refine call_by (t1) (by rfl) (by simp) ?_
  simp (disch := omega) only [wk, tis, Int.reduceNe, Int.reduceEq, Int.reduceLT, Int.reduceLE, Int.reduceAdd, Int.reduceSub, Int.reduceNeg, Int.reduceMul, Int.reduceToNat, Nat.reduceSub, Nat.reduceMul, Nat.reduceLeDiff, Nat.reduceAdd, Nat.reduceLT, Nat.reduceEqDiff, reduceCtorEq, ↓reduceIte, rqs]
  refine call_by (t2) (by rfl) (by simp) ?_
  simp (disch := omega) only [wk, tis, Int.reduceNe, Int.reduceEq, Int.reduceLT, Int.reduceLE, Int.reduceAdd, Int.reduceSub, Int.reduceNeg, Int.reduceMul, Int.reduceToNat, Nat.reduceSub, Nat.reduceMul, Nat.reduceLeDiff, Nat.reduceAdd, Nat.reduceLT, Nat.reduceEqDiff, reduceCtorEq, ↓reduceIte, rqs]
  refine call_by (m) (by rfl) (by simp) ?_
  simp (disch := omega) only [wk, tis, Int.reduceNe, Int.reduceEq, Int.reduceLT, Int.reduceLE, Int.reduceAdd, Int.reduceSub, Int.reduceNeg, Int.reduceMul, Int.reduceToNat, Nat.reduceSub, Nat.reduceMul, Nat.reduceLeDiff, Nat.reduceAdd, Nat.reduceLT, Nat.reduceEqDiff, reduceCtorEq, ↓reduceIte, rqs]
  first | exact log_by (by kernel_rfl) | refine ⟨log_by (by kernel_rfl), ?_⟩
  try rfl
theorem snone_ok (p : List RI) (h : RP (2 ^ 40) (2 ^ 40) p) : AC Tryz.prog 34 [cw p] none [cb (decide (tz (pv p) = 0))] := by
  have d := pdeg_ok p h
  refine AC.by_walk (rs := [.tmp 2]) ords Tryz.func34 (by rfl) (by rfl) (by rfl) (by rfl) (by rfl) ?_
  simp (disch := omega) only [wk, tis, Int.reduceNe, Int.reduceEq, Int.reduceLT, Int.reduceLE, Int.reduceAdd, Int.reduceSub, Int.reduceNeg, Int.reduceMul, Int.reduceToNat, Nat.reduceSub, Nat.reduceMul, Nat.reduceLeDiff, Nat.reduceAdd, Nat.reduceLT, Nat.reduceEqDiff, reduceCtorEq, ↓reduceIte, rqs]
  refine call_by (d) (by rfl) (by simp) ?_
  simp (disch := omega) only [wk, tis, Int.reduceNe, Int.reduceEq, Int.reduceLT, Int.reduceLE, Int.reduceAdd, Int.reduceSub, Int.reduceNeg, Int.reduceMul, Int.reduceToNat, Nat.reduceSub, Nat.reduceMul, Nat.reduceLeDiff, Nat.reduceAdd, Nat.reduceLT, Nat.reduceEqDiff, reduceCtorEq, ↓reduceIte, rqs]
  exact decide_eq_decide.mpr (by omega)
theorem sask_ok (p : List RI) (l : List RQ) (h : RP (2 ^ 40) (2 ^ 40) p) (hl : GQ (2 ^ 40) (2 ^ 40) l) (h0 : tz (pv p) ≠ 0) : AC Tryz.prog 58 [cw p, cqw l] none [ci 0] := by
  have n := snone_ok p h
  rw [decide_eq_false h0] at n
  have hll := hl.1
  refine AC.by_walk (rs := [.tmp 4]) ords Tryz.func58 (by rfl) (by rfl) (by rfl) (by rfl) (by rfl) ?_
  simp (disch := omega) only [wk, tis, Int.reduceNe, Int.reduceEq, Int.reduceLT, Int.reduceLE, Int.reduceAdd, Int.reduceSub, Int.reduceNeg, Int.reduceMul, Int.reduceToNat, Nat.reduceSub, Nat.reduceMul, Nat.reduceLeDiff, Nat.reduceAdd, Nat.reduceLT, Nat.reduceEqDiff, reduceCtorEq, ↓reduceIte, rqs]
  refine aloop_by (fun f H => ∃ (i : Nat), i ≤ l.length ∧ f 10 = .iv (.int .i64 i) ∧ f 9 = .iv (.int .i64 l.length) ∧ f 8 = .iv (.sl (rats l)) ∧ f 0 = .iv (.sl (raws p))) (fun f H => (l.length - intAt f 10).toNat) ?_ ?_
  · refine ⟨0, by omega, ?_⟩
    simp (disch := omega) only [wk, tis, Int.reduceNe, Int.reduceEq, Int.reduceLT, Int.reduceLE, Int.reduceAdd, Int.reduceSub, Int.reduceNeg, Int.reduceMul, Int.reduceToNat, Nat.reduceSub, Nat.reduceMul, Nat.reduceLeDiff, Nat.reduceAdd, Nat.reduceLT, Nat.reduceEqDiff, reduceCtorEq, ↓reduceIte, rqs]
  rintro f H ⟨i, hi, hF⟩
  rw [intAt_of hF.1]
  simp (disch := omega) only [wk, tis, Int.reduceNe, Int.reduceEq, Int.reduceLT, Int.reduceLE, Int.reduceAdd, Int.reduceSub, Int.reduceNeg, Int.reduceMul, Int.reduceToNat, Nat.reduceSub, Nat.reduceMul, Nat.reduceLeDiff, Nat.reduceAdd, Nat.reduceLT, Nat.reduceEqDiff, reduceCtorEq, ↓reduceIte, rqs, hF]
  refine if_by (fun hlt => ?_) (fun hlt => ?_)
  · have hlt' : i < l.length := by omega
    have c := qcheck_good (l.getD i q0) ⟨Nat.le_trans (hl.get hlt').2.1 (by omega), (hl.get hlt').2.2⟩ (hl.den hlt')
    simp (disch := omega) only [wk, tis, Int.reduceNe, Int.reduceEq, Int.reduceLT, Int.reduceLE, Int.reduceAdd, Int.reduceSub, Int.reduceNeg, Int.reduceMul, Int.reduceToNat, Nat.reduceSub, Nat.reduceMul, Nat.reduceLeDiff, Nat.reduceAdd, Nat.reduceLT, Nat.reduceEqDiff, reduceCtorEq, ↓reduceIte, rqs, hF]
    refine call_by (c) (by first | rfl | (simp only [tocvs, tocv, hF]; rfl) | (simp only [tocvs, tocv, toboxes, tobox, updH_at, Nat.reduceEqDiff, ↓reduceIte, hF]; rfl)) (by simp) ?_
    simp (disch := omega) only [wk, tis, Int.reduceNe, Int.reduceEq, Int.reduceLT, Int.reduceLE, Int.reduceAdd, Int.reduceSub, Int.reduceNeg, Int.reduceMul, Int.reduceToNat, Nat.reduceSub, Nat.reduceMul, Nat.reduceLeDiff, Nat.reduceAdd, Nat.reduceLT, Nat.reduceEqDiff, reduceCtorEq, ↓reduceIte, rqs, hF]
    refine ⟨⟨i + 1, by omega, ?_⟩, by omega⟩
    (repeat' apply And.intro) <;> first | rfl | omega
  · simp (disch := omega) only [wk, tis, Int.reduceNe, Int.reduceEq, Int.reduceLT, Int.reduceLE, Int.reduceAdd, Int.reduceSub, Int.reduceNeg, Int.reduceMul, Int.reduceToNat, Nat.reduceSub, Nat.reduceMul, Nat.reduceLeDiff, Nat.reduceAdd, Nat.reduceLT, Nat.reduceEqDiff, reduceCtorEq, ↓reduceIte, rqs, hF]
    refine call_by (n) (by first | rfl | (simp only [tocvs, tocv, hF]; rfl) | (simp only [tocvs, tocv, toboxes, tobox, updH_at, Nat.reduceEqDiff, ↓reduceIte, hF]; rfl)) (by simp) ?_
    simp (disch := omega) only [wk, tis, Int.reduceNe, Int.reduceEq, Int.reduceLT, Int.reduceLE, Int.reduceAdd, Int.reduceSub, Int.reduceNeg, Int.reduceMul, Int.reduceToNat, Nat.reduceSub, Nat.reduceMul, Nat.reduceLeDiff, Nat.reduceAdd, Nat.reduceLT, Nat.reduceEqDiff, reduceCtorEq, ↓reduceIte, rqs, hF]
    try rfl
def rowz (Z : List Int) (n : Nat) (D : Int) : List Int := (List.range (n + 1)).map fun i => cf Z i / ((gz (Z ++ [D]) : Nat) : Int)
theorem rowz_len (Z : List Int) (n : Nat) (D : Int) : (rowz Z n D).length = n + 1 := by simp [rowz]
theorem cf_rowz {Z : List Int} {n i : Nat} {D : Int} (h : i < n + 1) : cf (rowz Z n D) i = cf Z i / ((gz (Z ++ [D]) : Nat) : Int) := by
  rw [rowz, cf, List.getD, List.getElem?_map, List.getElem?_range h]; rfl
theorem gz_app_dvd (Z : List Int) (D : Int) : (∀ i, ((gz (Z ++ [D]) : Nat) : Int) ∣ cf Z i) ∧ ((gz (Z ++ [D]) : Nat) : Int) ∣ D := by
  refine ⟨fun i => ?_, ?_⟩
  · by_cases h : i < Z.length
    · have := gz_dvd (Z ++ [D]) i
      rwa [show cf (Z ++ [D]) i = cf Z i by simp [cf, List.getD, List.getElem?_append_left h]] at this
    · rw [cf_ge (by omega)]; exact Int.dvd_zero _
  · have := gz_dvd (Z ++ [D]) Z.length
    rwa [show cf (Z ++ [D]) Z.length = D by simp [cf, List.getD]] at this
theorem sleast_ok (p : List RI) (n : Nat) (d : RI) (hp : RP (2 ^ 30) (2 ^ 35) p) (hd : Sz (2 ^ 35) d) (h0 : iv d ≠ 0) (hn : n ≤ 2 ^ 30) : AC Tryz.prog 89 [cw p, ci n, cr d] none [cw ((rowz (pv p) n (iv d)).map canon)] := by
  have hpl := hp.1
  have hpd : RP (2 ^ 40) (2 ^ 38) (p ++ [d]) := ⟨by rw [List.length_append, List.length_singleton]; omega, fun c hc => by
    rcases List.mem_append.1 hc with hc | hc
    · exact (hp.2 c hc).mono (by omega)
    · rw [List.mem_singleton.1 hc]; exact hd.mono (by omega)⟩
  have g := zgcd_ok (p ++ [d]) hpd
  have epv : pv (p ++ [d]) = pv p ++ [iv d] := by simp [pv]
  have hgl := gz_len (p := p ++ [d]) hpd
  rw [epv] at g hgl
  obtain ⟨hdv, hdd⟩ := gz_app_dvd (pv p) (iv d)
  have hg0 : gz (pv p ++ [iv d]) ≠ 0 := fun e => h0 (by rw [e] at hdd; exact Int.zero_dvd.mp hdd)
  have w := znat_ok false (gz (pv p ++ [iv d])) (by omega)
  rw [sgf] at w
  have hrl := rowz_len (pv p) n (iv d)
  have e1 : (n : Int) + 1 = ((n + 1 : Nat) : Int) := by omega
  have hsn : raws p ++ [prow d] = raws (p ++ [d]) := by simp [raws]
  refine AC.by_walk (rs := [.tmp 6]) ords Tryz.func89 (by rfl) (by rfl) (by rfl) (by rfl) (by rfl) ?_
  simp (disch := omega) only [wk, tis, Int.reduceNe, Int.reduceEq, Int.reduceLT, Int.reduceLE, Int.reduceAdd, Int.reduceSub, Int.reduceNeg, Int.reduceMul, Int.reduceToNat, Nat.reduceSub, Nat.reduceMul, Nat.reduceLeDiff, Nat.reduceAdd, Nat.reduceLT, Nat.reduceEqDiff, reduceCtorEq, ↓reduceIte, rqs]
  refine ⟨tmps_by (by kernel_rfl), ?_⟩
  refine call_by (g) (by first | rfl | (simp only [tocvs, tocv, hsn]; rfl) | (simp only [tocvs, tocv, toboxes, tobox, updH_at, Nat.reduceEqDiff, ↓reduceIte, hsn]; rfl)) (by simp) ?_
  simp (disch := omega) only [wk, tis, Int.reduceNe, Int.reduceEq, Int.reduceLT, Int.reduceLE, Int.reduceAdd, Int.reduceSub, Int.reduceNeg, Int.reduceMul, Int.reduceToNat, Nat.reduceSub, Nat.reduceMul, Nat.reduceLeDiff, Nat.reduceAdd, Nat.reduceLT, Nat.reduceEqDiff, reduceCtorEq, ↓reduceIte, rqs, hsn]
  refine call_by (w) (by first | rfl | (simp only [tocvs, tocv, hsn]; rfl) | (simp only [tocvs, tocv, toboxes, tobox, updH_at, Nat.reduceEqDiff, ↓reduceIte, hsn]; rfl)) (by simp) ?_
  simp (disch := omega) only [wk, tis, Int.reduceNe, Int.reduceEq, Int.reduceLT, Int.reduceLE, Int.reduceAdd, Int.reduceSub, Int.reduceNeg, Int.reduceMul, Int.reduceToNat, Nat.reduceSub, Nat.reduceMul, Nat.reduceLeDiff, Nat.reduceAdd, Nat.reduceLT, Nat.reduceEqDiff, reduceCtorEq, ↓reduceIte, rqs, hsn]
  first | exact log_by (by kernel_rfl) | refine ⟨log_by (by kernel_rfl), ?_⟩
  refine aloop_by (fun f H => ∃ (i s7 st : Nat), i ≤ n + 1 ∧ f 25 = .iv (.int .i64 i) ∧ f 24 = .iv (.int .i64 (n + 1 : Nat)) ∧ f 0 = .iv (.sl (raws p)) ∧ f 7 = .hp 7 s7 0 0 ∧ H 7 = .blk false s7 33 2 [prow (canon ((gz (pv p ++ [iv d]) : Nat) : Int))] ∧ f 8 = .hs 22 st ∧ H 22 = .blk false st 33 2 (raws (((rowz (pv p) n (iv d)).take i).map canon))) (fun f H => ((n + 1 : Nat) - intAt f 25).toNat) ?_ ?_
  · refine ⟨0, 1, 1, by omega, ?_⟩
    simp (disch := omega) only [wk, tis, Int.reduceNe, Int.reduceEq, Int.reduceLT, Int.reduceLE, Int.reduceAdd, Int.reduceSub, Int.reduceNeg, Int.reduceMul, Int.reduceToNat, Nat.reduceSub, Nat.reduceMul, Nat.reduceLeDiff, Nat.reduceAdd, Nat.reduceLT, Nat.reduceEqDiff, reduceCtorEq, ↓reduceIte, rqs, List.take_zero, List.map_nil, e1, Int.toNat_zero, List.replicate_zero, show raws [] = [] from rfl]
  rintro f H ⟨i, s7, st, hi, hF⟩
  rw [intAt_of hF.1]
  simp (disch := omega) only [wk, tis, Int.reduceNe, Int.reduceEq, Int.reduceLT, Int.reduceLE, Int.reduceAdd, Int.reduceSub, Int.reduceNeg, Int.reduceMul, Int.reduceToNat, Nat.reduceSub, Nat.reduceMul, Nat.reduceLeDiff, Nat.reduceAdd, Nat.reduceLT, Nat.reduceEqDiff, reduceCtorEq, ↓reduceIte, rqs, hF]
  refine if_by (fun hlt => ?_) (fun hlt => ?_)
  · have hlt' : i < n + 1 := by omega
    have hq : (((rowz (pv p) n (iv d)).take i).map canon).length = i := by rw [List.length_map, List.length_take]; omega
    have c := pcoef_ok p i (hp.mono (by omega) (by omega))
    rw [if_neg (by omega), Int.toNat_natCast] at c
    have zc := hp.pv.cf i
    have zg : zl ((gz (pv p ++ [iv d]) : Nat) : Int) ≤ 2 ^ 38 := by rw [zl_nat]; exact hgl
    have x := zexact_ok (canon (cf (pv p) i)) (canon ((gz (pv p ++ [iv d]) : Nat) : Int)) ((sz_canon _).mono (by omega)) ((sz_canon _).mono zg) (by rw [iv_canon]; omega) (by rw [iv_canon, iv_canon]; exact hdv i)
    rw [iv_canon, iv_canon, ← cf_rowz hlt'] at x
    have et := takez_snoc (q := rowz (pv p) n (iv d)) (i := i) (by omega)
    simp (disch := omega) only [wk, tis, Int.reduceNe, Int.reduceEq, Int.reduceLT, Int.reduceLE, Int.reduceAdd, Int.reduceSub, Int.reduceNeg, Int.reduceMul, Int.reduceToNat, Nat.reduceSub, Nat.reduceMul, Nat.reduceLeDiff, Nat.reduceAdd, Nat.reduceLT, Nat.reduceEqDiff, reduceCtorEq, ↓reduceIte, rqs, hF, hq]
    refine ⟨tmps_by (by kernel_rfl), ?_⟩
    refine call_by (c) (by first | rfl | (simp only [tocvs, tocv, hF, hq]; rfl) | (simp only [tocvs, tocv, toboxes, tobox, updH_at, Nat.reduceEqDiff, ↓reduceIte, hF, hq]; rfl)) (by simp) ?_
    simp (disch := omega) only [wk, tis, Int.reduceNe, Int.reduceEq, Int.reduceLT, Int.reduceLE, Int.reduceAdd, Int.reduceSub, Int.reduceNeg, Int.reduceMul, Int.reduceToNat, Nat.reduceSub, Nat.reduceMul, Nat.reduceLeDiff, Nat.reduceAdd, Nat.reduceLT, Nat.reduceEqDiff, reduceCtorEq, ↓reduceIte, rqs, hF, hq]
    refine call_by (x) (by first | rfl | (simp only [tocvs, tocv, hF, hq]; rfl) | (simp only [tocvs, tocv, toboxes, tobox, updH_at, Nat.reduceEqDiff, ↓reduceIte, hF, hq]; rfl)) (by simp) ?_
    simp (disch := omega) only [wk, tis, Int.reduceNe, Int.reduceEq, Int.reduceLT, Int.reduceLE, Int.reduceAdd, Int.reduceSub, Int.reduceNeg, Int.reduceMul, Int.reduceToNat, Nat.reduceSub, Nat.reduceMul, Nat.reduceLeDiff, Nat.reduceAdd, Nat.reduceLT, Nat.reduceEqDiff, reduceCtorEq, ↓reduceIte, rqs, hF, hq]
    first | exact log_by (by kernel_rfl) | refine ⟨log_by (by kernel_rfl), ?_⟩
    refine ⟨⟨i + 1, s7, st + 1, by omega, ?_⟩, by omega⟩
    rw [et, List.map_append]
    (repeat' apply And.intro) <;> first | rfl | omega
  · obtain rfl : i = n + 1 := by omega
    rw [List.take_of_length_le (by omega)] at hF
    simp (disch := omega) only [wk, tis, Int.reduceNe, Int.reduceEq, Int.reduceLT, Int.reduceLE, Int.reduceAdd, Int.reduceSub, Int.reduceNeg, Int.reduceMul, Int.reduceToNat, Nat.reduceSub, Nat.reduceMul, Nat.reduceLeDiff, Nat.reduceAdd, Nat.reduceLT, Nat.reduceEqDiff, reduceCtorEq, ↓reduceIte, rqs, hF]
    try rfl
theorem srow_ok (p : List RI) (a b : RQ) (n : Nat) (w : Rat) (l0 l1 l2 : List RQ) (D : Nat) (Z S R : List RI)
    (h1 : AC Tryz.prog 58 [cw p, cqw [a, b]] none [ci 0])
    (h2 : AC Tryz.prog 61 [cqq a, cqq b] none [ci (-1), ci 0])
    (h3 : AC Tryz.prog 65 [cw p] none [ci n])
    (h4 : AC Tryz.prog 83 [cqq b, cqq a] none [cqz w, ci 0])
    (h5 : AC Tryz.prog 85 [cw p] none [cqw l0])
    (h6 : AC Tryz.prog 84 [cqw l0, cqq a] none [cqw l1, ci 0])
    (h7 : AC Tryz.prog 86 [cqw l1, cqz w] none [cqw l2, ci 0])
    (h8 : AC Tryz.prog 87 [cqw l2] none [cl (wd D), cw Z, ci 0])
    (h9 : AC Tryz.prog 88 [cw Z, cz 1, cz 0, cz 1, cz 1] none [cw S])
    (h10 : AC Tryz.prog 89 [cw S, ci n, cz D] none [cw R])
    (hD : (wd D).length ≤ 2 ^ 40) : AC Tryz.prog 51 [cw p, cqq a, cqq b] none [cw R, ci 0] := by
  have o1 := zOf_ok 1 (by omega) (by omega)
  have o0 := zOf_ok 0 (by omega) (by omega)
  have nd := znat_ok false D hD
  rw [sgf] at nd
  refine AC.by_walk (rs := [.tmp 6, .tmp 7]) ords Tryz.func51 (by rfl) (by rfl) (by rfl) (by rfl) (by rfl) ?_
  simp (disch := omega) only [wk, tis, Int.reduceNe, Int.reduceEq, Int.reduceLT, Int.reduceLE, Int.reduceAdd, Int.reduceSub, Int.reduceNeg, Int.reduceMul, Int.reduceToNat, Nat.reduceSub, Nat.reduceMul, Nat.reduceLeDiff, Nat.reduceAdd, Nat.reduceLT, Nat.reduceEqDiff, reduceCtorEq, ↓reduceIte, rqs, rats_two]
  refine call_by (h1) (by first | rfl | (simp only [tocvs, tocv, rats_two]; rfl) | (simp only [tocvs, tocv, toboxes, tobox, updH_at, Nat.reduceEqDiff, ↓reduceIte, rats_two]; rfl)) (by simp) ?_
  simp (disch := omega) only [wk, tis, Int.reduceNe, Int.reduceEq, Int.reduceLT, Int.reduceLE, Int.reduceAdd, Int.reduceSub, Int.reduceNeg, Int.reduceMul, Int.reduceToNat, Nat.reduceSub, Nat.reduceMul, Nat.reduceLeDiff, Nat.reduceAdd, Nat.reduceLT, Nat.reduceEqDiff, reduceCtorEq, ↓reduceIte, rqs, rats_two]
  refine call_by (h2) (by rfl) (by simp) ?_
  simp (disch := omega) only [wk, tis, Int.reduceNe, Int.reduceEq, Int.reduceLT, Int.reduceLE, Int.reduceAdd, Int.reduceSub, Int.reduceNeg, Int.reduceMul, Int.reduceToNat, Nat.reduceSub, Nat.reduceMul, Nat.reduceLeDiff, Nat.reduceAdd, Nat.reduceLT, Nat.reduceEqDiff, reduceCtorEq, ↓reduceIte, rqs]
  refine call_by (h3) (by rfl) (by simp) ?_
  simp (disch := omega) only [wk, tis, Int.reduceNe, Int.reduceEq, Int.reduceLT, Int.reduceLE, Int.reduceAdd, Int.reduceSub, Int.reduceNeg, Int.reduceMul, Int.reduceToNat, Nat.reduceSub, Nat.reduceMul, Nat.reduceLeDiff, Nat.reduceAdd, Nat.reduceLT, Nat.reduceEqDiff, reduceCtorEq, ↓reduceIte, rqs]
  refine call_by (h4) (by rfl) (by simp) ?_
  simp (disch := omega) only [wk, tis, Int.reduceNe, Int.reduceEq, Int.reduceLT, Int.reduceLE, Int.reduceAdd, Int.reduceSub, Int.reduceNeg, Int.reduceMul, Int.reduceToNat, Nat.reduceSub, Nat.reduceMul, Nat.reduceLeDiff, Nat.reduceAdd, Nat.reduceLT, Nat.reduceEqDiff, reduceCtorEq, ↓reduceIte, rqs]
  refine ⟨tmps_by (by kernel_rfl), ?_⟩
  refine call_by (h5) (by rfl) (by simp) ?_
  simp (disch := omega) only [wk, tis, Int.reduceNe, Int.reduceEq, Int.reduceLT, Int.reduceLE, Int.reduceAdd, Int.reduceSub, Int.reduceNeg, Int.reduceMul, Int.reduceToNat, Nat.reduceSub, Nat.reduceMul, Nat.reduceLeDiff, Nat.reduceAdd, Nat.reduceLT, Nat.reduceEqDiff, reduceCtorEq, ↓reduceIte, rqs]
  refine call_by (h6) (by rfl) (by simp) ?_
  simp (disch := omega) only [wk, tis, Int.reduceNe, Int.reduceEq, Int.reduceLT, Int.reduceLE, Int.reduceAdd, Int.reduceSub, Int.reduceNeg, Int.reduceMul, Int.reduceToNat, Nat.reduceSub, Nat.reduceMul, Nat.reduceLeDiff, Nat.reduceAdd, Nat.reduceLT, Nat.reduceEqDiff, reduceCtorEq, ↓reduceIte, rqs]
  first | exact log_by (by kernel_rfl) | refine ⟨log_by (by kernel_rfl), ?_⟩
  refine call_by (h7) (by rfl) (by simp) ?_
  simp (disch := omega) only [wk, tis, Int.reduceNe, Int.reduceEq, Int.reduceLT, Int.reduceLE, Int.reduceAdd, Int.reduceSub, Int.reduceNeg, Int.reduceMul, Int.reduceToNat, Nat.reduceSub, Nat.reduceMul, Nat.reduceLeDiff, Nat.reduceAdd, Nat.reduceLT, Nat.reduceEqDiff, reduceCtorEq, ↓reduceIte, rqs]
  refine call_by (h8) (by rfl) (by simp) ?_
  simp (disch := omega) only [wk, tis, Int.reduceNe, Int.reduceEq, Int.reduceLT, Int.reduceLE, Int.reduceAdd, Int.reduceSub, Int.reduceNeg, Int.reduceMul, Int.reduceToNat, Nat.reduceSub, Nat.reduceMul, Nat.reduceLeDiff, Nat.reduceAdd, Nat.reduceLT, Nat.reduceEqDiff, reduceCtorEq, ↓reduceIte, rqs]
  refine call_by (o1) (by rfl) (by simp) ?_
  simp (disch := omega) only [wk, tis, Int.reduceNe, Int.reduceEq, Int.reduceLT, Int.reduceLE, Int.reduceAdd, Int.reduceSub, Int.reduceNeg, Int.reduceMul, Int.reduceToNat, Nat.reduceSub, Nat.reduceMul, Nat.reduceLeDiff, Nat.reduceAdd, Nat.reduceLT, Nat.reduceEqDiff, reduceCtorEq, ↓reduceIte, rqs]
  refine call_by (o0) (by rfl) (by simp) ?_
  simp (disch := omega) only [wk, tis, Int.reduceNe, Int.reduceEq, Int.reduceLT, Int.reduceLE, Int.reduceAdd, Int.reduceSub, Int.reduceNeg, Int.reduceMul, Int.reduceToNat, Nat.reduceSub, Nat.reduceMul, Nat.reduceLeDiff, Nat.reduceAdd, Nat.reduceLT, Nat.reduceEqDiff, reduceCtorEq, ↓reduceIte, rqs]
  refine call_by (o1) (by rfl) (by simp) ?_
  simp (disch := omega) only [wk, tis, Int.reduceNe, Int.reduceEq, Int.reduceLT, Int.reduceLE, Int.reduceAdd, Int.reduceSub, Int.reduceNeg, Int.reduceMul, Int.reduceToNat, Nat.reduceSub, Nat.reduceMul, Nat.reduceLeDiff, Nat.reduceAdd, Nat.reduceLT, Nat.reduceEqDiff, reduceCtorEq, ↓reduceIte, rqs]
  refine call_by (o1) (by rfl) (by simp) ?_
  simp (disch := omega) only [wk, tis, Int.reduceNe, Int.reduceEq, Int.reduceLT, Int.reduceLE, Int.reduceAdd, Int.reduceSub, Int.reduceNeg, Int.reduceMul, Int.reduceToNat, Nat.reduceSub, Nat.reduceMul, Nat.reduceLeDiff, Nat.reduceAdd, Nat.reduceLT, Nat.reduceEqDiff, reduceCtorEq, ↓reduceIte, rqs]
  refine call_by (h9) (by rfl) (by simp) ?_
  simp (disch := omega) only [wk, tis, Int.reduceNe, Int.reduceEq, Int.reduceLT, Int.reduceLE, Int.reduceAdd, Int.reduceSub, Int.reduceNeg, Int.reduceMul, Int.reduceToNat, Nat.reduceSub, Nat.reduceMul, Nat.reduceLeDiff, Nat.reduceAdd, Nat.reduceLT, Nat.reduceEqDiff, reduceCtorEq, ↓reduceIte, rqs]
  refine call_by (nd) (by rfl) (by simp) ?_
  simp (disch := omega) only [wk, tis, Int.reduceNe, Int.reduceEq, Int.reduceLT, Int.reduceLE, Int.reduceAdd, Int.reduceSub, Int.reduceNeg, Int.reduceMul, Int.reduceToNat, Nat.reduceSub, Nat.reduceMul, Nat.reduceLeDiff, Nat.reduceAdd, Nat.reduceLT, Nat.reduceEqDiff, reduceCtorEq, ↓reduceIte, rqs]
  refine call_by (h10) (by rfl) (by simp) ?_
  simp (disch := omega) only [wk, tis, Int.reduceNe, Int.reduceEq, Int.reduceLT, Int.reduceLE, Int.reduceAdd, Int.reduceSub, Int.reduceNeg, Int.reduceMul, Int.reduceToNat, Nat.reduceSub, Nat.reduceMul, Nat.reduceLeDiff, Nat.reduceAdd, Nat.reduceLT, Nat.reduceEqDiff, reduceCtorEq, ↓reduceIte, rqs]
  try rfl
theorem sin_ok (p : List RI) (a b : RQ) (R : List RI) (h : AC Tryz.prog 51 [cw p, cqq a, cqq b] none [cw R, ci 0]) (hR : RP (2 ^ 40) (2 ^ 40) R) : AC Tryz.prog 20 [cw p, cqq a, cqq b] none [ci (chg (pv R)), ci 0] := by
  have o := of16_ok R hR
  refine AC.by_walk (rs := [.tmp 6, .tmp 7]) ords Tryz.func20 (by rfl) (by rfl) (by rfl) (by rfl) (by rfl) ?_
  simp (disch := omega) only [wk, tis, Int.reduceNe, Int.reduceEq, Int.reduceLT, Int.reduceLE, Int.reduceAdd, Int.reduceSub, Int.reduceNeg, Int.reduceMul, Int.reduceToNat, Nat.reduceSub, Nat.reduceMul, Nat.reduceLeDiff, Nat.reduceAdd, Nat.reduceLT, Nat.reduceEqDiff, reduceCtorEq, ↓reduceIte, rqs]
  refine call_by (h) (by rfl) (by simp) ?_
  simp (disch := omega) only [wk, tis, Int.reduceNe, Int.reduceEq, Int.reduceLT, Int.reduceLE, Int.reduceAdd, Int.reduceSub, Int.reduceNeg, Int.reduceMul, Int.reduceToNat, Nat.reduceSub, Nat.reduceMul, Nat.reduceLeDiff, Nat.reduceAdd, Nat.reduceLT, Nat.reduceEqDiff, reduceCtorEq, ↓reduceIte, rqs]
  refine call_by (o) (by rfl) (by simp) ?_
  simp (disch := omega) only [wk, tis, Int.reduceNe, Int.reduceEq, Int.reduceLT, Int.reduceLE, Int.reduceAdd, Int.reduceSub, Int.reduceNeg, Int.reduceMul, Int.reduceToNat, Nat.reduceSub, Nat.reduceMul, Nat.reduceLeDiff, Nat.reduceAdd, Nat.reduceLT, Nat.reduceEqDiff, reduceCtorEq, ↓reduceIte, rqs]
  try rfl
theorem rp_small (l : List Int) (n : Nat) (hl : l.length ≤ n) (h : ∀ z ∈ l, z.natAbs < W) : RP n 1 (l.map canon) := RP.canon (small_pb l n hl h)
theorem cp_dec {q r : List Int} (h : trimz q = r) : cp q = cw (r.map canon) := by
  unfold cp cpoly
  rw [h]
theorem row0_ok : AC Tryz.prog 51 [cw (([-2, 0, 1] : List Int).map canon), cqz 1, cqz 2] none [cw (([-1, 0, 2] : List Int).map canon), ci 0] := by
  have rp : RP 3 1 (([-2, 0, 1] : List Int).map canon) := rp_small _ 3 (by decide) (by decide)
  have s1 : SzQ 1 (crat 1) := szq_crat (by rw [qz_one]; omega)
  have s2 : SzQ 1 (crat 2) := szq_crat (by decide +kernel)
  have s0 : SzQ 1 (crat 0) := szq_crat (by rw [qz_zero]; omega)
  have h1 := sask_ok (([-2, 0, 1] : List Int).map canon) [crat 1, crat 2] (rp.mono (by omega) (by omega)) ⟨by simp, fun r hr => by
    simp only [List.mem_cons, List.not_mem_nil, or_false] at hr
    rcases hr with rfl | rfl
    · exact ⟨s1.mono (by omega), nv_crat0 _⟩
    · exact ⟨s2.mono (by omega), nv_crat0 _⟩⟩ (by rw [pv_canon]; decide)
  have h2 := qcmp_ok (crat 1) (crat 2) (s1.mono (by omega)) (s2.mono (by omega)) (nv_crat0 _) (nv_crat0 _)
  rw [show cmpZ (iv (crat 1).1 * (nv (crat 2).2 : Nat)) (iv (crat 2).1 * (nv (crat 1).2 : Nat)) = -1 by decide +kernel] at h2
  have h3 := pdeg_ok (([-2, 0, 1] : List Int).map canon) (rp.mono (by omega) (by omega))
  rw [pv_canon, show ((tz [-2, 0, 1] : Nat) : Int) - 1 = ((2 : Nat) : Int) by decide] at h3
  have h4 := qsub_ok (crat 2) (crat 1) (s2.mono (by omega)) (s1.mono (by omega)) (nv_crat0 _) (nv_crat0 _)
  rw [qv_crat, qv_crat, show (2 : Rat) - 1 = 1 by decide +kernel] at h4
  have h5 := qof10_ok (([-2, 0, 1] : List Int).map canon) (rp.mono (by omega) (by omega))
  rw [pv_canon, show cqp (qp [-2, 0, 1]) = cqw (([-2, 0, 1] : List Rat).map crat) from congrArg cqw (by decide +kernel)] at h5
  have two : ∀ {a b : RQ}, SzQ 1 a → SzQ 1 b → nv a.2 ≠ 0 → nv b.2 ≠ 0 → GQ 9 3 [a, b] := fun ha hb h0 h1 => ⟨by simp, fun r hr => by
    simp only [List.mem_cons, List.not_mem_nil, or_false] at hr
    rcases hr with rfl | rfl
    · exact ⟨ha.mono (by omega), h0⟩
    · exact ⟨hb.mono (by omega), h1⟩⟩
  have g1 : QB 9 3 ([-2, 0, 1] : List Rat) := ⟨by decide, by decide +kernel⟩
  have g2 : QB 9 3 ([-1, 2, 1] : List Rat) := ⟨by decide, by decide +kernel⟩
  have t1 := two s1 s1 (nv_crat0 _) (nv_crat0 _)
  have t2 := two s0 s1 (nv_crat0 _) (nv_crat0 _)
  have m1 := mComposeQ_ok (([-2, 0, 1] : List Rat).map crat) [crat 1, crat 1] (g1.gq.mono (by omega) (by omega)) (t1.mono (by omega) (by omega)) (hq_small g1.gq t1)
  rw [qvs_map, show cqp (hoq (trimq [-2, 0, 1]) (trimq (qvs [crat 1, crat 1])) (trimq [-2, 0, 1]).length) = cqw (([-1, 2, 1] : List Rat).map crat) from congrArg cqw (by decide +kernel)] at m1
  have h6 := mShiftQ_of _ _ _ _ m1
  have m2 := mComposeQ_ok (([-1, 2, 1] : List Rat).map crat) [crat 0, crat 1] (g2.gq.mono (by omega) (by omega)) (t2.mono (by omega) (by omega)) (hq_small g2.gq t2)
  rw [qvs_map, show cqp (hoq (trimq [-1, 2, 1]) (trimq (qvs [crat 0, crat 1])) (trimq [-1, 2, 1]).length) = cqw (([-1, 2, 1] : List Rat).map crat) from congrArg cqw (by decide +kernel)] at m2
  have h7 := mScaleQ_of _ _ _ _ m2
  have h8 := qclear_ok (([-1, 2, 1] : List Rat).map crat) 9 3 g2.gq (by omega) (by omega)
  rw [qvs_map, show cden (trimq [-1, 2, 1]) = 1 by decide +kernel, show clr (trimq [-1, 2, 1]) = [-1, 2, 1] by decide +kernel] at h8
  have rz : RP 3 1 (([-1, 2, 1] : List Int).map canon) := rp_small _ 3 (by decide) (by decide)
  have oz : ∀ z : Int, zl z ≤ 1 → Sz (2 ^ 20) (canon z) := fun z h => (sz_canon z).mono (by omega)
  have h9 := mmoebius_ok (([-1, 2, 1] : List Int).map canon) (canon 1) (canon 0) (canon 1) (canon 1) (rz.mono (by omega) (by omega)) (oz 1 (by decide +kernel)) (oz 0 (by decide +kernel)) (oz 1 (by decide +kernel)) (oz 1 (by decide +kernel))
  rw [pv_canon, iv_canon, iv_canon, cp_dec (r := [-1, 0, 2]) (by decide +kernel)] at h9
  have rs : RP 3 1 (([-1, 0, 2] : List Int).map canon) := rp_small _ 3 (by decide) (by decide)
  have h10 := sleast_ok (([-1, 0, 2] : List Int).map canon) 2 (canon ((1 : Nat) : Int)) (rs.mono (by omega) (by omega)) ((sz_canon _).mono (by decide +kernel)) (by rw [iv_canon]; decide) (by omega)
  rw [pv_canon, iv_canon, show rowz [-1, 0, 2] 2 ((1 : Nat) : Int) = [-1, 0, 2] by decide +kernel] at h10
  exact srow_ok _ _ _ 2 1 _ _ _ 1 _ _ _ h1 h2 h3 h4 h5 h6 h7 h8 h9 h10 (by decide +kernel)
theorem known16_ok : AC Tryz.prog 6 [] none [cb true] := by
  have p := poly16_ok [-2, 0, 1] (by decide) (by decide)
  have a := hP_ok 1 1 (by omega) (by omega) (by omega) (by omega)
  have b := hP_ok 2 1 (by omega) (by omega) (by omega) (by omega)
  rw [show ((1 : Int) : Rat) / ((1 : Nat) : Rat) = 1 by decide +kernel] at a
  rw [show ((2 : Int) : Rat) / ((1 : Nat) : Rat) = 2 by decide +kernel] at b
  have i := sin_ok _ _ _ _ row0_ok ((rp_small [-1, 0, 2] 3 (by decide) (by decide)).mono (by omega) (by omega))
  rw [pv_canon, show chg [-1, 0, 2] = 1 by decide, show ((1 : Nat) : Int) = 1 from rfl] at i
  have c := chg_ok [1, 0, -5, 0, 0, 2] (by decide)
  rw [show chg [1, 0, -5, 0, 0, 2] = 2 by decide, show ((2 : Nat) : Int) = 2 from rfl] at c
  have hr6 : List.range 6 = [0, 1, 2, 3, 4, 5] := rfl
  have hil : [[IV.int .i64 1], [IV.int .i64 0], [IV.int .i64 (-5)], [IV.int .i64 0], [IV.int .i64 0], [IV.int .i64 2]] = ilims [1, 0, -5, 0, 0, 2] := rfl
  have hir : ∀ l : List Int, (∀ r ∈ ilims l, r.length = 1) ↔ True := fun l => by simp [ilims]
  refine AC.by_walk (rs := [.tmp 0]) ords Tryz.func6 (by rfl) (by rfl) (by rfl) (by rfl) (by rfl) ?_
  simp (disch := omega) only [wk, tis, Int.reduceNe, Int.reduceEq, Int.reduceLT, Int.reduceLE, Int.reduceAdd, Int.reduceSub, Int.reduceNeg, Int.reduceMul, Int.reduceToNat, Nat.reduceSub, Nat.reduceMul, Nat.reduceLeDiff, Nat.reduceAdd, Nat.reduceLT, Nat.reduceEqDiff, reduceCtorEq, ↓reduceIte, rqs]
  refine call_by (p) (by rfl) (by simp) ?_
  simp (disch := omega) only [wk, tis, Int.reduceNe, Int.reduceEq, Int.reduceLT, Int.reduceLE, Int.reduceAdd, Int.reduceSub, Int.reduceNeg, Int.reduceMul, Int.reduceToNat, Nat.reduceSub, Nat.reduceMul, Nat.reduceLeDiff, Nat.reduceAdd, Nat.reduceLT, Nat.reduceEqDiff, reduceCtorEq, ↓reduceIte, rqs]
  refine call_by (a) (by rfl) (by simp) ?_
  simp (disch := omega) only [wk, tis, Int.reduceNe, Int.reduceEq, Int.reduceLT, Int.reduceLE, Int.reduceAdd, Int.reduceSub, Int.reduceNeg, Int.reduceMul, Int.reduceToNat, Nat.reduceSub, Nat.reduceMul, Nat.reduceLeDiff, Nat.reduceAdd, Nat.reduceLT, Nat.reduceEqDiff, reduceCtorEq, ↓reduceIte, rqs]
  refine call_by (b) (by rfl) (by simp) ?_
  simp (disch := omega) only [wk, tis, Int.reduceNe, Int.reduceEq, Int.reduceLT, Int.reduceLE, Int.reduceAdd, Int.reduceSub, Int.reduceNeg, Int.reduceMul, Int.reduceToNat, Nat.reduceSub, Nat.reduceMul, Nat.reduceLeDiff, Nat.reduceAdd, Nat.reduceLT, Nat.reduceEqDiff, reduceCtorEq, ↓reduceIte, rqs]
  refine call_by (i) (by first | rfl | (simp only [tocvs, tocv, hr6, hil, hir]; rfl) | (simp only [tocvs, tocv, toboxes, tobox, updH_at, Nat.reduceEqDiff, ↓reduceIte, hr6, hil, hir]; rfl)) (by simp) ?_
  simp (disch := omega) only [wk, tis, Int.reduceNe, Int.reduceEq, Int.reduceLT, Int.reduceLE, Int.reduceAdd, Int.reduceSub, Int.reduceNeg, Int.reduceMul, Int.reduceToNat, Nat.reduceSub, Nat.reduceMul, Nat.reduceLeDiff, Nat.reduceAdd, Nat.reduceLT, Nat.reduceEqDiff, reduceCtorEq, ↓reduceIte, rqs, hr6, hil, hir]
  refine call_by (c) (by first | rfl | (simp only [tocvs, tocv, hr6, hil, hir]; rfl) | (simp only [tocvs, tocv, toboxes, tobox, updH_at, Nat.reduceEqDiff, ↓reduceIte, hr6, hil, hir]; rfl)) (by simp) ?_
  simp (disch := omega) only [wk, tis, Int.reduceNe, Int.reduceEq, Int.reduceLT, Int.reduceLE, Int.reduceAdd, Int.reduceSub, Int.reduceNeg, Int.reduceMul, Int.reduceToNat, Nat.reduceSub, Nat.reduceMul, Nat.reduceLeDiff, Nat.reduceAdd, Nat.reduceLT, Nat.reduceEqDiff, reduceCtorEq, ↓reduceIte, rqs, hr6, hil, hir]
  try rfl
end Go.Proofs.YtcocppjgbcbndaaGreat

namespace Go.Proofs.YtcocppjgbcbndaaGreat
open Go Go.Proofs Go.AL
set_option linter.unusedSimpArgs false
set_option linter.unusedVariables false
structure TPl (x s y : RQ) (i : Nat) : Prop where
  v : qv y = qv x + (i : Rat) * qv s
  z : SzQ (200 + i * 201) y
  d : nv y.2 ≠ 0
end Go.Proofs.YtcocppjgbcbndaaGreat

namespace Go.Proofs.YtcocppjgbcbndaaGreat
open Go Go.Proofs Go.AL
set_option linter.unusedSimpArgs false
set_option linter.unusedVariables false
end Go.Proofs.YtcocppjgbcbndaaGreat

namespace Go.Proofs.YtcocppjgbcbndaaGreat
open Go Go.Proofs Go.AL
set_option linter.unusedSimpArgs false
set_option linter.unusedVariables false
theorem fldRat0 : fldA Tryz.prog 35 0 = some (0, 2, true) := by kernel_rfl
theorem hminus2_ok (a b : RQ) (ha : SzQ (2 ^ 34) a) (hb : SzQ (2 ^ 34) b) (h0 : nv a.2 ≠ 0) (h1 : nv b.2 ≠ 0) : AC Tryz.prog 41 [cqq a, cqq b] none [cqz (qv a - qv b)] := by
  have n := hnot_ok b (hb.mono (by omega)) h1
  have z := qz_raw hb h1
  have zn : qz (-qv b) ≤ 2 ^ 34 := by
    exact ((CD.ofRat (qv b)).neg.mono (Nat.le_trans (qz_parts (qv b)).1 z)).size (qv b).den_nz (Nat.le_trans (qz_parts (qv b)).2 z)
  have p := hplus_ok a (crat (-qv b)) (ha.mono (by omega)) (szq_crat (by omega)) h0 (nv_crat0 _)
  rw [qv_crat, ← Rat.sub_eq_add_neg] at p
  refine AC.by_walk (rs := [.cell 4 35]) ords Tryz.func41 (by rfl) (by rfl) (by rfl) (by rfl) (by rfl) ?_
  simp (disch := omega) only [wk, tis, Int.reduceNe, Int.reduceEq, Int.reduceLT, Int.reduceLE, Int.reduceAdd, Int.reduceSub, Int.reduceNeg, Int.reduceMul, Int.reduceToNat, Nat.reduceSub, Nat.reduceMul, Nat.reduceLeDiff, Nat.reduceAdd, Nat.reduceLT, Nat.reduceEqDiff, reduceCtorEq, ↓reduceIte, rqs, fldRat0]
  refine ⟨tmps_by (by kernel_rfl), ?_⟩
  refine call_by (n) (by rfl) (by simp) ?_
  simp (disch := omega) only [wk, tis, Int.reduceNe, Int.reduceEq, Int.reduceLT, Int.reduceLE, Int.reduceAdd, Int.reduceSub, Int.reduceNeg, Int.reduceMul, Int.reduceToNat, Nat.reduceSub, Nat.reduceMul, Nat.reduceLeDiff, Nat.reduceAdd, Nat.reduceLT, Nat.reduceEqDiff, reduceCtorEq, ↓reduceIte, rqs, fldRat0]
  refine call_by (p) (by rfl) (by simp) ?_
  simp (disch := omega) only [wk, tis, Int.reduceNe, Int.reduceEq, Int.reduceLT, Int.reduceLE, Int.reduceAdd, Int.reduceSub, Int.reduceNeg, Int.reduceMul, Int.reduceToNat, Nat.reduceSub, Nat.reduceMul, Nat.reduceLeDiff, Nat.reduceAdd, Nat.reduceLT, Nat.reduceEqDiff, reduceCtorEq, ↓reduceIte, rqs, fldRat0]
  first | exact log_by (by kernel_rfl) | refine ⟨log_by (by kernel_rfl), ?_⟩
  try rfl
theorem horder_ok (a b : RQ) (ha : SzQ (2 ^ 34) a) (hb : SzQ (2 ^ 34) b) (h0 : nv a.2 ≠ 0) (h1 : nv b.2 ≠ 0) : AC Tryz.prog 15 [cqq a, cqq b] none [ci (sgq (qv a - qv b))] := by
  have m := hminus2_ok a b ha hb h0 h1
  have z1 := qz_raw ha h0
  have z2 := qz_raw hb h1
  have zs : qz (qv a - qv b) ≤ 2 ^ 36 := by
    have zn : qz (-qv b) ≤ 2 ^ 34 := ((CD.ofRat (qv b)).neg.mono (Nat.le_trans (qz_parts (qv b)).1 z2)).size (qv b).den_nz (Nat.le_trans (qz_parts (qv b)).2 z2)
    have := qz_add (qv a) (-qv b)
    rw [Rat.sub_eq_add_neg]
    omega
  have s := rSign_ok (crat (qv a - qv b)).1 ((szq_crat zs).1.mono (by omega))
  rw [sgq_qv (nv_crat0 _), qv_crat] at s
  refine AC.by_walk (rs := [.tmp 4]) ords Tryz.func15 (by rfl) (by rfl) (by rfl) (by rfl) (by rfl) ?_
  simp (disch := omega) only [wk, tis, Int.reduceNe, Int.reduceEq, Int.reduceLT, Int.reduceLE, Int.reduceAdd, Int.reduceSub, Int.reduceNeg, Int.reduceMul, Int.reduceToNat, Nat.reduceSub, Nat.reduceMul, Nat.reduceLeDiff, Nat.reduceAdd, Nat.reduceLT, Nat.reduceEqDiff, reduceCtorEq, ↓reduceIte, rqs, fldRat0]
  refine call_by (m) (by rfl) (by simp) ?_
  simp (disch := omega) only [wk, tis, Int.reduceNe, Int.reduceEq, Int.reduceLT, Int.reduceLE, Int.reduceAdd, Int.reduceSub, Int.reduceNeg, Int.reduceMul, Int.reduceToNat, Nat.reduceSub, Nat.reduceMul, Nat.reduceLeDiff, Nat.reduceAdd, Nat.reduceLT, Nat.reduceEqDiff, reduceCtorEq, ↓reduceIte, rqs, fldRat0]
  refine call_by (s) (by rfl) (by simp) ?_
  simp (disch := omega) only [wk, tis, Int.reduceNe, Int.reduceEq, Int.reduceLT, Int.reduceLE, Int.reduceAdd, Int.reduceSub, Int.reduceNeg, Int.reduceMul, Int.reduceToNat, Nat.reduceSub, Nat.reduceMul, Nat.reduceLeDiff, Nat.reduceAdd, Nat.reduceLT, Nat.reduceEqDiff, reduceCtorEq, ↓reduceIte, rqs, fldRat0]
  try rfl
end Go.Proofs.YtcocppjgbcbndaaGreat

namespace Go.Proofs.YtcocppjgbcbndaaGreat
open Go Go.Proofs Go.AL
set_option linter.unusedSimpArgs false
set_option linter.unusedVariables false
def rootr (l : List (Int × Int)) : List (List IV) := l.map fun r => [.int .i64 r.1, .int .i64 r.2]
theorem rootr_len (l : List (Int × Int)) : (rootr l).length = l.length := by simp [rootr]
theorem rootr_get {l : List (Int × Int)} {i : Nat} (h : i < l.length) : (rootr l).getD i [] = [.int .i64 (l.getD i (0, 0)).1, .int .i64 (l.getD i (0, 0)).2] := by simp [rootr, List.getD, h]
theorem rootr_rows (l : List (Int × Int)) : (∀ r ∈ rootr l, r.length = 2) ↔ True := by
  simp only [iff_true]
  intro r hr
  obtain ⟨x, _, rfl⟩ := List.mem_map.1 hr
  rfl
abbrev kn (R : List (Int × Int)) (Q : List Int) (f : Int) : List IV := [.sl (rootr R), .sl (ilims Q), .int .i64 f]
def rnn (n : Int) : Int := n.tmod 60
def rdn (d : Int) : Nat := ((IntKind.u64.wrap d).tmod 6).toNat + 1
theorem tmod_lt (n m : Int) (h : 0 < m) : -m < n.tmod m ∧ n.tmod m < m := by
  have h1 : (n.tmod m).natAbs < m.natAbs := by
    rw [Int.natAbs_tmod]
    exact Nat.mod_lt _ (by omega)
  omega
theorem isq (x : Int) : 0 ≤ x * x := by
  rw [← Int.natAbs_mul_self]
  omega
theorem rnn_lt (n : Int) : -60 < rnn n ∧ rnn n < 60 := tmod_lt n 60 (by omega)
theorem u64_nonneg (d : Int) : 0 ≤ IntKind.u64.wrap d := by
  unfold IntKind.wrap
  simp
  first | omega | exact Int.emod_nonneg _ (by decide)
theorem rdn_eq (d : Int) : ∃ m : Nat, m ≤ 5 ∧ (IntKind.u64.wrap d).tmod 6 = (m : Int) ∧ rdn d = m + 1 := by
  have h := u64_nonneg d
  have h2 := tmod_lt (IntKind.u64.wrap d) 6 (by omega)
  have h3 : 0 ≤ (IntKind.u64.wrap d).tmod 6 := Int.tmod_nonneg 6 h
  refine ⟨((IntKind.u64.wrap d).tmod 6).toNat, by omega, by omega, rfl⟩
def rtq (r : Int × Int) : Rat := (rnn r.1 : Rat) / (rdn r.2 : Rat)
def rt (r : Int × Int) : Int × Int := ((rtq r).num, ((rtq r).den : Int))
theorem rtq_z (r : Int × Int) : qz (rtq r) ≤ 1 := by
  obtain ⟨m, hm, _, e⟩ := rdn_eq r.2
  have h := rnn_lt r.1
  unfold rtq
  rw [← Rat.mkRat_eq_div]
  refine qz_mk (by omega) (zl_le.mpr (by rw [Nat.pow_one]; simp only [W]; omega)) (wd_len_le.mpr (by rw [Nat.pow_one]; simp only [W]; omega))
theorem rtq_sign (r : Int × Int) (c : Int) : sgq (rtq r - (c : Rat)) = (rnn r.1 - c * (rdn r.2 : Int)).sign ∧ sgq ((c : Rat) - rtq r) = (c * (rdn r.2 : Int) - rnn r.1).sign := by
  obtain ⟨m, _, _, e⟩ := rdn_eq r.2
  have hp : (0 : Rat) < (rdn r.2 : Rat) := Rat.natCast_pos.mpr (by omega)
  have hx : rtq r * (rdn r.2 : Rat) = (rnn r.1 : Rat) := Rat.div_mul_cancel (Rat.ne_of_gt hp)
  constructor
  · have h1 := sgq_mul (rtq r - (c : Rat)) (rdn r.2 : Rat)
    rw [sgq_pos hp, Int.mul_one] at h1
    rw [← h1, ← sgq_int]
    congr 1
    rw [Rat.intCast_sub, Rat.intCast_mul, Rat.intCast_natCast, ← hx]
    grind
  · have h1 := sgq_mul ((c : Rat) - rtq r) (rdn r.2 : Rat)
    rw [sgq_pos hp, Int.mul_one] at h1
    rw [← h1, ← sgq_int]
    congr 1
    rw [Rat.intCast_sub, Rat.intCast_mul, Rat.intCast_natCast, ← hx]
    grind
theorem rat_ok (r : Int × Int) : AC Tryz.prog 14 [.agg [.int .i64 r.1, .int .i64 r.2]] none [cqz (rtq r)] := by
  obtain ⟨m, hm, e1, e2⟩ := rdn_eq r.2
  have hb := rnn_lt r.1
  have p := hP_ok (rnn r.1) (m + 1) (by omega) (by omega) (by omega) (by omega)
  rw [show ((rnn r.1 : Int) : Rat) / ((m + 1 : Nat) : Rat) = rtq r by rw [rtq, e2]] at p
  have e3 : r.1.tmod 60 = rnn r.1 := rfl
  have e4 : (1 : Int) + (m : Int) = ((m + 1 : Nat) : Int) := by omega
  refine AC.by_walk (rs := [.cell 2 35]) ords Tryz.func14 (by rfl) (by rfl) (by rfl) (by rfl) (by rfl) ?_
  simp (disch := omega) only [wk, tis, Int.reduceNe, Int.reduceEq, Int.reduceLT, Int.reduceLE, Int.reduceAdd, Int.reduceSub, Int.reduceNeg, Int.reduceMul, Int.reduceToNat, Nat.reduceSub, Nat.reduceMul, Nat.reduceLeDiff, Nat.reduceAdd, Nat.reduceLT, Nat.reduceEqDiff, reduceCtorEq, ↓reduceIte, rqs, Bool.true_beq, Bool.false_beq, Bool.not_true, Bool.not_false, rootr_len, rootr_get, rootr_rows, fldRat0, e1, e3, e4]
  refine call_by (p) (by first | rfl | (simp only [tocvs, tocv, e1, e3, e4]; rfl) | (simp only [tocvs, tocv, toboxes, tobox, updH_at, Nat.reduceEqDiff, ↓reduceIte, e1, e3, e4]; rfl)) (by simp) ?_
  simp (disch := omega) only [wk, tis, Int.reduceNe, Int.reduceEq, Int.reduceLT, Int.reduceLE, Int.reduceAdd, Int.reduceSub, Int.reduceNeg, Int.reduceMul, Int.reduceToNat, Nat.reduceSub, Nat.reduceMul, Nat.reduceLeDiff, Nat.reduceAdd, Nat.reduceLT, Nat.reduceEqDiff, reduceCtorEq, ↓reduceIte, rqs, Bool.true_beq, Bool.false_beq, Bool.not_true, Bool.not_false, rootr_len, rootr_get, rootr_rows, fldRat0, e1, e3, e4]
  try rfl
def frc (f : Int) : Int := if f.tmod 9 = -1 then -7 else 1 + f.tmod 9
theorem frc_ne (f : Int) : frc f ≠ 0 ∧ -9 < frc f ∧ frc f < 10 := by
  have := tmod_lt f 9 (by omega)
  unfold frc
  split <;> omega
def qsl (c : Int) (A : List (Int × Int)) (k : Nat) : List Int := (A.take k).foldl (fun q r => pmul q (rf r)) [c]
def pfl (c : Int) : List Int := [c * c + 1, c, 1]
def wsl (q : List Int) (C : List Int) (k : Nat) : List Int := (C.take k).foldl (fun q c => pmul q (pfl c)) q
theorem qsl_succ {c : Int} {A : List (Int × Int)} {k : Nat} (h : k < A.length) : qsl c A (k + 1) = pmul (qsl c A k) (rf (A.getD k (0, 1))) := by
  have : A.take (k + 1) = A.take k ++ [A.getD k (0, 1)] := by rw [List.take_add_one]; congr 1; simp [List.getD, h]
  rw [qsl, this, List.foldl_append]; rfl
theorem wsl_succ {q C : List Int} {k : Nat} (h : k < C.length) : wsl q C (k + 1) = pmul (wsl q C k) (pfl (C.getD k 0)) := by
  rw [wsl, takei_snoc h, List.foldl_append]; rfl
theorem qsl_pb {c : Int} {A : List (Int × Int)} (hc : zl c ≤ 1) (hA : ∀ i, zl (A.getD i (0, 1)).1 ≤ 1 ∧ zl (A.getD i (0, 1)).2 ≤ 1) : ∀ k, k ≤ A.length → k ≤ 100 → PB (1 + 2 * k) (1 + 2 * k) (qsl c A k)
  | 0, _, _ => ⟨by show 1 ≤ 1; omega, fun z hz => by rw [List.mem_singleton.1 hz]; omega⟩
  | k + 1, h, h2 => by
    rw [qsl_succ (by omega)]
    have hr : PB 2 1 (rf (A.getD k (0, 1))) := ⟨by show 2 ≤ 2; omega, fun z hz => by
      rcases List.mem_cons.1 hz with rfl | hz
      · rw [zl_neg]; exact (hA k).1
      · rw [List.mem_singleton.1 hz]; exact (hA k).2⟩
    exact ((qsl_pb hc hA k (by omega) (by omega)).pmul hr (by simp only [W]; omega)).mono (by omega) (by omega)
theorem wsl_pb {q C : List Int} {n : Nat} (hq : PB n n q) (hn : n ≤ 1000) (hC : ∀ i, -20 < C.getD i 0 ∧ C.getD i 0 < 20) : ∀ k, k ≤ C.length → k ≤ 100 → PB (n + 3 * k) (n + 2 * k) (wsl q C k)
  | 0, _, _ => by
    have : wsl q C 0 = q := rfl
    rw [this]; exact hq.mono (by omega) (by omega)
  | k + 1, h, h2 => by
    rw [wsl_succ (by omega)]
    have hb := hC k
    have h3 : 0 ≤ C.getD k 0 * C.getD k 0 ∧ C.getD k 0 * C.getD k 0 ≤ 400 := by
      generalize C.getD k 0 = x at hb
      constructor
      · exact isq x
      · have h1 : x.natAbs * x.natAbs ≤ 20 * 20 := Nat.mul_le_mul (by omega) (by omega)
        have h2 : x * x = ((x.natAbs * x.natAbs : Nat) : Int) := Int.natAbs_mul_self.symm
        omega
    have hr : PB 3 1 (pfl (C.getD k 0)) := ⟨by show 3 ≤ 3; omega, fun z hz => zl_le.mpr (by
      rw [Nat.pow_one]
      simp only [W]
      simp only [pfl, List.mem_cons, List.not_mem_nil, or_false] at hz
      rcases hz with rfl | rfl | rfl <;> omega)⟩
    exact ((wsl_pb hq hn hC k (by omega) (by omega)).pmul hr (by simp only [W]; omega)).mono (by omega) (by omega)
def rts (R : List (Int × Int)) : List (Int × Int) := (R.take 6).map rt
def prs2 (Q : List Int) : List Int := (Q.take 2).map fun c => c.tmod 20
def kp (R : List (Int × Int)) (Q : List Int) (f : Int) : List Int := wsl (qsl (frc f) (rts R) (rts R).length) (prs2 Q) (prs2 Q).length
theorem rts_len (R : List (Int × Int)) : (rts R).length = min 6 R.length := by simp [rts]
theorem prs2_len (Q : List Int) : (prs2 Q).length = min 2 Q.length := by simp [prs2]
theorem rts_get {R : List (Int × Int)} {i : Nat} (h : i < R.length) (h6 : i < 6) : (rts R).getD i (0, 1) = rt (R.getD i (0, 0)) := by
  simp [rts, List.getD, List.getElem?_take, h6, h]
theorem prs2_get {Q : List Int} {i : Nat} (h : i < Q.length) (h2 : i < 2) : (prs2 Q).getD i 0 = (Q.getD i 0).tmod 20 := by
  simp [prs2, List.getD, List.getElem?_take, h2, h]
theorem rt_z (r : Int × Int) : zl (rt r).1 ≤ 1 ∧ zl (rt r).2 ≤ 1 := by
  have h := qz_parts (rtq r)
  have h2 := rtq_z r
  refine ⟨Nat.le_trans h.1 h2, ?_⟩
  show zl ((rtq r).den : Int) ≤ 1
  rw [zl_nat]
  exact Nat.le_trans h.2 h2
theorem rts_z (R : List (Int × Int)) (i : Nat) : zl ((rts R).getD i (0, 1)).1 ≤ 1 ∧ zl ((rts R).getD i (0, 1)).2 ≤ 1 := by
  by_cases h : i < R.length ∧ i < 6
  · rw [rts_get h.1 h.2]; exact rt_z _
  · have : (rts R).getD i (0, 1) = (0, 1) := by
      rw [List.getD, List.getElem?_eq_none (by rw [rts_len]; omega)]; rfl
    rw [this]
    exact ⟨by decide +kernel, by decide +kernel⟩
theorem prs2_b (Q : List Int) (i : Nat) : -20 < (prs2 Q).getD i 0 ∧ (prs2 Q).getD i 0 < 20 := by
  by_cases h : i < Q.length ∧ i < 2
  · rw [prs2_get h.1 h.2]; exact tmod_lt _ 20 (by omega)
  · have : (prs2 Q).getD i 0 = 0 := by
      rw [List.getD, List.getElem?_eq_none (by rw [prs2_len]; omega)]; rfl
    rw [this]; omega
theorem cpoly_one' {c : Int} (h : c ≠ 0) : cpoly [c] = raws [canon c] := by
  unfold cpoly
  have : trimz [c] = [c] := by
    have := tz_spec (q := [c]) (n := 0) h fun k hk => cf_ge (by show 1 ≤ k; omega)
    rw [trimz, this]; rfl
  rw [this]; rfl
theorem lay_den (d : List Nat) : lay (fun i => [(0, 1), (1, 1)][i]?) [.bool false, .sl []] ([1].zip [[.sl (lims d)]]) = some ((1 = 1 ∧ 1 + 1 ≤ 2) ∧ True, prow (false, d)) := rfl
theorem two_rows (a b : RI) : [prow a, prow b] = raws [a, b] := rfl
theorem ilims1 (a : Int) : [[IV.int .i64 a]] = ilims [a] := rfl
theorem ilims3 (a b c : Int) : [[IV.int .i64 a], [IV.int .i64 b], [IV.int .i64 c]] = ilims [a, b, c] := rfl
set_option maxRecDepth 100000 in
theorem kpoly_ok (R : List (Int × Int)) (Q : List Int) (ft : Int) (hR : R.length ≤ 9223372036854775807) (hQ : Q.length ≤ 9223372036854775807) : AC Tryz.prog 7 [.agg (kn R Q ft)] none [cp (kp R Q ft)] := by
  have hr1 : List.range 1 = [0] := rfl
  have hr3 : List.range 3 = [0, 1, 2] := rfl
  have hir : ∀ l : List Int, (∀ r ∈ ilims l, r.length = 1) ↔ True := fun l => by simp [ilims]
  have hil : ∀ l : List Int, (ilims l).length = l.length := fun l => by simp [ilims]
  obtain ⟨hf0, hf1, hf2⟩ := frc_ne ft
  have hfb := tmod_lt ft 9 (by omega)
  have hrl := rts_len R
  have hpl := prs2_len Q
  have zc : zl (frc ft) ≤ 1 := zl_le.mpr (by rw [Nat.pow_one]; simp only [W]; omega)
  have p0 := poly16_ok [1 + ft.tmod 9] (by simp) (fun z hz => by rw [List.mem_singleton.1 hz]; omega)
  have p7 := poly16_ok [-7] (by decide) (fun z hz => by rw [List.mem_singleton.1 hz]; omega)
  have e0 : raws [canon (frc ft)] = cpoly (qsl (frc ft) (rts R) 0) := (cpoly_one' hf0).symm
  rw [kp]
  refine AC.by_walk (rs := [.tmp 2]) ords Tryz.func7 (by rfl) (by rfl) (by rfl) (by rfl) (by rfl) ?_
  simp (disch := omega) only [wk, tis, Int.reduceNe, Int.reduceEq, Int.reduceLT, Int.reduceLE, Int.reduceAdd, Int.reduceSub, Int.reduceNeg, Int.reduceMul, Int.reduceToNat, Nat.reduceSub, Nat.reduceMul, Nat.reduceLeDiff, Nat.reduceAdd, Nat.reduceLT, Nat.reduceEqDiff, reduceCtorEq, ↓reduceIte, rqs, Bool.true_beq, Bool.false_beq, Bool.not_true, Bool.not_false, rootr_len, rootr_get, rootr_rows, fldRat0, ilims1, hr1, hir, hil]
  refine call_by (p0) (by first | rfl | (simp only [tocvs, tocv, ilims1, hr1, hir, hil]; rfl) | (simp only [tocvs, tocv, toboxes, tobox, updH_at, Nat.reduceEqDiff, ↓reduceIte, ilims1, hr1, hir, hil]; rfl)) (by simp) ?_
  simp (disch := omega) only [wk, tis, Int.reduceNe, Int.reduceEq, Int.reduceLT, Int.reduceLE, Int.reduceAdd, Int.reduceSub, Int.reduceNeg, Int.reduceMul, Int.reduceToNat, Nat.reduceSub, Nat.reduceMul, Nat.reduceLeDiff, Nat.reduceAdd, Nat.reduceLT, Nat.reduceEqDiff, reduceCtorEq, ↓reduceIte, rqs, Bool.true_beq, Bool.false_beq, Bool.not_true, Bool.not_false, rootr_len, rootr_get, rootr_rows, fldRat0, ilims1, hr1, hir, hil]
  refine if_cut (fun f1 H => f1 3 = .iv (.sl (cpoly (qsl (frc ft) (rts R) 0))) ∧ f1 1 = .hp 1 1 0 0 ∧ H 1 = .blk false 1 25 3 [kn R Q ft]) ?_ ?_
  · refine if_by (fun h => ?_) (fun h => ?_)
    · have e7 : raws [canon (-7)] = cpoly (qsl (frc ft) (rts R) 0) := by rw [← e0, frc, if_pos h]
      simp (disch := omega) only [wk, tis, Int.reduceNe, Int.reduceEq, Int.reduceLT, Int.reduceLE, Int.reduceAdd, Int.reduceSub, Int.reduceNeg, Int.reduceMul, Int.reduceToNat, Nat.reduceSub, Nat.reduceMul, Nat.reduceLeDiff, Nat.reduceAdd, Nat.reduceLT, Nat.reduceEqDiff, reduceCtorEq, ↓reduceIte, rqs, Bool.true_beq, Bool.false_beq, Bool.not_true, Bool.not_false, rootr_len, rootr_get, rootr_rows, fldRat0, ilims1, hr1, hir, hil, h]
      refine call_by (p7) (by first | rfl | (simp only [tocvs, tocv, ilims1, hr1, hir, hil, h]; rfl) | (simp only [tocvs, tocv, toboxes, tobox, updH_at, Nat.reduceEqDiff, ↓reduceIte, ilims1, hr1, hir, hil, h]; rfl)) (by simp) ?_
      simp (disch := omega) only [wk, tis, Int.reduceNe, Int.reduceEq, Int.reduceLT, Int.reduceLE, Int.reduceAdd, Int.reduceSub, Int.reduceNeg, Int.reduceMul, Int.reduceToNat, Nat.reduceSub, Nat.reduceMul, Nat.reduceLeDiff, Nat.reduceAdd, Nat.reduceLT, Nat.reduceEqDiff, reduceCtorEq, ↓reduceIte, rqs, Bool.true_beq, Bool.false_beq, Bool.not_true, Bool.not_false, rootr_len, rootr_get, rootr_rows, fldRat0, ilims1, hr1, hir, hil, h]
      first | exact e7 | rw [e7]
    · have e1 : raws [canon (1 + ft.tmod 9)] = cpoly (qsl (frc ft) (rts R) 0) := by rw [← e0, frc, if_neg h]
      simp (disch := omega) only [wk, tis, Int.reduceNe, Int.reduceEq, Int.reduceLT, Int.reduceLE, Int.reduceAdd, Int.reduceSub, Int.reduceNeg, Int.reduceMul, Int.reduceToNat, Nat.reduceSub, Nat.reduceMul, Nat.reduceLeDiff, Nat.reduceAdd, Nat.reduceLT, Nat.reduceEqDiff, reduceCtorEq, ↓reduceIte, rqs, Bool.true_beq, Bool.false_beq, Bool.not_true, Bool.not_false, rootr_len, rootr_get, rootr_rows, fldRat0, h]
      first | exact e1 | rw [e1]
  rintro f1 H ⟨h3, h1, hH⟩
  simp (disch := omega) only [wk, tis, Int.reduceNe, Int.reduceEq, Int.reduceLT, Int.reduceLE, Int.reduceAdd, Int.reduceSub, Int.reduceNeg, Int.reduceMul, Int.reduceToNat, Nat.reduceSub, Nat.reduceMul, Nat.reduceLeDiff, Nat.reduceAdd, Nat.reduceLT, Nat.reduceEqDiff, reduceCtorEq, ↓reduceIte, rqs, Bool.true_beq, Bool.false_beq, Bool.not_true, Bool.not_false, rootr_len, rootr_get, rootr_rows, fldRat0, h3, h1, hH]
  refine aloop_by (fun f H => ∃ (i : Nat), i ≤ (rts R).length ∧ f 4 = .iv (.int .i64 i) ∧ f 1 = .hp 1 1 0 0 ∧ H 1 = .blk false 1 25 3 [kn R Q ft] ∧ f 3 = .iv (.sl (cpoly (qsl (frc ft) (rts R) i)))) (fun f H => ((rts R).length - intAt f 4).toNat) ?_ ?_
  · refine ⟨0, by omega, ?_⟩
    simp (disch := omega) only [wk, tis, Int.reduceNe, Int.reduceEq, Int.reduceLT, Int.reduceLE, Int.reduceAdd, Int.reduceSub, Int.reduceNeg, Int.reduceMul, Int.reduceToNat, Nat.reduceSub, Nat.reduceMul, Nat.reduceLeDiff, Nat.reduceAdd, Nat.reduceLT, Nat.reduceEqDiff, reduceCtorEq, ↓reduceIte, rqs, Bool.true_beq, Bool.false_beq, Bool.not_true, Bool.not_false, rootr_len, rootr_get, rootr_rows, fldRat0, h3, h1, hH]
  rintro f H ⟨i, hi, hF⟩
  rw [intAt_of hF.1]
  simp (disch := omega) only [wk, tis, Int.reduceNe, Int.reduceEq, Int.reduceLT, Int.reduceLE, Int.reduceAdd, Int.reduceSub, Int.reduceNeg, Int.reduceMul, Int.reduceToNat, Nat.reduceSub, Nat.reduceMul, Nat.reduceLeDiff, Nat.reduceAdd, Nat.reduceLT, Nat.reduceEqDiff, reduceCtorEq, ↓reduceIte, rqs, Bool.true_beq, Bool.false_beq, Bool.not_true, Bool.not_false, rootr_len, rootr_get, rootr_rows, fldRat0, hF]
  by_cases hlt : i < (rts R).length
  · have c1 : i < R.length := by omega
    have c2 : i < 6 := by omega
    have c1' : (i : Int) < (R.length : Int) := by omega
    have c2' : (i : Int) < 6 := by omega
    have a := rat_ok (R.getD i (0, 0))
    have eg := rts_get c1 c2
    have ez := rt_z (R.getD i (0, 0))
    have en : iv (crat (rtq (R.getD i (0, 0)))).1 = (rtq (R.getD i (0, 0))).num := iv_crat _
    have nn := zneg_ok (crat (rtq (R.getD i (0, 0)))).1 ((szq_crat (rtq_z _)).1.mono (by omega))
    rw [en] at nn
    have qb := qsl_pb zc (rts_z R) i hi (by omega)
    have m := pmul_g (a := cn (qsl (frc ft) (rts R) i)) (b := [canon (-(rtq (R.getD i (0, 0))).num), (false, wd (rtq (R.getD i (0, 0))).den)]) (q := qsl (frc ft) (rts R) i) (r := rf (rt (R.getD i (0, 0)))) (rp_cn (qb.mono (by omega) (by omega))) ⟨by simp, fun c hc => by
      simp only [List.mem_cons, List.not_mem_nil, or_false] at hc
      rcases hc with rfl | rfl
      · exact (sz_canon _).mono (by rw [zl_neg]; exact Nat.le_trans ez.1 (by omega))
      · exact ⟨Nat.le_trans (show (wd (rtq (R.getD i (0, 0))).den).length ≤ 1 from ez.2) (by omega), lim_wd _⟩⟩ (ps_cn _) (by
      show ps [iv (canon (-(rtq (R.getD i (0, 0))).num)), iv (false, wd (rtq (R.getD i (0, 0))).den)] = _
      rw [iv_canon, iv_sg, nv_wd]; rfl)
    rw [← eg, ← qsl_succ hlt] at m
    have hld := lay_den (wd (rtq (R.getD i (0, 0))).den)
    have htr := two_rows (canon (-(rtq (R.getD i (0, 0))).num)) (false, wd (rtq (R.getD i (0, 0))).den)
    have hc2 : (crat (rtq (R.getD i (0, 0)))).2 = wd (rtq (R.getD i (0, 0))).den := rfl
    simp (disch := omega) only [wk, tis, Int.reduceNe, Int.reduceEq, Int.reduceLT, Int.reduceLE, Int.reduceAdd, Int.reduceSub, Int.reduceNeg, Int.reduceMul, Int.reduceToNat, Nat.reduceSub, Nat.reduceMul, Nat.reduceLeDiff, Nat.reduceAdd, Nat.reduceLT, Nat.reduceEqDiff, reduceCtorEq, ↓reduceIte, rqs, Bool.true_beq, Bool.false_beq, Bool.not_true, Bool.not_false, rootr_len, rootr_get, rootr_rows, fldRat0, hF, c1', c2']
    refine call_by (a) (by first | rfl | (simp only [tocvs, tocv, hF, c1', c2']; rfl) | (simp only [tocvs, tocv, toboxes, tobox, updH_at, Nat.reduceEqDiff, ↓reduceIte, hF, c1', c2']; rfl)) (by simp) ?_
    simp (disch := omega) only [wk, tis, Int.reduceNe, Int.reduceEq, Int.reduceLT, Int.reduceLE, Int.reduceAdd, Int.reduceSub, Int.reduceNeg, Int.reduceMul, Int.reduceToNat, Nat.reduceSub, Nat.reduceMul, Nat.reduceLeDiff, Nat.reduceAdd, Nat.reduceLT, Nat.reduceEqDiff, reduceCtorEq, ↓reduceIte, rqs, Bool.true_beq, Bool.false_beq, Bool.not_true, Bool.not_false, rootr_len, rootr_get, rootr_rows, fldRat0, hF, c1', c2']
    refine ⟨tmps_by (by kernel_rfl), ?_⟩
    refine call_by (nn) (by first | rfl | (simp only [tocvs, tocv, hF, hc2, hld, htr]; rfl) | (simp only [tocvs, tocv, toboxes, tobox, updH_at, Nat.reduceEqDiff, ↓reduceIte, hF, hc2, hld, htr]; rfl)) (by simp) ?_
    simp (disch := omega) only [wk, tis, Int.reduceNe, Int.reduceEq, Int.reduceLT, Int.reduceLE, Int.reduceAdd, Int.reduceSub, Int.reduceNeg, Int.reduceMul, Int.reduceToNat, Nat.reduceSub, Nat.reduceMul, Nat.reduceLeDiff, Nat.reduceAdd, Nat.reduceLT, Nat.reduceEqDiff, reduceCtorEq, ↓reduceIte, rqs, Bool.true_beq, Bool.false_beq, Bool.not_true, Bool.not_false, rootr_len, rootr_get, rootr_rows, fldRat0, hF, hc2, hld, htr]
    refine call_by (m) (by first | rfl | (simp only [tocvs, tocv, hF, hc2, hld, htr]; rfl) | (simp only [tocvs, tocv, toboxes, tobox, updH_at, Nat.reduceEqDiff, ↓reduceIte, hF, hc2, hld, htr]; rfl)) (by simp) ?_
    simp (disch := omega) only [wk, tis, Int.reduceNe, Int.reduceEq, Int.reduceLT, Int.reduceLE, Int.reduceAdd, Int.reduceSub, Int.reduceNeg, Int.reduceMul, Int.reduceToNat, Nat.reduceSub, Nat.reduceMul, Nat.reduceLeDiff, Nat.reduceAdd, Nat.reduceLT, Nat.reduceEqDiff, reduceCtorEq, ↓reduceIte, rqs, Bool.true_beq, Bool.false_beq, Bool.not_true, Bool.not_false, rootr_len, rootr_get, rootr_rows, fldRat0, hF, hc2, hld, htr]
    first | exact log_by (by kernel_rfl) | refine ⟨log_by (by kernel_rfl), ?_⟩
    refine ⟨⟨i + 1, by omega, ?_⟩, by omega⟩
    (repeat' apply And.intro) <;> first | rfl | omega
  have hie : i = (rts R).length := by omega
  subst hie
  have w0 : cpoly (qsl (frc ft) (rts R) (rts R).length) = cpoly (wsl (qsl (frc ft) (rts R) (rts R).length) (prs2 Q) 0) := rfl
  have qb := qsl_pb zc (rts_z R) (rts R).length (Nat.le_refl _) (by omega)
  have qb' : PB 100 100 (qsl (frc ft) (rts R) (rts R).length) := qb.mono (by omega) (by omega)
  by_cases g1 : (rts R).length < R.length
  · have g2 : ¬ (rts R).length < 6 := by omega
    have g1' : (((rts R).length : Nat) : Int) < (R.length : Int) := by omega
    have g2' : ¬ (((rts R).length : Nat) : Int) < 6 := by omega
    simp (disch := omega) only [wk, tis, Int.reduceNe, Int.reduceEq, Int.reduceLT, Int.reduceLE, Int.reduceAdd, Int.reduceSub, Int.reduceNeg, Int.reduceMul, Int.reduceToNat, Nat.reduceSub, Nat.reduceMul, Nat.reduceLeDiff, Nat.reduceAdd, Nat.reduceLT, Nat.reduceEqDiff, reduceCtorEq, ↓reduceIte, rqs, Bool.true_beq, Bool.false_beq, Bool.not_true, Bool.not_false, rootr_len, rootr_get, rootr_rows, fldRat0, hF, g1', g2']
    rw [w0] at hF
    generalize qsl (frc ft) (rts R) (rts R).length = q0' at *
    refine aloop_by (fun f H => ∃ (j : Nat), j ≤ (prs2 Q).length ∧ f 6 = .iv (.int .i64 j) ∧ f 1 = .hp 1 1 0 0 ∧ H 1 = .blk false 1 25 3 [kn R Q ft] ∧ f 3 = .iv (.sl (cpoly (wsl q0' (prs2 Q) j)))) (fun f H => ((prs2 Q).length - intAt f 6).toNat) ?_ ?_
    · refine ⟨0, by omega, ?_⟩
      simp (disch := omega) only [wk, tis, Int.reduceNe, Int.reduceEq, Int.reduceLT, Int.reduceLE, Int.reduceAdd, Int.reduceSub, Int.reduceNeg, Int.reduceMul, Int.reduceToNat, Nat.reduceSub, Nat.reduceMul, Nat.reduceLeDiff, Nat.reduceAdd, Nat.reduceLT, Nat.reduceEqDiff, reduceCtorEq, ↓reduceIte, rqs, Bool.true_beq, Bool.false_beq, Bool.not_true, Bool.not_false, rootr_len, rootr_get, rootr_rows, fldRat0, hF]
    rintro f H ⟨j, hj, hF⟩
    rw [intAt_of hF.1]
    simp (disch := omega) only [wk, tis, Int.reduceNe, Int.reduceEq, Int.reduceLT, Int.reduceLE, Int.reduceAdd, Int.reduceSub, Int.reduceNeg, Int.reduceMul, Int.reduceToNat, Nat.reduceSub, Nat.reduceMul, Nat.reduceLeDiff, Nat.reduceAdd, Nat.reduceLT, Nat.reduceEqDiff, reduceCtorEq, ↓reduceIte, rqs, Bool.true_beq, Bool.false_beq, Bool.not_true, Bool.not_false, rootr_len, rootr_get, rootr_rows, fldRat0, hF]
    by_cases hlt2 : j < (prs2 Q).length
    · have c1 : j < Q.length := by omega
      have c2 : j < 2 := by omega
      have c1' : (j : Int) < (Q.length : Int) := by omega
      have c2' : (j : Int) < 2 := by omega
      have eg := prs2_get c1 c2
      have hb := prs2_b Q j
      rw [eg] at hb
      have es := wsl_succ (q := q0') hlt2
      rw [eg] at es
      obtain ⟨x, hx⟩ : ∃ x, x = (Q.getD j 0).tmod 20 := ⟨_, rfl⟩
      rw [← hx] at hb es
      have hxx : 0 ≤ x * x ∧ x * x ≤ 400 := by
        refine ⟨isq x, ?_⟩
        have h1 : x.natAbs * x.natAbs ≤ 20 * 20 := Nat.mul_le_mul (by omega) (by omega)
        have h2 : x * x = ((x.natAbs * x.natAbs : Nat) : Int) := Int.natAbs_mul_self.symm
        omega
      have pp := poly16_ok [x * x + 1, x, 1] (by simp) (fun z hz => by
        simp only [List.mem_cons, List.not_mem_nil, or_false] at hz
        rcases hz with rfl | rfl | rfl <;> omega)
      have wb := wsl_pb qb' (by omega) (prs2_b Q) j hj (by omega)
      have m := pmul_g (a := cn (wsl q0' (prs2 Q) j)) (b := [x * x + 1, x, 1].map canon) (q := wsl q0' (prs2 Q) j) (r := pfl x) (rp_cn (wb.mono (by omega) (by omega))) ((rp_small [x * x + 1, x, 1] 3 (by simp) (fun z hz => by
        simp only [List.mem_cons, List.not_mem_nil, or_false] at hz
        simp only [W]
        rcases hz with rfl | rfl | rfl <;> omega)).mono (by omega) (by omega)) (ps_cn _) (by rw [pv_canon]; rfl)
      rw [← es] at m
      simp (disch := omega) only [wk, tis, Int.reduceNe, Int.reduceEq, Int.reduceLT, Int.reduceLE, Int.reduceAdd, Int.reduceSub, Int.reduceNeg, Int.reduceMul, Int.reduceToNat, Nat.reduceSub, Nat.reduceMul, Nat.reduceLeDiff, Nat.reduceAdd, Nat.reduceLT, Nat.reduceEqDiff, reduceCtorEq, ↓reduceIte, rqs, Bool.true_beq, Bool.false_beq, Bool.not_true, Bool.not_false, rootr_len, rootr_get, rootr_rows, fldRat0, hF, c1', c2', ← hx, ilims3, hr3, hir, hil]
      refine call_by (pp) (by first | rfl | (simp only [tocvs, tocv, hF, ilims3, hr3, hir, hil]; rfl) | (simp only [tocvs, tocv, toboxes, tobox, updH_at, Nat.reduceEqDiff, ↓reduceIte, hF, ilims3, hr3, hir, hil]; rfl)) (by simp) ?_
      simp (disch := omega) only [wk, tis, Int.reduceNe, Int.reduceEq, Int.reduceLT, Int.reduceLE, Int.reduceAdd, Int.reduceSub, Int.reduceNeg, Int.reduceMul, Int.reduceToNat, Nat.reduceSub, Nat.reduceMul, Nat.reduceLeDiff, Nat.reduceAdd, Nat.reduceLT, Nat.reduceEqDiff, reduceCtorEq, ↓reduceIte, rqs, Bool.true_beq, Bool.false_beq, Bool.not_true, Bool.not_false, rootr_len, rootr_get, rootr_rows, fldRat0, hF, ilims3, hr3, hir, hil]
      refine call_by (m) (by first | rfl | (simp only [tocvs, tocv, hF]; rfl) | (simp only [tocvs, tocv, toboxes, tobox, updH_at, Nat.reduceEqDiff, ↓reduceIte, hF]; rfl)) (by simp) ?_
      simp (disch := omega) only [wk, tis, Int.reduceNe, Int.reduceEq, Int.reduceLT, Int.reduceLE, Int.reduceAdd, Int.reduceSub, Int.reduceNeg, Int.reduceMul, Int.reduceToNat, Nat.reduceSub, Nat.reduceMul, Nat.reduceLeDiff, Nat.reduceAdd, Nat.reduceLT, Nat.reduceEqDiff, reduceCtorEq, ↓reduceIte, rqs, Bool.true_beq, Bool.false_beq, Bool.not_true, Bool.not_false, rootr_len, rootr_get, rootr_rows, fldRat0, hF]
      refine ⟨⟨j + 1, by omega, ?_⟩, by omega⟩
      (repeat' apply And.intro) <;> first | rfl | omega
    obtain rfl : j = (prs2 Q).length := by omega
    by_cases k1 : (prs2 Q).length < Q.length
    · have k1' : (((prs2 Q).length : Nat) : Int) < (Q.length : Int) := by omega
      have k2' : ¬ (((prs2 Q).length : Nat) : Int) < 2 := by omega
      simp (disch := omega) only [wk, tis, Int.reduceNe, Int.reduceEq, Int.reduceLT, Int.reduceLE, Int.reduceAdd, Int.reduceSub, Int.reduceNeg, Int.reduceMul, Int.reduceToNat, Nat.reduceSub, Nat.reduceMul, Nat.reduceLeDiff, Nat.reduceAdd, Nat.reduceLT, Nat.reduceEqDiff, reduceCtorEq, ↓reduceIte, rqs, Bool.true_beq, Bool.false_beq, Bool.not_true, Bool.not_false, rootr_len, rootr_get, rootr_rows, fldRat0, hF, k1', k2']
      try rfl
    · have k1' : ¬ (((prs2 Q).length : Nat) : Int) < (Q.length : Int) := by omega
      simp (disch := omega) only [wk, tis, Int.reduceNe, Int.reduceEq, Int.reduceLT, Int.reduceLE, Int.reduceAdd, Int.reduceSub, Int.reduceNeg, Int.reduceMul, Int.reduceToNat, Nat.reduceSub, Nat.reduceMul, Nat.reduceLeDiff, Nat.reduceAdd, Nat.reduceLT, Nat.reduceEqDiff, reduceCtorEq, ↓reduceIte, rqs, Bool.true_beq, Bool.false_beq, Bool.not_true, Bool.not_false, rootr_len, rootr_get, rootr_rows, fldRat0, hF, k1']
      try rfl
  · have g1' : ¬ (((rts R).length : Nat) : Int) < (R.length : Int) := by omega
    simp (disch := omega) only [wk, tis, Int.reduceNe, Int.reduceEq, Int.reduceLT, Int.reduceLE, Int.reduceAdd, Int.reduceSub, Int.reduceNeg, Int.reduceMul, Int.reduceToNat, Nat.reduceSub, Nat.reduceMul, Nat.reduceLeDiff, Nat.reduceAdd, Nat.reduceLT, Nat.reduceEqDiff, reduceCtorEq, ↓reduceIte, rqs, Bool.true_beq, Bool.false_beq, Bool.not_true, Bool.not_false, rootr_len, rootr_get, rootr_rows, fldRat0, hF, g1']
    rw [w0] at hF
    generalize qsl (frc ft) (rts R) (rts R).length = q0' at *
    refine aloop_by (fun f H => ∃ (j : Nat), j ≤ (prs2 Q).length ∧ f 6 = .iv (.int .i64 j) ∧ f 1 = .hp 1 1 0 0 ∧ H 1 = .blk false 1 25 3 [kn R Q ft] ∧ f 3 = .iv (.sl (cpoly (wsl q0' (prs2 Q) j)))) (fun f H => ((prs2 Q).length - intAt f 6).toNat) ?_ ?_
    · refine ⟨0, by omega, ?_⟩
      simp (disch := omega) only [wk, tis, Int.reduceNe, Int.reduceEq, Int.reduceLT, Int.reduceLE, Int.reduceAdd, Int.reduceSub, Int.reduceNeg, Int.reduceMul, Int.reduceToNat, Nat.reduceSub, Nat.reduceMul, Nat.reduceLeDiff, Nat.reduceAdd, Nat.reduceLT, Nat.reduceEqDiff, reduceCtorEq, ↓reduceIte, rqs, Bool.true_beq, Bool.false_beq, Bool.not_true, Bool.not_false, rootr_len, rootr_get, rootr_rows, fldRat0, hF]
    rintro f H ⟨j, hj, hF⟩
    rw [intAt_of hF.1]
    simp (disch := omega) only [wk, tis, Int.reduceNe, Int.reduceEq, Int.reduceLT, Int.reduceLE, Int.reduceAdd, Int.reduceSub, Int.reduceNeg, Int.reduceMul, Int.reduceToNat, Nat.reduceSub, Nat.reduceMul, Nat.reduceLeDiff, Nat.reduceAdd, Nat.reduceLT, Nat.reduceEqDiff, reduceCtorEq, ↓reduceIte, rqs, Bool.true_beq, Bool.false_beq, Bool.not_true, Bool.not_false, rootr_len, rootr_get, rootr_rows, fldRat0, hF]
    by_cases hlt2 : j < (prs2 Q).length
    · have c1 : j < Q.length := by omega
      have c2 : j < 2 := by omega
      have c1' : (j : Int) < (Q.length : Int) := by omega
      have c2' : (j : Int) < 2 := by omega
      have eg := prs2_get c1 c2
      have hb := prs2_b Q j
      rw [eg] at hb
      have es := wsl_succ (q := q0') hlt2
      rw [eg] at es
      obtain ⟨x, hx⟩ : ∃ x, x = (Q.getD j 0).tmod 20 := ⟨_, rfl⟩
      rw [← hx] at hb es
      have hxx : 0 ≤ x * x ∧ x * x ≤ 400 := by
        refine ⟨isq x, ?_⟩
        have h1 : x.natAbs * x.natAbs ≤ 20 * 20 := Nat.mul_le_mul (by omega) (by omega)
        have h2 : x * x = ((x.natAbs * x.natAbs : Nat) : Int) := Int.natAbs_mul_self.symm
        omega
      have pp := poly16_ok [x * x + 1, x, 1] (by simp) (fun z hz => by
        simp only [List.mem_cons, List.not_mem_nil, or_false] at hz
        rcases hz with rfl | rfl | rfl <;> omega)
      have wb := wsl_pb qb' (by omega) (prs2_b Q) j hj (by omega)
      have m := pmul_g (a := cn (wsl q0' (prs2 Q) j)) (b := [x * x + 1, x, 1].map canon) (q := wsl q0' (prs2 Q) j) (r := pfl x) (rp_cn (wb.mono (by omega) (by omega))) ((rp_small [x * x + 1, x, 1] 3 (by simp) (fun z hz => by
        simp only [List.mem_cons, List.not_mem_nil, or_false] at hz
        simp only [W]
        rcases hz with rfl | rfl | rfl <;> omega)).mono (by omega) (by omega)) (ps_cn _) (by rw [pv_canon]; rfl)
      rw [← es] at m
      simp (disch := omega) only [wk, tis, Int.reduceNe, Int.reduceEq, Int.reduceLT, Int.reduceLE, Int.reduceAdd, Int.reduceSub, Int.reduceNeg, Int.reduceMul, Int.reduceToNat, Nat.reduceSub, Nat.reduceMul, Nat.reduceLeDiff, Nat.reduceAdd, Nat.reduceLT, Nat.reduceEqDiff, reduceCtorEq, ↓reduceIte, rqs, Bool.true_beq, Bool.false_beq, Bool.not_true, Bool.not_false, rootr_len, rootr_get, rootr_rows, fldRat0, hF, c1', c2', ← hx, ilims3, hr3, hir, hil]
      refine call_by (pp) (by first | rfl | (simp only [tocvs, tocv, hF, ilims3, hr3, hir, hil]; rfl) | (simp only [tocvs, tocv, toboxes, tobox, updH_at, Nat.reduceEqDiff, ↓reduceIte, hF, ilims3, hr3, hir, hil]; rfl)) (by simp) ?_
      simp (disch := omega) only [wk, tis, Int.reduceNe, Int.reduceEq, Int.reduceLT, Int.reduceLE, Int.reduceAdd, Int.reduceSub, Int.reduceNeg, Int.reduceMul, Int.reduceToNat, Nat.reduceSub, Nat.reduceMul, Nat.reduceLeDiff, Nat.reduceAdd, Nat.reduceLT, Nat.reduceEqDiff, reduceCtorEq, ↓reduceIte, rqs, Bool.true_beq, Bool.false_beq, Bool.not_true, Bool.not_false, rootr_len, rootr_get, rootr_rows, fldRat0, hF, ilims3, hr3, hir, hil]
      refine call_by (m) (by first | rfl | (simp only [tocvs, tocv, hF]; rfl) | (simp only [tocvs, tocv, toboxes, tobox, updH_at, Nat.reduceEqDiff, ↓reduceIte, hF]; rfl)) (by simp) ?_
      simp (disch := omega) only [wk, tis, Int.reduceNe, Int.reduceEq, Int.reduceLT, Int.reduceLE, Int.reduceAdd, Int.reduceSub, Int.reduceNeg, Int.reduceMul, Int.reduceToNat, Nat.reduceSub, Nat.reduceMul, Nat.reduceLeDiff, Nat.reduceAdd, Nat.reduceLT, Nat.reduceEqDiff, reduceCtorEq, ↓reduceIte, rqs, Bool.true_beq, Bool.false_beq, Bool.not_true, Bool.not_false, rootr_len, rootr_get, rootr_rows, fldRat0, hF]
      refine ⟨⟨j + 1, by omega, ?_⟩, by omega⟩
      (repeat' apply And.intro) <;> first | rfl | omega
    obtain rfl : j = (prs2 Q).length := by omega
    by_cases k1 : (prs2 Q).length < Q.length
    · have k1' : (((prs2 Q).length : Nat) : Int) < (Q.length : Int) := by omega
      have k2' : ¬ (((prs2 Q).length : Nat) : Int) < 2 := by omega
      simp (disch := omega) only [wk, tis, Int.reduceNe, Int.reduceEq, Int.reduceLT, Int.reduceLE, Int.reduceAdd, Int.reduceSub, Int.reduceNeg, Int.reduceMul, Int.reduceToNat, Nat.reduceSub, Nat.reduceMul, Nat.reduceLeDiff, Nat.reduceAdd, Nat.reduceLT, Nat.reduceEqDiff, reduceCtorEq, ↓reduceIte, rqs, Bool.true_beq, Bool.false_beq, Bool.not_true, Bool.not_false, rootr_len, rootr_get, rootr_rows, fldRat0, hF, k1', k2']
      try rfl
    · have k1' : ¬ (((prs2 Q).length : Nat) : Int) < (Q.length : Int) := by omega
      simp (disch := omega) only [wk, tis, Int.reduceNe, Int.reduceEq, Int.reduceLT, Int.reduceLE, Int.reduceAdd, Int.reduceSub, Int.reduceNeg, Int.reduceMul, Int.reduceToNat, Nat.reduceSub, Nat.reduceMul, Nat.reduceLeDiff, Nat.reduceAdd, Nat.reduceLT, Nat.reduceEqDiff, reduceCtorEq, ↓reduceIte, rqs, Bool.true_beq, Bool.false_beq, Bool.not_true, Bool.not_false, rootr_len, rootr_get, rootr_rows, fldRat0, hF, k1']
      try rfl
end Go.Proofs.YtcocppjgbcbndaaGreat

namespace Go.Proofs.YtcocppjgbcbndaaGreat
open Go Go.Proofs Go.AL
set_option linter.unusedSimpArgs false
set_option linter.unusedVariables false
def cnd (lo hi : Int) (low high : Bool) : Bool := (decide (lo < 0) || (low && decide (lo = 0))) && (decide (hi < 0) || (high && decide (hi = 0)))
def lor (u : Rat) (r : Int × Int) : Int := sgq (u - rtq r)
def hir (v : Rat) (r : Int × Int) : Int := sgq (rtq r - v)
theorem lor_int (c : Int) (r : Int × Int) : lor (c : Rat) r = (c * (rdn r.2 : Int) - rnn r.1).sign := (rtq_sign r c).2
theorem hir_int (c : Int) (r : Int × Int) : hir (c : Rat) r = (rnn r.1 - c * (rdn r.2 : Int)).sign := (rtq_sign r c).1
def cntk (R : List (Int × Int)) (u v : Rat) (low high : Bool) (k : Nat) : Nat := (R.take k).countP fun r => cnd (lor u r) (hir v r) low high
theorem cntk_succ {R : List (Int × Int)} {u v : Rat} {low high : Bool} {k : Nat} (h : k < R.length) : cntk R u v low high (k + 1) = cntk R u v low high k + if cnd (lor u (R.getD k (0, 0))) (hir v (R.getD k (0, 0))) low high then 1 else 0 := by
  have : R.take (k + 1) = R.take k ++ [R.getD k (0, 0)] := by rw [List.take_add_one]; congr 1; simp [List.getD, h]
  rw [cntk, this, List.countP_append]
  simp [cntk, List.countP_cons]
theorem cntk_le (R : List (Int × Int)) (u v : Rat) (low high : Bool) (k : Nat) : cntk R u v low high k ≤ k := by
  have := List.countP_le_length (p := fun r => cnd (lor u r) (hir v r) low high) (l := R.take k)
  rw [List.length_take] at this
  unfold cntk
  omega
theorem szq_end {u : Int} (h : -2000 < u ∧ u < 2000) : SzQ 1 (crat (u : Rat)) := by
  refine szq_crat (Nat.le_trans (qz_int u) ?_)
  have : zl u ≤ 1 := zl_le.mpr (by rw [Nat.pow_one]; simp only [W]; omega)
  omega
set_option maxHeartbeats 4000000 in
theorem kcount_ok (R : List (Int × Int)) (Q : List Int) (ft : Int) (u v : Rat) (low high : Bool) (hR : R.length ≤ 9223372036854775807) (hu : qz u ≤ 1000) (hv : qz v ≤ 1000) : AC Tryz.prog 11 [.agg (kn R Q ft), cqz u, cqz v, cb low, cb high] none [ci (cntk R u v low high 6)] := by
  refine AC.by_walk (rs := [.tmp 10]) ords Tryz.func11 (by rfl) (by rfl) (by rfl) (by rfl) (by rfl) ?_
  simp (disch := omega) only [wk, tis, Int.reduceNe, Int.reduceEq, Int.reduceLT, Int.reduceLE, Int.reduceAdd, Int.reduceSub, Int.reduceNeg, Int.reduceMul, Int.reduceToNat, Nat.reduceSub, Nat.reduceMul, Nat.reduceLeDiff, Nat.reduceAdd, Nat.reduceLT, Nat.reduceEqDiff, reduceCtorEq, ↓reduceIte, rqs, Bool.true_beq, Bool.false_beq, Bool.not_true, Bool.not_false, rootr_len, rootr_get, rootr_rows, fldRat0]
  refine aloop_by (fun f H => ∃ (i : Nat), i ≤ R.length ∧ i ≤ 6 ∧ f 12 = .iv (.int .i64 i) ∧ f 11 = .iv (.int .i64 (cntk R u v low high i)) ∧ f 5 = .hp 5 1 0 0 ∧ H 5 = .blk false 1 25 3 [kn R Q ft] ∧ f 6 = .hp 6 1 0 0 ∧ H 6 = .blk false 1 35 3 [qrow (crat u)] ∧ f 7 = .hp 7 1 0 0 ∧ H 7 = .blk false 1 35 3 [qrow (crat v)] ∧ f 3 = .iv (.bool low) ∧ f 4 = .iv (.bool high)) (fun f H => (R.length - intAt f 12).toNat) ?_ ?_
  · refine ⟨0, by omega, by omega, ?_⟩
    simp (disch := omega) only [wk, tis, Int.reduceNe, Int.reduceEq, Int.reduceLT, Int.reduceLE, Int.reduceAdd, Int.reduceSub, Int.reduceNeg, Int.reduceMul, Int.reduceToNat, Nat.reduceSub, Nat.reduceMul, Nat.reduceLeDiff, Nat.reduceAdd, Nat.reduceLT, Nat.reduceEqDiff, reduceCtorEq, ↓reduceIte, rqs, Bool.true_beq, Bool.false_beq, Bool.not_true, Bool.not_false, rootr_len, rootr_get, rootr_rows, fldRat0, show cntk R u v low high 0 = 0 from rfl]
  rintro f H ⟨i, hi, hi6, hF⟩
  rw [intAt_of hF.1]
  simp (disch := omega) only [wk, tis, Int.reduceNe, Int.reduceEq, Int.reduceLT, Int.reduceLE, Int.reduceAdd, Int.reduceSub, Int.reduceNeg, Int.reduceMul, Int.reduceToNat, Nat.reduceSub, Nat.reduceMul, Nat.reduceLeDiff, Nat.reduceAdd, Nat.reduceLT, Nat.reduceEqDiff, reduceCtorEq, ↓reduceIte, rqs, Bool.true_beq, Bool.false_beq, Bool.not_true, Bool.not_false, rootr_len, rootr_get, rootr_rows, fldRat0, hF]
  by_cases c1 : i < R.length
  · have c1' : (i : Int) < (R.length : Int) := by omega
    by_cases c2 : i < 6
    · have c2' : (i : Int) < 6 := by omega
      have a := rat_ok (R.getD i (0, 0))
      have et := cntk_succ (u := u) (v := v) (low := low) (high := high) c1
      have hcl := cntk_le R u v low high i
      have z := rtq_z (R.getD i (0, 0))
      have o1 := horder_ok (crat u) (crat (rtq (R.getD i (0, 0)))) (szq_crat (by omega)) (szq_crat (by omega)) (nv_crat0 _) (nv_crat0 _)
      have o2 := horder_ok (crat (rtq (R.getD i (0, 0)))) (crat v) (szq_crat (by omega)) (szq_crat (by omega)) (nv_crat0 _) (nv_crat0 _)
      rw [qv_crat, qv_crat, show sgq (u - rtq (R.getD i (0, 0))) = lor u (R.getD i (0, 0)) from rfl] at o1
      rw [qv_crat, qv_crat, show sgq (rtq (R.getD i (0, 0)) - v) = hir v (R.getD i (0, 0)) from rfl] at o2
      simp (disch := omega) only [wk, tis, Int.reduceNe, Int.reduceEq, Int.reduceLT, Int.reduceLE, Int.reduceAdd, Int.reduceSub, Int.reduceNeg, Int.reduceMul, Int.reduceToNat, Nat.reduceSub, Nat.reduceMul, Nat.reduceLeDiff, Nat.reduceAdd, Nat.reduceLT, Nat.reduceEqDiff, reduceCtorEq, ↓reduceIte, rqs, Bool.true_beq, Bool.false_beq, Bool.not_true, Bool.not_false, rootr_len, rootr_get, rootr_rows, fldRat0, hF, c1', c2']
      refine call_by (a) (by first | rfl | (simp only [tocvs, tocv, hF, c1', c2']; rfl) | (simp only [tocvs, tocv, toboxes, tobox, updH_at, Nat.reduceEqDiff, ↓reduceIte, hF, c1', c2']; rfl)) (by simp) ?_
      simp (disch := omega) only [wk, tis, Int.reduceNe, Int.reduceEq, Int.reduceLT, Int.reduceLE, Int.reduceAdd, Int.reduceSub, Int.reduceNeg, Int.reduceMul, Int.reduceToNat, Nat.reduceSub, Nat.reduceMul, Nat.reduceLeDiff, Nat.reduceAdd, Nat.reduceLT, Nat.reduceEqDiff, reduceCtorEq, ↓reduceIte, rqs, Bool.true_beq, Bool.false_beq, Bool.not_true, Bool.not_false, rootr_len, rootr_get, rootr_rows, fldRat0, hF, c1', c2']
      refine ⟨tmps_by (by kernel_rfl), ?_⟩
      generalize lor u (R.getD i (0, 0)) = lo at *
      generalize hir v (R.getD i (0, 0)) = hi' at *
      rcases Int.lt_trichotomy lo 0 with p1 | p1 | p1
      · have p1 := p1
        rcases Int.lt_trichotomy hi' 0 with q1 | q1 | q1
        · have q1 := q1
          cases low <;> cases high
          · have ec : cnd lo hi' false false = true := by simp [cnd, p1, q1]
            rw [ec] at et
            refine call_by (o1) (by first | rfl | (simp only [tocvs, tocv, hF, p1, q1]; rfl) | (simp only [tocvs, tocv, toboxes, tobox, updH_at, Nat.reduceEqDiff, ↓reduceIte, hF, p1, q1]; rfl)) (by simp) ?_
            simp (disch := omega) only [wk, tis, Int.reduceNe, Int.reduceEq, Int.reduceLT, Int.reduceLE, Int.reduceAdd, Int.reduceSub, Int.reduceNeg, Int.reduceMul, Int.reduceToNat, Nat.reduceSub, Nat.reduceMul, Nat.reduceLeDiff, Nat.reduceAdd, Nat.reduceLT, Nat.reduceEqDiff, reduceCtorEq, ↓reduceIte, rqs, Bool.true_beq, Bool.false_beq, Bool.not_true, Bool.not_false, rootr_len, rootr_get, rootr_rows, fldRat0, hF, p1, q1]
            refine call_by (o2) (by first | rfl | (simp only [tocvs, tocv, hF, p1, q1]; rfl) | (simp only [tocvs, tocv, toboxes, tobox, updH_at, Nat.reduceEqDiff, ↓reduceIte, hF, p1, q1]; rfl)) (by simp) ?_
            simp (disch := omega) only [wk, tis, Int.reduceNe, Int.reduceEq, Int.reduceLT, Int.reduceLE, Int.reduceAdd, Int.reduceSub, Int.reduceNeg, Int.reduceMul, Int.reduceToNat, Nat.reduceSub, Nat.reduceMul, Nat.reduceLeDiff, Nat.reduceAdd, Nat.reduceLT, Nat.reduceEqDiff, reduceCtorEq, ↓reduceIte, rqs, Bool.true_beq, Bool.false_beq, Bool.not_true, Bool.not_false, rootr_len, rootr_get, rootr_rows, fldRat0, hF, p1, q1]
            first | exact log_by (by kernel_rfl) | refine ⟨log_by (by kernel_rfl), ?_⟩
            refine ⟨⟨i + 1, by omega, by omega, ?_⟩, by omega⟩
            rw [et]
            (repeat' apply And.intro) <;> first | rfl | omega
          · have ec : cnd lo hi' false true = true := by simp [cnd, p1, q1]
            rw [ec] at et
            refine call_by (o1) (by first | rfl | (simp only [tocvs, tocv, hF, p1, q1]; rfl) | (simp only [tocvs, tocv, toboxes, tobox, updH_at, Nat.reduceEqDiff, ↓reduceIte, hF, p1, q1]; rfl)) (by simp) ?_
            simp (disch := omega) only [wk, tis, Int.reduceNe, Int.reduceEq, Int.reduceLT, Int.reduceLE, Int.reduceAdd, Int.reduceSub, Int.reduceNeg, Int.reduceMul, Int.reduceToNat, Nat.reduceSub, Nat.reduceMul, Nat.reduceLeDiff, Nat.reduceAdd, Nat.reduceLT, Nat.reduceEqDiff, reduceCtorEq, ↓reduceIte, rqs, Bool.true_beq, Bool.false_beq, Bool.not_true, Bool.not_false, rootr_len, rootr_get, rootr_rows, fldRat0, hF, p1, q1]
            refine call_by (o2) (by first | rfl | (simp only [tocvs, tocv, hF, p1, q1]; rfl) | (simp only [tocvs, tocv, toboxes, tobox, updH_at, Nat.reduceEqDiff, ↓reduceIte, hF, p1, q1]; rfl)) (by simp) ?_
            simp (disch := omega) only [wk, tis, Int.reduceNe, Int.reduceEq, Int.reduceLT, Int.reduceLE, Int.reduceAdd, Int.reduceSub, Int.reduceNeg, Int.reduceMul, Int.reduceToNat, Nat.reduceSub, Nat.reduceMul, Nat.reduceLeDiff, Nat.reduceAdd, Nat.reduceLT, Nat.reduceEqDiff, reduceCtorEq, ↓reduceIte, rqs, Bool.true_beq, Bool.false_beq, Bool.not_true, Bool.not_false, rootr_len, rootr_get, rootr_rows, fldRat0, hF, p1, q1]
            first | exact log_by (by kernel_rfl) | refine ⟨log_by (by kernel_rfl), ?_⟩
            refine ⟨⟨i + 1, by omega, by omega, ?_⟩, by omega⟩
            rw [et]
            (repeat' apply And.intro) <;> first | rfl | omega
          · have ec : cnd lo hi' true false = true := by simp [cnd, p1, q1]
            rw [ec] at et
            refine call_by (o1) (by first | rfl | (simp only [tocvs, tocv, hF, p1, q1]; rfl) | (simp only [tocvs, tocv, toboxes, tobox, updH_at, Nat.reduceEqDiff, ↓reduceIte, hF, p1, q1]; rfl)) (by simp) ?_
            simp (disch := omega) only [wk, tis, Int.reduceNe, Int.reduceEq, Int.reduceLT, Int.reduceLE, Int.reduceAdd, Int.reduceSub, Int.reduceNeg, Int.reduceMul, Int.reduceToNat, Nat.reduceSub, Nat.reduceMul, Nat.reduceLeDiff, Nat.reduceAdd, Nat.reduceLT, Nat.reduceEqDiff, reduceCtorEq, ↓reduceIte, rqs, Bool.true_beq, Bool.false_beq, Bool.not_true, Bool.not_false, rootr_len, rootr_get, rootr_rows, fldRat0, hF, p1, q1]
            refine call_by (o2) (by first | rfl | (simp only [tocvs, tocv, hF, p1, q1]; rfl) | (simp only [tocvs, tocv, toboxes, tobox, updH_at, Nat.reduceEqDiff, ↓reduceIte, hF, p1, q1]; rfl)) (by simp) ?_
            simp (disch := omega) only [wk, tis, Int.reduceNe, Int.reduceEq, Int.reduceLT, Int.reduceLE, Int.reduceAdd, Int.reduceSub, Int.reduceNeg, Int.reduceMul, Int.reduceToNat, Nat.reduceSub, Nat.reduceMul, Nat.reduceLeDiff, Nat.reduceAdd, Nat.reduceLT, Nat.reduceEqDiff, reduceCtorEq, ↓reduceIte, rqs, Bool.true_beq, Bool.false_beq, Bool.not_true, Bool.not_false, rootr_len, rootr_get, rootr_rows, fldRat0, hF, p1, q1]
            first | exact log_by (by kernel_rfl) | refine ⟨log_by (by kernel_rfl), ?_⟩
            refine ⟨⟨i + 1, by omega, by omega, ?_⟩, by omega⟩
            rw [et]
            (repeat' apply And.intro) <;> first | rfl | omega
          · have ec : cnd lo hi' true true = true := by simp [cnd, p1, q1]
            rw [ec] at et
            refine call_by (o1) (by first | rfl | (simp only [tocvs, tocv, hF, p1, q1]; rfl) | (simp only [tocvs, tocv, toboxes, tobox, updH_at, Nat.reduceEqDiff, ↓reduceIte, hF, p1, q1]; rfl)) (by simp) ?_
            simp (disch := omega) only [wk, tis, Int.reduceNe, Int.reduceEq, Int.reduceLT, Int.reduceLE, Int.reduceAdd, Int.reduceSub, Int.reduceNeg, Int.reduceMul, Int.reduceToNat, Nat.reduceSub, Nat.reduceMul, Nat.reduceLeDiff, Nat.reduceAdd, Nat.reduceLT, Nat.reduceEqDiff, reduceCtorEq, ↓reduceIte, rqs, Bool.true_beq, Bool.false_beq, Bool.not_true, Bool.not_false, rootr_len, rootr_get, rootr_rows, fldRat0, hF, p1, q1]
            refine call_by (o2) (by first | rfl | (simp only [tocvs, tocv, hF, p1, q1]; rfl) | (simp only [tocvs, tocv, toboxes, tobox, updH_at, Nat.reduceEqDiff, ↓reduceIte, hF, p1, q1]; rfl)) (by simp) ?_
            simp (disch := omega) only [wk, tis, Int.reduceNe, Int.reduceEq, Int.reduceLT, Int.reduceLE, Int.reduceAdd, Int.reduceSub, Int.reduceNeg, Int.reduceMul, Int.reduceToNat, Nat.reduceSub, Nat.reduceMul, Nat.reduceLeDiff, Nat.reduceAdd, Nat.reduceLT, Nat.reduceEqDiff, reduceCtorEq, ↓reduceIte, rqs, Bool.true_beq, Bool.false_beq, Bool.not_true, Bool.not_false, rootr_len, rootr_get, rootr_rows, fldRat0, hF, p1, q1]
            first | exact log_by (by kernel_rfl) | refine ⟨log_by (by kernel_rfl), ?_⟩
            refine ⟨⟨i + 1, by omega, by omega, ?_⟩, by omega⟩
            rw [et]
            (repeat' apply And.intro) <;> first | rfl | omega
        · subst q1
          cases low <;> cases high
          · have ec : cnd lo 0 false false = false := by simp [cnd, p1]
            rw [ec] at et
            refine call_by (o1) (by first | rfl | (simp only [tocvs, tocv, hF, p1]; rfl) | (simp only [tocvs, tocv, toboxes, tobox, updH_at, Nat.reduceEqDiff, ↓reduceIte, hF, p1]; rfl)) (by simp) ?_
            simp (disch := omega) only [wk, tis, Int.reduceNe, Int.reduceEq, Int.reduceLT, Int.reduceLE, Int.reduceAdd, Int.reduceSub, Int.reduceNeg, Int.reduceMul, Int.reduceToNat, Nat.reduceSub, Nat.reduceMul, Nat.reduceLeDiff, Nat.reduceAdd, Nat.reduceLT, Nat.reduceEqDiff, reduceCtorEq, ↓reduceIte, rqs, Bool.true_beq, Bool.false_beq, Bool.not_true, Bool.not_false, rootr_len, rootr_get, rootr_rows, fldRat0, hF, p1]
            refine call_by (o2) (by first | rfl | (simp only [tocvs, tocv, hF, p1]; rfl) | (simp only [tocvs, tocv, toboxes, tobox, updH_at, Nat.reduceEqDiff, ↓reduceIte, hF, p1]; rfl)) (by simp) ?_
            simp (disch := omega) only [wk, tis, Int.reduceNe, Int.reduceEq, Int.reduceLT, Int.reduceLE, Int.reduceAdd, Int.reduceSub, Int.reduceNeg, Int.reduceMul, Int.reduceToNat, Nat.reduceSub, Nat.reduceMul, Nat.reduceLeDiff, Nat.reduceAdd, Nat.reduceLT, Nat.reduceEqDiff, reduceCtorEq, ↓reduceIte, rqs, Bool.true_beq, Bool.false_beq, Bool.not_true, Bool.not_false, rootr_len, rootr_get, rootr_rows, fldRat0, hF, p1]
            first | exact log_by (by kernel_rfl) | refine ⟨log_by (by kernel_rfl), ?_⟩
            refine ⟨⟨i + 1, by omega, by omega, ?_⟩, by omega⟩
            rw [et]
            (repeat' apply And.intro) <;> first | rfl | omega
          · have ec : cnd lo 0 false true = true := by simp [cnd, p1]
            rw [ec] at et
            refine call_by (o1) (by first | rfl | (simp only [tocvs, tocv, hF, p1]; rfl) | (simp only [tocvs, tocv, toboxes, tobox, updH_at, Nat.reduceEqDiff, ↓reduceIte, hF, p1]; rfl)) (by simp) ?_
            simp (disch := omega) only [wk, tis, Int.reduceNe, Int.reduceEq, Int.reduceLT, Int.reduceLE, Int.reduceAdd, Int.reduceSub, Int.reduceNeg, Int.reduceMul, Int.reduceToNat, Nat.reduceSub, Nat.reduceMul, Nat.reduceLeDiff, Nat.reduceAdd, Nat.reduceLT, Nat.reduceEqDiff, reduceCtorEq, ↓reduceIte, rqs, Bool.true_beq, Bool.false_beq, Bool.not_true, Bool.not_false, rootr_len, rootr_get, rootr_rows, fldRat0, hF, p1]
            refine call_by (o2) (by first | rfl | (simp only [tocvs, tocv, hF, p1]; rfl) | (simp only [tocvs, tocv, toboxes, tobox, updH_at, Nat.reduceEqDiff, ↓reduceIte, hF, p1]; rfl)) (by simp) ?_
            simp (disch := omega) only [wk, tis, Int.reduceNe, Int.reduceEq, Int.reduceLT, Int.reduceLE, Int.reduceAdd, Int.reduceSub, Int.reduceNeg, Int.reduceMul, Int.reduceToNat, Nat.reduceSub, Nat.reduceMul, Nat.reduceLeDiff, Nat.reduceAdd, Nat.reduceLT, Nat.reduceEqDiff, reduceCtorEq, ↓reduceIte, rqs, Bool.true_beq, Bool.false_beq, Bool.not_true, Bool.not_false, rootr_len, rootr_get, rootr_rows, fldRat0, hF, p1]
            first | exact log_by (by kernel_rfl) | refine ⟨log_by (by kernel_rfl), ?_⟩
            refine ⟨⟨i + 1, by omega, by omega, ?_⟩, by omega⟩
            rw [et]
            (repeat' apply And.intro) <;> first | rfl | omega
          · have ec : cnd lo 0 true false = false := by simp [cnd, p1]
            rw [ec] at et
            refine call_by (o1) (by first | rfl | (simp only [tocvs, tocv, hF, p1]; rfl) | (simp only [tocvs, tocv, toboxes, tobox, updH_at, Nat.reduceEqDiff, ↓reduceIte, hF, p1]; rfl)) (by simp) ?_
            simp (disch := omega) only [wk, tis, Int.reduceNe, Int.reduceEq, Int.reduceLT, Int.reduceLE, Int.reduceAdd, Int.reduceSub, Int.reduceNeg, Int.reduceMul, Int.reduceToNat, Nat.reduceSub, Nat.reduceMul, Nat.reduceLeDiff, Nat.reduceAdd, Nat.reduceLT, Nat.reduceEqDiff, reduceCtorEq, ↓reduceIte, rqs, Bool.true_beq, Bool.false_beq, Bool.not_true, Bool.not_false, rootr_len, rootr_get, rootr_rows, fldRat0, hF, p1]
            refine call_by (o2) (by first | rfl | (simp only [tocvs, tocv, hF, p1]; rfl) | (simp only [tocvs, tocv, toboxes, tobox, updH_at, Nat.reduceEqDiff, ↓reduceIte, hF, p1]; rfl)) (by simp) ?_
            simp (disch := omega) only [wk, tis, Int.reduceNe, Int.reduceEq, Int.reduceLT, Int.reduceLE, Int.reduceAdd, Int.reduceSub, Int.reduceNeg, Int.reduceMul, Int.reduceToNat, Nat.reduceSub, Nat.reduceMul, Nat.reduceLeDiff, Nat.reduceAdd, Nat.reduceLT, Nat.reduceEqDiff, reduceCtorEq, ↓reduceIte, rqs, Bool.true_beq, Bool.false_beq, Bool.not_true, Bool.not_false, rootr_len, rootr_get, rootr_rows, fldRat0, hF, p1]
            first | exact log_by (by kernel_rfl) | refine ⟨log_by (by kernel_rfl), ?_⟩
            refine ⟨⟨i + 1, by omega, by omega, ?_⟩, by omega⟩
            rw [et]
            (repeat' apply And.intro) <;> first | rfl | omega
          · have ec : cnd lo 0 true true = true := by simp [cnd, p1]
            rw [ec] at et
            refine call_by (o1) (by first | rfl | (simp only [tocvs, tocv, hF, p1]; rfl) | (simp only [tocvs, tocv, toboxes, tobox, updH_at, Nat.reduceEqDiff, ↓reduceIte, hF, p1]; rfl)) (by simp) ?_
            simp (disch := omega) only [wk, tis, Int.reduceNe, Int.reduceEq, Int.reduceLT, Int.reduceLE, Int.reduceAdd, Int.reduceSub, Int.reduceNeg, Int.reduceMul, Int.reduceToNat, Nat.reduceSub, Nat.reduceMul, Nat.reduceLeDiff, Nat.reduceAdd, Nat.reduceLT, Nat.reduceEqDiff, reduceCtorEq, ↓reduceIte, rqs, Bool.true_beq, Bool.false_beq, Bool.not_true, Bool.not_false, rootr_len, rootr_get, rootr_rows, fldRat0, hF, p1]
            refine call_by (o2) (by first | rfl | (simp only [tocvs, tocv, hF, p1]; rfl) | (simp only [tocvs, tocv, toboxes, tobox, updH_at, Nat.reduceEqDiff, ↓reduceIte, hF, p1]; rfl)) (by simp) ?_
            simp (disch := omega) only [wk, tis, Int.reduceNe, Int.reduceEq, Int.reduceLT, Int.reduceLE, Int.reduceAdd, Int.reduceSub, Int.reduceNeg, Int.reduceMul, Int.reduceToNat, Nat.reduceSub, Nat.reduceMul, Nat.reduceLeDiff, Nat.reduceAdd, Nat.reduceLT, Nat.reduceEqDiff, reduceCtorEq, ↓reduceIte, rqs, Bool.true_beq, Bool.false_beq, Bool.not_true, Bool.not_false, rootr_len, rootr_get, rootr_rows, fldRat0, hF, p1]
            first | exact log_by (by kernel_rfl) | refine ⟨log_by (by kernel_rfl), ?_⟩
            refine ⟨⟨i + 1, by omega, by omega, ?_⟩, by omega⟩
            rw [et]
            (repeat' apply And.intro) <;> first | rfl | omega
        · have m1 : ¬ hi' < 0 := by omega
          have m2 : ¬ hi' = 0 := by omega
          cases low <;> cases high
          · have ec : cnd lo hi' false false = false := by simp [cnd, p1, m1, m2]
            rw [ec] at et
            refine call_by (o1) (by first | rfl | (simp only [tocvs, tocv, hF, p1, m1, m2]; rfl) | (simp only [tocvs, tocv, toboxes, tobox, updH_at, Nat.reduceEqDiff, ↓reduceIte, hF, p1, m1, m2]; rfl)) (by simp) ?_
            simp (disch := omega) only [wk, tis, Int.reduceNe, Int.reduceEq, Int.reduceLT, Int.reduceLE, Int.reduceAdd, Int.reduceSub, Int.reduceNeg, Int.reduceMul, Int.reduceToNat, Nat.reduceSub, Nat.reduceMul, Nat.reduceLeDiff, Nat.reduceAdd, Nat.reduceLT, Nat.reduceEqDiff, reduceCtorEq, ↓reduceIte, rqs, Bool.true_beq, Bool.false_beq, Bool.not_true, Bool.not_false, rootr_len, rootr_get, rootr_rows, fldRat0, hF, p1, m1, m2]
            refine call_by (o2) (by first | rfl | (simp only [tocvs, tocv, hF, p1, m1, m2]; rfl) | (simp only [tocvs, tocv, toboxes, tobox, updH_at, Nat.reduceEqDiff, ↓reduceIte, hF, p1, m1, m2]; rfl)) (by simp) ?_
            simp (disch := omega) only [wk, tis, Int.reduceNe, Int.reduceEq, Int.reduceLT, Int.reduceLE, Int.reduceAdd, Int.reduceSub, Int.reduceNeg, Int.reduceMul, Int.reduceToNat, Nat.reduceSub, Nat.reduceMul, Nat.reduceLeDiff, Nat.reduceAdd, Nat.reduceLT, Nat.reduceEqDiff, reduceCtorEq, ↓reduceIte, rqs, Bool.true_beq, Bool.false_beq, Bool.not_true, Bool.not_false, rootr_len, rootr_get, rootr_rows, fldRat0, hF, p1, m1, m2]
            first | exact log_by (by kernel_rfl) | refine ⟨log_by (by kernel_rfl), ?_⟩
            refine ⟨⟨i + 1, by omega, by omega, ?_⟩, by omega⟩
            rw [et]
            (repeat' apply And.intro) <;> first | rfl | omega
          · have ec : cnd lo hi' false true = false := by simp [cnd, p1, m1, m2]
            rw [ec] at et
            refine call_by (o1) (by first | rfl | (simp only [tocvs, tocv, hF, p1, m1, m2]; rfl) | (simp only [tocvs, tocv, toboxes, tobox, updH_at, Nat.reduceEqDiff, ↓reduceIte, hF, p1, m1, m2]; rfl)) (by simp) ?_
            simp (disch := omega) only [wk, tis, Int.reduceNe, Int.reduceEq, Int.reduceLT, Int.reduceLE, Int.reduceAdd, Int.reduceSub, Int.reduceNeg, Int.reduceMul, Int.reduceToNat, Nat.reduceSub, Nat.reduceMul, Nat.reduceLeDiff, Nat.reduceAdd, Nat.reduceLT, Nat.reduceEqDiff, reduceCtorEq, ↓reduceIte, rqs, Bool.true_beq, Bool.false_beq, Bool.not_true, Bool.not_false, rootr_len, rootr_get, rootr_rows, fldRat0, hF, p1, m1, m2]
            refine call_by (o2) (by first | rfl | (simp only [tocvs, tocv, hF, p1, m1, m2]; rfl) | (simp only [tocvs, tocv, toboxes, tobox, updH_at, Nat.reduceEqDiff, ↓reduceIte, hF, p1, m1, m2]; rfl)) (by simp) ?_
            simp (disch := omega) only [wk, tis, Int.reduceNe, Int.reduceEq, Int.reduceLT, Int.reduceLE, Int.reduceAdd, Int.reduceSub, Int.reduceNeg, Int.reduceMul, Int.reduceToNat, Nat.reduceSub, Nat.reduceMul, Nat.reduceLeDiff, Nat.reduceAdd, Nat.reduceLT, Nat.reduceEqDiff, reduceCtorEq, ↓reduceIte, rqs, Bool.true_beq, Bool.false_beq, Bool.not_true, Bool.not_false, rootr_len, rootr_get, rootr_rows, fldRat0, hF, p1, m1, m2]
            first | exact log_by (by kernel_rfl) | refine ⟨log_by (by kernel_rfl), ?_⟩
            refine ⟨⟨i + 1, by omega, by omega, ?_⟩, by omega⟩
            rw [et]
            (repeat' apply And.intro) <;> first | rfl | omega
          · have ec : cnd lo hi' true false = false := by simp [cnd, p1, m1, m2]
            rw [ec] at et
            refine call_by (o1) (by first | rfl | (simp only [tocvs, tocv, hF, p1, m1, m2]; rfl) | (simp only [tocvs, tocv, toboxes, tobox, updH_at, Nat.reduceEqDiff, ↓reduceIte, hF, p1, m1, m2]; rfl)) (by simp) ?_
            simp (disch := omega) only [wk, tis, Int.reduceNe, Int.reduceEq, Int.reduceLT, Int.reduceLE, Int.reduceAdd, Int.reduceSub, Int.reduceNeg, Int.reduceMul, Int.reduceToNat, Nat.reduceSub, Nat.reduceMul, Nat.reduceLeDiff, Nat.reduceAdd, Nat.reduceLT, Nat.reduceEqDiff, reduceCtorEq, ↓reduceIte, rqs, Bool.true_beq, Bool.false_beq, Bool.not_true, Bool.not_false, rootr_len, rootr_get, rootr_rows, fldRat0, hF, p1, m1, m2]
            refine call_by (o2) (by first | rfl | (simp only [tocvs, tocv, hF, p1, m1, m2]; rfl) | (simp only [tocvs, tocv, toboxes, tobox, updH_at, Nat.reduceEqDiff, ↓reduceIte, hF, p1, m1, m2]; rfl)) (by simp) ?_
            simp (disch := omega) only [wk, tis, Int.reduceNe, Int.reduceEq, Int.reduceLT, Int.reduceLE, Int.reduceAdd, Int.reduceSub, Int.reduceNeg, Int.reduceMul, Int.reduceToNat, Nat.reduceSub, Nat.reduceMul, Nat.reduceLeDiff, Nat.reduceAdd, Nat.reduceLT, Nat.reduceEqDiff, reduceCtorEq, ↓reduceIte, rqs, Bool.true_beq, Bool.false_beq, Bool.not_true, Bool.not_false, rootr_len, rootr_get, rootr_rows, fldRat0, hF, p1, m1, m2]
            first | exact log_by (by kernel_rfl) | refine ⟨log_by (by kernel_rfl), ?_⟩
            refine ⟨⟨i + 1, by omega, by omega, ?_⟩, by omega⟩
            rw [et]
            (repeat' apply And.intro) <;> first | rfl | omega
          · have ec : cnd lo hi' true true = false := by simp [cnd, p1, m1, m2]
            rw [ec] at et
            refine call_by (o1) (by first | rfl | (simp only [tocvs, tocv, hF, p1, m1, m2]; rfl) | (simp only [tocvs, tocv, toboxes, tobox, updH_at, Nat.reduceEqDiff, ↓reduceIte, hF, p1, m1, m2]; rfl)) (by simp) ?_
            simp (disch := omega) only [wk, tis, Int.reduceNe, Int.reduceEq, Int.reduceLT, Int.reduceLE, Int.reduceAdd, Int.reduceSub, Int.reduceNeg, Int.reduceMul, Int.reduceToNat, Nat.reduceSub, Nat.reduceMul, Nat.reduceLeDiff, Nat.reduceAdd, Nat.reduceLT, Nat.reduceEqDiff, reduceCtorEq, ↓reduceIte, rqs, Bool.true_beq, Bool.false_beq, Bool.not_true, Bool.not_false, rootr_len, rootr_get, rootr_rows, fldRat0, hF, p1, m1, m2]
            refine call_by (o2) (by first | rfl | (simp only [tocvs, tocv, hF, p1, m1, m2]; rfl) | (simp only [tocvs, tocv, toboxes, tobox, updH_at, Nat.reduceEqDiff, ↓reduceIte, hF, p1, m1, m2]; rfl)) (by simp) ?_
            simp (disch := omega) only [wk, tis, Int.reduceNe, Int.reduceEq, Int.reduceLT, Int.reduceLE, Int.reduceAdd, Int.reduceSub, Int.reduceNeg, Int.reduceMul, Int.reduceToNat, Nat.reduceSub, Nat.reduceMul, Nat.reduceLeDiff, Nat.reduceAdd, Nat.reduceLT, Nat.reduceEqDiff, reduceCtorEq, ↓reduceIte, rqs, Bool.true_beq, Bool.false_beq, Bool.not_true, Bool.not_false, rootr_len, rootr_get, rootr_rows, fldRat0, hF, p1, m1, m2]
            first | exact log_by (by kernel_rfl) | refine ⟨log_by (by kernel_rfl), ?_⟩
            refine ⟨⟨i + 1, by omega, by omega, ?_⟩, by omega⟩
            rw [et]
            (repeat' apply And.intro) <;> first | rfl | omega
      · subst p1
        rcases Int.lt_trichotomy hi' 0 with q1 | q1 | q1
        · have q1 := q1
          cases low <;> cases high
          · have ec : cnd 0 hi' false false = false := by simp [cnd, q1]
            rw [ec] at et
            refine call_by (o1) (by first | rfl | (simp only [tocvs, tocv, hF, q1]; rfl) | (simp only [tocvs, tocv, toboxes, tobox, updH_at, Nat.reduceEqDiff, ↓reduceIte, hF, q1]; rfl)) (by simp) ?_
            simp (disch := omega) only [wk, tis, Int.reduceNe, Int.reduceEq, Int.reduceLT, Int.reduceLE, Int.reduceAdd, Int.reduceSub, Int.reduceNeg, Int.reduceMul, Int.reduceToNat, Nat.reduceSub, Nat.reduceMul, Nat.reduceLeDiff, Nat.reduceAdd, Nat.reduceLT, Nat.reduceEqDiff, reduceCtorEq, ↓reduceIte, rqs, Bool.true_beq, Bool.false_beq, Bool.not_true, Bool.not_false, rootr_len, rootr_get, rootr_rows, fldRat0, hF, q1]
            refine call_by (o2) (by first | rfl | (simp only [tocvs, tocv, hF, q1]; rfl) | (simp only [tocvs, tocv, toboxes, tobox, updH_at, Nat.reduceEqDiff, ↓reduceIte, hF, q1]; rfl)) (by simp) ?_
            simp (disch := omega) only [wk, tis, Int.reduceNe, Int.reduceEq, Int.reduceLT, Int.reduceLE, Int.reduceAdd, Int.reduceSub, Int.reduceNeg, Int.reduceMul, Int.reduceToNat, Nat.reduceSub, Nat.reduceMul, Nat.reduceLeDiff, Nat.reduceAdd, Nat.reduceLT, Nat.reduceEqDiff, reduceCtorEq, ↓reduceIte, rqs, Bool.true_beq, Bool.false_beq, Bool.not_true, Bool.not_false, rootr_len, rootr_get, rootr_rows, fldRat0, hF, q1]
            first | exact log_by (by kernel_rfl) | refine ⟨log_by (by kernel_rfl), ?_⟩
            refine ⟨⟨i + 1, by omega, by omega, ?_⟩, by omega⟩
            rw [et]
            (repeat' apply And.intro) <;> first | rfl | omega
          · have ec : cnd 0 hi' false true = false := by simp [cnd, q1]
            rw [ec] at et
            refine call_by (o1) (by first | rfl | (simp only [tocvs, tocv, hF, q1]; rfl) | (simp only [tocvs, tocv, toboxes, tobox, updH_at, Nat.reduceEqDiff, ↓reduceIte, hF, q1]; rfl)) (by simp) ?_
            simp (disch := omega) only [wk, tis, Int.reduceNe, Int.reduceEq, Int.reduceLT, Int.reduceLE, Int.reduceAdd, Int.reduceSub, Int.reduceNeg, Int.reduceMul, Int.reduceToNat, Nat.reduceSub, Nat.reduceMul, Nat.reduceLeDiff, Nat.reduceAdd, Nat.reduceLT, Nat.reduceEqDiff, reduceCtorEq, ↓reduceIte, rqs, Bool.true_beq, Bool.false_beq, Bool.not_true, Bool.not_false, rootr_len, rootr_get, rootr_rows, fldRat0, hF, q1]
            refine call_by (o2) (by first | rfl | (simp only [tocvs, tocv, hF, q1]; rfl) | (simp only [tocvs, tocv, toboxes, tobox, updH_at, Nat.reduceEqDiff, ↓reduceIte, hF, q1]; rfl)) (by simp) ?_
            simp (disch := omega) only [wk, tis, Int.reduceNe, Int.reduceEq, Int.reduceLT, Int.reduceLE, Int.reduceAdd, Int.reduceSub, Int.reduceNeg, Int.reduceMul, Int.reduceToNat, Nat.reduceSub, Nat.reduceMul, Nat.reduceLeDiff, Nat.reduceAdd, Nat.reduceLT, Nat.reduceEqDiff, reduceCtorEq, ↓reduceIte, rqs, Bool.true_beq, Bool.false_beq, Bool.not_true, Bool.not_false, rootr_len, rootr_get, rootr_rows, fldRat0, hF, q1]
            first | exact log_by (by kernel_rfl) | refine ⟨log_by (by kernel_rfl), ?_⟩
            refine ⟨⟨i + 1, by omega, by omega, ?_⟩, by omega⟩
            rw [et]
            (repeat' apply And.intro) <;> first | rfl | omega
          · have ec : cnd 0 hi' true false = true := by simp [cnd, q1]
            rw [ec] at et
            refine call_by (o1) (by first | rfl | (simp only [tocvs, tocv, hF, q1]; rfl) | (simp only [tocvs, tocv, toboxes, tobox, updH_at, Nat.reduceEqDiff, ↓reduceIte, hF, q1]; rfl)) (by simp) ?_
            simp (disch := omega) only [wk, tis, Int.reduceNe, Int.reduceEq, Int.reduceLT, Int.reduceLE, Int.reduceAdd, Int.reduceSub, Int.reduceNeg, Int.reduceMul, Int.reduceToNat, Nat.reduceSub, Nat.reduceMul, Nat.reduceLeDiff, Nat.reduceAdd, Nat.reduceLT, Nat.reduceEqDiff, reduceCtorEq, ↓reduceIte, rqs, Bool.true_beq, Bool.false_beq, Bool.not_true, Bool.not_false, rootr_len, rootr_get, rootr_rows, fldRat0, hF, q1]
            refine call_by (o2) (by first | rfl | (simp only [tocvs, tocv, hF, q1]; rfl) | (simp only [tocvs, tocv, toboxes, tobox, updH_at, Nat.reduceEqDiff, ↓reduceIte, hF, q1]; rfl)) (by simp) ?_
            simp (disch := omega) only [wk, tis, Int.reduceNe, Int.reduceEq, Int.reduceLT, Int.reduceLE, Int.reduceAdd, Int.reduceSub, Int.reduceNeg, Int.reduceMul, Int.reduceToNat, Nat.reduceSub, Nat.reduceMul, Nat.reduceLeDiff, Nat.reduceAdd, Nat.reduceLT, Nat.reduceEqDiff, reduceCtorEq, ↓reduceIte, rqs, Bool.true_beq, Bool.false_beq, Bool.not_true, Bool.not_false, rootr_len, rootr_get, rootr_rows, fldRat0, hF, q1]
            first | exact log_by (by kernel_rfl) | refine ⟨log_by (by kernel_rfl), ?_⟩
            refine ⟨⟨i + 1, by omega, by omega, ?_⟩, by omega⟩
            rw [et]
            (repeat' apply And.intro) <;> first | rfl | omega
          · have ec : cnd 0 hi' true true = true := by simp [cnd, q1]
            rw [ec] at et
            refine call_by (o1) (by first | rfl | (simp only [tocvs, tocv, hF, q1]; rfl) | (simp only [tocvs, tocv, toboxes, tobox, updH_at, Nat.reduceEqDiff, ↓reduceIte, hF, q1]; rfl)) (by simp) ?_
            simp (disch := omega) only [wk, tis, Int.reduceNe, Int.reduceEq, Int.reduceLT, Int.reduceLE, Int.reduceAdd, Int.reduceSub, Int.reduceNeg, Int.reduceMul, Int.reduceToNat, Nat.reduceSub, Nat.reduceMul, Nat.reduceLeDiff, Nat.reduceAdd, Nat.reduceLT, Nat.reduceEqDiff, reduceCtorEq, ↓reduceIte, rqs, Bool.true_beq, Bool.false_beq, Bool.not_true, Bool.not_false, rootr_len, rootr_get, rootr_rows, fldRat0, hF, q1]
            refine call_by (o2) (by first | rfl | (simp only [tocvs, tocv, hF, q1]; rfl) | (simp only [tocvs, tocv, toboxes, tobox, updH_at, Nat.reduceEqDiff, ↓reduceIte, hF, q1]; rfl)) (by simp) ?_
            simp (disch := omega) only [wk, tis, Int.reduceNe, Int.reduceEq, Int.reduceLT, Int.reduceLE, Int.reduceAdd, Int.reduceSub, Int.reduceNeg, Int.reduceMul, Int.reduceToNat, Nat.reduceSub, Nat.reduceMul, Nat.reduceLeDiff, Nat.reduceAdd, Nat.reduceLT, Nat.reduceEqDiff, reduceCtorEq, ↓reduceIte, rqs, Bool.true_beq, Bool.false_beq, Bool.not_true, Bool.not_false, rootr_len, rootr_get, rootr_rows, fldRat0, hF, q1]
            first | exact log_by (by kernel_rfl) | refine ⟨log_by (by kernel_rfl), ?_⟩
            refine ⟨⟨i + 1, by omega, by omega, ?_⟩, by omega⟩
            rw [et]
            (repeat' apply And.intro) <;> first | rfl | omega
        · subst q1
          cases low <;> cases high
          · have ec : cnd 0 0 false false = false := by simp [cnd]
            rw [ec] at et
            refine call_by (o1) (by first | rfl | (simp only [tocvs, tocv, hF]; rfl) | (simp only [tocvs, tocv, toboxes, tobox, updH_at, Nat.reduceEqDiff, ↓reduceIte, hF]; rfl)) (by simp) ?_
            simp (disch := omega) only [wk, tis, Int.reduceNe, Int.reduceEq, Int.reduceLT, Int.reduceLE, Int.reduceAdd, Int.reduceSub, Int.reduceNeg, Int.reduceMul, Int.reduceToNat, Nat.reduceSub, Nat.reduceMul, Nat.reduceLeDiff, Nat.reduceAdd, Nat.reduceLT, Nat.reduceEqDiff, reduceCtorEq, ↓reduceIte, rqs, Bool.true_beq, Bool.false_beq, Bool.not_true, Bool.not_false, rootr_len, rootr_get, rootr_rows, fldRat0, hF]
            refine call_by (o2) (by first | rfl | (simp only [tocvs, tocv, hF]; rfl) | (simp only [tocvs, tocv, toboxes, tobox, updH_at, Nat.reduceEqDiff, ↓reduceIte, hF]; rfl)) (by simp) ?_
            simp (disch := omega) only [wk, tis, Int.reduceNe, Int.reduceEq, Int.reduceLT, Int.reduceLE, Int.reduceAdd, Int.reduceSub, Int.reduceNeg, Int.reduceMul, Int.reduceToNat, Nat.reduceSub, Nat.reduceMul, Nat.reduceLeDiff, Nat.reduceAdd, Nat.reduceLT, Nat.reduceEqDiff, reduceCtorEq, ↓reduceIte, rqs, Bool.true_beq, Bool.false_beq, Bool.not_true, Bool.not_false, rootr_len, rootr_get, rootr_rows, fldRat0, hF]
            first | exact log_by (by kernel_rfl) | refine ⟨log_by (by kernel_rfl), ?_⟩
            refine ⟨⟨i + 1, by omega, by omega, ?_⟩, by omega⟩
            rw [et]
            (repeat' apply And.intro) <;> first | rfl | omega
          · have ec : cnd 0 0 false true = false := by simp [cnd]
            rw [ec] at et
            refine call_by (o1) (by first | rfl | (simp only [tocvs, tocv, hF]; rfl) | (simp only [tocvs, tocv, toboxes, tobox, updH_at, Nat.reduceEqDiff, ↓reduceIte, hF]; rfl)) (by simp) ?_
            simp (disch := omega) only [wk, tis, Int.reduceNe, Int.reduceEq, Int.reduceLT, Int.reduceLE, Int.reduceAdd, Int.reduceSub, Int.reduceNeg, Int.reduceMul, Int.reduceToNat, Nat.reduceSub, Nat.reduceMul, Nat.reduceLeDiff, Nat.reduceAdd, Nat.reduceLT, Nat.reduceEqDiff, reduceCtorEq, ↓reduceIte, rqs, Bool.true_beq, Bool.false_beq, Bool.not_true, Bool.not_false, rootr_len, rootr_get, rootr_rows, fldRat0, hF]
            refine call_by (o2) (by first | rfl | (simp only [tocvs, tocv, hF]; rfl) | (simp only [tocvs, tocv, toboxes, tobox, updH_at, Nat.reduceEqDiff, ↓reduceIte, hF]; rfl)) (by simp) ?_
            simp (disch := omega) only [wk, tis, Int.reduceNe, Int.reduceEq, Int.reduceLT, Int.reduceLE, Int.reduceAdd, Int.reduceSub, Int.reduceNeg, Int.reduceMul, Int.reduceToNat, Nat.reduceSub, Nat.reduceMul, Nat.reduceLeDiff, Nat.reduceAdd, Nat.reduceLT, Nat.reduceEqDiff, reduceCtorEq, ↓reduceIte, rqs, Bool.true_beq, Bool.false_beq, Bool.not_true, Bool.not_false, rootr_len, rootr_get, rootr_rows, fldRat0, hF]
            first | exact log_by (by kernel_rfl) | refine ⟨log_by (by kernel_rfl), ?_⟩
            refine ⟨⟨i + 1, by omega, by omega, ?_⟩, by omega⟩
            rw [et]
            (repeat' apply And.intro) <;> first | rfl | omega
          · have ec : cnd 0 0 true false = false := by simp [cnd]
            rw [ec] at et
            refine call_by (o1) (by first | rfl | (simp only [tocvs, tocv, hF]; rfl) | (simp only [tocvs, tocv, toboxes, tobox, updH_at, Nat.reduceEqDiff, ↓reduceIte, hF]; rfl)) (by simp) ?_
            simp (disch := omega) only [wk, tis, Int.reduceNe, Int.reduceEq, Int.reduceLT, Int.reduceLE, Int.reduceAdd, Int.reduceSub, Int.reduceNeg, Int.reduceMul, Int.reduceToNat, Nat.reduceSub, Nat.reduceMul, Nat.reduceLeDiff, Nat.reduceAdd, Nat.reduceLT, Nat.reduceEqDiff, reduceCtorEq, ↓reduceIte, rqs, Bool.true_beq, Bool.false_beq, Bool.not_true, Bool.not_false, rootr_len, rootr_get, rootr_rows, fldRat0, hF]
            refine call_by (o2) (by first | rfl | (simp only [tocvs, tocv, hF]; rfl) | (simp only [tocvs, tocv, toboxes, tobox, updH_at, Nat.reduceEqDiff, ↓reduceIte, hF]; rfl)) (by simp) ?_
            simp (disch := omega) only [wk, tis, Int.reduceNe, Int.reduceEq, Int.reduceLT, Int.reduceLE, Int.reduceAdd, Int.reduceSub, Int.reduceNeg, Int.reduceMul, Int.reduceToNat, Nat.reduceSub, Nat.reduceMul, Nat.reduceLeDiff, Nat.reduceAdd, Nat.reduceLT, Nat.reduceEqDiff, reduceCtorEq, ↓reduceIte, rqs, Bool.true_beq, Bool.false_beq, Bool.not_true, Bool.not_false, rootr_len, rootr_get, rootr_rows, fldRat0, hF]
            first | exact log_by (by kernel_rfl) | refine ⟨log_by (by kernel_rfl), ?_⟩
            refine ⟨⟨i + 1, by omega, by omega, ?_⟩, by omega⟩
            rw [et]
            (repeat' apply And.intro) <;> first | rfl | omega
          · have ec : cnd 0 0 true true = true := by simp [cnd]
            rw [ec] at et
            refine call_by (o1) (by first | rfl | (simp only [tocvs, tocv, hF]; rfl) | (simp only [tocvs, tocv, toboxes, tobox, updH_at, Nat.reduceEqDiff, ↓reduceIte, hF]; rfl)) (by simp) ?_
            simp (disch := omega) only [wk, tis, Int.reduceNe, Int.reduceEq, Int.reduceLT, Int.reduceLE, Int.reduceAdd, Int.reduceSub, Int.reduceNeg, Int.reduceMul, Int.reduceToNat, Nat.reduceSub, Nat.reduceMul, Nat.reduceLeDiff, Nat.reduceAdd, Nat.reduceLT, Nat.reduceEqDiff, reduceCtorEq, ↓reduceIte, rqs, Bool.true_beq, Bool.false_beq, Bool.not_true, Bool.not_false, rootr_len, rootr_get, rootr_rows, fldRat0, hF]
            refine call_by (o2) (by first | rfl | (simp only [tocvs, tocv, hF]; rfl) | (simp only [tocvs, tocv, toboxes, tobox, updH_at, Nat.reduceEqDiff, ↓reduceIte, hF]; rfl)) (by simp) ?_
            simp (disch := omega) only [wk, tis, Int.reduceNe, Int.reduceEq, Int.reduceLT, Int.reduceLE, Int.reduceAdd, Int.reduceSub, Int.reduceNeg, Int.reduceMul, Int.reduceToNat, Nat.reduceSub, Nat.reduceMul, Nat.reduceLeDiff, Nat.reduceAdd, Nat.reduceLT, Nat.reduceEqDiff, reduceCtorEq, ↓reduceIte, rqs, Bool.true_beq, Bool.false_beq, Bool.not_true, Bool.not_false, rootr_len, rootr_get, rootr_rows, fldRat0, hF]
            first | exact log_by (by kernel_rfl) | refine ⟨log_by (by kernel_rfl), ?_⟩
            refine ⟨⟨i + 1, by omega, by omega, ?_⟩, by omega⟩
            rw [et]
            (repeat' apply And.intro) <;> first | rfl | omega
        · have m1 : ¬ hi' < 0 := by omega
          have m2 : ¬ hi' = 0 := by omega
          cases low <;> cases high
          · have ec : cnd 0 hi' false false = false := by simp [cnd, m1, m2]
            rw [ec] at et
            refine call_by (o1) (by first | rfl | (simp only [tocvs, tocv, hF, m1, m2]; rfl) | (simp only [tocvs, tocv, toboxes, tobox, updH_at, Nat.reduceEqDiff, ↓reduceIte, hF, m1, m2]; rfl)) (by simp) ?_
            simp (disch := omega) only [wk, tis, Int.reduceNe, Int.reduceEq, Int.reduceLT, Int.reduceLE, Int.reduceAdd, Int.reduceSub, Int.reduceNeg, Int.reduceMul, Int.reduceToNat, Nat.reduceSub, Nat.reduceMul, Nat.reduceLeDiff, Nat.reduceAdd, Nat.reduceLT, Nat.reduceEqDiff, reduceCtorEq, ↓reduceIte, rqs, Bool.true_beq, Bool.false_beq, Bool.not_true, Bool.not_false, rootr_len, rootr_get, rootr_rows, fldRat0, hF, m1, m2]
            refine call_by (o2) (by first | rfl | (simp only [tocvs, tocv, hF, m1, m2]; rfl) | (simp only [tocvs, tocv, toboxes, tobox, updH_at, Nat.reduceEqDiff, ↓reduceIte, hF, m1, m2]; rfl)) (by simp) ?_
            simp (disch := omega) only [wk, tis, Int.reduceNe, Int.reduceEq, Int.reduceLT, Int.reduceLE, Int.reduceAdd, Int.reduceSub, Int.reduceNeg, Int.reduceMul, Int.reduceToNat, Nat.reduceSub, Nat.reduceMul, Nat.reduceLeDiff, Nat.reduceAdd, Nat.reduceLT, Nat.reduceEqDiff, reduceCtorEq, ↓reduceIte, rqs, Bool.true_beq, Bool.false_beq, Bool.not_true, Bool.not_false, rootr_len, rootr_get, rootr_rows, fldRat0, hF, m1, m2]
            first | exact log_by (by kernel_rfl) | refine ⟨log_by (by kernel_rfl), ?_⟩
            refine ⟨⟨i + 1, by omega, by omega, ?_⟩, by omega⟩
            rw [et]
            (repeat' apply And.intro) <;> first | rfl | omega
          · have ec : cnd 0 hi' false true = false := by simp [cnd, m1, m2]
            rw [ec] at et
            refine call_by (o1) (by first | rfl | (simp only [tocvs, tocv, hF, m1, m2]; rfl) | (simp only [tocvs, tocv, toboxes, tobox, updH_at, Nat.reduceEqDiff, ↓reduceIte, hF, m1, m2]; rfl)) (by simp) ?_
            simp (disch := omega) only [wk, tis, Int.reduceNe, Int.reduceEq, Int.reduceLT, Int.reduceLE, Int.reduceAdd, Int.reduceSub, Int.reduceNeg, Int.reduceMul, Int.reduceToNat, Nat.reduceSub, Nat.reduceMul, Nat.reduceLeDiff, Nat.reduceAdd, Nat.reduceLT, Nat.reduceEqDiff, reduceCtorEq, ↓reduceIte, rqs, Bool.true_beq, Bool.false_beq, Bool.not_true, Bool.not_false, rootr_len, rootr_get, rootr_rows, fldRat0, hF, m1, m2]
            refine call_by (o2) (by first | rfl | (simp only [tocvs, tocv, hF, m1, m2]; rfl) | (simp only [tocvs, tocv, toboxes, tobox, updH_at, Nat.reduceEqDiff, ↓reduceIte, hF, m1, m2]; rfl)) (by simp) ?_
            simp (disch := omega) only [wk, tis, Int.reduceNe, Int.reduceEq, Int.reduceLT, Int.reduceLE, Int.reduceAdd, Int.reduceSub, Int.reduceNeg, Int.reduceMul, Int.reduceToNat, Nat.reduceSub, Nat.reduceMul, Nat.reduceLeDiff, Nat.reduceAdd, Nat.reduceLT, Nat.reduceEqDiff, reduceCtorEq, ↓reduceIte, rqs, Bool.true_beq, Bool.false_beq, Bool.not_true, Bool.not_false, rootr_len, rootr_get, rootr_rows, fldRat0, hF, m1, m2]
            first | exact log_by (by kernel_rfl) | refine ⟨log_by (by kernel_rfl), ?_⟩
            refine ⟨⟨i + 1, by omega, by omega, ?_⟩, by omega⟩
            rw [et]
            (repeat' apply And.intro) <;> first | rfl | omega
          · have ec : cnd 0 hi' true false = false := by simp [cnd, m1, m2]
            rw [ec] at et
            refine call_by (o1) (by first | rfl | (simp only [tocvs, tocv, hF, m1, m2]; rfl) | (simp only [tocvs, tocv, toboxes, tobox, updH_at, Nat.reduceEqDiff, ↓reduceIte, hF, m1, m2]; rfl)) (by simp) ?_
            simp (disch := omega) only [wk, tis, Int.reduceNe, Int.reduceEq, Int.reduceLT, Int.reduceLE, Int.reduceAdd, Int.reduceSub, Int.reduceNeg, Int.reduceMul, Int.reduceToNat, Nat.reduceSub, Nat.reduceMul, Nat.reduceLeDiff, Nat.reduceAdd, Nat.reduceLT, Nat.reduceEqDiff, reduceCtorEq, ↓reduceIte, rqs, Bool.true_beq, Bool.false_beq, Bool.not_true, Bool.not_false, rootr_len, rootr_get, rootr_rows, fldRat0, hF, m1, m2]
            refine call_by (o2) (by first | rfl | (simp only [tocvs, tocv, hF, m1, m2]; rfl) | (simp only [tocvs, tocv, toboxes, tobox, updH_at, Nat.reduceEqDiff, ↓reduceIte, hF, m1, m2]; rfl)) (by simp) ?_
            simp (disch := omega) only [wk, tis, Int.reduceNe, Int.reduceEq, Int.reduceLT, Int.reduceLE, Int.reduceAdd, Int.reduceSub, Int.reduceNeg, Int.reduceMul, Int.reduceToNat, Nat.reduceSub, Nat.reduceMul, Nat.reduceLeDiff, Nat.reduceAdd, Nat.reduceLT, Nat.reduceEqDiff, reduceCtorEq, ↓reduceIte, rqs, Bool.true_beq, Bool.false_beq, Bool.not_true, Bool.not_false, rootr_len, rootr_get, rootr_rows, fldRat0, hF, m1, m2]
            first | exact log_by (by kernel_rfl) | refine ⟨log_by (by kernel_rfl), ?_⟩
            refine ⟨⟨i + 1, by omega, by omega, ?_⟩, by omega⟩
            rw [et]
            (repeat' apply And.intro) <;> first | rfl | omega
          · have ec : cnd 0 hi' true true = false := by simp [cnd, m1, m2]
            rw [ec] at et
            refine call_by (o1) (by first | rfl | (simp only [tocvs, tocv, hF, m1, m2]; rfl) | (simp only [tocvs, tocv, toboxes, tobox, updH_at, Nat.reduceEqDiff, ↓reduceIte, hF, m1, m2]; rfl)) (by simp) ?_
            simp (disch := omega) only [wk, tis, Int.reduceNe, Int.reduceEq, Int.reduceLT, Int.reduceLE, Int.reduceAdd, Int.reduceSub, Int.reduceNeg, Int.reduceMul, Int.reduceToNat, Nat.reduceSub, Nat.reduceMul, Nat.reduceLeDiff, Nat.reduceAdd, Nat.reduceLT, Nat.reduceEqDiff, reduceCtorEq, ↓reduceIte, rqs, Bool.true_beq, Bool.false_beq, Bool.not_true, Bool.not_false, rootr_len, rootr_get, rootr_rows, fldRat0, hF, m1, m2]
            refine call_by (o2) (by first | rfl | (simp only [tocvs, tocv, hF, m1, m2]; rfl) | (simp only [tocvs, tocv, toboxes, tobox, updH_at, Nat.reduceEqDiff, ↓reduceIte, hF, m1, m2]; rfl)) (by simp) ?_
            simp (disch := omega) only [wk, tis, Int.reduceNe, Int.reduceEq, Int.reduceLT, Int.reduceLE, Int.reduceAdd, Int.reduceSub, Int.reduceNeg, Int.reduceMul, Int.reduceToNat, Nat.reduceSub, Nat.reduceMul, Nat.reduceLeDiff, Nat.reduceAdd, Nat.reduceLT, Nat.reduceEqDiff, reduceCtorEq, ↓reduceIte, rqs, Bool.true_beq, Bool.false_beq, Bool.not_true, Bool.not_false, rootr_len, rootr_get, rootr_rows, fldRat0, hF, m1, m2]
            first | exact log_by (by kernel_rfl) | refine ⟨log_by (by kernel_rfl), ?_⟩
            refine ⟨⟨i + 1, by omega, by omega, ?_⟩, by omega⟩
            rw [et]
            (repeat' apply And.intro) <;> first | rfl | omega
      · have n1 : ¬ lo < 0 := by omega
        have n2 : ¬ lo = 0 := by omega
        rcases Int.lt_trichotomy hi' 0 with q1 | q1 | q1
        · have q1 := q1
          cases low <;> cases high
          · have ec : cnd lo hi' false false = false := by simp [cnd, n1, n2, q1]
            rw [ec] at et
            refine call_by (o1) (by first | rfl | (simp only [tocvs, tocv, hF, n1, n2, q1]; rfl) | (simp only [tocvs, tocv, toboxes, tobox, updH_at, Nat.reduceEqDiff, ↓reduceIte, hF, n1, n2, q1]; rfl)) (by simp) ?_
            simp (disch := omega) only [wk, tis, Int.reduceNe, Int.reduceEq, Int.reduceLT, Int.reduceLE, Int.reduceAdd, Int.reduceSub, Int.reduceNeg, Int.reduceMul, Int.reduceToNat, Nat.reduceSub, Nat.reduceMul, Nat.reduceLeDiff, Nat.reduceAdd, Nat.reduceLT, Nat.reduceEqDiff, reduceCtorEq, ↓reduceIte, rqs, Bool.true_beq, Bool.false_beq, Bool.not_true, Bool.not_false, rootr_len, rootr_get, rootr_rows, fldRat0, hF, n1, n2, q1]
            refine call_by (o2) (by first | rfl | (simp only [tocvs, tocv, hF, n1, n2, q1]; rfl) | (simp only [tocvs, tocv, toboxes, tobox, updH_at, Nat.reduceEqDiff, ↓reduceIte, hF, n1, n2, q1]; rfl)) (by simp) ?_
            simp (disch := omega) only [wk, tis, Int.reduceNe, Int.reduceEq, Int.reduceLT, Int.reduceLE, Int.reduceAdd, Int.reduceSub, Int.reduceNeg, Int.reduceMul, Int.reduceToNat, Nat.reduceSub, Nat.reduceMul, Nat.reduceLeDiff, Nat.reduceAdd, Nat.reduceLT, Nat.reduceEqDiff, reduceCtorEq, ↓reduceIte, rqs, Bool.true_beq, Bool.false_beq, Bool.not_true, Bool.not_false, rootr_len, rootr_get, rootr_rows, fldRat0, hF, n1, n2, q1]
            first | exact log_by (by kernel_rfl) | refine ⟨log_by (by kernel_rfl), ?_⟩
            refine ⟨⟨i + 1, by omega, by omega, ?_⟩, by omega⟩
            rw [et]
            (repeat' apply And.intro) <;> first | rfl | omega
          · have ec : cnd lo hi' false true = false := by simp [cnd, n1, n2, q1]
            rw [ec] at et
            refine call_by (o1) (by first | rfl | (simp only [tocvs, tocv, hF, n1, n2, q1]; rfl) | (simp only [tocvs, tocv, toboxes, tobox, updH_at, Nat.reduceEqDiff, ↓reduceIte, hF, n1, n2, q1]; rfl)) (by simp) ?_
            simp (disch := omega) only [wk, tis, Int.reduceNe, Int.reduceEq, Int.reduceLT, Int.reduceLE, Int.reduceAdd, Int.reduceSub, Int.reduceNeg, Int.reduceMul, Int.reduceToNat, Nat.reduceSub, Nat.reduceMul, Nat.reduceLeDiff, Nat.reduceAdd, Nat.reduceLT, Nat.reduceEqDiff, reduceCtorEq, ↓reduceIte, rqs, Bool.true_beq, Bool.false_beq, Bool.not_true, Bool.not_false, rootr_len, rootr_get, rootr_rows, fldRat0, hF, n1, n2, q1]
            refine call_by (o2) (by first | rfl | (simp only [tocvs, tocv, hF, n1, n2, q1]; rfl) | (simp only [tocvs, tocv, toboxes, tobox, updH_at, Nat.reduceEqDiff, ↓reduceIte, hF, n1, n2, q1]; rfl)) (by simp) ?_
            simp (disch := omega) only [wk, tis, Int.reduceNe, Int.reduceEq, Int.reduceLT, Int.reduceLE, Int.reduceAdd, Int.reduceSub, Int.reduceNeg, Int.reduceMul, Int.reduceToNat, Nat.reduceSub, Nat.reduceMul, Nat.reduceLeDiff, Nat.reduceAdd, Nat.reduceLT, Nat.reduceEqDiff, reduceCtorEq, ↓reduceIte, rqs, Bool.true_beq, Bool.false_beq, Bool.not_true, Bool.not_false, rootr_len, rootr_get, rootr_rows, fldRat0, hF, n1, n2, q1]
            first | exact log_by (by kernel_rfl) | refine ⟨log_by (by kernel_rfl), ?_⟩
            refine ⟨⟨i + 1, by omega, by omega, ?_⟩, by omega⟩
            rw [et]
            (repeat' apply And.intro) <;> first | rfl | omega
          · have ec : cnd lo hi' true false = false := by simp [cnd, n1, n2, q1]
            rw [ec] at et
            refine call_by (o1) (by first | rfl | (simp only [tocvs, tocv, hF, n1, n2, q1]; rfl) | (simp only [tocvs, tocv, toboxes, tobox, updH_at, Nat.reduceEqDiff, ↓reduceIte, hF, n1, n2, q1]; rfl)) (by simp) ?_
            simp (disch := omega) only [wk, tis, Int.reduceNe, Int.reduceEq, Int.reduceLT, Int.reduceLE, Int.reduceAdd, Int.reduceSub, Int.reduceNeg, Int.reduceMul, Int.reduceToNat, Nat.reduceSub, Nat.reduceMul, Nat.reduceLeDiff, Nat.reduceAdd, Nat.reduceLT, Nat.reduceEqDiff, reduceCtorEq, ↓reduceIte, rqs, Bool.true_beq, Bool.false_beq, Bool.not_true, Bool.not_false, rootr_len, rootr_get, rootr_rows, fldRat0, hF, n1, n2, q1]
            refine call_by (o2) (by first | rfl | (simp only [tocvs, tocv, hF, n1, n2, q1]; rfl) | (simp only [tocvs, tocv, toboxes, tobox, updH_at, Nat.reduceEqDiff, ↓reduceIte, hF, n1, n2, q1]; rfl)) (by simp) ?_
            simp (disch := omega) only [wk, tis, Int.reduceNe, Int.reduceEq, Int.reduceLT, Int.reduceLE, Int.reduceAdd, Int.reduceSub, Int.reduceNeg, Int.reduceMul, Int.reduceToNat, Nat.reduceSub, Nat.reduceMul, Nat.reduceLeDiff, Nat.reduceAdd, Nat.reduceLT, Nat.reduceEqDiff, reduceCtorEq, ↓reduceIte, rqs, Bool.true_beq, Bool.false_beq, Bool.not_true, Bool.not_false, rootr_len, rootr_get, rootr_rows, fldRat0, hF, n1, n2, q1]
            first | exact log_by (by kernel_rfl) | refine ⟨log_by (by kernel_rfl), ?_⟩
            refine ⟨⟨i + 1, by omega, by omega, ?_⟩, by omega⟩
            rw [et]
            (repeat' apply And.intro) <;> first | rfl | omega
          · have ec : cnd lo hi' true true = false := by simp [cnd, n1, n2, q1]
            rw [ec] at et
            refine call_by (o1) (by first | rfl | (simp only [tocvs, tocv, hF, n1, n2, q1]; rfl) | (simp only [tocvs, tocv, toboxes, tobox, updH_at, Nat.reduceEqDiff, ↓reduceIte, hF, n1, n2, q1]; rfl)) (by simp) ?_
            simp (disch := omega) only [wk, tis, Int.reduceNe, Int.reduceEq, Int.reduceLT, Int.reduceLE, Int.reduceAdd, Int.reduceSub, Int.reduceNeg, Int.reduceMul, Int.reduceToNat, Nat.reduceSub, Nat.reduceMul, Nat.reduceLeDiff, Nat.reduceAdd, Nat.reduceLT, Nat.reduceEqDiff, reduceCtorEq, ↓reduceIte, rqs, Bool.true_beq, Bool.false_beq, Bool.not_true, Bool.not_false, rootr_len, rootr_get, rootr_rows, fldRat0, hF, n1, n2, q1]
            refine call_by (o2) (by first | rfl | (simp only [tocvs, tocv, hF, n1, n2, q1]; rfl) | (simp only [tocvs, tocv, toboxes, tobox, updH_at, Nat.reduceEqDiff, ↓reduceIte, hF, n1, n2, q1]; rfl)) (by simp) ?_
            simp (disch := omega) only [wk, tis, Int.reduceNe, Int.reduceEq, Int.reduceLT, Int.reduceLE, Int.reduceAdd, Int.reduceSub, Int.reduceNeg, Int.reduceMul, Int.reduceToNat, Nat.reduceSub, Nat.reduceMul, Nat.reduceLeDiff, Nat.reduceAdd, Nat.reduceLT, Nat.reduceEqDiff, reduceCtorEq, ↓reduceIte, rqs, Bool.true_beq, Bool.false_beq, Bool.not_true, Bool.not_false, rootr_len, rootr_get, rootr_rows, fldRat0, hF, n1, n2, q1]
            first | exact log_by (by kernel_rfl) | refine ⟨log_by (by kernel_rfl), ?_⟩
            refine ⟨⟨i + 1, by omega, by omega, ?_⟩, by omega⟩
            rw [et]
            (repeat' apply And.intro) <;> first | rfl | omega
        · subst q1
          cases low <;> cases high
          · have ec : cnd lo 0 false false = false := by simp [cnd, n1, n2]
            rw [ec] at et
            refine call_by (o1) (by first | rfl | (simp only [tocvs, tocv, hF, n1, n2]; rfl) | (simp only [tocvs, tocv, toboxes, tobox, updH_at, Nat.reduceEqDiff, ↓reduceIte, hF, n1, n2]; rfl)) (by simp) ?_
            simp (disch := omega) only [wk, tis, Int.reduceNe, Int.reduceEq, Int.reduceLT, Int.reduceLE, Int.reduceAdd, Int.reduceSub, Int.reduceNeg, Int.reduceMul, Int.reduceToNat, Nat.reduceSub, Nat.reduceMul, Nat.reduceLeDiff, Nat.reduceAdd, Nat.reduceLT, Nat.reduceEqDiff, reduceCtorEq, ↓reduceIte, rqs, Bool.true_beq, Bool.false_beq, Bool.not_true, Bool.not_false, rootr_len, rootr_get, rootr_rows, fldRat0, hF, n1, n2]
            refine call_by (o2) (by first | rfl | (simp only [tocvs, tocv, hF, n1, n2]; rfl) | (simp only [tocvs, tocv, toboxes, tobox, updH_at, Nat.reduceEqDiff, ↓reduceIte, hF, n1, n2]; rfl)) (by simp) ?_
            simp (disch := omega) only [wk, tis, Int.reduceNe, Int.reduceEq, Int.reduceLT, Int.reduceLE, Int.reduceAdd, Int.reduceSub, Int.reduceNeg, Int.reduceMul, Int.reduceToNat, Nat.reduceSub, Nat.reduceMul, Nat.reduceLeDiff, Nat.reduceAdd, Nat.reduceLT, Nat.reduceEqDiff, reduceCtorEq, ↓reduceIte, rqs, Bool.true_beq, Bool.false_beq, Bool.not_true, Bool.not_false, rootr_len, rootr_get, rootr_rows, fldRat0, hF, n1, n2]
            first | exact log_by (by kernel_rfl) | refine ⟨log_by (by kernel_rfl), ?_⟩
            refine ⟨⟨i + 1, by omega, by omega, ?_⟩, by omega⟩
            rw [et]
            (repeat' apply And.intro) <;> first | rfl | omega
          · have ec : cnd lo 0 false true = false := by simp [cnd, n1, n2]
            rw [ec] at et
            refine call_by (o1) (by first | rfl | (simp only [tocvs, tocv, hF, n1, n2]; rfl) | (simp only [tocvs, tocv, toboxes, tobox, updH_at, Nat.reduceEqDiff, ↓reduceIte, hF, n1, n2]; rfl)) (by simp) ?_
            simp (disch := omega) only [wk, tis, Int.reduceNe, Int.reduceEq, Int.reduceLT, Int.reduceLE, Int.reduceAdd, Int.reduceSub, Int.reduceNeg, Int.reduceMul, Int.reduceToNat, Nat.reduceSub, Nat.reduceMul, Nat.reduceLeDiff, Nat.reduceAdd, Nat.reduceLT, Nat.reduceEqDiff, reduceCtorEq, ↓reduceIte, rqs, Bool.true_beq, Bool.false_beq, Bool.not_true, Bool.not_false, rootr_len, rootr_get, rootr_rows, fldRat0, hF, n1, n2]
            refine call_by (o2) (by first | rfl | (simp only [tocvs, tocv, hF, n1, n2]; rfl) | (simp only [tocvs, tocv, toboxes, tobox, updH_at, Nat.reduceEqDiff, ↓reduceIte, hF, n1, n2]; rfl)) (by simp) ?_
            simp (disch := omega) only [wk, tis, Int.reduceNe, Int.reduceEq, Int.reduceLT, Int.reduceLE, Int.reduceAdd, Int.reduceSub, Int.reduceNeg, Int.reduceMul, Int.reduceToNat, Nat.reduceSub, Nat.reduceMul, Nat.reduceLeDiff, Nat.reduceAdd, Nat.reduceLT, Nat.reduceEqDiff, reduceCtorEq, ↓reduceIte, rqs, Bool.true_beq, Bool.false_beq, Bool.not_true, Bool.not_false, rootr_len, rootr_get, rootr_rows, fldRat0, hF, n1, n2]
            first | exact log_by (by kernel_rfl) | refine ⟨log_by (by kernel_rfl), ?_⟩
            refine ⟨⟨i + 1, by omega, by omega, ?_⟩, by omega⟩
            rw [et]
            (repeat' apply And.intro) <;> first | rfl | omega
          · have ec : cnd lo 0 true false = false := by simp [cnd, n1, n2]
            rw [ec] at et
            refine call_by (o1) (by first | rfl | (simp only [tocvs, tocv, hF, n1, n2]; rfl) | (simp only [tocvs, tocv, toboxes, tobox, updH_at, Nat.reduceEqDiff, ↓reduceIte, hF, n1, n2]; rfl)) (by simp) ?_
            simp (disch := omega) only [wk, tis, Int.reduceNe, Int.reduceEq, Int.reduceLT, Int.reduceLE, Int.reduceAdd, Int.reduceSub, Int.reduceNeg, Int.reduceMul, Int.reduceToNat, Nat.reduceSub, Nat.reduceMul, Nat.reduceLeDiff, Nat.reduceAdd, Nat.reduceLT, Nat.reduceEqDiff, reduceCtorEq, ↓reduceIte, rqs, Bool.true_beq, Bool.false_beq, Bool.not_true, Bool.not_false, rootr_len, rootr_get, rootr_rows, fldRat0, hF, n1, n2]
            refine call_by (o2) (by first | rfl | (simp only [tocvs, tocv, hF, n1, n2]; rfl) | (simp only [tocvs, tocv, toboxes, tobox, updH_at, Nat.reduceEqDiff, ↓reduceIte, hF, n1, n2]; rfl)) (by simp) ?_
            simp (disch := omega) only [wk, tis, Int.reduceNe, Int.reduceEq, Int.reduceLT, Int.reduceLE, Int.reduceAdd, Int.reduceSub, Int.reduceNeg, Int.reduceMul, Int.reduceToNat, Nat.reduceSub, Nat.reduceMul, Nat.reduceLeDiff, Nat.reduceAdd, Nat.reduceLT, Nat.reduceEqDiff, reduceCtorEq, ↓reduceIte, rqs, Bool.true_beq, Bool.false_beq, Bool.not_true, Bool.not_false, rootr_len, rootr_get, rootr_rows, fldRat0, hF, n1, n2]
            first | exact log_by (by kernel_rfl) | refine ⟨log_by (by kernel_rfl), ?_⟩
            refine ⟨⟨i + 1, by omega, by omega, ?_⟩, by omega⟩
            rw [et]
            (repeat' apply And.intro) <;> first | rfl | omega
          · have ec : cnd lo 0 true true = false := by simp [cnd, n1, n2]
            rw [ec] at et
            refine call_by (o1) (by first | rfl | (simp only [tocvs, tocv, hF, n1, n2]; rfl) | (simp only [tocvs, tocv, toboxes, tobox, updH_at, Nat.reduceEqDiff, ↓reduceIte, hF, n1, n2]; rfl)) (by simp) ?_
            simp (disch := omega) only [wk, tis, Int.reduceNe, Int.reduceEq, Int.reduceLT, Int.reduceLE, Int.reduceAdd, Int.reduceSub, Int.reduceNeg, Int.reduceMul, Int.reduceToNat, Nat.reduceSub, Nat.reduceMul, Nat.reduceLeDiff, Nat.reduceAdd, Nat.reduceLT, Nat.reduceEqDiff, reduceCtorEq, ↓reduceIte, rqs, Bool.true_beq, Bool.false_beq, Bool.not_true, Bool.not_false, rootr_len, rootr_get, rootr_rows, fldRat0, hF, n1, n2]
            refine call_by (o2) (by first | rfl | (simp only [tocvs, tocv, hF, n1, n2]; rfl) | (simp only [tocvs, tocv, toboxes, tobox, updH_at, Nat.reduceEqDiff, ↓reduceIte, hF, n1, n2]; rfl)) (by simp) ?_
            simp (disch := omega) only [wk, tis, Int.reduceNe, Int.reduceEq, Int.reduceLT, Int.reduceLE, Int.reduceAdd, Int.reduceSub, Int.reduceNeg, Int.reduceMul, Int.reduceToNat, Nat.reduceSub, Nat.reduceMul, Nat.reduceLeDiff, Nat.reduceAdd, Nat.reduceLT, Nat.reduceEqDiff, reduceCtorEq, ↓reduceIte, rqs, Bool.true_beq, Bool.false_beq, Bool.not_true, Bool.not_false, rootr_len, rootr_get, rootr_rows, fldRat0, hF, n1, n2]
            first | exact log_by (by kernel_rfl) | refine ⟨log_by (by kernel_rfl), ?_⟩
            refine ⟨⟨i + 1, by omega, by omega, ?_⟩, by omega⟩
            rw [et]
            (repeat' apply And.intro) <;> first | rfl | omega
        · have m1 : ¬ hi' < 0 := by omega
          have m2 : ¬ hi' = 0 := by omega
          cases low <;> cases high
          · have ec : cnd lo hi' false false = false := by simp [cnd, n1, n2, m1, m2]
            rw [ec] at et
            refine call_by (o1) (by first | rfl | (simp only [tocvs, tocv, hF, n1, n2, m1, m2]; rfl) | (simp only [tocvs, tocv, toboxes, tobox, updH_at, Nat.reduceEqDiff, ↓reduceIte, hF, n1, n2, m1, m2]; rfl)) (by simp) ?_
            simp (disch := omega) only [wk, tis, Int.reduceNe, Int.reduceEq, Int.reduceLT, Int.reduceLE, Int.reduceAdd, Int.reduceSub, Int.reduceNeg, Int.reduceMul, Int.reduceToNat, Nat.reduceSub, Nat.reduceMul, Nat.reduceLeDiff, Nat.reduceAdd, Nat.reduceLT, Nat.reduceEqDiff, reduceCtorEq, ↓reduceIte, rqs, Bool.true_beq, Bool.false_beq, Bool.not_true, Bool.not_false, rootr_len, rootr_get, rootr_rows, fldRat0, hF, n1, n2, m1, m2]
            refine call_by (o2) (by first | rfl | (simp only [tocvs, tocv, hF, n1, n2, m1, m2]; rfl) | (simp only [tocvs, tocv, toboxes, tobox, updH_at, Nat.reduceEqDiff, ↓reduceIte, hF, n1, n2, m1, m2]; rfl)) (by simp) ?_
            simp (disch := omega) only [wk, tis, Int.reduceNe, Int.reduceEq, Int.reduceLT, Int.reduceLE, Int.reduceAdd, Int.reduceSub, Int.reduceNeg, Int.reduceMul, Int.reduceToNat, Nat.reduceSub, Nat.reduceMul, Nat.reduceLeDiff, Nat.reduceAdd, Nat.reduceLT, Nat.reduceEqDiff, reduceCtorEq, ↓reduceIte, rqs, Bool.true_beq, Bool.false_beq, Bool.not_true, Bool.not_false, rootr_len, rootr_get, rootr_rows, fldRat0, hF, n1, n2, m1, m2]
            first | exact log_by (by kernel_rfl) | refine ⟨log_by (by kernel_rfl), ?_⟩
            refine ⟨⟨i + 1, by omega, by omega, ?_⟩, by omega⟩
            rw [et]
            (repeat' apply And.intro) <;> first | rfl | omega
          · have ec : cnd lo hi' false true = false := by simp [cnd, n1, n2, m1, m2]
            rw [ec] at et
            refine call_by (o1) (by first | rfl | (simp only [tocvs, tocv, hF, n1, n2, m1, m2]; rfl) | (simp only [tocvs, tocv, toboxes, tobox, updH_at, Nat.reduceEqDiff, ↓reduceIte, hF, n1, n2, m1, m2]; rfl)) (by simp) ?_
            simp (disch := omega) only [wk, tis, Int.reduceNe, Int.reduceEq, Int.reduceLT, Int.reduceLE, Int.reduceAdd, Int.reduceSub, Int.reduceNeg, Int.reduceMul, Int.reduceToNat, Nat.reduceSub, Nat.reduceMul, Nat.reduceLeDiff, Nat.reduceAdd, Nat.reduceLT, Nat.reduceEqDiff, reduceCtorEq, ↓reduceIte, rqs, Bool.true_beq, Bool.false_beq, Bool.not_true, Bool.not_false, rootr_len, rootr_get, rootr_rows, fldRat0, hF, n1, n2, m1, m2]
            refine call_by (o2) (by first | rfl | (simp only [tocvs, tocv, hF, n1, n2, m1, m2]; rfl) | (simp only [tocvs, tocv, toboxes, tobox, updH_at, Nat.reduceEqDiff, ↓reduceIte, hF, n1, n2, m1, m2]; rfl)) (by simp) ?_
            simp (disch := omega) only [wk, tis, Int.reduceNe, Int.reduceEq, Int.reduceLT, Int.reduceLE, Int.reduceAdd, Int.reduceSub, Int.reduceNeg, Int.reduceMul, Int.reduceToNat, Nat.reduceSub, Nat.reduceMul, Nat.reduceLeDiff, Nat.reduceAdd, Nat.reduceLT, Nat.reduceEqDiff, reduceCtorEq, ↓reduceIte, rqs, Bool.true_beq, Bool.false_beq, Bool.not_true, Bool.not_false, rootr_len, rootr_get, rootr_rows, fldRat0, hF, n1, n2, m1, m2]
            first | exact log_by (by kernel_rfl) | refine ⟨log_by (by kernel_rfl), ?_⟩
            refine ⟨⟨i + 1, by omega, by omega, ?_⟩, by omega⟩
            rw [et]
            (repeat' apply And.intro) <;> first | rfl | omega
          · have ec : cnd lo hi' true false = false := by simp [cnd, n1, n2, m1, m2]
            rw [ec] at et
            refine call_by (o1) (by first | rfl | (simp only [tocvs, tocv, hF, n1, n2, m1, m2]; rfl) | (simp only [tocvs, tocv, toboxes, tobox, updH_at, Nat.reduceEqDiff, ↓reduceIte, hF, n1, n2, m1, m2]; rfl)) (by simp) ?_
            simp (disch := omega) only [wk, tis, Int.reduceNe, Int.reduceEq, Int.reduceLT, Int.reduceLE, Int.reduceAdd, Int.reduceSub, Int.reduceNeg, Int.reduceMul, Int.reduceToNat, Nat.reduceSub, Nat.reduceMul, Nat.reduceLeDiff, Nat.reduceAdd, Nat.reduceLT, Nat.reduceEqDiff, reduceCtorEq, ↓reduceIte, rqs, Bool.true_beq, Bool.false_beq, Bool.not_true, Bool.not_false, rootr_len, rootr_get, rootr_rows, fldRat0, hF, n1, n2, m1, m2]
            refine call_by (o2) (by first | rfl | (simp only [tocvs, tocv, hF, n1, n2, m1, m2]; rfl) | (simp only [tocvs, tocv, toboxes, tobox, updH_at, Nat.reduceEqDiff, ↓reduceIte, hF, n1, n2, m1, m2]; rfl)) (by simp) ?_
            simp (disch := omega) only [wk, tis, Int.reduceNe, Int.reduceEq, Int.reduceLT, Int.reduceLE, Int.reduceAdd, Int.reduceSub, Int.reduceNeg, Int.reduceMul, Int.reduceToNat, Nat.reduceSub, Nat.reduceMul, Nat.reduceLeDiff, Nat.reduceAdd, Nat.reduceLT, Nat.reduceEqDiff, reduceCtorEq, ↓reduceIte, rqs, Bool.true_beq, Bool.false_beq, Bool.not_true, Bool.not_false, rootr_len, rootr_get, rootr_rows, fldRat0, hF, n1, n2, m1, m2]
            first | exact log_by (by kernel_rfl) | refine ⟨log_by (by kernel_rfl), ?_⟩
            refine ⟨⟨i + 1, by omega, by omega, ?_⟩, by omega⟩
            rw [et]
            (repeat' apply And.intro) <;> first | rfl | omega
          · have ec : cnd lo hi' true true = false := by simp [cnd, n1, n2, m1, m2]
            rw [ec] at et
            refine call_by (o1) (by first | rfl | (simp only [tocvs, tocv, hF, n1, n2, m1, m2]; rfl) | (simp only [tocvs, tocv, toboxes, tobox, updH_at, Nat.reduceEqDiff, ↓reduceIte, hF, n1, n2, m1, m2]; rfl)) (by simp) ?_
            simp (disch := omega) only [wk, tis, Int.reduceNe, Int.reduceEq, Int.reduceLT, Int.reduceLE, Int.reduceAdd, Int.reduceSub, Int.reduceNeg, Int.reduceMul, Int.reduceToNat, Nat.reduceSub, Nat.reduceMul, Nat.reduceLeDiff, Nat.reduceAdd, Nat.reduceLT, Nat.reduceEqDiff, reduceCtorEq, ↓reduceIte, rqs, Bool.true_beq, Bool.false_beq, Bool.not_true, Bool.not_false, rootr_len, rootr_get, rootr_rows, fldRat0, hF, n1, n2, m1, m2]
            refine call_by (o2) (by first | rfl | (simp only [tocvs, tocv, hF, n1, n2, m1, m2]; rfl) | (simp only [tocvs, tocv, toboxes, tobox, updH_at, Nat.reduceEqDiff, ↓reduceIte, hF, n1, n2, m1, m2]; rfl)) (by simp) ?_
            simp (disch := omega) only [wk, tis, Int.reduceNe, Int.reduceEq, Int.reduceLT, Int.reduceLE, Int.reduceAdd, Int.reduceSub, Int.reduceNeg, Int.reduceMul, Int.reduceToNat, Nat.reduceSub, Nat.reduceMul, Nat.reduceLeDiff, Nat.reduceAdd, Nat.reduceLT, Nat.reduceEqDiff, reduceCtorEq, ↓reduceIte, rqs, Bool.true_beq, Bool.false_beq, Bool.not_true, Bool.not_false, rootr_len, rootr_get, rootr_rows, fldRat0, hF, n1, n2, m1, m2]
            first | exact log_by (by kernel_rfl) | refine ⟨log_by (by kernel_rfl), ?_⟩
            refine ⟨⟨i + 1, by omega, by omega, ?_⟩, by omega⟩
            rw [et]
            (repeat' apply And.intro) <;> first | rfl | omega
    · have c2' : ¬ (i : Int) < 6 := by omega
      rw [show cntk R u v low high i = cntk R u v low high 6 by rw [show i = 6 by omega]] at hF
      simp (disch := omega) only [wk, tis, Int.reduceNe, Int.reduceEq, Int.reduceLT, Int.reduceLE, Int.reduceAdd, Int.reduceSub, Int.reduceNeg, Int.reduceMul, Int.reduceToNat, Nat.reduceSub, Nat.reduceMul, Nat.reduceLeDiff, Nat.reduceAdd, Nat.reduceLT, Nat.reduceEqDiff, reduceCtorEq, ↓reduceIte, rqs, Bool.true_beq, Bool.false_beq, Bool.not_true, Bool.not_false, rootr_len, rootr_get, rootr_rows, fldRat0, hF, c1', c2']
      try rfl
  · have c1' : ¬ (i : Int) < (R.length : Int) := by omega
    have e : cntk R u v low high i = cntk R u v low high 6 := by
      unfold cntk
      rw [List.take_of_length_le (by omega), List.take_of_length_le (by omega)]
    rw [e] at hF
    simp (disch := omega) only [wk, tis, Int.reduceNe, Int.reduceEq, Int.reduceLT, Int.reduceLE, Int.reduceAdd, Int.reduceSub, Int.reduceNeg, Int.reduceMul, Int.reduceToNat, Nat.reduceSub, Nat.reduceMul, Nat.reduceLeDiff, Nat.reduceAdd, Nat.reduceLT, Nat.reduceEqDiff, reduceCtorEq, ↓reduceIte, rqs, Bool.true_beq, Bool.false_beq, Bool.not_true, Bool.not_false, rootr_len, rootr_get, rootr_rows, fldRat0, hF, c1']
    try rfl
theorem kreal_ok (R : List (Int × Int)) (Q : List Int) (f : Int) : AC Tryz.prog 38 [.agg (kn R Q f)] none [cb (decide (Q.length = 0))] := by
  refine AC.by_walk (rs := [.tmp 2]) ords Tryz.func38 (by rfl) (by rfl) (by rfl) (by rfl) (by rfl) ?_
  simp (disch := omega) only [wk, tis, Int.reduceNe, Int.reduceEq, Int.reduceLT, Int.reduceLE, Int.reduceAdd, Int.reduceSub, Int.reduceNeg, Int.reduceMul, Int.reduceToNat, Nat.reduceSub, Nat.reduceMul, Nat.reduceLeDiff, Nat.reduceAdd, Nat.reduceLT, Nat.reduceEqDiff, reduceCtorEq, ↓reduceIte, rqs, Bool.true_beq, Bool.false_beq, Bool.not_true, Bool.not_false, rootr_len, rootr_get, rootr_rows, fldRat0]
  exact decide_eq_decide.mpr (by omega)
theorem kfits_ok (R : List (Int × Int)) (Q : List Int) (ft : Int) (m n : Nat) (hm : m ≤ 2 ^ 40) (h1 : n ≤ m) (h2 : m % 2 = n % 2) (h3 : Q.length = 0 → m = n) : AC Tryz.prog 12 [.agg (kn R Q ft), ci m, ci n] none [cb true] := by
  have f1 : (n : Int) ≤ (m : Int) := by omega
  have f2 : ((m : Int) - (n : Int)).tmod 2 = 0 := by rw [Int.tmod_eq_emod_of_nonneg (by omega)]; omega
  have r := kreal_ok R Q ft
  by_cases he : m = n
  · subst he
    have f3 : (m : Int) - (m : Int) = 0 := by omega
    refine AC.by_walk (rs := [.tmp 6]) ords Tryz.func12 (by rfl) (by rfl) (by rfl) (by rfl) (by rfl) ?_
    simp (disch := omega) only [wk, tis, Int.reduceNe, Int.reduceEq, Int.reduceLT, Int.reduceLE, Int.reduceAdd, Int.reduceSub, Int.reduceNeg, Int.reduceMul, Int.reduceToNat, Nat.reduceSub, Nat.reduceMul, Nat.reduceLeDiff, Nat.reduceAdd, Nat.reduceLT, Nat.reduceEqDiff, reduceCtorEq, ↓reduceIte, rqs, Bool.true_beq, Bool.false_beq, Bool.not_true, Bool.not_false, rootr_len, rootr_get, rootr_rows, fldRat0, f3, show (0 : Int).tmod 2 = 0 from rfl, Int.le_refl]
    try rfl
  · have f3 : ¬ (m : Int) = (n : Int) := by omega
    rw [decide_eq_false (fun e => he (h3 e))] at r
    refine AC.by_walk (rs := [.tmp 6]) ords Tryz.func12 (by rfl) (by rfl) (by rfl) (by rfl) (by rfl) ?_
    simp (disch := omega) only [wk, tis, Int.reduceNe, Int.reduceEq, Int.reduceLT, Int.reduceLE, Int.reduceAdd, Int.reduceSub, Int.reduceNeg, Int.reduceMul, Int.reduceToNat, Nat.reduceSub, Nat.reduceMul, Nat.reduceLeDiff, Nat.reduceAdd, Nat.reduceLT, Nat.reduceEqDiff, reduceCtorEq, ↓reduceIte, rqs, Bool.true_beq, Bool.false_beq, Bool.not_true, Bool.not_false, rootr_len, rootr_get, rootr_rows, fldRat0, f1, f2, f3]
    refine call_by (r) (by first | rfl | (simp only [tocvs, tocv, f1, f2, f3]; rfl) | (simp only [tocvs, tocv, toboxes, tobox, updH_at, Nat.reduceEqDiff, ↓reduceIte, f1, f2, f3]; rfl)) (by simp) ?_
    simp (disch := omega) only [wk, tis, Int.reduceNe, Int.reduceEq, Int.reduceLT, Int.reduceLE, Int.reduceAdd, Int.reduceSub, Int.reduceNeg, Int.reduceMul, Int.reduceToNat, Nat.reduceSub, Nat.reduceMul, Nat.reduceLeDiff, Nat.reduceAdd, Nat.reduceLT, Nat.reduceEqDiff, reduceCtorEq, ↓reduceIte, rqs, Bool.true_beq, Bool.false_beq, Bool.not_true, Bool.not_false, rootr_len, rootr_get, rootr_rows, fldRat0, f1, f2, f3]
    try rfl
theorem spos_ok (p : List RI) (h : RP (2 ^ 40) (2 ^ 40) p) (h0 : tz (pv p) ≠ 0) : AC Tryz.prog 9 [cw p] none [ci (chg (pv p)), ci 0] := by
  have n := snone_ok p h
  rw [decide_eq_false h0] at n
  have o := of16_ok p h
  refine AC.by_walk (rs := [.tmp 2, .tmp 3]) ords Tryz.func9 (by rfl) (by rfl) (by rfl) (by rfl) (by rfl) ?_
  simp (disch := omega) only [wk, tis, Int.reduceNe, Int.reduceEq, Int.reduceLT, Int.reduceLE, Int.reduceAdd, Int.reduceSub, Int.reduceNeg, Int.reduceMul, Int.reduceToNat, Nat.reduceSub, Nat.reduceMul, Nat.reduceLeDiff, Nat.reduceAdd, Nat.reduceLT, Nat.reduceEqDiff, reduceCtorEq, ↓reduceIte, rqs, Bool.true_beq, Bool.false_beq, Bool.not_true, Bool.not_false, rootr_len, rootr_get, rootr_rows, fldRat0]
  refine call_by (n) (by rfl) (by simp) ?_
  simp (disch := omega) only [wk, tis, Int.reduceNe, Int.reduceEq, Int.reduceLT, Int.reduceLE, Int.reduceAdd, Int.reduceSub, Int.reduceNeg, Int.reduceMul, Int.reduceToNat, Nat.reduceSub, Nat.reduceMul, Nat.reduceLeDiff, Nat.reduceAdd, Nat.reduceLT, Nat.reduceEqDiff, reduceCtorEq, ↓reduceIte, rqs, Bool.true_beq, Bool.false_beq, Bool.not_true, Bool.not_false, rootr_len, rootr_get, rootr_rows, fldRat0]
  refine call_by (o) (by rfl) (by simp) ?_
  simp (disch := omega) only [wk, tis, Int.reduceNe, Int.reduceEq, Int.reduceLT, Int.reduceLE, Int.reduceAdd, Int.reduceSub, Int.reduceNeg, Int.reduceMul, Int.reduceToNat, Nat.reduceSub, Nat.reduceMul, Nat.reduceLeDiff, Nat.reduceAdd, Nat.reduceLT, Nat.reduceEqDiff, reduceCtorEq, ↓reduceIte, rqs, Bool.true_beq, Bool.false_beq, Bool.not_true, Bool.not_false, rootr_len, rootr_get, rootr_rows, fldRat0]
  try rfl
theorem sline_ok (p : List RI) (m : Nat) (h : RP (2 ^ 10) (2 ^ 20) p) (h0 : tz (pv p) ≠ 0) (hm : lw (pv p) = m) (hl : m < p.length) : AC Tryz.prog 10 [cw p] none [ci (chg (sc (-1) (pv p))), ci m, ci (chg (pv p)), ci 0] := by
  have n := snone_ok p (h.mono (by omega) (by omega))
  rw [decide_eq_false h0] at n
  have o := of16_ok p (h.mono (by omega) (by omega))
  have l := plow_ok p (h.mono (by omega) (by omega))
  rw [hm, if_pos hl, if_pos hl] at l
  have fl := mflip_ok p h
  have hb : PB (2 ^ 10) (2 ^ 30) (sc (-1) (trimz (pv p))) := .of (by rw [sc_len]; exact h.pv.trimz.1) fun i => by
    rw [cf_sc]
    have h1 := h.pv.trimz.cf i
    rcases (eone i).1 with e | e <;> rw [e]
    · rw [Int.mul_one]; omega
    · rw [Int.mul_neg, Int.mul_one, zl_neg]; omega
  have o2 := of16_ok (cn (sc (-1) (trimz (pv p)))) ((rp_cn hb).mono (by omega) (by omega))
  rw [show chg (pv (cn (sc (-1) (trimz (pv p))))) = chg (sc (-1) (pv p)) by
    unfold chg
    rw [chf_ext (p := pv (cn (sc (-1) (trimz (pv p))))) (q := sc (-1) (pv p)) fun k => by rw [cf_cn, cf_sc, cf_sc, cf_trimz]]] at o2
  refine AC.by_walk (rs := [.tmp 2, .tmp 3, .tmp 4, .tmp 5]) ords Tryz.func10 (by rfl) (by rfl) (by rfl) (by rfl) (by rfl) ?_
  simp (disch := omega) only [wk, tis, Int.reduceNe, Int.reduceEq, Int.reduceLT, Int.reduceLE, Int.reduceAdd, Int.reduceSub, Int.reduceNeg, Int.reduceMul, Int.reduceToNat, Nat.reduceSub, Nat.reduceMul, Nat.reduceLeDiff, Nat.reduceAdd, Nat.reduceLT, Nat.reduceEqDiff, reduceCtorEq, ↓reduceIte, rqs, Bool.true_beq, Bool.false_beq, Bool.not_true, Bool.not_false, rootr_len, rootr_get, rootr_rows, fldRat0]
  refine call_by (n) (by rfl) (by simp) ?_
  simp (disch := omega) only [wk, tis, Int.reduceNe, Int.reduceEq, Int.reduceLT, Int.reduceLE, Int.reduceAdd, Int.reduceSub, Int.reduceNeg, Int.reduceMul, Int.reduceToNat, Nat.reduceSub, Nat.reduceMul, Nat.reduceLeDiff, Nat.reduceAdd, Nat.reduceLT, Nat.reduceEqDiff, reduceCtorEq, ↓reduceIte, rqs, Bool.true_beq, Bool.false_beq, Bool.not_true, Bool.not_false, rootr_len, rootr_get, rootr_rows, fldRat0]
  refine call_by (l) (by rfl) (by simp) ?_
  simp (disch := omega) only [wk, tis, Int.reduceNe, Int.reduceEq, Int.reduceLT, Int.reduceLE, Int.reduceAdd, Int.reduceSub, Int.reduceNeg, Int.reduceMul, Int.reduceToNat, Nat.reduceSub, Nat.reduceMul, Nat.reduceLeDiff, Nat.reduceAdd, Nat.reduceLT, Nat.reduceEqDiff, reduceCtorEq, ↓reduceIte, rqs, Bool.true_beq, Bool.false_beq, Bool.not_true, Bool.not_false, rootr_len, rootr_get, rootr_rows, fldRat0]
  refine call_by (fl) (by rfl) (by simp) ?_
  simp (disch := omega) only [wk, tis, Int.reduceNe, Int.reduceEq, Int.reduceLT, Int.reduceLE, Int.reduceAdd, Int.reduceSub, Int.reduceNeg, Int.reduceMul, Int.reduceToNat, Nat.reduceSub, Nat.reduceMul, Nat.reduceLeDiff, Nat.reduceAdd, Nat.reduceLT, Nat.reduceEqDiff, reduceCtorEq, ↓reduceIte, rqs, Bool.true_beq, Bool.false_beq, Bool.not_true, Bool.not_false, rootr_len, rootr_get, rootr_rows, fldRat0]
  refine call_by (o2) (by rfl) (by simp) ?_
  simp (disch := omega) only [wk, tis, Int.reduceNe, Int.reduceEq, Int.reduceLT, Int.reduceLE, Int.reduceAdd, Int.reduceSub, Int.reduceNeg, Int.reduceMul, Int.reduceToNat, Nat.reduceSub, Nat.reduceMul, Nat.reduceLeDiff, Nat.reduceAdd, Nat.reduceLT, Nat.reduceEqDiff, reduceCtorEq, ↓reduceIte, rqs, Bool.true_beq, Bool.false_beq, Bool.not_true, Bool.not_false, rootr_len, rootr_get, rootr_rows, fldRat0]
  refine call_by (o) (by rfl) (by simp) ?_
  simp (disch := omega) only [wk, tis, Int.reduceNe, Int.reduceEq, Int.reduceLT, Int.reduceLE, Int.reduceAdd, Int.reduceSub, Int.reduceNeg, Int.reduceMul, Int.reduceToNat, Nat.reduceSub, Nat.reduceMul, Nat.reduceLeDiff, Nat.reduceAdd, Nat.reduceLT, Nat.reduceEqDiff, reduceCtorEq, ↓reduceIte, rqs, Bool.true_beq, Bool.false_beq, Bool.not_true, Bool.not_false, rootr_len, rootr_get, rootr_rows, fldRat0]
  try rfl
theorem rl_mul (A : List (Int × Int)) (x y : List Int) : ps (rlist A (pmul x y)) = ps x * ps (rlist A y) := by
  induction A with
  | nil => show ps (pmul x y) = _; rw [ps_pmul]; rfl
  | cons b B ih => rw [rlist_cons, rlist_cons, ps_pmul, ps_pmul, ih, ← PS.mul_assoc, PS.mul_comm (ps (rf b)), PS.mul_assoc]
theorem fold_rl : ∀ (A : List (Int × Int)) (q : List Int), ps (A.foldl (fun q r => pmul q (rf r)) q) = ps (rlist A q)
  | [], _ => rfl
  | r :: A, q => by
    rw [List.foldl_cons, fold_rl A, rlist_cons, ps_pmul, ← rl_mul A (rf r) q]
    have : ∀ (B : List (Int × Int)) (x y : List Int), ps x = ps y → ps (rlist B x) = ps (rlist B y) := fun B x y e => by
      induction B with
      | nil => exact e
      | cons b B ih => rw [rlist_cons, rlist_cons, ps_pmul, ps_pmul, ih]
    exact this A _ _ (by rw [ps_pmul, ps_pmul, PS.mul_comm])
theorem fold_wl (A : List (Int × Int)) : ∀ (C : List Int) (q g : List Int), ps q = ps (rlist A g) → ps (C.foldl (fun q c => pmul q (pfl c)) q) = ps (rlist A (C.foldl (fun q c => pmul q (pfl c)) g))
  | [], _, _, e => e
  | c :: C, q, g, e => by
    rw [List.foldl_cons, List.foldl_cons]
    refine fold_wl A C _ _ ?_
    rw [ps_pmul, e]
    have h1 := rl_mul A (pfl c) g
    have h2 : ps (rlist A (pmul g (pfl c))) = ps (rlist A (pmul (pfl c) g)) := by
      have : ∀ (B : List (Int × Int)) (x y : List Int), ps x = ps y → ps (rlist B x) = ps (rlist B y) := fun B x y e => by
        induction B with
        | nil => exact e
        | cons b B ih => rw [rlist_cons, rlist_cons, ps_pmul, ps_pmul, ih]
      exact this A _ _ (by rw [ps_pmul, ps_pmul, PS.mul_comm])
    rw [h2, h1, PS.mul_comm]
theorem gl_fold : ∀ (C : List Int) (g : List Int), GL g → tz g % 2 = 1 → GL (C.foldl (fun q c => pmul q (pfl c)) g) ∧ tz (C.foldl (fun q c => pmul q (pfl c)) g) = tz g + 2 * C.length
  | [], g, h, _ => ⟨h, by show tz g = tz g + 0; omega⟩
  | c :: C, g, h, ho => by
    rw [List.foldl_cons]
    have hx : 0 ≤ c * c := isq c
    have t3 : tz (pfl c) = 3 := tz_spec (q := pfl c) (n := 2) (by show (1 : Int) ≠ 0; decide) fun k hk => cf_ge (by show 3 ≤ k; omega)
    have l3 : lc (pfl c) = 1 := by unfold lc; rw [t3]; rfl
    obtain ⟨a, l1, l2⟩ := h.l
    have hn : lc g ≠ 0 := fun e => (sign_pm l1.2.2).elim (fun x => by rw [e] at l2; rw [← l2] at x; exact absurd x (by decide)) (fun x => by rw [e] at l2; rw [← l2] at x; exact absurd x (by decide))
    have low := low_pmul l1 (pfl c) 0 (c * c + 1) ⟨fun j hj => by omega, rfl, by omega⟩
    have lcm := lc_pmul (P := g) (Q := pfl c) hn (by rw [l3]; decide)
    have tzm := tz_pmul (p := g) (q := pfl c) h.tz (by omega)
    have G : GL (pmul g (pfl c)) := ⟨(c * c + 1) * a, ⟨fun j hj => by omega, by rw [pmul_comm]; exact low.2.1, low.2.2⟩, by
      rw [lcm, l3, Int.mul_one, l2, Int.sign_mul, Int.sign_eq_one_of_pos (a := c * c + 1) (by omega), Int.one_mul]⟩
    obtain ⟨i1, i2⟩ := gl_fold C _ G (by omega)
    exact ⟨i1, by rw [i2, tzm, List.length_cons]; omega⟩
theorem kp_ps (R : List (Int × Int)) (Q : List Int) (f : Int) : ps (kp R Q f) = ps (rlist (rts R) ((prs2 Q).foldl (fun q c => pmul q (pfl c)) [frc f])) := by
  unfold kp wsl qsl
  rw [List.take_length, List.take_length]
  exact fold_wl (rts R) (prs2 Q) _ _ (fold_rl _ _)
theorem rt_sign (r : Int × Int) : (rt r).1.sign = (rnn r.1).sign := by
  have h := (rtq_sign r 0).1
  rw [show rtq r - ((0 : Int) : Rat) = rtq r by rw [Rat.intCast_zero]; grind, Int.zero_mul, Int.sub_zero] at h
  exact h
theorem cntk_rts (R : List (Int × Int)) (u v : Rat) (low high : Bool) (P : Int → Bool) (h : ∀ r, cnd (lor u r) (hir v r) low high = P (rt r).1) : cntk R u v low high 6 = (rts R).countP fun r => P r.1 := by
  unfold cntk rts
  rw [List.countP_map]
  congr 1
  funext r
  exact h r
theorem sign_iff (x : Int) : (x.sign < 0 ↔ x < 0) ∧ (x.sign = 0 ↔ x = 0) := by
  rcases sign_cases x with ⟨h, e⟩ | ⟨h, e⟩ | ⟨h, e⟩ <;> rw [e] <;> omega
theorem rt_cases (r : Int × Int) : (0 < (rt r).1 ↔ 0 < rnn r.1) ∧ ((rt r).1 = 0 ↔ rnn r.1 = 0) ∧ ((rt r).1 < 0 ↔ rnn r.1 < 0) := by
  have h := rt_sign r
  rcases sign_cases (rt r).1 with ⟨a, e⟩ | ⟨a, e⟩ | ⟨a, e⟩ <;> rcases sign_cases (rnn r.1) with ⟨b, e'⟩ | ⟨b, e'⟩ | ⟨b, e'⟩ <;> omega
theorem cnt_zero (R : List (Int × Int)) : cntk R ((0 : Int) : Rat) ((0 : Int) : Rat) true true 6 = nzer (rts R) := cntk_rts R ((0 : Int) : Rat) ((0 : Int) : Rat) true true (fun x => decide (x = 0)) fun r => by
  have h := rt_cases r
  rw [lor_int, hir_int]
  unfold cnd
  rw [Int.zero_mul, Int.zero_sub, Int.sub_zero]
  have s1 := sign_iff (-rnn r.1)
  have s2 := sign_iff (rnn r.1)
  simp only [Bool.true_and, ← Bool.decide_or, ← Bool.decide_and]
  exact decide_eq_decide.mpr (by omega)
theorem cnt_above (R : List (Int × Int)) : cntk R ((0 : Int) : Rat) ((1000 : Int) : Rat) false false 6 = npos (rts R) := cntk_rts R ((0 : Int) : Rat) ((1000 : Int) : Rat) false false (fun x => decide (0 < x)) fun r => by
  have h := rt_cases r
  obtain ⟨m, hm, _, e⟩ := rdn_eq r.2
  have hb := rnn_lt r.1
  rw [lor_int, hir_int]
  unfold cnd
  rw [Int.zero_mul, Int.zero_sub, e]
  have s1 := sign_iff (-rnn r.1)
  have s2 := sign_iff (rnn r.1 - 1000 * ((m + 1 : Nat) : Int))
  simp only [Bool.false_and, Bool.or_false, ← Bool.decide_and]
  exact decide_eq_decide.mpr (by omega)
theorem cnt_below (R : List (Int × Int)) : cntk R ((-1000 : Int) : Rat) ((0 : Int) : Rat) false false 6 = nneg (rts R) := cntk_rts R ((-1000 : Int) : Rat) ((0 : Int) : Rat) false false (fun x => decide (x < 0)) fun r => by
  have h := rt_cases r
  obtain ⟨m, hm, _, e⟩ := rdn_eq r.2
  have hb := rnn_lt r.1
  rw [lor_int, hir_int]
  unfold cnd
  rw [Int.zero_mul, Int.sub_zero, e]
  have s1 := sign_iff (rnn r.1)
  have s2 := sign_iff (-1000 * ((m + 1 : Nat) : Int) - rnn r.1)
  simp only [Bool.false_and, Bool.or_false, ← Bool.decide_and]
  exact decide_eq_decide.mpr (by omega)
theorem descartes16_law (R : List (Int × Int)) (Q : List Int) (f : Int) (hR : R.length ≤ 9223372036854775807) (hQ : Q.length ≤ 9223372036854775807) : AC Tryz.prog 3 [.agg (kn R Q f)] none [cb true] := by
  have kp1 := kpoly_ok R Q f hR hQ
  obtain ⟨hf0, hf1, hf2⟩ := frc_ne f
  have zc : zl (frc f) ≤ 1 := zl_le.mpr (by rw [Nat.pow_one]; simp only [W]; omega)
  have hrl := rts_len R
  have hpl := prs2_len Q
  have hA : ∀ r ∈ rts R, 0 < r.2 := fun r hr => by
    obtain ⟨x, _, rfl⟩ := List.mem_map.1 hr
    show 0 < ((rtq x).den : Int)
    have := (rtq x).den_pos
    omega
  have t1 : tz [frc f] = 1 := tz_spec (q := [frc f]) (n := 0) hf0 fun k hk => cf_ge (by show 1 ≤ k; omega)
  have G0 : GL [frc f] := ⟨frc f, ⟨fun j hj => by omega, rfl, hf0⟩, by unfold lc; rw [t1]; rfl⟩
  obtain ⟨hg, ht⟩ := gl_fold (prs2 Q) [frc f] G0 (by omega)
  have hps := kp_ps R Q f
  obtain ⟨d1, d2, d3, d4, ⟨c, hlow⟩, d5⟩ := descartes hA hg (by omega) hps
  have hpb : PB 200 200 (kp R Q f) := by
    have qb := qsl_pb zc (rts_z R) (rts R).length (Nat.le_refl _) (by omega)
    exact (wsl_pb (qb.mono (n' := 100) (k' := 100) (by omega) (by omega)) (by omega) (prs2_b Q) (prs2 Q).length (Nat.le_refl _) (by omega)).mono (by omega) (by omega)
  have hreal : Q.length = 0 → tz ((prs2 Q).foldl (fun q c => pmul q (pfl c)) [frc f]) = 1 := fun h => by rw [ht, t1, hpl]; omega
  generalize hP : kp R Q f = P at *
  have hrp : RP 200 200 (cn P) := rp_cn hpb
  have h0 : tz P ≠ 0 := tz_of_low hlow
  have h0' : tz (pv (cn P)) ≠ 0 := by rw [tz_eq_of_cf (cf_cn P)]; exact h0
  have ec : chg (pv (cn P)) = chg P := by unfold chg; rw [chf_ext (cf_cn P)]
  have ec2 : chg (sc (-1) (pv (cn P))) = chg (sc (-1) P) := by
    unfold chg
    rw [chf_ext (p := sc (-1) (pv (cn P))) (q := sc (-1) P) fun k => by rw [cf_sc, cf_sc, cf_cn]]
  have hlw : lw (pv (cn P)) = nzer (rts R) := lw_at (fun j hj => by rw [cf_cn]; exact hlow.1 j hj) (by rw [cf_cn, hlow.2.1]; exact hlow.2.2)
  have hll : nzer (rts R) < (cn P).length := by
    have h1 : LowAt (trimz P) (nzer (rts R)) c := ⟨fun j hj => by rw [cf_trimz]; exact hlow.1 j hj, by rw [cf_trimz]; exact hlow.2.1, hlow.2.2⟩
    have := low_lt h1
    rwa [cn, List.length_map]
  have q1 := spos_ok (cn P) (hrp.mono (by omega) (by omega)) h0'
  have q2 := sline_ok (cn P) (nzer (rts R)) (hrp.mono (by omega) (by omega)) h0' hlw hll
  rw [ec] at q1 q2
  rw [ec2] at q2
  have p1 := hP_ok 1000 1 (by omega) (by omega) (by omega) (by omega)
  rw [show ((1000 : Int) : Rat) / ((1 : Nat) : Rat) = ((1000 : Int) : Rat) by decide +kernel] at p1
  have p0 := hP_ok 0 1 (by omega) (by omega) (by omega) (by omega)
  rw [show ((0 : Int) : Rat) / ((1 : Nat) : Rat) = ((0 : Int) : Rat) by decide +kernel] at p0
  have nt := hnot_ok (crat ((1000 : Int) : Rat)) ((szq_end (u := 1000) (by omega)).mono (by omega)) (nv_crat0 _)
  rw [qv_crat, show -((1000 : Int) : Rat) = ((-1000 : Int) : Rat) by decide +kernel] at nt
  have k0 := kcount_ok R Q f ((0 : Int) : Rat) ((0 : Int) : Rat) true true hR (by decide +kernel) (by decide +kernel)
  have k1 := kcount_ok R Q f ((0 : Int) : Rat) ((1000 : Int) : Rat) false false hR (by decide +kernel) (by decide +kernel)
  have k2 := kcount_ok R Q f ((-1000 : Int) : Rat) ((0 : Int) : Rat) false false hR (by decide +kernel) (by decide +kernel)
  rw [cnt_zero] at k0
  rw [cnt_above] at k1
  rw [cnt_below] at k2
  have hcl : ∀ q : List Int, PB 200 200 q → chg q ≤ 2 ^ 40 := fun q hq => by
    have h1 := chf_le q q.length (Nat.le_refl _)
    rw [List.take_length] at h1
    have := hq.1
    unfold chg
    omega
  have m1 := hcl P hpb
  have m2 : chg (sc (-1) P) ≤ 2 ^ 40 := by
    have h1 := chf_le (sc (-1) P) (sc (-1) P).length (Nat.le_refl _)
    rw [List.take_length, sc_len] at h1
    have := hpb.1
    unfold chg
    omega
  have f1 := kfits_ok R Q f (chg P) (npos (rts R)) m1 d1 d2 (fun h => (d5 (hreal h)).1)
  have f2 := kfits_ok R Q f (chg (sc (-1) P)) (nneg (rts R)) m2 d3 d4 (fun h => (d5 (hreal h)).2)
  refine AC.by_walk (rs := [.tmp 2]) ords Tryz.func3 (by rfl) (by rfl) (by rfl) (by rfl) (by rfl) ?_
  simp (disch := omega) only [wk, tis, Int.reduceNe, Int.reduceEq, Int.reduceLT, Int.reduceLE, Int.reduceAdd, Int.reduceSub, Int.reduceNeg, Int.reduceMul, Int.reduceToNat, Nat.reduceSub, Nat.reduceMul, Nat.reduceLeDiff, Nat.reduceAdd, Nat.reduceLT, Nat.reduceEqDiff, reduceCtorEq, ↓reduceIte, rqs, Bool.true_beq, Bool.false_beq, Bool.not_true, Bool.not_false, rootr_len, rootr_get, rootr_rows, fldRat0]
  refine call_by (known16_ok) (by rfl) (by simp) ?_
  simp (disch := omega) only [wk, tis, Int.reduceNe, Int.reduceEq, Int.reduceLT, Int.reduceLE, Int.reduceAdd, Int.reduceSub, Int.reduceNeg, Int.reduceMul, Int.reduceToNat, Nat.reduceSub, Nat.reduceMul, Nat.reduceLeDiff, Nat.reduceAdd, Nat.reduceLT, Nat.reduceEqDiff, reduceCtorEq, ↓reduceIte, rqs, Bool.true_beq, Bool.false_beq, Bool.not_true, Bool.not_false, rootr_len, rootr_get, rootr_rows, fldRat0]
  refine call_by (kp1) (by rfl) (by simp) ?_
  simp (disch := omega) only [wk, tis, Int.reduceNe, Int.reduceEq, Int.reduceLT, Int.reduceLE, Int.reduceAdd, Int.reduceSub, Int.reduceNeg, Int.reduceMul, Int.reduceToNat, Nat.reduceSub, Nat.reduceMul, Nat.reduceLeDiff, Nat.reduceAdd, Nat.reduceLT, Nat.reduceEqDiff, reduceCtorEq, ↓reduceIte, rqs, Bool.true_beq, Bool.false_beq, Bool.not_true, Bool.not_false, rootr_len, rootr_get, rootr_rows, fldRat0]
  refine call_by (p1) (by rfl) (by simp) ?_
  simp (disch := omega) only [wk, tis, Int.reduceNe, Int.reduceEq, Int.reduceLT, Int.reduceLE, Int.reduceAdd, Int.reduceSub, Int.reduceNeg, Int.reduceMul, Int.reduceToNat, Nat.reduceSub, Nat.reduceMul, Nat.reduceLeDiff, Nat.reduceAdd, Nat.reduceLT, Nat.reduceEqDiff, reduceCtorEq, ↓reduceIte, rqs, Bool.true_beq, Bool.false_beq, Bool.not_true, Bool.not_false, rootr_len, rootr_get, rootr_rows, fldRat0]
  refine call_by (p0) (by rfl) (by simp) ?_
  simp (disch := omega) only [wk, tis, Int.reduceNe, Int.reduceEq, Int.reduceLT, Int.reduceLE, Int.reduceAdd, Int.reduceSub, Int.reduceNeg, Int.reduceMul, Int.reduceToNat, Nat.reduceSub, Nat.reduceMul, Nat.reduceLeDiff, Nat.reduceAdd, Nat.reduceLT, Nat.reduceEqDiff, reduceCtorEq, ↓reduceIte, rqs, Bool.true_beq, Bool.false_beq, Bool.not_true, Bool.not_false, rootr_len, rootr_get, rootr_rows, fldRat0]
  refine call_by (q1) (by rfl) (by simp) ?_
  simp (disch := omega) only [wk, tis, Int.reduceNe, Int.reduceEq, Int.reduceLT, Int.reduceLE, Int.reduceAdd, Int.reduceSub, Int.reduceNeg, Int.reduceMul, Int.reduceToNat, Nat.reduceSub, Nat.reduceMul, Nat.reduceLeDiff, Nat.reduceAdd, Nat.reduceLT, Nat.reduceEqDiff, reduceCtorEq, ↓reduceIte, rqs, Bool.true_beq, Bool.false_beq, Bool.not_true, Bool.not_false, rootr_len, rootr_get, rootr_rows, fldRat0]
  refine call_by (q2) (by rfl) (by simp) ?_
  simp (disch := omega) only [wk, tis, Int.reduceNe, Int.reduceEq, Int.reduceLT, Int.reduceLE, Int.reduceAdd, Int.reduceSub, Int.reduceNeg, Int.reduceMul, Int.reduceToNat, Nat.reduceSub, Nat.reduceMul, Nat.reduceLeDiff, Nat.reduceAdd, Nat.reduceLT, Nat.reduceEqDiff, reduceCtorEq, ↓reduceIte, rqs, Bool.true_beq, Bool.false_beq, Bool.not_true, Bool.not_false, rootr_len, rootr_get, rootr_rows, fldRat0]
  refine call_by (k0) (by rfl) (by simp) ?_
  simp (disch := omega) only [wk, tis, Int.reduceNe, Int.reduceEq, Int.reduceLT, Int.reduceLE, Int.reduceAdd, Int.reduceSub, Int.reduceNeg, Int.reduceMul, Int.reduceToNat, Nat.reduceSub, Nat.reduceMul, Nat.reduceLeDiff, Nat.reduceAdd, Nat.reduceLT, Nat.reduceEqDiff, reduceCtorEq, ↓reduceIte, rqs, Bool.true_beq, Bool.false_beq, Bool.not_true, Bool.not_false, rootr_len, rootr_get, rootr_rows, fldRat0]
  refine ⟨tmps_by (by kernel_rfl), ?_⟩
  refine call_by (k1) (by rfl) (by simp) ?_
  simp (disch := omega) only [wk, tis, Int.reduceNe, Int.reduceEq, Int.reduceLT, Int.reduceLE, Int.reduceAdd, Int.reduceSub, Int.reduceNeg, Int.reduceMul, Int.reduceToNat, Nat.reduceSub, Nat.reduceMul, Nat.reduceLeDiff, Nat.reduceAdd, Nat.reduceLT, Nat.reduceEqDiff, reduceCtorEq, ↓reduceIte, rqs, Bool.true_beq, Bool.false_beq, Bool.not_true, Bool.not_false, rootr_len, rootr_get, rootr_rows, fldRat0]
  refine call_by (f1) (by rfl) (by simp) ?_
  simp (disch := omega) only [wk, tis, Int.reduceNe, Int.reduceEq, Int.reduceLT, Int.reduceLE, Int.reduceAdd, Int.reduceSub, Int.reduceNeg, Int.reduceMul, Int.reduceToNat, Nat.reduceSub, Nat.reduceMul, Nat.reduceLeDiff, Nat.reduceAdd, Nat.reduceLT, Nat.reduceEqDiff, reduceCtorEq, ↓reduceIte, rqs, Bool.true_beq, Bool.false_beq, Bool.not_true, Bool.not_false, rootr_len, rootr_get, rootr_rows, fldRat0]
  refine call_by (nt) (by rfl) (by simp) ?_
  simp (disch := omega) only [wk, tis, Int.reduceNe, Int.reduceEq, Int.reduceLT, Int.reduceLE, Int.reduceAdd, Int.reduceSub, Int.reduceNeg, Int.reduceMul, Int.reduceToNat, Nat.reduceSub, Nat.reduceMul, Nat.reduceLeDiff, Nat.reduceAdd, Nat.reduceLT, Nat.reduceEqDiff, reduceCtorEq, ↓reduceIte, rqs, Bool.true_beq, Bool.false_beq, Bool.not_true, Bool.not_false, rootr_len, rootr_get, rootr_rows, fldRat0]
  refine call_by (k2) (by rfl) (by simp) ?_
  simp (disch := omega) only [wk, tis, Int.reduceNe, Int.reduceEq, Int.reduceLT, Int.reduceLE, Int.reduceAdd, Int.reduceSub, Int.reduceNeg, Int.reduceMul, Int.reduceToNat, Nat.reduceSub, Nat.reduceMul, Nat.reduceLeDiff, Nat.reduceAdd, Nat.reduceLT, Nat.reduceEqDiff, reduceCtorEq, ↓reduceIte, rqs, Bool.true_beq, Bool.false_beq, Bool.not_true, Bool.not_false, rootr_len, rootr_get, rootr_rows, fldRat0]
  refine call_by (f2) (by rfl) (by simp) ?_
  simp (disch := omega) only [wk, tis, Int.reduceNe, Int.reduceEq, Int.reduceLT, Int.reduceLE, Int.reduceAdd, Int.reduceSub, Int.reduceNeg, Int.reduceMul, Int.reduceToNat, Nat.reduceSub, Nat.reduceMul, Nat.reduceLeDiff, Nat.reduceAdd, Nat.reduceLT, Nat.reduceEqDiff, reduceCtorEq, ↓reduceIte, rqs, Bool.true_beq, Bool.false_beq, Bool.not_true, Bool.not_false, rootr_len, rootr_get, rootr_rows, fldRat0]
  first | exact log_by (by kernel_rfl) | refine ⟨log_by (by kernel_rfl), ?_⟩
  try rfl
def RawI (l : List Int) : Prop := l.length ≤ 9223372036854775807 ∧ ∀ x ∈ l, -9223372036854775808 ≤ x ∧ x ≤ 9223372036854775807
def RawRt (r : Int × Int) : Prop := (-9223372036854775808 ≤ r.1 ∧ r.1 ≤ 9223372036854775807) ∧ (-9223372036854775808 ≤ r.2 ∧ r.2 ≤ 9223372036854775807)
def RawR (l : List (Int × Int)) : Prop := l.length ≤ 9223372036854775807 ∧ ∀ r ∈ l, RawRt r
theorem descartes16_law2 (R : List (Int × Int)) (Q : List Int) (f : Int) (hR : RawR R) (hQ : RawI Q) (h1 : -9223372036854775808 ≤ f) (h2 : f ≤ 9223372036854775807) : AC Tryz.prog 3 [.agg (kn R Q f)] none [cb true] := descartes16_law R Q f hR.1 hQ.1
end Go.Proofs.YtcocppjgbcbndaaGreat
