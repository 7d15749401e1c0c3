/-
  Contracts of the functions that the law reaches.
-/
import Derived.Test.YtcocppjgbcbndaaGreatL117M
import Derived.Test.YtcocppjgbcbndaaGreatL36M
import Derived.Test.YtcocppjgbcbndaaGreatL110M
set_option maxHeartbeats 2000000
namespace Go.Proofs.YtcocppjgbcbndaaGreat
open Go Go.Proofs Go.AL
set_option linter.unusedSimpArgs false
set_option linter.unusedVariables false
theorem qcmp_ok (a b : RQ) (ha : SzQ (2 ^ 34) a) (hb : SzQ (2 ^ 34) b) (h0 : nv a.2 ≠ 0) (h1 : nv b.2 ≠ 0) : AC Tryz.prog 61 [cqq a, cqq b] none [ci (cmpZ (iv a.1 * nv b.2) (iv b.1 * nv a.2)), ci 0] := by
  have c := qchecks_two a b (ha.mono (by omega)) (hb.mono (by omega)) h0 h1
  have t1 := qtimes_ok a.1 b.2 (ha.1.mono (by omega)) ⟨Nat.le_trans hb.2.1 (by omega), hb.2.2⟩
  have t2 := qtimes_ok b.1 a.2 (hb.1.mono (by omega)) ⟨Nat.le_trans ha.2.1 (by omega), ha.2.2⟩
  have y1 := zl_iv ha.1
  have y2 := zl_iv hb.1
  have y3 := nt_zl ha.2
  have y4 := nt_zl hb.2
  have z1 := zl_mul (iv a.1) (nv b.2 : Nat)
  have z2 := zl_mul (iv b.1) (nv a.2 : Nat)
  have m := zcmp_ok (canon (iv a.1 * (nv b.2 : Nat))) (canon (iv b.1 * (nv a.2 : Nat))) ((sz_canon _).mono (by omega)) ((sz_canon _).mono (by omega))
  rw [iv_canon, iv_canon] at m
  refine AC.by_walk (rs := [.tmp 4, .tmp 5]) ords Tryz.func61 (by rfl) (by rfl) (by rfl) (by rfl) (by rfl) ?_
  simp (disch := omega) only [wk, tis, seval, reduceCtorEq, Nat.reduceEqDiff, rqs, rats_two]
  refine call_by (c) (by first | rfl | (simp only [tocvs, tocv, rats_two]; rfl) | (simp only [tocvs, tocv, toboxes, tobox, updH_at, Nat.reduceEqDiff, ↓reduceIte, rats_two]; rfl)) (by simp) ?_
  simp (disch := omega) only [wk, tis, seval, reduceCtorEq, Nat.reduceEqDiff, rqs, rats_two]
  refine ⟨tmps_by (by kernel_rfl), ?_⟩
  refine call_by (t1) (by rfl) (by simp) ?_
  simp (disch := omega) only [wk, tis, seval, reduceCtorEq, Nat.reduceEqDiff, rqs]
  refine call_by (t2) (by rfl) (by simp) ?_
  simp (disch := omega) only [wk, tis, seval, reduceCtorEq, Nat.reduceEqDiff, rqs]
  refine call_by (m) (by rfl) (by simp) ?_
  simp (disch := omega) only [wk, tis, seval, reduceCtorEq, Nat.reduceEqDiff, rqs]
  first | exact log_by (by kernel_rfl) | refine ⟨log_by (by kernel_rfl), ?_⟩
  try rfl
theorem snone_ok (p : List RI) (h : RP (2 ^ 40) (2 ^ 40) p) : AC Tryz.prog 34 [cw p] none [cb (decide (tz (pv p) = 0))] := by
  have d := pdeg_ok p h
  refine AC.by_walk (rs := [.tmp 2]) ords Tryz.func34 (by rfl) (by rfl) (by rfl) (by rfl) (by rfl) ?_
  simp (disch := omega) only [wk, tis, seval, reduceCtorEq, Nat.reduceEqDiff, rqs]
  refine call_by (d) (by rfl) (by simp) ?_
  simp (disch := omega) only [wk, tis, seval, reduceCtorEq, Nat.reduceEqDiff, rqs]
  exact decide_eq_decide.mpr (by omega)
theorem sask_ok (p : List RI) (l : List RQ) (h : RP (2 ^ 40) (2 ^ 40) p) (hl : GQ (2 ^ 40) (2 ^ 40) l) (h0 : tz (pv p) ≠ 0) : AC Tryz.prog 58 [cw p, cqw l] none [ci 0] := by
  have n := snone_ok p h
  rw [decide_eq_false h0] at n
  have hll := hl.1
  refine AC.by_walk (rs := [.tmp 4]) ords Tryz.func58 (by rfl) (by rfl) (by rfl) (by rfl) (by rfl) ?_
  simp (disch := omega) only [wk, tis, seval, reduceCtorEq, Nat.reduceEqDiff, rqs]
  refine aloop_by (fun f H => ∃ (i : Nat), i ≤ l.length ∧ f 10 = .iv (.int .i64 i) ∧ f 9 = .iv (.int .i64 l.length) ∧ f 8 = .iv (.sl (rats l)) ∧ f 0 = .iv (.sl (raws p))) (fun f H => (l.length - intAt f 10).toNat) ?_ ?_
  · refine ⟨0, by omega, ?_⟩
    simp (disch := omega) only [wk, tis, seval, reduceCtorEq, Nat.reduceEqDiff, rqs]
  rintro f H ⟨i, hi, hF⟩
  rw [intAt_of hF.1]
  simp (disch := omega) only [wk, tis, seval, reduceCtorEq, Nat.reduceEqDiff, rqs, hF]
  refine if_by (fun hlt => ?_) (fun hlt => ?_)
  · have hlt' : i < l.length := by omega
    have c := qcheck_good (l.getD i q0) ⟨Nat.le_trans (hl.get hlt').2.1 (by omega), (hl.get hlt').2.2⟩ (hl.den hlt')
    simp (disch := omega) only [wk, tis, seval, reduceCtorEq, Nat.reduceEqDiff, rqs, hF]
    refine call_by (c) (by first | rfl | (simp only [tocvs, tocv, hF]; rfl) | (simp only [tocvs, tocv, toboxes, tobox, updH_at, Nat.reduceEqDiff, ↓reduceIte, hF]; rfl)) (by simp) ?_
    simp (disch := omega) only [wk, tis, seval, reduceCtorEq, Nat.reduceEqDiff, rqs, hF]
    refine ⟨⟨i + 1, by omega, ?_⟩, by omega⟩
    (repeat' apply And.intro) <;> first | rfl | omega
  · simp (disch := omega) only [wk, tis, seval, reduceCtorEq, Nat.reduceEqDiff, rqs, hF]
    refine call_by (n) (by first | rfl | (simp only [tocvs, tocv, hF]; rfl) | (simp only [tocvs, tocv, toboxes, tobox, updH_at, Nat.reduceEqDiff, ↓reduceIte, hF]; rfl)) (by simp) ?_
    simp (disch := omega) only [wk, tis, seval, reduceCtorEq, Nat.reduceEqDiff, rqs, hF]
    try rfl
def rowz (Z : List Int) (n : Nat) (D : Int) : List Int := (List.range (n + 1)).map fun i => cf Z i / ((gz (Z ++ [D]) : Nat) : Int)
theorem rowz_len (Z : List Int) (n : Nat) (D : Int) : (rowz Z n D).length = n + 1 := by simp [rowz]
theorem cf_rowz {Z : List Int} {n i : Nat} {D : Int} (h : i < n + 1) : cf (rowz Z n D) i = cf Z i / ((gz (Z ++ [D]) : Nat) : Int) := by
  rw [rowz, cf, List.getD, List.getElem?_map, List.getElem?_range h]; rfl
theorem gz_app_dvd (Z : List Int) (D : Int) : (∀ i, ((gz (Z ++ [D]) : Nat) : Int) ∣ cf Z i) ∧ ((gz (Z ++ [D]) : Nat) : Int) ∣ D := by
  refine ⟨fun i => ?_, ?_⟩
  · by_cases h : i < Z.length
    · have := gz_dvd (Z ++ [D]) i
      rwa [show cf (Z ++ [D]) i = cf Z i by simp [cf, List.getD, List.getElem?_append_left h]] at this
    · rw [cf_ge (by omega)]; exact Int.dvd_zero _
  · have := gz_dvd (Z ++ [D]) Z.length
    rwa [show cf (Z ++ [D]) Z.length = D by simp [cf, List.getD]] at this
theorem sleast_ok (p : List RI) (n : Nat) (d : RI) (hp : RP (2 ^ 30) (2 ^ 35) p) (hd : Sz (2 ^ 35) d) (h0 : iv d ≠ 0) (hn : n ≤ 2 ^ 30) : AC Tryz.prog 89 [cw p, ci n, cr d] none [cw ((rowz (pv p) n (iv d)).map canon)] := by
  have hpl := hp.1
  have hpd : RP (2 ^ 40) (2 ^ 38) (p ++ [d]) := ⟨by rw [List.length_append, List.length_singleton]; omega, fun c hc => by
    rcases List.mem_append.1 hc with hc | hc
    · exact (hp.2 c hc).mono (by omega)
    · rw [List.mem_singleton.1 hc]; exact hd.mono (by omega)⟩
  have g := zgcd_ok (p ++ [d]) hpd
  have epv : pv (p ++ [d]) = pv p ++ [iv d] := by simp [pv]
  have hgl := gz_len (p := p ++ [d]) hpd
  rw [epv] at g hgl
  obtain ⟨hdv, hdd⟩ := gz_app_dvd (pv p) (iv d)
  have hg0 : gz (pv p ++ [iv d]) ≠ 0 := fun e => h0 (by rw [e] at hdd; exact Int.zero_dvd.mp hdd)
  have w := znat_ok false (gz (pv p ++ [iv d])) (by omega)
  rw [sgf] at w
  have hrl := rowz_len (pv p) n (iv d)
  have e1 : (n : Int) + 1 = ((n + 1 : Nat) : Int) := by omega
  have hsn : raws p ++ [prow d] = raws (p ++ [d]) := by simp [raws]
  refine AC.by_walk (rs := [.tmp 6]) ords Tryz.func89 (by rfl) (by rfl) (by rfl) (by rfl) (by rfl) ?_
  simp (disch := omega) only [wk, tis, seval, reduceCtorEq, Nat.reduceEqDiff, rqs]
  refine ⟨tmps_by (by kernel_rfl), ?_⟩
  refine call_by (g) (by first | rfl | (simp only [tocvs, tocv, hsn]; rfl) | (simp only [tocvs, tocv, toboxes, tobox, updH_at, Nat.reduceEqDiff, ↓reduceIte, hsn]; rfl)) (by simp) ?_
  simp (disch := omega) only [wk, tis, seval, reduceCtorEq, Nat.reduceEqDiff, rqs, hsn]
  refine call_by (w) (by first | rfl | (simp only [tocvs, tocv, hsn]; rfl) | (simp only [tocvs, tocv, toboxes, tobox, updH_at, Nat.reduceEqDiff, ↓reduceIte, hsn]; rfl)) (by simp) ?_
  simp (disch := omega) only [wk, tis, seval, reduceCtorEq, Nat.reduceEqDiff, rqs, hsn]
  first | exact log_by (by kernel_rfl) | refine ⟨log_by (by kernel_rfl), ?_⟩
  refine aloop_by (fun f H => ∃ (i s7 st : Nat), i ≤ n + 1 ∧ f 25 = .iv (.int .i64 i) ∧ f 24 = .iv (.int .i64 (n + 1 : Nat)) ∧ f 0 = .iv (.sl (raws p)) ∧ f 7 = .hp 7 s7 0 0 ∧ H 7 = .blk false s7 33 2 [prow (canon ((gz (pv p ++ [iv d]) : Nat) : Int))] ∧ f 8 = .hs 22 st ∧ H 22 = .blk false st 33 2 (raws (((rowz (pv p) n (iv d)).take i).map canon))) (fun f H => ((n + 1 : Nat) - intAt f 25).toNat) ?_ ?_
  · refine ⟨0, 1, 1, by omega, ?_⟩
    simp (disch := omega) only [wk, tis, seval, reduceCtorEq, Nat.reduceEqDiff, rqs, List.take_zero, List.map_nil, e1, Int.toNat_zero, List.replicate_zero, show raws [] = [] from rfl]
  rintro f H ⟨i, s7, st, hi, hF⟩
  rw [intAt_of hF.1]
  simp (disch := omega) only [wk, tis, seval, reduceCtorEq, Nat.reduceEqDiff, rqs, hF]
  refine if_by (fun hlt => ?_) (fun hlt => ?_)
  · have hlt' : i < n + 1 := by omega
    have hq : (((rowz (pv p) n (iv d)).take i).map canon).length = i := by rw [List.length_map, List.length_take]; omega
    have c := pcoef_ok p i (hp.mono (by omega) (by omega))
    rw [if_neg (by omega), Int.toNat_natCast] at c
    have zc := hp.pv.cf i
    have zg : zl ((gz (pv p ++ [iv d]) : Nat) : Int) ≤ 2 ^ 38 := by rw [zl_nat]; exact hgl
    have x := zexact_ok (canon (cf (pv p) i)) (canon ((gz (pv p ++ [iv d]) : Nat) : Int)) ((sz_canon _).mono (by omega)) ((sz_canon _).mono zg) (by rw [iv_canon]; omega) (by rw [iv_canon, iv_canon]; exact hdv i)
    rw [iv_canon, iv_canon, ← cf_rowz hlt'] at x
    have et := takez_snoc (q := rowz (pv p) n (iv d)) (i := i) (by omega)
    simp (disch := omega) only [wk, tis, seval, reduceCtorEq, Nat.reduceEqDiff, rqs, hF, hq]
    refine ⟨tmps_by (by kernel_rfl), ?_⟩
    refine call_by (c) (by first | rfl | (simp only [tocvs, tocv, hF, hq]; rfl) | (simp only [tocvs, tocv, toboxes, tobox, updH_at, Nat.reduceEqDiff, ↓reduceIte, hF, hq]; rfl)) (by simp) ?_
    simp (disch := omega) only [wk, tis, seval, reduceCtorEq, Nat.reduceEqDiff, rqs, hF, hq]
    refine call_by (x) (by first | rfl | (simp only [tocvs, tocv, hF, hq]; rfl) | (simp only [tocvs, tocv, toboxes, tobox, updH_at, Nat.reduceEqDiff, ↓reduceIte, hF, hq]; rfl)) (by simp) ?_
    simp (disch := omega) only [wk, tis, seval, reduceCtorEq, Nat.reduceEqDiff, rqs, hF, hq]
    first | exact log_by (by kernel_rfl) | refine ⟨log_by (by kernel_rfl), ?_⟩
    refine ⟨⟨i + 1, s7, st + 1, by omega, ?_⟩, by omega⟩
    rw [et, List.map_append]
    (repeat' apply And.intro) <;> first | rfl | omega
  · obtain rfl : i = n + 1 := by omega
    rw [List.take_of_length_le (by omega)] at hF
    simp (disch := omega) only [wk, tis, seval, reduceCtorEq, Nat.reduceEqDiff, rqs, hF]
    try rfl
theorem srow_ok (p : List RI) (a b : RQ) (n : Nat) (w : Rat) (l0 l1 l2 : List RQ) (D : Nat) (Z S R : List RI)
    (h1 : AC Tryz.prog 58 [cw p, cqw [a, b]] none [ci 0])
    (h2 : AC Tryz.prog 61 [cqq a, cqq b] none [ci (-1), ci 0])
    (h3 : AC Tryz.prog 65 [cw p] none [ci n])
    (h4 : AC Tryz.prog 83 [cqq b, cqq a] none [cqz w, ci 0])
    (h5 : AC Tryz.prog 85 [cw p] none [cqw l0])
    (h6 : AC Tryz.prog 84 [cqw l0, cqq a] none [cqw l1, ci 0])
    (h7 : AC Tryz.prog 86 [cqw l1, cqz w] none [cqw l2, ci 0])
    (h8 : AC Tryz.prog 87 [cqw l2] none [cl (wd D), cw Z, ci 0])
    (h9 : AC Tryz.prog 88 [cw Z, cz 1, cz 0, cz 1, cz 1] none [cw S])
    (h10 : AC Tryz.prog 89 [cw S, ci n, cz D] none [cw R])
    (hD : (wd D).length ≤ 2 ^ 40) : AC Tryz.prog 51 [cw p, cqq a, cqq b] none [cw R, ci 0] := by
  have o1 := zOf_ok 1 (by omega) (by omega)
  have o0 := zOf_ok 0 (by omega) (by omega)
  have nd := znat_ok false D hD
  rw [sgf] at nd
  refine AC.by_walk (rs := [.tmp 6, .tmp 7]) ords Tryz.func51 (by rfl) (by rfl) (by rfl) (by rfl) (by rfl) ?_
  simp (disch := omega) only [wk, tis, seval, reduceCtorEq, Nat.reduceEqDiff, rqs, rats_two]
  refine call_by (h1) (by first | rfl | (simp only [tocvs, tocv, rats_two]; rfl) | (simp only [tocvs, tocv, toboxes, tobox, updH_at, Nat.reduceEqDiff, ↓reduceIte, rats_two]; rfl)) (by simp) ?_
  simp (disch := omega) only [wk, tis, seval, reduceCtorEq, Nat.reduceEqDiff, rqs, rats_two]
  refine call_by (h2) (by rfl) (by simp) ?_
  simp (disch := omega) only [wk, tis, seval, reduceCtorEq, Nat.reduceEqDiff, rqs]
  refine call_by (h3) (by rfl) (by simp) ?_
  simp (disch := omega) only [wk, tis, seval, reduceCtorEq, Nat.reduceEqDiff, rqs]
  refine call_by (h4) (by rfl) (by simp) ?_
  simp (disch := omega) only [wk, tis, seval, reduceCtorEq, Nat.reduceEqDiff, rqs]
  refine ⟨tmps_by (by kernel_rfl), ?_⟩
  refine call_by (h5) (by rfl) (by simp) ?_
  simp (disch := omega) only [wk, tis, seval, reduceCtorEq, Nat.reduceEqDiff, rqs]
  refine call_by (h6) (by rfl) (by simp) ?_
  simp (disch := omega) only [wk, tis, seval, reduceCtorEq, Nat.reduceEqDiff, rqs]
  first | exact log_by (by kernel_rfl) | refine ⟨log_by (by kernel_rfl), ?_⟩
  refine call_by (h7) (by rfl) (by simp) ?_
  simp (disch := omega) only [wk, tis, seval, reduceCtorEq, Nat.reduceEqDiff, rqs]
  refine call_by (h8) (by rfl) (by simp) ?_
  simp (disch := omega) only [wk, tis, seval, reduceCtorEq, Nat.reduceEqDiff, rqs]
  refine call_by (o1) (by rfl) (by simp) ?_
  simp (disch := omega) only [wk, tis, seval, reduceCtorEq, Nat.reduceEqDiff, rqs]
  refine call_by (o0) (by rfl) (by simp) ?_
  simp (disch := omega) only [wk, tis, seval, reduceCtorEq, Nat.reduceEqDiff, rqs]
  refine call_by (o1) (by rfl) (by simp) ?_
  simp (disch := omega) only [wk, tis, seval, reduceCtorEq, Nat.reduceEqDiff, rqs]
  refine call_by (o1) (by rfl) (by simp) ?_
  simp (disch := omega) only [wk, tis, seval, reduceCtorEq, Nat.reduceEqDiff, rqs]
  refine call_by (h9) (by rfl) (by simp) ?_
  simp (disch := omega) only [wk, tis, seval, reduceCtorEq, Nat.reduceEqDiff, rqs]
  refine call_by (nd) (by rfl) (by simp) ?_
  simp (disch := omega) only [wk, tis, seval, reduceCtorEq, Nat.reduceEqDiff, rqs]
  refine call_by (h10) (by rfl) (by simp) ?_
  simp (disch := omega) only [wk, tis, seval, reduceCtorEq, Nat.reduceEqDiff, rqs]
  try rfl
theorem sin_ok (p : List RI) (a b : RQ) (R : List RI) (h : AC Tryz.prog 51 [cw p, cqq a, cqq b] none [cw R, ci 0]) (hR : RP (2 ^ 40) (2 ^ 40) R) : AC Tryz.prog 20 [cw p, cqq a, cqq b] none [ci (chg (pv R)), ci 0] := by
  have o := of16_ok R hR
  refine AC.by_walk (rs := [.tmp 6, .tmp 7]) ords Tryz.func20 (by rfl) (by rfl) (by rfl) (by rfl) (by rfl) ?_
  simp (disch := omega) only [wk, tis, seval, reduceCtorEq, Nat.reduceEqDiff, rqs]
  refine call_by (h) (by rfl) (by simp) ?_
  simp (disch := omega) only [wk, tis, seval, reduceCtorEq, Nat.reduceEqDiff, rqs]
  refine call_by (o) (by rfl) (by simp) ?_
  simp (disch := omega) only [wk, tis, seval, reduceCtorEq, Nat.reduceEqDiff, rqs]
  try rfl
theorem rp_small (l : List Int) (n : Nat) (hl : l.length ≤ n) (h : ∀ z ∈ l, z.natAbs < W) : RP n 1 (l.map canon) := RP.canon (small_pb l n hl h)
theorem cp_dec {q r : List Int} (h : trimz q = r) : cp q = cw (r.map canon) := by
  unfold cp cpoly
  rw [h]
theorem row0_ok : AC Tryz.prog 51 [cw (([-2, 0, 1] : List Int).map canon), cqz 1, cqz 2] none [cw (([-1, 0, 2] : List Int).map canon), ci 0] := by
  have rp : RP 3 1 (([-2, 0, 1] : List Int).map canon) := rp_small _ 3 (by decide) (by decide)
  have s1 : SzQ 1 (crat 1) := szq_crat (by rw [qz_one]; omega)
  have s2 : SzQ 1 (crat 2) := szq_crat (by decide +kernel)
  have s0 : SzQ 1 (crat 0) := szq_crat (by rw [qz_zero]; omega)
  have h1 := sask_ok (([-2, 0, 1] : List Int).map canon) [crat 1, crat 2] (rp.mono (by omega) (by omega)) ⟨by simp, fun r hr => by
    simp only [List.mem_cons, List.not_mem_nil, or_false] at hr
    rcases hr with rfl | rfl
    · exact ⟨s1.mono (by omega), nv_crat0 _⟩
    · exact ⟨s2.mono (by omega), nv_crat0 _⟩⟩ (by rw [pv_canon]; decide)
  have h2 := qcmp_ok (crat 1) (crat 2) (s1.mono (by omega)) (s2.mono (by omega)) (nv_crat0 _) (nv_crat0 _)
  rw [show cmpZ (iv (crat 1).1 * (nv (crat 2).2 : Nat)) (iv (crat 2).1 * (nv (crat 1).2 : Nat)) = -1 by decide +kernel] at h2
  have h3 := pdeg_ok (([-2, 0, 1] : List Int).map canon) (rp.mono (by omega) (by omega))
  rw [pv_canon, show ((tz [-2, 0, 1] : Nat) : Int) - 1 = ((2 : Nat) : Int) by decide] at h3
  have h4 := qsub_ok (crat 2) (crat 1) (s2.mono (by omega)) (s1.mono (by omega)) (nv_crat0 _) (nv_crat0 _)
  rw [qv_crat, qv_crat, show (2 : Rat) - 1 = 1 by decide +kernel] at h4
  have h5 := qof10_ok (([-2, 0, 1] : List Int).map canon) (rp.mono (by omega) (by omega))
  rw [pv_canon, show cqp (qp [-2, 0, 1]) = cqw (([-2, 0, 1] : List Rat).map crat) from congrArg cqw (by decide +kernel)] at h5
  have two : ∀ {a b : RQ}, SzQ 1 a → SzQ 1 b → nv a.2 ≠ 0 → nv b.2 ≠ 0 → GQ 9 3 [a, b] := fun ha hb h0 h1 => ⟨by simp, fun r hr => by
    simp only [List.mem_cons, List.not_mem_nil, or_false] at hr
    rcases hr with rfl | rfl
    · exact ⟨ha.mono (by omega), h0⟩
    · exact ⟨hb.mono (by omega), h1⟩⟩
  have g1 : QB 9 3 ([-2, 0, 1] : List Rat) := ⟨by decide, by decide +kernel⟩
  have g2 : QB 9 3 ([-1, 2, 1] : List Rat) := ⟨by decide, by decide +kernel⟩
  have t1 := two s1 s1 (nv_crat0 _) (nv_crat0 _)
  have t2 := two s0 s1 (nv_crat0 _) (nv_crat0 _)
  have m1 := mComposeQ_ok (([-2, 0, 1] : List Rat).map crat) [crat 1, crat 1] (g1.gq.mono (by omega) (by omega)) (t1.mono (by omega) (by omega)) (hq_small g1.gq t1)
  rw [qvs_map, show cqp (hoq (trimq [-2, 0, 1]) (trimq (qvs [crat 1, crat 1])) (trimq [-2, 0, 1]).length) = cqw (([-1, 2, 1] : List Rat).map crat) from congrArg cqw (by decide +kernel)] at m1
  have h6 := mShiftQ_of _ _ _ _ m1
  have m2 := mComposeQ_ok (([-1, 2, 1] : List Rat).map crat) [crat 0, crat 1] (g2.gq.mono (by omega) (by omega)) (t2.mono (by omega) (by omega)) (hq_small g2.gq t2)
  rw [qvs_map, show cqp (hoq (trimq [-1, 2, 1]) (trimq (qvs [crat 0, crat 1])) (trimq [-1, 2, 1]).length) = cqw (([-1, 2, 1] : List Rat).map crat) from congrArg cqw (by decide +kernel)] at m2
  have h7 := mScaleQ_of _ _ _ _ m2
  have h8 := qclear_ok (([-1, 2, 1] : List Rat).map crat) 9 3 g2.gq (by omega) (by omega)
  rw [qvs_map, show cden (trimq [-1, 2, 1]) = 1 by decide +kernel, show clr (trimq [-1, 2, 1]) = [-1, 2, 1] by decide +kernel] at h8
  have rz : RP 3 1 (([-1, 2, 1] : List Int).map canon) := rp_small _ 3 (by decide) (by decide)
  have oz : ∀ z : Int, zl z ≤ 1 → Sz (2 ^ 20) (canon z) := fun z h => (sz_canon z).mono (by omega)
  have h9 := mmoebius_ok (([-1, 2, 1] : List Int).map canon) (canon 1) (canon 0) (canon 1) (canon 1) (rz.mono (by omega) (by omega)) (oz 1 (by decide +kernel)) (oz 0 (by decide +kernel)) (oz 1 (by decide +kernel)) (oz 1 (by decide +kernel))
  rw [pv_canon, iv_canon, iv_canon, cp_dec (r := [-1, 0, 2]) (by decide +kernel)] at h9
  have rs : RP 3 1 (([-1, 0, 2] : List Int).map canon) := rp_small _ 3 (by decide) (by decide)
  have h10 := sleast_ok (([-1, 0, 2] : List Int).map canon) 2 (canon ((1 : Nat) : Int)) (rs.mono (by omega) (by omega)) ((sz_canon _).mono (by decide +kernel)) (by rw [iv_canon]; decide) (by omega)
  rw [pv_canon, iv_canon, show rowz [-1, 0, 2] 2 ((1 : Nat) : Int) = [-1, 0, 2] by decide +kernel] at h10
  exact srow_ok _ _ _ 2 1 _ _ _ 1 _ _ _ h1 h2 h3 h4 h5 h6 h7 h8 h9 h10 (by decide +kernel)
theorem known16_ok : AC Tryz.prog 6 [] none [cb true] := by
  have p := poly16_ok [-2, 0, 1] (by decide) (by decide)
  have a := hP_ok 1 1 (by omega) (by omega) (by omega) (by omega)
  have b := hP_ok 2 1 (by omega) (by omega) (by omega) (by omega)
  rw [show ((1 : Int) : Rat) / ((1 : Nat) : Rat) = 1 by decide +kernel] at a
  rw [show ((2 : Int) : Rat) / ((1 : Nat) : Rat) = 2 by decide +kernel] at b
  have i := sin_ok _ _ _ _ row0_ok ((rp_small [-1, 0, 2] 3 (by decide) (by decide)).mono (by omega) (by omega))
  rw [pv_canon, show chg [-1, 0, 2] = 1 by decide, show ((1 : Nat) : Int) = 1 from rfl] at i
  have c := chg_ok [1, 0, -5, 0, 0, 2] (by decide)
  rw [show chg [1, 0, -5, 0, 0, 2] = 2 by decide, show ((2 : Nat) : Int) = 2 from rfl] at c
  have hr6 : List.range 6 = [0, 1, 2, 3, 4, 5] := rfl
  have hil : [[IV.int .i64 1], [IV.int .i64 0], [IV.int .i64 (-5)], [IV.int .i64 0], [IV.int .i64 0], [IV.int .i64 2]] = ilims [1, 0, -5, 0, 0, 2] := rfl
  have hir : ∀ l : List Int, (∀ r ∈ ilims l, r.length = 1) ↔ True := fun l => by simp [ilims]
  refine AC.by_walk (rs := [.tmp 0]) ords Tryz.func6 (by rfl) (by rfl) (by rfl) (by rfl) (by rfl) ?_
  simp (disch := omega) only [wk, tis, seval, reduceCtorEq, Nat.reduceEqDiff, rqs]
  refine call_by (p) (by rfl) (by simp) ?_
  simp (disch := omega) only [wk, tis, seval, reduceCtorEq, Nat.reduceEqDiff, rqs]
  refine call_by (a) (by rfl) (by simp) ?_
  simp (disch := omega) only [wk, tis, seval, reduceCtorEq, Nat.reduceEqDiff, rqs]
  refine call_by (b) (by rfl) (by simp) ?_
  simp (disch := omega) only [wk, tis, seval, reduceCtorEq, Nat.reduceEqDiff, rqs]
  refine call_by (i) (by first | rfl | (simp only [tocvs, tocv, hr6, hil, hir]; rfl) | (simp only [tocvs, tocv, toboxes, tobox, updH_at, Nat.reduceEqDiff, ↓reduceIte, hr6, hil, hir]; rfl)) (by simp) ?_
  simp (disch := omega) only [wk, tis, seval, reduceCtorEq, Nat.reduceEqDiff, rqs, hr6, hil, hir]
  refine call_by (c) (by first | rfl | (simp only [tocvs, tocv, hr6, hil, hir]; rfl) | (simp only [tocvs, tocv, toboxes, tobox, updH_at, Nat.reduceEqDiff, ↓reduceIte, hr6, hil, hir]; rfl)) (by simp) ?_
  simp (disch := omega) only [wk, tis, seval, reduceCtorEq, Nat.reduceEqDiff, rqs, hr6, hil, hir]
  try rfl
end Go.Proofs.YtcocppjgbcbndaaGreat

namespace Go.Proofs.YtcocppjgbcbndaaGreat
open Go Go.Proofs Go.AL
set_option linter.unusedSimpArgs false
set_option linter.unusedVariables false
structure TPl (x s y : RQ) (i : Nat) : Prop where
  v : qv y = qv x + (i : Rat) * qv s
  z : SzQ (200 + i * 201) y
  d : nv y.2 ≠ 0
end Go.Proofs.YtcocppjgbcbndaaGreat

namespace Go.Proofs.YtcocppjgbcbndaaGreat
open Go Go.Proofs Go.AL
set_option linter.unusedSimpArgs false
set_option linter.unusedVariables false
end Go.Proofs.YtcocppjgbcbndaaGreat

namespace Go.Proofs.YtcocppjgbcbndaaGreat
open Go Go.Proofs Go.AL
set_option linter.unusedSimpArgs false
set_option linter.unusedVariables false
theorem fldRat0 : fldA Tryz.prog 35 0 = some (0, 2, true) := by kernel_rfl
theorem hminus2_ok (a b : RQ) (ha : SzQ (2 ^ 34) a) (hb : SzQ (2 ^ 34) b) (h0 : nv a.2 ≠ 0) (h1 : nv b.2 ≠ 0) : AC Tryz.prog 41 [cqq a, cqq b] none [cqz (qv a - qv b)] := by
  have n := hnot_ok b (hb.mono (by omega)) h1
  have z := qz_raw hb h1
  have zn : qz (-qv b) ≤ 2 ^ 34 := by
    exact ((CD.ofRat (qv b)).neg.mono (Nat.le_trans (qz_parts (qv b)).1 z)).size (qv b).den_nz (Nat.le_trans (qz_parts (qv b)).2 z)
  have p := hplus_ok a (crat (-qv b)) (ha.mono (by omega)) (szq_crat (by omega)) h0 (nv_crat0 _)
  rw [qv_crat, ← Rat.sub_eq_add_neg] at p
  refine AC.by_walk (rs := [.cell 4 35]) ords Tryz.func41 (by rfl) (by rfl) (by rfl) (by rfl) (by rfl) ?_
  simp (disch := omega) only [wk, tis, seval, reduceCtorEq, Nat.reduceEqDiff, rqs, fldRat0]
  refine ⟨tmps_by (by kernel_rfl), ?_⟩
  refine call_by (n) (by rfl) (by simp) ?_
  simp (disch := omega) only [wk, tis, seval, reduceCtorEq, Nat.reduceEqDiff, rqs, fldRat0]
  refine call_by (p) (by rfl) (by simp) ?_
  simp (disch := omega) only [wk, tis, seval, reduceCtorEq, Nat.reduceEqDiff, rqs, fldRat0]
  first | exact log_by (by kernel_rfl) | refine ⟨log_by (by kernel_rfl), ?_⟩
  try rfl
theorem horder_ok (a b : RQ) (ha : SzQ (2 ^ 34) a) (hb : SzQ (2 ^ 34) b) (h0 : nv a.2 ≠ 0) (h1 : nv b.2 ≠ 0) : AC Tryz.prog 15 [cqq a, cqq b] none [ci (sgq (qv a - qv b))] := by
  have m := hminus2_ok a b ha hb h0 h1
  have z1 := qz_raw ha h0
  have z2 := qz_raw hb h1
  have zs : qz (qv a - qv b) ≤ 2 ^ 36 := by
    have zn : qz (-qv b) ≤ 2 ^ 34 := ((CD.ofRat (qv b)).neg.mono (Nat.le_trans (qz_parts (qv b)).1 z2)).size (qv b).den_nz (Nat.le_trans (qz_parts (qv b)).2 z2)
    have := qz_add (qv a) (-qv b)
    rw [Rat.sub_eq_add_neg]
    omega
  have s := rSign_ok (crat (qv a - qv b)).1 ((szq_crat zs).1.mono (by omega))
  rw [sgq_qv (nv_crat0 _), qv_crat] at s
  refine AC.by_walk (rs := [.tmp 4]) ords Tryz.func15 (by rfl) (by rfl) (by rfl) (by rfl) (by rfl) ?_
  simp (disch := omega) only [wk, tis, seval, reduceCtorEq, Nat.reduceEqDiff, rqs, fldRat0]
  refine call_by (m) (by rfl) (by simp) ?_
  simp (disch := omega) only [wk, tis, seval, reduceCtorEq, Nat.reduceEqDiff, rqs, fldRat0]
  refine call_by (s) (by rfl) (by simp) ?_
  simp (disch := omega) only [wk, tis, seval, reduceCtorEq, Nat.reduceEqDiff, rqs, fldRat0]
  try rfl
end Go.Proofs.YtcocppjgbcbndaaGreat

namespace Go.Proofs.YtcocppjgbcbndaaGreat
open Go Go.Proofs Go.AL
set_option linter.unusedSimpArgs false
set_option linter.unusedVariables false
def rootr (l : List (Int × Int)) : List (List IV) := l.map fun r => [.int .i64 r.1, .int .i64 r.2]
theorem rootr_len (l : List (Int × Int)) : (rootr l).length = l.length := by simp [rootr]
theorem rootr_get {l : List (Int × Int)} {i : Nat} (h : i < l.length) : (rootr l).getD i [] = [.int .i64 (l.getD i (0, 0)).1, .int .i64 (l.getD i (0, 0)).2] := by simp [rootr, List.getD, h]
theorem rootr_rows (l : List (Int × Int)) : (∀ r ∈ rootr l, r.length = 2) ↔ True := by
  simp only [iff_true]
  intro r hr
  obtain ⟨x, _, rfl⟩ := List.mem_map.1 hr
  rfl
abbrev kn (R : List (Int × Int)) (Q : List Int) (f : Int) : List IV := [.sl (rootr R), .sl (ilims Q), .int .i64 f]
def rnn (n : Int) : Int := n.tmod 60
def rdn (d : Int) : Nat := ((IntKind.u64.wrap d).tmod 6).toNat + 1
theorem tmod_lt (n m : Int) (h : 0 < m) : -m < n.tmod m ∧ n.tmod m < m := by
  have h1 : (n.tmod m).natAbs < m.natAbs := by
    rw [Int.natAbs_tmod]
    exact Nat.mod_lt _ (by omega)
  omega
theorem isq (x : Int) : 0 ≤ x * x := by
  rw [← Int.natAbs_mul_self]
  omega
theorem rnn_lt (n : Int) : -60 < rnn n ∧ rnn n < 60 := tmod_lt n 60 (by omega)
theorem u64_nonneg (d : Int) : 0 ≤ IntKind.u64.wrap d := by
  unfold IntKind.wrap
  simp
  first | omega | exact Int.emod_nonneg _ (by decide)
theorem rdn_eq (d : Int) : ∃ m : Nat, m ≤ 5 ∧ (IntKind.u64.wrap d).tmod 6 = (m : Int) ∧ rdn d = m + 1 := by
  have h := u64_nonneg d
  have h2 := tmod_lt (IntKind.u64.wrap d) 6 (by omega)
  have h3 : 0 ≤ (IntKind.u64.wrap d).tmod 6 := Int.tmod_nonneg 6 h
  refine ⟨((IntKind.u64.wrap d).tmod 6).toNat, by omega, by omega, rfl⟩
def rtq (r : Int × Int) : Rat := (rnn r.1 : Rat) / (rdn r.2 : Rat)
def rt (r : Int × Int) : Int × Int := ((rtq r).num, ((rtq r).den : Int))
theorem rtq_z (r : Int × Int) : qz (rtq r) ≤ 1 := by
  obtain ⟨m, hm, _, e⟩ := rdn_eq r.2
  have h := rnn_lt r.1
  unfold rtq
  rw [← Rat.mkRat_eq_div]
  refine qz_mk (by omega) (zl_le.mpr (by rw [Nat.pow_one]; simp only [W]; omega)) (wd_len_le.mpr (by rw [Nat.pow_one]; simp only [W]; omega))
theorem rat_ok (r : Int × Int) : AC Tryz.prog 14 [.agg [.int .i64 r.1, .int .i64 r.2]] none [cqz (rtq r)] := by
  obtain ⟨m, hm, e1, e2⟩ := rdn_eq r.2
  have hb := rnn_lt r.1
  have p := hP_ok (rnn r.1) (m + 1) (by omega) (by omega) (by omega) (by omega)
  rw [show ((rnn r.1 : Int) : Rat) / ((m + 1 : Nat) : Rat) = rtq r by rw [rtq, e2]] at p
  have e3 : r.1.tmod 60 = rnn r.1 := rfl
  have e4 : (1 : Int) + (m : Int) = ((m + 1 : Nat) : Int) := by omega
  refine AC.by_walk (rs := [.cell 2 35]) ords Tryz.func14 (by rfl) (by rfl) (by rfl) (by rfl) (by rfl) ?_
  simp (disch := omega) only [wk, tis, seval, reduceCtorEq, Nat.reduceEqDiff, rqs, Bool.true_beq, Bool.false_beq, Bool.not_true, Bool.not_false, rootr_len, rootr_get, rootr_rows, fldRat0, e1, e3, e4]
  refine call_by (p) (by first | rfl | (simp only [tocvs, tocv, e1, e3, e4]; rfl) | (simp only [tocvs, tocv, toboxes, tobox, updH_at, Nat.reduceEqDiff, ↓reduceIte, e1, e3, e4]; rfl)) (by simp) ?_
  simp (disch := omega) only [wk, tis, seval, reduceCtorEq, Nat.reduceEqDiff, rqs, Bool.true_beq, Bool.false_beq, Bool.not_true, Bool.not_false, rootr_len, rootr_get, rootr_rows, fldRat0, e1, e3, e4]
  try rfl
def frc (f : Int) : Int := if f.tmod 9 = -1 then -7 else 1 + f.tmod 9
theorem frc_ne (f : Int) : frc f ≠ 0 ∧ -9 < frc f ∧ frc f < 10 := by
  have := tmod_lt f 9 (by omega)
  unfold frc
  split <;> omega
def qsl (c : Int) (A : List (Int × Int)) (k : Nat) : List Int := (A.take k).foldl (fun q r => pmul q (rf r)) [c]
def pfl (c : Int) : List Int := [c * c + 1, c, 1]
def wsl (q : List Int) (C : List Int) (k : Nat) : List Int := (C.take k).foldl (fun q c => pmul q (pfl c)) q
theorem qsl_succ {c : Int} {A : List (Int × Int)} {k : Nat} (h : k < A.length) : qsl c A (k + 1) = pmul (qsl c A k) (rf (A.getD k (0, 1))) := by
  have : A.take (k + 1) = A.take k ++ [A.getD k (0, 1)] := by rw [List.take_add_one]; congr 1; simp [List.getD, h]
  rw [qsl, this, List.foldl_append]; rfl
theorem wsl_succ {q C : List Int} {k : Nat} (h : k < C.length) : wsl q C (k + 1) = pmul (wsl q C k) (pfl (C.getD k 0)) := by
  rw [wsl, takei_snoc h, List.foldl_append]; rfl
theorem qsl_pb {c : Int} {A : List (Int × Int)} (hc : zl c ≤ 1) (hA : ∀ i, zl (A.getD i (0, 1)).1 ≤ 1 ∧ zl (A.getD i (0, 1)).2 ≤ 1) : ∀ k, k ≤ A.length → k ≤ 100 → PB (1 + 2 * k) (1 + 2 * k) (qsl c A k)
  | 0, _, _ => ⟨by show 1 ≤ 1; omega, fun z hz => by rw [List.mem_singleton.1 hz]; omega⟩
  | k + 1, h, h2 => by
    rw [qsl_succ (by omega)]
    have hr : PB 2 1 (rf (A.getD k (0, 1))) := ⟨by show 2 ≤ 2; omega, fun z hz => by
      rcases List.mem_cons.1 hz with rfl | hz
      · rw [zl_neg]; exact (hA k).1
      · rw [List.mem_singleton.1 hz]; exact (hA k).2⟩
    exact ((qsl_pb hc hA k (by omega) (by omega)).pmul hr (by simp only [W]; omega)).mono (by omega) (by omega)
theorem wsl_pb {q C : List Int} {n : Nat} (hq : PB n n q) (hn : n ≤ 1000) (hC : ∀ i, -20 < C.getD i 0 ∧ C.getD i 0 < 20) : ∀ k, k ≤ C.length → k ≤ 100 → PB (n + 3 * k) (n + 2 * k) (wsl q C k)
  | 0, _, _ => by
    have : wsl q C 0 = q := rfl
    rw [this]; exact hq.mono (by omega) (by omega)
  | k + 1, h, h2 => by
    rw [wsl_succ (by omega)]
    have hb := hC k
    have h3 : 0 ≤ C.getD k 0 * C.getD k 0 ∧ C.getD k 0 * C.getD k 0 ≤ 400 := by
      generalize C.getD k 0 = x at hb
      constructor
      · exact isq x
      · have h1 : x.natAbs * x.natAbs ≤ 20 * 20 := Nat.mul_le_mul (by omega) (by omega)
        have h2 : x * x = ((x.natAbs * x.natAbs : Nat) : Int) := Int.natAbs_mul_self.symm
        omega
    have hr : PB 3 1 (pfl (C.getD k 0)) := ⟨by show 3 ≤ 3; omega, fun z hz => zl_le.mpr (by
      rw [Nat.pow_one]
      simp only [W]
      simp only [pfl, List.mem_cons, List.not_mem_nil, or_false] at hz
      rcases hz with rfl | rfl | rfl <;> omega)⟩
    exact ((wsl_pb hq hn hC k (by omega) (by omega)).pmul hr (by simp only [W]; omega)).mono (by omega) (by omega)
def rts (R : List (Int × Int)) : List (Int × Int) := (R.take 6).map rt
def prs2 (Q : List Int) : List Int := (Q.take 2).map fun c => c.tmod 20
def kp (R : List (Int × Int)) (Q : List Int) (f : Int) : List Int := wsl (qsl (frc f) (rts R) (rts R).length) (prs2 Q) (prs2 Q).length
theorem rts_len (R : List (Int × Int)) : (rts R).length = min 6 R.length := by simp [rts]
theorem prs2_len (Q : List Int) : (prs2 Q).length = min 2 Q.length := by simp [prs2]
theorem rts_get {R : List (Int × Int)} {i : Nat} (h : i < R.length) (h6 : i < 6) : (rts R).getD i (0, 1) = rt (R.getD i (0, 0)) := by
  simp [rts, List.getD, List.getElem?_take, h6, h]
theorem prs2_get {Q : List Int} {i : Nat} (h : i < Q.length) (h2 : i < 2) : (prs2 Q).getD i 0 = (Q.getD i 0).tmod 20 := by
  simp [prs2, List.getD, List.getElem?_take, h2, h]
theorem rt_z (r : Int × Int) : zl (rt r).1 ≤ 1 ∧ zl (rt r).2 ≤ 1 := by
  have h := qz_parts (rtq r)
  have h2 := rtq_z r
  refine ⟨Nat.le_trans h.1 h2, ?_⟩
  show zl ((rtq r).den : Int) ≤ 1
  rw [zl_nat]
  exact Nat.le_trans h.2 h2
theorem rts_z (R : List (Int × Int)) (i : Nat) : zl ((rts R).getD i (0, 1)).1 ≤ 1 ∧ zl ((rts R).getD i (0, 1)).2 ≤ 1 := by
  by_cases h : i < R.length ∧ i < 6
  · rw [rts_get h.1 h.2]; exact rt_z _
  · have : (rts R).getD i (0, 1) = (0, 1) := by
      rw [List.getD, List.getElem?_eq_none (by rw [rts_len]; omega)]; rfl
    rw [this]
    exact ⟨by decide +kernel, by decide +kernel⟩
theorem prs2_b (Q : List Int) (i : Nat) : -20 < (prs2 Q).getD i 0 ∧ (prs2 Q).getD i 0 < 20 := by
  by_cases h : i < Q.length ∧ i < 2
  · rw [prs2_get h.1 h.2]; exact tmod_lt _ 20 (by omega)
  · have : (prs2 Q).getD i 0 = 0 := by
      rw [List.getD, List.getElem?_eq_none (by rw [prs2_len]; omega)]; rfl
    rw [this]; omega
theorem cpoly_one' {c : Int} (h : c ≠ 0) : cpoly [c] = raws [canon c] := by
  unfold cpoly
  have : trimz [c] = [c] := by
    have := tz_spec (q := [c]) (n := 0) h fun k hk => cf_ge (by show 1 ≤ k; omega)
    rw [trimz, this]; rfl
  rw [this]; rfl
theorem lay_den (d : List Nat) : lay (fun i => [(0, 1), (1, 1)][i]?) [.bool false, .sl []] ([1].zip [[.sl (lims d)]]) = some ((1 = 1 ∧ 1 + 1 ≤ 2) ∧ True, prow (false, d)) := rfl
theorem two_rows (a b : RI) : [prow a, prow b] = raws [a, b] := rfl
theorem ilims1 (a : Int) : [[IV.int .i64 a]] = ilims [a] := rfl
theorem ilims3 (a b c : Int) : [[IV.int .i64 a], [IV.int .i64 b], [IV.int .i64 c]] = ilims [a, b, c] := rfl
set_option maxRecDepth 100000 in
theorem kpoly_ok (R : List (Int × Int)) (Q : List Int) (ft : Int) (hR : R.length ≤ 9223372036854775807) (hQ : Q.length ≤ 9223372036854775807) : AC Tryz.prog 7 [.agg (kn R Q ft)] none [cp (kp R Q ft)] := by
  have hr1 : List.range 1 = [0] := rfl
  have hr3 : List.range 3 = [0, 1, 2] := rfl
  have hir : ∀ l : List Int, (∀ r ∈ ilims l, r.length = 1) ↔ True := fun l => by simp [ilims]
  have hil : ∀ l : List Int, (ilims l).length = l.length := fun l => by simp [ilims]
  obtain ⟨hf0, hf1, hf2⟩ := frc_ne ft
  have hfb := tmod_lt ft 9 (by omega)
  have hrl := rts_len R
  have hpl := prs2_len Q
  have zc : zl (frc ft) ≤ 1 := zl_le.mpr (by rw [Nat.pow_one]; simp only [W]; omega)
  have p0 := poly16_ok [1 + ft.tmod 9] (by simp) (fun z hz => by rw [List.mem_singleton.1 hz]; omega)
  have p7 := poly16_ok [-7] (by decide) (fun z hz => by rw [List.mem_singleton.1 hz]; omega)
  have e0 : raws [canon (frc ft)] = cpoly (qsl (frc ft) (rts R) 0) := (cpoly_one' hf0).symm
  rw [kp]
  refine AC.by_walk (rs := [.tmp 2]) ords Tryz.func7 (by rfl) (by rfl) (by rfl) (by rfl) (by rfl) ?_
  simp (disch := omega) only [wk, tis, seval, reduceCtorEq, Nat.reduceEqDiff, rqs, Bool.true_beq, Bool.false_beq, Bool.not_true, Bool.not_false, rootr_len, rootr_get, rootr_rows, fldRat0, ilims1, hr1, hir, hil]
  refine call_by (p0) (by first | rfl | (simp only [tocvs, tocv, ilims1, hr1, hir, hil]; rfl) | (simp only [tocvs, tocv, toboxes, tobox, updH_at, Nat.reduceEqDiff, ↓reduceIte, ilims1, hr1, hir, hil]; rfl)) (by simp) ?_
  simp (disch := omega) only [wk, tis, seval, reduceCtorEq, Nat.reduceEqDiff, rqs, Bool.true_beq, Bool.false_beq, Bool.not_true, Bool.not_false, rootr_len, rootr_get, rootr_rows, fldRat0, ilims1, hr1, hir, hil]
  refine if_cut (fun f1 H => f1 3 = .iv (.sl (cpoly (qsl (frc ft) (rts R) 0))) ∧ f1 1 = .hp 1 1 0 0 ∧ H 1 = .blk false 1 25 3 [kn R Q ft]) ?_ ?_
  · refine if_by (fun h => ?_) (fun h => ?_)
    · have e7 : raws [canon (-7)] = cpoly (qsl (frc ft) (rts R) 0) := by rw [← e0, frc, if_pos h]
      simp (disch := omega) only [wk, tis, seval, reduceCtorEq, Nat.reduceEqDiff, rqs, Bool.true_beq, Bool.false_beq, Bool.not_true, Bool.not_false, rootr_len, rootr_get, rootr_rows, fldRat0, ilims1, hr1, hir, hil, h]
      refine call_by (p7) (by first | rfl | (simp only [tocvs, tocv, ilims1, hr1, hir, hil, h]; rfl) | (simp only [tocvs, tocv, toboxes, tobox, updH_at, Nat.reduceEqDiff, ↓reduceIte, ilims1, hr1, hir, hil, h]; rfl)) (by simp) ?_
      simp (disch := omega) only [wk, tis, seval, reduceCtorEq, Nat.reduceEqDiff, rqs, Bool.true_beq, Bool.false_beq, Bool.not_true, Bool.not_false, rootr_len, rootr_get, rootr_rows, fldRat0, ilims1, hr1, hir, hil, h]
      first | exact e7 | rw [e7]
    · have e1 : raws [canon (1 + ft.tmod 9)] = cpoly (qsl (frc ft) (rts R) 0) := by rw [← e0, frc, if_neg h]
      simp (disch := omega) only [wk, tis, seval, reduceCtorEq, Nat.reduceEqDiff, rqs, Bool.true_beq, Bool.false_beq, Bool.not_true, Bool.not_false, rootr_len, rootr_get, rootr_rows, fldRat0, h]
      first | exact e1 | rw [e1]
  rintro f1 H ⟨h3, h1, hH⟩
  simp (disch := omega) only [wk, tis, seval, reduceCtorEq, Nat.reduceEqDiff, rqs, Bool.true_beq, Bool.false_beq, Bool.not_true, Bool.not_false, rootr_len, rootr_get, rootr_rows, fldRat0, h3, h1, hH]
  refine aloop_by (fun f H => ∃ (i : Nat), i ≤ (rts R).length ∧ f 4 = .iv (.int .i64 i) ∧ f 1 = .hp 1 1 0 0 ∧ H 1 = .blk false 1 25 3 [kn R Q ft] ∧ f 3 = .iv (.sl (cpoly (qsl (frc ft) (rts R) i)))) (fun f H => ((rts R).length - intAt f 4).toNat) ?_ ?_
  · refine ⟨0, by omega, ?_⟩
    simp (disch := omega) only [wk, tis, seval, reduceCtorEq, Nat.reduceEqDiff, rqs, Bool.true_beq, Bool.false_beq, Bool.not_true, Bool.not_false, rootr_len, rootr_get, rootr_rows, fldRat0, h3, h1, hH]
  rintro f H ⟨i, hi, hF⟩
  rw [intAt_of hF.1]
  simp (disch := omega) only [wk, tis, seval, reduceCtorEq, Nat.reduceEqDiff, rqs, Bool.true_beq, Bool.false_beq, Bool.not_true, Bool.not_false, rootr_len, rootr_get, rootr_rows, fldRat0, hF]
  by_cases hlt : i < (rts R).length
  · have c1 : i < R.length := by omega
    have c2 : i < 6 := by omega
    have c1' : (i : Int) < (R.length : Int) := by omega
    have c2' : (i : Int) < 6 := by omega
    have a := rat_ok (R.getD i (0, 0))
    have eg := rts_get c1 c2
    have ez := rt_z (R.getD i (0, 0))
    have en : iv (crat (rtq (R.getD i (0, 0)))).1 = (rtq (R.getD i (0, 0))).num := iv_crat _
    have nn := zneg_ok (crat (rtq (R.getD i (0, 0)))).1 ((szq_crat (rtq_z _)).1.mono (by omega))
    rw [en] at nn
    have qb := qsl_pb zc (rts_z R) i hi (by omega)
    have m := pmul_g (a := cn (qsl (frc ft) (rts R) i)) (b := [canon (-(rtq (R.getD i (0, 0))).num), (false, wd (rtq (R.getD i (0, 0))).den)]) (q := qsl (frc ft) (rts R) i) (r := rf (rt (R.getD i (0, 0)))) (rp_cn (qb.mono (by omega) (by omega))) ⟨by simp, fun c hc => by
      simp only [List.mem_cons, List.not_mem_nil, or_false] at hc
      rcases hc with rfl | rfl
      · exact (sz_canon _).mono (by rw [zl_neg]; exact Nat.le_trans ez.1 (by omega))
      · exact ⟨Nat.le_trans (show (wd (rtq (R.getD i (0, 0))).den).length ≤ 1 from ez.2) (by omega), lim_wd _⟩⟩ (ps_cn _) (by
      show ps [iv (canon (-(rtq (R.getD i (0, 0))).num)), iv (false, wd (rtq (R.getD i (0, 0))).den)] = _
      rw [iv_canon, iv_sg, nv_wd]; rfl)
    rw [← eg, ← qsl_succ hlt] at m
    have hld := lay_den (wd (rtq (R.getD i (0, 0))).den)
    have htr := two_rows (canon (-(rtq (R.getD i (0, 0))).num)) (false, wd (rtq (R.getD i (0, 0))).den)
    have hc2 : (crat (rtq (R.getD i (0, 0)))).2 = wd (rtq (R.getD i (0, 0))).den := rfl
    simp (disch := omega) only [wk, tis, seval, reduceCtorEq, Nat.reduceEqDiff, rqs, Bool.true_beq, Bool.false_beq, Bool.not_true, Bool.not_false, rootr_len, rootr_get, rootr_rows, fldRat0, hF, c1', c2']
    refine call_by (a) (by first | rfl | (simp only [tocvs, tocv, hF, c1', c2']; rfl) | (simp only [tocvs, tocv, toboxes, tobox, updH_at, Nat.reduceEqDiff, ↓reduceIte, hF, c1', c2']; rfl)) (by simp) ?_
    simp (disch := omega) only [wk, tis, seval, reduceCtorEq, Nat.reduceEqDiff, rqs, Bool.true_beq, Bool.false_beq, Bool.not_true, Bool.not_false, rootr_len, rootr_get, rootr_rows, fldRat0, hF, c1', c2']
    refine ⟨tmps_by (by kernel_rfl), ?_⟩
    refine call_by (nn) (by first | rfl | (simp only [tocvs, tocv, hF, hc2, hld, htr]; rfl) | (simp only [tocvs, tocv, toboxes, tobox, updH_at, Nat.reduceEqDiff, ↓reduceIte, hF, hc2, hld, htr]; rfl)) (by simp) ?_
    simp (disch := omega) only [wk, tis, seval, reduceCtorEq, Nat.reduceEqDiff, rqs, Bool.true_beq, Bool.false_beq, Bool.not_true, Bool.not_false, rootr_len, rootr_get, rootr_rows, fldRat0, hF, hc2, hld, htr]
    refine call_by (m) (by first | rfl | (simp only [tocvs, tocv, hF, hc2, hld, htr]; rfl) | (simp only [tocvs, tocv, toboxes, tobox, updH_at, Nat.reduceEqDiff, ↓reduceIte, hF, hc2, hld, htr]; rfl)) (by simp) ?_
    simp (disch := omega) only [wk, tis, seval, reduceCtorEq, Nat.reduceEqDiff, rqs, Bool.true_beq, Bool.false_beq, Bool.not_true, Bool.not_false, rootr_len, rootr_get, rootr_rows, fldRat0, hF, hc2, hld, htr]
    first | exact log_by (by kernel_rfl) | refine ⟨log_by (by kernel_rfl), ?_⟩
    refine ⟨⟨i + 1, by omega, ?_⟩, by omega⟩
    (repeat' apply And.intro) <;> first | rfl | omega
  have hie : i = (rts R).length := by omega
  subst hie
  have w0 : cpoly (qsl (frc ft) (rts R) (rts R).length) = cpoly (wsl (qsl (frc ft) (rts R) (rts R).length) (prs2 Q) 0) := rfl
  have qb := qsl_pb zc (rts_z R) (rts R).length (Nat.le_refl _) (by omega)
  have qb' : PB 100 100 (qsl (frc ft) (rts R) (rts R).length) := qb.mono (by omega) (by omega)
  by_cases g1 : (rts R).length < R.length
  · have g2 : ¬ (rts R).length < 6 := by omega
    have g1' : (((rts R).length : Nat) : Int) < (R.length : Int) := by omega
    have g2' : ¬ (((rts R).length : Nat) : Int) < 6 := by omega
    simp (disch := omega) only [wk, tis, seval, reduceCtorEq, Nat.reduceEqDiff, rqs, Bool.true_beq, Bool.false_beq, Bool.not_true, Bool.not_false, rootr_len, rootr_get, rootr_rows, fldRat0, hF, g1', g2']
    rw [w0] at hF
    generalize qsl (frc ft) (rts R) (rts R).length = q0' at *
    refine aloop_by (fun f H => ∃ (j : Nat), j ≤ (prs2 Q).length ∧ f 6 = .iv (.int .i64 j) ∧ f 1 = .hp 1 1 0 0 ∧ H 1 = .blk false 1 25 3 [kn R Q ft] ∧ f 3 = .iv (.sl (cpoly (wsl q0' (prs2 Q) j)))) (fun f H => ((prs2 Q).length - intAt f 6).toNat) ?_ ?_
    · refine ⟨0, by omega, ?_⟩
      simp (disch := omega) only [wk, tis, seval, reduceCtorEq, Nat.reduceEqDiff, rqs, Bool.true_beq, Bool.false_beq, Bool.not_true, Bool.not_false, rootr_len, rootr_get, rootr_rows, fldRat0, hF]
    rintro f H ⟨j, hj, hF⟩
    rw [intAt_of hF.1]
    simp (disch := omega) only [wk, tis, seval, reduceCtorEq, Nat.reduceEqDiff, rqs, Bool.true_beq, Bool.false_beq, Bool.not_true, Bool.not_false, rootr_len, rootr_get, rootr_rows, fldRat0, hF]
    by_cases hlt2 : j < (prs2 Q).length
    · have c1 : j < Q.length := by omega
      have c2 : j < 2 := by omega
      have c1' : (j : Int) < (Q.length : Int) := by omega
      have c2' : (j : Int) < 2 := by omega
      have eg := prs2_get c1 c2
      have hb := prs2_b Q j
      rw [eg] at hb
      have es := wsl_succ (q := q0') hlt2
      rw [eg] at es
      obtain ⟨x, hx⟩ : ∃ x, x = (Q.getD j 0).tmod 20 := ⟨_, rfl⟩
      rw [← hx] at hb es
      have hxx : 0 ≤ x * x ∧ x * x ≤ 400 := by
        refine ⟨isq x, ?_⟩
        have h1 : x.natAbs * x.natAbs ≤ 20 * 20 := Nat.mul_le_mul (by omega) (by omega)
        have h2 : x * x = ((x.natAbs * x.natAbs : Nat) : Int) := Int.natAbs_mul_self.symm
        omega
      have pp := poly16_ok [x * x + 1, x, 1] (by simp) (fun z hz => by
        simp only [List.mem_cons, List.not_mem_nil, or_false] at hz
        rcases hz with rfl | rfl | rfl <;> omega)
      have wb := wsl_pb qb' (by omega) (prs2_b Q) j hj (by omega)
      have m := pmul_g (a := cn (wsl q0' (prs2 Q) j)) (b := [x * x + 1, x, 1].map canon) (q := wsl q0' (prs2 Q) j) (r := pfl x) (rp_cn (wb.mono (by omega) (by omega))) ((rp_small [x * x + 1, x, 1] 3 (by simp) (fun z hz => by
        simp only [List.mem_cons, List.not_mem_nil, or_false] at hz
        simp only [W]
        rcases hz with rfl | rfl | rfl <;> omega)).mono (by omega) (by omega)) (ps_cn _) (by rw [pv_canon]; rfl)
      rw [← es] at m
      simp (disch := omega) only [wk, tis, seval, reduceCtorEq, Nat.reduceEqDiff, rqs, Bool.true_beq, Bool.false_beq, Bool.not_true, Bool.not_false, rootr_len, rootr_get, rootr_rows, fldRat0, hF, c1', c2', ← hx, ilims3, hr3, hir, hil]
      refine call_by (pp) (by first | rfl | (simp only [tocvs, tocv, hF, ilims3, hr3, hir, hil]; rfl) | (simp only [tocvs, tocv, toboxes, tobox, updH_at, Nat.reduceEqDiff, ↓reduceIte, hF, ilims3, hr3, hir, hil]; rfl)) (by simp) ?_
      simp (disch := omega) only [wk, tis, seval, reduceCtorEq, Nat.reduceEqDiff, rqs, Bool.true_beq, Bool.false_beq, Bool.not_true, Bool.not_false, rootr_len, rootr_get, rootr_rows, fldRat0, hF, ilims3, hr3, hir, hil]
      refine call_by (m) (by first | rfl | (simp only [tocvs, tocv, hF]; rfl) | (simp only [tocvs, tocv, toboxes, tobox, updH_at, Nat.reduceEqDiff, ↓reduceIte, hF]; rfl)) (by simp) ?_
      simp (disch := omega) only [wk, tis, seval, reduceCtorEq, Nat.reduceEqDiff, rqs, Bool.true_beq, Bool.false_beq, Bool.not_true, Bool.not_false, rootr_len, rootr_get, rootr_rows, fldRat0, hF]
      refine ⟨⟨j + 1, by omega, ?_⟩, by omega⟩
      (repeat' apply And.intro) <;> first | rfl | omega
    obtain rfl : j = (prs2 Q).length := by omega
    by_cases k1 : (prs2 Q).length < Q.length
    · have k1' : (((prs2 Q).length : Nat) : Int) < (Q.length : Int) := by omega
      have k2' : ¬ (((prs2 Q).length : Nat) : Int) < 2 := by omega
      simp (disch := omega) only [wk, tis, seval, reduceCtorEq, Nat.reduceEqDiff, rqs, Bool.true_beq, Bool.false_beq, Bool.not_true, Bool.not_false, rootr_len, rootr_get, rootr_rows, fldRat0, hF, k1', k2']
      try rfl
    · have k1' : ¬ (((prs2 Q).length : Nat) : Int) < (Q.length : Int) := by omega
      simp (disch := omega) only [wk, tis, seval, reduceCtorEq, Nat.reduceEqDiff, rqs, Bool.true_beq, Bool.false_beq, Bool.not_true, Bool.not_false, rootr_len, rootr_get, rootr_rows, fldRat0, hF, k1']
      try rfl
  · have g1' : ¬ (((rts R).length : Nat) : Int) < (R.length : Int) := by omega
    simp (disch := omega) only [wk, tis, seval, reduceCtorEq, Nat.reduceEqDiff, rqs, Bool.true_beq, Bool.false_beq, Bool.not_true, Bool.not_false, rootr_len, rootr_get, rootr_rows, fldRat0, hF, g1']
    rw [w0] at hF
    generalize qsl (frc ft) (rts R) (rts R).length = q0' at *
    refine aloop_by (fun f H => ∃ (j : Nat), j ≤ (prs2 Q).length ∧ f 6 = .iv (.int .i64 j) ∧ f 1 = .hp 1 1 0 0 ∧ H 1 = .blk false 1 25 3 [kn R Q ft] ∧ f 3 = .iv (.sl (cpoly (wsl q0' (prs2 Q) j)))) (fun f H => ((prs2 Q).length - intAt f 6).toNat) ?_ ?_
    · refine ⟨0, by omega, ?_⟩
      simp (disch := omega) only [wk, tis, seval, reduceCtorEq, Nat.reduceEqDiff, rqs, Bool.true_beq, Bool.false_beq, Bool.not_true, Bool.not_false, rootr_len, rootr_get, rootr_rows, fldRat0, hF]
    rintro f H ⟨j, hj, hF⟩
    rw [intAt_of hF.1]
    simp (disch := omega) only [wk, tis, seval, reduceCtorEq, Nat.reduceEqDiff, rqs, Bool.true_beq, Bool.false_beq, Bool.not_true, Bool.not_false, rootr_len, rootr_get, rootr_rows, fldRat0, hF]
    by_cases hlt2 : j < (prs2 Q).length
    · have c1 : j < Q.length := by omega
      have c2 : j < 2 := by omega
      have c1' : (j : Int) < (Q.length : Int) := by omega
      have c2' : (j : Int) < 2 := by omega
      have eg := prs2_get c1 c2
      have hb := prs2_b Q j
      rw [eg] at hb
      have es := wsl_succ (q := q0') hlt2
      rw [eg] at es
      obtain ⟨x, hx⟩ : ∃ x, x = (Q.getD j 0).tmod 20 := ⟨_, rfl⟩
      rw [← hx] at hb es
      have hxx : 0 ≤ x * x ∧ x * x ≤ 400 := by
        refine ⟨isq x, ?_⟩
        have h1 : x.natAbs * x.natAbs ≤ 20 * 20 := Nat.mul_le_mul (by omega) (by omega)
        have h2 : x * x = ((x.natAbs * x.natAbs : Nat) : Int) := Int.natAbs_mul_self.symm
        omega
      have pp := poly16_ok [x * x + 1, x, 1] (by simp) (fun z hz => by
        simp only [List.mem_cons, List.not_mem_nil, or_false] at hz
        rcases hz with rfl | rfl | rfl <;> omega)
      have wb := wsl_pb qb' (by omega) (prs2_b Q) j hj (by omega)
      have m := pmul_g (a := cn (wsl q0' (prs2 Q) j)) (b := [x * x + 1, x, 1].map canon) (q := wsl q0' (prs2 Q) j) (r := pfl x) (rp_cn (wb.mono (by omega) (by omega))) ((rp_small [x * x + 1, x, 1] 3 (by simp) (fun z hz => by
        simp only [List.mem_cons, List.not_mem_nil, or_false] at hz
        simp only [W]
        rcases hz with rfl | rfl | rfl <;> omega)).mono (by omega) (by omega)) (ps_cn _) (by rw [pv_canon]; rfl)
      rw [← es] at m
      simp (disch := omega) only [wk, tis, seval, reduceCtorEq, Nat.reduceEqDiff, rqs, Bool.true_beq, Bool.false_beq, Bool.not_true, Bool.not_false, rootr_len, rootr_get, rootr_rows, fldRat0, hF, c1', c2', ← hx, ilims3, hr3, hir, hil]
      refine call_by (pp) (by first | rfl | (simp only [tocvs, tocv, hF, ilims3, hr3, hir, hil]; rfl) | (simp only [tocvs, tocv, toboxes, tobox, updH_at, Nat.reduceEqDiff, ↓reduceIte, hF, ilims3, hr3, hir, hil]; rfl)) (by simp) ?_
      simp (disch := omega) only [wk, tis, seval, reduceCtorEq, Nat.reduceEqDiff, rqs, Bool.true_beq, Bool.false_beq, Bool.not_true, Bool.not_false, rootr_len, rootr_get, rootr_rows, fldRat0, hF, ilims3, hr3, hir, hil]
      refine call_by (m) (by first | rfl | (simp only [tocvs, tocv, hF]; rfl) | (simp only [tocvs, tocv, toboxes, tobox, updH_at, Nat.reduceEqDiff, ↓reduceIte, hF]; rfl)) (by simp) ?_
      simp (disch := omega) only [wk, tis, seval, reduceCtorEq, Nat.reduceEqDiff, rqs, Bool.true_beq, Bool.false_beq, Bool.not_true, Bool.not_false, rootr_len, rootr_get, rootr_rows, fldRat0, hF]
      refine ⟨⟨j + 1, by omega, ?_⟩, by omega⟩
      (repeat' apply And.intro) <;> first | rfl | omega
    obtain rfl : j = (prs2 Q).length := by omega
    by_cases k1 : (prs2 Q).length < Q.length
    · have k1' : (((prs2 Q).length : Nat) : Int) < (Q.length : Int) := by omega
      have k2' : ¬ (((prs2 Q).length : Nat) : Int) < 2 := by omega
      simp (disch := omega) only [wk, tis, seval, reduceCtorEq, Nat.reduceEqDiff, rqs, Bool.true_beq, Bool.false_beq, Bool.not_true, Bool.not_false, rootr_len, rootr_get, rootr_rows, fldRat0, hF, k1', k2']
      try rfl
    · have k1' : ¬ (((prs2 Q).length : Nat) : Int) < (Q.length : Int) := by omega
      simp (disch := omega) only [wk, tis, seval, reduceCtorEq, Nat.reduceEqDiff, rqs, Bool.true_beq, Bool.false_beq, Bool.not_true, Bool.not_false, rootr_len, rootr_get, rootr_rows, fldRat0, hF, k1']
      try rfl
end Go.Proofs.YtcocppjgbcbndaaGreat

namespace Go.Proofs.YtcocppjgbcbndaaGreat
open Go Go.Proofs Go.AL
set_option linter.unusedSimpArgs false
set_option linter.unusedVariables false
def cnd (lo hi : Int) (low high : Bool) : Bool := (decide (lo < 0) || (low && decide (lo = 0))) && (decide (hi < 0) || (high && decide (hi = 0)))
def lor (u : Rat) (r : Int × Int) : Int := sgq (u - rtq r)
def hir (v : Rat) (r : Int × Int) : Int := sgq (rtq r - v)
def cntk (R : List (Int × Int)) (u v : Rat) (low high : Bool) (k : Nat) : Nat := (R.take k).countP fun r => cnd (lor u r) (hir v r) low high
theorem cntk_succ {R : List (Int × Int)} {u v : Rat} {low high : Bool} {k : Nat} (h : k < R.length) : cntk R u v low high (k + 1) = cntk R u v low high k + if cnd (lor u (R.getD k (0, 0))) (hir v (R.getD k (0, 0))) low high then 1 else 0 := by
  have : R.take (k + 1) = R.take k ++ [R.getD k (0, 0)] := by rw [List.take_add_one]; congr 1; simp [List.getD, h]
  rw [cntk, this, List.countP_append]
  simp [cntk, List.countP_cons]
theorem cntk_le (R : List (Int × Int)) (u v : Rat) (low high : Bool) (k : Nat) : cntk R u v low high k ≤ k := by
  have := List.countP_le_length (p := fun r => cnd (lor u r) (hir v r) low high) (l := R.take k)
  rw [List.length_take] at this
  unfold cntk
  omega
set_option maxHeartbeats 4000000 in
theorem kcount_ok (R : List (Int × Int)) (Q : List Int) (ft : Int) (u v : Rat) (low high : Bool) (hR : R.length ≤ 9223372036854775807) (hu : qz u ≤ 1000) (hv : qz v ≤ 1000) : AC Tryz.prog 11 [.agg (kn R Q ft), cqz u, cqz v, cb low, cb high] none [ci (cntk R u v low high 6)] := by
  refine AC.by_walk (rs := [.tmp 10]) ords Tryz.func11 (by rfl) (by rfl) (by rfl) (by rfl) (by rfl) ?_
  simp (disch := omega) only [wk, tis, seval, reduceCtorEq, Nat.reduceEqDiff, rqs, Bool.true_beq, Bool.false_beq, Bool.not_true, Bool.not_false, rootr_len, rootr_get, rootr_rows, fldRat0]
  refine aloop_by (fun f H => ∃ (i : Nat), i ≤ R.length ∧ i ≤ 6 ∧ f 12 = .iv (.int .i64 i) ∧ f 11 = .iv (.int .i64 (cntk R u v low high i)) ∧ f 5 = .hp 5 1 0 0 ∧ H 5 = .blk false 1 25 3 [kn R Q ft] ∧ f 6 = .hp 6 1 0 0 ∧ H 6 = .blk false 1 35 3 [qrow (crat u)] ∧ f 7 = .hp 7 1 0 0 ∧ H 7 = .blk false 1 35 3 [qrow (crat v)] ∧ f 3 = .iv (.bool low) ∧ f 4 = .iv (.bool high)) (fun f H => (R.length - intAt f 12).toNat) ?_ ?_
  · refine ⟨0, by omega, by omega, ?_⟩
    simp (disch := omega) only [wk, tis, seval, reduceCtorEq, Nat.reduceEqDiff, rqs, Bool.true_beq, Bool.false_beq, Bool.not_true, Bool.not_false, rootr_len, rootr_get, rootr_rows, fldRat0, show cntk R u v low high 0 = 0 from rfl]
  rintro f H ⟨i, hi, hi6, hF⟩
  rw [intAt_of hF.1]
  simp (disch := omega) only [wk, tis, seval, reduceCtorEq, Nat.reduceEqDiff, rqs, Bool.true_beq, Bool.false_beq, Bool.not_true, Bool.not_false, rootr_len, rootr_get, rootr_rows, fldRat0, hF]
  by_cases c1 : i < R.length
  · have c1' : (i : Int) < (R.length : Int) := by omega
    by_cases c2 : i < 6
    · have c2' : (i : Int) < 6 := by omega
      have a := rat_ok (R.getD i (0, 0))
      have et := cntk_succ (u := u) (v := v) (low := low) (high := high) c1
      have hcl := cntk_le R u v low high i
      have z := rtq_z (R.getD i (0, 0))
      have o1 := horder_ok (crat u) (crat (rtq (R.getD i (0, 0)))) (szq_crat (by omega)) (szq_crat (by omega)) (nv_crat0 _) (nv_crat0 _)
      have o2 := horder_ok (crat (rtq (R.getD i (0, 0)))) (crat v) (szq_crat (by omega)) (szq_crat (by omega)) (nv_crat0 _) (nv_crat0 _)
      rw [qv_crat, qv_crat, show sgq (u - rtq (R.getD i (0, 0))) = lor u (R.getD i (0, 0)) from rfl] at o1
      rw [qv_crat, qv_crat, show sgq (rtq (R.getD i (0, 0)) - v) = hir v (R.getD i (0, 0)) from rfl] at o2
      simp (disch := omega) only [wk, tis, seval, reduceCtorEq, Nat.reduceEqDiff, rqs, Bool.true_beq, Bool.false_beq, Bool.not_true, Bool.not_false, rootr_len, rootr_get, rootr_rows, fldRat0, hF, c1', c2']
      refine call_by (a) (by first | rfl | (simp only [tocvs, tocv, hF, c1', c2']; rfl) | (simp only [tocvs, tocv, toboxes, tobox, updH_at, Nat.reduceEqDiff, ↓reduceIte, hF, c1', c2']; rfl)) (by simp) ?_
      simp (disch := omega) only [wk, tis, seval, reduceCtorEq, Nat.reduceEqDiff, rqs, Bool.true_beq, Bool.false_beq, Bool.not_true, Bool.not_false, rootr_len, rootr_get, rootr_rows, fldRat0, hF, c1', c2']
      refine ⟨tmps_by (by kernel_rfl), ?_⟩
      generalize lor u (R.getD i (0, 0)) = lo at *
      generalize hir v (R.getD i (0, 0)) = hi' at *
      rcases Int.lt_trichotomy lo 0 with p1 | p1 | p1
      · have p1 := p1
        rcases Int.lt_trichotomy hi' 0 with q1 | q1 | q1
        · have q1 := q1
          cases low <;> cases high
          · have ec : cnd lo hi' false false = true := by simp [cnd, p1, q1]
            rw [ec] at et
            refine call_by (o1) (by first | rfl | (simp only [tocvs, tocv, hF, p1, q1]; rfl) | (simp only [tocvs, tocv, toboxes, tobox, updH_at, Nat.reduceEqDiff, ↓reduceIte, hF, p1, q1]; rfl)) (by simp) ?_
            simp (disch := omega) only [wk, tis, seval, reduceCtorEq, Nat.reduceEqDiff, rqs, Bool.true_beq, Bool.false_beq, Bool.not_true, Bool.not_false, rootr_len, rootr_get, rootr_rows, fldRat0, hF, p1, q1]
            refine call_by (o2) (by first | rfl | (simp only [tocvs, tocv, hF, p1, q1]; rfl) | (simp only [tocvs, tocv, toboxes, tobox, updH_at, Nat.reduceEqDiff, ↓reduceIte, hF, p1, q1]; rfl)) (by simp) ?_
            simp (disch := omega) only [wk, tis, seval, reduceCtorEq, Nat.reduceEqDiff, rqs, Bool.true_beq, Bool.false_beq, Bool.not_true, Bool.not_false, rootr_len, rootr_get, rootr_rows, fldRat0, hF, p1, q1]
            first | exact log_by (by kernel_rfl) | refine ⟨log_by (by kernel_rfl), ?_⟩
            refine ⟨⟨i + 1, by omega, by omega, ?_⟩, by omega⟩
            rw [et]
            (repeat' apply And.intro) <;> first | rfl | omega
          · have ec : cnd lo hi' false true = true := by simp [cnd, p1, q1]
            rw [ec] at et
            refine call_by (o1) (by first | rfl | (simp only [tocvs, tocv, hF, p1, q1]; rfl) | (simp only [tocvs, tocv, toboxes, tobox, updH_at, Nat.reduceEqDiff, ↓reduceIte, hF, p1, q1]; rfl)) (by simp) ?_
            simp (disch := omega) only [wk, tis, seval, reduceCtorEq, Nat.reduceEqDiff, rqs, Bool.true_beq, Bool.false_beq, Bool.not_true, Bool.not_false, rootr_len, rootr_get, rootr_rows, fldRat0, hF, p1, q1]
            refine call_by (o2) (by first | rfl | (simp only [tocvs, tocv, hF, p1, q1]; rfl) | (simp only [tocvs, tocv, toboxes, tobox, updH_at, Nat.reduceEqDiff, ↓reduceIte, hF, p1, q1]; rfl)) (by simp) ?_
            simp (disch := omega) only [wk, tis, seval, reduceCtorEq, Nat.reduceEqDiff, rqs, Bool.true_beq, Bool.false_beq, Bool.not_true, Bool.not_false, rootr_len, rootr_get, rootr_rows, fldRat0, hF, p1, q1]
            first | exact log_by (by kernel_rfl) | refine ⟨log_by (by kernel_rfl), ?_⟩
            refine ⟨⟨i + 1, by omega, by omega, ?_⟩, by omega⟩
            rw [et]
            (repeat' apply And.intro) <;> first | rfl | omega
          · have ec : cnd lo hi' true false = true := by simp [cnd, p1, q1]
            rw [ec] at et
            refine call_by (o1) (by first | rfl | (simp only [tocvs, tocv, hF, p1, q1]; rfl) | (simp only [tocvs, tocv, toboxes, tobox, updH_at, Nat.reduceEqDiff, ↓reduceIte, hF, p1, q1]; rfl)) (by simp) ?_
            simp (disch := omega) only [wk, tis, seval, reduceCtorEq, Nat.reduceEqDiff, rqs, Bool.true_beq, Bool.false_beq, Bool.not_true, Bool.not_false, rootr_len, rootr_get, rootr_rows, fldRat0, hF, p1, q1]
            refine call_by (o2) (by first | rfl | (simp only [tocvs, tocv, hF, p1, q1]; rfl) | (simp only [tocvs, tocv, toboxes, tobox, updH_at, Nat.reduceEqDiff, ↓reduceIte, hF, p1, q1]; rfl)) (by simp) ?_
            simp (disch := omega) only [wk, tis, seval, reduceCtorEq, Nat.reduceEqDiff, rqs, Bool.true_beq, Bool.false_beq, Bool.not_true, Bool.not_false, rootr_len, rootr_get, rootr_rows, fldRat0, hF, p1, q1]
            first | exact log_by (by kernel_rfl) | refine ⟨log_by (by kernel_rfl), ?_⟩
            refine ⟨⟨i + 1, by omega, by omega, ?_⟩, by omega⟩
            rw [et]
            (repeat' apply And.intro) <;> first | rfl | omega
          · have ec : cnd lo hi' true true = true := by simp [cnd, p1, q1]
            rw [ec] at et
            refine call_by (o1) (by first | rfl | (simp only [tocvs, tocv, hF, p1, q1]; rfl) | (simp only [tocvs, tocv, toboxes, tobox, updH_at, Nat.reduceEqDiff, ↓reduceIte, hF, p1, q1]; rfl)) (by simp) ?_
            simp (disch := omega) only [wk, tis, seval, reduceCtorEq, Nat.reduceEqDiff, rqs, Bool.true_beq, Bool.false_beq, Bool.not_true, Bool.not_false, rootr_len, rootr_get, rootr_rows, fldRat0, hF, p1, q1]
            refine call_by (o2) (by first | rfl | (simp only [tocvs, tocv, hF, p1, q1]; rfl) | (simp only [tocvs, tocv, toboxes, tobox, updH_at, Nat.reduceEqDiff, ↓reduceIte, hF, p1, q1]; rfl)) (by simp) ?_
            simp (disch := omega) only [wk, tis, seval, reduceCtorEq, Nat.reduceEqDiff, rqs, Bool.true_beq, Bool.false_beq, Bool.not_true, Bool.not_false, rootr_len, rootr_get, rootr_rows, fldRat0, hF, p1, q1]
            first | exact log_by (by kernel_rfl) | refine ⟨log_by (by kernel_rfl), ?_⟩
            refine ⟨⟨i + 1, by omega, by omega, ?_⟩, by omega⟩
            rw [et]
            (repeat' apply And.intro) <;> first | rfl | omega
        · subst q1
          cases low <;> cases high
          · have ec : cnd lo 0 false false = false := by simp [cnd, p1]
            rw [ec] at et
            refine call_by (o1) (by first | rfl | (simp only [tocvs, tocv, hF, p1]; rfl) | (simp only [tocvs, tocv, toboxes, tobox, updH_at, Nat.reduceEqDiff, ↓reduceIte, hF, p1]; rfl)) (by simp) ?_
            simp (disch := omega) only [wk, tis, seval, reduceCtorEq, Nat.reduceEqDiff, rqs, Bool.true_beq, Bool.false_beq, Bool.not_true, Bool.not_false, rootr_len, rootr_get, rootr_rows, fldRat0, hF, p1]
            refine call_by (o2) (by first | rfl | (simp only [tocvs, tocv, hF, p1]; rfl) | (simp only [tocvs, tocv, toboxes, tobox, updH_at, Nat.reduceEqDiff, ↓reduceIte, hF, p1]; rfl)) (by simp) ?_
            simp (disch := omega) only [wk, tis, seval, reduceCtorEq, Nat.reduceEqDiff, rqs, Bool.true_beq, Bool.false_beq, Bool.not_true, Bool.not_false, rootr_len, rootr_get, rootr_rows, fldRat0, hF, p1]
            first | exact log_by (by kernel_rfl) | refine ⟨log_by (by kernel_rfl), ?_⟩
            refine ⟨⟨i + 1, by omega, by omega, ?_⟩, by omega⟩
            rw [et]
            (repeat' apply And.intro) <;> first | rfl | omega
          · have ec : cnd lo 0 false true = true := by simp [cnd, p1]
            rw [ec] at et
            refine call_by (o1) (by first | rfl | (simp only [tocvs, tocv, hF, p1]; rfl) | (simp only [tocvs, tocv, toboxes, tobox, updH_at, Nat.reduceEqDiff, ↓reduceIte, hF, p1]; rfl)) (by simp) ?_
            simp (disch := omega) only [wk, tis, seval, reduceCtorEq, Nat.reduceEqDiff, rqs, Bool.true_beq, Bool.false_beq, Bool.not_true, Bool.not_false, rootr_len, rootr_get, rootr_rows, fldRat0, hF, p1]
            refine call_by (o2) (by first | rfl | (simp only [tocvs, tocv, hF, p1]; rfl) | (simp only [tocvs, tocv, toboxes, tobox, updH_at, Nat.reduceEqDiff, ↓reduceIte, hF, p1]; rfl)) (by simp) ?_
            simp (disch := omega) only [wk, tis, seval, reduceCtorEq, Nat.reduceEqDiff, rqs, Bool.true_beq, Bool.false_beq, Bool.not_true, Bool.not_false, rootr_len, rootr_get, rootr_rows, fldRat0, hF, p1]
            first | exact log_by (by kernel_rfl) | refine ⟨log_by (by kernel_rfl), ?_⟩
            refine ⟨⟨i + 1, by omega, by omega, ?_⟩, by omega⟩
            rw [et]
            (repeat' apply And.intro) <;> first | rfl | omega
          · have ec : cnd lo 0 true false = false := by simp [cnd, p1]
            rw [ec] at et
            refine call_by (o1) (by first | rfl | (simp only [tocvs, tocv, hF, p1]; rfl) | (simp only [tocvs, tocv, toboxes, tobox, updH_at, Nat.reduceEqDiff, ↓reduceIte, hF, p1]; rfl)) (by simp) ?_
            simp (disch := omega) only [wk, tis, seval, reduceCtorEq, Nat.reduceEqDiff, rqs, Bool.true_beq, Bool.false_beq, Bool.not_true, Bool.not_false, rootr_len, rootr_get, rootr_rows, fldRat0, hF, p1]
            refine call_by (o2) (by first | rfl | (simp only [tocvs, tocv, hF, p1]; rfl) | (simp only [tocvs, tocv, toboxes, tobox, updH_at, Nat.reduceEqDiff, ↓reduceIte, hF, p1]; rfl)) (by simp) ?_
            simp (disch := omega) only [wk, tis, seval, reduceCtorEq, Nat.reduceEqDiff, rqs, Bool.true_beq, Bool.false_beq, Bool.not_true, Bool.not_false, rootr_len, rootr_get, rootr_rows, fldRat0, hF, p1]
            first | exact log_by (by kernel_rfl) | refine ⟨log_by (by kernel_rfl), ?_⟩
            refine ⟨⟨i + 1, by omega, by omega, ?_⟩, by omega⟩
            rw [et]
            (repeat' apply And.intro) <;> first | rfl | omega
          · have ec : cnd lo 0 true true = true := by simp [cnd, p1]
            rw [ec] at et
            refine call_by (o1) (by first | rfl | (simp only [tocvs, tocv, hF, p1]; rfl) | (simp only [tocvs, tocv, toboxes, tobox, updH_at, Nat.reduceEqDiff, ↓reduceIte, hF, p1]; rfl)) (by simp) ?_
            simp (disch := omega) only [wk, tis, seval, reduceCtorEq, Nat.reduceEqDiff, rqs, Bool.true_beq, Bool.false_beq, Bool.not_true, Bool.not_false, rootr_len, rootr_get, rootr_rows, fldRat0, hF, p1]
            refine call_by (o2) (by first | rfl | (simp only [tocvs, tocv, hF, p1]; rfl) | (simp only [tocvs, tocv, toboxes, tobox, updH_at, Nat.reduceEqDiff, ↓reduceIte, hF, p1]; rfl)) (by simp) ?_
            simp (disch := omega) only [wk, tis, seval, reduceCtorEq, Nat.reduceEqDiff, rqs, Bool.true_beq, Bool.false_beq, Bool.not_true, Bool.not_false, rootr_len, rootr_get, rootr_rows, fldRat0, hF, p1]
            first | exact log_by (by kernel_rfl) | refine ⟨log_by (by kernel_rfl), ?_⟩
            refine ⟨⟨i + 1, by omega, by omega, ?_⟩, by omega⟩
            rw [et]
            (repeat' apply And.intro) <;> first | rfl | omega
        · have m1 : ¬ hi' < 0 := by omega
          have m2 : ¬ hi' = 0 := by omega
          cases low <;> cases high
          · have ec : cnd lo hi' false false = false := by simp [cnd, p1, m1, m2]
            rw [ec] at et
            refine call_by (o1) (by first | rfl | (simp only [tocvs, tocv, hF, p1, m1, m2]; rfl) | (simp only [tocvs, tocv, toboxes, tobox, updH_at, Nat.reduceEqDiff, ↓reduceIte, hF, p1, m1, m2]; rfl)) (by simp) ?_
            simp (disch := omega) only [wk, tis, seval, reduceCtorEq, Nat.reduceEqDiff, rqs, Bool.true_beq, Bool.false_beq, Bool.not_true, Bool.not_false, rootr_len, rootr_get, rootr_rows, fldRat0, hF, p1, m1, m2]
            refine call_by (o2) (by first | rfl | (simp only [tocvs, tocv, hF, p1, m1, m2]; rfl) | (simp only [tocvs, tocv, toboxes, tobox, updH_at, Nat.reduceEqDiff, ↓reduceIte, hF, p1, m1, m2]; rfl)) (by simp) ?_
            simp (disch := omega) only [wk, tis, seval, reduceCtorEq, Nat.reduceEqDiff, rqs, Bool.true_beq, Bool.false_beq, Bool.not_true, Bool.not_false, rootr_len, rootr_get, rootr_rows, fldRat0, hF, p1, m1, m2]
            first | exact log_by (by kernel_rfl) | refine ⟨log_by (by kernel_rfl), ?_⟩
            refine ⟨⟨i + 1, by omega, by omega, ?_⟩, by omega⟩
            rw [et]
            (repeat' apply And.intro) <;> first | rfl | omega
          · have ec : cnd lo hi' false true = false := by simp [cnd, p1, m1, m2]
            rw [ec] at et
            refine call_by (o1) (by first | rfl | (simp only [tocvs, tocv, hF, p1, m1, m2]; rfl) | (simp only [tocvs, tocv, toboxes, tobox, updH_at, Nat.reduceEqDiff, ↓reduceIte, hF, p1, m1, m2]; rfl)) (by simp) ?_
            simp (disch := omega) only [wk, tis, seval, reduceCtorEq, Nat.reduceEqDiff, rqs, Bool.true_beq, Bool.false_beq, Bool.not_true, Bool.not_false, rootr_len, rootr_get, rootr_rows, fldRat0, hF, p1, m1, m2]
            refine call_by (o2) (by first | rfl | (simp only [tocvs, tocv, hF, p1, m1, m2]; rfl) | (simp only [tocvs, tocv, toboxes, tobox, updH_at, Nat.reduceEqDiff, ↓reduceIte, hF, p1, m1, m2]; rfl)) (by simp) ?_
            simp (disch := omega) only [wk, tis, seval, reduceCtorEq, Nat.reduceEqDiff, rqs, Bool.true_beq, Bool.false_beq, Bool.not_true, Bool.not_false, rootr_len, rootr_get, rootr_rows, fldRat0, hF, p1, m1, m2]
            first | exact log_by (by kernel_rfl) | refine ⟨log_by (by kernel_rfl), ?_⟩
            refine ⟨⟨i + 1, by omega, by omega, ?_⟩, by omega⟩
            rw [et]
            (repeat' apply And.intro) <;> first | rfl | omega
          · have ec : cnd lo hi' true false = false := by simp [cnd, p1, m1, m2]
            rw [ec] at et
            refine call_by (o1) (by first | rfl | (simp only [tocvs, tocv, hF, p1, m1, m2]; rfl) | (simp only [tocvs, tocv, toboxes, tobox, updH_at, Nat.reduceEqDiff, ↓reduceIte, hF, p1, m1, m2]; rfl)) (by simp) ?_
            simp (disch := omega) only [wk, tis, seval, reduceCtorEq, Nat.reduceEqDiff, rqs, Bool.true_beq, Bool.false_beq, Bool.not_true, Bool.not_false, rootr_len, rootr_get, rootr_rows, fldRat0, hF, p1, m1, m2]
            refine call_by (o2) (by first | rfl | (simp only [tocvs, tocv, hF, p1, m1, m2]; rfl) | (simp only [tocvs, tocv, toboxes, tobox, updH_at, Nat.reduceEqDiff, ↓reduceIte, hF, p1, m1, m2]; rfl)) (by simp) ?_
            simp (disch := omega) only [wk, tis, seval, reduceCtorEq, Nat.reduceEqDiff, rqs, Bool.true_beq, Bool.false_beq, Bool.not_true, Bool.not_false, rootr_len, rootr_get, rootr_rows, fldRat0, hF, p1, m1, m2]
            first | exact log_by (by kernel_rfl) | refine ⟨log_by (by kernel_rfl), ?_⟩
            refine ⟨⟨i + 1, by omega, by omega, ?_⟩, by omega⟩
            rw [et]
            (repeat' apply And.intro) <;> first | rfl | omega
          · have ec : cnd lo hi' true true = false := by simp [cnd, p1, m1, m2]
            rw [ec] at et
            refine call_by (o1) (by first | rfl | (simp only [tocvs, tocv, hF, p1, m1, m2]; rfl) | (simp only [tocvs, tocv, toboxes, tobox, updH_at, Nat.reduceEqDiff, ↓reduceIte, hF, p1, m1, m2]; rfl)) (by simp) ?_
            simp (disch := omega) only [wk, tis, seval, reduceCtorEq, Nat.reduceEqDiff, rqs, Bool.true_beq, Bool.false_beq, Bool.not_true, Bool.not_false, rootr_len, rootr_get, rootr_rows, fldRat0, hF, p1, m1, m2]
            refine call_by (o2) (by first | rfl | (simp only [tocvs, tocv, hF, p1, m1, m2]; rfl) | (simp only [tocvs, tocv, toboxes, tobox, updH_at, Nat.reduceEqDiff, ↓reduceIte, hF, p1, m1, m2]; rfl)) (by simp) ?_
            simp (disch := omega) only [wk, tis, seval, reduceCtorEq, Nat.reduceEqDiff, rqs, Bool.true_beq, Bool.false_beq, Bool.not_true, Bool.not_false, rootr_len, rootr_get, rootr_rows, fldRat0, hF, p1, m1, m2]
            first | exact log_by (by kernel_rfl) | refine ⟨log_by (by kernel_rfl), ?_⟩
            refine ⟨⟨i + 1, by omega, by omega, ?_⟩, by omega⟩
            rw [et]
            (repeat' apply And.intro) <;> first | rfl | omega
      · subst p1
        rcases Int.lt_trichotomy hi' 0 with q1 | q1 | q1
        · have q1 := q1
          cases low <;> cases high
          · have ec : cnd 0 hi' false false = false := by simp [cnd, q1]
            rw [ec] at et
            refine call_by (o1) (by first | rfl | (simp only [tocvs, tocv, hF, q1]; rfl) | (simp only [tocvs, tocv, toboxes, tobox, updH_at, Nat.reduceEqDiff, ↓reduceIte, hF, q1]; rfl)) (by simp) ?_
            simp (disch := omega) only [wk, tis, seval, reduceCtorEq, Nat.reduceEqDiff, rqs, Bool.true_beq, Bool.false_beq, Bool.not_true, Bool.not_false, rootr_len, rootr_get, rootr_rows, fldRat0, hF, q1]
            refine call_by (o2) (by first | rfl | (simp only [tocvs, tocv, hF, q1]; rfl) | (simp only [tocvs, tocv, toboxes, tobox, updH_at, Nat.reduceEqDiff, ↓reduceIte, hF, q1]; rfl)) (by simp) ?_
            simp (disch := omega) only [wk, tis, seval, reduceCtorEq, Nat.reduceEqDiff, rqs, Bool.true_beq, Bool.false_beq, Bool.not_true, Bool.not_false, rootr_len, rootr_get, rootr_rows, fldRat0, hF, q1]
            first | exact log_by (by kernel_rfl) | refine ⟨log_by (by kernel_rfl), ?_⟩
            refine ⟨⟨i + 1, by omega, by omega, ?_⟩, by omega⟩
            rw [et]
            (repeat' apply And.intro) <;> first | rfl | omega
          · have ec : cnd 0 hi' false true = false := by simp [cnd, q1]
            rw [ec] at et
            refine call_by (o1) (by first | rfl | (simp only [tocvs, tocv, hF, q1]; rfl) | (simp only [tocvs, tocv, toboxes, tobox, updH_at, Nat.reduceEqDiff, ↓reduceIte, hF, q1]; rfl)) (by simp) ?_
            simp (disch := omega) only [wk, tis, seval, reduceCtorEq, Nat.reduceEqDiff, rqs, Bool.true_beq, Bool.false_beq, Bool.not_true, Bool.not_false, rootr_len, rootr_get, rootr_rows, fldRat0, hF, q1]
            refine call_by (o2) (by first | rfl | (simp only [tocvs, tocv, hF, q1]; rfl) | (simp only [tocvs, tocv, toboxes, tobox, updH_at, Nat.reduceEqDiff, ↓reduceIte, hF, q1]; rfl)) (by simp) ?_
            simp (disch := omega) only [wk, tis, seval, reduceCtorEq, Nat.reduceEqDiff, rqs, Bool.true_beq, Bool.false_beq, Bool.not_true, Bool.not_false, rootr_len, rootr_get, rootr_rows, fldRat0, hF, q1]
            first | exact log_by (by kernel_rfl) | refine ⟨log_by (by kernel_rfl), ?_⟩
            refine ⟨⟨i + 1, by omega, by omega, ?_⟩, by omega⟩
            rw [et]
            (repeat' apply And.intro) <;> first | rfl | omega
          · have ec : cnd 0 hi' true false = true := by simp [cnd, q1]
            rw [ec] at et
            refine call_by (o1) (by first | rfl | (simp only [tocvs, tocv, hF, q1]; rfl) | (simp only [tocvs, tocv, toboxes, tobox, updH_at, Nat.reduceEqDiff, ↓reduceIte, hF, q1]; rfl)) (by simp) ?_
            simp (disch := omega) only [wk, tis, seval, reduceCtorEq, Nat.reduceEqDiff, rqs, Bool.true_beq, Bool.false_beq, Bool.not_true, Bool.not_false, rootr_len, rootr_get, rootr_rows, fldRat0, hF, q1]
            refine call_by (o2) (by first | rfl | (simp only [tocvs, tocv, hF, q1]; rfl) | (simp only [tocvs, tocv, toboxes, tobox, updH_at, Nat.reduceEqDiff, ↓reduceIte, hF, q1]; rfl)) (by simp) ?_
            simp (disch := omega) only [wk, tis, seval, reduceCtorEq, Nat.reduceEqDiff, rqs, Bool.true_beq, Bool.false_beq, Bool.not_true, Bool.not_false, rootr_len, rootr_get, rootr_rows, fldRat0, hF, q1]
            first | exact log_by (by kernel_rfl) | refine ⟨log_by (by kernel_rfl), ?_⟩
            refine ⟨⟨i + 1, by omega, by omega, ?_⟩, by omega⟩
            rw [et]
            (repeat' apply And.intro) <;> first | rfl | omega
          · have ec : cnd 0 hi' true true = true := by simp [cnd, q1]
            rw [ec] at et
            refine call_by (o1) (by first | rfl | (simp only [tocvs, tocv, hF, q1]; rfl) | (simp only [tocvs, tocv, toboxes, tobox, updH_at, Nat.reduceEqDiff, ↓reduceIte, hF, q1]; rfl)) (by simp) ?_
            simp (disch := omega) only [wk, tis, seval, reduceCtorEq, Nat.reduceEqDiff, rqs, Bool.true_beq, Bool.false_beq, Bool.not_true, Bool.not_false, rootr_len, rootr_get, rootr_rows, fldRat0, hF, q1]
            refine call_by (o2) (by first | rfl | (simp only [tocvs, tocv, hF, q1]; rfl) | (simp only [tocvs, tocv, toboxes, tobox, updH_at, Nat.reduceEqDiff, ↓reduceIte, hF, q1]; rfl)) (by simp) ?_
            simp (disch := omega) only [wk, tis, seval, reduceCtorEq, Nat.reduceEqDiff, rqs, Bool.true_beq, Bool.false_beq, Bool.not_true, Bool.not_false, rootr_len, rootr_get, rootr_rows, fldRat0, hF, q1]
            first | exact log_by (by kernel_rfl) | refine ⟨log_by (by kernel_rfl), ?_⟩
            refine ⟨⟨i + 1, by omega, by omega, ?_⟩, by omega⟩
            rw [et]
            (repeat' apply And.intro) <;> first | rfl | omega
        · subst q1
          cases low <;> cases high
          · have ec : cnd 0 0 false false = false := by simp [cnd]
            rw [ec] at et
            refine call_by (o1) (by first | rfl | (simp only [tocvs, tocv, hF]; rfl) | (simp only [tocvs, tocv, toboxes, tobox, updH_at, Nat.reduceEqDiff, ↓reduceIte, hF]; rfl)) (by simp) ?_
            simp (disch := omega) only [wk, tis, seval, reduceCtorEq, Nat.reduceEqDiff, rqs, Bool.true_beq, Bool.false_beq, Bool.not_true, Bool.not_false, rootr_len, rootr_get, rootr_rows, fldRat0, hF]
            refine call_by (o2) (by first | rfl | (simp only [tocvs, tocv, hF]; rfl) | (simp only [tocvs, tocv, toboxes, tobox, updH_at, Nat.reduceEqDiff, ↓reduceIte, hF]; rfl)) (by simp) ?_
            simp (disch := omega) only [wk, tis, seval, reduceCtorEq, Nat.reduceEqDiff, rqs, Bool.true_beq, Bool.false_beq, Bool.not_true, Bool.not_false, rootr_len, rootr_get, rootr_rows, fldRat0, hF]
            first | exact log_by (by kernel_rfl) | refine ⟨log_by (by kernel_rfl), ?_⟩
            refine ⟨⟨i + 1, by omega, by omega, ?_⟩, by omega⟩
            rw [et]
            (repeat' apply And.intro) <;> first | rfl | omega
          · have ec : cnd 0 0 false true = false := by simp [cnd]
            rw [ec] at et
            refine call_by (o1) (by first | rfl | (simp only [tocvs, tocv, hF]; rfl) | (simp only [tocvs, tocv, toboxes, tobox, updH_at, Nat.reduceEqDiff, ↓reduceIte, hF]; rfl)) (by simp) ?_
            simp (disch := omega) only [wk, tis, seval, reduceCtorEq, Nat.reduceEqDiff, rqs, Bool.true_beq, Bool.false_beq, Bool.not_true, Bool.not_false, rootr_len, rootr_get, rootr_rows, fldRat0, hF]
            refine call_by (o2) (by first | rfl | (simp only [tocvs, tocv, hF]; rfl) | (simp only [tocvs, tocv, toboxes, tobox, updH_at, Nat.reduceEqDiff, ↓reduceIte, hF]; rfl)) (by simp) ?_
            simp (disch := omega) only [wk, tis, seval, reduceCtorEq, Nat.reduceEqDiff, rqs, Bool.true_beq, Bool.false_beq, Bool.not_true, Bool.not_false, rootr_len, rootr_get, rootr_rows, fldRat0, hF]
            first | exact log_by (by kernel_rfl) | refine ⟨log_by (by kernel_rfl), ?_⟩
            refine ⟨⟨i + 1, by omega, by omega, ?_⟩, by omega⟩
            rw [et]
            (repeat' apply And.intro) <;> first | rfl | omega
          · have ec : cnd 0 0 true false = false := by simp [cnd]
            rw [ec] at et
            refine call_by (o1) (by first | rfl | (simp only [tocvs, tocv, hF]; rfl) | (simp only [tocvs, tocv, toboxes, tobox, updH_at, Nat.reduceEqDiff, ↓reduceIte, hF]; rfl)) (by simp) ?_
            simp (disch := omega) only [wk, tis, seval, reduceCtorEq, Nat.reduceEqDiff, rqs, Bool.true_beq, Bool.false_beq, Bool.not_true, Bool.not_false, rootr_len, rootr_get, rootr_rows, fldRat0, hF]
            refine call_by (o2) (by first | rfl | (simp only [tocvs, tocv, hF]; rfl) | (simp only [tocvs, tocv, toboxes, tobox, updH_at, Nat.reduceEqDiff, ↓reduceIte, hF]; rfl)) (by simp) ?_
            simp (disch := omega) only [wk, tis, seval, reduceCtorEq, Nat.reduceEqDiff, rqs, Bool.true_beq, Bool.false_beq, Bool.not_true, Bool.not_false, rootr_len, rootr_get, rootr_rows, fldRat0, hF]
            first | exact log_by (by kernel_rfl) | refine ⟨log_by (by kernel_rfl), ?_⟩
            refine ⟨⟨i + 1, by omega, by omega, ?_⟩, by omega⟩
            rw [et]
            (repeat' apply And.intro) <;> first | rfl | omega
          · have ec : cnd 0 0 true true = true := by simp [cnd]
            rw [ec] at et
            refine call_by (o1) (by first | rfl | (simp only [tocvs, tocv, hF]; rfl) | (simp only [tocvs, tocv, toboxes, tobox, updH_at, Nat.reduceEqDiff, ↓reduceIte, hF]; rfl)) (by simp) ?_
            simp (disch := omega) only [wk, tis, seval, reduceCtorEq, Nat.reduceEqDiff, rqs, Bool.true_beq, Bool.false_beq, Bool.not_true, Bool.not_false, rootr_len, rootr_get, rootr_rows, fldRat0, hF]
            refine call_by (o2) (by first | rfl | (simp only [tocvs, tocv, hF]; rfl) | (simp only [tocvs, tocv, toboxes, tobox, updH_at, Nat.reduceEqDiff, ↓reduceIte, hF]; rfl)) (by simp) ?_
            simp (disch := omega) only [wk, tis, seval, reduceCtorEq, Nat.reduceEqDiff, rqs, Bool.true_beq, Bool.false_beq, Bool.not_true, Bool.not_false, rootr_len, rootr_get, rootr_rows, fldRat0, hF]
            first | exact log_by (by kernel_rfl) | refine ⟨log_by (by kernel_rfl), ?_⟩
            refine ⟨⟨i + 1, by omega, by omega, ?_⟩, by omega⟩
            rw [et]
            (repeat' apply And.intro) <;> first | rfl | omega
        · have m1 : ¬ hi' < 0 := by omega
          have m2 : ¬ hi' = 0 := by omega
          cases low <;> cases high
          · have ec : cnd 0 hi' false false = false := by simp [cnd, m1, m2]
            rw [ec] at et
            refine call_by (o1) (by first | rfl | (simp only [tocvs, tocv, hF, m1, m2]; rfl) | (simp only [tocvs, tocv, toboxes, tobox, updH_at, Nat.reduceEqDiff, ↓reduceIte, hF, m1, m2]; rfl)) (by simp) ?_
            simp (disch := omega) only [wk, tis, seval, reduceCtorEq, Nat.reduceEqDiff, rqs, Bool.true_beq, Bool.false_beq, Bool.not_true, Bool.not_false, rootr_len, rootr_get, rootr_rows, fldRat0, hF, m1, m2]
            refine call_by (o2) (by first | rfl | (simp only [tocvs, tocv, hF, m1, m2]; rfl) | (simp only [tocvs, tocv, toboxes, tobox, updH_at, Nat.reduceEqDiff, ↓reduceIte, hF, m1, m2]; rfl)) (by simp) ?_
            simp (disch := omega) only [wk, tis, seval, reduceCtorEq, Nat.reduceEqDiff, rqs, Bool.true_beq, Bool.false_beq, Bool.not_true, Bool.not_false, rootr_len, rootr_get, rootr_rows, fldRat0, hF, m1, m2]
            first | exact log_by (by kernel_rfl) | refine ⟨log_by (by kernel_rfl), ?_⟩
            refine ⟨⟨i + 1, by omega, by omega, ?_⟩, by omega⟩
            rw [et]
            (repeat' apply And.intro) <;> first | rfl | omega
          · have ec : cnd 0 hi' false true = false := by simp [cnd, m1, m2]
            rw [ec] at et
            refine call_by (o1) (by first | rfl | (simp only [tocvs, tocv, hF, m1, m2]; rfl) | (simp only [tocvs, tocv, toboxes, tobox, updH_at, Nat.reduceEqDiff, ↓reduceIte, hF, m1, m2]; rfl)) (by simp) ?_
            simp (disch := omega) only [wk, tis, seval, reduceCtorEq, Nat.reduceEqDiff, rqs, Bool.true_beq, Bool.false_beq, Bool.not_true, Bool.not_false, rootr_len, rootr_get, rootr_rows, fldRat0, hF, m1, m2]
            refine call_by (o2) (by first | rfl | (simp only [tocvs, tocv, hF, m1, m2]; rfl) | (simp only [tocvs, tocv, toboxes, tobox, updH_at, Nat.reduceEqDiff, ↓reduceIte, hF, m1, m2]; rfl)) (by simp) ?_
            simp (disch := omega) only [wk, tis, seval, reduceCtorEq, Nat.reduceEqDiff, rqs, Bool.true_beq, Bool.false_beq, Bool.not_true, Bool.not_false, rootr_len, rootr_get, rootr_rows, fldRat0, hF, m1, m2]
            first | exact log_by (by kernel_rfl) | refine ⟨log_by (by kernel_rfl), ?_⟩
            refine ⟨⟨i + 1, by omega, by omega, ?_⟩, by omega⟩
            rw [et]
            (repeat' apply And.intro) <;> first | rfl | omega
          · have ec : cnd 0 hi' true false = false := by simp [cnd, m1, m2]
            rw [ec] at et
            refine call_by (o1) (by first | rfl | (simp only [tocvs, tocv, hF, m1, m2]; rfl) | (simp only [tocvs, tocv, toboxes, tobox, updH_at, Nat.reduceEqDiff, ↓reduceIte, hF, m1, m2]; rfl)) (by simp) ?_
            simp (disch := omega) only [wk, tis, seval, reduceCtorEq, Nat.reduceEqDiff, rqs, Bool.true_beq, Bool.false_beq, Bool.not_true, Bool.not_false, rootr_len, rootr_get, rootr_rows, fldRat0, hF, m1, m2]
            refine call_by (o2) (by first | rfl | (simp only [tocvs, tocv, hF, m1, m2]; rfl) | (simp only [tocvs, tocv, toboxes, tobox, updH_at, Nat.reduceEqDiff, ↓reduceIte, hF, m1, m2]; rfl)) (by simp) ?_
            simp (disch := omega) only [wk, tis, seval, reduceCtorEq, Nat.reduceEqDiff, rqs, Bool.true_beq, Bool.false_beq, Bool.not_true, Bool.not_false, rootr_len, rootr_get, rootr_rows, fldRat0, hF, m1, m2]
            first | exact log_by (by kernel_rfl) | refine ⟨log_by (by kernel_rfl), ?_⟩
            refine ⟨⟨i + 1, by omega, by omega, ?_⟩, by omega⟩
            rw [et]
            (repeat' apply And.intro) <;> first | rfl | omega
          · have ec : cnd 0 hi' true true = false := by simp [cnd, m1, m2]
            rw [ec] at et
            refine call_by (o1) (by first | rfl | (simp only [tocvs, tocv, hF, m1, m2]; rfl) | (simp only [tocvs, tocv, toboxes, tobox, updH_at, Nat.reduceEqDiff, ↓reduceIte, hF, m1, m2]; rfl)) (by simp) ?_
            simp (disch := omega) only [wk, tis, seval, reduceCtorEq, Nat.reduceEqDiff, rqs, Bool.true_beq, Bool.false_beq, Bool.not_true, Bool.not_false, rootr_len, rootr_get, rootr_rows, fldRat0, hF, m1, m2]
            refine call_by (o2) (by first | rfl | (simp only [tocvs, tocv, hF, m1, m2]; rfl) | (simp only [tocvs, tocv, toboxes, tobox, updH_at, Nat.reduceEqDiff, ↓reduceIte, hF, m1, m2]; rfl)) (by simp) ?_
            simp (disch := omega) only [wk, tis, seval, reduceCtorEq, Nat.reduceEqDiff, rqs, Bool.true_beq, Bool.false_beq, Bool.not_true, Bool.not_false, rootr_len, rootr_get, rootr_rows, fldRat0, hF, m1, m2]
            first | exact log_by (by kernel_rfl) | refine ⟨log_by (by kernel_rfl), ?_⟩
            refine ⟨⟨i + 1, by omega, by omega, ?_⟩, by omega⟩
            rw [et]
            (repeat' apply And.intro) <;> first | rfl | omega
      · have n1 : ¬ lo < 0 := by omega
        have n2 : ¬ lo = 0 := by omega
        rcases Int.lt_trichotomy hi' 0 with q1 | q1 | q1
        · have q1 := q1
          cases low <;> cases high
          · have ec : cnd lo hi' false false = false := by simp [cnd, n1, n2, q1]
            rw [ec] at et
            refine call_by (o1) (by first | rfl | (simp only [tocvs, tocv, hF, n1, n2, q1]; rfl) | (simp only [tocvs, tocv, toboxes, tobox, updH_at, Nat.reduceEqDiff, ↓reduceIte, hF, n1, n2, q1]; rfl)) (by simp) ?_
            simp (disch := omega) only [wk, tis, seval, reduceCtorEq, Nat.reduceEqDiff, rqs, Bool.true_beq, Bool.false_beq, Bool.not_true, Bool.not_false, rootr_len, rootr_get, rootr_rows, fldRat0, hF, n1, n2, q1]
            refine call_by (o2) (by first | rfl | (simp only [tocvs, tocv, hF, n1, n2, q1]; rfl) | (simp only [tocvs, tocv, toboxes, tobox, updH_at, Nat.reduceEqDiff, ↓reduceIte, hF, n1, n2, q1]; rfl)) (by simp) ?_
            simp (disch := omega) only [wk, tis, seval, reduceCtorEq, Nat.reduceEqDiff, rqs, Bool.true_beq, Bool.false_beq, Bool.not_true, Bool.not_false, rootr_len, rootr_get, rootr_rows, fldRat0, hF, n1, n2, q1]
            first | exact log_by (by kernel_rfl) | refine ⟨log_by (by kernel_rfl), ?_⟩
            refine ⟨⟨i + 1, by omega, by omega, ?_⟩, by omega⟩
            rw [et]
            (repeat' apply And.intro) <;> first | rfl | omega
          · have ec : cnd lo hi' false true = false := by simp [cnd, n1, n2, q1]
            rw [ec] at et
            refine call_by (o1) (by first | rfl | (simp only [tocvs, tocv, hF, n1, n2, q1]; rfl) | (simp only [tocvs, tocv, toboxes, tobox, updH_at, Nat.reduceEqDiff, ↓reduceIte, hF, n1, n2, q1]; rfl)) (by simp) ?_
            simp (disch := omega) only [wk, tis, seval, reduceCtorEq, Nat.reduceEqDiff, rqs, Bool.true_beq, Bool.false_beq, Bool.not_true, Bool.not_false, rootr_len, rootr_get, rootr_rows, fldRat0, hF, n1, n2, q1]
            refine call_by (o2) (by first | rfl | (simp only [tocvs, tocv, hF, n1, n2, q1]; rfl) | (simp only [tocvs, tocv, toboxes, tobox, updH_at, Nat.reduceEqDiff, ↓reduceIte, hF, n1, n2, q1]; rfl)) (by simp) ?_
            simp (disch := omega) only [wk, tis, seval, reduceCtorEq, Nat.reduceEqDiff, rqs, Bool.true_beq, Bool.false_beq, Bool.not_true, Bool.not_false, rootr_len, rootr_get, rootr_rows, fldRat0, hF, n1, n2, q1]
            first | exact log_by (by kernel_rfl) | refine ⟨log_by (by kernel_rfl), ?_⟩
            refine ⟨⟨i + 1, by omega, by omega, ?_⟩, by omega⟩
            rw [et]
            (repeat' apply And.intro) <;> first | rfl | omega
          · have ec : cnd lo hi' true false = false := by simp [cnd, n1, n2, q1]
            rw [ec] at et
            refine call_by (o1) (by first | rfl | (simp only [tocvs, tocv, hF, n1, n2, q1]; rfl) | (simp only [tocvs, tocv, toboxes, tobox, updH_at, Nat.reduceEqDiff, ↓reduceIte, hF, n1, n2, q1]; rfl)) (by simp) ?_
            simp (disch := omega) only [wk, tis, seval, reduceCtorEq, Nat.reduceEqDiff, rqs, Bool.true_beq, Bool.false_beq, Bool.not_true, Bool.not_false, rootr_len, rootr_get, rootr_rows, fldRat0, hF, n1, n2, q1]
            refine call_by (o2) (by first | rfl | (simp only [tocvs, tocv, hF, n1, n2, q1]; rfl) | (simp only [tocvs, tocv, toboxes, tobox, updH_at, Nat.reduceEqDiff, ↓reduceIte, hF, n1, n2, q1]; rfl)) (by simp) ?_
            simp (disch := omega) only [wk, tis, seval, reduceCtorEq, Nat.reduceEqDiff, rqs, Bool.true_beq, Bool.false_beq, Bool.not_true, Bool.not_false, rootr_len, rootr_get, rootr_rows, fldRat0, hF, n1, n2, q1]
            first | exact log_by (by kernel_rfl) | refine ⟨log_by (by kernel_rfl), ?_⟩
            refine ⟨⟨i + 1, by omega, by omega, ?_⟩, by omega⟩
            rw [et]
            (repeat' apply And.intro) <;> first | rfl | omega
          · have ec : cnd lo hi' true true = false := by simp [cnd, n1, n2, q1]
            rw [ec] at et
            refine call_by (o1) (by first | rfl | (simp only [tocvs, tocv, hF, n1, n2, q1]; rfl) | (simp only [tocvs, tocv, toboxes, tobox, updH_at, Nat.reduceEqDiff, ↓reduceIte, hF, n1, n2, q1]; rfl)) (by simp) ?_
            simp (disch := omega) only [wk, tis, seval, reduceCtorEq, Nat.reduceEqDiff, rqs, Bool.true_beq, Bool.false_beq, Bool.not_true, Bool.not_false, rootr_len, rootr_get, rootr_rows, fldRat0, hF, n1, n2, q1]
            refine call_by (o2) (by first | rfl | (simp only [tocvs, tocv, hF, n1, n2, q1]; rfl) | (simp only [tocvs, tocv, toboxes, tobox, updH_at, Nat.reduceEqDiff, ↓reduceIte, hF, n1, n2, q1]; rfl)) (by simp) ?_
            simp (disch := omega) only [wk, tis, seval, reduceCtorEq, Nat.reduceEqDiff, rqs, Bool.true_beq, Bool.false_beq, Bool.not_true, Bool.not_false, rootr_len, rootr_get, rootr_rows, fldRat0, hF, n1, n2, q1]
            first | exact log_by (by kernel_rfl) | refine ⟨log_by (by kernel_rfl), ?_⟩
            refine ⟨⟨i + 1, by omega, by omega, ?_⟩, by omega⟩
            rw [et]
            (repeat' apply And.intro) <;> first | rfl | omega
        · subst q1
          cases low <;> cases high
          · have ec : cnd lo 0 false false = false := by simp [cnd, n1, n2]
            rw [ec] at et
            refine call_by (o1) (by first | rfl | (simp only [tocvs, tocv, hF, n1, n2]; rfl) | (simp only [tocvs, tocv, toboxes, tobox, updH_at, Nat.reduceEqDiff, ↓reduceIte, hF, n1, n2]; rfl)) (by simp) ?_
            simp (disch := omega) only [wk, tis, seval, reduceCtorEq, Nat.reduceEqDiff, rqs, Bool.true_beq, Bool.false_beq, Bool.not_true, Bool.not_false, rootr_len, rootr_get, rootr_rows, fldRat0, hF, n1, n2]
            refine call_by (o2) (by first | rfl | (simp only [tocvs, tocv, hF, n1, n2]; rfl) | (simp only [tocvs, tocv, toboxes, tobox, updH_at, Nat.reduceEqDiff, ↓reduceIte, hF, n1, n2]; rfl)) (by simp) ?_
            simp (disch := omega) only [wk, tis, seval, reduceCtorEq, Nat.reduceEqDiff, rqs, Bool.true_beq, Bool.false_beq, Bool.not_true, Bool.not_false, rootr_len, rootr_get, rootr_rows, fldRat0, hF, n1, n2]
            first | exact log_by (by kernel_rfl) | refine ⟨log_by (by kernel_rfl), ?_⟩
            refine ⟨⟨i + 1, by omega, by omega, ?_⟩, by omega⟩
            rw [et]
            (repeat' apply And.intro) <;> first | rfl | omega
          · have ec : cnd lo 0 false true = false := by simp [cnd, n1, n2]
            rw [ec] at et
            refine call_by (o1) (by first | rfl | (simp only [tocvs, tocv, hF, n1, n2]; rfl) | (simp only [tocvs, tocv, toboxes, tobox, updH_at, Nat.reduceEqDiff, ↓reduceIte, hF, n1, n2]; rfl)) (by simp) ?_
            simp (disch := omega) only [wk, tis, seval, reduceCtorEq, Nat.reduceEqDiff, rqs, Bool.true_beq, Bool.false_beq, Bool.not_true, Bool.not_false, rootr_len, rootr_get, rootr_rows, fldRat0, hF, n1, n2]
            refine call_by (o2) (by first | rfl | (simp only [tocvs, tocv, hF, n1, n2]; rfl) | (simp only [tocvs, tocv, toboxes, tobox, updH_at, Nat.reduceEqDiff, ↓reduceIte, hF, n1, n2]; rfl)) (by simp) ?_
            simp (disch := omega) only [wk, tis, seval, reduceCtorEq, Nat.reduceEqDiff, rqs, Bool.true_beq, Bool.false_beq, Bool.not_true, Bool.not_false, rootr_len, rootr_get, rootr_rows, fldRat0, hF, n1, n2]
            first | exact log_by (by kernel_rfl) | refine ⟨log_by (by kernel_rfl), ?_⟩
            refine ⟨⟨i + 1, by omega, by omega, ?_⟩, by omega⟩
            rw [et]
            (repeat' apply And.intro) <;> first | rfl | omega
          · have ec : cnd lo 0 true false = false := by simp [cnd, n1, n2]
            rw [ec] at et
            refine call_by (o1) (by first | rfl | (simp only [tocvs, tocv, hF, n1, n2]; rfl) | (simp only [tocvs, tocv, toboxes, tobox, updH_at, Nat.reduceEqDiff, ↓reduceIte, hF, n1, n2]; rfl)) (by simp) ?_
            simp (disch := omega) only [wk, tis, seval, reduceCtorEq, Nat.reduceEqDiff, rqs, Bool.true_beq, Bool.false_beq, Bool.not_true, Bool.not_false, rootr_len, rootr_get, rootr_rows, fldRat0, hF, n1, n2]
            refine call_by (o2) (by first | rfl | (simp only [tocvs, tocv, hF, n1, n2]; rfl) | (simp only [tocvs, tocv, toboxes, tobox, updH_at, Nat.reduceEqDiff, ↓reduceIte, hF, n1, n2]; rfl)) (by simp) ?_
            simp (disch := omega) only [wk, tis, seval, reduceCtorEq, Nat.reduceEqDiff, rqs, Bool.true_beq, Bool.false_beq, Bool.not_true, Bool.not_false, rootr_len, rootr_get, rootr_rows, fldRat0, hF, n1, n2]
            first | exact log_by (by kernel_rfl) | refine ⟨log_by (by kernel_rfl), ?_⟩
            refine ⟨⟨i + 1, by omega, by omega, ?_⟩, by omega⟩
            rw [et]
            (repeat' apply And.intro) <;> first | rfl | omega
          · have ec : cnd lo 0 true true = false := by simp [cnd, n1, n2]
            rw [ec] at et
            refine call_by (o1) (by first | rfl | (simp only [tocvs, tocv, hF, n1, n2]; rfl) | (simp only [tocvs, tocv, toboxes, tobox, updH_at, Nat.reduceEqDiff, ↓reduceIte, hF, n1, n2]; rfl)) (by simp) ?_
            simp (disch := omega) only [wk, tis, seval, reduceCtorEq, Nat.reduceEqDiff, rqs, Bool.true_beq, Bool.false_beq, Bool.not_true, Bool.not_false, rootr_len, rootr_get, rootr_rows, fldRat0, hF, n1, n2]
            refine call_by (o2) (by first | rfl | (simp only [tocvs, tocv, hF, n1, n2]; rfl) | (simp only [tocvs, tocv, toboxes, tobox, updH_at, Nat.reduceEqDiff, ↓reduceIte, hF, n1, n2]; rfl)) (by simp) ?_
            simp (disch := omega) only [wk, tis, seval, reduceCtorEq, Nat.reduceEqDiff, rqs, Bool.true_beq, Bool.false_beq, Bool.not_true, Bool.not_false, rootr_len, rootr_get, rootr_rows, fldRat0, hF, n1, n2]
            first | exact log_by (by kernel_rfl) | refine ⟨log_by (by kernel_rfl), ?_⟩
            refine ⟨⟨i + 1, by omega, by omega, ?_⟩, by omega⟩
            rw [et]
            (repeat' apply And.intro) <;> first | rfl | omega
        · have m1 : ¬ hi' < 0 := by omega
          have m2 : ¬ hi' = 0 := by omega
          cases low <;> cases high
          · have ec : cnd lo hi' false false = false := by simp [cnd, n1, n2, m1, m2]
            rw [ec] at et
            refine call_by (o1) (by first | rfl | (simp only [tocvs, tocv, hF, n1, n2, m1, m2]; rfl) | (simp only [tocvs, tocv, toboxes, tobox, updH_at, Nat.reduceEqDiff, ↓reduceIte, hF, n1, n2, m1, m2]; rfl)) (by simp) ?_
            simp (disch := omega) only [wk, tis, seval, reduceCtorEq, Nat.reduceEqDiff, rqs, Bool.true_beq, Bool.false_beq, Bool.not_true, Bool.not_false, rootr_len, rootr_get, rootr_rows, fldRat0, hF, n1, n2, m1, m2]
            refine call_by (o2) (by first | rfl | (simp only [tocvs, tocv, hF, n1, n2, m1, m2]; rfl) | (simp only [tocvs, tocv, toboxes, tobox, updH_at, Nat.reduceEqDiff, ↓reduceIte, hF, n1, n2, m1, m2]; rfl)) (by simp) ?_
            simp (disch := omega) only [wk, tis, seval, reduceCtorEq, Nat.reduceEqDiff, rqs, Bool.true_beq, Bool.false_beq, Bool.not_true, Bool.not_false, rootr_len, rootr_get, rootr_rows, fldRat0, hF, n1, n2, m1, m2]
            first | exact log_by (by kernel_rfl) | refine ⟨log_by (by kernel_rfl), ?_⟩
            refine ⟨⟨i + 1, by omega, by omega, ?_⟩, by omega⟩
            rw [et]
            (repeat' apply And.intro) <;> first | rfl | omega
          · have ec : cnd lo hi' false true = false := by simp [cnd, n1, n2, m1, m2]
            rw [ec] at et
            refine call_by (o1) (by first | rfl | (simp only [tocvs, tocv, hF, n1, n2, m1, m2]; rfl) | (simp only [tocvs, tocv, toboxes, tobox, updH_at, Nat.reduceEqDiff, ↓reduceIte, hF, n1, n2, m1, m2]; rfl)) (by simp) ?_
            simp (disch := omega) only [wk, tis, seval, reduceCtorEq, Nat.reduceEqDiff, rqs, Bool.true_beq, Bool.false_beq, Bool.not_true, Bool.not_false, rootr_len, rootr_get, rootr_rows, fldRat0, hF, n1, n2, m1, m2]
            refine call_by (o2) (by first | rfl | (simp only [tocvs, tocv, hF, n1, n2, m1, m2]; rfl) | (simp only [tocvs, tocv, toboxes, tobox, updH_at, Nat.reduceEqDiff, ↓reduceIte, hF, n1, n2, m1, m2]; rfl)) (by simp) ?_
            simp (disch := omega) only [wk, tis, seval, reduceCtorEq, Nat.reduceEqDiff, rqs, Bool.true_beq, Bool.false_beq, Bool.not_true, Bool.not_false, rootr_len, rootr_get, rootr_rows, fldRat0, hF, n1, n2, m1, m2]
            first | exact log_by (by kernel_rfl) | refine ⟨log_by (by kernel_rfl), ?_⟩
            refine ⟨⟨i + 1, by omega, by omega, ?_⟩, by omega⟩
            rw [et]
            (repeat' apply And.intro) <;> first | rfl | omega
          · have ec : cnd lo hi' true false = false := by simp [cnd, n1, n2, m1, m2]
            rw [ec] at et
            refine call_by (o1) (by first | rfl | (simp only [tocvs, tocv, hF, n1, n2, m1, m2]; rfl) | (simp only [tocvs, tocv, toboxes, tobox, updH_at, Nat.reduceEqDiff, ↓reduceIte, hF, n1, n2, m1, m2]; rfl)) (by simp) ?_
            simp (disch := omega) only [wk, tis, seval, reduceCtorEq, Nat.reduceEqDiff, rqs, Bool.true_beq, Bool.false_beq, Bool.not_true, Bool.not_false, rootr_len, rootr_get, rootr_rows, fldRat0, hF, n1, n2, m1, m2]
            refine call_by (o2) (by first | rfl | (simp only [tocvs, tocv, hF, n1, n2, m1, m2]; rfl) | (simp only [tocvs, tocv, toboxes, tobox, updH_at, Nat.reduceEqDiff, ↓reduceIte, hF, n1, n2, m1, m2]; rfl)) (by simp) ?_
            simp (disch := omega) only [wk, tis, seval, reduceCtorEq, Nat.reduceEqDiff, rqs, Bool.true_beq, Bool.false_beq, Bool.not_true, Bool.not_false, rootr_len, rootr_get, rootr_rows, fldRat0, hF, n1, n2, m1, m2]
            first | exact log_by (by kernel_rfl) | refine ⟨log_by (by kernel_rfl), ?_⟩
            refine ⟨⟨i + 1, by omega, by omega, ?_⟩, by omega⟩
            rw [et]
            (repeat' apply And.intro) <;> first | rfl | omega
          · have ec : cnd lo hi' true true = false := by simp [cnd, n1, n2, m1, m2]
            rw [ec] at et
            refine call_by (o1) (by first | rfl | (simp only [tocvs, tocv, hF, n1, n2, m1, m2]; rfl) | (simp only [tocvs, tocv, toboxes, tobox, updH_at, Nat.reduceEqDiff, ↓reduceIte, hF, n1, n2, m1, m2]; rfl)) (by simp) ?_
            simp (disch := omega) only [wk, tis, seval, reduceCtorEq, Nat.reduceEqDiff, rqs, Bool.true_beq, Bool.false_beq, Bool.not_true, Bool.not_false, rootr_len, rootr_get, rootr_rows, fldRat0, hF, n1, n2, m1, m2]
            refine call_by (o2) (by first | rfl | (simp only [tocvs, tocv, hF, n1, n2, m1, m2]; rfl) | (simp only [tocvs, tocv, toboxes, tobox, updH_at, Nat.reduceEqDiff, ↓reduceIte, hF, n1, n2, m1, m2]; rfl)) (by simp) ?_
            simp (disch := omega) only [wk, tis, seval, reduceCtorEq, Nat.reduceEqDiff, rqs, Bool.true_beq, Bool.false_beq, Bool.not_true, Bool.not_false, rootr_len, rootr_get, rootr_rows, fldRat0, hF, n1, n2, m1, m2]
            first | exact log_by (by kernel_rfl) | refine ⟨log_by (by kernel_rfl), ?_⟩
            refine ⟨⟨i + 1, by omega, by omega, ?_⟩, by omega⟩
            rw [et]
            (repeat' apply And.intro) <;> first | rfl | omega
    · have c2' : ¬ (i : Int) < 6 := by omega
      rw [show cntk R u v low high i = cntk R u v low high 6 by rw [show i = 6 by omega]] at hF
      simp (disch := omega) only [wk, tis, seval, reduceCtorEq, Nat.reduceEqDiff, rqs, Bool.true_beq, Bool.false_beq, Bool.not_true, Bool.not_false, rootr_len, rootr_get, rootr_rows, fldRat0, hF, c1', c2']
      try rfl
  · have c1' : ¬ (i : Int) < (R.length : Int) := by omega
    have e : cntk R u v low high i = cntk R u v low high 6 := by
      unfold cntk
      rw [List.take_of_length_le (by omega), List.take_of_length_le (by omega)]
    rw [e] at hF
    simp (disch := omega) only [wk, tis, seval, reduceCtorEq, Nat.reduceEqDiff, rqs, Bool.true_beq, Bool.false_beq, Bool.not_true, Bool.not_false, rootr_len, rootr_get, rootr_rows, fldRat0, hF, c1']
    try rfl
theorem kreal_ok (R : List (Int × Int)) (Q : List Int) (f : Int) : AC Tryz.prog 38 [.agg (kn R Q f)] none [cb (decide (Q.length = 0))] := by
  refine AC.by_walk (rs := [.tmp 2]) ords Tryz.func38 (by rfl) (by rfl) (by rfl) (by rfl) (by rfl) ?_
  simp (disch := omega) only [wk, tis, seval, reduceCtorEq, Nat.reduceEqDiff, rqs, Bool.true_beq, Bool.false_beq, Bool.not_true, Bool.not_false, rootr_len, rootr_get, rootr_rows, fldRat0]
  exact decide_eq_decide.mpr (by omega)
theorem kfits_ok (R : List (Int × Int)) (Q : List Int) (ft : Int) (m n : Nat) (hm : m ≤ 2 ^ 40) (h1 : n ≤ m) (h2 : m % 2 = n % 2) (h3 : Q.length = 0 → m = n) : AC Tryz.prog 12 [.agg (kn R Q ft), ci m, ci n] none [cb true] := by
  have f1 : (n : Int) ≤ (m : Int) := by omega
  have f2 : ((m : Int) - (n : Int)).tmod 2 = 0 := by rw [Int.tmod_eq_emod_of_nonneg (by omega)]; omega
  have r := kreal_ok R Q ft
  by_cases he : m = n
  · subst he
    have f3 : (m : Int) - (m : Int) = 0 := by omega
    refine AC.by_walk (rs := [.tmp 6]) ords Tryz.func12 (by rfl) (by rfl) (by rfl) (by rfl) (by rfl) ?_
    simp (disch := omega) only [wk, tis, seval, reduceCtorEq, Nat.reduceEqDiff, rqs, Bool.true_beq, Bool.false_beq, Bool.not_true, Bool.not_false, rootr_len, rootr_get, rootr_rows, fldRat0, f3, show (0 : Int).tmod 2 = 0 from rfl, Int.le_refl]
    try rfl
  · have f3 : ¬ (m : Int) = (n : Int) := by omega
    rw [decide_eq_false (fun e => he (h3 e))] at r
    refine AC.by_walk (rs := [.tmp 6]) ords Tryz.func12 (by rfl) (by rfl) (by rfl) (by rfl) (by rfl) ?_
    simp (disch := omega) only [wk, tis, seval, reduceCtorEq, Nat.reduceEqDiff, rqs, Bool.true_beq, Bool.false_beq, Bool.not_true, Bool.not_false, rootr_len, rootr_get, rootr_rows, fldRat0, f1, f2, f3]
    refine call_by (r) (by first | rfl | (simp only [tocvs, tocv, f1, f2, f3]; rfl) | (simp only [tocvs, tocv, toboxes, tobox, updH_at, Nat.reduceEqDiff, ↓reduceIte, f1, f2, f3]; rfl)) (by simp) ?_
    simp (disch := omega) only [wk, tis, seval, reduceCtorEq, Nat.reduceEqDiff, rqs, Bool.true_beq, Bool.false_beq, Bool.not_true, Bool.not_false, rootr_len, rootr_get, rootr_rows, fldRat0, f1, f2, f3]
    try rfl
theorem sline_ok (p : List RI) (m : Nat) (h : RP (2 ^ 10) (2 ^ 20) p) (h0 : tz (pv p) ≠ 0) (hm : lw (pv p) = m) (hl : m < p.length) : AC Tryz.prog 10 [cw p] none [ci (chg (sc (-1) (pv p))), ci m, ci (chg (pv p)), ci 0] := by
  have n := snone_ok p (h.mono (by omega) (by omega))
  rw [decide_eq_false h0] at n
  have o := of16_ok p (h.mono (by omega) (by omega))
  have l := plow_ok p (h.mono (by omega) (by omega))
  rw [hm, if_pos hl, if_pos hl] at l
  have fl := mflip_ok p h
  have hb : PB (2 ^ 10) (2 ^ 30) (sc (-1) (trimz (pv p))) := .of (by rw [sc_len]; exact h.pv.trimz.1) fun i => by
    rw [cf_sc]
    have h1 := h.pv.trimz.cf i
    rcases (eone i).1 with e | e <;> rw [e]
    · rw [Int.mul_one]; omega
    · rw [Int.mul_neg, Int.mul_one, zl_neg]; omega
  have o2 := of16_ok (cn (sc (-1) (trimz (pv p)))) ((rp_cn hb).mono (by omega) (by omega))
  rw [show chg (pv (cn (sc (-1) (trimz (pv p))))) = chg (sc (-1) (pv p)) by
    unfold chg
    rw [chf_ext (p := pv (cn (sc (-1) (trimz (pv p))))) (q := sc (-1) (pv p)) fun k => by rw [cf_cn, cf_sc, cf_sc, cf_trimz]]] at o2
  refine AC.by_walk (rs := [.tmp 2, .tmp 3, .tmp 4, .tmp 5]) ords Tryz.func10 (by rfl) (by rfl) (by rfl) (by rfl) (by rfl) ?_
  simp (disch := omega) only [wk, tis, seval, reduceCtorEq, Nat.reduceEqDiff, rqs, Bool.true_beq, Bool.false_beq, Bool.not_true, Bool.not_false, rootr_len, rootr_get, rootr_rows, fldRat0]
  refine call_by (n) (by rfl) (by simp) ?_
  simp (disch := omega) only [wk, tis, seval, reduceCtorEq, Nat.reduceEqDiff, rqs, Bool.true_beq, Bool.false_beq, Bool.not_true, Bool.not_false, rootr_len, rootr_get, rootr_rows, fldRat0]
  refine call_by (l) (by rfl) (by simp) ?_
  simp (disch := omega) only [wk, tis, seval, reduceCtorEq, Nat.reduceEqDiff, rqs, Bool.true_beq, Bool.false_beq, Bool.not_true, Bool.not_false, rootr_len, rootr_get, rootr_rows, fldRat0]
  refine call_by (fl) (by rfl) (by simp) ?_
  simp (disch := omega) only [wk, tis, seval, reduceCtorEq, Nat.reduceEqDiff, rqs, Bool.true_beq, Bool.false_beq, Bool.not_true, Bool.not_false, rootr_len, rootr_get, rootr_rows, fldRat0]
  refine call_by (o2) (by rfl) (by simp) ?_
  simp (disch := omega) only [wk, tis, seval, reduceCtorEq, Nat.reduceEqDiff, rqs, Bool.true_beq, Bool.false_beq, Bool.not_true, Bool.not_false, rootr_len, rootr_get, rootr_rows, fldRat0]
  refine call_by (o) (by rfl) (by simp) ?_
  simp (disch := omega) only [wk, tis, seval, reduceCtorEq, Nat.reduceEqDiff, rqs, Bool.true_beq, Bool.false_beq, Bool.not_true, Bool.not_false, rootr_len, rootr_get, rootr_rows, fldRat0]
  try rfl
theorem rl_mul (A : List (Int × Int)) (x y : List Int) : ps (rlist A (pmul x y)) = ps x * ps (rlist A y) := by
  induction A with
  | nil => show ps (pmul x y) = _; rw [ps_pmul]; rfl
  | cons b B ih => rw [rlist_cons, rlist_cons, ps_pmul, ps_pmul, ih, ← PS.mul_assoc, PS.mul_comm (ps (rf b)), PS.mul_assoc]
theorem fold_rl : ∀ (A : List (Int × Int)) (q : List Int), ps (A.foldl (fun q r => pmul q (rf r)) q) = ps (rlist A q)
  | [], _ => rfl
  | r :: A, q => by
    rw [List.foldl_cons, fold_rl A, rlist_cons, ps_pmul, ← rl_mul A (rf r) q]
    have : ∀ (B : List (Int × Int)) (x y : List Int), ps x = ps y → ps (rlist B x) = ps (rlist B y) := fun B x y e => by
      induction B with
      | nil => exact e
      | cons b B ih => rw [rlist_cons, rlist_cons, ps_pmul, ps_pmul, ih]
    exact this A _ _ (by rw [ps_pmul, ps_pmul, PS.mul_comm])
theorem fold_wl (A : List (Int × Int)) : ∀ (C : List Int) (q g : List Int), ps q = ps (rlist A g) → ps (C.foldl (fun q c => pmul q (pfl c)) q) = ps (rlist A (C.foldl (fun q c => pmul q (pfl c)) g))
  | [], _, _, e => e
  | c :: C, q, g, e => by
    rw [List.foldl_cons, List.foldl_cons]
    refine fold_wl A C _ _ ?_
    rw [ps_pmul, e]
    have h1 := rl_mul A (pfl c) g
    have h2 : ps (rlist A (pmul g (pfl c))) = ps (rlist A (pmul (pfl c) g)) := by
      have : ∀ (B : List (Int × Int)) (x y : List Int), ps x = ps y → ps (rlist B x) = ps (rlist B y) := fun B x y e => by
        induction B with
        | nil => exact e
        | cons b B ih => rw [rlist_cons, rlist_cons, ps_pmul, ps_pmul, ih]
      exact this A _ _ (by rw [ps_pmul, ps_pmul, PS.mul_comm])
    rw [h2, h1, PS.mul_comm]
theorem gl_fold : ∀ (C : List Int) (g : List Int), GL g → tz g % 2 = 1 → GL (C.foldl (fun q c => pmul q (pfl c)) g) ∧ tz (C.foldl (fun q c => pmul q (pfl c)) g) = tz g + 2 * C.length
  | [], g, h, _ => ⟨h, by show tz g = tz g + 0; omega⟩
  | c :: C, g, h, ho => by
    rw [List.foldl_cons]
    have hx : 0 ≤ c * c := isq c
    have t3 : tz (pfl c) = 3 := tz_spec (q := pfl c) (n := 2) (by show (1 : Int) ≠ 0; decide) fun k hk => cf_ge (by show 3 ≤ k; omega)
    have l3 : lc (pfl c) = 1 := by unfold lc; rw [t3]; rfl
    obtain ⟨a, l1, l2⟩ := h.l
    have hn : lc g ≠ 0 := fun e => (sign_pm l1.2.2).elim (fun x => by rw [e] at l2; rw [← l2] at x; exact absurd x (by decide)) (fun x => by rw [e] at l2; rw [← l2] at x; exact absurd x (by decide))
    have low := low_pmul l1 (pfl c) 0 (c * c + 1) ⟨fun j hj => by omega, rfl, by omega⟩
    have lcm := lc_pmul (P := g) (Q := pfl c) hn (by rw [l3]; decide)
    have tzm := tz_pmul (p := g) (q := pfl c) h.tz (by omega)
    have G : GL (pmul g (pfl c)) := ⟨(c * c + 1) * a, ⟨fun j hj => by omega, by rw [pmul_comm]; exact low.2.1, low.2.2⟩, by
      rw [lcm, l3, Int.mul_one, l2, Int.sign_mul, Int.sign_eq_one_of_pos (a := c * c + 1) (by omega), Int.one_mul]⟩
    obtain ⟨i1, i2⟩ := gl_fold C _ G (by omega)
    exact ⟨i1, by rw [i2, tzm, List.length_cons]; omega⟩
theorem kp_ps (R : List (Int × Int)) (Q : List Int) (f : Int) : ps (kp R Q f) = ps (rlist (rts R) ((prs2 Q).foldl (fun q c => pmul q (pfl c)) [frc f])) := by
  unfold kp wsl qsl
  rw [List.take_length, List.take_length]
  exact fold_wl (rts R) (prs2 Q) _ _ (fold_rl _ _)
def RawI (l : List Int) : Prop := l.length ≤ 9223372036854775807 ∧ ∀ x ∈ l, -9223372036854775808 ≤ x ∧ x ≤ 9223372036854775807
def RawRt (r : Int × Int) : Prop := (-9223372036854775808 ≤ r.1 ∧ r.1 ≤ 9223372036854775807) ∧ (-9223372036854775808 ≤ r.2 ∧ r.2 ≤ 9223372036854775807)
def RawR (l : List (Int × Int)) : Prop := l.length ≤ 9223372036854775807 ∧ ∀ r ∈ l, RawRt r
end Go.Proofs.YtcocppjgbcbndaaGreat

namespace Go.Proofs.YtcocppjgbcbndaaGreat
open Go Go.Proofs Go.AL
set_option linter.unusedSimpArgs false
set_option linter.unusedVariables false
theorem cmq_top {a w : Rat} : ∀ (n : Nat) (p : List Rat), p.length = n + 1 → (cmq p (lin a w)).c n = cfq p n * w ^ n
  | _, [], h => by simp only [List.length_nil] at h; omega
  | 0, c :: p, h => by
    obtain rfl : p = [] := List.eq_nil_of_length_eq_zero (by simp only [List.length_cons] at h; omega)
    rw [cmq_cons, cmq_nil, PQ.mul_zero, PQ.add_zero, PQ.c_C, if_pos rfl, Rat.pow_zero, Rat.mul_one]
    rfl
  | n + 1, c :: p, h => by
    have hl : p.length = n + 1 := by simp only [List.length_cons] at h; omega
    have ih := cmq_top (a := a) (w := w) n p hl
    rw [cmq_cons, PQ.c_add, PQ.c_C, if_neg (by omega), Rat.zero_add, lin_mul, cmq_deg (lin_deg a w) p (n + 1) (by omega)]
    show a * 0 + w * (cmq p (lin a w)).c n = cfq p n * w ^ (n + 1)
    rw [ih, Rat.pow_succ]
    grind
theorem C_lin (a : Rat) : PQ.C a = lin a 0 := PQ.ext fun k => by
  rw [PQ.c_C, lin_c]
  by_cases h : k = 0
  · rw [if_pos h, if_pos h]
  · rw [if_neg h, if_neg h]; split <;> rfl
theorem cmq_two {A L : List Rat} {n : Nat} {a w : Rat} (hA : A.length ≤ n + 1) (hL : L.length ≤ n + 1) (h : pq L = cmq A (lin a 1)) : cmq L (lin 0 w) = cmq A (lin a w) := by
  rw [← hq_one _ n L hL, ← hq_one _ n A hA, hq_lin (U := lin 0 w) (V := 1) (a := a) (w := 1) n A (cfq L) hA (fun k => congrArg (fun F => PQ.c F k) h)]
  congr 1
  rw [PQ.mul_one, C_lin, lin_scl, lin_add]
  congr 1 <;> grind
theorem pq_qp_lhom (f g : List Int) : ∀ (n : Nat) (Z : List Int), Z.length = n + 1 → pq (qp (lhom Z f g)) = hq (pq (qp f)) (pq (qp g)) n (cfq (qp Z))
  | _, [], h => by simp only [List.length_nil] at h; omega
  | 0, c :: p, h => by
    obtain rfl : p = [] := List.eq_nil_of_length_eq_zero (by simp only [List.length_cons] at h; omega)
    rw [hq]
    refine PQ.ext fun k => ?_
    rw [pq_c, cfq_qp, show cf (lhom [c] f g) k = cf (padd (pscale c (ppow g 0)) (pmul f [])) k from rfl, cf_padd, cf_pscale, show cf (pmul f []) k = 0 by rw [pmul_comm, cf_pmul]; rfl, PQ.c_C]
    show ((cf [1] k * c + 0 : Int) : Rat) = _
    cases k with
    | zero => rw [if_pos rfl]; show ((1 * c + 0 : Int) : Rat) = (c : Rat); rw [Int.one_mul, Int.add_zero]
    | succ k => rw [if_neg (by omega), cf_ge (q := [1]) (by show 1 ≤ k + 1; omega), Int.zero_mul]; rfl
  | n + 1, c :: p, h => by
    have hl : p.length = n + 1 := by simp only [List.length_cons] at h; omega
    have ih := pq_qp_lhom f g n p hl
    have hpw : ∀ j, pq (qp (ppow g j)) = PQ.pw (pq (qp g)) j := fun j => by
      induction j with
      | zero => exact pq_one
      | succ j ihj =>
        rw [PQ.pw, ← ihj, PQ.mul_comm, ← pq_mulq]
        exact PQ.ext fun k => cfq_qp_pmul _ _ k
    rw [hq]
    show _ = PQ.C (c : Rat) * _ + _ * hq _ _ n (cfq (qp p))
    rw [← ih, ← hpw, ← pq_mulq, ← pq_sclq, ← pq_addq]
    refine PQ.ext fun k => ?_
    rw [pq_c, pq_c, cfq_qp, cfq_addq, cfq_sclq, ← cfq_qp_pmul, cfq_qp, cfq_qp, lhom, cf_padd, cf_pscale, Rat.intCast_add, Rat.intCast_mul, hl]
theorem cmp_sgq (a b : Rat) : cmpZ (iv (crat a).1 * nv (crat b).2) (iv (crat b).1 * nv (crat a).2) = sgq (a - b) := by
  rw [iv_crat, iv_crat, show nv (crat b).2 = b.den from nv_wd _, show nv (crat a).2 = a.den from nv_wd _]
  have pa : (0 : Rat) < (a.den : Rat) := Rat.natCast_pos.mpr a.den_pos
  have pb : (0 : Rat) < (b.den : Rat) := Rat.natCast_pos.mpr b.den_pos
  have en : ∀ q : Rat, q * (q.den : Rat) = (q.num : Rat) := fun q => by
    have h1 : (q.num : Rat) / (q.den : Rat) = q := by rw [← Rat.mkRat_eq_div]; exact Rat.mkRat_self q
    have h2 := Rat.div_mul_cancel (a := (q.num : Rat)) (natr_ne q.den_nz)
    rwa [h1] at h2
  have ea := en a
  have eb := en b
  have h : sgq (a - b) = (a.num * (b.den : Int) - b.num * (a.den : Int)).sign := by
    have h1 := sgq_mul (a - b) ((a.den : Rat) * (b.den : Rat))
    rw [sgq_pos (Rat.mul_pos pa pb), Int.mul_one] at h1
    rw [← h1, ← sgq_int]
    congr 1
    rw [Rat.intCast_sub, Rat.intCast_mul, Rat.intCast_mul, Rat.intCast_natCast, Rat.intCast_natCast, ← ea, ← eb]
    grind
  rw [h]
  generalize a.num * (b.den : Int) = x
  generalize b.num * (a.den : Int) = y
  unfold cmpZ
  rcases sign_cases (x - y) with ⟨c, e⟩ | ⟨c, e⟩ | ⟨c, e⟩ <;> rw [e]
  · rw [if_pos (by omega)]
  · rw [if_neg (by omega), if_neg (by omega)]
  · rw [if_neg (by omega), if_pos (by omega)]
theorem two_gq {a b : Rat} {K : Nat} (ha : qz a ≤ K) (hb : qz b ≤ K) : GQ 2 K [crat a, crat b] := ⟨by simp, fun r hr => by
  simp only [List.mem_cons, List.not_mem_nil, or_false] at hr
  rcases hr with rfl | rfl
  · exact ⟨szq_crat ha, nv_crat0 _⟩
  · exact ⟨szq_crat hb, nv_crat0 _⟩⟩
theorem hq_of {A : List Rat} {p q : Rat} {m K M : Nat} (hA : QB m K A) (hm : m ≤ 30) (hK : 1 ≤ K) (hK2 : K ≤ 10000) (hp : qz p ≤ 6) (hq : qz q ≤ 6) (hM : 1 + m * (K + 85) ≤ M) : HQ A (trimq [p, q]) ∧ (∃ E, CB E 61 M (hoq A (trimq [p, q]) A.length)) := by
  have hB : QB 2 6 [p, q] := ⟨by simp, fun c hc => by
    simp only [List.mem_cons, List.not_mem_nil, or_false] at hc
    rcases hc with rfl | rfl <;> assumption⟩
  obtain ⟨D, hD⟩ := hB.trimq.cb
  have hl := hA.1
  have hh : ∀ k, k ≤ A.length → ∃ E, CB E (1 + k * 2) (1 + k * (2 * 6 + 6 + 1 + K + 2 + 60 + 2)) (hoq A (trimq [p, q]) k) := fun k hk => hoq_cb (N := 60) hD hA hK (by omega) k (by omega)
  have hs : ∀ k, k ≤ A.length → k * (2 * 6 + 6 + 1 + K + 2 + 60 + 2) ≤ m * (K + 85) := fun k hk => Nat.mul_le_mul (by omega) (by omega)
  have hs2 : m * (K + 85) ≤ 30 * (10000 + 85) := Nat.mul_le_mul hm (by omega)
  refine ⟨⟨by omega, fun k hk => ?_, ⟨D, hD.mono (by omega) (by omega)⟩, hA.mono (by omega) (by omega)⟩, ?_⟩
  · obtain ⟨E, hE⟩ := hh k hk
    have := hs k hk
    exact ⟨E, hE.mono (by omega) (by omega)⟩
  · obtain ⟨E, hE⟩ := hh A.length (Nat.le_refl _)
    have := hs A.length (Nat.le_refl _)
    exact ⟨E, hE.mono (by omega) (by omega)⟩
theorem zl_quo (x y : Int) : zl (x / y) ≤ zl x := by
  have h1 : (x / y).natAbs ≤ x.natAbs := Int.natAbs_ediv_le_natAbs x y
  have h2 : x.natAbs < W ^ zl x := zl_le.mp (Nat.le_refl _)
  exact zl_le.mpr (by omega)
theorem tzq_le_of {q : List Rat} {n : Nat} (h : ∀ k, n ≤ k → cfq q k = 0) : tzq q ≤ n := by
  by_cases h0 : tzq q = 0
  · omega
  · have h1 := cfq_tzq_pred h0
    by_cases h2 : tzq q ≤ n
    · exact h2
    · exact absurd (h (tzq q - 1) (by omega)) h1
theorem lsmall {t : Nat} (h : t ≤ 61) : t * (80000 + 2) + 80000 + 3 ≤ 2 ^ 25 := by
  rw [Nat.add_assoc]
  exact Nat.le_trans (Nat.add_le_add_right (Nat.mul_le_mul_right (80000 + 2) h) (80000 + 3)) (by decide)
set_option maxRecDepth 100000 in
theorem row_law (p : List RI) (n : Nat) (a b : Rat) (hp : RP 40 400 p) (hn : tz (pv p) = n + 1) (hn2 : n ≤ 11) (ha : qz a ≤ 6) (hb : qz b ≤ 6) (hab : a < b) (hwz : qz (b - a) ≤ 6) :
    ∃ R : List RI, AC Tryz.prog 51 [cw p, cqz a, cqz b] none [cw R, ci 0] ∧ RP (2 ^ 40) (2 ^ 40) R ∧ chg (pv R) = chq n (hq (lin a b) (lin 1 1) n (cfq (qp (pv p)))) := by
  obtain ⟨w, hwe⟩ : ∃ w, w = b - a := ⟨_, rfl⟩
  have hw0 : w ≠ 0 := fun e => by
    have : b = a := by grind
    rw [this] at hab
    exact absurd hab (Rat.lt_irrefl)
  rw [← hwe] at hwz
  have h0 : tz (pv p) ≠ 0 := by omega
  have q2 : GQ 2 6 [crat a, crat b] := two_gq ha hb
  have h1 := sask_ok p [crat a, crat b] (hp.mono (by omega) (by omega)) (q2.mono (by omega) (by omega)) h0
  have h2 := qcmp_ok (crat a) (crat b) (szq_crat (by omega)) (szq_crat (by omega)) (nv_crat0 _) (nv_crat0 _)
  rw [cmp_sgq, sgq_neg (show a - b < 0 by grind)] at h2
  have h3 := pdeg_ok p (hp.mono (by omega) (by omega))
  rw [hn, show ((n + 1 : Nat) : Int) - 1 = (n : Int) by omega] at h3
  have h4 := qsub_ok (crat b) (crat a) (szq_crat (by omega)) (szq_crat (by omega)) (nv_crat0 _) (nv_crat0 _)
  rw [qv_crat, qv_crat, ← hwe] at h4
  have h5 := qof10_ok p (hp.mono (by omega) (by omega))
  -- the polynomial, over the rationals
  obtain ⟨A, hAe⟩ : ∃ A, A = trimq (qp (pv p)) := ⟨_, rfl⟩
  have hcA : ∀ k, cfq A k = (cf (pv p) k : Rat) := fun k => by rw [hAe, cfq_trimq, cfq_qp]
  have hpc := hp.pv.cf
  have hAt : tzq (qp (pv p)) = n + 1 := by
    refine tzq_spec ?_ fun k hk => ?_
    · rw [cfq_qp]
      intro e
      have e2 : cf (pv p) n = 0 := Rat.intCast_inj.mp (by rw [e]; rfl)
      have := tz_le_of (q := pv p) (n := n) fun k hk => by
        by_cases h : k = n
        · rw [h]; exact e2
        · exact cf_ge_tz (pv p) (by omega)
      omega
    · rw [cfq_qp, cf_ge_tz (pv p) (by omega)]; rfl
  have hAl : A.length = n + 1 := by rw [hAe, trimq_len, hAt]
  have hAn : cfq A n ≠ 0 := by
    rw [hAe, cfq_trimq]
    have := cfq_tzq_pred (q := qp (pv p)) (by omega)
    rwa [hAt] at this
  have hAq : QB 12 400 A := .of (by omega) fun k => by
    rw [hcA]
    have := qz_int (cf (pv p) k)
    have := hpc k
    omega
  have hAA : trimq A = A := by rw [hAe, trimq_trimq]
  -- moved
  have t1 : trimq [a, 1] = [a, 1] := by
    have : tzq [a, 1] = 2 := tzq_spec (n := 1) (by show (1 : Rat) ≠ 0; decide) fun k hk => cfq_ge (by show 2 ≤ k; omega)
    rw [trimq, this]; rfl
  obtain ⟨hh1, E1, hE1⟩ := hq_of (p := a) (q := 1) (M := 6000) hAq (by omega) (by omega) (by omega) ha (by rw [qz_one]; omega) (by omega)
  have g1 : GQ 2 6 [crat a, crat 1] := two_gq ha (by rw [qz_one]; omega)
  have m1 := mComposeQ_ok (A.map crat) [crat a, crat 1] (hAq.gq.mono (by omega) (by omega)) (g1.mono (by omega) (by omega)) (by rw [qvs_map, hAA, show qvs [crat a, crat 1] = [a, 1] from qvs_map [a, 1]]; exact hh1)
  rw [qvs_map, hAA, show qvs [crat a, crat 1] = [a, 1] from qvs_map [a, 1]] at m1
  have h6 := mShiftQ_of _ _ _ _ m1
  obtain ⟨L1, hL1⟩ : ∃ L, L = trimq (hoq A (trimq [a, 1]) A.length) := ⟨_, rfl⟩
  have pL1 : pq L1 = cmq A (lin a 1) := by
    rw [hL1, pq_trimq, pq_hoq _ _ _ (Nat.le_refl _), Nat.sub_self, List.drop_zero, pq_trimq, lin]
  have lL1 : L1.length ≤ n + 1 := by
    rw [hL1, trimq_len]
    refine tzq_le_of fun k hk => ?_
    have : cfq L1 k = (cmq A (lin a 1)).c k := congrArg (fun F => PQ.c F k) pL1
    rw [hL1, cfq_trimq] at this
    rw [this, cmq_deg (lin_deg a 1) A k (by omega)]
  have hLL : trimq L1 = L1 := by rw [hL1, trimq_trimq]
  have hQ1 : QB 12 6000 L1 := ⟨by omega, by rw [hL1]; exact hE1.trim.qb.2⟩
  -- stretched
  have t2 : trimq [0, w] = [0, w] := by
    have : tzq [0, w] = 2 := tzq_spec (n := 1) hw0 fun k hk => cfq_ge (by show 2 ≤ k; omega)
    rw [trimq, this]; rfl
  obtain ⟨hh2, E2, hE2⟩ := hq_of (p := 0) (q := w) (M := 80000) hQ1 (by omega) (by omega) (by omega) (by rw [qz_zero]; omega) hwz (by omega)
  have g2 : GQ 2 6 [crat 0, crat w] := two_gq (by rw [qz_zero]; omega) hwz
  have m2 := mComposeQ_ok (L1.map crat) [crat 0, crat w] (hQ1.gq.mono (by omega) (by omega)) (g2.mono (by omega) (by omega)) (by rw [qvs_map, hLL, show qvs [crat 0, crat w] = [0, w] from qvs_map [0, w]]; exact hh2)
  rw [qvs_map, hLL, show qvs [crat 0, crat w] = [0, w] from qvs_map [0, w]] at m2
  have h7 := mScaleQ_of _ _ _ _ m2
  obtain ⟨L2, hL2⟩ : ∃ L, L = trimq (hoq L1 (trimq [0, w]) L1.length) := ⟨_, rfl⟩
  have pL2 : pq L2 = cmq A (lin a w) := by
    rw [hL2, pq_trimq, pq_hoq _ _ _ (Nat.le_refl _), Nat.sub_self, List.drop_zero, pq_trimq]
    exact cmq_two (by omega) lL1 pL1
  have cL2 : ∀ k, cfq L2 k = (cmq A (lin a w)).c k := fun k => congrArg (fun F => PQ.c F k) pL2
  have hC2 := hE2.trim
  rw [← hL2] at hC2
  have h8 := qclear_cb (L2.map crat) E2 61 80000 (hC2.qb.gq.mono (by omega) (by omega)) (by rw [qvs_map, show trimq L2 = L2 by rw [hL2, trimq_trimq]]; exact hC2) (by omega) (by omega)
  rw [qvs_map, show trimq L2 = L2 by rw [hL2, trimq_trimq]] at h8
  have hZ := hC2.clr_pb
  have hD0 := cden_ne L2
  have hDl := hC2.cden_len
  -- turned
  have hZp : RP 61 80000 ((clr L2).map canon) := RP.canon hZ
  have oz : ∀ z : Int, zl z ≤ 1 → Sz (2 ^ 20) (canon z) := fun z h => (sz_canon z).mono (by omega)
  have h9 := mmoebius_ok ((clr L2).map canon) (canon 1) (canon 0) (canon 1) (canon 1) (hZp.mono (by omega) (by omega)) (oz 1 (by decide +kernel)) (oz 0 (by decide +kernel)) (oz 1 (by decide +kernel)) (oz 1 (by decide +kernel))
  rw [pv_canon, iv_canon, iv_canon] at h9
  have cZ : ∀ k, (cf (clr L2) k : Rat) = (cden L2 : Rat) * (cmq A (lin a w)).c k := fun k => by rw [cf_clr, cL2, Rat.mul_comm]
  have hDq : (cden L2 : Rat) ≠ 0 := natr_ne hD0
  have tZ : tz (clr L2) = n + 1 := by
    refine tz_spec (fun e => ?_) fun k hk => ?_
    · have h := cZ n
      rw [e, cmq_top n A hAl] at h
      rcases Rat.mul_eq_zero.mp h.symm with h | h
      · exact hDq h
      · rcases Rat.mul_eq_zero.mp h with h | h
        · exact hAn h
        · exact absurd h (Rat.ne_of_gt (by
            have : (0 : Rat) < w := by grind
            exact Rat.pow_pos this))
    · have h := cZ k
      rw [cmq_deg (lin_deg a w) A k (by omega), Rat.mul_zero] at h
      exact Rat.intCast_inj.mp (by rw [h]; rfl)
  obtain ⟨S, hS⟩ : ∃ S, S = lhom (trimz (clr L2)) [0, 1] [1, 1] := ⟨_, rfl⟩
  rw [← hS] at h9
  have hSb : PB (2 ^ 20) (2 ^ 25) S := by
    have tb := hZ.trimz
    have tl : (trimz (clr L2)).length ≤ 61 := tb.1
    have two : ∀ x y : Int, zl x ≤ 1 → zl y ≤ 1 → PB 61 80000 [x, y] := fun x y hx hy => ⟨by simp, fun z hz => by
      simp only [List.mem_cons, List.not_mem_nil, or_false] at hz
      rcases hz with rfl | rfl <;> omega⟩
    have := pb_lhom (two 0 1 (by decide +kernel) (by decide +kernel)) (two 1 1 (by decide +kernel) (by decide +kernel)) (by omega) (by omega) tb
    rw [← hS] at this
    have e1 : (trimz (clr L2)).length * 61 ≤ 61 * 61 := Nat.mul_le_mul_right _ tl
    have e2 : (trimz (clr L2)).length * (80000 + 2) ≤ 61 * (80000 + 2) := Nat.mul_le_mul_right _ tl
    have e3 := lsmall tl
    exact this.mono (by omega) e3
  have hDs : zl ((cden L2 : Nat) : Int) ≤ 80000 := by rw [zl_nat]; exact hDl
  have h10 := sleast_ok (cn S) n (canon ((cden L2 : Nat) : Int)) ((rp_cn hSb).mono (by omega) (by omega)) ((sz_canon _).mono (by omega)) (by rw [iv_canon]; omega) (by omega)
  rw [iv_canon] at h10
  have h5' : AC Tryz.prog 85 [cw p] none [cqw (A.map crat)] := by rw [hAe]; exact h5
  have h6' : AC Tryz.prog 84 [cqw (A.map crat), cqq (crat a)] none [cqw (L1.map crat), ci 0] := by rw [hL1]; exact h6
  have h7' : AC Tryz.prog 86 [cqw (L1.map crat), cqz w] none [cqw (L2.map crat), ci 0] := by rw [hL2]; exact h7
  refine ⟨_, srow_ok _ _ _ n w _ _ _ (cden L2) _ _ _ h1 h2 h3 h4 h5' h6' h7' h8 h9 h10 (by omega), ?_, ?_⟩
  · have hRb : PB (2 ^ 21) (2 ^ 26) (rowz (pv (cn S)) n ((cden L2 : Nat) : Int)) := .of (by rw [rowz_len]; omega) fun k => by
      by_cases hk : k < n + 1
      · rw [cf_rowz hk, cf_cn]
        have := zl_quo (cf S k) ((gz (pv (cn S) ++ [((cden L2 : Nat) : Int)]) : Nat) : Int)
        have := hSb.cf k
        omega
      · rw [cf_ge (by rw [rowz_len]; omega), zl_zero]; omega
    exact (RP.canon hRb).mono (by omega) (by omega)
  · rw [pv_canon]
    obtain ⟨hdv, hdd⟩ := gz_app_dvd (pv (cn S)) ((cden L2 : Nat) : Int)
    have hg0 : gz (pv (cn S) ++ [((cden L2 : Nat) : Int)]) ≠ 0 := fun e => by
      rw [e] at hdd
      have := Int.zero_dvd.mp hdd
      omega
    have hSq : pq (qp S) = PQ.C (cden L2 : Rat) * hq (lin a b) (lin 1 1) n (cfq A) := by
      have h := pq_qp_lhom [0, 1] [1, 1] n (trimz (clr L2)) (by rw [trimz_len, tZ])
      rw [← hS] at h
      rw [h, hq_ext (g := fun k => (cden L2 : Rat) * (cmq A (lin a w)).c k) fun k _ => by rw [cfq_qp, cf_trimz, cZ], hq_smul]
      congr 1
      have e : ∀ x y : Int, pq (qp [x, y]) = lin (x : Rat) (y : Rat) := fun x y => rfl
      rw [e, e, hq_lin (a := a) (w := w) n A _ (by omega) (fun k => rfl)]
      congr 1
      rw [lin_scl, lin_scl, lin_add]
      congr 1
      · show a * 1 + w * 0 = a; grind
      · show a * 1 + w * 1 = b; grind
    have hgq : ((gz (pv (cn S) ++ [((cden L2 : Nat) : Int)]) : Nat) : Rat) ≠ 0 := natr_ne hg0
    have hfe : hq (lin a b) (lin 1 1) n (cfq (qp (pv p))) = hq (lin a b) (lin 1 1) n (cfq A) := hq_ext fun k _ => by rw [hcA, cfq_qp]
    rw [hfe]
    refine chq_of (t := (cden L2 : Rat) * ((gz (pv (cn S) ++ [((cden L2 : Nat) : Int)]) : Nat) : Rat)⁻¹) ?_ (fun k hk => ?_) (fun k hk => cf_ge (by rw [rowz_len]; omega))
    · exact fun e => by
        rcases Rat.mul_eq_zero.mp e with e | e
        · exact hDq e
        · exact absurd e (by intro e2; exact hgq (by have := Rat.mul_inv_cancel _ hgq; rw [e2, Rat.mul_zero] at this; exact absurd this (by decide)))
    · rw [cf_rowz (by omega), cf_cn]
      obtain ⟨y, hy⟩ := hdv k
      rw [cf_cn] at hy
      have hSk : (cf S k : Rat) = (cden L2 : Rat) * (hq (lin a b) (lin 1 1) n (cfq A)).c k := by
        rw [← PQ.C_mul_c, ← hSq, pq_c, cfq_qp]
      generalize hG : gz (pv (cn S) ++ [((cden L2 : Nat) : Int)]) = G at *
      have hyd : cf S k / (G : Int) = y := by rw [hy]; exact Int.mul_ediv_cancel_left y (by omega)
      rw [hyd]
      have h3 : (cf S k : Rat) = (G : Rat) * (y : Rat) := by rw [hy, Rat.intCast_mul, Rat.intCast_natCast]
      have h4 := Rat.mul_inv_cancel (G : Rat) hgq
      rw [hSk] at h3
      grind
theorem in_law (p : List RI) (n : Nat) (a b : Rat) (hp : RP 40 400 p) (hn : tz (pv p) = n + 1) (hn2 : n ≤ 11) (ha : qz a ≤ 6) (hb : qz b ≤ 6) (hab : a < b) (hwz : qz (b - a) ≤ 6) :
    AC Tryz.prog 20 [cw p, cqz a, cqz b] none [ci (chq n (hq (lin a b) (lin 1 1) n (cfq (qp (pv p))))), ci 0] := by
  obtain ⟨R, h1, h2, h3⟩ := row_law p n a b hp hn hn2 ha hb hab hwz
  rw [← h3]
  exact sin_ok _ _ _ _ h1 h2
end Go.Proofs.YtcocppjgbcbndaaGreat

namespace Go.Proofs.YtcocppjgbcbndaaGreat
open Go Go.Proofs Go.AL
set_option linter.unusedSimpArgs false
set_option linter.unusedVariables false
theorem cmq_addq (p q : List Rat) (Q : PQ) : cmq (addq p q) Q = cmq p Q + cmq q Q := by
  have hl : (addq p q).length = max p.length q.length := by simp [addq]
  rw [← hq_one Q (p.length + q.length) (addq p q) (by omega), ← hq_one Q (p.length + q.length) p (by omega), ← hq_one Q (p.length + q.length) q (by omega), ← hq_add]
  exact hq_ext fun k _ => cfq_addq p q k
theorem D_lin (a b : Rat) : PQ.D (lin a b) = PQ.C b := PQ.ext fun k => by
  show (lin a b).c (k + 1) * ((k + 1 : Nat) : Rat) = _
  rw [lin_c, PQ.c_C, if_neg (by omega)]
  by_cases h : k = 0
  · subst h
    rw [if_pos rfl, if_pos rfl]
    show b * ((1 : Nat) : Rat) = b
    rw [show ((1 : Nat) : Rat) = 1 from rfl, Rat.mul_one]
  · rw [if_neg (by omega), if_neg h, Rat.zero_mul]
theorem D_cmq (a : Rat) : ∀ p : List Rat, PQ.D (cmq p (lin a 1)) = cmq (derq p) (lin a 1)
  | [] => by
    refine PQ.ext fun k => ?_
    show (0 : Rat) * _ = 0
    rw [Rat.zero_mul]
  | c :: p => by
    rw [cmq_cons, PQ.D_add, PQ.D_C, PQ.zero_add, PQ.D_mul, D_lin, PQ.C_one, PQ.one_mul, D_cmq a p]
    have e : ∀ k, cfq (derq (c :: p)) k = cfq (addq p (0 :: derq p)) k := fun k => by
      rw [cfq_derq, cfq_addq]
      show cfq p k * _ = _
      cases k with
      | zero =>
        show cfq p 0 * ((1 : Nat) : Rat) = cfq p 0 + 0
        rw [show ((1 : Nat) : Rat) = 1 from rfl, Rat.mul_one, Rat.add_zero]
      | succ k =>
        show _ = cfq p (k + 1) + cfq (derq p) k
        rw [cfq_derq, Rat.natCast_add, show ((1 : Nat) : Rat) = 1 from rfl, Rat.mul_add, Rat.mul_one, Rat.add_comm]
    rw [cmq_ext e, cmq_addq, cmq_cons, PQ.C_zero, PQ.zero_add]
theorem evq_cmq (a : Rat) : ∀ p : List Rat, evq p a = (cmq p (lin a 1)).c 0
  | [] => rfl
  | c :: p => by
    rw [evq, evq_cmq a p, cmq_cons, PQ.c_add, PQ.c_C, if_pos rfl, lin_mul]
    show _ = c + (_ + 1 * 0)
    rw [Rat.mul_zero, Rat.add_zero]
def Dk : Nat → PQ → PQ
  | 0, F => F
  | k + 1, F => PQ.D (Dk k F)
def fct : Nat → Nat
  | 0 => 1
  | n + 1 => (n + 1) * fct n
theorem fct_pos : ∀ n, 0 < fct n
  | 0 => Nat.one_pos
  | n + 1 => Nat.mul_pos (by omega) (fct_pos n)
theorem Dk_c : ∀ (k : Nat) (F : PQ) (j : Nat), (Dk k F).c j * (fct j : Rat) = F.c (j + k) * (fct (j + k) : Rat)
  | 0, F, j => rfl
  | k + 1, F, j => by
    show (Dk k F).c (j + 1) * ((j + 1 : Nat) : Rat) * (fct j : Rat) = _
    have ih := Dk_c k F (j + 1)
    rw [show j + (k + 1) = j + 1 + k by omega, ← ih, fct, Rat.natCast_mul, Rat.mul_assoc]
def dr : Nat → List Int → List Int
  | 0, p => p
  | k + 1, p => pderiv (dr k p)
theorem cmq_dr (a : Rat) (P : List Int) : ∀ k, cmq (qp (dr k P)) (lin a 1) = Dk k (cmq (qp P) (lin a 1))
  | 0 => rfl
  | k + 1 => by
    rw [Dk, ← cmq_dr a P k, D_cmq]
    exact cmq_ext fun j => by rw [cfq_qp, dr, cf_pderiv, cfq_derq, cfq_qp, Rat.intCast_mul]; rfl
theorem sgq_dr (a : Rat) (P : List Int) (k : Nat) : sgq (evq (qp (dr k P)) a) = sgq ((cmq (qp P) (lin a 1)).c k) := by
  rw [evq_cmq, cmq_dr]
  have h := Dk_c k (cmq (qp P) (lin a 1)) 0
  rw [show fct 0 = 1 from rfl, show ((1 : Nat) : Rat) = 1 from rfl, Rat.mul_one, Nat.zero_add] at h
  rw [h, sgq_mul, sgq_pos (Rat.natCast_pos.mpr (fct_pos k)), Int.mul_one]
theorem dr_tz {P : List Int} {n : Nat} (h : tz P = n) : ∀ k, k ≤ n → tz (dr k P) = n - k
  | 0, _ => h
  | k + 1, hk => by
    have ih := dr_tz h k (by omega)
    by_cases h0 : n - k = 1
    · rw [show n - (k + 1) = 0 by omega]
      refine Nat.le_zero.mp (tz_le_of fun j _ => ?_)
      rw [dr, cf_pderiv, cf_ge_tz (dr k P) (by omega), Int.zero_mul]
    · obtain ⟨m, hm⟩ : ∃ m, n - k = m + 2 := ⟨n - k - 2, by omega⟩
      rw [show n - (k + 1) = m + 1 by omega]
      have hl : cf (dr k P) (m + 1) ≠ 0 := fun e => by
        have := tz_le_of (q := dr k P) (n := m + 1) fun j hj => by
          by_cases h2 : j = m + 1
          · rw [h2]; exact e
          · exact cf_ge_tz _ (by omega)
        omega
      refine tz_spec ?_ fun j hj => ?_
      · rw [dr, cf_pderiv]
        exact Int.mul_ne_zero hl (by omega)
      · rw [dr, cf_pderiv, cf_ge_tz (dr k P) (by omega), Int.zero_mul]
theorem dr_pb {P : List Int} (h : PB 40 400 P) : ∀ k, PB 40 (400 + k) (dr k P)
  | 0 => h
  | k + 1 => (dr_pb h k).pderiv (by simp only [W]; omega)
theorem cpoly_rows (q : List Int) : (cpoly q).length = tz q := by simp [cpoly, raws, trimz_len]
set_option maxRecDepth 100000 in
theorem sat_ok (p : List RI) (n : Nat) (a : Rat) (hp : RP 40 400 p) (hn : tz (pv p) = n + 1) (hn2 : n ≤ 11) (ha : qz a ≤ 1000) : AC Tryz.prog 26 [cw p, cqz a] none [cis (sgs n (cmq (qp (pv p)) (lin a 1))), ci 0] := by
  have h1 := sask_ok p [crat a] (hp.mono (by omega) (by omega)) ⟨by simp, fun r hr => by
    rw [List.mem_singleton.1 hr]
    exact ⟨szq_crat (by omega), nv_crat0 _⟩⟩ (by omega)
  have nm := pnorm_ok p (hp.mono (by omega) (by omega))
  generalize hP : pv p = P at *
  have hPb : PB 40 400 P := by rw [← hP]; exact hp.pv
  have hsl := sgs_len n (cmq (qp P) (lin a 1))
  refine AC.by_walk (rs := [.tmp 4, .tmp 5]) ords Tryz.func26 (by rfl) (by rfl) (by rfl) (by rfl) (by rfl) ?_
  simp (disch := omega) only [wk, tis, seval, reduceCtorEq, Nat.reduceEqDiff, rqs, Bool.true_beq, Bool.false_beq, Bool.not_true, Bool.not_false]
  refine call_by (h1) (by rfl) (by simp) ?_
  simp (disch := omega) only [wk, tis, seval, reduceCtorEq, Nat.reduceEqDiff, rqs, Bool.true_beq, Bool.false_beq, Bool.not_true, Bool.not_false]
  refine call_by (nm) (by rfl) (by simp) ?_
  simp (disch := omega) only [wk, tis, seval, reduceCtorEq, Nat.reduceEqDiff, rqs, Bool.true_beq, Bool.false_beq, Bool.not_true, Bool.not_false]
  refine aloop_nil 7 7 3 1 (by simp (disch := omega) only [wk, tis, seval, reduceCtorEq, Nat.reduceEqDiff, rqs, Bool.true_beq, Bool.false_beq, Bool.not_true, Bool.not_false]) (fun f H => ∃ (i st : Nat), i ≤ n + 1 ∧ f 8 = .iv (.sl (cpoly (dr i P))) ∧ f 3 = .hp 3 1 0 0 ∧ H 3 = .blk false 1 35 3 [qrow (crat a)] ∧ f 7 = .hs 7 st ∧ H 7 = .blk false st 3 1 (ilims ((sgs n (cmq (qp P) (lin a 1))).take i))) (fun f H => match f 8 with | .iv (.sl l) => l.length | _ => 0) ?_ ?_
  · refine ⟨0, 1, by omega, ?_⟩
    simp (disch := omega) only [wk, tis, seval, reduceCtorEq, Nat.reduceEqDiff, rqs, Bool.true_beq, Bool.false_beq, Bool.not_true, Bool.not_false, ghostF, ghostH, List.take_zero, show ilims [] = [] from rfl, show dr 0 P = P from rfl]
  rintro f H ⟨i, st, hi, g8, g3, k3, g7, k7⟩
  have hti := dr_tz hn i hi
  have hmu : (match f 8 with | .iv (.sl l) => l.length | _ => 0) = n + 1 - i := by rw [g8]; simp only []; rw [cpoly_rows, hti]
  rw [hmu]
  have hdb := dr_pb hPb i
  have hrp : RP 40 500 (cn (dr i P)) := (rp_cn hdb).mono (by omega) (by omega)
  have nn := snone_ok (cn (dr i P)) (hrp.mono (by omega) (by omega))
  rw [tz_eq_of_cf (cf_cn (dr i P)), hti] at nn
  by_cases hlt : i < n + 1
  · rw [decide_eq_false (by omega)] at nn
    have sg := eSign_ok (cn (dr i P)) (crat a) (hrp.mono (by omega) (by omega)) (szq_crat (by omega)) (nv_crat0 _)
    rw [qv_crat, evq_ext (p := qp (pv (cn (dr i P)))) (q := qp (dr i P)) a (fun k => by rw [cfq_qp, cfq_qp, cf_cn]), sgq_dr] at sg
    have dv := pderiv_g (a := cn (dr i P)) (q := dr i P) (hrp.mono (by omega) (by omega)) (ps_cn _)
    have et := takei_snoc (l := sgs n (cmq (qp P) (lin a 1))) (i := i) (by omega)
    rw [show (sgs n (cmq (qp P) (lin a 1))).getD i 0 = sgq ((cmq (qp P) (lin a 1)).c i) by
      have := cf_sgs n (cmq (qp P) (lin a 1)) i
      rw [if_pos (by omega)] at this
      exact this] at et
    have hbd := sgq_bound ((cmq (qp P) (lin a 1)).c i)
    generalize sgq ((cmq (qp P) (lin a 1)).c i) = s at *
    have hql : (ilims ((sgs n (cmq (qp P) (lin a 1))).take i)).length = i := by rw [show (ilims ((sgs n (cmq (qp P) (lin a 1))).take i)).length = ((sgs n (cmq (qp P) (lin a 1))).take i).length by simp [ilims], List.length_take]; omega
    simp (disch := omega) only [wk, tis, seval, reduceCtorEq, Nat.reduceEqDiff, rqs, Bool.true_beq, Bool.false_beq, Bool.not_true, Bool.not_false, g8, g3, k3, g7, k7, hql]
    refine call_by (nn) (by first | rfl | (simp only [tocvs, tocv, g8, g3, k3, g7, k7, hql]; rfl) | (simp only [tocvs, tocv, toboxes, tobox, updH_at, Nat.reduceEqDiff, ↓reduceIte, g8, g3, k3, g7, k7, hql]; rfl)) (by simp) ?_
    simp (disch := omega) only [wk, tis, seval, reduceCtorEq, Nat.reduceEqDiff, rqs, Bool.true_beq, Bool.false_beq, Bool.not_true, Bool.not_false, g8, g3, k3, g7, k7, hql]
    refine call_by (sg) (by first | rfl | (simp only [tocvs, tocv, g8, g3, k3, g7, k7, hql]; rfl) | (simp only [tocvs, tocv, toboxes, tobox, updH_at, Nat.reduceEqDiff, ↓reduceIte, g8, g3, k3, g7, k7, hql]; rfl)) (by simp) ?_
    simp (disch := omega) only [wk, tis, seval, reduceCtorEq, Nat.reduceEqDiff, rqs, Bool.true_beq, Bool.false_beq, Bool.not_true, Bool.not_false, g8, g3, k3, g7, k7, hql]
    refine call_by (dv) (by first | rfl | (simp only [tocvs, tocv, g8, g3, k3, g7, k7, hql]; rfl) | (simp only [tocvs, tocv, toboxes, tobox, updH_at, Nat.reduceEqDiff, ↓reduceIte, g8, g3, k3, g7, k7, hql]; rfl)) (by simp) ?_
    simp (disch := omega) only [wk, tis, seval, reduceCtorEq, Nat.reduceEqDiff, rqs, Bool.true_beq, Bool.false_beq, Bool.not_true, Bool.not_false, g8, g3, k3, g7, k7, hql]
    refine ⟨⟨i + 1, st + 1, by omega, ?_⟩, ?_⟩
    · rw [et, ilims_snoc]
      (repeat' apply And.intro) <;> first | rfl | omega
    · rw [cpoly_rows, show pderiv (dr i P) = dr (i + 1) P from rfl, dr_tz hn (i + 1) (by omega)]
      omega
  · obtain rfl : i = n + 1 := by omega
    rw [decide_eq_true (by omega)] at nn
    rw [List.take_of_length_le (by omega)] at k7
    simp (disch := omega) only [wk, tis, seval, reduceCtorEq, Nat.reduceEqDiff, rqs, Bool.true_beq, Bool.false_beq, Bool.not_true, Bool.not_false, g8, g3, k3, g7, k7]
    refine call_by (nn) (by first | rfl | (simp only [tocvs, tocv, g8, g3, k3, g7, k7]; rfl) | (simp only [tocvs, tocv, toboxes, tobox, updH_at, Nat.reduceEqDiff, ↓reduceIte, g8, g3, k3, g7, k7]; rfl)) (by simp) ?_
    simp (disch := omega) only [wk, tis, seval, reduceCtorEq, Nat.reduceEqDiff, rqs, Bool.true_beq, Bool.false_beq, Bool.not_true, Bool.not_false, g8, g3, k3, g7, k7]
    try rfl
theorem sbudan_ok (p : List RI) (n : Nat) (a b : Rat) (hp : RP 40 400 p) (hn : tz (pv p) = n + 1) (hn2 : n ≤ 11) (ha : qz a ≤ 1000) (hb : qz b ≤ 1000) (hab : a ≤ b) :
    AC Tryz.prog 28 [cw p, cqz a, cqz b] none [ci ((chq n (cmq (qp (pv p)) (lin a 1)) : Int) - (chq n (cmq (qp (pv p)) (lin b 1)) : Int)), ci 0] := by
  have h1 := sask_ok p [crat a, crat b] (hp.mono (by omega) (by omega)) ((two_gq ha hb).mono (by omega) (by omega)) (by omega)
  have h2 := qcmp_ok (crat a) (crat b) (szq_crat (by omega)) (szq_crat (by omega)) (nv_crat0 _) (nv_crat0 _)
  rw [cmp_sgq] at h2
  have hs : ¬ 0 < sgq (a - b) := by
    rcases sgq_cases (a - b) with ⟨h, e⟩ | ⟨h, e⟩ | ⟨h, e⟩
    · exact absurd h (Rat.not_lt.mpr (by grind))
    · omega
    · omega
  have hsb := sgq_bound (a - b)
  have a1 := sat_ok p n a hp hn hn2 ha
  have a2 := sat_ok p n b hp hn hn2 hb
  have l1 := sgs_len n (cmq (qp (pv p)) (lin a 1))
  have l2 := sgs_len n (cmq (qp (pv p)) (lin b 1))
  have c1 := chg_ok (sgs n (cmq (qp (pv p)) (lin a 1))) (by omega)
  have c2 := chg_ok (sgs n (cmq (qp (pv p)) (lin b 1))) (by omega)
  have b1 := chf_le (sgs n (cmq (qp (pv p)) (lin a 1))) (n + 1) (by omega)
  have b2 := chf_le (sgs n (cmq (qp (pv p)) (lin b 1))) (n + 1) (by omega)
  rw [List.take_of_length_le (by omega)] at b1 b2
  have b1' : chq n (cmq (qp (pv p)) (lin a 1)) ≤ n + 1 := b1
  have b2' : chq n (cmq (qp (pv p)) (lin b 1)) ≤ n + 1 := b2
  rw [show chg (sgs n (cmq (qp (pv p)) (lin a 1))) = chq n (cmq (qp (pv p)) (lin a 1)) from rfl] at c1
  rw [show chg (sgs n (cmq (qp (pv p)) (lin b 1))) = chq n (cmq (qp (pv p)) (lin b 1)) from rfl] at c2
  generalize chq n (cmq (qp (pv p)) (lin a 1)) = u at *
  generalize chq n (cmq (qp (pv p)) (lin b 1)) = v at *
  generalize sgq (a - b) = s at *
  refine AC.by_walk (rs := [.tmp 6, .tmp 7]) ords Tryz.func28 (by rfl) (by rfl) (by rfl) (by rfl) (by rfl) ?_
  simp (disch := omega) only [wk, tis, seval, reduceCtorEq, Nat.reduceEqDiff, rqs, Bool.true_beq, Bool.false_beq, Bool.not_true, Bool.not_false, rats_two]
  refine call_by (h1) (by first | rfl | (simp only [tocvs, tocv, rats_two]; rfl) | (simp only [tocvs, tocv, toboxes, tobox, updH_at, Nat.reduceEqDiff, ↓reduceIte, rats_two]; rfl)) (by simp) ?_
  simp (disch := omega) only [wk, tis, seval, reduceCtorEq, Nat.reduceEqDiff, rqs, Bool.true_beq, Bool.false_beq, Bool.not_true, Bool.not_false, rats_two]
  refine call_by (h2) (by first | rfl | (simp only [tocvs, tocv, hs]; rfl) | (simp only [tocvs, tocv, toboxes, tobox, updH_at, Nat.reduceEqDiff, ↓reduceIte, hs]; rfl)) (by simp) ?_
  simp (disch := omega) only [wk, tis, seval, reduceCtorEq, Nat.reduceEqDiff, rqs, Bool.true_beq, Bool.false_beq, Bool.not_true, Bool.not_false, hs]
  refine call_by (a1) (by rfl) (by simp) ?_
  simp (disch := omega) only [wk, tis, seval, reduceCtorEq, Nat.reduceEqDiff, rqs, Bool.true_beq, Bool.false_beq, Bool.not_true, Bool.not_false]
  refine call_by (a2) (by rfl) (by simp) ?_
  simp (disch := omega) only [wk, tis, seval, reduceCtorEq, Nat.reduceEqDiff, rqs, Bool.true_beq, Bool.false_beq, Bool.not_true, Bool.not_false]
  refine call_by (c1) (by rfl) (by simp) ?_
  simp (disch := omega) only [wk, tis, seval, reduceCtorEq, Nat.reduceEqDiff, rqs, Bool.true_beq, Bool.false_beq, Bool.not_true, Bool.not_false]
  refine call_by (c2) (by rfl) (by simp) ?_
  simp (disch := omega) only [wk, tis, seval, reduceCtorEq, Nat.reduceEqDiff, rqs, Bool.true_beq, Bool.false_beq, Bool.not_true, Bool.not_false]
  try rfl
theorem sbudan_bad (p : List RI) (a b : Rat) (hp : RP 40 400 p) (hn : tz (pv p) ≠ 0) (ha : qz a ≤ 1000) (hb : qz b ≤ 1000) (hab : b < a) :
    AC Tryz.prog 28 [cw p, cqz a, cqz b] none [ci 0, ci 7] := by
  have h1 := sask_ok p [crat a, crat b] (hp.mono (by omega) (by omega)) ((two_gq ha hb).mono (by omega) (by omega)) hn
  have h2 := qcmp_ok (crat a) (crat b) (szq_crat (by omega)) (szq_crat (by omega)) (nv_crat0 _) (nv_crat0 _)
  rw [cmp_sgq, sgq_pos (show 0 < a - b by grind)] at h2
  refine AC.by_walk (rs := [.tmp 6, .tmp 7]) ords Tryz.func28 (by rfl) (by rfl) (by rfl) (by rfl) (by rfl) ?_
  simp (disch := omega) only [wk, tis, seval, reduceCtorEq, Nat.reduceEqDiff, rqs, Bool.true_beq, Bool.false_beq, Bool.not_true, Bool.not_false, rats_two]
  refine call_by (h1) (by first | rfl | (simp only [tocvs, tocv, rats_two]; rfl) | (simp only [tocvs, tocv, toboxes, tobox, updH_at, Nat.reduceEqDiff, ↓reduceIte, rats_two]; rfl)) (by simp) ?_
  simp (disch := omega) only [wk, tis, seval, reduceCtorEq, Nat.reduceEqDiff, rqs, Bool.true_beq, Bool.false_beq, Bool.not_true, Bool.not_false, rats_two]
  refine call_by (h2) (by rfl) (by simp) ?_
  simp (disch := omega) only [wk, tis, seval, reduceCtorEq, Nat.reduceEqDiff, rqs, Bool.true_beq, Bool.false_beq, Bool.not_true, Bool.not_false]
  try rfl
theorem sin_bad (p : List RI) (a : Rat) (hp : RP 40 400 p) (hn : tz (pv p) ≠ 0) (ha : qz a ≤ 1000) :
    AC Tryz.prog 20 [cw p, cqz a, cqz a] none [ci 0, ci 7] := by
  have h1 := sask_ok p [crat a, crat a] (hp.mono (by omega) (by omega)) ((two_gq ha ha).mono (by omega) (by omega)) hn
  have h2 := qcmp_ok (crat a) (crat a) (szq_crat (by omega)) (szq_crat (by omega)) (nv_crat0 _) (nv_crat0 _)
  rw [cmp_sgq, show a - a = 0 by grind, sgq_zero] at h2
  have r : AC Tryz.prog 51 [cw p, cqz a, cqz a] none [cw [], ci 7] := by
    refine AC.by_walk (rs := [.tmp 6, .tmp 7]) ords Tryz.func51 (by rfl) (by rfl) (by rfl) (by rfl) (by rfl) ?_
    simp (disch := omega) only [wk, tis, seval, reduceCtorEq, Nat.reduceEqDiff, rqs, Bool.true_beq, Bool.false_beq, Bool.not_true, Bool.not_false, rats_two]
    refine call_by (h1) (by first | rfl | (simp only [tocvs, tocv, rats_two]; rfl) | (simp only [tocvs, tocv, toboxes, tobox, updH_at, Nat.reduceEqDiff, ↓reduceIte, rats_two]; rfl)) (by simp) ?_
    simp (disch := omega) only [wk, tis, seval, reduceCtorEq, Nat.reduceEqDiff, rqs, Bool.true_beq, Bool.false_beq, Bool.not_true, Bool.not_false, rats_two]
    refine call_by (h2) (by rfl) (by simp) ?_
    simp (disch := omega) only [wk, tis, seval, reduceCtorEq, Nat.reduceEqDiff, rqs, Bool.true_beq, Bool.false_beq, Bool.not_true, Bool.not_false]
    try rfl
  have o := of16_ok [] ⟨by simp, fun c hc => nomatch hc⟩
  rw [show chg (pv []) = 0 from rfl] at o
  refine AC.by_walk (rs := [.tmp 6, .tmp 7]) ords Tryz.func20 (by rfl) (by rfl) (by rfl) (by rfl) (by rfl) ?_
  simp (disch := omega) only [wk, tis, seval, reduceCtorEq, Nat.reduceEqDiff, rqs, Bool.true_beq, Bool.false_beq, Bool.not_true, Bool.not_false]
  refine call_by (r) (by rfl) (by simp) ?_
  simp (disch := omega) only [wk, tis, seval, reduceCtorEq, Nat.reduceEqDiff, rqs, Bool.true_beq, Bool.false_beq, Bool.not_true, Bool.not_false]
  refine call_by (o) (by rfl) (by simp) ?_
  simp (disch := omega) only [wk, tis, seval, reduceCtorEq, Nat.reduceEqDiff, rqs, Bool.true_beq, Bool.false_beq, Bool.not_true, Bool.not_false]
  try rfl
theorem stest_ok (p : List RI) (a b : Rat) (v e : Int) (hv : 0 ≤ v ∧ v ≤ 1000) (h : AC Tryz.prog 20 [cw p, cqz a, cqz b] none [ci v, ci e]) : AC Tryz.prog 29 [cw p, cqz a, cqz b] none [ci (min v 2), ci e] := by
  refine AC.by_walk (rs := [.tmp 6, .tmp 7]) ords Tryz.func29 (by rfl) (by rfl) (by rfl) (by rfl) (by rfl) ?_
  simp (disch := omega) only [wk, tis, seval, reduceCtorEq, Nat.reduceEqDiff, rqs, Bool.true_beq, Bool.false_beq, Bool.not_true, Bool.not_false]
  refine call_by (h) (by rfl) (by simp) ?_
  simp (disch := omega) only [wk, tis, seval, reduceCtorEq, Nat.reduceEqDiff, rqs, Bool.true_beq, Bool.false_beq, Bool.not_true, Bool.not_false]
  try rfl
theorem ints_self (l : List Int) (hl : l.length ≤ 2 ^ 40) : AC Tryz.prog 27 [cis l, cis l] none [cb true] := by
  refine AC.by_walk (rs := [.tmp 4]) ords Tryz.func27 (by rfl) (by rfl) (by rfl) (by rfl) (by rfl) ?_
  simp (disch := omega) only [wk, tis, seval, reduceCtorEq, Nat.reduceEqDiff, rqs, Bool.true_beq, Bool.false_beq, Bool.not_true, Bool.not_false]
  refine aloop_by (fun f H => ∃ (i : Nat), i ≤ l.length ∧ f 5 = .iv (.int .i64 i) ∧ f 0 = .iv (.sl (ilims l)) ∧ f 1 = .iv (.sl (ilims l))) (fun f H => (l.length - intAt f 5).toNat) ?_ ?_
  · refine ⟨0, by omega, ?_⟩
    simp (disch := omega) only [wk, tis, seval, reduceCtorEq, Nat.reduceEqDiff, rqs, Bool.true_beq, Bool.false_beq, Bool.not_true, Bool.not_false]
  rintro f H ⟨i, hi, hF⟩
  rw [intAt_of hF.1]
  simp (disch := omega) only [wk, tis, seval, reduceCtorEq, Nat.reduceEqDiff, rqs, Bool.true_beq, Bool.false_beq, Bool.not_true, Bool.not_false, hF]
  refine if_by (fun hlt => ?_) (fun hlt => ?_)
  · simp (disch := omega) only [wk, tis, seval, reduceCtorEq, Nat.reduceEqDiff, rqs, Bool.true_beq, Bool.false_beq, Bool.not_true, Bool.not_false, hF]
    refine ⟨tmps_by (by kernel_rfl), ?_⟩
    first | exact log_by (by kernel_rfl) | refine ⟨log_by (by kernel_rfl), ?_⟩
    refine ⟨⟨i + 1, by omega, ?_⟩, by omega⟩
    try (repeat' apply And.intro) <;> first | rfl | omega
  · simp (disch := omega) only [wk, tis, seval, reduceCtorEq, Nat.reduceEqDiff, rqs, Bool.true_beq, Bool.false_beq, Bool.not_true, Bool.not_false, hF]
    try rfl
end Go.Proofs.YtcocppjgbcbndaaGreat

namespace Go.Proofs.YtcocppjgbcbndaaGreat
open Go Go.Proofs Go.AL
set_option linter.unusedSimpArgs false
set_option linter.unusedVariables false
theorem hPi (n : Int) (h : -9223372036854775808 < n) (h' : n < 9223372036854775808) : AC Tryz.prog 8 [ci n, ci 1] none [cqz (n : Rat)] := by
  have p := hP_ok n 1 h h' (by omega) (by omega)
  rwa [show (n : Rat) / ((1 : Nat) : Rat) = (n : Rat) by rw [show ((1 : Nat) : Rat) = 1 from rfl]; grind] at p
theorem xc_cb {c : Rat} (hc : qz c ≤ 3) : ∃ D, CB D 2 10 [c, 1] := by
  have hB : QB 2 3 [c, 1] := ⟨by simp, fun x hx => by
    simp only [List.mem_cons, List.not_mem_nil, or_false] at hx
    rcases hx with rfl | rfl
    · exact hc
    · rw [qz_one]; omega⟩
  obtain ⟨D, hD⟩ := hB.cb
  exact ⟨D, hD.mono (by omega) (by omega)⟩
theorem xc_pow {c : Rat} (hc : qz c ≤ 3) (j : Nat) (hj : j ≤ 12) : ∃ E, CB E 25 625 (powq [c, 1] j) := by
  obtain ⟨D, hD⟩ := xc_cb hc
  obtain ⟨E, hE⟩ := powq_cb (c := 40) hD j (by omega)
  have : j * (10 + 2 + 40) ≤ 12 * (10 + 2 + 40) := Nat.mul_le_mul_right _ hj
  exact ⟨E, hE.mono (by omega) (by omega)⟩
theorem xc_csq {c : Rat} (hc : qz c ≤ 3) {T : List Rat} (hT : QB 12 60 T) (j : Nat) (hj : j ≤ 12) : ∃ E, CB E 40 8300 (csq T [c, 1] j) := by
  obtain ⟨D, hD⟩ := xc_cb hc
  obtain ⟨E, hE⟩ := csq_cb (c := 40) hD hT (by omega) j (by omega)
  have h1 : j * (10 + 2 + 40) ≤ 12 * (10 + 2 + 40) := Nat.mul_le_mul_right _ hj
  have h2 : j * (1 + j * (10 + 2 + 40) + 60 + 1) ≤ 12 * (1 + 12 * (10 + 2 + 40) + 60 + 1) := Nat.mul_le_mul hj (by omega)
  exact ⟨E, hE.mono (by omega) (by omega)⟩
set_option maxRecDepth 100000 in
theorem tpower_ok (c : Rat) (i : Nat) (hc : qz c ≤ 3) (hi : i ≤ 12) : AC Tryz.prog 23 [cqw [crat c, crat 1], ci i] none [cqp (powq [c, 1] i)] := by
  have one := hPi 1 (by omega) (by omega)
  rw [show ((1 : Int) : Rat) = 1 from rfl] at one
  obtain ⟨D, hD⟩ := xc_cb hc
  have e0 : rats (cqs (powq [c, 1] 0)) = [qrow (crat 1)] := rfl
  have eq2 : qvs [crat c, crat 1] = [c, 1] := qvs_map [c, 1]
  have g2 : GQ 2 10 [crat c, crat 1] := two_gq (by omega) (by rw [qz_one]; omega)
  refine AC.by_walk (rs := [.tmp 4]) ords Tryz.func23 (by rfl) (by rfl) (by rfl) (by rfl) (by rfl) ?_
  simp (disch := omega) only [wk, tis, seval, reduceCtorEq, Nat.reduceEqDiff, rqs, Bool.true_beq, Bool.false_beq, Bool.not_true, Bool.not_false]
  refine call_by (one) (by rfl) (by simp) ?_
  simp (disch := omega) only [wk, tis, seval, reduceCtorEq, Nat.reduceEqDiff, rqs, Bool.true_beq, Bool.false_beq, Bool.not_true, Bool.not_false]
  refine aloop_w (.iv 5 8 1 false 35 3 [qrow (crat 1)] (by simp (disch := omega) only [wk, tis, seval, reduceCtorEq, Nat.reduceEqDiff, rqs, Bool.true_beq, Bool.false_beq, Bool.not_true, Bool.not_false]) (by simp (disch := omega) only [wk, tis, seval, reduceCtorEq, Nat.reduceEqDiff, rqs, Bool.true_beq, Bool.false_beq, Bool.not_true, Bool.not_false]) (.refl _ _)) (fun f H => ∃ (j : Nat), j ≤ i ∧ f 6 = .iv (.int .i64 j) ∧ f 1 = .iv (.int .i64 i) ∧ f 0 = .iv (.sl (rats [crat c, crat 1])) ∧ f 5 = .iv (.sl (rats (cqs (powq [c, 1] j))))) (fun f H => (i - intAt f 6).toNat) ?_ ?_
  · refine ⟨0, by omega, ?_⟩
    simp (disch := omega) only [wk, tis, seval, reduceCtorEq, Nat.reduceEqDiff, rqs, Bool.true_beq, Bool.false_beq, Bool.not_true, Bool.not_false, e0]
  rintro f H ⟨j, hj, hF⟩
  rw [intAt_of hF.1]
  simp (disch := omega) only [wk, tis, seval, reduceCtorEq, Nat.reduceEqDiff, rqs, Bool.true_beq, Bool.false_beq, Bool.not_true, Bool.not_false, hF]
  refine if_by (fun hlt => ?_) (fun hlt => ?_)
  · have hlt' : j < i := by omega
    obtain ⟨E, hE⟩ := xc_pow hc j (by omega)
    have tt := ttimes_ok (cqs (powq [c, 1] j)) [crat c, crat 1] 1000 (hE.qb.gqs.mono (by omega) (by omega)) (g2.mono (by omega) (by omega)) (by omega) (by omega) (by
      intro a k
      rw [qvs_cqs, eq2, trimq_trimq]
      exact Nat.le_trans (hE.trim.part hD.trim (by omega) a k) (by omega))
    rw [qvs_cqs, eq2, show cqp (mulq (trimq (powq [c, 1] j)) [c, 1]) = cqp (powq [c, 1] (j + 1)) from congrArg cqw (cqs_ext fun k => by rw [powq, mulq_comm [c, 1]]; exact mulq_congr (cfq_trimq _) (fun _ => rfl) k)] at tt
    simp (disch := omega) only [wk, tis, seval, reduceCtorEq, Nat.reduceEqDiff, rqs, Bool.true_beq, Bool.false_beq, Bool.not_true, Bool.not_false, hF]
    refine call_by (tt) (by first | rfl | (simp only [tocvs, tocv, hF]; rfl) | (simp only [tocvs, tocv, toboxes, tobox, updH_at, Nat.reduceEqDiff, ↓reduceIte, hF]; rfl)) (by simp) ?_
    simp (disch := omega) only [wk, tis, seval, reduceCtorEq, Nat.reduceEqDiff, rqs, Bool.true_beq, Bool.false_beq, Bool.not_true, Bool.not_false, hF]
    refine ⟨⟨j + 1, by omega, ?_⟩, by omega⟩
    (repeat' apply And.intro) <;> first | rfl | omega
  · obtain rfl : j = i := by omega
    simp (disch := omega) only [wk, tis, seval, reduceCtorEq, Nat.reduceEqDiff, rqs, Bool.true_beq, Bool.false_beq, Bool.not_true, Bool.not_false, hF]
    try rfl
theorem tstep_ok (c : Rat) (T : List Int) (i : Nat) (hc : qz c ≤ 3) (hT : PB 12 60 T) (hi : i < 12) : AC Tryz.prog 21 [cqp (csq (qp T) [c, 1] i), cqz ((cf T i : Int) : Rat), cqp (powq [c, 1] i)] none [cqp (csq (qp T) [c, 1] (i + 1))] := by
  have hTq : QB 12 60 (qp T) := .of (by simp only [qp, List.length_map]; exact hT.1) fun k => by
    rw [cfq_qp]
    have := qz_int (cf T k)
    have := hT.cf k
    omega
  obtain ⟨E, hE⟩ := xc_csq hc hTq i (by omega)
  obtain ⟨F, hF⟩ := xc_pow hc i (by omega)
  have hz := qz_int (cf T i)
  have hz2 := hT.cf i
  have t := tplus_ok (cqs (csq (qp T) [c, 1] i)) (cqs (powq [c, 1] i)) (crat ((cf T i : Int) : Rat)) 9000 (hE.qb.gqs.mono (by omega) (by omega)) (hF.qb.gqs.mono (by omega) (by omega)) (szq_crat (by omega)) (nv_crat0 _) (by omega) (by omega)
  rw [qv_crat, qvs_cqs, qvs_cqs, show cqp (zipq (fma ((cf T i : Int) : Rat)) (trimq (csq (qp T) [c, 1] i)) (trimq (powq [c, 1] i))) = cqp (csq (qp T) [c, 1] (i + 1)) from congrArg cqw (cqs_ext fun k => by
    rw [cfq_zipq (fma_zero _), cfq_trimq, cfq_trimq, csq, cfq_addq, cfq_sclq, cfq_qp, fma, Rat.mul_comm])] at t
  exact t
def mvz (T : List Int) (c : Int) : List Int := (trimq (csq (qp T) [(c : Rat), 1] T.length)).map fun x => x.num
theorem mvz_int (T : List Int) (c : Int) (n : Nat) (hl : T.length = n + 1) (k : Nat) : cf (mvz T c) k = cf (lhom T [c, 1] [1]) k ∧ ((cf (mvz T c) k : Int) : Rat) = (cmq (qp T) (lin (c : Rat) 1)).c k := by
  have h1 : pq (csq (qp T) [(c : Rat), 1] T.length) = cmq (qp T) (lin (c : Rat) 1) := by
    have hq : (qp T).length = T.length := by simp [qp]
    rw [pq_csq _ _ _ (by omega), List.take_of_length_le (by omega), lin]
  have h2 := pq_qp_lhom [c, 1] [1] n T hl
  have h3 : pq (qp [(1 : Int)]) = 1 := pq_one
  rw [h3, hq_one _ n (qp T) (by simp [qp]; omega)] at h2
  have e1 : cfq (csq (qp T) [(c : Rat), 1] T.length) k = (cmq (qp T) (lin (c : Rat) 1)).c k := congrArg (fun F => PQ.c F k) h1
  have e2 : ((cf (lhom T [c, 1] [1]) k : Int) : Rat) = (cmq (qp T) (lin (c : Rat) 1)).c k := by
    rw [← cfq_qp]; exact congrArg (fun F => PQ.c F k) h2
  have e3 : cf (mvz T c) k = (cfq (csq (qp T) [(c : Rat), 1] T.length) k).num := by
    rw [← cfq_trimq]
    unfold mvz
    generalize trimq (csq (qp T) [(c : Rat), 1] T.length) = L
    by_cases h : k < L.length
    · simp [cf, cfq, List.getD, h]
    · rw [cf_ge (by simp; omega), cfq_ge (by omega)]; rfl
  have e4 : cf (mvz T c) k = cf (lhom T [c, 1] [1]) k := by rw [e3, e1, ← e2, Rat.num_intCast]
  exact ⟨e4, by rw [e4]; exact e2⟩
theorem one_powq : ∀ m : Nat, (1 : Rat) ^ m = 1
  | 0 => Rat.pow_zero _
  | m + 1 => by rw [Rat.pow_succ, one_powq m, Rat.mul_one]
theorem mvz_facts (T : List Int) (c : Int) (n : Nat) (hl : T.length = n + 1) (ht : tz T = n + 1) (hn : n ≤ 10) (hT : PB 11 20 T) (hc : zl c ≤ 1) : PB 40 400 (mvz T c) ∧ tz (mvz T c) = n + 1 := by
  have hq : (qp T).length = n + 1 := by simp [qp]; omega
  have hdeg : ∀ k, n < k → cf (mvz T c) k = 0 := fun k hk => by
    have := (mvz_int T c n hl k).2
    rw [cmq_deg (lin_deg _ _) (qp T) k (by omega)] at this
    exact Rat.intCast_inj.mp (by rw [this]; rfl)
  have htop : cf (mvz T c) n ≠ 0 := fun e => by
    have h1 := (mvz_int T c n hl n).2
    rw [e, cmq_top n (qp T) hq, cfq_qp, one_powq n, Rat.mul_one] at h1
    have h2 : cf T n = 0 := Rat.intCast_inj.mp (by rw [← h1])
    have := tz_le_of (q := T) (n := n) fun k hk => by
      by_cases h : k = n
      · rw [h]; exact h2
      · exact cf_ge_tz T (by omega)
    omega
  refine ⟨.of ?_ fun k => ?_, tz_spec htop hdeg⟩
  · unfold mvz
    rw [List.length_map, trimq_len]
    refine Nat.le_trans (tzq_le_of (n := n + 1) fun k hk => ?_) (by omega)
    have h1 : pq (csq (qp T) [(c : Rat), 1] T.length) = cmq (qp T) (lin (c : Rat) 1) := by
      rw [pq_csq _ _ _ (by omega), List.take_of_length_le (by omega), lin]
    have e1 : cfq (csq (qp T) [(c : Rat), 1] T.length) k = (cmq (qp T) (lin (c : Rat) 1)).c k := congrArg (fun F => PQ.c F k) h1
    rw [e1, cmq_deg (lin_deg _ _) (qp T) k (by omega)]
  · rw [(mvz_int T c n hl k).1]
    have hf : PB 2 20 [c, 1] := ⟨by simp, fun z hz => by
      simp only [List.mem_cons, List.not_mem_nil, or_false] at hz
      rcases hz with rfl | rfl
      · omega
      · have : zl 1 ≤ 1 := zl_le.mpr (by decide)
        omega⟩
    have hg : PB 2 20 [(1 : Int)] := ⟨by simp, fun z hz => by
      rw [List.mem_singleton.1 hz]
      have : zl 1 ≤ 1 := zl_le.mpr (by decide)
      omega⟩
    have hb := pb_lhom hf hg (by omega) (by omega) hT
    have := hb.cf k
    have h2 : T.length * (20 + 2) ≤ 11 * (20 + 2) := Nat.mul_le_mul_right _ (by omega)
    omega
theorem cmq_comp {A L : List Rat} {n : Nat} {a w u v : Rat} (hA : A.length ≤ n + 1) (hL : L.length ≤ n + 1) (h : ∀ k, cfq L k = (cmq A (lin a w)).c k) : cmq L (lin u v) = cmq A (lin (a + w * u) (w * v)) := by
  rw [← hq_one _ n L hL, ← hq_one _ n A hA, hq_lin (U := lin u v) (V := 1) (a := a) (w := w) n A (cfq L) hA h]
  congr 1
  rw [PQ.mul_one, C_lin, lin_scl, lin_add]
  congr 1; grind
theorem kp_facts (R : List (Int × Int)) (Q : List Int) (f : Int) : PB 19 17 (kp R Q f) ∧ ∃ n, n ≤ 10 ∧ tz (kp R Q f) = n + 1 := by
  obtain ⟨hf0, hf1, hf2⟩ := frc_ne f
  have zc : zl (frc f) ≤ 1 := zl_le.mpr (by rw [Nat.pow_one]; simp only [W]; omega)
  have hrl := rts_len R
  have hpl := prs2_len Q
  have hA : ∀ r ∈ rts R, 0 < r.2 := fun r hr => by
    obtain ⟨x, _, rfl⟩ := List.mem_map.1 hr
    show 0 < ((rtq x).den : Int)
    have := (rtq x).den_pos
    omega
  have t1 : tz [frc f] = 1 := tz_spec (q := [frc f]) (n := 0) hf0 fun k hk => cf_ge (by show 1 ≤ k; omega)
  have G0 : GL [frc f] := ⟨frc f, ⟨fun j hj => by omega, rfl, hf0⟩, by unfold lc; rw [t1]; rfl⟩
  obtain ⟨hg, ht⟩ := gl_fold (prs2 Q) [frc f] G0 (by omega)
  have hps := kp_ps R Q f
  have ht2 := (rlist_tz hg.tz (rts R) hA).1
  rw [← tz_eq_of_cf (ps_eq hps), ht, t1] at ht2
  refine ⟨?_, (rts R).length + 2 * (prs2 Q).length, by omega, by omega⟩
  have qb := qsl_pb zc (rts_z R) (rts R).length (Nat.le_refl _) (by omega)
  exact (wsl_pb (qb.mono (n' := 13) (k' := 13) (by omega) (by omega)) (by omega) (prs2_b Q) (prs2 Q).length (Nat.le_refl _) (by omega)).mono (by omega) (by omega)
end Go.Proofs.YtcocppjgbcbndaaGreat
