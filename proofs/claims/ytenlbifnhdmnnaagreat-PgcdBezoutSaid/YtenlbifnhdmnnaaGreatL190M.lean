/-
  Contracts of the functions that the law reaches.
-/
import Derived.Test.YtenlbifnhdmnnaaGreatL117M
import Derived.Test.YtenlbifnhdmnnaaGreatL59M
set_option maxHeartbeats 2000000
namespace Go.Proofs.YtenlbifnhdmnnaaGreat
open Go Go.Proofs Go.AL
set_option linter.unusedSimpArgs false
set_option linter.unusedVariables false
abbrev cqc (l : List Rat) : CV := cqw (l.map crat)
theorem mulc {a b c : List Rat} (ha : QB 9 3 a) (hb : QB 9 3 b) (h : trimq (mulq a b) = c) : AC Tryz.prog 35 [cqc a, cqc b] none [cqc c] := by
  have m := qpmul_ok (a.map crat) (b.map crat) 9 3 ha.gq hb.gq (by omega) (by omega) (by omega)
  rw [qvs_map, qvs_map, show cqp (mulq a b) = cqc c from congrArg cqw (by rw [cqs, h])] at m
  refine AC.by_walk (rs := [.tmp 4]) ords Tryz.func35 (by rfl) (by rfl) (by rfl) (by rfl) (by rfl) ?_
  simp (disch := omega) only [wk, tis, seval, reduceCtorEq, Nat.reduceEqDiff, rqs, cpoly_len]
  refine call_by (m) (by rfl) (by simp) ?_
  simp (disch := omega) only [wk, tis, seval, reduceCtorEq, Nat.reduceEqDiff, rqs, cpoly_len]
  try rfl
theorem subc {a b c : List Rat} (ha : QB 9 3 a) (hb : QB 9 3 b) (h : trimq (subq a b) = c) : AC Tryz.prog 39 [cqc a, cqc b] none [cqc c] := by
  have m := qpsub_ok (a.map crat) (b.map crat) 3 (ha.gq.mono (by omega) (by omega)) (hb.gq.mono (by omega) (by omega)) (by omega) (by omega)
  rw [qvs_map, qvs_map, show cqp (subq a b) = cqc c from congrArg cqw (by rw [cqs, h])] at m
  refine AC.by_walk (rs := [.tmp 4]) ords Tryz.func39 (by rfl) (by rfl) (by rfl) (by rfl) (by rfl) ?_
  simp (disch := omega) only [wk, tis, seval, reduceCtorEq, Nat.reduceEqDiff, rqs, cpoly_len]
  refine call_by (m) (by rfl) (by simp) ?_
  simp (disch := omega) only [wk, tis, seval, reduceCtorEq, Nat.reduceEqDiff, rqs, cpoly_len]
  try rfl
theorem dv_dec {A B : List Rat} {n : Nat} (h : (A.length ≤ 9 ∧ B.length ≤ 9 ∧ B.length ≠ 0 ∧ cfq B (B.length - 1) ≠ 0) ∧ (trimq A = A ∧ trimq B = B) ∧ ((dit A B n).length < B.length ∧ ∀ j, j < n → B.length ≤ (dit A B j).length) ∧ (∀ k, k < n + 1 → (dit A B k).length ≤ 9 ∧ ∀ c ∈ dit A B k, qz c ≤ 3) ∧ ∀ c ∈ B, qz c ≤ 3) : DV A B n 3 := by
  obtain ⟨⟨h1, h2, h3, h4⟩, ⟨h5, h6⟩, ⟨h7, h8⟩, h9, h10⟩ := h
  have hB : QB 9 3 B := ⟨h2, h10⟩
  exact ⟨by omega, by omega, h3, h4, h5, h6, h7, h8, fun k hk i => QB.cz (n := 9) (k := 3) ⟨(h9 k (by omega)).1, (h9 k (by omega)).2⟩ (by omega) i, fun i => hB.cz (by omega) i, by omega, by omega⟩
theorem divc {a b q r : List Rat} {n : Nat} (v : DV a b n 3) (ha : QB 9 3 a) (hb : QB 9 3 b) (hq : trimq (dqu a b n) = q) (hr : dit a b n = r) : AC Tryz.prog 38 [cqc a, cqc b] none [cqc q, cqc r, ci 0] := by
  have m := qdiv_ok (a.map crat) (b.map crat) (ha.gq.mono (by omega) (by omega)) (hb.gq.mono (by omega) (by omega)) n 3 (by rw [qvs_map, qvs_map, v.ta, v.tb]; exact v)
  rw [qvs_map, qvs_map, v.ta, v.tb, hr, show cqp (dqu a b n) = cqc q from congrArg cqw (by rw [cqs, hq])] at m
  exact m
theorem normc {a : List Rat} (ha : QB 9 3 a) (h : trimq a = a) : AC Tryz.prog 31 [cqc a] none [cqc a, ci 0] := by
  have m := qpnorm_ok (a.map crat) (ha.gq.mono (by omega) (by omega))
  rwa [qvs_map, show cqp a = cqc a from congrArg cqw (by rw [cqs, h])] at m
theorem scalec {a c : List Rat} {k : Rat} (ha : QB 9 3 a) (hk : qz k ≤ 3) (h : trimq (sclq k a) = c) : AC Tryz.prog 40 [cqc a, cqz k] none [cqc c, ci 0] := by
  have m := qscale_ok (a.map crat) (crat k) 3 (ha.gq.mono (by omega) (by omega)) (szq_crat hk) (nv_crat0 _) (by omega) (by omega)
  rwa [qvs_map, qv_crat, show cqp (sclq k a) = cqc c from congrArg cqw (by rw [cqs, h])] at m
theorem leadc {a : List Rat} {x : Rat} {n : Nat} (ha : QB 9 3 a) (ht : tzq a = n + 1) (h : cfq a n = x) : AC Tryz.prog 34 [cqc a] none [cqz x] := by
  have d := qdeg_ok (a.map crat) (ha.gq.mono (by omega) (by omega))
  rw [qvs_map, ht, show ((n + 1 : Nat) : Int) - 1 = (n : Int) by omega] at d
  have dg : AC Tryz.prog 49 [cqc a] none [ci n] := by
    refine AC.by_walk (rs := [.tmp 2]) ords Tryz.func49 (by rfl) (by rfl) (by rfl) (by rfl) (by rfl) ?_
    simp (disch := omega) only [wk, tis, seval, reduceCtorEq, Nat.reduceEqDiff, rqs, cpoly_len]
    refine call_by (d) (by rfl) (by simp) ?_
    simp (disch := omega) only [wk, tis, seval, reduceCtorEq, Nat.reduceEqDiff, rqs, cpoly_len]
    try rfl
  have c := qCoef_ok (a.map crat) n (ha.gq.mono (by omega) (by omega))
  rw [qvs_map, if_neg (by omega), Int.toNat_natCast, h] at c
  refine AC.by_walk (rs := [.cell 2 46]) ords Tryz.func34 (by rfl) (by rfl) (by rfl) (by rfl) (by rfl) ?_
  simp (disch := omega) only [wk, tis, seval, reduceCtorEq, Nat.reduceEqDiff, rqs, cpoly_len]
  refine call_by (dg) (by rfl) (by simp) ?_
  simp (disch := omega) only [wk, tis, seval, reduceCtorEq, Nat.reduceEqDiff, rqs, cpoly_len]
  refine call_by (c) (by rfl) (by simp) ?_
  simp (disch := omega) only [wk, tis, seval, reduceCtorEq, Nat.reduceEqDiff, rqs, cpoly_len]
  try rfl
theorem inv3_ok : AC Tryz.prog 33 [cqz 3] none [cqz (1 / 3)] := by
  have e : crat 3 = (canon 3, wd 1) := by decide +kernel
  have e2 : crat (1 / 3) = (canon 1, wd 3) := by decide +kernel
  have z := znat_ok false 1 (by decide +kernel)
  have n := norm_ok (wd 3) (lim_wd 3) (by decide +kernel)
  rw [nv_wd] at n
  have c3 : canon 3 = (false, wd 3) := by decide +kernel
  have c1 : sg false 1 = 1 := rfl
  rw [c1] at z
  have E1 : cqz 3 = .agg [.bool false, .sl (lims (wd 3)), .sl (lims (wd 1))] := by
    show CV.agg (qrow (crat 3)) = _
    rw [e, c3]
    try rfl
  have E2 : cqz (1 / 3) = .agg (prow (canon 1) ++ [.sl (lims (wd 3))]) := by
    show CV.agg (qrow (crat (1 / 3))) = _
    rw [e2]
    try rfl
  rw [E1, E2]
  refine AC.by_walk (rs := [.cell 2 46]) ords Tryz.func33 (by rfl) (by rfl) (by rfl) (by rfl) (by rfl) ?_
  simp (disch := omega) only [wk, tis, seval, reduceCtorEq, Nat.reduceEqDiff, rqs, cpoly_len]
  refine ⟨tmps_by (by kernel_rfl), ?_⟩
  refine call_by (z) (by rfl) (by simp) ?_
  simp (disch := omega) only [wk, tis, seval, reduceCtorEq, Nat.reduceEqDiff, rqs, cpoly_len]
  refine call_by (n) (by rfl) (by simp) ?_
  simp (disch := omega) only [wk, tis, seval, reduceCtorEq, Nat.reduceEqDiff, rqs, cpoly_len]
  first | exact log_by (by kernel_rfl) | refine ⟨log_by (by kernel_rfl), ?_⟩
  try rfl
theorem good2_ok {a b : List Rat} (ha : QB 9 3 a) (hb : QB 9 3 b) : AC Tryz.prog 30 [.iv (.sl [[.sl (rats (a.map crat))], [.sl (rats (b.map crat))]])] none [ci 0] := by
  have g : ∀ {a : List Rat}, QB 9 3 a → AC Tryz.prog 68 [cqc a] none [cb true] := fun {a} ha => by
    have h := qgood_ok (a.map crat) (ha.gq.bq.mono (by omega) (by omega))
    rwa [show gd (a.map crat) = true from gd_iff.mpr fun r hr => by
      obtain ⟨c, _, rfl⟩ := List.mem_map.1 hr
      exact nv_crat0 c] at h
  have g1 := g ha
  have g2 := g hb
  refine AC.by_walk (rs := [.tmp 2]) ords Tryz.func30 (by rfl) (by rfl) (by rfl) (by rfl) (by rfl) ?_
  simp (disch := omega) only [wk, tis, seval, reduceCtorEq, Nat.reduceEqDiff, rqs, cpoly_len]
  refine aloop_by (fun f H => ∃ (i : Nat), i ≤ 2 ∧ f 7 = .iv (.int .i64 i) ∧ f 6 = .iv (.int .i64 2) ∧ f 5 = .iv (.sl [[.sl (rats (a.map crat))], [.sl (rats (b.map crat))]])) (fun f H => (2 - intAt f 7).toNat) ?_ ?_
  · refine ⟨0, by omega, ?_⟩
    simp (disch := omega) only [wk, tis, seval, reduceCtorEq, Nat.reduceEqDiff, rqs, cpoly_len]
  rintro f H ⟨i, hi, hF⟩
  rw [intAt_of hF.1]
  simp (disch := omega) only [wk, tis, seval, reduceCtorEq, Nat.reduceEqDiff, rqs, cpoly_len, hF]
  rcases (show i = 0 ∨ i = 1 ∨ i = 2 by omega) with e | e | e
  · have h : (i : Int) < 2 := by omega
    have hg : [[IV.sl (rats (a.map crat))], [IV.sl (rats (b.map crat))]].getD i [] = [IV.sl (rats (a.map crat))] := by rw [e]; rfl
    simp (disch := omega) only [wk, tis, seval, reduceCtorEq, Nat.reduceEqDiff, rqs, cpoly_len, hF, h, hg]
    refine call_by (g1) (by first | rfl | (simp only [tocvs, tocv, hF]; rfl) | (simp only [tocvs, tocv, toboxes, tobox, updH_at, Nat.reduceEqDiff, ↓reduceIte, hF]; rfl)) (by simp) ?_
    simp (disch := omega) only [wk, tis, seval, reduceCtorEq, Nat.reduceEqDiff, rqs, cpoly_len, hF]
    refine ⟨⟨i + 1, by omega, ?_⟩, by omega⟩
    try (repeat' apply And.intro) <;> first | rfl | omega
  · have h : (i : Int) < 2 := by omega
    have hg : [[IV.sl (rats (a.map crat))], [IV.sl (rats (b.map crat))]].getD i [] = [IV.sl (rats (b.map crat))] := by rw [e]; rfl
    simp (disch := omega) only [wk, tis, seval, reduceCtorEq, Nat.reduceEqDiff, rqs, cpoly_len, hF, h, hg]
    refine call_by (g2) (by first | rfl | (simp only [tocvs, tocv, hF]; rfl) | (simp only [tocvs, tocv, toboxes, tobox, updH_at, Nat.reduceEqDiff, ↓reduceIte, hF]; rfl)) (by simp) ?_
    simp (disch := omega) only [wk, tis, seval, reduceCtorEq, Nat.reduceEqDiff, rqs, cpoly_len, hF]
    refine ⟨⟨i + 1, by omega, ?_⟩, by omega⟩
    try (repeat' apply And.intro) <;> first | rfl | omega
  · have h : ¬ (i : Int) < 2 := by omega
    simp (disch := omega) only [wk, tis, seval, reduceCtorEq, Nat.reduceEqDiff, rqs, cpoly_len, hF, h]
    try rfl
def bR0 : Nat → List Rat
  | 0 => [-2, 1]
  | 1 => [-1, 0, 1]
  | 2 => [-2, 1]
  | _ => [3]
def bR1 : Nat → List Rat
  | 0 => [-1, 0, 1]
  | 1 => [-2, 1]
  | 2 => [3]
  | _ => []
def bU0 : Nat → List Rat
  | 0 => []
  | 1 => [1]
  | 2 => []
  | _ => [1]
def bU1 : Nat → List Rat
  | 0 => [1]
  | 1 => []
  | 2 => [1]
  | _ => [2 / 3, -1 / 3]
theorem bez_ok : AC Tryz.prog 9 [cqc [-1, 0, 1], cqc [-2, 1]] none [cqc [1], cqc [1 / 3], cqc [-2 / 3, -1 / 3], ci 0] := by
  have sm : ∀ l : List Rat, (l.length ≤ 9 ∧ ∀ c ∈ l, qz c ≤ 3) → QB 9 3 l := fun l h => ⟨h.1, h.2⟩
  have sp := sm [-1, 0, 1] (by decide +kernel)
  have sq := sm [-2, 1] (by decide +kernel)
  have s0 := sm [] (by decide +kernel)
  have s1 := sm [1] (by decide +kernel)
  have s2 := sm [2, 1] (by decide +kernel)
  have s3 := sm [3] (by decide +kernel)
  have s4 := sm [-2 / 3, 1 / 3] (by decide +kernel)
  have s5 := sm [1 / 3] (by decide +kernel)
  have s6 := sm [-1 / 3, 0, 1 / 3] (by decide +kernel)
  have s7 := sm [4 / 3, 0, -1 / 3] (by decide +kernel)
  have gd2 := good2_ok sp sq
  have n1 := normc sp (by decide +kernel)
  have n2 := normc sq (by decide +kernel)
  have zo := zOf_ok 1 (by omega) (by omega)
  have no := nof_ok 1 (by simp only [W]; omega)
  have mo := qmono_ok (crat 1) 0 (szq_crat (by rw [qz_one]; omega)) (nv_crat0 _) (by omega)
  rw [qv_crat, show cqp (monoq 1 0) = cqc [1] from congrArg cqw (by rw [cqs, show trimq (monoq 1 0) = [1] by decide +kernel])] at mo
  have d0 := divc (a := [-2, 1]) (b := [-1, 0, 1]) (q := []) (r := [-2, 1]) (n := 0) (dv_dec (by decide +kernel)) sq sp (by decide +kernel) (by decide +kernel)
  have d1 := divc (a := [-1, 0, 1]) (b := [-2, 1]) (q := [2, 1]) (r := [3]) (n := 2) (dv_dec (by decide +kernel)) sp sq (by decide +kernel) (by decide +kernel)
  have d2 := divc (a := [-2, 1]) (b := [3]) (q := [-2 / 3, 1 / 3]) (r := []) (n := 2) (dv_dec (by decide +kernel)) sq s3 (by decide +kernel) (by decide +kernel)
  have m0 := mulc (a := []) (b := [1]) (c := []) s0 s1 (by decide +kernel)
  have m1 := mulc (a := [2, 1]) (b := []) (c := []) s2 s0 (by decide +kernel)
  have m2 := mulc (a := [-2 / 3, 1 / 3]) (b := [1]) (c := [-2 / 3, 1 / 3]) s4 s1 (by decide +kernel)
  have b0 := subc (a := []) (b := []) (c := []) s0 s0 (by decide +kernel)
  have b1 := subc (a := [1]) (b := []) (c := [1]) s1 s0 (by decide +kernel)
  have b2 := subc (a := []) (b := [-2 / 3, 1 / 3]) (c := [2 / 3, -1 / 3]) s0 s4 (by decide +kernel)
  have ld := leadc (a := [3]) (x := 3) (n := 0) s3 (by decide +kernel) (by decide +kernel)
  have g1 := scalec (a := [3]) (k := 1 / 3) (c := [1]) s3 (by decide +kernel) (by decide +kernel)
  have g2 := scalec (a := [1]) (k := 1 / 3) (c := [1 / 3]) s1 (by decide +kernel) (by decide +kernel)
  have d3 := divc (a := [-2, 1]) (b := [1]) (q := [-2, 1]) (r := []) (n := 2) (dv_dec (by decide +kernel)) sq s1 (by decide +kernel) (by decide +kernel)
  have d4 := divc (a := [1 / 3]) (b := [-2, 1]) (q := []) (r := [1 / 3]) (n := 0) (dv_dec (by decide +kernel)) s5 sq (by decide +kernel) (by decide +kernel)
  have m3 := mulc (a := [1 / 3]) (b := [-1, 0, 1]) (c := [-1 / 3, 0, 1 / 3]) s5 sp (by decide +kernel)
  have b3 := subc (a := [1]) (b := [-1 / 3, 0, 1 / 3]) (c := [4 / 3, 0, -1 / 3]) s1 s6 (by decide +kernel)
  have d5 := divc (a := [4 / 3, 0, -1 / 3]) (b := [-2, 1]) (q := [-2 / 3, -1 / 3]) (r := []) (n := 2) (dv_dec (by decide +kernel)) s7 sq (by decide +kernel) (by decide +kernel)
  refine AC.by_walk (rs := [.tmp 4, .tmp 5, .tmp 6, .tmp 7]) ords Tryz.func9 (by rfl) (by rfl) (by rfl) (by rfl) (by rfl) ?_
  simp (disch := omega) only [wk, tis, seval, reduceCtorEq, Nat.reduceEqDiff, rqs, cpoly_len]
  refine call_by (gd2) (by rfl) (by simp) ?_
  simp (disch := omega) only [wk, tis, seval, reduceCtorEq, Nat.reduceEqDiff, rqs, cpoly_len]
  refine call_by (n1) (by rfl) (by simp) ?_
  simp (disch := omega) only [wk, tis, seval, reduceCtorEq, Nat.reduceEqDiff, rqs, cpoly_len]
  refine call_by (n2) (by rfl) (by simp) ?_
  simp (disch := omega) only [wk, tis, seval, reduceCtorEq, Nat.reduceEqDiff, rqs, cpoly_len]
  refine call_by (zo) (by rfl) (by simp) ?_
  simp (disch := omega) only [wk, tis, seval, reduceCtorEq, Nat.reduceEqDiff, rqs, cpoly_len]
  refine call_by (no) (by rfl) (by simp) ?_
  simp (disch := omega) only [wk, tis, seval, reduceCtorEq, Nat.reduceEqDiff, rqs, cpoly_len]
  refine call_by (mo) (by rfl) (by simp) ?_
  simp (disch := omega) only [wk, tis, seval, reduceCtorEq, Nat.reduceEqDiff, rqs, cpoly_len]
  refine aloop_w (.nilv 13 (by simp (disch := omega) only [wk, tis, seval, reduceCtorEq, Nat.reduceEqDiff, rqs, cpoly_len]) (.refl _ _)) (fun f H => ∃ j : Nat, j ≤ 3 ∧ f 0 = .iv (.sl (rats (([-1, 0, 1] : List Rat).map crat))) ∧ f 1 = .iv (.sl (rats (([-2, 1] : List Rat).map crat))) ∧ f 11 = .iv (.sl (rats ((bR0 j).map crat))) ∧ f 12 = .iv (.sl (rats ((bR1 j).map crat))) ∧ f 13 = .iv (.sl (rats ((bU0 j).map crat))) ∧ f 14 = .iv (.sl (rats ((bU1 j).map crat)))) (fun f H => match f 12 with | .iv (.sl l) => l.length | _ => 0) ?_ ?_
  · refine ⟨0, by omega, ?_⟩
    simp (disch := omega) only [wk, tis, seval, reduceCtorEq, Nat.reduceEqDiff, rqs, cpoly_len]
    try (repeat' apply And.intro) <;> first | rfl | omega
  rintro f H ⟨j, hj, hF⟩
  rcases (show j = 0 ∨ j = 1 ∨ j = 2 ∨ j = 3 by omega) with rfl | rfl | rfl | rfl
  · simp only [bR0, bR1, bU0, bU1] at hF
    have hl : (0 : Int) < ((([-1, 0, 1] : List Rat).map crat).length : Int) := by decide
    have hmu : (match f 12 with | .iv (.sl l) => l.length | _ => 0) = 3 := by rw [hF.2.2.2.1]; rfl
    rw [hmu]
    simp (disch := omega) only [wk, tis, seval, reduceCtorEq, Nat.reduceEqDiff, rqs, cpoly_len, hF, hl]
    refine call_by (d0) (by first | rfl | (simp only [tocvs, tocv, hF]; rfl) | (simp only [tocvs, tocv, toboxes, tobox, updH_at, Nat.reduceEqDiff, ↓reduceIte, hF]; rfl)) (by simp) ?_
    simp (disch := omega) only [wk, tis, seval, reduceCtorEq, Nat.reduceEqDiff, rqs, cpoly_len, hF]
    refine call_by (m0) (by first | rfl | (simp only [tocvs, tocv, hF]; rfl) | (simp only [tocvs, tocv, toboxes, tobox, updH_at, Nat.reduceEqDiff, ↓reduceIte, hF]; rfl)) (by simp) ?_
    simp (disch := omega) only [wk, tis, seval, reduceCtorEq, Nat.reduceEqDiff, rqs, cpoly_len, hF]
    refine call_by (b0) (by first | rfl | (simp only [tocvs, tocv, hF]; rfl) | (simp only [tocvs, tocv, toboxes, tobox, updH_at, Nat.reduceEqDiff, ↓reduceIte, hF]; rfl)) (by simp) ?_
    simp (disch := omega) only [wk, tis, seval, reduceCtorEq, Nat.reduceEqDiff, rqs, cpoly_len, hF]
    refine ⟨1, by omega, ?_⟩
    try (repeat' apply And.intro) <;> first | rfl | omega
  · simp only [bR0, bR1, bU0, bU1] at hF
    have hl : (0 : Int) < ((([-2, 1] : List Rat).map crat).length : Int) := by decide
    have hmu : (match f 12 with | .iv (.sl l) => l.length | _ => 0) = 2 := by rw [hF.2.2.2.1]; rfl
    rw [hmu]
    simp (disch := omega) only [wk, tis, seval, reduceCtorEq, Nat.reduceEqDiff, rqs, cpoly_len, hF, hl]
    refine call_by (d1) (by first | rfl | (simp only [tocvs, tocv, hF]; rfl) | (simp only [tocvs, tocv, toboxes, tobox, updH_at, Nat.reduceEqDiff, ↓reduceIte, hF]; rfl)) (by simp) ?_
    simp (disch := omega) only [wk, tis, seval, reduceCtorEq, Nat.reduceEqDiff, rqs, cpoly_len, hF]
    refine call_by (m1) (by first | rfl | (simp only [tocvs, tocv, hF]; rfl) | (simp only [tocvs, tocv, toboxes, tobox, updH_at, Nat.reduceEqDiff, ↓reduceIte, hF]; rfl)) (by simp) ?_
    simp (disch := omega) only [wk, tis, seval, reduceCtorEq, Nat.reduceEqDiff, rqs, cpoly_len, hF]
    refine call_by (b1) (by first | rfl | (simp only [tocvs, tocv, hF]; rfl) | (simp only [tocvs, tocv, toboxes, tobox, updH_at, Nat.reduceEqDiff, ↓reduceIte, hF]; rfl)) (by simp) ?_
    simp (disch := omega) only [wk, tis, seval, reduceCtorEq, Nat.reduceEqDiff, rqs, cpoly_len, hF]
    refine ⟨2, by omega, ?_⟩
    try (repeat' apply And.intro) <;> first | rfl | omega
  · simp only [bR0, bR1, bU0, bU1] at hF
    have hl : (0 : Int) < ((([3] : List Rat).map crat).length : Int) := by decide
    have hmu : (match f 12 with | .iv (.sl l) => l.length | _ => 0) = 1 := by rw [hF.2.2.2.1]; rfl
    rw [hmu]
    simp (disch := omega) only [wk, tis, seval, reduceCtorEq, Nat.reduceEqDiff, rqs, cpoly_len, hF, hl]
    refine call_by (d2) (by first | rfl | (simp only [tocvs, tocv, hF]; rfl) | (simp only [tocvs, tocv, toboxes, tobox, updH_at, Nat.reduceEqDiff, ↓reduceIte, hF]; rfl)) (by simp) ?_
    simp (disch := omega) only [wk, tis, seval, reduceCtorEq, Nat.reduceEqDiff, rqs, cpoly_len, hF]
    refine call_by (m2) (by first | rfl | (simp only [tocvs, tocv, hF]; rfl) | (simp only [tocvs, tocv, toboxes, tobox, updH_at, Nat.reduceEqDiff, ↓reduceIte, hF]; rfl)) (by simp) ?_
    simp (disch := omega) only [wk, tis, seval, reduceCtorEq, Nat.reduceEqDiff, rqs, cpoly_len, hF]
    refine call_by (b2) (by first | rfl | (simp only [tocvs, tocv, hF]; rfl) | (simp only [tocvs, tocv, toboxes, tobox, updH_at, Nat.reduceEqDiff, ↓reduceIte, hF]; rfl)) (by simp) ?_
    simp (disch := omega) only [wk, tis, seval, reduceCtorEq, Nat.reduceEqDiff, rqs, cpoly_len, hF]
    refine ⟨3, by omega, ?_⟩
    try (repeat' apply And.intro) <;> first | rfl | omega
  · simp only [bR0, bR1, bU0, bU1] at hF
    have hl : ¬ (0 : Int) < ((([] : List Rat).map crat).length : Int) := by decide
    simp (disch := omega) only [wk, tis, seval, reduceCtorEq, Nat.reduceEqDiff, rqs, cpoly_len, hF, hl]
    refine call_by (ld) (by first | rfl | (simp only [tocvs, tocv, hF]; rfl) | (simp only [tocvs, tocv, toboxes, tobox, updH_at, Nat.reduceEqDiff, ↓reduceIte, hF]; rfl)) (by simp) ?_
    simp (disch := omega) only [wk, tis, seval, reduceCtorEq, Nat.reduceEqDiff, rqs, cpoly_len, hF]
    refine call_by (inv3_ok) (by first | rfl | (simp only [tocvs, tocv, hF]; rfl) | (simp only [tocvs, tocv, toboxes, tobox, updH_at, Nat.reduceEqDiff, ↓reduceIte, hF]; rfl)) (by simp) ?_
    simp (disch := omega) only [wk, tis, seval, reduceCtorEq, Nat.reduceEqDiff, rqs, cpoly_len, hF]
    refine call_by (g1) (by first | rfl | (simp only [tocvs, tocv, hF]; rfl) | (simp only [tocvs, tocv, toboxes, tobox, updH_at, Nat.reduceEqDiff, ↓reduceIte, hF]; rfl)) (by simp) ?_
    simp (disch := omega) only [wk, tis, seval, reduceCtorEq, Nat.reduceEqDiff, rqs, cpoly_len, hF]
    refine call_by (g2) (by first | rfl | (simp only [tocvs, tocv, hF]; rfl) | (simp only [tocvs, tocv, toboxes, tobox, updH_at, Nat.reduceEqDiff, ↓reduceIte, hF]; rfl)) (by simp) ?_
    simp (disch := omega) only [wk, tis, seval, reduceCtorEq, Nat.reduceEqDiff, rqs, cpoly_len, hF]
    refine call_by (d3) (by first | rfl | (simp only [tocvs, tocv, hF]; rfl) | (simp only [tocvs, tocv, toboxes, tobox, updH_at, Nat.reduceEqDiff, ↓reduceIte, hF]; rfl)) (by simp) ?_
    simp (disch := omega) only [wk, tis, seval, reduceCtorEq, Nat.reduceEqDiff, rqs, cpoly_len, hF]
    refine call_by (d4) (by first | rfl | (simp only [tocvs, tocv, hF]; rfl) | (simp only [tocvs, tocv, toboxes, tobox, updH_at, Nat.reduceEqDiff, ↓reduceIte, hF]; rfl)) (by simp) ?_
    simp (disch := omega) only [wk, tis, seval, reduceCtorEq, Nat.reduceEqDiff, rqs, cpoly_len, hF]
    refine call_by (m3) (by first | rfl | (simp only [tocvs, tocv, hF]; rfl) | (simp only [tocvs, tocv, toboxes, tobox, updH_at, Nat.reduceEqDiff, ↓reduceIte, hF]; rfl)) (by simp) ?_
    simp (disch := omega) only [wk, tis, seval, reduceCtorEq, Nat.reduceEqDiff, rqs, cpoly_len, hF]
    refine call_by (b3) (by first | rfl | (simp only [tocvs, tocv, hF]; rfl) | (simp only [tocvs, tocv, toboxes, tobox, updH_at, Nat.reduceEqDiff, ↓reduceIte, hF]; rfl)) (by simp) ?_
    simp (disch := omega) only [wk, tis, seval, reduceCtorEq, Nat.reduceEqDiff, rqs, cpoly_len, hF]
    refine call_by (d5) (by first | rfl | (simp only [tocvs, tocv, hF]; rfl) | (simp only [tocvs, tocv, toboxes, tobox, updH_at, Nat.reduceEqDiff, ↓reduceIte, hF]; rfl)) (by simp) ?_
    simp (disch := omega) only [wk, tis, seval, reduceCtorEq, Nat.reduceEqDiff, rqs, cpoly_len, hF]
    try exact ⟨rfl, rfl, rfl⟩
theorem fixed14_ok : AC Tryz.prog 4 [] none [cb true] := by
  have lim : ∀ l : List Int, (l.length ≤ 9 ∧ ∀ z ∈ l, z.natAbs < 10) → (AC Tryz.prog 20 [cis l] none [cp l]) ∧ RP 9 1 (cn l) := fun l h => by
    refine ⟨tP_ok l (by omega) (fun z hz => by have := h.2 z hz; omega), ?_⟩
    exact rp_cn (small_pb l 9 h.1 fun z hz => by have := h.2 z hz; simp only [W]; omega)
  have mo : ∀ {l : List RI}, RP 9 1 l → RP 9 2 l := fun h => h.mono (Nat.le_refl _) (by omega)
  obtain ⟨p1, r1⟩ := lim [-1, 0, 1] (by decide)
  obtain ⟨p2, r2⟩ := lim [1, -2, 1] (by decide)
  obtain ⟨p3, r3⟩ := lim [-1, 1] (by decide)
  obtain ⟨p4, r4⟩ := lim [0, 0, 0, -1, 1] (by decide)
  obtain ⟨p5, r5⟩ := lim [0, 1] (by decide)
  obtain ⟨p6, r6⟩ := lim [0, 2] (by decide)
  obtain ⟨p7, r7⟩ := lim [4] (by decide)
  obtain ⟨p8, r8⟩ := lim [-2, 1] (by decide)
  obtain ⟨p9, r9⟩ := lim [1] (by decide)
  have g := pgcd_g (p := cn [-1, 0, 1]) (q := cn [1, -2, 1]) (A := [-1, 0, 1]) (B := [1, -2, 1]) 9 2 (r1.mono (by omega) (by omega)) (r2.mono (by omega) (by omega)) (ps_cn _) (ps_cn _) (by decide) (by decide) (by omega) ez2
  rw [show cp (gcdp [-1, 0, 1] [1, -2, 1]) = cp [-1, 1] from cp_ps (by rw [← ps_trimz, show trimz (gcdp [-1, 0, 1] [1, -2, 1]) = [-1, 1] by decide +kernel])] at g
  have s3 := tSame_ok (cn [-1, 1]) (cn [-1, 1]) (r3.mono (by omega) (by omega)) (r3.mono (by omega) (by omega))
  rw [decide_eq_true rfl] at s3
  have e4 : pv (cn [0, 0, 0, -1, 1]) = [0, 0, 0, -1, 1] := pv_cnt (by decide)
  have e5 : pv (cn [0, 1]) = [0, 1] := pv_cnt (by decide)
  have e6 : pv (cn [0, 2]) = [0, 2] := pv_cnt (by decide)
  have e7 : pv (cn [4]) = [4] := pv_cnt (by decide)
  have t := ptimes_ok (cn [0, 0, 0, -1, 1]) (cn [0, 1]) (mo r4) (mo r5)
  rw [e4, e5, if_neg (by decide), if_neg (by decide), show tmn [0, 1] 9 (npr [0, 0, 0, -1, 1]) = 3 by decide +kernel, show cp (tmr [0, 1] 9 (npr [0, 0, 0, -1, 1])) = cp [-1, 1] from cp_ps (by rw [← ps_trimz, show trimz (tmr [0, 1] 9 (npr [0, 0, 0, -1, 1])) = [-1, 1] by decide +kernel]), show ((3 : Nat) : Int) = 3 from rfl] at t
  have x := pexact_ok (cn [0, 2]) (cn [4]) 1 (r6.mono (by omega) (by omega)) (r7.mono (by omega) (by omega)) (by omega)
  rw [e6, e7, show exv [0, 2] [4] = [] by decide +kernel, show exe [0, 2] [4] = 4 by decide +kernel] at x
  have ov : ∀ l : List Int, RP 9 1 (cn l) → trimz l = l → AC Tryz.prog 19 [cp l] none [cqc (qp l)] := fun l h e => by
    have o := overq_ok (cn l) (h.mono (by omega) (by omega))
    rwa [pv_cnt e, show cqp (qp l) = cqc (qp l) from congrArg cqw (by rw [cqs, qp_trim, e])] at o
  have o1 := ov [-1, 0, 1] r1 (by decide)
  have o8 := ov [-2, 1] r8 (by decide)
  have o9 := ov [1] r9 (by decide)
  rw [show qp [-1, 0, 1] = [-1, 0, 1] by decide +kernel] at o1
  rw [show qp [-2, 1] = [-2, 1] by decide +kernel] at o8
  rw [show qp [1] = [1] by decide +kernel] at o9
  have bz := bez_ok
  have sq : ∀ l : List Rat, (l.length ≤ 9 ∧ ∀ c ∈ l, qz c ≤ 3) → AC Tryz.prog 11 [cqc l, cqc l] none [cb true] := fun l h => by
    have hb : QB 9 3 l := ⟨h.1, h.2⟩
    exact sameq11_self (l.map crat) (hb.gq.bq.mono (by omega) (by omega))
  have q1 := sq [1] (by decide +kernel)
  have q2 := sq [1 / 3] (by decide +kernel)
  have q3 := sq [-2 / 3, -1 / 3] (by decide +kernel)
  have h1 := hP_ok 1 3 (by omega) (by omega) (by omega) (by omega)
  have h2 := hP_ok (-2) 3 (by omega) (by omega) (by omega) (by omega)
  have h3 := hP_ok (-1) 3 (by omega) (by omega) (by omega) (by omega)
  rw [show ((1 : Int) : Rat) / ((3 : Nat) : Rat) = 1 / 3 by decide +kernel] at h1
  rw [show ((-2 : Int) : Rat) / ((3 : Nat) : Rat) = -2 / 3 by decide +kernel] at h2
  rw [show ((-1 : Int) : Rat) / ((3 : Nat) : Rat) = -1 / 3 by decide +kernel] at h3
  have i1 : [[IV.int .i64 (-1)], [IV.int .i64 0], [IV.int .i64 1]] = ilims [-1, 0, 1] := rfl
  have i2 : [[IV.int .i64 1], [IV.int .i64 (-2)], [IV.int .i64 1]] = ilims [1, -2, 1] := rfl
  have i3 : [[IV.int .i64 (-1)], [IV.int .i64 1]] = ilims [-1, 1] := rfl
  have i4 : [[IV.int .i64 0], [IV.int .i64 0], [IV.int .i64 0], [IV.int .i64 (-1)], [IV.int .i64 1]] = ilims [0, 0, 0, -1, 1] := rfl
  have i5 : [[IV.int .i64 0], [IV.int .i64 1]] = ilims [0, 1] := rfl
  have i6 : [[IV.int .i64 0], [IV.int .i64 2]] = ilims [0, 2] := rfl
  have i7 : [[IV.int .i64 4]] = ilims [4] := rfl
  have i8 : [[IV.int .i64 (-2)], [IV.int .i64 1]] = ilims [-2, 1] := rfl
  have i9 : [[IV.int .i64 1]] = ilims [1] := rfl
  have hir : ∀ l : List Int, (∀ r ∈ ilims l, r.length = 1) ↔ True := fun l => by simp [ilims]
  have hr5 : List.range 5 = [0, 1, 2, 3, 4] := rfl
  have j1 : [qrow (crat (1 / 3))] = rats (([1 / 3] : List Rat).map crat) := rfl
  have j2 : [qrow (crat (-2 / 3)), qrow (crat (-1 / 3))] = rats (([-2 / 3, -1 / 3] : List Rat).map crat) := rfl
  refine AC.by_walk (rs := [.tmp 0]) ords Tryz.func4 (by rfl) (by rfl) (by rfl) (by rfl) (by rfl) ?_
  simp (disch := omega) only [wk, tis, seval, reduceCtorEq, Nat.reduceEqDiff, rqs, cpoly_len]
  refine call_by (p1) (by first | rfl | (simp only [tocvs, tocv, i1, i2, hir]; rfl) | (simp only [tocvs, tocv, toboxes, tobox, updH_at, Nat.reduceEqDiff, ↓reduceIte, i1, i2, hir]; rfl)) (by simp) ?_
  simp (disch := omega) only [wk, tis, seval, reduceCtorEq, Nat.reduceEqDiff, rqs, cpoly_len, i1, i2, hir]
  refine call_by (p2) (by first | rfl | (simp only [tocvs, tocv, i1, i2, i3, hir]; rfl) | (simp only [tocvs, tocv, toboxes, tobox, updH_at, Nat.reduceEqDiff, ↓reduceIte, i1, i2, i3, hir]; rfl)) (by simp) ?_
  simp (disch := omega) only [wk, tis, seval, reduceCtorEq, Nat.reduceEqDiff, rqs, cpoly_len, i1, i2, i3, hir]
  refine call_by (g) (by first | rfl | (simp only [tocvs, tocv, i3, hir]; rfl) | (simp only [tocvs, tocv, toboxes, tobox, updH_at, Nat.reduceEqDiff, ↓reduceIte, i3, hir]; rfl)) (by simp) ?_
  simp (disch := omega) only [wk, tis, seval, reduceCtorEq, Nat.reduceEqDiff, rqs, cpoly_len, i3, hir]
  refine call_by (p3) (by first | rfl | (simp only [tocvs, tocv, i3, hir]; rfl) | (simp only [tocvs, tocv, toboxes, tobox, updH_at, Nat.reduceEqDiff, ↓reduceIte, i3, hir]; rfl)) (by simp) ?_
  simp (disch := omega) only [wk, tis, seval, reduceCtorEq, Nat.reduceEqDiff, rqs, cpoly_len, i3, hir]
  refine call_by (s3) (by first | rfl | (simp only [tocvs, tocv, i4, i5, hir, hr5]; rfl) | (simp only [tocvs, tocv, toboxes, tobox, updH_at, Nat.reduceEqDiff, ↓reduceIte, i4, i5, hir, hr5]; rfl)) (by simp) ?_
  simp (disch := omega) only [wk, tis, seval, reduceCtorEq, Nat.reduceEqDiff, rqs, cpoly_len, i4, i5, hir, hr5]
  refine call_by (p4) (by first | rfl | (simp only [tocvs, tocv, i4, i5, hir, hr5]; rfl) | (simp only [tocvs, tocv, toboxes, tobox, updH_at, Nat.reduceEqDiff, ↓reduceIte, i4, i5, hir, hr5]; rfl)) (by simp) ?_
  simp (disch := omega) only [wk, tis, seval, reduceCtorEq, Nat.reduceEqDiff, rqs, cpoly_len, i4, i5, hir, hr5]
  refine call_by (p5) (by first | rfl | (simp only [tocvs, tocv, i5, hir]; rfl) | (simp only [tocvs, tocv, toboxes, tobox, updH_at, Nat.reduceEqDiff, ↓reduceIte, i5, hir]; rfl)) (by simp) ?_
  simp (disch := omega) only [wk, tis, seval, reduceCtorEq, Nat.reduceEqDiff, rqs, cpoly_len, i5, hir]
  refine call_by (t) (by first | rfl | (simp only [tocvs, tocv, i6, i7, hir]; rfl) | (simp only [tocvs, tocv, toboxes, tobox, updH_at, Nat.reduceEqDiff, ↓reduceIte, i6, i7, hir]; rfl)) (by simp) ?_
  simp (disch := omega) only [wk, tis, seval, reduceCtorEq, Nat.reduceEqDiff, rqs, cpoly_len, i6, i7, hir]
  refine call_by (p6) (by first | rfl | (simp only [tocvs, tocv, i6, i7, hir]; rfl) | (simp only [tocvs, tocv, toboxes, tobox, updH_at, Nat.reduceEqDiff, ↓reduceIte, i6, i7, hir]; rfl)) (by simp) ?_
  simp (disch := omega) only [wk, tis, seval, reduceCtorEq, Nat.reduceEqDiff, rqs, cpoly_len, i6, i7, hir]
  refine call_by (p7) (by first | rfl | (simp only [tocvs, tocv, i7, hir]; rfl) | (simp only [tocvs, tocv, toboxes, tobox, updH_at, Nat.reduceEqDiff, ↓reduceIte, i7, hir]; rfl)) (by simp) ?_
  simp (disch := omega) only [wk, tis, seval, reduceCtorEq, Nat.reduceEqDiff, rqs, cpoly_len, i7, hir]
  refine call_by (x) (by first | rfl | (simp only [tocvs, tocv, i1, hir]; rfl) | (simp only [tocvs, tocv, toboxes, tobox, updH_at, Nat.reduceEqDiff, ↓reduceIte, i1, hir]; rfl)) (by simp) ?_
  simp (disch := omega) only [wk, tis, seval, reduceCtorEq, Nat.reduceEqDiff, rqs, cpoly_len, i1, hir]
  refine call_by (p1) (by first | rfl | (simp only [tocvs, tocv, i1, i8, hir]; rfl) | (simp only [tocvs, tocv, toboxes, tobox, updH_at, Nat.reduceEqDiff, ↓reduceIte, i1, i8, hir]; rfl)) (by simp) ?_
  simp (disch := omega) only [wk, tis, seval, reduceCtorEq, Nat.reduceEqDiff, rqs, cpoly_len, i1, i8, hir]
  refine call_by (o1) (by first | rfl | (simp only [tocvs, tocv, i8, hir]; rfl) | (simp only [tocvs, tocv, toboxes, tobox, updH_at, Nat.reduceEqDiff, ↓reduceIte, i8, hir]; rfl)) (by simp) ?_
  simp (disch := omega) only [wk, tis, seval, reduceCtorEq, Nat.reduceEqDiff, rqs, cpoly_len, i8, hir]
  refine call_by (p8) (by first | rfl | (simp only [tocvs, tocv, i8, hir]; rfl) | (simp only [tocvs, tocv, toboxes, tobox, updH_at, Nat.reduceEqDiff, ↓reduceIte, i8, hir]; rfl)) (by simp) ?_
  simp (disch := omega) only [wk, tis, seval, reduceCtorEq, Nat.reduceEqDiff, rqs, cpoly_len, i8, hir]
  refine call_by (o8) (by rfl) (by simp) ?_
  simp (disch := omega) only [wk, tis, seval, reduceCtorEq, Nat.reduceEqDiff, rqs, cpoly_len]
  refine call_by (bz) (by first | rfl | (simp only [tocvs, tocv, i3, hir]; rfl) | (simp only [tocvs, tocv, toboxes, tobox, updH_at, Nat.reduceEqDiff, ↓reduceIte, i3, hir]; rfl)) (by simp) ?_
  simp (disch := omega) only [wk, tis, seval, reduceCtorEq, Nat.reduceEqDiff, rqs, cpoly_len, i3, hir]
  refine call_by (p3) (by first | rfl | (simp only [tocvs, tocv, i3, hir]; rfl) | (simp only [tocvs, tocv, toboxes, tobox, updH_at, Nat.reduceEqDiff, ↓reduceIte, i3, hir]; rfl)) (by simp) ?_
  simp (disch := omega) only [wk, tis, seval, reduceCtorEq, Nat.reduceEqDiff, rqs, cpoly_len, i3, hir]
  refine call_by (s3) (by first | rfl | (simp only [tocvs, tocv, i9, hir]; rfl) | (simp only [tocvs, tocv, toboxes, tobox, updH_at, Nat.reduceEqDiff, ↓reduceIte, i9, hir]; rfl)) (by simp) ?_
  simp (disch := omega) only [wk, tis, seval, reduceCtorEq, Nat.reduceEqDiff, rqs, cpoly_len, i9, hir]
  refine call_by (p9) (by first | rfl | (simp only [tocvs, tocv, i9, hir]; rfl) | (simp only [tocvs, tocv, toboxes, tobox, updH_at, Nat.reduceEqDiff, ↓reduceIte, i9, hir]; rfl)) (by simp) ?_
  simp (disch := omega) only [wk, tis, seval, reduceCtorEq, Nat.reduceEqDiff, rqs, cpoly_len, i9, hir]
  refine call_by (o9) (by rfl) (by simp) ?_
  simp (disch := omega) only [wk, tis, seval, reduceCtorEq, Nat.reduceEqDiff, rqs, cpoly_len]
  refine call_by (q1) (by rfl) (by simp) ?_
  simp (disch := omega) only [wk, tis, seval, reduceCtorEq, Nat.reduceEqDiff, rqs, cpoly_len]
  refine call_by (h1) (by first | rfl | (simp only [tocvs, tocv, j1]; rfl) | (simp only [tocvs, tocv, toboxes, tobox, updH_at, Nat.reduceEqDiff, ↓reduceIte, j1]; rfl)) (by simp) ?_
  simp (disch := omega) only [wk, tis, seval, reduceCtorEq, Nat.reduceEqDiff, rqs, cpoly_len, j1]
  refine call_by (q2) (by rfl) (by simp) ?_
  simp (disch := omega) only [wk, tis, seval, reduceCtorEq, Nat.reduceEqDiff, rqs, cpoly_len]
  refine call_by (h2) (by rfl) (by simp) ?_
  simp (disch := omega) only [wk, tis, seval, reduceCtorEq, Nat.reduceEqDiff, rqs, cpoly_len]
  refine call_by (h3) (by first | rfl | (simp only [tocvs, tocv, j2]; rfl) | (simp only [tocvs, tocv, toboxes, tobox, updH_at, Nat.reduceEqDiff, ↓reduceIte, j2]; rfl)) (by simp) ?_
  simp (disch := omega) only [wk, tis, seval, reduceCtorEq, Nat.reduceEqDiff, rqs, cpoly_len, j2]
  refine call_by (q3) (by rfl) (by simp) ?_
  simp (disch := omega) only [wk, tis, seval, reduceCtorEq, Nat.reduceEqDiff, rqs, cpoly_len]
  try rfl
end Go.Proofs.YtenlbifnhdmnnaaGreat

namespace Go.Proofs.YtenlbifnhdmnnaaGreat
open Go Go.Proofs Go.AL
set_option linter.unusedSimpArgs false
set_option linter.unusedVariables false
theorem CB.subq {D E n m M N : Nat} {A B : List Rat} (hA : CB D n M A) (hB : CB E m N B) : CB (D * E) (max n m) (M + N + 1) (subq A B) where
  d := Nat.mul_ne_zero hA.d hB.d
  w := by
    have h1 := AL.wd_mul_len D E
    have h2 := hA.w
    have h3 := hB.w
    omega
  l := by
    simp only [Go.Proofs.YtenlbifnhdmnnaaGreat.subq, zipq_len]
    have := hA.l
    have := hB.l
    omega
  c := fun c hc => by
    obtain ⟨k, hk, rfl⟩ := List.getElem_of_mem hc
    rw [← cfq_lt hk, cfq_subq, Rat.sub_eq_add_neg]
    have h1 := CD.up hA.d hB.d hB.w (CD.cf hA k)
    have h2 := (CD.up hB.d hA.d hA.w (CD.cf hB k)).neg
    rw [Nat.mul_comm] at h2
    exact (h1.add h2).mono (by omega)
theorem CB.scl {D n M K : Nat} {A : List Rat} {c : Rat} (hA : CB D n M A) (hc : qz c ≤ K) : CB (D * c.den) n (M + K) (sclq c A) where
  d := Nat.mul_ne_zero hA.d c.den_nz
  w := by
    have h1 := AL.wd_mul_len D c.den
    have h2 := hA.w
    have h3 := (qz_parts c).2
    omega
  l := by
    have h1 : (sclq c A).length = A.length := by simp [sclq]
    have := hA.l
    omega
  c := fun x hx => by
    obtain ⟨k, hk, rfl⟩ := List.getElem_of_mem hx
    rw [← cfq_lt hk, cfq_sclq]
    exact (CD.mul hA.d c.den_nz (CD.cf hA k) (CD.ofRat c)).mono (by have := (qz_parts c).1; omega)
def CX (n M : Nat) (q : List Rat) : Prop := ∃ D, CB D n M q
theorem CX.mono {n M m N : Nat} {q : List Rat} (h : CX n M q) (hn : n ≤ m) (hM : M ≤ N) : CX m N q := by
  obtain ⟨D, h⟩ := h
  exact ⟨D, h.mono hn hM⟩
theorem CX.qb {n M : Nat} {q : List Rat} (h : CX n M q) : QB n M q := by
  obtain ⟨D, h⟩ := h
  exact h.qb
theorem CX.trim {n M : Nat} {q : List Rat} (h : CX n M q) : CX n M (trimq q) := by
  obtain ⟨D, h⟩ := h
  exact ⟨D, h.trim⟩
theorem CX.sub {n m M N : Nat} {A B : List Rat} (hA : CX n M A) (hB : CX m N B) : CX (max n m) (M + N + 1) (subq A B) := by
  obtain ⟨D, hA⟩ := hA
  obtain ⟨E, hB⟩ := hB
  exact ⟨_, hA.subq hB⟩
theorem CX.mul {n m M N : Nat} {A B : List Rat} (hA : CX n M A) (hB : CX m N B) : CX (n + m) (M + N + (n + m)) (mulq A B) := by
  obtain ⟨D, hA⟩ := hA
  obtain ⟨E, hB⟩ := hB
  exact ⟨_, hA.mulq hB⟩
theorem CX.scl {n M K : Nat} {A : List Rat} {c : Rat} (hA : CX n M A) (hc : qz c ≤ K) : CX n (M + K) (sclq c A) := by
  obtain ⟨D, hA⟩ := hA
  exact ⟨_, hA.scl hc⟩
theorem QB.cx {n k : Nat} {q : List Rat} (h : QB n k q) : CX n (n * k + k + 1) q := h.cb
theorem CX.shrink {n m M : Nat} {q : List Rat} (h : CX n M q) (hl : q.length ≤ m) : CX m M q := by
  obtain ⟨D, h⟩ := h
  exact ⟨D, h.d, h.w, hl, h.c⟩
def qnt (X Y : List Rat) : Nat → Nat → Nat
  | 0, k => k
  | f + 1, k => if Y.length ≤ (dit X Y k).length then qnt X Y f (k + 1) else k
theorem qnt_eq {X Y : List Rat} {n : Nat} (en : (dit X Y n).length < Y.length) (hj : ∀ j, j < n → Y.length ≤ (dit X Y j).length) : ∀ f k, k ≤ n → n ≤ k + f → qnt X Y f k = n
  | 0, k, h1, h2 => by rw [qnt]; omega
  | f + 1, k, h1, h2 => by
    rw [qnt]
    by_cases h : k = n
    · rw [h, if_neg (by omega)]
    · rw [if_pos (hj k (by omega))]
      exact qnt_eq en hj f (k + 1) (by omega) (by omega)
def qnn (X Y : List Rat) : Nat := qnt X Y (X.length + 1) 0
def qs (X Y : List Rat) : List Rat := trimq (dqu X Y (qnn X Y))
def qr (X Y : List Rat) : List Rat := dit X Y (qnn X Y)
theorem DV.nn {X Y : List Rat} {n K : Nat} (v : DV X Y n K) : qnn X Y = n := by
  have h := dit_steps (s := X.length) v.h0 v.hb v.hj (by have := v.h0; omega)
  exact qnt_eq v.en v.hj _ _ (Nat.zero_le _) (by omega)
theorem dv_ex {X Y : List Rat} {m M : Nat} (hX : CX m M X) (hY : CX m M Y) (tX : trimq X = X) (tY : trimq Y = Y) (h0 : Y.length ≠ 0) (hm : m ≤ 1000) (hM : 1 ≤ M) (hK : M + (m + 1) * (M + 1) ≤ 2 ^ 30) : DV X Y (qnn X Y) (M + (m + 1) * (M + 1)) := by
  obtain ⟨D, hX⟩ := hX
  obtain ⟨E, hY⟩ := hY
  obtain ⟨n, v⟩ := dv_steps (s := m + 1) hX hY.clr_pb hY.qb tX tY h0 (by have := hX.l; omega) (by omega) (by omega) hM
  have e := v.nn
  rw [e]
  exact v
theorem qs_qb {X Y : List Rat} {K m : Nat} (v : DV X Y (qnn X Y) K) (hl : X.length ≤ m) : QB m (K + K) (qs X Y) ∧ trimq (qs X Y) = qs X Y := by
  have ll := dqu_len v.h0 v.hb _ v.hj
  have h0 := v.h0
  refine ⟨QB.trimq (.of (by omega) fun i => ?_), trimq_trimq _⟩
  exact dqu_size v.h0 v.hb v.za v.zb v.k1 _ (Nat.le_refl _) v.hj i
theorem qr_facts {X Y : List Rat} {K : Nat} (v : DV X Y (qnn X Y) K) : (qr X Y).length < Y.length ∧ trimq (qr X Y) = qr X Y ∧ pq X = pq (qs X Y) * pq Y + pq (qr X Y) := by
  refine ⟨v.en, dit_trim v.ta _, ?_⟩
  rw [qs, pq_trimq]
  exact pq_dit X Y _
structure QI (D S : Nat) (X Y : List Rat) : Prop where
  tx : trimq X = X
  ty : trimq Y = Y
  x : X.length ≤ D
  y : Y.length ≤ D
  s : (CX D S X ∧ CX D S Y) ∨ (Y.length < X.length ∧ CX D (EZ S (D - X.length)) X ∧ CX D (EZ S (D - X.length + 1)) Y)
theorem QI.bd {D S : Nat} {X Y : List Rat} (h : QI D S X Y) : CX D (EZ S D) X ∧ CX D (EZ S D) Y := by
  rcases h.s with ⟨a, b⟩ | ⟨l, a, b⟩
  · have : S ≤ EZ S D := EZ.mono S (i := 0) (by omega)
    exact ⟨a.mono (Nat.le_refl _) this, b.mono (Nat.le_refl _) this⟩
  · have := h.x
    exact ⟨a.mono (Nat.le_refl _) (EZ.mono S (by omega)), b.mono (Nat.le_refl _) (EZ.mono S (by omega))⟩
theorem qr_cx {X Y : List Rat} {D M N K : Nat} (v : DV X Y (qnn X Y) K) (hX : CX D M X) (hY : CX D N Y) : CX D (M + (X.length + 1 - Y.length) * (N + 1)) (qr X Y) := by
  obtain ⟨E, hX⟩ := hX
  obtain ⟨F, hY⟩ := hY
  obtain ⟨G, h⟩ := dit_cb hX hY.clr_pb v.h0 v.hb (qnn X Y) v.hj
  have hs := dit_steps (s := X.length + 1 - Y.length) v.h0 v.hb v.hj (by omega)
  have := Nat.mul_le_mul_right (N + 1) hs
  exact ⟨G, h.mono (Nat.le_refl _) (by omega)⟩
theorem QI.step {D S K : Nat} {X Y : List Rat} (h : QI D S X Y) (v : DV X Y (qnn X Y) K) : QI D S Y (qr X Y) := by
  obtain ⟨r1, r2, _⟩ := qr_facts v
  have hx := h.x
  have hy := h.y
  have h0 := v.h0
  refine ⟨h.ty, r2, h.y, by omega, .inr ⟨r1, ?_⟩⟩
  have norm : Y.length < X.length → CX D (EZ S (D - X.length)) X → CX D (EZ S (D - X.length + 1)) Y → CX D (EZ S (D - Y.length)) Y ∧ CX D (EZ S (D - Y.length + 1)) (qr X Y) := fun l a b => by
    refine ⟨b.mono (Nat.le_refl _) (EZ.mono S (by omega)), (qr_cx v a b).mono (Nat.le_refl _) ?_⟩
    have g := EZ.grow S (D - X.length) (X.length - Y.length - 1)
    rw [show X.length - Y.length - 1 + 2 = X.length + 1 - Y.length by omega, show D - X.length + 2 + (X.length - Y.length - 1) = D - Y.length + 1 by omega] at g
    exact g
  rcases h.s with ⟨a, b⟩ | ⟨l, a, b⟩
  · by_cases l : Y.length < X.length
    · exact norm l (a.mono (Nat.le_refl _) (EZ.mono S (i := 0) (by omega))) (b.mono (Nat.le_refl _) (EZ.mono S (i := 0) (by omega)))
    · refine ⟨b.mono (Nat.le_refl _) (EZ.mono S (i := 0) (by omega)), (qr_cx v a b).mono (Nat.le_refl _) ?_⟩
      have g : EZ S 1 ≤ EZ S (D - Y.length + 1) := EZ.mono S (by omega)
      have e1 : EZ S 1 = 2 * S + 1 := rfl
      have hd : X.length + 1 - Y.length ≤ 1 := by omega
      have := Nat.mul_le_mul_right (S + 1) hd
      omega
  · exact norm l a b
def UB : Nat → Nat
  | 0 => 1
  | j + 1 => 2 * UB j + 700000
theorem UB.mono (j : Nat) : UB j ≤ UB (j + 1) := by rw [UB]; omega
theorem UB.le {i j : Nat} (h : i ≤ j) : UB i ≤ UB j := by
  induction h with
  | refl => exact Nat.le_refl _
  | step _ ih => exact Nat.le_trans ih (UB.mono _)
def unext (X Y U V : List Rat) : List Rat := trimq (subq U (mulq (qs X Y) V))
def qeu : Nat → List Rat → List Rat → List Rat → List Rat → List Rat × List Rat
  | 0, X, _, U, _ => (X, U)
  | n + 1, X, Y, U, V => if Y.length = 0 then (X, U) else qeu n Y (qr X Y) V (unext X Y U V)
theorem ez97 : EZ 9 7 = 4079 := by decide
theorem QI.dv {X Y : List Rat} (h : QI 7 9 X Y) (h0 : Y.length ≠ 0) : DV X Y (qnn X Y) 36719 := by
  obtain ⟨a, b⟩ := h.bd
  rw [ez97] at a b
  exact dv_ex a b h.tx h.ty h0 (by omega) (by omega) (by omega)
structure QU (j : Nat) (U V : List Rat) : Prop where
  tu : trimq U = U
  tv : trimq V = V
  u : CX (8 * j + 1) (UB j) U
  v : CX (8 * j + 1) (UB j) V
theorem QU.step {j : Nat} {X Y U V : List Rat} (h : QU j U V) (q : QI 7 9 X Y) (h0 : Y.length ≠ 0) (hj : j ≤ 8) : QU (j + 1) V (unext X Y U V) := by
  obtain ⟨s1, s2⟩ := qs_qb (q.dv h0) q.x
  refine ⟨h.tv, trimq_trimq _, h.v.mono (by omega) (UB.mono j), ?_⟩
  have m := s1.cx.mul h.v
  refine ((h.u.sub m).trim).mono (by omega) ?_
  rw [UB]
  omega
theorem ub8 : UB 9 ≤ 400000000 := by decide
end Go.Proofs.YtenlbifnhdmnnaaGreat

namespace Go.Proofs.YtenlbifnhdmnnaaGreat
open Go Go.Proofs Go.AL
set_option linter.unusedSimpArgs false
set_option linter.unusedVariables false
theorem crat_inv {x : Rat} (h : x ≠ 0) : (canon (sg (decide (x.num < 0)) x.den), wd x.num.natAbs) = crat (1 / x) := by
  have hn : x.num ≠ 0 := fun e => h (Rat.num_eq_zero.mp e)
  have hd : x.num.natAbs ≠ 0 := by omega
  have hg : Nat.gcd (sg (decide (x.num < 0)) x.den).natAbs x.num.natAbs = 1 := by
    have e : (sg (decide (x.num < 0)) x.den).natAbs = x.den := by
      unfold sg
      split <;> omega
    rw [e, Nat.gcd_comm]
    exact x.reduced
  have e1 : rq (sg (decide (x.num < 0)) x.den) x.num.natAbs = (canon (sg (decide (x.num < 0)) x.den), wd x.num.natAbs) := by
    unfold rq
    rw [hg, Nat.div_one]
    simp
  rw [← e1, rq_crat hd]
  congr 1
  rw [Rat.mkRat_eq_div, ← inv_parts h]
  unfold sg
  by_cases hs : x.num < 0
  · rw [decide_eq_true hs]
    simp only [↓reduceIte]
    have e2 : ((x.num.natAbs : Nat) : Rat) = -(x.num : Rat) := by
      rw [← Rat.intCast_natCast, ← Rat.intCast_neg]
      congr 1
      omega
    have hq : (x.num : Rat) ≠ 0 := fun e => hn (Rat.intCast_inj.mp (by rw [e]; rfl))
    rw [e2, Rat.intCast_neg]
    have h1 := Rat.div_mul_cancel (a := ((x.den : Int) : Rat)) hq
    have h2 := Rat.div_mul_cancel (a := -((x.den : Int) : Rat)) (b := -(x.num : Rat)) (by grind)
    grind
  · rw [decide_eq_false hs]
    simp only [Bool.false_eq_true, ↓reduceIte]
    have e2 : ((x.num.natAbs : Nat) : Rat) = (x.num : Rat) := by
      rw [← Rat.intCast_natCast]
      congr 1
      omega
    rw [e2]
theorem invq_ok {x : Rat} (h : x ≠ 0) (hz : qz x ≤ 2 ^ 34) : AC Tryz.prog 33 [cqz x] none [cqz (1 / x)] := by
  have hp := qz_parts x
  have z := znat_ok (decide (x.num < 0)) x.den (by omega)
  have n := norm_ok (wd x.num.natAbs) (lim_wd _) (by have : (wd x.num.natAbs).length = zl x.num := rfl; omega)
  rw [nv_wd] at n
  have E2 : cqz (1 / x) = .agg (prow (canon (sg (decide (x.num < 0)) x.den)) ++ [.sl (lims (wd x.num.natAbs))]) := by
    show CV.agg (qrow (crat (1 / x))) = _
    rw [← crat_inv h]
    try rfl
  have E1 : cqz x = .agg [.bool (decide (x.num < 0)), .sl (lims (wd x.num.natAbs)), .sl (lims (wd x.den))] := rfl
  rw [E1, E2]
  refine AC.by_walk (rs := [.cell 2 46]) ords Tryz.func33 (by rfl) (by rfl) (by rfl) (by rfl) (by rfl) ?_
  simp (disch := omega) only [wk, tis, seval, reduceCtorEq, Nat.reduceEqDiff, rqs, cpoly_len]
  refine ⟨tmps_by (by kernel_rfl), ?_⟩
  refine call_by (z) (by rfl) (by simp) ?_
  simp (disch := omega) only [wk, tis, seval, reduceCtorEq, Nat.reduceEqDiff, rqs, cpoly_len]
  refine call_by (n) (by rfl) (by simp) ?_
  simp (disch := omega) only [wk, tis, seval, reduceCtorEq, Nat.reduceEqDiff, rqs, cpoly_len]
  first | exact log_by (by kernel_rfl) | refine ⟨log_by (by kernel_rfl), ?_⟩
  try rfl
theorem pmulx {A B : List Rat} {n m M N : Nat} (hA : CX n M A) (hB : CX m N B) (hn : n ≤ 1000) (hm : m ≤ 1000) (hM : M ≤ 2 ^ 32) (hN : N ≤ 2 ^ 32) : AC Tryz.prog 35 [cqw (A.map crat), cqw (B.map crat)] none [cqp (mulq A B)] := by
  obtain ⟨D, cA⟩ := (hA.mono (show n ≤ 1000 by omega) (show M ≤ 2 ^ 32 by omega)).trim
  obtain ⟨E, cB⟩ := (hB.mono (show m ≤ 1000 by omega) (show N ≤ 2 ^ 32 by omega)).trim
  have m := qpmul_cb (A.map crat) (B.map crat) D E 1000 (2 ^ 32) (hA.qb.gq.mono (by omega) (by omega)) (hB.qb.gq.mono (by omega) (by omega)) (by rw [qvs_map]; exact cA) (by rw [qvs_map]; exact cB) (by omega) (by omega) (by omega)
  rw [qvs_map, qvs_map] at m
  refine AC.by_walk (rs := [.tmp 4]) ords Tryz.func35 (by rfl) (by rfl) (by rfl) (by rfl) (by rfl) ?_
  simp (disch := omega) only [wk, tis, seval, reduceCtorEq, Nat.reduceEqDiff, rqs, cpoly_len]
  refine call_by (m) (by rfl) (by simp) ?_
  simp (disch := omega) only [wk, tis, seval, reduceCtorEq, Nat.reduceEqDiff, rqs, cpoly_len]
  try rfl
theorem psubx {A B : List Rat} {n m M N : Nat} (hA : CX n M A) (hB : CX m N B) (hn : n ≤ 1000) (hm : m ≤ 1000) (hM : M ≤ 2 ^ 32) (hN : N ≤ 2 ^ 32) : AC Tryz.prog 39 [cqw (A.map crat), cqw (B.map crat)] none [cqp (subq A B)] := by
  have m := qpsub_ok (A.map crat) (B.map crat) (2 ^ 32) (hA.qb.gq.mono (by omega) hM) (hB.qb.gq.mono (by omega) hN) (by omega) (by omega)
  rw [qvs_map, qvs_map] at m
  refine AC.by_walk (rs := [.tmp 4]) ords Tryz.func39 (by rfl) (by rfl) (by rfl) (by rfl) (by rfl) ?_
  simp (disch := omega) only [wk, tis, seval, reduceCtorEq, Nat.reduceEqDiff, rqs, cpoly_len]
  refine call_by (m) (by rfl) (by simp) ?_
  simp (disch := omega) only [wk, tis, seval, reduceCtorEq, Nat.reduceEqDiff, rqs, cpoly_len]
  try rfl
theorem pdivx {X Y : List Rat} {n m M N K : Nat} (v : DV X Y (qnn X Y) K) (hX : CX n M X) (hY : CX m N Y) (hn : n ≤ 1000) (hm : m ≤ 1000) (hM : M ≤ 2 ^ 32) (hN : N ≤ 2 ^ 32) : AC Tryz.prog 38 [cqw (X.map crat), cqw (Y.map crat)] none [cqw ((qs X Y).map crat), cqw ((qr X Y).map crat), ci 0] := by
  have m := qdiv_ok (X.map crat) (Y.map crat) (hX.qb.gq.mono (by omega) hM) (hY.qb.gq.mono (by omega) hN) (qnn X Y) K (by rw [qvs_map, qvs_map, v.ta, v.tb]; exact v)
  rw [qvs_map, qvs_map, v.ta, v.tb] at m
  exact m
theorem pscalex {A : List Rat} {k : Rat} {n M : Nat} (hA : CX n M A) (hk : qz k ≤ 2 ^ 32) (hn : n ≤ 1000) (hM : M ≤ 2 ^ 32) : AC Tryz.prog 40 [cqw (A.map crat), cqz k] none [cqp (sclq k A), ci 0] := by
  have m := qscale_ok (A.map crat) (crat k) (2 ^ 32) (hA.qb.gq.mono (by omega) hM) (szq_crat hk) (nv_crat0 _) (by omega) (by omega)
  rwa [qvs_map, qv_crat] at m
def lq (A : List Rat) : Rat := cfq A (A.length - 1)
theorem lq_ne {A : List Rat} (t : trimq A = A) (h0 : A.length ≠ 0) : lq A ≠ 0 := lead_ne t h0
theorem pleadx {A : List Rat} {n M : Nat} (hA : CX n M A) (t : trimq A = A) (h0 : A.length ≠ 0) (hn : n ≤ 1000) (hM : M ≤ 2 ^ 32) : AC Tryz.prog 34 [cqw (A.map crat)] none [cqz (lq A)] := by
  have gA : GQ (2 ^ 40) (2 ^ 38) (A.map crat) := hA.qb.gq.mono (by omega) (by omega)
  have hl := hA.qb.1
  have d := qdeg_ok (A.map crat) gA
  rw [qvs_map, trimq_full t, show ((A.length : Nat) : Int) - 1 = ((A.length - 1 : Nat) : Int) by omega] at d
  have dg : AC Tryz.prog 49 [cqw (A.map crat)] none [ci (A.length - 1 : Nat)] := by
    refine AC.by_walk (rs := [.tmp 2]) ords Tryz.func49 (by rfl) (by rfl) (by rfl) (by rfl) (by rfl) ?_
    simp (disch := omega) only [wk, tis, seval, reduceCtorEq, Nat.reduceEqDiff, rqs, cpoly_len]
    refine call_by (d) (by rfl) (by simp) ?_
    simp (disch := omega) only [wk, tis, seval, reduceCtorEq, Nat.reduceEqDiff, rqs, cpoly_len]
    try rfl
  have c := qCoef_ok (A.map crat) (A.length - 1 : Nat) gA
  rw [qvs_map, if_neg (by omega), Int.toNat_natCast, show cfq A (A.length - 1) = lq A from rfl] at c
  refine AC.by_walk (rs := [.cell 2 46]) ords Tryz.func34 (by rfl) (by rfl) (by rfl) (by rfl) (by rfl) ?_
  simp (disch := omega) only [wk, tis, seval, reduceCtorEq, Nat.reduceEqDiff, rqs, cpoly_len]
  refine call_by (dg) (by rfl) (by simp) ?_
  simp (disch := omega) only [wk, tis, seval, reduceCtorEq, Nat.reduceEqDiff, rqs, cpoly_len]
  refine call_by (c) (by rfl) (by simp) ?_
  simp (disch := omega) only [wk, tis, seval, reduceCtorEq, Nat.reduceEqDiff, rqs, cpoly_len]
  try rfl
theorem pdegx {A : List Rat} {n M : Nat} (hA : CX n M A) (t : trimq A = A) (hn : n ≤ 1000) (hM : M ≤ 2 ^ 32) : AC Tryz.prog 49 [cqw (A.map crat)] none [ci ((A.length : Int) - 1)] := by
  have gA : GQ (2 ^ 40) (2 ^ 38) (A.map crat) := hA.qb.gq.mono (by omega) (by omega)
  have d := qdeg_ok (A.map crat) gA
  rw [qvs_map, trimq_full t] at d
  refine AC.by_walk (rs := [.tmp 2]) ords Tryz.func49 (by rfl) (by rfl) (by rfl) (by rfl) (by rfl) ?_
  simp (disch := omega) only [wk, tis, seval, reduceCtorEq, Nat.reduceEqDiff, rqs, cpoly_len]
  refine call_by (d) (by rfl) (by simp) ?_
  simp (disch := omega) only [wk, tis, seval, reduceCtorEq, Nat.reduceEqDiff, rqs, cpoly_len]
  try rfl
theorem pgood_ok (l : List (List RQ)) (hl : l.length ≤ 2) (h : ∀ p ∈ l, BQ (2 ^ 40) (2 ^ 40) p) (rows : List (List IV)) (hr : rows = l.map fun p => [.sl (rats p)]) : AC Tryz.prog 30 [.iv (.sl rows)] none [ci (if l.all gd then 0 else 1)] := by
  have hrl : rows.length = l.length := by rw [hr, List.length_map]
  have ht : ∀ i, i < l.length → (l.take (i + 1)).all gd = ((l.take i).all gd && gd (l.getD i [])) := fun i hi => by
    rw [List.take_add_one, List.getElem?_eq_getElem hi, List.all_append]
    simp [List.getD, hi]
  refine AC.by_walk (rs := [.tmp 2]) ords Tryz.func30 (by rfl) (by rfl) (by rfl) (by rfl) (by rfl) ?_
  simp (disch := omega) only [wk, tis, seval, reduceCtorEq, Nat.reduceEqDiff, rqs, cpoly_len]
  refine aloop_by (fun f H => ∃ (i : Nat), i ≤ l.length ∧ (l.take i).all gd = true ∧ f 7 = .iv (.int .i64 i) ∧ f 6 = .iv (.int .i64 l.length) ∧ f 5 = .iv (.sl rows)) (fun f H => (l.length - intAt f 7).toNat) ?_ ?_
  · refine ⟨0, by omega, by simp, ?_⟩
    simp (disch := omega) only [wk, tis, seval, reduceCtorEq, Nat.reduceEqDiff, rqs, cpoly_len, hrl]
  rintro f H ⟨i, hi, hg, hF⟩
  rw [intAt_of hF.1]
  simp (disch := omega) only [wk, tis, seval, reduceCtorEq, Nat.reduceEqDiff, rqs, cpoly_len, hF]
  by_cases hlt' : i < l.length
  · have hlt : (i : Int) < (l.length : Int) := by omega
    have e := ht i hlt'
    rw [hg, Bool.true_and] at e
    have hat : rows.getD i [] = [.sl (rats (l.getD i []))] := by rw [hr]; simp [List.getD, hlt']
    have hm : l.getD i [] ∈ l := by
      rw [List.getD, List.getElem?_eq_getElem hlt', Option.getD_some]
      exact List.getElem_mem hlt'
    have g := qgood_ok (l.getD i []) (h _ hm)
    by_cases hgd : gd (l.getD i []) = true
    · rw [hgd] at g e
      simp (disch := omega) only [wk, tis, seval, reduceCtorEq, Nat.reduceEqDiff, rqs, cpoly_len, hF, hlt, hrl, hat]
      refine call_by (g) (by first | rfl | (simp only [tocvs, tocv, hF, hrl]; rfl) | (simp only [tocvs, tocv, toboxes, tobox, updH_at, Nat.reduceEqDiff, ↓reduceIte, hF, hrl]; rfl)) (by simp) ?_
      simp (disch := omega) only [wk, tis, seval, reduceCtorEq, Nat.reduceEqDiff, rqs, cpoly_len, hF, hrl]
      refine ⟨⟨i + 1, by omega, e, ?_⟩, by omega⟩
      try (repeat' apply And.intro) <;> first | rfl | omega
    · have hgd' : gd (l.getD i []) = false := by simpa using hgd
      rw [hgd'] at g
      have hall : l.all gd = false := by
        rw [← Bool.not_eq_true, List.all_eq_true]
        intro hc
        exact hgd (hc _ hm)
      rw [hall]
      simp (disch := omega) only [wk, tis, seval, reduceCtorEq, Nat.reduceEqDiff, rqs, cpoly_len, hF, hlt, hrl, hat]
      refine call_by (g) (by first | rfl | (simp only [tocvs, tocv, hF, hrl]; rfl) | (simp only [tocvs, tocv, toboxes, tobox, updH_at, Nat.reduceEqDiff, ↓reduceIte, hF, hrl]; rfl)) (by simp) ?_
      simp (disch := omega) only [wk, tis, seval, reduceCtorEq, Nat.reduceEqDiff, rqs, cpoly_len, hF, hrl]
      try rfl
  · have hlt : ¬ (i : Int) < (l.length : Int) := by omega
    rw [List.take_of_length_le (by omega)] at hg
    rw [hg]
    simp (disch := omega) only [wk, tis, seval, reduceCtorEq, Nat.reduceEqDiff, rqs, cpoly_len, hF, hlt]
    try rfl
def DQ (Z A : List Rat) : Prop := ∃ S, pq A = pq S * pq Z
theorem DQ.refl (A : List Rat) : DQ A A := ⟨[1], by
  have : pq [1] = 1 := PQ.ext fun k => by
    rw [pq_c, PQ.c_one]
    cases k with
    | zero => rfl
    | succ k => rw [cfq_ge (by show 1 ≤ k + 1; omega), if_neg (by omega)]
  rw [this, PQ.one_mul]⟩
theorem DQ.nil (A : List Rat) : DQ A [] := ⟨[], by rw [pq_nil, PQ.zero_mul]⟩
theorem DQ.lin {Z X Y R S : List Rat} (h1 : DQ Z Y) (h2 : DQ Z R) (e : pq X = pq S * pq Y + pq R) : DQ Z X := by
  obtain ⟨a, ea⟩ := h1
  obtain ⟨b, eb⟩ := h2
  exact ⟨addq (mulq S a) b, by rw [e, ea, eb, pq_addq, pq_mulq, PQ.add_mul, PQ.mul_assoc]⟩
theorem DQ.trans {Z Y X : List Rat} (h1 : DQ Z Y) (h2 : DQ Y X) : DQ Z X := by
  obtain ⟨a, ea⟩ := h1
  obtain ⟨b, eb⟩ := h2
  exact ⟨mulq b a, by rw [eb, ea, pq_mulq, PQ.mul_assoc]⟩
theorem DQ.scl (c : Rat) (A : List Rat) : DQ A (sclq c A) := ⟨[c], by
  have : pq [c] = PQ.C c := PQ.ext fun k => by
    rw [pq_c, PQ.c_C]
    cases k with
    | zero => rfl
    | succ k => rw [cfq_ge (by show 1 ≤ k + 1; omega), if_neg (by omega)]
  rw [this, pq_sclq]⟩
theorem DQ.len {Z A : List Rat} (h : DQ Z A) (tZ : trimq Z = Z) (tA : trimq A = A) (h0 : A.length ≠ 0) : Z.length ≠ 0 ∧ Z.length ≤ A.length := by
  obtain ⟨S, e⟩ := h
  have hc : ∀ k, cfq A k = cfq (mulq S Z) k := fun k => by
    have := congrArg (fun f => PQ.c f k) e
    rwa [← pq_mulq] at this
  have ht : tzq A = tzq (mulq S Z) := tzq_eq_of_cf hc
  rw [trimq_full tA] at ht
  have hS : tzq S ≠ 0 := fun x => h0 (by rw [ht]; exact tzq_mulq_zero (.inl x))
  have hZ : tzq Z ≠ 0 := fun x => h0 (by rw [ht]; exact tzq_mulq_zero (.inr x))
  rw [tzq_mulq hS hZ, trimq_full tZ] at ht
  rw [trimq_full tZ] at hZ
  exact ⟨hZ, by omega⟩
theorem DQ.trim {Z A : List Rat} : DQ (trimq Z) A ↔ DQ Z A := by
  unfold DQ
  rw [pq_trimq]
end Go.Proofs.YtenlbifnhdmnnaaGreat

namespace Go.Proofs.YtenlbifnhdmnnaaGreat
open Go Go.Proofs Go.AL
set_option linter.unusedSimpArgs false
set_option linter.unusedVariables false
def bzs (A B : List Rat) : List Rat × List Rat := qeu 9 B A [] [1]
def bzg (A B : List Rat) : List Rat := if B.length = 0 then (if A.length = 0 then [] else trimq (mulq [1 / lq A] A)) else trimq (sclq (1 / lq (bzs A B).1) (bzs A B).1)
def bzw (A B : List Rat) : List Rat := trimq (sclq (1 / lq (bzs A B).1) (bzs A B).2)
def bzu (A B : List Rat) : List Rat := if B.length = 0 then (if A.length = 0 then [] else [1 / lq A]) else qr (bzw A B) (qs B (bzg A B))
def bzr (A B : List Rat) : List Rat := trimq (subq (bzg A B) (trimq (mulq (bzu A B) A)))
def bzv (A B : List Rat) : List Rat := if B.length = 0 then [] else qs (bzr A B) B
theorem few_cx {p : List RQ} (h : GQ 7 1 p) : CX 7 9 (trimq (qvs p)) := by
  obtain ⟨D, c⟩ := h.qb.trimq.cb
  exact ⟨D, c⟩
theorem cx_nil (n M : Nat) (h : 1 ≤ M) : CX n M [] := ⟨1, by decide, Nat.le_trans (wd_len_le.mpr (by rw [Nat.pow_one]; simp only [W]; omega)) h, Nat.zero_le _, fun c hc => nomatch hc⟩
theorem cx_one (n M : Nat) (hn : 1 ≤ n) (hM : 1 ≤ M) : CX n M [1] := ⟨1, CB.one_list.mono hn hM⟩
theorem qu0 : QU 0 [] [1] := ⟨by decide +kernel, by decide +kernel, cx_nil _ _ (by decide), cx_one _ _ (by decide) (by decide)⟩
structure QE (A B X U : List Rat) : Prop where
  t : trimq X = X
  l : X.length ≠ 0
  l7 : X.length ≤ 7
  c : CX 7 4079 X
  tu : trimq U = U
  cu : CX 73 400000000 U
  d : DQ X A ∧ DQ X B
theorem qeu_end {A B : List Rat} : ∀ (n j : Nat) (X Y U V : List Rat), QI 7 9 X Y → QU j U V → Y.length + 1 ≤ n → j + n ≤ 9 → X.length ≠ 0 → (∀ Z, DQ Z X → DQ Z Y → DQ Z A ∧ DQ Z B) → QE A B (qeu n X Y U V).1 (qeu n X Y U V).2
  | 0, j, X, Y, U, V, _, _, h, _, _, _ => absurd h (by omega)
  | n + 1, j, X, Y, U, V, q, u, h, hj, h0, hd => by
    rw [qeu]
    split
    · rename_i hy
      have b := q.bd.1
      rw [ez97] at b
      have hu := UB.le (show j ≤ 9 by omega)
      have u9 := ub8
      have e : Y = [] := List.length_eq_zero_iff.mp hy
      exact ⟨q.tx, h0, q.x, b, u.tu, u.u.mono (by omega) (by omega), hd X (.refl X) (by rw [e]; exact .nil X)⟩
    · rename_i hy
      have v := q.dv hy
      obtain ⟨r1, r2, r3⟩ := qr_facts v
      exact qeu_end n (j + 1) Y (qr X Y) V (unext X Y U V) (q.step v) (u.step q hy (by omega)) (by omega) (by omega) hy fun Z z1 z2 => hd Z (z1.lin z2 r3) z1
theorem qi_start {A B : List Rat} (hA : CX 7 9 A) (hB : CX 7 9 B) (tA : trimq A = A) (tB : trimq B = B) : QI 7 9 B A := ⟨tB, tA, hB.qb.1, hA.qb.1, .inl ⟨hB, hA⟩⟩
theorem bzs_end {A B : List Rat} (hA : CX 7 9 A) (hB : CX 7 9 B) (tA : trimq A = A) (tB : trimq B = B) (hb : B.length ≠ 0) : QE A B (bzs A B).1 (bzs A B).2 :=
  qeu_end 9 0 B A [] [1] (qi_start hA hB tA tB) qu0 (by have := hA.qb.1; omega) (by omega) hb fun Z z1 z2 => ⟨z2, z1⟩
structure QF (A B : List Rat) : Prop where
  kz : qz (1 / lq (bzs A B).1) ≤ 4079
  k0 : lq (bzs A B).1 ≠ 0
  lz : qz (lq (bzs A B).1) ≤ 4079
  g : CX 7 8158 (bzg A B)
  gt : trimq (bzg A B) = bzg A B
  gl : (bzg A B).length ≠ 0 ∧ (bzg A B).length ≤ B.length
  w : CX 73 400004079 (bzw A B)
  wt : trimq (bzw A B) = bzw A B
  m : DV B (bzg A B) (qnn B (bzg A B)) 73430
  mc : CX 7 1174881 (qs B (bzg A B))
  mt : trimq (qs B (bzg A B)) = qs B (bzg A B)
  ml : (qs B (bzg A B)).length ≠ 0
  u : DV (bzw A B) (qs B (bzg A B)) (qnn (bzw A B) (qs B (bzg A B))) 487000000
  ul : (bzu A B).length < (qs B (bzg A B)).length
  ut : trimq (bzu A B) = bzu A B
  uc : CX 7 487000000 (bzu A B)
  r : CX 14 487100000 (bzr A B)
  v : DV (bzr A B) B (qnn (bzr A B) B) 488000000
  gd : DQ (bzg A B) A ∧ DQ (bzg A B) B
theorem qf_of {A B : List Rat} (hA : CX 7 9 A) (hB : CX 7 9 B) (tA : trimq A = A) (tB : trimq B = B) (hb : B.length ≠ 0) : QF A B := by
  have E := bzs_end hA hB tA tB hb
  have eg : bzg A B = trimq (sclq (1 / lq (bzs A B).1) (bzs A B).1) := by rw [bzg, if_neg hb]
  have eu : bzu A B = qr (bzw A B) (qs B (bzg A B)) := by rw [bzu, if_neg hb]
  have l0 := lq_ne E.t E.l
  have lz : qz (lq (bzs A B).1) ≤ 4079 := E.c.qb.cz (by omega) _
  have kz : qz (1 / lq (bzs A B).1) ≤ 4079 := Nat.le_trans (qz_inv _) lz
  have g : CX 7 8158 (bzg A B) := by rw [eg]; exact (E.c.scl kz).trim
  have gt : trimq (bzg A B) = bzg A B := by rw [eg]; exact trimq_trimq _
  have w : CX 73 400004079 (bzw A B) := (E.cu.scl kz).trim
  have wt : trimq (bzw A B) = bzw A B := trimq_trimq _
  have k0 : 1 / lq (bzs A B).1 ≠ 0 := fun e => by
    have h1 := Rat.div_mul_cancel (a := 1) l0
    rw [e, Rat.zero_mul] at h1
    exact absurd h1 (by decide)
  have gX : DQ (bzg A B) (bzs A B).1 := by
    rw [eg, DQ.trim]
    refine ⟨[lq (bzs A B).1], PQ.ext fun k => ?_⟩
    rw [← pq_mulq, pq_c, pq_c]
    have h1 := Rat.div_mul_cancel (a := 1) l0
    have h2 : cfq (mulq [lq (bzs A B).1] (sclq (1 / lq (bzs A B).1) (bzs A B).1)) k = lq (bzs A B).1 * cfq (sclq (1 / lq (bzs A B).1) (bzs A B).1) k := by
      have := cfq_mul_upq (lq (bzs A B).1) 0 (sclq (1 / lq (bzs A B).1) (bzs A B).1) k
      rwa [if_pos (Nat.zero_le _), Nat.sub_zero] at this
    rw [h2, cfq_sclq]
    grind
  have gd : DQ (bzg A B) A ∧ DQ (bzg A B) B := ⟨gX.trans E.d.1, gX.trans E.d.2⟩
  have gl := gd.2.len gt tB hb
  have m := dv_ex (hB.mono (Nat.le_refl _) (show 9 ≤ 8158 by omega)) g tB gt gl.1 (by omega) (by omega) (by omega)
  obtain ⟨q1, q2⟩ := qs_qb m hB.qb.1
  have mc := q1.cx
  have mq := (qr_facts m).2.2
  have ml : (qs B (bzg A B)).length ≠ 0 := by
    intro h
    have e : qs B (bzg A B) = [] := List.length_eq_zero_iff.mp h
    rw [e, pq_nil, PQ.zero_mul, PQ.zero_add] at mq
    have h2 : tzq B = tzq (qr B (bzg A B)) := tzq_eq_of_cf fun k => by
      have := congrArg (fun f => PQ.c f k) mq
      exact this
    have h3 := (qr_facts m).1
    have h4 := tzq_le (qr B (bzg A B))
    rw [trimq_full tB] at h2
    omega
  have u := dv_ex w (mc.mono (show 7 ≤ 73 by omega) (show 7 * (73430 + 73430) + (73430 + 73430) + 1 ≤ 400004079 by omega)) wt q2 ml (by omega) (by omega)
  have u' : DV (bzw A B) (qs B (bzg A B)) (qnn (bzw A B) (qs B (bzg A B))) 487000000 := by
    obtain ⟨D, hX⟩ := w
    obtain ⟨E2, hY⟩ := mc
    obtain ⟨n, v⟩ := dv_steps (s := 74) hX ((hY.clr_pb).mono (show 7 ≤ 73 by omega) (Nat.le_refl _)) ((hY.qb).mono (show 7 ≤ 73 by omega) (show _ ≤ 400004079 by omega)) wt q2 ml (by have := hX.l; omega) (by omega) (by omega) (by omega)
    have e := v.nn
    rw [e]
    exact ⟨v.la, v.lb, v.h0, v.hb, v.ta, v.tb, v.en, v.hj, fun k hk i => Nat.le_trans (v.za k hk i) (by omega), fun i => Nat.le_trans (v.zb i) (by omega), by omega, by omega⟩
  clear u
  obtain ⟨r1, r2, r3⟩ := qr_facts u'
  have ml7 := q1.1
  have uc : CX 7 487000000 (bzu A B) := by
    rw [eu]
    refine ((qr_cx u' w (mc.mono (show 7 ≤ 73 by omega) (Nat.le_refl _))).shrink (m := 7) (by omega)).mono (Nat.le_refl _) ?_
    have h1 := w.qb.1
    have h2 : (bzw A B).length + 1 - (qs B (bzg A B)).length ≤ 73 := by omega
    have := Nat.mul_le_mul_right (7 * (73430 + 73430) + (73430 + 73430) + 1 + 1) h2
    omega
  have r : CX 14 487100000 (bzr A B) := ((g.sub ((uc.mul hA).trim)).trim).mono (by omega) (by omega)
  have rt : trimq (bzr A B) = bzr A B := trimq_trimq _
  have v : DV (bzr A B) B (qnn (bzr A B) B) 488000000 := by
    obtain ⟨D, hX⟩ := r
    obtain ⟨E2, hY⟩ := hB
    obtain ⟨n, v⟩ := dv_steps (s := 15) hX ((hY.clr_pb).mono (show 7 ≤ 14 by omega) (Nat.le_refl _)) ((hY.qb).mono (show 7 ≤ 14 by omega) (show 9 ≤ 487100000 by omega)) rt tB hb (by have := hX.l; omega) (by omega) (by omega) (by omega)
    have e := v.nn
    rw [e]
    exact ⟨v.la, v.lb, v.h0, v.hb, v.ta, v.tb, v.en, v.hj, fun k hk i => Nat.le_trans (v.za k hk i) (by omega), fun i => Nat.le_trans (v.zb i) (by omega), by omega, by omega⟩
  exact ⟨kz, l0, lz, g, gt, gl, w, wt, m, mc, q2, ml, u', by rw [eu]; exact r1, by rw [eu]; exact r2, uc, r, v, gd⟩
set_option maxRecDepth 100000 in
set_option maxHeartbeats 1000000 in
theorem pbez_ok (p q : List RQ) (hp : GQ 7 1 p) (hq : GQ 7 1 q) : AC Tryz.prog 9 [cqw p, cqw q] none [cqw ((bzg (trimq (qvs p)) (trimq (qvs q))).map crat), cqw ((bzu (trimq (qvs p)) (trimq (qvs q))).map crat), cqw ((bzv (trimq (qvs p)) (trimq (qvs q))).map crat), ci 0] := by
  have hA := few_cx hp
  have hB := few_cx hq
  have tA := trimq_trimq (qvs p)
  have tB := trimq_trimq (qvs q)
  have n1 := qpnorm_ok p (hp.mono (by omega) (by omega))
  have n2 := qpnorm_ok q (hq.mono (by omega) (by omega))
  have gd2 := pgood_ok [p, q] (by simp) (by
    simp only [List.mem_cons, List.not_mem_nil, or_false, forall_eq_or_imp, forall_eq]
    exact ⟨hp.bq.mono (by omega) (by omega), hq.bq.mono (by omega) (by omega)⟩) [[.sl (rats p)], [.sl (rats q)]] rfl
  rw [if_pos (by rw [List.all_cons, List.all_cons, List.all_nil, gd_iff.mpr fun r hr => (hp.2 r hr).2, gd_iff.mpr fun r hr => (hq.2 r hr).2]; rfl)] at gd2
  rw [show cqp (qvs p) = cqw ((trimq (qvs p)).map crat) from rfl] at n1
  rw [show cqp (qvs q) = cqw ((trimq (qvs q)).map crat) from rfl] at n2
  have zo := zOf_ok 1 (by omega) (by omega)
  have no := nof_ok 1 (by simp only [W]; omega)
  have mo := qmono_ok (crat 1) 0 (szq_crat (by rw [qz_one]; omega)) (nv_crat0 _) (by omega)
  rw [qv_crat, show cqp (monoq 1 0) = cqw (([1] : List Rat).map crat) from congrArg cqw (by rw [cqs, show trimq (monoq 1 0) = [1] by decide +kernel])] at mo
  generalize trimq (qvs p) = A at *
  generalize trimq (qvs q) = B at *
  have hAl : (A.map crat).length = A.length := List.length_map _
  have hBl : (B.map crat).length = B.length := List.length_map _
  by_cases hb : B.length = 0
  · have hb' : ((B.length : Nat) : Int) = 0 := by omega
    by_cases ha : A.length = 0
    · have ha' : ((A.length : Nat) : Int) = 0 := by omega
      rw [bzg, bzu, bzv, if_pos hb, if_pos hb, if_pos hb, if_pos ha, if_pos ha]
      refine AC.by_walk (rs := [.tmp 4, .tmp 5, .tmp 6, .tmp 7]) ords Tryz.func9 (by rfl) (by rfl) (by rfl) (by rfl) (by rfl) ?_
      simp (disch := omega) only [wk, tis, seval, reduceCtorEq, Nat.reduceEqDiff, rqs, cpoly_len]
      refine call_by (gd2) (by rfl) (by simp) ?_
      simp (disch := omega) only [wk, tis, seval, reduceCtorEq, Nat.reduceEqDiff, rqs, cpoly_len]
      refine call_by (n1) (by rfl) (by simp) ?_
      simp (disch := omega) only [wk, tis, seval, reduceCtorEq, Nat.reduceEqDiff, rqs, cpoly_len]
      refine call_by (n2) (by first | rfl | (simp only [tocvs, tocv, hAl, hBl, ha', hb']; rfl) | (simp only [tocvs, tocv, toboxes, tobox, updH_at, Nat.reduceEqDiff, ↓reduceIte, hAl, hBl, ha', hb']; rfl)) (by simp) ?_
      simp (disch := omega) only [wk, tis, seval, reduceCtorEq, Nat.reduceEqDiff, rqs, cpoly_len, hAl, hBl, ha', hb']
      try rfl
    · have ha' : ¬ ((A.length : Nat) : Int) = 0 := by omega
      rw [bzg, bzu, bzv, if_pos hb, if_pos hb, if_pos hb, if_neg ha, if_neg ha]
      have l0 := lq_ne tA ha
      have lz : qz (lq A) ≤ 9 := hA.qb.cz (by omega) _
      have ld := pleadx hA tA ha (by omega) (by omega)
      have iv := invq_ok l0 (by omega)
      have kz : qz (1 / lq A) ≤ 9 := Nat.le_trans (qz_inv _) lz
      have mo2 := qmono_ok (crat (1 / lq A)) 0 (szq_crat (by omega)) (nv_crat0 _) (by omega)
      have k0 : 1 / lq A ≠ 0 := fun e => by
        have h1 := Rat.div_mul_cancel (a := 1) l0
        rw [e, Rat.zero_mul] at h1
        exact absurd h1 (by decide)
      have t1 : trimq (monoq (1 / lq A) 0) = [1 / lq A] := upq_trim k0 0
      rw [qv_crat, show cqp (monoq (1 / lq A) 0) = cqw (([1 / lq A] : List Rat).map crat) from congrArg cqw (by rw [cqs, t1])] at mo2
      have ck : CX 1 9 [1 / lq A] := ⟨_, CB.const kz⟩
      have mu := pmulx ck hA (by omega) (by omega) (by omega) (by omega)
      refine AC.by_walk (rs := [.tmp 4, .tmp 5, .tmp 6, .tmp 7]) ords Tryz.func9 (by rfl) (by rfl) (by rfl) (by rfl) (by rfl) ?_
      simp (disch := omega) only [wk, tis, seval, reduceCtorEq, Nat.reduceEqDiff, rqs, cpoly_len]
      refine call_by (gd2) (by rfl) (by simp) ?_
      simp (disch := omega) only [wk, tis, seval, reduceCtorEq, Nat.reduceEqDiff, rqs, cpoly_len]
      refine call_by (n1) (by rfl) (by simp) ?_
      simp (disch := omega) only [wk, tis, seval, reduceCtorEq, Nat.reduceEqDiff, rqs, cpoly_len]
      refine call_by (n2) (by first | rfl | (simp only [tocvs, tocv, hAl, hBl, ha', hb']; rfl) | (simp only [tocvs, tocv, toboxes, tobox, updH_at, Nat.reduceEqDiff, ↓reduceIte, hAl, hBl, ha', hb']; rfl)) (by simp) ?_
      simp (disch := omega) only [wk, tis, seval, reduceCtorEq, Nat.reduceEqDiff, rqs, cpoly_len, hAl, hBl, ha', hb']
      refine call_by (ld) (by rfl) (by simp) ?_
      simp (disch := omega) only [wk, tis, seval, reduceCtorEq, Nat.reduceEqDiff, rqs, cpoly_len]
      refine call_by (iv) (by rfl) (by simp) ?_
      simp (disch := omega) only [wk, tis, seval, reduceCtorEq, Nat.reduceEqDiff, rqs, cpoly_len]
      refine call_by (mo2) (by rfl) (by simp) ?_
      simp (disch := omega) only [wk, tis, seval, reduceCtorEq, Nat.reduceEqDiff, rqs, cpoly_len]
      refine call_by (mu) (by rfl) (by simp) ?_
      simp (disch := omega) only [wk, tis, seval, reduceCtorEq, Nat.reduceEqDiff, rqs, cpoly_len]
      try rfl
  have hb' : ¬ ((B.length : Nat) : Int) = 0 := by omega
  have F := qf_of hA hB tA tB hb
  have E := bzs_end hA hB tA tB hb
  have ld := pleadx E.c E.t E.l (by omega) (by omega)
  have iv := invq_ok F.k0 (Nat.le_trans F.lz (by omega))
  have sc1 := pscalex E.c (Nat.le_trans F.kz (by omega)) (by omega) (by omega)
  have sc2 := pscalex E.cu (Nat.le_trans F.kz (by omega)) (by omega) (by omega)
  rw [show cqp (sclq (1 / lq (bzs A B).1) (bzs A B).1) = cqw ((bzg A B).map crat) from congrArg cqw (by rw [cqs, bzg, if_neg hb])] at sc1
  rw [show cqp (sclq (1 / lq (bzs A B).1) (bzs A B).2) = cqw ((bzw A B).map crat) from rfl] at sc2
  have d1 := pdivx F.m hB F.g (by omega) (by omega) (by omega) (by omega)
  have d2 := pdivx F.u F.w F.mc (by omega) (by omega) (by omega) (by omega)
  rw [show qr (bzw A B) (qs B (bzg A B)) = bzu A B by rw [bzu, if_neg hb]] at d2
  have mu := pmulx F.uc hA (by omega) (by omega) (by omega) (by omega)
  have su := psubx F.g ((F.uc.mul hA).trim) (by omega) (by omega) (by omega) (by omega)
  rw [show cqp (subq (bzg A B) (trimq (mulq (bzu A B) A))) = cqw ((bzr A B).map crat) from rfl] at su
  have d3 := pdivx F.v F.r hB (by omega) (by omega) (by omega) (by omega)
  rw [show qs (bzr A B) B = bzv A B by rw [bzv, if_neg hb]] at d3
  have hXU : bzs A B = qeu 9 B A [] [1] := rfl
  have qi0 := qi_start hA hB tA tB
  have hAl7 := hA.qb.1
  clear F E
  generalize bzg A B = g at *
  generalize bzw A B = w at *
  generalize bzu A B = u at *
  generalize bzr A B = r at *
  generalize bzv A B = vv at *
  by_cases ha : A.length = 0
  · have ha' : ((A.length : Nat) : Int) = 0 := by omega
    refine AC.by_walk (rs := [.tmp 4, .tmp 5, .tmp 6, .tmp 7]) ords Tryz.func9 (by rfl) (by rfl) (by rfl) (by rfl) (by rfl) ?_
    simp (disch := omega) only [wk, tis, seval, reduceCtorEq, Nat.reduceEqDiff, rqs, cpoly_len]
    refine call_by (gd2) (by rfl) (by simp) ?_
    simp (disch := omega) only [wk, tis, seval, reduceCtorEq, Nat.reduceEqDiff, rqs, cpoly_len]
    refine call_by (n1) (by rfl) (by simp) ?_
    simp (disch := omega) only [wk, tis, seval, reduceCtorEq, Nat.reduceEqDiff, rqs, cpoly_len]
    refine call_by (n2) (by first | rfl | (simp only [tocvs, tocv, hAl, hBl, hb', ha']; rfl) | (simp only [tocvs, tocv, toboxes, tobox, updH_at, Nat.reduceEqDiff, ↓reduceIte, hAl, hBl, hb', ha']; rfl)) (by simp) ?_
    simp (disch := omega) only [wk, tis, seval, reduceCtorEq, Nat.reduceEqDiff, rqs, cpoly_len, hAl, hBl, hb', ha']
    refine call_by (zo) (by rfl) (by simp) ?_
    simp (disch := omega) only [wk, tis, seval, reduceCtorEq, Nat.reduceEqDiff, rqs, cpoly_len]
    refine call_by (no) (by rfl) (by simp) ?_
    simp (disch := omega) only [wk, tis, seval, reduceCtorEq, Nat.reduceEqDiff, rqs, cpoly_len]
    refine call_by (mo) (by rfl) (by simp) ?_
    simp (disch := omega) only [wk, tis, seval, reduceCtorEq, Nat.reduceEqDiff, rqs, cpoly_len]
    refine aloop_w (.nilv 13 (by simp (disch := omega) only [wk, tis, seval, reduceCtorEq, Nat.reduceEqDiff, rqs, cpoly_len]) (.refl _ _)) (fun f H => ∃ (n j : Nat) (X Y U V : List Rat), qeu n X Y U V = bzs A B ∧ Y.length + 1 ≤ n ∧ j + n ≤ 9 ∧ QI 7 9 X Y ∧ QU j U V ∧ f 0 = .iv (.sl (rats (A.map crat))) ∧ f 1 = .iv (.sl (rats (B.map crat))) ∧ f 11 = .iv (.sl (rats (X.map crat))) ∧ f 12 = .iv (.sl (rats (Y.map crat))) ∧ f 13 = .iv (.sl (rats (U.map crat))) ∧ f 14 = .iv (.sl (rats (V.map crat)))) (fun f H => match f 12 with | .iv (.sl l) => l.length | _ => 0) ?_ ?_
    · refine ⟨9, 0, B, A, [], [1], hXU.symm, by omega, by omega, qi0, qu0, ?_⟩
      simp (disch := omega) only [wk, tis, seval, reduceCtorEq, Nat.reduceEqDiff, rqs, cpoly_len]
      try exact ⟨rfl, rfl⟩
    rintro f H ⟨n, j, X, Y, U, V, hq1, hn, hj, qi, qu, hF⟩
    have hYl : (Y.map crat).length = Y.length := List.length_map _
    have hmu : (match f 12 with | .iv (.sl l) => l.length | _ => 0) = Y.length := by rw [hF.2.2.2.1]; simp only []; rw [rats_length, hYl]
    rw [hmu]
    obtain ⟨n', rfl⟩ : ∃ n', n = n' + 1 := ⟨n - 1, by omega⟩
    rw [qeu] at hq1
    by_cases hy : Y.length = 0
    · rw [if_pos hy] at hq1
      have hy' : ¬ (0 : Int) < ((Y.length : Nat) : Int) := by omega
      have e1 : X = (bzs A B).1 := by rw [← hq1]
      have e2 : U = (bzs A B).2 := by rw [← hq1]
      subst e1 e2
      simp (disch := omega) only [wk, tis, seval, reduceCtorEq, Nat.reduceEqDiff, rqs, cpoly_len, hF, hYl, hy']
      refine call_by (ld) (by first | rfl | (simp only [tocvs, tocv, hF]; rfl) | (simp only [tocvs, tocv, toboxes, tobox, updH_at, Nat.reduceEqDiff, ↓reduceIte, hF]; rfl)) (by simp) ?_
      simp (disch := omega) only [wk, tis, seval, reduceCtorEq, Nat.reduceEqDiff, rqs, cpoly_len, hF]
      refine call_by (iv) (by first | rfl | (simp only [tocvs, tocv, hF]; rfl) | (simp only [tocvs, tocv, toboxes, tobox, updH_at, Nat.reduceEqDiff, ↓reduceIte, hF]; rfl)) (by simp) ?_
      simp (disch := omega) only [wk, tis, seval, reduceCtorEq, Nat.reduceEqDiff, rqs, cpoly_len, hF]
      refine call_by (sc1) (by first | rfl | (simp only [tocvs, tocv, hF]; rfl) | (simp only [tocvs, tocv, toboxes, tobox, updH_at, Nat.reduceEqDiff, ↓reduceIte, hF]; rfl)) (by simp) ?_
      simp (disch := omega) only [wk, tis, seval, reduceCtorEq, Nat.reduceEqDiff, rqs, cpoly_len, hF]
      refine call_by (sc2) (by first | rfl | (simp only [tocvs, tocv, hF]; rfl) | (simp only [tocvs, tocv, toboxes, tobox, updH_at, Nat.reduceEqDiff, ↓reduceIte, hF]; rfl)) (by simp) ?_
      simp (disch := omega) only [wk, tis, seval, reduceCtorEq, Nat.reduceEqDiff, rqs, cpoly_len, hF]
      refine call_by (d1) (by first | rfl | (simp only [tocvs, tocv, hF]; rfl) | (simp only [tocvs, tocv, toboxes, tobox, updH_at, Nat.reduceEqDiff, ↓reduceIte, hF]; rfl)) (by simp) ?_
      simp (disch := omega) only [wk, tis, seval, reduceCtorEq, Nat.reduceEqDiff, rqs, cpoly_len, hF]
      refine call_by (d2) (by first | rfl | (simp only [tocvs, tocv, hF]; rfl) | (simp only [tocvs, tocv, toboxes, tobox, updH_at, Nat.reduceEqDiff, ↓reduceIte, hF]; rfl)) (by simp) ?_
      simp (disch := omega) only [wk, tis, seval, reduceCtorEq, Nat.reduceEqDiff, rqs, cpoly_len, hF]
      refine call_by (mu) (by first | rfl | (simp only [tocvs, tocv, hF]; rfl) | (simp only [tocvs, tocv, toboxes, tobox, updH_at, Nat.reduceEqDiff, ↓reduceIte, hF]; rfl)) (by simp) ?_
      simp (disch := omega) only [wk, tis, seval, reduceCtorEq, Nat.reduceEqDiff, rqs, cpoly_len, hF]
      refine call_by (su) (by first | rfl | (simp only [tocvs, tocv, hF]; rfl) | (simp only [tocvs, tocv, toboxes, tobox, updH_at, Nat.reduceEqDiff, ↓reduceIte, hF]; rfl)) (by simp) ?_
      simp (disch := omega) only [wk, tis, seval, reduceCtorEq, Nat.reduceEqDiff, rqs, cpoly_len, hF]
      refine call_by (d3) (by first | rfl | (simp only [tocvs, tocv, hF]; rfl) | (simp only [tocvs, tocv, toboxes, tobox, updH_at, Nat.reduceEqDiff, ↓reduceIte, hF]; rfl)) (by simp) ?_
      simp (disch := omega) only [wk, tis, seval, reduceCtorEq, Nat.reduceEqDiff, rqs, cpoly_len, hF]
      try exact ⟨rfl, rfl, rfl⟩
    · rw [if_neg hy] at hq1
      have hy' : (0 : Int) < ((Y.length : Nat) : Int) := by omega
      have v := qi.dv hy
      obtain ⟨b1, b2⟩ := qi.bd
      rw [ez97] at b1 b2
      have dv := pdivx v b1 b2 (by omega) (by omega) (by omega) (by omega)
      obtain ⟨s1, s2⟩ := qs_qb v qi.x
      have ub := UB.le (show j ≤ 9 by omega)
      have u9 := ub8
      have m1 := pmulx s1.cx (qu.v.mono (show 8 * j + 1 ≤ 73 by omega) (show UB j ≤ 400000000 by omega)) (by omega) (by omega) (by omega) (by omega)
      have mc := (s1.cx.mul (qu.v.mono (show 8 * j + 1 ≤ 73 by omega) (show UB j ≤ 400000000 by omega))).trim
      have s3 := psubx (qu.u.mono (show 8 * j + 1 ≤ 73 by omega) (show UB j ≤ 400000000 by omega)) mc (by omega) (by omega) (by omega) (by omega)
      rw [show cqp (subq U (trimq (mulq (qs X Y) V))) = cqw ((unext X Y U V).map crat) from congrArg cqw (by
        rw [cqs, unext]
        congr 1
        exact trimq_ext fun k => by rw [cfq_subq, cfq_subq, cfq_trimq])] at s3
      have hr := (qr_facts v).1
      simp (disch := omega) only [wk, tis, seval, reduceCtorEq, Nat.reduceEqDiff, rqs, cpoly_len, hF, hYl, hy']
      refine call_by (dv) (by first | rfl | (simp only [tocvs, tocv, hF]; rfl) | (simp only [tocvs, tocv, toboxes, tobox, updH_at, Nat.reduceEqDiff, ↓reduceIte, hF]; rfl)) (by simp) ?_
      simp (disch := omega) only [wk, tis, seval, reduceCtorEq, Nat.reduceEqDiff, rqs, cpoly_len, hF]
      refine call_by (m1) (by first | rfl | (simp only [tocvs, tocv, hF]; rfl) | (simp only [tocvs, tocv, toboxes, tobox, updH_at, Nat.reduceEqDiff, ↓reduceIte, hF]; rfl)) (by simp) ?_
      simp (disch := omega) only [wk, tis, seval, reduceCtorEq, Nat.reduceEqDiff, rqs, cpoly_len, hF]
      refine call_by (s3) (by first | rfl | (simp only [tocvs, tocv, hF]; rfl) | (simp only [tocvs, tocv, toboxes, tobox, updH_at, Nat.reduceEqDiff, ↓reduceIte, hF]; rfl)) (by simp) ?_
      simp (disch := omega) only [wk, tis, seval, reduceCtorEq, Nat.reduceEqDiff, rqs, cpoly_len, hF]
      refine ⟨⟨n', j + 1, Y, qr X Y, V, unext X Y U V, hq1, by omega, by omega, qi.step v, qu.step qi hy (by omega), ?_⟩, ?_⟩
      · try (repeat' apply And.intro) <;> first | rfl | omega
      · rw [List.length_map]; exact hr
  · have ha' : ¬ ((A.length : Nat) : Int) = 0 := by omega
    refine AC.by_walk (rs := [.tmp 4, .tmp 5, .tmp 6, .tmp 7]) ords Tryz.func9 (by rfl) (by rfl) (by rfl) (by rfl) (by rfl) ?_
    simp (disch := omega) only [wk, tis, seval, reduceCtorEq, Nat.reduceEqDiff, rqs, cpoly_len]
    refine call_by (gd2) (by rfl) (by simp) ?_
    simp (disch := omega) only [wk, tis, seval, reduceCtorEq, Nat.reduceEqDiff, rqs, cpoly_len]
    refine call_by (n1) (by rfl) (by simp) ?_
    simp (disch := omega) only [wk, tis, seval, reduceCtorEq, Nat.reduceEqDiff, rqs, cpoly_len]
    refine call_by (n2) (by first | rfl | (simp only [tocvs, tocv, hAl, hBl, hb', ha']; rfl) | (simp only [tocvs, tocv, toboxes, tobox, updH_at, Nat.reduceEqDiff, ↓reduceIte, hAl, hBl, hb', ha']; rfl)) (by simp) ?_
    simp (disch := omega) only [wk, tis, seval, reduceCtorEq, Nat.reduceEqDiff, rqs, cpoly_len, hAl, hBl, hb', ha']
    refine call_by (zo) (by rfl) (by simp) ?_
    simp (disch := omega) only [wk, tis, seval, reduceCtorEq, Nat.reduceEqDiff, rqs, cpoly_len]
    refine call_by (no) (by rfl) (by simp) ?_
    simp (disch := omega) only [wk, tis, seval, reduceCtorEq, Nat.reduceEqDiff, rqs, cpoly_len]
    refine call_by (mo) (by rfl) (by simp) ?_
    simp (disch := omega) only [wk, tis, seval, reduceCtorEq, Nat.reduceEqDiff, rqs, cpoly_len]
    refine aloop_w (.nilv 13 (by simp (disch := omega) only [wk, tis, seval, reduceCtorEq, Nat.reduceEqDiff, rqs, cpoly_len]) (.refl _ _)) (fun f H => ∃ (n j : Nat) (X Y U V : List Rat), qeu n X Y U V = bzs A B ∧ Y.length + 1 ≤ n ∧ j + n ≤ 9 ∧ QI 7 9 X Y ∧ QU j U V ∧ f 0 = .iv (.sl (rats (A.map crat))) ∧ f 1 = .iv (.sl (rats (B.map crat))) ∧ f 11 = .iv (.sl (rats (X.map crat))) ∧ f 12 = .iv (.sl (rats (Y.map crat))) ∧ f 13 = .iv (.sl (rats (U.map crat))) ∧ f 14 = .iv (.sl (rats (V.map crat)))) (fun f H => match f 12 with | .iv (.sl l) => l.length | _ => 0) ?_ ?_
    · refine ⟨9, 0, B, A, [], [1], hXU.symm, by omega, by omega, qi0, qu0, ?_⟩
      simp (disch := omega) only [wk, tis, seval, reduceCtorEq, Nat.reduceEqDiff, rqs, cpoly_len]
      try exact ⟨rfl, rfl⟩
    rintro f H ⟨n, j, X, Y, U, V, hq1, hn, hj, qi, qu, hF⟩
    have hYl : (Y.map crat).length = Y.length := List.length_map _
    have hmu : (match f 12 with | .iv (.sl l) => l.length | _ => 0) = Y.length := by rw [hF.2.2.2.1]; simp only []; rw [rats_length, hYl]
    rw [hmu]
    obtain ⟨n', rfl⟩ : ∃ n', n = n' + 1 := ⟨n - 1, by omega⟩
    rw [qeu] at hq1
    by_cases hy : Y.length = 0
    · rw [if_pos hy] at hq1
      have hy' : ¬ (0 : Int) < ((Y.length : Nat) : Int) := by omega
      have e1 : X = (bzs A B).1 := by rw [← hq1]
      have e2 : U = (bzs A B).2 := by rw [← hq1]
      subst e1 e2
      simp (disch := omega) only [wk, tis, seval, reduceCtorEq, Nat.reduceEqDiff, rqs, cpoly_len, hF, hYl, hy']
      refine call_by (ld) (by first | rfl | (simp only [tocvs, tocv, hF]; rfl) | (simp only [tocvs, tocv, toboxes, tobox, updH_at, Nat.reduceEqDiff, ↓reduceIte, hF]; rfl)) (by simp) ?_
      simp (disch := omega) only [wk, tis, seval, reduceCtorEq, Nat.reduceEqDiff, rqs, cpoly_len, hF]
      refine call_by (iv) (by first | rfl | (simp only [tocvs, tocv, hF]; rfl) | (simp only [tocvs, tocv, toboxes, tobox, updH_at, Nat.reduceEqDiff, ↓reduceIte, hF]; rfl)) (by simp) ?_
      simp (disch := omega) only [wk, tis, seval, reduceCtorEq, Nat.reduceEqDiff, rqs, cpoly_len, hF]
      refine call_by (sc1) (by first | rfl | (simp only [tocvs, tocv, hF]; rfl) | (simp only [tocvs, tocv, toboxes, tobox, updH_at, Nat.reduceEqDiff, ↓reduceIte, hF]; rfl)) (by simp) ?_
      simp (disch := omega) only [wk, tis, seval, reduceCtorEq, Nat.reduceEqDiff, rqs, cpoly_len, hF]
      refine call_by (sc2) (by first | rfl | (simp only [tocvs, tocv, hF]; rfl) | (simp only [tocvs, tocv, toboxes, tobox, updH_at, Nat.reduceEqDiff, ↓reduceIte, hF]; rfl)) (by simp) ?_
      simp (disch := omega) only [wk, tis, seval, reduceCtorEq, Nat.reduceEqDiff, rqs, cpoly_len, hF]
      refine call_by (d1) (by first | rfl | (simp only [tocvs, tocv, hF]; rfl) | (simp only [tocvs, tocv, toboxes, tobox, updH_at, Nat.reduceEqDiff, ↓reduceIte, hF]; rfl)) (by simp) ?_
      simp (disch := omega) only [wk, tis, seval, reduceCtorEq, Nat.reduceEqDiff, rqs, cpoly_len, hF]
      refine call_by (d2) (by first | rfl | (simp only [tocvs, tocv, hF]; rfl) | (simp only [tocvs, tocv, toboxes, tobox, updH_at, Nat.reduceEqDiff, ↓reduceIte, hF]; rfl)) (by simp) ?_
      simp (disch := omega) only [wk, tis, seval, reduceCtorEq, Nat.reduceEqDiff, rqs, cpoly_len, hF]
      refine call_by (mu) (by first | rfl | (simp only [tocvs, tocv, hF]; rfl) | (simp only [tocvs, tocv, toboxes, tobox, updH_at, Nat.reduceEqDiff, ↓reduceIte, hF]; rfl)) (by simp) ?_
      simp (disch := omega) only [wk, tis, seval, reduceCtorEq, Nat.reduceEqDiff, rqs, cpoly_len, hF]
      refine call_by (su) (by first | rfl | (simp only [tocvs, tocv, hF]; rfl) | (simp only [tocvs, tocv, toboxes, tobox, updH_at, Nat.reduceEqDiff, ↓reduceIte, hF]; rfl)) (by simp) ?_
      simp (disch := omega) only [wk, tis, seval, reduceCtorEq, Nat.reduceEqDiff, rqs, cpoly_len, hF]
      refine call_by (d3) (by first | rfl | (simp only [tocvs, tocv, hF]; rfl) | (simp only [tocvs, tocv, toboxes, tobox, updH_at, Nat.reduceEqDiff, ↓reduceIte, hF]; rfl)) (by simp) ?_
      simp (disch := omega) only [wk, tis, seval, reduceCtorEq, Nat.reduceEqDiff, rqs, cpoly_len, hF]
      try exact ⟨rfl, rfl, rfl⟩
    · rw [if_neg hy] at hq1
      have hy' : (0 : Int) < ((Y.length : Nat) : Int) := by omega
      have v := qi.dv hy
      obtain ⟨b1, b2⟩ := qi.bd
      rw [ez97] at b1 b2
      have dv := pdivx v b1 b2 (by omega) (by omega) (by omega) (by omega)
      obtain ⟨s1, s2⟩ := qs_qb v qi.x
      have ub := UB.le (show j ≤ 9 by omega)
      have u9 := ub8
      have m1 := pmulx s1.cx (qu.v.mono (show 8 * j + 1 ≤ 73 by omega) (show UB j ≤ 400000000 by omega)) (by omega) (by omega) (by omega) (by omega)
      have mc := (s1.cx.mul (qu.v.mono (show 8 * j + 1 ≤ 73 by omega) (show UB j ≤ 400000000 by omega))).trim
      have s3 := psubx (qu.u.mono (show 8 * j + 1 ≤ 73 by omega) (show UB j ≤ 400000000 by omega)) mc (by omega) (by omega) (by omega) (by omega)
      rw [show cqp (subq U (trimq (mulq (qs X Y) V))) = cqw ((unext X Y U V).map crat) from congrArg cqw (by
        rw [cqs, unext]
        congr 1
        exact trimq_ext fun k => by rw [cfq_subq, cfq_subq, cfq_trimq])] at s3
      have hr := (qr_facts v).1
      simp (disch := omega) only [wk, tis, seval, reduceCtorEq, Nat.reduceEqDiff, rqs, cpoly_len, hF, hYl, hy']
      refine call_by (dv) (by first | rfl | (simp only [tocvs, tocv, hF]; rfl) | (simp only [tocvs, tocv, toboxes, tobox, updH_at, Nat.reduceEqDiff, ↓reduceIte, hF]; rfl)) (by simp) ?_
      simp (disch := omega) only [wk, tis, seval, reduceCtorEq, Nat.reduceEqDiff, rqs, cpoly_len, hF]
      refine call_by (m1) (by first | rfl | (simp only [tocvs, tocv, hF]; rfl) | (simp only [tocvs, tocv, toboxes, tobox, updH_at, Nat.reduceEqDiff, ↓reduceIte, hF]; rfl)) (by simp) ?_
      simp (disch := omega) only [wk, tis, seval, reduceCtorEq, Nat.reduceEqDiff, rqs, cpoly_len, hF]
      refine call_by (s3) (by first | rfl | (simp only [tocvs, tocv, hF]; rfl) | (simp only [tocvs, tocv, toboxes, tobox, updH_at, Nat.reduceEqDiff, ↓reduceIte, hF]; rfl)) (by simp) ?_
      simp (disch := omega) only [wk, tis, seval, reduceCtorEq, Nat.reduceEqDiff, rqs, cpoly_len, hF]
      refine ⟨⟨n', j + 1, Y, qr X Y, V, unext X Y U V, hq1, by omega, by omega, qi.step v, qu.step qi hy (by omega), ?_⟩, ?_⟩
      · try (repeat' apply And.intro) <;> first | rfl | omega
      · rw [List.length_map]; exact hr
theorem pbez_bad (p q : List RQ) (hp : BQ 7 1 p) (hq : BQ 7 1 q) (h : gd p = false ∨ gd q = false) : AC Tryz.prog 9 [cqw p, cqw q] none [cqw [], cqw [], cqw [], ci 1] := by
  have gd2 := pgood_ok [p, q] (by simp) (by
    simp only [List.mem_cons, List.not_mem_nil, or_false, forall_eq_or_imp, forall_eq]
    exact ⟨hp.mono (by omega) (by omega), hq.mono (by omega) (by omega)⟩) [[.sl (rats p)], [.sl (rats q)]] rfl
  rw [if_neg (by
    rw [List.all_cons, List.all_cons, List.all_nil]
    rcases h with h | h <;> rw [h] <;> simp)] at gd2
  refine AC.by_walk (rs := [.tmp 4, .tmp 5, .tmp 6, .tmp 7]) ords Tryz.func9 (by rfl) (by rfl) (by rfl) (by rfl) (by rfl) ?_
  simp (disch := omega) only [wk, tis, seval, reduceCtorEq, Nat.reduceEqDiff, rqs, cpoly_len]
  refine call_by (gd2) (by rfl) (by simp) ?_
  simp (disch := omega) only [wk, tis, seval, reduceCtorEq, Nat.reduceEqDiff, rqs, cpoly_len]
  try rfl
end Go.Proofs.YtenlbifnhdmnnaaGreat

namespace Go.Proofs.YtenlbifnhdmnnaaGreat
open Go Go.Proofs Go.AL
set_option linter.unusedSimpArgs false
set_option linter.unusedVariables false
theorem PQ.eq_sub {f g h : PQ} (e : f = g + h) : h = f - g := PQ.ext fun k => by rw [e, PQ.c_sub, PQ.c_add]; grind
theorem PQ.sub_mul (f g h : PQ) : (f - g) * h = f * h - g * h := PQ.ext fun k => by
  rw [PQ.c_sub, PQ.mul_comm (f - g), PQ.mul_comm f, PQ.mul_comm g]
  have e : h * f = h * (f - g) + h * g := by
    rw [← PQ.mul_add]
    congr 1
    exact PQ.ext fun k => by rw [PQ.c_add, PQ.c_sub]; grind
  rw [e, PQ.c_add]
  grind
theorem qeu_comb {A B : List Rat} : ∀ (n : Nat) (X Y U V W W' : List Rat), QI 7 9 X Y → pq X = pq U * pq A + pq W * pq B → pq Y = pq V * pq A + pq W' * pq B → ∃ Z : List Rat, pq (qeu n X Y U V).1 = pq (qeu n X Y U V).2 * pq A + pq Z * pq B
  | 0, X, Y, U, V, W, W', _, e, _ => ⟨W, e⟩
  | n + 1, X, Y, U, V, W, W', q, e, e' => by
    rw [qeu]
    split
    · exact ⟨W, e⟩
    · rename_i hy
      have v := q.dv hy
      obtain ⟨_, _, r3⟩ := qr_facts v
      refine qeu_comb n Y (qr X Y) V (unext X Y U V) W' (subq W (mulq (qs X Y) W')) (q.step v) e' ?_
      have h1 := PQ.eq_sub r3
      rw [h1, e, e', unext, pq_trimq, pq_subq, pq_mulq, pq_subq, pq_mulq, PQ.sub_mul, PQ.sub_mul, PQ.mul_add]
      have x1 : pq (qs X Y) * (pq V * pq A) = pq (qs X Y) * pq V * pq A := (PQ.mul_assoc _ _ _).symm
      have x2 : pq (qs X Y) * (pq W' * pq B) = pq (qs X Y) * pq W' * pq B := (PQ.mul_assoc _ _ _).symm
      rw [x1, x2]
      generalize pq U * pq A = a
      generalize pq W * pq B = b
      generalize pq (qs X Y) * pq V * pq A = c
      generalize pq (qs X Y) * pq W' * pq B = d
      refine PQ.ext fun k => ?_
      simp only [PQ.c_add, PQ.c_sub]
      grind
theorem qs_exact {X Y S : List Rat} {K : Nat} (v : DV X Y (qnn X Y) K) (e : pq X = pq S * pq Y) : pq (qs X Y) = pq S ∧ qr X Y = [] := by
  obtain ⟨r1, r2, r3⟩ := qr_facts v
  have h0 := v.h0
  have hY : tzq Y ≠ 0 := by rw [trimq_full v.tb]; exact h0
  have h1 := div_unique (Q := qs X Y) (R := qr X Y) (Q' := S) (R' := []) (B := Y) (by rw [← r3, e, pq_nil, PQ.add_zero]) hY (by rw [trimq_full r2, trimq_full v.tb]; exact r1) (by show 0 < _; omega)
  refine ⟨h1.1, ?_⟩
  have h2 : tzq (qr X Y) = 0 := tzq_zero_iff.mpr fun k => by
    have := congrArg (fun f => PQ.c f k) h1.2
    exact this
  rw [trimq_full r2] at h2
  exact List.length_eq_zero_iff.mp h2
theorem len_mul {X Y Z : List Rat} (tX : trimq X = X) (tY : trimq Y = Y) (tZ : trimq Z = Z) (e : pq Z = pq X * pq Y) (hx : X.length ≠ 0) (hy : Y.length ≠ 0) : X.length + Y.length = Z.length + 1 := by
  have h : tzq Z = tzq (mulq X Y) := tzq_eq_of_cf fun k => by
    have := congrArg (fun f => PQ.c f k) e
    rwa [← pq_mulq] at this
  rw [tzq_mulq (by rw [trimq_full tX]; exact hx) (by rw [trimq_full tY]; exact hy), trimq_full tX, trimq_full tY, trimq_full tZ] at h
  omega
structure BZ (A B : List Rat) : Prop where
  id : pq (bzu A B) * pq A + pq (bzv A B) * pq B = pq (bzg A B)
  one : (bzg A B).length ≠ 0 → lq (bzg A B) = 1
  deg : B.length ≠ 0 → (bzu A B).length + (bzg A B).length ≤ B.length
  gt : trimq (bzg A B) = bzg A B
  ut : trimq (bzu A B) = bzu A B
  vt : trimq (bzv A B) = bzv A B
  gn : (A.length ≠ 0 ∨ B.length ≠ 0) → (bzg A B).length ≠ 0
theorem bz_of {A B : List Rat} (hA : CX 7 9 A) (hB : CX 7 9 B) (tA : trimq A = A) (tB : trimq B = B) : BZ A B := by
  by_cases hb : B.length = 0
  · by_cases ha : A.length = 0
    · have eA : A = [] := List.length_eq_zero_iff.mp ha
      have eB : B = [] := List.length_eq_zero_iff.mp hb
      have g : bzg A B = [] := by rw [bzg, if_pos hb, if_pos ha]
      have u : bzu A B = [] := by rw [bzu, if_pos hb, if_pos ha]
      have v : bzv A B = [] := by rw [bzv, if_pos hb]
      refine ⟨?_, fun h => absurd (by rw [g]; rfl) h, fun h => absurd hb h, by rw [g]; decide +kernel, by rw [u]; decide +kernel, by rw [v]; decide +kernel, fun h => absurd h (by omega)⟩
      rw [g, u, v, pq_nil, PQ.zero_mul, PQ.zero_mul, PQ.zero_add]
    · have eB : B = [] := List.length_eq_zero_iff.mp hb
      have g : bzg A B = trimq (mulq [1 / lq A] A) := by rw [bzg, if_pos hb, if_neg ha]
      have u : bzu A B = [1 / lq A] := by rw [bzu, if_pos hb, if_neg ha]
      have v : bzv A B = [] := by rw [bzv, if_pos hb]
      have l0 := lq_ne tA ha
      have k0 : 1 / lq A ≠ 0 := fun e => by
        have h1 := Rat.div_mul_cancel (a := 1) l0
        rw [e, Rat.zero_mul] at h1
        exact absurd h1 (by decide)
      have tk : trimq [1 / lq A] = [1 / lq A] := upq_trim k0 0
      have hc : ∀ k, cfq (mulq [1 / lq A] A) k = 1 / lq A * cfq A k := fun k => by
        have := cfq_mul_upq (1 / lq A) 0 A k
        rwa [if_pos (Nat.zero_le _), Nat.sub_zero] at this
      have hlen : (trimq (mulq [1 / lq A] A)).length = A.length := by
        have h := len_mul tk tA (trimq_trimq (mulq [1 / lq A] A)) (by rw [pq_trimq, pq_mulq]) (by rw [List.length_singleton]; omega) ha
        simp only [List.length_singleton] at h
        omega
      refine ⟨?_, fun h => ?_, fun h => absurd hb h, by rw [g]; exact trimq_trimq _, by rw [u]; exact tk, by rw [v]; decide +kernel, fun h => by rw [g, hlen]; exact ha⟩
      · rw [g, u, v, pq_nil, PQ.zero_mul, PQ.add_zero, pq_trimq, pq_mulq]
      · rw [g, lq, hlen, cfq_trimq, hc]
        exact Rat.div_mul_cancel l0
  have F := qf_of hA hB tA tB hb
  have E := bzs_end hA hB tA tB hb
  have g : bzg A B = trimq (sclq (1 / lq (bzs A B).1) (bzs A B).1) := by rw [bzg, if_neg hb]
  have u : bzu A B = qr (bzw A B) (qs B (bzg A B)) := by rw [bzu, if_neg hb]
  have v : bzv A B = qs (bzr A B) B := by rw [bzv, if_neg hb]
  have l0 := lq_ne E.t E.l
  have k0 : 1 / lq (bzs A B).1 ≠ 0 := fun e => by
    have h1 := Rat.div_mul_cancel (a := 1) l0
    rw [e, Rat.zero_mul] at h1
    exact absurd h1 (by decide)
  obtain ⟨Z, hZ⟩ := qeu_comb (A := A) (B := B) 9 B A [] [1] [1] [] (qi_start hA hB tA tB) (by rw [pq_nil, PQ.zero_mul, PQ.zero_add, pq_one, PQ.one_mul]) (by rw [pq_one, PQ.one_mul, pq_nil, PQ.zero_mul, PQ.add_zero])
  rw [show qeu 9 B A [] [1] = bzs A B from rfl] at hZ
  obtain ⟨a, ea⟩ := F.gd.1
  obtain ⟨b, eb⟩ := F.gd.2
  obtain ⟨m1, m2⟩ := qs_exact F.m eb
  rw [← m1] at eb
  obtain ⟨_, _, d3⟩ := qr_facts F.u
  rw [← u] at d3
  generalize hm : qs B (bzg A B) = m at *
  -- d = w A + (k Z) B
  have e1 : pq (bzg A B) = pq (bzw A B) * pq A + pq (sclq (1 / lq (bzs A B).1) Z) * pq B := by
    rw [g, bzw, pq_trimq, pq_trimq, pq_sclq, pq_sclq, pq_sclq, hZ, PQ.mul_add, PQ.mul_assoc, PQ.mul_assoc]
  have e2 : pq (qs (bzw A B) m) * pq m * pq A = pq (qs (bzw A B) m) * pq a * pq B := by
    have x1 : pq (qs (bzw A B) m) * pq m * pq A = pq (qs (bzw A B) m) * pq m * (pq a * pq (bzg A B)) := by rw [← ea]
    have x2 : pq (qs (bzw A B) m) * pq a * pq B = pq (qs (bzw A B) m) * pq a * (pq m * pq (bzg A B)) := by rw [← eb]
    rw [x1, x2]
    ac_rfl
  have e3 : pq (bzr A B) = pq (addq (sclq (1 / lq (bzs A B).1) Z) (mulq (qs (bzw A B) m) a)) * pq B := by
    have h1 : pq (bzu A B) = pq (bzw A B) - pq (qs (bzw A B) m) * pq m := PQ.eq_sub d3
    rw [bzr, pq_trimq, pq_subq, pq_trimq, pq_mulq, h1, PQ.sub_mul, e2, pq_addq, pq_mulq, PQ.add_mul, e1]
    generalize pq (bzw A B) * pq A = x
    generalize pq (sclq (1 / lq (bzs A B).1) Z) * pq B = y
    generalize pq (qs (bzw A B) m) * pq a * pq B = z
    refine PQ.ext fun k => ?_
    simp only [PQ.c_add, PQ.c_sub]
    grind
  obtain ⟨v1, v2⟩ := qs_exact F.v e3
  have e4 : pq (bzr A B) = pq (bzv A B) * pq B := by rw [v, v1]; exact e3
  have ml := F.ml
  have ul := F.ul
  rw [hm] at ml ul
  have hl := len_mul (by rw [← hm]; exact trimq_trimq _) F.gt tB eb ml F.gl.1
  refine ⟨?_, fun _ => ?_, fun _ => by omega, F.gt, F.ut, by rw [v]; exact trimq_trimq _, fun _ => F.gl.1⟩
  · rw [← e4, bzr, pq_trimq, pq_subq, pq_trimq, pq_mulq]
    generalize pq (bzu A B) * pq A = x
    generalize pq (bzg A B) = y
    refine PQ.ext fun k => ?_
    simp only [PQ.c_add, PQ.c_sub]
    grind
  · have hgl : (bzg A B).length = (bzs A B).1.length := by
      have tk : trimq [1 / lq (bzs A B).1] = [1 / lq (bzs A B).1] := upq_trim k0 0
      have h := len_mul tk E.t F.gt (by
        rw [g, pq_trimq]
        refine PQ.ext fun k => ?_
        rw [← pq_mulq, pq_c, pq_c, cfq_sclq]
        have := cfq_mul_upq (1 / lq (bzs A B).1) 0 (bzs A B).1 k
        rw [if_pos (Nat.zero_le _), Nat.sub_zero] at this
        rw [show mulq [1 / lq (bzs A B).1] (bzs A B).1 = mulq (upq (1 / lq (bzs A B).1) 0) (bzs A B).1 from rfl, this, Rat.mul_comm]) (by rw [List.length_singleton]; omega) E.l
      simp only [List.length_singleton] at h
      omega
    rw [lq, hgl]
    rw [g, cfq_trimq, cfq_sclq]
    have h1 := Rat.div_mul_cancel (a := 1) l0
    rw [Rat.mul_comm]
    exact h1
end Go.Proofs.YtenlbifnhdmnnaaGreat

namespace Go.Proofs.YtenlbifnhdmnnaaGreat
open Go Go.Proofs Go.AL
set_option linter.unusedSimpArgs false
set_option linter.unusedVariables false
theorem ttimesx {A B : List Rat} {n m M N : Nat} (hA : CX n M A) (hB : CX m N B) (hn : n ≤ 1000) (hm : m ≤ 1000) (hM : M ≤ 2 ^ 32) (hN : N ≤ 2 ^ 32) (h1 : 1 ≤ M) : AC Tryz.prog 13 [cqw (A.map crat), cqw (B.map crat)] none [cqp (mulq A B)] := by
  obtain ⟨D, cA⟩ := hA
  obtain ⟨E, cB⟩ := hB
  refine timesq_ok A B (cA.qb.mono (by omega) (by omega)) (cB.qb.mono (by omega) (by omega)) fun i k => ?_
  have := cA.part cB (by omega) i k
  omega
theorem tlessx {A B : List Rat} {n m M N : Nat} (hA : CX n M A) (hB : CX m N B) (hn : n ≤ 1000) (hm : m ≤ 1000) (hM : M ≤ 2 ^ 32) (hN : N ≤ 2 ^ 32) : AC Tryz.prog 18 [cqw (A.map crat), cqw (B.map crat)] none [cqw ((trimq (subq A B)).map crat)] := by
  have l := lessq_ok A B (hA.qb.mono (by omega) (by omega)) (hB.qb.mono (by omega) (by omega))
  rwa [show cqp (addq A (trimq (sclq (-1) B))) = cqw ((trimq (subq A B)).map crat) from congrArg cqw (by
    rw [cqs]
    congr 1
    exact trimq_ext fun k => by rw [cfq_addq, cfq_subq, cfq_trimq, cfq_sclq]; grind)] at l
theorem tdivx {X Y : List Rat} {n m M N K : Nat} (v : DV X Y (qnn X Y) K) (hK : K ≤ 2 ^ 30) (hX : CX n M X) (hY : CX m N Y) (hn : n ≤ 1000) (hm : m ≤ 1000) (hM : M ≤ 2 ^ 30) (hN : N ≤ 2 ^ 30) : AC Tryz.prog 17 [cqw (X.map crat), cqw (Y.map crat)] none [cqw ((qs X Y).map crat), cqw ((qr X Y).map crat)] := by
  have m := divideq_ok (X.map crat) (Y.map crat) (hX.qb.gq.mono (by omega) hM) (hY.qb.gq.mono (by omega) hN) (qnn X Y) K (by rw [qvs_map, qvs_map, v.ta, v.tb]; exact v) hK
  rw [qvs_map, qvs_map, v.ta, v.tb] at m
  exact m
def rdn (p : List RQ) : List Nat := p.map fun r => nv r.2
structure RC (p : List RQ) : Prop where
  n0 : ∀ x ∈ rdn p, x ≠ 0
  k : ∀ x ∈ rdn p, (wd x).length ≤ 1
end Go.Proofs.YtenlbifnhdmnnaaGreat

namespace Go.Proofs.YtenlbifnhdmnnaaGreat
open Go Go.Proofs Go.AL
set_option linter.unusedSimpArgs false
set_option linter.unusedVariables false
def ivl (A B : List Rat) : List RQ := if B.length = 0 then [] else if (bzg A B).length = 1 then (bzu A B).map crat else []
def ive (A B : List Rat) : Int := if B.length = 0 then 1 else if (bzg A B).length = 1 then 0 else 4
theorem pmon_ok (p r : List RQ) (hp : GQ 7 1 p) (hr : GQ 7 1 r) : AC Tryz.prog 7 [cqw p, cqw r] none [cqw ((bzg (trimq (qvs p)) (trimq (qvs r))).map crat), ci 0] := by
  have b := pbez_ok p r hp hr
  refine AC.by_walk (rs := [.tmp 4, .tmp 5]) ords Tryz.func7 (by rfl) (by rfl) (by rfl) (by rfl) (by rfl) ?_
  simp (disch := omega) only [wk, tis, seval, reduceCtorEq, Nat.reduceEqDiff, rqs, cpoly_len]
  refine call_by (b) (by rfl) (by simp) ?_
  simp (disch := omega) only [wk, tis, seval, reduceCtorEq, Nat.reduceEqDiff, rqs, cpoly_len]
  try rfl
theorem pmon_bad (p r : List RQ) (hp : BQ 7 1 p) (hr : BQ 7 1 r) (h : gd p = false ∨ gd r = false) : AC Tryz.prog 7 [cqw p, cqw r] none [cqw [], ci 1] := by
  have b := pbez_bad p r hp hr h
  refine AC.by_walk (rs := [.tmp 4, .tmp 5]) ords Tryz.func7 (by rfl) (by rfl) (by rfl) (by rfl) (by rfl) ?_
  simp (disch := omega) only [wk, tis, seval, reduceCtorEq, Nat.reduceEqDiff, rqs, cpoly_len]
  refine call_by (b) (by rfl) (by simp) ?_
  simp (disch := omega) only [wk, tis, seval, reduceCtorEq, Nat.reduceEqDiff, rqs, cpoly_len]
  try rfl
theorem pinv_ok (p r : List RQ) (hp : GQ 7 1 p) (hr : GQ 7 1 r) : AC Tryz.prog 16 [cqw p, cqw r] none [cqw (ivl (trimq (qvs p)) (trimq (qvs r))), ci (ive (trimq (qvs p)) (trimq (qvs r)))] := by
  have gd2 := pgood_ok [p, r] (by simp) (by
    simp only [List.mem_cons, List.not_mem_nil, or_false, forall_eq_or_imp, forall_eq]
    exact ⟨hp.bq.mono (by omega) (by omega), hr.bq.mono (by omega) (by omega)⟩) [[.sl (rats p)], [.sl (rats r)]] rfl
  rw [if_pos (by rw [List.all_cons, List.all_cons, List.all_nil, gd_iff.mpr fun x hx => (hp.2 x hx).2, gd_iff.mpr fun x hx => (hr.2 x hx).2]; rfl)] at gd2
  have dd := qdeg_ok r (hr.mono (by omega) (by omega))
  have dg : AC Tryz.prog 49 [cqw r] none [ci ((tzq (qvs r) : Int) - 1)] := by
    refine AC.by_walk (rs := [.tmp 2]) ords Tryz.func49 (by rfl) (by rfl) (by rfl) (by rfl) (by rfl) ?_
    simp (disch := omega) only [wk, tis, seval, reduceCtorEq, Nat.reduceEqDiff, rqs, cpoly_len]
    refine call_by (dd) (by rfl) (by simp) ?_
    simp (disch := omega) only [wk, tis, seval, reduceCtorEq, Nat.reduceEqDiff, rqs, cpoly_len]
    try rfl
  rw [show tzq (qvs r) = (trimq (qvs r)).length from (trimq_len _).symm] at dg
  have bz := pbez_ok p r hp hr
  have hA := few_cx hp
  have hB := few_cx hr
  have tA := trimq_trimq (qvs p)
  have tB := trimq_trimq (qvs r)
  generalize trimq (qvs p) = A at *
  generalize trimq (qvs r) = B at *
  have hBl7 := hB.qb.1
  rw [ivl, ive]
  by_cases hb : B.length = 0
  · have hb' : ((B.length : Nat) : Int) - 1 < 0 := by omega
    rw [if_pos hb, if_pos hb]
    refine AC.by_walk (rs := [.tmp 4, .tmp 5]) ords Tryz.func16 (by rfl) (by rfl) (by rfl) (by rfl) (by rfl) ?_
    simp (disch := omega) only [wk, tis, seval, reduceCtorEq, Nat.reduceEqDiff, rqs, cpoly_len]
    refine call_by (gd2) (by rfl) (by simp) ?_
    simp (disch := omega) only [wk, tis, seval, reduceCtorEq, Nat.reduceEqDiff, rqs, cpoly_len]
    refine call_by (dg) (by first | rfl | (simp only [tocvs, tocv, hb']; rfl) | (simp only [tocvs, tocv, toboxes, tobox, updH_at, Nat.reduceEqDiff, ↓reduceIte, hb']; rfl)) (by simp) ?_
    simp (disch := omega) only [wk, tis, seval, reduceCtorEq, Nat.reduceEqDiff, rqs, cpoly_len, hb']
    try rfl
  have hb' : ¬ ((B.length : Nat) : Int) - 1 < 0 := by omega
  have F := qf_of hA hB tA tB hb
  have gl := F.gl
  have de := pdegx F.g F.gt (by omega) (by omega)
  clear F
  rw [if_neg hb, if_neg hb]
  by_cases hg : (bzg A B).length = 1
  · have hg' : (((bzg A B).length : Nat) : Int) - 1 = 0 := by omega
    rw [if_pos hg, if_pos hg]
    refine AC.by_walk (rs := [.tmp 4, .tmp 5]) ords Tryz.func16 (by rfl) (by rfl) (by rfl) (by rfl) (by rfl) ?_
    simp (disch := omega) only [wk, tis, seval, reduceCtorEq, Nat.reduceEqDiff, rqs, cpoly_len]
    refine call_by (gd2) (by rfl) (by simp) ?_
    simp (disch := omega) only [wk, tis, seval, reduceCtorEq, Nat.reduceEqDiff, rqs, cpoly_len]
    refine call_by (dg) (by first | rfl | (simp only [tocvs, tocv, hb']; rfl) | (simp only [tocvs, tocv, toboxes, tobox, updH_at, Nat.reduceEqDiff, ↓reduceIte, hb']; rfl)) (by simp) ?_
    simp (disch := omega) only [wk, tis, seval, reduceCtorEq, Nat.reduceEqDiff, rqs, cpoly_len, hb']
    refine call_by (bz) (by rfl) (by simp) ?_
    simp (disch := omega) only [wk, tis, seval, reduceCtorEq, Nat.reduceEqDiff, rqs, cpoly_len]
    refine call_by (de) (by first | rfl | (simp only [tocvs, tocv, hg']; rfl) | (simp only [tocvs, tocv, toboxes, tobox, updH_at, Nat.reduceEqDiff, ↓reduceIte, hg']; rfl)) (by simp) ?_
    simp (disch := omega) only [wk, tis, seval, reduceCtorEq, Nat.reduceEqDiff, rqs, cpoly_len, hg']
    try rfl
  · have hg' : ¬ (((bzg A B).length : Nat) : Int) - 1 = 0 := by omega
    rw [if_neg hg, if_neg hg]
    refine AC.by_walk (rs := [.tmp 4, .tmp 5]) ords Tryz.func16 (by rfl) (by rfl) (by rfl) (by rfl) (by rfl) ?_
    simp (disch := omega) only [wk, tis, seval, reduceCtorEq, Nat.reduceEqDiff, rqs, cpoly_len]
    refine call_by (gd2) (by rfl) (by simp) ?_
    simp (disch := omega) only [wk, tis, seval, reduceCtorEq, Nat.reduceEqDiff, rqs, cpoly_len]
    refine call_by (dg) (by first | rfl | (simp only [tocvs, tocv, hb']; rfl) | (simp only [tocvs, tocv, toboxes, tobox, updH_at, Nat.reduceEqDiff, ↓reduceIte, hb']; rfl)) (by simp) ?_
    simp (disch := omega) only [wk, tis, seval, reduceCtorEq, Nat.reduceEqDiff, rqs, cpoly_len, hb']
    refine call_by (bz) (by rfl) (by simp) ?_
    simp (disch := omega) only [wk, tis, seval, reduceCtorEq, Nat.reduceEqDiff, rqs, cpoly_len]
    refine call_by (de) (by first | rfl | (simp only [tocvs, tocv, hg']; rfl) | (simp only [tocvs, tocv, toboxes, tobox, updH_at, Nat.reduceEqDiff, ↓reduceIte, hg']; rfl)) (by simp) ?_
    simp (disch := omega) only [wk, tis, seval, reduceCtorEq, Nat.reduceEqDiff, rqs, cpoly_len, hg']
    try rfl
end Go.Proofs.YtenlbifnhdmnnaaGreat

namespace Go.Proofs.YtenlbifnhdmnnaaGreat
open Go Go.Proofs Go.AL
set_option linter.unusedSimpArgs false
set_option linter.unusedVariables false
theorem fq1_bq {p : List RQ} (h : RawQ p) : BQ 7 1 (fq1 p) := ⟨by simp [fq1]; omega, fun c hc => by
  obtain ⟨d, hd, rfl⟩ := List.mem_map.1 hc
  have k := h.2 d (List.mem_of_mem_take hd)
  refine ⟨⟨?_, fun x hx => k.1.2 x (List.mem_of_mem_take hx)⟩, ?_, fun x hx => k.2.2 x (List.mem_of_mem_take hx)⟩
  · simp [fr1]; omega
  · simp [fr1]; omega⟩
structure BB (A B : List Rat) : Prop where
  g : BQ (2 ^ 40) (2 ^ 40) ((bzg A B).map crat)
  u : BQ (2 ^ 40) (2 ^ 40) ((bzu A B).map crat)
  v : BQ (2 ^ 40) (2 ^ 40) ((bzv A B).map crat)
  i : BQ (2 ^ 40) (2 ^ 40) (ivl A B)
theorem nil_bq (n k : Nat) : BQ n k [] := ⟨Nat.zero_le _, fun c hc => nomatch hc⟩
structure BS (A B : List Rat) : Prop where
  g : CX 14 300000 (bzg A B)
  u : CX 7 487000000 (bzu A B)
  v : CX 14 14700000000 (bzv A B)
theorem bs_of {A B : List Rat} (hA : CX 7 9 A) (hB : CX 7 9 B) (tA : trimq A = A) (tB : trimq B = B) : BS A B := by
  by_cases hb : B.length = 0
  · by_cases ha : A.length = 0
    · refine ⟨by rw [show bzg A B = [] by rw [bzg, if_pos hb, if_pos ha]]; exact cx_nil _ _ (by omega), by rw [show bzu A B = [] by rw [bzu, if_pos hb, if_pos ha]]; exact cx_nil _ _ (by omega), by rw [show bzv A B = [] by rw [bzv, if_pos hb]]; exact cx_nil _ _ (by omega)⟩
    · have lz : qz (lq A) ≤ 9 := hA.qb.cz (by omega) _
      have kz : qz (1 / lq A) ≤ 9 := Nat.le_trans (qz_inv _) lz
      have ck : CX 1 9 [1 / lq A] := ⟨_, CB.const kz⟩
      refine ⟨?_, ?_, by rw [show bzv A B = [] by rw [bzv, if_pos hb]]; exact cx_nil _ _ (by omega)⟩
      · rw [show bzg A B = trimq (mulq [1 / lq A] A) by rw [bzg, if_pos hb, if_neg ha]]
        exact ((ck.mul hA).trim).mono (by omega) (by omega)
      · rw [show bzu A B = [1 / lq A] by rw [bzu, if_pos hb, if_neg ha]]
        exact ck.mono (by omega) (by omega)
  · have F := qf_of hA hB tA tB hb
    refine ⟨F.g.mono (by omega) (by omega), F.uc, ?_⟩
    rw [show bzv A B = qs (bzr A B) B by rw [bzv, if_neg hb]]
    exact ((qs_qb F.v F.r.qb.1).1.cx).mono (by omega) (by omega)
theorem CX.bq {n M : Nat} {q : List Rat} (h : CX n M q) (hn : n ≤ 1000) (hM : M ≤ 2 ^ 36) : BQ (2 ^ 40) (2 ^ 40) (q.map crat) := h.qb.gq.bq.mono (by omega) (by omega)
theorem bb_of {A B : List Rat} (hA : CX 7 9 A) (hB : CX 7 9 B) (tA : trimq A = A) (tB : trimq B = B) : BB A B := by
  have S := bs_of hA hB tA tB
  refine ⟨S.g.bq (by omega) (by omega), S.u.bq (by omega) (by omega), S.v.bq (by omega) (by omega), ?_⟩
  rw [ivl]
  split
  · exact nil_bq _ _
  · split
    · exact S.u.bq (by omega) (by omega)
    · exact nil_bq _ _
def RawPs (p : List (List RI)) : Prop := p.length ≤ 9223372036854775807 ∧ ∀ c ∈ p, Raw c
end Go.Proofs.YtenlbifnhdmnnaaGreat

namespace Go.Proofs.YtenlbifnhdmnnaaGreat
open Go Go.Proofs Go.AL
set_option linter.unusedSimpArgs false
set_option linter.unusedVariables false
theorem ttimesy {A B : List Rat} {n m M N : Nat} (hA : CX n M A) (qA : QB 1000 (2 ^ 32) A) (hB : CX m N B) (hn : n ≤ 1000) (hm : m ≤ 1000) (hM : M ≤ 15000000000) (hN : N ≤ 2 ^ 30) (h1 : 1 ≤ M) : AC Tryz.prog 13 [cqw (A.map crat), cqw (B.map crat)] none [cqp (mulq A B)] := by
  obtain ⟨D, cA⟩ := hA
  obtain ⟨E, cB⟩ := hB
  refine timesq_ok A B (qA.mono (by omega) (by omega)) (cB.qb.mono (by omega) (by omega)) fun i k => ?_
  have := cA.part cB (by omega) i k
  omega
theorem bv_mul {A B : List Rat} (Z : BZ A B) : trimq (mulq (bzv A B) B) = bzr A B := by
  rw [bzr]
  refine trimq_ext fun k => ?_
  have e := congrArg (fun f => PQ.c f k) Z.id
  simp only [PQ.c_add, ← pq_mulq, pq_c] at e
  rw [cfq_subq, cfq_trimq]
  grind
theorem br_add {A B : List Rat} (Z : BZ A B) : trimq (addq (trimq (mulq (bzu A B) A)) (bzr A B)) = bzg A B := by
  rw [← Z.gt]
  refine trimq_ext fun k => ?_
  rw [bzr, cfq_addq, cfq_trimq, cfq_trimq, cfq_subq, cfq_trimq]
  grind
theorem br_cx {A B : List Rat} (hA : CX 7 9 A) (S : BS A B) : CX 14 487400000 (bzr A B) := ((S.g.sub ((S.u.mul hA).trim)).trim).mono (by omega) (by omega)
def bzo (A B : List Rat) : List Rat := trimq (subq (trimq (mulq (bzu A B) A)) [1])
theorem bo_cx {A B : List Rat} (hA : CX 7 9 A) (S : BS A B) : CX 14 487400000 (bzo A B) := ((((S.u.mul hA).trim).sub (cx_one 1 1 (by omega) (by omega))).trim).mono (by omega) (by omega)
theorem bo_dv {A B : List Rat} (hA : CX 7 9 A) (hB : CX 7 9 B) (tB : trimq B = B) (hb : B.length ≠ 0) (S : BS A B) : DV (bzo A B) B (qnn (bzo A B) B) 489000000 := by
  obtain ⟨D, hX⟩ := bo_cx hA S
  obtain ⟨E2, hY⟩ := hB
  obtain ⟨n, v⟩ := dv_steps (s := 15) hX ((hY.clr_pb).mono (show 7 ≤ 14 by omega) (Nat.le_refl _)) ((hY.qb).mono (show 7 ≤ 14 by omega) (show 9 ≤ 487400000 by omega)) (trimq_trimq _) tB hb (by have := hX.l; omega) (by omega) (by omega) (by omega)
  have e := v.nn
  rw [show bzo A B = trimq (subq (trimq (mulq (bzu A B) A)) [1]) from rfl]
  rw [show bzo A B = trimq (subq (trimq (mulq (bzu A B) A)) [1]) from rfl] at e
  rw [e]
  exact ⟨v.la, v.lb, v.h0, v.hb, v.ta, v.tb, v.en, v.hj, fun k hk i => Nat.le_trans (v.za k hk i) (by omega), fun i => Nat.le_trans (v.zb i) (by omega), by omega, by omega⟩
theorem bo_rest {A B : List Rat} (Z : BZ A B) (hg : (bzg A B).length = 1) (v : DV (bzo A B) B (qnn (bzo A B) B) 489000000) : qr (bzo A B) B = [] := by
  refine (qs_exact (S := sclq (-1) (bzv A B)) v ?_).2
  obtain ⟨c, hc⟩ := List.length_eq_one_iff.mp hg
  have h1 := Z.one (by omega)
  rw [lq, hc] at h1
  have hc1 : c = 1 := h1
  have e0 := Z.id
  rw [hc, hc1, pq_one] at e0
  rw [bzo, pq_trimq, pq_subq, pq_trimq, pq_mulq, pq_one, pq_sclq, PQ.mul_assoc, ← e0]
  generalize pq (bzu A B) * pq A = x
  generalize pq (bzv A B) * pq B = y
  refine PQ.ext fun k => ?_
  rw [PQ.c_sub, PQ.c_add, PQ.C_mul_c]
  grind
set_option maxRecDepth 100000 in
set_option maxHeartbeats 1000000 in
theorem bezout14_law {x : C14} (h : Ok14 x) : AC Tryz.prog 3 [.agg (case14 x)] none [cb true] := by
  have le := less14_ok h
  have hF : BQ 7 1 (less14 x).F := fq1_bq h.F
  have hG : BQ 7 1 (less14 x).G := fq1_bq h.G
  generalize less14 x = y at *
  have cF := copyq_ok y.F (hF.mono (by omega) (by omega))
  have cG := copyq_ok y.G (hG.mono (by omega) (by omega))
  have hsp : splice (case14 x) 0 (case14 y) = case14 y := rfl
  have o1 := okq_ok y.F (hF.mono (by omega) (by omega))
  have o2 := okq_ok y.G (hG.mono (by omega) (by omega))
  by_cases hg : gd y.F = true ∧ gd y.G = true
  · rw [hg.1] at o1
    rw [hg.2] at o2
    have gF := hF.gq hg.1
    have gG := hG.gq hg.2
    have hA := few_cx gF
    have hB := few_cx gG
    have tA := trimq_trimq (qvs y.F)
    have tB := trimq_trimq (qvs y.G)
    have m1 := pmon_ok y.F y.G gF gG
    have b1 := pbez_ok y.F y.G gF gG
    have i1 := pinv_ok y.F y.G gF gG
    have n1 := nq_ok y.F (gF.mono (by omega) (by omega))
    have n2 := nq_ok y.G (gG.mono (by omega) (by omega))
    rw [show cqp (qvs y.F) = cqw ((trimq (qvs y.F)).map crat) from rfl] at n1
    rw [show cqp (qvs y.G) = cqw ((trimq (qvs y.G)).map crat) from rfl] at n2
    generalize trimq (qvs y.F) = A at *
    generalize trimq (qvs y.G) = B at *
    have bb := bb_of hA hB tA tB
    have S := bs_of hA hB tA tB
    have Z := bz_of hA hB tA tB
    have sg := sameq11_self _ bb.g
    have mu := ttimesx S.u hA (by omega) (by omega) (by omega) (by omega) (by omega)
    have vq : QB 1000 (2 ^ 32) (bzv A B) := by
      by_cases hb : B.length = 0
      · rw [show bzv A B = [] by rw [bzv, if_pos hb]]
        exact (cx_nil 1 1 (by omega)).qb.mono (by omega) (by omega)
      · have F := qf_of hA hB tA tB hb
        rw [show bzv A B = qs (bzr A B) B by rw [bzv, if_neg hb]]
        exact (qs_qb F.v F.r.qb.1).1.mono (by omega) (by omega)
    have mv := ttimesy S.v vq hB (by omega) (by omega) (by omega) (by omega) (by omega)
    rw [show cqp (mulq (bzu A B) A) = cqw ((trimq (mulq (bzu A B) A)).map crat) from rfl] at mu
    rw [show cqp (mulq (bzv A B) B) = cqw ((bzr A B).map crat) from congrArg cqw (by rw [cqs, bv_mul Z])] at mv
    have rc := br_cx hA S
    have pl := plusq_ok (trimq (mulq (bzu A B) A)) (bzr A B) (((S.u.mul hA).trim).qb.mono (by omega) (by omega)) (rc.qb.mono (by omega) (by omega))
    rw [show cqp (addq (trimq (mulq (bzu A B) A)) (bzr A B)) = cqw ((bzg A B).map crat) from congrArg cqw (by rw [cqs, br_add Z])] at pl
    have ss := hsame_ok (crat 1) (crat 1) (szq_crat (by rw [qz_one]; omega)) (szq_crat (by rw [qz_one]; omega))
    rw [decide_eq_true rfl] at ss
    have one := Z.one
    have deg := Z.deg
    have l0 := hA.qb.1
    have l1 := hB.qb.1
    have l2 := S.g.qb.1
    have l3 := S.u.qb.1
    have gml : ((bzg A B).map crat).length = (bzg A B).length := List.length_map _
    have uml : ((bzu A B).map crat).length = (bzu A B).length := List.length_map _
    have aml : (A.map crat).length = A.length := List.length_map _
    have bml : (B.map crat).length = B.length := List.length_map _
    have ls := tlessx ((S.u.mul hA).trim) (cx_one 1 1 (by omega) (by omega)) (by omega) (by omega) (by omega) (by omega)
    rw [show trimq (subq (trimq (mulq (bzu A B) A)) [1]) = bzo A B from rfl] at ls
    have tp1 := tP_ok [1] (by decide) (by decide)
    have ov1 := overq_ok (cn [1]) ((rp_cn (n := 9) (small_pb [1] 9 (by decide) (by decide +kernel))).mono (by omega) (by omega))
    rw [pv_cnt (X := [1]) (by decide), show cqp (qp [1]) = cqw (([1] : List Rat).map crat) from congrArg cqw (by rw [cqs]; decide +kernel)] at ov1
    have i9 : [[IV.int .i64 1]] = ilims [1] := rfl
    have hir : ∀ l : List Int, (∀ r ∈ ilims l, r.length = 1) ↔ True := fun l => by simp [ilims]
    by_cases hb : B.length = 0
    · have hb' : ((B.length : Nat) : Int) = 0 := by omega
      rw [ivl, ive, if_pos hb, if_pos hb] at i1
      by_cases hg0 : (bzg A B).length = 0
      · have g0' : ¬ (0 : Int) < (((bzg A B).length : Nat) : Int) := by omega
        have hb2 : ¬ (0 : Int) < ((B.length : Nat) : Int) := by omega
        refine AC.by_walk (rs := [.tmp 2]) ords Tryz.func3 (by rfl) (by rfl) (by rfl) (by rfl) (by rfl) ?_
        simp (disch := omega) only [wk, tis, seval, reduceCtorEq, Nat.reduceEqDiff, rqs, cpoly_len, polys_len]
        refine call_by (fixed14_ok) (by rfl) (by simp) ?_
        simp (disch := omega) only [wk, tis, seval, reduceCtorEq, Nat.reduceEqDiff, rqs, cpoly_len, polys_len]
        refine call_by (le) (by first | rfl | (simp only [tocvs, tocv, hsp]; rfl) | (simp only [tocvs, tocv, toboxes, tobox, updH_at, Nat.reduceEqDiff, ↓reduceIte, hsp]; rfl)) (by simp) ?_
        simp (disch := omega) only [wk, tis, seval, reduceCtorEq, Nat.reduceEqDiff, rqs, cpoly_len, polys_len, hsp]
        refine call_by (o1) (by first | rfl | (simp only [tocvs, tocv, hsp]; rfl) | (simp only [tocvs, tocv, toboxes, tobox, updH_at, Nat.reduceEqDiff, ↓reduceIte, hsp]; rfl)) (by simp) ?_
        simp (disch := omega) only [wk, tis, seval, reduceCtorEq, Nat.reduceEqDiff, rqs, cpoly_len, polys_len, hsp]
        refine call_by (o2) (by first | rfl | (simp only [tocvs, tocv, hsp]; rfl) | (simp only [tocvs, tocv, toboxes, tobox, updH_at, Nat.reduceEqDiff, ↓reduceIte, hsp]; rfl)) (by simp) ?_
        simp (disch := omega) only [wk, tis, seval, reduceCtorEq, Nat.reduceEqDiff, rqs, cpoly_len, polys_len, hsp]
        refine ⟨tmps_by (by kernel_rfl), ?_⟩
        refine call_by (n1) (by rfl) (by simp) ?_
        simp (disch := omega) only [wk, tis, seval, reduceCtorEq, Nat.reduceEqDiff, rqs, cpoly_len, polys_len]
        refine call_by (n2) (by rfl) (by simp) ?_
        simp (disch := omega) only [wk, tis, seval, reduceCtorEq, Nat.reduceEqDiff, rqs, cpoly_len, polys_len]
        first | exact log_by (by kernel_rfl) | refine ⟨log_by (by kernel_rfl), ?_⟩
        refine ⟨tmps_by (by kernel_rfl), ?_⟩
        refine call_by (cF) (by rfl) (by simp) ?_
        simp (disch := omega) only [wk, tis, seval, reduceCtorEq, Nat.reduceEqDiff, rqs, cpoly_len, polys_len]
        refine call_by (cG) (by rfl) (by simp) ?_
        simp (disch := omega) only [wk, tis, seval, reduceCtorEq, Nat.reduceEqDiff, rqs, cpoly_len, polys_len]
        refine call_by (b1) (by rfl) (by simp) ?_
        simp (disch := omega) only [wk, tis, seval, reduceCtorEq, Nat.reduceEqDiff, rqs, cpoly_len, polys_len]
        first | exact log_by (by kernel_rfl) | refine ⟨log_by (by kernel_rfl), ?_⟩
        refine ⟨tmps_by (by kernel_rfl), ?_⟩
        refine call_by (cF) (by rfl) (by simp) ?_
        simp (disch := omega) only [wk, tis, seval, reduceCtorEq, Nat.reduceEqDiff, rqs, cpoly_len, polys_len]
        refine call_by (cG) (by rfl) (by simp) ?_
        simp (disch := omega) only [wk, tis, seval, reduceCtorEq, Nat.reduceEqDiff, rqs, cpoly_len, polys_len]
        refine call_by (m1) (by rfl) (by simp) ?_
        simp (disch := omega) only [wk, tis, seval, reduceCtorEq, Nat.reduceEqDiff, rqs, cpoly_len, polys_len]
        first | exact log_by (by kernel_rfl) | refine ⟨log_by (by kernel_rfl), ?_⟩
        refine call_by (sg) (by rfl) (by simp) ?_
        simp (disch := omega) only [wk, tis, seval, reduceCtorEq, Nat.reduceEqDiff, rqs, cpoly_len, polys_len]
        refine call_by (mu) (by rfl) (by simp) ?_
        simp (disch := omega) only [wk, tis, seval, reduceCtorEq, Nat.reduceEqDiff, rqs, cpoly_len, polys_len]
        refine call_by (mv) (by rfl) (by simp) ?_
        simp (disch := omega) only [wk, tis, seval, reduceCtorEq, Nat.reduceEqDiff, rqs, cpoly_len, polys_len]
        refine call_by (pl) (by rfl) (by simp) ?_
        simp (disch := omega) only [wk, tis, seval, reduceCtorEq, Nat.reduceEqDiff, rqs, cpoly_len, polys_len]
        refine call_by (sg) (by first | rfl | (simp only [tocvs, tocv, gml, uml, bml, aml, g0', hb2, hb']; rfl) | (simp only [tocvs, tocv, toboxes, tobox, updH_at, Nat.reduceEqDiff, ↓reduceIte, gml, uml, bml, aml, g0', hb2, hb']; rfl)) (by simp) ?_
        simp (disch := omega) only [wk, tis, seval, reduceCtorEq, Nat.reduceEqDiff, rqs, cpoly_len, polys_len, gml, uml, bml, aml, g0', hb2, hb']
        refine ⟨tmps_by (by kernel_rfl), ?_⟩
        first | exact log_by (by kernel_rfl) | refine ⟨log_by (by kernel_rfl), ?_⟩
        try simp (disch := omega) only [wk, tis, seval, reduceCtorEq, Nat.reduceEqDiff, rqs, cpoly_len, polys_len, gml, uml, bml, aml, g0', hb2, hb']
        refine ⟨tmps_by (by kernel_rfl), ?_⟩
        refine call_by (cF) (by rfl) (by simp) ?_
        simp (disch := omega) only [wk, tis, seval, reduceCtorEq, Nat.reduceEqDiff, rqs, cpoly_len, polys_len]
        refine call_by (cG) (by rfl) (by simp) ?_
        simp (disch := omega) only [wk, tis, seval, reduceCtorEq, Nat.reduceEqDiff, rqs, cpoly_len, polys_len]
        refine call_by (i1) (by first | rfl | (simp only [tocvs, tocv, gml, uml, bml, aml, g0', hb2, hb']; rfl) | (simp only [tocvs, tocv, toboxes, tobox, updH_at, Nat.reduceEqDiff, ↓reduceIte, gml, uml, bml, aml, g0', hb2, hb']; rfl)) (by simp) ?_
        simp (disch := omega) only [wk, tis, seval, reduceCtorEq, Nat.reduceEqDiff, rqs, cpoly_len, polys_len, gml, uml, bml, aml, g0', hb2, hb']
        first | exact log_by (by kernel_rfl) | refine ⟨log_by (by kernel_rfl), ?_⟩
        try simp (disch := omega) only [wk, tis, seval, reduceCtorEq, Nat.reduceEqDiff, rqs, cpoly_len, polys_len, gml, uml, bml, aml, g0', hb2, hb']
        try rfl
      · have g0' : (0 : Int) < (((bzg A B).length : Nat) : Int) := by omega
        have hb2 : ¬ (0 : Int) < ((B.length : Nat) : Int) := by omega
        have gat := cratq_get (q := bzg A B) (i := (bzg A B).length - 1) (by omega)
        rw [show cfq (bzg A B) ((bzg A B).length - 1) = 1 from one hg0] at gat
        have gel : ((bzg A B).length : Int) - 1 = (((bzg A B).length - 1 : Nat) : Int) := by omega
        refine AC.by_walk (rs := [.tmp 2]) ords Tryz.func3 (by rfl) (by rfl) (by rfl) (by rfl) (by rfl) ?_
        simp (disch := omega) only [wk, tis, seval, reduceCtorEq, Nat.reduceEqDiff, rqs, cpoly_len, polys_len]
        refine call_by (fixed14_ok) (by rfl) (by simp) ?_
        simp (disch := omega) only [wk, tis, seval, reduceCtorEq, Nat.reduceEqDiff, rqs, cpoly_len, polys_len]
        refine call_by (le) (by first | rfl | (simp only [tocvs, tocv, hsp]; rfl) | (simp only [tocvs, tocv, toboxes, tobox, updH_at, Nat.reduceEqDiff, ↓reduceIte, hsp]; rfl)) (by simp) ?_
        simp (disch := omega) only [wk, tis, seval, reduceCtorEq, Nat.reduceEqDiff, rqs, cpoly_len, polys_len, hsp]
        refine call_by (o1) (by first | rfl | (simp only [tocvs, tocv, hsp]; rfl) | (simp only [tocvs, tocv, toboxes, tobox, updH_at, Nat.reduceEqDiff, ↓reduceIte, hsp]; rfl)) (by simp) ?_
        simp (disch := omega) only [wk, tis, seval, reduceCtorEq, Nat.reduceEqDiff, rqs, cpoly_len, polys_len, hsp]
        refine call_by (o2) (by first | rfl | (simp only [tocvs, tocv, hsp]; rfl) | (simp only [tocvs, tocv, toboxes, tobox, updH_at, Nat.reduceEqDiff, ↓reduceIte, hsp]; rfl)) (by simp) ?_
        simp (disch := omega) only [wk, tis, seval, reduceCtorEq, Nat.reduceEqDiff, rqs, cpoly_len, polys_len, hsp]
        refine ⟨tmps_by (by kernel_rfl), ?_⟩
        refine call_by (n1) (by rfl) (by simp) ?_
        simp (disch := omega) only [wk, tis, seval, reduceCtorEq, Nat.reduceEqDiff, rqs, cpoly_len, polys_len]
        refine call_by (n2) (by rfl) (by simp) ?_
        simp (disch := omega) only [wk, tis, seval, reduceCtorEq, Nat.reduceEqDiff, rqs, cpoly_len, polys_len]
        first | exact log_by (by kernel_rfl) | refine ⟨log_by (by kernel_rfl), ?_⟩
        refine ⟨tmps_by (by kernel_rfl), ?_⟩
        refine call_by (cF) (by rfl) (by simp) ?_
        simp (disch := omega) only [wk, tis, seval, reduceCtorEq, Nat.reduceEqDiff, rqs, cpoly_len, polys_len]
        refine call_by (cG) (by rfl) (by simp) ?_
        simp (disch := omega) only [wk, tis, seval, reduceCtorEq, Nat.reduceEqDiff, rqs, cpoly_len, polys_len]
        refine call_by (b1) (by rfl) (by simp) ?_
        simp (disch := omega) only [wk, tis, seval, reduceCtorEq, Nat.reduceEqDiff, rqs, cpoly_len, polys_len]
        first | exact log_by (by kernel_rfl) | refine ⟨log_by (by kernel_rfl), ?_⟩
        refine ⟨tmps_by (by kernel_rfl), ?_⟩
        refine call_by (cF) (by rfl) (by simp) ?_
        simp (disch := omega) only [wk, tis, seval, reduceCtorEq, Nat.reduceEqDiff, rqs, cpoly_len, polys_len]
        refine call_by (cG) (by rfl) (by simp) ?_
        simp (disch := omega) only [wk, tis, seval, reduceCtorEq, Nat.reduceEqDiff, rqs, cpoly_len, polys_len]
        refine call_by (m1) (by rfl) (by simp) ?_
        simp (disch := omega) only [wk, tis, seval, reduceCtorEq, Nat.reduceEqDiff, rqs, cpoly_len, polys_len]
        first | exact log_by (by kernel_rfl) | refine ⟨log_by (by kernel_rfl), ?_⟩
        refine call_by (sg) (by rfl) (by simp) ?_
        simp (disch := omega) only [wk, tis, seval, reduceCtorEq, Nat.reduceEqDiff, rqs, cpoly_len, polys_len]
        refine call_by (mu) (by rfl) (by simp) ?_
        simp (disch := omega) only [wk, tis, seval, reduceCtorEq, Nat.reduceEqDiff, rqs, cpoly_len, polys_len]
        refine call_by (mv) (by rfl) (by simp) ?_
        simp (disch := omega) only [wk, tis, seval, reduceCtorEq, Nat.reduceEqDiff, rqs, cpoly_len, polys_len]
        refine call_by (pl) (by rfl) (by simp) ?_
        simp (disch := omega) only [wk, tis, seval, reduceCtorEq, Nat.reduceEqDiff, rqs, cpoly_len, polys_len]
        refine call_by (sg) (by first | rfl | (simp only [tocvs, tocv, gml, uml, bml, aml, g0', hb2, hb', gel, gat]; rfl) | (simp only [tocvs, tocv, toboxes, tobox, updH_at, Nat.reduceEqDiff, ↓reduceIte, gml, uml, bml, aml, g0', hb2, hb', gel, gat]; rfl)) (by simp) ?_
        simp (disch := omega) only [wk, tis, seval, reduceCtorEq, Nat.reduceEqDiff, rqs, cpoly_len, polys_len, gml, uml, bml, aml, g0', hb2, hb', gel, gat]
        refine ⟨tmps_by (by kernel_rfl), ?_⟩
        refine call_by (hone_ok) (by first | rfl | (simp only [tocvs, tocv, gml, uml, bml, aml, g0', hb2, hb', gel, gat]; rfl) | (simp only [tocvs, tocv, toboxes, tobox, updH_at, Nat.reduceEqDiff, ↓reduceIte, gml, uml, bml, aml, g0', hb2, hb', gel, gat]; rfl)) (by simp) ?_
        simp (disch := omega) only [wk, tis, seval, reduceCtorEq, Nat.reduceEqDiff, rqs, cpoly_len, polys_len, gml, uml, bml, aml, g0', hb2, hb', gel, gat]
        refine call_by (ss) (by first | rfl | (simp only [tocvs, tocv, gml, uml, bml, aml, g0', hb2, hb', gel, gat]; rfl) | (simp only [tocvs, tocv, toboxes, tobox, updH_at, Nat.reduceEqDiff, ↓reduceIte, gml, uml, bml, aml, g0', hb2, hb', gel, gat]; rfl)) (by simp) ?_
        simp (disch := omega) only [wk, tis, seval, reduceCtorEq, Nat.reduceEqDiff, rqs, cpoly_len, polys_len, gml, uml, bml, aml, g0', hb2, hb', gel, gat]
        first | exact log_by (by kernel_rfl) | refine ⟨log_by (by kernel_rfl), ?_⟩
        try simp (disch := omega) only [wk, tis, seval, reduceCtorEq, Nat.reduceEqDiff, rqs, cpoly_len, polys_len, gml, uml, bml, aml, g0', hb2, hb', gel, gat]
        refine ⟨tmps_by (by kernel_rfl), ?_⟩
        refine call_by (cF) (by rfl) (by simp) ?_
        simp (disch := omega) only [wk, tis, seval, reduceCtorEq, Nat.reduceEqDiff, rqs, cpoly_len, polys_len]
        refine call_by (cG) (by rfl) (by simp) ?_
        simp (disch := omega) only [wk, tis, seval, reduceCtorEq, Nat.reduceEqDiff, rqs, cpoly_len, polys_len]
        refine call_by (i1) (by first | rfl | (simp only [tocvs, tocv, gml, uml, bml, aml, g0', hb2, hb', gel, gat]; rfl) | (simp only [tocvs, tocv, toboxes, tobox, updH_at, Nat.reduceEqDiff, ↓reduceIte, gml, uml, bml, aml, g0', hb2, hb', gel, gat]; rfl)) (by simp) ?_
        simp (disch := omega) only [wk, tis, seval, reduceCtorEq, Nat.reduceEqDiff, rqs, cpoly_len, polys_len, gml, uml, bml, aml, g0', hb2, hb', gel, gat]
        first | exact log_by (by kernel_rfl) | refine ⟨log_by (by kernel_rfl), ?_⟩
        try simp (disch := omega) only [wk, tis, seval, reduceCtorEq, Nat.reduceEqDiff, rqs, cpoly_len, polys_len, gml, uml, bml, aml, g0', hb2, hb', gel, gat]
        try rfl
    · have hb' : ¬ ((B.length : Nat) : Int) = 0 := by omega
      have hb2 : (0 : Int) < ((B.length : Nat) : Int) := by omega
      have hg0 := Z.gn (.inr hb)
      have dg := deg hb
      have g0' : (0 : Int) < (((bzg A B).length : Nat) : Int) := by omega
      have gat := cratq_get (q := bzg A B) (i := (bzg A B).length - 1) (by omega)
      rw [show cfq (bzg A B) ((bzg A B).length - 1) = 1 from one hg0] at gat
      have gel : ((bzg A B).length : Int) - 1 = (((bzg A B).length - 1 : Nat) : Int) := by omega
      have hu' : ¬ (((B.length : Nat) : Int) - (((bzg A B).length : Nat) : Int) < (((bzu A B).length : Nat) : Int)) := by omega
      rw [ivl, ive, if_neg hb, if_neg hb] at i1
      by_cases hg1 : (bzg A B).length = 1
      · rw [if_pos hg1, if_pos hg1] at i1
        have hg1' : (((bzg A B).length : Nat) : Int) = 1 := by omega
        have hul : (((bzu A B).length : Nat) : Int) < ((B.length : Nat) : Int) := by omega
        have v := bo_dv hA hB tB hb S
        have dv := tdivx v (by omega) (bo_cx hA S) hB (by omega) (by omega) (by omega) (by omega)
        rw [bo_rest Z hg1 v] at dv
        have hu1 : ¬ (((B.length : Nat) : Int) - 1 < (((bzu A B).length : Nat) : Int)) := by omega
        have gat0 : ((bzg A B).map crat).getD 0 q0 = crat 1 := by rw [hg1] at gat; exact gat
        have nl : ((([] : List Rat).map crat).length : Int) = 0 := rfl
        refine AC.by_walk (rs := [.tmp 2]) ords Tryz.func3 (by rfl) (by rfl) (by rfl) (by rfl) (by rfl) ?_
        simp (disch := omega) only [wk, tis, seval, reduceCtorEq, Nat.reduceEqDiff, rqs, cpoly_len, polys_len]
        refine call_by (fixed14_ok) (by rfl) (by simp) ?_
        simp (disch := omega) only [wk, tis, seval, reduceCtorEq, Nat.reduceEqDiff, rqs, cpoly_len, polys_len]
        refine call_by (le) (by first | rfl | (simp only [tocvs, tocv, hsp]; rfl) | (simp only [tocvs, tocv, toboxes, tobox, updH_at, Nat.reduceEqDiff, ↓reduceIte, hsp]; rfl)) (by simp) ?_
        simp (disch := omega) only [wk, tis, seval, reduceCtorEq, Nat.reduceEqDiff, rqs, cpoly_len, polys_len, hsp]
        refine call_by (o1) (by first | rfl | (simp only [tocvs, tocv, hsp]; rfl) | (simp only [tocvs, tocv, toboxes, tobox, updH_at, Nat.reduceEqDiff, ↓reduceIte, hsp]; rfl)) (by simp) ?_
        simp (disch := omega) only [wk, tis, seval, reduceCtorEq, Nat.reduceEqDiff, rqs, cpoly_len, polys_len, hsp]
        refine call_by (o2) (by first | rfl | (simp only [tocvs, tocv, hsp]; rfl) | (simp only [tocvs, tocv, toboxes, tobox, updH_at, Nat.reduceEqDiff, ↓reduceIte, hsp]; rfl)) (by simp) ?_
        simp (disch := omega) only [wk, tis, seval, reduceCtorEq, Nat.reduceEqDiff, rqs, cpoly_len, polys_len, hsp]
        refine ⟨tmps_by (by kernel_rfl), ?_⟩
        refine call_by (n1) (by rfl) (by simp) ?_
        simp (disch := omega) only [wk, tis, seval, reduceCtorEq, Nat.reduceEqDiff, rqs, cpoly_len, polys_len]
        refine call_by (n2) (by rfl) (by simp) ?_
        simp (disch := omega) only [wk, tis, seval, reduceCtorEq, Nat.reduceEqDiff, rqs, cpoly_len, polys_len]
        first | exact log_by (by kernel_rfl) | refine ⟨log_by (by kernel_rfl), ?_⟩
        refine ⟨tmps_by (by kernel_rfl), ?_⟩
        refine call_by (cF) (by rfl) (by simp) ?_
        simp (disch := omega) only [wk, tis, seval, reduceCtorEq, Nat.reduceEqDiff, rqs, cpoly_len, polys_len]
        refine call_by (cG) (by rfl) (by simp) ?_
        simp (disch := omega) only [wk, tis, seval, reduceCtorEq, Nat.reduceEqDiff, rqs, cpoly_len, polys_len]
        refine call_by (b1) (by rfl) (by simp) ?_
        simp (disch := omega) only [wk, tis, seval, reduceCtorEq, Nat.reduceEqDiff, rqs, cpoly_len, polys_len]
        first | exact log_by (by kernel_rfl) | refine ⟨log_by (by kernel_rfl), ?_⟩
        refine ⟨tmps_by (by kernel_rfl), ?_⟩
        refine call_by (cF) (by rfl) (by simp) ?_
        simp (disch := omega) only [wk, tis, seval, reduceCtorEq, Nat.reduceEqDiff, rqs, cpoly_len, polys_len]
        refine call_by (cG) (by rfl) (by simp) ?_
        simp (disch := omega) only [wk, tis, seval, reduceCtorEq, Nat.reduceEqDiff, rqs, cpoly_len, polys_len]
        refine call_by (m1) (by rfl) (by simp) ?_
        simp (disch := omega) only [wk, tis, seval, reduceCtorEq, Nat.reduceEqDiff, rqs, cpoly_len, polys_len]
        first | exact log_by (by kernel_rfl) | refine ⟨log_by (by kernel_rfl), ?_⟩
        refine call_by (sg) (by rfl) (by simp) ?_
        simp (disch := omega) only [wk, tis, seval, reduceCtorEq, Nat.reduceEqDiff, rqs, cpoly_len, polys_len]
        refine call_by (mu) (by rfl) (by simp) ?_
        simp (disch := omega) only [wk, tis, seval, reduceCtorEq, Nat.reduceEqDiff, rqs, cpoly_len, polys_len]
        refine call_by (mv) (by rfl) (by simp) ?_
        simp (disch := omega) only [wk, tis, seval, reduceCtorEq, Nat.reduceEqDiff, rqs, cpoly_len, polys_len]
        refine call_by (pl) (by rfl) (by simp) ?_
        simp (disch := omega) only [wk, tis, seval, reduceCtorEq, Nat.reduceEqDiff, rqs, cpoly_len, polys_len]
        refine call_by (sg) (by first | rfl | (simp only [tocvs, tocv, gml, uml, bml, aml, g0', hb2, hb', hu', gel, gat, hg1', gat0, hu1]; rfl) | (simp only [tocvs, tocv, toboxes, tobox, updH_at, Nat.reduceEqDiff, ↓reduceIte, gml, uml, bml, aml, g0', hb2, hb', hu', gel, gat, hg1', gat0, hu1]; rfl)) (by simp) ?_
        simp (disch := omega) only [wk, tis, seval, reduceCtorEq, Nat.reduceEqDiff, rqs, cpoly_len, polys_len, gml, uml, bml, aml, g0', hb2, hb', hu', gel, gat, hg1', gat0, hu1]
        refine ⟨tmps_by (by kernel_rfl), ?_⟩
        refine call_by (hone_ok) (by first | rfl | (simp only [tocvs, tocv, gml, uml, bml, aml, g0', hb2, hb', hu', gel, gat, hg1', gat0, hu1]; rfl) | (simp only [tocvs, tocv, toboxes, tobox, updH_at, Nat.reduceEqDiff, ↓reduceIte, gml, uml, bml, aml, g0', hb2, hb', hu', gel, gat, hg1', gat0, hu1]; rfl)) (by simp) ?_
        simp (disch := omega) only [wk, tis, seval, reduceCtorEq, Nat.reduceEqDiff, rqs, cpoly_len, polys_len, gml, uml, bml, aml, g0', hb2, hb', hu', gel, gat, hg1', gat0, hu1]
        refine call_by (ss) (by first | rfl | (simp only [tocvs, tocv, gml, uml, bml, aml, g0', hb2, hb', hu', gel, gat, hg1', gat0, hu1]; rfl) | (simp only [tocvs, tocv, toboxes, tobox, updH_at, Nat.reduceEqDiff, ↓reduceIte, gml, uml, bml, aml, g0', hb2, hb', hu', gel, gat, hg1', gat0, hu1]; rfl)) (by simp) ?_
        simp (disch := omega) only [wk, tis, seval, reduceCtorEq, Nat.reduceEqDiff, rqs, cpoly_len, polys_len, gml, uml, bml, aml, g0', hb2, hb', hu', gel, gat, hg1', gat0, hu1]
        first | exact log_by (by kernel_rfl) | refine ⟨log_by (by kernel_rfl), ?_⟩
        try simp (disch := omega) only [wk, tis, seval, reduceCtorEq, Nat.reduceEqDiff, rqs, cpoly_len, polys_len, gml, uml, bml, aml, g0', hb2, hb', hu', gel, gat, hg1', gat0, hu1]
        refine ⟨tmps_by (by kernel_rfl), ?_⟩
        refine call_by (cF) (by rfl) (by simp) ?_
        simp (disch := omega) only [wk, tis, seval, reduceCtorEq, Nat.reduceEqDiff, rqs, cpoly_len, polys_len]
        refine call_by (cG) (by rfl) (by simp) ?_
        simp (disch := omega) only [wk, tis, seval, reduceCtorEq, Nat.reduceEqDiff, rqs, cpoly_len, polys_len]
        refine call_by (i1) (by first | rfl | (simp only [tocvs, tocv, gml, uml, bml, aml, g0', hb2, hb', hu', gel, gat, hg1', gat0, hu1]; rfl) | (simp only [tocvs, tocv, toboxes, tobox, updH_at, Nat.reduceEqDiff, ↓reduceIte, gml, uml, bml, aml, g0', hb2, hb', hu', gel, gat, hg1', gat0, hu1]; rfl)) (by simp) ?_
        simp (disch := omega) only [wk, tis, seval, reduceCtorEq, Nat.reduceEqDiff, rqs, cpoly_len, polys_len, gml, uml, bml, aml, g0', hb2, hb', hu', gel, gat, hg1', gat0, hu1]
        first | exact log_by (by kernel_rfl) | refine ⟨log_by (by kernel_rfl), ?_⟩
        try simp (disch := omega) only [wk, tis, seval, reduceCtorEq, Nat.reduceEqDiff, rqs, cpoly_len, polys_len, gml, uml, bml, aml, g0', hb2, hb', hu', gel, gat, hg1', gat0, hu1]
        refine call_by (mu) (by rfl) (by simp) ?_
        simp (disch := omega) only [wk, tis, seval, reduceCtorEq, Nat.reduceEqDiff, rqs, cpoly_len, polys_len]
        refine call_by (tp1) (by first | rfl | (simp only [tocvs, tocv, i9, hir]; rfl) | (simp only [tocvs, tocv, toboxes, tobox, updH_at, Nat.reduceEqDiff, ↓reduceIte, i9, hir]; rfl)) (by simp) ?_
        simp (disch := omega) only [wk, tis, seval, reduceCtorEq, Nat.reduceEqDiff, rqs, cpoly_len, polys_len, i9, hir]
        refine call_by (ov1) (by rfl) (by simp) ?_
        simp (disch := omega) only [wk, tis, seval, reduceCtorEq, Nat.reduceEqDiff, rqs, cpoly_len, polys_len]
        refine call_by (ls) (by rfl) (by simp) ?_
        simp (disch := omega) only [wk, tis, seval, reduceCtorEq, Nat.reduceEqDiff, rqs, cpoly_len, polys_len]
        refine call_by (dv) (by first | rfl | (simp only [tocvs, tocv, nl, uml, bml, hul]; rfl) | (simp only [tocvs, tocv, toboxes, tobox, updH_at, Nat.reduceEqDiff, ↓reduceIte, nl, uml, bml, hul]; rfl)) (by simp) ?_
        simp (disch := omega) only [wk, tis, seval, reduceCtorEq, Nat.reduceEqDiff, rqs, cpoly_len, polys_len, nl, uml, bml, hul]
        try rfl
      · rw [if_neg hg1, if_neg hg1] at i1
        have hg1' : ¬ (((bzg A B).length : Nat) : Int) = 1 := by omega
        refine AC.by_walk (rs := [.tmp 2]) ords Tryz.func3 (by rfl) (by rfl) (by rfl) (by rfl) (by rfl) ?_
        simp (disch := omega) only [wk, tis, seval, reduceCtorEq, Nat.reduceEqDiff, rqs, cpoly_len, polys_len]
        refine call_by (fixed14_ok) (by rfl) (by simp) ?_
        simp (disch := omega) only [wk, tis, seval, reduceCtorEq, Nat.reduceEqDiff, rqs, cpoly_len, polys_len]
        refine call_by (le) (by first | rfl | (simp only [tocvs, tocv, hsp]; rfl) | (simp only [tocvs, tocv, toboxes, tobox, updH_at, Nat.reduceEqDiff, ↓reduceIte, hsp]; rfl)) (by simp) ?_
        simp (disch := omega) only [wk, tis, seval, reduceCtorEq, Nat.reduceEqDiff, rqs, cpoly_len, polys_len, hsp]
        refine call_by (o1) (by first | rfl | (simp only [tocvs, tocv, hsp]; rfl) | (simp only [tocvs, tocv, toboxes, tobox, updH_at, Nat.reduceEqDiff, ↓reduceIte, hsp]; rfl)) (by simp) ?_
        simp (disch := omega) only [wk, tis, seval, reduceCtorEq, Nat.reduceEqDiff, rqs, cpoly_len, polys_len, hsp]
        refine call_by (o2) (by first | rfl | (simp only [tocvs, tocv, hsp]; rfl) | (simp only [tocvs, tocv, toboxes, tobox, updH_at, Nat.reduceEqDiff, ↓reduceIte, hsp]; rfl)) (by simp) ?_
        simp (disch := omega) only [wk, tis, seval, reduceCtorEq, Nat.reduceEqDiff, rqs, cpoly_len, polys_len, hsp]
        refine ⟨tmps_by (by kernel_rfl), ?_⟩
        refine call_by (n1) (by rfl) (by simp) ?_
        simp (disch := omega) only [wk, tis, seval, reduceCtorEq, Nat.reduceEqDiff, rqs, cpoly_len, polys_len]
        refine call_by (n2) (by rfl) (by simp) ?_
        simp (disch := omega) only [wk, tis, seval, reduceCtorEq, Nat.reduceEqDiff, rqs, cpoly_len, polys_len]
        first | exact log_by (by kernel_rfl) | refine ⟨log_by (by kernel_rfl), ?_⟩
        refine ⟨tmps_by (by kernel_rfl), ?_⟩
        refine call_by (cF) (by rfl) (by simp) ?_
        simp (disch := omega) only [wk, tis, seval, reduceCtorEq, Nat.reduceEqDiff, rqs, cpoly_len, polys_len]
        refine call_by (cG) (by rfl) (by simp) ?_
        simp (disch := omega) only [wk, tis, seval, reduceCtorEq, Nat.reduceEqDiff, rqs, cpoly_len, polys_len]
        refine call_by (b1) (by rfl) (by simp) ?_
        simp (disch := omega) only [wk, tis, seval, reduceCtorEq, Nat.reduceEqDiff, rqs, cpoly_len, polys_len]
        first | exact log_by (by kernel_rfl) | refine ⟨log_by (by kernel_rfl), ?_⟩
        refine ⟨tmps_by (by kernel_rfl), ?_⟩
        refine call_by (cF) (by rfl) (by simp) ?_
        simp (disch := omega) only [wk, tis, seval, reduceCtorEq, Nat.reduceEqDiff, rqs, cpoly_len, polys_len]
        refine call_by (cG) (by rfl) (by simp) ?_
        simp (disch := omega) only [wk, tis, seval, reduceCtorEq, Nat.reduceEqDiff, rqs, cpoly_len, polys_len]
        refine call_by (m1) (by rfl) (by simp) ?_
        simp (disch := omega) only [wk, tis, seval, reduceCtorEq, Nat.reduceEqDiff, rqs, cpoly_len, polys_len]
        first | exact log_by (by kernel_rfl) | refine ⟨log_by (by kernel_rfl), ?_⟩
        refine call_by (sg) (by rfl) (by simp) ?_
        simp (disch := omega) only [wk, tis, seval, reduceCtorEq, Nat.reduceEqDiff, rqs, cpoly_len, polys_len]
        refine call_by (mu) (by rfl) (by simp) ?_
        simp (disch := omega) only [wk, tis, seval, reduceCtorEq, Nat.reduceEqDiff, rqs, cpoly_len, polys_len]
        refine call_by (mv) (by rfl) (by simp) ?_
        simp (disch := omega) only [wk, tis, seval, reduceCtorEq, Nat.reduceEqDiff, rqs, cpoly_len, polys_len]
        refine call_by (pl) (by rfl) (by simp) ?_
        simp (disch := omega) only [wk, tis, seval, reduceCtorEq, Nat.reduceEqDiff, rqs, cpoly_len, polys_len]
        refine call_by (sg) (by first | rfl | (simp only [tocvs, tocv, gml, uml, bml, aml, g0', hb2, hb', hu', gel, gat, hg1']; rfl) | (simp only [tocvs, tocv, toboxes, tobox, updH_at, Nat.reduceEqDiff, ↓reduceIte, gml, uml, bml, aml, g0', hb2, hb', hu', gel, gat, hg1']; rfl)) (by simp) ?_
        simp (disch := omega) only [wk, tis, seval, reduceCtorEq, Nat.reduceEqDiff, rqs, cpoly_len, polys_len, gml, uml, bml, aml, g0', hb2, hb', hu', gel, gat, hg1']
        refine ⟨tmps_by (by kernel_rfl), ?_⟩
        refine call_by (hone_ok) (by first | rfl | (simp only [tocvs, tocv, gml, uml, bml, aml, g0', hb2, hb', hu', gel, gat, hg1']; rfl) | (simp only [tocvs, tocv, toboxes, tobox, updH_at, Nat.reduceEqDiff, ↓reduceIte, gml, uml, bml, aml, g0', hb2, hb', hu', gel, gat, hg1']; rfl)) (by simp) ?_
        simp (disch := omega) only [wk, tis, seval, reduceCtorEq, Nat.reduceEqDiff, rqs, cpoly_len, polys_len, gml, uml, bml, aml, g0', hb2, hb', hu', gel, gat, hg1']
        refine call_by (ss) (by first | rfl | (simp only [tocvs, tocv, gml, uml, bml, aml, g0', hb2, hb', hu', gel, gat, hg1']; rfl) | (simp only [tocvs, tocv, toboxes, tobox, updH_at, Nat.reduceEqDiff, ↓reduceIte, gml, uml, bml, aml, g0', hb2, hb', hu', gel, gat, hg1']; rfl)) (by simp) ?_
        simp (disch := omega) only [wk, tis, seval, reduceCtorEq, Nat.reduceEqDiff, rqs, cpoly_len, polys_len, gml, uml, bml, aml, g0', hb2, hb', hu', gel, gat, hg1']
        first | exact log_by (by kernel_rfl) | refine ⟨log_by (by kernel_rfl), ?_⟩
        try simp (disch := omega) only [wk, tis, seval, reduceCtorEq, Nat.reduceEqDiff, rqs, cpoly_len, polys_len, gml, uml, bml, aml, g0', hb2, hb', hu', gel, gat, hg1']
        refine ⟨tmps_by (by kernel_rfl), ?_⟩
        refine call_by (cF) (by rfl) (by simp) ?_
        simp (disch := omega) only [wk, tis, seval, reduceCtorEq, Nat.reduceEqDiff, rqs, cpoly_len, polys_len]
        refine call_by (cG) (by rfl) (by simp) ?_
        simp (disch := omega) only [wk, tis, seval, reduceCtorEq, Nat.reduceEqDiff, rqs, cpoly_len, polys_len]
        refine call_by (i1) (by first | rfl | (simp only [tocvs, tocv, gml, uml, bml, aml, g0', hb2, hb', hu', gel, gat, hg1']; rfl) | (simp only [tocvs, tocv, toboxes, tobox, updH_at, Nat.reduceEqDiff, ↓reduceIte, gml, uml, bml, aml, g0', hb2, hb', hu', gel, gat, hg1']; rfl)) (by simp) ?_
        simp (disch := omega) only [wk, tis, seval, reduceCtorEq, Nat.reduceEqDiff, rqs, cpoly_len, polys_len, gml, uml, bml, aml, g0', hb2, hb', hu', gel, gat, hg1']
        first | exact log_by (by kernel_rfl) | refine ⟨log_by (by kernel_rfl), ?_⟩
        try simp (disch := omega) only [wk, tis, seval, reduceCtorEq, Nat.reduceEqDiff, rqs, cpoly_len, polys_len, gml, uml, bml, aml, g0', hb2, hb', hu', gel, gat, hg1']
        try rfl
  · have hbad : gd y.F = false ∨ gd y.G = false := by
      cases e : gd y.F with
      | false => exact .inl rfl
      | true => exact .inr (by cases e2 : gd y.G with
        | false => rfl
        | true => exact absurd ⟨e, e2⟩ hg)
    have m1 := pmon_bad y.F y.G hF hG hbad
    cases e : gd y.F with
    | false =>
      rw [e] at o1
      refine AC.by_walk (rs := [.tmp 2]) ords Tryz.func3 (by rfl) (by rfl) (by rfl) (by rfl) (by rfl) ?_
      simp (disch := omega) only [wk, tis, seval, reduceCtorEq, Nat.reduceEqDiff, rqs, cpoly_len, polys_len]
      refine call_by (fixed14_ok) (by rfl) (by simp) ?_
      simp (disch := omega) only [wk, tis, seval, reduceCtorEq, Nat.reduceEqDiff, rqs, cpoly_len, polys_len]
      refine call_by (le) (by first | rfl | (simp only [tocvs, tocv, hsp]; rfl) | (simp only [tocvs, tocv, toboxes, tobox, updH_at, Nat.reduceEqDiff, ↓reduceIte, hsp]; rfl)) (by simp) ?_
      simp (disch := omega) only [wk, tis, seval, reduceCtorEq, Nat.reduceEqDiff, rqs, cpoly_len, polys_len, hsp]
      refine call_by (o1) (by first | rfl | (simp only [tocvs, tocv, hsp]; rfl) | (simp only [tocvs, tocv, toboxes, tobox, updH_at, Nat.reduceEqDiff, ↓reduceIte, hsp]; rfl)) (by simp) ?_
      simp (disch := omega) only [wk, tis, seval, reduceCtorEq, Nat.reduceEqDiff, rqs, cpoly_len, polys_len, hsp]
      refine call_by (m1) (by rfl) (by simp) ?_
      simp (disch := omega) only [wk, tis, seval, reduceCtorEq, Nat.reduceEqDiff, rqs, cpoly_len, polys_len]
      try rfl
    | true =>
      rw [e] at o1
      rw [hbad.resolve_left (by rw [e]; decide)] at o2
      refine AC.by_walk (rs := [.tmp 2]) ords Tryz.func3 (by rfl) (by rfl) (by rfl) (by rfl) (by rfl) ?_
      simp (disch := omega) only [wk, tis, seval, reduceCtorEq, Nat.reduceEqDiff, rqs, cpoly_len, polys_len]
      refine call_by (fixed14_ok) (by rfl) (by simp) ?_
      simp (disch := omega) only [wk, tis, seval, reduceCtorEq, Nat.reduceEqDiff, rqs, cpoly_len, polys_len]
      refine call_by (le) (by first | rfl | (simp only [tocvs, tocv, hsp]; rfl) | (simp only [tocvs, tocv, toboxes, tobox, updH_at, Nat.reduceEqDiff, ↓reduceIte, hsp]; rfl)) (by simp) ?_
      simp (disch := omega) only [wk, tis, seval, reduceCtorEq, Nat.reduceEqDiff, rqs, cpoly_len, polys_len, hsp]
      refine call_by (o1) (by first | rfl | (simp only [tocvs, tocv, hsp]; rfl) | (simp only [tocvs, tocv, toboxes, tobox, updH_at, Nat.reduceEqDiff, ↓reduceIte, hsp]; rfl)) (by simp) ?_
      simp (disch := omega) only [wk, tis, seval, reduceCtorEq, Nat.reduceEqDiff, rqs, cpoly_len, polys_len, hsp]
      refine call_by (o2) (by first | rfl | (simp only [tocvs, tocv, hsp]; rfl) | (simp only [tocvs, tocv, toboxes, tobox, updH_at, Nat.reduceEqDiff, ↓reduceIte, hsp]; rfl)) (by simp) ?_
      simp (disch := omega) only [wk, tis, seval, reduceCtorEq, Nat.reduceEqDiff, rqs, cpoly_len, polys_len, hsp]
      refine call_by (m1) (by rfl) (by simp) ?_
      simp (disch := omega) only [wk, tis, seval, reduceCtorEq, Nat.reduceEqDiff, rqs, cpoly_len, polys_len]
      try rfl
theorem bezout14_law2 (P R K : List RI) (L : List (List RI)) (F G : List RQ) (h1 : Raw P) (h2 : Raw R) (h3 : Raw K) (h4 : RawPs L) (h5 : RawQ F) (h6 : RawQ G) : AC Tryz.prog 3 [.agg (case14 ⟨P, R, K, L, F, G⟩)] none [cb true] := bezout14_law ⟨h1, h2, h3, h4, h5, h6⟩
end Go.Proofs.YtenlbifnhdmnnaaGreat
