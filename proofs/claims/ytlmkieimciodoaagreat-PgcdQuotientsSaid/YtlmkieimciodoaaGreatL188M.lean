/-
  Contracts of the functions that the law reaches.
-/
import Derived.Test.YtlmkieimciodoaaGreatL117M
import Derived.Test.YtlmkieimciodoaaGreatL39M
import Derived.Test.YtlmkieimciodoaaGreatL59M
set_option maxHeartbeats 2000000
namespace Go.Proofs.YtlmkieimciodoaaGreat
open Go Go.Proofs Go.AL
set_option linter.unusedSimpArgs false
set_option linter.unusedVariables false
theorem nf_one {A : List Int} (n : Nf A) : trimz A = [1] ↔ tz A = 1 := by
  constructor
  · intro h
    rw [← trimz_len, h]; rfl
  · intro h
    have hp := nf_prm n (by omega)
    have e : ∀ k, cf A k = cf [cf A 0] k := fun k => by
      cases k with
      | zero => rfl
      | succ k => rw [cf_ge_tz A (by omega), cf_ge (by show 1 ≤ k + 1; omega)]
    have hg : gz A = (cf A 0).natAbs := by
      rw [gz_eq e]
      show Nat.gcd 0 (cf A 0).natAbs = _
      rw [Nat.gcd_zero_left]
    have h1 := hp.1
    have h2 : 0 < cf A 0 := by
      have := hp.2
      unfold lc at this
      rwa [h] at this
    have h3 : cf A 0 = 1 := by omega
    rw [trimz_ext e, h3]
    decide
theorem tcoprime_g {p q : List RI} {A B : List Int} (D S : Nat) (hp : RP 40 S p) (hq : RP 40 S q) (ea : ps (pv p) = ps A) (eb : ps (pv q) = ps B) (tp : tz A ≤ D) (tq : tz B ≤ D) (hD : D ≤ 40) (hE : EZ S D ≤ 2 ^ 27) :
    AC Tryz.prog 19 [cw p, cw q] none [cb (decide (tz (gcdp A B) = 1))] := by
  have g := tgcd14_g D S hp hq ea eb tp tq hD hE
  have s := gcdp_sz tp tq (A := A) (B := B) (S := S) (fun i => by rw [← ps_eq ea]; exact sb_rp hp i) (fun i => by rw [← ps_eq eb]; exact sb_rp hq i)
  have t : tz (gcdp A B) ≤ D := (ei_eu _ _ _ (EI.start tp tq (fun i => by rw [← ps_eq ea]; exact sb_rp hp i) (fun i => by rw [← ps_eq eb]; exact sb_rp hq i))).2
  have o := tP_ok [1] (by simp) (fun z hz => by rw [List.mem_singleton.1 hz]; omega)
  have t1 : trimz [(1 : Int)] = [1] := by decide
  rw [show cp [1] = cw (([1] : List Int).map canon) by unfold cp cpoly; rw [t1]] at o
  have r1 : RP (2 ^ 40) (2 ^ 43) (([1] : List Int).map canon) := RP.canon ⟨by simp, fun z hz => by
    rw [List.mem_singleton.1 hz]
    exact Nat.le_trans (zl_le.mpr (by decide : (1 : Int).natAbs < W ^ 1)) (by omega)⟩
  have sm := tSame_ok (cn (gcdp A B)) (([1] : List Int).map canon) ((rp_sb t s).mono (by omega) (by omega)) r1
  rw [show decide (cn (gcdp A B) = ([1] : List Int).map canon) = decide (tz (gcdp A B) = 1) from decide_eq_decide.mpr ⟨fun h => (nf_one (gcdp_nf A B)).mp (canon_inj h), fun h => by unfold cn; rw [(nf_one (gcdp_nf A B)).mpr h]⟩] at sm
  have hil : [[IV.int .i64 1]] = ilims [1] := rfl
  refine AC.by_walk (rs := [.tmp 4]) ords Tryz.func19 (by rfl) (by rfl) (by rfl) (by rfl) (by rfl) ?_
  simp (disch := omega) only [wk, tis, seval, reduceCtorEq, Nat.reduceEqDiff, rqs, cpoly_len, polys_len]
  refine call_by (g) (by rfl) (by simp) ?_
  simp (disch := omega) only [wk, tis, seval, reduceCtorEq, Nat.reduceEqDiff, rqs, cpoly_len, polys_len]
  refine call_by (o) (by first | rfl | (simp only [tocvs, tocv, hil]; rfl) | (simp only [tocvs, tocv, toboxes, tobox, updH_at, Nat.reduceEqDiff, ↓reduceIte, hil]; rfl)) (by simp) ?_
  simp (disch := omega) only [wk, tis, seval, reduceCtorEq, Nat.reduceEqDiff, rqs, cpoly_len, polys_len, hil]
  refine call_by (sm) (by rfl) (by simp) ?_
  simp (disch := omega) only [wk, tis, seval, reduceCtorEq, Nat.reduceEqDiff, rqs, cpoly_len, polys_len]
  try rfl
def leftv (P G : List Int) : List Int := if tz P = 0 then [] else quo P G
theorem pleft_ok (p : List RI) {G : List Int} (hp : RP 9 2 p) (sG : SBd 92 G) (tG : tz G ≤ 9) (hG : tz G ≠ 0) (hd : Dv G (pv p)) : AC Tryz.prog 62 [cw p, cp G] none [cp (leftv (pv p) G)] := by
  have d1 := pdeg_ok p (hp.mono (by omega) (by omega))
  by_cases h1 : tz (pv p) = 0
  · rw [leftv, if_pos h1]
    rw [h1] at d1
    refine AC.by_walk (rs := [.tmp 4]) ords Tryz.func62 (by rfl) (by rfl) (by rfl) (by rfl) (by rfl) ?_
    simp (disch := omega) only [wk, tis, seval, reduceCtorEq, Nat.reduceEqDiff, rqs, cpoly_len, polys_len]
    refine call_by (d1) (by rfl) (by simp) ?_
    simp (disch := omega) only [wk, tis, seval, reduceCtorEq, Nat.reduceEqDiff, rqs, cpoly_len, polys_len]
    try rfl
  have h1' : ¬ ((tz (pv p) : Nat) : Int) - 1 < 0 := by omega
  rw [leftv, if_neg h1]
  have qo := pquot_g (p := p) (q := cn G) (A := pv p) (B := G) (hp.mono (by omega) (by omega)) ((rp92 sG tG).mono (Nat.le_refl _) (by omega)) rfl (ps_cn _) hG hd
  refine AC.by_walk (rs := [.tmp 4]) ords Tryz.func62 (by rfl) (by rfl) (by rfl) (by rfl) (by rfl) ?_
  simp (disch := omega) only [wk, tis, seval, reduceCtorEq, Nat.reduceEqDiff, rqs, cpoly_len, polys_len]
  refine call_by (d1) (by first | rfl | (simp only [tocvs, tocv, h1']; rfl) | (simp only [tocvs, tocv, toboxes, tobox, updH_at, Nat.reduceEqDiff, ↓reduceIte, h1']; rfl)) (by simp) ?_
  simp (disch := omega) only [wk, tis, seval, reduceCtorEq, Nat.reduceEqDiff, rqs, cpoly_len, polys_len, h1']
  refine call_by (qo) (by rfl) (by simp) ?_
  simp (disch := omega) only [wk, tis, seval, reduceCtorEq, Nat.reduceEqDiff, rqs, cpoly_len, polys_len]
  try rfl
theorem leftv_quo (P : List Int) {G : List Int} (hG : tz G ≠ 0) : cp (quo P G) = cp (leftv P G) := by
  unfold leftv
  split
  · rename_i h
    rw [cp_zero (quo14_zero hG h)]; rfl
  · rfl
theorem gcd_small {P R : List Int} (tP : tz P ≤ 9) (sP : SBd 2 P) (tR : tz R ≤ 9) (sR : SBd 2 R) : SBd 92 (gcdp P R) ∧ tz (gcdp P R) ≤ 9 := small_gcd (sP.mono (by omega)) tP tR sR
theorem pparts_ok (p q : List RI) (hp : RP 9 2 p) (hq : RP 9 2 q) : AC Tryz.prog 24 [cw p, cw q] none (if tz (gcdp (pv p) (pv q)) = 0 then [cw [], cw [], cw [], ci 1] else [cp (gcdp (pv p) (pv q)), cp (leftv (pv p) (gcdp (pv p) (pv q))), cp (leftv (pv q) (gcdp (pv p) (pv q))), ci 0]) := by
  obtain ⟨tP, sP⟩ := few_facts hp
  obtain ⟨tQ, sQ⟩ := few_facts hq
  have g := pgcd_g 9 2 (hp.mono (show 9 ≤ 40 by omega) (Nat.le_refl 2)) (hq.mono (show 9 ≤ 40 by omega) (Nat.le_refl 2)) rfl rfl tP tQ (by omega) ez2
  have gg := gcdp_gg (pv p) (pv q)
  obtain ⟨g1, g2⟩ := gcd_small tP sP tQ sQ
  have d := pdeg_n (a := cn (gcdp (pv p) (pv q))) (q := gcdp (pv p) (pv q)) ((rp92 g1 g2).mono (by omega) (by omega)) (ps_cn _)
  by_cases h0 : tz (gcdp (pv p) (pv q)) = 0
  · rw [if_pos h0]
    rw [h0] at d
    refine AC.by_walk (rs := [.tmp 4, .tmp 5, .tmp 6, .tmp 7]) ords Tryz.func24 (by rfl) (by rfl) (by rfl) (by rfl) (by rfl) ?_
    simp (disch := omega) only [wk, tis, seval, reduceCtorEq, Nat.reduceEqDiff, rqs, cpoly_len, polys_len]
    refine call_by (g) (by rfl) (by simp) ?_
    simp (disch := omega) only [wk, tis, seval, reduceCtorEq, Nat.reduceEqDiff, rqs, cpoly_len, polys_len]
    refine call_by (d) (by rfl) (by simp) ?_
    simp (disch := omega) only [wk, tis, seval, reduceCtorEq, Nat.reduceEqDiff, rqs, cpoly_len, polys_len]
    try rfl
  have h0' : ¬ ((tz (gcdp (pv p) (pv q)) : Nat) : Int) - 1 < 0 := by omega
  rw [if_neg h0]
  have l1 := pleft_ok p hp g1 g2 h0 gg.a
  have l2 := pleft_ok q hq g1 g2 h0 gg.b
  refine AC.by_walk (rs := [.tmp 4, .tmp 5, .tmp 6, .tmp 7]) ords Tryz.func24 (by rfl) (by rfl) (by rfl) (by rfl) (by rfl) ?_
  simp (disch := omega) only [wk, tis, seval, reduceCtorEq, Nat.reduceEqDiff, rqs, cpoly_len, polys_len]
  refine call_by (g) (by rfl) (by simp) ?_
  simp (disch := omega) only [wk, tis, seval, reduceCtorEq, Nat.reduceEqDiff, rqs, cpoly_len, polys_len]
  refine call_by (d) (by first | rfl | (simp only [tocvs, tocv, h0']; rfl) | (simp only [tocvs, tocv, toboxes, tobox, updH_at, Nat.reduceEqDiff, ↓reduceIte, h0']; rfl)) (by simp) ?_
  simp (disch := omega) only [wk, tis, seval, reduceCtorEq, Nat.reduceEqDiff, rqs, cpoly_len, polys_len, h0']
  refine call_by (l1) (by rfl) (by simp) ?_
  simp (disch := omega) only [wk, tis, seval, reduceCtorEq, Nat.reduceEqDiff, rqs, cpoly_len, polys_len]
  refine call_by (l2) (by rfl) (by simp) ?_
  simp (disch := omega) only [wk, tis, seval, reduceCtorEq, Nat.reduceEqDiff, rqs, cpoly_len, polys_len]
  try exact ⟨rfl, rfl, rfl⟩
theorem tparts_ok (p q : List RI) (hp : RP 9 2 p) (hq : RP 9 2 q) : AC Tryz.prog 25 [cw p, cw q] none (if tz (gcdp (pv p) (pv q)) = 0 then [cw [], cw [], cw [], ci 1] else [cp (gcdp (pv p) (pv q)), cp (leftv (pv p) (gcdp (pv p) (pv q))), cp (leftv (pv q) (gcdp (pv p) (pv q))), ci 0]) := by
  obtain ⟨tP, sP⟩ := few_facts hp
  obtain ⟨tQ, sQ⟩ := few_facts hq
  have hp40 := hp.mono (show 9 ≤ 40 by omega) (Nat.le_refl 2)
  have hq40 := hq.mono (show 9 ≤ 40 by omega) (Nat.le_refl 2)
  have g := tgcd14_g 9 2 hp40 hq40 rfl rfl tP tQ (by omega) ez2
  have gg := gcdp_gg (pv p) (pv q)
  obtain ⟨g1, g2⟩ := gcd_small tP sP tQ sQ
  by_cases h0 : tz (gcdp (pv p) (pv q)) = 0
  · rw [if_pos h0]
    refine AC.by_walk (rs := [.tmp 4, .tmp 5, .tmp 6, .tmp 7]) ords Tryz.func25 (by rfl) (by rfl) (by rfl) (by rfl) (by rfl) ?_
    simp (disch := omega) only [wk, tis, seval, reduceCtorEq, Nat.reduceEqDiff, rqs, cpoly_len, polys_len]
    refine call_by (g) (by first | rfl | (simp only [tocvs, tocv, h0]; rfl) | (simp only [tocvs, tocv, toboxes, tobox, updH_at, Nat.reduceEqDiff, ↓reduceIte, h0]; rfl)) (by simp) ?_
    simp (disch := omega) only [wk, tis, seval, reduceCtorEq, Nat.reduceEqDiff, rqs, cpoly_len, polys_len, h0]
    try rfl
  have h0' : ¬ ((tz (gcdp (pv p) (pv q)) : Nat) : Int) = 0 := by omega
  rw [if_neg h0]
  have l1 := partover_g (p := p) (r := cn (gcdp (pv p) (pv q))) (A := pv p) (B := gcdp (pv p) (pv q)) 92 (hp40.mono (Nat.le_refl _) (by omega)) (rp92 g1 g2) (by omega) rfl (ps_cn _) h0 gg.a
  have l2 := partover_g (p := q) (r := cn (gcdp (pv p) (pv q))) (A := pv q) (B := gcdp (pv p) (pv q)) 92 (hq40.mono (Nat.le_refl _) (by omega)) (rp92 g1 g2) (by omega) rfl (ps_cn _) h0 gg.b
  rw [leftv_quo _ h0] at l1 l2
  refine AC.by_walk (rs := [.tmp 4, .tmp 5, .tmp 6, .tmp 7]) ords Tryz.func25 (by rfl) (by rfl) (by rfl) (by rfl) (by rfl) ?_
  simp (disch := omega) only [wk, tis, seval, reduceCtorEq, Nat.reduceEqDiff, rqs, cpoly_len, polys_len]
  refine call_by (g) (by first | rfl | (simp only [tocvs, tocv, h0']; rfl) | (simp only [tocvs, tocv, toboxes, tobox, updH_at, Nat.reduceEqDiff, ↓reduceIte, h0']; rfl)) (by simp) ?_
  simp (disch := omega) only [wk, tis, seval, reduceCtorEq, Nat.reduceEqDiff, rqs, cpoly_len, polys_len, h0']
  refine call_by (l1) (by rfl) (by simp) ?_
  simp (disch := omega) only [wk, tis, seval, reduceCtorEq, Nat.reduceEqDiff, rqs, cpoly_len, polys_len]
  refine call_by (l2) (by rfl) (by simp) ?_
  simp (disch := omega) only [wk, tis, seval, reduceCtorEq, Nat.reduceEqDiff, rqs, cpoly_len, polys_len]
  try exact ⟨rfl, rfl, rfl⟩
def tmn (B : List Int) : Nat → List Int → Nat
  | 0, _ => 0
  | f + 1, A => if dvb B A then tmn B f (quo A B) + 1 else 0
def tmr (B : List Int) : Nat → List Int → List Int
  | 0, A => A
  | f + 1, A => if dvb B A then tmr B f (quo A B) else A
theorem tm_stop {B A : List Int} (h : dvb B A = false) : ∀ f, tmn B f A = 0 ∧ tmr B f A = A
  | 0 => ⟨rfl, rfl⟩
  | f + 1 => by rw [tmn, tmr, h]; exact ⟨rfl, rfl⟩
theorem quo_trim (A B : List Int) : trimz (quo A B) = quo A B := npr_trim _
theorem trim_eq {A B : List Int} (hA : trimz A = A) (hB : trimz B = B) (h : ps A = ps B) : A = B := by
  rw [← hA, ← hB]; exact trimz_ext (ps_eq h)
theorem as_quo {A A' B : List Int} (hB : tz B ≠ 0) (h : As A' A) (hd : Dv B A) : quo A' B = quo A B := by
  obtain ⟨c, S, hc, e⟩ := hd
  have h1 := quo_as hB hc e
  have h2 : As S (quo A' B) := quo_of_as hB ((As.of_ps (B := pmul S B) rfl).trans (As.trans ⟨1, c, by decide, hc, by rw [PS.C_one, PS.one_mul, ps_pmul, e]⟩ h.symm))
  exact trim_eq (quo_trim _ _) (quo_trim _ _) ((h2.symm.trans h1).uniq (quo_nf _ _) (quo_nf _ _))
set_option maxRecDepth 100000 in
theorem ptimes_ok (p q : List RI) (hp : RP 9 2 p) (hq : RP 9 2 q) : AC Tryz.prog 26 [cw p, cw q] none (if tz (pv p) = 0 then [ci 0, cw [], ci 1] else if tz (pv q) ≤ 1 then [ci 0, cw [], ci 3] else [ci (tmn (pv q) 9 (npr (pv p))), cp (tmr (pv q) 9 (npr (pv p))), ci 0]) := by
  have d1 := pdeg_ok p (hp.mono (by omega) (by omega))
  have d2 := pdeg_ok q (hq.mono (by omega) (by omega))
  obtain ⟨tP, sP⟩ := few_facts hp
  obtain ⟨tQ, sQ⟩ := few_facts hq
  by_cases h1 : tz (pv p) = 0
  · rw [if_pos h1]
    rw [h1] at d1
    refine AC.by_walk (rs := [.tmp 4, .tmp 5, .tmp 6]) ords Tryz.func26 (by rfl) (by rfl) (by rfl) (by rfl) (by rfl) ?_
    simp (disch := omega) only [wk, tis, seval, reduceCtorEq, Nat.reduceEqDiff, rqs, cpoly_len, polys_len]
    refine call_by (d1) (by rfl) (by simp) ?_
    simp (disch := omega) only [wk, tis, seval, reduceCtorEq, Nat.reduceEqDiff, rqs, cpoly_len, polys_len]
    try rfl
  have h1' : ¬ ((tz (pv p) : Nat) : Int) - 1 < 0 := by omega
  rw [if_neg h1]
  by_cases h2 : tz (pv q) ≤ 1
  · have h2' : ((tz (pv q) : Nat) : Int) - 1 < 1 := by omega
    rw [if_pos h2]
    refine AC.by_walk (rs := [.tmp 4, .tmp 5, .tmp 6]) ords Tryz.func26 (by rfl) (by rfl) (by rfl) (by rfl) (by rfl) ?_
    simp (disch := omega) only [wk, tis, seval, reduceCtorEq, Nat.reduceEqDiff, rqs, cpoly_len, polys_len]
    refine call_by (d1) (by first | rfl | (simp only [tocvs, tocv, h1']; rfl) | (simp only [tocvs, tocv, toboxes, tobox, updH_at, Nat.reduceEqDiff, ↓reduceIte, h1']; rfl)) (by simp) ?_
    simp (disch := omega) only [wk, tis, seval, reduceCtorEq, Nat.reduceEqDiff, rqs, cpoly_len, polys_len, h1']
    refine call_by (d2) (by first | rfl | (simp only [tocvs, tocv, h1', h2']; rfl) | (simp only [tocvs, tocv, toboxes, tobox, updH_at, Nat.reduceEqDiff, ↓reduceIte, h1', h2']; rfl)) (by simp) ?_
    simp (disch := omega) only [wk, tis, seval, reduceCtorEq, Nat.reduceEqDiff, rqs, cpoly_len, polys_len, h1', h2']
    try rfl
  have h2' : ¬ ((tz (pv q) : Nat) : Int) - 1 < 1 := by omega
  rw [if_neg h2]
  have pr := pprim_n (a := p) (q := pv p) (hp.mono (by omega) (by omega)) rfl
  have t0 := npr_trim (pv p)
  have f0 := nf_npr (pv p)
  have z0 := tz_npr (pv p)
  have v0 : Dv (npr (pv p)) (pv p) := (as_npr (pv p)).symm.dv
  generalize npr (pv p) = A0 at *
  refine AC.by_walk (rs := [.tmp 4, .tmp 5, .tmp 6]) ords Tryz.func26 (by rfl) (by rfl) (by rfl) (by rfl) (by rfl) ?_
  simp (disch := omega) only [wk, tis, seval, reduceCtorEq, Nat.reduceEqDiff, rqs, cpoly_len, polys_len]
  refine call_by (d1) (by first | rfl | (simp only [tocvs, tocv, h1']; rfl) | (simp only [tocvs, tocv, toboxes, tobox, updH_at, Nat.reduceEqDiff, ↓reduceIte, h1']; rfl)) (by simp) ?_
  simp (disch := omega) only [wk, tis, seval, reduceCtorEq, Nat.reduceEqDiff, rqs, cpoly_len, polys_len, h1']
  refine call_by (d2) (by first | rfl | (simp only [tocvs, tocv, h1', h2']; rfl) | (simp only [tocvs, tocv, toboxes, tobox, updH_at, Nat.reduceEqDiff, ↓reduceIte, h1', h2']; rfl)) (by simp) ?_
  simp (disch := omega) only [wk, tis, seval, reduceCtorEq, Nat.reduceEqDiff, rqs, cpoly_len, polys_len, h1', h2']
  refine call_by (pr) (by rfl) (by simp) ?_
  simp (disch := omega) only [wk, tis, seval, reduceCtorEq, Nat.reduceEqDiff, rqs, cpoly_len, polys_len]
  refine aloop_by (fun f H => ∃ (k n : Nat) (A : List Int), tmn (pv q) k A + n = tmn (pv q) 9 A0 ∧ tmr (pv q) k A = tmr (pv q) 9 A0 ∧ tz A ≤ k ∧ n + k ≤ 9 ∧ trimz A = A ∧ Nf A ∧ Dv A (pv p) ∧ tz A ≠ 0 ∧ f 1 = .iv (.sl (raws q)) ∧ f 7 = .iv (.int .i64 n) ∧ f 8 = .iv (.sl (cpoly A))) (fun f H => match f 8 with | .iv (.sl l) => l.length | _ => 0) ?_ ?_
  · refine ⟨9, 0, A0, rfl, rfl, by omega, by omega, t0, f0, v0, by omega, ?_⟩
    simp (disch := omega) only [wk, tis, seval, reduceCtorEq, Nat.reduceEqDiff, rqs, cpoly_len, polys_len]
    try exact ⟨rfl, rfl⟩
  rintro f H ⟨k, n, A, en, er, tk, hnk, tA, nA, vA, hA0, hF⟩
  have hmu : (match f 8 with | .iv (.sl l) => l.length | _ => 0) = tz A := by rw [hF.2.2]; simp only []; rw [cpoly_len]
  rw [hmu]
  obtain ⟨a1, a2, _⟩ := small_dv h1 tP sP nA vA
  have dv := pdivides_g (p := cn A) (q := q) (A := A) (B := pv q) ((rp92 a1 a2).mono (Nat.le_refl _) (by omega)) (hq.mono (by omega) (by omega)) (ps_cn _) rfl
  by_cases hd : dvb (pv q) A = true
  · rw [hd] at dv
    obtain ⟨k', rfl⟩ : ∃ k', k = k' + 1 := ⟨k - 1, by omega⟩
    have hdv := (dvb_iff _ _).mp hd
    have qo := pquot_g (p := cn A) (q := q) (A := A) (B := pv q) ((rp92 a1 a2).mono (Nat.le_refl _) (by omega)) (hq.mono (by omega) (by omega)) (ps_cn _) rfl (by omega) hdv
    obtain ⟨qt, qn⟩ := quo_tz (A := A) (B := pv q) (by omega) hA0 hdv
    rw [tmn, if_pos hd] at en
    rw [tmr, if_pos hd] at er
    simp (disch := omega) only [wk, tis, seval, reduceCtorEq, Nat.reduceEqDiff, rqs, cpoly_len, polys_len, hF]
    refine call_by (dv) (by first | rfl | (simp only [tocvs, tocv, hF]; rfl) | (simp only [tocvs, tocv, toboxes, tobox, updH_at, Nat.reduceEqDiff, ↓reduceIte, hF]; rfl)) (by simp) ?_
    simp (disch := omega) only [wk, tis, seval, reduceCtorEq, Nat.reduceEqDiff, rqs, cpoly_len, polys_len, hF]
    refine call_by (qo) (by first | rfl | (simp only [tocvs, tocv, hF]; rfl) | (simp only [tocvs, tocv, toboxes, tobox, updH_at, Nat.reduceEqDiff, ↓reduceIte, hF]; rfl)) (by simp) ?_
    simp (disch := omega) only [wk, tis, seval, reduceCtorEq, Nat.reduceEqDiff, rqs, cpoly_len, polys_len, hF]
    refine ⟨⟨k', n + 1, quo A (pv q), by omega, er, by omega, by omega, quo_trim _ _, quo_nf _ _, (quo_dv (by omega) hdv).trans vA, qn, ?_⟩, by omega⟩
    try (repeat' apply And.intro) <;> first | rfl | omega
  · have hd' : dvb (pv q) A = false := by simpa using hd
    rw [hd'] at dv
    obtain ⟨s1, s2⟩ := tm_stop hd' k
    rw [← en, ← er, s1, s2]
    simp (disch := omega) only [wk, tis, seval, reduceCtorEq, Nat.reduceEqDiff, rqs, cpoly_len, polys_len, hF]
    refine call_by (dv) (by first | rfl | (simp only [tocvs, tocv, hF]; rfl) | (simp only [tocvs, tocv, toboxes, tobox, updH_at, Nat.reduceEqDiff, ↓reduceIte, hF]; rfl)) (by simp) ?_
    simp (disch := omega) only [wk, tis, seval, reduceCtorEq, Nat.reduceEqDiff, rqs, cpoly_len, polys_len, hF]
    try exact ⟨by omega, rfl⟩
set_option maxRecDepth 100000 in
theorem ttimes14_ok (p q : List RI) (hp : RP 9 2 p) (hq : RP 9 2 q) : AC Tryz.prog 27 [cw p, cw q] none (if tz (pv p) = 0 then [ci 0, cw [], ci 1] else if tz (pv q) ≤ 1 then [ci 0, cw [], ci 3] else [ci (tmn (pv q) 9 (npr (pv p))), cp (tmr (pv q) 9 (npr (pv p))), ci 0]) := by
  have d1 := tN_ok p (hp.mono (by omega) (by omega))
  have d2 := tN_ok q (hq.mono (by omega) (by omega))
  obtain ⟨tP, sP⟩ := few_facts hp
  obtain ⟨tQ, sQ⟩ := few_facts hq
  by_cases h1 : tz (pv p) = 0
  · rw [if_pos h1]
    refine AC.by_walk (rs := [.tmp 4, .tmp 5, .tmp 6]) ords Tryz.func27 (by rfl) (by rfl) (by rfl) (by rfl) (by rfl) ?_
    simp (disch := omega) only [wk, tis, seval, reduceCtorEq, Nat.reduceEqDiff, rqs, cpoly_len, polys_len]
    refine call_by (d1) (by first | rfl | (simp only [tocvs, tocv, h1]; rfl) | (simp only [tocvs, tocv, toboxes, tobox, updH_at, Nat.reduceEqDiff, ↓reduceIte, h1]; rfl)) (by simp) ?_
    simp (disch := omega) only [wk, tis, seval, reduceCtorEq, Nat.reduceEqDiff, rqs, cpoly_len, polys_len, h1]
    refine call_by (d2) (by first | rfl | (simp only [tocvs, tocv, h1]; rfl) | (simp only [tocvs, tocv, toboxes, tobox, updH_at, Nat.reduceEqDiff, ↓reduceIte, h1]; rfl)) (by simp) ?_
    simp (disch := omega) only [wk, tis, seval, reduceCtorEq, Nat.reduceEqDiff, rqs, cpoly_len, polys_len, h1]
    try rfl
  have h1' : ¬ ((tz (pv p) : Nat) : Int) = 0 := by omega
  rw [if_neg h1]
  by_cases h2 : tz (pv q) ≤ 1
  · have h2' : ((tz (pv q) : Nat) : Int) ≤ 1 := by omega
    rw [if_pos h2]
    refine AC.by_walk (rs := [.tmp 4, .tmp 5, .tmp 6]) ords Tryz.func27 (by rfl) (by rfl) (by rfl) (by rfl) (by rfl) ?_
    simp (disch := omega) only [wk, tis, seval, reduceCtorEq, Nat.reduceEqDiff, rqs, cpoly_len, polys_len]
    refine call_by (d1) (by first | rfl | (simp only [tocvs, tocv, h1']; rfl) | (simp only [tocvs, tocv, toboxes, tobox, updH_at, Nat.reduceEqDiff, ↓reduceIte, h1']; rfl)) (by simp) ?_
    simp (disch := omega) only [wk, tis, seval, reduceCtorEq, Nat.reduceEqDiff, rqs, cpoly_len, polys_len, h1']
    refine call_by (d2) (by first | rfl | (simp only [tocvs, tocv, h1', h2']; rfl) | (simp only [tocvs, tocv, toboxes, tobox, updH_at, Nat.reduceEqDiff, ↓reduceIte, h1', h2']; rfl)) (by simp) ?_
    simp (disch := omega) only [wk, tis, seval, reduceCtorEq, Nat.reduceEqDiff, rqs, cpoly_len, polys_len, h1', h2']
    try rfl
  have h2' : ¬ ((tz (pv q) : Nat) : Int) ≤ 1 := by omega
  rw [if_neg h2]
  have f0 := nf_npr (pv p)
  have z0 := tz_npr (pv p)
  have v0 : Dv (npr (pv p)) (pv p) := (as_npr (pv p)).symm.dv
  have w0 : As (trimz (pv p)) (npr (pv p)) := (As.of_ps (ps_trimz _)).trans (as_npr _)
  have b0 : SBd 92 (trimz (pv p)) := fun i => by rw [cf_trimz]; exact Nat.le_trans (sP i) (by omega)
  have tn := npr_trim (pv p)
  generalize npr (pv p) = A0 at *
  have rQ := rp_sb (D := 40) (by omega) sQ
  refine AC.by_walk (rs := [.tmp 4, .tmp 5, .tmp 6]) ords Tryz.func27 (by rfl) (by rfl) (by rfl) (by rfl) (by rfl) ?_
  simp (disch := omega) only [wk, tis, seval, reduceCtorEq, Nat.reduceEqDiff, rqs, cpoly_len, polys_len]
  refine call_by (d1) (by first | rfl | (simp only [tocvs, tocv, h1']; rfl) | (simp only [tocvs, tocv, toboxes, tobox, updH_at, Nat.reduceEqDiff, ↓reduceIte, h1']; rfl)) (by simp) ?_
  simp (disch := omega) only [wk, tis, seval, reduceCtorEq, Nat.reduceEqDiff, rqs, cpoly_len, polys_len, h1']
  refine call_by (d2) (by first | rfl | (simp only [tocvs, tocv, h1', h2']; rfl) | (simp only [tocvs, tocv, toboxes, tobox, updH_at, Nat.reduceEqDiff, ↓reduceIte, h1', h2']; rfl)) (by simp) ?_
  simp (disch := omega) only [wk, tis, seval, reduceCtorEq, Nat.reduceEqDiff, rqs, cpoly_len, polys_len, h1', h2']
  refine aloop_by (fun f H => ∃ (k n : Nat) (A A' : List Int), tmn (pv q) k A + n = tmn (pv q) 9 A0 ∧ tmr (pv q) k A = tmr (pv q) 9 A0 ∧ tz A ≤ k ∧ n + k ≤ 9 ∧ trimz A = A ∧ As A' A ∧ SBd 92 A' ∧ Nf A ∧ Dv A (pv p) ∧ tz A ≠ 0 ∧ f 1 = .iv (.sl (cpoly (pv q))) ∧ f 7 = .iv (.int .i64 n) ∧ f 0 = .iv (.sl (cpoly A'))) (fun f H => match f 0 with | .iv (.sl l) => l.length | _ => 0) ?_ ?_
  · refine ⟨9, 0, A0, trimz (pv p), rfl, rfl, by omega, by omega, tn, w0, b0, f0, v0, by omega, ?_⟩
    simp (disch := omega) only [wk, tis, seval, reduceCtorEq, Nat.reduceEqDiff, rqs, cpoly_len, polys_len]
    rw [cpoly_ext fun k => cf_trimz (pv p) k]
    try exact ⟨rfl, rfl⟩
  rintro f H ⟨k, n, A, A', en, er, tk, hnk, tA, wA, bA, nA, vA, hA0, hF⟩
  have htA := as_tz wA
  have hmu : (match f 0 with | .iv (.sl l) => l.length | _ => 0) = tz A := by rw [hF.2.2]; simp only []; rw [cpoly_len]; omega
  rw [hmu]
  obtain ⟨a1, a2, _⟩ := small_dv h1 tP sP nA vA
  have rA := rp92 bA (by omega)
  have dv := tdivides_g (p := cn A') (r := cn (pv q)) (A := A') (B := pv q) 92 rA (rQ.mono (Nat.le_refl _) (by omega)) (by omega) (ps_cn _) (ps_cn _)
  rw [dvb_congr (A' := A) (B' := pv q) wA (.refl _)] at dv
  by_cases hd : dvb (pv q) A = true
  · rw [hd] at dv
    obtain ⟨k', rfl⟩ : ∃ k', k = k' + 1 := ⟨k - 1, by omega⟩
    have hdv := (dvb_iff _ _).mp hd
    have qo := partover_g (p := cn A') (r := cn (pv q)) (A := A') (B := pv q) 92 rA (rQ.mono (Nat.le_refl _) (by omega)) (by omega) (ps_cn _) (ps_cn _) (by omega) (hdv.as (.refl _) wA.symm)
    rw [as_quo (by omega) wA hdv] at qo
    obtain ⟨qt, qn⟩ := quo_tz (A := A) (B := pv q) (by omega) hA0 hdv
    obtain ⟨c1, c2, _⟩ := small_dv h1 tP sP (quo_nf A (pv q)) ((quo_dv (by omega) hdv).trans vA)
    rw [tmn, if_pos hd] at en
    rw [tmr, if_pos hd] at er
    simp (disch := omega) only [wk, tis, seval, reduceCtorEq, Nat.reduceEqDiff, rqs, cpoly_len, polys_len, hF]
    refine call_by (dv) (by first | rfl | (simp only [tocvs, tocv, hF]; rfl) | (simp only [tocvs, tocv, toboxes, tobox, updH_at, Nat.reduceEqDiff, ↓reduceIte, hF]; rfl)) (by simp) ?_
    simp (disch := omega) only [wk, tis, seval, reduceCtorEq, Nat.reduceEqDiff, rqs, cpoly_len, polys_len, hF]
    refine call_by (qo) (by first | rfl | (simp only [tocvs, tocv, hF]; rfl) | (simp only [tocvs, tocv, toboxes, tobox, updH_at, Nat.reduceEqDiff, ↓reduceIte, hF]; rfl)) (by simp) ?_
    simp (disch := omega) only [wk, tis, seval, reduceCtorEq, Nat.reduceEqDiff, rqs, cpoly_len, polys_len, hF]
    refine ⟨⟨k', n + 1, quo A (pv q), quo A (pv q), by omega, er, by omega, by omega, quo_trim _ _, .refl _, c1, quo_nf _ _, (quo_dv (by omega) hdv).trans vA, qn, ?_⟩, by omega⟩
    try (repeat' apply And.intro) <;> first | rfl | omega
  · have hd' : dvb (pv q) A = false := by simpa using hd
    rw [hd'] at dv
    obtain ⟨s1, s2⟩ := tm_stop hd' k
    rw [← en, ← er, s1, s2]
    have pr := tpart14_g (p := cn A') (A := A') (rA.mono (by omega) (by omega)) (ps_cn _)
    rw [show npr A' = A from trim_eq (npr_trim _) tA (((as_npr A').symm.trans wA).uniq (nf_npr _) nA)] at pr
    simp (disch := omega) only [wk, tis, seval, reduceCtorEq, Nat.reduceEqDiff, rqs, cpoly_len, polys_len, hF]
    refine call_by (dv) (by first | rfl | (simp only [tocvs, tocv, hF]; rfl) | (simp only [tocvs, tocv, toboxes, tobox, updH_at, Nat.reduceEqDiff, ↓reduceIte, hF]; rfl)) (by simp) ?_
    simp (disch := omega) only [wk, tis, seval, reduceCtorEq, Nat.reduceEqDiff, rqs, cpoly_len, polys_len, hF]
    refine call_by (pr) (by first | rfl | (simp only [tocvs, tocv, hF]; rfl) | (simp only [tocvs, tocv, toboxes, tobox, updH_at, Nat.reduceEqDiff, ↓reduceIte, hF]; rfl)) (by simp) ?_
    simp (disch := omega) only [wk, tis, seval, reduceCtorEq, Nat.reduceEqDiff, rqs, cpoly_len, polys_len, hF]
    try exact ⟨by omega, rfl⟩
def wof (B : List Int) : Nat → List Int → List Int
  | 0, A => A
  | f + 1, A => if tz (gcdp A B) = 1 then A else wof B f (quo A (gcdp A B))
set_option maxRecDepth 100000 in
theorem pwithout_ok (p q : List RI) (hp : RP 9 2 p) (hq : RP 9 2 q) : AC Tryz.prog 28 [cw p, cw q] none (if tz (pv p) = 0 ∨ tz (pv q) = 0 then [cw [], ci 1] else [cp (wof (pv q) 10 (npr (pv p))), ci 0]) := by
  have d1 := pdeg_ok p (hp.mono (by omega) (by omega))
  have d2 := pdeg_ok q (hq.mono (by omega) (by omega))
  obtain ⟨tP, sP⟩ := few_facts hp
  obtain ⟨tQ, sQ⟩ := few_facts hq
  by_cases h1 : tz (pv p) = 0
  · rw [if_pos (.inl h1)]
    rw [h1] at d1
    refine AC.by_walk (rs := [.tmp 4, .tmp 5]) ords Tryz.func28 (by rfl) (by rfl) (by rfl) (by rfl) (by rfl) ?_
    simp (disch := omega) only [wk, tis, seval, reduceCtorEq, Nat.reduceEqDiff, rqs, cpoly_len, polys_len]
    refine call_by (d1) (by rfl) (by simp) ?_
    simp (disch := omega) only [wk, tis, seval, reduceCtorEq, Nat.reduceEqDiff, rqs, cpoly_len, polys_len]
    try rfl
  have h1' : ¬ ((tz (pv p) : Nat) : Int) - 1 < 0 := by omega
  by_cases h2 : tz (pv q) = 0
  · rw [if_pos (.inr h2)]
    rw [h2] at d2
    refine AC.by_walk (rs := [.tmp 4, .tmp 5]) ords Tryz.func28 (by rfl) (by rfl) (by rfl) (by rfl) (by rfl) ?_
    simp (disch := omega) only [wk, tis, seval, reduceCtorEq, Nat.reduceEqDiff, rqs, cpoly_len, polys_len]
    refine call_by (d1) (by first | rfl | (simp only [tocvs, tocv, h1']; rfl) | (simp only [tocvs, tocv, toboxes, tobox, updH_at, Nat.reduceEqDiff, ↓reduceIte, h1']; rfl)) (by simp) ?_
    simp (disch := omega) only [wk, tis, seval, reduceCtorEq, Nat.reduceEqDiff, rqs, cpoly_len, polys_len, h1']
    refine call_by (d2) (by first | rfl | (simp only [tocvs, tocv, h1']; rfl) | (simp only [tocvs, tocv, toboxes, tobox, updH_at, Nat.reduceEqDiff, ↓reduceIte, h1']; rfl)) (by simp) ?_
    simp (disch := omega) only [wk, tis, seval, reduceCtorEq, Nat.reduceEqDiff, rqs, cpoly_len, polys_len, h1']
    try rfl
  have h2' : ¬ ((tz (pv q) : Nat) : Int) - 1 < 0 := by omega
  rw [if_neg (by omega)]
  have pr := pprim_n (a := p) (q := pv p) (hp.mono (by omega) (by omega)) rfl
  have t0 := npr_trim (pv p)
  have f0 := nf_npr (pv p)
  have z0 := tz_npr (pv p)
  have v0 : Dv (npr (pv p)) (pv p) := (as_npr (pv p)).symm.dv
  generalize npr (pv p) = A0 at *
  refine AC.by_walk (rs := [.tmp 4, .tmp 5]) ords Tryz.func28 (by rfl) (by rfl) (by rfl) (by rfl) (by rfl) ?_
  simp (disch := omega) only [wk, tis, seval, reduceCtorEq, Nat.reduceEqDiff, rqs, cpoly_len, polys_len]
  refine call_by (d1) (by first | rfl | (simp only [tocvs, tocv, h1']; rfl) | (simp only [tocvs, tocv, toboxes, tobox, updH_at, Nat.reduceEqDiff, ↓reduceIte, h1']; rfl)) (by simp) ?_
  simp (disch := omega) only [wk, tis, seval, reduceCtorEq, Nat.reduceEqDiff, rqs, cpoly_len, polys_len, h1']
  refine call_by (d2) (by first | rfl | (simp only [tocvs, tocv, h1', h2']; rfl) | (simp only [tocvs, tocv, toboxes, tobox, updH_at, Nat.reduceEqDiff, ↓reduceIte, h1', h2']; rfl)) (by simp) ?_
  simp (disch := omega) only [wk, tis, seval, reduceCtorEq, Nat.reduceEqDiff, rqs, cpoly_len, polys_len, h1', h2']
  refine call_by (pr) (by rfl) (by simp) ?_
  simp (disch := omega) only [wk, tis, seval, reduceCtorEq, Nat.reduceEqDiff, rqs, cpoly_len, polys_len]
  refine aloop_by (fun f H => ∃ (k : Nat) (A : List Int), wof (pv q) k A = wof (pv q) 10 A0 ∧ tz A + 1 ≤ k ∧ Nf A ∧ Dv A (pv p) ∧ tz A ≠ 0 ∧ f 1 = .iv (.sl (raws q)) ∧ f 6 = .iv (.sl (cpoly A))) (fun f H => match f 6 with | .iv (.sl l) => l.length | _ => 0) ?_ ?_
  · refine ⟨10, A0, rfl, by omega, f0, v0, by omega, ?_⟩
    simp (disch := omega) only [wk, tis, seval, reduceCtorEq, Nat.reduceEqDiff, rqs, cpoly_len, polys_len]
    try rfl
  rintro f H ⟨k, A, er, tk, nA, vA, hA0, hF⟩
  have hmu : (match f 6 with | .iv (.sl l) => l.length | _ => 0) = tz A := by rw [hF.2]; simp only []; rw [cpoly_len]
  rw [hmu]
  obtain ⟨a1, a2, _⟩ := small_dv h1 tP sP nA vA
  have rA := rp92 a1 a2
  have rQ := hq.mono (show 9 ≤ 40 by omega) (show 2 ≤ 92 by omega)
  have g := pgcd_g 9 92 rA rQ (ps_cn _) rfl a2 tQ (by omega) ez92
  have gg := gcdp_gg A (pv q)
  obtain ⟨g1, g2, g3⟩ := small_dv h1 tP sP (gcdp_nf A (pv q)) (gg.a.trans vA)
  have dg := pdeg_n (a := cn (gcdp A (pv q))) (q := gcdp A (pv q)) ((rp92 g1 g2).mono (by omega) (by omega)) (ps_cn _)
  obtain ⟨k', rfl⟩ : ∃ k', k = k' + 1 := ⟨k - 1, by omega⟩
  rw [wof] at er
  by_cases hd : tz (gcdp A (pv q)) = 1
  · rw [if_pos hd] at er
    rw [← er]
    rw [hd] at dg
    simp (disch := omega) only [wk, tis, seval, reduceCtorEq, Nat.reduceEqDiff, rqs, cpoly_len, polys_len, hF]
    refine call_by (g) (by first | rfl | (simp only [tocvs, tocv, hF]; rfl) | (simp only [tocvs, tocv, toboxes, tobox, updH_at, Nat.reduceEqDiff, ↓reduceIte, hF]; rfl)) (by simp) ?_
    simp (disch := omega) only [wk, tis, seval, reduceCtorEq, Nat.reduceEqDiff, rqs, cpoly_len, polys_len, hF]
    refine call_by (dg) (by first | rfl | (simp only [tocvs, tocv, hF]; rfl) | (simp only [tocvs, tocv, toboxes, tobox, updH_at, Nat.reduceEqDiff, ↓reduceIte, hF]; rfl)) (by simp) ?_
    simp (disch := omega) only [wk, tis, seval, reduceCtorEq, Nat.reduceEqDiff, rqs, cpoly_len, polys_len, hF]
    try rfl
  · rw [if_neg hd] at er
    have hd' : ¬ ((tz (gcdp A (pv q)) : Nat) : Int) - 1 = 0 := by omega
    have qo := pquot_g (p := cn A) (q := cn (gcdp A (pv q))) (A := A) (B := gcdp A (pv q)) (rA.mono (Nat.le_refl _) (by omega)) ((rp92 g1 g2).mono (Nat.le_refl _) (by omega)) (ps_cn _) (ps_cn _) g3 gg.a
    obtain ⟨qt, qn⟩ := quo_tz g3 hA0 gg.a
    simp (disch := omega) only [wk, tis, seval, reduceCtorEq, Nat.reduceEqDiff, rqs, cpoly_len, polys_len, hF]
    refine call_by (g) (by first | rfl | (simp only [tocvs, tocv, hF]; rfl) | (simp only [tocvs, tocv, toboxes, tobox, updH_at, Nat.reduceEqDiff, ↓reduceIte, hF]; rfl)) (by simp) ?_
    simp (disch := omega) only [wk, tis, seval, reduceCtorEq, Nat.reduceEqDiff, rqs, cpoly_len, polys_len, hF]
    refine call_by (dg) (by first | rfl | (simp only [tocvs, tocv, hF, hd']; rfl) | (simp only [tocvs, tocv, toboxes, tobox, updH_at, Nat.reduceEqDiff, ↓reduceIte, hF, hd']; rfl)) (by simp) ?_
    simp (disch := omega) only [wk, tis, seval, reduceCtorEq, Nat.reduceEqDiff, rqs, cpoly_len, polys_len, hF, hd']
    refine call_by (qo) (by first | rfl | (simp only [tocvs, tocv, hF]; rfl) | (simp only [tocvs, tocv, toboxes, tobox, updH_at, Nat.reduceEqDiff, ↓reduceIte, hF]; rfl)) (by simp) ?_
    simp (disch := omega) only [wk, tis, seval, reduceCtorEq, Nat.reduceEqDiff, rqs, cpoly_len, polys_len, hF]
    refine ⟨⟨k', quo A (gcdp A (pv q)), er, by omega, quo_nf _ _, (quo_dv g3 gg.a).trans vA, qn, ?_⟩, by omega⟩
    try (repeat' apply And.intro) <;> first | rfl | omega
set_option maxRecDepth 100000 in
theorem twithout_ok (p q : List RI) (hp : RP 9 2 p) (hq : RP 9 2 q) : AC Tryz.prog 29 [cw p, cw q] none (if tz (pv p) = 0 ∨ tz (pv q) = 0 then [cw [], ci 1] else [cp (wof (pv q) 10 (npr (pv p))), ci 0]) := by
  obtain ⟨tP, sP⟩ := few_facts hp
  obtain ⟨tQ, sQ⟩ := few_facts hq
  have d1 := tpart14_g (p := p) (A := pv p) (hp.mono (by omega) (by omega)) rfl
  have d2 := tN_ok q (hq.mono (by omega) (by omega))
  have t0 := npr_trim (pv p)
  have f0 := nf_npr (pv p)
  have z0 := tz_npr (pv p)
  have v0 : Dv (npr (pv p)) (pv p) := (as_npr (pv p)).symm.dv
  by_cases h1 : tz (pv p) = 0
  · rw [if_pos (.inl h1)]
    rw [h1] at z0
    refine AC.by_walk (rs := [.tmp 4, .tmp 5]) ords Tryz.func29 (by rfl) (by rfl) (by rfl) (by rfl) (by rfl) ?_
    simp (disch := omega) only [wk, tis, seval, reduceCtorEq, Nat.reduceEqDiff, rqs, cpoly_len, polys_len]
    refine call_by (d1) (by first | rfl | (simp only [tocvs, tocv, z0]; rfl) | (simp only [tocvs, tocv, toboxes, tobox, updH_at, Nat.reduceEqDiff, ↓reduceIte, z0]; rfl)) (by simp) ?_
    simp (disch := omega) only [wk, tis, seval, reduceCtorEq, Nat.reduceEqDiff, rqs, cpoly_len, polys_len, z0]
    refine call_by (d2) (by first | rfl | (simp only [tocvs, tocv, z0]; rfl) | (simp only [tocvs, tocv, toboxes, tobox, updH_at, Nat.reduceEqDiff, ↓reduceIte, z0]; rfl)) (by simp) ?_
    simp (disch := omega) only [wk, tis, seval, reduceCtorEq, Nat.reduceEqDiff, rqs, cpoly_len, polys_len, z0]
    try rfl
  have h1' : ¬ ((tz (npr (pv p)) : Nat) : Int) = 0 := by omega
  by_cases h2 : tz (pv q) = 0
  · rw [if_pos (.inr h2)]
    refine AC.by_walk (rs := [.tmp 4, .tmp 5]) ords Tryz.func29 (by rfl) (by rfl) (by rfl) (by rfl) (by rfl) ?_
    simp (disch := omega) only [wk, tis, seval, reduceCtorEq, Nat.reduceEqDiff, rqs, cpoly_len, polys_len]
    refine call_by (d1) (by first | rfl | (simp only [tocvs, tocv, h1']; rfl) | (simp only [tocvs, tocv, toboxes, tobox, updH_at, Nat.reduceEqDiff, ↓reduceIte, h1']; rfl)) (by simp) ?_
    simp (disch := omega) only [wk, tis, seval, reduceCtorEq, Nat.reduceEqDiff, rqs, cpoly_len, polys_len, h1']
    refine call_by (d2) (by first | rfl | (simp only [tocvs, tocv, h1', h2]; rfl) | (simp only [tocvs, tocv, toboxes, tobox, updH_at, Nat.reduceEqDiff, ↓reduceIte, h1', h2]; rfl)) (by simp) ?_
    simp (disch := omega) only [wk, tis, seval, reduceCtorEq, Nat.reduceEqDiff, rqs, cpoly_len, polys_len, h1', h2]
    try rfl
  have h2' : ¬ ((tz (pv q) : Nat) : Int) = 0 := by omega
  rw [if_neg (by omega)]
  generalize npr (pv p) = A0 at *
  have rQ0 := rp_sb (D := 40) (by omega) sQ
  refine AC.by_walk (rs := [.tmp 4, .tmp 5]) ords Tryz.func29 (by rfl) (by rfl) (by rfl) (by rfl) (by rfl) ?_
  simp (disch := omega) only [wk, tis, seval, reduceCtorEq, Nat.reduceEqDiff, rqs, cpoly_len, polys_len]
  refine call_by (d1) (by first | rfl | (simp only [tocvs, tocv, h1']; rfl) | (simp only [tocvs, tocv, toboxes, tobox, updH_at, Nat.reduceEqDiff, ↓reduceIte, h1']; rfl)) (by simp) ?_
  simp (disch := omega) only [wk, tis, seval, reduceCtorEq, Nat.reduceEqDiff, rqs, cpoly_len, polys_len, h1']
  refine call_by (d2) (by first | rfl | (simp only [tocvs, tocv, h1', h2']; rfl) | (simp only [tocvs, tocv, toboxes, tobox, updH_at, Nat.reduceEqDiff, ↓reduceIte, h1', h2']; rfl)) (by simp) ?_
  simp (disch := omega) only [wk, tis, seval, reduceCtorEq, Nat.reduceEqDiff, rqs, cpoly_len, polys_len, h1', h2']
  refine aloop_by (fun f H => ∃ (k : Nat) (A : List Int), wof (pv q) k A = wof (pv q) 10 A0 ∧ tz A + 1 ≤ k ∧ Nf A ∧ Dv A (pv p) ∧ tz A ≠ 0 ∧ f 1 = .iv (.sl (cpoly (pv q))) ∧ f 0 = .iv (.sl (cpoly A))) (fun f H => match f 0 with | .iv (.sl l) => l.length | _ => 0) ?_ ?_
  · refine ⟨10, A0, rfl, by omega, f0, v0, by omega, ?_⟩
    simp (disch := omega) only [wk, tis, seval, reduceCtorEq, Nat.reduceEqDiff, rqs, cpoly_len, polys_len]
    try exact ⟨rfl, rfl⟩
  rintro f H ⟨k, A, er, tk, nA, vA, hA0, hF⟩
  have hmu : (match f 0 with | .iv (.sl l) => l.length | _ => 0) = tz A := by rw [hF.2]; simp only []; rw [cpoly_len]
  rw [hmu]
  obtain ⟨a1, a2, _⟩ := small_dv h1 tP sP nA vA
  have rA := rp92 a1 a2
  have rQ := rQ0.mono (Nat.le_refl 40) (show 2 ≤ 92 by omega)
  have g := tgcd14_g 9 92 rA rQ (ps_cn _) (ps_cn _) a2 tQ (by omega) ez92
  have gg := gcdp_gg A (pv q)
  obtain ⟨g1, g2, g3⟩ := small_dv h1 tP sP (gcdp_nf A (pv q)) (gg.a.trans vA)
  obtain ⟨k', rfl⟩ : ∃ k', k = k' + 1 := ⟨k - 1, by omega⟩
  rw [wof] at er
  by_cases hd : tz (gcdp A (pv q)) = 1
  · rw [if_pos hd] at er
    rw [← er]
    simp (disch := omega) only [wk, tis, seval, reduceCtorEq, Nat.reduceEqDiff, rqs, cpoly_len, polys_len, hF]
    refine call_by (g) (by first | rfl | (simp only [tocvs, tocv, hF, hd]; rfl) | (simp only [tocvs, tocv, toboxes, tobox, updH_at, Nat.reduceEqDiff, ↓reduceIte, hF, hd]; rfl)) (by simp) ?_
    simp (disch := omega) only [wk, tis, seval, reduceCtorEq, Nat.reduceEqDiff, rqs, cpoly_len, polys_len, hF, hd]
    try rfl
  · rw [if_neg hd] at er
    have hd' : ¬ ((tz (gcdp A (pv q)) : Nat) : Int) = 1 := by omega
    have qo := partover_g (p := cn A) (r := cn (gcdp A (pv q))) (A := A) (B := gcdp A (pv q)) 92 rA (rp92 g1 g2) (by omega) (ps_cn _) (ps_cn _) g3 gg.a
    obtain ⟨qt, qn⟩ := quo_tz g3 hA0 gg.a
    simp (disch := omega) only [wk, tis, seval, reduceCtorEq, Nat.reduceEqDiff, rqs, cpoly_len, polys_len, hF]
    refine call_by (g) (by first | rfl | (simp only [tocvs, tocv, hF, hd']; rfl) | (simp only [tocvs, tocv, toboxes, tobox, updH_at, Nat.reduceEqDiff, ↓reduceIte, hF, hd']; rfl)) (by simp) ?_
    simp (disch := omega) only [wk, tis, seval, reduceCtorEq, Nat.reduceEqDiff, rqs, cpoly_len, polys_len, hF, hd']
    refine call_by (qo) (by first | rfl | (simp only [tocvs, tocv, hF]; rfl) | (simp only [tocvs, tocv, toboxes, tobox, updH_at, Nat.reduceEqDiff, ↓reduceIte, hF]; rfl)) (by simp) ?_
    simp (disch := omega) only [wk, tis, seval, reduceCtorEq, Nat.reduceEqDiff, rqs, cpoly_len, polys_len, hF]
    refine ⟨⟨k', quo A (gcdp A (pv q)), er, by omega, quo_nf _ _, (quo_dv g3 gg.a).trans vA, qn, ?_⟩, by omega⟩
    try (repeat' apply And.intro) <;> first | rfl | omega
def alf (l : List (List RI)) : List Int := l.foldl (fun g p => gcdp g (pv p)) []
theorem alf_take {l : List (List RI)} {i : Nat} (h : i < l.length) : alf (l.take (i + 1)) = gcdp (alf (l.take i)) (pv (l.getD i [])) := by
  rw [List.take_add_one, List.getElem?_eq_getElem h, alf, List.foldl_append]
  simp [alf, List.getD, h]
theorem alf_small {l : List (List RI)} (h : ∀ p ∈ l, RP 9 2 p) : ∀ i, i ≤ l.length → SBd 92 (alf (l.take i)) ∧ tz (alf (l.take i)) ≤ 9
  | 0, _ => by
    rw [List.take_zero]
    exact ⟨fun k => by show zl (cf [] k) ≤ _; rw [cf_nil, zl_zero]; omega, by decide⟩
  | i + 1, hi => by
    have ih := alf_small h i (by omega)
    have hp : RP 9 2 (l.getD i []) := by
      rw [List.getD, List.getElem?_eq_getElem (by omega), Option.getD_some]
      exact h _ (List.getElem_mem (by omega))
    rw [alf_take (by omega)]
    exact small_gcd ih.1 ih.2 (few_facts hp).1 (few_facts hp).2
theorem pall_ok (l : List (List RI)) (hl : l.length ≤ 2 ^ 40) (h : ∀ p ∈ l, RP 9 2 p) : AC Tryz.prog 13 [.iv (.sl (polys l))] none [cp (alf l)] := by
  refine AC.by_walk (rs := [.tmp 2]) ords Tryz.func13 (by rfl) (by rfl) (by rfl) (by rfl) (by rfl) ?_
  simp (disch := omega) only [wk, tis, seval, reduceCtorEq, Nat.reduceEqDiff, rqs, cpoly_len, polys_len]
  refine aloop_w (.nilv 3 (by simp (disch := omega) only [wk, tis, seval, reduceCtorEq, Nat.reduceEqDiff, rqs, cpoly_len, polys_len]) (.refl _ _)) (fun f H => ∃ (i : Nat), i ≤ l.length ∧ f 8 = .iv (.int .i64 i) ∧ f 7 = .iv (.int .i64 l.length) ∧ f 6 = .iv (.sl (polys l)) ∧ f 3 = .iv (.sl (cpoly (alf (l.take i))))) (fun f H => (l.length - intAt f 8).toNat) ?_ ?_
  · refine ⟨0, by omega, ?_⟩
    simp (disch := omega) only [wk, tis, seval, reduceCtorEq, Nat.reduceEqDiff, rqs, cpoly_len, polys_len, List.take_zero, show cpoly (alf []) = [] from rfl]
  rintro f H ⟨i, hi, hF⟩
  rw [intAt_of hF.1]
  simp (disch := omega) only [wk, tis, seval, reduceCtorEq, Nat.reduceEqDiff, rqs, cpoly_len, polys_len, hF]
  by_cases hlt' : i < l.length
  · have hlt : (i : Int) < (l.length : Int) := by omega
    have hg := polys_at hlt'
    have hp : RP 9 2 (l.getD i []) := by
      rw [List.getD, List.getElem?_eq_getElem (by omega), Option.getD_some]
      exact h _ (List.getElem_mem (by omega))
    obtain ⟨s1, s2⟩ := alf_small h i hi
    have g := pgcd_g (p := cn (alf (l.take i))) (q := l.getD i []) (A := alf (l.take i)) (B := pv (l.getD i [])) 9 92 (rp92 s1 s2) (hp.mono (by omega) (by omega)) (ps_cn _) rfl s2 (few_facts hp).1 (by omega) ez92
    rw [← alf_take hlt'] at g
    simp (disch := omega) only [wk, tis, seval, reduceCtorEq, Nat.reduceEqDiff, rqs, cpoly_len, polys_len, hF, hlt, hg]
    refine call_by (g) (by first | rfl | (simp only [tocvs, tocv, hF, hlt, hg]; rfl) | (simp only [tocvs, tocv, toboxes, tobox, updH_at, Nat.reduceEqDiff, ↓reduceIte, hF, hlt, hg]; rfl)) (by simp) ?_
    simp (disch := omega) only [wk, tis, seval, reduceCtorEq, Nat.reduceEqDiff, rqs, cpoly_len, polys_len, hF, hlt, hg]
    refine ⟨⟨i + 1, by omega, ?_⟩, by omega⟩
    try (repeat' apply And.intro) <;> first | rfl | omega
  · have hlt : ¬ (i : Int) < (l.length : Int) := by omega
    rw [List.take_of_length_le (by omega)] at hF
    simp (disch := omega) only [wk, tis, seval, reduceCtorEq, Nat.reduceEqDiff, rqs, cpoly_len, polys_len, hF, hlt]
    try rfl
theorem tall_ok (l : List (List RI)) (hl : l.length ≤ 2 ^ 40) (h : ∀ p ∈ l, RP 9 2 p) : AC Tryz.prog 15 [.iv (.sl (polys l))] none [cp (alf l)] := by
  refine AC.by_walk (rs := [.tmp 2]) ords Tryz.func15 (by rfl) (by rfl) (by rfl) (by rfl) (by rfl) ?_
  simp (disch := omega) only [wk, tis, seval, reduceCtorEq, Nat.reduceEqDiff, rqs, cpoly_len, polys_len]
  refine aloop_w (.iv 3 5 1 false 55 2 [] (by simp (disch := omega) only [wk, tis, seval, reduceCtorEq, Nat.reduceEqDiff, rqs, cpoly_len, polys_len]) (by simp (disch := omega) only [wk, tis, seval, reduceCtorEq, Nat.reduceEqDiff, rqs, cpoly_len, polys_len]) (.refl _ _)) (fun f H => ∃ (i : Nat), i ≤ l.length ∧ f 4 = .iv (.int .i64 i) ∧ f 0 = .iv (.sl (polys l)) ∧ f 3 = .iv (.sl (cpoly (alf (l.take i))))) (fun f H => (l.length - intAt f 4).toNat) ?_ ?_
  · refine ⟨0, by omega, ?_⟩
    simp (disch := omega) only [wk, tis, seval, reduceCtorEq, Nat.reduceEqDiff, rqs, cpoly_len, polys_len, List.take_zero, show cpoly (alf []) = [] from rfl]
  rintro f H ⟨i, hi, hF⟩
  rw [intAt_of hF.1]
  simp (disch := omega) only [wk, tis, seval, reduceCtorEq, Nat.reduceEqDiff, rqs, cpoly_len, polys_len, hF]
  by_cases hlt' : i < l.length
  · have hlt : (i : Int) < (l.length : Int) := by omega
    have hg := polys_at hlt'
    have hp : RP 9 2 (l.getD i []) := by
      rw [List.getD, List.getElem?_eq_getElem (by omega), Option.getD_some]
      exact h _ (List.getElem_mem (by omega))
    obtain ⟨s1, s2⟩ := alf_small h i hi
    have g := tgcd14_g (p := cn (alf (l.take i))) (q := l.getD i []) (A := alf (l.take i)) (B := pv (l.getD i [])) 9 92 (rp92 s1 s2) (hp.mono (by omega) (by omega)) (ps_cn _) rfl s2 (few_facts hp).1 (by omega) ez92
    rw [← alf_take hlt'] at g
    simp (disch := omega) only [wk, tis, seval, reduceCtorEq, Nat.reduceEqDiff, rqs, cpoly_len, polys_len, hF, hlt, hg]
    refine call_by (g) (by first | rfl | (simp only [tocvs, tocv, hF, hlt, hg]; rfl) | (simp only [tocvs, tocv, toboxes, tobox, updH_at, Nat.reduceEqDiff, ↓reduceIte, hF, hlt, hg]; rfl)) (by simp) ?_
    simp (disch := omega) only [wk, tis, seval, reduceCtorEq, Nat.reduceEqDiff, rqs, cpoly_len, polys_len, hF, hlt, hg]
    refine ⟨⟨i + 1, by omega, ?_⟩, by omega⟩
    try (repeat' apply And.intro) <;> first | rfl | omega
  · have hlt : ¬ (i : Int) < (l.length : Int) := by omega
    rw [List.take_of_length_le (by omega)] at hF
    simp (disch := omega) only [wk, tis, seval, reduceCtorEq, Nat.reduceEqDiff, rqs, cpoly_len, polys_len, hF, hlt]
    try rfl
end Go.Proofs.YtlmkieimciodoaaGreat

namespace Go.Proofs.YtlmkieimciodoaaGreat
open Go Go.Proofs Go.AL
set_option linter.unusedSimpArgs false
set_option linter.unusedVariables false
end Go.Proofs.YtlmkieimciodoaaGreat

namespace Go.Proofs.YtlmkieimciodoaaGreat
open Go Go.Proofs Go.AL
set_option linter.unusedSimpArgs false
set_option linter.unusedVariables false
def fi (a : RI) : RI := (a.1, a.2.take 3)
def fr (r : RQ) : RQ := (fi r.1, r.2.take 3)
def fq (p : List RQ) : List RQ := (p.take 7).map fr
theorem take_min {α : Type} (l : List α) (n : Nat) : l.take (min (l.length : Int) n).toNat = l.take n := by
  rcases Nat.le_total l.length n with h | h
  · rw [List.take_of_length_le (i := n) h, List.take_of_length_le (by omega)]
  · congr 1; omega
theorem prow_len2 (c : RI) : (prow c).length = 2 := rfl
structure C11 where
  (P R : List RI) (A B C D : RI) (K M : Int) (At : RI) (E : Int) (Pt : Bool) (F G : List RQ) (X : RQ)
end Go.Proofs.YtlmkieimciodoaaGreat

namespace Go.Proofs.YtlmkieimciodoaaGreat
open Go Go.Proofs Go.AL
set_option linter.unusedSimpArgs false
set_option linter.unusedVariables false
end Go.Proofs.YtlmkieimciodoaaGreat

namespace Go.Proofs.YtlmkieimciodoaaGreat
open Go Go.Proofs Go.AL
set_option linter.unusedSimpArgs false
set_option linter.unusedVariables false
def NearOk (k : Int) : Prop := k < 0 ∨ 65536 < k ∨ ∃ n : Nat, k = n ∧ n ≤ 200
structure Few (y : C11) : Prop where
  P : RP 9 3 y.P
  R : RP 9 3 y.R
  A : Sz 3 y.A
  B : Sz 3 y.B
  C : Sz 3 y.C
  D : Sz 3 y.D
  At : Sz 3 y.At
  K : NearOk y.K
  M : NearOk y.M
  E : NearOk y.E
structure Ok11 (x : C11) : Prop where
  P : Raw x.P
  R : Raw x.R
  A : Sz 9223372036854775807 x.A
  B : Sz 9223372036854775807 x.B
  C : Sz 9223372036854775807 x.C
  D : Sz 9223372036854775807 x.D
  K : -9223372036854775808 ≤ x.K ∧ x.K ≤ 9223372036854775807
  M : -9223372036854775808 ≤ x.M ∧ x.M ≤ 9223372036854775807
  At : Sz 9223372036854775807 x.At
  E : -9223372036854775808 ≤ x.E ∧ x.E ≤ 9223372036854775807
  F : RawQ x.F
  G : RawQ x.G
  X : SzQ 9223372036854775807 x.X
end Go.Proofs.YtlmkieimciodoaaGreat

namespace Go.Proofs.YtlmkieimciodoaaGreat
open Go Go.Proofs Go.AL
set_option linter.unusedSimpArgs false
set_option linter.unusedVariables false
def fi2 (a : RI) : RI := (a.1, a.2.take 2)
def fp2 (p : List RI) : List RI := (p.take 9).map fi2
def fr1 (r : RQ) : RQ := ((r.1.1, r.1.2.take 1), r.2.take 1)
def fq1 (p : List RQ) : List RQ := (p.take 7).map fr1
theorem fp2_rp {p : List RI} (h : ∀ c ∈ p, Lim c.2) : RP 9 2 (fp2 p) := ⟨by simp [fp2]; omega, fun c hc => by
  obtain ⟨d, hd, rfl⟩ := List.mem_map.1 hc
  exact ⟨by simp [fi2]; omega, fun x hx => h d (List.mem_of_mem_take hd) x (List.mem_of_mem_take hx)⟩⟩
theorem raws_app (l : List RI) (c : RI) : raws l ++ [[.bool c.1, .sl (lims c.2)]] = raws (l ++ [c]) := by simp [raws, prow]
set_option maxRecDepth 100000 in
theorem few14_ok (p : List RI) (hl : p.length ≤ 9223372036854775807) (h : ∀ c ∈ p, c.2.length ≤ 9223372036854775807) : AC Tryz.prog 42 [cw p] none [cw (fp2 p)] := by
  refine AC.by_walk (rs := [.tmp 2]) ords Tryz.func42 (by rfl) (by rfl) (by rfl) (by rfl) (by rfl) ?_
  simp (disch := omega) only [wk, tis, seval, reduceCtorEq, Nat.reduceEqDiff, rqs, cpoly_len, polys_len]
  refine aloop_nil 3 3 55 2 (by simp (disch := omega) only [wk, tis, seval, reduceCtorEq, Nat.reduceEqDiff, rqs, cpoly_len, polys_len]) (fun f H => ∃ (i st : Nat), i ≤ p.length ∧ i ≤ 9 ∧ f 4 = .iv (.int .i64 i) ∧ f 0 = .iv (.sl (raws p)) ∧ f 3 = .hs 3 st ∧ H 3 = .blk false st 55 2 (raws ((p.take i).map fi2))) (fun f H => (p.length - intAt f 4).toNat) ?_ ?_
  · refine ⟨0, 1, by omega, by omega, ?_⟩
    simp (disch := omega) only [wk, tis, seval, reduceCtorEq, Nat.reduceEqDiff, rqs, cpoly_len, polys_len, ghostF, ghostH, List.take_zero]
  rintro f H ⟨i, st, hi, hi9, hF⟩
  rw [intAt_of hF.1]
  simp (disch := omega) only [wk, tis, seval, reduceCtorEq, Nat.reduceEqDiff, rqs, cpoly_len, polys_len, hF]
  by_cases hlt : i < p.length
  · have h1 : (i : Int) < p.length := by omega
    by_cases h9 : (i : Int) < 9
    · have hq : ((p.take i).map fi2).length = i := by rw [List.length_map, List.length_take]; omega
      have hg : p.getD i (false, []) = p[i] := by simp [List.getD, hlt]
      have hcl : (p.getD i (false, [])).2.length ≤ 9223372036854775807 := by rw [hg]; exact h _ (List.getElem_mem hlt)
      have e := take_min (p.getD i (false, [])).2 2
      rw [show ((2 : Nat) : Int) = 2 from rfl] at e
      have et : (p.take (i + 1)).map fi2 = (p.take i).map fi2 ++ [fi2 (p.getD i (false, []))] := by
        rw [List.take_add_one, List.getElem?_eq_getElem hlt, List.map_append, hg]; rfl
      simp (disch := omega) only [wk, tis, seval, reduceCtorEq, Nat.reduceEqDiff, rqs, cpoly_len, polys_len, hF, h1, h9, hq, e]
      refine ⟨tmps_by (by kernel_rfl), ?_⟩
      first | exact log_by (by kernel_rfl) | refine ⟨log_by (by kernel_rfl), ?_⟩
      refine ⟨⟨i + 1, st + 1, by omega, by omega, ?_⟩, by omega⟩
      rw [et]
      exact ⟨by omega, rfl, congrArg _ (raws_app ((p.take i).map fi2) (fi2 (p.getD i (false, []))))⟩
    · have e9 : i = 9 := by omega
      have e : (p.take i).map fi2 = fp2 p := by rw [e9]; rfl
      rw [e] at hF
      simp (disch := omega) only [wk, tis, seval, reduceCtorEq, Nat.reduceEqDiff, rqs, cpoly_len, polys_len, hF, h1, h9]
      try rfl
  · have h1 : ¬ (i : Int) < p.length := by omega
    simp (disch := omega) only [wk, tis, seval, reduceCtorEq, Nat.reduceEqDiff, rqs, cpoly_len, polys_len, hF, h1]
    rw [fp2, List.take_of_length_le (by omega), List.take_of_length_le (by omega)]
theorem rats_app (l : List RQ) (r : RQ) : rats l ++ [[.bool r.1.1, .sl (lims r.1.2), .sl (lims r.2)]] = rats (l ++ [r]) := by simp [rats, qrow, prow]
set_option maxRecDepth 100000 in
theorem fewQ14_ok (p : List RQ) (hl : p.length ≤ 9223372036854775807) (h : ∀ c ∈ p, c.1.2.length ≤ 9223372036854775807 ∧ c.2.length ≤ 9223372036854775807) : AC Tryz.prog 43 [cqw p] none [cqw (fq1 p)] := by
  have hrl := rats_len p
  refine AC.by_walk (rs := [.tmp 2]) ords Tryz.func43 (by rfl) (by rfl) (by rfl) (by rfl) (by rfl) ?_
  simp (disch := omega) only [wk, tis, seval, reduceCtorEq, Nat.reduceEqDiff, rqs, cpoly_len, polys_len]
  refine aloop_nil 3 3 57 3 (by simp (disch := omega) only [wk, tis, seval, reduceCtorEq, Nat.reduceEqDiff, rqs, cpoly_len, polys_len]) (fun f H => ∃ (i st s5 : Nat), i ≤ p.length ∧ i ≤ 7 ∧ f 4 = .iv (.int .i64 i) ∧ f 0 = .iv (.sl (rats p)) ∧ f 3 = .hs 3 st ∧ H 3 = .blk false st 57 3 (rats ((p.take i).map fr1))) (fun f H => (p.length - intAt f 4).toNat) ?_ ?_
  · refine ⟨0, 1, 1, by omega, by omega, ?_⟩
    simp (disch := omega) only [wk, tis, seval, reduceCtorEq, Nat.reduceEqDiff, rqs, cpoly_len, polys_len, ghostF, ghostH, List.take_zero, List.map_nil]
  rintro f H ⟨i, st, s5, hi, hi9, hF⟩
  rw [intAt_of hF.1]
  simp (disch := omega) only [wk, tis, seval, reduceCtorEq, Nat.reduceEqDiff, rqs, cpoly_len, polys_len, hF]
  by_cases hlt : i < p.length
  · have h1 : (i : Int) < p.length := by omega
    by_cases h9 : (i : Int) < 7
    · have hq : ((p.take i).map fr1).length = i := by rw [List.length_map, List.length_take]; omega
      have hg : p.getD i q0 = p[i] := by simp [List.getD, hlt]
      have hm := h _ (List.getElem_mem hlt)
      rw [← hg] at hm
      have e := take_min (p.getD i q0).1.2 1
      have e' := take_min (p.getD i q0).2 1
      rw [show ((1 : Nat) : Int) = 1 from rfl] at e e'
      have et : (p.take (i + 1)).map fr1 = (p.take i).map fr1 ++ [fr1 (p.getD i q0)] := by
        rw [List.take_add_one, List.getElem?_eq_getElem hlt, List.map_append, hg]; rfl
      obtain ⟨hm1, hm2⟩ := hm
      have hpr : ∀ (b : Bool) (l : List Nat), [IV.bool b, IV.sl (lims l)] = prow (b, l) := fun _ _ => rfl
      have hp2 := prow_len2
      simp (disch := omega) only [wk, tis, seval, reduceCtorEq, Nat.reduceEqDiff, rqs, cpoly_len, polys_len, hF, h1, h9, hq, e, e', hpr, hp2]
      refine ⟨tmps_by (by kernel_rfl), ?_⟩
      first | exact log_by (by kernel_rfl) | refine ⟨log_by (by kernel_rfl), ?_⟩
      refine ⟨⟨i + 1, st + 1, 1, by omega, by omega, ?_⟩, by omega⟩
      rw [et]
      exact ⟨by omega, rfl, congrArg _ (rats_app ((p.take i).map fr1) (fr1 (p.getD i q0)))⟩
    · have e9 : i = 7 := by omega
      have e : (p.take i).map fr1 = fq1 p := by rw [e9]; rfl
      rw [e] at hF
      simp (disch := omega) only [wk, tis, seval, reduceCtorEq, Nat.reduceEqDiff, rqs, cpoly_len, polys_len, hF, h1, h9]
      try rfl
  · have h1 : ¬ (i : Int) < p.length := by omega
    simp (disch := omega) only [wk, tis, seval, reduceCtorEq, Nat.reduceEqDiff, rqs, cpoly_len, polys_len, hF, h1]
    rw [fq1, List.take_of_length_le (by omega), List.take_of_length_le (by omega)]
structure C14 where
  (P R K : List RI) (L : List (List RI)) (F G : List RQ)
abbrev case14 (x : C14) : List IV := [.sl (raws x.P), .sl (raws x.R), .sl (raws x.K), .sl (polys x.L), .sl (rats x.F), .sl (rats x.G)]
def less14 (x : C14) : C14 := ⟨fp2 x.P, fp2 x.R, fp2 x.K, (x.L.take 6).map fp2, fq1 x.F, fq1 x.G⟩
structure Ok14 (x : C14) : Prop where
  P : Raw x.P
  R : Raw x.R
  K : Raw x.K
  L : x.L.length ≤ 9223372036854775807 ∧ ∀ p ∈ x.L, Raw p
  F : RawQ x.F
  G : RawQ x.G
set_option maxRecDepth 100000 in
theorem less14_ok {x : C14} (h : Ok14 x) : AC Tryz.prog 8 [.agg (case14 x)] none [.agg (case14 (less14 x))] := by
  have fz : ∀ {p : List RI}, Raw p → AC Tryz.prog 42 [cw p] none [cw (fp2 p)] := fun {p} hp => few14_ok p hp.1 fun c hc => (hp.2 c hc).1
  have fq : ∀ {p : List RQ}, RawQ p → AC Tryz.prog 43 [cqw p] none [cqw (fq1 p)] := fun {p} hp => fewQ14_ok p hp.1 fun c hc => ⟨(hp.2 c hc).1.1, (hp.2 c hc).2.1⟩
  have hP := fz h.P
  have hR := fz h.R
  have hK := fz h.K
  have hFq := fq h.F
  have hG := fq h.G
  have hl := h.L.1
  refine AC.by_walk (rs := [.cell 2 28]) ords Tryz.func8 (by rfl) (by rfl) (by rfl) (by rfl) (by rfl) ?_
  simp (disch := omega) only [wk, tis, seval, reduceCtorEq, Nat.reduceEqDiff, rqs, cpoly_len, polys_len]
  refine ⟨tmps_by (by kernel_rfl), ?_⟩
  refine call_by (hP) (by rfl) (by simp) ?_
  simp (disch := omega) only [wk, tis, seval, reduceCtorEq, Nat.reduceEqDiff, rqs, cpoly_len, polys_len]
  refine call_by (hR) (by rfl) (by simp) ?_
  simp (disch := omega) only [wk, tis, seval, reduceCtorEq, Nat.reduceEqDiff, rqs, cpoly_len, polys_len]
  refine call_by (hK) (by rfl) (by simp) ?_
  simp (disch := omega) only [wk, tis, seval, reduceCtorEq, Nat.reduceEqDiff, rqs, cpoly_len, polys_len]
  refine call_by (hFq) (by rfl) (by simp) ?_
  simp (disch := omega) only [wk, tis, seval, reduceCtorEq, Nat.reduceEqDiff, rqs, cpoly_len, polys_len]
  refine call_by (hG) (by rfl) (by simp) ?_
  simp (disch := omega) only [wk, tis, seval, reduceCtorEq, Nat.reduceEqDiff, rqs, cpoly_len, polys_len]
  first | exact log_by (by kernel_rfl) | refine ⟨log_by (by kernel_rfl), ?_⟩
  refine aloop_nil 3 3 23 1 (by simp (disch := omega) only [wk, tis, seval, reduceCtorEq, Nat.reduceEqDiff, rqs, cpoly_len, polys_len]) (fun f H => ∃ (i st : Nat), i ≤ x.L.length ∧ i ≤ 6 ∧ f 4 = .iv (.int .i64 i) ∧ f 1 = .hp 1 1 0 0 ∧ H 1 = .blk false 1 28 6 [case14 ⟨fp2 x.P, fp2 x.R, fp2 x.K, x.L, fq1 x.F, fq1 x.G⟩] ∧ f 2 = .hp 2 1 0 0 ∧ H 2 = .blk false 1 28 6 [[.sl [], .sl [], .sl [], .sl [], .sl [], .sl []]] ∧ f 3 = .hs 3 st ∧ H 3 = .blk false st 23 1 (polys ((x.L.take i).map fp2))) (fun f H => (x.L.length - intAt f 4).toNat) ?_ ?_
  · refine ⟨0, 1, by omega, by omega, ?_⟩
    simp (disch := omega) only [wk, tis, seval, reduceCtorEq, Nat.reduceEqDiff, rqs, cpoly_len, polys_len, ghostF, ghostH, ghostF, ghostH, List.map_nil, case14, splice, List.take_succ_cons, List.drop_succ_cons, List.take_zero, List.drop_zero, List.take_nil, List.drop_nil, List.length_cons, List.length_nil, List.cons_append, List.nil_append, show polys [] = [] from rfl]
  rintro f H ⟨i, st, hi, hi6, hF⟩
  rw [intAt_of hF.1]
  simp (disch := omega) only [wk, tis, seval, reduceCtorEq, Nat.reduceEqDiff, rqs, cpoly_len, polys_len, hF]
  by_cases hlt : i < x.L.length
  · have h1 : (i : Int) < x.L.length := by omega
    by_cases h9 : (i : Int) < 6
    · have hq : ((x.L.take i).map fp2).length = i := by rw [List.length_map, List.length_take]; omega
      have hg : x.L.getD i [] = x.L[i] := by simp [List.getD, hlt]
      have hat := polys_at hlt
      have f := fz (p := x.L.getD i []) (by rw [hg]; exact h.L.2 _ (List.getElem_mem hlt))
      have et : (x.L.take (i + 1)).map fp2 = (x.L.take i).map fp2 ++ [fp2 (x.L.getD i [])] := by
        rw [List.take_add_one, List.getElem?_eq_getElem hlt, List.map_append, hg]; rfl
      have hsn := polys_snoc ((x.L.take i).map fp2) (fp2 (x.L.getD i []))
      simp (disch := omega) only [wk, tis, seval, reduceCtorEq, Nat.reduceEqDiff, rqs, cpoly_len, polys_len, hF, h1, h9, hq, hat]
      refine call_by (f) (by first | rfl | (simp only [tocvs, tocv, hF, h1, h9, hq, hat, hsn]; rfl) | (simp only [tocvs, tocv, toboxes, tobox, updH_at, Nat.reduceEqDiff, ↓reduceIte, hF, h1, h9, hq, hat, hsn]; rfl)) (by simp) ?_
      simp (disch := omega) only [wk, tis, seval, reduceCtorEq, Nat.reduceEqDiff, rqs, cpoly_len, polys_len, hF, h1, h9, hq, hat, hsn]
      refine ⟨⟨i + 1, st + 1, by omega, by omega, ?_⟩, by omega⟩
      rw [et]
      (repeat' apply And.intro) <;> first | rfl | omega
    · have e9 : i = 6 := by omega
      have e : (x.L.take i).map fp2 = (x.L.take 6).map fp2 := by rw [e9]
      rw [e] at hF
      simp (disch := omega) only [wk, tis, seval, reduceCtorEq, Nat.reduceEqDiff, rqs, cpoly_len, polys_len, hF, h1, h9, case14, splice, List.take_succ_cons, List.drop_succ_cons, List.take_zero, List.drop_zero, List.take_nil, List.drop_nil, List.length_cons, List.length_nil, List.cons_append, List.nil_append]
      try rfl
  · have h1 : ¬ (i : Int) < x.L.length := by omega
    have e : (x.L.take i).map fp2 = (x.L.take 6).map fp2 := by rw [List.take_of_length_le (by omega), List.take_of_length_le (by omega)]
    rw [e] at hF
    simp (disch := omega) only [wk, tis, seval, reduceCtorEq, Nat.reduceEqDiff, rqs, cpoly_len, polys_len, hF, h1, case14, splice, List.take_succ_cons, List.drop_succ_cons, List.take_zero, List.drop_zero, List.take_nil, List.drop_nil, List.length_cons, List.length_nil, List.cons_append, List.nil_append]
    try rfl
theorem c14_ok (p : List RI) (h : RP (2 ^ 40) (2 ^ 40) p) : AC Tryz.prog 11 [cw p] none [cw p] := by
  have t := tcopy_ok p h
  refine AC.by_walk (rs := [.tmp 2]) ords Tryz.func11 (by rfl) (by rfl) (by rfl) (by rfl) (by rfl) ?_
  simp (disch := omega) only [wk, tis, seval, reduceCtorEq, Nat.reduceEqDiff, rqs, cpoly_len, polys_len]
  refine call_by (t) (by rfl) (by simp) ?_
  simp (disch := omega) only [wk, tis, seval, reduceCtorEq, Nat.reduceEqDiff, rqs, cpoly_len, polys_len]
  try rfl
theorem cs14_ok (l : List (List RI)) (hl : l.length ≤ 2 ^ 40) (h : ∀ p ∈ l, RP (2 ^ 40) (2 ^ 40) p) : AC Tryz.prog 14 [.iv (.sl (polys l))] none [.iv (.sl (polys l))] := by
  refine AC.by_walk (rs := [.tmp 2]) ords Tryz.func14 (by rfl) (by rfl) (by rfl) (by rfl) (by rfl) ?_
  simp (disch := omega) only [wk, tis, seval, reduceCtorEq, Nat.reduceEqDiff, rqs, cpoly_len, polys_len]
  refine aloop_nil 3 3 23 1 (by simp (disch := omega) only [wk, tis, seval, reduceCtorEq, Nat.reduceEqDiff, rqs, cpoly_len, polys_len]) (fun f H => ∃ (i st : Nat), i ≤ l.length ∧ f 4 = .iv (.int .i64 i) ∧ f 0 = .iv (.sl (polys l)) ∧ f 3 = .hs 3 st ∧ H 3 = .blk false st 23 1 (polys (l.take i))) (fun f H => (l.length - intAt f 4).toNat) ?_ ?_
  · refine ⟨0, 1, by omega, ?_⟩
    simp (disch := omega) only [wk, tis, seval, reduceCtorEq, Nat.reduceEqDiff, rqs, cpoly_len, polys_len, ghostF, ghostH, ghostF, ghostH, List.take_zero, show polys [] = [] from rfl]
  rintro f H ⟨i, st, hi, hF⟩
  rw [intAt_of hF.1]
  simp (disch := omega) only [wk, tis, seval, reduceCtorEq, Nat.reduceEqDiff, rqs, cpoly_len, polys_len, hF]
  by_cases hlt : i < l.length
  · have h1 : (i : Int) < l.length := by omega
    have hq : (l.take i).length = i := by rw [List.length_take]; omega
    have hg : l.getD i [] = l[i] := by simp [List.getD, hlt]
    have hat := polys_at hlt
    have f := c14_ok (l.getD i []) (by rw [hg]; exact h _ (List.getElem_mem hlt))
    have et : l.take (i + 1) = l.take i ++ [l.getD i []] := by
      rw [List.take_add_one, List.getElem?_eq_getElem hlt, hg]; rfl
    have hsn := polys_snoc (l.take i) (l.getD i [])
    simp (disch := omega) only [wk, tis, seval, reduceCtorEq, Nat.reduceEqDiff, rqs, cpoly_len, polys_len, hF, h1, hq, hat]
    refine call_by (f) (by first | rfl | (simp only [tocvs, tocv, hF, h1, hq, hat, hsn]; rfl) | (simp only [tocvs, tocv, toboxes, tobox, updH_at, Nat.reduceEqDiff, ↓reduceIte, hF, h1, hq, hat, hsn]; rfl)) (by simp) ?_
    simp (disch := omega) only [wk, tis, seval, reduceCtorEq, Nat.reduceEqDiff, rqs, cpoly_len, polys_len, hF, h1, hq, hat, hsn]
    refine ⟨⟨i + 1, st + 1, by omega, ?_⟩, by omega⟩
    rw [et]
    (repeat' apply And.intro) <;> first | rfl | omega
  · have h1 : ¬ (i : Int) < l.length := by omega
    rw [List.take_of_length_le (by omega)] at hF
    simp (disch := omega) only [wk, tis, seval, reduceCtorEq, Nat.reduceEqDiff, rqs, cpoly_len, polys_len, hF, h1]
    try rfl
theorem same14 {A : List Int} (hs : SBd (2 ^ 40) A) (ht : tz A ≤ 2 ^ 40) : AC Tryz.prog 9 [cp A, cp A] none [cb true] := by
  have r := rp_sb ht hs
  have s := tSame_ok (cn A) (cn A) (r.mono (by omega) (by omega)) (r.mono (by omega) (by omega))
  rwa [decide_eq_true rfl] at s
end Go.Proofs.YtlmkieimciodoaaGreat

namespace Go.Proofs.YtlmkieimciodoaaGreat
open Go Go.Proofs Go.AL
set_option linter.unusedSimpArgs false
set_option linter.unusedVariables false
abbrev cqc (l : List Rat) : CV := cqw (l.map crat)
theorem mulc {a b c : List Rat} (ha : QB 9 3 a) (hb : QB 9 3 b) (h : trimq (mulq a b) = c) : AC Tryz.prog 76 [cqc a, cqc b] none [cqc c] := by
  have m := qpmul_ok (a.map crat) (b.map crat) 9 3 ha.gq hb.gq (by omega) (by omega) (by omega)
  rw [qvs_map, qvs_map, show cqp (mulq a b) = cqc c from congrArg cqw (by rw [cqs, h])] at m
  refine AC.by_walk (rs := [.tmp 4]) ords Tryz.func76 (by rfl) (by rfl) (by rfl) (by rfl) (by rfl) ?_
  simp (disch := omega) only [wk, tis, seval, reduceCtorEq, Nat.reduceEqDiff, rqs, cpoly_len]
  refine call_by (m) (by rfl) (by simp) ?_
  simp (disch := omega) only [wk, tis, seval, reduceCtorEq, Nat.reduceEqDiff, rqs, cpoly_len]
  try rfl
theorem subc {a b c : List Rat} (ha : QB 9 3 a) (hb : QB 9 3 b) (h : trimq (subq a b) = c) : AC Tryz.prog 79 [cqc a, cqc b] none [cqc c] := by
  have m := qpsub_ok (a.map crat) (b.map crat) 3 (ha.gq.mono (by omega) (by omega)) (hb.gq.mono (by omega) (by omega)) (by omega) (by omega)
  rw [qvs_map, qvs_map, show cqp (subq a b) = cqc c from congrArg cqw (by rw [cqs, h])] at m
  refine AC.by_walk (rs := [.tmp 4]) ords Tryz.func79 (by rfl) (by rfl) (by rfl) (by rfl) (by rfl) ?_
  simp (disch := omega) only [wk, tis, seval, reduceCtorEq, Nat.reduceEqDiff, rqs, cpoly_len]
  refine call_by (m) (by rfl) (by simp) ?_
  simp (disch := omega) only [wk, tis, seval, reduceCtorEq, Nat.reduceEqDiff, rqs, cpoly_len]
  try rfl
theorem dv_dec {A B : List Rat} {n : Nat} (h : (A.length ≤ 9 ∧ B.length ≤ 9 ∧ B.length ≠ 0 ∧ cfq B (B.length - 1) ≠ 0) ∧ (trimq A = A ∧ trimq B = B) ∧ ((dit A B n).length < B.length ∧ ∀ j, j < n → B.length ≤ (dit A B j).length) ∧ (∀ k, k < n + 1 → (dit A B k).length ≤ 9 ∧ ∀ c ∈ dit A B k, qz c ≤ 3) ∧ ∀ c ∈ B, qz c ≤ 3) : DV A B n 3 := by
  obtain ⟨⟨h1, h2, h3, h4⟩, ⟨h5, h6⟩, ⟨h7, h8⟩, h9, h10⟩ := h
  have hB : QB 9 3 B := ⟨h2, h10⟩
  exact ⟨by omega, by omega, h3, h4, h5, h6, h7, h8, fun k hk i => QB.cz (n := 9) (k := 3) ⟨(h9 k (by omega)).1, (h9 k (by omega)).2⟩ (by omega) i, fun i => hB.cz (by omega) i, by omega, by omega⟩
theorem divc {a b q r : List Rat} {n : Nat} (v : DV a b n 3) (ha : QB 9 3 a) (hb : QB 9 3 b) (hq : trimq (dqu a b n) = q) (hr : dit a b n = r) : AC Tryz.prog 78 [cqc a, cqc b] none [cqc q, cqc r, ci 0] := by
  have m := qdiv_ok (a.map crat) (b.map crat) (ha.gq.mono (by omega) (by omega)) (hb.gq.mono (by omega) (by omega)) n 3 (by rw [qvs_map, qvs_map, v.ta, v.tb]; exact v)
  rw [qvs_map, qvs_map, v.ta, v.tb, hr, show cqp (dqu a b n) = cqc q from congrArg cqw (by rw [cqs, hq])] at m
  exact m
theorem normc {a : List Rat} (ha : QB 9 3 a) (h : trimq a = a) : AC Tryz.prog 72 [cqc a] none [cqc a, ci 0] := by
  have m := qpnorm_ok (a.map crat) (ha.gq.mono (by omega) (by omega))
  rwa [qvs_map, show cqp a = cqc a from congrArg cqw (by rw [cqs, h])] at m
theorem scalec {a c : List Rat} {k : Rat} (ha : QB 9 3 a) (hk : qz k ≤ 3) (h : trimq (sclq k a) = c) : AC Tryz.prog 80 [cqc a, cqz k] none [cqc c, ci 0] := by
  have m := qscale_ok (a.map crat) (crat k) 3 (ha.gq.mono (by omega) (by omega)) (szq_crat hk) (nv_crat0 _) (by omega) (by omega)
  rwa [qvs_map, qv_crat, show cqp (sclq k a) = cqc c from congrArg cqw (by rw [cqs, h])] at m
theorem leadc {a : List Rat} {x : Rat} {n : Nat} (ha : QB 9 3 a) (ht : tzq a = n + 1) (h : cfq a n = x) : AC Tryz.prog 75 [cqc a] none [cqz x] := by
  have d := qdeg_ok (a.map crat) (ha.gq.mono (by omega) (by omega))
  rw [qvs_map, ht, show ((n + 1 : Nat) : Int) - 1 = (n : Int) by omega] at d
  have dg : AC Tryz.prog 118 [cqc a] none [ci n] := by
    refine AC.by_walk (rs := [.tmp 2]) ords Tryz.func118 (by rfl) (by rfl) (by rfl) (by rfl) (by rfl) ?_
    simp (disch := omega) only [wk, tis, seval, reduceCtorEq, Nat.reduceEqDiff, rqs, cpoly_len]
    refine call_by (d) (by rfl) (by simp) ?_
    simp (disch := omega) only [wk, tis, seval, reduceCtorEq, Nat.reduceEqDiff, rqs, cpoly_len]
    try rfl
  have c := qCoef_ok (a.map crat) n (ha.gq.mono (by omega) (by omega))
  rw [qvs_map, if_neg (by omega), Int.toNat_natCast, h] at c
  refine AC.by_walk (rs := [.cell 2 57]) ords Tryz.func75 (by rfl) (by rfl) (by rfl) (by rfl) (by rfl) ?_
  simp (disch := omega) only [wk, tis, seval, reduceCtorEq, Nat.reduceEqDiff, rqs, cpoly_len]
  refine call_by (dg) (by rfl) (by simp) ?_
  simp (disch := omega) only [wk, tis, seval, reduceCtorEq, Nat.reduceEqDiff, rqs, cpoly_len]
  refine call_by (c) (by rfl) (by simp) ?_
  simp (disch := omega) only [wk, tis, seval, reduceCtorEq, Nat.reduceEqDiff, rqs, cpoly_len]
  try rfl
theorem inv3_ok : AC Tryz.prog 74 [cqz 3] none [cqz (1 / 3)] := by
  have e : crat 3 = (canon 3, wd 1) := by decide +kernel
  have e2 : crat (1 / 3) = (canon 1, wd 3) := by decide +kernel
  have z := znat_ok false 1 (by decide +kernel)
  have n := norm_ok (wd 3) (lim_wd 3) (by decide +kernel)
  rw [nv_wd] at n
  have c3 : canon 3 = (false, wd 3) := by decide +kernel
  have c1 : sg false 1 = 1 := rfl
  rw [c1] at z
  have E1 : cqz 3 = .agg [.bool false, .sl (lims (wd 3)), .sl (lims (wd 1))] := by
    show CV.agg (qrow (crat 3)) = _
    rw [e, c3]
    try rfl
  have E2 : cqz (1 / 3) = .agg (prow (canon 1) ++ [.sl (lims (wd 3))]) := by
    show CV.agg (qrow (crat (1 / 3))) = _
    rw [e2]
    try rfl
  rw [E1, E2]
  refine AC.by_walk (rs := [.cell 2 57]) ords Tryz.func74 (by rfl) (by rfl) (by rfl) (by rfl) (by rfl) ?_
  simp (disch := omega) only [wk, tis, seval, reduceCtorEq, Nat.reduceEqDiff, rqs, cpoly_len]
  refine ⟨tmps_by (by kernel_rfl), ?_⟩
  refine call_by (z) (by rfl) (by simp) ?_
  simp (disch := omega) only [wk, tis, seval, reduceCtorEq, Nat.reduceEqDiff, rqs, cpoly_len]
  refine call_by (n) (by rfl) (by simp) ?_
  simp (disch := omega) only [wk, tis, seval, reduceCtorEq, Nat.reduceEqDiff, rqs, cpoly_len]
  first | exact log_by (by kernel_rfl) | refine ⟨log_by (by kernel_rfl), ?_⟩
  try rfl
theorem good2_ok {a b : List Rat} (ha : QB 9 3 a) (hb : QB 9 3 b) : AC Tryz.prog 71 [.iv (.sl [[.sl (rats (a.map crat))], [.sl (rats (b.map crat))]])] none [ci 0] := by
  have g : ∀ {a : List Rat}, QB 9 3 a → AC Tryz.prog 111 [cqc a] none [cb true] := fun {a} ha => by
    have h := qgood_ok (a.map crat) (ha.gq.bq.mono (by omega) (by omega))
    rwa [show gd (a.map crat) = true from gd_iff.mpr fun r hr => by
      obtain ⟨c, _, rfl⟩ := List.mem_map.1 hr
      exact nv_crat0 c] at h
  have g1 := g ha
  have g2 := g hb
  refine AC.by_walk (rs := [.tmp 2]) ords Tryz.func71 (by rfl) (by rfl) (by rfl) (by rfl) (by rfl) ?_
  simp (disch := omega) only [wk, tis, seval, reduceCtorEq, Nat.reduceEqDiff, rqs, cpoly_len]
  refine aloop_by (fun f H => ∃ (i : Nat), i ≤ 2 ∧ f 7 = .iv (.int .i64 i) ∧ f 6 = .iv (.int .i64 2) ∧ f 5 = .iv (.sl [[.sl (rats (a.map crat))], [.sl (rats (b.map crat))]])) (fun f H => (2 - intAt f 7).toNat) ?_ ?_
  · refine ⟨0, by omega, ?_⟩
    simp (disch := omega) only [wk, tis, seval, reduceCtorEq, Nat.reduceEqDiff, rqs, cpoly_len]
  rintro f H ⟨i, hi, hF⟩
  rw [intAt_of hF.1]
  simp (disch := omega) only [wk, tis, seval, reduceCtorEq, Nat.reduceEqDiff, rqs, cpoly_len, hF]
  rcases (show i = 0 ∨ i = 1 ∨ i = 2 by omega) with e | e | e
  · have h : (i : Int) < 2 := by omega
    have hg : [[IV.sl (rats (a.map crat))], [IV.sl (rats (b.map crat))]].getD i [] = [IV.sl (rats (a.map crat))] := by rw [e]; rfl
    simp (disch := omega) only [wk, tis, seval, reduceCtorEq, Nat.reduceEqDiff, rqs, cpoly_len, hF, h, hg]
    refine call_by (g1) (by first | rfl | (simp only [tocvs, tocv, hF]; rfl) | (simp only [tocvs, tocv, toboxes, tobox, updH_at, Nat.reduceEqDiff, ↓reduceIte, hF]; rfl)) (by simp) ?_
    simp (disch := omega) only [wk, tis, seval, reduceCtorEq, Nat.reduceEqDiff, rqs, cpoly_len, hF]
    refine ⟨⟨i + 1, by omega, ?_⟩, by omega⟩
    try (repeat' apply And.intro) <;> first | rfl | omega
  · have h : (i : Int) < 2 := by omega
    have hg : [[IV.sl (rats (a.map crat))], [IV.sl (rats (b.map crat))]].getD i [] = [IV.sl (rats (b.map crat))] := by rw [e]; rfl
    simp (disch := omega) only [wk, tis, seval, reduceCtorEq, Nat.reduceEqDiff, rqs, cpoly_len, hF, h, hg]
    refine call_by (g2) (by first | rfl | (simp only [tocvs, tocv, hF]; rfl) | (simp only [tocvs, tocv, toboxes, tobox, updH_at, Nat.reduceEqDiff, ↓reduceIte, hF]; rfl)) (by simp) ?_
    simp (disch := omega) only [wk, tis, seval, reduceCtorEq, Nat.reduceEqDiff, rqs, cpoly_len, hF]
    refine ⟨⟨i + 1, by omega, ?_⟩, by omega⟩
    try (repeat' apply And.intro) <;> first | rfl | omega
  · have h : ¬ (i : Int) < 2 := by omega
    simp (disch := omega) only [wk, tis, seval, reduceCtorEq, Nat.reduceEqDiff, rqs, cpoly_len, hF, h]
    try rfl
def bR0 : Nat → List Rat
  | 0 => [-2, 1]
  | 1 => [-1, 0, 1]
  | 2 => [-2, 1]
  | _ => [3]
def bR1 : Nat → List Rat
  | 0 => [-1, 0, 1]
  | 1 => [-2, 1]
  | 2 => [3]
  | _ => []
def bU0 : Nat → List Rat
  | 0 => []
  | 1 => [1]
  | 2 => []
  | _ => [1]
def bU1 : Nat → List Rat
  | 0 => [1]
  | 1 => []
  | 2 => [1]
  | _ => [2 / 3, -1 / 3]
theorem bez_ok : AC Tryz.prog 38 [cqc [-1, 0, 1], cqc [-2, 1]] none [cqc [1], cqc [1 / 3], cqc [-2 / 3, -1 / 3], ci 0] := by
  have sm : ∀ l : List Rat, (l.length ≤ 9 ∧ ∀ c ∈ l, qz c ≤ 3) → QB 9 3 l := fun l h => ⟨h.1, h.2⟩
  have sp := sm [-1, 0, 1] (by decide +kernel)
  have sq := sm [-2, 1] (by decide +kernel)
  have s0 := sm [] (by decide +kernel)
  have s1 := sm [1] (by decide +kernel)
  have s2 := sm [2, 1] (by decide +kernel)
  have s3 := sm [3] (by decide +kernel)
  have s4 := sm [-2 / 3, 1 / 3] (by decide +kernel)
  have s5 := sm [1 / 3] (by decide +kernel)
  have s6 := sm [-1 / 3, 0, 1 / 3] (by decide +kernel)
  have s7 := sm [4 / 3, 0, -1 / 3] (by decide +kernel)
  have gd2 := good2_ok sp sq
  have n1 := normc sp (by decide +kernel)
  have n2 := normc sq (by decide +kernel)
  have zo := zOf_ok 1 (by omega) (by omega)
  have no := nof_ok 1 (by simp only [W]; omega)
  have mo := qmono_ok (crat 1) 0 (szq_crat (by rw [qz_one]; omega)) (nv_crat0 _) (by omega)
  rw [qv_crat, show cqp (monoq 1 0) = cqc [1] from congrArg cqw (by rw [cqs, show trimq (monoq 1 0) = [1] by decide +kernel])] at mo
  have d0 := divc (a := [-2, 1]) (b := [-1, 0, 1]) (q := []) (r := [-2, 1]) (n := 0) (dv_dec (by decide +kernel)) sq sp (by decide +kernel) (by decide +kernel)
  have d1 := divc (a := [-1, 0, 1]) (b := [-2, 1]) (q := [2, 1]) (r := [3]) (n := 2) (dv_dec (by decide +kernel)) sp sq (by decide +kernel) (by decide +kernel)
  have d2 := divc (a := [-2, 1]) (b := [3]) (q := [-2 / 3, 1 / 3]) (r := []) (n := 2) (dv_dec (by decide +kernel)) sq s3 (by decide +kernel) (by decide +kernel)
  have m0 := mulc (a := []) (b := [1]) (c := []) s0 s1 (by decide +kernel)
  have m1 := mulc (a := [2, 1]) (b := []) (c := []) s2 s0 (by decide +kernel)
  have m2 := mulc (a := [-2 / 3, 1 / 3]) (b := [1]) (c := [-2 / 3, 1 / 3]) s4 s1 (by decide +kernel)
  have b0 := subc (a := []) (b := []) (c := []) s0 s0 (by decide +kernel)
  have b1 := subc (a := [1]) (b := []) (c := [1]) s1 s0 (by decide +kernel)
  have b2 := subc (a := []) (b := [-2 / 3, 1 / 3]) (c := [2 / 3, -1 / 3]) s0 s4 (by decide +kernel)
  have ld := leadc (a := [3]) (x := 3) (n := 0) s3 (by decide +kernel) (by decide +kernel)
  have g1 := scalec (a := [3]) (k := 1 / 3) (c := [1]) s3 (by decide +kernel) (by decide +kernel)
  have g2 := scalec (a := [1]) (k := 1 / 3) (c := [1 / 3]) s1 (by decide +kernel) (by decide +kernel)
  have d3 := divc (a := [-2, 1]) (b := [1]) (q := [-2, 1]) (r := []) (n := 2) (dv_dec (by decide +kernel)) sq s1 (by decide +kernel) (by decide +kernel)
  have d4 := divc (a := [1 / 3]) (b := [-2, 1]) (q := []) (r := [1 / 3]) (n := 0) (dv_dec (by decide +kernel)) s5 sq (by decide +kernel) (by decide +kernel)
  have m3 := mulc (a := [1 / 3]) (b := [-1, 0, 1]) (c := [-1 / 3, 0, 1 / 3]) s5 sp (by decide +kernel)
  have b3 := subc (a := [1]) (b := [-1 / 3, 0, 1 / 3]) (c := [4 / 3, 0, -1 / 3]) s1 s6 (by decide +kernel)
  have d5 := divc (a := [4 / 3, 0, -1 / 3]) (b := [-2, 1]) (q := [-2 / 3, -1 / 3]) (r := []) (n := 2) (dv_dec (by decide +kernel)) s7 sq (by decide +kernel) (by decide +kernel)
  refine AC.by_walk (rs := [.tmp 4, .tmp 5, .tmp 6, .tmp 7]) ords Tryz.func38 (by rfl) (by rfl) (by rfl) (by rfl) (by rfl) ?_
  simp (disch := omega) only [wk, tis, seval, reduceCtorEq, Nat.reduceEqDiff, rqs, cpoly_len]
  refine call_by (gd2) (by rfl) (by simp) ?_
  simp (disch := omega) only [wk, tis, seval, reduceCtorEq, Nat.reduceEqDiff, rqs, cpoly_len]
  refine call_by (n1) (by rfl) (by simp) ?_
  simp (disch := omega) only [wk, tis, seval, reduceCtorEq, Nat.reduceEqDiff, rqs, cpoly_len]
  refine call_by (n2) (by rfl) (by simp) ?_
  simp (disch := omega) only [wk, tis, seval, reduceCtorEq, Nat.reduceEqDiff, rqs, cpoly_len]
  refine call_by (zo) (by rfl) (by simp) ?_
  simp (disch := omega) only [wk, tis, seval, reduceCtorEq, Nat.reduceEqDiff, rqs, cpoly_len]
  refine call_by (no) (by rfl) (by simp) ?_
  simp (disch := omega) only [wk, tis, seval, reduceCtorEq, Nat.reduceEqDiff, rqs, cpoly_len]
  refine call_by (mo) (by rfl) (by simp) ?_
  simp (disch := omega) only [wk, tis, seval, reduceCtorEq, Nat.reduceEqDiff, rqs, cpoly_len]
  refine aloop_w (.nilv 13 (by simp (disch := omega) only [wk, tis, seval, reduceCtorEq, Nat.reduceEqDiff, rqs, cpoly_len]) (.refl _ _)) (fun f H => ∃ j : Nat, j ≤ 3 ∧ f 0 = .iv (.sl (rats (([-1, 0, 1] : List Rat).map crat))) ∧ f 1 = .iv (.sl (rats (([-2, 1] : List Rat).map crat))) ∧ f 11 = .iv (.sl (rats ((bR0 j).map crat))) ∧ f 12 = .iv (.sl (rats ((bR1 j).map crat))) ∧ f 13 = .iv (.sl (rats ((bU0 j).map crat))) ∧ f 14 = .iv (.sl (rats ((bU1 j).map crat)))) (fun f H => match f 12 with | .iv (.sl l) => l.length | _ => 0) ?_ ?_
  · refine ⟨0, by omega, ?_⟩
    simp (disch := omega) only [wk, tis, seval, reduceCtorEq, Nat.reduceEqDiff, rqs, cpoly_len]
    try (repeat' apply And.intro) <;> first | rfl | omega
  rintro f H ⟨j, hj, hF⟩
  rcases (show j = 0 ∨ j = 1 ∨ j = 2 ∨ j = 3 by omega) with rfl | rfl | rfl | rfl
  · simp only [bR0, bR1, bU0, bU1] at hF
    have hl : (0 : Int) < ((([-1, 0, 1] : List Rat).map crat).length : Int) := by decide
    have hmu : (match f 12 with | .iv (.sl l) => l.length | _ => 0) = 3 := by rw [hF.2.2.2.1]; rfl
    rw [hmu]
    simp (disch := omega) only [wk, tis, seval, reduceCtorEq, Nat.reduceEqDiff, rqs, cpoly_len, hF, hl]
    refine call_by (d0) (by first | rfl | (simp only [tocvs, tocv, hF]; rfl) | (simp only [tocvs, tocv, toboxes, tobox, updH_at, Nat.reduceEqDiff, ↓reduceIte, hF]; rfl)) (by simp) ?_
    simp (disch := omega) only [wk, tis, seval, reduceCtorEq, Nat.reduceEqDiff, rqs, cpoly_len, hF]
    refine call_by (m0) (by first | rfl | (simp only [tocvs, tocv, hF]; rfl) | (simp only [tocvs, tocv, toboxes, tobox, updH_at, Nat.reduceEqDiff, ↓reduceIte, hF]; rfl)) (by simp) ?_
    simp (disch := omega) only [wk, tis, seval, reduceCtorEq, Nat.reduceEqDiff, rqs, cpoly_len, hF]
    refine call_by (b0) (by first | rfl | (simp only [tocvs, tocv, hF]; rfl) | (simp only [tocvs, tocv, toboxes, tobox, updH_at, Nat.reduceEqDiff, ↓reduceIte, hF]; rfl)) (by simp) ?_
    simp (disch := omega) only [wk, tis, seval, reduceCtorEq, Nat.reduceEqDiff, rqs, cpoly_len, hF]
    refine ⟨1, by omega, ?_⟩
    try (repeat' apply And.intro) <;> first | rfl | omega
  · simp only [bR0, bR1, bU0, bU1] at hF
    have hl : (0 : Int) < ((([-2, 1] : List Rat).map crat).length : Int) := by decide
    have hmu : (match f 12 with | .iv (.sl l) => l.length | _ => 0) = 2 := by rw [hF.2.2.2.1]; rfl
    rw [hmu]
    simp (disch := omega) only [wk, tis, seval, reduceCtorEq, Nat.reduceEqDiff, rqs, cpoly_len, hF, hl]
    refine call_by (d1) (by first | rfl | (simp only [tocvs, tocv, hF]; rfl) | (simp only [tocvs, tocv, toboxes, tobox, updH_at, Nat.reduceEqDiff, ↓reduceIte, hF]; rfl)) (by simp) ?_
    simp (disch := omega) only [wk, tis, seval, reduceCtorEq, Nat.reduceEqDiff, rqs, cpoly_len, hF]
    refine call_by (m1) (by first | rfl | (simp only [tocvs, tocv, hF]; rfl) | (simp only [tocvs, tocv, toboxes, tobox, updH_at, Nat.reduceEqDiff, ↓reduceIte, hF]; rfl)) (by simp) ?_
    simp (disch := omega) only [wk, tis, seval, reduceCtorEq, Nat.reduceEqDiff, rqs, cpoly_len, hF]
    refine call_by (b1) (by first | rfl | (simp only [tocvs, tocv, hF]; rfl) | (simp only [tocvs, tocv, toboxes, tobox, updH_at, Nat.reduceEqDiff, ↓reduceIte, hF]; rfl)) (by simp) ?_
    simp (disch := omega) only [wk, tis, seval, reduceCtorEq, Nat.reduceEqDiff, rqs, cpoly_len, hF]
    refine ⟨2, by omega, ?_⟩
    try (repeat' apply And.intro) <;> first | rfl | omega
  · simp only [bR0, bR1, bU0, bU1] at hF
    have hl : (0 : Int) < ((([3] : List Rat).map crat).length : Int) := by decide
    have hmu : (match f 12 with | .iv (.sl l) => l.length | _ => 0) = 1 := by rw [hF.2.2.2.1]; rfl
    rw [hmu]
    simp (disch := omega) only [wk, tis, seval, reduceCtorEq, Nat.reduceEqDiff, rqs, cpoly_len, hF, hl]
    refine call_by (d2) (by first | rfl | (simp only [tocvs, tocv, hF]; rfl) | (simp only [tocvs, tocv, toboxes, tobox, updH_at, Nat.reduceEqDiff, ↓reduceIte, hF]; rfl)) (by simp) ?_
    simp (disch := omega) only [wk, tis, seval, reduceCtorEq, Nat.reduceEqDiff, rqs, cpoly_len, hF]
    refine call_by (m2) (by first | rfl | (simp only [tocvs, tocv, hF]; rfl) | (simp only [tocvs, tocv, toboxes, tobox, updH_at, Nat.reduceEqDiff, ↓reduceIte, hF]; rfl)) (by simp) ?_
    simp (disch := omega) only [wk, tis, seval, reduceCtorEq, Nat.reduceEqDiff, rqs, cpoly_len, hF]
    refine call_by (b2) (by first | rfl | (simp only [tocvs, tocv, hF]; rfl) | (simp only [tocvs, tocv, toboxes, tobox, updH_at, Nat.reduceEqDiff, ↓reduceIte, hF]; rfl)) (by simp) ?_
    simp (disch := omega) only [wk, tis, seval, reduceCtorEq, Nat.reduceEqDiff, rqs, cpoly_len, hF]
    refine ⟨3, by omega, ?_⟩
    try (repeat' apply And.intro) <;> first | rfl | omega
  · simp only [bR0, bR1, bU0, bU1] at hF
    have hl : ¬ (0 : Int) < ((([] : List Rat).map crat).length : Int) := by decide
    simp (disch := omega) only [wk, tis, seval, reduceCtorEq, Nat.reduceEqDiff, rqs, cpoly_len, hF, hl]
    refine call_by (ld) (by first | rfl | (simp only [tocvs, tocv, hF]; rfl) | (simp only [tocvs, tocv, toboxes, tobox, updH_at, Nat.reduceEqDiff, ↓reduceIte, hF]; rfl)) (by simp) ?_
    simp (disch := omega) only [wk, tis, seval, reduceCtorEq, Nat.reduceEqDiff, rqs, cpoly_len, hF]
    refine call_by (inv3_ok) (by first | rfl | (simp only [tocvs, tocv, hF]; rfl) | (simp only [tocvs, tocv, toboxes, tobox, updH_at, Nat.reduceEqDiff, ↓reduceIte, hF]; rfl)) (by simp) ?_
    simp (disch := omega) only [wk, tis, seval, reduceCtorEq, Nat.reduceEqDiff, rqs, cpoly_len, hF]
    refine call_by (g1) (by first | rfl | (simp only [tocvs, tocv, hF]; rfl) | (simp only [tocvs, tocv, toboxes, tobox, updH_at, Nat.reduceEqDiff, ↓reduceIte, hF]; rfl)) (by simp) ?_
    simp (disch := omega) only [wk, tis, seval, reduceCtorEq, Nat.reduceEqDiff, rqs, cpoly_len, hF]
    refine call_by (g2) (by first | rfl | (simp only [tocvs, tocv, hF]; rfl) | (simp only [tocvs, tocv, toboxes, tobox, updH_at, Nat.reduceEqDiff, ↓reduceIte, hF]; rfl)) (by simp) ?_
    simp (disch := omega) only [wk, tis, seval, reduceCtorEq, Nat.reduceEqDiff, rqs, cpoly_len, hF]
    refine call_by (d3) (by first | rfl | (simp only [tocvs, tocv, hF]; rfl) | (simp only [tocvs, tocv, toboxes, tobox, updH_at, Nat.reduceEqDiff, ↓reduceIte, hF]; rfl)) (by simp) ?_
    simp (disch := omega) only [wk, tis, seval, reduceCtorEq, Nat.reduceEqDiff, rqs, cpoly_len, hF]
    refine call_by (d4) (by first | rfl | (simp only [tocvs, tocv, hF]; rfl) | (simp only [tocvs, tocv, toboxes, tobox, updH_at, Nat.reduceEqDiff, ↓reduceIte, hF]; rfl)) (by simp) ?_
    simp (disch := omega) only [wk, tis, seval, reduceCtorEq, Nat.reduceEqDiff, rqs, cpoly_len, hF]
    refine call_by (m3) (by first | rfl | (simp only [tocvs, tocv, hF]; rfl) | (simp only [tocvs, tocv, toboxes, tobox, updH_at, Nat.reduceEqDiff, ↓reduceIte, hF]; rfl)) (by simp) ?_
    simp (disch := omega) only [wk, tis, seval, reduceCtorEq, Nat.reduceEqDiff, rqs, cpoly_len, hF]
    refine call_by (b3) (by first | rfl | (simp only [tocvs, tocv, hF]; rfl) | (simp only [tocvs, tocv, toboxes, tobox, updH_at, Nat.reduceEqDiff, ↓reduceIte, hF]; rfl)) (by simp) ?_
    simp (disch := omega) only [wk, tis, seval, reduceCtorEq, Nat.reduceEqDiff, rqs, cpoly_len, hF]
    refine call_by (d5) (by first | rfl | (simp only [tocvs, tocv, hF]; rfl) | (simp only [tocvs, tocv, toboxes, tobox, updH_at, Nat.reduceEqDiff, ↓reduceIte, hF]; rfl)) (by simp) ?_
    simp (disch := omega) only [wk, tis, seval, reduceCtorEq, Nat.reduceEqDiff, rqs, cpoly_len, hF]
    try exact ⟨rfl, rfl, rfl⟩
theorem fixed14_ok : AC Tryz.prog 7 [] none [cb true] := by
  have lim : ∀ l : List Int, (l.length ≤ 9 ∧ ∀ z ∈ l, z.natAbs < 10) → (AC Tryz.prog 37 [cis l] none [cp l]) ∧ RP 9 1 (cn l) := fun l h => by
    refine ⟨tP_ok l (by omega) (fun z hz => by have := h.2 z hz; omega), ?_⟩
    exact rp_cn (small_pb l 9 h.1 fun z hz => by have := h.2 z hz; simp only [W]; omega)
  have mo : ∀ {l : List RI}, RP 9 1 l → RP 9 2 l := fun h => h.mono (Nat.le_refl _) (by omega)
  obtain ⟨p1, r1⟩ := lim [-1, 0, 1] (by decide)
  obtain ⟨p2, r2⟩ := lim [1, -2, 1] (by decide)
  obtain ⟨p3, r3⟩ := lim [-1, 1] (by decide)
  obtain ⟨p4, r4⟩ := lim [0, 0, 0, -1, 1] (by decide)
  obtain ⟨p5, r5⟩ := lim [0, 1] (by decide)
  obtain ⟨p6, r6⟩ := lim [0, 2] (by decide)
  obtain ⟨p7, r7⟩ := lim [4] (by decide)
  obtain ⟨p8, r8⟩ := lim [-2, 1] (by decide)
  obtain ⟨p9, r9⟩ := lim [1] (by decide)
  have g := pgcd_g (p := cn [-1, 0, 1]) (q := cn [1, -2, 1]) (A := [-1, 0, 1]) (B := [1, -2, 1]) 9 2 (r1.mono (by omega) (by omega)) (r2.mono (by omega) (by omega)) (ps_cn _) (ps_cn _) (by decide) (by decide) (by omega) ez2
  rw [show cp (gcdp [-1, 0, 1] [1, -2, 1]) = cp [-1, 1] from cp_ps (by rw [← ps_trimz, show trimz (gcdp [-1, 0, 1] [1, -2, 1]) = [-1, 1] by decide +kernel])] at g
  have s3 := tSame_ok (cn [-1, 1]) (cn [-1, 1]) (r3.mono (by omega) (by omega)) (r3.mono (by omega) (by omega))
  rw [decide_eq_true rfl] at s3
  have e4 : pv (cn [0, 0, 0, -1, 1]) = [0, 0, 0, -1, 1] := pv_cnt (by decide)
  have e5 : pv (cn [0, 1]) = [0, 1] := pv_cnt (by decide)
  have e6 : pv (cn [0, 2]) = [0, 2] := pv_cnt (by decide)
  have e7 : pv (cn [4]) = [4] := pv_cnt (by decide)
  have t := ptimes_ok (cn [0, 0, 0, -1, 1]) (cn [0, 1]) (mo r4) (mo r5)
  rw [e4, e5, if_neg (by decide), if_neg (by decide), show tmn [0, 1] 9 (npr [0, 0, 0, -1, 1]) = 3 by decide +kernel, show cp (tmr [0, 1] 9 (npr [0, 0, 0, -1, 1])) = cp [-1, 1] from cp_ps (by rw [← ps_trimz, show trimz (tmr [0, 1] 9 (npr [0, 0, 0, -1, 1])) = [-1, 1] by decide +kernel]), show ((3 : Nat) : Int) = 3 from rfl] at t
  have x := pexact_ok (cn [0, 2]) (cn [4]) 1 (r6.mono (by omega) (by omega)) (r7.mono (by omega) (by omega)) (by omega)
  rw [e6, e7, show exv [0, 2] [4] = [] by decide +kernel, show exe [0, 2] [4] = 4 by decide +kernel] at x
  have ov : ∀ l : List Int, RP 9 1 (cn l) → trimz l = l → AC Tryz.prog 39 [cp l] none [cqc (qp l)] := fun l h e => by
    have o := overq_ok (cn l) (h.mono (by omega) (by omega))
    rwa [pv_cnt e, show cqp (qp l) = cqc (qp l) from congrArg cqw (by rw [cqs, qp_trim, e])] at o
  have o1 := ov [-1, 0, 1] r1 (by decide)
  have o8 := ov [-2, 1] r8 (by decide)
  have o9 := ov [1] r9 (by decide)
  rw [show qp [-1, 0, 1] = [-1, 0, 1] by decide +kernel] at o1
  rw [show qp [-2, 1] = [-2, 1] by decide +kernel] at o8
  rw [show qp [1] = [1] by decide +kernel] at o9
  have bz := bez_ok
  have sq : ∀ l : List Rat, (l.length ≤ 9 ∧ ∀ c ∈ l, qz c ≤ 3) → AC Tryz.prog 40 [cqc l, cqc l] none [cb true] := fun l h => by
    have hb : QB 9 3 l := ⟨h.1, h.2⟩
    exact sameq11_self (l.map crat) (hb.gq.bq.mono (by omega) (by omega))
  have q1 := sq [1] (by decide +kernel)
  have q2 := sq [1 / 3] (by decide +kernel)
  have q3 := sq [-2 / 3, -1 / 3] (by decide +kernel)
  have h1 := hP_ok 1 3 (by omega) (by omega) (by omega) (by omega)
  have h2 := hP_ok (-2) 3 (by omega) (by omega) (by omega) (by omega)
  have h3 := hP_ok (-1) 3 (by omega) (by omega) (by omega) (by omega)
  rw [show ((1 : Int) : Rat) / ((3 : Nat) : Rat) = 1 / 3 by decide +kernel] at h1
  rw [show ((-2 : Int) : Rat) / ((3 : Nat) : Rat) = -2 / 3 by decide +kernel] at h2
  rw [show ((-1 : Int) : Rat) / ((3 : Nat) : Rat) = -1 / 3 by decide +kernel] at h3
  have i1 : [[IV.int .i64 (-1)], [IV.int .i64 0], [IV.int .i64 1]] = ilims [-1, 0, 1] := rfl
  have i2 : [[IV.int .i64 1], [IV.int .i64 (-2)], [IV.int .i64 1]] = ilims [1, -2, 1] := rfl
  have i3 : [[IV.int .i64 (-1)], [IV.int .i64 1]] = ilims [-1, 1] := rfl
  have i4 : [[IV.int .i64 0], [IV.int .i64 0], [IV.int .i64 0], [IV.int .i64 (-1)], [IV.int .i64 1]] = ilims [0, 0, 0, -1, 1] := rfl
  have i5 : [[IV.int .i64 0], [IV.int .i64 1]] = ilims [0, 1] := rfl
  have i6 : [[IV.int .i64 0], [IV.int .i64 2]] = ilims [0, 2] := rfl
  have i7 : [[IV.int .i64 4]] = ilims [4] := rfl
  have i8 : [[IV.int .i64 (-2)], [IV.int .i64 1]] = ilims [-2, 1] := rfl
  have i9 : [[IV.int .i64 1]] = ilims [1] := rfl
  have hir : ∀ l : List Int, (∀ r ∈ ilims l, r.length = 1) ↔ True := fun l => by simp [ilims]
  have hr5 : List.range 5 = [0, 1, 2, 3, 4] := rfl
  have j1 : [qrow (crat (1 / 3))] = rats (([1 / 3] : List Rat).map crat) := rfl
  have j2 : [qrow (crat (-2 / 3)), qrow (crat (-1 / 3))] = rats (([-2 / 3, -1 / 3] : List Rat).map crat) := rfl
  refine AC.by_walk (rs := [.tmp 0]) ords Tryz.func7 (by rfl) (by rfl) (by rfl) (by rfl) (by rfl) ?_
  simp (disch := omega) only [wk, tis, seval, reduceCtorEq, Nat.reduceEqDiff, rqs, cpoly_len]
  refine call_by (p1) (by first | rfl | (simp only [tocvs, tocv, i1, i2, hir]; rfl) | (simp only [tocvs, tocv, toboxes, tobox, updH_at, Nat.reduceEqDiff, ↓reduceIte, i1, i2, hir]; rfl)) (by simp) ?_
  simp (disch := omega) only [wk, tis, seval, reduceCtorEq, Nat.reduceEqDiff, rqs, cpoly_len, i1, i2, hir]
  refine call_by (p2) (by first | rfl | (simp only [tocvs, tocv, i1, i2, i3, hir]; rfl) | (simp only [tocvs, tocv, toboxes, tobox, updH_at, Nat.reduceEqDiff, ↓reduceIte, i1, i2, i3, hir]; rfl)) (by simp) ?_
  simp (disch := omega) only [wk, tis, seval, reduceCtorEq, Nat.reduceEqDiff, rqs, cpoly_len, i1, i2, i3, hir]
  refine call_by (g) (by first | rfl | (simp only [tocvs, tocv, i3, hir]; rfl) | (simp only [tocvs, tocv, toboxes, tobox, updH_at, Nat.reduceEqDiff, ↓reduceIte, i3, hir]; rfl)) (by simp) ?_
  simp (disch := omega) only [wk, tis, seval, reduceCtorEq, Nat.reduceEqDiff, rqs, cpoly_len, i3, hir]
  refine call_by (p3) (by first | rfl | (simp only [tocvs, tocv, i3, hir]; rfl) | (simp only [tocvs, tocv, toboxes, tobox, updH_at, Nat.reduceEqDiff, ↓reduceIte, i3, hir]; rfl)) (by simp) ?_
  simp (disch := omega) only [wk, tis, seval, reduceCtorEq, Nat.reduceEqDiff, rqs, cpoly_len, i3, hir]
  refine call_by (s3) (by first | rfl | (simp only [tocvs, tocv, i4, i5, hir, hr5]; rfl) | (simp only [tocvs, tocv, toboxes, tobox, updH_at, Nat.reduceEqDiff, ↓reduceIte, i4, i5, hir, hr5]; rfl)) (by simp) ?_
  simp (disch := omega) only [wk, tis, seval, reduceCtorEq, Nat.reduceEqDiff, rqs, cpoly_len, i4, i5, hir, hr5]
  refine call_by (p4) (by first | rfl | (simp only [tocvs, tocv, i4, i5, hir, hr5]; rfl) | (simp only [tocvs, tocv, toboxes, tobox, updH_at, Nat.reduceEqDiff, ↓reduceIte, i4, i5, hir, hr5]; rfl)) (by simp) ?_
  simp (disch := omega) only [wk, tis, seval, reduceCtorEq, Nat.reduceEqDiff, rqs, cpoly_len, i4, i5, hir, hr5]
  refine call_by (p5) (by first | rfl | (simp only [tocvs, tocv, i5, hir]; rfl) | (simp only [tocvs, tocv, toboxes, tobox, updH_at, Nat.reduceEqDiff, ↓reduceIte, i5, hir]; rfl)) (by simp) ?_
  simp (disch := omega) only [wk, tis, seval, reduceCtorEq, Nat.reduceEqDiff, rqs, cpoly_len, i5, hir]
  refine call_by (t) (by first | rfl | (simp only [tocvs, tocv, i6, i7, hir]; rfl) | (simp only [tocvs, tocv, toboxes, tobox, updH_at, Nat.reduceEqDiff, ↓reduceIte, i6, i7, hir]; rfl)) (by simp) ?_
  simp (disch := omega) only [wk, tis, seval, reduceCtorEq, Nat.reduceEqDiff, rqs, cpoly_len, i6, i7, hir]
  refine call_by (p6) (by first | rfl | (simp only [tocvs, tocv, i6, i7, hir]; rfl) | (simp only [tocvs, tocv, toboxes, tobox, updH_at, Nat.reduceEqDiff, ↓reduceIte, i6, i7, hir]; rfl)) (by simp) ?_
  simp (disch := omega) only [wk, tis, seval, reduceCtorEq, Nat.reduceEqDiff, rqs, cpoly_len, i6, i7, hir]
  refine call_by (p7) (by first | rfl | (simp only [tocvs, tocv, i7, hir]; rfl) | (simp only [tocvs, tocv, toboxes, tobox, updH_at, Nat.reduceEqDiff, ↓reduceIte, i7, hir]; rfl)) (by simp) ?_
  simp (disch := omega) only [wk, tis, seval, reduceCtorEq, Nat.reduceEqDiff, rqs, cpoly_len, i7, hir]
  refine call_by (x) (by first | rfl | (simp only [tocvs, tocv, i1, hir]; rfl) | (simp only [tocvs, tocv, toboxes, tobox, updH_at, Nat.reduceEqDiff, ↓reduceIte, i1, hir]; rfl)) (by simp) ?_
  simp (disch := omega) only [wk, tis, seval, reduceCtorEq, Nat.reduceEqDiff, rqs, cpoly_len, i1, hir]
  refine call_by (p1) (by first | rfl | (simp only [tocvs, tocv, i1, i8, hir]; rfl) | (simp only [tocvs, tocv, toboxes, tobox, updH_at, Nat.reduceEqDiff, ↓reduceIte, i1, i8, hir]; rfl)) (by simp) ?_
  simp (disch := omega) only [wk, tis, seval, reduceCtorEq, Nat.reduceEqDiff, rqs, cpoly_len, i1, i8, hir]
  refine call_by (o1) (by first | rfl | (simp only [tocvs, tocv, i8, hir]; rfl) | (simp only [tocvs, tocv, toboxes, tobox, updH_at, Nat.reduceEqDiff, ↓reduceIte, i8, hir]; rfl)) (by simp) ?_
  simp (disch := omega) only [wk, tis, seval, reduceCtorEq, Nat.reduceEqDiff, rqs, cpoly_len, i8, hir]
  refine call_by (p8) (by first | rfl | (simp only [tocvs, tocv, i8, hir]; rfl) | (simp only [tocvs, tocv, toboxes, tobox, updH_at, Nat.reduceEqDiff, ↓reduceIte, i8, hir]; rfl)) (by simp) ?_
  simp (disch := omega) only [wk, tis, seval, reduceCtorEq, Nat.reduceEqDiff, rqs, cpoly_len, i8, hir]
  refine call_by (o8) (by rfl) (by simp) ?_
  simp (disch := omega) only [wk, tis, seval, reduceCtorEq, Nat.reduceEqDiff, rqs, cpoly_len]
  refine call_by (bz) (by first | rfl | (simp only [tocvs, tocv, i3, hir]; rfl) | (simp only [tocvs, tocv, toboxes, tobox, updH_at, Nat.reduceEqDiff, ↓reduceIte, i3, hir]; rfl)) (by simp) ?_
  simp (disch := omega) only [wk, tis, seval, reduceCtorEq, Nat.reduceEqDiff, rqs, cpoly_len, i3, hir]
  refine call_by (p3) (by first | rfl | (simp only [tocvs, tocv, i3, hir]; rfl) | (simp only [tocvs, tocv, toboxes, tobox, updH_at, Nat.reduceEqDiff, ↓reduceIte, i3, hir]; rfl)) (by simp) ?_
  simp (disch := omega) only [wk, tis, seval, reduceCtorEq, Nat.reduceEqDiff, rqs, cpoly_len, i3, hir]
  refine call_by (s3) (by first | rfl | (simp only [tocvs, tocv, i9, hir]; rfl) | (simp only [tocvs, tocv, toboxes, tobox, updH_at, Nat.reduceEqDiff, ↓reduceIte, i9, hir]; rfl)) (by simp) ?_
  simp (disch := omega) only [wk, tis, seval, reduceCtorEq, Nat.reduceEqDiff, rqs, cpoly_len, i9, hir]
  refine call_by (p9) (by first | rfl | (simp only [tocvs, tocv, i9, hir]; rfl) | (simp only [tocvs, tocv, toboxes, tobox, updH_at, Nat.reduceEqDiff, ↓reduceIte, i9, hir]; rfl)) (by simp) ?_
  simp (disch := omega) only [wk, tis, seval, reduceCtorEq, Nat.reduceEqDiff, rqs, cpoly_len, i9, hir]
  refine call_by (o9) (by rfl) (by simp) ?_
  simp (disch := omega) only [wk, tis, seval, reduceCtorEq, Nat.reduceEqDiff, rqs, cpoly_len]
  refine call_by (q1) (by rfl) (by simp) ?_
  simp (disch := omega) only [wk, tis, seval, reduceCtorEq, Nat.reduceEqDiff, rqs, cpoly_len]
  refine call_by (h1) (by first | rfl | (simp only [tocvs, tocv, j1]; rfl) | (simp only [tocvs, tocv, toboxes, tobox, updH_at, Nat.reduceEqDiff, ↓reduceIte, j1]; rfl)) (by simp) ?_
  simp (disch := omega) only [wk, tis, seval, reduceCtorEq, Nat.reduceEqDiff, rqs, cpoly_len, j1]
  refine call_by (q2) (by rfl) (by simp) ?_
  simp (disch := omega) only [wk, tis, seval, reduceCtorEq, Nat.reduceEqDiff, rqs, cpoly_len]
  refine call_by (h2) (by rfl) (by simp) ?_
  simp (disch := omega) only [wk, tis, seval, reduceCtorEq, Nat.reduceEqDiff, rqs, cpoly_len]
  refine call_by (h3) (by first | rfl | (simp only [tocvs, tocv, j2]; rfl) | (simp only [tocvs, tocv, toboxes, tobox, updH_at, Nat.reduceEqDiff, ↓reduceIte, j2]; rfl)) (by simp) ?_
  simp (disch := omega) only [wk, tis, seval, reduceCtorEq, Nat.reduceEqDiff, rqs, cpoly_len, j2]
  refine call_by (q3) (by rfl) (by simp) ?_
  simp (disch := omega) only [wk, tis, seval, reduceCtorEq, Nat.reduceEqDiff, rqs, cpoly_len]
  try rfl
end Go.Proofs.YtlmkieimciodoaaGreat

namespace Go.Proofs.YtlmkieimciodoaaGreat
open Go Go.Proofs Go.AL
set_option linter.unusedSimpArgs false
set_option linter.unusedVariables false
theorem same_nil : AC Tryz.prog 9 [cp [], cp []] none [cb true] := same14 (sb_zero (by decide)) (by decide)
theorem same92 {A : List Int} (h : SBd 92 A ∧ tz A ≤ 9) : AC Tryz.prog 9 [cp A, cp A] none [cb true] := same14 (h.1.mono (by omega)) (by omega)
theorem tz_pdivs (c : Int) (D : List Int) : tz (pdivs c D) ≤ tz D := tz_le_of fun k hk => by rw [cf_pdivs, cf_ge_tz D hk, Int.zero_ediv]
theorem exv_sz {P R : List Int} {S : Nat} (tP : tz P ≤ 40) (sP : SBd S P) (sR : SBd S R) : SBd (S + 41 * (S + 1)) (exv P R) ∧ tz (exv P R) ≤ 41 := by
  unfold exv
  split
  · exact ⟨sb_zero (by decide), by decide⟩
  · rename_i h0
    split
    · rename_i he
      have hdx : dxp P R ≤ 41 := by unfold dxp; omega
      have hg : (lc R ^ dxp P R) ∣ (gz (dq P R) : Int) := by
        unfold exok at he
        rw [Bool.and_eq_true, decide_eq_true_iff] at he
        exact he.2
      refine ⟨fun i => ?_, Nat.le_trans (tz_pdivs _ _) (Nat.le_trans (dq_tz h0) hdx)⟩
      rw [cf_pdivs]
      refine Nat.le_trans (zl_div (dvd_gz.mp hg i)) (Nat.le_trans ((div_sz h0 sP sR).1 i) ?_)
      have := Nat.mul_le_mul_right (S + 1) hdx
      omega
    · exact ⟨sb_zero (by decide), by decide⟩
theorem left_small {P G : List Int} (tP : tz P ≤ 9) (sP : SBd 2 P) (hG : tz G ≠ 0) (hd : Dv G P) : SBd 92 (leftv P G) ∧ tz (leftv P G) ≤ 9 := by
  unfold leftv
  split
  · exact ⟨sb_zero (by decide), by decide⟩
  · rename_i h0
    have := small_dv h0 tP sP (quo_nf P G) (quo_dv hG hd)
    exact ⟨this.1, this.2.1⟩
theorem parts_ex {p q : List RI} (hp : RP 9 2 p) (hq : RP 9 2 q) : ∃ (a b c : List Int) (e : Int), AC Tryz.prog 24 [cw p, cw q] none [cp a, cp b, cp c, ci e] ∧ AC Tryz.prog 25 [cw p, cw q] none [cp a, cp b, cp c, ci e] ∧ AC Tryz.prog 9 [cp a, cp a] none [cb true] ∧ AC Tryz.prog 9 [cp b, cp b] none [cb true] ∧ AC Tryz.prog 9 [cp c, cp c] none [cb true] := by
  have h1 := pparts_ok p q hp hq
  have h2 := tparts_ok p q hp hq
  obtain ⟨tP, sP⟩ := few_facts hp
  obtain ⟨tQ, sQ⟩ := few_facts hq
  by_cases h0 : tz (gcdp (pv p) (pv q)) = 0
  · rw [if_pos h0] at h1 h2
    exact ⟨[], [], [], 1, h1, h2, same_nil, same_nil, same_nil⟩
  · rw [if_neg h0] at h1 h2
    have gg := gcdp_gg (pv p) (pv q)
    exact ⟨_, _, _, 0, h1, h2, same92 (gcd_small tP sP tQ sQ), same92 (left_small tP sP h0 gg.a), same92 (left_small tQ sQ h0 gg.b)⟩
theorem tmr_small {P B : List Int} (h0 : tz P ≠ 0) (tP : tz P ≤ 9) (sP : SBd 2 P) (hB : tz B ≠ 0) : ∀ (f : Nat) (A : List Int), Nf A → Dv A P → SBd 92 (tmr B f A) ∧ tz (tmr B f A) ≤ 9 ∧ Nf (tmr B f A) ∧ Dv (tmr B f A) P
  | 0, A, n, d => by
    have := small_dv h0 tP sP n d
    exact ⟨this.1, this.2.1, n, d⟩
  | f + 1, A, n, d => by
    rw [tmr]
    split
    · rename_i hd
      have hdv := (dvb_iff _ _).mp hd
      exact tmr_small h0 tP sP hB f _ (quo_nf _ _) ((quo_dv hB hdv).trans d)
    · have := small_dv h0 tP sP n d
      exact ⟨this.1, this.2.1, n, d⟩
theorem times_ex {p q : List RI} (hp : RP 9 2 p) (hq : RP 9 2 q) : ∃ (n : Int) (a : List Int) (e : Int), AC Tryz.prog 26 [cw p, cw q] none [ci n, cp a, ci e] ∧ AC Tryz.prog 27 [cw p, cw q] none [ci n, cp a, ci e] ∧ AC Tryz.prog 9 [cp a, cp a] none [cb true] := by
  have h1 := ptimes_ok p q hp hq
  have h2 := ttimes14_ok p q hp hq
  obtain ⟨tP, sP⟩ := few_facts hp
  by_cases h0 : tz (pv p) = 0
  · rw [if_pos h0] at h1 h2
    exact ⟨0, [], 1, h1, h2, same_nil⟩
  rw [if_neg h0] at h1 h2
  by_cases hq1 : tz (pv q) ≤ 1
  · rw [if_pos hq1] at h1 h2
    exact ⟨0, [], 3, h1, h2, same_nil⟩
  rw [if_neg hq1] at h1 h2
  have s := tmr_small h0 tP sP (B := pv q) (by omega) 9 (npr (pv p)) (nf_npr _) (as_npr (pv p)).symm.dv
  exact ⟨_, _, 0, h1, h2, same92 ⟨s.1, s.2.1⟩⟩
theorem wof_small {P B : List Int} (h0 : tz P ≠ 0) (tP : tz P ≤ 9) (sP : SBd 2 P) : ∀ (f : Nat) (A : List Int), Nf A → Dv A P → SBd 92 (wof B f A) ∧ tz (wof B f A) ≤ 9 ∧ Nf (wof B f A) ∧ Dv (wof B f A) P
  | 0, A, n, d => by
    have := small_dv h0 tP sP n d
    exact ⟨this.1, this.2.1, n, d⟩
  | f + 1, A, n, d => by
    rw [wof]
    split
    · have := small_dv h0 tP sP n d
      exact ⟨this.1, this.2.1, n, d⟩
    · have gg := gcdp_gg A B
      have hA := (dv_tz d h0).1
      exact wof_small h0 tP sP f _ (quo_nf _ _) ((quo_dv (dv_tz gg.a hA).1 gg.a).trans d)
theorem without_ex {p q : List RI} (hp : RP 9 2 p) (hq : RP 9 2 q) : ∃ (a : List Int) (e : Int), AC Tryz.prog 28 [cw p, cw q] none [cp a, ci e] ∧ AC Tryz.prog 29 [cw p, cw q] none [cp a, ci e] ∧ AC Tryz.prog 9 [cp a, cp a] none [cb true] := by
  have h1 := pwithout_ok p q hp hq
  have h2 := twithout_ok p q hp hq
  obtain ⟨tP, sP⟩ := few_facts hp
  by_cases h0 : tz (pv p) = 0 ∨ tz (pv q) = 0
  · rw [if_pos h0] at h1 h2
    exact ⟨[], 1, h1, h2, same_nil⟩
  rw [if_neg h0] at h1 h2
  have s := wof_small (B := pv q) (by omega) tP sP 10 (npr (pv p)) (nf_npr _) (as_npr (pv p)).symm.dv
  exact ⟨_, 0, h1, h2, same92 ⟨s.1, s.2.1⟩⟩
structure Y14 (y : C14) : Prop where
  P : RP 9 2 y.P
  R : RP 9 2 y.R
  K : RP 9 2 y.K
  L : y.L.length ≤ 6 ∧ ∀ p ∈ y.L, RP 9 2 p
theorem y14 {x : C14} (h : Ok14 x) : Y14 (less14 x) := by
  have f : ∀ {p : List RI}, Raw p → RP 9 2 (fp2 p) := fun {p} hp => fp2_rp fun c hc => (hp.2 c hc).2
  refine ⟨f h.P, f h.R, f h.K, ?_, fun p hp => ?_⟩
  · show ((x.L.take 6).map fp2).length ≤ 6
    rw [List.length_map, List.length_take]; omega
  · obtain ⟨q, hq, rfl⟩ := List.mem_map.1 hp
    exact f (h.L.2 q (List.mem_of_mem_take hq))
theorem lcm_small {P R : List Int} (tP : tz P ≤ 9) (sP : SBd 2 P) (tR : tz R ≤ 9) (sR : SBd 2 R) : SBd 200 (lcmp P R) ∧ tz (lcmp P R) ≤ 20 := by
  unfold lcmp
  split
  · exact ⟨sb_zero (by decide), by decide⟩
  · rename_i h0
    have gg := gcdp_gg P R
    obtain ⟨g1, g2, g3⟩ := small_dv (by omega) tP sP (gcdp_nf P R) gg.a
    obtain ⟨q1, q2, q3⟩ := small_dv (by omega) tR sR (quo_nf R (gcdp P R)) (quo_dv g3 gg.b)
    have tm := tz_pmul (p := P) (q := quo R (gcdp P R)) (by omega) q3
    refine ⟨sb_npr fun i => ?_, by rw [tz_npr]; omega⟩
    have rp1 := (rp_sb tP sP).pv
    have rp2 := (rp_sb q2 q1).pv
    have h := (PB.pmul rp1 rp2 (by simp only [W]; omega)).cf i
    rw [pmul_congr (p' := P) (q' := quo R (gcdp P R)) (cf_cn _) (cf_cn _)] at h
    omega
theorem divisors14_law {x : C14} (h : Ok14 x) : AC Tryz.prog 3 [.agg (case14 x)] none [cb true] := by
  have le := less14_ok h
  have hy := y14 h
  generalize less14 x = y at *
  obtain ⟨hP, hR, hK, hL⟩ := hy
  obtain ⟨tP, sP⟩ := few_facts hP
  obtain ⟨tR, sR⟩ := few_facts hR
  have hP40 := hP.mono (show 9 ≤ 40 by omega) (Nat.le_refl 2)
  have hR40 := hR.mono (show 9 ≤ 40 by omega) (Nat.le_refl 2)
  have cP := c14_ok y.P (hP.mono (by omega) (by omega))
  have cR := c14_ok y.R (hR.mono (by omega) (by omega))
  have cL := cs14_ok y.L (by omega) fun p hp => (hL.2 p hp).mono (by omega) (by omega)
  have g1 := pgcd_g 9 2 hP40 hR40 rfl rfl tP tR (by omega) ez2
  have g2 := tgcd14_g 9 2 hP40 hR40 rfl rfl tP tR (by omega) ez2
  have sg := same92 (gcd_small tP sP tR sR)
  have a1 := pall_ok y.L (by omega) hL.2
  have a2 := tall_ok y.L (by omega) hL.2
  have sa := alf_small hL.2 y.L.length (Nat.le_refl _)
  rw [List.take_length] at sa
  have sA := same92 sa
  have l1 := plcm_ok y.P y.R hP hR
  have l2 := tlcm_ok y.P y.R hP hR
  have ls := lcm_small tP sP tR sR
  have sl := same14 (A := lcmp (pv y.P) (pv y.R)) (ls.1.mono (by omega)) (by omega)
  have c1 := pcoprime_g 9 2 hP40 hR40 rfl rfl tP tR (by omega) ez2
  have c2 := tcoprime_g 9 2 hP40 hR40 rfl rfl tP tR (by omega) ez2
  generalize decide (tz (gcdp (pv y.P) (pv y.R)) = 1) = b at *
  have hsp : splice (case14 x) 0 (case14 y) = case14 y := rfl
  have hbb : (b == b) = true := by cases b <;> rfl
  refine AC.by_walk (rs := [.tmp 2]) ords Tryz.func3 (by rfl) (by rfl) (by rfl) (by rfl) (by rfl) ?_
  simp (disch := omega) only [wk, tis, seval, reduceCtorEq, Nat.reduceEqDiff, rqs, cpoly_len]
  refine call_by (fixed14_ok) (by rfl) (by simp) ?_
  simp (disch := omega) only [wk, tis, seval, reduceCtorEq, Nat.reduceEqDiff, rqs, cpoly_len]
  refine call_by (le) (by first | rfl | (simp only [tocvs, tocv, hsp]; rfl) | (simp only [tocvs, tocv, toboxes, tobox, updH_at, Nat.reduceEqDiff, ↓reduceIte, hsp]; rfl)) (by simp) ?_
  simp (disch := omega) only [wk, tis, seval, reduceCtorEq, Nat.reduceEqDiff, rqs, cpoly_len, hsp]
  refine ⟨tmps_by (by kernel_rfl), ?_⟩
  refine call_by (cP) (by rfl) (by simp) ?_
  simp (disch := omega) only [wk, tis, seval, reduceCtorEq, Nat.reduceEqDiff, rqs, cpoly_len]
  refine call_by (cR) (by rfl) (by simp) ?_
  simp (disch := omega) only [wk, tis, seval, reduceCtorEq, Nat.reduceEqDiff, rqs, cpoly_len]
  refine call_by (g1) (by rfl) (by simp) ?_
  simp (disch := omega) only [wk, tis, seval, reduceCtorEq, Nat.reduceEqDiff, rqs, cpoly_len]
  refine call_by (g2) (by rfl) (by simp) ?_
  simp (disch := omega) only [wk, tis, seval, reduceCtorEq, Nat.reduceEqDiff, rqs, cpoly_len]
  refine call_by (sg) (by rfl) (by simp) ?_
  simp (disch := omega) only [wk, tis, seval, reduceCtorEq, Nat.reduceEqDiff, rqs, cpoly_len]
  refine call_by (cL) (by rfl) (by simp) ?_
  simp (disch := omega) only [wk, tis, seval, reduceCtorEq, Nat.reduceEqDiff, rqs, cpoly_len]
  refine call_by (a1) (by rfl) (by simp) ?_
  simp (disch := omega) only [wk, tis, seval, reduceCtorEq, Nat.reduceEqDiff, rqs, cpoly_len]
  refine call_by (a2) (by rfl) (by simp) ?_
  simp (disch := omega) only [wk, tis, seval, reduceCtorEq, Nat.reduceEqDiff, rqs, cpoly_len]
  refine call_by (sA) (by rfl) (by simp) ?_
  simp (disch := omega) only [wk, tis, seval, reduceCtorEq, Nat.reduceEqDiff, rqs, cpoly_len]
  refine call_by (cP) (by rfl) (by simp) ?_
  simp (disch := omega) only [wk, tis, seval, reduceCtorEq, Nat.reduceEqDiff, rqs, cpoly_len]
  refine call_by (cR) (by rfl) (by simp) ?_
  simp (disch := omega) only [wk, tis, seval, reduceCtorEq, Nat.reduceEqDiff, rqs, cpoly_len]
  refine call_by (l1) (by rfl) (by simp) ?_
  simp (disch := omega) only [wk, tis, seval, reduceCtorEq, Nat.reduceEqDiff, rqs, cpoly_len]
  refine call_by (l2) (by rfl) (by simp) ?_
  simp (disch := omega) only [wk, tis, seval, reduceCtorEq, Nat.reduceEqDiff, rqs, cpoly_len]
  refine call_by (sl) (by rfl) (by simp) ?_
  simp (disch := omega) only [wk, tis, seval, reduceCtorEq, Nat.reduceEqDiff, rqs, cpoly_len]
  refine call_by (cP) (by rfl) (by simp) ?_
  simp (disch := omega) only [wk, tis, seval, reduceCtorEq, Nat.reduceEqDiff, rqs, cpoly_len]
  refine call_by (cR) (by rfl) (by simp) ?_
  simp (disch := omega) only [wk, tis, seval, reduceCtorEq, Nat.reduceEqDiff, rqs, cpoly_len]
  refine call_by (c1) (by rfl) (by simp) ?_
  simp (disch := omega) only [wk, tis, seval, reduceCtorEq, Nat.reduceEqDiff, rqs, cpoly_len]
  refine call_by (c2) (by first | rfl | (simp only [tocvs, tocv, hbb]; rfl) | (simp only [tocvs, tocv, toboxes, tobox, updH_at, Nat.reduceEqDiff, ↓reduceIte, hbb]; rfl)) (by simp) ?_
  simp (disch := omega) only [wk, tis, seval, reduceCtorEq, Nat.reduceEqDiff, rqs, cpoly_len, hbb]
  first | exact log_by (by kernel_rfl) | refine ⟨log_by (by kernel_rfl), ?_⟩
  try rfl
theorem quotients14_law {x : C14} (h : Ok14 x) : AC Tryz.prog 4 [.agg (case14 x)] none [cb true] := by
  have le := less14_ok h
  have hy := y14 h
  generalize less14 x = y at *
  obtain ⟨hP, hR, hK, hL⟩ := hy
  obtain ⟨tP, sP⟩ := few_facts hP
  obtain ⟨tR, sR⟩ := few_facts hR
  have hP40 := hP.mono (show 9 ≤ 40 by omega) (Nat.le_refl 2)
  have hR40 := hR.mono (show 9 ≤ 40 by omega) (Nat.le_refl 2)
  have cP := c14_ok y.P (hP.mono (by omega) (by omega))
  have cR := c14_ok y.R (hR.mono (by omega) (by omega))
  have cK := c14_ok y.K (hK.mono (by omega) (by omega))
  have x1 := pexact_ok y.P y.R 2 hP40 hR40 (by omega)
  have x2 := texact_ok y.P y.R 2 hP40 hR40 (by omega)
  have xs := exv_sz (R := pv y.R) (show tz (pv y.P) ≤ 40 by omega) sP sR
  have sx := same14 (A := exv (pv y.P) (pv y.R)) (xs.1.mono (by omega)) (by omega)
  have d1 := pdivides_ok y.P y.R (hP40.mono (Nat.le_refl _) (by omega)) (hR40.mono (Nat.le_refl _) (by omega))
  have d2 := tdivides_ok y.P y.R 2 hP40 hR40 (by omega)
  obtain ⟨a, b, c, e, p1, p2, sa, sb, sc⟩ := parts_ex hP hR
  obtain ⟨n, ta, te, t1, t2, ts⟩ := times_ex hP hK
  obtain ⟨wa, we, w1, w2, ws⟩ := without_ex hP hR
  generalize exv (pv y.P) (pv y.R) = xv at *
  generalize exe (pv y.P) (pv y.R) = xe at *
  generalize dvb (pv y.R) (pv y.P) = db at *
  have hsp : splice (case14 x) 0 (case14 y) = case14 y := rfl
  have hdb : (!(db == db)) = false := by cases db <;> rfl
  have hdb2 : (db == db) = true := by cases db <;> rfl
  refine AC.by_walk (rs := [.tmp 2]) ords Tryz.func4 (by rfl) (by rfl) (by rfl) (by rfl) (by rfl) ?_
  simp (disch := omega) only [wk, tis, seval, reduceCtorEq, Nat.reduceEqDiff, rqs, cpoly_len]
  refine call_by (fixed14_ok) (by rfl) (by simp) ?_
  simp (disch := omega) only [wk, tis, seval, reduceCtorEq, Nat.reduceEqDiff, rqs, cpoly_len]
  refine call_by (le) (by first | rfl | (simp only [tocvs, tocv, hsp]; rfl) | (simp only [tocvs, tocv, toboxes, tobox, updH_at, Nat.reduceEqDiff, ↓reduceIte, hsp]; rfl)) (by simp) ?_
  simp (disch := omega) only [wk, tis, seval, reduceCtorEq, Nat.reduceEqDiff, rqs, cpoly_len, hsp]
  refine ⟨tmps_by (by kernel_rfl), ?_⟩
  refine call_by (cP) (by rfl) (by simp) ?_
  simp (disch := omega) only [wk, tis, seval, reduceCtorEq, Nat.reduceEqDiff, rqs, cpoly_len]
  refine call_by (cR) (by rfl) (by simp) ?_
  simp (disch := omega) only [wk, tis, seval, reduceCtorEq, Nat.reduceEqDiff, rqs, cpoly_len]
  refine call_by (x1) (by rfl) (by simp) ?_
  simp (disch := omega) only [wk, tis, seval, reduceCtorEq, Nat.reduceEqDiff, rqs, cpoly_len]
  first | exact log_by (by kernel_rfl) | refine ⟨log_by (by kernel_rfl), ?_⟩
  refine call_by (x2) (by rfl) (by simp) ?_
  simp (disch := omega) only [wk, tis, seval, reduceCtorEq, Nat.reduceEqDiff, rqs, cpoly_len]
  refine ⟨tmps_by (by kernel_rfl), ?_⟩
  refine call_by (sx) (by rfl) (by simp) ?_
  simp (disch := omega) only [wk, tis, seval, reduceCtorEq, Nat.reduceEqDiff, rqs, cpoly_len]
  refine call_by (cP) (by rfl) (by simp) ?_
  simp (disch := omega) only [wk, tis, seval, reduceCtorEq, Nat.reduceEqDiff, rqs, cpoly_len]
  refine call_by (cR) (by rfl) (by simp) ?_
  simp (disch := omega) only [wk, tis, seval, reduceCtorEq, Nat.reduceEqDiff, rqs, cpoly_len]
  refine call_by (d1) (by rfl) (by simp) ?_
  simp (disch := omega) only [wk, tis, seval, reduceCtorEq, Nat.reduceEqDiff, rqs, cpoly_len]
  refine call_by (d2) (by first | rfl | (simp only [tocvs, tocv, hdb, hdb2]; rfl) | (simp only [tocvs, tocv, toboxes, tobox, updH_at, Nat.reduceEqDiff, ↓reduceIte, hdb, hdb2]; rfl)) (by simp) ?_
  simp (disch := omega) only [wk, tis, seval, reduceCtorEq, Nat.reduceEqDiff, rqs, cpoly_len, hdb, hdb2]
  first | exact log_by (by kernel_rfl) | refine ⟨log_by (by kernel_rfl), ?_⟩
  refine ⟨tmps_by (by kernel_rfl), ?_⟩
  refine call_by (cP) (by rfl) (by simp) ?_
  simp (disch := omega) only [wk, tis, seval, reduceCtorEq, Nat.reduceEqDiff, rqs, cpoly_len]
  refine call_by (cR) (by rfl) (by simp) ?_
  simp (disch := omega) only [wk, tis, seval, reduceCtorEq, Nat.reduceEqDiff, rqs, cpoly_len]
  refine call_by (p1) (by rfl) (by simp) ?_
  simp (disch := omega) only [wk, tis, seval, reduceCtorEq, Nat.reduceEqDiff, rqs, cpoly_len]
  first | exact log_by (by kernel_rfl) | refine ⟨log_by (by kernel_rfl), ?_⟩
  refine call_by (p2) (by rfl) (by simp) ?_
  simp (disch := omega) only [wk, tis, seval, reduceCtorEq, Nat.reduceEqDiff, rqs, cpoly_len]
  refine call_by (sa) (by rfl) (by simp) ?_
  simp (disch := omega) only [wk, tis, seval, reduceCtorEq, Nat.reduceEqDiff, rqs, cpoly_len]
  refine call_by (sb) (by rfl) (by simp) ?_
  simp (disch := omega) only [wk, tis, seval, reduceCtorEq, Nat.reduceEqDiff, rqs, cpoly_len]
  refine call_by (sc) (by rfl) (by simp) ?_
  simp (disch := omega) only [wk, tis, seval, reduceCtorEq, Nat.reduceEqDiff, rqs, cpoly_len]
  refine ⟨tmps_by (by kernel_rfl), ?_⟩
  refine call_by (cP) (by rfl) (by simp) ?_
  simp (disch := omega) only [wk, tis, seval, reduceCtorEq, Nat.reduceEqDiff, rqs, cpoly_len]
  refine call_by (cK) (by rfl) (by simp) ?_
  simp (disch := omega) only [wk, tis, seval, reduceCtorEq, Nat.reduceEqDiff, rqs, cpoly_len]
  refine call_by (t1) (by rfl) (by simp) ?_
  simp (disch := omega) only [wk, tis, seval, reduceCtorEq, Nat.reduceEqDiff, rqs, cpoly_len]
  first | exact log_by (by kernel_rfl) | refine ⟨log_by (by kernel_rfl), ?_⟩
  refine call_by (t2) (by rfl) (by simp) ?_
  simp (disch := omega) only [wk, tis, seval, reduceCtorEq, Nat.reduceEqDiff, rqs, cpoly_len]
  refine call_by (ts) (by rfl) (by simp) ?_
  simp (disch := omega) only [wk, tis, seval, reduceCtorEq, Nat.reduceEqDiff, rqs, cpoly_len]
  refine ⟨tmps_by (by kernel_rfl), ?_⟩
  refine call_by (cP) (by rfl) (by simp) ?_
  simp (disch := omega) only [wk, tis, seval, reduceCtorEq, Nat.reduceEqDiff, rqs, cpoly_len]
  refine call_by (cR) (by rfl) (by simp) ?_
  simp (disch := omega) only [wk, tis, seval, reduceCtorEq, Nat.reduceEqDiff, rqs, cpoly_len]
  refine call_by (w1) (by rfl) (by simp) ?_
  simp (disch := omega) only [wk, tis, seval, reduceCtorEq, Nat.reduceEqDiff, rqs, cpoly_len]
  first | exact log_by (by kernel_rfl) | refine ⟨log_by (by kernel_rfl), ?_⟩
  refine call_by (w2) (by rfl) (by simp) ?_
  simp (disch := omega) only [wk, tis, seval, reduceCtorEq, Nat.reduceEqDiff, rqs, cpoly_len]
  refine call_by (ws) (by rfl) (by simp) ?_
  simp (disch := omega) only [wk, tis, seval, reduceCtorEq, Nat.reduceEqDiff, rqs, cpoly_len]
  try rfl
end Go.Proofs.YtlmkieimciodoaaGreat

namespace Go.Proofs.YtlmkieimciodoaaGreat
open Go Go.Proofs Go.AL
set_option linter.unusedVariables false
def RawPs (p : List (List RI)) : Prop := p.length ≤ 9223372036854775807 ∧ ∀ c ∈ p, Raw c
theorem ok14 {P R K : List RI} {L : List (List RI)} {F G : List RQ} (h1 : Raw P) (h2 : Raw R) (h3 : Raw K) (h4 : RawPs L) (h5 : RawQ F) (h6 : RawQ G) : Ok14 ⟨P, R, K, L, F, G⟩ := ⟨h1, h2, h3, h4, h5, h6⟩
theorem divisors14_law2 (P R K : List RI) (L : List (List RI)) (F G : List RQ) (h1 : Raw P) (h2 : Raw R) (h3 : Raw K) (h4 : RawPs L) (h5 : RawQ F) (h6 : RawQ G) : AC Tryz.prog 3 [.agg (case14 ⟨P, R, K, L, F, G⟩)] none [cb true] := divisors14_law (ok14 h1 h2 h3 h4 h5 h6)
theorem quotients14_law2 (P R K : List RI) (L : List (List RI)) (F G : List RQ) (h1 : Raw P) (h2 : Raw R) (h3 : Raw K) (h4 : RawPs L) (h5 : RawQ F) (h6 : RawQ G) : AC Tryz.prog 4 [.agg (case14 ⟨P, R, K, L, F, G⟩)] none [cb true] := quotients14_law (ok14 h1 h2 h3 h4 h5 h6)
end Go.Proofs.YtlmkieimciodoaaGreat
