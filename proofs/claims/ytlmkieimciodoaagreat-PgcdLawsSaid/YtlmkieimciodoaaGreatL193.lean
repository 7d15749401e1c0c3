/-
  Contracts of the functions that the law reaches.
-/
import Derived.Test.YtlmkieimciodoaaGreatL117M
set_option maxHeartbeats 2000000
namespace Go.Proofs.YtlmkieimciodoaaGreat
open Go Go.Proofs Go.AL
set_option linter.unusedSimpArgs false
set_option linter.unusedVariables false
theorem rp_small9 {A : List Int} (t : tz A ≤ 9) (s : SBd 92 A) : RP (2 ^ 30) (2 ^ 30) (cn A) := (rp_sb t s).mono (by omega) (by omega)
theorem sb_pmul {A B : List Int} {a b n m : Nat} (hA : SBd a A) (hB : SBd b B) (tA : tz A ≤ n) (tB : tz B ≤ m) (hn : n < W) : SBd (a + b + 1) (pmul A B) ∧ tz (pmul A B) ≤ n + m := by
  refine ⟨fun i => ?_, ?_⟩
  · have h := (PB.pmul (rp_sb tA hA).pv (rp_sb tB hB).pv hn).cf i
    rwa [pmul_congr (p' := A) (q' := B) (cf_cn _) (cf_cn _)] at h
  · by_cases h : tz A = 0 ∨ tz B = 0
    · rw [tz_pmul_zero h]; omega
    · rw [tz_pmul (by omega) (by omega)]; omega
theorem ttimes_n {p q : List RI} {A B : List Int} {a b n m : Nat} (hA : SBd a A) (hB : SBd b B) (tA : tz A ≤ n) (tB : tz B ≤ m) (hn : n ≤ 1000) (hm : m ≤ 1000) (ha : a ≤ 10000) (hb : b ≤ 10000) (hp : RP (2 ^ 30) (2 ^ 30) p) (hq : RP (2 ^ 30) (2 ^ 30) q) (ea : ps (pv p) = ps A) (eb : ps (pv q) = ps B) :
    AC Tryz.prog 32 [cw p, cw q] none [cp (pmul A B)] ∧ SBd (a + b + 1) (pmul A B) ∧ tz (pmul A B) ≤ n + m ∧ RP (n + m) (a + b + 1) (cn (pmul A B)) := by
  obtain ⟨s, t⟩ := sb_pmul hA hB tA tB (by simp only [W]; omega)
  exact ⟨ttimes_g (hp.mono (Nat.le_refl _) (by omega)) (hq.mono (Nat.le_refl _) (by omega)) ea eb, s, t, rp_sb t s⟩
theorem ez6 : EZ 6 18 ≤ 2 ^ 27 := by decide
theorem ez5 : EZ 5 18 ≤ 2 ^ 27 := by decide
theorem cs14_own (l : List (List RI)) (hl : l.length ≤ 2 ^ 40) (h : ∀ p ∈ l, RP (2 ^ 40) (2 ^ 40) p) : AC Tryz.prog 14 [.iv (.sl (polys l))] (some (0, 23, 1, polys l)) [.iv (.sl (polys l))] := by
  refine AC.by_walk (rs := [.tmp 2]) ords Tryz.func14 (by rfl) (by rfl) (by rfl) (by rfl) (by rfl) ?_
  simp (disch := omega) only [wk, tis, seval, reduceCtorEq, Nat.reduceEqDiff, rqs, cpoly_len, polys_len]
  refine aloop_nil 3 3 23 1 (by simp (disch := omega) only [wk, tis, seval, reduceCtorEq, Nat.reduceEqDiff, rqs, cpoly_len, polys_len]) (fun f H => ∃ (i st : Nat), i ≤ l.length ∧ f 4 = .iv (.int .i64 i) ∧ f 0 = .iv (.sl (polys l)) ∧ f 3 = .hs 3 st ∧ H 3 = .blk false st 23 1 (polys (l.take i))) (fun f H => (l.length - intAt f 4).toNat) ?_ ?_
  · refine ⟨0, 1, by omega, ?_⟩
    simp (disch := omega) only [wk, tis, seval, reduceCtorEq, Nat.reduceEqDiff, rqs, cpoly_len, polys_len, ghostF, ghostH, ghostF, ghostH, List.take_zero, show polys [] = [] from rfl]
  rintro f H ⟨i, st, hi, hF⟩
  rw [intAt_of hF.1]
  simp (disch := omega) only [wk, tis, seval, reduceCtorEq, Nat.reduceEqDiff, rqs, cpoly_len, polys_len, hF]
  by_cases hlt : i < l.length
  · have h1 : (i : Int) < l.length := by omega
    have hq : (l.take i).length = i := by rw [List.length_take]; omega
    have hg : l.getD i [] = l[i] := by simp [List.getD, hlt]
    have hat := polys_at hlt
    have f := c14_ok (l.getD i []) (by rw [hg]; exact h _ (List.getElem_mem hlt))
    have et : l.take (i + 1) = l.take i ++ [l.getD i []] := by
      rw [List.take_add_one, List.getElem?_eq_getElem hlt, hg]; rfl
    have hsn := polys_snoc (l.take i) (l.getD i [])
    simp (disch := omega) only [wk, tis, seval, reduceCtorEq, Nat.reduceEqDiff, rqs, cpoly_len, polys_len, hF, h1, hq, hat]
    refine call_by (f) (by first | rfl | (simp only [tocvs, tocv, hF, h1, hq, hat, hsn]; rfl) | (simp only [tocvs, tocv, toboxes, tobox, updH_at, Nat.reduceEqDiff, ↓reduceIte, hF, h1, hq, hat, hsn]; rfl)) (by simp) ?_
    simp (disch := omega) only [wk, tis, seval, reduceCtorEq, Nat.reduceEqDiff, rqs, cpoly_len, polys_len, hF, h1, hq, hat, hsn]
    refine ⟨⟨i + 1, st + 1, by omega, ?_⟩, by omega⟩
    rw [et]
    (repeat' apply And.intro) <;> first | rfl | omega
  · have h1 : ¬ (i : Int) < l.length := by omega
    rw [List.take_of_length_le (by omega)] at hF
    simp (disch := omega) only [wk, tis, seval, reduceCtorEq, Nat.reduceEqDiff, rqs, cpoly_len, polys_len, hF, h1]
    try rfl
set_option maxRecDepth 100000 in
set_option maxHeartbeats 1000000 in
theorem laws14_law {x : C14} (h : Ok14 x) : AC Tryz.prog 5 [.agg (case14 x)] none [cb true] := by
  have le := less14_ok h
  have hy := y14 h
  generalize less14 x = y at *
  obtain ⟨hP, hR, hK, hL⟩ := hy
  obtain ⟨tP, sP⟩ := few_facts hP
  obtain ⟨tR, sR⟩ := few_facts hR
  obtain ⟨tK, sK⟩ := few_facts hK
  have up : ∀ {p : List RI}, RP 9 2 p → RP (2 ^ 30) (2 ^ 30) p := fun h => h.mono (by omega) (by omega)
  have hP40 := hP.mono (show 9 ≤ 40 by omega) (Nat.le_refl 2)
  have hR40 := hR.mono (show 9 ≤ 40 by omega) (Nat.le_refl 2)
  have cP := c14_ok y.P (hP.mono (by omega) (by omega))
  have cR := c14_ok y.R (hR.mono (by omega) (by omega))
  have cK := c14_ok y.K (hK.mono (by omega) (by omega))
  have cL := cs14_ok y.L (by omega) fun p hp => (hL.2 p hp).mono (by omega) (by omega)
  have cLo := cs14_own y.L (by omega) fun p hp => (hL.2 p hp).mono (by omega) (by omega)
  have g1 := pgcd_g 9 2 hP40 hR40 rfl rfl tP tR (by omega) ez2
  have gs := gcd_small tP sP tR sR
  have gg := gcdp_gg (pv y.P) (pv y.R)
  have gn := gcdp_nf (pv y.P) (pv y.R)
  have l1 := plcm_ok y.P y.R hP hR
  have ls := lcm_small tP sP tR sR
  have ln : Nf (lcmp (pv y.P) (pv y.R)) := by
    unfold lcmp
    split
    · exact nf_nil
    · exact nf_npr _
  have pg := primitive_ok gn (gs.1.mono (by omega)) (by omega)
  have pl := primitive_ok ln (ls.1.mono (by omega)) (by omega)
  have rG := rp_small9 gs.2 gs.1
  have rG40 := rp92 gs.1 gs.2
  have cG := c14_ok (cn (gcdp (pv y.P) (pv y.R))) (rG.mono (by omega) (by omega))
  have d1 := pdivides_g (p := y.P) (q := cn (gcdp (pv y.P) (pv y.R))) (A := pv y.P) (B := gcdp (pv y.P) (pv y.R)) (hP40.mono (Nat.le_refl _) (by omega)) (rG40.mono (Nat.le_refl _) (by omega)) rfl (ps_cn _)
  have d2 := pdivides_g (p := y.R) (q := cn (gcdp (pv y.P) (pv y.R))) (A := pv y.R) (B := gcdp (pv y.P) (pv y.R)) (hR40.mono (Nat.le_refl _) (by omega)) (rG40.mono (Nat.le_refl _) (by omega)) rfl (ps_cn _)
  rw [(dvb_iff _ _).mpr gg.a] at d1
  rw [(dvb_iff _ _).mpr gg.b] at d2
  obtain ⟨m1, m1s, m1t, m1r⟩ := ttimes_n (p := y.P) (q := y.R) sP sR tP tR (by omega) (by omega) (by omega) (by omega) (up hP) (up hR) rfl rfl
  have rLc := rp_sb ls.2 ls.1
  obtain ⟨m2, m2s, m2t, m2r⟩ := ttimes_n (p := cn (gcdp (pv y.P) (pv y.R))) (q := cn (lcmp (pv y.P) (pv y.R))) gs.1 ls.1 gs.2 ls.2 (by omega) (by omega) (by omega) (by omega) rG (rLc.mono (by omega) (by omega)) (ps_cn _) (ps_cn _)
  have q1 := tpart14_g (p := cn (pmul (pv y.P) (pv y.R))) (A := pmul (pv y.P) (pv y.R)) (m1r.mono (by omega) (by omega)) (ps_cn _)
  have q2 := tpart14_g (p := cn (pmul (gcdp (pv y.P) (pv y.R)) (lcmp (pv y.P) (pv y.R)))) (A := pmul (gcdp (pv y.P) (pv y.R)) (lcmp (pv y.P) (pv y.R))) (m2r.mono (by omega) (by omega)) (ps_cn _)
  rw [show cp (npr (pmul (gcdp (pv y.P) (pv y.R)) (lcmp (pv y.P) (pv y.R)))) = cp (npr (pmul (pv y.P) (pv y.R))) from cp_ps (((as_npr _).symm.trans (lcm_times.symm.trans (as_npr _))).uniq (nf_npr _) (nf_npr _))] at q2
  have sq := same14 (A := npr (pmul (pv y.P) (pv y.R))) ((sb_npr m1s).mono (by omega)) (by rw [tz_npr]; omega)
  have sg := same92 gs
  -- the order, and a multiple of one more
  have g2 := pgcd_g 9 2 hR40 hP40 rfl rfl tR tP (by omega) ez2
  rw [← cp_ps (gcdp_eq gg.symm gn)] at g2
  obtain ⟨m3, m3s, m3t, m3r⟩ := ttimes_n (p := y.K) (q := y.R) sK sR tK tR (by omega) (by omega) (by omega) (by omega) (up hK) (up hR) rfl rfl
  have pls := tplus_g (a := y.P) (b := cn (pmul (pv y.K) (pv y.R))) (q := pv y.P) (r := pmul (pv y.K) (pv y.R)) (hP.mono (by omega) (by omega)) (m3r.mono (by omega) (by omega)) rfl (ps_cn _)
  have plt : tz (padd (pv y.P) (pmul (pv y.K) (pv y.R))) ≤ 18 := tz_le_of fun k hk => by rw [cf_padd, cf_ge_tz _ (by omega), cf_ge_tz _ (by omega)]; rfl
  have plz : SBd 6 (padd (pv y.P) (pmul (pv y.K) (pv y.R))) := fun i => by
    rw [cf_padd]
    have h1 := zl_add (cf (pv y.P) i) (cf (pmul (pv y.K) (pv y.R)) i)
    have h2 := sP i
    have h3 := m3s i
    omega
  have g3 := pgcd_g (p := cn (padd (pv y.P) (pmul (pv y.K) (pv y.R)))) (q := y.R) (A := padd (pv y.P) (pmul (pv y.K) (pv y.R))) (B := pv y.R) 18 6 ((rp_sb plt plz).mono (by omega) (Nat.le_refl _)) (hR40.mono (Nat.le_refl _) (by omega)) (ps_cn _) rfl plt (by omega) (by omega) ez6
  rw [← cp_ps (gcdp_eq (gg.more (A' := padd (pv y.P) (pmul (pv y.K) (pv y.R))) (K := pv y.K) (by rw [ps_padd, ps_pmul])) gn)] at g3
  -- both times the same
  obtain ⟨m4, m4s, m4t, m4r⟩ := ttimes_n (p := y.K) (q := y.P) sK sP tK tP (by omega) (by omega) (by omega) (by omega) (up hK) (up hP) rfl rfl
  have g4 := pgcd_g (p := cn (pmul (pv y.K) (pv y.P))) (q := cn (pmul (pv y.K) (pv y.R))) (A := pmul (pv y.K) (pv y.P)) (B := pmul (pv y.K) (pv y.R)) 18 5 (m4r.mono (by omega) (Nat.le_refl _)) (m3r.mono (by omega) (Nat.le_refl _)) (ps_cn _) (ps_cn _) m4t m3t (by omega) ez5
  obtain ⟨m5, m5s, m5t, m5r⟩ := ttimes_n (p := y.K) (q := cn (gcdp (pv y.P) (pv y.R))) sK gs.1 tK gs.2 (by omega) (by omega) (by omega) (by omega) (up hK) rG rfl (ps_cn _)
  have eM : ps (npr (pmul (pv y.K) (gcdp (pv y.P) (pv y.R)))) = ps (gcdp (pmul (pv y.K) (pv y.P)) (pmul (pv y.K) (pv y.R))) := gcdp_eq ((gg.times (A' := pmul (pv y.K) (pv y.P)) (B' := pmul (pv y.K) (pv y.R)) (G' := pmul (pv y.K) (gcdp (pv y.P) (pv y.R))) (K := pv y.K) (ps_pmul _ _) (ps_pmul _ _) (ps_pmul _ _)).as (as_npr _) (.refl _) (.refl _)) (nf_npr _)
  rw [← cp_ps eM] at g4
  have q5 := tpart14_g (p := cn (pmul (pv y.K) (gcdp (pv y.P) (pv y.R)))) (A := pmul (pv y.K) (gcdp (pv y.P) (pv y.R))) (m5r.mono (by omega) (by omega)) (ps_cn _)
  have s5 := same14 (A := npr (pmul (pv y.K) (gcdp (pv y.P) (pv y.R)))) ((sb_npr m5s).mono (by omega)) (by rw [tz_npr]; omega)
  have r5 := rp_sb (D := 40) (k := 95) (q := npr (pmul (pv y.K) (gcdp (pv y.P) (pv y.R)))) (by rw [tz_npr]; omega) (sb_npr m5s)
  have d5 := pdivides_g (p := cn (npr (pmul (pv y.K) (gcdp (pv y.P) (pv y.R))))) (q := y.K) (A := npr (pmul (pv y.K) (gcdp (pv y.P) (pv y.R)))) (B := pv y.K) (r5.mono (Nat.le_refl _) (by omega)) (hK.mono (by omega) (by omega)) (ps_cn _) rfl
  rw [(dvb_iff _ _).mpr ((Dv.mul (B := pv y.K) (A := pmul (pv y.K) (gcdp (pv y.P) (pv y.R))) (S := gcdp (pv y.P) (pv y.R)) (by rw [ps_pmul, PS.mul_comm])).as (.refl _) (as_npr _))] at d5
  -- of all of them
  obtain ⟨ag, an⟩ := alf_all y.L
  have sa := alf_small hL.2 y.L.length (Nat.le_refl _)
  rw [List.take_length] at sa
  have a1 := pall_ok y.L (by omega) hL.2
  have a2 := pall_ok y.L.reverse (by rw [List.length_reverse]; omega) fun p hp => hL.2 p (List.mem_reverse.1 hp)
  rw [cp_ps (alf_rev y.L)] at a2
  have cA := c14_ok (cn (alf y.L)) ((rp_small9 sa.2 sa.1).mono (by omega) (by omega))
  have sA := same92 sa
  have pA := primitive_ok an (sa.1.mono (by omega)) (by omega)
  have hLl := hL.1
  clear m1s m1t m1r m2s m2t m2r m3s m3t m3r m4s m4t m4r m5s m5t m5r plt plz eM r5 gg
  generalize gcdp (pv y.P) (pv y.R) = G at *
  generalize lcmp (pv y.P) (pv y.R) = Lc at *
  have hsp : splice (case14 x) 0 (case14 y) = case14 y := rfl
  refine AC.by_walk (rs := [.tmp 2]) ords Tryz.func5 (by rfl) (by rfl) (by rfl) (by rfl) (by rfl) ?_
  simp (disch := omega) only [wk, tis, seval, reduceCtorEq, Nat.reduceEqDiff, rqs, cpoly_len, polys_len]
  refine call_by (fixed14_ok) (by rfl) (by simp) ?_
  simp (disch := omega) only [wk, tis, seval, reduceCtorEq, Nat.reduceEqDiff, rqs, cpoly_len, polys_len]
  refine call_by (le) (by first | rfl | (simp only [tocvs, tocv, hsp]; rfl) | (simp only [tocvs, tocv, toboxes, tobox, updH_at, Nat.reduceEqDiff, ↓reduceIte, hsp]; rfl)) (by simp) ?_
  simp (disch := omega) only [wk, tis, seval, reduceCtorEq, Nat.reduceEqDiff, rqs, cpoly_len, polys_len, hsp]
  refine ⟨tmps_by (by kernel_rfl), ?_⟩
  refine call_by (cP) (by rfl) (by simp) ?_
  simp (disch := omega) only [wk, tis, seval, reduceCtorEq, Nat.reduceEqDiff, rqs, cpoly_len, polys_len]
  refine call_by (cR) (by rfl) (by simp) ?_
  simp (disch := omega) only [wk, tis, seval, reduceCtorEq, Nat.reduceEqDiff, rqs, cpoly_len, polys_len]
  refine call_by (g1) (by rfl) (by simp) ?_
  simp (disch := omega) only [wk, tis, seval, reduceCtorEq, Nat.reduceEqDiff, rqs, cpoly_len, polys_len]
  refine call_by (cP) (by rfl) (by simp) ?_
  simp (disch := omega) only [wk, tis, seval, reduceCtorEq, Nat.reduceEqDiff, rqs, cpoly_len, polys_len]
  refine call_by (cR) (by rfl) (by simp) ?_
  simp (disch := omega) only [wk, tis, seval, reduceCtorEq, Nat.reduceEqDiff, rqs, cpoly_len, polys_len]
  refine call_by (l1) (by rfl) (by simp) ?_
  simp (disch := omega) only [wk, tis, seval, reduceCtorEq, Nat.reduceEqDiff, rqs, cpoly_len, polys_len]
  first | exact log_by (by kernel_rfl) | refine ⟨log_by (by kernel_rfl), ?_⟩
  refine call_by (pg) (by rfl) (by simp) ?_
  simp (disch := omega) only [wk, tis, seval, reduceCtorEq, Nat.reduceEqDiff, rqs, cpoly_len, polys_len]
  refine call_by (pl) (by rfl) (by simp) ?_
  simp (disch := omega) only [wk, tis, seval, reduceCtorEq, Nat.reduceEqDiff, rqs, cpoly_len, polys_len]
  refine call_by (cP) (by rfl) (by simp) ?_
  simp (disch := omega) only [wk, tis, seval, reduceCtorEq, Nat.reduceEqDiff, rqs, cpoly_len, polys_len]
  refine call_by (cG) (by rfl) (by simp) ?_
  simp (disch := omega) only [wk, tis, seval, reduceCtorEq, Nat.reduceEqDiff, rqs, cpoly_len, polys_len]
  refine call_by (d1) (by rfl) (by simp) ?_
  simp (disch := omega) only [wk, tis, seval, reduceCtorEq, Nat.reduceEqDiff, rqs, cpoly_len, polys_len]
  refine call_by (cR) (by rfl) (by simp) ?_
  simp (disch := omega) only [wk, tis, seval, reduceCtorEq, Nat.reduceEqDiff, rqs, cpoly_len, polys_len]
  refine call_by (cG) (by rfl) (by simp) ?_
  simp (disch := omega) only [wk, tis, seval, reduceCtorEq, Nat.reduceEqDiff, rqs, cpoly_len, polys_len]
  refine call_by (d2) (by rfl) (by simp) ?_
  simp (disch := omega) only [wk, tis, seval, reduceCtorEq, Nat.reduceEqDiff, rqs, cpoly_len, polys_len]
  refine call_by (m1) (by rfl) (by simp) ?_
  simp (disch := omega) only [wk, tis, seval, reduceCtorEq, Nat.reduceEqDiff, rqs, cpoly_len, polys_len]
  refine call_by (q1) (by rfl) (by simp) ?_
  simp (disch := omega) only [wk, tis, seval, reduceCtorEq, Nat.reduceEqDiff, rqs, cpoly_len, polys_len]
  refine call_by (m2) (by rfl) (by simp) ?_
  simp (disch := omega) only [wk, tis, seval, reduceCtorEq, Nat.reduceEqDiff, rqs, cpoly_len, polys_len]
  refine call_by (q2) (by rfl) (by simp) ?_
  simp (disch := omega) only [wk, tis, seval, reduceCtorEq, Nat.reduceEqDiff, rqs, cpoly_len, polys_len]
  refine call_by (sq) (by rfl) (by simp) ?_
  simp (disch := omega) only [wk, tis, seval, reduceCtorEq, Nat.reduceEqDiff, rqs, cpoly_len, polys_len]
  refine ⟨tmps_by (by kernel_rfl), ?_⟩
  refine call_by (cR) (by rfl) (by simp) ?_
  simp (disch := omega) only [wk, tis, seval, reduceCtorEq, Nat.reduceEqDiff, rqs, cpoly_len, polys_len]
  refine call_by (cP) (by rfl) (by simp) ?_
  simp (disch := omega) only [wk, tis, seval, reduceCtorEq, Nat.reduceEqDiff, rqs, cpoly_len, polys_len]
  refine call_by (g2) (by rfl) (by simp) ?_
  simp (disch := omega) only [wk, tis, seval, reduceCtorEq, Nat.reduceEqDiff, rqs, cpoly_len, polys_len]
  refine call_by (sg) (by rfl) (by simp) ?_
  simp (disch := omega) only [wk, tis, seval, reduceCtorEq, Nat.reduceEqDiff, rqs, cpoly_len, polys_len]
  refine call_by (m3) (by rfl) (by simp) ?_
  simp (disch := omega) only [wk, tis, seval, reduceCtorEq, Nat.reduceEqDiff, rqs, cpoly_len, polys_len]
  refine call_by (pls) (by rfl) (by simp) ?_
  simp (disch := omega) only [wk, tis, seval, reduceCtorEq, Nat.reduceEqDiff, rqs, cpoly_len, polys_len]
  refine call_by (cR) (by rfl) (by simp) ?_
  simp (disch := omega) only [wk, tis, seval, reduceCtorEq, Nat.reduceEqDiff, rqs, cpoly_len, polys_len]
  refine call_by (g3) (by rfl) (by simp) ?_
  simp (disch := omega) only [wk, tis, seval, reduceCtorEq, Nat.reduceEqDiff, rqs, cpoly_len, polys_len]
  refine call_by (sg) (by rfl) (by simp) ?_
  simp (disch := omega) only [wk, tis, seval, reduceCtorEq, Nat.reduceEqDiff, rqs, cpoly_len, polys_len]
  first | exact log_by (by kernel_rfl) | refine ⟨log_by (by kernel_rfl), ?_⟩
  refine ⟨tmps_by (by kernel_rfl), ?_⟩
  refine call_by (m4) (by rfl) (by simp) ?_
  simp (disch := omega) only [wk, tis, seval, reduceCtorEq, Nat.reduceEqDiff, rqs, cpoly_len, polys_len]
  refine call_by (m3) (by rfl) (by simp) ?_
  simp (disch := omega) only [wk, tis, seval, reduceCtorEq, Nat.reduceEqDiff, rqs, cpoly_len, polys_len]
  refine call_by (g4) (by rfl) (by simp) ?_
  simp (disch := omega) only [wk, tis, seval, reduceCtorEq, Nat.reduceEqDiff, rqs, cpoly_len, polys_len]
  first | exact log_by (by kernel_rfl) | refine ⟨log_by (by kernel_rfl), ?_⟩
  refine call_by (m5) (by rfl) (by simp) ?_
  simp (disch := omega) only [wk, tis, seval, reduceCtorEq, Nat.reduceEqDiff, rqs, cpoly_len, polys_len]
  refine call_by (q5) (by rfl) (by simp) ?_
  simp (disch := omega) only [wk, tis, seval, reduceCtorEq, Nat.reduceEqDiff, rqs, cpoly_len, polys_len]
  refine call_by (s5) (by rfl) (by simp) ?_
  simp (disch := omega) only [wk, tis, seval, reduceCtorEq, Nat.reduceEqDiff, rqs, cpoly_len, polys_len]
  refine call_by (cK) (by rfl) (by simp) ?_
  simp (disch := omega) only [wk, tis, seval, reduceCtorEq, Nat.reduceEqDiff, rqs, cpoly_len, polys_len]
  refine call_by (d5) (by rfl) (by simp) ?_
  simp (disch := omega) only [wk, tis, seval, reduceCtorEq, Nat.reduceEqDiff, rqs, cpoly_len, polys_len]
  refine call_by (cLo) (by rfl) (by simp) ?_
  simp (disch := omega) only [wk, tis, seval, reduceCtorEq, Nat.reduceEqDiff, rqs, cpoly_len, polys_len]
  have hLn : (y.L.length : Int).tdiv 2 = ((y.L.length / 2 : Nat) : Int) := by rw [Int.tdiv_eq_ediv_of_nonneg (by omega)]; omega
  have hrl := rvk_len y.L []
  refine aloop_by (fun f H => ∃ (i st : Nat), i ≤ y.L.length / 2 ∧ f 7 = .iv (.int .i64 i) ∧ f 1 = .hp 1 1 0 0 ∧ H 1 = .blk false 1 28 6 [case14 y] ∧ f 6 = .hs 132 st ∧ H 132 = .blk false st 23 1 (polys (rvk y.L [] i))) (fun f H => (y.L.length - intAt f 7).toNat) ?_ ?_
  · refine ⟨0, 1, by omega, ?_⟩
    simp (disch := omega) only [wk, tis, seval, reduceCtorEq, Nat.reduceEqDiff, rqs, cpoly_len, polys_len, rvk_zero]
  rintro f H ⟨i, st, hi, hF⟩
  rw [intAt_of hF.1]
  simp (disch := omega) only [wk, tis, seval, reduceCtorEq, Nat.reduceEqDiff, rqs, cpoly_len, polys_len, hF]
  by_cases hlt' : i < y.L.length / 2
  · have hlt : (i : Int) < ((y.L.length / 2 : Nat) : Int) := by omega
    have e1 : (y.L.length : Int) - 1 = ((y.L.length - 1 : Nat) : Int) := by omega
    have e2 : ((y.L.length - 1 : Nat) : Int) - (i : Int) = ((y.L.length - 1 - i : Nat) : Int) := by omega
    have hgk : (polys (rvk y.L [] i)).getD (y.L.length - 1 - i) [] = [.sl (raws (y.L.getD (y.L.length - 1 - i) []))] := by
      rw [polys_at (by rw [hrl]; omega), rvk_get _ _ _ (by omega), if_neg (by omega)]
    have hgi : (polys (rvk y.L [] i)).getD i [] = [.sl (raws (y.L.getD i []))] := by
      rw [polys_at (by rw [hrl]; omega), rvk_get _ _ _ (by omega), if_neg (by omega)]
    have hset : ((polys (rvk y.L [] i)).set i [.sl (raws (y.L.getD (y.L.length - 1 - i) []))]).set (y.L.length - 1 - i) [.sl (raws (y.L.getD i []))] = polys (rvk y.L [] (i + 1)) := by
      rw [polys_set, polys_set, rvk_step _ _ (by omega)]
    simp (disch := omega) only [wk, tis, seval, reduceCtorEq, Nat.reduceEqDiff, rqs, cpoly_len, polys_len, hF, hLn, hlt, hrl, e1, e2, hgk, hgi]
    refine ⟨tmps_by (by kernel_rfl), ?_⟩
    first | exact log_by (by kernel_rfl) | refine ⟨log_by (by kernel_rfl), ?_⟩
    refine ⟨⟨i + 1, st, by omega, ?_⟩, by omega⟩
    have hgk2 : ((polys (rvk y.L [] i)).set i [.sl (raws (y.L.getD (y.L.length - 1 - i) []))]).getD (y.L.length - 1 - i) [] = [.sl (raws (y.L.getD (y.L.length - 1 - i) []))] := by
      rw [set_get _ _ _ _ _ (by rw [polys_len, hrl]; omega), if_neg (by omega), hgk]
    refine ⟨by omega, rfl, ?_⟩
    rw [← hset, hgk2]
    rfl
  have hlt : ¬ (i : Int) < ((y.L.length / 2 : Nat) : Int) := by omega
  have hre := rvk_end y.L [] (i := i) (by omega)
  rw [hre] at hF
  have hrv : y.L.reverse.length = y.L.length := List.length_reverse
  simp (disch := omega) only [wk, tis, seval, reduceCtorEq, Nat.reduceEqDiff, rqs, cpoly_len, polys_len, hF, hLn, hlt, hrl, hre, hrv]
  refine call_by (cL) (by first | rfl | (simp only [tocvs, tocv, hF]; rfl) | (simp only [tocvs, tocv, toboxes, tobox, updH_at, Nat.reduceEqDiff, ↓reduceIte, hF]; rfl)) (by simp) ?_
  simp (disch := omega) only [wk, tis, seval, reduceCtorEq, Nat.reduceEqDiff, rqs, cpoly_len, polys_len, hF]
  refine call_by (a1) (by first | rfl | (simp only [tocvs, tocv, hF]; rfl) | (simp only [tocvs, tocv, toboxes, tobox, updH_at, Nat.reduceEqDiff, ↓reduceIte, hF]; rfl)) (by simp) ?_
  simp (disch := omega) only [wk, tis, seval, reduceCtorEq, Nat.reduceEqDiff, rqs, cpoly_len, polys_len, hF]
  refine aloop_by (fun f H => ∃ (j : Nat), j ≤ y.L.length ∧ f 10 = .iv (.int .i64 j) ∧ f 1 = .hp 1 1 0 0 ∧ H 1 = .blk false 1 28 6 [case14 y] ∧ f 6 = .hs 132 st ∧ H 132 = .blk false st 23 1 (polys y.L.reverse) ∧ f 9 = .iv (.sl (cpoly (alf y.L)))) (fun f H => (y.L.length - intAt f 10).toNat) ?_ ?_
  · refine ⟨0, by omega, ?_⟩
    simp (disch := omega) only [wk, tis, seval, reduceCtorEq, Nat.reduceEqDiff, rqs, cpoly_len, polys_len, hF]
  rintro f H ⟨j, hj, hF⟩
  rw [intAt_of hF.1]
  simp (disch := omega) only [wk, tis, seval, reduceCtorEq, Nat.reduceEqDiff, rqs, cpoly_len, polys_len, hF]
  by_cases hjt' : j < y.L.length
  · have hjt : (j : Int) < (y.L.length : Int) := by omega
    have hat := polys_at hjt'
    have hmem : y.L.getD j [] ∈ y.L := by
      rw [List.getD, List.getElem?_eq_getElem hjt', Option.getD_some]
      exact List.getElem_mem hjt'
    have hpj := hL.2 _ hmem
    have cJ := c14_ok (y.L.getD j []) (hpj.mono (by omega) (by omega))
    have dJ := pdivides_g (p := y.L.getD j []) (q := cn (alf y.L)) (A := pv (y.L.getD j [])) (B := alf y.L) (hpj.mono (by omega) (by omega)) ((rp92 sa.1 sa.2).mono (Nat.le_refl _) (by omega)) rfl (ps_cn _)
    rw [(dvb_iff _ _).mpr (ag.d _ (List.mem_map.2 ⟨_, hmem, rfl⟩))] at dJ
    simp (disch := omega) only [wk, tis, seval, reduceCtorEq, Nat.reduceEqDiff, rqs, cpoly_len, polys_len, hF, hjt, hat]
    refine call_by (cJ) (by first | rfl | (simp only [tocvs, tocv, hF, hat]; rfl) | (simp only [tocvs, tocv, toboxes, tobox, updH_at, Nat.reduceEqDiff, ↓reduceIte, hF, hat]; rfl)) (by simp) ?_
    simp (disch := omega) only [wk, tis, seval, reduceCtorEq, Nat.reduceEqDiff, rqs, cpoly_len, polys_len, hF, hat]
    refine call_by (cA) (by first | rfl | (simp only [tocvs, tocv, hF]; rfl) | (simp only [tocvs, tocv, toboxes, tobox, updH_at, Nat.reduceEqDiff, ↓reduceIte, hF]; rfl)) (by simp) ?_
    simp (disch := omega) only [wk, tis, seval, reduceCtorEq, Nat.reduceEqDiff, rqs, cpoly_len, polys_len, hF]
    refine call_by (dJ) (by first | rfl | (simp only [tocvs, tocv, hF]; rfl) | (simp only [tocvs, tocv, toboxes, tobox, updH_at, Nat.reduceEqDiff, ↓reduceIte, hF]; rfl)) (by simp) ?_
    simp (disch := omega) only [wk, tis, seval, reduceCtorEq, Nat.reduceEqDiff, rqs, cpoly_len, polys_len, hF]
    refine ⟨⟨j + 1, by omega, ?_⟩, by omega⟩
    try (repeat' apply And.intro) <;> first | rfl | omega
  · have hjt : ¬ (j : Int) < (y.L.length : Int) := by omega
    simp (disch := omega) only [wk, tis, seval, reduceCtorEq, Nat.reduceEqDiff, rqs, cpoly_len, polys_len, hF, hjt]
    refine call_by (a2) (by first | rfl | (simp only [tocvs, tocv, hF]; rfl) | (simp only [tocvs, tocv, toboxes, tobox, updH_at, Nat.reduceEqDiff, ↓reduceIte, hF]; rfl)) (by simp) ?_
    simp (disch := omega) only [wk, tis, seval, reduceCtorEq, Nat.reduceEqDiff, rqs, cpoly_len, polys_len, hF]
    refine call_by (sA) (by first | rfl | (simp only [tocvs, tocv, hF]; rfl) | (simp only [tocvs, tocv, toboxes, tobox, updH_at, Nat.reduceEqDiff, ↓reduceIte, hF]; rfl)) (by simp) ?_
    simp (disch := omega) only [wk, tis, seval, reduceCtorEq, Nat.reduceEqDiff, rqs, cpoly_len, polys_len, hF]
    refine call_by (pA) (by first | rfl | (simp only [tocvs, tocv, hF]; rfl) | (simp only [tocvs, tocv, toboxes, tobox, updH_at, Nat.reduceEqDiff, ↓reduceIte, hF]; rfl)) (by simp) ?_
    simp (disch := omega) only [wk, tis, seval, reduceCtorEq, Nat.reduceEqDiff, rqs, cpoly_len, polys_len, hF]
    try rfl
theorem laws14_law2 (P R K : List RI) (L : List (List RI)) (F G : List RQ) (h1 : Raw P) (h2 : Raw R) (h3 : Raw K) (h4 : RawPs L) (h5 : RawQ F) (h6 : RawQ G) : AC Tryz.prog 5 [.agg (case14 ⟨P, R, K, L, F, G⟩)] none [cb true] := laws14_law (ok14 h1 h2 h3 h4 h5 h6)
end Go.Proofs.YtlmkieimciodoaaGreat
