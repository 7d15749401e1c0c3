/-
  Contracts of the functions that the law reaches.
-/
import Derived.Test.YtlmkieimciodoaaGreatL117M
set_option maxHeartbeats 2000000
namespace Go.Proofs.YtlmkieimciodoaaGreat
open Go Go.Proofs Go.AL
set_option linter.unusedSimpArgs false
set_option linter.unusedVariables false
set_option maxRecDepth 100000 in
set_option maxHeartbeats 1000000 in
theorem pieces14_law {x : C14} (h : Ok14 x) : AC Tryz.prog 6 [.agg (case14 x)] none [cb true] := by
  have le := less14_ok h
  have hy := y14 h
  generalize less14 x = y at *
  obtain ⟨hP, hR, hK, hL⟩ := hy
  obtain ⟨tP, sP⟩ := few_facts hP
  obtain ⟨tR, sR⟩ := few_facts hR
  obtain ⟨tK, sK⟩ := few_facts hK
  have hP40 := hP.mono (show 9 ≤ 40 by omega) (Nat.le_refl 2)
  have hR40 := hR.mono (show 9 ≤ 40 by omega) (Nat.le_refl 2)
  have cP := c14_ok y.P (hP.mono (by omega) (by omega))
  have cR := c14_ok y.R (hR.mono (by omega) (by omega))
  have cK := c14_ok y.K (hK.mono (by omega) (by omega))
  have nP := tN_ok y.P (hP.mono (by omega) (by omega))
  have nR := tN_ok y.R (hR.mono (by omega) (by omega))
  have nK := tN_ok y.K (hK.mono (by omega) (by omega))
  have pt := pparts_ok y.P y.R hP hR
  have hsp : splice (case14 x) 0 (case14 y) = case14 y := rfl
  have gg := gcdp_gg (pv y.P) (pv y.R)
  by_cases hg : tz (gcdp (pv y.P) (pv y.R)) = 0
  · obtain ⟨z1, z2⟩ := gg_tz0 gg hg
    rw [if_pos hg] at pt
    refine AC.by_walk (rs := [.tmp 2]) ords Tryz.func6 (by rfl) (by rfl) (by rfl) (by rfl) (by rfl) ?_
    simp (disch := omega) only [wk, tis, seval, reduceCtorEq, Nat.reduceEqDiff, rqs, cpoly_len]
    refine call_by (fixed14_ok) (by rfl) (by simp) ?_
    simp (disch := omega) only [wk, tis, seval, reduceCtorEq, Nat.reduceEqDiff, rqs, cpoly_len]
    refine call_by (le) (by first | rfl | (simp only [tocvs, tocv, hsp]; rfl) | (simp only [tocvs, tocv, toboxes, tobox, updH_at, Nat.reduceEqDiff, ↓reduceIte, hsp]; rfl)) (by simp) ?_
    simp (disch := omega) only [wk, tis, seval, reduceCtorEq, Nat.reduceEqDiff, rqs, cpoly_len, hsp]
    refine ⟨tmps_by (by kernel_rfl), ?_⟩
    refine call_by (nP) (by first | rfl | (simp only [tocvs, tocv, z1]; rfl) | (simp only [tocvs, tocv, toboxes, tobox, updH_at, Nat.reduceEqDiff, ↓reduceIte, z1]; rfl)) (by simp) ?_
    simp (disch := omega) only [wk, tis, seval, reduceCtorEq, Nat.reduceEqDiff, rqs, cpoly_len, z1]
    refine call_by (nR) (by first | rfl | (simp only [tocvs, tocv, z1, z2]; rfl) | (simp only [tocvs, tocv, toboxes, tobox, updH_at, Nat.reduceEqDiff, ↓reduceIte, z1, z2]; rfl)) (by simp) ?_
    simp (disch := omega) only [wk, tis, seval, reduceCtorEq, Nat.reduceEqDiff, rqs, cpoly_len, z1, z2]
    first | exact log_by (by kernel_rfl) | refine ⟨log_by (by kernel_rfl), ?_⟩
    refine ⟨tmps_by (by kernel_rfl), ?_⟩
    refine call_by (cP) (by first | rfl | (simp only [tocvs, tocv, z1, z2]; rfl) | (simp only [tocvs, tocv, toboxes, tobox, updH_at, Nat.reduceEqDiff, ↓reduceIte, z1, z2]; rfl)) (by simp) ?_
    simp (disch := omega) only [wk, tis, seval, reduceCtorEq, Nat.reduceEqDiff, rqs, cpoly_len, z1, z2]
    refine call_by (cR) (by first | rfl | (simp only [tocvs, tocv, z1, z2]; rfl) | (simp only [tocvs, tocv, toboxes, tobox, updH_at, Nat.reduceEqDiff, ↓reduceIte, z1, z2]; rfl)) (by simp) ?_
    simp (disch := omega) only [wk, tis, seval, reduceCtorEq, Nat.reduceEqDiff, rqs, cpoly_len, z1, z2]
    refine call_by (pt) (by first | rfl | (simp only [tocvs, tocv, z1, z2]; rfl) | (simp only [tocvs, tocv, toboxes, tobox, updH_at, Nat.reduceEqDiff, ↓reduceIte, z1, z2]; rfl)) (by simp) ?_
    simp (disch := omega) only [wk, tis, seval, reduceCtorEq, Nat.reduceEqDiff, rqs, cpoly_len, z1, z2]
    first | exact log_by (by kernel_rfl) | refine ⟨log_by (by kernel_rfl), ?_⟩
    try rfl
  rw [if_neg hg] at pt
  have gs := gcd_small tP sP tR sR
  have gn := gcdp_nf (pv y.P) (pv y.R)
  have aS := left_small (P := pv y.P) tP sP hg gg.a
  have bS := left_small (P := pv y.R) tR sR hg gg.b
  have eA := left_times (P := pv y.P) hg gn gg.a
  have eB := left_times (P := pv y.R) hg gn gg.b
  have cop := left_coprime (P := pv y.P) (R := pv y.R) hg
  have rP := rp_sb tP sP
  have rR := rp_sb tR sR
  have rK := rp_sb tK sK
  -- the product is divided
  obtain ⟨m1, m1s, m1t, m1r⟩ := ttimes_n (p := cn (pv y.P)) (q := cn (pv y.R)) sP sR tP tR (by omega) (by omega) (by omega) (by omega) (rP.mono (by omega) (by omega)) (rR.mono (by omega) (by omega)) (ps_cn _) (ps_cn _)
  have sPP := same14 (A := pv y.P) (sP.mono (by omega)) (by omega)
  have ex := pexact_ok (cn (pmul (pv y.P) (pv y.R))) y.R 5 (m1r.mono (by omega) (Nat.le_refl _)) (hR40.mono (Nat.le_refl _) (by omega)) (by omega)
  have dm := pdivides_g (p := cn (pmul (pv y.P) (pv y.R))) (q := y.R) (A := pmul (pv y.P) (pv y.R)) (B := pv y.R) (m1r.mono (by omega) (by omega)) (hR40.mono (Nat.le_refl _) (by omega)) (ps_cn _) rfl
  rw [(dvb_iff _ _).mpr (Dv.mul (B := pv y.R) (S := pv y.P) (by rw [ps_pmul]))] at dm
  -- the parts
  generalize hG : gcdp (pv y.P) (pv y.R) = G at *
  have rG := rp_small9 gs.2 gs.1
  have rA := rp92 aS.1 aS.2
  have rB := rp92 bS.1 bS.2
  obtain ⟨m2, _, _, _⟩ := ttimes_n (p := cn G) (q := cn (leftv (pv y.P) G)) gs.1 aS.1 gs.2 aS.2 (by omega) (by omega) (by omega) (by omega) rG (rp_small9 aS.2 aS.1) (ps_cn _) (ps_cn _)
  obtain ⟨m3, _, _, _⟩ := ttimes_n (p := cn G) (q := cn (leftv (pv y.R) G)) gs.1 bS.1 gs.2 bS.2 (by omega) (by omega) (by omega) (by omega) rG (rp_small9 bS.2 bS.1) (ps_cn _) (ps_cn _)
  rw [cp_ps eA] at m2
  rw [cp_ps eB] at m3
  have q2 := tpart14_g (p := cn (pv y.P)) (A := pv y.P) (rP.mono (by omega) (by omega)) (ps_cn _)
  have q3 := tpart14_g (p := cn (pv y.R)) (A := pv y.R) (rR.mono (by omega) (by omega)) (ps_cn _)
  have s2 := same92 (small_npr tP sP)
  have s3 := same92 (small_npr tR sR)
  have cA := c14_ok (cn (leftv (pv y.P) G)) (rA.mono (by omega) (by omega))
  have cB := c14_ok (cn (leftv (pv y.R) G)) (rB.mono (by omega) (by omega))
  have co := pcoprime_g (p := cn (leftv (pv y.P) G)) (q := cn (leftv (pv y.R) G)) 9 92 rA rB (ps_cn _) (ps_cn _) aS.2 bS.2 (by omega) ez92
  rw [decide_eq_true cop] at co
  refine AC.by_walk (rs := [.tmp 2]) ords Tryz.func6 (by rfl) (by rfl) (by rfl) (by rfl) (by rfl) ?_
  simp (disch := omega) only [wk, tis, seval, reduceCtorEq, Nat.reduceEqDiff, rqs, cpoly_len]
  refine call_by (fixed14_ok) (by rfl) (by simp) ?_
  simp (disch := omega) only [wk, tis, seval, reduceCtorEq, Nat.reduceEqDiff, rqs, cpoly_len]
  refine call_by (le) (by first | rfl | (simp only [tocvs, tocv, hsp]; rfl) | (simp only [tocvs, tocv, toboxes, tobox, updH_at, Nat.reduceEqDiff, ↓reduceIte, hsp]; rfl)) (by simp) ?_
  simp (disch := omega) only [wk, tis, seval, reduceCtorEq, Nat.reduceEqDiff, rqs, cpoly_len, hsp]
  refine ⟨tmps_by (by kernel_rfl), ?_⟩
  refine call_by (nP) (by rfl) (by simp) ?_
  simp (disch := omega) only [wk, tis, seval, reduceCtorEq, Nat.reduceEqDiff, rqs, cpoly_len]
  refine call_by (nR) (by rfl) (by simp) ?_
  simp (disch := omega) only [wk, tis, seval, reduceCtorEq, Nat.reduceEqDiff, rqs, cpoly_len]
  first | exact log_by (by kernel_rfl) | refine ⟨log_by (by kernel_rfl), ?_⟩
  refine if_cut (fun f1 H => f1 1 = .hp 1 1 0 0 ∧ H 1 = .blk false 1 28 6 [case14 y] ∧ f1 3 = .iv (.sl (cpoly (pv y.P))) ∧ f1 4 = .iv (.sl (cpoly (pv y.R)))) ?_ ?_
  · by_cases hr : tz (pv y.R) = 0
    · have hr' : ¬ (0 : Int) < ((tz (pv y.R) : Nat) : Int) := by omega
      simp (disch := omega) only [wk, tis, seval, reduceCtorEq, Nat.reduceEqDiff, rqs, cpoly_len, hr']
      try rfl
    · have hr' : (0 : Int) < ((tz (pv y.R) : Nat) : Int) := by omega
      obtain ⟨x1, x2⟩ := exact_prod (P := pv (cn (pmul (pv y.P) (pv y.R)))) (R := pv y.R) (Q := pv y.P) hr (by rw [ps_cn, ps_pmul])
      rw [x1, cp_ps x2] at ex
      simp (disch := omega) only [wk, tis, seval, reduceCtorEq, Nat.reduceEqDiff, rqs, cpoly_len, hr']
      refine ⟨tmps_by (by kernel_rfl), ?_⟩
      refine call_by (m1) (by first | rfl | (simp only [tocvs, tocv, hr']; rfl) | (simp only [tocvs, tocv, toboxes, tobox, updH_at, Nat.reduceEqDiff, ↓reduceIte, hr']; rfl)) (by simp) ?_
      simp (disch := omega) only [wk, tis, seval, reduceCtorEq, Nat.reduceEqDiff, rqs, cpoly_len, hr']
      refine call_by (cR) (by first | rfl | (simp only [tocvs, tocv, hr']; rfl) | (simp only [tocvs, tocv, toboxes, tobox, updH_at, Nat.reduceEqDiff, ↓reduceIte, hr']; rfl)) (by simp) ?_
      simp (disch := omega) only [wk, tis, seval, reduceCtorEq, Nat.reduceEqDiff, rqs, cpoly_len, hr']
      refine call_by (ex) (by first | rfl | (simp only [tocvs, tocv, hr']; rfl) | (simp only [tocvs, tocv, toboxes, tobox, updH_at, Nat.reduceEqDiff, ↓reduceIte, hr']; rfl)) (by simp) ?_
      simp (disch := omega) only [wk, tis, seval, reduceCtorEq, Nat.reduceEqDiff, rqs, cpoly_len, hr']
      first | exact log_by (by kernel_rfl) | refine ⟨log_by (by kernel_rfl), ?_⟩
      refine ⟨tmps_by (by kernel_rfl), ?_⟩
      refine call_by (sPP) (by rfl) (by simp) ?_
      simp (disch := omega) only [wk, tis, seval, reduceCtorEq, Nat.reduceEqDiff, rqs, cpoly_len]
      refine call_by (m1) (by rfl) (by simp) ?_
      simp (disch := omega) only [wk, tis, seval, reduceCtorEq, Nat.reduceEqDiff, rqs, cpoly_len]
      refine call_by (cR) (by rfl) (by simp) ?_
      simp (disch := omega) only [wk, tis, seval, reduceCtorEq, Nat.reduceEqDiff, rqs, cpoly_len]
      refine call_by (dm) (by rfl) (by simp) ?_
      simp (disch := omega) only [wk, tis, seval, reduceCtorEq, Nat.reduceEqDiff, rqs, cpoly_len]
      first | exact log_by (by kernel_rfl) | refine ⟨log_by (by kernel_rfl), ?_⟩
      try rfl
  rintro f H ⟨g1, k1, g3, g4⟩
  simp (disch := omega) only [wk, tis, seval, reduceCtorEq, Nat.reduceEqDiff, rqs, cpoly_len, g1, k1, g3, g4]
  refine ⟨tmps_by (by kernel_rfl), ?_⟩
  refine call_by (cP) (by first | rfl | (simp only [tocvs, tocv, g1, k1, g3, g4]; rfl) | (simp only [tocvs, tocv, toboxes, tobox, updH_at, Nat.reduceEqDiff, ↓reduceIte, g1, k1, g3, g4]; rfl)) (by simp) ?_
  simp (disch := omega) only [wk, tis, seval, reduceCtorEq, Nat.reduceEqDiff, rqs, cpoly_len, g1, k1, g3, g4]
  refine call_by (cR) (by first | rfl | (simp only [tocvs, tocv, g1, k1, g3, g4]; rfl) | (simp only [tocvs, tocv, toboxes, tobox, updH_at, Nat.reduceEqDiff, ↓reduceIte, g1, k1, g3, g4]; rfl)) (by simp) ?_
  simp (disch := omega) only [wk, tis, seval, reduceCtorEq, Nat.reduceEqDiff, rqs, cpoly_len, g1, k1, g3, g4]
  refine call_by (pt) (by first | rfl | (simp only [tocvs, tocv, g1, k1, g3, g4]; rfl) | (simp only [tocvs, tocv, toboxes, tobox, updH_at, Nat.reduceEqDiff, ↓reduceIte, g1, k1, g3, g4]; rfl)) (by simp) ?_
  simp (disch := omega) only [wk, tis, seval, reduceCtorEq, Nat.reduceEqDiff, rqs, cpoly_len, g1, k1, g3, g4]
  first | exact log_by (by kernel_rfl) | refine ⟨log_by (by kernel_rfl), ?_⟩
  by_cases hp : tz (pv y.P) = 0
  · have hr : ¬ ((tz (pv y.R) : Nat) : Int) = 0 := fun e => hg (by rw [← hG]; exact gcdp_tz0 hp (by omega))
    simp (disch := omega) only [wk, tis, seval, reduceCtorEq, Nat.reduceEqDiff, rqs, cpoly_len, g1, k1, g3, g4, hp, hr]
    refine call_by (m2) (by first | rfl | (simp only [tocvs, tocv, g1, k1, g3, g4, hp]; rfl) | (simp only [tocvs, tocv, toboxes, tobox, updH_at, Nat.reduceEqDiff, ↓reduceIte, g1, k1, g3, g4, hp]; rfl)) (by simp) ?_
    simp (disch := omega) only [wk, tis, seval, reduceCtorEq, Nat.reduceEqDiff, rqs, cpoly_len, g1, k1, g3, g4, hp]
    refine call_by (q2) (by first | rfl | (simp only [tocvs, tocv, g1, k1, g3, g4, hp]; rfl) | (simp only [tocvs, tocv, toboxes, tobox, updH_at, Nat.reduceEqDiff, ↓reduceIte, g1, k1, g3, g4, hp]; rfl)) (by simp) ?_
    simp (disch := omega) only [wk, tis, seval, reduceCtorEq, Nat.reduceEqDiff, rqs, cpoly_len, g1, k1, g3, g4, hp]
    refine call_by (s2) (by first | rfl | (simp only [tocvs, tocv, g1, k1, g3, g4, hp]; rfl) | (simp only [tocvs, tocv, toboxes, tobox, updH_at, Nat.reduceEqDiff, ↓reduceIte, g1, k1, g3, g4, hp]; rfl)) (by simp) ?_
    simp (disch := omega) only [wk, tis, seval, reduceCtorEq, Nat.reduceEqDiff, rqs, cpoly_len, g1, k1, g3, g4, hp]
    refine call_by (m3) (by first | rfl | (simp only [tocvs, tocv, g1, k1, g3, g4, hp]; rfl) | (simp only [tocvs, tocv, toboxes, tobox, updH_at, Nat.reduceEqDiff, ↓reduceIte, g1, k1, g3, g4, hp]; rfl)) (by simp) ?_
    simp (disch := omega) only [wk, tis, seval, reduceCtorEq, Nat.reduceEqDiff, rqs, cpoly_len, g1, k1, g3, g4, hp]
    refine call_by (q3) (by first | rfl | (simp only [tocvs, tocv, g1, k1, g3, g4, hp]; rfl) | (simp only [tocvs, tocv, toboxes, tobox, updH_at, Nat.reduceEqDiff, ↓reduceIte, g1, k1, g3, g4, hp]; rfl)) (by simp) ?_
    simp (disch := omega) only [wk, tis, seval, reduceCtorEq, Nat.reduceEqDiff, rqs, cpoly_len, g1, k1, g3, g4, hp]
    refine call_by (s3) (by first | rfl | (simp only [tocvs, tocv, g1, k1, g3, g4, hp]; rfl) | (simp only [tocvs, tocv, toboxes, tobox, updH_at, Nat.reduceEqDiff, ↓reduceIte, g1, k1, g3, g4, hp]; rfl)) (by simp) ?_
    simp (disch := omega) only [wk, tis, seval, reduceCtorEq, Nat.reduceEqDiff, rqs, cpoly_len, g1, k1, g3, g4, hp]
    refine call_by (cA) (by first | rfl | (simp only [tocvs, tocv, g1, k1, g3, g4, hp]; rfl) | (simp only [tocvs, tocv, toboxes, tobox, updH_at, Nat.reduceEqDiff, ↓reduceIte, g1, k1, g3, g4, hp]; rfl)) (by simp) ?_
    simp (disch := omega) only [wk, tis, seval, reduceCtorEq, Nat.reduceEqDiff, rqs, cpoly_len, g1, k1, g3, g4, hp]
    refine call_by (cB) (by first | rfl | (simp only [tocvs, tocv, g1, k1, g3, g4, hp]; rfl) | (simp only [tocvs, tocv, toboxes, tobox, updH_at, Nat.reduceEqDiff, ↓reduceIte, g1, k1, g3, g4, hp]; rfl)) (by simp) ?_
    simp (disch := omega) only [wk, tis, seval, reduceCtorEq, Nat.reduceEqDiff, rqs, cpoly_len, g1, k1, g3, g4, hp]
    refine call_by (co) (by first | rfl | (simp only [tocvs, tocv, g1, k1, g3, g4, hp]; rfl) | (simp only [tocvs, tocv, toboxes, tobox, updH_at, Nat.reduceEqDiff, ↓reduceIte, g1, k1, g3, g4, hp]; rfl)) (by simp) ?_
    simp (disch := omega) only [wk, tis, seval, reduceCtorEq, Nat.reduceEqDiff, rqs, cpoly_len, g1, k1, g3, g4, hp]
    try rfl
  have hp' : ¬ ((tz (pv y.P) : Nat) : Int) = 0 := by omega
  have tm := ptimes_ok y.P y.K hP hK
  rw [if_neg hp] at tm
  simp (disch := omega) only [wk, tis, seval, reduceCtorEq, Nat.reduceEqDiff, rqs, cpoly_len, g1, k1, g3, g4, hp']
  refine call_by (m2) (by first | rfl | (simp only [tocvs, tocv, g1, k1, g3, g4, hp']; rfl) | (simp only [tocvs, tocv, toboxes, tobox, updH_at, Nat.reduceEqDiff, ↓reduceIte, g1, k1, g3, g4, hp']; rfl)) (by simp) ?_
  simp (disch := omega) only [wk, tis, seval, reduceCtorEq, Nat.reduceEqDiff, rqs, cpoly_len, g1, k1, g3, g4, hp']
  refine call_by (q2) (by first | rfl | (simp only [tocvs, tocv, g1, k1, g3, g4, hp']; rfl) | (simp only [tocvs, tocv, toboxes, tobox, updH_at, Nat.reduceEqDiff, ↓reduceIte, g1, k1, g3, g4, hp']; rfl)) (by simp) ?_
  simp (disch := omega) only [wk, tis, seval, reduceCtorEq, Nat.reduceEqDiff, rqs, cpoly_len, g1, k1, g3, g4, hp']
  refine call_by (s2) (by first | rfl | (simp only [tocvs, tocv, g1, k1, g3, g4, hp']; rfl) | (simp only [tocvs, tocv, toboxes, tobox, updH_at, Nat.reduceEqDiff, ↓reduceIte, g1, k1, g3, g4, hp']; rfl)) (by simp) ?_
  simp (disch := omega) only [wk, tis, seval, reduceCtorEq, Nat.reduceEqDiff, rqs, cpoly_len, g1, k1, g3, g4, hp']
  refine call_by (m3) (by first | rfl | (simp only [tocvs, tocv, g1, k1, g3, g4, hp']; rfl) | (simp only [tocvs, tocv, toboxes, tobox, updH_at, Nat.reduceEqDiff, ↓reduceIte, g1, k1, g3, g4, hp']; rfl)) (by simp) ?_
  simp (disch := omega) only [wk, tis, seval, reduceCtorEq, Nat.reduceEqDiff, rqs, cpoly_len, g1, k1, g3, g4, hp']
  refine call_by (q3) (by first | rfl | (simp only [tocvs, tocv, g1, k1, g3, g4, hp']; rfl) | (simp only [tocvs, tocv, toboxes, tobox, updH_at, Nat.reduceEqDiff, ↓reduceIte, g1, k1, g3, g4, hp']; rfl)) (by simp) ?_
  simp (disch := omega) only [wk, tis, seval, reduceCtorEq, Nat.reduceEqDiff, rqs, cpoly_len, g1, k1, g3, g4, hp']
  refine call_by (s3) (by first | rfl | (simp only [tocvs, tocv, g1, k1, g3, g4, hp']; rfl) | (simp only [tocvs, tocv, toboxes, tobox, updH_at, Nat.reduceEqDiff, ↓reduceIte, g1, k1, g3, g4, hp']; rfl)) (by simp) ?_
  simp (disch := omega) only [wk, tis, seval, reduceCtorEq, Nat.reduceEqDiff, rqs, cpoly_len, g1, k1, g3, g4, hp']
  refine call_by (cA) (by first | rfl | (simp only [tocvs, tocv, g1, k1, g3, g4, hp']; rfl) | (simp only [tocvs, tocv, toboxes, tobox, updH_at, Nat.reduceEqDiff, ↓reduceIte, g1, k1, g3, g4, hp']; rfl)) (by simp) ?_
  simp (disch := omega) only [wk, tis, seval, reduceCtorEq, Nat.reduceEqDiff, rqs, cpoly_len, g1, k1, g3, g4, hp']
  refine call_by (cB) (by first | rfl | (simp only [tocvs, tocv, g1, k1, g3, g4, hp']; rfl) | (simp only [tocvs, tocv, toboxes, tobox, updH_at, Nat.reduceEqDiff, ↓reduceIte, g1, k1, g3, g4, hp']; rfl)) (by simp) ?_
  simp (disch := omega) only [wk, tis, seval, reduceCtorEq, Nat.reduceEqDiff, rqs, cpoly_len, g1, k1, g3, g4, hp']
  refine call_by (co) (by first | rfl | (simp only [tocvs, tocv, g1, k1, g3, g4, hp']; rfl) | (simp only [tocvs, tocv, toboxes, tobox, updH_at, Nat.reduceEqDiff, ↓reduceIte, g1, k1, g3, g4, hp']; rfl)) (by simp) ?_
  simp (disch := omega) only [wk, tis, seval, reduceCtorEq, Nat.reduceEqDiff, rqs, cpoly_len, g1, k1, g3, g4, hp']
  refine call_by (nK) (by first | rfl | (simp only [tocvs, tocv, g1, k1, g3, g4, hp']; rfl) | (simp only [tocvs, tocv, toboxes, tobox, updH_at, Nat.reduceEqDiff, ↓reduceIte, g1, k1, g3, g4, hp']; rfl)) (by simp) ?_
  simp (disch := omega) only [wk, tis, seval, reduceCtorEq, Nat.reduceEqDiff, rqs, cpoly_len, g1, k1, g3, g4, hp']
  refine ⟨tmps_by (by kernel_rfl), ?_⟩
  refine call_by (cP) (by first | rfl | (simp only [tocvs, tocv, g1, k1, g3, g4, hp']; rfl) | (simp only [tocvs, tocv, toboxes, tobox, updH_at, Nat.reduceEqDiff, ↓reduceIte, g1, k1, g3, g4, hp']; rfl)) (by simp) ?_
  simp (disch := omega) only [wk, tis, seval, reduceCtorEq, Nat.reduceEqDiff, rqs, cpoly_len, g1, k1, g3, g4, hp']
  refine call_by (cK) (by first | rfl | (simp only [tocvs, tocv, g1, k1, g3, g4, hp']; rfl) | (simp only [tocvs, tocv, toboxes, tobox, updH_at, Nat.reduceEqDiff, ↓reduceIte, g1, k1, g3, g4, hp']; rfl)) (by simp) ?_
  simp (disch := omega) only [wk, tis, seval, reduceCtorEq, Nat.reduceEqDiff, rqs, cpoly_len, g1, k1, g3, g4, hp']
  by_cases hk : tz (pv y.K) ≤ 1
  · rw [if_pos hk] at tm
    have hk' : ((tz (pv y.K) : Nat) : Int) ≤ 1 := by omega
    refine call_by (tm) (by first | rfl | (simp only [tocvs, tocv, g1, k1, g3, g4, hp', hk']; rfl) | (simp only [tocvs, tocv, toboxes, tobox, updH_at, Nat.reduceEqDiff, ↓reduceIte, g1, k1, g3, g4, hp', hk']; rfl)) (by simp) ?_
    simp (disch := omega) only [wk, tis, seval, reduceCtorEq, Nat.reduceEqDiff, rqs, cpoly_len, g1, k1, g3, g4, hp', hk']
    first | exact log_by (by kernel_rfl) | refine ⟨log_by (by kernel_rfl), ?_⟩
    try rfl
  have hk' : ¬ ((tz (pv y.K) : Nat) : Int) ≤ 1 := by omega
  rw [if_neg hk] at tm
  obtain ⟨t1, t2, t3, t4⟩ := tm_facts (B := pv y.K) (by omega) 9 (npr (pv y.P)) (nf_npr _) (by rw [tz_npr]; exact hp) (by rw [tz_npr]; exact tP)
  have tS := tmr_small hp tP sP (B := pv y.K) (by omega) 9 (npr (pv y.P)) (nf_npr _) (as_npr (pv y.P)).symm.dv
  rw [tz_npr] at t2
  have hn : tmn (pv y.K) 9 (npr (pv y.P)) < tz (pv y.P) := by
    have : tmn (pv y.K) 9 (npr (pv y.P)) * 1 ≤ tmn (pv y.K) 9 (npr (pv y.P)) * (tz (pv y.K) - 1) := Nat.mul_le_mul_left _ (by omega)
    omega
  have e3 : As (pmul (tmr (pv y.K) 9 (npr (pv y.P))) (ppow (pv y.K) (tmn (pv y.K) 9 (npr (pv y.P))))) (pv y.P) := t1.trans (as_npr _).symm
  clear t1 t2
  generalize tmr (pv y.K) 9 (npr (pv y.P)) = Lf at *
  generalize tmn (pv y.K) 9 (npr (pv y.P)) = n at *
  have rLf := rp92 tS.1 tS.2.1
  have pw := tpow_ok (cn (pv y.K)) n (rK.mono (by omega) (by omega)) (by omega)
  rw [cp_ps (show ps (ppow (pv (cn (pv y.K))) n) = ps (ppow (pv y.K) n) by rw [ps_ppow, ps_ppow, ps_cn])] at pw
  have pwb : PB 82 28 (ppow (pv y.K) n) := by
    have h1 := PB.ppow hK.pv (by simp only [W]; omega) n
    exact h1.mono (by omega) (by omega)
  obtain ⟨m4, m4s, m4t, m4r⟩ := ttimes_n (p := cn Lf) (q := cn (ppow (pv y.K) n)) (A := Lf) (B := ppow (pv y.K) n) (a := 92) (b := 28) (n := 9) (m := 82) tS.1 (fun i => pwb.cf i) tS.2.1 (Nat.le_trans (tz_le _) pwb.1) (by omega) (by omega) (by omega) (by omega) (rLf.mono (by omega) (by omega)) ((rp_cn pwb).mono (by omega) (by omega)) (ps_cn _) (ps_cn _)
  have q4 := tpart14_g (p := cn (pmul Lf (ppow (pv y.K) n))) (A := pmul Lf (ppow (pv y.K) n)) (m4r.mono (by omega) (by omega)) (ps_cn _)
  rw [cp_ps (show ps (npr (pmul Lf (ppow (pv y.K) n))) = ps (npr (pv y.P)) from ((as_npr _).symm.trans (e3.trans (as_npr _))).uniq (nf_npr _) (nf_npr _))] at q4
  have cLf := c14_ok (cn Lf) (rLf.mono (by omega) (by omega))
  have cKc := c14_ok (cn (pv y.K)) (rK.mono (by omega) (by omega))
  have d4 := pdivides_g (p := cn Lf) (q := cn (pv y.K)) (A := Lf) (B := pv y.K) (rLf.mono (Nat.le_refl _) (by omega)) (rK.mono (by omega) (by omega)) (ps_cn _) (ps_cn _)
  rw [t3] at d4
  have hn1 : ¬ (n : Int) < 0 := by omega
  have hn2 : ¬ ((tz (pv y.P) : Nat) : Int) ≤ (n : Int) := by omega
  -- without
  have wt := pwithout_ok y.P y.K hP hK
  rw [if_neg (by omega)] at wt
  have wS := wof_small (B := pv y.K) hp tP sP 10 (npr (pv y.P)) (nf_npr _) (as_npr (pv y.P)).symm.dv
  obtain ⟨w1, w2, w3, w4, w5⟩ := wof_facts (B := pv y.K) (by omega) 10 (npr (pv y.P)) (nf_npr _) (by rw [tz_npr]; exact hp) (by rw [tz_npr]; omega)
  have eg : tz (gcdp (npr (pv y.P)) (pv y.K)) = tz (gcdp (pv y.P) (pv y.K)) := tz_of_ps (gcdp_as (as_npr _).symm (.refl _))
  rw [eg] at w3 w4
  rw [tz_npr] at w3
  have hw : (decide (((tz (wof (pv y.K) 10 (npr (pv y.P))) : Nat) : Int) - 1 < ((tz (pv y.P) : Nat) : Int) - 1)) = !decide (tz (gcdp (pv y.P) (pv y.K)) = 1) := by
    by_cases hc : tz (gcdp (pv y.P) (pv y.K)) = 1
    · rw [decide_eq_true hc, w4 hc, tz_npr, decide_eq_false (by omega)]; rfl
    · rw [decide_eq_false hc, decide_eq_true (by have := w3 hc; omega)]; rfl
  generalize wof (pv y.K) 10 (npr (pv y.P)) = w at *
  have rw' := rp92 wS.1 wS.2.1
  have pr5 := primitive_ok wS.2.2.1 (wS.1.mono (by omega)) (by omega)
  have cW := c14_ok (cn w) (rw'.mono (by omega) (by omega))
  have co5 := pcoprime_g (p := cn w) (q := cn (pv y.K)) 9 92 rw' (rK.mono (by omega) (by omega)) (ps_cn _) (ps_cn _) wS.2.1 tK (by omega) ez92
  rw [decide_eq_true w1] at co5
  have d5 := pdivides_g (p := y.P) (q := cn w) (A := pv y.P) (B := w) (hP40.mono (Nat.le_refl _) (by omega)) (rw'.mono (Nat.le_refl _) (by omega)) rfl (ps_cn _)
  rw [(dvb_iff _ _).mpr wS.2.2.2] at d5
  have dg1 := tdeg_ok (a := cn w) (A := w) (rw'.mono (by omega) (by omega)) (ps_cn _)
  have dg2 := tdeg_ok (a := cn (pv y.P)) (A := pv y.P) (rP.mono (by omega) (by omega)) (ps_cn _)
  have co6 := pcoprime_g (p := y.P) (q := y.K) 9 2 hP40 (hK.mono (by omega) (Nat.le_refl _)) rfl rfl tP tK (by omega) ez2
  have hbb : ∀ b : Bool, ((!b) == !b) = true := fun b => by cases b <;> rfl
  generalize decide (tz (gcdp (pv y.P) (pv y.K)) = 1) = bc at *
  refine call_by (tm) (by first | rfl | (simp only [tocvs, tocv, g1, k1, g3, g4, hp', hk', hn1, hn2]; rfl) | (simp only [tocvs, tocv, toboxes, tobox, updH_at, Nat.reduceEqDiff, ↓reduceIte, g1, k1, g3, g4, hp', hk', hn1, hn2]; rfl)) (by simp) ?_
  simp (disch := omega) only [wk, tis, seval, reduceCtorEq, Nat.reduceEqDiff, rqs, cpoly_len, g1, k1, g3, g4, hp', hk', hn1, hn2]
  first | exact log_by (by kernel_rfl) | refine ⟨log_by (by kernel_rfl), ?_⟩
  refine call_by (pw) (by first | rfl | (simp only [tocvs, tocv, g1, k1, g3, g4]; rfl) | (simp only [tocvs, tocv, toboxes, tobox, updH_at, Nat.reduceEqDiff, ↓reduceIte, g1, k1, g3, g4]; rfl)) (by simp) ?_
  simp (disch := omega) only [wk, tis, seval, reduceCtorEq, Nat.reduceEqDiff, rqs, cpoly_len, g1, k1, g3, g4]
  refine call_by (m4) (by first | rfl | (simp only [tocvs, tocv, g1, k1, g3, g4]; rfl) | (simp only [tocvs, tocv, toboxes, tobox, updH_at, Nat.reduceEqDiff, ↓reduceIte, g1, k1, g3, g4]; rfl)) (by simp) ?_
  simp (disch := omega) only [wk, tis, seval, reduceCtorEq, Nat.reduceEqDiff, rqs, cpoly_len, g1, k1, g3, g4]
  refine call_by (q4) (by first | rfl | (simp only [tocvs, tocv, g1, k1, g3, g4]; rfl) | (simp only [tocvs, tocv, toboxes, tobox, updH_at, Nat.reduceEqDiff, ↓reduceIte, g1, k1, g3, g4]; rfl)) (by simp) ?_
  simp (disch := omega) only [wk, tis, seval, reduceCtorEq, Nat.reduceEqDiff, rqs, cpoly_len, g1, k1, g3, g4]
  refine call_by (q2) (by first | rfl | (simp only [tocvs, tocv, g1, k1, g3, g4]; rfl) | (simp only [tocvs, tocv, toboxes, tobox, updH_at, Nat.reduceEqDiff, ↓reduceIte, g1, k1, g3, g4]; rfl)) (by simp) ?_
  simp (disch := omega) only [wk, tis, seval, reduceCtorEq, Nat.reduceEqDiff, rqs, cpoly_len, g1, k1, g3, g4]
  refine call_by (s2) (by first | rfl | (simp only [tocvs, tocv, g1, k1, g3, g4]; rfl) | (simp only [tocvs, tocv, toboxes, tobox, updH_at, Nat.reduceEqDiff, ↓reduceIte, g1, k1, g3, g4]; rfl)) (by simp) ?_
  simp (disch := omega) only [wk, tis, seval, reduceCtorEq, Nat.reduceEqDiff, rqs, cpoly_len, g1, k1, g3, g4]
  refine call_by (cLf) (by first | rfl | (simp only [tocvs, tocv, g1, k1, g3, g4]; rfl) | (simp only [tocvs, tocv, toboxes, tobox, updH_at, Nat.reduceEqDiff, ↓reduceIte, g1, k1, g3, g4]; rfl)) (by simp) ?_
  simp (disch := omega) only [wk, tis, seval, reduceCtorEq, Nat.reduceEqDiff, rqs, cpoly_len, g1, k1, g3, g4]
  refine call_by (cKc) (by first | rfl | (simp only [tocvs, tocv, g1, k1, g3, g4]; rfl) | (simp only [tocvs, tocv, toboxes, tobox, updH_at, Nat.reduceEqDiff, ↓reduceIte, g1, k1, g3, g4]; rfl)) (by simp) ?_
  simp (disch := omega) only [wk, tis, seval, reduceCtorEq, Nat.reduceEqDiff, rqs, cpoly_len, g1, k1, g3, g4]
  refine call_by (d4) (by first | rfl | (simp only [tocvs, tocv, g1, k1, g3, g4]; rfl) | (simp only [tocvs, tocv, toboxes, tobox, updH_at, Nat.reduceEqDiff, ↓reduceIte, g1, k1, g3, g4]; rfl)) (by simp) ?_
  simp (disch := omega) only [wk, tis, seval, reduceCtorEq, Nat.reduceEqDiff, rqs, cpoly_len, g1, k1, g3, g4]
  refine ⟨tmps_by (by kernel_rfl), ?_⟩
  refine call_by (cP) (by first | rfl | (simp only [tocvs, tocv, g1, k1, g3, g4]; rfl) | (simp only [tocvs, tocv, toboxes, tobox, updH_at, Nat.reduceEqDiff, ↓reduceIte, g1, k1, g3, g4]; rfl)) (by simp) ?_
  simp (disch := omega) only [wk, tis, seval, reduceCtorEq, Nat.reduceEqDiff, rqs, cpoly_len, g1, k1, g3, g4]
  refine call_by (cK) (by first | rfl | (simp only [tocvs, tocv, g1, k1, g3, g4]; rfl) | (simp only [tocvs, tocv, toboxes, tobox, updH_at, Nat.reduceEqDiff, ↓reduceIte, g1, k1, g3, g4]; rfl)) (by simp) ?_
  simp (disch := omega) only [wk, tis, seval, reduceCtorEq, Nat.reduceEqDiff, rqs, cpoly_len, g1, k1, g3, g4]
  refine call_by (wt) (by first | rfl | (simp only [tocvs, tocv, g1, k1, g3, g4]; rfl) | (simp only [tocvs, tocv, toboxes, tobox, updH_at, Nat.reduceEqDiff, ↓reduceIte, g1, k1, g3, g4]; rfl)) (by simp) ?_
  simp (disch := omega) only [wk, tis, seval, reduceCtorEq, Nat.reduceEqDiff, rqs, cpoly_len, g1, k1, g3, g4]
  first | exact log_by (by kernel_rfl) | refine ⟨log_by (by kernel_rfl), ?_⟩
  refine ⟨tmps_by (by kernel_rfl), ?_⟩
  refine call_by (pr5) (by first | rfl | (simp only [tocvs, tocv, g1, k1, g3, g4]; rfl) | (simp only [tocvs, tocv, toboxes, tobox, updH_at, Nat.reduceEqDiff, ↓reduceIte, g1, k1, g3, g4]; rfl)) (by simp) ?_
  simp (disch := omega) only [wk, tis, seval, reduceCtorEq, Nat.reduceEqDiff, rqs, cpoly_len, g1, k1, g3, g4]
  refine call_by (cW) (by first | rfl | (simp only [tocvs, tocv, g1, k1, g3, g4]; rfl) | (simp only [tocvs, tocv, toboxes, tobox, updH_at, Nat.reduceEqDiff, ↓reduceIte, g1, k1, g3, g4]; rfl)) (by simp) ?_
  simp (disch := omega) only [wk, tis, seval, reduceCtorEq, Nat.reduceEqDiff, rqs, cpoly_len, g1, k1, g3, g4]
  refine call_by (cKc) (by first | rfl | (simp only [tocvs, tocv, g1, k1, g3, g4]; rfl) | (simp only [tocvs, tocv, toboxes, tobox, updH_at, Nat.reduceEqDiff, ↓reduceIte, g1, k1, g3, g4]; rfl)) (by simp) ?_
  simp (disch := omega) only [wk, tis, seval, reduceCtorEq, Nat.reduceEqDiff, rqs, cpoly_len, g1, k1, g3, g4]
  refine call_by (co5) (by first | rfl | (simp only [tocvs, tocv, g1, k1, g3, g4]; rfl) | (simp only [tocvs, tocv, toboxes, tobox, updH_at, Nat.reduceEqDiff, ↓reduceIte, g1, k1, g3, g4]; rfl)) (by simp) ?_
  simp (disch := omega) only [wk, tis, seval, reduceCtorEq, Nat.reduceEqDiff, rqs, cpoly_len, g1, k1, g3, g4]
  refine call_by (cP) (by first | rfl | (simp only [tocvs, tocv, g1, k1, g3, g4]; rfl) | (simp only [tocvs, tocv, toboxes, tobox, updH_at, Nat.reduceEqDiff, ↓reduceIte, g1, k1, g3, g4]; rfl)) (by simp) ?_
  simp (disch := omega) only [wk, tis, seval, reduceCtorEq, Nat.reduceEqDiff, rqs, cpoly_len, g1, k1, g3, g4]
  refine call_by (cW) (by first | rfl | (simp only [tocvs, tocv, g1, k1, g3, g4]; rfl) | (simp only [tocvs, tocv, toboxes, tobox, updH_at, Nat.reduceEqDiff, ↓reduceIte, g1, k1, g3, g4]; rfl)) (by simp) ?_
  simp (disch := omega) only [wk, tis, seval, reduceCtorEq, Nat.reduceEqDiff, rqs, cpoly_len, g1, k1, g3, g4]
  refine call_by (d5) (by first | rfl | (simp only [tocvs, tocv, g1, k1, g3, g4]; rfl) | (simp only [tocvs, tocv, toboxes, tobox, updH_at, Nat.reduceEqDiff, ↓reduceIte, g1, k1, g3, g4]; rfl)) (by simp) ?_
  simp (disch := omega) only [wk, tis, seval, reduceCtorEq, Nat.reduceEqDiff, rqs, cpoly_len, g1, k1, g3, g4]
  refine call_by (dg1) (by first | rfl | (simp only [tocvs, tocv, g1, k1, g3, g4]; rfl) | (simp only [tocvs, tocv, toboxes, tobox, updH_at, Nat.reduceEqDiff, ↓reduceIte, g1, k1, g3, g4]; rfl)) (by simp) ?_
  simp (disch := omega) only [wk, tis, seval, reduceCtorEq, Nat.reduceEqDiff, rqs, cpoly_len, g1, k1, g3, g4]
  refine call_by (dg2) (by first | rfl | (simp only [tocvs, tocv, g1, k1, g3, g4]; rfl) | (simp only [tocvs, tocv, toboxes, tobox, updH_at, Nat.reduceEqDiff, ↓reduceIte, g1, k1, g3, g4]; rfl)) (by simp) ?_
  simp (disch := omega) only [wk, tis, seval, reduceCtorEq, Nat.reduceEqDiff, rqs, cpoly_len, g1, k1, g3, g4]
  refine call_by (cP) (by first | rfl | (simp only [tocvs, tocv, g1, k1, g3, g4]; rfl) | (simp only [tocvs, tocv, toboxes, tobox, updH_at, Nat.reduceEqDiff, ↓reduceIte, g1, k1, g3, g4]; rfl)) (by simp) ?_
  simp (disch := omega) only [wk, tis, seval, reduceCtorEq, Nat.reduceEqDiff, rqs, cpoly_len, g1, k1, g3, g4]
  refine call_by (cK) (by first | rfl | (simp only [tocvs, tocv, g1, k1, g3, g4]; rfl) | (simp only [tocvs, tocv, toboxes, tobox, updH_at, Nat.reduceEqDiff, ↓reduceIte, g1, k1, g3, g4]; rfl)) (by simp) ?_
  simp (disch := omega) only [wk, tis, seval, reduceCtorEq, Nat.reduceEqDiff, rqs, cpoly_len, g1, k1, g3, g4]
  refine call_by (co6) (by first | rfl | (simp only [tocvs, tocv, g1, k1, g3, g4, hw, hbb]; rfl) | (simp only [tocvs, tocv, toboxes, tobox, updH_at, Nat.reduceEqDiff, ↓reduceIte, g1, k1, g3, g4, hw, hbb]; rfl)) (by simp) ?_
  simp (disch := omega) only [wk, tis, seval, reduceCtorEq, Nat.reduceEqDiff, rqs, cpoly_len, g1, k1, g3, g4, hw, hbb]
  first | exact log_by (by kernel_rfl) | refine ⟨log_by (by kernel_rfl), ?_⟩
  try rfl
theorem pieces14_law2 (P R K : List RI) (L : List (List RI)) (F G : List RQ) (h1 : Raw P) (h2 : Raw R) (h3 : Raw K) (h4 : RawPs L) (h5 : RawQ F) (h6 : RawQ G) : AC Tryz.prog 6 [.agg (case14 ⟨P, R, K, L, F, G⟩)] none [cb true] := pieces14_law (ok14 h1 h2 h3 h4 h5 h6)
end Go.Proofs.YtlmkieimciodoaaGreat
