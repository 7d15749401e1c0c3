/-
 Contracts of the functions that the law reaches.
-/
import Derived.Test.YtdokaihemcnkmaaGreatL59M
import Derived.Test.YtdokaihemcnkmaaGreatL6M
import Derived.Test.YtdokaihemcnkmaaGreatL31M
set_option maxHeartbeats 2000000
namespace Go.Proofs.YtdokaihemcnkmaaGreat
open Go Go.Proofs Go.AL
set_option linter.unusedSimpArgs false
set_option linter.unusedVariables false
theorem pover_bad (p : List RI) (c : RI) (hp : RP (2 ^ 30) (2 ^ 35) p) (hc : Sz (2 ^ 35) c) (h0 : iv c ≠ 0) (hb : ¬ ∀ k, iv c ∣ cf (pv p) k) : AC Tryz.prog 110 [cw p, cr c] none [cw [], ci 4] := by
 refine AC.by_walk (rs := [.tmp 4, .tmp 5]) ords Tryz.func110 (by rfl) (by rfl) (by rfl) (by rfl) (by rfl) ?_
 have hl := hp.1
 have hs0 : (iv c).sign ≠ 0 := fun h => h0 (Int.sign_eq_zero_iff_zero.mp h)
 simp (disch := omega) only [wt, seval, reduceCtorEq, Nat.reduceEqDiff, cpoly_len]
 refine call_by ((zsign_ok c (hc.mono (by omega)))) (by rfl) (by simp) ?_
 simp (disch := omega) only [wt, seval, reduceCtorEq, Nat.reduceEqDiff, cpoly_len]
 simp (disch := omega) only [wt, seval, reduceCtorEq, Nat.reduceEqDiff, cpoly_len, hs0]
 refine aloop_by (fun f H => ∃ (i st st3 : Nat) (out : List RI), i ≤ p.length ∧ out.length = p.length ∧ (∀ k, k < i → iv c ∣ cf (pv p) k) ∧ f 18 = .iv (.int .i64 i) ∧ f 0 = .iv (.sl (raws p)) ∧ f 3 = .hp 3 st3 0 0 ∧ f 6 = .hs 15 st ∧ f 17 = .iv (.int .i64 p.length) ∧ H 15 = .blk false st 27 2 (raws out) ∧ H 3 = .blk false st3 27 2 [prow c]) (fun f H => (p.length - intAt f 18).toNat) ?_ ?_
 ·refine ⟨0, 1, 1, List.replicate p.length (false, []), by omega, by simp, fun k hk => by omega, ?_⟩
  simp (disch := omega) only [wt, seval, reduceCtorEq, Nat.reduceEqDiff, cpoly_len, Int.toNat_natCast]
 rintro f H ⟨i, st, st3, out, hi, hol, hv, hF⟩
 rw [intAt_of hF.1]
 simp (disch := omega) only [wt, seval, reduceCtorEq, Nat.reduceEqDiff, cpoly_len, hF]
 refine if_by (fun hlt => ?_) (fun hlt => ?_)
 ·by_cases hdv : iv c ∣ cf (pv p) i
  ·have hdi := hdv
   rw [cf_pv] at hdi
   have m := zexact_ok (p.getD i (false, [])) c ((hp.get i).mono (by omega)) (hc.mono (by omega)) h0 hdi
   simp (disch := omega) only [wt, seval, reduceCtorEq, Nat.reduceEqDiff, cpoly_len, hF]
   refine .inl ⟨tmps_by (by kernel_rfl), ?_⟩
   refine call_by (m) (by first | rfl | (simp only [tocvs, tocv, toboxes, tobox, updH_at, Nat.reduceEqDiff, ↓reduceIte, hF]; rfl)) (by simp) ?_
   simp (disch := omega) only [wt, seval, reduceCtorEq, Nat.reduceEqDiff, cpoly_len, hF]
   first | exact log_by (by kernel_rfl) | refine ⟨log_by (by kernel_rfl), ?_⟩
   refine ⟨⟨i + 1, st, st3, out.set i (canon (iv (p.getD i (false, [])) / iv c)), by omega, by simpa using hol, fun k hk => ?_, by omega, rfl, rfl, rfl, rfl⟩, by omega⟩
   rcases Nat.lt_or_ge k i with hk' | hk'
   ·exact hv k hk'
   ·obtain rfl : k = i := by omega
    exact hdv
  ·have hdi := hdv
   rw [cf_pv] at hdi
   have m := zexact_bad (p.getD i (false, [])) c ((hp.get i).mono (by omega)) (hc.mono (by omega)) h0 hdi
   simp (disch := omega) only [wt, seval, reduceCtorEq, Nat.reduceEqDiff, cpoly_len, hF]
   refine .inl ⟨tmps_by (by kernel_rfl), ?_⟩
   refine call_by (m) (by first | rfl | (simp only [tocvs, tocv, toboxes, tobox, updH_at, Nat.reduceEqDiff, ↓reduceIte, hF]; rfl)) (by simp) ?_
   simp (disch := omega) only [wt, seval, reduceCtorEq, Nat.reduceEqDiff, cpoly_len, hF]
   first | exact log_by (by kernel_rfl) | refine ⟨log_by (by kernel_rfl), ?_⟩
 ·refine (hb fun k => ?_).elim
  rcases Nat.lt_or_ge k p.length with hk | hk
  ·exact hv k (by omega)
  ·rw [cf_ge (by rw [pv_len]; omega)]; exact Int.dvd_zero _
end Go.Proofs.YtdokaihemcnkmaaGreat

namespace Go.Proofs.YtdokaihemcnkmaaGreat
open Go Go.Proofs Go.AL
set_option linter.unusedSimpArgs false
set_option linter.unusedVariables false
def exok (P R : List Int) : Bool := dvb R P && decide ((lc R ^ dxp P R) ∣ (gz (dq P R) : Int))
def exv (P R : List Int) : List Int := if tz R = 0 then [] else if exok P R then pdivs (lc R ^ dxp P R) (dq P R) else []
def exe (P R : List Int) : Int := if tz R = 0 then 1 else if exok P R then 0 else 4
theorem dvd_gz {c : Int} {q : List Int} : c ∣ (gz q : Int) ↔ ∀ k, c ∣ cf q k := by
 constructor
 ·intro h k
  exact Int.dvd_trans h (gz_dvd q k)
 ·intro h
  refine Int.natAbs_dvd.mp (Int.natCast_dvd_natCast.mpr (gz_greatest q c.natAbs fun k => Int.natAbs_dvd.mpr (h k)))
theorem pow_z {c : Int} {K : Nat} (h : zl c ≤ K) (n : Nat) (hn : n ≤ 41) : zl (c ^ n) ≤ 41 * K + 1 := by
 have h1 := zl_pow h n
 have h2 : n * K ≤ 41 * K := Nat.mul_le_mul_right _ hn
 omega
set_option maxRecDepth 100000 in
theorem pexact_ok (p q : List RI) (S : Nat) (hp : RP 40 S p) (hq : RP 40 S q) (hS : S ≤ 2 ^ 20) : AC Tryz.prog 300 [cw p, cw q] none [cp (exv (pv p) (pv q)), ci (exe (pv p) (pv q))] := by
 have hp' := hp.mono (Nat.le_refl 40) (show S ≤ 2 ^ 27 by omega)
 have hq' := hq.mono (Nat.le_refl 40) (show S ≤ 2 ^ 27 by omega)
 have sP := sb_rp hp
 have sQ := sb_rp hq
 by_cases h0 : tz (pv q) = 0
 ·rw [exv, exe, if_pos h0, if_pos h0]
  have d := pdiv_zero p q hq' h0
  refine AC.by_walk (rs := [.tmp 4, .tmp 5]) ords Tryz.func300 (by rfl) (by rfl) (by rfl) (by rfl) (by rfl) ?_
  simp (disch := omega) only [wt, seval, reduceCtorEq, Nat.reduceEqDiff, cpoly_len]
  refine call_by (d) (by rfl) (by simp) ?_
  simp (disch := omega) only [wt, seval, reduceCtorEq, Nat.reduceEqDiff, cpoly_len]
  try rfl
 have d := pdiv_ok p q hp' hq' h0
 have t1 := tz_rp hp
 have t2 := tz_rp hq
 have tr := drem_tz (A := pv p) h0
 have td := dq_tz (A := pv p) h0
 obtain ⟨s1, s2⟩ := div_sz h0 sP sQ
 have hdx : dxp (pv p) (pv q) ≤ 41 := by unfold dxp; omega
 have hdm : dxp (pv p) (pv q) * (S + 1) ≤ 41 * (S + 1) := Nat.mul_le_mul_right _ hdx
 have dg := pdeg_n (a := cn (dr (pv p) (pv q))) (q := dr (pv p) (pv q)) ((rp_sb (D := 40) (k := 2 ^ 35) (by omega) (s2.mono (by omega))).mono (by omega) (by omega)) (ps_cn _)
 rw [exv, exe, if_neg h0, if_neg h0]
 by_cases hd : ¬ dvb (pv q) (pv p) = true
 ·have hb : dvb (pv q) (pv p) = false := by simpa using hd
  have he : exok (pv p) (pv q) = false := by unfold exok; rw [hb]; rfl
  rw [he]
  have hr : ¬ tz (dr (pv p) (pv q)) = 0 := fun h => hd ((dvb_iff _ _).mpr ((dv_dr h0).mpr h))
  have hr' : (0 : Int) ≤ (tz (dr (pv p) (pv q)) : Int) - 1 := by omega
  refine AC.by_walk (rs := [.tmp 4, .tmp 5]) ords Tryz.func300 (by rfl) (by rfl) (by rfl) (by rfl) (by rfl) ?_
  simp (disch := omega) only [wt, seval, reduceCtorEq, Nat.reduceEqDiff, cpoly_len]
  refine call_by (d) (by rfl) (by simp) ?_
  simp (disch := omega) only [wt, seval, reduceCtorEq, Nat.reduceEqDiff, cpoly_len]
  refine call_by (dg) (by first | rfl | (simp only [tocvs, tocv, toboxes, tobox, updH_at, Nat.reduceEqDiff, ↓reduceIte, hr']; rfl)) (by simp) ?_
  simp (disch := omega) only [wt, seval, reduceCtorEq, Nat.reduceEqDiff, cpoly_len, hr']
  try rfl
 have hd : dvb (pv q) (pv p) = true := Classical.not_not.mp hd
 have hdr := (dv_dr h0).mp ((dvb_iff _ _).mp hd)
 have he : exok (pv p) (pv q) = decide ((lc (pv q) ^ dxp (pv p) (pv q)) ∣ (gz (dq (pv p) (pv q)) : Int)) := by unfold exok; rw [hd, Bool.true_and]
 rw [he]
 rw [hdr] at dg
 have o1 := zOf_ok 1 (by omega) (by omega)
 have le := plead_g (a := q) (q := pv q) (hq.mono (by omega) (by omega)) rfl
 have hlz : zl (lc (pv q)) ≤ S := sQ _
 have rD := rp_sb (D := 41) (k := 2 ^ 35) (by omega) (s1.mono (by omega))
 have hlp := lcp_ne h0 (dxp (pv p) (pv q))
 have hpz := pow_z hlz (dxp (pv p) (pv q)) hdx
 have key : ∃ (res : List Int) (e : Int), AC Tryz.prog 110 [cp (dq (pv p) (pv q)), cz (lc (pv q) ^ dxp (pv p) (pv q))] none [cp res, ci e] ∧ res = (if decide ((lc (pv q) ^ dxp (pv p) (pv q)) ∣ (gz (dq (pv p) (pv q)) : Int)) = true then pdivs (lc (pv q) ^ dxp (pv p) (pv q)) (dq (pv p) (pv q)) else []) ∧ e = (if decide ((lc (pv q) ^ dxp (pv p) (pv q)) ∣ (gz (dq (pv p) (pv q)) : Int)) = true then 0 else 4) := by
  by_cases hg : (lc (pv q) ^ dxp (pv p) (pv q)) ∣ (gz (dq (pv p) (pv q)) : Int)
  ·rw [decide_eq_true hg]
   have ov := pover_ok (cn (dq (pv p) (pv q))) (canon (lc (pv q) ^ dxp (pv p) (pv q))) (rD.mono (by omega) (by omega)) ((sz_canon _).mono (by omega)) (by rw [iv_canon]; exact hlp) (fun k => by rw [iv_canon, cf_cn]; exact dvd_gz.mp hg k)
   rw [iv_canon, show cp (pdivs (lc (pv q) ^ dxp (pv p) (pv q)) (pv (cn (dq (pv p) (pv q))))) = cp (pdivs (lc (pv q) ^ dxp (pv p) (pv q)) (dq (pv p) (pv q))) from cp_ext fun k => by rw [cf_pdivs, cf_pdivs, cf_cn]] at ov
   exact ⟨_, _, ov, rfl, rfl⟩
  ·rw [decide_eq_false hg]
   have ov := pover_bad (cn (dq (pv p) (pv q))) (canon (lc (pv q) ^ dxp (pv p) (pv q))) (rD.mono (by omega) (by omega)) ((sz_canon _).mono (by omega)) (by rw [iv_canon]; exact hlp) (fun h => hg (dvd_gz.mpr fun k => by have := h k; rwa [iv_canon, cf_cn] at this))
   exact ⟨[], 4, ov, rfl, rfl⟩
 obtain ⟨res, e, ov, hres, hee⟩ := key
 rw [← hres, ← hee]
 have he2 : e = 0 ∨ (¬ e = 0 ∧ e = 4 ∧ res = []) := by
  rw [hres, hee]
  split
  ·exact .inl rfl
  ·exact .inr ⟨by decide, rfl, rfl⟩
 clear hres hee he hdm
 generalize hX : dxp (pv p) (pv q) = x at *
 generalize hL : lc (pv q) = L at *
 refine AC.by_walk (rs := [.tmp 4, .tmp 5]) ords Tryz.func300 (by rfl) (by rfl) (by rfl) (by rfl) (by rfl) ?_
 simp (disch := omega) only [wt, seval, reduceCtorEq, Nat.reduceEqDiff, cpoly_len]
 refine call_by (d) (by rfl) (by simp) ?_
 simp (disch := omega) only [wt, seval, reduceCtorEq, Nat.reduceEqDiff, cpoly_len]
 refine call_by (dg) (by rfl) (by simp) ?_
 simp (disch := omega) only [wt, seval, reduceCtorEq, Nat.reduceEqDiff, cpoly_len]
 refine call_by (o1) (by rfl) (by simp) ?_
 simp (disch := omega) only [wt, seval, reduceCtorEq, Nat.reduceEqDiff, cpoly_len]
 refine aloop_by (fun f H => ∃ (i st : Nat), i ≤ x ∧ f 26 = .iv (.int .i64 i) ∧ f 25 = .iv (.int .i64 x) ∧ f 1 = .iv (.sl (raws q)) ∧ f 6 = .iv (.sl (cpoly (dq (pv p) (pv q)))) ∧ f 10 = .hp 10 st 0 0 ∧ H 10 = .blk false st 27 2 [prow (canon (L ^ i))]) (fun f H => (x - intAt f 26).toNat) ?_ ?_
 ·refine ⟨0, 1, by omega, ?_⟩
  simp (disch := omega) only [wt, seval, reduceCtorEq, Nat.reduceEqDiff, cpoly_len, Int.pow_zero]
 rintro f H ⟨i, st, hi, hF⟩
 rw [intAt_of hF.1]
 simp (disch := omega) only [wt, seval, reduceCtorEq, Nat.reduceEqDiff, cpoly_len, hF]
 by_cases hlt' : i < x
 ·have hlt : (i : Int) < (x : Int) := by omega
  have hz := pow_z hlz i (by omega)
  have m := zmul_ok (canon (L ^ i)) (canon L) ((sz_canon _).mono (by omega)) ((sz_canon _).mono (by omega))
  rw [iv_canon, iv_canon, ← Int.pow_succ] at m
  simp (disch := omega) only [wt, seval, reduceCtorEq, Nat.reduceEqDiff, cpoly_len, hF, hlt]
  refine .inl ⟨tmps_by (by kernel_rfl), ?_⟩
  refine call_by (le) (by first | rfl | (simp only [tocvs, tocv, toboxes, tobox, updH_at, Nat.reduceEqDiff, ↓reduceIte, hF, hlt]; rfl)) (by simp) ?_
  simp (disch := omega) only [wt, seval, reduceCtorEq, Nat.reduceEqDiff, cpoly_len, hF, hlt]
  refine call_by (m) (by first | rfl | (simp only [tocvs, tocv, toboxes, tobox, updH_at, Nat.reduceEqDiff, ↓reduceIte, hF, hlt]; rfl)) (by simp) ?_
  simp (disch := omega) only [wt, seval, reduceCtorEq, Nat.reduceEqDiff, cpoly_len, hF, hlt]
  first | exact log_by (by kernel_rfl) | refine ⟨log_by (by kernel_rfl), ?_⟩
  refine ⟨⟨i + 1, st, by omega, ?_⟩, by omega⟩
  try (repeat' apply And.intro) <;> first | rfl | omega
 ·obtain rfl : i = x := by omega
  have hlt : ¬ (i : Int) < (i : Int) := by omega
  simp (disch := omega) only [wt, seval, reduceCtorEq, Nat.reduceEqDiff, cpoly_len, hF, hlt]
  rcases he2 with rfl | ⟨h1, rfl, rfl⟩
  ·skip
   refine call_by (ov) (by first | rfl | (simp only [tocvs, tocv, toboxes, tobox, updH_at, Nat.reduceEqDiff, ↓reduceIte, hF]; rfl)) (by simp) ?_
   simp (disch := omega) only [wt, seval, reduceCtorEq, Nat.reduceEqDiff, cpoly_len, hF]
   try rfl
  ·skip
   refine call_by (ov) (by first | rfl | (simp only [tocvs, tocv, toboxes, tobox, updH_at, Nat.reduceEqDiff, ↓reduceIte, hF]; rfl)) (by simp) ?_
   simp (disch := omega) only [wt, seval, reduceCtorEq, Nat.reduceEqDiff, cpoly_len, hF]
   try rfl
theorem ps_lc (a b c : PS) : a * (b * c) = b * (a * c) := by rw [← PS.mul_assoc, PS.mul_comm a b, PS.mul_assoc]
theorem exv_prm {P R : List Int} (hR : Prm R) (h : Dv R P) : ps (exv P R) * ps R = ps P := by
 have h0 := prm_tz hR
 obtain ⟨s, e⟩ := dv_int hR h
 have hz := (dv_dr h0).mp h
 have e2 := dres_div P R
 rw [ps_zero_of hz, PS.add_zero, ← e, ← PS.mul_assoc] at e2
 have e3 : ps (dq P R) = ps (pscale (lc R ^ dxp P R) s) := ps_cancel (B := R) (by rw [e2, ps_pscale]) h0
 have hk : ∀ k, cf (dq P R) k = lc R ^ dxp P R * cf s k := fun k => by rw [ps_eq e3 k, cf_pscale, Int.mul_comm]
 have hd : exok P R = true := by
  unfold exok
  rw [(dvb_iff _ _).2 h, Bool.true_and, decide_eq_true_iff]
  exact dvd_gz.2 fun k => by rw [hk]; exact Int.dvd_mul_right _ _
 rw [exv, if_neg h0, if_pos hd]
 rw [← e]
 congr 1
 refine PS.ext fun k => ?_
 rw [ps_c, ps_c, cf_pdivs, hk, Int.mul_ediv_cancel_left _ (lcp_ne h0 _)]
def frd (P : List Int) : List Int := prim (exv (prim P) (prim (gcdp P (pderiv P))))
theorem gcdp_ne {P : List Int} (h : tz P ≠ 0) : tz (gcdp P (pderiv P)) ≠ 0 := fun h0 => h (gg_tz0 (gcdp_gg P (pderiv P)) h0).1
theorem frd_as {P : List Int} (h : tz P ≠ 0) : ∃ c : Int, c ≠ 0 ∧ ps (pmul (frd P) (gcdp P (pderiv P))) = ps (pmul (frd P) (gcdp P (pderiv P))) ∧ ∃ a b : Int, a ≠ 0 ∧ b ≠ 0 ∧ PS.C a * (ps (frd P) * ps (gcdp P (pderiv P))) = PS.C b * ps P := by
 have hg := gcdp_gg P (pderiv P)
 have h0 := gcdp_ne h
 have hG : Prm (prim (gcdp P (pderiv P))) := prm_prim fun e => h0 (cont_zero_iff.1 e)
 have e := exv_prm (P := prim P) hG (hg.a.as (as_prim _).symm (as_prim P))
 refine ⟨1, by decide, rfl, ?_⟩
 have p1 : As (frd P) (exv (prim P) (prim (gcdp P (pderiv P)))) := (as_prim _).symm
 have p2 : As (prim P) P := (as_prim P).symm
 have p3 : As (gcdp P (pderiv P)) (prim (gcdp P (pderiv P))) := as_prim _
 obtain ⟨a1, b1, n1, m1, q1⟩ := p1
 obtain ⟨a2, b2, n2, m2, q2⟩ := p2
 obtain ⟨a3, b3, n3, m3, q3⟩ := p3
 refine ⟨a1 * a3 * a2, b1 * b3 * b2, Int.mul_ne_zero (Int.mul_ne_zero n1 n3) n2, Int.mul_ne_zero (Int.mul_ne_zero m1 m3) m2, ?_⟩
 have : PS.C (a1 * a3 * a2) * (ps (frd P) * ps (gcdp P (pderiv P))) = PS.C a2 * ((PS.C a1 * ps (frd P)) * (PS.C a3 * ps (gcdp P (pderiv P)))) := by
  rw [PS.C_mul, PS.C_mul]
  simp only [PS.mul_assoc, PS.mul_comm, ps_lc]
 rw [this, q1, q3]
 have : PS.C a2 * (PS.C b1 * ps (exv (prim P) (prim (gcdp P (pderiv P)))) * (PS.C b3 * ps (prim (gcdp P (pderiv P))))) = PS.C (b1 * b3) * (PS.C a2 * ps (prim P)) := by
  rw [← e, PS.C_mul]
  simp only [PS.mul_assoc, PS.mul_comm, ps_lc]
 rw [this, q2, ← PS.mul_assoc, ← PS.C_mul]
end Go.Proofs.YtdokaihemcnkmaaGreat

namespace Go.Proofs.YtdokaihemcnkmaaGreat
open Go Go.Proofs Go.AL
set_option linter.unusedSimpArgs false
set_option linter.unusedVariables false
theorem gg_as {G H A B : List Int} (h : GG G A B) (h' : GG H A B) : As G H := (h'.dv h.a h.b).anti (h.dv h'.a h'.b)
theorem sla_pgg {P : List Int} {n : Nat} (hn : tz (pderiv P) ≤ n) (h : tz P ≠ 0) : GG (sla n (spos P) (spos (pderiv P))) P (pderiv P) := by
 have sp : ∀ A : List Int, As (spos A) A := fun A => by
  by_cases h0 : tz A = 0
  ·exact .of_ps (by rw [ps_zero_of h0, ps_zero_of (by rw [tz_spos]; exact h0)])
  ·have c0 : cont A ≠ 0 := fun e => h0 (cont_zero e)
   exact ⟨((cont A).natAbs : Int), 1, by omega, by decide, by rw [PS.C_one, PS.one_mul]; exact (ps_spos A).symm⟩
 exact (sla_gg n _ _ (by rw [tz_spos]; exact hn)).as (.refl _) (sp P) (sp _)
theorem frd_zero {P : List Int} {rs : List Rat} (hR : Root2 P rs) (h : tz P ≠ 0) : ∀ r ∈ rs, er (frd P) r = 0 := by
 obtain ⟨-, -, -, a, b, ha, hb, e⟩ := frd_as h
 obtain ⟨c, d, hc, hd, e2⟩ := gg_as (gcdp_gg P (pderiv P)) (sla_pgg (Nat.le_refl _) h)
 have k : ps (pscale (a * d) (frd P)) * ps (sla (tz (pderiv P)) (spos P) (spos (pderiv P))) = PS.C (b * c) * ps P := by
  have : ps (pscale (a * d) (frd P)) * ps (sla (tz (pderiv P)) (spos P) (spos (pderiv P))) = PS.C a * (ps (frd P) * (PS.C d * ps (sla (tz (pderiv P)) (spos P) (spos (pderiv P))))) := by
   rw [ps_pscale, PS.C_mul]; simp only [PS.mul_assoc, PS.mul_comm, ps_lc]
  rw [this, ← e2]
  have : PS.C a * (ps (frd P) * (PS.C c * ps (gcdp P (pderiv P)))) = PS.C c * (PS.C a * (ps (frd P) * ps (gcdp P (pderiv P)))) := by simp only [PS.mul_assoc, PS.mul_comm, ps_lc]
  rw [this, e, PS.C_mul]; simp only [PS.mul_assoc, PS.mul_comm, ps_lc]
 have s := freed_of hR h (Nat.le_refl _) (Int.mul_ne_zero hb hc) k
 intro r hr
 obtain ⟨A, A', a1, a2, a3, a4⟩ := s.one r hr
 have h1 := (a4 r).1
 rw [show r - r = 0 by grind, Rat.pow_succ, Rat.pow_zero, Rat.mul_zero, Rat.zero_mul] at h1
 have h2 : er (pscale (a * d) (frd P)) r = 0 := by rw [er_C (ps_spos _), h1, Rat.mul_zero]
 rw [er_pscale] at h2
 have h3 : ((a * d : Int) : Rat) ≠ 0 := by exact_mod_cast Int.mul_ne_zero ha hd
 exact cancel_l h3 (by grind)
theorem frd_tz {P D0 : List Int} {n : Nat} (h : Com P D0 n) (h0 : tz P ≠ 0) : tz (frd P) ≠ 0 ∧ tz (frd P) ≤ n + 1 ∧ Dv (frd P) P ∧ Dv D0 (gcdp P (pderiv P)) := by
 obtain ⟨-, -, -, a, b, ha, hb, e⟩ := frd_as h0
 obtain ⟨hD, E, G, e1, e2, e3, e4⟩ := h
 have g0 := gcdp_ne h0
 have dg : Dv D0 (gcdp P (pderiv P)) := (gcdp_gg P (pderiv P)).dv (.mul (S := E) (by rw [e1, PS.mul_comm])) (.mul (S := G) (by rw [e2, PS.mul_comm]))
 have hk : As (pmul (frd P) (gcdp P (pderiv P))) P := ⟨a, b, ha, hb, by rw [ps_pmul]; exact e⟩
 have ht := as_tz hk
 have f0 : tz (frd P) ≠ 0 := fun hf => h0 (by rw [← ht]; exact tz_pmul_zero (.inl hf))
 rw [tz_pmul f0 g0] at ht
 have tP : tz P = tz D0 + tz E - 1 := by rw [tz_of_ps (q := pmul D0 E) (by rw [ps_pmul, e1]), tz_pmul hD e4]
 have := dv_tz dg g0
 exact ⟨f0, by omega, ⟨b, pscale a (gcdp P (pderiv P)), hb, by rw [ps_pscale, ← e]; simp only [PS.mul_assoc, PS.mul_comm, ps_lc]⟩, dg⟩
theorem frd_sz {P D0 : List Int} {n N S : Nat} (h : Com P D0 n) (h0 : tz P ≠ 0) (hN : tz P ≤ N) (hN2 : N ≤ 10000) (hS : SBd S P) : SBd (S + 10 * N) (frd P) := dv_sz h0 hN hN2 hS (nf_prim _) (frd_tz h h0).2.2.1
theorem gcdp_dsz {P : List Int} {N S : Nat} (h0 : tz P ≠ 0) (hN : tz P ≤ N) (hN2 : N ≤ 10000) (hS : SBd S P) : SBd (S + 10 * N) (gcdp P (pderiv P)) := dv_sz h0 hN hN2 hS (gcdp_nf _ _) (gcdp_gg P (pderiv P)).a
structure Kn (P D0 : List Int) (n S : Nat) : Prop where
 com : Com P D0 n
 s : SBd S P
 s' : SBd S (pderiv P)
 t : tz P ≤ 30
 hS : S ≤ 1000
 hE : EZ S (n + 1) ≤ 2 ^ 27
theorem Kn.ne {P D0 : List Int} {n S : Nat} (h : Kn P D0 n S) : tz P ≠ 0 := by
 obtain ⟨hD, E, G, e1, e2, e3, e4⟩ := h.com
 rw [tz_of_ps (q := pmul D0 E) (by rw [ps_pmul, e1]), tz_pmul hD e4]; omega
theorem Kn.tp {P D0 : List Int} {n S : Nat} (h : Kn P D0 n S) : tz (pderiv P) ≤ tz P := tz_le_of fun k hk => by rw [cf_pderiv, cf_ge_tz P (by omega), Int.zero_mul]
theorem prm_cf {p q : List Int} (h : ∀ k, cf p k = cf q k) (hq : Prm q) : Prm p := by
 refine ⟨by rw [gz_eq h]; exact hq.1, ?_⟩
 unfold lc
 rw [tz_eq_of_cf h, h]; exact hq.2
theorem over_g (a b : List RI) (A B : List Int) (ea : ps (pv a) = ps A) (eb : ps (pv b) = ps B) (ra : RP 40 (2 ^ 19) a) (rb : RP 40 (2 ^ 19) b) (hb : tz B ≠ 0) (hd : Dv B A) (hA0 : tz A ≠ 0) (S : Nat) (hA : SBd S A) (hS : S ≤ 2 ^ 12) : AC Tryz.prog 282 [cw a, cw b] none [cp (prim (exv (prim A) (prim B)))] := by
 have p1 := pprim_n (a := a) (q := A) (ra.mono (by omega) (by omega)) ea
 have p2 := pprim_n (a := b) (q := B) (rb.mono (by omega) (by omega)) eb
 have sa := sb_rp ra
 have sb := sb_rp rb
 have ta := tz_rp ra
 have tb := tz_rp rb
 rw [tz_of_ps ea] at ta
 rw [tz_of_ps eb] at tb
 have sA : SBd (2 ^ 19) A := fun k => by rw [← ps_eq ea]; exact sa k
 have sB : SBd (2 ^ 19) B := fun k => by rw [← ps_eq eb]; exact sb k
 have rA : RP 40 (2 ^ 20) (cn (npr A)) := rp_sb (by rw [tz_npr]; exact ta) ((sb_npr sA).mono (by omega))
 have rB : RP 40 (2 ^ 20) (cn (npr B)) := rp_sb (by rw [tz_npr]; exact tb) ((sb_npr sB).mono (by omega))
 have p3 := pexact_ok (cn (npr A)) (cn (npr B)) (2 ^ 20) rA rB (by omega)
 rw [pv_cnt (npr_trim A), pv_cnt (npr_trim B)] at p3
 have pB : Prm (prim B) := prm_prim fun e => hb (cont_zero_iff.1 e)
 have nB : Prm (npr B) := prm_cf (fun k => cf_trimz _ k) pB
 have hd1 : Dv (npr B) (npr A) := hd.as (as_npr B).symm (as_npr A)
 have hd2 : Dv (prim B) (prim A) := hd.as (as_prim B).symm (as_prim A)
 have e1 := exv_prm nB hd1
 have e2 := exv_prm pB hd2
 have ee : ps (exv (npr A) (npr B)) = ps (exv (prim A) (prim B)) := ps_cancel (B := npr B) (by
  rw [e1, show ps (npr B) = ps (prim B) from ps_trimz _, e2]; exact ps_trimz _) (prm_tz nB)
 have tn : tz (npr A) ≠ 0 := by rw [tz_npr]; exact hA0
 have hs : SBd (S + 10 * 40) (exv (npr A) (npr B)) := factor_sz (s := npr B) tn (by rw [tz_npr]; exact ta) (by omega) (sb_npr hA) (by rw [PS.mul_comm]; exact e1)
 have hz := (dv_tz (.mul (S := npr B) (by rw [← e1, PS.mul_comm]) : Dv (exv (npr A) (npr B)) (npr A)) tn).2
 rw [tz_npr] at hz
 have p4 := pprim_n (a := cn (exv (npr A) (npr B))) (q := exv (prim A) (prim B)) ((rp_sb (D := 40) (k := 2 ^ 20) (by omega) (hs.mono (by omega))).mono (by omega) (by omega)) (by rw [ps_cn]; exact ee)
 rw [← cp_npr] at p4
 generalize exe (npr A) (npr B) = e at p3
 refine AC.by_walk (rs := [.tmp 4]) ords Tryz.func282 (by rfl) (by rfl) (by rfl) (by rfl) (by rfl) ?_
 simp (disch := omega) only [wt, seval, reduceCtorEq, Nat.reduceEqDiff]
 refine call_by (p1) (by rfl) (by simp) ?_
 simp (disch := omega) only [wt, seval, reduceCtorEq, Nat.reduceEqDiff]
 refine call_by (p2) (by rfl) (by simp) ?_
 simp (disch := omega) only [wt, seval, reduceCtorEq, Nat.reduceEqDiff]
 refine call_by (p3) (by rfl) (by simp) ?_
 simp (disch := omega) only [wt, seval, reduceCtorEq, Nat.reduceEqDiff]
 refine call_by (p4) (by rfl) (by simp) ?_
 simp (disch := omega) only [wt, seval, reduceCtorEq, Nat.reduceEqDiff]
theorem free_ok (p : List RI) {P D0 : List Int} {n S : Nat} (e : ps (pv p) = ps P) (hp : RP 40 S p) (h : Kn P D0 n S) : AC Tryz.prog 254 [cw p] none [cp (frd P)] := by
 have h0 := h.ne
 have t30 := h.t
 have hS := h.hS
 have d1 := pdeg_n (a := p) (q := P) (hp.mono (by omega) (by omega)) e
 have d2 := pderiv_g (a := p) (q := P) (hp.mono (by omega) (by omega)) e
 have tp := h.tp
 have sd := h.s'
 have c0 := CN.start h.com h.s h.s'
 have ed : ps (pv (cn (pderiv P))) = ps (pderiv P) := ps_cn _
 have d3 := pgcd_c p (cn (pderiv P)) (tz P) S n D0 hp (rp_sb (by omega) sd) (by omega) h.hE (by rw [npr_eq e, npr_eq ed]; exact c0)
 rw [cp_ps (gcdp_as (.of_ps e) (.of_ps ed))] at d3
 have gs := gcdp_dsz (N := 30) h0 t30 (by omega) h.s
 have gt := (dv_tz (gcdp_gg P (pderiv P)).a h0).2
 have d4 := over_g p (cn (gcdp P (pderiv P))) P (gcdp P (pderiv P)) e (ps_cn _) (hp.mono (by omega) (by omega)) (rp_sb (by omega) (gs.mono (by omega))) (gcdp_ne h0) (gcdp_gg P (pderiv P)).a h0 S h.s (by omega)
 have n1 : ¬ (tz P : Int) - 1 < 0 := by omega
 refine AC.by_walk (rs := [.tmp 2]) ords Tryz.func254 (by rfl) (by rfl) (by rfl) (by rfl) (by rfl) ?_
 simp (disch := omega) only [wt, seval, reduceCtorEq, Nat.reduceEqDiff]
 refine call_by (d1) (by first | rfl | (simp only [tocvs, tocv, toboxes, tobox, updH_at, Nat.reduceEqDiff, ↓reduceIte, n1]; rfl)) (by simp) ?_
 simp (disch := omega) only [wt, seval, reduceCtorEq, Nat.reduceEqDiff, n1]
 refine call_by (d2) (by rfl) (by simp) ?_
 simp (disch := omega) only [wt, seval, reduceCtorEq, Nat.reduceEqDiff]
 refine call_by (d3) (by rfl) (by simp) ?_
 simp (disch := omega) only [wt, seval, reduceCtorEq, Nat.reduceEqDiff]
 refine call_by (d4) (by rfl) (by simp) ?_
 simp (disch := omega) only [wt, seval, reduceCtorEq, Nat.reduceEqDiff]
 try rfl
end Go.Proofs.YtdokaihemcnkmaaGreat

namespace Go.Proofs.YtdokaihemcnkmaaGreat
open Go Go.Proofs Go.AL
set_option linter.unusedSimpArgs false
set_option linter.unusedVariables false
theorem spos_eq {A B : List Int} (h : ps A = ps B) : spos A = spos B := trimz_ext fun k => by rw [cf_pdivs, cf_pdivs, cont_ps h, ps_eq h]
theorem pos_ok (p : List RI) {A : List Int} (e : ps (pv p) = ps A) (hp : RP 40 (2 ^ 34) p) (h : tz A ≠ 0) : AC Tryz.prog 258 [cw p] none [cp (spos A)] := by
 have c0 : cont A ≠ 0 := fun e => h (cont_zero e)
 have c1 := pcontent_g (a := p) (hp.mono (by omega) (by omega)) e
 have hg := gz_len hp
 rw [gz_eq (ps_eq e), ← cont_natAbs] at hg
 have hz : zl (cont A) ≤ 2 ^ 34 := hg
 have c2 := zabs_ok (canon (cont A)) ((sz_canon _).mono (by omega))
 rw [iv_canon] at c2
 have c3 := znat_ok false (cont A).natAbs (by omega)
 have e3 : sg false (cont A).natAbs = ((cont A).natAbs : Int) := rfl
 rw [e3] at c3
 have c4 := pover_g (a := p) (r := spos A) (c := canon ((cont A).natAbs : Int)) (hp.mono (by omega) (by omega)) ((sz_canon _).mono (by rw [zl_nat]; omega)) (by rw [iv_canon]; omega) (by rw [iv_canon, e]; exact ps_spos A)
 refine AC.by_walk (rs := [.tmp 2]) ords Tryz.func258 (by rfl) (by rfl) (by rfl) (by rfl) (by rfl) ?_
 simp (disch := omega) only [wt, seval, reduceCtorEq, Nat.reduceEqDiff, cpoly_len, polys_len]
 refine call_by (c1) (by rfl) (by simp) ?_
 simp (disch := omega) only [wt, seval, reduceCtorEq, Nat.reduceEqDiff, cpoly_len, polys_len]
 refine call_by (c2) (by rfl) (by simp) ?_
 simp (disch := omega) only [wt, seval, reduceCtorEq, Nat.reduceEqDiff, cpoly_len, polys_len]
 refine call_by (c3) (by rfl) (by simp) ?_
 simp (disch := omega) only [wt, seval, reduceCtorEq, Nat.reduceEqDiff, cpoly_len, polys_len]
 refine call_by (c4) (by rfl) (by simp) ?_
 simp (disch := omega) only [wt, seval, reduceCtorEq, Nat.reduceEqDiff, cpoly_len, polys_len]
 try rfl
theorem srl_len : ∀ (n : Nat) (X Y : List Int), (srl n X Y).length ≤ n + 1
 | 0, X, Y => by simp [srl]
 | n + 1, X, Y => by
  rw [srl]
  split
  ·simp
  ·have := srl_len n Y (snx X Y)
   rw [List.length_cons]; omega
set_option maxRecDepth 100000 in
theorem of_ok (p q : List RI) {P D0 : List Int} {n S : Nat} (hk : Kn P D0 n S) (ep : ps (pv p) = ps P) (eq : ps (pv q) = ps (pderiv P)) (hp : RP 40 S p) (hq : RP 40 S q) :
  AC Tryz.prog 250 [cw p, cw q] none [.iv (.sl (polys ((srl (tz (pderiv P)) (spos P) (spos (pderiv P))).map cn))), ci 0] := by
 have h0 := hk.ne
 have tp := hk.tp
 have t30 := hk.t
 have hS := hk.hS
 have hE := hk.hE
 have ci0 := CI.start hk.com hk.s hk.s'
 have d1 := pdeg_n (a := p) (q := P) (hp.mono (by omega) (by omega)) ep
 have n1 : ¬ (tz P : Int) - 1 < 0 := by omega
 have po := pos_ok p ep (hp.mono (by omega) (by omega)) h0
 rw [← spos_eq eq] at ci0 ⊢
 have tq : tz (pderiv P) = tz (pv q) := tz_of_ps eq.symm
 rw [tq]
 rw [tq] at tp
 generalize spos P = X0 at *
 refine AC.by_walk (rs := [.tmp 4, .tmp 5]) ords Tryz.func250 (by rfl) (by rfl) (by rfl) (by rfl) (by rfl) ?_
 simp (disch := omega) only [wt, seval, reduceCtorEq, Nat.reduceEqDiff, cpoly_len, polys_len]
 refine call_by (d1) (by first | rfl | (simp only [tocvs, tocv, toboxes, tobox, updH_at, Nat.reduceEqDiff, ↓reduceIte, n1]; rfl)) (by simp) ?_
 simp (disch := omega) only [wt, seval, reduceCtorEq, Nat.reduceEqDiff, cpoly_len, polys_len, n1]
 refine call_by (po) (by first | rfl | (simp only [tocvs, tocv, toboxes, tobox, updH_at, Nat.reduceEqDiff, ↓reduceIte, n1]; rfl)) (by simp) ?_
 simp (disch := omega) only [wt, seval, reduceCtorEq, Nat.reduceEqDiff, cpoly_len, polys_len, n1]
 refine aloop_by (fun f H => ∃ (m st : Nat) (L : List (List Int)) (X : List Int) (z : List RI), L ++ srl m X (spos (pv z)) = srl (tz (pv q)) X0 (spos (pv q)) ∧ tz (pv z) ≤ m ∧ CI (tz P) S n D0 X (spos (pv z)) ∧ RP 40 (2 ^ 34) z ∧ L.length + m ≤ 30 ∧ f 7 = .iv (.sl (raws z)) ∧ f 6 = .hs 17 st ∧ H 17 = .blk false st 23 1 (polys ((L ++ [X]).map cn))) (fun f H => match H 17 with | .blk _ _ _ _ rows => 40 - rows.length | _ => 0) ?_ ?_
 ·refine ⟨tz (pv q), 1, [], X0, q, rfl, by omega, ci0, hq.mono (by omega) (by omega), by simp only [List.length_nil]; omega, ?_⟩
  simp (disch := omega) only [wt, seval, reduceCtorEq, Nat.reduceEqDiff, cpoly_len, polys_len]
  try rfl
 rintro f H ⟨m, st, L, X, z, hL, hn, ci, rz, hl, g7, g6, h6⟩
 have hln : ((L ++ [X]).map cn).length = L.length + 1 := by simp
 have hmu : (match H 17 with | .blk _ _ _ _ rows => 40 - rows.length | _ => 0) = 40 - (L.length + 1) := by rw [h6]; simp only []; rw [polys_len, hln]
 rw [hmu]
 obtain ⟨sX, sY⟩ := ci.bd
 have rX := rp_sb ci.ei.x sX
 have rY := rp_sb ci.ei.y sY
 have nn := pdeg_n (a := z) (q := pv z) (rz.mono (by omega) (by omega)) rfl
 by_cases hz0 : tz (pv z) = 0
 ·have e : srl m X (spos (pv z)) = [X] := (srl_zero (by rw [tz_spos]; exact hz0)).1
  rw [e] at hL
  rw [hL] at h6
  have hn0 : ¬ (0 : Int) ≤ (tz (pv z) : Int) - 1 := by omega
  simp (disch := omega) only [wt, seval, reduceCtorEq, Nat.reduceEqDiff, cpoly_len, polys_len, g7, g6, h6]
  refine call_by (nn) (by first | rfl | (simp only [tocvs, tocv, toboxes, tobox, updH_at, Nat.reduceEqDiff, ↓reduceIte, g7, g6, h6, hn0]; rfl)) (by simp) ?_
  simp (disch := omega) only [wt, seval, reduceCtorEq, Nat.reduceEqDiff, cpoly_len, polys_len, g7, g6, h6, hn0]
  try rfl
 ·obtain ⟨k, rfl⟩ : ∃ k, m = k + 1 := ⟨m - 1, by omega⟩
  have hy0 : tz (spos (pv z)) ≠ 0 := by rw [tz_spos]; exact hz0
  have hn0 : (0 : Int) ≤ (tz (pv z) : Int) - 1 := by omega
  have pz := pos_ok z rfl rz hz0
  have ci' := ci.step hy0
  have hty := ci.ty
  have tsp := tz_spos (pv z)
  generalize hY : spos (pv z) = Y at *
  have rm := ppos_ok (cn X) (cn Y) (rX.mono (by omega) hE) (rY.mono (by omega) hE) (by rw [pv_cnt hty]; exact hy0)
  rw [pv_cnt ci.tx, pv_cnt hty] at rm
  have dsz := dpos_sz hy0 sX sY
  have hx30 := ci.ei.x
  have hdx : dxp X Y ≤ 31 := by unfold dxp; omega
  have hdm : dxp X Y * (EZ S (n + 1) + 1) ≤ 31 * (EZ S (n + 1) + 1) := Nat.mul_le_mul_right _ hdx
  have dtz := dpos_tz (A := X) hy0
  have hey := ci.ei.y
  have rd : RP 40 (2 ^ 34) (cn (dpos X Y)) := rp_sb (by omega) (dsz.mono (by omega))
  have pn := pneg_g (a := cn (dpos X Y)) (q := dpos X Y) (rd.mono (by omega) (by omega)) (ps_cn _)
  have hsn : polys ((L ++ [X]).map cn) ++ [[.sl (cpoly Y)]] = polys ((L ++ [X] ++ [Y]).map cn) := by
   rw [List.map_append (l₁ := L ++ [X])]; exact polys_snoc _ _
  have hln2 : ((L ++ [X] ++ [Y]).map cn).length = L.length + 2 := by simp
  have hgt : (polys ((L ++ [X]).map cn)).getD L.length [] = [.sl (cpoly X)] := by
   rw [polys_at (by rw [hln]; omega)]
   simp [List.getD]
   rfl
  have e2 : ((L.length + 1 : Nat) : Int) - 1 = (L.length : Int) := by omega
  have tneg : tz (pscale (-1) (dpos X Y)) = tz (dpos X Y) := tz_pscale (by decide) _
  have pve : spos (pv (cn (pscale (-1) (dpos X Y)))) = snx X Y := spos_eq (ps_cn _)
  have tze : tz (pv (cn (pscale (-1) (dpos X Y)))) = tz (dpos X Y) := by rw [tz_of_ps (ps_cn _), tneg]
  simp (disch := omega) only [wt, seval, reduceCtorEq, Nat.reduceEqDiff, cpoly_len, polys_len, g7, g6, h6, hln, hsn, hln2]
  refine call_by (nn) (by first | rfl | (simp only [tocvs, tocv, toboxes, tobox, updH_at, Nat.reduceEqDiff, ↓reduceIte, g7, g6, h6, hln, hsn, hln2, e2, hgt, hn0]; rfl)) (by simp) ?_
  simp (disch := omega) only [wt, seval, reduceCtorEq, Nat.reduceEqDiff, cpoly_len, polys_len, g7, g6, h6, hln, hsn, hln2, e2, hgt, hn0]
  refine call_by (pz) (by first | rfl | (simp only [tocvs, tocv, toboxes, tobox, updH_at, Nat.reduceEqDiff, ↓reduceIte, g7, g6, h6, hln, hsn, hln2, e2, hgt]; rfl)) (by simp) ?_
  simp (disch := omega) only [wt, seval, reduceCtorEq, Nat.reduceEqDiff, cpoly_len, polys_len, g7, g6, h6, hln, hsn, hln2, e2, hgt]
  refine call_by (rm) (by first | rfl | (simp only [tocvs, tocv, toboxes, tobox, updH_at, Nat.reduceEqDiff, ↓reduceIte, g7, g6, h6, hln, hsn, hln2, e2, hgt]; rfl)) (by simp) ?_
  simp (disch := omega) only [wt, seval, reduceCtorEq, Nat.reduceEqDiff, cpoly_len, polys_len, g7, g6, h6, hln, hsn, hln2, e2, hgt]
  refine call_by (pn) (by first | rfl | (simp only [tocvs, tocv, toboxes, tobox, updH_at, Nat.reduceEqDiff, ↓reduceIte, g7, g6, h6, hln, hsn, hln2, e2, hgt]; rfl)) (by simp) ?_
  simp (disch := omega) only [wt, seval, reduceCtorEq, Nat.reduceEqDiff, cpoly_len, polys_len, g7, g6, h6, hln, hsn, hln2, e2, hgt]
  refine ⟨⟨k, st + 1, L ++ [X], Y, cn (pscale (-1) (dpos X Y)), ?_, by omega, by rw [pve]; exact ci', rp_sb (by omega) (sb_neg (dsz.mono (by omega))), by simp only [List.length_append, List.length_singleton]; omega, ?_⟩, ?_⟩
  ·rw [← hL, srl, if_neg hy0, pve]; simp
  ·try (repeat' apply And.intro) <;> first | rfl | omega
  ·skip
   omega
end Go.Proofs.YtdokaihemcnkmaaGreat

namespace Go.Proofs.YtdokaihemcnkmaaGreat
open Go Go.Proofs Go.AL
set_option linter.unusedSimpArgs false
set_option linter.unusedVariables false
theorem chain_ok (p : List RI) {P D0 : List Int} {n S : Nat} (hk : Kn P D0 n S) (ep : ps (pv p) = ps P) (hp : RP 40 S p) : AC Tryz.prog 181 [cw p] none [.iv (.sl (polys ((srl (tz (pderiv P)) (spos P) (spos (pderiv P))).map cn))), ci 0] := by
 have hS := hk.hS
 have tp := hk.tp
 have t30 := hk.t
 have d := pderiv_g (a := p) (q := P) (hp.mono (by omega) (by omega)) ep
 have o := of_ok p (cn (pderiv P)) hk ep (ps_cn _) hp (rp_sb (by omega) hk.s')
 refine AC.by_walk (rs := [.tmp 2, .tmp 3]) ords Tryz.func181 (by rfl) (by rfl) (by rfl) (by rfl) (by rfl) ?_
 simp (disch := omega) only [wt, seval, reduceCtorEq, Nat.reduceEqDiff, rqs, cpoly_len, polys_len]
 refine call_by (d) (by rfl) (by simp) ?_
 simp (disch := omega) only [wt, seval, reduceCtorEq, Nat.reduceEqDiff, rqs, cpoly_len, polys_len]
 refine call_by (o) (by rfl) (by simp) ?_
 simp (disch := omega) only [wt, seval, reduceCtorEq, Nat.reduceEqDiff, rqs, cpoly_len, polys_len]
 try rfl
theorem ilims_snoc (l : List Int) (x : Int) : ilims (l ++ [x]) = ilims l ++ [[.int .i64 x]] := by simp [ilims]
theorem maps_snoc {α β : Type} (f : α → β) (L : List α) (d : α) {i : Nat} (h : i < L.length) : (L.map f).take (i + 1) = (L.map f).take i ++ [f (L.getD i d)] := by
 rw [List.take_add_one]
 congr 1
 simp [List.getD, h]
theorem cnpolys_at {L : List (List Int)} {i : Nat} (h : i < L.length) : (polys (L.map cn)).getD i [] = [.sl (cpoly (L.getD i []))] := by
 rw [polys_at (by rw [List.length_map]; exact h)]
 simp [List.getD, h]
 rfl
theorem getD_mem {α : Type} {L : List α} {i : Nat} (h : i < L.length) (d : α) : L.getD i d ∈ L := by
 rw [List.getD, List.getElem?_eq_getElem h, Option.getD_some]; exact List.getElem_mem h
theorem sfar_cn (X : List Int) (b : Bool) : sfar (pv (cn X)) b = sfar X b := by
 unfold sfar lc
 rw [tz_of_ps (ps_cn X), ps_eq (ps_cn X)]
theorem sfars_ok (L : List (List Int)) (b : Bool) (hl : L.length ≤ 1000) (h : ∀ X ∈ L, RP 40 (2 ^ 30) (cn X)) : AC Tryz.prog 37 [.iv (.sl (polys (L.map cn))), cb b] none [cis (L.map fun X => sfar X b)] := by
 have hln : (L.map cn).length = L.length := List.length_map _
 refine AC.by_walk (rs := [.tmp 4]) ords Tryz.func37 (by rfl) (by rfl) (by rfl) (by rfl) (by rfl) ?_
 simp (disch := omega) only [wt, seval, reduceCtorEq, Nat.reduceEqDiff, rqs, cpoly_len, polys_len]
 refine aloop_nil 5 5 3 1 (by simp (disch := omega) only [wt, seval, reduceCtorEq, Nat.reduceEqDiff, rqs, cpoly_len, polys_len]) (fun f H => ∃ (i st : Nat), i ≤ L.length ∧ f 10 = .iv (.int .i64 i) ∧ f 8 = .iv (.sl (polys (L.map cn))) ∧ f 9 = .iv (.int .i64 L.length) ∧ f 1 = .iv (.bool b) ∧ f 5 = .hs 5 st ∧ H 5 = .blk false st 3 1 (ilims ((L.map fun X => sfar X b).take i))) (fun f H => (L.length - intAt f 10).toNat) ?_ ?_
 ·refine ⟨0, 1, by omega, ?_⟩
  simp (disch := omega) only [wt, seval, reduceCtorEq, Nat.reduceEqDiff, rqs, cpoly_len, polys_len, ghostF, ghostH, List.take_zero, show ilims [] = [] from rfl, polys_len, hln]
 rintro f H ⟨i, st, hi, hF⟩
 rw [intAt_of hF.1]
 simp (disch := omega) only [wt, seval, reduceCtorEq, Nat.reduceEqDiff, rqs, cpoly_len, polys_len, hF]
 refine if_by (fun hlt => ?_) (fun hlt => ?_)
 ·have hlt' : i < L.length := by omega
  have hq : ((L.map fun X => sfar X b).take i).length = i := by rw [List.length_take, List.length_map]; omega
  have e := maps_snoc (fun X => sfar X b) L [] hlt'
  have z := esfar_ok (cn (L.getD i [])) b ((h _ (getD_mem hlt' _)).mono (by omega) (by omega))
  rw [sfar_cn] at z
  have hgt := cnpolys_at hlt'
  simp (disch := omega) only [wt, seval, reduceCtorEq, Nat.reduceEqDiff, rqs, cpoly_len, polys_len, hF, hq, hln, hgt]
  refine call_by (z) (by first | rfl | (simp only [tocvs, tocv, toboxes, tobox, updH_at, Nat.reduceEqDiff, ↓reduceIte, hF, hq, hln, hgt]; rfl)) (by simp) ?_
  simp (disch := omega) only [wt, seval, reduceCtorEq, Nat.reduceEqDiff, rqs, cpoly_len, polys_len, hF, hq, hln, hgt]
  refine ⟨⟨i + 1, st + 1, by omega, ?_⟩, by omega⟩
  rw [e, ilims_snoc]
  (repeat' apply And.intro) <;> first | rfl | omega
 ·obtain rfl : i = L.length := by omega
  rw [List.take_of_length_le (by rw [List.length_map]; omega)] at hF
  simp (disch := omega) only [wt, seval, reduceCtorEq, Nat.reduceEqDiff, rqs, cpoly_len, polys_len, hF]
  try rfl
theorem ends_ok (L : List (List Int)) (hl : L.length ≤ 1000) (h : ∀ X ∈ L, RP 40 (2 ^ 30) (cn X)) : AC Tryz.prog 182 [.iv (.sl (polys (L.map cn)))] none [ci (chg (L.map fun X => sfar X false)), ci (chg (L.map fun X => sfar X true))] := by
 have a := sfars_ok L false hl h
 have b := sfars_ok L true hl h
 have c := chg_ok (L.map fun X => sfar X false) (by rw [List.length_map]; omega)
 have d := chg_ok (L.map fun X => sfar X true) (by rw [List.length_map]; omega)
 refine AC.by_walk (rs := [.tmp 2, .tmp 3]) ords Tryz.func182 (by rfl) (by rfl) (by rfl) (by rfl) (by rfl) ?_
 simp (disch := omega) only [wt, seval, reduceCtorEq, Nat.reduceEqDiff, rqs, cpoly_len, polys_len]
 refine call_by (a) (by rfl) (by simp) ?_
 simp (disch := omega) only [wt, seval, reduceCtorEq, Nat.reduceEqDiff, rqs, cpoly_len, polys_len]
 refine call_by (c) (by rfl) (by simp) ?_
 simp (disch := omega) only [wt, seval, reduceCtorEq, Nat.reduceEqDiff, rqs, cpoly_len, polys_len]
 refine call_by (b) (by rfl) (by simp) ?_
 simp (disch := omega) only [wt, seval, reduceCtorEq, Nat.reduceEqDiff, rqs, cpoly_len, polys_len]
 refine call_by (d) (by rfl) (by simp) ?_
 simp (disch := omega) only [wt, seval, reduceCtorEq, Nat.reduceEqDiff, rqs, cpoly_len, polys_len]
 try rfl
theorem asked_ok (p : List RI) (l : List RQ) (e : Int) (hp : RP 40 (2 ^ 30) p) (h0 : tz (pv p) ≠ 0) (hl : l.length ≤ 2 ^ 40) (h : ∀ r ∈ l, Nt (2 ^ 42) r.2) (hg : (∀ r ∈ l, nv r.2 ≠ 0) → e = 0) (hb : (¬ ∀ r ∈ l, nv r.2 ≠ 0) → e = 1) : AC Tryz.prog 180 [cw p, cqw l] none [ci e] := by
 have d := pdeg_n (a := p) (q := pv p) (hp.mono (by omega) (by omega)) rfl
 have n1 : ¬ (tz (pv p) : Int) - 1 < 0 := by omega
 refine AC.by_walk (rs := [.tmp 4]) ords Tryz.func180 (by rfl) (by rfl) (by rfl) (by rfl) (by rfl) ?_
 simp (disch := omega) only [wt, seval, reduceCtorEq, Nat.reduceEqDiff, rqs, cpoly_len, polys_len]
 refine aloop_by (fun f H => ∃ (i : Nat), i ≤ l.length ∧ (∀ j, j < i → nv (l.getD j q0).2 ≠ 0) ∧ f 10 = .iv (.int .i64 i) ∧ f 8 = .iv (.sl (rats l)) ∧ f 9 = .iv (.int .i64 l.length) ∧ f 0 = .iv (.sl (raws p))) (fun f H => (l.length - intAt f 10).toNat) ?_ ?_
 ·refine ⟨0, by omega, fun j hj => by omega, ?_⟩
  simp (disch := omega) only [wt, seval, reduceCtorEq, Nat.reduceEqDiff, rqs, cpoly_len, polys_len]
 rintro f H ⟨i, hi, hz, hF⟩
 rw [intAt_of hF.1]
 simp (disch := omega) only [wt, seval, reduceCtorEq, Nat.reduceEqDiff, rqs, cpoly_len, polys_len, hF]
 refine if_by (fun hlt => ?_) (fun hlt => ?_)
 ·have hlt' : i < l.length := by omega
  have hmem : l.getD i q0 ∈ l := getD_mem hlt' _
  simp (disch := omega) only [wt, seval, reduceCtorEq, Nat.reduceEqDiff, rqs, cpoly_len, polys_len, hF]
  by_cases hz0 : nv (l.getD i q0).2 = 0
  ·obtain rfl := hb (fun h1 => h1 _ hmem hz0)
   refine call_by ((qcheck_bad (l.getD i q0) (h _ hmem) hz0)) (by first | rfl | (simp only [tocvs, tocv, toboxes, tobox, updH_at, Nat.reduceEqDiff, ↓reduceIte, hF]; rfl)) (by simp) ?_
   simp (disch := omega) only [wt, seval, reduceCtorEq, Nat.reduceEqDiff, rqs, cpoly_len, polys_len, hF]
  ·have h0' := hz0
   refine call_by ((qcheck_good (l.getD i q0) (h _ hmem) hz0)) (by first | rfl | (simp only [tocvs, tocv, toboxes, tobox, updH_at, Nat.reduceEqDiff, ↓reduceIte, hF]; rfl)) (by simp) ?_
   simp (disch := omega) only [wt, seval, reduceCtorEq, Nat.reduceEqDiff, rqs, cpoly_len, polys_len, hF]
   refine ⟨⟨i + 1, by omega, fun j hj => ?_, by omega⟩, by omega⟩
   rcases Nat.lt_or_ge j i with hj' | hj'
   ·exact hz j hj'
   ·obtain rfl : j = i := by omega
    exact hz0
 ·obtain rfl := hg (fun r hr => by
   obtain ⟨j, hj, rfl⟩ := List.getElem_of_mem hr
   have := hz j (by omega)
   rwa [List.getD, List.getElem?_eq_getElem hj, Option.getD_some] at this)
  simp (disch := omega) only [wt, seval, reduceCtorEq, Nat.reduceEqDiff, rqs, cpoly_len, polys_len, hF]
  refine call_by (d) (by first | rfl | (simp only [tocvs, tocv, toboxes, tobox, updH_at, Nat.reduceEqDiff, ↓reduceIte, hF, n1]; rfl)) (by simp) ?_
  simp (disch := omega) only [wt, seval, reduceCtorEq, Nat.reduceEqDiff, rqs, cpoly_len, polys_len, hF, n1]
  try rfl
theorem line_ok (p : List RI) {P D0 : List Int} {n S : Nat} (hk : Kn P D0 n S) (ep : ps (pv p) = ps P) (hp : RP 40 S p) (hb : ∀ X ∈ srl (tz (pderiv P)) (spos P) (spos (pderiv P)), RP 40 (2 ^ 30) (cn X)) (k : Nat) (hc : chg ((srl (tz (pderiv P)) (spos P) (spos (pderiv P))).map fun p => sfar p false) = chg ((srl (tz (pderiv P)) (spos P) (spos (pderiv P))).map fun p => sfar p true) + k) : AC Tryz.prog 76 [cw p] none [ci k, ci 0] := by
 have h0 := hk.ne
 have hS := hk.hS
 have t30 := hk.t
 have tp := hk.tp
 have hll := srl_len (tz (pderiv P)) (spos P) (spos (pderiv P))
 have a := asked_ok p [] 0 (hp.mono (by omega) (by omega)) (by rw [tz_of_ps ep]; exact h0) (by simp) (fun r hr => nomatch hr) (fun _ => rfl) (fun h => (h fun r hr => nomatch hr).elim)
 have c := chain_ok p hk ep hp
 have l1 : ∀ {A : List Int} (l : List Int), chg l ≤ l.length := fun l => by
  have := chf_le l l.length (Nat.le_refl _)
  rwa [List.take_length] at this
 generalize srl (tz (pderiv P)) (spos P) (spos (pderiv P)) = L at *
 have e := ends_ok L (by omega) hb
 have b1 := l1 (A := []) (L.map fun p => sfar p false)
 have b2 := l1 (A := []) (L.map fun p => sfar p true)
 rw [List.length_map] at b1 b2
 generalize chg (L.map fun p => sfar p false) = x at *
 generalize chg (L.map fun p => sfar p true) = y at *
 refine AC.by_walk (rs := [.tmp 2, .tmp 3]) ords Tryz.func76 (by rfl) (by rfl) (by rfl) (by rfl) (by rfl) ?_
 simp (disch := omega) only [wt, seval, reduceCtorEq, Nat.reduceEqDiff, rqs, cpoly_len, polys_len]
 refine call_by (a) (by rfl) (by simp) ?_
 simp (disch := omega) only [wt, seval, reduceCtorEq, Nat.reduceEqDiff, rqs, cpoly_len, polys_len]
 refine call_by (c) (by rfl) (by simp) ?_
 simp (disch := omega) only [wt, seval, reduceCtorEq, Nat.reduceEqDiff, rqs, cpoly_len, polys_len]
 refine call_by (e) (by rfl) (by simp) ?_
 simp (disch := omega) only [wt, seval, reduceCtorEq, Nat.reduceEqDiff, rqs, cpoly_len, polys_len]
 have : (x : Int) - (y : Int) = k := by omega
 try rw [this]
end Go.Proofs.YtdokaihemcnkmaaGreat

namespace Go.Proofs.YtdokaihemcnkmaaGreat
open Go Go.Proofs Go.AL
set_option linter.unusedSimpArgs false
set_option linter.unusedVariables false
theorem ehomog_big (p : List RI) (a b : RI) (hp : RP (2 ^ 6) (2 ^ 24) p) (ha : Sz (2 ^ 24) a) (hb : Sz (2 ^ 24) b) : AC Tryz.prog 23 [cw p, cr a, cr b] none [cz (ihom (trimz (pv p)) (iv a) (iv b))] := by
 have za := zl_iv ha
 have zb := zl_iv hb
 refine AC.by_walk (rs := [.cell 6 27]) ords Tryz.func23 (by rfl) (by rfl) (by rfl) (by rfl) (by rfl) ?_
 simp (disch := omega) only [wt, seval, reduceCtorEq, Nat.reduceEqDiff, rqs, cpoly_len, polys_len]
 refine call_by ((pnorm_ok p (hp.mono (by omega) (by omega)))) (by rfl) (by simp) ?_
 simp (disch := omega) only [wt, seval, reduceCtorEq, Nat.reduceEqDiff, rqs, cpoly_len, polys_len]
 have hA := hp.pv.trimz
 unfold cpoly
 generalize trimz (pv p) = A at *
 have hAl := hA.1
 have hq : (A.map canon).length = A.length := by simp
 have hB : ∀ i, zl (ihom (A.drop i) (iv a) (iv b)) ≤ 2 ^ 32 := fun i => by
  have h := zl_ihom (K := 2 ^ 24) (p := A.drop i) za zb fun z hz => hA.2 z (List.mem_of_mem_drop hz)
  have h2 : (A.drop i).length ≤ 2 ^ 6 := by rw [List.length_drop]; omega
  have h3 := Nat.mul_le_mul_right (2 ^ 24 + 1) h2
  have h4 : 2 ^ 24 + 2 ^ 6 * (2 ^ 24 + 1) + 1 ≤ 2 ^ 32 := by decide
  omega
 refine call_by ((zOf_ok 0 (by omega) (by omega))) (by first | rfl | (simp only [tocvs, tocv, toboxes, tobox, updH_at, Nat.reduceEqDiff, ↓reduceIte, hq]; rfl)) (by simp) ?_
 simp (disch := omega) only [wt, seval, reduceCtorEq, Nat.reduceEqDiff, rqs, cpoly_len, polys_len, hq]
 refine call_by ((zOf_ok 1 (by omega) (by omega))) (by first | rfl | (simp only [tocvs, tocv, toboxes, tobox, updH_at, Nat.reduceEqDiff, ↓reduceIte, hq]; rfl)) (by simp) ?_
 simp (disch := omega) only [wt, seval, reduceCtorEq, Nat.reduceEqDiff, rqs, cpoly_len, polys_len, hq]
 have e0 : canon (ihom (A.drop A.length) (iv a) (iv b)) = canon 0 := by rw [List.drop_length, ihom]
 have e1 : canon (iv b ^ (A.length - A.length)) = canon 1 := by rw [Nat.sub_self, Int.pow_zero]
 refine aloop_by (fun f H => ∃ (i st4 st5 st6 st7 st8 : Nat), i ≤ A.length ∧ f 9 = .iv (.int .i64 ((i : Int) - 1)) ∧ f 0 = .iv (.sl (raws (A.map canon))) ∧ f 4 = .hp 4 st4 0 0 ∧ H 4 = .blk false st4 27 2 [prow a] ∧ f 5 = .hp 5 st5 0 0 ∧ H 5 = .blk false st5 27 2 [prow b] ∧ f 6 = .hp 6 st6 0 0 ∧ H 6 = .blk false st6 27 2 [prow (false, [])] ∧ f 7 = .hp 7 st7 0 0 ∧ H 7 = .blk false st7 27 2 [prow (canon (ihom (A.drop i) (iv a) (iv b)))] ∧ f 8 = .hp 8 st8 0 0 ∧ H 8 = .blk false st8 27 2 [prow (canon (iv b ^ (A.length - i)))]) (fun f H => (intAt f 9 + 1).toNat) ?_ ?_
 ·refine ⟨A.length, 1, 1, 1, 1, 1, by omega, ?_⟩
  simp (disch := omega) only [wt, seval, reduceCtorEq, Nat.reduceEqDiff, rqs, cpoly_len, polys_len, e0, e1]
 rintro f H ⟨i, st4, st5, st6, st7, st8, hi, hF⟩
 rw [intAt_of hF.1]
 simp (disch := omega) only [wt, seval, reduceCtorEq, Nat.reduceEqDiff, rqs, cpoly_len, polys_len, hF]
 refine if_by (fun hlt => ?_) (fun hlt => ?_)
 ·obtain ⟨j, rfl⟩ : ∃ j, i = j + 1 := ⟨i - 1, by omega⟩
  have ej : ((j + 1 : Nat) : Int) - 1 = (j : Int) := by omega
  rw [ej] at hF
  have hd := drop_cf A (i := j) (by omega)
  have zj := hA.cf j
  have zh := hB (j + 1)
  have zp := zl_pow zb (A.length - (j + 1))
  have zm := zl_mul (ihom (A.drop (j + 1)) (iv a) (iv b)) (iv a)
  have zm2 := zl_mul (cf A j) (iv b ^ (A.length - (j + 1)))
  simp (disch := omega) only [wt, seval, reduceCtorEq, Nat.reduceEqDiff, rqs, cpoly_len, polys_len, hF, ej, hq]
  refine .inl ⟨tmps_by (by kernel_rfl), ?_⟩
  have m := zmul_ok (canon (ihom (A.drop (j + 1)) (iv a) (iv b))) a ((sz_canon _).mono (by omega)) (ha.mono (by omega))
  rw [iv_canon] at m
  refine call_by (m) (by first | rfl | (simp only [tocvs, tocv, toboxes, tobox, updH_at, Nat.reduceEqDiff, ↓reduceIte, hF, ej, hq]; rfl)) (by simp) ?_
  simp (disch := omega) only [wt, seval, reduceCtorEq, Nat.reduceEqDiff, rqs, cpoly_len, polys_len, hF, ej, hq]
  have m2 := zmul_ok (canon (cf A j)) (canon (iv b ^ (A.length - (j + 1)))) ((sz_canon _).mono (by omega)) ((sz_canon _).mono (by omega))
  rw [iv_canon, iv_canon] at m2
  refine call_by (m2) (by first | rfl | (simp only [tocvs, tocv, toboxes, tobox, updH_at, Nat.reduceEqDiff, ↓reduceIte, hF, ej, hq]; rfl)) (by simp) ?_
  simp (disch := omega) only [wt, seval, reduceCtorEq, Nat.reduceEqDiff, rqs, cpoly_len, polys_len, hF, ej, hq]
  have s := zadd_ok (canon (ihom (A.drop (j + 1)) (iv a) (iv b) * iv a)) (canon (cf A j * iv b ^ (A.length - (j + 1)))) ((sz_canon _).mono (by omega)) ((sz_canon _).mono (by omega))
  rw [iv_canon, iv_canon] at s
  refine call_by (s) (by first | rfl | (simp only [tocvs, tocv, toboxes, tobox, updH_at, Nat.reduceEqDiff, ↓reduceIte, hF, ej, hq]; rfl)) (by simp) ?_
  simp (disch := omega) only [wt, seval, reduceCtorEq, Nat.reduceEqDiff, rqs, cpoly_len, polys_len, hF, ej, hq]
  first | exact log_by (by kernel_rfl) | refine ⟨log_by (by kernel_rfl), ?_⟩
  have m3 := zmul_ok (canon (iv b ^ (A.length - (j + 1)))) b ((sz_canon _).mono (by omega)) (hb.mono (by omega))
  rw [iv_canon, ← Int.pow_succ, show (A.length - (j + 1)).succ = A.length - j by omega] at m3
  refine call_by (m3) (by first | rfl | (simp only [tocvs, tocv, toboxes, tobox, updH_at, Nat.reduceEqDiff, ↓reduceIte, hF, ej, hq]; rfl)) (by simp) ?_
  simp (disch := omega) only [wt, seval, reduceCtorEq, Nat.reduceEqDiff, rqs, cpoly_len, polys_len, hF, ej, hq]
  have e' : ihom (A.drop (j + 1)) (iv a) (iv b) * iv a + cf A j * iv b ^ (A.length - (j + 1)) = ihom (A.drop j) (iv a) (iv b) := by rw [hd, ihom, List.length_drop, Int.add_comm, Int.mul_comm (iv a)]
  refine ⟨⟨j, st4, st5, st6, st7, st8, by omega, ?_⟩, by omega⟩
  rw [e']
  (repeat' apply And.intro) <;> first | rfl | omega
 ·have hi0 : i = 0 := by omega
  subst hi0
  rw [List.drop_zero] at hF
  simp (disch := omega) only [wt, seval, reduceCtorEq, Nat.reduceEqDiff, rqs, cpoly_len, polys_len, hF]
  try rfl
theorem esign_big (p : List RI) (x : RQ) (hp : RP (2 ^ 6) (2 ^ 24) p) (hx : SzQ (2 ^ 24) x) (h0 : nv x.2 ≠ 0) : AC Tryz.prog 148 [cw p, cqq x] none [ci (sgq (evq (qp (pv p)) (qv x)))] := by
 have n := znatl_ok false x.2 hx.2.2 (Nat.le_trans hx.2.1 (by omega))
 rw [sgf] at n
 have za := zl_iv hx.1
 have zb := nt_zl hx.2
 have m := ehomog_big p x.1 (canon (nv x.2 : Nat)) hp hx.1 ((sz_canon _).mono zb)
 rw [iv_canon] at m
 have zi : zl (ihom (trimz (pv p)) (iv x.1) (nv x.2 : Nat)) ≤ 2 ^ 33 := by
  have h := zl_ihom (K := 2 ^ 24) (p := trimz (pv p)) za zb fun z hz => hp.pv.trimz.2 z hz
  have h2 : (trimz (pv p)).length ≤ 2 ^ 6 := hp.pv.trimz.1
  have h3 := Nat.mul_le_mul_right (2 ^ 24 + 1) h2
  have h4 : 2 ^ 24 + 2 ^ 6 * (2 ^ 24 + 1) + 1 ≤ 2 ^ 32 := by decide
  omega
 have s := zsign_ok (canon (ihom (trimz (pv p)) (iv x.1) (nv x.2 : Nat))) ((sz_canon _).mono (by omega))
 rw [iv_canon, ihom_sign h0, ← qv_eq] at s
 refine AC.by_walk (rs := [.tmp 4]) ords Tryz.func148 (by rfl) (by rfl) (by rfl) (by rfl) (by rfl) ?_
 simp (disch := omega) only [wt, seval, reduceCtorEq, Nat.reduceEqDiff, rqs, cpoly_len, polys_len]
 refine .inl ⟨tmps_by (by kernel_rfl), ?_⟩
 refine call_by (n) (by rfl) (by simp) ?_
 simp (disch := omega) only [wt, seval, reduceCtorEq, Nat.reduceEqDiff, rqs, cpoly_len, polys_len]
 refine call_by (m) (by rfl) (by simp) ?_
 simp (disch := omega) only [wt, seval, reduceCtorEq, Nat.reduceEqDiff, rqs, cpoly_len, polys_len]
 refine call_by (s) (by rfl) (by simp) ?_
 simp (disch := omega) only [wt, seval, reduceCtorEq, Nat.reduceEqDiff, rqs, cpoly_len, polys_len]
 first | exact log_by (by kernel_rfl) | refine ⟨log_by (by kernel_rfl), ?_⟩
 try rfl
theorem sgq_er (X : List Int) (x : Rat) : sgq (evq (qp (pv (cn X))) x) = sgq (er X x) := by
 rw [← er_evq, er_of_ps (ps_cn X)]
theorem signs_ok (L : List (List Int)) (x : RQ) (hl : L.length ≤ 1000) (h : ∀ X ∈ L, RP (2 ^ 6) (2 ^ 24) (cn X)) (hx : SzQ (2 ^ 24) x) (h0 : nv x.2 ≠ 0) : AC Tryz.prog 35 [.iv (.sl (polys (L.map cn))), cqq x] none [cis (L.map fun X => sgq (er X (qv x))), ci 0] := by
 have hln : (L.map cn).length = L.length := List.length_map _
 have ck := qcheck_good x ⟨Nat.le_trans hx.2.1 (by omega), hx.2.2⟩ h0
 refine AC.by_walk (rs := [.tmp 4, .tmp 5]) ords Tryz.func35 (by rfl) (by rfl) (by rfl) (by rfl) (by rfl) ?_
 simp (disch := omega) only [wt, seval, reduceCtorEq, Nat.reduceEqDiff, rqs, cpoly_len, polys_len]
 refine call_by (ck) (by rfl) (by simp) ?_
 simp (disch := omega) only [wt, seval, reduceCtorEq, Nat.reduceEqDiff, rqs, cpoly_len, polys_len]
 refine aloop_nil 7 7 3 1 (by simp (disch := omega) only [wt, seval, reduceCtorEq, Nat.reduceEqDiff, rqs, cpoly_len, polys_len]) (fun f H => ∃ (i st : Nat), i ≤ L.length ∧ f 17 = .iv (.int .i64 i) ∧ f 15 = .iv (.sl (polys (L.map cn))) ∧ f 16 = .iv (.int .i64 L.length) ∧ f 3 = .hp 3 1 0 0 ∧ H 3 = .blk false 1 58 3 [qrow x] ∧ f 7 = .hs 7 st ∧ H 7 = .blk false st 3 1 (ilims ((L.map fun X => sgq (er X (qv x))).take i))) (fun f H => (L.length - intAt f 17).toNat) ?_ ?_
 ·refine ⟨0, 1, by omega, ?_⟩
  simp (disch := omega) only [wt, seval, reduceCtorEq, Nat.reduceEqDiff, rqs, cpoly_len, polys_len, ghostF, ghostH, List.take_zero, show ilims [] = [] from rfl, polys_len, hln]
 rintro f H ⟨i, st, hi, hF⟩
 rw [intAt_of hF.1]
 simp (disch := omega) only [wt, seval, reduceCtorEq, Nat.reduceEqDiff, rqs, cpoly_len, polys_len, hF]
 refine if_by (fun hlt => ?_) (fun hlt => ?_)
 ·have hlt' : i < L.length := by omega
  have hq : ((L.map fun X => sgq (er X (qv x))).take i).length = i := by rw [List.length_take, List.length_map]; omega
  have e := maps_snoc (fun X => sgq (er X (qv x))) L [] hlt'
  have z := esign_big (cn (L.getD i [])) x (h _ (getD_mem hlt' _)) hx h0
  rw [sgq_er] at z
  have hgt := cnpolys_at hlt'
  simp (disch := omega) only [wt, seval, reduceCtorEq, Nat.reduceEqDiff, rqs, cpoly_len, polys_len, hF, hq, hln, hgt]
  refine call_by (z) (by first | rfl | (simp only [tocvs, tocv, toboxes, tobox, updH_at, Nat.reduceEqDiff, ↓reduceIte, hF, hq, hln, hgt]; rfl)) (by simp) ?_
  simp (disch := omega) only [wt, seval, reduceCtorEq, Nat.reduceEqDiff, rqs, cpoly_len, polys_len, hF, hq, hln, hgt]
  refine ⟨⟨i + 1, st + 1, by omega, ?_⟩, by omega⟩
  rw [e, ilims_snoc]
  (repeat' apply And.intro) <;> first | rfl | omega
 ·obtain rfl : i = L.length := by omega
  rw [List.take_of_length_le (by rw [List.length_map]; omega)] at hF
  simp (disch := omega) only [wt, seval, reduceCtorEq, Nat.reduceEqDiff, rqs, cpoly_len, polys_len, hF]
  try rfl
theorem changes_ok (L : List (List Int)) (x : RQ) (hl : L.length ≤ 1000) (h : ∀ X ∈ L, RP (2 ^ 6) (2 ^ 24) (cn X)) (hx : SzQ (2 ^ 24) x) (h0 : nv x.2 ≠ 0) : AC Tryz.prog 194 [.iv (.sl (polys (L.map cn))), cqq x] none [ci (chg (L.map fun X => sgq (er X (qv x)))), ci 0] := by
 have a := signs_ok L x hl h hx h0
 have c := chg_ok (L.map fun X => sgq (er X (qv x))) (by rw [List.length_map]; omega)
 refine AC.by_walk (rs := [.tmp 4, .tmp 5]) ords Tryz.func194 (by rfl) (by rfl) (by rfl) (by rfl) (by rfl) ?_
 simp (disch := omega) only [wt, seval, reduceCtorEq, Nat.reduceEqDiff, rqs, cpoly_len, polys_len]
 refine call_by (a) (by rfl) (by simp) ?_
 simp (disch := omega) only [wt, seval, reduceCtorEq, Nat.reduceEqDiff, rqs, cpoly_len, polys_len]
 refine call_by (c) (by rfl) (by simp) ?_
 simp (disch := omega) only [wt, seval, reduceCtorEq, Nat.reduceEqDiff, rqs, cpoly_len, polys_len]
 try rfl
end Go.Proofs.YtdokaihemcnkmaaGreat

namespace Go.Proofs.YtdokaihemcnkmaaGreat
open Go Go.Proofs Go.AL
set_option linter.unusedSimpArgs false
set_option linter.unusedVariables false
theorem cmp_sg {x y : Int} {d e : Nat} (hd : d ≠ 0) (he : e ≠ 0) : cmpZ (x * e) (y * d) = sgq ((x : Rat) / (d : Rat) - (y : Rat) / (e : Rat)) := by
 have hd' : (0 : Rat) < d := by have : 0 < d := by omega
                                exact_mod_cast this
 have he' : (0 : Rat) < e := by have : 0 < e := by omega
                                exact_mod_cast this
 have h1 : (x : Rat) / (d : Rat) * (d : Rat) = x := Rat.div_mul_cancel (by grind)
 have h2 : (y : Rat) / (e : Rat) * (e : Rat) = y := Rat.div_mul_cancel (by grind)
 generalize (x : Rat) / (d : Rat) = u at *
 generalize (y : Rat) / (e : Rat) = v at *
 have key : ((x * e - y * d : Int) : Rat) = (d : Rat) * (e : Rat) * (u - v) := by
  rw [Rat.intCast_sub, Rat.intCast_mul, Rat.intCast_mul, Rat.intCast_natCast, Rat.intCast_natCast, ← h1, ← h2]
  grind
 have hp := Rat.mul_pos hd' he'
 have s := congrArg sgq key
 rw [sgq_int, sgq_mul, sgq_pos hp, Int.one_mul] at s
 rw [← s]
 unfold cmpZ
 generalize x * (e : Int) = p
 generalize y * (d : Int) = q
 split
 ·rw [Int.sign_eq_neg_one_of_neg (by omega)]
 ·split
  ·rw [Int.sign_eq_one_of_pos (by omega)]
  ·rw [show p - q = 0 by omega]; rfl
theorem qcmpr_ok (a b : RQ) (ha : SzQ (2 ^ 34) a) (hb : SzQ (2 ^ 34) b) (h0 : nv a.2 ≠ 0) (h1 : nv b.2 ≠ 0) : AC Tryz.prog 84 [cqq a, cqq b] none [ci (sgq (qv a - qv b)), ci 0] := by
 rw [qv_eq, qv_eq, ← cmp_sg h0 h1]
 have c := qchecks_two a b (ha.mono (by omega)) (hb.mono (by omega)) h0 h1
 have t1 := qtimes_ok a.1 b.2 (ha.1.mono (by omega)) ⟨Nat.le_trans hb.2.1 (by omega), hb.2.2⟩
 have t2 := qtimes_ok b.1 a.2 (hb.1.mono (by omega)) ⟨Nat.le_trans ha.2.1 (by omega), ha.2.2⟩
 have y1 := zl_iv ha.1
 have y2 := zl_iv hb.1
 have y3 := nt_zl ha.2
 have y4 := nt_zl hb.2
 have z1 := zl_mul (iv a.1) (nv b.2 : Nat)
 have z2 := zl_mul (iv b.1) (nv a.2 : Nat)
 have m := zcmp_ok (canon (iv a.1 * (nv b.2 : Nat))) (canon (iv b.1 * (nv a.2 : Nat))) ((sz_canon _).mono (by omega)) ((sz_canon _).mono (by omega))
 rw [iv_canon, iv_canon] at m
 refine AC.by_walk (rs := [.tmp 4, .tmp 5]) ords Tryz.func84 (by rfl) (by rfl) (by rfl) (by rfl) (by rfl) ?_
 simp (disch := omega) only [wt, seval, reduceCtorEq, Nat.reduceEqDiff, rqs, cpoly_len, polys_len, rats_two]
 refine call_by (c) (by first | rfl | (simp only [tocvs, tocv, toboxes, tobox, updH_at, Nat.reduceEqDiff, ↓reduceIte, rats_two]; rfl)) (by simp) ?_
 simp (disch := omega) only [wt, seval, reduceCtorEq, Nat.reduceEqDiff, rqs, cpoly_len, polys_len, rats_two]
 refine .inl ⟨tmps_by (by kernel_rfl), ?_⟩
 refine call_by (t1) (by rfl) (by simp) ?_
 simp (disch := omega) only [wt, seval, reduceCtorEq, Nat.reduceEqDiff, rqs, cpoly_len, polys_len]
 refine call_by (t2) (by rfl) (by simp) ?_
 simp (disch := omega) only [wt, seval, reduceCtorEq, Nat.reduceEqDiff, rqs, cpoly_len, polys_len]
 refine call_by (m) (by rfl) (by simp) ?_
 simp (disch := omega) only [wt, seval, reduceCtorEq, Nat.reduceEqDiff, rqs, cpoly_len, polys_len]
 first | exact log_by (by kernel_rfl) | refine ⟨log_by (by kernel_rfl), ?_⟩
 try rfl
theorem sgq_le {x y : Rat} (h : x ≤ y) : ¬ 0 < sgq (x - y) := by
 rcases sgq_cases (x - y) with ⟨a, e⟩ | ⟨a, e⟩ | ⟨a, e⟩ <;> rw [e]
 ·grind
 ·decide
 ·decide
theorem sgq_gt {x y : Rat} (h : y < x) : sgq (x - y) = 1 := sgq_pos (by grind)
theorem srl_last : ∀ (n : Nat) (X Y : List Int), ∃ L, srl n X Y = L ++ [sla n X Y]
 | 0, X, Y => ⟨[], rfl⟩
 | n + 1, X, Y => by
  rw [srl, sla]
  split
  ·exact ⟨[], rfl⟩
  ·obtain ⟨L, e⟩ := srl_last n Y (snx X Y)
   exact ⟨X :: L, by rw [e]; rfl⟩
theorem CI.all {D S K : Nat} {D0 : List Int} : ∀ (n : Nat) {X Y : List Int}, CI D S K D0 X Y → ∀ Z ∈ srl n X Y, trimz Z = Z ∧ tz Z ≤ D ∧ tz Z ≠ 0 ∧ SBd (EZ S (K + 1)) Z
 | 0, X, Y, h, Z, hZ => by
  rw [srl, List.mem_singleton] at hZ
  subst hZ
  exact ⟨h.tx, h.ei.x, h.x0, h.bd.1⟩
 | n + 1, X, Y, h, Z, hZ => by
  rw [srl] at hZ
  split at hZ
  ·rw [List.mem_singleton] at hZ
   subst hZ
   exact ⟨h.tx, h.ei.x, h.x0, h.bd.1⟩
  ·rename_i h0
   rcases List.mem_cons.1 hZ with e | e
   ·subst e; exact ⟨h.tx, h.ei.x, h.x0, h.bd.1⟩
   ·exact CI.all n (h.step h0) Z e
abbrev scn (P : List Int) : List (List Int) := srl (tz (pderiv P)) (spos P) (spos (pderiv P))
theorem Kn.all {P D0 : List Int} {n S : Nat} (hk : Kn P D0 n S) : ∀ Z ∈ scn P, trimz Z = Z ∧ tz Z ≤ 30 ∧ tz Z ≠ 0 ∧ SBd (EZ S (n + 1)) Z := fun Z hZ => by
 obtain ⟨a, b, c, d⟩ := CI.all _ (CI.start hk.com hk.s hk.s') Z hZ
 exact ⟨a, Nat.le_trans b hk.t, c, d⟩
def frp (P : List Int) : List Int := spos (dq P (sla (tz (pderiv P)) (spos P) (spos (pderiv P))))
theorem frp_div {P D0 : List Int} {n S : Nat} (hk : Kn P D0 n S) : ps (dq P (sla (tz (pderiv P)) (spos P) (spos (pderiv P)))) * ps (sla (tz (pderiv P)) (spos P) (spos (pderiv P))) = PS.C (lc (sla (tz (pderiv P)) (spos P) (spos (pderiv P))) ^ dxp P (sla (tz (pderiv P)) (spos P) (spos (pderiv P)))) * ps P ∧ tz (sla (tz (pderiv P)) (spos P) (spos (pderiv P))) ≠ 0 ∧ tz (dq P (sla (tz (pderiv P)) (spos P) (spos (pderiv P)))) ≠ 0 := by
 have g := sla_pgg (P := P) (Nat.le_refl _) hk.ne
 generalize sla (tz (pderiv P)) (spos P) (spos (pderiv P)) = G at *
 have h0 : tz G ≠ 0 := fun h0 => hk.ne (gg_tz0 g h0).1
 have e := dres_div P G
 rw [ps_zero_of ((dv_dr h0).mp g.a), PS.add_zero] at e
 refine ⟨e, h0, fun hz => ?_⟩
 rw [ps_zero_of hz, PS.zero_mul] at e
 have hP : tz (pscale (lc G ^ dxp P G) P) = 0 := tz_zero_iff.mpr fun k => by
  have := ps_eq (p := pscale (lc G ^ dxp P G) P) (q := []) (by rw [ps_pscale, ← e, ps_nil]) k
  rw [this, cf_nil]
 rw [tz_pscale (lcp_ne h0 _)] at hP
 exact hk.ne hP
theorem sb_pderiv {P : List Int} {S n : Nat} (h : SBd S P) (ht : tz P ≤ n) (hn : n < W) : SBd (S + 1) (pderiv P) := fun k => by
 rw [cf_pderiv]
 by_cases hk : tz P ≤ k + 1
 ·rw [cf_ge_tz P hk, Int.zero_mul, zl_zero]; omega
 ·have h1 := zl_mul (cf P (k + 1)) ((k + 1 : Nat) : Int)
  have h2 := h (k + 1)
  have h3 : zl ((k + 1 : Nat) : Int) ≤ 1 := zl_le.mpr (by rw [Nat.pow_one]; omega)
  omega
theorem EZ.monoS {S T : Nat} (h : S ≤ T) : ∀ i, EZ S i ≤ EZ T i
 | 0 => h
 | 1 => by show 2 * S + 1 ≤ 2 * T + 1; omega
 | i + 2 => by
  have := EZ.monoS h i
  have := EZ.monoS h (i + 1)
  show 2 * EZ S (i + 1) + EZ S i + 2 ≤ 2 * EZ T (i + 1) + EZ T i + 2
  omega
theorem com_self {F : List Int} (h : tz F ≠ 0) : Com F [1] (tz F - 1) := ⟨by decide, F, pderiv F, by rw [ps_one, PS.one_mul], by rw [ps_one, PS.one_mul], by omega, h⟩
theorem ez_top {S n : Nat} (hS : S ≤ 350) (hn : n ≤ 10) : EZ S (n + 1) ≤ 2 ^ 23 := by
 have h1 := EZ.monoS hS (n + 1)
 have h2 := EZ.mono 350 (show n + 1 ≤ 11 by omega)
 have h3 : EZ 350 11 ≤ 2 ^ 23 := by decide +kernel
 omega
theorem spos_prim (A : List Int) (k : Nat) : cf (spos A) k = cf (prim A) k ∨ cf (spos A) k = -cf (prim A) k := by
 rw [spos, cf_trimz, cf_pdivs, prim, cf_pdivs]
 rcases Int.natAbs_eq (cont A) with h | h
 ·left; rw [← h]
 ·right
  rw [show cf A k / cont A = cf A k / -((cont A).natAbs : Int) by rw [← h], Int.ediv_neg, Int.neg_neg]
theorem frp_kn {P D0 : List Int} {n S : Nat} (hk : Kn P D0 n S) (hn : n ≤ 10) (hS : S ≤ 45) : Kn (frp P) [1] (tz (frp P) - 1) (S + 301) ∧ tz (frp P) ≤ 11 := by
 obtain ⟨e, g0, q0⟩ := frp_div hk
 have g := sla_pgg (P := P) (Nat.le_refl _) hk.ne
 have hdv : Dv (frp P) P := dv_spos.trans ⟨_, _, lcp_ne g0 _, by rw [PS.mul_comm]; exact e⟩
 obtain ⟨hD, E, G, e1, e2, e3, e4⟩ := hk.com
 have dg : Dv D0 (sla (tz (pderiv P)) (spos P) (spos (pderiv P))) := g.dv (.mul (S := E) (by rw [e1, PS.mul_comm])) (.mul (S := G) (by rw [e2, PS.mul_comm]))
 have tP : tz P = tz D0 + tz E - 1 := by rw [tz_of_ps (q := pmul D0 E) (by rw [ps_pmul, e1]), tz_pmul hD e4]
 have h1 := (dv_tz dg g0).2
 have h2 : tz P = tz (dq P (sla (tz (pderiv P)) (spos P) (spos (pderiv P)))) + tz (sla (tz (pderiv P)) (spos P) (spos (pderiv P))) - 1 := by
  rw [← tz_pmul q0 g0, ← tz_pscale (lcp_ne g0 (dxp P (sla (tz (pderiv P)) (spos P) (spos (pderiv P))))) P]
  exact tz_of_ps (by rw [ps_pmul, ps_pscale, e])
 have f0 : tz (frp P) ≠ 0 := by rw [frp, tz_spos]; exact q0
 have f1 : tz (frp P) ≤ 11 := by rw [frp, tz_spos]; omega
 have cf0 : cont (dq P (sla (tz (pderiv P)) (spos P) (spos (pderiv P)))) ≠ 0 := fun h => q0 (cont_zero h)
 have s1 : SBd (S + 10 * 30) (frp P) := by
  have hdq : Dv (dq P (sla (tz (pderiv P)) (spos P) (spos (pderiv P)))) P := ⟨_, _, lcp_ne g0 _, by rw [PS.mul_comm]; exact e⟩
  have := dv_sz hk.ne hk.t (by omega) hk.s (nf_prim (dq P (sla (tz (pderiv P)) (spos P) (spos (pderiv P))))) (hdq.as (as_prim _).symm (.refl _))
  intro k
  have h3 := spos_prim (dq P (sla (tz (pderiv P)) (spos P) (spos (pderiv P)))) k
  rw [frp]
  have h4 := this k
  rcases h3 with h3 | h3 <;> rw [h3]
  ·omega
  ·rw [zl_neg]; omega
 have s2 := sb_pderiv s1 f1 (by decide)
 refine ⟨⟨com_self f0, s1.mono (by omega), s2, by omega, by omega, ?_⟩, f1⟩
 have := ez_top (S := S + 301) (n := tz (frp P) - 1) (by omega) (by omega)
 omega
end Go.Proofs.YtdokaihemcnkmaaGreat

namespace Go.Proofs.YtdokaihemcnkmaaGreat
open Go Go.Proofs Go.AL
set_option linter.unusedSimpArgs false
set_option linter.unusedVariables false
structure Kw (p : List RI) (D0 : List Int) (n S : Nat) (rs : List Rat) : Prop where
 kn : Kn (pv p) D0 n S
 rp : RP 40 S p
 n10 : n ≤ 10
 s40 : S ≤ 45
 root : Root2 (pv p) rs
theorem Kw.mem {p : List RI} {D0 : List Int} {n S : Nat} {rs : List Rat} (h : Kw p D0 n S rs) : ∀ X ∈ scn (pv p), RP 40 (2 ^ 24) (cn X) := fun X hX => by
 obtain ⟨a, b, c, d⟩ := h.kn.all X hX
 have e := ez_top (S := S) (n := n) (by have := h.s40; omega) h.n10
 exact rp_sb (by omega) (d.mono (by omega))
theorem Kw.frp_mem {p : List RI} {D0 : List Int} {n S : Nat} {rs : List Rat} (h : Kw p D0 n S rs) : ∀ X ∈ scn (frp (pv p)), RP 40 (2 ^ 24) (cn X) := fun X hX => by
 obtain ⟨k, t⟩ := frp_kn h.kn h.n10 h.s40
 obtain ⟨a, b, c, d⟩ := k.all X hX
 have hs := h.s40
 have e := ez_top (S := S + 301) (n := tz (frp (pv p)) - 1) (by omega) (by omega)
 exact rp_sb (by omega) (d.mono (by omega))
theorem Kw.simp {p : List RI} {D0 : List Int} {n S : Nat} {rs : List Rat} (h : Kw p D0 n S rs) : Simp1 (frp (pv p)) rs := by
 obtain ⟨e, g0, q0⟩ := frp_div h.kn
 exact freed_of h.root h.kn.ne (Nat.le_refl _) (lcp_ne g0 _) e
theorem scn_len (P : List Int) : (scn P).length ≤ tz (pderiv P) + 1 := srl_len _ _ _
theorem chg_len (l : List Int) : chg l ≤ l.length := by
 have := chf_le l l.length (Nat.le_refl _)
 rwa [List.take_length] at this
theorem kline_ok (p : List RI) {D0 : List Int} {n S : Nat} {rs : List Rat} (h : Kw p D0 n S rs) : AC Tryz.prog 76 [cw p] none [ci rs.length, ci 0] :=
 line_ok p h.kn rfl h.rp (fun X hX => (h.mem X hX).mono (by omega) (by omega)) rs.length (line_of h.root h.kn.ne (Nat.le_refl _))
theorem freed_ok (p : List RI) {D0 : List Int} {n S : Nat} {rs : List Rat} (h : Kw p D0 n S rs) : AC Tryz.prog 193 [cw p] none [cp (frp (pv p))] := by
 have hs := h.s40
 have t30 := h.kn.t
 have tp := h.kn.tp
 have c := chain_ok p h.kn rfl h.rp
 obtain ⟨e, g0, q0⟩ := frp_div h.kn
 obtain ⟨L, hL⟩ := srl_last (tz (pderiv (pv p))) (spos (pv p)) (spos (pderiv (pv p)))
 have hll := srl_len (tz (pderiv (pv p))) (spos (pv p)) (spos (pderiv (pv p)))
 have mem := h.kn.all (sla (tz (pderiv (pv p))) (spos (pv p)) (spos (pderiv (pv p)))) (by rw [scn, hL]; simp)
 have ez := ez_top (S := S) (n := n) (by omega) h.n10
 unfold frp
 rw [hL] at c hll
 generalize sla (tz (pderiv (pv p))) (spos (pv p)) (spos (pderiv (pv p))) = G at *
 obtain ⟨m1, m2, m3, m4⟩ := mem
 have rG := rp_sb (D := 40) (k := 2 ^ 27) (q := G) (by omega) (m4.mono (by omega))
 have dv := pdiv_ok p (cn G) (h.rp.mono (by omega) (by omega)) rG (by rw [pv_cnt m1]; exact g0)
 rw [pv_cnt m1] at dv
 have sz := (div_sz g0 (sb_rp h.rp) m4).1
 have td := dq_tz (A := pv p) g0
 have hdx : dxp (pv p) G ≤ 31 := by unfold dxp; omega
 have hdm : dxp (pv p) G * (EZ S (n + 1) + 1) ≤ 31 * (EZ S (n + 1) + 1) := Nat.mul_le_mul_right _ hdx
 have po := pos_ok (cn (dq (pv p) G)) (A := dq (pv p) G) (ps_cn _) (rp_sb (by omega) (sz.mono (by omega))) q0
 simp only [List.length_append, List.length_singleton] at hll
 have hln : ((L ++ [G]).map cn).length = L.length + 1 := by simp
 have hgt : (polys ((L ++ [G]).map cn)).getD L.length [] = [.sl (cpoly G)] := by
  rw [polys_at (by rw [hln]; omega)]
  simp [List.getD]
  rfl
 have e2 : ((L.length + 1 : Nat) : Int) - 1 = (L.length : Int) := by omega
 refine AC.by_walk (rs := [.tmp 2]) ords Tryz.func193 (by rfl) (by rfl) (by rfl) (by rfl) (by rfl) ?_
 simp (disch := omega) only [wt, seval, reduceCtorEq, Nat.reduceEqDiff, rqs, cpoly_len, polys_len]
 refine call_by (c) (by first | rfl | (simp only [tocvs, tocv, toboxes, tobox, updH_at, Nat.reduceEqDiff, ↓reduceIte, hln, e2, hgt]; rfl)) (by simp) ?_
 simp (disch := omega) only [wt, seval, reduceCtorEq, Nat.reduceEqDiff, rqs, cpoly_len, polys_len, hln, e2, hgt]
 refine call_by (dv) (by first | rfl | (simp only [tocvs, tocv, toboxes, tobox, updH_at, Nat.reduceEqDiff, ↓reduceIte, hln, e2, hgt]; rfl)) (by simp) ?_
 simp (disch := omega) only [wt, seval, reduceCtorEq, Nat.reduceEqDiff, rqs, cpoly_len, polys_len, hln, e2, hgt]
 refine call_by (po) (by rfl) (by simp) ?_
 simp (disch := omega) only [wt, seval, reduceCtorEq, Nat.reduceEqDiff, rqs, cpoly_len, polys_len]
 try rfl
theorem ranged_ok (p : List RI) (a b : RQ) (hp : RP 40 (2 ^ 30) p) (h0 : tz (pv p) ≠ 0) (ha : SzQ (2 ^ 34) a) (hb : SzQ (2 ^ 34) b) (e : Int)
  (hbad : ¬ (nv a.2 ≠ 0 ∧ nv b.2 ≠ 0) → e = 1) (hgt : nv a.2 ≠ 0 ∧ nv b.2 ≠ 0 → qv b < qv a → e = 7) (hle : nv a.2 ≠ 0 ∧ nv b.2 ≠ 0 → qv a ≤ qv b → e = 0) : AC Tryz.prog 192 [cw p, cqq a, cqq b] none [ci e] := by
 have hnt : ∀ r ∈ [a, b], Nt (2 ^ 42) r.2 := fun r hr => by
  rcases List.mem_cons.1 hr with rfl | hr
  ·exact ⟨Nat.le_trans ha.2.1 (by omega), ha.2.2⟩
  ·rw [List.mem_singleton] at hr
   subst hr
   exact ⟨Nat.le_trans hb.2.1 (by omega), hb.2.2⟩
 by_cases hg : nv a.2 ≠ 0 ∧ nv b.2 ≠ 0
 ·have ask := asked_ok p [a, b] 0 hp h0 (by simp) hnt (fun _ => rfl) (fun h => (h fun r hr => by
   rcases List.mem_cons.1 hr with rfl | hr
   ·exact hg.1
   ·rw [List.mem_singleton] at hr; subst hr; exact hg.2).elim)
  have c := qcmpr_ok a b ha hb hg.1 hg.2
  by_cases hlt : qv b < qv a
  ·have e1 := hgt hg hlt
   rw [sgq_gt hlt] at c
   subst e1
   refine AC.by_walk (rs := [.tmp 6]) ords Tryz.func192 (by rfl) (by rfl) (by rfl) (by rfl) (by rfl) ?_
   simp (disch := omega) only [wt, seval, reduceCtorEq, Nat.reduceEqDiff, rqs, cpoly_len, polys_len, rats_two]
   refine call_by (ask) (by first | rfl | (simp only [tocvs, tocv, toboxes, tobox, updH_at, Nat.reduceEqDiff, ↓reduceIte, rats_two]; rfl)) (by simp) ?_
   simp (disch := omega) only [wt, seval, reduceCtorEq, Nat.reduceEqDiff, rqs, cpoly_len, polys_len, rats_two]
   refine call_by (c) (by rfl) (by simp) ?_
   simp (disch := omega) only [wt, seval, reduceCtorEq, Nat.reduceEqDiff, rqs, cpoly_len, polys_len]
   try rfl
  ·have hle' : qv a ≤ qv b := Rat.not_lt.mp hlt
   have e1 := hle hg hle'
   have ns := sgq_le hle'
   subst e1
   generalize sgq (qv a - qv b) = s at *
   refine AC.by_walk (rs := [.tmp 6]) ords Tryz.func192 (by rfl) (by rfl) (by rfl) (by rfl) (by rfl) ?_
   simp (disch := omega) only [wt, seval, reduceCtorEq, Nat.reduceEqDiff, rqs, cpoly_len, polys_len, rats_two]
   refine call_by (ask) (by first | rfl | (simp only [tocvs, tocv, toboxes, tobox, updH_at, Nat.reduceEqDiff, ↓reduceIte, rats_two]; rfl)) (by simp) ?_
   simp (disch := omega) only [wt, seval, reduceCtorEq, Nat.reduceEqDiff, rqs, cpoly_len, polys_len, rats_two]
   refine call_by (c) (by first | rfl | (simp only [tocvs, tocv, toboxes, tobox, updH_at, Nat.reduceEqDiff, ↓reduceIte, ns]; rfl)) (by simp) ?_
   simp (disch := omega) only [wt, seval, reduceCtorEq, Nat.reduceEqDiff, rqs, cpoly_len, polys_len, ns]
   try rfl
 ·have e1 := hbad hg
  subst e1
  have ask := asked_ok p [a, b] 1 hp h0 (by simp) hnt (fun h => (hg ⟨h a (by simp), h b (by simp)⟩).elim) (fun _ => rfl)
  refine AC.by_walk (rs := [.tmp 6]) ords Tryz.func192 (by rfl) (by rfl) (by rfl) (by rfl) (by rfl) ?_
  simp (disch := omega) only [wt, seval, reduceCtorEq, Nat.reduceEqDiff, rqs, cpoly_len, polys_len, rats_two]
  refine call_by (ask) (by first | rfl | (simp only [tocvs, tocv, toboxes, tobox, updH_at, Nat.reduceEqDiff, ↓reduceIte, rats_two]; rfl)) (by simp) ?_
  simp (disch := omega) only [wt, seval, reduceCtorEq, Nat.reduceEqDiff, rqs, cpoly_len, polys_len, rats_two]
  try rfl
theorem count_ok (p : List RI) {D0 : List Int} {n S : Nat} {rs : List Rat} (h : Kw p D0 n S rs) (a b : RQ) (ha : SzQ (2 ^ 24) a) (hb : SzQ (2 ^ 24) b) (h0 : nv a.2 ≠ 0) (h1 : nv b.2 ≠ 0) (hle : qv a ≤ qv b) : AC Tryz.prog 82 [cw p, cqq a, cqq b] none [ci (cnt rs (qv a) (qv b)), ci 0] := by
 have hs := h.s40
 have ra := ranged_ok p a b (h.rp.mono (by omega) (by omega)) h.kn.ne (ha.mono (by omega)) (hb.mono (by omega)) 0 (fun h => (h ⟨h0, h1⟩).elim) (fun _ h => (Rat.not_lt.mpr hle h).elim) (fun _ _ => rfl)
 have fr := freed_ok p h
 obtain ⟨k, t⟩ := frp_kn h.kn h.n10 h.s40
 have mem := h.frp_mem
 have cs := (simp_count h.simp k.ne (Nat.le_refl _)).1 (qv a) (qv b) hle
 have ch := chain_ok (cn (frp (pv p))) k (ps_cn _) (rp_sb (by omega) (k.s.mono (Nat.le_refl _)))
 have ll := scn_len (frp (pv p))
 have tp := k.tp
 rw [show srl (tz (pderiv (frp (pv p)))) (spos (frp (pv p))) (spos (pderiv (frp (pv p)))) = scn (frp (pv p)) from rfl] at ch cs
 generalize scn (frp (pv p)) = L at *
 have c1 := changes_ok L a (by omega) (fun X hX => (mem X hX).mono (by omega) (by omega)) ha h0
 have c2 := changes_ok L b (by omega) (fun X hX => (mem X hX).mono (by omega) (by omega)) hb h1
 have b1 := chg_len (L.map fun X => sgq (er X (qv a)))
 have b2 := chg_len (L.map fun X => sgq (er X (qv b)))
 rw [List.length_map] at b1 b2
 generalize chg (L.map fun X => sgq (er X (qv a))) = x at *
 generalize chg (L.map fun X => sgq (er X (qv b))) = y at *
 generalize cnt rs (qv a) (qv b) = z at *
 refine AC.by_walk (rs := [.tmp 6, .tmp 7]) ords Tryz.func82 (by rfl) (by rfl) (by rfl) (by rfl) (by rfl) ?_
 simp (disch := omega) only [wt, seval, reduceCtorEq, Nat.reduceEqDiff, rqs, cpoly_len, polys_len]
 refine call_by (ra) (by rfl) (by simp) ?_
 simp (disch := omega) only [wt, seval, reduceCtorEq, Nat.reduceEqDiff, rqs, cpoly_len, polys_len]
 refine call_by (fr) (by rfl) (by simp) ?_
 simp (disch := omega) only [wt, seval, reduceCtorEq, Nat.reduceEqDiff, rqs, cpoly_len, polys_len]
 refine call_by (ch) (by rfl) (by simp) ?_
 simp (disch := omega) only [wt, seval, reduceCtorEq, Nat.reduceEqDiff, rqs, cpoly_len, polys_len]
 refine call_by (c1) (by rfl) (by simp) ?_
 simp (disch := omega) only [wt, seval, reduceCtorEq, Nat.reduceEqDiff, rqs, cpoly_len, polys_len]
 refine call_by (c2) (by rfl) (by simp) ?_
 simp (disch := omega) only [wt, seval, reduceCtorEq, Nat.reduceEqDiff, rqs, cpoly_len, polys_len]
 have : (x : Int) - (y : Int) = z := by omega
 try rw [this]
theorem count_err (p : List RI) {D0 : List Int} {n S : Nat} {rs : List Rat} (h : Kw p D0 n S rs) (a b : RQ) (ha : SzQ (2 ^ 34) a) (hb : SzQ (2 ^ 34) b) (e : Int) (he : e ≠ 0)
  (hbad : ¬ (nv a.2 ≠ 0 ∧ nv b.2 ≠ 0) → e = 1) (hgt : nv a.2 ≠ 0 ∧ nv b.2 ≠ 0 → qv b < qv a ∧ e = 7) : AC Tryz.prog 82 [cw p, cqq a, cqq b] none [ci 0, ci e] := by
 have hs := h.s40
 have ra := ranged_ok p a b (h.rp.mono (by omega) (by omega)) h.kn.ne ha hb e hbad (fun g _ => (hgt g).2) (fun g hl => by
  have := (hgt g).1; exact (Rat.not_lt.mpr hl this).elim)
 have n0 : ¬ e = 0 := he
 refine AC.by_walk (rs := [.tmp 6, .tmp 7]) ords Tryz.func82 (by rfl) (by rfl) (by rfl) (by rfl) (by rfl) ?_
 simp (disch := omega) only [wt, seval, reduceCtorEq, Nat.reduceEqDiff, rqs, cpoly_len, polys_len]
 refine call_by (ra) (by first | rfl | (simp only [tocvs, tocv, toboxes, tobox, updH_at, Nat.reduceEqDiff, ↓reduceIte, n0]; rfl)) (by simp) ?_
 simp (disch := omega) only [wt, seval, reduceCtorEq, Nat.reduceEqDiff, rqs, cpoly_len, polys_len, n0]
 try rfl
theorem upto_ok (p : List RI) {D0 : List Int} {n S : Nat} {rs : List Rat} (h : Kw p D0 n S rs) (b : RQ) (hb : SzQ (2 ^ 24) b) (h1 : nv b.2 ≠ 0) : AC Tryz.prog 85 [cw p, cqq b] none [ci (rs.countP fun r => decide (r ≤ qv b) : Nat), ci 0] := by
 have hs := h.s40
 have ra := asked_ok p [b] 0 (h.rp.mono (by omega) (by omega)) h.kn.ne (by simp) (fun r hr => by
  rw [List.mem_singleton] at hr; subst hr; exact ⟨Nat.le_trans hb.2.1 (by omega), hb.2.2⟩) (fun _ => rfl) (fun h => (h fun r hr => by rw [List.mem_singleton] at hr; subst hr; exact h1).elim)
 have fr := freed_ok p h
 obtain ⟨k, t⟩ := frp_kn h.kn h.n10 h.s40
 have mem := h.frp_mem
 have cs := (simp_count h.simp k.ne (Nat.le_refl _)).2 (qv b)
 have ch := chain_ok (cn (frp (pv p))) k (ps_cn _) (rp_sb (by omega) (k.s.mono (Nat.le_refl _)))
 have ll := scn_len (frp (pv p))
 have tp := k.tp
 rw [show srl (tz (pderiv (frp (pv p)))) (spos (frp (pv p))) (spos (pderiv (frp (pv p)))) = scn (frp (pv p)) from rfl] at ch cs
 generalize scn (frp (pv p)) = L at *
 have c1 := ends_ok L (by omega) (fun X hX => (mem X hX).mono (by omega) (by omega))
 have c2 := changes_ok L b (by omega) (fun X hX => (mem X hX).mono (by omega) (by omega)) hb h1
 have b1 := chg_len (L.map fun X => sfar X false)
 have b3 := chg_len (L.map fun X => sfar X true)
 have b2 := chg_len (L.map fun X => sgq (er X (qv b)))
 rw [List.length_map] at b1 b2 b3
 generalize chg (L.map fun X => sfar X false) = x at *
 generalize chg (L.map fun X => sfar X true) = x' at *
 generalize chg (L.map fun X => sgq (er X (qv b))) = y at *
 generalize (rs.countP fun r => decide (r ≤ qv b)) = z at *
 refine AC.by_walk (rs := [.tmp 4, .tmp 5]) ords Tryz.func85 (by rfl) (by rfl) (by rfl) (by rfl) (by rfl) ?_
 simp (disch := omega) only [wt, seval, reduceCtorEq, Nat.reduceEqDiff, rqs, cpoly_len, polys_len]
 refine call_by (ra) (by rfl) (by simp) ?_
 simp (disch := omega) only [wt, seval, reduceCtorEq, Nat.reduceEqDiff, rqs, cpoly_len, polys_len]
 refine call_by (fr) (by rfl) (by simp) ?_
 simp (disch := omega) only [wt, seval, reduceCtorEq, Nat.reduceEqDiff, rqs, cpoly_len, polys_len]
 refine call_by (ch) (by rfl) (by simp) ?_
 simp (disch := omega) only [wt, seval, reduceCtorEq, Nat.reduceEqDiff, rqs, cpoly_len, polys_len]
 refine call_by (c1) (by rfl) (by simp) ?_
 simp (disch := omega) only [wt, seval, reduceCtorEq, Nat.reduceEqDiff, rqs, cpoly_len, polys_len]
 refine call_by (c2) (by rfl) (by simp) ?_
 simp (disch := omega) only [wt, seval, reduceCtorEq, Nat.reduceEqDiff, rqs, cpoly_len, polys_len]
 have : (x : Int) - (y : Int) = z := by omega
 try rw [this]
theorem kbeyond_ok (p : List RI) {D0 : List Int} {n S : Nat} {rs : List Rat} (h : Kw p D0 n S rs) (b : RQ) (hb : SzQ (2 ^ 24) b) (h1 : nv b.2 ≠ 0) (hl : rs.length ≤ 1000) : AC Tryz.prog 86 [cw p, cqq b] none [ci ((rs.length : Int) - (rs.countP fun r => decide (r ≤ qv b) : Nat)), ci 0] := by
 have u := upto_ok p h b hb h1
 have l := kline_ok p h
 have hc : (rs.countP fun r => decide (r ≤ qv b)) ≤ rs.length := List.countP_le_length
 generalize (rs.countP fun r => decide (r ≤ qv b)) = z at *
 refine AC.by_walk (rs := [.tmp 4, .tmp 5]) ords Tryz.func86 (by rfl) (by rfl) (by rfl) (by rfl) (by rfl) ?_
 simp (disch := omega) only [wt, seval, reduceCtorEq, Nat.reduceEqDiff, rqs, cpoly_len, polys_len]
 refine call_by (u) (by rfl) (by simp) ?_
 simp (disch := omega) only [wt, seval, reduceCtorEq, Nat.reduceEqDiff, rqs, cpoly_len, polys_len]
 refine call_by (l) (by rfl) (by simp) ?_
 simp (disch := omega) only [wt, seval, reduceCtorEq, Nat.reduceEqDiff, rqs, cpoly_len, polys_len]
 try rfl
end Go.Proofs.YtdokaihemcnkmaaGreat

namespace Go.Proofs.YtdokaihemcnkmaaGreat
open Go Go.Proofs Go.AL
set_option linter.unusedSimpArgs false
set_option linter.unusedVariables false
theorem lift_neg (l : List Nat) (n : Int) (hn : n ≤ 0) : AC Tryz.prog 299 [cl l, ci n] none [cl l] := by
 have h0 : ¬ 0 < n := by omega
 refine AC.by_walk (rs := [.tmp 4]) ords Tryz.func299 (by rfl) (by rfl) (by rfl) (by rfl) (by rfl) ?_
 simp (disch := omega) only [wt, seval, reduceCtorEq, Nat.reduceEqDiff]
 refine aloop_by (fun f H => f 0 = .iv (.sl (lims l)) ∧ f 1 = .iv (.int .i64 n)) (fun f H => 0) ?_ ?_
 ·simp (disch := omega) only [wt, seval, reduceCtorEq, Nat.reduceEqDiff]
 rintro f H ⟨g0, g1⟩
 simp (disch := omega) only [wt, seval, reduceCtorEq, Nat.reduceEqDiff, g0, g1, h0]
 try rfl
theorem lift_pos (l : List Nat) (n : Nat) (hl : Lim l) (hk : l.length ≤ 2 ^ 39) (hn : n ≤ 1048576) (h0 : 0 < n) : AC Tryz.prog 299 [cl l, ci n] none [cl (wd (nv l * 2 ^ n))] := by
 have s := nshl_ok l n hl hk hn
 have e1 : min (n : Int) 1048576 = n := by omega
 have h0' : 0 < (n : Int) := by omega
 refine AC.by_walk (rs := [.tmp 4]) ords Tryz.func299 (by rfl) (by rfl) (by rfl) (by rfl) (by rfl) ?_
 simp (disch := omega) only [wt, seval, reduceCtorEq, Nat.reduceEqDiff]
 refine aloop_by (fun f H => (f 0 = .iv (.sl (lims l)) ∧ f 1 = .iv (.int .i64 n)) ∨ (f 0 = .iv (.sl (lims (wd (nv l * 2 ^ n)))) ∧ f 1 = .iv (.int .i64 0))) (fun f H => (intAt f 1).toNat) ?_ ?_
 ·left; simp (disch := omega) only [wt, seval, reduceCtorEq, Nat.reduceEqDiff]
 rintro f H (⟨g0, g1⟩ | ⟨g0, g1⟩)
 ·simp (disch := omega) only [wt, seval, reduceCtorEq, Nat.reduceEqDiff, g0, g1, h0', e1]
  refine call_by (s) (by first | rfl | (simp only [tocvs, tocv, toboxes, tobox, updH_at, Nat.reduceEqDiff, ↓reduceIte, g0, g1, h0', e1]; rfl)) (by simp) ?_
  simp (disch := omega) only [wt, seval, reduceCtorEq, Nat.reduceEqDiff, g0, g1, h0', e1]
  refine ⟨.inr ?_, ?_⟩
  ·try (repeat' apply And.intro) <;> first | rfl | omega
  ·omega
 ·simp (disch := omega) only [wt, seval, reduceCtorEq, Nat.reduceEqDiff, g0, g1]
  try rfl
def rto (A B : Nat) : Int := if A * 2 ^ (-((bl A : Int) - bl B)).toNat ≤ B * 2 ^ ((bl A : Int) - bl B).toNat then (bl A : Int) - bl B else (bl A : Int) - bl B + 1
theorem bl_low {B : Nat} (h : B ≠ 0) : 2 ^ (bl B) ≤ 2 * B := by
 have h1 : ¬ bl B ≤ bl B - 1 := by
  have : bl B ≠ 0 := fun e => h (by have := bl_le.1 (show bl B ≤ 0 by omega); simpa using this)
  omega
 have h2 : 2 ^ (bl B - 1) ≤ B := Nat.not_lt.1 fun hlt => h1 (bl_le.2 hlt)
 have h3 : bl B = (bl B - 1) + 1 := by omega
 rw [h3, Nat.pow_succ]; omega
theorem rto_le {A B : Nat} (hB : B ≠ 0) : (A : Rat) ≤ (B : Rat) * p2 (rto A B) := by
 unfold rto
 generalize hE : (bl A : Int) - bl B = e
 have hp := p2_frac (e := e) (a := e.toNat) (b := (-e).toNat) (by omega)
 have hb := p2_pow_pos (-e).toNat
 split
 ·rename_i h
  have h1 : ((A * 2 ^ (-e).toNat : Nat) : Rat) ≤ ((B * 2 ^ e.toNat : Nat) : Rat) := by exact_mod_cast h
  rw [Rat.natCast_mul, Rat.natCast_mul, ← hp] at h1
  rcases Rat.le_total (a := (A : Rat)) (b := (B : Rat) * p2 e) with h2 | h2
  ·exact h2
  ·by_cases h3 : (A : Rat) = (B : Rat) * p2 e
   ·rw [h3]; exact Rat.le_refl
   ·exfalso
    have := Rat.mul_pos (show 0 < (A : Rat) - (B : Rat) * p2 e by grind) hb
    grind
 ·have h1 : A < 2 ^ bl A := bl_le.1 (Nat.le_refl _)
  have h2 := bl_low hB
  have h3 : ((A : Nat) : Rat) ≤ ((2 ^ bl A : Nat) : Rat) := by
   have : A ≤ 2 ^ bl A := by omega
   exact_mod_cast this
  have h4 : ((2 ^ bl B : Nat) : Rat) ≤ ((2 * B : Nat) : Rat) := by exact_mod_cast h2
  have h5 := p2_frac (e := e) (a := bl A) (b := bl B) (by omega)
  rw [p2_add, show p2 1 = 2 by rfl]
  rw [Rat.natCast_mul] at h4
  have h6 : ((2 : Nat) : Rat) = 2 := rfl
  rw [h6] at h4
  have := Rat.mul_nonneg (Rat.le_of_lt (p2_pos e)) (show 0 ≤ 2 * (B : Rat) - ((2 ^ bl B : Nat) : Rat) by grind)
  grind
theorem rto_bd (A B : Nat) : (bl A : Int) - bl B ≤ rto A B ∧ rto A B ≤ (bl A : Int) - bl B + 1 := by
 unfold rto; split <;> omega
theorem wd_shift {A n : Nat} (h : (wd A).length ≤ 2 ^ 38) (hn : n ≤ 1000000) : (wd (A * 2 ^ n)).length ≤ 2 ^ 42 := by
 have h1 := zl_mul (A : Int) ((2 ^ n : Nat) : Int)
 have h2 : zl (A : Int) = (wd A).length := rfl
 have h3 : zl ((A : Int) * ((2 ^ n : Nat) : Int)) = (wd (A * 2 ^ n)).length := by rw [← Int.natCast_mul]; rfl
 have h4 : zl ((2 ^ n : Nat) : Int) ≤ n + 1 := zl_le.mpr (by
  rw [Int.natAbs_natCast, pow64]
  exact Nat.pow_lt_pow_right (by omega) (by omega))
 omega
theorem ratio_ok (A B : Nat) (hA : bl A ≤ 1000000) (hB : bl B ≤ 1000000) (lA : (wd A).length ≤ 2 ^ 38) (lB : (wd B).length ≤ 2 ^ 38) : AC Tryz.prog 281 [cl (wd A), cl (wd B)] none [ci (rto A B)] := by
 have a := nbits_ok (wd A) (lim_wd A) (by omega)
 have b := nbits_ok (wd B) (lim_wd B) (by omega)
 rw [nv_wd] at a b
 have key : ∀ (X Y : List Nat), Lim X → Lim Y → X.length ≤ 2 ^ 42 → Y.length ≤ 2 ^ 42 → nv X = A * 2 ^ (-((bl A : Int) - bl B)).toNat → nv Y = B * 2 ^ ((bl A : Int) - bl B).toNat → AC Tryz.prog 299 [cl (wd A), ci (-((bl A : Int) - bl B))] none [cl X] → AC Tryz.prog 299 [cl (wd B), ci ((bl A : Int) - bl B)] none [cl Y] → AC Tryz.prog 281 [cl (wd A), cl (wd B)] none [ci (rto A B)] := by
  intro X Y lX lY hX hY eX eY cX cY
  have c := ncmp_ok X Y lX lY hX hY
  rw [eX, eY] at c
  have he : rto A B = if A * 2 ^ (-((bl A : Int) - bl B)).toNat ≤ B * 2 ^ ((bl A : Int) - bl B).toNat then (bl A : Int) - bl B else (bl A : Int) - bl B + 1 := rfl
  rw [he]
  rw [← Int.zero_sub] at cX
  clear he
  generalize A * 2 ^ (-((bl A : Int) - bl B)).toNat = U at *
  generalize B * 2 ^ ((bl A : Int) - bl B).toNat = T at *
  by_cases hc : U ≤ T
  ·rw [if_pos hc]
   have h1 : cmpN U T ≤ 0 := by unfold cmpN; split <;> (try split) <;> omega
   generalize cmpN U T = c at *
   refine AC.by_walk (rs := [.tmp 4]) ords Tryz.func281 (by rfl) (by rfl) (by rfl) (by rfl) (by rfl) ?_
   simp (disch := omega) only [wt, seval, reduceCtorEq, Nat.reduceEqDiff]
   refine call_by (a) (by rfl) (by simp) ?_
   simp (disch := omega) only [wt, seval, reduceCtorEq, Nat.reduceEqDiff]
   refine call_by (b) (by rfl) (by simp) ?_
   simp (disch := omega) only [wt, seval, reduceCtorEq, Nat.reduceEqDiff]
   refine call_by (cX) (by rfl) (by simp) ?_
   simp (disch := omega) only [wt, seval, reduceCtorEq, Nat.reduceEqDiff]
   refine call_by (cY) (by rfl) (by simp) ?_
   simp (disch := omega) only [wt, seval, reduceCtorEq, Nat.reduceEqDiff]
   refine call_by (c) (by first | rfl | (simp only [tocvs, tocv, toboxes, tobox, updH_at, Nat.reduceEqDiff, ↓reduceIte, h1]; rfl)) (by simp) ?_
   simp (disch := omega) only [wt, seval, reduceCtorEq, Nat.reduceEqDiff, h1]
   try rfl
  ·rw [if_neg hc]
   have h1 : ¬ cmpN U T ≤ 0 := by unfold cmpN; split <;> (try split) <;> omega
   generalize cmpN U T = c at *
   refine AC.by_walk (rs := [.tmp 4]) ords Tryz.func281 (by rfl) (by rfl) (by rfl) (by rfl) (by rfl) ?_
   simp (disch := omega) only [wt, seval, reduceCtorEq, Nat.reduceEqDiff]
   refine call_by (a) (by rfl) (by simp) ?_
   simp (disch := omega) only [wt, seval, reduceCtorEq, Nat.reduceEqDiff]
   refine call_by (b) (by rfl) (by simp) ?_
   simp (disch := omega) only [wt, seval, reduceCtorEq, Nat.reduceEqDiff]
   refine call_by (cX) (by rfl) (by simp) ?_
   simp (disch := omega) only [wt, seval, reduceCtorEq, Nat.reduceEqDiff]
   refine call_by (cY) (by rfl) (by simp) ?_
   simp (disch := omega) only [wt, seval, reduceCtorEq, Nat.reduceEqDiff]
   refine call_by (c) (by first | rfl | (simp only [tocvs, tocv, toboxes, tobox, updH_at, Nat.reduceEqDiff, ↓reduceIte, h1]; rfl)) (by simp) ?_
   simp (disch := omega) only [wt, seval, reduceCtorEq, Nat.reduceEqDiff, h1]
   try rfl
 have lX := lim_wd A
 have lY := lim_wd B
 rcases Int.lt_trichotomy ((bl A : Int) - bl B) 0 with h | h | h
 ·refine key (wd (A * 2 ^ (-((bl A : Int) - bl B)).toNat)) (wd B) (lim_wd _) lY ?_ (by omega) (nv_wd _) (by rw [nv_wd, show ((bl A : Int) - bl B).toNat = 0 by omega]; simp) ?_ (lift_neg _ _ (by omega))
  ·exact wd_shift lA (by omega)
  ·have := lift_pos (wd A) (-((bl A : Int) - bl B)).toNat lX (by omega) (by omega) (by omega)
   rwa [nv_wd, show (((-((bl A : Int) - bl B)).toNat : Nat) : Int) = -((bl A : Int) - bl B) by omega] at this
 ·refine key (wd A) (wd B) lX lY (by omega) (by omega) (by rw [nv_wd, h]; simp) (by rw [nv_wd, h]; simp) (lift_neg _ _ (by omega)) (lift_neg _ _ (by omega))
 ·refine key (wd A) (wd (B * 2 ^ ((bl A : Int) - bl B).toNat)) lX (lim_wd _) (by omega) ?_ (by rw [nv_wd, show (-((bl A : Int) - bl B)).toNat = 0 by omega]; simp) (nv_wd _) (lift_neg _ _ (by omega)) ?_
  ·exact wd_shift lB (by omega)
  ·have := lift_pos (wd B) ((bl A : Int) - bl B).toNat lY (by omega) (by omega) (by omega)
   rwa [nv_wd, show ((((bl A : Int) - bl B).toNat : Nat) : Int) = (bl A : Int) - bl B by omega] at this
def upz (k i : Int) : Int := if 0 < k.tmod i then k.tdiv i + 1 else k.tdiv i
theorem upz_le {k i : Int} (hi : 0 < i) : k ≤ i * upz k i := by
 have h := Int.mul_tdiv_add_tmod k i
 unfold upz
 split
 ·rename_i h0
  have := Int.tmod_lt_of_pos k hi
  rw [Int.mul_add, Int.mul_one]; omega
 ·omega
theorem upz_bd {k i : Int} (hi : 0 < i) {K : Int} (h1 : -K ≤ k) (h2 : k ≤ K) : -K - 1 ≤ upz k i ∧ upz k i ≤ K + 1 := by
 have h3 : (k.tdiv i).natAbs ≤ k.natAbs := Int.natAbs_tdiv_le_natAbs _ _
 unfold upz
 split <;> omega
theorem up_ok (k i : Int) (hi : 0 < i) (hk : -1000000000 ≤ k) (hk2 : k ≤ 1000000000) (hi2 : i ≤ 1000000000) : AC Tryz.prog 255 [ci k, ci i] none [ci (upz k i)] := by
 have h3 : (k.tdiv i).natAbs ≤ k.natAbs := Int.natAbs_tdiv_le_natAbs _ _
 have h4 : (k.tmod i).natAbs < i.natAbs := by
  have := Int.natAbs_tmod k i
  rw [this]; exact Nat.mod_lt _ (by omega)
 have h5 : ¬ i = 0 := by omega
 unfold upz
 by_cases h6 : 0 < k.tmod i
 ·rw [if_pos h6]
  refine AC.by_walk (rs := [.tmp 4]) ords Tryz.func255 (by rfl) (by rfl) (by rfl) (by rfl) (by rfl) ?_
  simp (disch := omega) only [wt, seval, reduceCtorEq, Nat.reduceEqDiff, h5, h6]
  try rfl
 ·rw [if_neg h6]
  refine AC.by_walk (rs := [.tmp 4]) ords Tryz.func255 (by rfl) (by rfl) (by rfl) (by rfl) (by rfl) ?_
  simp (disch := omega) only [wt, seval, reduceCtorEq, Nat.reduceEqDiff, h5, h6]
  try rfl
end Go.Proofs.YtdokaihemcnkmaaGreat

namespace Go.Proofs.YtdokaihemcnkmaaGreat
open Go Go.Proofs Go.AL
set_option linter.unusedSimpArgs false
set_option linter.unusedVariables false
def rsk (A : List Int) (i : Nat) : Int := upz (rto (cf A (A.length - 1 - i)).natAbs (cf A (A.length - 1)).natAbs) i + 1
def rst (A : List Int) : Nat → Int × Bool
 | 0 => (0, false)
 | i + 1 => if cf A (A.length - 1 - (i + 1)) = 0 then rst A i else if (rst A i).2 = false ∨ (rst A i).1 < rsk A (i + 1) then (rsk A (i + 1), true) else rst A i
theorem rst_le (A : List Int) : ∀ i m, 0 < m → m ≤ i → cf A (A.length - 1 - m) ≠ 0 → (rst A i).2 = true ∧ rsk A m ≤ (rst A i).1
 | 0, m, h1, h2, _ => by omega
 | i + 1, m, h1, h2, h3 => by
  rw [rst]
  by_cases hm : m = i + 1
  ·subst hm
   rw [if_neg h3]
   split
   ·exact ⟨rfl, Int.le_refl _⟩
   ·rename_i h
    have h4 : (rst A i).2 ≠ false := fun e => h (.inl e)
    exact ⟨by simpa using h4, Int.not_lt.mp fun e => h (.inr e)⟩
  ·have ih := rst_le A i m h1 (by omega) h3
   split
   ·exact ih
   ·split
    ·rename_i h
     refine ⟨rfl, ?_⟩
     rcases h with h | h
     ·rw [ih.1] at h; exact absurd h (by decide)
     ·show rsk A m ≤ rsk A (i + 1); omega
    ·exact ih
theorem beyond1_ok (c d : RI) : AC Tryz.prog 253 [cr c, cr d] none [cb true] := by
 refine AC.by_walk (rs := [.tmp 4]) ords Tryz.func253 (by rfl) (by rfl) (by rfl) (by rfl) (by rfl) ?_
 simp (disch := omega) only [wt, seval, reduceCtorEq, Nat.reduceEqDiff, cpoly_len]
 try rfl
theorem bl_zl {A : Nat} {k : Nat} (h : zl (A : Int) ≤ k) : bl A ≤ 64 * k := by
 rw [bl_le]
 have h1 := zl_le.mp h
 rw [Int.natAbs_natCast, pow64] at h1
 exact h1
theorem rsk_bd {A : List Int} {i : Nat} (hi : 0 < i) (hz : ∀ k, zl (cf A k) ≤ 1000) : -64003 ≤ rsk A i ∧ rsk A i ≤ 64003 := by
 have h1 := bl_zl (A := (cf A (A.length - 1 - i)).natAbs) (k := 1000) (hz _)
 have h2 := bl_zl (A := (cf A (A.length - 1)).natAbs) (k := 1000) (hz _)
 have h3 := rto_bd (cf A (A.length - 1 - i)).natAbs (cf A (A.length - 1)).natAbs
 have h4 := upz_bd (k := rto (cf A (A.length - 1 - i)).natAbs (cf A (A.length - 1)).natAbs) (i := i) (by omega) (K := 64001) (by omega) (by omega)
 unfold rsk
 omega
theorem rst_bd {A : List Int} (hz : ∀ k, zl (cf A k) ≤ 1000) : ∀ i, -64003 ≤ (rst A i).1 ∧ (rst A i).1 ≤ 64003
 | 0 => by rw [rst]; decide
 | i + 1 => by
  have ih := rst_bd hz i
  have := rsk_bd (i := i + 1) (by omega) hz
  rw [rst]
  split
  ·exact ih
  ·split
   ·exact this
   ·exact ih
set_option maxRecDepth 100000 in
theorem rule_ok (A : List Int) (hl : A.length ≤ 1000) (h0 : A.length ≠ 0) (hA : cf A (A.length - 1) ≠ 0) (hz : ∀ k, zl (cf A k) ≤ 1000) : AC Tryz.prog 252 [cw (A.map canon), .fn 253 []] none [ci (rst A (A.length - 1)).1, cb (rst A (A.length - 1)).2] := by
 have hln : (A.map canon).length = A.length := List.length_map _
 have hgt : ∀ i, i < A.length → (A.map canon).getD i (false, []) = canon (cf A i) := fun i hi => by simp [List.getD, hi, cf]
 have en : (A.length : Int) - 1 = ((A.length - 1 : Nat) : Int) := by omega
 refine AC.by_walk (rs := [.tmp 4, .tmp 5]) ords Tryz.func252 (by rfl) (by rfl) (by rfl) (by rfl) (by rfl) ?_
 simp (disch := omega) only [wt, seval, reduceCtorEq, Nat.reduceEqDiff, cpoly_len, hln, en]
 refine aloop_by (fun f H => ∃ (i : Nat), i ≤ A.length - 1 ∧ f 9 = .iv (.int .i64 ((i : Int) + 1)) ∧ f 6 = .iv (.int .i64 ((A.length - 1 : Nat) : Int)) ∧ f 0 = .iv (.sl (raws (A.map canon))) ∧ f 1 = .fn 253 [] ∧ f 7 = .iv (.int .i64 (rst A i).1) ∧ f 8 = .iv (.bool (rst A i).2)) (fun f H => (A.length - intAt f 9).toNat) ?_ ?_
 ·refine ⟨0, by omega, ?_⟩
  simp (disch := omega) only [wt, seval, reduceCtorEq, Nat.reduceEqDiff, cpoly_len, show rst A 0 = (0, false) from rfl, hln, en]
 rintro f H ⟨i, hi, hF⟩
 rw [intAt_of hF.1]
 simp (disch := omega) only [wt, seval, reduceCtorEq, Nat.reduceEqDiff, cpoly_len, hF]
 have sb := rst_bd hz i
 refine if_by (fun hlt => ?_) (fun hlt => ?_)
 ·have hlt' : i < A.length - 1 := by omega
  have e1 : ((A.length - 1 : Nat) : Int) - ((i : Int) + 1) = ((A.length - 1 - (i + 1) : Nat) : Int) := by omega
  have g1 := hgt (A.length - 1 - (i + 1)) (by omega)
  have g2 := hgt (A.length - 1) (by omega)
  have kb := rsk_bd (A := A) (i := i + 1) (by omega) hz
  have z := zsign_ok (canon (cf A (A.length - 1 - (i + 1)))) ((sz_canon _).mono (by have := hz (A.length - 1 - (i + 1)); omega))
  rw [iv_canon] at z
  by_cases hc : cf A (A.length - 1 - (i + 1)) = 0
  ·have er : rst A (i + 1) = rst A i := by rw [rst, if_pos hc]
   have hs0 : (cf A (A.length - 1 - (i + 1))).sign = 0 := by rw [hc]; rfl
   rw [hs0] at z
   simp (disch := omega) only [wt, seval, reduceCtorEq, Nat.reduceEqDiff, cpoly_len, hF, hln, e1, g1, g2]
   refine .inl ⟨tmps_by (by kernel_rfl), ?_⟩
   refine call_by (z) (by first | rfl | (simp only [tocvs, tocv, toboxes, tobox, updH_at, Nat.reduceEqDiff, ↓reduceIte, hF, hln, e1, g1, g2]; rfl)) (by simp) ?_
   simp (disch := omega) only [wt, seval, reduceCtorEq, Nat.reduceEqDiff, cpoly_len, hF, hln, e1, g1, g2]
   first | exact log_by (by kernel_rfl) | refine ⟨log_by (by kernel_rfl), ?_⟩
   refine ⟨⟨i + 1, by omega, ?_⟩, by omega⟩
   rw [er]
   (repeat' apply And.intro) <;> first | rfl | omega
  ·have hs : ¬ (cf A (A.length - 1 - (i + 1))).sign = 0 := fun h => hc (Int.sign_eq_zero_iff_zero.mp h)
   have b1 := beyond1_ok (canon (cf A (A.length - 1 - (i + 1)))) (canon (cf A (A.length - 1)))
   have a1 := zabs_ok (canon (cf A (A.length - 1 - (i + 1)))) ((sz_canon _).mono (by have := hz (A.length - 1 - (i + 1)); omega))
   have a2 := zabs_ok (canon (cf A (A.length - 1))) ((sz_canon _).mono (by have := hz (A.length - 1); omega))
   rw [iv_canon] at a1 a2
   have q1 := hz (A.length - 1 - (i + 1))
   have q2 := hz (A.length - 1)
   have w1 : (wd (cf A (A.length - 1 - (i + 1))).natAbs).length = zl (cf A (A.length - 1 - (i + 1))) := rfl
   have w2 : (wd (cf A (A.length - 1)).natAbs).length = zl (cf A (A.length - 1)) := rfl
   have h1 := bl_zl (A := (cf A (A.length - 1 - (i + 1))).natAbs) (k := 1000) q1
   have h2 := bl_zl (A := (cf A (A.length - 1)).natAbs) (k := 1000) q2
   have ra := ratio_ok (cf A (A.length - 1 - (i + 1))).natAbs (cf A (A.length - 1)).natAbs (by omega) (by omega) (by omega) (by omega)
   have h3 := rto_bd (cf A (A.length - 1 - (i + 1))).natAbs (cf A (A.length - 1)).natAbs
   have u := up_ok (rto (cf A (A.length - 1 - (i + 1))).natAbs (cf A (A.length - 1)).natAbs) ((i : Int) + 1) (by omega) (by omega) (by omega) (by omega)
   have ek : upz (rto (cf A (A.length - 1 - (i + 1))).natAbs (cf A (A.length - 1)).natAbs) ((i : Int) + 1) + 1 = rsk A (i + 1) := by unfold rsk; rfl
   generalize hk : rsk A (i + 1) = k at *
   have er : rst A (i + 1) = if (rst A i).2 = false ∨ (rst A i).1 < k then (k, true) else rst A i := by rw [rst, if_neg hc, hk]
   generalize rst A i = st at *
   obtain ⟨e, any⟩ := st
   simp (disch := omega) only [wt, seval, reduceCtorEq, Nat.reduceEqDiff, cpoly_len, hF, hln, e1, g1, g2]
   refine .inl ⟨tmps_by (by kernel_rfl), ?_⟩
   refine call_by (z) (by first | rfl | (simp only [tocvs, tocv, toboxes, tobox, updH_at, Nat.reduceEqDiff, ↓reduceIte, hF, hln, e1, g1, g2, hs]; rfl)) (by simp) ?_
   simp (disch := omega) only [wt, seval, reduceCtorEq, Nat.reduceEqDiff, cpoly_len, hF, hln, e1, g1, g2, hs]
   refine call_by (b1) (by first | rfl | (simp only [tocvs, tocv, toboxes, tobox, updH_at, Nat.reduceEqDiff, ↓reduceIte, hF, hln, e1, g1, g2, hs]; rfl)) (by simp) ?_
   simp (disch := omega) only [wt, seval, reduceCtorEq, Nat.reduceEqDiff, cpoly_len, hF, hln, e1, g1, g2, hs]
   first | exact log_by (by kernel_rfl) | refine ⟨log_by (by kernel_rfl), ?_⟩
   refine .inl ⟨tmps_by (by kernel_rfl), ?_⟩
   refine call_by (a1) (by first | rfl | (simp only [tocvs, tocv, toboxes, tobox, updH_at, Nat.reduceEqDiff, ↓reduceIte, hF, hln, e1, g1, g2, hs]; rfl)) (by simp) ?_
   simp (disch := omega) only [wt, seval, reduceCtorEq, Nat.reduceEqDiff, cpoly_len, hF, hln, e1, g1, g2, hs]
   refine call_by (a2) (by first | rfl | (simp only [tocvs, tocv, toboxes, tobox, updH_at, Nat.reduceEqDiff, ↓reduceIte, hF, hln, e1, g1, g2, hs]; rfl)) (by simp) ?_
   simp (disch := omega) only [wt, seval, reduceCtorEq, Nat.reduceEqDiff, cpoly_len, hF, hln, e1, g1, g2, hs]
   refine call_by (ra) (by first | rfl | (simp only [tocvs, tocv, toboxes, tobox, updH_at, Nat.reduceEqDiff, ↓reduceIte, hF, hln, e1, g1, g2, hs]; rfl)) (by simp) ?_
   simp (disch := omega) only [wt, seval, reduceCtorEq, Nat.reduceEqDiff, cpoly_len, hF, hln, e1, g1, g2, hs]
   refine call_by (u) (by first | rfl | (simp only [tocvs, tocv, toboxes, tobox, updH_at, Nat.reduceEqDiff, ↓reduceIte, hF, hln, e1, g1, g2, hs]; rfl)) (by simp) ?_
   simp (disch := omega) only [wt, seval, reduceCtorEq, Nat.reduceEqDiff, cpoly_len, hF, hln, e1, g1, g2, hs]
   first | exact log_by (by kernel_rfl) | refine ⟨log_by (by kernel_rfl), ?_⟩
   cases any with
   | false =>
    simp (disch := omega) only [wt, seval, reduceCtorEq, Nat.reduceEqDiff, cpoly_len, hF, ek]
    refine ⟨⟨i + 1, by omega, ?_⟩, by omega⟩
    rw [er, if_pos (.inl rfl)]
    (repeat' apply And.intro) <;> first | rfl | omega
   | true =>
    by_cases hlt2 : e < k
    ·simp (disch := omega) only [wt, seval, reduceCtorEq, Nat.reduceEqDiff, cpoly_len, hF, ek, hlt2]
     refine ⟨⟨i + 1, by omega, ?_⟩, by omega⟩
     rw [er, if_pos (.inr hlt2)]
     (repeat' apply And.intro) <;> first | rfl | omega
    ·simp (disch := omega) only [wt, seval, reduceCtorEq, Nat.reduceEqDiff, cpoly_len, hF, ek, hlt2]
     refine ⟨⟨i + 1, by omega, ?_⟩, by omega⟩
     rw [er, if_neg (by simp; omega)]
     (repeat' apply And.intro) <;> first | rfl | omega
 ·obtain rfl : i = A.length - 1 := by omega
  simp (disch := omega) only [wt, seval, reduceCtorEq, Nat.reduceEqDiff, cpoly_len, hF]
  try rfl
end Go.Proofs.YtdokaihemcnkmaaGreat

namespace Go.Proofs.YtdokaihemcnkmaaGreat
open Go Go.Proofs Go.AL
set_option linter.unusedSimpArgs false
set_option linter.unusedVariables false
theorem sgm_pow (c : RI) (n : Nat) : sg c.1 (nv c.2 * 2 ^ n) = iv c * 2 ^ n := by
 rw [iv_sg]
 unfold sg
 split
 ·rw [Int.neg_mul]; push_cast; rfl
 ·push_cast; rfl
theorem zshl2_ok (a : RI) (n : Nat) (ha : Sz (2 ^ 39) a) (hn : n ≤ 1048576) : AC Tryz.prog 285 [cr a, ci n] none [cz (iv a * 2 ^ n), ci 0] := by
 refine AC.by_walk (rs := [.cell 4 27, .tmp 5]) ords Tryz.func285 (by rfl) (by rfl) (by rfl) (by rfl) (by rfl) ?_
 have h1 : ¬ (n : Int) < 0 := by omega
 have h2 : ¬ 1048576 < (n : Int) := by omega
 simp (disch := omega) only [wt, seval, reduceCtorEq, Nat.reduceEqDiff, cpoly_len, h1, h2]
 refine call_by ((nshl_ok a.2 n ha.2 ha.1 hn)) (by first | rfl | (simp only [tocvs, tocv, toboxes, tobox, updH_at, Nat.reduceEqDiff, ↓reduceIte, h1, h2]; rfl)) (by simp) ?_
 simp (disch := omega) only [wt, seval, reduceCtorEq, Nat.reduceEqDiff, cpoly_len, h1, h2]
 have := zof_ok a.1 (nv a.2 * 2 ^ n)
 rw [sgm_pow] at this
 refine call_by (this) (by first | rfl | (simp only [tocvs, tocv, toboxes, tobox, updH_at, Nat.reduceEqDiff, ↓reduceIte, h1, h2]; rfl)) (by simp) ?_
 simp (disch := omega) only [wt, seval, reduceCtorEq, Nat.reduceEqDiff, cpoly_len, h1, h2]
theorem wd1_len : (wd 1).length ≤ 1 := by
 show zl ((1 : Nat) : Int) ≤ 1
 exact zl_le.mpr (by decide)
theorem two_ok (n : Nat) (hn : n ≤ 1000000) : AC Tryz.prog 284 [ci n] none [cl (wd (2 ^ n))] := by
 have a := nof_ok 1 (by decide)
 have s := nshl_ok (wd 1) n (lim_wd 1) (Nat.le_trans wd1_len (by decide)) (by omega)
 rw [nv_wd, Nat.one_mul] at s
 refine AC.by_walk (rs := [.tmp 2]) ords Tryz.func284 (by rfl) (by rfl) (by rfl) (by rfl) (by rfl) ?_
 simp (disch := omega) only [wt, seval, reduceCtorEq, Nat.reduceEqDiff, cpoly_len]
 refine call_by (a) (by rfl) (by simp) ?_
 simp (disch := omega) only [wt, seval, reduceCtorEq, Nat.reduceEqDiff, cpoly_len]
 refine call_by (s) (by rfl) (by simp) ?_
 simp (disch := omega) only [wt, seval, reduceCtorEq, Nat.reduceEqDiff, cpoly_len]
 try rfl
theorem wd_pow_len {n : Nat} (hn : n ≤ 1000000) : (wd (2 ^ n)).length ≤ 1000001 := by
 have h4 : zl ((2 ^ n : Nat) : Int) ≤ n + 1 := zl_le.mpr (by
  rw [Int.natAbs_natCast, pow64]
  exact Nat.pow_lt_pow_right (by omega) (by omega))
 have h3 : zl ((2 ^ n : Nat) : Int) = (wd (2 ^ n)).length := rfl
 omega
theorem p2_mk_neg (n : Nat) (h : 0 < n) : mkRat 1 (2 ^ n) = p2 (-(n : Int)) := by
 rw [Rat.mkRat_eq_div]
 unfold p2
 rw [if_neg (by omega), show (- -(n : Int)).toNat = n by omega, Rat.div_def, show ((1 : Int) : Rat) = 1 from rfl, Rat.one_mul]
theorem p2_mk_pos (n : Nat) : mkRat (1 * 2 ^ n) 1 = p2 n := by
 rw [Rat.mkRat_eq_div, p2_nat, Int.one_mul]
 have : ((2 ^ n : Int) : Rat) = ((2 ^ n : Nat) : Rat) := by push_cast; rfl
 rw [this, Rat.div_def]
 have : ((1 : Nat) : Rat)⁻¹ = 1 := by decide +kernel
 rw [this, Rat.mul_one]
theorem dyadic_ok (a : RI) (e : Int) (ha : Sz (2 ^ 10) a) (h1 : iv a = 1) (hl : -1000000 ≤ e) (hh : e ≤ 1000000) : AC Tryz.prog 256 [cr a, ci e] none [cqz (p2 e), ci 0] := by
 have n1 : ¬ e < -1048576 := by omega
 have n2 : ¬ 1048576 < e := by omega
 by_cases he : e < 0
 ·obtain ⟨n, hn⟩ : ∃ n : Nat, (n : Int) = 0 - e := ⟨(-e).toNat, by omega⟩
  have hn' : n ≤ 1000000 := by omega
  have t := two_ok n hn'
  have r := qred_ok a (wd (2 ^ n)) (ha.mono (by omega)) ⟨by have := wd_pow_len hn'; omega, lim_wd _⟩ (by rw [nv_wd]; exact Nat.ne_of_gt (Nat.pow_pos (by omega)))
  rw [h1, nv_wd, p2_mk_neg n (by omega), show -(n : Int) = e by omega] at r
  rw [hn] at t
  refine AC.by_walk (rs := [.cell 4 58, .tmp 5]) ords Tryz.func256 (by rfl) (by rfl) (by rfl) (by rfl) (by rfl) ?_
  simp (disch := omega) only [wt, seval, reduceCtorEq, Nat.reduceEqDiff, cpoly_len, n1, n2, he]
  refine .inl ⟨tmps_by (by kernel_rfl), ?_⟩
  refine call_by (t) (by first | rfl | (simp only [tocvs, tocv, toboxes, tobox, updH_at, Nat.reduceEqDiff, ↓reduceIte, n1, n2, he]; rfl)) (by simp) ?_
  simp (disch := omega) only [wt, seval, reduceCtorEq, Nat.reduceEqDiff, cpoly_len, n1, n2, he]
  refine call_by (r) (by first | rfl | (simp only [tocvs, tocv, toboxes, tobox, updH_at, Nat.reduceEqDiff, ↓reduceIte, n1, n2, he]; rfl)) (by simp) ?_
  simp (disch := omega) only [wt, seval, reduceCtorEq, Nat.reduceEqDiff, cpoly_len, n1, n2, he]
  first | exact log_by (by kernel_rfl) | refine ⟨log_by (by kernel_rfl), ?_⟩
  try rfl
 ·obtain ⟨n, rfl⟩ : ∃ n : Nat, e = n := ⟨e.toNat, by omega⟩
  have hn' : n ≤ 1000000 := by omega
  have s := zshl2_ok a n (ha.mono (by omega)) (by omega)
  rw [h1] at s
  have o := nof_ok 1 (by decide)
  have hz : zl (1 * 2 ^ n) ≤ 1000001 := by
   have := wd_pow_len hn'
   have e : zl (1 * 2 ^ n) = (wd (2 ^ n)).length := by rw [Int.one_mul]; unfold zl; rw [Int.natAbs_pow]; rfl
   omega
  have r := qred_ok (canon (1 * 2 ^ n)) (wd 1) ((sz_canon _).mono (by omega)) ⟨Nat.le_trans wd1_len (by decide), lim_wd 1⟩ (by rw [nv_wd]; decide)
  rw [iv_canon, nv_wd, p2_mk_pos] at r
  refine AC.by_walk (rs := [.cell 4 58, .tmp 5]) ords Tryz.func256 (by rfl) (by rfl) (by rfl) (by rfl) (by rfl) ?_
  simp (disch := omega) only [wt, seval, reduceCtorEq, Nat.reduceEqDiff, cpoly_len, n1, n2, he]
  refine call_by (s) (by first | rfl | (simp only [tocvs, tocv, toboxes, tobox, updH_at, Nat.reduceEqDiff, ↓reduceIte, n1, n2, he]; rfl)) (by simp) ?_
  simp (disch := omega) only [wt, seval, reduceCtorEq, Nat.reduceEqDiff, cpoly_len, n1, n2, he]
  refine .inl ⟨tmps_by (by kernel_rfl), ?_⟩
  refine call_by (o) (by first | rfl | (simp only [tocvs, tocv, toboxes, tobox, updH_at, Nat.reduceEqDiff, ↓reduceIte, n1, n2, he]; rfl)) (by simp) ?_
  simp (disch := omega) only [wt, seval, reduceCtorEq, Nat.reduceEqDiff, cpoly_len, n1, n2, he]
  refine call_by (r) (by first | rfl | (simp only [tocvs, tocv, toboxes, tobox, updH_at, Nat.reduceEqDiff, ↓reduceIte, n1, n2, he]; rfl)) (by simp) ?_
  simp (disch := omega) only [wt, seval, reduceCtorEq, Nat.reduceEqDiff, cpoly_len, n1, n2, he]
  first | exact log_by (by kernel_rfl) | refine ⟨log_by (by kernel_rfl), ?_⟩
  try rfl
theorem beyondb_ok (p : List RI) (hp : RP 40 1000 p) (h0 : tz (pv p) ≠ 0) : AC Tryz.prog 189 [cw p] none [ci (rst (trimz (pv p)) ((trimz (pv p)).length - 1)).1, ci 0] := by
 have nm := pnorm_ok p (hp.mono (by omega) (by omega))
 have hl := trimz_len (pv p)
 have t := tz_rp hp
 have hA : cf (trimz (pv p)) ((trimz (pv p)).length - 1) ≠ 0 := by rw [cf_trimz, hl]; exact cf_tz_pred h0
 have r := rule_ok (trimz (pv p)) (by omega) (by omega) hA (fun k => by rw [cf_trimz]; exact sb_rp hp k)
 have hln : ((trimz (pv p)).map canon).length = (trimz (pv p)).length := List.length_map _
 have n0 : ¬ ((trimz (pv p)).length : Int) = 0 := by omega
 have ecp : cp (pv p) = cw ((trimz (pv p)).map canon) := rfl
 rw [ecp] at nm
 generalize (rst (trimz (pv p)) ((trimz (pv p)).length - 1)).2 = b at *
 generalize (rst (trimz (pv p)) ((trimz (pv p)).length - 1)).1 = e at *
 refine AC.by_walk (rs := [.tmp 2, .tmp 3]) ords Tryz.func189 (by rfl) (by rfl) (by rfl) (by rfl) (by rfl) ?_
 simp (disch := omega) only [wt, seval, reduceCtorEq, Nat.reduceEqDiff, cpoly_len]
 refine call_by (nm) (by first | rfl | (simp only [tocvs, tocv, toboxes, tobox, updH_at, Nat.reduceEqDiff, ↓reduceIte, hln, n0]; rfl)) (by simp) ?_
 simp (disch := omega) only [wt, seval, reduceCtorEq, Nat.reduceEqDiff, cpoly_len, hln, n0]
 refine call_by (r) (by first | rfl | (simp only [tocvs, tocv, toboxes, tobox, updH_at, Nat.reduceEqDiff, ↓reduceIte, hln, n0]; rfl)) (by simp) ?_
 simp (disch := omega) only [wt, seval, reduceCtorEq, Nat.reduceEqDiff, cpoly_len, hln, n0]
 try rfl
theorem beyond_root {A : List Int} (h0 : A.length ≠ 0) (hA : cf A (A.length - 1) ≠ 0) {x : Rat} (hx : er A x = 0) : ¬ Big (p2 (rst A (A.length - 1)).1) x := by
 intro hb
 generalize hE : (rst A (A.length - 1)).1 = e at *
 have hR := p2_pos (e - 1)
 have e2 : p2 e = 2 * p2 (e - 1) := by rw [show e = 1 + (e - 1) by omega, p2_add, show 1 + (e - 1) - 1 = e - 1 by omega]; rfl
 rw [e2] at hb
 have hL : (0 : Rat) < ((cf A (A.length - 1)).natAbs : Rat) := by
  have : 0 < (cf A (A.length - 1)).natAbs := by omega
  exact_mod_cast this
 have absb : ∀ c : Int, -((c.natAbs : Nat) : Rat) ≤ (c : Rat) ∧ (c : Rat) ≤ ((c.natAbs : Nat) : Rat) ∧ ((c : Rat) = ((c.natAbs : Nat) : Rat) ∨ (c : Rat) = -((c.natAbs : Nat) : Rat)) := fun c => by
  have h0 : (0 : Rat) ≤ ((c.natAbs : Nat) : Rat) := Rat.natCast_nonneg
  rcases Int.natAbs_eq c with h | h
  ·have : (c : Rat) = ((c.natAbs : Nat) : Rat) := by
    have := congrArg (fun z : Int => (z : Rat)) h
    simpa [Rat.intCast_natCast] using this
   refine ⟨by grind, by grind, .inl this⟩
  ·have : (c : Rat) = -((c.natAbs : Nat) : Rat) := by
    have := congrArg (fun z : Int => (z : Rat)) h
    simpa [Rat.intCast_natCast, Rat.intCast_neg] using this
   refine ⟨by grind, by grind, .inr this⟩
 have big := rule_big (L := ((cf A (A.length - 1)).natAbs : Rat)) (R := p2 (e - 1)) hL hR hb A (fun h => h0 (by rw [h]; rfl)) (by
  rcases (absb (cf A (A.length - 1))).2.2 with h | h
  ·left; rw [h]; exact Rat.le_refl
  ·right; rw [h]; exact Rat.le_refl) fun j hj => by
   by_cases hc : cf A j = 0
   ·left
    intro hB
    have hp := Rat.mul_pos hL (Rat.pow_pos (n := A.length - 1 - j) hR)
    rw [hc] at hB
    have z : ((0 : Int) : Rat) = 0 := rfl
    rw [z] at hB
    rcases hB with h | h <;> grind
   ·have hm : A.length - 1 - (A.length - 1 - j) = j := by omega
    have r1 := (rst_le A (A.length - 1) (A.length - 1 - j) (by omega) (by omega) (by rw [hm]; exact hc)).2
    rw [hE, rsk, hm] at r1
    have r2 := rto_le (A := (cf A j).natAbs) (B := (cf A (A.length - 1)).natAbs) (by omega)
    have r3 := upz_le (k := rto (cf A j).natAbs (cf A (A.length - 1)).natAbs) (i := ((A.length - 1 - j : Nat) : Int)) (by omega)
    have r4 : p2 (rto (cf A j).natAbs (cf A (A.length - 1)).natAbs) ≤ p2 (e - 1) ^ (A.length - 1 - j) := by
     rw [p2_pow]
     refine Rat.le_trans (p2_le r3) (p2_le ?_)
     rw [Int.mul_comm]
     exact Int.mul_le_mul_of_nonneg_right (by omega) (by omega)
    have r5 : ((cf A j).natAbs : Rat) ≤ ((cf A (A.length - 1)).natAbs : Rat) * p2 (e - 1) ^ (A.length - 1 - j) := by
     have := Rat.mul_nonneg (Rat.le_of_lt hL) (show 0 ≤ p2 (e - 1) ^ (A.length - 1 - j) - p2 (rto (cf A j).natAbs (cf A (A.length - 1)).natAbs) by grind)
     grind
    have b := absb (cf A j)
    generalize ((cf A (A.length - 1)).natAbs : Rat) * p2 (e - 1) ^ (A.length - 1 - j) = T at *
    by_cases h1 : (cf A j : Rat) = T
    ·exact .inr (.inl h1)
    ·by_cases h2 : (cf A j : Rat) = -T
     ·exact .inr (.inr h2)
     ·left
      intro hB
      rcases hB with h | h <;> grind
 rw [hx] at big
 have hp := Rat.mul_pos hL (Rat.pow_pos (n := A.length - 1) hR)
 rcases big with h | h <;> grind
end Go.Proofs.YtdokaihemcnkmaaGreat

namespace Go.Proofs.YtdokaihemcnkmaaGreat
open Go Go.Proofs Go.AL
set_option linter.unusedSimpArgs false
set_option linter.unusedVariables false
theorem apart_ok (p : List RI) {D0 : List Int} {n S : Nat} {rs : List Rat} (h : Kw p D0 n S rs) : ∃ d : Int, 0 ≤ d ∧ d ≤ 1000000 ∧ AC Tryz.prog 190 [cw p] none [ci d, ci 0] ∧ (2 ≤ rs.length → ∀ x ∈ rs, ∀ y ∈ rs, y < x → p2 (-d) < x - y) := by
 have hs := h.s40
 have t30 := h.kn.t
 have h0 := h.kn.ne
 have dg := pdeg_n (a := p) (q := pv p) (h.rp.mono (by omega) (by omega)) rfl
 have fr := free_ok p rfl h.rp h.kn
 obtain ⟨f0, f1, f2, f3⟩ := frd_tz h.kn.com h0
 have fs := frd_sz h.kn.com h0 t30 (by omega) h.kn.s
 have fz := frd_zero h.root h0
 have n10 := h.n10
 have n1 : ¬ (tz (pv p) : Int) - 1 < 0 := by omega
 have rF : RP 40 1000 (cn (frd (pv p))) := rp_sb (by omega) (fs.mono (by omega))
 have d2 := pdeg_n (a := cn (frd (pv p))) (q := frd (pv p)) (rF.mono (by omega) (by omega)) (ps_cn _)
 have w := pweight_ok (cn (frd (pv p))) (rF.mono (by omega) (by omega))
 have ez : ∀ r ∈ rs, er (pv (cn (frd (pv p)))) r = 0 := fun r hr => by rw [er_of_ps (ps_cn _)]; exact fz r hr
 have tzc : tz (pv (cn (frd (pv p)))) = tz (frd (pv p)) := tz_of_ps (ps_cn _)
 have wl : zl ((wgt (pv (cn (frd (pv p)))) : Nat) : Int) ≤ 1040 := by
  have h1 := wgt_len rF (cn (frd (pv p))).length (Nat.le_refl _)
  rw [List.take_of_length_le (by rw [pv_len]; exact Nat.le_refl _)] at h1
  have := rF.1
  have h2 : zl ((wgt (pv (cn (frd (pv p)))) : Nat) : Int) = (wd (wgt (pv (cn (frd (pv p)))))).length := by unfold zl; rw [Int.natAbs_natCast]
  rw [h2]; omega
 have wbl := bl_zl (A := wgt (pv (cn (frd (pv p))))) (k := 1040) wl
 have wb := nbits_ok (wd (wgt (pv (cn (frd (pv p)))))) (lim_wd _) (by
  have : (wd (wgt (pv (cn (frd (pv p)))))).length = zl ((wgt (pv (cn (frd (pv p)))) : Nat) : Int) := by unfold zl; rw [Int.natAbs_natCast]
  omega)
 rw [nv_wd] at wb
 by_cases hm : (tz (frd (pv p)) : Int) - 1 < 2
 ·refine ⟨0, by omega, by omega, ?_, fun hr x hx y hy hlt => ?_⟩
  ·refine AC.by_walk (rs := [.tmp 2, .tmp 3]) ords Tryz.func190 (by rfl) (by rfl) (by rfl) (by rfl) (by rfl) ?_
   simp (disch := omega) only [wt, seval, reduceCtorEq, Nat.reduceEqDiff, cpoly_len]
   refine call_by (dg) (by first | rfl | (simp only [tocvs, tocv, toboxes, tobox, updH_at, Nat.reduceEqDiff, ↓reduceIte, n1]; rfl)) (by simp) ?_
   simp (disch := omega) only [wt, seval, reduceCtorEq, Nat.reduceEqDiff, cpoly_len, n1]
   refine call_by (fr) (by rfl) (by simp) ?_
   simp (disch := omega) only [wt, seval, reduceCtorEq, Nat.reduceEqDiff, cpoly_len]
   refine call_by (d2) (by first | rfl | (simp only [tocvs, tocv, toboxes, tobox, updH_at, Nat.reduceEqDiff, ↓reduceIte, hm]; rfl)) (by simp) ?_
   simp (disch := omega) only [wt, seval, reduceCtorEq, Nat.reduceEqDiff, cpoly_len, hm]
   try rfl
  ·exfalso
   have a1 := lnq_dvd (ez x hx)
   obtain ⟨s, e⟩ := a1
   have hxd : (x.den : Rat) ≠ 0 := by have := x.den_nz; exact_mod_cast this
   have hsy : er s y = 0 := by
    have h1 := er_mul (p := pv (cn (frd (pv p)))) e.symm y
    rw [ez y hy, er_lnq] at h1
    have h2 : (x.den : Rat) * (y - x) ≠ 0 := by
     have hp : (0 : Rat) < (x.den : Rat) := by have := x.den_pos; exact_mod_cast this
     have := Rat.mul_pos hp (show 0 < x - y by grind)
     grind
    exact cancel_l h2 (by grind)
   obtain ⟨s2, e2⟩ := lnq_dvd hsy
   have tx := tz_lnq x
   have ty := tz_lnq y
   have F0 : tz (pv (cn (frd (pv p)))) ≠ 0 := by rw [tzc]; exact f0
   have s0 : tz s ≠ 0 := fun h => F0 (by rw [tz_of_ps (q := pmul s (lnq x)) (by rw [ps_pmul, e])]; exact tz_pmul_zero (.inl h))
   have s20 : tz s2 ≠ 0 := fun h => s0 (by rw [tz_of_ps (q := pmul s2 (lnq y)) (by rw [ps_pmul, e2])]; exact tz_pmul_zero (.inl h))
   have q1 : tz (pv (cn (frd (pv p)))) = tz s + tz (lnq x) - 1 := by rw [tz_of_ps (q := pmul s (lnq x)) (by rw [ps_pmul, e])]; exact tz_pmul s0 (by omega)
   have q2 : tz s = tz s2 + tz (lnq y) - 1 := by rw [tz_of_ps (q := pmul s2 (lnq y)) (by rw [ps_pmul, e2])]; exact tz_pmul s20 (by omega)
   omega
 ·obtain ⟨m, hmm⟩ : ∃ m : Nat, tz (frd (pv p)) = m + 1 := ⟨tz (frd (pv p)) - 1, by omega⟩
  have em : (tz (frd (pv p)) : Int) - 1 = (m : Int) := by omega
  rw [em] at d2 hm
  have hw : IntKind.u64.wrap (m : Int) = (m : Int) := wrap_nat (by simp only [W]; omega)
  have o := nof_ok m (by simp only [W]; omega)
  have ob := nbits_ok (wd m) (lim_wd _) (by
   have h1 : zl (m : Int) ≤ 1 := zl_le.mpr (by rw [Nat.pow_one, Int.natAbs_natCast]; simp only [W]; omega)
   have : (wd m).length = zl (m : Int) := rfl
   omega)
  rw [nv_wd] at ob
  have mb : bl m ≤ 64 := by
   have h1 : zl (m : Int) ≤ 1 := zl_le.mpr (by rw [Nat.pow_one, Int.natAbs_natCast]; simp only [W]; omega)
   exact bl_zl h1
  have g1 : ((m : Int) + 2) * (bl m : Int) ≤ 13 * 64 := by
   have := Int.mul_le_mul (a := (m : Int) + 2) (b := (bl m : Int)) (c := 13) (d := 64) (by omega) (by omega) (by omega) (by omega)
   exact this
  have g0 : 0 ≤ ((m : Int) + 2) * (bl m : Int) := Int.mul_nonneg (by omega) (by omega)
  have k1 : ((m : Int) - 1) * (bl (wgt (pv (cn (frd (pv p))))) : Int) ≤ 10 * 66560 := by
   have := Int.mul_le_mul (a := (m : Int) - 1) (b := (bl (wgt (pv (cn (frd (pv p))))) : Int)) (c := 10) (d := 66560) (by omega) (by omega) (by omega) (by omega)
   exact this
  have k0 : (bl (wgt (pv (cn (frd (pv p))))) : Int) ≤ ((m : Int) - 1) * (bl (wgt (pv (cn (frd (pv p))))) : Int) := by
   have := Int.mul_le_mul_of_nonneg_right (a := 1) (b := (m : Int) - 1) (c := (bl (wgt (pv (cn (frd (pv p))))) : Int)) (by omega) (by omega)
   omega
  have u := up_ok (((m : Int) + 2) * (bl m : Int)) 2 (by omega) (by omega) (by omega) (by omega)
  have u0 := upz_le (k := ((m : Int) + 2) * (bl m : Int)) (i := 2) (by omega)
  have u1 := upz_bd (k := ((m : Int) + 2) * (bl m : Int)) (i := 2) (by omega) (K := 1000) (by omega) (by omega)
  have key : ∀ x ∈ rs, ∀ y ∈ rs, y < x → ∀ d : Int, (bl (wgt (pv (cn (frd (pv p))))) : Int) ≤ d → p2 (-d) < x - y := fun x hx y hy hlt d hd => by
   have := apart_roots (d := d.toNat) (by rw [tzc]; exact f0) (ez x hx) (ez y hy) hlt (by omega)
   rwa [show ((d.toNat : Nat) : Int) = d by omega] at this
  have wsm : wgt (pv (cn (frd (pv p)))) = wgt (pv (cn (frd (pv p)))) := rfl
  generalize hB : bl (wgt (pv (cn (frd (pv p))))) = B at *
  generalize hG : ((m : Int) + 2) * (bl m : Int) = G at *
  generalize hK : ((m : Int) - 1) * (B : Int) = K at *
  generalize hU : upz G 2 = U at *
  refine ⟨U + K, by omega, ?_, ?_, fun hr x hx y hy hlt => key x hx y hy hlt _ (by omega)⟩
  ·omega
  ·refine AC.by_walk (rs := [.tmp 2, .tmp 3]) ords Tryz.func190 (by rfl) (by rfl) (by rfl) (by rfl) (by rfl) ?_
   simp (disch := omega) only [wt, seval, reduceCtorEq, Nat.reduceEqDiff, cpoly_len]
   refine call_by (dg) (by first | rfl | (simp only [tocvs, tocv, toboxes, tobox, updH_at, Nat.reduceEqDiff, ↓reduceIte, n1]; rfl)) (by simp) ?_
   simp (disch := omega) only [wt, seval, reduceCtorEq, Nat.reduceEqDiff, cpoly_len, n1]
   refine call_by (fr) (by rfl) (by simp) ?_
   simp (disch := omega) only [wt, seval, reduceCtorEq, Nat.reduceEqDiff, cpoly_len]
   refine call_by (d2) (by first | rfl | (simp only [tocvs, tocv, toboxes, tobox, updH_at, Nat.reduceEqDiff, ↓reduceIte, hm]; rfl)) (by simp) ?_
   simp (disch := omega) only [wt, seval, reduceCtorEq, Nat.reduceEqDiff, cpoly_len, hm]
   refine call_by (o) (by first | rfl | (simp only [tocvs, tocv, toboxes, tobox, updH_at, Nat.reduceEqDiff, ↓reduceIte, hG, hK, hw]; rfl)) (by simp) ?_
   simp (disch := omega) only [wt, seval, reduceCtorEq, Nat.reduceEqDiff, cpoly_len, hG, hK, hw]
   refine call_by (ob) (by first | rfl | (simp only [tocvs, tocv, toboxes, tobox, updH_at, Nat.reduceEqDiff, ↓reduceIte, hG, hK, hw]; rfl)) (by simp) ?_
   simp (disch := omega) only [wt, seval, reduceCtorEq, Nat.reduceEqDiff, cpoly_len, hG, hK, hw]
   refine call_by (u) (by first | rfl | (simp only [tocvs, tocv, toboxes, tobox, updH_at, Nat.reduceEqDiff, ↓reduceIte, hG, hK, hw]; rfl)) (by simp) ?_
   simp (disch := omega) only [wt, seval, reduceCtorEq, Nat.reduceEqDiff, cpoly_len, hG, hK, hw]
   refine call_by (w) (by first | rfl | (simp only [tocvs, tocv, toboxes, tobox, updH_at, Nat.reduceEqDiff, ↓reduceIte, hG, hK, hw]; rfl)) (by simp) ?_
   simp (disch := omega) only [wt, seval, reduceCtorEq, Nat.reduceEqDiff, cpoly_len, hG, hK, hw]
   refine call_by (wb) (by first | rfl | (simp only [tocvs, tocv, toboxes, tobox, updH_at, Nat.reduceEqDiff, ↓reduceIte, hG, hK, hw]; rfl)) (by simp) ?_
   simp (disch := omega) only [wt, seval, reduceCtorEq, Nat.reduceEqDiff, cpoly_len, hG, hK, hw]
   try rfl
end Go.Proofs.YtdokaihemcnkmaaGreat

namespace Go.Proofs.YtdokaihemcnkmaaGreat
open Go Go.Proofs Go.AL
set_option linter.unusedSimpArgs false
set_option linter.unusedVariables false
def clz (n lo hi : Int) : Int := if n < lo then lo else if hi < n then hi else n
theorem clz_bd {n lo hi : Int} (h : lo ≤ hi) : lo ≤ clz n lo hi ∧ clz n lo hi ≤ hi := by unfold clz; split <;> (try split) <;> omega
theorem clamp_ok (n lo hi : Int) : AC Tryz.prog 184 [ci n, ci lo, ci hi] none [ci (clz n lo hi)] := by
 unfold clz
 by_cases h1 : n < lo
 ·rw [if_pos h1]
  refine AC.by_walk (rs := [.tmp 6]) ords Tryz.func184 (by rfl) (by rfl) (by rfl) (by rfl) (by rfl) ?_
  simp (disch := omega) only [wt, seval, reduceCtorEq, Nat.reduceEqDiff, rqs, h1]
  try rfl
 ·by_cases h2 : hi < n
  ·rw [if_neg h1, if_pos h2]
   refine AC.by_walk (rs := [.tmp 6]) ords Tryz.func184 (by rfl) (by rfl) (by rfl) (by rfl) (by rfl) ?_
   simp (disch := omega) only [wt, seval, reduceCtorEq, Nat.reduceEqDiff, rqs, h1, h2]
   try rfl
  ·rw [if_neg h1, if_neg h2]
   refine AC.by_walk (rs := [.tmp 6]) ords Tryz.func184 (by rfl) (by rfl) (by rfl) (by rfl) (by rfl) ?_
   simp (disch := omega) only [wt, seval, reduceCtorEq, Nat.reduceEqDiff, rqs, h1, h2]
   try rfl
theorem copynat_ok (l : List Nat) (h : l.length ≤ 2 ^ 40) : AC Tryz.prog 195 [cl l] none [cl l] := by
 refine AC.by_walk (rs := [.tmp 2]) ords Tryz.func195 (by rfl) (by rfl) (by rfl) (by rfl) (by rfl) ?_
 simp (disch := omega) only [wt, seval, reduceCtorEq, Nat.reduceEqDiff, rqs]
 try rfl
theorem copyint_ok (c : RI) (h : c.2.length ≤ 2 ^ 40) : AC Tryz.prog 188 [cr c] none [cr c] := by
 have n := copynat_ok c.2 h
 refine AC.by_walk (rs := [.cell 2 27]) ords Tryz.func188 (by rfl) (by rfl) (by rfl) (by rfl) (by rfl) ?_
 simp (disch := omega) only [wt, seval, reduceCtorEq, Nat.reduceEqDiff, rqs]
 refine .inl ⟨tmps_by (by kernel_rfl), ?_⟩
 refine call_by (n) (by rfl) (by simp) ?_
 simp (disch := omega) only [wt, seval, reduceCtorEq, Nat.reduceEqDiff, rqs]
 first | exact log_by (by kernel_rfl) | refine ⟨log_by (by kernel_rfl), ?_⟩
 try rfl
theorem copyrat_ok (r : RQ) (h : r.1.2.length ≤ 2 ^ 40) (h2 : r.2.length ≤ 2 ^ 40) : AC Tryz.prog 83 [cqq r] none [cqq r] := by
 have n := copynat_ok r.2 h2
 have m := copyint_ok r.1 h
 refine AC.by_walk (rs := [.cell 2 58]) ords Tryz.func83 (by rfl) (by rfl) (by rfl) (by rfl) (by rfl) ?_
 simp (disch := omega) only [wt, seval, reduceCtorEq, Nat.reduceEqDiff, rqs]
 refine .inl ⟨tmps_by (by kernel_rfl), ?_⟩
 refine call_by (m) (by rfl) (by simp) ?_
 simp (disch := omega) only [wt, seval, reduceCtorEq, Nat.reduceEqDiff, rqs]
 refine call_by (n) (by rfl) (by simp) ?_
 simp (disch := omega) only [wt, seval, reduceCtorEq, Nat.reduceEqDiff, rqs]
 first | exact log_by (by kernel_rfl) | refine ⟨log_by (by kernel_rfl), ?_⟩
 try rfl
end Go.Proofs.YtdokaihemcnkmaaGreat

namespace Go.Proofs.YtdokaihemcnkmaaGreat
open Go Go.Proofs Go.AL
set_option linter.unusedSimpArgs false
set_option linter.unusedVariables false
theorem wd_word {n : Nat} (h0 : n ≠ 0) (h : n < W) : wd n = [n] := by
 have h1 : zl (n : Int) ≤ 1 := zl_le.mpr (by rw [Nat.pow_one, Int.natAbs_natCast]; exact h)
 have h2 : zl (n : Int) = (wd n).length := by unfold zl; rw [Int.natAbs_natCast]
 have h3 := nv_wd n
 match hw : wd n with
 | [] => rw [hw] at h3; exact absurd h3.symm h0
 | [a] =>
  rw [hw] at h3
  have : nv [a] = a := by simp [nv, vl]
  rw [← h3, this]
 | a :: b :: l => rw [hw] at h2; simp only [List.length_cons] at h2; omega
theorem whole_ok (n : Int) (h : -9223372036854775808 < n) (h' : n < 9223372036854775808) : AC Tryz.prog 183 [ci n] none [cz n] := by
 by_cases h0 : n = 0
 ·subst h0
  show AC Tryz.prog 183 [ci 0] none [cr (canon 0)]
  rw [canon_zero]
  refine AC.by_walk (rs := [.cell 2 27]) ords Tryz.func183 (by rfl) (by rfl) (by rfl) (by rfl) (by rfl) ?_
  simp (disch := omega) only [wt, seval, reduceCtorEq, Nat.reduceEqDiff, rqs]
  try rfl
 ·by_cases hn : n < 0
  ·have e : canon n = (true, [n.natAbs]) := by rw [canon, decide_eq_true hn, wd_word (by omega) (by simp only [W]; omega)]
   have e1 : IntKind.u64.wrap (0 - n) = (n.natAbs : Int) := by
    rw [show (0 : Int) - n = (n.natAbs : Int) by omega]; exact wrap_nat (by simp only [W]; omega)
   show AC Tryz.prog 183 [ci n] none [cr (canon n)]
   rw [e]
   refine AC.by_walk (rs := [.cell 2 27]) ords Tryz.func183 (by rfl) (by rfl) (by rfl) (by rfl) (by rfl) ?_
   simp (disch := omega) only [wt, seval, reduceCtorEq, Nat.reduceEqDiff, rqs, h0, hn, e1]
   try rfl
  ·have e : canon n = (false, [n.natAbs]) := by rw [canon, decide_eq_false hn, wd_word (by omega) (by simp only [W]; omega)]
   have e1 : IntKind.u64.wrap n = (n.natAbs : Int) := by
    have : n = (n.natAbs : Int) := by omega
    rw [this]; exact wrap_nat (by simp only [W]; omega)
   show AC Tryz.prog 183 [ci n] none [cr (canon n)]
   rw [e]
   refine AC.by_walk (rs := [.cell 2 27]) ords Tryz.func183 (by rfl) (by rfl) (by rfl) (by rfl) (by rfl) ?_
   simp (disch := omega) only [wt, seval, reduceCtorEq, Nat.reduceEqDiff, rqs, h0, hn, e1]
   try rfl
theorem power_ok (e : Int) (hl : -1000000 ≤ e) (hh : e ≤ 1000000) : AC Tryz.prog 191 [ci e] none [cqz (p2 e), ci 0] := by
 have w := whole_ok 1 (by omega) (by omega)
 have d := dyadic_ok (canon 1) e ((sz_canon 1).mono (by have : zl 1 ≤ 1 := zl_le.mpr (by decide); omega)) (iv_canon 1) hl hh
 refine AC.by_walk (rs := [.cell 2 58, .tmp 3]) ords Tryz.func191 (by rfl) (by rfl) (by rfl) (by rfl) (by rfl) ?_
 simp (disch := omega) only [wt, seval, reduceCtorEq, Nat.reduceEqDiff, rqs]
 refine call_by (w) (by rfl) (by simp) ?_
 simp (disch := omega) only [wt, seval, reduceCtorEq, Nat.reduceEqDiff, rqs]
 refine call_by (d) (by rfl) (by simp) ?_
 simp (disch := omega) only [wt, seval, reduceCtorEq, Nat.reduceEqDiff, rqs]
 try rfl
theorem tpoly_ok (l : List Int) (hl : l.length ≤ 1000) (h : ∀ z ∈ l, -9223372036854775808 < z ∧ z < 9223372036854775808) : AC Tryz.prog 77 [cis l] none [cw (l.map canon)] := by
 refine AC.by_walk (rs := [.tmp 2]) ords Tryz.func77 (by rfl) (by rfl) (by rfl) (by rfl) (by rfl) ?_
 simp (disch := omega) only [wt, seval, reduceCtorEq, Nat.reduceEqDiff, rqs]
 refine aloop_by (fun f H => ∃ (i st : Nat), i ≤ l.length ∧ f 9 = .iv (.int .i64 i) ∧ f 7 = .iv (.sl (ilims l)) ∧ f 8 = .iv (.int .i64 l.length) ∧ f 3 = .hs 6 st ∧ H 6 = .blk false st 27 2 (raws ((l.take i).map canon))) (fun f H => (l.length - intAt f 9).toNat) ?_ ?_
 ·refine ⟨0, 1, by omega, ?_⟩
  simp (disch := omega) only [wt, seval, reduceCtorEq, Nat.reduceEqDiff, rqs, List.take_zero, List.map_nil]
 rintro f H ⟨i, st, hi, hF⟩
 rw [intAt_of hF.1]
 simp (disch := omega) only [wt, seval, reduceCtorEq, Nat.reduceEqDiff, rqs, hF]
 refine if_by (fun hlt => ?_) (fun hlt => ?_)
 ·have hlt' : i < l.length := by omega
  have hq : ((l.take i).map canon).length = i := by rw [List.length_map, List.length_take]; omega
  have hm := h _ (getD_mem hlt' 0)
  have w := whole_ok (l.getD i 0) hm.1 hm.2
  simp (disch := omega) only [wt, seval, reduceCtorEq, Nat.reduceEqDiff, rqs, hF, hq]
  refine call_by (w) (by first | rfl | (simp only [tocvs, tocv, toboxes, tobox, updH_at, Nat.reduceEqDiff, ↓reduceIte, hF, hq]; rfl)) (by simp) ?_
  simp (disch := omega) only [wt, seval, reduceCtorEq, Nat.reduceEqDiff, rqs, hF, hq]
  refine ⟨⟨i + 1, st + 1, by omega, ?_⟩, by omega⟩
  rw [show l.take (i + 1) = l.take i ++ [l.getD i 0] by rw [List.take_add_one]; simp [List.getD, hlt']]
  (repeat' apply And.intro) <;> first | rfl | omega
 ·obtain rfl : i = l.length := by omega
  rw [List.take_length] at hF
  simp (disch := omega) only [wt, seval, reduceCtorEq, Nat.reduceEqDiff, rqs, hF]
  try rfl
theorem copyz_ok (p : List RI) (hl : p.length ≤ 1000) (h : ∀ c ∈ p, c.2.length ≤ 2 ^ 40) : AC Tryz.prog 79 [cw p] none [cw p] := by
 refine AC.by_walk (rs := [.tmp 2]) ords Tryz.func79 (by rfl) (by rfl) (by rfl) (by rfl) (by rfl) ?_
 simp (disch := omega) only [wt, seval, reduceCtorEq, Nat.reduceEqDiff, rqs]
 refine aloop_by (fun f H => ∃ (i st : Nat), i ≤ p.length ∧ f 9 = .iv (.int .i64 i) ∧ f 7 = .iv (.sl (raws p)) ∧ f 8 = .iv (.int .i64 p.length) ∧ f 3 = .hs 6 st ∧ H 6 = .blk false st 27 2 (raws (p.take i))) (fun f H => (p.length - intAt f 9).toNat) ?_ ?_
 ·refine ⟨0, 1, by omega, ?_⟩
  simp (disch := omega) only [wt, seval, reduceCtorEq, Nat.reduceEqDiff, rqs, List.take_zero]
 rintro f H ⟨i, st, hi, hF⟩
 rw [intAt_of hF.1]
 simp (disch := omega) only [wt, seval, reduceCtorEq, Nat.reduceEqDiff, rqs, hF]
 refine if_by (fun hlt => ?_) (fun hlt => ?_)
 ·have hlt' : i < p.length := by omega
  have hq : (p.take i).length = i := by rw [List.length_take]; omega
  have w := copyint_ok (p.getD i (false, [])) (h _ (getD_mem hlt' _))
  simp (disch := omega) only [wt, seval, reduceCtorEq, Nat.reduceEqDiff, rqs, hF, hq]
  refine call_by (w) (by first | rfl | (simp only [tocvs, tocv, toboxes, tobox, updH_at, Nat.reduceEqDiff, ↓reduceIte, hF, hq]; rfl)) (by simp) ?_
  simp (disch := omega) only [wt, seval, reduceCtorEq, Nat.reduceEqDiff, rqs, hF, hq]
  refine ⟨⟨i + 1, st + 1, by omega, ?_⟩, by omega⟩
  rw [show p.take (i + 1) = p.take i ++ [p.getD i (false, [])] by rw [List.take_add_one]; simp [List.getD, hlt']]
  (repeat' apply And.intro) <;> first | rfl | omega
 ·obtain rfl : i = p.length := by omega
  rw [List.take_length] at hF
  simp (disch := omega) only [wt, seval, reduceCtorEq, Nat.reduceEqDiff, rqs, hF]
  try rfl
set_option maxRecDepth 100000 in
theorem means_ok (r : RQ) (hl : r.2.length ≤ 2 ^ 40) : AC Tryz.prog 81 [cqq r] none [cb (decide (nv r.2 ≠ 0))] := by
 have z0 : ∀ l : List Nat, nv l = 0 ↔ ∀ j, j < l.length → l.getD j 0 = 0 := fun l => by
  induction l with
  | nil => simp [nv, vl]
  | cons a l ih =>
   have e : nv (a :: l) = a + W * nv l := rfl
   have hW : (W : Nat) ≠ 0 := by decide
   constructor
   ·intro h j hj
    have h1 : a = 0 := by omega
    have h2 : nv l = 0 := by
     rcases Nat.mul_eq_zero.mp (show W * nv l = 0 by omega) with h | h
     ·exact absurd h hW
     ·exact h
    cases j with
    | zero => exact h1
    | succ j => exact ih.1 h2 j (by simpa using hj)
   ·intro h
    have h1 : a = 0 := h 0 (by simp)
    have h2 : nv l = 0 := ih.2 fun j hj => h (j + 1) (by simpa using hj)
    rw [e, h1, h2]; simp
 refine AC.by_walk (rs := [.tmp 2]) ords Tryz.func81 (by rfl) (by rfl) (by rfl) (by rfl) (by rfl) ?_
 simp (disch := omega) only [wt, seval, reduceCtorEq, Nat.reduceEqDiff, rqs]
 refine aloop_by (fun f H => ∃ (i : Nat), i ≤ r.2.length ∧ (∀ j, j < i → r.2.getD j 0 = 0) ∧ f 8 = .iv (.int .i64 i) ∧ f 6 = .iv (.sl (lims r.2)) ∧ f 7 = .iv (.int .i64 r.2.length)) (fun f H => (r.2.length - intAt f 8).toNat) ?_ ?_
 ·refine ⟨0, by omega, fun j hj => by omega, ?_⟩
  simp (disch := omega) only [wt, seval, reduceCtorEq, Nat.reduceEqDiff, rqs]
 rintro f H ⟨i, hi, hz, hF⟩
 rw [intAt_of hF.1]
 simp (disch := omega) only [wt, seval, reduceCtorEq, Nat.reduceEqDiff, rqs, hF]
 refine if_by (fun hlt => ?_) (fun hlt => ?_)
 ·have hlt' : i < r.2.length := by omega
  by_cases hx : r.2.getD i 0 = 0
  ·have hx' : ((r.2.getD i 0 : Nat) : Int) = 0 := by omega
   simp (disch := omega) only [wt, seval, reduceCtorEq, Nat.reduceEqDiff, rqs, hF, hx']
   refine ⟨⟨i + 1, by omega, fun j hj => ?_, by omega⟩, by omega⟩
   rcases Nat.lt_or_ge j i with hj' | hj'
   ·exact hz j hj'
   ·obtain rfl : j = i := by omega
    exact hx
  ·have hx' : ¬ ((r.2.getD i 0 : Nat) : Int) = 0 := by omega
   have e : decide (¬ nv r.2 = 0) = true := decide_eq_true (fun h => hx ((z0 r.2).1 h i hlt'))
   rw [e]
   simp (disch := omega) only [wt, seval, reduceCtorEq, Nat.reduceEqDiff, rqs, hF, hx']
   try rfl
 ·have : nv r.2 = 0 := (z0 r.2).2 fun j hj => hz j (by omega)
  have e : decide (¬ nv r.2 = 0) = false := decide_eq_false (fun h => h this)
  rw [e]
  simp (disch := omega) only [wt, seval, reduceCtorEq, Nat.reduceEqDiff, rqs, hF]
  try rfl
end Go.Proofs.YtdokaihemcnkmaaGreat

namespace Go.Proofs.YtdokaihemcnkmaaGreat
open Go Go.Proofs Go.AL
set_option linter.unusedSimpArgs false
set_option linter.unusedVariables false
abbrev kn3 (x y z : Int) : List IV := [.int .i64 x, .int .i64 y, .int .i64 z]
theorem sp30 (a b c x : IV) : splice [a, b, c] 0 [x] = [x, b, c] := rfl
theorem sp31 (a b c x : IV) : splice [a, b, c] 1 [x] = [a, x, c] := rfl
theorem sp32 (a b c x : IV) : splice [a, b, c] 2 [x] = [a, b, x] := rfl
theorem ln1 (a : IV) : [a].length = 1 := rfl
theorem ln3 (a b c : IV) : [a, b, c].length = 3 := rfl
theorem plain_ok (x y z : Int) : AC Tryz.prog 185 [.agg (kn3 x y z)] none [.agg (kn3 (clz x (-1000000) 1000000) (clz y 1 1000) (clz z 1 3))] := by
 have a := clamp_ok x (-1000000) 1000000
 have b := clamp_ok y 1 1000
 have c := clamp_ok z 1 3
 refine AC.by_walk (rs := [.cell 2 201]) ords Tryz.func185 (by rfl) (by rfl) (by rfl) (by rfl) (by rfl) ?_
 simp (disch := omega) only [wt, seval, reduceCtorEq, Nat.reduceEqDiff, rqs]
 refine .inl ⟨tmps_by (by kernel_rfl), ?_⟩
 refine call_by (a) (by rfl) (by simp) ?_
 simp (disch := omega) only [wt, seval, reduceCtorEq, Nat.reduceEqDiff, rqs]
 refine call_by (b) (by rfl) (by simp) ?_
 simp (disch := omega) only [wt, seval, reduceCtorEq, Nat.reduceEqDiff, rqs]
 refine call_by (c) (by first | rfl | (simp only [tocvs, tocv, toboxes, tobox, updH_at, Nat.reduceEqDiff, ↓reduceIte, sp30, sp31, sp32, ln1, ln3]; rfl)) (by simp) ?_
 simp (disch := omega) only [wt, seval, reduceCtorEq, Nat.reduceEqDiff, rqs, sp30, sp31, sp32, ln1, ln3]
 refine ⟨⟨⟨rfl, by simp⟩, ⟨rfl, by simp [splice]⟩, ⟨rfl, by simp [splice]⟩, trivial⟩, ?_⟩
 dsimp only
 simp (disch := omega) only [wt, seval, reduceCtorEq, Nat.reduceEqDiff, rqs, sp30, sp31, sp32]
 first | exact log_by (by kernel_rfl) | refine ⟨log_by (by kernel_rfl), ?_⟩
 try rfl
theorem linear_ok (x y z : Int) (hx : -1000000 ≤ x ∧ x ≤ 1000000) (hy : 1 ≤ y ∧ y ≤ 1000) : AC Tryz.prog 186 [.agg (kn3 x y z)] none [cw ([-x, y].map canon)] := by
 have a := whole_ok (0 - x) (by omega) (by omega)
 have b := whole_ok y (by omega) (by omega)
 have e : [-x, y].map canon = [canon (0 - x), canon y] := by rw [Int.zero_sub]; rfl
 rw [e]
 refine AC.by_walk (rs := [.tmp 2]) ords Tryz.func186 (by rfl) (by rfl) (by rfl) (by rfl) (by rfl) ?_
 simp (disch := omega) only [wt, seval, reduceCtorEq, Nat.reduceEqDiff, rqs]
 refine .inl ⟨tmps_by (by kernel_rfl), ?_⟩
 refine call_by (a) (by rfl) (by simp) ?_
 simp (disch := omega) only [wt, seval, reduceCtorEq, Nat.reduceEqDiff, rqs]
 refine call_by (b) (by rfl) (by simp) ?_
 simp (disch := omega) only [wt, seval, reduceCtorEq, Nat.reduceEqDiff, rqs]
 first | exact log_by (by kernel_rfl) | refine ⟨log_by (by kernel_rfl), ?_⟩
 try rfl
def knr (p : List RI) (l : List RQ) (ts : List Int) (ok : Bool) : List IV := [.sl (raws p), .sl (rats l), .sl (ilims ts), .bool ok]
theorem knl (p : List RI) (l : List RQ) (ts : List Int) (ok : Bool) : (knr p l ts ok).length = 4 := rfl
theorem kn1 (p : List RI) (l : List RQ) (ts : List Int) (ok : Bool) : (knr p l ts ok).getD 1 default = .sl (rats l) := rfl
theorem kn2 (p : List RI) (l : List RQ) (ts : List Int) (ok : Bool) : (knr p l ts ok).getD 2 default = .sl (ilims ts) := rfl
theorem kn0 (p : List RI) (l : List RQ) (ts : List Int) (ok : Bool) : (knr p l ts ok).getD 0 default = .sl (raws p) := rfl
theorem cnt_snoc (l : List Rat) (r a b : Rat) : cnt (l ++ [r]) a b = cnt l a b + if a < r ∧ r ≤ b then 1 else 0 := by
 unfold cnt
 rw [List.countP_append]
 simp only [List.countP_cons, List.countP_nil, Nat.zero_add]
 congr 1
 by_cases h : a < r ∧ r ≤ b
 ·rw [if_pos h, if_pos (by simp [h.1, h.2])]
 ·rw [if_neg h, if_neg (by simpa using h)]
set_option maxRecDepth 100000 in
theorem within_ok (p : List RI) (l : List RQ) (ts : List Int) (ok : Bool) (a b : RQ) (hl : l.length ≤ 100) (ht : ts.length = l.length) (hb : ∀ t ∈ ts, 0 ≤ t ∧ t ≤ 1000) (hq : ∀ r ∈ l, SzQ (2 ^ 30) r ∧ nv r.2 ≠ 0) (ha : SzQ (2 ^ 30) a) (ha0 : nv a.2 ≠ 0) (hbb : SzQ (2 ^ 30) b) (hb0 : nv b.2 ≠ 0) : ∃ m : Int, AC Tryz.prog 87 [.agg (knr p l ts ok), cqq a, cqq b] none [ci (cnt (l.map qv) (qv a) (qv b)), ci m] := by
 have hs : ∀ i, i ≤ l.length → cnt ((l.map qv).take i) (qv a) (qv b) ≤ i := fun i hi => by
  unfold cnt
  refine Nat.le_trans List.countP_le_length ?_
  rw [List.length_take]; omega
 let ms : Nat → Int := fun i => (List.range i).foldl (fun m j => if qv a < qv (l.getD j q0) ∧ qv (l.getD j q0) ≤ qv b then m + ts.getD j 0 else m) 0
 have ms0 : ms 0 = 0 := rfl
 have msn : ∀ i, ms (i + 1) = if qv a < qv (l.getD i q0) ∧ qv (l.getD i q0) ≤ qv b then ms i + ts.getD i 0 else ms i := fun i => by
  show (List.range (i + 1)).foldl _ 0 = _
  rw [List.range_succ, List.foldl_append]; rfl
 have tb : ∀ i, i < l.length → 0 ≤ ts.getD i 0 ∧ ts.getD i 0 ≤ 1000 := fun i hi => hb _ (getD_mem (by omega) 0)
 have mb : ∀ i, i ≤ l.length → 0 ≤ ms i ∧ ms i ≤ 1000 * i := fun i => by
  induction i with
  | zero => intro _; rw [ms0]; omega
  | succ i ih =>
   intro hi
   have := ih (by omega)
   have := tb i (by omega)
   rw [msn]; split <;> omega
 refine ⟨ms l.length, ?_⟩
 generalize ms = ms at *
 have cy := copyrat_ok a (Nat.le_trans ha.1.1 (by omega)) (Nat.le_trans ha.2.1 (by omega))
 have cw2 := copyrat_ok b (Nat.le_trans hbb.1.1 (by omega)) (Nat.le_trans hbb.2.1 (by omega))
 refine AC.by_walk (rs := [.tmp 6, .tmp 7]) ords Tryz.func87 (by rfl) (by rfl) (by rfl) (by rfl) (by rfl) ?_
 simp (disch := omega) only [wt, seval, reduceCtorEq, Nat.reduceEqDiff, rqs, knl, kn1]
 refine aloop_by (fun f H => ∃ (i st : Nat), i ≤ l.length ∧ f 19 = .iv (.int .i64 i) ∧ f 17 = .iv (.sl (rats l)) ∧ f 18 = .iv (.int .i64 l.length) ∧ f 3 = .hp 3 1 0 0 ∧ H 3 = .blk false 1 132 4 [knr p l ts ok] ∧ f 4 = .hp 4 1 0 0 ∧ H 4 = .blk false 1 58 3 [qrow a] ∧ f 5 = .hp 5 1 0 0 ∧ H 5 = .blk false 1 58 3 [qrow b] ∧ f 8 = .iv (.int .i64 (cnt ((l.map qv).take i) (qv a) (qv b))) ∧ f 9 = .iv (.int .i64 (ms i))) (fun f H => (l.length - intAt f 19).toNat) ?_ ?_
 ·refine ⟨0, 0, by omega, ?_⟩
  simp (disch := omega) only [wt, seval, reduceCtorEq, Nat.reduceEqDiff, rqs, knl, kn1, List.take_zero, ms0, show cnt [] (qv a) (qv b) = 0 from rfl]
 rintro f H ⟨i, st, hi, hF⟩
 rw [intAt_of hF.1]
 simp (disch := omega) only [wt, seval, reduceCtorEq, Nat.reduceEqDiff, rqs, hF]
 have hsi := hs i hi
 have hmi := mb i hi
 refine if_by (fun hlt => ?_) (fun hlt => ?_)
 ·have hlt' : i < l.length := by omega
  obtain ⟨sx, nx⟩ := hq _ (getD_mem hlt' q0)
  have cx := copyrat_ok (l.getD i q0) (Nat.le_trans sx.1.1 (by omega)) (Nat.le_trans sx.2.1 (by omega))
  have c1 := qcmpr_ok a (l.getD i q0) (ha.mono (by omega)) (sx.mono (by omega)) ha0 nx
  have c2 := qcmpr_ok (l.getD i q0) b (sx.mono (by omega)) (hbb.mono (by omega)) nx hb0
  have tbi := tb i hlt'
  have en : cnt ((l.map qv).take (i + 1)) (qv a) (qv b) = cnt ((l.map qv).take i) (qv a) (qv b) + if qv a < qv (l.getD i q0) ∧ qv (l.getD i q0) ≤ qv b then 1 else 0 := by
   rw [maps_snoc qv l q0 hlt', cnt_snoc]
  have em := msn i
  by_cases h1 : qv a < qv (l.getD i q0)
  ·have s1 : sgq (qv a - qv (l.getD i q0)) = -1 := sgq_neg (by grind)
   rw [s1] at c1
   by_cases h2 : qv (l.getD i q0) ≤ qv b
   ·have s2 : sgq (qv (l.getD i q0) - qv b) ≤ 0 := by have := sgq_le h2; omega
    rw [if_pos ⟨h1, h2⟩] at en em
    generalize sgq (qv (l.getD i q0) - qv b) = s at *
    simp (disch := omega) only [wt, seval, reduceCtorEq, Nat.reduceEqDiff, rqs, hF, knl, kn1, kn2, ht]
    refine .inl ⟨tmps_by (by kernel_rfl), ?_⟩
    refine call_by (cy) (by first | rfl | (simp only [tocvs, tocv, toboxes, tobox, updH_at, Nat.reduceEqDiff, ↓reduceIte, hF]; rfl)) (by simp) ?_
    simp (disch := omega) only [wt, seval, reduceCtorEq, Nat.reduceEqDiff, rqs, hF]
    refine call_by (cx) (by first | rfl | (simp only [tocvs, tocv, toboxes, tobox, updH_at, Nat.reduceEqDiff, ↓reduceIte, hF]; rfl)) (by simp) ?_
    simp (disch := omega) only [wt, seval, reduceCtorEq, Nat.reduceEqDiff, rqs, hF]
    refine call_by (c1) (by first | rfl | (simp only [tocvs, tocv, toboxes, tobox, updH_at, Nat.reduceEqDiff, ↓reduceIte, hF]; rfl)) (by simp) ?_
    simp (disch := omega) only [wt, seval, reduceCtorEq, Nat.reduceEqDiff, rqs, hF]
    first | exact log_by (by kernel_rfl) | refine ⟨log_by (by kernel_rfl), ?_⟩
    refine .inl ⟨tmps_by (by kernel_rfl), ?_⟩
    refine call_by (cx) (by first | rfl | (simp only [tocvs, tocv, toboxes, tobox, updH_at, Nat.reduceEqDiff, ↓reduceIte, hF]; rfl)) (by simp) ?_
    simp (disch := omega) only [wt, seval, reduceCtorEq, Nat.reduceEqDiff, rqs, hF]
    refine call_by (cw2) (by first | rfl | (simp only [tocvs, tocv, toboxes, tobox, updH_at, Nat.reduceEqDiff, ↓reduceIte, hF]; rfl)) (by simp) ?_
    simp (disch := omega) only [wt, seval, reduceCtorEq, Nat.reduceEqDiff, rqs, hF]
    refine call_by (c2) (by first | rfl | (simp only [tocvs, tocv, toboxes, tobox, updH_at, Nat.reduceEqDiff, ↓reduceIte, hF, s2, knl, kn1, kn2, ht]; rfl)) (by simp) ?_
    simp (disch := omega) only [wt, seval, reduceCtorEq, Nat.reduceEqDiff, rqs, hF, s2, knl, kn1, kn2, ht]
    first | exact log_by (by kernel_rfl) | refine ⟨log_by (by kernel_rfl), ?_⟩
    refine ⟨⟨i + 1, st, by omega, ?_⟩, by omega⟩
    rw [en, em]
    (repeat' apply And.intro) <;> first | rfl | omega
   ·have s2 : ¬ sgq (qv (l.getD i q0) - qv b) ≤ 0 := by rw [sgq_gt (Rat.not_le.mp h2)]; decide
    rw [if_neg (fun h => h2 h.2)] at en em
    generalize sgq (qv (l.getD i q0) - qv b) = s at *
    simp (disch := omega) only [wt, seval, reduceCtorEq, Nat.reduceEqDiff, rqs, hF, knl, kn1, kn2, ht]
    refine .inl ⟨tmps_by (by kernel_rfl), ?_⟩
    refine call_by (cy) (by first | rfl | (simp only [tocvs, tocv, toboxes, tobox, updH_at, Nat.reduceEqDiff, ↓reduceIte, hF]; rfl)) (by simp) ?_
    simp (disch := omega) only [wt, seval, reduceCtorEq, Nat.reduceEqDiff, rqs, hF]
    refine call_by (cx) (by first | rfl | (simp only [tocvs, tocv, toboxes, tobox, updH_at, Nat.reduceEqDiff, ↓reduceIte, hF]; rfl)) (by simp) ?_
    simp (disch := omega) only [wt, seval, reduceCtorEq, Nat.reduceEqDiff, rqs, hF]
    refine call_by (c1) (by first | rfl | (simp only [tocvs, tocv, toboxes, tobox, updH_at, Nat.reduceEqDiff, ↓reduceIte, hF]; rfl)) (by simp) ?_
    simp (disch := omega) only [wt, seval, reduceCtorEq, Nat.reduceEqDiff, rqs, hF]
    first | exact log_by (by kernel_rfl) | refine ⟨log_by (by kernel_rfl), ?_⟩
    refine .inl ⟨tmps_by (by kernel_rfl), ?_⟩
    refine call_by (cx) (by first | rfl | (simp only [tocvs, tocv, toboxes, tobox, updH_at, Nat.reduceEqDiff, ↓reduceIte, hF]; rfl)) (by simp) ?_
    simp (disch := omega) only [wt, seval, reduceCtorEq, Nat.reduceEqDiff, rqs, hF]
    refine call_by (cw2) (by first | rfl | (simp only [tocvs, tocv, toboxes, tobox, updH_at, Nat.reduceEqDiff, ↓reduceIte, hF]; rfl)) (by simp) ?_
    simp (disch := omega) only [wt, seval, reduceCtorEq, Nat.reduceEqDiff, rqs, hF]
    refine call_by (c2) (by first | rfl | (simp only [tocvs, tocv, toboxes, tobox, updH_at, Nat.reduceEqDiff, ↓reduceIte, hF, s2, knl, kn1, kn2, ht]; rfl)) (by simp) ?_
    simp (disch := omega) only [wt, seval, reduceCtorEq, Nat.reduceEqDiff, rqs, hF, s2, knl, kn1, kn2, ht]
    first | exact log_by (by kernel_rfl) | refine ⟨log_by (by kernel_rfl), ?_⟩
    refine ⟨⟨i + 1, st, by omega, ?_⟩, by omega⟩
    rw [en, em]
    (repeat' apply And.intro) <;> first | rfl | omega
  ·have s1 : ¬ sgq (qv a - qv (l.getD i q0)) < 0 := by
    have := Rat.not_lt.mp h1
    rcases sgq_cases (qv a - qv (l.getD i q0)) with ⟨_, e⟩ | ⟨_, e⟩ | ⟨h, e⟩ <;> rw [e]
    ·decide
    ·decide
    ·exfalso; grind
   rw [if_neg (fun h => h1 h.1)] at en em
   generalize sgq (qv (l.getD i q0) - qv b) = s at *
   generalize sgq (qv a - qv (l.getD i q0)) = s' at *
   simp (disch := omega) only [wt, seval, reduceCtorEq, Nat.reduceEqDiff, rqs, hF, knl, kn1, kn2, ht]
   refine .inl ⟨tmps_by (by kernel_rfl), ?_⟩
   refine call_by (cy) (by first | rfl | (simp only [tocvs, tocv, toboxes, tobox, updH_at, Nat.reduceEqDiff, ↓reduceIte, hF]; rfl)) (by simp) ?_
   simp (disch := omega) only [wt, seval, reduceCtorEq, Nat.reduceEqDiff, rqs, hF]
   refine call_by (cx) (by first | rfl | (simp only [tocvs, tocv, toboxes, tobox, updH_at, Nat.reduceEqDiff, ↓reduceIte, hF]; rfl)) (by simp) ?_
   simp (disch := omega) only [wt, seval, reduceCtorEq, Nat.reduceEqDiff, rqs, hF]
   refine call_by (c1) (by first | rfl | (simp only [tocvs, tocv, toboxes, tobox, updH_at, Nat.reduceEqDiff, ↓reduceIte, hF, s1]; rfl)) (by simp) ?_
   simp (disch := omega) only [wt, seval, reduceCtorEq, Nat.reduceEqDiff, rqs, hF, s1]
   first | exact log_by (by kernel_rfl) | refine ⟨log_by (by kernel_rfl), ?_⟩
   refine .inl ⟨tmps_by (by kernel_rfl), ?_⟩
   refine call_by (cx) (by first | rfl | (simp only [tocvs, tocv, toboxes, tobox, updH_at, Nat.reduceEqDiff, ↓reduceIte, hF]; rfl)) (by simp) ?_
   simp (disch := omega) only [wt, seval, reduceCtorEq, Nat.reduceEqDiff, rqs, hF]
   refine call_by (cw2) (by first | rfl | (simp only [tocvs, tocv, toboxes, tobox, updH_at, Nat.reduceEqDiff, ↓reduceIte, hF]; rfl)) (by simp) ?_
   simp (disch := omega) only [wt, seval, reduceCtorEq, Nat.reduceEqDiff, rqs, hF]
   refine call_by (c2) (by first | rfl | (simp only [tocvs, tocv, toboxes, tobox, updH_at, Nat.reduceEqDiff, ↓reduceIte, hF, s1, knl, kn1, kn2, ht]; rfl)) (by simp) ?_
   simp (disch := omega) only [wt, seval, reduceCtorEq, Nat.reduceEqDiff, rqs, hF, s1, knl, kn1, kn2, ht]
   first | exact log_by (by kernel_rfl) | refine ⟨log_by (by kernel_rfl), ?_⟩
   refine ⟨⟨i + 1, st, by omega, ?_⟩, by omega⟩
   rw [en, em]
   (repeat' apply And.intro) <;> first | rfl | omega
 ·obtain rfl : i = l.length := by omega
  rw [List.take_of_length_le (by rw [List.length_map]; omega)] at hF
  simp (disch := omega) only [wt, seval, reduceCtorEq, Nat.reduceEqDiff, rqs, hF, knl, kn1, kn2, ht]
  try rfl
end Go.Proofs.YtdokaihemcnkmaaGreat

namespace Go.Proofs.YtdokaihemcnkmaaGreat
open Go Go.Proofs Go.AL
set_option linter.unusedSimpArgs false
set_option linter.unusedVariables false
theorem qz_p2 (e : Int) (hl : -1000000 ≤ e) (hh : e ≤ 1000000) : qz (p2 e) ≤ 2 ^ 21 := by
 have z1 : zl 1 ≤ 1 := zl_le.mpr (by decide)
 by_cases he : e < 0
 ·obtain ⟨n, hn⟩ : ∃ n : Nat, (n : Int) = -e := ⟨(-e).toNat, by omega⟩
  have := qz_raw (r := (canon 1, wd (2 ^ n))) (k := 2 ^ 21) ⟨(sz_canon 1).mono (by omega), ⟨by have := wd_pow_len (n := n) (by omega); show (wd (2 ^ n)).length ≤ _; omega, lim_wd _⟩⟩ (by show nv (wd (2 ^ n)) ≠ 0; rw [nv_wd]; exact Nat.ne_of_gt (Nat.pow_pos (by omega)))
  have e2 : qv (canon 1, wd (2 ^ n)) = p2 e := by
   have : qv (canon 1, wd (2 ^ n)) = mkRat (iv (canon 1)) (nv (wd (2 ^ n))) := rfl
   rw [this, iv_canon, nv_wd, p2_mk_neg n (by omega), hn, Int.neg_neg]
  rwa [e2] at this
 ·obtain ⟨n, rfl⟩ : ∃ n : Nat, e = n := ⟨e.toNat, by omega⟩
  have hz : zl (1 * 2 ^ n) ≤ 1000001 := by
   have := wd_pow_len (n := n) (by omega)
   have e : zl (1 * 2 ^ n) = (wd (2 ^ n)).length := by rw [Int.one_mul]; unfold zl; rw [Int.natAbs_pow]; rfl
   omega
  have := qz_raw (r := (canon (1 * 2 ^ n), wd 1)) (k := 2 ^ 21) ⟨(sz_canon _).mono (by omega), ⟨Nat.le_trans wd1_len (by decide), lim_wd _⟩⟩ (by show nv (wd 1) ≠ 0; rw [nv_wd]; decide)
  have e2 : qv (canon (1 * 2 ^ n), wd 1) = p2 n := by
   have : qv (canon (1 * 2 ^ n), wd 1) = mkRat (iv (canon (1 * 2 ^ n))) (nv (wd 1)) := rfl
   rw [this, iv_canon, nv_wd, p2_mk_pos]
  rwa [e2] at this
def absr (r : RQ) : RQ := ((false, r.1.2), r.2)
theorem qv_absr (r : RQ) : qv (absr r) = qv r ∨ qv (absr r) = -qv r := by
 obtain ⟨⟨s, m⟩, d⟩ := r
 cases s with
 | false => exact .inl rfl
 | true =>
  right
  rw [qv_eq, qv_eq]
  show (((nv m : Nat) : Int) : Rat) / _ = -((((-((nv m : Nat) : Int)) : Int) : Rat) / _)
  rw [Rat.intCast_neg, Rat.div_def, Rat.div_def, Rat.neg_mul, Rat.neg_neg]
  rfl
theorem sp_abs (r : RQ) : splice (qrow r) 0 [IV.bool false] = qrow (absr r) := rfl
set_option maxRecDepth 100000 in
theorem bounded_ok (p : List RI) (l : List RQ) (ts : List Int) (ok : Bool) {D0 : List Int} {n S : Nat} (h : Kw p D0 n S (l.map qv)) (hl : l.length ≤ 100) (hs : ∀ r ∈ l, SzQ (2 ^ 20) r ∧ nv r.2 ≠ 0) (ho : ∀ i, i + 1 < l.length → qv (l.getD i q0) < qv (l.getD (i + 1) q0)) : AC Tryz.prog 80 [.agg (knr p l ts ok)] none [cb true] := by
 have hs40 := h.s40
 have h0 := h.kn.ne
 have t30 := h.kn.t
 have rp := h.rp
 have cz1 := copyz_ok p (by have := rp.1; omega) (fun c hc => by have := (rp.2 c hc).1; omega)
 have bd := beyondb_ok p (rp.mono (by omega) (by omega)) h0
 have hl3 := trimz_len (pv p)
 have hA : cf (trimz (pv p)) ((trimz (pv p)).length - 1) ≠ 0 := by rw [cf_trimz, hl3]; exact cf_tz_pred h0
 have eb := rst_bd (A := trimz (pv p)) (fun k => by rw [cf_trimz]; have := sb_rp rp k; omega) ((trimz (pv p)).length - 1)
 have rb : ∀ x ∈ l.map qv, ¬ Big (p2 (rst (trimz (pv p)) ((trimz (pv p)).length - 1)).1) x := fun x hx => by
  refine beyond_root (by omega) hA ?_
  obtain ⟨m, hm, A, A', a1, a2, a3, a4⟩ := h.root.fac x hx
  have := (a4 x).1
  rw [er_of_ps (q := pv p) (ps_trimz _), this, show x - x = 0 by grind]
  obtain ⟨k, rfl⟩ : ∃ k, m = k + 1 := ⟨m - 1, by omega⟩
  rw [Rat.pow_succ, Rat.mul_zero, Rat.zero_mul]
 obtain ⟨d, d0, d1, ap, far⟩ := apart_ok p h
 generalize (rst (trimz (pv p)) ((trimz (pv p)).length - 1)).1 = e at *
 have pw1 := power_ok e (by omega) (by omega)
 have pw2 := power_ok (0 - d) (by omega) (by omega)
 have q1 := qz_p2 e (by omega) (by omega)
 have q2 := qz_p2 (0 - d) (by omega) (by omega)
 have s1 := szq_crat q1
 have s2 := szq_crat q2
 have ct := copyrat_ok (crat (p2 e)) (Nat.le_trans s1.1.1 (by omega)) (Nat.le_trans s1.2.1 (by omega))
 have cg := copyrat_ok (crat (p2 (0 - d))) (Nat.le_trans s2.1.1 (by omega)) (Nat.le_trans s2.2.1 (by omega))
 refine AC.by_walk (rs := [.tmp 2]) ords Tryz.func80 (by rfl) (by rfl) (by rfl) (by rfl) (by rfl) ?_
 simp (disch := omega) only [wt, seval, reduceCtorEq, Nat.reduceEqDiff, rqs, knl, kn0, kn1]
 refine call_by (cz1) (by first | rfl | (simp only [tocvs, tocv, toboxes, tobox, updH_at, Nat.reduceEqDiff, ↓reduceIte, knl, kn0, kn1]; rfl)) (by simp) ?_
 simp (disch := omega) only [wt, seval, reduceCtorEq, Nat.reduceEqDiff, rqs, knl, kn0, kn1]
 refine call_by (bd) (by first | rfl | (simp only [tocvs, tocv, toboxes, tobox, updH_at, Nat.reduceEqDiff, ↓reduceIte, knl, kn0, kn1]; rfl)) (by simp) ?_
 simp (disch := omega) only [wt, seval, reduceCtorEq, Nat.reduceEqDiff, rqs, knl, kn0, kn1]
 refine call_by (cz1) (by first | rfl | (simp only [tocvs, tocv, toboxes, tobox, updH_at, Nat.reduceEqDiff, ↓reduceIte, knl, kn0, kn1]; rfl)) (by simp) ?_
 simp (disch := omega) only [wt, seval, reduceCtorEq, Nat.reduceEqDiff, rqs, knl, kn0, kn1]
 refine call_by (ap) (by first | rfl | (simp only [tocvs, tocv, toboxes, tobox, updH_at, Nat.reduceEqDiff, ↓reduceIte, knl, kn0, kn1]; rfl)) (by simp) ?_
 simp (disch := omega) only [wt, seval, reduceCtorEq, Nat.reduceEqDiff, rqs, knl, kn0, kn1]
 refine call_by (pw1) (by first | rfl | (simp only [tocvs, tocv, toboxes, tobox, updH_at, Nat.reduceEqDiff, ↓reduceIte, knl, kn0, kn1]; rfl)) (by simp) ?_
 simp (disch := omega) only [wt, seval, reduceCtorEq, Nat.reduceEqDiff, rqs, knl, kn0, kn1]
 refine call_by (pw2) (by first | rfl | (simp only [tocvs, tocv, toboxes, tobox, updH_at, Nat.reduceEqDiff, ↓reduceIte, knl, kn0, kn1]; rfl)) (by simp) ?_
 simp (disch := omega) only [wt, seval, reduceCtorEq, Nat.reduceEqDiff, rqs, knl, kn0, kn1]
 refine aloop_by (fun f H => ∃ (i st12 st13 st16 : Nat), i ≤ l.length ∧ f 62 = .iv (.int .i64 i) ∧ f 60 = .iv (.sl (rats l)) ∧ f 61 = .iv (.int .i64 l.length) ∧ f 1 = .hp 1 1 0 0 ∧ H 1 = .blk false 1 132 4 [knr p l ts ok] ∧ f 7 = .hp 7 1 0 0 ∧ H 7 = .blk false 1 58 3 [qrow (crat (p2 e))] ∧ f 9 = .hp 9 1 0 0 ∧ H 9 = .blk false 1 58 3 [qrow (crat (p2 (0 - d)))]) (fun f H => (l.length - intAt f 62).toNat) ?_ ?_
 ·refine ⟨0, 0, 0, 0, by omega, ?_⟩
  simp (disch := omega) only [wt, seval, reduceCtorEq, Nat.reduceEqDiff, rqs, knl, kn0, kn1]
 rintro f H ⟨i, st12, st13, st16, hi, hF⟩
 rw [intAt_of hF.1]
 simp (disch := omega) only [wt, seval, reduceCtorEq, Nat.reduceEqDiff, rqs, hF]
 refine if_by (fun hlt => ?_) (fun hlt => ?_)
 ·have hlt' : i < l.length := by omega
  have hmem := getD_mem hlt' q0
  obtain ⟨sx, nx⟩ := hs _ hmem
  have cx := copyrat_ok (l.getD i q0) (Nat.le_trans sx.1.1 (by omega)) (Nat.le_trans sx.2.1 (by omega))
  have sa : SzQ (2 ^ 20) (absr (l.getD i q0)) := ⟨⟨sx.1.1, sx.1.2⟩, sx.2⟩
  have c1 := qcmpr_ok (absr (l.getD i q0)) (crat (p2 e)) (sa.mono (by omega)) (s1.mono (by omega)) nx (nv_crat0 _)
  have nb := rb _ (List.mem_map.2 ⟨_, hmem, rfl⟩)
  have e1 : sgq (qv (absr (l.getD i q0)) - qv (crat (p2 e))) = -1 := by
   rw [qv_crat]
   refine sgq_neg ?_
   unfold Big at nb
   rcases qv_absr (l.getD i q0) with h | h <;> rw [h] <;> grind
  rw [e1] at c1
  by_cases hi0 : i = 0
  ·subst hi0
   simp (disch := omega) only [wt, seval, reduceCtorEq, Nat.reduceEqDiff, rqs, hF, knl, kn0, kn1, sp_abs]
   refine call_by (cx) (by first | rfl | (simp only [tocvs, tocv, toboxes, tobox, updH_at, Nat.reduceEqDiff, ↓reduceIte, hF, knl, kn0, kn1, sp_abs]; rfl)) (by simp) ?_
   simp (disch := omega) only [wt, seval, reduceCtorEq, Nat.reduceEqDiff, rqs, hF, knl, kn0, kn1, sp_abs]
   refine .inl ⟨tmps_by (by kernel_rfl), ?_⟩
   refine call_by (ct) (by first | rfl | (simp only [tocvs, tocv, toboxes, tobox, updH_at, Nat.reduceEqDiff, ↓reduceIte, hF, knl, kn0, kn1, sp_abs]; rfl)) (by simp) ?_
   simp (disch := omega) only [wt, seval, reduceCtorEq, Nat.reduceEqDiff, rqs, hF, knl, kn0, kn1, sp_abs]
   refine call_by (c1) (by first | rfl | (simp only [tocvs, tocv, toboxes, tobox, updH_at, Nat.reduceEqDiff, ↓reduceIte, hF, knl, kn0, kn1, sp_abs]; rfl)) (by simp) ?_
   simp (disch := omega) only [wt, seval, reduceCtorEq, Nat.reduceEqDiff, rqs, hF, knl, kn0, kn1, sp_abs]
   first | exact log_by (by kernel_rfl) | refine ⟨log_by (by kernel_rfl), ?_⟩
   refine ⟨⟨1, 0, 0, 0, by omega, ?_⟩, by omega⟩
   (repeat' apply And.intro) <;> first | rfl | omega
  ·obtain ⟨j, rfl⟩ : ∃ j, i = j + 1 := ⟨i - 1, by omega⟩
   have hj' : j < l.length := by omega
   obtain ⟨sy, ny⟩ := hs _ (getD_mem hj' q0)
   have cy := copyrat_ok (l.getD j q0) (Nat.le_trans sy.1.1 (by omega)) (Nat.le_trans sy.2.1 (by omega))
   have sb := qsub_ok (l.getD (j + 1) q0) (l.getD j q0) (sx.mono (by omega)) (sy.mono (by omega)) nx ny
   have hlt2 := ho j hlt'
   have zz := qz_sub (qv (l.getD (j + 1) q0)) (qv (l.getD j q0))
   have z1 := qz_raw sx nx
   have z2 := qz_raw sy ny
   have c2 := qcmpr_ok (crat (qv (l.getD (j + 1) q0) - qv (l.getD j q0))) (crat (p2 (0 - d))) (szq_crat (by omega)) (s2.mono (by omega)) (nv_crat0 _) (nv_crat0 _)
   have e2 : sgq (qv (crat (qv (l.getD (j + 1) q0) - qv (l.getD j q0))) - qv (crat (p2 (0 - d)))) = 1 := by
    rw [qv_crat, qv_crat]
    have := far (by rw [List.length_map]; omega) _ (List.mem_map.2 ⟨_, hmem, rfl⟩) _ (List.mem_map.2 ⟨_, getD_mem hj' q0, rfl⟩) hlt2
    rw [← Int.zero_sub] at this
    exact sgq_pos (by grind)
   rw [e2] at c2
   have ej : ((j + 1 : Nat) : Int) - 1 = (j : Int) := by omega
   have hj0 : (0 : Int) < ((j + 1 : Nat) : Int) := by omega
   simp (disch := omega) only [wt, seval, reduceCtorEq, Nat.reduceEqDiff, rqs, hF, knl, kn0, kn1, sp_abs]
   refine call_by (cx) (by first | rfl | (simp only [tocvs, tocv, toboxes, tobox, updH_at, Nat.reduceEqDiff, ↓reduceIte, hF, knl, kn0, kn1, sp_abs]; rfl)) (by simp) ?_
   simp (disch := omega) only [wt, seval, reduceCtorEq, Nat.reduceEqDiff, rqs, hF, knl, kn0, kn1, sp_abs]
   refine .inl ⟨tmps_by (by kernel_rfl), ?_⟩
   refine call_by (ct) (by first | rfl | (simp only [tocvs, tocv, toboxes, tobox, updH_at, Nat.reduceEqDiff, ↓reduceIte, hF, knl, kn0, kn1, sp_abs]; rfl)) (by simp) ?_
   simp (disch := omega) only [wt, seval, reduceCtorEq, Nat.reduceEqDiff, rqs, hF, knl, kn0, kn1, sp_abs]
   refine call_by (c1) (by first | rfl | (simp only [tocvs, tocv, toboxes, tobox, updH_at, Nat.reduceEqDiff, ↓reduceIte, hF, knl, kn0, kn1, sp_abs, hj0]; rfl)) (by simp) ?_
   simp (disch := omega) only [wt, seval, reduceCtorEq, Nat.reduceEqDiff, rqs, hF, knl, kn0, kn1, sp_abs, hj0]
   first | exact log_by (by kernel_rfl) | refine ⟨log_by (by kernel_rfl), ?_⟩
   refine .inl ⟨tmps_by (by kernel_rfl), ?_⟩
   refine call_by (cx) (by first | rfl | (simp only [tocvs, tocv, toboxes, tobox, updH_at, Nat.reduceEqDiff, ↓reduceIte, hF, knl, kn0, kn1, sp_abs, hj0, ej]; rfl)) (by simp) ?_
   simp (disch := omega) only [wt, seval, reduceCtorEq, Nat.reduceEqDiff, rqs, hF, knl, kn0, kn1, sp_abs, hj0, ej]
   refine call_by (cy) (by first | rfl | (simp only [tocvs, tocv, toboxes, tobox, updH_at, Nat.reduceEqDiff, ↓reduceIte, hF, knl, kn0, kn1, sp_abs, hj0, ej]; rfl)) (by simp) ?_
   simp (disch := omega) only [wt, seval, reduceCtorEq, Nat.reduceEqDiff, rqs, hF, knl, kn0, kn1, sp_abs, hj0, ej]
   refine call_by (sb) (by first | rfl | (simp only [tocvs, tocv, toboxes, tobox, updH_at, Nat.reduceEqDiff, ↓reduceIte, hF, knl, kn0, kn1, sp_abs, hj0, ej]; rfl)) (by simp) ?_
   simp (disch := omega) only [wt, seval, reduceCtorEq, Nat.reduceEqDiff, rqs, hF, knl, kn0, kn1, sp_abs, hj0, ej]
   first | exact log_by (by kernel_rfl) | refine ⟨log_by (by kernel_rfl), ?_⟩
   refine .inl ⟨tmps_by (by kernel_rfl), ?_⟩
   refine call_by (cg) (by first | rfl | (simp only [tocvs, tocv, toboxes, tobox, updH_at, Nat.reduceEqDiff, ↓reduceIte, hF, knl, kn0, kn1, sp_abs, hj0, ej]; rfl)) (by simp) ?_
   simp (disch := omega) only [wt, seval, reduceCtorEq, Nat.reduceEqDiff, rqs, hF, knl, kn0, kn1, sp_abs, hj0, ej]
   refine call_by (c2) (by first | rfl | (simp only [tocvs, tocv, toboxes, tobox, updH_at, Nat.reduceEqDiff, ↓reduceIte, hF, knl, kn0, kn1, sp_abs, hj0, ej]; rfl)) (by simp) ?_
   simp (disch := omega) only [wt, seval, reduceCtorEq, Nat.reduceEqDiff, rqs, hF, knl, kn0, kn1, sp_abs, hj0, ej]
   first | exact log_by (by kernel_rfl) | refine ⟨log_by (by kernel_rfl), ?_⟩
   refine ⟨⟨j + 2, 0, 0, 0, by omega, ?_⟩, by omega⟩
   (repeat' apply And.intro) <;> first | rfl | omega
 ·obtain rfl : i = l.length := by omega
  simp (disch := omega) only [wt, seval, reduceCtorEq, Nat.reduceEqDiff, rqs, hF]
  try rfl
end Go.Proofs.YtdokaihemcnkmaaGreat

namespace Go.Proofs.YtdokaihemcnkmaaGreat
open Go Go.Proofs Go.AL
set_option linter.unusedSimpArgs false
set_option linter.unusedVariables false
def insAt {α : Type} (l : List α) (k : Nat) (x : α) : List α := l.take k ++ x :: l.drop k
theorem insAt_end {α : Type} (l : List α) (x : α) : insAt l l.length x = l ++ [x] := by
 rw [insAt, List.take_length, List.drop_length]
theorem insAt_len {α : Type} {l : List α} {k : Nat} (x : α) (h : k ≤ l.length) : (insAt l k x).length = l.length + 1 := by
 rw [insAt, List.length_append, List.length_cons, List.length_take, List.length_drop]; omega
theorem insAt_swap {α : Type} {l : List α} {k : Nat} (x d : α) (h : k < l.length) : ((insAt l (k + 1) x).set (k + 1) (l.getD k d)).set k x = insAt l k x := by
 have hg : l.getD k d = l[k] := by simp [List.getD, h]
 have e1 : l.take (k + 1) = l.take k ++ [l[k]] := by rw [List.take_add_one]; simp [h]
 have e2 : l.drop k = l[k] :: l.drop (k + 1) := List.drop_eq_getElem_cons h
 have lk : (l.take k).length = k := by rw [List.length_take]; omega
 rw [insAt, insAt, hg, e1, e2, List.append_assoc]
 rw [List.set_append_right _ _ (by omega), List.set_append_right _ _ (by omega), lk]
 simp
theorem insAt_at {α : Type} {l : List α} {k : Nat} (x d : α) (h : k ≤ l.length) : (insAt l k x).getD k d = x := by
 have lk : (l.take k).length = k := by rw [List.length_take]; omega
 rw [insAt, List.getD, List.getElem?_append_right (by omega), lk, Nat.sub_self]; rfl
theorem insAt_before {α : Type} {l : List α} {k : Nat} (x d : α) (h : k < l.length) : (insAt l (k + 1) x).getD k d = l.getD k d := by
 have lk : (l.take (k + 1)).length = k + 1 := by rw [List.length_take]; omega
 rw [insAt, List.getD, List.getElem?_append_left (by omega), List.getElem?_take, if_pos (by omega)]; rfl
theorem insAt_mem {α : Type} {l : List α} {k : Nat} {x y : α} : y ∈ insAt l k x ↔ y = x ∨ y ∈ l := by
 rw [insAt, List.mem_append, List.mem_cons]
 have h := List.take_append_drop k l
 constructor
 ·rintro (h1 | h1 | h1)
  ·exact .inr (List.mem_of_mem_take h1)
  ·exact .inl h1
  ·exact .inr (List.mem_of_mem_drop h1)
 ·rintro (h1 | h1)
  ·exact .inr (.inl h1)
  ·rw [← h, List.mem_append] at h1
   rcases h1 with h1 | h1
   ·exact .inl h1
   ·exact .inr (.inr h1)
def Rise (l : List RQ) : Prop := l.Pairwise fun a b => qv a < qv b
theorem rise_ins {l : List RQ} (h : Rise l) {k : Nat} {x : RQ} (hk : k ≤ l.length) (h1 : ∀ j, j < k → qv (l.getD j q0) < qv x) (h2 : ∀ j, k ≤ j → j < l.length → qv x < qv (l.getD j q0)) : Rise (insAt l k x) := by
 unfold Rise at *
 have e := List.take_append_drop k l
 have h' := h
 rw [← e, List.pairwise_append] at h'
 obtain ⟨a, b, c⟩ := h'
 have m1 : ∀ y ∈ l.take k, qv y < qv x := fun y hy => by
  obtain ⟨j, hj, rfl⟩ := List.getElem_of_mem hy
  rw [List.length_take] at hj
  have := h1 j (by omega)
  rwa [List.getD, List.getElem?_eq_getElem (show j < l.length by omega), Option.getD_some, ← List.getElem_take] at this
 have m2 : ∀ y ∈ l.drop k, qv x < qv y := fun y hy => by
  obtain ⟨j, hj, rfl⟩ := List.getElem_of_mem hy
  rw [List.length_drop] at hj
  have := h2 (k + j) (by omega) (by omega)
  rw [List.getElem_drop]
  rwa [List.getD, List.getElem?_eq_getElem (show k + j < l.length by omega), Option.getD_some] at this
 rw [insAt, List.pairwise_append, List.pairwise_cons]
 refine ⟨a, ⟨m2, b⟩, fun y hy z hz => ?_⟩
 rcases List.mem_cons.1 hz with rfl | hz
 ·exact m1 y hy
 ·exact c y hy z hz
theorem rise_get {l : List RQ} (h : Rise l) {i j : Nat} (hij : i < j) (hj : j < l.length) : qv (l.getD i q0) < qv (l.getD j q0) := by
 have := List.pairwise_iff_getElem.1 h i j (by omega) hj hij
 rw [List.getD, List.getD, List.getElem?_eq_getElem (show i < l.length by omega), List.getElem?_eq_getElem hj]
 exact this
theorem rise_nodup {l : List RQ} (h : Rise l) : (l.map qv).Nodup := by
 rw [List.Nodup, List.pairwise_map]
 exact List.Pairwise.imp (fun {a b} hab e => by rw [e] at hab; exact Rat.lt_irrefl hab) h
end Go.Proofs.YtdokaihemcnkmaaGreat
