/-
 Contracts of the functions that the law reaches.
-/
import Derived.Test.YtdokaihemcnkmaaGreatL31M
import Derived.Test.YtdokaihemcnkmaaGreatAbsPM
import Derived.Test.YtdokaihemcnkmaaGreatL340M
set_option maxHeartbeats 2000000
namespace Go.Proofs.YtdokaihemcnkmaaGreat
open Go Go.Proofs Go.AL
set_option linter.unusedSimpArgs false
set_option linter.unusedVariables false
abbrev cw (p : List RI) : CV := .iv (.sl (raws p))
abbrev cp (q : List Int) : CV := .iv (.sl (cpoly q))
theorem cp_ext {p q : List Int} (h : ∀ k, cf p k = cf q k) : cp p = cp q := by unfold cp; rw [cpoly_ext h]
theorem wrap_neg_u64 {n : Int} (h : -9223372036854775808 ≤ n) (h' : n < 0) : IntKind.u64.wrap (0 - IntKind.u64.wrap n) = ((n.natAbs : Nat) : Int) := by
 simp only [IntKind.wrap, IntKind.signed, IntKind.bits, Bool.false_and, Bool.false_eq_true, if_false]
 omega
theorem wrap_pos_u64 {n : Int} (h : 0 ≤ n) (h' : n ≤ 9223372036854775807) : IntKind.u64.wrap n = ((n.natAbs : Nat) : Int) := by
 simp only [IntKind.wrap, IntKind.signed, IntKind.bits, Bool.false_and, Bool.false_eq_true, if_false]
 omega
theorem zOf_ok (n : Int) (h : -9223372036854775808 ≤ n) (h' : n ≤ 9223372036854775807) : AC Tryz.prog 131 [ci n] none [cz n] := by
 refine AC.by_walk (rs := [.cell 2 27]) ords Tryz.func131 (by rfl) (by rfl) (by rfl) (by rfl) (by rfl) ?_
 simp (disch := omega) only [wt, seval, reduceCtorEq, Nat.reduceEqDiff]
 refine if_by (fun hn => ?_) (fun hn => ?_)
 ·simp (disch := omega) only [wt, seval, reduceCtorEq, Nat.reduceEqDiff]
  rw [wrap_neg_u64 h hn]
  refine call_by ((nof_ok n.natAbs (by simp only [W]; omega))) (by rfl) (by simp) ?_
  simp (disch := omega) only [wt, seval, reduceCtorEq, Nat.reduceEqDiff]
  have e : n = sg true n.natAbs := by unfold sg; simp; omega
  have := zof_ok true n.natAbs
  rw [← e] at this
  refine call_by (this) (by rfl) (by simp) ?_
  simp (disch := omega) only [wt, seval, reduceCtorEq, Nat.reduceEqDiff]
 ·simp (disch := omega) only [wt, seval, reduceCtorEq, Nat.reduceEqDiff]
  rw [wrap_pos_u64 (by omega) h']
  refine call_by ((nof_ok n.natAbs (by simp only [W]; omega))) (by rfl) (by simp) ?_
  simp (disch := omega) only [wt, seval, reduceCtorEq, Nat.reduceEqDiff]
  have e : n = sg false n.natAbs := by unfold sg; simp; omega
  have := zof_ok false n.natAbs
  rw [← e] at this
  refine call_by (this) (by rfl) (by simp) ?_
  simp (disch := omega) only [wt, seval, reduceCtorEq, Nat.reduceEqDiff]
theorem size_ok (p : List RI) (h : RP (2 ^ 40) (2 ^ 40) p) : AC Tryz.prog 211 [cw p] none [ci (tz (pv p))] := by
 refine AC.by_walk (rs := [.tmp 2]) ords Tryz.func211 (by rfl) (by rfl) (by rfl) (by rfl) (by rfl) ?_
 have hl := h.1
 simp (disch := omega) only [wt, seval, reduceCtorEq, Nat.reduceEqDiff]
 refine aloop_by (fun f H => ∃ k : Nat, k ≤ p.length ∧ f 0 = .iv (.sl (raws p)) ∧ f 3 = .iv (.int .i64 k) ∧ tz ((pv p).take k) = tz (pv p)) (fun f H => (intAt f 3).toNat) ?_ ?_
 ·exact ⟨p.length, Nat.le_refl _, by simp (disch := omega) only [wt, seval, reduceCtorEq, Nat.reduceEqDiff], by simp (disch := omega) only [wt, seval, reduceCtorEq, Nat.reduceEqDiff], by rw [← pv_len p, List.take_length]⟩
 rintro f H ⟨k, hk, h0, h3, ht⟩
 rw [intAt_of h3]
 by_cases hc : 0 < (k : Int)
 ·simp (disch := omega) only [wt, seval, reduceCtorEq, Nat.reduceEqDiff, h0, h3, hc]
  have ek : ((k : Int) - 1).toNat = k - 1 := by omega
  have ek' : k = (k - 1) + 1 := by omega
  rw [ek]
  refine call_by ((zsign_ok (p.getD (k - 1) (false, [])) (h.get _))) (by first | rfl | (simp only [tocvs, tocv, toboxes, tobox, updH_at, Nat.reduceEqDiff, ↓reduceIte, h0, h3, hc]; rfl)) (by simp) ?_
  simp (disch := omega) only [wt, seval, reduceCtorEq, Nat.reduceEqDiff, h0, h3, hc]
  rw [← cf_pv]
  refine if_by (fun hz => ?_) (fun hz => ?_)
  ·simp (disch := omega) only [wt, seval, reduceCtorEq, Nat.reduceEqDiff, h0, h3]
   refine ⟨⟨k - 1, by omega, by omega, ?_⟩, by omega⟩
   rw [← tz_take_zero (k := k - 1) (by rw [pv_len]; omega) (Int.sign_eq_zero_iff_zero.mp hz), ← ek', ht]
  ·simp (disch := omega) only [wt, seval, reduceCtorEq, Nat.reduceEqDiff, h0, h3]
   rw [← ht, ek', tz_full (by rw [pv_len]; omega) (fun e => hz (Int.sign_eq_zero_iff_zero.mpr e))]
 ·simp (disch := omega) only [wt, seval, reduceCtorEq, Nat.reduceEqDiff, h0, h3, hc]
  obtain rfl : k = 0 := by omega
  rw [← ht]; rfl
theorem trimz_take_succ {q : List Int} {k : Nat} (h : k < tz q) : (trimz q).take (k + 1) = (trimz q).take k ++ [cf q k] := by
 rw [List.take_add_one]
 congr 1
 rw [← cf_trimz]
 have : k < (trimz q).length := by rw [trimz_len]; exact h
 simp [cf, List.getD, this]
theorem pnorm_ok (p : List RI) (h : RP (2 ^ 40) (2 ^ 40) p) : AC Tryz.prog 112 [cw p] none [cp (pv p)] := by
 refine AC.by_walk (rs := [.tmp 2]) ords Tryz.func112 (by rfl) (by rfl) (by rfl) (by rfl) (by rfl) ?_
 have hl := h.1
 have htl := tz_le (pv p)
 rw [pv_len] at htl
 simp (disch := omega) only [wt, seval, reduceCtorEq, Nat.reduceEqDiff]
 refine call_by ((size_ok p h)) (by rfl) (by simp) ?_
 simp (disch := omega) only [wt, seval, reduceCtorEq, Nat.reduceEqDiff]
 refine aloop_nil 3 3 27 2 (by simp (disch := omega) only [wt, seval, reduceCtorEq, Nat.reduceEqDiff]) (fun f H => ∃ (k st : Nat), k ≤ tz (pv p) ∧ f 0 = .iv (.sl (raws p)) ∧ f 3 = .hs 3 st ∧ f 6 = .iv (.int .i64 (tz (pv p))) ∧ f 7 = .iv (.int .i64 k) ∧ H 3 = .blk false st 27 2 (raws (((trimz (pv p)).take k).map canon))) (fun f H => (tz (pv p) - intAt f 7).toNat) ?_ ?_
 ·refine ⟨0, 1, by omega, ?_⟩
  simp (disch := omega) only [wt, seval, reduceCtorEq, Nat.reduceEqDiff, ghostF, ghostH, List.take_zero]
 rintro f H ⟨k, st, hk, h0, h3, h6, h7, hH⟩
 rw [intAt_of h7]
 simp (disch := omega) only [wt, seval, reduceCtorEq, Nat.reduceEqDiff, h0, h3, h6, h7, hH]
 refine if_by (fun hlt => ?_) (fun hlt => ?_)
 ·simp (disch := omega) only [wt, seval, reduceCtorEq, Nat.reduceEqDiff, h0, h3, h6, h7, hH]
  have hq : (((trimz (pv p)).take k).map canon).length = k := by rw [List.length_map, List.length_take, trimz_len]; omega
  refine call_by ((znorm_ok (p.getD k (false, [])) (h.get _))) (by first | rfl | (simp only [tocvs, tocv, toboxes, tobox, updH_at, Nat.reduceEqDiff, ↓reduceIte, h0, h3, h6, h7, hH, hq]; rfl)) (by simp) ?_
  simp (disch := omega) only [wt, seval, reduceCtorEq, Nat.reduceEqDiff, h0, h3, h6, h7, hH, hq]
  refine ⟨⟨k + 1, st + 1, by omega, rfl, by omega, ?_⟩, by omega⟩
  rw [trimz_take_succ (by omega), cf_pv]
 ·simp (disch := omega) only [wt, seval, reduceCtorEq, Nat.reduceEqDiff, h0, h3, h6, h7, hH]
  have hk : k = tz (pv p) := by omega
  rw [hk, List.take_of_length_le (by rw [trimz_len]; exact Nat.le_refl _)]
  rfl
theorem pat_ok (p : List RI) (i : Nat) (hl : p.length ≤ 2 ^ 40) (hi : i ≤ 2 ^ 40) : AC Tryz.prog 213 [cw p, ci i] none [cr (p.getD i (false, []))] := by
 refine AC.by_walk (rs := [.cell 4 27]) ords Tryz.func213 (by rfl) (by rfl) (by rfl) (by rfl) (by rfl) ?_
 have hi0 : ¬ (i : Int) < 0 := by omega
 simp (disch := omega) only [wt, seval, reduceCtorEq, Nat.reduceEqDiff, hi0]
 refine if_by (fun hn => ?_) (fun hn => ?_)
 ·simp (disch := omega) only [wt, seval, reduceCtorEq, Nat.reduceEqDiff]
  have e : p.getD i (false, []) = (false, []) := by rw [List.getD_eq_getElem?_getD, List.getElem?_eq_none (by omega)]; rfl
  rw [e]
 ·simp (disch := omega) only [wt, seval, reduceCtorEq, Nat.reduceEqDiff]
theorem padd_ok (a b : List RI) (ha : RP (2 ^ 30) (2 ^ 36) a) (hb : RP (2 ^ 30) (2 ^ 36) b) : AC Tryz.prog 113 [cw a, cw b] none [cp (padd (pv a) (pv b))] := by
 refine AC.by_walk (rs := [.tmp 4]) ords Tryz.func113 (by rfl) (by rfl) (by rfl) (by rfl) (by rfl) ?_
 have hla := ha.1
 have hlb := hb.1
 simp (disch := omega) only [wt, seval, reduceCtorEq, Nat.reduceEqDiff]
 generalize hn : max a.length b.length = n at *
 have hnI : max (a.length : Int) (b.length : Int) = (n : Int) := by omega
 rw [hnI]
 simp (disch := omega) only [wt, seval, reduceCtorEq, Nat.reduceEqDiff]
 refine aloop_by (fun f H => ∃ (i st : Nat) (out : List Int), i ≤ n ∧ out.length = n ∧ (∀ k, zl (cf out k) ≤ 2 ^ 36 + 1) ∧ (∀ k, k < i → cf out k = cf (pv a) k + cf (pv b) k) ∧
  f 0 = .iv (.sl (raws a)) ∧ f 1 = .iv (.sl (raws b)) ∧ f 5 = .hs 12 st ∧ f 14 = .iv (.int .i64 n) ∧ f 15 = .iv (.int .i64 i) ∧ H 12 = .blk false st 27 2 (raws (out.map canon))) (fun f H => (n - intAt f 15).toNat) ?_ ?_
 ·exact ⟨0, 1, List.replicate n 0, by omega, by simp, fun k => by rw [cf_rep, zl_zero]; omega, fun k hk => by omega, by simp (disch := omega) only [wt, seval, reduceCtorEq, Nat.reduceEqDiff], by simp (disch := omega) only [wt, seval, reduceCtorEq, Nat.reduceEqDiff], by simp (disch := omega) only [wt, seval, reduceCtorEq, Nat.reduceEqDiff], by simp (disch := omega) only [wt, seval, reduceCtorEq, Nat.reduceEqDiff], by simp (disch := omega) only [wt, seval, reduceCtorEq, Nat.reduceEqDiff], by simp (disch := omega) only [wt, seval, reduceCtorEq, Nat.reduceEqDiff, Int.toNat_natCast, rep_canon]⟩
 rintro f H ⟨i, st, out, hi, hol, hz, hv, h0, h1, h5, h14, h15, hH⟩
 rw [intAt_of h15]
 simp (disch := omega) only [wt, seval, reduceCtorEq, Nat.reduceEqDiff, h0, h1, h5, h14, h15, hH]
 refine if_by (fun hlt => ?_) (fun hlt => ?_)
 ·have hq : (out.map canon).length = n := by rw [List.length_map, hol]
  simp (disch := omega) only [wt, seval, reduceCtorEq, Nat.reduceEqDiff, h0, h1, h5, h14, h15, hH, hq]
  refine call_by ((pat_ok a i (by omega) (by omega))) (by first | rfl | (simp only [tocvs, tocv, toboxes, tobox, updH_at, Nat.reduceEqDiff, ↓reduceIte, h0, h1, h5, h14, h15, hH, hq]; rfl)) (by simp) ?_
  simp (disch := omega) only [wt, seval, reduceCtorEq, Nat.reduceEqDiff, h0, h1, h5, h14, h15, hH, hq]
  refine call_by ((pat_ok b i (by omega) (by omega))) (by first | rfl | (simp only [tocvs, tocv, toboxes, tobox, updH_at, Nat.reduceEqDiff, ↓reduceIte, h0, h1, h5, h14, h15, hH, hq]; rfl)) (by simp) ?_
  simp (disch := omega) only [wt, seval, reduceCtorEq, Nat.reduceEqDiff, h0, h1, h5, h14, h15, hH, hq]
  refine call_by ((zadd_ok (a.getD i (false, [])) (b.getD i (false, [])) ((ha.get i).mono (by omega)) ((hb.get i).mono (by omega)))) (by first | rfl | (simp only [tocvs, tocv, toboxes, tobox, updH_at, Nat.reduceEqDiff, ↓reduceIte, h0, h1, h5, h14, h15, hH, hq]; rfl)) (by simp) ?_
  simp (disch := omega) only [wt, seval, reduceCtorEq, Nat.reduceEqDiff, h0, h1, h5, h14, h15, hH, hq]
  rw [← cf_pv, ← cf_pv]
  refine ⟨⟨i + 1, st, out.set i (cf (pv a) i + cf (pv b) i), by omega, by simp [hol], fun k => ?_, fun k hk => ?_, rfl, by omega, rfl⟩, by omega⟩
  ·rw [cf_set (by omega)]
   split
   ·have := zl_add (cf (pv a) i) (cf (pv b) i)
    have := ha.pv.cf i
    have := hb.pv.cf i
    omega
   ·exact hz k
  ·rw [cf_set (by omega)]
   split
   ·rename_i e; rw [e]
   ·exact hv k (by omega)
 ·simp (disch := omega) only [wt, seval, reduceCtorEq, Nat.reduceEqDiff, h0, h1, h5, h14, h15, hH]
  have e : cp (padd (pv a) (pv b)) = cp (pv (out.map canon)) := by
   refine cp_ext fun k => ?_
   rw [pv_canon, cf_padd]
   by_cases hk : k < n
   ·exact (hv k (by omega)).symm
   ·rw [cf_ge (q := out) (by omega), cf_ge (by rw [pv_len]; omega), cf_ge (by rw [pv_len]; omega)]; rfl
  rw [e]
  refine call_by ((pnorm_ok (out.map canon) (RP.canon (.of (by omega) fun k => Nat.le_trans (hz k) (by omega))))) (by first | rfl | (simp only [tocvs, tocv, toboxes, tobox, updH_at, Nat.reduceEqDiff, ↓reduceIte, h0, h1, h5, h14, h15, hH]; rfl)) (by simp) ?_
  simp (disch := omega) only [wt, seval, reduceCtorEq, Nat.reduceEqDiff, h0, h1, h5, h14, h15, hH]
theorem pscale_ok (p : List RI) (c : RI) (hp : RP (2 ^ 30) (2 ^ 35) p) (hc : Sz (2 ^ 35) c) : AC Tryz.prog 116 [cw p, cr c] none [cp (pscale (iv c) (pv p))] := by
 refine AC.by_walk (rs := [.tmp 4]) ords Tryz.func116 (by rfl) (by rfl) (by rfl) (by rfl) (by rfl) ?_
 have hl := hp.1
 simp (disch := omega) only [wt, seval, reduceCtorEq, Nat.reduceEqDiff]
 refine aloop_by (fun f H => ∃ (i st st3 : Nat) (out : List Int), i ≤ p.length ∧ out.length = p.length ∧ (∀ k, zl (cf out k) ≤ 2 ^ 36) ∧ (∀ k, k < i → cf out k = cf (pv p) k * iv c) ∧
  f 0 = .iv (.sl (raws p)) ∧ f 3 = .hp 3 st3 0 0 ∧ f 5 = .hs 9 st ∧ f 11 = .iv (.int .i64 p.length) ∧ f 12 = .iv (.int .i64 i) ∧ H 9 = .blk false st 27 2 (raws (out.map canon)) ∧ H 3 = .blk false st3 27 2 [prow c]) (fun f H => (p.length - intAt f 12).toNat) ?_ ?_
 ·exact ⟨0, 1, 1, List.replicate p.length 0, by omega, by simp, fun k => by rw [cf_rep, zl_zero]; omega, fun k hk => by omega, by simp (disch := omega) only [wt, seval, reduceCtorEq, Nat.reduceEqDiff], by simp (disch := omega) only [wt, seval, reduceCtorEq, Nat.reduceEqDiff], by simp (disch := omega) only [wt, seval, reduceCtorEq, Nat.reduceEqDiff], by simp (disch := omega) only [wt, seval, reduceCtorEq, Nat.reduceEqDiff], by simp (disch := omega) only [wt, seval, reduceCtorEq, Nat.reduceEqDiff], by simp (disch := omega) only [wt, seval, reduceCtorEq, Nat.reduceEqDiff, Int.toNat_natCast, rep_canon], by simp (disch := omega) only [wt, seval, reduceCtorEq, Nat.reduceEqDiff]⟩
 rintro f H ⟨i, st, st3, out, hi, hol, hz, hv, h0, h3, h5, h11, h12, hH, hH3⟩
 rw [intAt_of h12]
 simp (disch := omega) only [wt, seval, reduceCtorEq, Nat.reduceEqDiff, h0, h3, h5, h11, h12, hH, hH3]
 refine if_by (fun hlt => ?_) (fun hlt => ?_)
 ·have hq : (out.map canon).length = p.length := by rw [List.length_map, hol]
  simp (disch := omega) only [wt, seval, reduceCtorEq, Nat.reduceEqDiff, h0, h3, h5, h11, h12, hH, hH3, hq]
  refine .inl ⟨tmps_by (by kernel_rfl), ?_⟩
  refine call_by ((zmul_ok (p.getD i (false, [])) c ((hp.get i).mono (by omega)) (hc.mono (by omega)))) (by first | rfl | (simp only [tocvs, tocv, toboxes, tobox, updH_at, Nat.reduceEqDiff, ↓reduceIte, h0, h3, h5, h11, h12, hH, hH3, hq]; rfl)) (by simp) ?_
  simp (disch := omega) only [wt, seval, reduceCtorEq, Nat.reduceEqDiff, h0, h3, h5, h11, h12, hH, hH3, hq]
  rw [← cf_pv]
  first | exact log_by (by kernel_rfl) | refine ⟨log_by (by kernel_rfl), ?_⟩
  refine ⟨⟨i + 1, st, st3, out.set i (cf (pv p) i * iv c), by omega, by simp [hol], fun k => ?_, fun k hk => ?_, rfl, rfl, by omega, rfl, rfl⟩, by omega⟩
  ·rw [cf_set (by omega)]
   split
   ·have := zl_mul (cf (pv p) i) (iv c)
    have := hp.pv.cf i
    have := zl_iv hc
    omega
   ·exact hz k
  ·rw [cf_set (by omega)]
   split
   ·rename_i e; rw [e]
   ·exact hv k (by omega)
 ·simp (disch := omega) only [wt, seval, reduceCtorEq, Nat.reduceEqDiff, h0, h3, h5, h11, h12, hH, hH3]
  have e : cp (pscale (iv c) (pv p)) = cp (pv (out.map canon)) := by
   refine cp_ext fun k => ?_
   rw [pv_canon, cf_pscale]
   by_cases hk : k < p.length
   ·exact (hv k (by omega)).symm
   ·rw [cf_ge (q := out) (by omega), cf_ge (by rw [pv_len]; omega)]; simp
  rw [e]
  refine call_by ((pnorm_ok (out.map canon) (RP.canon (.of (by omega) fun k => Nat.le_trans (hz k) (by omega))))) (by first | rfl | (simp only [tocvs, tocv, toboxes, tobox, updH_at, Nat.reduceEqDiff, ↓reduceIte, h0, h3, h5, h11, h12, hH, hH3]; rfl)) (by simp) ?_
  simp (disch := omega) only [wt, seval, reduceCtorEq, Nat.reduceEqDiff, h0, h3, h5, h11, h12, hH, hH3]
theorem pneg_ok (p : List RI) (hp : RP (2 ^ 30) (2 ^ 35) p) : AC Tryz.prog 115 [cw p] none [cp (pscale (-1) (pv p))] := by
 refine AC.by_walk (rs := [.tmp 2]) ords Tryz.func115 (by rfl) (by rfl) (by rfl) (by rfl) (by rfl) ?_
 simp (disch := omega) only [wt, seval, reduceCtorEq, Nat.reduceEqDiff]
 refine call_by ((zOf_ok (-1) (by omega) (by omega))) (by rfl) (by simp) ?_
 simp (disch := omega) only [wt, seval, reduceCtorEq, Nat.reduceEqDiff]
 have := pscale_ok p (canon (-1)) hp ((sz_canon (-1)).mono (by have : zl (-1) ≤ 1 := zl_le.mpr (by decide); omega))
 rw [iv_canon] at this
 refine call_by (this) (by rfl) (by simp) ?_
 simp (disch := omega) only [wt, seval, reduceCtorEq, Nat.reduceEqDiff]
theorem psub_ok (a b : List RI) (ha : RP (2 ^ 30) (2 ^ 36) a) (hb : RP (2 ^ 30) (2 ^ 35) b) : AC Tryz.prog 114 [cw a, cw b] none [cp (padd (pv a) (pscale (-1) (pv b)))] := by
 refine AC.by_walk (rs := [.tmp 4]) ords Tryz.func114 (by rfl) (by rfl) (by rfl) (by rfl) (by rfl) ?_
 simp (disch := omega) only [wt, seval, reduceCtorEq, Nat.reduceEqDiff]
 refine call_by ((pneg_ok b hb)) (by rfl) (by simp) ?_
 simp (disch := omega) only [wt, seval, reduceCtorEq, Nat.reduceEqDiff]
 have h1 : zl (-1) ≤ 1 := zl_le.mpr (by decide)
 have := padd_ok a ((trimz (pscale (-1) (pv b))).map canon) ha (RP.canon (hb.pv.pscale.trimz.mono (by omega) (by omega)))
 have e : cp (padd (pv a) (pv ((trimz (pscale (-1) (pv b))).map canon))) = cp (padd (pv a) (pscale (-1) (pv b))) := by
  refine cp_ext fun k => ?_
  rw [pv_canon, cf_padd, cf_padd, cf_trimz]
 rw [e] at this
 refine call_by (this) (by rfl) (by simp) ?_
 simp (disch := omega) only [wt, seval, reduceCtorEq, Nat.reduceEqDiff]
theorem pdeg_ok (p : List RI) (h : RP (2 ^ 40) (2 ^ 40) p) : AC Tryz.prog 214 [cw p] none [ci ((tz (pv p) : Int) - 1)] := by
 refine AC.by_walk (rs := [.tmp 2]) ords Tryz.func214 (by rfl) (by rfl) (by rfl) (by rfl) (by rfl) ?_
 have hl := h.1
 have htl := tz_le (pv p)
 rw [pv_len] at htl
 simp (disch := omega) only [wt, seval, reduceCtorEq, Nat.reduceEqDiff]
 refine call_by ((size_ok p h)) (by rfl) (by simp) ?_
 simp (disch := omega) only [wt, seval, reduceCtorEq, Nat.reduceEqDiff]
end Go.Proofs.YtdokaihemcnkmaaGreat

namespace Go.Proofs.YtdokaihemcnkmaaGreat
open Go Go.Proofs Go.AL
set_option linter.unusedSimpArgs false
set_option linter.unusedVariables false
theorem pmul_ok (a b : List RI) (ha : RP (2 ^ 30) (2 ^ 35) a) (hb : RP (2 ^ 30) (2 ^ 35) b) : AC Tryz.prog 88 [cw a, cw b] none [cp (pmul (pv a) (pv b))] := by
 refine AC.by_walk (rs := [.tmp 4]) ords Tryz.func88 (by rfl) (by rfl) (by rfl) (by rfl) (by rfl) ?_
 have pa := ha.pv.trimz
 have pb := hb.pv.trimz
 have e0 : cp (pmul (pv a) (pv b)) = cp (pmul (trimz (pv a)) (trimz (pv b))) := by
  refine cp_ext fun k => ?_
  rw [cf_pmul, cf_pmul, cv_cf_congr (fun j => (cf_trimz (pv a) j).symm), cv_congr _ k (fun j => (cf_trimz (pv b) j).symm)]
 rw [e0]
 simp (disch := omega) only [wt, seval, reduceCtorEq, Nat.reduceEqDiff]
 refine call_by ((pnorm_ok a (ha.mono (by omega) (by omega)))) (by rfl) (by simp) ?_
 simp (disch := omega) only [wt, seval, reduceCtorEq, Nat.reduceEqDiff]
 refine call_by ((pnorm_ok b (hb.mono (by omega) (by omega)))) (by rfl) (by simp) ?_
 simp (disch := omega) only [wt, seval, reduceCtorEq, Nat.reduceEqDiff]
 unfold cpoly
 generalize trimz (pv a) = A at *
 generalize trimz (pv b) = B at *
 have hA := pa.1
 have hB := pb.1
 have hAl : (A.map canon).length = A.length := by simp
 have hBl : (B.map canon).length = B.length := by simp
 simp (disch := omega) only [wt, seval, reduceCtorEq, Nat.reduceEqDiff, hAl, hBl]
 by_cases hza : (A.length : Int) = 0
 ·have hA0 : A = [] := by rw [← List.length_eq_zero_iff]; omega
  subst hA0
  simp (disch := omega) only [wt, seval, reduceCtorEq, Nat.reduceEqDiff, hza, hBl]
  have : trimz (pmul [] B) = [] := by rw [← List.length_eq_zero_iff, trimz_len, tz_zero_iff]; intro k; rw [cf_pmul]; rfl
  unfold cpoly; rw [this]; rfl
 simp (disch := omega) only [wt, seval, reduceCtorEq, Nat.reduceEqDiff, hza, hAl, hBl]
 refine if_by (fun hzb => ?_) (fun hzb => ?_)
 ·have hB0 : B = [] := by rw [← List.length_eq_zero_iff]; omega
  subst hB0
  simp (disch := omega) only [wt, seval, reduceCtorEq, Nat.reduceEqDiff, hza, hAl]
  have : trimz (pmul A []) = [] := by
   rw [← List.length_eq_zero_iff, trimz_len, tz_zero_iff]; intro k; rw [cf_pmul, cv_none]
  unfold cpoly; rw [this]; rfl
 simp (disch := omega) only [wt, seval, reduceCtorEq, Nat.reduceEqDiff, hAl, hBl]
 have eN : (A.length : Int) + (B.length : Int) - 1 = ((A.length + B.length - 1 : Nat) : Int) := by omega
 rw [eN]
 simp (disch := omega) only [wt, seval, reduceCtorEq, Nat.reduceEqDiff, hAl, hBl]
 generalize hN : A.length + B.length - 1 = N at *
 refine aloop_by (fun f H => ∃ (i st : Nat) (out : List Int), i ≤ A.length ∧ out.length = N ∧ (∀ k, cf out k = cv (A.take i) (cf B) k) ∧
  f 0 = .iv (.sl (raws (A.map canon))) ∧ f 1 = .iv (.sl (raws (B.map canon))) ∧ f 5 = .hs 26 st ∧ f 28 = .iv (.int .i64 A.length) ∧ f 29 = .iv (.int .i64 i) ∧ H 26 = .blk false st 27 2 (raws (out.map canon))) (fun f H => (A.length - intAt f 29).toNat) ?_ ?_
 ·exact ⟨0, 1, List.replicate N 0, by omega, by simp, fun k => by rw [cf_rep]; rfl, by simp (disch := omega) only [wt, seval, reduceCtorEq, Nat.reduceEqDiff], by simp (disch := omega) only [wt, seval, reduceCtorEq, Nat.reduceEqDiff], by simp (disch := omega) only [wt, seval, reduceCtorEq, Nat.reduceEqDiff], by simp (disch := omega) only [wt, seval, reduceCtorEq, Nat.reduceEqDiff, hAl], by simp (disch := omega) only [wt, seval, reduceCtorEq, Nat.reduceEqDiff], by simp (disch := omega) only [wt, seval, reduceCtorEq, Nat.reduceEqDiff, Int.toNat_natCast, rep_canon]⟩
 rintro f H ⟨i, st, out, hi, hol, hv, h0, h1, h5, h28, h29, hH⟩
 rw [intAt_of h29]
 simp (disch := omega) only [wt, seval, reduceCtorEq, Nat.reduceEqDiff, h0, h1, h5, h28, h29, hH, hAl, hBl]
 refine if_by (fun hlt => ?_) (fun hlt => ?_)
 ·simp (disch := omega) only [wt, seval, reduceCtorEq, Nat.reduceEqDiff, h0, h1, h5, h28, h29, hH, hAl, hBl]
  refine aloop_by (fun f H => ∃ (j st : Nat) (out : List Int), j ≤ B.length ∧ out.length = N ∧ (∀ k, cf out k = cv (A.take i) (cf B) k + (if i ≤ k ∧ k < i + j then cf A i * cf B (k - i) else 0)) ∧
   f 0 = .iv (.sl (raws (A.map canon))) ∧ f 1 = .iv (.sl (raws (B.map canon))) ∧ f 5 = .hs 26 st ∧ f 6 = .iv (.int .i64 i) ∧ f 28 = .iv (.int .i64 A.length) ∧ f 29 = .iv (.int .i64 i) ∧ f 33 = .iv (.int .i64 B.length) ∧ f 34 = .iv (.int .i64 j) ∧ H 26 = .blk false st 27 2 (raws (out.map canon))) (fun f H => (B.length - intAt f 34).toNat) ?_ ?_
  ·refine ⟨0, st, out, by omega, hol, fun k => ?_, by simp (disch := omega) only [wt, seval, reduceCtorEq, Nat.reduceEqDiff, h0], by simp (disch := omega) only [wt, seval, reduceCtorEq, Nat.reduceEqDiff, h1], by simp (disch := omega) only [wt, seval, reduceCtorEq, Nat.reduceEqDiff, h5], by simp (disch := omega) only [wt, seval, reduceCtorEq, Nat.reduceEqDiff], by simp (disch := omega) only [wt, seval, reduceCtorEq, Nat.reduceEqDiff, h28], by simp (disch := omega) only [wt, seval, reduceCtorEq, Nat.reduceEqDiff, h29], by simp (disch := omega) only [wt, seval, reduceCtorEq, Nat.reduceEqDiff, hBl], by simp (disch := omega) only [wt, seval, reduceCtorEq, Nat.reduceEqDiff], by simp (disch := omega) only [wt, seval, reduceCtorEq, Nat.reduceEqDiff, hH]⟩
   rw [hv k, if_neg (by omega), Int.add_zero]
  clear h0 h1 h5 h28 h29 hH hv hol
  clear out st f H
  rintro f H ⟨j, st, out, hj, hol, hv, h0, h1, h5, h6, h28, h29, h33, h34, hH⟩
  rw [intAt_of h34]
  simp (disch := omega) only [wt, seval, reduceCtorEq, Nat.reduceEqDiff, h0, h1, h5, h6, h28, h29, h33, h34, hH]
  refine if_by (fun hlj => ?_) (fun hlj => ?_)
  ·have hq : (out.map canon).length = N := by rw [List.length_map, hol]
   have eij : (i : Int) + (j : Int) = ((i + j : Nat) : Int) := by omega
   simp (disch := omega) only [wt, seval, reduceCtorEq, Nat.reduceEqDiff, h0, h1, h5, h6, h28, h29, h33, h34, hH, hq, hAl, hBl]
   rw [eij]
   simp (disch := omega) only [wt, seval, reduceCtorEq, Nat.reduceEqDiff, h0, h1, h5, h6, h28, h29, h33, h34, hH, hq, hAl, hBl]
   refine .inl ⟨tmps_by (by kernel_rfl), ?_⟩
   have hAi := pa.cf i
   have hBj := pb.cf j
   have hprod := zl_mul (cf A i) (cf B j)
   have hold : cf out (i + j) = cv (A.take i) (cf B) (i + j) := by rw [hv, if_neg (by omega), Int.add_zero]
   have hzo : zl (cf out (i + j)) ≤ 2 ^ 35 + 2 ^ 35 + 1 := by rw [hold]; exact zl_cv (PB_take pa i) pb (by decide) _
   have m := zmul_ok (canon (cf A i)) (canon (cf B j)) ((sz_canon _).mono (by omega)) ((sz_canon _).mono (by omega))
   rw [iv_canon, iv_canon] at m
   refine call_by (m) (by first | rfl | (simp only [tocvs, tocv, toboxes, tobox, updH_at, Nat.reduceEqDiff, ↓reduceIte, h0, h1, h5, h6, h28, h29, h33, h34, hH, hq, hAl, hBl]; rfl)) (by simp) ?_
   simp (disch := omega) only [wt, seval, reduceCtorEq, Nat.reduceEqDiff, h0, h1, h5, h6, h28, h29, h33, h34, hH, hq, hAl, hBl]
   have s := zadd_ok (canon (cf out (i + j))) (canon (cf A i * cf B j)) ((sz_canon _).mono (by omega)) ((sz_canon _).mono (by omega))
   rw [iv_canon, iv_canon] at s
   refine call_by (s) (by first | rfl | (simp only [tocvs, tocv, toboxes, tobox, updH_at, Nat.reduceEqDiff, ↓reduceIte, h0, h1, h5, h6, h28, h29, h33, h34, hH, hq, hAl, hBl]; rfl)) (by simp) ?_
   simp (disch := omega) only [wt, seval, reduceCtorEq, Nat.reduceEqDiff, h0, h1, h5, h6, h28, h29, h33, h34, hH, hq, hAl, hBl]
   first | exact log_by (by kernel_rfl) | refine ⟨log_by (by kernel_rfl), ?_⟩
   refine ⟨⟨j + 1, st, out.set (i + j) (cf out (i + j) + cf A i * cf B j), by omega, by simp [hol], fun k => ?_, rfl, by omega, rfl⟩, by omega⟩
   rw [cf_set (by omega)]
   by_cases e : k = i + j
   ·subst e
    rw [if_pos rfl, if_pos ⟨by omega, by omega⟩, hold, Nat.add_sub_cancel_left]
   ·rw [if_neg e, hv k]
    by_cases hk : i ≤ k ∧ k < i + j
    ·rw [if_pos hk, if_pos ⟨hk.1, by omega⟩]
    ·rw [if_neg hk, if_neg (by omega)]
  ·simp (disch := omega) only [wt, seval, reduceCtorEq, Nat.reduceEqDiff, h0, h1, h5, h6, h28, h29, h33, h34, hH, hAl, hBl]
   refine ⟨⟨i + 1, st, out, by omega, hol, fun k => ?_, rfl, by omega, rfl⟩, by omega⟩
   rw [hv k, cv_take_succ]
   congr 1
   by_cases hk : i ≤ k
   ·rw [if_pos hk]
    by_cases hk2 : k < i + j
    ·rw [if_pos ⟨hk, hk2⟩]
    ·rw [if_neg (by omega), cf_ge (q := B) (by omega), Int.mul_zero]
   ·rw [if_neg hk, if_neg (by omega)]
 ·simp (disch := omega) only [wt, seval, reduceCtorEq, Nat.reduceEqDiff, h0, h1, h5, h28, h29, hH, hAl, hBl]
  have hiA : i = A.length := by omega
  have e : cp (pmul A B) = cp (pv (out.map canon)) := by
   refine cp_ext fun k => ?_
   rw [pv_canon, hv, cf_pmul, hiA, List.take_length]
  unfold cpoly at e
  rw [e]
  refine call_by ((pnorm_ok (out.map canon) (RP.canon (.of (by omega) fun k => by rw [hv]; exact Nat.le_trans (zl_cv (PB_take pa i) pb (by decide) k) (by omega))))) (by first | rfl | (simp only [tocvs, tocv, toboxes, tobox, updH_at, Nat.reduceEqDiff, ↓reduceIte, h0, h1, h5, h28, h29, hH, hAl, hBl]; rfl)) (by simp) ?_
  simp (disch := omega) only [wt, seval, reduceCtorEq, Nat.reduceEqDiff, h0, h1, h5, h28, h29, hH, hAl, hBl]
end Go.Proofs.YtdokaihemcnkmaaGreat

namespace Go.Proofs.YtdokaihemcnkmaaGreat
open Go Go.Proofs Go.AL
set_option linter.unusedSimpArgs false
set_option linter.unusedVariables false
theorem cp_ps {p q : List Int} (h : ps p = ps q) : cp p = cp q := cp_ext (ps_eq h)
theorem pderiv_take {P : List Int} {i : Nat} (h : i + 1 < P.length + 1) (h0 : 0 < i) : pderiv (P.take (i + 1)) = pderiv (P.take i) ++ [cf P i * (i : Int)] := by
 have e : ∀ m, m ≤ P.length → pderiv (P.take m) = (List.range (m - 1)).map fun k => cf P (k + 1) * ((k + 1 : Nat) : Int) := by
  intro m hm
  rw [pderiv, List.length_take, Nat.min_eq_left hm]
  refine List.map_congr_left fun k hk => ?_
  have hk := List.mem_range.mp hk
  simp [cf, List.getD, List.getElem?_take, show k + 1 < m by omega]
 rw [e _ (by omega), e _ (by omega), show i + 1 - 1 = (i - 1) + 1 by omega, List.range_succ, List.map_append, List.map_singleton, show i - 1 + 1 = i by omega]
theorem pderiv_ok (p : List RI) (h : RP (2 ^ 30) (2 ^ 35) p) : AC Tryz.prog 117 [cw p] none [cp (pderiv (pv p))] := by
 refine AC.by_walk (rs := [.tmp 2]) ords Tryz.func117 (by rfl) (by rfl) (by rfl) (by rfl) (by rfl) ?_
 have hl := h.1
 have htl := tz_le (pv p)
 rw [pv_len] at htl
 simp (disch := omega) only [wt, seval, reduceCtorEq, Nat.reduceEqDiff, cpoly_len]
 refine call_by ((size_ok p (h.mono (by omega) (by omega)))) (by rfl) (by simp) ?_
 simp (disch := omega) only [wt, seval, reduceCtorEq, Nat.reduceEqDiff, cpoly_len]
 refine aloop_nil 3 3 27 2 (by simp (disch := omega) only [wt, seval, reduceCtorEq, Nat.reduceEqDiff, cpoly_len]) (fun f H => ∃ (k st : Nat), k ≤ tz (pv p) ∧ f 7 = .iv (.int .i64 k) ∧ f 0 = .iv (.sl (raws p)) ∧ f 3 = .hs 3 st ∧ f 6 = .iv (.int .i64 (tz (pv p))) ∧ H 3 = .blk false st 27 2 (raws ((pderiv ((pv p).take k)).map canon))) (fun f H => (tz (pv p) - intAt f 7).toNat) ?_ ?_
 ·refine ⟨0, 1, by omega, ?_⟩
  simp (disch := omega) only [wt, seval, reduceCtorEq, Nat.reduceEqDiff, cpoly_len, ghostF, ghostH, List.take_zero, pderiv]
 rintro f H ⟨k, st, hk, hF⟩
 rw [intAt_of hF.1]
 simp (disch := omega) only [wt, seval, reduceCtorEq, Nat.reduceEqDiff, cpoly_len, hF]
 refine if_by (fun hlt => ?_) (fun hlt => ?_)
 ·simp (disch := omega) only [wt, seval, reduceCtorEq, Nat.reduceEqDiff, cpoly_len, hF]
  refine if_by (fun h0 => ?_) (fun h0 => ?_)
  ·simp (disch := omega) only [wt, seval, reduceCtorEq, Nat.reduceEqDiff, cpoly_len, hF]
   have hq : ((pderiv ((pv p).take k)).map canon).length = k - 1 := by
    simp only [pderiv, List.length_map, List.length_range, List.length_take, pv_len]; omega
   refine .inl ⟨tmps_by (by kernel_rfl), ?_⟩
   refine call_by ((zOf_ok k (by omega) (by omega))) (by first | rfl | (simp only [tocvs, tocv, toboxes, tobox, updH_at, Nat.reduceEqDiff, ↓reduceIte, hF, hq]; rfl)) (by simp) ?_
   simp (disch := omega) only [wt, seval, reduceCtorEq, Nat.reduceEqDiff, cpoly_len, hF, hq]
   have hz : zl (k : Int) ≤ 1 := zl_le.mpr (by simp only [W]; omega)
   have m := zmul_ok (p.getD k (false, [])) (canon k) ((h.get _).mono (by omega)) ((sz_canon _).mono (by omega))
   rw [iv_canon, ← cf_pv] at m
   refine call_by (m) (by first | rfl | (simp only [tocvs, tocv, toboxes, tobox, updH_at, Nat.reduceEqDiff, ↓reduceIte, hF, hq]; rfl)) (by simp) ?_
   simp (disch := omega) only [wt, seval, reduceCtorEq, Nat.reduceEqDiff, cpoly_len, hF, hq]
   first | exact log_by (by kernel_rfl) | refine ⟨log_by (by kernel_rfl), ?_⟩
   refine ⟨⟨k + 1, st + 1, by omega, ?_⟩, by omega⟩
   rw [pderiv_take (by rw [pv_len]; omega) (by omega)]
   exact ⟨by omega, rfl, rfl⟩
  ·simp (disch := omega) only [wt, seval, reduceCtorEq, Nat.reduceEqDiff, cpoly_len, hF]
   obtain rfl : k = 0 := by omega
   refine ⟨⟨1, st, by omega, ?_⟩, by omega⟩
   have : pderiv ((pv p).take 1) = [] := by simp [pderiv]; omega
   rw [this]; exact ⟨rfl, rfl, rfl⟩
 ·simp (disch := omega) only [wt, seval, reduceCtorEq, Nat.reduceEqDiff, cpoly_len, hF]
  have hk : k = tz (pv p) := by omega
  have e : cp (pderiv (pv p)) = cp (pv ((pderiv ((pv p).take k)).map canon)) := by
   refine cp_ps ?_
   rw [pv_canon, ps_pderiv, ps_pderiv, hk]
   exact congrArg PS.D (ps_trimz (pv p)).symm
  rw [e]
  have hb : PB (2 ^ 30) (2 ^ 40) (pderiv ((pv p).take k)) := ((PB_take h.pv k).pderiv (by decide)).mono (by omega) (by omega)
  refine call_by ((pnorm_ok ((pderiv ((pv p).take k)).map canon) (RP.canon (hb.mono (by omega) (by omega))))) (by first | rfl | (simp only [tocvs, tocv, toboxes, tobox, updH_at, Nat.reduceEqDiff, ↓reduceIte, hF]; rfl)) (by simp) ?_
  simp (disch := omega) only [wt, seval, reduceCtorEq, Nat.reduceEqDiff, cpoly_len, hF]
end Go.Proofs.YtdokaihemcnkmaaGreat

namespace Go.Proofs.YtdokaihemcnkmaaGreat
open Go Go.Proofs Go.AL
set_option linter.unusedSimpArgs false
set_option linter.unusedVariables false
def cn (q : List Int) : List RI := (trimz q).map canon
theorem cf_cn (q : List Int) (k : Nat) : cf (pv (cn q)) k = cf q k := by rw [cn, pv_canon, cf_trimz]
theorem ps_cn (q : List Int) : ps (pv (cn q)) = ps q := ps_ext (cf_cn q)
end Go.Proofs.YtdokaihemcnkmaaGreat

namespace Go.Proofs.YtdokaihemcnkmaaGreat
open Go Go.Proofs Go.AL
set_option linter.unusedSimpArgs false
set_option linter.unusedVariables false
end Go.Proofs.YtdokaihemcnkmaaGreat

namespace Go.Proofs.YtdokaihemcnkmaaGreat
open Go Go.Proofs Go.AL
set_option linter.unusedSimpArgs false
set_option linter.unusedVariables false
abbrev cis (l : List Int) : CV := .iv (.sl (ilims l))
end Go.Proofs.YtdokaihemcnkmaaGreat

namespace Go.Proofs.YtdokaihemcnkmaaGreat
open Go Go.Proofs Go.AL
set_option linter.unusedSimpArgs false
set_option linter.unusedVariables false
theorem pmul_g {a b : List RI} {q r : List Int} (ha : RP (2 ^ 30) (2 ^ 35) a) (hb : RP (2 ^ 30) (2 ^ 35) b) (eq : ps (pv a) = ps q) (er : ps (pv b) = ps r) : AC Tryz.prog 88 [cw a, cw b] none [cp (pmul q r)] := by
 have h := pmul_ok a b ha hb
 rwa [cp_ps (q := pmul q r) (by rw [ps_pmul, ps_pmul, eq, er])] at h
theorem padd_g {a b : List RI} {q r : List Int} (ha : RP (2 ^ 30) (2 ^ 35) a) (hb : RP (2 ^ 30) (2 ^ 35) b) (eq : ps (pv a) = ps q) (er : ps (pv b) = ps r) : AC Tryz.prog 113 [cw a, cw b] none [cp (padd q r)] := by
 have h := padd_ok a b (ha.mono (by omega) (by omega)) (hb.mono (by omega) (by omega))
 rwa [cp_ps (q := padd q r) (by rw [ps_padd, ps_padd, eq, er])] at h
theorem psub_g {a b : List RI} {q r : List Int} (ha : RP (2 ^ 30) (2 ^ 35) a) (hb : RP (2 ^ 30) (2 ^ 35) b) (eq : ps (pv a) = ps q) (er : ps (pv b) = ps r) : AC Tryz.prog 114 [cw a, cw b] none [cp (padd q (pscale (-1) r))] := by
 have h := psub_ok a b (ha.mono (by omega) (by omega)) hb
 rwa [cp_ps (q := padd q (pscale (-1) r)) (by rw [ps_padd, ps_pscale, ps_padd, ps_pscale, eq, er])] at h
theorem pneg_g {a : List RI} {q : List Int} (ha : RP (2 ^ 30) (2 ^ 35) a) (eq : ps (pv a) = ps q) : AC Tryz.prog 115 [cw a] none [cp (pscale (-1) q)] := by
 have h := pneg_ok a ha
 rwa [cp_ps (q := pscale (-1) q) (by rw [ps_pscale, ps_pscale, eq])] at h
theorem pscale_g {a : List RI} {q : List Int} {c : RI} (ha : RP (2 ^ 30) (2 ^ 35) a) (hc : Sz (2 ^ 35) c) (eq : ps (pv a) = ps q) : AC Tryz.prog 116 [cw a, cr c] none [cp (pscale (iv c) q)] := by
 have h := pscale_ok a c ha hc
 rwa [cp_ps (q := pscale (iv c) q) (by rw [ps_pscale, ps_pscale, eq])] at h
theorem pderiv_g {a : List RI} {q : List Int} (ha : RP (2 ^ 30) (2 ^ 35) a) (eq : ps (pv a) = ps q) : AC Tryz.prog 117 [cw a] none [cp (pderiv q)] := by
 have h := pderiv_ok a ha
 rwa [cp_ps (q := pderiv q) (by rw [ps_pderiv, ps_pderiv, eq])] at h
def Raw (p : List RI) : Prop := p.length ≤ 9223372036854775807 ∧ ∀ c ∈ p, Sz (9223372036854775807) c
end Go.Proofs.YtdokaihemcnkmaaGreat

namespace Go.Proofs.YtdokaihemcnkmaaGreat
open Go Go.Proofs Go.AL
set_option linter.unusedSimpArgs false
set_option linter.unusedVariables false
def cmpN (x y : Nat) : Int := if x < y then -1 else if y < x then 1 else 0
end Go.Proofs.YtdokaihemcnkmaaGreat

namespace Go.Proofs.YtdokaihemcnkmaaGreat
open Go Go.Proofs Go.AL
set_option linter.unusedSimpArgs false
set_option linter.unusedVariables false
end Go.Proofs.YtdokaihemcnkmaaGreat

namespace Go.Proofs.YtdokaihemcnkmaaGreat
open Go Go.Proofs Go.AL
set_option linter.unusedSimpArgs false
set_option linter.unusedVariables false
end Go.Proofs.YtdokaihemcnkmaaGreat

namespace Go.Proofs.YtdokaihemcnkmaaGreat
open Go Go.Proofs Go.AL
set_option linter.unusedSimpArgs false
set_option linter.unusedVariables false
theorem pcoef_ok (p : List RI) (i : Int) (h : RP (2 ^ 40) (2 ^ 40) p) : AC Tryz.prog 120 [cw p, ci i] none [cz (if i < 0 then 0 else cf (pv p) i.toNat)] := by
 refine AC.by_walk (rs := [.cell 4 27]) ords Tryz.func120 (by rfl) (by rfl) (by rfl) (by rfl) (by rfl) ?_
 have hl := h.1
 simp (disch := omega) only [wt, seval, reduceCtorEq, Nat.reduceEqDiff, cpoly_len, natsr_len, natsr_at, natsr_snoc, natsr_app, natsr_rows, natsr_nil]
 have key : AC Tryz.prog 213 [cw p, ci i] none [cr (if i < 0 then (false, []) else p.getD i.toNat (false, []))] := by
  refine AC.by_walk (rs := [.cell 4 27]) ords Tryz.func213 (by rfl) (by rfl) (by rfl) (by rfl) (by rfl) ?_
  by_cases h0 : i < 0
  ·simp (disch := omega) only [wt, seval, reduceCtorEq, Nat.reduceEqDiff, cpoly_len, natsr_len, natsr_at, natsr_snoc, natsr_app, natsr_rows, natsr_nil, h0]
  by_cases h1 : (p.length : Int) ≤ i
  ·simp (disch := omega) only [wt, seval, reduceCtorEq, Nat.reduceEqDiff, cpoly_len, natsr_len, natsr_at, natsr_snoc, natsr_app, natsr_rows, natsr_nil, h0, h1]
   have e : p.getD i.toNat (false, []) = (false, []) := by rw [List.getD_eq_getElem?_getD, List.getElem?_eq_none (by omega)]; rfl
   rw [e]
  ·simp (disch := omega) only [wt, seval, reduceCtorEq, Nat.reduceEqDiff, cpoly_len, natsr_len, natsr_at, natsr_snoc, natsr_app, natsr_rows, natsr_nil, h0, h1]
 refine call_by (key) (by rfl) (by simp) ?_
 simp (disch := omega) only [wt, seval, reduceCtorEq, Nat.reduceEqDiff, cpoly_len, natsr_len, natsr_at, natsr_snoc, natsr_app, natsr_rows, natsr_nil]
 have hs : Sz (2 ^ 40) (if i < 0 then (false, []) else p.getD i.toNat (false, [])) := by
  split
  ·exact ⟨by simp, Lim.nil⟩
  ·exact h.get _
 have e : iv (if i < 0 then (false, []) else p.getD i.toNat (false, [])) = if i < 0 then 0 else cf (pv p) i.toNat := by
  split
  ·exact iv_zero
  ·rw [← cf_pv]
 refine call_by ((znorm_ok _ hs)) (by rfl) (by simp) ?_
 simp (disch := omega) only [wt, seval, reduceCtorEq, Nat.reduceEqDiff, cpoly_len, natsr_len, natsr_at, natsr_snoc, natsr_app, natsr_rows, natsr_nil]
 rw [e]
theorem plead_ok (p : List RI) (h : RP (2 ^ 40) (2 ^ 40) p) : AC Tryz.prog 119 [cw p] none [cz (cf (pv p) (tz (pv p) - 1))] := by
 refine AC.by_walk (rs := [.cell 2 27]) ords Tryz.func119 (by rfl) (by rfl) (by rfl) (by rfl) (by rfl) ?_
 have hl := h.1
 simp (disch := omega) only [wt, seval, reduceCtorEq, Nat.reduceEqDiff, cpoly_len, natsr_len, natsr_at, natsr_snoc, natsr_app, natsr_rows, natsr_nil]
 refine call_by ((pdeg_ok p h)) (by rfl) (by simp) ?_
 simp (disch := omega) only [wt, seval, reduceCtorEq, Nat.reduceEqDiff, cpoly_len, natsr_len, natsr_at, natsr_snoc, natsr_app, natsr_rows, natsr_nil]
 have := pcoef_ok p ((tz (pv p) : Int) - 1) h
 have e : (if (tz (pv p) : Int) - 1 < 0 then 0 else cf (pv p) ((tz (pv p) : Int) - 1).toNat) = cf (pv p) (tz (pv p) - 1) := by
  by_cases h0 : tz (pv p) = 0
  ·rw [if_pos (by omega), cf_ge_tz _ (by omega)]
  ·rw [if_neg (by omega)]; congr 1; omega
 rw [e] at this
 refine call_by (this) (by rfl) (by simp) ?_
 simp (disch := omega) only [wt, seval, reduceCtorEq, Nat.reduceEqDiff, cpoly_len, natsr_len, natsr_at, natsr_snoc, natsr_app, natsr_rows, natsr_nil]
end Go.Proofs.YtdokaihemcnkmaaGreat

namespace Go.Proofs.YtdokaihemcnkmaaGreat
open Go Go.Proofs Go.AL
set_option linter.unusedSimpArgs false
set_option linter.unusedVariables false
theorem topW_lt {x y i : Nat} (h : x / W ^ (i + 1) = y / W ^ (i + 1)) (hd : x / W ^ i % W < y / W ^ i % W) : x < y := by
 have e : ∀ z : Nat, z / W ^ i = W * (z / W ^ (i + 1)) + z / W ^ i % W := fun z => by
  rw [Nat.pow_succ, ← Nat.div_div_eq_div_mul]; exact (Nat.div_add_mod _ _).symm
 have h1 := e x
 have h2 := e y
 rw [h] at h1
 rcases Nat.lt_or_ge x y with h3 | h3
 ·exact h3
 ·have := Nat.div_le_div_right (c := W ^ i) h3
  omega
theorem word_at {l : List Nat} (h : Lim l) (k : Nat) : l.getD k 0 = nv l / W ^ k % W := by
 have h1 := vl_take_next W l k
 have e1 := nv_take h (k + 1)
 have e2 := nv_take h k
 simp only [nv] at *
 rw [e1, e2, Nat.mod_pow_succ] at h1
 exact (Nat.eq_of_mul_eq_mul_left (W_pow_pos k) (Nat.add_left_cancel h1)).symm
theorem lcmp_ok (a b : List Nat) (ha : Lim a) (hb : Lim b) (hla : a.length ≤ 2 ^ 42) (hlb : b.length ≤ 2 ^ 42) : AC Tryz.prog 263 [cl a, cl b] none [ci (cmpN (nv a) (nv b))] := by
 refine AC.by_walk (rs := [.tmp 4]) ords Tryz.func263 (by rfl) (by rfl) (by rfl) (by rfl) (by rfl) ?_
 generalize hn : max a.length b.length = n at *
 have hnI : max (a.length : Int) (b.length : Int) = (n : Int) := by omega
 have h0 : nv a / W ^ n = nv b / W ^ n := by
  have hA := nv_lt ha
  have hB := nv_lt hb
  have hA2 : W ^ a.length ≤ W ^ n := Nat.pow_le_pow_right (by decide) (by omega)
  have hB2 : W ^ b.length ≤ W ^ n := Nat.pow_le_pow_right (by decide) (by omega)
  rw [Nat.div_eq_of_lt (by omega), Nat.div_eq_of_lt (by omega)]
 simp (disch := omega) only [wt, seval, reduceCtorEq, Nat.reduceEqDiff, cpoly_len, natsr_len, natsr_at, natsr_snoc, natsr_app, natsr_rows, natsr_nil, hnI]
 refine aloop_by (fun f H => ∃ (i : Nat), i ≤ n ∧ nv a / W ^ i = nv b / W ^ i ∧ f 6 = .iv (.int .i64 ((i : Int) - 1)) ∧ f 0 = .iv (.sl (lims a)) ∧ f 1 = .iv (.sl (lims b))) (fun f H => (intAt f 6 + 1).toNat) ?_ ?_
 ·refine ⟨n, by omega, h0, ?_⟩
  simp (disch := omega) only [wt, seval, reduceCtorEq, Nat.reduceEqDiff, cpoly_len, natsr_len, natsr_at, natsr_snoc, natsr_app, natsr_rows, natsr_nil]
 rintro f H ⟨i, hi, hv, hF⟩
 rw [intAt_of hF.1]
 simp (disch := omega) only [wt, seval, reduceCtorEq, Nat.reduceEqDiff, cpoly_len, natsr_len, natsr_at, natsr_snoc, natsr_app, natsr_rows, natsr_nil, hF]
 refine if_by (fun hlt => ?_) (fun hlt => ?_)
 ·obtain ⟨j, rfl⟩ : ∃ j, i = j + 1 := ⟨i - 1, by omega⟩
  have ej : ((j + 1 : Nat) : Int) - 1 = (j : Int) := by omega
  have hx := word_at ha j
  have hy := word_at hb j
  rw [ej] at hF
  simp (disch := omega) only [wt, seval, reduceCtorEq, Nat.reduceEqDiff, cpoly_len, natsr_len, natsr_at, natsr_snoc, natsr_app, natsr_rows, natsr_nil, hF]
  refine call_by ((at_ok a j (by omega))) (by first | rfl | (simp only [tocvs, tocv, toboxes, tobox, updH_at, Nat.reduceEqDiff, ↓reduceIte, hF]; rfl)) (by simp) ?_
  simp (disch := omega) only [wt, seval, reduceCtorEq, Nat.reduceEqDiff, cpoly_len, natsr_len, natsr_at, natsr_snoc, natsr_app, natsr_rows, natsr_nil, hF]
  refine call_by ((at_ok b j (by omega))) (by first | rfl | (simp only [tocvs, tocv, toboxes, tobox, updH_at, Nat.reduceEqDiff, ↓reduceIte, hF]; rfl)) (by simp) ?_
  simp (disch := omega) only [wt, seval, reduceCtorEq, Nat.reduceEqDiff, cpoly_len, natsr_len, natsr_at, natsr_snoc, natsr_app, natsr_rows, natsr_nil, hF]
  refine if_by (fun h1 => ?_) (fun h1 => ?_)
  ·simp (disch := omega) only [wt, seval, reduceCtorEq, Nat.reduceEqDiff, cpoly_len, natsr_len, natsr_at, natsr_snoc, natsr_app, natsr_rows, natsr_nil, hF]
   refine ⟨⟨j, by omega, ?_, rfl⟩, by omega⟩
   have e : ∀ z : Nat, z / W ^ j = W * (z / W ^ (j + 1)) + z / W ^ j % W := fun z => by
    rw [Nat.pow_succ, ← Nat.div_div_eq_div_mul]; exact (Nat.div_add_mod _ _).symm
   rw [e (nv a), e (nv b), hv]
   omega
  simp (disch := omega) only [wt, seval, reduceCtorEq, Nat.reduceEqDiff, cpoly_len, natsr_len, natsr_at, natsr_snoc, natsr_app, natsr_rows, natsr_nil, hF]
  refine if_by (fun h2 => ?_) (fun h2 => ?_)
  ·simp (disch := omega) only [wt, seval, reduceCtorEq, Nat.reduceEqDiff, cpoly_len, natsr_len, natsr_at, natsr_snoc, natsr_app, natsr_rows, natsr_nil, hF]
   have : nv a < nv b := topW_lt hv (by omega)
   rw [cmpN, if_pos this]
  simp (disch := omega) only [wt, seval, reduceCtorEq, Nat.reduceEqDiff, cpoly_len, natsr_len, natsr_at, natsr_snoc, natsr_app, natsr_rows, natsr_nil, hF]
  have : nv b < nv a := topW_lt hv.symm (by omega)
  rw [cmpN, if_neg (by omega), if_pos this]
 ·simp (disch := omega) only [wt, seval, reduceCtorEq, Nat.reduceEqDiff, cpoly_len, natsr_len, natsr_at, natsr_snoc, natsr_app, natsr_rows, natsr_nil, hF]
  have : i = 0 := by omega
  subst this
  simp at hv
  rw [hv, cmpN]; simp
theorem ncmp_ok (a b : List Nat) (ha : Lim a) (hb : Lim b) (hla : a.length ≤ 2 ^ 42) (hlb : b.length ≤ 2 ^ 42) : AC Tryz.prog 216 [cl a, cl b] none [ci (cmpN (nv a) (nv b))] := by
 refine AC.by_walk (rs := [.tmp 4]) ords Tryz.func216 (by rfl) (by rfl) (by rfl) (by rfl) (by rfl) ?_
 simp (disch := omega) only [wt, seval, reduceCtorEq, Nat.reduceEqDiff, cpoly_len, natsr_len, natsr_at, natsr_snoc, natsr_app, natsr_rows, natsr_nil]
 refine call_by ((lcmp_ok a b ha hb hla hlb)) (by rfl) (by simp) ?_
 simp (disch := omega) only [wt, seval, reduceCtorEq, Nat.reduceEqDiff, cpoly_len, natsr_len, natsr_at, natsr_snoc, natsr_app, natsr_rows, natsr_nil]
theorem zcmp_ok (a b : RI) (ha : Sz (2 ^ 40) a) (hb : Sz (2 ^ 40) b) : AC Tryz.prog 197 [cr a, cr b] none [ci (cmpZ (iv a) (iv b))] := by
 refine AC.by_walk (rs := [.tmp 4]) ords Tryz.func197 (by rfl) (by rfl) (by rfl) (by rfl) (by rfl) ?_
 have hla := ha.1
 have hlb := hb.1
 have sa := Int.sign_mul_natAbs (iv a)
 have sb := Int.sign_mul_natAbs (iv b)
 have na := iv_abs a
 have nb := iv_abs b
 have ca : (iv a).sign = -1 ∧ iv a < 0 ∨ (iv a).sign = 0 ∧ iv a = 0 ∨ (iv a).sign = 1 ∧ 0 < iv a := by
  rcases Int.lt_trichotomy (iv a) 0 with h | h | h
  ·exact .inl ⟨Int.sign_eq_neg_one_of_neg h, h⟩
  ·exact .inr (.inl ⟨by rw [h]; rfl, h⟩)
  ·exact .inr (.inr ⟨Int.sign_eq_one_of_pos h, h⟩)
 have cb' : (iv b).sign = -1 ∧ iv b < 0 ∨ (iv b).sign = 0 ∧ iv b = 0 ∨ (iv b).sign = 1 ∧ 0 < iv b := by
  rcases Int.lt_trichotomy (iv b) 0 with h | h | h
  ·exact .inl ⟨Int.sign_eq_neg_one_of_neg h, h⟩
  ·exact .inr (.inl ⟨by rw [h]; rfl, h⟩)
  ·exact .inr (.inr ⟨Int.sign_eq_one_of_pos h, h⟩)
 simp (disch := omega) only [wt, seval, reduceCtorEq, Nat.reduceEqDiff, cpoly_len, natsr_len, natsr_at, natsr_snoc, natsr_app, natsr_rows, natsr_nil]
 refine .inl ⟨tmps_by (by kernel_rfl), ?_⟩
 refine call_by ((zsign_ok a ha)) (by rfl) (by simp) ?_
 simp (disch := omega) only [wt, seval, reduceCtorEq, Nat.reduceEqDiff, cpoly_len, natsr_len, natsr_at, natsr_snoc, natsr_app, natsr_rows, natsr_nil]
 refine call_by ((zsign_ok b hb)) (by rfl) (by simp) ?_
 simp (disch := omega) only [wt, seval, reduceCtorEq, Nat.reduceEqDiff, cpoly_len, natsr_len, natsr_at, natsr_snoc, natsr_app, natsr_rows, natsr_nil]
 first | exact log_by (by kernel_rfl) | refine ⟨log_by (by kernel_rfl), ?_⟩
 refine if_by (fun h1 => ?_) (fun h1 => ?_)
 ·simp (disch := omega) only [wt, seval, reduceCtorEq, Nat.reduceEqDiff, cpoly_len, natsr_len, natsr_at, natsr_snoc, natsr_app, natsr_rows, natsr_nil]
  rw [cmpZ, if_pos (by omega)]
 simp (disch := omega) only [wt, seval, reduceCtorEq, Nat.reduceEqDiff, cpoly_len, natsr_len, natsr_at, natsr_snoc, natsr_app, natsr_rows, natsr_nil]
 refine if_by (fun h2 => ?_) (fun h2 => ?_)
 ·simp (disch := omega) only [wt, seval, reduceCtorEq, Nat.reduceEqDiff, cpoly_len, natsr_len, natsr_at, natsr_snoc, natsr_app, natsr_rows, natsr_nil]
  rw [cmpZ, if_neg (by omega), if_pos (by omega)]
 simp (disch := omega) only [wt, seval, reduceCtorEq, Nat.reduceEqDiff, cpoly_len, natsr_len, natsr_at, natsr_snoc, natsr_app, natsr_rows, natsr_nil]
 refine call_by ((ncmp_ok a.2 b.2 ha.2 hb.2 (by omega) (by omega))) (by rfl) (by simp) ?_
 simp (disch := omega) only [wt, seval, reduceCtorEq, Nat.reduceEqDiff, cpoly_len, natsr_len, natsr_at, natsr_snoc, natsr_app, natsr_rows, natsr_nil]
 have e : (iv a).sign * cmpN (nv a.2) (nv b.2) = cmpZ (iv a) (iv b) := by
  have hs : (iv a).sign = (iv b).sign := by omega
  rcases ca with ⟨h, h'⟩ | ⟨h, h'⟩ | ⟨h, h'⟩ <;> rw [h]
  ·unfold cmpN cmpZ; rw [← na, ← nb]; split <;> split <;> (try split) <;> (try split) <;> omega
  ·unfold cmpZ; rw [if_neg (by omega), if_neg (by omega)]; simp
  ·unfold cmpN cmpZ; rw [← na, ← nb]; split <;> split <;> (try split) <;> (try split) <;> omega
 rw [e]
 have hb3 : -1 ≤ cmpZ (iv a) (iv b) ∧ cmpZ (iv a) (iv b) ≤ 1 := by unfold cmpZ; split <;> (try split) <;> omega
 simp (disch := omega) only [wt, seval, reduceCtorEq, Nat.reduceEqDiff, cpoly_len, natsr_len, natsr_at, natsr_snoc, natsr_app, natsr_rows, natsr_nil]
end Go.Proofs.YtdokaihemcnkmaaGreat

namespace Go.Proofs.YtdokaihemcnkmaaGreat
open Go Go.Proofs Go.AL
set_option linter.unusedSimpArgs false
set_option linter.unusedVariables false
theorem wd_one {y : Nat} (h : (wd y).length = 1) : (wd y).getD 0 0 = y ∧ y < W := by
 have h1 := vl_take_next W (wd y) 0
 rw [Nat.zero_add, List.take_of_length_le (by omega), List.take_zero, Nat.pow_zero, Nat.one_mul] at h1
 have h2 := nv_wd y
 simp only [nv, vl, Nat.zero_add] at *
 have h3 := (lim_wd y).get 0
 omega
theorem quo_ok (a b : List Nat) (ha : Lim a) (hb : Lim b) (hla : a.length ≤ 2 ^ 38) (hlb : b.length ≤ 2 ^ 38) (h0 : nv b ≠ 0) : AC Tryz.prog 274 [cl a, cl b] none [cl (wd (nv a / nv b)), cl (wd (nv a % nv b)), ci 0] := by
 refine AC.by_walk (rs := [.tmp 4, .tmp 5, .tmp 6]) ords Tryz.func274 (by rfl) (by rfl) (by rfl) (by rfl) (by rfl) ?_
 simp (disch := omega) only [wt, seval, reduceCtorEq, Nat.reduceEqDiff, natsr_len, natsr_at, Option.getD_some]
 refine call_by ((norm_ok a ha (by omega))) (by rfl) (by simp) ?_
 simp (disch := omega) only [wt, seval, reduceCtorEq, Nat.reduceEqDiff, natsr_len, natsr_at, Option.getD_some]
 refine call_by ((norm_ok b hb (by omega))) (by rfl) (by simp) ?_
 simp (disch := omega) only [wt, seval, reduceCtorEq, Nat.reduceEqDiff, natsr_len, natsr_at, Option.getD_some]
 have hxl := nv_len ha
 have hyl := nv_len hb
 generalize nv a = x at *
 generalize nv b = y at *
 refine if_by (fun h => ?_) (fun h => ?_)
 ·have := wd_len_zero.mp (Int.ofNat.inj h)
  exact absurd this h0
 simp (disch := omega) only [wt, seval, reduceCtorEq, Nat.reduceEqDiff, natsr_len, natsr_at, Option.getD_some]
 refine call_by ((ncmp_ok (wd x) (wd y) (lim_wd _) (lim_wd _) (by omega) (by omega))) (by rfl) (by simp) ?_
 simp (disch := omega) only [wt, seval, reduceCtorEq, Nat.reduceEqDiff, natsr_len, natsr_at, Option.getD_some]
 rw [nv_wd, nv_wd]
 refine if_by (fun hc => ?_) (fun hc => ?_)
 ·have hlt : x < y := by
   unfold cmpN at hc
   split at hc
   ·assumption
   ·split at hc <;> omega
  rw [Nat.div_eq_of_lt hlt, Nat.mod_eq_of_lt hlt, wd_zero]
  simp (disch := omega) only [wt, seval, reduceCtorEq, Nat.reduceEqDiff, natsr_len, natsr_at, Option.getD_some]
 have hle : y ≤ x := by
  unfold cmpN at hc
  split at hc
  ·omega
  ·omega
 simp (disch := omega) only [wt, seval, reduceCtorEq, Nat.reduceEqDiff, natsr_len, natsr_at, Option.getD_some]
 refine if_by (fun h1 => ?_) (fun h1 => ?_)
 ·obtain ⟨e1, e2⟩ := wd_one (Int.ofNat.inj h1)
  have hp : 0 < (wd y).length := by omega
  simp (disch := omega) only [wt, seval, reduceCtorEq, Nat.reduceEqDiff, natsr_len, natsr_at, Option.getD_some]
  have m := dword_ok (wd x) y (lim_wd _) (by omega) h0 e2
  rw [nv_wd] at m
  have n := nof_ok (x % y) (Nat.lt_trans (Nat.mod_lt _ (by omega)) e2)
  simp (disch := omega) only [wt, seval, reduceCtorEq, Nat.reduceEqDiff, natsr_len, natsr_at, Option.getD_some, e1]
  refine call_by (m) (by first | rfl | (simp only [tocvs, tocv, toboxes, tobox, updH_at, Nat.reduceEqDiff, ↓reduceIte, e1]; rfl)) (by simp) ?_
  simp (disch := omega) only [wt, seval, reduceCtorEq, Nat.reduceEqDiff, natsr_len, natsr_at, Option.getD_some, e1]
  refine call_by (n) (by first | rfl | (simp only [tocvs, tocv, toboxes, tobox, updH_at, Nat.reduceEqDiff, ↓reduceIte, e1]; rfl)) (by simp) ?_
  simp (disch := omega) only [wt, seval, reduceCtorEq, Nat.reduceEqDiff, natsr_len, natsr_at, Option.getD_some, e1]
 ·have hn : 2 ≤ (wd y).length := by omega
  simp (disch := omega) only [wt, seval, reduceCtorEq, Nat.reduceEqDiff, natsr_len, natsr_at, Option.getD_some]
  refine call_by ((knuth_ok x y _ _ rfl rfl hn hle (by omega))) (by rfl) (by simp) ?_
  simp (disch := omega) only [wt, seval, reduceCtorEq, Nat.reduceEqDiff, natsr_len, natsr_at, Option.getD_some]
theorem mod_ok (a b : List Nat) (ha : Lim a) (hb : Lim b) (hla : a.length ≤ 2 ^ 38) (hlb : b.length ≤ 2 ^ 38) (h0 : nv b ≠ 0) : AC Tryz.prog 304 [cl a, cl b] none [cl (wd (nv a % nv b)), ci 0] := by
 refine AC.by_walk (rs := [.tmp 4, .tmp 5]) ords Tryz.func304 (by rfl) (by rfl) (by rfl) (by rfl) (by rfl) ?_
 simp (disch := omega) only [wt, seval, reduceCtorEq, Nat.reduceEqDiff, natsr_len, natsr_at, Option.getD_some]
 refine call_by ((quo_ok a b ha hb hla hlb h0)) (by rfl) (by simp) ?_
 simp (disch := omega) only [wt, seval, reduceCtorEq, Nat.reduceEqDiff, natsr_len, natsr_at, Option.getD_some]
theorem gmod_ok (a b : List Nat) (ha : Lim a) (hb : Lim b) (hla : a.length ≤ 2 ^ 38) (hlb : b.length ≤ 2 ^ 38) (h0 : nv b ≠ 0) : AC Tryz.prog 289 [cl a, cl b] none [cl (wd (nv a % nv b))] := by
 refine AC.by_walk (rs := [.tmp 4]) ords Tryz.func289 (by rfl) (by rfl) (by rfl) (by rfl) (by rfl) ?_
 simp (disch := omega) only [wt, seval, reduceCtorEq, Nat.reduceEqDiff, natsr_len, natsr_at, Option.getD_some]
 refine call_by ((mod_ok a b ha hb hla hlb h0)) (by rfl) (by simp) ?_
 simp (disch := omega) only [wt, seval, reduceCtorEq, Nat.reduceEqDiff, natsr_len, natsr_at, Option.getD_some]
theorem dexact_ok (a b : List Nat) (ha : Lim a) (hb : Lim b) (hla : a.length ≤ 2 ^ 38) (hlb : b.length ≤ 2 ^ 38) (h0 : nv b ≠ 0) : AC Tryz.prog 241 [cl a, cl b] none [cl (if nv a % nv b = 0 then wd (nv a / nv b) else []), ci (if nv a % nv b = 0 then 0 else 4)] := by
 refine AC.by_walk (rs := [.tmp 4, .tmp 5]) ords Tryz.func241 (by rfl) (by rfl) (by rfl) (by rfl) (by rfl) ?_
 simp (disch := omega) only [wt, seval, reduceCtorEq, Nat.reduceEqDiff, natsr_len, natsr_at, Option.getD_some]
 refine call_by ((quo_ok a b ha hb hla hlb h0)) (by rfl) (by simp) ?_
 simp (disch := omega) only [wt, seval, reduceCtorEq, Nat.reduceEqDiff, natsr_len, natsr_at, Option.getD_some]
 refine if_by (fun h => ?_) (fun h => ?_)
 ·have h1 : nv a % nv b ≠ 0 := fun h2 => by rw [h2, wd_zero] at h; simp at h
  rw [if_neg h1, if_neg h1]
  simp (disch := omega) only [wt, seval, reduceCtorEq, Nat.reduceEqDiff, natsr_len, natsr_at, Option.getD_some]
 ·have h1 : nv a % nv b = 0 := by
   rcases Nat.eq_zero_or_pos (wd (nv a % nv b)).length with h2 | h2
   ·exact wd_len_zero.mp h2
   ·exact absurd (by omega) h
  rw [if_pos h1, if_pos h1]
  simp (disch := omega) only [wt, seval, reduceCtorEq, Nat.reduceEqDiff, natsr_len, natsr_at, Option.getD_some]
def natAt (f : Fr) (t : Nat) : Nat := match f t with
 | .iv (.sl rows) => nv (rows.map fun r => match r with | [.int _ n] => n.toNat | _ => 0)
 | _ => 0
theorem natAt_of {f : Fr} {t v : Nat} (h : f t = .iv (.sl (lims (wd v)))) : natAt f t = v := by
 unfold natAt
 rw [h]
 have e : (lims (wd v)).map (fun r => match r with | [.int _ n] => n.toNat | _ => 0) = wd v := by
  simp only [lims, List.map_map]
  conv => rhs; rw [← List.map_id (wd v)]
  rfl
 simp only [e, nv_wd]
theorem gcd_ok (a b : List Nat) (ha : Lim a) (hb : Lim b) (hla : a.length ≤ 2 ^ 38) (hlb : b.length ≤ 2 ^ 38) : AC Tryz.prog 262 [cl a, cl b] none [cl (wd (Nat.gcd (nv a) (nv b)))] := by
 refine AC.by_walk (rs := [.tmp 4]) ords Tryz.func262 (by rfl) (by rfl) (by rfl) (by rfl) (by rfl) ?_
 simp (disch := omega) only [wt, seval, reduceCtorEq, Nat.reduceEqDiff, natsr_len, natsr_at, Option.getD_some]
 refine call_by ((norm_ok a ha (by omega))) (by rfl) (by simp) ?_
 simp (disch := omega) only [wt, seval, reduceCtorEq, Nat.reduceEqDiff, natsr_len, natsr_at, Option.getD_some]
 refine call_by ((norm_ok b hb (by omega))) (by rfl) (by simp) ?_
 simp (disch := omega) only [wt, seval, reduceCtorEq, Nat.reduceEqDiff, natsr_len, natsr_at, Option.getD_some]
 have hxl := nv_len ha
 have hyl := nv_len hb
 generalize nv a = x at *
 generalize nv b = y at *
 refine aloop_by (fun f H => ∃ u v : Nat, Nat.gcd u v = Nat.gcd x y ∧ (wd u).length ≤ 2 ^ 38 ∧ (wd v).length ≤ 2 ^ 38 ∧ f 0 = .iv (.sl (lims (wd u))) ∧ f 1 = .iv (.sl (lims (wd v)))) (fun f H => natAt f 1) ?_ ?_
 ·exact ⟨x, y, rfl, by omega, by omega, by simp (disch := omega) only [wt, seval, reduceCtorEq, Nat.reduceEqDiff, natsr_len, natsr_at, Option.getD_some]⟩
 rintro f H ⟨u, v, hg, hu, hv, hF⟩
 rw [natAt_of hF.2]
 simp (disch := omega) only [wt, seval, reduceCtorEq, Nat.reduceEqDiff, natsr_len, natsr_at, Option.getD_some, hF]
 refine if_by (fun h => ?_) (fun h => ?_)
 ·have h0 : v ≠ 0 := fun h1 => by rw [h1, wd_zero] at h; simp at h
  have hm := gmod_ok (wd u) (wd v) (lim_wd _) (lim_wd _) hu hv (by rw [nv_wd]; exact h0)
  rw [nv_wd, nv_wd] at hm
  simp (disch := omega) only [wt, seval, reduceCtorEq, Nat.reduceEqDiff, natsr_len, natsr_at, Option.getD_some, hF]
  refine call_by (hm) (by first | rfl | (simp only [tocvs, tocv, toboxes, tobox, updH_at, Nat.reduceEqDiff, ↓reduceIte, hF]; rfl)) (by simp) ?_
  simp (disch := omega) only [wt, seval, reduceCtorEq, Nat.reduceEqDiff, natsr_len, natsr_at, Option.getD_some, hF]
  have hlt := Nat.mod_lt u (Nat.pos_of_ne_zero h0)
  have := wd_len_mono (Nat.le_of_lt hlt)
  rw [natAt_of rfl]
  exact ⟨⟨v, u % v, by rw [← hg, Nat.gcd_comm u v, Nat.gcd_rec v u, Nat.gcd_comm], hv, by omega, rfl, rfl⟩, hlt⟩
 ·have h0 : v = 0 := wd_len_zero.mp (by omega)
  subst h0
  rw [Nat.gcd_zero_right] at hg
  simp (disch := omega) only [wt, seval, reduceCtorEq, Nat.reduceEqDiff, natsr_len, natsr_at, Option.getD_some, hF, hg]
end Go.Proofs.YtdokaihemcnkmaaGreat

namespace Go.Proofs.YtdokaihemcnkmaaGreat
open Go Go.Proofs Go.AL
set_option linter.unusedSimpArgs false
set_option linter.unusedVariables false
theorem iv_sg (c : RI) : iv c = sg c.1 (nv c.2) := rfl
theorem znat_ok (s : Bool) (n : Nat) (h : (wd n).length ≤ 2 ^ 40) : AC Tryz.prog 164 [cb s, cl (wd n)] none [cz (sg s n)] := by
 refine AC.by_walk (rs := [.cell 4 27]) ords Tryz.func164 (by rfl) (by rfl) (by rfl) (by rfl) (by rfl) ?_
 simp (disch := omega) only [wt, seval, reduceCtorEq, Nat.reduceEqDiff, cpoly_len]
 have m := znorm_ok (s, wd n) ⟨h, lim_wd _⟩
 rw [iv_sg, nv_wd] at m
 refine call_by (m) (by rfl) (by simp) ?_
 simp (disch := omega) only [wt, seval, reduceCtorEq, Nat.reduceEqDiff, cpoly_len]
theorem sg_div {s t : Bool} {x y : Nat} (h : x % y = 0) : sg s x / sg t y = sg (s != t) (x / y) ∧ sg t y ∣ sg s x := by
 obtain ⟨k, rfl⟩ := Nat.dvd_of_mod_eq_zero h
 rcases Nat.eq_zero_or_pos y with h0 | h0
 ·subst h0; cases s <;> cases t <;> simp [sg]
 ·rw [Nat.mul_div_cancel_left _ h0]
  have hy : (y : Int) ≠ 0 := by omega
  cases s <;> cases t <;> simp [sg, Int.mul_ediv_cancel_left _ hy, ← Int.mul_neg]
theorem sg_dvd {s t : Bool} {x y : Nat} : sg t y ∣ sg s x ↔ x % y = 0 := by
 constructor
 ·intro h
  have h1 := Int.natAbs_dvd_natAbs.mpr h
  have e : ∀ (b : Bool) (n : Nat), (sg b n).natAbs = n := fun b n => by cases b <;> simp [sg]
  rw [e, e] at h1
  exact Nat.mod_eq_zero_of_dvd h1
 ·intro h; exact (sg_div h).2
theorem zexact_ok (a b : RI) (ha : Sz (2 ^ 38) a) (hb : Sz (2 ^ 38) b) (h0 : iv b ≠ 0) (hd : iv b ∣ iv a) : AC Tryz.prog 163 [cr a, cr b] none [cz (iv a / iv b), ci 0] := by
 refine AC.by_walk (rs := [.cell 4 27, .tmp 5]) ords Tryz.func163 (by rfl) (by rfl) (by rfl) (by rfl) (by rfl) ?_
 rw [iv_sg, iv_sg] at hd
 rw [iv_sg] at h0
 have hm := sg_dvd.mp hd
 have hn : nv b.2 ≠ 0 := fun h => h0 (by rw [h]; cases b.1 <;> rfl)
 have m := dexact_ok a.2 b.2 ha.2 hb.2 ha.1 hb.1 hn
 rw [if_pos hm, if_pos hm] at m
 rw [iv_sg, iv_sg, (sg_div hm).1]
 simp (disch := omega) only [wt, seval, reduceCtorEq, Nat.reduceEqDiff, cpoly_len]
 refine call_by (m) (by rfl) (by simp) ?_
 simp (disch := omega) only [wt, seval, reduceCtorEq, Nat.reduceEqDiff, cpoly_len]
 refine call_by ((zof_ok (a.1 != b.1) (nv a.2 / nv b.2))) (by rfl) (by simp) ?_
 simp (disch := omega) only [wt, seval, reduceCtorEq, Nat.reduceEqDiff, cpoly_len]
theorem zexact_bad (a b : RI) (ha : Sz (2 ^ 38) a) (hb : Sz (2 ^ 38) b) (h0 : iv b ≠ 0) (hd : ¬ iv b ∣ iv a) : AC Tryz.prog 163 [cr a, cr b] none [cr (false, []), ci 4] := by
 refine AC.by_walk (rs := [.cell 4 27, .tmp 5]) ords Tryz.func163 (by rfl) (by rfl) (by rfl) (by rfl) (by rfl) ?_
 rw [iv_sg, iv_sg] at hd
 rw [iv_sg] at h0
 have hm : ¬ nv a.2 % nv b.2 = 0 := fun h => hd (sg_dvd.mpr h)
 have hn : nv b.2 ≠ 0 := fun h => h0 (by rw [h]; cases b.1 <;> rfl)
 have m := dexact_ok a.2 b.2 ha.2 hb.2 ha.1 hb.1 hn
 rw [if_neg hm, if_neg hm] at m
 simp (disch := omega) only [wt, seval, reduceCtorEq, Nat.reduceEqDiff, cpoly_len]
 refine call_by (m) (by rfl) (by simp) ?_
 simp (disch := omega) only [wt, seval, reduceCtorEq, Nat.reduceEqDiff, cpoly_len]
def gz (q : List Int) : Nat := q.foldl (fun g c => Nat.gcd g c.natAbs) 0
theorem gz_take {q : List Int} {i : Nat} (h : i < q.length) : gz (q.take (i + 1)) = Nat.gcd (gz (q.take i)) (cf q i).natAbs := by
 have e : q.take (i + 1) = q.take i ++ [cf q i] := by
  rw [List.take_add_one]; congr 1; simp [cf, List.getD, h]
 rw [e, gz, List.foldl_append]; rfl
theorem zgcd_ok (p : List RI) (h : RP (2 ^ 40) (2 ^ 38) p) : AC Tryz.prog 215 [cw p] none [cl (wd (gz (pv p)))] := by
 refine AC.by_walk (rs := [.tmp 2]) ords Tryz.func215 (by rfl) (by rfl) (by rfl) (by rfl) (by rfl) ?_
 have hl := h.1
 simp (disch := omega) only [wt, seval, reduceCtorEq, Nat.reduceEqDiff, cpoly_len]
 refine aloop_w (.iv 3 6 1 false 144 1 [] (by simp (disch := omega) only [wt, seval, reduceCtorEq, Nat.reduceEqDiff, cpoly_len]) (by simp (disch := omega) only [wt, seval, reduceCtorEq, Nat.reduceEqDiff, cpoly_len]) (.refl _ _)) (fun f H => ∃ (i : Nat), i ≤ p.length ∧ (wd (gz ((pv p).take i))).length ≤ 2 ^ 38 ∧ f 9 = .iv (.int .i64 i) ∧ f 7 = .iv (.sl (raws p)) ∧ f 8 = .iv (.int .i64 p.length) ∧ f 3 = .iv (.sl (lims (wd (gz ((pv p).take i)))))) (fun f H => (p.length - intAt f 9).toNat) ?_ ?_
 ·refine ⟨0, by omega, by rw [List.take_zero, gz, List.foldl_nil, wd_zero]; exact Nat.zero_le _, ?_⟩
  simp (disch := omega) only [wt, seval, reduceCtorEq, Nat.reduceEqDiff, cpoly_len, List.take_zero, gz, List.foldl_nil, wd_zero, lims_nil]
 rintro f H ⟨i, hi, hs, hF⟩
 rw [intAt_of hF.1]
 simp (disch := omega) only [wt, seval, reduceCtorEq, Nat.reduceEqDiff, cpoly_len, hF]
 refine if_by (fun hlt => ?_) (fun hlt => ?_)
 ·have hc := h.get i
  have m := gcd_ok (wd (gz ((pv p).take i))) (p.getD i (false, [])).2 (lim_wd _) hc.2 hs hc.1
  rw [nv_wd, ← iv_abs, ← cf_pv, ← gz_take (by rw [pv_len]; omega)] at m
  simp (disch := omega) only [wt, seval, reduceCtorEq, Nat.reduceEqDiff, cpoly_len, hF]
  refine call_by (m) (by first | rfl | (simp only [tocvs, tocv, toboxes, tobox, updH_at, Nat.reduceEqDiff, ↓reduceIte, hF]; rfl)) (by simp) ?_
  simp (disch := omega) only [wt, seval, reduceCtorEq, Nat.reduceEqDiff, cpoly_len, hF]
  refine ⟨⟨i + 1, by omega, ?_, by omega, rfl⟩, by omega⟩
  rw [gz_take (by rw [pv_len]; omega)]
  rcases Nat.eq_zero_or_pos (cf (pv p) i).natAbs with h0 | h0
  ·rw [h0, Nat.gcd_zero_right]; exact hs
  ·refine Nat.le_trans (wd_len_mono (Nat.gcd_le_right _ h0)) ?_
   rw [cf_pv, iv_abs]
   exact Nat.le_trans (nv_len hc.2) hc.1
 ·simp (disch := omega) only [wt, seval, reduceCtorEq, Nat.reduceEqDiff, cpoly_len, hF]
  rw [List.take_of_length_le (by rw [pv_len]; omega)]
theorem gz_len {n k : Nat} {p : List RI} (h : RP n k p) : (wd (gz (pv p))).length ≤ k := by
 have key : ∀ i, i ≤ p.length → (wd (gz ((pv p).take i))).length ≤ k := by
  intro i
  induction i with
  | zero => intro _; rw [List.take_zero, gz, List.foldl_nil, wd_zero]; exact Nat.zero_le _
  | succ i ih =>
   intro hi
   rw [gz_take (by rw [pv_len]; omega)]
   rcases Nat.eq_zero_or_pos (cf (pv p) i).natAbs with h0 | h0
   ·rw [h0, Nat.gcd_zero_right]; exact ih (by omega)
   ·refine Nat.le_trans (wd_len_mono (Nat.gcd_le_right _ h0)) ?_
    rw [cf_pv, iv_abs]
    exact Nat.le_trans (nv_len (h.get i).2) (h.get i).1
 have := key p.length (Nat.le_refl _)
 rwa [List.take_of_length_le (by rw [pv_len]; exact Nat.le_refl _)] at this
def lc (q : List Int) : Int := cf q (tz q - 1)
def cont (q : List Int) : Int := sg (decide (lc q < 0)) (gz q)
theorem sign_neg (z : Int) : z.sign < 0 ↔ z < 0 := by
 rcases Int.lt_trichotomy z 0 with h | h | h
 ·rw [Int.sign_eq_neg_one_of_neg h]; omega
 ·subst h; simp
 ·rw [Int.sign_eq_one_of_pos h]; omega
theorem pcontent_ok (p : List RI) (h : RP (2 ^ 40) (2 ^ 38) p) : AC Tryz.prog 121 [cw p] none [cz (cont (pv p))] := by
 refine AC.by_walk (rs := [.cell 2 27]) ords Tryz.func121 (by rfl) (by rfl) (by rfl) (by rfl) (by rfl) ?_
 have hl := h.1
 have hg := gz_len h
 have hs := zsign_ok (canon (lc (pv p))) ((sz_canon _).mono (by
  have := (h.pv).cf (tz (pv p) - 1)
  unfold lc
  omega))
 rw [iv_canon] at hs
 simp (disch := omega) only [wt, seval, reduceCtorEq, Nat.reduceEqDiff, cpoly_len]
 refine call_by ((plead_ok p (h.mono (by omega) (by omega)))) (by rfl) (by simp) ?_
 simp (disch := omega) only [wt, seval, reduceCtorEq, Nat.reduceEqDiff, cpoly_len]
 refine call_by (hs) (by rfl) (by simp) ?_
 simp (disch := omega) only [wt, seval, reduceCtorEq, Nat.reduceEqDiff, cpoly_len]
 refine call_by ((zgcd_ok p h)) (by rfl) (by simp) ?_
 simp (disch := omega) only [wt, seval, reduceCtorEq, Nat.reduceEqDiff, cpoly_len]
 have m := znat_ok (decide (lc (pv p) < 0)) (gz (pv p)) (by omega)
 have e : (decide ((lc (pv p)).sign < 0)) = decide (lc (pv p) < 0) := by rw [decide_eq_decide]; exact sign_neg _
 rw [e]
 refine call_by (m) (by rfl) (by simp) ?_
 simp (disch := omega) only [wt, seval, reduceCtorEq, Nat.reduceEqDiff, cpoly_len]
 rfl
def pdivs (c : Int) (q : List Int) : List Int := q.map (· / c)
theorem pover_zero (p : List RI) (c : RI) (hp : RP (2 ^ 40) (2 ^ 38) p) (hc : Sz (2 ^ 38) c) (h0 : iv c = 0) : AC Tryz.prog 110 [cw p, cr c] none [cw [], ci 1] := by
 refine AC.by_walk (rs := [.tmp 4, .tmp 5]) ords Tryz.func110 (by rfl) (by rfl) (by rfl) (by rfl) (by rfl) ?_
 simp (disch := omega) only [wt, seval, reduceCtorEq, Nat.reduceEqDiff, cpoly_len]
 have hs := zsign_ok c (hc.mono (by omega))
 rw [h0] at hs
 rw [Int.sign_zero] at hs
 refine call_by (hs) (by rfl) (by simp) ?_
 simp (disch := omega) only [wt, seval, reduceCtorEq, Nat.reduceEqDiff, cpoly_len]
theorem cf_pdivs (c : Int) (q : List Int) (k : Nat) : cf (pdivs c q) k = cf q k / c := by
 unfold pdivs cf
 rw [List.getD_eq_getElem?_getD, List.getD_eq_getElem?_getD, List.getElem?_map]
 cases q[k]? with
 | none => simp
 | some x => rfl
theorem zl_div {a b : Int} (h : b ∣ a) : zl (a / b) ≤ zl a := by
 obtain ⟨k, rfl⟩ := h
 by_cases h0 : b = 0
 ·subst h0; simp
 ·rw [Int.mul_ediv_cancel_left _ h0]
  unfold zl
  rw [Int.natAbs_mul]
  exact wd_len_mono (Nat.le_mul_of_pos_left _ (by omega))
theorem pover_ok (p : List RI) (c : RI) (hp : RP (2 ^ 30) (2 ^ 35) p) (hc : Sz (2 ^ 35) c) (h0 : iv c ≠ 0) (hd : ∀ k, iv c ∣ cf (pv p) k) : AC Tryz.prog 110 [cw p, cr c] none [cp (pdivs (iv c) (pv p)), ci 0] := by
 refine AC.by_walk (rs := [.tmp 4, .tmp 5]) ords Tryz.func110 (by rfl) (by rfl) (by rfl) (by rfl) (by rfl) ?_
 have hl := hp.1
 have hs0 : (iv c).sign ≠ 0 := fun h => h0 (Int.sign_eq_zero_iff_zero.mp h)
 simp (disch := omega) only [wt, seval, reduceCtorEq, Nat.reduceEqDiff, cpoly_len]
 refine call_by ((zsign_ok c (hc.mono (by omega)))) (by rfl) (by simp) ?_
 simp (disch := omega) only [wt, seval, reduceCtorEq, Nat.reduceEqDiff, cpoly_len]
 simp (disch := omega) only [wt, seval, reduceCtorEq, Nat.reduceEqDiff, cpoly_len, hs0]
 refine aloop_by (fun f H => ∃ (i st st3 : Nat) (out : List Int), i ≤ p.length ∧ out.length = p.length ∧ (∀ k, zl (cf out k) ≤ 2 ^ 36) ∧ (∀ k, k < i → cf out k = cf (pv p) k / iv c) ∧ f 18 = .iv (.int .i64 i) ∧ f 0 = .iv (.sl (raws p)) ∧ f 3 = .hp 3 st3 0 0 ∧ f 6 = .hs 15 st ∧ f 17 = .iv (.int .i64 p.length) ∧ H 15 = .blk false st 27 2 (raws (out.map canon)) ∧ H 3 = .blk false st3 27 2 [prow c]) (fun f H => (p.length - intAt f 18).toNat) ?_ ?_
 ·refine ⟨0, 1, 1, List.replicate p.length 0, by omega, by simp, fun k => by rw [cf_rep, zl_zero]; omega, fun k hk => by omega, ?_⟩
  simp (disch := omega) only [wt, seval, reduceCtorEq, Nat.reduceEqDiff, cpoly_len, Int.toNat_natCast, rep_canon]
 rintro f H ⟨i, st, st3, out, hi, hol, hz, hv, hF⟩
 rw [intAt_of hF.1]
 simp (disch := omega) only [wt, seval, reduceCtorEq, Nat.reduceEqDiff, cpoly_len, hF]
 refine if_by (fun hlt => ?_) (fun hlt => ?_)
 ·have hq : (out.map canon).length = p.length := by rw [List.length_map, hol]
  have hdi := hd i
  rw [cf_pv] at hdi
  have m := zexact_ok (p.getD i (false, [])) c ((hp.get i).mono (by omega)) (hc.mono (by omega)) h0 hdi
  rw [← cf_pv] at m
  simp (disch := omega) only [wt, seval, reduceCtorEq, Nat.reduceEqDiff, cpoly_len, hF, hq]
  refine .inl ⟨tmps_by (by kernel_rfl), ?_⟩
  refine call_by (m) (by first | rfl | (simp only [tocvs, tocv, toboxes, tobox, updH_at, Nat.reduceEqDiff, ↓reduceIte, hF, hq]; rfl)) (by simp) ?_
  simp (disch := omega) only [wt, seval, reduceCtorEq, Nat.reduceEqDiff, cpoly_len, hF, hq]
  first | exact log_by (by kernel_rfl) | refine ⟨log_by (by kernel_rfl), ?_⟩
  refine ⟨⟨i + 1, st, st3, out.set i (cf (pv p) i / iv c), by omega, by simp [hol], fun k => ?_, fun k hk => ?_, by omega, rfl, rfl, rfl, rfl⟩, by omega⟩
  ·rw [cf_set (by omega)]
   split
   ·have := zl_div (hd i)
    have := hp.pv.cf i
    omega
   ·exact hz k
  ·rw [cf_set (by omega)]
   split
   ·rename_i e; rw [e]
   ·exact hv k (by omega)
 ·simp (disch := omega) only [wt, seval, reduceCtorEq, Nat.reduceEqDiff, cpoly_len, hF]
  have e : cp (pdivs (iv c) (pv p)) = cp (pv (out.map canon)) := by
   refine cp_ext fun k => ?_
   rw [pv_canon, cf_pdivs]
   by_cases hk : k < p.length
   ·exact (hv k (by omega)).symm
   ·rw [cf_ge (q := out) (by omega), cf_ge (by rw [pv_len]; omega)]; simp
  rw [e]
  refine call_by ((pnorm_ok (out.map canon) (RP.canon (.of (by omega) fun k => Nat.le_trans (hz k) (by omega))))) (by first | rfl | (simp only [tocvs, tocv, toboxes, tobox, updH_at, Nat.reduceEqDiff, ↓reduceIte, hF]; rfl)) (by simp) ?_
  simp (disch := omega) only [wt, seval, reduceCtorEq, Nat.reduceEqDiff, cpoly_len, hF]
theorem gz_dvd (q : List Int) (k : Nat) : (gz q : Int) ∣ cf q k := by
 have key : ∀ i, i ≤ q.length → ∀ k, k < i → (gz (q.take i) : Int) ∣ cf q k := by
  intro i
  induction i with
  | zero => intro _ k hk; omega
  | succ i ih =>
   intro hi k hk
   rw [gz_take (by omega)]
   rcases Nat.lt_or_ge k i with h | h
   ·exact Int.dvd_trans (Int.natCast_dvd_natCast.mpr (Nat.gcd_dvd_left _ _)) (ih (by omega) k h)
   ·obtain rfl : k = i := by omega
    exact Int.ofNat_dvd_left.mpr (Nat.gcd_dvd_right _ _)
 rcases Nat.lt_or_ge k q.length with h | h
 ·have := key q.length (Nat.le_refl _) k h
  rwa [List.take_of_length_le (Nat.le_refl _)] at this
 ·rw [cf_ge h]; exact Int.dvd_zero _
theorem cont_dvd (q : List Int) (k : Nat) : cont q ∣ cf q k := by
 have := gz_dvd q k
 unfold cont sg
 split
 ·exact Int.neg_dvd.mpr this
 ·exact this
theorem cont_natAbs (q : List Int) : (cont q).natAbs = gz q := by
 unfold cont sg
 split <;> simp
def prim (q : List Int) : List Int := pdivs (cont q) q
theorem pprim_ok (p : List RI) (h : RP (2 ^ 30) (2 ^ 35) p) : AC Tryz.prog 118 [cw p] none [cp (prim (pv p))] := by
 refine AC.by_walk (rs := [.tmp 2]) ords Tryz.func118 (by rfl) (by rfl) (by rfl) (by rfl) (by rfl) ?_
 have hg := gz_len h
 have hsz : Sz (2 ^ 35) (canon (cont (pv p))) := (sz_canon _).mono (by unfold zl; rw [cont_natAbs]; exact hg)
 simp (disch := omega) only [wt, seval, reduceCtorEq, Nat.reduceEqDiff, cpoly_len]
 refine call_by ((pcontent_ok p (h.mono (by omega) (by omega)))) (by rfl) (by simp) ?_
 simp (disch := omega) only [wt, seval, reduceCtorEq, Nat.reduceEqDiff, cpoly_len]
 by_cases h0 : cont (pv p) = 0
 ·have m := pover_zero p (canon (cont (pv p))) (h.mono (by omega) (by omega)) (hsz.mono (by omega)) (by rw [iv_canon]; exact h0)
  have e : cp (prim (pv p)) = cw [] := by
   have : cp (prim (pv p)) = cp [] := cp_ext fun k => by
    unfold prim
    rw [cf_pdivs, h0, Int.ediv_zero]; rfl
   rw [this]; rfl
  rw [e]
  refine call_by (m) (by rfl) (by simp) ?_
  simp (disch := omega) only [wt, seval, reduceCtorEq, Nat.reduceEqDiff, cpoly_len]
 ·have m := pover_ok p (canon (cont (pv p))) h hsz (by rw [iv_canon]; exact h0) (fun k => by rw [iv_canon]; exact cont_dvd _ k)
  rw [iv_canon] at m
  refine call_by (m) (by rfl) (by simp) ?_
  simp (disch := omega) only [wt, seval, reduceCtorEq, Nat.reduceEqDiff, cpoly_len]
  rfl
end Go.Proofs.YtdokaihemcnkmaaGreat

namespace Go.Proofs.YtdokaihemcnkmaaGreat
open Go Go.Proofs Go.AL
set_option linter.unusedSimpArgs false
set_option linter.unusedVariables false
theorem gz_greatest (q : List Int) (d : Nat) (h : ∀ k, (d : Int) ∣ cf q k) : d ∣ gz q := by
 have key : ∀ i, i ≤ q.length → d ∣ gz (q.take i) := by
  intro i
  induction i with
  | zero => intro _; exact Nat.dvd_zero _
  | succ i ih =>
   intro hi
   rw [gz_take (by omega)]
   exact Nat.dvd_gcd (ih (by omega)) (Int.ofNat_dvd_left.mp (h i))
 have := key q.length (Nat.le_refl _)
 rwa [List.take_of_length_le (Nat.le_refl _)] at this
theorem gz_eq {p q : List Int} (h : ∀ k, cf p k = cf q k) : gz p = gz q :=
 Nat.dvd_antisymm (gz_greatest q _ fun k => by rw [← h]; exact gz_dvd p k) (gz_greatest p _ fun k => by rw [h]; exact gz_dvd q k)
theorem gz_scale (c : Int) (q : List Int) : gz (pscale c q) = c.natAbs * gz q := by
 have key : ∀ (q : List Int) (g : Nat), (pscale c q).foldl (fun g x => Nat.gcd g x.natAbs) (c.natAbs * g) = c.natAbs * q.foldl (fun g x => Nat.gcd g x.natAbs) g := by
  intro q
  induction q with
  | nil => intro g; rfl
  | cons x xs ih =>
   intro g
   have e : pscale c (x :: xs) = (x * c) :: pscale c xs := rfl
   rw [e, List.foldl_cons, List.foldl_cons, Int.natAbs_mul, Nat.mul_comm x.natAbs, Nat.gcd_mul_left, ih]
 exact key q 0
theorem prime_fac : ∀ n : Nat, 1 < n → ∃ r, 1 < r ∧ r ∣ n ∧ ∀ x : Nat, r ∣ x ∨ Nat.gcd r x = 1 := by
 intro n
 induction n using Nat.strongRecOn with
 | _ n ih =>
  intro hn
  by_cases h : ∀ x : Nat, n ∣ x ∨ Nat.gcd n x = 1
  ·exact ⟨n, hn, Nat.dvd_refl _, h⟩
  ·obtain ⟨x, hx⟩ := Classical.not_forall.mp h
   have h1 : ¬ n ∣ x := fun h => hx (.inl h)
   have h2 : ¬ Nat.gcd n x = 1 := fun h => hx (.inr h)
   have h3 : Nat.gcd n x ≤ n := Nat.gcd_le_left _ (by omega)
   have h4 : Nat.gcd n x ≠ n := fun h => h1 (by rw [← h]; exact Nat.gcd_dvd_right _ _)
   have h5 : Nat.gcd n x ≠ 0 := fun h => by have := Nat.eq_zero_of_gcd_eq_zero_left h; omega
   obtain ⟨r, hr, hrd, hp⟩ := ih (Nat.gcd n x) (by omega) (by omega)
   exact ⟨r, hr, Nat.dvd_trans hrd (Nat.gcd_dvd_left _ _), hp⟩
theorem prime_mul {r : Nat} (hp : ∀ x : Nat, r ∣ x ∨ Nat.gcd r x = 1) {x y : Int} (h : (r : Int) ∣ x * y) : (r : Int) ∣ x ∨ (r : Int) ∣ y := by
 have h1 := Int.ofNat_dvd_left.mp h
 rw [Int.natAbs_mul] at h1
 rcases hp x.natAbs with h2 | h2
 ·exact .inl (Int.ofNat_dvd_left.mpr h2)
 ·exact .inr (Int.ofNat_dvd_left.mpr (Nat.Coprime.dvd_of_dvd_mul_left h2 h1))
theorem sumN_dvd {r : Int} : ∀ {n : Nat} {f : Nat → Int}, (∀ k, k < n → r ∣ f k) → r ∣ sumN n f
 | 0, f, _ => Int.dvd_zero _
 | n + 1, f, h => Int.dvd_add (sumN_dvd fun k hk => h k (by omega)) (h n (by omega))
theorem sumN_dvd_one {r : Int} {n i : Nat} {f : Nat → Int} (hi : i < n) (h : ∀ k, k < n → k ≠ i → r ∣ f k) (hs : r ∣ sumN n f) : r ∣ f i := by
 have e : sumN n f = sumN n (fun k => if k = i then 0 else f k) + f i := by
  have h1 : sumN n (fun k => if k = i then f k else 0) = f i := by
   rw [sumN_one _ hi fun k _ hk => if_neg hk, if_pos rfl]
  rw [← h1, ← sumN_add]
  refine sumN_congr fun k _ => ?_
  by_cases hk : k = i
  ·rw [if_pos hk, if_pos hk, Int.zero_add]
  ·rw [if_neg hk, if_neg hk, Int.add_zero]
 have h2 : r ∣ sumN n (fun k => if k = i then 0 else f k) := sumN_dvd fun k hk => by
  by_cases hki : k = i
  ·simp only [if_pos hki]; exact Int.dvd_zero _
  ·simp only [if_neg hki]; exact h k hk hki
 rw [e] at hs
 exact (Int.dvd_add_right h2).mp hs
theorem gauss_prime {r : Nat} (hp : ∀ x : Nat, r ∣ x ∨ Nat.gcd r x = 1) {p q : List Int} (h : ∀ k, (r : Int) ∣ cf (pmul p q) k) : ∀ n i j, i + j = n → (r : Int) ∣ cf p i ∨ (r : Int) ∣ cf q j := by
 intro n
 induction n using Nat.strongRecOn with
 | _ n ih =>
  intro i j hij
  by_cases h1 : (r : Int) ∣ cf p i
  ·exact .inl h1
  by_cases h2 : (r : Int) ∣ cf q j
  ·exact .inr h2
  exfalso
  have h3 := h n
  rw [cf_pmul, PS.cv_conv, PS.conv] at h3
  have h4 := sumN_dvd_one (i := i) (by omega) (fun k hk hki => ?_) h3
  ·rw [show n - i = j by omega] at h4
   rcases prime_mul hp h4 with h5 | h5
   ·exact h1 h5
   ·exact h2 h5
  ·rcases Nat.lt_or_ge k i with h5 | h5
   ·rcases ih (k + j) (by omega) k j rfl with h6 | h6
    ·exact Int.dvd_trans h6 (Int.dvd_mul_right _ _)
    ·exact absurd h6 h2
   ·rcases ih (i + (n - k)) (by omega) i (n - k) rfl with h6 | h6
    ·exact absurd h6 h1
    ·exact Int.dvd_trans h6 (Int.dvd_mul_left _ _)
theorem gauss_gz {p q : List Int} (hp : gz p = 1) (hq : gz q = 1) : gz (pmul p q) = 1 := by
 rcases Nat.lt_trichotomy (gz (pmul p q)) 1 with h | h | h
 ·exfalso
  obtain ⟨r, hr, hrd, hpr⟩ := prime_fac 2 (by decide)
  have h0 : gz (pmul p q) = 0 := by omega
  have hd : ∀ k, (r : Int) ∣ cf (pmul p q) k := fun k => by
   have := gz_dvd (pmul p q) k
   rw [h0] at this
   rw [Int.zero_dvd.mp this]
   exact Int.dvd_zero _
  have key := gauss_prime hpr hd
  by_cases ha : ∀ i, (r : Int) ∣ cf p i
  ·have := gz_greatest p r ha
   rw [hp] at this
   have := Nat.le_of_dvd (by decide) this
   omega
  ·obtain ⟨i, hi⟩ := Classical.not_forall.mp ha
   have := gz_greatest q r fun j => (key _ i j rfl).resolve_left hi
   rw [hq] at this
   have := Nat.le_of_dvd (by decide) this
   omega
 ·exact h
 ·exfalso
  obtain ⟨r, hr, hrd, hpr⟩ := prime_fac _ h
  have hd : ∀ k, (r : Int) ∣ cf (pmul p q) k := fun k => Int.dvd_trans (Int.natCast_dvd_natCast.mpr hrd) (gz_dvd _ k)
  have key := gauss_prime hpr hd
  by_cases ha : ∀ i, (r : Int) ∣ cf p i
  ·have := gz_greatest p r ha
   rw [hp] at this
   have := Nat.le_of_dvd (by decide) this
   omega
  ·obtain ⟨i, hi⟩ := Classical.not_forall.mp ha
   have := gz_greatest q r fun j => (key _ i j rfl).resolve_left hi
   rw [hq] at this
   have := Nat.le_of_dvd (by decide) this
   omega
theorem lc_spec {q : List Int} {n : Nat} (h : cf q n ≠ 0) (h0 : ∀ k, n < k → cf q k = 0) : lc q = cf q n := by
 unfold lc
 rw [tz_spec h h0, Nat.add_sub_cancel]
theorem lc_ne {q : List Int} (h : gz q ≠ 0) : tz q ≠ 0 ∧ lc q ≠ 0 := by
 have h1 : tz q ≠ 0 := fun h1 => by
  have h2 : (0 : Nat) ∣ gz q := gz_greatest q 0 fun k => by rw [tz_zero_iff.mp h1 k]; exact Int.dvd_zero _
  exact h (Nat.eq_zero_of_zero_dvd h2)
 exact ⟨h1, cf_tz_pred h1⟩
def Prm (q : List Int) : Prop := gz q = 1 ∧ 0 < lc q
theorem lc_scale {T R : List Int} {c : Int} (h : ∀ k, cf T k = c * cf R k) (hR : lc R ≠ 0) : lc T = c * lc R := by
 have hR' : tz R ≠ 0 := fun h0 => hR (by unfold lc; exact tz_zero_iff.mp h0 _)
 by_cases hc : c = 0
 ·unfold lc; rw [h, hc, Int.zero_mul, Int.zero_mul]
 ·have e : lc T = cf T (tz R - 1) := lc_spec (by rw [h]; exact Int.mul_ne_zero hc hR) fun k hk => by rw [h, cf_ge_tz R (by omega), Int.mul_zero]
  rw [e, h]; rfl
theorem gz_mul {T R : List Int} {c : Int} (h : ∀ k, cf T k = c * cf R k) : gz T = c.natAbs * gz R := by
 rw [← gz_scale]
 exact gz_eq fun k => by rw [h, cf_pscale, Int.mul_comm]
theorem sg_abs {c l : Int} (hl : 0 < l) : sg (decide (c * l < 0)) c.natAbs = c := by
 unfold sg
 by_cases hc : c < 0
 ·rw [decide_eq_true (Int.mul_neg_of_neg_of_pos hc hl)]
  simp only [↓reduceIte]; omega
 ·have h1 : ¬ c * l < 0 := by have := Int.mul_nonneg (show 0 ≤ c by omega) (show 0 ≤ l by omega); omega
  rw [decide_eq_false h1]
  simp only [Bool.false_eq_true, ↓reduceIte]; omega
theorem cont_of {T R : List Int} {c : Int} (hR : Prm R) (h : ∀ k, cf T k = c * cf R k) : cont T = c := by
 unfold cont
 rw [gz_mul h, hR.1, Nat.mul_one, lc_scale h (by have := hR.2; omega)]
 exact sg_abs hR.2
theorem prim_of {T R : List Int} {c : Int} (hR : Prm R) (hc : c ≠ 0) (h : ∀ k, cf T k = c * cf R k) (k : Nat) : cf (prim T) k = cf R k := by
 unfold prim
 rw [cf_pdivs, cont_of hR h, h, Int.mul_ediv_cancel_left _ hc]
theorem cf_prim (q : List Int) (k : Nat) : cf q k = cont q * cf (prim q) k := by
 unfold prim
 rw [cf_pdivs, Int.mul_ediv_cancel' (cont_dvd q k)]
theorem prm_prim {q : List Int} (h : cont q ≠ 0) : Prm (prim q) := by
 have h0 : gz q ≠ 0 := fun h0 => h (Int.natAbs_eq_zero.mp (by rw [cont_natAbs]; exact h0))
 have h1 := gz_mul (cf_prim q)
 rw [cont_natAbs] at h1
 have h2 : gz (prim q) = 1 := by
  have : gz q * gz (prim q) = gz q * 1 := by omega
  exact Nat.eq_of_mul_eq_mul_left (by omega) this
 refine ⟨h2, ?_⟩
 have h3 := (lc_ne (q := prim q) (by omega)).2
 have h4 := lc_scale (cf_prim q) h3
 have h5 := (lc_ne h0).2
 rcases Int.lt_trichotomy (lc (prim q)) 0 with h6 | h6 | h6
 ·exfalso
  rcases Int.lt_or_gt_of_ne h5 with h7 | h7
  ·have h8 : cont q < 0 := by
    unfold cont sg
    rw [decide_eq_true h7]
    simp only [↓reduceIte]; omega
   have := Int.mul_pos_of_neg_of_neg h8 h6
   omega
  ·have h8 : 0 < cont q := by
    unfold cont sg
    rw [decide_eq_false (by omega)]
    simp only [Bool.false_eq_true, ↓reduceIte]; omega
   have := Int.mul_neg_of_pos_of_neg h8 h6
   omega
 ·exact absurd h6 h3
 ·exact h6
theorem lc_pmul {P Q : List Int} (hP : lc P ≠ 0) (hQ : lc Q ≠ 0) : lc (pmul P Q) = lc P * lc Q := by
 have hP' : tz P ≠ 0 := fun h0 => hP (by unfold lc; exact tz_zero_iff.mp h0 _)
 have hQ' : tz Q ≠ 0 := fun h0 => hQ (by unfold lc; exact tz_zero_iff.mp h0 _)
 have e1 : cf (pmul P Q) (tz P - 1 + (tz Q - 1)) = lc P * lc Q := by
  rw [cf_pmul, PS.cv_conv, PS.conv, sumN_one (j := tz P - 1) _ (by omega) fun i hi hne => ?_]
  ·rw [show tz P - 1 + (tz Q - 1) - (tz P - 1) = tz Q - 1 by omega]; rfl
  ·rcases Nat.lt_or_ge i (tz P - 1) with h | h
   ·rw [cf_ge_tz Q (by omega), Int.mul_zero]
   ·rw [cf_ge_tz P (by omega), Int.zero_mul]
 rw [lc_spec (n := tz P - 1 + (tz Q - 1)) (by rw [e1]; exact Int.mul_ne_zero hP hQ) fun k hk => ?_, e1]
 rw [cf_pmul, PS.cv_conv, PS.conv]
 refine sumN_zero fun i hi => ?_
 rcases Nat.lt_or_ge i (tz P) with h | h
 ·rw [cf_ge_tz Q (by omega), Int.mul_zero]
 ·rw [cf_ge_tz P (by omega), Int.zero_mul]
theorem prm_mul {P Q : List Int} (hP : Prm P) (hQ : Prm Q) : Prm (pmul P Q) := by
 refine ⟨gauss_gz hP.1 hQ.1, ?_⟩
 have h1 := hP.2
 have h2 := hQ.2
 rw [lc_pmul (by omega) (by omega)]
 exact Int.mul_pos h1 h2
theorem prim_zero {q : List Int} (h : cont q = 0) (k : Nat) : cf (prim q) k = 0 ∧ cf q k = 0 := by
 constructor
 ·unfold prim
  rw [cf_pdivs, h, Int.ediv_zero]
 ·rw [cf_prim, h, Int.zero_mul]
theorem ps_prim (q : List Int) : ps q = PS.C (cont q) * ps (prim q) := PS.ext fun k => by
 rw [PS.C_mul_c, ps_c, ps_c]; exact cf_prim q k
theorem mul_prims (p q : List Int) (k : Nat) : cf (pmul p q) k = cont p * cont q * cf (pmul (prim p) (prim q)) k := by
 have h : ps (pmul p q) = PS.C (cont p * cont q) * ps (pmul (prim p) (prim q)) := by
  rw [ps_pmul, ps_pmul, ps_prim p, ps_prim q, PS.C_mul]
  rw [← ps_prim p, ← ps_prim q]
  conv => lhs; rw [ps_prim p, ps_prim q]
  rw [PS.mul_assoc, PS.mul_assoc, ← PS.mul_assoc (ps (prim p)), PS.mul_comm (ps (prim p)) (PS.C _), PS.mul_assoc]
 have := congrArg (fun f => f.c k) h
 simp only [ps_c, PS.C_mul_c] at this
 exact this
theorem cont_mul (p q : List Int) : cont (pmul p q) = cont p * cont q := by
 by_cases hp : cont p = 0
 ·have h0 : ∀ k, cf (pmul p q) k = 0 := fun k => by rw [mul_prims, hp, Int.zero_mul, Int.zero_mul]
  have h1 : gz (pmul p q) = 0 := Nat.eq_zero_of_zero_dvd (gz_greatest _ 0 fun k => by rw [h0]; exact Int.dvd_zero _)
  rw [hp, Int.zero_mul]
  exact Int.natAbs_eq_zero.mp (by rw [cont_natAbs]; exact h1)
 by_cases hq : cont q = 0
 ·have h0 : ∀ k, cf (pmul p q) k = 0 := fun k => by rw [mul_prims, hq, Int.mul_zero, Int.zero_mul]
  have h1 : gz (pmul p q) = 0 := Nat.eq_zero_of_zero_dvd (gz_greatest _ 0 fun k => by rw [h0]; exact Int.dvd_zero _)
  rw [hq, Int.mul_zero]
  exact Int.natAbs_eq_zero.mp (by rw [cont_natAbs]; exact h1)
 exact cont_of (prm_mul (prm_prim hp) (prm_prim hq)) (mul_prims p q)
theorem ps_zero {q : List Int} (h : ∀ k, cf q k = 0) : ps q = 0 := PS.ext h
theorem prm_self {q : List Int} (h : Prm q) : cont q = 1 ∧ ps (prim q) = ps q :=
 ⟨cont_of h fun k => (Int.one_mul _).symm, ps_ext fun k => prim_of h (by decide) (fun k => (Int.one_mul _).symm) k⟩
theorem cont_zero_iff {q : List Int} : cont q = 0 ↔ tz q = 0 := by
 constructor
 ·intro h; exact tz_zero_iff.mpr fun k => (prim_zero h k).2
 ·intro h
  refine Int.natAbs_eq_zero.mp ?_
  rw [cont_natAbs]
  exact Nat.eq_zero_of_zero_dvd (gz_greatest _ 0 fun k => by rw [tz_zero_iff.mp h k]; exact Int.dvd_zero _)
end Go.Proofs.YtdokaihemcnkmaaGreat

namespace Go.Proofs.YtdokaihemcnkmaaGreat
open Go Go.Proofs Go.AL
set_option linter.unusedSimpArgs false
set_option linter.unusedVariables false
theorem pnone_ok (p : List RI) (h : RP (2 ^ 40) (2 ^ 40) p) : AC Tryz.prog 286 [cw p] none [cb (decide (tz (pv p) = 0))] := by
 refine AC.by_walk (rs := [.tmp 2]) ords Tryz.func286 (by rfl) (by rfl) (by rfl) (by rfl) (by rfl) ?_
 simp (disch := omega) only [wt, seval, reduceCtorEq, Nat.reduceEqDiff, cpoly_len]
 refine call_by ((pdeg_ok p h)) (by rfl) (by simp) ?_
 simp (disch := omega) only [wt, seval, reduceCtorEq, Nat.reduceEqDiff, cpoly_len]
 rw [decide_eq_decide]
 omega
theorem zabs_ok (c : RI) (h : Sz (2 ^ 40) c) : AC Tryz.prog 242 [cr c] none [cl (wd (iv c).natAbs)] := by
 refine AC.by_walk (rs := [.tmp 2]) ords Tryz.func242 (by rfl) (by rfl) (by rfl) (by rfl) (by rfl) ?_
 have hl := h.1
 simp (disch := omega) only [wt, seval, reduceCtorEq, Nat.reduceEqDiff, cpoly_len]
 refine call_by ((norm_ok c.2 h.2 (by omega))) (by rfl) (by simp) ?_
 simp (disch := omega) only [wt, seval, reduceCtorEq, Nat.reduceEqDiff, cpoly_len]
 rw [iv_abs]
theorem prsmono_ok (c : RI) (n : Nat) (hn : n ≤ 2 ^ 29) (hc : Sz (2 ^ 35) c) : AC Tryz.prog 303 [cr c, ci n] none [cp (List.replicate n 0 ++ [iv c])] := by
 refine AC.by_walk (rs := [.tmp 4]) ords Tryz.func303 (by rfl) (by rfl) (by rfl) (by rfl) (by rfl) ?_
 simp (disch := omega) only [wt, seval, reduceCtorEq, Nat.reduceEqDiff, cpoly_len]
 refine .inl ⟨tmps_by (by kernel_rfl), ?_⟩
 have m := pnorm_ok (List.replicate n (false, []) ++ [c]) ⟨by simp; omega, fun x hx => by
  rcases List.mem_append.mp hx with h | h
  ·rw [List.eq_of_mem_replicate h]; exact ⟨by simp, Lim.nil⟩
  ·rw [List.mem_singleton.mp h]; exact hc.mono (by omega)⟩
 have e : pv (List.replicate n (false, []) ++ [c]) = List.replicate n 0 ++ [iv c] := by
  simp only [pv, List.map_append, List.map_replicate, List.map_cons, List.map_nil, iv_zero]
 rw [e] at m
 refine call_by (m) (by rfl) (by simp) ?_
 simp (disch := omega) only [wt, seval, reduceCtorEq, Nat.reduceEqDiff, cpoly_len]
 first | exact log_by (by kernel_rfl) | refine ⟨log_by (by kernel_rfl), ?_⟩
def rowsAt (f : Fr) (t : Nat) : Nat := match f t with
 | .iv (.sl rows) => rows.length
 | _ => 0
end Go.Proofs.YtdokaihemcnkmaaGreat

namespace Go.Proofs.YtdokaihemcnkmaaGreat
open Go Go.Proofs Go.AL
set_option linter.unusedSimpArgs false
set_option linter.unusedVariables false
def mono (n : Nat) (c : Int) : List Int := List.replicate n 0 ++ [c]
theorem cf_mono (n : Nat) (c : Int) (k : Nat) : cf (mono n c) k = if k = n then c else 0 := by
 unfold mono cf
 rw [List.getD_eq_getElem?_getD]
 rcases Nat.lt_trichotomy k n with h | h | h
 ·rw [List.getElem?_append_left (by simpa using h), List.getElem?_replicate, if_pos h, if_neg (by omega)]; rfl
 ·subst h
  rw [List.getElem?_append_right (by simp), if_pos rfl]
  simp
 ·rw [List.getElem?_eq_none (by simp; omega), if_neg (by omega)]; rfl
theorem cf_mono_mul (n : Nat) (c : Int) (B : List Int) (k : Nat) : cf (pmul (mono n c) B) k = if n ≤ k then c * cf B (k - n) else 0 := by
 rw [cf_pmul, PS.cv_conv, PS.conv]
 by_cases h : n ≤ k
 ·rw [if_pos h, sumN_one (j := n) _ (by omega) fun i hi hne => by rw [cf_mono, if_neg hne, Int.zero_mul], cf_mono, if_pos rfl]
 ·rw [if_neg h]
  exact sumN_zero fun i hi => by rw [cf_mono, if_neg (by omega), Int.zero_mul]
def dstep (c L : Int) (B : List Int) (s : List Int × List Int) : List Int × List Int :=
 (padd (pscale c s.1) (mono (tz s.2 - tz B) (c * lc s.2 / L)), padd (pscale c s.2) (pscale (-1) (pmul (mono (tz s.2 - tz B) (c * lc s.2 / L)) B)))
def dres (c L : Int) (B : List Int) : Nat → List Int × List Int → List Int × List Int
 | 0, s => s
 | n + 1, s => if tz B ≤ tz s.2 then dres c L B n (dstep c L B s) else dres c L B n (pscale c s.1, pscale c s.2)
theorem tz_le_of {q : List Int} {n : Nat} (h : ∀ k, n ≤ k → cf q k = 0) : tz q ≤ n := by
 rcases Nat.lt_or_ge n (tz q) with h1 | h1
 ·exact absurd (h (tz q - 1) (by omega)) (cf_tz_pred (by omega))
 ·exact h1
theorem dstep_tz {c L : Int} {B : List Int} {s : List Int × List Int} (hL : L = lc B) (hB : tz B ≠ 0) (hd : L ∣ c) (h : tz B ≤ tz s.2) : tz (dstep c L B s).2 ≤ tz s.2 - 1 := by
 refine tz_le_of fun k hk => ?_
 show cf (padd (pscale c s.2) (pscale (-1) (pmul (mono (tz s.2 - tz B) (c * lc s.2 / L)) B))) k = 0
 rw [cf_padd, cf_pscale, cf_pscale, cf_mono_mul, if_pos (by omega)]
 have hL0 : L ≠ 0 := by rw [hL]; exact cf_tz_pred hB
 rcases Nat.lt_or_ge k (tz s.2) with h1 | h1
 ·have hk1 : k = tz s.2 - 1 := by omega
  have e1 : k - (tz s.2 - tz B) = tz B - 1 := by omega
  rw [e1]
  have e2 : cf B (tz B - 1) = L := hL.symm
  have e3 : cf s.2 k = lc s.2 := by rw [hk1]; rfl
  rw [e2, e3, Int.ediv_mul_cancel (Int.dvd_trans hd (Int.dvd_mul_right _ _)), Int.mul_comm c]
  omega
 ·rw [cf_ge_tz s.2 h1, cf_ge_tz B (by omega)]
  simp
theorem dstep_eq {c L : Int} {B : List Int} {s : List Int × List Int} : ps (dstep c L B s).1 * ps B + ps (dstep c L B s).2 = PS.C c * (ps s.1 * ps B + ps s.2) := by
 show ps (padd _ _) * ps B + ps (padd _ _) = _
 rw [ps_padd, ps_padd, ps_pscale, ps_pscale, ps_pscale, ps_pmul, PS.neg_one_C, PS.add_mul, PS.mul_add, PS.mul_assoc, PS.add_assoc, PS.add_comm (PS.C c * ps s.2), ← PS.add_assoc (ps (mono _ _) * ps B), PS.add_neg, PS.zero_add]
theorem dres_eq {c L : Int} {B : List Int} : ∀ (n : Nat) (s : List Int × List Int), ps (dres c L B n s).1 * ps B + ps (dres c L B n s).2 = PS.pw (PS.C c) n * (ps s.1 * ps B + ps s.2)
 | 0, s => by rw [dres, PS.pw, PS.one_mul]
 | n + 1, s => by
  have e : PS.pw (PS.C c) (n + 1) = PS.pw (PS.C c) n * PS.C c := by rw [PS.pw_add, PS.pw_one]
  rw [dres]
  split
  ·rw [dres_eq n, dstep_eq, e, PS.mul_assoc]
  ·rw [dres_eq n, e, PS.mul_assoc]
   congr 1
   rw [ps_pscale, ps_pscale, PS.mul_assoc, PS.mul_add]
theorem tz_scale_le (c : Int) (q : List Int) : tz (pscale c q) ≤ tz q := tz_le_of fun k hk => by rw [cf_pscale, cf_ge_tz q hk, Int.zero_mul]
theorem dres_tz {c L : Int} {B : List Int} (hL : L = lc B) (hB : tz B ≠ 0) (hd : L ∣ c) : ∀ (n : Nat) (s : List Int × List Int), tz s.2 < tz B + n → tz (dres c L B n s).2 < tz B
 | 0, s, h => by simpa [dres] using h
 | n + 1, s, h => by
  rw [dres]
  split
  ·rename_i h1
   refine dres_tz hL hB hd n _ ?_
   have := dstep_tz (c := c) hL hB hd h1
   omega
  ·refine dres_tz hL hB hd n _ ?_
   have := tz_scale_le c s.2
   show tz (pscale c s.2) < _
   omega
end Go.Proofs.YtdokaihemcnkmaaGreat

namespace Go.Proofs.YtdokaihemcnkmaaGreat
open Go Go.Proofs Go.AL
set_option linter.unusedSimpArgs false
set_option linter.unusedVariables false
theorem cpoly_nil : cpoly [] = [] := rfl
theorem cpoly_at {q : List Int} {i : Nat} (h : i < tz q) : (cpoly q).getD i [] = prow (canon (cf q i)) := by
 have h1 : i < (trimz q).length := by rw [trimz_len]; exact h
 rw [← cf_trimz]
 simp [cpoly, raws, cf, List.getD, h1]
def Bd (k : Nat) (q : List Int) : Prop := tz q ≤ 40 ∧ ∀ i, zl (cf q i) ≤ k
theorem Bd.rp {k : Nat} {q : List Int} (h : Bd k q) (hk : k ≤ 2 ^ 35) : RP (2 ^ 30) (2 ^ 35) (cn q) := by
 refine (RP.canon (.of (by rw [trimz_len]; exact h.1) fun i => ?_)).mono (by decide : 40 ≤ _) hk
 rw [cf_trimz]; exact h.2 i
def KB (l : Nat) : Nat := (60 - l) * 536870912
theorem KB_step (l : Nat) (h : l + 1 ≤ 41) : KB l = KB (l + 1) + 536870912 := by unfold KB; omega
theorem KB_le (l : Nat) : KB l ≤ 32212254720 := by unfold KB; omega
theorem KB_ge (l : Nat) (h : l ≤ 41) : 536870912 ≤ KB l := by unfold KB; omega
theorem bnd_fin {K k : Nat} (h : K = k + 536870912) : max (k + 2 ^ 27) (k + 2 ^ 27 + 2 ^ 27) + 1 ≤ K := by omega
theorem bnd_fin1 {K k : Nat} (h : K = k + 536870912) : max (k + 2 ^ 27) (k + 2 ^ 27) + 1 ≤ K := by omega
theorem bnd_fin2 {K k : Nat} (h : K = k + 536870912) : k + 2 ^ 27 ≤ K := by omega
theorem bd_scale {K k : Nat} {c : Int} {q : List Int} (h : Bd K q) (hc : zl c ≤ k) : Bd (K + k) (pscale c q) := by
 refine ⟨Nat.le_trans (tz_scale_le c q) h.1, fun i => ?_⟩
 rw [cf_pscale]
 have := zl_mul (cf q i) c
 have := h.2 i
 omega
theorem bd_mono {K n : Nat} {c : Int} (hn : n < 40) (hc : zl c ≤ K) : Bd K (mono n c) := by
 refine ⟨tz_le_of fun k hk => by rw [cf_mono, if_neg (by omega)], fun i => ?_⟩
 rw [cf_mono]
 split
 ·exact hc
 ·rw [zl_zero]; omega
theorem bd_mmul {K k n m : Nat} {c : Int} {B : List Int} (hB : Bd k B) (hn : n + tz B ≤ 40) (hc : zl c ≤ K) : Bd (K + k) (pmul (mono n c) B) := by
 refine ⟨tz_le_of fun j hj => ?_, fun i => ?_⟩
 ·rw [cf_mono_mul]
  split
  ·rw [cf_ge_tz B (by omega), Int.mul_zero]
  ·rfl
 ·rw [cf_mono_mul]
  split
  ·have := zl_mul c (cf B (i - n))
   have := hB.2 (i - n)
   omega
  ·rw [zl_zero]; omega
theorem bd_add {K k : Nat} {p q : List Int} (hp : Bd K p) (hq : Bd k q) : Bd (max K k + 1) (padd p q) := by
 have h1 := hp.1
 have h2 := hq.1
 refine ⟨tz_le_of fun j hj => by rw [cf_padd, cf_ge_tz p (by omega), cf_ge_tz q (by omega)]; rfl, fun i => ?_⟩
 rw [cf_padd]
 have := zl_add (cf p i) (cf q i)
 have := hp.2 i
 have := hq.2 i
 omega
theorem bd_neg {K : Nat} {q : List Int} (h : Bd K q) : Bd K (pscale (-1) q) := by
 refine ⟨Nat.le_trans (tz_scale_le _ q) h.1, fun i => ?_⟩
 rw [cf_pscale, Int.mul_neg, Int.mul_one, zl_neg]
 exact h.2 i
theorem bd_nil (K : Nat) : Bd K [] := ⟨by simp [tz, topN], fun i => by rw [cf_nil, zl_zero]; exact Nat.zero_le _⟩
theorem Bd.mono {K k : Nat} {q : List Int} (h : Bd K q) (hk : K ≤ k) : Bd k q := ⟨h.1, fun i => Nat.le_trans (h.2 i) hk⟩
set_option maxHeartbeats 1000000 in
theorem divide_ok (p q : List RI) (fa : RI) (hp : RP 40 (2 ^ 27) p) (hq : RP 40 (2 ^ 27) q) (hf : Sz (2 ^ 27) fa) (hB : tz (pv q) ≠ 0) (hd : lc (pv q) ∣ iv fa) :
  AC Tryz.prog 287 [cw p, cw q, cr fa] none [cp (dres (iv fa) (lc (pv q)) (pv q) (tz (pv p) + 1 - tz (pv q)) ([], pv p)).1, cp (dres (iv fa) (lc (pv q)) (pv q) (tz (pv p) + 1 - tz (pv q)) ([], pv p)).2, ci (tz (pv p) + 1 - tz (pv q) : Nat)] := by
 refine AC.by_walk (rs := [.tmp 6, .tmp 7, .tmp 8]) ords Tryz.func287 (by rfl) (by rfl) (by rfl) (by rfl) (by rfl) ?_
 have qp := hp.pv
 have qq := hq.pv
 have tp : tz (pv p) ≤ 40 := Nat.le_trans (tz_le _) qp.1
 have tq : tz (pv q) ≤ 40 := Nat.le_trans (tz_le _) qq.1
 generalize hee : tz (pv p) + 1 - tz (pv q) = e at *
 have he : max ((tz (pv p) : Int) - tz (pv q) + 1) 0 = (e : Int) := by omega
 have ht1 : ((tz (pv q) : Int) - 1).toNat = tz (pv q) - 1 := by omega
 have hat := cpoly_at (q := pv q) (i := tz (pv q) - 1) (by omega)
 have hL : cf (pv q) (tz (pv q) - 1) = lc (pv q) := rfl
 rw [hL] at hat
 simp (disch := omega) only [wt, seval, reduceCtorEq, Nat.reduceEqDiff, cpoly_len, cpoly_nil]
 refine call_by ((pnorm_ok p (hp.mono (by omega) (by omega)))) (by rfl) (by simp) ?_
 simp (disch := omega) only [wt, seval, reduceCtorEq, Nat.reduceEqDiff, cpoly_len, cpoly_nil]
 refine call_by ((pnorm_ok q (hq.mono (by omega) (by omega)))) (by rfl) (by simp) ?_
 simp (disch := omega) only [wt, seval, reduceCtorEq, Nat.reduceEqDiff, cpoly_len, cpoly_nil]
 simp (disch := omega) only [wt, seval, reduceCtorEq, Nat.reduceEqDiff, cpoly_len, cpoly_nil, he, ht1, hat]
 generalize hc : iv fa = c at *
 generalize hPe : pv p = P at *
 generalize hBe : pv q = B at *
 generalize hLe : lc B = L at *
 have bd_P : Bd (KB e) P := ⟨tp, fun i => Nat.le_trans (qp.cf i) (Nat.le_trans (by decide) (KB_ge e (by omega)))⟩
 refine aloop_w (.nilv 13 (by simp (disch := omega) only [wt, seval, reduceCtorEq, Nat.reduceEqDiff, cpoly_len, cpoly_nil]) (.refl _ _)) (fun f H => ∃ (left st5 st12 : Nat) (Q R : List Int), dres c L B left (Q, R) = dres c L B e ([], P) ∧ tz R < tz B + left ∧ left ≤ 41 ∧ Bd (KB left) Q ∧ Bd (KB left) R ∧ f 14 = .iv (.int .i64 left) ∧ f 9 = .iv (.sl (cpoly R)) ∧ f 10 = .iv (.sl (cpoly B)) ∧ f 13 = .iv (.sl (cpoly Q)) ∧ f 11 = .iv (.int .i64 e) ∧ f 5 = .hp 5 st5 0 0 ∧ f 12 = .hp 12 st12 0 0 ∧ H 5 = .blk false st5 27 2 [prow fa] ∧ H 12 = .blk false st12 27 2 [prow (canon L)]) (fun f H => (intAt f 14).toNat) ?_ ?_
 ·refine ⟨e, 1, 1, [], P, rfl, by omega, by omega, bd_nil _, bd_P, ?_⟩
  simp (disch := omega) only [wt, seval, reduceCtorEq, Nat.reduceEqDiff, cpoly_len, cpoly_nil]
 rintro f H ⟨left, st5, st12, Q, R, hD, hT, hle, hQ, hR, hF⟩
 rw [intAt_of hF.1]
 simp (disch := omega) only [wt, seval, reduceCtorEq, Nat.reduceEqDiff, cpoly_len, cpoly_nil, hF]
 have hkb := KB_le left
 have hkR := hR.rp (by omega)
 have hkQ := hQ.rp (by omega)
 refine if_by (fun hge => ?_) (fun hge => ?_)
 ·obtain ⟨l, rfl⟩ : ∃ l, left = l + 1 := ⟨left - 1, by omega⟩
  have hm : ((tz R : Int) - tz B) = ((tz R - tz B : Nat) : Int) := by omega
  have ht2 : ((tz R : Int) - 1).toNat = tz R - 1 := by omega
  have hat2 := cpoly_at (q := R) (i := tz R - 1) (by omega)
  have hLR : cf R (tz R - 1) = lc R := rfl
  rw [hLR] at hat2
  have hzR := hR.2 (tz R - 1)
  rw [hLR] at hzR
  have hzc : zl c ≤ 2 ^ 27 := by rw [← hc]; exact zl_iv hf
  have hzL : zl L ≤ 2 ^ 27 := by rw [← hLe]; exact qq.cf _
  have hL0 : L ≠ 0 := by rw [← hLe]; exact cf_tz_pred hB
  have hzm := zl_mul c (lc R)
  have hdv : L ∣ c * lc R := Int.dvd_trans hd (Int.dvd_mul_right _ _)
  have hzt := zl_div hdv
  have m1 := zmul_ok fa (canon (lc R)) (hf.mono (by omega)) ((sz_canon _).mono (by omega))
  rw [hc, iv_canon] at m1
  have m2 := zexact_ok (canon (c * lc R)) (canon L) ((sz_canon _).mono (by omega)) ((sz_canon _).mono (by omega)) (by rw [iv_canon]; exact hL0) (by rw [iv_canon, iv_canon]; exact hdv)
  rw [iv_canon, iv_canon] at m2
  have m3 := prsmono_ok (canon (c * lc R / L)) (tz R - tz B) (by omega) ((sz_canon _).mono (by omega))
  rw [iv_canon] at m3
  simp (disch := omega) only [wt, seval, reduceCtorEq, Nat.reduceEqDiff, cpoly_len, cpoly_nil, hF, hm, ht2, hat2]
  refine .inl ⟨tmps_by (by kernel_rfl), ?_⟩
  refine call_by (m1) (by first | rfl | (simp only [tocvs, tocv, toboxes, tobox, updH_at, Nat.reduceEqDiff, ↓reduceIte, hF, hm, ht2, hat2]; rfl)) (by simp) ?_
  simp (disch := omega) only [wt, seval, reduceCtorEq, Nat.reduceEqDiff, cpoly_len, cpoly_nil, hF, hm, ht2, hat2]
  refine call_by (m2) (by first | rfl | (simp only [tocvs, tocv, toboxes, tobox, updH_at, Nat.reduceEqDiff, ↓reduceIte, hF, hm, ht2, hat2]; rfl)) (by simp) ?_
  simp (disch := omega) only [wt, seval, reduceCtorEq, Nat.reduceEqDiff, cpoly_len, cpoly_nil, hF, hm, ht2, hat2]
  first | exact log_by (by kernel_rfl) | refine ⟨log_by (by kernel_rfl), ?_⟩
  refine call_by (m3) (by first | rfl | (simp only [tocvs, tocv, toboxes, tobox, updH_at, Nat.reduceEqDiff, ↓reduceIte, hF, hm, ht2, hat2]; rfl)) (by simp) ?_
  simp (disch := omega) only [wt, seval, reduceCtorEq, Nat.reduceEqDiff, cpoly_len, cpoly_nil, hF, hm, ht2, hat2]
  have hBB : Bd (2 ^ 27) B := ⟨tq, fun i => qq.cf i⟩
  have hlt := hR.1
  have hK2 := KB_step l hle
  have hge' : tz B ≤ tz R := by omega
  generalize KB (l + 1) = K at *
  have b1 := bd_scale hQ hzc
  have b2 := bd_mono (n := tz R - tz B) (c := c * lc R / L) (K := K + 2 ^ 27) (by omega) (by omega)
  have b3 := bd_scale hR hzc
  have b4 := bd_mmul (m := 0) (n := tz R - tz B) (c := c * lc R / L) (K := K + 2 ^ 27) hBB (by omega) (by omega)
  have b5 := bd_add b1 b2
  have b6 := bd_add b3 (bd_neg b4)
  have hBr := hBB.rp (by omega)
  have s1 := pscale_g (q := Q) (c := fa) hkQ (hf.mono (by omega)) (ps_cn _)
  have s2 := pscale_g (q := R) (c := fa) hkR (hf.mono (by omega)) (ps_cn _)
  rw [hc] at s1 s2
  have hstep : dres c L B (l + 1) (Q, R) = dres c L B l (dstep c L B (Q, R)) := by
   rw [dres, if_pos (show tz B ≤ tz (Q, R).2 from hge')]
  have htz := dstep_tz (c := c) (s := (Q, R)) hLe.symm hB hd (show tz B ≤ tz (Q, R).2 from hge')
  refine call_by (s1) (by first | rfl | (simp only [tocvs, tocv, toboxes, tobox, updH_at, Nat.reduceEqDiff, ↓reduceIte, hF, hm, ht2, hat2]; rfl)) (by simp) ?_
  simp (disch := omega) only [wt, seval, reduceCtorEq, Nat.reduceEqDiff, cpoly_len, cpoly_nil, hF, hm, ht2, hat2]
  refine call_by ((padd_g (b1.rp (by omega)) (b2.rp (by omega)) (ps_cn _) (ps_cn _))) (by first | rfl | (simp only [tocvs, tocv, toboxes, tobox, updH_at, Nat.reduceEqDiff, ↓reduceIte, hF, hm, ht2, hat2]; rfl)) (by simp) ?_
  simp (disch := omega) only [wt, seval, reduceCtorEq, Nat.reduceEqDiff, cpoly_len, cpoly_nil, hF, hm, ht2, hat2]
  refine call_by (s2) (by first | rfl | (simp only [tocvs, tocv, toboxes, tobox, updH_at, Nat.reduceEqDiff, ↓reduceIte, hF, hm, ht2, hat2]; rfl)) (by simp) ?_
  simp (disch := omega) only [wt, seval, reduceCtorEq, Nat.reduceEqDiff, cpoly_len, cpoly_nil, hF, hm, ht2, hat2]
  refine call_by ((pmul_g (b2.rp (by omega)) hBr (ps_cn _) (ps_cn _))) (by first | rfl | (simp only [tocvs, tocv, toboxes, tobox, updH_at, Nat.reduceEqDiff, ↓reduceIte, hF, hm, ht2, hat2]; rfl)) (by simp) ?_
  simp (disch := omega) only [wt, seval, reduceCtorEq, Nat.reduceEqDiff, cpoly_len, cpoly_nil, hF, hm, ht2, hat2]
  refine call_by ((psub_g (b3.rp (by omega)) (b4.rp (by omega)) (ps_cn _) (ps_cn _))) (by first | rfl | (simp only [tocvs, tocv, toboxes, tobox, updH_at, Nat.reduceEqDiff, ↓reduceIte, hF, hm, ht2, hat2]; rfl)) (by simp) ?_
  simp (disch := omega) only [wt, seval, reduceCtorEq, Nat.reduceEqDiff, cpoly_len, cpoly_nil, hF, hm, ht2, hat2]
  refine ⟨⟨l, st5, st12, _, _, by rw [← hD, hstep]; rfl, ?_, by omega, b5.mono (bnd_fin1 hK2), b6.mono (bnd_fin hK2), by omega, rfl, rfl, rfl, rfl, rfl, rfl⟩, by omega⟩
  have h1 : tz R ≠ 0 := by omega
  have h2 : tz (padd (pscale c R) (pscale (-1) (pmul (mono (tz R - tz B) (c * lc R / L)) B))) ≤ tz R - 1 := htz
  omega
 ·have hout : tz R < tz B := by omega
  simp (disch := omega) only [wt, seval, reduceCtorEq, Nat.reduceEqDiff, cpoly_len, cpoly_nil, hF]
  refine aloop_by (fun f H => ∃ (lft sf : Nat) (S T : List Int), dres c L B lft (S, T) = dres c L B e ([], P) ∧ tz T < tz B ∧ lft ≤ 41 ∧ Bd (KB lft) S ∧ Bd (KB lft) T ∧ f 14 = .iv (.int .i64 lft) ∧ f 9 = .iv (.sl (cpoly T)) ∧ f 13 = .iv (.sl (cpoly S)) ∧ f 11 = .iv (.int .i64 e) ∧ f 5 = .hp 5 sf 0 0 ∧ H 5 = .blk false sf 27 2 [prow fa]) (fun f H => (intAt f 14).toNat) ?_ ?_
  ·refine ⟨left, st5, Q, R, hD, hout, hle, hQ, hR, ?_⟩
   simp (disch := omega) only [wt, seval, reduceCtorEq, Nat.reduceEqDiff, cpoly_len, cpoly_nil, hF]
  rintro f H ⟨lft, sf, S, T, hD, hT, hle, hQ, hR, hF⟩
  rw [intAt_of hF.1]
  simp (disch := omega) only [wt, seval, reduceCtorEq, Nat.reduceEqDiff, cpoly_len, cpoly_nil, hF]
  refine if_by (fun hgt => ?_) (fun hgt => ?_)
  ·obtain ⟨l, rfl⟩ : ∃ l, lft = l + 1 := ⟨lft - 1, by omega⟩
   have hkb := KB_le (l + 1)
   have hzc : zl c ≤ 2 ^ 27 := by rw [← hc]; exact zl_iv hf
   have hK2 := KB_step l hle
   have s1 := pscale_g (q := S) (c := fa) (hQ.rp (by omega)) (hf.mono (by omega)) (ps_cn _)
   have s2 := pscale_g (q := T) (c := fa) (hR.rp (by omega)) (hf.mono (by omega)) (ps_cn _)
   rw [hc] at s1 s2
   have hstep : dres c L B (l + 1) (S, T) = dres c L B l (pscale c S, pscale c T) := by
    rw [dres, if_neg (show ¬ tz B ≤ tz (S, T).2 from Nat.not_le.2 hT)]
   have hts := tz_scale_le c T
   have b1 := (bd_scale hQ hzc).mono (bnd_fin2 hK2)
   have b2 := (bd_scale hR hzc).mono (bnd_fin2 hK2)
   clear hK2
   simp (disch := omega) only [wt, seval, reduceCtorEq, Nat.reduceEqDiff, cpoly_len, cpoly_nil, hF]
   refine .inl ⟨tmps_by (by kernel_rfl), ?_⟩
   refine call_by (s1) (by first | rfl | (simp only [tocvs, tocv, toboxes, tobox, updH_at, Nat.reduceEqDiff, ↓reduceIte, hF]; rfl)) (by simp) ?_
   simp (disch := omega) only [wt, seval, reduceCtorEq, Nat.reduceEqDiff, cpoly_len, cpoly_nil, hF]
   refine call_by (s2) (by first | rfl | (simp only [tocvs, tocv, toboxes, tobox, updH_at, Nat.reduceEqDiff, ↓reduceIte, hF]; rfl)) (by simp) ?_
   simp (disch := omega) only [wt, seval, reduceCtorEq, Nat.reduceEqDiff, cpoly_len, cpoly_nil, hF]
   first | exact log_by (by kernel_rfl) | refine ⟨log_by (by kernel_rfl), ?_⟩
   refine ⟨⟨l, sf, _, _, by rw [← hD, hstep], by omega, by omega, b1, b2, by omega, rfl, rfl, rfl, rfl⟩, by omega⟩
  ·obtain rfl : lft = 0 := by omega
   simp (disch := omega) only [wt, seval, reduceCtorEq, Nat.reduceEqDiff, cpoly_len, cpoly_nil, hF]
   rw [← hD]
   exact ⟨rfl, rfl⟩
end Go.Proofs.YtdokaihemcnkmaaGreat

namespace Go.Proofs.YtdokaihemcnkmaaGreat
open Go Go.Proofs Go.AL
set_option linter.unusedSimpArgs false
set_option linter.unusedVariables false
end Go.Proofs.YtdokaihemcnkmaaGreat

namespace Go.Proofs.YtdokaihemcnkmaaGreat
open Go Go.Proofs Go.AL
set_option linter.unusedSimpArgs false
set_option linter.unusedVariables false
def NP (n k : Nat) (l : List (List Nat)) : Prop := l.length ≤ n ∧ ∀ a ∈ l, Lim a ∧ a.length ≤ k
theorem NP.get {n k : Nat} {l : List (List Nat)} (h : NP n k l) (i : Nat) : Lim (l.getD i []) ∧ (l.getD i []).length ≤ k := by
 by_cases hi : i < l.length
 ·have e : l.getD i [] = l[i] := by simp [List.getD, hi]
  rw [e]; exact h.2 _ (List.getElem_mem hi)
 ·rw [List.getD_eq_getElem?_getD, List.getElem?_eq_none (by omega)]
  exact ⟨Lim.nil, by simp⟩
def nsum (l : List (List Nat)) : Nat := l.foldl (fun s a => s + nv a) 0
theorem nsum_take {l : List (List Nat)} {i : Nat} (h : i < l.length) : nsum (l.take (i + 1)) = nsum (l.take i) + nv (l.getD i []) := by
 have e : l.take (i + 1) = l.take i ++ [l.getD i []] := by
  rw [List.take_add_one]; congr 1; simp [List.getD, h]
 rw [e, nsum, List.foldl_append]; rfl
theorem nsum_len {n k : Nat} {l : List (List Nat)} (h : NP n k l) : ∀ i, i ≤ l.length → (wd (nsum (l.take i))).length ≤ k + i
 | 0, _ => by simp [nsum, wd_zero]
 | i + 1, hi => by
  have h1 := nsum_len h i (by omega)
  have e : l.getD i [] = l[i] := by simp [List.getD, show i < l.length by omega]
  obtain ⟨h2, h3⟩ := h.2 l[i] (List.getElem_mem (by omega))
  have h4 := nv_len h2
  rw [nsum_take (by omega), e]
  have := wd_add_len (nsum (l.take i)) (nv l[i])
  omega
theorem nsum_ok (l : List (List Nat)) (h : NP (2 ^ 30) (2 ^ 30) l) : AC Tryz.prog 218 [.iv (.sl (natsr l))] none [cl (wd (nsum l))] := by
 refine AC.by_walk (rs := [.tmp 2]) ords Tryz.func218 (by rfl) (by rfl) (by rfl) (by rfl) (by rfl) ?_
 have hl := h.1
 simp (disch := omega) only [wt, seval, reduceCtorEq, Nat.reduceEqDiff, cpoly_len, natsr_len, natsr_at, natsr_snoc, natsr_app, natsr_rows, natsr_nil, List.drop_succ_cons, List.take_succ_cons, List.take_zero]
 refine aloop_w (.nilv 3 (by simp (disch := omega) only [wt, seval, reduceCtorEq, Nat.reduceEqDiff, cpoly_len, natsr_len, natsr_at, natsr_snoc, natsr_app, natsr_rows, natsr_nil, List.drop_succ_cons, List.take_succ_cons, List.take_zero]) (.refl _ _)) (fun f H => ∃ (i : Nat), i ≤ l.length ∧ f 8 = .iv (.int .i64 i) ∧ f 3 = .iv (.sl (lims (wd (nsum (l.take i))))) ∧ f 6 = .iv (.sl (natsr l)) ∧ f 7 = .iv (.int .i64 l.length)) (fun f H => (l.length - intAt f 8).toNat) ?_ ?_
 ·refine ⟨0, by omega, ?_⟩
  simp (disch := omega) only [wt, seval, reduceCtorEq, Nat.reduceEqDiff, cpoly_len, natsr_len, natsr_at, natsr_snoc, natsr_app, natsr_rows, natsr_nil, List.drop_succ_cons, List.take_succ_cons, List.take_zero, List.take_zero, nsum, List.foldl_nil, wd_zero]
 rintro f H ⟨i, hi, hF⟩
 rw [intAt_of hF.1]
 simp (disch := omega) only [wt, seval, reduceCtorEq, Nat.reduceEqDiff, cpoly_len, natsr_len, natsr_at, natsr_snoc, natsr_app, natsr_rows, natsr_nil, List.drop_succ_cons, List.take_succ_cons, List.take_zero, hF]
 have hs := nsum_len h i hi
 refine if_by (fun hlt => ?_) (fun hlt => ?_)
 ·have hg := h.get i
  have h3 := hg.2
  have m := nadd_ok (wd (nsum (l.take i))) (l.getD i []) (lim_wd _) hg.1 (by omega) (by omega)
  rw [nv_wd, ← nsum_take (by omega)] at m
  simp (disch := omega) only [wt, seval, reduceCtorEq, Nat.reduceEqDiff, cpoly_len, natsr_len, natsr_at, natsr_snoc, natsr_app, natsr_rows, natsr_nil, List.drop_succ_cons, List.take_succ_cons, List.take_zero, hF]
  refine call_by (m) (by first | rfl | (simp only [tocvs, tocv, toboxes, tobox, updH_at, Nat.reduceEqDiff, ↓reduceIte, hF]; rfl)) (by simp) ?_
  simp (disch := omega) only [wt, seval, reduceCtorEq, Nat.reduceEqDiff, cpoly_len, natsr_len, natsr_at, natsr_snoc, natsr_app, natsr_rows, natsr_nil, List.drop_succ_cons, List.take_succ_cons, List.take_zero, hF]
  exact ⟨⟨i + 1, by omega, by omega, rfl⟩, by omega⟩
 ·simp (disch := omega) only [wt, seval, reduceCtorEq, Nat.reduceEqDiff, cpoly_len, natsr_len, natsr_at, natsr_snoc, natsr_app, natsr_rows, natsr_nil, List.drop_succ_cons, List.take_succ_cons, List.take_zero, hF]
  rw [List.take_of_length_le (by omega)]
theorem nsum_snd (p : List RI) : nsum (p.map (·.2)) = wgt (pv p) := by
 unfold nsum wgt pv
 rw [List.foldl_map, List.foldl_map]
 congr 1
 funext s c
 rw [iv_abs]
theorem pweight_ok (p : List RI) (h : RP (2 ^ 30) (2 ^ 30) p) : AC Tryz.prog 123 [cw p] none [cl (wd (wgt (pv p)))] := by
 refine AC.by_walk (rs := [.tmp 2]) ords Tryz.func123 (by rfl) (by rfl) (by rfl) (by rfl) (by rfl) ?_
 have hl := h.1
 simp (disch := omega) only [wt, seval, reduceCtorEq, Nat.reduceEqDiff, cpoly_len, natsr_len, natsr_at, natsr_snoc, natsr_app, natsr_rows, natsr_nil, List.drop_succ_cons, List.take_succ_cons, List.take_zero]
 refine aloop_nil 3 3 25 1 (by simp (disch := omega) only [wt, seval, reduceCtorEq, Nat.reduceEqDiff, cpoly_len, natsr_len, natsr_at, natsr_snoc, natsr_app, natsr_rows, natsr_nil, List.drop_succ_cons, List.take_succ_cons, List.take_zero]) (fun f H => ∃ (i st : Nat), i ≤ p.length ∧ f 8 = .iv (.int .i64 i) ∧ f 3 = .hs 3 st ∧ f 6 = .iv (.sl (raws p)) ∧ f 7 = .iv (.int .i64 p.length) ∧ H 3 = .blk false st 25 1 (natsr ((p.take i).map (·.2)))) (fun f H => (p.length - intAt f 8).toNat) ?_ ?_
 ·refine ⟨0, 1, by omega, ?_⟩
  simp (disch := omega) only [wt, seval, reduceCtorEq, Nat.reduceEqDiff, cpoly_len, natsr_len, natsr_at, natsr_snoc, natsr_app, natsr_rows, natsr_nil, List.drop_succ_cons, List.take_succ_cons, List.take_zero, ghostF, ghostH, List.take_zero]
 rintro f H ⟨i, st, hi, hF⟩
 rw [intAt_of hF.1]
 simp (disch := omega) only [wt, seval, reduceCtorEq, Nat.reduceEqDiff, cpoly_len, natsr_len, natsr_at, natsr_snoc, natsr_app, natsr_rows, natsr_nil, List.drop_succ_cons, List.take_succ_cons, List.take_zero, hF]
 refine if_by (fun hlt => ?_) (fun hlt => ?_)
 ·have hq : ((p.take i).map (·.2)).length = i := by rw [List.length_map, List.length_take]; omega
  simp (disch := omega) only [wt, seval, reduceCtorEq, Nat.reduceEqDiff, cpoly_len, natsr_len, natsr_at, natsr_snoc, natsr_app, natsr_rows, natsr_nil, List.drop_succ_cons, List.take_succ_cons, List.take_zero, hF, hq]
  have e : (p.take (i + 1)).map (·.2) = (p.take i).map (·.2) ++ [(p.getD i (false, [])).2] := by
   rw [List.take_add_one, List.map_append]; congr 1; simp [List.getD, show i < p.length by omega]
  exact ⟨⟨i + 1, st + 1, by omega, by omega, by rw [e]; exact ⟨rfl, rfl⟩⟩, by omega⟩
 ·simp (disch := omega) only [wt, seval, reduceCtorEq, Nat.reduceEqDiff, cpoly_len, natsr_len, natsr_at, natsr_snoc, natsr_app, natsr_rows, natsr_nil, List.drop_succ_cons, List.take_succ_cons, List.take_zero, hF]
  rw [List.take_of_length_le (by omega)] at hF
  have m := nsum_ok (p.map (·.2)) ⟨by simpa using hl, fun a ha => by
   obtain ⟨c, hc, rfl⟩ := List.mem_map.mp ha
   exact ⟨(h.2 c hc).2, (h.2 c hc).1⟩⟩
  rw [nsum_snd] at m
  refine call_by (m) (by first | rfl | (simp only [tocvs, tocv, toboxes, tobox, updH_at, Nat.reduceEqDiff, ↓reduceIte, hF]; rfl)) (by simp) ?_
  simp (disch := omega) only [wt, seval, reduceCtorEq, Nat.reduceEqDiff, cpoly_len, natsr_len, natsr_at, natsr_snoc, natsr_app, natsr_rows, natsr_nil, List.drop_succ_cons, List.take_succ_cons, List.take_zero, hF]
theorem wgt_len {n k : Nat} {p : List RI} (h : RP n k p) (i : Nat) (hi : i ≤ p.length) : (wd (wgt ((pv p).take i))).length ≤ k + i := by
 have := nsum_len (n := n) (k := k) (l := p.map (·.2)) ⟨by simpa using h.1, fun a ha => by
   obtain ⟨c, hc, rfl⟩ := List.mem_map.mp ha
   exact ⟨(h.2 c hc).2, (h.2 c hc).1⟩⟩ i (by simpa using hi)
 rw [← List.map_take, nsum_snd] at this
 rwa [show pv (p.take i) = (pv p).take i by simp [pv, List.map_take]] at this
end Go.Proofs.YtdokaihemcnkmaaGreat

namespace Go.Proofs.YtdokaihemcnkmaaGreat
open Go Go.Proofs Go.AL
set_option linter.unusedSimpArgs false
set_option linter.unusedVariables false
theorem cont_ps {p q : List Int} (h : ps p = ps q) : cont p = cont q := by
 unfold cont lc
 rw [gz_eq (ps_eq h), tz_eq_of_cf (ps_eq h), ps_eq h]
theorem prim_ps {p q : List Int} (h : ps p = ps q) : ps (prim p) = ps (prim q) := ps_ext fun k => by
 unfold prim
 rw [cf_pdivs, cf_pdivs, cont_ps h, ps_eq h]
theorem pcontent_g {a : List RI} {q : List Int} (ha : RP (2 ^ 30) (2 ^ 35) a) (eq : ps (pv a) = ps q) : AC Tryz.prog 121 [cw a] none [cz (cont q)] := by
 rw [← cont_ps eq]; exact pcontent_ok a (ha.mono (by omega) (by omega))
theorem pprim_g {a : List RI} {q : List Int} (ha : RP (2 ^ 30) (2 ^ 35) a) (eq : ps (pv a) = ps q) : AC Tryz.prog 118 [cw a] none [cp (prim q)] := by
 have h := pprim_ok a ha
 rwa [cp_ps (prim_ps eq)] at h
theorem plead_g {a : List RI} {q : List Int} (ha : RP (2 ^ 30) (2 ^ 35) a) (eq : ps (pv a) = ps q) : AC Tryz.prog 119 [cw a] none [cz (lc q)] := by
 have h := plead_ok a (ha.mono (by omega) (by omega))
 have e : cf (pv a) (tz (pv a) - 1) = lc q := by unfold lc; rw [tz_eq_of_cf (ps_eq eq), ps_eq eq]
 rwa [e] at h
theorem pover_g {a : List RI} {r : List Int} {c : RI} (ha : RP (2 ^ 30) (2 ^ 35) a) (hc : Sz (2 ^ 35) c) (h0 : iv c ≠ 0) (eq : ps (pv a) = PS.C (iv c) * ps r) : AC Tryz.prog 110 [cw a, cr c] none [cp r, ci 0] := by
 have hk : ∀ k, cf (pv a) k = iv c * cf r k := fun k => by
  have := congrArg (fun f => f.c k) eq
  simp only [ps_c, PS.C_mul_c] at this
  exact this
 have h := pover_ok a c ha hc h0 fun k => by rw [hk]; exact Int.dvd_mul_right _ _
 rwa [cp_ps (q := r) (ps_ext fun k => by rw [cf_pdivs, hk, Int.mul_ediv_cancel_left _ h0])] at h
end Go.Proofs.YtdokaihemcnkmaaGreat

namespace Go.Proofs.YtdokaihemcnkmaaGreat
open Go Go.Proofs Go.AL
set_option linter.unusedSimpArgs false
set_option linter.unusedVariables false
def dxp (P B : List Int) : Nat := tz P + 1 - tz B
def dq (P B : List Int) : List Int := (dres (lc B) (lc B) B (dxp P B) ([], P)).1
def dr (P B : List Int) : List Int := (dres (lc B) (lc B) B (dxp P B) ([], P)).2
def dpos (P B : List Int) : List Int := (dres ((lc B).natAbs : Int) (lc B) B (dxp P B) ([], P)).2
theorem pdiv_zero (p q : List RI) (hq : RP 40 (2 ^ 27) q) (h0 : tz (pv q) = 0) : AC Tryz.prog 257 [cw p, cw q] none [cw [], cw [], ci 0, ci 1] := by
 refine AC.by_walk (rs := [.tmp 4, .tmp 5, .tmp 6, .tmp 7]) ords Tryz.func257 (by rfl) (by rfl) (by rfl) (by rfl) (by rfl) ?_
 simp (disch := omega) only [wt, seval, reduceCtorEq, Nat.reduceEqDiff, cpoly_len, cpoly_nil]
 refine call_by ((pnone_ok q (hq.mono (by omega) (by omega)))) (by first | rfl | (simp only [tocvs, tocv, toboxes, tobox, updH_at, Nat.reduceEqDiff, ↓reduceIte, h0]; rfl)) (by simp) ?_
 simp (disch := omega) only [wt, seval, reduceCtorEq, Nat.reduceEqDiff, cpoly_len, cpoly_nil, h0]
theorem pdiv_ok (p q : List RI) (hp : RP 40 (2 ^ 27) p) (hq : RP 40 (2 ^ 27) q) (h0 : ¬ tz (pv q) = 0) : AC Tryz.prog 257 [cw p, cw q] none [cp (dq (pv p) (pv q)), cp (dr (pv p) (pv q)), ci (dxp (pv p) (pv q)), ci 0] := by
 refine AC.by_walk (rs := [.tmp 4, .tmp 5, .tmp 6, .tmp 7]) ords Tryz.func257 (by rfl) (by rfl) (by rfl) (by rfl) (by rfl) ?_
 have hl : Sz (2 ^ 27) (canon (lc (pv q))) := (sz_canon _).mono (hq.pv.cf _)
 have m := divide_ok p q (canon (lc (pv q))) hp hq hl h0 (by rw [iv_canon]; exact Int.dvd_refl _)
 rw [iv_canon] at m
 simp (disch := omega) only [wt, seval, reduceCtorEq, Nat.reduceEqDiff, cpoly_len, cpoly_nil]
 refine call_by ((pnone_ok q (hq.mono (by omega) (by omega)))) (by first | rfl | (simp only [tocvs, tocv, toboxes, tobox, updH_at, Nat.reduceEqDiff, ↓reduceIte, h0]; rfl)) (by simp) ?_
 simp (disch := omega) only [wt, seval, reduceCtorEq, Nat.reduceEqDiff, cpoly_len, cpoly_nil, h0]
 refine call_by ((plead_g (hq.mono (by omega) (by omega)) rfl)) (by first | rfl | (simp only [tocvs, tocv, toboxes, tobox, updH_at, Nat.reduceEqDiff, ↓reduceIte, h0]; rfl)) (by simp) ?_
 simp (disch := omega) only [wt, seval, reduceCtorEq, Nat.reduceEqDiff, cpoly_len, cpoly_nil, h0]
 refine call_by (m) (by first | rfl | (simp only [tocvs, tocv, toboxes, tobox, updH_at, Nat.reduceEqDiff, ↓reduceIte, h0]; rfl)) (by simp) ?_
 simp (disch := omega) only [wt, seval, reduceCtorEq, Nat.reduceEqDiff, cpoly_len, cpoly_nil, h0]
 exact ⟨rfl, rfl, rfl⟩
theorem prem_ok (p q : List RI) (hp : RP 40 (2 ^ 27) p) (hq : RP 40 (2 ^ 27) q) (h0 : ¬ tz (pv q) = 0) : AC Tryz.prog 317 [cw p, cw q] none [cp (dr (pv p) (pv q)), ci 0] := by
 refine AC.by_walk (rs := [.tmp 4, .tmp 5]) ords Tryz.func317 (by rfl) (by rfl) (by rfl) (by rfl) (by rfl) ?_
 simp (disch := omega) only [wt, seval, reduceCtorEq, Nat.reduceEqDiff, cpoly_len, cpoly_nil]
 refine call_by ((pdiv_ok p q hp hq h0)) (by rfl) (by simp) ?_
 simp (disch := omega) only [wt, seval, reduceCtorEq, Nat.reduceEqDiff, cpoly_len, cpoly_nil]
theorem ppos_ok (p q : List RI) (hp : RP 40 (2 ^ 27) p) (hq : RP 40 (2 ^ 27) q) (h0 : ¬ tz (pv q) = 0) : AC Tryz.prog 280 [cw p, cw q] none [cp (dpos (pv p) (pv q)), ci 0] := by
 refine AC.by_walk (rs := [.tmp 4, .tmp 5]) ords Tryz.func280 (by rfl) (by rfl) (by rfl) (by rfl) (by rfl) ?_
 have hz : zl (lc (pv q)) ≤ 2 ^ 27 := hq.pv.cf _
 have hl : Sz (2 ^ 27) (canon (lc (pv q))) := (sz_canon _).mono hz
 have hl2 : Sz (2 ^ 27) (canon (((lc (pv q)).natAbs : Int))) := (sz_canon _).mono (by unfold zl at hz ⊢; rw [Int.natAbs_natCast]; exact hz)
 have m := divide_ok p q (canon ((lc (pv q)).natAbs : Int)) hp hq hl2 h0 (by rw [iv_canon]; exact Int.dvd_natAbs.mpr (Int.dvd_refl _))
 rw [iv_canon] at m
 have ma := zabs_ok (canon (lc (pv q))) (hl.mono (by omega))
 rw [iv_canon] at ma
 have mn := znat_ok false (lc (pv q)).natAbs (by unfold zl at hz; omega)
 simp (disch := omega) only [wt, seval, reduceCtorEq, Nat.reduceEqDiff, cpoly_len, cpoly_nil]
 refine call_by ((pnone_ok q (hq.mono (by omega) (by omega)))) (by first | rfl | (simp only [tocvs, tocv, toboxes, tobox, updH_at, Nat.reduceEqDiff, ↓reduceIte, h0]; rfl)) (by simp) ?_
 simp (disch := omega) only [wt, seval, reduceCtorEq, Nat.reduceEqDiff, cpoly_len, cpoly_nil, h0]
 refine call_by ((plead_g (hq.mono (by omega) (by omega)) rfl)) (by first | rfl | (simp only [tocvs, tocv, toboxes, tobox, updH_at, Nat.reduceEqDiff, ↓reduceIte, h0]; rfl)) (by simp) ?_
 simp (disch := omega) only [wt, seval, reduceCtorEq, Nat.reduceEqDiff, cpoly_len, cpoly_nil, h0]
 refine call_by (ma) (by first | rfl | (simp only [tocvs, tocv, toboxes, tobox, updH_at, Nat.reduceEqDiff, ↓reduceIte, h0]; rfl)) (by simp) ?_
 simp (disch := omega) only [wt, seval, reduceCtorEq, Nat.reduceEqDiff, cpoly_len, cpoly_nil, h0]
 refine call_by (mn) (by first | rfl | (simp only [tocvs, tocv, toboxes, tobox, updH_at, Nat.reduceEqDiff, ↓reduceIte, h0]; rfl)) (by simp) ?_
 simp (disch := omega) only [wt, seval, reduceCtorEq, Nat.reduceEqDiff, cpoly_len, cpoly_nil, h0]
 have e : sg false (lc (pv q)).natAbs = ((lc (pv q)).natAbs : Int) := by simp [sg]
 rw [e]
 refine call_by (m) (by first | rfl | (simp only [tocvs, tocv, toboxes, tobox, updH_at, Nat.reduceEqDiff, ↓reduceIte, h0]; rfl)) (by simp) ?_
 simp (disch := omega) only [wt, seval, reduceCtorEq, Nat.reduceEqDiff, cpoly_len, cpoly_nil, h0]
 rfl
end Go.Proofs.YtdokaihemcnkmaaGreat

namespace Go.Proofs.YtdokaihemcnkmaaGreat
open Go Go.Proofs Go.AL
set_option linter.unusedSimpArgs false
set_option linter.unusedVariables false
theorem lc_sgn {q r : List Int} {σ : Int} (hσ : σ = 1 ∨ σ = -1) (h : ps q = PS.C σ * ps r) : tz q = tz r ∧ lc q = σ * lc r := by
 have hk : ∀ k, cf q k = σ * cf r k := fun k => by
  have := congrArg (fun f => f.c k) h
  simp only [ps_c, PS.C_mul_c] at this
  exact this
 have h1 : tz q = tz r := by
  refine Nat.le_antisymm (tz_le_of fun k hk' => by rw [hk, cf_ge_tz r hk', Int.mul_zero]) (tz_le_of fun k hk' => ?_)
  have := cf_ge_tz q hk'
  rw [hk] at this
  rcases hσ with rfl | rfl <;> omega
 exact ⟨h1, by unfold lc; rw [h1, hk]⟩
theorem ps_mono (n : Nat) (c d : Int) : ps (mono n (c * d)) = PS.C c * ps (mono n d) := PS.ext fun k => by
 rw [PS.C_mul_c, ps_c, ps_c, cf_mono, cf_mono]
 split
 ·rfl
 ·rw [Int.mul_zero]
theorem c_swap (x y m b : PS) : x * (y * m * b) = y * (x * (m * b)) := by rw [PS.mul_assoc y, ← PS.mul_assoc x y, PS.mul_comm x y, PS.mul_assoc]
theorem c_c (a b : Int) (r : PS) : PS.C a * (PS.C b * r) = PS.C (a * b) * r := by rw [← PS.mul_assoc, ← PS.C_mul]
theorem dres_neg {c L : Int} {B : List Int} (hL0 : L ≠ 0) (hd : L ∣ c) : ∀ (n : Nat) (s s' : List Int × List Int) (σ : Int), (σ = 1 ∨ σ = -1) → ps s'.1 = PS.C σ * ps s.1 → ps s'.2 = PS.C σ * ps s.2 →
  ps (dres (-c) L B n s').2 = PS.C ((-1) ^ n * σ) * ps (dres c L B n s).2
 | 0, s, s', σ, _, _, h2 => by rw [dres, dres, Int.pow_zero, Int.one_mul]; exact h2
 | n + 1, s, s', σ, hσ, h1, h2 => by
  obtain ⟨ht, hl⟩ := lc_sgn hσ h2
  have hσ' : -σ = 1 ∨ -σ = -1 := by omega
  have e : (-1 : Int) ^ (n + 1) * σ = (-1) ^ n * (-σ) := by rw [Int.pow_succ, Int.mul_assoc, Int.neg_mul, Int.one_mul]
  rw [dres, dres, ht, e]
  split
  ·rename_i hge
   have hdv : L ∣ c * lc s.2 := Int.dvd_trans hd (Int.dvd_mul_right _ _)
   have hq : -c * lc s'.2 / L = -σ * (c * lc s.2 / L) := by
    rw [hl, show -c * (σ * lc s.2) = -σ * (c * lc s.2) by rw [Int.neg_mul, Int.neg_mul, Int.mul_left_comm], Int.mul_ediv_assoc _ hdv]
   refine dres_neg hL0 hd n _ _ (-σ) hσ' ?_ ?_
   ·show ps (padd _ _) = PS.C _ * ps (padd _ _)
    rw [hq, ps_padd, ps_padd, ps_pscale, ps_pscale, h1, ht, ps_mono, PS.mul_add, ← PS.mul_assoc, ← PS.mul_assoc, ← PS.C_mul, ← PS.C_mul]
    congr 2
    congr 1
    rw [Int.neg_mul, Int.neg_mul, Int.mul_comm]
   ·show ps (padd _ _) = PS.C _ * ps (padd _ _)
    rw [hq, ps_padd, ps_padd, ps_pscale, ps_pscale, ps_pscale, ps_pscale, ps_pmul, ps_pmul, h2, ht, ps_mono, PS.mul_add, c_swap]
    simp only [c_c]
    rw [show -c * σ = -σ * c by rw [Int.neg_mul, Int.neg_mul, Int.mul_comm]]
  ·refine dres_neg hL0 hd n _ _ (-σ) hσ' ?_ ?_
   ·show ps (pscale _ _) = PS.C _ * ps (pscale _ _)
    rw [ps_pscale, ps_pscale, h1, ← PS.mul_assoc, ← PS.mul_assoc, ← PS.C_mul, ← PS.C_mul, Int.neg_mul, Int.neg_mul, Int.mul_comm]
   ·show ps (pscale _ _) = PS.C _ * ps (pscale _ _)
    rw [ps_pscale, ps_pscale, h2, ← PS.mul_assoc, ← PS.mul_assoc, ← PS.C_mul, ← PS.C_mul, Int.neg_mul, Int.neg_mul, Int.mul_comm]
end Go.Proofs.YtdokaihemcnkmaaGreat

namespace Go.Proofs.YtdokaihemcnkmaaGreat
open Go Go.Proofs Go.AL
set_option linter.unusedSimpArgs false
set_option linter.unusedVariables false
theorem ps_zero_of {q : List Int} (h : tz q = 0) : ps q = 0 := PS.ext fun k => tz_zero_iff.mp h k
theorem tz_of_ps {p q : List Int} (h : ps p = ps q) : tz p = tz q := tz_eq_of_cf (ps_eq h)
theorem tz_pscale {c : Int} (hc : c ≠ 0) (q : List Int) : tz (pscale c q) = tz q := by
 refine Nat.le_antisymm (tz_scale_le c q) (tz_le_of fun k hk => ?_)
 have := cf_ge_tz (pscale c q) hk
 rw [cf_pscale] at this
 exact (Int.mul_eq_zero.mp this).resolve_right hc
theorem ps_cancel {S T B : List Int} (h : ps S * ps B = ps T * ps B) (hB : tz B ≠ 0) : ps S = ps T := by
 have e : ps (pmul (padd S (pscale (-1) T)) B) = 0 := by
  rw [ps_pmul, ps_padd, ps_pscale, PS.neg_one_C, PS.add_mul, PS.neg_mul, h, PS.add_neg]
 have h0 : tz (pmul (padd S (pscale (-1) T)) B) = 0 := tz_zero_iff.mpr fun k => congrArg (fun f => PS.c f k) e
 have h1 : tz (padd S (pscale (-1) T)) = 0 := by
  by_cases h1 : tz (padd S (pscale (-1) T)) = 0
  ·exact h1
  ·rw [tz_pmul h1 hB] at h0; omega
 refine PS.ext fun k => ?_
 have := tz_zero_iff.mp h1 k
 rw [cf_padd, cf_pscale] at this
 rw [ps_c, ps_c]
 omega
theorem C_cancel {a : Int} (ha : a ≠ 0) {f g : PS} (h : PS.C a * f = PS.C a * g) : f = g := PS.ext fun k => by
 have := congrArg (fun f => PS.c f k) h
 simp only [PS.C_mul_c] at this
 exact Int.eq_of_mul_eq_mul_left ha this
def As (A B : List Int) : Prop := ∃ a b : Int, a ≠ 0 ∧ b ≠ 0 ∧ PS.C a * ps A = PS.C b * ps B
theorem As.of_ps {A B : List Int} (h : ps A = ps B) : As A B := ⟨1, 1, by decide, by decide, by rw [h]⟩
theorem As.refl (A : List Int) : As A A := .of_ps rfl
theorem As.symm {A B : List Int} (h : As A B) : As B A := by
 obtain ⟨a, b, ha, hb, e⟩ := h
 exact ⟨b, a, hb, ha, e.symm⟩
theorem As.trans {A B D : List Int} (h : As A B) (h2 : As B D) : As A D := by
 obtain ⟨a, b, ha, hb, e⟩ := h
 obtain ⟨a', b', ha', hb', e'⟩ := h2
 refine ⟨a' * a, b * b', Int.mul_ne_zero ha' ha, Int.mul_ne_zero hb hb', ?_⟩
 rw [PS.C_mul, PS.C_mul, PS.mul_assoc, e, PS.mul_assoc, ← e', ← PS.mul_assoc, ← PS.mul_assoc, PS.mul_comm (PS.C a')]
theorem as_tz {A B : List Int} (h : As A B) : tz A = tz B := by
 obtain ⟨a, b, ha, hb, e⟩ := h
 rw [← tz_pscale ha A, ← tz_pscale hb B]
 exact tz_of_ps (by rw [ps_pscale, ps_pscale, e])
theorem as_prim (A : List Int) : As A (prim A) := by
 by_cases h : cont A = 0
 ·refine .of_ps ?_
  rw [ps_prim A, h, PS.C_zero, PS.zero_mul]
  exact (ps_zero fun k => (prim_zero h k).1).symm
 ·exact ⟨1, cont A, by decide, h, by rw [PS.C_one, PS.one_mul]; exact ps_prim A⟩
def Nf (A : List Int) : Prop := tz A = 0 ∨ Prm A
theorem nf_prim (A : List Int) : Nf (prim A) := by
 by_cases h : cont A = 0
 ·exact .inl (tz_zero_iff.mpr fun k => (prim_zero h k).1)
 ·exact .inr (prm_prim h)
theorem prm_tz {A : List Int} (h : Prm A) : tz A ≠ 0 := (lc_ne (q := A) (by rw [h.1]; decide)).1
theorem As.uniq {A B : List Int} (h : As A B) (hA : Nf A) (hB : Nf B) : ps A = ps B := by
 have ht := as_tz h
 rcases hA with hA | hA
 ·rw [ps_zero_of hA, ps_zero_of (by omega)]
 rcases hB with hB | hB
 ·exact absurd (by omega) (prm_tz hA)
 obtain ⟨a, b, ha, hb, e⟩ := h
 have e1 : ∀ k, cf (pscale b B) k = a * cf A k := fun k => by
  have := congrArg (fun f => PS.c f k) e
  simp only [PS.C_mul_c, ps_c] at this
  rw [cf_pscale, Int.mul_comm, this]
 have e2 : ∀ k, cf (pscale b B) k = b * cf B k := fun k => by rw [cf_pscale, Int.mul_comm]
 have c1 := cont_of hA e1
 have c2 := cont_of hB e2
 have ab : a = b := c1.symm.trans c2
 subst ab
 exact C_cancel ha e
def npr (A : List Int) : List Int := trimz (prim A)
theorem npr_trim (A : List Int) : trimz (npr A) = npr A := trimz_trimz _
theorem as_npr (A : List Int) : As A (npr A) := (as_prim A).trans (.of_ps (ps_trimz _).symm)
theorem tz_npr (A : List Int) : tz (npr A) = tz A := (as_tz (as_npr A)).symm
theorem nf_of_ps {A B : List Int} (e : ps A = ps B) (h : Nf A) : Nf B := by
 have ht := tz_of_ps e
 rcases h with h | h
 ·exact .inl (by omega)
 ·refine .inr ⟨?_, ?_⟩
  ·rw [← gz_eq (ps_eq e)]; exact h.1
  ·have := h.2
   unfold lc at this ⊢
   rwa [← ht, ← ps_eq e]
theorem nf_npr (A : List Int) : Nf (npr A) := nf_of_ps (ps_trimz _).symm (nf_prim A)
theorem cp_npr (A : List Int) : cp (prim A) = cp (npr A) := cp_ext fun k => (cf_trimz _ k).symm
def Dv (B A : List Int) : Prop := ∃ (c : Int) (S : List Int), c ≠ 0 ∧ ps S * ps B = PS.C c * ps A
theorem Dv.refl (A : List Int) : Dv A A := ⟨1, [1], by decide, by rw [ps_one, PS.C_one]⟩
theorem Dv.zero {A : List Int} (B : List Int) (h : tz A = 0) : Dv B A := ⟨1, [], by decide, by rw [ps_nil, ps_zero_of h, PS.zero_mul, PS.mul_zero]⟩
theorem Dv.trans {D B A : List Int} (h : Dv D B) (h2 : Dv B A) : Dv D A := by
 obtain ⟨c, S, hc, e⟩ := h
 obtain ⟨d, T, hd, e2⟩ := h2
 refine ⟨c * d, pmul T S, Int.mul_ne_zero hc hd, ?_⟩
 rw [ps_pmul, PS.mul_assoc, e, PS.C_mul, PS.mul_assoc, ← e2]
 ac_rfl
theorem Dv.mul {B A S : List Int} (h : ps A = ps S * ps B) : Dv B A := ⟨1, S, by decide, by rw [PS.C_one, PS.one_mul, h]⟩
theorem Dv.lin {G A B R U V : List Int} {k : Int} (h1 : Dv G A) (h2 : Dv G B) (hk : k ≠ 0) (e : ps U * ps A + ps V * ps B = PS.C k * ps R) : Dv G R := by
 obtain ⟨c, S, hc, e1⟩ := h1
 obtain ⟨d, T, hd, e2⟩ := h2
 refine ⟨c * d * k, padd (pscale d (pmul U S)) (pscale c (pmul V T)), Int.mul_ne_zero (Int.mul_ne_zero hc hd) hk, ?_⟩
 rw [ps_padd, ps_pscale, ps_pscale, ps_pmul, ps_pmul, PS.C_mul, PS.mul_assoc, ← e, PS.C_mul, PS.add_mul, PS.mul_add]
 have x1 : PS.C d * (ps U * ps S) * ps G = PS.C d * (ps U * (ps S * ps G)) := by ac_rfl
 have x2 : PS.C c * (ps V * ps T) * ps G = PS.C c * (ps V * (ps T * ps G)) := by ac_rfl
 rw [x1, x2, e1, e2]
 congr 1 <;> ac_rfl
theorem As.dv {A B : List Int} (h : As A B) : Dv A B := by
 obtain ⟨a, b, ha, hb, e⟩ := h
 exact ⟨b, [a], hb, by rw [ps_const, e]⟩
theorem dv_tz {B A : List Int} (h : Dv B A) (hA : tz A ≠ 0) : tz B ≠ 0 ∧ tz B ≤ tz A := by
 obtain ⟨c, S, hc, e⟩ := h
 have ht : tz (pmul S B) = tz A := by
  rw [← tz_pscale hc A]
  exact tz_of_ps (by rw [ps_pmul, ps_pscale, e])
 have hS : tz S ≠ 0 := fun h0 => hA (by rw [← ht]; exact tz_pmul_zero (.inl h0))
 have hB : tz B ≠ 0 := fun h0 => hA (by rw [← ht]; exact tz_pmul_zero (.inr h0))
 rw [tz_pmul hS hB] at ht
 exact ⟨hB, by omega⟩
theorem Dv.anti {A B : List Int} (h : Dv A B) (h2 : Dv B A) : As A B := by
 by_cases hB : tz B = 0
 ·have hA : tz A = 0 := by
   by_cases hA : tz A = 0
   ·exact hA
   ·exact absurd hB (dv_tz h2 hA).1
  exact .of_ps (by rw [ps_zero_of hA, ps_zero_of hB])
 have hA := (dv_tz h hB).1
 have l1 := (dv_tz h hB).2
 have l2 := (dv_tz h2 hA).2
 obtain ⟨c, S, hc, e⟩ := h
 have ht : tz (pmul S A) = tz B := by
  rw [← tz_pscale hc B]
  exact tz_of_ps (by rw [ps_pmul, ps_pscale, e])
 have hS : tz S ≠ 0 := fun h0 => hB (by rw [← ht]; exact tz_pmul_zero (.inl h0))
 rw [tz_pmul hS hA] at ht
 have hS1 : tz S = 1 := by omega
 have es : ps S = PS.C (cf S 0) := PS.ext fun k => by
  rw [ps_c, PS.c_C]
  split
  ·rename_i h; rw [h]
  ·exact cf_ge_tz S (by omega)
 have h0 : cf S 0 ≠ 0 := by have := cf_tz_pred (q := S) hS; rwa [hS1] at this
 exact ⟨cf S 0, c, h0, hc, by rw [← es, e]⟩
theorem Dv.as {B B' A A' : List Int} (h : Dv B A) (hB : As B' B) (hA : As A A') : Dv B' A' := (hB.dv.trans h).trans hA.dv
structure GG (G A B : List Int) : Prop where
 a : Dv G A
 b : Dv G B
 z : ∃ (c : Int) (U V : List Int), c ≠ 0 ∧ ps U * ps A + ps V * ps B = PS.C c * ps G
theorem GG.dv {G A B D : List Int} (h : GG G A B) (h1 : Dv D A) (h2 : Dv D B) : Dv D G := by
 obtain ⟨c, U, V, hc, e⟩ := h.z
 exact h1.lin h2 hc e
theorem GG.uniq {G G' A B : List Int} (h : GG G A B) (h' : GG G' A B) (n : Nf G) (n' : Nf G') : ps G = ps G' := ((h'.dv h.a h.b).anti (h.dv h'.a h'.b)).uniq n n'
theorem GG.symm {G A B : List Int} (h : GG G A B) : GG G B A := by
 obtain ⟨c, U, V, hc, e⟩ := h.z
 exact ⟨h.b, h.a, c, V, U, hc, by rw [PS.add_comm, e]⟩
theorem GG.zero {A B : List Int} (h : tz B = 0) : GG A A B := ⟨.refl A, .zero A h, 1, [1], [], by decide, by rw [ps_one, ps_nil, PS.zero_mul, PS.add_zero, PS.C_one]⟩
theorem GG.as {G G' A A' B B' : List Int} (h : GG G A B) (hG : As G G') (hA : As A A') (hB : As B B') : GG G' A' B' := by
 refine ⟨h.a.as hG.symm hA, h.b.as hG.symm hB, ?_⟩
 obtain ⟨c, U, V, hc, e⟩ := h.z
 obtain ⟨g, g', hg, hg', eg⟩ := hG
 obtain ⟨a, a', ha, ha', ea⟩ := hA
 obtain ⟨b, b', hb, hb', eb⟩ := hB
 refine ⟨c * a * b * g', pscale (b * g * a') U, pscale (a * g * b') V, Int.mul_ne_zero (Int.mul_ne_zero (Int.mul_ne_zero hc ha) hb) hg', ?_⟩
 rw [ps_pscale, ps_pscale]
 have x1 : PS.C (b * g * a') * ps U * ps A' = PS.C a * PS.C b * PS.C g * (ps U * ps A) := by
  have : PS.C (b * g * a') * ps U * ps A' = PS.C b * PS.C g * ps U * (PS.C a' * ps A') := by rw [PS.C_mul, PS.C_mul]; ac_rfl
  rw [this, ← ea]; ac_rfl
 have x2 : PS.C (a * g * b') * ps V * ps B' = PS.C a * PS.C b * PS.C g * (ps V * ps B) := by
  have : PS.C (a * g * b') * ps V * ps B' = PS.C a * PS.C g * ps V * (PS.C b' * ps B') := by rw [PS.C_mul, PS.C_mul]; ac_rfl
  rw [this, ← eb]; ac_rfl
 rw [x1, x2, ← PS.mul_add, e]
 have : PS.C (c * a * b * g') * ps G' = PS.C c * PS.C a * PS.C b * (PS.C g' * ps G') := by rw [PS.C_mul, PS.C_mul, PS.C_mul]; ac_rfl
 rw [this, ← eg]
 ac_rfl
theorem GG.step {G A B Q R : List Int} {c : Int} (h : GG G B R) (hc : c ≠ 0) (e : ps Q * ps B + ps R = PS.C c * ps A) : GG G A B := by
 refine ⟨h.a.lin (U := Q) (V := [1]) h.b hc (by rw [ps_one, PS.one_mul, e]), h.a, ?_⟩
 obtain ⟨k, U, V, hk, ek⟩ := h.z
 refine ⟨k, pscale c V, padd U (pscale (-1) (pmul V Q)), hk, ?_⟩
 rw [ps_pscale, ps_padd, ps_pscale, ps_pmul, PS.neg_one_C, PS.add_mul, PS.neg_mul, ← ek]
 have : PS.C c * ps V * ps A = ps V * ps Q * ps B + ps V * ps R := by
  rw [show PS.C c * ps V * ps A = ps V * (PS.C c * ps A) by ac_rfl, ← e, PS.mul_add]
  congr 1
  ac_rfl
 rw [this]
 generalize ps V * ps Q * ps B = x
 generalize ps V * ps R = y
 generalize ps U * ps B = w
 refine PS.ext fun k => ?_
 simp only [PS.c_add, PS.c_neg]
 omega
theorem gg_tz0 {G A B : List Int} (h : GG G A B) (h0 : tz G = 0) : tz A = 0 ∧ tz B = 0 := by
 constructor
 ·by_cases x : tz A = 0
  ·exact x
  ·exact absurd h0 (dv_tz h.a x).1
 ·by_cases x : tz B = 0
  ·exact x
  ·exact absurd h0 (dv_tz h.b x).1
theorem GG.more {G A B A' K : List Int} (h : GG G A B) (e : ps A' = ps A + ps K * ps B) : GG G A' B := by
 refine ⟨h.a.lin (U := [1]) (V := K) h.b (k := 1) (by decide) (by rw [ps_one, PS.one_mul, PS.C_one, PS.one_mul, e]), h.b, ?_⟩
 obtain ⟨c, U, V, hc, ec⟩ := h.z
 refine ⟨c, U, padd V (pscale (-1) (pmul U K)), hc, ?_⟩
 rw [ps_padd, ps_pscale, ps_pmul, PS.neg_one_C, e, PS.mul_add, PS.add_mul, PS.neg_mul, ← ec, ← PS.mul_assoc]
 generalize ps U * ps K * ps B = x
 generalize ps U * ps A = y
 generalize ps V * ps B = w
 refine PS.ext fun k => ?_
 simp only [PS.c_add, PS.c_neg]
 omega
theorem dres_div (A B : List Int) : ps (dq A B) * ps B + ps (dr A B) = PS.C (lc B ^ dxp A B) * ps A := by
 have h := dres_eq (c := lc B) (L := lc B) (B := B) (dxp A B) ([], A)
 have e : ∀ n, PS.pw (PS.C (lc B)) n = PS.C (lc B ^ n) := fun n => by
  induction n with
  | zero => rw [PS.pw, Int.pow_zero, PS.C_one]
  | succ n ih => rw [PS.pw_add, PS.pw_one, ih, Int.pow_succ, PS.C_mul]
 rw [e] at h
 rw [dq, dr, h]
 show _ * (ps [] * ps B + ps A) = _
 rw [ps_nil, PS.zero_mul, PS.zero_add]
theorem lc_ne0 {B : List Int} (h : tz B ≠ 0) : lc B ≠ 0 := cf_tz_pred h
theorem lcp_ne {B : List Int} (h : tz B ≠ 0) (n : Nat) : lc B ^ n ≠ 0 := Int.pow_ne_zero (lc_ne0 h)
theorem drem_tz {A B : List Int} (h : tz B ≠ 0) : tz (dr A B) < tz B := dres_tz rfl h (Int.dvd_refl _) _ _ (by show tz A < tz B + dxp A B; unfold dxp; omega)
def eu : Nat → List Int → List Int → List Int
 | 0, A, _ => A
 | n + 1, A, B => if tz B = 0 then A else eu n B (npr (dr A B))
theorem eu_gg : ∀ (n : Nat) (A B : List Int), tz B ≤ n → GG (eu n A B) A B
 | 0, A, B, h => .zero (by omega)
 | n + 1, A, B, h => by
  rw [eu]
  split
  ·rename_i h0; exact .zero h0
  ·rename_i h0
   have ht := drem_tz (A := A) h0
   have ih := eu_gg n B (npr (dr A B)) (by rw [tz_npr]; omega)
   exact (ih.as (.refl _) (.refl _) (as_npr _).symm).step (lcp_ne h0 _) (dres_div A B)
theorem eu_nf : ∀ (n : Nat) (A B : List Int), Nf A → Nf B → Nf (eu n A B)
 | 0, A, B, h, _ => h
 | n + 1, A, B, h, h2 => by
  rw [eu]
  split
  ·exact h
  ·exact eu_nf n B _ h2 (nf_npr _)
def gcdp (A B : List Int) : List Int := eu (tz B) (npr A) (npr B)
theorem gcdp_gg (A B : List Int) : GG (gcdp A B) A B := (eu_gg (tz B) (npr A) (npr B) (by rw [tz_npr]; omega)).as (.refl _) (as_npr A).symm (as_npr B).symm
theorem gcdp_nf (A B : List Int) : Nf (gcdp A B) := eu_nf _ _ _ (nf_npr A) (nf_npr B)
theorem gcdp_eq {A B G : List Int} (h : GG G A B) (n : Nf G) : ps G = ps (gcdp A B) := h.uniq (gcdp_gg A B) n (gcdp_nf A B)
theorem gcdp_as {A A' B B' : List Int} (hA : As A A') (hB : As B B') : ps (gcdp A B) = ps (gcdp A' B') := gcdp_eq ((gcdp_gg A B).as (.refl _) hA hB) (gcdp_nf A B)
theorem dv_dr {A B : List Int} (h : tz B ≠ 0) : Dv B A ↔ tz (dr A B) = 0 := by
 have e := dres_div A B
 constructor
 ·intro hd
  have h1 : Dv B (dr A B) := hd.lin (U := [lc B ^ dxp A B]) (V := pscale (-1) (dq A B)) (.refl B) (k := 1) (by decide) (by
   rw [ps_const, ← e, ps_pscale, PS.neg_one_C, PS.neg_mul, PS.C_one, PS.one_mul]
   generalize ps (dq A B) * ps B = x
   generalize ps (dr A B) = y
   refine PS.ext fun k => ?_
   simp only [PS.c_add, PS.c_neg]
   omega)
  by_cases h0 : tz (dr A B) = 0
  ·exact h0
  ·have := (dv_tz h1 h0).2
   have := drem_tz (A := A) h
   omega
 ·intro h0
  exact ⟨_, dq A B, lcp_ne h _, by rw [← e, ps_zero_of h0, PS.add_zero]⟩
def quo (A B : List Int) : List Int := npr (dq A B)
def SBd (k : Nat) (q : List Int) : Prop := ∀ i, zl (cf q i) ≤ k
theorem SBd.mono {k m : Nat} {q : List Int} (h : SBd k q) (hk : k ≤ m) : SBd m q := fun i => Nat.le_trans (h i) hk
theorem sb_prim {k : Nat} {q : List Int} (h : SBd k q) : SBd k (prim q) := fun i => by
 by_cases hc : cont q = 0
 ·rw [(prim_zero hc i).1, zl_zero]; omega
 ·have := zl_div (cont_dvd q i)
  have e : cf (prim q) i = cf q i / cont q := cf_pdivs _ _ _
  rw [e]
  exact Nat.le_trans this (h i)
theorem sb_npr {k : Nat} {q : List Int} (h : SBd k q) : SBd k (npr q) := fun i => by
 rw [npr, cf_trimz]; exact sb_prim h i
theorem dres_sz {L : Int} {B : List Int} {b : Nat} (hL : L ≠ 0) (hB : SBd b B) (hl : zl L ≤ b) : ∀ (n r : Nat) (s : List Int × List Int), SBd r s.1 → SBd r s.2 → SBd (r + n * (b + 1)) (dres L L B n s).1 ∧ SBd (r + n * (b + 1)) (dres L L B n s).2
 | 0, r, s, h1, h2 => by rw [Nat.zero_mul, Nat.add_zero]; exact ⟨h1, h2⟩
 | n + 1, r, s, h1, h2 => by
  rw [dres]
  have hr : r + (n + 1) * (b + 1) = r + (b + 1) + n * (b + 1) := by rw [Nat.succ_mul]; omega
  rw [hr]
  have sc : ∀ q, SBd r q → SBd (r + b) (pscale L q) := fun q h i => by
   rw [cf_pscale]
   have := zl_mul (cf q i) L
   have := h i
   omega
  split
  ·refine dres_sz hL hB hl n _ _ (fun i => ?_) (fun i => ?_)
   ·show zl (cf (padd (pscale L s.1) (mono _ _)) i) ≤ _
    rw [cf_padd, cf_mono, Int.mul_ediv_cancel_left _ hL]
    have a1 := sc _ h1 i
    have a2 : zl (if i = tz s.2 - tz B then lc s.2 else 0) ≤ r := by
     split
     ·exact h2 _
     ·rw [zl_zero]; omega
    have := zl_add (cf (pscale L s.1) i) (if i = tz s.2 - tz B then lc s.2 else 0)
    omega
   ·show zl (cf (padd (pscale L s.2) (pscale (-1) (pmul (mono _ _) B))) i) ≤ _
    rw [cf_padd, cf_pscale (-1), cf_mono_mul, Int.mul_ediv_cancel_left _ hL]
    have a1 := sc _ h2 i
    have a2 : zl ((if tz s.2 - tz B ≤ i then lc s.2 * cf B (i - (tz s.2 - tz B)) else 0) * -1) ≤ r + b := by
     rw [Int.mul_neg, Int.mul_one, zl_neg]
     split
     ·have := zl_mul (lc s.2) (cf B (i - (tz s.2 - tz B)))
      have h3 : zl (lc s.2) ≤ r := h2 _
      have := hB (i - (tz s.2 - tz B))
      omega
     ·rw [zl_zero]; omega
    have := zl_add (cf (pscale L s.2) i) ((if tz s.2 - tz B ≤ i then lc s.2 * cf B (i - (tz s.2 - tz B)) else 0) * -1)
    omega
  ·exact dres_sz hL hB hl n _ _ ((sc _ h1).mono (by omega)) ((sc _ h2).mono (by omega))
theorem div_sz {A B : List Int} {a b : Nat} (hB0 : tz B ≠ 0) (hA : SBd a A) (hB : SBd b B) : SBd (a + dxp A B * (b + 1)) (dq A B) ∧ SBd (a + dxp A B * (b + 1)) (dr A B) :=
 dres_sz (lc_ne0 hB0) hB (hB _) _ _ _ (fun i => by rw [cf_nil, zl_zero]; omega) hA
def EZ (S : Nat) : Nat → Nat
 | 0 => S
 | 1 => 2 * S + 1
 | i + 2 => 2 * EZ S (i + 1) + EZ S i + 2
theorem EZ.succ (S : Nat) : ∀ i, EZ S i ≤ EZ S (i + 1)
 | 0 => by show S ≤ 2 * S + 1; omega
 | i + 1 => by show EZ S (i + 1) ≤ 2 * EZ S (i + 1) + EZ S i + 2; omega
theorem EZ.mono (S : Nat) {i j : Nat} (h : i ≤ j) : EZ S i ≤ EZ S j := by
 induction h with
 | refl => exact Nat.le_refl _
 | step _ ih => exact Nat.le_trans ih (EZ.succ S _)
theorem EZ.grow (S u : Nat) : ∀ d, EZ S u + (d + 2) * (EZ S (u + 1) + 1) ≤ EZ S (u + 2 + d)
 | 0 => by show _ ≤ 2 * EZ S (u + 1) + EZ S u + 2; omega
 | d + 1 => by
  have ih := EZ.grow S u d
  have h1 : EZ S (u + 1) ≤ EZ S (u + 1 + d) := EZ.mono S (by omega)
  have e : EZ S (u + 2 + (d + 1)) = 2 * EZ S (u + 1 + d + 1) + EZ S (u + 1 + d) + 2 := by
   rw [show u + 2 + (d + 1) = (u + 1 + d) + 2 by omega, EZ]
  rw [show u + 2 + d = u + 1 + d + 1 by omega] at ih
  rw [e, show d + 1 + 2 = (d + 2) + 1 by omega, Nat.succ_mul]
  omega
structure EI (D S : Nat) (X Y : List Int) : Prop where
 x : tz X ≤ D
 y : tz Y ≤ D
 s : (SBd S X ∧ SBd S Y) ∨ (tz Y < tz X ∧ SBd (EZ S (D - tz X)) X ∧ SBd (EZ S (D - tz X + 1)) Y)
theorem EI.bd {D S : Nat} {X Y : List Int} (h : EI D S X Y) : SBd (EZ S D) X ∧ SBd (EZ S D) Y := by
 rcases h.s with ⟨a, b⟩ | ⟨l, a, b⟩
 ·have : S ≤ EZ S D := EZ.mono S (i := 0) (by omega)
  exact ⟨a.mono this, b.mono this⟩
 ·have := h.x
  exact ⟨a.mono (EZ.mono S (by omega)), b.mono (EZ.mono S (by omega))⟩
theorem EI.step {D S : Nat} {X Y : List Int} (h : EI D S X Y) (h0 : tz Y ≠ 0) : EI D S Y (npr (dr X Y)) := by
 have ht := drem_tz (A := X) h0
 have hx := h.x
 have hy := h.y
 refine ⟨h.y, by rw [tz_npr]; omega, .inr ⟨by rw [tz_npr]; omega, ?_⟩⟩
 have norm : tz Y < tz X → SBd (EZ S (D - tz X)) X → SBd (EZ S (D - tz X + 1)) Y → SBd (EZ S (D - tz Y)) Y ∧ SBd (EZ S (D - tz Y + 1)) (npr (dr X Y)) := fun l a b => by
  refine ⟨b.mono (EZ.mono S (by omega)), sb_npr ((div_sz h0 a b).2.mono ?_)⟩
  have g := EZ.grow S (D - tz X) (tz X - tz Y - 1)
  rw [show tz X - tz Y - 1 + 2 = dxp X Y by unfold dxp; omega, show D - tz X + 2 + (tz X - tz Y - 1) = D - tz Y + 1 by omega] at g
  exact g
 rcases h.s with ⟨a, b⟩ | ⟨l, a, b⟩
 ·by_cases l : tz Y < tz X
  ·exact norm l (a.mono (EZ.mono S (i := 0) (by omega))) (b.mono (EZ.mono S (i := 0) (by omega)))
  ·refine ⟨b.mono (EZ.mono S (i := 0) (by omega)), sb_npr ((div_sz h0 a b).2.mono ?_)⟩
   have g : EZ S 1 ≤ EZ S (D - tz Y + 1) := EZ.mono S (by omega)
   have e1 : EZ S 1 = 2 * S + 1 := rfl
   have hd : dxp X Y ≤ 1 := by unfold dxp; omega
   have := Nat.mul_le_mul_right (S + 1) hd
   omega
 ·exact norm l a b
theorem EI.start {D S : Nat} {A B : List Int} (ha : tz A ≤ D) (hb : tz B ≤ D) (sa : SBd S A) (sb : SBd S B) : EI D S (npr A) (npr B) := ⟨by rw [tz_npr]; exact ha, by rw [tz_npr]; exact hb, .inl ⟨sb_npr sa, sb_npr sb⟩⟩
end Go.Proofs.YtdokaihemcnkmaaGreat

namespace Go.Proofs.YtdokaihemcnkmaaGreat
open Go Go.Proofs Go.AL
set_option linter.unusedSimpArgs false
set_option linter.unusedVariables false
theorem zl_pow {a : Int} {K : Nat} (h : zl a ≤ K) (i : Nat) : zl (a ^ i) ≤ i * K + 1 := by
 induction i with
 | zero => rw [Int.pow_zero]; have : zl 1 ≤ 1 := zl_le.mpr (by decide); omega
 | succ i ih =>
  rw [Int.pow_succ]
  have := zl_mul (a ^ i) a
  rw [Nat.succ_mul]
  omega
def ev : List Int → Int → Int
 | [], _ => 0
 | c :: p, t => c + t * ev p t
def ihom : List Int → Int → Int → Int
 | [], _, _ => 0
 | c :: p, a, b => c * b ^ p.length + a * ihom p a b
theorem zl_ev {K kt : Nat} {t : Int} (ht : zl t ≤ kt) : ∀ {p : List Int}, (∀ z ∈ p, zl z ≤ K) → zl (ev p t) ≤ K + p.length * (kt + 1)
 | [], _ => by rw [ev, zl_zero]; omega
 | c :: p, h => by
  have ih := zl_ev (p := p) ht fun z hz => h z (List.mem_cons_of_mem _ hz)
  have h1 := zl_add c (t * ev p t)
  have h2 := zl_mul t (ev p t)
  have h3 := h c (by simp)
  rw [ev, List.length_cons, Nat.succ_mul]
  omega
theorem zl_ihom {K k : Nat} {a b : Int} (ha : zl a ≤ k) (hb : zl b ≤ k) : ∀ {p : List Int}, (∀ z ∈ p, zl z ≤ K) → zl (ihom p a b) ≤ K + p.length * (k + 1) + 1
 | [], _ => by rw [ihom, zl_zero]; omega
 | c :: p, h => by
  have ih := zl_ihom (p := p) ha hb fun z hz => h z (List.mem_cons_of_mem _ hz)
  have h1 := zl_add (c * b ^ p.length) (a * ihom p a b)
  have h2 := zl_mul a (ihom p a b)
  have h3 := h c (by simp)
  have h4 := zl_mul c (b ^ p.length)
  have h5 := zl_pow hb p.length
  rw [ihom, List.length_cons, Nat.succ_mul]
  rw [Nat.mul_succ] at ih ⊢
  omega
theorem drop_cf (q : List Int) {i : Nat} (h : i < q.length) : q.drop i = cf q i :: q.drop (i + 1) := by
 rw [List.drop_eq_getElem_cons h]
 simp [cf, List.getD, h]
end Go.Proofs.YtdokaihemcnkmaaGreat

namespace Go.Proofs.YtdokaihemcnkmaaGreat
open Go Go.Proofs Go.AL
set_option linter.unusedSimpArgs false
set_option linter.unusedVariables false
def sdi (a : Int) : List Int → List Int
 | [] => []
 | c :: q => ev q a :: sdi a q
theorem evi_split (a x : Int) : ∀ p : List Int, ev p x = ev p a + (x - a) * ev (sdi a p) x
 | [] => by show (0 : Int) = 0 + (x - a) * 0; omega
 | c :: q => by
  have ih := evi_split a x q
  show c + x * ev q x = c + a * ev q a + (x - a) * (ev q a + x * ev (sdi a q) x)
  rw [ih]
  generalize ev q a = Q
  generalize ev (sdi a q) x = E
  grind
theorem cf_sdi (a : Int) : ∀ (p : List Int) (k : Nat), cf p k = (if k = 0 then ev p a else cf (sdi a p) (k - 1)) - a * cf (sdi a p) k
 | [], k => by
  show cf [] k = (if k = 0 then 0 else cf [] (k - 1)) - a * cf [] k
  rw [cf_nil, cf_nil]
  split <;> omega
 | c :: q, 0 => by
  show c = c + a * ev q a - a * ev q a
  omega
 | c :: q, k + 1 => by
  have ih := cf_sdi a q k
  rw [if_neg (by omega), Nat.add_sub_cancel]
  show cf q k = cf (ev q a :: sdi a q) k - a * cf (sdi a q) k
  rw [ih]
  congr 1
  cases k with
  | zero => rfl
  | succ k => rfl
theorem ev_zero {a : Int} : ∀ {p : List Int}, (∀ k, cf p k = 0) → ev p a = 0
 | [], _ => rfl
 | c :: q, h => by
  have h0 : c = 0 := h 0
  rw [ev, ev_zero (p := q) fun k => h (k + 1), h0]
  omega
theorem sdi_low {a : Int} : ∀ (p : List Int) {n : Nat}, (∀ k, n + 1 ≤ k → cf p k = 0) → ∀ k, n ≤ k → cf (sdi a p) k = 0
 | [], n, _, k, _ => cf_nil k
 | c :: q, 0, h, 0, _ => ev_zero fun k => h (k + 1) (by omega)
 | c :: q, n + 1, h, 0, hk => absurd hk (by omega)
 | c :: q, 0, h, k + 1, _ => sdi_low q (n := 0) (fun j hj => h (j + 1) (by omega)) k (by omega)
 | c :: q, n + 1, h, k + 1, hk => sdi_low q (n := n) (fun j hj => h (j + 1) (by omega)) k (by omega)
theorem zl_le_mul {z y : Int} (hz : z ≠ 0) : zl y ≤ zl (z * y) := by
 have h : zl (z * y) ≤ zl (z * y) := Nat.le_refl _
 have h1 := zl_le.mp h
 refine zl_le.mpr (Nat.lt_of_le_of_lt ?_ h1)
 rw [Int.natAbs_mul]
 exact Nat.le_mul_of_pos_left _ (Int.natAbs_pos.mpr hz)
theorem vals_sz : ∀ (l : List Int) (g : List Int) (m : Nat), l.Nodup → (∀ k, l.length ≤ k → cf g k = 0) → (∀ a ∈ l, zl a ≤ 1 ∧ zl (ev g a) ≤ m) → SBd (m + 4 * l.length) g
 | [], g, m, _, h, _ => fun i => by rw [h i (Nat.zero_le _), zl_zero]; omega
 | a :: l, g, m, hd, h, hv => by
  have hd' := List.nodup_cons.mp hd
  obtain ⟨va1, va2⟩ := hv a (by simp)
  have ih := vals_sz l (sdi a g) (m + 1) hd'.2 (fun k hk => sdi_low g (n := l.length) (fun j hj => h j (by rw [List.length_cons]; omega)) k hk) fun b hb => by
   obtain ⟨vb1, vb2⟩ := hv b (by simp [hb])
   refine ⟨vb1, ?_⟩
   have hne : b - a ≠ 0 := fun e => hd'.1 (by rw [show a = b by omega]; exact hb)
   have e := evi_split a b g
   have e2 : (b - a) * ev (sdi a g) b = ev g b + -(ev g a) := by omega
   have h1 := zl_le_mul (y := ev (sdi a g) b) hne
   rw [e2] at h1
   have h2 := zl_add (ev g b) (-(ev g a))
   rw [zl_neg] at h2
   omega
  intro i
  rw [cf_sdi a g i, Int.sub_eq_add_neg, List.length_cons]
  have h1 := zl_mul a (cf (sdi a g) i)
  have h2 := ih i
  have h3 : zl (if i = 0 then ev g a else cf (sdi a g) (i - 1)) ≤ m + 1 + 4 * l.length := by
   split
   ·omega
   ·exact ih _
  have h4 := zl_add (if i = 0 then ev g a else cf (sdi a g) (i - 1)) (-(a * cf (sdi a g) i))
  rw [zl_neg] at h4
  omega
theorem roots_all : ∀ (l : List Int) (p : List Int), l.Nodup → (∀ k, l.length ≤ k → cf p k = 0) → (∀ a ∈ l, ev p a = 0) → ∀ k, cf p k = 0
 | [], p, _, h, _, k => h k (Nat.zero_le _)
 | a :: l, p, hd, h, hv, k => by
  have hd' := List.nodup_cons.mp hd
  have va := hv a (by simp)
  have ih := roots_all l (sdi a p) hd'.2 (fun k hk => sdi_low p (n := l.length) (fun j hj => h j (by rw [List.length_cons]; omega)) k hk) fun b hb => by
   have vb := hv b (by simp [hb])
   have hne : b - a ≠ 0 := fun e => hd'.1 (by rw [show a = b by omega]; exact hb)
   have e := evi_split a b p
   rw [va, vb, Int.zero_add] at e
   exact (Int.mul_eq_zero.mp e.symm).resolve_left hne
  rw [cf_sdi a p k, ih k, va]
  split
  ·omega
  ·rw [ih]; omega
theorem filter_two {α : Type} (f : α → Bool) : ∀ l : List α, (l.filter f).length + (l.filter fun x => !f x).length = l.length
 | [] => rfl
 | x :: l => by
  have ih := filter_two f l
  cases hx : f x <;> simp [hx] <;> omega
def ipts (n : Nat) : List Int := (List.range n).map fun (i : Nat) => (i : Int)
theorem ipts_nodup (n : Nat) : (ipts n).Nodup := by
 unfold ipts
 refine List.Pairwise.map _ (fun a b (h : a ≠ b) => ?_) List.nodup_range
 intro e
 exact h (Int.ofNat.inj e)
theorem pts_ex {p : List Int} {n : Nat} (h0 : tz p ≠ 0) (hn : tz p ≤ n) (hn2 : n ≤ 10000) : ∃ l : List Int, l.Nodup ∧ n ≤ l.length ∧ l.length ≤ 2 * n ∧ ∀ a ∈ l, zl a ≤ 1 ∧ ev p a ≠ 0 := by
 have hl : (ipts (2 * n)).length = 2 * n := by simp [ipts]
 have h2 := filter_two (fun a => decide (ev p a = 0)) (ipts (2 * n))
 have hr : ((ipts (2 * n)).filter fun a => decide (ev p a = 0)).length < n := by
  refine Nat.lt_of_not_le fun hge => h0 (tz_zero_iff.mpr ?_)
  exact roots_all ((ipts (2 * n)).filter fun a => decide (ev p a = 0)) p ((ipts_nodup _).filter _) (fun k hk => cf_ge_tz p (by omega)) fun a ha => by
   have := (List.mem_filter.mp ha).2
   simpa using this
 refine ⟨(ipts (2 * n)).filter fun a => !decide (ev p a = 0), (ipts_nodup _).filter _, by omega, by omega, fun a ha => ?_⟩
 obtain ⟨m1, m2⟩ := List.mem_filter.mp ha
 refine ⟨?_, by simpa using m2⟩
 obtain ⟨i, hi, rfl⟩ := List.mem_map.mp m1
 have := List.mem_range.mp hi
 refine zl_le.mpr ?_
 rw [Nat.pow_one, Int.natAbs_natCast]
 simp only [W]
 omega
theorem ev_ext {p q : List Int} (a : Int) (h : ∀ k, cf p k = cf q k) : ev p a = ev q a := by
 have key : ∀ p q : List Int, (∀ k, cf p k = cf q k) → ev p a = ev q a := by
  intro p
  induction p with
  | nil => intro q hq; exact (ev_zero fun k => by rw [← hq]; exact cf_nil k).symm
  | cons c p ih =>
   intro q hq
   cases q with
   | nil => exact ev_zero fun k => hq k
   | cons d q =>
    have h0 : c = d := hq 0
    rw [ev, ev, ih q fun k => hq (k + 1), h0]
 exact key p q h
theorem ev_padd (a : Int) : ∀ p q : List Int, ev (padd p q) a = ev p a + ev q a := by
 intro p
 induction p with
 | nil =>
  intro q
  rw [ev_ext (p := padd [] q) (q := q) a fun k => by rw [cf_padd, cf_nil, Int.zero_add]]
  show _ = 0 + _
  omega
 | cons c p ih =>
  intro q
  cases q with
  | nil =>
   rw [ev_ext (p := padd (c :: p) []) (q := c :: p) a fun k => by rw [cf_padd, cf_nil, Int.add_zero]]
   show _ = _ + 0
   omega
  | cons d q =>
   rw [ev_ext (p := padd (c :: p) (d :: q)) (q := (c + d) :: padd p q) a fun k => by
    cases k with
    | zero => rw [cf_padd]; rfl
    | succ k => rw [cf_padd]; exact (cf_padd p q k).symm]
   rw [ev, ev, ev, ih, Int.mul_add]
   omega
theorem ev_pscale (a c : Int) (p : List Int) : ev (pscale c p) a = ev p a * c := by
 induction p with
 | nil => show (0 : Int) = 0 * c; omega
 | cons x p ih =>
  show x * c + a * ev (pscale c p) a = (x + a * ev p a) * c
  rw [ih, Int.add_mul, Int.mul_assoc]
theorem ev_pmul (a : Int) : ∀ p q : List Int, ev (pmul p q) a = ev p a * ev q a := by
 intro p
 induction p with
 | nil =>
  intro q
  rw [ev_zero fun k => by rw [cf_pmul]; rfl]
  show (0 : Int) = 0 * _
  omega
 | cons x p ih =>
  intro q
  rw [ev_ext (p := pmul (x :: p) q) (q := padd (pscale x q) (0 :: pmul p q)) a fun k => by
   rw [cf_pmul_cons, cf_padd, cf_pscale, Int.mul_comm]
   congr 1
   cases k with
   | zero => rfl
   | succ k => rfl]
  rw [ev_padd, ev_pscale]
  show _ + (0 + a * ev (pmul p q) a) = (x + a * ev p a) * ev q a
  rw [ih, Int.add_mul, Int.mul_comm x, Int.mul_assoc]
  omega
theorem factor_sz {p g s : List Int} {n S : Nat} (h0 : tz p ≠ 0) (hn : tz p ≤ n) (hn2 : n ≤ 10000) (hS : SBd S p) (e : ps s * ps g = ps p) : SBd (S + 10 * n) g := by
 obtain ⟨l, l1, l2, l3, l4⟩ := pts_ex h0 hn hn2
 have ht : tz (pmul s g) = tz p := tz_of_ps (by rw [ps_pmul, e])
 have hs : tz s ≠ 0 := fun h => h0 (by rw [← ht]; exact tz_pmul_zero (.inl h))
 have hg : tz g ≠ 0 := fun h => h0 (by rw [← ht]; exact tz_pmul_zero (.inr h))
 rw [tz_pmul hs hg] at ht
 refine SBd.mono (vals_sz l g (S + 2 * n) l1 (fun k hk => cf_ge_tz g (by omega)) fun a ha => ⟨(l4 a ha).1, ?_⟩) (by omega)
 have h1 : ev p a = ev s a * ev g a := by
  rw [← ev_pmul]
  exact ev_ext a (ps_eq (by rw [ps_pmul, e]))
 have h2 : ev s a ≠ 0 := fun h => (l4 a ha).2 (by rw [h1, h, Int.zero_mul])
 have h3 := zl_le_mul (y := ev g a) h2
 rw [← h1] at h3
 have h4 : zl (ev p a) ≤ S + 2 * n := by
  rw [ev_ext (p := p) (q := trimz p) a fun k => (cf_trimz p k).symm]
  have h5 := zl_ev (l4 a ha).1 (K := S) (p := trimz p) fun z hz => by
   obtain ⟨i, hi, rfl⟩ := List.getElem_of_mem hz
   have := hS i
   rw [← cf_trimz p i] at this
   simpa [cf, List.getD, hi] using this
  rw [trimz_len] at h5
  omega
 omega
theorem dv_int {g p : List Int} (hg : Prm g) (h : Dv g p) : ∃ s, ps s * ps g = ps p := by
 obtain ⟨c, S, hc, e⟩ := h
 have hc1 : cont (pscale c p) = cont S := by
  have h1 : cont (pmul S g) = cont (pscale c p) := by
   have e2 : ∀ k, cf (pmul S g) k = cf (pscale c p) k := ps_eq (by rw [ps_pmul, ps_pscale, e])
   unfold cont lc
   rw [gz_eq e2, tz_eq_of_cf e2, e2]
  rw [← h1, cont_mul, (prm_self hg).1, Int.mul_one]
 have hd : ∀ k, c ∣ cf S k := fun k => by
  have h1 : c ∣ cont S := by
   rw [← hc1]
   refine Int.dvd_natAbs.mp ?_
   rw [cont_natAbs]
   refine Int.natAbs_dvd.mp (Int.natCast_dvd_natCast.mpr ?_)
   exact gz_greatest _ _ fun k => by
    rw [cf_pscale]
    exact Int.natAbs_dvd.mpr (Int.dvd_mul_left _ _)
  exact Int.dvd_trans h1 (cont_dvd S k)
 refine ⟨pdivs c S, C_cancel hc ?_⟩
 rw [← PS.mul_assoc, ← e]
 congr 1
 refine PS.ext fun k => ?_
 rw [PS.C_mul_c, ps_c, ps_c, cf_pdivs, Int.mul_ediv_cancel' (hd k)]
theorem nf_prm {A : List Int} (h : Nf A) (h0 : tz A ≠ 0) : Prm A := h.resolve_left h0
theorem dv_sz {p g : List Int} {n S : Nat} (h0 : tz p ≠ 0) (hn : tz p ≤ n) (hn2 : n ≤ 10000) (hS : SBd S p) (hg : Nf g) (h : Dv g p) : SBd (S + 10 * n) g := by
 obtain ⟨s, e⟩ := dv_int (nf_prm hg (dv_tz h h0).1) h
 exact factor_sz h0 hn hn2 hS e
end Go.Proofs.YtdokaihemcnkmaaGreat

namespace Go.Proofs.YtdokaihemcnkmaaGreat
open Go Go.Proofs Go.AL
set_option linter.unusedSimpArgs false
set_option linter.unusedVariables false
def er : List Int → Rat → Rat
 | [], _ => 0
 | c :: p, x => (c : Rat) + x * er p x
theorem er_zero {x : Rat} : ∀ {p : List Int}, (∀ k, cf p k = 0) → er p x = 0
 | [], _ => rfl
 | c :: p, h => by
  have h0 : c = 0 := h 0
  rw [er, er_zero fun k => h (k + 1), h0]
  grind
theorem er_ext {p q : List Int} (x : Rat) (h : ∀ k, cf p k = cf q k) : er p x = er q x := by
 induction p generalizing q with
 | nil => exact (er_zero fun k => by rw [← h]; exact cf_nil k).symm
 | cons c p ih =>
  cases q with
  | nil => exact er_zero fun k => h k
  | cons d q =>
   have h0 : c = d := h 0
   rw [er, er, ih fun k => h (k + 1), h0]
theorem er_of_ps {p q : List Int} (h : ps p = ps q) (x : Rat) : er p x = er q x := er_ext x (ps_eq h)
theorem er_padd (x : Rat) : ∀ p q : List Int, er (padd p q) x = er p x + er q x := by
 intro p
 induction p with
 | nil =>
  intro q
  rw [er_ext (p := padd [] q) (q := q) x fun k => by rw [cf_padd, cf_nil, Int.zero_add]]
  simp only [er]; grind
 | cons c p ih =>
  intro q
  cases q with
  | nil =>
   rw [er_ext (p := padd (c :: p) []) (q := c :: p) x fun k => by rw [cf_padd, cf_nil, Int.add_zero]]
   simp only [er]; grind
  | cons d q =>
   rw [er_ext (p := padd (c :: p) (d :: q)) (q := (c + d) :: padd p q) x fun k => by
    cases k with
    | zero => rw [cf_padd]; rfl
    | succ k => rw [cf_padd]; exact (cf_padd p q k).symm]
   simp only [er, ih, Rat.intCast_add]
   grind
theorem er_pscale (x : Rat) (c : Int) (p : List Int) : er (pscale c p) x = er p x * c := by
 induction p with
 | nil => show (0 : Rat) = 0 * c; grind
 | cons y p ih =>
  show ((y * c : Int) : Rat) + x * er (pscale c p) x = (y + x * er p x) * c
  rw [ih, Rat.intCast_mul]; grind
theorem er_pmul (x : Rat) : ∀ p q : List Int, er (pmul p q) x = er p x * er q x := by
 intro p
 induction p with
 | nil =>
  intro q
  rw [er_zero fun k => by rw [cf_pmul]; rfl]
  show (0 : Rat) = 0 * _
  grind
 | cons y p ih =>
  intro q
  rw [er_ext (p := pmul (y :: p) q) (q := padd (pscale y q) (0 :: pmul p q)) x fun k => by
   rw [cf_pmul_cons, cf_padd, cf_pscale, Int.mul_comm]
   congr 1
   cases k with
   | zero => rfl
   | succ k => rfl]
  rw [er_padd, er_pscale]
  simp only [er, ih, Rat.intCast_zero]
  grind
theorem lb_er : ∀ p : List Int, LB (er p)
 | [] => LB.const 0
 | c :: p => (LB.const c).add (LB.id.mul (lb_er p))
theorem er_mul {p q r : List Int} (h : ps p = ps q * ps r) (x : Rat) : er p x = er q x * er r x := by
 rw [← er_pmul]; exact er_of_ps (by rw [ps_pmul, h]) x
theorem er_C {p q : List Int} {c : Int} (h : ps p = PS.C c * ps q) (x : Rat) : er p x = c * er q x := by
 rw [er_of_ps (q := pscale c q) (by rw [h, ps_pscale]), er_pscale]; grind
theorem er_div {a q b r : List Int} {c : Int} (h : ps q * ps b + ps r = PS.C c * ps a) (x : Rat) : c * er a x = er q x * er b x + er r x := by
 have h1 : ps (padd (pmul q b) r) = PS.C c * ps a := by rw [ps_padd, ps_pmul, h]
 rw [← er_C h1 x, er_padd, er_pmul]
theorem er_deriv_mul {p q r : List Int} (h : ps p = ps q * ps r) (x : Rat) : er (pderiv p) x = er (pderiv q) x * er r x + er q x * er (pderiv r) x := by
 have : ps (pderiv p) = ps (padd (pmul (pderiv q) r) (pmul q (pderiv r))) := by
  rw [ps_padd, ps_pmul, ps_pmul, ps_pderiv, ps_pderiv, ps_pderiv, h]
  exact PS.D_mul _ _
 rw [er_of_ps this, er_padd, er_pmul, er_pmul]
def Fac (p : List Int) (r : Rat) (m : Nat) : Prop := ∃ A A' : Rat → Rat, LB A ∧ LB A' ∧ A r ≠ 0 ∧ ∀ x, er p x = (x - r) ^ m * A x ∧ (x - r) * er (pderiv p) x = (x - r) ^ m * (m * A x + (x - r) * A' x)
theorem qpow_add (x : Rat) (m : Nat) : ∀ k, x ^ (m + k) = x ^ m * x ^ k
 | 0 => by rw [Nat.add_zero, Rat.pow_zero, Rat.mul_one]
 | k + 1 => by rw [← Nat.add_assoc, Rat.pow_succ, Rat.pow_succ, qpow_add x m k, Rat.mul_assoc]
theorem Fac.mul {p q s : List Int} {r : Rat} {m k : Nat} (h : ps s = ps p * ps q) (hp : Fac p r m) (hq : Fac q r k) : Fac s r (m + k) := by
 obtain ⟨A, A', a1, a2, a3, a4⟩ := hp
 obtain ⟨B, B', b1, b2, b3, b4⟩ := hq
 refine ⟨fun x => A x * B x, fun x => A' x * B x + A x * B' x, a1.mul b1, (a2.mul b1).add (a1.mul b2), ?_, fun x => ?_⟩
 ·rcases nz_cases a3 with u | u <;> rcases nz_cases b3 with v | v
  ·have := Rat.mul_pos u v; grind
  ·have := Rat.mul_pos u (show 0 < -B r by grind); grind
  ·have := Rat.mul_pos (show 0 < -A r by grind) v; grind
  ·have := Rat.mul_pos (show 0 < -A r by grind) (show 0 < -B r by grind); grind
 ·obtain ⟨e1, e2⟩ := a4 x
  obtain ⟨f1, f2⟩ := b4 x
  refine ⟨by rw [er_mul h, e1, f1, qpow_add]; grind, ?_⟩
  rw [er_deriv_mul h, qpow_add]
  have c : ((m + k : Nat) : Rat) = (m : Rat) + (k : Rat) := Rat.natCast_add m k
  rw [c]
  have : (x - r) * (er (pderiv p) x * er q x + er p x * er (pderiv q) x) = (x - r) * er (pderiv p) x * er q x + er p x * ((x - r) * er (pderiv q) x) := by grind
  rw [this, e2, f2, e1, f1]
  grind
def BA (f : Rat → Rat) (s t : Rat) : Prop := ∃ e, 0 < e ∧ ∀ x, s ≤ x → x ≤ t → Big e (f x)
theorem BA.mul {f g : Rat → Rat} {s t : Rat} (hf : BA f s t) (hg : BA g s t) : BA (fun x => f x * g x) s t := by
 obtain ⟨e, he, h1⟩ := hf
 obtain ⟨d, hd, h2⟩ := hg
 refine ⟨e * d, Rat.mul_pos he hd, fun x a b => ?_⟩
 rcases h1 x a b with u | u <;> rcases h2 x a b with v | v
 ·left
  have := Rat.mul_nonneg (show 0 ≤ f x - e by grind) (show 0 ≤ g x by grind)
  have := Rat.mul_nonneg (show 0 ≤ e by grind) (show 0 ≤ g x - d by grind)
  grind
 ·right
  have := Rat.mul_nonneg (show 0 ≤ f x - e by grind) (show 0 ≤ -g x by grind)
  have := Rat.mul_nonneg (show 0 ≤ e by grind) (show 0 ≤ -g x - d by grind)
  grind
 ·right
  have := Rat.mul_nonneg (show 0 ≤ -f x - e by grind) (show 0 ≤ g x by grind)
  have := Rat.mul_nonneg (show 0 ≤ e by grind) (show 0 ≤ g x - d by grind)
  grind
 ·left
  have := Rat.mul_nonneg (show 0 ≤ -f x - e by grind) (show 0 ≤ -g x by grind)
  have := Rat.mul_nonneg (show 0 ≤ e by grind) (show 0 ≤ -g x - d by grind)
  grind
theorem BA.sign {f : Rat → Rat} (hf : LB f) {s t : Rat} (hst : s ≤ t) (h : BA f s t) : 0 < f s * f t := by
 obtain ⟨e, he, hb⟩ := h
 obtain ⟨M, m1, m2⟩ : ∃ M : Rat, -M ≤ s ∧ t ≤ M := by
  rcases Rat.le_total (a := -s) (b := t) with h | h
  ·exact ⟨t, by grind, by grind⟩
  ·exact ⟨-s, by grind, by grind⟩
 obtain ⟨d, hd, near⟩ := cs_of hf M he
 have step : ∀ (n : Nat) (a b : Rat), s ≤ a → a ≤ b → b ≤ t → b - a ≤ n * d → 0 < f a * f b := by
  intro n
  induction n with
  | zero => intro a b h1 h2 h3 h4; exact near a b (by grind) h2 (by grind) (by grind) (hb a h1 (by grind)) b h2 Rat.le_refl
  | succ n ih =>
   intro a b h1 h2 h3 h4
   by_cases hs : b - a ≤ d
   ·exact near a b (by grind) h2 (by grind) hs (hb a h1 (by grind)) b h2 Rat.le_refl
   ·have e1 := near a (a + d) (by grind) (by grind) (by grind) (by grind) (hb a h1 (by grind)) (a + d) (by grind) Rat.le_refl
    have e2 := ih (a + d) b (by grind) (by grind) h3 (by grind)
    rcases pos_cases e1 with ⟨u, v⟩ | ⟨u, v⟩ <;> rcases pos_cases e2 with ⟨u', v'⟩ | ⟨u', v'⟩
    ·exact Rat.mul_pos u v'
    ·grind
    ·grind
    ·have := Rat.mul_pos (show 0 < -f a by grind) (show 0 < -f b by grind); grind
 obtain ⟨n, hn⟩ := arch d (t - s) hd
 exact step n s t Rat.le_refl hst Rat.le_refl hn
theorem LB.at_point {f g : Rat → Rat} (hf : LB f) (hg : LB g) {r : Rat} (h : ∀ x, x ≠ r → f x = g x) : f r = g r := by
 have hd := hf.sub hg
 by_cases h0 : f r - g r = 0
 ·grind
 ·exfalso
  obtain ⟨M, m1, m2⟩ : ∃ M : Rat, -M ≤ r ∧ r + 1 ≤ M := by
   rcases Rat.le_total (a := -r) (b := r + 1) with h | h
   ·exact ⟨r + 1, by grind, by grind⟩
   ·exact ⟨-r, by grind, by grind⟩
  have key : ∀ e : Rat, 0 < e → Big e (f r - g r) → False := fun e he hb => by
   obtain ⟨d, hd0, near⟩ := cs_of hd M he
   obtain ⟨d', hd1, d1, d2⟩ : ∃ c : Rat, 0 < c ∧ c ≤ d ∧ c ≤ 1 := by
    rcases Rat.le_total (a := d) (b := 1) with h | h
    ·exact ⟨d, hd0, Rat.le_refl, h⟩
    ·exact ⟨1, by grind, h, Rat.le_refl⟩
   have this : 0 < (f r - g r) * (f (r + d') - g (r + d')) := near r (r + d') m1 (by grind) (by grind) (by grind) hb (r + d') (by grind) Rat.le_refl
   rw [h (r + d') (by grind)] at this
   grind
  rcases nz_cases h0 with u | u
  ·exact key _ u (.inl Rat.le_refl)
  ·exact key (-(f r - g r)) (by grind) (.inr (by grind))
end Go.Proofs.YtdokaihemcnkmaaGreat
