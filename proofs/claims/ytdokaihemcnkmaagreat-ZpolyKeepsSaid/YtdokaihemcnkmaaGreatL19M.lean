/-
 Contracts of the functions that the law reaches.
-/
import Derived.Test.YtdokaihemcnkmaaGreatL36M
import Derived.Test.YtdokaihemcnkmaaGreatAbsRM
import Derived.Test.YtdokaihemcnkmaaGreatL1M
import Derived.Test.YtdokaihemcnkmaaGreatAbsX
set_option maxHeartbeats 2000000
namespace Go.Proofs.YtdokaihemcnkmaaGreat
open Go Go.Proofs Go.AL
set_option linter.unusedSimpArgs false
set_option linter.unusedVariables false
theorem szero_ok : AC Tryz.prog 205 [] none [cr (false, [])] := by
 refine AC.by_walk (rs := [.cell 0 27]) ords Tryz.func205 (by rfl) (by rfl) (by rfl) (by rfl) (by rfl) ?_
 simp (disch := omega) only [wt, seval, reduceCtorEq, Nat.reduceEqDiff, cpoly_len]
theorem scoef_ok (p : List RI) (i : Int) (h : RP (2 ^ 40) (2 ^ 40) p) : AC Tryz.prog 104 [cw p, ci i] none [cz (if i < 0 then 0 else cf (pv p) i.toNat)] := by
 refine AC.by_walk (rs := [.cell 4 27]) ords Tryz.func104 (by rfl) (by rfl) (by rfl) (by rfl) (by rfl) ?_
 have hl := h.1
 by_cases h0 : i < 0
 ·simp (disch := omega) only [wt, seval, reduceCtorEq, Nat.reduceEqDiff, cpoly_len, h0]
  refine call_by (szero_ok) (by first | rfl | (simp only [tocvs, tocv, toboxes, tobox, updH_at, Nat.reduceEqDiff, ↓reduceIte, h0]; rfl)) (by simp) ?_
  simp (disch := omega) only [wt, seval, reduceCtorEq, Nat.reduceEqDiff, cpoly_len, h0]
  rw [canon_zero]
 by_cases h1 : (p.length : Int) ≤ i
 ·simp (disch := omega) only [wt, seval, reduceCtorEq, Nat.reduceEqDiff, cpoly_len, h0, h1]
  refine call_by (szero_ok) (by first | rfl | (simp only [tocvs, tocv, toboxes, tobox, updH_at, Nat.reduceEqDiff, ↓reduceIte, h0, h1]; rfl)) (by simp) ?_
  simp (disch := omega) only [wt, seval, reduceCtorEq, Nat.reduceEqDiff, cpoly_len, h0, h1]
  rw [cf_ge (by rw [pv_len]; omega), canon_zero]
 simp (disch := omega) only [wt, seval, reduceCtorEq, Nat.reduceEqDiff, cpoly_len, h0, h1]
 refine call_by ((sown_ok (p.getD i.toNat (false, [])) (h.get _))) (by first | rfl | (simp only [tocvs, tocv, toboxes, tobox, updH_at, Nat.reduceEqDiff, ↓reduceIte, h0, h1]; rfl)) (by simp) ?_
 simp (disch := omega) only [wt, seval, reduceCtorEq, Nat.reduceEqDiff, cpoly_len, h0, h1]
 rw [← cf_pv]
theorem sadd_ok (a b : List RI) (ha : RP (2 ^ 30) (2 ^ 36) a) (hb : RP (2 ^ 30) (2 ^ 36) b) : AC Tryz.prog 96 [cw a, cw b] none [cp (padd (pv a) (pv b))] := by
 refine AC.by_walk (rs := [.tmp 4]) ords Tryz.func96 (by rfl) (by rfl) (by rfl) (by rfl) (by rfl) ?_
 have hla := ha.1
 have hlb := hb.1
 generalize hn : max a.length b.length = n at *
 have hpl : (padd (pv a) (pv b)).length = n := by simp [padd, pv_len, hn]
 simp (disch := omega) only [wt, seval, reduceCtorEq, Nat.reduceEqDiff, cpoly_len]
 refine aloop_nil 5 5 27 2 (by simp (disch := omega) only [wt, seval, reduceCtorEq, Nat.reduceEqDiff, cpoly_len]) (fun f H => ∃ (i st : Nat), i ≤ n ∧ f 6 = .iv (.int .i64 i) ∧ f 0 = .iv (.sl (raws a)) ∧ f 1 = .iv (.sl (raws b)) ∧ f 5 = .hs 5 st ∧ H 5 = .blk false st 27 2 (raws (((padd (pv a) (pv b)).take i).map canon))) (fun f H => (n - intAt f 6).toNat) ?_ ?_
 ·refine ⟨0, 1, by omega, ?_⟩
  simp (disch := omega) only [wt, seval, reduceCtorEq, Nat.reduceEqDiff, cpoly_len, ghostF, ghostH, List.take_zero]
 rintro f H ⟨i, st, hi, hF⟩
 rw [intAt_of hF.1]
 simp (disch := omega) only [wt, seval, reduceCtorEq, Nat.reduceEqDiff, cpoly_len, hF]
 by_cases hlt : i < n
 ·have h3 : (i : Int) < a.length ∨ (¬ (i : Int) < a.length ∧ (i : Int) < b.length) := by omega
  have hq : (((padd (pv a) (pv b)).take i).map canon).length = i := by rw [List.length_map, List.length_take]; omega
  have z1 := ha.pv.cf i
  have z2 := hb.pv.cf i
  have c1 := scoef_ok a i (ha.mono (by omega) (by omega))
  have c2 := scoef_ok b i (hb.mono (by omega) (by omega))
  rw [if_neg (by omega), Int.toNat_natCast] at c1 c2
  have m := rAdd_ok (canon (cf (pv a) i)) (canon (cf (pv b) i)) ((sz_canon _).mono (by omega)) ((sz_canon _).mono (by omega))
  rw [iv_canon, iv_canon] at m
  have e : (padd (pv a) (pv b)).take (i + 1) = (padd (pv a) (pv b)).take i ++ [cf (pv a) i + cf (pv b) i] := by
   rw [List.take_add_one, ← cf_padd]
   congr 1
   simp [cf, List.getD, show i < (padd (pv a) (pv b)).length by omega]
  rcases h3 with h | ⟨h, h'⟩
  all_goals
   first | simp (disch := omega) only [wt, seval, reduceCtorEq, Nat.reduceEqDiff, cpoly_len, hF, h, h', hq] | simp (disch := omega) only [wt, seval, reduceCtorEq, Nat.reduceEqDiff, cpoly_len, hF, h, hq]
   refine call_by (c1) (by first | rfl | (simp only [tocvs, tocv, toboxes, tobox, updH_at, Nat.reduceEqDiff, ↓reduceIte, hF, hq]; rfl)) (by simp) ?_
   simp (disch := omega) only [wt, seval, reduceCtorEq, Nat.reduceEqDiff, cpoly_len, hF, hq]
   refine call_by (c2) (by first | rfl | (simp only [tocvs, tocv, toboxes, tobox, updH_at, Nat.reduceEqDiff, ↓reduceIte, hF, hq]; rfl)) (by simp) ?_
   simp (disch := omega) only [wt, seval, reduceCtorEq, Nat.reduceEqDiff, cpoly_len, hF, hq]
   refine call_by (m) (by first | rfl | (simp only [tocvs, tocv, toboxes, tobox, updH_at, Nat.reduceEqDiff, ↓reduceIte, hF, hq]; rfl)) (by simp) ?_
   simp (disch := omega) only [wt, seval, reduceCtorEq, Nat.reduceEqDiff, cpoly_len, hF, hq]
   exact ⟨⟨i + 1, st + 1, by omega, by omega, by rw [e]; exact ⟨rfl, rfl⟩⟩, by omega⟩
 ·have h1 : ¬ (i : Int) < a.length := by omega
  have h2 : ¬ (i : Int) < b.length := by omega
  simp (disch := omega) only [wt, seval, reduceCtorEq, Nat.reduceEqDiff, cpoly_len, hF, h1, h2]
  have hb := ha.pv.padd hb.pv
  have := snorm_ok ((padd (pv a) (pv b)).map canon) (RP.canon (hb.mono (by omega) (by omega)))
  rw [pv_canon] at this
  rw [List.take_of_length_le (by omega)] at hF
  refine call_by (this) (by first | rfl | (simp only [tocvs, tocv, toboxes, tobox, updH_at, Nat.reduceEqDiff, ↓reduceIte, hF]; rfl)) (by simp) ?_
  simp (disch := omega) only [wt, seval, reduceCtorEq, Nat.reduceEqDiff, cpoly_len, hF]
theorem sscale_ok (p : List RI) (c : RI) (hp : RP (2 ^ 30) (2 ^ 36) p) (hc : Sz (2 ^ 36) c) : AC Tryz.prog 100 [cw p, cr c] none [cp (pscale (iv c) (pv p))] := by
 refine AC.by_walk (rs := [.tmp 4]) ords Tryz.func100 (by rfl) (by rfl) (by rfl) (by rfl) (by rfl) ?_
 have hl := hp.1
 have hpl : (pscale (iv c) (pv p)).length = p.length := by simp [pscale, pv_len]
 simp (disch := omega) only [wt, seval, reduceCtorEq, Nat.reduceEqDiff, cpoly_len]
 refine aloop_nil 5 5 27 2 (by simp (disch := omega) only [wt, seval, reduceCtorEq, Nat.reduceEqDiff, cpoly_len]) (fun f H => ∃ (i st st3 : Nat), i ≤ p.length ∧ f 6 = .iv (.int .i64 i) ∧ f 0 = .iv (.sl (raws p)) ∧ f 3 = .hp 3 st3 0 0 ∧ f 5 = .hs 5 st ∧ H 3 = .blk false st3 27 2 [prow c] ∧ H 5 = .blk false st 27 2 (raws (((pscale (iv c) (pv p)).take i).map canon))) (fun f H => (p.length - intAt f 6).toNat) ?_ ?_
 ·refine ⟨0, 1, 1, by omega, ?_⟩
  simp (disch := omega) only [wt, seval, reduceCtorEq, Nat.reduceEqDiff, cpoly_len, ghostF, ghostH, List.take_zero]
 rintro f H ⟨i, st, st3, hi, hF⟩
 rw [intAt_of hF.1]
 simp (disch := omega) only [wt, seval, reduceCtorEq, Nat.reduceEqDiff, cpoly_len, hF]
 refine if_by (fun hlt => ?_) (fun hlt => ?_)
 ·have hq : (((pscale (iv c) (pv p)).take i).map canon).length = i := by rw [List.length_map, List.length_take]; omega
  simp (disch := omega) only [wt, seval, reduceCtorEq, Nat.reduceEqDiff, cpoly_len, hF, hq]
  refine .inl ⟨tmps_by (by kernel_rfl), ?_⟩
  have m := rMul_ok (p.getD i (false, [])) c ((hp.get i).mono (by omega)) (hc.mono (by omega))
  rw [← cf_pv, ← cf_pscale] at m
  refine call_by (m) (by first | rfl | (simp only [tocvs, tocv, toboxes, tobox, updH_at, Nat.reduceEqDiff, ↓reduceIte, hF, hq]; rfl)) (by simp) ?_
  simp (disch := omega) only [wt, seval, reduceCtorEq, Nat.reduceEqDiff, cpoly_len, hF, hq]
  first | exact log_by (by kernel_rfl) | refine ⟨log_by (by kernel_rfl), ?_⟩
  have e : (pscale (iv c) (pv p)).take (i + 1) = (pscale (iv c) (pv p)).take i ++ [cf (pscale (iv c) (pv p)) i] := by
   rw [List.take_add_one]
   congr 1
   simp [cf, List.getD, show i < (pscale (iv c) (pv p)).length by omega]
  exact ⟨⟨i + 1, st + 1, st3, by omega, by omega, by rw [e]; exact ⟨rfl, rfl, rfl, rfl⟩⟩, by omega⟩
 ·simp (disch := omega) only [wt, seval, reduceCtorEq, Nat.reduceEqDiff, cpoly_len, hF]
  have hz := zl_iv hc
  have hb := hp.pv.pscale (c := iv c)
  have := snorm_ok ((pscale (iv c) (pv p)).map canon) (RP.canon (hb.mono (by omega) (by omega)))
  rw [pv_canon] at this
  rw [List.take_of_length_le (by omega)] at hF
  refine call_by (this) (by first | rfl | (simp only [tocvs, tocv, toboxes, tobox, updH_at, Nat.reduceEqDiff, ↓reduceIte, hF]; rfl)) (by simp) ?_
  simp (disch := omega) only [wt, seval, reduceCtorEq, Nat.reduceEqDiff, cpoly_len, hF]
theorem sneg_ok (p : List RI) (hp : RP (2 ^ 30) (2 ^ 35) p) : AC Tryz.prog 98 [cw p] none [cp (pscale (-1) (pv p))] := by
 refine AC.by_walk (rs := [.tmp 2]) ords Tryz.func98 (by rfl) (by rfl) (by rfl) (by rfl) (by rfl) ?_
 simp (disch := omega) only [wt, seval, reduceCtorEq, Nat.reduceEqDiff, cpoly_len]
 refine call_by ((sZ_ok (-1) (by omega) (by omega))) (by rfl) (by simp) ?_
 simp (disch := omega) only [wt, seval, reduceCtorEq, Nat.reduceEqDiff, cpoly_len]
 have := sscale_ok p (canon (-1)) (hp.mono (by omega) (by omega)) ((sz_canon (-1)).mono (by have : zl (-1) ≤ 1 := zl_le.mpr (by decide); omega))
 rw [iv_canon] at this
 refine call_by (this) (by rfl) (by simp) ?_
 simp (disch := omega) only [wt, seval, reduceCtorEq, Nat.reduceEqDiff, cpoly_len]
theorem ssub_ok (a b : List RI) (ha : RP (2 ^ 30) (2 ^ 36) a) (hb : RP (2 ^ 30) (2 ^ 35) b) : AC Tryz.prog 97 [cw a, cw b] none [cp (padd (pv a) (pscale (-1) (pv b)))] := by
 refine AC.by_walk (rs := [.tmp 4]) ords Tryz.func97 (by rfl) (by rfl) (by rfl) (by rfl) (by rfl) ?_
 simp (disch := omega) only [wt, seval, reduceCtorEq, Nat.reduceEqDiff, cpoly_len]
 refine call_by ((sneg_ok b hb)) (by rfl) (by simp) ?_
 simp (disch := omega) only [wt, seval, reduceCtorEq, Nat.reduceEqDiff, cpoly_len]
 have h1 : zl (-1) ≤ 1 := zl_le.mpr (by decide)
 have := sadd_ok a (cn (pscale (-1) (pv b))) ha (rp_cn (hb.pv.pscale.mono (by omega) (by omega)))
 have e : cp (padd (pv a) (pv (cn (pscale (-1) (pv b))))) = cp (padd (pv a) (pscale (-1) (pv b))) := cp_ps (by rw [ps_padd, ps_padd, ps_cn])
 rw [e] at this
 refine call_by (this) (by rfl) (by simp) ?_
 simp (disch := omega) only [wt, seval, reduceCtorEq, Nat.reduceEqDiff, cpoly_len]
theorem splain_ok (n : Int) : AC Tryz.prog 200 [ci n] none [ci (if n < 0 then 3 else if 1000 < n then 13 else 0)] := by
 refine AC.by_walk (rs := [.tmp 2]) ords Tryz.func200 (by rfl) (by rfl) (by rfl) (by rfl) (by rfl) ?_
 simp (disch := omega) only [wt, seval, reduceCtorEq, Nat.reduceEqDiff, cpoly_len]
 refine if_by (fun h => ?_) (fun h => ?_)
 ·simp (disch := omega) only [wt, seval, reduceCtorEq, Nat.reduceEqDiff, cpoly_len, h]
 simp (disch := omega) only [wt, seval, reduceCtorEq, Nat.reduceEqDiff, cpoly_len, h]
 refine if_by (fun h' => ?_) (fun h' => ?_)
 ·simp (disch := omega) only [wt, seval, reduceCtorEq, Nat.reduceEqDiff, cpoly_len, h, h']
 simp (disch := omega) only [wt, seval, reduceCtorEq, Nat.reduceEqDiff, cpoly_len, h, h']
def pshift (n : Nat) (p : List Int) : List Int := List.replicate n 0 ++ p
theorem cf_pshift (n : Nat) (p : List Int) (k : Nat) : cf (pshift n p) k = if k < n then 0 else cf p (k - n) := by
 unfold pshift cf
 by_cases h : k < n
 ·rw [if_pos h]; simp [List.getD, List.getElem?_append, List.getElem?_replicate, h]
 ·rw [if_neg h]; simp [List.getD, List.getElem?_append, h]
theorem tz_pshift (n : Nat) (p : List Int) (h : tz p ≠ 0) : tz (pshift n p) = n + tz p := by
 have h1 := cf_tz_pred h
 have := tz_spec (q := pshift n p) (n := n + (tz p - 1)) (by rw [cf_pshift, if_neg (by omega), show n + (tz p - 1) - n = tz p - 1 by omega]; exact h1) (fun k hk => by
  rw [cf_pshift, if_neg (by omega), cf_ge_tz p (by omega)])
 omega
theorem trimz_pshift (n : Nat) (p : List Int) (h : tz p ≠ 0) : trimz (pshift n p) = List.replicate n 0 ++ trimz p := by
 rw [trimz, tz_pshift n p h, pshift, List.take_append, List.length_replicate, List.take_of_length_le (by simp), show n + tz p - n = tz p by omega]; rfl
theorem trimz_nil {p : List Int} (h : tz p = 0) : trimz p = [] := by rw [trimz, h]; rfl
theorem tz_pshift_zero (n : Nat) (p : List Int) (h : tz p = 0) : tz (pshift n p) = 0 := tz_zero_iff.mpr fun k => by
 rw [cf_pshift]; split
 ·rfl
 ·exact cf_ge_tz p (by omega)
theorem pv_shift (n : Nat) (p : List RI) : pv (List.replicate n (false, []) ++ p) = pshift n (pv p) := by
 simp [pv, pshift, iv_nil]
theorem sup_ok (p : List RI) (n : Int) (hp : RP (2 ^ 35) (2 ^ 40) p) : AC Tryz.prog 93 [cw p, ci n] none [cp (if 0 ≤ n ∧ n ≤ 1000 then pshift n.toNat (pv p) else []), ci (if n < 0 then 3 else if 1000 < n then 13 else 0)] := by
 refine AC.by_walk (rs := [.tmp 4, .tmp 5]) ords Tryz.func93 (by rfl) (by rfl) (by rfl) (by rfl) (by rfl) ?_
 have hl := hp.1
 simp (disch := omega) only [wt, seval, reduceCtorEq, Nat.reduceEqDiff, cpoly_len]
 refine call_by ((splain_ok n)) (by rfl) (by simp) ?_
 simp (disch := omega) only [wt, seval, reduceCtorEq, Nat.reduceEqDiff, cpoly_len]
 by_cases h1 : n < 0
 ·have : ¬ (0 ≤ n ∧ n ≤ 1000) := by omega
  simp (disch := omega) only [wt, seval, reduceCtorEq, Nat.reduceEqDiff, cpoly_len, h1, this]
  rfl
 by_cases h2 : 1000 < n
 ·have : ¬ (0 ≤ n ∧ n ≤ 1000) := by omega
  simp (disch := omega) only [wt, seval, reduceCtorEq, Nat.reduceEqDiff, cpoly_len, h1, h2, this]
  rfl
 have h3 : 0 ≤ n ∧ n ≤ 1000 := by omega
 obtain ⟨m, rfl⟩ := Int.eq_ofNat_of_zero_le h3.1
 simp (disch := omega) only [wt, seval, reduceCtorEq, Nat.reduceEqDiff, cpoly_len, h1, h2, h3]
 have := snorm_ok (List.replicate m (false, []) ++ p) ⟨by simp; omega, fun c hc => by
  rcases List.mem_append.mp hc with hc | hc
  ·rw [List.eq_of_mem_replicate hc]; exact ⟨by simp, Lim.nil⟩
  ·exact hp.2 c hc⟩
 rw [pv_shift] at this
 refine call_by (this) (by first | rfl | (simp only [tocvs, tocv, toboxes, tobox, updH_at, Nat.reduceEqDiff, ↓reduceIte, h1, h2]; rfl)) (by simp) ?_
 simp (disch := omega) only [wt, seval, reduceCtorEq, Nat.reduceEqDiff, cpoly_len, h1, h2]
def pmono (z : Int) (n : Nat) : List Int := pshift n [z]
theorem smono_ok (c : RI) (n : Int) (hc : Sz (2 ^ 40) c) : AC Tryz.prog 95 [cr c, ci n] none [cp (if 0 ≤ n ∧ n ≤ 1000 then pmono (iv c) n.toNat else []), ci (if n < 0 then 3 else if 1000 < n then 13 else 0)] := by
 refine AC.by_walk (rs := [.tmp 4, .tmp 5]) ords Tryz.func95 (by rfl) (by rfl) (by rfl) (by rfl) (by rfl) ?_
 simp (disch := omega) only [wt, seval, reduceCtorEq, Nat.reduceEqDiff, cpoly_len]
 refine call_by ((splain_ok n)) (by rfl) (by simp) ?_
 simp (disch := omega) only [wt, seval, reduceCtorEq, Nat.reduceEqDiff, cpoly_len]
 by_cases h1 : n < 0
 ·have : ¬ (0 ≤ n ∧ n ≤ 1000) := by omega
  simp (disch := omega) only [wt, seval, reduceCtorEq, Nat.reduceEqDiff, cpoly_len, h1, this]
  rfl
 by_cases h2 : 1000 < n
 ·have : ¬ (0 ≤ n ∧ n ≤ 1000) := by omega
  simp (disch := omega) only [wt, seval, reduceCtorEq, Nat.reduceEqDiff, cpoly_len, h1, h2, this]
  rfl
 have h3 : 0 ≤ n ∧ n ≤ 1000 := by omega
 obtain ⟨m, rfl⟩ := Int.eq_ofNat_of_zero_le h3.1
 have em : (m : Int) + 1 = ((m + 1 : Nat) : Int) := rfl
 have hq : (List.replicate (m + 1) ((false, []) : RI)).length = m + 1 := by simp
 simp (disch := omega) only [wt, seval, reduceCtorEq, Nat.reduceEqDiff, cpoly_len, h1, h2, h3, em]
 have e : (List.replicate (m + 1) ((false, []) : RI)).set m c = List.replicate m (false, []) ++ [c] := by
  rw [List.replicate_succ', List.set_append_right _ _ (by simp)]; simp
 have := snorm_ok (List.replicate m (false, []) ++ [c]) ⟨by simp; omega, fun d hd => by
  rcases List.mem_append.mp hd with hd | hd
  ·rw [List.eq_of_mem_replicate hd]; exact ⟨by simp, Lim.nil⟩
  ·simp at hd; subst hd; exact hc⟩
 rw [pv_shift, ← e, show pshift m (pv [c]) = pmono (iv c) m from rfl] at this
 refine call_by (this) (by first | rfl | (simp only [tocvs, tocv, toboxes, tobox, updH_at, Nat.reduceEqDiff, ↓reduceIte, h1, h2]; rfl)) (by simp) ?_
 simp (disch := omega) only [wt, seval, reduceCtorEq, Nat.reduceEqDiff, cpoly_len, h1, h2]
end Go.Proofs.YtdokaihemcnkmaaGreat

namespace Go.Proofs.YtdokaihemcnkmaaGreat
open Go Go.Proofs Go.AL
set_option linter.unusedSimpArgs false
set_option linter.unusedVariables false
theorem sdeg_ok (p : List RI) (h : RP (2 ^ 40) (2 ^ 40) p) : AC Tryz.prog 204 [cw p] none [ci ((tz (pv p) : Int) - 1)] := by
 refine AC.by_walk (rs := [.tmp 2]) ords Tryz.func204 (by rfl) (by rfl) (by rfl) (by rfl) (by rfl) ?_
 have hl := h.1
 simp (disch := omega) only [wt, seval, reduceCtorEq, Nat.reduceEqDiff, cpoly_len, natsr_len, natsr_at, natsr_snoc, natsr_app, natsr_rows, natsr_nil]
 refine aloop_by (fun f H => ∃ (k : Nat), k ≤ p.length ∧ tz ((pv p).take k) = tz (pv p) ∧ f 3 = .iv (.int .i64 ((k : Int) - 1)) ∧ f 0 = .iv (.sl (raws p))) (fun f H => (intAt f 3 + 1).toNat) ?_ ?_
 ·refine ⟨p.length, by omega, by rw [← pv_len p, List.take_length], ?_⟩
  simp (disch := omega) only [wt, seval, reduceCtorEq, Nat.reduceEqDiff, cpoly_len, natsr_len, natsr_at, natsr_snoc, natsr_app, natsr_rows, natsr_nil]
 rintro f H ⟨k, hk, ht, hF⟩
 rw [intAt_of hF.1]
 simp (disch := omega) only [wt, seval, reduceCtorEq, Nat.reduceEqDiff, cpoly_len, natsr_len, natsr_at, natsr_snoc, natsr_app, natsr_rows, natsr_nil, hF]
 by_cases h0 : 0 ≤ (k : Int) - 1
 ·obtain ⟨j, rfl⟩ : ∃ j, k = j + 1 := ⟨k - 1, by omega⟩
  have ej : ((j + 1 : Nat) : Int) - 1 = (j : Int) := by omega
  rw [ej] at hF
  simp (disch := omega) only [wt, seval, reduceCtorEq, Nat.reduceEqDiff, cpoly_len, natsr_len, natsr_at, natsr_snoc, natsr_app, natsr_rows, natsr_nil, hF, h0, ej]
  refine call_by ((rSign_ok (p.getD j (false, [])) (h.get _))) (by first | rfl | (simp only [tocvs, tocv, toboxes, tobox, updH_at, Nat.reduceEqDiff, ↓reduceIte, hF]; rfl)) (by simp) ?_
  simp (disch := omega) only [wt, seval, reduceCtorEq, Nat.reduceEqDiff, cpoly_len, natsr_len, natsr_at, natsr_snoc, natsr_app, natsr_rows, natsr_nil, hF]
  rw [← cf_pv]
  refine if_by (fun hs => ?_) (fun hs => ?_)
  ·simp (disch := omega) only [wt, seval, reduceCtorEq, Nat.reduceEqDiff, cpoly_len, natsr_len, natsr_at, natsr_snoc, natsr_app, natsr_rows, natsr_nil, hF]
   exact ⟨⟨j, by omega, by rw [← tz_take_zero (by rw [pv_len]; omega) (Int.sign_eq_zero_iff_zero.mp hs), ht], rfl⟩, by omega⟩
  ·simp (disch := omega) only [wt, seval, reduceCtorEq, Nat.reduceEqDiff, cpoly_len, natsr_len, natsr_at, natsr_snoc, natsr_app, natsr_rows, natsr_nil, hF]
   rw [← ht, tz_full (by rw [pv_len]; omega) (fun e => hs (by rw [e]; rfl))]
   omega
 ·simp (disch := omega) only [wt, seval, reduceCtorEq, Nat.reduceEqDiff, cpoly_len, natsr_len, natsr_at, natsr_snoc, natsr_app, natsr_rows, natsr_nil, hF, h0]
  have : k = 0 := by omega
  subst this
  rw [← ht]; rfl
theorem pcoef_ok (p : List RI) (i : Int) (h : RP (2 ^ 40) (2 ^ 40) p) : AC Tryz.prog 120 [cw p, ci i] none [cz (if i < 0 then 0 else cf (pv p) i.toNat)] := by
 refine AC.by_walk (rs := [.cell 4 27]) ords Tryz.func120 (by rfl) (by rfl) (by rfl) (by rfl) (by rfl) ?_
 have hl := h.1
 simp (disch := omega) only [wt, seval, reduceCtorEq, Nat.reduceEqDiff, cpoly_len, natsr_len, natsr_at, natsr_snoc, natsr_app, natsr_rows, natsr_nil]
 have key : AC Tryz.prog 213 [cw p, ci i] none [cr (if i < 0 then (false, []) else p.getD i.toNat (false, []))] := by
  refine AC.by_walk (rs := [.cell 4 27]) ords Tryz.func213 (by rfl) (by rfl) (by rfl) (by rfl) (by rfl) ?_
  by_cases h0 : i < 0
  ·simp (disch := omega) only [wt, seval, reduceCtorEq, Nat.reduceEqDiff, cpoly_len, natsr_len, natsr_at, natsr_snoc, natsr_app, natsr_rows, natsr_nil, h0]
  by_cases h1 : (p.length : Int) ≤ i
  ·simp (disch := omega) only [wt, seval, reduceCtorEq, Nat.reduceEqDiff, cpoly_len, natsr_len, natsr_at, natsr_snoc, natsr_app, natsr_rows, natsr_nil, h0, h1]
   have e : p.getD i.toNat (false, []) = (false, []) := by rw [List.getD_eq_getElem?_getD, List.getElem?_eq_none (by omega)]; rfl
   rw [e]
  ·simp (disch := omega) only [wt, seval, reduceCtorEq, Nat.reduceEqDiff, cpoly_len, natsr_len, natsr_at, natsr_snoc, natsr_app, natsr_rows, natsr_nil, h0, h1]
 refine call_by (key) (by rfl) (by simp) ?_
 simp (disch := omega) only [wt, seval, reduceCtorEq, Nat.reduceEqDiff, cpoly_len, natsr_len, natsr_at, natsr_snoc, natsr_app, natsr_rows, natsr_nil]
 have hs : Sz (2 ^ 40) (if i < 0 then (false, []) else p.getD i.toNat (false, [])) := by
  split
  ·exact ⟨by simp, Lim.nil⟩
  ·exact h.get _
 have e : iv (if i < 0 then (false, []) else p.getD i.toNat (false, [])) = if i < 0 then 0 else cf (pv p) i.toNat := by
  split
  ·exact iv_zero
  ·rw [← cf_pv]
 refine call_by ((znorm_ok _ hs)) (by rfl) (by simp) ?_
 simp (disch := omega) only [wt, seval, reduceCtorEq, Nat.reduceEqDiff, cpoly_len, natsr_len, natsr_at, natsr_snoc, natsr_app, natsr_rows, natsr_nil]
 rw [e]
theorem plead_ok (p : List RI) (h : RP (2 ^ 40) (2 ^ 40) p) : AC Tryz.prog 119 [cw p] none [cz (cf (pv p) (tz (pv p) - 1))] := by
 refine AC.by_walk (rs := [.cell 2 27]) ords Tryz.func119 (by rfl) (by rfl) (by rfl) (by rfl) (by rfl) ?_
 have hl := h.1
 simp (disch := omega) only [wt, seval, reduceCtorEq, Nat.reduceEqDiff, cpoly_len, natsr_len, natsr_at, natsr_snoc, natsr_app, natsr_rows, natsr_nil]
 refine call_by ((pdeg_ok p h)) (by rfl) (by simp) ?_
 simp (disch := omega) only [wt, seval, reduceCtorEq, Nat.reduceEqDiff, cpoly_len, natsr_len, natsr_at, natsr_snoc, natsr_app, natsr_rows, natsr_nil]
 have := pcoef_ok p ((tz (pv p) : Int) - 1) h
 have e : (if (tz (pv p) : Int) - 1 < 0 then 0 else cf (pv p) ((tz (pv p) : Int) - 1).toNat) = cf (pv p) (tz (pv p) - 1) := by
  by_cases h0 : tz (pv p) = 0
  ·rw [if_pos (by omega), cf_ge_tz _ (by omega)]
  ·rw [if_neg (by omega)]; congr 1; omega
 rw [e] at this
 refine call_by (this) (by rfl) (by simp) ?_
 simp (disch := omega) only [wt, seval, reduceCtorEq, Nat.reduceEqDiff, cpoly_len, natsr_len, natsr_at, natsr_snoc, natsr_app, natsr_rows, natsr_nil]
theorem slead_ok (p : List RI) (h : RP (2 ^ 40) (2 ^ 40) p) : AC Tryz.prog 103 [cw p] none [cz (cf (pv p) (tz (pv p) - 1))] := by
 refine AC.by_walk (rs := [.cell 2 27]) ords Tryz.func103 (by rfl) (by rfl) (by rfl) (by rfl) (by rfl) ?_
 have hl := h.1
 simp (disch := omega) only [wt, seval, reduceCtorEq, Nat.reduceEqDiff, cpoly_len, natsr_len, natsr_at, natsr_snoc, natsr_app, natsr_rows, natsr_nil]
 refine call_by ((sdeg_ok p h)) (by rfl) (by simp) ?_
 simp (disch := omega) only [wt, seval, reduceCtorEq, Nat.reduceEqDiff, cpoly_len, natsr_len, natsr_at, natsr_snoc, natsr_app, natsr_rows, natsr_nil]
 have := scoef_ok p ((tz (pv p) : Int) - 1) h
 have e : (if (tz (pv p) : Int) - 1 < 0 then 0 else cf (pv p) ((tz (pv p) : Int) - 1).toNat) = cf (pv p) (tz (pv p) - 1) := by
  by_cases h0 : tz (pv p) = 0
  ·rw [if_pos (by omega), cf_ge_tz _ (by omega)]
  ·rw [if_neg (by omega)]; congr 1; omega
 rw [e] at this
 refine call_by (this) (by rfl) (by simp) ?_
 simp (disch := omega) only [wt, seval, reduceCtorEq, Nat.reduceEqDiff, cpoly_len, natsr_len, natsr_at, natsr_snoc, natsr_app, natsr_rows, natsr_nil]
end Go.Proofs.YtdokaihemcnkmaaGreat

namespace Go.Proofs.YtdokaihemcnkmaaGreat
open Go Go.Proofs Go.AL
set_option linter.unusedSimpArgs false
set_option linter.unusedVariables false
theorem topW_lt {x y i : Nat} (h : x / W ^ (i + 1) = y / W ^ (i + 1)) (hd : x / W ^ i % W < y / W ^ i % W) : x < y := by
 have e : ∀ z : Nat, z / W ^ i = W * (z / W ^ (i + 1)) + z / W ^ i % W := fun z => by
  rw [Nat.pow_succ, ← Nat.div_div_eq_div_mul]; exact (Nat.div_add_mod _ _).symm
 have h1 := e x
 have h2 := e y
 rw [h] at h1
 rcases Nat.lt_or_ge x y with h3 | h3
 ·exact h3
 ·have := Nat.div_le_div_right (c := W ^ i) h3
  omega
theorem word_at {l : List Nat} (h : Lim l) (k : Nat) : l.getD k 0 = nv l / W ^ k % W := by
 have h1 := vl_take_next W l k
 have e1 := nv_take h (k + 1)
 have e2 := nv_take h k
 simp only [nv] at *
 rw [e1, e2, Nat.mod_pow_succ] at h1
 exact (Nat.eq_of_mul_eq_mul_left (W_pow_pos k) (Nat.add_left_cancel h1)).symm
theorem lcmp_ok (a b : List Nat) (ha : Lim a) (hb : Lim b) (hla : a.length ≤ 2 ^ 42) (hlb : b.length ≤ 2 ^ 42) : AC Tryz.prog 263 [cl a, cl b] none [ci (cmpN (nv a) (nv b))] := by
 refine AC.by_walk (rs := [.tmp 4]) ords Tryz.func263 (by rfl) (by rfl) (by rfl) (by rfl) (by rfl) ?_
 generalize hn : max a.length b.length = n at *
 have hnI : max (a.length : Int) (b.length : Int) = (n : Int) := by omega
 have h0 : nv a / W ^ n = nv b / W ^ n := by
  have hA := nv_lt ha
  have hB := nv_lt hb
  have hA2 : W ^ a.length ≤ W ^ n := Nat.pow_le_pow_right (by decide) (by omega)
  have hB2 : W ^ b.length ≤ W ^ n := Nat.pow_le_pow_right (by decide) (by omega)
  rw [Nat.div_eq_of_lt (by omega), Nat.div_eq_of_lt (by omega)]
 simp (disch := omega) only [wt, seval, reduceCtorEq, Nat.reduceEqDiff, cpoly_len, natsr_len, natsr_at, natsr_snoc, natsr_app, natsr_rows, natsr_nil, hnI]
 refine aloop_by (fun f H => ∃ (i : Nat), i ≤ n ∧ nv a / W ^ i = nv b / W ^ i ∧ f 6 = .iv (.int .i64 ((i : Int) - 1)) ∧ f 0 = .iv (.sl (lims a)) ∧ f 1 = .iv (.sl (lims b))) (fun f H => (intAt f 6 + 1).toNat) ?_ ?_
 ·refine ⟨n, by omega, h0, ?_⟩
  simp (disch := omega) only [wt, seval, reduceCtorEq, Nat.reduceEqDiff, cpoly_len, natsr_len, natsr_at, natsr_snoc, natsr_app, natsr_rows, natsr_nil]
 rintro f H ⟨i, hi, hv, hF⟩
 rw [intAt_of hF.1]
 simp (disch := omega) only [wt, seval, reduceCtorEq, Nat.reduceEqDiff, cpoly_len, natsr_len, natsr_at, natsr_snoc, natsr_app, natsr_rows, natsr_nil, hF]
 refine if_by (fun hlt => ?_) (fun hlt => ?_)
 ·obtain ⟨j, rfl⟩ : ∃ j, i = j + 1 := ⟨i - 1, by omega⟩
  have ej : ((j + 1 : Nat) : Int) - 1 = (j : Int) := by omega
  have hx := word_at ha j
  have hy := word_at hb j
  rw [ej] at hF
  simp (disch := omega) only [wt, seval, reduceCtorEq, Nat.reduceEqDiff, cpoly_len, natsr_len, natsr_at, natsr_snoc, natsr_app, natsr_rows, natsr_nil, hF]
  refine call_by ((at_ok a j (by omega))) (by first | rfl | (simp only [tocvs, tocv, toboxes, tobox, updH_at, Nat.reduceEqDiff, ↓reduceIte, hF]; rfl)) (by simp) ?_
  simp (disch := omega) only [wt, seval, reduceCtorEq, Nat.reduceEqDiff, cpoly_len, natsr_len, natsr_at, natsr_snoc, natsr_app, natsr_rows, natsr_nil, hF]
  refine call_by ((at_ok b j (by omega))) (by first | rfl | (simp only [tocvs, tocv, toboxes, tobox, updH_at, Nat.reduceEqDiff, ↓reduceIte, hF]; rfl)) (by simp) ?_
  simp (disch := omega) only [wt, seval, reduceCtorEq, Nat.reduceEqDiff, cpoly_len, natsr_len, natsr_at, natsr_snoc, natsr_app, natsr_rows, natsr_nil, hF]
  refine if_by (fun h1 => ?_) (fun h1 => ?_)
  ·simp (disch := omega) only [wt, seval, reduceCtorEq, Nat.reduceEqDiff, cpoly_len, natsr_len, natsr_at, natsr_snoc, natsr_app, natsr_rows, natsr_nil, hF]
   refine ⟨⟨j, by omega, ?_, rfl⟩, by omega⟩
   have e : ∀ z : Nat, z / W ^ j = W * (z / W ^ (j + 1)) + z / W ^ j % W := fun z => by
    rw [Nat.pow_succ, ← Nat.div_div_eq_div_mul]; exact (Nat.div_add_mod _ _).symm
   rw [e (nv a), e (nv b), hv]
   omega
  simp (disch := omega) only [wt, seval, reduceCtorEq, Nat.reduceEqDiff, cpoly_len, natsr_len, natsr_at, natsr_snoc, natsr_app, natsr_rows, natsr_nil, hF]
  refine if_by (fun h2 => ?_) (fun h2 => ?_)
  ·simp (disch := omega) only [wt, seval, reduceCtorEq, Nat.reduceEqDiff, cpoly_len, natsr_len, natsr_at, natsr_snoc, natsr_app, natsr_rows, natsr_nil, hF]
   have : nv a < nv b := topW_lt hv (by omega)
   rw [cmpN, if_pos this]
  simp (disch := omega) only [wt, seval, reduceCtorEq, Nat.reduceEqDiff, cpoly_len, natsr_len, natsr_at, natsr_snoc, natsr_app, natsr_rows, natsr_nil, hF]
  have : nv b < nv a := topW_lt hv.symm (by omega)
  rw [cmpN, if_neg (by omega), if_pos this]
 ·simp (disch := omega) only [wt, seval, reduceCtorEq, Nat.reduceEqDiff, cpoly_len, natsr_len, natsr_at, natsr_snoc, natsr_app, natsr_rows, natsr_nil, hF]
  have : i = 0 := by omega
  subst this
  simp at hv
  rw [hv, cmpN]; simp
theorem ncmp_ok (a b : List Nat) (ha : Lim a) (hb : Lim b) (hla : a.length ≤ 2 ^ 42) (hlb : b.length ≤ 2 ^ 42) : AC Tryz.prog 216 [cl a, cl b] none [ci (cmpN (nv a) (nv b))] := by
 refine AC.by_walk (rs := [.tmp 4]) ords Tryz.func216 (by rfl) (by rfl) (by rfl) (by rfl) (by rfl) ?_
 simp (disch := omega) only [wt, seval, reduceCtorEq, Nat.reduceEqDiff, cpoly_len, natsr_len, natsr_at, natsr_snoc, natsr_app, natsr_rows, natsr_nil]
 refine call_by ((lcmp_ok a b ha hb hla hlb)) (by rfl) (by simp) ?_
 simp (disch := omega) only [wt, seval, reduceCtorEq, Nat.reduceEqDiff, cpoly_len, natsr_len, natsr_at, natsr_snoc, natsr_app, natsr_rows, natsr_nil]
theorem cmpN_gt {x y : Nat} : 0 < cmpN x y ↔ y < x := by unfold cmpN; split <;> (try split) <;> omega
theorem sheight_ok (p : List RI) (h : RP (2 ^ 40) (2 ^ 40) p) : AC Tryz.prog 106 [cw p] none [cl (wd (hgt (pv p)))] := by
 refine AC.by_walk (rs := [.tmp 2]) ords Tryz.func106 (by rfl) (by rfl) (by rfl) (by rfl) (by rfl) ?_
 have hl := h.1
 simp (disch := omega) only [wt, seval, reduceCtorEq, Nat.reduceEqDiff, cpoly_len, natsr_len, natsr_at, natsr_snoc, natsr_app, natsr_rows, natsr_nil]
 refine aloop_w (.nilv 3 (by simp (disch := omega) only [wt, seval, reduceCtorEq, Nat.reduceEqDiff, cpoly_len, natsr_len, natsr_at, natsr_snoc, natsr_app, natsr_rows, natsr_nil]) (.refl _ _)) (fun f H => ∃ (i : Nat), i ≤ p.length ∧ (wd (hgt ((pv p).take i))).length ≤ 2 ^ 40 ∧ f 4 = .iv (.int .i64 i) ∧ f 0 = .iv (.sl (raws p)) ∧ f 3 = .iv (.sl (lims (wd (hgt ((pv p).take i)))))) (fun f H => (p.length - intAt f 4).toNat) ?_ ?_
 ·refine ⟨0, by omega, by simp [hgt, wd_zero], ?_⟩
  simp (disch := omega) only [wt, seval, reduceCtorEq, Nat.reduceEqDiff, cpoly_len, natsr_len, natsr_at, natsr_snoc, natsr_app, natsr_rows, natsr_nil, List.take_zero, hgt, List.foldl_nil, wd_zero]
 rintro f H ⟨i, hi, hw, hF⟩
 rw [intAt_of hF.1]
 simp (disch := omega) only [wt, seval, reduceCtorEq, Nat.reduceEqDiff, cpoly_len, natsr_len, natsr_at, natsr_snoc, natsr_app, natsr_rows, natsr_nil, hF]
 refine if_by (fun hlt => ?_) (fun hlt => ?_)
 ·simp (disch := omega) only [wt, seval, reduceCtorEq, Nat.reduceEqDiff, cpoly_len, natsr_len, natsr_at, natsr_snoc, natsr_app, natsr_rows, natsr_nil, hF]
  have hc := h.get i
  have hcl := hc.1
  have c := rcmp_ok (p.getD i (false, [])).2 (wd (hgt ((pv p).take i))) hc.2 (lim_wd _) (by omega) hw
  rw [nv_wd] at c
  refine call_by (c) (by first | rfl | (simp only [tocvs, tocv, toboxes, tobox, updH_at, Nat.reduceEqDiff, ↓reduceIte, hF]; rfl)) (by simp) ?_
  simp (disch := omega) only [wt, seval, reduceCtorEq, Nat.reduceEqDiff, cpoly_len, natsr_len, natsr_at, natsr_snoc, natsr_app, natsr_rows, natsr_nil, hF]
  have hn := hgt_take (q := pv p) (i := i) (by rw [pv_len]; omega)
  rw [cf_pv, iv_abs] at hn
  refine if_by (fun hs => ?_) (fun hs => ?_)
  ·simp (disch := omega) only [wt, seval, reduceCtorEq, Nat.reduceEqDiff, cpoly_len, natsr_len, natsr_at, natsr_snoc, natsr_app, natsr_rows, natsr_nil, hF]
   have hgt' := cmpN_gt.mp hs
   refine call_by ((rnorm_ok (p.getD i (false, [])).2 hc.2 (by omega))) (by first | rfl | (simp only [tocvs, tocv, toboxes, tobox, updH_at, Nat.reduceEqDiff, ↓reduceIte, hF]; rfl)) (by simp) ?_
   simp (disch := omega) only [wt, seval, reduceCtorEq, Nat.reduceEqDiff, cpoly_len, natsr_len, natsr_at, natsr_snoc, natsr_app, natsr_rows, natsr_nil, hF]
   have e : nv (p.getD i (false, [])).2 = hgt ((pv p).take (i + 1)) := by omega
   have l2 := nv_len hc.2
   rw [e] at l2 ⊢
   exact ⟨⟨i + 1, by omega, by omega, by omega, rfl⟩, by omega⟩
  ·simp (disch := omega) only [wt, seval, reduceCtorEq, Nat.reduceEqDiff, cpoly_len, natsr_len, natsr_at, natsr_snoc, natsr_app, natsr_rows, natsr_nil, hF]
   have : ¬ hgt ((pv p).take i) < nv (p.getD i (false, [])).2 := fun h => hs (cmpN_gt.mpr h)
   have e : hgt ((pv p).take (i + 1)) = hgt ((pv p).take i) := by omega
   exact ⟨⟨i + 1, by omega, by rw [e]; exact hw, by rw [e]; exact ⟨by omega, rfl⟩⟩, by omega⟩
 ·simp (disch := omega) only [wt, seval, reduceCtorEq, Nat.reduceEqDiff, cpoly_len, natsr_len, natsr_at, natsr_snoc, natsr_app, natsr_rows, natsr_nil, hF]
  rw [List.take_of_length_le (by rw [pv_len]; omega)]
end Go.Proofs.YtdokaihemcnkmaaGreat

namespace Go.Proofs.YtdokaihemcnkmaaGreat
open Go Go.Proofs Go.AL
set_option linter.unusedSimpArgs false
set_option linter.unusedVariables false
theorem wd_one {y : Nat} (h : (wd y).length = 1) : (wd y).getD 0 0 = y ∧ y < W := by
 have h1 := vl_take_next W (wd y) 0
 rw [Nat.zero_add, List.take_of_length_le (by omega), List.take_zero, Nat.pow_zero, Nat.one_mul] at h1
 have h2 := nv_wd y
 simp only [nv, vl, Nat.zero_add] at *
 have h3 := (lim_wd y).get 0
 omega
theorem quo_ok (a b : List Nat) (ha : Lim a) (hb : Lim b) (hla : a.length ≤ 2 ^ 38) (hlb : b.length ≤ 2 ^ 38) (h0 : nv b ≠ 0) : AC Tryz.prog 274 [cl a, cl b] none [cl (wd (nv a / nv b)), cl (wd (nv a % nv b)), ci 0] := by
 refine AC.by_walk (rs := [.tmp 4, .tmp 5, .tmp 6]) ords Tryz.func274 (by rfl) (by rfl) (by rfl) (by rfl) (by rfl) ?_
 simp (disch := omega) only [wt, seval, reduceCtorEq, Nat.reduceEqDiff, natsr_len, natsr_at, Option.getD_some]
 refine call_by ((norm_ok a ha (by omega))) (by rfl) (by simp) ?_
 simp (disch := omega) only [wt, seval, reduceCtorEq, Nat.reduceEqDiff, natsr_len, natsr_at, Option.getD_some]
 refine call_by ((norm_ok b hb (by omega))) (by rfl) (by simp) ?_
 simp (disch := omega) only [wt, seval, reduceCtorEq, Nat.reduceEqDiff, natsr_len, natsr_at, Option.getD_some]
 have hxl := nv_len ha
 have hyl := nv_len hb
 generalize nv a = x at *
 generalize nv b = y at *
 refine if_by (fun h => ?_) (fun h => ?_)
 ·have := wd_len_zero.mp (Int.ofNat.inj h)
  exact absurd this h0
 simp (disch := omega) only [wt, seval, reduceCtorEq, Nat.reduceEqDiff, natsr_len, natsr_at, Option.getD_some]
 refine call_by ((ncmp_ok (wd x) (wd y) (lim_wd _) (lim_wd _) (by omega) (by omega))) (by rfl) (by simp) ?_
 simp (disch := omega) only [wt, seval, reduceCtorEq, Nat.reduceEqDiff, natsr_len, natsr_at, Option.getD_some]
 rw [nv_wd, nv_wd]
 refine if_by (fun hc => ?_) (fun hc => ?_)
 ·have hlt : x < y := by
   unfold cmpN at hc
   split at hc
   ·assumption
   ·split at hc <;> omega
  rw [Nat.div_eq_of_lt hlt, Nat.mod_eq_of_lt hlt, wd_zero]
  simp (disch := omega) only [wt, seval, reduceCtorEq, Nat.reduceEqDiff, natsr_len, natsr_at, Option.getD_some]
 have hle : y ≤ x := by
  unfold cmpN at hc
  split at hc
  ·omega
  ·omega
 simp (disch := omega) only [wt, seval, reduceCtorEq, Nat.reduceEqDiff, natsr_len, natsr_at, Option.getD_some]
 refine if_by (fun h1 => ?_) (fun h1 => ?_)
 ·obtain ⟨e1, e2⟩ := wd_one (Int.ofNat.inj h1)
  have hp : 0 < (wd y).length := by omega
  simp (disch := omega) only [wt, seval, reduceCtorEq, Nat.reduceEqDiff, natsr_len, natsr_at, Option.getD_some]
  have m := dword_ok (wd x) y (lim_wd _) (by omega) h0 e2
  rw [nv_wd] at m
  have n := nof_ok (x % y) (Nat.lt_trans (Nat.mod_lt _ (by omega)) e2)
  simp (disch := omega) only [wt, seval, reduceCtorEq, Nat.reduceEqDiff, natsr_len, natsr_at, Option.getD_some, e1]
  refine call_by (m) (by first | rfl | (simp only [tocvs, tocv, toboxes, tobox, updH_at, Nat.reduceEqDiff, ↓reduceIte, e1]; rfl)) (by simp) ?_
  simp (disch := omega) only [wt, seval, reduceCtorEq, Nat.reduceEqDiff, natsr_len, natsr_at, Option.getD_some, e1]
  refine call_by (n) (by first | rfl | (simp only [tocvs, tocv, toboxes, tobox, updH_at, Nat.reduceEqDiff, ↓reduceIte, e1]; rfl)) (by simp) ?_
  simp (disch := omega) only [wt, seval, reduceCtorEq, Nat.reduceEqDiff, natsr_len, natsr_at, Option.getD_some, e1]
 ·have hn : 2 ≤ (wd y).length := by omega
  simp (disch := omega) only [wt, seval, reduceCtorEq, Nat.reduceEqDiff, natsr_len, natsr_at, Option.getD_some]
  refine call_by ((knuth_ok x y _ _ rfl rfl hn hle (by omega))) (by rfl) (by simp) ?_
  simp (disch := omega) only [wt, seval, reduceCtorEq, Nat.reduceEqDiff, natsr_len, natsr_at, Option.getD_some]
theorem mod_ok (a b : List Nat) (ha : Lim a) (hb : Lim b) (hla : a.length ≤ 2 ^ 38) (hlb : b.length ≤ 2 ^ 38) (h0 : nv b ≠ 0) : AC Tryz.prog 304 [cl a, cl b] none [cl (wd (nv a % nv b)), ci 0] := by
 refine AC.by_walk (rs := [.tmp 4, .tmp 5]) ords Tryz.func304 (by rfl) (by rfl) (by rfl) (by rfl) (by rfl) ?_
 simp (disch := omega) only [wt, seval, reduceCtorEq, Nat.reduceEqDiff, natsr_len, natsr_at, Option.getD_some]
 refine call_by ((quo_ok a b ha hb hla hlb h0)) (by rfl) (by simp) ?_
 simp (disch := omega) only [wt, seval, reduceCtorEq, Nat.reduceEqDiff, natsr_len, natsr_at, Option.getD_some]
theorem gmod_ok (a b : List Nat) (ha : Lim a) (hb : Lim b) (hla : a.length ≤ 2 ^ 38) (hlb : b.length ≤ 2 ^ 38) (h0 : nv b ≠ 0) : AC Tryz.prog 289 [cl a, cl b] none [cl (wd (nv a % nv b))] := by
 refine AC.by_walk (rs := [.tmp 4]) ords Tryz.func289 (by rfl) (by rfl) (by rfl) (by rfl) (by rfl) ?_
 simp (disch := omega) only [wt, seval, reduceCtorEq, Nat.reduceEqDiff, natsr_len, natsr_at, Option.getD_some]
 refine call_by ((mod_ok a b ha hb hla hlb h0)) (by rfl) (by simp) ?_
 simp (disch := omega) only [wt, seval, reduceCtorEq, Nat.reduceEqDiff, natsr_len, natsr_at, Option.getD_some]
theorem dexact_ok (a b : List Nat) (ha : Lim a) (hb : Lim b) (hla : a.length ≤ 2 ^ 38) (hlb : b.length ≤ 2 ^ 38) (h0 : nv b ≠ 0) : AC Tryz.prog 241 [cl a, cl b] none [cl (if nv a % nv b = 0 then wd (nv a / nv b) else []), ci (if nv a % nv b = 0 then 0 else 4)] := by
 refine AC.by_walk (rs := [.tmp 4, .tmp 5]) ords Tryz.func241 (by rfl) (by rfl) (by rfl) (by rfl) (by rfl) ?_
 simp (disch := omega) only [wt, seval, reduceCtorEq, Nat.reduceEqDiff, natsr_len, natsr_at, Option.getD_some]
 refine call_by ((quo_ok a b ha hb hla hlb h0)) (by rfl) (by simp) ?_
 simp (disch := omega) only [wt, seval, reduceCtorEq, Nat.reduceEqDiff, natsr_len, natsr_at, Option.getD_some]
 refine if_by (fun h => ?_) (fun h => ?_)
 ·have h1 : nv a % nv b ≠ 0 := fun h2 => by rw [h2, wd_zero] at h; simp at h
  rw [if_neg h1, if_neg h1]
  simp (disch := omega) only [wt, seval, reduceCtorEq, Nat.reduceEqDiff, natsr_len, natsr_at, Option.getD_some]
 ·have h1 : nv a % nv b = 0 := by
   rcases Nat.eq_zero_or_pos (wd (nv a % nv b)).length with h2 | h2
   ·exact wd_len_zero.mp h2
   ·exact absurd (by omega) h
  rw [if_pos h1, if_pos h1]
  simp (disch := omega) only [wt, seval, reduceCtorEq, Nat.reduceEqDiff, natsr_len, natsr_at, Option.getD_some]
def natAt (f : Fr) (t : Nat) : Nat := match f t with
 | .iv (.sl rows) => nv (rows.map fun r => match r with | [.int _ n] => n.toNat | _ => 0)
 | _ => 0
theorem natAt_of {f : Fr} {t v : Nat} (h : f t = .iv (.sl (lims (wd v)))) : natAt f t = v := by
 unfold natAt
 rw [h]
 have e : (lims (wd v)).map (fun r => match r with | [.int _ n] => n.toNat | _ => 0) = wd v := by
  simp only [lims, List.map_map]
  conv => rhs; rw [← List.map_id (wd v)]
  rfl
 simp only [e, nv_wd]
theorem gcd_ok (a b : List Nat) (ha : Lim a) (hb : Lim b) (hla : a.length ≤ 2 ^ 38) (hlb : b.length ≤ 2 ^ 38) : AC Tryz.prog 262 [cl a, cl b] none [cl (wd (Nat.gcd (nv a) (nv b)))] := by
 refine AC.by_walk (rs := [.tmp 4]) ords Tryz.func262 (by rfl) (by rfl) (by rfl) (by rfl) (by rfl) ?_
 simp (disch := omega) only [wt, seval, reduceCtorEq, Nat.reduceEqDiff, natsr_len, natsr_at, Option.getD_some]
 refine call_by ((norm_ok a ha (by omega))) (by rfl) (by simp) ?_
 simp (disch := omega) only [wt, seval, reduceCtorEq, Nat.reduceEqDiff, natsr_len, natsr_at, Option.getD_some]
 refine call_by ((norm_ok b hb (by omega))) (by rfl) (by simp) ?_
 simp (disch := omega) only [wt, seval, reduceCtorEq, Nat.reduceEqDiff, natsr_len, natsr_at, Option.getD_some]
 have hxl := nv_len ha
 have hyl := nv_len hb
 generalize nv a = x at *
 generalize nv b = y at *
 refine aloop_by (fun f H => ∃ u v : Nat, Nat.gcd u v = Nat.gcd x y ∧ (wd u).length ≤ 2 ^ 38 ∧ (wd v).length ≤ 2 ^ 38 ∧ f 0 = .iv (.sl (lims (wd u))) ∧ f 1 = .iv (.sl (lims (wd v)))) (fun f H => natAt f 1) ?_ ?_
 ·exact ⟨x, y, rfl, by omega, by omega, by simp (disch := omega) only [wt, seval, reduceCtorEq, Nat.reduceEqDiff, natsr_len, natsr_at, Option.getD_some]⟩
 rintro f H ⟨u, v, hg, hu, hv, hF⟩
 rw [natAt_of hF.2]
 simp (disch := omega) only [wt, seval, reduceCtorEq, Nat.reduceEqDiff, natsr_len, natsr_at, Option.getD_some, hF]
 refine if_by (fun h => ?_) (fun h => ?_)
 ·have h0 : v ≠ 0 := fun h1 => by rw [h1, wd_zero] at h; simp at h
  have hm := gmod_ok (wd u) (wd v) (lim_wd _) (lim_wd _) hu hv (by rw [nv_wd]; exact h0)
  rw [nv_wd, nv_wd] at hm
  simp (disch := omega) only [wt, seval, reduceCtorEq, Nat.reduceEqDiff, natsr_len, natsr_at, Option.getD_some, hF]
  refine call_by (hm) (by first | rfl | (simp only [tocvs, tocv, toboxes, tobox, updH_at, Nat.reduceEqDiff, ↓reduceIte, hF]; rfl)) (by simp) ?_
  simp (disch := omega) only [wt, seval, reduceCtorEq, Nat.reduceEqDiff, natsr_len, natsr_at, Option.getD_some, hF]
  have hlt := Nat.mod_lt u (Nat.pos_of_ne_zero h0)
  have := wd_len_mono (Nat.le_of_lt hlt)
  rw [natAt_of rfl]
  exact ⟨⟨v, u % v, by rw [← hg, Nat.gcd_comm u v, Nat.gcd_rec v u, Nat.gcd_comm], hv, by omega, rfl, rfl⟩, hlt⟩
 ·have h0 : v = 0 := wd_len_zero.mp (by omega)
  subst h0
  rw [Nat.gcd_zero_right] at hg
  simp (disch := omega) only [wt, seval, reduceCtorEq, Nat.reduceEqDiff, natsr_len, natsr_at, Option.getD_some, hF, hg]
end Go.Proofs.YtdokaihemcnkmaaGreat

namespace Go.Proofs.YtdokaihemcnkmaaGreat
open Go Go.Proofs Go.AL
set_option linter.unusedSimpArgs false
set_option linter.unusedVariables false
theorem iv_sg (c : RI) : iv c = sg c.1 (nv c.2) := rfl
theorem znat_ok (s : Bool) (n : Nat) (h : (wd n).length ≤ 2 ^ 40) : AC Tryz.prog 164 [cb s, cl (wd n)] none [cz (sg s n)] := by
 refine AC.by_walk (rs := [.cell 4 27]) ords Tryz.func164 (by rfl) (by rfl) (by rfl) (by rfl) (by rfl) ?_
 simp (disch := omega) only [wt, seval, reduceCtorEq, Nat.reduceEqDiff, cpoly_len]
 have m := znorm_ok (s, wd n) ⟨h, lim_wd _⟩
 rw [iv_sg, nv_wd] at m
 refine call_by (m) (by rfl) (by simp) ?_
 simp (disch := omega) only [wt, seval, reduceCtorEq, Nat.reduceEqDiff, cpoly_len]
theorem sg_div {s t : Bool} {x y : Nat} (h : x % y = 0) : sg s x / sg t y = sg (s != t) (x / y) ∧ sg t y ∣ sg s x := by
 obtain ⟨k, rfl⟩ := Nat.dvd_of_mod_eq_zero h
 rcases Nat.eq_zero_or_pos y with h0 | h0
 ·subst h0; cases s <;> cases t <;> simp [sg]
 ·rw [Nat.mul_div_cancel_left _ h0]
  have hy : (y : Int) ≠ 0 := by omega
  cases s <;> cases t <;> simp [sg, Int.mul_ediv_cancel_left _ hy, ← Int.mul_neg]
theorem sg_dvd {s t : Bool} {x y : Nat} : sg t y ∣ sg s x ↔ x % y = 0 := by
 constructor
 ·intro h
  have h1 := Int.natAbs_dvd_natAbs.mpr h
  have e : ∀ (b : Bool) (n : Nat), (sg b n).natAbs = n := fun b n => by cases b <;> simp [sg]
  rw [e, e] at h1
  exact Nat.mod_eq_zero_of_dvd h1
 ·intro h; exact (sg_div h).2
theorem zexact_ok (a b : RI) (ha : Sz (2 ^ 38) a) (hb : Sz (2 ^ 38) b) (h0 : iv b ≠ 0) (hd : iv b ∣ iv a) : AC Tryz.prog 163 [cr a, cr b] none [cz (iv a / iv b), ci 0] := by
 refine AC.by_walk (rs := [.cell 4 27, .tmp 5]) ords Tryz.func163 (by rfl) (by rfl) (by rfl) (by rfl) (by rfl) ?_
 rw [iv_sg, iv_sg] at hd
 rw [iv_sg] at h0
 have hm := sg_dvd.mp hd
 have hn : nv b.2 ≠ 0 := fun h => h0 (by rw [h]; cases b.1 <;> rfl)
 have m := dexact_ok a.2 b.2 ha.2 hb.2 ha.1 hb.1 hn
 rw [if_pos hm, if_pos hm] at m
 rw [iv_sg, iv_sg, (sg_div hm).1]
 simp (disch := omega) only [wt, seval, reduceCtorEq, Nat.reduceEqDiff, cpoly_len]
 refine call_by (m) (by rfl) (by simp) ?_
 simp (disch := omega) only [wt, seval, reduceCtorEq, Nat.reduceEqDiff, cpoly_len]
 refine call_by ((zof_ok (a.1 != b.1) (nv a.2 / nv b.2))) (by rfl) (by simp) ?_
 simp (disch := omega) only [wt, seval, reduceCtorEq, Nat.reduceEqDiff, cpoly_len]
def gz (q : List Int) : Nat := q.foldl (fun g c => Nat.gcd g c.natAbs) 0
theorem gz_take {q : List Int} {i : Nat} (h : i < q.length) : gz (q.take (i + 1)) = Nat.gcd (gz (q.take i)) (cf q i).natAbs := by
 have e : q.take (i + 1) = q.take i ++ [cf q i] := by
  rw [List.take_add_one]; congr 1; simp [cf, List.getD, h]
 rw [e, gz, List.foldl_append]; rfl
theorem zgcd_ok (p : List RI) (h : RP (2 ^ 40) (2 ^ 38) p) : AC Tryz.prog 215 [cw p] none [cl (wd (gz (pv p)))] := by
 refine AC.by_walk (rs := [.tmp 2]) ords Tryz.func215 (by rfl) (by rfl) (by rfl) (by rfl) (by rfl) ?_
 have hl := h.1
 simp (disch := omega) only [wt, seval, reduceCtorEq, Nat.reduceEqDiff, cpoly_len]
 refine aloop_w (.iv 3 6 1 false 144 1 [] (by simp (disch := omega) only [wt, seval, reduceCtorEq, Nat.reduceEqDiff, cpoly_len]) (by simp (disch := omega) only [wt, seval, reduceCtorEq, Nat.reduceEqDiff, cpoly_len]) (.refl _ _)) (fun f H => ∃ (i : Nat), i ≤ p.length ∧ (wd (gz ((pv p).take i))).length ≤ 2 ^ 38 ∧ f 9 = .iv (.int .i64 i) ∧ f 7 = .iv (.sl (raws p)) ∧ f 8 = .iv (.int .i64 p.length) ∧ f 3 = .iv (.sl (lims (wd (gz ((pv p).take i)))))) (fun f H => (p.length - intAt f 9).toNat) ?_ ?_
 ·refine ⟨0, by omega, by rw [List.take_zero, gz, List.foldl_nil, wd_zero]; exact Nat.zero_le _, ?_⟩
  simp (disch := omega) only [wt, seval, reduceCtorEq, Nat.reduceEqDiff, cpoly_len, List.take_zero, gz, List.foldl_nil, wd_zero, lims_nil]
 rintro f H ⟨i, hi, hs, hF⟩
 rw [intAt_of hF.1]
 simp (disch := omega) only [wt, seval, reduceCtorEq, Nat.reduceEqDiff, cpoly_len, hF]
 refine if_by (fun hlt => ?_) (fun hlt => ?_)
 ·have hc := h.get i
  have m := gcd_ok (wd (gz ((pv p).take i))) (p.getD i (false, [])).2 (lim_wd _) hc.2 hs hc.1
  rw [nv_wd, ← iv_abs, ← cf_pv, ← gz_take (by rw [pv_len]; omega)] at m
  simp (disch := omega) only [wt, seval, reduceCtorEq, Nat.reduceEqDiff, cpoly_len, hF]
  refine call_by (m) (by first | rfl | (simp only [tocvs, tocv, toboxes, tobox, updH_at, Nat.reduceEqDiff, ↓reduceIte, hF]; rfl)) (by simp) ?_
  simp (disch := omega) only [wt, seval, reduceCtorEq, Nat.reduceEqDiff, cpoly_len, hF]
  refine ⟨⟨i + 1, by omega, ?_, by omega, rfl⟩, by omega⟩
  rw [gz_take (by rw [pv_len]; omega)]
  rcases Nat.eq_zero_or_pos (cf (pv p) i).natAbs with h0 | h0
  ·rw [h0, Nat.gcd_zero_right]; exact hs
  ·refine Nat.le_trans (wd_len_mono (Nat.gcd_le_right _ h0)) ?_
   rw [cf_pv, iv_abs]
   exact Nat.le_trans (nv_len hc.2) hc.1
 ·simp (disch := omega) only [wt, seval, reduceCtorEq, Nat.reduceEqDiff, cpoly_len, hF]
  rw [List.take_of_length_le (by rw [pv_len]; omega)]
theorem gz_len {n k : Nat} {p : List RI} (h : RP n k p) : (wd (gz (pv p))).length ≤ k := by
 have key : ∀ i, i ≤ p.length → (wd (gz ((pv p).take i))).length ≤ k := by
  intro i
  induction i with
  | zero => intro _; rw [List.take_zero, gz, List.foldl_nil, wd_zero]; exact Nat.zero_le _
  | succ i ih =>
   intro hi
   rw [gz_take (by rw [pv_len]; omega)]
   rcases Nat.eq_zero_or_pos (cf (pv p) i).natAbs with h0 | h0
   ·rw [h0, Nat.gcd_zero_right]; exact ih (by omega)
   ·refine Nat.le_trans (wd_len_mono (Nat.gcd_le_right _ h0)) ?_
    rw [cf_pv, iv_abs]
    exact Nat.le_trans (nv_len (h.get i).2) (h.get i).1
 have := key p.length (Nat.le_refl _)
 rwa [List.take_of_length_le (by rw [pv_len]; exact Nat.le_refl _)] at this
def lc (q : List Int) : Int := cf q (tz q - 1)
def cont (q : List Int) : Int := sg (decide (lc q < 0)) (gz q)
theorem sign_neg (z : Int) : z.sign < 0 ↔ z < 0 := by
 rcases Int.lt_trichotomy z 0 with h | h | h
 ·rw [Int.sign_eq_neg_one_of_neg h]; omega
 ·subst h; simp
 ·rw [Int.sign_eq_one_of_pos h]; omega
theorem pcontent_ok (p : List RI) (h : RP (2 ^ 40) (2 ^ 38) p) : AC Tryz.prog 121 [cw p] none [cz (cont (pv p))] := by
 refine AC.by_walk (rs := [.cell 2 27]) ords Tryz.func121 (by rfl) (by rfl) (by rfl) (by rfl) (by rfl) ?_
 have hl := h.1
 have hg := gz_len h
 have hs := zsign_ok (canon (lc (pv p))) ((sz_canon _).mono (by
  have := (h.pv).cf (tz (pv p) - 1)
  unfold lc
  omega))
 rw [iv_canon] at hs
 simp (disch := omega) only [wt, seval, reduceCtorEq, Nat.reduceEqDiff, cpoly_len]
 refine call_by ((plead_ok p (h.mono (by omega) (by omega)))) (by rfl) (by simp) ?_
 simp (disch := omega) only [wt, seval, reduceCtorEq, Nat.reduceEqDiff, cpoly_len]
 refine call_by (hs) (by rfl) (by simp) ?_
 simp (disch := omega) only [wt, seval, reduceCtorEq, Nat.reduceEqDiff, cpoly_len]
 refine call_by ((zgcd_ok p h)) (by rfl) (by simp) ?_
 simp (disch := omega) only [wt, seval, reduceCtorEq, Nat.reduceEqDiff, cpoly_len]
 have m := znat_ok (decide (lc (pv p) < 0)) (gz (pv p)) (by omega)
 have e : (decide ((lc (pv p)).sign < 0)) = decide (lc (pv p) < 0) := by rw [decide_eq_decide]; exact sign_neg _
 rw [e]
 refine call_by (m) (by rfl) (by simp) ?_
 simp (disch := omega) only [wt, seval, reduceCtorEq, Nat.reduceEqDiff, cpoly_len]
 rfl
def pdivs (c : Int) (q : List Int) : List Int := q.map (· / c)
theorem cf_pdivs (c : Int) (q : List Int) (k : Nat) : cf (pdivs c q) k = cf q k / c := by
 unfold pdivs cf
 rw [List.getD_eq_getElem?_getD, List.getD_eq_getElem?_getD, List.getElem?_map]
 cases q[k]? with
 | none => simp
 | some x => rfl
theorem zl_div {a b : Int} (h : b ∣ a) : zl (a / b) ≤ zl a := by
 obtain ⟨k, rfl⟩ := h
 by_cases h0 : b = 0
 ·subst h0; simp
 ·rw [Int.mul_ediv_cancel_left _ h0]
  unfold zl
  rw [Int.natAbs_mul]
  exact wd_len_mono (Nat.le_mul_of_pos_left _ (by omega))
theorem gz_dvd (q : List Int) (k : Nat) : (gz q : Int) ∣ cf q k := by
 have key : ∀ i, i ≤ q.length → ∀ k, k < i → (gz (q.take i) : Int) ∣ cf q k := by
  intro i
  induction i with
  | zero => intro _ k hk; omega
  | succ i ih =>
   intro hi k hk
   rw [gz_take (by omega)]
   rcases Nat.lt_or_ge k i with h | h
   ·exact Int.dvd_trans (Int.natCast_dvd_natCast.mpr (Nat.gcd_dvd_left _ _)) (ih (by omega) k h)
   ·obtain rfl : k = i := by omega
    exact Int.ofNat_dvd_left.mpr (Nat.gcd_dvd_right _ _)
 rcases Nat.lt_or_ge k q.length with h | h
 ·have := key q.length (Nat.le_refl _) k h
  rwa [List.take_of_length_le (Nat.le_refl _)] at this
 ·rw [cf_ge h]; exact Int.dvd_zero _
theorem cont_dvd (q : List Int) (k : Nat) : cont q ∣ cf q k := by
 have := gz_dvd q k
 unfold cont sg
 split
 ·exact Int.neg_dvd.mpr this
 ·exact this
theorem cont_natAbs (q : List Int) : (cont q).natAbs = gz q := by
 unfold cont sg
 split <;> simp
def prim (q : List Int) : List Int := pdivs (cont q) q
end Go.Proofs.YtdokaihemcnkmaaGreat

namespace Go.Proofs.YtdokaihemcnkmaaGreat
open Go Go.Proofs Go.AL
set_option linter.unusedSimpArgs false
set_option linter.unusedVariables false
abbrev fint (b : OB) (n : Int) : List IV := [.bool (canon n).1, fnat b (canon n).2]
def RInt (n : Int) (B E : Nat) (res : List CV) : Prop := ∃ b, res = [.agg (fint b n)] ∧ Nw B E (oid b)
theorem ne_int (n : Int) (B : Nat) : ∃ E res, B ≤ E ∧ RInt n B E res := ⟨B, _, Nat.le_refl _, none, rfl, .nil _ _⟩
theorem zofx_ok (s : Bool) (n : Nat) (b : OB) : AC Tryz.prog 223 [cb s, .iv (fnat b (wd n))] none [.agg (fint b (sg s n))] := by
 refine AC.by_walk (rs := [.cell 4 27]) ords Tryz.func223 (by rfl) (by rfl) (by rfl) (by rfl) (by rfl) ?_
 have hz : (0 < ((wd n).length : Int)) ↔ n ≠ 0 := by have := wd_len_zero (n := n); omega
 cases s
 ·simp (disch := omega) only [wt, seval, reduceCtorEq, Nat.reduceEqDiff, lay_own, spl_own]
  unfold fint; rw [canon_sg]; rfl
 ·simp (disch := omega) only [wt, seval, reduceCtorEq, Nat.reduceEqDiff, lay_own, spl_own]
  unfold fint; rw [canon_sg]
  have h' : decide (0 < (wd n).length) = decide (n ≠ 0) := by rw [decide_eq_decide]; omega
  simp [h']
theorem znormx_ok (c : RI) (h : Sz (2 ^ 40) c) : ACX Tryz.prog 212 [cr c] (RInt (iv c)) := by
 refine ACX.by_walk zi0 (rs := [.cell 2 27]) ords Tryz.func212 (by rfl) (by rfl) (by rfl) (by rfl) (by rfl) (ne_int _) (fun B => ?_)
 have hl := h.1
 simp (disch := omega) only [wt, seval, reduceCtorEq, Nat.reduceEqDiff, lay_own, spl_own]
 refine .inl ⟨tmps_by (by kernel_rfl), ?_⟩
 refine callx_by ((normx_ok c.2 h.2 (by omega))) (by rfl) (by simp) (by first | rfl | assumption | (simp (disch := omega) only [wt, seval, reduceCtorEq, Nat.reduceEqDiff, lay_own, spl_own]; done) | ((repeat (replace hF := hF.2)); exact hF)) ?_
 rintro B' E _ hB hE ⟨b, rfl, hb⟩
 simp (disch := omega) only [wt, seval, reduceCtorEq, Nat.reduceEqDiff, lay_own, spl_own]
 refine call_by ((zofx_ok c.1 (nv c.2) b)) (by rfl) (by simp) ?_
 simp (disch := omega) only [wt, seval, reduceCtorEq, Nat.reduceEqDiff, lay_own, spl_own]
 first | exact log_by (by kernel_rfl) | refine ⟨log_by (by kernel_rfl), ?_⟩
 refine opn_done [.agg (fint b (iv c))] (by first | rfl | assumption) (by first | (simp (disch := omega) only [wt, seval, reduceCtorEq, Nat.reduceEqDiff, lay_own, spl_own]; done) | (simp (disch := omega) only [wt, seval, reduceCtorEq, Nat.reduceEqDiff, lay_own, spl_own]; rfl) | rfl) ?_
 intro E hE
 exact ⟨b, rfl, hb.mono hB (by omega)⟩
theorem znatx_ok (s : Bool) (n : Nat) (h : (wd n).length ≤ 2 ^ 40) : ACX Tryz.prog 164 [cb s, cl (wd n)] (RInt (sg s n)) := by
 refine ACX.by_walk zi0 (rs := [.cell 4 27]) ords Tryz.func164 (by rfl) (by rfl) (by rfl) (by rfl) (by rfl) (ne_int _) (fun B => ?_)
 simp (disch := omega) only [wt, seval, reduceCtorEq, Nat.reduceEqDiff, lay_own, spl_own]
 have m := znormx_ok (s, wd n) ⟨h, lim_wd _⟩
 rw [iv_sg, nv_wd] at m
 refine callx_by (m) (by rfl) (by simp) (by first | rfl | assumption | (simp (disch := omega) only [wt, seval, reduceCtorEq, Nat.reduceEqDiff, lay_own, spl_own]; done) | ((repeat (replace hF := hF.2)); exact hF)) ?_
 rintro B' E _ hB hE ⟨b, rfl, hb⟩
 simp (disch := omega) only [wt, seval, reduceCtorEq, Nat.reduceEqDiff, lay_own, spl_own]
 refine opn_done [.agg (fint b (sg s n))] (by first | rfl | assumption) (by first | (simp (disch := omega) only [wt, seval, reduceCtorEq, Nat.reduceEqDiff, lay_own, spl_own]; done) | (simp (disch := omega) only [wt, seval, reduceCtorEq, Nat.reduceEqDiff, lay_own, spl_own]; rfl) | rfl) ?_
 intro E hE
 exact ⟨b, rfl, hb.mono hB (by omega)⟩
theorem naddx_ok (a b : List Nat) (ha : Lim a) (hb : Lim b) (hla : a.length ≤ 2 ^ 40) (hlb : b.length ≤ 2 ^ 40) :
  ACX Tryz.prog 224 [cl a, cl b] (RNat (wd (nv a + nv b))) := by
 refine ACX.by_walk zi0 (rs := [.tmp 4]) ords Tryz.func224 (by rfl) (by rfl) (by rfl) (by rfl) (by rfl) (ne_nat _) (fun B => ?_)
 simp (disch := omega) only [wt, seval, reduceCtorEq, Nat.reduceEqDiff, lay_own, spl_own]
 refine call_by ((ladd_ok a b ha hb hla hlb)) (by rfl) (by simp) ?_
 simp (disch := omega) only [wt, seval, reduceCtorEq, Nat.reduceEqDiff, lay_own, spl_own]
 generalize hn : max a.length b.length = n at *
 refine call_by ((clone_ok (pad n (nv a + nv b)) (by rw [pad_len]; omega))) (by first | rfl | (simp only [tocvs, tocv, toboxes, tobox, updH_at, Nat.reduceEqDiff, ↓reduceIte, pad_len]; rfl)) (by simp) ?_
 simp (disch := omega) only [wt, seval, reduceCtorEq, Nat.reduceEqDiff, lay_own, spl_own, pad_len]
 have hc : (nv a + nv b) / W ^ n < W := by
  rw [Nat.div_lt_iff_lt_mul (W_pow_pos n)]
  have h4 := nv_lt ha
  have h5 := nv_lt hb
  have h6 : W ^ a.length ≤ W ^ n := Nat.pow_le_pow_right (by decide) (by omega)
  have h7 : W ^ b.length ≤ W ^ n := Nat.pow_le_pow_right (by decide) (by omega)
  have : 2 * W ^ n ≤ W * W ^ n := Nat.mul_le_mul_right _ (by decide)
  omega
 have e : nv (pad n (nv a + nv b) ++ [(nv a + nv b) / W ^ n]) = nv a + nv b := by
  rw [nv_snoc, nv_pad, pad_len]; exact Nat.mod_add_div _ _
 have := ownx_ok (pad n (nv a + nv b) ++ [(nv a + nv b) / W ^ n]) ((lim_pad _ _).append (Lim.cons hc Lim.nil)) (by simp [pad_len]; omega)
 rw [e] at this
 refine callx_by (this) (by rfl) (by simp) (by first | rfl | assumption | (simp (disch := omega) only [wt, seval, reduceCtorEq, Nat.reduceEqDiff, lay_own, spl_own]; done) | ((repeat (replace hF := hF.2)); exact hF)) ?_
 rintro B' E _ hB hE ⟨c, rfl, hc⟩
 simp (disch := omega) only [wt, seval, reduceCtorEq, Nat.reduceEqDiff, lay_own, spl_own]
 refine opn_done [.iv (fnat c (wd (nv a + nv b)))] (by first | rfl | assumption) (by first | (simp (disch := omega) only [wt, seval, reduceCtorEq, Nat.reduceEqDiff, lay_own, spl_own]; done) | (simp (disch := omega) only [wt, seval, reduceCtorEq, Nat.reduceEqDiff, lay_own, spl_own]; rfl) | rfl) ?_
 intro E hE
 exact ⟨c, rfl, hc.mono hB (by omega)⟩
end Go.Proofs.YtdokaihemcnkmaaGreat

namespace Go.Proofs.YtdokaihemcnkmaaGreat
open Go Go.Proofs Go.AL
set_option linter.unusedSimpArgs false
set_option linter.unusedVariables false
def frows (bs : List OB) (q : List Int) : List (List IV) := List.zipWith fint bs q
theorem frows_len {bs : List OB} {q : List Int} (h : bs.length = q.length) : (frows bs q).length = q.length := by simp [frows, h]
theorem frows_snoc {bs : List OB} {q : List Int} (h : bs.length = q.length) (b : OB) (n : Int) : frows bs q ++ [fint b n] = frows (bs ++ [b]) (q ++ [n]) := by
 rw [frows, frows, List.zipWith_append h]; rfl
theorem frows_rows (bs : List OB) (q : List Int) : ∀ r ∈ frows bs q, r.length = 2 := by
 induction bs generalizing q with
 | nil => intro r hr; simp [frows] at hr
 | cons b bs ih =>
  cases q with
  | nil => intro r hr; simp [frows] at hr
  | cons n q =>
   intro r hr
   simp only [frows, List.zipWith_cons_cons, List.mem_cons] at hr
   rcases hr with rfl | hr
   ·rfl
   ·exact ih q r hr
theorem frows_two (bs : List OB) (q : List Int) : (∀ r ∈ frows bs q, r.length = 2) ↔ True := ⟨fun _ => trivial, fun _ => frows_rows bs q⟩
theorem frows_get {bs : List OB} {q : List Int} (h : bs.length = q.length) {i : Nat} (hi : i < q.length) : (frows bs q)[i]? = some (fint (bs.getD i none) (cf q i)) := by
 have h2 : i < bs.length := by omega
 simp [frows, List.getElem?_zipWith, List.getD, cf, hi, h2]
def ids (bs : List OB) : List Nat := bs.flatMap oid
theorem ids_frows {bs : List OB} : ∀ {q : List Int}, bs.length = q.length → idsRows (frows bs q) = ids bs := by
 induction bs with
 | nil => intro q h; simp [frows, ids, idsRows]
 | cons b bs ih =>
  intro q h
  cases q with
  | nil => simp at h
  | cons n q =>
   have := ih (q := q) (by simpa using h)
   simp only [frows, ids, List.zipWith_cons_cons, idsRows, List.flatMap_cons, idsRow, IV.ids, List.nil_append, List.append_nil, ids_lims] at this ⊢
   rw [this]
   cases b <;> rfl
theorem ids_snoc (bs : List OB) (b : OB) : ids (bs ++ [b]) = ids bs ++ oid b := by simp [ids]
abbrev fpoly (b : OB) (bs : List OB) (q : List Int) : IV := .own b 27 2 (frows bs q)
def RPoly (q : List Int) (B E : Nat) (res : List CV) : Prop := ∃ b bs, res = [.iv (fpoly b bs q)] ∧ bs.length = q.length ∧ Nw B E (oid b ++ ids bs)
theorem ids_nones (n : Nat) : ids (List.replicate n none) = [] := by
 simp [ids, oid]
theorem ne_poly (q : List Int) (B : Nat) : ∃ E res, B ≤ E ∧ RPoly q B E res := ⟨B, _, Nat.le_refl _, none, List.replicate q.length none, rfl, by simp, by rw [ids_nones]; exact .nil _ _⟩
theorem soft_fint (b : OB) (n : Int) : ∀ (j : Nat) (x y : IV), (fint b n)[j]? = some x → (prow (canon n))[j]? = some y → Soft x y
 | 0, x, y, hx, hy => by cases hx; cases hy; exact .refl _
 | 1, x, y, hx, hy => by
  cases hx; cases hy
  refine .own _ _ _ _ _ rfl (fun i r r' h h' => ?_) (fun i r r' h h' j x x' hx hx' => ?_)
  ·rw [h] at h'; cases h'; rfl
  ·rw [h] at h'; cases h'; rw [hx] at hx'; cases hx'; exact .refl _
 | j + 2, x, y, hx, _ => by simp at hx
theorem soft_frows {bs : List OB} {q : List Int} (h : bs.length = q.length) : (raws (q.map canon)).length = (frows bs q).length ∧ (∀ (i : Nat) (r r' : List IV), (frows bs q)[i]? = some r → (raws (q.map canon))[i]? = some r' → r'.length = r.length) ∧
  ∀ (i : Nat) (r r' : List IV), (frows bs q)[i]? = some r → (raws (q.map canon))[i]? = some r' → ∀ (j : Nat) (x x' : IV), r[j]? = some x → r'[j]? = some x' → Soft x x' := by
 have key : ∀ (i : Nat) (r r' : List IV), (frows bs q)[i]? = some r → (raws (q.map canon))[i]? = some r' → r = fint (bs.getD i none) (cf q i) ∧ r' = prow (canon (cf q i)) := by
  intro i r r' hr hr'
  have hi : i < q.length := by
   have := (List.getElem?_eq_some_iff.1 hr).1; rw [frows_len h] at this; exact this
  rw [frows_get h hi] at hr
  refine ⟨by injection hr with hr; exact hr.symm, ?_⟩
  simp only [raws, List.map_map, List.getElem?_map] at hr'
  rw [List.getElem?_eq_getElem hi] at hr'
  simp only [Option.map_some, Function.comp_apply, Option.some.injEq] at hr'
  rw [← hr']; simp [cf, List.getD, hi]
 refine ⟨by rw [frows_len h]; simp [raws], fun i r r' hr hr' => ?_, fun i r r' hr hr' => ?_⟩
 ·obtain ⟨rfl, rfl⟩ := key i r r' hr hr'; rfl
 ·obtain ⟨rfl, rfl⟩ := key i r r' hr hr'; exact soft_fint _ _
theorem soft_poly {b : OB} {bs : List OB} {q : List Int} (h : bs.length = q.length) : Soft (fpoly b bs q) (.sl (raws (q.map canon))) :=
 have := soft_frows h; .own _ _ _ _ _ this.1 this.2.1 this.2.2
set_option maxRecDepth 4000 in
theorem pnormx_ok (p : List RI) (h : RP (2 ^ 40) (2 ^ 40) p) : ACX Tryz.prog 112 [cw p] (RPoly (trimz (pv p))) := by
 refine ACX.by_walk zi0 (rs := [.tmp 2]) ords Tryz.func112 (by rfl) (by rfl) (by rfl) (by rfl) (by rfl) (ne_poly _) (fun B => ?_)
 have hl := h.1
 have htl := tz_le (pv p)
 rw [pv_len] at htl
 simp (disch := omega) only [wt, seval, reduceCtorEq, Nat.reduceEqDiff, lay_own, spl_own]
 refine call_by ((size_ok p h)) (by rfl) (by simp) ?_
 simp (disch := omega) only [wt, seval, reduceCtorEq, Nat.reduceEqDiff, lay_own, spl_own]
 refine aloop_nil 3 3 27 2 (by simp (disch := omega) only [wt, seval, reduceCtorEq, Nat.reduceEqDiff, lay_own, spl_own]) (fun f H => ∃ (k st : Nat) (bs : List OB) (E : Nat), k ≤ tz (pv p) ∧ bs.length = k ∧ B ≤ E ∧ Nw B E (ids bs) ∧ f 0 = .iv (.sl (raws p)) ∧ f 3 = .hs 3 st ∧ f 6 = .iv (.int .i64 (tz (pv p))) ∧ f 7 = .iv (.int .i64 k) ∧ H 3 = .blk false st 27 2 (frows bs ((trimz (pv p)).take k)) ∧ H 999 = .mrk E) (fun f H => (tz (pv p) - intAt f 7).toNat) ?_ ?_
 ·refine ⟨0, 1, [], B, by omega, rfl, Nat.le_refl _, .nil _ _, ?_⟩
  simp (disch := omega) only [wt, seval, reduceCtorEq, Nat.reduceEqDiff, lay_own, spl_own, ghostF, ghostH, List.take_zero]
  rfl
 rintro f H ⟨k, st, bs, E, hk, hbs, hBE, hnw, h0, h3, h6, h7, hH, h9⟩
 rw [intAt_of h7]
 simp (disch := omega) only [wt, seval, reduceCtorEq, Nat.reduceEqDiff, lay_own, spl_own, h0, h3, h6, h7, hH, h9]
 have hq : ((trimz (pv p)).take k).length = k := by rw [List.length_take, trimz_len]; omega
 have hql : (frows bs ((trimz (pv p)).take k)).length = k := by rw [frows_len (by omega), hq]
 refine if_by (fun hlt => ?_) (fun hlt => ?_)
 ·simp (disch := omega) only [wt, seval, reduceCtorEq, Nat.reduceEqDiff, lay_own, spl_own, h0, h3, h6, h7, hH, h9]
  refine callx_by ((znormx_ok (p.getD k (false, [])) (h.get _))) (by first | rfl | (simp only [tocvs, tocv, toboxes, tobox, updH_at, Nat.reduceEqDiff, ↓reduceIte, h0, h3, h6, h7, hH, h9, hql]; rfl)) (by simp) (by first | rfl | assumption | (simp (disch := omega) only [wt, seval, reduceCtorEq, Nat.reduceEqDiff, lay_own, spl_own, h0, h3, h6, h7, hH, h9, hql]; done) | ((repeat (replace hF := hF.2)); exact hF)) ?_
  rintro B' E' _ hB hE ⟨b, rfl, hb⟩
  simp (disch := omega) only [wt, seval, reduceCtorEq, Nat.reduceEqDiff, lay_own, spl_own, h0, h3, h6, h7, hH, h9, hql]
  refine ⟨⟨k + 1, st + 1, bs ++ [b], E', by omega, by simp [hbs], by omega, ?_, rfl, by omega, ?_, rfl⟩, by omega⟩
  ·rw [ids_snoc]; exact hnw.append hb (by omega) hB (by omega)
  ·rw [trimz_take_succ (by omega), cf_pv, frows_snoc (by omega)]
 ·simp (disch := omega) only [wt, seval, reduceCtorEq, Nat.reduceEqDiff, lay_own, spl_own, h0, h3, h6, h7, hH, h9]
  obtain rfl : k = tz (pv p) := by omega
  have e : (trimz (pv p)).take (tz (pv p)) = trimz (pv p) := List.take_of_length_le (by rw [trimz_len]; exact Nat.le_refl _)
  rw [e] at hH hq
  refine opn_by 2 3 _ 27 2 ((frows bs (trimz (pv p)))) (by first | rfl | assumption | simp (disch := omega) only [wt, seval, reduceCtorEq, Nat.reduceEqDiff, lay_own, spl_own]) (by first | rfl | assumption | simp (disch := omega) only [wt, seval, reduceCtorEq, Nat.reduceEqDiff, lay_own, spl_own]) (by first | rfl | assumption) ?_
  rintro b E2 hE2 hb
  refine opn_done [.iv (fpoly b bs (trimz (pv p)))] (by first | rfl | assumption) (by first | (simp (disch := omega) only [wt, seval, reduceCtorEq, Nat.reduceEqDiff, lay_own, spl_own]; done) | (simp (disch := omega) only [wt, seval, reduceCtorEq, Nat.reduceEqDiff, lay_own, spl_own]; rfl) | rfl) ?_
  intro E hE
  refine ⟨b, bs, rfl, by omega, ?_⟩
  cases b with
  | none => exact hnw.mono (Nat.le_refl _) (by omega)
  | some g =>
   have := hb.2 g.1 g.2 rfl
   rw [ids_frows (by omega)] at this
   exact (hnw.mono (Nat.le_refl _) (by omega)).cons this.2.2.1 this.1 (by omega)
end Go.Proofs.YtdokaihemcnkmaaGreat

namespace Go.Proofs.YtdokaihemcnkmaaGreat
open Go Go.Proofs Go.AL
set_option linter.unusedSimpArgs false
set_option linter.unusedVariables false
set_option maxRecDepth 4000 in
theorem paddx_ok (a b : List RI) (ha : RP (2 ^ 30) (2 ^ 36) a) (hb : RP (2 ^ 30) (2 ^ 36) b) : ACX Tryz.prog 113 [cw a, cw b] (RPoly (trimz (padd (pv a) (pv b)))) := by
 refine ACX.by_walk zi0 (rs := [.tmp 4]) ords Tryz.func113 (by rfl) (by rfl) (by rfl) (by rfl) (by rfl) (ne_poly _) (fun B => ?_)
 have hla := ha.1
 have hlb := hb.1
 simp (disch := omega) only [wt, seval, reduceCtorEq, Nat.reduceEqDiff, lay_own, spl_own, cpoly_len]
 generalize hn : max a.length b.length = n at *
 have hnI : max (a.length : Int) (b.length : Int) = (n : Int) := by omega
 rw [hnI]
 simp (disch := omega) only [wt, seval, reduceCtorEq, Nat.reduceEqDiff, lay_own, spl_own, cpoly_len]
 refine aloop_by (fun f H => ∃ (i st : Nat) (out : List Int), i ≤ n ∧ out.length = n ∧ (∀ k, zl (cf out k) ≤ 2 ^ 36 + 1) ∧ (∀ k, k < i → cf out k = cf (pv a) k + cf (pv b) k) ∧
  f 0 = .iv (.sl (raws a)) ∧ f 1 = .iv (.sl (raws b)) ∧ f 5 = .hs 12 st ∧ f 14 = .iv (.int .i64 n) ∧ f 15 = .iv (.int .i64 i) ∧ H 12 = .blk false st 27 2 (raws (out.map canon)) ∧ H 999 = .mrk B) (fun f H => (n - intAt f 15).toNat) ?_ ?_
 ·exact ⟨0, 1, List.replicate n 0, by omega, by simp, fun k => by rw [cf_rep, zl_zero]; omega, fun k hk => by omega, by simp (disch := omega) only [wt, seval, reduceCtorEq, Nat.reduceEqDiff, lay_own, spl_own, cpoly_len], by simp (disch := omega) only [wt, seval, reduceCtorEq, Nat.reduceEqDiff, lay_own, spl_own, cpoly_len], by simp (disch := omega) only [wt, seval, reduceCtorEq, Nat.reduceEqDiff, lay_own, spl_own, cpoly_len], by simp (disch := omega) only [wt, seval, reduceCtorEq, Nat.reduceEqDiff, lay_own, spl_own, cpoly_len], by simp (disch := omega) only [wt, seval, reduceCtorEq, Nat.reduceEqDiff, lay_own, spl_own, cpoly_len], by simp (disch := omega) only [wt, seval, reduceCtorEq, Nat.reduceEqDiff, lay_own, spl_own, cpoly_len, Int.toNat_natCast, rep_canon], by simp (disch := omega) only [wt, seval, reduceCtorEq, Nat.reduceEqDiff, lay_own, spl_own, cpoly_len]⟩
 rintro f H ⟨i, st, out, hi, hol, hz, hv, h0, h1, h5, h14, h15, hH, h9⟩
 rw [intAt_of h15]
 simp (disch := omega) only [wt, seval, reduceCtorEq, Nat.reduceEqDiff, lay_own, spl_own, cpoly_len, h0, h1, h5, h14, h15, hH, h9]
 refine if_by (fun hlt => ?_) (fun hlt => ?_)
 ·have hq : (out.map canon).length = n := by rw [List.length_map, hol]
  simp (disch := omega) only [wt, seval, reduceCtorEq, Nat.reduceEqDiff, lay_own, spl_own, cpoly_len, h0, h1, h5, h14, h15, hH, hq, h9]
  refine call_by ((pat_ok a i (by omega) (by omega))) (by first | rfl | (simp only [tocvs, tocv, toboxes, tobox, updH_at, Nat.reduceEqDiff, ↓reduceIte, h0, h1, h5, h14, h15, hH, hq, h9]; rfl)) (by simp) ?_
  simp (disch := omega) only [wt, seval, reduceCtorEq, Nat.reduceEqDiff, lay_own, spl_own, cpoly_len, h0, h1, h5, h14, h15, hH, hq, h9]
  refine call_by ((pat_ok b i (by omega) (by omega))) (by first | rfl | (simp only [tocvs, tocv, toboxes, tobox, updH_at, Nat.reduceEqDiff, ↓reduceIte, h0, h1, h5, h14, h15, hH, hq, h9]; rfl)) (by simp) ?_
  simp (disch := omega) only [wt, seval, reduceCtorEq, Nat.reduceEqDiff, lay_own, spl_own, cpoly_len, h0, h1, h5, h14, h15, hH, hq, h9]
  refine call_by ((zadd_ok (a.getD i (false, [])) (b.getD i (false, [])) ((ha.get i).mono (by omega)) ((hb.get i).mono (by omega)))) (by first | rfl | (simp only [tocvs, tocv, toboxes, tobox, updH_at, Nat.reduceEqDiff, ↓reduceIte, h0, h1, h5, h14, h15, hH, hq, h9]; rfl)) (by simp) ?_
  simp (disch := omega) only [wt, seval, reduceCtorEq, Nat.reduceEqDiff, lay_own, spl_own, cpoly_len, h0, h1, h5, h14, h15, hH, hq, h9]
  rw [← cf_pv, ← cf_pv]
  refine ⟨⟨i + 1, st, out.set i (cf (pv a) i + cf (pv b) i), by omega, by simp [hol], fun k => ?_, fun k hk => ?_, rfl, by omega, rfl⟩, by omega⟩
  ·rw [cf_set (by omega)]
   split
   ·have := zl_add (cf (pv a) i) (cf (pv b) i)
    have := ha.pv.cf i
    have := hb.pv.cf i
    omega
   ·exact hz k
  ·rw [cf_set (by omega)]
   split
   ·rename_i e; rw [e]
   ·exact hv k (by omega)
 ·simp (disch := omega) only [wt, seval, reduceCtorEq, Nat.reduceEqDiff, lay_own, spl_own, cpoly_len, h0, h1, h5, h14, h15, hH, h9]
  have e : trimz (padd (pv a) (pv b)) = trimz (pv (out.map canon)) := by
   refine trimz_ext fun k => ?_
   rw [pv_canon, cf_padd]
   by_cases hk : k < n
   ·exact (hv k (by omega)).symm
   ·rw [cf_ge (q := out) (by omega), cf_ge (by rw [pv_len]; omega), cf_ge (by rw [pv_len]; omega)]; rfl
  rw [e]
  refine callx_by ((pnormx_ok (out.map canon) (RP.canon (.of (by omega) fun k => Nat.le_trans (hz k) (by omega))))) (by first | rfl | (simp only [tocvs, tocv, toboxes, tobox, updH_at, Nat.reduceEqDiff, ↓reduceIte, h0, h1, h5, h14, h15, hH, h9]; rfl)) (by simp) (by first | rfl | assumption | (simp (disch := omega) only [wt, seval, reduceCtorEq, Nat.reduceEqDiff, lay_own, spl_own, cpoly_len, h0, h1, h5, h14, h15, hH, h9]; done) | ((repeat (replace hF := hF.2)); exact hF)) ?_
  rintro B' E _ hB hE ⟨b, bs, rfl, hl, hn⟩
  simp (disch := omega) only [wt, seval, reduceCtorEq, Nat.reduceEqDiff, lay_own, spl_own, cpoly_len, h0, h1, h5, h14, h15, hH, h9]
  refine opn_done [.iv (fpoly b bs _)] (by first | rfl | assumption) (by first | (simp (disch := omega) only [wt, seval, reduceCtorEq, Nat.reduceEqDiff, lay_own, spl_own, cpoly_len]; done) | (simp (disch := omega) only [wt, seval, reduceCtorEq, Nat.reduceEqDiff, lay_own, spl_own, cpoly_len]; rfl) | rfl) ?_
  intro E hE
  exact ⟨b, bs, rfl, hl, hn.mono (by omega) (by omega)⟩
set_option maxRecDepth 4000 in
theorem pscalex_ok (p : List RI) (c : RI) (hp : RP (2 ^ 30) (2 ^ 35) p) (hc : Sz (2 ^ 35) c) : ACX Tryz.prog 116 [cw p, cr c] (RPoly (trimz (pscale (iv c) (pv p)))) := by
 refine ACX.by_walk zi0 (rs := [.tmp 4]) ords Tryz.func116 (by rfl) (by rfl) (by rfl) (by rfl) (by rfl) (ne_poly _) (fun B => ?_)
 have hl := hp.1
 simp (disch := omega) only [wt, seval, reduceCtorEq, Nat.reduceEqDiff, lay_own, spl_own, cpoly_len]
 refine aloop_by (fun f H => ∃ (i st st3 : Nat) (out : List Int), i ≤ p.length ∧ out.length = p.length ∧ (∀ k, zl (cf out k) ≤ 2 ^ 36) ∧ (∀ k, k < i → cf out k = cf (pv p) k * iv c) ∧
  f 0 = .iv (.sl (raws p)) ∧ f 3 = .hp 3 st3 0 0 ∧ f 5 = .hs 9 st ∧ f 11 = .iv (.int .i64 p.length) ∧ f 12 = .iv (.int .i64 i) ∧ H 9 = .blk false st 27 2 (raws (out.map canon)) ∧ H 3 = .blk false st3 27 2 [prow c] ∧ H 999 = .mrk B) (fun f H => (p.length - intAt f 12).toNat) ?_ ?_
 ·exact ⟨0, 1, 1, List.replicate p.length 0, by omega, by simp, fun k => by rw [cf_rep, zl_zero]; omega, fun k hk => by omega, by simp (disch := omega) only [wt, seval, reduceCtorEq, Nat.reduceEqDiff, lay_own, spl_own, cpoly_len], by simp (disch := omega) only [wt, seval, reduceCtorEq, Nat.reduceEqDiff, lay_own, spl_own, cpoly_len], by simp (disch := omega) only [wt, seval, reduceCtorEq, Nat.reduceEqDiff, lay_own, spl_own, cpoly_len], by simp (disch := omega) only [wt, seval, reduceCtorEq, Nat.reduceEqDiff, lay_own, spl_own, cpoly_len], by simp (disch := omega) only [wt, seval, reduceCtorEq, Nat.reduceEqDiff, lay_own, spl_own, cpoly_len], by simp (disch := omega) only [wt, seval, reduceCtorEq, Nat.reduceEqDiff, lay_own, spl_own, cpoly_len, Int.toNat_natCast, rep_canon], by simp (disch := omega) only [wt, seval, reduceCtorEq, Nat.reduceEqDiff, lay_own, spl_own, cpoly_len], by simp (disch := omega) only [wt, seval, reduceCtorEq, Nat.reduceEqDiff, lay_own, spl_own, cpoly_len]⟩
 rintro f H ⟨i, st, st3, out, hi, hol, hz, hv, h0, h3, h5, h11, h12, hH, hH3, h9⟩
 rw [intAt_of h12]
 simp (disch := omega) only [wt, seval, reduceCtorEq, Nat.reduceEqDiff, lay_own, spl_own, cpoly_len, h0, h3, h5, h11, h12, hH, hH3, h9]
 refine if_by (fun hlt => ?_) (fun hlt => ?_)
 ·have hq : (out.map canon).length = p.length := by rw [List.length_map, hol]
  simp (disch := omega) only [wt, seval, reduceCtorEq, Nat.reduceEqDiff, lay_own, spl_own, cpoly_len, h0, h3, h5, h11, h12, hH, hH3, hq, h9]
  refine .inl ⟨tmps_by (by kernel_rfl), ?_⟩
  refine call_by ((zmul_ok (p.getD i (false, [])) c ((hp.get i).mono (by omega)) (hc.mono (by omega)))) (by first | rfl | (simp only [tocvs, tocv, toboxes, tobox, updH_at, Nat.reduceEqDiff, ↓reduceIte, h0, h3, h5, h11, h12, hH, hH3, hq, h9]; rfl)) (by simp) ?_
  simp (disch := omega) only [wt, seval, reduceCtorEq, Nat.reduceEqDiff, lay_own, spl_own, cpoly_len, h0, h3, h5, h11, h12, hH, hH3, hq, h9]
  rw [← cf_pv]
  first | exact log_by (by kernel_rfl) | refine ⟨log_by (by kernel_rfl), ?_⟩
  refine ⟨⟨i + 1, st, st3, out.set i (cf (pv p) i * iv c), by omega, by simp [hol], fun k => ?_, fun k hk => ?_, rfl, rfl, by omega, rfl, rfl⟩, by omega⟩
  ·rw [cf_set (by omega)]
   split
   ·have := zl_mul (cf (pv p) i) (iv c)
    have := hp.pv.cf i
    have := zl_iv hc
    omega
   ·exact hz k
  ·rw [cf_set (by omega)]
   split
   ·rename_i e; rw [e]
   ·exact hv k (by omega)
 ·simp (disch := omega) only [wt, seval, reduceCtorEq, Nat.reduceEqDiff, lay_own, spl_own, cpoly_len, h0, h3, h5, h11, h12, hH, hH3, h9]
  have e : trimz (pscale (iv c) (pv p)) = trimz (pv (out.map canon)) := by
   refine trimz_ext fun k => ?_
   rw [pv_canon, cf_pscale]
   by_cases hk : k < p.length
   ·exact (hv k (by omega)).symm
   ·rw [cf_ge (q := out) (by omega), cf_ge (by rw [pv_len]; omega)]; simp
  rw [e]
  refine callx_by ((pnormx_ok (out.map canon) (RP.canon (.of (by omega) fun k => Nat.le_trans (hz k) (by omega))))) (by first | rfl | (simp only [tocvs, tocv, toboxes, tobox, updH_at, Nat.reduceEqDiff, ↓reduceIte, h0, h3, h5, h11, h12, hH, hH3, h9]; rfl)) (by simp) (by first | rfl | assumption | (simp (disch := omega) only [wt, seval, reduceCtorEq, Nat.reduceEqDiff, lay_own, spl_own, cpoly_len, h0, h3, h5, h11, h12, hH, hH3, h9]; done) | ((repeat (replace hF := hF.2)); exact hF)) ?_
  rintro B' E _ hB hE ⟨b, bs, rfl, hl, hn⟩
  simp (disch := omega) only [wt, seval, reduceCtorEq, Nat.reduceEqDiff, lay_own, spl_own, cpoly_len, h0, h3, h5, h11, h12, hH, hH3, h9]
  refine opn_done [.iv (fpoly b bs _)] (by first | rfl | assumption) (by first | (simp (disch := omega) only [wt, seval, reduceCtorEq, Nat.reduceEqDiff, lay_own, spl_own, cpoly_len]; done) | (simp (disch := omega) only [wt, seval, reduceCtorEq, Nat.reduceEqDiff, lay_own, spl_own, cpoly_len]; rfl) | rfl) ?_
  intro E hE
  exact ⟨b, bs, rfl, hl, hn.mono (by omega) (by omega)⟩
set_option maxRecDepth 4000 in
theorem pderivx_ok (p : List RI) (h : RP (2 ^ 30) (2 ^ 35) p) : ACX Tryz.prog 117 [cw p] (RPoly (trimz (pderiv (pv p)))) := by
 refine ACX.by_walk zi0 (rs := [.tmp 2]) ords Tryz.func117 (by rfl) (by rfl) (by rfl) (by rfl) (by rfl) (ne_poly _) (fun B => ?_)
 have hl := h.1
 have htl := tz_le (pv p)
 rw [pv_len] at htl
 simp (disch := omega) only [wt, seval, reduceCtorEq, Nat.reduceEqDiff, lay_own, spl_own, cpoly_len]
 refine call_by ((size_ok p (h.mono (by omega) (by omega)))) (by rfl) (by simp) ?_
 simp (disch := omega) only [wt, seval, reduceCtorEq, Nat.reduceEqDiff, lay_own, spl_own, cpoly_len]
 refine aloop_nil 3 3 27 2 (by simp (disch := omega) only [wt, seval, reduceCtorEq, Nat.reduceEqDiff, lay_own, spl_own, cpoly_len]) (fun f H => ∃ (k st : Nat), k ≤ tz (pv p) ∧ f 7 = .iv (.int .i64 k) ∧ f 0 = .iv (.sl (raws p)) ∧ f 3 = .hs 3 st ∧ f 6 = .iv (.int .i64 (tz (pv p))) ∧ H 3 = .blk false st 27 2 (raws ((pderiv ((pv p).take k)).map canon)) ∧ H 999 = .mrk B) (fun f H => (tz (pv p) - intAt f 7).toNat) ?_ ?_
 ·refine ⟨0, 1, by omega, ?_⟩
  simp (disch := omega) only [wt, seval, reduceCtorEq, Nat.reduceEqDiff, lay_own, spl_own, cpoly_len, ghostF, ghostH, List.take_zero, pderiv]
 rintro f H ⟨k, st, hk, hF⟩
 rw [intAt_of hF.1]
 simp (disch := omega) only [wt, seval, reduceCtorEq, Nat.reduceEqDiff, lay_own, spl_own, cpoly_len, hF]
 refine if_by (fun hlt => ?_) (fun hlt => ?_)
 ·simp (disch := omega) only [wt, seval, reduceCtorEq, Nat.reduceEqDiff, lay_own, spl_own, cpoly_len, hF]
  refine if_by (fun h0 => ?_) (fun h0 => ?_)
  ·simp (disch := omega) only [wt, seval, reduceCtorEq, Nat.reduceEqDiff, lay_own, spl_own, cpoly_len, hF]
   have hq : ((pderiv ((pv p).take k)).map canon).length = k - 1 := by
    simp only [pderiv, List.length_map, List.length_range, List.length_take, pv_len]; omega
   refine .inl ⟨tmps_by (by kernel_rfl), ?_⟩
   refine call_by ((zOf_ok k (by omega) (by omega))) (by first | rfl | (simp only [tocvs, tocv, toboxes, tobox, updH_at, Nat.reduceEqDiff, ↓reduceIte, hF, hq]; rfl)) (by simp) ?_
   simp (disch := omega) only [wt, seval, reduceCtorEq, Nat.reduceEqDiff, lay_own, spl_own, cpoly_len, hF, hq]
   have hz : zl (k : Int) ≤ 1 := zl_le.mpr (by simp only [W]; omega)
   have m := zmul_ok (p.getD k (false, [])) (canon k) ((h.get _).mono (by omega)) ((sz_canon _).mono (by omega))
   rw [iv_canon, ← cf_pv] at m
   refine call_by (m) (by first | rfl | (simp only [tocvs, tocv, toboxes, tobox, updH_at, Nat.reduceEqDiff, ↓reduceIte, hF, hq]; rfl)) (by simp) ?_
   simp (disch := omega) only [wt, seval, reduceCtorEq, Nat.reduceEqDiff, lay_own, spl_own, cpoly_len, hF, hq]
   first | exact log_by (by kernel_rfl) | refine ⟨log_by (by kernel_rfl), ?_⟩
   refine ⟨⟨k + 1, st + 1, by omega, ?_⟩, by omega⟩
   rw [pderiv_take (by rw [pv_len]; omega) (by omega)]
   exact ⟨by omega, rfl, rfl⟩
  ·simp (disch := omega) only [wt, seval, reduceCtorEq, Nat.reduceEqDiff, lay_own, spl_own, cpoly_len, hF]
   obtain rfl : k = 0 := by omega
   refine ⟨⟨1, st, by omega, ?_⟩, by omega⟩
   have : pderiv ((pv p).take 1) = [] := by simp [pderiv]; omega
   rw [this]; exact ⟨rfl, rfl, rfl⟩
 ·simp (disch := omega) only [wt, seval, reduceCtorEq, Nat.reduceEqDiff, lay_own, spl_own, cpoly_len, hF]
  have hk : k = tz (pv p) := by omega
  have e : trimz (pderiv (pv p)) = trimz (pv ((pderiv ((pv p).take k)).map canon)) := by
   refine trimz_ext (ps_eq ?_)
   rw [pv_canon, ps_pderiv, ps_pderiv, hk]
   exact congrArg PS.D (ps_trimz (pv p)).symm
  rw [e]
  have hb : PB (2 ^ 30) (2 ^ 40) (pderiv ((pv p).take k)) := ((PB_take h.pv k).pderiv (by decide)).mono (by omega) (by omega)
  refine callx_by ((pnormx_ok ((pderiv ((pv p).take k)).map canon) (RP.canon (hb.mono (by omega) (by omega))))) (by first | rfl | (simp only [tocvs, tocv, toboxes, tobox, updH_at, Nat.reduceEqDiff, ↓reduceIte, hF]; rfl)) (by simp) (by first | rfl | assumption | (simp (disch := omega) only [wt, seval, reduceCtorEq, Nat.reduceEqDiff, lay_own, spl_own, cpoly_len, hF]; done) | ((repeat (replace hF := hF.2)); exact hF)) ?_
  rintro B' E _ hB hE ⟨b, bs, rfl, hl, hn⟩
  simp (disch := omega) only [wt, seval, reduceCtorEq, Nat.reduceEqDiff, lay_own, spl_own, cpoly_len, hF]
  refine opn_done [.iv (fpoly b bs _)] (by first | rfl | assumption) (by first | (simp (disch := omega) only [wt, seval, reduceCtorEq, Nat.reduceEqDiff, lay_own, spl_own, cpoly_len]; done) | (simp (disch := omega) only [wt, seval, reduceCtorEq, Nat.reduceEqDiff, lay_own, spl_own, cpoly_len]; rfl) | rfl) ?_
  intro E hE
  exact ⟨b, bs, rfl, hl, hn.mono (by omega) (by omega)⟩
end Go.Proofs.YtdokaihemcnkmaaGreat

namespace Go.Proofs.YtdokaihemcnkmaaGreat
open Go Go.Proofs Go.AL
set_option linter.unusedSimpArgs false
set_option linter.unusedVariables false
def RPolyE (q : List Int) (e : Int) (B E : Nat) (res : List CV) : Prop := ∃ b bs, res = [.iv (fpoly b bs q), ci e] ∧ bs.length = q.length ∧ Nw B E (oid b ++ ids bs)
theorem ne_polye (q : List Int) (e : Int) (B : Nat) : ∃ E res, B ≤ E ∧ RPolyE q e B E res := ⟨B, _, Nat.le_refl _, none, List.replicate q.length none, rfl, by simp, by rw [ids_nones]; exact .nil _ _⟩
set_option maxRecDepth 4000 in
theorem pmulx_ok (a b : List RI) (ha : RP (2 ^ 30) (2 ^ 35) a) (hb : RP (2 ^ 30) (2 ^ 35) b) : ACX Tryz.prog 88 [cw a, cw b] (RPoly (trimz (pmul (pv a) (pv b)))) := by
 refine ACX.by_walk zi0 (rs := [.tmp 4]) ords Tryz.func88 (by rfl) (by rfl) (by rfl) (by rfl) (by rfl) (ne_poly _) (fun B0 => ?_)
 have pa := ha.pv.trimz
 have pb := hb.pv.trimz
 have e0 : trimz (pmul (pv a) (pv b)) = trimz (pmul (trimz (pv a)) (trimz (pv b))) := by
  refine trimz_ext fun k => ?_
  rw [cf_pmul, cf_pmul, cv_cf_congr (fun j => (cf_trimz (pv a) j).symm), cv_congr _ k (fun j => (cf_trimz (pv b) j).symm)]
 rw [e0]
 simp (disch := omega) only [wt, seval, reduceCtorEq, Nat.reduceEqDiff, lay_own, spl_own]
 refine call_by ((pnorm_ok a (ha.mono (by omega) (by omega)))) (by rfl) (by simp) ?_
 simp (disch := omega) only [wt, seval, reduceCtorEq, Nat.reduceEqDiff, lay_own, spl_own]
 refine call_by ((pnorm_ok b (hb.mono (by omega) (by omega)))) (by rfl) (by simp) ?_
 simp (disch := omega) only [wt, seval, reduceCtorEq, Nat.reduceEqDiff, lay_own, spl_own]
 unfold cpoly
 generalize trimz (pv a) = A at *
 generalize trimz (pv b) = B at *
 have hA := pa.1
 have hB := pb.1
 have hAl : (A.map canon).length = A.length := by simp
 have hBl : (B.map canon).length = B.length := by simp
 simp (disch := omega) only [wt, seval, reduceCtorEq, Nat.reduceEqDiff, lay_own, spl_own, hAl, hBl]
 by_cases hza : (A.length : Int) = 0
 ·have hA0 : A = [] := by rw [← List.length_eq_zero_iff]; omega
  subst hA0
  simp (disch := omega) only [wt, seval, reduceCtorEq, Nat.reduceEqDiff, lay_own, spl_own, hza, hBl]
  have : trimz (pmul [] B) = [] := by rw [← List.length_eq_zero_iff, trimz_len, tz_zero_iff]; intro k; rw [cf_pmul]; rfl
  rw [this]
  refine opn_nils 4 27 2 (by rfl) ?_
  refine opn_done [.iv (fpoly none [] [])] (by first | rfl | assumption) (by first | (simp (disch := omega) only [wt, seval, reduceCtorEq, Nat.reduceEqDiff, lay_own, spl_own]; done) | (simp (disch := omega) only [wt, seval, reduceCtorEq, Nat.reduceEqDiff, lay_own, spl_own]; rfl) | rfl) ?_
  intro E hE
  exact ⟨none, [], rfl, rfl, .nil _ _⟩
 simp (disch := omega) only [wt, seval, reduceCtorEq, Nat.reduceEqDiff, lay_own, spl_own, hza, hAl, hBl]
 refine if_by (fun hzb => ?_) (fun hzb => ?_)
 ·have hB0 : B = [] := by rw [← List.length_eq_zero_iff]; omega
  subst hB0
  simp (disch := omega) only [wt, seval, reduceCtorEq, Nat.reduceEqDiff, lay_own, spl_own, hza, hAl]
  have : trimz (pmul A []) = [] := by
   rw [← List.length_eq_zero_iff, trimz_len, tz_zero_iff]; intro k; rw [cf_pmul, cv_none]
  rw [this]
  refine opn_nils 4 27 2 (by rfl) ?_
  refine opn_done [.iv (fpoly none [] [])] (by first | rfl | assumption) (by first | (simp (disch := omega) only [wt, seval, reduceCtorEq, Nat.reduceEqDiff, lay_own, spl_own]; done) | (simp (disch := omega) only [wt, seval, reduceCtorEq, Nat.reduceEqDiff, lay_own, spl_own]; rfl) | rfl) ?_
  intro E hE
  exact ⟨none, [], rfl, rfl, .nil _ _⟩
 simp (disch := omega) only [wt, seval, reduceCtorEq, Nat.reduceEqDiff, lay_own, spl_own, hAl, hBl]
 have eN : (A.length : Int) + (B.length : Int) - 1 = ((A.length + B.length - 1 : Nat) : Int) := by omega
 rw [eN]
 simp (disch := omega) only [wt, seval, reduceCtorEq, Nat.reduceEqDiff, lay_own, spl_own, hAl, hBl]
 generalize hN : A.length + B.length - 1 = N at *
 refine aloop_by (fun f H => ∃ (i st : Nat) (out : List Int), i ≤ A.length ∧ out.length = N ∧ (∀ k, cf out k = cv (A.take i) (cf B) k) ∧
  f 0 = .iv (.sl (raws (A.map canon))) ∧ f 1 = .iv (.sl (raws (B.map canon))) ∧ f 5 = .hs 26 st ∧ f 28 = .iv (.int .i64 A.length) ∧ f 29 = .iv (.int .i64 i) ∧ H 26 = .blk false st 27 2 (raws (out.map canon)) ∧ H 999 = .mrk B0) (fun f H => (A.length - intAt f 29).toNat) ?_ ?_
 ·exact ⟨0, 1, List.replicate N 0, by omega, by simp, fun k => by rw [cf_rep]; rfl, by simp (disch := omega) only [wt, seval, reduceCtorEq, Nat.reduceEqDiff, lay_own, spl_own], by simp (disch := omega) only [wt, seval, reduceCtorEq, Nat.reduceEqDiff, lay_own, spl_own], by simp (disch := omega) only [wt, seval, reduceCtorEq, Nat.reduceEqDiff, lay_own, spl_own], by simp (disch := omega) only [wt, seval, reduceCtorEq, Nat.reduceEqDiff, lay_own, spl_own, hAl], by simp (disch := omega) only [wt, seval, reduceCtorEq, Nat.reduceEqDiff, lay_own, spl_own], by simp (disch := omega) only [wt, seval, reduceCtorEq, Nat.reduceEqDiff, lay_own, spl_own, Int.toNat_natCast, rep_canon], by simp (disch := omega) only [wt, seval, reduceCtorEq, Nat.reduceEqDiff, lay_own, spl_own]⟩
 rintro f H ⟨i, st, out, hi, hol, hv, h0, h1, h5, h28, h29, hH, h9⟩
 rw [intAt_of h29]
 simp (disch := omega) only [wt, seval, reduceCtorEq, Nat.reduceEqDiff, lay_own, spl_own, h0, h1, h5, h28, h29, hH, hAl, hBl, h9]
 refine if_by (fun hlt => ?_) (fun hlt => ?_)
 ·simp (disch := omega) only [wt, seval, reduceCtorEq, Nat.reduceEqDiff, lay_own, spl_own, h0, h1, h5, h28, h29, hH, hAl, hBl, h9]
  refine aloop_by (fun f H => ∃ (j st : Nat) (out : List Int), j ≤ B.length ∧ out.length = N ∧ (∀ k, cf out k = cv (A.take i) (cf B) k + (if i ≤ k ∧ k < i + j then cf A i * cf B (k - i) else 0)) ∧
   f 0 = .iv (.sl (raws (A.map canon))) ∧ f 1 = .iv (.sl (raws (B.map canon))) ∧ f 5 = .hs 26 st ∧ f 6 = .iv (.int .i64 i) ∧ f 28 = .iv (.int .i64 A.length) ∧ f 29 = .iv (.int .i64 i) ∧ f 33 = .iv (.int .i64 B.length) ∧ f 34 = .iv (.int .i64 j) ∧ H 26 = .blk false st 27 2 (raws (out.map canon)) ∧ H 999 = .mrk B0) (fun f H => (B.length - intAt f 34).toNat) ?_ ?_
  ·refine ⟨0, st, out, by omega, hol, fun k => ?_, by simp (disch := omega) only [wt, seval, reduceCtorEq, Nat.reduceEqDiff, lay_own, spl_own, h0], by simp (disch := omega) only [wt, seval, reduceCtorEq, Nat.reduceEqDiff, lay_own, spl_own, h1], by simp (disch := omega) only [wt, seval, reduceCtorEq, Nat.reduceEqDiff, lay_own, spl_own, h5], by simp (disch := omega) only [wt, seval, reduceCtorEq, Nat.reduceEqDiff, lay_own, spl_own], by simp (disch := omega) only [wt, seval, reduceCtorEq, Nat.reduceEqDiff, lay_own, spl_own, h28], by simp (disch := omega) only [wt, seval, reduceCtorEq, Nat.reduceEqDiff, lay_own, spl_own, h29], by simp (disch := omega) only [wt, seval, reduceCtorEq, Nat.reduceEqDiff, lay_own, spl_own, hBl], by simp (disch := omega) only [wt, seval, reduceCtorEq, Nat.reduceEqDiff, lay_own, spl_own], by simp (disch := omega) only [wt, seval, reduceCtorEq, Nat.reduceEqDiff, lay_own, spl_own, hH], by first | exact h9 | simp (disch := omega) only [wt, seval, reduceCtorEq, Nat.reduceEqDiff, lay_own, spl_own, h9]⟩
   rw [hv k, if_neg (by omega), Int.add_zero]
  clear h0 h1 h5 h28 h29 hH hv hol h9
  clear out st f H
  rintro f H ⟨j, st, out, hj, hol, hv, h0, h1, h5, h6, h28, h29, h33, h34, hH, h9⟩
  rw [intAt_of h34]
  simp (disch := omega) only [wt, seval, reduceCtorEq, Nat.reduceEqDiff, lay_own, spl_own, h0, h1, h5, h6, h28, h29, h33, h34, hH, h9]
  refine if_by (fun hlj => ?_) (fun hlj => ?_)
  ·have hq : (out.map canon).length = N := by rw [List.length_map, hol]
   have eij : (i : Int) + (j : Int) = ((i + j : Nat) : Int) := by omega
   simp (disch := omega) only [wt, seval, reduceCtorEq, Nat.reduceEqDiff, lay_own, spl_own, h0, h1, h5, h6, h28, h29, h33, h34, hH, hq, hAl, hBl, h9]
   rw [eij]
   simp (disch := omega) only [wt, seval, reduceCtorEq, Nat.reduceEqDiff, lay_own, spl_own, h0, h1, h5, h6, h28, h29, h33, h34, hH, hq, hAl, hBl, h9]
   refine .inl ⟨tmps_by (by kernel_rfl), ?_⟩
   have hAi := pa.cf i
   have hBj := pb.cf j
   have hprod := zl_mul (cf A i) (cf B j)
   have hold : cf out (i + j) = cv (A.take i) (cf B) (i + j) := by rw [hv, if_neg (by omega), Int.add_zero]
   have hzo : zl (cf out (i + j)) ≤ 2 ^ 35 + 2 ^ 35 + 1 := by rw [hold]; exact zl_cv (PB_take pa i) pb (by decide) _
   have m := zmul_ok (canon (cf A i)) (canon (cf B j)) ((sz_canon _).mono (by omega)) ((sz_canon _).mono (by omega))
   rw [iv_canon, iv_canon] at m
   refine call_by (m) (by first | rfl | (simp only [tocvs, tocv, toboxes, tobox, updH_at, Nat.reduceEqDiff, ↓reduceIte, h0, h1, h5, h6, h28, h29, h33, h34, hH, hq, hAl, hBl, h9]; rfl)) (by simp) ?_
   simp (disch := omega) only [wt, seval, reduceCtorEq, Nat.reduceEqDiff, lay_own, spl_own, h0, h1, h5, h6, h28, h29, h33, h34, hH, hq, hAl, hBl, h9]
   have s := zadd_ok (canon (cf out (i + j))) (canon (cf A i * cf B j)) ((sz_canon _).mono (by omega)) ((sz_canon _).mono (by omega))
   rw [iv_canon, iv_canon] at s
   refine call_by (s) (by first | rfl | (simp only [tocvs, tocv, toboxes, tobox, updH_at, Nat.reduceEqDiff, ↓reduceIte, h0, h1, h5, h6, h28, h29, h33, h34, hH, hq, hAl, hBl, h9]; rfl)) (by simp) ?_
   simp (disch := omega) only [wt, seval, reduceCtorEq, Nat.reduceEqDiff, lay_own, spl_own, h0, h1, h5, h6, h28, h29, h33, h34, hH, hq, hAl, hBl, h9]
   first | exact log_by (by kernel_rfl) | refine ⟨log_by (by kernel_rfl), ?_⟩
   refine ⟨⟨j + 1, st, out.set (i + j) (cf out (i + j) + cf A i * cf B j), by omega, by simp [hol], fun k => ?_, rfl, by omega, rfl⟩, by omega⟩
   rw [cf_set (by omega)]
   by_cases e : k = i + j
   ·subst e
    rw [if_pos rfl, if_pos ⟨by omega, by omega⟩, hold, Nat.add_sub_cancel_left]
   ·rw [if_neg e, hv k]
    by_cases hk : i ≤ k ∧ k < i + j
    ·rw [if_pos hk, if_pos ⟨hk.1, by omega⟩]
    ·rw [if_neg hk, if_neg (by omega)]
  ·simp (disch := omega) only [wt, seval, reduceCtorEq, Nat.reduceEqDiff, lay_own, spl_own, h0, h1, h5, h6, h28, h29, h33, h34, hH, hAl, hBl, h9]
   refine ⟨⟨i + 1, st, out, by omega, hol, fun k => ?_, rfl, by omega, rfl⟩, by omega⟩
   rw [hv k, cv_take_succ]
   congr 1
   by_cases hk : i ≤ k
   ·rw [if_pos hk]
    by_cases hk2 : k < i + j
    ·rw [if_pos ⟨hk, hk2⟩]
    ·rw [if_neg (by omega), cf_ge (q := B) (by omega), Int.mul_zero]
   ·rw [if_neg hk, if_neg (by omega)]
 ·simp (disch := omega) only [wt, seval, reduceCtorEq, Nat.reduceEqDiff, lay_own, spl_own, h0, h1, h5, h28, h29, hH, hAl, hBl, h9]
  have hiA : i = A.length := by omega
  have e : trimz (pmul A B) = trimz (pv (out.map canon)) := by
   refine trimz_ext fun k => ?_
   rw [pv_canon, hv, cf_pmul, hiA, List.take_length]
  unfold cpoly at e
  rw [e]
  refine callx_by ((pnormx_ok (out.map canon) (RP.canon (.of (by omega) fun k => by rw [hv]; exact Nat.le_trans (zl_cv (PB_take pa i) pb (by decide) k) (by omega))))) (by first | rfl | (simp only [tocvs, tocv, toboxes, tobox, updH_at, Nat.reduceEqDiff, ↓reduceIte, h0, h1, h5, h28, h29, hH, hAl, hBl, h9]; rfl)) (by simp) (by first | rfl | assumption | (simp (disch := omega) only [wt, seval, reduceCtorEq, Nat.reduceEqDiff, lay_own, spl_own, h0, h1, h5, h28, h29, hH, hAl, hBl, h9]; done) | ((repeat (replace hF := hF.2)); exact hF)) ?_
  rintro B' E _ hB0 hE ⟨b, bs, rfl, hl, hn⟩
  simp (disch := omega) only [wt, seval, reduceCtorEq, Nat.reduceEqDiff, lay_own, spl_own, h0, h1, h5, h28, h29, hH, hAl, hBl, h9]
  refine opn_done [.iv (fpoly b bs _)] (by first | rfl | assumption) (by first | (simp (disch := omega) only [wt, seval, reduceCtorEq, Nat.reduceEqDiff, lay_own, spl_own]; done) | (simp (disch := omega) only [wt, seval, reduceCtorEq, Nat.reduceEqDiff, lay_own, spl_own]; rfl) | rfl) ?_
  intro E hE
  exact ⟨b, bs, rfl, hl, hn.mono (by omega) (by omega)⟩
set_option maxRecDepth 4000 in
theorem poverx_ok (p : List RI) (c : RI) (hp : RP (2 ^ 30) (2 ^ 35) p) (hc : Sz (2 ^ 35) c) (h0 : iv c ≠ 0) (hd : ∀ k, iv c ∣ cf (pv p) k) : ACX Tryz.prog 110 [cw p, cr c] (RPolyE (trimz (pdivs (iv c) (pv p))) 0) := by
 refine ACX.by_walk zi0 (rs := [.tmp 4, .tmp 5]) ords Tryz.func110 (by rfl) (by rfl) (by rfl) (by rfl) (by rfl) (ne_polye _ _) (fun B => ?_)
 have hl := hp.1
 have hs0 : (iv c).sign ≠ 0 := fun h => h0 (Int.sign_eq_zero_iff_zero.mp h)
 simp (disch := omega) only [wt, seval, reduceCtorEq, Nat.reduceEqDiff, lay_own, spl_own]
 refine call_by ((zsign_ok c (hc.mono (by omega)))) (by rfl) (by simp) ?_
 simp (disch := omega) only [wt, seval, reduceCtorEq, Nat.reduceEqDiff, lay_own, spl_own]
 simp (disch := omega) only [wt, seval, reduceCtorEq, Nat.reduceEqDiff, lay_own, spl_own, hs0]
 refine aloop_by (fun f H => ∃ (i st st3 : Nat) (out : List Int), i ≤ p.length ∧ out.length = p.length ∧ (∀ k, zl (cf out k) ≤ 2 ^ 36) ∧ (∀ k, k < i → cf out k = cf (pv p) k / iv c) ∧ f 18 = .iv (.int .i64 i) ∧ f 0 = .iv (.sl (raws p)) ∧ f 3 = .hp 3 st3 0 0 ∧ f 6 = .hs 15 st ∧ f 17 = .iv (.int .i64 p.length) ∧ H 15 = .blk false st 27 2 (raws (out.map canon)) ∧ H 3 = .blk false st3 27 2 [prow c] ∧ H 999 = .mrk B) (fun f H => (p.length - intAt f 18).toNat) ?_ ?_
 ·refine ⟨0, 1, 1, List.replicate p.length 0, by omega, by simp, fun k => by rw [cf_rep, zl_zero]; omega, fun k hk => by omega, ?_⟩
  simp (disch := omega) only [wt, seval, reduceCtorEq, Nat.reduceEqDiff, lay_own, spl_own, Int.toNat_natCast, rep_canon]
 rintro f H ⟨i, st, st3, out, hi, hol, hz, hv, hF⟩
 rw [intAt_of hF.1]
 simp (disch := omega) only [wt, seval, reduceCtorEq, Nat.reduceEqDiff, lay_own, spl_own, hF]
 refine if_by (fun hlt => ?_) (fun hlt => ?_)
 ·have hq : (out.map canon).length = p.length := by rw [List.length_map, hol]
  have hdi := hd i
  rw [cf_pv] at hdi
  have m := zexact_ok (p.getD i (false, [])) c ((hp.get i).mono (by omega)) (hc.mono (by omega)) h0 hdi
  rw [← cf_pv] at m
  simp (disch := omega) only [wt, seval, reduceCtorEq, Nat.reduceEqDiff, lay_own, spl_own, hF, hq]
  refine .inl ⟨tmps_by (by kernel_rfl), ?_⟩
  refine call_by (m) (by first | rfl | (simp only [tocvs, tocv, toboxes, tobox, updH_at, Nat.reduceEqDiff, ↓reduceIte, hF, hq]; rfl)) (by simp) ?_
  simp (disch := omega) only [wt, seval, reduceCtorEq, Nat.reduceEqDiff, lay_own, spl_own, hF, hq]
  first | exact log_by (by kernel_rfl) | refine ⟨log_by (by kernel_rfl), ?_⟩
  refine ⟨⟨i + 1, st, st3, out.set i (cf (pv p) i / iv c), by omega, by simp [hol], fun k => ?_, fun k hk => ?_, by omega, rfl, rfl, rfl, rfl⟩, by omega⟩
  ·rw [cf_set (by omega)]
   split
   ·have := zl_div (hd i)
    have := hp.pv.cf i
    omega
   ·exact hz k
  ·rw [cf_set (by omega)]
   split
   ·rename_i e; rw [e]
   ·exact hv k (by omega)
 ·simp (disch := omega) only [wt, seval, reduceCtorEq, Nat.reduceEqDiff, lay_own, spl_own, hF]
  have e : trimz (pdivs (iv c) (pv p)) = trimz (pv (out.map canon)) := by
   refine trimz_ext fun k => ?_
   rw [pv_canon, cf_pdivs]
   by_cases hk : k < p.length
   ·exact (hv k (by omega)).symm
   ·rw [cf_ge (q := out) (by omega), cf_ge (by rw [pv_len]; omega)]; simp
  rw [e]
  refine callx_by ((pnormx_ok (out.map canon) (RP.canon (.of (by omega) fun k => Nat.le_trans (hz k) (by omega))))) (by first | rfl | (simp only [tocvs, tocv, toboxes, tobox, updH_at, Nat.reduceEqDiff, ↓reduceIte, hF]; rfl)) (by simp) (by first | rfl | assumption | (simp (disch := omega) only [wt, seval, reduceCtorEq, Nat.reduceEqDiff, lay_own, spl_own, hF]; done) | ((repeat (replace hF := hF.2)); exact hF)) ?_
  rintro B' E _ hB hE ⟨b, bs, rfl, hlb, hn⟩
  simp (disch := omega) only [wt, seval, reduceCtorEq, Nat.reduceEqDiff, lay_own, spl_own, hF]
  refine opn_done [.iv (fpoly b bs _), ci 0] (by first | rfl | assumption) (by first | (simp (disch := omega) only [wt, seval, reduceCtorEq, Nat.reduceEqDiff, lay_own, spl_own]; done) | (simp (disch := omega) only [wt, seval, reduceCtorEq, Nat.reduceEqDiff, lay_own, spl_own]; rfl) | rfl) ?_
  intro E hE
  exact ⟨b, bs, rfl, hlb, hn.mono (by omega) (by omega)⟩
theorem pnegx_ok (p : List RI) (hp : RP (2 ^ 30) (2 ^ 35) p) : ACX Tryz.prog 115 [cw p] (RPoly (trimz (pscale (-1) (pv p)))) := by
 refine ACX.by_walk zi0 (rs := [.tmp 2]) ords Tryz.func115 (by rfl) (by rfl) (by rfl) (by rfl) (by rfl) (ne_poly _) (fun B => ?_)
 simp (disch := omega) only [wt, seval, reduceCtorEq, Nat.reduceEqDiff, lay_own, spl_own]
 refine call_by ((zOf_ok (-1) (by omega) (by omega))) (by rfl) (by simp) ?_
 simp (disch := omega) only [wt, seval, reduceCtorEq, Nat.reduceEqDiff, lay_own, spl_own]
 have := pscalex_ok p (canon (-1)) hp ((sz_canon (-1)).mono (by have : zl (-1) ≤ 1 := zl_le.mpr (by decide); omega))
 rw [iv_canon] at this
 refine callx_by (this) (by rfl) (by simp) (by first | rfl | assumption | (simp (disch := omega) only [wt, seval, reduceCtorEq, Nat.reduceEqDiff, lay_own, spl_own]; done) | ((repeat (replace hF := hF.2)); exact hF)) ?_
 rintro B' E _ hB hE ⟨b, bs, rfl, hl, hn⟩
 simp (disch := omega) only [wt, seval, reduceCtorEq, Nat.reduceEqDiff, lay_own, spl_own]
 refine opn_done [.iv (fpoly b bs _)] (by first | rfl | assumption) (by first | (simp (disch := omega) only [wt, seval, reduceCtorEq, Nat.reduceEqDiff, lay_own, spl_own]; done) | (simp (disch := omega) only [wt, seval, reduceCtorEq, Nat.reduceEqDiff, lay_own, spl_own]; rfl) | rfl) ?_
 intro E hE
 exact ⟨b, bs, rfl, hl, hn.mono (by omega) (by omega)⟩
theorem psubx_ok (a b : List RI) (ha : RP (2 ^ 30) (2 ^ 36) a) (hb : RP (2 ^ 30) (2 ^ 35) b) : ACX Tryz.prog 114 [cw a, cw b] (RPoly (trimz (padd (pv a) (pscale (-1) (pv b))))) := by
 refine ACX.by_walk zi0 (rs := [.tmp 4]) ords Tryz.func114 (by rfl) (by rfl) (by rfl) (by rfl) (by rfl) (ne_poly _) (fun B => ?_)
 simp (disch := omega) only [wt, seval, reduceCtorEq, Nat.reduceEqDiff, lay_own, spl_own]
 refine call_by ((pneg_ok b hb)) (by rfl) (by simp) ?_
 simp (disch := omega) only [wt, seval, reduceCtorEq, Nat.reduceEqDiff, lay_own, spl_own]
 have h1 : zl (-1) ≤ 1 := zl_le.mpr (by decide)
 have := paddx_ok a ((trimz (pscale (-1) (pv b))).map canon) ha (RP.canon (hb.pv.pscale.trimz.mono (by omega) (by omega)))
 have e : trimz (padd (pv a) (pv ((trimz (pscale (-1) (pv b))).map canon))) = trimz (padd (pv a) (pscale (-1) (pv b))) := by
  refine trimz_ext fun k => ?_
  rw [pv_canon, cf_padd, cf_padd, cf_trimz]
 rw [e] at this
 refine callx_by (this) (by rfl) (by simp) (by first | rfl | assumption | (simp (disch := omega) only [wt, seval, reduceCtorEq, Nat.reduceEqDiff, lay_own, spl_own]; done) | ((repeat (replace hF := hF.2)); exact hF)) ?_
 rintro B' E _ hB hE ⟨b, bs, rfl, hl, hn⟩
 simp (disch := omega) only [wt, seval, reduceCtorEq, Nat.reduceEqDiff, lay_own, spl_own]
 refine opn_done [.iv (fpoly b bs _)] (by first | rfl | assumption) (by first | (simp (disch := omega) only [wt, seval, reduceCtorEq, Nat.reduceEqDiff, lay_own, spl_own]; done) | (simp (disch := omega) only [wt, seval, reduceCtorEq, Nat.reduceEqDiff, lay_own, spl_own]; rfl) | rfl) ?_
 intro E hE
 exact ⟨b, bs, rfl, hl, hn.mono (by omega) (by omega)⟩
end Go.Proofs.YtdokaihemcnkmaaGreat

namespace Go.Proofs.YtdokaihemcnkmaaGreat
open Go Go.Proofs Go.AL
set_option linter.unusedSimpArgs false
set_option linter.unusedVariables false
theorem smul_ok (a b : List RI) (ha : RP (2 ^ 30) (2 ^ 35) a) (hb : RP (2 ^ 30) (2 ^ 35) b) : AC Tryz.prog 99 [cw a, cw b] none [cp (pmul (pv a) (pv b))] := by
 refine AC.by_walk (rs := [.tmp 4]) ords Tryz.func99 (by rfl) (by rfl) (by rfl) (by rfl) (by rfl) ?_
 have pa := ha.pv.trimz
 have pb := hb.pv.trimz
 have e0 : cp (pmul (pv a) (pv b)) = cp (pmul (trimz (pv a)) (trimz (pv b))) := cp_ps (by rw [ps_pmul, ps_pmul, ps_trimz, ps_trimz])
 rw [e0]
 simp (disch := omega) only [wt, seval, reduceCtorEq, Nat.reduceEqDiff]
 refine call_by ((snorm_ok a (ha.mono (by omega) (by omega)))) (by rfl) (by simp) ?_
 simp (disch := omega) only [wt, seval, reduceCtorEq, Nat.reduceEqDiff]
 refine call_by ((snorm_ok b (hb.mono (by omega) (by omega)))) (by rfl) (by simp) ?_
 simp (disch := omega) only [wt, seval, reduceCtorEq, Nat.reduceEqDiff]
 unfold cpoly
 generalize trimz (pv a) = A at *
 generalize trimz (pv b) = B at *
 have hA := pa.1
 have hB := pb.1
 have hAl : (A.map canon).length = A.length := by simp
 have hBl : (B.map canon).length = B.length := by simp
 simp (disch := omega) only [wt, seval, reduceCtorEq, Nat.reduceEqDiff, hAl, hBl]
 by_cases hza : (A.length : Int) = 0
 ·have hA0 : A = [] := by rw [← List.length_eq_zero_iff]; omega
  subst hA0
  simp (disch := omega) only [wt, seval, reduceCtorEq, Nat.reduceEqDiff, hza, hBl]
  have : trimz (pmul [] B) = [] := by rw [← List.length_eq_zero_iff, trimz_len, tz_zero_iff]; intro k; rw [cf_pmul]; rfl
  unfold cpoly; rw [this]; rfl
 by_cases hzb : (B.length : Int) = 0
 ·have hB0 : B = [] := by rw [← List.length_eq_zero_iff]; omega
  subst hB0
  simp (disch := omega) only [wt, seval, reduceCtorEq, Nat.reduceEqDiff, hza, hzb, hAl]
  have : trimz (pmul A []) = [] := by
   rw [← List.length_eq_zero_iff, trimz_len, tz_zero_iff]; intro k; rw [cf_pmul, cv_none]
  unfold cpoly; rw [this]; rfl
 simp (disch := omega) only [wt, seval, reduceCtorEq, Nat.reduceEqDiff, hza, hzb, hAl, hBl]
 have eN : (A.length : Int) + (B.length : Int) - 1 = ((A.length + B.length - 1 : Nat) : Int) := by omega
 rw [eN]
 simp (disch := omega) only [wt, seval, reduceCtorEq, Nat.reduceEqDiff, hAl, hBl]
 generalize hN : A.length + B.length - 1 = N at *
 refine aloop_by (fun f H => ∃ (i st : Nat) (out : List Int), i ≤ A.length ∧ out.length = N ∧ (∀ k, cf out k = cv (A.take i) (cf B) k) ∧ f 6 = .iv (.int .i64 i) ∧ f 0 = .iv (.sl (raws (A.map canon))) ∧ f 1 = .iv (.sl (raws (B.map canon))) ∧ f 5 = .hs 26 st ∧ H 26 = .blk false st 27 2 (raws (out.map canon))) (fun f H => (A.length - intAt f 6).toNat) ?_ ?_
 ·refine ⟨0, 1, List.replicate N 0, by omega, by simp, fun k => by rw [cf_rep]; rfl, ?_⟩
  simp (disch := omega) only [wt, seval, reduceCtorEq, Nat.reduceEqDiff, rep_canon, hAl]
 rintro f H ⟨i, st, out, hi, hol, hv, hF⟩
 rw [intAt_of hF.1]
 simp (disch := omega) only [wt, seval, reduceCtorEq, Nat.reduceEqDiff, hF]
 simp (disch := omega) only [wt, seval, reduceCtorEq, Nat.reduceEqDiff, hAl]
 refine if_by (fun hlt => ?_) (fun hlt => ?_)
 ·simp (disch := omega) only [wt, seval, reduceCtorEq, Nat.reduceEqDiff, hF, hAl, hBl]
  refine aloop_by (fun f H => ∃ (j st : Nat) (out : List Int), j ≤ B.length ∧ out.length = N ∧ (∀ k, cf out k = cv (A.take i) (cf B) k + (if i ≤ k ∧ k < i + j then cf A i * cf B (k - i) else 0)) ∧ f 7 = .iv (.int .i64 j) ∧ f 0 = .iv (.sl (raws (A.map canon))) ∧ f 1 = .iv (.sl (raws (B.map canon))) ∧ f 5 = .hs 26 st ∧ f 6 = .iv (.int .i64 i) ∧ H 26 = .blk false st 27 2 (raws (out.map canon))) (fun f H => (B.length - intAt f 7).toNat) ?_ ?_
  ·refine ⟨0, st, out, by omega, hol, fun k => by rw [hv k, if_neg (by omega), Int.add_zero], ?_⟩
   simp (disch := omega) only [wt, seval, reduceCtorEq, Nat.reduceEqDiff, hF]
  rintro f H ⟨j, st, out, hj, hol, hv, hF⟩
  rw [intAt_of hF.1]
  simp (disch := omega) only [wt, seval, reduceCtorEq, Nat.reduceEqDiff, hF]
  simp (disch := omega) only [wt, seval, reduceCtorEq, Nat.reduceEqDiff, hBl]
  refine if_by (fun hlj => ?_) (fun hlj => ?_)
  ·have hq : (out.map canon).length = N := by rw [List.length_map, hol]
   have eij : (i : Int) + (j : Int) = ((i + j : Nat) : Int) := by omega
   simp (disch := omega) only [wt, seval, reduceCtorEq, Nat.reduceEqDiff, hF, hq, hAl, hBl, eij]
   refine .inl ⟨tmps_by (by kernel_rfl), ?_⟩
   have hAi := pa.cf i
   have hBj := pb.cf j
   have hprod := zl_mul (cf A i) (cf B j)
   have hold : cf out (i + j) = cv (A.take i) (cf B) (i + j) := by rw [hv, if_neg (by omega), Int.add_zero]
   have hzo : zl (cf out (i + j)) ≤ 2 ^ 35 + 2 ^ 35 + 1 := by rw [hold]; exact zl_cv (PB_take pa i) pb (by decide) _
   have m := rMul_ok (canon (cf A i)) (canon (cf B j)) ((sz_canon _).mono (by omega)) ((sz_canon _).mono (by omega))
   rw [iv_canon, iv_canon] at m
   refine call_by (m) (by first | rfl | (simp only [tocvs, tocv, toboxes, tobox, updH_at, Nat.reduceEqDiff, ↓reduceIte, hF, hq, hAl, hBl]; rfl)) (by simp) ?_
   simp (disch := omega) only [wt, seval, reduceCtorEq, Nat.reduceEqDiff, hF, hq, hAl, hBl]
   have s := rAdd_ok (canon (cf out (i + j))) (canon (cf A i * cf B j)) ((sz_canon _).mono (by omega)) ((sz_canon _).mono (by omega))
   rw [iv_canon, iv_canon] at s
   refine call_by (s) (by first | rfl | (simp only [tocvs, tocv, toboxes, tobox, updH_at, Nat.reduceEqDiff, ↓reduceIte, hF, hq, hAl, hBl]; rfl)) (by simp) ?_
   simp (disch := omega) only [wt, seval, reduceCtorEq, Nat.reduceEqDiff, hF, hq, hAl, hBl]
   first | exact log_by (by kernel_rfl) | refine ⟨log_by (by kernel_rfl), ?_⟩
   refine ⟨⟨j + 1, st, out.set (i + j) (cf out (i + j) + cf A i * cf B j), by omega, by simp [hol], fun k => ?_, by omega, rfl, rfl⟩, by omega⟩
   rw [cf_set (by omega)]
   by_cases e : k = i + j
   ·subst e
    rw [if_pos rfl, if_pos ⟨by omega, by omega⟩, hold, Nat.add_sub_cancel_left]
   ·rw [if_neg e, hv k]
    by_cases hk : i ≤ k ∧ k < i + j
    ·rw [if_pos hk, if_pos ⟨hk.1, by omega⟩]
    ·rw [if_neg hk, if_neg (by omega)]
  ·simp (disch := omega) only [wt, seval, reduceCtorEq, Nat.reduceEqDiff, hF, hAl, hBl]
   refine ⟨⟨i + 1, st, out, by omega, hol, fun k => ?_, by omega, rfl, rfl⟩, by omega⟩
   rw [hv k, cv_take_succ]
   congr 1
   by_cases hk : i ≤ k
   ·rw [if_pos hk]
    by_cases hk2 : k < i + j
    ·rw [if_pos ⟨hk, hk2⟩]
    ·rw [if_neg (by omega), cf_ge (q := B) (by omega), Int.mul_zero]
   ·rw [if_neg hk, if_neg (by omega)]
 ·simp (disch := omega) only [wt, seval, reduceCtorEq, Nat.reduceEqDiff, hF, hAl, hBl]
  have hiA : i = A.length := by omega
  have e : cp (pmul A B) = cp (pv (out.map canon)) := by
   refine cp_ext fun k => ?_
   rw [pv_canon, hv, cf_pmul, hiA, List.take_length]
  unfold cpoly at e
  rw [e]
  refine call_by ((snorm_ok (out.map canon) (RP.canon (.of (by omega) fun k => by rw [hv]; exact Nat.le_trans (zl_cv (PB_take pa i) pb (by decide) k) (by omega))))) (by first | rfl | (simp only [tocvs, tocv, toboxes, tobox, updH_at, Nat.reduceEqDiff, ↓reduceIte, hF, hAl, hBl]; rfl)) (by simp) ?_
  simp (disch := omega) only [wt, seval, reduceCtorEq, Nat.reduceEqDiff, hF, hAl, hBl]
end Go.Proofs.YtdokaihemcnkmaaGreat

namespace Go.Proofs.YtdokaihemcnkmaaGreat
open Go Go.Proofs Go.AL
set_option linter.unusedSimpArgs false
set_option linter.unusedVariables false
def NP (n k : Nat) (l : List (List Nat)) : Prop := l.length ≤ n ∧ ∀ a ∈ l, Lim a ∧ a.length ≤ k
theorem NP.get {n k : Nat} {l : List (List Nat)} (h : NP n k l) (i : Nat) : Lim (l.getD i []) ∧ (l.getD i []).length ≤ k := by
 by_cases hi : i < l.length
 ·have e : l.getD i [] = l[i] := by simp [List.getD, hi]
  rw [e]; exact h.2 _ (List.getElem_mem hi)
 ·rw [List.getD_eq_getElem?_getD, List.getElem?_eq_none (by omega)]
  exact ⟨Lim.nil, by simp⟩
def nsum (l : List (List Nat)) : Nat := l.foldl (fun s a => s + nv a) 0
theorem nsum_take {l : List (List Nat)} {i : Nat} (h : i < l.length) : nsum (l.take (i + 1)) = nsum (l.take i) + nv (l.getD i []) := by
 have e : l.take (i + 1) = l.take i ++ [l.getD i []] := by
  rw [List.take_add_one]; congr 1; simp [List.getD, h]
 rw [e, nsum, List.foldl_append]; rfl
theorem nsum_len {n k : Nat} {l : List (List Nat)} (h : NP n k l) : ∀ i, i ≤ l.length → (wd (nsum (l.take i))).length ≤ k + i
 | 0, _ => by simp [nsum, wd_zero]
 | i + 1, hi => by
  have h1 := nsum_len h i (by omega)
  have e : l.getD i [] = l[i] := by simp [List.getD, show i < l.length by omega]
  obtain ⟨h2, h3⟩ := h.2 l[i] (List.getElem_mem (by omega))
  have h4 := nv_len h2
  rw [nsum_take (by omega), e]
  have := wd_add_len (nsum (l.take i)) (nv l[i])
  omega
theorem nsum_snd (p : List RI) : nsum (p.map (·.2)) = wgt (pv p) := by
 unfold nsum wgt pv
 rw [List.foldl_map, List.foldl_map]
 congr 1
 funext s c
 rw [iv_abs]
theorem wgt_len {n k : Nat} {p : List RI} (h : RP n k p) (i : Nat) (hi : i ≤ p.length) : (wd (wgt ((pv p).take i))).length ≤ k + i := by
 have := nsum_len (n := n) (k := k) (l := p.map (·.2)) ⟨by simpa using h.1, fun a ha => by
   obtain ⟨c, hc, rfl⟩ := List.mem_map.mp ha
   exact ⟨(h.2 c hc).2, (h.2 c hc).1⟩⟩ i (by simpa using hi)
 rw [← List.map_take, nsum_snd] at this
 rwa [show pv (p.take i) = (pv p).take i by simp [pv, List.map_take]] at this
theorem sweight_ok (p : List RI) (h : RP (2 ^ 30) (2 ^ 30) p) : AC Tryz.prog 107 [cw p] none [cl (wd (wgt (pv p)))] := by
 refine AC.by_walk (rs := [.tmp 2]) ords Tryz.func107 (by rfl) (by rfl) (by rfl) (by rfl) (by rfl) ?_
 have hl := h.1
 simp (disch := omega) only [wt, seval, reduceCtorEq, Nat.reduceEqDiff, cpoly_len, natsr_len, natsr_at, natsr_snoc, natsr_app, natsr_rows, natsr_nil, List.drop_succ_cons, List.take_succ_cons, List.take_zero]
 refine aloop_w (.nilv 3 (by simp (disch := omega) only [wt, seval, reduceCtorEq, Nat.reduceEqDiff, cpoly_len, natsr_len, natsr_at, natsr_snoc, natsr_app, natsr_rows, natsr_nil, List.drop_succ_cons, List.take_succ_cons, List.take_zero]) (.refl _ _)) (fun f H => ∃ (i : Nat), i ≤ p.length ∧ f 4 = .iv (.int .i64 i) ∧ f 0 = .iv (.sl (raws p)) ∧ f 3 = .iv (.sl (lims (wd (wgt ((pv p).take i)))))) (fun f H => (p.length - intAt f 4).toNat) ?_ ?_
 ·refine ⟨0, by omega, ?_⟩
  simp (disch := omega) only [wt, seval, reduceCtorEq, Nat.reduceEqDiff, cpoly_len, natsr_len, natsr_at, natsr_snoc, natsr_app, natsr_rows, natsr_nil, List.drop_succ_cons, List.take_succ_cons, List.take_zero, List.take_zero, wgt, List.foldl_nil, wd_zero]
 rintro f H ⟨i, hi, hF⟩
 rw [intAt_of hF.1]
 simp (disch := omega) only [wt, seval, reduceCtorEq, Nat.reduceEqDiff, cpoly_len, natsr_len, natsr_at, natsr_snoc, natsr_app, natsr_rows, natsr_nil, List.drop_succ_cons, List.take_succ_cons, List.take_zero, hF]
 have hs := wgt_len h i hi
 refine if_by (fun hlt => ?_) (fun hlt => ?_)
 ·have hc := h.get i
  have hcl := hc.1
  have m := rPlus_ok (wd (wgt ((pv p).take i))) (p.getD i (false, [])).2 (lim_wd _) hc.2 (by omega) (by omega)
  rw [nv_wd, ← iv_abs, ← cf_pv, ← wgt_take (by rw [pv_len]; omega)] at m
  simp (disch := omega) only [wt, seval, reduceCtorEq, Nat.reduceEqDiff, cpoly_len, natsr_len, natsr_at, natsr_snoc, natsr_app, natsr_rows, natsr_nil, List.drop_succ_cons, List.take_succ_cons, List.take_zero, hF]
  refine call_by (m) (by first | rfl | (simp only [tocvs, tocv, toboxes, tobox, updH_at, Nat.reduceEqDiff, ↓reduceIte, hF]; rfl)) (by simp) ?_
  simp (disch := omega) only [wt, seval, reduceCtorEq, Nat.reduceEqDiff, cpoly_len, natsr_len, natsr_at, natsr_snoc, natsr_app, natsr_rows, natsr_nil, List.drop_succ_cons, List.take_succ_cons, List.take_zero, hF]
  exact ⟨⟨i + 1, by omega, by omega, rfl⟩, by omega⟩
 ·simp (disch := omega) only [wt, seval, reduceCtorEq, Nat.reduceEqDiff, cpoly_len, natsr_len, natsr_at, natsr_snoc, natsr_app, natsr_rows, natsr_nil, List.drop_succ_cons, List.take_succ_cons, List.take_zero, hF]
  rw [List.take_of_length_le (by rw [pv_len]; omega)]
theorem hgt_len {n k : Nat} {p : List RI} (h : RP n k p) : ∀ i, i ≤ p.length → (wd (hgt ((pv p).take i))).length ≤ k
 | 0, _ => by simp [hgt, wd_zero]
 | i + 1, hi => by
  have h1 := hgt_len h i (by omega)
  have h2 := h.get i
  have h3 := nv_len h2.2
  have h4 := h2.1
  rw [hgt_take (by rw [pv_len]; omega), cf_pv, iv_abs]
  rcases Nat.le_total (hgt ((pv p).take i)) (nv (p.getD i (false, [])).2) with h | h
  ·rw [Nat.max_eq_right h]; omega
  ·rw [Nat.max_eq_left h]; omega
end Go.Proofs.YtdokaihemcnkmaaGreat

namespace Go.Proofs.YtdokaihemcnkmaaGreat
open Go Go.Proofs Go.AL
set_option linter.unusedSimpArgs false
set_option linter.unusedVariables false
theorem frep (n : Nat) : List.replicate n [.bool false, .own none 144 1 []] = frows (List.replicate n none) (List.replicate n 0) := by
 rw [frows, List.zipWith_replicate, Nat.min_self]
 unfold fint; rw [canon_zero]; rfl
theorem frows_app {bs cs : List OB} {q r : List Int} (h : bs.length = q.length) : frows bs q ++ frows cs r = frows (bs ++ cs) (q ++ r) := by
 rw [frows, frows, frows, List.zipWith_append h]
theorem ids_app (bs cs : List OB) : ids (bs ++ cs) = ids bs ++ ids cs := by simp [ids]
theorem nw_open {B E : Nat} {f : AL.Fr} {rows : List (List IV)} {b : OB} {l : List Nat} (hb : OpenOk B E f rows b) (hr : idsRows rows = l) (hl : Nw B E l) : Nw B E (oid b ++ l) := by
 cases b with
 | none => exact hl
 | some g =>
  have := hb.2 g.1 g.2 rfl
  rw [hr] at this
  exact hl.cons this.2.2.1 this.1 this.2.1
set_option maxRecDepth 4000 in
theorem pupx_ok (p : List RI) (n : Nat) (hn : n ≤ 1000) (hp : RP (2 ^ 35) (2 ^ 40) p) : ACX Tryz.prog 108 [cw p, ci n] (RPolyE (trimz (pshift n (pv p))) 0) := by
 refine ACX.by_walk ziX (rs := [.tmp 4, .tmp 5]) ords Tryz.func108 (by rfl) (by rfl) (by rfl) (by rfl) (by rfl) (ne_polye _ _) (fun B => ?_)
 have hl := hp.1
 have htl := tz_le (pv p)
 rw [pv_len] at htl
 simp (disch := omega) only [wt, seval, reduceCtorEq, Nat.reduceEqDiff, lay_own, spl_own, frows_two]
 refine call_by ((pbound_ok n)) (by rfl) (by simp) ?_
 simp (disch := omega) only [wt, seval, reduceCtorEq, Nat.reduceEqDiff, lay_own, spl_own, frows_two]
 have h1 : ¬ ((n : Int) < 0) := by omega
 have h2 : ¬ (1000 < (n : Int)) := by omega
 simp (disch := omega) only [wt, seval, reduceCtorEq, Nat.reduceEqDiff, lay_own, spl_own, frows_two, h1, h2]
 refine callx_by ((pnormx_ok p (hp.mono (by omega) (by omega)))) (by first | rfl | (simp only [tocvs, tocv, toboxes, tobox, updH_at, Nat.reduceEqDiff, ↓reduceIte, h1, h2]; rfl)) (by simp) (by first | rfl | assumption | (simp (disch := omega) only [wt, seval, reduceCtorEq, Nat.reduceEqDiff, lay_own, spl_own, frows_two, h1, h2]; done) | ((repeat (replace hF := hF.2)); exact hF)) ?_
 rintro B' E _ hB hE ⟨b, bs, rfl, hbl, hn'⟩
 simp (disch := omega) only [wt, seval, reduceCtorEq, Nat.reduceEqDiff, lay_own, spl_own, frows_two, h1, h2]
 have hfl := frows_len hbl
 rw [trimz_len] at hbl hfl
 simp (disch := omega) only [wt, seval, reduceCtorEq, Nat.reduceEqDiff, lay_own, spl_own, frows_two, hfl, h1, h2]
 refine if_by (fun hz => ?_) (fun hz => ?_)
 ·simp (disch := omega) only [wt, seval, reduceCtorEq, Nat.reduceEqDiff, lay_own, spl_own, frows_two, h1, h2]
  refine opn_nils 4 27 2 (by rfl) ?_
  refine opn_done [.iv (fpoly none [] []), ci 0] (by first | rfl | assumption) (by first | (simp (disch := omega) only [wt, seval, reduceCtorEq, Nat.reduceEqDiff, lay_own, spl_own, frows_two]; done) | (simp (disch := omega) only [wt, seval, reduceCtorEq, Nat.reduceEqDiff, lay_own, spl_own, frows_two]; rfl) | rfl) ?_
  intro E hE
  refine ⟨none, [], ?_, ?_, .nil _ _⟩ <;> rw [trimz_nil (tz_pshift_zero _ _ (by omega))] <;> rfl
 ·have e := trimz_pshift n (pv p) (by omega)
  have hcap : (frows bs (trimz (pv p))).length ≤ 2 ^ 35 := by omega
  simp (disch := omega) only [wt, seval, reduceCtorEq, Nat.reduceEqDiff, lay_own, spl_own, frows_two, h1, h2, hfl, Int.toNat_natCast]
  rw [frep, frows_app (by simp), ← e]
  refine opn_by 4 18 _ 27 2 ((frows (List.replicate n none ++ bs) (trimz (pshift n (pv p))))) (by first | rfl | assumption | simp (disch := omega) only [wt, seval, reduceCtorEq, Nat.reduceEqDiff, lay_own, spl_own, frows_two]) (by first | rfl | assumption | simp (disch := omega) only [wt, seval, reduceCtorEq, Nat.reduceEqDiff, lay_own, spl_own, frows_two]) (by first | rfl | assumption) ?_
  rintro b2 E2 hE2 hb2
  refine opn_done [.iv (fpoly b2 (List.replicate n none ++ bs) (trimz (pshift n (pv p)))), ci 0] (by first | rfl | assumption) (by first | (simp (disch := omega) only [wt, seval, reduceCtorEq, Nat.reduceEqDiff, lay_own, spl_own, frows_two]; done) | (simp (disch := omega) only [wt, seval, reduceCtorEq, Nat.reduceEqDiff, lay_own, spl_own, frows_two]; rfl) | rfl) ?_
  intro E hE
  have hll : (List.replicate n none ++ bs).length = (trimz (pshift n (pv p))).length := by rw [e]; simp [hbl, trimz_len]
  refine ⟨b2, _, rfl, hll, ?_⟩
  have hi : idsRows (frows (List.replicate n none ++ bs) (trimz (pshift n (pv p)))) = ids bs := by
   rw [ids_frows hll, ids_app, ids_nones]; rfl
  rw [ids_app, ids_nones, List.nil_append]
  have k : Nw B E2 (ids bs) := ⟨(List.nodup_append.1 hn'.1).2.1, fun g hg => by have := hn'.2 g (List.mem_append.2 (.inr hg)); omega⟩
  exact (nw_open hb2 hi k).mono (Nat.le_refl _) hE
end Go.Proofs.YtdokaihemcnkmaaGreat

namespace Go.Proofs.YtdokaihemcnkmaaGreat
open Go Go.Proofs Go.AL
set_option linter.unusedSimpArgs false
set_option linter.unusedVariables false
theorem drop_set_gt {l : List Nat} {i j x : Nat} (h : i < j) : (l.set i x).drop j = l.drop j := by
 rw [List.drop_set]; rw [if_pos h]
def lessD (r b : List Nat) (k i : Nat) : List Nat := dn r.length (vl D16 r - k * vl D16 b * D16 ^ i)
theorem take_end {L r b : List Nat} {k i cc : Nat} (hL : Dig L) (hl : L.length = r.length) (hb : i + b.length ≤ r.length) (hle : k * vl D16 b * D16 ^ i ≤ vl D16 r)
  (he : vl D16 L + k * vl D16 b * D16 ^ i = vl D16 r + cc * D16 ^ r.length) : L = lessD r b k i := by
 have h1 := vlD_lt hL
 rw [hl] at h1
 have hcc : cc = 0 := by
  rcases Nat.eq_zero_or_pos cc with h | h
  ·exact h
  ·have := Nat.mul_le_mul_right (D16 ^ r.length) h
   omega
 subst hcc
 refine eq_dn hL hl ?_
 rw [Nat.mod_eq_of_lt (by omega)]
 omega
theorem take_ok (r b : List Nat) (k i : Nat) (hr : Dig r) (hb : Dig b) (hlr : r.length ≤ 2 ^ 43) (hk : k ≤ 2 ^ 40) (hi : i + b.length ≤ r.length) (hle : k * vl D16 b * D16 ^ i ≤ vl D16 r) :
  ACW Tryz.prog 278 [.any, cd b, ci k, ci i] 0 3 1 (nums r) (nums (lessD r b k i)) [] := by
 refine ACW.by_walk (rs := []) ords Tryz.func278 (by rfl) (by rfl) (by rfl) (by rfl) (by rfl) ?_
 simp (disch := omega) only [wt, seval, reduceCtorEq, Nat.reduceEqDiff]
 refine aloop_by (fun f H => ∃ (j cc : Nat) (L : List Nat), i + j ≤ r.length ∧ L.length = r.length ∧ Dig L ∧ vl D16 (L.take (i + j)) + k * vl D16 (b.take j) * D16 ^ i = vl D16 (r.take (i + j)) + cc * D16 ^ (i + j) ∧ L.drop (i + j) = r.drop (i + j) ∧ cc ≤ 2 ^ 41 ∧ f 9 = .iv (.int .i64 j) ∧ f 8 = .iv (.int .i64 (-(cc : Int))) ∧ f 0 = .hs 0 1 ∧ f 1 = .iv (.sl (nums b)) ∧ f 2 = .iv (.int .i64 k) ∧ f 3 = .iv (.int .i64 i) ∧ H 0 = .blk false 1 3 1 (nums L)) (fun f H => (r.length - intAt f 9).toNat) ?_ ?_
 ·refine ⟨0, 0, r, by omega, rfl, hr, by simp [vl], by simp, by omega, ?_⟩
  simp (disch := omega) only [wt, seval, reduceCtorEq, Nat.reduceEqDiff]
 rintro f H ⟨j, cc, L, hj, hl, hL, hv, hd, hcc, hF⟩
 rw [intAt_of hF.1]
 simp (disch := omega) only [wt, seval, reduceCtorEq, Nat.reduceEqDiff, hF]
 refine if_by (fun hlt => ?_) (fun hlt => ?_)
 ·have hij : i + j < r.length := by omega
  have hijL : i + j < L.length := by omega
  have hcast : ((i : Int) + (j : Int)).toNat = i + j := by omega
  have hx : L.getD (i + j) 0 = r.getD (i + j) 0 := by
   have h1 : (L.drop (i + j))[0]? = (r.drop (i + j))[0]? := by rw [hd]
   simp only [List.getElem?_drop, Nat.add_zero] at h1
   rw [List.getD_eq_getElem?_getD, List.getD_eq_getElem?_getD, h1]
  have hxd := hr.get (i + j)
  have hyd := hb.get j
  have hxd' : r.getD (i + j) 0 < 65536 := hxd
  have hky : k * b.getD j 0 ≤ 2 ^ 40 * 65536 := Nat.mul_le_mul hk (by simp only [D16] at hyd; omega)
  generalize hxe : r.getD (i + j) 0 = x at *
  generalize hye : b.getD j 0 = y at *
  have hky' : ((k : Int) * (y : Int)) ≤ 72057594037927936 := by
   rw [← Int.natCast_mul]; exact Int.ofNat_le.mpr (Nat.le_trans hky (by decide))
  have hky0 : 0 ≤ ((k : Int) * (y : Int)) := by rw [← Int.natCast_mul]; omega
  have step : ∀ s c2 : Nat, s + k * y + cc = x + 65536 * c2 → s < 65536 → c2 ≤ 2 ^ 41 →
    i + (j + 1) ≤ r.length ∧ (L.set (i + j) s).length = r.length ∧ Dig (L.set (i + j) s) ∧ vl D16 ((L.set (i + j) s).take (i + (j + 1))) + k * vl D16 (b.take (j + 1)) * D16 ^ i = vl D16 (r.take (i + (j + 1))) + c2 * D16 ^ (i + (j + 1)) ∧ (L.set (i + j) s).drop (i + (j + 1)) = r.drop (i + (j + 1)) ∧ c2 ≤ 2 ^ 41 := by
   intro s c2 hs hs2 hc2
   refine ⟨by omega, by simpa using hl, hL.set hs2, ?_, ?_, hc2⟩
   ·rw [show i + (j + 1) = i + j + 1 by omega, vl_take_set D16 hijL, vl_take_next D16 b j, vl_take_next D16 r (i + j), hxe, hye]
    have e := borrowD (P := D16 ^ (i + j)) (O := vl D16 (L.take (i + j))) (B := k * vl D16 (b.take j) * D16 ^ i) (A := vl D16 (r.take (i + j))) (c := cc) (x := x) (y := k * y) (s := s) (c' := c2) (by rw [hv, Nat.mul_comm cc]) (by simp only [D16]; omega)
    rw [Nat.pow_succ, Nat.mul_comm c2]
    rw [← e, Nat.mul_add, Nat.add_mul]
    congr 2
    rw [Nat.pow_add]; ac_rfl
   ·rw [drop_set_gt (by omega), show i + (j + 1) = (i + j) + 1 by omega, ← List.drop_drop, hd, List.drop_drop]
  by_cases hjb : (j : Int) < (b.length : Int)
  ·have hjb' : j < b.length := by omega
   obtain ⟨n0, hn0⟩ : ∃ n0 : Int, (x : Int) + -(cc : Int) - (k : Int) * (y : Int) = n0 := ⟨_, rfl⟩
   simp (disch := omega) only [wt, seval, reduceCtorEq, Nat.reduceEqDiff, hF, hcast, hjb, hx, hye, hn0]
   refine aloop_by (fun f H => ∃ (nn : Int) (c2 : Nat), nn + (k : Int) * (y : Int) + cc = x + 65536 * (c2 : Int) ∧ nn < 65536 ∧ (c2 = 0 ∨ 0 ≤ nn) ∧ c2 ≤ 2 ^ 41 ∧ f 10 = .iv (.int .i64 nn) ∧ f 8 = .iv (.int .i64 (-(c2 : Int))) ∧ f 9 = .iv (.int .i64 j) ∧ f 0 = .hs 0 1 ∧ f 1 = .iv (.sl (nums b)) ∧ f 2 = .iv (.int .i64 k) ∧ f 3 = .iv (.int .i64 i) ∧ f 12 = .iv (.int .i64 i) ∧ H 0 = .blk false 1 3 1 (nums L)) (fun f H => (-intAt f 10).toNat) ?_ ?_
   ·refine ⟨n0, 0, by omega, by omega, by omega, by omega, ?_⟩
    simp (disch := omega) only [wt, seval, reduceCtorEq, Nat.reduceEqDiff, hF]
   rintro f H ⟨nn, c2, hne, hnn, h01, hc2, hF⟩
   rw [intAt_of hF.1]
   simp (disch := omega) only [wt, seval, reduceCtorEq, Nat.reduceEqDiff, hF]
   refine if_by (fun hneg => ?_) (fun hneg => ?_)
   ·have hq : (65535 - nn).tdiv 65536 = (65535 - nn) / 65536 := Int.tdiv_eq_ediv_of_nonneg (by omega)
    obtain ⟨m, hm⟩ : ∃ m : Nat, (65535 - nn) / 65536 = (m : Int) := ⟨((65535 - nn) / 65536).toNat, by omega⟩
    obtain rfl : c2 = 0 := by omega
    simp (disch := omega) only [wt, seval, reduceCtorEq, Nat.reduceEqDiff, hF, hq, hm]
    refine ⟨⟨nn + m * 65536, m, by omega, by omega, by omega, by omega, rfl, by omega⟩, by omega⟩
   ·obtain ⟨s, rfl⟩ : ∃ s : Nat, nn = (s : Int) := ⟨nn.toNat, by omega⟩
    have hs1 : s + k * y + cc = x + 65536 * c2 := by
     have : ((s + k * y + cc : Nat) : Int) = ((x + 65536 * c2 : Nat) : Int) := by rw [Int.natCast_add, Int.natCast_add, Int.natCast_mul, hne, Int.natCast_add, Int.natCast_mul]; rfl
     exact Int.ofNat.inj this
    obtain ⟨g1, g2, g3, g4, g5, g6⟩ := step s c2 hs1 (by omega) hc2
    simp (disch := omega) only [wt, seval, reduceCtorEq, Nat.reduceEqDiff, hF, hcast]
    exact ⟨⟨j + 1, c2, _, g1, g2, g3, g4, g5, g6, by omega, rfl, rfl⟩, by omega⟩
  ·have hjb' : ¬ j < b.length := by omega
   have hy0 : y = 0 := by rw [← hye, List.getD_eq_getElem?_getD, List.getElem?_eq_none (by omega)]; rfl
   have hky2 : (k : Int) * (y : Int) = 0 := by rw [hy0]; simp
   obtain ⟨n0, hn0⟩ : ∃ n0 : Int, (x : Int) + -(cc : Int) = n0 := ⟨_, rfl⟩
   simp (disch := omega) only [wt, seval, reduceCtorEq, Nat.reduceEqDiff, hF, hcast, hjb, hx, hn0]
   refine aloop_by (fun f H => ∃ (nn : Int) (c2 : Nat), nn + (k : Int) * (y : Int) + cc = x + 65536 * (c2 : Int) ∧ nn < 65536 ∧ (c2 = 0 ∨ 0 ≤ nn) ∧ c2 ≤ 2 ^ 41 ∧ f 10 = .iv (.int .i64 nn) ∧ f 8 = .iv (.int .i64 (-(c2 : Int))) ∧ f 9 = .iv (.int .i64 j) ∧ f 0 = .hs 0 1 ∧ f 1 = .iv (.sl (nums b)) ∧ f 2 = .iv (.int .i64 k) ∧ f 3 = .iv (.int .i64 i) ∧ f 12 = .iv (.int .i64 i) ∧ H 0 = .blk false 1 3 1 (nums L)) (fun f H => (-intAt f 10).toNat) ?_ ?_
   ·refine ⟨n0, 0, by omega, by omega, by omega, by omega, ?_⟩
    simp (disch := omega) only [wt, seval, reduceCtorEq, Nat.reduceEqDiff, hF]
   rintro f H ⟨nn, c2, hne, hnn, h01, hc2, hF⟩
   rw [intAt_of hF.1]
   simp (disch := omega) only [wt, seval, reduceCtorEq, Nat.reduceEqDiff, hF]
   refine if_by (fun hneg => ?_) (fun hneg => ?_)
   ·have hq : (65535 - nn).tdiv 65536 = (65535 - nn) / 65536 := Int.tdiv_eq_ediv_of_nonneg (by omega)
    obtain ⟨m, hm⟩ : ∃ m : Nat, (65535 - nn) / 65536 = (m : Int) := ⟨((65535 - nn) / 65536).toNat, by omega⟩
    obtain rfl : c2 = 0 := by omega
    simp (disch := omega) only [wt, seval, reduceCtorEq, Nat.reduceEqDiff, hF, hq, hm]
    refine ⟨⟨nn + m * 65536, m, by omega, by omega, by omega, by omega, rfl, by omega⟩, by omega⟩
   ·obtain ⟨s, rfl⟩ : ∃ s : Nat, nn = (s : Int) := ⟨nn.toNat, by omega⟩
    have hs1 : s + k * y + cc = x + 65536 * c2 := by
     have : ((s + k * y + cc : Nat) : Int) = ((x + 65536 * c2 : Nat) : Int) := by rw [Int.natCast_add, Int.natCast_add, Int.natCast_mul, hne, Int.natCast_add, Int.natCast_mul]; rfl
     exact Int.ofNat.inj this
    obtain ⟨g1, g2, g3, g4, g5, g6⟩ := step s c2 hs1 (by omega) hc2
    simp (disch := omega) only [wt, seval, reduceCtorEq, Nat.reduceEqDiff, hF, hcast]
    exact ⟨⟨j + 1, c2, _, g1, g2, g3, g4, g5, g6, by omega, rfl, rfl⟩, by omega⟩
 ·obtain hij : i + j = r.length := by omega
  simp (disch := omega) only [wt, seval, reduceCtorEq, Nat.reduceEqDiff, hF]
  have hbt : b.take j = b := List.take_of_length_le (by omega)
  rw [hij, hbt, List.take_length, ← hl, List.take_length] at hv
  rw [hl] at hv
  rw [take_end hL hl hi hle hv]
end Go.Proofs.YtdokaihemcnkmaaGreat

namespace Go.Proofs.YtdokaihemcnkmaaGreat
open Go Go.Proofs Go.AL
set_option linter.unusedSimpArgs false
set_option linter.unusedVariables false
theorem vlD_drop {r : List Nat} (h : Dig r) (j : Nat) : vl D16 (r.drop j) = vl D16 r / D16 ^ j := by
 rcases Nat.lt_or_ge r.length j with hj | hj
 ·rw [List.drop_eq_nil_of_le (by omega), Nat.div_eq_of_lt (Nat.lt_of_lt_of_le (vlD_lt h) (Nat.pow_le_pow_right (by decide) (by omega)))]; rfl
 ·rw [vl_split D16 r hj, Nat.add_mul_div_left _ _ (D_pow_pos j), Nat.div_eq_of_lt, Nat.zero_add]
  have := vlD_lt (h.take j)
  rwa [List.length_take, Nat.min_eq_left hj] at this
theorem vlD_step {r : List Nat} (h : Dig r) (j : Nat) : vl D16 r / D16 ^ j = vl D16 r / D16 ^ (j + 1) * 65536 + r.getD j 0 := by
 rw [dig_at h, Nat.pow_succ, ← Nat.div_div_eq_div_mul]
 have := Nat.div_add_mod (vl D16 r / D16 ^ j) D16
 simp only [D16] at this ⊢
 omega
structure Dvr (b : List Nat) : Prop where
 dig : Dig b
 pos : 0 < b.length
 top : b.getD (b.length - 1) 0 ≠ 0
theorem Dvr.bounds {b : List Nat} (h : Dvr b) : D16 ^ (b.length - 1) ≤ vl D16 b ∧ vl D16 b < (b.getD (b.length - 1) 0 + 1) * D16 ^ (b.length - 1) := by
 have e := vl_take_next D16 b (b.length - 1)
 rw [show b.length - 1 + 1 = b.length by have := h.pos; omega, List.take_length] at e
 have h1 := vlD_lt (h.dig.take (b.length - 1))
 rw [List.length_take, Nat.min_eq_left (by omega)] at h1
 have h2 := Nat.mul_le_mul_left (D16 ^ (b.length - 1)) (Nat.pos_of_ne_zero h.top)
 rw [e]
 constructor
 ·omega
 ·rw [Nat.add_mul, Nat.one_mul, Nat.mul_comm (b.getD _ _)]; omega
theorem Dvr.vpos {b : List Nat} (h : Dvr b) : 0 < vl D16 b := Nat.lt_of_lt_of_le (D_pow_pos _) h.bounds.1
def kOf (R t s : Nat) : Nat := max 1 (R / D16 ^ s / t)
theorem kOf_le {b : List Nat} (h : Dvr b) {R i : Nat} (hh : vl D16 b * D16 ^ i ≤ R) : kOf R (b.getD (b.length - 1) 0 + 1) (i + b.length - 1) * vl D16 b * D16 ^ i ≤ R := by
 have hb := h.bounds.2
 have hp := h.pos
 generalize b.getD (b.length - 1) 0 + 1 = t at *
 unfold kOf
 rcases Nat.le_total (R / D16 ^ (i + b.length - 1) / t) 1 with h1 | h1
 ·rw [Nat.max_eq_left h1, Nat.one_mul]; exact hh
 ·rw [Nat.max_eq_right h1]
  have e1 : R / D16 ^ (i + b.length - 1) / t * t ≤ R / D16 ^ (i + b.length - 1) := Nat.div_mul_le_self _ _
  have e2 : R / D16 ^ (i + b.length - 1) * D16 ^ (i + b.length - 1) ≤ R := Nat.div_mul_le_self _ _
  generalize R / D16 ^ (i + b.length - 1) / t = q at *
  generalize R / D16 ^ (i + b.length - 1) = x at *
  have e3 : q * vl D16 b ≤ q * (t * D16 ^ (b.length - 1)) := Nat.mul_le_mul_left _ (Nat.le_of_lt hb)
  have e4 : q * (t * D16 ^ (b.length - 1)) ≤ x * D16 ^ (b.length - 1) := by rw [← Nat.mul_assoc]; exact Nat.mul_le_mul_right _ e1
  have e5 : x * D16 ^ (b.length - 1) * D16 ^ i = x * D16 ^ (i + b.length - 1) := by rw [Nat.mul_assoc, ← Nat.pow_add]; congr 2; omega
  exact Nat.le_trans (Nat.mul_le_mul_right _ (Nat.le_trans e3 e4)) (by rw [e5]; exact e2)
theorem have_lt {b : List Nat} (h : Dvr b) {R i : Nat} (hR : R < vl D16 b * D16 ^ (i + 1)) : R / D16 ^ (i + b.length - 1) < 4294967296 ∧ kOf R (b.getD (b.length - 1) 0 + 1) (i + b.length - 1) ≤ 65536 := by
 have hb := h.bounds.2
 have hp := h.pos
 have ht : b.getD (b.length - 1) 0 + 1 ≤ 65536 := by have := h.dig.get (b.length - 1); simp only [D16] at this; omega
 generalize hte : b.getD (b.length - 1) 0 + 1 = t at *
 have h1 : R < t * D16 * D16 ^ (i + b.length - 1) := by
  refine Nat.lt_of_lt_of_le hR ?_
  have e : t * D16 * D16 ^ (i + b.length - 1) = t * D16 ^ (b.length - 1) * D16 ^ (i + 1) := by
   rw [Nat.mul_assoc, Nat.mul_assoc, ← Nat.pow_add, ← Nat.pow_succ']
   congr 2; omega
  rw [e]
  exact Nat.mul_le_mul_right _ (Nat.le_of_lt hb)
 have h2 : R / D16 ^ (i + b.length - 1) < t * D16 := (Nat.div_lt_iff_lt_mul (D_pow_pos _)).mpr h1
 have h3 : t * D16 ≤ 65536 * 65536 := Nat.mul_le_mul_right _ ht
 refine ⟨Nat.lt_of_lt_of_le h2 h3, ?_⟩
 unfold kOf
 refine Nat.max_le.mpr ⟨by omega, ?_⟩
 exact Nat.le_of_lt (Nat.div_lt_of_lt_mul h2)
theorem higher_ok (r b : List Nat) (i : Nat) (hr : Dig r) (hb : Dig b) (hl : r.length ≤ 2 ^ 42) (hlb : b.length ≤ 2 ^ 42) (hi : i ≤ r.length) :
  AC Tryz.prog 277 [cd r, cd b, ci i] none [cb (decide (vl D16 b * D16 ^ i ≤ vl D16 r))] := by
 refine AC.by_walk (rs := [.tmp 6]) ords Tryz.func277 (by rfl) (by rfl) (by rfl) (by rfl) (by rfl) ?_
 have e : List.take ((r.length : Int) - (i : Int)).toNat (List.drop i r) = List.drop i r := List.take_of_length_le (by rw [List.length_drop]; omega)
 simp (disch := omega) only [wt, seval, reduceCtorEq, Nat.reduceEqDiff, e]
 have m := rcompare_ok (r.drop i) b (fun x hx => hr x (List.mem_of_mem_drop hx)) hb (by rw [List.length_drop]; omega) hlb
 rw [vlD_drop hr] at m
 refine call_by (m) (by rfl) (by simp) ?_
 simp (disch := omega) only [wt, seval, reduceCtorEq, Nat.reduceEqDiff]
 rw [decide_eq_decide, ← Nat.le_div_iff_mul_le (D_pow_pos i)]
 unfold cmpN
 split
 ·omega
 ·split <;> omega
def hval (H : Hp) (h : Nat) : Nat := match H h with
 | .blk _ _ _ _ rows => vl D16 (rows.map fun r => match r with | [.int _ n] => n.toNat | _ => 0)
 | _ => 0
theorem hval_of {H : Hp} {h st e sz : Nat} {fz : Bool} {l : List Nat} (hh : H h = .blk fz st e sz (nums l)) : hval H h = vl D16 l := by
 unfold hval; rw [hh]
 simp only [nums, List.map_map]
 congr 1
 conv => rhs; rw [← List.map_id l]
 exact List.map_congr_left fun x _ => by simp
def hlen (H : Hp) (h : Nat) : Nat := match H h with
 | .blk _ _ _ _ rows => rows.length
 | _ => 0
theorem hlen_of {H : Hp} {h st e sz : Nat} {fz : Bool} {rows : List (List IV)} (hh : H h = .blk fz st e sz rows) : hlen H h = rows.length := by unfold hlen; rw [hh]
theorem q_step {q : List Nat} {i k : Nat} (h : i < q.length) : vl D16 (q.set i (q.getD i 0 + k)) = vl D16 q + k * D16 ^ i := by
 have e1 := vl_split D16 (q.set i (q.getD i 0 + k)) (k := i + 1) (by simp; omega)
 have e2 := vl_split D16 q (k := i + 1) (by omega)
 rw [drop_set_gt (by omega), vl_take_set D16 h] at e1
 rw [vl_take_next] at e2
 rw [e1, e2, Nat.mul_add, Nat.mul_comm k]
 omega
theorem divide_ok5 (a b : List Nat) (ha : Dig a) (hb : Dvr b) (hla : a.length ≤ 2 ^ 41) (hlb : b.length ≤ 2 ^ 41) (hab : b.length ≤ a.length) :
  AC Tryz.prog 246 [cd a, cd b] none [cd (dn (a.length - b.length + 1) (vl D16 a / vl D16 b)), cd (dgD (vl D16 a % vl D16 b))] := by
 refine AC.by_walk (rs := [.tmp 4, .tmp 5]) ords Tryz.func246 (by rfl) (by rfl) (by rfl) (by rfl) (by rfl) ?_
 have hp := hb.pos
 have hm : ((a.length : Int) - (b.length : Int) + 1).toNat = a.length - b.length + 1 := by omega
 have ht1 : ((b.length : Int) - 1).toNat = b.length - 1 := by omega
 have hlt : ¬ ((a.length : Int) < (b.length : Int)) := by omega
 have htop := hb.dig.get (b.length - 1)
 have htop2 : b.getD (b.length - 1) 0 < 65536 := htop
 have hm2 : (((a.length - b.length + 1 : Nat) : Int)) = (a.length : Int) - (b.length : Int) + 1 := by omega
 simp (disch := omega) only [wt, seval, reduceCtorEq, Nat.reduceEqDiff, hm, ht1, hlt]
 have hVlt := vlD_lt ha
 have hT := hb.bounds.1
 have hTpos := hb.vpos
 have hstart : vl D16 a < vl D16 b * D16 ^ (a.length - b.length + 1) := by
  refine Nat.lt_of_lt_of_le hVlt ?_
  have e : D16 ^ a.length = D16 ^ (b.length - 1) * D16 ^ (a.length - b.length + 1) := by rw [← Nat.pow_add]; congr 1; omega
  rw [e]; exact Nat.mul_le_mul_right _ hT
 generalize hme : a.length - b.length + 1 = m at *
 have hml : m ≤ 2 ^ 42 := by omega
 generalize hV : vl D16 a = V at *
 refine aloop_by (fun f H => ∃ (i1 s13 s28 : Nat) (r q : List Nat), i1 ≤ m ∧ Dig r ∧ Dig q ∧ q.length = m ∧ vl D16 q * vl D16 b + vl D16 r = V ∧ vl D16 r < vl D16 b * D16 ^ i1 ∧ i1 ≤ r.length + 1 ∧ r.length ≤ 2 ^ 42 ∧ (∀ j, j < i1 → q.getD j 0 = 0) ∧ (i1 = 0 → r = dgD (vl D16 r)) ∧ f 9 = .iv (.int .i64 ((i1 : Int) - 1)) ∧ f 6 = .hs 13 s13 ∧ f 7 = .hs 28 s28 ∧ f 1 = .iv (.sl (nums b)) ∧ f 8 = .iv (.int .i64 ((b.getD (b.length - 1) 0 : Nat) + 1)) ∧ H 13 = .blk false s13 3 1 (nums r) ∧ H 28 = .blk false s28 3 1 (nums q)) (fun f H => (intAt f 9 + 1).toNat) ?_ ?_
 ·refine ⟨m, 2, 1, a, List.replicate m 0, Nat.le_refl _, ha, Dig.replicate _, by simp, by rw [vl_replicate, Nat.zero_mul, Nat.zero_add, hV], by rw [hV]; exact hstart, by omega, by omega, fun j _ => by simp [List.getD, List.getElem?_replicate]; split <;> rfl, by omega, ?_⟩
  simp (disch := omega) only [wt, seval, reduceCtorEq, Nat.reduceEqDiff, nums_rep]
 rintro f H ⟨i1, s13, s28, r, q, hi1, hr, hq, hql, hv, hlt1, hil, hrl, hz, hfin, hF⟩
 rw [intAt_of hF.1]
 simp (disch := omega) only [wt, seval, reduceCtorEq, Nat.reduceEqDiff, hF]
 refine if_by (fun hge => ?_) (fun hge => ?_)
 ·obtain ⟨i, rfl⟩ : ∃ i, i1 = i + 1 := ⟨i1 - 1, by omega⟩
  have hie : ((i + 1 : Nat) : Int) - 1 = (i : Int) := by omega
  rw [hie] at hF
  simp (disch := omega) only [wt, seval, reduceCtorEq, Nat.reduceEqDiff, hF, hie]
  refine aloop_by (fun f H => ∃ (s13 s28 : Nat) (r q : List Nat), (Dig r ∧ Dig q ∧ q.length = m ∧ vl D16 q * vl D16 b + vl D16 r = V ∧ vl D16 r + q.getD i 0 * vl D16 b * D16 ^ i < vl D16 b * D16 ^ (i + 1) ∧ i ≤ r.length ∧ r.length ≤ 2 ^ 42 ∧ ∀ j, j < i → q.getD j 0 = 0) ∧
   f 9 = .iv (.int .i64 i) ∧ f 6 = .hs 13 s13 ∧ f 7 = .hs 28 s28 ∧ f 1 = .iv (.sl (nums b)) ∧ f 8 = .iv (.int .i64 ((b.getD (b.length - 1) 0 : Nat) + 1)) ∧ H 13 = .blk false s13 3 1 (nums r) ∧ H 28 = .blk false s28 3 1 (nums q)) (fun f H => hval H 13) ?_ ?_
  ·refine ⟨s13, s28, r, q, ⟨hr, hq, hql, hv, ?_, by omega, hrl, fun j hj => hz j (by omega)⟩, ?_⟩
   ·rw [hz i (by omega), Nat.zero_mul, Nat.zero_mul, Nat.add_zero]; exact hlt1
   ·simp (disch := omega) only [wt, seval, reduceCtorEq, Nat.reduceEqDiff, hF]
  clear hF hfin hil hrl hz hlt1 hv hql hq hr
  clear r q
  rintro f H ⟨s13, s28, r, q, ⟨hr, hq, hql, hv, hlt1, hil, hrl, hz⟩, hF⟩
  rw [hval_of hF.2.2.2.2.2.1]
  simp (disch := omega) only [wt, seval, reduceCtorEq, Nat.reduceEqDiff, hF]
  have hlt2 : vl D16 r < vl D16 b * D16 ^ (i + 1) := by omega
  obtain ⟨hhl, hkl⟩ := have_lt hb hlt2
  refine call_flat ((higher_ok r b i hr hb.dig hrl (by omega) hil)) (by first | rfl | (simp only [tocvs, tocv, toboxes, tobox, updH_at, Nat.reduceEqDiff, ↓reduceIte, hF]; rfl)) (by simp) (.inr (by simp [FlatRes, FlatCV, FlatI])) ?_
  simp (disch := omega) only [wt, seval, reduceCtorEq, Nat.reduceEqDiff, hF]
  by_cases hh : vl D16 b * D16 ^ i ≤ vl D16 r
  ·have hlr : i + b.length ≤ r.length := by
    have h1 : D16 ^ (b.length - 1 + i) < D16 ^ r.length := by
     rw [Nat.pow_add]
     exact Nat.lt_of_le_of_lt (Nat.le_trans (Nat.mul_le_mul_right _ hT) hh) (vlD_lt hr)
    have h2 := (Nat.pow_lt_pow_iff_right (by decide : 1 < D16)).mp h1
    omega
   obtain ⟨hx, hxe⟩ : ∃ g : Nat → Nat, g = fun j => vl D16 r / D16 ^ j := ⟨_, rfl⟩
   have hz0 : hx r.length = 0 := by rw [hxe]; exact Nat.div_eq_of_lt (vlD_lt hr)
   have hxs : ∀ j, hx (j + 1) * 65536 + r.getD j 0 = hx j := fun j => by rw [hxe]; exact (vlD_step hr j).symm
   have hxm : ∀ j, i + b.length ≤ j + 1 → hx j ≤ hx (i + b.length - 1) := fun j hj => by rw [hxe]; exact Nat.div_le_div_left (Nat.pow_le_pow_right (by decide) (by omega)) (D_pow_pos _)
   have hxl : hx (i + b.length - 1) < 4294967296 := by rw [hxe]; exact hhl
   have hkle := kOf_le hb hh
   have hkd0 : kOf (vl D16 r) (b.getD (b.length - 1) 0 + 1) (i + b.length - 1) = max 1 (hx (i + b.length - 1) / (b.getD (b.length - 1) 0 + 1)) := by rw [hxe]; rfl
   clear hhl
   simp (disch := omega) only [wt, seval, reduceCtorEq, Nat.reduceEqDiff, hF, hh]
   refine aloop_by (fun f H => ∃ (j1 : Nat), i + b.length ≤ j1 + 1 ∧ j1 ≤ r.length ∧ f 11 = .iv (.int .i64 ((j1 : Int) - 1)) ∧ f 10 = .iv (.int .i64 (hx j1 : Nat)) ∧ f 9 = .iv (.int .i64 i) ∧ f 6 = .hs 13 s13 ∧ f 7 = .hs 28 s28 ∧ f 1 = .iv (.sl (nums b)) ∧ f 8 = .iv (.int .i64 ((b.getD (b.length - 1) 0 : Nat) + 1)) ∧ H 13 = .blk false s13 3 1 (nums r) ∧ H 28 = .blk false s28 3 1 (nums q)) (fun f H => (intAt f 11 + 1).toNat) ?_ ?_
   ·refine ⟨r.length, by omega, Nat.le_refl _, ?_⟩
    simp (disch := omega) only [wt, seval, reduceCtorEq, Nat.reduceEqDiff, hF, hz0]
   rintro f H ⟨j1, hj1, hj2, hF⟩
   rw [intAt_of hF.1]
   simp (disch := omega) only [wt, seval, reduceCtorEq, Nat.reduceEqDiff, hF]
   have hdl := hxm j1 hj1
   refine if_by (fun hge2 => ?_) (fun hge2 => ?_)
   ·obtain ⟨j, rfl⟩ : ∃ j, j1 = j + 1 := ⟨j1 - 1, by omega⟩
    have hje : ((j + 1 : Nat) : Int) - 1 = (j : Int) := by omega
    have hrd : r.getD j 0 < 65536 := hr.get j
    have hs1 := hxs j
    have hs2 := hxm j (by omega)
    have hst : (hx (j + 1) : Int) * 65536 + ((r.getD j 0 : Nat) : Int) = (hx j : Int) := by omega
    rw [hje] at hF hge2
    simp (disch := omega) only [wt, seval, reduceCtorEq, Nat.reduceEqDiff, hF, hje, hst]
    exact ⟨⟨j, by omega, by omega, rfl, rfl⟩, by omega⟩
   ·obtain rfl : j1 = i + b.length - 1 := by omega
    generalize hx (i + b.length - 1) = x at *
    have hq0 : ((x : Nat) : Int).tdiv (((b.getD (b.length - 1) 0 : Nat) : Int) + 1) = ((x / (b.getD (b.length - 1) 0 + 1) : Nat) : Int) := by
     rw [Int.tdiv_eq_ediv_of_nonneg (by omega)]; rfl
    have hq1 : x / (b.getD (b.length - 1) 0 + 1) ≤ x := Nat.div_le_self _ _
    generalize x / (b.getD (b.length - 1) 0 + 1) = y at *
    generalize hkd : kOf (vl D16 r) (b.getD (b.length - 1) 0 + 1) (i + b.length - 1) = k at *
    have hq2 : max (1 : Int) ((y : Nat) : Int) = ((k : Nat) : Int) := by omega
    have hk1 : 1 ≤ k := by omega
    have hiq : i < q.length := by omega
    have hlv : vl D16 (lessD r b k i) = vl D16 r - k * vl D16 b * D16 ^ i := by
     unfold lessD
     rw [vl_dn, Nat.mod_eq_of_lt (Nat.lt_of_le_of_lt (Nat.sub_le _ _) (vlD_lt hr))]
    have hprod : D16 ^ i ≤ k * vl D16 b * D16 ^ i := by
     have := Nat.mul_le_mul_right (D16 ^ i) (Nat.mul_le_mul hk1 hTpos)
     simpa using this
    have hDi := D_pow_pos i
    have hqs := q_step (k := k) hiq
    have hkT : k * D16 ^ i * vl D16 b = k * vl D16 b * D16 ^ i := Nat.mul_right_comm _ _ _
    have hqiT : (q.getD i 0 + k) * vl D16 b * D16 ^ i = q.getD i 0 * vl D16 b * D16 ^ i + k * vl D16 b * D16 ^ i := by rw [Nat.add_mul, Nat.add_mul]
    have hqi : q.getD i 0 + k < D16 := by
     have h1 : (q.getD i 0 + k) * vl D16 b * D16 ^ i < D16 * vl D16 b * D16 ^ i := by
      rw [hqiT]
      have : D16 * vl D16 b * D16 ^ i = vl D16 b * D16 ^ (i + 1) := by rw [Nat.pow_succ]; ac_rfl
      rw [this]; omega
     exact Nat.lt_of_mul_lt_mul_right (Nat.lt_of_mul_lt_mul_right h1)
    have hqk : ((q.getD i 0 : Nat) : Int) + (k : Int) = ((q.getD i 0 + k : Nat) : Int) := by omega
    have hqi2 : q.getD i 0 + k < 65536 := hqi
    have hqset : (q.set i (q.getD i 0 + k)).getD i 0 = q.getD i 0 + k := by simp [List.getD, hiq]
    simp (disch := omega) only [wt, seval, reduceCtorEq, Nat.reduceEqDiff, hF, hq0, hq2]
    refine callw_by ((take_ok r b k i hr hb.dig (by omega) (by omega) hlr hkle)) (by first | rfl | (simp (disch := omega) only [wt, seval, reduceCtorEq, Nat.reduceEqDiff, hF, hqk]; done)) (by first | rfl | (simp (disch := omega) only [wt, seval, reduceCtorEq, Nat.reduceEqDiff, hF, hqk]; done)) (by first | rfl | (simp only [tocvs, tocv, List.set_cons_zero, List.set_cons_succ, hF, hqk]; rfl)) (by simp) (by simp) ?_
    simp (disch := omega) only [wt, seval, reduceCtorEq, Nat.reduceEqDiff, hF, hqk]
    refine ⟨⟨s13, s28, lessD r b k i, q.set i (q.getD i 0 + k), ⟨dn_dig _ _, hq.set hqi, by simpa using hql, ?_, ?_, ?_, ?_, fun j hj => ?_⟩, rfl, rfl, rfl, rfl⟩, ?_⟩
    ·rw [hqs, Nat.add_mul, hkT, hlv]; omega
    ·rw [hqset, hqiT, hlv]; omega
    ·rw [lessD, dn_len]; exact hil
    ·rw [lessD, dn_len]; exact hrl
    ·have : (q.set i (q.getD i 0 + k)).getD j 0 = q.getD j 0 := by simp only [List.getD, List.getElem?_set, show ¬ i = j by omega, if_false]
     rw [this]; exact hz j hj
    ·rw [hval_of (st := s13) (e := 3) (sz := 1) (fz := false) (l := lessD r b k i) (by simp only [updH_at]; rfl), hlv]
     omega
  ·have mc := rcut_ok r (by omega)
   rw [dgD_of hr] at mc
   have hdl : (dgD (vl D16 r)).length ≤ r.length := by
    rw [← dgD_of hr, List.length_take]; omega
   have hRi : vl D16 r < vl D16 b * D16 ^ i := by omega
   simp (disch := omega) only [wt, seval, reduceCtorEq, Nat.reduceEqDiff, hF, hh]
   refine call_by (mc) (by first | rfl | (simp only [tocvs, tocv, toboxes, tobox, updH_at, Nat.reduceEqDiff, ↓reduceIte, hF]; rfl)) (by simp) ?_
   simp (disch := omega) only [wt, seval, reduceCtorEq, Nat.reduceEqDiff, hF]
   refine aloop_w (.ren 6 82 13 _ _ _ _ (by rfl) (by rfl) (by decide) (.refl _ _)) (fun f H => ∃ (t13 n : Nat), (n = 0 ∨ (dgD (vl D16 r)).length + n ≤ i) ∧ f 9 = .iv (.int .i64 i) ∧ f 6 = .hs 13 t13 ∧ f 7 = .hs 28 s28 ∧ f 1 = .iv (.sl (nums b)) ∧ f 8 = .iv (.int .i64 ((b.getD (b.length - 1) 0 : Nat) + 1)) ∧
    H 13 = .blk false t13 3 1 (nums (dgD (vl D16 r) ++ List.replicate n 0)) ∧ H 28 = .blk false s28 3 1 (nums q)) (fun f H => i - hlen H 13) ?_ ?_
   ·refine ⟨s13 + 1, 0, .inl rfl, ?_⟩
    simp (disch := omega) only [wt, seval, reduceCtorEq, Nat.reduceEqDiff, hF, List.replicate_zero]
   rintro f H ⟨t13, n, hn, hF⟩
   rw [hlen_of hF.2.2.2.2.2.1]
   have hll : (dgD (vl D16 r) ++ List.replicate n 0).length = (dgD (vl D16 r)).length + n := by simp
   simp (disch := omega) only [wt, seval, reduceCtorEq, Nat.reduceEqDiff, hF, hll]
   refine if_by (fun hge2 => ?_) (fun hge2 => ?_)
   ·simp (disch := omega) only [wt, seval, reduceCtorEq, Nat.reduceEqDiff, hF, hll]
    have e1 : nums (dgD (vl D16 r) ++ List.replicate n 0) ++ [[IV.int IntKind.i64 0]] = nums (dgD (vl D16 r) ++ List.replicate (n + 1) 0) := by
     rw [List.replicate_succ', ← List.append_assoc, ← nums_snoc]; rfl
    rw [e1]
    refine ⟨⟨t13 + 1, n + 1, .inr (by omega), rfl, rfl⟩, ?_⟩
    rw [hlen_of (st := t13 + 1) (e := 3) (sz := 1) (fz := false) (rows := nums (dgD (vl D16 r) ++ List.replicate (n + 1) 0)) (by simp only [updH_at]; rfl), nums_len]
    simp only [List.length_append, List.length_replicate]
    omega
   ·simp (disch := omega) only [wt, seval, reduceCtorEq, Nat.reduceEqDiff, hF, hll]
    have hvv : vl D16 (dgD (vl D16 r) ++ List.replicate n 0) = vl D16 r := by rw [vl_append, vl_replicate, Nat.mul_zero, Nat.add_zero, vl_dgD]
    refine ⟨⟨i, t13, s28, dgD (vl D16 r) ++ List.replicate n 0, q, by omega, (dgD_dig _).append (Dig.replicate _), hq, hql, by rw [hvv]; exact hv, by rw [hvv]; exact hRi, by omega, by omega, hz, fun h0 => ?_, rfl, rfl, rfl, rfl, rfl⟩, by omega⟩
    obtain rfl : n = 0 := by omega
    rw [hvv, List.replicate_zero, List.append_nil]
 ·obtain rfl : i1 = 0 := by omega
  simp (disch := omega) only [wt, seval, reduceCtorEq, Nat.reduceEqDiff, hF]
  have hr0 : vl D16 r < vl D16 b := by simpa using hlt1
  have hqv : vl D16 q = V / vl D16 b := by
   rw [← hv, Nat.add_comm, Nat.add_mul_div_right _ _ hTpos, Nat.div_eq_of_lt hr0, Nat.zero_add]
  have hrv : vl D16 r = V % vl D16 b := by
   rw [← hv, Nat.add_comm, Nat.add_mul_mod_self_right, Nat.mod_eq_of_lt hr0]
  have e1 : q = dn m (V / vl D16 b) := by
   refine eq_dn hq hql ?_
   rw [← hqv]
   have := vlD_lt hq
   rw [hql] at this
   rw [Nat.mod_eq_of_lt this]
  rw [← hrv, ← hfin rfl, ← e1]
  exact ⟨rfl, rfl⟩
end Go.Proofs.YtdokaihemcnkmaaGreat

namespace Go.Proofs.YtdokaihemcnkmaaGreat
open Go Go.Proofs Go.AL
set_option linter.unusedSimpArgs false
set_option linter.unusedVariables false
theorem dvr_dgD {y : Nat} (h : y ≠ 0) : Dvr (dgD y) := by
 have hp : 0 < (dgD y).length := by
  rcases Nat.eq_zero_or_pos (dgD y).length with h0 | h0
  ·exact absurd (dgD_len_zero.mp h0) h
  ·exact h0
 refine ⟨dgD_dig y, hp, fun h0 => ?_⟩
 have e := vl_take_next D16 (dgD y) ((dgD y).length - 1)
 rw [show (dgD y).length - 1 + 1 = (dgD y).length by omega, List.take_length, h0, Nat.mul_zero, Nat.add_zero, vl_dgD] at e
 have h1 := vlD_lt ((dgD_dig y).take ((dgD y).length - 1))
 rw [List.length_take, Nat.min_eq_left (by omega), ← e] at h1
 have := (dg_length_le two_le_D ((dgD y).length - 1) (n := y)).mpr h1
 have h2 : (dg D16 y).length = (dgD y).length := rfl
 omega
theorem divide_short (a b : List Nat) (ha : a.length ≤ 2 ^ 41) (hb : b.length ≤ 2 ^ 41) (h : a.length < b.length) : AC Tryz.prog 246 [cd a, cd b] none [cd [], cd a] := by
 refine AC.by_walk (rs := [.tmp 4, .tmp 5]) ords Tryz.func246 (by rfl) (by rfl) (by rfl) (by rfl) (by rfl) ?_
 have hlt : (a.length : Int) < (b.length : Int) := by omega
 simp (disch := omega) only [wt, seval, reduceCtorEq, Nat.reduceEqDiff, hlt]
theorem divide_g (x y : Nat) (hy : y ≠ 0) (hx : (dgD x).length ≤ 2 ^ 41) (hyl : (dgD y).length ≤ 2 ^ 41) : ∃ q, Dig q ∧ vl D16 q = x / y ∧ q.length ≤ (dgD x).length + 1 ∧ AC Tryz.prog 246 [cd (dgD x), cd (dgD y)] none [cd q, cd (dgD (x % y))] := by
 have hd := dvr_dgD hy
 rcases Nat.lt_or_ge (dgD x).length (dgD y).length with h | h
 ·have hlt : x < y := by
   have h1 := vlD_lt (dgD_dig x)
   rw [vl_dgD] at h1
   have h2 := hd.bounds.1
   rw [vl_dgD] at h2
   exact Nat.lt_of_lt_of_le h1 (Nat.le_trans (Nat.pow_le_pow_right (by decide) (by omega)) h2)
  refine ⟨[], Dig.nil, by rw [Nat.div_eq_of_lt hlt]; rfl, by simp, ?_⟩
  rw [Nat.mod_eq_of_lt hlt]
  exact divide_short _ _ hx hyl h
 ·have m := divide_ok5 (dgD x) (dgD y) (dgD_dig x) hd hx hyl h
  rw [vl_dgD, vl_dgD] at m
  refine ⟨_, dn_dig _ _, ?_, ?_, m⟩
  ·rw [vl_dn]
   refine Nat.mod_eq_of_lt ?_
   have h1 := vlD_lt (dgD_dig x)
   rw [vl_dgD] at h1
   have h2 := hd.bounds.1
   rw [vl_dgD] at h2
   refine (Nat.div_lt_iff_lt_mul (by omega)).mpr (Nat.lt_of_lt_of_le h1 ?_)
   have e : D16 ^ (dgD x).length = D16 ^ ((dgD x).length - (dgD y).length + 1) * D16 ^ ((dgD y).length - 1) := by
    rw [← Nat.pow_add]; congr 1; have := hd.pos; omega
   rw [e]; exact Nat.mul_le_mul_left _ h2
  ·rw [dn_len]; have := hd.pos; omega
theorem rQuo_ok (a b : List Nat) (ha : Lim a) (hb : Lim b) (hla : a.length ≤ 2 ^ 38) (hlb : b.length ≤ 2 ^ 38) (h0 : nv b ≠ 0) : AC Tryz.prog 169 [cl a, cl b] none [cl (wd (nv a / nv b)), cl (wd (nv a % nv b))] := by
 refine AC.by_walk (rs := [.tmp 4, .tmp 5]) ords Tryz.func169 (by rfl) (by rfl) (by rfl) (by rfl) (by rfl) ?_
 obtain ⟨x, y, s, h1, h2⟩ := rones_ok a b 63 ha hb (by omega) (by omega) (by omega)
 have h3 := dgD_len ha
 have h4 := dgD_len hb
 simp (disch := omega) only [wt, seval, reduceCtorEq, Nat.reduceEqDiff]
 refine call_by (h1) (by rfl) (by simp) ?_
 simp (disch := omega) only [wt, seval, reduceCtorEq, Nat.reduceEqDiff]
 cases s with
 | true =>
  obtain ⟨rfl, rfl, b1, b2⟩ := h2 rfl
  have e1 : ((nv a : Nat) : Int).tdiv ((nv b : Nat) : Int) = ((nv a / nv b : Nat) : Int) := by rw [Int.tdiv_eq_ediv_of_nonneg (by omega)]; rfl
  have e2 : ((nv a : Nat) : Int).tmod ((nv b : Nat) : Int) = ((nv a % nv b : Nat) : Int) := by rw [Int.tmod_eq_emod_of_nonneg (by omega)]; rfl
  have l1 : nv a / nv b ≤ nv a := Nat.div_le_self _ _
  have l2 : nv a % nv b ≤ nv a := Nat.mod_le _ _
  generalize nv a / nv b = q at *
  generalize nv a % nv b = r at *
  have hqW : q < W := by simp only [W]; omega
  have hrW : r < W := by simp only [W]; omega
  simp (disch := omega) only [wt, seval, reduceCtorEq, Nat.reduceEqDiff, e1, e2, wrap_nat hqW]
  refine .inl ⟨tmps_by (by kernel_rfl), ?_⟩
  refine call_by ((rof_ok q hqW)) (by first | rfl | (simp only [tocvs, tocv, toboxes, tobox, updH_at, Nat.reduceEqDiff, ↓reduceIte, e2]; rfl)) (by simp) ?_
  simp (disch := omega) only [wt, seval, reduceCtorEq, Nat.reduceEqDiff, e2]
  refine call_by ((rof_ok r hrW)) (by first | rfl | (simp only [tocvs, tocv, toboxes, tobox, updH_at, Nat.reduceEqDiff, ↓reduceIte, e2]; rfl)) (by simp) ?_
  simp (disch := omega) only [wt, seval, reduceCtorEq, Nat.reduceEqDiff, e2]
  first | exact log_by (by kernel_rfl) | refine ⟨log_by (by kernel_rfl), ?_⟩
 | false =>
  simp (disch := omega) only [wt, seval, reduceCtorEq, Nat.reduceEqDiff]
  refine call_by ((rdig_ok a ha (by omega))) (by rfl) (by simp) ?_
  simp (disch := omega) only [wt, seval, reduceCtorEq, Nat.reduceEqDiff]
  refine call_by ((rdig_ok b hb (by omega))) (by rfl) (by simp) ?_
  simp (disch := omega) only [wt, seval, reduceCtorEq, Nat.reduceEqDiff]
  obtain ⟨q, q1, q2, q3, m⟩ := divide_g (nv a) (nv b) h0 (by omega) (by omega)
  refine call_by (m) (by rfl) (by simp) ?_
  simp (disch := omega) only [wt, seval, reduceCtorEq, Nat.reduceEqDiff]
  have m1 := rnumber_ok q q1 (by omega)
  rw [q2] at m1
  have h5 : (dgD (nv a % nv b)).length ≤ 2 ^ 41 := by
   have h6 : nv a % nv b < D16 ^ (dgD (nv b)).length := Nat.lt_of_lt_of_le (Nat.mod_lt _ (by omega)) (by have := vlD_lt (dgD_dig (nv b)); rw [vl_dgD] at this; omega)
   have := (dg_length_le two_le_D (dgD (nv b)).length).mpr h6
   have e : (dg D16 (nv a % nv b)).length = (dgD (nv a % nv b)).length := rfl
   omega
  have m2 := rnumber_ok (dgD (nv a % nv b)) (dgD_dig _) (by omega)
  rw [vl_dgD] at m2
  refine call_by (m1) (by rfl) (by simp) ?_
  simp (disch := omega) only [wt, seval, reduceCtorEq, Nat.reduceEqDiff]
  refine call_by (m2) (by rfl) (by simp) ?_
  simp (disch := omega) only [wt, seval, reduceCtorEq, Nat.reduceEqDiff]
end Go.Proofs.YtdokaihemcnkmaaGreat

namespace Go.Proofs.YtdokaihemcnkmaaGreat
open Go Go.Proofs Go.AL
set_option linter.unusedSimpArgs false
set_option linter.unusedVariables false
theorem rExact_ok (a b : RI) (ha : Sz (2 ^ 38) a) (hb : Sz (2 ^ 38) b) (h0 : iv b ≠ 0) (hd : iv b ∣ iv a) : AC Tryz.prog 259 [cr a, cr b] none [cz (iv a / iv b)] := by
 refine AC.by_walk (rs := [.cell 4 27]) ords Tryz.func259 (by rfl) (by rfl) (by rfl) (by rfl) (by rfl) ?_
 rw [iv_sg, iv_sg] at hd
 rw [iv_sg] at h0
 have hm := sg_dvd.mp hd
 have hn : nv b.2 ≠ 0 := fun h => h0 (by rw [h]; cases b.1 <;> rfl)
 have m := rQuo_ok a.2 b.2 ha.2 hb.2 ha.1 hb.1 hn
 have hl : (wd (nv a.2 / nv b.2)).length ≤ 2 ^ 38 := Nat.le_trans (Nat.le_trans (wd_len_mono (Nat.div_le_self _ _)) (nv_len ha.2)) ha.1
 have i1 := rI_ok (a.1 != b.1) (wd (nv a.2 / nv b.2)) (lim_wd _) (by omega)
 rw [nv_wd] at i1
 rw [iv_sg, iv_sg, (sg_div hm).1]
 simp (disch := omega) only [wt, seval, reduceCtorEq, Nat.reduceEqDiff, cpoly_len]
 refine call_by (m) (by rfl) (by simp) ?_
 simp (disch := omega) only [wt, seval, reduceCtorEq, Nat.reduceEqDiff, cpoly_len]
 refine call_by (i1) (by rfl) (by simp) ?_
 simp (disch := omega) only [wt, seval, reduceCtorEq, Nat.reduceEqDiff, cpoly_len]
def digAt (f : Fr) (t : Nat) : Nat := match f t with
 | .iv (.sl rows) => vl D16 (rows.map fun r => match r with | [.int _ n] => n.toNat | _ => 0)
 | _ => 0
theorem digAt_of {f : Fr} {t : Nat} {l : List Nat} (h : f t = .iv (.sl (nums l))) : digAt f t = vl D16 l := by
 unfold digAt
 rw [h]
 simp only [nums, List.map_map]
 congr 1
 conv => rhs; rw [← List.map_id l]
 exact List.map_congr_left fun x _ => by simp
theorem dgD_mono {a b : Nat} (h : a ≤ b) : (dgD a).length ≤ (dgD b).length := by
 have h1 := vlD_lt (dgD_dig b)
 rw [vl_dgD] at h1
 exact (dg_length_le two_le_D (dgD b).length (n := a)).mpr (Nat.lt_of_le_of_lt h h1)
theorem rGcd_ok (a b : List Nat) (ha : Lim a) (hb : Lim b) (hla : a.length ≤ 2 ^ 38) (hlb : b.length ≤ 2 ^ 38) : AC Tryz.prog 170 [cl a, cl b] none [cl (wd (Nat.gcd (nv a) (nv b)))] := by
 refine AC.by_walk (rs := [.tmp 4]) ords Tryz.func170 (by rfl) (by rfl) (by rfl) (by rfl) (by rfl) ?_
 obtain ⟨x, y, s, h1, h2⟩ := rones_ok a b 63 ha hb (by omega) (by omega) (by omega)
 have h3 := dgD_len ha
 have h4 := dgD_len hb
 simp (disch := omega) only [wt, seval, reduceCtorEq, Nat.reduceEqDiff, cpoly_len]
 refine call_by (h1) (by rfl) (by simp) ?_
 simp (disch := omega) only [wt, seval, reduceCtorEq, Nat.reduceEqDiff, cpoly_len]
 cases s with
 | true =>
  obtain ⟨rfl, rfl, b1, b2⟩ := h2 rfl
  clear h1 h2
  generalize nv a = x at *
  generalize nv b = y at *
  refine aloop_by (fun f H => ∃ (u v : Nat), Nat.gcd u v = Nat.gcd x y ∧ u < 2 ^ 63 ∧ v < 2 ^ 63 ∧ f 6 = .iv (.int .u64 v) ∧ f 5 = .iv (.int .u64 u) ∧ f 7 = .iv (.bool true)) (fun f H => (intAt f 6).toNat) ?_ ?_
  ·refine ⟨x, y, rfl, b1, b2, ?_⟩
   simp (disch := omega) only [wt, seval, reduceCtorEq, Nat.reduceEqDiff, cpoly_len]
  rintro f H ⟨u, v, hg, hu, hv, hF⟩
  rw [intAt_of hF.1]
  simp (disch := omega) only [wt, seval, reduceCtorEq, Nat.reduceEqDiff, cpoly_len, hF]
  by_cases hp : 0 < v
  ·have hp' : (0 : Int) < (v : Int) := by omega
   have e2 : ((u : Nat) : Int).tmod ((v : Nat) : Int) = ((u % v : Nat) : Int) := by rw [Int.tmod_eq_emod_of_nonneg (by omega)]; rfl
   have hlt := Nat.mod_lt u hp
   generalize hr : u % v = r at *
   simp (disch := omega) only [wt, seval, reduceCtorEq, Nat.reduceEqDiff, cpoly_len, hF, hp', e2]
   refine .inl ⟨tmps_by (by kernel_rfl), ?_⟩
   first | exact log_by (by kernel_rfl) | refine ⟨log_by (by kernel_rfl), ?_⟩
   refine ⟨⟨v, r, ?_, hv, by omega, rfl, rfl⟩, by omega⟩
   rw [← hg, ← hr, Nat.gcd_comm u v, Nat.gcd_rec v u, Nat.gcd_comm]
  ·obtain rfl : v = 0 := by omega
   rw [Nat.gcd_zero_right] at hg
   subst hg
   simp (disch := omega) only [wt, seval, reduceCtorEq, Nat.reduceEqDiff, cpoly_len, hF]
   refine call_by ((rof_ok (Nat.gcd x y) (by simp only [W]; omega))) (by first | rfl | (simp only [tocvs, tocv, toboxes, tobox, updH_at, Nat.reduceEqDiff, ↓reduceIte, hF]; rfl)) (by simp) ?_
   simp (disch := omega) only [wt, seval, reduceCtorEq, Nat.reduceEqDiff, cpoly_len, hF]
 | false =>
  clear h2
  refine aloop_by (fun f H => True ∧ f 6 = .iv (.int .u64 y) ∧ f 5 = .iv (.int .u64 x) ∧ f 7 = .iv (.bool false) ∧ f 0 = .iv (.sl (lims a)) ∧ f 1 = .iv (.sl (lims b))) (fun f H => (intAt f 6).toNat) ?_ ?_
  ·refine ⟨trivial, ?_⟩
   simp (disch := omega) only [wt, seval, reduceCtorEq, Nat.reduceEqDiff, cpoly_len]
  rintro f H ⟨_, hF⟩
  rw [intAt_of hF.1]
  simp (disch := omega) only [wt, seval, reduceCtorEq, Nat.reduceEqDiff, cpoly_len, hF]
  refine call_by ((rdig_ok a ha (by omega))) (by first | rfl | (simp only [tocvs, tocv, toboxes, tobox, updH_at, Nat.reduceEqDiff, ↓reduceIte, hF]; rfl)) (by simp) ?_
  simp (disch := omega) only [wt, seval, reduceCtorEq, Nat.reduceEqDiff, cpoly_len, hF]
  refine call_by ((rdig_ok b hb (by omega))) (by first | rfl | (simp only [tocvs, tocv, toboxes, tobox, updH_at, Nat.reduceEqDiff, ↓reduceIte, hF]; rfl)) (by simp) ?_
  simp (disch := omega) only [wt, seval, reduceCtorEq, Nat.reduceEqDiff, cpoly_len, hF]
  generalize nv a = x1 at *
  generalize nv b = y1 at *
  refine aloop_by (fun f H => ∃ u v : Nat, Nat.gcd u v = Nat.gcd x1 y1 ∧ (dgD u).length ≤ 2 ^ 40 ∧ (dgD v).length ≤ 2 ^ 40 ∧ f 8 = .iv (.sl (nums (dgD u))) ∧ f 9 = .iv (.sl (nums (dgD v)))) (fun f H => digAt f 9) ?_ ?_
  ·exact ⟨x1, y1, rfl, by omega, by omega, by simp (disch := omega) only [wt, seval, reduceCtorEq, Nat.reduceEqDiff, cpoly_len]⟩
  clear hF
  rintro f H ⟨u, v, hg, hu, hv, hF⟩
  rw [digAt_of hF.2, vl_dgD]
  simp (disch := omega) only [wt, seval, reduceCtorEq, Nat.reduceEqDiff, cpoly_len, hF]
  refine if_by (fun h => ?_) (fun h => ?_)
  ·have h0 : v ≠ 0 := fun h1 => by rw [h1, dgD_len_zero.mpr rfl] at h; simp at h
   obtain ⟨q, q1, q2, q3, m⟩ := divide_g u v h0 (by omega) (by omega)
   have hlt := Nat.mod_lt u (Nat.pos_of_ne_zero h0)
   have hml := dgD_mono (Nat.le_of_lt hlt)
   have mc := rcut_ok (dgD (u % v)) (by omega)
   rw [dgD_of (dgD_dig _), vl_dgD] at mc
   simp (disch := omega) only [wt, seval, reduceCtorEq, Nat.reduceEqDiff, cpoly_len, hF]
   refine call_by (m) (by first | rfl | (simp only [tocvs, tocv, toboxes, tobox, updH_at, Nat.reduceEqDiff, ↓reduceIte, hF]; rfl)) (by simp) ?_
   simp (disch := omega) only [wt, seval, reduceCtorEq, Nat.reduceEqDiff, cpoly_len, hF]
   refine call_by (mc) (by first | rfl | (simp only [tocvs, tocv, toboxes, tobox, updH_at, Nat.reduceEqDiff, ↓reduceIte, hF]; rfl)) (by simp) ?_
   simp (disch := omega) only [wt, seval, reduceCtorEq, Nat.reduceEqDiff, cpoly_len, hF]
   rw [digAt_of rfl, vl_dgD]
   exact ⟨⟨v, u % v, by rw [← hg, Nat.gcd_comm u v, Nat.gcd_rec v u, Nat.gcd_comm], hv, by omega, rfl, rfl⟩, hlt⟩
  ·have h0 : v = 0 := dgD_len_zero.mp (by omega)
   subst h0
   rw [Nat.gcd_zero_right] at hg
   subst hg
   have mn := rnumber_ok (dgD (Nat.gcd x1 y1)) (dgD_dig _) (by omega)
   rw [vl_dgD] at mn
   simp (disch := omega) only [wt, seval, reduceCtorEq, Nat.reduceEqDiff, cpoly_len, hF]
   refine call_by (mn) (by first | rfl | (simp only [tocvs, tocv, toboxes, tobox, updH_at, Nat.reduceEqDiff, ↓reduceIte, hF]; rfl)) (by simp) ?_
   simp (disch := omega) only [wt, seval, reduceCtorEq, Nat.reduceEqDiff, cpoly_len, hF]
theorem sover_gen (p : List RI) (c : RI) (hp : RP (2 ^ 30) (2 ^ 35) p) (hc : Sz (2 ^ 35) c) (h0 : iv c ≠ 0) (res : List CV)
  (hgood : (∀ k, iv c ∣ cf (pv p) k) → res = [cp (pdivs (iv c) (pv p)), ci 0]) (hbad : (¬ ∀ k, iv c ∣ cf (pv p) k) → res = [cw [], ci 4]) : AC Tryz.prog 203 [cw p, cr c] none res := by
 refine AC.by_walk (rs := [.tmp 4, .tmp 5]) ords Tryz.func203 (by rfl) (by rfl) (by rfl) (by rfl) (by rfl) ?_
 have hl := hp.1
 have hs0 : (iv c).sign ≠ 0 := fun h => h0 (Int.sign_eq_zero_iff_zero.mp h)
 have hn : nv c.2 ≠ 0 := fun h => h0 (by rw [iv_sg, h]; cases c.1 <;> rfl)
 simp (disch := omega) only [wt, seval, reduceCtorEq, Nat.reduceEqDiff, cpoly_len]
 refine call_by ((rSign_ok c (hc.mono (by omega)))) (by rfl) (by simp) ?_
 simp (disch := omega) only [wt, seval, reduceCtorEq, Nat.reduceEqDiff, cpoly_len]
 simp (disch := omega) only [wt, seval, reduceCtorEq, Nat.reduceEqDiff, cpoly_len, hs0]
 refine aloop_nil 6 6 27 2 (by simp (disch := omega) only [wt, seval, reduceCtorEq, Nat.reduceEqDiff, cpoly_len]) (fun f H => ∃ (i st st3 : Nat), i ≤ p.length ∧ (∀ k, k < i → iv c ∣ cf (pv p) k) ∧ f 7 = .iv (.int .i64 i) ∧ f 0 = .iv (.sl (raws p)) ∧ f 3 = .hp 3 st3 0 0 ∧ f 6 = .hs 6 st ∧ H 6 = .blk false st 27 2 (raws (((pdivs (iv c) (pv p)).take i).map canon)) ∧ H 3 = .blk false st3 27 2 [prow c]) (fun f H => (p.length - intAt f 7).toNat) ?_ ?_
 ·refine ⟨0, 1, 1, by omega, fun k hk => by omega, ?_⟩
  simp (disch := omega) only [wt, seval, reduceCtorEq, Nat.reduceEqDiff, cpoly_len, ghostF, ghostH, List.take_zero]
 rintro f H ⟨i, st, st3, hi, hv, hF⟩
 rw [intAt_of hF.1]
 simp (disch := omega) only [wt, seval, reduceCtorEq, Nat.reduceEqDiff, cpoly_len, hF]
 refine if_by (fun hlt => ?_) (fun hlt => ?_)
 ·have hci := hp.get i
  have hq : (((pdivs (iv c) (pv p)).take i).map canon).length = i := by rw [List.length_map, List.length_take, pdivs, List.length_map, pv_len]; omega
  have hmd : nv (p.getD i (false, [])).2 % nv c.2 = 0 ↔ iv c ∣ cf (pv p) i := by rw [cf_pv, iv_sg, iv_sg (p.getD i (false, [])), sg_dvd]
  have m := rQuo_ok (p.getD i (false, [])).2 c.2 hci.2 hc.2 (by have := hci.1; omega) (by have := hc.1; omega) hn
  have hrl : (wd (nv (p.getD i (false, [])).2 % nv c.2)).length ≤ 2 ^ 40 := by
   have := wd_len_mono (Nat.mod_le (nv (p.getD i (false, [])).2) (nv c.2))
   have := nv_len hci.2
   have := hci.1
   omega
  have mz := rZero_ok (wd (nv (p.getD i (false, [])).2 % nv c.2)) (lim_wd _) hrl
  rw [nv_wd] at mz
  simp (disch := omega) only [wt, seval, reduceCtorEq, Nat.reduceEqDiff, cpoly_len, hF, hq]
  refine .inl ⟨tmps_by (by kernel_rfl), ?_⟩
  refine call_by (m) (by first | rfl | (simp only [tocvs, tocv, toboxes, tobox, updH_at, Nat.reduceEqDiff, ↓reduceIte, hF, hq]; rfl)) (by simp) ?_
  simp (disch := omega) only [wt, seval, reduceCtorEq, Nat.reduceEqDiff, cpoly_len, hF, hq]
  first | exact log_by (by kernel_rfl) | refine ⟨log_by (by kernel_rfl), ?_⟩
  refine call_by (mz) (by first | rfl | (simp only [tocvs, tocv, toboxes, tobox, updH_at, Nat.reduceEqDiff, ↓reduceIte, hF, hq]; rfl)) (by simp) ?_
  simp (disch := omega) only [wt, seval, reduceCtorEq, Nat.reduceEqDiff, cpoly_len, hF, hq]
  by_cases hdv : nv (p.getD i (false, [])).2 % nv c.2 = 0
  ·have hdi := hmd.mp hdv
   rw [cf_pv] at hdi
   have me := rExact_ok (p.getD i (false, [])) c (hci.mono (by omega)) (hc.mono (by omega)) h0 hdi
   rw [← cf_pv] at me
   simp (disch := omega) only [wt, seval, reduceCtorEq, Nat.reduceEqDiff, cpoly_len, hF, hq, hdv]
   refine .inl ⟨tmps_by (by kernel_rfl), ?_⟩
   refine call_by (me) (by first | rfl | (simp only [tocvs, tocv, toboxes, tobox, updH_at, Nat.reduceEqDiff, ↓reduceIte, hF, hq, hdv]; rfl)) (by simp) ?_
   simp (disch := omega) only [wt, seval, reduceCtorEq, Nat.reduceEqDiff, cpoly_len, hF, hq, hdv]
   first | exact log_by (by kernel_rfl) | refine ⟨log_by (by kernel_rfl), ?_⟩
   refine ⟨⟨i + 1, st + 1, st3, by omega, fun k hk => ?_, ?_⟩, by omega⟩
   ·rcases Nat.lt_or_ge k i with hk' | hk'
    ·exact hv k hk'
    ·obtain rfl : k = i := by omega
     rw [cf_pv]; exact hdi
   ·have e : (pdivs (iv c) (pv p)).take (i + 1) = (pdivs (iv c) (pv p)).take i ++ [cf (pv p) i / iv c] := by
     rw [List.take_add_one]; congr 1
     rw [← cf_pdivs]; simp [cf, List.getD, show i < (pdivs (iv c) (pv p)).length by rw [pdivs, List.length_map, pv_len]; omega]
    rw [e]
    exact ⟨by omega, rfl, rfl, rfl, rfl⟩
  ·obtain rfl := hbad (fun h => hdv (hmd.mpr (h i)))
   simp (disch := omega) only [wt, seval, reduceCtorEq, Nat.reduceEqDiff, cpoly_len, hF, hq, hdv]
 ·obtain rfl : i = p.length := by omega
  have hall : ∀ k, iv c ∣ cf (pv p) k := fun k => by
   rcases Nat.lt_or_ge k p.length with hk | hk
   ·exact hv k hk
   ·rw [cf_ge (by rw [pv_len]; omega)]; exact Int.dvd_zero _
  obtain rfl := hgood hall
  rw [List.take_of_length_le (by rw [pdivs, List.length_map, pv_len]; exact Nat.le_refl _)] at hF
  have mn := snorm_ok ((pdivs (iv c) (pv p)).map canon) (RP.canon (.of (by rw [pdivs, List.length_map, pv_len]; omega) fun k => by
   rw [cf_pdivs]
   have := zl_div (hall k)
   have := hp.pv.cf k
   omega))
  rw [pv_canon] at mn
  simp (disch := omega) only [wt, seval, reduceCtorEq, Nat.reduceEqDiff, cpoly_len, hF]
  refine call_by (mn) (by first | rfl | (simp only [tocvs, tocv, toboxes, tobox, updH_at, Nat.reduceEqDiff, ↓reduceIte, hF]; rfl)) (by simp) ?_
  simp (disch := omega) only [wt, seval, reduceCtorEq, Nat.reduceEqDiff, cpoly_len, hF]
end Go.Proofs.YtdokaihemcnkmaaGreat
