/-
 Contracts of the functions that the law reaches.
-/
import Derived.Test.YtdokaihemcnkmaaGreatL55M
import Derived.Test.YtdokaihemcnkmaaGreatAbsY
set_option maxHeartbeats 2000000
namespace Go.Proofs.YtdokaihemcnkmaaGreat
open Go Go.Proofs Go.AL
set_option linter.unusedSimpArgs false
set_option linter.unusedVariables false
set_option linter.defProp false
@[reducible] def zK : Zi := ⟨none, (· == 178), fun _ => false, .strip⟩
theorem zbxK (e : Nat) : @Zi.bx zK e = (e == 178) := rfl
theorem zbsK (e : Nat) : @Zi.bs zK e = false := rfl
theorem zstK : @Zi.st zK = .strip := rfl
theorem zslK : @zsl zK = .sl [] := rfl
theorem stripV_iv (x : IV) : stripV (.iv x) = .iv (stripI x) := rfl
theorem stripV_agg (cs : List IV) : stripV (.agg cs) = .agg (cs.map stripI) := rfl
theorem stripI_av (X : Nat → Prop) (x : IV) : stripI (.av X x) = x := rfl
theorem stripI_sl (r : List (List IV)) : stripI (.sl r) = .sl r := rfl
theorem stripI_bool (b : Bool) : stripI (.bool b) = .bool b := rfl
theorem stripI_int (k : IntKind) (n : Int) : stripI (.int k n) = .int k n := rfl
theorem stripI_own (b : OB) (e sz : Nat) (r : List (List IV)) : stripI (.own b e sz r) = .own b e sz r := rfl
abbrev case9v (B0 : Nat) (A B C : List RI) (K : RI) (N : Int) : List IV := [.av (fun b => B0 ≤ b) (.sl (raws A)), .av (fun b => B0 ≤ b) (.sl (raws B)), .av (fun b => B0 ≤ b) (.sl (raws C)), .bool K.1, .av (fun b => B0 ≤ b) (.sl (lims K.2)), .int .i64 N]
theorem case9_soft (A B C : List RI) (K : RI) (N : Int) (w : World) (D : Nat → Prop) (t : Nat) (v : Value) (h : AVRep w (DD initH (fun _ => default) D) initH (fun _ => default) (initF [.agg (case9 A B C K N)] t) v) :
  AVRep w (DD initH (fun _ => default) D) initH (fun _ => default) (initF [.agg (case9v w.heap.size A B C K N)] t) v := by
 cases t with
 | zero =>
  simp only [initF, List.map_cons, List.map_nil, List.getElem?_cons_zero, Option.getD_some, CV.av, AVRep] at h ⊢
  obtain ⟨cs, rfl, hr⟩ := h
  refine ⟨cs, rfl, ?_⟩
  match hcs : cs.toList, hr with
  | [a, b, c, d, e, f], hr => exact ⟨.av _ _ _ hr.1.fresh, .av _ _ _ hr.2.1.fresh, .av _ _ _ hr.2.2.1.fresh, hr.2.2.2.1, .av _ _ _ hr.2.2.2.2.1.fresh, hr.2.2.2.2.2.1, trivial⟩
 | succ t => simpa [initF] using h
def wxS := And.intro @stripV_iv (And.intro @stripV_agg (And.intro @stripI_av (And.intro @stripI_sl (And.intro @stripI_bool (And.intro @stripI_int (And.intro @stripI_own (And.intro @lay_own (And.intro @spl_own (And.intro @fld_int1 (And.intro @AWs_succ (@AWs_zero)))))))))))
def wxK := And.intro @wxS (And.intro @zbxK (And.intro @zbsK (And.intro @zstK (@zslK))))
end Go.Proofs.YtdokaihemcnkmaaGreat

namespace Go.Proofs.YtdokaihemcnkmaaGreat
open Go Go.Proofs Go.AL
set_option linter.unusedSimpArgs false
set_option linter.unusedVariables false
abbrev RmV (bo bi : OB) (bs cs : List OB) (p : List RI) : List IV := [.own bo 27 2 (gws bs p), .own bo 27 2 (gws (bs ++ cs) (p ++ spares)), .own bi (if p = [] then 0 else 25) (if p = [] then 0 else 1) (iws bs p)]
def RmOk (bo bi : OB) (bs cs : List OB) (p : List RI) (B E : Nat) : Prop := bs.length = p.length ∧ cs.length = 6 ∧ Nw B E (oid bo ++ oid bi ++ ids bs ++ ids cs)
def SA (A B C : List RI) (K : RI) (N : Int) (B0 : Nat) (f : AL.Fr) (H : AL.Hp) : Prop :=
 RP 40 200 A ∧ RP 40 200 B ∧ Sz 200 K ∧ f 1 = .hp 1 1 0 0 ∧ H 1 = .blk false 1 29 6 [case9v B0 A B C K N] ∧
 ∃ (xo xi : OB) (xs xc : List OB) (yo yi : OB) (ys yc : List OB) (ko ki : OB) (ks kc : List OB) (E1 E2 E3 : Nat),
  B0 ≤ E1 ∧ E1 ≤ E2 ∧ E2 ≤ E3 ∧ RmOk xo xi xs xc A B0 E1 ∧ RmOk yo yi ys yc B E1 E2 ∧ RmOk ko ki ks kc [K] E2 E3 ∧ H 999 = .mrk E3 ∧
  f 3 = .hp 3 1 0 0 ∧ H 3 = .blk false 1 35 3 [RmV xo xi xs xc A] ∧ f 4 = .hp 4 1 0 0 ∧ H 4 = .blk false 1 35 3 [RmV yo yi ys yc B] ∧ f 5 = .hp 5 1 0 0 ∧ H 5 = .blk false 1 35 3 [RmV ko ki ks kc [K]]
set_option maxRecDepth 8000 in
set_option maxHeartbeats 4000000 in
theorem keeps_a (A B C : List RI) (K : RI) (N : Int) (ha : Raw A) (hb : Raw B) (hc : Raw C) (hK : Sz 9223372036854775807 K) (hn1 : -9223372036854775808 ≤ N) (hn2 : N ≤ 9223372036854775807)
  (hrest : ∀ (w : World) (D : Nat → Prop) (f : AL.Fr) (H : AL.Hp) (β : Nat → Value) (a : Act) (w' : World), SA A B C K N w.heap.size f H → Rel ⟨fun _ _ => False, true⟩ (fun _ => False) w D Tryz.f3.ntmps f H β a w' →
   (codeDrop 5 (bodyOf Tryz.prog 3)).wpIn (Wd none) 0 Tryz.prog (Conc ⟨fun _ _ => False, false⟩ (fun _ => False) w D Tryz.f3.ntmps (@RetC zK Tryz.prog [.tmp 2] none [cb true])) a w') :
  AC Tryz.prog 3 [.agg (case9 A B C K N)] none [cb true] := by
 refine AC.by_segsA (zi := zK) (rs := [.tmp 2]) ords Tryz.func3 (by rfl) (by rfl) (by rfl) (by rfl) (by rfl) (by rfl) (fun B0 => [.agg (case9v B0 A B C K N)]) (case9_soft A B C K N) 5 (SA A B C K N) (fun B0 => ?_) hrest
 ·simp (disch := omega) only [wt, seval, reduceCtorEq, Nat.reduceEqDiff, cpoly_len, List.drop_succ_cons, List.take_succ_cons, List.take_zero, Nat.reduceBEq, wxK]
  refine call_by (awake_ok) (by rfl) (by simp) ?_
  simp (disch := omega) only [wt, seval, reduceCtorEq, Nat.reduceEqDiff, cpoly_len, List.drop_succ_cons, List.take_succ_cons, List.take_zero, Nat.reduceBEq, wxK]
  refine call_by ((great2_ok A B ha hb)) (by rfl) (by simp) ?_
  simp (disch := omega) only [wt, seval, reduceCtorEq, Nat.reduceEqDiff, cpoly_len, List.drop_succ_cons, List.take_succ_cons, List.take_zero, Nat.reduceBEq, wxK]
  by_cases hz : gp [A, B] = true
  ·simp (disch := omega) only [wt, seval, reduceCtorEq, Nat.reduceEqDiff, cpoly_len, List.drop_succ_cons, List.take_succ_cons, List.take_zero, Nat.reduceBEq, wxK, hz]
  have hz : gp [A, B] = false := by simpa using hz
  simp (disch := omega) only [wt, seval, reduceCtorEq, Nat.reduceEqDiff, cpoly_len, List.drop_succ_cons, List.take_succ_cons, List.take_zero, Nat.reduceBEq, wxK, hz]
  refine call_by ((one_great_ok K hK)) (by first | rfl | (simp only [tocvs, tocv, toboxes, tobox, updH_at, Nat.reduceEqDiff, ↓reduceIte, hz]; rfl)) (by simp) ?_
  simp (disch := omega) only [wt, seval, reduceCtorEq, Nat.reduceEqDiff, cpoly_len, List.drop_succ_cons, List.take_succ_cons, List.take_zero, Nat.reduceBEq, wxK, hz]
  by_cases hk : gi [K] = true
  ·simp (disch := omega) only [wt, seval, reduceCtorEq, Nat.reduceEqDiff, cpoly_len, List.drop_succ_cons, List.take_succ_cons, List.take_zero, Nat.reduceBEq, wxK, hz, hk]
  have hk : gi [K] = false := by simpa using hk
  simp (disch := omega) only [wt, seval, reduceCtorEq, Nat.reduceEqDiff, cpoly_len, List.drop_succ_cons, List.take_succ_cons, List.take_zero, Nat.reduceBEq, wxK, hz, hk]
  have ra := great_sub hz (by simp) ha
  have rb := great_sub hz (by simp) hb
  have rk := gints_sub hK hk
  have qa : RP 1000 (2 ^ 40) A := ra.mono (by decide) (by decide)
  have qb : RP 1000 (2 ^ 40) B := rb.mono (by decide) (by decide)
  have qk : RP 1000 (2 ^ 40) [K] := ⟨by simp, fun c hc => by simp at hc; subst hc; exact rk.mono (by decide)⟩
  refine .inr ⟨[0, 1, 3, 4, 6, 7, 2, 5, 8, 9], [0, 1, 6, 2, 3, 7, 4, 5, 8, 9], by kernel_rfl, tmps_by (by kernel_rfl), ?_⟩
  simp only [permL, renm, List.map_cons, List.map_nil, List.getD_cons_zero, List.getD_cons_succ]
  simp (disch := omega) only [wt, seval, reduceCtorEq, Nat.reduceEqDiff, cpoly_len, List.drop_succ_cons, List.take_succ_cons, List.take_zero, Nat.reduceBEq, wxK]
  refine callx_by ((room_ok A qa)) (by first | rfl | (simp only [tocvs, tocv, toboxes, tobox, updH_at, Nat.reduceEqDiff, ↓reduceIte, hz, hk]; rfl)) (by simp) (by first | rfl | assumption | (simp (disch := omega) only [wt, seval, reduceCtorEq, Nat.reduceEqDiff, cpoly_len, List.drop_succ_cons, List.take_succ_cons, List.take_zero, Nat.reduceBEq, wxK, hz, hk]; done) | ((repeat (replace hF := hF.2)); exact hF)) ?_
  rintro B1 E1 _ hB1 hE1 ⟨xo, xi, xs, xc, rfl, xl, xn, xw⟩
  simp (disch := omega) only [wt, seval, reduceCtorEq, Nat.reduceEqDiff, cpoly_len, List.drop_succ_cons, List.take_succ_cons, List.take_zero, Nat.reduceBEq, wxK, hz, hk]
  refine callx_by ((room_ok B qb)) (by first | rfl | (simp only [tocvs, tocv, toboxes, tobox, updH_at, Nat.reduceEqDiff, ↓reduceIte, hz, hk]; rfl)) (by simp) (by first | rfl | assumption | (simp (disch := omega) only [wt, seval, reduceCtorEq, Nat.reduceEqDiff, cpoly_len, List.drop_succ_cons, List.take_succ_cons, List.take_zero, Nat.reduceBEq, wxK, hz, hk]; done) | ((repeat (replace hF := hF.2)); exact hF)) ?_
  rintro B2 E2 _ hB2 hE2 ⟨yo, yi, ys, yc, rfl, yl, yn, yw⟩
  simp (disch := omega) only [wt, seval, reduceCtorEq, Nat.reduceEqDiff, cpoly_len, List.drop_succ_cons, List.take_succ_cons, List.take_zero, Nat.reduceBEq, wxK, hz, hk]
  first | exact log_by (by kernel_rfl) | refine ⟨log_by (by kernel_rfl), ?_⟩
  refine callx_by ((room_ok [K] qk)) (by first | rfl | (simp only [tocvs, tocv, toboxes, tobox, updH_at, Nat.reduceEqDiff, ↓reduceIte, hz, hk]; rfl)) (by simp) (by first | rfl | assumption | (simp (disch := omega) only [wt, seval, reduceCtorEq, Nat.reduceEqDiff, cpoly_len, List.drop_succ_cons, List.take_succ_cons, List.take_zero, Nat.reduceBEq, wxK, hz, hk]; done) | ((repeat (replace hF := hF.2)); exact hF)) ?_
  rintro B3 E3 _ hB3 hE3 ⟨ko, ki, ks, kc, rfl, kl, kn, kw⟩
  simp (disch := omega) only [wt, seval, reduceCtorEq, Nat.reduceEqDiff, cpoly_len, List.drop_succ_cons, List.take_succ_cons, List.take_zero, Nat.reduceBEq, wxK, hz, hk]
  refine ⟨ra, rb, rk, by first | (simp (disch := omega) only [wt, seval, reduceCtorEq, Nat.reduceEqDiff, cpoly_len, List.drop_succ_cons, List.take_succ_cons, List.take_zero, Nat.reduceBEq, wxK]; done) | (simp (disch := omega) only [wt, seval, reduceCtorEq, Nat.reduceEqDiff, cpoly_len, List.drop_succ_cons, List.take_succ_cons, List.take_zero, Nat.reduceBEq, wxK]; rfl) | rfl, by first | (simp (disch := omega) only [wt, seval, reduceCtorEq, Nat.reduceEqDiff, cpoly_len, List.drop_succ_cons, List.take_succ_cons, List.take_zero, Nat.reduceBEq, wxK]; done) | (simp (disch := omega) only [wt, seval, reduceCtorEq, Nat.reduceEqDiff, cpoly_len, List.drop_succ_cons, List.take_succ_cons, List.take_zero, Nat.reduceBEq, wxK]; rfl) | rfl, xo, xi, xs, xc, yo, yi, ys, yc, ko, ki, ks, kc, E1, E2, E3, by omega, by omega, by omega, ⟨xl, xn, xw.mono hB1 (Nat.le_refl _)⟩, ⟨yl, yn, yw.mono hB2 (Nat.le_refl _)⟩, ⟨kl, kn, kw.mono hB3 (Nat.le_refl _)⟩, by first | (simp (disch := omega) only [wt, seval, reduceCtorEq, Nat.reduceEqDiff, cpoly_len, List.drop_succ_cons, List.take_succ_cons, List.take_zero, Nat.reduceBEq, wxK]; done) | (simp (disch := omega) only [wt, seval, reduceCtorEq, Nat.reduceEqDiff, cpoly_len, List.drop_succ_cons, List.take_succ_cons, List.take_zero, Nat.reduceBEq, wxK]; rfl) | rfl, by first | (simp (disch := omega) only [wt, seval, reduceCtorEq, Nat.reduceEqDiff, cpoly_len, List.drop_succ_cons, List.take_succ_cons, List.take_zero, Nat.reduceBEq, wxK]; done) | (simp (disch := omega) only [wt, seval, reduceCtorEq, Nat.reduceEqDiff, cpoly_len, List.drop_succ_cons, List.take_succ_cons, List.take_zero, Nat.reduceBEq, wxK]; rfl) | rfl, by first | (simp (disch := omega) only [wt, seval, reduceCtorEq, Nat.reduceEqDiff, cpoly_len, List.drop_succ_cons, List.take_succ_cons, List.take_zero, Nat.reduceBEq, wxK]; done) | (simp (disch := omega) only [wt, seval, reduceCtorEq, Nat.reduceEqDiff, cpoly_len, List.drop_succ_cons, List.take_succ_cons, List.take_zero, Nat.reduceBEq, wxK]; rfl) | rfl, by first | (simp (disch := omega) only [wt, seval, reduceCtorEq, Nat.reduceEqDiff, cpoly_len, List.drop_succ_cons, List.take_succ_cons, List.take_zero, Nat.reduceBEq, wxK]; done) | (simp (disch := omega) only [wt, seval, reduceCtorEq, Nat.reduceEqDiff, cpoly_len, List.drop_succ_cons, List.take_succ_cons, List.take_zero, Nat.reduceBEq, wxK]; rfl) | rfl, by first | (simp (disch := omega) only [wt, seval, reduceCtorEq, Nat.reduceEqDiff, cpoly_len, List.drop_succ_cons, List.take_succ_cons, List.take_zero, Nat.reduceBEq, wxK]; done) | (simp (disch := omega) only [wt, seval, reduceCtorEq, Nat.reduceEqDiff, cpoly_len, List.drop_succ_cons, List.take_succ_cons, List.take_zero, Nat.reduceBEq, wxK]; rfl) | rfl, by first | (simp (disch := omega) only [wt, seval, reduceCtorEq, Nat.reduceEqDiff, cpoly_len, List.drop_succ_cons, List.take_succ_cons, List.take_zero, Nat.reduceBEq, wxK]; done) | (simp (disch := omega) only [wt, seval, reduceCtorEq, Nat.reduceEqDiff, cpoly_len, List.drop_succ_cons, List.take_succ_cons, List.take_zero, Nat.reduceBEq, wxK]; rfl) | rfl, by first | (simp (disch := omega) only [wt, seval, reduceCtorEq, Nat.reduceEqDiff, cpoly_len, List.drop_succ_cons, List.take_succ_cons, List.take_zero, Nat.reduceBEq, wxK]; done) | (simp (disch := omega) only [wt, seval, reduceCtorEq, Nat.reduceEqDiff, cpoly_len, List.drop_succ_cons, List.take_succ_cons, List.take_zero, Nat.reduceBEq, wxK]; rfl) | rfl⟩
end Go.Proofs.YtdokaihemcnkmaaGreat

namespace Go.Proofs.YtdokaihemcnkmaaGreat
open Go Go.Proofs Go.AL
set_option linter.unusedSimpArgs false
set_option linter.unusedVariables false
def rp (ps : List (List Int)) : List (List IV) := ps.map fun q => [.sl (raws (q.map canon))]
def rn (ns : List (List Nat)) : List (List IV) := ns.map fun n => [.sl (lims n)]
set_option maxRecDepth 8000 in
set_option maxHeartbeats 4000000 in
theorem mean_ok (a b : List RI) (k : RI) (ha : RP 40 200 a) (hb : RP 40 200 b) (hk : Sz 200 k) : AC Tryz.prog 11 [cw a, cw b, cr k] none [.iv (.sl (rp (askp (pv a) (pv b) (iv k)))), .iv (.sl (rn (askn (pv a))))] := by
 refine AC.by_walk (rs := [.tmp 6, .tmp 7]) ords Tryz.func11 (by rfl) (by rfl) (by rfl) (by rfl) (by rfl) ?_
 have h1 := ha.mono (n' := 2 ^ 30) (k' := 2 ^ 30) (by decide) (by decide)
 have h2 := hb.mono (n' := 2 ^ 30) (k' := 2 ^ 30) (by decide) (by decide)
 have u := sup_ok a 2 (ha.mono (by decide) (by decide))
 rw [if_pos (by decide), if_neg (by decide), if_neg (by decide)] at u
 have m := smono_ok k 1 (hk.mono (by decide))
 rw [if_pos (by decide), if_neg (by decide), if_neg (by decide)] at m
 have c := scoef_ok a 0 (ha.mono (by decide) (by decide))
 rw [if_neg (by decide)] at c
 simp (disch := omega) only [wt, seval, reduceCtorEq, Nat.reduceEqDiff, lay_own, spl_own, fld_int1, range_5, range_16]
 refine call_by (u) (by rfl) (by simp) ?_
 simp (disch := omega) only [wt, seval, reduceCtorEq, Nat.reduceEqDiff, lay_own, spl_own, fld_int1, range_5, range_16]
 refine call_by ((snorm_ok a (ha.mono (by decide) (by decide)))) (by rfl) (by simp) ?_
 simp (disch := omega) only [wt, seval, reduceCtorEq, Nat.reduceEqDiff, lay_own, spl_own, fld_int1, range_5, range_16]
 refine call_by (m) (by rfl) (by simp) ?_
 simp (disch := omega) only [wt, seval, reduceCtorEq, Nat.reduceEqDiff, lay_own, spl_own, fld_int1, range_5, range_16]
 refine .inl ⟨tmps_by (by kernel_rfl), ?_⟩
 refine call_by ((sadd_ok a b (ha.mono (by decide) (by decide)) (hb.mono (by decide) (by decide)))) (by rfl) (by simp) ?_
 simp (disch := omega) only [wt, seval, reduceCtorEq, Nat.reduceEqDiff, lay_own, spl_own, fld_int1, range_5, range_16]
 refine call_by ((ssub_ok a b (ha.mono (by decide) (by decide)) (hb.mono (by decide) (by decide)))) (by rfl) (by simp) ?_
 simp (disch := omega) only [wt, seval, reduceCtorEq, Nat.reduceEqDiff, lay_own, spl_own, fld_int1, range_5, range_16]
 refine call_by ((sneg_ok a (ha.mono (by decide) (by decide)))) (by rfl) (by simp) ?_
 simp (disch := omega) only [wt, seval, reduceCtorEq, Nat.reduceEqDiff, lay_own, spl_own, fld_int1, range_5, range_16]
 refine call_by ((smul_ok a b (ha.mono (by decide) (by decide)) (hb.mono (by decide) (by decide)))) (by rfl) (by simp) ?_
 simp (disch := omega) only [wt, seval, reduceCtorEq, Nat.reduceEqDiff, lay_own, spl_own, fld_int1, range_5, range_16]
 refine call_by ((sscale_ok a k (ha.mono (by decide) (by decide)) (hk.mono (by decide)))) (by rfl) (by simp) ?_
 simp (disch := omega) only [wt, seval, reduceCtorEq, Nat.reduceEqDiff, lay_own, spl_own, fld_int1, range_5, range_16]
 refine call_by ((sderiv_ok a (ha.mono (by decide) (by decide)))) (by rfl) (by simp) ?_
 simp (disch := omega) only [wt, seval, reduceCtorEq, Nat.reduceEqDiff, lay_own, spl_own, fld_int1, range_5, range_16]
 refine call_by ((sprim_ok a (ha.mono (by decide) (by decide)))) (by rfl) (by simp) ?_
 simp (disch := omega) only [wt, seval, reduceCtorEq, Nat.reduceEqDiff, lay_own, spl_own, fld_int1, range_5, range_16]
 first | exact log_by (by kernel_rfl) | refine ⟨log_by (by kernel_rfl), ?_⟩
 refine call_by ((slead_ok a (ha.mono (by decide) (by decide)))) (by rfl) (by simp) ?_
 simp (disch := omega) only [wt, seval, reduceCtorEq, Nat.reduceEqDiff, lay_own, spl_own, fld_int1, range_5, range_16]
 refine call_by (c) (by rfl) (by simp) ?_
 simp (disch := omega) only [wt, seval, reduceCtorEq, Nat.reduceEqDiff, lay_own, spl_own, fld_int1, range_5, range_16]
 refine call_by ((scontent_ok a (ha.mono (by decide) (by decide)))) (by rfl) (by simp) ?_
 simp (disch := omega) only [wt, seval, reduceCtorEq, Nat.reduceEqDiff, lay_own, spl_own, fld_int1, range_5, range_16]
 refine call_by ((sheight_ok a (ha.mono (by decide) (by decide)))) (by rfl) (by simp) ?_
 simp (disch := omega) only [wt, seval, reduceCtorEq, Nat.reduceEqDiff, lay_own, spl_own, fld_int1, range_5, range_16]
 refine call_by ((sweight_ok a (ha.mono (by decide) (by decide)))) (by rfl) (by simp) ?_
 simp (disch := omega) only [wt, seval, reduceCtorEq, Nat.reduceEqDiff, lay_own, spl_own, fld_int1, range_5, range_16]
 exact ⟨rfl, rfl⟩
theorem rp_len (ps : List (List Int)) : (rp ps).length = ps.length := by simp [rp]
theorem rn_len (ns : List (List Nat)) : (rn ns).length = ns.length := by simp [rn]
theorem rp_get (ps : List (List Int)) {i : Nat} {q : List Int} (h : ps[i]? = some q) : (rp ps).getD i [] = [.sl (raws (q.map canon))] := by simp [rp, List.getD, h]
theorem rn_get (ns : List (List Nat)) {i : Nat} {q : List Nat} (h : ns[i]? = some q) : (rn ns).getD i [] = [.sl (lims q)] := by simp [rn, List.getD, h]
set_option maxRecDepth 8000 in
theorem like_ok (ps : List (List Int)) (ns : List (List Nat)) (hp : ps.length ≤ 1000) (hn : ns.length ≤ 1000) (hq : ∀ q ∈ ps, PB (2 ^ 40) (2 ^ 43) q) (hl : ∀ l ∈ ns, l.length ≤ 2 ^ 43) :
  AC Tryz.prog 13 [.iv (.sl (rp ps)), .iv (.sl (rp ps)), .iv (.sl (rn ns)), .iv (.sl (rn ns))] none [cb true] := by
 refine AC.by_walk (rs := [.tmp 8]) ords Tryz.func13 (by rfl) (by rfl) (by rfl) (by rfl) (by rfl) ?_
 have e1 := rp_len ps
 have e2 := rn_len ns
 simp (disch := omega) only [wt, seval, reduceCtorEq, Nat.reduceEqDiff, lay_own, spl_own, fld_int1, range_5, range_16, e1, e2]
 refine aloop_by (fun f H => ∃ i : Nat, i ≤ ps.length ∧ f 25 = .iv (.int .i64 i) ∧ f 24 = .iv (.int .i64 ps.length) ∧ f 0 = .iv (.sl (rp ps)) ∧ f 1 = .iv (.sl (rp ps)) ∧ f 2 = .iv (.sl (rn ns)) ∧ f 3 = .iv (.sl (rn ns))) (fun f H => (ps.length - intAt f 25).toNat) ?_ ?_
 ·refine ⟨0, by omega, ?_⟩
  simp (disch := omega) only [wt, seval, reduceCtorEq, Nat.reduceEqDiff, lay_own, spl_own, fld_int1, range_5, range_16]
 rintro f H ⟨i, hi, h25, h24, h0, h1, h2, h3⟩
 rw [intAt_of h25]
 simp (disch := omega) only [wt, seval, reduceCtorEq, Nat.reduceEqDiff, lay_own, spl_own, fld_int1, range_5, range_16, h25, h24, h0, h1, h2, h3]
 refine if_by (fun hlt => ?_) (fun hlt => ?_)
 ·obtain ⟨q, hpq⟩ : ∃ q, ps[i]? = some q := ⟨_, List.getElem?_eq_getElem (by omega)⟩
  have hg := rp_get ps hpq
  have hr : RP (2 ^ 40) (2 ^ 43) (q.map canon) := RP.canon (hq q (List.mem_of_getElem? hpq))
  simp (disch := omega) only [wt, seval, reduceCtorEq, Nat.reduceEqDiff, lay_own, spl_own, fld_int1, range_5, range_16, h25, h24, h0, h1, h2, h3, hg, e1]
  refine .inl ⟨tmps_by (by kernel_rfl), ?_⟩
  refine call_by ((same_ok _ _ hr hr)) (by first | rfl | (simp only [tocvs, tocv, toboxes, tobox, updH_at, Nat.reduceEqDiff, ↓reduceIte, h25, h24, h0, h1, h2, h3, hg, e1]; rfl)) (by simp) ?_
  simp (disch := omega) only [wt, seval, reduceCtorEq, Nat.reduceEqDiff, lay_own, spl_own, fld_int1, range_5, range_16, h25, h24, h0, h1, h2, h3, hg, e1]
  first | exact log_by (by kernel_rfl) | refine ⟨log_by (by kernel_rfl), ?_⟩
  exact ⟨⟨i + 1, by omega, rfl⟩, by omega⟩
 ·simp (disch := omega) only [wt, seval, reduceCtorEq, Nat.reduceEqDiff, lay_own, spl_own, fld_int1, range_5, range_16, h25, h24, h0, h1, h2, h3, e2]
  refine aloop_by (fun f H => ∃ i : Nat, i ≤ ns.length ∧ f 41 = .iv (.int .i64 i) ∧ f 40 = .iv (.int .i64 ns.length) ∧ f 2 = .iv (.sl (rn ns)) ∧ f 3 = .iv (.sl (rn ns))) (fun f H => (ns.length - intAt f 41).toNat) ?_ ?_
  ·refine ⟨0, by omega, ?_⟩
   simp (disch := omega) only [wt, seval, reduceCtorEq, Nat.reduceEqDiff, lay_own, spl_own, fld_int1, range_5, range_16, h2, h3]
  clear h25 h24 h0 h1 h2 h3 hlt
  rintro f H ⟨i, hi, h41, h40, h2, h3⟩
  rw [intAt_of h41]
  simp (disch := omega) only [wt, seval, reduceCtorEq, Nat.reduceEqDiff, lay_own, spl_own, fld_int1, range_5, range_16, h41, h40, h2, h3]
  refine if_by (fun hlt => ?_) (fun hlt => ?_)
  ·obtain ⟨q, hpq⟩ : ∃ q, ns[i]? = some q := ⟨_, List.getElem?_eq_getElem (by omega)⟩
   have hg := rn_get ns hpq
   have hr := hl q (List.mem_of_getElem? hpq)
   simp (disch := omega) only [wt, seval, reduceCtorEq, Nat.reduceEqDiff, lay_own, spl_own, fld_int1, range_5, range_16, h41, h40, h2, h3, hg, e2]
   refine .inl ⟨tmps_by (by kernel_rfl), ?_⟩
   refine call_by ((rSame_ok q q hr hr)) (by first | rfl | (simp only [tocvs, tocv, toboxes, tobox, updH_at, Nat.reduceEqDiff, ↓reduceIte, h41, h40, h2, h3, hg, e2]; rfl)) (by simp) ?_
   simp (disch := omega) only [wt, seval, reduceCtorEq, Nat.reduceEqDiff, lay_own, spl_own, fld_int1, range_5, range_16, h41, h40, h2, h3, hg, e2]
   first | exact log_by (by kernel_rfl) | refine ⟨log_by (by kernel_rfl), ?_⟩
   exact ⟨⟨i + 1, by omega, rfl⟩, by omega⟩
  ·simp (disch := omega) only [wt, seval, reduceCtorEq, Nat.reduceEqDiff, lay_own, spl_own, fld_int1, range_5, range_16, h41, h40, h2, h3]
end Go.Proofs.YtdokaihemcnkmaaGreat

namespace Go.Proofs.YtdokaihemcnkmaaGreat
open Go Go.Proofs Go.AL
set_option linter.unusedSimpArgs false
set_option linter.unusedVariables false
theorem spl3 (x y z a b c : IV) : splice [x, y, z] 0 [a, b, c] = [a, b, c] := rfl
theorem gws_key {bs : List OB} {p : List RI} {i : Nat} {r r' : List IV} (hr : (gws bs p)[i]? = some r) (hr' : (raws p)[i]? = some r') : ∃ o c, r = gint o c ∧ r' = prow c := by
 rw [gws, List.getElem?_zipWith] at hr
 simp only [raws, List.getElem?_map] at hr'
 cases hb : bs[i]? with
 | none => rw [hb] at hr; simp at hr
 | some o =>
  cases hp : p[i]? with
  | none => rw [hp] at hr'; cases hr'
  | some c =>
   rw [hb, hp] at hr; rw [hp] at hr'
   injection hr with hr; injection hr' with hr'
   exact ⟨o, c, hr.symm, hr'.symm⟩
theorem soft_gint (o : OB) (c : RI) : ∀ (j : Nat) (x y : IV), (gint o c)[j]? = some x → (prow c)[j]? = some y → Soft x y
 | 0, x, y, hx, hy => by cases hx; cases hy; exact .refl _
 | 1, x, y, hx, hy => by
  cases hx; cases hy
  refine .own _ _ _ _ _ rfl (fun i r r' h h' => ?_) (fun i r r' h h' j x x' hx hx' => ?_)
  ·rw [h] at h'; cases h'; rfl
  ·rw [h] at h'; cases h'; rw [hx] at hx'; cases hx'; exact .refl _
 | j + 2, x, y, hx, _ => by simp [gint] at hx
theorem soft_gws {b : OB} {e : Nat} {bs : List OB} {p : List RI} (h : bs.length = p.length) : Soft (.own b e 2 (gws bs p)) (.sl (raws p)) := by
 refine .own _ _ _ _ _ (by rw [gws_len h]; simp [raws]) (fun i r r' hr hr' => ?_) (fun i r r' hr hr' => ?_)
 ·obtain ⟨o, c, rfl, rfl⟩ := gws_key hr hr'; rfl
 ·obtain ⟨o, c, rfl, rfl⟩ := gws_key hr hr'; exact soft_gint _ _
theorem slimbs_ok (l : List Nat) (hl : l.length ≤ 2 ^ 43) : AC Tryz.prog 125 [cl l, cl l] none [cb true] := by
 refine AC.by_walk (rs := [.tmp 4]) ords Tryz.func125 (by rfl) (by rfl) (by rfl) (by rfl) (by rfl) ?_
 simp (disch := omega) only [wt, seval, reduceCtorEq, Nat.reduceEqDiff, spl3, lay_own, spl_own, fld_int1, List.length_cons]
 refine aloop_by (fun f H => ∃ i : Nat, i ≤ l.length ∧ f 5 = .iv (.int .i64 i) ∧ f 0 = .iv (.sl (lims l)) ∧ f 1 = .iv (.sl (lims l))) (fun f H => (l.length - intAt f 5).toNat) ?_ ?_
 ·refine ⟨0, by omega, ?_⟩
  simp (disch := omega) only [wt, seval, reduceCtorEq, Nat.reduceEqDiff, spl3, lay_own, spl_own, fld_int1, List.length_cons]
 rintro f H ⟨i, hi, h5, h0, h1⟩
 rw [intAt_of h5]
 simp (disch := omega) only [wt, seval, reduceCtorEq, Nat.reduceEqDiff, spl3, lay_own, spl_own, fld_int1, List.length_cons, h5, h0, h1]
 refine if_by (fun hlt => ?_) (fun hlt => ?_)
 ·simp (disch := omega) only [wt, seval, reduceCtorEq, Nat.reduceEqDiff, spl3, lay_own, spl_own, fld_int1, List.length_cons, h5, h0, h1]
  refine .inl ⟨tmps_by (by kernel_rfl), ?_⟩
  first | exact log_by (by kernel_rfl) | refine ⟨log_by (by kernel_rfl), ?_⟩
  exact ⟨⟨i + 1, by omega, rfl⟩, by omega⟩
 ·simp (disch := omega) only [wt, seval, reduceCtorEq, Nat.reduceEqDiff, spl3, lay_own, spl_own, fld_int1, List.length_cons, h5, h0, h1]
def RmS (p : List RI) : List IV := [.sl (raws p), .sl (raws (p ++ spares)), .sl (p.map fun c => [.sl (lims (c.2 ++ marks))])]
theorem in_len (p : List RI) : (p.map fun c : RI => [IV.sl (lims (c.2 ++ marks))]).length = p.length := by simp
theorem in_get (p : List RI) {i : Nat} {c : RI} (h : p[i]? = some c) : (p.map fun c : RI => [IV.sl (lims (c.2 ++ marks))]).getD i [] = [.sl (lims (c.2 ++ marks))] := by simp [List.getD, h]
theorem iws_get {bs : List OB} {p : List RI} (hl : bs.length = p.length) {i : Nat} {c : RI} (h : p[i]? = some c) : (iws bs p).getD i [] = [fnat (bs.getD i none) (c.2 ++ marks)] := by
 have hi := (List.getElem?_eq_some_iff.1 h).1
 have h2 : i < bs.length := by omega
 simp [iws, List.getD, List.getElem?_zipWith, h, List.getElem?_eq_getElem h2]
set_option maxRecDepth 8000 in
theorem sound_ok (p : List RI) (h : RP 40 200 p) : AC Tryz.prog 14 [.agg (RmS p), cw p] none [cb true] := by
 refine AC.by_walkm (zi := zi0) (rs := [.tmp 4]) ords Tryz.func14 (by rfl) (by rfl) (by rfl) (by rfl) (by rfl) (fun B => ?_)
 unfold RmS
 simp (disch := omega) only [wt, seval, reduceCtorEq, Nat.reduceEqDiff, spl3, lay_own, spl_own, fld_int1, List.length_cons]
 refine callx_by ((room_ok p (h.mono (by decide) (by decide)))) (by rfl) (by simp) (by first | rfl | assumption | (simp (disch := omega) only [wt, seval, reduceCtorEq, Nat.reduceEqDiff, spl3, lay_own, spl_own, fld_int1, List.length_cons]; done) | ((repeat (replace hF := hF.2)); exact hF)) ?_
 rintro B1 E1 _ hB1 hE1 ⟨bo, bi, bs, cs, rfl, hbl, hcl, hn⟩
 simp (disch := omega) only [wt, seval, reduceCtorEq, Nat.reduceEqDiff, spl3, lay_own, spl_own, fld_int1, List.length_cons]
 have hs : RP (2 ^ 40) (2 ^ 43) p := h.mono (by decide) (by decide)
 have hs2 : RP (2 ^ 40) (2 ^ 43) (p ++ spares) := ⟨by have := h.1; simp [spares]; omega, fun c hc => by
  rcases List.mem_append.1 hc with hc | hc
  ·exact hs.2 c hc
  ·simp only [spares, List.mem_cons, List.not_mem_nil, or_false] at hc
   rcases hc with rfl | rfl | rfl | rfl | rfl | rfl <;> exact ⟨by simp, Lim.cons (by decide) Lim.nil⟩⟩
 have hbc : (bs ++ cs).length = (p ++ spares).length := by simp [hbl, hcl, spares]
 have il := iws_len hbl
 have hl := h.1
 have il2 := in_len p
 refine call_by ((sform_ok p p hs hs)) (by rfl) (by simp) ?_
 simp (disch := omega) only [wt, seval, reduceCtorEq, Nat.reduceEqDiff, spl3, lay_own, spl_own, fld_int1, List.length_cons]
 refine call_by (((sform_ok _ _ hs2 hs2).soft (.cons (.refl _) (.cons (.iv (soft_gws hbc)) .nil)))) (by first | rfl | (simp only [tocvs, tocv, toboxes, tobox, updH_at, Nat.reduceEqDiff, ↓reduceIte, il, il2]; rfl)) (by simp) ?_
 simp (disch := omega) only [wt, seval, reduceCtorEq, Nat.reduceEqDiff, spl3, lay_own, spl_own, fld_int1, List.length_cons, il, il2]
 refine aloop_by (fun f H => ∃ i : Nat, i ≤ p.length ∧ f 6 = .iv (.int .i64 i) ∧ f 2 = .hp 2 1 0 0 ∧ f 5 = .hp 5 1 0 0 ∧ H 2 = .blk false 1 35 3 [RmS p] ∧ H 5 = .blk false 1 35 3 [RmV bo bi bs cs p]) (fun f H => (p.length - intAt f 6).toNat) ?_ ?_
 ·refine ⟨0, by omega, ?_⟩
  simp (disch := omega) only [wt, seval, reduceCtorEq, Nat.reduceEqDiff, spl3, lay_own, spl_own, fld_int1, List.length_cons, RmS, RmV]
 rintro f H ⟨i, hi, h6, h2, h5, hH2, hH5⟩
 rw [intAt_of h6]
 unfold RmS at hH2
 simp (disch := omega) only [wt, seval, reduceCtorEq, Nat.reduceEqDiff, spl3, lay_own, spl_own, fld_int1, List.length_cons, h6, h2, h5, hH2, hH5, il2]
 refine if_by (fun hlt => ?_) (fun hlt => ?_)
 ·obtain ⟨c, hpc⟩ : ∃ c, p[i]? = some c := ⟨_, List.getElem?_eq_getElem (by omega)⟩
  have g1 := in_get p hpc
  have g2 := iws_get hbl hpc
  have hc := (h.2 c (List.mem_of_getElem? hpc)).1
  simp (disch := omega) only [wt, seval, reduceCtorEq, Nat.reduceEqDiff, spl3, lay_own, spl_own, fld_int1, List.length_cons, h6, h2, h5, hH2, hH5, il2, il, g1, g2]
  refine .inl ⟨tmps_by (by kernel_rfl), ?_⟩
  refine call_by (((slimbs_ok (c.2 ++ marks) (by simp [marks]; omega)).soft (.cons (.refl _) (.cons (soft_fnat _ _) .nil)))) (by first | rfl | (simp only [tocvs, tocv, toboxes, tobox, updH_at, Nat.reduceEqDiff, ↓reduceIte, h6, h2, h5, hH2, hH5, il2, il]; rfl)) (by simp) ?_
  simp (disch := omega) only [wt, seval, reduceCtorEq, Nat.reduceEqDiff, spl3, lay_own, spl_own, fld_int1, List.length_cons, h6, h2, h5, hH2, hH5, il2, il]
  first | exact log_by (by kernel_rfl) | refine ⟨log_by (by kernel_rfl), ?_⟩
  exact ⟨⟨i + 1, by omega, rfl, rfl⟩, by omega⟩
 ·simp (disch := omega) only [wt, seval, reduceCtorEq, Nat.reduceEqDiff, spl3, lay_own, spl_own, fld_int1, List.length_cons, h6, h2, h5, hH2, hH5, il2]
end Go.Proofs.YtdokaihemcnkmaaGreat
