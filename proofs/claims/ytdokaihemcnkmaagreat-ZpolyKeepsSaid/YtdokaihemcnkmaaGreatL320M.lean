/-
 Contracts of the functions that the law reaches.
-/
import Derived.Test.YtdokaihemcnkmaaGreatL319M
import Derived.Test.YtdokaihemcnkmaaGreatAbsZ
set_option maxHeartbeats 2000000
namespace Go.Proofs.YtdokaihemcnkmaaGreat
open Go Go.Proofs Go.AL
set_option linter.unusedSimpArgs false
set_option linter.unusedVariables false
def x6 (n : Nat) : Nat := (BitVec.ofInt 64 (n : Int) ^^^ BitVec.ofInt 64 6).toNat
theorem x6_lt (n : Nat) : x6 n < W := by
 unfold x6 W; exact BitVec.isLt _
theorem x6_wrap (x : Nat) : IntKind.u64.wrap ((BitVec.ofInt IntKind.u64.bits (x : Int) ^^^ BitVec.ofInt IntKind.u64.bits 6).toNat : Int) = (x6 x : Int) := by
 have h : x6 x < 18446744073709551616 := x6_lt x
 show IntKind.u64.wrap ((x6 x : Nat) : Int) = _
 generalize x6 x = y at *
 exact wrap_u64 (by omega)
def ovl : List Nat → List Nat
 | [] => []
 | x :: r => x6 x :: r
theorem ovl_len (l : List Nat) : (ovl l).length = l.length := by cases l <;> rfl
def ov1 (i : Nat) (c : RI) : RI := (if i = 1 then !c.1 else c.1, ovl c.2)
def ovp (p : List RI) : List RI := (List.range p.length).map fun i => ov1 i (p.getD i (false, []))
theorem ovp_len (p : List RI) : (ovp p).length = p.length := by simp [ovp]
theorem ovp_get (p : List RI) {i : Nat} (h : i < p.length) : (ovp p).getD i (false, []) = ov1 i (p.getD i (false, [])) := by
 simp [ovp, List.getD, h]
theorem ovl_lim {l : List Nat} (h : Lim l) : Lim (ovl l) := by
 cases l with
 | nil => exact h
 | cons x r => exact Lim.cons (x6_lt x) fun y hy => h y (by simp [hy])
theorem ovp_rp {n k : Nat} {p : List RI} (h : RP n k p) : RP n k (ovp p) := by
 refine ⟨by rw [ovp_len]; exact h.1, fun c hc => ?_⟩
 simp only [ovp, List.mem_map, List.mem_range] at hc
 obtain ⟨i, hi, rfl⟩ := hc
 have := h.get i
 exact ⟨by simp only [ov1, ovl_len]; exact this.1, ovl_lim this.2⟩
@[reducible] def alO : Nat → Nat → Nat → Option Nat := fun h i off => if h = 1 then (if off = 0 then some 3000000 else none) else if h = 2000 then (if off = 1 then some (2000000 + i) else none) else none
@[reducible] def zO : Zi := ⟨none, fun _ => false, fun _ => false, .al alO⟩
theorem zstO : @Zi.st zO = .al alO := rfl
theorem zbxO (e : Nat) : @Zi.bx zO e = false := rfl
theorem zbsO (e : Nat) : @Zi.bs zO e = false := rfl
theorem alO_1 (i : Nat) : alO 1 i 0 = some 3000000 := rfl
theorem alO_2 (i : Nat) : alO 2000 i 1 = some (2000000 + i) := rfl
theorem alO_3 (i : Nat) : alO 2000 i 0 = none := rfl
theorem alO_4 (i j off : Nat) : alO (1000000 + i) j off = none := by
 unfold alO; rw [if_neg (by omega), if_neg (by omega)]
theorem loadAl_hp (g : Nat → Nat → Nat → Option Nat) (T : TI) (H : AL.Hp) (h st i off : Nat) : loadAl g T H (.hp h st i off) = match g h i off with
  | some s => match aLoad T H (.hp h st i off), H s with
   | some r, .tie y v => some ⟨r.c ∧ r.v = .iv (.raw v), y, r.fz, r.hs, s :: r.rd⟩
   | _, _ => none
  | none => aLoad T H (.hp h st i off) := rfl
def orow (vm : Nat → Value) (q : List RI) : List (List IV) := (List.range q.length).map fun i => [.bool (q.getD i (false, [])).1, .raw (vm i)]
theorem orow_len (vm : Nat → Value) (q : List RI) : (orow vm q).length = q.length := by simp [orow]
theorem orow_get (vm : Nat → Value) (q : List RI) (sp : List (List IV)) {i : Nat} (h : i < q.length) : (orow vm q ++ sp).getD i [] = [.bool (q.getD i (false, [])).1, .raw (vm i)] := by
 rw [List.getD_eq_getElem?_getD, List.getElem?_append_left (by rw [orow_len]; exact h)]
 simp [orow, h]
theorem orow_at (vm : Nat → Value) (q : List RI) (j : Nat) : (orow vm q)[j]? = if j < q.length then some [.bool (q.getD j (false, [])).1, .raw (vm j)] else none := by
 by_cases h : j < q.length
 ·simp [orow, h]
 ·rw [if_neg h, List.getElem?_eq_none (by rw [orow_len]; omega)]
theorem getD_set (q : List RI) (i j : Nat) (c : RI) (h : i < q.length) : (q.set i c).getD j (false, []) = if i = j then c else q.getD j (false, []) := by
 by_cases e : i = j
 ·subst e; simp [List.getD, h]
 ·simp [List.getD, List.getElem?_set_ne e, e]
theorem orow_set (vm : Nat → Value) (q : List RI) (sp : List (List IV)) {i : Nat} (h : i < q.length) (c : RI) : (orow vm q ++ sp).set i [.bool c.1, .raw (vm i)] = orow vm (q.set i c) ++ sp := by
 rw [List.set_append_left _ _ (by rw [orow_len]; exact h)]
 congr 1
 apply List.ext_getElem?
 intro j
 rw [orow_at, List.length_set, getD_set _ _ _ _ h]
 by_cases e : i = j
 ·subst e
  rw [List.getElem?_set_self (by rw [orow_len]; exact h), if_pos h, if_pos rfl]
 ·rw [List.getElem?_set_ne e, orow_at, if_neg e]
theorem orow_same (vm : Nat → Value) (q : List RI) {i : Nat} (h : i < q.length) (m : List Nat) : orow vm (q.set i ((q.getD i (false, [])).1, m)) = orow vm q := by
 apply List.ext_getElem?
 intro j
 rw [orow_at, orow_at, List.length_set, getD_set _ _ _ _ h]
 by_cases e : i = j
 ·subst e; rw [if_pos rfl]
 ·rw [if_neg e]
def OvH (vm : Nat → Value) (hG : Value) (sp : List (List IV)) (p q : List RI) (H : AL.Hp) : Prop :=
 H 2000 = .blk false 1 27 2 (orow vm q ++ sp) ∧ (∀ k, k < p.length → H (1000000 + k) = .blk false 1 144 1 (lims ((q.getD k (false, [])).2 ++ marks))) ∧
 (∀ k, k < p.length → H (2000000 + k) = .tie (.hv (1000000 + k) 1 0 (p.getD k (false, [])).2.length) (vm k)) ∧ H 3000000 = .tie (.hv 2000 1 0 p.length) hG
theorem OvH.upd {vm : Nat → Value} {hG : Value} {sp : List (List IV)} {p q : List RI} {H : AL.Hp} (h : OvH vm hG sp p q H) {k : Nat} (hk : k < 2000) (c : HC) : OvH vm hG sp p q (updH H k c) :=
 ⟨by rw [updH_ne _ _ (by omega)]; exact h.1, fun j hj => by rw [updH_ne _ _ (by omega)]; exact h.2.1 j hj, fun j hj => by rw [updH_ne _ _ (by omega)]; exact h.2.2.1 j hj, by rw [updH_ne _ _ (by omega)]; exact h.2.2.2⟩
theorem set_self (q : List RI) {i : Nat} (h : i < q.length) : q.set i (q.getD i (false, [])) = q := by
 apply List.ext_getElem?
 intro j
 by_cases e : i = j
 ·subst e; rw [List.getElem?_set_self h]; simp [List.getD, h]
 ·rw [List.getElem?_set_ne e]
def OvQ (p q : List RI) (i : Nat) : Prop := q.length = p.length ∧ ∀ k, k < p.length → q.getD k (false, []) = if k < i then ov1 k (p.getD k (false, [])) else p.getD k (false, [])
theorem lims_over (x : Nat) (r m : List Nat) (y : Int) (h : y = (x6 x : Int)) : (lims (x :: r ++ m)).set 0 (splice ((lims (x :: r ++ m)).getD 0 []) 0 [.int .u64 y]) = lims (ovl (x :: r) ++ m) := by
 subst h; rfl
set_option maxRecDepth 8000 in
set_option maxHeartbeats 1000000 in
theorem over_loop (vm : Nat → Value) (hG hO hI : Value) (sp : List (List IV)) (p : List RI) (hp : RP 40 200 p) (hsp : sp.length = 6) (H0 : AL.Hp) (h00 : H0 1 = .none) (hH0 : OvH vm hG sp p p H0) :
  ∃ c, Tryz.f15.body = some c ∧ @AWs zO Tryz.prog (fun f H => f 1 = .hp 1 1 0 0 ∧ H 1 = .blk false 1 35 3 [[.raw hG, .raw hO, .raw hI]] ∧ OvH vm hG sp p (ovp p) H) 2 c (fun _ _ _ => False) (initFA [.agg [.raw hG, .raw hO, .raw hI]]) H0 := by
 refine ⟨_, rfl, ?_⟩
 have hpl := hp.1
 simp (disch := omega) only [wt, seval, reduceCtorEq, Nat.reduceEqDiff, lay_own, spl_own, fld_int1, AWs_succ, AWs_zero, loadAl_hp, zstO, zbxO, zbsO, alO_1, alO_2, alO_3, alO_4, initFA_at, List.getD_cons_succ, List.getD_cons_zero, ite_far, h00]
 refine aloop_by (fun f H => ∃ (i : Nat) (q : List RI), i ≤ p.length ∧ OvQ p q i ∧ f 3 = .iv (.int .i64 i) ∧ f 1 = .hp 1 1 0 0 ∧ H 1 = .blk false 1 35 3 [[.raw hG, .raw hO, .raw hI]] ∧ OvH vm hG sp p q H) (fun f H => (p.length - intAt f 3).toNat) ?_ ?_
 ·refine ⟨0, p, by omega, ⟨rfl, fun k _ => by rw [if_neg (by omega)]⟩, ?_⟩
  simp (disch := omega) only [wt, seval, reduceCtorEq, Nat.reduceEqDiff, lay_own, spl_own, fld_int1, AWs_succ, AWs_zero, loadAl_hp, zstO, zbxO, zbsO, alO_1, alO_2, alO_3, alO_4, initFA_at, List.getD_cons_succ, List.getD_cons_zero, ite_far, h00]
  exact hH0.upd (by omega) _
 rintro f H ⟨i, q, hi, hq, h3, h1, hH1, hO⟩
 rw [intAt_of h3]
 obtain ⟨hX, hN, hT, hS⟩ := id hO
 have hql := hq.1
 have ol : (orow vm q ++ sp).length = p.length + 6 := by rw [List.length_append, orow_len, hql, hsp]
 simp (disch := omega) only [wt, seval, reduceCtorEq, Nat.reduceEqDiff, lay_own, spl_own, fld_int1, AWs_succ, AWs_zero, loadAl_hp, zstO, zbxO, zbsO, alO_1, alO_2, alO_3, alO_4, initFA_at, List.getD_cons_succ, List.getD_cons_zero, ite_far, h3, h1, hH1, hS, hX]
 refine if_by (fun hlt => ?_) (fun hlt => ?_)
 ·have hlt : i < p.length := by omega
  have og := orow_get vm q sp (i := i) (by omega)
  have hTi := hT i hlt
  have hNi := hN i hlt
  have hqi := hq.2 i hlt
  rw [if_neg (by omega)] at hqi
  rw [hqi] at hNi og
  obtain ⟨c, hc⟩ : ∃ c, c = p.getD i (false, []) := ⟨_, rfl⟩
  rw [← hc] at hqi hTi
  rw [← hc] at hNi og
  obtain ⟨ng, m⟩ := c
  simp only at og hTi hNi
  have ml : (lims (m ++ marks)).length = m.length + 6 := by simp [lims, marks]
  simp (disch := omega) only [wt, seval, reduceCtorEq, Nat.reduceEqDiff, lay_own, spl_own, fld_int1, AWs_succ, AWs_zero, loadAl_hp, zstO, zbxO, zbsO, alO_1, alO_2, alO_3, alO_4, initFA_at, List.getD_cons_succ, List.getD_cons_zero, ite_far, h3, h1, hH1, hS, hX, ol, og, hTi, hNi, ml]
  cases m with
  | nil =>
   simp (disch := omega) only [wt, seval, reduceCtorEq, Nat.reduceEqDiff, lay_own, spl_own, fld_int1, AWs_succ, AWs_zero, loadAl_hp, zstO, zbxO, zbsO, alO_1, alO_2, alO_3, alO_4, initFA_at, List.getD_cons_succ, List.getD_cons_zero, ite_far, h3, h1, hH1, hS, hX, ol, og, hTi, hNi, List.length_nil]
   have hO1 : OvH vm hG sp p (q.set i (ng, ovl [])) H := by
    have : q.set i (ng, ovl []) = q := by
     have := set_self q (i := i) (by omega)
     rwa [hqi] at this
    rw [this]; exact hO
   clear hO hX hN hNi og ol hT hTi ml
   obtain ⟨mm, hmm⟩ : ∃ mm : List Nat, mm = [] := ⟨_, rfl⟩
   rw [← hmm] at hO1
   have hc : (ng, mm) = p.getD i (false, []) := by rw [hmm]; exact hc
   refine frame_if (fun f H => f 3 = .iv (.int .i64 i) ∧ f 1 = .hp 1 1 0 0 ∧ H 1 = .blk false 1 35 3 [[.raw hG, .raw hO, .raw hI]] ∧ OvH vm hG sp p (q.set i (ng, ovl mm)) H) ?_ (fun f H hF => ?_)
   ·simp (disch := omega) only [wt, seval, reduceCtorEq, Nat.reduceEqDiff, lay_own, spl_own, fld_int1, AWs_succ, AWs_zero, loadAl_hp, zstO, zbxO, zbsO, alO_1, alO_2, alO_3, alO_4, initFA_at, List.getD_cons_succ, List.getD_cons_zero, ite_far, h3, h1, hH1]
    exact hO1
   clear h3 h1 hH1 hS hO1
   obtain ⟨h3, h1, hH1, hO1⟩ := hF
   obtain ⟨hX, hN, hT, hS⟩ := id hO1
   have ql1 : (q.set i (ng, ovl mm)).length = q.length := List.length_set ..
   have ol : (orow vm (q.set i (ng, ovl mm)) ++ sp).length = p.length + 6 := by rw [List.length_append, orow_len, ql1, hql, hsp]
   have og := orow_get vm (q.set i (ng, ovl mm)) sp (i := i) (by omega)
   rw [getD_set _ _ _ _ (by omega), if_pos rfl] at og
   have fin : ∀ (c : RI), c = ov1 i (p.getD i (false, [])) → OvQ p (q.set i c) (i + 1) := by
    intro c he
    refine ⟨by rw [List.length_set]; exact hql, fun k hk => ?_⟩
    rw [getD_set _ _ _ _ (by omega)]
    by_cases e : i = k
    ·subst e; rw [if_pos rfl, if_pos (by omega), he]
    ·rw [if_neg e, hq.2 k hk]
     by_cases h2 : k < i
     ·rw [if_pos h2, if_pos (by omega)]
     ·rw [if_neg h2, if_neg (by omega)]
   refine if_by (fun hi1 => ?_) (fun hi1 => ?_)
   ·simp (disch := omega) only [wt, seval, reduceCtorEq, Nat.reduceEqDiff, lay_own, spl_own, fld_int1, AWs_succ, AWs_zero, loadAl_hp, zstO, zbxO, zbsO, alO_1, alO_2, alO_3, alO_4, initFA_at, List.getD_cons_succ, List.getD_cons_zero, ite_far, h3, h1, hH1, hS, hX, ol, og]
    refine .inl ⟨tmps_by (by kernel_rfl), ?_⟩
    refine ⟨logN_by (by simp (disch := omega) only [capL_cons, capL_nil, List.map_cons, List.map_nil, List.cons_append, List.nil_append, List.append_nil, capN_lt, capN_ge]; rfl) (by kernel_rfl), ?_⟩
    have hO2 : OvH vm hG sp p (q.set i (!ng, ovl mm)) (updH H 2000 (.blk false 1 27 2 ((orow vm (q.set i (ng, ovl mm)) ++ sp).set i (splice [.bool ng, .raw (vm i)] 0 [.bool !ng])))) := by
     refine ⟨?_, fun k hk => ?_, fun k hk => by rw [updH_ne _ _ (by omega)]; exact hT k hk, by rw [updH_ne _ _ (by omega)]; exact hS⟩
     ·rw [updH_same]
      have e := orow_set vm (q.set i (ng, ovl mm)) sp (i := i) (by omega) (!ng, ovl mm)
      rw [List.set_set] at e
      rw [← e]; rfl
     ·rw [updH_ne _ _ (by omega), hN k hk, getD_set _ _ _ _ (by omega), getD_set _ _ _ _ (by omega)]
      by_cases e2 : i = k
      ·rw [if_pos e2, if_pos e2]
      ·rw [if_neg e2, if_neg e2]
    exact ⟨⟨i + 1, _, by omega, fin (!ng, ovl mm) (by rw [← hc]; simp [ov1, show i = 1 by omega]), rfl, hO2⟩, by omega⟩
   ·simp (disch := omega) only [wt, seval, reduceCtorEq, Nat.reduceEqDiff, lay_own, spl_own, fld_int1, AWs_succ, AWs_zero, loadAl_hp, zstO, zbxO, zbsO, alO_1, alO_2, alO_3, alO_4, initFA_at, List.getD_cons_succ, List.getD_cons_zero, ite_far, h3, h1, hH1, hS, hX, ol, og]
    refine ⟨⟨i + 1, _, by omega, fin (ng, ovl mm) (by rw [← hc]; simp [ov1, show ¬ i = 1 by omega]), rfl, hO1⟩, by omega⟩
  | cons x r =>
   simp (disch := omega) only [wt, seval, reduceCtorEq, Nat.reduceEqDiff, lay_own, spl_own, fld_int1, AWs_succ, AWs_zero, loadAl_hp, zstO, zbxO, zbsO, alO_1, alO_2, alO_3, alO_4, initFA_at, List.getD_cons_succ, List.getD_cons_zero, ite_far, h3, h1, hH1, hS, hX, ol, og, hTi, hNi, ml, List.length_cons]
   refine if_by (fun hpos => ?_) (fun hpos => absurd (by omega) hpos)
   have l0 : (lims (x :: (r ++ marks))).getD 0 [] = [.int .u64 (x : Int)] := rfl
   have l1 : (lims (x :: (r ++ marks))).length = r.length + 7 := by simp [lims, marks]
   simp (disch := omega) only [wt, seval, reduceCtorEq, Nat.reduceEqDiff, lay_own, spl_own, fld_int1, AWs_succ, AWs_zero, loadAl_hp, zstO, zbxO, zbsO, alO_1, alO_2, alO_3, alO_4, initFA_at, List.getD_cons_succ, List.getD_cons_zero, ite_far, h3, h1, hH1, hS, hX, ol, og, hTi, hNi, List.length_cons, l0, l1]
   refine .inl ⟨tmps_by (by kernel_rfl), ?_⟩
   have lo := lims_over x r marks (IntKind.u64.wrap (BitVec.ofInt IntKind.u64.bits (x : Int) ^^^ BitVec.ofInt IntKind.u64.bits 6).toNat) (x6_wrap x)
   have hO1 : OvH vm hG sp p (q.set i (ng, ovl (x :: r))) (updH H (1000000 + i) (.blk false 1 144 1 (lims (ovl (x :: r) ++ marks)))) := by
    have e := orow_same vm q (i := i) (by omega) (ovl (x :: r))
    rw [hqi] at e
    refine ⟨by rw [updH_ne _ _ (by omega), e]; exact hX, fun k hk => ?_, fun k hk => by rw [updH_ne _ _ (by omega)]; exact hT k hk, by rw [updH_ne _ _ (by omega)]; exact hS⟩
    by_cases e2 : i = k
    ·subst e2; rw [updH_same, getD_set _ _ _ _ (by omega), if_pos rfl]
    ·rw [updH_ne _ _ (by omega), getD_set _ _ _ _ (by omega), if_neg e2]; exact hN k hk
   rw [show (lims (x :: (r ++ marks))).set 0 [.int .u64 (IntKind.u64.wrap (BitVec.ofInt IntKind.u64.bits (x : Int) ^^^ BitVec.ofInt IntKind.u64.bits 6).toNat)] = lims (ovl (x :: r) ++ marks) from lo]
   refine ⟨logN_by (by simp (disch := omega) only [capL_cons, capL_nil, List.map_cons, List.map_nil, List.cons_append, List.nil_append, List.append_nil, capN_lt, capN_ge]; rfl) (by kernel_rfl), ?_⟩
   clear hO hX hN hNi og ol hT hTi ml l0 l1 lo
   obtain ⟨mm, hmm⟩ : ∃ mm : List Nat, mm = x :: r := ⟨_, rfl⟩
   rw [← hmm] at hO1 hc ⊢
   refine frame_if (fun f H => f 3 = .iv (.int .i64 i) ∧ f 1 = .hp 1 1 0 0 ∧ H 1 = .blk false 1 35 3 [[.raw hG, .raw hO, .raw hI]] ∧ OvH vm hG sp p (q.set i (ng, ovl mm)) H) ?_ (fun f H hF => ?_)
   ·simp (disch := omega) only [wt, seval, reduceCtorEq, Nat.reduceEqDiff, lay_own, spl_own, fld_int1, AWs_succ, AWs_zero, loadAl_hp, zstO, zbxO, zbsO, alO_1, alO_2, alO_3, alO_4, initFA_at, List.getD_cons_succ, List.getD_cons_zero, ite_far, h3, h1, hH1]
    exact hO1
   clear h3 h1 hH1 hS hO1
   obtain ⟨h3, h1, hH1, hO1⟩ := hF
   obtain ⟨hX, hN, hT, hS⟩ := id hO1
   have ql1 : (q.set i (ng, ovl mm)).length = q.length := List.length_set ..
   have ol : (orow vm (q.set i (ng, ovl mm)) ++ sp).length = p.length + 6 := by rw [List.length_append, orow_len, ql1, hql, hsp]
   have og := orow_get vm (q.set i (ng, ovl mm)) sp (i := i) (by omega)
   rw [getD_set _ _ _ _ (by omega), if_pos rfl] at og
   have fin : ∀ (c : RI), c = ov1 i (p.getD i (false, [])) → OvQ p (q.set i c) (i + 1) := by
    intro c he
    refine ⟨by rw [List.length_set]; exact hql, fun k hk => ?_⟩
    rw [getD_set _ _ _ _ (by omega)]
    by_cases e : i = k
    ·subst e; rw [if_pos rfl, if_pos (by omega), he]
    ·rw [if_neg e, hq.2 k hk]
     by_cases h2 : k < i
     ·rw [if_pos h2, if_pos (by omega)]
     ·rw [if_neg h2, if_neg (by omega)]
   refine if_by (fun hi1 => ?_) (fun hi1 => ?_)
   ·simp (disch := omega) only [wt, seval, reduceCtorEq, Nat.reduceEqDiff, lay_own, spl_own, fld_int1, AWs_succ, AWs_zero, loadAl_hp, zstO, zbxO, zbsO, alO_1, alO_2, alO_3, alO_4, initFA_at, List.getD_cons_succ, List.getD_cons_zero, ite_far, h3, h1, hH1, hS, hX, ol, og]
    refine .inl ⟨tmps_by (by kernel_rfl), ?_⟩
    refine ⟨logN_by (by simp (disch := omega) only [capL_cons, capL_nil, List.map_cons, List.map_nil, List.cons_append, List.nil_append, List.append_nil, capN_lt, capN_ge]; rfl) (by kernel_rfl), ?_⟩
    have hO2 : OvH vm hG sp p (q.set i (!ng, ovl mm)) (updH H 2000 (.blk false 1 27 2 ((orow vm (q.set i (ng, ovl mm)) ++ sp).set i (splice [.bool ng, .raw (vm i)] 0 [.bool !ng])))) := by
     refine ⟨?_, fun k hk => ?_, fun k hk => by rw [updH_ne _ _ (by omega)]; exact hT k hk, by rw [updH_ne _ _ (by omega)]; exact hS⟩
     ·rw [updH_same]
      have e := orow_set vm (q.set i (ng, ovl mm)) sp (i := i) (by omega) (!ng, ovl mm)
      rw [List.set_set] at e
      rw [← e]; rfl
     ·rw [updH_ne _ _ (by omega), hN k hk, getD_set _ _ _ _ (by omega), getD_set _ _ _ _ (by omega)]
      by_cases e2 : i = k
      ·rw [if_pos e2, if_pos e2]
      ·rw [if_neg e2, if_neg e2]
    exact ⟨⟨i + 1, _, by omega, fin (!ng, ovl mm) (by rw [← hc]; simp [ov1, show i = 1 by omega]), rfl, hO2⟩, by omega⟩
   ·simp (disch := omega) only [wt, seval, reduceCtorEq, Nat.reduceEqDiff, lay_own, spl_own, fld_int1, AWs_succ, AWs_zero, loadAl_hp, zstO, zbxO, zbsO, alO_1, alO_2, alO_3, alO_4, initFA_at, List.getD_cons_succ, List.getD_cons_zero, ite_far, h3, h1, hH1, hS, hX, ol, og]
    refine ⟨⟨i + 1, _, by omega, fin (ng, ovl mm) (by rw [← hc]; simp [ov1, show ¬ i = 1 by omega]), rfl, hO1⟩, by omega⟩
 ·simp (disch := omega) only [wt, seval, reduceCtorEq, Nat.reduceEqDiff, lay_own, spl_own, fld_int1, AWs_succ, AWs_zero, loadAl_hp, zstO, zbxO, zbsO, alO_1, alO_2, alO_3, alO_4, initFA_at, List.getD_cons_succ, List.getD_cons_zero, ite_far, h3, h1, hH1, hS, hX]
  have hqe : q = ovp p := by
   apply List.ext_getElem?
   intro j
   by_cases hj : j < p.length
   ·have h1 := hq.2 j hj
    rw [if_pos (by omega), ← ovp_get p hj] at h1
    have e1 : q[j]? = some (q.getD j (false, [])) := by simp [List.getD, show j < q.length by omega]
    have e2 : (ovp p)[j]? = some ((ovp p).getD j (false, [])) := by simp [List.getD, show j < (ovp p).length by rw [ovp_len]; exact hj]
    rw [e1, e2, h1]
   ·rw [List.getElem?_eq_none (by omega), List.getElem?_eq_none (by rw [ovp_len]; omega)]
  subst hqe
  first | exact hO | trace_state
end Go.Proofs.YtdokaihemcnkmaaGreat

namespace Go.Proofs.YtdokaihemcnkmaaGreat
open Go Go.Proofs Go.AL
set_option linter.unusedSimpArgs false
set_option linter.unusedVariables false
theorem scopyint_ok (c : RI) (h : c.2.length ≤ 2 ^ 40) : AC Tryz.prog 130 [cr c] none [cr c] := by
 refine AC.by_walk (rs := [.cell 2 27]) ords Tryz.func130 (by rfl) (by rfl) (by rfl) (by rfl) (by rfl) ?_
 simp (disch := omega) only [wt, seval, reduceCtorEq, Nat.reduceEqDiff, lay_own, spl_own, fld_int1, List.drop_succ_cons, List.drop_zero, List.take_succ_cons, List.take_zero]
 refine .inl ⟨tmps_by (by kernel_rfl), ?_⟩
 first | exact log_by (by kernel_rfl) | refine ⟨log_by (by kernel_rfl), ?_⟩
 rfl
theorem scopy_ok (p : List RI) (h : RP (2 ^ 40) (2 ^ 40) p) : AC Tryz.prog 126 [cw p] none [cw p] := by
 refine AC.by_walk (rs := [.tmp 2]) ords Tryz.func126 (by rfl) (by rfl) (by rfl) (by rfl) (by rfl) ?_
 have hl := h.1
 simp (disch := omega) only [wt, seval, reduceCtorEq, Nat.reduceEqDiff, lay_own, spl_own, fld_int1, List.drop_succ_cons, List.drop_zero, List.take_succ_cons, List.take_zero]
 refine aloop_nil 3 3 27 2 (by simp (disch := omega) only [wt, seval, reduceCtorEq, Nat.reduceEqDiff, lay_own, spl_own, fld_int1, List.drop_succ_cons, List.drop_zero, List.take_succ_cons, List.take_zero]) (fun f H => ∃ (i st : Nat), i ≤ p.length ∧ f 4 = .iv (.int .i64 i) ∧ f 0 = .iv (.sl (raws p)) ∧ f 3 = .hs 3 st ∧ H 3 = .blk false st 27 2 (raws (p.take i))) (fun f H => (p.length - intAt f 4).toNat) ?_ ?_
 ·refine ⟨0, 1, by omega, ?_⟩
  simp (disch := omega) only [wt, seval, reduceCtorEq, Nat.reduceEqDiff, lay_own, spl_own, fld_int1, List.drop_succ_cons, List.drop_zero, List.take_succ_cons, List.take_zero, ghostF, ghostH, List.take_zero]
 rintro f H ⟨i, st, hi, hF⟩
 rw [intAt_of hF.1]
 simp (disch := omega) only [wt, seval, reduceCtorEq, Nat.reduceEqDiff, lay_own, spl_own, fld_int1, List.drop_succ_cons, List.drop_zero, List.take_succ_cons, List.take_zero, hF]
 refine if_by (fun hlt => ?_) (fun hlt => ?_)
 ·have hq : (p.take i).length = i := by rw [List.length_take]; omega
  simp (disch := omega) only [wt, seval, reduceCtorEq, Nat.reduceEqDiff, lay_own, spl_own, fld_int1, List.drop_succ_cons, List.drop_zero, List.take_succ_cons, List.take_zero, hF, hq]
  refine call_by ((scopyint_ok (p.getD i (false, [])) (h.get i).1)) (by first | rfl | (simp only [tocvs, tocv, toboxes, tobox, updH_at, Nat.reduceEqDiff, ↓reduceIte, hF, hq]; rfl)) (by simp) ?_
  simp (disch := omega) only [wt, seval, reduceCtorEq, Nat.reduceEqDiff, lay_own, spl_own, fld_int1, List.drop_succ_cons, List.drop_zero, List.take_succ_cons, List.take_zero, hF, hq]
  have hip : i < p.length := by omega
  refine ⟨⟨i + 1, st + 1, by omega, by omega, rfl, ?_⟩, by omega⟩
  rw [List.take_add_one]
  simp [hip, List.getD]
 ·simp (disch := omega) only [wt, seval, reduceCtorEq, Nat.reduceEqDiff, lay_own, spl_own, fld_int1, List.drop_succ_cons, List.drop_zero, List.take_succ_cons, List.take_zero, hF]
  rw [List.take_of_length_le (by omega)]
theorem over_tail (bo bi : OB) (bs cs : List OB) (q : List RI) (hq : RP 40 200 q) (hl : bs.length = q.length) (f : AL.Fr) (H : AL.Hp) (h1 : f 1 = .ip (RmV bo bi bs cs q)) :
  ∃ d, (Tryz.f15.body.bind (dropO 2)) = some d ∧ @AW zi0 Tryz.prog d (fun e f H => (e = .normal ∨ e = .ret) ∧ f 2 = .iv (.sl (raws q))) f H := by
 refine ⟨_, rfl, ?_⟩
 simp (disch := omega) only [wt, seval, reduceCtorEq, Nat.reduceEqDiff, lay_own, spl_own, fld_int1, List.drop_succ_cons, List.drop_zero, List.take_succ_cons, List.take_zero, h1]
 refine call_by (((scopy_ok q (hq.mono (by decide) (by decide))).soft (.cons (.iv (soft_gws hl)) .nil))) (by first | rfl | (simp only [tocvs, tocv, toboxes, tobox, updH_at, Nat.reduceEqDiff, ↓reduceIte, h1]; rfl)) (by simp) ?_
 simp (disch := omega) only [wt, seval, reduceCtorEq, Nat.reduceEqDiff, lay_own, spl_own, fld_int1, List.drop_succ_cons, List.drop_zero, List.take_succ_cons, List.take_zero, h1]
 exact .inr trivial
theorem row_gws {bs : List OB} {p : List RI} (h : bs.length = p.length) {i : Nat} (hi : i < p.length) : (gws bs p)[i]? = some (gint (bs.getD i none) (p.getD i (false, []))) := by
 simp [gws, List.getElem?_zipWith, List.getD, hi, show i < bs.length by omega]
theorem row_iws {bs : List OB} {p : List RI} (h : bs.length = p.length) {i : Nat} (hi : i < p.length) : (iws bs p)[i]? = some [fnat (bs.getD i none) ((p.getD i (false, [])).2 ++ marks)] := by
 simp [iws, List.getElem?_zipWith, List.getD, hi, show i < bs.length by omega]
theorem full_fnat (b : OB) (l : List Nat) : Full (fnat b l) := by
 refine .own _ _ _ _ fun r hr x hx => ?_
 simp only [lims, List.mem_map] at hr
 obtain ⟨n, _, rfl⟩ := hr
 simp only [List.mem_singleton] at hx
 subst hx; exact .int _ _
theorem nodup_ids {g c c' : Nat} : ∀ {bs : List OB} {i j : Nat}, (ids bs).Nodup → i ≠ j → bs.getD i none = some (g, c) → bs.getD j none ≠ some (g, c') := by
 intro bs
 induction bs with
 | nil => intro i j _ _ h; simp at h
 | cons b bs ih =>
  intro i j hn hij hi hj
  have hn' : (oid b ++ ids bs).Nodup := by simpa [ids] using hn
  obtain ⟨h1, h2, h3⟩ := List.nodup_append.1 hn'
  have mem : ∀ k c, bs.getD k none = some (g, c) → g ∈ ids bs := by
   intro k c hk
   have hlt : k < bs.length := by
    rcases Nat.lt_or_ge k bs.length with h | h
    ·exact h
    ·rw [List.getD_eq_getElem?_getD, List.getElem?_eq_none h] at hk; cases hk
   rw [List.getD_eq_getElem?_getD, List.getElem?_eq_getElem hlt] at hk
   simp only [Option.getD_some] at hk
   rw [ids, List.mem_flatMap]
   exact ⟨_, List.getElem_mem hlt, by rw [hk]; simp [oid]⟩
  cases i with
  | zero =>
   cases j with
   | zero => exact hij rfl
   | succ j =>
    simp only [List.getD_cons_zero, List.getD_cons_succ] at hi hj
    exact h3 g (by rw [hi]; simp [oid]) g (mem j _ hj) rfl
  | succ i =>
   cases j with
   | zero =>
    simp only [List.getD_cons_zero, List.getD_cons_succ] at hi hj
    exact h3 g (by rw [hj]; simp [oid]) g (mem i _ hi) rfl
   | succ j =>
    simp only [List.getD_cons_succ] at hi hj
    exact ih h2 (by omega) hi hj
theorem mem_ids {bs : List OB} {k g c : Nat} (hk : bs.getD k none = some (g, c)) : g ∈ ids bs := by
 have hlt : k < bs.length := by
  rcases Nat.lt_or_ge k bs.length with h | h
  ·exact h
  ·rw [List.getD_eq_getElem?_getD, List.getElem?_eq_none h] at hk; cases hk
 rw [List.getD_eq_getElem?_getD, List.getElem?_eq_getElem hlt] at hk
 simp only [Option.getD_some] at hk
 rw [ids, List.mem_flatMap]
 exact ⟨_, List.getElem_mem hlt, by rw [hk]; simp [oid]⟩
def ovH0 (vm : Nat → Value) (hG : Value) (sp : List (List IV)) (p : List RI) : AL.Hp := fun h =>
 if h = 2000 then .blk false 1 27 2 (orow vm p ++ sp)
 else if 1000000 ≤ h ∧ h < 1000000 + p.length then .blk false 1 144 1 (lims ((p.getD (h - 1000000) (false, [])).2 ++ marks))
 else if 2000000 ≤ h ∧ h < 2000000 + p.length then .tie (.hv (h - 1000000) 1 0 (p.getD (h - 2000000) (false, [])).2.length) (vm (h - 2000000))
 else if h = 3000000 then .tie (.hv 2000 1 0 p.length) hG else .none
def ovB (vO : Value) (uI : Nat → Value) : Nat → Value := fun h => if h = 2000 then vO else uI (h - 1000000)
theorem ovH0_ok (vm : Nat → Value) (hG : Value) (sp : List (List IV)) {p : List RI} (hp : p.length ≤ 40) : OvH vm hG sp p p (ovH0 vm hG sp p) := by
 refine ⟨by simp [ovH0], fun k hk => ?_, fun k hk => ?_, ?_⟩
 ·unfold ovH0; rw [if_neg (by omega), if_pos (by omega), Nat.add_sub_cancel_left]
 ·unfold ovH0; rw [if_neg (by omega), if_neg (by omega), if_pos (by omega), Nat.add_sub_cancel_left, show 2000000 + k - 1000000 = 1000000 + k by omega]
 ·unfold ovH0; rw [if_neg (by omega), if_neg (by omega), if_neg (by omega), if_pos rfl]
theorem ovH0_cases (vm : Nat → Value) (hG : Value) (sp : List (List IV)) {p : List RI} (h : Nat) :
  (h = 2000 ∧ ovH0 vm hG sp p h = .blk false 1 27 2 (orow vm p ++ sp)) ∨ (∃ k, k < p.length ∧ h = 1000000 + k ∧ ovH0 vm hG sp p h = .blk false 1 144 1 (lims ((p.getD k (false, [])).2 ++ marks))) ∨
  (∃ k, k < p.length ∧ h = 2000000 + k ∧ ovH0 vm hG sp p h = .tie (.hv (1000000 + k) 1 0 (p.getD k (false, [])).2.length) (vm k)) ∨ ovH0 vm hG sp p h = .tie (.hv 2000 1 0 p.length) hG ∨ ovH0 vm hG sp p h = .none := by
 unfold ovH0
 split
 ·exact .inl ⟨by assumption, rfl⟩
 ·split
  ·rename_i h2
   exact .inr (.inl ⟨h - 1000000, by omega, by omega, rfl⟩)
  ·split
   ·rename_i h2
    refine .inr (.inr (.inl ⟨h - 2000000, by omega, by omega, ?_⟩))
    rw [show 1000000 + (h - 2000000) = h - 1000000 by omega]
   ·split
    ·exact .inr (.inr (.inr (.inl rfl)))
    ·exact .inr (.inr (.inr (.inr rfl)))
theorem ov_limbs {w : World} {D : Nat → Prop} {B : Nat} {M : Nat → Prop} {β : Nat → Value} {H : AL.Hp} {h : Nat} {l m : List Nat} {v u : Value} {b : OB} (hml : m.length = l.length) {w1 : World} (hv : Rep w1 (fun _ => False) (fnat b l) v) (hu : Rep w1 (fun _ => False) (fnat b (l ++ marks)) u)
  (hH : H h = .blk false 1 144 1 (lims (m ++ marks))) (ho : AL.Own w D B M (β h) 144 1 (lims (m ++ marks))) (ht : AVRep w D H β (.hv h 1 0 l.length) v) : Rep w (fun _ => False) (fnat b m) v ∧ Rep w (fun _ => False) (fnat b (m ++ marks)) u := by
 have hne : ∀ k : List Nat, lims (k ++ marks) ≠ [] := fun k => by simp [lims, marks]
 have hln : ∀ k : List Nat, (lims (k ++ marks)).length = k.length + 6 := fun k => by simp [lims, marks]
 obtain ⟨g, cap, cur, rfl, hu2, -⟩ := hu.own_some (hne l)
 have hv2 := hv.own_len.1
 simp only [Option.map_some, Option.getD_some] at hv2
 rw [show (lims l).length = l.length by simp [lims]] at hv2
 obtain ⟨n, hn⟩ := tie_head ht (by rw [hH]; rfl) hv2
 obtain ⟨b', hr, hb0, hb⟩ := ho.rep_own (D' := fun _ => False) (fun _ h => h.elim) (fun _ _ h => h)
 obtain ⟨g', cap', cur', rfl, e, -⟩ := hr.own_some (hne m)
 rw [hn] at e
 injection e with e1 e2 e3
 injection e1 with e1
 injection e1 with e1 _ _
 subst e1 e3
 have hr1 := hr.own_take (n := m.length) (by rw [hln]; omega)
 simp only [Option.map_some, Option.getD_some] at hr1
 rw [show (lims (m ++ marks)).take m.length = lims m by simp [lims]] at hr1
 rw [hn, e2, hln] at hr
 rw [hln] at hu2
 rw [hml] at hr hr1
 exact ⟨by rw [hv2]; exact hr1, by rw [hu2]; exact hr⟩
theorem orow_app (vm : Nat → Value) (p q : List RI) : orow vm (p ++ q) = orow vm p ++ (List.range q.length).map fun j => [.bool (q.getD j (false, [])).1, .raw (vm (p.length + j))] := by
 apply List.ext_getElem?
 intro j
 rw [orow_at, List.length_append]
 by_cases h : j < p.length
 ·rw [if_pos (by omega), List.getElem?_append_left (by rw [orow_len]; exact h), orow_at, if_pos h]
  simp [List.getD, List.getElem?_append_left h]
 ·rw [List.getElem?_append_right (by rw [orow_len]; omega), orow_len]
  by_cases h2 : j < p.length + q.length
  ·rw [if_pos h2]
   simp [List.getD, List.getElem?_append_right (show p.length ≤ j by omega), show j - p.length < q.length by omega, show p.length + (j - p.length) = j by omega]
  ·rw [if_neg h2, List.getElem?_eq_none (by simp; omega)]
theorem lims_cell {l : List Nat} {i j : Nat} {r : List IV} {x : IV} (h : (lims l)[i]? = some r) (hx : r[j]? = some x) : ∃ n : Nat, x = .int .u64 n := by
 simp only [lims, List.getElem?_map, Option.map_eq_some_iff] at h
 obtain ⟨n, -, rfl⟩ := h
 cases j with
 | zero => simp at hx; exact ⟨n, hx.symm⟩
 | succ j => simp at hx
theorem rep_flat {w w' : World} {D D' : Nat → Prop} {x : IV} {v : Value} (h : Rep w D x v) (hx : (∃ k n, x = .int k n) ∨ ∃ b, x = .bool b) : Rep w' D' x v := by
 rcases hx with ⟨k, n, rfl⟩ | ⟨b, rfl⟩
 ·cases h; exact .int _ _
 ·cases h; exact .bool _
theorem orow_rows (vm : Nat → Value) (q : List RI) : ∀ r ∈ orow vm q, r.length = 2 := by
 intro r hr
 simp only [orow, List.mem_map] at hr
 obtain ⟨i, _, rfl⟩ := hr
 rfl
theorem lims_rows (l : List Nat) : ∀ r ∈ lims l, r.length = 1 := by
 intro r hr
 simp only [lims, List.mem_map] at hr
 obtain ⟨i, _, rfl⟩ := hr
 rfl
theorem lims_length (l : List Nat) : (lims l).length = l.length := by simp [lims]
theorem getD_app_l (p q : List RI) {i : Nat} (h : i < p.length) : (p ++ q).getD i (false, []) = p.getD i (false, []) := by
 simp [List.getD, List.getElem?_append_left h]
theorem getD_app_lo (p q : List OB) {i : Nat} (h : i < p.length) : (p ++ q).getD i none = p.getD i none := by
 simp [List.getD, List.getElem?_append_left h]
theorem getD_app_r (p q : List RI) {i : Nat} (h : p.length ≤ i) : (p ++ q).getD i (false, []) = q.getD (i - p.length) (false, []) := by
 simp [List.getD, List.getElem?_append_right h]
theorem getD_app_ro (p q : List OB) {i : Nat} (h : p.length ≤ i) : (p ++ q).getD i none = q.getD (i - p.length) none := by
 simp [List.getD, List.getElem?_append_right h]
theorem full_gws (b : OB) (e : Nat) (bs : List OB) (p : List RI) : Full (.own b e 2 (gws bs p)) := by
 refine .own _ _ _ _ fun r hr x hx => ?_
 obtain ⟨i, hi⟩ := List.getElem?_of_mem hr
 rw [gws, List.getElem?_zipWith] at hi
 split at hi
 ·injection hi with hi; subst hi
  simp only [gint, List.mem_cons, List.not_mem_nil, or_false] at hx
  rcases hx with rfl | rfl
  ·exact .bool _
  ·exact full_fnat _ _
 ·cases hi
theorem full_iws (b : OB) (e sz : Nat) (bs : List OB) (p : List RI) : Full (.own b e sz (iws bs p)) := by
 refine .own _ _ _ _ fun r hr x hx => ?_
 obtain ⟨i, hi⟩ := List.getElem?_of_mem hr
 rw [iws, List.getElem?_zipWith] at hi
 split at hi
 ·injection hi with hi; subst hi
  simp only [List.mem_singleton] at hx
  subst hx
  exact full_fnat _ _
 ·cases hi
theorem rmv_ids {bo bi : OB} {bs cs : List OB} {p : List RI} (hl : bs.length = p.length) (hcl : cs.length = 6) {g : Nat} (h : g ∈ idsRow (RmV bo bi bs cs p)) : g ∈ oid bo ++ oid bi ++ ids bs ++ ids cs := by
 have hl2 : (bs ++ cs).length = (p ++ spares).length := by rw [List.length_append, List.length_append, hl, hcl]; rfl
 simp only [idsRow, ids_own, ids_gws hl, ids_gws hl2, ids_iws hl, List.append_nil, ids_app, List.mem_append] at h ⊢
 rcases h with (h | h) | (h | h | h) | h | h <;> simp [h]
theorem over_start {p : List RI} (hpl : p.length ≤ 40) {bs cs : List OB} {g0 cap0 : Nat} (hl : bs.length = p.length) (hcl : cs.length = 6) (hn : (oid (some (g0, cap0)) ++ ids bs).Nodup) {w : World} {a3 : Array Value} {vG vO vI : Value} (hcs : a3.toList = [vG, vO, vI]) {cur : Array Value} {vm uI : Nat → Value}
  (hG1 : vG.oneCell' = true) (hO1 : vO.oneCell' = true) (hI1 : vI.oneCell' = true) (hvO : vO = .slice (some ⟨g0, 0, none⟩) (p.length + 6) cap0) (hvG : vG = .slice (some ⟨g0, 0, none⟩) p.length cap0) (hg0 : w.heap[g0]? = some (.cells cur 27 (0, 0))) (hcur : cur.size = cap0 * 2) (hlen0 : p.length + 6 ≤ cap0) (hcap0 : cap0 ≤ maxLen)
  (hvm : ∀ i, vm i = cur.getD (i * 2 + 1) Go.undef) (hb : ∀ i, i < p.length + 6 → Rep w (fun _ => False) (.bool ((p ++ spares).getD i (false, [])).1) (cur.getD (i * 2 + 0) Go.undef)) (hm : ∀ i, i < p.length + 6 → Rep w (fun _ => False) (fnat ((bs ++ cs).getD i none) ((p ++ spares).getD i (false, [])).2) (vm i))
  (hu : ∀ i, i < p.length → Rep w (fun _ => False) (fnat (bs.getD i none) ((p.getD i (false, [])).2 ++ marks)) (uI i)) {sp : List (List IV)} (hsp : orow vm p ++ sp = orow vm (p ++ spares)) :
  Rel ⟨fun _ _ => False, true⟩ (fun b => b ∈ oid (some (g0, cap0)) ++ ids bs) w (fun b => b < w.heap.size ∧ b ∉ oid (some (g0, cap0)) ++ ids bs) Tryz.f15.ntmps (initFA [.agg [.raw vG, .raw vO, .raw vI]]) (ovH0 vm vG sp p) (ovB vO uI) { tmps := [Value.agg a3].toArray ++ Array.replicate (Tryz.f15.ntmps - [Value.agg a3].toArray.size) Go.undef, defers := [] } w := by
 have hne : ∀ k : List Nat, lims (k ++ marks) ≠ [] := fun k => by simp [lims, marks]
 have hln : ∀ k : List Nat, (lims (k ++ marks)).length = k.length + 6 := fun k => by simp [lims, marks]
 have hH := ovH0_ok vm vG sp hpl
 have ub : ∀ k, ovB vO uI (1000000 + k) = uI k := fun k => by unfold ovB; rw [if_neg (by omega), Nat.add_sub_cancel_left]
 have head : ∀ k, k < p.length → ∃ g cap, bs.getD k none = some (g, cap) ∧ uI k = .slice (some ⟨g, 0, none⟩) ((p.getD k (false, [])).2.length + 6) cap ∧ (p.getD k (false, [])).2.length + 6 ≤ cap ∧ cap ≤ maxLen := fun k hk => by
  obtain ⟨g, cap, cu, h1, h2, h3, -, h5, h6, h7, -⟩ := (hu k hk).own_some (hne _)
  rw [hln] at h2 h6
  exact ⟨g, cap, h1, h2, h6, h7⟩
 refine AL.rel_start (by simp) rfl (fun b hb => hb) (fun t => ?_) (fun h st e sz rows hh => ?_) (fun h st e sz rows hh => ?_) (fun h h' hne' hm1 hm2 g e1 e2 => ?_) (fun h st e rows hh => ?_) (fun h B hh => ?_) (fun h x v hh => ?_)
 ·have e : ([Value.agg a3].toArray ++ Array.replicate (Tryz.f15.ntmps - [Value.agg a3].toArray.size) Go.undef).getD t Go.undef = ([Value.agg a3][t]?).getD Go.undef := by
   rw [Array.getD_eq_getD_getElem?, Array.getElem?_append]
   split
   ·simp
   ·rename_i ht
    simp only [List.size_toArray, Nat.not_lt] at ht
    rw [List.getElem?_eq_none ht]
    simp only [Array.getElem?_replicate]
    split <;> rfl
  simp only [e]
  cases t with
  | zero =>
   simp only [initFA, List.getElem?_cons_zero, Option.getD_some, AVRep]
   exact ⟨a3, rfl, by rw [hcs]; exact ⟨.raw _ hG1, .raw _ hO1, .raw _ hI1, trivial⟩⟩
  | succ t => simp [initFA, AVRep]
 ·rcases ovH0_cases vm vG sp (p := p) h with ⟨rfl, hc⟩ | ⟨k, hk, rfl, hc⟩ | ⟨k, hk, rfl, hc⟩ | hc | hc <;> rw [hc] at hh <;> try cases hh
  ·rw [show ovB vO uI 2000 = vO from rfl, hvO, hsp]
   have hlen : (orow vm (p ++ spares)).length = p.length + 6 := by rw [orow_len, List.length_append]; rfl
   refine ⟨orow_rows _ _, .inr ⟨g0, cap0, cur, by rw [hlen], .inr (by simp [oid]), hg0, by omega, hcap0, hcur, reps_of_cells (orow_rows _ _) (by rw [hlen, hcur]; exact Nat.mul_le_mul_right _ hlen0) fun i r hi j x hj => ?_⟩⟩
   rw [orow_at] at hi
   split at hi
   ·rename_i hi2
    rw [List.length_append, show spares.length = 6 from rfl] at hi2
    injection hi with hi
    subst hi
    match j, hj with
    | 0, hj => cases hj; exact rep_flat (hb i hi2) (.inr ⟨_, rfl⟩)
    | 1, hj => cases hj; rw [hvm]; exact .raw _ (by rw [← hvm]; exact (hm i hi2).one)
    | j + 2, hj => simp at hj
   ·cases hi
  ·rw [ub]
   obtain ⟨g, cap, cu, h1, h2, h3, -, h5, h6, h7, -, h8⟩ := (hu k hk).own_some (hne _)
   exact ⟨lims_rows _, .inr ⟨g, cap, cu, h2, .inr (List.mem_append.2 (.inr (mem_ids h1))), h3, h6, h7, h5, reps_of_cells (lims_rows _) (by rw [h5]; exact Nat.mul_le_mul_right _ h6) fun i r hi j x hj => by
    obtain ⟨n, rfl⟩ := lims_cell hi hj
    exact rep_flat (h8 i r hi j _ hj) (.inl ⟨_, _, rfl⟩)⟩⟩
 ·rcases ovH0_cases vm vG sp (p := p) h with ⟨rfl, hc⟩ | ⟨k, hk, rfl, hc⟩ | ⟨k, hk, rfl, hc⟩ | hc | hc <;> rw [hc] at hh <;> cases hh
 ·have hd : ∀ h, (ovH0 vm vG sp p h).isMut → ∀ g, headOf (ovB vO uI h) = some g → (h = 2000 ∧ g = g0) ∨ ∃ k c, h = 1000000 + k ∧ bs.getD k none = some (g, c) := fun h hm g e => by
   rcases ovH0_cases vm vG sp (p := p) h with ⟨rfl, hc⟩ | ⟨k, hk, rfl, hc⟩ | ⟨k, hk, rfl, hc⟩ | hc | hc
   ·rw [show ovB vO uI 2000 = vO from rfl, hvO] at e
    injection e with e
    exact .inl ⟨rfl, e.symm⟩
   ·rw [ub] at e
    obtain ⟨g', cap, h1, h2, -⟩ := head k hk
    rw [h2] at e
    injection e with e
    subst e
    exact .inr ⟨k, cap, rfl, h1⟩
   all_goals (rw [hc] at hm; exact hm.elim)
  have hnot : g0 ∉ ids bs := fun hmem => by
   obtain ⟨_, _, h3⟩ := List.nodup_append.1 hn
   exact h3 g0 (by simp [oid]) g0 hmem rfl
  rcases hd h hm1 g e1 with ⟨rfl, rfl⟩ | ⟨k, c, rfl, hk⟩
  ·rcases hd h' hm2 g e2 with ⟨rfl, _⟩ | ⟨k, c, rfl, hk⟩
   ·exact hne' rfl
   ·exact hnot (mem_ids hk)
  ·rcases hd h' hm2 g e2 with ⟨rfl, rfl⟩ | ⟨k', c', rfl, hk'⟩
   ·exact hnot (mem_ids hk)
   ·exact nodup_ids (List.nodup_append.1 hn).2.1 (by omega) hk hk'
 ·rcases ovH0_cases vm vG sp (p := p) h with ⟨rfl, hc⟩ | ⟨k, hk, rfl, hc⟩ | ⟨k, hk, rfl, hc⟩ | hc | hc <;> rw [hc] at hh <;> cases hh
 ·rcases ovH0_cases vm vG sp (p := p) h with ⟨rfl, hc⟩ | ⟨k, hk, rfl, hc⟩ | ⟨k, hk, rfl, hc⟩ | hc | hc <;> rw [hc] at hh <;> cases hh
 ·rcases ovH0_cases vm vG sp (p := p) h with ⟨rfl, hc⟩ | ⟨k, hk, rfl, hc⟩ | ⟨k, hk, rfl, hc⟩ | hc | hc <;> rw [hc] at hh <;> try cases hh
  ·simp only [AVRep, hH.2.1 k hk, HC.stamp, HC.esz]
   obtain ⟨g, cap, h1, h2, h3, h4⟩ := head k hk
   have h5 := hm k (by omega)
   rw [getD_app_l _ _ hk, getD_app_lo _ _ (by omega), h1] at h5
   have h6 := h5.own_len.1
   simp only [Option.map_some, Option.getD_some] at h6
   rw [lims_length] at h6
   exact ⟨Nat.le_refl _, fun _ => .inr ⟨g, _, cap, cap, by rw [ub]; exact h2, by simpa using h6, by omega, h4, fun _ => rfl⟩⟩
  ·simp only [AVRep, hH.1, HC.stamp, HC.esz]
   exact ⟨Nat.le_refl _, fun _ => .inr ⟨g0, _, cap0, cap0, hvO, by simpa using hvG, by omega, hcap0, fun _ => rfl⟩⟩
theorem over_mem {p : List RI} (hpl : p.length ≤ 40) {bs cs : List OB} {bi : OB} {g0 cap0 : Nat} (hl : bs.length = p.length) (hcl : cs.length = 6) (hn : (oid (some (g0, cap0)) ++ oid bi ++ ids bs ++ ids cs).Nodup) {w w' : World} {vG vO vI : Value}
  (hvO : vO = .slice (some ⟨g0, 0, none⟩) (p.length + 6) cap0) (hvG : vG = .slice (some ⟨g0, 0, none⟩) p.length cap0) {vm uI : Nat → Value}
  (hm : ∀ i, i < p.length + 6 → Rep w (fun _ => False) (fnat ((bs ++ cs).getD i none) ((p ++ spares).getD i (false, [])).2) (vm i)) (hu : ∀ i, i < p.length → Rep w (fun _ => False) (fnat (bs.getD i none) ((p.getD i (false, [])).2 ++ marks)) (uI i))
  (rI : Rep w (fun _ => False) (.own bi (if p = [] then 0 else 25) (if p = [] then 0 else 1) (iws bs p)) vI) (hI : p ≠ [] → ∃ curi capi gi, bi = some (gi, capi) ∧ w.heap[gi]? = some (.cells curi 25 (0, 0)) ∧ ∀ i, i < p.length → uI i = curi.getD (i * 1 + 0) Go.undef)
  {sp : List (List IV)} (hsp : ∀ q : List RI, q.length = p.length → orow vm q ++ sp = orow vm (q ++ spares)) {D : Nat → Prop} {f : AL.Fr} {H : AL.Hp} {β : Nat → Value} {N : Nat} {a : Act}
  (R : Rel ⟨fun _ _ => False, true⟩ (fun b => b ∈ oid (some (g0, cap0)) ++ ids bs) w D N f H β a w') (hS : OvH vm vG sp p (ovp p) H) :
  Reps w' (fun _ => False) (RmV (some (g0, cap0)) bi bs cs (ovp p)) [vG, vO, vI] := by
 obtain ⟨hX, hN, hT, hS⟩ := hS
 have hkeep : ∀ b, b < w.heap.size → b ∉ oid (some (g0, cap0)) ++ ids bs → w'.heap[b]? = w.heap[b]? := fun b h1 h2 => R.keep b h1 h2
 have hpo := ovp_len p
 have hlim : ∀ i, i < p.length → Rep w' (fun _ => False) (fnat (bs.getD i none) ((ovp p).getD i (false, [])).2) (vm i) ∧ Rep w' (fun _ => False) (fnat (bs.getD i none) (((ovp p).getD i (false, [])).2 ++ marks)) (uI i) := fun i hi => by
  have h1 := hm i (by omega)
  rw [getD_app_l _ _ hi, getD_app_lo _ _ (by omega)] at h1
  exact ov_limbs (by rw [ovp_get p hi]; simp only [ov1, ovl_len]) h1 (hu i hi) (hN i hi) (R.own _ _ _ _ _ (hN i hi)) (R.tie _ _ _ (hT i hi))
 -- the outer list
 have ho := R.own _ _ _ _ _ hX
 obtain ⟨n, hn2⟩ := tie_head (R.tie _ _ _ hS) (by rw [hX]; rfl) hvG
 rw [hsp _ hpo] at ho
 have ol : (orow vm (ovp p ++ spares)).length = p.length + 6 := by rw [orow_len, List.length_append, hpo]; rfl
 obtain ⟨b', hr, -, -⟩ := ho.rep_own (D' := fun _ => False) (fun _ h => h.elim) (fun _ _ h => h)
 obtain ⟨g', cap', cur', rfl, e, hg', -, hc1, hc2, hc3, -, hc4⟩ := hr.own_some (by intro h; rw [h] at ol; simp at ol)
 rw [hn2, ol] at e
 rw [ol] at hc2
 injection e with e1 e2 e3
 injection e1 with e1
 injection e1 with e1 _ _
 subst e1 e3
 have cell : ∀ i, i < p.length + 6 → Rep w' (fun _ => False) (.bool ((ovp p ++ spares).getD i (false, [])).1) (cur'.getD (i * 2 + 0) Go.undef) ∧ cur'.getD (i * 2 + 1) Go.undef = vm i := fun i hi => by
  have hrow : (orow vm (ovp p ++ spares))[i]? = some [.bool ((ovp p ++ spares).getD i (false, [])).1, .raw (vm i)] := by rw [orow_at, if_pos (by rw [List.length_append, hpo]; exact hi)]
  refine ⟨hc4 i _ hrow 0 _ rfl, ?_⟩
  have h := hc4 i _ hrow 1 _ rfl
  revert h
  generalize cur'.getD (i * 2 + 1) Go.undef = z
  intro h
  cases h; rfl
 have fv : ∀ i, i < p.length + 6 → Rep w' (fun _ => False) (fnat ((bs ++ cs).getD i none) ((ovp p ++ spares).getD i (false, [])).2) (vm i) := fun i hi => by
  by_cases hi2 : i < p.length
  ·rw [getD_app_l _ _ (by omega), getD_app_lo _ _ (by omega)]; exact (hlim i hi2).1
  ·have h1 := hm i hi
   rw [getD_app_r _ _ (by omega), getD_app_ro _ _ (by omega)] at h1 ⊢
   rw [hpo]
   refine h1.full (full_fnat _ _) fun g hg => ⟨?_, fun h => h⟩
   have hlt := (h1.ids g hg).2
   refine hkeep g hlt fun hmem => ?_
   rw [ids_fnat] at hg
   have hgc : g ∈ ids cs := by
    cases hb : cs.getD (i - bs.length) none with
    | none => rw [hb] at hg; simp [oid] at hg
    | some q => rw [hb] at hg; simp only [oid, List.mem_singleton] at hg; subst hg; exact mem_ids (c := q.2) hb
   obtain ⟨h2, _, h3⟩ := List.nodup_append.1 hn
   refine h3 g ?_ g hgc rfl
   rcases List.mem_append.1 hmem with h | h
   ·exact List.mem_append.2 (.inl (List.mem_append.2 (.inl h)))
   ·exact List.mem_append.2 (.inr h)
 have rO' : Rep w' (fun _ => False) (.own (some (g0, cap0)) 27 2 (gws (bs ++ cs) (ovp p ++ spares))) vO := by
  have hl2 : (bs ++ cs).length = (ovp p ++ spares).length := by rw [List.length_append, List.length_append, hl, hcl, hpo]; rfl
  have hl3 : (gws (bs ++ cs) (ovp p ++ spares)).length = p.length + 6 := by rw [gws_len hl2, List.length_append, hpo]; rfl
  rw [hvO, ← hl3]
  refine .own _ g0 cap0 _ 2 cur' (fun i r hi => ?_) (by omega) hc3 hg' (fun h => h) hc1 (fun i r hi j x hj => ?_)
  ·have hi2 := (List.getElem?_eq_some_iff.1 hi).1
   rw [row_gws hl2 (by rw [gws_len hl2] at hi2; exact hi2)] at hi
   injection hi with hi; rw [← hi]; rfl
  ·have hi2 := (List.getElem?_eq_some_iff.1 hi).1
   rw [row_gws hl2 (by rw [gws_len hl2] at hi2; exact hi2)] at hi
   injection hi with hi; subst hi
   rw [hl3] at hi2
   match j, hj with
   | 0, hj => cases hj; exact (cell i hi2).1
   | 1, hj => cases hj; rw [(cell i hi2).2]; exact fv i hi2
   | j + 2, hj => simp [gint] at hj
 have rG' : Rep w' (fun _ => False) (.own (some (g0, cap0)) 27 2 (gws bs (ovp p))) vG := by
  have := rO'.own_take (n := p.length) (by rw [gws_len (by rw [List.length_append, List.length_append, hl, hcl, hpo]; rfl), List.length_append, hpo]; omega)
  rw [← hpo, gws_take (by rw [hl, hpo])] at this
  rw [hvG, ← hpo]; exact this
 refine ⟨rG', rO', ?_, trivial⟩
 by_cases hpn : p = []
 ·subst hpn
  have : bs = [] := List.eq_nil_of_length_eq_zero hl
  subst this
  have e2 : ovp [] = [] := rfl
  simp only [e2, if_pos] at rI ⊢
  rw [show iws [] [] = [] from rfl] at rI ⊢
  cases rI with
  | ownN => exact .ownN _ _
  | own _ g cap e sz cur hsz hlen hcap hg hD hcs hr =>
   refine .own [] g cap _ _ cur hsz hlen hcap ?_ (fun h => h) hcs (fun i r hi => by simp at hi)
   rw [hkeep g (Array.getElem?_eq_some_iff.1 hg).1 fun hmem => ?_]
   ·exact hg
   ·obtain ⟨h2, _, _⟩ := List.nodup_append.1 (List.nodup_append.1 hn).1
    obtain ⟨_, _, h3⟩ := List.nodup_append.1 h2
    rcases List.mem_append.1 hmem with h | h
    ·exact h3 g h g (by simp [oid]) rfl
    ·simp [ids] at h
 ·have hpn' : ovp p ≠ [] := fun h => hpn (List.eq_nil_of_length_eq_zero (by rw [← hpo, h]; rfl))
  rw [if_neg hpn, if_neg hpn] at rI
  rw [if_neg hpn', if_neg hpn']
  obtain ⟨curi, capi, gi, rfl, hgi, huI⟩ := hI hpn
  have il : (iws bs p).length = p.length := iws_len hl
  have il2 : (iws bs (ovp p)).length = p.length := by rw [iws_len (by rw [hl, hpo]), hpo]
  obtain ⟨g2, cap2, cur2, e, hvI, hg2, -, h5, h6, h7, -⟩ := rI.own_some (by intro h; rw [h] at il; exact hpn (List.eq_nil_of_length_eq_zero il.symm))
  injection e with e; injection e with e1 e2; subst e1 e2
  rw [hgi] at hg2
  injection hg2 with hg2; injection hg2 with hg2; subst hg2
  have hni : gi ∉ oid (some (g0, cap0)) ++ ids bs := fun hmem => by
   obtain ⟨h2, _, _⟩ := List.nodup_append.1 hn
   obtain ⟨h3, _, h4⟩ := List.nodup_append.1 h2
   obtain ⟨_, _, h5⟩ := List.nodup_append.1 h3
   rcases List.mem_append.1 hmem with h | h
   ·exact h5 gi h gi (by simp [oid]) rfl
   ·exact h4 gi (List.mem_append.2 (.inr (by simp [oid]))) gi h rfl
  rw [hvI, il, ← il2]
  refine .own _ gi capi _ 1 curi (fun i r hi => ?_) (by omega) h7 (by rw [hkeep gi (Array.getElem?_eq_some_iff.1 hgi).1 hni]; exact hgi) (fun h => h) h5 (fun i r hi j x hj => ?_)
  ·have hi2 := (List.getElem?_eq_some_iff.1 hi).1
   rw [row_iws (by rw [hl, hpo]) (by omega)] at hi
   injection hi with hi; rw [← hi]; rfl
  ·have hi2 := (List.getElem?_eq_some_iff.1 hi).1
   rw [row_iws (by rw [hl, hpo]) (by omega)] at hi
   injection hi with hi; subst hi
   cases j with
   | zero => simp at hj; subst hj; rw [← huI i (by omega)]; exact (hlim i (by omega)).2
   | succ j => simp at hj
set_option maxHeartbeats 1000000 in
theorem over_c {p : List RI} (hp : RP 40 200 p) {bo bi : OB} {bs cs : List OB} (hl : bs.length = p.length) (hcl : cs.length = 6) (hn : (oid bo ++ oid bi ++ ids bs ++ ids cs).Nodup) {w : World} {a3 : Array Value} (hr : Reps w (fun _ => False) (RmV bo bi bs cs p) a3.toList) :
  CallsR Tryz.prog 15 [.agg a3] w (fun v w' => w'.os = w.os ∧ w'.tape = w.tape ∧ w'.output = w.output ∧ w.heap.size ≤ w'.heap.size ∧ (∀ b, b < w.heap.size → b ∉ oid bo ++ ids bs → w'.heap[b]? = w.heap[b]?) ∧
   Reps w' (fun _ => False) (RmV bo bi bs cs (ovp p)) a3.toList ∧ Rep w' (fun b => b < w.heap.size ∧ b ∉ oid bo ++ oid bi ++ ids bs ++ ids cs) (.sl (raws (ovp p))) v) := by
 have hpl := hp.1
 obtain ⟨vG, vO, vI, hcs⟩ : ∃ vG vO vI, a3.toList = [vG, vO, vI] := by
  have := hr.length
  match h : a3.toList, this with
  | [x, y, z], _ => exact ⟨x, y, z, rfl⟩
 rw [hcs] at hr ⊢
 obtain ⟨rG, rO, rI, -⟩ := hr
 have hl2 : (bs ++ cs).length = (p ++ spares).length := by rw [List.length_append, List.length_append, hl, hcl]; rfl
 have ol : (gws (bs ++ cs) (p ++ spares)).length = p.length + 6 := by rw [gws_len hl2, List.length_append]; rfl
 have gl : (gws bs p).length = p.length := gws_len hl
 obtain ⟨g0, cap0, cur, rfl, hvO, hg0, -, hcur, hlen0, hcap0, hrow0, hcell0⟩ := rO.own_some (by intro h; rw [h] at ol; simp at ol)
 have hvG := rG.own_len.1
 simp only [Option.map_some, Option.getD_some] at hvG
 rw [gl] at hvG
 rw [ol] at hvO hlen0
 obtain ⟨vm, hvm⟩ : ∃ vm : Nat → Value, ∀ i, vm i = cur.getD (i * 2 + 1) Go.undef := ⟨_, fun _ => rfl⟩
 have hp6 : (p ++ spares).length = p.length + 6 := by rw [List.length_append]; rfl
 have hrow : ∀ i, i < p.length + 6 → (gws (bs ++ cs) (p ++ spares))[i]? = some (gint ((bs ++ cs).getD i none) ((p ++ spares).getD i (false, []))) := fun i hi => row_gws hl2 (by rw [hp6]; exact hi)
 have hm : ∀ i, i < p.length + 6 → Rep w (fun _ => False) (fnat ((bs ++ cs).getD i none) ((p ++ spares).getD i (false, [])).2) (vm i) := fun i hi => by
  rw [hvm]; exact hcell0 i _ (hrow i hi) 1 _ rfl
 have hb : ∀ i, i < p.length + 6 → Rep w (fun _ => False) (.bool ((p ++ spares).getD i (false, [])).1) (cur.getD (i * 2 + 0) Go.undef) := fun i hi => hcell0 i _ (hrow i hi) 0 _ rfl
 obtain ⟨uI, hu, hI⟩ : ∃ uI : Nat → Value, (∀ i, i < p.length → Rep w (fun _ => False) (fnat (bs.getD i none) ((p.getD i (false, [])).2 ++ marks)) (uI i)) ∧ (p ≠ [] → ∃ curi capi gi, bi = some (gi, capi) ∧ w.heap[gi]? = some (.cells curi 25 (0, 0)) ∧ ∀ i, i < p.length → uI i = curi.getD (i * 1 + 0) Go.undef) := by
  by_cases hpn : p = []
  ·subst hpn; exact ⟨fun _ => default, fun i hi => by simp at hi, fun h => (h rfl).elim⟩
  ·rw [if_neg hpn, if_neg hpn] at rI
   obtain ⟨gi, capi, curi, e1, -, e2, -, -, -, -, -, h⟩ := rI.own_some (by intro h; have := iws_len hl; rw [h] at this; exact hpn (List.eq_nil_of_length_eq_zero this.symm))
   exact ⟨fun i => curi.getD (i * 1 + 0) Go.undef, fun i hi => h i _ (row_iws hl hi) 0 _ rfl, fun _ => ⟨curi, capi, gi, e1, e2, fun _ _ => rfl⟩⟩
 obtain ⟨sp, hspd⟩ : ∃ sp : List (List IV), sp = (List.range spares.length).map fun j => [.bool (spares.getD j (false, [])).1, .raw (vm (p.length + j))] := ⟨_, rfl⟩
 have hsp : ∀ q : List RI, q.length = p.length → orow vm q ++ sp = orow vm (q ++ spares) := fun q hq => by rw [orow_app, hspd, hq]
 have hspl : sp.length = 6 := by rw [hspd]; simp [spares]
 have hn1 : (oid (some (g0, cap0)) ++ ids bs).Nodup := by
  obtain ⟨h2, _, _⟩ := List.nodup_append.1 hn
  obtain ⟨h3, h4, h5⟩ := List.nodup_append.1 h2
  obtain ⟨h6, _, _⟩ := List.nodup_append.1 h3
  exact List.nodup_append.2 ⟨h6, h4, fun a ha b hb => h5 a (List.mem_append.2 (.inl ha)) b hb⟩
 have R0 := over_start hpl hl hcl hn1 hcs rG.one rO.one rI.one hvO hvG hg0 hcur hlen0 hcap0 hvm hb hm hu (hsp p rfl)
 obtain ⟨c, hc, hA⟩ := over_loop vm vG vO vI sp p hp hspl (ovH0 vm vG sp p) (by simp [ovH0]) (ovH0_ok vm vG sp hpl)
 have hcd : Option.map (codeOk Tryz.f15.ntmps) Tryz.f15.body = some true := by rfl
 have hcn : Option.map noRange Tryz.f15.body = some true := by rfl
 have hcx : (Tryz.f15.body.bind (dropO 2)).isSome = true := by rfl
 rw [hc] at hcd hcn
 simp only [Option.map_some, Option.some.injEq] at hcd hcn
 refine calls_body Tryz.func15 hc (by rfl) ?_
 refine aws_sound (zi := zO) ords 2 c _ _ _ _ _ w (.inl hcn) hcd hA R0 (fun f H β a w' hS R => ?_) fun e a w' _ hq => ?_
 ·obtain ⟨h1, hH1, hO⟩ := hS
  have hmem := over_mem hpl hl hcl hn hvO hvG hm hu rI hI hsp R hO
  obtain ⟨gb, curb, hb1, hb2, hb3, hb4, -, hb6⟩ := R.box_at h1 hH1
  have hpo := ovp_len p
  -- the copy
  obtain ⟨d, hd, hT⟩ := over_tail (some (g0, cap0)) bi bs cs (ovp p) (ovp_rp hp) (by rw [hl, hpo]) (upd (fun _ => .dead) 1 (.ip (RmV (some (g0, cap0)) bi bs cs (ovp p)))) initH (by simp [upd])
  rw [hc] at hd
  have hd2 : dropO 2 c = some d := hd
  rw [dropO_eq hd2]
  have hcur3 : curb.toList.take 3 = [vG, vO, vI] := by
   match h : curb.toList.take 3, hb6 with
   | [x, y, z], ⟨h1, h2, h3, _⟩ => cases h1; cases h2; cases h3; rfl
  have R2 : Rel ⟨fun _ _ => False, true⟩ (fun _ => False) w' (fun b => b < w.heap.size ∧ b ∉ oid (some (g0, cap0)) ++ oid bi ++ ids bs ++ ids cs) Tryz.f15.ntmps (upd (fun _ => .dead) 1 (.ip (RmV (some (g0, cap0)) bi bs cs (ovp p)))) initH (fun _ => default) a w' := by
   refine AL.rel_start R.tsize (R.rnd rfl) (fun b hb => ⟨Nat.lt_of_lt_of_le hb.1 R.size, fun h => h⟩) (fun t => ?_) (fun h st e sz rows hh => by cases hh) (fun h st e sz rows hh => by cases hh) (fun h h' _ hm => hm.elim) (fun h st e rows hh => by cases hh) (fun h B hh => by cases hh) (fun h x v hh => by cases hh)
   by_cases ht : t = 1
   ·subst ht
    rw [show upd (fun _ => AV.dead) 1 (.ip (RmV (some (g0, cap0)) bi bs cs (ovp p))) 1 = .ip (RmV (some (g0, cap0)) bi bs cs (ovp p)) by simp [upd], hb1]
    have hX : ∀ b, DD initH (fun _ => default) (fun b => b < w.heap.size ∧ b ∉ oid (some (g0, cap0)) ++ oid bi ++ ids bs ++ ids cs) b → b < w.heap.size ∧ b ∉ oid (some (g0, cap0)) ++ oid bi ++ ids bs ++ ids cs := by
     rintro b (h | ⟨k, hm, _⟩)
     ·exact h
     ·exact hm.elim
    refine ip_of_cells (sz := 3) hb3 (fun h => ?_) ?_
    ·have := hX _ h
     rcases hb4 with h | h
     ·omega
     ·refine this.2 ?_
      rcases List.mem_append.1 h with h | h
      ·exact List.mem_append.2 (.inl (List.mem_append.2 (.inl (List.mem_append.2 (.inl h)))))
      ·exact List.mem_append.2 (.inl (List.mem_append.2 (.inr h)))
    ·rw [hcur3]
     refine hmem.full (fun x hx => ?_) fun g hg => ⟨rfl, fun h => (hX _ h).2 ?_⟩
     ·simp only [List.mem_cons, List.not_mem_nil, or_false] at hx
      rcases hx with rfl | rfl | rfl
      ·exact full_gws _ _ _ _
      ·exact full_gws _ _ _ _
      ·exact full_iws _ _ _ _ _
     ·exact rmv_ids (by rw [hl, hpo]) (by rw [hcl]) hg
   ·simp [upd, ht, AVRep]
  refine wpIn_mono (aw_sound ords d none _ _ _ _ _ _ _ a w' (.inl (dropO_nr hd2 hcn)) (dropO_ok hd2 hcd) hT R2) fun e a3 w3 hq => ?_
  have fin : ∀ f H β, f 2 = .iv (.sl (raws (ovp p))) → Rel ⟨fun _ _ => False, true⟩ (fun _ => False) w' (fun b => b < w.heap.size ∧ b ∉ oid (some (g0, cap0)) ++ oid bi ++ ids bs ++ ids cs) Tryz.f15.ntmps f H β a3 w3 →
    a3.defers = [] ∧ ∃ us, (Tryz.f15.results.toList.mapM (rvS a3.tmps)).run Tryz.prog w3 = .ok us w3 ∧ (w3.os = w.os ∧ w3.tape = w.tape ∧ w3.output = w.output ∧ w.heap.size ≤ w3.heap.size ∧ (∀ b, b < w.heap.size → b ∉ oid (some (g0, cap0)) ++ ids bs → w3.heap[b]? = w.heap[b]?) ∧
   Reps w3 (fun _ => False) (RmV (some (g0, cap0)) bi bs cs (ovp p)) [vG, vO, vI] ∧ Rep w3 (fun b => b < w.heap.size ∧ b ∉ oid (some (g0, cap0)) ++ oid bi ++ ids bs ++ ids cs) (.sl (raws (ovp p))) (packV us)) := by
   intro f H β hf R3
   refine ⟨R3.rnd rfl, [a3.tmps.getD 2 Go.undef], by simp [show Tryz.f15.results.toList = [.tmp 2] from rfl, rvS], R3.os.trans R.os, R3.tape.trans R.tape, R3.output.trans R.output, Nat.le_trans R.size R3.size, fun b h1 h2 => (R3.keep b (Nat.lt_of_lt_of_le h1 R.size) (fun h => h)).trans (R.keep b h1 h2), ?_, ?_⟩
   ·refine hmem.full (fun x hx => ?_) fun g hg => ⟨R3.keep g ?_ (fun h => h), fun h => h⟩
    ·simp only [List.mem_cons, List.not_mem_nil, or_false] at hx
     rcases hx with rfl | rfl | rfl
     ·exact full_gws _ _ _ _
     ·exact full_gws _ _ _ _
     ·exact full_iws _ _ _ _ _
    ·obtain ⟨x, hx, hgx⟩ := mem_idsRow.1 hg
     obtain ⟨j, hj⟩ := List.getElem?_of_mem hx
     obtain ⟨v, _, hv⟩ := hmem.get j x hj
     exact (hv.ids g hgx).2
   ·have := R3.tmps 2
    rw [hf] at this
    simp only [AVRep] at this
    exact this.mono (Grows.of_sub fun b hb => .inl hb)
  cases e with
  | normal => obtain ⟨f, H, β, hk, R3⟩ := hq; exact ⟨.inl rfl, fin f H β hk.2 R3⟩
  | ret => obtain ⟨f, H, β, hk, R3⟩ := hq; exact ⟨.inr rfl, fin f H β hk.2 R3⟩
  | panic _ => exact hq.elim
  | outgrown => exact hq.elim
  | exit id => obtain ⟨f, H, β, hk, R3⟩ := hq; rcases hk.1 with h | h <;> cases h
  | goto l => obtain ⟨f, H, β, hk, R3⟩ := hq; rcases hk.1 with h | h <;> cases h
 ·cases e with
  | panic _ => exact hq.elim
  | outgrown => exact hq.elim
  | normal => obtain ⟨f, H, β, hk, R⟩ := hq; exact hk.elim
  | ret => obtain ⟨f, H, β, hk, R⟩ := hq; exact hk.elim
  | exit id => obtain ⟨f, H, β, hk, R⟩ := hq; exact hk.elim
  | goto l => obtain ⟨f, H, β, hk, R⟩ := hq; exact hk.elim
end Go.Proofs.YtdokaihemcnkmaaGreat

namespace Go.Proofs.YtdokaihemcnkmaaGreat
open Go Go.Proofs Go.AL
set_option linter.unusedSimpArgs false
set_option linter.unusedVariables false
structure KP where
 xo : OB
 xi : OB
 xs : List OB
 xc : List OB
 yo : OB
 yi : OB
 ys : List OB
 yc : List OB
 ko : OB
 ki : OB
 ks : List OB
 kc : List OB
 B0 : Nat
 E1 : Nat
 E2 : Nat
 E3 : Nat
def KOk (q : KP) (A B : List RI) (K : RI) : Prop := q.B0 ≤ q.E1 ∧ q.E1 ≤ q.E2 ∧ q.E2 ≤ q.E3 ∧ RmOk q.xo q.xi q.xs q.xc A q.B0 q.E1 ∧ RmOk q.yo q.yi q.ys q.yc B q.E1 q.E2 ∧ RmOk q.ko q.ki q.ks q.kc [K] q.E2 q.E3
def KB (q : KP) (A B C : List RI) (K : RI) (N : Int) (A' : List RI) (f : AL.Fr) (H : AL.Hp) : Prop :=
 f 1 = .hp 1 1 0 0 ∧ H 1 = .blk false 1 29 6 [case9v q.B0 A B C K N] ∧ f 3 = .hp 3 1 0 0 ∧ H 3 = .blk false 1 35 3 [RmV q.xo q.xi q.xs q.xc A'] ∧
 f 4 = .hp 4 1 0 0 ∧ H 4 = .blk false 1 35 3 [RmV q.yo q.yi q.ys q.yc B] ∧ f 5 = .hp 5 1 0 0 ∧ H 5 = .blk false 1 35 3 [RmV q.ko q.ki q.ks q.kc [K]]
def SA' (q : KP) (A B C : List RI) (K : RI) (N : Int) (f : AL.Fr) (H : AL.Hp) : Prop :=
 RP 40 200 A ∧ RP 40 200 B ∧ Sz 200 K ∧ KOk q A B K ∧ KB q A B C K N A f H ∧ H 999 = .mrk q.E3
theorem SA_ok {A B C : List RI} {K : RI} {N : Int} {B0 : Nat} {f : AL.Fr} {H : AL.Hp} (h : SA A B C K N B0 f H) : ∃ q : KP, q.B0 = B0 ∧ SA' q A B C K N f H := by
 obtain ⟨ra, rb, rk, h1, h2, xo, xi, xs, xc, yo, yi, ys, yc, ko, ki, ks, kc, E1, E2, E3, e1, e2, e3, x, y, k, m, h3, h4, h5, h6, h7, h8⟩ := h
 exact ⟨⟨xo, xi, xs, xc, yo, yi, ys, yc, ko, ki, ks, kc, B0, E1, E2, E3⟩, rfl, ra, rb, rk, ⟨e1, e2, e3, x, y, k⟩, ⟨h1, h2, h3, h4, h5, h6, h7, h8⟩, m⟩
def KX (q : KP) : Nat → Prop := fun b => q.B0 ≤ b ∧ b < q.E3
def SB (q : KP) (A B C : List RI) (K : RI) (N : Int) (f : AL.Fr) (H : AL.Hp) : Prop :=
 SA' q A B C K N f H ∧ f 6 = .iv (.av (KX q) (.sl (rp (askp (pv A) (pv B) (iv K))))) ∧ f 7 = .iv (.av (KX q) (.sl (rn (askn (pv A)))))
set_option maxRecDepth 8000 in
set_option maxHeartbeats 1000000 in
theorem seg_b (q : KP) (A B C : List RI) (K : RI) (N : Int) (f : AL.Fr) (H : AL.Hp) (h : SA' q A B C K N f H) :
  ∃ c, (Tryz.f3.body.bind (dropO 5)) = some c ∧ @AWs zi0 Tryz.prog (SB q A B C K N) 1 c (fun _ _ _ => False) f H := by
 refine ⟨_, rfl, ?_⟩
 obtain ⟨ra, rb, rk, hq, ⟨h1, hH1, h3, hH3, h4, hH4, h5, hH5⟩, h9⟩ := id h
 simp (disch := omega) only [wt, seval, reduceCtorEq, Nat.reduceEqDiff, cpoly_len, List.drop_succ_cons, List.take_succ_cons, List.take_zero, lay_own, spl_own, fld_int1, AWs_succ, AWs_zero, avC, packA, List.map_cons, List.map_nil, h1, hH1]
 refine calli_by (AC.avi (mean_ok A B K ra rb rk) h9 (X := KX q) (fun b hb => hb.2) (fun w D β vs hv => ?_)) ?_
 ·match vs, hv with
  | [u1, u2, u3], .cons g1 (.cons g2 (.cons g3 .nil)) =>
   simp only [AVRep] at g1 g2 g3
   have e : Grows w (fun b => D b ∨ q.B0 ≤ b) w (fun b => D b ∨ KX q b) := Grows.of_sub fun b hb => hb.imp id fun h => h.1
   obtain ⟨c3, rfl, g3⟩ := g3
   cases g1 with
   | av _ _ _ g1 =>
   cases g2 with
   | av _ _ _ g2 =>
   refine ⟨g1.mono e, g2.mono e, ⟨c3, rfl, ?_⟩, trivial⟩
   match c3.toList, g3 with
   | [v1, v2], ⟨m1, m2, _⟩ =>
    cases m2 with
    | av _ _ _ m2 => exact ⟨rep_flat m1 (.inr ⟨_, rfl⟩), m2.mono e, trivial⟩
 ·rintro x H' ⟨rfl, rfl⟩
  simp (disch := omega) only [wt, seval, reduceCtorEq, Nat.reduceEqDiff, cpoly_len, List.drop_succ_cons, List.take_succ_cons, List.take_zero, lay_own, spl_own, fld_int1, AWs_succ, AWs_zero, avC, packA, List.map_cons, List.map_nil, h1, hH1]
  exact ⟨⟨ra, rb, rk, hq, ⟨by simp (disch := omega) only [wt, seval, reduceCtorEq, Nat.reduceEqDiff, cpoly_len, List.drop_succ_cons, List.take_succ_cons, List.take_zero, lay_own, spl_own, fld_int1, AWs_succ, AWs_zero, avC, packA, List.map_cons, List.map_nil, h1], hH1, by simp (disch := omega) only [wt, seval, reduceCtorEq, Nat.reduceEqDiff, cpoly_len, List.drop_succ_cons, List.take_succ_cons, List.take_zero, lay_own, spl_own, fld_int1, AWs_succ, AWs_zero, avC, packA, List.map_cons, List.map_nil, h3], hH3, by simp (disch := omega) only [wt, seval, reduceCtorEq, Nat.reduceEqDiff, cpoly_len, List.drop_succ_cons, List.take_succ_cons, List.take_zero, lay_own, spl_own, fld_int1, AWs_succ, AWs_zero, avC, packA, List.map_cons, List.map_nil, h4], hH4, by simp (disch := omega) only [wt, seval, reduceCtorEq, Nat.reduceEqDiff, cpoly_len, List.drop_succ_cons, List.take_succ_cons, List.take_zero, lay_own, spl_own, fld_int1, AWs_succ, AWs_zero, avC, packA, List.map_cons, List.map_nil, h5], hH5⟩, h9⟩, by simp (disch := omega) only [wt, seval, reduceCtorEq, Nat.reduceEqDiff, cpoly_len, List.drop_succ_cons, List.take_succ_cons, List.take_zero, lay_own, spl_own, fld_int1, AWs_succ, AWs_zero, avC, packA, List.map_cons, List.map_nil], by simp (disch := omega) only [wt, seval, reduceCtorEq, Nat.reduceEqDiff, cpoly_len, List.drop_succ_cons, List.take_succ_cons, List.take_zero, lay_own, spl_own, fld_int1, AWs_succ, AWs_zero, avC, packA, List.map_cons, List.map_nil]⟩
theorem _root_.Go.AL.AC.arg {P : Program} {g : Nat} {args args' : List CV} {own : OwnRes} {res : List CV} (h : AC P g args' own res) (hs : ∀ (w : World) (D : Nat → Prop) (vs : List Value), CVReps w D args vs → CVReps w D args' vs) : AC P g args own res :=
 fun w D vs hD hv => h w D vs hD (hs w D vs hv)
theorem soft_prow (o : OB) (c : RI) : SoftC (.agg (gint o c)) (.agg (prow c)) := .agg rfl fun j x y hx hy => soft_gint o c j x y hx hy
theorem soft_iws {b : OB} {e sz : Nat} {bs : List OB} {p : List RI} (h : bs.length = p.length) : Soft (.own b e sz (iws bs p)) (.sl (p.map fun c => [.sl (lims (c.2 ++ marks))])) := by
 have key : ∀ (i : Nat) (r r' : List IV), (iws bs p)[i]? = some r → (p.map fun c : RI => [IV.sl (lims (c.2 ++ marks))])[i]? = some r' → ∃ o l, r = [fnat o l] ∧ r' = [.sl (lims l)] := fun i r r' hr hr' => by
  rw [iws, List.getElem?_zipWith] at hr
  simp only [List.getElem?_map] at hr'
  cases hb : bs[i]? with
  | none => rw [hb] at hr; simp at hr
  | some o =>
   cases hp : p[i]? with
   | none => rw [hp] at hr'; cases hr'
   | some c =>
    rw [hb, hp] at hr; rw [hp] at hr'
    injection hr with hr; injection hr' with hr'
    exact ⟨o, _, hr.symm, hr'.symm⟩
 refine .own _ _ _ _ _ (by rw [iws_len h]; simp) (fun i r r' hr hr' => ?_) (fun i r r' hr hr' j x y hx hy => ?_)
 ·obtain ⟨o, l, rfl, rfl⟩ := key i r r' hr hr'; rfl
 ·obtain ⟨o, l, rfl, rfl⟩ := key i r r' hr hr'
  cases j with
  | zero => simp at hx hy; subst hx hy; exact soft_gint o (false, l) 1 _ _ rfl rfl
  | succ j => simp at hx
theorem soft_room {bo bi : OB} {bs cs : List OB} {p : List RI} (hl : bs.length = p.length) (hcl : cs.length = 6) : SoftC (.agg (RmV bo bi bs cs p)) (.agg (RmS p)) := by
 refine .agg rfl fun j x y hx hy => ?_
 match j, hx, hy with
 | 0, hx, hy => cases hx; cases hy; exact soft_gws hl
 | 1, hx, hy => cases hx; cases hy; exact soft_gws (by rw [List.length_append, List.length_append, hl, hcl]; rfl)
 | 2, hx, hy => cases hx; cases hy; exact soft_iws hl
 | j + 3, hx, hy => simp at hx
theorem soft_nlist {b : OB} {e : Nat} {ds : List OB} {ns : List (List Nat)} (h : ds.length = ns.length) : Soft (.own b e 1 (nlist ds ns)) (.sl (rn ns)) := by
 have key : ∀ (i : Nat) (r r' : List IV), (nlist ds ns)[i]? = some r → (rn ns)[i]? = some r' → ∃ o l, r = [fnat o l] ∧ r' = [.sl (lims l)] := fun i r r' hr hr' => by
  rw [nlist, List.getElem?_zipWith] at hr
  simp only [rn, List.getElem?_map] at hr'
  cases hb : ds[i]? with
  | none => rw [hb] at hr; simp at hr
  | some o =>
   cases hp : ns[i]? with
   | none => rw [hp] at hr'; cases hr'
   | some c =>
    rw [hb, hp] at hr; rw [hp] at hr'
    injection hr with hr; injection hr' with hr'
    exact ⟨o, _, hr.symm, hr'.symm⟩
 refine .own _ _ _ _ _ (by simp [rn, nlist, h]) (fun i r r' hr hr' => ?_) (fun i r r' hr hr' j x y hx hy => ?_)
 ·obtain ⟨o, l, rfl, rfl⟩ := key i r r' hr hr'; rfl
 ·obtain ⟨o, l, rfl, rfl⟩ := key i r r' hr hr'
  cases j with
  | zero => simp at hx hy; subst hx hy; exact soft_gint o (false, l) 1 _ _ rfl rfl
  | succ j => simp at hx
theorem soft_plist {b : OB} {e : Nat} {cs : List OP} {ps : List (List Int)} (h : POk cs ps) : Soft (.own b e 1 (plist cs ps)) (.sl (rp ps)) := by
 have key : ∀ (i : Nat) (r r' : List IV), (plist cs ps)[i]? = some r → (rp ps)[i]? = some r' → ∃ (c : OP) (l : List Int), c.2.length = l.length ∧ r = [fpoly c.1 c.2 l] ∧ r' = [.sl (raws (l.map canon))] := fun i r r' hr hr' => by
  rw [plist, List.getElem?_zipWith] at hr
  simp only [rp, List.getElem?_map] at hr'
  cases hb : cs[i]? with
  | none => rw [hb] at hr; simp at hr
  | some o =>
   cases hp : ps[i]? with
   | none => rw [hp] at hr'; cases hr'
   | some c =>
    have := h.2 i o c hb hp
    rw [hb, hp] at hr; rw [hp] at hr'
    injection hr with hr; injection hr' with hr'
    exact ⟨o, _, this, hr.symm, hr'.symm⟩
 refine .own _ _ _ _ _ (by simp [rp, plist, h.1]) (fun i r r' hr hr' => ?_) (fun i r r' hr hr' j x y hx hy => ?_)
 ·obtain ⟨o, l, _, rfl, rfl⟩ := key i r r' hr hr'; rfl
 ·obtain ⟨o, l, hl, rfl, rfl⟩ := key i r r' hr hr'
  cases j with
  | zero => simp at hx hy; subst hx hy; exact soft_poly hl
  | succ j => simp at hx
abbrev AP (o : OB) (c : List OP) (ps : List (List Int)) : IV := .own o 23 1 (plist c ps)
abbrev AN (u : OB) (d : List OB) (ns : List (List Nat)) : IV := .own u 25 1 (nlist d ns)
def AOk (o u : OB) (c : List OP) (d : List OB) (ps : List (List Int)) (ns : List (List Nat)) (B E : Nat) : Prop := POk c ps ∧ d.length = ns.length ∧ Nw B E (oid u ++ (oid o ++ (c.flatMap pid ++ d.flatMap oid)))
theorem like_of (X Y : Nat → Prop) {o u : OB} {c : List OP} {d : List OB} {ps : List (List Int)} {ns : List (List Nat)} {B E : Nat} (ha : AOk o u c d ps ns B E) (hp : ps.length ≤ 1000) (hn : ns.length ≤ 1000) (hq : ∀ q ∈ ps, PB (2 ^ 40) (2 ^ 43) q) (hl : ∀ l ∈ ns, l.length ≤ 2 ^ 43) :
  AC Tryz.prog 13 [.iv (AP o c ps), .iv (.av X (.sl (rp ps))), .iv (AN u d ns), .iv (.av Y (.sl (rn ns)))] none [cb true] := by
 refine (like_ok ps ns hp hn hq hl).arg fun w D vs hv => ?_
 match vs, hv with
 | [u1, u2, u3, u4], ⟨h1, h2, h3, h4, _⟩ => exact ⟨(soft_plist ha.1).rep h1, Rep.unav h2, (soft_nlist ha.2.1).rep h3, Rep.unav h4, trivial⟩
theorem like_of' {o u : OB} {c : List OP} {d : List OB} {ps : List (List Int)} {ns : List (List Nat)} {B E : Nat} (ha : AOk o u c d ps ns B E) (hp : ps.length ≤ 1000) (hn : ns.length ≤ 1000) (hq : ∀ q ∈ ps, PB (2 ^ 40) (2 ^ 43) q) (hl : ∀ l ∈ ns, l.length ≤ 2 ^ 43) :
  AC Tryz.prog 13 [.iv (AP o c ps), .iv (.sl (rp ps)), .iv (AN u d ns), .iv (.sl (rn ns))] none [cb true] :=
 (like_ok ps ns hp hn hq hl).soft (.cons (.iv (soft_plist ha.1)) (.cons (.refl _) (.cons (.iv (soft_nlist ha.2.1)) (.cons (.refl _) .nil))))
end Go.Proofs.YtdokaihemcnkmaaGreat

namespace Go.Proofs.YtdokaihemcnkmaaGreat
open Go Go.Proofs Go.AL
set_option linter.unusedSimpArgs false
set_option linter.unusedVariables false
def askP (A B : List RI) (K : RI) : List (List Int) := askp (pv A) (pv B) (iv K)
def askN (A : List RI) : List (List Nat) := askn (pv A)
def SC (q : KP) (A B C : List RI) (K : RI) (N : Int) (f : AL.Fr) (H : AL.Hp) : Prop :=
 RP 40 200 A ∧ RP 40 200 B ∧ Sz 200 K ∧ KOk q A B K ∧ KB q A B C K N A f H ∧ f 6 = .iv (.av (KX q) (.sl (rp (askP A B K)))) ∧ f 7 = .iv (.av (KX q) (.sl (rn (askN A)))) ∧
 ∃ (o1 u1 : OB) (c1 : List OP) (d1 : List OB) (o2 u2 : OB) (c2 : List OP) (d2 : List OB) (E4 E5 : Nat), q.E3 ≤ E4 ∧ E4 ≤ E5 ∧ AOk o1 u1 c1 d1 (askP A B K) (askN A) q.E3 E4 ∧ AOk o2 u2 c2 d2 (askP A B K) (askN A) E4 E5 ∧
  f 8 = .iv (AP o1 c1 (askP A B K)) ∧ f 9 = .iv (AN u1 d1 (askN A)) ∧ f 10 = .iv (AP o2 c2 (askP A B K)) ∧ f 11 = .iv (AN u2 d2 (askN A)) ∧ H 999 = .mrk E5
theorem pb_prim' {n k : Nat} {q : List Int} (h : PB n k q) : PB n k (prim q) := by
 refine .of (by unfold prim pdivs; rw [List.length_map]; exact h.1) fun i => ?_
 unfold prim
 rw [cf_pdivs]
 exact Nat.le_trans (zl_div (cont_dvd q i)) (h.cf i)
theorem zl_cont' {n k : Nat} {q : List Int} (h : PB n k q) : zl (cont q) ≤ k := by
 have := gz_len (RP.canon h)
 rw [show pv (q.map canon) = q by simp only [pv, List.map_map]; exact (List.map_congr_left fun z _ => iv_canon z).trans (List.map_id q)] at this
 unfold zl
 rw [cont_natAbs]; exact this
theorem pb_pshift {n m k : Nat} {p : List Int} (h : PB m k p) : PB (n + m) k (pshift n p) := by
 refine ⟨by simp only [pshift, List.length_append, List.length_replicate]; have := h.1; omega, fun z hz => ?_⟩
 rcases List.mem_append.1 hz with hz | hz
 ·rw [List.eq_of_mem_replicate hz, zl_zero]; exact Nat.zero_le _
 ·exact h.2 z hz
theorem askP_small {A B : List RI} {K : RI} (ha : RP 40 200 A) (hb : RP 40 200 B) (hk : Sz 200 K) : ∀ q ∈ askP A B K, PB 100 1000 q := by
 have a := ha.pv
 have b := hb.pv
 have k := zl_iv hk
 have n1 : zl (-1) ≤ 1 := by rw [zl_neg]; exact (PB.one (n := 1) (k := 1) (by omega) (by omega)).2 1 (by simp)
 have t0 : PB 100 1000 (trimz (pv A)) := a.trimz.mono (by decide) (by decide)
 have s1 : PB 40 201 (pscale (-1) (pv A)) := (a.pscale (c := -1)).mono (by omega) (by omega)
 have s2 : PB 40 201 (pscale (-1) (pv B)) := (b.pscale (c := -1)).mono (by omega) (by omega)
 have s3 : PB 40 400 (pscale (iv K) (pv A)) := (a.pscale (c := iv K)).mono (by omega) (by omega)
 have sk : PB 1 200 [iv K] := ⟨by simp, fun z hz => by simp at hz; subst hz; exact k⟩
 intro q hq
 simp only [askP, askp, List.mem_cons, List.not_mem_nil, or_false] at hq
 rcases hq with rfl | rfl | rfl | rfl | rfl | rfl | rfl | rfl | rfl | rfl | rfl | rfl | rfl | rfl | rfl | rfl
 ·exact t0
 ·exact (a.padd b).trimz.mono (by decide) (by decide)
 ·exact t0
 ·exact (a.padd s2).trimz.mono (by decide) (by decide)
 ·exact t0
 ·exact s1.trimz.mono (by decide) (by decide)
 ·exact (a.pmul b (by decide)).trimz.mono (by decide) (by decide)
 ·exact s3.trimz.mono (by decide) (by decide)
 ·exact t0
 ·exact (a.pderiv (by decide)).trimz.mono (by decide) (by decide)
 ·exact (pb_prim' a).trimz.mono (by decide) (by decide)
 ·exact (pb_pshift (n := 2) a).trimz.mono (by decide) (by decide)
 ·exact t0
 ·exact t0
 ·exact t0
 ·exact (pb_pshift (n := 1) sk).trimz.mono (by decide) (by decide)
theorem askP_pb {A B : List RI} {K : RI} (ha : RP 40 200 A) (hb : RP 40 200 B) (hk : Sz 200 K) : ∀ q ∈ askP A B K, PB (2 ^ 40) (2 ^ 43) q :=
 fun q hq => (askP_small ha hb hk q hq).mono (by decide) (by decide)
theorem askN_small {A : List RI} (ha : RP 40 200 A) : ∀ l ∈ askN A, l.length ≤ 1000 := by
 have a := ha.pv
 intro l hl
 simp only [askN, askn, List.mem_cons, List.not_mem_nil, or_false] at hl
 have h1 := hgt_len ha A.length (Nat.le_refl _)
 have h2 := wgt_len ha A.length (Nat.le_refl _)
 rw [List.take_of_length_le (by rw [pv_len]; exact Nat.le_refl _)] at h1 h2
 have h3 := ha.1
 rcases hl with rfl | rfl | rfl | rfl | rfl
 ·exact Nat.le_trans (a.cf _) (by decide)
 ·exact Nat.le_trans (a.cf _) (by decide)
 ·exact Nat.le_trans (zl_cont' a) (by decide)
 ·omega
 ·omega
theorem askN_len {A : List RI} (ha : RP 40 200 A) : ∀ l ∈ askN A, l.length ≤ 2 ^ 43 := fun l hl => Nat.le_trans (askN_small ha l hl) (by decide)
theorem ask_ok2 (A B : List RI) (K : RI) (ha : RP 40 200 A) (hb : RP 40 200 B) (hk : Sz 200 K) {xo yo b : OB} {xs ys : List OB} (hx : xs.length = A.length) (hy : ys.length = B.length) :
  ACX Tryz.prog 12 [.iv (.own xo 27 2 (gws xs A)), .iv (.own yo 27 2 (gws ys B)), .agg (gint b K)] (RAsk (askP A B K) (askN A)) :=
 (ask_ok A B K ha hb hk).soft (.cons (.iv (soft_gws hx)) (.cons (.iv (soft_gws hy)) (.cons (soft_prow _ _) .nil)))
set_option maxRecDepth 8000 in
set_option maxHeartbeats 4000000 in
theorem seg_c (q : KP) (A B C : List RI) (K : RI) (N : Int) (f : AL.Fr) (H : AL.Hp) (h : SB q A B C K N f H) :
  ∃ c, (Tryz.f3.body.bind (dropO 6)) = some c ∧ @AWs zK Tryz.prog (SC q A B C K N) 4 c (fun _ _ _ => False) f H := by
 refine ⟨_, rfl, ?_⟩
 obtain ⟨⟨ra, rb, rk, hq, ⟨h1, hH1, h3, hH3, h4, hH4, h5, hH5⟩, h9⟩, h6, h7⟩ := id h
 have kl : (gws q.ks [K]).length = 1 := by rw [gws_len hq.2.2.2.2.2.1]; rfl
 have kg : (gws q.ks [K]).getD 0 [] = gint (q.ks.getD 0 none) K := by
  have := row_gws (bs := q.ks) (p := [K]) hq.2.2.2.2.2.1 (i := 0) (by simp)
  rw [List.getD_eq_getElem?_getD, this]; rfl
 have pl : (askP A B K).length ≤ 1000 := by simp [askP, askp]
 have nl : (askN A).length ≤ 1000 := by simp [askN, askn]
 have pb := askP_pb ra rb rk
 have nb := askN_len ra
 have hx := hq.2.2.2.1
 have hy := hq.2.2.2.2.1
 have hk := hq.2.2.2.2.2
 simp (disch := omega) only [wt, seval, reduceCtorEq, Nat.reduceEqDiff, cpoly_len, List.drop_succ_cons, List.take_succ_cons, List.take_zero, Nat.reduceBEq, List.map_cons, List.map_nil, wxK, h1, hH1, h3, hH3, h4, hH4, h5, hH5, h9, h6, h7, kl, kg, gint]
 refine .inl ⟨tmps_by (by kernel_rfl), ?_⟩
 refine callx_by ((ask_ok2 A B K ra rb rk hx.1 hy.1)) (by first | rfl | (simp only [tocvs, tocv, toboxes, tobox, updH_at, Nat.reduceEqDiff, ↓reduceIte, h1, hH1, h3, hH3, h4, hH4, h5, hH5, h9, h6, h7, kl, kg, gint]; rfl)) (by simp) (by first | rfl | assumption | (simp (disch := omega) only [wt, seval, reduceCtorEq, Nat.reduceEqDiff, cpoly_len, List.drop_succ_cons, List.take_succ_cons, List.take_zero, Nat.reduceBEq, List.map_cons, List.map_nil, wxK, h1, hH1, h3, hH3, h4, hH4, h5, hH5, h9, h6, h7, kl, kg, gint]; done) | ((repeat (replace hF := hF.2)); exact hF)) ?_
 rintro B1 E4 _ hB1 hE4 ⟨o1, u1, c1, d1, rfl, m1, m2, m3⟩
 simp (disch := omega) only [wt, seval, reduceCtorEq, Nat.reduceEqDiff, cpoly_len, List.drop_succ_cons, List.take_succ_cons, List.take_zero, Nat.reduceBEq, List.map_cons, List.map_nil, wxK, h1, hH1, h3, hH3, h4, hH4, h5, hH5, h9, h6, h7, kl, kg, gint]
 first | exact log_by (by kernel_rfl) | refine ⟨log_by (by kernel_rfl), ?_⟩
 have k1 : AOk o1 u1 c1 d1 (askP A B K) (askN A) q.E3 E4 := ⟨m1, m2, m3.mono hB1 (Nat.le_refl _)⟩
 refine call_by ((like_of (KX q) (KX q) k1 pl nl pb nb)) (by first | rfl | (simp only [tocvs, tocv, toboxes, tobox, updH_at, Nat.reduceEqDiff, ↓reduceIte, h1, hH1, h3, hH3, h4, hH4, h5, hH5, h9, h6, h7, kl, kg, gint]; rfl)) (by simp) ?_
 simp (disch := omega) only [wt, seval, reduceCtorEq, Nat.reduceEqDiff, cpoly_len, List.drop_succ_cons, List.take_succ_cons, List.take_zero, Nat.reduceBEq, List.map_cons, List.map_nil, wxK, h1, hH1, h3, hH3, h4, hH4, h5, hH5, h9, h6, h7, kl, kg, gint]
 refine .inl ⟨tmps_by (by kernel_rfl), ?_⟩
 refine callx_by ((ask_ok2 A B K ra rb rk hx.1 hy.1)) (by first | rfl | (simp only [tocvs, tocv, toboxes, tobox, updH_at, Nat.reduceEqDiff, ↓reduceIte, h1, hH1, h3, hH3, h4, hH4, h5, hH5, h9, h6, h7, kl, kg, gint]; rfl)) (by simp) (by first | rfl | assumption | (simp (disch := omega) only [wt, seval, reduceCtorEq, Nat.reduceEqDiff, cpoly_len, List.drop_succ_cons, List.take_succ_cons, List.take_zero, Nat.reduceBEq, List.map_cons, List.map_nil, wxK, h1, hH1, h3, hH3, h4, hH4, h5, hH5, h9, h6, h7, kl, kg, gint]; done) | ((repeat (replace hF := hF.2)); exact hF)) ?_
 rintro B2 E5 _ hB2 hE5 ⟨o2, u2, c2, d2, rfl, n1, n2, n3⟩
 simp (disch := omega) only [wt, seval, reduceCtorEq, Nat.reduceEqDiff, cpoly_len, List.drop_succ_cons, List.take_succ_cons, List.take_zero, Nat.reduceBEq, List.map_cons, List.map_nil, wxK, h1, hH1, h3, hH3, h4, hH4, h5, hH5, h9, h6, h7, kl, kg, gint]
 first | exact log_by (by kernel_rfl) | refine ⟨log_by (by kernel_rfl), ?_⟩
 have k2 : AOk o2 u2 c2 d2 (askP A B K) (askN A) E4 E5 := ⟨n1, n2, n3.mono hB2 (Nat.le_refl _)⟩
 refine call_by ((like_of (KX q) (KX q) k1 pl nl pb nb)) (by first | rfl | (simp only [tocvs, tocv, toboxes, tobox, updH_at, Nat.reduceEqDiff, ↓reduceIte, h1, hH1, h3, hH3, h4, hH4, h5, hH5, h9, h6, h7, kl, kg, gint]; rfl)) (by simp) ?_
 simp (disch := omega) only [wt, seval, reduceCtorEq, Nat.reduceEqDiff, cpoly_len, List.drop_succ_cons, List.take_succ_cons, List.take_zero, Nat.reduceBEq, List.map_cons, List.map_nil, wxK, h1, hH1, h3, hH3, h4, hH4, h5, hH5, h9, h6, h7, kl, kg, gint]
 refine call_by ((like_of (KX q) (KX q) k2 pl nl pb nb)) (by first | rfl | (simp only [tocvs, tocv, toboxes, tobox, updH_at, Nat.reduceEqDiff, ↓reduceIte, h1, hH1, h3, hH3, h4, hH4, h5, hH5, h9, h6, h7, kl, kg, gint]; rfl)) (by simp) ?_
 simp (disch := omega) only [wt, seval, reduceCtorEq, Nat.reduceEqDiff, cpoly_len, List.drop_succ_cons, List.take_succ_cons, List.take_zero, Nat.reduceBEq, List.map_cons, List.map_nil, wxK, h1, hH1, h3, hH3, h4, hH4, h5, hH5, h9, h6, h7, kl, kg, gint]
 refine call_by (((sound_ok A ra).soft (.cons (soft_room hx.1 hx.2.1) (.cons (.refl _) .nil)))) (by first | rfl | (simp only [tocvs, tocv, toboxes, tobox, updH_at, Nat.reduceEqDiff, ↓reduceIte, h1, hH1, h3, hH3, h4, hH4, h5, hH5, h9, h6, h7, kl, kg, gint]; rfl)) (by simp) ?_
 simp (disch := omega) only [wt, seval, reduceCtorEq, Nat.reduceEqDiff, cpoly_len, List.drop_succ_cons, List.take_succ_cons, List.take_zero, Nat.reduceBEq, List.map_cons, List.map_nil, wxK, h1, hH1, h3, hH3, h4, hH4, h5, hH5, h9, h6, h7, kl, kg, gint]
 refine call_by (((sound_ok B rb).soft (.cons (soft_room hy.1 hy.2.1) (.cons (.refl _) .nil)))) (by first | rfl | (simp only [tocvs, tocv, toboxes, tobox, updH_at, Nat.reduceEqDiff, ↓reduceIte, h1, hH1, h3, hH3, h4, hH4, h5, hH5, h9, h6, h7, kl, kg, gint]; rfl)) (by simp) ?_
 simp (disch := omega) only [wt, seval, reduceCtorEq, Nat.reduceEqDiff, cpoly_len, List.drop_succ_cons, List.take_succ_cons, List.take_zero, Nat.reduceBEq, List.map_cons, List.map_nil, wxK, h1, hH1, h3, hH3, h4, hH4, h5, hH5, h9, h6, h7, kl, kg, gint]
 have rk1 : RP 40 200 [K] := ⟨by simp, fun c hc => by simp at hc; subst hc; exact rk⟩
 refine call_by (((sound_ok [K] rk1).soft (.cons (soft_room hk.1 hk.2.1) (.cons (.refl _) .nil)))) (by first | rfl | (simp only [tocvs, tocv, toboxes, tobox, updH_at, Nat.reduceEqDiff, ↓reduceIte, h1, hH1, h3, hH3, h4, hH4, h5, hH5, h9, h6, h7, kl, kg, gint]; rfl)) (by simp) ?_
 simp (disch := omega) only [wt, seval, reduceCtorEq, Nat.reduceEqDiff, cpoly_len, List.drop_succ_cons, List.take_succ_cons, List.take_zero, Nat.reduceBEq, List.map_cons, List.map_nil, wxK, h1, hH1, h3, hH3, h4, hH4, h5, hH5, h9, h6, h7, kl, kg, gint]
 refine ⟨ra, rb, rk, hq, ⟨by simp (disch := omega) only [wt, seval, reduceCtorEq, Nat.reduceEqDiff, cpoly_len, List.drop_succ_cons, List.take_succ_cons, List.take_zero, Nat.reduceBEq, List.map_cons, List.map_nil, wxK, h1], by simp (disch := omega) only [wt, seval, reduceCtorEq, Nat.reduceEqDiff, cpoly_len, List.drop_succ_cons, List.take_succ_cons, List.take_zero, Nat.reduceBEq, List.map_cons, List.map_nil, wxK, hH1], by simp (disch := omega) only [wt, seval, reduceCtorEq, Nat.reduceEqDiff, cpoly_len, List.drop_succ_cons, List.take_succ_cons, List.take_zero, Nat.reduceBEq, List.map_cons, List.map_nil, wxK, h3], by simp (disch := omega) only [wt, seval, reduceCtorEq, Nat.reduceEqDiff, cpoly_len, List.drop_succ_cons, List.take_succ_cons, List.take_zero, Nat.reduceBEq, List.map_cons, List.map_nil, wxK, hH3], by simp (disch := omega) only [wt, seval, reduceCtorEq, Nat.reduceEqDiff, cpoly_len, List.drop_succ_cons, List.take_succ_cons, List.take_zero, Nat.reduceBEq, List.map_cons, List.map_nil, wxK, h4], by simp (disch := omega) only [wt, seval, reduceCtorEq, Nat.reduceEqDiff, cpoly_len, List.drop_succ_cons, List.take_succ_cons, List.take_zero, Nat.reduceBEq, List.map_cons, List.map_nil, wxK, hH4], by simp (disch := omega) only [wt, seval, reduceCtorEq, Nat.reduceEqDiff, cpoly_len, List.drop_succ_cons, List.take_succ_cons, List.take_zero, Nat.reduceBEq, List.map_cons, List.map_nil, wxK, h5], by simp (disch := omega) only [wt, seval, reduceCtorEq, Nat.reduceEqDiff, cpoly_len, List.drop_succ_cons, List.take_succ_cons, List.take_zero, Nat.reduceBEq, List.map_cons, List.map_nil, wxK, hH5]⟩, by simp (disch := omega) only [wt, seval, reduceCtorEq, Nat.reduceEqDiff, cpoly_len, List.drop_succ_cons, List.take_succ_cons, List.take_zero, Nat.reduceBEq, List.map_cons, List.map_nil, wxK, h6]; rfl, by simp (disch := omega) only [wt, seval, reduceCtorEq, Nat.reduceEqDiff, cpoly_len, List.drop_succ_cons, List.take_succ_cons, List.take_zero, Nat.reduceBEq, List.map_cons, List.map_nil, wxK, h7]; rfl, o1, u1, c1, d1, o2, u2, c2, d2, E4, E5, by omega, by omega, k1, k2, by simp (disch := omega) only [wt, seval, reduceCtorEq, Nat.reduceEqDiff, cpoly_len, List.drop_succ_cons, List.take_succ_cons, List.take_zero, Nat.reduceBEq, List.map_cons, List.map_nil, wxK], by simp (disch := omega) only [wt, seval, reduceCtorEq, Nat.reduceEqDiff, cpoly_len, List.drop_succ_cons, List.take_succ_cons, List.take_zero, Nat.reduceBEq, List.map_cons, List.map_nil, wxK], by simp (disch := omega) only [wt, seval, reduceCtorEq, Nat.reduceEqDiff, cpoly_len, List.drop_succ_cons, List.take_succ_cons, List.take_zero, Nat.reduceBEq, List.map_cons, List.map_nil, wxK], by simp (disch := omega) only [wt, seval, reduceCtorEq, Nat.reduceEqDiff, cpoly_len, List.drop_succ_cons, List.take_succ_cons, List.take_zero, Nat.reduceBEq, List.map_cons, List.map_nil, wxK], by simp (disch := omega) only [wt, seval, reduceCtorEq, Nat.reduceEqDiff, cpoly_len, List.drop_succ_cons, List.take_succ_cons, List.take_zero, Nat.reduceBEq, List.map_cons, List.map_nil, wxK]⟩
end Go.Proofs.YtdokaihemcnkmaaGreat

namespace Go.Proofs.YtdokaihemcnkmaaGreat
open Go Go.Proofs Go.AL
set_option linter.unusedSimpArgs false
set_option linter.unusedVariables false
def KY (q : KP) (E5 E6 : Nat) : Nat → Prop := fun b => (q.E3 ≤ b ∧ b < E5) ∨ E6 ≤ b
def SD (q : KP) (A B C : List RI) (K : RI) (N : Int) (f : AL.Fr) (H : AL.Hp) : Prop :=
 RP 40 200 A ∧ RP 40 200 B ∧ Sz 200 K ∧ KOk q A B K ∧ KB q A B C K N (ovp A) f H ∧ f 6 = .iv (.av (KX q) (.sl (rp (askP A B K)))) ∧ f 7 = .iv (.av (KX q) (.sl (rn (askN A)))) ∧
 ∃ (o1 u1 : OB) (c1 : List OP) (d1 : List OB) (o2 u2 : OB) (c2 : List OP) (d2 : List OB) (E4 E5 E6 : Nat), q.E3 ≤ E4 ∧ E4 ≤ E5 ∧ E5 ≤ E6 ∧ AOk o1 u1 c1 d1 (askP A B K) (askN A) q.E3 E4 ∧ AOk o2 u2 c2 d2 (askP A B K) (askN A) E4 E5 ∧
  f 8 = .iv (AP o1 c1 (askP A B K)) ∧ f 9 = .iv (AN u1 d1 (askN A)) ∧ f 10 = .iv (AP o2 c2 (askP A B K)) ∧ f 11 = .iv (AN u2 d2 (askN A)) ∧ f 12 = .iv (.av (KY q E5 E6) (.sl (raws (ovp A)))) ∧ H 999 = .mrk E6
theorem full_frows (b : OB) (bs : List OB) (q : List Int) : Full (fpoly b bs q) := by
 refine .own _ _ _ _ fun r hr x hx => ?_
 obtain ⟨i, hi⟩ := List.getElem?_of_mem hr
 rw [frows, List.getElem?_zipWith] at hi
 split at hi
 ·injection hi with hi; subst hi
  simp only [fint, List.mem_cons, List.not_mem_nil, or_false] at hx
  rcases hx with rfl | rfl
  ·exact .bool _
  ·exact full_fnat _ _
 ·cases hi
theorem full_AP (o : OB) (c : List OP) (ps : List (List Int)) : Full (AP o c ps) := by
 refine .own _ _ _ _ fun r hr x hx => ?_
 obtain ⟨i, hi⟩ := List.getElem?_of_mem hr
 rw [plist, List.getElem?_zipWith] at hi
 split at hi
 ·injection hi with hi; subst hi
  simp only [List.mem_singleton] at hx
  subst hx; exact full_frows _ _ _
 ·cases hi
theorem full_AN (u : OB) (d : List OB) (ns : List (List Nat)) : Full (AN u d ns) := by
 refine .own _ _ _ _ fun r hr x hx => ?_
 obtain ⟨i, hi⟩ := List.getElem?_of_mem hr
 rw [nlist, List.getElem?_zipWith] at hi
 split at hi
 ·injection hi with hi; subst hi
  simp only [List.mem_singleton] at hx
  subst hx; exact full_fnat _ _
 ·cases hi
theorem AOk.ids {o u : OB} {c : List OP} {d : List OB} {ps : List (List Int)} {ns : List (List Nat)} {B E : Nat} (h : AOk o u c d ps ns B E) : (∀ g ∈ (AP o c ps).ids, B ≤ g ∧ g < E) ∧ ∀ g ∈ (AN u d ns).ids, B ≤ g ∧ g < E := by
 refine ⟨fun g hg => h.2.2.2 g ?_, fun g hg => h.2.2.2 g ?_⟩
 ·rw [ids_own0, ids_plist h.1] at hg
  simp only [List.mem_append] at hg ⊢
  rcases hg with h | h <;> simp [h]
 ·rw [ids_own0, ids_nlist h.2.1] at hg
  simp only [List.mem_append] at hg ⊢
  rcases hg with h | h <;> simp [h]
theorem own_keep {w w' : World} {D D' M : Nat → Prop} {B : Nat} {v : Value} {e sz : Nat} {rows rows' : List (List IV)} (ho : AL.Own w D B M v e sz rows) (hk : ∀ g, headOf v = some g → w'.heap[g]? = w.heap[g]?) (hl : rows'.length = rows.length) (hne : rows ≠ []) (hs : ∀ r ∈ rows', r.length = sz)
  (hr : ∀ vs, Reps w D rows.flatten vs → Reps w' D' rows'.flatten vs) : AL.Own w' D' B M v e sz rows' := by
 refine ⟨hs, ?_⟩
 rcases ho.2 with ⟨h, _⟩ | ⟨g, cap, cur, rfl, h1, h2, h3, h4, h5, h6⟩
 ·exact (hne h).elim
 ·rw [← hl] at h3 h6 ⊢
  exact .inr ⟨g, cap, cur, rfl, h1, by rw [hk g rfl]; exact h2, h3, h4, h5, hr _ h6⟩
theorem reps_same {w w' : World} {D D' : Nat → Prop} {bo bi : OB} {bs cs : List OB} {p : List RI} : ∀ {vs us : List Value}, Reps w D (RmV bo bi bs cs p) vs → Reps w' D' (RmV bo bi bs cs p) us → vs = us
 | [a, b, c], [x, y, z], h, k => by
  rw [h.1.own_len.1, h.2.1.own_len.1, h.2.2.1.own_len.1, k.1.own_len.1, k.2.1.own_len.1, k.2.2.1.own_len.1]
theorem rep_kept {w w' : World} {D D' X : Nat → Prop} {x : IV} {v : Value} (h : Rep w D (.av X x) v) (hsz : w.heap.size ≤ w'.heap.size) (hD : ∀ b, b < w.heap.size → D' b → D b) (hk : ∀ b, b < w.heap.size → ¬ X b → w'.heap[b]? = w.heap[b]?) : Rep w' D' (.av X x) v := by
 cases h with
 | av _ _ _ h => exact .av _ _ _ (h.mono ⟨hsz, fun b hb hd => hd.imp (hD b hb) id, fun b hb hn _ => hk b hb fun h => hn (.inr h)⟩)
theorem reps_ids {w : World} {D : Nat → Prop} {xs : List IV} {vs : List Value} (h : Reps w D xs vs) : ∀ g ∈ idsRow xs, ¬ D g ∧ g < w.heap.size := by
 intro g hg
 obtain ⟨x, hx, hgx⟩ := mem_idsRow.1 hg
 obtain ⟨j, hj⟩ := List.getElem?_of_mem hx
 obtain ⟨v, _, hv⟩ := h.get j x hj
 exact hv.ids g hgx
theorem rmv_ids' {bo bi : OB} {bs cs : List OB} {p : List RI} (hl : bs.length = p.length) (hcl : cs.length = 6) {g : Nat} (h : g ∈ oid bo ++ oid bi ++ ids bs ++ ids cs) : g ∈ idsRow (RmV bo bi bs cs p) := by
 have hl2 : (bs ++ cs).length = (p ++ spares).length := by rw [List.length_append, List.length_append, hl, hcl]; rfl
 simp only [idsRow, ids_own, ids_gws hl, ids_gws hl2, ids_iws hl, List.append_nil, ids_app, List.mem_append] at h ⊢
 rcases h with ((h | h) | h) | h <;> simp [h]
theorem full_RmV {bo bi : OB} {bs cs : List OB} {p : List RI} : ∀ x ∈ RmV bo bi bs cs p, Full x := fun x hx => by
 simp only [List.mem_cons, List.not_mem_nil, or_false] at hx
 rcases hx with rfl | rfl | rfl
 ·exact full_gws _ _ _ _
 ·exact full_gws _ _ _ _
 ·exact full_iws _ _ _ _ _
set_option maxRecDepth 8000 in
set_option maxHeartbeats 2000000 in
theorem seg_d (q : KP) (A B C : List RI) (K : RI) (N : Int) {D0 : Nat → Prop} {w0 : World} {f : AL.Fr} {H : AL.Hp} {β : Nat → Value} {a : Act} {w : World} {Kp : Exit → Act → World → Prop} (hw : w0.heap.size = q.B0) (h : SC q A B C K N f H) (R : Rel ⟨fun _ _ => False, true⟩ (fun _ => False) w0 D0 Tryz.f3.ntmps f H β a w)
  (hK : ∀ f H β a w, SD q A B C K N f H → Rel ⟨fun _ _ => False, true⟩ (fun _ => False) w0 D0 Tryz.f3.ntmps f H β a w → (codeDrop 11 (bodyOf Tryz.prog 3)).wpIn (Wd none) 0 Tryz.prog Kp a w) : (codeDrop 10 (bodyOf Tryz.prog 3)).wpIn (Wd none) 0 Tryz.prog Kp a w := by
 obtain ⟨ra, rb, rk, hq, ⟨h1, hH1, h3, hH3, h4, hH4, h5, hH5⟩, h6, h7, o1, u1, c1, d1, o2, u2, c2, d2, E4, E5, e4, e5, k1, k2, h8, h9, h10, h11, hmk⟩ := id h
 have hK' : ∀ y, Tryz.f3.body.bind (dropO 11) = some y → ∀ f H β a w, SD q A B C K N f H → Rel ⟨fun _ _ => False, true⟩ (fun _ => False) w0 D0 Tryz.f3.ntmps f H β a w → y.wpIn (Wd none) 0 Tryz.prog Kp a w := fun y hy f H β a w hs R => by
  obtain ⟨body, hb⟩ : ∃ body, Tryz.f3.body = some body := ⟨_, rfl⟩
  have := hK f H β a w hs R
  rw [bodyOf_eq Tryz.func3 hb] at this
  rw [hb] at hy
  rwa [dropO_eq (show dropO 11 body = some y from hy)] at this
 suffices hh : ∃ c, Tryz.f3.body.bind (dropO 10) = some c ∧ c.wpIn (Wd none) 0 Tryz.prog Kp a w by
  obtain ⟨c, hc, hh⟩ := hh
  obtain ⟨body, hb⟩ : ∃ body, Tryz.f3.body = some body := ⟨_, rfl⟩
  rw [bodyOf_eq Tryz.func3 hb]
  rw [hb] at hc
  rwa [dropO_eq (show dropO 10 body = some c from hc)]
 refine ⟨_, rfl, ?_⟩
 refine wpIn_seq (wpIn_region_list ?_)
 refine aops_preN (zi := zi0) (l1 := [_]) (l2 := [_, _]) (K := fun f' H' _ => f' = upd f 126 (.agg (RmV q.xo q.xi q.xs q.xc A)) ∧ H' = H) rfl (by decide) R ?_ ?_
 ·simp (disch := omega) only [wt, seval, reduceCtorEq, Nat.reduceEqDiff, cpoly_len, List.drop_succ_cons, List.take_succ_cons, List.take_zero, lay_own, spl_own, fld_int1, h3, hH3]
 ·rintro f1 H1 lg β a w ⟨rfl, rfl⟩ R
  refine list_one rfl ?_
  have hx := R.tmps 126
  simp only [upd, if_true, AVRep] at hx
  obtain ⟨a3, ha3, hr3⟩ := hx
  have hX := hq.2.2.2.1
  have hY := hq.2.2.2.2.1
  have hZ := hq.2.2.2.2.2
  obtain ⟨q1, q2, q3, -⟩ := id hq
  have hr3' : Reps w (fun _ => False) (RmV q.xo q.xi q.xs q.xc A) a3.toList := hr3.mono (Grows.of_sub fun _ h => h.elim)
  refine callsR_wp rfl (us := #[]) rfl (by
   show CallsR _ _ [a.eval (.tmp 126)] _ _
   rw [show a.eval (.tmp 126) = .agg a3 from ha3]
   exact over_c ra hX.1 hX.2.1 hX.2.2.1 hr3') (fun v w' hov => ?_)
  obtain ⟨hos, htp, hout, hsz, hkeep, hrx, hrd⟩ := hov
  have hE5 := R.mrk _ _ hmk
  have hB0 := R.size
  rw [hw] at hB0
  generalize hXO : oid q.xo ++ oid q.xi ++ ids q.xs ++ ids q.xc = XO at *
  have hXlt : ∀ g ∈ XO, q.B0 ≤ g ∧ g < q.E1 := by rw [← hXO]; exact hX.2.2.2
  have notX : ∀ g, DD H1 β D0 g → g ∉ XO := fun g hg hm => (reps_ids hr3 g (by rw [← hXO] at hm; exact rmv_ids' hX.1 hX.2.1 hm)).1 hg
  have keepX : ∀ b, b < w.heap.size → b ∉ XO → w'.heap[b]? = w.heap[b]? := fun b hb hn => hkeep b hb fun hm => hn (by
   rw [← hXO]
   rcases List.mem_append.1 hm with h | h <;> simp [h])
  obtain ⟨H2, hH2⟩ : ∃ H2 : AL.Hp, H2 = fun h => if h = 3 then .blk false 1 35 3 [RmV q.xo q.xi q.xs q.xc (ovp A)] else if h = 1 ∨ h = 4 ∨ h = 5 then H1 h else if h = 999 then .mrk w'.heap.size else .none := ⟨_, rfl⟩
  have g1 : H2 1 = H1 1 := by rw [hH2]; simp
  have g3 : H2 3 = .blk false 1 35 3 [RmV q.xo q.xi q.xs q.xc (ovp A)] := by rw [hH2]; simp
  have g4 : H2 4 = H1 4 := by rw [hH2]; simp
  have g5 : H2 5 = H1 5 := by rw [hH2]; simp
  have g9 : H2 999 = .mrk w'.heap.size := by rw [hH2]; simp
  have gc : ∀ h, h = 1 ∨ h = 3 ∨ h = 4 ∨ h = 5 ∨ (h = 999) ∨ H2 h = .none := fun h => by
   rw [hH2]; simp only
   split
   ·rename_i e; exact .inr (.inl e)
   ·split
    ·rename_i e; rcases e with e | e | e <;> simp [e]
    ·split
     ·rename_i e; simp [e]
     ·simp
  have gm : ∀ h, (H2 h).isMut → (H1 h).isMut := fun h hm => by
   rcases gc h with rfl | rfl | rfl | rfl | rfl | e
   ·rwa [g1] at hm
   ·rw [hH3]; trivial
   ·rwa [g4] at hm
   ·rwa [g5] at hm
   ·rw [g9] at hm; exact hm.elim
   ·rw [e] at hm; exact hm.elim
  have DD2 : ∀ b, DD H2 β D0 b → DD H1 β D0 b := by
   rintro b (hb | ⟨k, hm, hk⟩)
   ·exact .inl hb
   ·exact .inr ⟨k, gm k hm, hk⟩
  have full : ∀ x v, Full x → (∀ g ∈ x.ids, g ∉ XO) → Rep w (DD H1 β D0) x v → Rep w' (DD H2 β D0) x v := fun x v hf hi hr => hr.full hf fun g hg => ⟨keepX g (hr.ids g hg).2 (hi g hg), fun hd => (hr.ids g hg).1 (DD2 g hd)⟩
  have kept : ∀ (x : IV) (X : Nat → Prop) v, (∀ g ∈ XO, X g) → Rep w (DD H1 β D0) (.av X x) v → Rep w' (DD H2 β D0) (.av X x) v := fun x X v hi hr => rep_kept hr hsz (fun b _ => DD2 b) fun b hb hn => keepX b hb fun hm => hn (hi b hm)
  have hXK : ∀ g ∈ XO, KX q g := fun g hg => ⟨(hXlt g hg).1, by have := (hXlt g hg).2; omega⟩
  have headk : ∀ h g, (H1 h).isMut → headOf (β h) = some g → w'.heap[g]? = w.heap[g]? := fun h g hm hg => keepX g (R.mut_lt hm hg).1 (notX g (.inr ⟨h, hm, hg⟩))
  have fullR : ∀ {bo bi : OB} {bs cs : List OB} {p : List RI} {vs : List Value}, (∀ g ∈ idsRow (RmV bo bi bs cs p), g ∉ XO) → Reps w (DD H1 β D0) (RmV bo bi bs cs p) vs → Reps w' (DD H2 β D0) (RmV bo bi bs cs p) vs := fun hi hr => hr.full full_RmV fun g hg => ⟨keepX g (reps_ids hr g hg).2 (hi g hg), fun hd => (reps_ids hr g hg).1 (DD2 g hd)⟩
  have R2 : Rel ⟨fun _ _ => False, true⟩ (fun _ => False) w0 D0 Tryz.f3.ntmps (fun t => if t = 127 then .iv (.av (KY q E5 w'.heap.size) (.sl (raws (ovp A)))) else if t = 1 ∨ t = 3 ∨ t = 4 ∨ t = 5 ∨ (6 ≤ t ∧ t ≤ 11) then f t else .dead) H2 β (a.put (some 127) v) w' := by
   refine R.jump (fun _ _ h => h) hos htp hout hsz (fun k h1 _ => keepX k (Nat.lt_of_lt_of_le h1 R.size) fun hm => ?_) (by simp [Act.put, R.tsize]) (R.rnd rfl) (fun t => ?_) (fun h st e sz rows hh => ?_) (fun h st e sz rows hh => ?_) (fun h h' hne hm hm' => R.dis h h' hne (gm h hm) (gm h' hm')) (fun h st e rows hh => ?_) (fun h B hh => ?_) (fun h x v hh => ?_)
   ·have := (hXlt k hm).1; omega
   ·by_cases ht : t = 127
    ·subst ht
     rw [show (a.put (some 127) v).tmps.getD 127 Go.undef = v by simp [Act.put, R.tsize], if_pos rfl]
     simp only [AVRep]
     refine .av _ _ _ (hrd.fresh.mono (Grows.of_sub fun b hb => ?_))
     rcases hb with hb | hb | hb
     ·have h1 := DD2 b hb
      exact .inl ⟨R.dd_lt h1, notX b h1⟩
     ·exact .inl ⟨by omega, fun hm => by have := (hXlt b hm).2; omega⟩
     ·exact .inr hb
    ·rw [if_neg ht, show (a.put (some 127) v).tmps.getD t Go.undef = a.tmps.getD t Go.undef by simp [Act.put, Array.getElem?_setIfInBounds_ne (Ne.symm ht)]]
     have hRt := R.tmps t
     split
     ·rename_i hl
      have h126 : t ≠ 126 := by omega
      simp only [upd, h126, if_false] at hRt
      have nx1 : ∀ g ∈ (AP o1 c1 (askP A B K)).ids, g ∉ XO := fun g hg hm => by have := k1.ids.1 g hg; have := hXlt g hm; omega
      have nx2 : ∀ g ∈ (AN u1 d1 (askN A)).ids, g ∉ XO := fun g hg hm => by have := k1.ids.2 g hg; have := hXlt g hm; omega
      have nx3 : ∀ g ∈ (AP o2 c2 (askP A B K)).ids, g ∉ XO := fun g hg hm => by have := k2.ids.1 g hg; have := hXlt g hm; omega
      have nx4 : ∀ g ∈ (AN u2 d2 (askN A)).ids, g ∉ XO := fun g hg hm => by have := k2.ids.2 g hg; have := hXlt g hm; omega
      rcases (show t = 1 ∨ t = 3 ∨ t = 4 ∨ t = 5 ∨ t = 6 ∨ t = 7 ∨ t = 8 ∨ t = 9 ∨ t = 10 ∨ t = 11 by omega) with rfl | rfl | rfl | rfl | rfl | rfl | rfl | rfl | rfl | rfl
      ·rw [h1] at hRt ⊢; simp only [AVRep, g1] at hRt ⊢; exact hRt
      ·rw [h3] at hRt ⊢; simp only [AVRep, g3, hH3, HC.stamp, HC.esz] at hRt ⊢; exact hRt
      ·rw [h4] at hRt ⊢; simp only [AVRep, g4] at hRt ⊢; exact hRt
      ·rw [h5] at hRt ⊢; simp only [AVRep, g5] at hRt ⊢; exact hRt
      ·rw [h6] at hRt ⊢; simp only [AVRep] at hRt ⊢; exact kept _ _ _ hXK hRt
      ·rw [h7] at hRt ⊢; simp only [AVRep] at hRt ⊢; exact kept _ _ _ hXK hRt
      ·rw [h8] at hRt ⊢; simp only [AVRep] at hRt ⊢; exact full _ _ (full_AP _ _ _) nx1 hRt
      ·rw [h9] at hRt ⊢; simp only [AVRep] at hRt ⊢; exact full _ _ (full_AN _ _ _) nx2 hRt
      ·rw [h10] at hRt ⊢; simp only [AVRep] at hRt ⊢; exact full _ _ (full_AP _ _ _) nx3 hRt
      ·rw [h11] at hRt ⊢; simp only [AVRep] at hRt ⊢; exact full _ _ (full_AN _ _ _) nx4 hRt
     ·simp only [AVRep]
   ·rcases gc h with rfl | rfl | rfl | rfl | rfl | e
    ·rw [g1, hH1] at hh
     injection hh with _ e1 e2 e3 e4; subst e1 e2 e3 e4
     refine own_keep (R.own _ _ _ _ _ hH1) (fun g hg => headk 1 g (by rw [hH1]; trivial) hg) rfl (by simp) (fun r hr => by simp at hr; subst hr; rfl) fun vs hvs => ?_
     match vs, hvs with
     | [v1, v2, v3, v4, v5, v6], ⟨m1, m2, m3, m4, m5, m6, _⟩ =>
      have hx : ∀ g ∈ XO, q.B0 ≤ g := fun g hg => (hXlt g hg).1
      exact ⟨kept _ _ _ hx m1, kept _ _ _ hx m2, kept _ _ _ hx m3, rep_flat m4 (.inr ⟨_, rfl⟩), kept _ _ _ hx m5, rep_flat m6 (.inl ⟨_, _, rfl⟩), trivial⟩
    ·rw [g3] at hh
     injection hh with _ e1 e2 e3 e4; subst e1 e2 e3 e4
     refine own_keep (R.own _ _ _ _ _ hH3) (fun g hg => headk 3 g (by rw [hH3]; trivial) hg) rfl (by simp) (fun r hr => by simp at hr; subst hr; rfl) fun vs hvs => ?_
     simp only [List.flatten_cons, List.flatten_nil, List.append_nil] at hvs ⊢
     rw [reps_same hvs hr3]
     refine hrx.full full_RmV fun g hg => ⟨rfl, fun hd => notX g (DD2 g hd) ?_⟩
     rw [← hXO]; exact rmv_ids (by rw [hX.1, ovp_len]) hX.2.1 hg
    ·rw [g4, hH4] at hh
     injection hh with _ e1 e2 e3 e4; subst e1 e2 e3 e4
     refine own_keep (R.own _ _ _ _ _ hH4) (fun g hg => headk 4 g (by rw [hH4]; trivial) hg) rfl (by simp) (fun r hr => by simp at hr; subst hr; rfl) fun vs hvs => ?_
     simp only [List.flatten_cons, List.flatten_nil, List.append_nil] at hvs ⊢
     exact fullR (fun g hg hm => by have := hY.2.2.2 g (rmv_ids hY.1 hY.2.1 hg); have := hXlt g hm; omega) hvs
    ·rw [g5, hH5] at hh
     injection hh with _ e1 e2 e3 e4; subst e1 e2 e3 e4
     refine own_keep (R.own _ _ _ _ _ hH5) (fun g hg => headk 5 g (by rw [hH5]; trivial) hg) rfl (by simp) (fun r hr => by simp at hr; subst hr; rfl) fun vs hvs => ?_
     simp only [List.flatten_cons, List.flatten_nil, List.append_nil] at hvs ⊢
     exact fullR (fun g hg hm => by have := hZ.2.2.2 g (rmv_ids hZ.1 hZ.2.1 hg); have := hXlt g hm; omega) hvs
    ·rw [g9] at hh; cases hh
    ·rw [e] at hh; cases hh
   ·rcases gc h with rfl | rfl | rfl | rfl | rfl | e
    ·rw [g1, hH1] at hh; cases hh
    ·rw [g3] at hh; cases hh
    ·rw [g4, hH4] at hh; cases hh
    ·rw [g5, hH5] at hh; cases hh
    ·rw [g9] at hh; cases hh
    ·rw [e] at hh; cases hh
   ·rcases gc h with rfl | rfl | rfl | rfl | rfl | e
    ·rw [g1, hH1] at hh; cases hh
    ·rw [g3] at hh; cases hh
    ·rw [g4, hH4] at hh; cases hh
    ·rw [g5, hH5] at hh; cases hh
    ·rw [g9] at hh; cases hh
    ·rw [e] at hh; cases hh
   ·rcases gc h with rfl | rfl | rfl | rfl | rfl | e
    ·rw [g1, hH1] at hh; cases hh
    ·rw [g3] at hh; cases hh
    ·rw [g4, hH4] at hh; cases hh
    ·rw [g5, hH5] at hh; cases hh
    ·rw [g9] at hh; cases hh; exact Nat.le_refl _
    ·rw [e] at hh; cases hh
   ·rcases gc h with rfl | rfl | rfl | rfl | rfl | e
    ·rw [g1, hH1] at hh; cases hh
    ·rw [g3] at hh; cases hh
    ·rw [g4, hH4] at hh; cases hh
    ·rw [g5, hH5] at hh; cases hh
    ·rw [g9] at hh; cases hh
    ·rw [e] at hh; cases hh
  refine aops_allN (zi := zi0) (K := fun f' H' _ => f' = upd (fun t => if t = 127 then .iv (.av (KY q E5 w'.heap.size) (.sl (raws (ovp A)))) else if t = 1 ∨ t = 3 ∨ t = 4 ∨ t = 5 ∨ (6 ≤ t ∧ t ≤ 11) then f t else .dead) 12 (.iv (.av (KY q E5 w'.heap.size) (.sl (raws (ovp A))))) ∧ H' = H2) (by decide) R2 ?_ ?_
  ·simp (disch := omega) only [wt, seval, reduceCtorEq, Nat.reduceEqDiff, cpoly_len, List.drop_succ_cons, List.take_succ_cons, List.take_zero, lay_own, spl_own, fld_int1]
  rintro f3 H3 lg β a w ⟨rfl, rfl⟩ R3
  refine hK' _ rfl _ _ _ _ _ ?_ R3
  refine ⟨ra, rb, rk, hq, ⟨by simp [upd, h1], by rw [g1, hH1], by simp [upd, h3], g3, by simp [upd, h4], by rw [g4, hH4], by simp [upd, h5], by rw [g5, hH5]⟩, by simp [upd, h6], by simp [upd, h7], o1, u1, c1, d1, o2, u2, c2, d2, E4, E5, _, e4, e5, ?_, k1, k2, by simp [upd, h8], by simp [upd, h9], by simp [upd, h10], by simp [upd, h11], by simp [upd], g9⟩
  omega
end Go.Proofs.YtdokaihemcnkmaaGreat

namespace Go.Proofs.YtdokaihemcnkmaaGreat
open Go Go.Proofs Go.AL
set_option linter.unusedSimpArgs false
set_option linter.unusedVariables false
def SE (q : KP) (A B C : List RI) (K : RI) (N : Int) (f : AL.Fr) (H : AL.Hp) : Prop :=
 RP 40 200 A ∧ RP 40 200 B ∧ Sz 200 K ∧ KOk q A B K ∧ KB q A B C K N (ovp A) f H ∧
 ∃ (o1 u1 : OB) (c1 : List OP) (d1 : List OB) (o2 u2 : OB) (c2 : List OP) (d2 : List OB) (o3 u3 : OB) (c3 : List OP) (d3 : List OB) (E4 E5 E6 E7 : Nat), q.E3 ≤ E4 ∧ E4 ≤ E5 ∧ E5 ≤ E6 ∧ E6 ≤ E7 ∧
  AOk o1 u1 c1 d1 (askP A B K) (askN A) q.E3 E4 ∧ AOk o2 u2 c2 d2 (askP A B K) (askN A) E4 E5 ∧ AOk o3 u3 c3 d3 (askP (ovp A) B K) (askN (ovp A)) E6 E7 ∧
  f 8 = .iv (AP o1 c1 (askP A B K)) ∧ f 9 = .iv (AN u1 d1 (askN A)) ∧ f 10 = .iv (AP o2 c2 (askP A B K)) ∧ f 11 = .iv (AN u2 d2 (askN A)) ∧ f 12 = .iv (.av (KY q E5 E6) (.sl (raws (ovp A)))) ∧ f 15 = .iv (AP o3 c3 (askP (ovp A) B K)) ∧ f 16 = .iv (AN u3 d3 (askN (ovp A))) ∧ H 999 = .mrk E7
set_option maxRecDepth 8000 in
set_option maxHeartbeats 4000000 in
theorem seg_e (q : KP) (A B C : List RI) (K : RI) (N : Int) (f : AL.Fr) (H : AL.Hp) (h : SD q A B C K N f H) :
  ∃ c, (Tryz.f3.body.bind (dropO 11)) = some c ∧ @AWs zK Tryz.prog (SE q A B C K N) 3 c (fun _ _ _ => False) f H := by
 refine ⟨_, rfl, ?_⟩
 obtain ⟨ra, rb, rk, hq, ⟨h1, hH1, h3, hH3, h4, hH4, h5, hH5⟩, h6, h7, o1, u1, c1, d1, o2, u2, c2, d2, E4, E5, E6, e4, e5, e6, k1, k2, h8, h9, h10, h11, h12, hmk⟩ := id h
 have kl : (gws q.ks [K]).length = 1 := by rw [gws_len hq.2.2.2.2.2.1]; rfl
 have kg : (gws q.ks [K]).getD 0 [] = gint (q.ks.getD 0 none) K := by
  have := row_gws (bs := q.ks) (p := [K]) hq.2.2.2.2.2.1 (i := 0) (by simp)
  rw [List.getD_eq_getElem?_getD, this]; rfl
 have pl : (askP A B K).length ≤ 1000 := by simp [askP, askp]
 have nl : (askN A).length ≤ 1000 := by simp [askN, askn]
 have pb := askP_pb ra rb rk
 have nb := askN_len ra
 have ro := ovp_rp ra
 have pl2 : (askP (ovp A) B K).length ≤ 1000 := by simp [askP, askp]
 have nl2 : (askN (ovp A)).length ≤ 1000 := by simp [askN, askn]
 have pb2 := askP_pb ro rb rk
 have nb2 := askN_len ro
 have hx := hq.2.2.2.1
 have hy := hq.2.2.2.2.1
 have hk := hq.2.2.2.2.2
 have hxo : q.xs.length = (ovp A).length := by rw [ovp_len]; exact hx.1
 have mo : AC Tryz.prog 11 [.iv (.av (KY q E5 E6) (.sl (raws (ovp A)))), cw B, cr K] none [.iv (.sl (rp (askP (ovp A) B K))), .iv (.sl (rn (askN (ovp A))))] :=
  (mean_ok (ovp A) B K ro rb rk).arg fun w D vs hv => by
   match vs, hv with
   | [v1, v2, v3], ⟨m1, m2, m3, _⟩ => exact ⟨Rep.unav m1, m2, m3, trivial⟩
 have so : AC Tryz.prog 14 [.agg (RmV q.xo q.xi q.xs q.xc (ovp A)), .iv (.av (KY q E5 E6) (.sl (raws (ovp A))))] none [cb true] :=
  (sound_ok (ovp A) ro).arg fun w D vs hv => by
   match vs, hv with
   | [v1, v2], ⟨m1, m2, _⟩ => exact ⟨(soft_room hxo hx.2.1).rep m1, Rep.unav m2, trivial⟩
 simp (disch := omega) only [wt, seval, reduceCtorEq, Nat.reduceEqDiff, cpoly_len, List.drop_succ_cons, List.take_succ_cons, List.take_zero, Nat.reduceBEq, List.map_cons, List.map_nil, wxK, h1, hH1, h3, hH3, h4, hH4, h5, hH5, hmk, h6, h7, h8, h9, h10, h11, h12, kl, kg, gint]
 refine call_by (mo) (by first | rfl | (simp only [tocvs, tocv, toboxes, tobox, updH_at, Nat.reduceEqDiff, ↓reduceIte, h1, hH1, h3, hH3, h4, hH4, h5, hH5, hmk, h6, h7, h8, h9, h10, h11, h12, kl, kg, gint]; rfl)) (by simp) ?_
 simp (disch := omega) only [wt, seval, reduceCtorEq, Nat.reduceEqDiff, cpoly_len, List.drop_succ_cons, List.take_succ_cons, List.take_zero, Nat.reduceBEq, List.map_cons, List.map_nil, wxK, h1, hH1, h3, hH3, h4, hH4, h5, hH5, hmk, h6, h7, h8, h9, h10, h11, h12, kl, kg, gint]
 refine .inl ⟨tmps_by (by kernel_rfl), ?_⟩
 refine callx_by ((ask_ok2 (ovp A) B K ro rb rk hxo hy.1)) (by first | rfl | (simp only [tocvs, tocv, toboxes, tobox, updH_at, Nat.reduceEqDiff, ↓reduceIte, h1, hH1, h3, hH3, h4, hH4, h5, hH5, hmk, h6, h7, h8, h9, h10, h11, h12, kl, kg, gint]; rfl)) (by simp) (by first | rfl | assumption | (simp (disch := omega) only [wt, seval, reduceCtorEq, Nat.reduceEqDiff, cpoly_len, List.drop_succ_cons, List.take_succ_cons, List.take_zero, Nat.reduceBEq, List.map_cons, List.map_nil, wxK, h1, hH1, h3, hH3, h4, hH4, h5, hH5, hmk, h6, h7, h8, h9, h10, h11, h12, kl, kg, gint]; done) | ((repeat (replace hF := hF.2)); exact hF)) ?_
 rintro B2 E7 _ hB2 hE7 ⟨o3, u3, c3, d3, rfl, n1, n2, n3⟩
 simp (disch := omega) only [wt, seval, reduceCtorEq, Nat.reduceEqDiff, cpoly_len, List.drop_succ_cons, List.take_succ_cons, List.take_zero, Nat.reduceBEq, List.map_cons, List.map_nil, wxK, h1, hH1, h3, hH3, h4, hH4, h5, hH5, hmk, h6, h7, h8, h9, h10, h11, h12, kl, kg, gint]
 first | exact log_by (by kernel_rfl) | refine ⟨log_by (by kernel_rfl), ?_⟩
 have k3 : AOk o3 u3 c3 d3 (askP (ovp A) B K) (askN (ovp A)) E6 E7 := ⟨n1, n2, n3.mono hB2 (Nat.le_refl _)⟩
 refine call_by ((like_of' k3 pl2 nl2 pb2 nb2)) (by first | rfl | (simp only [tocvs, tocv, toboxes, tobox, updH_at, Nat.reduceEqDiff, ↓reduceIte, h1, hH1, h3, hH3, h4, hH4, h5, hH5, hmk, h6, h7, h8, h9, h10, h11, h12, kl, kg, gint]; rfl)) (by simp) ?_
 simp (disch := omega) only [wt, seval, reduceCtorEq, Nat.reduceEqDiff, cpoly_len, List.drop_succ_cons, List.take_succ_cons, List.take_zero, Nat.reduceBEq, List.map_cons, List.map_nil, wxK, h1, hH1, h3, hH3, h4, hH4, h5, hH5, hmk, h6, h7, h8, h9, h10, h11, h12, kl, kg, gint]
 refine call_by ((like_of (KX q) (KX q) k1 pl nl pb nb)) (by first | rfl | (simp only [tocvs, tocv, toboxes, tobox, updH_at, Nat.reduceEqDiff, ↓reduceIte, h1, hH1, h3, hH3, h4, hH4, h5, hH5, hmk, h6, h7, h8, h9, h10, h11, h12, kl, kg, gint]; rfl)) (by simp) ?_
 simp (disch := omega) only [wt, seval, reduceCtorEq, Nat.reduceEqDiff, cpoly_len, List.drop_succ_cons, List.take_succ_cons, List.take_zero, Nat.reduceBEq, List.map_cons, List.map_nil, wxK, h1, hH1, h3, hH3, h4, hH4, h5, hH5, hmk, h6, h7, h8, h9, h10, h11, h12, kl, kg, gint]
 refine call_by ((like_of (KX q) (KX q) k2 pl nl pb nb)) (by first | rfl | (simp only [tocvs, tocv, toboxes, tobox, updH_at, Nat.reduceEqDiff, ↓reduceIte, h1, hH1, h3, hH3, h4, hH4, h5, hH5, hmk, h6, h7, h8, h9, h10, h11, h12, kl, kg, gint]; rfl)) (by simp) ?_
 simp (disch := omega) only [wt, seval, reduceCtorEq, Nat.reduceEqDiff, cpoly_len, List.drop_succ_cons, List.take_succ_cons, List.take_zero, Nat.reduceBEq, List.map_cons, List.map_nil, wxK, h1, hH1, h3, hH3, h4, hH4, h5, hH5, hmk, h6, h7, h8, h9, h10, h11, h12, kl, kg, gint]
 refine call_by (so) (by first | rfl | (simp only [tocvs, tocv, toboxes, tobox, updH_at, Nat.reduceEqDiff, ↓reduceIte, h1, hH1, h3, hH3, h4, hH4, h5, hH5, hmk, h6, h7, h8, h9, h10, h11, h12, kl, kg, gint]; rfl)) (by simp) ?_
 simp (disch := omega) only [wt, seval, reduceCtorEq, Nat.reduceEqDiff, cpoly_len, List.drop_succ_cons, List.take_succ_cons, List.take_zero, Nat.reduceBEq, List.map_cons, List.map_nil, wxK, h1, hH1, h3, hH3, h4, hH4, h5, hH5, hmk, h6, h7, h8, h9, h10, h11, h12, kl, kg, gint]
 refine ⟨ra, rb, rk, hq, ⟨by simp (disch := omega) only [wt, seval, reduceCtorEq, Nat.reduceEqDiff, cpoly_len, List.drop_succ_cons, List.take_succ_cons, List.take_zero, Nat.reduceBEq, List.map_cons, List.map_nil, wxK, h1], by simp (disch := omega) only [wt, seval, reduceCtorEq, Nat.reduceEqDiff, cpoly_len, List.drop_succ_cons, List.take_succ_cons, List.take_zero, Nat.reduceBEq, List.map_cons, List.map_nil, wxK, hH1], by simp (disch := omega) only [wt, seval, reduceCtorEq, Nat.reduceEqDiff, cpoly_len, List.drop_succ_cons, List.take_succ_cons, List.take_zero, Nat.reduceBEq, List.map_cons, List.map_nil, wxK, h3], by simp (disch := omega) only [wt, seval, reduceCtorEq, Nat.reduceEqDiff, cpoly_len, List.drop_succ_cons, List.take_succ_cons, List.take_zero, Nat.reduceBEq, List.map_cons, List.map_nil, wxK, hH3], by simp (disch := omega) only [wt, seval, reduceCtorEq, Nat.reduceEqDiff, cpoly_len, List.drop_succ_cons, List.take_succ_cons, List.take_zero, Nat.reduceBEq, List.map_cons, List.map_nil, wxK, h4], by simp (disch := omega) only [wt, seval, reduceCtorEq, Nat.reduceEqDiff, cpoly_len, List.drop_succ_cons, List.take_succ_cons, List.take_zero, Nat.reduceBEq, List.map_cons, List.map_nil, wxK, hH4], by simp (disch := omega) only [wt, seval, reduceCtorEq, Nat.reduceEqDiff, cpoly_len, List.drop_succ_cons, List.take_succ_cons, List.take_zero, Nat.reduceBEq, List.map_cons, List.map_nil, wxK, h5], by simp (disch := omega) only [wt, seval, reduceCtorEq, Nat.reduceEqDiff, cpoly_len, List.drop_succ_cons, List.take_succ_cons, List.take_zero, Nat.reduceBEq, List.map_cons, List.map_nil, wxK, hH5]⟩, o1, u1, c1, d1, o2, u2, c2, d2, o3, u3, c3, d3, E4, E5, E6, E7, by omega, by omega, by omega, by omega, k1, k2, k3, by simp (disch := omega) only [wt, seval, reduceCtorEq, Nat.reduceEqDiff, cpoly_len, List.drop_succ_cons, List.take_succ_cons, List.take_zero, Nat.reduceBEq, List.map_cons, List.map_nil, wxK, h8], by simp (disch := omega) only [wt, seval, reduceCtorEq, Nat.reduceEqDiff, cpoly_len, List.drop_succ_cons, List.take_succ_cons, List.take_zero, Nat.reduceBEq, List.map_cons, List.map_nil, wxK, h9], by simp (disch := omega) only [wt, seval, reduceCtorEq, Nat.reduceEqDiff, cpoly_len, List.drop_succ_cons, List.take_succ_cons, List.take_zero, Nat.reduceBEq, List.map_cons, List.map_nil, wxK, h10], by simp (disch := omega) only [wt, seval, reduceCtorEq, Nat.reduceEqDiff, cpoly_len, List.drop_succ_cons, List.take_succ_cons, List.take_zero, Nat.reduceBEq, List.map_cons, List.map_nil, wxK, h11], by simp (disch := omega) only [wt, seval, reduceCtorEq, Nat.reduceEqDiff, cpoly_len, List.drop_succ_cons, List.take_succ_cons, List.take_zero, Nat.reduceBEq, List.map_cons, List.map_nil, wxK, h12], by simp (disch := omega) only [wt, seval, reduceCtorEq, Nat.reduceEqDiff, cpoly_len, List.drop_succ_cons, List.take_succ_cons, List.take_zero, Nat.reduceBEq, List.map_cons, List.map_nil, wxK], by simp (disch := omega) only [wt, seval, reduceCtorEq, Nat.reduceEqDiff, cpoly_len, List.drop_succ_cons, List.take_succ_cons, List.take_zero, Nat.reduceBEq, List.map_cons, List.map_nil, wxK], by simp (disch := omega) only [wt, seval, reduceCtorEq, Nat.reduceEqDiff, cpoly_len, List.drop_succ_cons, List.take_succ_cons, List.take_zero, Nat.reduceBEq, List.map_cons, List.map_nil, wxK]⟩
end Go.Proofs.YtdokaihemcnkmaaGreat

namespace Go.Proofs.YtdokaihemcnkmaaGreat
open Go Go.Proofs Go.AL
set_option linter.unusedSimpArgs false
set_option linter.unusedVariables false
abbrev NB := OB × List Nat
abbrev PBk := OB × List OB × List Int
def nbrow (x : NB) : List IV := [fnat x.1 x.2]
def pbrow (x : PBk) : List IV := [fpoly x.1 x.2.1 x.2.2]
def coefs (x : PBk) : List NB := List.zipWith (fun b z => (b, wd z.natAbs)) x.2.1 x.2.2
def Bk0 (ns : List NB) (ps : List PBk) (H : AL.Hp) : Prop :=
 ∃ rn rp, H 178 = .nst 1 49 [rn, rp, .nils, .nils, .nils, .nils] ∧ ((ns = [] ∧ rn = .nils) ∨ ∃ st, rn = .hs 11 st ∧ H 11 = .blk false st 25 1 (ns.map nbrow)) ∧
  ((ps = [] ∧ rp = .nils) ∨ ∃ st, rp = .hs 24 st ∧ H 24 = .blk false st 23 1 (ps.map pbrow))
def Kept (H H' : AL.Hp) : Prop := ∀ k, k ≠ 3 → k ≠ 10 → k ≠ 11 → k ≠ 23 → k ≠ 24 → k ≠ 178 → H' k = H k
theorem bk0_ex (ns : List NB) (ps : List PBk) (H : AL.Hp) : ∃ H', Bk0 ns ps H' ∧ Kept H H' := by
 refine ⟨fun k => if k = 178 then .nst 1 49 [.hs 11 1, .hs 24 1, .nils, .nils, .nils, .nils] else if k = 11 then .blk false 1 25 1 (ns.map nbrow) else if k = 24 then .blk false 1 23 1 (ps.map pbrow) else H k, ⟨_, _, by simp, .inr ⟨1, rfl, by simp⟩, .inr ⟨1, rfl, by simp⟩⟩, fun k h1 h2 h3 h4 h5 h6 => by simp [h3, h5, h6]⟩
theorem bnat_ok (ns : List NB) (ps : List PBk) (b : OB) (l : List Nat) (hn : ns.length ≤ 100000) (H : AL.Hp) (hB : Bk0 ns ps H) : ACI Tryz.prog 17 [.hp 178 1 0 0, .iv (fnat b l)] H (fun _ H' => Bk0 (ns ++ [(b, l)]) ps H' ∧ Kept H H') := by
 refine ACI.by_walk zi0 (rs := []) ords Tryz.func17 (by rfl) (by rfl) (by rfl) (by rfl) (by rfl) (by rfl) ?_ ?_
 ·obtain ⟨H', h⟩ := bk0_ex (ns ++ [(b, l)]) ps H
  exact ⟨.dead, H', h⟩
 obtain ⟨rn, rp, h178, hN, hP⟩ := hB
 have kept : ∀ c1 c2 c3, Kept H (updH (updH (updH H 10 c1) 11 c2) 178 c3) := fun c1 c2 c3 k h1 h2 h3 h4 h5 h6 => by rw [updH_ne _ _ h6, updH_ne _ _ h3, updH_ne _ _ h2]
 have poly : ∀ c1 c2 c3, (ps = [] ∧ rp = AV.nils ∨ ∃ st, rp = AV.hs 24 st ∧ updH (updH (updH H 10 c1) 11 c2) 178 c3 24 = HC.blk false st 23 1 (List.map pbrow ps)) := fun c1 c2 c3 => by
  rcases hP with h | ⟨st, h1, h2⟩
  ·exact .inl h
  ·exact .inr ⟨st, h1, by rw [updH_ne _ _ (by omega), updH_ne _ _ (by omega), updH_ne _ _ (by omega)]; exact h2⟩
 rcases hN with ⟨rfl, rfl⟩ | ⟨st, rfl, h11⟩
 ·simp (disch := omega) only [wt, seval, reduceCtorEq, Nat.reduceEqDiff, lay_own, spl_own, fld_int1, List.length_map, List.getD_cons_zero, List.getD_cons_succ, h178]
  exact reti_none ⟨⟨_, rp, updH_same _ _ _, .inr ⟨_, rfl, by rw [updH_ne _ _ (by omega), updH_same]; rfl⟩, poly _ _ _⟩, kept _ _ _⟩
 ·simp (disch := omega) only [wt, seval, reduceCtorEq, Nat.reduceEqDiff, lay_own, spl_own, fld_int1, List.length_map, List.getD_cons_zero, List.getD_cons_succ, h178, h11]
  exact reti_none ⟨⟨_, rp, updH_same _ _ _, .inr ⟨_, rfl, by rw [updH_ne _ _ (by omega), updH_same, List.map_append]; rfl⟩, poly _ _ _⟩, kept _ _ _⟩
theorem Bk0.upd {ns : List NB} {ps : List PBk} {H : AL.Hp} (h : Bk0 ns ps H) {k : Nat} (h1 : k ≠ 11) (h2 : k ≠ 24) (h3 : k ≠ 178) (c : HC) : Bk0 ns ps (updH H k c) := by
 obtain ⟨rn, rp, h178, hN, hP⟩ := h
 refine ⟨rn, rp, by rw [updH_ne _ _ (Ne.symm h3)]; exact h178, ?_, ?_⟩
 ·rcases hN with h | ⟨st, e, h⟩
  ·exact .inl h
  ·exact .inr ⟨st, e, by rw [updH_ne _ _ (Ne.symm h1)]; exact h⟩
 ·rcases hP with h | ⟨st, e, h⟩
  ·exact .inl h
  ·exact .inr ⟨st, e, by rw [updH_ne _ _ (Ne.symm h2)]; exact h⟩
theorem Kept.trans {H H1 H2 : AL.Hp} (h : Kept H H1) (h' : Kept H1 H2) : Kept H H2 := fun k a b c d e g => (h' k a b c d e g).trans (h k a b c d e g)
theorem bint_ok (ns : List NB) (ps : List PBk) (s : Bool) (b : OB) (l : List Nat) (hn : ns.length ≤ 100000) (H : AL.Hp) (hB : Bk0 ns ps H) : ACI Tryz.prog 27 [.hp 178 1 0 0, .agg [.bool s, fnat b l]] H (fun _ H' => Bk0 (ns ++ [(b, l)]) ps H' ∧ Kept H H') := by
 refine ACI.by_walk zi0 (rs := []) ords Tryz.func27 (by rfl) (by rfl) (by rfl) (by rfl) (by rfl) (by rfl) ?_ ?_
 ·obtain ⟨H', h⟩ := bk0_ex (ns ++ [(b, l)]) ps H
  exact ⟨.dead, H', h⟩
 simp (disch := omega) only [wt, seval, reduceCtorEq, Nat.reduceEqDiff, lay_own, spl_own, fld_int1, List.length_map, List.getD_cons_zero, List.getD_cons_succ]
 refine calli_by (bnat_ok ns ps b l hn _ (hB.upd (by omega) (by omega) (by omega) _)) ?_
 rintro x H' ⟨h1, h2⟩
 simp (disch := omega) only [wt, seval, reduceCtorEq, Nat.reduceEqDiff, lay_own, spl_own, fld_int1, List.length_map, List.getD_cons_zero, List.getD_cons_succ]
 refine reti_none ⟨h1, Kept.trans (fun k e1 _ _ _ _ _ => ?_) h2⟩
 rw [updH_ne _ _ e1]
theorem coefs_len (x : PBk) (h : x.2.1.length = x.2.2.length) : (coefs x).length = x.2.2.length := by simp [coefs, h]
theorem coefs_take (x : PBk) (h : x.2.1.length = x.2.2.length) {i : Nat} (hi : i < x.2.2.length) : (coefs x).take (i + 1) = (coefs x).take i ++ [(x.2.1.getD i none, wd (x.2.2.getD i 0).natAbs)] := by
 rw [List.take_add_one]
 congr 1
 simp [coefs, List.getElem?_zipWith, List.getD, hi, show i < x.2.1.length by omega]
theorem frows_at {bs : List OB} {q : List Int} (h : bs.length = q.length) {i : Nat} (hi : i < q.length) : (frows bs q).getD i [] = fint (bs.getD i none) (q.getD i 0) := by
 simp [frows, List.getD, List.getElem?_zipWith, hi, show i < bs.length by omega]
theorem frows_length {bs : List OB} {q : List Int} (h : bs.length = q.length) : (frows bs q).length = q.length := by simp [frows, h]
theorem bpoly_ok (ns : List NB) (ps : List PBk) (x : PBk) (hx : x.2.1.length = x.2.2.length) (hn : ns.length + x.2.2.length ≤ 100000) (hq : x.2.2.length ≤ 100000) (hp : ps.length ≤ 1000) (H : AL.Hp) (hB : Bk0 ns ps H) : ACI Tryz.prog 16 [.hp 178 1 0 0, .iv (fpoly x.1 x.2.1 x.2.2)] H (fun _ H' => Bk0 (ns ++ coefs x) (ps ++ [x]) H' ∧ Kept H H') := by
 refine ACI.by_walk zi0 (rs := []) ords Tryz.func16 (by rfl) (by rfl) (by rfl) (by rfl) (by rfl) (by rfl) ?_ ?_
 ·obtain ⟨H', h⟩ := bk0_ex (ns ++ coefs x) (ps ++ [x]) H
  exact ⟨.dead, H', h⟩
 simp (disch := omega) only [wt, seval, reduceCtorEq, Nat.reduceEqDiff, lay_own, spl_own, fld_int1, List.length_map, List.getD_cons_zero, List.getD_cons_succ]
 refine aloop_by (fun f H' => ∃ (i : Nat), i ≤ x.2.2.length ∧ f 4 = .iv (.int .i64 i) ∧ f 0 = .hp 178 1 0 0 ∧ f 1 = .iv (fpoly x.1 x.2.1 x.2.2) ∧ Bk0 (ns ++ (coefs x).take i) ps H' ∧ Kept H H') (fun f H => (x.2.2.length - intAt f 4).toNat) ?_ ?_
 ·refine ⟨0, by omega, ?_⟩
  simp (disch := omega) only [wt, seval, reduceCtorEq, Nat.reduceEqDiff, lay_own, spl_own, fld_int1, List.length_map, List.getD_cons_zero, List.getD_cons_succ]
  exact ⟨by rw [List.take_zero, List.append_nil]; exact hB, fun _ _ _ _ _ _ _ => rfl⟩
 clear hB
 rintro f H' ⟨i, hi, h4, h0, h1, hB, hk⟩
 rw [intAt_of h4]
 have fl := frows_length hx
 simp (disch := omega) only [wt, seval, reduceCtorEq, Nat.reduceEqDiff, lay_own, spl_own, fld_int1, List.length_map, List.getD_cons_zero, List.getD_cons_succ, h4, h0, h1, fl]
 refine if_by (fun hlt => ?_) (fun hlt => ?_)
 ·have fa := frows_at hx (i := i) (by omega)
  simp (disch := omega) only [wt, seval, reduceCtorEq, Nat.reduceEqDiff, lay_own, spl_own, fld_int1, List.length_map, List.getD_cons_zero, List.getD_cons_succ, h4, h0, h1, fl, fa, fint]
  refine calli_by (bint_ok _ ps _ _ _ (by rw [List.length_append, List.length_take]; omega) H' hB) ?_
  rintro y H2 ⟨g1, g2⟩
  simp (disch := omega) only [wt, seval, reduceCtorEq, Nat.reduceEqDiff, lay_own, spl_own, fld_int1, List.length_map, List.getD_cons_zero, List.getD_cons_succ, h4, h0, h1, fl]
  refine ⟨⟨i + 1, by omega, rfl, ?_, hk.trans g2⟩, by omega⟩
  rw [coefs_take x hx (by omega), ← List.append_assoc]; exact g1
 ·obtain rfl : i = x.2.2.length := by omega
  rw [List.take_of_length_le (by rw [coefs_len x hx]; exact Nat.le_refl _)] at hB
  obtain ⟨rn, rp, h178, hN, hP⟩ := hB
  have kept : ∀ c1 c2 c3, Kept H (updH (updH (updH H' 23 c1) 24 c2) 178 c3) := fun c1 c2 c3 => hk.trans fun k h1 h2 h3 h4 h5 h6 => by rw [updH_ne _ _ h6, updH_ne _ _ h5, updH_ne _ _ h4]
  have nat : ∀ c1 c2 c3, (ns ++ coefs x = [] ∧ rn = AV.nils ∨ ∃ st, rn = AV.hs 11 st ∧ updH (updH (updH H' 23 c1) 24 c2) 178 c3 11 = HC.blk false st 25 1 (List.map nbrow (ns ++ coefs x))) := fun c1 c2 c3 => by
   rcases hN with h | ⟨st, h1, h2⟩
   ·exact .inl h
   ·exact .inr ⟨st, h1, by rw [updH_ne _ _ (by omega), updH_ne _ _ (by omega), updH_ne _ _ (by omega)]; exact h2⟩
  rcases hP with ⟨rfl, rfl⟩ | ⟨st, rfl, h11⟩
  ·simp (disch := omega) only [wt, seval, reduceCtorEq, Nat.reduceEqDiff, lay_own, spl_own, fld_int1, List.length_map, List.getD_cons_zero, List.getD_cons_succ, h4, h0, h1, fl, h178]
   exact reti_none ⟨⟨rn, _, updH_same _ _ _, nat _ _ _, .inr ⟨_, rfl, by rw [updH_ne _ _ (by omega), updH_same]; rfl⟩⟩, kept _ _ _⟩
  ·simp (disch := omega) only [wt, seval, reduceCtorEq, Nat.reduceEqDiff, lay_own, spl_own, fld_int1, List.length_map, List.getD_cons_zero, List.getD_cons_succ, h4, h0, h1, fl, h178, h11]
   exact reti_none ⟨⟨rn, _, updH_same _ _ _, nat _ _ _, .inr ⟨_, rfl, by rw [updH_ne _ _ (by omega), updH_same, List.map_append]; rfl⟩⟩, kept _ _ _⟩
end Go.Proofs.YtdokaihemcnkmaaGreat

namespace Go.Proofs.YtdokaihemcnkmaaGreat
open Go Go.Proofs Go.AL
set_option linter.unusedSimpArgs false
set_option linter.unusedVariables false
set_option linter.defProp false
structure KQ where
 o1 : OB
 u1 : OB
 c1 : List OP
 d1 : List OB
 o2 : OB
 u2 : OB
 c2 : List OP
 d2 : List OB
 o3 : OB
 u3 : OB
 c3 : List OP
 d3 : List OB
 E4 : Nat
 E5 : Nat
 E6 : Nat
 E7 : Nat
def QOk (q : KP) (r : KQ) (A B : List RI) (K : RI) : Prop :=
 q.E3 ≤ r.E4 ∧ r.E4 ≤ r.E5 ∧ r.E5 ≤ r.E6 ∧ r.E6 ≤ r.E7 ∧ AOk r.o1 r.u1 r.c1 r.d1 (askP A B K) (askN A) q.E3 r.E4 ∧ AOk r.o2 r.u2 r.c2 r.d2 (askP A B K) (askN A) r.E4 r.E5 ∧ AOk r.o3 r.u3 r.c3 r.d3 (askP (ovp A) B K) (askN (ovp A)) r.E6 r.E7
def KH (q : KP) (A B C : List RI) (K : RI) (N : Int) (H : AL.Hp) : Prop :=
 H 800001 = .blk false 1 29 6 [case9v q.B0 A B C K N] ∧ H 800003 = .blk false 1 35 3 [RmV q.xo q.xi q.xs q.xc (ovp A)] ∧
 H 800004 = .blk false 1 35 3 [RmV q.yo q.yi q.ys q.yc B] ∧ H 800005 = .blk false 1 35 3 [RmV q.ko q.ki q.ks q.kc [K]]
theorem KH.upd {q : KP} {A B C : List RI} {K : RI} {N : Int} {H : AL.Hp} (h : KH q A B C K N H) {k : Nat} (hk : k < 800000) (c : HC) : KH q A B C K N (updH H k c) :=
 ⟨by rw [updH_ne _ _ (by omega)]; exact h.1, by rw [updH_ne _ _ (by omega)]; exact h.2.1, by rw [updH_ne _ _ (by omega)]; exact h.2.2.1, by rw [updH_ne _ _ (by omega)]; exact h.2.2.2⟩
theorem KH.kept {q : KP} {A B C : List RI} {K : RI} {N : Int} {H H' : AL.Hp} (h : KH q A B C K N H) (hk : Kept H H') : KH q A B C K N H' :=
 ⟨(hk _ (by omega) (by omega) (by omega) (by omega) (by omega) (by omega)).trans h.1, (hk _ (by omega) (by omega) (by omega) (by omega) (by omega) (by omega)).trans h.2.1, (hk _ (by omega) (by omega) (by omega) (by omega) (by omega) (by omega)).trans h.2.2.1, (hk _ (by omega) (by omega) (by omega) (by omega) (by omega) (by omega)).trans h.2.2.2⟩
def KI (q : KP) (r : KQ) (A : List RI) (f : AL.Fr) : Prop :=
 f 1 = .hp 800001 1 0 0 ∧ f 3 = .hp 800003 1 0 0 ∧ f 4 = .hp 800004 1 0 0 ∧ f 5 = .hp 800005 1 0 0 ∧ f 12 = .iv (.av (KY q r.E5 r.E6) (.sl (raws (ovp A))))
def SF0 (q : KP) (r : KQ) (A B C : List RI) (K : RI) (N : Int) (f : AL.Fr) (H : AL.Hp) : Prop :=
 RP 40 200 A ∧ RP 40 200 B ∧ Sz 200 K ∧ KOk q A B K ∧ QOk q r A B K ∧ KI q r A f ∧
  f 8 = .iv (AP r.o1 r.c1 (askP A B K)) ∧ f 9 = .iv (AN r.u1 r.d1 (askN A)) ∧ f 10 = .iv (AP r.o2 r.c2 (askP A B K)) ∧ f 11 = .iv (AN r.u2 r.d2 (askN A)) ∧ f 15 = .iv (AP r.o3 r.c3 (askP (ovp A) B K)) ∧ f 16 = .iv (AN r.u3 r.d3 (askN (ovp A))) ∧ H 178 = .none ∧ KH q A B C K N H
theorem seg_f0 (q : KP) (A B C : List RI) (K : RI) (N : Int) {D0 : Nat → Prop} {w0 : World} {f : AL.Fr} {H : AL.Hp} {β : Nat → Value} {a : Act} {w : World} {n : Nat} (h : SE q A B C K N f H) (R : Rel ⟨fun _ _ => False, true⟩ (fun _ => False) w0 D0 n f H β a w) :
  ∃ r f' H' β', SF0 q r A B C K N f' H' ∧ Rel ⟨fun _ _ => False, true⟩ (fun _ => False) w0 D0 n f' H' β' a w := by
 obtain ⟨ra, rb, rk, hq, ⟨h1, hH1, h3, hH3, h4, hH4, h5, hH5⟩, o1, u1, c1, d1, o2, u2, c2, d2, o3, u3, c3, d3, E4, E5, E6, E7, e4, e5, e6, e7, k1, k2, k3, h8, h9, h10, h11, h12, h15, h16, hmk⟩ := h
 obtain ⟨f', hf'⟩ : ∃ f' : AL.Fr, f' = fun t => if t = 1 ∨ t = 3 ∨ t = 4 ∨ t = 5 then .hp (800000 + t) 1 0 0 else if 8 ≤ t ∧ t ≤ 12 ∨ t = 15 ∨ t = 16 then f t else .dead := ⟨_, rfl⟩
 obtain ⟨H', hH'⟩ : ∃ H' : AL.Hp, H' = fun h => if h = 800001 ∨ h = 800003 ∨ h = 800004 ∨ h = 800005 then H (h - 800000) else .none := ⟨_, rfl⟩
 obtain ⟨β', hβ'⟩ : ∃ β' : Nat → Value, β' = fun h => β (h - 800000) := ⟨_, rfl⟩
 have g1 : H' 800001 = H 1 := by rw [hH']; simp
 have g3 : H' 800003 = H 3 := by rw [hH']; simp
 have g4 : H' 800004 = H 4 := by rw [hH']; simp
 have g5 : H' 800005 = H 5 := by rw [hH']; simp
 refine ⟨⟨o1, u1, c1, d1, o2, u2, c2, d2, o3, u3, c3, d3, E4, E5, E6, E7⟩, f', H', β', ⟨ra, rb, rk, hq, ⟨e4, e5, e6, e7, k1, k2, k3⟩, ⟨by simp [hf'], by simp [hf'], by simp [hf'], by simp [hf'], by simp [hf', h12]⟩, by simp [hf', h8], by simp [hf', h9], by simp [hf', h10], by simp [hf', h11], by simp [hf', h15], by simp [hf', h16], by simp [hH'], ⟨by rw [g1, hH1], by rw [g3, hH3], by rw [g4, hH4], by rw [g5, hH5]⟩⟩, ?_⟩
 have hc : ∀ h, (∃ k, h = 800000 + k ∧ (k = 1 ∨ k = 3 ∨ k = 4 ∨ k = 5) ∧ H' h = H k) ∨ H' h = .none := fun h => by
  rw [hH']; simp only
  split
  ·exact .inl ⟨h - 800000, by omega, by omega, rfl⟩
  ·exact .inr rfl
 have hβk : ∀ k, β' (800000 + k) = β k := fun k => by rw [hβ']; simp only [Nat.add_sub_cancel_left]
 have hDD : ∀ b, DD H' β' D0 b → DD H β D0 b := by
  rintro b (h | ⟨h, hm, hk⟩)
  ·exact .inl h
  ·rcases hc h with ⟨k, rfl, _, e⟩ | e
   ·rw [e] at hm; rw [hβk] at hk; exact .inr ⟨k, hm, hk⟩
   ·rw [e] at hm; exact hm.elim
 have g : Grows w (DD H β D0) w (DD H' β' D0) := Grows.of_sub hDD
 have hbl : ∀ k, (k = 1 ∨ k = 3 ∨ k = 4 ∨ k = 5) → ∃ e sz row, H k = .blk false 1 e sz [row] ∧ f k = .hp k 1 0 0 := fun k hk => by
  rcases hk with rfl | rfl | rfl | rfl
  ·exact ⟨_, _, _, hH1, h1⟩
  ·exact ⟨_, _, _, hH3, h3⟩
  ·exact ⟨_, _, _, hH4, h4⟩
  ·exact ⟨_, _, _, hH5, h5⟩
 refine R.jump (fun _ _ h => h) rfl rfl rfl (Nat.le_refl _) (fun _ _ _ => rfl) R.tsize (R.rnd rfl) (fun t => ?_) (fun h st e sz rows hh => ?_) (fun h st e sz rows hh => ?_)
  (fun h h' hne hm hm' => ?_) (fun h st e rows hh => ?_) (fun h B hh => ?_) (fun h x v hh => ?_)
 ·rw [hf']; simp only
  split
  ·rename_i hk
   obtain ⟨e, sz, row, hb, hfk⟩ := hbl t hk
   have hRt := R.tmps t
   rw [hfk] at hRt
   have e1 : H' (800000 + t) = H t := by rcases hk with rfl | rfl | rfl | rfl <;> assumption
   simp only [AVRep, e1, hβk] at hRt ⊢
   exact hRt
  ·split
   ·rename_i hl
    have hRt := R.tmps t
    rcases (show t = 8 ∨ t = 9 ∨ t = 10 ∨ t = 11 ∨ t = 12 ∨ t = 15 ∨ t = 16 by omega) with rfl | rfl | rfl | rfl | rfl | rfl | rfl
    ·rw [h8] at hRt ⊢; simp only [AVRep] at hRt ⊢; exact hRt.mono g
    ·rw [h9] at hRt ⊢; simp only [AVRep] at hRt ⊢; exact hRt.mono g
    ·rw [h10] at hRt ⊢; simp only [AVRep] at hRt ⊢; exact hRt.mono g
    ·rw [h11] at hRt ⊢; simp only [AVRep] at hRt ⊢; exact hRt.mono g
    ·rw [h12] at hRt ⊢; simp only [AVRep] at hRt ⊢; exact hRt.mono g
    ·rw [h15] at hRt ⊢; simp only [AVRep] at hRt ⊢; exact hRt.mono g
    ·rw [h16] at hRt ⊢; simp only [AVRep] at hRt ⊢; exact hRt.mono g
   ·simp only [AVRep]
 ·rcases hc h with ⟨k, rfl, hk, e'⟩ | e'
  ·rw [e'] at hh
   rw [hβk]
   exact (R.own _ _ _ _ _ hh).mono g fun _ _ => rfl
  ·rw [e'] at hh; cases hh
 ·rcases hc h with ⟨k, rfl, hk, e'⟩ | e'
  ·obtain ⟨e2, sz2, row, hb, _⟩ := hbl k hk
   rw [e', hb] at hh; cases hh
  ·rw [e'] at hh; cases hh
 ·rcases hc h with ⟨k, rfl, hk, e'⟩ | e'
  ·rcases hc h' with ⟨k', rfl, hk', e''⟩ | e''
   ·rw [e'] at hm; rw [e''] at hm'
    rw [hβk, hβk]
    exact R.dis k k' (by omega) hm hm'
   ·rw [e''] at hm'; exact hm'.elim
  ·rw [e'] at hm; exact hm.elim
 ·rcases hc h with ⟨k, rfl, hk, e'⟩ | e'
  ·obtain ⟨e2, sz2, row, hb, _⟩ := hbl k hk
   rw [e', hb] at hh; cases hh
  ·rw [e'] at hh; cases hh
 ·rcases hc h with ⟨k, rfl, hk, e'⟩ | e'
  ·obtain ⟨e2, sz2, row, hb, _⟩ := hbl k hk
   rw [e', hb] at hh; cases hh
  ·rw [e'] at hh; cases hh
 ·rcases hc h with ⟨k, rfl, hk, e'⟩ | e'
  ·obtain ⟨e2, sz2, row, hb, _⟩ := hbl k hk
   rw [e', hb] at hh; cases hh
  ·rw [e'] at hh; cases hh
def zipc (c : List OP) (P : List (List Int)) : List PBk := List.zipWith (fun c q => (c.1, c.2, q)) c P
theorem plist_zip (c : List OP) (P : List (List Int)) : plist c P = (zipc c P).map pbrow := by
 simp [plist, zipc, List.map_zipWith, pbrow]
def zipn (d : List OB) (n : List (List Nat)) : List NB := d.zip n
theorem nlist_zip (d : List OB) (n : List (List Nat)) : nlist d n = (zipn d n).map nbrow := by
 simp [nlist, zipn, nbrow, List.zip, List.map_zipWith]
def PX (r : KQ) (A B : List RI) (K : RI) : List (OB × List PBk) := [(r.o1, zipc r.c1 (askP A B K)), (r.o2, zipc r.c2 (askP A B K)), (r.o3, zipc r.c3 (askP (ovp A) B K))]
def NX (r : KQ) (A B : List RI) (K : RI) : List (OB × List NB) := [(r.u1, zipn r.d1 (askN A)), (r.u2, zipn r.d2 (askN A)), (r.u3, zipn r.d3 (askN (ovp A)))]
def PSall (r : KQ) (A B : List RI) (K : RI) : List PBk := (PX r A B K).flatMap (·.2)
def NSall (r : KQ) (A B : List RI) (K : RI) : List NB := (PSall r A B K).flatMap coefs ++ (NX r A B K).flatMap (·.2)
def SF (q : KP) (r : KQ) (A B C : List RI) (K : RI) (N : Int) (f : AL.Fr) (H : AL.Hp) : Prop :=
 RP 40 200 A ∧ RP 40 200 B ∧ Sz 200 K ∧ KOk q A B K ∧ QOk q r A B K ∧ KI q r A f ∧ KH q A B C K N H ∧ f 17 = .hp 178 1 0 0 ∧ Bk0 (NSall r A B K) (PSall r A B K) H
@[reducible] def zF : Zi := ⟨some (144, 1), (· == 178), fun _ => false, .strip⟩
theorem zbxF (e : Nat) : @Zi.bx zF e = (e == 178) := rfl
theorem zbsF (e : Nat) : @Zi.bs zF e = false := rfl
theorem zstF : @Zi.st zF = .strip := rfl
theorem zslF : @zsl zF = .own none 144 1 [] := rfl
theorem zipc_mem {c : List OP} {P : List (List Int)} (h : POk c P) {x : PBk} (hx : x ∈ zipc c P) : x.2.1.length = x.2.2.length ∧ x.2.2 ∈ P := by
 obtain ⟨i, hi⟩ := List.getElem?_of_mem hx
 rw [zipc, List.getElem?_zipWith] at hi
 cases hc : c[i]? with
 | none => rw [hc] at hi; simp at hi
 | some y =>
  cases hp : P[i]? with
  | none => rw [hc, hp] at hi; simp at hi
  | some q =>
   rw [hc, hp] at hi
   injection hi with hi
   subst hi
   exact ⟨h.2 i y q hc hp, List.mem_of_getElem? hp⟩
theorem zipc_length {c : List OP} {P : List (List Int)} (h : POk c P) : (zipc c P).length = P.length := by simp [zipc, h.1]
theorem zipn_mem {d : List OB} {n : List (List Nat)} {x : NB} (hx : x ∈ zipn d n) : x.2 ∈ n := (List.of_mem_zip hx).2
theorem PX_ok {q : KP} {r : KQ} {A B : List RI} {K : RI} (ra : RP 40 200 A) (rb : RP 40 200 B) (rk : Sz 200 K) (h : QOk q r A B K) : ∀ y ∈ PX r A B K, y.2.length = 16 ∧ ∀ x ∈ y.2, x.2.1.length = x.2.2.length ∧ PB 100 1000 x.2.2 := by
 obtain ⟨-, -, -, -, k1, k2, k3⟩ := h
 intro y hy
 simp only [PX, List.mem_cons, List.not_mem_nil, or_false] at hy
 rcases hy with rfl | rfl | rfl
 ·exact ⟨zipc_length k1.1, fun x hx => ⟨(zipc_mem k1.1 hx).1, askP_small ra rb rk _ (zipc_mem k1.1 hx).2⟩⟩
 ·exact ⟨zipc_length k2.1, fun x hx => ⟨(zipc_mem k2.1 hx).1, askP_small ra rb rk _ (zipc_mem k2.1 hx).2⟩⟩
 ·exact ⟨zipc_length k3.1, fun x hx => ⟨(zipc_mem k3.1 hx).1, askP_small (ovp_rp ra) rb rk _ (zipc_mem k3.1 hx).2⟩⟩
theorem NX_ok {q : KP} {r : KQ} {A B : List RI} {K : RI} (ra : RP 40 200 A) (h : QOk q r A B K) : ∀ y ∈ NX r A B K, y.2.length = 5 ∧ ∀ x ∈ y.2, x.2.length ≤ 1000 := by
 obtain ⟨-, -, -, -, k1, k2, k3⟩ := h
 have hl : ∀ (d : List OB) (n : List (List Nat)), d.length = n.length → (zipn d n).length = n.length := fun d n h => by simp [zipn, h]
 intro y hy
 simp only [NX, List.mem_cons, List.not_mem_nil, or_false] at hy
 rcases hy with rfl | rfl | rfl
 ·exact ⟨hl _ _ k1.2.1, fun x hx => askN_small ra _ (zipn_mem hx)⟩
 ·exact ⟨hl _ _ k2.2.1, fun x hx => askN_small ra _ (zipn_mem hx)⟩
 ·exact ⟨hl _ _ k3.2.1, fun x hx => askN_small (ovp_rp ra) _ (zipn_mem hx)⟩
theorem flat_le {α β : Type} {l : List α} {g : α → List β} {k : Nat} (h : ∀ x ∈ l, (g x).length ≤ k) : (l.flatMap g).length ≤ l.length * k := by
 induction l with
 | nil => simp
 | cons x l ih =>
  have h1 := h x (by simp)
  have h2 := ih fun y hy => h y (by simp [hy])
  rw [List.flatMap_cons, List.length_append, List.length_cons, Nat.add_mul]
  omega
theorem take_flat {α β : Type} {l : List α} {g : α → List β} {i : Nat} {x : α} (h : l[i]? = some x) : (l.take (i + 1)).flatMap g = (l.take i).flatMap g ++ g x := by
 rw [List.take_add_one, h, List.flatMap_append]; simp
theorem take_one {α : Type} {l : List α} {i : Nat} {x : α} (h : l[i]? = some x) : l.take (i + 1) = l.take i ++ [x] := by
 rw [List.take_add_one, h]; rfl
theorem row_map {α : Type} {l : List α} {g : α → List IV} {i : Nat} {x : α} (h : l[i]? = some x) : (l.map g).getD i [] = g x := by
 simp [List.getD, h]
def wxF := And.intro @wxS (And.intro @zbxF (And.intro @zbsF (And.intro @zstF (@zslF))))
set_option maxRecDepth 8000 in
set_option maxHeartbeats 4000000 in
theorem seg_f (q : KP) (r : KQ) (A B C : List RI) (K : RI) (N : Int) (f : AL.Fr) (H : AL.Hp) (h : SF0 q r A B C K N f H) :
  ∃ c, (Tryz.f3.body.bind (dropO 14)) = some c ∧ @AWs zF Tryz.prog (SF q r A B C K N) 3 c (fun _ _ _ => False) f H := by
 refine ⟨_, rfl, ?_⟩
 obtain ⟨ra, rb, rk, hq, hr, ⟨h1, h3, h4, h5, h12⟩, h8, h9, h10, h11, h15, h16, h178n, hK⟩ := id h
 have hP := PX_ok ra rb rk hr
 have hN := NX_ok (B := B) (K := K) ra hr
 obtain ⟨X, hX⟩ : ∃ X, X = PX r A B K := ⟨_, rfl⟩
 obtain ⟨Y, hY⟩ : ∃ Y, Y = NX r A B K := ⟨_, rfl⟩
 have hX3 : X.length = 3 := by rw [hX]; rfl
 have hY3 : Y.length = 3 := by rw [hY]; rfl
 have hPr : [[AP r.o1 r.c1 (askP A B K)], [AP r.o2 r.c2 (askP A B K)], [AP r.o3 r.c3 (askP (ovp A) B K)]] = X.map fun x => [.own x.1 23 1 (x.2.map pbrow)] := by
  rw [hX]; simp only [AP, plist_zip]; rfl
 have hNr : [[AN r.u1 r.d1 (askN A)], [AN r.u2 r.d2 (askN A)], [AN r.u3 r.d3 (askN (ovp A))]] = Y.map fun x => [.own x.1 25 1 (x.2.map nbrow)] := by
  rw [hY]; simp only [AN, nlist_zip]; rfl
 rw [← hX] at hP
 rw [← hY] at hN
 have hfin : X.flatMap (·.2) = PSall r A B K ∧ (X.flatMap (·.2)).flatMap coefs ++ Y.flatMap (·.2) = NSall r A B K := by rw [hX, hY]; exact ⟨rfl, rfl⟩
 simp (disch := omega) only [wt, seval, reduceCtorEq, Nat.reduceEqDiff, Nat.reduceBEq, List.map_cons, List.map_nil, wxF, h8, h9, h10, h11, h15, h16, h178n]
 rw [hPr]
 obtain ⟨P0, hP0⟩ : ∃ P0 : Nat → List PBk, ∀ i, P0 i = (X.take i).flatMap (·.2) := ⟨_, fun _ => rfl⟩
 have hP00 : P0 0 = [] := by rw [hP0]; rfl
 have hPl : ∀ i, i ≤ 3 → (P0 i).length ≤ 48 := fun i hi => by
  rw [hP0]
  have := flat_le (l := X.take i) (g := (·.2)) (k := 16) (fun x hx => by have := (hP x (List.mem_of_mem_take hx)).1; omega)
  rw [List.length_take] at this
  have : (X.take i).length * 16 ≤ 48 := by rw [List.length_take]; omega
  have := flat_le (l := X.take i) (g := (·.2)) (k := 16) (fun x hx => by have := (hP x (List.mem_of_mem_take hx)).1; omega)
  omega
 have hPm : ∀ i, ∀ x ∈ P0 i, x.2.1.length = x.2.2.length ∧ PB 100 1000 x.2.2 := fun i x hx => by
  rw [hP0] at hx
  obtain ⟨y, hy, hx⟩ := List.mem_flatMap.1 hx
  exact (hP y (List.mem_of_mem_take hy)).2 x hx
 have hcl : ∀ l : List PBk, l.length ≤ 64 → (∀ x ∈ l, x.2.1.length = x.2.2.length ∧ PB 100 1000 x.2.2) → (l.flatMap coefs).length ≤ 6400 := fun l hl hm => by
  have := flat_le (l := l) (g := coefs) (k := 100) (fun x hx => by rw [coefs_len x (hm x hx).1]; exact (hm x hx).2.1)
  omega
 refine aloop_by (fun f H => ∃ (i st : Nat), i ≤ 3 ∧ f 184 = .iv (.int .i64 i) ∧ f 183 = .iv (.int .i64 3) ∧ f 182 = .hs 182 st ∧ H 182 = .blk false st 37 1 (X.map fun x => [.own x.1 23 1 (x.2.map pbrow)]) ∧ f 17 = .hp 178 1 0 0 ∧
  KH q A B C K N H ∧ f 1 = .hp 800001 1 0 0 ∧ f 3 = .hp 800003 1 0 0 ∧ f 4 = .hp 800004 1 0 0 ∧ f 5 = .hp 800005 1 0 0 ∧ f 12 = .iv (.av (KY q r.E5 r.E6) (.sl (raws (ovp A)))) ∧
  f 9 = .iv (AN r.u1 r.d1 (askN A)) ∧ f 11 = .iv (AN r.u2 r.d2 (askN A)) ∧ f 16 = .iv (AN r.u3 r.d3 (askN (ovp A))) ∧ Bk0 ((P0 i).flatMap coefs) (P0 i) H) (fun f H => (3 - intAt f 184).toNat) ?_ ?_
 ·refine ⟨0, (H 182).stamp + 1, by omega, ?_⟩
  simp (disch := omega) only [wt, seval, reduceCtorEq, Nat.reduceEqDiff, Nat.reduceBEq, List.map_cons, List.map_nil, wxF, h1, h3, h4, h5, h12, h9, h11, h16]
  rw [hP00]
  exact ⟨(hK.upd (by omega) _).upd (by omega) _, .nils, .nils, by simp (disch := omega) only [wt, seval, reduceCtorEq, Nat.reduceEqDiff, Nat.reduceBEq, List.map_cons, List.map_nil, wxF], .inl ⟨rfl, rfl⟩, .inl ⟨rfl, rfl⟩⟩
 clear hK h178n h1 h3 h4 h5 h12 h8 h9 h10 h11 h15 h16 h
 clear f
 rintro f H ⟨i, st, hi, h184, h183, h182, hH182, h17, hK, h1, h3, h4, h5, h12, h9, h11, h16, hB⟩
 rw [intAt_of h184]
 simp (disch := omega) only [wt, seval, reduceCtorEq, Nat.reduceEqDiff, Nat.reduceBEq, List.map_cons, List.map_nil, wxF, h184, h183, h182, hH182, h17]
 refine if_by (fun hlt => ?_) (fun hlt => ?_)
 ·obtain ⟨x, hx⟩ : ∃ x, X[i]? = some x := ⟨_, List.getElem?_eq_getElem (by omega)⟩
  obtain ⟨hxl, hxm⟩ := hP x (List.mem_of_getElem? hx)
  have rx := row_map (g := fun x : OB × List PBk => [IV.own x.1 23 1 (x.2.map pbrow)]) hx
  have hPs : P0 (i + 1) = P0 i ++ x.2 := by rw [hP0, hP0]; exact take_flat hx
  have hPi := hPl i hi
  have hPmi := hPm i
  simp (disch := omega) only [wt, seval, reduceCtorEq, Nat.reduceEqDiff, Nat.reduceBEq, List.map_cons, List.map_nil, wxF, h184, h183, h182, hH182, h17, rx, List.length_map, hX3, hxl]
  refine aloop_by (fun f H => ∃ (j : Nat), j ≤ 16 ∧ f 190 = .iv (.int .i64 j) ∧ f 189 = .iv (.int .i64 16) ∧ f 188 = .iv (.own x.1 23 1 (x.2.map pbrow)) ∧ f 184 = .iv (.int .i64 i) ∧ f 183 = .iv (.int .i64 3) ∧ f 182 = .hs 182 st ∧ H 182 = .blk false st 37 1 (X.map fun x => [.own x.1 23 1 (x.2.map pbrow)]) ∧ f 17 = .hp 178 1 0 0 ∧
   KH q A B C K N H ∧ f 1 = .hp 800001 1 0 0 ∧ f 3 = .hp 800003 1 0 0 ∧ f 4 = .hp 800004 1 0 0 ∧ f 5 = .hp 800005 1 0 0 ∧ f 12 = .iv (.av (KY q r.E5 r.E6) (.sl (raws (ovp A)))) ∧
   f 9 = .iv (AN r.u1 r.d1 (askN A)) ∧ f 11 = .iv (AN r.u2 r.d2 (askN A)) ∧ f 16 = .iv (AN r.u3 r.d3 (askN (ovp A))) ∧ Bk0 ((P0 i ++ x.2.take j).flatMap coefs) (P0 i ++ x.2.take j) H) (fun f H => (16 - intAt f 190).toNat) ?_ ?_
  ·refine ⟨0, by omega, ?_⟩
   simp (disch := omega) only [wt, seval, reduceCtorEq, Nat.reduceEqDiff, Nat.reduceBEq, List.map_cons, List.map_nil, wxF, h1, h3, h4, h5, h12, h9, h11, h16, h184, h183, h182, h17, hH182, rx, hxl]
   rw [List.take_zero, List.append_nil]; exact ⟨hK, hB⟩
  clear hK h1 h3 h4 h5 h12 h9 h11 h16 h184 h183 h182 hH182 h17 hB
  rintro f H ⟨j, hj, h190, h189, h188, h184, h183, h182, hH182, h17, hK, h1, h3, h4, h5, h12, h9, h11, h16, hB⟩
  rw [intAt_of h190]
  simp (disch := omega) only [wt, seval, reduceCtorEq, Nat.reduceEqDiff, Nat.reduceBEq, List.map_cons, List.map_nil, wxF, h190, h189, h188, h184, h183, h182, hH182, h17, hxl]
  refine if_by (fun hlt2 => ?_) (fun hlt2 => ?_)
  ·obtain ⟨y, hy⟩ : ∃ y, x.2[j]? = some y := ⟨_, List.getElem?_eq_getElem (by omega)⟩
   have ry := row_map (g := pbrow) hy
   have hym := hxm y (List.mem_of_getElem? hy)
   have hle : (P0 i ++ x.2.take j).length ≤ 64 := by rw [List.length_append, List.length_take]; omega
   have hco := hcl (P0 i ++ x.2.take j) hle (fun z hz => by
    rcases List.mem_append.1 hz with hz | hz
    ·exact hPmi z hz
    ·exact hxm z (List.mem_of_mem_take hz))
   have hy1 := hym.2.1
   simp (disch := omega) only [wt, seval, reduceCtorEq, Nat.reduceEqDiff, Nat.reduceBEq, List.map_cons, List.map_nil, wxF, h190, h189, h188, h184, h183, h182, hH182, h17, hxl, ry, pbrow, List.length_map]
   refine calli_by (bpoly_ok _ _ y hym.1 (by omega) (by omega) (by omega) H hB) ?_
   rintro z H2 ⟨g1, g2⟩
   simp (disch := omega) only [wt, seval, reduceCtorEq, Nat.reduceEqDiff, Nat.reduceBEq, List.map_cons, List.map_nil, wxF, h190, h189, h188, h184, h183, h182, hH182, h17, hxl, h1, h3, h4, h5, h12, h9, h11, h16]
   refine ⟨⟨j + 1, by omega, rfl, by rw [g2 182 (by omega) (by omega) (by omega) (by omega) (by omega) (by omega)]; exact hH182, ?_⟩, by omega⟩
   rw [take_one hy, ← List.append_assoc, List.flatMap_append]
   exact ⟨hK.kept g2, by simpa using g1⟩
  ·simp (disch := omega) only [wt, seval, reduceCtorEq, Nat.reduceEqDiff, Nat.reduceBEq, List.map_cons, List.map_nil, wxF, h190, h189, h188, h184, h183, h182, hH182, h17, h1, h3, h4, h5, h12, h9, h11, h16]
   obtain rfl : j = 16 := by omega
   rw [List.take_of_length_le (by omega), ← hPs] at hB
   exact ⟨⟨i + 1, st, by omega, rfl, rfl, rfl, hK, hB⟩, by omega⟩
 ·simp (disch := omega) only [wt, seval, reduceCtorEq, Nat.reduceEqDiff, Nat.reduceBEq, List.map_cons, List.map_nil, wxF, h184, h183, h182, hH182, h17, h9, h11, h16]
  obtain rfl : i = 3 := by omega
  have hP3 : P0 3 = PSall r A B K := by rw [hP0, List.take_of_length_le (by omega)]; exact hfin.1
  rw [hP3] at hB
  have hco := hcl (PSall r A B K) (by rw [← hP3]; have := hPl 3 (by omega); omega) (by rw [← hP3]; exact hPm 3)
  obtain ⟨N0, hN0⟩ : ∃ N0 : Nat → List NB, ∀ i, N0 i = (PSall r A B K).flatMap coefs ++ (Y.take i).flatMap (·.2) := ⟨_, fun _ => rfl⟩
  have hN00 : N0 0 = (PSall r A B K).flatMap coefs := by rw [hN0]; simp
  have hNl : ∀ i, i ≤ 3 → (N0 i).length ≤ 6415 := fun i hi => by
   rw [hN0, List.length_append]
   have := flat_le (l := Y.take i) (g := (·.2)) (k := 5) (fun x hx => by have := (hN x (List.mem_of_mem_take hx)).1; omega)
   have : (Y.take i).length * 5 ≤ 15 := by rw [List.length_take]; omega
   omega
  rw [hNr]
  clear hP hPl hPm hcl hH182 h182 h183 h184 hlt
  refine aloop_by (fun f H => ∃ (i st : Nat), i ≤ 3 ∧ f 204 = .iv (.int .i64 i) ∧ f 203 = .iv (.int .i64 3) ∧ f 202 = .hs 202 st ∧ H 202 = .blk false st 33 1 (Y.map fun x => [.own x.1 25 1 (x.2.map nbrow)]) ∧ f 17 = .hp 178 1 0 0 ∧
   KH q A B C K N H ∧ f 1 = .hp 800001 1 0 0 ∧ f 3 = .hp 800003 1 0 0 ∧ f 4 = .hp 800004 1 0 0 ∧ f 5 = .hp 800005 1 0 0 ∧ f 12 = .iv (.av (KY q r.E5 r.E6) (.sl (raws (ovp A)))) ∧ Bk0 (N0 i) (PSall r A B K) H) (fun f H => (3 - intAt f 204).toNat) ?_ ?_
  ·refine ⟨0, (H 202).stamp + 1, by omega, ?_⟩
   simp (disch := omega) only [wt, seval, reduceCtorEq, Nat.reduceEqDiff, Nat.reduceBEq, List.map_cons, List.map_nil, wxF, h1, h3, h4, h5, h12, h17]
   rw [hN00]
   exact ⟨hK.upd (by omega) _, hB.upd (by omega) (by omega) (by omega) _⟩
  clear hK h1 h3 h4 h5 h12 h9 h11 h16 h17 hB f H
  rintro f H ⟨i, st, hi, h204, h203, h202, hH202, h17, hK, h1, h3, h4, h5, h12, hB⟩
  rw [intAt_of h204]
  simp (disch := omega) only [wt, seval, reduceCtorEq, Nat.reduceEqDiff, Nat.reduceBEq, List.map_cons, List.map_nil, wxF, h204, h203, h202, hH202, h17]
  refine if_by (fun hlt => ?_) (fun hlt => ?_)
  ·obtain ⟨x, hx⟩ : ∃ x, Y[i]? = some x := ⟨_, List.getElem?_eq_getElem (by omega)⟩
   obtain ⟨hxl, hxm⟩ := hN x (List.mem_of_getElem? hx)
   have rx := row_map (g := fun x : OB × List NB => [IV.own x.1 25 1 (x.2.map nbrow)]) hx
   have hNs : N0 (i + 1) = N0 i ++ x.2 := by rw [hN0, hN0, List.append_assoc]; congr 1; exact take_flat hx
   have hNi := hNl i hi
   simp (disch := omega) only [wt, seval, reduceCtorEq, Nat.reduceEqDiff, Nat.reduceBEq, List.map_cons, List.map_nil, wxF, h204, h203, h202, hH202, h17, rx, List.length_map, hY3, hxl]
   refine aloop_by (fun f H => ∃ (j : Nat), j ≤ 5 ∧ f 210 = .iv (.int .i64 j) ∧ f 209 = .iv (.int .i64 5) ∧ f 208 = .iv (.own x.1 25 1 (x.2.map nbrow)) ∧ f 204 = .iv (.int .i64 i) ∧ f 203 = .iv (.int .i64 3) ∧ f 202 = .hs 202 st ∧ H 202 = .blk false st 33 1 (Y.map fun x => [.own x.1 25 1 (x.2.map nbrow)]) ∧ f 17 = .hp 178 1 0 0 ∧
    KH q A B C K N H ∧ f 1 = .hp 800001 1 0 0 ∧ f 3 = .hp 800003 1 0 0 ∧ f 4 = .hp 800004 1 0 0 ∧ f 5 = .hp 800005 1 0 0 ∧ f 12 = .iv (.av (KY q r.E5 r.E6) (.sl (raws (ovp A)))) ∧ Bk0 (N0 i ++ x.2.take j) (PSall r A B K) H) (fun f H => (5 - intAt f 210).toNat) ?_ ?_
   ·refine ⟨0, by omega, ?_⟩
    simp (disch := omega) only [wt, seval, reduceCtorEq, Nat.reduceEqDiff, Nat.reduceBEq, List.map_cons, List.map_nil, wxF, h1, h3, h4, h5, h12, h204, h203, h202, h17, hH202, rx, hxl]
    rw [List.take_zero, List.append_nil]; exact ⟨hK, hB⟩
   clear hK h1 h3 h4 h5 h12 h204 h203 h202 hH202 h17 hB
   rintro f H ⟨j, hj, h210, h209, h208, h204, h203, h202, hH202, h17, hK, h1, h3, h4, h5, h12, hB⟩
   rw [intAt_of h210]
   simp (disch := omega) only [wt, seval, reduceCtorEq, Nat.reduceEqDiff, Nat.reduceBEq, List.map_cons, List.map_nil, wxF, h210, h209, h208, h204, h203, h202, hH202, h17, hxl]
   refine if_by (fun hlt2 => ?_) (fun hlt2 => ?_)
   ·obtain ⟨y, hy⟩ : ∃ y, x.2[j]? = some y := ⟨_, List.getElem?_eq_getElem (by omega)⟩
    have ry := row_map (g := nbrow) hy
    have hle : (N0 i ++ x.2.take j).length ≤ 6500 := by rw [List.length_append, List.length_take]; omega
    simp (disch := omega) only [wt, seval, reduceCtorEq, Nat.reduceEqDiff, Nat.reduceBEq, List.map_cons, List.map_nil, wxF, h210, h209, h208, h204, h203, h202, hH202, h17, hxl, ry, nbrow, List.length_map]
    refine calli_by (bnat_ok _ _ y.1 y.2 (by omega) H hB) ?_
    rintro z H2 ⟨g1, g2⟩
    simp (disch := omega) only [wt, seval, reduceCtorEq, Nat.reduceEqDiff, Nat.reduceBEq, List.map_cons, List.map_nil, wxF, h210, h209, h208, h204, h203, h202, hH202, h17, hxl, h1, h3, h4, h5, h12]
    refine ⟨⟨j + 1, by omega, rfl, by rw [g2 202 (by omega) (by omega) (by omega) (by omega) (by omega) (by omega)]; exact hH202, ?_⟩, by omega⟩
    rw [take_one hy, ← List.append_assoc]
    exact ⟨hK.kept g2, g1⟩
   ·simp (disch := omega) only [wt, seval, reduceCtorEq, Nat.reduceEqDiff, Nat.reduceBEq, List.map_cons, List.map_nil, wxF, h210, h209, h208, h204, h203, h202, hH202, h17, h1, h3, h4, h5, h12]
    obtain rfl : j = 5 := by omega
    rw [List.take_of_length_le (by omega), ← hNs] at hB
    exact ⟨⟨i + 1, st, by omega, rfl, rfl, rfl, hK, hB⟩, by omega⟩
  ·simp (disch := omega) only [wt, seval, reduceCtorEq, Nat.reduceEqDiff, Nat.reduceBEq, List.map_cons, List.map_nil, wxF, h204, h203, h202, hH202, h17]
   obtain rfl : i = 3 := by omega
   have hN3 : N0 3 = NSall r A B K := by rw [hN0, List.take_of_length_le (by omega), ← hfin.2, hfin.1]
   rw [hN3] at hB
   exact ⟨ra, rb, rk, hq, hr, ⟨by simp (disch := omega) only [wt, seval, reduceCtorEq, Nat.reduceEqDiff, Nat.reduceBEq, List.map_cons, List.map_nil, wxF, h1], by simp (disch := omega) only [wt, seval, reduceCtorEq, Nat.reduceEqDiff, Nat.reduceBEq, List.map_cons, List.map_nil, wxF, h3], by simp (disch := omega) only [wt, seval, reduceCtorEq, Nat.reduceEqDiff, Nat.reduceBEq, List.map_cons, List.map_nil, wxF, h4], by simp (disch := omega) only [wt, seval, reduceCtorEq, Nat.reduceEqDiff, Nat.reduceBEq, List.map_cons, List.map_nil, wxF, h5], by simp (disch := omega) only [wt, seval, reduceCtorEq, Nat.reduceEqDiff, Nat.reduceBEq, List.map_cons, List.map_nil, wxF, h12]⟩, hK, by simp (disch := omega) only [wt, seval, reduceCtorEq, Nat.reduceEqDiff, Nat.reduceBEq, List.map_cons, List.map_nil, wxF, h17], hB⟩
end Go.Proofs.YtdokaihemcnkmaaGreat
