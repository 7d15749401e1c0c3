/-
 Contracts of the functions that the law reaches.
-/
import Derived.Test.YtfmpegbdeppjbaaGreatL117M
import Derived.Test.YtfmpegbdeppjbaaGreatL298M
import Derived.Test.YtfmpegbdeppjbaaGreatAbsYM
import Derived.Test.YtfmpegbdeppjbaaGreatL104M
set_option maxHeartbeats 2000000
namespace Go.Proofs.YtfmpegbdeppjbaaGreat
open Go Go.Proofs Go.AL
set_option linter.unusedSimpArgs false
set_option linter.unusedVariables false
set_option linter.defProp false
def marks : List Nat := [60928, 60929, 60930, 60931, 60932, 60933]
theorem lims_snoc1 (l : List Nat) (x : Nat) : lims l ++ [[.int .u64 (x : Int)]] = lims (l ++ [x]) := by simp [lims]
theorem marks_take {i : Nat} (h : i < 6) : marks.take (i + 1) = marks.take i ++ [60928 + i] := by
 match i, h with
 | 0, _ | 1, _ | 2, _ | 3, _ | 4, _ | 5, _ => rfl
theorem limbsx_ok (l : List Nat) (hl : l.length ≤ 2 ^ 40) : ACX Tryz.prog 110 [cl l] (RNat (l ++ marks)) := by
 refine ACX.by_walk zi0 (rs := [.tmp 2]) ords Tryz.func110 (by rfl) (by rfl) (by rfl) (by rfl) (by rfl) (ne_nat _) (fun B => ?_)
 simp (disch := omega) only [wt, seval]
 refine aloop_by (fun f H => ∃ (i st : Nat), i ≤ 6 ∧ f 4 = .iv (.int .i64 i) ∧ f 3 = .hs 5 st ∧ H 5 = .blk false st 134 1 (lims (l ++ marks.take i)) ∧ H 999 = .mrk B) (fun f H => (6 - intAt f 4).toNat) ?_ ?_
 ·refine ⟨0, 2, by omega, ?_⟩
  simp only [wt, seval, List.take_zero]
 rintro f H ⟨i, st, hi, hF⟩
 rw [intAt_of hF.1]
 simp (disch := omega) only [wt, seval, hF]
 refine if_by (fun hlt => ?_) (fun hlt => ?_)
 ·have e : IntKind.u64.wrap (60928 + (i : Int)) = ((60928 + i : Nat) : Int) := by rw [wrap_u64 (by omega)]; omega
  simp (disch := omega) only [wt, seval, hF, e]
  have e3 : lims (l ++ marks.take i) ++ [[.int .u64 (((60928 + i : Nat)) : Int)]] = lims (l ++ marks.take (i + 1)) := by rw [lims_snoc1, marks_take (by omega), List.append_assoc]
  have e4 : (marks.take i).length ≤ 6 := by rw [List.length_take]; simp [marks]; omega
  simp (disch := omega) only [wt, seval, hF]
  exact ⟨⟨i + 1, st + 1, by omega, rfl, rfl, by rw [marks_take (by omega), List.append_assoc]⟩, by omega⟩
 ·simp (disch := omega) only [wt, seval, hF]
  have e : marks.take i = marks := List.take_of_length_le (by simp [marks]; omega)
  obtain ⟨h4, h3, hH, h9⟩ := hF
  rw [e] at hH
  refine opn_by 2 5 _ 134 1 ((lims (l ++ marks))) (by first | rfl | assumption | simp only [wt, seval, lay_own, spl_own, fld_int1]) (by first | rfl | assumption | simp only [wt, seval, lay_own, spl_own, fld_int1]) (by assumption) ?_
  rintro b E hE hb
  refine opn_done [.iv (fnat b (l ++ marks))] (by rfl) (by simp (disch := omega) only [wt, seval]) ?_
  intro E hE
  exact ⟨b, rfl, Nw.oid fun g cap e => by have := hb.2 g cap e; omega⟩
@[reducible] def zR : Zi := ⟨some (134, 1), (· == 3), (· == 53), .no⟩
theorem zstR : @Zi.st zR = .no := rfl
theorem zbxR (e : Nat) : @Zi.bx zR e = (e == 3) := rfl
theorem zbsR (e : Nat) : @Zi.bs zR e = (e == 53) := rfl
theorem zslR : @zsl zR = .own none 134 1 [] := rfl
def gint (b : OB) (c : RI) : List IV := [.bool c.1, fnat b c.2]
def gws (bs : List OB) (p : List RI) : List (List IV) := List.zipWith gint bs p
def iws (bs : List OB) (p : List RI) : List (List IV) := List.zipWith (fun b c => [fnat b (c.2 ++ marks)]) bs p
def spares : List RI := [(true, [70]), (true, [71]), (true, [72]), (true, [73]), (true, [74]), (true, [75])]
def RRoom (p : List RI) (B E : Nat) (res : List CV) : Prop := ∃ bo bi bs cs,
 res = [.agg [.own bo 30 2 (gws bs p), .own bo 30 2 (gws (bs ++ cs) (p ++ spares)), .own bi (if p = [] then 0 else 28) (if p = [] then 0 else 1) (iws bs p)]] ∧ bs.length = p.length ∧ cs.length = 6 ∧ Nw B E (oid bo ++ oid bi ++ ids bs ++ ids cs)
theorem gws_len {bs : List OB} {p : List RI} (h : bs.length = p.length) : (gws bs p).length = p.length := by simp [gws, h]
theorem iws_len {bs : List OB} {p : List RI} (h : bs.length = p.length) : (iws bs p).length = p.length := by simp [iws, h]
theorem gws_snoc {bs : List OB} {p : List RI} (h : bs.length = p.length) (b : OB) (c : RI) : gws bs p ++ [gint b c] = gws (bs ++ [b]) (p ++ [c]) := by
 rw [gws, gws, List.zipWith_append h]; rfl
theorem iws_snoc {bs : List OB} {p : List RI} (h : bs.length = p.length) (b : OB) (c : RI) : iws bs p ++ [[fnat b (c.2 ++ marks)]] = iws (bs ++ [b]) (p ++ [c]) := by
 rw [iws, iws, List.zipWith_append h]; rfl
theorem gws_two (bs : List OB) (p : List RI) : (∀ r ∈ gws bs p, r.length = 2) ↔ True := ⟨fun _ => trivial, fun _ r hr => by
 obtain ⟨i, hi⟩ := List.getElem?_of_mem hr
 rw [gws, List.getElem?_zipWith] at hi
 split at hi
 ·injection hi with hi; rw [← hi]; rfl
 ·cases hi⟩
theorem iws_one (bs : List OB) (p : List RI) : (∀ r ∈ iws bs p, r.length = 1) ↔ True := ⟨fun _ => trivial, fun _ r hr => by
 obtain ⟨i, hi⟩ := List.getElem?_of_mem hr
 rw [iws, List.getElem?_zipWith] at hi
 split at hi
 ·injection hi with hi; rw [← hi]; rfl
 ·cases hi⟩
theorem ne_room (p : List RI) (B : Nat) : ∃ E res, B ≤ E ∧ RRoom p B E res := ⟨B, _, Nat.le_refl _, none, none, List.replicate p.length none, List.replicate 6 none, rfl, by simp, by simp, by rw [ids_nones, ids_nones]; exact .nil _ _⟩
theorem lay_gint (x y : IV) (a : Bool) (o : OB) (e sz : Nat) (l : List (List IV)) : lay (fun i => [(0, 1), (1, 1)][i]?) [x, y] ([0, 1].zip [[.bool a], [.own o e sz l]]) = some (True, [.bool a, .own o e sz l]) := by
 simp [lay, splice]
theorem take_getD (p : List RI) {i : Nat} (h : i < p.length) : p.take (i + 1) = p.take i ++ [p.getD i (false, [])] := by
 rw [List.take_add_one, List.getElem?_eq_getElem h, List.getD_eq_getElem?_getD, List.getElem?_eq_getElem h]; rfl
theorem spares_take {j : Nat} (h : j < 6) : spares.take (j + 1) = spares.take j ++ [(true, [70 + j])] := by
 match j, h with
 | 0, _ | 1, _ | 2, _ | 3, _ | 4, _ | 5, _ => rfl
theorem spares_all : spares.take 6 = spares := rfl
theorem gws_take {bs : List OB} {p : List RI} (h : bs.length = p.length) (cs : List OB) (q : List RI) : (gws (bs ++ cs) (p ++ q)).take p.length = gws bs p := by
 rw [gws, gws, List.zipWith_append h, List.take_left' (by simp [h])]
theorem ids_gws {bs : List OB} : ∀ {p : List RI}, bs.length = p.length → idsRows (gws bs p) = ids bs := by
 induction bs with
 | nil => intro p h; simp [gws, ids, idsRows]
 | cons b bs ih =>
  intro p h
  cases p with
  | nil => simp at h
  | cons n q =>
   have := ih (p := q) (by simpa using h)
   simp only [gws, ids, gint, List.zipWith_cons_cons, idsRows, List.flatMap_cons, idsRow, IV.ids, List.nil_append, List.append_nil, ids_lims] at this ⊢
   rw [this]
   cases b <;> rfl
theorem ids_own (b : OB) (e sz : Nat) (rows : List (List IV)) : (IV.own b e sz rows).ids = oid b ++ idsRows rows := by
 cases b <;> simp [IV.ids, oid]
theorem Nw.perm' {B E : Nat} {l m : List Nat} (h : Nw B E l) (p : l.Perm m) : Nw B E m := ⟨p.nodup_iff.1 h.1, fun g hg => h.2 g (p.mem_iff.2 hg)⟩
theorem nw_put {B E E' : Nat} {b : OB} {l : List Nat} (hE : E ≤ E') (h : ∀ g cap, b = some (g, cap) → B ≤ g ∧ g < E' ∧ g ∉ l) (hl : Nw B E l) : Nw B E' (oid b ++ l) := by
 cases b with
 | none => exact hl.mono (Nat.le_refl _) hE
 | some g =>
  have := h g.1 g.2 rfl
  exact (hl.mono (Nat.le_refl _) hE).cons this.2.2 this.1 this.2.1
theorem take_app1 (l m : List Nat) : (l ++ m).take l.length = l := by simp
def wxR := And.intro @zstR (And.intro @zbxR (And.intro @zbsR (And.intro @zslR (And.intro @lay_own (And.intro @spl_own (And.intro @fld_int1 (And.intro @lay_gint (And.intro @take_app1 (And.intro @gws_two (@iws_one))))))))))
set_option maxRecDepth 4000 in
theorem room_ok (p : List RI) (h : RP 1000 (2 ^ 40) p) : ACX Tryz.prog 42 [cw p] (RRoom p) := by
 refine ACX.by_walko zR 4 (rs := [.cell 2 79]) ords Tryz.func42 (by rfl) (by rfl) (by rfl) (by rfl) (by rfl) (ne_room _) (fun B => ?_)
 have hl := h.1
 simp (disch := omega) only [wt, seval, Nat.reduceBEq, wxR]
 refine aloop_by (fun f H => ∃ (i E : Nat), i ≤ p.length ∧ B ≤ E ∧ f 4 = .iv (.int .i64 i) ∧ f 0 = .iv (.sl (raws p)) ∧ f 3 = .hp 3 1 0 0 ∧ f 2 = .hp 2 1 0 0 ∧ H 2 = .blk false 1 79 3 [[.own none 134 1 [], .own none 134 1 [], .own none 134 1 []]] ∧ H 999 = .mrk E ∧
  ((i = 0 ∧ H 3 = .nst 1 79 [.nils, .nils, .nils]) ∨ (0 < i ∧ ∃ (s1 s2 : Nat) (bs : List OB), bs.length = i ∧ Nw B E (ids bs) ∧ H 3 = .nst 1 79 [.nils, .hs 42 s1, .hs 23 s2] ∧ H 42 = .blk false s1 30 2 (gws bs (p.take i)) ∧ H 23 = .blk false s2 28 1 (iws bs (p.take i))))) (fun f H => (p.length - intAt f 4).toNat) ?_ ?_
 ·refine ⟨0, B, by omega, Nat.le_refl _, ?_⟩
  simp only [wt, seval, List.take_zero]
  exact .inl trivial
 rintro f H ⟨i, E, hi, hBE, hF⟩
 rw [intAt_of hF.1]
 obtain ⟨h4, h0, h3, h2, hH2, h9, hF⟩ := hF
 simp (disch := omega) only [wt, seval, wxR, h4, h0]
 refine if_by (fun hlt => ?_) (fun hlt => ?_)
 ·simp (disch := omega) only [wt, seval, wxR, h4, h0]
  refine callx_by ((limbsx_ok (p.getD i (false, [])).2 (h.get i).1)) (by rfl) (by simp) (by assumption) ?_
  rintro B' E' _ hB hE ⟨b, rfl, hb⟩
  simp (disch := omega) only [wt, seval, wxR, h3]
  rcases hF with ⟨hi0, hH3⟩ | ⟨hi0, s1, s2, bs, hbl, hnw, hH3, hH42, hH23⟩
  ·subst hi0
   simp (disch := omega) only [wt, seval, List.set_cons_succ, Nat.reduceBEq, wxR, h4, h0, h3, h2, hH2, hH3]
   refine .inl ⟨tmps_by (by kernel_rfl), ?_⟩
   refine ⟨log_by (by kernel_rfl), ?_⟩
   refine ⟨⟨1, E', by omega, by omega, rfl, rfl, .inr ⟨by omega, _, _, [b], rfl, ?_, rfl, ?_, ?_⟩⟩, by omega⟩
   ·rw [show ids [b] = oid b by simp [ids]]; exact hb.mono (by omega) (Nat.le_refl _)
   ·rw [take_getD p (by omega)]; rfl
   ·rw [take_getD p (by omega)]; rfl
  ·have tl : (p.take i).length = i := by rw [List.length_take]; omega
   have gl : (gws bs (p.take i)).length = i := by rw [gws_len (by omega), tl]
   have il : (iws bs (p.take i)).length = i := by rw [iws_len (by omega), tl]
   simp (disch := omega) only [wt, seval, List.set_cons_succ, Nat.reduceBEq, wxR, h4, h0, h3, h2, hH2, hH3, hH42, hH23, gl, il]
   refine .inl ⟨tmps_by (by kernel_rfl), ?_⟩
   refine ⟨log_by (by kernel_rfl), ?_⟩
   refine ⟨⟨i + 1, E', by omega, by omega, rfl, rfl, .inr ⟨by omega, _, _, bs ++ [b], by simp [hbl], ?_, rfl, ?_, ?_⟩⟩, by omega⟩
   ·rw [ids_snoc]; exact hnw.append hb (by omega) hB (by omega)
   ·rw [take_getD p (by omega), ← gws_snoc (by omega)]; rfl
   ·rw [take_getD p (by omega), ← iws_snoc (by omega)]
 ·simp (disch := omega) only [wt, seval]
  rcases hF with ⟨hi0, hH3⟩ | ⟨hi0, s1, s2, bs, hbl, hnw, hH3, hH42, hH23⟩
  ·have hp : p = [] := by rw [← List.length_eq_zero_iff]; omega
   subst hp
   refine aloop_by (fun f H => ∃ (j E2 : Nat), j ≤ 6 ∧ E ≤ E2 ∧ f 6 = .iv (.int .i64 j) ∧ f 0 = .iv (.sl (raws [])) ∧ f 3 = .hp 3 1 0 0 ∧ f 2 = .hp 2 1 0 0 ∧ H 2 = .blk false 1 79 3 [[.own none 134 1 [], .own none 134 1 [], .own none 134 1 []]] ∧ H 999 = .mrk E2 ∧
    ((j = 0 ∧ H 3 = .nst 1 79 [.nils, .nils, .nils]) ∨ ∃ (st : Nat) (cs : List OB), 0 < j ∧ cs.length = j ∧ Nw E E2 (ids cs) ∧ H 3 = .nst 1 79 [.nils, .hs 56 st, .nils] ∧ H 56 = .blk false st 30 2 (gws cs (spares.take j)))) (fun f H => (6 - intAt f 6).toNat) ?_ ?_
   ·refine ⟨0, E, by omega, Nat.le_refl _, ?_⟩
    simp only [wt, seval, List.take_zero, h0, h3, h2, hH2, h9, hH3]
    exact .inl trivial
   clear h4 h0 h3 h2 hH2 h9 hH3
   rintro f H ⟨j, E2, hj, hE2, h6, h0, h3, h2, hH2, h9, hF⟩
   rw [intAt_of h6]
   simp (disch := omega) only [wt, seval, wxR, h6]
   refine if_by (fun hlt => ?_) (fun hlt => ?_)
   ·have e : IntKind.u64.wrap (70 + (j : Int)) = ((70 + j : Nat) : Int) := by rw [wrap_u64 (by omega)]; omega
    rcases hF with ⟨hj0, hH3⟩ | ⟨st, cs, hj0, hcl, hcn, hH3, hH56⟩
    ·subst hj0
     simp (disch := omega) only [wt, seval, Nat.reduceBEq, wxR, h6, h3, hH3]
     refine buildx_by (e := 134) (by rfl) (by rfl) (by simp only [tis]; exact ⟨⟨trivial, trivial⟩, trivial, trivial, by decide, by simp, rfl⟩) h9 ?_
     intro B' E' b hB hE hbn hb
     simp (disch := omega) only [wt, seval, List.set_cons_succ, Nat.reduceBEq, wxR, h6, h0, h3, h2, hH2, hH3]
     refine ⟨1, E', by omega, by omega, rfl, rfl, .inr ⟨_, [b], by omega, rfl, ?_, rfl, rfl⟩⟩
     rw [show ids [b] = oid b by simp [ids]]; exact Nw.oid fun g cap e => by have := hb g cap e; omega
    ·have tl : (spares.take j).length = j := by rw [List.length_take]; simp [spares]; omega
     have gl : (gws cs (spares.take j)).length = j := by rw [gws_len (by omega), tl]
     simp (disch := omega) only [wt, seval, Nat.reduceBEq, wxR, h6, h3, hH3, e]
     refine buildx_by (e := 134) (by rfl) (by rfl) (by simp only [tis]; exact ⟨⟨trivial, trivial⟩, trivial, trivial, by decide, by simp, rfl⟩) h9 ?_
     intro B' E' b hB hE hbn hb
     simp (disch := omega) only [wt, seval, List.set_cons_succ, Nat.reduceBEq, wxR, h6, h0, h3, h2, hH2, hH3, hH56, gl]
     refine ⟨⟨j + 1, E', by omega, by omega, rfl, rfl, .inr ⟨st + 1, cs ++ [b], by omega, by simp [hcl], ?_, rfl, ?_⟩⟩, by omega⟩
     ·rw [ids_snoc]; exact hcn.append (Nw.oid fun g cap e => by have := hb g cap e; omega) (by omega) hB (by omega)
     ·rw [spares_take (by omega), ← gws_snoc (by omega)]; rfl
   ·simp (disch := omega) only [wt, seval]
    obtain rfl : j = 6 := by omega
    rcases hF with ⟨hj0, hH3⟩ | ⟨st, cs, hj0, hcl, hcn, hH3, hH56⟩
    ·omega
    rw [spares_all] at hH56
    have gl : (gws cs spares).length = 6 := by rw [gws_len (by simp [hcl, spares])]; simp [spares]
    refine Opn.row 3 1 79 1 56 st 30 2 _ _ E2 hH3 (by rfl) hH56 h9 ?_
    intro bo E3 hE3 hbo hbr
    refine Opn.done ?_
    simp (disch := omega) only [wt, seval, List.take_succ_cons, List.take_zero, List.set_cons_succ, wxR, h0, h3, h2, hH2, gl]
    refine opn_done (B := E3) [.agg [.own bo 30 2 (gws [] []), .own bo 30 2 (gws ([] ++ cs) ([] ++ spares)), .own none 0 0 []]] (by rfl) (by simp (disch := omega) only [wt, seval, wxR, h2]; rfl) ?_
    intro E hE
    refine ⟨bo, none, [], cs, rfl, rfl, hcl, ?_⟩
    have n2 : Nw B E3 (oid bo ++ ids cs) := nw_put hE3 (fun g cap e => by
     have := hbo.2 g cap e; rw [ids_gws (by simp [hcl, spares])] at this; exact ⟨this.1, this.2.1, this.2.2.1⟩) (hcn.mono hBE (Nat.le_refl _))
    refine (n2.mono (Nat.le_refl _) hE).perm' ?_
    simp [ids, oid]
  ·obtain rfl : i = p.length := by omega
   rw [List.take_length] at hH42 hH23
   refine aloop_by (fun f H => ∃ (j st E2 : Nat) (cs : List OB), j ≤ 6 ∧ cs.length = j ∧ E ≤ E2 ∧ Nw E E2 (ids cs) ∧ f 6 = .iv (.int .i64 j) ∧ f 0 = .iv (.sl (raws p)) ∧ f 3 = .hp 3 1 0 0 ∧ f 2 = .hp 2 1 0 0 ∧ H 2 = .blk false 1 79 3 [[.own none 134 1 [], .own none 134 1 [], .own none 134 1 []]] ∧ H 999 = .mrk E2 ∧
    H 3 = .nst 1 79 [.nils, .hs 42 st, .hs 23 s2] ∧ H 42 = .blk false st 30 2 (gws (bs ++ cs) (p ++ spares.take j)) ∧ H 23 = .blk false s2 28 1 (iws bs p)) (fun f H => (6 - intAt f 6).toNat) ?_ ?_
   ·refine ⟨0, s1, E, [], by omega, rfl, Nat.le_refl _, .nil _ _, ?_⟩
    simp only [wt, seval, List.take_zero, h0, h3, h2, hH2, h9, hH3, hH42, hH23, List.take_zero]
   clear h4 h0 h3 h2 hH2 h9 hH3 hH42 hH23
   rintro f H ⟨j, st, E2, cs, hj, hcl, hE2, hcn, h6, h0, h3, h2, hH2, h9, hH3, hH42, hH23⟩
   rw [intAt_of h6]
   simp (disch := omega) only [wt, seval, wxR, h6]
   refine if_by (fun hlt => ?_) (fun hlt => ?_)
   ·have e : IntKind.u64.wrap (70 + (j : Int)) = ((70 + j : Nat) : Int) := by rw [wrap_u64 (by omega)]; omega
    simp (disch := omega) only [wt, seval, Nat.reduceBEq, wxR, h6, h3, hH3, e]
    have tl : (p ++ spares.take j).length = p.length + j := by rw [List.length_append, List.length_take]; simp [spares]; omega
    have gl : (gws (bs ++ cs) (p ++ spares.take j)).length = p.length + j := by rw [gws_len (by rw [tl, List.length_append]; omega), tl]
    refine buildx_by (e := 134) (by rfl) (by rfl) (by simp only [tis]; exact ⟨⟨trivial, trivial⟩, trivial, trivial, by decide, by simp, rfl⟩) h9 ?_
    intro B' E' b hB hE hbn hb
    simp (disch := omega) only [wt, seval, List.set_cons_succ, Nat.reduceBEq, wxR, h6, h0, h3, h2, hH2, hH3, hH42, hH23, gl]
    refine ⟨⟨j + 1, st + 1, E', cs ++ [b], by omega, by simp [hcl], by omega, ?_, rfl, rfl, rfl, ?_⟩, by omega⟩
    ·rw [ids_snoc]; exact hcn.append (Nw.oid fun g cap e => by have := hb g cap e; omega) (by omega) hB (by omega)
    ·rw [spares_take (by omega), ← List.append_assoc, ← List.append_assoc, ← gws_snoc (by rw [tl, List.length_append]; omega)]; rfl
   ·simp (disch := omega) only [wt, seval]
    obtain rfl : j = 6 := by omega
    rw [spares_all] at hH42
    have gl : (gws (bs ++ cs) (p ++ spares)).length = p.length + 6 := by rw [gws_len (by simp [hbl, hcl, spares])]; simp [spares]
    refine Opn.row 3 1 79 1 42 st 30 2 _ _ E2 hH3 (by rfl) hH42 h9 ?_
    intro bo E3 hE3 hbo hbr
    refine Opn.row 3 1 79 2 23 s2 28 1 _ (iws bs p) E3 (by rfl) (by rfl) (by simp only [wt, seval, List.set_cons_succ, hH23]) (by rfl) ?_
    intro bi E4 hE4 hbi hbr2
    refine Opn.done ?_
    have gt := gws_take hbl cs spares
    simp (disch := omega) only [wt, seval, List.take_succ_cons, List.take_zero, List.set_cons_succ, wxR, h0, h3, h2, hH2, gl, gt]
    refine opn_done (B := E4) [.agg [.own bo 30 2 (gws bs p), .own bo 30 2 (gws (bs ++ cs) (p ++ spares)), .own bi (if p = [] then 0 else 28) (if p = [] then 0 else 1) (iws bs p)]] (by rfl) (by rw [if_neg (by intro h; subst h; simp at hi0), if_neg (by intro h; subst h; simp at hi0)]; simp (disch := omega) only [wt, seval, wxR, h2]; rfl) ?_
    intro E hE
    refine ⟨bo, bi, bs, cs, rfl, hbl, hcl, ?_⟩
    have n1 : Nw B E2 (ids (bs ++ cs)) := by rw [ids_app]; exact hnw.append hcn (by omega) (Nat.le_refl _) hE2
    have n2 : Nw B E3 (oid bo ++ ids (bs ++ cs)) := nw_put hE3 (fun g cap e => by
     have := hbo.2 g cap e; rw [ids_gws (by simp [hbl, hcl, spares])] at this; exact ⟨this.1, this.2.1, this.2.2.1⟩) n1
    have n3 : Nw B E4 (oid bi ++ (oid bo ++ ids (bs ++ cs))) := nw_put hE4 (fun g cap e => by
     have h1 := hbi.2 g cap e
     have h2 := hbr2 g cap e (.own bo 30 2 (gws (bs ++ cs) (p ++ spares))) (by simp)
     rw [ids_own, ids_gws (by simp [hbl, hcl, spares])] at h2
     exact ⟨h1.1, h1.2.1, h2⟩) n2
    refine (n3.mono (Nat.le_refl _) hE).perm' ?_
    rw [ids_app, List.append_assoc, List.append_assoc, ← List.append_assoc, ← List.append_assoc (oid bo)]
    exact List.Perm.append_right _ List.perm_append_comm
set_option linter.defProp false
def capN (k : Nat) : Nat := if k < 1000 then k else 1000
def capL (lg : Log) : Log := lg.map fun p => (p.1.map capN, p.2.map capN)
theorem capL_nil : capL [] = [] := rfl
theorem capL_cons (x y : List Nat) (lg : Log) : capL ((x, y) :: lg) = (x.map capN, y.map capN) :: capL lg := rfl
theorem capN_lt {k : Nat} (h : k < 1000) : capN k = k := if_pos h
theorem capN_ge {k : Nat} (h : 1000 ≤ k) : capN k = 1000 := if_neg (by omega)
theorem clash_cap {x y : List Nat × List Nat} (h : clash (x.1.map capN, x.2.map capN) (y.1.map capN, y.2.map capN) = false) : clash x y = false := by
 have key : ∀ (a b c : List Nat), ((a.map capN).any fun k => (b.map capN).contains k || (c.map capN).contains k) = false → (a.any fun k => b.contains k || c.contains k) = false := fun a b c h => by
  rw [List.any_eq_false] at h ⊢
  intro k hk hc
  have := h (capN k) (List.mem_map.2 ⟨k, hk, rfl⟩)
  simp only [Bool.or_eq_true, List.contains_iff_mem] at hc this
  exact this (hc.elim (fun h => .inl (List.mem_map.2 ⟨k, h, rfl⟩)) fun h => .inr (List.mem_map.2 ⟨k, h, rfl⟩))
 simp only [clash, Bool.or_eq_false_iff] at h ⊢
 exact ⟨key _ _ _ h.1, key _ _ _ h.2⟩
theorem cap_contains (l : List Nat) {m : Nat} (h : m < 1000) : (l.map capN).contains m = l.contains m := by
 rw [Bool.eq_iff_iff, List.contains_iff_mem, List.contains_iff_mem, List.mem_map]
 constructor
 ·rintro ⟨k, hk, e⟩
  unfold capN at e
  split at e
  ·subst e; exact hk
  ·omega
 ·intro hm
  exact ⟨m, hm, capN_lt h⟩
theorem logN_by {ops : Array Oper} {lg lg' : Log} (e : capL lg = lg') (h : logOk ops lg'.reverse = true) : LogOk ops lg := by
 subst e
 unfold LogOk
 unfold logOk pairsOk at h ⊢
 have hg : ∀ i, ((capL lg).reverse).getD i ([], []) = (((lg.reverse).getD i ([], [])).1.map capN, ((lg.reverse).getD i ([], [])).2.map capN) := fun i => by
  rw [capL, ← List.map_reverse, List.getD, List.getD, List.getElem?_map]
  cases lg.reverse[i]? <;> rfl
 simp only [Bool.and_eq_true] at h ⊢
 obtain ⟨⟨h1, h2⟩, h3⟩ := h
 refine ⟨⟨?_, ?_⟩, ?_⟩
 ·rw [List.all_eq_true] at h1 ⊢
  intro j hj
  have h := h1 j hj
  rw [List.all_eq_true] at h ⊢
  intro i hi
  have h := h i hi
  simp only [Bool.or_eq_true] at h ⊢
  refine h.elim (fun h => .inl ?_) .inr
  rw [hg, hg] at h
  rw [Bool.not_eq_true'] at h ⊢
  exact clash_cap h
 ·rw [List.all_eq_true] at h2 ⊢
  intro j hj
  have h := h2 j hj
  rw [List.all_eq_true] at h ⊢
  intro i hi
  have h := h i hi
  simp only [Bool.or_eq_true] at h ⊢
  refine h.elim (fun h => .inl ?_) .inr
  rw [hg] at h
  rwa [cap_contains _ (by omega)] at h
 ·rw [List.all_eq_true] at h3 ⊢
  intro e he
  have := h3 (e.1.map capN, e.2.map capN) (by rw [capL, ← List.map_reverse]; exact List.mem_map.2 ⟨e, he, rfl⟩)
  rwa [cap_contains _ (by omega)] at this
def hws (k n : Nat) : List AV := (List.range n).map fun i => .hw (k + i) 1
theorem hws_len (k n : Nat) : (hws k n).length = n := by simp [hws]
theorem hws_get (k n i : Nat) (x : AV) (h : i < n) : (hws k n).getD i x = .hw (k + i) 1 := by simp [hws, List.getD, h]
theorem lay_neg (c : RI) (b : Bool) : lay (fun i => [(0, 1), (1, 1)][i]?) (prow c) ([0].zip [[.bool b]]) = some (True, prow (b, c.2)) := by
 simp [lay, splice, prow]
theorem ite_far {α : Type} {a b : Nat} (h : a ≠ b) (x y : α) : (if a = b then x else y) = y := if_neg h
abbrev Rws := List (List IV)
def wxB := And.intro @lay_neg (And.intro @ite_far (And.intro @lay_own (And.intro @spl_own (And.intro @fld_int1 (And.intro @hws_get (@hws_len))))))
def Bk (ns ps : List Rws) (H : AL.Hp) : Prop :=
 H 900000 = .nst 1 88 [.hs 900002 1, .hs 900001 1, .nils, .nils, .nils, .nils] ∧ H 900002 = .nst 1 28 (hws 1000000 ns.length) ∧ H 900001 = .nst 1 50 (hws 2000000 ps.length) ∧
 (∀ i q, ns[i]? = some q → H (1000000 + i) = .blk false 1 134 1 q) ∧ ∀ i q, ps[i]? = some q → H (2000000 + i) = .blk false 1 30 2 q
def BkS (ns ps : List Rws) : Prop := ns.length ≤ 100000 ∧ ps.length ≤ 1000 ∧ (∀ q ∈ ns, q.length ≤ 100000 ∧ ∀ r ∈ q, r.length = 1) ∧ ∀ q ∈ ps, q.length ≤ 1000 ∧ ∀ r ∈ q, r.length = 2
theorem Bk.upd {ns ps : List Rws} {H : AL.Hp} (h : Bk ns ps H) {k : Nat} (hk : k < 900000) (c : HC) : Bk ns ps (updH H k c) := by
 refine ⟨?_, ?_, ?_, fun i q hi => ?_, fun i q hi => ?_⟩
 ·rw [updH_ne _ _ (by omega)]; exact h.1
 ·rw [updH_ne _ _ (by omega)]; exact h.2.1
 ·rw [updH_ne _ _ (by omega)]; exact h.2.2.1
 ·rw [updH_ne _ _ (by omega)]; exact h.2.2.2.1 i q hi
 ·rw [updH_ne _ _ (by omega)]; exact h.2.2.2.2 i q hi
theorem Bk.putN {ns ps : List Rws} {H : AL.Hp} (h : Bk ns ps H) (hs : BkS ns ps) {i : Nat} (hi : i < ns.length) (q : Rws) : Bk (ns.set i q) ps (updH H (1000000 + i) (.blk false 1 134 1 q)) := by
 have := hs.1; have := hs.2.1
 refine ⟨?_, ?_, ?_, fun j r hj => ?_, fun j r hj => ?_⟩
 ·rw [updH_ne _ _ (by omega)]; exact h.1
 ·rw [updH_ne _ _ (by omega), List.length_set]; exact h.2.1
 ·rw [updH_ne _ _ (by omega)]; exact h.2.2.1
 ·by_cases e : j = i
  ·subst e
   rw [List.getElem?_set_self hi] at hj
   injection hj with hj; subst hj
   exact updH_same _ _ _
  ·rw [List.getElem?_set_ne (fun h => e h.symm)] at hj
   rw [updH_ne _ _ (by omega)]; exact h.2.2.2.1 j r hj
 ·rw [updH_ne _ _ (by omega)]; exact h.2.2.2.2 j r hj
theorem set_same {ps : List Rws} {i : Nat} {q : Rws} (h : ps[i]? = some q) : ps.set i q = ps := by
 apply List.ext_getElem?
 intro j
 by_cases e : i = j
 ·subst e
  rw [List.getElem?_set_self (List.getElem?_eq_some_iff.1 h).1, h]
 ·rw [List.getElem?_set_ne e]
theorem Bk.sameN {ns ps : List Rws} {H : AL.Hp} (h : Bk ns ps H) (hs : BkS ns ps) {i : Nat} {q : Rws} (hi : ns[i]? = some q) : Bk ns ps (updH H (1000000 + i) (.blk false 1 134 1 q)) := by
 have := h.putN hs (List.getElem?_eq_some_iff.1 hi).1 q
 rwa [set_same hi] at this
theorem mark_ok (i j : Nat) (h : i ≤ 2 ^ 20) (h' : j ≤ 2 ^ 20) : AC Tryz.prog 174 [ci i, ci j] none [ci (1000 * (i + 1) + j)] := by
 refine AC.by_walk (rs := [.tmp 4]) ords Tryz.func174 (by rfl) (by rfl) (by rfl) (by rfl) (by rfl) ?_
 simp (disch := omega) only [wt, seval]
structure Bq (ns qs is : List Rws) (H : AL.Hp) : Prop where
 k : H 900000 = .nst 1 88 [.hs 900002 1, .nils, .hs 900001 1, .nils, .nils, .hs 900003 1]
 n : H 900002 = .nst 1 28 (hws 1000000 ns.length)
 q : H 900001 = .nst 1 23 (hws 2000000 qs.length)
 i : H 900003 = .nst 1 102 (hws 3000000 is.length)
 nr : ∀ j r, ns[j]? = some r → H (1000000 + j) = .blk false 1 134 1 r
 qr : ∀ j r, qs[j]? = some r → H (2000000 + j) = .blk false 1 32 3 r
 ir : ∀ j r, is[j]? = some r → H (3000000 + j) = .blk false 1 3 1 r
structure BqS (ns qs is : List Rws) : Prop where
 nl : ns.length ≤ 100000
 ql : qs.length ≤ 1000
 il : is.length ≤ 1000
 n : ∀ r ∈ ns, r.length ≤ 100000 ∧ ∀ c ∈ r, c.length = 1
 q : ∀ r ∈ qs, r.length ≤ 1000 ∧ ∀ c ∈ r, c.length = 3
 i : ∀ r ∈ is, r.length ≤ 1000 ∧ ∀ c ∈ r, c.length = 1
theorem Bq.upd {ns qs is : List Rws} {H : AL.Hp} (h : Bq ns qs is H) {k : Nat} (hk : k < 900000) (c : HC) : Bq ns qs is (updH H k c) :=
 ⟨by rw [updH_ne _ _ (by omega)]; exact h.k, by rw [updH_ne _ _ (by omega)]; exact h.n, by rw [updH_ne _ _ (by omega)]; exact h.q, by rw [updH_ne _ _ (by omega)]; exact h.i,
  fun j r hj => by rw [updH_ne _ _ (by omega)]; exact h.nr j r hj, fun j r hj => by rw [updH_ne _ _ (by omega)]; exact h.qr j r hj, fun j r hj => by rw [updH_ne _ _ (by omega)]; exact h.ir j r hj⟩
theorem set_at {ps : List Rws} {i j : Nat} {q r : Rws} (hi : i < ps.length) (hj : (ps.set i q)[j]? = some r) : (j = i ∧ r = q) ∨ (j ≠ i ∧ ps[j]? = some r) := by
 by_cases e : j = i
 ·subst e
  rw [List.getElem?_set_self hi] at hj
  injection hj with hj
  exact .inl ⟨rfl, hj.symm⟩
 ·rw [List.getElem?_set_ne (fun h => e h.symm)] at hj
  exact .inr ⟨e, hj⟩
theorem Bq.putQ {ns qs is : List Rws} {H : AL.Hp} (h : Bq ns qs is H) (hs : BqS ns qs is) {i : Nat} (hi : i < qs.length) (q : Rws) : Bq ns (qs.set i q) is (updH H (2000000 + i) (.blk false 1 32 3 q)) := by
 have h1 := hs.nl; have h2 := hs.ql; have h3 := hs.il
 refine ⟨by rw [updH_ne _ _ (by omega)]; exact h.k, by rw [updH_ne _ _ (by omega)]; exact h.n, by rw [updH_ne _ _ (by omega), List.length_set]; exact h.q, by rw [updH_ne _ _ (by omega)]; exact h.i, fun j r hj => ?_, fun j r hj => ?_, fun j r hj => ?_⟩
 ·have := (List.getElem?_eq_some_iff.1 hj).1
  rw [updH_ne _ _ (by omega)]; exact h.nr j r hj
 ·rcases set_at hi hj with ⟨rfl, rfl⟩ | ⟨e, hj⟩
  ·exact updH_same _ _ _
  ·rw [updH_ne _ _ (by omega)]; exact h.qr j r hj
 ·rw [updH_ne _ _ (by omega)]; exact h.ir j r hj
theorem Bq.putN {ns qs is : List Rws} {H : AL.Hp} (h : Bq ns qs is H) (hs : BqS ns qs is) {i : Nat} (hi : i < ns.length) (q : Rws) : Bq (ns.set i q) qs is (updH H (1000000 + i) (.blk false 1 134 1 q)) := by
 have h1 := hs.nl; have h2 := hs.ql; have h3 := hs.il
 refine ⟨by rw [updH_ne _ _ (by omega)]; exact h.k, by rw [updH_ne _ _ (by omega), List.length_set]; exact h.n, by rw [updH_ne _ _ (by omega)]; exact h.q, by rw [updH_ne _ _ (by omega)]; exact h.i, fun j r hj => ?_, fun j r hj => ?_, fun j r hj => ?_⟩
 ·rcases set_at hi hj with ⟨rfl, rfl⟩ | ⟨e, hj⟩
  ·exact updH_same _ _ _
  ·rw [updH_ne _ _ (by omega)]; exact h.nr j r hj
 ·rw [updH_ne _ _ (by omega)]; exact h.qr j r hj
 ·rw [updH_ne _ _ (by omega)]; exact h.ir j r hj
theorem Bq.putI {ns qs is : List Rws} {H : AL.Hp} (h : Bq ns qs is H) (hs : BqS ns qs is) {i : Nat} (hi : i < is.length) (q : Rws) : Bq ns qs (is.set i q) (updH H (3000000 + i) (.blk false 1 3 1 q)) := by
 have h1 := hs.nl; have h2 := hs.ql; have h3 := hs.il
 refine ⟨by rw [updH_ne _ _ (by omega)]; exact h.k, by rw [updH_ne _ _ (by omega)]; exact h.n, by rw [updH_ne _ _ (by omega)]; exact h.q, by rw [updH_ne _ _ (by omega), List.length_set]; exact h.i, fun j r hj => ?_, fun j r hj => ?_, fun j r hj => ?_⟩
 ·have := (List.getElem?_eq_some_iff.1 hj).1
  rw [updH_ne _ _ (by omega)]; exact h.nr j r hj
 ·have := (List.getElem?_eq_some_iff.1 hj).1
  rw [updH_ne _ _ (by omega)]; exact h.qr j r hj
 ·rcases set_at hi hj with ⟨rfl, rfl⟩ | ⟨e, hj⟩
  ·exact updH_same _ _ _
  ·rw [updH_ne _ _ (by omega)]; exact h.ir j r hj
theorem Bq.sameQ {ns qs is : List Rws} {H : AL.Hp} (h : Bq ns qs is H) (hs : BqS ns qs is) {i : Nat} {q : Rws} (hi : qs[i]? = some q) : Bq ns qs is (updH H (2000000 + i) (.blk false 1 32 3 q)) := by
 have := h.putQ hs (List.getElem?_eq_some_iff.1 hi).1 q
 rwa [set_same hi] at this
theorem Bq.sameN {ns qs is : List Rws} {H : AL.Hp} (h : Bq ns qs is H) (hs : BqS ns qs is) {i : Nat} {q : Rws} (hi : ns[i]? = some q) : Bq ns qs is (updH H (1000000 + i) (.blk false 1 134 1 q)) := by
 have := h.putN hs (List.getElem?_eq_some_iff.1 hi).1 q
 rwa [set_same hi] at this
theorem Bq.sameI {ns qs is : List Rws} {H : AL.Hp} (h : Bq ns qs is H) (hs : BqS ns qs is) {i : Nat} {q : Rws} (hi : is[i]? = some q) : Bq ns qs is (updH H (3000000 + i) (.blk false 1 3 1 q)) := by
 have := h.putI hs (List.getElem?_eq_some_iff.1 hi).1 q
 rwa [set_same hi] at this
theorem bqgrow_ok (ns qs is : List Rws) (hs : BqS ns qs is) (H : AL.Hp) (hB : Bq ns qs is H) : ACI Tryz.prog 175 [.hp 900000 1 0 0] H (fun _ H' => Bq ns qs is H') := by
 refine ACI.by_walk zi0 (rs := []) ords Tryz.func175 (by rfl) (by rfl) (by rfl) (by rfl) (by rfl) (by rfl) ⟨.dead, H, hB⟩ ?_
 have hq2 := hs.ql
 have hi2 := hs.il
 simp only [wt, seval]
 refine aloop_by (fun f H => f 2 = .iv (.int .i64 0) ∧ f 0 = .hp 900000 1 0 0 ∧ Bq ns qs is H) (fun f H => 0) ?_ ?_
 ·refine ⟨by simp only [wt, seval]; try rfl, by simp only [wt, seval], hB⟩
 clear hB
 rintro f H ⟨h2, h0, hB⟩
 simp (disch := omega) only [wt, seval, h2, h0, hB.k]
 refine aloop_by (fun f H => ∃ (i : Nat), i ≤ qs.length ∧ f 3 = .iv (.int .i64 i) ∧ f 0 = .hp 900000 1 0 0 ∧ Bq ns qs is H) (fun f H => (qs.length - intAt f 3).toNat) ?_ ?_
 ·refine ⟨0, by omega, by simp only [wt, seval]; try rfl, by simp only [wt, seval, h0], hB⟩
 clear h2 h0 hB
 rintro f H ⟨i, hi, h2, h0, hB⟩
 rw [intAt_of h2]
 have hK := hB.k
 have hL := hB.q
 simp (disch := omega) only [wt, seval, wxB, h2, h0, hK, hL]
 refine if_by (fun hlt => ?_) (fun hlt => ?_)
 ·obtain ⟨q, hpq⟩ : ∃ q, qs[i]? = some q := ⟨_, List.getElem?_eq_getElem (by omega)⟩
  have hPi := hB.qr i q hpq
  have hql := (hs.q q (List.mem_of_getElem? hpq)).1
  simp (disch := omega) only [wt, seval, Nat.add_zero, wxB, h2, h0, hK, hL, hPi]
  exact ⟨⟨i + 1, by omega, rfl, ((hB.upd (by omega) _).sameQ hs hpq).sameQ hs hpq⟩, by omega⟩
 ·simp (disch := omega) only [wt, seval]
  refine aloop_by (fun f H => f 4 = .iv (.int .i64 0) ∧ f 0 = .hp 900000 1 0 0 ∧ Bq ns qs is H) (fun f H => 0) ?_ ?_
  ·refine ⟨by simp only [wt, seval]; try rfl, by simp only [wt, seval, h0], hB⟩
  clear h2 h0 hB hK hL
  rintro f H ⟨h2, h0, hB⟩
  simp (disch := omega) only [wt, seval, h2, h0, hB.k]
  refine aloop_by (fun f H => f 5 = .iv (.int .i64 0) ∧ f 0 = .hp 900000 1 0 0 ∧ Bq ns qs is H) (fun f H => 0) ?_ ?_
  ·refine ⟨by simp only [wt, seval]; try rfl, by simp only [wt, seval, h0], hB⟩
  clear h2 h0 hB
  rintro f H ⟨h2, h0, hB⟩
  simp (disch := omega) only [wt, seval, h2, h0, hB.k]
  refine aloop_by (fun f H => ∃ (i : Nat), i ≤ is.length ∧ f 6 = .iv (.int .i64 i) ∧ f 0 = .hp 900000 1 0 0 ∧ Bq ns qs is H) (fun f H => (is.length - intAt f 6).toNat) ?_ ?_
  ·refine ⟨0, by omega, by simp only [wt, seval]; try rfl, by simp only [wt, seval, h0], hB⟩
  clear h2 h0 hB
  rintro f H ⟨i, hi, h2, h0, hB⟩
  rw [intAt_of h2]
  have hK := hB.k
  have hL := hB.i
  simp (disch := omega) only [wt, seval, wxB, h2, h0, hK, hL]
  refine if_by (fun hlt => ?_) (fun hlt => ?_)
  ·obtain ⟨q, hpq⟩ : ∃ q, is[i]? = some q := ⟨_, List.getElem?_eq_getElem (by omega)⟩
   have hPi := hB.ir i q hpq
   have hql := (hs.i q (List.mem_of_getElem? hpq)).1
   simp (disch := omega) only [wt, seval, Nat.add_zero, wxB, h2, h0, hK, hL, hPi]
   exact ⟨⟨i + 1, by omega, rfl, ((hB.upd (by omega) _).sameI hs hpq).sameI hs hpq⟩, by omega⟩
  ·simp (disch := omega) only [wt, seval]
   exact reti_none hB
def BkF (ps : List Rws) (H : AL.Hp) : Prop :=
 H 900000 = .nst 1 88 [.hs 900002 1, .hs 900001 1, .nils, .nils, .nils, .nils] ∧ H 900001 = .nst 1 50 (hws 2000000 ps.length) ∧
 ∀ i q, ps[i]? = some q → ∃ fz, H (2000000 + i) = .blk fz 1 30 2 q
theorem Bk.f {ns ps : List Rws} {H : AL.Hp} (h : Bk ns ps H) : BkF ps H := ⟨h.1, h.2.2.1, fun i q hi => ⟨false, h.2.2.2.2 i q hi⟩⟩
theorem BkF.upd {ps : List Rws} {H : AL.Hp} (h : BkF ps H) {k : Nat} (hk : k < 900000) (c : HC) : BkF ps (updH H k c) := by
 refine ⟨?_, ?_, fun i q hi => ?_⟩
 ·rw [updH_ne _ _ (by omega)]; exact h.1
 ·rw [updH_ne _ _ (by omega)]; exact h.2.1
 ·rw [updH_ne _ _ (by omega)]; exact h.2.2 i q hi
theorem BkF.frz {ps : List Rws} {H : AL.Hp} (h : BkF ps H) {i : Nat} {q : Rws} (hi : ps[i]? = some q) (fz : Bool) : BkF ps (updH H (2000000 + i) (.blk fz 1 30 2 q)) := by
 refine ⟨?_, ?_, fun j r hj => ?_⟩
 ·rw [updH_ne _ _ (by omega)]; exact h.1
 ·rw [updH_ne _ _ (by omega)]; exact h.2.1
 ·by_cases e : j = i
  ·subst e; rw [hi] at hj; cases hj
   exact ⟨fz, updH_same _ _ _⟩
  ·rw [updH_ne _ _ (by omega)]; exact h.2.2 j r hj
def mqs (i n : Nat) : List RQ := (List.range n).map fun j : Nat => (canon (1000 * ((i : Int) + 1) + (j : Int)), [])
theorem mqs_len (i n : Nat) : (mqs i n).length = n := by simp [mqs]
theorem mqs_get {i n j : Nat} (h : j < n) : (mqs i n).getD j q0 = (canon (1000 * ((i : Int) + 1) + (j : Int)), []) := by simp [mqs, List.getD, h]
theorem mqs_succ (i j : Nat) : mqs i (j + 1) = mqs i j ++ [(canon (1000 * ((i : Int) + 1) + (j : Int)), [])] := by simp [mqs, List.range_succ]
def iks (i n : Nat) : List Int := (List.range n).map fun j : Nat => 1000 * ((i : Int) + 1) + (j : Int)
theorem iks_len (i n : Nat) : (iks i n).length = n := by simp [iks]
theorem iks_get {i n j : Nat} (h : j < n) : (iks i n).getD j 0 = 1000 * ((i : Int) + 1) + (j : Int) := by simp [iks, List.getD, h]
theorem iks_succ (i j : Nat) : iks i (j + 1) = iks i j ++ [1000 * ((i : Int) + 1) + (j : Int)] := by simp [iks, List.range_succ]
set_option maxHeartbeats 1000000 in
theorem bqread_ok (ns qs is : List Rws) (hs : BqS ns qs is) (hq : ∀ i r, qs[i]? = some r → r = rats (mqs i r.length)) (hm : ∀ i r, is[i]? = some r → r = ilims (iks i r.length)) (H : AL.Hp) (hB : Bq ns qs is H) : ACI Tryz.prog 176 [.hp 900000 1 0 0] H (fun x _ => x = .iv (.bool true)) := by
 refine ACI.by_walk zi0 (rs := [.tmp 2]) ords Tryz.func176 (by rfl) (by rfl) (by rfl) (by rfl) (by rfl) (by rfl) ⟨_, H, rfl⟩ ?_
 have hs1 := hs.ql
 have hs2 := hs.il
 simp only [wt, seval]
 refine aloop_by (fun f H => f 3 = .iv (.int .i64 0) ∧ f 0 = .hp 900000 1 0 0 ∧ Bq ns qs is H) (fun f H => 0) ?_ ?_
 ·refine ⟨by simp only [wt, seval]; try rfl, by simp only [wt, seval], hB⟩
 clear hB
 rintro f H ⟨h3, h0, hB⟩
 simp (disch := omega) only [wt, seval, h3, h0, hB.k]
 refine aloop_by (fun f H => ∃ (i : Nat), i ≤ qs.length ∧ f 5 = .iv (.int .i64 i) ∧ f 0 = .hp 900000 1 0 0 ∧ Bq ns qs is H) (fun f H => (qs.length - intAt f 5).toNat) ?_ ?_
 ·refine ⟨0, by omega, by simp only [wt, seval]; try rfl, by simp only [wt, seval, h0], hB⟩
 clear h3 h0 hB
 rintro f H ⟨i, hi, h3, h0, hB⟩
 rw [intAt_of h3]
 have hK := hB.k
 have hL := hB.q
 simp (disch := omega) only [wt, seval, wxB, h3, h0, hK, hL]
 refine if_by (fun hlt => ?_) (fun hlt => ?_)
 ·obtain ⟨q, hpq⟩ : ∃ q, qs[i]? = some q := ⟨_, List.getElem?_eq_getElem (by omega)⟩
  have hql := (hs.q q (List.mem_of_getElem? hpq)).1
  have hqm := hq i q hpq
  simp (disch := omega) only [wt, seval]
  refine aloop_by (fun f H => ∃ (j : Nat), j ≤ q.length ∧ f 6 = .iv (.int .i64 j) ∧ f 5 = .iv (.int .i64 i) ∧ f 0 = .hp 900000 1 0 0 ∧ Bq ns qs is H) (fun f H => (q.length - intAt f 6).toNat) ?_ ?_
  ·refine ⟨0, by omega, by simp only [wt, seval]; try rfl, by simp only [wt, seval, h3], by simp only [wt, seval, h0], hB⟩
  clear h3 h0 hB hK hL
  rintro f H ⟨j, hj, h4, h3, h0, hB⟩
  rw [intAt_of h4]
  have hK := hB.k
  have hL := hB.q
  have hPi := hB.qr i q hpq
  simp (disch := omega) only [wt, seval, Nat.add_zero, wxB, h4, h3, h0, hK, hL, hPi]
  refine if_by (fun hlt2 => ?_) (fun hlt2 => ?_)
  ·have hone : q.getD j [] = qrow (canon (1000 * ((i : Int) + 1) + (j : Int)), []) := by
    have h1 : q.getD j [] = (rats (mqs i q.length)).getD j [] := by rw [← hqm]
    rw [h1, rats_get (by rw [mqs_len]; omega), mqs_get (by omega)]
   have hrp : RP (2 ^ 40) (2 ^ 43) [canon (1000 * ((i : Int) + 1) + (j : Int))] := RP.canon (q := [1000 * ((i : Int) + 1) + (j : Int)]) ⟨by simp, fun z hz => by
    simp only [List.mem_singleton] at hz; subst hz
    exact Nat.le_trans (zl_le.mpr (by simp only [W]; omega) : zl _ ≤ 1) (by omega)⟩
   have sf := sform_ok _ _ hrp hrp
   rw [decide_eq_true rfl] at sf
   simp (disch := omega) only [wt, seval, Nat.add_zero, wxB, rqs, h4, h3, h0, hK, hL, hPi, hone]
   refine .inl ⟨tmps_by (by kernel_rfl), ?_⟩
   refine call_by ((mark_ok i j (by omega) (by omega))) (by rfl) (by simp) ?_
   simp (disch := omega) only [wt, seval]
   refine call_by ((sZ_ok (1000 * ((i : Int) + 1) + (j : Int)) (by omega) (by omega))) (by rfl) (by simp) ?_
   simp (disch := omega) only [wt, seval]
   refine call_by (sf) (by rfl) (by simp) ?_
   simp (disch := omega) only [wt, seval, h4, h3, h0]
   refine ⟨logN_by (by simp (disch := omega) only [capL_cons, capL_nil, List.map_cons, List.map_nil, capN_lt, capN_ge]; rfl) (by kernel_rfl), ?_⟩
   refine ⟨⟨j + 1, by omega, by omega, ?_⟩, by omega⟩
   repeat (refine Bq.upd ?_ (by omega) _)
   exact hB
  ·simp (disch := omega) only [wt, seval, h3, h0]
   exact ⟨⟨i + 1, by omega, rfl, hB⟩, by omega⟩
 ·simp (disch := omega) only [wt, seval]
  refine aloop_by (fun f H => f 7 = .iv (.int .i64 0) ∧ f 0 = .hp 900000 1 0 0 ∧ Bq ns qs is H) (fun f H => 0) ?_ ?_
  ·refine ⟨by simp only [wt, seval]; try rfl, by simp only [wt, seval, h0], hB⟩
  clear h3 h0 hB hK hL
  rintro f H ⟨h3, h0, hB⟩
  simp (disch := omega) only [wt, seval, h3, h0, hB.k]
  refine aloop_by (fun f H => f 9 = .iv (.int .i64 0) ∧ f 0 = .hp 900000 1 0 0 ∧ Bq ns qs is H) (fun f H => 0) ?_ ?_
  ·refine ⟨by simp only [wt, seval]; try rfl, by simp only [wt, seval, h0], hB⟩
  clear h3 h0 hB
  rintro f H ⟨h3, h0, hB⟩
  simp (disch := omega) only [wt, seval, h3, h0, hB.k]
  refine aloop_by (fun f H => ∃ (i : Nat), i ≤ is.length ∧ f 11 = .iv (.int .i64 i) ∧ f 0 = .hp 900000 1 0 0 ∧ Bq ns qs is H) (fun f H => (is.length - intAt f 11).toNat) ?_ ?_
  ·refine ⟨0, by omega, by simp only [wt, seval]; try rfl, by simp only [wt, seval, h0], hB⟩
  clear h3 h0 hB
  rintro f H ⟨i, hi, h3, h0, hB⟩
  rw [intAt_of h3]
  have hK := hB.k
  have hL := hB.i
  simp (disch := omega) only [wt, seval, wxB, h3, h0, hK, hL]
  refine if_by (fun hlt => ?_) (fun hlt => ?_)
  ·obtain ⟨q, hpq⟩ : ∃ q, is[i]? = some q := ⟨_, List.getElem?_eq_getElem (by omega)⟩
   have hql := (hs.i q (List.mem_of_getElem? hpq)).1
   have hqm := hm i q hpq
   simp (disch := omega) only [wt, seval]
   refine aloop_by (fun f H => ∃ (j : Nat), j ≤ q.length ∧ f 12 = .iv (.int .i64 j) ∧ f 11 = .iv (.int .i64 i) ∧ f 0 = .hp 900000 1 0 0 ∧ Bq ns qs is H) (fun f H => (q.length - intAt f 12).toNat) ?_ ?_
   ·refine ⟨0, by omega, by simp only [wt, seval]; try rfl, by simp only [wt, seval, h3], by simp only [wt, seval, h0], hB⟩
   clear h3 h0 hB hK hL
   rintro f H ⟨j, hj, h4, h3, h0, hB⟩
   rw [intAt_of h4]
   have hK := hB.k
   have hL := hB.i
   have hPi := hB.ir i q hpq
   simp (disch := omega) only [wt, seval, Nat.add_zero, wxB, h4, h3, h0, hK, hL, hPi]
   refine if_by (fun hlt2 => ?_) (fun hlt2 => ?_)
   ·have hone : q.getD j [] = [.int .i64 (1000 * ((i : Int) + 1) + (j : Int))] := by
     have h1 : q.getD j [] = (ilims (iks i q.length)).getD j [] := by rw [← hqm]
     rw [h1, ilims_at (by rw [iks_len]; omega), iks_get (by omega)]
    simp (disch := omega) only [wt, seval, Nat.add_zero, wxB, h4, h3, h0, hK, hL, hPi, hone]
    refine .inl ⟨tmps_by (by kernel_rfl), ?_⟩
    refine call_by ((mark_ok i j (by omega) (by omega))) (by rfl) (by simp) ?_
    simp (disch := omega) only [wt, seval, h4, h3, h0]
    refine ⟨logN_by (by simp (disch := omega) only [capL_cons, capL_nil, List.map_cons, List.map_nil, capN_ge]; rfl) (by kernel_rfl), ?_⟩
    exact ⟨⟨j + 1, by omega, by omega, hB⟩, by omega⟩
   ·simp (disch := omega) only [wt, seval, h3, h0]
    exact ⟨⟨i + 1, by omega, rfl, hB⟩, by omega⟩
  ·simp (disch := omega) only [wt, seval]
   exact reti_tmp (by simp only [wt, seval]) rfl

theorem BqS.setQ {ns qs is : List Rws} (h : BqS ns qs is) {i : Nat} {q : Rws} (hq : q.length ≤ 1000 ∧ ∀ r ∈ q, r.length = 3) : BqS ns (qs.set i q) is :=
 ⟨h.nl, by rw [List.length_set]; exact h.ql, h.il, h.n, fun r hr => by
  rcases List.mem_or_eq_of_mem_set hr with hr | rfl
  ·exact h.q r hr
  ·exact hq, h.i⟩
theorem BqS.setI {ns qs is : List Rws} (h : BqS ns qs is) {i : Nat} {q : Rws} (hq : q.length ≤ 1000 ∧ ∀ r ∈ q, r.length = 1) : BqS ns qs (is.set i q) :=
 ⟨h.nl, h.ql, by rw [List.length_set]; exact h.il, h.n, h.q, fun r hr => by
  rcases List.mem_or_eq_of_mem_set hr with hr | rfl
  ·exact h.i r hr
  ·exact hq⟩
theorem spl_three (r : List IV) (c : RQ) (h : r.length = 3) : splice r 0 (qrow c) = qrow c := by
 match r, h with
 | [x, y, z], _ => rfl
theorem spl_1 (r : List IV) (x : IV) (h : r.length = 1) : splice r 0 [x] = [x] := by
 match r, h with
 | [y], _ => rfl
theorem lay_num (c : RI) : lay (fun i => [(0, 2), (2, 1)][i]?) [.bool false, .sl [], .sl []] ([0].zip [prow c]) = some ((2 = 2 ∧ 0 + 2 ≤ 3) ∧ True, qrow (c, [])) := rfl
def MkQ (i : Nat) (qs : List Rws) : Prop := ∀ k q, qs[k]? = some q → k < i → q = rats (mqs k q.length)
def MkI (i : Nat) (is : List Rws) : Prop := ∀ k q, is[k]? = some q → k < i → q = ilims (iks k q.length)
theorem get_mem3 {q : Rws} {n j : Nat} (h : ∀ r ∈ q, r.length = n) (hj : j < q.length) : (q.getD j []).length = n :=
 h (q.getD j []) (by rw [List.getD_eq_getElem?_getD, List.getElem?_eq_getElem hj]; exact List.getElem_mem hj)
set_option maxHeartbeats 1000000 in
theorem bqouter_ok (ns qs is : List Rws) (hs : BqS ns qs is) (H : AL.Hp) (hB : Bq ns qs is H) : ACI Tryz.prog 129 [.hp 900000 1 0 0] H (fun x _ => x = .iv (.bool true)) := by
 refine ACI.by_walk zi0 (rs := [.tmp 2]) ords Tryz.func129 (by rfl) (by rfl) (by rfl) (by rfl) (by rfl) (by rfl) ⟨_, H, rfl⟩ ?_
 have hsq := hs.ql
 have hsi := hs.il
 simp only [wt, seval]
 refine aloop_by (fun f H => f 3 = .iv (.int .i64 0) ∧ f 0 = .hp 900000 1 0 0 ∧ Bq ns qs is H) (fun f H => 0) ?_ ?_
 ·refine ⟨by simp only [wt, seval]; try rfl, by simp only [wt, seval], hB⟩
 clear hB
 rintro f H ⟨h3, h0, hB⟩
 simp (disch := omega) only [wt, seval, h3, h0, hB.k]
 refine aloop_by (fun f H => ∃ (i : Nat) (qs' : List Rws), i ≤ qs.length ∧ qs'.length = qs.length ∧ BqS ns qs' is ∧ MkQ i qs' ∧ f 5 = .iv (.int .i64 i) ∧ f 0 = .hp 900000 1 0 0 ∧ Bq ns qs' is H) (fun f H => (qs.length - intAt f 5).toNat) ?_ ?_
 ·exact ⟨0, qs, by omega, rfl, hs, fun k q _ h => by omega, by simp only [wt, seval]; try rfl, by simp only [wt, seval, h0], hB⟩
 clear h3 h0 hB
 rintro f H ⟨i, qs1, hi, hl1, hs1, hm1, h3, h0, hB⟩
 rw [intAt_of h3]
 have hK := hB.k
 have hL := hB.q
 rw [hl1] at hL
 simp (disch := omega) only [wt, seval, wxB, h3, h0, hK, hL]
 refine if_by (fun hlt => ?_) (fun hlt => ?_)
 ·obtain ⟨q, hpq⟩ : ∃ q, qs1[i]? = some q := ⟨_, List.getElem?_eq_getElem (by omega)⟩
  have hql := (hs1.q q (List.mem_of_getElem? hpq)).1
  simp (disch := omega) only [wt, seval]
  refine aloop_by (fun f H => ∃ (j : Nat) (qs' : List Rws) (q' : Rws), j ≤ q.length ∧ qs'.length = qs.length ∧ BqS ns qs' is ∧ MkQ i qs' ∧ qs'[i]? = some q' ∧ q'.length = q.length ∧ q'.take j = rats (mqs i j) ∧ f 6 = .iv (.int .i64 j) ∧ f 5 = .iv (.int .i64 i) ∧ f 0 = .hp 900000 1 0 0 ∧ Bq ns qs' is H) (fun f H => (q.length - intAt f 6).toNat) ?_ ?_
  ·exact ⟨0, qs1, q, by omega, hl1, hs1, hm1, hpq, rfl, rfl, by simp only [wt, seval]; try rfl, by simp only [wt, seval, h3], by simp only [wt, seval, h0], hB⟩
  clear h3 h0 hB hK hL
  rintro f H ⟨j, qs2, q2, hj, hl2, hs2, hm2, hpq2, hq2, ht2, h4, h3, h0, hB⟩
  rw [intAt_of h4]
  have hK := hB.k
  have hL := hB.q
  rw [hl2] at hL
  have hPi := hB.qr i q2 hpq2
  simp (disch := omega) only [wt, seval, Nat.add_zero, wxB, h4, h3, h0, hK, hL, hPi, hq2]
  refine if_by (fun hlt2 => ?_) (fun hlt2 => ?_)
  ·have hr2 := hs2.q q2 (List.mem_of_getElem? hpq2)
   have hrow := spl_three (q2.getD j []) (canon (1000 * ((i : Int) + 1) + (j : Int)), []) (get_mem3 hr2.2 (by omega))
   simp (disch := omega) only [wt, seval, Nat.add_zero, wxB, h4, h3, h0, hK, hL]
   refine .inl ⟨tmps_by (by kernel_rfl), ?_⟩
   refine call_by ((mark_ok i j (by omega) (by omega))) (by rfl) (by simp) ?_
   simp (disch := omega) only [wt, seval]
   refine call_by ((sZ_ok (1000 * ((i : Int) + 1) + (j : Int)) (by omega) (by omega))) (by rfl) (by simp) ?_
   simp (disch := omega) only [wt, seval, lay_num, h4, h3, h0, hPi, hq2]
   rw [hrow]
   refine ⟨logN_by (by simp (disch := omega) only [capL_cons, capL_nil, List.map_cons, List.map_nil, capN_ge]; rfl) (by kernel_rfl), ?_⟩
   have hlp : i < qs2.length := by omega
   refine ⟨⟨j + 1, qs2.set i (q2.set j (qrow (canon (1000 * ((i : Int) + 1) + (j : Int)), []))), _, by omega, by rw [List.length_set]; exact hl2, hs2.setQ ⟨by rw [List.length_set]; exact hr2.1, fun r hr => ?_⟩, fun k r hk hki => ?_, List.getElem?_set_self hlp, by rw [List.length_set]; exact hq2, ?_, rfl, hB.putQ hs2 hlp _⟩, by omega⟩
   ·rcases List.mem_or_eq_of_mem_set hr with hr | rfl
    ·exact hr2.2 r hr
    ·rfl
   ·rw [List.getElem?_set_ne (by omega)] at hk
    exact hm2 k r hk hki
   ·rw [List.take_add_one, List.take_set_of_le (by omega), ht2, List.getElem?_set_self (by omega), mqs_succ]
    simp [rats]
  ·simp (disch := omega) only [wt, seval, h3, h0]
   obtain rfl : j = q.length := by omega
   refine ⟨⟨i + 1, qs2, by omega, hl2, hs2, fun k r hk hki => ?_, rfl, hB⟩, by omega⟩
   by_cases e : k = i
   ·subst e
    rw [hpq2] at hk; cases hk
    rw [hq2, ← ht2, List.take_of_length_le (by omega)]
   ·exact hm2 k r hk (by omega)
 ·simp (disch := omega) only [wt, seval]
  obtain rfl : i = qs.length := by omega
  have hmq : ∀ k r, qs1[k]? = some r → r = rats (mqs k r.length) := fun k r hk => hm1 k r hk (by rw [← hl1]; exact (List.getElem?_eq_some_iff.1 hk).1)
  refine aloop_by (fun f H => f 7 = .iv (.int .i64 0) ∧ f 0 = .hp 900000 1 0 0 ∧ Bq ns qs1 is H) (fun f H => 0) ?_ ?_
  ·refine ⟨by simp only [wt, seval]; try rfl, by simp only [wt, seval, h0], hB⟩
  clear h3 h0 hB hK hL
  rintro f H ⟨h3, h0, hB⟩
  simp (disch := omega) only [wt, seval, h3, h0, hB.k]
  refine aloop_by (fun f H => f 9 = .iv (.int .i64 0) ∧ f 0 = .hp 900000 1 0 0 ∧ Bq ns qs1 is H) (fun f H => 0) ?_ ?_
  ·refine ⟨by simp only [wt, seval]; try rfl, by simp only [wt, seval, h0], hB⟩
  clear h3 h0 hB
  rintro f H ⟨h3, h0, hB⟩
  simp (disch := omega) only [wt, seval, h3, h0, hB.k]
  refine aloop_by (fun f H => ∃ (i : Nat) (is' : List Rws), i ≤ is.length ∧ is'.length = is.length ∧ BqS ns qs1 is' ∧ MkI i is' ∧ f 11 = .iv (.int .i64 i) ∧ f 0 = .hp 900000 1 0 0 ∧ Bq ns qs1 is' H) (fun f H => (is.length - intAt f 11).toNat) ?_ ?_
  ·exact ⟨0, is, by omega, rfl, hs1, fun k q _ h => by omega, by simp only [wt, seval]; try rfl, by simp only [wt, seval, h0], hB⟩
  clear h3 h0 hB
  rintro f H ⟨i, is1, hi2, hli1, hsi1, hmi1, h3, h0, hB⟩
  rw [intAt_of h3]
  have hK := hB.k
  have hL := hB.i
  rw [hli1] at hL
  simp (disch := omega) only [wt, seval, wxB, h3, h0, hK, hL]
  refine if_by (fun hlt => ?_) (fun hlt => ?_)
  ·obtain ⟨q, hpq⟩ : ∃ q, is1[i]? = some q := ⟨_, List.getElem?_eq_getElem (by omega)⟩
   have hql := (hsi1.i q (List.mem_of_getElem? hpq)).1
   simp (disch := omega) only [wt, seval]
   refine aloop_by (fun f H => ∃ (j : Nat) (is' : List Rws) (q' : Rws), j ≤ q.length ∧ is'.length = is.length ∧ BqS ns qs1 is' ∧ MkI i is' ∧ is'[i]? = some q' ∧ q'.length = q.length ∧ q'.take j = ilims (iks i j) ∧ f 12 = .iv (.int .i64 j) ∧ f 11 = .iv (.int .i64 i) ∧ f 0 = .hp 900000 1 0 0 ∧ Bq ns qs1 is' H) (fun f H => (q.length - intAt f 12).toNat) ?_ ?_
   ·exact ⟨0, is1, q, by omega, hli1, hsi1, hmi1, hpq, rfl, rfl, by simp only [wt, seval]; try rfl, by simp only [wt, seval, h3], by simp only [wt, seval, h0], hB⟩
   clear h3 h0 hB hK hL
   rintro f H ⟨j, is2, q2, hj, hl2, hs2, hm2, hpq2, hq2, ht2, h4, h3, h0, hB⟩
   rw [intAt_of h4]
   have hK := hB.k
   have hL := hB.i
   rw [hl2] at hL
   have hPi := hB.ir i q2 hpq2
   simp (disch := omega) only [wt, seval, Nat.add_zero, wxB, h4, h3, h0, hK, hL, hPi, hq2]
   refine if_by (fun hlt2 => ?_) (fun hlt2 => ?_)
   ·have hr2 := hs2.i q2 (List.mem_of_getElem? hpq2)
    have hrow := spl_1 (q2.getD j []) (.int .i64 (1000 * ((i : Int) + 1) + (j : Int))) (get_mem3 hr2.2 (by omega))
    simp (disch := omega) only [wt, seval, Nat.add_zero, wxB, h4, h3, h0, hK, hL]
    refine .inl ⟨tmps_by (by kernel_rfl), ?_⟩
    refine call_by ((mark_ok i j (by omega) (by omega))) (by rfl) (by simp) ?_
    simp (disch := omega) only [wt, seval, h4, h3, h0, hPi, hq2]
    rw [hrow]
    refine ⟨logN_by (by simp (disch := omega) only [capL_cons, capL_nil, List.map_cons, List.map_nil, capN_ge]; rfl) (by kernel_rfl), ?_⟩
    have hlp : i < is2.length := by omega
    refine ⟨⟨j + 1, is2.set i (q2.set j [.int .i64 (1000 * ((i : Int) + 1) + (j : Int))]), _, by omega, by rw [List.length_set]; exact hl2, hs2.setI ⟨by rw [List.length_set]; exact hr2.1, fun r hr => ?_⟩, fun k r hk hki => ?_, List.getElem?_set_self hlp, by rw [List.length_set]; exact hq2, ?_, rfl, hB.putI hs2 hlp _⟩, by omega⟩
    ·rcases List.mem_or_eq_of_mem_set hr with hr | rfl
     ·exact hr2.2 r hr
     ·rfl
    ·rw [List.getElem?_set_ne (by omega)] at hk
     exact hm2 k r hk hki
    ·rw [List.take_add_one, List.take_set_of_le (by omega), ht2, List.getElem?_set_self (by omega), iks_succ]
     simp [ilims]
   ·simp (disch := omega) only [wt, seval, h3, h0]
    obtain rfl : j = q.length := by omega
    refine ⟨⟨i + 1, is2, by omega, hl2, hs2, fun k r hk hki => ?_, rfl, hB⟩, by omega⟩
    by_cases e : k = i
    ·subst e
     rw [hpq2] at hk; cases hk
     rw [hq2, ← ht2, List.take_of_length_le (by omega)]
    ·exact hm2 k r hk (by omega)
  ·simp (disch := omega) only [wt, seval, h0]
   obtain rfl : i = is.length := by omega
   have hmi : ∀ k r, is1[k]? = some r → r = ilims (iks k r.length) := fun k r hk => hmi1 k r hk (by rw [← hli1]; exact (List.getElem?_eq_some_iff.1 hk).1)
   refine calli_by (bqgrow_ok ns qs1 is1 hsi1 H hB) ?_
   intro x H' hB'
   simp only [wt, seval, h0]
   refine calli_by (bqread_ok ns qs1 is1 hsi1 hmq hmi H' hB') ?_
   rintro x2 H2 rfl
   simp only [wt, seval]
   exact reti_tmp (by simp only [wt, seval]) rfl
theorem BkS.setN {ns ps : List Rws} (h : BkS ns ps) {i : Nat} {q : Rws} (hq : q.length ≤ 100000 ∧ ∀ r ∈ q, r.length = 1) : BkS (ns.set i q) ps := by
 refine ⟨by rw [List.length_set]; exact h.1, h.2.1, fun r hr => ?_, h.2.2.2⟩
 rcases List.mem_or_eq_of_mem_set hr with hr | rfl
 ·exact h.2.2.1 r hr
 ·exact hq
def nks (i n : Nat) : List Nat := (List.range n).map fun j => 1000 * i + j
theorem nks_succ (i j : Nat) : nks i (j + 1) = nks i j ++ [1000 * i + j] := by simp [nks, List.range_succ]
theorem nks_get (i n j : Nat) (h : j < n) : (lims (nks i n)).getD j [] = [.int .u64 ((1000 * i + j : Nat) : Int)] := by
 simp [lims, nks, List.getD, h]
def Nk (i : Nat) (ns : List Rws) : Prop := ∀ k q, ns[k]? = some q → k < i → q = lims (nks k q.length)
theorem spl_one (r : List IV) (x : IV) (h : r.length = 1) : splice r 0 [x] = [x] := by
 match r, h with
 | [y], _ => rfl
theorem BqS.setN {ns qs is : List Rws} (h : BqS ns qs is) {i : Nat} {q : Rws} (hq : q.length ≤ 100000 ∧ ∀ r ∈ q, r.length = 1) : BqS (ns.set i q) qs is :=
 ⟨by rw [List.length_set]; exact h.nl, h.ql, h.il, fun r hr => by
  rcases List.mem_or_eq_of_mem_set hr with hr | rfl
  ·exact h.n r hr
  ·exact hq, h.q, h.i⟩
set_option maxHeartbeats 2000000 in
theorem bqapart_ok (ns qs is : List Rws) (hs : BqS ns qs is) (H : AL.Hp) (hB : Bq ns qs is H) : ACI Tryz.prog 64 [.hp 900000 1 0 0] H (fun x _ => x = .iv (.bool true)) := by
 refine ACI.by_walk zi0 (rs := [.tmp 2]) ords Tryz.func64 (by rfl) (by rfl) (by rfl) (by rfl) (by rfl) (by rfl) ⟨_, H, rfl⟩ ?_
 have hs1 := hs.nl
 simp only [wt, seval]
 refine aloop_by (fun f H => ∃ (i : Nat) (ns' : List Rws), i ≤ ns.length ∧ ns'.length = ns.length ∧ BqS ns' qs is ∧ Nk i ns' ∧ f 3 = .iv (.int .i64 i) ∧ f 0 = .hp 900000 1 0 0 ∧ Bq ns' qs is H) (fun f H => (ns.length - intAt f 3).toNat) ?_ ?_
 ·refine ⟨0, ns, by omega, rfl, hs, fun k q _ h => by omega, ?_⟩
  simp only [wt, seval]
  exact hB
 clear hB
 rintro f H ⟨i, ns1, hi, hl1, hb1, hm1, h3, h0, hB⟩
 rw [intAt_of h3]
 have hK := hB.k
 have hN := hB.n
 rw [hl1] at hN
 simp (disch := omega) only [wt, seval, Nat.add_zero, wxB, h3, h0, hK, hN]
 refine if_by (fun hlt => ?_) (fun hlt => ?_)
 ·obtain ⟨q, hpq⟩ : ∃ q, ns1[i]? = some q := ⟨_, List.getElem?_eq_getElem (by omega)⟩
  have hql := (hb1.n q (List.mem_of_getElem? hpq)).1
  simp (disch := omega) only [wt, seval]
  refine aloop_by (fun f H => ∃ (j : Nat) (ns' : List Rws) (q' : Rws), j ≤ q.length ∧ ns'.length = ns.length ∧ BqS ns' qs is ∧ Nk i ns' ∧ ns'[i]? = some q' ∧ q'.length = q.length ∧ q'.take j = lims (nks i j) ∧ f 4 = .iv (.int .i64 j) ∧ f 3 = .iv (.int .i64 i) ∧ f 0 = .hp 900000 1 0 0 ∧ Bq ns' qs is H) (fun f H => (q.length - intAt f 4).toNat) ?_ ?_
  ·refine ⟨0, ns1, q, by omega, hl1, hb1, hm1, hpq, rfl, rfl, ?_⟩
   simp only [wt, seval, h3, h0]
   exact hB
  clear h3 h0 hB hK hN
  rintro f H ⟨j, ns2, q2, hj, hl2, hb2, hm2, hpq2, hq2, ht2, h4, h3, h0, hB⟩
  rw [intAt_of h4]
  have hK := hB.k
  have hN := hB.n
  rw [hl2] at hN
  have hPi := hB.nr i q2 hpq2
  have e : IntKind.u64.wrap (1000 * (i : Int) + (j : Int)) = ((1000 * i + j : Nat) : Int) := by rw [wrap_u64 (by omega)]; omega
  simp (disch := omega) only [wt, seval, Nat.add_zero, wxB, h4, h3, h0, hK, hN, hPi, hq2]
  refine if_by (fun hlt2 => ?_) (fun hlt2 => ?_)
  ·simp (disch := omega) only [wt, seval, Nat.add_zero, wxB, h4, h3, h0, hK, hN, hPi, hq2, e]
   have hr2 := hb2.n q2 (List.mem_of_getElem? hpq2)
   have hrow : splice (q2.getD j []) 0 [.int .u64 ((1000 * i + j : Nat) : Int)] = [.int .u64 ((1000 * i + j : Nat) : Int)] := by
    have hj2 : j < q2.length := by omega
    have := hr2.2 (q2.getD j []) (by rw [List.getD_eq_getElem?_getD, List.getElem?_eq_getElem hj2]; exact List.getElem_mem hj2)
    exact spl_one _ _ this
   have hlp : i < ns2.length := by omega
   rw [hrow]
   refine ⟨⟨j + 1, ns2.set i (q2.set j [.int .u64 ((1000 * i + j : Nat) : Int)]), _, by omega, by rw [List.length_set]; exact hl2, hb2.setN ⟨by rw [List.length_set]; exact hr2.1, fun r hr => ?_⟩, fun k r hk hki => ?_, List.getElem?_set_self hlp, by rw [List.length_set]; exact hq2, ?_, rfl, hB.putN hb2 hlp _⟩, by omega⟩
   ·rcases List.mem_or_eq_of_mem_set hr with hr | rfl
    ·exact hr2.2 r hr
    ·rfl
   ·rw [List.getElem?_set_ne (by omega)] at hk
    exact hm2 k r hk hki
   ·rw [List.take_add_one, List.take_set_of_le (by omega), ht2, List.getElem?_set_self (by omega), nks_succ]
    simp [lims]
  ·simp (disch := omega) only [wt, seval, h3, h0]
   obtain rfl : j = q.length := by omega
   refine ⟨⟨i + 1, ns2, by omega, hl2, hb2, fun k r hk hki => ?_, rfl, hB⟩, by omega⟩
   by_cases e : k = i
   ·subst e
    rw [hpq2] at hk; cases hk
    rw [hq2, ← ht2, List.take_of_length_le (by omega)]
   ·exact hm2 k r hk (by omega)
 ·simp (disch := omega) only [wt, seval]
  obtain rfl : i = ns.length := by omega
  have hm : ∀ k q, ns1[k]? = some q → q = lims (nks k q.length) := fun k q hk => hm1 k q hk (by rw [← hl1]; exact (List.getElem?_eq_some_iff.1 hk).1)
  refine aloop_by (fun f H => ∃ (i : Nat), i ≤ ns.length ∧ f 5 = .iv (.int .i64 i) ∧ f 0 = .hp 900000 1 0 0 ∧ Bq ns1 qs is H) (fun f H => (ns.length - intAt f 5).toNat) ?_ ?_
  ·refine ⟨0, by omega, ?_⟩
   simp only [wt, seval, h0]
   exact hB
  clear h3 h0 hB hK hN
  rintro f H ⟨i, hi, h3, h0, hB⟩
  rw [intAt_of h3]
  have hK := hB.k
  have hN := hB.n
  rw [hl1] at hN
  simp (disch := omega) only [wt, seval, Nat.add_zero, wxB, h3, h0, hK, hN]
  refine if_by (fun hlt => ?_) (fun hlt => ?_)
  ·obtain ⟨q, hpq⟩ : ∃ q, ns1[i]? = some q := ⟨_, List.getElem?_eq_getElem (by omega)⟩
   have hql := (hb1.n q (List.mem_of_getElem? hpq)).1
   have hPi := hB.nr i q hpq
   simp (disch := omega) only [wt, seval, Nat.add_zero, wxB, h3, h0, hK, hN, hPi]
   exact ⟨⟨i + 1, by omega, rfl, ((hB.upd (by omega) _).sameN hb1 hpq).sameN hb1 hpq⟩, by omega⟩
  ·simp (disch := omega) only [wt, seval]
   refine aloop_by (fun f H => ∃ (i : Nat), i ≤ ns.length ∧ f 6 = .iv (.int .i64 i) ∧ f 0 = .hp 900000 1 0 0 ∧ Bq ns1 qs is H) (fun f H => (ns.length - intAt f 6).toNat) ?_ ?_
   ·refine ⟨0, by omega, ?_⟩
    simp only [wt, seval, h0]
    exact hB
   clear h3 h0 hB hK hN
   rintro f H ⟨i, hi, h3, h0, hB⟩
   rw [intAt_of h3]
   have hK := hB.k
   have hN := hB.n
   rw [hl1] at hN
   simp (disch := omega) only [wt, seval, Nat.add_zero, wxB, h3, h0, hK, hN]
   refine if_by (fun hlt => ?_) (fun hlt => ?_)
   ·obtain ⟨q, hpq⟩ : ∃ q, ns1[i]? = some q := ⟨_, List.getElem?_eq_getElem (by omega)⟩
    have hql := (hb1.n q (List.mem_of_getElem? hpq)).1
    have hPi := hB.nr i q hpq
    have hqm := hm i q hpq
    simp (disch := omega) only [wt, seval]
    refine aloop_by (fun f H => ∃ (j : Nat), j ≤ q.length ∧ f 7 = .iv (.int .i64 j) ∧ f 6 = .iv (.int .i64 i) ∧ f 0 = .hp 900000 1 0 0 ∧ Bq ns1 qs is H) (fun f H => (q.length - intAt f 7).toNat) ?_ ?_
    ·refine ⟨0, by omega, ?_⟩
     simp only [wt, seval, h3, h0]
     exact hB
    clear h3 h0 hB hK hN hPi
    rintro f H ⟨j, hj, h4, h3, h0, hB⟩
    rw [intAt_of h4]
    have hK := hB.k
    have hN := hB.n
    rw [hl1] at hN
    have hPi := hB.nr i q hpq
    have e : IntKind.u64.wrap (1000 * (i : Int) + (j : Int)) = ((1000 * i + j : Nat) : Int) := by rw [wrap_u64 (by omega)]; omega
    simp (disch := omega) only [wt, seval, Nat.add_zero, wxB, h4, h3, h0, hK, hN, hPi]
    refine if_by (fun hlt2 => ?_) (fun hlt2 => ?_)
    ·have hget : q.getD j [] = [.int .u64 ((1000 * i + j : Nat) : Int)] := by
      have h1 : q.getD j [] = (lims (nks i q.length)).getD j [] := by rw [← hqm]
      rw [h1, nks_get _ _ _ (by omega)]
     simp (disch := omega) only [wt, seval, Nat.add_zero, wxB, h4, h3, h0, hK, hN, hPi, e, hget]
     exact ⟨⟨j + 1, by omega, rfl, hB⟩, by omega⟩
    ·simp (disch := omega) only [wt, seval, h3, h0]
     exact ⟨⟨i + 1, by omega, rfl, hB⟩, by omega⟩
   ·simp (disch := omega) only [wt, seval, h0]
    refine calli_by (bqouter_ok ns1 qs is hb1 H hB) ?_
    rintro x2 H2 rfl
    simp only [wt, seval]
    exact reti_tmp (by simp only [wt, seval]) rfl

set_option linter.defProp false
@[reducible] def zK : Zi := ⟨none, (· == 178), fun _ => false, .strip⟩
theorem stripV_iv (x : IV) : stripV (.iv x) = .iv (stripI x) := rfl
theorem stripV_agg (cs : List IV) : stripV (.agg cs) = .agg (cs.map stripI) := rfl
theorem stripI_av (X : Nat → Prop) (x : IV) : stripI (.av X x) = x := rfl
theorem stripI_sl (r : List (List IV)) : stripI (.sl r) = .sl r := rfl
theorem stripI_bool (b : Bool) : stripI (.bool b) = .bool b := rfl
theorem stripI_int (k : IntKind) (n : Int) : stripI (.int k n) = .int k n := rfl
theorem stripI_own (b : OB) (e sz : Nat) (r : List (List IV)) : stripI (.own b e sz r) = .own b e sz r := rfl
def wxS := And.intro @stripV_iv (And.intro @stripV_agg (And.intro @stripI_av (And.intro @stripI_sl (And.intro @stripI_bool (And.intro @stripI_int (And.intro @stripI_own (And.intro @lay_own (And.intro @spl_own (And.intro @fld_int1 (And.intro @AWs_succ (@AWs_zero)))))))))))
abbrev RmV (bo bi : OB) (bs cs : List OB) (p : List RI) : List IV := [.own bo 30 2 (gws bs p), .own bo 30 2 (gws (bs ++ cs) (p ++ spares)), .own bi (if p = [] then 0 else 28) (if p = [] then 0 else 1) (iws bs p)]
def rp (ps : List (List Int)) : List (List IV) := ps.map fun q => [.sl (raws (q.map canon))]
def rn (ns : List (List Nat)) : List (List IV) := ns.map fun n => [.sl (lims n)]
theorem spl3 (x y z a b c : IV) : splice [x, y, z] 0 [a, b, c] = [a, b, c] := rfl
theorem gws_key {bs : List OB} {p : List RI} {i : Nat} {r r' : List IV} (hr : (gws bs p)[i]? = some r) (hr' : (raws p)[i]? = some r') : ∃ o c, r = gint o c ∧ r' = prow c := by
 rw [gws, List.getElem?_zipWith] at hr
 simp only [raws, List.getElem?_map] at hr'
 cases hb : bs[i]? with
 | none => rw [hb] at hr; simp at hr
 | some o =>
  cases hp : p[i]? with
  | none => rw [hp] at hr'; cases hr'
  | some c =>
   rw [hb, hp] at hr; rw [hp] at hr'
   injection hr with hr; injection hr' with hr'
   exact ⟨o, c, hr.symm, hr'.symm⟩
theorem soft_gint (o : OB) (c : RI) : ∀ (j : Nat) (x y : IV), (gint o c)[j]? = some x → (prow c)[j]? = some y → Soft x y
 | 0, x, y, hx, hy => by cases hx; cases hy; exact .refl _
 | 1, x, y, hx, hy => by
  cases hx; cases hy
  refine .own _ _ _ _ _ rfl (fun i r r' h h' => ?_) (fun i r r' h h' j x x' hx hx' => ?_)
  ·rw [h] at h'; cases h'; rfl
  ·rw [h] at h'; cases h'; rw [hx] at hx'; cases hx'; exact .refl _
 | j + 2, x, y, hx, _ => by simp [gint] at hx
theorem soft_gws {b : OB} {e : Nat} {bs : List OB} {p : List RI} (h : bs.length = p.length) : Soft (.own b e 2 (gws bs p)) (.sl (raws p)) := by
 refine .own _ _ _ _ _ (by rw [gws_len h]; simp [raws]) (fun i r r' hr hr' => ?_) (fun i r r' hr hr' => ?_)
 ·obtain ⟨o, c, rfl, rfl⟩ := gws_key hr hr'; rfl
 ·obtain ⟨o, c, rfl, rfl⟩ := gws_key hr hr'; exact soft_gint _ _
theorem slimbs_ok (l : List Nat) (hl : l.length ≤ 2 ^ 43) : AC Tryz.prog 128 [cl l, cl l] none [cb true] := by
 refine AC.by_walk (rs := [.tmp 4]) ords Tryz.func128 (by rfl) (by rfl) (by rfl) (by rfl) (by rfl) ?_
 simp (disch := omega) only [wt, seval]
 refine aloop_by (fun f H => ∃ i : Nat, i ≤ l.length ∧ f 5 = .iv (.int .i64 i) ∧ f 0 = .iv (.sl (lims l)) ∧ f 1 = .iv (.sl (lims l))) (fun f H => (l.length - intAt f 5).toNat) ?_ ?_
 ·refine ⟨0, by omega, ?_⟩
  simp only [wt, seval]
 rintro f H ⟨i, hi, h5, h0, h1⟩
 rw [intAt_of h5]
 simp (disch := omega) only [wt, seval, h5, h0]
 refine if_by (fun hlt => ?_) (fun hlt => ?_)
 ·simp (disch := omega) only [wt, seval, h5, h0, h1]
  refine .inl ⟨tmps_by (by kernel_rfl), ?_⟩
  refine ⟨log_by (by kernel_rfl), ?_⟩
  exact ⟨⟨i + 1, by omega, rfl⟩, by omega⟩
 ·simp (disch := omega) only [wt, seval]
def RmS (p : List RI) : List IV := [.sl (raws p), .sl (raws (p ++ spares)), .sl (p.map fun c => [.sl (lims (c.2 ++ marks))])]
theorem in_len (p : List RI) : (p.map fun c : RI => [IV.sl (lims (c.2 ++ marks))]).length = p.length := by simp
theorem in_get (p : List RI) {i : Nat} {c : RI} (h : p[i]? = some c) : (p.map fun c : RI => [IV.sl (lims (c.2 ++ marks))]).getD i [] = [.sl (lims (c.2 ++ marks))] := by simp [List.getD, h]
theorem iws_get {bs : List OB} {p : List RI} (hl : bs.length = p.length) {i : Nat} {c : RI} (h : p[i]? = some c) : (iws bs p).getD i [] = [fnat (bs.getD i none) (c.2 ++ marks)] := by
 have hi := (List.getElem?_eq_some_iff.1 h).1
 have h2 : i < bs.length := by omega
 simp [iws, List.getD, List.getElem?_zipWith, h, List.getElem?_eq_getElem h2]
set_option maxRecDepth 8000 in
theorem sound_ok (p : List RI) (h : RP 40 200 p) : AC Tryz.prog 62 [.agg (RmS p), cw p] none [cb true] := by
 refine AC.by_walkm (zi := zi0) (rs := [.tmp 4]) ords Tryz.func62 (by rfl) (by rfl) (by rfl) (by rfl) (by rfl) (fun B => ?_)
 unfold RmS
 simp (disch := omega) only [wt, seval]
 refine callx_by ((room_ok p (h.mono (by decide) (by decide)))) (by rfl) (by simp) (by rfl) ?_
 rintro B1 E1 _ hB1 hE1 ⟨bo, bi, bs, cs, rfl, hbl, hcl, hn⟩
 simp (disch := omega) only [wt, seval, spl3]
 have hs : RP (2 ^ 40) (2 ^ 43) p := h.mono (by decide) (by decide)
 have hs2 : RP (2 ^ 40) (2 ^ 43) (p ++ spares) := ⟨by have := h.1; simp [spares]; omega, fun c hc => by
  rcases List.mem_append.1 hc with hc | hc
  ·exact hs.2 c hc
  ·simp only [spares, List.mem_cons, List.not_mem_nil, or_false] at hc
   rcases hc with rfl | rfl | rfl | rfl | rfl | rfl <;> exact ⟨by simp, Lim.cons (by decide) Lim.nil⟩⟩
 have hbc : (bs ++ cs).length = (p ++ spares).length := by simp [hbl, hcl, spares]
 have il := iws_len hbl
 have hl := h.1
 have il2 := in_len p
 refine call_by ((sform_ok p p hs hs)) (by rfl) (by simp) ?_
 simp (disch := omega) only [wt, seval]
 refine call_by (((sform_ok _ _ hs2 hs2).soft (.cons (.refl _) (.cons (.iv (soft_gws hbc)) .nil)))) (by rfl) (by simp) ?_
 simp (disch := omega) only [wt, seval, il, il2]
 refine aloop_by (fun f H => ∃ i : Nat, i ≤ p.length ∧ f 6 = .iv (.int .i64 i) ∧ f 2 = .hp 2 1 0 0 ∧ f 5 = .hp 5 1 0 0 ∧ H 2 = .blk false 1 79 3 [RmS p] ∧ H 5 = .blk false 1 79 3 [RmV bo bi bs cs p]) (fun f H => (p.length - intAt f 6).toNat) ?_ ?_
 ·refine ⟨0, by omega, ?_⟩
  simp only [wt, seval, RmS, RmV]
 rintro f H ⟨i, hi, h6, h2, h5, hH2, hH5⟩
 rw [intAt_of h6]
 unfold RmS at hH2
 simp (disch := omega) only [wt, seval, h6, h2, hH2, il2]
 refine if_by (fun hlt => ?_) (fun hlt => ?_)
 ·obtain ⟨c, hpc⟩ : ∃ c, p[i]? = some c := ⟨_, List.getElem?_eq_getElem (by omega)⟩
  have g1 := in_get p hpc
  have g2 := iws_get hbl hpc
  have hc := (h.2 c (List.mem_of_getElem? hpc)).1
  simp (disch := omega) only [wt, seval, h6, h2, h5, hH2, hH5, il2, il, g1, g2]
  refine .inl ⟨tmps_by (by kernel_rfl), ?_⟩
  refine call_by (((slimbs_ok (c.2 ++ marks) (by simp [marks]; omega)).soft (.cons (.refl _) (.cons (soft_fnat _ _) .nil)))) (by rfl) (by simp) ?_
  simp (disch := omega) only [wt, seval, h6, h2, h5, hH2, hH5]
  refine ⟨log_by (by kernel_rfl), ?_⟩
  exact ⟨⟨i + 1, by omega, rfl, rfl⟩, by omega⟩
 ·simp (disch := omega) only [wt, seval]
def x6 (n : Nat) : Nat := (BitVec.ofInt 64 (n : Int) ^^^ BitVec.ofInt 64 6).toNat
@[reducible] def alO : Nat → Nat → Nat → Option Nat := fun h i off => if h = 1 then (if off = 0 then some 3000000 else none) else if h = 2000 then (if off = 1 then some (2000000 + i) else none) else none
@[reducible] def zO : Zi := ⟨none, fun _ => false, fun _ => false, .al alO⟩
def orow (vm : Nat → Value) (q : List RI) : List (List IV) := (List.range q.length).map fun i => [.bool (q.getD i (false, [])).1, .raw (vm i)]
def OvH (vm : Nat → Value) (hG : Value) (sp : List (List IV)) (p q : List RI) (H : AL.Hp) : Prop :=
 H 2000 = .blk false 1 30 2 (orow vm q ++ sp) ∧ (∀ k, k < p.length → H (1000000 + k) = .blk false 1 134 1 (lims ((q.getD k (false, [])).2 ++ marks))) ∧
 (∀ k, k < p.length → H (2000000 + k) = .tie (.hv (1000000 + k) 1 0 (p.getD k (false, [])).2.length) (vm k)) ∧ H 3000000 = .tie (.hv 2000 1 0 p.length) hG
theorem OvH.upd {vm : Nat → Value} {hG : Value} {sp : List (List IV)} {p q : List RI} {H : AL.Hp} (h : OvH vm hG sp p q H) {k : Nat} (hk : k < 2000) (c : HC) : OvH vm hG sp p q (updH H k c) :=
 ⟨by rw [updH_ne _ _ (by omega)]; exact h.1, fun j hj => by rw [updH_ne _ _ (by omega)]; exact h.2.1 j hj, fun j hj => by rw [updH_ne _ _ (by omega)]; exact h.2.2.1 j hj, by rw [updH_ne _ _ (by omega)]; exact h.2.2.2⟩
theorem scopyint_ok (c : RI) (h : c.2.length ≤ 2 ^ 40) : AC Tryz.prog 111 [cr c] none [cr c] := by
 refine AC.by_walk (rs := [.cell 2 30]) ords Tryz.func111 (by rfl) (by rfl) (by rfl) (by rfl) (by rfl) ?_
 simp (disch := omega) only [wt, seval, spl_own, List.take_succ_cons, List.take_zero]
 refine .inl ⟨tmps_by (by kernel_rfl), ?_⟩
 refine ⟨log_by (by kernel_rfl), ?_⟩
 rfl
theorem nodup_ids {g c c' : Nat} : ∀ {bs : List OB} {i j : Nat}, (ids bs).Nodup → i ≠ j → bs.getD i none = some (g, c) → bs.getD j none ≠ some (g, c') := by
 intro bs
 induction bs with
 | nil => intro i j _ _ h; simp at h
 | cons b bs ih =>
  intro i j hn hij hi hj
  have hn' : (oid b ++ ids bs).Nodup := by simpa [ids] using hn
  obtain ⟨h1, h2, h3⟩ := List.nodup_append.1 hn'
  have mem : ∀ k c, bs.getD k none = some (g, c) → g ∈ ids bs := by
   intro k c hk
   have hlt : k < bs.length := by
    rcases Nat.lt_or_ge k bs.length with h | h
    ·exact h
    ·rw [List.getD_eq_getElem?_getD, List.getElem?_eq_none h] at hk; cases hk
   rw [List.getD_eq_getElem?_getD, List.getElem?_eq_getElem hlt] at hk
   simp only [Option.getD_some] at hk
   rw [ids, List.mem_flatMap]
   exact ⟨_, List.getElem_mem hlt, by rw [hk]; simp [oid]⟩
  cases i with
  | zero =>
   cases j with
   | zero => exact hij rfl
   | succ j =>
    simp only [List.getD_cons_zero, List.getD_cons_succ] at hi hj
    exact h3 g (by rw [hi]; simp [oid]) g (mem j _ hj) rfl
  | succ i =>
   cases j with
   | zero =>
    simp only [List.getD_cons_zero, List.getD_cons_succ] at hi hj
    exact h3 g (by rw [hj]; simp [oid]) g (mem i _ hi) rfl
   | succ j =>
    simp only [List.getD_cons_succ] at hi hj
    exact ih h2 (by omega) hi hj
theorem mem_ids {bs : List OB} {k g c : Nat} (hk : bs.getD k none = some (g, c)) : g ∈ ids bs := by
 have hlt : k < bs.length := by
  rcases Nat.lt_or_ge k bs.length with h | h
  ·exact h
  ·rw [List.getD_eq_getElem?_getD, List.getElem?_eq_none h] at hk; cases hk
 rw [List.getD_eq_getElem?_getD, List.getElem?_eq_getElem hlt] at hk
 simp only [Option.getD_some] at hk
 rw [ids, List.mem_flatMap]
 exact ⟨_, List.getElem_mem hlt, by rw [hk]; simp [oid]⟩
theorem rep_flat {w w' : World} {D D' : Nat → Prop} {x : IV} {v : Value} (h : Rep w D x v) (hx : (∃ k n, x = .int k n) ∨ ∃ b, x = .bool b) : Rep w' D' x v := by
 rcases hx with ⟨k, n, rfl⟩ | ⟨b, rfl⟩
 ·cases h; exact .int _ _
 ·cases h; exact .bool _
theorem lims_rows (l : List Nat) : ∀ r ∈ lims l, r.length = 1 := by
 intro r hr
 simp only [lims, List.mem_map] at hr
 obtain ⟨i, _, rfl⟩ := hr
 rfl
theorem cells_of {w : World} {D M : Nat → Prop} {B : Nat} {v : Value} {e : Nat} {α : Type} {l : List α} {g : α → IV} (h : AL.Own w D B M v e 1 (l.map fun x => [g x])) (hne : l ≠ []) :
  ∃ gb cap cur, v = .slice (some ⟨gb, 0, none⟩) l.length cap ∧ (B ≤ gb ∨ M gb) ∧ w.heap[gb]? = some (.cells cur e (0, 0)) ∧ l.length ≤ cap ∧ cap ≤ maxLen ∧ cur.size = cap ∧ ∀ i x, l[i]? = some x → Rep w D (g x) (cur.getD i Go.undef) := by
 rcases h.2 with ⟨h, _⟩ | ⟨gb, cap, cur, h1, h2, h3, h4, h5, h6, h7⟩
 ·exact (hne (List.map_eq_nil_iff.1 h)).elim
 ·rw [List.length_map] at h1 h4 h7
  refine ⟨gb, cap, cur, h1, h2, h3, h4, h5, by omega, fun i x hi => ?_⟩
  have hf := flatten_get (sz := 1) (l.map fun x => [g x]) i 0 [g x] (g x) h.1 (by rw [List.getElem?_map, hi]; rfl) rfl
  obtain ⟨c, hc, hr⟩ := h7.get _ _ hf
  rw [List.getElem?_take] at hc
  split at hc
  ·rw [Array.getElem?_toList] at hc
   rw [Array.getD_eq_getD_getElem?]
   rw [show i * 1 + 0 = i by omega] at hc
   rw [hc]; exact hr
  ·cases hc
theorem avreps_range {w : World} {D : Nat → Prop} {H : AL.Hp} {β : Nat → Value} {g : Nat → AV} {m : Nat} : ∀ {n : Nat} {vs : List Value}, vs.length = n → (∀ i v, i < n → vs[i]? = some v → AVRep w D H β (g (m + i)) v) → AVReps w D H β ((List.range' m n).map g) vs := by
 intro n
 induction n generalizing m with
 | zero =>
  intro vs hl h
  match vs, hl with
  | [], _ => simp [AVReps]
 | succ n ih =>
  intro vs hl h
  match vs, hl with
  | v :: vs, hl =>
   rw [List.range'_succ]
   simp only [List.map_cons, AVReps]
   refine ⟨h 0 v (by omega) rfl, ih (by simpa using hl) fun i u hi hu => ?_⟩
   have := h (i + 1) u (by omega) (by simpa using hu)
   rwa [show m + (i + 1) = m + 1 + i by omega] at this
theorem hws_reps {w : World} {D : Nat → Prop} {H : AL.Hp} {β : Nat → Value} {k n : Nat} {cur : Array Value} (hl : n ≤ cur.size) (h : ∀ i, i < n → AVRep w D H β (.hw (k + i) 1) (cur.getD i Go.undef)) : AVReps w D H β (hws k n) (cur.toList.take n) := by
 unfold hws
 rw [List.range_eq_range']
 refine avreps_range (by rw [List.length_take]; have : cur.toList.length = cur.size := Array.length_toList; omega) fun i v hi hv => ?_
 rw [List.getElem?_take, if_pos hi, Array.getElem?_toList] at hv
 have := h i hi
 rw [Array.getD_eq_getD_getElem?, hv] at this
 simpa using this
theorem own_raw {w : World} {D : Nat → Prop} {b : OB} {e sz : Nat} {rows : Lw} {v : Value} (h : Rep w D (.own b e sz rows) v) {B : Nat} (hB : ∀ g c, b = some (g, c) → B ≤ g) :
  ∃ rows' : Lw, rows'.length = rows.length ∧ (∀ r ∈ rows', r.length = sz) ∧ ∀ D' : Nat → Prop, AL.Own w D' B (fun _ => False) v e sz rows' := by
 cases h with
 | ownN => exact ⟨[], rfl, by simp, fun D' => ⟨by simp, .inl ⟨rfl, rfl⟩⟩⟩
 | own rows g cap e sz cur hsz hlen hcap hg hD hcs hc =>
  obtain ⟨rows', hr⟩ : ∃ rows' : Lw, rows' = (List.range rows.length).map fun i => (List.range sz).map fun j => .raw (cur.getD (i * sz + j) Go.undef) := ⟨_, rfl⟩
  have rl : rows'.length = rows.length := by rw [hr]; simp
  have r2 : ∀ r ∈ rows', r.length = sz := fun r h => by
   rw [hr] at h
   obtain ⟨i, _, rfl⟩ := List.mem_map.1 h
   simp
  refine ⟨rows', rl, r2, fun D' => ⟨r2, .inr ⟨g, cap, cur, by rw [rl], .inl (hB g cap rfl), hg, by omega, hcap, hcs, reps_of_cells r2 (by rw [rl, hcs]; exact Nat.mul_le_mul_right _ hlen) fun i r hi j x hj => ?_⟩⟩⟩
  have hi2 : i < rows.length := by have := (List.getElem?_eq_some_iff.1 hi).1; omega
  rw [hr, List.getElem?_map, List.getElem?_range hi2] at hi
  simp only [Option.map_some, Option.some.injEq] at hi
  subst hi
  have hj2 : j < sz := by have := (List.getElem?_eq_some_iff.1 hj).1; simpa using this
  rw [List.getElem?_map, List.getElem?_range hj2] at hj
  simp only [Option.map_some, Option.some.injEq] at hj
  subst hj
  have hrow : rows[i]? = some rows[i] := List.getElem?_eq_getElem hi2
  have hl := hsz _ _ hrow
  have hcell : rows[i][j]? = some (rows[i][j]'(by omega)) := List.getElem?_eq_getElem (by omega)
  exact .raw _ (hc i _ hrow j _ hcell).one
def kb : Nat → Nat | 1 => 600002 | 2 => 600001 | _ => 600003
def kt : Nat → Nat | 1 => 900002 | 2 => 900001 | _ => 900003
def kl : Nat → Nat | 1 => 28 | 2 => 23 | _ => 102
def ke : Nat → Nat | 1 => 134 | 2 => 32 | _ => 3
def ks : Nat → Nat | 1 => 1 | 2 => 3 | _ => 1
abbrev BL := List (OB × Lw)
def brow (m : Nat) (x : OB × Lw) : List IV := [.own x.1 (ke m) (ks m) x.2]
def OB3 (L : Nat → BL) : List OB := (L 1).map (·.1) ++ (L 2).map (·.1) ++ (L 3).map (·.1)
def off (L : Nat → BL) : Nat → Nat | 1 => 0 | 2 => (L 1).length | _ => (L 1).length + (L 2).length
def AvI (B : Nat) (x : IV) : Prop := (∃ y, x = .av (fun b => B ≤ b) y) ∨ (∃ k n, x = .int k n) ∨ ∃ b, x = .bool b
theorem ob3_get {L : Nat → BL} {m i : Nat} {x : OB × Lw} (hm : m = 1 ∨ m = 2 ∨ m = 3) (hi : (L m)[i]? = some x) : (OB3 L).getD (off L m + i) none = x.1 := by
 obtain ⟨hlt, he⟩ := List.getElem?_eq_some_iff.1 hi
 rcases hm with rfl | rfl | rfl
 ·simp [OB3, off, List.getD, List.getElem?_append_left, hlt, he]
 ·simp [OB3, off, List.getD, List.getElem?_append_right, List.getElem?_append_left, hlt, he]
 ·have e : (L 1).length + (L 2).length + i - (L 1).length - (L 2).length = i := by omega
  have e2 : (L 1).length + (L 2).length + i - ((L 1).length + (L 2).length) = i := by omega
  simp [OB3, off, List.getD, List.getElem?_append_right, hi, e, e2, ← List.append_assoc]
set_option maxHeartbeats 2000000 in
theorem to_bq (L : Nat → BL) {B1 : Nat} {D0 : Nat → Prop} {w0 : World} {f : AL.Fr} {H : AL.Hp} {β : Nat → Value} {a : Act} {w : World} {n : Nat} (R : Rel ⟨fun _ _ => False, true⟩ (fun _ => False) w0 D0 n f H β a w) (h7 : f 7 = .hp 47 1 0 0)
  (hB : Bk0 ((L 1).map (brow 1)) ((L 2).map (brow 2)) ((L 3).map (brow 3)) H) (hne : ∀ m, L m ≠ []) (hlen : (L 1).length ≤ 100000 ∧ (L 2).length ≤ 1000 ∧ (L 3).length ≤ 1000) (hel : ∀ m x, x ∈ L m → x.2.length ≤ if m = 1 then 100000 else 1000)
  (od : (ids (OB3 L)).Nodup) (orng : ∀ g ∈ ids (OB3 L), B1 ≤ g) (hw : w0.heap.size ≤ B1) (rows : Nat → List IV) (te ts : Nat → Nat)
  (hk : ∀ t, t = 1 ∨ t = 3 ∨ t = 6 → f t = .hp (800000 + t) 1 0 0 ∧ H (800000 + t) = .blk false 1 (te t) (ts t) [rows t] ∧ ∀ x ∈ rows t, AvI B1 x) (hv : ∀ t, t = 4 ∨ t = 5 → ∃ y, f t = .iv (.av (fun b => B1 ≤ b) y)) :
  ∃ f' H' β' ns qs is, BqS ns qs is ∧ Bq ns qs is H' ∧ f' 7 = .hp 900000 1 0 0 ∧ (∀ t, t = 1 ∨ t = 3 ∨ t = 6 → f' t = .ip (rows t)) ∧ (∀ t, t = 4 ∨ t = 5 → f' t = f t) ∧ Rel ⟨fun _ _ => False, true⟩ (fun _ => False) w0 D0 n f' H' β' a w := by
 obtain ⟨rn, rq, ri, sn, sq, si, h47, hN, hQ, hI⟩ := hB
 have ne' : ∀ m, (L m).map (brow m) ≠ [] := fun m h => hne m (List.map_eq_nil_iff.1 h)
 obtain ⟨rfl, c1⟩ := hN.resolve_left fun h => ne' 1 h.1
 obtain ⟨rfl, c2⟩ := hQ.resolve_left fun h => ne' 2 h.1
 obtain ⟨rfl, c3⟩ := hI.resolve_left fun h => ne' 3 h.1
 have hs : ∀ m, m = 1 ∨ m = 2 ∨ m = 3 → ∃ s, H (kb m) = .blk false s (kl m) 1 ((L m).map (brow m)) := fun m hm => by
  rcases hm with rfl | rfl | rfl
  ·exact ⟨_, c1⟩
  ·exact ⟨_, c2⟩
  ·exact ⟨_, c3⟩
 have hcell : ∀ m, ∃ (gb cap : Nat) (cur : Array Value), (m = 1 ∨ m = 2 ∨ m = 3) → β (kb m) = .slice (some ⟨gb, 0, none⟩) (L m).length cap ∧ (w0.heap.size ≤ gb ∨ False) ∧ w.heap[gb]? = some (.cells cur (kl m) (0, 0)) ∧ (L m).length ≤ cap ∧ cap ≤ maxLen ∧ cur.size = cap ∧ ∀ i x, (L m)[i]? = some x → Rep w (DD H β D0) (.own x.1 (ke m) (ks m) x.2) (cur.getD i Go.undef) := fun m => by
  by_cases hm : m = 1 ∨ m = 2 ∨ m = 3
  ·obtain ⟨s, h⟩ := hs m hm
   obtain ⟨gb, cap, cur, h⟩ := cells_of (g := fun x : OB × Lw => IV.own x.1 (ke m) (ks m) x.2) (R.own _ _ _ _ _ h) (hne m)
   exact ⟨gb, cap, cur, fun _ => h⟩
  ·exact ⟨0, 0, #[], fun h => (hm h).elim⟩
 obtain ⟨gb, hcell⟩ := Classical.axiomOfChoice hcell
 obtain ⟨cap, hcell⟩ := Classical.axiomOfChoice hcell
 obtain ⟨cur, hcell⟩ := Classical.axiomOfChoice hcell
 have low : ∀ {k g c : Nat}, (OB3 L).getD k none = some (g, c) → w0.heap.size ≤ g := fun hk => by
  have := orng _ (mem_ids hk); omega
 have hraw : ∀ m i, ∃ rows' : Lw, (m = 1 ∨ m = 2 ∨ m = 3) → ∀ x, (L m)[i]? = some x → rows'.length = x.2.length ∧ (∀ r ∈ rows', r.length = ks m) ∧ ∀ D' : Nat → Prop, AL.Own w D' w0.heap.size (fun _ => False) ((cur m).getD i Go.undef) (ke m) (ks m) rows' := fun m i => by
  by_cases hm : m = 1 ∨ m = 2 ∨ m = 3
  ·cases hj : (L m)[i]? with
   | none => exact ⟨[], fun _ x hx => by cases hx⟩
   | some x =>
    obtain ⟨r', h1, h2, h3⟩ := own_raw ((hcell m hm).2.2.2.2.2.2 i x hj) (B := w0.heap.size) (fun g c hb => low (by rw [ob3_get hm hj]; exact hb))
    exact ⟨r', fun _ y hy => by cases hy; exact ⟨h1, h2, h3⟩⟩
  ·exact ⟨[], fun h => (hm h).elim⟩
 obtain ⟨rowsR, hraw⟩ : ∃ rowsR : Nat → Nat → Lw, ∀ m i, (m = 1 ∨ m = 2 ∨ m = 3) → ∀ x, (L m)[i]? = some x → (rowsR m i).length = x.2.length ∧ (∀ r ∈ rowsR m i, r.length = ks m) ∧ ∀ D' : Nat → Prop, AL.Own w D' w0.heap.size (fun _ => False) ((cur m).getD i Go.undef) (ke m) (ks m) (rowsR m i) := by
  obtain ⟨r1, h1⟩ := Classical.axiomOfChoice fun m => Classical.axiomOfChoice (hraw m)
  exact ⟨r1, h1⟩
 obtain ⟨H', hH'⟩ : ∃ H' : AL.Hp, H' = fun h => if h = 900000 then .nst 1 88 [.hs 900002 1, .nils, .hs 900001 1, .nils, .nils, .hs 900003 1] else if h = 900002 then .nst 1 (kl 1) (hws 1000000 (L 1).length) else if h = 900001 then .nst 1 (kl 2) (hws 2000000 (L 2).length) else if h = 900003 then .nst 1 (kl 3) (hws 3000000 (L 3).length)
  else if (h / 1000000 = 1 ∨ h / 1000000 = 2 ∨ h / 1000000 = 3) ∧ h % 1000000 < (L (h / 1000000)).length then .blk false 1 (ke (h / 1000000)) (ks (h / 1000000)) (rowsR (h / 1000000) (h % 1000000)) else .none := ⟨_, rfl⟩
 obtain ⟨β', hβ'⟩ : ∃ β' : Nat → Value, β' = fun h => if h = 900000 then β 47 else if h = 900002 then β 600002 else if h = 900001 then β 600001 else if h = 900003 then β 600003 else (cur (h / 1000000)).getD (h % 1000000) Go.undef := ⟨_, rfl⟩
 have g0 : H' 900000 = .nst 1 88 [.hs 900002 1, .nils, .hs 900001 1, .nils, .nils, .hs 900003 1] := by rw [hH']; simp
 have b0 : β' 900000 = β 47 := by rw [hβ']; simp
 have gT : ∀ m, m = 1 ∨ m = 2 ∨ m = 3 → H' (kt m) = .nst 1 (kl m) (hws (m * 1000000) (L m).length) ∧ β' (kt m) = β (kb m) := fun m hm => by
  rcases hm with rfl | rfl | rfl <;> (rw [hH', hβ']; simp [kt, kb])
 have ml : ∀ m, m = 1 ∨ m = 2 ∨ m = 3 → (L m).length ≤ 100000 := fun m hm => by
  rcases hm with rfl | rfl | rfl <;> omega
 have dv : ∀ m i, i ≤ 100000 → (m * 1000000 + i) / 1000000 = m ∧ (m * 1000000 + i) % 1000000 = i := fun m i hi => by omega
 have gE : ∀ m i, m = 1 ∨ m = 2 ∨ m = 3 → i < (L m).length → H' (m * 1000000 + i) = .blk false 1 (ke m) (ks m) (rowsR m i) ∧ β' (m * 1000000 + i) = (cur m).getD i Go.undef := fun m i hm hi => by
  have := ml m hm
  obtain ⟨d1, d2⟩ := dv m i (by omega)
  have n1 : 1 ≤ m := by omega
  rw [hH', hβ']
  simp only
  rw [if_neg (by omega), if_neg (by omega), if_neg (by omega), if_neg (by omega), if_pos (by rw [d1, d2]; exact ⟨hm, hi⟩), if_neg (by omega), if_neg (by omega), if_neg (by omega), if_neg (by omega), d1, d2]
  exact ⟨rfl, rfl⟩
 have gc : ∀ h, h = 900000 ∨ (∃ m, (m = 1 ∨ m = 2 ∨ m = 3) ∧ h = kt m) ∨ (∃ m i, (m = 1 ∨ m = 2 ∨ m = 3) ∧ i < (L m).length ∧ h = m * 1000000 + i) ∨ H' h = .none := fun h => by
  by_cases c1 : h = 900000
  ·exact .inl c1
  by_cases c2 : h = 900002
  ·exact .inr (.inl ⟨1, .inl rfl, c2⟩)
  by_cases c3 : h = 900001
  ·exact .inr (.inl ⟨2, .inr (.inl rfl), c3⟩)
  by_cases c4 : h = 900003
  ·exact .inr (.inl ⟨3, .inr (.inr rfl), c4⟩)
  by_cases c5 : (h / 1000000 = 1 ∨ h / 1000000 = 2 ∨ h / 1000000 = 3) ∧ h % 1000000 < (L (h / 1000000)).length
  ·exact .inr (.inr (.inl ⟨h / 1000000, h % 1000000, c5.1, c5.2, by omega⟩))
  ·exact .inr (.inr (.inr (by rw [hH']; simp only; rw [if_neg c1, if_neg c2, if_neg c3, if_neg c4, if_neg c5])))
 have get : ∀ m i, i < (L m).length → ∃ x, (L m)[i]? = some x := fun m i hi => ⟨_, List.getElem?_eq_getElem hi⟩
 have headE : ∀ m i x g, m = 1 ∨ m = 2 ∨ m = 3 → (L m)[i]? = some x → headOf ((cur m).getD i Go.undef) = some g → ∃ c, (OB3 L).getD (off L m + i) none = some (g, c) := fun m i x g hm hi hg => by
  have hv := ((hcell m hm).2.2.2.2.2.2 i x hi).own_len.1
  rw [hv] at hg
  rw [ob3_get hm hi]
  cases hb : x.1 with
  | none => rw [hb] at hg; simp [headOf] at hg
  | some p => rw [hb] at hg; simp [headOf] at hg; exact ⟨p.2, by rw [← hg]⟩
 have notDD : ∀ g ∈ ids (OB3 L), ¬ DD H β D0 g := fun g hg => by
  rw [ids, List.mem_flatMap] at hg
  obtain ⟨o, ho, hg⟩ := hg
  cases o with
  | none => simp [oid] at hg
  | some p =>
   simp only [oid, List.mem_singleton] at hg
   subst hg
   have fin : ∀ m, (m = 1 ∨ m = 2 ∨ m = 3) → some p ∈ (L m).map (·.1) → ¬ DD H β D0 p.1 := fun m hm ho => by
    obtain ⟨x, hx, e⟩ := List.mem_map.1 ho
    obtain ⟨j, hj⟩ := List.getElem?_of_mem hx
    exact (((hcell m hm).2.2.2.2.2.2 j x hj).ids p.1 (by rw [e]; simp [IV.ids])).1
   rcases List.mem_append.1 ho with ho | ho
   ·rcases List.mem_append.1 ho with ho | ho
    ·exact fin 1 (.inl rfl) ho
    ·exact fin 2 (.inr (.inl rfl)) ho
   ·exact fin 3 (.inr (.inr rfl)) ho
 have hd : ∀ h, (H' h).isMut → ∀ g, headOf (β' h) = some g → (h = 900000 ∧ headOf (β 47) = some g) ∨ (∃ m, (m = 1 ∨ m = 2 ∨ m = 3) ∧ h = kt m ∧ headOf (β (kb m)) = some g) ∨ ∃ m i c, (m = 1 ∨ m = 2 ∨ m = 3) ∧ i < (L m).length ∧ h = m * 1000000 + i ∧ (OB3 L).getD (off L m + i) none = some (g, c) := fun h hm g hg => by
  rcases gc h with rfl | ⟨m, hm', rfl⟩ | ⟨m, i, hm', hi, rfl⟩ | e
  ·rw [b0] at hg; exact .inl ⟨rfl, hg⟩
  ·rw [(gT m hm').2] at hg; exact .inr (.inl ⟨m, hm', rfl, hg⟩)
  ·rw [(gE m i hm' hi).2] at hg
   obtain ⟨x, hx⟩ := get m i hi
   obtain ⟨c, hc⟩ := headE m i x g hm' hx hg
   exact .inr (.inr ⟨m, i, c, hm', hi, rfl, hc⟩)
  ·rw [e] at hm; exact hm.elim
 have m47 : (H 47).isMut := by rw [h47]; trivial
 have mkb : ∀ m, (m = 1 ∨ m = 2 ∨ m = 3) → (H (kb m)).isMut := fun m hm => by obtain ⟨s, h⟩ := hs m hm; rw [h]; trivial
 have kbn : ∀ m, kb m ≠ 47 ∧ ∀ t, t = 1 ∨ t = 3 ∨ t = 6 → kb m ≠ 800000 + t := fun m => by
  unfold kb; split <;> exact ⟨by decide, fun t ht => by omega⟩
 have DD2 : ∀ b, DD H' β' D0 b → DD H β D0 b ∨ b ∈ ids (OB3 L) := by
  rintro b (hb | ⟨h, hm, hk⟩)
  ·exact .inl (.inl hb)
  ·rcases hd h hm b hk with ⟨_, hk⟩ | ⟨m, hm', _, hk⟩ | ⟨m, i, c, _, _, _, hk⟩
   ·exact .inl (.inr ⟨47, m47, hk⟩)
   ·exact .inl (.inr ⟨kb m, mkb m hm', hk⟩)
   ·exact .inr (mem_ids hk)
 have DD3 : ∀ b, DD H' β' D0 b → D0 b ∨ headOf (β 47) = some b ∨ (∃ m, (m = 1 ∨ m = 2 ∨ m = 3) ∧ headOf (β (kb m)) = some b) ∨ b ∈ ids (OB3 L) := by
  rintro b (hb | ⟨h, hm, hk⟩)
  ·exact .inl hb
  ·rcases hd h hm b hk with ⟨_, hk⟩ | ⟨m, hm', _, hk⟩ | ⟨m, i, c, _, _, _, hk⟩
   ·exact .inr (.inl hk)
   ·exact .inr (.inr (.inl ⟨m, hm', hk⟩))
   ·exact .inr (.inr (.inr (mem_ids hk)))
 have keptv : ∀ (x : IV) v, AvI B1 x → Rep w (DD H β D0) x v → Rep w (DD H' β' D0) x v := fun x v hx hv => by
  rcases hx with ⟨y, rfl⟩ | hx | hx
  ·cases hv with
   | av _ _ _ hv => exact .av _ _ _ (hv.mono (Grows.of_sub fun b hb => hb.elim (fun h => (DD2 b h).imp id fun h => orng b h) .inr))
  ·exact rep_flat hv (.inl hx)
  ·exact rep_flat hv (.inr hx)
 have keptr : ∀ (l : List IV) (us : List Value), (∀ x ∈ l, AvI B1 x) → Reps w (DD H β D0) l us → Reps w (DD H' β' D0) l us := fun l => by
  induction l with
  | nil => intro us _ h; cases us <;> exact h
  | cons x l ih =>
   intro us hm h
   cases us with
   | nil => exact h.elim
   | cons u us => exact ⟨keptv x u (hm x (by simp)) h.1, ih us (fun y hy => hm y (by simp [hy])) h.2⟩
 obtain ⟨f', hf'⟩ : ∃ f' : AL.Fr, f' = fun t => if t = 1 ∨ t = 3 ∨ t = 6 then .ip (rows t) else if t = 4 ∨ t = 5 then f t else if t = 7 then .hp 900000 1 0 0 else .dead := ⟨_, rfl⟩
 refine ⟨f', H', β', (List.range (L 1).length).map (rowsR 1), (List.range (L 2).length).map (rowsR 2), (List.range (L 3).length).map (rowsR 3), ?_, ?_, by rw [hf']; simp, fun t ht => by rw [hf']; simp [ht], fun t ht => ?_, ?_⟩
 ·have rl : ∀ m, (m = 1 ∨ m = 2 ∨ m = 3) → ∀ r ∈ (List.range (L m).length).map (rowsR m), (r.length ≤ if m = 1 then 100000 else 1000) ∧ ∀ c ∈ r, c.length = ks m := fun m hm r hr => by
   obtain ⟨i, hi, rfl⟩ := List.mem_map.1 hr
   obtain ⟨x, hx⟩ := get m i (List.mem_range.1 hi)
   obtain ⟨e1, e2, _⟩ := hraw m i hm x hx
   exact ⟨by rw [e1]; exact hel m x (List.mem_of_getElem? hx), e2⟩
  exact ⟨by simp; exact hlen.1, by simp; exact hlen.2.1, by simp; exact hlen.2.2, rl 1 (.inl rfl), rl 2 (.inr (.inl rfl)), rl 3 (.inr (.inr rfl))⟩
 ·have rg : ∀ m, (m = 1 ∨ m = 2 ∨ m = 3) → ∀ j r, ((List.range (L m).length).map (rowsR m))[j]? = some r → H' (m * 1000000 + j) = .blk false 1 (ke m) (ks m) r := fun m hm j r hj => by
   have hlt := (List.getElem?_eq_some_iff.1 hj).1
   simp only [List.length_map, List.length_range] at hlt
   rw [List.getElem?_map, List.getElem?_range hlt] at hj
   injection hj with hj
   rw [← hj]; exact (gE m j hm hlt).1
  exact ⟨g0, by rw [List.length_map, List.length_range]; exact (gT 1 (.inl rfl)).1, by rw [List.length_map, List.length_range]; exact (gT 2 (.inr (.inl rfl))).1, by rw [List.length_map, List.length_range]; exact (gT 3 (.inr (.inr rfl))).1, rg 1 (.inl rfl), rg 2 (.inr (.inl rfl)), rg 3 (.inr (.inr rfl))⟩
 ·rw [hf']; simp only
  rw [if_neg (by omega), if_pos ht]
 clear hH' hβ'
 refine R.jump (fun _ _ h => h) rfl rfl rfl (Nat.le_refl _) (fun _ _ _ => rfl) R.tsize (R.rnd rfl) (fun t => ?_) (fun h st e sz rows hh => ?_) (fun h st e sz rows hh => ?_)
  (fun h h' hne hm hm' g hg hg' => ?_) (fun h st e rows hh => ?_) (fun h B hh => ?_) (fun h x v hh => ?_)
 ·rw [hf']; simp only
  split
  ·rename_i ht
   obtain ⟨k1, k2, k3⟩ := hk t ht
   obtain ⟨gb', curb, hb1, hb2, hb3, hb4, -, hb6⟩ := R.box_at k1 k2
   have mk : (H (800000 + t)).isMut := by rw [k2]; trivial
   rw [hb1]
   refine ip_of_cells hb3 (fun hdd => ?_) (keptr _ _ k3 hb6)
   rcases DD3 gb' hdd with h | h | ⟨m, hm, h⟩ | h
   ·have := (R.old _ h).1
    rcases hb4 with h | h
    ·omega
    ·exact h
   ·exact R.dis _ 47 (by omega) mk m47 gb' hb2 h
   ·exact R.dis _ (kb m) (fun e => (kbn m).2 t ht e.symm) mk (mkb m hm) gb' hb2 h
   ·exact notDD gb' h (.inr ⟨_, mk, hb2⟩)
  ·split
   ·rename_i ht
    obtain ⟨y, hy⟩ := hv t ht
    have hRt := R.tmps t
    rw [hy] at hRt ⊢
    simp only [AVRep] at hRt ⊢
    exact keptv _ _ (.inl ⟨y, rfl⟩) hRt
   ·split
    ·rename_i e; subst e
     have hRt := R.tmps 7
     rw [h7] at hRt
     simp only [AVRep, h47, g0, HC.stamp, HC.esz, b0] at hRt ⊢
     exact hRt
    ·simp only [AVRep]
 ·rcases gc h with rfl | ⟨m, hm, rfl⟩ | ⟨m, i, hm, hi, rfl⟩ | e'
  ·rw [g0] at hh; cases hh
  ·rw [(gT m hm).1] at hh; cases hh
  ·rw [(gE m i hm hi).1] at hh
   injection hh with _ x1 x2 x3 x4
   subst x1 x2 x3 x4
   obtain ⟨x, hx⟩ := get m i hi
   rw [(gE m i hm hi).2]
   exact (hraw m i hm x hx).2.2 _
  ·rw [e'] at hh; cases hh
 ·rcases gc h with rfl | ⟨m, hm, rfl⟩ | ⟨m, i, hm, hi, rfl⟩ | e'
  ·rw [g0] at hh; cases hh
  ·rw [(gT m hm).1] at hh; cases hh
  ·rw [(gE m i hm hi).1] at hh; cases hh
  ·rw [e'] at hh; cases hh
 ·have far : ∀ k, (H k).isMut → headOf (β k) = some g → g ∉ ids (OB3 L) := fun k hm hk hmem => notDD g hmem (.inr ⟨k, hm, hk⟩)
  have kbi : ∀ m m', (m = 1 ∨ m = 2 ∨ m = 3) → (m' = 1 ∨ m' = 2 ∨ m' = 3) → kt m ≠ kt m' → kb m ≠ kb m' := fun m m' hm hm' => by
   rcases hm with rfl | rfl | rfl <;> rcases hm' with rfl | rfl | rfl <;> simp [kt, kb]
  rcases hd h hm g hg with ⟨rfl, x⟩ | ⟨m, hm1, rfl, x⟩ | ⟨m, i, c, hm1, hi, rfl, x⟩
  ·rcases hd h' hm' g hg' with ⟨rfl, x'⟩ | ⟨m', hm2, rfl, x'⟩ | ⟨m', i', c', hm2, hi', rfl, x'⟩
   ·exact hne rfl
   ·exact R.dis 47 (kb m') (fun e => (kbn m').1 e.symm) m47 (mkb m' hm2) g x x'
   ·exact far 47 m47 x (mem_ids x')
  ·rcases hd h' hm' g hg' with ⟨rfl, x'⟩ | ⟨m', hm2, rfl, x'⟩ | ⟨m', i', c', hm2, hi', rfl, x'⟩
   ·exact R.dis (kb m) 47 (kbn m).1 (mkb m hm1) m47 g x x'
   ·exact R.dis (kb m) (kb m') (kbi m m' hm1 hm2 hne) (mkb m hm1) (mkb m' hm2) g x x'
   ·exact far (kb m) (mkb m hm1) x (mem_ids x')
  ·rcases hd h' hm' g hg' with ⟨rfl, x'⟩ | ⟨m', hm2, rfl, x'⟩ | ⟨m', i', c', hm2, hi', rfl, x'⟩
   ·exact far 47 m47 x' (mem_ids x)
   ·exact far (kb m') (mkb m' hm2) x' (mem_ids x)
   ·refine nodup_ids od (i := off L m + i) (j := off L m' + i') (fun e => hne ?_) x x'
    rcases hm1 with rfl | rfl | rfl <;> rcases hm2 with rfl | rfl | rfl <;> simp only [off] at e <;> omega
 ·rcases gc h with rfl | ⟨m, hm, rfl⟩ | ⟨m, i, hm, hi, rfl⟩ | e'
  ·rw [g0] at hh
   injection hh with x1 x2 x3
   subst x1 x2 x3
   rw [b0]
   rcases R.nst _ _ _ _ h47 with ⟨hh, _⟩ | ⟨g, cap', cur', hv', hB', hg, l1, l2, l3, l4, l5⟩
   ·cases hh
   ·refine .inr ⟨g, cap', cur', hv', hB', hg, l1, l2, l3, avreps_rel (l := [.hs 600002 sn, .nils, .hs 600001 sq, .nils, .nils, .hs 600003 si]) (by rfl) (fun i x x' hx hx' v hv => ?_) l4, l5⟩
    have fin : ∀ m s rws, (m = 1 ∨ m = 2 ∨ m = 3) → H (kb m) = .blk false s (kl m) 1 rws → AVRep w (DD H β D0) H β (.hs (kb m) s) v → AVRep w (DD H' β' D0) H' β' (.hs (kt m) 1) v := fun m s rws hm hb hv => by
     simp only [AVRep, hb, HC.stamp, (gT m hm).1, (gT m hm).2] at hv ⊢
     exact ⟨Nat.le_refl _, fun _ => hv.2 trivial⟩
    match i with
    | 0 => cases hx; cases hx'; exact fin 1 _ _ (.inl rfl) c1 hv
    | 1 => cases hx; cases hx'; simpa only [AVRep] using hv
    | 2 => cases hx; cases hx'; exact fin 2 _ _ (.inr (.inl rfl)) c2 hv
    | 3 => cases hx; cases hx'; simpa only [AVRep] using hv
    | 4 => cases hx; cases hx'; simpa only [AVRep] using hv
    | 5 => cases hx; cases hx'; exact fin 3 _ _ (.inr (.inr rfl)) c3 hv
    | i + 6 => simp at hx
  ·rw [(gT m hm).1] at hh
   injection hh with x1 x2 x3
   subst x1 x2 x3
   rw [(gT m hm).2]
   obtain ⟨e1, e2, e3, e4, e5, e6, e7⟩ := hcell m hm
   refine .inr ⟨gb m, cap m, cur m, by rw [hws_len]; exact e1, e2, e3, by rw [hws_len]; exact e4, e5, e6, ?_, fun u hu => ?_⟩
   ·rw [hws_len]
    refine hws_reps (by rw [e6]; exact e4) fun i hi => ?_
    simp only [AVRep, (gE m i hm hi).1, HC.stamp, (gE m i hm hi).2]
    exact ⟨Nat.le_refl _, fun _ => trivial⟩
   ·rw [hws_len] at hu
    obtain ⟨i, hi⟩ := List.getElem?_of_mem hu
    rw [List.getElem?_take] at hi
    split at hi
    ·rename_i hlt
     rw [Array.getElem?_toList] at hi
     obtain ⟨x, hx⟩ := get m i hlt
     have := (e7 i x hx).one
     rw [Array.getD_eq_getD_getElem?, hi] at this
     exact this
    ·cases hi
  ·rw [(gE m i hm hi).1] at hh; cases hh
  ·rw [e'] at hh; cases hh
 ·rcases gc h with rfl | ⟨m, hm, rfl⟩ | ⟨m, i, hm, hi, rfl⟩ | e'
  ·rw [g0] at hh; cases hh
  ·rw [(gT m hm).1] at hh; cases hh
  ·rw [(gE m i hm hi).1] at hh; cases hh
  ·rw [e'] at hh; cases hh
 ·rcases gc h with rfl | ⟨m, hm, rfl⟩ | ⟨m, i, hm, hi, rfl⟩ | e'
  ·rw [g0] at hh; cases hh
  ·rw [(gT m hm).1] at hh; cases hh
  ·rw [(gE m i hm hi).1] at hh; cases hh
  ·rw [e'] at hh; cases hh
theorem soft_iws2 {b : OB} {e sz : Nat} {bs : List OB} {p : List RI} (h : bs.length = p.length) : Soft (.own b e sz (iws bs p)) (.sl (p.map fun c => [.sl (lims (c.2 ++ marks))])) := by
 have key : ∀ (i : Nat) (r r' : List IV), (iws bs p)[i]? = some r → (p.map fun c : RI => [IV.sl (lims (c.2 ++ marks))])[i]? = some r' → ∃ o l, r = [fnat o l] ∧ r' = [.sl (lims l)] := fun i r r' hr hr' => by
  rw [iws, List.getElem?_zipWith] at hr
  simp only [List.getElem?_map] at hr'
  cases hb : bs[i]? with
  | none => rw [hb] at hr; simp at hr
  | some o =>
   cases hp : p[i]? with
   | none => rw [hp] at hr'; cases hr'
   | some c =>
    rw [hb, hp] at hr; rw [hp] at hr'
    injection hr with hr; injection hr' with hr'
    exact ⟨o, _, hr.symm, hr'.symm⟩
 refine .own _ _ _ _ _ (by rw [iws_len h]; simp) (fun i r r' hr hr' => ?_) (fun i r r' hr hr' j x y hx hy => ?_)
 ·obtain ⟨o, l, rfl, rfl⟩ := key i r r' hr hr'; rfl
 ·obtain ⟨o, l, rfl, rfl⟩ := key i r r' hr hr'
  cases j with
  | zero => simp at hx hy; subst hx hy; exact soft_gint o (false, l) 1 _ _ rfl rfl
  | succ j => simp at hx
theorem soft_room2 {bo bi : OB} {bs cs : List OB} {p : List RI} (hl : bs.length = p.length) (hcl : cs.length = 6) : SoftC (.agg (RmV bo bi bs cs p)) (.agg (RmS p)) := by
 refine .agg rfl fun j x y hx hy => ?_
 match j, hx, hy with
 | 0, hx, hy => cases hx; cases hy; exact soft_gws hl
 | 1, hx, hy => cases hx; cases hy; exact soft_gws (by rw [List.length_append, List.length_append, hl, hcl]; rfl)
 | 2, hx, hy => cases hx; cases hy; exact soft_iws2 hl
 | j + 3, hx, hy => simp at hx
theorem roomp_ok (p : List RI) (h : RP 1000 (2 ^ 40) p) : AC Tryz.prog 42 [cw p] none [.agg (RmS p)] :=
 ACX.plain (room_ok p h) fun B E r hr => by
  obtain ⟨bo, bi, bs, cs, rfl, h1, h2, -⟩ := hr
  exact .cons (soft_room2 (bo := bo) (bi := bi) h1 h2) .nil
set_option maxRecDepth 8000 in
theorem krats_ok (l : List RQ) (h : BQ 1000 (2 ^ 40) l) : AC Tryz.prog 43 [cqw l] none [cqw l] := by
 refine AC.by_walk (rs := [.tmp 2]) ords Tryz.func43 (by rfl) (by rfl) (by rfl) (by rfl) (by rfl) ?_
 have hl := h.1
 simp (disch := omega) only [wt, seval, rqs]
 refine aloop_nil 3 3 32 3 (by simp only [wt, seval]) (fun f H => ∃ (i st : Nat), i ≤ l.length ∧ f 7 = .iv (.int .i64 i) ∧ f 6 = .iv (.int .i64 l.length) ∧ f 0 = .iv (.sl (rats l)) ∧ f 3 = .hs 3 st ∧ H 3 = .blk false st 32 3 (rats (l.take i))) (fun f H => (l.length - intAt f 7).toNat) ?_ ?_
 ·refine ⟨0, 1, by omega, ?_⟩
  simp only [wt, seval, rqs, ghostF, ghostH, List.take_zero]
 rintro f H ⟨i, st, hi, hF⟩
 rw [intAt_of hF.1]
 simp (disch := omega) only [wt, seval, hF]
 refine if_by (fun hlt => ?_) (fun hlt => ?_)
 ·have hq : (l.take i).length = i := by rw [List.length_take]; omega
  have hil : i < l.length := by omega
  have hr := h.2 (l.getD i q0) (by simp [List.getD, hil])
  have hr1 := hr.1.1
  have hr2 := hr.2.1
  simp (disch := omega) only [wt, seval, rqs, hF]
  refine .inl ⟨tmps_by (by kernel_rfl), ?_⟩
  refine call_by ((scopyint_ok (l.getD i q0).1 hr.1.1)) (by rfl) (by simp) ?_
  simp (disch := omega) only [wt, seval, rqs, hF, hq]
  refine ⟨log_by (by kernel_rfl), ?_⟩
  refine ⟨⟨i + 1, st + 1, by omega, ?_⟩, by omega⟩
  rw [show l.take (i + 1) = l.take i ++ [l.getD i q0] by rw [List.take_add_one]; simp [List.getD, hil]]
  (repeat' apply And.intro) <;> first | rfl | omega
 ·simp (disch := omega) only [wt, seval, hF]
  rw [List.take_of_length_le (by omega)]
set_option maxRecDepth 8000 in
theorem kform_ok (l : List RQ) (h : BQ 1000 (2 ^ 40) l) : AC Tryz.prog 63 [cqw l, cqw l] none [cb true] := by
 refine AC.by_walk (rs := [.tmp 4]) ords Tryz.func63 (by rfl) (by rfl) (by rfl) (by rfl) (by rfl) ?_
 have hl := h.1
 simp (disch := omega) only [wt, seval, rqs]
 refine aloop_by (fun f H => ∃ (i : Nat), i ≤ l.length ∧ f 13 = .iv (.int .i64 i) ∧ f 12 = .iv (.int .i64 l.length) ∧ f 0 = .iv (.sl (rats l)) ∧ f 1 = .iv (.sl (rats l))) (fun f H => (l.length - intAt f 13).toNat) ?_ ?_
 ·refine ⟨0, by omega, ?_⟩
  simp only [wt, seval]
 rintro f H ⟨i, hi, hF⟩
 rw [intAt_of hF.1]
 simp (disch := omega) only [wt, seval, hF]
 refine if_by (fun hlt => ?_) (fun hlt => ?_)
 ·have hil : i < l.length := by omega
  have hr := h.2 (l.getD i q0) (by simp [List.getD, hil])
  have hr1 := hr.1.1
  have hr2 := hr.2.1
  have hsg : ((l.getD i q0).1.1 == (l.getD i q0).1.1) = true := beq_self_eq_true _
  simp (disch := omega) only [wt, seval, rqs, hF, hsg]
  refine .inl ⟨tmps_by (by kernel_rfl), ?_⟩
  refine call_by ((slimbs_ok (l.getD i q0).1.2 (by omega))) (by rfl) (by simp) ?_
  simp (disch := omega) only [wt, seval, rqs, hF]
  refine call_by ((slimbs_ok (l.getD i q0).2 (by omega))) (by rfl) (by simp) ?_
  simp (disch := omega) only [wt, seval, hF]
  refine ⟨log_by (by kernel_rfl), ?_⟩
  exact ⟨⟨i + 1, by omega, rfl⟩, by omega⟩
 ·simp (disch := omega) only [wt, seval]
theorem gqs_big {n k : Nat} {q : List Rat} (h : QB n k q) (hn : n ≤ 1000) (hk : k ≤ 100000) : BQ 1000 100000 (cqs q) := h.gqs.bq.mono hn hk
theorem bq_two {x y : RQ} (hx : SzQ 200 x) (hy : SzQ 200 y) : BQ 40 200 [x, y] := ⟨by simp, fun r hr => by
 simp only [List.mem_cons, List.not_mem_nil, or_false] at hr
 rcases hr with rfl | rfl
 ·exact hx
 ·exact hy⟩
theorem bq_one {x : RQ} (hx : SzQ 200 x) : BQ 40 200 [x] := ⟨by simp, fun r hr => by rw [List.mem_singleton.mp hr]; exact hx⟩
theorem not_gd {p : List RQ} {Q : Prop} (h : ¬ (gd p = true ∧ Q)) (hd : Decidable Q) : gd p = false ∨ ¬ Q := by
 cases hg : gd p with
 | false => exact .inl rfl
 | true => exact .inr fun hq => h ⟨hg, hq⟩
theorem kAtInt (p : List RI) (a : RI) (hp : RP 40 200 p) (ha : Sz 200 a) : (canon (ev (pv p) (iv a))).2.length ≤ 100000 := by
 have h := zl_ev (zl_iv ha) (p := pv p) (fun z hz => hp.pv.2 z hz)
 have h1 := hp.1
 have h2 := pv_len p
 have h3 : (pv p).length * (200 + 1) ≤ 40 * (200 + 1) := Nat.mul_le_mul_right _ (by omega)
 have h4 := (sz_canon (ev (pv p) (iv a))).1
 omega
theorem kHomog (p : List RI) (a b : RI) (hp : RP 40 200 p) (ha : Sz 200 a) (hb : Sz 200 b) : (canon (ihom (trimz (pv p)) (iv a) (iv b))).2.length ≤ 100000 := by
 have h := zl_ihom (zl_iv ha) (zl_iv hb) (p := trimz (pv p)) (fun z hz => hp.pv.trimz.2 z hz)
 have h1 := hp.pv.trimz.1
 have h3 : (trimz (pv p)).length * (200 + 1) ≤ 40 * (200 + 1) := Nat.mul_le_mul_right _ (by omega)
 have h4 := (sz_canon (ihom (trimz (pv p)) (iv a) (iv b))).1
 omega
theorem kAt (p : List RQ) (x : RQ) (hp : BQ 40 200 p) (hx : SzQ 200 x) : ∃ v e, SzQ 100000 v ∧ ACX Tryz.prog 50 [cqw p, cqq x] (RRqE v e) := by
 by_cases h : gd p = true ∧ nv x.2 ≠ 0
 ·have v := VB.of (B := 16441) (hp.gq h.1) hx h.2 (by omega) (by omega) (by omega)
  exact ⟨_, _, (szq_crat (v.e _ (by rw [qvs_len]; omega) fun c hc => hc)).mono (by omega), eAtx_ok p x _ v⟩
 ·exact ⟨_, _, szq_q0 _, eAtx_bad p x (hp.mono (by omega) (by omega)) (hx.mono (by omega)) ((not_gd h inferInstance).imp id Decidable.not_not.mp)⟩
theorem kSplit (p : List RQ) (x : RQ) (hp : BQ 40 200 p) (hx : SzQ 200 x) : ∃ l r e, BQ 1000 100000 l ∧ SzQ 100000 r ∧ ACX Tryz.prog 52 [cqw p, cqq x] (RSpl l r e) := by
 by_cases h : gd p = true ∧ nv x.2 ≠ 0
 ·have v := VB.of (B := 16441) (hp.gq h.1) hx h.2 (by omega) (by omega) (by omega)
  have hb : QB 40 16441 (sqq (trimq (qvs p)) (qv x)) := ⟨by
   rw [sqq_len, trimq_len]
   have := tzq_le (qvs p)
   rw [qvs_len] at this
   have := hp.1
   omega, v.sb.sqb.2⟩
  exact ⟨_, _, _, gqs_big hb (by omega) (by omega), (szq_crat (v.e _ (by rw [qvs_len]; omega) fun c hc => hc)).mono (by omega), esplitx_ok p x _ v⟩
 ·exact ⟨_, _, _, bq_nil _ _, szq_q0 _, esplitx_bad p x (hp.mono (by omega) (by omega)) (hx.mono (by omega)) ((not_gd h inferInstance).imp id Decidable.not_not.mp)⟩
theorem news_one (X Y : List Rat) (j : Nat) : cfq (news X Y 1) j = cfq Y 0 * cfq [1] j := by
 have e : news X Y 1 = addq [] (sclq (newc X Y [] 0) (froot X X.length 0)) := rfl
 have e2 : newc X Y [] 0 = cfq Y 0 := by
  have : newc X Y [] 0 = (cfq Y 0 - 0) / evq [1] (cfq X 0) := rfl
  rw [this]; simp only [evq]; grind
 have e3 : froot X X.length 0 = [1] := rfl
 rw [e, e2, e3, cfq_addq, cfq_sclq]
 have : cfq [] j = 0 := by simp [cfq]
 rw [this]; grind
theorem kThrough (x y : RQ) (hx : SzQ 200 x) (hy : SzQ 200 y) : ∃ l e, BQ 1000 100000 l ∧ ACX Tryz.prog 54 [cqw [x], cqw [y]] (RQp l e) := by
 by_cases h : gd [x] = true ∧ gd [y] = true
 ·have gx := (bq_one hx).gq h.1
  have gy := (bq_one hy).gq h.2
  have hb : QB 40 200 (trimq (news (qvs [x]) (qvs [y]) 1)) := .of (by
   rw [trimq_len]
   have := tzq_low (q := news (qvs [x]) (qvs [y]) 1) (n := 1) fun j hj => news_deg (qvs [x]) (qvs [y]) 1 (by simp [qvs]) j hj
   omega) fun i => by
   rw [cfq_trimq, news_one]
   match i with
   | 0 => rw [show cfq [1] 0 = 1 from rfl, Rat.mul_one]; exact cf200 gy 0
   | i + 1 => rw [show cfq [1] (i + 1) = 0 by simp [cfq], Rat.mul_zero, qz_zero]; omega
  have e : cqs (trimq (news (qvs [x]) (qvs [y]) 1)) = cqs (news (qvs [x]) (qvs [y]) 1) := by rw [cqs, cqs, trimq_trimq]
  exact ⟨cqs (news (qvs [x]) (qvs [y]) 1), _, by rw [← e]; exact gqs_big hb (by omega) (by omega), ethroughx_ok [x] [y] gx gy rfl rfl⟩
 ·refine ⟨_, _, bq_nil _ _, ethroughx_bad [x] [y] (bq_one hx) (bq_one hy) ?_⟩
  rcases not_gd h inferInstance with h | h
  ·exact .inl h
  ·exact .inr (by simpa using h)
theorem kRoots (xs : List RQ) (hx : BQ 40 200 xs) (h0 : xs ≠ []) : ∃ l e, BQ 1000 100000 l ∧ ACX Tryz.prog 55 [cqw xs] (RQp l e) := by
 cases h : gd xs with
 | true => exact ⟨_, _, gqs_big (froot_qb (hx.gq h) _ _ hx.1) (by omega) (by omega), eFrootsx_ok xs (hx.gq h) h0⟩
 | false => exact ⟨_, _, bq_nil _ _, eFrootsx_bad xs hx h⟩
theorem kTable (p : List RQ) (x s : RQ) (hp : BQ 40 200 p) (hx : SzQ 200 x) (hs : SzQ 200 s) : ∃ l e, BQ 1000 100000 l ∧ ACX Tryz.prog 56 [cqw p, cqq x, cqq s, ci 2] (RQp l e) := by
 by_cases h : gd p = true ∧ nv x.2 ≠ 0 ∧ nv s.2 ≠ 0
 ·have hb : QB 40 30000 (tabl (qvs p) (qv x) (qv s) 2) := ⟨by rw [tabl_len]; omega, fun c hc => by
   rw [tabl] at hc
   obtain ⟨i, hi, rfl⟩ := List.mem_map.1 hc
   have hi2 : i < 2 := List.mem_range.1 hi
   have h1 := qz_add (qv x) ((i : Rat) * qv s)
   have h2 := qz_mul (i : Rat) (qv s)
   have h3 := qz_raw hx h.2.1
   have h4 := qz_raw hs h.2.2
   have h5 : qz (i : Rat) ≤ 1 := by
    have : i = 0 ∨ i = 1 := by omega
    rcases this with rfl | rfl
    ·exact Nat.le_of_eq qz_zero
    ·exact Nat.le_of_eq qz_one
   have hq : QB 40 200 (qvs p) := (hp.gq h.1).qb
   have h6 := qz_evq (K := 200) (X := 402) (x := qv x + (i : Rat) * qv s) (by omega) (p := qvs p) fun c hc => hq.2 c hc
   have h7 : (qvs p).length * (200 + 402 + 1) ≤ 40 * (200 + 402 + 1) := Nat.mul_le_mul_right _ hq.1
   omega⟩
  exact ⟨_, _, hb.gq.bq.mono (by omega) (by omega), etablex_ok p x s 2 (by omega) (hp.gq h.1) hx hs h.2.1 h.2.2⟩
 ·refine ⟨_, _, bq_nil _ _, etablex_bad p x s 2 hp hx hs ?_⟩
  rcases not_gd h inferInstance with h | h
  ·exact .inl h
  ·rw [Decidable.not_and_iff_not_or_not] at h
   exact .inr (h.imp Decidable.not_not.mp Decidable.not_not.mp)
theorem kSigns (p : List RI) (x : RQ) (hp : RP 40 200 p) (hx : SzQ 200 x) : ∃ n e, n ≤ 2 ∧ ACX Tryz.prog 57 [.iv (.sl (polys [p, p])), cqq x] (RIntsE n e) := by
 by_cases h : nv x.2 = 0
 ·exact ⟨_, _, by omega, signsx_bad [p, p] x hx h⟩
 ·exact ⟨_, _, Nat.le_refl _, signsx_ok [p, p] x (by simp) (fun q hq => by simp at hq; subst hq; exact hp) hx h⟩
theorem kSignsFar (p : List RI) (hp : RP 40 200 p) : ACX Tryz.prog 59 [.iv (.sl (polys [p, p])), cb true] (RInts 2) :=
 sfarsx_ok [p, p] true (by simp) (fun q hq => by simp at hq; subst hq; exact hp)
theorem kSign (p : List RI) (x : RQ) (hp : RP 40 200 p) (hx : SzQ 200 x) : ∃ s e, AC Tryz.prog 60 [cw p, cqq x] none [ci s, ci e] := by
 by_cases h : nv x.2 = 0
 ·exact ⟨_, _, eSign_bad p x ⟨Nat.le_trans hx.2.1 (by omega), hx.2.2⟩ h⟩
 ·exact ⟨_, _, eSign_ok p x (hp.mono (by omega) (by omega)) (hx.mono (by omega)) h⟩
theorem kTimes (p : List RQ) (x : RQ) (hp : BQ 40 200 p) (hx : SzQ 200 x) : ∃ n e, AC Tryz.prog 61 [cqw p, cqq x] none [ci n, ci e] := by
 by_cases h : gd p = true ∧ nv x.2 ≠ 0 ∧ trimq (qvs p) ≠ []
 ·obtain ⟨n, t⟩ := tb_of (hp.gq h.1) hx h.2.1 h.2.2
  exact ⟨n, 0, etimes_ok p x n ((hp.gq h.1).mono (by omega) (by omega)) (hx.mono (by omega)) h.2.1 t⟩
 ·refine ⟨0, 1, etimes_bad p x (hp.mono (by omega) (by omega)) (hx.mono (by omega)) ?_⟩
  rcases not_gd h inferInstance with h | h
  ·exact .inl h
  ·rw [Decidable.not_and_iff_not_or_not] at h
   exact .inr (h.imp Decidable.not_not.mp Decidable.not_not.mp)
theorem aci_mono {g : Nat} {avs : List AV} {H : AL.Hp} {Z Z' : AV → AL.Hp → Prop} (h : ACI Tryz.prog g avs H Z) (hz : ∀ x H', Z x H' → Z' x H') : ACI Tryz.prog g avs H Z' := by
 refine ⟨?_, fun G M w0 D0 N f β a w vs R hv => CallsR.mono (h.2 G M w0 D0 N f β a w vs R hv) ?_⟩
 ·obtain ⟨x, H', h'⟩ := h.1
  exact ⟨x, H', hz _ _ h'⟩
 ·rintro v w' ⟨x, H', β', h1, h2⟩
  exact ⟨x, H', β', hz _ _ h1, h2⟩
theorem Nw.cnt {B E : Nat} {l m : List Nat} (h : Nw B E l) (hc : ∀ a, m.count a ≤ l.count a) : Nw B E m :=
 ⟨List.nodup_iff_count.2 fun a => Nat.le_trans (hc a) (List.nodup_iff_count.1 h.1 a), fun g hg => h.2 g (List.count_pos_iff.1 (Nat.lt_of_lt_of_le (List.count_pos_iff.2 hg) (hc g)))⟩
def addL (L : Nat → BL) (m : Nat) (xs : BL) : Nat → BL := fun k => if k = m then L k ++ xs else L k
theorem addL_eq (L : Nat → BL) (m : Nat) (xs : BL) : addL L m xs m = L m ++ xs := by simp [addL]
theorem addL_ne (L : Nat → BL) {m k : Nat} (h : k ≠ m) (xs : BL) : addL L m xs k = L k := by simp [addL, h]
theorem ids_app2 (l m : List OB) : ids (l ++ m) = ids l ++ ids m := by simp [ids]
theorem ob3_count (L : Nat → BL) {m : Nat} (hm : m = 1 ∨ m = 2 ∨ m = 3) (xs : BL) (a : Nat) : (ids (OB3 (addL L m xs))).count a = (ids (OB3 L)).count a + (ids (xs.map (·.1))).count a := by
 rcases hm with rfl | rfl | rfl
 ·rw [OB3, OB3, addL_eq, addL_ne _ (by decide), addL_ne _ (by decide)]
  simp only [List.map_append, ids_app2, List.count_append]; omega
 ·rw [OB3, OB3, addL_eq, addL_ne _ (by decide), addL_ne _ (by decide)]
  simp only [List.map_append, ids_app2, List.count_append]; omega
 ·rw [OB3, OB3, addL_eq, addL_ne _ (by decide), addL_ne _ (by decide)]
  simp only [List.map_append, ids_app2, List.count_append]; omega
def BkI (B1 E : Nat) (pend : List Nat) (z a b c : Nat) (H : AL.Hp) : Prop := ∃ L : Nat → BL, Bk0 ((L 1).map (brow 1)) ((L 2).map (brow 2)) ((L 3).map (brow 3)) H ∧
 (z ≤ (L 1).length ∧ (L 1).length ≤ a ∧ (L 2).length = b ∧ (L 3).length = c) ∧ (∀ m x, x ∈ L m → x.2.length ≤ if m = 1 then 100000 else 1000) ∧ Nw B1 E (ids (OB3 L) ++ pend)
theorem BkI.upd {B1 E : Nat} {pend : List Nat} {z a b c : Nat} {H : AL.Hp} (h : BkI B1 E pend z a b c H) {k : Nat} (hk : k < 47 ∨ (47 < k ∧ k < 600001)) (v : HC) : BkI B1 E pend z a b c (updH H k v) := by
 obtain ⟨L, h1, h2⟩ := h
 exact ⟨L, h1.upd hk v, h2⟩
theorem BkI.cnt {B1 E : Nat} {pend p2 : List Nat} {z a b c : Nat} {H : AL.Hp} (h : BkI B1 E pend z a b c H) (hc : ∀ x, p2.count x ≤ pend.count x) : BkI B1 E p2 z a b c H := by
 obtain ⟨L, h1, h2, h3, h4⟩ := h
 exact ⟨L, h1, h2, h3, h4.cnt fun x => by have := hc x; simp only [List.count_append]; omega⟩
theorem BkI.new {B1 E B2 E2 : Nat} {pend new : List Nat} {z a b c : Nat} {H : AL.Hp} (h : BkI B1 E pend z a b c H) (hB : B1 ≤ E) (h1 : E ≤ B2) (h2 : B2 ≤ E2) (hn : Nw B2 E2 new) : BkI B1 E2 (pend ++ new) z a b c H := by
 obtain ⟨L, k1, k2, k3, k4⟩ := h
 refine ⟨L, k1, k2, k3, ?_⟩
 rw [← List.append_assoc]
 exact k4.append hn (by omega) h1 (by omega)
theorem mem_addL {L : Nat → BL} {m : Nat} {xs : BL} {k : Nat} {x : OB × Lw} (h : x ∈ addL L m xs k) : x ∈ L k ∨ (k = m ∧ x ∈ xs) := by
 unfold addL at h
 split at h
 ·rename_i e
  exact (List.mem_append.1 h).imp id fun h => ⟨e, h⟩
 ·exact .inl h
theorem bki_add {B1 E : Nat} {pend new : List Nat} {z a b c : Nat} {H' : AL.Hp} (L : Nat → BL) (xs ys zs : BL) (k2 : z ≤ (L 1).length ∧ (L 1).length ≤ a ∧ (L 2).length = b ∧ (L 3).length = c) (k3 : ∀ m x, x ∈ L m → x.2.length ≤ if m = 1 then 100000 else 1000) (k4 : Nw B1 E (ids (OB3 L) ++ pend))
  (hx : ∀ x ∈ xs, x.2.length ≤ 100000) (hy : ∀ x ∈ ys, x.2.length ≤ 1000) (hz : ∀ x ∈ zs, x.2.length ≤ 1000)
  (hp : ∀ q, (ids (xs.map (·.1))).count q + (ids (ys.map (·.1))).count q + (ids (zs.map (·.1))).count q + new.count q ≤ pend.count q) {a' : Nat} (ha : a + xs.length ≤ a') {z' b' c' : Nat} (hz' : z' ≤ z + xs.length) (hb' : b' = b + ys.length) (hc' : c' = c + zs.length)
  (hB : Bk0 ((L 1).map (brow 1) ++ xs.map (brow 1)) ((L 2).map (brow 2) ++ ys.map (brow 2)) ((L 3).map (brow 3) ++ zs.map (brow 3)) H') : BkI B1 E new z' a' b' c' H' := by
 have e1 : addL (addL (addL L 1 xs) 2 ys) 3 zs 1 = L 1 ++ xs := by rw [addL_ne _ (by decide), addL_ne _ (by decide), addL_eq]
 have e2 : addL (addL (addL L 1 xs) 2 ys) 3 zs 2 = L 2 ++ ys := by rw [addL_ne _ (by decide), addL_eq, addL_ne _ (by decide)]
 have e3 : addL (addL (addL L 1 xs) 2 ys) 3 zs 3 = L 3 ++ zs := by rw [addL_eq, addL_ne _ (by decide), addL_ne _ (by decide)]
 refine ⟨addL (addL (addL L 1 xs) 2 ys) 3 zs, by rw [e1, e2, e3, List.map_append, List.map_append, List.map_append]; exact hB, ?_, fun m x hm => ?_, k4.cnt fun q => ?_⟩
 ·rw [e1, e2, e3, List.length_append, List.length_append, List.length_append]; omega
 ·rcases mem_addL hm with h1 | ⟨rfl, h1⟩
  ·rcases mem_addL h1 with h2 | ⟨rfl, h2⟩
   ·rcases mem_addL h2 with h3 | ⟨rfl, h3⟩
    ·exact k3 m x h3
    ·exact hx x h3
   ·exact hy x h2
  ·exact hz x h1
 ·have := hp q
  simp only [List.count_append, ob3_count L (.inl rfl), ob3_count _ (.inr (.inl rfl)), ob3_count _ (.inr (.inr rfl))]
  omega
theorem ids_one (b : OB) (l : Lw) : ids ([(b, l)].map (·.1)) = oid b := by simp [ids]
theorem kb_int {B1 E : Nat} {pend : List Nat} {z a b c : Nat} {H : AL.Hp} (s : Bool) (bo : OB) (l : List Nat) (h : BkI B1 E (oid bo ++ pend) z a b c H) (hl : l.length ≤ 100000) (ha : a ≤ 80000) :
  ACI Tryz.prog 49 [.hp 47 1 0 0, .agg [.bool s, fnat bo l]] H (fun _ H' => BkI B1 E pend (z + 1) (a + 1) b c H' ∧ KeptB H H') := by
 obtain ⟨L, k1, k2, k3, k4⟩ := h
 refine aci_mono (bqint_ok _ _ _ s bo l (by rw [List.length_map]; omega) H k1) ?_
 rintro _ H' ⟨g1, g2⟩
 refine ⟨bki_add L [(bo, lims l)] [] [] k2 k3 k4 (fun x hx => ?_) (by simp) (by simp) (fun q => ?_) (Nat.le_refl _) (by simp) rfl rfl (by simp only [List.map_nil, List.append_nil]; exact g1), g2⟩
 ·rw [List.mem_singleton.1 hx]; simpa [lims, ilims] using hl
 ·rw [ids_one]; simp [ids, List.count_append]
theorem kb_rat {B1 E : Nat} {pend : List Nat} {z a b c : Nat} {H : AL.Hp} (bo co : OB) (r : RQ) (h : BkI B1 E (oid bo ++ oid co ++ pend) z a b c H) (hr : SzQ 100000 r) (ha : a ≤ 80000) :
  ACI Tryz.prog 51 [.hp 47 1 0 0, .agg (frq bo co r)] H (fun _ H' => BkI B1 E pend z (a + 2) b c H' ∧ KeptB H H') := by
 obtain ⟨L, k1, k2, k3, k4⟩ := h
 refine aci_mono (bqrat_ok _ _ _ bo co r (by rw [List.length_map]; omega) H k1) ?_
 rintro _ H' ⟨g1, g2⟩
 refine ⟨bki_add L [(bo, lims r.1.2), (co, lims r.2)] [] [] k2 k3 k4 (fun x hx => ?_) (by simp) (by simp) (fun q => ?_) (Nat.le_refl _) (by simp) rfl rfl (by simp only [List.map_nil, List.append_nil]; exact g1), g2⟩
 ·simp only [List.mem_cons, List.not_mem_nil, or_false] at hx
  rcases hx with rfl | rfl
  ·simpa [lims] using hr.1.1
  ·simpa [lims] using hr.2.1
 ·simp [ids, List.count_append]; omega
def qnL (bs : List (OB × OB)) (l : List RQ) : BL := (List.zipWith (fun b r => [(b.1, lims r.1.2), (b.2, lims r.2)]) bs l).flatten
theorem qnL_map (bs : List (OB × OB)) (l : List RQ) : (qnL bs l).map (brow 1) = qns bs l := by
 rw [qnL, qns, List.map_flatten, List.map_zipWith]; rfl
theorem qnL_ids : ∀ {bs : List (OB × OB)} {l : List RQ}, bs.length = l.length → ids ((qnL bs l).map (·.1)) = idq bs
 | [], _, _ => by simp [qnL, ids, idq]
 | p :: bs, [], h => by simp at h
 | p :: bs, r :: l, h => by
  have ih := qnL_ids (bs := bs) (l := l) (by simpa using h)
  have e : qnL (p :: bs) (r :: l) = [(p.1, lims r.1.2), (p.2, lims r.2)] ++ qnL bs l := rfl
  rw [e, List.map_append, ids_app2, ih]
  simp [ids, idq]
theorem qnL_len (bs : List (OB × OB)) (l : List RQ) : (qnL bs l).length ≤ 2 * l.length := by
 have := qns_len bs l
 rw [← qnL_map, List.length_map] at this
 exact this
theorem qnL_mem {bs : List (OB × OB)} {l : List RQ} {x : OB × Lw} (h : x ∈ qnL bs l) : ∃ r ∈ l, x.2 = lims r.1.2 ∨ x.2 = lims r.2 := by
 rw [qnL, List.mem_flatten] at h
 obtain ⟨y, hy, hx⟩ := h
 obtain ⟨i, hi⟩ := List.getElem?_of_mem hy
 rw [List.getElem?_zipWith] at hi
 cases hb : bs[i]? with
 | none => rw [hb] at hi; simp at hi
 | some o =>
  cases hz : l[i]? with
  | none => rw [hb, hz] at hi; simp at hi
  | some r =>
   rw [hb, hz] at hi
   injection hi with hi
   subst hi
   refine ⟨r, List.mem_of_getElem? hz, ?_⟩
   simp only [List.mem_cons, List.not_mem_nil, or_false] at hx
   rcases hx with rfl | rfl
   ·exact .inl rfl
   ·exact .inr rfl
theorem kb_poly {B1 E : Nat} {pend : List Nat} {z a b c : Nat} {H : AL.Hp} (bo : OB) (bs : List (OB × OB)) (l : List RQ) (hbl : bs.length = l.length) (hq : BQ 1000 100000 l) (h : BkI B1 E (oid bo ++ idq bs ++ pend) z a b c H) (ha : a ≤ 70000) (hb : b ≤ 900) :
  ACI Tryz.prog 53 [.hp 47 1 0 0, .iv (fqp bo bs l)] H (fun _ H' => BkI B1 E pend z (a + 2000) (b + 1) c H' ∧ KeptB H H') := by
 obtain ⟨L, k1, k2, k3, k4⟩ := h
 have hl := hq.1
 refine aci_mono (bqpoly_ok _ _ _ bo bs l hbl hl (by rw [List.length_map]; omega) (by rw [List.length_map]; omega) H k1) ?_
 rintro _ H' ⟨g1, g2⟩
 have hn := qnL_len bs l
 refine ⟨bki_add L (qnL bs l) [(bo, fqrows bs l)] [] k2 k3 k4 (fun x hx => ?_) (fun x hx => ?_) (by simp) (fun q => ?_) (by omega) (by omega) rfl rfl (by rw [qnL_map]; simp only [List.map_nil, List.append_nil]; exact g1), g2⟩
 ·obtain ⟨r, hr, e⟩ := qnL_mem hx
  have h1 := hq.2 r hr
  rcases e with e | e
  ·rw [e, lims_len]; exact h1.1.1
  ·rw [e, lims_len]; exact h1.2.1
 ·rw [List.mem_singleton.1 hx]
  show (fqrows bs l).length ≤ 1000
  rw [fqrows_len hbl]; exact hl
 ·rw [qnL_ids hbl, ids_one]; simp only [List.map_nil, show ids [] = [] from rfl, List.count_nil, List.count_append]; omega
theorem kb_ints {B1 E : Nat} {pend : List Nat} {z a b c : Nat} {H : AL.Hp} (bo : OB) (l : List Int) (h : BkI B1 E (oid bo ++ pend) z a b c H) (hl : l.length ≤ 1000) (hc : c ≤ 900) :
  ACI Tryz.prog 58 [.hp 47 1 0 0, .iv (fints bo l)] H (fun _ H' => BkI B1 E pend z a b (c + 1) H' ∧ KeptB H H') := by
 obtain ⟨L, k1, k2, k3, k4⟩ := h
 refine aci_mono (bqints_ok _ _ _ bo l (by rw [List.length_map]; omega) H k1) ?_
 rintro _ H' ⟨g1, g2⟩
 refine ⟨bki_add L [] [] [(bo, ilims l)] k2 k3 k4 (by simp) (by simp) (fun x hx => ?_) (fun q => ?_) (by simp) (by simp) rfl rfl (by simp only [List.map_nil, List.append_nil]; exact g1), g2⟩
 ·rw [List.mem_singleton.1 hx]; simpa [lims, ilims] using hl
 ·rw [ids_one]; simp [ids, List.count_append]
set_option linter.defProp false
@[reducible] def zC : Zi := ⟨none, fun _ => false, fun _ => false, .both⟩
@[reducible] def zE : Zi := ⟨some (134, 1), (· == 47), fun _ => false, .both⟩
theorem zbxC (e : Nat) : @Zi.bx zC e = false := rfl
theorem zbsC (e : Nat) : @Zi.bs zC e = false := rfl
theorem zstC : @Zi.st zC = .both := rfl
theorem zslC : @zsl zC = .sl [] := rfl
theorem zbxE (e : Nat) : @Zi.bx zE e = (e == 47) := rfl
theorem zbsE (e : Nat) : @Zi.bs zE e = false := rfl
theorem zstE : @Zi.st zE = .both := rfl
theorem zslE : @zsl zE = .own none 134 1 [] := rfl
theorem stripV_hp (h st i off : Nat) : stripV (.hp h st i off) = .hp h st i off := rfl
theorem stripV_hs (h st : Nat) : stripV (.hs h st) = .hs h st := rfl
theorem stripV_tup (l : List AV) : stripV (.tup l) = .tup l := rfl
theorem stripV_ip (l : List IV) : stripV (.ip l) = .ip l := rfl
def wxM := And.intro @wxS (And.intro @stripV_hp (And.intro @stripV_hs (And.intro @stripV_tup (@stripV_ip))))
def wxC := And.intro @wxM (And.intro @zbxC (And.intro @zbsC (And.intro @zstC (@zslC))))
def wxE := And.intro @wxM (And.intro @zbxE (And.intro @zbsE (And.intro @zstE (@zslE))))
theorem strip_prow (c : RI) : (prow c).map stripI = prow c := rfl
theorem strip_qrow (c : RQ) : (qrow c).map stripI = qrow c := rfl
theorem rms_len (p : List RI) : (RmS p).length = 3 := rfl
theorem rms_spl (a b c : IV) (p : List RI) : splice [a, b, c] 0 (RmS p) = RmS p := rfl
def KA (x : C12) (f : AL.Fr) (H : AL.Hp) : Prop :=
 Fit12 x ∧ f 1 = .hp 1 1 0 0 ∧ H 1 = .blk false 1 75 15 [case12 x] ∧ f 3 = .hp 3 1 0 0 ∧ H 3 = .blk false 1 79 3 [RmS x.P] ∧
 f 6 = .hp 6 1 0 0 ∧ H 6 = .blk false 1 79 3 [RmS [x.A, x.B]] ∧ f 4 = .iv (.sl (rats x.R)) ∧ f 5 = .iv (.sl (rats [x.X, x.Y]))
theorem Fit12.ab {x : C12} (f : Fit12 x) : RP 40 200 [x.A, x.B] := ⟨by simp, fun c hc => by
 simp only [List.mem_cons, List.not_mem_nil, or_false] at hc
 rcases hc with rfl | rfl
 ·exact f.A
 ·exact f.B⟩
theorem Fit12.xy {x : C12} (f : Fit12 x) : BQ 40 200 [x.X, x.Y] := bq_two f.X f.Y
set_option maxRecDepth 8000 in
set_option maxHeartbeats 4000000 in
theorem ekeeps_a (x : C12) (h : Ok12 x)
  (hrest : ∀ (w : World) (D : Nat → Prop) (f : AL.Fr) (H : AL.Hp) (β : Nat → Value) (a : Act) (w' : World), KA x f H → Rel ⟨fun _ _ => False, true⟩ (fun _ => False) w D Tryz.f4.ntmps f H β a w' →
   (codeDrop 6 (bodyOf Tryz.prog 4)).wpIn (Wd none) 0 Tryz.prog (Conc ⟨fun _ _ => False, false⟩ (fun _ => False) w D Tryz.f4.ntmps (@RetC zC Tryz.prog [.tmp 2] none [cb true])) a w') :
  AC Tryz.prog 4 [.agg (case12 x)] none [cb true] := by
 refine AC.by_segs (zi := zC) (rs := [.tmp 2]) ords Tryz.func4 (by rfl) (by rfl) (by rfl) (by rfl) (by rfl) (by rfl) 6 (fun _ => KA x) (fun B0 => ?_) hrest
 have g := great12_ok x h
 simp (disch := omega) only [wt, seval, wxC]
 refine call_by (awake12_ok) (by rfl) (by simp) ?_
 simp (disch := omega) only [wt, seval, wxC]
 cases hg : great12 x with
 | true =>
  rw [hg] at g
  refine call_by (g) (by rfl) (by simp) ?_
  simp (disch := omega) only [wt, seval]
  try rfl
 | false =>
  rw [hg] at g
  have f := fit12 h hg
  have p3 := rats_two x.X x.Y
  refine call_by (g) (by rfl) (by simp) ?_
  simp (disch := omega) only [wt, seval, wxC]
  refine call_by ((roomp_ok x.P (f.P.mono (by decide) (by decide)))) (by rfl) (by simp) ?_
  simp (disch := omega) only [wt, seval, rms_len, rms_spl, wxC]
  refine .inl ⟨tmps_by (by kernel_rfl), ?_⟩
  refine call_by ((krats_ok x.R (f.R.mono (by decide) (by decide)))) (by rfl) (by simp) ?_
  simp (disch := omega) only [wt, seval, rqs, case12_X, case12_Y, wxC, p3]
  refine call_by ((krats_ok [x.X, x.Y] (f.xy.mono (by decide) (by decide)))) (by rfl) (by simp) ?_
  simp (disch := omega) only [wt, seval, case12_A, case12_B, ints_two, strip_prow, wxC]
  refine ⟨log_by (by kernel_rfl), ?_⟩
  refine call_by ((roomp_ok [x.A, x.B] (f.ab.mono (by decide) (by decide)))) (by rfl) (by simp) ?_
  simp (disch := omega) only [wt, seval, rms_len, rms_spl, wxC]
  exact ⟨f, by first | (simp only [wt, seval]; done) | (simp only [wt, seval, rqs, case12_A, case12_B, case12_X, case12_Y, ints_two, rms_len, rms_spl, strip_prow, strip_qrow, wxC]; rfl) | rfl, by first | (simp only [wt, seval]; done) | (simp only [wt, seval, rqs, case12_A, case12_B, case12_X, case12_Y, ints_two, rms_len, rms_spl, strip_prow, strip_qrow, wxC]; rfl) | rfl, by first | (simp only [wt, seval]; done) | (simp only [wt, seval, rqs, case12_A, case12_B, case12_X, case12_Y, ints_two, rms_len, rms_spl, strip_prow, strip_qrow, wxC]; rfl) | rfl, by first | (simp only [wt, seval]; done) | (simp only [wt, seval, rqs, case12_A, case12_B, case12_X, case12_Y, ints_two, rms_len, rms_spl, strip_prow, strip_qrow, wxC]; rfl) | rfl, by first | (simp only [wt, seval]; done) | (simp only [wt, seval, rqs, case12_A, case12_B, case12_X, case12_Y, ints_two, rms_len, rms_spl, strip_prow, strip_qrow, wxC]; rfl) | rfl, by first | (simp only [wt, seval]; done) | (simp only [wt, seval, rqs, case12_A, case12_B, case12_X, case12_Y, ints_two, rms_len, rms_spl, strip_prow, strip_qrow, wxC]; rfl) | rfl, by first | (simp only [wt, seval]; done) | (simp only [wt, seval, rqs, case12_A, case12_B, case12_X, case12_Y, ints_two, rms_len, rms_spl, strip_prow, strip_qrow, wxC]; rfl) | rfl, by first | (simp only [wt, seval]; done) | (simp only [wt, seval, rqs, case12_A, case12_B, case12_X, case12_Y, ints_two, rms_len, rms_spl, strip_prow, strip_qrow, wxC]; rfl) | rfl⟩
set_option linter.defProp false
def wr (B : Nat) : IV → IV
 | .sl r => .av (fun b => B ≤ b) (.sl r)
 | x => x
theorem wr_rep {w : World} {D : Nat → Prop} {x : IV} {v : Value} (h : Rep w D x v) : Rep w D (wr w.heap.size x) v := by
 cases x with
 | sl r => exact .av _ _ _ h.fresh
 | _ => exact h
theorem wr_reps {w : World} {D : Nat → Prop} : ∀ {xs : List IV} {vs : List Value}, Reps w D xs vs → Reps w D (xs.map (wr w.heap.size)) vs
 | [], [], _ => trivial
 | _ :: _, _ :: _, h => ⟨wr_rep h.1, wr_reps h.2⟩
 | [], _ :: _, h => h.elim
 | _ :: _, [], h => h.elim
def case12v (B : Nat) (x : C12) : List IV := (case12 x).map (wr B)
def rmsv (B : Nat) (p : List RI) : List IV := (RmS p).map (wr B)
def prowv (B : Nat) (c : RI) : List IV := (prow c).map (wr B)
def qrowv (B : Nat) (c : RQ) : List IV := (qrow c).map (wr B)
def KH2 (x : C12) (B1 : Nat) (H : AL.Hp) : Prop :=
 H 800001 = .blk false 1 75 15 [case12v B1 x] ∧ H 800003 = .blk false 1 79 3 [rmsv B1 x.P] ∧ H 800006 = .blk false 1 79 3 [rmsv B1 [x.A, x.B]]
def KF2 (x : C12) (B1 : Nat) (f : AL.Fr) : Prop :=
 f 1 = .hp 800001 1 0 0 ∧ f 3 = .hp 800003 1 0 0 ∧ f 6 = .hp 800006 1 0 0 ∧ f 4 = .iv (.av (fun b => B1 ≤ b) (.sl (rats x.R))) ∧ f 5 = .iv (.av (fun b => B1 ≤ b) (.sl (rats [x.X, x.Y])))
def KB0 (x : C12) (B1 : Nat) (f : AL.Fr) (H : AL.Hp) : Prop := Fit12 x ∧ KF2 x B1 f ∧ KH2 x B1 H ∧ H 47 = .none ∧ H 999 = .mrk B1
theorem kseg_0 (x : C12) {D0 : Nat → Prop} {w0 : World} {f : AL.Fr} {H : AL.Hp} {β : Nat → Value} {a : Act} {w : World} {n : Nat} (h : KA x f H) (R : Rel ⟨fun _ _ => False, true⟩ (fun _ => False) w0 D0 n f H β a w) :
  ∃ B1 f' H' β', w0.heap.size ≤ B1 ∧ KB0 x B1 f' H' ∧ Rel ⟨fun _ _ => False, true⟩ (fun _ => False) w0 D0 n f' H' β' a w := by
 obtain ⟨ft, h1, hH1, h3, hH3, h6, hH6, h4, h5⟩ := h
 obtain ⟨B1, hB1⟩ : ∃ B1, B1 = w.heap.size := ⟨_, rfl⟩
 obtain ⟨f', hf'⟩ : ∃ f' : AL.Fr, f' = fun t => if t = 1 ∨ t = 3 ∨ t = 6 then .hp (800000 + t) 1 0 0 else if t = 4 then .iv (.av (fun b => B1 ≤ b) (.sl (rats x.R))) else if t = 5 then .iv (.av (fun b => B1 ≤ b) (.sl (rats [x.X, x.Y]))) else .dead := ⟨_, rfl⟩
 obtain ⟨H', hH'⟩ : ∃ H' : AL.Hp, H' = fun h => if h = 800001 then .blk false 1 75 15 [case12v B1 x] else if h = 800003 then .blk false 1 79 3 [rmsv B1 x.P] else if h = 800006 then .blk false 1 79 3 [rmsv B1 [x.A, x.B]] else if h = 999 then .mrk B1 else .none := ⟨_, rfl⟩
 obtain ⟨β', hβ'⟩ : ∃ β' : Nat → Value, β' = fun h => β (h - 800000) := ⟨_, rfl⟩
 have g1 : H' 800001 = .blk false 1 75 15 [case12v B1 x] := by rw [hH']; rfl
 have g3 : H' 800003 = .blk false 1 79 3 [rmsv B1 x.P] := by rw [hH']; rfl
 have g6 : H' 800006 = .blk false 1 79 3 [rmsv B1 [x.A, x.B]] := by rw [hH']; rfl
 have g9 : H' 999 = .mrk B1 := by rw [hH']; rfl
 refine ⟨B1, f', H', β', by rw [hB1]; exact R.size, ⟨ft, ⟨by simp [hf'], by simp [hf'], by simp [hf'], by simp [hf'], by simp [hf']⟩, ⟨g1, g3, g6⟩, by rw [hH']; rfl, g9⟩, ?_⟩
 have hc : ∀ h, (∃ k e sz row, h = 800000 + k ∧ (k = 1 ∨ k = 3 ∨ k = 6) ∧ H k = .blk false 1 e sz [row] ∧ H' h = .blk false 1 e sz [row.map (wr B1)]) ∨ (h = 999) ∨ H' h = .none := fun h => by
  by_cases e1 : h = 800001
  ·subst e1; exact .inl ⟨1, _, _, _, rfl, .inl rfl, hH1, g1⟩
  by_cases e3 : h = 800003
  ·subst e3; exact .inl ⟨3, _, _, _, rfl, .inr (.inl rfl), hH3, g3⟩
  by_cases e6 : h = 800006
  ·subst e6; exact .inl ⟨6, _, _, _, rfl, .inr (.inr rfl), hH6, g6⟩
  by_cases e9 : h = 999
  ·exact .inr (.inl e9)
  ·exact .inr (.inr (by rw [hH']; simp only; rw [if_neg e1, if_neg e3, if_neg e6, if_neg e9]))
 have hβk : ∀ k, β' (800000 + k) = β k := fun k => by rw [hβ']; simp only [Nat.add_sub_cancel_left]
 have hm' : ∀ h, (H' h).isMut → ∃ k, h = 800000 + k ∧ (k = 1 ∨ k = 3 ∨ k = 6) ∧ (H k).isMut := fun h hm => by
  rcases hc h with ⟨k, e, sz, row, rfl, hk, hb, e'⟩ | rfl | e'
  ·exact ⟨k, rfl, hk, by rw [hb]; trivial⟩
  ·rw [g9] at hm; exact hm.elim
  ·rw [e'] at hm; exact hm.elim
 have hDD : ∀ b, DD H' β' D0 b → DD H β D0 b := by
  rintro b (h | ⟨h, hm, hk⟩)
  ·exact .inl h
  ·obtain ⟨k, rfl, _, hm2⟩ := hm' h hm
   rw [hβk] at hk
   exact .inr ⟨k, hm2, hk⟩
 have g : Grows w (DD H β D0) w (DD H' β' D0) := Grows.of_sub hDD
 refine R.jump (fun _ _ h => h) rfl rfl rfl (Nat.le_refl _) (fun _ _ _ => rfl) R.tsize (R.rnd rfl) (fun t => ?_) (fun h st e sz rows hh => ?_) (fun h st e sz rows hh => ?_)
  (fun h h' hne hm hm2 => ?_) (fun h st e rows hh => ?_) (fun h B hh => ?_) (fun h x v hh => ?_)
 ·rw [hf']; simp only
  have hRt := R.tmps t
  split
  ·rename_i hk
   have key : ∀ e sz r, H t = .blk false 1 e sz [r] → H' (800000 + t) = .blk false 1 e sz [r.map (wr B1)] → f t = .hp t 1 0 0 → AVRep w (DD H' β' D0) H' β' (.hp (800000 + t) 1 0 0) (a.tmps.getD t Go.undef) := fun e sz r hb hb' hft => by
    rw [hft] at hRt
    simp only [AVRep, hb, hb', hβk] at hRt ⊢
    exact hRt
   rcases hk with rfl | rfl | rfl
   ·exact key _ _ _ hH1 g1 h1
   ·exact key _ _ _ hH3 g3 h3
   ·exact key _ _ _ hH6 g6 h6
  ·split
   ·rename_i hk; subst hk
    rw [h4] at hRt
    simp only [AVRep] at hRt ⊢
    rw [hB1]; exact .av _ _ _ (hRt.mono g).fresh
   ·split
    ·rename_i hk; subst hk
     rw [h5] at hRt
     simp only [AVRep] at hRt ⊢
     rw [hB1]; exact .av _ _ _ (hRt.mono g).fresh
    ·simp only [AVRep]
 ·rcases hc h with ⟨k, e2, sz2, row, rfl, hk, hb, e'⟩ | rfl | e'
  ·rw [e'] at hh
   injection hh with _ x1 x2 x3 x4
   subst x1 x2 x3 x4
   rw [hβk]
   obtain ⟨o1, o2⟩ := (R.own _ _ _ _ _ hb).mono g fun _ _ => rfl
   refine ⟨fun r hr => ?_, ?_⟩
   ·rw [List.mem_singleton.1 hr, List.length_map]; exact o1 row (by simp)
   ·rcases o2 with ⟨o2, _⟩ | ⟨gb, cap, cur, e1, e2, e3, e4, e5, e6, e7⟩
    ·cases o2
    ·refine .inr ⟨gb, cap, cur, e1, e2, e3, e4, e5, e6, ?_⟩
     simp only [List.flatten_cons, List.flatten_nil, List.append_nil] at e7 ⊢
     rw [hB1]
     exact wr_reps e7
  ·rw [g9] at hh; cases hh
  ·rw [e'] at hh; cases hh
 ·rcases hc h with ⟨k, e2, sz2, row, rfl, hk, hb, e'⟩ | rfl | e'
  ·rw [e'] at hh; cases hh
  ·rw [g9] at hh; cases hh
  ·rw [e'] at hh; cases hh
 ·obtain ⟨k, rfl, _, m1⟩ := hm' h hm
  obtain ⟨k', rfl, _, m2⟩ := hm' h' hm2
  rw [hβk, hβk]
  exact R.dis k k' (by omega) m1 m2
 ·rcases hc h with ⟨k, e2, sz2, row, rfl, hk, hb, e'⟩ | rfl | e'
  ·rw [e'] at hh; cases hh
  ·rw [g9] at hh; cases hh
  ·rw [e'] at hh; cases hh
 ·rcases hc h with ⟨k, e2, sz2, row, rfl, hk, hb, e'⟩ | rfl | e'
  ·rw [e'] at hh; cases hh
  ·rw [g9] at hh; injection hh with hh; omega
  ·rw [e'] at hh; cases hh
 ·rcases hc h with ⟨k, e2, sz2, row, rfl, hk, hb, e'⟩ | rfl | e'
  ·rw [e'] at hh; cases hh
  ·rw [g9] at hh; cases hh
  ·rw [e'] at hh; cases hh
set_option linter.defProp false
theorem c12v_P (B : Nat) (x : C12) : (case12v B x).getD 0 default = .av (fun b => B ≤ b) (.sl (raws x.P)) := rfl
theorem c12v_A (B : Nat) (x : C12) : List.take 2 (List.drop 4 (case12v B x)) = prowv B x.A := rfl
theorem c12v_B (B : Nat) (x : C12) : List.take 2 (List.drop 6 (case12v B x)) = prowv B x.B := rfl
theorem c12v_X (B : Nat) (x : C12) : List.take 3 (List.drop 8 (case12v B x)) = qrowv B x.X := rfl
theorem c12v_Y (B : Nat) (x : C12) : List.take 3 (List.drop 11 (case12v B x)) = qrowv B x.Y := rfl
theorem rmsv_0 (B : Nat) (p : List RI) : (rmsv B p).getD 0 default = .av (fun b => B ≤ b) (.sl (raws p)) := rfl
theorem rmsv_len (B : Nat) (p : List RI) : (rmsv B p).length = 3 := rfl
theorem c12v_len (B : Nat) (x : C12) : (case12v B x).length = 15 := rfl
theorem strip_prowv (B : Nat) (c : RI) : (prowv B c).map stripI = prow c := rfl
theorem strip_qrowv (B : Nat) (c : RQ) : (qrowv B c).map stripI = qrow c := rfl
theorem raws2_0 (a b : RI) : (raws [a, b]).getD 0 [] = prow a := rfl
theorem raws2_1 (a b : RI) : (raws [a, b]).getD 1 [] = prow b := rfl
theorem rats2_0 (a b : RQ) : (rats [a, b]).getD 0 [] = qrow a := rfl
theorem rats2_1 (a b : RQ) : (rats [a, b]).getD 1 [] = qrow b := rfl
theorem fi_spl (x y : IV) (b : OB) (n : Int) : splice [x, y] 0 (fint b n) = fint b n := rfl
theorem polys_all1 (ps : List (List RI)) : (∀ r ∈ polys ps, r.length = 1) ↔ True := ⟨fun _ => trivial, fun _ r hr => by
 obtain ⟨p, _, rfl⟩ := List.mem_map.1 hr
 rfl⟩
def GH (x : C12) (B1 E : Nat) (H : AL.Hp) : Prop := KH2 x B1 H ∧ H 999 = .mrk E
theorem keptGH {x : C12} {B1 E : Nat} {H H2 : AL.Hp} (k : KeptB H H2) (h : GH x B1 E H) : H2 800001 = .blk false 1 75 15 [case12v B1 x] ∧ H2 800003 = .blk false 1 79 3 [rmsv B1 x.P] ∧ H2 800006 = .blk false 1 79 3 [rmsv B1 [x.A, x.B]] ∧ H2 999 = .mrk E :=
 ⟨(k _ (by decide) (by decide) (by decide) (by decide)).trans h.1.1, (k _ (by decide) (by decide) (by decide) (by decide)).trans h.1.2.1, (k _ (by decide) (by decide) (by decide) (by decide)).trans h.1.2.2, (k _ (by decide) (by decide) (by decide) (by decide)).trans h.2⟩
theorem BkI.weak {B1 E : Nat} {pend : List Nat} {z a b c z' a' : Nat} {H : AL.Hp} (h : BkI B1 E pend z a b c H) (hz : z' ≤ z) (ha : a ≤ a') : BkI B1 E pend z' a' b c H := by
 obtain ⟨L, h1, h2, h3⟩ := h
 exact ⟨L, h1, ⟨by omega, by omega, h2.2.2⟩, h3⟩
def KB1 (x : C12) (B1 : Nat) (f : AL.Fr) (H : AL.Hp) : Prop := Fit12 x ∧ KF2 x B1 f ∧ KH2 x B1 H ∧ f 7 = .hp 47 1 0 0 ∧ ∃ E, B1 ≤ E ∧ BkI B1 E [] 2 20000 8 4 H
set_option maxRecDepth 8000 in
set_option maxHeartbeats 8000000 in
theorem kseg_1 (x : C12) (B1 : Nat) (f : AL.Fr) (H : AL.Hp) (h : KB0 x B1 f H) :
  ∃ c, (Tryz.f4.body.bind (dropO 6)) = some c ∧ @AWs zE Tryz.prog (KB1 x B1) 2 c (fun _ _ _ => False) f H := by
 refine ⟨_, rfl, ?_⟩
 obtain ⟨ft, ⟨f1, f3, f6, f4, f5⟩, ⟨g1, g3, g6⟩, g47, g9⟩ := h
 have fP : RP (2 ^ 10) (2 ^ 20) x.P := ft.P.mono (by omega) (by omega)
 have fA : Sz (2 ^ 20) x.A := ft.A.mono (by omega)
 have fB : Sz (2 ^ 20) x.B := ft.B.mono (by omega)
 have nA := kAtInt x.P x.A ft.P ft.A
 have nB := kHomog x.P x.A x.B ft.P ft.A ft.B
 have m1 := eatintx_ok x.P x.A fP fA
 have m2 := hatint_ok x.P x.A fP fA
 have n1 := ehomogx_ok x.P x.A x.B fP fA fB
 have n2 := hhomog_ok x.P x.A x.B fP fA fB
 obtain ⟨V, hV⟩ : ∃ V, ev (pv x.P) (iv x.A) = V := ⟨_, rfl⟩
 obtain ⟨U, hU⟩ : ∃ U, ihom (trimz (pv x.P)) (iv x.A) (iv x.B) = U := ⟨_, rfl⟩
 rw [hV] at m1 m2 nA
 rw [hU] at n1 n2 nB
 have m3 := sameint_g (a := V) rfl (Nat.le_trans (by exact nA) (by omega))
 have n3 := sameint_g (a := U) rfl (Nat.le_trans (by exact nB) (by omega))
 obtain ⟨u, ue, av, a1⟩ := kAt x.R x.X ft.R ft.X
 obtain ⟨sl, sr, se, sl', sv, s1⟩ := kSplit x.R x.X ft.R ft.X
 obtain ⟨tl, te, tl', t1⟩ := kThrough x.X x.Y ft.X ft.Y
 obtain ⟨rl, re, rl', r1⟩ := kRoots [x.X, x.Y] ft.xy (by simp)
 obtain ⟨el, ee, el', e1⟩ := kTable x.R x.X x.Y ft.R ft.X ft.Y
 obtain ⟨yn, ye, hy, y1⟩ := kSigns x.P x.X ft.P ft.X
 have z1 := kSignsFar x.P ft.P
 obtain ⟨wv, we, w1⟩ := kSign x.P x.X ft.P ft.X
 obtain ⟨vv, ve, v1⟩ := kTimes x.R x.X ft.R ft.X
 have p2 : [[IV.sl (raws x.P)], [IV.sl (raws x.P)]] = polys [x.P, x.P] := rfl
 simp (disch := omega) only [wt, seval, wxE, g47]
 refine aloop_by (fun f H => ∃ (k E : Nat), k ≤ 2 ∧ B1 ≤ E ∧ f 8 = .iv (.int .i64 k) ∧ KF2 x B1 f ∧ f 7 = .hp 47 1 0 0 ∧ GH x B1 E H ∧ BkI B1 E [] k (k * 10000) (k * 4) (k * 2) H) (fun f H => (2 - intAt f 8).toNat) ?_ ?_
 ·refine ⟨0, B1, by omega, Nat.le_refl _, by simp only [wt, seval]; try rfl, ⟨by simp only [wt, seval, f1], by simp only [wt, seval, f3], by simp only [wt, seval, f6], by simp only [wt, seval, f4], by simp only [wt, seval, f5]⟩, by simp only [wt, seval]; try rfl, ⟨⟨by simp only [wt, seval, g1], by simp only [wt, seval, g3], by simp only [wt, seval, g6]⟩, by simp only [wt, seval, g9]⟩, ?_⟩
  exact ⟨fun _ => [], ⟨.nils, .nils, .nils, 1, 1, 1, by simp only [wt, seval]; try rfl, .inl ⟨rfl, rfl⟩, .inl ⟨rfl, rfl⟩, .inl ⟨rfl, rfl⟩⟩, by simp, by simp, .nil _ _⟩
 clear f1 f3 f6 f4 f5 g1 g3 g6 g9 g47
 clear f
 rintro f H ⟨k, E, hk, hE, f8, ⟨f1, f3, f6, f4, f5⟩, f7, ⟨⟨g1, g3, g6⟩, g9⟩, b⟩
 rw [intAt_of f8]
 simp (disch := omega) only [wt, seval, wxE, f8]
 refine if_by (fun hlt => ?_) (fun hlt => ?_)
 ·simp (disch := omega) only [wt, seval, rmsv_0, strip_prow, raws2_0, wxE, f3, f6, g3, g6]
  refine .inr ⟨[0, 1, 2, 3, 4, 5, 7, 6, 8], [0, 1, 2, 3, 4, 5, 7, 6, 8], by kernel_rfl, tmps_by (by kernel_rfl), ?_⟩
  simp only [permL, renm, List.map_cons, List.map_nil, List.getD_cons_zero, List.getD_cons_succ]
  simp (disch := omega) only [wt, seval, rmsv_0, strip_prow, raws2_0, wxE, f3, f6, g3, g6]
  refine callx_by (m1) (by rfl) (by simp) (by assumption) ?_
  rintro B2 E2 _ hB2 hE2 ⟨vo, rfl, vn⟩
  simp (disch := omega) only [wt, seval, rmsv_0, strip_prow, fi_spl, raws2_0, raws2_1, wxE, f3, f6, g3, g6]
  have b2 := b.new hE hB2 hE2 vn
  refine ⟨log_by (by kernel_rfl), ?_⟩
  refine .inr ⟨[0, 1, 2, 3, 4, 5, 6, 7, 8, 9, 11, 10, 12], [0, 1, 2, 3, 4, 5, 6, 7, 8, 9, 11, 10, 12], by kernel_rfl, tmps_by (by kernel_rfl), ?_⟩
  simp only [permL, renm, List.map_cons, List.map_nil, List.getD_cons_zero, List.getD_cons_succ]
  simp (disch := omega) only [wt, seval, rmsv_0, strip_prow, raws2_0, raws2_1, wxE, f3, f6, g3, g6]
  refine callx_by (n1) (by rfl) (by simp) (by rfl) ?_
  rintro B3 E3 _ hB3 hE3 ⟨wo, rfl, wn⟩
  simp (disch := omega) only [wt, seval, fi_take, c12v_P, c12v_A, fi_spl, strip_prowv, wxE, f1, g1]
  have b3 := b2.new (by omega) hB3 hE3 wn
  refine ⟨log_by (by kernel_rfl), ?_⟩
  refine .inl ⟨tmps_by (by kernel_rfl), ?_⟩
  refine call_by (m2) (by rfl) (by simp) ?_
  simp (disch := omega) only [wt, seval]
  refine call_by ((m3.soft (.cons (softI _ _) (.cons (.refl _) .nil)))) (by rfl) (by simp) ?_
  simp (disch := omega) only [wt, seval, fi_take, c12v_P, c12v_A, c12v_B, strip_prowv, wxE, f1, g1]
  refine call_by (n2) (by rfl) (by simp) ?_
  simp (disch := omega) only [wt, seval]
  refine call_by ((n3.soft (.cons (softI _ _) (.cons (.refl _) .nil)))) (by rfl) (by simp) ?_
  simp (disch := omega) only [wt, seval, fi_take, wxE, f7]
  refine ⟨log_by (by kernel_rfl), ?_⟩
  refine calli_by (kb_int (pend := oid wo) _ vo _ (BkI.cnt (pend := [] ++ oid vo ++ oid wo) (by repeat first | exact b3 | refine BkI.upd ?_ (by decide) _) (fun q => by simp only [List.count_append, List.count_nil]; omega)) nA (by omega)) ?_
  rintro _ H4 ⟨b4, kp⟩
  have h10 : H4 10 = .blk false ((H 10).stamp + 1) 30 2 [fint wo U] := (kp _ (by decide) (by decide) (by decide) (by decide)).trans (by simp only [wt, seval]; try rfl)
  replace kp := keptGH (x := x) (B1 := B1) (E := E3) kp ⟨⟨by simp only [wt, seval, g1], by simp only [wt, seval, g3], by simp only [wt, seval, g6]⟩, by simp only [wt, seval]⟩
  clear g1 g3 g6 g9
  obtain ⟨g1, g3, g6, g9⟩ := kp
  simp (disch := omega) only [wt, seval, fi_take, wxE, h10, f7]
  refine calli_by (kb_int (pend := []) _ wo _ (BkI.cnt (pend := oid wo) (by repeat first | exact b4 | refine BkI.upd ?_ (by decide) _) (fun q => by simp only [List.count_append, List.count_nil]; omega)) nB (by omega)) ?_
  rintro _ H5 ⟨b5, kp⟩
  replace kp := keptGH (x := x) (B1 := B1) (E := E3) kp ⟨⟨by simp only [seval, g1], by simp only [seval, g3], by simp only [seval, g6]⟩, by simp only [seval, g9]⟩
  clear g1 g3 g6 g9
  obtain ⟨g1, g3, g6, g9⟩ := kp
  simp (disch := omega) only [wt, seval, rqs, rats2_0, wxE, f4, f5]
  refine callx_by (a1) (by rfl) (by simp) (by assumption) ?_
  rintro B6 E6 _ hB6 hE6 ⟨uo, up, rfl, un⟩
  simp (disch := omega) only [wt, seval, fq_spl, fq_take, wxE, f7]
  have b6 := b5.new (by omega) hB6 hE6 un
  refine calli_by (kb_rat (pend := []) uo up _ (BkI.cnt (pend := ([]) ++ (oid uo ++ oid up)) (by repeat first | exact b6 | refine BkI.upd ?_ (by decide) _) (fun q => by simp only [List.count_append, List.count_nil]; omega)) av (by omega)) ?_
  rintro _ H7 ⟨b7, kp⟩
  replace kp := keptGH (x := x) (B1 := B1) (E := E6) kp ⟨⟨by simp only [wt, seval, g1], by simp only [wt, seval, g3], by simp only [wt, seval, g6]⟩, by simp only [wt, seval]⟩
  clear g1 g3 g6 g9
  obtain ⟨g1, g3, g6, g9⟩ := kp
  simp (disch := omega) only [wt, seval, rqs, rats2_0, wxE, f4, f5]
  refine callx_by (s1) (by rfl) (by simp) (by assumption) ?_
  rintro B8 E8 _ hB8 hE8 ⟨qo, qs, ro, rp, rfl, ql, qn⟩
  simp (disch := omega) only [wt, seval, fq_spl, wxE, f7]
  have b8 := b7.new (by omega) hB8 hE8 qn
  refine calli_by (kb_poly (pend := oid ro ++ oid rp) qo qs _ ql sl' (BkI.cnt (pend := ([]) ++ ((oid ro ++ oid rp) ++ (oid qo ++ idq qs))) (by repeat first | exact b8 | refine BkI.upd ?_ (by decide) _) (fun q => by simp only [List.count_append, List.count_nil]; omega)) (by omega) (by omega)) ?_
  rintro _ H9 ⟨b9, kp⟩
  have h14 : H9 14 = .blk false ((H7 14).stamp + 1) 32 3 [frq ro rp sr] := (kp _ (by decide) (by decide) (by decide) (by decide)).trans (by simp only [wt, seval]; try rfl)
  replace kp := keptGH (x := x) (B1 := B1) (E := E8) kp ⟨⟨by simp only [wt, seval, g1], by simp only [wt, seval, g3], by simp only [wt, seval, g6]⟩, by simp only [wt, seval]⟩
  clear g1 g3 g6 g9
  obtain ⟨g1, g3, g6, g9⟩ := kp
  simp (disch := omega) only [wt, seval, fq_take, wxE, h14, f7]
  refine calli_by (kb_rat (pend := []) ro rp _ (BkI.cnt (pend := oid ro ++ oid rp) (by repeat first | exact b9 | refine BkI.upd ?_ (by decide) _) (fun q => by simp only [List.count_append, List.count_nil]; omega)) sv (by omega)) ?_
  rintro _ H10 ⟨b10, kp⟩
  replace kp := keptGH (x := x) (B1 := B1) (E := E8) kp ⟨⟨by simp only [seval, g1], by simp only [seval, g3], by simp only [seval, g6]⟩, by simp only [seval, g9]⟩
  clear g1 g3 g6 g9
  obtain ⟨g1, g3, g6, g9⟩ := kp
  simp (disch := omega) only [wt, seval, rqs, wxE, f5]
  refine .inl ⟨tmps_by (by kernel_rfl), ?_⟩
  refine callx_by (t1) (by rfl) (by simp) (by assumption) ?_
  rintro B11 E11 _ hB11 hE11 ⟨mo, ms, rfl, ml, mn⟩
  simp (disch := omega) only [wt, seval, wxE, f7]
  have b11 := b10.new (by omega) hB11 hE11 mn
  refine ⟨log_by (by kernel_rfl), ?_⟩
  refine calli_by (kb_poly (pend := []) mo ms _ ml tl' (BkI.cnt (pend := ([]) ++ (oid mo ++ idq ms)) (by repeat first | exact b11 | refine BkI.upd ?_ (by decide) _) (fun q => by simp only [List.count_append, List.count_nil]; omega)) (by omega) (by omega)) ?_
  rintro _ H12 ⟨b12, kp⟩
  replace kp := keptGH (x := x) (B1 := B1) (E := E11) kp ⟨⟨by simp only [wt, seval, g1], by simp only [wt, seval, g3], by simp only [wt, seval, g6]⟩, by simp only [wt, seval]⟩
  clear g1 g3 g6 g9
  obtain ⟨g1, g3, g6, g9⟩ := kp
  simp (disch := omega) only [wt, seval, wxE, f5]
  refine callx_by (r1) (by rfl) (by simp) (by assumption) ?_
  rintro B13 E13 _ hB13 hE13 ⟨fo, fs, rfl, fl, fn⟩
  simp (disch := omega) only [wt, seval, wxE, f7]
  have b13 := b12.new (by omega) hB13 hE13 fn
  refine calli_by (kb_poly (pend := []) fo fs _ fl rl' (BkI.cnt (pend := ([]) ++ (oid fo ++ idq fs)) (by repeat first | exact b13 | refine BkI.upd ?_ (by decide) _) (fun q => by simp only [List.count_append, List.count_nil]; omega)) (by omega) (by omega)) ?_
  rintro _ H14 ⟨b14, kp⟩
  replace kp := keptGH (x := x) (B1 := B1) (E := E13) kp ⟨⟨by simp only [wt, seval, g1], by simp only [wt, seval, g3], by simp only [wt, seval, g6]⟩, by simp only [wt, seval]⟩
  clear g1 g3 g6 g9
  obtain ⟨g1, g3, g6, g9⟩ := kp
  simp (disch := omega) only [wt, seval, rqs, rats2_0, rats2_1, wxE, f4, f5]
  refine .inl ⟨tmps_by (by kernel_rfl), ?_⟩
  refine callx_by (e1) (by rfl) (by simp) (by assumption) ?_
  rintro B15 E15 _ hB15 hE15 ⟨lo, ls, rfl, ll, ln⟩
  simp (disch := omega) only [wt, seval, wxE, f7]
  have b15 := b14.new (by omega) hB15 hE15 ln
  refine ⟨log_by (by kernel_rfl), ?_⟩
  refine calli_by (kb_poly (pend := []) lo ls _ ll el' (BkI.cnt (pend := ([]) ++ (oid lo ++ idq ls)) (by repeat first | exact b15 | refine BkI.upd ?_ (by decide) _) (fun q => by simp only [List.count_append, List.count_nil]; omega)) (by omega) (by omega)) ?_
  rintro _ H16 ⟨b16, kp⟩
  replace kp := keptGH (x := x) (B1 := B1) (E := E15) kp ⟨⟨by simp only [wt, seval, g1], by simp only [wt, seval, g3], by simp only [wt, seval, g6]⟩, by simp only [wt, seval]⟩
  clear g1 g3 g6 g9
  obtain ⟨g1, g3, g6, g9⟩ := kp
  simp (disch := omega) only [wt, seval, rqs, rmsv_0, polys_all1, rats2_0, wxE, p2, f3, f5, g3]
  refine .inl ⟨tmps_by (by kernel_rfl), ?_⟩
  refine callx_by (y1) (by rfl) (by simp) (by assumption) ?_
  rintro B17 E17 _ hB17 hE17 ⟨no, ns, rfl, nl, nn⟩
  simp (disch := omega) only [wt, seval, wxE, f7]
  have b17 := b16.new (by omega) hB17 hE17 nn
  refine ⟨log_by (by kernel_rfl), ?_⟩
  refine calli_by (kb_ints (pend := []) no ns (BkI.cnt (pend := ([]) ++ (oid no)) (by repeat first | exact b17 | refine BkI.upd ?_ (by decide) _) (fun q => by simp only [List.count_append, List.count_nil]; omega)) (by omega) (by omega)) ?_
  rintro _ H18 ⟨b18, kp⟩
  replace kp := keptGH (x := x) (B1 := B1) (E := E17) kp ⟨⟨by simp only [wt, seval, g1], by simp only [wt, seval, g3], by simp only [wt, seval, g6]⟩, by simp only [wt, seval]⟩
  clear g1 g3 g6 g9
  obtain ⟨g1, g3, g6, g9⟩ := kp
  simp (disch := omega) only [wt, seval, rmsv_0, polys_all1, wxE, p2, f3, f7, g3]
  refine callx_by (z1) (by rfl) (by simp) (by assumption) ?_
  rintro B19 E19 _ hB19 hE19 ⟨zo, zs, rfl, zl2, zn⟩
  simp (disch := omega) only [wt, seval]
  have b19 := b18.new (by omega) hB19 hE19 zn
  refine calli_by (kb_ints (pend := []) zo zs (BkI.cnt (pend := ([]) ++ (oid zo)) (by repeat first | exact b19 | refine BkI.upd ?_ (by decide) _) (fun q => by simp only [List.count_append, List.count_nil]; omega)) (by omega) (by omega)) ?_
  rintro _ H20 ⟨b20, kp⟩
  replace kp := keptGH (x := x) (B1 := B1) (E := E19) kp ⟨⟨by simp only [wt, seval, g1], by simp only [wt, seval, g3], by simp only [wt, seval, g6]⟩, by simp only [wt, seval]⟩
  clear g1 g3 g6 g9
  obtain ⟨g1, g3, g6, g9⟩ := kp
  simp (disch := omega) only [wt, seval, rqs, rmsv_0, rats2_0, wxE, f3, f5, g3]
  refine .inl ⟨tmps_by (by kernel_rfl), ?_⟩
  refine call_by (w1) (by rfl) (by simp) ?_
  simp (disch := omega) only [wt, seval, rqs, rats2_0, wxE, f4, f5]
  refine ⟨log_by (by kernel_rfl), ?_⟩
  refine call_by (v1) (by rfl) (by simp) ?_
  simp (disch := omega) only [wt, seval, wxE, f8, f7]
  refine ⟨⟨k + 1, E19, by omega, by omega, by omega, ⟨by simp only [wt, seval, f1], by simp only [wt, seval, f3], by simp only [wt, seval, f6], by simp only [wt, seval, f4], by simp only [wt, seval, f5]⟩, ⟨⟨by simp only [seval, g1], by simp only [seval, g3], by simp only [seval, g6]⟩, by simp only [seval, g9]⟩, ?_⟩, by omega⟩
  have bb := b20.weak (z' := k + 1) (a' := (k + 1) * 10000) (by omega) (by omega)
  rw [show k * 4 + 1 + 1 + 1 + 1 = (k + 1) * 4 by omega, show k * 2 + 1 + 1 = (k + 1) * 2 by omega] at bb
  repeat first | exact bb | refine BkI.upd ?_ (by decide) _
 ·simp (disch := omega) only [wt, seval, wxE]
  obtain rfl : k = 2 := by omega
  exact ⟨ft, ⟨by simp only [wt, seval, f1], by simp only [wt, seval, f3], by simp only [wt, seval, f6], by simp only [wt, seval, f4], by simp only [wt, seval, f5]⟩, ⟨by simp only [seval, g1], by simp only [seval, g3], by simp only [seval, g6]⟩, by simp only [wt, seval, f7], E, hE, b⟩
set_option linter.defProp false
theorem c12v_d2 (B : Nat) (x : C12) : (List.drop 2 (case12v B x)).getD 0 default = .av (fun b => B ≤ b) (.sl (rats x.R)) := rfl
theorem c12v_n2 (B : Nat) (x : C12) : (List.drop 2 (case12v B x)).length = 13 := rfl
theorem c12v_n4 (B : Nat) (x : C12) : (List.drop 4 (case12v B x)).length = 11 := rfl
theorem c12v_n6 (B : Nat) (x : C12) : (List.drop 6 (case12v B x)).length = 9 := rfl
theorem c12v_n8 (B : Nat) (x : C12) : (List.drop 8 (case12v B x)).length = 7 := rfl
theorem c12v_n11 (B : Nat) (x : C12) : (List.drop 11 (case12v B x)).length = 4 := rfl
theorem rmsv_t3 (B : Nat) (p : List RI) : List.take 3 (rmsv B p) = rmsv B p := rfl
theorem strip_rmsv (B : Nat) (p : List RI) : (rmsv B p).map stripI = RmS p := rfl
def KC (x : C12) (B1 : Nat) (f : AL.Fr) (H : AL.Hp) : Prop :=
 Fit12 x ∧ f 1 = .ip (case12v B1 x) ∧ f 3 = .ip (rmsv B1 x.P) ∧ f 6 = .ip (rmsv B1 [x.A, x.B]) ∧ f 4 = .iv (.av (fun b => B1 ≤ b) (.sl (rats x.R))) ∧ f 5 = .iv (.av (fun b => B1 ≤ b) (.sl (rats [x.X, x.Y]))) ∧
 f 7 = .hp 900000 1 0 0 ∧ ∃ ns qs is, BqS ns qs is ∧ Bq ns qs is H
theorem wr_avi (B : Nat) (x : C12) : ∀ y ∈ case12v B x, AvI B y := fun y hy => by
 simp only [case12v, case12, List.map_cons, List.map_nil, List.mem_cons, List.not_mem_nil, or_false] at hy
 rcases hy with rfl | rfl | rfl | rfl | rfl | rfl | rfl | rfl | rfl | rfl | rfl | rfl | rfl | rfl | rfl <;> first | exact .inl ⟨_, rfl⟩ | exact .inr (.inl ⟨_, _, rfl⟩) | exact .inr (.inr ⟨_, rfl⟩)
theorem wr_avr (B : Nat) (p : List RI) : ∀ y ∈ rmsv B p, AvI B y := fun y hy => by
 simp only [rmsv, RmS, List.map_cons, List.map_nil, List.mem_cons, List.not_mem_nil, or_false] at hy
 rcases hy with rfl | rfl | rfl <;> exact .inl ⟨_, rfl⟩
theorem kseg_2 (x : C12) (B1 : Nat) {D0 : Nat → Prop} {w0 : World} {f : AL.Fr} {H : AL.Hp} {β : Nat → Value} {a : Act} {w : World} {n : Nat} (hw : w0.heap.size ≤ B1) (h : KB1 x B1 f H) (R : Rel ⟨fun _ _ => False, true⟩ (fun _ => False) w0 D0 n f H β a w) :
  ∃ f' H' β', KC x B1 f' H' ∧ Rel ⟨fun _ _ => False, true⟩ (fun _ => False) w0 D0 n f' H' β' a w := by
 obtain ⟨ft, ⟨f1, f3, f6, f4, f5⟩, ⟨g1, g3, g6⟩, f7, E, hE, L, k1, ⟨z1, z2, z3, z4⟩, k3, k4⟩ := h
 obtain ⟨M, hM⟩ : ∃ M : Nat → BL, M = fun m => if m = 1 then L 1 else if m = 2 then L 2 else L 3 := ⟨_, rfl⟩
 have m1 : M 1 = L 1 := by rw [hM]; rfl
 have m2 : M 2 = L 2 := by rw [hM]; rfl
 have m3 : M 3 = L 3 := by rw [hM]; rfl
 have mo : OB3 M = OB3 L := by rw [OB3, OB3, m1, m2, m3]
 have ne : ∀ m, M m ≠ [] ∧ ∀ x ∈ M m, x.2.length ≤ if m = 1 then 100000 else 1000 := fun m => by
  rw [hM]; simp only
  split
  ·exact ⟨fun e => by rw [e] at z1; simp at z1, fun x hx => by have := k3 1 x hx; simpa using this⟩
  ·split
   ·exact ⟨fun e => by rw [e] at z3; simp at z3, fun x hx => by have := k3 2 x hx; simpa using this⟩
   ·exact ⟨fun e => by rw [e] at z4; simp at z4, fun x hx => by have := k3 3 x hx; simpa using this⟩
 have nw := List.nodup_append.1 k4.1
 obtain ⟨f', H', β', ns, qs, is, t1, t2, t3, t4, t5, t6⟩ := to_bq M R f7 (by rw [m1, m2, m3]; exact k1) (fun m => (ne m).1) ⟨by rw [m1]; omega, by rw [m2]; omega, by rw [m3]; omega⟩ (fun m => (ne m).2)
  (by rw [mo]; exact nw.1) (fun g hg => by rw [mo] at hg; exact (k4.2 g (List.mem_append_left _ hg)).1) hw (fun t => if t = 1 then case12v B1 x else if t = 3 then rmsv B1 x.P else rmsv B1 [x.A, x.B]) (fun t => if t = 1 then 75 else 79) (fun t => if t = 1 then 15 else 3)
  (fun t ht => by
   rcases ht with rfl | rfl | rfl
   ·exact ⟨f1, g1, wr_avi B1 x⟩
   ·exact ⟨f3, g3, wr_avr B1 _⟩
   ·exact ⟨f6, g6, wr_avr B1 _⟩) (fun t ht => by
   rcases ht with rfl | rfl
   ·exact ⟨_, f4⟩
   ·exact ⟨_, f5⟩)
 exact ⟨f', H', β', ⟨ft, t4 1 (.inl rfl), t4 3 (.inr (.inl rfl)), t4 6 (.inr (.inr rfl)), (t5 4 (.inl rfl)).trans f4, (t5 5 (.inr rfl)).trans f5, t3, ns, qs, is, t1, t2⟩, t6⟩
set_option maxRecDepth 8000 in
set_option maxHeartbeats 4000000 in
theorem kseg_3 (x : C12) (B1 : Nat) (f : AL.Fr) (H : AL.Hp) (h : KC x B1 f H) :
  ∃ c, (Tryz.f4.body.bind (dropO 8)) = some c ∧ @AW zC Tryz.prog c (@RetC zC Tryz.prog [.tmp 2] none [cb true]) f H := by
 refine ⟨_, rfl, ?_⟩
 obtain ⟨ft, f1, f3, f6, f4, f5, f7, ns, qs, is, hS, hB⟩ := h
 have s1 := sound_ok x.P ft.P
 have s2 := sound_ok [x.A, x.B] ft.ab
 have r1 := kform_ok x.R (ft.R.mono (by decide) (by decide))
 have r2 := kform_ok [x.X, x.Y] (ft.xy.mono (by decide) (by decide))
 have p1 := ints_two x.A x.B
 have p3 := rats_two x.X x.Y
 simp (disch := omega) only [wt, seval, c12v_P, c12v_len, rmsv_len, rmsv_t3, strip_rmsv, wxC, f1, f3]
 refine call_by (s1) (by rfl) (by simp) ?_
 simp (disch := omega) only [wt, seval, c12v_A, c12v_B, rmsv_len, c12v_n4, c12v_n6, rmsv_t3, strip_rmsv, strip_prowv, wxC, f1, f6, p1]
 refine call_by (s2) (by rfl) (by simp) ?_
 simp (disch := omega) only [wt, seval, c12v_n2, c12v_d2, wxC, f1, f4]
 refine call_by (r1) (by rfl) (by simp) ?_
 simp (disch := omega) only [wt, seval, rqs, c12v_X, c12v_Y, c12v_n8, c12v_n11, strip_qrowv, wxC, f1, f5, p3]
 refine call_by (r2) (by rfl) (by simp) ?_
 simp (disch := omega) only [wt, seval, wxC, f7]
 refine calli_by (bqapart_ok ns qs is hS _ (by repeat first | exact hB | refine Bq.upd ?_ (by decide) _)) ?_
 rintro x H' rfl
 simp (disch := omega) only [wt, seval, c12v_P, c12v_len, rmsv_len, rmsv_t3, strip_rmsv, wxC, f1, f3]
 refine call_by (s1) (by rfl) (by simp) ?_
 simp (disch := omega) only [wt, seval, c12v_A, c12v_B, rmsv_len, c12v_n4, c12v_n6, rmsv_t3, strip_rmsv, strip_prowv, wxC, f1, f6, p1]
 refine call_by (s2) (by rfl) (by simp) ?_
 simp (disch := omega) only [wt, seval, c12v_n2, c12v_d2, wxC, f1, f4]
 refine call_by (r1) (by rfl) (by simp) ?_
 simp (disch := omega) only [wt, seval, rqs, c12v_X, c12v_Y, c12v_n8, c12v_n11, strip_qrowv, wxC, f1, f5, p3]
 refine call_by (r2) (by rfl) (by simp) ?_
 simp (disch := omega) only [wt, seval]
theorem ekeeps_seg {zi : Zi} {k n : Nat} {c : Code} (hc : Tryz.f4.body.bind (dropO k) = some c) {S : AL.Fr → AL.Hp → Prop} {Kp : Exit → Act → World → Prop} {f : AL.Fr} {H : AL.Hp} {β : Nat → Value} {a : Act} {w w0 : World} {D0 : Nat → Prop}
  (R : Rel ⟨fun _ _ => False, true⟩ (fun _ => False) w0 D0 Tryz.f4.ntmps f H β a w) (h : @AWs zi Tryz.prog S n c (fun _ _ _ => False) f H)
  (hS : ∀ f H β a w, S f H → Rel ⟨fun _ _ => False, true⟩ (fun _ => False) w0 D0 Tryz.f4.ntmps f H β a w → (codeDrop (k + n) (bodyOf Tryz.prog 4)).wpIn (Wd none) 0 Tryz.prog Kp a w) : (codeDrop k (bodyOf Tryz.prog 4)).wpIn (Wd none) 0 Tryz.prog Kp a w := by
 have hcd : Option.map (codeOk Tryz.f4.ntmps) Tryz.f4.body = some true := by rfl
 have hcn : Option.map noRange Tryz.f4.body = some true := by rfl
 cases hb : Tryz.f4.body with
 | none => rw [hb] at hcd; cases hcd
 | some body =>
  rw [hb] at hc hcd hcn
  simp only [Option.map_some, Option.some.injEq] at hcd hcn
  exact seg_by (zi := zi) ords Tryz.func4 hb hcd hcn (show dropO k body = some c from hc) n R h hS
theorem ekeeps_ok (x : C12) (h : Ok12 x) : AC Tryz.prog 4 [.agg (case12 x)] none [cb true] := by
 refine ekeeps_a x h fun w D f H β a w' hS R => ?_
 obtain ⟨B1, f2, H2, β2, hw, hS, R⟩ := kseg_0 x hS R
 obtain ⟨c, hc, hs⟩ := kseg_1 x B1 f2 H2 hS
 refine ekeeps_seg hc R hs fun f H β a w' hS R => ?_
 obtain ⟨f2, H2, β2, hS, R⟩ := kseg_2 x B1 hw hS R
 obtain ⟨c, hc, hs⟩ := kseg_3 x B1 f2 H2 hS
 have hcd : Option.map (codeOk Tryz.f4.ntmps) Tryz.f4.body = some true := by rfl
 have hcn : Option.map noRange Tryz.f4.body = some true := by rfl
 cases hb : Tryz.f4.body with
 | none => rw [hb] at hcd; cases hcd
 | some body =>
  rw [hb] at hc hcd hcn
  simp only [Option.map_some, Option.some.injEq] at hcd hcn
  have hd : dropO 8 body = some c := hc
  rw [bodyOf_eq Tryz.func4 hb, dropO_eq hd]
  exact wpIn_mono (aw_sound (zi := zC) ords c none _ _ _ _ _ _ _ a w' (.inl (dropO_nr hd hcn)) (dropO_ok hd hcd) hs R) fun e a w' hq => hq.unrnd
theorem ekeeps_law (P Q : List RI) (R S : List RQ) (A B : RI) (X Y : RQ) (N : Int) (hP : Raw P) (hQ : Raw Q) (hR : RawQ R) (hS : RawQ S) (hA : Sz 9223372036854775807 A) (hB : Sz 9223372036854775807 B) (hX : SzQ 9223372036854775807 X) (hY : SzQ 9223372036854775807 Y) (hN1 : -9223372036854775808 ≤ N) (hN2 : N ≤ 9223372036854775807) :
  AC Tryz.prog 4 [.agg (case12 ⟨P, Q, R, S, A, B, X, Y, N⟩)] none [cb true] := ekeeps_ok _ (ok12 P Q R S A B X Y N hP hQ hR hS hA hB hX hY hN1 hN2)
end Go.Proofs.YtfmpegbdeppjbaaGreat
