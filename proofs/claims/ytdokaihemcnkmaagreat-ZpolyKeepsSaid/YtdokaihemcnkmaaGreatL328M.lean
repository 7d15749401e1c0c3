/-
 Contracts of the functions that the law reaches.
-/
import Derived.Test.YtdokaihemcnkmaaGreatL320M
set_option maxHeartbeats 2000000
namespace Go.Proofs.YtdokaihemcnkmaaGreat
open Go Go.Proofs Go.AL
set_option linter.unusedSimpArgs false
set_option linter.unusedVariables false
theorem nat_raw {w : World} {D : Nat → Prop} {b : OB} {l : List Nat} {v : Value} (h : Rep w D (fnat b l) v) {B : Nat} (hB : ∀ g c, b = some (g, c) → B ≤ g) (D' : Nat → Prop) : AL.Own w D' B (fun _ => False) v 144 1 (lims l) := by
 refine ⟨lims_rows _, ?_⟩
 unfold fnat at h
 generalize hr : lims l = rows at h
 cases h with
 | ownN => exact .inl ⟨rfl, rfl⟩
 | own rows g cap e sz cur hsz hlen hcap hg hD hcs hc =>
  subst hr
  exact .inr ⟨g, cap, cur, rfl, .inl (hB g cap rfl), hg, hlen, hcap, hcs, reps_of_cells (lims_rows _) (by rw [hcs]; exact Nat.mul_le_mul_right _ hlen) fun i r hi j x hj => by
   obtain ⟨n, rfl⟩ := lims_cell hi hj
   exact rep_flat (hc i r hi j _ hj) (.inl ⟨_, _, rfl⟩)⟩
theorem poly_raw {w : World} {D : Nat → Prop} {b : OB} {bs : List OB} {q : List Int} {v : Value} (h : Rep w D (fpoly b bs q) v) (hl : bs.length = q.length) {B : Nat} (hB : ∀ g c, b = some (g, c) → B ≤ g) :
  ∃ rows : List (List IV), rows.length = q.length ∧ (∀ r ∈ rows, r.length = 2) ∧ ∀ D' : Nat → Prop, AL.Own w D' B (fun _ => False) v 27 2 rows := by
 have fl := frows_length hl
 have h : Rep w D (.own b 27 2 (frows bs q)) v := h
 generalize hr : frows bs q = rows at h fl
 cases h with
 | ownN => exact ⟨[], fl, by simp, fun D' => ⟨by simp, .inl ⟨rfl, rfl⟩⟩⟩
 | own rows g cap e sz cur hsz hlen hcap hg hD hcs hc =>
  subst hr
  have hrow : ∀ i, i < q.length → (frows bs q)[i]? = some (fint (bs.getD i none) (q.getD i 0)) := fun i hi => by
   simp [frows, List.getElem?_zipWith, List.getD, hi, show i < bs.length by omega]
  obtain ⟨rows, hrw⟩ : ∃ rows : List (List IV), rows = (List.range q.length).map fun i => [.bool (canon (q.getD i 0)).1, .raw (cur.getD (i * 2 + 1) Go.undef)] := ⟨_, rfl⟩
  have rl : rows.length = q.length := by rw [hrw]; simp
  have r2 : ∀ r ∈ rows, r.length = 2 := fun r hr => by
   rw [hrw] at hr
   obtain ⟨i, _, rfl⟩ := List.mem_map.1 hr
   rfl
  refine ⟨rows, rl, r2, fun D' => ⟨r2, .inr ⟨g, cap, cur, by rw [rl, fl], .inl (hB g cap rfl), hg, by omega, hcap, hcs, reps_of_cells r2 (by rw [rl, hcs]; exact Nat.mul_le_mul_right _ (by omega)) fun i r hi j x hj => ?_⟩⟩⟩
  have hi2 : i < q.length := by have := (List.getElem?_eq_some_iff.1 hi).1; omega
  have hi3 : rows[i]? = some [.bool (canon (q.getD i 0)).1, .raw (cur.getD (i * 2 + 1) Go.undef)] := by
   rw [hrw, List.getElem?_map, List.getElem?_range hi2]; rfl
  rw [hi3] at hi
  injection hi with hi
  subst hi
  match j, hj with
  | 0, hj => cases hj; exact rep_flat (hc i _ (hrow i hi2) 0 _ rfl) (.inr ⟨_, rfl⟩)
  | 1, hj => cases hj; exact .raw _ (hc i _ (hrow i hi2) 1 _ rfl).one
  | j + 2, hj => simp at hj
theorem cells_of {w : World} {D M : Nat → Prop} {B : Nat} {v : Value} {e : Nat} {α : Type} {l : List α} {g : α → IV} (h : AL.Own w D B M v e 1 (l.map fun x => [g x])) (hne : l ≠ []) :
  ∃ gb cap cur, v = .slice (some ⟨gb, 0, none⟩) l.length cap ∧ (B ≤ gb ∨ M gb) ∧ w.heap[gb]? = some (.cells cur e (0, 0)) ∧ l.length ≤ cap ∧ cap ≤ maxLen ∧ cur.size = cap ∧ ∀ i x, l[i]? = some x → Rep w D (g x) (cur.getD i Go.undef) := by
 rcases h.2 with ⟨h, _⟩ | ⟨gb, cap, cur, h1, h2, h3, h4, h5, h6, h7⟩
 ·exact (hne (List.map_eq_nil_iff.1 h)).elim
 ·rw [List.length_map] at h1 h4 h7
  refine ⟨gb, cap, cur, h1, h2, h3, h4, h5, by omega, fun i x hi => ?_⟩
  have hf := flatten_get (sz := 1) (l.map fun x => [g x]) i 0 [g x] (g x) h.1 (by rw [List.getElem?_map, hi]; rfl) rfl
  obtain ⟨c, hc, hr⟩ := h7.get _ _ hf
  rw [List.getElem?_take] at hc
  split at hc
  ·rw [Array.getElem?_toList] at hc
   rw [Array.getD_eq_getD_getElem?]
   rw [show i * 1 + 0 = i by omega] at hc
   rw [hc]; exact hr
  ·cases hc
def OE (PS : List PBk) (NS : List NB) : List OB := PS.map (·.1) ++ NS.map (·.1)
theorem ids_cons (b : OB) (l : List OB) : ids (b :: l) = oid b ++ ids l := by simp [ids]
theorem ids_app' (l m : List OB) : ids (l ++ m) = ids l ++ ids m := by simp [ids]
theorem coefs_fst {x : PBk} (h : x.2.1.length = x.2.2.length) : (coefs x).map (·.1) = x.2.1 := by
 apply List.ext_getElem?
 intro i
 simp only [coefs, List.getElem?_map, List.getElem?_zipWith]
 by_cases hi : i < x.2.1.length
 ·simp [hi, show i < x.2.2.length by omega]
 ·simp [List.getElem?_eq_none (show x.2.1.length ≤ i by omega)]
theorem zip_count {c : List OP} {P : List (List Int)} (h : POk c P) (a : Nat) : (ids ((zipc c P).map (·.1))).count a + (ids (((zipc c P).flatMap coefs).map (·.1))).count a = (c.flatMap pid).count a := by
 induction c generalizing P with
 | nil => simp [zipc, ids]
 | cons x c ih =>
  cases P with
  | nil => have := h.1; simp at this
  | cons y P =>
   have ht : POk c P := ⟨by have := h.1; simpa using this, fun i c' q' hc hq => h.2 (i + 1) c' q' (by simpa using hc) (by simpa using hq)⟩
   have h0 : x.2.length = y.length := h.2 0 x y rfl rfl
   have e1 : zipc (x :: c) (y :: P) = (x.1, x.2, y) :: zipc c P := rfl
   have := ih ht
   rw [e1]
   simp only [List.map_cons, List.flatMap_cons, List.map_append, ids_cons, ids_app', List.count_append, coefs_fst (x := (x.1, x.2, y)) h0, pid]
   omega
theorem zipn_fst {d : List OB} {n : List (List Nat)} (h : d.length = n.length) : (zipn d n).map (·.1) = d := by
 rw [zipn, List.map_fst_zip]; omega
theorem flat_fst (l : List OB) : l.flatMap oid = ids l := rfl
theorem OE_ok {q : KP} {r : KQ} {A B : List RI} {K : RI} (h : QOk q r A B K) : (ids (OE (PSall r A B K) (NSall r A B K))).Nodup ∧ ∀ g ∈ ids (OE (PSall r A B K) (NSall r A B K)), (q.E3 ≤ g ∧ g < r.E5) ∨ (r.E6 ≤ g ∧ g < r.E7) := by
 obtain ⟨e4, e5, e6, e7, k1, k2, k3⟩ := h
 obtain ⟨G1, hG1⟩ : ∃ G, G = oid r.u1 ++ (oid r.o1 ++ (r.c1.flatMap pid ++ r.d1.flatMap oid)) := ⟨_, rfl⟩
 obtain ⟨G2, hG2⟩ : ∃ G, G = oid r.u2 ++ (oid r.o2 ++ (r.c2.flatMap pid ++ r.d2.flatMap oid)) := ⟨_, rfl⟩
 obtain ⟨G3, hG3⟩ : ∃ G, G = oid r.u3 ++ (oid r.o3 ++ (r.c3.flatMap pid ++ r.d3.flatMap oid)) := ⟨_, rfl⟩
 have n1 := k1.2.2; have n2 := k2.2.2; have n3 := k3.2.2
 rw [← hG1] at n1; rw [← hG2] at n2; rw [← hG3] at n3
 have nn : (G1 ++ (G2 ++ G3)).Nodup := by
  refine List.nodup_append.2 ⟨n1.1, List.nodup_append.2 ⟨n2.1, n3.1, fun a ha b hb e => ?_⟩, fun a ha b hb e => ?_⟩
  ·subst e; have := n2.2 a ha; have := n3.2 a hb; omega
  ·subst e
   have := n1.2 a ha
   rcases List.mem_append.1 hb with hb | hb
   ·have := n2.2 a hb; omega
   ·have := n3.2 a hb; omega
 have cnt : ∀ a, (ids (OE (PSall r A B K) (NSall r A B K))).count a ≤ (G1 ++ (G2 ++ G3)).count a := fun a => by
  have c1 := zip_count k1.1 a
  have c2 := zip_count k2.1 a
  have c3 := zip_count k3.1 a
  have d1 := zipn_fst k1.2.1
  have d2 := zipn_fst k2.2.1
  have d3 := zipn_fst k3.2.1
  simp only [OE, PSall, NSall, PX, NX, List.flatMap_cons, List.flatMap_nil, List.append_nil, List.map_append, List.flatMap_append, ids_app', List.count_append, d1, d2, d3]
  rw [hG1, hG2, hG3]
  simp only [List.count_append, flat_fst]
  omega
 refine ⟨?_, fun g hg => ?_⟩
 ·rw [List.nodup_iff_count] at nn ⊢
  exact fun a => Nat.le_trans (cnt a) (nn a)
 ·have h1 : 0 < (G1 ++ (G2 ++ G3)).count g := Nat.lt_of_lt_of_le (List.count_pos_iff.2 hg) (cnt g)
  have h2 := List.count_pos_iff.1 h1
  rcases List.mem_append.1 h2 with h | h
  ·have := n1.2 g h; omega
  ·rcases List.mem_append.1 h with h | h
   ·have := n2.2 g h; omega
   ·have := n3.2 g h; omega
theorem PS_ok {q : KP} {r : KQ} {A B : List RI} {K : RI} (ra : RP 40 200 A) (rb : RP 40 200 B) (rk : Sz 200 K) (h : QOk q r A B K) : (PSall r A B K).length ≤ 48 ∧ PSall r A B K ≠ [] ∧ ∀ x ∈ PSall r A B K, x.2.1.length = x.2.2.length ∧ PB 100 1000 x.2.2 := by
 have hP := PX_ok ra rb rk h
 refine ⟨flat_le (l := PX r A B K) (g := (·.2)) (k := 16) (fun x hx => by have := (hP x hx).1; omega), fun e => ?_, fun x hx => ?_⟩
 ·have h1 := (hP (r.o1, zipc r.c1 (askP A B K)) (by simp [PX])).1
  have h2 : zipc r.c1 (askP A B K) = [] := by
   simp only [PSall, PX, List.flatMap_cons, List.append_eq_nil_iff] at e
   exact e.1
  simp only [h2] at h1
  simp at h1
 ·obtain ⟨y, hy, hx⟩ := List.mem_flatMap.1 hx
  exact (hP y hy).2 x hx
theorem NS_ok {q : KP} {r : KQ} {A B : List RI} {K : RI} (ra : RP 40 200 A) (rb : RP 40 200 B) (rk : Sz 200 K) (h : QOk q r A B K) : (NSall r A B K).length ≤ 6415 ∧ NSall r A B K ≠ [] ∧ ∀ x ∈ NSall r A B K, x.2.length ≤ 1000 := by
 have hP := PS_ok ra rb rk h
 have hN := NX_ok (B := B) (K := K) ra h
 have l1 := flat_le (l := PSall r A B K) (g := coefs) (k := 100) (fun x hx => by rw [coefs_len x (hP.2.2 x hx).1]; exact (hP.2.2 x hx).2.1)
 have l2 := flat_le (l := NX r A B K) (g := (·.2)) (k := 5) (fun x hx => by have := (hN x hx).1; omega)
 have l3 : (NX r A B K).length = 3 := rfl
 refine ⟨by rw [NSall, List.length_append]; have := hP.1; omega, fun e => ?_, fun x hx => ?_⟩
 ·have h1 := (hN (r.u1, zipn r.d1 (askN A)) (by simp [NX])).1
  have h2 : zipn r.d1 (askN A) = [] := by
   simp only [NSall, NX, List.append_eq_nil_iff, List.flatMap_cons] at e
   exact e.2.1
  simp only [h2] at h1
  simp at h1
 ·rcases List.mem_append.1 hx with hx | hx
  ·obtain ⟨y, hy, hx⟩ := List.mem_flatMap.1 hx
   obtain ⟨i, hi⟩ := List.getElem?_of_mem hx
   rw [coefs, List.getElem?_zipWith] at hi
   cases hb : y.2.1[i]? with
   | none => rw [hb] at hi; simp at hi
   | some o =>
    cases hz : y.2.2[i]? with
    | none => rw [hb, hz] at hi; simp at hi
    | some z =>
     rw [hb, hz] at hi
     injection hi with hi
     subst hi
     exact (hP.2.2 y hy).2.2 z (List.mem_of_getElem? hz)
  ·obtain ⟨y, hy, hx⟩ := List.mem_flatMap.1 hx
   exact (hN y hy).2 x hx
def SG (q : KP) (r : KQ) (A B C : List RI) (K : RI) (N : Int) (f : AL.Fr) (H : AL.Hp) : Prop :=
 RP 40 200 A ∧ RP 40 200 B ∧ Sz 200 K ∧ KOk q A B K ∧ f 1 = .ip (case9v q.B0 A B C K N) ∧ f 3 = .ip (RmV q.xo q.xi q.xs q.xc (ovp A)) ∧ f 4 = .ip (RmV q.yo q.yi q.ys q.yc B) ∧ f 5 = .ip (RmV q.ko q.ki q.ks q.kc [K]) ∧ f 12 = .iv (.av (KY q r.E5 r.E6) (.sl (raws (ovp A)))) ∧
 f 17 = .hp 900000 1 0 0 ∧ ∃ ns ps, BkS ns ps ∧ Bk ns ps H
theorem avreps_range {w : World} {D : Nat → Prop} {H : AL.Hp} {β : Nat → Value} {g : Nat → AV} {m : Nat} : ∀ {n : Nat} {vs : List Value}, vs.length = n → (∀ i v, i < n → vs[i]? = some v → AVRep w D H β (g (m + i)) v) → AVReps w D H β ((List.range' m n).map g) vs := by
 intro n
 induction n generalizing m with
 | zero =>
  intro vs hl h
  match vs, hl with
  | [], _ => simp [AVReps]
 | succ n ih =>
  intro vs hl h
  match vs, hl with
  | v :: vs, hl =>
   rw [List.range'_succ]
   simp only [List.map_cons, AVReps]
   refine ⟨h 0 v (by omega) rfl, ih (by simpa using hl) fun i u hi hu => ?_⟩
   have := h (i + 1) u (by omega) (by simpa using hu)
   rwa [show m + (i + 1) = m + 1 + i by omega] at this
theorem hws_reps {w : World} {D : Nat → Prop} {H : AL.Hp} {β : Nat → Value} {k n : Nat} {cur : Array Value} (hl : n ≤ cur.size) (h : ∀ i, i < n → AVRep w D H β (.hw (k + i) 1) (cur.getD i Go.undef)) : AVReps w D H β (hws k n) (cur.toList.take n) := by
 unfold hws
 rw [List.range_eq_range']
 refine avreps_range (by rw [List.length_take]; have : cur.toList.length = cur.size := Array.length_toList; omega) fun i v hi hv => ?_
 rw [List.getElem?_take, if_pos hi, Array.getElem?_toList] at hv
 have := h i hi
 rw [Array.getD_eq_getD_getElem?, hv] at this
 simpa using this
set_option maxHeartbeats 2000000 in
theorem seg_g0 (q : KP) (r : KQ) (A B C : List RI) (K : RI) (N : Int) {D0 : Nat → Prop} {w0 : World} {f : AL.Fr} {H : AL.Hp} {β : Nat → Value} {a : Act} {w : World} {n : Nat} (hw : w0.heap.size = q.B0) (h : SF q r A B C K N f H) (R : Rel ⟨fun _ _ => False, true⟩ (fun _ => False) w0 D0 n f H β a w) :
  ∃ f' H' β', SG q r A B C K N f' H' ∧ Rel ⟨fun _ _ => False, true⟩ (fun _ => False) w0 D0 n f' H' β' a w := by
 obtain ⟨ra, rb, rk, hq, hr, ⟨h1, h3, h4, h5, h12⟩, ⟨hK1, hK3, hK4, hK5⟩, h17, rn, rp, h178, hN, hP⟩ := h
 obtain ⟨pl, pne, pm⟩ := PS_ok ra rb rk hr
 obtain ⟨nl, nne, nm⟩ := NS_ok (B := B) ra rb rk hr
 obtain ⟨od, orng⟩ := OE_ok hr
 have hq3 : q.B0 ≤ q.E3 := by have := hq.1; have := hq.2.1; have := hq.2.2.1; omega
 obtain ⟨e4, e5, e6, e7, -⟩ := id hr
 generalize PSall r A B K = PS at *
 generalize NSall r A B K = NS at *
 obtain ⟨stn, rfl, h11⟩ : ∃ st, rn = .hs 11 st ∧ H 11 = .blk false st 25 1 (NS.map nbrow) := hN.elim (fun h => (nne h.1).elim) id
 obtain ⟨stp, rfl, h24⟩ : ∃ st, rp = .hs 24 st ∧ H 24 = .blk false st 23 1 (PS.map pbrow) := hP.elim (fun h => (pne h.1).elim) id
 obtain ⟨gn, capn, curn, en, hBn, hgn, hln, hmn, hcn, hvn⟩ := cells_of (g := fun x : NB => fnat x.1 x.2) (R.own _ _ _ _ _ h11) nne
 obtain ⟨gp, capp, curp, ep, hBp, hgp, hlp, hmp, hcp, hvp⟩ := cells_of (g := fun x : PBk => fpoly x.1 x.2.1 x.2.2) (R.own _ _ _ _ _ h24) pne
 -- owners
 have oeP : ∀ (j : Nat) (x : PBk), PS[j]? = some x → (OE PS NS).getD j none = x.1 := fun j x hj => by
  have hlt := (List.getElem?_eq_some_iff.1 hj).1
  simp [OE, List.getD, List.getElem?_append_left (show j < (PS.map (·.1)).length by simpa using hlt), hj]
 have oeN : ∀ (i : Nat) (x : NB), NS[i]? = some x → (OE PS NS).getD (PS.length + i) none = x.1 := fun i x hi => by
  simp [OE, List.getD, List.getElem?_append_right, hi]
 have low : ∀ {k g c : Nat}, (OE PS NS).getD k none = some (g, c) → w0.heap.size ≤ g := fun hk => by
  have := orng _ (mem_ids hk); omega
 have hrows : ∀ j, ∃ rows : Rws, ∀ x, PS[j]? = some x → rows.length = x.2.2.length ∧ (∀ r ∈ rows, r.length = 2) ∧ ∀ D' : Nat → Prop, AL.Own w D' w0.heap.size (fun _ => False) (curp.getD j Go.undef) 27 2 rows := fun j => by
  cases hj : PS[j]? with
  | none => exact ⟨[], fun x hx => by cases hx⟩
  | some x =>
   obtain ⟨rows, h1, h2, h3⟩ := poly_raw (hvp j x hj) (pm x (List.mem_of_getElem? hj)).1 (B := w0.heap.size) (fun g c hb => low (by rw [oeP j x hj]; exact hb))
   exact ⟨rows, fun y hy => by cases hy; exact ⟨h1, h2, h3⟩⟩
 obtain ⟨rowsP, hrowsP⟩ := Classical.axiomOfChoice hrows
 obtain ⟨ns, hns⟩ : ∃ ns : List Rws, ns = NS.map fun x => lims x.2 := ⟨_, rfl⟩
 obtain ⟨ps, hps⟩ : ∃ ps : List Rws, ps = (List.range PS.length).map rowsP := ⟨_, rfl⟩
 have nsl : ns.length = NS.length := by rw [hns]; simp
 have psl : ps.length = PS.length := by rw [hps]; simp
 obtain ⟨H', hH'⟩ : ∃ H' : AL.Hp, H' = fun h => if h = 900000 then .nst 1 49 [.hs 900002 1, .hs 900001 1, .nils, .nils, .nils, .nils] else if h = 900002 then .nst 1 25 (hws 1000000 ns.length) else if h = 900001 then .nst 1 23 (hws 2000000 ps.length)
  else if 1000000 ≤ h ∧ h < 1000000 + NS.length then .blk false 1 144 1 (ns.getD (h - 1000000) []) else if 2000000 ≤ h ∧ h < 2000000 + PS.length then .blk false 1 27 2 (ps.getD (h - 2000000) []) else .none := ⟨_, rfl⟩
 obtain ⟨β', hβ'⟩ : ∃ β' : Nat → Value, β' = fun h => if h = 900000 then β 178 else if h = 900002 then β 11 else if h = 900001 then β 24 else if h < 2000000 then curn.getD (h - 1000000) Go.undef else curp.getD (h - 2000000) Go.undef := ⟨_, rfl⟩
 have g0 : H' 900000 = .nst 1 49 [.hs 900002 1, .hs 900001 1, .nils, .nils, .nils, .nils] := by rw [hH']; simp
 have g2 : H' 900002 = .nst 1 25 (hws 1000000 ns.length) := by rw [hH']; simp
 have g1 : H' 900001 = .nst 1 23 (hws 2000000 ps.length) := by rw [hH']; simp
 have gN : ∀ i, i < NS.length → H' (1000000 + i) = .blk false 1 144 1 (ns.getD i []) := fun i hi => by
  rw [hH']; simp only
  rw [if_neg (by omega), if_neg (by omega), if_neg (by omega), if_pos (by omega), Nat.add_sub_cancel_left]
 have gP : ∀ j, j < PS.length → H' (2000000 + j) = .blk false 1 27 2 (ps.getD j []) := fun j hj => by
  rw [hH']; simp only
  rw [if_neg (by omega), if_neg (by omega), if_neg (by omega), if_neg (by omega), if_pos (by omega), Nat.add_sub_cancel_left]
 have b0 : β' 900000 = β 178 := by rw [hβ']; simp
 have b2 : β' 900002 = β 11 := by rw [hβ']; simp
 have b1 : β' 900001 = β 24 := by rw [hβ']; simp
 have bN : ∀ i, i < NS.length → β' (1000000 + i) = curn.getD i Go.undef := fun i hi => by
  rw [hβ']; simp only
  rw [if_neg (by omega), if_neg (by omega), if_neg (by omega), if_pos (by omega), Nat.add_sub_cancel_left]
 have bP : ∀ j, j < PS.length → β' (2000000 + j) = curp.getD j Go.undef := fun j hj => by
  rw [hβ']; simp only
  rw [if_neg (by omega), if_neg (by omega), if_neg (by omega), if_neg (by omega), Nat.add_sub_cancel_left]
 have gc : ∀ h, h = 900000 ∨ h = 900002 ∨ h = 900001 ∨ (∃ i, i < NS.length ∧ h = 1000000 + i) ∨ (∃ j, j < PS.length ∧ h = 2000000 + j) ∨ H' h = .none := fun h => by
  by_cases c1 : h = 900000
  ·exact .inl c1
  by_cases c2 : h = 900002
  ·exact .inr (.inl c2)
  by_cases c3 : h = 900001
  ·exact .inr (.inr (.inl c3))
  by_cases c4 : 1000000 ≤ h ∧ h < 1000000 + NS.length
  ·exact .inr (.inr (.inr (.inl ⟨h - 1000000, by omega, by omega⟩)))
  by_cases c5 : 2000000 ≤ h ∧ h < 2000000 + PS.length
  ·exact .inr (.inr (.inr (.inr (.inl ⟨h - 2000000, by omega, by omega⟩))))
  ·exact .inr (.inr (.inr (.inr (.inr (by rw [hH']; simp only; rw [if_neg c1, if_neg c2, if_neg c3, if_neg c4, if_neg c5])))))
 have nsg : ∀ i x, NS[i]? = some x → ns.getD i [] = lims x.2 := fun i x hi => by rw [hns]; simp [List.getD, hi]
 have psg : ∀ j, j < PS.length → ps.getD j [] = rowsP j := fun j hj => by rw [hps]; simp [List.getD, hj]
 have getN : ∀ i, i < NS.length → ∃ x, NS[i]? = some x := fun i hi => ⟨_, List.getElem?_eq_getElem hi⟩
 have getP : ∀ j, j < PS.length → ∃ x, PS[j]? = some x := fun j hj => ⟨_, List.getElem?_eq_getElem hj⟩
 -- heads
 have headN : ∀ i x g, NS[i]? = some x → headOf (curn.getD i Go.undef) = some g → ∃ c, (OE PS NS).getD (PS.length + i) none = some (g, c) := fun i x g hi hg => by
  have hv := (hvn i x hi).own_len.1
  rw [hv] at hg
  rw [oeN i x hi]
  cases hb : x.1 with
  | none => rw [hb] at hg; simp [headOf] at hg
  | some p => rw [hb] at hg; simp [headOf] at hg; exact ⟨p.2, by rw [← hg]⟩
 have headP : ∀ j x g, PS[j]? = some x → headOf (curp.getD j Go.undef) = some g → ∃ c, (OE PS NS).getD j none = some (g, c) := fun j x g hj hg => by
  have hv := (hvp j x hj).own_len.1
  rw [hv] at hg
  rw [oeP j x hj]
  cases hb : x.1 with
  | none => rw [hb] at hg; simp [headOf] at hg
  | some p => rw [hb] at hg; simp [headOf] at hg; exact ⟨p.2, by rw [← hg]⟩
 have notDD : ∀ g ∈ ids (OE PS NS), ¬ DD H β D0 g := fun g hg => by
  rw [ids, List.mem_flatMap] at hg
  obtain ⟨o, ho, hg⟩ := hg
  cases o with
  | none => simp [oid] at hg
  | some p =>
   simp only [oid, List.mem_singleton] at hg
   subst hg
   rcases List.mem_append.1 ho with ho | ho
   ·obtain ⟨x, hx, e⟩ := List.mem_map.1 ho
    obtain ⟨j, hj⟩ := List.getElem?_of_mem hx
    exact ((hvp j x hj).ids p.1 (by rw [e]; simp [IV.ids])).1
   ·obtain ⟨x, hx, e⟩ := List.mem_map.1 ho
    obtain ⟨j, hj⟩ := List.getElem?_of_mem hx
    exact ((hvn j x hj).ids p.1 (by rw [e]; simp [IV.ids])).1
 have hd : ∀ h, (H' h).isMut → ∀ g, headOf (β' h) = some g → (h = 900000 ∧ headOf (β 178) = some g) ∨ (h = 900002 ∧ headOf (β 11) = some g) ∨ (h = 900001 ∧ headOf (β 24) = some g) ∨ ∃ k c, (OE PS NS).getD k none = some (g, c) ∧ ((h = 1000000 + (k - PS.length) ∧ PS.length ≤ k ∧ k < PS.length + NS.length) ∨ (h = 2000000 + k ∧ k < PS.length)) := fun h hm g hg => by
  rcases gc h with rfl | rfl | rfl | ⟨i, hi, rfl⟩ | ⟨j, hj, rfl⟩ | e
  ·rw [b0] at hg; exact .inl ⟨rfl, hg⟩
  ·rw [b2] at hg; exact .inr (.inl ⟨rfl, hg⟩)
  ·rw [b1] at hg; exact .inr (.inr (.inl ⟨rfl, hg⟩))
  ·rw [bN i hi] at hg
   obtain ⟨x, hx⟩ := getN i hi
   obtain ⟨c, hc⟩ := headN i x g hx hg
   exact .inr (.inr (.inr ⟨_, c, hc, .inl ⟨by omega, by omega, by omega⟩⟩))
  ·rw [bP j hj] at hg
   obtain ⟨x, hx⟩ := getP j hj
   obtain ⟨c, hc⟩ := headP j x g hx hg
   exact .inr (.inr (.inr ⟨_, c, hc, .inr ⟨rfl, hj⟩⟩))
  ·rw [e] at hm; exact hm.elim
 have m178 : (H 178).isMut := by rw [h178]; trivial
 have m11 : (H 11).isMut := by rw [h11]; trivial
 have m24 : (H 24).isMut := by rw [h24]; trivial
 have DD2 : ∀ b, DD H' β' D0 b → DD H β D0 b ∨ b ∈ ids (OE PS NS) := by
  rintro b (hb | ⟨h, hm, hk⟩)
  ·exact .inl (.inl hb)
  ·rcases hd h hm b hk with ⟨_, hk⟩ | ⟨_, hk⟩ | ⟨_, hk⟩ | ⟨k, c, hk, _⟩
   ·exact .inl (.inr ⟨178, m178, hk⟩)
   ·exact .inl (.inr ⟨11, m11, hk⟩)
   ·exact .inl (.inr ⟨24, m24, hk⟩)
   ·exact .inr (mem_ids hk)
 obtain ⟨f', hf'⟩ : ∃ f' : AL.Fr, f' = fun t => if t = 1 then .ip (case9v q.B0 A B C K N) else if t = 3 then .ip (RmV q.xo q.xi q.xs q.xc (ovp A)) else if t = 4 then .ip (RmV q.yo q.yi q.ys q.yc B) else if t = 5 then .ip (RmV q.ko q.ki q.ks q.kc [K]) else if t = 12 then f 12 else if t = 17 then .hp 900000 1 0 0 else .dead := ⟨_, rfl⟩
 refine ⟨f', H', β', ⟨ra, rb, rk, hq, by simp [hf'], by simp [hf'], by simp [hf'], by simp [hf'], by simp [hf', h12], by simp [hf'], ns, ps, ⟨by omega, by omega, fun y hy => ?_, fun y hy => ?_⟩, g0, g2, g1, fun i y hi => ?_, fun j y hj => ?_⟩, ?_⟩
 ·rw [hns] at hy
  obtain ⟨x, hx, rfl⟩ := List.mem_map.1 hy
  rw [lims_length]
  exact ⟨by have := nm x hx; omega, lims_rows _⟩
 ·rw [hps] at hy
  obtain ⟨j, hj, rfl⟩ := List.mem_map.1 hy
  obtain ⟨x, hx⟩ := getP j (List.mem_range.1 hj)
  obtain ⟨e1, e2, _⟩ := hrowsP j x hx
  exact ⟨by rw [e1]; have := (pm x (List.mem_of_getElem? hx)).2.1; omega, e2⟩
 ·have hlt := (List.getElem?_eq_some_iff.1 hi).1
  rw [gN i (by omega), List.getD_eq_getElem?_getD, hi]; rfl
 ·have hlt := (List.getElem?_eq_some_iff.1 hj).1
  rw [gP j (by omega), List.getD_eq_getElem?_getD, hj]; rfl
 clear hH' hβ' hrows
 have DD3 : ∀ b, DD H' β' D0 b → D0 b ∨ headOf (β 178) = some b ∨ headOf (β 11) = some b ∨ headOf (β 24) = some b ∨ b ∈ ids (OE PS NS) := by
  rintro b (hb | ⟨h, hm, hk⟩)
  ·exact .inl hb
  ·rcases hd h hm b hk with ⟨_, hk⟩ | ⟨_, hk⟩ | ⟨_, hk⟩ | ⟨k, c, hk, _⟩
   ·exact .inr (.inl hk)
   ·exact .inr (.inr (.inl hk))
   ·exact .inr (.inr (.inr (.inl hk)))
   ·exact .inr (.inr (.inr (.inr (mem_ids hk))))
 have ip : ∀ {t k e sz : Nat} {row : List IV}, f t = .hp k 1 0 0 → H k = .blk false 1 e sz [row] → k ≠ 178 → k ≠ 11 → k ≠ 24 → (∀ vs, Reps w (DD H β D0) row vs → Reps w (DD H' β' D0) row vs) → AVRep w (DD H' β' D0) H' β' (.ip row) (a.tmps.getD t Go.undef) := fun {t k e sz row} ht hk n1 n2 n3 hrow => by
  obtain ⟨gb, curb, hb1, hb2, hb3, hb4, -, hb6⟩ := R.box_at ht hk
  have mk : (H k).isMut := by rw [hk]; trivial
  rw [hb1]
  refine ip_of_cells hb3 (fun hdd => ?_) (hrow _ hb6)
  rcases DD3 gb hdd with h | h | h | h | h
  ·have := (R.old _ h).1
   rcases hb4 with h | h
   ·omega
   ·exact h
  ·exact R.dis k 178 n1 mk m178 gb hb2 h
  ·exact R.dis k 11 n2 mk m11 gb hb2 h
  ·exact R.dis k 24 n3 mk m24 gb hb2 h
  ·exact notDD gb h (.inr ⟨k, mk, hb2⟩)
 have rmv : ∀ {bo bi : OB} {bs cs : List OB} {p : List RI}, (∀ g ∈ idsRow (RmV bo bi bs cs p), g < q.E3) → ∀ vs, Reps w (DD H β D0) (RmV bo bi bs cs p) vs → Reps w (DD H' β' D0) (RmV bo bi bs cs p) vs := fun hi vs hv => hv.full full_RmV fun g hg => ⟨rfl, fun hdd => by
  rcases DD2 g hdd with h | h
  ·exact (reps_ids hv g hg).1 h
  ·have := orng g h; have := hi g hg; omega⟩
 have hX := hq.2.2.2.1
 have hY := hq.2.2.2.2.1
 have hZ := hq.2.2.2.2.2
 obtain ⟨q1, q2, q3, -⟩ := id hq
 have keptv : ∀ (X : Nat → Prop) (x : IV) v, (∀ g ∈ ids (OE PS NS), X g) → Rep w (DD H β D0) (.av X x) v → Rep w (DD H' β' D0) (.av X x) v := fun X x v hx hv => by
  cases hv with
  | av _ _ _ hv => exact .av _ _ _ (hv.mono (Grows.of_sub fun b hb => hb.elim (fun h => (DD2 b h).imp id (hx b)) .inr))
 refine R.jump (fun _ _ h => h) rfl rfl rfl (Nat.le_refl _) (fun _ _ _ => rfl) R.tsize (R.rnd rfl) (fun t => ?_) (fun h st e sz rows hh => ?_) (fun h st e sz rows hh => ?_)
  (fun h h' hne hm hm' g hg hg' => ?_) (fun h st e rows hh => ?_) (fun h B hh => ?_) (fun h x v hh => ?_)
 ·rw [hf']; simp only
  split
  ·rename_i e; subst e
   refine ip h1 hK1 (by omega) (by omega) (by omega) fun vs hvs => ?_
   match vs, hvs with
   | [v1, v2, v3, v4, v5, v6], ⟨m1, m2, m3, m4, m5, m6, _⟩ =>
    have hx : ∀ g ∈ ids (OE PS NS), q.B0 ≤ g := fun g hg => by have := orng g hg; omega
    exact ⟨keptv _ _ _ hx m1, keptv _ _ _ hx m2, keptv _ _ _ hx m3, rep_flat m4 (.inr ⟨_, rfl⟩), keptv _ _ _ hx m5, rep_flat m6 (.inl ⟨_, _, rfl⟩), trivial⟩
  ·split
   ·rename_i e; subst e
    exact ip h3 hK3 (by omega) (by omega) (by omega) (rmv fun g hg => by have := hX.2.2.2 g (rmv_ids (by rw [hX.1, ovp_len]) hX.2.1 hg); omega)
   ·split
    ·rename_i e; subst e
     exact ip h4 hK4 (by omega) (by omega) (by omega) (rmv fun g hg => by have := hY.2.2.2 g (rmv_ids hY.1 hY.2.1 hg); omega)
    ·split
     ·rename_i e; subst e
      exact ip h5 hK5 (by omega) (by omega) (by omega) (rmv fun g hg => by have := hZ.2.2.2 g (rmv_ids hZ.1 hZ.2.1 hg); omega)
     ·split
      ·rename_i e; subst e
       have hRt := R.tmps 12
       rw [h12] at hRt ⊢
       simp only [AVRep] at hRt ⊢
       refine keptv _ _ _ (fun g hg => ?_) hRt
       rcases orng g hg with h | h
       ·exact .inl h
       ·exact .inr h.1
      ·split
       ·rename_i e; subst e
        have hRt := R.tmps 17
        rw [h17] at hRt
        simp only [AVRep, h178, g0, HC.stamp, HC.esz, b0] at hRt ⊢
        exact hRt
       ·simp only [AVRep]
 ·rcases gc h with rfl | rfl | rfl | ⟨i, hi, rfl⟩ | ⟨j, hj, rfl⟩ | e'
  ·rw [g0] at hh; cases hh
  ·rw [g2] at hh; cases hh
  ·rw [g1] at hh; cases hh
  ·rw [gN i hi] at hh
   injection hh with _ x1 x2 x3 x4
   subst x1 x2 x3 x4
   obtain ⟨x, hx⟩ := getN i hi
   rw [bN i hi, nsg i x hx]
   exact nat_raw (hvn i x hx) (fun g c hb => low (k := PS.length + i) (by rw [oeN i x hx]; exact hb)) _
  ·rw [gP j hj] at hh
   injection hh with _ x1 x2 x3 x4
   subst x1 x2 x3 x4
   obtain ⟨x, hx⟩ := getP j hj
   rw [bP j hj, psg j hj]
   exact (hrowsP j x hx).2.2 _
  ·rw [e'] at hh; cases hh
 ·rcases gc h with rfl | rfl | rfl | ⟨i, hi, rfl⟩ | ⟨j, hj, rfl⟩ | e'
  ·rw [g0] at hh; cases hh
  ·rw [g2] at hh; cases hh
  ·rw [g1] at hh; cases hh
  ·rw [gN i hi] at hh; cases hh
  ·rw [gP j hj] at hh; cases hh
  ·rw [e'] at hh; cases hh
 ·have far : ∀ k, (H k).isMut → headOf (β k) = some g → g ∉ ids (OE PS NS) := fun k hm hk hmem => notDD g hmem (.inr ⟨k, hm, hk⟩)
  rcases hd h hm g hg with ⟨rfl, x⟩ | ⟨rfl, x⟩ | ⟨rfl, x⟩ | ⟨k, c, x, y⟩
  ·rcases hd h' hm' g hg' with ⟨rfl, x'⟩ | ⟨rfl, x'⟩ | ⟨rfl, x'⟩ | ⟨k', c', x', y'⟩
   ·exact hne rfl
   ·exact R.dis 178 11 (by omega) m178 m11 g x x'
   ·exact R.dis 178 24 (by omega) m178 m24 g x x'
   ·exact far 178 m178 x (mem_ids x')
  ·rcases hd h' hm' g hg' with ⟨rfl, x'⟩ | ⟨rfl, x'⟩ | ⟨rfl, x'⟩ | ⟨k', c', x', y'⟩
   ·exact R.dis 11 178 (by omega) m11 m178 g x x'
   ·exact hne rfl
   ·exact R.dis 11 24 (by omega) m11 m24 g x x'
   ·exact far 11 m11 x (mem_ids x')
  ·rcases hd h' hm' g hg' with ⟨rfl, x'⟩ | ⟨rfl, x'⟩ | ⟨rfl, x'⟩ | ⟨k', c', x', y'⟩
   ·exact R.dis 24 178 (by omega) m24 m178 g x x'
   ·exact R.dis 24 11 (by omega) m24 m11 g x x'
   ·exact hne rfl
   ·exact far 24 m24 x (mem_ids x')
  ·rcases hd h' hm' g hg' with ⟨rfl, x'⟩ | ⟨rfl, x'⟩ | ⟨rfl, x'⟩ | ⟨k', c', x', y'⟩
   ·exact far 178 m178 x' (mem_ids x)
   ·exact far 11 m11 x' (mem_ids x)
   ·exact far 24 m24 x' (mem_ids x)
   ·refine nodup_ids od (i := k) (j := k') (fun e => ?_) x x'
    subst e
    omega
 ·rcases gc h with rfl | rfl | rfl | ⟨i, hi, rfl⟩ | ⟨j, hj, rfl⟩ | e'
  ·rw [g0] at hh
   injection hh with x1 x2 x3
   subst x1 x2 x3
   rw [b0]
   rcases R.nst _ _ _ _ h178 with ⟨hh, _⟩ | ⟨g, cap, cur, hv, hB, hg, l1, l2, l3, l4, l5⟩
   ·cases hh
   ·refine .inr ⟨g, cap, cur, hv, hB, hg, l1, l2, l3, ?_, l5⟩
    clear l5
    simp only [List.length_cons, List.length_nil] at l4 ⊢
    match hc : cur.toList.take (0 + 1 + 1 + 1 + 1 + 1 + 1), l4 with
    | [v1, v2, v3, v4, v5, v6], l4 =>
     simp only [AVReps, AVRep, h11, h24, g1, g2, HC.stamp, b1, b2] at l4 ⊢
     obtain ⟨m1, m2, m3⟩ := l4
     exact ⟨⟨Nat.le_refl _, fun _ => m1.2 trivial⟩, ⟨Nat.le_refl _, fun _ => m2.2 trivial⟩, m3⟩
  ·rw [g2] at hh
   injection hh with x1 x2 x3
   subst x1 x2 x3
   rw [b2]
   refine .inr ⟨gn, capn, curn, by rw [hws_len, nsl]; exact en, hBn, hgn, by rw [hws_len, nsl]; exact hln, hmn, hcn, ?_, fun u hu => ?_⟩
   ·rw [hws_len, nsl]
    refine hws_reps (by rw [hcn]; exact hln) fun i hi => ?_
    simp only [AVRep, gN i hi, HC.stamp, bN i hi]
    exact ⟨Nat.le_refl _, fun _ => trivial⟩
   ·rw [hws_len, nsl] at hu
    obtain ⟨i, hi⟩ := List.getElem?_of_mem hu
    rw [List.getElem?_take] at hi
    split at hi
    ·rename_i hlt
     obtain ⟨x, hx⟩ := getN i hlt
     have := (hvn i x hx).one
     rw [Array.getElem?_toList] at hi
     rwa [Array.getD_eq_getD_getElem?, hi] at this
    ·cases hi
  ·rw [g1] at hh
   injection hh with x1 x2 x3
   subst x1 x2 x3
   rw [b1]
   refine .inr ⟨gp, capp, curp, by rw [hws_len, psl]; exact ep, hBp, hgp, by rw [hws_len, psl]; exact hlp, hmp, hcp, ?_, fun u hu => ?_⟩
   ·rw [hws_len, psl]
    refine hws_reps (by rw [hcp]; exact hlp) fun i hi => ?_
    simp only [AVRep, gP i hi, HC.stamp, bP i hi]
    exact ⟨Nat.le_refl _, fun _ => trivial⟩
   ·rw [hws_len, psl] at hu
    obtain ⟨i, hi⟩ := List.getElem?_of_mem hu
    rw [List.getElem?_take] at hi
    split at hi
    ·rename_i hlt
     obtain ⟨x, hx⟩ := getP i hlt
     have := (hvp i x hx).one
     rw [Array.getElem?_toList] at hi
     rwa [Array.getD_eq_getD_getElem?, hi] at this
    ·cases hi
  ·rw [gN i hi] at hh; cases hh
  ·rw [gP j hj] at hh; cases hh
  ·rw [e'] at hh; cases hh
 ·rcases gc h with rfl | rfl | rfl | ⟨i, hi, rfl⟩ | ⟨j, hj, rfl⟩ | e'
  ·rw [g0] at hh; cases hh
  ·rw [g2] at hh; cases hh
  ·rw [g1] at hh; cases hh
  ·rw [gN i hi] at hh; cases hh
  ·rw [gP j hj] at hh; cases hh
  ·rw [e'] at hh; cases hh
 ·rcases gc h with rfl | rfl | rfl | ⟨i, hi, rfl⟩ | ⟨j, hj, rfl⟩ | e'
  ·rw [g0] at hh; cases hh
  ·rw [g2] at hh; cases hh
  ·rw [g1] at hh; cases hh
  ·rw [gN i hi] at hh; cases hh
  ·rw [gP j hj] at hh; cases hh
  ·rw [e'] at hh; cases hh
end Go.Proofs.YtdokaihemcnkmaaGreat

namespace Go.Proofs.YtdokaihemcnkmaaGreat
open Go Go.Proofs Go.AL
set_option linter.unusedSimpArgs false
set_option linter.unusedVariables false
set_option maxRecDepth 8000 in
set_option maxHeartbeats 4000000 in
theorem seg_g (q : KP) (r : KQ) (A B C : List RI) (K : RI) (N : Int) (f : AL.Fr) (H : AL.Hp) (h : SG q r A B C K N f H) :
  ∃ c, (Tryz.f3.body.bind (dropO 17)) = some c ∧ @AW zK Tryz.prog c (@RetC zK Tryz.prog [.tmp 2] none [cb true]) f H := by
 refine ⟨_, rfl, ?_⟩
 obtain ⟨ra, rb, rk, hq, h1, h3, h4, h5, h12, h17, ns, ps, hS, hB⟩ := id h
 have hx := hq.2.2.2.1
 have hy := hq.2.2.2.2.1
 have hk := hq.2.2.2.2.2
 have hxo : q.xs.length = (ovp A).length := by rw [ovp_len]; exact hx.1
 have so : AC Tryz.prog 14 [.agg (RmV q.xo q.xi q.xs q.xc (ovp A)), .iv (.av (KY q r.E5 r.E6) (.sl (raws (ovp A))))] none [cb true] :=
  (sound_ok (ovp A) (ovp_rp ra)).arg fun w D vs hv => by
   match vs, hv with
   | [v1, v2], ⟨m1, m2, _⟩ => exact ⟨(soft_room hxo hx.2.1).rep m1, Rep.unav m2, trivial⟩
 have rk1 : RP 40 200 [K] := ⟨by simp, fun c hc => by simp at hc; subst hc; exact rk⟩
 simp (disch := omega) only [wt, seval, reduceCtorEq, Nat.reduceEqDiff, List.drop_succ_cons, List.drop_zero, List.take_succ_cons, List.take_zero, List.getD_cons_zero, List.getD_cons_succ, Nat.reduceBEq, List.map_cons, List.map_nil, wxK, h1, h3, h4, h5, h12, h17]
 refine calli_by (bapart_ok ns ps hS H hB) ?_
 rintro x H' rfl
 simp (disch := omega) only [wt, seval, reduceCtorEq, Nat.reduceEqDiff, List.drop_succ_cons, List.drop_zero, List.take_succ_cons, List.take_zero, List.getD_cons_zero, List.getD_cons_succ, Nat.reduceBEq, List.map_cons, List.map_nil, wxK, h1, h3, h4, h5, h12, h17]
 refine call_by (so) (by first | rfl | (simp only [tocvs, tocv, toboxes, tobox, updH_at, Nat.reduceEqDiff, ↓reduceIte, h1, h3, h4, h5, h12, h17]; rfl)) (by simp) ?_
 simp (disch := omega) only [wt, seval, reduceCtorEq, Nat.reduceEqDiff, List.drop_succ_cons, List.drop_zero, List.take_succ_cons, List.take_zero, List.getD_cons_zero, List.getD_cons_succ, Nat.reduceBEq, List.map_cons, List.map_nil, wxK, h1, h3, h4, h5, h12, h17]
 refine call_by (((sound_ok B rb).soft (.cons (soft_room hy.1 hy.2.1) (.cons (.refl _) .nil)))) (by first | rfl | (simp only [tocvs, tocv, toboxes, tobox, updH_at, Nat.reduceEqDiff, ↓reduceIte, h1, h3, h4, h5, h12, h17]; rfl)) (by simp) ?_
 simp (disch := omega) only [wt, seval, reduceCtorEq, Nat.reduceEqDiff, List.drop_succ_cons, List.drop_zero, List.take_succ_cons, List.take_zero, List.getD_cons_zero, List.getD_cons_succ, Nat.reduceBEq, List.map_cons, List.map_nil, wxK, h1, h3, h4, h5, h12, h17]
 refine call_by (((sound_ok [K] rk1).soft (.cons (soft_room hk.1 hk.2.1) (.cons (.refl _) .nil)))) (by first | rfl | (simp only [tocvs, tocv, toboxes, tobox, updH_at, Nat.reduceEqDiff, ↓reduceIte, h1, h3, h4, h5, h12, h17]; rfl)) (by simp) ?_
 simp (disch := omega) only [wt, seval, reduceCtorEq, Nat.reduceEqDiff, List.drop_succ_cons, List.drop_zero, List.take_succ_cons, List.take_zero, List.getD_cons_zero, List.getD_cons_succ, Nat.reduceBEq, List.map_cons, List.map_nil, wxK, h1, h3, h4, h5, h12, h17]
theorem keeps_seg {zi : Zi} {k n : Nat} {c : Code} (hc : Tryz.f3.body.bind (dropO k) = some c) {S : AL.Fr → AL.Hp → Prop} {Kp : Exit → Act → World → Prop} {f : AL.Fr} {H : AL.Hp} {β : Nat → Value} {a : Act} {w w0 : World} {D0 : Nat → Prop}
  (R : Rel ⟨fun _ _ => False, true⟩ (fun _ => False) w0 D0 Tryz.f3.ntmps f H β a w) (h : @AWs zi Tryz.prog S n c (fun _ _ _ => False) f H)
  (hS : ∀ f H β a w, S f H → Rel ⟨fun _ _ => False, true⟩ (fun _ => False) w0 D0 Tryz.f3.ntmps f H β a w → (codeDrop (k + n) (bodyOf Tryz.prog 3)).wpIn (Wd none) 0 Tryz.prog Kp a w) : (codeDrop k (bodyOf Tryz.prog 3)).wpIn (Wd none) 0 Tryz.prog Kp a w := by
 have hcd : Option.map (codeOk Tryz.f3.ntmps) Tryz.f3.body = some true := by rfl
 have hcn : Option.map noRange Tryz.f3.body = some true := by rfl
 cases hb : Tryz.f3.body with
 | none => rw [hb] at hcd; cases hcd
 | some body =>
  rw [hb] at hc hcd hcn
  simp only [Option.map_some, Option.some.injEq] at hcd hcn
  exact seg_by (zi := zi) ords Tryz.func3 hb hcd hcn (show dropO k body = some c from hc) n R h hS
theorem keeps_ok (A B C : List RI) (K : RI) (N : Int) (ha : Raw A) (hb : Raw B) (hc : Raw C) (hK : Sz 9223372036854775807 K) (hn1 : -9223372036854775808 ≤ N) (hn2 : N ≤ 9223372036854775807) :
  AC Tryz.prog 3 [.agg (case9 A B C K N)] none [cb true] := by
 refine keeps_a A B C K N ha hb hc hK hn1 hn2 fun w D f H β a w' hS R => ?_
 obtain ⟨q, hq, hA⟩ := SA_ok hS
 obtain ⟨c, hc, hs⟩ := seg_b q A B C K N f H hA
 refine keeps_seg hc R hs fun f H β a w' hS R => ?_
 obtain ⟨c, hc, hs⟩ := seg_c q A B C K N f H hS
 refine keeps_seg hc R hs fun f H β a w' hS R => ?_
 refine seg_d q A B C K N hq.symm hS R fun f H β a w' hS R => ?_
 obtain ⟨c, hc, hs⟩ := seg_e q A B C K N f H hS
 refine keeps_seg hc R hs fun f H β a w' hS R => ?_
 obtain ⟨r, f2, H2, β2, hS, R⟩ := seg_f0 q A B C K N hS R
 obtain ⟨c, hc, hs⟩ := seg_f q r A B C K N f2 H2 hS
 refine keeps_seg hc R hs fun f H β a w' hS R => ?_
 obtain ⟨f2, H2, β2, hS, R⟩ := seg_g0 q r A B C K N hq.symm hS R
 obtain ⟨c, hc, hs⟩ := seg_g q r A B C K N f2 H2 hS
 have hcd : Option.map (codeOk Tryz.f3.ntmps) Tryz.f3.body = some true := by rfl
 have hcn : Option.map noRange Tryz.f3.body = some true := by rfl
 cases hb : Tryz.f3.body with
 | none => rw [hb] at hcd; cases hcd
 | some body =>
  rw [hb] at hc hcd hcn
  simp only [Option.map_some, Option.some.injEq] at hcd hcn
  have hd : dropO 17 body = some c := hc
  rw [bodyOf_eq Tryz.func3 hb, dropO_eq hd]
  exact wpIn_mono (aw_sound (zi := zK) ords c none _ _ _ _ _ _ _ a w' (.inl (dropO_nr hd hcn)) (dropO_ok hd hcd) hs R) fun e a w' hq => hq.unrnd
end Go.Proofs.YtdokaihemcnkmaaGreat
