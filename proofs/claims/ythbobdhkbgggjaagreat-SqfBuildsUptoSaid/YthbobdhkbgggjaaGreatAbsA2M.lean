/-
  The abstract logic: copies; signs of a text.
-/
import Derived.Test.YthbobdhkbgggjaaGreatAbsA
import Derived.Laws.CopyRow
namespace Go.AL
open Go.RowKit
set_option linter.unusedSimpArgs false
set_option linter.unusedVariables false
section
variable {G : Gh} {M : Nat → Prop} {w0 : World} {D0 : Nat → Prop} {N : Nat} {f : Fr} {H : Hp} {β : Nat → Value} {a : Act} {w : World}
theorem Rel.writes (R : Rel G M w0 D0 N f H β a w) {h st e sz off : Nat} {rows src : List (List IV)} (hH : H h = .blk false st e sz rows) (hi : off + src.length ≤ rows.length) (hsz : ∀ r ∈ src, r.length = sz) {us : List Value} (hr : Reps w (DD H β D0) src.flatten us) (hne : rows ≠ [])
    {dst : Option Nat} {x : AV} {val : Value} (hv : ∀ w' D H' β', AVRep w' D H' β' x val) (hd : ∀ d, dst = some d → d < N) :
    ∃ g cap cur β', β h = .slice (some ⟨g, 0, none⟩) rows.length cap ∧ w.heap[g]? = some (.cells cur e (0, 0)) ∧ off * sz + us.length ≤ cur.size ∧
      Rel G M w0 D0 N (updo f dst x) (updH H h (.blk false st e sz (rows.take off ++ src ++ rows.drop (off + src.length)))) β' (a.put dst val) (w.setRow g (cur.toList.take (off * sz) ++ us ++ cur.toList.drop (off * sz + us.length)).toArray) := by
  have hown := R.own h _ _ _ _ hH
  rcases hown.2 with ⟨rfl, _⟩ | ⟨g, cap, cur, hb, hB, hg, h1, h2, h3, h4⟩
  · exact (hne rfl).elim
  have hul := hr.length
  rw [flatten_len src hsz] at hul
  have hmul : off * sz + us.length ≤ rows.length * sz := by
    rw [← hul, ← Nat.add_mul]; exact Nat.mul_le_mul_right _ hi
  have hcapm : rows.length * sz ≤ cap * sz := Nat.mul_le_mul_right _ h1
  have hfit : off * sz + us.length ≤ cur.size := by rw [h3]; omega
  have hset := setRow_heap w g cur (cur.toList.take (off * sz) ++ us ++ cur.toList.drop (off * sz + us.length)).toArray e (0, 0) hg
  have hmu : (H h).isMut := by rw [hH]; trivial
  have gr : Grows w (DD H β D0) (w.setRow g (cur.toList.take (off * sz) ++ us ++ cur.toList.drop (off * sz + us.length)).toArray) (fun b => DD H β D0 b ∨ headOf (β h) = some b) := by
    refine ⟨by simp, fun b _ hd' => ?_, fun b _ hn => ?_⟩
    · rcases hd' with h' | h'
      · exact h'
      · exact .inr ⟨h, hmu, h'⟩
    · exact fun _ => setRow_other w g b _ (fun e => hn (.inr ⟨h, hmu, by rw [hb, e]; rfl⟩))
  have hlen : (rows.take off ++ src ++ rows.drop (off + src.length)).length = rows.length := by
    simp only [List.length_append, List.length_take, List.length_drop]; omega
  have hown' : Own (w.setRow g (cur.toList.take (off * sz) ++ us ++ cur.toList.drop (off * sz + us.length)).toArray) (fun b => DD H β D0 b ∨ headOf (β h) = some b) w0.heap.size M (β h) e sz (rows.take off ++ src ++ rows.drop (off + src.length)) := by
    refine ⟨?_, .inr ⟨g, cap, _, by rw [hb, hlen], hB, hset, by rw [hlen]; exact h1, h2, ?_, ?_⟩⟩
    · intro r hr'
      rcases List.mem_append.1 hr' with h' | h'
      · rcases List.mem_append.1 h' with h' | h'
        · exact hown.1 r (List.mem_of_mem_take h')
        · exact hsz r h'
      · exact hown.1 r (List.mem_of_mem_drop h')
    · simp; omega
    · rw [hlen, take_splice cur.toList us _ _ hmul (by rw [show cur.toList.length = cur.size from rfl, h3]; exact hcapm)]
      have e1 : (rows.take off ++ src ++ rows.drop (off + src.length)).flatten = rows.flatten.take (off * sz) ++ src.flatten ++ rows.flatten.drop (off * sz + src.flatten.length) := by
        have ht : (rows.take off).flatten = rows.flatten.take (off * sz) := by
          have := flatten_part rows 0 off hown.1 (by omega)
          simpa using this
        have hdp : (rows.drop (off + src.length)).flatten = rows.flatten.drop (off * sz + src.flatten.length) := by
          have e0 : rows.flatten = (rows.take (off + src.length)).flatten ++ (rows.drop (off + src.length)).flatten := by rw [← List.flatten_append, List.take_append_drop]
          have e2 : (rows.take (off + src.length)).flatten.length = off * sz + src.flatten.length := by
            rw [flatten_len (sz := sz) _ fun r hr => hown.1 r (List.mem_of_mem_take hr), flatten_len src hsz, List.length_take, Nat.min_eq_left hi, Nat.add_mul]
          rw [e0, ← e2, List.drop_left]
        rw [List.flatten_append, List.flatten_append, ht, hdp]
      rw [e1]
      exact (reps_splice _ h4 hr).mono gr
  obtain ⟨β', hb', _, R'⟩ := R.grow (w' := w.setRow g (cur.toList.take (off * sz) ++ us ++ cur.toList.drop (off * sz + us.length)).toArray) (st' := st) (rows' := rows.take off ++ src ++ rows.drop (off + src.length)) (v := β h) (dst := dst) (x := x) (val := val) hH (.inl ⟨rfl, rfl⟩) rfl rfl rfl (by simp)
    (fun k hk hn => setRow_other w g k _ (fun e => hn (by rw [hb, e]; rfl))) hown' (fun k hk => .inl hk) (fun _ _ _ _ _ => hv _ _ _ _) hd
  exact ⟨g, cap, cur, β', hb, hg, hfit, R'⟩
def aCopy (T : TI) (H : Hp) (x y : AV) : Option AR :=
  match srcRows H y with
  | some (c, src, rd) => match x with
    | .hv h st off len => match H h with
      | .blk false st' e sz rows => some ⟨c ∧ T.ok = true ∧ T.size = 1 ∧ sz = 1 ∧ st = st' ∧ off + len ≤ rows.length ∧ 0 < src.length ∧ (∀ r ∈ src, r.length = 1) ∧ src.length ≤ len, .iv (.int .i64 src.length), [], [(h, .blk false st e sz (rows.take off ++ src ++ rows.drop (off + src.length)))], h :: rd⟩
      | _ => none
    | _ => none
  | none => none
theorem aCopy_sound {P : Program} {t t2 e ty : Nat} (ht : (ti P t).desc = .sl e) (R : Rel G M w0 D0 N f H β a w) {x y : AV} {v u : Value} (hx : AVRep w (DD H β D0) H β x v) (hy : AVRep w (DD H β D0) H β y u) {dst : Option Nat} (hd : ∀ d, dst = some d → d < N) {r : AR} (hr : aCopy (ti P e) H x y = some r) (hc : r.c) :
    ∃ z w' β', (Builtin.copy_ #[t, t2] ty #[v, u]).run P w = .ok z w' ∧ Rel G M w0 D0 N (updo f dst r.v) (applyH r.hs (frzAll r.fz H)) β' (a.put dst z) w' := by
  have hu := ti_sl ht
  unfold aCopy at hr
  split at hr
  · rename_i c src rd hs
    split at hr
    · rename_i h st off len
      split at hr
      · rename_i st' e' sz rows hH
        injection hr with hr; subst hr
        obtain ⟨hc1, hok, hs1, hsz1, hst, hol, hl0, hsrc, hle⟩ := hc
        subst hst
        obtain ⟨i, d, hi, _, hsi, _, _⟩ := ti_ok hok
        obtain ⟨ad, cap, rfl, hrow⟩ := srcRows_sound R hy hs hc1 hsrc
        have hsz : (P.info? e).map (·.size) = some 1 := by rw [hi]; simp [← hsi, hs1]
        subst hsz1
        obtain ⟨news, h1, h3⟩ : ∃ news, Reps w (DD H β D0) src.flatten news ∧ (src ≠ [] → ∃ g o, ad = some ⟨g, o, none⟩ ∧ ∀ (j : Nat) v, news[j]? = some v → w.cell? ⟨g, o + j, none⟩ = some v) := by
          obtain ⟨news, h1, _, h3⟩ := hrow
          exact ⟨news, h1, h3⟩
        have hnl : news.length = src.length := by rw [← h1.length, flatten_len src hsrc, Nat.mul_one]
        simp only [AVRep] at hx
        have hne : rows ≠ [] := by intro e; subst e; simp at hol; omega
        obtain ⟨g, capg, cur, β', hb, hg, hfit, R2⟩ := R.writes (dst := dst) (x := .iv (.int .i64 src.length)) (val := .int .i64 src.length) hH (Nat.le_trans (Nat.add_le_add_left hle _) hol) hsrc h1 hne (fun _ _ _ _ => by simp only [AVRep]; exact .int _ _) hd
        rcases hx.2 (by rw [hH]; rfl) with ⟨h0, _⟩ | ⟨g', n', c1, c2, hb', rfl, hlc, hcm, _⟩
        · omega
        rw [hb] at hb'; injection hb' with e1 e2 e3; injection e1 with e1; injection e1 with e1 e4; subst e1
        have hesz : (H h).esz = 1 := by rw [hH]; rfl
        rw [hesz] at *
        have h0 : src ≠ [] := by intro e; subst e; simp at hl0
        obtain ⟨g2, o2, rfl, hcell⟩ := h3 h0
        have hrun := run_copy_row (P := P) w t t2 ty e g (off * 1) len c2 ⟨g2, o2, none⟩ src.length cap cur e' news hu hsz hg (by rw [hnl]; exact (Nat.min_eq_left hle).symm) (fun j v hj => by rw [addr_add]; exact hcell j v hj) hfit h1.one
        rw [hnl] at hrun
        refine ⟨_, _, β', hrun, ?_⟩
        rw [hnl] at R2
        exact R2
      · cases hr
    · cases hr
  · cases hr
def isStr (P : Program) (t : Nat) : Prop := P.underlying t = some .string
def aIndexS (P : Program) (t : Nat) (x i : AV) : Option AR :=
  match x, i with
  | .iv (.raw (.string s)), .iv (.int k n) => some ⟨isStr P t ∧ 0 ≤ n ∧ n < s.size, .iv (.int .u8 ((s[n.toNat]?.getD 0).toNat : Nat)), [], [], []⟩
  | _, _ => none
theorem aIndexS_sound {P : Program} {t : Nat} {x y : AV} {v u : Value} (hx : AVRep w (DD H β D0) H β x v) (hy : AVRep w (DD H β D0) H β y u) {r : AR} (hr : aIndexS P t x y = some r) (hc : r.c) :
    r.fz = [] ∧ r.hs = [] ∧ ∃ z, (Instr.index t v u).run P w = .ok z w ∧ AVRep w (DD H β D0) H β r.v z := by
  unfold aIndexS at hr
  split at hr
  · rename_i s k n
    injection hr with hr; subst hr
    obtain ⟨h1, h2, h3⟩ := hc
    simp only [AVRep] at hx hy
    cases hx
    cases hy
    refine ⟨rfl, rfl, .int .u8 ((s[n.toNat]?.getD 0).toNat : Nat), ?_, by simp only [AVRep]; exact .int _ _⟩
    have hlt : n.toNat < s.size := by omega
    have hget : s[n.toNat]? = some s[n.toNat] := getElem?_pos s n.toNat hlt
    simp only [Instr.index, Sem.run_bind, asIntOf, Sem.run_pure, Result.andThen_ok, run_underlying h1, if_pos h2, hget, Option.getD_some]
  · cases hr
end
end Go.AL

namespace Go.AL
open Go.RowKit
set_option linter.unusedSimpArgs false
set_option linter.unusedVariables false
section
variable {G : Gh} {M : Nat → Prop} {w0 : World} {D0 : Nat → Prop} {N : Nat} {f : Fr} {H : Hp} {β : Nat → Value} {a : Act} {w : World}
theorem Rel.growN (R : Rel G M w0 D0 N f H β a w) {w' : World} {h st st' e : Nat} {rows rows' : List AV} {v : Value} {dst : Option Nat} {x : AV} {val : Value}
    (hH : H h = .nst st e rows) (hst : (st' = st ∧ v = β h) ∨ st < st')
    (hos : w'.os = w.os) (htape : w'.tape = w.tape) (hout : w'.output = w.output) (hsz : w.heap.size ≤ w'.heap.size)
    (hk : ∀ k, k < w.heap.size → headOf (β h) ≠ some k → w'.heap[k]? = w.heap[k]?)
    (hown : OwnN w' (fun b => DD H β D0 b ∨ headOf v = some b) H β w0.heap.size M v e rows') (hhead : ∀ k, headOf v = some k → headOf (β h) = some k ∨ w.heap.size ≤ k)
    (hv : ∀ β' : Nat → Value, β' h = v → (∀ u, u ≠ h → β' u = β u) → (∀ D, Grows w (DD H β D0) w' D → AVRep w' D (updH H h (.nst st' e rows')) β' x val)) (hd : ∀ d, dst = some d → d < N) :
    ∃ β', β' h = v ∧ (∀ u, u ≠ h → β' u = β u) ∧ Rel G M w0 D0 N (updo f dst x) (updH H h (.nst st' e rows')) β' (a.put dst val) w' := by
  refine ⟨fun u => if u = h then v else β u, by simp, fun u hu => by simp [hu], ?_⟩
  have hmu : (H h).isMut := by rw [hH]; trivial
  have hvk : ∀ k, headOf v = some k → w.heap.size ≤ k ∨ DD H β D0 k := fun k hk => by
    rcases hhead k hk with h1 | h1
    · exact .inr (.inr ⟨h, hmu, h1⟩)
    · exact .inl h1
  have s : HStep H β (updH H h (.nst st' e rows')) (fun u => if u = h then v else β u) := by
    intro u
    by_cases hu : u = h
    · subst hu; rw [updH_same, hH]
      rcases hst with ⟨h1, h2⟩ | h1
      · left; subst h1; simp [HC.stamp, HC.esz, h2]
      · right; exact h1
    · left; simp [updH_ne _ _ hu, hu]
  have g : Grows w (DD H β D0) w' (DD (updH H h (.nst st' e rows')) (fun u => if u = h then v else β u) D0) :=
    ⟨hsz, fun b hb hd => DD_sub_updH hvk hb hd, fun b hb hn _ => hk b hb fun hh => hn (.inr ⟨h, hmu, hh⟩)⟩
  have g' : Grows w' (fun b => DD H β D0 b ∨ headOf v = some b) w' (DD (updH H h (.nst st' e rows')) (fun u => if u = h then v else β u) D0) := by
    refine ⟨Nat.le_refl _, fun b _ hd => ?_, fun _ _ _ _ => rfl⟩
    rcases hd with hd | ⟨k, hm, hh⟩
    · exact .inl (.inl hd)
    · by_cases hk : k = h
      · subst hk; simp only [if_pos] at hh; exact .inr hh
      · rw [updH_ne _ _ hk] at hm
        simp only [if_neg hk] at hh
        exact .inl (.inr ⟨k, hm, hh⟩)
  have hoth : ∀ u, u ≠ h → ∀ k, headOf (β u) = some k → (H u).isMut → w'.heap[k]? = w.heap[k]? := by
    intro u hu k hku hm
    exact hk k (R.mut_lt hm hku).1 fun hh => R.dis u h hu hm hmu k hku hh
  have key : ∀ u, u ≠ h → (H u).isMut → ∀ k, headOf v = some k → headOf (β u) ≠ some k := by
    intro u hu hm k hk' hku
    rcases hhead k hk' with h1 | h1
    · exact R.dis u h hu hm hmu k hku h1
    · have := (R.mut_lt hm hku).1; omega
  refine R.step hos htape hout g ?_ (fun k _ h2 => by
    rw [hk k (Array.getElem?_eq_some_iff.1 h2).1 fun hh => ?_]; · exact h2
    obtain ⟨cur, e', hc⟩ := R.own_cells hmu hh
    rw [hc] at h2; cases h2) s (hv _ (by simp) (fun u hu => by simp [hu]) _ g) ?_ ?_ ?_ ?_ hd
  · intro k h1 h2
    refine hk k (Nat.lt_of_lt_of_le h1 R.size) fun hh => ?_
    rcases DD.head R hmu hh with h3 | h3
    · omega
    · exact h2 h3
  · intro u st1 e1 sz1 rows1 hu
    have huh : u ≠ h := by
      intro e; subst e; rw [updH_same] at hu; cases hu
    rw [updH_ne _ _ huh] at hu
    simp only [if_neg huh]
    exact (R.own u _ _ _ _ hu).mono g fun k hk' => hoth u huh k hk' (by rw [hu]; trivial)
  · intro u st1 e1 sz1 rows1 hu
    have huh : u ≠ h := by
      intro e; subst e; rw [updH_same] at hu; cases hu
    rw [updH_ne _ _ huh] at hu
    simp only [if_neg huh]
    exact ⟨(R.frz u _ _ _ _ hu).1, (R.frz u _ _ _ _ hu).2.1.mono g, (R.frz u _ _ _ _ hu).2.2⟩
  · intro u u' hne hm hm' k hh hh'
    by_cases hu : u = h
    · subst hu
      have hu' : u' ≠ u := fun e => hne e.symm
      simp only [if_pos] at hh
      simp only [if_neg hu'] at hh'
      rw [updH_ne _ _ hu'] at hm'
      exact key u' hu' hm' k hh hh'
    · by_cases hu' : u' = h
      · subst hu'
        simp only [if_neg hu] at hh
        simp only [if_pos] at hh'
        rw [updH_ne _ _ hu] at hm
        exact key u hu hm k hh' hh
      · simp only [if_neg hu] at hh
        simp only [if_neg hu'] at hh'
        rw [updH_ne _ _ hu] at hm
        rw [updH_ne _ _ hu'] at hm'
        exact R.dis u u' hne hm hm' k hh hh'
  · intro u st1 e1 rows1 hu
    by_cases huh : u = h
    · subst huh
      rw [updH_same] at hu
      injection hu with h1 h2 h3
      subst h1 h2 h3
      simp only [if_pos]
      exact hown.mono g' s fun _ _ => rfl
    · rw [updH_ne _ _ huh] at hu
      simp only [if_neg huh]
      exact (R.nst u _ _ _ hu).mono g s fun k hk' => hoth u huh k hk' (by rw [hu]; trivial)
theorem Rel.hs_one (R : Rel G M w0 D0 N f H β a w) {k s e sz : Nat} {fz : Bool} {rows : List (List IV)} (hH : H k = .blk fz s e sz rows) : (β k).oneCell' = true := by
  obtain ⟨ad, cap, hb, _⟩ := R.slice_len hH
  rw [hb]; rfl
def aStoreN (T : TI) (H : Hp) (x v : AV) : Option AR :=
  match x with
  | .hp h st i off => match H h with
    | .nst st' e rows => match v with
      | .hs k s => match H k with
        | .blk _ s' _ _ _ => some ⟨T.ok = true ∧ T.size = 1 ∧ st = st' ∧ i < rows.length ∧ off = 0 ∧ s = s', .undef, [], [(h, .nst st e (rows.set i (.hs k s)))], [h, k]⟩
        | _ => none
      | _ => none
    | _ => aStore T H x v
  | _ => aStore T H x v
theorem aStoreN_sound {P : Program} {t : Nat} (R : Rel G M w0 D0 N f H β a w) {x y : AV} {v u : Value} (hx : AVRep w (DD H β D0) H β x v) (hy : AVRep w (DD H β D0) H β y u) {r : AR} (hr : aStoreN (ti P t) H x y = some r) (hc : r.c) {dst : Option Nat} (hd : ∀ d, dst = some d → d < N) :
    r.v = .undef ∧ ∃ w' β', (Instr.storeAt t v u).run P w = .ok () w' ∧ Rel G M w0 D0 N (updo f dst r.v) (applyH r.hs (frzAll r.fz H)) β' (a.put dst Go.undef) w' := by
  unfold aStoreN at hr
  split at hr
  · rename_i h st i off
    split at hr
    · rename_i st' e rows hH
      split at hr
      · rename_i k s
        split at hr
        · rename_i fz s' e' sz' rows' hK
          injection hr with hr; subst hr
          obtain ⟨hok, hsz, hst, hi, hoff, hs⟩ := hc
          subst hst hoff hs
          have hy' := hy
          simp only [AVRep] at hx hy
          have hu := hy.2 (by rw [hK]; rfl)
          have hone : u.oneCell' = true := by rw [hu]; exact R.hs_one hK
          have hcs : u.cells = #[u] := by
            obtain ⟨ad, cap, hb, _⟩ := R.slice_len hK
            rw [hu, hb]; rfl
          obtain ⟨g', n', cap', hb', rfl⟩ := hx.2 (by rw [hH]; rfl)
          rcases R.nst h _ _ _ hH with ⟨rfl, hv⟩ | ⟨g, cap, cur, hv, hB, hg, h1, h2, h3, h4⟩
          · simp at hi
          rw [hv] at hb'; injection hb' with e1 e2 e3; injection e1 with e1; injection e1 with e1 e4; subst e1
          have hfit : i + 1 ≤ cur.size := by omega
          have hmu : (H h).isMut := by rw [hH]; trivial
          have hsv := storeVar_row (P := P) (t := t) (w := w) hok (g := g) (o := i) (v := u) hg (by rw [hcs, hsz]; rfl) (by rw [hcs]; exact hfit) (by rw [hcs]; simpa using hone)
          rw [hcs] at hsv
          simp only [List.size_toArray, List.length_cons, List.length_nil, Nat.zero_add] at hsv
          have hset := setRow_heap w g cur (cur.toList.take i ++ [u] ++ cur.toList.drop (i + 1)).toArray e (0, 0) hg
          have gr : Grows w (DD H β D0) (w.setRow g (cur.toList.take i ++ [u] ++ cur.toList.drop (i + 1)).toArray) (fun b => DD H β D0 b ∨ headOf (β h) = some b) := by
            refine ⟨by simp, fun b _ hd' => ?_, fun b _ hn => ?_⟩
            · rcases hd' with h' | h'
              · exact h'
              · exact .inr ⟨h, hmu, h'⟩
            · exact fun _ => setRow_other w g b _ (fun e => hn (.inr ⟨h, hmu, by rw [hv, e]; rfl⟩))
          have htake : (cur.toList.take i ++ [u] ++ cur.toList.drop (i + 1)).take rows.length = (cur.toList.take rows.length).set i u := by
            rw [← List.take_set, List.set_eq_take_append_cons_drop, if_pos (by simp; omega)]
            simp
          have hown' : OwnN (w.setRow g (cur.toList.take i ++ [u] ++ cur.toList.drop (i + 1)).toArray) (fun b => DD H β D0 b ∨ headOf (β h) = some b) H β w0.heap.size M (β h) e (rows.set i (.hs k s)) := by
            refine .inr ⟨g, cap, _, by rw [hv]; simp, hB, hset, by simpa using h1, h2, by simp; omega, ?_⟩
            simp only [List.length_set]
            rw [htake]
            refine ⟨AVReps.mono gr (HStep.refl _ _) _ _ (AVReps.set hy' i h4.1), fun x hx => ?_⟩
            rcases List.mem_or_eq_of_mem_set hx with hx | hx
            · exact h4.2 x hx
            · rw [hx]; exact hone
          obtain ⟨β', hb', _, R'⟩ := R.growN (w' := w.setRow g (cur.toList.take i ++ [u] ++ cur.toList.drop (i + 1)).toArray) (st' := st) (rows' := rows.set i (.hs k s)) (v := β h) (dst := dst) (x := .undef) (val := Go.undef) hH (.inl ⟨rfl, rfl⟩) rfl rfl rfl (by simp)
            (fun k hk hn => setRow_other w g k _ (fun e => hn (by rw [hv, e]; rfl))) hown' (fun k hk => .inl hk) (fun _ _ _ _ _ => by simp [AVRep]) hd
          refine ⟨rfl, _, β', ?_, R'⟩
          simp only [Instr.storeAt, Instr.sureAddr, Sem.run_bind, Sem.run_pure, Result.andThen_ok, hH, HC.esz, Nat.mul_one, Nat.add_zero]
          exact hsv
        · cases hr
      · cases hr
    · exact aStore_sound R hx hy hr hc hd
  · exact aStore_sound R hx hy hr hc hd
theorem reps_raw {D : Nat → Prop} : ∀ {vs us : List Value}, Reps w D (vs.map IV.raw) us → us = vs ∧ ∀ v ∈ vs, v.oneCell' = true
  | [], [], _ => ⟨rfl, by simp⟩
  | v :: vs, u :: us, h => by
    simp only [List.map_cons, Reps] at h
    obtain ⟨h1, h2⟩ := reps_raw h.2
    cases h.1 with
    | raw _ ho => exact ⟨by rw [h1], fun x hx => by
        rcases List.mem_cons.1 hx with rfl | hx
        · exact ho
        · exact h2 x hx⟩
  | [], _ :: _, h => h.elim
  | _ :: _, [], h => by simp [Reps] at h
theorem raw_reps {D : Nat → Prop} : ∀ {vs : List Value}, (∀ v ∈ vs, v.oneCell' = true) → Reps w D (vs.map IV.raw) vs
  | [], _ => trivial
  | v :: vs, h => ⟨.raw v (h v (by simp)), raw_reps fun u hu => h u (by simp [hu])⟩
theorem flat_raw (vs : List Value) : (vs.map fun v => [IV.raw v]).flatten = vs.map IV.raw := by
  induction vs with
  | nil => rfl
  | cons v vs ih => simp [ih]
theorem Rel.conv (R : Rel G M w0 D0 N f H β a w) {h : Nat} {c : HC} (hs : c.stamp = (H h).stamp) (he : c.esz = (H h).esz) (hm : c.isMut ↔ (H h).isMut)
    (own' : ∀ st e sz rows, c = .blk false st e sz rows → Own w (DD H β D0) w0.heap.size M (β h) e sz rows)
    (nst' : ∀ st e rows, c = .nst st e rows → OwnN w (DD H β D0) H β w0.heap.size M (β h) e rows)
    (hf : ∀ st e sz rows, c ≠ .blk true st e sz rows) : Rel G M w0 D0 N f (updH H h c) β a w := by
  have hmut : ∀ u, (updH H h c u).isMut ↔ (H u).isMut := fun u => by
    by_cases hu : u = h
    · subst hu; rw [updH_same]; exact hm
    · rw [updH_ne _ _ hu]
  have hDD : ∀ b, DD (updH H h c) β D0 b → DD H β D0 b := by
    rintro b (hb | ⟨k, hm', hk⟩)
    · exact .inl hb
    · exact .inr ⟨k, (hmut k).1 hm', hk⟩
  have g : Grows w (DD H β D0) w (DD (updH H h c) β D0) := Grows.of_sub hDD
  have s : HStep H β (updH H h c) β := fun u => by
    left
    by_cases hu : u = h
    · subst hu; rw [updH_same]; exact ⟨hs, he, rfl⟩
    · rw [updH_ne _ _ hu]; exact ⟨rfl, rfl, rfl⟩
  have := R.step (w' := w) (H' := updH H h c) (β' := β) (dst := none) (v := .dead) (val := Go.undef) rfl rfl rfl g (fun _ _ _ => rfl) (fun _ _ h => h) s (by simp [AVRep]) ?_ ?_ ?_ ?_ (by simp)
  · exact this
  · intro u st e sz rows hu
    by_cases huh : u = h
    · subst huh; rw [updH_same] at hu; exact (own' _ _ _ _ hu).mono g fun _ _ => rfl
    · rw [updH_ne _ _ huh] at hu; exact (R.own u _ _ _ _ hu).mono g fun _ _ => rfl
  · intro u st e sz rows hu
    by_cases huh : u = h
    · subst huh; rw [updH_same] at hu; exact (hf _ _ _ _ hu).elim
    · rw [updH_ne _ _ huh] at hu
      exact ⟨(R.frz u _ _ _ _ hu).1, (R.frz u _ _ _ _ hu).2.1.mono g, (R.frz u _ _ _ _ hu).2.2⟩
  · intro u u' hne hm1 hm2
    exact R.dis u u' hne ((hmut u).1 hm1) ((hmut u').1 hm2)
  · intro u st e rows hu
    by_cases huh : u = h
    · subst huh; rw [updH_same] at hu; exact (nst' _ _ _ hu).mono g s fun _ _ => rfl
    · rw [updH_ne _ _ huh] at hu; exact (R.nst u _ _ _ hu).mono g s fun _ _ => rfl
abbrev rawRows (vs : List Value) : List (List IV) := vs.map fun v => [IV.raw v]
theorem rawRows_one (vs : List Value) : ∀ q ∈ rawRows vs, q.length = 1 := by
  intro q hq
  obtain ⟨v, _, rfl⟩ := List.mem_map.1 hq
  rfl
def Gh.add (G : Gh) (xs : List AV) (vs : List Value) : Gh := ⟨fun y u => G.vals y u ∨ (y, u) ∈ xs.zip vs, G.rnd⟩
theorem AVReps.mem {D : Nat → Prop} : ∀ {xs : List AV} {vs : List Value}, AVReps w D H β xs vs → ∀ x v, (x, v) ∈ xs.zip vs → AVRep w D H β x v
  | [], [], _, x, v, h => by simp at h
  | y :: xs, u :: vs, hx, x, v, h => by
    simp only [AVReps] at hx
    simp only [List.zip_cons_cons, List.mem_cons, Prod.mk.injEq] at h
    rcases h with ⟨rfl, rfl⟩ | h
    · exact hx.1
    · exact AVReps.mem hx.2 x v h
  | [], _ :: _, hx, _, _, _ => by simp [AVReps] at hx
  | _ :: _, [], hx, _, _, _ => by simp [AVReps] at hx
theorem AVReps.of_mem {D : Nat → Prop} : ∀ {xs : List AV} {vs : List Value}, xs.length = vs.length → (∀ x v, (x, v) ∈ xs.zip vs → AVRep w D H β x v) → AVReps w D H β xs vs
  | [], [], _, _ => by simp [AVReps]
  | y :: xs, u :: vs, hl, h => by
    simp only [AVReps]
    exact ⟨h y u (by simp), AVReps.of_mem (by simpa using hl) fun x v hm => h x v (by simp [hm])⟩
  | [], _ :: _, hl, _ => by simp at hl
  | _ :: _, [], hl, _ => by simp at hl
theorem Rel.addG (R : Rel G M w0 D0 N f H β a w) {xs : List AV} {vs : List Value} (hx : AVReps w (DD H β D0) H β xs vs) : Rel (G.add xs vs) M w0 D0 N f H β a w :=
  ⟨R.os, R.tape, R.output, R.size, R.keep, R.old, R.tsize, R.defers, R.rnd, R.ndup, fun x v hp => hp.elim (R.gh x v) (hx.mem x v), R.tmps, R.own, R.frz, R.dis, R.nst⟩
theorem Rel.dropG {xs : List AV} {vs : List Value} (hl : xs.length = vs.length) (R : Rel (G.add xs vs) M w0 D0 N f H β a w) : Rel G M w0 D0 N f H β a w ∧ AVReps w (DD H β D0) H β xs vs :=
  ⟨⟨R.os, R.tape, R.output, R.size, R.keep, R.old, R.tsize, R.defers, R.rnd, R.ndup, fun x v hp => R.gh x v (.inl hp), R.tmps, R.own, R.frz, R.dis, R.nst⟩, AVReps.of_mem hl fun x v hm => R.gh x v (.inr hm)⟩
theorem updH_updH (H : Hp) (h : Nat) (c c' : HC) : updH (updH H h c) h c' = updH H h c' := by
  funext u
  unfold updH
  split <;> rfl
theorem updH_comm (H : Hp) {h k : Nat} (c c' : HC) (e : h ≠ k) : updH (updH H h c) k c' = updH (updH H k c') h c := by
  funext u
  unfold updH
  by_cases h1 : u = h
  · subst h1; rw [if_neg e]; simp [e]
  · by_cases h2 : u = k
    · subst h2; simp [h1]
    · simp [h1, h2]
theorem updH_self (H : Hp) {h : Nat} {c : HC} (e : H h = c) : updH H h c = H := by
  funext u
  unfold updH
  split
  · rename_i hu; rw [hu, e]
  · rfl
theorem Rel.unnest (R : Rel G M w0 D0 N f H β a w) {h st e : Nat} {rows : List AV} (hH : H h = .nst st e rows) :
    ∃ vs : List Value, AVReps w (DD (updH H h (.blk false st e 1 (rawRows vs))) β D0) (updH H h (.blk false st e 1 (rawRows vs))) β rows vs ∧ Rel G M w0 D0 N f (updH H h (.blk false st e 1 (rawRows vs))) β a w := by
  rcases R.nst h _ _ _ hH with ⟨rfl, hv⟩ | ⟨g, cap, cur, hv, hB, hg, h1, h2, h3, h4, h5⟩
  · refine ⟨[], by simp [AVReps], R.conv (by rw [hH]; rfl) (by rw [hH]; rfl) (by rw [hH]; simp [HC.isMut]) ?_ (fun _ _ _ h => by cases h) (fun _ _ _ _ h => by cases h)⟩
    intro st' e' sz' rows' hc
    injection hc with _ q1 q2 q3 q4
    subst q1 q2 q3 q4
    exact ⟨by simp, .inl ⟨rfl, hv⟩⟩
  · have hlen := h4.length
    have hl : (rawRows (cur.toList.take rows.length)).length = rows.length := by rw [List.length_map]; exact hlen.symm
    have R1 : Rel (G.add rows (cur.toList.take rows.length)) M w0 D0 N f (updH H h (.blk false st e 1 (rawRows (cur.toList.take rows.length)))) β a w := by
      refine (R.addG h4).conv (by rw [hH]; rfl) (by rw [hH]; rfl) (by rw [hH]; simp [HC.isMut]) ?_ (fun _ _ _ h => by cases h) (fun _ _ _ _ h => by cases h)
      intro st' e' sz' rows' hc
      injection hc with _ q1 q2 q3 q4
      subst q1 q2 q3 q4
      refine ⟨rawRows_one _, .inr ⟨g, cap, cur, by rw [hl]; exact hv, hB, hg, by rw [hl]; exact h1, h2, by omega, ?_⟩⟩
      rw [hl, flat_raw, Nat.mul_one]
      exact raw_reps h5
    exact ⟨_, (R1.dropG hlen).2, (R1.dropG hlen).1⟩
theorem Rel.nest (R : Rel G M w0 D0 N f H β a w) {h st e : Nat} {vs : List Value} {xs : List AV} (hH : H h = .blk false st e 1 (rawRows vs)) (hx : AVReps w (DD H β D0) H β xs vs) :
    Rel G M w0 D0 N f (updH H h (.nst st e xs)) β a w := by
  have hlen := hx.length
  refine R.conv (by rw [hH]; rfl) (by rw [hH]; rfl) (by rw [hH]; simp [HC.isMut]) (fun _ _ _ _ h => by cases h) ?_ (fun _ _ _ _ h => by cases h)
  intro st' e' rows' hc
  injection hc with q1 q2 q3
  subst q1 q2 q3
  have hl : (rawRows vs).length = xs.length := by rw [List.length_map]; exact hlen.symm
  rcases (R.own h _ _ _ _ hH).2 with ⟨hn, hv⟩ | ⟨g, cap, cur, hv, hB, hg, h1, h2, h3, h4⟩
  · refine .inl ⟨?_, hv⟩
    have : xs.length = 0 := by rw [← hl, hn]; rfl
    exact List.eq_nil_of_length_eq_zero this
  · rw [hl] at hv h1 h4
    rw [flat_raw, Nat.mul_one] at h4
    obtain ⟨q1, q2⟩ := reps_raw h4
    exact .inr ⟨g, cap, cur, hv, hB, hg, h1, h2, by omega, by rw [q1]; exact hx, by rw [q1]; exact q2⟩
def aBuildSliceN (T : TI) (H : Hp) (e d n : Nat) (idx : List Nat) (xs : List AV) : Option AR :=
  match xs with
  | [.hs k s] => if k < 1000 then aBuildSlice T H e d n idx [.hs k s] else match H k with
    | .blk _ s' _ _ _ => some ⟨s = s' ∧ T.ok = true ∧ T.zok = true ∧ T.size = 1 ∧ n = 1 ∧ idx = [0], .hs d ((H d).stamp + 1), [], [(d, .nst ((H d).stamp + 1) e [.hs k s])], [k]⟩
    | _ => none
  | _ => aBuildSlice T H e d n idx xs
theorem aBuildSliceN_sound {P : Program} {t e d n : Nat} (ht : (ti P t).desc = .sl e) (R : Rel G M w0 D0 N f H β a w) {idx : List Nat} {xs : List AV} {vs : List Value} (hil : idx.length = xs.length) (hx : AVAll w (DD H β D0) H β xs vs) (hd : d < N) {r : AR} (hr : aBuildSliceN (ti P e) H e d n idx xs = some r) (hc : r.c) :
    ∃ z w' β', (Instr.buildSlice t n (idx.zip vs).toArray).run P w = .ok z w' ∧ Rel G M w0 D0 N (updo f (some d) r.v) (applyH r.hs (frzAll r.fz H)) β' (a.put (some d) z) w' := by
  unfold aBuildSliceN at hr
  split at hr
  · rename_i k s
    split at hr
    · exact aBuildSlice_sound ht R hil hx hd hr hc
    · split at hr
      · rename_i fz s' e' sz' rows' hK
        injection hr with hr; subst hr
        obtain ⟨hs, hok, hz, hsz, hn, hidx⟩ := hc
        cases hx with
        | cons hx1 hx2 =>
        cases hx2
        rename_i v
        have hx1' := hx1
        simp only [AVRep] at hx1
        have hv := hx1.2 (by rw [hK]; exact hs)
        have hone : v.oneCell' = true := by rw [hv]; exact R.hs_one hK
        obtain ⟨z, w', β', hrun, R'⟩ := aBuildSlice_sound (n := n) (idx := idx) (d := d) (xs := [.iv (.raw v)]) (vs := [v]) ht (R.addG (xs := [.hs k s]) (vs := [v]) (by simp only [AVReps]; exact ⟨hx1', trivial⟩)) (by rw [hidx]; rfl) (.cons (by simp only [AVRep]; exact .raw v hone) .nil) hd
          (r := ⟨(True ∧ True) ∧ (ti P e).ok = true ∧ (ti P e).zok = true ∧ n * (ti P e).size ≤ 16777216 ∧ d ∉ [] ++ [] ∧ (∀ cs ∈ [[IV.raw v]], cs.length = (ti P e).size) ∧ idx = List.range n, .hs d ((H d).stamp + 1), [] ++ [], [(d, .blk false ((H d).stamp + 1) e (ti P e).size [[IV.raw v]])], []⟩) rfl
          ⟨⟨trivial, trivial⟩, hok, hz, by rw [hn, hsz]; omega, by simp, by simp [hsz], by rw [hidx, hn]; rfl⟩
        refine ⟨z, w', β', hrun, ?_⟩
        simp only [applyH, List.append_nil, frzAll] at R' ⊢
        rw [hsz] at R'
        obtain ⟨R2, hxs⟩ := R'.dropG rfl
        have R3 := R2.nest (h := d) (vs := [v]) (xs := [.hs k s]) (updH_same _ _ _) hxs
        rw [updH_updH] at R3
        exact R3
      · cases hr
  · exact aBuildSlice_sound ht R hil hx hd hr hc
def aAppendN (T : TI) (H : Hp) (e d : Nat) (x y : AV) : Option AR :=
  match y with
  | .hs k s => match H k with
    | .nst s' e2 src => match x with
      | .nils => some ⟨s = s' ∧ T.ok = true ∧ T.zok = true ∧ T.size = 1 ∧ src.length * T.bytes ≤ 140737488355328 ∧ src.length ≤ maxLen ∧ k ≠ d, .hs d ((H d).stamp + 1), [], [(d, .nst ((H d).stamp + 1) e src)], [k]⟩
      | .hs h st => match H h with
        | .nst st' e' rows => some ⟨s = s' ∧ T.ok = true ∧ T.zok = true ∧ T.size = 1 ∧ st = st' ∧ e' = e ∧ (rows.length + src.length) * T.bytes ≤ 140737488355328 ∧ rows.length + src.length ≤ maxLen ∧ k ≠ h, .hs h (st + 1), [], [(h, .nst (st + 1) e (rows ++ src))], [h, k]⟩
        | _ => none
      | _ => none
    | _ => aAppend T H e d x y
  | _ => aAppend T H e d x y
theorem raw_len (vs : List Value) : (rawRows vs).length = vs.length := List.length_map _
theorem aAppendN_sound {P : Program} {t t2 e d : Nat} (ht : (ti P t).desc = .sl e) {e2 : Nat} (ht2 : (ti P t2).desc = .sl e2) (R : Rel G M w0 D0 N f H β a w) {x y : AV} {v u : Value} (hx : AVRep w (DD H β D0) H β x v) (hy : AVRep w (DD H β D0) H β y u) (hd : d < N) {r : AR} (hr : aAppendN (ti P e) H e d x y = some r) (hc : r.c) {ty : Nat} :
    ∃ z w' β', (Builtin.append_ #[t, t2] ty #[v, u]).run P w = .ok z w' ∧ Rel G M w0 D0 N (updo f (some d) r.v) (applyH r.hs (frzAll r.fz H)) β' (a.put (some d) z) w' := by
  unfold aAppendN at hr
  split at hr
  · rename_i k s
    split at hr
    · rename_i s' e3 src hK
      obtain ⟨us, hus, R1⟩ := R.unnest hK
      have husl := hus.length
      have hrl := rawRows_one us
      split at hr
      · injection hr with hr; subst hr
        obtain ⟨hs, hok, hz, hsz, hb, hm, hkd⟩ := hc
        have hdk : d ≠ k := fun e => hkd e.symm
        have R2 := R1.addG hus
        have hx1 : AVRep w (DD (updH H k (.blk false s' e3 1 (rawRows us))) β D0) (updH H k (.blk false s' e3 1 (rawRows us))) β .nils v := by simpa only [AVRep] using hx
        have hy1 : AVRep w (DD (updH H k (.blk false s' e3 1 (rawRows us))) β D0) (updH H k (.blk false s' e3 1 (rawRows us))) β (.hs k s) u := by
          simp only [AVRep, updH_same] at hy ⊢
          rw [hK] at hy
          exact hy
        obtain ⟨z, w', β', hrun, R'⟩ := aAppend_sound (ty := ty) (d := d) ht ht2 R2 hx1 hy1 hd
          (r := ⟨s = s' ∧ (ti P e).ok = true ∧ (ti P e).zok = true ∧ (∀ q ∈ rawRows us, q.length = (ti P e).size) ∧ (rawRows us).length * (ti P e).bytes ≤ 140737488355328 ∧ (rawRows us).length ≤ maxLen, .hs d ((updH H k (.blk false s' e3 1 (rawRows us)) d).stamp + 1), [], [(d, .blk false ((updH H k (.blk false s' e3 1 (rawRows us)) d).stamp + 1) e (ti P e).size (rawRows us))], [k]⟩)
          (by simp only [aAppend, srcRows, updH_same])
          ⟨hs, hok, hz, by rw [hsz]; exact hrl, by rw [raw_len, ← husl]; exact hb, by rw [raw_len, ← husl]; exact hm⟩
        refine ⟨z, w', β', hrun, ?_⟩
        simp only [applyH, frzAll] at R' ⊢
        rw [hsz, updH_ne _ _ hdk] at R'
        have R4 := R'.nest (h := d) (vs := us) (xs := src) (updH_same _ _ _) (R'.dropG husl).2
        rw [updH_updH] at R4
        have R5 := R4.nest (h := k) (st := s') (e := e3) (vs := us) (xs := src) (by rw [updH_ne _ _ hkd, updH_same]) (R4.dropG husl).2
        have hfin : updH (updH (updH H k (.blk false s' e3 1 (rawRows us))) d (.nst ((H d).stamp + 1) e src)) k (.nst s' e3 src) = updH H d (.nst ((H d).stamp + 1) e src) := by
          rw [updH_comm _ _ _ hdk, updH_updH, updH_self H hK]
        rw [hfin] at R5
        exact (R5.dropG husl).1
      · rename_i h st
        split at hr
        · rename_i st' e' rows hH
          injection hr with hr; subst hr
          obtain ⟨hs, hok, hz, hsz, hst, he, hb, hm, hkh⟩ := hc
          have hhk : h ≠ k := fun e => hkh e.symm
          have R2 := R1.addG hus
          obtain ⟨vs, hvs, R3⟩ := R2.unnest (h := h) (st := st') (e := e') (rows := rows) (by rw [updH_ne _ _ hhk, hH])
          have hvsl := hvs.length
          have hvl := rawRows_one vs
          have R3a := R3.addG hvs
          generalize hH2 : updH (updH H k (.blk false s' e3 1 (rawRows us))) h (.blk false st' e' 1 (rawRows vs)) = H2 at R3a R3 hvs
          have hk2 : H2 k = .blk false s' e3 1 (rawRows us) := by rw [← hH2, updH_ne _ _ hkh, updH_same]
          have hh2 : H2 h = .blk false st' e' 1 (rawRows vs) := by rw [← hH2, updH_same]
          have hx1 : AVRep w (DD H2 β D0) H2 β (.hs h st) v := by
            simp only [AVRep] at hx ⊢
            rw [hh2]; rw [hH] at hx
            exact hx
          have hy1 : AVRep w (DD H2 β D0) H2 β (.hs k s) u := by
            simp only [AVRep] at hy ⊢
            rw [hk2]; rw [hK] at hy
            exact hy
          subst he
          obtain ⟨z, w', β', hrun, R'⟩ := aAppend_sound (ty := ty) (d := d) ht ht2 R3a hx1 hy1 hd
            (r := ⟨s = s' ∧ (ti P e').ok = true ∧ (ti P e').zok = true ∧ (∀ q ∈ rawRows us, q.length = (ti P e').size) ∧ st = st' ∧ e' = e' ∧ 1 = (ti P e').size ∧ ((rawRows vs).length + (rawRows us).length) * (ti P e').bytes ≤ 140737488355328 ∧ (rawRows vs).length + (rawRows us).length ≤ maxLen, .hs h (st + 1), [], [(h, .blk false (st + 1) e' 1 (rawRows vs ++ rawRows us))], h :: [k]⟩)
            (by simp only [aAppend, srcRows, hk2, hh2])
            ⟨hs, hok, hz, by rw [hsz]; exact hrl, hst, rfl, hsz.symm, by rw [raw_len, raw_len, ← husl, ← hvsl]; exact hb, by rw [raw_len, raw_len, ← husl, ← hvsl]; exact hm⟩
          refine ⟨z, w', β', hrun, ?_⟩
          simp only [applyH, frzAll] at R' ⊢
          rw [show rawRows vs ++ rawRows us = rawRows (vs ++ us) from (List.map_append ..).symm] at R'
          have hA := (R'.dropG hvsl).2
          have hB := ((R'.dropG hvsl).1.dropG husl).2
          have R4 := R'.nest (h := h) (vs := vs ++ us) (xs := rows ++ src) (updH_same _ _ _) (hA.append hB)
          rw [updH_updH] at R4
          have hB4 := ((R4.dropG hvsl).1.dropG husl).2
          have R5 := R4.nest (h := k) (st := s') (e := e3) (vs := us) (xs := src) (by rw [updH_ne _ _ hkh, hk2]) hB4
          have hfin : updH (updH H2 h (.nst (st + 1) e' (rows ++ src))) k (.nst s' e3 src) = updH H h (.nst (st + 1) e' (rows ++ src)) := by
            rw [← hH2, updH_updH, updH_comm _ _ _ hhk, updH_updH, updH_self H hK]
          rw [hfin] at R5
          exact ((R5.dropG hvsl).1.dropG husl).1
        · cases hr
      · cases hr
    · exact aAppend_sound ht ht2 R hx hy hd hr hc
  · exact aAppend_sound ht ht2 R hx hy hd hr hc
end
end Go.AL

namespace Go.AL
open Go.RowKit
set_option linter.unusedSimpArgs false
set_option linter.unusedVariables false
def aNil (H : Hp) (x : AV) : Option AR :=
  match x with
  | .ip cells => some ⟨True, .ip cells, [], [], []⟩
  | .hp h st i off => some ⟨st = (H h).stamp, .hp h st i off, [], [], [h]⟩
  | _ => none
def aMax3 (x y z : AV) : Option AR :=
  match x, y, z with
  | .iv (.int k a), .iv (.int k' b), .iv (.int k'' c) => some ⟨k = k' ∧ k = k'', .iv (.int k (max (max a b) c)), [], [], []⟩
  | _, _, _ => none
def aBuiltin (P : Program) (b : Builtin) (H : Hp) (d : Option Nat) (xs : List AV) (ts : List Nat) : Option AR :=
  match b, xs, ts with
  | .len, [x], [t] => match (ti P t).desc with | .sl _ => aLen H x | _ => none
  | .max, [x, y], _ => aMax false x y
  | .min, [x, y], _ => aMax true x y
  | .max, [x, y, z], _ => aMax3 x y z
  | .append, [x, y], [t, t2] => match (ti P t).desc, (ti P t2).desc, d with
    | .sl e, .sl _, some d => aAppendN (ti P e) H e d x y
    | _, _, _ => none
  | .copy, [x, y], [t, _] => match (ti P t).desc with | .sl e => aCopy (ti P e) H x y | _ => none
  | _, _, _ => none
def astep (P : Program) (op : Op) (d : Option Nat) (f : Fr) (H : Hp) : Option AR :=
  match op with
  | .move x => some ⟨True, ev f x, [], [], []⟩
  | .assign x => some ⟨True, ev f x, [], [], []⟩
  | .pick c x y => match ev f c with | .iv (.bool b) => some ⟨True, if b then ev f x else ev f y, [], [], []⟩ | _ => none
  | .alloc e => match d with | some d => aAlloc (ti P e) H e d | none => none
  | .box e x => match d with | some d => aBox (ti P e) H e d (ev f x) | none => none
  | .build t ps => aBuild (ti P t) H (ps.toList.map (·.1)) (ps.toList.map fun p => ev f p.2)
  | .buildSlice t n ps => match (ti P t).desc, d with | .sl e, some d => aBuildSliceN (ti P e) H e d n (ps.toList.map (·.1)) (ps.toList.map fun p => ev f p.2) | _, _ => none
  | .load t x => aLoad (ti P t) H (ev f x)
  | .store t x y => aStoreN (ti P t) H (ev f x) (ev f y)
  | .nilCheck x => aNil H (ev f x)
  | .binOp op t x y _ => aBin (ti P t) op (ev f x) (ev f y)
  | .unOp op _ x => aUn op (ev f x)
  | .convert s d x => aConv (ti P d) (ti P s) (ev f x)
  | .makeSlice t l c => match (ti P t).desc, d with | .sl e, some d => aMake (ti P e) H e d (ev f l) (ev f c) | _, _ => none
  | .slice t x lo hi none => match (ti P t).desc with | .sl e => aSlice (ti P e).size (ti P e).ok H (ev f x) (lo.map (ev f)) (hi.map (ev f)) | _ => none
  | .fieldAddr s x i => aFieldAddr (ti P s) i H (ev f x)
  | .field s x i => aField (fldA P s i) (ev f x)
  | .indexAddr t x i => match (ti P t).desc with | .sl e => aIndex (ti P e).size (ti P e).ok H (ev f x) (ev f i) | .arr n e => aIndexA n (ti P e).size (ti P e).ok H (ev f x) (ev f i) | _ => none
  | .index t x i => aIndexS P t (ev f x) (ev f i)
  | .extract x i => aExtract i (ev f x)
  | .makeFunc (.func g) first caps => if first.size = 0 then some ⟨True, .fn g (caps.toList.map (ev f)), [], [], []⟩ else none
  | .call c => match c.callee with | .builtin b => aBuiltin P b H d (c.args.toList.map (ev f)) c.argTypes.toList | _ => none
  | _ => none
section
variable {G : Gh} {M : Nat → Prop} {w0 : World} {D0 : Nat → Prop} {N : Nat} {f : Fr} {H : Hp} {β : Nat → Value} {a : Act} {w : World}
def OpOk (P : Program) (G : Gh) (M : Nat → Prop) (w0 : World) (D0 : Nat → Prop) (N : Nat) (o : Oper) (f : Fr) (H : Hp) (a : Act) (w : World) (r : AR) : Prop :=
  ∃ nx w' z β', (execOp a.eval o).run P w = .ok nx w' ∧ (nx = .value z ∨ (nx = .skip ∧ z = Go.undef)) ∧ Rel G M w0 D0 N (updo f o.dst r.v) (applyH r.hs (frzAll r.fz H)) β' (a.put o.dst z) w'
theorem OpOk.value {P : Program} {o : Oper} {r : AR} (R : Rel G M w0 D0 N f H β a w) (hd : ∀ d, o.dst = some d → d < N) {s : Sem Value} (hs : execOp a.eval o = do pure (.value (← s)))
    (h : r.fz = [] ∧ r.hs = [] ∧ ∃ z, s.run P w = .ok z w ∧ AVRep w (DD H β D0) H β r.v z) : OpOk P G M w0 D0 N o f H a w r := by
  obtain ⟨h1, h2, z, h3, h4⟩ := h
  refine ⟨.value z, w, z, β, ?_, .inl rfl, ?_⟩
  · rw [hs]; simp only [Sem.run_bind, h3, Result.andThen_ok, Sem.run_pure]
  · rw [h1, h2]; exact R.value h4 hd
theorem OpOk.mem {P : Program} {o : Oper} {r : AR} {d : Nat} (hd : o.dst = some d) {s : Sem Value} (hs : execOp a.eval o = do pure (.value (← s)))
    (h : ∃ z w' β', s.run P w = .ok z w' ∧ Rel G M w0 D0 N (updo f (some d) r.v) (applyH r.hs (frzAll r.fz H)) β' (a.put (some d) z) w') : OpOk P G M w0 D0 N o f H a w r := by
  obtain ⟨z, w', β', h3, h4⟩ := h
  refine ⟨.value z, w', z, β', ?_, .inl rfl, by rw [hd]; exact h4⟩
  rw [hs]; simp only [Sem.run_bind, h3, Result.andThen_ok, Sem.run_pure]
theorem avall_map (R : Rel G M w0 D0 N f H β a w) : ∀ (xs : List Operand), AVAll w (DD H β D0) H β (xs.map (ev f)) (xs.map a.eval)
  | [] => .nil
  | x :: xs => .cons (R.ev x) (avall_map R xs)
theorem AVAll.reps {D : Nat → Prop} : ∀ {xs : List AV} {vs : List Value}, AVAll w D H β xs vs → AVReps w D H β xs vs
  | _, _, .nil => by simp [AVReps]
  | _, _, .cons h k => by simp only [AVReps]; exact ⟨h, k.reps⟩
theorem AVAll.append {D : Nat → Prop} : ∀ {xs : List AV} {vs : List Value} {ys : List AV} {us : List Value}, AVAll w D H β xs vs → AVReps w D H β ys us → AVAll w D H β (xs ++ ys) (vs ++ us)
  | _, _, [], [], .nil, _ => .nil
  | _, _, y :: ys, u :: us, .nil, h => by simp only [AVReps] at h; exact .cons h.1 (AVAll.append .nil h.2)
  | _, _, _, _, .cons h k, h' => .cons h (k.append h')
  | _, _, [], _ :: _, .nil, h => by simp [AVReps] at h
  | _, _, _ :: _, [], .nil, h => by simp [AVReps] at h
theorem avall_map2 (R : Rel G M w0 D0 N f H β a w) : ∀ (ps : List (Nat × Operand)), AVAll w (DD H β D0) H β (ps.map fun p => ev f p.2) (ps.map fun p => a.eval p.2)
  | [] => .nil
  | x :: xs => .cons (R.ev x.2) (avall_map2 R xs)
theorem optrep (R : Rel G M w0 D0 N f H β a w) (x : Option Operand) : OptRep w (DD H β D0) H β (x.map (ev f)) (x.map a.eval) := by
  cases x with
  | none => trivial
  | some x => exact R.ev x
theorem zip_parts (ps : Array (Nat × Operand)) (a : Act) : ((ps.toList.map (·.1)).zip (ps.toList.map fun p => a.eval p.2)).toArray = ps.map fun (i, x) => (i, a.eval x) := by
  apply Array.ext'
  rw [Array.toList_map]
  simp only
  generalize ps.toList = l
  induction l with
  | nil => rfl
  | cons p l ih => simp [ih]
theorem aNil_sound {P : Program} (R : Rel G M w0 D0 N f H β a w) {x : AV} {v : Value} (hx : AVRep w (DD H β D0) H β x v) {r : AR} (hr : aNil H x = some r) (hc : r.c) : r.fz = [] ∧ r.hs = [] ∧ (∃ p, v = .pointer (some p)) ∧ AVRep w (DD H β D0) H β r.v v := by
  unfold aNil at hr
  split at hr
  · injection hr with hr; subst hr
    have hx' := hx
    simp only [AVRep] at hx
    obtain ⟨g, o, rfl, _⟩ := hx
    exact ⟨rfl, rfl, ⟨_, rfl⟩, hx'⟩
  · injection hr with hr; subst hr
    have hx' := hx
    simp only [AVRep] at hx
    obtain ⟨g, n, cap, _, rfl⟩ := hx.2 hc
    exact ⟨rfl, rfl, ⟨_, rfl⟩, hx'⟩
  · cases hr
theorem aMax3_sound {P : Program} {ts : Array TypeId} {ty : Nat} {x y z : AV} {v u t : Value} {D : Nat → Prop} (hx : AVRep w D H β x v) (hy : AVRep w D H β y u) (hz : AVRep w D H β z t) {r : AR} (hr : aMax3 x y z = some r) (hc : r.c) :
    r.fz = [] ∧ r.hs = [] ∧ ∃ q, (Builtin.max_ ts ty #[v, u, t] : Sem Value).run P w = .ok q w ∧ AVRep w D H β r.v q := by
  unfold aMax3 at hr
  split at hr
  · rename_i k a k' b k'' c
    injection hr with hr; subst hr
    simp only [AVRep] at hx hy hz; cases hx; cases hy; cases hz
    obtain ⟨rfl, rfl⟩ := hc
    refine ⟨rfl, rfl, .int k (max (max a b) c), ?_, by simp only [AVRep]; exact .int ..⟩
    simp only [Builtin.max_, List.foldlM, Builtin.max2, bind_pure, Sem.run_pure, pure_bind]
    congr 2; simp only [Int.max_def]; split <;> split <;> (try split) <;> (try split) <;> omega
  · cases hr
theorem op_sound {P : Program} (R : Rel G M w0 D0 N f H β a w) (o : Oper) (hd : ∀ d, o.dst = some d → d < N) {r : AR} (hr : astep P o.op o.dst f H = some r) (hc : r.c) : OpOk P G M w0 D0 N o f H a w r := by
  cases ho : o.op <;> rw [ho] at hr <;> simp only [astep] at hr <;> try cases hr
  case move x =>
    exact OpOk.value R hd (s := pure (a.eval x)) (by simp [execOp, ho]) ⟨rfl, rfl, _, rfl, R.ev x⟩
  case assign x =>
    exact OpOk.value R hd (s := pure (a.eval x)) (by simp [execOp, ho]) ⟨rfl, rfl, _, rfl, R.ev x⟩
  case pick c x y =>
    have hcv := R.ev c
    split at hr
    · rename_i b hb
      injection hr with hr; subst hr
      rw [hb] at hcv
      simp only [AVRep] at hcv
      generalize hv : a.eval c = v at hcv
      cases hcv
      refine OpOk.value R hd (s := pure (if b then a.eval x else a.eval y)) (by simp [execOp, ho, hv, asBool]) ⟨rfl, rfl, _, rfl, ?_⟩
      cases b
      · exact R.ev y
      · exact R.ev x
    · cases hr
  case alloc e =>
    split at hr
    · rename_i d hdd
      exact OpOk.mem hdd (by simp only [execOp, ho]) (aAlloc_sound R (hd d hdd) hr hc)
    · cases hr
  case box e x =>
    split at hr
    · rename_i d hdd
      exact OpOk.mem hdd (by simp only [execOp, ho]) (aBox_sound (P := P) R (R.ev x) (hd d hdd) hr hc)
    · cases hr
  case build t ps =>
    obtain ⟨h1, z, h2, h3⟩ := aBuild_sound (P := P) R (by simp) (avall_map2 R ps.toList) hr hc
    rw [zip_parts] at h2
    refine ⟨.value z, w, z, β, ?_, .inl rfl, ?_⟩
    · simp only [execOp, ho, Sem.run_bind, h2, Result.andThen_ok, Sem.run_pure]
    · rw [h1]; exact (R.frzAll r.fz).value h3 hd
  case buildSlice t n ps =>
    split at hr
    · rename_i e d ht hdd
      have := aBuildSliceN_sound (P := P) ht R (by simp) (avall_map2 R ps.toList) (hd d hdd) hr hc
      rw [zip_parts] at this
      exact OpOk.mem hdd (by simp only [execOp, ho]) this
    · cases hr
  case load t x => exact OpOk.value R hd (by simp only [execOp, ho]) (aLoad_sound R (R.ev x) hr hc)
  case store t x y =>
    obtain ⟨h1, w', β', h2, h3⟩ := aStoreN_sound (P := P) R (R.ev x) (R.ev y) hr hc hd
    exact ⟨.skip, w', Go.undef, β', by simp only [execOp, ho, Sem.run_bind, h2, Result.andThen_ok, Sem.run_pure], .inr ⟨rfl, rfl⟩, h3⟩
  case nilCheck x =>
    obtain ⟨h1, h2, ⟨p, hp⟩, h3⟩ := aNil_sound (P := P) R (R.ev x) hr hc
    exact ⟨.value (a.eval x), w, _, β, by simp [execOp, ho, hp], .inl rfl, by rw [h1, h2]; exact R.value h3 hd⟩
  case binOp op t x y yt => exact OpOk.value R hd (by simp only [execOp, ho]) (aBin_sound (P := P) (R.ev x) (R.ev y) hr hc (ox := x) (oy := y))
  case unOp op t x => exact OpOk.value R hd (by simp only [execOp, ho]) (aUn_sound (P := P) (R.ev x) hr hc)
  case convert s d x => exact OpOk.value R hd (by simp only [execOp, ho]) (aConv_sound (P := P) (R.ev x) hr hc)
  case makeSlice t l c =>
    split at hr
    · rename_i e d ht hdd
      exact OpOk.mem hdd (by simp only [execOp, ho]) (aMake_sound (P := P) ht R (R.ev l) (R.ev c) (hd d hdd) hr hc)
    · cases hr
  case slice t x lo hi mx =>
    cases mx with
    | some m => simp only [astep] at hr; cases hr
    | none =>
      simp only [astep] at hr
      split at hr
      · rename_i e ht
        exact OpOk.value R hd (by simp only [execOp, ho, Option.map_none]) (aSlice_sound (P := P) ht R (R.ev x) (optrep R lo) (optrep R hi) hr hc)
      · cases hr
  case fieldAddr s x i => exact OpOk.value R hd (by simp only [execOp, ho]) (aFieldAddr_sound (P := P) R (R.ev x) hr hc)
  case field s x i => exact OpOk.value R hd (by simp only [execOp, ho]) (aField_sound (P := P) (R.ev x) hr hc)
  case indexAddr t x i =>
    split at hr
    · rename_i e ht
      exact OpOk.value R hd (by simp only [execOp, ho]) (aIndex_sound (P := P) ht R (R.ev x) (R.ev i) hr hc)
    · rename_i n e ht
      exact OpOk.value R hd (by simp only [execOp, ho]) (aIndexA_sound (P := P) ht R (R.ev x) (R.ev i) hr hc)
    · cases hr
  case index t x i => exact OpOk.value R hd (by simp only [execOp, ho]) (aIndexS_sound (P := P) (R.ev x) (R.ev i) hr hc)
  case extract x i => exact OpOk.value R hd (by simp only [execOp, ho]) (aExtract_sound (P := P) (R.ev x) hr hc)
  case makeFunc fn first caps =>
    cases fn with
    | func g =>
      simp only [astep] at hr
      split at hr
      · rename_i h0
        injection hr with hr; subst hr
        have hfirst : first.map a.eval = #[] := by
          apply Array.ext'; simp [Array.eq_empty_of_size_eq_zero h0]
        refine OpOk.value R hd (s := Instr.makeFunc (.func g) (first.map a.eval) (caps.map a.eval)) (by simp only [execOp, ho]) ⟨rfl, rfl, _, rfl, ?_⟩
        rw [hfirst]
        simp only [AVRep]
        refine ⟨_, rfl, ?_⟩
        rw [Array.toList_map]
        exact (avall_map R caps.toList).reps
      · cases hr
    | _ => simp [astep] at hr
  case call c =>
    obtain ⟨callee, args, tys⟩ := c
    split at hr
    · rename_i b hb
      simp only at hb; subst hb
      unfold aBuiltin at hr
      split at hr
      · rename_i x t hx ht
        split at hr
        · rename_i e hte
          have ha : ∃ o, args = #[o] := by
            have h1 := congrArg List.length hx
            match hh : args.toList with
            | [o] => exact ⟨o, by apply Array.ext'; simpa using hh⟩
            | [] => rw [hh] at h1; simp at h1
            | _ :: _ :: _ => rw [hh] at h1; simp at h1
          obtain ⟨o', rfl⟩ := ha
          have htt : tys = #[t] := by apply Array.ext'; simpa using ht
          subst htt
          simp only [List.map_cons, List.map_nil, List.cons.injEq, and_true] at hx
          subst hx
          exact OpOk.value R hd (s := Builtin.len_ #[t] o.type #[a.eval o']) (by simp [execOp, ho, resolve, invoke, builtin]) (aLen_sound (P := P) hte R (R.ev o') hr hc)
        · cases hr
      · rename_i x y ts hx
        have ha : ∃ o1 o2, args = #[o1, o2] := by
          have h1 := congrArg List.length hx
          match hh : args.toList with
          | [o1, o2] => exact ⟨o1, o2, by apply Array.ext'; simpa using hh⟩
          | [] => rw [hh] at h1; simp at h1
          | [_] => rw [hh] at h1; simp at h1
          | _ :: _ :: _ :: _ => rw [hh] at h1; simp at h1
        obtain ⟨o1, o2, rfl⟩ := ha
        simp only [List.map_cons, List.map_nil, List.cons.injEq, and_true] at hx
        obtain ⟨rfl, rfl⟩ := hx
        exact OpOk.value R hd (s := Builtin.max_ tys o.type #[a.eval o1, a.eval o2]) (by simp [execOp, ho, resolve, invoke, builtin]) (aMax_sound (P := P) (ts := tys) (ty := o.type) (R.ev o1) (R.ev o2) hr hc)
      · rename_i x y ts hx
        have ha : ∃ o1 o2, args = #[o1, o2] := by
          have h1 := congrArg List.length hx
          match hh : args.toList with
          | [o1, o2] => exact ⟨o1, o2, by apply Array.ext'; simpa using hh⟩
          | [] => rw [hh] at h1; simp at h1
          | [_] => rw [hh] at h1; simp at h1
          | _ :: _ :: _ :: _ => rw [hh] at h1; simp at h1
        obtain ⟨o1, o2, rfl⟩ := ha
        simp only [List.map_cons, List.map_nil, List.cons.injEq, and_true] at hx
        obtain ⟨rfl, rfl⟩ := hx
        exact OpOk.value R hd (s := Builtin.min_ tys o.type #[a.eval o1, a.eval o2]) (by simp [execOp, ho, resolve, invoke, builtin]) (aMax_sound (P := P) (ts := tys) (ty := o.type) (R.ev o1) (R.ev o2) hr hc)
      · rename_i x y z ts hx
        have ha : ∃ o1 o2 o3, args = #[o1, o2, o3] := by
          have h1 := congrArg List.length hx
          match hh : args.toList with
          | [o1, o2, o3] => exact ⟨o1, o2, o3, by apply Array.ext'; simpa using hh⟩
          | [] => rw [hh] at h1; simp at h1
          | [_] => rw [hh] at h1; simp at h1
          | [_, _] => rw [hh] at h1; simp at h1
          | _ :: _ :: _ :: _ :: _ => rw [hh] at h1; simp at h1
        obtain ⟨o1, o2, o3, rfl⟩ := ha
        simp only [List.map_cons, List.map_nil, List.cons.injEq, and_true] at hx
        obtain ⟨rfl, rfl, rfl⟩ := hx
        exact OpOk.value R hd (s := Builtin.max_ tys o.type #[a.eval o1, a.eval o2, a.eval o3]) (by simp [execOp, ho, resolve, invoke, builtin]) (aMax3_sound (P := P) (ts := tys) (ty := o.type) (R.ev o1) (R.ev o2) (R.ev o3) hr hc)
      · rename_i x y t t2 hx ht
        split at hr
        · rename_i e e2 d hte hte2 hdd
          have ha : ∃ o1 o2, args = #[o1, o2] := by
            have h1 := congrArg List.length hx
            match hh : args.toList with
            | [o1, o2] => exact ⟨o1, o2, by apply Array.ext'; simpa using hh⟩
            | [] => rw [hh] at h1; simp at h1
            | [_] => rw [hh] at h1; simp at h1
            | _ :: _ :: _ :: _ => rw [hh] at h1; simp at h1
          obtain ⟨o1, o2, rfl⟩ := ha
          have htt : tys = #[t, t2] := by apply Array.ext'; simpa using ht
          subst htt
          simp only [List.map_cons, List.map_nil, List.cons.injEq, and_true] at hx
          obtain ⟨rfl, rfl⟩ := hx
          exact OpOk.mem hdd (s := Builtin.append_ #[t, t2] o.type #[a.eval o1, a.eval o2]) (by simp [execOp, ho, resolve, invoke, builtin]) (aAppendN_sound (P := P) hte hte2 R (R.ev o1) (R.ev o2) (hd d hdd) hr hc)
        · cases hr
      · rename_i x y t t2 hx ht
        split at hr
        · rename_i e hte
          have ha : ∃ o1 o2, args = #[o1, o2] := by
            have h1 := congrArg List.length hx
            match hh : args.toList with
            | [o1, o2] => exact ⟨o1, o2, by apply Array.ext'; simpa using hh⟩
            | [] => rw [hh] at h1; simp at h1
            | [_] => rw [hh] at h1; simp at h1
            | _ :: _ :: _ :: _ => rw [hh] at h1; simp at h1
          obtain ⟨o1, o2, rfl⟩ := ha
          have htt : tys = #[t, t2] := by apply Array.ext'; simpa using ht
          subst htt
          simp only [List.map_cons, List.map_nil, List.cons.injEq, and_true] at hx
          obtain ⟨rfl, rfl⟩ := hx
          obtain ⟨z, w', β', h3, h4⟩ := aCopy_sound (P := P) (t2 := t2) (ty := o.type) hte R (R.ev o1) (R.ev o2) hd hr hc
          refine ⟨.value z, w', z, β', ?_, .inl rfl, h4⟩
          simp [execOp, ho, resolve, invoke, builtin, h3]
        · cases hr
      · cases hr
    · cases hr
def Wd (ro : Option Nat) : Fence := { Fence.wide with round := ro }
theorem semAt_of {ro : Option Nat} {o : Oper} (h : ∀ c, o.op ≠ .defer c) (ρ : Operand → Value) : o.semAt ro ρ = execOp ρ o := by
  cases ro with
  | none => exact Oper.semAt_none ρ o
  | some l => exact Oper.semAt_some l ρ o h
theorem astep_nd {P : Program} {op : Op} {d : Option Nat} {r : AR} (h : astep P op d f H = some r) : ∀ c, op ≠ .defer c := by
  rintro c rfl; simp [astep] at h
theorem OpOk.wp {P : Program} {o : Oper} {r : AR} (h : OpOk P G M w0 D0 N o f H a w r) {K : Act → World → Prop} {Q : Exit → Act → World → Prop}
    (hK : ∀ a' w' β', Rel G M w0 D0 N (updo f o.dst r.v) (applyH r.hs (frzAll r.fz H)) β' a' w' → K a' w') {ro : Option Nat} (hnd : ∀ c, o.op ≠ .defer c) : o.wpIn (Wd ro) 0 P a w K Q := by
  obtain ⟨nx, w', z, β', h1, h2, h3⟩ := h
  refine ⟨fun _ _ => trivial, ?_⟩
  show o.uponIn (Wd ro) 0 P a K Q ((o.semAt ro a.eval).run P w)
  rw [semAt_of hnd, h1]
  rcases h2 with rfl | ⟨rfl, rfl⟩
  · exact hK _ _ _ h3
  · exact hK _ _ _ h3
end
end Go.AL

namespace Go.AL
open Go.RowKit
set_option linter.unusedSimpArgs false
set_option linter.unusedVariables false
inductive CV where
  | iv (x : IV)
  | agg (cells : List IV)
  | val (v : Value)
  | box (cells : List IV)
  | fn (g : Nat) (caps : List (List IV))
  | any
  deriving Inhabited
def CV.av : CV → AV
  | .iv x => .iv x
  | .agg cs => .agg cs
  | .val v => cstA v
  | .box cells => .ip cells
  | .fn g caps => .fn g (caps.map .ip)
  | .any => .dead
def BoxRep (w : World) (D : Nat → Prop) (cells : List IV) (v : Value) : Prop :=
  ∃ g o, v = .pointer (some ⟨g, o, none⟩) ∧ (cells ≠ [] → ¬ D g) ∧ ∃ vs, Reps w D cells vs ∧ ∀ (j : Nat) c, vs[j]? = some c → w.cell? ⟨g, o + j, none⟩ = some c
theorem BoxRep.mono {w w' : World} {D D' : Nat → Prop} (g : Grows w D w' D') {cells : List IV} {v : Value} (h : BoxRep w D cells v) : BoxRep w' D' cells v := by
  obtain ⟨b, o, rfl, hD, vs, hr, hc⟩ := h
  by_cases he : cells = []
  · subst he
    exact ⟨b, o, rfl, fun h => (h rfl).elim, [], by simp [Reps], by simp⟩
  · have hne := hD he
    refine ⟨b, o, rfl, fun _ h' => ?_, vs, hr.mono g, fun j c hj => g.cell hne (hc j c hj)⟩
    have hl := hr.length
    match cells, vs, he, hl with
    | x :: xs, v :: vs, _, _ =>
      have := hc 0 v rfl
      exact hne (g.sub _ (World.block_lt_of_cell? w _ this) h')
def BoxReps (w : World) (D : Nat → Prop) : List (List IV) → List Value → Prop
  | [], [] => True
  | x :: xs, v :: vs => BoxRep w D x v ∧ BoxReps w D xs vs
  | _, _ => False
theorem BoxReps.mono {w w' : World} {D D' : Nat → Prop} (g : Grows w D w' D') : ∀ {xs : List (List IV)} {vs : List Value}, BoxReps w D xs vs → BoxReps w' D' xs vs
  | [], [], _ => trivial
  | _ :: _, _ :: _, h => ⟨h.1.mono g, BoxReps.mono g h.2⟩
  | [], _ :: _, h => h.elim
  | _ :: _, [], h => h.elim
theorem BoxReps.av {w : World} {D : Nat → Prop} {H : Hp} {β : Nat → Value} : ∀ {xs : List (List IV)} {vs : List Value}, BoxReps w D xs vs → AVReps w D H β (xs.map .ip) vs
  | [], [], _ => by simp [AVReps]
  | _ :: _, _ :: _, h => by simp only [List.map_cons, AVReps, AVRep]; exact ⟨h.1, BoxReps.av h.2⟩
  | [], _ :: _, h => h.elim
  | _ :: _, [], h => h.elim
def CVRep (w : World) (D : Nat → Prop) : CV → Value → Prop
  | .iv x, v => Rep w D x v
  | .agg cells, v => ∃ cs : Array Value, v = .agg cs ∧ Reps w D cells cs.toList
  | .val u, v => v = u
  | .box cells, v => BoxRep w D cells v
  | .fn g caps, v => ∃ vs : Array Value, v = .func (.func g) #[] vs ∧ BoxReps w D caps vs.toList
  | .any, _ => True
theorem CVRep.mono {w w' : World} {D D' : Nat → Prop} (g : Grows w D w' D') {c : CV} {v : Value} (h : CVRep w D c v) : CVRep w' D' c v := by
  cases c with
  | iv x => exact Rep.mono g h
  | agg cs => obtain ⟨a, rfl, hr⟩ := h; exact ⟨a, rfl, hr.mono g⟩
  | val u => exact h
  | box cells => exact BoxRep.mono g h
  | fn k caps => obtain ⟨a, rfl, hr⟩ := h; exact ⟨a, rfl, hr.mono g⟩
  | any => trivial
theorem CVRep.av {w : World} {D : Nat → Prop} {H : Hp} {β : Nat → Value} {c : CV} {v : Value} (h : CVRep w D c v) : AVRep w D H β c.av v := by
  cases c with
  | iv x => simpa only [CV.av, AVRep, CVRep] using h
  | agg x => simpa only [CV.av, AVRep, CVRep] using h
  | val u => simp only [CVRep] at h; subst h; exact cstA_rep ..
  | box cells => simpa only [CV.av, AVRep, CVRep, BoxRep] using h
  | fn k caps => obtain ⟨a, rfl, hr⟩ := h; simp only [CV.av, AVRep]; exact ⟨a, rfl, hr.av⟩
  | any => simp [CV.av, AVRep]
def CVReps (w : World) (D : Nat → Prop) : List CV → List Value → Prop
  | [], [] => True
  | x :: xs, v :: vs => CVRep w D x v ∧ CVReps w D xs vs
  | _, _ => False
theorem CVReps.length {w : World} {D : Nat → Prop} : ∀ {xs : List CV} {vs : List Value}, CVReps w D xs vs → xs.length = vs.length
  | [], [], _ => rfl
  | _ :: _, _ :: _, h => by simp [CVReps.length h.2]
  | [], _ :: _, h => h.elim
  | _ :: _, [], h => h.elim
theorem CVReps.mono {w w' : World} {D D' : Nat → Prop} (g : Grows w D w' D') : ∀ {xs : List CV} {vs : List Value}, CVReps w D xs vs → CVReps w' D' xs vs
  | [], [], _ => trivial
  | _ :: _, _ :: _, h => ⟨h.1.mono g, CVReps.mono g h.2⟩
  | [], _ :: _, h => h.elim
  | _ :: _, [], h => h.elim
abbrev OwnRes := Option (Nat × Nat × Nat × List (List IV))
def ownHead (own : OwnRes) (us : List Value) (b : Nat) : Prop :=
  match own with
  | none => False
  | some (i, _) => ∃ v, us[i]? = some v ∧ headOf v = some b
def packV : List Value → Value
  | [v] => v
  | vs => .tuple vs.toArray
structure ResOk (w w' : World) (D : Nat → Prop) (own : OwnRes) (res : List CV) (us : List Value) : Prop where
  len : us.length = res.length
  val : ∀ (j : Nat) c v, (∀ i e sz rows, own = some (i, e, sz, rows) → j ≠ i) → res[j]? = some c → us[j]? = some v → CVRep w' (fun b => D b ∨ ownHead own us b) c v
  own : ∀ i e sz rows, own = some (i, e, sz, rows) → ∃ v, us[i]? = some v ∧ i < res.length ∧ Own w' (fun b => D b ∨ ownHead own us b) w.heap.size (fun _ => False) v e sz rows
def CallsR (P : Program) (g : Nat) (vs : List Value) (w : World) (R : Value → World → Prop) : Prop :=
  (∃ fn, P.funcs[g]? = some fn ∧ (fn.name == "runtime.NumGoroutine") = false ∧ fn.body.isNone = false ∧ Calls P g vs.toArray w fun e w' => ∃ v, e = .returned v ∧ R v w') ∨
  ∃ v w', (callFunc g vs.toArray).run P w = .ok (.value v) w' ∧ R v w'
def AC (P : Program) (g : Nat) (args : List CV) (own : OwnRes) (res : List CV) : Prop :=
  ∀ (w : World) (D : Nat → Prop) (vs : List Value), (∀ b, D b → b < w.heap.size) → CVReps w D args vs →
    CallsR P g vs w fun v w' => Below w.heap.size w w' ∧ ∃ us, v = packV us ∧ ResOk w w' D own res us
def ACW (P : Program) (g : Nat) (args : List CV) (i e sz : Nat) (rows rows' : List (List IV)) (res : List CV) : Prop :=
  ∀ (w : World) (D : Nat → Prop) (vs : List Value) (v : Value), (∀ b, D b → b < w.heap.size) → CVReps w D args vs → vs[i]? = some v → (∀ b, headOf v = some b → D b) →
    Own w D w.heap.size (fun b => headOf v = some b) v e sz rows →
    CallsR P g vs w fun u w' => w.grownBy w' (headOf v) ∧ ∃ us, u = packV us ∧ CVReps w' D res us ∧ Own w' D w.heap.size (fun b => headOf v = some b) v e sz rows'
def ACT (P : Program) (g : Nat) (args : List CV) (i e sz : Nat) (rows rows' : List (List IV)) : Prop :=
  ∀ (w : World) (D : Nat → Prop) (vs : List Value) (v : Value), (∀ b, D b → b < w.heap.size) → CVReps w D args vs → vs[i]? = some v → (∀ b, headOf v = some b → D b) →
    Own w D w.heap.size (fun b => headOf v = some b) v e sz rows →
    CallsR P g vs w fun u w' => w.grownBy w' (headOf v) ∧ (∀ b, headOf u = some b → headOf v = some b) ∧ Own w' D w.heap.size (fun b => headOf v = some b) u e sz rows'
def tobox (H : Hp) : AV → Option (Prop × List IV × List Nat)
  | .ip cells => some (True, cells, [])
  | .hp h st i off => match H h with | .blk _ st' _ _ rows => some (st = st' ∧ i < rows.length, (rows.getD i []).drop off, [h]) | _ => none
  | _ => none
def toboxes (H : Hp) : List AV → Option (Prop × List (List IV) × List Nat)
  | [] => some (True, [], [])
  | x :: xs => match tobox H x, toboxes H xs with
    | some (c, v, ms), some (c', vs, ms') => some (c ∧ c', v :: vs, ms ++ ms')
    | _, _ => none
def tocv (H : Hp) : AV → Option (Prop × CV × List Nat)
  | .dead => some (True, .any, [])
  | .ip cells => some (True, .box cells, [])
  | .hp h st i off => match tobox H (.hp h st i off) with | some (c, cells, ms) => some (c, .box cells, ms) | none => none
  | .fn g l => match toboxes H l with | some (c, caps, ms) => some (c, .fn g caps, ms) | none => none
  | .iv x => some (True, .iv x, [])
  | .agg cs => some (True, .agg cs, [])
  | .nils => some (True, .iv (.sl []), [])
  | .hs h st => match H h with | .blk _ st' _ _ rows => some (st = st', .iv (.sl rows), [h]) | _ => none
  | .hv h st off len => match H h with | .blk _ st' _ _ rows => some (st = st' ∧ off + len ≤ rows.length, .iv (.sl ((rows.drop off).take len)), [h]) | _ => none
  | _ => none
def tocvs (H : Hp) : List AV → Option (Prop × List CV × List Nat)
  | [] => some (True, [], [])
  | x :: xs => match tocv H x, tocvs H xs with
    | some (c, v, ms), some (c', vs, ms') => some (c ∧ c', v :: vs, ms ++ ms')
    | _, _ => none
section
variable {G : Gh} {M : Nat → Prop} {w0 : World} {D0 : Nat → Prop} {N : Nat} {f : Fr} {H : Hp} {β : Nat → Value} {a : Act} {w : World}
theorem tobox_sound (R : Rel G M w0 D0 N f H β a w) {x : AV} {v : Value} (hx : AVRep w (DD H β D0) H β x v) {c : Prop} {y : List IV} {ms : List Nat} (ht : tobox H x = some (c, y, ms)) (hc : c) :
    BoxRep w (DD (frzAll ms H) β D0) y v := by
  unfold tobox at ht
  split at ht
  · injection ht with ht; injection ht with e1 e2; injection e2 with e2 e3; subst e1 e2 e3
    simpa only [AVRep, frzAll, BoxRep] using hx
  · rename_i h st i off
    split at ht
    · rename_i fz st' e sz rows hH
      injection ht with ht; injection ht with e1 e2; injection e2 with e2 e3; subst e1 e2 e3
      have R1 := R.freeze h
      have hH1 : updH H h (H h).frz h = .blk true st' e sz rows := by rw [updH_same, hH]; rfl
      have hx1 : AVRep w (DD (updH H h (H h).frz) β D0) (updH H h (H h).frz) β (.hp h st i off) v := by
        simp only [AVRep] at hx ⊢
        rw [updH_same, HC.frz_stamp, HC.frz_esz]; exact hx
      obtain ⟨g, cap, vs, hb, hl, hr, hcell⟩ := R1.row hH1 hc.2
      simp only [AVRep] at hx1
      obtain ⟨g', n', cap', hb', rfl⟩ := hx1.2 (by rw [hH1]; exact hc.1)
      rw [hb] at hb'; injection hb' with e1; injection e1 with e1; injection e1 with e1
      subst e1
      simp only [frzAll]
      refine ⟨g, _, rfl, fun hne hD => ?_, vs.drop off, hr.drop off, fun j u hj => ?_⟩
      · obtain ⟨hrows, hrep, _⟩ := R1.frz h _ _ _ _ hH1
        rw [hb] at hrep
        cases hrep with
        | nil => exact (Nat.not_lt_zero _ hc.2).elim
        | sl _ _ _ _ _ _ _ _ _ _ hDg _ _ => exact hDg hD
      · rw [List.getElem?_drop] at hj
        have := hcell _ _ hj
        rw [hH1] at *
        simp only [HC.esz]
        rw [Nat.add_assoc]; exact this
    · cases ht
  · cases ht
theorem toboxes_sound (R : Rel G M w0 D0 N f H β a w) : ∀ {xs : List AV} {vs : List Value} {c : Prop} {ys : List (List IV)} {ms : List Nat}, AVReps w (DD H β D0) H β xs vs → toboxes H xs = some (c, ys, ms) → c → BoxReps w (DD (frzAll ms H) β D0) ys vs
  | [], [], c, ys, ms, _, ht, hc => by
    simp only [toboxes] at ht; injection ht with ht; injection ht with e1 e2; injection e2 with e2 e3; subst e1 e2 e3
    trivial
  | x :: xs, v :: vs, c, ys, ms, hx, ht, hc => by
    simp only [AVReps] at hx
    simp only [toboxes] at ht
    split at ht
    · rename_i c1 y1 m1 c2 y2 m2 h1 h2
      injection ht with ht; injection ht with e1 e2; injection e2 with e2 e3; subst e1 e2 e3
      exact ⟨(tobox_sound R hx.1 h1 hc.1).mono (Grows.of_sub (DD_frz _ _ H (by simp +contextual))), (toboxes_sound R hx.2 h2 hc.2).mono (Grows.of_sub (DD_frz _ _ H (by simp +contextual)))⟩
    · cases ht
  | [], _ :: _, _, _, _, hx, _, _ => by simp [AVReps] at hx
  | _ :: _, [], _, _, _, hx, _, _ => by simp [AVReps] at hx
theorem tocv_sound (R : Rel G M w0 D0 N f H β a w) {x : AV} {v : Value} (hx : AVRep w (DD H β D0) H β x v) {c : Prop} {y : CV} {ms : List Nat} (ht : tocv H x = some (c, y, ms)) (hc : c) :
    CVRep w (DD (frzAll ms H) β D0) y v := by
  have key : ∀ x', tcells H x = some (c, [x'], ms) → (∀ cs, v ≠ .agg cs) → Rep w (DD (frzAll ms H) β D0) x' v := by
    intro x' h hv
    have := tcells_sound R hx h hc
    have e : v.cells = #[v] := by cases v <;> first | rfl | exact (hv _ rfl).elim
    rw [e] at this
    exact this.1
  unfold tocv at ht
  split at ht
  · injection ht with ht; injection ht with e1 e2; injection e2 with e2 e3; subst e1 e2 e3
    trivial
  · injection ht with ht; injection ht with e1 e2; injection e2 with e2 e3; subst e1 e2 e3
    simpa only [CVRep, AVRep, frzAll, BoxRep] using hx
  · split at ht
    · rename_i hb
      injection ht with ht; injection ht with e1 e2; injection e2 with e2 e3; subst e1 e2 e3
      exact tobox_sound R hx hb hc
    · cases ht
  · split at ht
    · rename_i hb
      injection ht with ht; injection ht with e1 e2; injection e2 with e2 e3; subst e1 e2 e3
      simp only [AVRep] at hx
      obtain ⟨us, rfl, hr⟩ := hx
      exact ⟨us, rfl, toboxes_sound R hr hb hc⟩
    · cases ht
  · injection ht with ht; injection ht with e1 e2; injection e2 with e2 e3; subst e1 e2 e3
    simpa only [CVRep, AVRep, frzAll] using hx
  · injection ht with ht; injection ht with e1 e2; injection e2 with e2 e3; subst e1 e2 e3
    simpa only [CVRep, AVRep, frzAll] using hx
  · injection ht with ht; injection ht with e1 e2; injection e2 with e2 e3; subst e1 e2 e3
    simp only [AVRep] at hx; subst hx
    exact .nil _ _ (Nat.zero_le _)
  · rename_i h st
    split at ht
    · rename_i fz st' e sz rows hH
      injection ht with ht; injection ht with e1 e2; injection e2 with e2 e3; subst e1 e2 e3
      refine key _ (by simp [tcells, hH]) ?_
      simp only [AVRep] at hx
      have hv := hx.2 (by rw [hH]; exact hc)
      obtain ⟨ad, cap, hb, _⟩ := R.slice_len hH
      intro cs he; rw [hv, hb] at he; cases he
    · cases ht
  · rename_i h st off len
    split at ht
    · rename_i fz st' e sz rows hH
      injection ht with ht; injection ht with e1 e2; injection e2 with e2 e3; subst e1 e2 e3
      refine key _ (by simp [tcells, hH]) ?_
      simp only [AVRep] at hx
      intro cs he
      rcases hx.2 (by rw [hH]; exact hc.1) with ⟨_, ad, cap, hv, _⟩ | ⟨g, n, cap, cap', hb, hv, _⟩ <;> rw [hv] at he <;> cases he
    · cases ht
  · cases ht
theorem tocvs_sound (R : Rel G M w0 D0 N f H β a w) : ∀ {xs : List AV} {vs : List Value} {c : Prop} {ys : List CV} {ms : List Nat}, AVAll w (DD H β D0) H β xs vs → tocvs H xs = some (c, ys, ms) → c → CVReps w (DD (frzAll ms H) β D0) ys vs
  | [], [], c, ys, ms, _, ht, hc => by
    simp only [tocvs] at ht; injection ht with ht; injection ht with e1 e2; injection e2 with e2 e3; subst e1 e2 e3
    trivial
  | x :: xs, v :: vs, c, ys, ms, hx, ht, hc => by
    cases hx with
    | cons hx hxs =>
    simp only [tocvs] at ht
    split at ht
    · rename_i c1 y1 m1 c2 y2 m2 h1 h2
      injection ht with ht; injection ht with e1 e2; injection e2 with e2 e3; subst e1 e2 e3
      exact ⟨(tocv_sound R hx h1 hc.1).mono (Grows.of_sub (DD_frz _ _ H (by simp +contextual))), (tocvs_sound R hxs h2 hc.2).mono (Grows.of_sub (DD_frz _ _ H (by simp +contextual)))⟩
    · cases ht
  | [], _ :: _, _, _, _, hx, _, _ => by cases hx
  | _ :: _, [], _, _, _, hx, _, _ => by cases hx
def nrows (H : Hp) : List AV → Option (Prop × List (List IV) × List Nat)
  | [] => some (True, [], [])
  | x :: xs => match x with
    | .hs k s => match H k with
      | .blk _ s' _ _ r => match nrows H xs with
        | some (c, rs, ms) => some (s = s' ∧ c, [.sl r] :: rs, k :: ms)
        | none => none
      | _ => none
    | _ => none
def tocvN (H : Hp) (x : AV) : Option (Prop × CV × List Nat) :=
  match x with
  | .nils => some (True, .val (.slice none 0 0), [])
  | .hs h st => match H h with
    | .nst st' _ rows => match nrows H rows with
      | some (c, rs, ms) => some (st = st' ∧ c, .iv (.sl rs), h :: ms)
      | none => none
    | _ => tocv H (.hs h st)
  | .hv h st off len => match H h with
    | .nst st' _ rows => match nrows H ((rows.drop off).take len) with
      | some (c, rs, ms) => some (st = st' ∧ off + len ≤ rows.length ∧ c, .iv (.sl rs), h :: ms)
      | none => none
    | _ => tocv H (.hv h st off len)
  | x => tocv H x
def tocvsN (H : Hp) : List AV → Option (Prop × List CV × List Nat)
  | [] => some (True, [], [])
  | x :: xs => match tocvN H x, tocvsN H xs with
    | some (c, v, ms), some (c', vs, ms') => some (c ∧ c', v :: vs, ms ++ ms')
    | _, _ => none
theorem nrows_sound (R : Rel G M w0 D0 N f H β a w) : ∀ {xs : List AV} {vs : List Value} {c : Prop} {rs : List (List IV)} {ms : List Nat}, AVReps w (DD H β D0) H β xs vs → nrows H xs = some (c, rs, ms) → c →
    rs.length = xs.length ∧ ∀ (i : Nat) (r : List IV), rs[i]? = some r → ∃ rr k v, r = [IV.sl rr] ∧ k ∈ ms ∧ vs[i]? = some v ∧ Rep w (DD (frzAll [k] H) β D0) (.sl rr) v
  | [], [], c, rs, ms, _, ht, _ => by
    simp only [nrows] at ht; injection ht with ht; injection ht with e1 e2; injection e2 with e2 e3; subst e1 e2 e3
    exact ⟨rfl, fun i r h => by simp at h⟩
  | x :: xs, v :: vs, c, rs, ms, hx, ht, hc => by
    simp only [AVReps] at hx
    simp only [nrows] at ht
    split at ht
    · rename_i k s
      split at ht
      · rename_i fz s' e sz rr hK
        split at ht
        · rename_i c' rs' ms' hn
          injection ht with ht; injection ht with e1 e2; injection e2 with e2 e3; subst e1 e2 e3
          obtain ⟨hl, hi⟩ := nrows_sound R hx.2 hn hc.2
          refine ⟨by simp [hl], fun i r hr => ?_⟩
          cases i with
          | zero =>
            simp only [List.getElem?_cons_zero, Option.some.injEq] at hr
            have h1 := hx.1
            simp only [AVRep] at h1
            have hv := h1.2 (by rw [hK]; exact hc.1)
            refine ⟨rr, k, v, hr.symm, by simp, rfl, ?_⟩
            rw [hv]
            exact (R.slice hK).2.1
          | succ i =>
            obtain ⟨rr', k', v', q1, q2, q3, q4⟩ := hi i r (by simpa using hr)
            exact ⟨rr', k', v', q1, by simp [q2], by simpa using q3, q4⟩
        · cases ht
      · cases ht
    · cases ht
  | [], _ :: _, _, _, _, hx, _, _ => by simp [AVReps] at hx
  | _ :: _, [], _, _, _, hx, _, _ => by simp [AVReps] at hx
theorem AVReps.drop {D : Nat → Prop} (n : Nat) : ∀ {xs : List AV} {vs : List Value}, AVReps w D H β xs vs → AVReps w D H β (xs.drop n) (vs.drop n) := by
  induction n with
  | zero => intro xs vs h; simpa using h
  | succ n ih =>
    intro xs vs h
    match xs, vs, h with
    | [], [], _ => simp [AVReps]
    | x :: xs, v :: vs, h => simp only [AVReps] at h; simpa using ih h.2
theorem AVReps.take {D : Nat → Prop} (n : Nat) : ∀ {xs : List AV} {vs : List Value}, AVReps w D H β xs vs → AVReps w D H β (xs.take n) (vs.take n) := by
  induction n with
  | zero => intro xs vs _; simp [AVReps]
  | succ n ih =>
    intro xs vs h
    match xs, vs, h with
    | [], [], _ => simp [AVReps]
    | x :: xs, v :: vs, h => simp only [AVReps, List.take_succ_cons] at h ⊢; exact ⟨h.1, ih h.2⟩
theorem nest_rep (R : Rel G M w0 D0 N f H β a w) {h st e : Nat} {rows : List AV} (hH : H h = .nst st e rows) {off len : Nat} (hol : off + len ≤ rows.length) {c : Prop} {rs : List (List IV)} {ms : List Nat} (hn : nrows H ((rows.drop off).take len) = some (c, rs, ms)) (hc : c) (h0 : 0 < len)
    {g n cap cap' : Nat} (hb : β h = .slice (some ⟨g, 0, none⟩) n cap) (hcap : len ≤ cap') (hm : cap' ≤ maxLen) : Rep w (DD (frzAll (h :: ms) H) β D0) (.sl rs) (.slice (some ⟨g, off, none⟩) len cap') := by
  rcases R.nst h _ _ _ hH with ⟨rfl, _⟩ | ⟨g', cp, cur, hv, hB, hg, h1, h2, h3, h4, h5⟩
  · simp at hol; omega
  rw [hv] at hb; injection hb with e1 e2 e3; injection e1 with e1; injection e1 with e1 e4; subst e1
  obtain ⟨hl, hi⟩ := nrows_sound R ((h4.drop off).take len) hn hc
  have hlen : rs.length = len := by rw [hl, List.length_take, List.length_drop]; omega
  rw [← hlen]
  refine .sl rs g' off cap' 1 (fun i _ => (cur.toList.drop off).getD i default) (fun i r hr => ?_) (by omega) hm (Array.getElem?_eq_some_iff.1 hg).1 ?_ ?_ ?_
  · obtain ⟨rr, k, v, q1, _⟩ := hi i r hr
    rw [q1]; rfl
  · rintro (hb | ⟨k, hm', hk⟩)
    · have q1 := R.old _ hb
      rcases hB with q2 | q2
      · omega
      · exact q1.2 q2
    · have q := (frz_mut_iff (h :: ms) H k).1 hm'
      have hne : k ≠ h := fun e => q.1 (by simp [e])
      exact R.dis h k (Ne.symm hne) (by rw [hH]; trivial) q.2 g' (by rw [hv]; rfl) hk
  · intro i r hr j x hj
    obtain ⟨rr, k, v, q1, q2, q3, q4⟩ := hi i r hr
    subst q1
    match j, hj with
    | 0, _ =>
      have hil : i < len := by rw [← hlen]; exact (List.getElem?_eq_some_iff.1 hr).1
      rw [cell_of_row w g' _ cur e (0, 0) hg]
      simp only [List.getD, List.getElem?_drop, Nat.mul_one, Nat.add_zero, Array.getElem?_toList]
      have : off + i < cur.size := by omega
      simp [this]
    | j + 1, hj => simp at hj
  · intro i r hr j x hj
    obtain ⟨rr, k, v, q1, q2, q3, q4⟩ := hi i r hr
    subst q1
    match j, hj with
    | 0, hj =>
      simp only [List.getElem?_cons_zero, Option.some.injEq] at hj
      subst hj
      have hil : i < len := by rw [← hlen]; exact (List.getElem?_eq_some_iff.1 hr).1
      have hv2 : (cur.toList.drop off).getD i default = v := by
        rw [List.getElem?_take_of_lt hil, List.getElem?_drop, List.getElem?_take_of_lt (by omega)] at q3
        simp only [List.getD, List.getElem?_drop, q3, Option.getD_some]
      rw [hv2]
      exact q4.mono (Grows.of_sub (DD_frz _ _ H (by intro q hq; simp only [List.mem_singleton] at hq; subst hq; simp [q2])))
    | j + 1, hj => simp at hj
theorem nrows_nil {xs : List AV} {c : Prop} {rs : List (List IV)} {ms : List Nat} (h : nrows H xs = some (c, rs, ms)) (h0 : xs.length = 0) : rs = [] := by
  have e := List.eq_nil_of_length_eq_zero h0
  subst e
  simp only [nrows] at h; injection h with h; injection h with e1 e2; injection e2 with e2 e3; exact e2.symm
theorem tocvN_sound (R : Rel G M w0 D0 N f H β a w) {x : AV} {v : Value} (hx : AVRep w (DD H β D0) H β x v) {c : Prop} {y : CV} {ms : List Nat} (ht : tocvN H x = some (c, y, ms)) (hc : c) :
    CVRep w (DD (frzAll ms H) β D0) y v := by
  unfold tocvN at ht
  split at ht
  · injection ht with ht; injection ht with e1 e2; injection e2 with e2 e3; subst e1 e2 e3
    simpa only [CVRep, AVRep] using hx
  · rename_i h st
    split at ht
    · rename_i st' e rows hH
      split at ht
      · rename_i c' rs ms' hn
        injection ht with ht; injection ht with e1 e2; injection e2 with e2 e3; subst e1 e2 e3
        obtain ⟨hst, hc'⟩ := hc
        simp only [AVRep] at hx
        have hv := hx.2 (by rw [hH]; exact hst)
        subst hv
        simp only [CVRep]
        rcases R.nst h _ _ _ hH with ⟨rfl, hv⟩ | ⟨g, cap, cur, hv, hB, hg, h1, h2, h3, h4, h5⟩
        · rw [hv, nrows_nil hn rfl]
          exact .nil _ _ (Nat.zero_le _)
        · by_cases h0 : rows.length = 0
          · rw [hv, nrows_nil hn h0, h0]
            exact .nil _ _ h2
          · have hn' : nrows H ((rows.drop 0).take rows.length) = some (c', rs, ms') := by rw [List.drop_zero, List.take_of_length_le (Nat.le_refl _)]; exact hn
            have := nest_rep R hH (off := 0) (len := rows.length) (by omega) hn' hc' (by omega) hv h1 h2
            rw [hv]
            exact this
      · cases ht
    · exact tocv_sound R hx ht hc
  · rename_i h st off len
    split at ht
    · rename_i st' e rows hH
      split at ht
      · rename_i c' rs ms' hn
        injection ht with ht; injection ht with e1 e2; injection e2 with e2 e3; subst e1 e2 e3
        obtain ⟨hst, hol, hc'⟩ := hc
        simp only [AVRep] at hx
        simp only [CVRep]
        rcases hx.2 (by rw [hH]; exact hst) with ⟨rfl, ad, cap, hv, hcm, _⟩ | ⟨g, n, cap, cap', hb, hv, q1, q2, _⟩
        · rw [hv, nrows_nil hn (by simp)]
          exact .nil _ _ hcm
        · by_cases h0 : len = 0
          · subst h0
            rw [hv, nrows_nil hn (by simp)]
            exact .nil _ _ q2
          · rw [hv, hH]
            simp only [HC.esz, Nat.mul_one]
            exact nest_rep R hH hol hn hc' (by omega) hb q1 q2
      · cases ht
    · exact tocv_sound R hx ht hc
  · exact tocv_sound R hx ht hc
theorem tocvsN_sound (R : Rel G M w0 D0 N f H β a w) : ∀ {xs : List AV} {vs : List Value} {c : Prop} {ys : List CV} {ms : List Nat}, AVAll w (DD H β D0) H β xs vs → tocvsN H xs = some (c, ys, ms) → c → CVReps w (DD (frzAll ms H) β D0) ys vs
  | [], [], c, ys, ms, _, ht, hc => by
    simp only [tocvsN] at ht; injection ht with ht; injection ht with e1 e2; injection e2 with e2 e3; subst e1 e2 e3
    trivial
  | x :: xs, v :: vs, c, ys, ms, hx, ht, hc => by
    cases hx with
    | cons hx hxs =>
    simp only [tocvsN] at ht
    split at ht
    · rename_i c1 y1 m1 c2 y2 m2 h1 h2
      injection ht with ht; injection ht with e1 e2; injection e2 with e2 e3; subst e1 e2 e3
      exact ⟨(tocvN_sound R hx h1 hc.1).mono (Grows.of_sub (DD_frz _ _ H (by simp +contextual))), (tocvsN_sound R hxs h2 hc.2).mono (Grows.of_sub (DD_frz _ _ H (by simp +contextual)))⟩
    · cases ht
  | [], _ :: _, _, _, _, hx, _, _ => by cases hx
  | _ :: _, [], _, _, _, hx, _, _ => by cases hx
def FlatI : IV → Prop
  | .sl rows => rows = []
  | _ => True
def FlatCV : CV → Prop
  | .iv x => FlatI x
  | .agg cs => ∀ x ∈ cs, FlatI x
  | .val _ => True
  | .box _ => False
  | .fn _ caps => caps = []
  | .any => True
def FlatRes (own : OwnRes) (res : List CV) : Prop :=
  match own with
  | none => ∀ c ∈ res, FlatCV c
  | some (i, _, _, rows) => (∀ r ∈ rows, ∀ x ∈ r, FlatI x) ∧ ∀ (j : Nat) c, j ≠ i → res[j]? = some c → FlatCV c
theorem Rep.flat {D D' : Nat → Prop} {w' : World} {x : IV} {v : Value} (h : Rep w D x v) (hf : FlatI x) : Rep w' D' x v := by
  cases h with
  | int k n => exact .int k n
  | bool b => exact .bool b
  | raw v hv => exact .raw v hv
  | nil a cap hcap => exact .nil a cap hcap
  | sl rows g o cap sz cell hsz hl hcap hg hD hc hr =>
    simp only [FlatI] at hf; subst hf
    exact .nil _ _ hcap
theorem Reps.flat {D D' : Nat → Prop} {w' : World} : ∀ {xs : List IV} {vs : List Value}, Reps w D xs vs → (∀ x ∈ xs, FlatI x) → Reps w' D' xs vs
  | [], [], _, _ => trivial
  | _ :: _, _ :: _, h, hf => ⟨h.1.flat (hf _ (by simp)), Reps.flat h.2 fun x hx => hf x (by simp [hx])⟩
  | [], _ :: _, h, _ => h.elim
  | _ :: _, [], h, _ => h.elim
theorem CVRep.flat {D D' : Nat → Prop} {w' : World} {c : CV} {v : Value} (h : CVRep w D c v) (hf : FlatCV c) : CVRep w' D' c v := by
  cases c with
  | iv x => exact Rep.flat h hf
  | agg cs => obtain ⟨a, rfl, hr⟩ := h; exact ⟨a, rfl, hr.flat hf⟩
  | val u => exact h
  | box cells => exact hf.elim
  | fn k caps =>
    simp only [FlatCV] at hf; subst hf
    obtain ⟨a, rfl, hr⟩ := h
    refine ⟨a, rfl, ?_⟩
    match a.toList, hr with
    | [], _ => trivial
  | any => trivial
def rAV (H : Hp) (d : Nat) (own : OwnRes) (j : Nat) : List CV → List AV
  | [] => []
  | c :: cs => (match own with | some (i, _) => if i = j then .hs d ((H d).stamp + 1) else c.av | none => c.av) :: rAV H d own (j + 1) cs
def packA : List AV → AV
  | [] => .undef
  | [x] => x
  | l => .tup l
def ownH (H : Hp) (d : Nat) : OwnRes → List (Nat × HC)
  | none => []
  | some (_, e, sz, rows) => [(d, .blk false ((H d).stamp + 1) e sz rows)]
theorem packV_rep {D : Nat → Prop} : ∀ (l : List AV) (us : List Value), AVReps w D H β l us → AVRep w D H β (packA l) (packV us)
  | [], [], _ => by simp only [packA, packV, AVRep]; rfl
  | [x], [v], h => by simp only [AVReps] at h; exact h.1
  | x :: y :: l, v :: u :: us, h => by
    simp only [packA, packV, AVRep]
    exact ⟨_, rfl, h⟩
  | [], _ :: _, h => by simp [AVReps] at h
  | _ :: _, [], h => by simp [AVReps] at h
  | [_], _ :: _ :: _, h => by simp [AVReps] at h
  | _ :: _ :: _, [_], h => by simp [AVReps] at h
theorem rAV_rep {D : Nat → Prop} {d : Nat} {H0 : Hp} {own : OwnRes} : ∀ (res : List CV) (us : List Value) (j : Nat), us.length = res.length →
    (∀ (k : Nat) c v, (∀ i e sz rows, own = some (i, e, sz, rows) → j + k ≠ i) → res[k]? = some c → us[k]? = some v → CVRep w D c v) →
    (∀ (k : Nat) v i e sz rows, own = some (i, e, sz, rows) → j + k = i → us[k]? = some v → AVRep w D H β (.hs d ((H0 d).stamp + 1)) v) → AVReps w D H β (rAV H0 d own j res) us
  | [], [], _, _, _, _ => by simp only [rAV, AVReps]
  | c :: cs, v :: vs, j, hl, h1, h2 => by
    simp only [rAV, AVReps]
    refine ⟨?_, rAV_rep cs vs (j + 1) (by simpa using hl) (fun k c' v' hk hc hv => h1 (k + 1) c' v' (fun i e sz rows ho => by have := hk i e sz rows ho; omega) (by simpa using hc) (by simpa using hv)) (fun k v' i e sz rows ho hk hv => h2 (k + 1) v' i e sz rows ho (by omega) (by simpa using hv))⟩
    cases own with
    | none => exact (h1 0 c v (by simp) rfl rfl).av
    | some p =>
      obtain ⟨i, e, sz, rows⟩ := p
      simp only
      split
      · rename_i hij; exact h2 0 v i e sz rows rfl (by omega) rfl
      · rename_i hij; exact (h1 0 c v (by rintro i' e' sz' rows' ⟨⟩; omega) rfl rfl).av
  | [], _ :: _, _, hl, _, _ => by simp at hl
  | _ :: _, [], _, hl, _, _ => by simp at hl
theorem Rel.below (R : Rel G M w0 D0 N f H β a w) {w' : World} (hb : Below w.heap.size w w') : Rel G M w0 D0 N f H β a w' := by
  have g : Grows w (DD H β D0) w' (DD H β D0) := ⟨hb.size, fun _ _ h => h, fun b h _ _ => hb.block b h⟩
  have := R.step (w' := w') (H' := H) (β' := β) (dst := none) (v := .dead) (val := Go.undef) hb.os hb.tape hb.output g (fun k h1 _ => hb.block k (Nat.lt_of_lt_of_le h1 R.size)) (fun k _ h => by rw [hb.block k (Array.getElem?_eq_some_iff.1 h).1]; exact h) (HStep.refl _ _) (by simp [AVRep])
    (fun h st e sz rows hh => (R.own h st e sz rows hh).mono g fun k hk => hb.block k ((R.own h st e sz rows hh).lt hk).1)
    (fun h st e sz rows hh => ⟨(R.frz h st e sz rows hh).1, (R.frz h st e sz rows hh).2.1.mono g, (R.frz h st e sz rows hh).2.2⟩) R.dis
    (fun h st e rows hh => (R.nst h st e rows hh).mono g (HStep.refl _ _) fun k hk => hb.block k ((R.nst h st e rows hh).lt hk).1) (by simp)
  exact this
theorem call_next (R : Rel G M w0 D0 N f H β a w) {own : OwnRes} {res : List CV} {us : List Value} {w' : World} (hb : Below w.heap.size w w') (hr : ResOk w w' (DD H β D0) own res us) {d : Nat} (hd : d < N) :
    ∃ β', Rel G M w0 D0 N (upd f d (packA (rAV H d own 0 res))) (applyH (ownH H d own) H) β' (a.put (some d) (packV us)) w' := by
  cases own with
  | none =>
    have R1 := R.below hb
    refine ⟨β, R1.value (dst := some d) (packV_rep _ _ (rAV_rep res us 0 hr.len (fun k c v _ hc hv => (hr.val k c v (by simp) hc hv).mono (Grows.of_sub fun b hb => .inl hb)) (by simp))) (by rintro _ ⟨⟩; exact hd)⟩
  | some p =>
    obtain ⟨i, e, sz, rows⟩ := p
    obtain ⟨v, hv, hi, hown⟩ := hr.own i e sz rows rfl
    have hX : ∀ b, (DD H β D0 b ∨ ownHead (some (i, e, sz, rows)) us b) ↔ (DD H β D0 b ∨ headOf v = some b) := by
      intro b
      simp only [ownHead, hv, Option.some.injEq, exists_eq_left']
    have hown' : Own w' (fun b => DD H β D0 b ∨ headOf v = some b) w.heap.size (fun _ => False) v e sz rows := hown.mono (Grows.of_sub fun b hb => (hX b).2 hb) fun _ _ => rfl
    obtain ⟨β', hβ, hβo, R'⟩ := R.fresh (w' := w') (h := d) (v := v) (dst := none) (x := .dead) (val := Go.undef) (st := (H d).stamp + 1) (by omega) hb.os hb.tape hb.output hb.size (fun k hk => hb.block k hk) hown' (fun _ _ _ => by simp [AVRep]) (by simp)
    refine ⟨β', R'.value (dst := some d) (packV_rep _ _ (rAV_rep res us 0 hr.len (fun k c u hk hc hu => ?_) (fun k u i' e' sz' rows' ho hk hu => ?_))) (by rintro _ ⟨⟩; exact hd)⟩
    · refine (hr.val k c u (fun i e sz rows ho => by have := hk i e sz rows ho; omega) hc hu).mono (Grows.of_sub fun b hb => ?_)
      rw [hX]
      rcases hb with hb | ⟨k, hm, hk⟩
      · exact .inl (.inl hb)
      · by_cases hkd : k = d
        · subst hkd; rw [hβ] at hk; exact .inr hk
        · rw [updH_ne _ _ hkd] at hm
          rw [hβo k hkd] at hk
          exact .inl (.inr ⟨k, hm, hk⟩)
    · injection ho with ho; injection ho with e1 _
      rw [Nat.zero_add] at hk
      subst hk; subst e1
      rw [hv] at hu; injection hu with hu; subst hu
      simp only [AVRep, updH_same, HC.stamp]
      exact ⟨Nat.le_refl _, fun _ => hβ.symm⟩
end
end Go.AL

namespace Go.AL
open Go.RowKit
set_option linter.unusedSimpArgs false
set_option linter.unusedVariables false
abbrev Log := List (List Nat × List Nat)
def ACallR (P : Program) (g : Nat) (avs : List AV) (d : Nat) (K : Fr → Hp → Log → Prop) (f : Fr) (H : Hp) (lg : Log) : Prop :=
  ∃ (c : Prop) (args : List CV) (ms : List Nat) (own : OwnRes) (res : List CV) (fz : Bool), (tocvs H avs = some (c, args, ms) ∨ tocvsN H avs = some (c, args, ms)) ∧ c ∧ AC P g args own res ∧ (fz = false → ms = [] ∨ FlatRes own res) ∧
    (let H' := if fz then frzAll ms H else H
     K (upd f d (packA (rAV H' d own 0 res))) (applyH (ownH H' d own) H') ((ms ++ (ownH H' d own).map (·.1), (if fz then ms else []) ++ (ownH H' d own).map (·.1)) :: lg))
def ACallW (P : Program) (g : Nat) (avs : List AV) (d : Nat) (K : Fr → Hp → Log → Prop) (f : Fr) (H : Hp) (lg : Log) : Prop :=
  ∃ (c : Prop) (args : List CV) (ms : List Nat) (i h st e sz : Nat) (rows rows' : List (List IV)) (res : List CV), avs[i]? = some (.hs h st) ∧ H h = .blk false st e sz rows ∧ tocvs H (avs.set i .dead) = some (c, args, ms) ∧ c ∧ h ∉ ms ∧
    ACW P g args i e sz rows rows' res ∧
    K (upd f d (packA (res.map CV.av))) (updH (frzAll ms H) h (.blk false st e sz rows')) ((h :: ms, ms ++ [h]) :: lg)
def ACallT (P : Program) (g : Nat) (avs : List AV) (d : Nat) (K : Fr → Hp → Log → Prop) (f : Fr) (H : Hp) (lg : Log) : Prop :=
  ∃ (c : Prop) (args : List CV) (ms : List Nat) (i h st e sz : Nat) (rows rows' : List (List IV)), avs[i]? = some (.hs h st) ∧ H h = .blk false st e sz rows ∧ tocvs H (avs.set i .dead) = some (c, args, ms) ∧ c ∧ h ∉ ms ∧
    ACT P g args i e sz rows rows' ∧
    K (upd f d (.hs h (st + 1))) (updH (frzAll ms H) h (.blk false (st + 1) e sz rows')) ((h :: ms, ms ++ [h]) :: lg)
def ACallK (P : Program) (g : Nat) (avs : List AV) (d : Nat) (K : Fr → Hp → Log → Prop) (f : Fr) (H : Hp) (lg : Log) : Prop :=
  ACallR P g avs d K f H lg ∨ ACallW P g avs d K f H lg ∨ ACallT P g avs d K f H lg
def ACallV (P : Program) (v : AV) (avs : List AV) (d : Nat) (K : Fr → Hp → Log → Prop) (f : Fr) (H : Hp) (lg : Log) : Prop :=
  match v with
  | .fn g l => ACallK P g (avs ++ l) d K f H lg
  | _ => False
def ARun (P : Program) (o : Oper) (K : Fr → Hp → Log → Prop) (f : Fr) (H : Hp) (lg : Log) : Prop :=
  match o.op, o.dst with
  | .call ⟨.value x, args, _⟩, some d => ACallV P (ev f x) (args.toList.map (ev f)) d K f H lg
  | op, d => match astep P op d f H with
    | some r => r.c ∧ K (updo f d r.v) (applyH r.hs (frzAll r.fz H)) ((r.rd ++ r.fz ++ r.hs.map (·.1), r.fz ++ r.hs.map (·.1)) :: lg)
    | none => False
def AOps (P : Program) (ds : List (Option Nat)) : List Oper → (Fr → Hp → Log → Prop) → Fr → Hp → Log → Prop
  | [], K, f, H, lg => K f H lg
  | o :: rest, K, f, H, lg =>
    match o.guard with
    | none => ARun P o (AOps P ds rest K) f H lg
    | some (j, want) => match (ds.getD j none).map f with
      | some (.iv (.bool b)) => if b = want then ARun P o (AOps P ds rest K) f H lg else AOps P ds rest K (updo f o.dst .undef) H (([], []) :: lg)
      | some .undef => AOps P ds rest K (updo f o.dst .undef) H (([], []) :: lg)
      | _ => False
structure Up where
  v : AV
  fz : List Nat
  hs : List (Nat × HC)
def Up.f (u : Up) (d : Option Nat) (f : Fr) : Fr := updo f d u.v
def Up.h (u : Up) (H : Hp) : Hp := applyH u.hs (frzAll u.fz H)
def Sim (P : Program) (o : Oper) (f : Fr) (H : Hp) (rd : List Nat) (u : Up) : Prop :=
  ∀ (f2 : Fr) (H2 : Hp), (∀ x ∈ o.op.operands, ev f2 x = ev f x) → (∀ h ∈ rd, H2 h = H h) →
    ∀ (G : Gh) (M : Nat → Prop) (w0 : World) (D0 : Nat → Prop) (N : Nat) (β : Nat → Value) (a : Act) (w : World), (∀ d, o.dst = some d → d < N) → Rel G M w0 D0 N f2 H2 β a w →
      ∀ (K : Act → World → Prop) (Q : Exit → Act → World → Prop), (∀ a' w' β', Rel G M w0 D0 N (u.f o.dst f2) (u.h H2) β' a' w' → K a' w') → ∀ ro, o.wpIn (Wd ro) 0 P a w K Q
section
variable {P : Program} {f f2 : Fr} {H H2 : Hp}
theorem tcells_local {x : AV} {r : Prop × List IV × List Nat} (h : tcells H x = some r) (hH : ∀ k ∈ r.2.2, H2 k = H k) : tcells H2 x = some r := by
  unfold tcells at h ⊢
  split at h
  · exact h
  · exact h
  · exact h
  · rename_i k st
    cases hk : H k <;> rw [hk] at h <;> simp only [Option.some.injEq, reduceCtorEq] at h
    subst h
    simp only [hH k (by simp), hk]
  · rename_i k st off len
    cases hk : H k <;> rw [hk] at h <;> simp only [Option.some.injEq, reduceCtorEq] at h
    subst h
    simp only [hH k (by simp), hk]
  · cases h
theorem tparts_local : ∀ {xs : List AV} {r : Prop × List (List IV) × List Nat}, tparts H xs = some r → (∀ k ∈ r.2.2, H2 k = H k) → tparts H2 xs = some r
  | [], r, h, _ => h
  | x :: xs, r, h, hH => by
    simp only [tparts] at h ⊢
    split at h
    · rename_i c cs fz c' css fz' h1 h2
      injection h with h; subst h
      rw [tcells_local h1 fun k hk => hH k (by simp [hk]), tparts_local h2 fun k hk => hH k (by simp [hk])]
    · cases h
theorem srcRows_local {x : AV} {r : Prop × List (List IV) × List Nat} (h : srcRows H x = some r) (hH : ∀ k ∈ r.2.2, H2 k = H k) : srcRows H2 x = some r := by
  unfold srcRows at h ⊢
  split at h
  · exact h
  · exact h
  · rename_i k st
    cases hk : H k <;> rw [hk] at h <;> simp only [Option.some.injEq, reduceCtorEq] at h
    subst h
    simp only [hH k (by simp), hk]
  · rename_i k st off len
    cases hk : H k <;> rw [hk] at h <;> simp only [Option.some.injEq, reduceCtorEq] at h
    subst h
    simp only [hH k (by simp), hk]
  · cases h
theorem tobox_local {x : AV} {r : Prop × List IV × List Nat} (h : tobox H x = some r) (hH : ∀ k ∈ r.2.2, H2 k = H k) : tobox H2 x = some r := by
  unfold tobox at h ⊢
  split at h
  · exact h
  · rename_i k st i off
    cases hk : H k <;> rw [hk] at h <;> simp only [Option.some.injEq, reduceCtorEq] at h
    subst h
    simp only [hH k (by simp), hk]
  · cases h
theorem toboxes_local : ∀ {xs : List AV} {r : Prop × List (List IV) × List Nat}, toboxes H xs = some r → (∀ k ∈ r.2.2, H2 k = H k) → toboxes H2 xs = some r
  | [], r, h, _ => h
  | x :: xs, r, h, hH => by
    simp only [toboxes] at h ⊢
    split at h
    · rename_i c cs fz c' css fz' h1 h2
      injection h with h; subst h
      rw [tobox_local h1 fun k hk => hH k (by simp [hk]), toboxes_local h2 fun k hk => hH k (by simp [hk])]
    · cases h
theorem tocv_local {x : AV} {r : Prop × CV × List Nat} (h : tocv H x = some r) (hH : ∀ k ∈ r.2.2, H2 k = H k) : tocv H2 x = some r := by
  unfold tocv at h ⊢
  split at h
  · exact h
  · exact h
  · split at h
    · rename_i hb
      injection h with h; subst h
      rw [tobox_local hb fun k hk => hH k hk]
    · cases h
  · split at h
    · rename_i hb
      injection h with h; subst h
      rw [toboxes_local hb fun k hk => hH k hk]
    · cases h
  · exact h
  · exact h
  · exact h
  · rename_i k st
    cases hk : H k <;> rw [hk] at h <;> simp only [Option.some.injEq, reduceCtorEq] at h
    subst h
    simp only [hH k (by simp), hk]
  · rename_i k st off len
    cases hk : H k <;> rw [hk] at h <;> simp only [Option.some.injEq, reduceCtorEq] at h
    subst h
    simp only [hH k (by simp), hk]
  · cases h
theorem tocvs_local : ∀ {xs : List AV} {r : Prop × List CV × List Nat}, tocvs H xs = some r → (∀ k ∈ r.2.2, H2 k = H k) → tocvs H2 xs = some r
  | [], r, h, _ => h
  | x :: xs, r, h, hH => by
    simp only [tocvs] at h ⊢
    split at h
    · rename_i c cs fz c' css fz' h1 h2
      injection h with h; subst h
      rw [tocv_local h1 fun k hk => hH k (by simp [hk]), tocvs_local h2 fun k hk => hH k (by simp [hk])]
    · cases h
theorem nrows_local : ∀ {xs : List AV} {r : Prop × List (List IV) × List Nat}, nrows H xs = some r → (∀ k ∈ r.2.2, H2 k = H k) → nrows H2 xs = some r
  | [], r, h, _ => h
  | x :: xs, r, h, hH => by
    simp only [nrows] at h ⊢
    split at h
    · rename_i k s
      split at h
      · rename_i fz s' e sz rr hk
        split at h
        · rename_i c rs ms hn
          injection h with h; subst h
          simp only [hH k (by simp), hk, nrows_local hn fun q hq => hH q (by simp [hq])]
        · cases h
      · cases h
    · cases h
theorem tocv_mem {h : Nat} {x : AV} {r : Prop × CV × List Nat} (hr : tocv H x = some r) (hx : (∃ st, x = .hs h st) ∨ ∃ st off len, x = .hv h st off len) : h ∈ r.2.2 := by
  rcases hx with ⟨st, rfl⟩ | ⟨st, off, len, rfl⟩
  · simp only [tocv] at hr
    split at hr
    · injection hr with hr; subst hr; simp
    · cases hr
  · simp only [tocv] at hr
    split at hr
    · injection hr with hr; subst hr; simp
    · cases hr
theorem tocvN_local {x : AV} {r : Prop × CV × List Nat} (h : tocvN H x = some r) (hH : ∀ k ∈ r.2.2, H2 k = H k) : tocvN H2 x = some r := by
  unfold tocvN at h ⊢
  split at h
  · exact h
  · rename_i k st
    split at h
    · rename_i st' e rows hk
      split at h
      · rename_i c rs ms hn
        injection h with h; subst h
        simp only [hH k (by simp), hk, nrows_local hn fun q hq => hH q (by simp [hq])]
      · cases h
    · rename_i hne
      have hkk : H2 k = H k := hH k (tocv_mem h (.inl ⟨_, rfl⟩))
      have hold := tocv_local h hH
      simp only [hkk]
      exact hold
  · rename_i k st off len
    split at h
    · rename_i st' e rows hk
      split at h
      · rename_i c rs ms hn
        injection h with h; subst h
        simp only [hH k (by simp), hk, nrows_local hn fun q hq => hH q (by simp [hq])]
      · cases h
    · rename_i hne
      have hkk : H2 k = H k := hH k (tocv_mem h (.inr ⟨_, _, _, rfl⟩))
      have hold := tocv_local h hH
      simp only [hkk]
      exact hold
  · exact tocv_local h hH
theorem tocvsN_local : ∀ {xs : List AV} {r : Prop × List CV × List Nat}, tocvsN H xs = some r → (∀ k ∈ r.2.2, H2 k = H k) → tocvsN H2 xs = some r
  | [], r, h, _ => h
  | x :: xs, r, h, hH => by
    simp only [tocvsN] at h ⊢
    split at h
    · rename_i c cs fz c' css fz' h1 h2
      injection h with h; subst h
      rw [tocvN_local h1 fun k hk => hH k (by simp [hk]), tocvsN_local h2 fun k hk => hH k (by simp [hk])]
    · cases h
def Agree (r : AR) (H H2 : Hp) : Prop := ∀ k, k ∈ r.rd ∨ k ∈ r.fz ∨ k ∈ r.hs.map (·.1) → H2 k = H k
theorem aLoad_local {T : TI} {x : AV} {r : AR} (h : aLoad T H x = some r) (hH : Agree r H H2) : aLoad T H2 x = some r := by
  unfold aLoad at h ⊢
  split at h
  · exact h
  · rename_i k st i off
    cases hk : H k <;> rw [hk] at h <;> simp only [reduceCtorEq] at h
    · have hr : r.rd = [k] := by
        split at h <;> (injection h with h; subst h; rfl)
      simp only [hH k (.inl (by simp [hr])), hk]
      exact h
    · have hr : r.rd = [k] := by injection h with h; subst h; rfl
      simp only [hH k (.inl (by simp [hr])), hk]
      exact h
  · cases h
theorem aStore_local {T : TI} {x y : AV} {r : AR} (h : aStore T H x y = some r) (hH : Agree r H H2) : aStore T H2 x y = some r := by
  unfold aStore at h ⊢
  split at h
  · rename_i k st i off c cells fz ht
    cases hk : H k with
    | none => rw [hk] at h; cases h
    | nst => rw [hk] at h; cases h
    | gone => rw [hk] at h; cases h
    | blk fz' st' e sz rows =>
      rw [hk] at h
      cases fz' with
      | true => cases h
      | false =>
        simp only [Option.some.injEq] at h
        subst h
        rw [tcells_local ht fun k' hk' => hH k' (.inr (.inl hk'))]
        simp only [hH k (.inl (by simp)), hk]
  · cases h
theorem aStoreN_local {T : TI} {x y : AV} {r : AR} (h : aStoreN T H x y = some r) (hH : Agree r H H2) : aStoreN T H2 x y = some r := by
  unfold aStoreN at h ⊢
  split at h
  · rename_i k st i off
    split at h
    · rename_i st' e rows hk
      split at h
      · rename_i k2 s
        split at h
        · rename_i hk2
          injection h with h; subst h
          simp only [hH k (.inl (by simp)), hk, hH k2 (.inl (by simp)), hk2]
        · cases h
      · cases h
    · rename_i hne
      have hold := aStore_local h hH
      have hkk : H2 k = H k := by
        unfold aStore at h
        split at h
        · rename_i heq _
          injection heq with e1 e2 e3 e4
          subst e1 e2 e3 e4
          split at h
          · injection h with h; subst h; exact hH k (.inl (by simp))
          · cases h
        · cases h
      rw [hkk]
      split
      · rename_i st' e rows hk; exact (hne st' e rows hk).elim
      · exact hold
  · exact aStore_local h hH
theorem aAlloc_local {T : TI} {e d : Nat} {r : AR} (h : aAlloc T H e d = some r) (hH : Agree r H H2) : aAlloc T H2 e d = some r := by
  unfold aAlloc newBox at h ⊢
  simp only [Option.some.injEq] at h
  subst h
  rw [hH d (.inr (.inr (by simp)))]
theorem aBox_local {T : TI} {e d : Nat} {x : AV} {r : AR} (h : aBox T H e d x = some r) (hH : Agree r H H2) : aBox T H2 e d x = some r := by
  unfold aBox newBox at h ⊢
  split at h
  · rename_i c cells fz ht
    simp only [Option.some.injEq] at h
    subst h
    rw [tcells_local ht fun k' hk' => hH k' (.inr (.inl hk'))]
    simp only [hH d (.inr (.inr (by simp)))]
  · cases h
theorem aMake_local {T : TI} {e d : Nat} {x y : AV} {r : AR} (h : aMake T H e d x y = some r) (hH : Agree r H H2) : aMake T H2 e d x y = some r := by
  unfold aMake at h ⊢
  split at h
  · simp only [Option.some.injEq] at h
    subst h
    simp only [hH d (.inr (.inr (by simp)))]
  · cases h
theorem aBuild_local {T : TI} {idx : List Nat} {xs : List AV} {r : AR} (h : aBuild T H idx xs = some r) (hH : Agree r H H2) : aBuild T H2 idx xs = some r := by
  unfold aBuild at h ⊢
  split at h
  · rename_i fs c css fz hd ht
    split at h
    · rename_i c' r' hl
      simp only [Option.some.injEq] at h
      subst h
      rw [tparts_local ht fun k' hk' => hH k' (.inr (.inl hk'))]
      simp only [hd, hl]
    · cases h
  · cases h
theorem aBuildSlice_local {T : TI} {e d n : Nat} {idx : List Nat} {xs : List AV} {r : AR} (h : aBuildSlice T H e d n idx xs = some r) (hH : Agree r H H2) : aBuildSlice T H2 e d n idx xs = some r := by
  unfold aBuildSlice at h ⊢
  split at h
  · rename_i c css fz ht
    simp only [Option.some.injEq] at h
    subst h
    rw [tparts_local ht fun k' hk' => hH k' (.inr (.inl hk'))]
    simp only [hH d (.inr (.inr (by simp)))]
  · cases h
theorem aBuildSliceN_local {T : TI} {e d n : Nat} {idx : List Nat} {xs : List AV} {r : AR} (h : aBuildSliceN T H e d n idx xs = some r) (hH : Agree r H H2) : aBuildSliceN T H2 e d n idx xs = some r := by
  unfold aBuildSliceN at h ⊢
  split at h
  · rename_i k s
    split at h
    · rename_i hk
      simp only [hk, if_true]
      exact aBuildSlice_local h hH
    · rename_i hk
      simp only [hk, if_false]
      split at h
      · rename_i hk2
        injection h with h; subst h
        simp only [hH k (.inl (by simp)), hk2, hH d (.inr (.inr (by simp)))]
      · cases h
  · exact aBuildSlice_local h hH
theorem aIndex_local {esz : Nat} {eok : Bool} {x i : AV} {r : AR} (h : aIndex esz eok H x i = some r) (hH : Agree r H H2) : aIndex esz eok H2 x i = some r := by
  unfold aIndex at h ⊢
  split at h
  · exact h
  · rename_i k st _ _
    cases hk : H k <;> rw [hk] at h <;> simp only [Option.some.injEq, reduceCtorEq] at h <;>
    (subst h
     simp only [hH k (.inl (by simp)), hk])
  · rename_i k st off len _ _
    cases hk : H k <;> rw [hk] at h <;> simp only [Option.some.injEq, reduceCtorEq] at h <;>
    (subst h
     simp only [hH k (.inl (by simp)), hk])
  · cases h
theorem aIndexA_local {n esz : Nat} {eok : Bool} {x i : AV} {r : AR} (h : aIndexA n esz eok H x i = some r) (hH : Agree r H H2) : aIndexA n esz eok H2 x i = some r := by
  unfold aIndexA at h ⊢
  split at h
  · rename_i k st _ off _ _
    simp only [Option.some.injEq] at h
    subst h
    simp only [hH k (.inl (by simp))]
  · cases h
theorem aLen_local {x : AV} {r : AR} (h : aLen H x = some r) (hH : Agree r H H2) : aLen H2 x = some r := by
  unfold aLen at h ⊢
  split at h
  · exact h
  · exact h
  · rename_i k st
    cases hk : H k <;> rw [hk] at h <;> simp only [Option.some.injEq, reduceCtorEq] at h <;>
    (subst h
     simp only [hH k (.inl (by simp)), hk])
  · rename_i k st off len
    cases hk : H k <;> rw [hk] at h <;> simp only [Option.some.injEq, reduceCtorEq] at h <;>
    (subst h
     simp only [hH k (.inl (by simp)), hk])
  · cases h
theorem aSlice_local {esz : Nat} {eok : Bool} {x : AV} {lo hi : Option AV} {r : AR} (h : aSlice esz eok H x lo hi = some r) (hH : Agree r H H2) : aSlice esz eok H2 x lo hi = some r := by
  unfold aSlice at h ⊢
  split at h
  · exact h
  · rename_i k st
    cases hk : H k <;> rw [hk] at h <;> simp only [reduceCtorEq] at h
    all_goals
      have hr : r.rd = [k] := by
        split at h <;> simp only [Option.some.injEq, reduceCtorEq] at h; subst h; rfl
      simp only [hH k (.inl (by simp [hr])), hk]
      exact h
  · cases h
theorem aFieldAddr_local {T : TI} {i : Nat} {x : AV} {r : AR} (h : aFieldAddr T i H x = some r) (hH : Agree r H H2) : aFieldAddr T i H2 x = some r := by
  unfold aFieldAddr at h ⊢
  split at h
  · exact h
  · rename_i fs k st _ off hd
    split at h
    · rename_i o sz hf
      simp only [Option.some.injEq] at h
      subst h
      simp only [hf, hH k (.inl (by simp))]
    · cases h
  · cases h
theorem aNil_local {x : AV} {r : AR} (h : aNil H x = some r) (hH : Agree r H H2) : aNil H2 x = some r := by
  unfold aNil at h ⊢
  split at h
  · exact h
  · rename_i k st i off
    simp only [Option.some.injEq] at h
    subst h
    simp only [hH k (.inl (by simp))]
  · cases h
theorem aAppend_local {T : TI} {e d : Nat} {x y : AV} {r : AR} (h : aAppend T H e d x y = some r) (hH : Agree r H H2) : aAppend T H2 e d x y = some r := by
  unfold aAppend at h ⊢
  split at h
  · rename_i c src rd hs
    split at h
    · simp only [Option.some.injEq] at h
      subst h
      rw [srcRows_local hs fun k hk => hH k (.inl hk)]
      simp only [hH d (.inr (.inr (by simp)))]
    · rename_i k st
      cases hk : H k with
      | none => rw [hk] at h; cases h
      | nst => rw [hk] at h; cases h
      | gone => rw [hk] at h; cases h
      | blk fz' st' e' sz rows =>
        rw [hk] at h
        cases fz' with
        | true => cases h
        | false =>
          simp only [Option.some.injEq] at h
          subst h
          rw [srcRows_local hs fun k' hk' => hH k' (.inl (by simp [hk']))]
          simp only [hH k (.inl (by simp)), hk]
    · cases h
  · cases h
theorem aAppendN_local {T : TI} {e d : Nat} {x y : AV} {r : AR} (h : aAppendN T H e d x y = some r) (hH : Agree r H H2) : aAppendN T H2 e d x y = some r := by
  unfold aAppendN at h ⊢
  split at h
  · rename_i k s
    split at h
    · rename_i s' e2 src hk
      split at h
      · injection h with h; subst h
        simp only [hH k (.inl (by simp)), hk, hH d (.inr (.inr (by simp)))]
      · rename_i h1 st
        split at h
        · rename_i hk2
          injection h with h; subst h
          simp only [hH k (.inl (by simp)), hk, hH h1 (.inl (by simp)), hk2]
        · cases h
      · cases h
    · rename_i hne
      have hold := aAppend_local h hH
      have hkk : H2 k = H k := by
        unfold aAppend at h
        split at h
        · rename_i c src rd hs
          have hrd : k ∈ rd := by
            simp only [srcRows] at hs
            split at hs
            · injection hs with hs; injection hs with e1 e2; injection e2 with e2 e3; subst e3; simp
            · cases hs
          split at h
          · injection h with h; subst h; exact hH k (.inl hrd)
          · split at h
            · injection h with h; subst h; exact hH k (.inl (by simp [hrd]))
            · cases h
          · cases h
        · cases h
      simp only [hkk]
      exact hold
  · exact aAppend_local h hH
theorem aCopy_local {T : TI} {x y : AV} {r : AR} (h : aCopy T H x y = some r) (hH : Agree r H H2) : aCopy T H2 x y = some r := by
  unfold aCopy at h ⊢
  split at h
  · rename_i c src rd hs
    split at h
    · rename_i k st off len
      cases hk : H k with
      | none => rw [hk] at h; cases h
      | nst => rw [hk] at h; cases h
      | gone => rw [hk] at h; cases h
      | blk fz' st' e' sz rows =>
        rw [hk] at h
        cases fz' with
        | true => cases h
        | false =>
          simp only [Option.some.injEq] at h
          subst h
          rw [srcRows_local hs fun k' hk' => hH k' (.inl (by simp [hk']))]
          simp only [hH k (.inl (by simp)), hk]
    · cases h
  · cases h
theorem aBuiltin_local {b : Builtin} {d : Option Nat} {xs : List AV} {ts : List Nat} {r : AR} (h : aBuiltin P b H d xs ts = some r) (hH : Agree r H H2) : aBuiltin P b H2 d xs ts = some r := by
  unfold aBuiltin at h ⊢
  split at h
  · split at h
    · exact aLen_local h hH
    · cases h
  · exact h
  · exact h
  · exact h
  · split at h
    · rename_i e e2 d ht ht2 hdd
      exact aAppendN_local h hH
    · cases h
  · split at h
    · exact aCopy_local h hH
    · cases h
  · cases h
theorem astep_local {op : Op} {d : Option Nat} {r : AR} (he : ∀ x ∈ op.operands, ev f2 x = ev f x) (h : astep P op d f H = some r) (hH : Agree r H H2) : astep P op d f2 H2 = some r := by
  cases op <;> simp only [astep, Op.operands, List.mem_toArray, List.mem_cons, List.not_mem_nil, or_false, forall_eq, forall_eq_or_imp, List.mem_append, Array.mem_append] at he h ⊢ <;> try (first | exact h | cases h)
  case move x => rw [he]
  case assign x => rw [he]
  case pick c x y => rw [he.1, he.2.1, he.2.2]; exact h
  case alloc e =>
    split at h
    · exact aAlloc_local h hH
    · cases h
  case box e x =>
    rw [he]
    split at h
    · exact aBox_local h hH
    · cases h
  case build t ps =>
    have : ps.toList.map (fun p => ev f2 p.2) = ps.toList.map (fun p => ev f p.2) := List.map_congr_left fun p hp => he _ (List.mem_map.2 ⟨p, hp, rfl⟩)
    rw [this]; exact aBuild_local h hH
  case buildSlice t n ps =>
    have : ps.toList.map (fun p => ev f2 p.2) = ps.toList.map (fun p => ev f p.2) := List.map_congr_left fun p hp => he _ (List.mem_map.2 ⟨p, hp, rfl⟩)
    rw [this]
    split at h
    · rename_i e d ht hdd; exact aBuildSliceN_local h hH
    · cases h
  case load t x => rw [he]; exact aLoad_local h hH
  case store t x y => rw [he.1, he.2]; exact aStoreN_local h hH
  case nilCheck x => rw [he]; exact aNil_local h hH
  case binOp op t x y yt => rw [he.1, he.2]; exact h
  case unOp op t x => rw [he]; exact h
  case convert s d x => rw [he]; exact h
  case makeSlice t l c =>
    rw [he.1, he.2]
    split at h
    · rename_i e d ht hdd; exact aMake_local h hH
    · cases h
  case slice t x lo hi mx =>
    cases mx with
    | some m => simp only [astep] at h; cases h
    | none =>
      simp only [astep] at h ⊢
      have h1 : ev f2 x = ev f x := he x (by simp)
      have h2 : lo.map (ev f2) = lo.map (ev f) := by cases lo with | none => rfl | some y => simp [he y (by simp)]
      have h3 : hi.map (ev f2) = hi.map (ev f) := by cases hi with | none => rfl | some y => simp [he y (by simp)]
      rw [h1, h2, h3]
      split at h
      · rename_i e ht; exact aSlice_local h hH
      · cases h
  case fieldAddr s x i => rw [he]; exact aFieldAddr_local h hH
  case field s x i => rw [he]; exact h
  case indexAddr t x i =>
    rw [he.1, he.2]
    split at h
    · rename_i e ht; exact aIndex_local h hH
    · rename_i n e ht; exact aIndexA_local h hH
    · cases h
  case index t x i => rw [he.1, he.2]; exact h
  case makeFunc fn first caps =>
    cases fn with
    | func g =>
      simp only [astep] at h ⊢
      have : caps.toList.map (ev f2) = caps.toList.map (ev f) := List.map_congr_left fun x hx => he x (.inr (Array.mem_toList_iff.1 hx))
      rw [this]; exact h
    | _ => simp [astep] at h
  case extract x i => rw [he]; exact h
  case call c =>
    have : c.args.toList.map (ev f2) = c.args.toList.map (ev f) := List.map_congr_left fun x hx => he x (by simp [Call.operands]; right; exact Array.mem_toList_iff.1 hx)
    rw [this]
    split at h
    · rename_i b hb; exact aBuiltin_local h hH
    · cases h
end
section
variable {P : Program}
theorem sim_op {o : Oper} {f : Fr} {H : Hp} {r : AR} (hr : astep P o.op o.dst f H = some r) (hc : r.c) : Sim P o f H (r.rd ++ r.fz ++ r.hs.map (·.1)) ⟨r.v, r.fz, r.hs⟩ := by
  intro f2 H2 he hH G M w0 D0 N β a w hd R K Q hK
  have := astep_local he hr fun k hk => hH k (by simpa [or_assoc] using hk)
  exact fun ro => (op_sound R o hd this hc).wp hK (astep_nd hr)
theorem callsR_wp {g : Nat} {x : Operand} {args : Array Operand} {ats : Array TypeId} {o : Oper} (ho : o.op = .call ⟨.value x, args, ats⟩) {a : Act} {w : World} {R : Value → World → Prop} {us : Array Value} (hx : a.eval x = .func (.func g) #[] us) (h : CallsR P g (args.toList.map a.eval ++ us.toList) w R) {ro : Option Nat} {K : Act → World → Prop} {Q : Exit → Act → World → Prop}
    (hK : ∀ v w', R v w' → K (a.put o.dst v) w') : o.wpIn (Wd ro) 0 P a w K Q := by
  have hx : execOp a.eval o = callFunc g (args.map a.eval ++ us) := by
    simp [execOp, ho, resolve, hx, Deferred.ofValue, invoke]
  have hargs : (args.toList.map a.eval ++ us.toList).toArray = args.map a.eval ++ us := by apply Array.ext'; simp
  unfold CallsR at h
  rw [hargs] at h
  refine ⟨fun _ _ => trivial, ?_⟩
  show o.uponIn (Wd ro) 0 P a K Q ((o.semAt ro a.eval).run P w)
  rw [semAt_of (by rw [ho]; intro c h; cases h), hx]
  rcases h with ⟨fn, h1, h2, h3, h4⟩ | ⟨v, w', h1, h2⟩
  · have : (callFunc g (args.map a.eval ++ us)).run P w = .ok (.enter g (args.map a.eval ++ us)) w := by
      simp only [callFunc, Sem.run_bind, run_program, Result.andThen_ok, h1, h2, h3, Bool.false_eq_true, if_false, Sem.run_pure]
    rw [this, Oper.uponIn_enter]
    refine ⟨fun _ => ?_, ?_⟩
    · rename_i hs; exact absurd hs (by simp [Wd, Fence.wide])
    · have h5 := (callsIn_wide (n := 0)).2 h4
      have h6 : CallsIn (Wd ro) 0 P g (args.map a.eval ++ us) w _ := h5
      exact h6.mono fun e w' ⟨v, he, hR⟩ => by subst he; exact hK v w' hR
  · rw [h1]; exact hK v w' h2
theorem frzAll_agree (fz : List Nat) : ∀ (H H2 : Hp) (k : Nat), H2 k = H k → frzAll fz H2 k = frzAll fz H k := by
  induction fz with
  | nil => exact fun _ _ _ h => h
  | cons h r ih =>
    intro H H2 k e
    simp only [frzAll]
    refine ih _ _ _ ?_
    by_cases hk : k = h
    · subst hk; simp [updH_same, e]
    · simp [updH_ne _ _ hk, e]
theorem rAV_agree {H H2 : Hp} {d : Nat} (h : (H2 d).stamp = (H d).stamp) (own : OwnRes) : ∀ (res : List CV) (j : Nat), rAV H2 d own j res = rAV H d own j res
  | [], _ => rfl
  | c :: cs, j => by simp only [rAV, h, rAV_agree h own cs (j + 1)]
theorem rAV_none (H H2 : Hp) (d : Nat) : ∀ (res : List CV) (j : Nat), rAV H2 d none j res = rAV H d none j res
  | [], _ => rfl
  | c :: cs, j => by simp only [rAV, rAV_none H H2 d cs (j + 1)]
theorem FlatRes.ok {w w' : World} {D D' : Nat → Prop} {own : OwnRes} {res : List CV} {us : List Value} (h : FlatRes own res) (hr : ResOk w w' D own res us) : ResOk w w' D' own res us := by
  refine ⟨hr.len, fun j c v hj hc hv => (hr.val j c v hj hc hv).flat ?_, fun i e sz rows ho => ?_⟩
  · cases own with
    | none => exact h c (List.mem_of_getElem? hc)
    | some p => obtain ⟨i, e, sz, rows⟩ := p; exact h.2 j c (hj i e sz rows rfl) hc
  · obtain ⟨v, h1, h2, h3⟩ := hr.own i e sz rows ho
    subst ho
    refine ⟨v, h1, h2, h3.1, ?_⟩
    rcases h3.2 with hn | ⟨g, cap, cur, hv, hB, hg, a1, a2, a3, a4⟩
    · exact .inl hn
    · refine .inr ⟨g, cap, cur, hv, hB, hg, a1, a2, a3, a4.flat fun x hx => ?_⟩
      obtain ⟨r, hr', hx'⟩ := List.mem_flatten.1 hx
      exact h.1 r hr' x hx'
theorem sim_call {o : Oper} {g : Nat} {x : Operand} {args : Array Operand} {ats : Array TypeId} (ho : o.op = .call ⟨.value x, args, ats⟩) {d : Nat} (hdst : o.dst = some d) {f : Fr} {H : Hp} {c : Prop} {cv : List CV} {ms : List Nat} {own : OwnRes} {res : List CV} {fz : Bool}
    {l : List AV} (hx : ev f x = .fn g l) (ht : tocvs H (args.toList.map (ev f) ++ l) = some (c, cv, ms) ∨ tocvsN H (args.toList.map (ev f) ++ l) = some (c, cv, ms)) (hc : c) (hac : AC P g cv own res) (hf : fz = false → ms = [] ∨ FlatRes own res) :
    let H' := if fz then frzAll ms H else H
    Sim P o f H (ms ++ (ownH H' d own).map (·.1)) ⟨packA (rAV H' d own 0 res), if fz then ms else [], ownH H' d own⟩ := by
  intro H' f2 H2 he hH G M w0 D0 N β a w hd R K Q hK ro
  have hx2 : ev f2 x = .fn g l := by rw [he x (by rw [ho]; simp [Op.operands, Call.operands]), hx]
  have hcal := R.ev x
  rw [hx2] at hcal
  simp only [AVRep] at hcal
  obtain ⟨us, hus, hcap⟩ := hcal
  have hargs : args.toList.map (ev f2) = args.toList.map (ev f) := List.map_congr_left fun x hx => he x (by rw [ho]; simp only [Op.operands, Call.operands]; exact Array.mem_append.2 (.inr (Array.mem_toList_iff.1 hx)))
  have hrep : CVReps w (DD (frzAll ms H2) β D0) cv (args.toList.map a.eval ++ us.toList) := by
    rcases ht with ht | ht
    · have ht2 := tocvs_local ht fun k hk => hH k (by simp [hk])
      rw [← hargs] at ht2
      exact tocvs_sound R ((avall_map R args.toList).append hcap) ht2 hc
    · have ht2 := tocvsN_local ht fun k hk => hH k (by simp [hk])
      rw [← hargs] at ht2
      exact tocvsN_sound R ((avall_map R args.toList).append hcap) ht2 hc
  have hD : ∀ b, DD (frzAll ms H2) β D0 b → b < w.heap.size := by
    intro b hb
    rcases hb with hb | ⟨k, hm, hk⟩
    · exact Nat.lt_of_lt_of_le (R.old b hb).1 R.size
    · have := (frz_mut_iff ms H2 k).1 hm
      exact (R.mut_lt this.2 hk).1
  refine callsR_wp ho hus (hac w _ _ hD hrep) fun v w' ⟨hb, us, hv, hres⟩ => ?_
  subst hv
  have hdN := hd d hdst
  rw [hdst]
  have fin : ∀ H3 : Hp, Rel G M w0 D0 N f2 H3 β a w → ResOk w w' (DD H3 β D0) own res us → (∀ i e sz rows, own = some (i, e, sz, rows) → (H3 d).stamp = (H' d).stamp) → H3 = frzAll (if fz then ms else []) H2 → K (a.put (some d) (packV us)) w' := by
    intro H3 R3 hr3 hs he3
    obtain ⟨β', R'⟩ := call_next R3 hb hr3 hdN
    refine hK _ _ β' ?_
    have e1 : packA (rAV H3 d own 0 res) = packA (rAV H' d own 0 res) := by
      cases own with
      | none => rw [rAV_none H' H3]
      | some p => obtain ⟨i, e, sz, rows⟩ := p; rw [rAV_agree (hs i e sz rows rfl)]
    have e2 : ownH H3 d own = ownH H' d own := by
      cases own with
      | none => rfl
      | some p => obtain ⟨i, e, sz, rows⟩ := p; simp only [ownH, hs i e sz rows rfl]
    rw [e1, e2] at R'
    rw [he3] at R'
    simp only [Up.f, Up.h, hdst, updo]
    exact R'
  have hst : ∀ i e sz rows, own = some (i, e, sz, rows) → H2 d = H d := fun i e sz rows ho => hH d (by subst ho; simp [ownH])
  cases fz with
  | true =>
    refine fin (frzAll ms H2) (R.frzAll ms) hres (fun i e sz rows ho => ?_) rfl
    show (frzAll ms H2 d).stamp = (frzAll ms H d).stamp
    rw [(frzAll_stamp ms H2 d).1, (frzAll_stamp ms H d).1, hst i e sz rows ho]
  | false =>
    refine fin H2 R ?_ (fun i e sz rows ho => by rw [hst i e sz rows ho]; rfl) rfl
    rcases hf rfl with h0 | h0
    · rw [h0] at hres; exact hres
    · exact h0.ok hres
theorem AVAll.set {M : Nat → Prop} {w : World} {D : Nat → Prop} {β : Nat → Value} {H : Hp} : ∀ {xs : List AV} {vs : List Value} (i : Nat), AVAll w D H β xs vs → AVAll w D H β (xs.set i .dead) vs
  | _, _, _, .nil => .nil
  | _, _, 0, .cons h k => .cons (by simp [AVRep]) k
  | _, _, i + 1, .cons h k => .cons h (AVAll.set (M := M) i k)
theorem AVAll.get {w : World} {D : Nat → Prop} {β : Nat → Value} {H : Hp} : ∀ {xs : List AV} {vs : List Value} {i : Nat} {x : AV}, AVAll w D H β xs vs → xs[i]? = some x → ∃ v, vs[i]? = some v ∧ AVRep w D H β x v
  | _, _, i, x, .nil, h => by simp at h
  | _, _, 0, x, .cons h k, hx => by simp at hx; subst hx; exact ⟨_, rfl, h⟩
  | _, _, i + 1, x, .cons h k, hx => by simpa using AVAll.get k (by simpa using hx)
theorem cvreps_avr {w : World} {D : Nat → Prop} {β : Nat → Value} {H : Hp} : ∀ {xs : List CV} {vs : List Value}, CVReps w D xs vs → AVReps w D H β (xs.map CV.av) vs
  | [], [], _ => by simp [AVReps]
  | _ :: _, _ :: _, h => by simp only [List.map_cons, AVReps]; exact ⟨h.1.av, cvreps_avr h.2⟩
  | [], _ :: _, h => h.elim
  | _ :: _, [], h => h.elim
theorem sim_callw {o : Oper} {g : Nat} {x : Operand} {args : Array Operand} {ats : Array TypeId} (ho : o.op = .call ⟨.value x, args, ats⟩) {d : Nat} (hdst : o.dst = some d) {f : Fr} {H : Hp} {c : Prop} {cv : List CV} {ms : List Nat} {res : List CV}
    {l : List AV} (hx : ev f x = .fn g l) {i h st e sz : Nat} {rows rows' : List (List IV)} (hi : (args.toList.map (ev f) ++ l)[i]? = some (.hs h st)) (hH : H h = .blk false st e sz rows)
    (ht : tocvs H ((args.toList.map (ev f) ++ l).set i .dead) = some (c, cv, ms)) (hc : c) (hm : h ∉ ms) (hac : ACW P g cv i e sz rows rows' res) :
    Sim P o f H (h :: ms) ⟨packA (res.map CV.av), ms, [(h, .blk false st e sz rows')]⟩ := by
  intro f2 H2 he hHH G M w0 D0 N β a w hd R K Q hK ro
  have hx2 : ev f2 x = .fn g l := by rw [he x (by rw [ho]; simp [Op.operands, Call.operands]), hx]
  have hcal := R.ev x
  rw [hx2] at hcal
  simp only [AVRep] at hcal
  obtain ⟨us, hus, hcap⟩ := hcal
  have hargs : args.toList.map (ev f2) = args.toList.map (ev f) := List.map_congr_left fun x hx => he x (by rw [ho]; simp only [Op.operands, Call.operands]; exact Array.mem_append.2 (.inr (Array.mem_toList_iff.1 hx)))
  have hH2 : H2 h = .blk false st e sz rows := by rw [hHH h (by simp)]; exact hH
  have hall := (avall_map R args.toList).append hcap
  rw [hargs] at hall
  have hrep : CVReps w (DD (frzAll ms H2) β D0) cv (args.toList.map a.eval ++ us.toList) :=
    tocvs_sound R (AVAll.set (M := M) i hall) (tocvs_local ht fun k hk => hHH k (by simp [hk])) hc
  obtain ⟨v, hv, hrv⟩ := hall.get hi
  simp only [AVRep] at hrv
  have hvb : v = β h := hrv.2 (by rw [hH2]; rfl)
  subst hvb
  have R1 := R.frzAll ms
  have hH1 : frzAll ms H2 h = .blk false st e sz rows := by rw [frzAll_other _ _ _ hm]; exact hH2
  have hD : ∀ b, DD (frzAll ms H2) β D0 b → b < w.heap.size := by
    intro b hb
    rcases hb with hb | ⟨k, hmm, hk⟩
    · exact Nat.lt_of_lt_of_le (R.old b hb).1 R.size
    · obtain ⟨cur, e', hh⟩ := R1.own_cells hmm hk
      exact (Array.getElem?_eq_some_iff.1 hh).1
  have hhead : ∀ b, headOf (β h) = some b → DD (frzAll ms H2) β D0 b := fun b hb => .inr ⟨h, by rw [hH1]; trivial, hb⟩
  have hown0 := R1.own h _ _ _ _ hH1
  have hown : Own w (DD (frzAll ms H2) β D0) w.heap.size (fun b => headOf (β h) = some b) (β h) e sz rows := by
    refine ⟨hown0.1, ?_⟩
    rcases hown0.2 with hn | ⟨g, cap, cur, hv, _, hrest⟩
    · exact .inl hn
    · exact .inr ⟨g, cap, cur, hv, .inr (by rw [hv]; rfl), hrest⟩
  refine callsR_wp ho hus (hac w _ _ _ hD hrep hv hhead hown) fun u w' ⟨hg, us', hu, hres, hown'⟩ => ?_
  subst hu
  have hdN := hd d hdst
  rw [hdst]
  have hown2 : Own w' (fun b => DD (frzAll ms H2) β D0 b ∨ headOf (β h) = some b) w0.heap.size M (β h) e sz rows' := by
    refine ⟨hown'.1, ?_⟩
    rcases hown'.2 with hn | ⟨g, cap, cur, hv, _, h1, h2, h3, h4, h5⟩
    · exact .inl hn
    · refine .inr ⟨g, cap, cur, hv, ?_, h1, h2, h3, h4, h5.mono (Grows.of_sub fun b hb => hb.elim id (hhead b))⟩
      exact DD.head R1 (h := h) (by rw [hH1]; trivial) (by rw [hv]; rfl)
  obtain ⟨β', hb', hbo, R'⟩ := R1.grow (w' := w') (st' := st) (rows' := rows') (v := β h) (dst := none) (x := .dead) (val := Go.undef) hH1 (.inl ⟨rfl, rfl⟩) hg.os hg.tape hg.output hg.size
    (fun k hk hne => hg.block k hk (fun e => hne e.symm)) hown2 (fun k hk => .inl hk) (fun _ _ _ _ _ => by simp [AVRep]) (by simp)
  have hbb : β' = β := funext fun u => by
    by_cases hu : u = h
    · subst hu; exact hb'
    · exact hbo u hu
  subst hbb
  have R2 : Rel G M w0 D0 N f2 (updH (frzAll ms H2) h (.blk false st e sz rows')) β' a w' := R'
  refine hK _ _ β' ?_
  simp only [Up.f, Up.h, hdst, updo, applyH]
  refine R2.value (dst := some d) (packV_rep _ _ (cvreps_avr (hres.mono (Grows.of_sub fun b hb => ?_)))) (by rintro _ ⟨⟩; exact hdN)
  rcases hb with hb | ⟨k, hmm, hk⟩
  · exact .inl hb
  · by_cases hkh : k = h
    · subst hkh; exact hhead b hk
    · rw [updH_ne _ _ hkh] at hmm; exact .inr ⟨k, hmm, hk⟩
theorem sim_callt {o : Oper} {g : Nat} {x : Operand} {args : Array Operand} {ats : Array TypeId} (ho : o.op = .call ⟨.value x, args, ats⟩) {d : Nat} (hdst : o.dst = some d) {f : Fr} {H : Hp} {c : Prop} {cv : List CV} {ms : List Nat}
    {l : List AV} (hx : ev f x = .fn g l) {i h st e sz : Nat} {rows rows' : List (List IV)} (hi : (args.toList.map (ev f) ++ l)[i]? = some (.hs h st)) (hH : H h = .blk false st e sz rows)
    (ht : tocvs H ((args.toList.map (ev f) ++ l).set i .dead) = some (c, cv, ms)) (hc : c) (hm : h ∉ ms) (hac : ACT P g cv i e sz rows rows') :
    Sim P o f H (h :: ms) ⟨.hs h (st + 1), ms, [(h, .blk false (st + 1) e sz rows')]⟩ := by
  intro f2 H2 he hHH G M w0 D0 N β a w hd R K Q hK ro
  have hx2 : ev f2 x = .fn g l := by rw [he x (by rw [ho]; simp [Op.operands, Call.operands]), hx]
  have hcal := R.ev x
  rw [hx2] at hcal
  simp only [AVRep] at hcal
  obtain ⟨us, hus, hcap⟩ := hcal
  have hargs : args.toList.map (ev f2) = args.toList.map (ev f) := List.map_congr_left fun x hx => he x (by rw [ho]; simp only [Op.operands, Call.operands]; exact Array.mem_append.2 (.inr (Array.mem_toList_iff.1 hx)))
  have hH2 : H2 h = .blk false st e sz rows := by rw [hHH h (by simp)]; exact hH
  have hall := (avall_map R args.toList).append hcap
  rw [hargs] at hall
  have hrep : CVReps w (DD (frzAll ms H2) β D0) cv (args.toList.map a.eval ++ us.toList) :=
    tocvs_sound R (AVAll.set (M := M) i hall) (tocvs_local ht fun k hk => hHH k (by simp [hk])) hc
  obtain ⟨v, hv, hrv⟩ := hall.get hi
  simp only [AVRep] at hrv
  have hvb : v = β h := hrv.2 (by rw [hH2]; rfl)
  subst hvb
  have R1 := R.frzAll ms
  have hH1 : frzAll ms H2 h = .blk false st e sz rows := by rw [frzAll_other _ _ _ hm]; exact hH2
  have hD : ∀ b, DD (frzAll ms H2) β D0 b → b < w.heap.size := by
    intro b hb
    rcases hb with hb | ⟨k, hmm, hk⟩
    · exact Nat.lt_of_lt_of_le (R.old b hb).1 R.size
    · obtain ⟨cur, e', hh⟩ := R1.own_cells hmm hk
      exact (Array.getElem?_eq_some_iff.1 hh).1
  have hhead : ∀ b, headOf (β h) = some b → DD (frzAll ms H2) β D0 b := fun b hb => .inr ⟨h, by rw [hH1]; trivial, hb⟩
  have hown0 := R1.own h _ _ _ _ hH1
  have hown : Own w (DD (frzAll ms H2) β D0) w.heap.size (fun b => headOf (β h) = some b) (β h) e sz rows := by
    refine ⟨hown0.1, ?_⟩
    rcases hown0.2 with hn | ⟨g, cap, cur, hv, _, hrest⟩
    · exact .inl hn
    · exact .inr ⟨g, cap, cur, hv, .inr (by rw [hv]; rfl), hrest⟩
  refine callsR_wp ho hus (hac w _ _ _ hD hrep hv hhead hown) fun u w' ⟨hg, hhu, hown'⟩ => ?_
  have hdN := hd d hdst
  rw [hdst]
  have hown2 : Own w' (fun b => DD (frzAll ms H2) β D0 b ∨ headOf u = some b) w0.heap.size M u e sz rows' := by
    refine ⟨hown'.1, ?_⟩
    rcases hown'.2 with hn | ⟨g, cap, cur, hu, _, h1, h2, h3, h4, h5⟩
    · exact .inl hn
    · have hgu : headOf u = some g := by rw [hu]; rfl
      refine .inr ⟨g, cap, cur, hu, ?_, h1, h2, h3, h4, h5.mono (Grows.of_sub fun b hb => hb.elim id fun hb => hhead b (hhu b hb))⟩
      exact DD.head R1 (h := h) (by rw [hH1]; trivial) (hhu g hgu)
  obtain ⟨β', hb', hbo, R'⟩ := R1.grow (w' := w') (st' := st + 1) (rows' := rows') (v := u) (dst := some d) (x := .hs h (st + 1)) (val := u) hH1 (.inr (by omega)) hg.os hg.tape hg.output hg.size
    (fun k hk hne => hg.block k hk (fun e => hne e.symm)) hown2 (fun k hk => .inl (hhu k hk)) (fun β' hb _ _ _ => by simp [AVRep, updH_same, HC.stamp, hb]) (by rintro _ ⟨⟩; exact hdN)
  refine hK _ _ β' ?_
  simp only [Up.f, Up.h, hdst, updo, applyH]
  exact R'
theorem arun_sim {o : Oper} {K : Fr → Hp → Log → Prop} {f : Fr} {H : Hp} {lg : Log} (h : ARun P o K f H lg) : ∃ (u : Up) (rd : List Nat), Sim P o f H rd u ∧ K (u.f o.dst f) (u.h H) ((rd, u.fz ++ u.hs.map (·.1)) :: lg) ∧ ∀ k ∈ u.fz ++ u.hs.map (·.1), k ∈ rd := by
  unfold ARun at h
  split at h
  · rename_i x args ats d ho hdst
    unfold ACallV at h
    split at h
    rotate_left
    · exact h.elim
    rename_i g l hx
    rcases h with h | h | h
    rotate_left
    rotate_left
    · obtain ⟨c, cv, ms, i, h, st, e, sz, rows, rows', hi, hH, ht, hc, hm, hac, hk⟩ := h
      refine ⟨⟨.hs h (st + 1), ms, [(h, .blk false (st + 1) e sz rows')]⟩, h :: ms, sim_callt ho hdst hx hi hH ht hc hm hac, ?_, ?_⟩
      · simp only [Up.f, Up.h, hdst, updo, applyH, List.map_cons, List.map_nil]
        exact hk
      · intro k hk
        simp only [List.map_cons, List.map_nil, List.mem_append, List.mem_cons, List.not_mem_nil, or_false] at hk ⊢
        rcases hk with hk | hk
        · exact .inr hk
        · exact .inl hk
    rotate_left
    · obtain ⟨c, cv, ms, i, h, st, e, sz, rows, rows', res, hi, hH, ht, hc, hm, hac, hk⟩ := h
      refine ⟨⟨packA (res.map CV.av), ms, [(h, .blk false st e sz rows')]⟩, h :: ms, sim_callw ho hdst hx hi hH ht hc hm hac, ?_, ?_⟩
      · simp only [Up.f, Up.h, hdst, updo, applyH, List.map_cons, List.map_nil]
        exact hk
      · intro k hk
        simp only [List.map_cons, List.map_nil, List.mem_append, List.mem_cons, List.not_mem_nil, or_false] at hk ⊢
        rcases hk with hk | hk
        · exact .inr hk
        · exact .inl hk
    obtain ⟨c, cv, ms, own, res, fz, ht, hc, hac, hf, hk⟩ := h
    refine ⟨⟨packA (rAV (if fz then frzAll ms H else H) d own 0 res), if fz then ms else [], ownH (if fz then frzAll ms H else H) d own⟩, ms ++ (ownH (if fz then frzAll ms H else H) d own).map (·.1), sim_call ho hdst hx ht hc hac hf, ?_, ?_⟩
    · have : frzAll (if fz then ms else []) H = if fz then frzAll ms H else H := by cases fz <;> rfl
      simp only [Up.f, Up.h, hdst, updo, this]
      exact hk
    · intro k hk
      simp only [List.mem_append] at hk ⊢
      rcases hk with hk | hk
      · cases fz with
        | true => exact .inl hk
        | false => simp at hk
      · exact .inr hk
  · split at h
    · rename_i r hr
      exact ⟨⟨r.v, r.fz, r.hs⟩, r.rd ++ r.fz ++ r.hs.map (·.1), sim_op hr h.1, h.2, fun k hk => by simp only [List.mem_append] at hk ⊢; rcases hk with hk | hk; exact .inl (.inr hk); exact .inr hk⟩
    · cases h
end
end Go.AL

namespace Go.AL
open Go.RowKit
set_option linter.unusedSimpArgs false
set_option linter.unusedVariables false
section
variable {P : Program} {G : Gh} {M : Nat → Prop} {w0 : World} {D0 : Nat → Prop} {N : Nat} {f : Fr} {H : Hp} {β : Nat → Value} {a : Act} {w : World}
def dsts (ops : Array Oper) : List (Option Nat) := ops.toList.map (·.dst)
theorem yielded_of (R : Rel G M w0 D0 N f H β a w) {ops : Array Oper} {j : Nat} : (∀ b, ((dsts ops).getD j none).map f = some (.iv (.bool b)) → yielded ops a.tmps j = some b) ∧ (((dsts ops).getD j none).map f = some .undef → yielded ops a.tmps j = none) := by
  have e : (dsts ops).getD j none = (ops[j]?).bind (·.dst) := by
    simp only [dsts, List.getD, List.getElem?_map, Array.getElem?_toList]
    cases ops[j]? <;> rfl
  rw [e]
  unfold yielded
  cases hd : (ops[j]?).bind (·.dst) with
  | none => simp
  | some d =>
    simp only [Option.map_some, Option.some.injEq, Option.bind_some]
    have h1 := R.tmps d
    refine ⟨fun b hb => ?_, fun hu => ?_⟩
    · rw [hb] at h1
      simp only [AVRep] at h1
      cases ht : a.tmps[d]? with
      | none => rw [Array.getD_eq_getD_getElem?, ht] at h1; cases h1
      | some v =>
        rw [Array.getD_eq_getD_getElem?, ht] at h1
        simp only [Option.getD_some] at h1
        cases h1; rfl
    · rw [hu] at h1
      simp only [AVRep] at h1
      cases ht : a.tmps[d]? with
      | none => rfl
      | some v =>
        rw [Array.getD_eq_getD_getElem?, ht] at h1
        simp only [Option.getD_some] at h1
        subst h1; rfl
theorem Rel.skip (R : Rel G M w0 D0 N f H β a w) {d : Option Nat} (hd : ∀ k, d = some k → k < N) : Rel G M w0 D0 N (updo f d .undef) H β (a.put d Go.undef) w :=
  R.value (by simp [AVRep]) hd
theorem aops_list {ro : Option Nat} {ops : Array Oper} {K : Fr → Hp → Log → Prop} {Q : Exit → Act → World → Prop} (hQ : ∀ f H lg β a w, K f H lg → Rel G M w0 D0 N f H β a w → Q .normal a w) :
    ∀ (rest : List Oper) (f : Fr) (H : Hp) (lg : Log) (β : Nat → Value) (a : Act) (w : World), (∀ o ∈ rest, ∀ d, o.dst = some d → d < N) → AOps P (dsts ops) rest K f H lg → Rel G M w0 D0 N f H β a w → wpListIn (Wd ro) 0 P ops Q rest a w
  | [], f, H, lg, β, a, w, _, h, R => hQ f H lg β a w h R
  | o :: rest, f, H, lg, β, a, w, hd, h, R => by
    have hdo := hd o (by simp)
    have hdr : ∀ o ∈ rest, ∀ d, o.dst = some d → d < N := fun o ho => hd o (by simp [ho])
    have run : ARun P o (AOps P (dsts ops) rest K) f H lg → o.wpIn (Wd ro) 0 P a w (wpListIn (Wd ro) 0 P ops Q rest) Q := by
      intro h
      obtain ⟨u, rd, hs, hk, _⟩ := arun_sim h
      exact hs f H (fun _ _ => rfl) (fun _ _ => rfl) G M w0 D0 N β a w hdo R _ _ (fun a' w' β' R' => aops_list hQ rest _ _ _ β' a' w' hdr hk R') ro
    simp only [AOps] at h
    simp only [wpListIn]
    cases hg : o.guard with
    | none =>
      rw [hg] at h
      simp only [Region.wanted, hg, if_true]
      exact run h
    | some p =>
      obtain ⟨j, want⟩ := p
      rw [hg] at h
      have hy := yielded_of R (ops := ops) (j := j)
      simp only [Region.wanted, hg]
      simp only at h
      split at h
      · rename_i b hb
        rw [hy.1 b hb]
        by_cases hbw : b = want
        · subst hbw
          simp only [if_true] at h
          simp only [beq_self_eq_true, if_true]
          exact run h
        · simp only [hbw, if_false] at h
          rw [if_neg (by simp [hbw])]
          exact ⟨fun _ _ => trivial, aops_list hQ rest _ _ _ β _ w hdr h (R.skip hdo)⟩
      · rename_i hb
        rw [hy.2 hb]
        rw [if_neg (by simp)]
        exact ⟨fun _ _ => trivial, aops_list hQ rest _ _ _ β _ w hdr h (R.skip hdo)⟩
      · exact h.elim
def bindsTo (o : Oper) (i : Nat) : Bool := o.after.toList.any fun e => Region.binds .any e && e.on == i
def reach (ops : Array Oper) : Nat → Nat → Nat → Bool
  | 0, _, _ => false
  | n + 1, j, i => bindsTo (ops.getD j default) i || (ops.getD j default).after.toList.any fun e => Region.binds .any e && reach ops n e.on i
def clash (x y : List Nat × List Nat) : Bool := x.2.any (fun k => y.1.contains k || y.2.contains k) || y.2.any (fun k => x.1.contains k || x.2.contains k)
def pairsOk (n : Nat) (p : Nat → Nat → Bool) : Bool := (List.range n).all fun j => (List.range j).all fun i => p i j
theorem pairsOk_spec {n : Nat} {p : Nat → Nat → Bool} (h : pairsOk n p = true) {i j : Nat} (hij : i < j) (hj : j < n) : p i j = true := by
  simp only [pairsOk, List.all_eq_true, List.mem_range] at h
  exact h j hj i hij
def logOk (ops : Array Oper) (log : Log) : Bool := pairsOk ops.size fun i j => !clash (log.getD i ([], [])) (log.getD j ([], [])) || reach ops 9 j i
def nameClash (ops : Array Oper) (i j : Nat) : Bool :=
  (match (ops.getD i default).dst with | none => false | some d => (ops.getD j default).dst == some d || (Oper.looksAt ops (ops.getD j default)).contains d) ||
  (match (ops.getD j default).dst with | none => false | some d => (Oper.looksAt ops (ops.getD i default)).contains d)
def tmpsOk (ops : Array Oper) : Bool :=
  (pairsOk ops.size fun i j => !nameClash ops i j || reach ops 9 j i) &&
  (List.range ops.size).all fun i => (ops.getD i default).after.toList.all fun e => !Region.binds .any e || decide (e.on < i)
def ClosedS (ops : Array Oper) (S : Nat → Bool) : Prop := ∀ i, S i = true → ∀ e ∈ (ops.getD i default).after.toList, Region.binds .any e = true → S e.on = true
theorem reach_closed {ops : Array Oper} {S : Nat → Bool} (hS : ClosedS ops S) : ∀ (n j i : Nat), reach ops n j i = true → (∀ e ∈ (ops.getD j default).after.toList, Region.binds .any e = true → S e.on = true) → S i = true
  | 0, _, _, h, _ => by simp [reach] at h
  | n + 1, j, i, h, hj => by
    simp only [reach, Bool.or_eq_true] at h
    rcases h with h | h
    · simp only [bindsTo, List.any_eq_true, Bool.and_eq_true, beq_iff_eq] at h
      obtain ⟨e, he, h1, h2⟩ := h
      rw [← h2]; exact hj e he h1
    · simp only [List.any_eq_true, Bool.and_eq_true] at h
      obtain ⟨e, he, h1, h2⟩ := h
      exact reach_closed hS n e.on i h2 fun e' he' hb' => hS e.on (hj e he h1) e' he' hb'
def gd (ds : List (Option Nat)) (o : Oper) (f : Fr) : Option Bool :=
  match o.guard with
  | none => some true
  | some (j, want) => match (ds.getD j none).map f with
    | some (.iv (.bool b)) => some (b == want)
    | some .undef => some false
    | _ => none
def skipUp : Up := ⟨.undef, [], []⟩
structure Tr (P : Program) (ops : Array Oper) (st : Nat → Fr × Hp) (us : Nat → Up) (rd : Nat → List Nat) : Prop where
  next : ∀ i, i < ops.size → st (i + 1) = ((us i).f (ops.getD i default).dst (st i).1, (us i).h (st i).2)
  step : ∀ i, i < ops.size → (gd (dsts ops) (ops.getD i default) (st i).1 = some true ∧ Sim P (ops.getD i default) (st i).1 (st i).2 (rd i) (us i)) ∨ (gd (dsts ops) (ops.getD i default) (st i).1 = some false ∧ us i = skipUp)
  wr : ∀ i, i < ops.size → ∀ k ∈ (us i).fz ++ (us i).hs.map (·.1), k ∈ rd i
theorem aops_one {ds : List (Option Nat)} {o : Oper} {rest : List Oper} {K : Fr → Hp → Log → Prop} {lg : Log} (h : AOps P ds (o :: rest) K f H lg) :
    ∃ (u : Up) (r : List Nat), ((gd ds o f = some true ∧ Sim P o f H r u) ∨ (gd ds o f = some false ∧ u = skipUp)) ∧ (∀ k ∈ u.fz ++ u.hs.map (·.1), k ∈ r) ∧ AOps P ds rest K (u.f o.dst f) (u.h H) ((r, u.fz ++ u.hs.map (·.1)) :: lg) := by
  simp only [AOps] at h
  cases hg : o.guard with
  | none =>
    rw [hg] at h
    obtain ⟨u, r, h1, h2, h3⟩ := arun_sim h
    exact ⟨u, r, .inl ⟨by simp [gd, hg], h1⟩, h3, h2⟩
  | some p =>
    obtain ⟨j, want⟩ := p
    rw [hg] at h
    simp only at h
    split at h
    · rename_i b hb
      by_cases hbw : b = want
      · subst hbw
        simp only [if_true] at h
        obtain ⟨u, r, h1, h2, h3⟩ := arun_sim h
        exact ⟨u, r, .inl ⟨by simp only [gd, hg, hb, beq_self_eq_true], h1⟩, h3, h2⟩
      · simp only [hbw, if_false] at h
        exact ⟨skipUp, [], .inr ⟨by simp only [gd, hg, hb]; rw [beq_eq_false_iff_ne.2 hbw], rfl⟩, by simp [skipUp], h⟩
    · rename_i hb
      exact ⟨skipUp, [], .inr ⟨by simp only [gd, hg, hb], rfl⟩, by simp [skipUp], h⟩
    · exact h.elim
theorem aops_tr {ops : Array Oper} {K : Fr → Hp → Log → Prop} : ∀ (rest : List Oper) (b : Nat) (f : Fr) (H : Hp) (lg : Log), (∀ i, rest[i]? = ops[b + i]?) → b + rest.length = ops.size → AOps P (dsts ops) rest K f H lg →
    ∃ (st : Nat → Fr × Hp) (us : Nat → Up) (rd : Nat → List Nat), st b = (f, H) ∧
      (∀ i, b ≤ i → i < ops.size → st (i + 1) = ((us i).f (ops.getD i default).dst (st i).1, (us i).h (st i).2)) ∧
      (∀ i, b ≤ i → i < ops.size → (gd (dsts ops) (ops.getD i default) (st i).1 = some true ∧ Sim P (ops.getD i default) (st i).1 (st i).2 (rd i) (us i)) ∨ (gd (dsts ops) (ops.getD i default) (st i).1 = some false ∧ us i = skipUp)) ∧
      (∀ i, b ≤ i → i < ops.size → ∀ k ∈ (us i).fz ++ (us i).hs.map (·.1), k ∈ rd i) ∧
      K (st ops.size).1 (st ops.size).2 (((List.range' b rest.length).map fun i => (rd i, (us i).fz ++ (us i).hs.map (·.1))).reverse ++ lg)
  | [], b, f, H, lg, _, hb, h => by
    simp only [List.length_nil, Nat.add_zero] at hb
    refine ⟨fun _ => (f, H), fun _ => skipUp, fun _ => [], rfl, fun i h1 h2 => by omega, fun i h1 h2 => by omega, fun i h1 h2 => by omega, by simpa [AOps] using h⟩
  | o :: rest, b, f, H, lg, hi, hb, h => by
    obtain ⟨u, r, h1, h2, h3⟩ := aops_one h
    have ho : ops.getD b default = o := by
      have := hi 0
      simp only [List.getElem?_cons_zero, Nat.add_zero] at this
      simp [Array.getD_eq_getD_getElem?, ← this]
    simp only [List.length_cons] at hb
    obtain ⟨st, us, rd, a1, a2, a3, a4, a5⟩ := aops_tr rest (b + 1) _ _ _ (fun i => by have := hi (i + 1); simpa [Nat.add_assoc, Nat.add_comm 1 i] using this) (by omega) h3
    refine ⟨fun i => if i = b then (f, H) else st i, fun i => if i = b then u else us i, fun i => if i = b then r else rd i, by simp, fun i h4 h5 => ?_, fun i h4 h5 => ?_, fun i h4 h5 => ?_, ?_⟩
    · by_cases hib : i = b
      · subst hib; simp [ho, a1]
      · have := a2 i (by omega) h5
        simp only [hib, if_false, show i + 1 ≠ b from by omega]; exact this
    · by_cases hib : i = b
      · subst hib; simpa [ho] using h1
      · simp only [hib, if_false]; exact a3 i (by omega) h5
    · by_cases hib : i = b
      · subst hib; simpa using h2
      · simp only [hib, if_false]; exact a4 i (by omega) h5
    · simp only [show ops.size ≠ b from by omega, if_false]
      have : (((List.range' b (o :: rest).length).map fun i => (if i = b then r else rd i, (if i = b then u else us i).fz ++ (if i = b then u else us i).hs.map (·.1))).reverse ++ lg) = (((List.range' (b + 1) rest.length).map fun i => (rd i, (us i).fz ++ (us i).hs.map (·.1))).reverse ++ ((r, u.fz ++ u.hs.map (·.1)) :: lg)) := by
        simp only [List.length_cons, List.range'_succ, List.map_cons, List.reverse_cons, List.append_assoc, if_true, List.singleton_append]
        congr 2
        apply List.map_congr_left
        intro i him
        have := List.mem_range'_1.1 him
        simp [show i ≠ b from by omega]
      rw [this]; exact a5
def fS (st : Nat → Fr × Hp) (us : Nat → Up) (ds : Nat → Option Nat) (S : Nat → Bool) : Nat → Fr × Hp
  | 0 => st 0
  | k + 1 => if S k then ((us k).f (ds k) (fS st us ds S k).1, (us k).h (fS st us ds S k).2) else fS st us ds S k
theorem updo_ne {d : Option Nat} {v : AV} {t : Nat} (h : d ≠ some t) (f : Fr) : updo f d v t = f t := by
  cases d with
  | none => rfl
  | some d => simp only [updo, upd]; rw [if_neg (fun e => h (by rw [e]))]
theorem updo_same {d : Option Nat} {v : AV} {t : Nat} (h : d = some t) (f : Fr) : updo f d v t = v := by
  subst h; simp [updo, upd]
theorem applyH_other : ∀ (l : List (Nat × HC)) (H : Hp) (k : Nat), k ∉ l.map (·.1) → applyH l H k = H k
  | [], _, _, _ => rfl
  | (h, c) :: r, H, k, hk => by
    simp only [List.map_cons, List.mem_cons, not_or] at hk
    simp only [applyH]
    rw [applyH_other r _ k hk.2, updH_ne _ _ hk.1]
theorem applyH_agree : ∀ (l : List (Nat × HC)) (H H2 : Hp) (k : Nat), H2 k = H k → applyH l H2 k = applyH l H k
  | [], _, _, _, h => h
  | (h, c) :: r, H, H2, k, e => by
    simp only [applyH]
    refine applyH_agree r _ _ k ?_
    by_cases hk : k = h
    · subst hk; simp [updH_same]
    · simp [updH_ne _ _ hk, e]
theorem Up.h_other {u : Up} {k : Nat} (hk : k ∉ u.fz ++ u.hs.map (·.1)) (H : Hp) : u.h H k = H k := by
  simp only [List.mem_append, not_or] at hk
  simp only [Up.h]
  rw [applyH_other _ _ _ hk.2, frzAll_other _ _ _ hk.1]
theorem Up.h_agree {u : Up} {k : Nat} {H H2 : Hp} (e : H2 k = H k) : u.h H2 k = u.h H k := applyH_agree _ _ _ _ (frzAll_agree _ _ _ _ e)
theorem fS_prefix {st : Nat → Fr × Hp} {us : Nat → Up} {ds : Nat → Option Nat} {n : Nat} (hst : ∀ i, i < n → st (i + 1) = ((us i).f (ds i) (st i).1, (us i).h (st i).2)) {S : Nat → Bool} {t : Nat} {j : Nat} (hj : j ≤ n)
    (h : ∀ i, i < n → ds i = some t → (i < j → S i = true) ∧ (j ≤ i → S i = false)) : (fS st us ds S n).1 t = (st j).1 t := by
  have h1 : ∀ k, k ≤ j → (fS st us ds S k).1 t = (st k).1 t := by
    intro k
    induction k with
    | zero => intro _; rfl
    | succ k ih =>
      intro hk
      have ih := ih (by omega)
      rw [hst k (by omega)]
      simp only [fS]
      by_cases hd : ds k = some t
      · have := (h k (by omega) hd).1 (by omega)
        rw [this]
        simp only [if_true, Up.f, updo_same hd]
      · simp only [Up.f, updo_ne hd]
        split
        · simp only [updo_ne hd]; exact ih
        · exact ih
  have h2 : ∀ m, j + m ≤ n → (fS st us ds S (j + m)).1 t = (fS st us ds S j).1 t := by
    intro m
    induction m with
    | zero => intro _; rfl
    | succ m ih =>
      intro hm
      have ih := ih (by omega)
      rw [← Nat.add_assoc]
      simp only [fS]
      by_cases hd : ds (j + m) = some t
      · have := (h (j + m) (by omega) hd).2 (by omega)
        rw [this]; simpa using ih
      · split
        · simp only [Up.f, updo_ne hd]; exact ih
        · exact ih
  have := h2 (n - j) (by omega)
  rw [show j + (n - j) = n from by omega] at this
  rw [this, h1 j (Nat.le_refl _)]
theorem hS_prefix {st : Nat → Fr × Hp} {us : Nat → Up} {ds : Nat → Option Nat} {n : Nat} (hst : ∀ i, i < n → st (i + 1) = ((us i).f (ds i) (st i).1, (us i).h (st i).2)) {S : Nat → Bool} {t : Nat} {j : Nat} (hj : j ≤ n)
    (h : ∀ i, i < n → t ∈ (us i).fz ++ (us i).hs.map (·.1) → (i < j → S i = true) ∧ (j ≤ i → S i = false)) : (fS st us ds S n).2 t = (st j).2 t := by
  have h1 : ∀ k, k ≤ j → (fS st us ds S k).2 t = (st k).2 t := by
    intro k
    induction k with
    | zero => intro _; rfl
    | succ k ih =>
      intro hk
      have ih := ih (by omega)
      rw [hst k (by omega)]
      simp only [fS]
      by_cases hd : t ∈ (us k).fz ++ (us k).hs.map (·.1)
      · have := (h k (by omega) hd).1 (by omega)
        rw [this]
        simp only [if_true]
        exact Up.h_agree ih
      · simp only [Up.h_other hd]
        split
        · simp only [Up.h_other hd]; exact ih
        · exact ih
  have h2 : ∀ m, j + m ≤ n → (fS st us ds S (j + m)).2 t = (fS st us ds S j).2 t := by
    intro m
    induction m with
    | zero => intro _; rfl
    | succ m ih =>
      intro hm
      have ih := ih (by omega)
      rw [← Nat.add_assoc]
      simp only [fS]
      by_cases hd : t ∈ (us (j + m)).fz ++ (us (j + m)).hs.map (·.1)
      · have := (h (j + m) (by omega) hd).2 (by omega)
        rw [this]; simpa using ih
      · split
        · simp only [Up.h_other hd]; exact ih
        · exact ih
  have := h2 (n - j) (by omega)
  rw [show j + (n - j) = n from by omega] at this
  rw [this, h1 j (Nat.le_refl _)]
theorem fS_add {st : Nat → Fr × Hp} {us : Nat → Up} {ds : Nat → Option Nat} {n : Nat} {S S' : Nat → Bool} {j : Nat} (hj : j < n) (hS : S j = false) (hS' : S' j = true) (ho : ∀ i, i ≠ j → S' i = S i)
    (hd : ∀ t, ds j = some t → ∀ i, i < n → j < i → ds i = some t → S i = false) (hh : ∀ t, t ∈ (us j).fz ++ (us j).hs.map (·.1) → ∀ i, i < n → j < i → t ∈ (us i).fz ++ (us i).hs.map (·.1) → S i = false)  :
    (fS st us ds S' n).1 = (us j).f (ds j) (fS st us ds S n).1 ∧ (fS st us ds S' n).2 = (us j).h (fS st us ds S n).2 := by
  have h0 : ∀ k, k ≤ j → fS st us ds S' k = fS st us ds S k := by
    intro k
    induction k with
    | zero => intro _; rfl
    | succ k ih =>
      intro hk
      simp only [fS, ho k (by omega), ih (by omega)]
  have h1 : ∀ m, j + 1 + m ≤ n → (fS st us ds S' (j + 1 + m)).1 = (us j).f (ds j) (fS st us ds S (j + 1 + m)).1 ∧ (fS st us ds S' (j + 1 + m)).2 = (us j).h (fS st us ds S (j + 1 + m)).2 := by
    intro m
    induction m with
    | zero =>
      intro _
      simp only [Nat.add_zero, fS, hS, hS', if_true, Bool.false_eq_true, if_false, h0 j (Nat.le_refl _), and_self]
    | succ m ih =>
      intro hm
      obtain ⟨ih1, ih2⟩ := ih (by omega)
      rw [← Nat.add_assoc]
      simp only [fS, ho (j + 1 + m) (by omega)]
      split
      · rename_i hSi
        refine ⟨?_, ?_⟩
        · simp only [ih1]
          funext t
          simp only [Up.f]
          by_cases e1 : ds (j + 1 + m) = some t
          · by_cases e2 : ds j = some t
            · have := hd t e2 _ (by omega) (by omega) e1
              rw [this] at hSi; cases hSi
            · rw [updo_same e1, updo_ne e2, updo_same e1]
          · rw [updo_ne e1]
            by_cases e2 : ds j = some t
            · rw [updo_same e2, updo_same e2]
            · rw [updo_ne e2, updo_ne e2, updo_ne e1]
        · simp only [ih2]
          funext t
          by_cases e1 : t ∈ (us (j + 1 + m)).fz ++ (us (j + 1 + m)).hs.map (·.1)
          · by_cases e2 : t ∈ (us j).fz ++ (us j).hs.map (·.1)
            · have := hh t e2 _ (by omega) (by omega) e1
              rw [this] at hSi; cases hSi
            · rw [Up.h_other e2]
              exact Up.h_agree (Up.h_other e2 _)
          · rw [Up.h_other e1]
            exact (Up.h_agree (Up.h_other e1 _)).symm
      · exact ⟨ih1, ih2⟩
  have := h1 (n - (j + 1)) (by omega)
  rwa [show j + 1 + (n - (j + 1)) = n from by omega] at this
theorem gd_agree {ds : List (Option Nat)} {o : Oper} {f f2 : Fr} (h : ∀ j want t, o.guard = some (j, want) → ds.getD j none = some t → f2 t = f t) : gd ds o f2 = gd ds o f := by
  unfold gd
  cases hg : o.guard with
  | none => rfl
  | some p =>
    obtain ⟨j, want⟩ := p
    simp only
    cases hd : ds.getD j none with
    | none => rfl
    | some t => simp only [Option.map_some, h j want t hg hd]
theorem gd_wanted (R : Rel G M w0 D0 N f H β a w) {ops : Array Oper} {o : Oper} {b : Bool} (h : gd (dsts ops) o f = some b) : Region.wanted o (yielded ops a.tmps) = b := by
  unfold gd at h
  unfold Region.wanted
  cases hg : o.guard with
  | none => rw [hg] at h; simp only [Option.some.injEq] at h; exact h
  | some p =>
    obtain ⟨j, want⟩ := p
    rw [hg] at h
    simp only at h ⊢
    have hy := yielded_of R (ops := ops) (j := j)
    split at h
    · rename_i b' hb
      rw [hy.1 b' hb]
      simp only [Option.some.injEq] at h
      rw [← h]; rfl
    · rename_i hb
      rw [hy.2 hb]
      simp only [Option.some.injEq] at h
      rw [← h]; rfl
    · cases h
theorem looksAt_guard {ops : Array Oper} {o : Oper} {j : Nat} {want : Bool} {t : Nat} (hg : o.guard = some (j, want)) (hd : (dsts ops).getD j none = some t) : t ∈ Oper.looksAt ops o := by
  have e : (dsts ops).getD j none = (ops[j]?).bind (·.dst) := by
    simp only [dsts, List.getD, List.getElem?_map, Array.getElem?_toList]
    cases ops[j]? <;> rfl
  rw [e] at hd
  simp [Oper.looksAt, hg, hd]
theorem looksAt_tmp {ops : Array Oper} {o : Oper} {t : Nat} (h : Operand.tmp t ∈ o.op.operands) : t ∈ Oper.looksAt ops o := by
  simp only [Oper.looksAt, List.mem_append]
  left
  exact List.mem_filterMap.2 ⟨.tmp t, Array.mem_toList_iff.2 h, rfl⟩
theorem nameClash_of {ops : Array Oper} {i j t : Nat} (h : ((ops.getD i default).dst = some t ∧ ((ops.getD j default).dst = some t ∨ t ∈ Oper.looksAt ops (ops.getD j default))) ∨ ((ops.getD j default).dst = some t ∧ t ∈ Oper.looksAt ops (ops.getD i default))) : nameClash ops i j = true := by
  unfold nameClash
  rcases h with ⟨h1, h2⟩ | ⟨h1, h2⟩
  · rw [h1]; simp only [Bool.or_eq_true]
    left
    rcases h2 with h2 | h2
    · left; rw [h2]; exact beq_self_eq_true _
    · right; simpa using h2
  · simp only [Bool.or_eq_true]
    right
    rw [h1]; simpa using h2
theorem clash_of {x y : List Nat × List Nat} {k : Nat} (h : (k ∈ x.2 ∧ (k ∈ y.1 ∨ k ∈ y.2)) ∨ (k ∈ y.2 ∧ (k ∈ x.1 ∨ k ∈ x.2))) : clash x y = true := by
  unfold clash
  simp only [Bool.or_eq_true, List.any_eq_true, List.contains_eq_mem, decide_eq_true_eq]
  rcases h with ⟨h1, h2⟩ | ⟨h1, h2⟩
  · left; exact ⟨k, h1, h2⟩
  · right; exact ⟨k, h1, h2⟩
theorem aops_any {ro : Option Nat} {ops : Array Oper} {K : Fr → Hp → Log → Prop} {Q : Exit → Act → World → Prop} (hdN : ∀ i, i < ops.size → ∀ d, (ops.getD i default).dst = some d → d < N)
    (hK : ∀ f H lg, K f H lg → logOk ops lg.reverse = true ∧ ∀ β a w, Rel G M w0 D0 N f H β a w → Q .normal a w) (ht : tmpsOk ops = true) (h : AOps P (dsts ops) ops.toList K f H []) (R : Rel G M w0 D0 N f H β a w) :
    wpAnyIn (Wd ro) 0 P .any ops Q ops.size (Array.replicate ops.size false) a w := by
  obtain ⟨st, us, rd, a1, a2, a3, a4, a5⟩ := aops_tr ops.toList 0 f H [] (by simp) (by simp) h
  simp only [Array.length_toList, List.append_nil] at a5
  obtain ⟨hlog, hQ⟩ := hK _ _ _ a5
  rw [List.reverse_reverse] at hlog
  simp only [tmpsOk, Bool.and_eq_true] at ht
  obtain ⟨ht1, ht2⟩ := ht
  have hedge : ∀ i, i < ops.size → ∀ e ∈ (ops.getD i default).after.toList, Region.binds .any e = true → e.on < i := by
    intro i hi e he hb
    have := (List.all_eq_true.1 ht2) i (List.mem_range.2 hi)
    have := (List.all_eq_true.1 this) e he
    simpa [hb] using this
  have hget : ∀ i, i < ops.size → ((List.range' 0 ops.size).map fun i => (rd i, (us i).fz ++ (us i).hs.map (·.1))).getD i ([], []) = (rd i, (us i).fz ++ (us i).hs.map (·.1)) := by
    intro i hi
    simp [List.getD, hi]
  have nm : ∀ i j, i < j → j < ops.size → nameClash ops i j = true → reach ops 9 j i = true := by
    intro i j hij hj hc
    have := pairsOk_spec ht1 hij hj
    simpa [hc] using this
  have lk : ∀ i j, i < j → j < ops.size → clash (rd i, (us i).fz ++ (us i).hs.map (·.1)) (rd j, (us j).fz ++ (us j).hs.map (·.1)) = true → reach ops 9 j i = true := by
    intro i j hij hj hc
    have := pairsOk_spec hlog hij hj
    rw [hget i (by omega), hget j hj] at this
    simpa [hc] using this
  let ds : Nat → Option Nat := fun i => (ops.getD i default).dst
  have key : ∀ (fuel : Nat) (listed : Array Bool) (a : Act) (w : World) (β : Nat → Value), listed.size = ops.size → ((List.range ops.size).filter fun i => !listed.getD i false).length = fuel →
      ClosedS ops (fun i => listed.getD i false) → Rel G M w0 D0 N (fS st us ds (fun i => listed.getD i false) ops.size).1 (fS st us ds (fun i => listed.getD i false) ops.size).2 β a w →
      wpAnyIn (Wd ro) 0 P .any ops Q fuel listed a w := by
    intro fuel
    induction fuel with
    | zero =>
      intro listed a w β hsz hcount hcl R
      have hall : ∀ i, i < ops.size → listed.getD i false = true := by
        intro i hi
        have h0 := List.eq_nil_of_length_eq_zero hcount
        have := List.filter_eq_nil_iff.1 h0 i (List.mem_range.2 hi)
        simpa using this
      have hready : Region.ready .any ops listed = [] := by
        unfold Region.ready
        rw [List.filter_eq_nil_iff]
        intro i hi
        have hi := List.mem_range.1 hi
        have : listed.getD i true = true := by
          have := hall i hi
          simp only [Array.getD_eq_getD_getElem?] at this ⊢
          rw [Array.getElem?_eq_getElem (by omega)] at this ⊢
          simpa using this
        simp only [this, Bool.not_true, Bool.false_and]; simp
      have e1 : (fS st us ds (fun i => listed.getD i false) ops.size).1 = (st ops.size).1 := by
        funext t
        exact fS_prefix (fun i hi => a2 i (by omega) hi) (Nat.le_refl _) fun i hi _ => ⟨fun _ => hall i hi, fun h => by omega⟩
      have e2 : (fS st us ds (fun i => listed.getD i false) ops.size).2 = (st ops.size).2 := by
        funext t
        exact hS_prefix (fun i hi => a2 i (by omega) hi) (Nat.le_refl _) fun i hi _ => ⟨fun _ => hall i hi, fun h => by omega⟩
      rw [e1, e2] at R
      exact ⟨hready, hQ β a w R⟩
    | succ fuel ih =>
      intro listed a w β hsz hcount hcl R
      refine ⟨fun hready => ?_, fun j hj => ?_⟩
      · exfalso
        have hex : ∃ i, i < ops.size ∧ listed.getD i false = false := by
          have : ((List.range ops.size).filter fun i => !listed.getD i false) ≠ [] := by intro e; rw [e] at hcount; simp at hcount
          obtain ⟨i, hi⟩ := List.exists_mem_of_ne_nil _ this
          have := List.mem_filter.1 hi
          exact ⟨i, List.mem_range.1 this.1, by simpa using this.2⟩
        have hleast : ∀ n, ∀ i, i < n → i < ops.size → listed.getD i false = false → False := by
          intro n
          induction n with
          | zero => intro i hi; omega
          | succ n ihn =>
            intro i hi hio hl
            by_cases hex2 : ∃ k, k < i ∧ listed.getD k false = false
            · obtain ⟨k, hk, hkl⟩ := hex2
              exact ihn k (by omega) (by omega) hkl
            · have hall : ∀ k, k < i → listed.getD k false = true := by
                intro k hk
                by_cases hkl : listed.getD k false = true
                · exact hkl
                · exact (hex2 ⟨k, hk, by simpa using hkl⟩).elim
              have hmem : i ∈ Region.ready .any ops listed := by
                unfold Region.ready
                rw [List.mem_filter]
                refine ⟨List.mem_range.2 hio, ?_⟩
                have h1 : listed.getD i true = false := by
                  simp only [Array.getD_eq_getD_getElem?] at hl ⊢
                  rw [Array.getElem?_eq_getElem (by omega)] at hl ⊢
                  simpa using hl
                have h2 : ops[i]? = some (ops.getD i default) := by simp [Array.getD_eq_getD_getElem?, hio]
                simp only [h1, h2, Option.map_some, Option.getD_some, Bool.not_false, Bool.true_and]
                rw [Array.all_eq_true_iff_forall_mem]
                intro e he
                by_cases hb : Region.binds .any e = true
                · have := hall e.on (hedge i hio e (Array.mem_toList_iff.2 he) hb)
                  simp [this]
                · simp [hb]
              rw [hready] at hmem; cases hmem
        obtain ⟨i, hi, hl⟩ := hex
        exact hleast (i + 1) i (by omega) hi hl
      · -- operation j may come up now
        unfold Region.ready at hj
        rw [List.mem_filter] at hj
        obtain ⟨hjr, hj2⟩ := hj
        have hjn := List.mem_range.1 hjr
        have hoj : ops[j]? = some (ops.getD j default) := by simp [Array.getD_eq_getD_getElem?, hjn]
        simp only [hoj, Option.map_some, Option.getD_some, Bool.and_eq_true, Bool.not_eq_true'] at hj2
        obtain ⟨hjl', hpre⟩ := hj2
        have hjl : listed.getD j false = false := by
          simp only [Array.getD_eq_getD_getElem?] at hjl' ⊢
          rw [Array.getElem?_eq_getElem (by omega)] at hjl' ⊢
          simpa using hjl'
        have hpre' : ∀ e ∈ (ops.getD j default).after.toList, Region.binds .any e = true → listed.getD e.on false = true := by
          intro e he hb
          rw [Array.all_eq_true_iff_forall_mem] at hpre
          have := hpre e (Array.mem_toList_iff.1 he)
          simpa [hb] using this
        have before : ∀ i, reach ops 9 j i = true → listed.getD i false = true := fun i hr => reach_closed hcl 9 j i hr hpre'
        have behind : ∀ i, reach ops 9 i j = true → listed.getD i false = false := by
          intro i hr
          by_cases hl : listed.getD i false = true
          · have := reach_closed hcl 9 i j hr (hcl i hl)
            rw [hjl] at this; cases this
          · simpa using hl
        have agreeT : ∀ t, ((ops.getD j default).dst = some t ∨ t ∈ Oper.looksAt ops (ops.getD j default)) → (∀ i, i < ops.size → i ≠ j → ds i = some t → (i < j → listed.getD i false = true) ∧ (j < i → listed.getD i false = false)) := by
          intro t ht i hi hij hdi
          refine ⟨fun h => before i (nm i j h hjn (nameClash_of (.inl ⟨hdi, ht⟩))), fun h => behind i (nm j i h hi (nameClash_of (t := t) ?_))⟩
          rcases ht with ht | ht
          · exact .inl ⟨ht, .inl hdi⟩
          · exact .inr ⟨hdi, ht⟩
        have agreeH : ∀ k, k ∈ rd j → (∀ i, i < ops.size → i ≠ j → k ∈ (us i).fz ++ (us i).hs.map (·.1) → (i < j → listed.getD i false = true) ∧ (j < i → listed.getD i false = false)) := by
          intro k hk i hi hij hki
          exact ⟨fun h => before i (lk i j h hjn (clash_of (.inl ⟨hki, .inl hk⟩))), fun h => behind i (lk j i h hi (clash_of (.inr ⟨hki, .inl hk⟩)))⟩
        have fagree : ∀ t, t ∈ Oper.looksAt ops (ops.getD j default) → (fS st us ds (fun i => listed.getD i false) ops.size).1 t = (st j).1 t := by
          intro t ht
          refine fS_prefix (fun i hi => a2 i (by omega) hi) (by omega) fun i hi hdi => ?_
          by_cases hij : i = j
          · subst hij; exact ⟨fun h => by omega, fun _ => hjl⟩
          · have := agreeT t (.inr ht) i hi hij hdi
            exact ⟨this.1, fun h => this.2 (by omega)⟩
        have hagree : ∀ k, k ∈ rd j → (fS st us ds (fun i => listed.getD i false) ops.size).2 k = (st j).2 k := by
          intro k hk
          refine hS_prefix (fun i hi => a2 i (by omega) hi) (by omega) fun i hi hdi => ?_
          by_cases hij : i = j
          · subst hij; exact ⟨fun h => by omega, fun _ => hjl⟩
          · have := agreeH k hk i hi hij hdi
            exact ⟨this.1, fun h => this.2 (by omega)⟩
        have hgd := gd_agree (ds := dsts ops) (o := ops.getD j default) (f := (st j).1) (f2 := (fS st us ds (fun i => listed.getD i false) ops.size).1) (fun k want t hg hd => fagree t (looksAt_guard hg hd))
        have hlist : ∀ i, (listed.setIfInBounds j true).getD i false = if i = j then true else listed.getD i false := by
          intro i
          simp only [Array.getD_eq_getD_getElem?, Array.getElem?_setIfInBounds]
          by_cases hij : j = i
          · subst hij; simp [show j < listed.size from by omega]
          · simp [hij, Ne.symm hij]
        have fin : ∀ a' w' β', Rel G M w0 D0 N ((us j).f (ops.getD j default).dst (fS st us ds (fun i => listed.getD i false) ops.size).1) ((us j).h (fS st us ds (fun i => listed.getD i false) ops.size).2) β' a' w' → wpAnyIn (Wd ro) 0 P .any ops Q fuel (listed.setIfInBounds j true) a' w' := by
          intro a' w' β' R'
          have hadd := fS_add (st := st) (us := us) (ds := ds) (n := ops.size) (S := fun i => listed.getD i false) (S' := fun i => (listed.setIfInBounds j true).getD i false) (j := j) hjn hjl (by simp only [hlist, if_true]) (fun i hi => by simp only [hlist, hi, if_false])
            (fun t ht i hi hij hdi => (agreeT t (.inl ht) i hi (by omega) hdi).2 hij)
            (fun k hk i hi hij hki => (agreeH k (a4 j (by omega) hjn k hk) i hi (by omega) hki).2 hij)
          refine ih _ a' w' β' (by simp [hsz]) ?_ ?_ ?_
          · have hc : ((List.range ops.size).filter fun i => !(listed.setIfInBounds j true).getD i false) = (((List.range ops.size).filter fun i => !listed.getD i false).filter fun i => decide (i ≠ j)) := by
              rw [List.filter_filter]
              apply List.filter_congr
              intro i hi
              rw [hlist]
              by_cases hij : i = j <;> simp [hij]
            rw [hc]
            have hnd : ((List.range ops.size).filter fun i => !listed.getD i false).Nodup := List.nodup_range.filter _
            have hjm : j ∈ ((List.range ops.size).filter fun i => !listed.getD i false) := List.mem_filter.2 ⟨hjr, by simp [hjl]⟩
            have e : (((List.range ops.size).filter fun i => !listed.getD i false).filter fun i => decide (i ≠ j)) = ((List.range ops.size).filter fun i => !listed.getD i false).erase j := by
              rw [hnd.erase_eq_filter]
              apply List.filter_congr
              intro i _
              by_cases hij : i = j <;> simp [hij]
            rw [e, List.length_erase_of_mem hjm, hcount]; rfl
          · intro i hi e he hb
            simp only [hlist] at hi ⊢
            by_cases hej : e.on = j
            · simp [hej]
            · simp only [hej, if_false]
              by_cases hij : i = j
              · subst hij; exact hpre' e he hb
              · simp only [hij, if_false] at hi; exact hcl i hi e he hb
          · rw [hadd.1, hadd.2]; exact R'
        unfold wpOpIn
        simp only [hoj]
        rcases a3 j (by omega) hjn with ⟨hg, hsim⟩ | ⟨hg, hskip⟩
        · rw [← hgd] at hg
          rw [gd_wanted R hg]
          simp only [if_true]
          refine hsim _ _ ?_ hagree G M w0 D0 N β a w (hdN j hjn) R _ _ (fun a' w' β' R' => fin a' w' β' R') ro
          intro x hx
          cases x with
          | tmp t => exact fagree t (looksAt_tmp hx)
          | _ => rfl
        · rw [← hgd] at hg
          rw [gd_wanted R hg]
          simp only [Bool.false_eq_true, if_false]
          refine ⟨fun _ _ => trivial, fin _ _ β ?_⟩
          rw [hskip]
          exact R.skip (hdN j hjn)
  refine key ops.size _ a w β (by simp) (by
    rw [List.filter_eq_self.2]
    · simp
    · intro i hi; simp [Array.getD_eq_getD_getElem?, List.mem_range.1 hi]) ?_ ?_
  · intro i hi
    by_cases hio : i < ops.size
    · simp [Array.getD_eq_getD_getElem?, hio] at hi
    · simp [Array.getD_eq_getD_getElem?, hio] at hi
  · have e1 : (fS st us ds (fun i => (Array.replicate ops.size false).getD i false) ops.size).1 = f := by
      funext t
      rw [fS_prefix (j := 0) (fun i hi => a2 i (by omega) hi) (by omega) fun i hi _ => ⟨fun h => by omega, fun _ => by simp [Array.getD_eq_getD_getElem?, hi]⟩, a1]
    have e2 : (fS st us ds (fun i => (Array.replicate ops.size false).getD i false) ops.size).2 = H := by
      funext t
      rw [hS_prefix (j := 0) (fun i hi => a2 i (by omega) hi) (by omega) fun i hi _ => ⟨fun h => by omega, fun _ => by simp [Array.getD_eq_getD_getElem?, hi]⟩, a1]
    rw [e1, e2]; exact R
end
end Go.AL
