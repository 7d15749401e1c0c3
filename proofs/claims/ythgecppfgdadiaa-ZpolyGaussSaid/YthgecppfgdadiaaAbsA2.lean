/-
  The abstract logic: copies; signs of a text.
-/
import Derived.Test.YthgecppfgdadiaaAbsA
import Derived.Laws.CopyRow
namespace Go.AL
open Go.RowKit
set_option linter.unusedSimpArgs false
set_option linter.unusedVariables false

/-! ### copy; a sign of a text -/

section
variable {M : Nat → Prop} {w0 : World} {D0 : Nat → Prop} {N : Nat} {f : Fr} {H : Hp} {β : Nat → Value} {a : Act} {w : World}

/-- Several rows, written over. -/
theorem Rel.writes (R : Rel M w0 D0 N f H β a w) {h st e sz off : Nat} {rows src : List (List IV)} (hH : H h = .blk false st e sz rows) (hi : off + src.length ≤ rows.length) (hsz : ∀ r ∈ src, r.length = sz) {us : List Value} (hr : Reps w (DD H β D0) src.flatten us) (hne : rows ≠ [])
    {dst : Option Nat} {x : AV} {val : Value} (hv : ∀ w' D H' β', AVRep w' D H' β' x val) (hd : ∀ d, dst = some d → d < N) :
    ∃ g cap cur β', β h = .slice (some ⟨g, 0, none⟩) rows.length cap ∧ w.heap[g]? = some (.cells cur e (0, 0)) ∧ off * sz + us.length ≤ cur.size ∧
      Rel M w0 D0 N (updo f dst x) (updH H h (.blk false st e sz (rows.take off ++ src ++ rows.drop (off + src.length)))) β' (a.put dst val) (w.setRow g (cur.toList.take (off * sz) ++ us ++ cur.toList.drop (off * sz + us.length)).toArray) := by
  have hown := R.own h _ _ _ _ hH
  rcases hown.2 with ⟨rfl, _⟩ | ⟨g, cap, cur, hb, hB, hg, h1, h2, h3, h4⟩
  · exact (hne rfl).elim
  have hul := hr.length
  rw [flatten_len src hsz] at hul
  have hmul : off * sz + us.length ≤ rows.length * sz := by
    rw [← hul, ← Nat.add_mul]; exact Nat.mul_le_mul_right _ hi
  have hcapm : rows.length * sz ≤ cap * sz := Nat.mul_le_mul_right _ h1
  have hfit : off * sz + us.length ≤ cur.size := by rw [h3]; omega
  have hset := setRow_heap w g cur (cur.toList.take (off * sz) ++ us ++ cur.toList.drop (off * sz + us.length)).toArray e (0, 0) hg
  have hmu : (H h).isMut := by rw [hH]; trivial
  have gr : Grows w (DD H β D0) (w.setRow g (cur.toList.take (off * sz) ++ us ++ cur.toList.drop (off * sz + us.length)).toArray) (fun b => DD H β D0 b ∨ headOf (β h) = some b) := by
    refine ⟨by simp, fun b _ hd' => ?_, fun b _ hn => ?_⟩
    · rcases hd' with h' | h'
      · exact h'
      · exact .inr ⟨h, hmu, h'⟩
    · exact setRow_other w g b _ (fun e => hn (.inr ⟨h, hmu, by rw [hb, e]; rfl⟩))
  have hlen : (rows.take off ++ src ++ rows.drop (off + src.length)).length = rows.length := by
    simp only [List.length_append, List.length_take, List.length_drop]; omega
  have hown' : Own (w.setRow g (cur.toList.take (off * sz) ++ us ++ cur.toList.drop (off * sz + us.length)).toArray) (fun b => DD H β D0 b ∨ headOf (β h) = some b) w0.heap.size M (β h) e sz (rows.take off ++ src ++ rows.drop (off + src.length)) := by
    refine ⟨?_, .inr ⟨g, cap, _, by rw [hb, hlen], hB, hset, by rw [hlen]; exact h1, h2, ?_, ?_⟩⟩
    · intro r hr'
      rcases List.mem_append.1 hr' with h' | h'
      · rcases List.mem_append.1 h' with h' | h'
        · exact hown.1 r (List.mem_of_mem_take h')
        · exact hsz r h'
      · exact hown.1 r (List.mem_of_mem_drop h')
    · simp; omega
    · rw [hlen, take_splice cur.toList us _ _ hmul (by rw [show cur.toList.length = cur.size from rfl, h3]; exact hcapm)]
      have e1 : (rows.take off ++ src ++ rows.drop (off + src.length)).flatten = rows.flatten.take (off * sz) ++ src.flatten ++ rows.flatten.drop (off * sz + src.flatten.length) := by
        have ht : (rows.take off).flatten = rows.flatten.take (off * sz) := by
          have := flatten_part rows 0 off hown.1 (by omega)
          simpa using this
        have hdp : (rows.drop (off + src.length)).flatten = rows.flatten.drop (off * sz + src.flatten.length) := by
          have e0 : rows.flatten = (rows.take (off + src.length)).flatten ++ (rows.drop (off + src.length)).flatten := by rw [← List.flatten_append, List.take_append_drop]
          have e2 : (rows.take (off + src.length)).flatten.length = off * sz + src.flatten.length := by
            rw [flatten_len (sz := sz) _ fun r hr => hown.1 r (List.mem_of_mem_take hr), flatten_len src hsz, List.length_take, Nat.min_eq_left hi, Nat.add_mul]
          rw [e0, ← e2, List.drop_left]
        rw [List.flatten_append, List.flatten_append, ht, hdp]
      rw [e1]
      exact (reps_splice _ h4 hr).mono gr
  obtain ⟨β', hb', R'⟩ := R.grow (w' := w.setRow g (cur.toList.take (off * sz) ++ us ++ cur.toList.drop (off * sz + us.length)).toArray) (st' := st) (rows' := rows.take off ++ src ++ rows.drop (off + src.length)) (v := β h) (dst := dst) (x := x) (val := val) hH (.inl ⟨rfl, rfl⟩) rfl rfl rfl (by simp)
    (fun k hk hn => setRow_other w g k _ (fun e => hn (by rw [hb, e]; rfl))) hown' (fun k hk => .inl hk) (fun _ _ _ _ _ => hv _ _ _ _) hd
  exact ⟨g, cap, cur, β', hb, hg, hfit, R'⟩

def aCopy (T : TI) (H : Hp) (x y : AV) : Option AR :=
  match srcRows H y with
  | some (c, src, rd) => match x with
    | .hv h st off len => match H h with
      | .blk false st' e sz rows => some ⟨c ∧ T.ok = true ∧ T.size = 1 ∧ sz = 1 ∧ st = st' ∧ off + len ≤ rows.length ∧ 0 < src.length ∧ (∀ r ∈ src, r.length = 1) ∧ src.length ≤ len, .iv (.int .i64 src.length), [], [(h, .blk false st e sz (rows.take off ++ src ++ rows.drop (off + src.length)))], h :: rd⟩
      | _ => none
    | _ => none
  | none => none

theorem aCopy_sound {P : Program} {t t2 e ty : Nat} (ht : (ti P t).desc = .sl e) (R : Rel M w0 D0 N f H β a w) {x y : AV} {v u : Value} (hx : AVRep w (DD H β D0) H β x v) (hy : AVRep w (DD H β D0) H β y u) {dst : Option Nat} (hd : ∀ d, dst = some d → d < N) {r : AR} (hr : aCopy (ti P e) H x y = some r) (hc : r.c) :
    ∃ z w' β', (Builtin.copy_ #[t, t2] ty #[v, u]).run P w = .ok z w' ∧ Rel M w0 D0 N (updo f dst r.v) (applyH r.hs (frzAll r.fz H)) β' (a.put dst z) w' := by
  have hu := ti_sl ht
  unfold aCopy at hr
  split at hr
  · rename_i c src rd hs
    split at hr
    · rename_i h st off len
      split at hr
      · rename_i st' e' sz rows hH
        injection hr with hr; subst hr
        obtain ⟨hc1, hok, hs1, hsz1, hst, hol, hl0, hsrc, hle⟩ := hc
        subst hst
        obtain ⟨i, d, hi, _, hsi, _, _⟩ := ti_ok hok
        obtain ⟨ad, cap, rfl, hrow⟩ := srcRows_sound R hy hs hc1 hsrc
        have hsz : (P.info? e).map (·.size) = some 1 := by rw [hi]; simp [← hsi, hs1]
        subst hsz1
        obtain ⟨news, h1, h3⟩ : ∃ news, Reps w (DD H β D0) src.flatten news ∧ (src ≠ [] → ∃ g o, ad = some ⟨g, o, none⟩ ∧ ∀ (j : Nat) v, news[j]? = some v → w.cell? ⟨g, o + j, none⟩ = some v) := by
          obtain ⟨news, h1, _, h3⟩ := hrow
          exact ⟨news, h1, h3⟩
        have hnl : news.length = src.length := by rw [← h1.length, flatten_len src hsrc, Nat.mul_one]
        simp only [AVRep] at hx
        have hne : rows ≠ [] := by intro e; subst e; simp at hol; omega
        obtain ⟨g, capg, cur, β', hb, hg, hfit, R2⟩ := R.writes (dst := dst) (x := .iv (.int .i64 src.length)) (val := .int .i64 src.length) hH (Nat.le_trans (Nat.add_le_add_left hle _) hol) hsrc h1 hne (fun _ _ _ _ => by simp only [AVRep]; exact .int _ _) hd
        rcases hx.2 (by rw [hH]; rfl) with ⟨h0, _⟩ | ⟨g', n', c1, c2, hb', rfl, hlc, hcm⟩
        · omega
        rw [hb] at hb'; injection hb' with e1 e2 e3; injection e1 with e1; injection e1 with e1 e4; subst e1
        have hesz : (H h).esz = 1 := by rw [hH]; rfl
        rw [hesz] at *
        have h0 : src ≠ [] := by intro e; subst e; simp at hl0
        obtain ⟨g2, o2, rfl, hcell⟩ := h3 h0
        have hrun := run_copy_row (P := P) w t t2 ty e g (off * 1) len c2 ⟨g2, o2, none⟩ src.length cap cur e' news hu hsz hg (by rw [hnl]; exact (Nat.min_eq_left hle).symm) (fun j v hj => by rw [addr_add]; exact hcell j v hj) hfit h1.one
        rw [hnl] at hrun
        refine ⟨_, _, β', hrun, ?_⟩
        rw [hnl] at R2
        exact R2
      · cases hr
    · cases hr
  · cases hr

def isStr (P : Program) (t : Nat) : Prop := P.underlying t = some .string

def aIndexS (P : Program) (t : Nat) (x i : AV) : Option AR :=
  match x, i with
  | .iv (.raw (.string s)), .iv (.int k n) => some ⟨isStr P t ∧ 0 ≤ n ∧ n < s.size, .iv (.int .u8 ((s[n.toNat]?.getD 0).toNat : Nat)), [], [], []⟩
  | _, _ => none

theorem aIndexS_sound {P : Program} {t : Nat} {x y : AV} {v u : Value} (hx : AVRep w (DD H β D0) H β x v) (hy : AVRep w (DD H β D0) H β y u) {r : AR} (hr : aIndexS P t x y = some r) (hc : r.c) :
    r.fz = [] ∧ r.hs = [] ∧ ∃ z, (Instr.index t v u).run P w = .ok z w ∧ AVRep w (DD H β D0) H β r.v z := by
  unfold aIndexS at hr
  split at hr
  · rename_i s k n
    injection hr with hr; subst hr
    obtain ⟨h1, h2, h3⟩ := hc
    simp only [AVRep] at hx hy
    cases hx
    cases hy
    refine ⟨rfl, rfl, .int .u8 ((s[n.toNat]?.getD 0).toNat : Nat), ?_, by simp only [AVRep]; exact .int _ _⟩
    have hlt : n.toNat < s.size := by omega
    have hget : s[n.toNat]? = some s[n.toNat] := getElem?_pos s n.toNat hlt
    simp only [Instr.index, Sem.run_bind, asIntOf, Sem.run_pure, Result.andThen_ok, run_underlying h1, if_pos h2, hget, Option.getD_some]
  · cases hr
end
end Go.AL
