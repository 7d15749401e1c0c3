/-
  The abstract logic: one operation.
-/
import Derived.Test.YthgecppfgdadiaaAbsA2
namespace Go.AL
open Go.RowKit
set_option linter.unusedSimpArgs false
set_option linter.unusedVariables false

/-! ### One operation -/

def aNil (H : Hp) (x : AV) : Option AR :=
  match x with
  | .ip cells => some ⟨True, .ip cells, [], [], []⟩
  | .hp h st i off => some ⟨st = (H h).stamp, .hp h st i off, [], [], [h]⟩
  | _ => none

def aBuiltin (P : Program) (b : Builtin) (H : Hp) (d : Option Nat) (xs : List AV) (ts : List Nat) : Option AR :=
  match b, xs, ts with
  | .len, [x], [t] => match (ti P t).desc with | .sl _ => aLen H x | _ => none
  | .max, [x, y], _ => aMax false x y
  | .min, [x, y], _ => aMax true x y
  | .append, [x, y], [t, t2] => match (ti P t).desc, (ti P t2).desc, d with
    | .sl e, .sl _, some d => aAppend (ti P e) H e d x y
    | _, _, _ => none
  | .copy, [x, y], [t, _] => match (ti P t).desc with | .sl e => aCopy (ti P e) H x y | _ => none
  | _, _, _ => none

def astep (P : Program) (op : Op) (d : Option Nat) (f : Fr) (H : Hp) : Option AR :=
  match op with
  | .move x => some ⟨True, ev f x, [], [], []⟩
  | .assign x => some ⟨True, ev f x, [], [], []⟩
  | .pick c x y => match ev f c with | .iv (.bool b) => some ⟨True, if b then ev f x else ev f y, [], [], []⟩ | _ => none
  | .alloc e => match d with | some d => aAlloc (ti P e) H e d | none => none
  | .box e x => match d with | some d => aBox (ti P e) H e d (ev f x) | none => none
  | .build t ps => aBuild (ti P t) H (ps.toList.map (·.1)) (ps.toList.map fun p => ev f p.2)
  | .buildSlice t n ps => match (ti P t).desc, d with | .sl e, some d => aBuildSlice (ti P e) H e d n (ps.toList.map (·.1)) (ps.toList.map fun p => ev f p.2) | _, _ => none
  | .load t x => aLoad (ti P t) H (ev f x)
  | .store t x y => aStore (ti P t) H (ev f x) (ev f y)
  | .nilCheck x => aNil H (ev f x)
  | .binOp op t x y _ => aBin (ti P t) op (ev f x) (ev f y)
  | .unOp op _ x => aUn op (ev f x)
  | .convert s d x => aConv (ti P d) (ti P s) (ev f x)
  | .makeSlice t l c => match (ti P t).desc, d with | .sl e, some d => aMake (ti P e) H e d (ev f l) (ev f c) | _, _ => none
  | .slice t x lo hi none => match (ti P t).desc with | .sl e => aSlice (ti P e).size (ti P e).ok H (ev f x) (lo.map (ev f)) (hi.map (ev f)) | _ => none
  | .fieldAddr s x i => aFieldAddr (ti P s) i H (ev f x)
  | .indexAddr t x i => match (ti P t).desc with | .sl e => aIndex (ti P e).size (ti P e).ok H (ev f x) (ev f i) | _ => none
  | .index t x i => aIndexS P t (ev f x) (ev f i)
  | .extract x i => aExtract i (ev f x)
  | .call c => match c.callee with | .builtin b => aBuiltin P b H d (c.args.toList.map (ev f)) c.argTypes.toList | _ => none
  | _ => none

section
variable {M : Nat → Prop} {w0 : World} {D0 : Nat → Prop} {N : Nat} {f : Fr} {H : Hp} {β : Nat → Value} {a : Act} {w : World}

/-- What an operation does: it yields a value (or nothing) and a state that fits. -/
def OpOk (P : Program) (M : Nat → Prop) (w0 : World) (D0 : Nat → Prop) (N : Nat) (o : Oper) (f : Fr) (H : Hp) (a : Act) (w : World) (r : AR) : Prop :=
  ∃ nx w' z β', (execOp a.eval o).run P w = .ok nx w' ∧ (nx = .value z ∨ (nx = .skip ∧ z = Go.undef)) ∧ Rel M w0 D0 N (updo f o.dst r.v) (applyH r.hs (frzAll r.fz H)) β' (a.put o.dst z) w'

theorem OpOk.value {P : Program} {o : Oper} {r : AR} (R : Rel M w0 D0 N f H β a w) (hd : ∀ d, o.dst = some d → d < N) {s : Sem Value} (hs : execOp a.eval o = do pure (.value (← s)))
    (h : r.fz = [] ∧ r.hs = [] ∧ ∃ z, s.run P w = .ok z w ∧ AVRep w (DD H β D0) H β r.v z) : OpOk P M w0 D0 N o f H a w r := by
  obtain ⟨h1, h2, z, h3, h4⟩ := h
  refine ⟨.value z, w, z, β, ?_, .inl rfl, ?_⟩
  · rw [hs]; simp only [Sem.run_bind, h3, Result.andThen_ok, Sem.run_pure]
  · rw [h1, h2]; exact R.value h4 hd

theorem OpOk.mem {P : Program} {o : Oper} {r : AR} {d : Nat} (hd : o.dst = some d) {s : Sem Value} (hs : execOp a.eval o = do pure (.value (← s)))
    (h : ∃ z w' β', s.run P w = .ok z w' ∧ Rel M w0 D0 N (updo f (some d) r.v) (applyH r.hs (frzAll r.fz H)) β' (a.put (some d) z) w') : OpOk P M w0 D0 N o f H a w r := by
  obtain ⟨z, w', β', h3, h4⟩ := h
  refine ⟨.value z, w', z, β', ?_, .inl rfl, by rw [hd]; exact h4⟩
  rw [hs]; simp only [Sem.run_bind, h3, Result.andThen_ok, Sem.run_pure]

theorem avall_map (R : Rel M w0 D0 N f H β a w) : ∀ (xs : List Operand), AVAll w (DD H β D0) H β (xs.map (ev f)) (xs.map a.eval)
  | [] => .nil
  | x :: xs => .cons (R.ev x) (avall_map R xs)

theorem avall_map2 (R : Rel M w0 D0 N f H β a w) : ∀ (ps : List (Nat × Operand)), AVAll w (DD H β D0) H β (ps.map fun p => ev f p.2) (ps.map fun p => a.eval p.2)
  | [] => .nil
  | x :: xs => .cons (R.ev x.2) (avall_map2 R xs)

theorem optrep (R : Rel M w0 D0 N f H β a w) (x : Option Operand) : OptRep w (DD H β D0) H β (x.map (ev f)) (x.map a.eval) := by
  cases x with
  | none => trivial
  | some x => exact R.ev x

theorem zip_parts (ps : Array (Nat × Operand)) (a : Act) : ((ps.toList.map (·.1)).zip (ps.toList.map fun p => a.eval p.2)).toArray = ps.map fun (i, x) => (i, a.eval x) := by
  apply Array.ext'
  rw [Array.toList_map]
  simp only
  generalize ps.toList = l
  induction l with
  | nil => rfl
  | cons p l ih => simp [ih]

theorem aNil_sound {P : Program} (R : Rel M w0 D0 N f H β a w) {x : AV} {v : Value} (hx : AVRep w (DD H β D0) H β x v) {r : AR} (hr : aNil H x = some r) (hc : r.c) : r.fz = [] ∧ r.hs = [] ∧ (∃ p, v = .pointer (some p)) ∧ AVRep w (DD H β D0) H β r.v v := by
  unfold aNil at hr
  split at hr
  · injection hr with hr; subst hr
    have hx' := hx
    simp only [AVRep] at hx
    obtain ⟨g, o, rfl, _⟩ := hx
    exact ⟨rfl, rfl, ⟨_, rfl⟩, hx'⟩
  · injection hr with hr; subst hr
    have hx' := hx
    simp only [AVRep] at hx
    obtain ⟨g, n, cap, _, rfl⟩ := hx.2 hc
    exact ⟨rfl, rfl, ⟨_, rfl⟩, hx'⟩
  · cases hr

theorem op_sound {P : Program} (R : Rel M w0 D0 N f H β a w) (o : Oper) (hd : ∀ d, o.dst = some d → d < N) {r : AR} (hr : astep P o.op o.dst f H = some r) (hc : r.c) : OpOk P M w0 D0 N o f H a w r := by
  cases ho : o.op <;> rw [ho] at hr <;> simp only [astep] at hr <;> try cases hr
  case move x =>
    exact OpOk.value R hd (s := pure (a.eval x)) (by simp [execOp, ho]) ⟨rfl, rfl, _, rfl, R.ev x⟩
  case assign x =>
    exact OpOk.value R hd (s := pure (a.eval x)) (by simp [execOp, ho]) ⟨rfl, rfl, _, rfl, R.ev x⟩
  case pick c x y =>
    have hcv := R.ev c
    split at hr
    · rename_i b hb
      injection hr with hr; subst hr
      rw [hb] at hcv
      simp only [AVRep] at hcv
      generalize hv : a.eval c = v at hcv
      cases hcv
      refine OpOk.value R hd (s := pure (if b then a.eval x else a.eval y)) (by simp [execOp, ho, hv, asBool]) ⟨rfl, rfl, _, rfl, ?_⟩
      cases b
      · exact R.ev y
      · exact R.ev x
    · cases hr
  case alloc e =>
    split at hr
    · rename_i d hdd
      exact OpOk.mem hdd (by simp only [execOp, ho]) (aAlloc_sound R (hd d hdd) hr hc)
    · cases hr
  case box e x =>
    split at hr
    · rename_i d hdd
      exact OpOk.mem hdd (by simp only [execOp, ho]) (aBox_sound (P := P) R (R.ev x) (hd d hdd) hr hc)
    · cases hr
  case build t ps =>
    obtain ⟨h1, z, h2, h3⟩ := aBuild_sound (P := P) R (by simp) (avall_map2 R ps.toList) hr hc
    rw [zip_parts] at h2
    refine ⟨.value z, w, z, β, ?_, .inl rfl, ?_⟩
    · simp only [execOp, ho, Sem.run_bind, h2, Result.andThen_ok, Sem.run_pure]
    · rw [h1]; exact (R.frzAll r.fz).value h3 hd
  case buildSlice t n ps =>
    split at hr
    · rename_i e d ht hdd
      have := aBuildSlice_sound (P := P) ht R (by simp) (avall_map2 R ps.toList) (hd d hdd) hr hc
      rw [zip_parts] at this
      exact OpOk.mem hdd (by simp only [execOp, ho]) this
    · cases hr
  case load t x => exact OpOk.value R hd (by simp only [execOp, ho]) (aLoad_sound R (R.ev x) hr hc)
  case store t x y =>
    obtain ⟨h1, w', β', h2, h3⟩ := aStore_sound (P := P) R (R.ev x) (R.ev y) hr hc hd
    exact ⟨.skip, w', Go.undef, β', by simp only [execOp, ho, Sem.run_bind, h2, Result.andThen_ok, Sem.run_pure], .inr ⟨rfl, rfl⟩, h3⟩
  case nilCheck x =>
    obtain ⟨h1, h2, ⟨p, hp⟩, h3⟩ := aNil_sound (P := P) R (R.ev x) hr hc
    exact ⟨.value (a.eval x), w, _, β, by simp [execOp, ho, hp], .inl rfl, by rw [h1, h2]; exact R.value h3 hd⟩
  case binOp op t x y yt => exact OpOk.value R hd (by simp only [execOp, ho]) (aBin_sound (P := P) (R.ev x) (R.ev y) hr hc (ox := x) (oy := y))
  case unOp op t x => exact OpOk.value R hd (by simp only [execOp, ho]) (aUn_sound (P := P) (R.ev x) hr hc)
  case convert s d x => exact OpOk.value R hd (by simp only [execOp, ho]) (aConv_sound (P := P) (R.ev x) hr hc)
  case makeSlice t l c =>
    split at hr
    · rename_i e d ht hdd
      exact OpOk.mem hdd (by simp only [execOp, ho]) (aMake_sound (P := P) ht R (R.ev l) (R.ev c) (hd d hdd) hr hc)
    · cases hr
  case slice t x lo hi mx =>
    cases mx with
    | some m => simp only [astep] at hr; cases hr
    | none =>
      simp only [astep] at hr
      split at hr
      · rename_i e ht
        exact OpOk.value R hd (by simp only [execOp, ho, Option.map_none]) (aSlice_sound (P := P) ht R (R.ev x) (optrep R lo) (optrep R hi) hr hc)
      · cases hr
  case fieldAddr s x i => exact OpOk.value R hd (by simp only [execOp, ho]) (aFieldAddr_sound (P := P) R (R.ev x) hr hc)
  case indexAddr t x i =>
    split at hr
    · rename_i e ht
      exact OpOk.value R hd (by simp only [execOp, ho]) (aIndex_sound (P := P) ht R (R.ev x) (R.ev i) hr hc)
    · cases hr
  case index t x i => exact OpOk.value R hd (by simp only [execOp, ho]) (aIndexS_sound (P := P) (R.ev x) (R.ev i) hr hc)
  case extract x i => exact OpOk.value R hd (by simp only [execOp, ho]) (aExtract_sound (P := P) (R.ev x) hr hc)
  case call c =>
    obtain ⟨callee, args, tys⟩ := c
    split at hr
    · rename_i b hb
      simp only at hb; subst hb
      unfold aBuiltin at hr
      split at hr
      · rename_i x t hx ht
        split at hr
        · rename_i e hte
          have ha : ∃ o, args = #[o] := by
            have h1 := congrArg List.length hx
            match hh : args.toList with
            | [o] => exact ⟨o, by apply Array.ext'; simpa using hh⟩
            | [] => rw [hh] at h1; simp at h1
            | _ :: _ :: _ => rw [hh] at h1; simp at h1
          obtain ⟨o', rfl⟩ := ha
          have htt : tys = #[t] := by apply Array.ext'; simpa using ht
          subst htt
          simp only [List.map_cons, List.map_nil, List.cons.injEq, and_true] at hx
          subst hx
          exact OpOk.value R hd (s := Builtin.len_ #[t] o.type #[a.eval o']) (by simp [execOp, ho, resolve, invoke, builtin]) (aLen_sound (P := P) hte R (R.ev o') hr hc)
        · cases hr
      · rename_i x y ts hx
        have ha : ∃ o1 o2, args = #[o1, o2] := by
          have h1 := congrArg List.length hx
          match hh : args.toList with
          | [o1, o2] => exact ⟨o1, o2, by apply Array.ext'; simpa using hh⟩
          | [] => rw [hh] at h1; simp at h1
          | [_] => rw [hh] at h1; simp at h1
          | _ :: _ :: _ :: _ => rw [hh] at h1; simp at h1
        obtain ⟨o1, o2, rfl⟩ := ha
        simp only [List.map_cons, List.map_nil, List.cons.injEq, and_true] at hx
        obtain ⟨rfl, rfl⟩ := hx
        exact OpOk.value R hd (s := Builtin.max_ tys o.type #[a.eval o1, a.eval o2]) (by simp [execOp, ho, resolve, invoke, builtin]) (aMax_sound (P := P) (ts := tys) (ty := o.type) (R.ev o1) (R.ev o2) hr hc)
      · rename_i x y ts hx
        have ha : ∃ o1 o2, args = #[o1, o2] := by
          have h1 := congrArg List.length hx
          match hh : args.toList with
          | [o1, o2] => exact ⟨o1, o2, by apply Array.ext'; simpa using hh⟩
          | [] => rw [hh] at h1; simp at h1
          | [_] => rw [hh] at h1; simp at h1
          | _ :: _ :: _ :: _ => rw [hh] at h1; simp at h1
        obtain ⟨o1, o2, rfl⟩ := ha
        simp only [List.map_cons, List.map_nil, List.cons.injEq, and_true] at hx
        obtain ⟨rfl, rfl⟩ := hx
        exact OpOk.value R hd (s := Builtin.min_ tys o.type #[a.eval o1, a.eval o2]) (by simp [execOp, ho, resolve, invoke, builtin]) (aMax_sound (P := P) (ts := tys) (ty := o.type) (R.ev o1) (R.ev o2) hr hc)
      · rename_i x y t t2 hx ht
        split at hr
        · rename_i e e2 d hte hte2 hdd
          have ha : ∃ o1 o2, args = #[o1, o2] := by
            have h1 := congrArg List.length hx
            match hh : args.toList with
            | [o1, o2] => exact ⟨o1, o2, by apply Array.ext'; simpa using hh⟩
            | [] => rw [hh] at h1; simp at h1
            | [_] => rw [hh] at h1; simp at h1
            | _ :: _ :: _ :: _ => rw [hh] at h1; simp at h1
          obtain ⟨o1, o2, rfl⟩ := ha
          have htt : tys = #[t, t2] := by apply Array.ext'; simpa using ht
          subst htt
          simp only [List.map_cons, List.map_nil, List.cons.injEq, and_true] at hx
          obtain ⟨rfl, rfl⟩ := hx
          exact OpOk.mem hdd (s := Builtin.append_ #[t, t2] o.type #[a.eval o1, a.eval o2]) (by simp [execOp, ho, resolve, invoke, builtin]) (aAppend_sound (P := P) hte hte2 R (R.ev o1) (R.ev o2) (hd d hdd) hr hc)
        · cases hr
      · rename_i x y t t2 hx ht
        split at hr
        · rename_i e hte
          have ha : ∃ o1 o2, args = #[o1, o2] := by
            have h1 := congrArg List.length hx
            match hh : args.toList with
            | [o1, o2] => exact ⟨o1, o2, by apply Array.ext'; simpa using hh⟩
            | [] => rw [hh] at h1; simp at h1
            | [_] => rw [hh] at h1; simp at h1
            | _ :: _ :: _ :: _ => rw [hh] at h1; simp at h1
          obtain ⟨o1, o2, rfl⟩ := ha
          have htt : tys = #[t, t2] := by apply Array.ext'; simpa using ht
          subst htt
          simp only [List.map_cons, List.map_nil, List.cons.injEq, and_true] at hx
          obtain ⟨rfl, rfl⟩ := hx
          obtain ⟨z, w', β', h3, h4⟩ := aCopy_sound (P := P) (t2 := t2) (ty := o.type) hte R (R.ev o1) (R.ev o2) hd hr hc
          refine ⟨.value z, w', z, β', ?_, .inl rfl, h4⟩
          simp [execOp, ho, resolve, invoke, builtin, h3]
        · cases hr
      · cases hr
    · cases hr

/-- An operation's run is enough for its 'wp'. -/
theorem OpOk.wp {P : Program} {o : Oper} {r : AR} (h : OpOk P M w0 D0 N o f H a w r) {K : Act → World → Prop} {Q : Exit → Act → World → Prop}
    (hK : ∀ a' w' β', Rel M w0 D0 N (updo f o.dst r.v) (applyH r.hs (frzAll r.fz H)) β' a' w' → K a' w') : o.wp P a w K Q := by
  obtain ⟨nx, w', z, β', h1, h2, h3⟩ := h
  unfold Oper.wp
  rw [h1]
  rcases h2 with rfl | ⟨rfl, rfl⟩
  · exact hK _ _ _ h3
  · exact hK _ _ _ h3
end
end Go.AL
