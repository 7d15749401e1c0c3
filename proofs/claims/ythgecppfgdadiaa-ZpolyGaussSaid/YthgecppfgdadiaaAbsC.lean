/-
  The abstract logic: contracts.
-/
import Derived.Test.YthgecppfgdadiaaAbsB
namespace Go.AL
open Go.RowKit
set_option linter.unusedSimpArgs false
set_option linter.unusedVariables false

/-! ### Contracts -/

inductive CV where
  | iv (x : IV)
  | agg (cells : List IV)
  | val (v : Value)
  deriving Inhabited

def CV.av : CV → AV
  | .iv x => .iv x
  | .agg cs => .agg cs
  | .val v => cstA v

def CVRep (w : World) (D : Nat → Prop) : CV → Value → Prop
  | .iv x, v => Rep w D x v
  | .agg cells, v => ∃ cs : Array Value, v = .agg cs ∧ Reps w D cells cs.toList
  | .val u, v => v = u

theorem CVRep.mono {w w' : World} {D D' : Nat → Prop} (g : Grows w D w' D') {c : CV} {v : Value} (h : CVRep w D c v) : CVRep w' D' c v := by
  cases c with
  | iv x => exact Rep.mono g h
  | agg cs => obtain ⟨a, rfl, hr⟩ := h; exact ⟨a, rfl, hr.mono g⟩
  | val u => exact h

theorem CVRep.av {w : World} {D : Nat → Prop} {H : Hp} {β : Nat → Value} {c : CV} {v : Value} (h : CVRep w D c v) : AVRep w D H β c.av v := by
  cases c with
  | iv x => simpa only [CV.av, AVRep, CVRep] using h
  | agg x => simpa only [CV.av, AVRep, CVRep] using h
  | val u => simp only [CVRep] at h; subst h; exact cstA_rep ..

def CVReps (w : World) (D : Nat → Prop) : List CV → List Value → Prop
  | [], [] => True
  | x :: xs, v :: vs => CVRep w D x v ∧ CVReps w D xs vs
  | _, _ => False

theorem CVReps.length {w : World} {D : Nat → Prop} : ∀ {xs : List CV} {vs : List Value}, CVReps w D xs vs → xs.length = vs.length
  | [], [], _ => rfl
  | _ :: _, _ :: _, h => by simp [CVReps.length h.2]
  | [], _ :: _, h => h.elim
  | _ :: _, [], h => h.elim

theorem CVReps.mono {w w' : World} {D D' : Nat → Prop} (g : Grows w D w' D') : ∀ {xs : List CV} {vs : List Value}, CVReps w D xs vs → CVReps w' D' xs vs
  | [], [], _ => trivial
  | _ :: _, _ :: _, h => ⟨h.1.mono g, CVReps.mono g h.2⟩
  | [], _ :: _, h => h.elim
  | _ :: _, [], h => h.elim

/-- One of the results may be a slice of the caller's own from now on: its place, its element type, an element's cells, its rows. -/
abbrev OwnRes := Option (Nat × Nat × Nat × List (List IV))

def ownHead (own : OwnRes) (us : List Value) (b : Nat) : Prop :=
  match own with
  | none => False
  | some (i, _) => ∃ v, us[i]? = some v ∧ headOf v = some b

def packV : List Value → Value
  | [v] => v
  | vs => .tuple vs.toArray

/-- The results fit: none lies in D, but for the own one none in that one's block. -/
structure ResOk (w w' : World) (D : Nat → Prop) (own : OwnRes) (res : List CV) (us : List Value) : Prop where
  len : us.length = res.length
  val : ∀ (j : Nat) c v, (∀ i e sz rows, own = some (i, e, sz, rows) → j ≠ i) → res[j]? = some c → us[j]? = some v → CVRep w' (fun b => D b ∨ ownHead own us b) c v
  own : ∀ i e sz rows, own = some (i, e, sz, rows) → ∃ v, us[i]? = some v ∧ i < res.length ∧ Own w' (fun b => D b ∨ ownHead own us b) w.heap.size (fun _ => False) v e sz rows

/-- A call of function g: it comes back with results that R likes. -/
def CallsR (P : Program) (g : Nat) (vs : List Value) (w : World) (R : Value → World → Prop) : Prop :=
  (∃ fn, P.funcs[g]? = some fn ∧ (fn.name == "runtime.NumGoroutine") = false ∧ fn.body.isNone = false ∧ Calls P g vs.toArray w fun e w' => ∃ v, e = .returned v ∧ R v w') ∨
  ∃ v w', (callFunc g vs.toArray).run P w = .ok (.value v) w' ∧ R v w'

/-- THE CONTRACT: called with these data, function g returns these data, whatever the memory; what was there stays as it was. -/
def AC (P : Program) (g : Nat) (args : List CV) (own : OwnRes) (res : List CV) : Prop :=
  ∀ (w : World) (D : Nat → Prop) (vs : List Value), (∀ b, D b → b < w.heap.size) → CVReps w D args vs →
    CallsR P g vs w fun v w' => Below w.heap.size w w' ∧ ∃ us, v = packV us ∧ ResOk w w' D own res us

/-- What a call is handed. -/
def tocv (H : Hp) : AV → Option (Prop × CV × List Nat)
  | .iv x => some (True, .iv x, [])
  | .agg cs => some (True, .agg cs, [])
  | .nils => some (True, .iv (.sl []), [])
  | .hs h st => match H h with | .blk _ st' _ _ rows => some (st = st', .iv (.sl rows), [h]) | .none => none
  | .hv h st off len => match H h with | .blk _ st' _ _ rows => some (st = st' ∧ off + len ≤ rows.length, .iv (.sl ((rows.drop off).take len)), [h]) | .none => none
  | _ => none

def tocvs (H : Hp) : List AV → Option (Prop × List CV × List Nat)
  | [] => some (True, [], [])
  | x :: xs => match tocv H x, tocvs H xs with
    | some (c, v, ms), some (c', vs, ms') => some (c ∧ c', v :: vs, ms ++ ms')
    | _, _ => none

section
variable {M : Nat → Prop} {w0 : World} {D0 : Nat → Prop} {N : Nat} {f : Fr} {H : Hp} {β : Nat → Value} {a : Act} {w : World}

theorem tocv_sound (R : Rel M w0 D0 N f H β a w) {x : AV} {v : Value} (hx : AVRep w (DD H β D0) H β x v) {c : Prop} {y : CV} {ms : List Nat} (ht : tocv H x = some (c, y, ms)) (hc : c) :
    CVRep w (DD (frzAll ms H) β D0) y v := by
  have key : ∀ x', tcells H x = some (c, [x'], ms) → (∀ cs, v ≠ .agg cs) → Rep w (DD (frzAll ms H) β D0) x' v := by
    intro x' h hv
    have := tcells_sound R hx h hc
    have e : v.cells = #[v] := by cases v <;> first | rfl | exact (hv _ rfl).elim
    rw [e] at this
    exact this.1
  unfold tocv at ht
  split at ht
  · injection ht with ht; injection ht with e1 e2; injection e2 with e2 e3; subst e1 e2 e3
    simpa only [CVRep, AVRep, frzAll] using hx
  · injection ht with ht; injection ht with e1 e2; injection e2 with e2 e3; subst e1 e2 e3
    simpa only [CVRep, AVRep, frzAll] using hx
  · injection ht with ht; injection ht with e1 e2; injection e2 with e2 e3; subst e1 e2 e3
    simp only [AVRep] at hx; subst hx
    exact .nil _ _ (Nat.zero_le _)
  · rename_i h st
    split at ht
    · rename_i fz st' e sz rows hH
      injection ht with ht; injection ht with e1 e2; injection e2 with e2 e3; subst e1 e2 e3
      refine key _ (by simp [tcells, hH]) ?_
      simp only [AVRep] at hx
      have hv := hx.2 (by rw [hH]; exact hc)
      obtain ⟨ad, cap, hb, _⟩ := R.slice_len hH
      intro cs he; rw [hv, hb] at he; cases he
    · cases ht
  · rename_i h st off len
    split at ht
    · rename_i fz st' e sz rows hH
      injection ht with ht; injection ht with e1 e2; injection e2 with e2 e3; subst e1 e2 e3
      refine key _ (by simp [tcells, hH]) ?_
      simp only [AVRep] at hx
      intro cs he
      rcases hx.2 (by rw [hH]; exact hc.1) with ⟨_, ad, cap, hv, _⟩ | ⟨g, n, cap, cap', hb, hv, _⟩ <;> rw [hv] at he <;> cases he
    · cases ht
  · cases ht

theorem tocvs_sound (R : Rel M w0 D0 N f H β a w) : ∀ {xs : List AV} {vs : List Value} {c : Prop} {ys : List CV} {ms : List Nat}, AVAll w (DD H β D0) H β xs vs → tocvs H xs = some (c, ys, ms) → c → CVReps w (DD (frzAll ms H) β D0) ys vs
  | [], [], c, ys, ms, _, ht, hc => by
    simp only [tocvs] at ht; injection ht with ht; injection ht with e1 e2; injection e2 with e2 e3; subst e1 e2 e3
    trivial
  | x :: xs, v :: vs, c, ys, ms, hx, ht, hc => by
    cases hx with
    | cons hx hxs =>
    simp only [tocvs] at ht
    split at ht
    · rename_i c1 y1 m1 c2 y2 m2 h1 h2
      injection ht with ht; injection ht with e1 e2; injection e2 with e2 e3; subst e1 e2 e3
      exact ⟨(tocv_sound R hx h1 hc.1).mono (Grows.of_sub (DD_frz _ _ H (by simp +contextual))), (tocvs_sound R hxs h2 hc.2).mono (Grows.of_sub (DD_frz _ _ H (by simp +contextual)))⟩
    · cases ht
  | [], _ :: _, _, _, _, hx, _, _ => by cases hx
  | _ :: _, [], _, _, _, hx, _, _ => by cases hx

/-- .. a nil slice as itself. -/
def tocvN (H : Hp) (x : AV) : Option (Prop × CV × List Nat) :=
  match x with
  | .nils => some (True, .val (.slice none 0 0), [])
  | x => tocv H x
def tocvsN (H : Hp) : List AV → Option (Prop × List CV × List Nat)
  | [] => some (True, [], [])
  | x :: xs => match tocvN H x, tocvsN H xs with
    | some (c, v, ms), some (c', vs, ms') => some (c ∧ c', v :: vs, ms ++ ms')
    | _, _ => none

theorem tocvN_sound (R : Rel M w0 D0 N f H β a w) {x : AV} {v : Value} (hx : AVRep w (DD H β D0) H β x v) {c : Prop} {y : CV} {ms : List Nat} (ht : tocvN H x = some (c, y, ms)) (hc : c) :
    CVRep w (DD (frzAll ms H) β D0) y v := by
  unfold tocvN at ht
  split at ht
  · injection ht with ht; injection ht with e1 e2; injection e2 with e2 e3; subst e1 e2 e3
    simpa only [CVRep, AVRep] using hx
  · exact tocv_sound R hx ht hc

theorem tocvsN_sound (R : Rel M w0 D0 N f H β a w) : ∀ {xs : List AV} {vs : List Value} {c : Prop} {ys : List CV} {ms : List Nat}, AVAll w (DD H β D0) H β xs vs → tocvsN H xs = some (c, ys, ms) → c → CVReps w (DD (frzAll ms H) β D0) ys vs
  | [], [], c, ys, ms, _, ht, hc => by
    simp only [tocvsN] at ht; injection ht with ht; injection ht with e1 e2; injection e2 with e2 e3; subst e1 e2 e3
    trivial
  | x :: xs, v :: vs, c, ys, ms, hx, ht, hc => by
    cases hx with
    | cons hx hxs =>
    simp only [tocvsN] at ht
    split at ht
    · rename_i c1 y1 m1 c2 y2 m2 h1 h2
      injection ht with ht; injection ht with e1 e2; injection e2 with e2 e3; subst e1 e2 e3
      exact ⟨(tocvN_sound R hx h1 hc.1).mono (Grows.of_sub (DD_frz _ _ H (by simp +contextual))), (tocvsN_sound R hxs h2 hc.2).mono (Grows.of_sub (DD_frz _ _ H (by simp +contextual)))⟩
    · cases ht
  | [], _ :: _, _, _, _, hx, _, _ => by cases hx
  | _ :: _, [], _, _, _, hx, _, _ => by cases hx

/-- Nothing in it points into memory. -/
def FlatI : IV → Prop
  | .sl rows => rows = []
  | _ => True
def FlatCV : CV → Prop
  | .iv x => FlatI x
  | .agg cs => ∀ x ∈ cs, FlatI x
  | .val _ => True
def FlatRes (own : OwnRes) (res : List CV) : Prop :=
  match own with
  | none => ∀ c ∈ res, FlatCV c
  | some (i, _, _, rows) => (∀ r ∈ rows, ∀ x ∈ r, FlatI x) ∧ ∀ (j : Nat) c, j ≠ i → res[j]? = some c → FlatCV c

theorem Rep.flat {D D' : Nat → Prop} {w' : World} {x : IV} {v : Value} (h : Rep w D x v) (hf : FlatI x) : Rep w' D' x v := by
  cases h with
  | int k n => exact .int k n
  | bool b => exact .bool b
  | raw v hv => exact .raw v hv
  | nil a cap hcap => exact .nil a cap hcap
  | sl rows g o cap sz cell hsz hl hcap hg hD hc hr =>
    simp only [FlatI] at hf; subst hf
    exact .nil _ _ hcap

theorem Reps.flat {D D' : Nat → Prop} {w' : World} : ∀ {xs : List IV} {vs : List Value}, Reps w D xs vs → (∀ x ∈ xs, FlatI x) → Reps w' D' xs vs
  | [], [], _, _ => trivial
  | _ :: _, _ :: _, h, hf => ⟨h.1.flat (hf _ (by simp)), Reps.flat h.2 fun x hx => hf x (by simp [hx])⟩
  | [], _ :: _, h, _ => h.elim
  | _ :: _, [], h, _ => h.elim

theorem CVRep.flat {D D' : Nat → Prop} {w' : World} {c : CV} {v : Value} (h : CVRep w D c v) (hf : FlatCV c) : CVRep w' D' c v := by
  cases c with
  | iv x => exact Rep.flat h hf
  | agg cs => obtain ⟨a, rfl, hr⟩ := h; exact ⟨a, rfl, hr.flat hf⟩
  | val u => exact h

def rAV (H : Hp) (d : Nat) (own : OwnRes) (j : Nat) : List CV → List AV
  | [] => []
  | c :: cs => (match own with | some (i, _) => if i = j then .hs d ((H d).stamp + 1) else c.av | none => c.av) :: rAV H d own (j + 1) cs

def packA : List AV → AV
  | [] => .undef
  | [x] => x
  | l => .tup l

def ownH (H : Hp) (d : Nat) : OwnRes → List (Nat × HC)
  | none => []
  | some (_, e, sz, rows) => [(d, .blk false ((H d).stamp + 1) e sz rows)]

theorem packV_rep {D : Nat → Prop} : ∀ (l : List AV) (us : List Value), AVReps w D H β l us → AVRep w D H β (packA l) (packV us)
  | [], [], _ => by simp only [packA, packV, AVRep]; rfl
  | [x], [v], h => by simp only [AVReps] at h; exact h.1
  | x :: y :: l, v :: u :: us, h => by
    simp only [packA, packV, AVRep]
    exact ⟨_, rfl, h⟩
  | [], _ :: _, h => by simp [AVReps] at h
  | _ :: _, [], h => by simp [AVReps] at h
  | [_], _ :: _ :: _, h => by simp [AVReps] at h
  | _ :: _ :: _, [_], h => by simp [AVReps] at h

theorem rAV_rep {D : Nat → Prop} {d : Nat} {H0 : Hp} {own : OwnRes} : ∀ (res : List CV) (us : List Value) (j : Nat), us.length = res.length →
    (∀ (k : Nat) c v, (∀ i e sz rows, own = some (i, e, sz, rows) → j + k ≠ i) → res[k]? = some c → us[k]? = some v → CVRep w D c v) →
    (∀ (k : Nat) v i e sz rows, own = some (i, e, sz, rows) → j + k = i → us[k]? = some v → AVRep w D H β (.hs d ((H0 d).stamp + 1)) v) → AVReps w D H β (rAV H0 d own j res) us
  | [], [], _, _, _, _ => by simp only [rAV, AVReps]
  | c :: cs, v :: vs, j, hl, h1, h2 => by
    simp only [rAV, AVReps]
    refine ⟨?_, rAV_rep cs vs (j + 1) (by simpa using hl) (fun k c' v' hk hc hv => h1 (k + 1) c' v' (fun i e sz rows ho => by have := hk i e sz rows ho; omega) (by simpa using hc) (by simpa using hv)) (fun k v' i e sz rows ho hk hv => h2 (k + 1) v' i e sz rows ho (by omega) (by simpa using hv))⟩
    cases own with
    | none => exact (h1 0 c v (by simp) rfl rfl).av
    | some p =>
      obtain ⟨i, e, sz, rows⟩ := p
      simp only
      split
      · rename_i hij; exact h2 0 v i e sz rows rfl (by omega) rfl
      · rename_i hij; exact (h1 0 c v (by rintro i' e' sz' rows' ⟨⟩; omega) rfl rfl).av
  | [], _ :: _, _, hl, _, _ => by simp at hl
  | _ :: _, [], _, hl, _, _ => by simp at hl

/-- Behind a call. -/
theorem Rel.below (R : Rel M w0 D0 N f H β a w) {w' : World} (hb : Below w.heap.size w w') : Rel M w0 D0 N f H β a w' := by
  have g : Grows w (DD H β D0) w' (DD H β D0) := ⟨hb.size, fun _ _ h => h, fun b h _ => hb.block b h⟩
  have := R.step (w' := w') (H' := H) (β' := β) (dst := none) (v := .dead) (val := Go.undef) hb.os hb.tape hb.output g (fun k h1 _ => hb.block k (Nat.lt_of_lt_of_le h1 R.size)) (HStep.refl _ _) (by simp [AVRep])
    (fun h st e sz rows hh => (R.own h st e sz rows hh).mono g fun k hk => hb.block k ((R.own h st e sz rows hh).lt hk).1)
    (fun h st e sz rows hh => ⟨(R.frz h st e sz rows hh).1, (R.frz h st e sz rows hh).2.1.mono g, (R.frz h st e sz rows hh).2.2⟩) R.dis (by simp)
  exact this

theorem call_next (R : Rel M w0 D0 N f H β a w) {own : OwnRes} {res : List CV} {us : List Value} {w' : World} (hb : Below w.heap.size w w') (hr : ResOk w w' (DD H β D0) own res us) {d : Nat} (hd : d < N) :
    ∃ β', Rel M w0 D0 N (upd f d (packA (rAV H d own 0 res))) (applyH (ownH H d own) H) β' (a.put (some d) (packV us)) w' := by
  cases own with
  | none =>
    have R1 := R.below hb
    refine ⟨β, R1.value (dst := some d) (packV_rep _ _ (rAV_rep res us 0 hr.len (fun k c v _ hc hv => (hr.val k c v (by simp) hc hv).mono (Grows.of_sub fun b hb => .inl hb)) (by simp))) (by rintro _ ⟨⟩; exact hd)⟩
  | some p =>
    obtain ⟨i, e, sz, rows⟩ := p
    obtain ⟨v, hv, hi, hown⟩ := hr.own i e sz rows rfl
    have hX : ∀ b, (DD H β D0 b ∨ ownHead (some (i, e, sz, rows)) us b) ↔ (DD H β D0 b ∨ headOf v = some b) := by
      intro b
      simp only [ownHead, hv, Option.some.injEq, exists_eq_left']
    have hown' : Own w' (fun b => DD H β D0 b ∨ headOf v = some b) w.heap.size (fun _ => False) v e sz rows := hown.mono (Grows.of_sub fun b hb => (hX b).2 hb) fun _ _ => rfl
    obtain ⟨β', hβ, hβo, R'⟩ := R.fresh (w' := w') (h := d) (v := v) (dst := none) (x := .dead) (val := Go.undef) (st := (H d).stamp + 1) (by omega) hb.os hb.tape hb.output hb.size (fun k hk => hb.block k hk) hown' (fun _ _ _ => by simp [AVRep]) (by simp)
    refine ⟨β', R'.value (dst := some d) (packV_rep _ _ (rAV_rep res us 0 hr.len (fun k c u hk hc hu => ?_) (fun k u i' e' sz' rows' ho hk hu => ?_))) (by rintro _ ⟨⟩; exact hd)⟩
    · refine (hr.val k c u (fun i e sz rows ho => by have := hk i e sz rows ho; omega) hc hu).mono (Grows.of_sub fun b hb => ?_)
      rw [hX]
      rcases hb with hb | ⟨k, hm, hk⟩
      · exact .inl (.inl hb)
      · by_cases hkd : k = d
        · subst hkd; rw [hβ] at hk; exact .inr hk
        · rw [updH_ne _ _ hkd] at hm
          rw [hβo k hkd] at hk
          exact .inl (.inr ⟨k, hm, hk⟩)
    · injection ho with ho; injection ho with e1 _
      rw [Nat.zero_add] at hk
      subst hk; subst e1
      rw [hv] at hu; injection hu with hu; subst hu
      simp only [AVRep, updH_same, HC.stamp]
      exact ⟨Nat.le_refl _, fun _ => hβ.symm⟩
end
end Go.AL
