/-
  The abstract logic: whole functions.
-/
import Derived.Test.YthgecppfgdadiaaAbsE
namespace Go.AL
open Go.RowKit
set_option linter.unusedSimpArgs false
set_option linter.unusedVariables false

abbrev Post := Exit → Fr → Hp → Prop

def SeqQ (K : Fr → Hp → Prop) (Q : Post) : Post
  | .normal, f, H => K f H
  | e, f, H => Q e f H
def BlockQ (id : Nat) (Q : Post) : Post
  | .exit id', f, H => if id' = id then Q .normal f H else Q (.exit id') f H
  | e, f, H => Q e f H
def ScopeQ (Q : Post) : Post
  | .goto _, _, _ => False
  | e, f, H => Q e f H
def LoopQ (I : Fr → Hp → Prop) (μ : Fr → Hp → Nat) (n : Nat) (Q : Post) : Post
  | .normal, f, H => I f H ∧ μ f H < n
  | e, f, H => Q e f H
def OrdQ (ops : Array Oper) (Q : Post) (f : Fr) (H : Hp) (lg : Log) : Prop := logOk ops lg.reverse = true ∧ Q .normal f H
def PlainQ (Q : Post) (f : Fr) (H : Hp) (_ : Log) : Prop := Q .normal f H

/-- A nil slice in slot t becomes a handle of its own. -/
def ghostF (f : Fr) (H : Hp) (t h : Nat) : Fr := upd f t (.hs h ((H h).stamp + 1))
def ghostH (H : Hp) (h e sz : Nat) : Hp := updH H h (.blk false ((H h).stamp + 1) e sz [])

/-- The same state, seen otherwise. -/
inductive Weak : Fr → Hp → Fr → Hp → Prop
  | refl (f : Fr) (H : Hp) : Weak f H f H
  | nil (t h e sz : Nat) {f f' : Fr} {H H' : Hp} (hf : f t = .nils) (k : Weak (ghostF f H t h) (ghostH H h e sz) f' H') : Weak f H f' H'
  | nilv (t : Nat) {f f' : Fr} {H H' : Hp} (hf : f t = .nils) (k : Weak (upd f t (.iv (.sl []))) H f' H') : Weak f H f' H'
  | iv (t h st : Nat) (b : Bool) (e sz : Nat) (rows : List (List IV)) {f f' : Fr} {H H' : Hp} (hf : f t = .hs h st) (hH : H h = .blk b st e sz rows) (k : Weak (upd f t (.iv (.sl rows))) (updH H h (.blk true st e sz rows)) f' H') : Weak f H f' H'

/-- A condition's branches. -/
def ACnd (v : AV) (X Y : Prop) : Prop :=
  match v with
  | .iv (.bool b) => (b = true → X) ∧ (b = false → Y)
  | .ub => X ∧ Y
  | _ => False

def AW (P : Program) : Code → Post → Fr → Hp → Prop
  | .skip, Q, f, H => Q .normal f H
  | .region _ ops false, Q, f, H => AOps P (dsts ops) ops.toList (PlainQ Q) f H []
  | .region _ ops true, Q, f, H => tmpsOk ops = true ∧ AOps P (dsts ops) ops.toList (OrdQ ops Q) f H []
  | .seq x y, Q, f, H => AW P x (SeqQ (AW P y Q) Q) f H
  | .cond c x y, Q, f, H => ACnd (ev f c) (AW P x Q f H) (AW P y Q f H)
  | .block id c, Q, f, H => AW P c (BlockQ id Q) f H
  | .loop c, Q, f, H => ∃ (I : Fr → Hp → Prop) (μ : Fr → Hp → Nat), (∃ f' H', Weak f H f' H' ∧ I f' H') ∧ ∀ f H, I f H → AW P c (LoopQ I μ (μ f H) Q) f H
  | .exit id, Q, f, H => Q (.exit id) f H
  | .scope c, Q, f, H => AW P c (ScopeQ Q) f H
  | .label _, Q, f, H => Q .normal f H
  | .ret, Q, f, H => Q .ret f H
  | _, _, _, _ => False

def codeOk (N : Nat) : Code → Bool
  | .region _ ops _ => ops.toList.all fun o => match o.dst with | some d => decide (d < N) | none => true
  | .seq x y => codeOk N x && codeOk N y
  | .cond _ x y => codeOk N x && codeOk N y
  | .block _ c => codeOk N c
  | .loop c => codeOk N c
  | .scope c => codeOk N c
  | _ => true

/-- A loop whose measure hangs on more than the model's state. -/
theorem wp_loop_rel {P : Program} {c : Code} {Q : Exit → Act → World → Prop} (I : Nat → Act → World → Prop) (round : ∀ n a w, I n a w → c.wp P (Exit.then (fun a' w' => ∃ m, m < n ∧ I m a' w') Q) a w) {n : Nat} {a : Act} {w : World} (h₀ : I n a w) : (Code.loop c).wp P Q a w := by
  intro b k cs
  have key : ∀ n a w, I n a w → ∃ e a' w', Q e a' w' ∧ Arrives P (lone (b.at a (.code c :: .inLoop c :: k)) cs w) b k cs e a' w' := by
    intro n
    induction n using Nat.strongRecOn with
    | _ n ih =>
      intro a w hI
      obtain ⟨e, a₁, w₁, hq, harr⟩ := round n a w hI b (.inLoop c :: k) cs
      cases e with
      | normal =>
        obtain ⟨m, hlt, hI₁⟩ := hq
        obtain ⟨e₂, a₂, w₂, hq₂, harr₂⟩ := ih m hlt a₁ w₁ hI₁
        exact ⟨e₂, a₂, w₂, hq₂, .of_steps (Steps.trans harr (.one step_inLoop)) harr₂⟩
      | exit id => exact ⟨_, a₁, w₁, hq, .pass (x := .inLoop c) rfl (fun _ _ => .inl (by simp)) harr⟩
      | goto l => exact ⟨_, a₁, w₁, hq, .pass (x := .inLoop c) rfl (fun _ _ => .inl (by simp)) harr⟩
      | ret => exact ⟨_, a₁, w₁, hq, .pass (x := .inLoop c) rfl (fun _ _ => .inl (by simp)) harr⟩
      | panic ch => exact ⟨_, a₁, w₁, hq, .pass (x := .inLoop c) rfl (fun _ _ => .inl (by simp)) harr⟩
      | outgrown => exact ⟨_, a₁, w₁, hq, .pass (x := .inLoop c) rfl (fun _ _ => .inl (by simp)) harr⟩
  obtain ⟨e, a', w', hq, harr⟩ := key n a w h₀
  exact ⟨e, a', w', hq, .of_steps (.one step_loop) harr⟩

section
variable {P : Program} {M : Nat → Prop} {w0 : World} {D0 : Nat → Prop} {N : Nat}

/-- A post of ours, of the model's own states. -/
def Conc (M : Nat → Prop) (w0 : World) (D0 : Nat → Prop) (N : Nat) (Q : Post) : Exit → Act → World → Prop
  | .panic _, _, _ => False
  | .outgrown, _, _ => False
  | e, a, w => ∃ f H β, Q e f H ∧ Rel M w0 D0 N f H β a w

theorem Rel.put_self {f : Fr} {H : Hp} {β : Nat → Value} {a : Act} {w : World} (R : Rel M w0 D0 N f H β a w) {t : Nat} {v : Value} (ht : t < N) (hx : a.tmps.getD t Go.undef = v) : a.put (some t) v = a := by
  have h1 : t < a.tmps.size := by rw [R.tsize]; exact ht
  have h2 : a.tmps[t] = v := by
    rw [Array.getD_eq_getD_getElem?, Array.getElem?_eq_getElem h1] at hx; exact hx
  have h3 : a.tmps.setIfInBounds t v = a.tmps := by
    rw [Array.setIfInBounds, dif_pos h1, ← h2]
    exact Array.set_getElem_self h1
  show ({ a with tmps := a.tmps.setIfInBounds t v } : Act) = a
  rw [h3]

theorem Rel.in_range {f : Fr} {H : Hp} {β : Nat → Value} {a : Act} {w : World} (R : Rel M w0 D0 N f H β a w) {t : Nat} (h : ∀ v, a.tmps.getD t Go.undef = v → v ≠ Go.undef) : t < N := by
  rcases Nat.lt_or_ge t N with h' | h'
  · exact h'
  · exact (h _ (by rw [Array.getD_eq_getD_getElem?, Array.getElem?_eq_none (by rw [R.tsize]; exact h')]; rfl) rfl).elim

theorem Rel.weak {f f' : Fr} {H H' : Hp} (k : Weak f H f' H') : ∀ {β : Nat → Value} {a : Act} {w : World}, Rel M w0 D0 N f H β a w → ∃ β', Rel M w0 D0 N f' H' β' a w := by
  induction k with
  | refl f H => exact fun R => ⟨_, R⟩
  | nil t h e sz hf k ih =>
    rename_i f f' H H'
    intro β a w R
    have hx := R.tmps t
    rw [hf] at hx
    simp only [AVRep] at hx
    have ht : t < N := by
      rcases Nat.lt_or_ge t N with h | h
      · exact h
      · rw [Array.getD_eq_getD_getElem?, Array.getElem?_eq_none (by rw [R.tsize]; exact h)] at hx; cases hx
    obtain ⟨β', hb, _, R'⟩ := R.fresh (w' := w) (h := h) (e := e) (sz := sz) (rows := []) (v := .slice none 0 0) (dst := some t) (x := .hs h ((H h).stamp + 1)) (val := .slice none 0 0) (st := (H h).stamp + 1) (by omega) rfl rfl rfl (Nat.le_refl _) (fun _ _ => rfl)
      ⟨by simp, .inl ⟨rfl, rfl⟩⟩ (fun β' hb D => by simp only [AVRep, updH_same, HC.stamp]; exact ⟨Nat.le_refl _, fun _ => hb.symm⟩) (by rintro _ ⟨⟩; exact ht)
    have hput : a.put (some t) (.slice none 0 0) = a := by
      have h1 : t < a.tmps.size := by rw [R.tsize]; exact ht
      have h2 : a.tmps[t] = .slice none 0 0 := by
        rw [Array.getD_eq_getD_getElem?, Array.getElem?_eq_getElem h1] at hx; exact hx
      have h3 : a.tmps.setIfInBounds t (.slice none 0 0) = a.tmps := by
        rw [Array.setIfInBounds, dif_pos h1, ← h2]
        exact Array.set_getElem_self h1
      show ({ a with tmps := a.tmps.setIfInBounds t (.slice none 0 0) } : Act) = a
      rw [h3]
    rw [hput] at R'
    exact ih R'
  | nilv t hf k ih =>
    rename_i f f' H H'
    intro β a w R
    have hx := R.tmps t
    rw [hf] at hx
    simp only [AVRep] at hx
    have ht : t < N := R.in_range (t := t) (fun v hv => by rw [hx] at hv; subst hv; intro h; cases h)
    have R' := R.value (dst := some t) (v := .iv (.sl [])) (val := .slice none 0 0) (by simp only [AVRep]; exact .nil none 0 (Nat.zero_le _)) (by rintro _ ⟨⟩; exact ht)
    rw [R.put_self ht hx] at R'
    exact ih R'
  | iv t h st b e sz rows hf hH k ih =>
    rename_i f f' H H'
    intro β a w R
    have R1 := R.freeze h
    rw [hH] at R1
    simp only [HC.frz] at R1
    have hfr := R1.frz h st e sz rows (by rw [updH_same])
    have hx := R1.tmps t
    rw [hf] at hx
    simp only [AVRep, updH_same, HC.stamp] at hx
    have hv := hx.2 trivial
    have hrep := hfr.2.1
    rw [← hv] at hrep
    have ht : t < N := R.in_range (t := t) (fun v hv' => by rw [hv'] at hrep; intro h; rw [h] at hrep; cases hrep)
    have R' := R1.value (dst := some t) (v := .iv (.sl rows)) (val := a.tmps.getD t Go.undef) (by simp only [AVRep]; exact hrep) (by rintro _ ⟨⟩; exact ht)
    rw [R.put_self ht rfl] at R'
    exact ih R'

theorem aw_sound (hm : P.follows .mixedOrders = true) : ∀ (c : Code) (Q : Post) (f : Fr) (H : Hp) (β : Nat → Value) (a : Act) (w : World), codeOk N c = true → AW P c Q f H → Rel M w0 D0 N f H β a w → c.wp P (Conc M w0 D0 N Q) a w
  | .skip, Q, f, H, β, a, w, _, h, R => wp_skip ⟨f, H, β, h, R⟩
  | .region id ops false, Q, f, H, β, a, w, hd, h, R => by
    simp only [codeOk, List.all_eq_true] at hd
    refine wp_region_list (aops_list (fun f H lg β a w hk R => ⟨f, H, β, hk, R⟩) ops.toList f H [] β a w (fun o ho d hod => ?_) h R)
    have := hd o ho
    rw [hod] at this; simpa using this
  | .region id ops true, Q, f, H, β, a, w, hd, h, R => by
    simp only [codeOk, List.all_eq_true] at hd
    obtain ⟨h1, h2⟩ := h
    refine wp_region_any hm (aops_any (f := f) (H := H) (β := β) (fun i hi d hod => ?_) (fun f H lg hk => ⟨hk.1, fun β a w R => ⟨f, H, β, hk.2, R⟩⟩) h1 h2 R.drew)
    have := hd (ops.getD i default) (by simp [Array.getD_eq_getD_getElem?, hi])
    rw [hod] at this; simpa using this
  | .seq x y, Q, f, H, β, a, w, hd, h, R => by
    simp only [codeOk, Bool.and_eq_true] at hd
    refine wp_seq (wp_mono (aw_sound hm x _ f H β a w hd.1 h R) fun e a w hq => ?_)
    cases e with
    | normal => obtain ⟨f, H, β, hk, R⟩ := hq; exact aw_sound hm y Q f H β a w hd.2 hk R
    | panic _ => exact hq.elim
    | outgrown => exact hq.elim
    | _ => exact hq
  | .cond c x y, Q, f, H, β, a, w, hd, h, R => by
    simp only [codeOk, Bool.and_eq_true] at hd
    have hc := R.ev c
    unfold AW ACnd at h
    split at h
    · rename_i b hb
      rw [hb] at hc
      simp only [AVRep] at hc
      generalize hv : a.eval c = v at hc
      cases hc
      exact wp_cond_split hv (fun ht => aw_sound hm x Q f H β a w hd.1 (h.1 ht) R) (fun hf => aw_sound hm y Q f H β a w hd.2 (h.2 hf) R)
    · rename_i hb
      rw [hb] at hc
      simp only [AVRep] at hc
      obtain ⟨b, hc⟩ := hc
      exact wp_cond_split hc (fun ht => aw_sound hm x Q f H β a w hd.1 h.1 R) (fun hf => aw_sound hm y Q f H β a w hd.2 h.2 R)
    · exact h.elim
  | .block id c, Q, f, H, β, a, w, hd, h, R => by
    simp only [codeOk] at hd
    refine wp_block (wp_mono (aw_sound hm c _ f H β a w hd h R) fun e a w hq => ?_)
    cases e with
    | exit id' =>
      obtain ⟨f, H, β, hk, R⟩ := hq
      simp only [BlockQ] at hk
      simp only [Exit.inBlock]
      split at hk
      · rename_i hid; rw [if_pos hid]; exact ⟨f, H, β, hk, R⟩
      · rename_i hid; rw [if_neg hid]; exact ⟨f, H, β, hk, R⟩
    | panic _ => exact hq.elim
    | outgrown => exact hq.elim
    | _ => exact hq
  | .loop c, Q, f, H, β, a, w, hd, h, R => by
    simp only [codeOk] at hd
    obtain ⟨I, μ, ⟨f', H', hk, h0⟩, hr⟩ := h
    obtain ⟨β', R'⟩ := R.weak hk
    refine wp_loop_rel (fun n a w => ∃ f H β, I f H ∧ Rel M w0 D0 N f H β a w ∧ μ f H = n) ?_ (n := μ f' H') ⟨f', H', β', h0, R', rfl⟩
    rintro n a w ⟨f, H, β, hI, R, rfl⟩
    refine wp_mono (aw_sound hm c _ f H β a w hd (hr f H hI) R) fun e a w hq => ?_
    cases e with
    | normal => obtain ⟨f', H', β', hk, R'⟩ := hq; exact ⟨_, hk.2, f', H', β', hk.1, R', rfl⟩
    | panic _ => exact hq.elim
    | outgrown => exact hq.elim
    | _ => exact hq
  | .exit id, Q, f, H, β, a, w, _, h, R => wp_exit ⟨f, H, β, h, R⟩
  | .scope c, Q, f, H, β, a, w, hd, h, R => by
    simp only [codeOk] at hd
    refine wp_scope_straight (wp_mono (aw_sound hm c _ f H β a w hd h R) fun e a w hq => ?_)
    cases e with
    | goto l => obtain ⟨f, H, β, hk, R⟩ := hq; exact hk.elim
    | panic _ => exact hq.elim
    | outgrown => exact hq.elim
    | _ => exact hq
  | .label l, Q, f, H, β, a, w, _, h, R => wp_label ⟨f, H, β, h, R⟩
  | .ret, Q, f, H, β, a, w, _, h, R => wp_ret ⟨f, H, β, h, R⟩
  | .rangeFunc .., Q, f, H, β, a, w, _, h, R => h.elim
  | .goto _, Q, f, H, β, a, w, _, h, R => h.elim
  | .refuse _, Q, f, H, β, a, w, _, h, R => h.elim

/-! ### A whole function -/

def initF (args : List CV) : Fr := fun t => ((args.map CV.av)[t]?).getD .undef
def initH : Hp := fun _ => .none

/-- A result's data. -/
def retv (P : Program) (f : Fr) (H : Hp) : ResultVar → Option (Prop × CV × List Nat)
  | .tmp t => tocv H (f t)
  | .cell t ty => match aLoad (ti P ty) H (f t) with
    | some r => match tocv H r.v with
      | some (c, cv, ms) => some (r.c ∧ c, cv, ms)
      | none => none
    | none => none

def RetVal (P : Program) (f : Fr) (H : Hp) (r : ResultVar) (flat : Bool) (c : CV) : Prop :=
  match retv P f H r with
  | some (p, c', ms) => p ∧ c' = c ∧ (flat = true → ms = [])
  | none => False

def RetOwn (f : Fr) (H : Hp) (r : ResultVar) (e sz : Nat) (rows : List (List IV)) : Prop :=
  match r with
  | .tmp t => match f t with
    | .hs h st => match H h with
      | .blk false st' e' sz' rows' => st = st' ∧ e' = e ∧ sz' = sz ∧ rows' = rows
      | _ => False
    | .nils => rows = []
    | _ => False
  | _ => False

def rets (P : Program) (f : Fr) (H : Hp) (own : OwnRes) : Nat → List ResultVar → List CV → Prop
  | _, [], [] => True
  | j, r :: rs, c :: cs => (match own with
      | none => RetVal P f H r false c
      | some (i, e, sz, rows) => if i = j then RetOwn f H r e sz rows else RetVal P f H r true c) ∧ rets P f H own (j + 1) rs cs
  | _, _, _ => False

def RetQ (P : Program) (rs : List ResultVar) (own : OwnRes) (res : List CV) : Post
  | .ret, f, H => rets P f H own 0 rs res ∧ (match own with | none => True | some (i, _) => i < res.length)
  | .normal, f, H => rets P f H own 0 rs res ∧ (match own with | none => True | some (i, _) => i < res.length)
  | _, _, _ => False

def rvS (tmps : Array Value) : ResultVar → Sem Value
  | .tmp t => pure (tmps.getD t Go.undef)
  | .cell a t => do loadVar t (← asAddr (tmps.getD a Go.undef))

theorem retv_sound {f : Fr} {H : Hp} {β : Nat → Value} {a : Act} {w : World} (R : Rel M w0 D0 N f H β a w) {r : ResultVar} {p : Prop} {c : CV} {ms : List Nat} (h : retv P f H r = some (p, c, ms)) (hp : p) :
    ∃ v, (rvS a.tmps r).run P w = .ok v w ∧ CVRep w (DD (frzAll ms H) β D0) c v := by
  unfold retv at h
  split at h
  · rename_i t
    exact ⟨_, rfl, tocv_sound R (R.tmps t) h hp⟩
  · rename_i t ty
    split at h
    · rename_i r hr
      split at h
      · rename_i c' cv ms' ht
        injection h with h; injection h with e1 e2; injection e2 with e2 e3; subst e1 e2 e3
        have hx := R.tmps t
        obtain ⟨_, _, u, hu, hrep⟩ := aLoad_sound R hx hr hp.1
        refine ⟨u, ?_, tocv_sound R hrep ht hp.2⟩
        have : ∃ ad, a.tmps.getD t Go.undef = .pointer (some ad) := by
          cases hft : f t <;> rw [hft] at hx hr <;> simp only [aLoad, reduceCtorEq] at hr <;> simp only [AVRep] at hx
          · obtain ⟨g, o, h, _⟩ := hx; exact ⟨_, h⟩
          · rename_i h st i off
            split at hr
            · rename_i hH
              have hst : st = (H h).stamp := by
                rw [hH]
                simp only [HC.stamp]
                split at hr <;> (injection hr with hr; subst hr; exact hp.1.2.1)
              obtain ⟨g, n, cap, _, h⟩ := hx.2 hst
              exact ⟨_, h⟩
            · cases hr
        obtain ⟨ad, had⟩ := this
        rw [had] at hu
        simp only [rvS, had, asAddr, Sem.run_bind, Sem.run_pure, Result.andThen_ok]
        simpa [Instr.loadAt, Instr.sureAddr] using hu
      · cases h
    · cases h

theorem rets_sound {f : Fr} {H : Hp} {β : Nat → Value} {a : Act} {w : World} (R : Rel (fun _ => False) w0 D0 N f H β a w) {own : OwnRes} : ∀ (rs : List ResultVar) (j : Nat) (cs : List CV), rets P f H own j rs cs →
    ∃ us : List Value, (rs.mapM (rvS a.tmps)).run P w = .ok us w ∧ us.length = cs.length ∧
      (∀ (k : Nat) c v, (∀ i e sz rows, own = some (i, e, sz, rows) → j + k ≠ i) → cs[k]? = some c → us[k]? = some v → ∃ ms, (own.isSome = true → ms = []) ∧ CVRep w (DD (frzAll ms H) β D0) c v) ∧
      (∀ (k : Nat) v i e sz rows, own = some (i, e, sz, rows) → j + k = i → us[k]? = some v → Own w (DD H β D0) w0.heap.size (fun _ => False) v e sz rows ∧ ∀ b, headOf v = some b → DD H β D0 b)
  | [], j, [], _ => ⟨[], by simp, rfl, by simp, by simp⟩
  | r :: rs, j, c :: cs, h => by
    simp only [rets] at h
    obtain ⟨h1, h2⟩ := h
    obtain ⟨us, a1, a2, a3, a4⟩ := rets_sound R rs (j + 1) cs h2
    have hval : ∀ flat, RetVal P f H r flat c → ∃ v ms, (rvS a.tmps r).run P w = .ok v w ∧ (flat = true → ms = []) ∧ CVRep w (DD (frzAll ms H) β D0) c v := by
      intro flat hv
      unfold RetVal at hv
      split at hv
      · rename_i p c' ms hr
        obtain ⟨hp, rfl, hf⟩ := hv
        obtain ⟨v, hv1, hv2⟩ := retv_sound R hr hp
        exact ⟨v, ms, hv1, hf, hv2⟩
      · exact hv.elim
    cases own with
    | none =>
      obtain ⟨v, ms, hv1, hf, hv2⟩ := hval false h1
      refine ⟨v :: us, by simp [List.mapM_cons, hv1, a1], by simp [a2], fun k c' v' hk hc hu => ?_, by simp⟩
      cases k with
      | zero => simp at hc hu; subst hc hu; exact ⟨ms, by simp, hv2⟩
      | succ k => exact a3 k c' v' (by simp) (by simpa using hc) (by simpa using hu)
    | some p =>
      obtain ⟨i, e, sz, rows⟩ := p
      simp only at h1
      split at h1
      · rename_i hij
        have ho : ∃ v, (rvS a.tmps r).run P w = .ok v w ∧ Own w (DD H β D0) w0.heap.size (fun _ => False) v e sz rows ∧ ∀ b, headOf v = some b → DD H β D0 b := by
          unfold RetOwn at h1
          split at h1
          · rename_i t
            have hx := R.tmps t
            split at h1
            · rename_i hh st hft
              split at h1
              · rename_i st' e' sz' rows' hH
                obtain ⟨rfl, rfl, rfl, rfl⟩ := h1
                rw [hft] at hx
                simp only [AVRep] at hx
                have hv := hx.2 (by rw [hH]; rfl)
                refine ⟨_, rfl, by rw [hv]; exact R.own _ _ _ _ _ hH, fun b hb => ?_⟩
                rw [hv] at hb
                exact .inr ⟨hh, by rw [hH]; trivial, hb⟩
              · exact h1.elim
            · rename_i hft
              rw [hft] at hx
              simp only [AVRep] at hx
              subst h1
              refine ⟨_, rfl, by rw [hx]; exact ⟨by simp, .inl ⟨rfl, rfl⟩⟩, fun b hb => by rw [hx] at hb; cases hb⟩
            · exact h1.elim
          · exact h1.elim
        obtain ⟨v, hv1, hv2⟩ := ho
        refine ⟨v :: us, by simp [List.mapM_cons, hv1, a1], by simp [a2], fun k c' v' hk hc hu => ?_, fun k v' i' e' sz' rows' ho hk hu => ?_⟩
        · cases k with
          | zero => exact (hk i e sz rows rfl (by omega)).elim
          | succ k => exact a3 k c' v' (fun i' e' sz' rows' ho => by have := hk i' e' sz' rows' ho; omega) (by simpa using hc) (by simpa using hu)
        · cases k with
          | zero => injection ho with ho; injection ho with e1 ho; injection ho with e2 ho; injection ho with e3 e4; subst e2 e3 e4; simp at hu; subst hu; exact hv2
          | succ k => exact a4 k v' i' e' sz' rows' ho (by omega) (by simpa using hu)
      · rename_i hij
        obtain ⟨v, ms, hv1, hf, hv2⟩ := hval true h1
        refine ⟨v :: us, by simp [List.mapM_cons, hv1, a1], by simp [a2], fun k c' v' hk hc hu => ?_, fun k v' i' e' sz' rows' ho hk hu => ?_⟩
        · cases k with
          | zero => simp at hc hu; subst hc hu; exact ⟨ms, fun _ => hf rfl, hv2⟩
          | succ k => exact a3 k c' v' (fun i' e' sz' rows' ho => by have := hk i' e' sz' rows' ho; omega) (by simpa using hc) (by simpa using hu)
        · cases k with
          | zero => injection ho with ho; injection ho with e1 ho; omega
          | succ k => exact a4 k v' i' e' sz' rows' ho (by omega) (by simpa using hu)
  | [], _, _ :: _, h => by simp [rets] at h
  | _ :: _, _, [], h => by simp [rets] at h

theorem results_run {fn : Func} {a : Act} {w : World} {us : List Value} (h : (fn.results.toList.mapM (rvS a.tmps)).run P w = .ok us w) : (results fn a.tmps).run P w = .ok (packV us) w := by
  have e : results fn a.tmps = (fn.results.mapM (rvS a.tmps) >>= fun vs => pure (if h : vs.size = 1 then vs[0] else .tuple vs)) := by
    unfold results
    congr 1
  rw [e, Array.mapM_eq_mapM_toList]
  simp only [Sem.run_bind, Sem.run_map, h, Result.andThen_ok, Sem.run_pure]
  congr 1
  cases us with
  | nil => rfl
  | cons u us =>
    cases us with
    | nil => rfl
    | cons _ _ => rfl

/-- A FUNCTION's CONTRACT, OUT OF THE WALK THROUGH ITS TEXT. -/
theorem AC.of_body {g : Nat} {args : List CV} {own : OwnRes} {res : List CV} (hm : P.follows .mixedOrders = true) {fn : Func} {body : Code} (hf : P.funcs[g]? = some fn) (hb : fn.body = some body) (hn : (fn.name == "runtime.NumGoroutine") = false)
    (hd : codeOk fn.ntmps body = true) (hargs : args.length ≤ fn.ntmps) (h : AW P body (RetQ P fn.results.toList own res) (initF args) initH) : AC P g args own res := by
  intro w D vs hD hvs
  refine .inl ⟨fn, hf, hn, by rw [hb]; rfl, calls_of_wp hf hb ?_⟩
  have hlen := hvs.length
  have hcv : ∀ (as : List CV) (us : List Value), CVReps w D as us → ∀ t, AVRep w (DD initH (fun _ => default) D) initH (fun _ => default) (initF as t) ((us[t]?).getD Go.undef) := by
    intro as us hu t
    have hDD : ∀ b, DD initH (fun _ => default) D b → D b := by
      intro b hb
      rcases hb with hb | ⟨k, hm, _⟩
      · exact hb
      · exact hm.elim
    induction as generalizing us t with
    | nil =>
      match us, hu with
      | [], _ => simp [initF, AVRep]
    | cons c cs ih =>
      match us, hu with
      | u :: us, hu =>
        cases t with
        | zero => simp only [initF, List.map_cons, List.getElem?_cons_zero, Option.getD_some]; exact (hu.1.mono (Grows.of_sub hDD)).av
        | succ t => simpa only [initF, List.map_cons, List.getElem?_cons_succ] using ih us hu.2 t
  have R : Rel (fun _ => False) w D fn.ntmps (initF args) initH (fun _ => default) { tmps := vs.toArray ++ Array.replicate (fn.ntmps - vs.toArray.size) Go.undef, defers := [] } w := by
    refine ⟨rfl, rfl, rfl, Nat.le_refl _, fun _ _ _ => rfl, fun b hb => ⟨hD b hb, fun h => h⟩, by simp; omega, rfl, fun t => ?_, fun h st e sz rows hh => (by cases hh), fun h st e sz rows hh => (by cases hh), fun h h' _ hm => hm.elim⟩
    have e : (vs.toArray ++ Array.replicate (fn.ntmps - vs.toArray.size) Go.undef).getD t Go.undef = (vs[t]?).getD Go.undef := by
      rw [Array.getD_eq_getD_getElem?, Array.getElem?_append]
      split
      · simp
      · rename_i ht
        simp only [List.size_toArray, Nat.not_lt] at ht
        rw [List.getElem?_eq_none ht]
        simp only [Array.getElem?_replicate]
        split <;> rfl
    rw [e]
    exact hcv args vs hvs t
  refine wp_mono (aw_sound hm body _ _ _ _ _ w hd h R) fun e a w' hq => ?_
  have fin : ∀ f H β, rets P f H own 0 fn.results.toList res ∧ (match own with | none => True | some (i, _) => i < res.length) → Rel (fun _ => False) w D fn.ntmps f H β a w' →
      a.defers = [] ∧ ∃ v, (results fn a.tmps).run P w' = .ok v w' ∧ ∃ v', Ending.returned v = .returned v' ∧ Below w.heap.size w w' ∧ ∃ us, v' = packV us ∧ ResOk w w' D own res us := by
    intro f H β ⟨hr, hi⟩ R
    obtain ⟨us, h1, h2, h3, h4⟩ := rets_sound R _ _ _ hr
    refine ⟨R.defers, _, results_run h1, _, rfl, ⟨R.os, R.tape, R.output, R.size, fun k hk => R.keep k hk (fun h => h)⟩, us, rfl, h2, fun j c v hj hc hv => ?_, fun i e sz rows ho => ?_⟩
    · obtain ⟨ms, hms, hrep⟩ := h3 j c v (fun i e sz rows ho => by have := hj i e sz rows ho; omega) hc hv
      refine hrep.mono (Grows.of_sub fun b hb => ?_)
      rcases hb with hb | hb
      · exact .inl hb
      · cases own with
        | none => exact hb.elim
        | some p =>
          obtain ⟨i, e, sz, rows⟩ := p
          obtain ⟨v', hv', hh⟩ := hb
          rw [hms rfl]
          exact (h4 i v' i e sz rows rfl (by omega) hv').2 b hh
    · subst ho
      have hi' : i < us.length := by rw [h2]; exact hi
      have hui : us[i]? = some us[i] := by rw [List.getElem?_eq_getElem]
      obtain ⟨h5, h6⟩ := h4 i _ i e sz rows rfl (by omega) hui
      refine ⟨_, hui, hi, h5.mono (Grows.of_sub fun b hb => ?_) fun _ _ => rfl⟩
      rcases hb with hb | ⟨v', hv', hh⟩
      · exact .inl hb
      · rw [hui] at hv'; injection hv' with hv'; subst hv'; exact h6 b hh
  cases e with
  | normal => obtain ⟨f, H, β, hk, R⟩ := hq; exact fin f H β hk R
  | ret => obtain ⟨f, H, β, hk, R⟩ := hq; exact fin f H β hk R
  | panic _ => exact hq.elim
  | outgrown => exact hq.elim
  | exit id => obtain ⟨f, H, β, hk, R⟩ := hq; exact hk.elim
  | goto l => obtain ⟨f, H, β, hk, R⟩ := hq; exact hk.elim
end
end Go.AL
