/-
 Contracts of the functions that the law reaches.
-/
import Derived.Test.YtfmpegbdeppjbaaGreatAbsPM
namespace Go.AL
variable {zi : Zi}
open Go.RowKit
set_option linter.unusedSimpArgs false
set_option linter.unusedVariables false
section
variable {G : Gh} {M : Nat → Prop} {w0 : World} {D0 : Nat → Prop} {N : Nat} {P : Program}
theorem AC.of_wp {g : Nat} {args : List CV} {own : OwnRes} {res : List CV} (hm : P.follows .mixedOrders = true) {fn : Func} {body : Code} (hf : P.funcs[g]? = some fn) (hb : fn.body = some body) (hn : (fn.name == "runtime.NumGoroutine") = false)
  (hargs : args.length ≤ fn.ntmps) (h : ∀ (w : World) (D : Nat → Prop) (a : Act), (∀ b, D b → b < w.heap.size) → a.defers = [] → Rel ⟨fun _ _ => False, false⟩ (fun _ => False) w D fn.ntmps (initF args) initH (fun _ => default) a w →
   body.wpIn (Wd none) 0 P (Conc ⟨fun _ _ => False, false⟩ (fun _ => False) w D fn.ntmps (RetQ P fn.results.toList own res)) a w) : AC P g args own res := by
 intro w D vs hD hvs
 refine .inl ⟨fn, hf, hn, by rw [hb]; rfl, callsIn_wide.1 (callsIn_of_wp_marks (n := 0) (F := Fence.wide) hf hb trivial ?_)⟩
 have hlen := hvs.length
 have hcv : ∀ (cvs : List CV) (us : List Value), CVReps w D cvs us → ∀ t, AVRep w (DD initH (fun _ => default) D) initH (fun _ => default) (initF cvs t) ((us[t]?).getD Go.undef) := by
  intro cvs us hu t
  have hDD : ∀ b, DD initH (fun _ => default) D b → D b := by
   intro b hb
   rcases hb with hb | ⟨k, hm, _⟩
   ·exact hb
   ·exact hm.elim
  induction cvs generalizing us t with
  | nil =>
   match us, hu with
   | [], _ => simp [initF, AVRep]
  | cons c cs ih =>
   match us, hu with
   | u :: us, hu =>
    cases t with
    | zero => simp only [initF, List.map_cons, List.getElem?_cons_zero, Option.getD_some]; exact (hu.1.mono (Grows.of_sub hDD)).av
    | succ t => simpa only [initF, List.map_cons, List.getElem?_cons_succ] using ih us hu.2 t
 have R : Rel ⟨fun _ _ => False, false⟩ (fun _ => False) w D fn.ntmps (initF args) initH (fun _ => default) { tmps := vs.toArray ++ Array.replicate (fn.ntmps - vs.toArray.size) Go.undef, defers := [] } w := by
  refine ⟨rfl, rfl, rfl, Nat.le_refl _, fun _ _ _ => rfl, fun b hb => ⟨hD b hb, fun h => h⟩, by simp; omega, fun d hd => (by cases hd), fun h => (by cases h), List.nodup_nil, fun _ _ h => h.elim, fun t => ?_, fun h st e sz rows hh => (by cases hh), fun h st e sz rows hh => (by cases hh), fun h h' _ hm => hm.elim, fun h st e rows hh => (by cases hh), fun h B hh => (by cases hh), fun h x v hh => (by cases hh)⟩
  have e : (vs.toArray ++ Array.replicate (fn.ntmps - vs.toArray.size) Go.undef).getD t Go.undef = (vs[t]?).getD Go.undef := by
   rw [Array.getD_eq_getD_getElem?, Array.getElem?_append]
   split
   ·simp
   ·rename_i ht
    simp only [List.size_toArray, Nat.not_lt] at ht
    rw [List.getElem?_eq_none ht]
    simp only [Array.getElem?_replicate]
    split <;> rfl
  rw [e]
  exact hcv args vs hvs t
 refine wpIn_mono (h w D _ hD rfl R) fun e a w' hq => ?_
 have fin : ∀ f H β, rets P f H own 0 fn.results.toList res ∧ (match own with | none => True | some (i, _) => i < res.length) → Rel ⟨fun _ _ => False, false⟩ (fun _ => False) w D fn.ntmps f H β a w' →
   LeavesInM Fence.wide 0 P fn a.tmps (fun e w' => ∃ v, e = .returned v ∧ Below w.heap.size w w' ∧ ∃ us, v = packV us ∧ ResOk w w' D own res us) a.defers .returning w' := by
  intro f H β ⟨hr, hi⟩ R0
  refine leaves_ok a.defers _ w' R0.defers R0.ndup R0.size fun w2 h1 h2 h3 h4 h5 => ?_
  have g2 : Grows w' (DD H β D) w2 (DD H β D) := ⟨Nat.le_of_eq h4.symm, fun _ _ h => h, fun b _ _ hc => h5 b (.inr hc)⟩
  have R : Rel ⟨fun _ _ => False, false⟩ (fun _ => False) w D fn.ntmps f H β { a with defers := [] } w2 :=
   ⟨h1.trans R0.os, h2.trans R0.tape, h3.trans R0.output, by rw [h4]; exact R0.size, fun k hk _ => (h5 k (.inl hk)).trans (R0.keep k hk (fun h => h)), R0.old, R0.tsize, fun d hd => (by cases hd), fun h => (by cases h), List.nodup_nil, fun _ _ h => h.elim,
    fun t => AVRep.mono g2 (HStep.refl _ _) _ _ (R0.tmps t),
    fun h st e sz rows hh => (R0.own h st e sz rows hh).mono g2 fun k hk => by obtain ⟨cur, e', hc⟩ := R0.own_cells (by rw [hh]; trivial) hk; exact h5 k (.inr ⟨_, hc, rfl⟩),
    fun h st e sz rows hh => ⟨(R0.frz h st e sz rows hh).1, (R0.frz h st e sz rows hh).2.1.mono g2, (R0.frz h st e sz rows hh).2.2⟩, R0.dis,
    fun h st e rows hh => (R0.nst h st e rows hh).mono g2 (HStep.refl _ _) fun k hk => by obtain ⟨cur, e', hc⟩ := R0.own_cells (by rw [hh]; trivial) hk; exact h5 k (.inr ⟨_, hc, rfl⟩), fun h B hh => by rw [h4]; exact R0.mrk h B hh, fun h x v hh => AVRep.mono g2 (HStep.refl _ _) _ _ (R0.tie h x v hh)⟩
  clear h1 h2 h3 h4 h5
  obtain ⟨us, h1', h2, h3, h4⟩ := rets_sound R _ _ _ hr
  refine ⟨_, results_run h1', _, rfl, ⟨R.os, R.tape, R.output, R.size, fun k hk => R.keep k hk (fun h => h)⟩, us, rfl, h2, fun j c v hj hc hv => ?_, fun i e sz rows ho => ?_⟩
  ·obtain ⟨ms, hms, hrep⟩ := h3 j c v (fun i e sz rows ho => by have := hj i e sz rows ho; omega) hc hv
   refine hrep.mono (Grows.of_sub fun b hb => ?_)
   rcases hb with hb | hb
   ·exact .inl hb
   ·cases own with
    | none => exact hb.elim
    | some p =>
     obtain ⟨i, e, sz, rows⟩ := p
     obtain ⟨v', hv', hh⟩ := hb
     rw [hms rfl]
     exact (h4 i v' i e sz rows rfl (by omega) hv').2 b hh
  ·subst ho
   have hi' : i < us.length := by rw [h2]; exact hi
   have hui : us[i]? = some us[i] := by rw [List.getElem?_eq_getElem]
   obtain ⟨h5, h6⟩ := h4 i _ i e sz rows rfl (by omega) hui
   refine ⟨_, hui, hi, h5.mono (Grows.of_sub fun b hb => ?_) fun _ _ => rfl⟩
   rcases hb with hb | ⟨v', hv', hh⟩
   ·exact .inl hb
   ·rw [hui] at hv'; injection hv' with hv'; subst hv'; exact h6 b hh
 cases e with
 | normal => obtain ⟨f, H, β, hk, R⟩ := hq; exact fin f H β hk R
 | ret => obtain ⟨f, H, β, hk, R⟩ := hq; exact fin f H β hk R
 | panic _ => exact hq.elim
 | outgrown => exact hq.elim
 | exit id => obtain ⟨f, H, β, hk, R⟩ := hq; exact hk.elim
 | goto l => obtain ⟨f, H, β, hk, R⟩ := hq; exact hk.elim
def codeDrop : Nat → Code → Code
 | 0, c => c
 | n + 1, .seq _ y => codeDrop n y
 | _ + 1, c => c
def AWs [Zi] (P : Program) (S : Fr → Hp → Prop) : Nat → Code → Post → Fr → Hp → Prop
 | 0, _, _, f, H => S f H
 | n + 1, .seq x y, Q, f, H => AW P x (SeqQ (AWs P S n y Q) Q) f H
 | _, _, _, _, _ => False
theorem AWs_succ {S : Fr → Hp → Prop} {n : Nat} {x y : Code} {Q : Post} {f : Fr} {H : Hp} : AWs P S (n + 1) (.seq x y) Q f H = AW P x (SeqQ (AWs P S n y Q) Q) f H := rfl
theorem AWs_zero {S : Fr → Hp → Prop} {c : Code} {Q : Post} {f : Fr} {H : Hp} : AWs P S 0 c Q f H = S f H := rfl
@[congr] theorem AWs_congr {S : Fr → Hp → Prop} {n : Nat} {c : Code} {Q : Post} {f f' : Fr} {H H' : Hp} (hf : f = f') (hH : H = H') : AWs P S n c Q f H = AWs P S n c Q f' H' := by rw [hf, hH]
theorem aws_sound (hm : P.follows .mixedOrders = true) {S : Fr → Hp → Prop} {K : Exit → Act → World → Prop} : ∀ (n : Nat) (c : Code) (Q : Post) (f : Fr) (H : Hp) (β : Nat → Value) (a : Act) (w : World), (noRange c = true ∨ G.rnd = false) → codeOk N c = true → AWs P S n c Q f H → Rel G M w0 D0 N f H β a w →
  (∀ f H β a w, S f H → Rel G M w0 D0 N f H β a w → (codeDrop n c).wpIn (Wd none) 0 P K a w) → (∀ e a w, e ≠ .normal → Conc G M w0 D0 N Q e a w → K e a w) → c.wpIn (Wd none) 0 P K a w
 | 0, c, Q, f, H, β, a, w, hr, hd, h, R, hS, hQ => hS f H β a w h R
 | n + 1, .seq x y, Q, f, H, β, a, w, hr, hd, h, R, hS, hQ => by
  simp only [codeOk, Bool.and_eq_true] at hd
  have hr' : (noRange x = true ∨ G.rnd = false) ∧ (noRange y = true ∨ G.rnd = false) := by
   rcases hr with hr | hr
   ·simp only [noRange, Bool.and_eq_true] at hr
    exact ⟨.inl hr.1, .inl hr.2⟩
   ·exact ⟨.inr hr, .inr hr⟩
  refine wpIn_seq (wpIn_mono (aw_sound hm x none G M w0 _ f H β a w (hr'.1.imp id fun h => ⟨rfl, h⟩) hd.1 h R) fun e a w hq => ?_)
  cases e with
  | normal => obtain ⟨f, H, β, hk, R⟩ := hq; exact aws_sound hm n y Q f H β a w hr'.2 hd.2 hk R hS hQ
  | panic _ => exact hq.elim
  | outgrown => exact hq.elim
  | exit id => obtain ⟨f, H, β, hk, R⟩ := hq; exact hQ _ _ _ (by simp) ⟨f, H, β, hk, R⟩
  | ret => obtain ⟨f, H, β, hk, R⟩ := hq; exact hQ _ _ _ (by simp) ⟨f, H, β, hk, R⟩
  | goto l => obtain ⟨f, H, β, hk, R⟩ := hq; exact hQ _ _ _ (by simp) ⟨f, H, β, hk, R⟩
 | n + 1, .skip, Q, f, H, β, a, w, hr, hd, h, R, hS, hQ => h.elim
theorem rel_start {X : Nat → Prop} {f : Fr} {H : Hp} {β : Nat → Value} {a : Act} {w : World} (hsz : a.tmps.size = N) (hdf : a.defers = []) (hX : ∀ b, X b → b < w.heap.size ∧ ¬ M b)
  (htm : ∀ t, AVRep w (DD H β X) H β (f t) (a.tmps.getD t Go.undef))
  (hown : ∀ h st e sz rows, H h = .blk false st e sz rows → Own w (DD H β X) w.heap.size M (β h) e sz rows)
  (hfz : ∀ h st e sz rows, H h ≠ .blk true st e sz rows)
  (hdis : ∀ h h', h ≠ h' → (H h).isMut → (H h').isMut → ∀ g, headOf (β h) = some g → headOf (β h') ≠ some g)
  (hnst : ∀ h st e rows, H h = .nst st e rows → OwnN w (DD H β X) H β w.heap.size M (β h) e rows)
  (hmrk : ∀ h B, H h = .mrk B → B ≤ w.heap.size) (htie : ∀ h x v, H h = .tie x v → AVRep w (DD H β X) H β x v) : Rel ⟨fun _ _ => False, true⟩ M w X N f H β a w :=
 ⟨rfl, rfl, rfl, Nat.le_refl _, fun _ _ _ => rfl, hX, hsz, fun d hd => (by rw [hdf] at hd; cases hd), fun _ => hdf, (by rw [hdf]; exact List.nodup_nil), fun _ _ h => h.elim, htm, hown, fun h st e sz rows hh => (hfz h st e sz rows hh).elim, hdis, hnst, hmrk, htie⟩
theorem Rel.unrnd {f : Fr} {H : Hp} {β : Nat → Value} {a : Act} {w : World} (R : Rel ⟨G.vals, true⟩ M w0 D0 N f H β a w) : Rel ⟨G.vals, false⟩ M w0 D0 N f H β a w :=
 ⟨R.os, R.tape, R.output, R.size, R.keep, R.old, R.tsize, R.defers, (fun h => by cases h), R.ndup, R.gh, R.tmps, R.own, R.frz, R.dis, R.nst, R.mrk, R.tie⟩
theorem Conc.unrnd {vals : AV → Value → Prop} {Q : Post} {e : Exit} {a : Act} {w : World} (h : Conc ⟨vals, true⟩ M w0 D0 N Q e a w) : Conc ⟨vals, false⟩ M w0 D0 N Q e a w := by
 cases e with
 | panic _ => exact h.elim
 | outgrown => exact h.elim
 | normal => obtain ⟨f, H, β, hk, R⟩ := h; exact ⟨f, H, β, hk, Rel.unrnd (G := ⟨vals, true⟩) R⟩
 | ret => obtain ⟨f, H, β, hk, R⟩ := h; exact ⟨f, H, β, hk, Rel.unrnd (G := ⟨vals, true⟩) R⟩
 | exit id => obtain ⟨f, H, β, hk, R⟩ := h; exact ⟨f, H, β, hk, Rel.unrnd (G := ⟨vals, true⟩) R⟩
 | goto l => obtain ⟨f, H, β, hk, R⟩ := h; exact ⟨f, H, β, hk, Rel.unrnd (G := ⟨vals, true⟩) R⟩
def bodyOf (P : Program) (g : Nat) : Code := match P.funcs[g]? with
 | some fn => fn.body.getD .skip
 | none => .skip
theorem bodyOf_eq {g : Nat} {fn : Func} {body : Code} (hf : P.funcs[g]? = some fn) (hb : fn.body = some body) : bodyOf P g = body := by
 unfold bodyOf; rw [hf]; simp only [hb]; rfl
def dropO : Nat → Code → Option Code
 | 0, c => some c
 | n + 1, .seq _ y => dropO n y
 | _ + 1, _ => none
theorem dropO_eq : ∀ {n : Nat} {c d : Code}, dropO n c = some d → codeDrop n c = d
 | 0, c, d, h => by simp only [dropO, Option.some.injEq] at h; exact h
 | n + 1, .seq _ y, d, h => by simp only [dropO] at h; simp only [codeDrop]; exact dropO_eq h
theorem dropO_ok : ∀ {n : Nat} {c d : Code}, dropO n c = some d → codeOk N c = true → codeOk N d = true
 | 0, c, d, h, hc => by simp only [dropO, Option.some.injEq] at h; subst h; exact hc
 | n + 1, .seq _ y, d, h, hc => by
  simp only [dropO] at h; simp only [codeOk, Bool.and_eq_true] at hc; exact dropO_ok h hc.2
theorem dropO_nr : ∀ {n : Nat} {c d : Code}, dropO n c = some d → noRange c = true → noRange d = true
 | 0, c, d, h, hc => by simp only [dropO, Option.some.injEq] at h; subst h; exact hc
 | n + 1, .seq _ y, d, h, hc => by
  simp only [dropO] at h; simp only [noRange, Bool.and_eq_true] at hc; exact dropO_nr h hc.2
theorem codeDrop_add : ∀ {k : Nat} {c d : Code} (n : Nat), dropO k c = some d → codeDrop n d = codeDrop (k + n) c
 | 0, c, d, n, h => by simp only [dropO, Option.some.injEq] at h; subst h; rw [Nat.zero_add]
 | k + 1, .seq _ y, d, n, h => by
  simp only [dropO] at h
  rw [Nat.add_right_comm]; exact codeDrop_add n h
theorem seg_by {g : Nat} (hm : P.follows .mixedOrders = true) {fn : Func} {body c : Code} (hf : P.funcs[g]? = some fn) (hb : fn.body = some body) (hd : codeOk fn.ntmps body = true) (hnr : noRange body = true) {k : Nat} (hk : dropO k body = some c) (n : Nat)
  {S : Fr → Hp → Prop} {K : Exit → Act → World → Prop} {f : Fr} {H : Hp} {β : Nat → Value} {a : Act} {w : World} (R : Rel G M w0 D0 fn.ntmps f H β a w) (h : AWs P S n c (fun _ _ _ => False) f H)
  (hS : ∀ f H β a w, S f H → Rel G M w0 D0 fn.ntmps f H β a w → (codeDrop (k + n) (bodyOf P g)).wpIn (Wd none) 0 P K a w) : (codeDrop k (bodyOf P g)).wpIn (Wd none) 0 P K a w := by
 rw [bodyOf_eq hf hb] at hS ⊢
 rw [dropO_eq hk]
 refine aws_sound hm n c _ f H β a w (.inl (dropO_nr hk hnr)) (dropO_ok hk hd) h R (fun f H β a w hs R => ?_) fun e a w _ hc => ?_
 ·have := hS f H β a w hs R
  rw [← codeDrop_add n hk] at this
  exact this
 ·cases e with
  | panic _ => exact hc.elim
  | outgrown => exact hc.elim
  | normal => obtain ⟨f, H, β, hk, R⟩ := hc; exact hk.elim
  | ret => obtain ⟨f, H, β, hk, R⟩ := hc; exact hk.elim
  | exit id => obtain ⟨f, H, β, hk, R⟩ := hc; exact hk.elim
  | goto l => obtain ⟨f, H, β, hk, R⟩ := hc; exact hk.elim
theorem AC.by_segs {g : Nat} {args : List CV} {res : List CV} (hm : P.follows .mixedOrders = true) {fn : Func} {body : Code} {rs : List ResultVar} (hf : P.funcs[g]? = some fn) (hb : fn.body = some body) (hr : fn.results.toList = rs) (hn : (fn.name == "runtime.NumGoroutine") = false)
  (hd : codeOk fn.ntmps body = true) (hnr : noRange body = true) (hargs : Nat.ble args.length fn.ntmps = true) (n : Nat) (S : Nat → Fr → Hp → Prop)
  (hA : ∀ B, AWs P (S B) n body (RetC P rs none res) (initF args) (initHX B))
  (hrest : ∀ (w : World) (D : Nat → Prop) (f : Fr) (H : Hp) (β : Nat → Value) (a : Act) (w' : World), S w.heap.size f H → Rel ⟨fun _ _ => False, true⟩ (fun _ => False) w D fn.ntmps f H β a w' →
   (codeDrop n (bodyOf P g)).wpIn (Wd none) 0 P (Conc ⟨fun _ _ => False, false⟩ (fun _ => False) w D fn.ntmps (RetC P rs none res)) a w') : AC P g args none res := by
 subst hr
 rw [bodyOf_eq hf hb] at hrest
 refine AC.of_wp (zi := zi) hm hf hb hn (Nat.le_of_ble_eq_true hargs) fun w D a hD hdf R => ?_
 have hmut : ∀ h, ¬ (initHX w.heap.size h).isMut := fun h => by
  unfold initHX; split <;> exact id
 have hsub : ∀ b, DD (initHX w.heap.size) (fun _ => default) D b → DD initH (fun _ => default) D b := by
  rintro b (hb | ⟨k, hm, _⟩)
  ·exact .inl hb
  ·exact (hmut k hm).elim
 have hH : ∀ h c, initHX w.heap.size h = c → c = .none ∨ c = .mrk w.heap.size := fun h c hc => by
  unfold initHX at hc; split at hc
  ·exact .inr hc.symm
  ·exact .inl hc.symm
 have R1 : Rel ⟨fun _ _ => False, true⟩ (fun _ => False) w D fn.ntmps (initF args) (initHX w.heap.size) (fun _ => default) a w := by
  refine rel_start R.tsize hdf (fun b hb => ⟨hD b hb, fun h => h⟩) (fun t => ?_) (fun h st e sz rows hh => by rcases hH _ _ hh with h | h <;> cases h) (fun h st e sz rows hh => by rcases hH _ _ hh with h | h <;> cases h)
   (fun h h' _ hm => (hmut h hm).elim) (fun h st e rows hh => by rcases hH _ _ hh with h | h <;> cases h) (fun h B hh => by rcases hH _ _ hh with h | h <;> cases h; exact Nat.le_refl _) (fun h x v hh => by rcases hH _ _ hh with h | h <;> cases h)
  refine AVRep.mono (Grows.of_sub hsub) (fun h => .inl ⟨?_, ?_, rfl⟩) _ _ (R.tmps t)
  ·unfold initHX; split <;> rfl
  ·unfold initHX; split <;> rfl
 exact aws_sound hm n body _ _ _ _ a w (.inl hnr) hd (hA w.heap.size) R1 (fun f H β a w' hS R => hrest w D f H β a w' hS R) fun e a w' _ hc => hc.unrnd
theorem AC.by_walkm {g : Nat} {args : List CV} {res : List CV} (hm : P.follows .mixedOrders = true) {fn : Func} {body : Code} {rs : List ResultVar} (hf : P.funcs[g]? = some fn) (hb : fn.body = some body) (hr : fn.results.toList = rs) (hn : (fn.name == "runtime.NumGoroutine") = false)
  (hd : codeOk fn.ntmps body = true) (hargs : Nat.ble args.length fn.ntmps = true) (h : ∀ B, AW P body (RetC P rs none res) (initF args) (initHX B)) : AC P g args none res := by
 subst hr
 refine AC.of_wp (zi := zi) hm hf hb hn (Nat.le_of_ble_eq_true hargs) fun w D a hD hdf R => ?_
 have hmut : ∀ h, ¬ (initHX w.heap.size h).isMut := fun h => by
  unfold initHX; split <;> exact id
 have hsub : ∀ b, DD (initHX w.heap.size) (fun _ => default) D b → DD initH (fun _ => default) D b := by
  rintro b (hb | ⟨k, hm, _⟩)
  ·exact .inl hb
  ·exact (hmut k hm).elim
 have hH : ∀ h c, initHX w.heap.size h = c → c = .none ∨ c = .mrk w.heap.size := fun h c hc => by
  unfold initHX at hc; split at hc
  ·exact .inr hc.symm
  ·exact .inl hc.symm
 have R1 : Rel ⟨fun _ _ => False, true⟩ (fun _ => False) w D fn.ntmps (initF args) (initHX w.heap.size) (fun _ => default) a w := by
  refine rel_start R.tsize hdf (fun b hb => ⟨hD b hb, fun h => h⟩) (fun t => ?_) (fun h st e sz rows hh => by rcases hH _ _ hh with h | h <;> cases h) (fun h st e sz rows hh => by rcases hH _ _ hh with h | h <;> cases h)
   (fun h h' _ hm => (hmut h hm).elim) (fun h st e rows hh => by rcases hH _ _ hh with h | h <;> cases h) (fun h B hh => by rcases hH _ _ hh with h | h <;> cases h; exact Nat.le_refl _) (fun h x v hh => by rcases hH _ _ hh with h | h <;> cases h)
  refine AVRep.mono (Grows.of_sub hsub) (fun h => .inl ⟨?_, ?_, rfl⟩) _ _ (R.tmps t)
  ·unfold initHX; split <;> rfl
  ·unfold initHX; split <;> rfl
 exact wpIn_mono (aw_sound hm body none ⟨fun _ _ => False, false⟩ _ w _ _ _ _ a w (.inr ⟨rfl, rfl⟩) hd (h w.heap.size) (Rel.unrnd (G := ⟨fun _ _ => False, true⟩) R1)) fun e a w' hq => hq
theorem Rel.box_at {f : Fr} {H : Hp} {β : Nat → Value} {a : Act} {w : World} (R : Rel G M w0 D0 N f H β a w) {t h st e sz : Nat} {row : List IV} (ht : f t = .hp h st 0 0) (hH : H h = .blk false st e sz [row]) :
  ∃ g cur, a.tmps.getD t Go.undef = .pointer (some ⟨g, 0, none⟩) ∧ headOf (β h) = some g ∧ w.heap[g]? = some (.cells cur e (0, 0)) ∧ (w0.heap.size ≤ g ∨ M g) ∧ row.length = sz ∧ Reps w (DD H β D0) row (cur.toList.take sz) := by
 have h1 := R.tmps t
 rw [ht] at h1
 simp only [AVRep] at h1
 obtain ⟨g, n, cap, hb, hv⟩ := h1.2 (by rw [hH]; rfl)
 have h2 := R.own h st e sz [row] hH
 rcases h2.2 with ⟨hn, _⟩ | ⟨g', cap', cur, hb', hB, hg, h4, h5, h6, h7⟩
 ·cases hn
 rw [hb] at hb'
 injection hb' with e1 e2 e3
 injection e1 with e1; injection e1 with e1 _ _
 subst e1
 refine ⟨g, cur, ?_, by rw [hb]; rfl, hg, hB, h2.1 row (by simp), ?_⟩
 ·rw [hv]; simp
 ·simpa using h7
theorem ip_of_cells {w : World} {D : Nat → Prop} {H : Hp} {β : Nat → Value} {g e sz : Nat} {cur : Array Value} {row : List IV} (hg : w.heap[g]? = some (.cells cur e (0, 0))) (hD : ¬ D g) (hr : Reps w D row (cur.toList.take sz)) : AVRep w D H β (.ip row) (.pointer (some ⟨g, 0, none⟩)) := by
 simp only [AVRep]
 refine ⟨g, 0, rfl, fun _ => hD, _, hr, fun j c hj => ?_⟩
 rw [List.getElem?_take] at hj
 split at hj
 ·rw [World.cell?, hg]
  rw [Array.getElem?_toList] at hj
  simpa using hj
 ·cases hj
theorem Rep.fresh {w : World} {D : Nat → Prop} {x : IV} {v : Value} (h : Rep w D x v) : Rep w (fun b => D b ∨ w.heap.size ≤ b) x v :=
 h.mono ⟨Nat.le_refl _, fun b hb h => h.elim id fun h => absurd h (by omega), fun _ _ _ _ => rfl⟩
end
end Go.AL

namespace Go.AL
variable {zi : Zi}
open Go.RowKit
set_option linter.unusedSimpArgs false
set_option linter.unusedVariables false
inductive Full : IV → Prop
 | int (k : IntKind) (n : Int) : Full (.int k n)
 | bool (b : Bool) : Full (.bool b)
 | raw (v : Value) : Full (.raw v)
 | nil : Full (.sl [])
 | own (b : Option (Nat × Nat)) (e sz : Nat) (rows : List (List IV)) (h : ∀ r ∈ rows, ∀ x ∈ r, Full x) : Full (.own b e sz rows)
theorem flatten_inv {sz : Nat} : ∀ (rows : List (List IV)), (∀ r ∈ rows, r.length = sz) → ∀ (k : Nat) (x : IV), rows.flatten[k]? = some x → ∃ r, rows[k / sz]? = some r ∧ r[k % sz]? = some x
 | [], _, k, x, h => by simp at h
 | r :: rs, hs, k, x, h => by
  have h0 := hs r (by simp)
  rw [List.flatten_cons] at h
  by_cases hk : k < sz
  ·rw [List.getElem?_append_left (by omega)] at h
   rw [Nat.div_eq_of_lt hk, Nat.mod_eq_of_lt hk]
   exact ⟨r, rfl, h⟩
  ·rw [List.getElem?_append_right (by omega), h0] at h
   obtain ⟨q, h1, h2⟩ := flatten_inv rs (fun r hr => hs r (by simp [hr])) _ x h
   rcases Nat.eq_zero_or_pos sz with hz | hz
   ·subst hz
    rw [Nat.mod_zero] at h2
    have hq := hs q (by simp [List.mem_of_getElem? h1])
    have : q = [] := List.eq_nil_of_length_eq_zero hq
    subst this; simp at h2
   ·have e1 : k / sz = (k - sz) / sz + 1 := by
     rw [show k = (k - sz) + sz by omega, Nat.add_div_right _ hz]; simp
    have e2 : k % sz = (k - sz) % sz := by
     rw [show k = (k - sz) + sz by omega, Nat.add_mod_right]; simp
    rw [e1, e2]
    exact ⟨q, by simpa using h1, h2⟩
theorem reps_of_cells {w : World} {D : Nat → Prop} {rows : List (List IV)} {cur : Array Value} {sz : Nat} (hsz : ∀ r ∈ rows, r.length = sz) (hc : rows.length * sz ≤ cur.size)
  (h : ∀ (i : Nat) (r : List IV), rows[i]? = some r → ∀ (j : Nat) (x : IV), r[j]? = some x → Rep w D x (cur.getD (i * sz + j) Go.undef)) : Reps w D rows.flatten (cur.toList.take (rows.length * sz)) := by
 refine Reps.of_get ?_ fun k x hk => ?_
 ·have e1 : cur.toList.length = cur.size := Array.length_toList
  rw [flatten_len rows hsz, List.length_take, e1]; omega
 ·obtain ⟨r, h1, h2⟩ := flatten_inv rows hsz k x hk
  have hlt := (List.getElem?_eq_some_iff.1 hk).1
  rw [flatten_len rows hsz] at hlt
  have := h _ r h1 _ x h2
  rw [Nat.mul_comm, Nat.div_add_mod] at this
  refine ⟨_, ?_, this⟩
  rw [List.getElem?_take, if_pos hlt, Array.getElem?_toList, Array.getElem?_eq_getElem (by omega), Array.getD_eq_getD_getElem?, Array.getElem?_eq_getElem (by omega)]
  rfl
section
variable {G : Gh} {M : Nat → Prop} {w0 : World} {D0 : Nat → Prop} {N : Nat} {P : Program} {f : Fr} {H : Hp} {β : Nat → Value} {a : Act} {w : World}
theorem Rel.jump (R : Rel G M w0 D0 N f H β a w) (hG : ∀ x v, ¬ G.vals x v) {f' : Fr} {H' : Hp} {β' : Nat → Value} {a' : Act} {w' : World} (hos : w'.os = w.os) (htape : w'.tape = w.tape) (hout : w'.output = w.output) (hsz : w.heap.size ≤ w'.heap.size)
  (hk : ∀ k, k < w0.heap.size → ¬ M k → w'.heap[k]? = w.heap[k]?) (hts : a'.tmps.size = N) (hdf : a'.defers = [])
  (htm : ∀ t, AVRep w' (DD H' β' D0) H' β' (f' t) (a'.tmps.getD t Go.undef))
  (hown : ∀ h st e sz rows, H' h = .blk false st e sz rows → Own w' (DD H' β' D0) w0.heap.size M (β' h) e sz rows)
  (hfz : ∀ h st e sz rows, H' h ≠ .blk true st e sz rows)
  (hdis : ∀ h h', h ≠ h' → (H' h).isMut → (H' h').isMut → ∀ g, headOf (β' h) = some g → headOf (β' h') ≠ some g)
  (hnst : ∀ h st e rows, H' h = .nst st e rows → OwnN w' (DD H' β' D0) H' β' w0.heap.size M (β' h) e rows)
  (hmrk : ∀ h B, H' h = .mrk B → B ≤ w'.heap.size) (htie : ∀ h x v, H' h = .tie x v → AVRep w' (DD H' β' D0) H' β' x v) : Rel G M w0 D0 N f' H' β' a' w' :=
 ⟨hos.trans R.os, htape.trans R.tape, hout.trans R.output, Nat.le_trans R.size hsz, fun k h1 h2 => (hk k h1 h2).trans (R.keep k h1 h2), R.old, hts, fun d hd => (by rw [hdf] at hd; cases hd), fun _ => hdf, (by rw [hdf]; exact List.nodup_nil), fun x v h => (hG x v h).elim, htm, hown, fun h st e sz rows hh => (hfz h st e sz rows hh).elim, hdis, hnst, hmrk, htie⟩
theorem Reps.avs {w : World} {D X : Nat → Prop} : ∀ {xs : List IV} {vs : List Value}, Reps w (fun b => D b ∨ X b) xs vs → Reps w D (xs.map (.av X)) vs
 | [], [], _ => trivial
 | x :: xs, v :: vs, h => ⟨.av _ _ _ h.1, h.2.avs⟩
 | [], _ :: _, h => h.elim
 | _ :: _, [], h => h.elim
theorem CallsR.mono {g : Nat} {vs : List Value} {R R' : Value → World → Prop} (h : CallsR P g vs w R) (hr : ∀ v w', R v w' → R' v w') : CallsR P g vs w R' := by
 rcases h with ⟨fn, h1, h2, h3, h4⟩ | ⟨v, w', h1, h2⟩
 ·exact .inl ⟨fn, h1, h2, h3, h4.mono fun e w' ⟨v, he, hv⟩ => ⟨v, he, hr v w' hv⟩⟩
 ·exact .inr ⟨v, w', h1, hr v w' h2⟩
end
end Go.AL
