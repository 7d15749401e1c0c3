/-
  The abstract logic: equations for the walk.
-/
import Derived.Test.YthgecppfgdadiaaAbsF
namespace Go.AL
open Go.RowKit
set_option linter.unusedSimpArgs false
set_option linter.unusedVariables false

def AStep (r : Option AR) (d : Option Nat) (K : Fr → Hp → Log → Prop) (f : Fr) (H : Hp) (lg : Log) : Prop :=
  match r with
  | some r => r.c ∧ K (updo f d r.v) (applyH r.hs (frzAll r.fz H)) ((r.rd ++ r.fz ++ r.hs.map (·.1), r.fz ++ r.hs.map (·.1)) :: lg)
  | none => False

section
variable {P : Program} {ds : List (Option Nat)} {rest : List Oper} {K : Fr → Hp → Log → Prop} {f : Fr} {H : Hp} {lg : Log} {d : Option Nat} {ty : Nat} {pos : String} {af : Array Edge}

theorem AOps_nil : AOps P ds [] K f H lg = K f H lg := rfl
theorem AOps_move {x : Operand} : AOps P ds (⟨d, .move x, ty, pos, af, none⟩ :: rest) K f H lg = AOps P ds rest K (updo f d (ev f x)) H (([], []) :: lg) := by
  cases d <;> simp [AOps, ARun, astep, applyH, frzAll]
theorem AOps_assign {x : Operand} : AOps P ds (⟨d, .assign x, ty, pos, af, none⟩ :: rest) K f H lg = AOps P ds rest K (updo f d (ev f x)) H (([], []) :: lg) := by
  cases d <;> simp [AOps, ARun, astep, applyH, frzAll]
theorem AOps_pick {c x y : Operand} : AOps P ds (⟨d, .pick c x y, ty, pos, af, none⟩ :: rest) K f H lg = AStep (match ev f c with | .iv (.bool b) => some ⟨True, if b then ev f x else ev f y, [], [], []⟩ | _ => none) d (AOps P ds rest K) f H lg := by
  cases d <;> rfl
theorem AOps_alloc {e d : Nat} : AOps P ds (⟨some d, .alloc e, ty, pos, af, none⟩ :: rest) K f H lg = AStep (aAlloc (ti P e) H e d) (some d) (AOps P ds rest K) f H lg := rfl
theorem AOps_box {e d : Nat} {x : Operand} : AOps P ds (⟨some d, .box e x, ty, pos, af, none⟩ :: rest) K f H lg = AStep (aBox (ti P e) H e d (ev f x)) (some d) (AOps P ds rest K) f H lg := rfl
theorem AOps_build {t : Nat} {ps : List (Nat × Operand)} : AOps P ds (⟨d, .build t ps.toArray, ty, pos, af, none⟩ :: rest) K f H lg = AStep (aBuild (ti P t) H (ps.map (·.1)) (ps.map fun p => ev f p.2)) d (AOps P ds rest K) f H lg := by
  cases d <;> rfl
theorem AOps_buildSlice {t n d : Nat} {ps : List (Nat × Operand)} : AOps P ds (⟨some d, .buildSlice t n ps.toArray, ty, pos, af, none⟩ :: rest) K f H lg = AStep (match (ti P t).desc with | .sl e => aBuildSlice (ti P e) H e d n (ps.map (·.1)) (ps.map fun p => ev f p.2) | _ => none) (some d) (AOps P ds rest K) f H lg := by
  simp only [AOps, ARun, astep]
  unfold AStep
  cases (ti P t).desc <;> rfl
theorem AOps_load {t : Nat} {x : Operand} : AOps P ds (⟨d, .load t x, ty, pos, af, none⟩ :: rest) K f H lg = AStep (aLoad (ti P t) H (ev f x)) d (AOps P ds rest K) f H lg := by cases d <;> rfl
theorem AOps_store {t : Nat} {x y : Operand} : AOps P ds (⟨d, .store t x y, ty, pos, af, none⟩ :: rest) K f H lg = AStep (aStore (ti P t) H (ev f x) (ev f y)) d (AOps P ds rest K) f H lg := by cases d <;> rfl
theorem AOps_nilCheck {x : Operand} : AOps P ds (⟨d, .nilCheck x, ty, pos, af, none⟩ :: rest) K f H lg = AStep (aNil H (ev f x)) d (AOps P ds rest K) f H lg := by cases d <;> rfl
theorem AOps_binOp {op : BinOp} {t yt : Nat} {x y : Operand} : AOps P ds (⟨d, .binOp op t x y yt, ty, pos, af, none⟩ :: rest) K f H lg = AStep (aBin (ti P t) op (ev f x) (ev f y)) d (AOps P ds rest K) f H lg := by cases d <;> rfl
theorem AOps_unOp {op : UnOp} {t : Nat} {x : Operand} : AOps P ds (⟨d, .unOp op t x, ty, pos, af, none⟩ :: rest) K f H lg = AStep (aUn op (ev f x)) d (AOps P ds rest K) f H lg := by cases d <;> rfl
theorem AOps_convert {s t : Nat} {x : Operand} : AOps P ds (⟨d, .convert s t x, ty, pos, af, none⟩ :: rest) K f H lg = AStep (aConv (ti P t) (ti P s) (ev f x)) d (AOps P ds rest K) f H lg := by cases d <;> rfl
theorem AOps_makeSlice {t d : Nat} {x y : Operand} : AOps P ds (⟨some d, .makeSlice t x y, ty, pos, af, none⟩ :: rest) K f H lg = AStep (match (ti P t).desc with | .sl e => aMake (ti P e) H e d (ev f x) (ev f y) | _ => none) (some d) (AOps P ds rest K) f H lg := by
  simp only [AOps, ARun, astep]
  unfold AStep
  cases (ti P t).desc <;> rfl
theorem AOps_slice {t : Nat} {x : Operand} {lo hi : Option Operand} : AOps P ds (⟨d, .slice t x lo hi none, ty, pos, af, none⟩ :: rest) K f H lg = AStep (match (ti P t).desc with | .sl e => aSlice (ti P e).size (ti P e).ok H (ev f x) (lo.map (ev f)) (hi.map (ev f)) | _ => none) d (AOps P ds rest K) f H lg := by cases d <;> rfl
theorem AOps_fieldAddr {s i : Nat} {x : Operand} : AOps P ds (⟨d, .fieldAddr s x i, ty, pos, af, none⟩ :: rest) K f H lg = AStep (aFieldAddr (ti P s) i H (ev f x)) d (AOps P ds rest K) f H lg := by cases d <;> rfl
theorem AOps_indexAddr {t : Nat} {x i : Operand} : AOps P ds (⟨d, .indexAddr t x i, ty, pos, af, none⟩ :: rest) K f H lg = AStep (match (ti P t).desc with | .sl e => aIndex (ti P e).size (ti P e).ok H (ev f x) (ev f i) | _ => none) d (AOps P ds rest K) f H lg := by cases d <;> rfl
theorem AOps_index {t : Nat} {x i : Operand} : AOps P ds (⟨d, .index t x i, ty, pos, af, none⟩ :: rest) K f H lg = AStep (aIndexS P t (ev f x) (ev f i)) d (AOps P ds rest K) f H lg := by cases d <;> rfl
theorem AOps_extract {x : Operand} {i : Nat} : AOps P ds (⟨d, .extract x i, ty, pos, af, none⟩ :: rest) K f H lg = AStep (aExtract i (ev f x)) d (AOps P ds rest K) f H lg := by cases d <;> rfl
theorem AOps_builtin {b : Builtin} {xs : List Operand} {ts : List Nat} : AOps P ds (⟨d, .call ⟨.builtin b, xs.toArray, ts.toArray⟩, ty, pos, af, none⟩ :: rest) K f H lg = AStep (aBuiltin P b H d (xs.map (ev f)) ts) d (AOps P ds rest K) f H lg := by cases d <;> rfl
theorem AOps_call {g d : Nat} {xs : List Operand} {ts : Array Nat} : AOps P ds (⟨some d, .call ⟨.value (.func g), xs.toArray, ts⟩, ty, pos, af, none⟩ :: rest) K f H lg = ACallK P g (xs.map (ev f)) d (AOps P ds rest K) f H lg := rfl
/-- A guarded operation, once the guard's value is known. -/
def AGuard (v : Option AV) (want : Bool) (yes no : Prop) : Prop :=
  match v with
  | some (.iv (.bool b)) => if b = want then yes else no
  | some .undef => no
  | _ => False
theorem AOps_guard {op : Op} {j : Nat} {want : Bool} : AOps P ds (⟨d, op, ty, pos, af, some (j, want)⟩ :: rest) K f H lg = AGuard ((ds.getD j none).map f) want (AOps P ds (⟨d, op, ty, pos, af, none⟩ :: rest) K f H lg) (AOps P ds rest K (updo f d .undef) H (([], []) :: lg)) := rfl
theorem AGuard_bool {b want : Bool} {yes no : Prop} : AGuard (some (.iv (.bool b))) want yes no = if b = want then yes else no := rfl
theorem AGuard_tt {yes no : Prop} : AGuard (some (.iv (.bool true))) true yes no = yes := rfl
theorem AGuard_ff {yes no : Prop} : AGuard (some (.iv (.bool false))) false yes no = yes := rfl
theorem AGuard_tf {yes no : Prop} : AGuard (some (.iv (.bool true))) false yes no = no := rfl
theorem AGuard_ft {yes no : Prop} : AGuard (some (.iv (.bool false))) true yes no = no := rfl
theorem AGuard_undef {want : Bool} {yes no : Prop} : AGuard (some .undef) want yes no = no := rfl
theorem AStep_true {v : AV} {fz : List Nat} {hs : List (Nat × HC)} {rd : List Nat} : AStep (some ⟨True, v, fz, hs, rd⟩) d K f H lg = K (updo f d v) (applyH hs (frzAll fz H)) ((rd ++ fz ++ hs.map (·.1), fz ++ hs.map (·.1)) :: lg) := by simp [AStep]
theorem AStep_ok {c : Prop} {v : AV} {fz : List Nat} {hs : List (Nat × HC)} {rd : List Nat} (hc : c) : AStep (some ⟨c, v, fz, hs, rd⟩) d K f H lg = K (updo f d v) (applyH hs (frzAll fz H)) ((rd ++ fz ++ hs.map (·.1), fz ++ hs.map (·.1)) :: lg) := by simp [AStep, hc]
theorem astep_by {c : Prop} {v : AV} {fz : List Nat} {hs : List (Nat × HC)} {rd : List Nat} (hc : c) (hk : K (updo f d v) (applyH hs (frzAll fz H)) ((rd ++ fz ++ hs.map (·.1), fz ++ hs.map (·.1)) :: lg)) : AStep (some ⟨c, v, fz, hs, rd⟩) d K f H lg := ⟨hc, hk⟩
theorem AStep_some {c : Prop} {v : AV} {fz : List Nat} {hs : List (Nat × HC)} {rd : List Nat} : AStep (some ⟨c, v, fz, hs, rd⟩) d K f H lg = (c ∧ K (updo f d v) (applyH hs (frzAll fz H)) ((rd ++ fz ++ hs.map (·.1), fz ++ hs.map (·.1)) :: lg)) := rfl
end

/-- A call by its contract. -/
theorem call_by {P : Program} {g : Nat} {avs : List AV} {d : Nat} {K : Fr → Hp → Log → Prop} {f : Fr} {H : Hp} {lg : Log} {c : Prop} {args : List CV} {ms : List Nat} {own : OwnRes} {res : List CV}
    (hac : AC P g args own res) (ht : tocvs H avs = some (c, args, ms)) (hc : c)
    (hk : K (upd f d (packA (rAV (frzAll ms H) d own 0 res))) (applyH (ownH (frzAll ms H) d own) (frzAll ms H)) ((ms ++ (ownH (frzAll ms H) d own).map (·.1), ms ++ (ownH (frzAll ms H) d own).map (·.1)) :: lg)) : ACallK P g avs d K f H lg :=
  ⟨c, args, ms, own, res, true, .inl ht, hc, hac, by simp, hk⟩

/-- .. whose results do not point into what was handed in. -/
theorem call_flat {P : Program} {g : Nat} {avs : List AV} {d : Nat} {K : Fr → Hp → Log → Prop} {f : Fr} {H : Hp} {lg : Log} {c : Prop} {args : List CV} {ms : List Nat} {own : OwnRes} {res : List CV}
    (hac : AC P g args own res) (ht : tocvs H avs = some (c, args, ms)) (hc : c) (hf : ms = [] ∨ FlatRes own res)
    (hk : K (upd f d (packA (rAV H d own 0 res))) (applyH (ownH H d own) H) ((ms ++ (ownH H d own).map (·.1), (ownH H d own).map (·.1)) :: lg)) : ACallK P g avs d K f H lg :=
  ⟨c, args, ms, own, res, false, .inl ht, hc, hac, fun _ => hf, hk⟩

/-- .. that is handed a nil slice, as itself. -/
theorem call_nil {P : Program} {g : Nat} {avs : List AV} {d : Nat} {K : Fr → Hp → Log → Prop} {f : Fr} {H : Hp} {lg : Log} {c : Prop} {args : List CV} {ms : List Nat} {own : OwnRes} {res : List CV}
    (hac : AC P g args own res) (ht : tocvsN H avs = some (c, args, ms)) (hc : c)
    (hk : K (upd f d (packA (rAV (frzAll ms H) d own 0 res))) (applyH (ownH (frzAll ms H) d own) (frzAll ms H)) ((ms ++ (ownH (frzAll ms H) d own).map (·.1), ms ++ (ownH (frzAll ms H) d own).map (·.1)) :: lg)) : ACallK P g avs d K f H lg :=
  ⟨c, args, ms, own, res, true, .inr ht, hc, hac, by simp, hk⟩

/-- The rule for a loop. -/
theorem loop_by {P : Program} {c : Code} {Q : Post} {f : Fr} {H : Hp} (I : Fr → Hp → Prop) (μ : Fr → Hp → Nat) (h0 : I f H) (hr : ∀ f H, I f H → AW P c (LoopQ I μ (μ f H) Q) f H) : AW P (.loop c) Q f H :=
  ⟨I, μ, ⟨f, H, .refl f H, h0⟩, hr⟩

/-- .. before which a nil slice, in slot t, becomes a handle. -/
theorem loop_nil {P : Program} {c : Code} {Q : Post} {f : Fr} {H : Hp} (t h e sz : Nat) (ht : f t = .nils) (I : Fr → Hp → Prop) (μ : Fr → Hp → Nat) (h0 : I (ghostF f H t h) (ghostH H h e sz)) (hr : ∀ f H, I f H → AW P c (LoopQ I μ (μ f H) Q) f H) : AW P (.loop c) Q f H :=
  ⟨I, μ, ⟨_, _, .nil t h e sz ht (.refl _ _), h0⟩, hr⟩

theorem cst_int (k : IntKind) (n : Int) : cstA (.int k n) = .iv (.int k n) := rfl
theorem cst_bool (b : Bool) : cstA (.bool b) = .iv (.bool b) := rfl
theorem cst_nil : cstA (.slice none 0 0) = .nils := rfl
theorem ev_tmp (f : Fr) (t : Nat) : ev f (.tmp t) = f t := rfl
theorem ev_const (f : Fr) (v : Value) : ev f (.const v) = cstA v := rfl
theorem upd_at (f : Fr) (t : Nat) (v : AV) (u : Nat) : upd f t v u = if u = t then v else f u := rfl
theorem updH_at (H : Hp) (h : Nat) (c : HC) (u : Nat) : updH H h c u = if u = h then c else H u := rfl
theorem updo_some (f : Fr) (t : Nat) (v : AV) : updo f (some t) v = upd f t v := rfl
theorem updo_none (f : Fr) (v : AV) : updo f none v = f := rfl
theorem initF_at (args : List CV) (t : Nat) : initF args t = ((args.map CV.av)[t]?).getD .undef := rfl
theorem initH_at (h : Nat) : initH h = .none := rfl


/-! ### One step at a time -/

def SeqC (P : Program) (y : Code) (Q : Post) : Post := SeqQ (AW P y Q) Q
def ACond (P : Program) (v : AV) (x y : Code) (Q : Post) (f : Fr) (H : Hp) : Prop := ACnd v (AW P x Q f H) (AW P y Q f H)
def ALoop (P : Program) (c : Code) (Q : Post) (f : Fr) (H : Hp) : Prop := AW P (.loop c) Q f H
def RetC (P : Program) (rs : List ResultVar) (own : OwnRes) (res : List CV) : Post := RetQ P rs own res
def TmpsOk (ops : Array Oper) : Prop := tmpsOk ops = true
def LogOk (ops : Array Oper) (lg : Log) : Prop := logOk ops lg.reverse = true

section
variable {P : Program} {Q : Post} {K : Fr → Hp → Log → Prop} {f f' : Fr} {H H' : Hp} {lg : Log}
theorem AW_skip : AW P .skip Q f H = Q .normal f H := by rw [AW]
theorem AW_region {id : Nat} {l : List Oper} : AW P (.region id l.toArray false) Q f H = AOps P (l.map (·.dst)) l (PlainQ Q) f H [] := by rw [AW]; rfl
theorem AW_drawn {id : Nat} {l : List Oper} : AW P (.region id l.toArray true) Q f H = (TmpsOk l.toArray ∧ AOps P (l.map (·.dst)) l (OrdQ l.toArray Q) f H []) := by rw [AW]; rfl
theorem AW_seq {x y : Code} : AW P (.seq x y) Q f H = AW P x (SeqC P y Q) f H := by rw [AW]; rfl
theorem AW_cond {c : Operand} {x y : Code} : AW P (.cond c x y) Q f H = ACond P (ev f c) x y Q f H := by rw [AW]; rfl
theorem AW_block {id : Nat} {c : Code} : AW P (.block id c) Q f H = AW P c (BlockQ id Q) f H := by rw [AW]
theorem AW_loop {c : Code} : AW P (.loop c) Q f H = ALoop P c Q f H := rfl
theorem AW_exit {id : Nat} : AW P (.exit id) Q f H = Q (.exit id) f H := by rw [AW]
theorem AW_scope {c : Code} : AW P (.scope c) Q f H = AW P c (ScopeQ Q) f H := by rw [AW]
theorem AW_label {l : Nat} : AW P (.label l) Q f H = Q .normal f H := by rw [AW]
theorem AW_ret : AW P .ret Q f H = Q .ret f H := by rw [AW]

theorem SeqC_normal {y : Code} : SeqC P y Q .normal f H = AW P y Q f H := rfl
theorem SeqC_exit {y : Code} {i : Nat} : SeqC P y Q (.exit i) f H = Q (.exit i) f H := rfl
theorem SeqC_ret {y : Code} : SeqC P y Q .ret f H = Q .ret f H := rfl
theorem BlockQ_normal {i : Nat} : BlockQ i Q .normal f H = Q .normal f H := rfl
theorem BlockQ_exit {i j : Nat} : BlockQ i Q (.exit j) f H = if j = i then Q .normal f H else Q (.exit j) f H := rfl
theorem BlockQ_ret {i : Nat} : BlockQ i Q .ret f H = Q .ret f H := rfl
theorem ScopeQ_normal : ScopeQ Q .normal f H = Q .normal f H := rfl
theorem ScopeQ_exit {i : Nat} : ScopeQ Q (.exit i) f H = Q (.exit i) f H := rfl
theorem ScopeQ_ret : ScopeQ Q .ret f H = Q .ret f H := rfl
theorem LoopQ_normal {I : Fr → Hp → Prop} {μ : Fr → Hp → Nat} {n : Nat} : LoopQ I μ n Q .normal f H = (I f H ∧ μ f H < n) := rfl
theorem LoopQ_exit {I : Fr → Hp → Prop} {μ : Fr → Hp → Nat} {n i : Nat} : LoopQ I μ n Q (.exit i) f H = Q (.exit i) f H := rfl
theorem LoopQ_ret {I : Fr → Hp → Prop} {μ : Fr → Hp → Nat} {n : Nat} : LoopQ I μ n Q .ret f H = Q .ret f H := rfl
theorem PlainQ_at : PlainQ Q f H lg = Q .normal f H := rfl
theorem OrdQ_at {ops : Array Oper} : OrdQ ops Q f H lg = (LogOk ops lg ∧ Q .normal f H) := rfl
theorem RetC_ret {rs : List ResultVar} {own : OwnRes} {res : List CV} : RetC P rs own res .ret f H = (rets P f H own 0 rs res ∧ (match own with | none => True | some (i, _) => i < res.length)) := rfl
theorem RetC_normal {rs : List ResultVar} {own : OwnRes} {res : List CV} : RetC P rs own res .normal f H = (rets P f H own 0 rs res ∧ (match own with | none => True | some (i, _) => i < res.length)) := rfl

@[congr] theorem AW_congr {c : Code} (hf : f = f') (hH : H = H') : AW P c Q f H = AW P c Q f' H' := by rw [hf, hH]
@[congr] theorem AOps_congr {ds ds' : List (Option Nat)} {ops : List Oper} (hd : ds = ds') (hf : f = f') (hH : H = H') : AOps P ds ops K f H lg = AOps P ds' ops K f' H' lg := by rw [hd, hf, hH]
@[congr] theorem AStep_congr {r r' : Option AR} {d : Option Nat} (hr : r = r') : AStep r d K f H lg = AStep r' d K f H lg := by rw [hr]
@[congr] theorem ACallK_congr {g d : Nat} {xs xs' : List AV} (hx : xs = xs') (hf : f = f') (hH : H = H') : ACallK P g xs d K f H lg = ACallK P g xs' d K f' H' lg := by rw [hx, hf, hH]
@[congr] theorem AGuard_congr {v v' : Option AV} {want : Bool} {yes no : Prop} (h : v = v') : AGuard v want yes no = AGuard v' want yes no := by rw [h]
@[congr] theorem ACond_congr {v v' : AV} {x y : Code} (h : v = v') (hf : f = f') (hH : H = H') : ACond P v x y Q f H = ACond P v' x y Q f' H' := by rw [h, hf, hH]
@[congr] theorem ALoop_congr {c : Code} (hf : f = f') (hH : H = H') : ALoop P c Q f H = ALoop P c Q f' H' := by rw [hf, hH]
@[congr] theorem SeqC_congr {y : Code} {e : Exit} : SeqC P y Q e f H = SeqC P y Q e f H := rfl
@[congr] theorem BlockQ_congr {i : Nat} {e : Exit} : BlockQ i Q e f H = BlockQ i Q e f H := rfl
@[congr] theorem ScopeQ_congr {e : Exit} : ScopeQ Q e f H = ScopeQ Q e f H := rfl
@[congr] theorem LoopQ_congr {I : Fr → Hp → Prop} {μ : Fr → Hp → Nat} {n : Nat} {e : Exit} : LoopQ I μ n Q e f H = LoopQ I μ n Q e f H := rfl
@[congr] theorem PlainQ_congr : PlainQ Q f H lg = PlainQ Q f H lg := rfl
@[congr] theorem OrdQ_congr {ops : Array Oper} : OrdQ ops Q f H lg = OrdQ ops Q f H lg := rfl
@[congr] theorem LogOk_congr {ops : Array Oper} : LogOk ops lg = LogOk ops lg := rfl
@[congr] theorem TmpsOk_congr {ops : Array Oper} : TmpsOk ops = TmpsOk ops := rfl
@[congr] theorem RetC_congr {rs : List ResultVar} {own : OwnRes} {res : List CV} {e : Exit} : RetC P rs own res e f H = RetC P rs own res e f H := rfl

theorem ACallK.mono {g d : Nat} {xs : List AV} {K K' : Fr → Hp → Log → Prop} (hK : ∀ f H lg, K f H lg → K' f H lg) (h : ACallK P g xs d K f H lg) : ACallK P g xs d K' f H lg := by
  obtain ⟨c, args, ms, own, res, fz, h1, h2, h3, h4, h5⟩ := h
  exact ⟨c, args, ms, own, res, fz, h1, h2, h3, h4, hK _ _ _ h5⟩

theorem ARun.mono {o : Oper} {K K' : Fr → Hp → Log → Prop} (hK : ∀ f H lg, K f H lg → K' f H lg) (h : ARun P o K f H lg) : ARun P o K' f H lg := by
  unfold ARun at h ⊢
  split at h
  · exact ACallK.mono hK h
  · split at h
    · exact ⟨h.1, hK _ _ _ h.2⟩
    · exact h.elim

theorem AOps.mono {ds : List (Option Nat)} {K K' : Fr → Hp → Log → Prop} (hK : ∀ f H lg, K f H lg → K' f H lg) : ∀ (ops : List Oper) (f : Fr) (H : Hp) (lg : Log), AOps P ds ops K f H lg → AOps P ds ops K' f H lg
  | [], _, _, _, h => hK _ _ _ h
  | o :: rest, f, H, lg, h => by
    unfold AOps at h ⊢
    split at h
    · exact ARun.mono (AOps.mono hK rest) h
    · split at h
      · split at h
        · rename_i h' ; rw [if_pos h']; exact ARun.mono (AOps.mono hK rest) h
        · rename_i h' ; rw [if_neg h']; exact AOps.mono hK rest _ _ _ h
      · exact AOps.mono hK rest _ _ _ h
      · exact h.elim

theorem AW.mono : ∀ (c : Code) {Q Q' : Post} {f : Fr} {H : Hp}, (∀ e f H, Q e f H → Q' e f H) → AW P c Q f H → AW P c Q' f H
  | .skip, _, _, _, _, hq, h => hq _ _ _ h
  | .region _ ops false, _, _, _, _, hq, h => AOps.mono (fun _ _ _ h => hq _ _ _ h) _ _ _ _ h
  | .region _ ops true, _, _, _, _, hq, h => ⟨h.1, AOps.mono (fun _ _ _ h => ⟨h.1, hq _ _ _ h.2⟩) _ _ _ _ h.2⟩
  | .seq x y, _, _, _, _, hq, h => by
    unfold AW at h ⊢
    refine AW.mono x (fun e f H h => ?_) h
    cases e <;> first | exact AW.mono y hq h | exact hq _ _ _ h
  | .cond c x y, _, _, _, _, hq, h => by
    unfold AW ACnd at h ⊢
    split at h
    · exact ⟨fun e => AW.mono x hq (h.1 e), fun e => AW.mono y hq (h.2 e)⟩
    · exact ⟨AW.mono x hq h.1, AW.mono y hq h.2⟩
    · exact h.elim
  | .block id c, _, _, _, _, hq, h => by
    unfold AW at h ⊢
    refine AW.mono c (fun e f H h => ?_) h
    cases e <;> simp only [BlockQ] at h ⊢ <;> first | exact hq _ _ _ h | skip
    split at h
    · rename_i e; rw [if_pos e]; exact hq _ _ _ h
    · rename_i e; rw [if_neg e]; exact hq _ _ _ h
  | .loop c, _, _, _, _, hq, h => by
    unfold AW at h ⊢
    obtain ⟨I, μ, h0, hr⟩ := h
    refine ⟨I, μ, h0, fun f H hI => AW.mono c (fun e f H h => ?_) (hr f H hI)⟩
    cases e <;> first | exact h | exact hq _ _ _ h
  | .exit _, _, _, _, _, hq, h => hq _ _ _ h
  | .scope c, _, _, _, _, hq, h => by
    unfold AW at h ⊢
    refine AW.mono c (fun e f H h => ?_) h
    cases e <;> first | exact hq _ _ _ h | exact h
  | .label _, _, _, _, _, hq, h => hq _ _ _ h
  | .ret, _, _, _, _, hq, h => hq _ _ _ h
  | .goto _, _, _, _, _, _, h => by unfold AW at h; exact h.elim
  | .rangeFunc .., _, _, _, _, _, h => by unfold AW at h; exact h.elim

/-- What holds between two parts. -/
theorem cut {x y : Code} (J : Fr → Hp → Prop) (h1 : AW P x (SeqQ J Q) f H) (h2 : ∀ f H, J f H → AW P y Q f H) : AW P x (SeqC P y Q) f H :=
  AW.mono x (fun e f H h => by cases e <;> first | exact h2 _ _ h | exact h) h1
theorem if_cut {v : AV} {x x' y : Code} (J : Fr → Hp → Prop) (h1 : ACond P v x x' (SeqQ J Q) f H) (h2 : ∀ f H, J f H → AW P y Q f H) : ACond P v x x' (SeqC P y Q) f H := by
  unfold ACond ACnd at *
  split at h1
  · exact ⟨fun e => cut J (h1.1 e) h2, fun e => cut J (h1.2 e) h2⟩
  · exact ⟨cut J h1.1 h2, cut J h1.2 h2⟩
  · exact h1.elim
theorem loop_cut {x y : Code} (J : Fr → Hp → Prop) (h1 : ALoop P x (SeqQ J Q) f H) (h2 : ∀ f H, J f H → AW P y Q f H) : ALoop P x (SeqC P y Q) f H := cut J h1 h2
theorem block_loop_cut {i : Nat} {x y : Code} (J : Fr → Hp → Prop) (h1 : ALoop P x (BlockQ i (SeqQ J Q)) f H) (h2 : ∀ f H, J f H → AW P y Q f H) : ALoop P x (BlockQ i (SeqC P y Q)) f H :=
  AW.mono _ (fun e f H h => by
    cases e <;> simp only [BlockQ] at h ⊢ <;> first | exact h2 _ _ h | exact h | skip
    split at h
    · rename_i e; rw [if_pos e]; exact h2 _ _ h
    · rename_i e; rw [if_neg e]; exact h) h1
theorem SeqQ_normal {J : Fr → Hp → Prop} : SeqQ J Q .normal f H = J f H := rfl
theorem SeqQ_exit {J : Fr → Hp → Prop} {i : Nat} : SeqQ J Q (.exit i) f H = Q (.exit i) f H := rfl
theorem SeqQ_ret {J : Fr → Hp → Prop} : SeqQ J Q .ret f H = Q .ret f H := rfl
@[congr] theorem SeqQ_congr {J : Fr → Hp → Prop} {e : Exit} : SeqQ J Q e f H = SeqQ J Q e f H := rfl

/-- A branch. -/
theorem if_by {c : Prop} [Decidable c] {x y : Code} (h1 : c → AW P x Q f H) (h2 : ¬ c → AW P y Q f H) : ACond P (.iv (.bool (decide c))) x y Q f H :=
  ⟨fun h => h1 (of_decide_eq_true h), fun h => h2 (of_decide_eq_false h)⟩
theorem if_bool {b : Bool} {x y : Code} (h1 : b = true → AW P x Q f H) (h2 : b = false → AW P y Q f H) : ACond P (.iv (.bool b)) x y Q f H := ⟨h1, h2⟩
theorem if_true' {x y : Code} (h1 : AW P x Q f H) : ACond P (.iv (.bool true)) x y Q f H := ⟨fun _ => h1, fun h => nomatch h⟩
theorem if_false' {x y : Code} (h1 : AW P y Q f H) : ACond P (.iv (.bool false)) x y Q f H := ⟨fun h => (nomatch h), fun _ => h1⟩
theorem if_ub {x y : Code} (h1 : AW P x Q f H) (h2 : AW P y Q f H) : ACond P .ub x y Q f H := ⟨h1, h2⟩
theorem ACond_tt {x y : Code} : ACond P (.iv (.bool true)) x y Q f H = AW P x Q f H := by simp [ACond, ACnd]
theorem ACond_ff {x y : Code} : ACond P (.iv (.bool false)) x y Q f H = AW P y Q f H := by simp [ACond, ACnd]
theorem guard_by {c : Prop} [Decidable c] {want : Bool} {yes no : Prop} (h1 : decide c = want → yes) (h2 : decide c ≠ want → no) : AGuard (some (.iv (.bool (decide c)))) want yes no := by
  show if _ then _ else _
  split
  · rename_i h; exact h1 h
  · rename_i h; exact h2 h

/-- What is known of the state, and no more. -/
theorem frame_call {g : Nat} {avs : List AV} {d : Nat} (I : Fr → Hp → Prop) (h0 : I f H) (h : ∀ f H, I f H → ACallK P g avs d K f H lg) : ACallK P g avs d K f H lg := h f H h0
theorem frame_if {v : AV} {x y : Code} (I : Fr → Hp → Prop) (h0 : I f H) (h : ∀ f H, I f H → ACond P v x y Q f H) : ACond P v x y Q f H := h f H h0
theorem frame_loop {c : Code} (I : Fr → Hp → Prop) (h0 : I f H) (h : ∀ f H, I f H → ALoop P c Q f H) : ALoop P c Q f H := h f H h0

/-- The loop's rules. -/
theorem aloop_by {c : Code} (I : Fr → Hp → Prop) (μ : Fr → Hp → Nat) (h0 : I f H) (hr : ∀ f H, I f H → AW P c (LoopQ I μ (μ f H) Q) f H) : ALoop P c Q f H := loop_by I μ h0 hr
theorem aloop_w {c : Code} {f' : Fr} {H' : Hp} (k : Weak f H f' H') (I : Fr → Hp → Prop) (μ : Fr → Hp → Nat) (h0 : I f' H') (hr : ∀ f H, I f H → AW P c (LoopQ I μ (μ f H) Q) f H) : ALoop P c Q f H := by
  unfold ALoop AW
  exact ⟨I, μ, ⟨f', H', k, h0⟩, hr⟩
theorem aloop_nil {c : Code} (t h e sz : Nat) (ht : f t = .nils) (I : Fr → Hp → Prop) (μ : Fr → Hp → Nat) (h0 : I (ghostF f H t h) (ghostH H h e sz)) (hr : ∀ f H, I f H → AW P c (LoopQ I μ (μ f H) Q) f H) : ALoop P c Q f H := loop_nil t h e sz ht I μ h0 hr
end

/-- A function's contract. -/
theorem AC.by_walk {P : Program} {g : Nat} {args : List CV} {own : OwnRes} {res : List CV} (hm : P.follows .mixedOrders = true) {fn : Func} {body : Code} {rs : List ResultVar} (hf : P.funcs[g]? = some fn) (hb : fn.body = some body) (hr : fn.results.toList = rs) (hn : (fn.name == "runtime.NumGoroutine") = false)
    (hd : codeOk fn.ntmps body = true) (hargs : Nat.ble args.length fn.ntmps = true) (h : AW P body (RetC P rs own res) (initF args) initH) : AC P g args own res := by
  subst hr
  exact AC.of_body hm hf hb hn hd (Nat.le_of_ble_eq_true hargs) h

/-- The number in a slot, for a loop's measure. -/
def intAt (f : Fr) (t : Nat) : Int := match f t with | .iv (.int _ n) => n | _ => 0
theorem intAt_of {f : Fr} {t : Nat} {k : IntKind} {n : Int} (h : f t = .iv (.int k n)) : intAt f t = n := by simp [intAt, h]

def lims (l : List Nat) : List (List IV) := l.map fun x : Nat => [.int .u64 (x : Int)]
theorem lims_len (l : List Nat) : (lims l).length = l.length := by simp [lims]
theorem lims_at {l : List Nat} {i : Nat} (h : i < l.length) : (lims l).getD i [] = [.int .u64 ((l.getD i 0 : Nat) : Int)] := by simp [lims, List.getD, h]

theorem int_beq (a b : Int) : (a == b) = decide (a = b) := by by_cases h : a = b <;> simp [h]
theorem int_bne (a b : Int) : (a != b) = decide (a ≠ b) := by by_cases h : a = b <;> simp [h, bne]

theorem lims_set (l : List Nat) (i x : Nat) : (lims l).set i [.int .u64 (x : Int)] = lims (l.set i x) := by simp [lims, List.map_set]
theorem lims_app (l m : List Nat) : lims l ++ lims m = lims (l ++ m) := by simp [lims]
theorem lims_snoc (l : List Nat) (x : Nat) : lims l ++ [[.int .u64 (x : Int)]] = lims (l ++ [x]) := by simp [lims]
theorem lims_take (l : List Nat) (k : Nat) : (lims l).take k = lims (l.take k) := by simp [lims, List.map_take]
theorem lims_drop (l : List Nat) (k : Nat) : (lims l).drop k = lims (l.drop k) := by simp [lims, List.map_drop]
theorem lims_rep (n : Nat) : List.replicate n [.int .u64 0] = lims (List.replicate n 0) := by simp [lims]
theorem lims_rows (l : List Nat) : (∀ r ∈ lims l, r.length = 1) ↔ True := by simp [lims]
theorem lims_nil : lims [] = [] := rfl
theorem lims_one (x : Nat) : [[.int .u64 (x : Int)]] = lims [x] := rfl
theorem splice_one (x y : IV) : splice [x] 0 [y] = [y] := rfl

/-- What the model stands in for. -/
theorem AC.of_run {P : Program} {g : Nat} {args : List CV} {res : List CV} (ins : List (IntKind × Int)) (outs : List (IntKind × Int)) (ha : args = ins.map fun p => .iv (.int p.1 p.2)) (hr : res = outs.map fun p => .iv (.int p.1 p.2))
    (h : ∀ w, (callFunc g (ins.map fun p => Value.int p.1 p.2).toArray).run P w = .ok (.value (packV (outs.map fun p => Value.int p.1 p.2))) w) : AC P g args none res := by
  intro w D vs hD hvs
  have hv : vs = ins.map fun p => Value.int p.1 p.2 := by
    subst ha
    clear h hr
    induction ins generalizing vs with
    | nil => match vs, hvs with | [], _ => rfl
    | cons p ps ih =>
      match vs, hvs with
      | v :: vs, hvs =>
        obtain ⟨h1, h2⟩ := hvs
        have := ih vs h2
        rw [this]
        simp only [CVRep] at h1
        cases h1
        rfl
  subst hv
  refine .inr ⟨_, w, h w, Below.refl _ _, _, rfl, ?_⟩
  subst hr
  refine ⟨by simp, fun j c v _ hc hv => ?_, fun i e sz rows h => nomatch h⟩
  rw [List.getElem?_map] at hc hv
  cases ho : outs[j]? with
  | none => rw [ho] at hc; cases hc
  | some p =>
    rw [ho] at hc hv
    cases hc; cases hv
    exact .int _ _

theorem stamp_blk (fz : Bool) (st e sz : Nat) (rows : List (List IV)) : HC.stamp (.blk fz st e sz rows) = st := rfl
theorem stamp_none : HC.stamp .none = 0 := rfl
theorem frz_blk (fz : Bool) (st e sz : Nat) (rows : List (List IV)) : HC.frz (.blk fz st e sz rows) = .blk true st e sz rows := rfl
theorem frz_none : HC.frz .none = .none := rfl
theorem cast_0 : ((0 : Nat) : Int) = 0 := rfl
theorem cast_1 : ((1 : Nat) : Int) = 1 := rfl
theorem tmps_by {ops : Array Oper} (h : tmpsOk ops = true) : TmpsOk ops := h
theorem log_by {ops : Array Oper} {lg : Log} (h : logOk ops lg.reverse = true) : LogOk ops lg := h
theorem range_1 : List.range 1 = [0] := rfl
theorem range_2 : List.range 2 = [0, 1] := rfl
theorem range_3 : List.range 3 = [0, 1, 2] := rfl
theorem range_4 : List.range 4 = [0, 1, 2, 3] := rfl

theorem CV_av_iv (x : IV) : CV.av (.iv x) = .iv x := rfl
theorem CV_av_val (v : Value) : CV.av (.val v) = cstA v := rfl
theorem CV_av_agg (x : List IV) : CV.av (.agg x) = .agg x := rfl
theorem wrap_u64 {n : Int} (h : 0 ≤ n ∧ n < 18446744073709551616) : IntKind.u64.wrap n = n := by
  simp only [IntKind.wrap, IntKind.signed, IntKind.bits, Bool.false_and, Bool.false_eq_true, if_false]
  omega

end Go.AL
