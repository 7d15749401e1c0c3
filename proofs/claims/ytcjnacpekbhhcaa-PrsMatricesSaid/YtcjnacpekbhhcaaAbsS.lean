/-
  What a law is handed, read as data.
-/
import Derived.Test.YtcjnacpekbhhcaaAbsRM
import GoSem.Claim
import GoSem.ClaimJoined
import GoSem.ClaimMapViews
import Derived.JoinedTies
import Derived.KernelRfl
import Derived.ProofKit
import Derived.OpenShut
import Derived.Below
import Derived.ChangeArms
namespace Go.AL
open Go.RowKit Go.ChangeShapes
set_option linter.unusedSimpArgs false
set_option linter.unusedVariables false
section
variable {H : Type} {enc : TypeId × Value → H} {P : Program} {w : World} {sp : Nat → Bool} {held : Bool}
def Reads (P : Program) (w : World) {α : Type} (f : α → List IV) (Q : α → Prop) (t : TypeId) : Prop :=
  ∀ {H : Type} (enc : TypeId × Value → H) (sp : Nat → Bool) (held : Bool) (fuel : Nat) (cs : List Value) (x : DataW H × List MemPlace), DataW.trod enc P w 0 sp held fuel t cs = some x → ∃ c, Q c ∧ Reps w (fun _ => False) (f c) cs
theorem reads_i64 {t : TypeId} (ht : P.underlying t = some (.int .i64)) : Reads P w (fun x : Int => [.int .i64 x]) (fun x => -9223372036854775808 ≤ x ∧ x ≤ 9223372036854775807) t := by
  intro H enc sp held fuel cs x h
  obtain ⟨n, rfl, _, hw⟩ := DataW.trod_int ht h
  have hn : -9223372036854775808 ≤ n ∧ n ≤ 9223372036854775807 := by
    simp [Lit.wf, IntKind.min, IntKind.max, IntKind.signed, IntKind.bits] at hw
    omega
  exact ⟨n, hn, by simp only [Reps, and_true]; exact .int _ _⟩
def FieldsR (P : Program) (w : World) (tot : Nat) {α : Type} (fs : List Field) (off : Nat) (f : α → List IV) (Q : α → Prop) : Prop :=
  ∀ {H : Type} (enc : TypeId × Value → H) (sp : Nat → Bool) (held : Bool) (n : Nat) (cs : List Value), cs.length = tot →
    (∀ fld ∈ fs, ∃ x : DataW H × List MemPlace, DataW.trod enc P w 0 sp held n fld.type ((cs.drop fld.offset).take (P.cellsOf fld.type)) = some x) → ∃ c, Q c ∧ Reps w (fun _ => False) (f c) (cs.drop off)
theorem fields_nil {tot : Nat} : FieldsR P w tot [] tot (fun _ : Unit => []) (fun _ => True) := by
  intro H enc sp held n cs hl _
  refine ⟨(), trivial, ?_⟩
  rw [List.drop_eq_nil_of_le (by omega)]
  trivial
theorem fields_cons {tot off s : Nat} {α β : Type} {f1 : α → List IV} {Q1 : α → Prop} {f2 : β → List IV} {Q2 : β → Prop} {fs : List Field} {n1 s1 s2 : String} {t1 o1 : Nat} {e1 : Bool} (h1 : Reads P w f1 Q1 t1) (hs : P.cellsOf t1 = s) (h2 : FieldsR P w tot fs (off + s) f2 Q2) :
    FieldsR P w tot (⟨n1, t1, off, e1, s1, s2, o1⟩ :: fs) off (fun c : α × β => f1 c.1 ++ f2 c.2) (fun c => Q1 c.1 ∧ Q2 c.2) := by
  intro H enc sp held n cs hl h
  obtain ⟨x, hx⟩ := h _ (List.mem_cons_self ..)
  obtain ⟨a, hqa, hra⟩ := h1 enc sp held n _ x hx
  obtain ⟨b, hqb, hrb⟩ := h2 enc sp held n cs hl (fun fld hf => h fld (List.mem_cons_of_mem _ hf))
  refine ⟨(a, b), ⟨hqa, hqb⟩, ?_⟩
  have e : cs.drop off = (cs.drop off).take s ++ cs.drop (off + s) := by rw [← List.drop_drop, List.take_append_drop]
  rw [e]
  rw [hs] at hra
  exact hra.append hrb
theorem reads_struct {t : TypeId} {fs : Array Field} {tot : Nat} {α : Type} {f : α → List IV} {Q : α → Prop} (ht : P.underlying t = some (.struct fs)) (htot : P.cellsOf t = tot) (hf : FieldsR P w tot fs.toList 0 f Q) : Reads P w f Q t := by
  intro H enc sp held fuel cs x h
  obtain ⟨xs, n, _, _, hl, hxs, hfs⟩ := DataW.trod_struct ht h
  obtain ⟨c, hq, hr⟩ := hf enc sp held n cs (by rw [hl, htot]) (fun fld hfld => by
    obtain ⟨i, hi⟩ := List.getElem?_of_mem hfld
    rw [Array.getElem?_toList] at hi
    have hlt : i < fs.size := (Array.getElem?_eq_some_iff.mp hi).1
    have := hfs i fld hi
    rw [List.getElem?_eq_getElem (by omega)] at this
    exact ⟨_, this⟩)
  exact ⟨c, hq, by simpa using hr⟩
theorem AC.calls {g : Nat} {args : List CV} {own : OwnRes} {res : List CV} {fn : Func} (h : AC P g args own res) (hf : P.funcs[g]? = some fn) (hn : (fn.name == "runtime.NumGoroutine") = false) (hb : fn.body.isNone = false) (vs : List Value) (hvs : CVReps w (fun _ => False) args vs) :
    Calls P g vs.toArray w fun e w' => ∃ v, e = .returned v ∧ Below w.heap.size w w' ∧ ∃ us, v = packV us ∧ ResOk w w' (fun _ => False) own res us := by
  rcases h w (fun _ => False) vs (fun _ h => h.elim) hvs with ⟨fn', hf', _, _, hc⟩ | ⟨v, w', hr, _⟩
  · exact hc
  · have h1 : fn.name ≠ "runtime.NumGoroutine" := by simpa using hn
    have h2 : fn.body ≠ none := by intro e; rw [e] at hb; cases hb
    simp [callFunc, hf, h1, h2, Sem.run] at hr
theorem AC.law {g : Nat} {args : List CV} {fn : Func} (h : AC P g args none [.iv (.bool true)]) (hf : P.funcs[g]? = some fn) (hn : (fn.name == "runtime.NumGoroutine") = false) (hb : fn.body.isNone = false) (vs : List Value) (hvs : CVReps w (fun _ => False) args vs) :
    Calls P g vs.toArray w fun e w' => e = .returned (.bool true) ∧ Below w.heap.size w w' := by
  refine (h.calls hf hn hb vs hvs).mono fun e w' hq => ?_
  obtain ⟨v, rfl, hbel, us, rfl, hres⟩ := hq
  refine ⟨?_, hbel⟩
  match us, hres with
  | [u], hres =>
    have := hres.val 0 (.iv (.bool true)) u (fun _ _ _ _ h => nomatch h) rfl rfl
    simp only [CVRep] at this
    cases this
    rfl
  | [], hres => have := hres.len; simp at this
  | _ :: _ :: _, hres => have := hres.len; simp at this
end
end Go.AL
