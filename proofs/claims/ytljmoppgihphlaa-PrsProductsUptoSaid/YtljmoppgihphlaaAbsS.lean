/-
 What a law is handed,read as data.
-/
import Derived.Test.YtljmoppgihphlaaAbsRM
import GoSem.Claim
import GoSem.ClaimJoined
import GoSem.ClaimMapViews
import Derived.JoinedTies
import Derived.KernelRfl
import Derived.ProofKit
import Derived.OpenShut
import Derived.Below
import Derived.ChangeArms
namespace Go.AL
open Go.RowKit Go.ChangeShapes
set_option linter.unusedSimpArgs false
set_option linter.unusedVariables false
section
variable {H:Type} {enc:TypeId×Value->H} {P:Program} {w:World} {sp:Nat->Bool} {held:Bool}
def Reads (P:Program)(w:World){α:Type}(f:α->List IV)(Q:α->Prop)(t:TypeId):Prop :=
 ∀{H:Type} (enc:TypeId×Value->H) (sp:Nat->Bool) (held:Bool) (fuel:Nat) (cs:List Value) (x:DataW H×List MemPlace),DataW.trod enc P w 0 sp held fuel t cs=some x->∃c,Q c/\Reps w (λ_=>False) (f c) cs
theorem listOf {α:Type}{R:Nat->α->Prop}:∀n,(∀i,i<n->∃c,R i c)->∃l:List α,l.length=n/\∀i c,l[i]?=some c->R i c
 |0,_=>⟨[],rfl,λi c h=>by simp at h⟩
 |n+1,h=>by
  obtain⟨l,hl,hr⟩:=listOf n λi hi=>h i (by omega)
  obtain⟨c,hc⟩:=h n (by omega);refine⟨l++[c],by simp[hl],λi d hd=>?_⟩;by_cases hi:i<n
  .rw[List.getElem?_append_left (by omega)]at hd;exact hr i d hd
  .have hin:i=n:=by
    have:=(List.getElem?_eq_some_iff.mp hd).1;simp at this;omega
   subst hin;rw[List.getElem?_append_right (by omega),hl,Nat.sub_self]at hd;simp at hd;subst hd;exact hc
theorem Reps.at' {w:World}{D:Nat->Prop}:∀{xs:List IV} {vs:List Value},Reps w D xs vs->∀(j:Nat) (x:IV),xs[j]?=some x->∃v,vs[j]?=some v/\Rep w D x v
 |[],_,_,_,_,h=>by simp at h
 |x::xs,[],h,_,_,_=>by simp[Reps]at h
 |x::xs,v::vs,h,0,y,hy=>by simp only[Reps]at h;simp at hy;subst hy;exact⟨v,rfl,h.1⟩
 |x::xs,v::vs,h,j+1,y,hy=>by
  simp only[Reps]at h;exact Reps.at' h.2 j y (by simpa using hy)
theorem reads_u64 {t:TypeId}(ht:P.underlying t=some (.int .u64)):Reads P w (λx:Nat=>[.int .u64 (x:Int)]) (λx=>x<W) t:=by
 intro H enc sp held fuel cs x h;obtain⟨n,rfl,_,hw⟩:=DataW.trod_int ht h;have hn:0<=n/\n<18446744073709551616:=by
  simp[Lit.wf,IntKind.min,IntKind.max,IntKind.signed,IntKind.bits]at hw;omega
 refine⟨n.toNat,by simp only[W];omega,?_⟩;simp only[Reps,and_true];rw[Int.toNat_of_nonneg hn.1];exact .int _ _
theorem reads_i64 {t:TypeId}(ht:P.underlying t=some (.int .i64)):Reads P w (λx:Int=>[.int .i64 x]) (λx=>-9223372036854775808<=x/\x<=9223372036854775807) t:=by
 intro H enc sp held fuel cs x h;obtain⟨n,rfl,_,hw⟩:=DataW.trod_int ht h;have hn : -9223372036854775808<=n/\n<=9223372036854775807:=by
  simp[Lit.wf,IntKind.min,IntKind.max,IntKind.signed,IntKind.bits]at hw;omega
 exact⟨n,hn,by simp only[Reps,and_true];exact .int _ _⟩
theorem reads_bool {t:TypeId}(ht:P.underlying t=some .bool):Reads P w (λx:Bool=>[.bool x]) (λ_=>True) t:=by
 intro H enc sp held fuel cs x h;obtain⟨b,rfl,_⟩:=DataW.trod_bool ht h;exact⟨b,trivial,by simp only[Reps,and_true];exact .bool _⟩
theorem AC.calls {g : Nat} {args : List CV} {own : OwnRes} {res : List CV} {fn : Func} (h : AC P g args own res) (hf : P.funcs[g]? = some fn) (hn : (fn.name == "runtime.NumGoroutine") = false) (hb : fn.body.isNone = false) (vs : List Value) (hvs : CVReps w (fun _ => False) args vs) :
  Calls P g vs.toArray w λe w'=>∃v,e=.returned v/\Below w.heap.size w w'/\∃us,v=packV us/\ResOk w w' (λ_=>False) own res us:=by
 rcases h w (λ_=>False) vs (λ_ h=>h.elim) hvs with ⟨fn',hf',_,_,hc⟩|⟨v,w',hr,_⟩
 .exact hc
 ·have h1 : fn.name ≠ "runtime.NumGoroutine" := by simpa using hn
  have h2:fn.body≠none:=by intro e;rw[e]at hb;cases hb
  simp[callFunc,hf,h1,h2,Sem.run]at hr
theorem AC.law {g : Nat} {args : List CV} {fn : Func} (h : AC P g args none [.iv (.bool true)]) (hf : P.funcs[g]? = some fn) (hn : (fn.name == "runtime.NumGoroutine") = false) (hb : fn.body.isNone = false) (vs : List Value) (hvs : CVReps w (fun _ => False) args vs) :
  Calls P g vs.toArray w λe w'=>e=.returned (.bool true)/\Below w.heap.size w w':=by
 refine(h.calls hf hn hb vs hvs).mono λe w' hq=>?_;obtain⟨v,rfl,hbel,us,rfl,hres⟩:=hq;refine⟨?_,hbel⟩
 match us,hres with
 |[u],hres =>
  have:=hres.val 0 (.iv (.bool true)) u (λ_ _ _ _ h=>nomatch h) rfl rfl;simp only[CVRep]at this;cases this;rfl
 |[],hres=>have:=hres.len;simp at this
 |_::_::_,hres=>have:=hres.len;simp at this
end
end Go.AL
