/-
 What a law is handed,read as data.
-/
import Derived.Test.YtnhghmibjddlkaaGreatDoorAbsRM
import GoSem.Claim
import GoSem.ClaimJoined
import GoSem.ClaimMapViews
import Derived.JoinedTies
import Derived.KernelRfl
import Derived.ProofKit
import Derived.OpenShut
import Derived.Below
import Derived.ChangeArms
namespace Go.AL
open Go.RowKit Go.ChangeShapes
set_option linter.unusedSimpArgs false
set_option linter.unusedVariables false
section
variable {H:Type} {enc:TypeId×Value->H} {P:Program} {w:World} {sp:Nat->Bool} {held:Bool}
def Reads (P:Program)(w:World){α:Type}(f:α->List IV)(Q:α->Prop)(t:TypeId):Prop :=
 ∀{H:Type} (enc:TypeId×Value->H) (sp:Nat->Bool) (held:Bool) (fuel:Nat) (cs:List Value) (x:DataW H×List MemPlace),DataW.trod enc P w 0 sp held fuel t cs=some x->∃c,Q c/\eF w (λ_=>False) (f c) cs
theorem listOf {α:Type}{R:Nat->α->Prop}:∀n,(∀i,i<n->∃c,R i c)->∃l:List α,l.length=n/\∀i c,l[i]?=some c->R i c
 |0,_=>⟨[],rfl,λi c h=>by simp at h⟩
 |n+1,h=>by
  obtain⟨l,hl,hr⟩:=listOf n λi hi=>h i (by omega)
  obtain⟨c,hc⟩:=h n (by omega);refine⟨l++[c],by simp[hl],λi d hd=>?_⟩;by_cases hi:i<n
  .rw[List.getElem?_append_left (by omega)]at hd;exact hr i d hd
  .have hin:i=n:=by
    have:=(List.getElem?_eq_some_iff.mp hd).1;simp at this;omega
   subst hin;rw[List.getElem?_append_right (by omega),hl,Nat.sub_self]at hd;simp at hd;subst hd;exact hc
theorem eF.at' {w:World}{D:Nat->Prop}:∀{xs:List IV} {vs:List Value},eF w D xs vs->∀(j:Nat) (x:IV),xs[j]?=some x->∃v,vs[j]?=some v/\Rep w D x v
 |[],_,_,_,_,h=>by simp at h
 |x::xs,[],h,_,_,_=>by simp[eF]at h
 |x::xs,v::vs,h,0,y,hy=>by simp only[eF]at h;simp at hy;subst hy;exact⟨v,rfl,h.1⟩
 |x::xs,v::vs,h,j+1,y,hy=>by
  simp only[eF]at h;exact eF.at' h.2 j y (by simpa using hy)
theorem WQ {t:TypeId}(ht:P.underlying t=some (.int .u64)):Reads P w (λx:Nat=>[.int .u64 (x:Int)]) (λx=>x<W) t:=by
 intro H enc sp held fuel cs x h;obtain⟨n,rfl,_,hw⟩:=DataW.trod_int ht h;have hn:0<=n/\n<18446744073709551616:=by
  simp[Lit.wf,IntKind.min,IntKind.max,IntKind.signed,IntKind.bits]at hw;omega
 refine⟨n.toNat,by simp only[W];omega,?_⟩;simp only[eF,and_true];rw[Int.toNat_of_nonneg hn.1];exact .int _ _
theorem oU {t:TypeId}(ht:P.underlying t=some (.int .i64)):Reads P w (λx:Int=>[.int .i64 x]) (λx=>-9223372036854775808<=x/\x<=9223372036854775807) t:=by
 intro H enc sp held fuel cs x h;obtain⟨n,rfl,_,hw⟩:=DataW.trod_int ht h;have hn : -9223372036854775808<=n/\n<=9223372036854775807:=by
  simp[Lit.wf,IntKind.min,IntKind.max,IntKind.signed,IntKind.bits]at hw;omega
 exact⟨n,hn,by simp only[eF,and_true];exact .int _ _⟩
theorem TM {t:TypeId}(ht:P.underlying t=some .bool):Reads P w (λx:Bool=>[.bool x]) (λ_=>True) t:=by
 intro H enc sp held fuel cs x h;obtain⟨b,rfl,_⟩:=DataW.trod_bool ht h;exact⟨b,trivial,by simp only[eF,and_true];exact .bool _⟩
def Ja (P:Program)(w:World)(tot:Nat){α:Type}(fs:List Field)(off:Nat)(f:α->List IV)(Q:α->Prop):Prop :=
 ∀{H:Type} (enc:TypeId×Value->H) (sp:Nat->Bool) (held:Bool) (n:Nat) (cs:List Value),cs.length=tot ->
  (∀fld∈fs,∃x:DataW H×List MemPlace,DataW.trod enc P w 0 sp held n fld.type ((cs.drop fld.offset).take (P.cellsOf fld.type))=some x)->∃c,Q c/\eF w (λ_=>False) (f c) (cs.drop off)
theorem Uj {tot:Nat}:Ja P w tot [] tot (λ_:Unit=>[]) (λ_=>True):=by
 intro H enc sp held n cs hl _;refine⟨(),trivial,?_⟩;rw[List.drop_eq_nil_of_le (by omega)];trivial
theorem vW {tot off s:Nat}{α β:Type}{f1:α->List IV}{Q1:α->Prop}{f2:β->List IV}{Q2:β->Prop}{fs:List Field}{n1 s1 s2:String}{t1 o1:Nat}{e1:Bool}(h1:Reads P w f1 Q1 t1)(hs:P.cellsOf t1=s)(h2:Ja P w tot fs (off+s) f2 Q2) :
  Ja P w tot (⟨n1,t1,off,e1,s1,s2,o1⟩::fs) off (λc:α×β=>f1 c.1++f2 c.2) (λc=>Q1 c.1/\Q2 c.2):=by
 intro H enc sp held n cs hl h;obtain⟨x,hx⟩:=h _ (List.mem_cons_self ..);obtain⟨a,hqa,hra⟩:=h1 enc sp held n _ x hx;obtain⟨b,hqb,hrb⟩:=h2 enc sp held n cs hl (λfld hf=>h fld (List.mem_cons_of_mem _ hf));refine⟨(a,b),⟨hqa,hqb⟩,?_⟩;have e:cs.drop off=(cs.drop off).take s++cs.drop (off+s):=by rw[<-List.drop_drop,List.take_append_drop]
 rw[e];rw[hs]at hra;exact hra.append hrb
theorem JU {t:TypeId}{fs:Array Field}{tot:Nat}{α:Type}{f:α->List IV}{Q:α->Prop}(ht:P.underlying t=some (.struct fs))(htot:P.cellsOf t=tot)(hf:Ja P w tot fs.toList 0 f Q):Reads P w f Q t:=by
 intro H enc sp held fuel cs x h;obtain⟨xs,n,_,_,hl,hxs,hfs⟩:=DataW.trod_struct ht h;obtain⟨c,hq,hr⟩:=hf enc sp held n cs (by rw[hl,htot]) (λfld hfld=>by
  obtain⟨i,hi⟩:=List.getElem?_of_mem hfld;rw[Array.getElem?_toList]at hi;have hlt:i<fs.size:=(Array.getElem?_eq_some_iff.mp hi).1;have:=hfs i fld hi;rw[List.getElem?_eq_getElem (by omega)]at this;exact⟨_,this⟩)
 exact⟨c,hq,by simpa using hr⟩
end
end Go.AL
