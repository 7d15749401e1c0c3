/-
 What a law is handed,read as data.
-/
import Derived.Test.YtnjaeokkfbihlaaGreatAbsRM
import GoSem.Claim
import GoSem.ClaimJoined
import GoSem.ClaimMapViews
import Derived.JoinedTies
import Derived.KernelRfl
import Derived.ProofKit
import Derived.OpenShut
import Derived.Below
import Derived.ChangeArms
namespace Go.AL
open Go.RowKit Go.ChangeShapes
set_option linter.unusedSimpArgs false
set_option linter.unusedVariables false
section
variable {H:Type} {enc:TypeId×Value->H} {P:Program} {w:World} {sp:Nat->Bool} {held:Bool}
def Reads (P:Program)(w:World){α:Type}(f:α->List IV)(Q:α->Prop)(t:TypeId):Prop :=
 ∀{H:Type} (enc:TypeId×Value->H) (sp:Nat->Bool) (held:Bool) (fuel:Nat) (cs:List Value) (x:DataW H×List MemPlace),DataW.trod enc P w 0 sp held fuel t cs=some x->∃c,Q c/\Reps w (λ_=>False) (f c) cs
theorem listOf {α:Type}{R:Nat->α->Prop}:∀n,(∀i,i<n->∃c,R i c)->∃l:List α,l.length=n/\∀i c,l[i]?=some c->R i c
 |0,_=>⟨[],rfl,λi c h=>by simp at h⟩
 |n+1,h=>by
  obtain⟨l,hl,hr⟩:=listOf n λi hi=>h i (by omega)
  obtain⟨c,hc⟩:=h n (by omega);refine⟨l++[c],by simp[hl],λi d hd=>?_⟩;by_cases hi:i<n
  .rw[List.getElem?_append_left (by omega)]at hd;exact hr i d hd
  .have hin:i=n:=by
    have:=(List.getElem?_eq_some_iff.mp hd).1;simp at this;omega
   subst hin;rw[List.getElem?_append_right (by omega),hl,Nat.sub_self]at hd;simp at hd;subst hd;exact hc
theorem Reps.at' {w:World}{D:Nat->Prop}:∀{xs:List IV} {vs:List Value},Reps w D xs vs->∀(j:Nat) (x:IV),xs[j]?=some x->∃v,vs[j]?=some v/\Rep w D x v
 |[],_,_,_,_,h=>by simp at h
 |x::xs,[],h,_,_,_=>by simp[Reps]at h
 |x::xs,v::vs,h,0,y,hy=>by simp only[Reps]at h;simp at hy;subst hy;exact⟨v,rfl,h.1⟩
 |x::xs,v::vs,h,j+1,y,hy=>by
  simp only[Reps]at h;exact Reps.at' h.2 j y (by simpa using hy)
theorem reads_slice {α:Type}{f:α->List IV}{Q:α->Prop}{t e:TypeId}{sz:Nat}(ht:P.underlying t=some (.slice e))(hc:P.cellsOf e=sz)(hsz:∀c,(f c).length=sz)(hpos:0<sz)(he:Reads P w f Q e) :
  Reads P w (λl:List α=>[.sl (l.map f)]) (λl=>l.length<=9223372036854775807/\∀c∈l,Q c) t:=by
 intro H enc sp held fuel cs x h;rcases DataW.trod_slice ht h with ⟨rfl,_⟩|⟨a,len,cap,elems,rest,n,_,rfl,rfl,hb,hl,hm,hlen,hel,hsp,hns⟩
 .exact⟨[],⟨by simp,by simp⟩,by simp only[Reps,List.map_nil];exact⟨.nil none 0 (Nat.zero_le _),trivial⟩⟩
 have each:∀i,i<len->∃c:α,Q c/\∃us,w.cells? 0 (a.add (i*sz)) sz=some us/\Reps w (λ_=>False) (f c) us:=by
  intro i hi;have:=hel i hi;rw[hc]at this;have hi':i<elems.length:=by omega
  rw[List.getElem?_eq_getElem hi',Option.bind_eq_some_iff]at this;obtain⟨us,hus,hy⟩:=this;obtain⟨c,hQ,hr⟩:=he enc sp held n us _ hy;exact⟨c,hQ,us,hus,hr⟩
 obtain⟨l,hll,hlr⟩:=listOf len each;refine⟨l,⟨by simp only[maxLen]at hm;omega,λc hc=>?_⟩,?_⟩
 .obtain⟨i,hi⟩:=List.getElem?_of_mem hc;exact(hlr i c hi).1
 .simp only[Reps,and_true];by_cases h0:len=0
  .have:l=[]:=by rw[<-List.length_eq_zero_iff];omega
   subst this;subst h0;exact .nil (some a) cap hm
  .have hlm:(l.map f).length=len:=by simp[hll]
   have cellAt:∀(i:Nat) (r:List IV),(l.map f)[i]?=some r->∀(j:Nat) (x:IV),r[j]?=some x->∃v,w.cell? ((a.add (i*sz)).add j)=some v/\Rep w (λ_=>False) x v:=by
    intro i r hr j x hx;rw[List.getElem?_map,Option.map_eq_some_iff]at hr;obtain⟨c,hc',rfl⟩:=hr;obtain⟨_,us,hus,hrep⟩:=hlr i c hc';obtain⟨v,hv,hrv⟩:=hrep.at' j x hx;obtain⟨_,_,hcell⟩:=World.cells?_some hus;have hj:j<sz:=by
     have:=(List.getElem?_eq_some_iff.mp hx).1;rw[hsz]at this;exact this
    exact⟨v,by rw[hcell j hj];exact hv,hrv⟩
   obtain⟨b,off,spot⟩:=a;have h00:0<l.length:=by omega
   obtain⟨v0,hv0,_⟩:=cellAt 0 (f l[0]) (by simp[h00]) 0 ((f l[0])[0]'(by rw[hsz];exact hpos)) (by simp);have hspot:spot=none:=by simpa [Addr.add] using World.cell?_spot hv0
   subst hspot;have hadd:∀i j,((⟨b,off,none⟩:Addr).add (i*sz)).add j=⟨b,off+(i*sz+j),none⟩:=by
    intro i j;unfold Addr.add;by_cases h1:i*sz=0<;>by_cases h2:j=0<;>simp[h1,h2,Nat.add_assoc]
   have:=Rep.sl (w:=w) (D:=λ_=>False) (l.map f) b off cap sz (λi j=>(w.cell? ⟨b,off+(i*sz+j),none⟩).getD default) ?_ (by rw[hlm];exact hl) hm ?_ (λh=>h) ?_ ?_
   .rw[hlm]at this;exact this
   .intro i r hr;rw[List.getElem?_map,Option.map_eq_some_iff]at hr;obtain⟨c,_,rfl⟩:=hr;exact hsz c
   .rw[show (⟨b,off,none⟩:Addr).add (0*sz)=⟨b,off,none⟩ by simp[Addr.add]]at hv0;exact World.block_lt_of_cell? w _ hv0
   .intro i r hr j x hx;obtain⟨v,hv,_⟩:=cellAt i r hr j x hx;rw[hadd]at hv;simp only[hv,Option.getD_some]
   .intro i r hr j x hx;obtain⟨v,hv,hrv⟩:=cellAt i r hr j x hx;rw[hadd]at hv;simp only[hv,Option.getD_some];exact hrv
theorem reads_u64 {t:TypeId}(ht:P.underlying t=some (.int .u64)):Reads P w (λx:Nat=>[.int .u64 (x:Int)]) (λx=>x<W) t:=by
 intro H enc sp held fuel cs x h;obtain⟨n,rfl,_,hw⟩:=DataW.trod_int ht h;have hn:0<=n/\n<18446744073709551616:=by
  simp[Lit.wf,IntKind.min,IntKind.max,IntKind.signed,IntKind.bits]at hw;omega
 refine⟨n.toNat,by simp only[W];omega,?_⟩;simp only[Reps,and_true];rw[Int.toNat_of_nonneg hn.1];exact .int _ _
theorem reads_nat {t e:TypeId}(ht:P.underlying t=some (.slice e))(he:P.underlying e=some (.int .u64))(hc:P.cellsOf e=1):Reads P w (λl:List Nat=>[.sl (lims l)]) (λl=>l.length<=9223372036854775807/\Lim l) t :=
 λenc sp held fuel cs x h=>reads_slice (f:=λx:Nat=>[.int .u64 (x:Int)]) ht hc (λ_=>rfl) (by omega) (reads_u64 he) enc sp held fuel cs x h
theorem reads_int {t b m e:TypeId}{n1 n2 s1 s2 s3 s4:String}{e1 e2:Bool}{o1 o2:Nat}(ht:P.underlying t=some (.struct #[⟨n1,b,0,e1,s1,s2,o1⟩,⟨n2,m,1,e2,s3,s4,o2⟩]))(hb:P.underlying b=some .bool)(hm:P.underlying m=some (.slice e))(he:P.underlying e=some (.int .u64))
  (ht2:P.cellsOf t=2) (hb1:P.cellsOf b=1) (hm1:P.cellsOf m=1) (hc:P.cellsOf e=1):Reads P w prow (Sz 9223372036854775807) t:=by
 intro H enc sp held fuel cs x h;obtain⟨xs,n,_,_,hl,hxs,hf⟩:=DataW.trod_struct ht h;rw[ht2]at hl
 match cs,hl with
 |[v1,v2],_ =>
  have h1:DataW.trod enc P w 0 sp held n b ((List.drop 0 [v1,v2]).take (P.cellsOf b))=xs[0]?:=hf 0 ⟨n1,b,0,e1,s1,s2,o1⟩ rfl;have h2:DataW.trod enc P w 0 sp held n m ((List.drop 1 [v1,v2]).take (P.cellsOf m))=xs[1]?:=hf 1 ⟨n2,m,1,e2,s3,s4,o2⟩ rfl;have hx2:xs.length=2:=hxs;rw[hb1,List.getElem?_eq_getElem (by omega)]at h1;rw[hm1,List.getElem?_eq_getElem (by omega)]at h2;obtain⟨s,hs,_⟩:=DataW.trod_bool hb h1;obtain⟨l,⟨hl1,hl2⟩,hr⟩:=reads_nat hm he hc enc sp held n _ _ h2;injection hs with hs;subst hs;replace hr:Reps w (λ_=>False) [.sl (lims l)] [v2]:=hr;simp only[Reps,and_true]at hr;exact⟨(s,l),⟨hl1,hl2⟩,by simp only[prow,Reps,and_true];exact⟨.bool s,hr⟩⟩
theorem reads_i64 {t:TypeId}(ht:P.underlying t=some (.int .i64)):Reads P w (λx:Int=>[.int .i64 x]) (λx=>-9223372036854775808<=x/\x<=9223372036854775807) t:=by
 intro H enc sp held fuel cs x h;obtain⟨n,rfl,_,hw⟩:=DataW.trod_int ht h;have hn : -9223372036854775808<=n/\n<=9223372036854775807:=by
  simp[Lit.wf,IntKind.min,IntKind.max,IntKind.signed,IntKind.bits]at hw;omega
 exact⟨n,hn,by simp only[Reps,and_true];exact .int _ _⟩
theorem reads_bool {t:TypeId}(ht:P.underlying t=some .bool):Reads P w (λx:Bool=>[.bool x]) (λ_=>True) t:=by
 intro H enc sp held fuel cs x h;obtain⟨b,rfl,_⟩:=DataW.trod_bool ht h;exact⟨b,trivial,by simp only[Reps,and_true];exact .bool _⟩
def FieldsR (P:Program)(w:World)(tot:Nat){α:Type}(fs:List Field)(off:Nat)(f:α->List IV)(Q:α->Prop):Prop :=
 ∀{H:Type} (enc:TypeId×Value->H) (sp:Nat->Bool) (held:Bool) (n:Nat) (cs:List Value),cs.length=tot ->
  (∀fld∈fs,∃x:DataW H×List MemPlace,DataW.trod enc P w 0 sp held n fld.type ((cs.drop fld.offset).take (P.cellsOf fld.type))=some x)->∃c,Q c/\Reps w (λ_=>False) (f c) (cs.drop off)
theorem fields_nil {tot:Nat}:FieldsR P w tot [] tot (λ_:Unit=>[]) (λ_=>True):=by
 intro H enc sp held n cs hl _;refine⟨(),trivial,?_⟩;rw[List.drop_eq_nil_of_le (by omega)];trivial
theorem fields_cons {tot off s:Nat}{α β:Type}{f1:α->List IV}{Q1:α->Prop}{f2:β->List IV}{Q2:β->Prop}{fs:List Field}{n1 s1 s2:String}{t1 o1:Nat}{e1:Bool}(h1:Reads P w f1 Q1 t1)(hs:P.cellsOf t1=s)(h2:FieldsR P w tot fs (off+s) f2 Q2) :
  FieldsR P w tot (⟨n1,t1,off,e1,s1,s2,o1⟩::fs) off (λc:α×β=>f1 c.1++f2 c.2) (λc=>Q1 c.1/\Q2 c.2):=by
 intro H enc sp held n cs hl h;obtain⟨x,hx⟩:=h _ (List.mem_cons_self ..);obtain⟨a,hqa,hra⟩:=h1 enc sp held n _ x hx;obtain⟨b,hqb,hrb⟩:=h2 enc sp held n cs hl (λfld hf=>h fld (List.mem_cons_of_mem _ hf));refine⟨(a,b),⟨hqa,hqb⟩,?_⟩;have e:cs.drop off=(cs.drop off).take s++cs.drop (off+s):=by rw[<-List.drop_drop,List.take_append_drop]
 rw[e];rw[hs]at hra;exact hra.append hrb
theorem reads_struct {t:TypeId}{fs:Array Field}{tot:Nat}{α:Type}{f:α->List IV}{Q:α->Prop}(ht:P.underlying t=some (.struct fs))(htot:P.cellsOf t=tot)(hf:FieldsR P w tot fs.toList 0 f Q):Reads P w f Q t:=by
 intro H enc sp held fuel cs x h;obtain⟨xs,n,_,_,hl,hxs,hfs⟩:=DataW.trod_struct ht h;obtain⟨c,hq,hr⟩:=hf enc sp held n cs (by rw[hl,htot]) (λfld hfld=>by
  obtain⟨i,hi⟩:=List.getElem?_of_mem hfld;rw[Array.getElem?_toList]at hi;have hlt:i<fs.size:=(Array.getElem?_eq_some_iff.mp hi).1;have:=hfs i fld hi;rw[List.getElem?_eq_getElem (by omega)]at this;exact⟨_,this⟩)
 exact⟨c,hq,by simpa using hr⟩
theorem AC.calls {g : Nat} {args : List CV} {own : OwnRes} {res : List CV} {fn : Func} (h : AC P g args own res) (hf : P.funcs[g]? = some fn) (hn : (fn.name == "runtime.NumGoroutine") = false) (hb : fn.body.isNone = false) (vs : List Value) (hvs : CVReps w (fun _ => False) args vs) :
  Calls P g vs.toArray w λe w'=>∃v,e=.returned v/\Below w.heap.size w w'/\∃us,v=packV us/\ResOk w w' (λ_=>False) own res us:=by
 rcases h w (λ_=>False) vs (λ_ h=>h.elim) hvs with ⟨fn',hf',_,_,hc⟩|⟨v,w',hr,_⟩
 .exact hc
 ·have h1 : fn.name ≠ "runtime.NumGoroutine" := by simpa using hn
  have h2:fn.body≠none:=by intro e;rw[e]at hb;cases hb
  simp[callFunc,hf,h1,h2,Sem.run]at hr
theorem AC.law {g : Nat} {args : List CV} {fn : Func} (h : AC P g args none [.iv (.bool true)]) (hf : P.funcs[g]? = some fn) (hn : (fn.name == "runtime.NumGoroutine") = false) (hb : fn.body.isNone = false) (vs : List Value) (hvs : CVReps w (fun _ => False) args vs) :
  Calls P g vs.toArray w λe w'=>e=.returned (.bool true)/\Below w.heap.size w w':=by
 refine(h.calls hf hn hb vs hvs).mono λe w' hq=>?_;obtain⟨v,rfl,hbel,us,rfl,hres⟩:=hq;refine⟨?_,hbel⟩
 match us,hres with
 |[u],hres =>
  have:=hres.val 0 (.iv (.bool true)) u (λ_ _ _ _ h=>nomatch h) rfl rfl;simp only[CVRep]at this;cases this;rfl
 |[],hres=>have:=hres.len;simp at this
 |_::_::_,hres=>have:=hres.len;simp at this
end
end Go.AL
