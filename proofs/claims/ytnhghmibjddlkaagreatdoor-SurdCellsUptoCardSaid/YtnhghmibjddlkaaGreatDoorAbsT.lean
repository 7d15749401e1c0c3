/-
 What a law is handed,where the whole is bounded.
-/
import Derived.Test.YtnhghmibjddlkaaGreatDoorAbsS
namespace Go.AL
open Go.RowKit Go.ChangeShapes
set_option linter.unusedSimpArgs false
set_option linter.unusedVariables false
section
variable {P:Program} {w:World}
def ML (bk:{H:Type}->DataW H->Nat):Prop :=
 (∀{H:Type} (es sp:List (DataW H)),es.length<=bk (.slice es sp))/\(∀{H:Type} (es sp:List (DataW H)) (e:DataW H),e∈es->bk e<=bk (.slice es sp))/\(∀{H:Type} (ps:List (DataW H)) (e:DataW H),e∈ps->bk e<=bk (.agg ps))
def lG (bk:{H:Type}->DataW H->Nat)(P:Program)(w:World){α:Type}(f:α->List IV)(Q:Nat->α->Prop)(t:TypeId):Prop :=
 ∀{H:Type} (enc:TypeId×Value->H) (sp:Nat->Bool) (held:Bool) (fuel:Nat) (cs:List Value) (x:DataW H×List MemPlace) (N:Nat),DataW.trod enc P w 0 sp held fuel t cs=some x->bk x.1<=N->∃c,Q N c/\eF w (λ_=>False) (f c) cs
theorem Gy {bk:{H:Type}->DataW H->Nat}{α:Type}{f:α->List IV}{Q:α->Prop}{t:TypeId}(h:Reads P w f Q t):lG bk P w f (λ_=>Q) t :=
 λenc sp held fuel cs x _ hx _=>h enc sp held fuel cs x hx
theorem sK {bk:{H:Type}->DataW H->Nat}(hbk:ML bk){α:Type}{f:α->List IV}{Q:Nat->α->Prop}{t e:TypeId}{sz:Nat}(ht:P.underlying t=some (.slice e))(hc:P.cellsOf e=sz)(hsz:∀c,(f c).length=sz)(hpos:0<sz)(he:lG bk P w f Q e) :
  lG bk P w (λl:List α=>[.sl (l.map f)]) (λN l=>l.length<=N/\∀c∈l,Q N c) t:=by
 intro H enc sp held fuel cs x N h hN;rcases DataW.trod_slice ht h with ⟨rfl,_⟩|⟨a,len,cap,elems,rest,n,_,rfl,rfl,hb,hl,hm,hlen,hel,hsp,hns⟩
 .exact⟨[],⟨by simp,by simp⟩,by simp only[eF,List.map_nil];exact⟨.nil none 0 (Nat.zero_le _),trivial⟩⟩
 have each:∀i,i<len->∃c:α,Q N c/\∃us,w.cells? 0 (a.add (i*sz)) sz=some us/\eF w (λ_=>False) (f c) us:=by
  intro i hi;have:=hel i hi;rw[hc]at this;have hi':i<elems.length:=by omega
  rw[List.getElem?_eq_getElem hi',Option.bind_eq_some_iff]at this;obtain⟨us,hus,hy⟩:=this;obtain⟨c,hQ,hr⟩:=he enc sp held n us _ N hy (Nat.le_trans (hbk.2.1 _ _ _ (List.mem_map.mpr ⟨_,List.getElem_mem hi',rfl⟩)) hN);exact⟨c,hQ,us,hus,hr⟩
 obtain⟨l,hll,hlr⟩:=listOf len each;refine⟨l,⟨by have:=hbk.1 (elems.map (·.1)) (rest.map (·.1));rw[List.length_map]at this;exact Nat.le_trans (by omega) (Nat.le_trans this hN),λc hc=>?_⟩,?_⟩
 .obtain⟨i,hi⟩:=List.getElem?_of_mem hc;exact(hlr i c hi).1
 .simp only[eF,and_true];by_cases h0:len=0
  .have:l=[]:=by rw[<-List.length_eq_zero_iff];omega
   subst this;subst h0;exact .nil (some a) cap hm
  .have hlm:(l.map f).length=len:=by simp[hll]
   have cellAt:∀(i:Nat) (r:List IV),(l.map f)[i]?=some r->∀(j:Nat) (x:IV),r[j]?=some x->∃v,w.cell? ((a.add (i*sz)).add j)=some v/\Rep w (λ_=>False) x v:=by
    intro i r hr j x hx;rw[List.getElem?_map,Option.map_eq_some_iff]at hr;obtain⟨c,hc',rfl⟩:=hr;obtain⟨_,us,hus,hrep⟩:=hlr i c hc';obtain⟨v,hv,hrv⟩:=hrep.at' j x hx;obtain⟨_,_,hcell⟩:=World.cells?_some hus;have hj:j<sz:=by
     have:=(List.getElem?_eq_some_iff.mp hx).1;rw[hsz]at this;exact this
    exact⟨v,by rw[hcell j hj];exact hv,hrv⟩
   obtain⟨b,off,spot⟩:=a;have h00:0<l.length:=by omega
   obtain⟨v0,hv0,_⟩:=cellAt 0 (f l[0]) (by simp[h00]) 0 ((f l[0])[0]'(by rw[hsz];exact hpos)) (by simp);have hspot:spot=none:=by simpa [Addr.add] using World.cell?_spot hv0
   subst hspot;have hadd:∀i j,((⟨b,off,none⟩:Addr).add (i*sz)).add j=⟨b,off+(i*sz+j),none⟩:=by
    intro i j;unfold Addr.add;by_cases h1:i*sz=0<;>by_cases h2:j=0<;>simp[h1,h2,Nat.add_assoc]
   have:=Rep.sl (w:=w) (D:=λ_=>False) (l.map f) b off cap sz (λi j=>(w.cell? ⟨b,off+(i*sz+j),none⟩).getD default) ?_ (by rw[hlm];exact hl) hm ?_ (λh=>h) ?_ ?_
   .rw[hlm]at this;exact this
   .intro i r hr;rw[List.getElem?_map,Option.map_eq_some_iff]at hr;obtain⟨c,_,rfl⟩:=hr;exact hsz c
   .rw[show (⟨b,off,none⟩:Addr).add (0*sz)=⟨b,off,none⟩ by simp[Addr.add]]at hv0;exact World.block_lt_of_cell? w _ hv0
   .intro i r hr j x hx;obtain⟨v,hv,_⟩:=cellAt i r hr j x hx;rw[hadd]at hv;simp only[hv,Option.getD_some]
   .intro i r hr j x hx;obtain⟨v,hv,hrv⟩:=cellAt i r hr j x hx;rw[hadd]at hv;simp only[hv,Option.getD_some];exact hrv
theorem EG {bk:{H:Type}->DataW H->Nat}(hbk:ML bk){t e:TypeId}(ht:P.underlying t=some (.slice e))(he:P.underlying e=some (.int .u64))(hc:P.cellsOf e=1):lG bk P w (λl:List Nat=>[.sl (dJ l)]) (λN l=>l.length<=N/\Lim l) t :=
 λenc sp held fuel cs x N h hN=>sK hbk (f:=λx:Nat=>[.int .u64 (x:Int)]) (Q:=λ_ x=>x<W) ht hc (λ_=>rfl) (by omega) (λenc sp held fuel cs x _ hx _=>WQ he enc sp held fuel cs x hx) enc sp held fuel cs x N h hN
def Jb (bk:{H:Type}->DataW H->Nat)(P:Program)(w:World)(tot:Nat){α:Type}(fs:List Field)(off:Nat)(f:α->List IV)(Q:Nat->α->Prop):Prop :=
 ∀{H:Type} (enc:TypeId×Value->H) (sp:Nat->Bool) (held:Bool) (n:Nat) (cs:List Value) (N:Nat),cs.length=tot ->
  (∀fld∈fs,∃x:DataW H×List MemPlace,DataW.trod enc P w 0 sp held n fld.type ((cs.drop fld.offset).take (P.cellsOf fld.type))=some x/\bk x.1<=N)->∃c,Q N c/\eF w (λ_=>False) (f c) (cs.drop off)
theorem vX {bk:{H:Type}->DataW H->Nat}{tot:Nat}:Jb bk P w tot [] tot (λ_:Unit=>[]) (λ_ _=>True):=by
 intro H enc sp held n cs N hl _;refine⟨(),trivial,?_⟩;rw[List.drop_eq_nil_of_le (by omega)];trivial
theorem iT {bk:{H:Type}->DataW H->Nat}{tot off s:Nat}{α β:Type}{f1:α->List IV}{Q1:Nat->α->Prop}{f2:β->List IV}{Q2:Nat->β->Prop}{fs:List Field}{n1 s1 s2:String}{t1 o1:Nat}{e1:Bool}(h1:lG bk P w f1 Q1 t1)(hs:P.cellsOf t1=s)(h2:Jb bk P w tot fs (off+s) f2 Q2) :
  Jb bk P w tot (⟨n1,t1,off,e1,s1,s2,o1⟩::fs) off (λc:α×β=>f1 c.1++f2 c.2) (λN c=>Q1 N c.1/\Q2 N c.2):=by
 intro H enc sp held n cs N hl h;obtain⟨x,hx,hbx⟩:=h _ (List.mem_cons_self ..);obtain⟨a,hqa,hra⟩:=h1 enc sp held n _ x N hx hbx;obtain⟨b,hqb,hrb⟩:=h2 enc sp held n cs N hl (λfld hf=>h fld (List.mem_cons_of_mem _ hf));refine⟨(a,b),⟨hqa,hqb⟩,?_⟩;have e:cs.drop off=(cs.drop off).take s++cs.drop (off+s):=by rw[<-List.drop_drop,List.take_append_drop]
 rw[e];rw[hs]at hra;exact hra.append hrb
theorem qy {bk:{H:Type}->DataW H->Nat}(hbk:ML bk){t:TypeId}{fs:Array Field}{tot:Nat}{α:Type}{f:α->List IV}{Q:Nat->α->Prop}(ht:P.underlying t=some (.struct fs))(htot:P.cellsOf t=tot)(hf:Jb bk P w tot fs.toList 0 f Q):lG bk P w f Q t:=by
 intro H enc sp held fuel cs x N h hN;obtain⟨xs,n,_,rfl,hl,hxs,hfs⟩:=DataW.trod_struct ht h;obtain⟨c,hq,hr⟩:=hf enc sp held n cs N (by rw[hl,htot]) (λfld hfld=>by
  obtain⟨i,hi⟩:=List.getElem?_of_mem hfld;rw[Array.getElem?_toList]at hi;have hlt:i<fs.size:=(Array.getElem?_eq_some_iff.mp hi).1;have:=hfs i fld hi;rw[List.getElem?_eq_getElem (by omega)]at this;exact⟨_,this,Nat.le_trans (hbk.2.2 _ _ (List.mem_map.mpr ⟨_,List.getElem_mem (by omega),rfl⟩)) hN⟩)
 exact⟨c,hq,by simpa using hr⟩
theorem TP {bk:{H:Type}->DataW H->Nat}(hbk:ML bk){t b m e:TypeId}{n1 n2 s1 s2 s3 s4:String}{e1 e2:Bool}{o1 o2:Nat}(ht:P.underlying t=some (.struct #[⟨n1,b,0,e1,s1,s2,o1⟩,⟨n2,m,1,e2,s3,s4,o2⟩]))(hb:P.underlying b=some .bool)(hm:P.underlying m=some (.slice e))(he:P.underlying e=some (.int .u64))
  (ht2:P.cellsOf t=2) (hb1:P.cellsOf b=1) (hm1:P.cellsOf m=1) (hc:P.cellsOf e=1):lG bk P w je (λN=>Sz N) t:=by
 intro H enc sp held fuel cs x N h hN;obtain⟨⟨s,l,u⟩,hq,hr⟩:=qy hbk (tot:=2) (f:=λc:Bool×(List Nat×Unit)=>[.bool c.1]++([.sl (dJ c.2.1)]++[])) (Q:=λN c=>True/\((c.2.1.length<=N/\Lim c.2.1)/\True)) ht ht2 (iT (off:=0) (s:=1) (Gy (TM hb)) hb1 (iT (off:=1) (s:=1) (EG hbk hm he hc) hm1 vX)) enc sp held fuel cs x N h hN;exact⟨(s,l),hq.2.1,hr⟩
end
end Go.AL
