/-
 Contracts of the functions that the law reaches.
-/
import Derived.Test.YtdpngipofekcfaaGreatAbsK
import Derived.Test.YtdpngipofekcfaaGreatAbsZ3M
namespace Go.AL
variable {zi:Zi}
open Go.RowKit
set_option linter.unusedSimpArgs false
set_option linter.unusedVariables false
variable {v:Value}
def hd (v:Value):List Nat:=match aF v with
 |some g=>[g]
 |none=>[]
theorem a1T {g:Nat}:g∈hd v↔aF v=some g:=by
 unfold hd;cases aF v<;>simp[eq_comm]
abbrev KE:=Nat×Value×HC
def yJ (K:List KE):Hp:=λu=>match K.find? (λe=>e.1 == u) with
 |some e=>e.2.2
 |none=>.none
def yY (K:List KE):Nat->Value:=λu=>match K.find? (λe=>e.1 == u) with
 |some e=>e.2.1
 |none=>default
theorem WU:∀{K:List KE},(K.map (·.1)).Nodup->∀{e:KE},e∈K->K.find? (λx=>x.1 == e.1)=some e
 |[],_,e,he=>by simp at he
 |x::K,hn,e,he=>by
  rw[zaC,zdM]at hn;rcases zaG.1 he with rfl|he
  .simp
  .rw[List.find?_cons_of_neg]
   .exact WU hn.2 he
   .intro h;have h:x.1=e.1:=by simpa using h
    exact hn.1 (by rw[h];exact zaw.2 ⟨e,he,rfl⟩)
theorem Gg {K:List KE}(hn:(K.map (·.1)).Nodup){e:KE}(he:e∈K):yJ K e.1=e.2.2/\yY K e.1=e.2.1:=by
 unfold yJ yY;rw[WU hn he];exact⟨rfl,rfl⟩
theorem Ae {K:List KE}(hn:(K.map (·.1)).Nodup){k:Nat}{v:Value}{c:HC}(he:(k,v,c)∈K):yJ K k=c/\yY K k=v:=Gg hn he
theorem lT (K:List KE)(u:Nat):(∃e∈K,e.1=u/\yJ K u=e.2.2/\yY K u=e.2.1)\/yJ K u=.none:=by
 unfold yJ yY;cases h:K.find? (λe=>e.1 == u) with
 |none=>exact .inr rfl
 |some e=>exact .inl ⟨e,List.mem_of_find?_eq_some h,by simpa using List.find?_some h,rfl,rfl⟩
def EOk (w:World)(D:Nat->Prop)(H:Hp)(β:Nat->Value)(B:Nat)(M:Nat->Prop)(e:KE):Prop :=
 match e.2.2 with
 |.blk false _ t sz rows=>Own w D B M e.2.1 t sz rows
 |.nst _ t rows=>Ob w D H β B M e.2.1 t rows
 |.mrk E=>E<=w.heap.size
 |.tie x v=>ak w D H β x v
 |.none=>True
 |_=>False
def mhd (e:KE):List Nat:=match e.2.2 with
 |.blk false _ _ _ _=>hd e.2.1
 |.nst _ _ _=>hd e.2.1
 |_=>[]
theorem TY {e:KE}(hm:e.2.2.bI){g:Nat}(hg:aF e.2.1=some g):g∈mhd e:=by
 unfold mhd;cases hc:e.2.2 with
 |blk fz st t sz rows =>
  rw[hc]at hm;cases fz with
  |false=>exact a1T.2 hg
  |true=>exact hm.elim
 |nst st t rows=>exact a1T.2 hg
 |_=>rw[hc]at hm;exact hm.elim
theorem b3F {K:List KE}{e e':KE}(he:e∈K)(he':e'∈K)(hne:e≠e'){g:Nat}(h:g∈mhd e)(h':g∈mhd e'):2<=(K.flatMap mhd).count g:=by
 obtain⟨l1,l2,rfl⟩:=List.append_of_mem he;have c1:1<=(mhd e).count g:=List.one_le_count_iff.2 h;have key:∀l:List KE,e'∈l->1<=(l.flatMap mhd).count g:=λl hl=>List.one_le_count_iff.2 (zcM.2 ⟨e',hl,h'⟩)
 rw[zbc,zbu,zbF,zbF];rcases zap.1 he' with h1|h1
 .have:=key l1 h1;omega
 .rcases zaG.1 h1 with h1|h1
  .exact absurd h1.symm hne
  .have:=key l2 h1;omega
section
variable {M:Nat->Prop} {w0:World} {D0:Nat->Prop} {N:Nat} {P:Program} {f:Fr} {H:Hp} {β:Nat->Value} {a:Act} {w:World}
theorem b4V {K:List KE}{b:Nat}(h:DD (yJ K) (yY K) D0 b):D0 b\/b∈K.flatMap mhd:=by
 rcases h with h|⟨u,hm,hb⟩
 .exact .inl h
 .rcases lT K u with ⟨e,he,_,h1,h2⟩|h1
  .rw[h1]at hm;rw[h2]at hb;exact .inr (zcM.2 ⟨e,he,TY hm hb⟩)
  .rw[h1]at hm;exact hm.elim
theorem Rel.table (R:Rel G0 M w0 D0 N f H β a w){f':Fr}{a':Act}{w':World}(hos:w'.os=w.os)(htape:w'.tape=w.tape)(hout:w'.output=w.output)(hsz:w.heap.size<=w'.heap.size)
  (hk:∀k,k<w.heap.size->w'.heap[k]?=w.heap[k]?) (hts:a'.tmps.size=N) (hdf:a'.defers=[]) (K:List KE) (hh:∀g,(K.flatMap mhd).count g<=1)
  (hE:∀e∈K,EOk w' (DD (yJ K) (yY K) D0) (yJ K) (yY K) w0.heap.size M e) (htm:∀t,ak w' (DD (yJ K) (yY K) D0) (yJ K) (yY K) (f' t) (a'.tmps.getD t Go.undef)):Rel G0 M w0 D0 N f' (yJ K) (yY K) a' w':=by
 refine R.jump (λ_ _ h=>h) hos htape hout hsz (λk h1 _=>hk k (zau h1 R.size)) hts hdf htm (λu st e sz rows hu=>?_) (λu st e sz rows hu=>?_) (λu u' hne hm hm' g hg hg'=>?_) (λu st e rows hu=>?_) (λu B hu=>?_) (λu x v hu=>?_)
 .rcases lT K u with ⟨e',he,_,h1,h2⟩|h1
  .have:=hE e' he;unfold EOk at this;rw[<-h1,hu]at this;rw[h2];exact this
  .rw[h1]at hu;cases hu
 .rcases lT K u with ⟨e',he,_,h1,h2⟩|h1
  .have:=hE e' he;unfold EOk at this;rw[<-h1,hu]at this;exact this
  .rw[h1]at hu;cases hu
 .rcases lT K u with ⟨e,he,e1,h1,h2⟩|h1
  .rcases lT K u' with ⟨e',he',e1',h1',h2'⟩|h1'
   .rw[h1]at hm;rw[h1']at hm';rw[h2]at hg;rw[h2']at hg';have:=b3F he he' (λq=>hne (by rw[<-e1,<-e1',q])) (TY hm hg) (TY hm' hg');have:=hh g;omega
   .rw[h1']at hm';exact hm'.elim
  .rw[h1]at hm;exact hm.elim
 .rcases lT K u with ⟨e',he,_,h1,h2⟩|h1
  .have:=hE e' he;unfold EOk at this;rw[<-h1,hu]at this;rw[h2];exact this
  .rw[h1]at hu;cases hu
 .rcases lT K u with ⟨e',he,_,h1,h2⟩|h1
  .have:=hE e' he;unfold EOk at this;rw[<-h1,hu]at this;exact this
  .rw[h1]at hu;cases hu
 .rcases lT K u with ⟨e',he,_,h1,h2⟩|h1
  .have:=hE e' he;unfold EOk at this;rw[<-h1,hu]at this;exact this
  .rw[h1]at hu;cases hu
theorem Rel.b3N {X:Nat->Prop}(hsz:a.tmps.size=N)(hdf:a.defers=[])(hX:∀b,X b->b<w.heap.size)(hm:∀h,¬(H h).bI)(htm:∀t,ak w (DD H β X) H β (f t) (a.tmps.getD t Go.undef))
  (hfz:∀h st e sz rows,H h=.blk true st e sz rows->(∀r∈rows,r.length=sz)/\Rep w (DD H β X) (.sl rows) (β h)/\b3h (β h))
  (a2t:∀h B,H h=.mrk B->B<=w.heap.size) (htie:∀h x v,H h=.tie x v->ak w (DD H β X) H β x v):Rel G0 M0 w X N f H β a w :=
 ⟨rfl,rfl,rfl,Nat.le_refl _,λ_ _ _=>rfl,λb hb=>⟨hX b hb,λh=>h⟩,hsz,λd hd=>by rw[hdf]at hd;simp at hd,λ_=>hdf,by rw[hdf];exact List.nodup_nil,λ_ _ h=>h.elim,htm,
  λh st e sz rows hh=>(hm h (by rw[hh];trivial)).elim,hfz,λh h' _ h1=>(hm h h1).elim,λh st e rows hh=>(hm h (by rw[hh];trivial)).elim,a2t,htie⟩
def o7 (n sz:Nat)(c:Nat->Nat->Value):List (List IV):=(List.range n).map λi=>(List.range sz).map λj=>.raw (c i j)
theorem dL {D:Nat->Prop}{b:Option (Nat×Nat)}{e sz:Nat}{rs:List (List IV)}(h:Rep w D (.own b e sz rs) v):∃c:Nat->Nat->Value,hd v=b.elim [] (λp=>[p.1]) /\
  (∀(D':Nat->Prop) (B:Nat) (M:Nat->Prop),(∀g c,b=some (g,c)->B<=g)->Own w D' B M v e sz (o7 rs.length sz c))/\(∀(i:Nat) (r:List IV) (j:Nat) (x:IV),rs[i]?=some r->r[j]?=some x->Rep w D x (c i j))/\∀(i:Nat) (r:List IV),rs[i]?=some r->r.length=sz:=by
 cases h with
 |O9=>exact⟨λ_ _=>default,rfl,λD' B M _=>⟨by simp[o7],.inl ⟨rfl,rfl⟩⟩,λi r j x hi _=>by simp at hi,λi r hi=>by simp at hi⟩
 |own rows g cap e sz cur hsz hlen hcap hg hD hcs hr =>
  have hl:∀r∈o7 rs.length sz (λi j=>cur.getD (i*sz+j) Go.undef),r.length=sz:=λr hr'=>by
   obtain⟨i,_,rfl⟩:=zaw.1 hr';simp
  refine⟨λi j=>cur.getD (i*sz+j) Go.undef,rfl,λD' B M hB=>⟨hl,.inr ⟨g,cap,cur,by simp[o7],.inl (hB g cap rfl),hg,by simpa [o7] using hlen,hcap,hcs,?_⟩⟩,λi r j x hi hj=>hr i r hi j x hj,hsz⟩;refine Ar hl (by rw[hcs];simp only[o7,zae,zck];exact zag _ hlen) λi r hi j x hx=>?_;simp only[o7,zaD,zcI]at hi;obtain⟨i',hi',rfl⟩:=hi;obtain⟨hi1,hi2⟩:=zao.1 hi';simp only[zck,zfC]at hi1 hi2;subst hi2;simp only[zaD,zcI]at hx;obtain⟨j',hj',rfl⟩:=hx;obtain⟨hj1,hj2⟩:=zao.1 hj';simp only[zck,zfC]at hj1 hj2;subst hj2;have h1:rs[i]?=some rs[i]:=zaf hi1;have h2:j<rs[i].length:=by rw[hsz i _ h1];exact hj1
  exact .raw _ (hr i _ h1 j _ (zaf h2)).one
end
end Go.AL
