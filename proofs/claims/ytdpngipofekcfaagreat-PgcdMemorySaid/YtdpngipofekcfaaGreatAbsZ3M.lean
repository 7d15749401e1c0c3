/-
 Contracts of the functions that the law reaches.
-/
import Derived.Test.YtdpngipofekcfaaGreatAbsK
import Derived.Test.YtdpngipofekcfaaGreatAbsZ2
import Derived.Test.YtdpngipofekcfaaGreatAbsYM
namespace Go.AL
variable {zi:Zi}
open Go.RowKit
set_option linter.unusedSimpArgs false
set_option linter.unusedVariables false
variable {L D D':Nat->Prop} {w w':World} {H H':Hp} {β β':Nat->Value} {ks:List Nat} {k g:Nat} {avs:List AV}
def Jl (L:Nat->Prop):AV->Prop
 |.dead=>True
 |.undef=>True
 |.ub=>True
 |.iv _=>True
 |.vY=>True
 |.agg _=>True
 |.ip _=>True
 |.hs h _=>L h
 |.hw h _=>L h
 |.hv h _ _ _=>L h
 |.hp h _ _ _=>L h
 |.tup _=>False
 |.fn _ _=>False
def a3X (L:Nat->Prop):HC->Prop
 |.blk false _ _ _ _=>True
 |.nst _ _ rows=>∀x∈rows,Jl L x
 |.mrk _=>True
 |.none=>True
 |.gone _ _=>True
 |.tie x _=>Jl L x
 |_=>False
theorem Jl.rep (g:bD w D w' D')(h:∀k,L k->H' k=H k/\β' k=β k){x:AV}(hx:Jl L x){v:Value}(hr:ak w D H β x v):ak w' D' H' β' x v:=by
 cases x with
 |dead=>simp[ak]
 |undef=>simpa [ak] using hr
 |ub=>simpa [ak] using hr
 |iv y=>simp only[ak]at hr ⊢;exact hr.mono g
 |vY=>simpa [ak] using hr
 |agg cells =>
  simp only[ak]at hr ⊢;obtain⟨cs,rfl,hr⟩:=hr;exact⟨cs,rfl,hr.mono g⟩
 |ip cells=>exact ak.mono (H:=H') (H':=H') (β:=β') (β':=β') g (iR.refl _ _) (.ip cells) v (by simpa only[ak] using hr)
 |hs k st=>simp only[ak]at hr ⊢;rw[(h k hx).1,(h k hx).2];exact hr
 |hw k st=>simp only[ak]at hr ⊢;rw[(h k hx).1,(h k hx).2];exact hr
 |hv k st off len=>simp only[ak]at hr ⊢;rw[(h k hx).1,(h k hx).2];exact hr
 |hp k st i off=>simp only[ak]at hr ⊢;rw[(h k hx).1,(h k hx).2];exact hr
 |tup l=>exact hx.elim
 |fn k l=>exact hx.elim
theorem Jl.a4o (g:bD w D w' D')(h:∀k,L k->H' k=H k/\β' k=β k):∀{l:List AV} {vs:List Value},(∀x∈l,Jl L x)->aG w D H β l vs->aG w' D' H' β' l vs
 |[],[],_,_=>by simp[aG]
 |x::l,v::vs,hx,hr=>by
  simp only[aG]at hr ⊢;exact⟨(hx x (by simp)).rep g h hr.1,Jl.a4o g h (λy hy=>hx y (by simp[hy])) hr.2⟩
 |[],_::_,_,hr=>by simp[aG]at hr
 |_::_,[],_,hr=>by simp[aG]at hr
def yG (ks:List Nat)(H:Hp):Hp:=λk=>if k∈ks then H k else .none
theorem gU (h:k∈ks):yG ks H k=H k:=zas h
theorem kK (h:k∉ks):yG ks H k=.none:=zam h
theorem fO (H1:Hp):∀(ks:List Nat) (H:Hp) (k:Nat),bT (ks.map λk=>(k,H1 k)) H k=if k∈ks then H1 k else H k
 |[],H,k=>by simp[bT]
 |j::ks,H,k=>by
  simp only[zaC,bT];rw[fO H1 ks];by_cases h:k∈ks
  .simp[h]
  .by_cases e:k=j
   .subst e;simp[h,aA]
   .simp[h,e,aB _ _ e]
section
variable {G:Gh} {M:Nat->Prop} {w0:World} {D0:Nat->Prop} {N:Nat} {P:Program} {f:Fr} {H:Hp} {β:Nat->Value} {a:Act} {w:World}
theorem ACI.a2K {g:Nat}{avs:List AV}{ks:List Nat}{H:Hp}(b5X:∀x∈avs,Jl (·∈ks) x)(hH:∀k∈ks,a3X (·∈ks) (H k)){Z:AV->Hp->Prop}(hc:ACI P g avs (yG ks H) Z)
  (hZ:∀x H1,Z x H1->Jl (·∈ks) x/\∀k∈ks,a3X (·∈ks) (H1 k)/\((H1 k).stamp=(H k).stamp->(H1 k).esz=(H k).esz)):ACF P g avs H ks (λx hs=>∃H1,Z x H1/\hs=ks.map λk=>(k,H1 k)):=by
 refine⟨?_,λH2 hag G M w0 D0 N f β a w vs R hv=>?_⟩
 .obtain⟨x,H1,h⟩:=hc.1;exact⟨x,_,H1,h,rfl⟩
 have hr:yG ks H=yG ks H2:=by
  funext k
  by_cases h:k∈ks
  .rw[gU h,gU h,hag k h]
  .rw[kK h,kK h]
 rw[hr]at hc;replace hH:∀k∈ks,a3X (·∈ks) (H2 k):=λk hk=>by rw[hag k hk];exact hH k hk
 replace hZ:∀x H1,Z x H1->Jl (·∈ks) x/\∀k∈ks,a3X (·∈ks) (H1 k)/\((H1 k).stamp=(H2 k).stamp->(H1 k).esz=(H2 k).esz):=λx H1 h=>⟨(hZ x H1 h).1,λk hk=>by rw[hag k hk];exact(hZ x H1 h).2 k hk⟩
 clear hr hag;obtain⟨M1,hM1⟩:∃M1:Nat->Prop,M1=λb=>∃k,k∈ks/\(H2 k).bI/\aF (β k)=some b:=⟨_,rfl⟩
 obtain⟨X,hX⟩:∃X:Nat->Prop,X=λb=>D0 b\/∃k,k∉ks/\(H2 k).bI/\aF (β k)=some b:=⟨_,rfl⟩
 have hXD:∀b,DD (yG ks H2) β X b↔DD H2 β D0 b:=λb=>by
  rw[hX];constructor
  .rintro((h|⟨k,_,hm,hk⟩)|⟨k,hm,hk⟩)
   .exact .inl h
   .exact .inr ⟨k,hm,hk⟩
   .by_cases e:k∈ks
    .rw[gU e]at hm;exact .inr ⟨k,hm,hk⟩
    .rw[kK e]at hm;exact hm.elim
  .rintro(h|⟨k,hm,hk⟩)
   .exact .inl (.inl h)
   .by_cases e:k∈ks
    .exact .inr ⟨k,by rw[gU e];exact hm,hk⟩
    .exact .inl (.inr ⟨k,e,hm,hk⟩)
 have gs:bD w (DD H2 β D0) w (DD (yG ks H2) β X):=bD.of_sub λb=>(hXD b).1
 have c0:∀k c,yG ks H2 k=c->c≠.none->k∈ks/\H2 k=c:=λk c hc hne=>by
  by_cases e:k∈ks
  .exact⟨e,by rw[<-gU (H:=H2) e];exact hc⟩
  .rw[kK e]at hc;exact(hne hc.symm).elim
 -- the callee's own beginning
 have R0:Rel ⟨λ_ _=>False,true⟩ M1 w X ks.length (λt=>match ks[t]? with|some k=>.hs k (H2 k).stamp|none=>.dead) (yG ks H2) β { a with tmps:=(ks.map β).toArray,defers:=[] } w:=by
  refine OJ (by simp) rfl (λb hb=>?_) (λt=>?_) (λk st e sz rows hh=>?_) (λk st e sz rows hh=>?_) (λk k' hne hm hm' gg hg=>?_) (λk st e rows hh=>?_) (λk B hh=>?_) (λk x v hh=>?_)
  .rw[hX]at hb;rw[hM1];rcases hb with hb|⟨k,hk,hm,hh⟩
   .refine⟨Nat.lt_of_lt_of_le (R.old b hb).1 R.size,?_⟩;rintro⟨k,hk,hm,hh⟩;rcases (R.iG hm hh).2 with h|h
    .have:=(R.old b hb).1;omega
    .exact(R.old b hb).2 h
   .refine⟨(R.iG hm hh).1,?_⟩;rintro⟨k',hk',hm',hh'⟩;exact R.dis k k' (λe=>hk (by rw[e];exact hk')) hm hm' b hh hh'
  .cases e:ks[t]? with
   |none=>simp[ak]
   |some k =>
    have hk:=List.mem_of_getElem? e;simp only[ak];rw[gU hk];exact⟨Nat.le_refl _,λ_=>by simp[Array.getD_eq_getD_getElem?,e]⟩
  .obtain⟨hk,hh⟩:=c0 k _ hh (by simp);have:=(R.own k _ _ _ _ hh).mono gs λ_ _=>rfl
   refine⟨this.1,this.2.imp id ?_⟩;rintro⟨gb,cap,cur,hv,_,rest⟩;exact⟨gb,cap,cur,hv,.inr (by rw[hM1];exact⟨k,hk,by rw[hh];trivial,by rw[hv];rfl⟩),rest⟩
  .obtain⟨hk,hh⟩:=c0 k _ hh (by simp);have:=hH k hk;rw[hh]at this;exact this
  .by_cases e:k∈ks
   .by_cases e':k'∈ks
    .rw[gU e]at hm;rw[gU e']at hm';exact R.dis k k' hne hm hm' gg hg
    .rw[kK e']at hm';exact hm'.elim
   .rw[kK e]at hm;exact hm.elim
  .obtain⟨hk,hh⟩:=c0 k _ hh (by simp);have hin:=hH k hk;rw[hh]at hin;rcases R.nst k _ _ _ hh with hn|⟨gb,cap,cur,hv,_,q1,q2,q3,q4,q5,q6⟩
   .exact .inl hn
   .exact .inr ⟨gb,cap,cur,hv,.inr (by rw[hM1];exact⟨k,hk,by rw[hh];trivial,by rw[hv];rfl⟩),q1,q2,q3,q4,Jl.a4o gs (λk hk=>⟨gU hk,rfl⟩) hin q5,q6⟩
  .obtain⟨hk,hh⟩:=c0 k _ hh (by simp);exact R.mrk k B hh
  .obtain⟨hk,hh⟩:=c0 k _ hh (by simp);have:=hH k hk;rw[hh]at this;exact Jl.rep gs (λk hk=>⟨gU hk,rfl⟩) this (R.tie k x v hh)
 obtain⟨-,hcall⟩:=hc;have hv0:jZ w (DD (yG ks H2) β X) (yG ks H2) β avs vs:=by
  clear hcall hZ
  induction hv with
  |nil=>exact .nil
  | @cons x v xs us hx _ ih=>exact .cons ((b5X x (by simp)).rep gs (λk hk=>⟨gU hk,rfl⟩) hx) (ih λy hy=>b5X y (by simp[hy]))
 refine qL.mono (hcall _ _ _ _ _ _ _ _ _ _ R0 hv0) ?_;rintro v w' ⟨x,H1,β1,hz,R1,hx⟩;obtain⟨b9M,hcl⟩:=hZ x H1 hz;obtain⟨β',b2Y⟩:∃β':Nat->Value,β'=λk=>if k∈ks then β1 k else β k:=⟨_,rfl⟩
 obtain⟨H',hH'⟩:∃H':Hp,H'=bT (ks.map λk=>(k,H1 k)) H2:=⟨_,rfl⟩;have hi:∀k,k∈ks->H' k=H1 k/\β' k=β1 k:=λk hk=>by rw[hH',b2Y,fO];simp[hk]
 have oo:∀k,k∉ks->H' k=H2 k/\β' k=β k:=λk hk=>by rw[hH',b2Y,fO];simp[hk]
 refine⟨x,_,β',⟨H1,hz,rfl⟩,?_⟩;rw[<-hH'];have MD:∀b,M1 b->DD H2 β D0 b/\b<w.heap.size/\(w0.heap.size<=b\/M b):=λb hb=>by
  rw[hM1]at hb;obtain⟨k,_,hm,hh⟩:=hb;exact⟨.inr ⟨k,hm,hh⟩,(R.iG hm hh).1,(R.iG hm hh).2⟩
 have ownB:∀b,w.heap.size<=b\/M1 b->w0.heap.size<=b\/M b:=λb h=>h.elim (λh=>.inl (Nat.le_trans R.size h)) λh=>(MD b h).2.2
 have hd1:∀b,DD H' β' D0 b->DD H1 β1 X b:=by
  rintro b (h|⟨k,hm,hk⟩)
  .exact .inl (by rw[hX];exact .inl h)
  .by_cases e:k∈ks
   .rw[(hi k e).1]at hm;rw[(hi k e).2]at hk;exact .inr ⟨k,hm,hk⟩
   .rw[(oo k e).1]at hm;rw[(oo k e).2]at hk;exact .inl (by rw[hX];exact .inr ⟨k,e,hm,hk⟩)
 have g:bD w (DD H2 β D0) w' (DD H' β' D0):=by
  refine⟨R1.size,λb hb h=>?_,λb hb h _=>R1.keep b hb λm=>h (MD b m).1⟩;rcases hd1 b h with h|⟨u,hm,hk⟩
  .rw[hX]at h;rcases h with h|⟨k,_,hm,hk⟩
   .exact .inl h
   .exact .inr ⟨k,hm,hk⟩
  .rcases (R1.iG hm hk).2 with h|h
   .omega
   .exact(MD b h).1
 have gl:bD w' (DD H1 β1 X) w' (DD H' β' D0):=bD.of_sub hd1;have hs:iR H2 β H' β':=λk=>by
  by_cases e:k∈ks
  .obtain⟨t,ht,he⟩:=List.getElem_of_mem e;have h0:=R1.tmps t;have e0:ks[t]?=some k:=by rw[List.getElem?_eq_getElem ht,he]
   simp only[e0,ak]at h0;rw[(hi k e).1,(hi k e).2];rcases Nat.lt_or_eq_of_le h0.1 with h1|h1
   .exact .inr h1
   .have:=h0.2 h1;refine .inl ⟨h1.symm,(hcl k e).2 h1.symm,?_⟩;rw[<-this];simp[Array.getD_eq_getD_getElem?,e0]
  .left;rw[(oo k e).1,(oo k e).2];exact⟨rfl,rfl,rfl⟩
 have a6K:∀k b,k∉ks->(H2 k).bI->aF (β k)=some b->¬M1 b/\w'.heap[b]?=w.heap[b]?:=λk b hk hm hh=>by
  have nm:¬M1 b:=λm=>by
   rw[hM1]at m;obtain⟨k',hk',hm',hh'⟩:=m;exact R.dis k k' (λe=>hk (by rw[e];exact hk')) hm hm' b hh hh'
  exact⟨nm,R1.keep b (R.iG hm hh).1 nm⟩
 refine⟨?_,b9M.rep gl hi hx⟩;refine⟨R1.os.trans R.os,R1.tape.trans R.tape,R1.output.trans R.output,Nat.le_trans R.size R1.size,λk hk hm=>?_,R.old,R.nD,λd hd=>?_,R.rnd,R.RU,λx v h=>ak.mono g hs _ _ (R.gh x v h),λt=>ak.mono g hs _ _ (R.tmps t),λk st e sz rows hh=>?_,λk st e sz rows hh=>?_,λk k' hne hm hm' gg hg hg'=>?_,λk st e rows hh=>?_,λk B hh=>?_,λk x v hh=>?_⟩
 .have hlt:k<w.heap.size:=Nat.lt_of_lt_of_le hk R.size;rw[R1.keep k hlt λm=>((MD k m).2.2).elim (λh=>by omega) hm];exact R.keep k hk hm
 .obtain⟨k,e1,e2,e3⟩:=R.defers d hd;have hlt:k<w.heap.size:=(Array.getElem?_eq_some_iff.1 e3).1;refine⟨k,e1,e2,?_⟩;rw[R1.keep k hlt λm=>?_]
  .exact e3
  .rw[hM1]at m;obtain⟨k',_,hm',hh'⟩:=m;obtain⟨cur,ee,hc⟩:=R.PU hm' hh';rw[hc]at e3;cases e3
 .by_cases e':k∈ks
  .rw[(hi k e').1]at hh;rw[(hi k e').2];have:=(R1.own k _ _ _ _ hh).mono gl λ_ _=>rfl
   refine⟨this.1,this.2.imp id ?_⟩;rintro⟨gb,cap,cur,hv,hB',rest⟩;exact⟨gb,cap,cur,hv,ownB gb hB',rest⟩
  .rw[(oo k e').1]at hh;rw[(oo k e').2];exact(R.own k _ _ _ _ hh).mono g λb hb'=>(a6K k b e' (by rw[hh];trivial) hb').2
 .by_cases e':k∈ks
  .rw[(hi k e').1]at hh;have:=(hcl k e').1;rw[hh]at this;exact this.elim
  .rw[(oo k e').1]at hh;rw[(oo k e').2];have:=R.frz k _ _ _ _ hh;exact⟨this.1,this.2.1.mono g,this.2.2⟩
 .by_cases e1:k∈ks
  .rw[(hi k e1).1]at hm;rw[(hi k e1).2]at hg;by_cases e2:k'∈ks
   .rw[(hi k' e2).1]at hm';rw[(hi k' e2).2]at hg';exact R1.dis _ _ hne hm hm' gg hg hg'
   .rw[(oo k' e2).1]at hm';rw[(oo k' e2).2]at hg';rcases (R1.iG hm hg).2 with h|h
    .have:=(R.iG hm' hg').1;omega
    .exact(a6K k' gg e2 hm' hg').1 h
  .rw[(oo k e1).1]at hm;rw[(oo k e1).2]at hg;by_cases e2:k'∈ks
   .rw[(hi k' e2).1]at hm';rw[(hi k' e2).2]at hg';rcases (R1.iG hm' hg').2 with h|h
    .have:=(R.iG hm hg).1;omega
    .exact(a6K k gg e1 hm hg).1 h
   .rw[(oo k' e2).1]at hm';rw[(oo k' e2).2]at hg';exact R.dis k k' hne hm hm' gg hg hg'
 .by_cases e':k∈ks
  .have hin:=(hcl k e').1;rw[(hi k e').1]at hh;rw[hh]at hin;rw[(hi k e').2];rcases R1.nst k _ _ _ hh with hn'|⟨gb,cap,cur,hv,hB',p1,p2,p3,p4,p5,p6⟩
   .exact .inl hn'
   .exact .inr ⟨gb,cap,cur,hv,ownB gb hB',p1,p2,p3,p4,Jl.a4o gl hi hin p5,p6⟩
  .rw[(oo k e').1]at hh;rw[(oo k e').2];exact(R.nst k _ _ _ hh).mono g hs λb hb'=>(a6K k b e' (by rw[hh];trivial) hb').2
 .by_cases e':k∈ks
  .rw[(hi k e').1]at hh;exact R1.mrk k B hh
  .rw[(oo k e').1]at hh;exact Nat.le_trans (R.mrk k B hh) R1.size
 .by_cases e':k∈ks
  .have hin:=(hcl k e').1;rw[(hi k e').1]at hh;rw[hh]at hin;exact Jl.rep gl hi hin (R1.tie k x v hh)
  .rw[(oo k e').1]at hh;exact ak.mono g hs _ _ (R.tie k x v hh)
theorem ACI.frame (b5X:∀x∈avs,Jl (·∈ks) x)(hH:∀k∈ks,a3X (·∈ks) (H k)){Z:AV->Hp->Prop}(hc:ACI P g avs (yG ks H) Z)
  (hZ:∀x H1,Z x H1->Jl (·∈ks) x/\∀k∈ks,a3X (·∈ks) (H1 k)/\(H1 k).esz=(H k).esz):ACF P g avs H ks (λx hs=>∃H1,Z x H1/\hs=ks.map λk=>(k,H1 k)) :=
 ACI.a2K b5X hH hc λx H1 h=>⟨(hZ x H1 h).1,λk hk=>⟨((hZ x H1 h).2 k hk).1,λ_=>((hZ x H1 h).2 k hk).2⟩⟩
end
end Go.AL

namespace Go.AL
variable {zi:Zi}
open Go.RowKit
set_option linter.unusedSimpArgs false
set_option linter.unusedVariables false
def b2I (E:Nat)(f:Fr)(H:Hp)(rows:List (List IV))(b:Option (Nat×Nat)):Prop :=
 (b=none->rows=[])/\∀g cap,b=some (g,cap)->g<E/\g∉bY rows/\(∀u x,f u=.iv x->g∉x.ids)/\(∀u cs,f u=.agg cs->g∉iV cs)/\(∀u fz st e sz rows,H u=.blk fz st e sz rows->g∉bY rows)/\∀u st e rows,H u=.nst st e rows->∀x,AV.iv x∈rows->g∉x.ids
inductive b2H (T:Fr->Hp->Prop):Fr->Hp->Prop
 |done {f:Fr} {H:Hp} (h:T f H):b2H T f H
 |opn {f:Fr} {H:Hp} (t h st e sz:Nat) (rows:List (List IV)) (B:Nat) (ht:f t=.hs h st) (hH:H h=.blk false st e sz rows) (hB:H 999=.mrk B)
   (k:∀b E,B<=E->b2I E f H rows b->b2H T (upd f t (.iv (.own b e sz rows))) (bW (bW H h (.blk true st e sz rows)) 999 (.mrk E))):b2H T f H
section
variable {G:Gh} {M:Nat->Prop} {w0:World} {D0:Nat->Prop} {N:Nat} {P:Program} {f:Fr} {H:Hp} {β:Nat->Value} {a:Act} {w:World}
theorem Rel.b7U {f:Fr}{H:Hp}{T:Fr->Hp->Prop}(k:b2H T f H):∀{β:Nat->Value} {a:Act} {w:World},Rel G M w0 D0 N f H β a w->∃f' H' β',T f' H'/\Rel G M w0 D0 N f' H' β' a w:=by
 induction k with
 |done h=>exact λR=>⟨_,_,_,h,R⟩
 |opn t h st e sz rows B hf hH hB k ih =>
  rename_i f H;intro β a w R;have hx:=R.tmps t;rw[hf]at hx;simp only[ak]at hx;have hv:a.tmps.getD t Go.undef=β h:=hx.2 (by rw[hH];rfl);have ho:=R.own h _ _ _ _ hH;have Ee:(H h).bI:=by rw[hH];trivial
  have hne:(999:Nat)≠h:=λe=>by rw[e,hH]at hB;cases hB
  have ht:t<N:=R.rF (t:=t) (λv hv'=>by
   rw[hv]at hv';subst hv';rcases ho.2 with ⟨_,e⟩|⟨g,cap,cur,e,_⟩<;>rw[e]<;>(intro h;cases h))
  have hsub:∀b,DD (bW H h (.blk true st e sz rows)) β D0 b->DD H β D0 b:=by
   rintro b (hb|⟨u,hm,hk⟩)
   .exact .inl hb
   .by_cases e:u=h
    .subst e;rw[aA]at hm;exact hm.elim
    .rw[aB _ _ e]at hm;exact .inr ⟨u,hm,hk⟩
  have hn:∀g,aF (β h)=some g->¬DD (bW H h (.blk true st e sz rows)) β D0 g:=by
   rintro g hg (hb|⟨u,hm,hk⟩)
   .have h1:=R.old g hb;rcases DD.head R Ee hg with h2|h2
    .omega
    .exact h1.2 h2
   .by_cases e:u=h
    .subst e;rw[aA]at hm;exact hm.elim
    .rw[aB _ _ e]at hm;exact R.dis u h e hm Ee g hk hg
  have R1:=R.freeze h;rw[hH]at R1;simp only[HC.frz]at R1;obtain⟨b,hrep,hb0,hbg⟩:=ho.SS hsub hn;have R2:=R1.JM (h:=999) (B:=B) (E:=w.heap.size) (by rw[aB _ _ hne];exact hB) (Nat.le_refl _);have hsub2:∀b,DD (bW (bW H h (.blk true st e sz rows)) 999 (.mrk w.heap.size)) β D0 b->DD (bW H h (.blk true st e sz rows)) β D0 b:=by
   rintro b (hb|⟨u,hm,hk⟩)
   .exact .inl hb
   .by_cases e:u=999
    .subst e;rw[aA]at hm;exact hm.elim
    .rw[aB _ _ e]at hm;exact .inr ⟨u,hm,hk⟩
  have R3:=R2.value (dst:=some t) (v:=.iv (.own b e sz rows)) (val:=a.tmps.getD t Go.undef) (by simp only[ak];rw[hv];exact hrep.mono (bD.of_sub hsub2)) (by rintro _ ⟨⟩;exact ht);rw[R.qY ht rfl]at R3;refine ih b w.heap.size (R.mrk _ _ hB) ⟨hb0,λg cap hg=>?_⟩ R3;have hgh:=hbg g cap hg;have hDg:DD H β D0 g:=.inr ⟨h,Ee,hgh⟩;have hlt:=R.iG Ee hgh;have Qh:∀{xs:List IV} {vs:List Value},dY w (DD H β D0) xs vs->g∉iV xs:=λhr hm=>(hr.ids g hm).1 hDg
  have hrows:∀(u:Nat) (fz:Bool) (st e sz:Nat) (rows:List (List IV)),H u=.blk fz st e sz rows->g∉bY rows:=λu fz st e sz rows hu hm=>by
   cases fz with
   |false =>
    rcases (R.own u _ _ _ _ hu).2 with ⟨hr,_⟩|⟨g',cap',cur,_,_,_,_,_,_,hr⟩
    .rw[hr]at hm;simp[bY]at hm
    .rw[<-jr]at hm;exact Qh hr hm
   |true=>exact((R.frz u _ _ _ _ hu).2.1.ids g hm).1 hDg
  refine⟨hlt.1,hrows h _ _ _ _ _ hH,λu x hu hm=>?_,λu cs hu hm=>?_,hrows,λu st e rows hu x hx hm=>?_⟩
  .have:=R.tmps u;rw[hu]at this;simp only[ak]at this;exact(this.ids g hm).1 hDg
  .have:=R.tmps u;rw[hu]at this;simp only[ak]at this;obtain⟨vs,_,hr⟩:=this;exact Qh hr hm
  .rcases R.nst u _ _ _ hu with ⟨hr,_⟩|⟨g',cap',cur,_,_,_,_,_,_,hr,_⟩
   .rw[hr]at hx;cases hx
   .obtain⟨v,hv⟩:=hr.b6Y hx;simp only[ak]at hv;exact(hv.ids g hm).1 hDg
def AWj [Zi] (P:Program):Nat->Code->Post->Fr->Hp->Prop
 |0,c,Q,f,H=>b2H (AW P c Q) f H
 |n+1,.seq x y,Q,f,H=>AW P x (Rl (AWj P n y Q) Q) f H
 |_,_,_,_,_=>False
@[congr] theorem b5z {n:Nat} {c:Code} {Q:Post} {f f':Fr} {H H':Hp} (hf:f=f') (hH:H=H'):AWj P n c Q f H=AWj P n c Q f' H':=by rw[hf,hH]
@[congr] theorem b3g {T:Fr->Hp->Prop} {f f':Fr} {H H':Hp} (hf:f=f') (hH:H=H'):b2H T f H=b2H T f' H':=by rw[hf,hH]
theorem a3D (hm:P.follows .mixedOrders=true):∀(n:Nat) (c:Code) (Q:Post) (f:Fr) (H:Hp) (β:Nat->Value) (a:Act) (w:World),dM c=true->codeOk N c=true->AWj P n c Q f H->Rel G M w0 D0 N f H β a w->c.wpIn (Wd none) 0 P (Conc G M w0 D0 N Q) a w
 |0,c,Q,f,H,β,a,w,hr,hd,h,R=>by
  obtain⟨f',H',β',h',R'⟩:=Rel.b7U h R;exact dX hm c none G _ w0 Q f' H' β' a w (.inl hr) hd h' R'
 |n+1,.seq x y,Q,f,H,β,a,w,hr,hd,h,R=>by
  simp only[codeOk,Bool.and_eq_true]at hd;simp only[dM,Bool.and_eq_true]at hr;refine wpIn_seq (wpIn_mono (dX hm x none G _ w0 _ f H β a w (.inl hr.1) hd.1 h R) λe a w hq=>?_);cases e with
  |normal=>obtain⟨f,H,β,hk,R⟩:=hq;exact a3D hm n y Q f H β a w hr.2 hd.2 hk R
  |panic _=>exact hq.elim
  |outgrown=>exact hq.elim
  |exit id=>obtain⟨f,H,β,hk,R⟩:=hq;exact⟨f,H,β,hk,R⟩
  |ret=>obtain⟨f,H,β,hk,R⟩:=hq;exact⟨f,H,β,hk,R⟩
  |goto l=>obtain⟨f,H,β,hk,R⟩:=hq;exact⟨f,H,β,hk,R⟩
 |n+1,.skip,Q,f,H,β,a,w,hr,hd,h,R=>h.elim
end
end Go.AL

namespace Go.AL
variable {zi:Zi}
open Go.RowKit
set_option linter.unusedSimpArgs false
set_option linter.unusedVariables false
section
variable {G:Gh} {M:Nat->Prop} {w0:World} {D0:Nat->Prop} {N:Nat} {P:Program} {f:Fr} {H:Hp} {β:Nat->Value} {a:Act} {w:World}
theorem Rel.b9C (R:Rel G M w0 D0 N f H β a w){k:Nat}{c:HC}{v:Value}(hk:H k=.none)(hc:(∃st sz,c=.gone (st+1) sz)\/∃x u,c=.tie x u/\v=β k/\ak w (DD H β D0) H β x u):Rel G M w0 D0 N f (bW H k c) (λu=>if u=k then v else β u) a w:=by
 have hm:∀u,(bW H k c u).bI->(H u).bI/\u≠k:=λu=>by
  by_cases e:u=k
  .subst e;rw[aA];rcases hc with ⟨st,sz,rfl⟩|⟨x,u,rfl,_⟩<;>exact False.elim
  .rw[aB _ _ e];exact λh=>⟨h,e⟩
 have hb:∀u,u≠k->(if u=k then v else β u)=β u:=λu e=>zam e
 have hDD:∀b,DD (bW H k c) (λu=>if u=k then v else β u) D0 b->DD H β D0 b:=by
  rintro b (hb'|⟨u,hu,hh⟩)
  .exact .inl hb'
  .obtain⟨h1,h2⟩:=hm u hu;simp only[hb u h2]at hh;exact .inr ⟨u,h1,hh⟩
 have g:=bD.of_sub (w:=w) hDD;have s:iR H β (bW H k c) (λu=>if u=k then v else β u):=λu=>by
  by_cases e:u=k
  .subst e;rw[aA,hk];rcases hc with ⟨st,sz,rfl⟩|⟨x,q,rfl,hv,_⟩
   .exact .inr (by simp[HC.stamp])
   .exact .inl ⟨rfl,rfl,by simp[hv]⟩
  .exact .inl ⟨by rw[aB _ _ e],by rw[aB _ _ e],hb u e⟩
 have ne:∀u d,bW H k c u=d->(∀st sz,d≠.gone st sz)->(∀x q,d≠.tie x q)->H u=d/\u≠k:=λu d hu h1 h2=>by
  by_cases e:u=k
  .subst e;rw[aA]at hu;rcases hc with ⟨st,sz,rfl⟩|⟨x,q,rfl,_⟩
   .exact(h1 _ _ hu.symm).elim
   .exact(h2 _ _ hu.symm).elim
  .rw[aB _ _ e]at hu;exact⟨hu,e⟩
 refine⟨R.os,R.tape,R.output,R.size,R.keep,R.old,R.nD,R.defers,R.rnd,R.RU,λx v h=>ak.mono g s _ _ (R.gh x v h),λt=>ak.mono g s _ _ (R.tmps t),λu st e sz rows hu=>?_,λu st e sz rows hu=>?_,λu u' hne h1 h2 gg hg=>?_,λu st e rows hu=>?_,λu B hu=>?_,λu x q hu=>?_⟩
 .obtain⟨h1,h2⟩:=ne u _ hu (by simp) (by simp);simp only[hb u h2];exact(R.own u _ _ _ _ h1).mono g λ_ _=>rfl
 .obtain⟨h1,h2⟩:=ne u _ hu (by simp) (by simp);simp only[hb u h2];exact⟨(R.frz u _ _ _ _ h1).1,(R.frz u _ _ _ _ h1).2.1.mono g,(R.frz u _ _ _ _ h1).2.2⟩
 .obtain⟨m1,n1⟩:=hm u h1;obtain⟨m2,n2⟩:=hm u' h2;simp only[hb u n1]at hg;simp only[hb u' n2];exact R.dis u u' hne m1 m2 gg hg
 .obtain⟨h1,h2⟩:=ne u _ hu (by simp) (by simp);simp only[hb u h2];exact(R.nst u _ _ _ h1).mono g s λ_ _=>rfl
 .obtain⟨h1,h2⟩:=ne u _ hu (by simp) (by simp);exact R.mrk u B h1
 .by_cases e:u=k
  .subst e;rw[aA]at hu;rcases hc with ⟨st,sz,rfl⟩|⟨x',q',rfl,_,hr⟩
   .cases hu
   .cases hu;exact ak.mono g s _ _ hr
  .rw[aB _ _ e]at hu;exact ak.mono g s _ _ (R.tie u x q hu)
end
end Go.AL

namespace Go.AL
variable {zi:Zi}
open Go.RowKit
set_option linter.unusedSimpArgs false
set_option linter.unusedVariables false
section
variable {P:Program} {H:Hp}
end
end Go.AL

namespace Go.AL
variable {zi:Zi}
open Go.RowKit
set_option linter.unusedSimpArgs false
set_option linter.unusedVariables false
abbrev c0B (w0:World)(D0:Nat->Prop)(N:Nat)(f:Fr)(H:Hp)(β:Nat->Value)(a:Act)(w:World):Prop:=Rel ⟨λ_ _=>False,true⟩ (λ_=>False) w0 D0 N f H β a w
def SW (P:Program)(L N:Nat)(c:Code)(Q:Post)(f:Fr)(H:Hp):Prop :=
 ∀(w0:World) (D0:Nat->Prop) (β:Nat->Value) (a:Act) (w:World),w0.heap.size<=L->c0B w0 D0 N f H β a w->c.wpIn (Wd none) 0 P (Conc ⟨λ_ _=>False,true⟩ (λ_=>False) w0 D0 N Q) a w
section
variable {P:Program} {L N:Nat} {Q:Post} {f:Fr} {H:Hp}
theorem SW.seq {x y:Code}{S:Fr->Hp->Prop}(hx:SW P L N x (Rl S Q) f H)(hy:∀f H,S f H->SW P L N y Q f H):SW P L N (.seq x y) Q f H:=λw0 D0 β a w hL R=>by
 refine zfP (zcD (hx w0 D0 β a w hL R) λe a w hq=>?_);cases e with
 |normal=>obtain⟨f,H,β,hk,R⟩:=hq;exact hy f H hk w0 D0 β a w hL R
 |panic _=>exact hq.elim
 |outgrown=>exact hq.elim
 |exit id=>obtain⟨f,H,β,hk,R⟩:=hq;exact⟨f,H,β,hk,R⟩
 |ret=>obtain⟨f,H,β,hk,R⟩:=hq;exact⟨f,H,β,hk,R⟩
 |goto l=>obtain⟨f,H,β,hk,R⟩:=hq;exact⟨f,H,β,hk,R⟩
end
end Go.AL

namespace Go.AL
variable {zi:Zi}
open Go.RowKit
set_option linter.unusedSimpArgs false
set_option linter.unusedVariables false
section
variable {P:Program} {G G':Gh} {M:Nat->Prop} {w0:World} {D0:Nat->Prop} {N:Nat} {f:Fr} {H:Hp} {β:Nat->Value} {a:Act} {w:World}
theorem Rel.b7e (R:Rel G' M w0 D0 N f H β a w)(h:∀x v,G.vals x v->G'.vals x v)(hr:G'.rnd=G.rnd):Rel G M w0 D0 N f H β a w :=
 ⟨R.os,R.tape,R.output,R.size,R.keep,R.old,R.nD,R.defers,λe=>R.rnd (hr.trans e),R.RU,λx v hx=>R.gh x v (h x v hx),R.tmps,R.own,R.frz,R.dis,R.nst,R.mrk,R.tie⟩
def YE (G:Gh)(H:Hp)(β:Nat->Value):Gh:=⟨λx v=>G.vals x v\/∃k,(H k).bI/\x=.hs k (H k).stamp/\v=β k,G.rnd⟩
theorem Rel.YE (R:Rel G M w0 D0 N f H β a w):Rel (Go.AL.YE G H β) M w0 D0 N f H β a w :=
 ⟨R.os,R.tape,R.output,R.size,R.keep,R.old,R.nD,R.defers,R.rnd,R.RU,λx v hx=>by
  rcases hx with hx|⟨k,hk,rfl,rfl⟩
  .exact R.gh x v hx
  .simp only[ak];exact⟨zab _,λ_=>zar⟩,R.tmps,R.own,R.frz,R.dis,R.nst,R.mrk,R.tie⟩
end
section
variable {P:Program}
end
inductive a7N (H0:Hp) (B0:Nat) (T:Fr->Hp->Prop):Fr->Hp->Prop
 |done {f:Fr} {H:Hp} (h:T f H):a7N H0 B0 T f H
 |low (h st e sz:Nat) (rows:List (List IV)) (key:Nat) {f:Fr} {H:Hp} (hH:H h=.blk false st e sz rows) (hst:∀k,(H0 k).bI->k≠h/\(H k).stamp=(H0 k).stamp/\(H k).bI) (hk:H key=.none)
   (k:∀v,(∀g,aF v=some g->B0<=g)->a7N H0 B0 T f (bW H key (.tie (.hs h st) v))):a7N H0 B0 T f H
 |opn (t h st e sz:Nat) (rows:List (List IV)) (B:Nat) (key:Nat) (v:Value) {f:Fr} {H:Hp} (ht:f t=.hs h st) (hH:H h=.blk false st e sz rows) (hB:H 999=.mrk B) (hT:H key=.tie (.hs h st) v)
   (k:∀b E,B<=E->b2I E f H rows b->(∀g cap,b=some (g,cap)->aF v=some g)->a7N H0 B0 T (upd f t (.iv (.own b e sz rows))) (bW (bW H h (.blk true st e sz rows)) 999 (.mrk E))):a7N H0 B0 T f H
section
variable {P:Program} {G:Gh} {M:Nat->Prop} {w0:World} {D0:Nat->Prop} {N:Nat}
theorem Rel.b9D {H0:Hp}{β0:Nat->Value}{B0:Nat}(hG:∀k,(H0 k).bI->G.vals (.hs k (H0 k).stamp) (β0 k))(hM:∀b,M b->∃k,(H0 k).bI/\aF (β0 k)=some b)(hB0:B0<=w0.heap.size){T:Fr->Hp->Prop}{f:Fr}{H:Hp}(k:a7N H0 B0 T f H):∀{β:Nat->Value} {a:Act} {w:World},Rel G M w0 D0 N f H β a w->∃f' H' β',T f' H'/\Rel G M w0 D0 N f' H' β' a w:=by
 induction k with
 |done h=>exact λR=>⟨_,_,_,h,R⟩
 |low h st e sz rows key hH hst hk k ih =>
  rename_i f H;intro β a w R;have ho:=R.own h _ _ _ _ hH;have hlow:∀g,aF (β h)=some g->B0<=g:=λg hg=>by
   rcases ho.2 with ⟨_,e⟩|⟨g',cap,cur,e,hw,_⟩
   .rw[e]at hg;simp[aF]at hg
   .have:g'=g:=by rw[e]at hg;simpa [aF] using hg
    subst this;rcases hw with hw|hw
    .omega
    .obtain⟨k,hm,hk⟩:=hM _ hw;obtain⟨n1,n2,n3⟩:=hst k hm;have hgv:=R.gh _ _ (hG k hm);simp only[ak]at hgv;rw[hgv.2 n2.symm]at hk;exact absurd hg (R.dis k h n1 n3 (by rw[hH];trivial) _ hk)
  have R1:=R.b9C (k:=key) (c:=.tie (.hs h st) (β h)) (v:=β key) hk (.inr ⟨_,_,rfl,rfl,by simp only[ak];rw[hH];exact⟨Nat.le_refl _,λ_=>trivial⟩⟩);exact ih (β h) hlow R1
 |opn t h st e sz rows B key v ht hH hB hT k ih =>
  rename_i f H;intro β a w R;have hx:=R.tmps t;rw[ht]at hx;simp only[ak]at hx;have hv:a.tmps.getD t Go.undef=β h:=hx.2 (by rw[hH];rfl);have hty:=R.tie _ _ _ hT;simp only[ak]at hty;have hvb:v=β h:=hty.2 (by rw[hH];rfl);obtain⟨f',H',β',⟨b,E,hE,hb,rfl,rfl⟩,R1⟩:=Rel.b7U (T:=λf' H'=>∃b E,B<=E/\b2I E f H rows b/\f'=upd f t (.iv (.own b e sz rows))/\H'=bW (bW H h (.blk true st e sz rows)) 999 (.mrk E)) (.opn t h st e sz rows B ht hH hB λb E hE hb=>.done ⟨b,E,hE,hb,rfl,rfl⟩) R;refine ih b E hE hb (λg cap eb=>?_) R1;have hx1:=R1.tmps t;rw[show upd f t (.iv (.own b e sz rows)) t=.iv (.own b e sz rows) from if_pos rfl]at hx1;simp only[ak]at hx1;rw[hv,eb]at hx1;rw[hvb];generalize β h=u at hx1;cases hx1;rfl
inductive Jp where
 |fin
 |opn (p:Jp)
 |par (p:Jp)
def AWp [Zi] (P:Program)(H0:Hp)(B0:Nat):Jp->Code->Post->Fr->Hp->Prop
 |.fin,c,Q,f,H=>AW P c Q f H
 |.opn p,c,Q,f,H=>a7N H0 B0 (AWp P H0 B0 p c Q) f H
 |.par p,.seq x y,Q,f,H=>AW P x (Rl (AWp P H0 B0 p y Q) Q) f H
 |_,_,_,_,_=>False
@[congr] theorem b5y {H0:Hp} {B0:Nat} {p:Jp} {c:Code} {Q:Post} {f f':Fr} {H H':Hp} (hf:f=f') (hH:H=H'):AWp P H0 B0 p c Q f H=AWp P H0 B0 p c Q f' H':=by rw[hf,hH]
@[congr] theorem b3f {H0:Hp} {B0:Nat} {T:Fr->Hp->Prop} {f f':Fr} {H H':Hp} (hf:f=f') (hH:H=H'):a7N H0 B0 T f H=a7N H0 B0 T f' H':=by rw[hf,hH]
theorem QK (hm:P.follows .mixedOrders=true){H0:Hp}{β0:Nat->Value}{B0:Nat}(hG:∀k,(H0 k).bI->G.vals (.hs k (H0 k).stamp) (β0 k))(hM:∀b,M b->∃k,(H0 k).bI/\aF (β0 k)=some b)(hB0:B0<=w0.heap.size):∀(p:Jp) (c:Code) (Q:Post) (f:Fr) (H:Hp) (β:Nat->Value) (a:Act) (w:World),dM c=true->codeOk N c=true->AWp P H0 B0 p c Q f H->Rel G M w0 D0 N f H β a w->c.wpIn (Wd none) 0 P (Conc G M w0 D0 N Q) a w
 |.fin,c,Q,f,H,β,a,w,hr,hd,h,R=>dX hm c none G _ w0 Q f H β a w (.inl hr) hd h R
 |.opn p,c,Q,f,H,β,a,w,hr,hd,h,R=>by
  obtain⟨f',H',β',h',R'⟩:=Rel.b9D hG hM hB0 h R;exact QK hm hG hM hB0 p c Q f' H' β' a w hr hd h' R'
 |.par p,.seq x y,Q,f,H,β,a,w,hr,hd,h,R=>by
  simp only[codeOk,Bool.and_eq_true]at hd;simp only[dM,Bool.and_eq_true]at hr;refine wpIn_seq (wpIn_mono (dX hm x none G _ w0 _ f H β a w (.inl hr.1) hd.1 h R) λe a w hq=>?_);cases e with
  |normal=>obtain⟨f,H,β,hk,R⟩:=hq;exact QK hm hG hM hB0 p y Q f H β a w hr.2 hd.2 hk R
  |panic _=>exact hq.elim
  |outgrown=>exact hq.elim
  |exit id=>obtain⟨f,H,β,hk,R⟩:=hq;exact⟨f,H,β,hk,R⟩
  |ret=>obtain⟨f,H,β,hk,R⟩:=hq;exact⟨f,H,β,hk,R⟩
  |goto l=>obtain⟨f,H,β,hk,R⟩:=hq;exact⟨f,H,β,hk,R⟩
 |.par p,.skip,Q,f,H,β,a,w,hr,hd,h,R=>h.elim
end
end Go.AL

namespace Go.AL
variable {zi:Zi}
open Go.RowKit
set_option linter.unusedSimpArgs false
set_option linter.unusedVariables false
end Go.AL

namespace Go.AL
variable {zi:Zi}
open Go.RowKit
set_option linter.unusedSimpArgs false
set_option linter.unusedVariables false
variable {a:Act} {w:World}
abbrev PostB:=Exit->Fr->Hp->(Nat->Value)->Prop
def b2M (G:Gh)(M:Nat->Prop)(w0:World)(D0:Nat->Prop)(N:Nat)(Q:PostB):Exit->Act->World->Prop
 |.panic _,_,_=>False
 |.outgrown,_,_=>False
 |e,a,w=>∃f H β,Q e f H β/\Rel G M w0 D0 N f H β a w
def b8y (S:Fr->Hp->(Nat->Value)->Prop)(Q:PostB):PostB
 |.normal,f,H,β=>S f H β
 |e,f,H,β=>Q e f H β
def SB (P:Program)(N:Nat)(c:Code)(Q:PostB)(f:Fr)(H:Hp)(β:Nat->Value):Prop :=
 ∀(G:Gh) (M:Nat->Prop) (w0:World) (D0:Nat->Prop) (a:Act) (w:World),Rel G M w0 D0 N f H β a w->c.wpIn (Wd none) 0 P (b2M G M w0 D0 N Q) a w
def LB (P:Program)(N:Nat)(ops:Array Oper)(Q:PostB)(rest:List Oper)(f:Fr)(H:Hp)(β:Nat->Value):Prop :=
 ∀(G:Gh) (M:Nat->Prop) (w0:World) (D0:Nat->Prop) (a:Act) (w:World),Rel G M w0 D0 N f H β a w->wpListIn (Wd none) 0 P ops (b2M G M w0 D0 N Q) rest a w
def a7G (H:Hp)(β:Nat->Value)(H':Hp)(β':Nat->Value):Prop:=∀k,(H k).bI->(H' k).stamp=(H k).stamp->β' k=β k
section
variable {P:Program} {N:Nat} {Q:PostB} {f:Fr} {H:Hp} {β:Nat->Value}
theorem Rel.XO {G:Gh}{M:Nat->Prop}{w0:World}{D0:Nat->Prop}{f':Fr}{H':Hp}{β':Nat->Value}(R:Rel (Go.AL.YE G H β) M w0 D0 N f' H' β' a w):a7G H β H' β'/\Rel G M w0 D0 N f' H' β' a w :=
 ⟨λk hk hs=>by
  have h:=R.gh (.hs k (H k).stamp) (β k) (.inr ⟨k,hk,rfl,rfl⟩);simp only[ak]at h;exact(h.2 hs.symm).symm,R.b7e (λx v h=>.inl h) rfl⟩
theorem SB.aw (zx:Zi)(hm:P.follows .mixedOrders=true){c:Code}(hn:dM c=true)(hd:codeOk N c=true){Qa:Post}(h : @AW zx P c Qa f H)(hq:∀e f' H' β',Qa e f' H'->a7G H β H' β'->Q e f' H' β'):SB P N c Q f H β:=λG M w0 D0 a w R =>
 zcD (dX (zi:=zx) hm c none _ _ w0 Qa f H β a w (.inl hn) hd h R.YE) λe a w hc=>by
  cases e with
  |panic _=>exact hc.elim
  |outgrown=>exact hc.elim
  |normal=>obtain⟨f',H',β',hk,R'⟩:=hc;obtain⟨s,R'⟩:=R'.XO;exact⟨f',H',β',hq _ _ _ _ hk s,R'⟩
  |exit id=>obtain⟨f',H',β',hk,R'⟩:=hc;obtain⟨s,R'⟩:=R'.XO;exact⟨f',H',β',hq _ _ _ _ hk s,R'⟩
  |ret=>obtain⟨f',H',β',hk,R'⟩:=hc;obtain⟨s,R'⟩:=R'.XO;exact⟨f',H',β',hq _ _ _ _ hk s,R'⟩
  |goto l=>obtain⟨f',H',β',hk,R'⟩:=hc;obtain⟨s,R'⟩:=R'.XO;exact⟨f',H',β',hq _ _ _ _ hk s,R'⟩
theorem SB.ent {c:Code}(he:∀(G:Gh) (M:Nat->Prop) (w0:World) (D0:Nat->Prop) (a:Act) (w:World),Rel G M w0 D0 N f H β a w->∃f' H' β',SB P N c Q f' H' β'/\Rel G M w0 D0 N f' H' β' a w):SB P N c Q f H β:=λG M w0 D0 a w R=>by
 obtain⟨f',H',β',hs,R'⟩:=he G M w0 D0 a w R;exact hs G M w0 D0 a w R'
theorem SB.seq {x y:Code}{S:Fr->Hp->(Nat->Value)->Prop}(hx:SB P N x (b8y S Q) f H β)(hy:∀f H β,S f H β->SB P N y Q f H β):SB P N (.seq x y) Q f H β:=λG M w0 D0 a w R=>by
 refine zfP (zcD (hx G M w0 D0 a w R) λe a w hq=>?_);cases e with
 |normal=>obtain⟨f,H,β,hk,R⟩:=hq;exact hy f H β hk G M w0 D0 a w R
 |panic _=>exact hq.elim
 |outgrown=>exact hq.elim
 |exit id=>obtain⟨f,H,β,hk,R⟩:=hq;exact⟨f,H,β,hk,R⟩
 |ret=>obtain⟨f,H,β,hk,R⟩:=hq;exact⟨f,H,β,hk,R⟩
 |goto l=>obtain⟨f,H,β,hk,R⟩:=hq;exact⟨f,H,β,hk,R⟩
theorem SB.skip (h:Q .normal f H β):SB P N .skip Q f H β:=λG M w0 D0 a w R=>wpIn_skip ⟨f,H,β,h,R⟩
theorem SB.seg (zx:Zi)(hm:P.follows .mixedOrders=true){S:Fr->Hp->Prop}:∀(n:Nat) {c d:Code} {f:Fr} {H:Hp} {β:Nat->Value},dM c=true->codeOk N c=true->@AWs zx P S n c (λ_ _ _=>False) f H->oG n c=some d->(∀f' H' β',S f' H'->a7G H β H' β'->SB P N d Q f' H' β')->SB P N c Q f H β:=by
 intro n;have key:∀(n:Nat) {c d:Code} {f:Fr} {H:Hp} {β:Nat->Value} {G:Gh} {M:Nat->Prop} {w0:World} {D0:Nat->Prop} {K:Exit->Act->World->Prop} {a:Act} {w:World},dM c=true->codeOk N c=true->@AWs zx P S n c (λ_ _ _=>False) f H->oG n c=some d->Rel G M w0 D0 N f H β a w->(∀f H β a w,S f H->Rel G M w0 D0 N f H β a w->d.wpIn (Wd none) 0 P K a w)->c.wpIn (Wd none) 0 P K a w:=by
  intro n c d f H β G M w0 D0 K a w hn hd h hc R hk;refine BL (zi:=zx) hm n c _ f H β a w (.inl hn) hd h R (λf H β a w hs R=>?_) λe a w _ hq=>?_
  .rw[Fv hc];exact hk f H β a w hs R
  .cases e with
   |panic _=>exact hq.elim
   |outgrown=>exact hq.elim
   |normal=>obtain⟨_,_,_,hk,_⟩:=hq;exact hk.elim
   |ret=>obtain⟨_,_,_,hk,_⟩:=hq;exact hk.elim
   |exit id=>obtain⟨_,_,_,hk,_⟩:=hq;exact hk.elim
   |goto l=>obtain⟨_,_,_,hk,_⟩:=hq;exact hk.elim
 intro c d f H β hn hd h hc hy G M w0 D0 a w R;refine key n hn hd h hc R.YE λf' H' β' a w hs R'=>?_;obtain⟨s,R'⟩:=R'.XO;exact hy f' H' β' hs s G M w0 D0 a w R'
theorem SB.exit {id:Nat}(h:Q (.exit id) f H β):SB P N (.exit id) Q f H β:=λG M w0 D0 a w R=>wpIn_exit ⟨f,H,β,h,R⟩
theorem LB.nil {ops:Array Oper}(h:Q .normal f H β):LB P N ops Q [] f H β:=λG M w0 D0 a w R=>⟨f,H,β,h,R⟩
theorem LB.ops (zx:Zi){l l1 l2 rest:List Oper}{K:Fr->Hp->Log->Prop}(hl:rest=l1++l2)(hd:∀o∈l1,∀d,o.dst=some d->d<N)(h : @fV zx P (l.map (·.dst)) l1 K f H [])(k:∀f' H' lg β',K f' H' lg->a7G H β H' β'->LB P N l.toArray Q l2 f' H' β'):LB P N l.toArray Q rest f H β:=λG M w0 D0 a w R =>
 a3H (zi:=zx) hl hd R.YE h λf' H' lg β' a w hk R'=>by
  obtain⟨s,R'⟩:=R'.XO;exact k f' H' lg β' hk s G M w0 D0 a w R'
theorem a4x {o:Oper}{z:Value}{w2:World}{ro:Option Nat}{K:Act->World->Prop}{Q:Exit->Act->World->Prop}(h:(execOp a.eval o).run P w=.ok (.value z) w2)(hnd:∀c,o.op≠.defer c)(hK:K (a.put o.dst z) w2):o.wpIn (Wd ro) 0 P a w K Q:=by
 refine⟨λ_ _=>zar,?_⟩;show o.uponIn (Wd ro) 0 P a K Q ((o.semAt ro a.eval).run P w);rw[ES hnd,h];exact hK
theorem LB.one {ops:Array Oper}{o:Oper}{rest:List Oper}(hg:o.guard=none)(hnd:∀c,o.op≠.defer c)
  (h:∀(G:Gh) (M:Nat->Prop) (w0:World) (D0:Nat->Prop) (a:Act) (w:World),Rel G M w0 D0 N f H β a w->∃z w' f' H' β',(execOp a.eval o).run P w=.ok (.value z) w'/\LB P N ops Q rest f' H' β'/\Rel G M w0 D0 N f' H' β' (a.put o.dst z) w'):LB P N ops Q (o::rest) f H β:=λG M w0 D0 a w R=>by
 obtain⟨z,w',f',H',β',hx,hk,R'⟩:=h G M w0 D0 a w R;exact a6z hg (a4x hx hnd (hk G M w0 D0 _ _ R'))
theorem ACI.b7D (zx : Zi) {g : Nat} {avs : List AV} {Z : AV → Hp → Prop} {fn : Func} {body : Code} {rs : List ResultVar} (hf : P.funcs[g]? = some fn) (hb : fn.body = some body) (hr : fn.results.toList = rs) (hn : (fn.name == "runtime.NumGoroutine") = false)
  (hargs:Nat.ble avs.length fn.ntmps=true) (hne:∃x H',Z x H') (h:∀β,SB P fn.ntmps body (λe f H _=>@UY zx P rs Z e f H) (Ec avs) H β):ACI P g avs H Z:=by
 subst hr;refine ACI.VY (zi:=zx) hf hb hn (zcu hargs) hne λG M w0 D0 β a w R=>?_;refine zcD (h β G M w0 D0 a w R) λe a w hq=>?_;cases e with
 |panic _=>exact hq.elim
 |outgrown=>exact hq.elim
 |normal=>obtain⟨f,H,β,hk,R⟩:=hq;exact⟨f,H,β,hk,R⟩
 |exit id=>obtain⟨f,H,β,hk,R⟩:=hq;exact⟨f,H,β,hk,R⟩
 |ret=>obtain⟨f,H,β,hk,R⟩:=hq;exact⟨f,H,β,hk,R⟩
 |goto l=>obtain⟨f,H,β,hk,R⟩:=hq;exact⟨f,H,β,hk,R⟩
end
end Go.AL

namespace Go.AL
variable {zi:Zi}
open Go.RowKit
set_option linter.unusedSimpArgs false
set_option linter.unusedVariables false
section
variable {P:Program} {G:Gh} {M:Nat->Prop} {w0:World} {D0:Nat->Prop} {N:Nat} {f:Fr} {H:Hp} {β:Nat->Value} {a:Act} {w:World}
end
end Go.AL

namespace Go.AL
variable {zi:Zi}
open Go.RowKit
set_option linter.unusedSimpArgs false
set_option linter.unusedVariables false
def Mk (H:Hp)(β:Nat->Value)(h e sz:Nat)(row:List IV)(n:Nat)(v:Value):Prop :=
 ∃st m ad cap,H h=.blk false st e sz (List.replicate m row)/\n<=m/\β h=.slice ad m cap/\v=.slice ad n cap
theorem Mk.congr {H H':Hp}{β β':Nat->Value}{h e sz:Nat}{row:List IV}{n:Nat}{v:Value}(k:Mk H β h e sz row n v)(h1:H' h=H h)(h2:β' h=β h):Mk H' β' h e sz row n v:=by
 obtain⟨st,m,ad,cap,q1,q2,q3,q4⟩:=k;exact⟨st,m,ad,cap,h1.trans q1,q2,h2.trans q3,q4⟩
section
variable {P:Program} {N:Nat} {Q:PostB} {f:Fr} {H:Hp} {β:Nat->Value}
end
section
variable {P:Program} {G:Gh} {M:Nat->Prop} {w0:World} {D0:Nat->Prop} {N:Nat} {f:Fr} {H:Hp} {β:Nat->Value} {a:Act} {w:World}
def jG (vs:List Value):List (List IV):=vs.map λv=>[.raw v]
theorem XV (vs:List Value):(jG vs).flatten=vs.map .raw:=by
 induction vs with
 |nil=>rfl
 |cons v vs ih=>simp only[jG,zaC,zbI]at ih ⊢;rw[ih];rfl
end
end Go.AL

namespace Go.AL
variable {zi:Zi}
open Go.RowKit
set_option linter.unusedSimpArgs false
set_option linter.unusedVariables false
abbrev G0:Gh:=⟨λ_ _=>False,true⟩
abbrev M0:Nat->Prop:=λ_=>False
def SV (P:Program)(L N:Nat)(c:Code)(Q:PostB)(f:Fr)(H:Hp)(β:Nat->Value):Prop :=
 ∀(w0:World) (D0:Nat->Prop) (a:Act) (w:World),w0.heap.size<=L->Rel G0 M0 w0 D0 N f H β a w->c.wpIn (Wd none) 0 P (b2M G0 M0 w0 D0 N Q) a w
section
variable {P:Program} {L N:Nat} {Q:PostB} {f:Fr} {H:Hp} {β:Nat->Value}
theorem SV.seq {x y:Code}{S:Fr->Hp->(Nat->Value)->Prop}(hx:SV P L N x (b8y S Q) f H β)(hy:∀f H β,S f H β->SV P L N y Q f H β):SV P L N (.seq x y) Q f H β:=λw0 D0 a w hL R=>by
 refine zfP (zcD (hx w0 D0 a w hL R) λe a w hq=>?_);cases e with
 |normal=>obtain⟨f,H,β,hk,R⟩:=hq;exact hy f H β hk w0 D0 a w hL R
 |panic _=>exact hq.elim
 |outgrown=>exact hq.elim
 |exit id=>obtain⟨f,H,β,hk,R⟩:=hq;exact⟨f,H,β,hk,R⟩
 |ret=>obtain⟨f,H,β,hk,R⟩:=hq;exact⟨f,H,β,hk,R⟩
 |goto l=>obtain⟨f,H,β,hk,R⟩:=hq;exact⟨f,H,β,hk,R⟩
theorem SV.skip (h:Q .normal f H β):SV P L N .skip Q f H β:=λw0 D0 a w hL R=>wpIn_skip ⟨f,H,β,h,R⟩
theorem SV.exit {id:Nat}(h:Q (.exit id) f H β):SV P L N (.exit id) Q f H β:=λw0 D0 a w hL R=>wpIn_exit ⟨f,H,β,h,R⟩
end
end Go.AL

namespace Go.AL
variable {zi:Zi}
open Go.RowKit
set_option linter.unusedSimpArgs false
set_option linter.unusedVariables false
section
variable {G:Gh} {M:Nat->Prop} {w0:World} {D0:Nat->Prop} {N:Nat} {P:Program} {f:Fr} {H:Hp} {β:Nat->Value} {a:Act} {w:World}
variable {k:Nat} {x y x':List Nat×List Nat}
theorem Rel.view (R:Rel G M w0 D0 N f H β a w){f':Fr}{H':Hp}{β':Nat->Value}(hs:iR H β H' β')(hd:∀b,DD H' β' D0 b->DD H β D0 b)
  (tmps:∀t,ak w (DD H' β' D0) H' β' (f' t) (a.tmps.getD t Go.undef))
  (own:∀h st e sz rows,H' h=.blk false st e sz rows->Own w (DD H' β' D0) w0.heap.size M (β' h) e sz rows)
  (frz:∀h st e sz rows,H' h=.blk true st e sz rows->(∀r∈rows,r.length=sz)/\Rep w (DD H' β' D0) (.sl rows) (β' h)/\b3h (β' h))
  (dis:∀h h',h≠h'->(H' h).bI->(H' h').bI->∀g,aF (β' h)=some g->aF (β' h')≠some g)
  (nst:∀h st e rows,H' h=.nst st e rows->Ob w (DD H' β' D0) H' β' w0.heap.size M (β' h) e rows)
  (mrk:∀h B,H' h=.mrk B->B<=w.heap.size) (tie:∀h x v,H' h=.tie x v->ak w (DD H' β' D0) H' β' x v):Rel G M w0 D0 N f' H' β' a w :=
 ⟨R.os,R.tape,R.output,R.size,R.keep,R.old,R.nD,R.defers,R.rnd,R.RU,λx v h=>(R.gh x v h).mono (bD.of_sub hd) hs,tmps,own,frz,dis,nst,mrk,tie⟩
theorem dS (g:Nat->Nat->Nat->Option Nat)(T:TI)(H:Hp)(h st i off:Nat):Ea g T H (.hp h st i off)=match g h i off with
  |some s=>match qN T H (.hp h st i off),H s with
   |some r,.tie y v=>some ⟨r.c/\r.v=.iv (.raw v),y,r.fz,r.hs,s::r.rd⟩
   |_,_=>none
  |none=>qN T H (.hp h st i off):=rfl
theorem I9 (g:Nat->Nat->Nat->Option Nat)(T:TI)(H:Hp)(cells:List IV):Ea g T H (.ip cells)=qN T H (.ip cells):=rfl
def zN (k:Nat):Nat:=if k<1000 then k else 1000
def b2k (lg:Log):Log:=lg.map λp=>(p.1.map zN,p.2.map zN)
theorem a7u:b2k []=[]:=rfl
theorem a3u (x y:List Nat)(lg:Log):b2k ((x,y)::lg)=(x.map zN,y.map zN)::b2k lg:=rfl
theorem Du (h:k<1000):zN k=k:=zas h
theorem ND (h:1000<=k):zN k=1000:=zam (by omega)
theorem a3o (h:clash (x.1.map zN,x.2.map zN) (y.1.map zN,y.2.map zN)=false):clash x y=false:=by
 have key:∀(a b c:List Nat),((a.map zN).any λk=>(b.map zN).contains k || (c.map zN).contains k)=false->(a.any λk=>b.contains k || c.contains k)=false:=λa b c h=>by
  rw[List.any_eq_false]at h ⊢;intro k hk hc;have:=h (zN k) (zaw.2 ⟨k,hk,rfl⟩);simp only[zct,zc7]at hc this;exact this (hc.elim (λh=>.inl (zaw.2 ⟨k,h,rfl⟩)) λh=>.inr (zaw.2 ⟨k,h,rfl⟩))
 simp only[clash,Bool.or_eq_false_iff]at h ⊢;exact⟨key _ _ _ h.1,key _ _ _ h.2⟩
theorem Ep (l:List Nat){m:Nat}(h:m<1000):(l.map zN).contains m=l.contains m:=by
 rw[zfh,zc7,zc7,zaw];constructor
 .rintro⟨k,hk,e⟩;unfold zN at e;split at e
  .subst e;exact hk
  .omega
 .intro hm;exact⟨m,hm,Du h⟩
theorem b1q {ops:Array Oper}{lg lg':Log}(e:b2k lg=lg')(h:Bg ops lg'.reverse=true):JE ops lg:=by
 subst e;unfold JE;unfold Bg nJ at h ⊢;have hg:∀i,((b2k lg).reverse).getD i ([],[])=(((lg.reverse).getD i ([],[])).1.map zN,((lg.reverse).getD i ([],[])).2.map zN):=λi=>by
  rw[b2k,<-List.map_reverse,List.getD,List.getD,zaD];cases lg.reverse[i]?<;>rfl
 simp only[zaX]at h ⊢;obtain⟨⟨h1,h2⟩,h3⟩:=h;refine⟨⟨?_,?_⟩,?_⟩
 .rw[zby]at h1 ⊢;intro j hj;have h:=h1 j hj;rw[zby]at h ⊢;intro i hi;have h:=h i hi;simp only[zct]at h ⊢;refine h.elim (λh=>.inl ?_) .inr;rw[hg,hg]at h;rw[zdL]at h ⊢;exact a3o h
 .rw[zby]at h2 ⊢;intro j hj;have h:=h2 j hj;rw[zby]at h ⊢;intro i hi;have h:=h i hi;simp only[zct]at h ⊢;refine h.elim (λh=>.inl ?_) .inr;rw[hg]at h;rwa [Ep _ (by omega)]at h
 .rw[zby]at h3 ⊢;intro e he;have:=h3 (e.1.map zN,e.2.map zN) (by rw[b2k,<-List.map_reverse];exact zaw.2 ⟨e,he,rfl⟩);rwa [Ep _ (by omega)]at this
def xO (e e':List Nat×List Nat):Prop:=(∀k∈e.1,zN k∈e'.1)/\∀k∈e.2,zN k∈e'.2
inductive mV:Log->Log->Prop
 |nil:mV [] []
 |cons {e e':List Nat×List Nat} {l l':Log} (h:xO e e') (t:mV l l'):mV (e::l) (e'::l')
theorem WW (x y:List Nat):xO (x,y) (x.map zN,y.map zN):=⟨λk hk=>zaw.2 ⟨k,hk,rfl⟩,λk hk=>zaw.2 ⟨k,hk,rfl⟩⟩
theorem xO.nil:xO ([],[]) ([],[]):=⟨λk h=>(by simp at h),λk h=>(by simp at h)⟩
theorem mV.len {l l':Log}(h:mV l l'):l.length=l'.length:=by
 induction h with
 |nil=>rfl
 |cons _ _ ih=>simp[ih]
theorem mV.at {l l':Log}(h:mV l l'):∀i,xO (l.getD i ([],[])) (l'.getD i ([],[])):=by
 induction h with
 |nil=>intro i;simp only[List.getD_nil];exact .nil
 |cons h t ih=>intro i;cases i with
  |zero=>exact h
  |succ i=>simpa using ih i
theorem mV.app {l l' m m':Log}(h:mV l l')(k:mV m m'):mV (l++m) (l'++m'):=by
 induction h with
 |nil=>exact k
 |cons h t ih=>exact .cons h ih
theorem mV.rev {l l':Log}(h:mV l l'):mV l.reverse l'.reverse:=by
 induction h with
 |nil=>exact .nil
 |cons h t ih=>rw[zdm,zdm];exact ih.app (.cons h .nil)
theorem a3n {y':List Nat×List Nat}(hx:xO x x')(hy:xO y y')(h:clash x' y'=false):clash x y=false:=by
 have key:∀(a b c a' b' c':List Nat),(∀k∈a,zN k∈a')->(∀k∈b,zN k∈b')->(∀k∈c,zN k∈c')->(a'.any λk=>b'.contains k || c'.contains k)=false->(a.any λk=>b.contains k || c.contains k)=false:=λa b c a' b' c' ha hb hc' h=>by
  rw[List.any_eq_false]at h ⊢;intro k hk hc;have:=h (zN k) (ha k hk);simp only[zct,zc7]at hc this;exact this (hc.elim (λh=>.inl (hb k h)) λh=>.inr (hc' k h))
 simp only[clash,Bool.or_eq_false_iff]at h ⊢;exact⟨key _ _ _ _ _ _ hx.2 hy.1 hy.2 h.1,key _ _ _ _ _ _ hy.2 hx.1 hx.2 h.2⟩
theorem Em (hx:xO x x'){m:Nat}(hm:m<1000)(h:x'.2.contains m=false):x.2.contains m=false:=by
 rw[zfM]at h ⊢;intro hc;refine h ?_;rw[zc7]at hc ⊢;have:=hx.2 m hc;rwa [Du hm]at this
theorem a1W {ops:Array Oper}{lg lg':Log}(e:mV lg lg')(h:Bg ops lg'.reverse=true):JE ops lg:=by
 have e':=e.rev;unfold JE;unfold Bg at h ⊢;simp only[zaX]at h ⊢;obtain⟨⟨h1,h2⟩,h3⟩:=h;refine⟨⟨?_,?_⟩,?_⟩
 .simp only[nJ,zby,zaK]at h1 ⊢;intro j hj i hi;have:=h1 j hj i hi;simp only[zct,zdL]at this ⊢;exact this.imp (a3n (e'.at i) (e'.at j)) id
 .simp only[nJ,zby,zaK]at h2 ⊢;intro j hj i hi;have:=h2 j hj i hi;simp only[zct,zdL]at this ⊢;exact this.imp (Em (e'.at i) (by omega)) id
 .rw[zby]at h3 ⊢;intro x hx;obtain⟨i,hi⟩:=zba hx;have hl:=(zao.1 hi).1;have hi':lg'.reverse[i]?=some (lg'.reverse.getD i ([],[])):=by
   rw[e'.len]at hl;simp[List.getD,zaf hl]
  have:=h3 _ (zat hi');have hs:=e'.at i;rw[show lg.reverse.getD i ([],[])=x by rw[List.getD,hi];rfl]at hs;simp only[zdL]at this ⊢;exact Em hs (by omega) this
def a9j (x y:List Nat×List Nat):Bool:=(!x.2.isEmpty && !(y.1.isEmpty && y.2.isEmpty)) || (!y.2.isEmpty && !(x.1.isEmpty && x.2.isEmpty))
theorem b2i (h:clash x y=true):a9j x y=true:=by
 obtain⟨a,b⟩:=x;obtain⟨c,d⟩:=y;cases a<;>cases b<;>cases c<;>cases d<;>first|rfl|simp[clash]at h
def b2J:Log->Prop
 |[]=>True
 |e::l=>e.2.contains 998=false/\b2J l
theorem PN:∀{l:Log},b2J l->(l.all λe=>!e.2.contains 998)=true
 |[],_=>rfl
 |e::l,h=>by
  rw[zdh,PN h.2,h.1];rfl
def a8Z (ops:Array Oper)(log:Log):Bool:=(nJ ops.size λi j=>reach ops 16 j i || !a9j (log.getD i ([],[])) (log.getD j ([],[]))) && (nJ ops.size λi j=>reach ops 16 j i || !(log.getD i ([],[])).2.contains 999)
theorem Ku {n:Nat}{p q:Nat->Nat->Bool}(h:∀i j,p i j=true->q i j=true)(hp:nJ n p=true):nJ n q=true:=by
 simp only[nJ,zby,zaK]at hp ⊢;exact λj hj i hi=>h _ _ (hp j hj i hi)
theorem N7 {ops:Array Oper}{lg:Log}(h:a8Z ops lg.reverse=true)(h8:b2J lg):JE ops lg:=by
 unfold a8Z at h;simp only[zaX]at h;unfold JE Bg;simp only[zaX];refine⟨⟨Ku (λi j hp=>?_) h.1,Ku (λi j hp=>?_) h.2⟩,?_⟩
 .simp only[zct,zdL]at hp ⊢;rcases hp with hp|hp
  .exact .inr hp
  .exact .inl (zfM.2 λhc=>by rw[b2i hc]at hp;cases hp)
 .simp only[zct]at hp ⊢;exact hp.symm
 .rw[List.all_reverse];exact PN h8
end
end Go.AL
