/-
 Contracts of the functions that the law reaches.
-/
import Derived.Test.YtdpngipofekcfaaGreatAbsZ2
import Derived.Test.YtdpngipofekcfaaGreatAbsYM
namespace Go.AL
variable {zi:Zi}
open Go.RowKit
set_option linter.unusedSimpArgs false
set_option linter.unusedVariables false
def yc (L:Nat→Prop):AV→Prop
 | .dead=>True
 | .undef=>True
 | .ub=>True
 | .iv _=>True
 | .jA=>True
 | .agg _=>True
 | .ip _=>True
 | .hs h _=>L h
 | .hw h _=>L h
 | .hv h _ _ _=>L h
 | .hp h _ _ _=>L h
 | .tup _=>False
 | .fn _ _=>False
def a7E (L:Nat→Prop):HC→Prop
 | .blk false _ _ _ _=>True
 | .nst _ _ rows=>∀ x∈rows,yc L x
 | .mrk _=>True
 | .none=>True
 | .gone _ _=>True
 | _=>False
theorem yc.rep {L:Nat→Prop}{w w':World}{D D':Nat→Prop}{H H':Hp}{β β':Nat→Value}(g:bD w D w' D')(h:∀ k,L k→H' k=H k∧β' k=β k){x:AV}(hx:yc L x){v:Value}(hr:aj w D H β x v):aj w' D' H' β' x v:=by
 cases x with
 | dead=>simp[aj]
 | undef=>simpa [aj] using hr
 | ub=>simpa [aj] using hr
 | iv y=>simp only[aj]at hr ⊢;exact hr.mono g
 | jA=>simpa [aj] using hr
 | agg cells =>
  simp only[aj]at hr ⊢;obtain⟨cs,rfl,hr⟩:=hr;exact⟨cs,rfl,hr.mono g⟩
 | ip cells=>exact aj.mono (H:=H') (H':=H') (β:=β') (β':=β') g (gI.refl _ _) (.ip cells) v (by simpa only[aj] using hr)
 | hs k st=>simp only[aj]at hr ⊢;rw[(h k hx).1,(h k hx).2];exact hr
 | hw k st=>simp only[aj]at hr ⊢;rw[(h k hx).1,(h k hx).2];exact hr
 | hv k st off len=>simp only[aj]at hr ⊢;rw[(h k hx).1,(h k hx).2];exact hr
 | hp k st i off=>simp only[aj]at hr ⊢;rw[(h k hx).1,(h k hx).2];exact hr
 | tup l=>exact hx.elim
 | fn k l=>exact hx.elim
theorem yc.Z7 {L:Nat→Prop}{w w':World}{D D':Nat→Prop}{H H':Hp}{β β':Nat→Value}(g:bD w D w' D')(h:∀ k,L k→H' k=H k∧β' k=β k):∀ {l:List AV} {vs:List Value},(∀ x∈l,yc L x)→aF w D H β l vs→aF w' D' H' β' l vs
 | [],[],_,_=>by simp[aF]
 | x::l,v::vs,hx,hr=>by
  simp only[aF]at hr ⊢;exact⟨(hx x (by simp)).rep g h hr.1,yc.Z7 g h (fun y hy=>hx y (by simp[hy])) hr.2⟩
 | [],_::_,_,hr=>by simp[aF]at hr
 | _::_,[],_,hr=>by simp[aF]at hr
def Cj (ks:List Nat)(H:Hp):Hp:=fun k=>if k∈ks then H k else .none
theorem jV {ks:List Nat}{H:Hp}{k:Nat}(h:k∈ks):Cj ks H k=H k:=if_pos h
theorem mO {ks:List Nat}{H:Hp}{k:Nat}(h:k∉ks):Cj ks H k=.none:=if_neg h
theorem jf (H1:Hp):∀ (ks:List Nat) (H:Hp) (k:Nat),bU (ks.map fun k=>(k,H1 k)) H k=if k∈ks then H1 k else H k
 | [],H,k=>by simp[bU]
 | j::ks,H,k=>by
  simp only[List.map_cons,bU];rw[jf H1 ks];by_cases h:k∈ks
  ·simp[h]
  ·by_cases e:k=j
   ·subst e;simp[h,au]
   ·simp[h,e,ak _ _ e]
section
variable {G:Gh} {M:Nat→Prop} {w0:World} {D0:Nat→Prop} {N:Nat} {P:Program} {f:Fr} {H:Hp} {β:Nat→Value} {a:Act} {w:World}
theorem ACI.frame {g:Nat}{avs:List AV}{ks:List Nat}{H:Hp}(a7f:∀ x∈avs,yc (·∈ks) x)(hH:∀ k∈ks,a7E (·∈ks) (H k)){Z:AV→Hp→Prop}(hc:ACI P g avs (Cj ks H) Z)
  (hZ:∀ x H1,Z x H1→yc (·∈ks) x∧∀ k∈ks,a7E (·∈ks) (H1 k)∧(H1 k).esz=(H k).esz):ACF P g avs H ks (fun x hs=>∃ H1,Z x H1∧hs=ks.map fun k=>(k,H1 k)):=by
 refine⟨?_,fun H2 hag G M w0 D0 N f β a w vs R hv=>?_⟩
 ·obtain⟨x,H1,h⟩:=hc.1;exact⟨x,_,H1,h,rfl⟩
 have hr:Cj ks H=Cj ks H2:=by
  funext k
  by_cases h:k∈ks
  ·rw[jV h,jV h,hag k h]
  ·rw[mO h,mO h]
 rw[hr]at hc;replace hH:∀ k∈ks,a7E (·∈ks) (H2 k):=fun k hk=>by rw[hag k hk];exact hH k hk
 replace hZ:∀ x H1,Z x H1→yc (·∈ks) x∧∀ k∈ks,a7E (·∈ks) (H1 k)∧(H1 k).esz=(H2 k).esz:=fun x H1 h=>⟨(hZ x H1 h).1,fun k hk=>by rw[hag k hk];exact(hZ x H1 h).2 k hk⟩
 clear hr hag;obtain⟨M1,hM1⟩:∃ M1:Nat→Prop,M1=fun b=>∃ k,k∈ks∧(H2 k).bV∧aG (β k)=some b:=⟨_,rfl⟩
 obtain⟨X,hX⟩:∃ X:Nat→Prop,X=fun b=>D0 b∨∃ k,k∉ks∧(H2 k).bV∧aG (β k)=some b:=⟨_,rfl⟩
 have hXD:∀ b,DD (Cj ks H2) β X b↔DD H2 β D0 b:=fun b=>by
  rw[hX];constructor
  ·rintro((h|⟨k,_,hm,hk⟩)|⟨k,hm,hk⟩)
   ·exact .inl h
   ·exact .inr ⟨k,hm,hk⟩
   ·by_cases e:k∈ks
    ·rw[jV e]at hm;exact .inr ⟨k,hm,hk⟩
    ·rw[mO e]at hm;exact hm.elim
  ·rintro(h|⟨k,hm,hk⟩)
   ·exact .inl (.inl h)
   ·by_cases e:k∈ks
    ·exact .inr ⟨k,by rw[jV e];exact hm,hk⟩
    ·exact .inl (.inr ⟨k,e,hm,hk⟩)
 have gs:bD w (DD H2 β D0) w (DD (Cj ks H2) β X):=bD.of_sub fun b=>(hXD b).1
 have c0:∀ k c,Cj ks H2 k=c→c≠.none→k∈ks∧H2 k=c:=fun k c hc hne=>by
  by_cases e:k∈ks
  ·exact⟨e,by rw[← jV (H:=H2) e];exact hc⟩
  ·rw[mO e]at hc;exact(hne hc.symm).elim
 -- the callee's own beginning
 have R0:Rel ⟨fun _ _=>False,true⟩ M1 w X ks.length (fun t=>match ks[t]? with|some k=>.hs k (H2 k).stamp|none=>.dead) (Cj ks H2) β { a with tmps:=(ks.map β).toArray,defers:=[] } w:=by
  refine KG (by simp) rfl (fun b hb=>?_) (fun t=>?_) (fun k st e sz rows hh=>?_) (fun k st e sz rows hh=>?_) (fun k k' hne hm hm' gg hg=>?_) (fun k st e rows hh=>?_) (fun k B hh=>?_) (fun k x v hh=>?_)
  ·rw[hX]at hb;rw[hM1];rcases hb with hb|⟨k,hk,hm,hh⟩
   ·refine⟨Nat.lt_of_lt_of_le (R.old b hb).1 R.size,?_⟩;rintro⟨k,hk,hm,hh⟩;rcases (R.iD hm hh).2 with h|h
    ·have:=(R.old b hb).1;omega
    ·exact(R.old b hb).2 h
   ·refine⟨(R.iD hm hh).1,?_⟩;rintro⟨k',hk',hm',hh'⟩;exact R.dis k k' (fun e=>hk (by rw[e];exact hk')) hm hm' b hh hh'
  ·cases e:ks[t]? with
   | none=>simp[aj]
   | some k =>
    have hk:=List.mem_of_getElem? e;simp only[aj];rw[jV hk];exact⟨Nat.le_refl _,fun _=>by simp[Array.getD_eq_getD_getElem?,e]⟩
  ·obtain⟨hk,hh⟩:=c0 k _ hh (by simp);have:=(R.own k _ _ _ _ hh).mono gs fun _ _=>rfl
   refine⟨this.1,this.2.imp id ?_⟩;rintro⟨gb,cap,cur,hv,_,rest⟩;exact⟨gb,cap,cur,hv,.inr (by rw[hM1];exact⟨k,hk,by rw[hh];trivial,by rw[hv];rfl⟩),rest⟩
  ·obtain⟨hk,hh⟩:=c0 k _ hh (by simp);have:=hH k hk;rw[hh]at this;exact this
  ·by_cases e:k∈ks
   ·by_cases e':k'∈ks
    ·rw[jV e]at hm;rw[jV e']at hm';exact R.dis k k' hne hm hm' gg hg
    ·rw[mO e']at hm';exact hm'.elim
   ·rw[mO e]at hm;exact hm.elim
  ·obtain⟨hk,hh⟩:=c0 k _ hh (by simp);have hin:=hH k hk;rw[hh]at hin;rcases R.nst k _ _ _ hh with hn|⟨gb,cap,cur,hv,_,q1,q2,q3,q4,q5,q6⟩
   ·exact .inl hn
   ·exact .inr ⟨gb,cap,cur,hv,.inr (by rw[hM1];exact⟨k,hk,by rw[hh];trivial,by rw[hv];rfl⟩),q1,q2,q3,q4,yc.Z7 gs (fun k hk=>⟨jV hk,rfl⟩) hin q5,q6⟩
  ·obtain⟨hk,hh⟩:=c0 k _ hh (by simp);exact R.mrk k B hh
  ·obtain⟨hk,hh⟩:=c0 k _ hh (by simp);have:=hH k hk;rw[hh]at this;exact this.elim
 obtain⟨-,hcall⟩:=hc;have hv0:jg w (DD (Cj ks H2) β X) (Cj ks H2) β avs vs:=by
  clear hcall hZ
  induction hv with
  | nil=>exact .nil
  | @cons x v xs us hx _ ih=>exact .cons ((a7f x (by simp)).rep gs (fun k hk=>⟨jV hk,rfl⟩) hx) (ih fun y hy=>a7f y (by simp[hy]))
 refine nG.mono (hcall _ _ _ _ _ _ _ _ _ _ R0 hv0) ?_;rintro v w' ⟨x,H1,β1,hz,R1,hx⟩;obtain⟨b0V,hcl⟩:=hZ x H1 hz;obtain⟨β',Z8⟩:∃ β':Nat→Value,β'=fun k=>if k∈ks then β1 k else β k:=⟨_,rfl⟩
 obtain⟨H',hH'⟩:∃ H':Hp,H'=bU (ks.map fun k=>(k,H1 k)) H2:=⟨_,rfl⟩;have hi:∀ k,k∈ks→H' k=H1 k∧β' k=β1 k:=fun k hk=>by rw[hH',Z8,jf];simp[hk]
 have oo:∀ k,k∉ks→H' k=H2 k∧β' k=β k:=fun k hk=>by rw[hH',Z8,jf];simp[hk]
 refine⟨x,_,β',⟨H1,hz,rfl⟩,?_⟩;rw[← hH'];have MD:∀ b,M1 b→DD H2 β D0 b∧b<w.heap.size∧(w0.heap.size≤b∨M b):=fun b hb=>by
  rw[hM1]at hb;obtain⟨k,_,hm,hh⟩:=hb;exact⟨.inr ⟨k,hm,hh⟩,(R.iD hm hh).1,(R.iD hm hh).2⟩
 have ownB:∀ b,w.heap.size≤b∨M1 b→w0.heap.size≤b∨M b:=fun b h=>h.elim (fun h=>.inl (Nat.le_trans R.size h)) fun h=>(MD b h).2.2
 have hd1:∀ b,DD H' β' D0 b→DD H1 β1 X b:=by
  rintro b (h|⟨k,hm,hk⟩)
  ·exact .inl (by rw[hX];exact .inl h)
  ·by_cases e:k∈ks
   ·rw[(hi k e).1]at hm;rw[(hi k e).2]at hk;exact .inr ⟨k,hm,hk⟩
   ·rw[(oo k e).1]at hm;rw[(oo k e).2]at hk;exact .inl (by rw[hX];exact .inr ⟨k,e,hm,hk⟩)
 have g:bD w (DD H2 β D0) w' (DD H' β' D0):=by
  refine⟨R1.size,fun b hb h=>?_,fun b hb h _=>R1.keep b hb fun m=>h (MD b m).1⟩;rcases hd1 b h with h|⟨u,hm,hk⟩
  ·rw[hX]at h;rcases h with h|⟨k,_,hm,hk⟩
   ·exact .inl h
   ·exact .inr ⟨k,hm,hk⟩
  ·rcases (R1.iD hm hk).2 with h|h
   ·omega
   ·exact(MD b h).1
 have gl:bD w' (DD H1 β1 X) w' (DD H' β' D0):=bD.of_sub hd1;have hs:gI H2 β H' β':=fun k=>by
  by_cases e:k∈ks
  ·obtain⟨t,ht,he⟩:=List.getElem_of_mem e;have h0:=R1.tmps t;have e0:ks[t]?=some k:=by rw[List.getElem?_eq_getElem ht,he]
   simp only[e0,aj]at h0;rw[(hi k e).1,(hi k e).2];rcases Nat.lt_or_eq_of_le h0.1 with h1|h1
   ·exact .inr h1
   ·have:=h0.2 h1;refine .inl ⟨h1.symm,(hcl k e).2,?_⟩;rw[← this];simp[Array.getD_eq_getD_getElem?,e0]
  ·left;rw[(oo k e).1,(oo k e).2];exact⟨rfl,rfl,rfl⟩
 have a1d:∀ k b,k∉ks→(H2 k).bV→aG (β k)=some b→¬M1 b∧w'.heap[b]?=w.heap[b]?:=fun k b hk hm hh=>by
  have nm:¬M1 b:=fun m=>by
   rw[hM1]at m;obtain⟨k',hk',hm',hh'⟩:=m;exact R.dis k k' (fun e=>hk (by rw[e];exact hk')) hm hm' b hh hh'
  exact⟨nm,R1.keep b (R.iD hm hh).1 nm⟩
 refine⟨?_,b0V.rep gl hi hx⟩;refine⟨R1.os.trans R.os,R1.tape.trans R.tape,R1.output.trans R.output,Nat.le_trans R.size R1.size,fun k hk hm=>?_,R.old,R.kW,fun d hd=>?_,R.rnd,R.Lh,fun x v h=>aj.mono g hs _ _ (R.gh x v h),fun t=>aj.mono g hs _ _ (R.tmps t),fun k st e sz rows hh=>?_,fun k st e sz rows hh=>?_,fun k k' hne hm hm' gg hg hg'=>?_,fun k st e rows hh=>?_,fun k B hh=>?_,fun k x v hh=>?_⟩
 ·have hlt:k<w.heap.size:=Nat.lt_of_lt_of_le hk R.size;rw[R1.keep k hlt fun m=>((MD k m).2.2).elim (fun h=>by omega) hm];exact R.keep k hk hm
 ·obtain⟨k,e1,e2,e3⟩:=R.defers d hd;have hlt:k<w.heap.size:=(Array.getElem?_eq_some_iff.1 e3).1;refine⟨k,e1,e2,?_⟩;rw[R1.keep k hlt fun m=>?_]
  ·exact e3
  ·rw[hM1]at m;obtain⟨k',_,hm',hh'⟩:=m;obtain⟨cur,ee,hc⟩:=R.Ll hm' hh';rw[hc]at e3;cases e3
 ·by_cases e':k∈ks
  ·rw[(hi k e').1]at hh;rw[(hi k e').2];have:=(R1.own k _ _ _ _ hh).mono gl fun _ _=>rfl
   refine⟨this.1,this.2.imp id ?_⟩;rintro⟨gb,cap,cur,hv,hB',rest⟩;exact⟨gb,cap,cur,hv,ownB gb hB',rest⟩
  ·rw[(oo k e').1]at hh;rw[(oo k e').2];exact(R.own k _ _ _ _ hh).mono g fun b hb'=>(a1d k b e' (by rw[hh];trivial) hb').2
 ·by_cases e':k∈ks
  ·rw[(hi k e').1]at hh;have:=(hcl k e').1;rw[hh]at this;exact this.elim
  ·rw[(oo k e').1]at hh;rw[(oo k e').2];have:=R.frz k _ _ _ _ hh;exact⟨this.1,this.2.1.mono g,this.2.2⟩
 ·by_cases e1:k∈ks
  ·rw[(hi k e1).1]at hm;rw[(hi k e1).2]at hg;by_cases e2:k'∈ks
   ·rw[(hi k' e2).1]at hm';rw[(hi k' e2).2]at hg';exact R1.dis _ _ hne hm hm' gg hg hg'
   ·rw[(oo k' e2).1]at hm';rw[(oo k' e2).2]at hg';rcases (R1.iD hm hg).2 with h|h
    ·have:=(R.iD hm' hg').1;omega
    ·exact(a1d k' gg e2 hm' hg').1 h
  ·rw[(oo k e1).1]at hm;rw[(oo k e1).2]at hg;by_cases e2:k'∈ks
   ·rw[(hi k' e2).1]at hm';rw[(hi k' e2).2]at hg';rcases (R1.iD hm' hg').2 with h|h
    ·have:=(R.iD hm hg).1;omega
    ·exact(a1d k gg e1 hm hg).1 h
   ·rw[(oo k' e2).1]at hm';rw[(oo k' e2).2]at hg';exact R.dis k k' hne hm hm' gg hg hg'
 ·by_cases e':k∈ks
  ·have hin:=(hcl k e').1;rw[(hi k e').1]at hh;rw[hh]at hin;rw[(hi k e').2];rcases R1.nst k _ _ _ hh with hn'|⟨gb,cap,cur,hv,hB',p1,p2,p3,p4,p5,p6⟩
   ·exact .inl hn'
   ·exact .inr ⟨gb,cap,cur,hv,ownB gb hB',p1,p2,p3,p4,yc.Z7 gl hi hin p5,p6⟩
  ·rw[(oo k e').1]at hh;rw[(oo k e').2];exact(R.nst k _ _ _ hh).mono g hs fun b hb'=>(a1d k b e' (by rw[hh];trivial) hb').2
 ·by_cases e':k∈ks
  ·rw[(hi k e').1]at hh;exact R1.mrk k B hh
  ·rw[(oo k e').1]at hh;exact Nat.le_trans (R.mrk k B hh) R1.size
 ·by_cases e':k∈ks
  ·have hin:=(hcl k e').1;rw[(hi k e').1]at hh;rw[hh]at hin;exact hin.elim
  ·rw[(oo k e').1]at hh;exact aj.mono g hs _ _ (R.tie k x v hh)
end
end Go.AL

namespace Go.AL
variable {zi:Zi}
open Go.RowKit
set_option linter.unusedSimpArgs false
set_option linter.unusedVariables false
def a5J (E:Nat)(f:Fr)(H:Hp)(rows:List (List IV))(b:Option (Nat×Nat)):Prop :=
 (b=none→rows=[])∧∀ g cap,b=some (g,cap)→g<E∧g∉bf rows∧(∀ u x,f u=.iv x→g∉x.ids)∧(∀ u cs,f u=.agg cs→g∉gX cs)∧(∀ u fz st e sz rows,H u=.blk fz st e sz rows→g∉bf rows)∧∀ u st e rows,H u=.nst st e rows→∀ x,AV.iv x∈rows→g∉x.ids
inductive a5I (T:Fr→Hp→Prop):Fr→Hp→Prop
 | done {f:Fr} {H:Hp} (h:T f H):a5I T f H
 | opn {f:Fr} {H:Hp} (t h st e sz:Nat) (rows:List (List IV)) (B:Nat) (ht:f t=.hs h st) (hH:H h=.blk false st e sz rows) (hB:H 999=.mrk B)
   (k:∀ b E,B≤E→a5J E f H rows b→a5I T (upd f t (.iv (.own b e sz rows))) (bg (bg H h (.blk true st e sz rows)) 999 (.mrk E))):a5I T f H
section
variable {G:Gh} {M:Nat→Prop} {w0:World} {D0:Nat→Prop} {N:Nat} {P:Program} {f:Fr} {H:Hp} {β:Nat→Value} {a:Act} {w:World}
theorem Rel.a9x {f:Fr}{H:Hp}{T:Fr→Hp→Prop}(k:a5I T f H):∀ {β:Nat→Value} {a:Act} {w:World},Rel G M w0 D0 N f H β a w→∃ f' H' β',T f' H'∧Rel G M w0 D0 N f' H' β' a w:=by
 induction k with
 | done h=>exact fun R=>⟨_,_,_,h,R⟩
 | opn t h st e sz rows B hf hH hB k ih =>
  rename_i f H;intro β a w R;have hx:=R.tmps t;rw[hf]at hx;simp only[aj]at hx;have hv:a.tmps.getD t Go.undef=β h:=hx.2 (by rw[hH];rfl);have ho:=R.own h _ _ _ _ hH;have zL:(H h).bV:=by rw[hH];trivial
  have hne:(999:Nat)≠h:=fun e=>by rw[e,hH]at hB;cases hB
  have ht:t<N:=R.o7 (t:=t) (fun v hv'=>by
   rw[hv]at hv';subst hv';rcases ho.2 with ⟨_,e⟩|⟨g,cap,cur,e,_⟩<;>rw[e]<;>(intro h;cases h))
  have hsub:∀ b,DD (bg H h (.blk true st e sz rows)) β D0 b→DD H β D0 b:=by
   rintro b (hb|⟨u,hm,hk⟩)
   ·exact .inl hb
   ·by_cases e:u=h
    ·subst e;rw[au]at hm;exact hm.elim
    ·rw[ak _ _ e]at hm;exact .inr ⟨u,hm,hk⟩
  have hn:∀ g,aG (β h)=some g→¬DD (bg H h (.blk true st e sz rows)) β D0 g:=by
   rintro g hg (hb|⟨u,hm,hk⟩)
   ·have h1:=R.old g hb;rcases DD.head R zL hg with h2|h2
    ·omega
    ·exact h1.2 h2
   ·by_cases e:u=h
    ·subst e;rw[au]at hm;exact hm.elim
    ·rw[ak _ _ e]at hm;exact R.dis u h e hm zL g hk hg
  have R1:=R.freeze h;rw[hH]at R1;simp only[HC.frz]at R1;obtain⟨b,hrep,hb0,hbg⟩:=ho.Ol hsub hn;have R2:=R1.Fp (h:=999) (B:=B) (E:=w.heap.size) (by rw[ak _ _ hne];exact hB) (Nat.le_refl _);have hsub2:∀ b,DD (bg (bg H h (.blk true st e sz rows)) 999 (.mrk w.heap.size)) β D0 b→DD (bg H h (.blk true st e sz rows)) β D0 b:=by
   rintro b (hb|⟨u,hm,hk⟩)
   ·exact .inl hb
   ·by_cases e:u=999
    ·subst e;rw[au]at hm;exact hm.elim
    ·rw[ak _ _ e]at hm;exact .inr ⟨u,hm,hk⟩
  have R3:=R2.value (dst:=some t) (v:=.iv (.own b e sz rows)) (val:=a.tmps.getD t Go.undef) (by simp only[aj];rw[hv];exact hrep.mono (bD.of_sub hsub2)) (by rintro _ ⟨⟩;exact ht);rw[R.nX ht rfl]at R3;refine ih b w.heap.size (R.mrk _ _ hB) ⟨hb0,fun g cap hg=>?_⟩ R3;have hgh:=hbg g cap hg;have hDg:DD H β D0 g:=.inr ⟨h,zL,hgh⟩;have hlt:=R.iD zL hgh;have LQ:∀ {xs:List IV} {vs:List Value},dI w (DD H β D0) xs vs→g∉gX xs:=fun hr hm=>(hr.ids g hm).1 hDg
  have hrows:∀ (u:Nat) (fz:Bool) (st e sz:Nat) (rows:List (List IV)),H u=.blk fz st e sz rows→g∉bf rows:=fun u fz st e sz rows hu hm=>by
   cases fz with
   | false =>
    rcases (R.own u _ _ _ _ hu).2 with ⟨hr,_⟩|⟨g',cap',cur,_,_,_,_,_,_,hr⟩
    ·rw[hr]at hm;simp[bf]at hm
    ·rw[← iH]at hm;exact LQ hr hm
   | true=>exact((R.frz u _ _ _ _ hu).2.1.ids g hm).1 hDg
  refine⟨hlt.1,hrows h _ _ _ _ _ hH,fun u x hu hm=>?_,fun u cs hu hm=>?_,hrows,fun u st e rows hu x hx hm=>?_⟩
  ·have:=R.tmps u;rw[hu]at this;simp only[aj]at this;exact(this.ids g hm).1 hDg
  ·have:=R.tmps u;rw[hu]at this;simp only[aj]at this;obtain⟨vs,_,hr⟩:=this;exact LQ hr hm
  ·rcases R.nst u _ _ _ hu with ⟨hr,_⟩|⟨g',cap',cur,_,_,_,_,_,_,hr,_⟩
   ·rw[hr]at hx;cases hx
   ·obtain⟨v,hv⟩:=hr.a8N hx;simp only[aj]at hv;exact(hv.ids g hm).1 hDg
def AWj [Zi] (P:Program):Nat→Code→Post→Fr→Hp→Prop
 | 0,c,Q,f,H=>a5I (AW P c Q) f H
 | n+1,.seq x y,Q,f,H=>AW P x (JA (AWj P n y Q) Q) f H
 | _,_,_,_,_=>False
@[congr] theorem a7H {n:Nat} {c:Code} {Q:Post} {f f':Fr} {H H':Hp} (hf:f=f') (hH:H=H'):AWj P n c Q f H=AWj P n c Q f' H':=by rw[hf,hH]
@[congr] theorem a6e {T:Fr→Hp→Prop} {f f':Fr} {H H':Hp} (hf:f=f') (hH:H=H'):a5I T f H=a5I T f' H':=by rw[hf,hH]
theorem Yq (hm:P.follows .mixedOrders=true):∀ (n:Nat) (c:Code) (Q:Post) (f:Fr) (H:Hp) (β:Nat→Value) (a:Act) (w:World),dF c=true→codeOk N c=true→AWj P n c Q f H→Rel G M w0 D0 N f H β a w→c.wpIn (Wd none) 0 P (Conc G M w0 D0 N Q) a w
 | 0,c,Q,f,H,β,a,w,hr,hd,h,R=>by
  obtain⟨f',H',β',h',R'⟩:=Rel.a9x h R;exact dN hm c none G _ w0 Q f' H' β' a w (.inl hr) hd h' R'
 | n+1,.seq x y,Q,f,H,β,a,w,hr,hd,h,R=>by
  simp only[codeOk,Bool.and_eq_true]at hd;simp only[dF,Bool.and_eq_true]at hr;refine wpIn_seq (wpIn_mono (dN hm x none G _ w0 _ f H β a w (.inl hr.1) hd.1 h R) fun e a w hq=>?_);cases e with
  | normal=>obtain⟨f,H,β,hk,R⟩:=hq;exact Yq hm n y Q f H β a w hr.2 hd.2 hk R
  | panic _=>exact hq.elim
  | outgrown=>exact hq.elim
  | exit id=>obtain⟨f,H,β,hk,R⟩:=hq;exact⟨f,H,β,hk,R⟩
  | ret=>obtain⟨f,H,β,hk,R⟩:=hq;exact⟨f,H,β,hk,R⟩
  | goto l=>obtain⟨f,H,β,hk,R⟩:=hq;exact⟨f,H,β,hk,R⟩
 | n+1,.skip,Q,f,H,β,a,w,hr,hd,h,R=>h.elim
end
end Go.AL

namespace Go.AL
variable {zi:Zi}
open Go.RowKit
set_option linter.unusedSimpArgs false
set_option linter.unusedVariables false
section
variable {G:Gh} {M:Nat→Prop} {w0:World} {D0:Nat→Prop} {N:Nat} {P:Program} {f:Fr} {H:Hp} {β:Nat→Value} {a:Act} {w:World}
theorem Rel.a7R (R:Rel G M w0 D0 N f H β a w){k:Nat}{c:HC}{v:Value}(hk:H k=.none)(hc:(∃ st sz,c=.gone (st+1) sz)∨∃ x u,c=.tie x u∧v=β k∧aj w (DD H β D0) H β x u):Rel G M w0 D0 N f (bg H k c) (fun u=>if u=k then v else β u) a w:=by
 have hm:∀ u,(bg H k c u).bV→(H u).bV∧u≠k:=fun u=>by
  by_cases e:u=k
  ·subst e;rw[au];rcases hc with ⟨st,sz,rfl⟩|⟨x,u,rfl,_⟩<;>exact False.elim
  ·rw[ak _ _ e];exact fun h=>⟨h,e⟩
 have hb:∀ u,u≠k→(if u=k then v else β u)=β u:=fun u e=>if_neg e
 have hDD:∀ b,DD (bg H k c) (fun u=>if u=k then v else β u) D0 b→DD H β D0 b:=by
  rintro b (hb'|⟨u,hu,hh⟩)
  ·exact .inl hb'
  ·obtain⟨h1,h2⟩:=hm u hu;simp only[hb u h2]at hh;exact .inr ⟨u,h1,hh⟩
 have g:=bD.of_sub (w:=w) hDD;have s:gI H β (bg H k c) (fun u=>if u=k then v else β u):=fun u=>by
  by_cases e:u=k
  ·subst e;rw[au,hk];rcases hc with ⟨st,sz,rfl⟩|⟨x,q,rfl,hv,_⟩
   ·exact .inr (by simp[HC.stamp])
   ·exact .inl ⟨rfl,rfl,by simp[hv]⟩
  ·exact .inl ⟨by rw[ak _ _ e],by rw[ak _ _ e],hb u e⟩
 have ne:∀ u d,bg H k c u=d→(∀ st sz,d≠.gone st sz)→(∀ x q,d≠.tie x q)→H u=d∧u≠k:=fun u d hu h1 h2=>by
  by_cases e:u=k
  ·subst e;rw[au]at hu;rcases hc with ⟨st,sz,rfl⟩|⟨x,q,rfl,_⟩
   ·exact(h1 _ _ hu.symm).elim
   ·exact(h2 _ _ hu.symm).elim
  ·rw[ak _ _ e]at hu;exact⟨hu,e⟩
 refine⟨R.os,R.tape,R.output,R.size,R.keep,R.old,R.kW,R.defers,R.rnd,R.Lh,fun x v h=>aj.mono g s _ _ (R.gh x v h),fun t=>aj.mono g s _ _ (R.tmps t),fun u st e sz rows hu=>?_,fun u st e sz rows hu=>?_,fun u u' hne h1 h2 gg hg=>?_,fun u st e rows hu=>?_,fun u B hu=>?_,fun u x q hu=>?_⟩
 ·obtain⟨h1,h2⟩:=ne u _ hu (by simp) (by simp);simp only[hb u h2];exact(R.own u _ _ _ _ h1).mono g fun _ _=>rfl
 ·obtain⟨h1,h2⟩:=ne u _ hu (by simp) (by simp);simp only[hb u h2];exact⟨(R.frz u _ _ _ _ h1).1,(R.frz u _ _ _ _ h1).2.1.mono g,(R.frz u _ _ _ _ h1).2.2⟩
 ·obtain⟨m1,n1⟩:=hm u h1;obtain⟨m2,n2⟩:=hm u' h2;simp only[hb u n1]at hg;simp only[hb u' n2];exact R.dis u u' hne m1 m2 gg hg
 ·obtain⟨h1,h2⟩:=ne u _ hu (by simp) (by simp);simp only[hb u h2];exact(R.nst u _ _ _ h1).mono g s fun _ _=>rfl
 ·obtain⟨h1,h2⟩:=ne u _ hu (by simp) (by simp);exact R.mrk u B h1
 ·by_cases e:u=k
  ·subst e;rw[au]at hu;rcases hc with ⟨st,sz,rfl⟩|⟨x',q',rfl,_,hr⟩
   ·cases hu
   ·cases hu;exact aj.mono g s _ _ hr
  ·rw[ak _ _ e]at hu;exact aj.mono g s _ _ (R.tie u x q hu)
def Anch (h j:Nat)(v:Value)(H:Hp):Prop:=H j=.gone 1 1∧H (j+1)=.tie (.hs j 1) v∧H (j+2)=.tie (.hs h 1) v
theorem a5x {h j i o:Nat}{v u:Value}(R:Rel G M w0 D0 N f H β a w)(ha:Anch h j v H)(hs:(H h).stamp=1)(he:(H h).esz=1)(hu:aj w (DD H β D0) H β (.hp j 1 i o) u):aj w (DD H β D0) H β (.hp h 1 i o) u:=by
 obtain⟨h1,h2,h3⟩:=ha;have t1:=R.tie _ _ _ h2;have t2:=R.tie _ _ _ h3;simp only[aj]at t1 t2 hu ⊢;have e1:=t1.2 (by rw[h1];rfl);have e2:=t2.2 hs.symm;obtain⟨g,n,cap,q1,q2⟩:=hu.2 (by rw[h1];rfl);refine⟨by omega,fun _=>⟨g,n,cap,by rw[← e2,e1];exact q1,?_⟩⟩;rw[q2,h1,he];rfl
theorem ACF.anchor {g h j i o:Nat}{v:Value}{avs:List AV}{rd:List Nat}{R:AV→List (Nat×HC)→Prop}(hc:ACF P g (.hp h 1 i o::avs) H rd R)(ha:Anch h j v H)(hr:h∈rd)(hs:(H h).stamp=1)(he:(H h).esz=1):ACF P g (.hp j 1 i o::avs) H (j::(j+1)::(j+2)::rd) R:=by
 refine⟨hc.1,fun H2 hag G M w0 D0 N f β a w vs R0 hv=>?_⟩;obtain⟨h1,h2,h3⟩:=ha;have ha2:Anch h j v H2:=⟨by rw[hag j (by simp)];exact h1,by rw[hag (j+1) (by simp)];exact h2,by rw[hag (j+2) (by simp)];exact h3⟩;have hh:=hag h (by simp[hr]);cases hv with
 | cons hx hxs=>exact hc.2 H2 (fun k hk=>hag k (by simp[hk])) G M w0 D0 N f β a w _ R0 (.cons (a5x R0 ha2 (by rw[hh];exact hs) (by rw[hh];exact he) hx) hxs)
theorem ACI.anchor {g h j i o:Nat}{avs:List AV}{Z:AV→Hp→Prop}(hj:H j=.none∧H (j+1)=.none∧H (j+2)=.none)(hs:(H h).stamp=1)(he:(H h).esz=1)(hne:h≠j∧h≠j+1∧h≠j+2)(a7f:∀ x∈avs,yc (fun k=>k≠j∧k≠j+1∧k≠j+2) x)
  (hc:∀ v H',Anch h j v H'→(∀ k,k≠j→k≠j+1→k≠j+2→H' k=H k)→ACI P g (.hp j 1 i o::avs) H' Z):ACI P g (.hp h 1 i o::avs) H Z:=by
 obtain⟨e1,e2,e3⟩:=hj;have hH':∀ v,Anch h j v (bg (bg (bg H j (.gone 1 1)) (j+1) (.tie (.hs j 1) v)) (j+2) (.tie (.hs h 1) v)):=fun v=>⟨by rw[ak _ _ (by omega),ak _ _ (by omega),au],by rw[ak _ _ (by omega),au],au _ _ _⟩
 have ho:∀ v k,k≠j→k≠j+1→k≠j+2→bg (bg (bg H j (.gone 1 1)) (j+1) (.tie (.hs j 1) v)) (j+2) (.tie (.hs h 1) v) k=H k:=fun v k a b c=>by rw[ak _ _ c,ak _ _ b,ak _ _ a]
 refine⟨(hc default _ (hH' default) (ho default)).1,fun G M w0 D0 N f β a w vs R hv=>?_⟩;have R1:=R.a7R (k:=j) (c:=.gone 1 1) (v:=β h) e1 (.inl ⟨0,1,rfl⟩);have hst:bg H j (.gone 1 1) h=H h:=ak _ _ hne.1;have R2:=R1.a7R (k:=j+1) (c:=.tie (.hs j 1) (β h)) (v:=if j+1=j then β h else β (j+1)) (by rw[ak _ _ (by omega)];exact e2) (.inr ⟨_,_,rfl,rfl,by simp only[aj];rw[au];exact⟨Nat.le_refl _,fun _=>by simp⟩⟩);have R3:=R2.a7R (k:=j+2) (c:=.tie (.hs h 1) (β h)) (v:=(fun u=>if u=j+1 then (if j+1=j then β h else β (j+1)) else if u=j then β h else β u) (j+2)) (by rw[ak _ _ (by omega),ak _ _ (by omega)];exact e3) (.inr ⟨_,_,rfl,rfl,by
  simp only[aj];rw[ak _ _ hne.2.1,hst];exact⟨by omega,fun _=>by simp[hne.1,hne.2.1]⟩⟩)
 have hcc:=(hc (β h) _ (hH' (β h)) (ho (β h))).2;cases hv with
 | @cons x v xs us hx hxs =>
  refine hcc G M w0 D0 N f _ a w (v::us) R3 (.cons ?_ ?_)
  ·simp only[aj]at hx ⊢;obtain⟨gg,n,cap,q1,q2⟩:=hx.2 hs.symm;rw[(hH' (β h)).1];refine⟨Nat.le_refl _,fun _=>⟨gg,n,cap,?_,?_⟩⟩
   ·simp[show j≠j+2 by omega];exact q1
   ·rw[q2,he];rfl
  ·have hsame:∀ k,(k≠j∧k≠j+1∧k≠j+2)→bg (bg (bg H j (.gone 1 1)) (j+1) (.tie (.hs j 1) (β h))) (j+2) (.tie (.hs h 1) (β h)) k=H k∧(fun u=>if u=j+2 then (fun u=>if u=j+1 then (if j+1=j then β h else β (j+1)) else if u=j then β h else β u) (j+2) else (fun u=>if u=j+1 then (if j+1=j then β h else β (j+1)) else (fun u=>if u=j then β h else β u) u) u) k=β k:=fun k hk=>⟨ho _ k hk.1 hk.2.1 hk.2.2,by simp[hk.1,hk.2.1,hk.2.2]⟩
   have hg:bD w (DD H β D0) w (DD (bg (bg (bg H j (.gone 1 1)) (j+1) (.tie (.hs j 1) (β h))) (j+2) (.tie (.hs h 1) (β h))) (fun u=>if u=j+2 then (fun u=>if u=j+1 then (if j+1=j then β h else β (j+1)) else if u=j then β h else β u) (j+2) else (fun u=>if u=j+1 then (if j+1=j then β h else β (j+1)) else (fun u=>if u=j then β h else β u) u) u) D0):=bD.of_sub fun b hb=>by
    rcases hb with hb|⟨k,hm,hk⟩
    ·exact .inl hb
    ·by_cases a1:k=j
     ·subst a1;rw[(hH' (β h)).1]at hm;exact hm.elim
     ·by_cases a2:k=j+1
      ·subst a2;rw[(hH' (β h)).2.1]at hm;exact hm.elim
      ·by_cases a3:k=j+2
       ·subst a3;rw[(hH' (β h)).2.2]at hm;exact hm.elim
       ·rw[(hsame k ⟨a1,a2,a3⟩).1]at hm;rw[(hsame k ⟨a1,a2,a3⟩).2]at hk;exact .inr ⟨k,hm,hk⟩
   clear hx hcc hc
   induction hxs with
   | nil=>exact .nil
   | @cons y u ys us' hy _ ih=>exact .cons ((a7f y (by simp)).rep hg hsame hy) (ih fun z hz=>a7f z (by simp[hz]))
end
end Go.AL

namespace Go.AL
variable {zi:Zi}
open Go.RowKit
set_option linter.unusedSimpArgs false
set_option linter.unusedVariables false
section
variable {P:Program} {H:Hp}
theorem ACF.frz2 {g h st e sz:Nat}{rows:List (List IV)}{x:AV}{rd:List Nat}{R:AV→List (Nat×HC)→Prop}(hc:ACF P g [x,.iv (.sl rows)] H rd R)(hH:H h=.blk false st e sz rows)(hn:h∉rd):ACF P g [x,.hs h st] H (h::rd) (fun y hs=>∃ hs',R y hs'∧hs=(h,.blk true st e sz rows)::hs'):=by
 refine⟨?_,fun H2 hag G M w0 D0 N f β a w vs R0 hv=>?_⟩
 ·obtain⟨y,hs,h⟩:=hc.1;exact⟨y,_,hs,h,rfl⟩
 have hh:H2 h=.blk false st e sz rows:=(hag h (by simp)).trans hH;have R1:=R0.freeze h;rw[hh]at R1;simp only[HC.frz]at R1;have s:gI H2 β (bg H2 h (.blk true st e sz rows)) β:=fun u=>by
  by_cases e:u=h
  ·subst e;left;rw[au,hh];exact⟨rfl,rfl,rfl⟩
  ·left;rw[ak _ _ e];exact⟨rfl,rfl,rfl⟩
 have g1:bD w (DD H2 β D0) w (DD (bg H2 h (.blk true st e sz rows)) β D0):=bD.of_sub fun b hb=>by
  rcases hb with hb|⟨u,hm,hk⟩
  ·exact .inl hb
  ·by_cases e:u=h
   ·subst e;rw[au]at hm;exact hm.elim
   ·rw[ak _ _ e]at hm;exact .inr ⟨u,hm,hk⟩
 cases hv with
 | @cons _ v _ us hx hxs =>
  cases hxs with
  | @cons _ u _ us' hy hys =>
   cases hys;have hu:u=β h:=by simp only[aj]at hy;exact hy.2 (by rw[hh];rfl)
   have hr:=R1.frz h _ _ _ _ (au _ _ _);have hcall:=hc.2 (bg H2 h (.blk true st e sz rows)) (fun k hk=>by rw[ak _ _ (fun e=>hn (by rw[← e];exact hk))];exact hag k (by simp[hk])) G M w0 D0 N f β a w [v,u] R1 (.cons (aj.mono g1 s _ _ hx) (.cons (by simp only[aj];rw[hu];exact hr.2.1) .nil));exact hcall.mono fun y w' ⟨z,hs,β',h1,h2,h3⟩=>⟨z,_,β',⟨hs,h1,rfl⟩,h2,h3⟩
end
end Go.AL

namespace Go.AL
variable {zi:Zi}
open Go.RowKit
set_option linter.unusedSimpArgs false
set_option linter.unusedVariables false
abbrev a7z (w0:World)(D0:Nat→Prop)(N:Nat)(f:Fr)(H:Hp)(β:Nat→Value)(a:Act)(w:World):Prop:=Rel ⟨fun _ _=>False,true⟩ (fun _=>False) w0 D0 N f H β a w
def SW (P:Program)(L N:Nat)(c:Code)(Q:Post)(f:Fr)(H:Hp):Prop :=
 ∀ (w0:World) (D0:Nat→Prop) (β:Nat→Value) (a:Act) (w:World),w0.heap.size≤L→a7z w0 D0 N f H β a w→c.wpIn (Wd none) 0 P (Conc ⟨fun _ _=>False,true⟩ (fun _=>False) w0 D0 N Q) a w
section
variable {P:Program} {L N:Nat} {Q:Post} {f:Fr} {H:Hp}
theorem SW.seq {x y:Code}{S:Fr→Hp→Prop}(hx:SW P L N x (JA S Q) f H)(hy:∀ f H,S f H→SW P L N y Q f H):SW P L N (.seq x y) Q f H:=fun w0 D0 β a w hL R=>by
 refine wpIn_seq (wpIn_mono (hx w0 D0 β a w hL R) fun e a w hq=>?_);cases e with
 | normal=>obtain⟨f,H,β,hk,R⟩:=hq;exact hy f H hk w0 D0 β a w hL R
 | panic _=>exact hq.elim
 | outgrown=>exact hq.elim
 | exit id=>obtain⟨f,H,β,hk,R⟩:=hq;exact⟨f,H,β,hk,R⟩
 | ret=>obtain⟨f,H,β,hk,R⟩:=hq;exact⟨f,H,β,hk,R⟩
 | goto l=>obtain⟨f,H,β,hk,R⟩:=hq;exact⟨f,H,β,hk,R⟩
end
end Go.AL

namespace Go.AL
variable {zi:Zi}
open Go.RowKit
set_option linter.unusedSimpArgs false
set_option linter.unusedVariables false
section
variable {P:Program} {G G':Gh} {M:Nat→Prop} {w0:World} {D0:Nat→Prop} {N:Nat} {f:Fr} {H:Hp} {β:Nat→Value} {a:Act} {w:World}
theorem Rel.a4N (R:Rel G' M w0 D0 N f H β a w)(h:∀ x v,G.vals x v→G'.vals x v)(hr:G'.rnd=G.rnd):Rel G M w0 D0 N f H β a w :=
 ⟨R.os,R.tape,R.output,R.size,R.keep,R.old,R.kW,R.defers,fun e=>R.rnd (hr.trans e),R.Lh,fun x v hx=>R.gh x v (h x v hx),R.tmps,R.own,R.frz,R.dis,R.nst,R.mrk,R.tie⟩
def Ap (G:Gh)(H:Hp)(β:Nat→Value):Gh:=⟨fun x v=>G.vals x v∨∃ k,(H k).bV∧x=.hs k (H k).stamp∧v=β k,G.rnd⟩
theorem Rel.Ap (R:Rel G M w0 D0 N f H β a w):Rel (Go.AL.Ap G H β) M w0 D0 N f H β a w :=
 ⟨R.os,R.tape,R.output,R.size,R.keep,R.old,R.kW,R.defers,R.rnd,R.Lh,fun x v hx=>by
  rcases hx with hx|⟨k,hk,rfl,rfl⟩
  ·exact R.gh x v hx
  ·simp only[aj];exact⟨Nat.le_refl _,fun _=>trivial⟩,R.tmps,R.own,R.frz,R.dis,R.nst,R.mrk,R.tie⟩
end
section
variable {P:Program}
theorem ACI.WX {g : Nat} {avs : List AV} {H : Hp} {Z : AV → Hp → Prop} {fn : Func} {body : Code} (hf : P.funcs[g]? = some fn) (hb : fn.body = some body) (hn : (fn.name == "runtime.NumGoroutine") = false)
  (hargs:avs.length≤fn.ntmps) (hne:∃ x H',Z x H') (hs:∀ (G:Gh) (M:Nat→Prop) (w0:World) (D0:Nat→Prop) (β:Nat→Value) (a:Act) (w:World),(∀ b,M b→∃ k,(H k).bV∧aG (β k)=some b)→(∀ k,(H k).bV→G.vals (.hs k (H k).stamp) (β k))→w0=w→Rel G M w0 D0 fn.ntmps (oZ avs) H β a w→body.wpIn (Wd none) 0 P (Conc G M w0 D0 fn.ntmps (a1P P fn.results.toList Z)) a w):ACI P g avs H Z:=by
 refine⟨hne,?_⟩;intro G M w0 D0 N f β a w vs R hall;refine Gn hf hb hn ?_;have hlen:avs.length=vs.length:=pR hall;have ht:∀ t,aj w (DD H β D0) H β (oZ avs t) ((vs.toArray++Array.replicate (fn.ntmps-vs.toArray.size) Go.undef).getD t Go.undef):=by
  intro t;have e:(vs.toArray++Array.replicate (fn.ntmps-vs.toArray.size) Go.undef).getD t Go.undef=(vs[t]?).getD Go.undef:=by
   rw[Array.getD_eq_getD_getElem?,Array.getElem?_append];split
   ·simp
   ·rename_i ht;simp only[List.size_toArray,Nat.not_lt]at ht;rw[List.getElem?_eq_none ht];simp only[Array.getElem?_replicate];split<;>rfl
  rw[e];have key:∀ (avs:List AV) (vs:List Value) (t:Nat),jg w (DD H β D0) H β avs vs→aj w (DD H β D0) H β ((avs[t]?).getD .undef) ((vs[t]?).getD Go.undef):=by
   intro avs
   induction avs with
   | nil=>intro vs t h;cases h;simp[aj]
   | cons x xs ih =>
    intro vs t h;cases h with
    | cons hx hxs =>
     cases t with
     | zero=>simpa using hx
     | succ t=>simpa using ih _ t hxs
  exact key avs vs t hall
 have R0:=R.enter (f0:=oZ avs) (a0:={ tmps:=vs.toArray++Array.replicate (fn.ntmps-vs.toArray.size) Go.undef,defers:=[] }) (N':=fn.ntmps) (by simp;omega) rfl ht;refine wpIn_mono (hs (Ap (G6 f a G) H β) _ _ _ _ _ _ (fun b hb=>hb) (fun k hk=>.inr ⟨k,hk,rfl,rfl⟩) rfl R0.Ap) fun e a' w' hq=>?_;have fin:∀ f1 H1 β1,(∃ c x,EK P f1 H1 fn.results.toList=some (c,x)∧c∧Z x H1)→Rel (G6 f a G) (Mut H β) w D0 fn.ntmps f1 H1 β1 a' w'→a'.defers=[]∧∃ us,(fn.results.toList.mapM (rvS a'.tmps)).run P w'=.ok us w'∧∃ x H' β',Z x H'∧Rel G M w0 D0 N f H' β' a w'∧aj w' (DD H' β' D0) H' β' x (oU us):=by
  rintro f1 H1 β1 ⟨c,x,hres,hc,hz⟩ R1;refine⟨R1.rnd rfl,?_⟩;have R2:=R.leave R1;unfold EK at hres;split at hres
  ·rename_i heq;injection hres with hres;injection hres with e1 e2;subst e2;rw[heq];exact⟨[],rfl,_,_,β1,hz,R2,by simp[aj]⟩
  ·rename_i t heq;injection hres with hres;injection hres with e1 e2;subst e2;rw[heq];exact⟨[a'.tmps.getD t Go.undef],by simp[List.mapM_cons,rvS],_,_,β1,hz,R2,R1.tmps t⟩
  ·rename_i t ty heq;split at hres
   ·rename_i r hr;injection hres with hres;injection hres with e1 e2;subst e1 e2;rw[heq];have hx:=R1.tmps t;obtain⟨_,_,u,hu,hrep⟩:=iw R1 hx hr hc;have:∃ ad,a'.tmps.getD t Go.undef=.pointer (some ad):=by
     cases hft:f1 t<;>rw[hft]at hx hr<;>simp only[pV,reduceCtorEq]at hr<;>simp only[aj]at hx
     ·obtain⟨g,o,h,_⟩:=hx;exact⟨_,h⟩
     ·rename_i h st i off;split at hr
      ·rename_i hH;have hst:st=(H1 h).stamp:=by
        rw[hH];simp only[HC.stamp];split at hr<;>(injection hr with hr;subst hr;exact hc.2.1)
       obtain⟨g,n,cap,_,h⟩:=hx.2 hst;exact⟨_,h⟩
      ·rename_i hH;have hst:st=(H1 h).stamp:=by
        rw[hH];simp only[HC.stamp];split at hr
        ·injection hr with hr;subst hr;exact hc.2.1
        ·split at hr
         ·injection hr with hr;subst hr;exact hc.2.1
         ·cases hr
       obtain⟨g,n,cap,_,h⟩:=hx.2 hst;exact⟨_,h⟩
      ·cases hr
    obtain⟨ad,had⟩:=this;rw[had]at hu;have hrun:(rvS a'.tmps (.cell t ty)).run P w'=.ok u w':=by
     simp only[rvS,had,asAddr,Sem.run_bind,Sem.run_pure,Result.andThen_ok];simpa [Instr.loadAt,Instr.sureAddr] using hu
    exact⟨[u],by simp[List.mapM_cons,hrun,Result.andThen],_,_,β1,hz,R2,hrep⟩
   ·cases hres
  ·cases hres
 cases e with
 | normal=>obtain⟨f1,H1,β1,hk,R1⟩:=hq;exact⟨.inl rfl,fin f1 H1 β1 hk (R1.a4N (fun x v h=>.inl h) rfl)⟩
 | ret=>obtain⟨f1,H1,β1,hk,R1⟩:=hq;exact⟨.inr rfl,fin f1 H1 β1 hk (R1.a4N (fun x v h=>.inl h) rfl)⟩
 | panic _=>exact hq.elim
 | outgrown=>exact hq.elim
 | exit id=>obtain⟨f1,H1,β1,hk,R1⟩:=hq;exact hk.elim
 | goto l=>obtain⟨f1,H1,β1,hk,R1⟩:=hq;exact hk.elim
end
inductive ND (H0:Hp) (B0:Nat) (T:Fr→Hp→Prop):Fr→Hp→Prop
 | done {f:Fr} {H:Hp} (h:T f H):ND H0 B0 T f H
 | low (h st e sz:Nat) (rows:List (List IV)) (key:Nat) {f:Fr} {H:Hp} (hH:H h=.blk false st e sz rows) (hst:∀ k,(H0 k).bV→k≠h∧(H k).stamp=(H0 k).stamp∧(H k).bV) (hk:H key=.none)
   (k:∀ v,(∀ g,aG v=some g→B0≤g)→ND H0 B0 T f (bg H key (.tie (.hs h st) v))):ND H0 B0 T f H
 | opn (t h st e sz:Nat) (rows:List (List IV)) (B:Nat) (key:Nat) (v:Value) {f:Fr} {H:Hp} (ht:f t=.hs h st) (hH:H h=.blk false st e sz rows) (hB:H 999=.mrk B) (hT:H key=.tie (.hs h st) v)
   (k:∀ b E,B≤E→a5J E f H rows b→(∀ g cap,b=some (g,cap)→aG v=some g)→ND H0 B0 T (upd f t (.iv (.own b e sz rows))) (bg (bg H h (.blk true st e sz rows)) 999 (.mrk E))):ND H0 B0 T f H
section
variable {P:Program} {G:Gh} {M:Nat→Prop} {w0:World} {D0:Nat→Prop} {N:Nat}
theorem Rel.b0N {H0:Hp}{β0:Nat→Value}{B0:Nat}(hG:∀ k,(H0 k).bV→G.vals (.hs k (H0 k).stamp) (β0 k))(hM:∀ b,M b→∃ k,(H0 k).bV∧aG (β0 k)=some b)(hB0:B0≤w0.heap.size){T:Fr→Hp→Prop}{f:Fr}{H:Hp}(k:ND H0 B0 T f H):∀ {β:Nat→Value} {a:Act} {w:World},Rel G M w0 D0 N f H β a w→∃ f' H' β',T f' H'∧Rel G M w0 D0 N f' H' β' a w:=by
 induction k with
 | done h=>exact fun R=>⟨_,_,_,h,R⟩
 | low h st e sz rows key hH hst hk k ih =>
  rename_i f H;intro β a w R;have ho:=R.own h _ _ _ _ hH;have hlow:∀ g,aG (β h)=some g→B0≤g:=fun g hg=>by
   rcases ho.2 with ⟨_,e⟩|⟨g',cap,cur,e,hw,_⟩
   ·rw[e]at hg;simp[aG]at hg
   ·have:g'=g:=by rw[e]at hg;simpa [aG] using hg
    subst this;rcases hw with hw|hw
    ·omega
    ·obtain⟨k,hm,hk⟩:=hM _ hw;obtain⟨n1,n2,n3⟩:=hst k hm;have hgv:=R.gh _ _ (hG k hm);simp only[aj]at hgv;rw[hgv.2 n2.symm]at hk;exact absurd hg (R.dis k h n1 n3 (by rw[hH];trivial) _ hk)
  have R1:=R.a7R (k:=key) (c:=.tie (.hs h st) (β h)) (v:=β key) hk (.inr ⟨_,_,rfl,rfl,by simp only[aj];rw[hH];exact⟨Nat.le_refl _,fun _=>trivial⟩⟩);exact ih (β h) hlow R1
 | opn t h st e sz rows B key v ht hH hB hT k ih =>
  rename_i f H;intro β a w R;have hx:=R.tmps t;rw[ht]at hx;simp only[aj]at hx;have hv:a.tmps.getD t Go.undef=β h:=hx.2 (by rw[hH];rfl);have hty:=R.tie _ _ _ hT;simp only[aj]at hty;have hvb:v=β h:=hty.2 (by rw[hH];rfl);obtain⟨f',H',β',⟨b,E,hE,hb,rfl,rfl⟩,R1⟩:=Rel.a9x (T:=fun f' H'=>∃ b E,B≤E∧a5J E f H rows b∧f'=upd f t (.iv (.own b e sz rows))∧H'=bg (bg H h (.blk true st e sz rows)) 999 (.mrk E)) (.opn t h st e sz rows B ht hH hB fun b E hE hb=>.done ⟨b,E,hE,hb,rfl,rfl⟩) R;refine ih b E hE hb (fun g cap eb=>?_) R1;have hx1:=R1.tmps t;rw[show upd f t (.iv (.own b e sz rows)) t=.iv (.own b e sz rows) from if_pos rfl]at hx1;simp only[aj]at hx1;rw[hv,eb]at hx1;rw[hvb];generalize β h=u at hx1;cases hx1;rfl
inductive Jp where
 | fin
 | opn (p:Jp)
 | par (p:Jp)
def AWp [Zi] (P:Program)(H0:Hp)(B0:Nat):Jp→Code→Post→Fr→Hp→Prop
 | .fin,c,Q,f,H=>AW P c Q f H
 | .opn p,c,Q,f,H=>ND H0 B0 (AWp P H0 B0 p c Q) f H
 | .par p,.seq x y,Q,f,H=>AW P x (JA (AWp P H0 B0 p y Q) Q) f H
 | _,_,_,_,_=>False
theorem ED {H0:Hp}{B0:Nat}{c:Code}{Q:Post}{f:Fr}{H:Hp}:AWp P H0 B0 .fin c Q f H=AW P c Q f H:=rfl
theorem sZ {H0:Hp}{B0:Nat}{p:Jp}{c:Code}{Q:Post}{f:Fr}{H:Hp}:AWp P H0 B0 (.opn p) c Q f H=ND H0 B0 (AWp P H0 B0 p c Q) f H:=rfl
theorem sV {H0:Hp}{B0:Nat}{p:Jp}{x y:Code}{Q:Post}{f:Fr}{H:Hp}:AWp P H0 B0 (.par p) (.seq x y) Q f H=AW P x (JA (AWp P H0 B0 p y Q) Q) f H:=rfl
@[congr] theorem a7G {H0:Hp} {B0:Nat} {p:Jp} {c:Code} {Q:Post} {f f':Fr} {H H':Hp} (hf:f=f') (hH:H=H'):AWp P H0 B0 p c Q f H=AWp P H0 B0 p c Q f' H':=by rw[hf,hH]
@[congr] theorem a6d {H0:Hp} {B0:Nat} {T:Fr→Hp→Prop} {f f':Fr} {H H':Hp} (hf:f=f') (hH:H=H'):ND H0 B0 T f H=ND H0 B0 T f' H':=by rw[hf,hH]
theorem Ej (hm:P.follows .mixedOrders=true){H0:Hp}{β0:Nat→Value}{B0:Nat}(hG:∀ k,(H0 k).bV→G.vals (.hs k (H0 k).stamp) (β0 k))(hM:∀ b,M b→∃ k,(H0 k).bV∧aG (β0 k)=some b)(hB0:B0≤w0.heap.size):∀ (p:Jp) (c:Code) (Q:Post) (f:Fr) (H:Hp) (β:Nat→Value) (a:Act) (w:World),dF c=true→codeOk N c=true→AWp P H0 B0 p c Q f H→Rel G M w0 D0 N f H β a w→c.wpIn (Wd none) 0 P (Conc G M w0 D0 N Q) a w
 | .fin,c,Q,f,H,β,a,w,hr,hd,h,R=>dN hm c none G _ w0 Q f H β a w (.inl hr) hd h R
 | .opn p,c,Q,f,H,β,a,w,hr,hd,h,R=>by
  obtain⟨f',H',β',h',R'⟩:=Rel.b0N hG hM hB0 h R;exact Ej hm hG hM hB0 p c Q f' H' β' a w hr hd h' R'
 | .par p,.seq x y,Q,f,H,β,a,w,hr,hd,h,R=>by
  simp only[codeOk,Bool.and_eq_true]at hd;simp only[dF,Bool.and_eq_true]at hr;refine wpIn_seq (wpIn_mono (dN hm x none G _ w0 _ f H β a w (.inl hr.1) hd.1 h R) fun e a w hq=>?_);cases e with
  | normal=>obtain⟨f,H,β,hk,R⟩:=hq;exact Ej hm hG hM hB0 p y Q f H β a w hr.2 hd.2 hk R
  | panic _=>exact hq.elim
  | outgrown=>exact hq.elim
  | exit id=>obtain⟨f,H,β,hk,R⟩:=hq;exact⟨f,H,β,hk,R⟩
  | ret=>obtain⟨f,H,β,hk,R⟩:=hq;exact⟨f,H,β,hk,R⟩
  | goto l=>obtain⟨f,H,β,hk,R⟩:=hq;exact⟨f,H,β,hk,R⟩
 | .par p,.skip,Q,f,H,β,a,w,hr,hd,h,R=>h.elim
theorem ACI.SS (zx : Zi) (p : Jp) (B0 : Nat) {g : Nat} {avs : List AV} {H : Hp} {Z : AV → Hp → Prop} (hm : P.follows .mixedOrders = true) {fn : Func} {body : Code} {rs : List ResultVar} (hf : P.funcs[g]? = some fn) (hb : fn.body = some body) (hr : fn.results.toList = rs) (hn : (fn.name == "runtime.NumGoroutine") = false)
  (hd:codeOk fn.ntmps body=true) (hnr:dF body=true) (hargs:Nat.ble avs.length fn.ntmps=true) (hne:∃ x H',Z x H') (hB:H 999=.mrk B0) (h : @AWp zx P H B0 p body (@Jo zx P rs Z) (oZ avs) H):ACI P g avs H Z:=by
 subst hr;refine ACI.WX (zi:=zx) hf hb hn (Nat.le_of_ble_eq_true hargs) hne fun G M w0 D0 β a w hM hG hw R=>?_;subst hw;exact Ej (zi:=zx) hm hG hM (R.mrk _ _ hB) p body _ _ _ β a _ hnr hd h R
end
end Go.AL
