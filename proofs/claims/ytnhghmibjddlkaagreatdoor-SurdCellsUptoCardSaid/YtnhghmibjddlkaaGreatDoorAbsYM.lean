/-
 Contracts of the functions that the law reaches.
-/
import Derived.Test.YtnhghmibjddlkaaGreatDoorAbsFM
namespace Go.AL
variable {zi:Zi}
open Go.RowKit
set_option linter.unusedSimpArgs false
set_option linter.unusedVariables false
section
variable {G:Gh} {M:Nat->Prop} {w0:World} {D0:Nat->Prop} {N:Nat} {P:Program}
def RX:Nat->Code->Code
 |0,c=>c
 |n+1,.seq _ y=>RX n y
 |_+1,c=>c
def AWs [Zi] (P:Program)(S:Fr->Hp->Prop):Nat->Code->Post->Fr->Hp->Prop
 |0,_,_,f,H=>S f H
 |n+1,.seq x y,Q,f,H=>AW P x (E5 (AWs P S n y Q) Q) f H
 |_,_,_,_,_=>False
@[congr] theorem b1O {S:Fr->Hp->Prop} {n:Nat} {c:Code} {Q:Post} {f f':Fr} {H H':Hp} (hf:f=f') (hH:H=H'):AWs P S n c Q f H=AWs P S n c Q f' H':=by rw[hf,hH]
theorem ZF (hm:P.follows .mixedOrders=true){S:Fr->Hp->Prop}{K:Exit->Act->World->Prop}:∀(n:Nat) (c:Code) (Q:Post) (f:Fr) (H:Hp) (β:Nat->Value) (a:Act) (w:World),(gQ c=true\/G.rnd=false)->codeOk N c=true->AWs P S n c Q f H->Rel G M w0 D0 N f H β a w ->
  (∀f H β a w,S f H->Rel G M w0 D0 N f H β a w->(RX n c).wpIn (Wd none) 0 P K a w)->(∀e a w,e≠.normal->Conc G M w0 D0 N Q e a w->K e a w)->c.wpIn (Wd none) 0 P K a w
 |0,c,Q,f,H,β,a,w,hr,hd,h,R,hS,hQ=>hS f H β a w h R
 |n+1,.seq x y,Q,f,H,β,a,w,hr,hd,h,R,hS,hQ=>by
  simp only[codeOk,Bool.and_eq_true]at hd;have hr':(gQ x=true\/G.rnd=false)/\(gQ y=true\/G.rnd=false):=by
   rcases hr with hr|hr
   .simp only[gQ,Bool.and_eq_true]at hr;exact⟨.inl hr.1,.inl hr.2⟩
   .exact⟨.inr hr,.inr hr⟩
  refine wpIn_seq (wpIn_mono (gG hm x none G M w0 _ f H β a w (hr'.1.imp id λh=>⟨rfl,h⟩) hd.1 h R) λe a w hq=>?_);cases e with
  |normal=>obtain⟨f,H,β,hk,R⟩:=hq;exact ZF hm n y Q f H β a w hr'.2 hd.2 hk R hS hQ
  |panic _=>exact hq.elim
  |outgrown=>exact hq.elim
  |exit id=>obtain⟨f,H,β,hk,R⟩:=hq;exact hQ _ _ _ (by simp) ⟨f,H,β,hk,R⟩
  |ret=>obtain⟨f,H,β,hk,R⟩:=hq;exact hQ _ _ _ (by simp) ⟨f,H,β,hk,R⟩
  |goto l=>obtain⟨f,H,β,hk,R⟩:=hq;exact hQ _ _ _ (by simp) ⟨f,H,β,hk,R⟩
 |n+1,.skip,Q,f,H,β,a,w,hr,hd,h,R,hS,hQ=>h.elim
end
end Go.AL

namespace Go.AL
variable {zi:Zi}
open Go.RowKit
set_option linter.unusedSimpArgs false
set_option linter.unusedVariables false
inductive Full:IV->Prop
 |int (k:IntKind) (n:Int):Full (.int k n)
 |bool (b:Bool):Full (.bool b)
 |raw (v:Value):Full (.raw v)
 |nil:Full (.sl [])
 |own (b:Option (Nat×Nat)) (e sz:Nat) (rows:List (List IV)) (h:∀r∈rows,∀x∈r,Full x):Full (.own b e sz rows)
section
variable {G:Gh} {M:Nat->Prop} {w0:World} {D0:Nat->Prop} {N:Nat} {P:Program} {f:Fr} {H:Hp} {β:Nat->Value} {a:Act} {w:World}
theorem lH.mono {g:Nat}{vs:List Value}{R R':Value->World->Prop}(h:lH P g vs w R)(hr:∀v w',R v w'->R' v w'):lH P g vs w R':=by
 rcases h with ⟨fn,h1,h2,h3,h4⟩|⟨v,w',h1,h2⟩
 .exact .inl ⟨fn,h1,h2,h3,h4.mono λe w' ⟨v,he,hv⟩=>⟨v,he,hr v w' hv⟩⟩
 .exact .inr ⟨v,w',h1,hr v w' h2⟩
theorem Rel.b1o (R:Rel G M w0 D0 N f H β a w){b:Nat}(h:DD H β D0 b):b<w.heap.size:=by
 rcases h with h|⟨k,hm,hk⟩
 .exact Nat.lt_of_lt_of_le (R.old b h).1 R.size
 .exact(R.o7 hm hk).1
end
end Go.AL

namespace Go.AL
variable {zi:Zi}
open Go.RowKit
set_option linter.unusedSimpArgs false
set_option linter.unusedVariables false
def Jz:Value:=.pointer (some ⟨0,0,none⟩)
def ACG (P:Program)(tb:List IV)(g:Nat)(args:List CV)(res:List CV):Prop :=
 ∀(w:World) (D:Nat->Prop) (vs:List Value),(∀b,D b->b<w.heap.size)->jX w D tb Jz->eU w D args vs ->
  lH P g vs w λv w'=>Below w.heap.size w w'/\∃us,v=qF us/\Eo w w' D none res us
section
variable {G:Gh} {M:Nat->Prop} {w0:World} {D0:Nat->Prop} {N:Nat} {P:Program} {f:Fr} {H:Hp} {β:Nat->Value} {a:Act} {w:World}
def gK:CV->Prop
 |.iv _=>True
 |.agg _=>True
 |_=>False
theorem yP {D:Nat->Prop}:∀{cs:List CV} {vs:List Value},(∀c∈cs,gK c)->jh w D H β (cs.map CV.av) vs->eU w D cs vs
 |[],vs,_,h=>by cases h;trivial
 |c::cs,vs,hp,h=>by
  cases h with
  |cons h1 h2 =>
  refine⟨?_,yP (λc hc=>hp c (by simp[hc])) h2⟩;have:=hp c (by simp);cases c with
  |iv x=>simpa only[CV.av,aG,iI] using h1
  |agg cs=>simpa only[CV.av,aG,iI] using h1
  |val u=>exact this.elim
  |box cells=>exact this.elim
  |fn g caps=>exact this.elim
  |any=>exact this.elim
theorem Du {D:Nat->Prop}:∀{cs:List CV} {vs:List Value},(∀(j:Nat) c v,cs[j]?=some c->vs[j]?=some v->iI w D c v)->cs.length=vs.length->aS w D H β (cs.map CV.av) vs
 |[],[],_,_=>by simp[aS]
 |c::cs,v::vs,h,hl=>by
  simp only[List.map_cons,aS];exact⟨(h 0 c v rfl rfl).av,Du (λj c' v' hc hv=>h (j+1) c' v' (by simpa using hc) (by simpa using hv)) (by simpa using hl)⟩
 |[],_::_,_,hl=>by simp at hl
 |_::_,[],_,hl=>by simp at hl
theorem ACG.aci {tb:List IV}{g:Nat}{args:List CV}{res:List CV}(h:ACG P tb g args res){k:Nat}(hH:H k=.tie (.ip tb) Jz)(hp:∀c∈args,gK c):ACI P g (args.map CV.av) H (λx H'=>H'=H/\x=l7 (res.map CV.av)):=by
 refine⟨⟨_,_,rfl,rfl⟩,λG M w0 D0 N f β a w vs R hall=>?_⟩;have ht:=R.tie _ _ _ hH;refine lH.mono (h w (DD H β D0) vs (λb hb=>R.b1o hb) (by simpa only[aG,jX] using ht) (yP hp hall)) λv w' ⟨hb,us,hv,hr⟩=>?_;subst hv;exact⟨_,H,β,⟨rfl,rfl⟩,R.below hb,oW _ _ (Du (λj c v hc hv=>(hr.val j c v (by simp) hc hv).mono (dh.of_sub λb hb=>.inl hb)) hr.len.symm)⟩
theorem lZ {tb:List IV}{g d:Nat}{args:List CV}{res:List CV}{avs:List AV}{K:Fr->Hp->Log->Prop}{lg:Log}(h:ACG P tb g args res){k:Nat}(hH:H k=.tie (.ip tb) Jz)(ha:args.map CV.av=avs)(hp:∀c∈args,gK c)
  (hk:K (upd f d (l7 (res.map CV.av))) H (([],[998])::lg)):jY P g avs d K f H lg:=by
 subst ha;exact IQ (h.aci hH hp) λx H' ⟨h1,h2⟩=>by subst h1 h2;exact hk
theorem ACG.acf {tb:List IV}{g:Nat}{args:List CV}{res:List CV}(h:ACG P tb g args res)(hH:H 777=.tie (.ip tb) Jz){B:Nat}(h9:H 999=.mrk B)(hp:∀c∈args,gK c):ACF P g (args.map CV.av) H [777,999] (λx hs=>x=l7 (res.map CV.av)/\hs=[(999,.mrk 0)]):=by
 refine⟨⟨_,_,rfl,rfl⟩,λH2 hag G M w0 D0 N f β a w vs R hall=>?_⟩;have ht:=R.tie 777 _ _ ((hag 777 (by simp)).trans hH);have h92:H2 999=.mrk B:=(hag 999 (by simp)).trans h9;refine lH.mono (h w (DD H2 β D0) vs (λb hb=>R.b1o hb) (by simpa only[aG,jX] using ht) (yP hp hall)) λv w' ⟨hb,us,hv,hr⟩=>?_;subst hv;have hDD:∀b,DD (dF H2 999 (.mrk 0)) β D0 b->DD H2 β D0 b:=by
  rintro b (hb|⟨u,hm,hu⟩)
  .exact .inl hb
  .refine .inr ⟨u,?_,hu⟩;by_cases e:u=999
   .subst e;rw[aO]at hm;exact hm.elim
   .rwa [aJ _ _ e]at hm
 exact⟨_,_,β,⟨rfl,rfl⟩,(R.below hb).JE h92 (Nat.zero_le _),oW _ _ (Du (λj c v hc hv=>(hr.val j c v (by simp) hc hv).mono (dh.of_sub λb hb=>.inl (hDD b hb))) hr.len.symm)⟩
theorem kX {tb:List IV}{g d:Nat}{args:List CV}{res:List CV}{avs:List AV}{K:Fr->Hp->Log->Prop}{lg:Log}(h:ACG P tb g args res)(hH:H 777=.tie (.ip tb) Jz){B:Nat}(h9:H 999=.mrk B)(ha:args.map CV.av=avs)(hp:∀c∈args,gK c)
  (hk:K (upd f d (l7 (res.map CV.av))) (dF H 999 (.mrk 0)) (([777,999],[999])::lg)):jY P g avs d K f H lg:=by
 subst ha;exact a3i (h.acf hH h9 hp) λx hs ⟨h1,h2⟩=>by
  subst h1 h2;exact⟨by simp,by simp,hk⟩
end
section
variable {P:Program}
def tC (tb:List IV):Hp:=λh=>if h=777 then .tie (.ip tb) Jz else if h=999 then .mrk 0 else .none
theorem ACG.of_wp {tb : List IV} {g : Nat} {args : List CV} {res : List CV} (hm : P.follows .mixedOrders = true) {fn : Func} {body : Code} (hf : P.funcs[g]? = some fn) (hb : fn.body = some body) (hn : (fn.name == "runtime.NumGoroutine") = false)
  (hargs:args.length<=fn.ntmps) (h:∀(w:World) (D:Nat->Prop) (a:Act),(∀b,D b->b<w.heap.size)->jX w D tb Jz->a.defers=[]->Rel ⟨λ_ _=>False,false⟩ (λ_=>False) w D fn.ntmps (kU args) xJ (λ_=>default) a w ->
   body.wpIn (Wd none) 0 P (Conc ⟨λ_ _=>False,false⟩ (λ_=>False) w D fn.ntmps (b3n P fn.results.toList none res)) a w):ACG P tb g args res:=by
 intro w D vs hD htb hvs;refine .inl ⟨fn,hf,hn,by rw[hb];rfl,callsIn_wide.1 (callsIn_of_wp_marks (n:=0) (F:=Fence.wide) hf hb trivial ?_)⟩;have hlen:=hvs.length;have hcv:∀(cvs:List CV) (us:List Value),eU w D cvs us->∀t,aG w (DD xJ (λ_=>default) D) xJ (λ_=>default) (kU cvs t) ((us[t]?).getD Go.undef):=by
  intro cvs us hu t;have hDD:∀b,DD xJ (λ_=>default) D b->D b:=by
   intro b hb;rcases hb with hb|⟨k,hm,_⟩
   .exact hb
   .exact hm.elim
  induction cvs generalizing us t with
  |nil =>
   match us,hu with
   |[],_=>simp[kU,aG]
  |cons c cs ih =>
   match us,hu with
   |u::us,hu =>
    cases t with
    |zero=>simp only[kU,List.map_cons,List.getElem?_cons_zero,Option.getD_some];exact(hu.1.mono (dh.of_sub hDD)).av
    |succ t=>simpa only[kU,List.map_cons,List.getElem?_cons_succ] using ih us hu.2 t
 have R:Rel ⟨λ_ _=>False,false⟩ (λ_=>False) w D fn.ntmps (kU args) xJ (λ_=>default) { tmps:=vs.toArray++Array.replicate (fn.ntmps-vs.toArray.size) Go.undef,defers:=[] } w:=by
  refine⟨rfl,rfl,rfl,Nat.le_refl _,λ_ _ _=>rfl,λb hb=>⟨hD b hb,λh=>h⟩,by simp;omega,λd hd=>(by cases hd),λh=>(by cases h),List.nodup_nil,λ_ _ h=>h.elim,λt=>?_,λh st e sz rows hh=>(by cases hh),λh st e sz rows hh=>(by cases hh),λh h' _ hm=>hm.elim,λh st e rows hh=>(by cases hh),λh B hh=>(by cases hh),λh x v hh=>(by cases hh)⟩;have e:(vs.toArray++Array.replicate (fn.ntmps-vs.toArray.size) Go.undef).getD t Go.undef=(vs[t]?).getD Go.undef:=by
   rw[Array.getD_eq_getD_getElem?,Array.getElem?_append];split
   .simp
   .rename_i ht;simp only[List.size_toArray,Nat.not_lt]at ht;rw[List.getElem?_eq_none ht];simp only[Array.getElem?_replicate];split<;>rfl
  rw[e];exact hcv args vs hvs t
 refine wpIn_mono (h w D _ hD htb rfl R) λe a w' hq=>?_
 have fin:∀f H β,JO P f H none 0 fn.results.toList res/\(match (none:iy) with|none=>True|some (i,_)=>i<res.length)->Rel ⟨λ_ _=>False,false⟩ (λ_=>False) w D fn.ntmps f H β a w' ->
   LeavesInM Fence.wide 0 P fn a.tmps (λe w'=>∃v,e=.returned v/\Below w.heap.size w w'/\∃us,v=qF us/\Eo w w' D none res us) a.defers .returning w':=by
  intro f H β ⟨hr,hi⟩ R0;refine CZ a.defers _ w' R0.defers R0.a1X R0.size λw2 h1 h2 h3 h4 h5=>?_;have g2:dh w' (DD H β D) w2 (DD H β D):=⟨Nat.le_of_eq h4.symm,λ_ _ h=>h,λb _ _ hc=>h5 b (.inr hc)⟩;have R:Rel ⟨λ_ _=>False,false⟩ (λ_=>False) w D fn.ntmps f H β { a with defers:=[] } w2 :=
   ⟨h1.trans R0.os,h2.trans R0.tape,h3.trans R0.output,by rw[h4];exact R0.size,λk hk _=>(h5 k (.inl hk)).trans (R0.keep k hk (λh=>h)),R0.old,R0.rV,λd hd=>(by cases hd),λh=>(by cases h),List.nodup_nil,λ_ _ h=>h.elim,
    λt=>aG.mono g2 (jV.refl _ _) _ _ (R0.tmps t),
    λh st e sz rows hh=>(R0.own h st e sz rows hh).mono g2 λk hk=>by obtain⟨cur,e',hc⟩:=R0.gY (by rw[hh];trivial) hk;exact h5 k (.inr ⟨_,hc,rfl⟩),
    λh st e sz rows hh=>⟨(R0.frz h st e sz rows hh).1,(R0.frz h st e sz rows hh).2.1.mono g2,(R0.frz h st e sz rows hh).2.2⟩,R0.dis,
    λh st e rows hh=>(R0.nst h st e rows hh).mono g2 (jV.refl _ _) λk hk=>by obtain⟨cur,e',hc⟩:=R0.gY (by rw[hh];trivial) hk;exact h5 k (.inr ⟨_,hc,rfl⟩),λh B hh=>by rw[h4];exact R0.mrk h B hh,λh x v hh=>aG.mono g2 (jV.refl _ _) _ _ (R0.tie h x v hh)⟩
  clear h1 h2 h3 h4 h5;obtain⟨us,h1',h2,h3,h4⟩:=uH R _ _ _ hr;refine⟨_,qx h1',_,rfl,⟨R.os,R.tape,R.output,R.size,λk hk=>R.keep k hk (λh=>h)⟩,us,rfl,h2,λj c v hj hc hv=>?_,λi e sz rows ho=>?_⟩
  .obtain⟨ms,hms,hrep⟩:=h3 j c v (λi e sz rows ho=>by have:=hj i e sz rows ho;omega) hc hv;refine hrep.mono (dh.of_sub λb hb=>?_);rcases hb with hb|hb
   .exact .inl hb
   .exact hb.elim
  .cases ho
 cases e with
 |normal=>obtain⟨f,H,β,hk,R⟩:=hq;exact fin f H β hk R
 |ret=>obtain⟨f,H,β,hk,R⟩:=hq;exact fin f H β hk R
 |panic _=>exact hq.elim
 |outgrown=>exact hq.elim
 |exit id=>obtain⟨f,H,β,hk,R⟩:=hq;exact hk.elim
 |goto l=>obtain⟨f,H,β,hk,R⟩:=hq;exact hk.elim
theorem aj (tb:List IV)(k:Nat):tC tb k=if k=777 then .tie (.ip tb) Jz else if k=999 then .mrk 0 else .none:=rfl
theorem ACG.aF (zx : Zi) {tb : List IV} {g : Nat} {args : List CV} {res : List CV} (hm : P.follows .mixedOrders = true) {fn : Func} {body : Code} {rs : List ResultVar} (hf : P.funcs[g]? = some fn) (hb : fn.body = some body) (hr : fn.results.toList = rs) (hn : (fn.name == "runtime.NumGoroutine") = false)
  (hd:codeOk fn.ntmps body=true) (hargs:Nat.ble args.length fn.ntmps=true) (h : @AW zx P body (@a8I zx P rs none res) (kU args) (tC tb)):ACG P tb g args res:=by
 subst hr;refine ACG.of_wp (zi:=zx) hm hf hb hn (Nat.le_of_ble_eq_true hargs) λw D a hD htb hdf R=>?_;have DZ:∀h,¬(tC tb h).gB:=λh=>by
  unfold tC;split
  .exact id
  .split<;>exact id
 have hsub:∀b,DD (tC tb) (λ_=>default) D b->DD xJ (λ_=>default) D b:=by
  rintro b (hb|⟨k,hm,_⟩)
  .exact .inl hb
  .exact(DZ k hm).elim
 have hsub2:∀b,DD (tC tb) (λ_=>default) D b->D b:=by
  rintro b (hb|⟨k,hm,_⟩)
  .exact hb
  .exact(DZ k hm).elim
 have hH:∀h c,tC tb h=c->c=.none\/c=.tie (.ip tb) Jz\/c=.mrk 0:=λh c hc=>by
  unfold tC at hc;split at hc
  .exact .inr (.inl hc.symm)
  .split at hc
   .exact .inr (.inr hc.symm)
   .exact .inl hc.symm
 have R1:Rel ⟨λ_ _=>False,false⟩ (λ_=>False) w D fn.ntmps (kU args) (tC tb) (λ_=>default) a w:=by
  refine⟨R.os,R.tape,R.output,R.size,R.keep,R.old,R.rV,R.defers,R.rnd,R.a1X,λx v h=>h.elim,λt=>?_,λh st e sz rows hh=>(by rcases hH _ _ hh with h|h|h<;>cases h),λh st e sz rows hh=>(by rcases hH _ _ hh with h|h|h<;>cases h),
   λh h' _ hm=>(DZ h hm).elim,λh st e rows hh=>(by rcases hH _ _ hh with h|h|h<;>cases h),λh B hh=>(by rcases hH _ _ hh with h|h|h<;>cases h;exact Nat.zero_le _),λh x v hh=>?_⟩
  .refine aG.mono (dh.of_sub hsub) (λh=>.inl ⟨?_,?_,rfl⟩) _ _ (R.tmps t)
   .unfold tC;split
    .rfl
    .split<;>rfl
   .unfold tC;split
    .rfl
    .split<;>rfl
  .rcases hH _ _ hh with h|h|h
   .cases h
   .injection h with h1 h2;subst h1 h2;have:=jX.mono (dh.of_sub hsub2) htb;simpa only[aG,jX] using this
   .cases h
 exact gG hm body none _ _ _ _ _ _ _ _ w (.inr ⟨rfl,rfl⟩) hd h R1
end
end Go.AL
