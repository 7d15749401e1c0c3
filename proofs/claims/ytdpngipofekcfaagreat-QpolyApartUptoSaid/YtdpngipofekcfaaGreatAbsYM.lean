/-
 Contracts of the functions that the law reaches.
-/
import Derived.Test.YtdpngipofekcfaaGreatAbsQM
namespace Go.AL
variable {zi:Zi}
open Go.RowKit
set_option linter.unusedSimpArgs false
set_option linter.unusedVariables false
section
variable {G:Gh} {M:Nat→Prop} {w0:World} {D0:Nat→Prop} {N:Nat} {P:Program}
theorem AC.of_wp {g : Nat} {args : List CV} {own : gY} {res : List CV} (hm : P.follows .mixedOrders = true) {fn : Func} {body : Code} (hf : P.funcs[g]? = some fn) (hb : fn.body = some body) (hn : (fn.name == "runtime.NumGoroutine") = false)
  (hargs:args.length≤fn.ntmps) (h:∀ (w:World) (D:Nat→Prop) (a:Act),(∀ b,D b→b<w.heap.size)→a.defers=[]→Rel ⟨fun _ _=>False,false⟩ (fun _=>False) w D fn.ntmps (iQ args) yR (fun _=>default) a w →
   body.wpIn (Wd none) 0 P (Conc ⟨fun _ _=>False,false⟩ (fun _=>False) w D fn.ntmps (a9k P fn.results.toList own res)) a w):AC P g args own res:=by
 intro w D vs hD hvs;refine .inl ⟨fn,hf,hn,by rw[hb];rfl,callsIn_wide.1 (callsIn_of_wp_marks (n:=0) (F:=Fence.wide) hf hb trivial ?_)⟩;have hlen:=hvs.length;have hcv:∀ (cvs:List CV) (us:List Value),dM w D cvs us→∀ t,aj w (DD yR (fun _=>default) D) yR (fun _=>default) (iQ cvs t) ((us[t]?).getD Go.undef):=by
  intro cvs us hu t;have hDD:∀ b,DD yR (fun _=>default) D b→D b:=by
   intro b hb;rcases hb with hb|⟨k,hm,_⟩
   ·exact hb
   ·exact hm.elim
  induction cvs generalizing us t with
  | nil =>
   match us,hu with
   | [],_=>simp[iQ,aj]
  | cons c cs ih =>
   match us,hu with
   | u::us,hu =>
    cases t with
    | zero=>simp only[iQ,List.map_cons,List.getElem?_cons_zero,Option.getD_some];exact(hu.1.mono (bD.of_sub hDD)).av
    | succ t=>simpa only[iQ,List.map_cons,List.getElem?_cons_succ] using ih us hu.2 t
 have R:Rel ⟨fun _ _=>False,false⟩ (fun _=>False) w D fn.ntmps (iQ args) yR (fun _=>default) { tmps:=vs.toArray++Array.replicate (fn.ntmps-vs.toArray.size) Go.undef,defers:=[] } w:=by
  refine⟨rfl,rfl,rfl,Nat.le_refl _,fun _ _ _=>rfl,fun b hb=>⟨hD b hb,fun h=>h⟩,by simp;omega,fun d hd=>(by cases hd),fun h=>(by cases h),List.nodup_nil,fun _ _ h=>h.elim,fun t=>?_,fun h st e sz rows hh=>(by cases hh),fun h st e sz rows hh=>(by cases hh),fun h h' _ hm=>hm.elim,fun h st e rows hh=>(by cases hh),fun h B hh=>(by cases hh),fun h x v hh=>(by cases hh)⟩;have e:(vs.toArray++Array.replicate (fn.ntmps-vs.toArray.size) Go.undef).getD t Go.undef=(vs[t]?).getD Go.undef:=by
   rw[Array.getD_eq_getD_getElem?,Array.getElem?_append];split
   ·simp
   ·rename_i ht;simp only[List.size_toArray,Nat.not_lt]at ht;rw[List.getElem?_eq_none ht];simp only[Array.getElem?_replicate];split<;>rfl
  rw[e];exact hcv args vs hvs t
 refine wpIn_mono (h w D _ hD rfl R) fun e a w' hq=>?_
 have fin:∀ f H β,KC P f H own 0 fn.results.toList res∧(match own with|none=>True|some (i,_)=>i<res.length)→Rel ⟨fun _ _=>False,false⟩ (fun _=>False) w D fn.ntmps f H β a w' →
   LeavesInM Fence.wide 0 P fn a.tmps (fun e w'=>∃ v,e=.returned v∧Below w.heap.size w w'∧∃ us,v=oU us∧Jq w w' D own res us) a.defers .returning w':=by
  intro f H β ⟨hr,hi⟩ R0;refine rV a.defers _ w' R0.defers R0.Lh R0.size fun w2 h1 h2 h3 h4 h5=>?_;have g2:bD w' (DD H β D) w2 (DD H β D):=⟨Nat.le_of_eq h4.symm,fun _ _ h=>h,fun b _ _ hc=>h5 b (.inr hc)⟩;have R:Rel ⟨fun _ _=>False,false⟩ (fun _=>False) w D fn.ntmps f H β { a with defers:=[] } w2 :=
   ⟨h1.trans R0.os,h2.trans R0.tape,h3.trans R0.output,by rw[h4];exact R0.size,fun k hk _=>(h5 k (.inl hk)).trans (R0.keep k hk (fun h=>h)),R0.old,R0.kW,fun d hd=>(by cases hd),fun h=>(by cases h),List.nodup_nil,fun _ _ h=>h.elim,
    fun t=>aj.mono g2 (gI.refl _ _) _ _ (R0.tmps t),
    fun h st e sz rows hh=>(R0.own h st e sz rows hh).mono g2 fun k hk=>by obtain⟨cur,e',hc⟩:=R0.dW (by rw[hh];trivial) hk;exact h5 k (.inr ⟨_,hc,rfl⟩),
    fun h st e sz rows hh=>⟨(R0.frz h st e sz rows hh).1,(R0.frz h st e sz rows hh).2.1.mono g2,(R0.frz h st e sz rows hh).2.2⟩,R0.dis,
    fun h st e rows hh=>(R0.nst h st e rows hh).mono g2 (gI.refl _ _) fun k hk=>by obtain⟨cur,e',hc⟩:=R0.dW (by rw[hh];trivial) hk;exact h5 k (.inr ⟨_,hc,rfl⟩),fun h B hh=>by rw[h4];exact R0.mrk h B hh,fun h x v hh=>aj.mono g2 (gI.refl _ _) _ _ (R0.tie h x v hh)⟩
  clear h1 h2 h3 h4 h5;obtain⟨us,h1',h2,h3,h4⟩:=tN R _ _ _ hr;refine⟨_,kM h1',_,rfl,⟨R.os,R.tape,R.output,R.size,fun k hk=>R.keep k hk (fun h=>h)⟩,us,rfl,h2,fun j c v hj hc hv=>?_,fun i e sz rows ho=>?_⟩
  ·obtain⟨ms,hms,hrep⟩:=h3 j c v (fun i e sz rows ho=>by have:=hj i e sz rows ho;omega) hc hv;refine hrep.mono (bD.of_sub fun b hb=>?_);rcases hb with hb|hb
   ·exact .inl hb
   ·cases own with
    | none=>exact hb.elim
    | some p =>
     obtain⟨i,e,sz,rows⟩:=p;obtain⟨v',hv',hh⟩:=hb;rw[hms rfl];exact(h4 i v' i e sz rows rfl (by omega) hv').2 b hh
  ·subst ho;have hi':i<us.length:=by rw[h2];exact hi
   have hui:us[i]?=some us[i]:=by rw[List.getElem?_eq_getElem]
   obtain⟨h5,h6⟩:=h4 i _ i e sz rows rfl (by omega) hui;refine⟨_,hui,hi,h5.mono (bD.of_sub fun b hb=>?_) fun _ _=>rfl⟩;rcases hb with hb|⟨v',hv',hh⟩
   ·exact .inl hb
   ·rw[hui]at hv';injection hv' with hv';subst hv';exact h6 b hh
 cases e with
 | normal=>obtain⟨f,H,β,hk,R⟩:=hq;exact fin f H β hk R
 | ret=>obtain⟨f,H,β,hk,R⟩:=hq;exact fin f H β hk R
 | panic _=>exact hq.elim
 | outgrown=>exact hq.elim
 | exit id=>obtain⟨f,H,β,hk,R⟩:=hq;exact hk.elim
 | goto l=>obtain⟨f,H,β,hk,R⟩:=hq;exact hk.elim
def uz:Nat→Code→Code
 | 0,c=>c
 | n+1,.seq _ y=>uz n y
 | _+1,c=>c
def AWs [Zi] (P:Program)(S:Fr→Hp→Prop):Nat→Code→Post→Fr→Hp→Prop
 | 0,_,_,f,H=>S f H
 | n+1,.seq x y,Q,f,H=>AW P x (JA (AWs P S n y Q) Q) f H
 | _,_,_,_,_=>False
theorem aV {S:Fr→Hp→Prop}{n:Nat}{x y:Code}{Q:Post}{f:Fr}{H:Hp}:AWs P S (n+1) (.seq x y) Q f H=AW P x (JA (AWs P S n y Q) Q) f H:=rfl
theorem cZ {S:Fr→Hp→Prop}{c:Code}{Q:Post}{f:Fr}{H:Hp}:AWs P S 0 c Q f H=S f H:=rfl
@[congr] theorem a7F {S:Fr→Hp→Prop} {n:Nat} {c:Code} {Q:Post} {f f':Fr} {H H':Hp} (hf:f=f') (hH:H=H'):AWs P S n c Q f H=AWs P S n c Q f' H':=by rw[hf,hH]
theorem xO (hm:P.follows .mixedOrders=true){S:Fr→Hp→Prop}{K:Exit→Act→World→Prop}:∀ (n:Nat) (c:Code) (Q:Post) (f:Fr) (H:Hp) (β:Nat→Value) (a:Act) (w:World),(dF c=true∨G.rnd=false)→codeOk N c=true→AWs P S n c Q f H→Rel G M w0 D0 N f H β a w →
  (∀ f H β a w,S f H→Rel G M w0 D0 N f H β a w→(uz n c).wpIn (Wd none) 0 P K a w)→(∀ e a w,e≠.normal→Conc G M w0 D0 N Q e a w→K e a w)→c.wpIn (Wd none) 0 P K a w
 | 0,c,Q,f,H,β,a,w,hr,hd,h,R,hS,hQ=>hS f H β a w h R
 | n+1,.seq x y,Q,f,H,β,a,w,hr,hd,h,R,hS,hQ=>by
  simp only[codeOk,Bool.and_eq_true]at hd;have hr':(dF x=true∨G.rnd=false)∧(dF y=true∨G.rnd=false):=by
   rcases hr with hr|hr
   ·simp only[dF,Bool.and_eq_true]at hr;exact⟨.inl hr.1,.inl hr.2⟩
   ·exact⟨.inr hr,.inr hr⟩
  refine wpIn_seq (wpIn_mono (dN hm x none G M w0 _ f H β a w (hr'.1.imp id fun h=>⟨rfl,h⟩) hd.1 h R) fun e a w hq=>?_);cases e with
  | normal=>obtain⟨f,H,β,hk,R⟩:=hq;exact xO hm n y Q f H β a w hr'.2 hd.2 hk R hS hQ
  | panic _=>exact hq.elim
  | outgrown=>exact hq.elim
  | exit id=>obtain⟨f,H,β,hk,R⟩:=hq;exact hQ _ _ _ (by simp) ⟨f,H,β,hk,R⟩
  | ret=>obtain⟨f,H,β,hk,R⟩:=hq;exact hQ _ _ _ (by simp) ⟨f,H,β,hk,R⟩
  | goto l=>obtain⟨f,H,β,hk,R⟩:=hq;exact hQ _ _ _ (by simp) ⟨f,H,β,hk,R⟩
 | n+1,.skip,Q,f,H,β,a,w,hr,hd,h,R,hS,hQ=>h.elim
theorem KG {X:Nat→Prop}{f:Fr}{H:Hp}{β:Nat→Value}{a:Act}{w:World}(hsz:a.tmps.size=N)(hdf:a.defers=[])(hX:∀ b,X b→b<w.heap.size∧¬M b)
  (htm:∀ t,aj w (DD H β X) H β (f t) (a.tmps.getD t Go.undef))
  (hown:∀ h st e sz rows,H h=.blk false st e sz rows→Own w (DD H β X) w.heap.size M (β h) e sz rows)
  (hfz:∀ h st e sz rows,H h≠.blk true st e sz rows)
  (hdis:∀ h h',h≠h'→(H h).bV→(H h').bV→∀ g,aG (β h)=some g→aG (β h')≠some g)
  (b1g:∀ h st e rows,H h=.nst st e rows→NW w (DD H β X) H β w.heap.size M (β h) e rows)
  (a4Y:∀ h B,H h=.mrk B→B≤w.heap.size) (htie:∀ h x v,H h=.tie x v→aj w (DD H β X) H β x v):Rel ⟨fun _ _=>False,true⟩ M w X N f H β a w :=
 ⟨rfl,rfl,rfl,Nat.le_refl _,fun _ _ _=>rfl,hX,hsz,fun d hd=>(by rw[hdf]at hd;cases hd),fun _=>hdf,(by rw[hdf];exact List.nodup_nil),fun _ _ h=>h.elim,htm,hown,fun h st e sz rows hh=>(hfz h st e sz rows hh).elim,hdis,b1g,a4Y,htie⟩
theorem Rel.EJ {f:Fr}{H:Hp}{β:Nat→Value}{a:Act}{w:World}(R:Rel ⟨G.vals,true⟩ M w0 D0 N f H β a w):Rel ⟨G.vals,false⟩ M w0 D0 N f H β a w :=
 ⟨R.os,R.tape,R.output,R.size,R.keep,R.old,R.kW,R.defers,(fun h=>by cases h),R.Lh,R.gh,R.tmps,R.own,R.frz,R.dis,R.nst,R.mrk,R.tie⟩
theorem Conc.EJ {vals:AV→Value→Prop}{Q:Post}{e:Exit}{a:Act}{w:World}(h:Conc ⟨vals,true⟩ M w0 D0 N Q e a w):Conc ⟨vals,false⟩ M w0 D0 N Q e a w:=by
 cases e with
 | panic _=>exact h.elim
 | outgrown=>exact h.elim
 | normal=>obtain⟨f,H,β,hk,R⟩:=h;exact⟨f,H,β,hk,Rel.EJ (G:=⟨vals,true⟩) R⟩
 | ret=>obtain⟨f,H,β,hk,R⟩:=h;exact⟨f,H,β,hk,Rel.EJ (G:=⟨vals,true⟩) R⟩
 | exit id=>obtain⟨f,H,β,hk,R⟩:=h;exact⟨f,H,β,hk,Rel.EJ (G:=⟨vals,true⟩) R⟩
 | goto l=>obtain⟨f,H,β,hk,R⟩:=h;exact⟨f,H,β,hk,Rel.EJ (G:=⟨vals,true⟩) R⟩
def Yn (P:Program)(g:Nat):Code:=match P.funcs[g]? with
 | some fn=>fn.body.getD .skip
 | none=>.skip
theorem MW {g:Nat}{fn:Func}{body:Code}(hf:P.funcs[g]?=some fn)(hb:fn.body=some body):Yn P g=body:=by
 unfold Yn;rw[hf];simp only[hb];rfl
def kQ:Nat→Code→Option Code
 | 0,c=>some c
 | n+1,.seq _ y=>kQ n y
 | _+1,_=>none
theorem IG:∀ {n:Nat} {c d:Code},kQ n c=some d→uz n c=d
 | 0,c,d,h=>by simp only[kQ,Option.some.injEq]at h;exact h
 | n+1,.seq _ y,d,h=>by simp only[kQ]at h;simp only[uz];exact IG h
theorem AC.a5v {g : Nat} {args : List CV} {res : List CV} (hm : P.follows .mixedOrders = true) {fn : Func} {body : Code} {rs : List ResultVar} (hf : P.funcs[g]? = some fn) (hb : fn.body = some body) (hr : fn.results.toList = rs) (hn : (fn.name == "runtime.NumGoroutine") = false)
  (hd:codeOk fn.ntmps body=true) (hnr:dF body=true) (hargs:Nat.ble args.length fn.ntmps=true) (n:Nat) (S:Nat→Fr→Hp→Prop)
  (hA:∀ B,AWs P (S B) n body (Zc P rs none res) (iQ args) (iP B))
  (hrest:∀ (w:World) (D:Nat→Prop) (f:Fr) (H:Hp) (β:Nat→Value) (a:Act) (w':World),S w.heap.size f H→Rel ⟨fun _ _=>False,true⟩ (fun _=>False) w D fn.ntmps f H β a w' →
   (uz n (Yn P g)).wpIn (Wd none) 0 P (Conc ⟨fun _ _=>False,false⟩ (fun _=>False) w D fn.ntmps (Zc P rs none res)) a w'):AC P g args none res:=by
 subst hr;rw[MW hf hb]at hrest;refine AC.of_wp (zi:=zi) hm hf hb hn (Nat.le_of_ble_eq_true hargs) fun w D a hD hdf R=>?_;have zL:∀ h,¬(iP w.heap.size h).bV:=fun h=>by
  unfold iP;split<;>exact id
 have hsub:∀ b,DD (iP w.heap.size) (fun _=>default) D b→DD yR (fun _=>default) D b:=by
  rintro b (hb|⟨k,hm,_⟩)
  ·exact .inl hb
  ·exact(zL k hm).elim
 have hH:∀ h c,iP w.heap.size h=c→c=.none∨c=.mrk w.heap.size:=fun h c hc=>by
  unfold iP at hc;split at hc
  ·exact .inr hc.symm
  ·exact .inl hc.symm
 have R1:Rel ⟨fun _ _=>False,true⟩ (fun _=>False) w D fn.ntmps (iQ args) (iP w.heap.size) (fun _=>default) a w:=by
  refine KG R.kW hdf (fun b hb=>⟨hD b hb,fun h=>h⟩) (fun t=>?_) (fun h st e sz rows hh=>by rcases hH _ _ hh with h|h<;>cases h) (fun h st e sz rows hh=>by rcases hH _ _ hh with h|h<;>cases h)
   (fun h h' _ hm=>(zL h hm).elim) (fun h st e rows hh=>by rcases hH _ _ hh with h|h<;>cases h) (fun h B hh=>by rcases hH _ _ hh with h|h<;>cases h;exact Nat.le_refl _) (fun h x v hh=>by rcases hH _ _ hh with h|h<;>cases h)
  refine aj.mono (bD.of_sub hsub) (fun h=>.inl ⟨?_,?_,rfl⟩) _ _ (R.tmps t)
  ·unfold iP;split<;>rfl
  ·unfold iP;split<;>rfl
 exact xO hm n body _ _ _ _ a w (.inl hnr) hd (hA w.heap.size) R1 (fun f H β a w' hS R=>hrest w D f H β a w' hS R) fun e a w' _ hc=>hc.EJ
end
end Go.AL

namespace Go.AL
variable {zi:Zi}
open Go.RowKit
set_option linter.unusedSimpArgs false
set_option linter.unusedVariables false
inductive Full:IV→Prop
 | int (k:IntKind) (n:Int):Full (.int k n)
 | bool (b:Bool):Full (.bool b)
 | raw (v:Value):Full (.raw v)
 | nil:Full (.sl [])
 | own (b:Option (Nat×Nat)) (e sz:Nat) (rows:List (List IV)) (h:∀ r∈rows,∀ x∈r,Full x):Full (.own b e sz rows)
theorem Rep.full {w w':World}{D D':Nat→Prop}{x:IV}{v:Value}(h:Rep w D x v):Full x→(∀ g∈x.ids,w'.heap[g]?=w.heap[g]?∧¬D' g)→Rep w' D' x v:=by
 induction h with
 | int k n=>exact fun _ _=>.int k n
 | bool b=>exact fun _ _=>.bool b
 | raw v hv=>exact fun _ _=>.raw v hv
 | nil a cap hcap=>exact fun _ _=>.nil a cap hcap
 | sl rows g o cap sz cell hsz hlen hcap hg hD hc hr ih =>
  intro hf _;cases hf;exact .nil _ cap hcap
 | CX e sz=>exact fun _ _=>.CX e sz
 | own rows g cap e sz cur hsz hlen hcap hg hD hcs hr ih =>
  intro hf hk;cases hf with
  | own _ _ _ _ hf =>
   have h0:=hk g (by simp[IV.ids]);refine .own rows g cap e sz cur hsz hlen hcap (by rw[h0.1];exact hg) h0.2 hcs fun i r hi j x hj=>ih i r hi j x hj (hf r (List.mem_of_getElem? hi) x (List.mem_of_getElem? hj)) fun k hk'=>hk k ?_;simp only[IV.ids,List.mem_append];exact .inr (mV.2 ⟨r,List.mem_of_getElem? hi,fP.2 ⟨x,List.mem_of_getElem? hj,hk'⟩⟩)
 | av X x v hx ih=>exact fun hf=>by cases hf
theorem dI.full {w w':World}{D D':Nat→Prop}:∀ {xs:List IV} {vs:List Value},dI w D xs vs→(∀ x∈xs,Full x)→(∀ g∈gX xs,w'.heap[g]?=w.heap[g]?∧¬D' g)→dI w' D' xs vs
 | [],[],_,_,_=>trivial
 | x::xs,v::vs,h,hf,hk=>⟨h.1.full (hf x (by simp)) fun g hg=>hk g (by simp[gX,hg]),h.2.full (fun y hy=>hf y (by simp[hy])) fun g hg=>hk g (by simp[gX,hg])⟩
 | [],_::_,h,_,_=>h.elim
 | _::_,[],h,_,_=>h.elim
theorem DJ {sz:Nat}:∀ (rows:List (List IV)),(∀ r∈rows,r.length=sz)→∀ (k:Nat) (x:IV),rows.flatten[k]?=some x→∃ r,rows[k/sz]?=some r∧r[k%sz]?=some x
 | [],_,k,x,h=>by simp at h
 | r::rs,hs,k,x,h=>by
  have h0:=hs r (by simp);rw[List.flatten_cons]at h;by_cases hk:k<sz
  ·rw[List.getElem?_append_left (by omega)]at h;rw[Nat.div_eq_of_lt hk,Nat.mod_eq_of_lt hk];exact⟨r,rfl,h⟩
  ·rw[List.getElem?_append_right (by omega),h0]at h;obtain⟨q,h1,h2⟩:=DJ rs (fun r hr=>hs r (by simp[hr])) _ x h;rcases Nat.eq_zero_or_pos sz with hz|hz
   ·subst hz;rw[Nat.mod_zero]at h2;have hq:=hs q (by simp[List.mem_of_getElem? h1]);have:q=[]:=List.eq_nil_of_length_eq_zero hq;subst this;simp at h2
   ·have e1:k/sz=(k-sz)/sz+1:=by
     rw[show k=(k-sz)+sz by omega,Nat.add_div_right _ hz];simp
    have e2:k%sz=(k-sz)%sz:=by
     rw[show k=(k-sz)+sz by omega,Nat.add_mod_right];simp
    rw[e1,e2];exact⟨q,by simpa using h1,h2⟩
theorem qo {w:World}{D:Nat→Prop}{rows:List (List IV)}{cur:Array Value}{sz:Nat}(hsz:∀ r∈rows,r.length=sz)(hc:rows.length*sz≤cur.size)
  (h:∀ (i:Nat) (r:List IV),rows[i]?=some r→∀ (j:Nat) (x:IV),r[j]?=some x→Rep w D x (cur.getD (i*sz+j) Go.undef)):dI w D rows.flatten (cur.toList.take (rows.length*sz)):=by
 refine dI.qR ?_ fun k x hk=>?_
 ·have e1:cur.toList.length=cur.size:=Array.length_toList;rw[bM rows hsz,List.length_take,e1];omega
 ·obtain⟨r,h1,h2⟩:=DJ rows hsz k x hk;have hlt:=(List.getElem?_eq_some_iff.1 hk).1;rw[bM rows hsz]at hlt;have:=h _ r h1 _ x h2;rw[Nat.mul_comm,Nat.div_add_mod]at this;refine⟨_,?_,this⟩;rw[List.getElem?_take,if_pos hlt,Array.getElem?_toList,Array.getElem?_eq_getElem (by omega),Array.getD_eq_getD_getElem?,Array.getElem?_eq_getElem (by omega)];rfl
section
variable {G:Gh} {M:Nat→Prop} {w0:World} {D0:Nat→Prop} {N:Nat} {P:Program} {f:Fr} {H:Hp} {β:Nat→Value} {a:Act} {w:World}
theorem uJ {ro:Option Nat}{ops:Array Oper}{ZU:List Oper}{K:Fr→Hp→Log→Prop}{Q:Exit→Act→World→Prop}(hQ:∀ f H lg β a w,K f H lg→Rel G M w0 D0 N f H β a w→wpListIn (Wd ro) 0 P ops Q ZU a w) :
  ∀ (rest:List Oper) (f:Fr) (H:Hp) (lg:Log) (β:Nat→Value) (a:Act) (w:World),(∀ o∈rest,∀ d,o.dst=some d→d<N)→eP P (vO ops) rest K f H lg→Rel G M w0 D0 N f H β a w→wpListIn (Wd ro) 0 P ops Q (rest++ZU) a w
 | [],f,H,lg,β,a,w,_,h,R=>hQ f H lg β a w h R
 | o::rest,f,H,lg,β,a,w,hd,h,R=>by
  have hdo:=hd o (by simp);have hdr:∀ o∈rest,∀ d,o.dst=some d→d<N:=fun o ho=>hd o (by simp[ho])
  have run:JB P o (eP P (vO ops) rest K) f H lg→o.wpIn (Wd ro) 0 P a w (wpListIn (Wd ro) 0 P ops Q (rest++ZU)) Q:=by
   intro h;rcases BD h with ⟨u,rd,hs,hk,_⟩|⟨rd0,R0,_,hs,hk⟩|⟨Z,_,hs,hk⟩
   ·exact hs f H (fun _ _=>rfl) (fun _ _=>rfl) G M w0 D0 N β a w hdo R _ _ (fun a' w' β' R'=>uJ hQ rest _ _ _ β' a' w' hdr hk R') ro
   ·exact hs f H (fun _ _=>rfl) (fun _ _=>rfl) G M w0 D0 N β a w hdo R _ _ (fun u a' w' β' h1 R'=>uJ hQ rest _ _ _ β' a' w' hdr (hk u h1).2.2 R') ro
   ·exact hs G M w0 D0 N β a w hdo R _ _ (fun x H' a' w' β' hz R'=>uJ hQ rest _ _ _ β' a' w' hdr (hk x H' hz) R') ro
  simp only[eP]at h;simp only[List.cons_append,wpListIn];cases hg:o.guard with
  | none =>
   rw[hg]at h;simp only[Region.wanted,hg,if_true];exact run h
  | some p =>
   obtain⟨j,want⟩:=p;rw[hg]at h;have hy:=yj R (ops:=ops) (j:=j);simp only[Region.wanted,hg];simp only at h;split at h
   ·rename_i b hb;rw[hy.1 b hb];by_cases hbw:b=want
    ·subst hbw;simp only[if_true]at h;simp only[beq_self_eq_true,if_true];exact run h
    ·simp only[hbw,if_false]at h;rw[if_neg (by simp[hbw])];exact⟨fun _ _=>trivial,uJ hQ rest _ _ _ β _ w hdr h (R.skip hdo)⟩
   ·rename_i hb;rw[hy.2 hb];rw[if_neg (by simp)];exact⟨fun _ _=>trivial,uJ hQ rest _ _ _ β _ w hdr h (R.skip hdo)⟩
   ·exact h.elim
theorem Yt {ro:Option Nat}{l l1 l2 rest:List Oper}{K:Fr→Hp→Log→Prop}{Q:Exit→Act→World→Prop}(hl:rest=l1++l2)(hd:∀ o∈l1,∀ d,o.dst=some d→d<N)(R:Rel G M w0 D0 N f H β a w)(h:eP P (l.map (·.dst)) l1 K f H [])
  (k:∀ f H lg β a w,K f H lg→Rel G M w0 D0 N f H β a w→wpListIn (Wd ro) 0 P l.toArray Q l2 a w):wpListIn (Wd ro) 0 P l.toArray Q rest a w:=by
 subst hl;exact uJ (ro:=ro) (ops:=l.toArray) (ZU:=l2) (Q:=Q) k l1 f H [] β a w hd h R
theorem a0Q {ro:Option Nat}{ops:Array Oper}{o:Oper}{rest:List Oper}{Q:Exit→Act→World→Prop}(hg:o.guard=none)(h:o.wpIn (Wd ro) 0 P a w (wpListIn (Wd ro) 0 P ops Q rest) Q):wpListIn (Wd ro) 0 P ops Q (o::rest) a w:=by
 simp only[wpListIn,Region.wanted,hg,if_true];exact h
theorem nG.mono {g:Nat}{vs:List Value}{R R':Value→World→Prop}(h:nG P g vs w R)(hr:∀ v w',R v w'→R' v w'):nG P g vs w R':=by
 rcases h with ⟨fn,h1,h2,h3,h4⟩|⟨v,w',h1,h2⟩
 ·exact .inl ⟨fn,h1,h2,h3,h4.mono fun e w' ⟨v,he,hv⟩=>⟨v,he,hr v w' hv⟩⟩
 ·exact .inr ⟨v,w',h1,hr v w' h2⟩
theorem Rel.a9f (R:Rel G M w0 D0 N f H β a w){b:Nat}(h:DD H β D0 b):b<w.heap.size:=by
 rcases h with h|⟨k,hm,hk⟩
 ·exact Nat.lt_of_lt_of_le (R.old b h).1 R.size
 ·exact(R.iD hm hk).1
end
end Go.AL
