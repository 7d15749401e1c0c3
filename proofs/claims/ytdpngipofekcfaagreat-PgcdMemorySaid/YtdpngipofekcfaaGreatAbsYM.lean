/-
 Contracts of the functions that the law reaches.
-/
import Derived.Test.YtdpngipofekcfaaGreatAbsK
import Derived.Test.YtdpngipofekcfaaGreatAbsW
namespace Go.AL
variable {zi:Zi}
open Go.RowKit
set_option linter.unusedSimpArgs false
set_option linter.unusedVariables false
section
variable {G:Gh} {M:Nat->Prop} {w0:World} {D0:Nat->Prop} {N:Nat} {P:Program}
variable {f:Fr} {H:Hp} {β:Nat->Value} {a:Act} {w:World} {g:Nat} {args res:List CV}
theorem AC.of_wp {g : Nat} {args : List CV} {own : iZ} {res : List CV} (hm : P.follows .mixedOrders = true) {fn : Func} {body : Code} (hf : P.funcs[g]? = some fn) (hb : fn.body = some body) (hn : (fn.name == "runtime.NumGoroutine") = false)
  (hargs:args.length<=fn.ntmps) (h:∀(w:World) (D:Nat->Prop) (a:Act),(∀b,D b->b<w.heap.size)->a.defers=[]->Rel ⟨λ_ _=>False,false⟩ (λ_=>False) w D fn.ntmps (kF args) Dj (λ_=>default) a w ->
   body.wpIn (Wd none) 0 P (Conc ⟨λ_ _=>False,false⟩ (λ_=>False) w D fn.ntmps (b7J P fn.results.toList own res)) a w):AC P g args own res:=by
 intro w D vs hD hvs;refine .inl ⟨fn,hf,hn,by rw[hb];rfl,callsIn_wide.1 (callsIn_of_wp_marks (n:=0) (F:=Fence.wide) hf hb trivial ?_)⟩;have hlen:=hvs.length;have hcv:∀(cvs:List CV) (us:List Value),dU w D cvs us->∀t,ak w (DD Dj (λ_=>default) D) Dj (λ_=>default) (kF cvs t) ((us[t]?).getD Go.undef):=by
  intro cvs us hu t;have hDD:∀b,DD Dj (λ_=>default) D b->D b:=by
   intro b hb;rcases hb with hb|⟨k,hm,_⟩
   .exact hb
   .exact hm.elim
  induction cvs generalizing us t with
  |nil =>
   match us,hu with
   |[],_=>simp[kF,ak]
  |cons c cs ih =>
   match us,hu with
   |u::us,hu =>
    cases t with
    |zero=>simp only[kF,List.map_cons,List.getElem?_cons_zero,Option.getD_some];exact(hu.1.mono (bD.of_sub hDD)).av
    |succ t=>simpa only[kF,List.map_cons,List.getElem?_cons_succ] using ih us hu.2 t
 have R:Rel ⟨λ_ _=>False,false⟩ (λ_=>False) w D fn.ntmps (kF args) Dj (λ_=>default) { tmps:=vs.toArray++Array.replicate (fn.ntmps-vs.toArray.size) Go.undef,defers:=[] } w:=by
  refine⟨rfl,rfl,rfl,Nat.le_refl _,λ_ _ _=>rfl,λb hb=>⟨hD b hb,λh=>h⟩,by simp;omega,λd hd=>(by cases hd),λh=>(by cases h),List.nodup_nil,λ_ _ h=>h.elim,λt=>?_,λh st e sz rows hh=>(by cases hh),λh st e sz rows hh=>(by cases hh),λh h' _ hm=>hm.elim,λh st e rows hh=>(by cases hh),λh B hh=>(by cases hh),λh x v hh=>(by cases hh)⟩;have e:(vs.toArray++Array.replicate (fn.ntmps-vs.toArray.size) Go.undef).getD t Go.undef=(vs[t]?).getD Go.undef:=by
   rw[Array.getD_eq_getD_getElem?,Array.getElem?_append];split
   .simp
   .rename_i ht;simp only[List.size_toArray,Nat.not_lt]at ht;rw[List.getElem?_eq_none ht];simp only[Array.getElem?_replicate];split<;>rfl
  rw[e];exact hcv args vs hvs t
 refine wpIn_mono (h w D _ hD rfl R) λe a w' hq=>?_
 have fin:∀f H β,OI P f H own 0 fn.results.toList res/\(match own with|none=>True|some (i,_)=>i<res.length)->Rel ⟨λ_ _=>False,false⟩ (λ_=>False) w D fn.ntmps f H β a w' ->
   LeavesInM Fence.wide 0 P fn a.tmps (λe w'=>∃v,e=.returned v/\Below w.heap.size w w'/\∃us,v=uP us/\NY w w' D own res us) a.defers .returning w':=by
  intro f H β ⟨hr,hi⟩ R0;refine xq a.defers _ w' R0.defers R0.RU R0.size λw2 h1 h2 h3 h4 h5=>?_;have g2:bD w' (DD H β D) w2 (DD H β D):=⟨Nat.le_of_eq h4.symm,λ_ _ h=>h,λb _ _ hc=>h5 b (.inr hc)⟩;have R:Rel ⟨λ_ _=>False,false⟩ (λ_=>False) w D fn.ntmps f H β { a with defers:=[] } w2 :=
   ⟨h1.trans R0.os,h2.trans R0.tape,h3.trans R0.output,by rw[h4];exact R0.size,λk hk _=>(h5 k (.inl hk)).trans (R0.keep k hk (λh=>h)),R0.old,R0.nD,λd hd=>(by cases hd),λh=>(by cases h),List.nodup_nil,λ_ _ h=>h.elim,
    λt=>ak.mono g2 (iR.refl _ _) _ _ (R0.tmps t),
    λh st e sz rows hh=>(R0.own h st e sz rows hh).mono g2 λk hk=>by obtain⟨cur,e',hc⟩:=R0.dL (by rw[hh];trivial) hk;exact h5 k (.inr ⟨_,hc,rfl⟩),
    λh st e sz rows hh=>⟨(R0.frz h st e sz rows hh).1,(R0.frz h st e sz rows hh).2.1.mono g2,(R0.frz h st e sz rows hh).2.2⟩,R0.dis,
    λh st e rows hh=>(R0.nst h st e rows hh).mono g2 (iR.refl _ _) λk hk=>by obtain⟨cur,e',hc⟩:=R0.dL (by rw[hh];trivial) hk;exact h5 k (.inr ⟨_,hc,rfl⟩),λh B hh=>by rw[h4];exact R0.mrk h B hh,λh x v hh=>ak.mono g2 (iR.refl _ _) _ _ (R0.tie h x v hh)⟩
  clear h1 h2 h3 h4 h5;obtain⟨us,h1',h2,h3,h4⟩:=xU R _ _ _ hr;refine⟨_,nI h1',_,rfl,⟨R.os,R.tape,R.output,R.size,λk hk=>R.keep k hk (λh=>h)⟩,us,rfl,h2,λj c v hj hc hv=>?_,λi e sz rows ho=>?_⟩
  .obtain⟨ms,hms,hrep⟩:=h3 j c v (λi e sz rows ho=>by have:=hj i e sz rows ho;omega) hc hv;refine hrep.mono (bD.of_sub λb hb=>?_);rcases hb with hb|hb
   .exact .inl hb
   .cases own with
    |none=>exact hb.elim
    |some p =>
     obtain⟨i,e,sz,rows⟩:=p;obtain⟨v',hv',hh⟩:=hb;rw[hms rfl];exact(h4 i v' i e sz rows rfl (by omega) hv').2 b hh
  .subst ho;have hi':i<us.length:=by rw[h2];exact hi
   have hui:us[i]?=some us[i]:=by rw[List.getElem?_eq_getElem]
   obtain⟨h5,h6⟩:=h4 i _ i e sz rows rfl (by omega) hui;refine⟨_,hui,hi,h5.mono (bD.of_sub λb hb=>?_) λ_ _=>rfl⟩;rcases hb with hb|⟨v',hv',hh⟩
   .exact .inl hb
   .rw[hui]at hv';injection hv' with hv';subst hv';exact h6 b hh
 cases e with
 |normal=>obtain⟨f,H,β,hk,R⟩:=hq;exact fin f H β hk R
 |ret=>obtain⟨f,H,β,hk,R⟩:=hq;exact fin f H β hk R
 |panic _=>exact hq.elim
 |outgrown=>exact hq.elim
 |exit id=>obtain⟨f,H,β,hk,R⟩:=hq;exact hk.elim
 |goto l=>obtain⟨f,H,β,hk,R⟩:=hq;exact hk.elim
def kT:Nat->Code->Code
 |0,c=>c
 |n+1,.seq _ y=>kT n y
 |_+1,c=>c
def AWs [Zi] (P:Program)(S:Fr->Hp->Prop):Nat->Code->Post->Fr->Hp->Prop
 |0,_,_,f,H=>S f H
 |n+1,.seq x y,Q,f,H=>AW P x (Rl (AWs P S n y Q) Q) f H
 |_,_,_,_,_=>False
theorem kU {S:Fr->Hp->Prop}{n:Nat}{x y:Code}{Q:Post}{f:Fr}{H:Hp}:AWs P S (n+1) (.seq x y) Q f H=AW P x (Rl (AWs P S n y Q) Q) f H:=rfl
theorem Ci {S:Fr->Hp->Prop}{c:Code}{Q:Post}{f:Fr}{H:Hp}:AWs P S 0 c Q f H=S f H:=rfl
@[congr] theorem b5x {S:Fr->Hp->Prop} {n:Nat} {c:Code} {Q:Post} {f f':Fr} {H H':Hp} (hf:f=f') (hH:H=H'):AWs P S n c Q f H=AWs P S n c Q f' H':=by rw[hf,hH]
theorem BL (hm:P.follows .mixedOrders=true){S:Fr->Hp->Prop}{K:Exit->Act->World->Prop}:∀(n:Nat) (c:Code) (Q:Post) (f:Fr) (H:Hp) (β:Nat->Value) (a:Act) (w:World),(dM c=true\/G.rnd=false)->codeOk N c=true->AWs P S n c Q f H->Rel G M w0 D0 N f H β a w ->
  (∀f H β a w,S f H->Rel G M w0 D0 N f H β a w->(kT n c).wpIn (Wd none) 0 P K a w)->(∀e a w,e≠.normal->Conc G M w0 D0 N Q e a w->K e a w)->c.wpIn (Wd none) 0 P K a w
 |0,c,Q,f,H,β,a,w,hr,hd,h,R,hS,hQ=>hS f H β a w h R
 |n+1,.seq x y,Q,f,H,β,a,w,hr,hd,h,R,hS,hQ=>by
  simp only[codeOk,Bool.and_eq_true]at hd;have hr':(dM x=true\/G.rnd=false)/\(dM y=true\/G.rnd=false):=by
   rcases hr with hr|hr
   .simp only[dM,Bool.and_eq_true]at hr;exact⟨.inl hr.1,.inl hr.2⟩
   .exact⟨.inr hr,.inr hr⟩
  refine wpIn_seq (wpIn_mono (dX hm x none G M w0 _ f H β a w (hr'.1.imp id λh=>⟨rfl,h⟩) hd.1 h R) λe a w hq=>?_);cases e with
  |normal=>obtain⟨f,H,β,hk,R⟩:=hq;exact BL hm n y Q f H β a w hr'.2 hd.2 hk R hS hQ
  |panic _=>exact hq.elim
  |outgrown=>exact hq.elim
  |exit id=>obtain⟨f,H,β,hk,R⟩:=hq;exact hQ _ _ _ (by simp) ⟨f,H,β,hk,R⟩
  |ret=>obtain⟨f,H,β,hk,R⟩:=hq;exact hQ _ _ _ (by simp) ⟨f,H,β,hk,R⟩
  |goto l=>obtain⟨f,H,β,hk,R⟩:=hq;exact hQ _ _ _ (by simp) ⟨f,H,β,hk,R⟩
 |n+1,.skip,Q,f,H,β,a,w,hr,hd,h,R,hS,hQ=>h.elim
theorem OJ {X:Nat->Prop}(hsz:a.tmps.size=N)(hdf:a.defers=[])(hX:∀b,X b->b<w.heap.size/\¬M b)
  (htm:∀t,ak w (DD H β X) H β (f t) (a.tmps.getD t Go.undef))
  (hown:∀h st e sz rows,H h=.blk false st e sz rows->Own w (DD H β X) w.heap.size M (β h) e sz rows)
  (hfz:∀h st e sz rows,H h≠.blk true st e sz rows)
  (hdis:∀h h',h≠h'->(H h).bI->(H h').bI->∀g,aF (β h)=some g->aF (β h')≠some g)
  (b7p:∀h st e rows,H h=.nst st e rows->Ob w (DD H β X) H β w.heap.size M (β h) e rows)
  (a2t:∀h B,H h=.mrk B->B<=w.heap.size) (htie:∀h x v,H h=.tie x v->ak w (DD H β X) H β x v):Rel ⟨λ_ _=>False,true⟩ M w X N f H β a w :=
 ⟨rfl,rfl,rfl,zab _,λ_ _ _=>rfl,hX,hsz,λd hd=>(by rw[hdf]at hd;cases hd),λ_=>hdf,(by rw[hdf];exact zcb),λ_ _ h=>h.elim,htm,hown,λh st e sz rows hh=>(hfz h st e sz rows hh).elim,hdis,b7p,a2t,htie⟩
theorem Rel.S9 (R:Rel ⟨G.vals,true⟩ M w0 D0 N f H β a w):Rel ⟨G.vals,false⟩ M w0 D0 N f H β a w :=
 ⟨R.os,R.tape,R.output,R.size,R.keep,R.old,R.nD,R.defers,(λh=>by cases h),R.RU,R.gh,R.tmps,R.own,R.frz,R.dis,R.nst,R.mrk,R.tie⟩
theorem Conc.S9 {vals:AV->Value->Prop}{Q:Post}{e:Exit}(h:Conc ⟨vals,true⟩ M w0 D0 N Q e a w):Conc ⟨vals,false⟩ M w0 D0 N Q e a w:=by
 cases e with
 |panic _=>exact h.elim
 |outgrown=>exact h.elim
 |normal=>obtain⟨f,H,β,hk,R⟩:=h;exact⟨f,H,β,hk,Rel.S9 (G:=⟨vals,true⟩) R⟩
 |ret=>obtain⟨f,H,β,hk,R⟩:=h;exact⟨f,H,β,hk,Rel.S9 (G:=⟨vals,true⟩) R⟩
 |exit id=>obtain⟨f,H,β,hk,R⟩:=h;exact⟨f,H,β,hk,Rel.S9 (G:=⟨vals,true⟩) R⟩
 |goto l=>obtain⟨f,H,β,hk,R⟩:=h;exact⟨f,H,β,hk,Rel.S9 (G:=⟨vals,true⟩) R⟩
def Es (P:Program)(g:Nat):Code:=match P.funcs[g]? with
 |some fn=>fn.body.getD .skip
 |none=>.skip
theorem J8 {fn:Func}{body:Code}(hf:P.funcs[g]?=some fn)(hb:fn.body=some body):Es P g=body:=by
 unfold Es;rw[hf];simp only[hb];rfl
def oG:Nat->Code->Option Code
 |0,c=>some c
 |n+1,.seq _ y=>oG n y
 |_+1,_=>none
theorem Fv:∀{n:Nat} {c d:Code},oG n c=some d->kT n c=d
 |0,c,d,h=>by simp only[oG,zaq]at h;exact h
 |n+1,.seq _ y,d,h=>by simp only[oG]at h;simp only[kT];exact Fv h
theorem Nk:∀{n:Nat} {c d:Code},oG n c=some d->codeOk N c=true->codeOk N d=true
 |0,c,d,h,hc=>by simp only[oG,zaq]at h;subst h;exact hc
 |n+1,.seq _ y,d,h,hc=>by
  simp only[oG]at h;simp only[codeOk,zaX]at hc;exact Nk h hc.2
theorem Nl:∀{n:Nat} {c d:Code},oG n c=some d->dM c=true->dM d=true
 |0,c,d,h,hc=>by simp only[oG,zaq]at h;subst h;exact hc
 |n+1,.seq _ y,d,h,hc=>by
  simp only[oG]at h;simp only[dM,zaX]at hc;exact Nl h hc.2
theorem En:∀{k:Nat} {c d:Code} (n:Nat),oG k c=some d->kT n d=kT (k+n) c
 |0,c,d,n,h=>by simp only[oG,zaq]at h;subst h;rw[za9]
 |k+1,.seq _ y,d,n,h=>by
  simp only[oG]at h;rw[Nat.add_right_comm];exact En n h
theorem b3R (hm:P.follows .mixedOrders=true){fn:Func}{body c:Code}(hf:P.funcs[g]?=some fn)(hb:fn.body=some body)(hd:codeOk fn.ntmps body=true)(hnr:dM body=true){k:Nat}(hk:oG k body=some c)(n:Nat)
  {S:Fr->Hp->Prop} {K:Exit->Act->World->Prop} {f:Fr} {H:Hp} {β:Nat->Value} {a:Act} {w:World} (R:Rel G M w0 D0 fn.ntmps f H β a w) (h:AWs P S n c (λ_ _ _=>False) f H)
  (hS:∀f H β a w,S f H->Rel G M w0 D0 fn.ntmps f H β a w->(kT (k+n) (Es P g)).wpIn (Wd none) 0 P K a w):(kT k (Es P g)).wpIn (Wd none) 0 P K a w:=by
 rw[J8 hf hb]at hS ⊢;rw[Fv hk];refine BL hm n c _ f H β a w (.inl (Nl hk hnr)) (Nk hk hd) h R (λf H β a w hs R=>?_) λe a w _ hc=>?_
 .have:=hS f H β a w hs R;rw[<-En n hk]at this;exact this
 .cases e with
  |panic _=>exact hc.elim
  |outgrown=>exact hc.elim
  |normal=>obtain⟨f,H,β,hk,R⟩:=hc;exact hk.elim
  |ret=>obtain⟨f,H,β,hk,R⟩:=hc;exact hk.elim
  |exit id=>obtain⟨f,H,β,hk,R⟩:=hc;exact hk.elim
  |goto l=>obtain⟨f,H,β,hk,R⟩:=hc;exact hk.elim
theorem AC.b2m (hm : P.follows .mixedOrders = true) {fn : Func} {body : Code} {rs : List ResultVar} (hf : P.funcs[g]? = some fn) (hb : fn.body = some body) (hr : fn.results.toList = rs) (hn : (fn.name == "runtime.NumGoroutine") = false)
  (hd:codeOk fn.ntmps body=true) (hnr:dM body=true) (hargs:Nat.ble args.length fn.ntmps=true) (n:Nat) (S:Nat->Fr->Hp->Prop)
  (hA:∀B,AWs P (S B) n body (a7L P rs none res) (kF args) (kL B))
  (hrest:∀(w:World) (D:Nat->Prop) (f:Fr) (H:Hp) (β:Nat->Value) (a:Act) (w':World),S w.heap.size f H->Rel ⟨λ_ _=>False,true⟩ (λ_=>False) w D fn.ntmps f H β a w' ->
   (kT n (Es P g)).wpIn (Wd none) 0 P (Conc ⟨λ_ _=>False,false⟩ (λ_=>False) w D fn.ntmps (a7L P rs none res)) a w'):AC P g args none res:=by
 subst hr;rw[J8 hf hb]at hrest;refine AC.of_wp (zi:=zi) hm hf hb hn (zcu hargs) λw D a hD hdf R=>?_;have Ee:∀h,¬(kL w.heap.size h).bI:=λh=>by
  unfold kL;split<;>exact id
 have hsub:∀b,DD (kL w.heap.size) (λ_=>default) D b->DD Dj (λ_=>default) D b:=by
  rintro b (hb|⟨k,hm,_⟩)
  .exact .inl hb
  .exact(Ee k hm).elim
 have hH:∀h c,kL w.heap.size h=c->c=.none\/c=.mrk w.heap.size:=λh c hc=>by
  unfold kL at hc;split at hc
  .exact .inr hc.symm
  .exact .inl hc.symm
 have R1:Rel ⟨λ_ _=>False,true⟩ (λ_=>False) w D fn.ntmps (kF args) (kL w.heap.size) (λ_=>default) a w:=by
  refine OJ R.nD hdf (λb hb=>⟨hD b hb,λh=>h⟩) (λt=>?_) (λh st e sz rows hh=>by rcases hH _ _ hh with h|h<;>cases h) (λh st e sz rows hh=>by rcases hH _ _ hh with h|h<;>cases h)
   (λh h' _ hm=>(Ee h hm).elim) (λh st e rows hh=>by rcases hH _ _ hh with h|h<;>cases h) (λh B hh=>by rcases hH _ _ hh with h|h<;>cases h;exact zab _) (λh x v hh=>by rcases hH _ _ hh with h|h<;>cases h)
  refine ak.mono (bD.of_sub hsub) (λh=>.inl ⟨?_,?_,rfl⟩) _ _ (R.tmps t)
  .unfold kL;split<;>rfl
  .unfold kL;split<;>rfl
 exact BL hm n body _ _ _ _ a w (.inl hnr) hd (hA w.heap.size) R1 (λf H β a w' hS R=>hrest w D f H β a w' hS R) λe a w' _ hc=>hc.S9
theorem Rep.fresh {D:Nat->Prop}{x:IV}{v:Value}(h:Rep w D x v):Rep w (λb=>D b\/w.heap.size<=b) x v :=
 h.mono ⟨zab _,λb hb h=>h.elim id λh=>absurd h (by omega),λ_ _ _ _=>rfl⟩
end
end Go.AL

namespace Go.AL
variable {zi:Zi}
open Go.RowKit
set_option linter.unusedSimpArgs false
set_option linter.unusedVariables false
variable {w w':World} {D D':Nat->Prop} {sz:Nat} {ro:Option Nat}
inductive Full:IV->Prop
 |int (k:IntKind) (n:Int):Full (.int k n)
 |bool (b:Bool):Full (.bool b)
 |raw (v:Value):Full (.raw v)
 |nil:Full (.sl [])
 |own (b:Option (Nat×Nat)) (e sz:Nat) (rows:List (List IV)) (h:∀r∈rows,∀x∈r,Full x):Full (.own b e sz rows)
theorem Rep.full {x:IV}{v:Value}(h:Rep w D x v):Full x->(∀g∈x.ids,w'.heap[g]?=w.heap[g]?/\¬D' g)->Rep w' D' x v:=by
 induction h with
 |int k n=>exact λ_ _=>.int k n
 |bool b=>exact λ_ _=>.bool b
 |raw v hv=>exact λ_ _=>.raw v hv
 |nil a cap hcap=>exact λ_ _=>.nil a cap hcap
 |sl rows g o cap sz cell hsz hlen hcap hg hD hc hr ih =>
  intro hf _;cases hf;exact .nil _ cap hcap
 |O9 e sz=>exact λ_ _=>.O9 e sz
 |own rows g cap e sz cur hsz hlen hcap hg hD hcs hr ih =>
  intro hf hk;cases hf with
  |own _ _ _ _ hf =>
   have h0:=hk g (by simp[IV.ids]);refine .own rows g cap e sz cur hsz hlen hcap (by rw[h0.1];exact hg) h0.2 hcs λi r hi j x hj=>ih i r hi j x hj (hf r (zat hi) x (zat hj)) λk hk'=>hk k ?_;simp only[IV.ids,zap];exact .inr (qC.2 ⟨r,zat hi,iH.2 ⟨x,zat hj,hk'⟩⟩)
 |av X x v hx ih=>exact λhf=>by cases hf
theorem dY.full:∀{xs:List IV} {vs:List Value},dY w D xs vs->(∀x∈xs,Full x)->(∀g∈iV xs,w'.heap[g]?=w.heap[g]?/\¬D' g)->dY w' D' xs vs
 |[],[],_,_,_=>zar
 |x::xs,v::vs,h,hf,hk=>⟨h.1.full (hf x (by simp)) λg hg=>hk g (by simp[iV,hg]),h.2.full (λy hy=>hf y (by simp[hy])) λg hg=>hk g (by simp[iV,hg])⟩
 |[],_::_,h,_,_=>h.elim
 |_::_,[],h,_,_=>h.elim
theorem Iz:∀(rows:List (List IV)),(∀r∈rows,r.length=sz)->∀(k:Nat) (x:IV),rows.flatten[k]?=some x->∃r,rows[k/sz]?=some r/\r[k%sz]?=some x
 |[],_,k,x,h=>by simp at h
 |r::rs,hs,k,x,h=>by
  have h0:=hs r (by simp);rw[zbI]at h;by_cases hk:k<sz
  .rw[zbB (by omega)]at h;rw[za6 hk,zan hk];exact⟨r,rfl,h⟩
  .rw[za2 (by omega),h0]at h;obtain⟨q,h1,h2⟩:=Iz rs (λr hr=>hs r (by simp[hr])) _ x h;rcases za8 sz with hz|hz
   .subst hz;rw[Nat.mod_zero]at h2;have hq:=hs q (by simp[zat h1]);have:q=[]:=zbt hq;subst this;simp at h2
   .have e1:k/sz=(k-sz)/sz+1:=by
     rw[show k=(k-sz)+sz by omega,Nat.add_div_right _ hz];simp
    have e2:k%sz=(k-sz)%sz:=by
     rw[show k=(k-sz)+sz by omega,zeQ];simp
    rw[e1,e2];exact⟨q,by simpa using h1,h2⟩
theorem Ar {rows:List (List IV)}{cur:Array Value}(hsz:∀r∈rows,r.length=sz)(hc:rows.length*sz<=cur.size)
  (h:∀(i:Nat) (r:List IV),rows[i]?=some r->∀(j:Nat) (x:IV),r[j]?=some x->Rep w D x (cur.getD (i*sz+j) Go.undef)):dY w D rows.flatten (cur.toList.take (rows.length*sz)):=by
 refine dY.Kv ?_ λk x hk=>?_
 .have e1:cur.toList.length=cur.size:=zbL;rw[dB rows hsz,zah,e1];omega
 .obtain⟨r,h1,h2⟩:=Iz rows hsz k x hk;have hlt:=(zao.1 hk).1;rw[dB rows hsz]at hlt;have:=h _ r h1 _ x h2;rw[zaA,zbl]at this;refine⟨_,?_,this⟩;rw[zbH,zas hlt,zbC,zb6 (by omega),zal,zb6 (by omega)];rfl
section
variable {G:Gh} {M:Nat->Prop} {w0:World} {D0:Nat->Prop} {N:Nat} {P:Program} {f:Fr} {H:Hp} {β:Nat->Value} {a:Act} {w:World}
theorem Rel.jump (R:Rel G M w0 D0 N f H β a w)(hG:∀x v,¬G.vals x v){f':Fr}{H':Hp}{β':Nat->Value}{a':Act}{w':World}(hos:w'.os=w.os)(htape:w'.tape=w.tape)(hout:w'.output=w.output)(hsz:w.heap.size<=w'.heap.size)
  (hk:∀k,k<w0.heap.size->¬M k->w'.heap[k]?=w.heap[k]?) (hts:a'.tmps.size=N) (hdf:a'.defers=[])
  (htm:∀t,ak w' (DD H' β' D0) H' β' (f' t) (a'.tmps.getD t Go.undef))
  (hown:∀h st e sz rows,H' h=.blk false st e sz rows->Own w' (DD H' β' D0) w0.heap.size M (β' h) e sz rows)
  (hfz:∀h st e sz rows,H' h≠.blk true st e sz rows)
  (hdis:∀h h',h≠h'->(H' h).bI->(H' h').bI->∀g,aF (β' h)=some g->aF (β' h')≠some g)
  (b7p:∀h st e rows,H' h=.nst st e rows->Ob w' (DD H' β' D0) H' β' w0.heap.size M (β' h) e rows)
  (a2t:∀h B,H' h=.mrk B->B<=w'.heap.size) (htie:∀h x v,H' h=.tie x v->ak w' (DD H' β' D0) H' β' x v):Rel G M w0 D0 N f' H' β' a' w' :=
 ⟨hos.trans R.os,htape.trans R.tape,hout.trans R.output,zad R.size hsz,λk h1 h2=>(hk k h1 h2).trans (R.keep k h1 h2),R.old,hts,λd hd=>(by rw[hdf]at hd;cases hd),λ_=>hdf,(by rw[hdf];exact zcb),λx v h=>(hG x v h).elim,htm,hown,λh st e sz rows hh=>(hfz h st e sz rows hh).elim,hdis,b7p,a2t,htie⟩
theorem yE {ops:Array Oper}{a5p:List Oper}{K:Fr->Hp->Log->Prop}{Q:Exit->Act->World->Prop}(hQ:∀f H lg β a w,K f H lg->Rel G M w0 D0 N f H β a w->wpListIn (Wd ro) 0 P ops Q a5p a w) :
  ∀(rest:List Oper) (f:Fr) (H:Hp) (lg:Log) (β:Nat->Value) (a:Act) (w:World),(∀o∈rest,∀d,o.dst=some d->d<N)->fV P (zO ops) rest K f H lg->Rel G M w0 D0 N f H β a w->wpListIn (Wd ro) 0 P ops Q (rest++a5p) a w
 |[],f,H,lg,β,a,w,_,h,R=>hQ f H lg β a w h R
 |o::rest,f,H,lg,β,a,w,hd,h,R=>by
  have hdo:=hd o (by simp);have hdr:∀o∈rest,∀d,o.dst=some d->d<N:=λo ho=>hd o (by simp[ho])
  have run:Oc P o (fV P (zO ops) rest K) f H lg->o.wpIn (Wd ro) 0 P a w (wpListIn (Wd ro) 0 P ops Q (rest++a5p)) Q:=by
   intro h;rcases FM h with ⟨u,rd,hs,hk,_⟩|⟨rd0,R0,_,hs,hk⟩|⟨Z,_,hs,hk⟩
   .exact hs f H (λ_ _=>rfl) (λ_ _=>rfl) G M w0 D0 N β a w hdo R _ _ (λa' w' β' R'=>yE hQ rest _ _ _ β' a' w' hdr hk R') ro
   .exact hs f H (λ_ _=>rfl) (λ_ _=>rfl) G M w0 D0 N β a w hdo R _ _ (λu a' w' β' h1 R'=>yE hQ rest _ _ _ β' a' w' hdr (hk u h1).2.2 R') ro
   .exact hs G M w0 D0 N β a w hdo R _ _ (λx H' a' w' β' hz R'=>yE hQ rest _ _ _ β' a' w' hdr (hk x H' hz) R') ro
  simp only[fV]at h;simp only[List.cons_append,wpListIn];cases hg:o.guard with
  |none =>
   rw[hg]at h;simp only[Region.wanted,hg,zcm];exact run h
  |some p =>
   obtain⟨j,want⟩:=p;rw[hg]at h;have hy:=CP R (ops:=ops) (j:=j);simp only[Region.wanted,hg];simp only at h;split at h
   .rename_i b hb;rw[hy.1 b hb];by_cases hbw:b=want
    .subst hbw;simp only[zcm]at h;simp only[zep,zcm];exact run h
    .simp only[hbw,zbo]at h;rw[zam (by simp[hbw])];exact⟨λ_ _=>zar,yE hQ rest _ _ _ β _ w hdr h (R.skip hdo)⟩
   .rename_i hb;rw[hy.2 hb];rw[zam (by simp)];exact⟨λ_ _=>zar,yE hQ rest _ _ _ β _ w hdr h (R.skip hdo)⟩
   .exact h.elim
theorem a3H {l l1 l2 rest:List Oper}{K:Fr->Hp->Log->Prop}{Q:Exit->Act->World->Prop}(hl:rest=l1++l2)(hd:∀o∈l1,∀d,o.dst=some d->d<N)(R:Rel G M w0 D0 N f H β a w)(h:fV P (l.map (·.dst)) l1 K f H [])
  (k:∀f H lg β a w,K f H lg->Rel G M w0 D0 N f H β a w->wpListIn (Wd ro) 0 P l.toArray Q l2 a w):wpListIn (Wd ro) 0 P l.toArray Q rest a w:=by
 subst hl;exact yE (ro:=ro) (ops:=l.toArray) (a5p:=l2) (Q:=Q) k l1 f H [] β a w hd h R
theorem a6z {ops:Array Oper}{o:Oper}{rest:List Oper}{Q:Exit->Act->World->Prop}(hg:o.guard=none)(h:o.wpIn (Wd ro) 0 P a w (wpListIn (Wd ro) 0 P ops Q rest) Q):wpListIn (Wd ro) 0 P ops Q (o::rest) a w:=by
 simp only[wpListIn,Region.wanted,hg,zcm];exact h
theorem qL.mono {g:Nat}{vs:List Value}{R R':Value->World->Prop}(h:qL P g vs w R)(hr:∀v w',R v w'->R' v w'):qL P g vs w R':=by
 rcases h with ⟨fn,h1,h2,h3,h4⟩|⟨v,w',h1,h2⟩
 .exact .inl ⟨fn,h1,h2,h3,h4.mono λe w' ⟨v,he,hv⟩=>⟨v,he,hr v w' hv⟩⟩
 .exact .inr ⟨v,w',h1,hr v w' h2⟩
theorem Rel.b7C (R:Rel G M w0 D0 N f H β a w){b:Nat}(h:DD H β D0 b):b<w.heap.size:=by
 rcases h with h|⟨k,hm,hk⟩
 .exact zau (R.old b h).1 R.size
 .exact(R.iG hm hk).1
end
end Go.AL
