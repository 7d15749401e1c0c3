/-
 The abstract logic: whole functions.
-/
import Derived.Test.YtdpngipofekcfaaGreatAbsK
import Derived.Test.YtdpngipofekcfaaGreatAbsDM
namespace Go.AL
variable {zi:Zi}
open Go.RowKit
set_option linter.unusedSimpArgs false
set_option linter.unusedVariables false
variable {f:Fr} {H:Hp} {β:Nat->Value} {a:Act} {w:World} {fn:Func} {i e sz B g:Nat} {rows' rows:List (List IV)} {D M:Nat->Prop} {v:Value} {body:Code} {avs:List AV} {Z:AV->Hp->Prop}
abbrev Post:=Exit->Fr->Hp->Prop
def Rl (K:Fr->Hp->Prop)(Q:Post):Post
 |.normal,f,H=>K f H
 |e,f,H=>Q e f H
def vT (id:Nat)(Q:Post):Post
 |.exit id',f,H=>if id'=id then Q .normal f H else Q (.exit id') f H
 |e,f,H=>Q e f H
def Jf (Q:Post):Post
 |.goto _,_,_=>False
 |e,f,H=>Q e f H
def Ji (I:Fr->Hp->Prop)(μ:Fr->Hp->Nat)(n:Nat)(Q:Post):Post
 |.normal,f,H=>I f H/\μ f H<n
 |e,f,H=>Q e f H
def b2G (ops:Array Oper)(Q:Post)(f:Fr)(H:Hp)(lg:Log):Prop:=Bg ops lg.reverse=true/\Q .normal f H
def Rx (Q:Post)(f:Fr)(H:Hp)(_:Log):Prop:=Q .normal f H
def fJ (f:Fr)(H:Hp)(t h:Nat):Fr:=upd f t (.hs h ((H h).stamp+1))
def fH (H:Hp)(h e sz:Nat):Hp:=bW H h (.blk false ((H h).stamp+1) e sz [])
inductive Weak:Fr->Hp->Fr->Hp->Prop
 |refl (f:Fr) (H:Hp):Weak f H f H
 |nil (t h e sz:Nat) {f f':Fr} {H H':Hp} (hf:f t=.vY) (k:Weak (fJ f H t h) (fH H h e sz) f' H'):Weak f H f' H'
 |b5Q (t:Nat) {f f':Fr} {H H':Hp} (hf:f t=.vY) (k:Weak (upd f t (.iv (.sl []))) H f' H'):Weak f H f' H'
 |b7Z (t e sz:Nat) {f f':Fr} {H H':Hp} (hf:f t=.vY) (k:Weak (upd f t (.iv (.own none e sz []))) H f' H'):Weak f H f' H'
 |ren (t h h' st e sz:Nat) (rows:List (List IV)) {f f':Fr} {H H':Hp} (hf:f t=.hs h st) (hH:H h=.blk false st e sz rows) (hne:h≠h') (k:Weak (upd f t (.hs h' ((H h').stamp+1))) (bW (bW H h (.blk true (st+1) e sz [])) h' (.blk false ((H h').stamp+1) e sz rows)) f' H'):Weak f H f' H'
 |iv (t h st:Nat) (b:Bool) (e sz:Nat) (rows:List (List IV)) {f f':Fr} {H H':Hp} (hf:f t=.hs h st) (hH:H h=.blk b st e sz rows) (k:Weak (upd f t (.iv (.sl rows))) (bW H h (.blk true st e sz rows)) f' H'):Weak f H f' H'
 |b9E (h st e:Nat) {f f':Fr} {H H':Hp} (hH:H h=.blk false st e 1 []) (k:Weak f (bW H h (.nst st e [])) f' H'):Weak f H f' H'
 |b9x (t h h' st i off e:Nat) (rows:List AV) {f f':Fr} {H H':Hp} (hf:f t=.hp h st i off) (hH:H h=.nst st e rows) (hne:h≠h') (k:Weak (upd f t (.hp h' ((H h').stamp+1) i off)) (bW (bW H h (.gone (st+1) 1)) h' (.nst ((H h').stamp+1) e rows)) f' H'):Weak f H f' H'
def b2W (v:AV)(X Y:Prop):Prop :=
 match v with
 |.iv (.bool b)=>(b=true->X)/\(b=false->Y)
 |.ub=>X/\Y
 |_=>False
def AW [Zi] (P:Program):Code->Post->Fr->Hp->Prop
 |.skip,Q,f,H=>Q .normal f H
 |.region _ ops false,Q,f,H=>fV P (zO ops) ops.toList (Rx Q) f H []
 |.region _ ops true,Q,f,H=>(JJ ops=true/\fV P (zO ops) ops.toList (b2G ops Q) f H []) \/
   ∃ord inv,PE ops.toList ord inv=true/\JJ (mg ops.toList ord inv).toArray=true/\fV P (zO (mg ops.toList ord inv).toArray) (mg ops.toList ord inv) (b2G (mg ops.toList ord inv).toArray Q) f H []
 |.seq x y,Q,f,H=>AW P x (Rl (AW P y Q) Q) f H
 |.cond c x y,Q,f,H=>b2W (ev f c) (AW P x Q f H) (AW P y Q f H)
 |.block id c,Q,f,H=>AW P c (vT id Q) f H
 |.loop c,Q,f,H=>∃(I:Fr->Hp->Prop) (μ:Fr->Hp->Nat),(∃f' H',Weak f H f' H'/\I f' H')/\∀f H,I f H->AW P c (Ji I μ (μ f H) Q) f H
 |.exit id,Q,f,H=>Q (.exit id) f H
 |.scope c,Q,f,H=>AW P c (Jf Q) f H
 |.label _,Q,f,H=>Q .normal f H
 |.ret,Q,f,H=>Q .ret f H
 |.rangeFunc g ps assign body,Q,f,H=>∃(f1:Fr) (H1:Hp) (gf:Nat) (l:List AV) (c:Prop) (caps:List (List IV)) (ms:List Nat) (n:Nat) (it:Nat->List CV) (I:Nat->Hp->Prop) (J:Code->Hp->Prop),
   Weak f H f1 H1/\ev f1 g=.fn gf l/\oI H1 l=some (c,caps,ms)/\c/\b5C P gf caps ps.size n it/\I 0 (aH ms H1) /\
   (∀k H2,k<n->I k H2->AW P assign (b7L λf3 H3=>AW P body (yR I J k) f3 H3) (lays f1 ps.toList ((it k).map CV.av)) H2) /\
   (∀H2,I n H2->Q .normal f1 H2)/\(∀H2,J .ret H2->Q .ret f1 H2)/\(∀id H2,J (.exit id) H2->Q (.exit id) f1 H2)
 |_,_,_,_=>False
def dM:Code->Bool
 |.seq x y=>dM x && dM y
 |.cond _ x y=>dM x && dM y
 |.block _ c=>dM c
 |.loop c=>dM c
 |.scope c=>dM c
 |.rangeFunc ..=>false
 |_=>true
def codeOk (N:Nat):Code->Bool
 |.region _ ops _=>ops.toList.all λo=>match o.dst with|some d=>decide (d<N)|none=>true
 |.seq x y=>codeOk N x && codeOk N y
 |.cond _ x y=>codeOk N x && codeOk N y
 |.block _ c=>codeOk N c
 |.loop c=>codeOk N c
 |.scope c=>codeOk N c
 |.rangeFunc _ ps x y=>ps.toList.all (λp=>decide (p<N)) && codeOk N x && codeOk N y && dM x && dM y
 |_=>true
section
variable {P:Program} {G:Gh} {M:Nat->Prop} {w0:World} {D0:Nat->Prop} {N:Nat}
theorem Rel.qY (R:Rel G M w0 D0 N f H β a w){t:Nat}{v:Value}(ht:t<N)(hx:a.tmps.getD t Go.undef=v):a.put (some t) v=a:=by
 have h1:t<a.tmps.size:=by rw[R.nD];exact ht
 have h2:a.tmps[t]=v:=by
  rw[zal,zb6 h1]at hx;exact hx
 have h3:a.tmps.setIfInBounds t v=a.tmps:=by
  rw[Array.setIfInBounds,dif_pos h1,<-h2];exact Array.set_getElem_self h1
 show ({ a with tmps:=a.tmps.setIfInBounds t v }:Act)=a;rw[h3]
theorem Rel.rF (R:Rel G M w0 D0 N f H β a w){t:Nat}(h:∀v,a.tmps.getD t Go.undef=v->v≠Go.undef):t<N:=by
 rcases zbh t N with h'|h'
 .exact h'
 .exact(h _ (by rw[zal,Array.getElem?_eq_none (by rw[R.nD];exact h')];rfl) rfl).elim
theorem Rel.weak {f f':Fr}{H H':Hp}(k:Weak f H f' H'):∀{β:Nat->Value} {a:Act} {w:World},Rel G M w0 D0 N f H β a w->∃β',Rel G M w0 D0 N f' H' β' a w:=by
 induction k with
 |refl f H=>exact λR=>⟨_,R⟩
 |nil t h e sz hf k ih =>
  rename_i f f' H H';intro β a w R;have hx:=R.tmps t;rw[hf]at hx;simp only[ak]at hx;have ht:t<N:=by
   rcases Nat.lt_or_ge t N with h|h
   .exact h
   .rw[Array.getD_eq_getD_getElem?,Array.getElem?_eq_none (by rw[R.nD];exact h)]at hx;cases hx
  obtain⟨β',hb,_,R'⟩:=R.fresh (w':=w) (h:=h) (e:=e) (sz:=sz) (rows:=[]) (v:=.slice none 0 0) (dst:=some t) (x:=.hs h ((H h).stamp+1)) (val:=.slice none 0 0) (st:=(H h).stamp+1) (by omega) rfl rfl rfl (Nat.le_refl _) (λ_ _=>rfl)
   ⟨by simp,.inl ⟨rfl,rfl⟩⟩ (λβ' hb D=>by simp only[ak,aA,HC.stamp];exact⟨Nat.le_refl _,λ_=>hb.symm⟩) (by rintro _ ⟨⟩;exact ht)
  have hput:a.put (some t) (.slice none 0 0)=a:=by
   have h1:t<a.tmps.size:=by rw[R.nD];exact ht
   have h2:a.tmps[t]=.slice none 0 0:=by
    rw[Array.getD_eq_getD_getElem?,Array.getElem?_eq_getElem h1]at hx;exact hx
   have h3:a.tmps.setIfInBounds t (.slice none 0 0)=a.tmps:=by
    rw[Array.setIfInBounds,dif_pos h1,<-h2];exact Array.set_getElem_self h1
   show ({ a with tmps:=a.tmps.setIfInBounds t (.slice none 0 0) }:Act)=a;rw[h3]
  rw[hput]at R';exact ih R'
 |b5Q t hf k ih =>
  rename_i f f' H H';intro β a w R;have hx:=R.tmps t;rw[hf]at hx;simp only[ak]at hx;have ht:t<N:=R.rF (t:=t) (λv hv=>by rw[hx]at hv;subst hv;intro h;cases h);have R':=R.value (dst:=some t) (v:=.iv (.sl [])) (val:=.slice none 0 0) (by simp only[ak];exact .nil none 0 (Nat.zero_le _)) (by rintro _ ⟨⟩;exact ht);rw[R.qY ht hx]at R';exact ih R'
 |b7Z t e sz hf k ih =>
  rename_i f f' H H';intro β a w R;have hx:=R.tmps t;rw[hf]at hx;simp only[ak]at hx;have ht:t<N:=R.rF (t:=t) (λv hv=>by rw[hx]at hv;subst hv;intro h;cases h);have R':=R.value (dst:=some t) (v:=.iv (.own none e sz [])) (val:=.slice none 0 0) (by simp only[ak];exact .O9 e sz) (by rintro _ ⟨⟩;exact ht);rw[R.qY ht hx]at R';exact ih R'
 |ren t h h' st e sz rows hf hH hne k ih =>
  rename_i f f' H H';intro β a w R;have hx:=R.tmps t;rw[hf]at hx;simp only[ak]at hx;have hv:a.tmps.getD t Go.undef=β h:=hx.2 (by rw[hH];rfl);have ho:=R.own h _ _ _ _ hH;have ht:t<N:=R.rF (t:=t) (λv hv'=>by
   rw[hv]at hv';rcases ho.2 with ⟨_,hn⟩|⟨g,cap,cur,hn,_⟩<;>(rw[hn]at hv';subst hv';intro h;cases h))
  obtain⟨β2,b2X⟩:∃β2:Nat->Value,β2=λu=>if u=h' then β h else if u=h then .slice none 0 0 else β u:=⟨_,rfl⟩
  have b1:β2 h'=β h:=by rw[b2X];simp
  have b2:β2 h=.slice none 0 0:=by rw[b2X];simp[hne]
  have b3:∀u,u≠h->u≠h'->β2 u=β u:=λu h1 h2=>by rw[b2X];simp[h1,h2]
  have c1:bW (bW H h (.blk true (st+1) e sz [])) h' (.blk false ((H h').stamp+1) e sz rows) h'=.blk false ((H h').stamp+1) e sz rows:=aA _ _ _;have c2:bW (bW H h (.blk true (st+1) e sz [])) h' (.blk false ((H h').stamp+1) e sz rows) h=.blk true (st+1) e sz []:=by rw[aB _ _ hne,aA]
  have c3:∀u,u≠h->u≠h'->bW (bW H h (.blk true (st+1) e sz [])) h' (.blk false ((H h').stamp+1) e sz rows) u=H u:=λu h1 h2=>by rw[aB _ _ h2,aB _ _ h1]
  generalize bW (bW H h (.blk true (st+1) e sz [])) h' (.blk false ((H h').stamp+1) e sz rows)=H2 at *;have hsub:∀b,DD H2 β2 D0 b->DD H β D0 b:=by
   rintro b (hb|⟨u,hm,hk⟩)
   .exact .inl hb
   .by_cases h1:u=h
    .subst h1;rw[c2]at hm;exact hm.elim
    .by_cases h2:u=h'
     .subst h2;rw[b1]at hk;exact .inr ⟨h,by rw[hH];trivial,hk⟩
     .rw[c3 u h1 h2]at hm;rw[b3 u h1 h2]at hk;exact .inr ⟨u,hm,hk⟩
  have g:bD w (DD H β D0) w (DD H2 β2 D0):=bD.of_sub hsub;have R':=R.step (w':=w) (H':=H2) (β':=β2) (dst:=some t) (v:=.hs h' ((H h').stamp+1)) (val:=a.tmps.getD t Go.undef) rfl rfl rfl g (λ_ _ _=>rfl) (λ_ _ h=>h) (λu=>?_) ?_ (λu st1 e1 sz1 vV hu=>?_) (λu st1 e1 sz1 vV hu=>?_) (λu u' huu hm hm' kk hk hk'=>?_) (λu st1 e1 vV hu=>?_) (λu B hu=>by
   by_cases h1:u=h
   .subst h1;rw[c2]at hu;cases hu
   .by_cases h2:u=h'
    .subst h2;rw[c1]at hu;cases hu
    .rw[c3 u h1 h2]at hu;exact R.mrk u B hu) (by rintro _ ⟨⟩;exact ht) (λu x v hu=>by
   by_cases h1:u=h
   .subst h1;rw[c2]at hu;cases hu
   .by_cases h2:u=h'
    .subst h2;rw[c1]at hu;cases hu
    .rw[c3 u h1 h2]at hu;exact hu)
  .rw[R.qY ht rfl]at R';exact ih R'
  .by_cases h1:u=h
   .subst h1;right;rw[c2,hH];simp[HC.stamp]
   .by_cases h2:u=h'
    .subst h2;right;rw[c1];simp[HC.stamp]
    .left;rw[c3 u h1 h2,b3 u h1 h2];exact⟨rfl,rfl,rfl⟩
  .simp only[ak,c1,HC.stamp,b1];exact⟨Nat.le_refl _,λ_=>hv⟩
  .by_cases h1:u=h
   .subst h1;rw[c2]at hu;cases hu
   .by_cases h2:u=h'
    .subst h2;rw[c1]at hu;injection hu with _ q1 q2 q3 q4;subst q1 q2 q3 q4;rw[b1];exact ho.mono g λ_ _=>rfl
    .rw[c3 u h1 h2]at hu;rw[b3 u h1 h2];exact(R.own u _ _ _ _ hu).mono g λ_ _=>rfl
  .by_cases h1:u=h
   .subst h1;rw[c2]at hu;injection hu with _ q1 q2 q3 q4;subst q1 q2 q3 q4;rw[b2];exact⟨by simp,.nil _ _ (Nat.zero_le _),λad n cap hv=>by cases hv⟩
   .by_cases h2:u=h'
    .subst h2;rw[c1]at hu;cases hu
    .rw[c3 u h1 h2]at hu;rw[b3 u h1 h2];exact⟨(R.frz u _ _ _ _ hu).1,(R.frz u _ _ _ _ hu).2.1.mono g,(R.frz u _ _ _ _ hu).2.2⟩
  .have key:∀u u',u≠u'->(H2 u).bI->(H2 u').bI->u≠h'->aF (β2 u)=some kk->aF (β2 u')≠some kk:=by
    intro u u' huu hm hm' hu hk hk';have h1:u≠h:=λe=>by subst e;rw[c2]at hm;exact hm.elim
    have h1':u'≠h:=λe=>by subst e;rw[c2]at hm';exact hm'.elim
    rw[c3 u h1 hu]at hm;rw[b3 u h1 hu]at hk;by_cases h2:u'=h'
    .subst h2;rw[b1]at hk';exact R.dis u h h1 hm (by rw[hH];trivial) kk hk hk'
    .rw[c3 u' h1' h2]at hm';rw[b3 u' h1' h2]at hk';exact R.dis u u' huu hm hm' kk hk hk'
   by_cases hu:u=h'
   .exact key u' u (Ne.symm huu) hm' hm (λe=>huu (hu.trans e.symm)) hk' hk
   .exact key u u' huu hm hm' hu hk hk'
  .have h1:u≠h:=λe=>by subst e;rw[c2]at hu;cases hu
   have h2:u≠h':=λe=>by subst e;rw[c1]at hu;cases hu
   rw[c3 u h1 h2]at hu;rw[b3 u h1 h2];refine(R.nst u _ _ _ hu).mono g (λu=>?_) λ_ _=>rfl;by_cases h1:u=h
   .subst h1;right;rw[c2,hH];simp[HC.stamp]
   .by_cases h2:u=h'
    .subst h2;right;rw[c1];simp[HC.stamp]
    .left;rw[c3 u h1 h2,b3 u h1 h2];exact⟨rfl,rfl,rfl⟩
 |b9x t h h' st i off e rows hf hH hne k ih =>
  rename_i f f' H H';intro β a w R;have hx:=R.tmps t;rw[hf]at hx;simp only[ak]at hx;obtain⟨g0,n0,cap0,hg0,hv⟩:=hx.2 (by rw[hH];rfl);have ho:=R.nst h _ _ _ hH;have ht:t<N:=R.rF (t:=t) (λv hv'=>by
   rw[hv]at hv';subst hv';intro h;cases h)
  obtain⟨β2,b2X⟩:∃β2:Nat->Value,β2=λu=>if u=h' then β h else if u=h then .slice none 0 0 else β u:=⟨_,rfl⟩
  have b1:β2 h'=β h:=by rw[b2X];simp
  have b3:∀u,u≠h->u≠h'->β2 u=β u:=λu h1 h2=>by rw[b2X];simp[h1,h2]
  have c1:bW (bW H h (.gone (st+1) 1)) h' (.nst ((H h').stamp+1) e rows) h'=.nst ((H h').stamp+1) e rows:=aA _ _ _;have c2:bW (bW H h (.gone (st+1) 1)) h' (.nst ((H h').stamp+1) e rows) h=.gone (st+1) 1:=by rw[aB _ _ hne,aA]
  have c3:∀u,u≠h->u≠h'->bW (bW H h (.gone (st+1) 1)) h' (.nst ((H h').stamp+1) e rows) u=H u:=λu h1 h2=>by rw[aB _ _ h2,aB _ _ h1]
  generalize bW (bW H h (.gone (st+1) 1)) h' (.nst ((H h').stamp+1) e rows)=H2 at *;have hsub:∀b,DD H2 β2 D0 b->DD H β D0 b:=by
   rintro b (hb|⟨u,hm,hk⟩)
   .exact .inl hb
   .by_cases h1:u=h
    .subst h1;rw[c2]at hm;exact hm.elim
    .by_cases h2:u=h'
     .subst h2;rw[b1]at hk;exact .inr ⟨h,by rw[hH];trivial,hk⟩
     .rw[c3 u h1 h2]at hm;rw[b3 u h1 h2]at hk;exact .inr ⟨u,hm,hk⟩
  have g:bD w (DD H β D0) w (DD H2 β2 D0):=bD.of_sub hsub;have hstep:iR H β H2 β2:=λu=>by
   by_cases h1:u=h
   .subst h1;right;rw[c2,hH];simp[HC.stamp]
   .by_cases h2:u=h'
    .subst h2;right;rw[c1];simp[HC.stamp]
    .left;rw[c3 u h1 h2,b3 u h1 h2];exact⟨rfl,rfl,rfl⟩
  have R':=R.step (w':=w) (H':=H2) (β':=β2) (dst:=some t) (v:=.hp h' ((H h').stamp+1) i off) (val:=a.tmps.getD t Go.undef) rfl rfl rfl g (λ_ _ _=>rfl) (λ_ _ h=>h) hstep ?_ (λu st1 e1 sz1 vV hu=>?_) (λu st1 e1 sz1 vV hu=>?_) (λu u' huu hm hm' kk hk hk'=>?_) (λu st1 e1 vV hu=>?_) (λu B hu=>by
   by_cases h1:u=h
   .subst h1;rw[c2]at hu;cases hu
   .by_cases h2:u=h'
    .subst h2;rw[c1]at hu;cases hu
    .rw[c3 u h1 h2]at hu;exact R.mrk u B hu) (by rintro _ ⟨⟩;exact ht) (λu x v hu=>by
   by_cases h1:u=h
   .subst h1;rw[c2]at hu;cases hu
   .by_cases h2:u=h'
    .subst h2;rw[c1]at hu;cases hu
    .rw[c3 u h1 h2]at hu;exact hu)
  .rw[R.qY ht rfl]at R';exact ih R'
  .simp only[ak,c1,HC.stamp,b1];refine⟨Nat.le_refl _,λ_=>⟨g0,n0,cap0,hg0,?_⟩⟩;rw[hv,hH];rfl
  .by_cases h1:u=h
   .subst h1;rw[c2]at hu;cases hu
   .by_cases h2:u=h'
    .subst h2;rw[c1]at hu;cases hu
    .rw[c3 u h1 h2]at hu;rw[b3 u h1 h2];exact(R.own u _ _ _ _ hu).mono g λ_ _=>rfl
  .by_cases h1:u=h
   .subst h1;rw[c2]at hu;cases hu
   .by_cases h2:u=h'
    .subst h2;rw[c1]at hu;cases hu
    .rw[c3 u h1 h2]at hu;rw[b3 u h1 h2];exact⟨(R.frz u _ _ _ _ hu).1,(R.frz u _ _ _ _ hu).2.1.mono g,(R.frz u _ _ _ _ hu).2.2⟩
  .have key:∀u u',u≠u'->(H2 u).bI->(H2 u').bI->u≠h'->aF (β2 u)=some kk->aF (β2 u')≠some kk:=by
    intro u u' huu hm hm' hu hk hk';have h1:u≠h:=λe=>by subst e;rw[c2]at hm;exact hm.elim
    have h1':u'≠h:=λe=>by subst e;rw[c2]at hm';exact hm'.elim
    rw[c3 u h1 hu]at hm;rw[b3 u h1 hu]at hk;by_cases h2:u'=h'
    .subst h2;rw[b1]at hk';exact R.dis u h h1 hm (by rw[hH];trivial) kk hk hk'
    .rw[c3 u' h1' h2]at hm';rw[b3 u' h1' h2]at hk';exact R.dis u u' huu hm hm' kk hk hk'
   by_cases hu:u=h'
   .exact key u' u (Ne.symm huu) hm' hm (λe=>huu (hu.trans e.symm)) hk' hk
   .exact key u u' huu hm hm' hu hk hk'
  .by_cases h1:u=h
   .subst h1;rw[c2]at hu;cases hu
   .by_cases h2:u=h'
    .subst h2;rw[c1]at hu;injection hu with q1 q2 q3;subst q1 q2 q3;rw[b1];exact ho.mono g hstep λ_ _=>rfl
    .rw[c3 u h1 h2]at hu;rw[b3 u h1 h2];exact(R.nst u _ _ _ hu).mono g hstep λ_ _=>rfl
 |b9E h st e hH k ih =>
  intro β a w R;exact ih (R.nest (vs:=[]) (xs:=[]) hH (by simp[aG]))
 |iv t h st b e sz rows hf hH k ih =>
  rename_i f f' H H';intro β a w R;have R1:=R.freeze h;rw[hH]at R1;simp only[HC.frz]at R1;have hfr:=R1.frz h st e sz rows (by rw[aA]);have hx:=R1.tmps t;rw[hf]at hx;simp only[ak,aA,HC.stamp]at hx;have hv:=hx.2 trivial;have hrep:=hfr.2.1;rw[<-hv]at hrep;have ht:t<N:=R.rF (t:=t) (λv hv'=>by rw[hv']at hrep;intro h;rw[h]at hrep;cases hrep);have R':=R1.value (dst:=some t) (v:=.iv (.sl rows)) (val:=a.tmps.getD t Go.undef) (by simp only[ak];exact hrep) (by rintro _ ⟨⟩;exact ht);rw[R.qY ht rfl]at R';exact ih R'
theorem dX (hm:P.follows .mixedOrders=true):∀(c:Code) (ro:Option Nat) (G:Gh) (M:Nat->Prop) (w0:World) (Q:Post) (f:Fr) (H:Hp) (β:Nat->Value) (a:Act) (w:World),(dM c=true\/(ro=none/\G.rnd=false))->codeOk N c=true->AW P c Q f H->Rel G M w0 D0 N f H β a w->c.wpIn (Wd ro) 0 P (Conc G M w0 D0 N Q) a w
 |.skip,ro,G,M,w0,Q,f,H,β,a,w,hro,_,h,R=>wpIn_skip ⟨f,H,β,h,R⟩
 |.region id ops false,ro,G,M,w0,Q,f,H,β,a,w,hro,hd,h,R=>by
  simp only[codeOk,zby]at hd;refine wpIn_region_list (um (λf H lg β a w hk R=>⟨f,H,β,hk,R⟩) ops.toList f H [] β a w (λo ho d hod=>?_) h R);have:=hd o ho;rw[hod]at this;simpa using this
 |.region id ops true,ro,G,M,w0,Q,f,H,β,a,w,hro,hd,h,R=>by
  simp only[codeOk,zby]at hd;have hdst:∀o∈ops.toList,∀d,o.dst=some d->d<N:=λo ho d hod=>by
   have:=hd o ho;rw[hod]at this;simpa using this
  rcases h with ⟨h1,h2⟩|⟨ord,inv,h0,h1,h2⟩
  .refine wpIn_region_any hm (Xo (f:=f) (H:=H) (β:=β) (λi hi d hod=>?_) (λf H lg hk=>⟨hk.1,λβ a w R=>⟨f,H,β,hk.2,R⟩⟩) h1 h2 R.drew);exact hdst (ops.getD i default) (by simp[zal,hi]) d hod
  .have h0':=h0;simp only[PE,zaX,beq_iff_eq,zby,zaK,zdl]at h0';obtain⟨⟨⟨ho,hi⟩,hp⟩,hops⟩:=h0';have hsz:(mg ops.toList ord inv).toArray.size=ops.size:=by simp[mg,ho]
   have e:ops.toList.toArray=ops:=by simp
   have:=Xo (ro:=ro) (ops:=(mg ops.toList ord inv).toArray) (Q:=Conc G M w0 D0 N Q) (f:=f) (H:=H) (β:=β) (λi hi d hod=>?_) (λf H lg hk=>⟨hk.1,λβ a w R=>⟨f,H,β,hk.2,R⟩⟩) h1 h2 R.drew
   .rw[hsz]at this;refine wpIn_region_any hm ?_;have:=Xx h0 ops.size (Array.replicate ops.size false) (Array.replicate ops.size false) a _ (by simp) (by simp) (λp hlt=>?_) this
    .rw[e]at this;exact this
    .have hlt':p<ops.size:=by simpa using hlt
     have h3:=(hp p hlt).1.1.1;simp only[zbL]at h3;simp only[zal,zcr,hlt',h3,zcm]
   .rw[hsz]at hi;have hlt:i<ord.length:=by rw[ho];simpa using hi
    have h3:=(hp i (by simpa using hi)).1.1.1;have e2:(mg ops.toList ord inv).toArray.getD i default=a0r inv (ops.toList.getD (ord.getD i 0) default):=by
     simp[zal,mg,hlt,List.getD]
    rw[e2]at hod;exact hdst (ops.toList.getD (ord.getD i 0) default) (zat (Bq _ default h3)) d hod
 |.seq x y,ro,G,M,w0,Q,f,H,β,a,w,hro,hd,h,R=>by
  simp only[codeOk,dM,zaX]at hd hro;refine zfP (zcD (dX hm x ro G M w0 _ f H β a w (hro.imp (·.1) id) hd.1 h R) λe a w hq=>?_);cases e with
  |normal=>obtain⟨f,H,β,hk,R⟩:=hq;exact dX hm y ro G M w0 Q f H β a w (hro.imp (·.2) id) hd.2 hk R
  |panic _=>exact hq.elim
  |outgrown=>exact hq.elim
  |_=>exact hq
 |.cond c x y,ro,G,M,w0,Q,f,H,β,a,w,hro,hd,h,R=>by
  simp only[codeOk,dM,zaX]at hd hro;have hc:=R.ev c;unfold AW b2W at h;split at h
  .rename_i b hb;rw[hb]at hc;simp only[ak]at hc;generalize hv:a.eval c=v at hc;cases hc;exact wpIn_cond_split hv (λht=>dX hm x ro G M w0 Q f H β a w (hro.imp (·.1) id) hd.1 (h.1 ht) R) (λhf=>dX hm y ro G M w0 Q f H β a w (hro.imp (·.2) id) hd.2 (h.2 hf) R)
  .rename_i hb;rw[hb]at hc;simp only[ak]at hc;obtain⟨b,hc⟩:=hc;exact wpIn_cond_split hc (λht=>dX hm x ro G M w0 Q f H β a w (hro.imp (·.1) id) hd.1 h.1 R) (λhf=>dX hm y ro G M w0 Q f H β a w (hro.imp (·.2) id) hd.2 h.2 R)
  .exact h.elim
 |.block id c,ro,G,M,w0,Q,f,H,β,a,w,hro,hd,h,R=>by
  simp only[codeOk,dM]at hd hro;refine wpIn_block (zcD (dX hm c ro G M w0 _ f H β a w hro hd h R) λe a w hq=>?_);cases e with
  |exit id' =>
   obtain⟨f,H,β,hk,R⟩:=hq;simp only[vT]at hk;simp only[Exit.inBlock];split at hk
   .rename_i hid;rw[zas hid];exact⟨f,H,β,hk,R⟩
   .rename_i hid;rw[zam hid];exact⟨f,H,β,hk,R⟩
  |panic _=>exact hq.elim
  |outgrown=>exact hq.elim
  |_=>exact hq
 |.loop c,ro,G,M,w0,Q,f,H,β,a,w,hro,hd,h,R=>by
  simp only[codeOk,dM]at hd hro;obtain⟨I,μ,⟨f',H',hk,h0⟩,hr⟩:=h;obtain⟨β',R'⟩:=R.weak hk;refine Lj (λn a w=>∃f H β,I f H/\Rel G M w0 D0 N f H β a w/\μ f H=n) ?_ (m:=μ f' H') ⟨f',H',β',h0,R',rfl⟩;rintro n a w ⟨f,H,β,hI,R,rfl⟩;refine zcD (dX hm c ro G M w0 _ f H β a w hro hd (hr f H hI) R) λe a w hq=>?_;cases e with
  |normal=>obtain⟨f',H',β',hk,R'⟩:=hq;exact⟨_,hk.2,f',H',β',hk.1,R',rfl⟩
  |panic _=>exact hq.elim
  |outgrown=>exact hq.elim
  |_=>exact hq
 |.exit id,ro,G,M,w0,Q,f,H,β,a,w,hro,_,h,R=>wpIn_exit ⟨f,H,β,h,R⟩
 |.scope c,ro,G,M,w0,Q,f,H,β,a,w,hro,hd,h,R=>by
  simp only[codeOk,dM]at hd hro;refine yU (zcD (dX hm c ro G M w0 _ f H β a w hro hd h R) λe a w hq=>?_);cases e with
  |goto l=>obtain⟨f,H,β,hk,R⟩:=hq;exact hk.elim
  |panic _=>exact hq.elim
  |outgrown=>exact hq.elim
  |_=>exact hq
 |.label l,ro,G,M,w0,Q,f,H,β,a,w,hro,_,h,R=>wpIn_label ⟨f,H,β,h,R⟩
 |.ret,ro,G,M,w0,Q,f,H,β,a,w,hro,_,h,R=>wpIn_ret ⟨f,H,β,h,R⟩
 |.rangeFunc g ps x y,ro,G,M,w0,Q,f,H,β,a,w,hro,hd,h,R=>by
  rcases hro with hro|⟨rfl,hr⟩
  .simp[dM]at hro
  simp only[codeOk,zaX,zby,zdl]at hd;obtain⟨⟨⟨⟨hps,hx⟩,hy⟩,nx⟩,ny⟩:=hd;obtain⟨f1,H1,gf,l,c,caps,ms,n,it,I,J,hwk,he,ht,hc,hit,h0,b4D,hdone,hret,b1B⟩:=h;obtain⟨β',R'⟩:=R.weak hwk;exact Tc R' hr he ht hc hit hps I J (λk f3 H3=>AW P y (yR I J k) f3 H3) h0
   (λl k H' G' M' w0' β' a' w' hk hI R hrn=>dX hm x (some l) G' M' w0' _ _ _ _ _ _ (.inl nx) hx (b4D k H' hk hI) R)
   (λl k f' H' G' M' w0' β' a' w' hk hK R hrn=>dX hm y (some l) G' M' w0' _ _ _ _ _ _ (.inl ny) hy hK R)
   (λH' β' a' w' hI R=>⟨f1,H',β',hdone H' hI,R⟩) (λH' β' a' w' hI R=>⟨f1,H',β',hret H' hI,R⟩) (λid H' β' a' w' hI R=>⟨f1,H',β',b1B id H' hI,R⟩)
 |.goto _,ro,G,M,w0,Q,f,H,β,a,w,hro,_,h,R=>h.elim
 |.refuse _,ro,G,M,w0,Q,f,H,β,a,w,hro,_,h,R=>h.elim
def kF (args:List CV):Fr:=λt=>((args.map CV.av)[t]?).getD .undef
def Dj:Hp:=λ_=>.none
def retv [Zi] (P:Program)(f:Fr)(H:Hp):ResultVar->Option (Prop×CV×List Nat)
 |.tmp t=>qU H (f t)
 |.cell t ty=>match qN (ti P ty) H (f t) with
  |some r=>match qU H r.v with
   |some (c,cv,ms)=>some (r.c/\c,cv,ms)
   |none=>none
  |none=>none
def Jg [Zi] (P:Program)(f:Fr)(H:Hp)(r:ResultVar)(flat:Bool)(c:CV):Prop :=
 match retv P f H r with
 |some (p,c',ms)=>p/\c'=c/\(flat=true->ms=[])
 |none=>False
def a3M (f:Fr)(H:Hp)(r:ResultVar)(e sz:Nat)(rows:List (List IV)):Prop :=
 match r with
 |.tmp t=>match f t with
  |.hs h st=>match H h with
   |.blk false st' e' sz' rows'=>st=st'/\e'=e/\sz'=sz/\rows'=rows
   |_=>False
  |.vY=>rows=[]
  |_=>False
 |_=>False
def OI [Zi] (P:Program)(f:Fr)(H:Hp)(own:iZ):Nat->List ResultVar->List CV->Prop
 |_,[],[]=>True
 |j,r::rs,c::cs=>(match own with
   |none=>Jg P f H r false c
   |some (i,e,sz,rows)=>if i=j then a3M f H r e sz rows else Jg P f H r true c)/\OI P f H own (j+1) rs cs
 |_,_,_=>False
def b7J [Zi] (P:Program)(rs:List ResultVar)(own:iZ)(res:List CV):Post
 |.ret,f,H=>OI P f H own 0 rs res/\(match own with|none=>True|some (i,_)=>i<res.length)
 |.normal,f,H=>OI P f H own 0 rs res/\(match own with|none=>True|some (i,_)=>i<res.length)
 |_,_,_=>False
def rvS (tmps:Array Value):ResultVar->Sem Value
 |.tmp t=>pure (tmps.getD t Go.undef)
 |.cell a t=>do loadVar t (<-asAddr (tmps.getD a Go.undef))
theorem JR (R:Rel G M w0 D0 N f H β a w){r:ResultVar}{p:Prop}{c:CV}{ms:List Nat}(h:retv P f H r=some (p,c,ms))(hp:p) :
  ∃v,(rvS a.tmps r).run P w=.ok v w/\jo w (DD (aH ms H) β D0) c v:=by
 unfold retv at h;split at h
 .rename_i t;exact⟨_,rfl,pV R (R.tmps t) h hp⟩
 .rename_i t ty;split at h
  .rename_i r hr;split at h
   .rename_i c' cv ms' ht;injection h with h;injection h with e1 e2;injection e2 with e2 e3;subst e1 e2 e3;have hx:=R.tmps t;obtain⟨_,_,u,hu,hrep⟩:=jO R hx hr hp.1;refine⟨u,?_,pV R hrep ht hp.2⟩;have:∃ad,a.tmps.getD t Go.undef=.pointer (some ad):=by
     cases hft:f t<;>rw[hft]at hx hr<;>simp only[qN,reduceCtorEq]at hr<;>simp only[ak]at hx
     .obtain⟨g,o,h,_⟩:=hx;exact⟨_,h⟩
     .rename_i h st i off;split at hr
      .rename_i hH;have hst:st=(H h).stamp:=by
        rw[hH];simp only[HC.stamp];split at hr<;>(injection hr with hr;subst hr;exact hp.1.2.1)
       obtain⟨g,n,cap,_,h⟩:=hx.2 hst;exact⟨_,h⟩
      .rename_i hH;have hst:st=(H h).stamp:=by
        rw[hH];simp only[HC.stamp];split at hr
        .injection hr with hr;subst hr;exact hp.1.2.1
        .split at hr
         .injection hr with hr;subst hr;exact hp.1.2.1
         .cases hr
       obtain⟨g,n,cap,_,h⟩:=hx.2 hst;exact⟨_,h⟩
      .cases hr
    obtain⟨ad,had⟩:=this;rw[had]at hu;simp only[rvS,had,asAddr,zaU,zaI,zay];simpa [Instr.loadAt,Instr.sureAddr] using hu
   .cases h
  .cases h
theorem xU {f:Fr}{H:Hp}{β:Nat->Value}{a:Act}{w:World}(R:Rel ⟨λ_ _=>False,false⟩ (λ_=>False) w0 D0 N f H β a w){own:iZ}:∀(rs:List ResultVar) (j:Nat) (cs:List CV),OI P f H own j rs cs ->
  ∃us:List Value,(rs.mapM (rvS a.tmps)).run P w=.ok us w/\us.length=cs.length /\
   (∀(k:Nat) c v,(∀i e sz rows,own=some (i,e,sz,rows)->j+k≠i)->cs[k]?=some c->us[k]?=some v->∃ms,(own.isSome=true->ms=[])/\jo w (DD (aH ms H) β D0) c v) /\
   (∀(k:Nat) v i e sz rows,own=some (i,e,sz,rows)->j+k=i->us[k]?=some v->Own w (DD H β D0) w0.heap.size (λ_=>False) v e sz rows/\∀b,aF v=some b->DD H β D0 b)
 |[],j,[],_=>⟨[],by simp,rfl,by simp,by simp⟩
 |r::rs,j,c::cs,h=>by
  simp only[OI]at h;obtain⟨h1,h2⟩:=h;obtain⟨us,a1,a2,a3,a4⟩:=xU R rs (j+1) cs h2;have hval:∀flat,Jg P f H r flat c->∃v ms,(rvS a.tmps r).run P w=.ok v w/\(flat=true->ms=[])/\jo w (DD (aH ms H) β D0) c v:=by
   intro flat hv;unfold Jg at hv;split at hv
   .rename_i p c' ms hr;obtain⟨hp,rfl,hf⟩:=hv;obtain⟨v,hv1,hv2⟩:=JR R hr hp;exact⟨v,ms,hv1,hf,hv2⟩
   .exact hv.elim
  cases own with
  |none =>
   obtain⟨v,ms,hv1,hf,hv2⟩:=hval false h1;refine⟨v::us,by simp[List.mapM_cons,hv1,a1],by simp[a2],λk c' v' hk hc hu=>?_,by simp⟩;cases k with
   |zero=>simp at hc hu;subst hc hu;exact⟨ms,by simp,hv2⟩
   |succ k=>exact a3 k c' v' (by simp) (by simpa using hc) (by simpa using hu)
  |some p =>
   obtain⟨i,e,sz,rows⟩:=p;simp only at h1;split at h1
   .rename_i hij;have ho:∃v,(rvS a.tmps r).run P w=.ok v w/\Own w (DD H β D0) w0.heap.size (λ_=>False) v e sz rows/\∀b,aF v=some b->DD H β D0 b:=by
     unfold a3M at h1;split at h1
     .rename_i t;have hx:=R.tmps t;split at h1
      .rename_i hh st hft;split at h1
       .rename_i st' e' sz' rows' hH;obtain⟨rfl,rfl,rfl,rfl⟩:=h1;rw[hft]at hx;simp only[ak]at hx;have hv:=hx.2 (by rw[hH];rfl);refine⟨_,rfl,by rw[hv];exact R.own _ _ _ _ _ hH,λb hb=>?_⟩;rw[hv]at hb;exact .inr ⟨hh,by rw[hH];trivial,hb⟩
       .exact h1.elim
      .rename_i hft;rw[hft]at hx;simp only[ak]at hx;subst h1;refine⟨_,rfl,by rw[hx];exact⟨by simp,.inl ⟨rfl,rfl⟩⟩,λb hb=>by rw[hx]at hb;cases hb⟩
      .exact h1.elim
     .exact h1.elim
    obtain⟨v,hv1,hv2⟩:=ho;refine⟨v::us,by simp[List.mapM_cons,hv1,a1],by simp[a2],λk c' v' hk hc hu=>?_,λk v' i' e' sz' rows' ho hk hu=>?_⟩
    .cases k with
     |zero=>exact(hk i e sz rows rfl (by omega)).elim
     |succ k=>exact a3 k c' v' (λi' e' sz' rows' ho=>by have:=hk i' e' sz' rows' ho;omega) (by simpa using hc) (by simpa using hu)
    .cases k with
     |zero=>injection ho with ho;injection ho with e1 ho;injection ho with e2 ho;injection ho with e3 e4;subst e2 e3 e4;simp at hu;subst hu;exact hv2
     |succ k=>exact a4 k v' i' e' sz' rows' ho (by omega) (by simpa using hu)
   .rename_i hij;obtain⟨v,ms,hv1,hf,hv2⟩:=hval true h1;refine⟨v::us,by simp[List.mapM_cons,hv1,a1],by simp[a2],λk c' v' hk hc hu=>?_,λk v' i' e' sz' rows' ho hk hu=>?_⟩
    .cases k with
     |zero=>simp at hc hu;subst hc hu;exact⟨ms,λ_=>hf rfl,hv2⟩
     |succ k=>exact a3 k c' v' (λi' e' sz' rows' ho=>by have:=hk i' e' sz' rows' ho;omega) (by simpa using hc) (by simpa using hu)
    .cases k with
     |zero=>injection ho with ho;injection ho with e1 ho;omega
     |succ k=>exact a4 k v' i' e' sz' rows' ho (by omega) (by simpa using hu)
 |[],_,_::_,h=>by simp[OI]at h
 |_::_,_,[],h=>by simp[OI]at h
theorem nI {fn:Func}{a:Act}{w:World}{us:List Value}(h:(fn.results.toList.mapM (rvS a.tmps)).run P w=.ok us w):(results fn a.tmps).run P w=.ok (uP us) w:=by
 have e:results fn a.tmps=(fn.results.mapM (rvS a.tmps) >>= λvs=>pure (if h:vs.size=1 then vs[0] else .tuple vs)):=by
  unfold results
  congr 1
 rw[e,Array.mapM_eq_mapM_toList];simp only[Sem.run_bind,Sem.run_map,h,Result.andThen_ok,Sem.run_pure]
 congr 1
 cases us with
 |nil=>rfl
 |cons u us =>
  cases us with
  |nil=>rfl
  |cons _ _=>rfl
theorem xq {tmps:Array Value}:∀(ds:List Deferred) (T:Ending->World->Prop) (w1:World),(∀d∈ds,∃k,d={ target:=.collected k,args:=#[] }/\w.heap.size<=k/\w1.heap[k]?=some (.deferred (some [])))->ds.Nodup->w.heap.size<=w1.heap.size ->
   (∀w2,w2.os=w1.os->w2.tape=w1.tape->w2.output=w1.output->w2.heap.size=w1.heap.size->(∀k,(k<w.heap.size\/∃o:Obj,w1.heap[k]?=some o/\o.isCells=true)->w2.heap[k]?=w1.heap[k]?)->LeavesInM Fence.wide 0 P fn tmps T [] .returning w2)->LeavesInM Fence.wide 0 P fn tmps T ds .returning w1:=by
  intro ds
  induction ds with
  |nil=>exact λT w1 _ _ _ h=>h w1 rfl rfl rfl rfl λ_ _=>rfl
  |cons d ds ih =>
   intro T w1 hd hn hsz h;obtain⟨k,rfl,hk,hb⟩:=hd d (by simp);have hne:∀j,{ target:=.collected j,args:=#[] }∈ds->j≠k:=λj hj e=>by subst e;exact(zdM.1 hn).1 hj
   refine⟨by simp,.inl ⟨k,_,rfl,run_takeDeferred hb,ih T _ (λd' hd'=>?_) (zdM.1 hn).2 (by simpa using hsz) λw2 h1 h2 h3 h4 h5=>h w2 h1 h2 h3 (by simpa using h4) λj hj=>?_⟩⟩
   .obtain⟨k',rfl,hk',hb'⟩:=hd d' (by simp[hd']);exact⟨k',rfl,hk',(zcf (hne k' hd')).trans hb'⟩
   .have hjk:j≠k:=by
     rintro rfl;rcases hj with hj|⟨o,ho,hc⟩
     .omega
     .rw[hb]at ho;cases ho;cases hc
    have e1:(w1.putObj k (.deferred none)).heap[j]?=w1.heap[j]?:=zcf hjk;rw[h5 j (by rw[e1];exact hj),e1]
theorem AC.rP {g : Nat} {args : List CV} {own : iZ} {res : List CV} (hm : P.follows .mixedOrders = true) {fn : Func} {body : Code} (hf : P.funcs[g]? = some fn) (hb : fn.body = some body) (hn : (fn.name == "runtime.NumGoroutine") = false)
  (hd:codeOk fn.ntmps body=true) (hargs:args.length<=fn.ntmps) (h:AW P body (b7J P fn.results.toList own res) (kF args) Dj):AC P g args own res:=by
 intro w D vs hD hvs;refine .inl ⟨fn,hf,hn,by rw[hb];rfl,callsIn_wide.1 (callsIn_of_wp_marks (n:=0) (F:=Fence.wide) hf hb trivial ?_)⟩;have hlen:=hvs.length;have hcv:∀(cvs:List CV) (us:List Value),dU w D cvs us->∀t,ak w (DD Dj (λ_=>default) D) Dj (λ_=>default) (kF cvs t) ((us[t]?).getD Go.undef):=by
  intro cvs us hu t;have hDD:∀b,DD Dj (λ_=>default) D b->D b:=by
   intro b hb;rcases hb with hb|⟨k,hm,_⟩
   .exact hb
   .exact hm.elim
  induction cvs generalizing us t with
  |nil =>
   match us,hu with
   |[],_=>simp[kF,ak]
  |cons c cs ih =>
   match us,hu with
   |u::us,hu =>
    cases t with
    |zero=>simp only[kF,List.map_cons,List.getElem?_cons_zero,Option.getD_some];exact(hu.1.mono (bD.of_sub hDD)).av
    |succ t=>simpa only[kF,List.map_cons,List.getElem?_cons_succ] using ih us hu.2 t
 have R:Rel ⟨λ_ _=>False,false⟩ (λ_=>False) w D fn.ntmps (kF args) Dj (λ_=>default) { tmps:=vs.toArray++Array.replicate (fn.ntmps-vs.toArray.size) Go.undef,defers:=[] } w:=by
  refine⟨rfl,rfl,rfl,Nat.le_refl _,λ_ _ _=>rfl,λb hb=>⟨hD b hb,λh=>h⟩,by simp;omega,λd hd=>(by cases hd),λh=>(by cases h),List.nodup_nil,λ_ _ h=>h.elim,λt=>?_,λh st e sz rows hh=>(by cases hh),λh st e sz rows hh=>(by cases hh),λh h' _ hm=>hm.elim,λh st e rows hh=>(by cases hh),λh B hh=>(by cases hh),λh x v hh=>(by cases hh)⟩;have e:(vs.toArray++Array.replicate (fn.ntmps-vs.toArray.size) Go.undef).getD t Go.undef=(vs[t]?).getD Go.undef:=by
   rw[Array.getD_eq_getD_getElem?,Array.getElem?_append];split
   .simp
   .rename_i ht;simp only[List.size_toArray,Nat.not_lt]at ht;rw[List.getElem?_eq_none ht];simp only[Array.getElem?_replicate];split<;>rfl
  rw[e];exact hcv args vs hvs t
 refine wpIn_mono (dX hm body none _ _ _ _ _ _ _ _ w (.inr ⟨rfl,rfl⟩) hd h R) λe a w' hq=>?_
 have fin:∀f H β,OI P f H own 0 fn.results.toList res/\(match own with|none=>True|some (i,_)=>i<res.length)->Rel ⟨λ_ _=>False,false⟩ (λ_=>False) w D fn.ntmps f H β a w' ->
   LeavesInM Fence.wide 0 P fn a.tmps (λe w'=>∃v,e=.returned v/\Below w.heap.size w w'/\∃us,v=uP us/\NY w w' D own res us) a.defers .returning w':=by
  intro f H β ⟨hr,hi⟩ R0;refine xq a.defers _ w' R0.defers R0.RU R0.size λw2 h1 h2 h3 h4 h5=>?_;have g2:bD w' (DD H β D) w2 (DD H β D):=⟨Nat.le_of_eq h4.symm,λ_ _ h=>h,λb _ _ hc=>h5 b (.inr hc)⟩;have R:Rel ⟨λ_ _=>False,false⟩ (λ_=>False) w D fn.ntmps f H β { a with defers:=[] } w2 :=
   ⟨h1.trans R0.os,h2.trans R0.tape,h3.trans R0.output,by rw[h4];exact R0.size,λk hk _=>(h5 k (.inl hk)).trans (R0.keep k hk (λh=>h)),R0.old,R0.nD,λd hd=>(by cases hd),λh=>(by cases h),List.nodup_nil,λ_ _ h=>h.elim,
    λt=>ak.mono g2 (iR.refl _ _) _ _ (R0.tmps t),
    λh st e sz rows hh=>(R0.own h st e sz rows hh).mono g2 λk hk=>by obtain⟨cur,e',hc⟩:=R0.dL (by rw[hh];trivial) hk;exact h5 k (.inr ⟨_,hc,rfl⟩),
    λh st e sz rows hh=>⟨(R0.frz h st e sz rows hh).1,(R0.frz h st e sz rows hh).2.1.mono g2,(R0.frz h st e sz rows hh).2.2⟩,R0.dis,
    λh st e rows hh=>(R0.nst h st e rows hh).mono g2 (iR.refl _ _) λk hk=>by obtain⟨cur,e',hc⟩:=R0.dL (by rw[hh];trivial) hk;exact h5 k (.inr ⟨_,hc,rfl⟩),λh B hh=>by rw[h4];exact R0.mrk h B hh,λh x v hh=>ak.mono g2 (iR.refl _ _) _ _ (R0.tie h x v hh)⟩
  clear h1 h2 h3 h4 h5;obtain⟨us,h1',h2,h3,h4⟩:=xU R _ _ _ hr;refine⟨_,nI h1',_,rfl,⟨R.os,R.tape,R.output,R.size,λk hk=>R.keep k hk (λh=>h)⟩,us,rfl,h2,λj c v hj hc hv=>?_,λi e sz rows ho=>?_⟩
  .obtain⟨ms,hms,hrep⟩:=h3 j c v (λi e sz rows ho=>by have:=hj i e sz rows ho;omega) hc hv;refine hrep.mono (bD.of_sub λb hb=>?_);rcases hb with hb|hb
   .exact .inl hb
   .cases own with
    |none=>exact hb.elim
    |some p =>
     obtain⟨i,e,sz,rows⟩:=p;obtain⟨v',hv',hh⟩:=hb;rw[hms rfl];exact(h4 i v' i e sz rows rfl (by omega) hv').2 b hh
  .subst ho;have hi':i<us.length:=by rw[h2];exact hi
   have hui:us[i]?=some us[i]:=by rw[List.getElem?_eq_getElem]
   obtain⟨h5,h6⟩:=h4 i _ i e sz rows rfl (by omega) hui;refine⟨_,hui,hi,h5.mono (bD.of_sub λb hb=>?_) λ_ _=>rfl⟩;rcases hb with hb|⟨v',hv',hh⟩
   .exact .inl hb
   .rw[hui]at hv';injection hv' with hv';subst hv';exact h6 b hh
 cases e with
 |normal=>obtain⟨f,H,β,hk,R⟩:=hq;exact fin f H β hk R
 |ret=>obtain⟨f,H,β,hk,R⟩:=hq;exact fin f H β hk R
 |panic _=>exact hq.elim
 |outgrown=>exact hq.elim
 |exit id=>obtain⟨f,H,β,hk,R⟩:=hq;exact hk.elim
 |goto l=>obtain⟨f,H,β,hk,R⟩:=hq;exact hk.elim
def xw (args:List CV)(i:Nat):Fr:=λt=>if t=i then .hs i 1 else kF args t
def fG (i e sz:Nat)(rows:List (List IV)):Hp:=λh=>if h=i then .blk false 1 e sz rows else .none
def EH [Zi] (P:Program)(f:Fr)(H:Hp):List ResultVar->List CV->Prop
 |[],[]=>True
 |r::rs,c::cs=>Jg P f H r true c/\EH P f H rs cs
 |_,_=>False
def b5p [Zi] (P:Program)(rs:List ResultVar)(i e sz:Nat)(rows':List (List IV))(res:List CV):Post
 |.ret,f,H=>EH P f H rs res/\H i=.blk false 1 e sz rows'
 |.normal,f,H=>EH P f H rs res/\H i=.blk false 1 e sz rows'
 |_,_,_=>False
theorem Gs (R:Rel G M w0 D0 N f H β a w):∀(rs:List ResultVar) (cs:List CV),EH P f H rs cs ->
  ∃us:List Value,(rs.mapM (rvS a.tmps)).run P w=.ok us w/\dU w (DD H β D0) cs us
 |[],[],_=>⟨[],by simp,zar⟩
 |r::rs,c::cs,h=>by
  simp only[EH]at h;obtain⟨us,a1,a2⟩:=Gs R rs cs h.2;have hv:=h.1;unfold Jg at hv;split at hv
  .rename_i p c' ms hr;obtain⟨hp,rfl,hf⟩:=hv;obtain rfl:=hf rfl;obtain⟨v,hv1,hv2⟩:=JR R hr hp;exact⟨v::us,by simp[zdG,hv1,a1],hv2,a2⟩
  .exact hv.elim
 |[],_::_,h=>by simp[EH]at h
 |_::_,[],h=>by simp[EH]at h
theorem ACW.rP {g : Nat} {args : List CV} {i e sz : Nat} {rows rows' : List (List IV)} {res : List CV} (hm : P.follows .mixedOrders = true) {fn : Func} {body : Code} (hf : P.funcs[g]? = some fn) (hb : fn.body = some body) (hn : (fn.name == "runtime.NumGoroutine") = false)
  (hd:codeOk fn.ntmps body=true) (hargs:args.length<=fn.ntmps) (h:AW P body (b5p P fn.results.toList i e sz rows' res) (xw args i) (fG i e sz rows)):ACW P g args i e sz rows rows' res:=by
 intro w D vs v hD hvs hvi hvD hown;refine .inl ⟨fn,hf,hn,by rw[hb];rfl,callsIn_wide.1 (callsIn_of_wp_marks (n:=0) (F:=Fence.wide) hf hb trivial ?_)⟩;have hlen:=hvs.length;have hDD:∀b,DD (fG i e sz rows) (λu=>if u=i then v else default) (λb=>D b/\aF v≠some b) b↔D b:=by
  intro b;constructor
  .rintro(hb|⟨k,hm,hk⟩)
   .exact hb.1
   .by_cases hki:k=i
    .subst hki;simp only[if_pos]at hk;exact hvD b hk
    .simp only[fG,if_neg hki,HC.bI]at hm
  .intro hb;by_cases hh:aF v=some b
   .exact .inr ⟨i,by simp[fG,HC.bI],by simpa using hh⟩
   .exact .inl ⟨hb,hh⟩
 have hcv:∀(cvs:List CV) (us:List Value) (H:Hp) (β:Nat->Value),dU w D cvs us->∀t,ak w D H β (kF cvs t) ((us[t]?).getD Go.undef):=by
  intro cvs us H β hu t
  induction cvs generalizing us t with
  |nil =>
   match us,hu with
   |[],_=>simp[kF,ak]
  |cons c cs ih =>
   match us,hu with
   |u::us,hu =>
    cases t with
    |zero=>simp only[kF,List.map_cons,List.getElem?_cons_zero,Option.getD_some];exact hu.1.av
    |succ t=>simpa only[kF,List.map_cons,List.getElem?_cons_succ] using ih us hu.2 t
 have hDe:DD (fG i e sz rows) (λu=>if u=i then v else default) (λb=>D b/\aF v≠some b)=D:=funext λb=>propext (hDD b)
 have R:Rel ⟨λx u=>x=.hs i 1/\u=v,false⟩ (λb=>aF v=some b) w (λb=>D b/\aF v≠some b) fn.ntmps (xw args i) (fG i e sz rows) (λu=>if u=i then v else default) { tmps:=vs.toArray++Array.replicate (fn.ntmps-vs.toArray.size) Go.undef,defers:=[] } w:=by
  refine⟨rfl,rfl,rfl,Nat.le_refl _,λ_ _ _=>rfl,λb hb=>⟨hD b hb.1,hb.2⟩,by simp;omega,λd hd=>(by cases hd),λh=>(by cases h),List.nodup_nil,?_,λt=>?_,λh st e' sz' vV hh=>?_,λh st e' sz' vV hh=>?_,λh h' hne hm1 hm2=>?_,λh st e' vV hh=>(by simp only[fG]at hh;split at hh<;>cases hh),λh B hh=>(by simp only[fG]at hh;split at hh<;>cases hh),λh x u hh=>(by simp only[fG]at hh;split at hh<;>cases hh)⟩
  .rintro x u ⟨rfl,rfl⟩;simp[ak,fG,HC.stamp]
  .have e1:(vs.toArray++Array.replicate (fn.ntmps-vs.toArray.size) Go.undef).getD t Go.undef=(vs[t]?).getD Go.undef:=by
    rw[Array.getD_eq_getD_getElem?,Array.getElem?_append];split
    .simp
    .rename_i ht;simp only[List.size_toArray,Nat.not_lt]at ht;rw[List.getElem?_eq_none ht];simp only[Array.getElem?_replicate];split<;>rfl
   rw[e1,hDe];by_cases hti:t=i
   .subst hti;rw[hvi];simp[xw,ak,fG,HC.stamp]
   .simp only[xw,if_neg hti];exact hcv args vs _ _ hvs t
  .by_cases hhi:h=i
   .subst hhi;simp only[fG,if_pos]at hh;injection hh with _ h1 h2 h3 h4;subst h1 h2 h3 h4;rw[hDe];simp only[if_pos];exact hown
   .simp only[fG,if_neg hhi,reduceCtorEq]at hh
  .by_cases hhi:h=i
   .subst hhi;simp[fG]at hh
   .simp only[fG,if_neg hhi,reduceCtorEq]at hh
  .by_cases h1:h=i
   .subst h1;simp only[fG,if_neg (Ne.symm hne),HC.bI]at hm2
   .simp only[fG,if_neg h1,HC.bI]at hm1
 refine wpIn_mono (dX hm body none _ _ _ _ _ _ _ _ w (.inr ⟨rfl,rfl⟩) hd h R) λe1 a w' hq=>?_
 have fin:∀f H β,(EH P f H fn.results.toList res/\H i=.blk false 1 e sz rows')->Rel ⟨λx u=>x=.hs i 1/\u=v,false⟩ (λb=>aF v=some b) w (λb=>D b/\aF v≠some b) fn.ntmps f H β a w' ->
   LeavesInM Fence.wide 0 P fn a.tmps (λe1 w'=>∃u,e1=.returned u/\w.grownBy w' (aF v)/\∃us,u=uP us/\dU w' D res us/\Own w' D w.heap.size (λb=>aF v=some b) v e sz rows') a.defers .returning w':=by
  intro f H β ⟨hr,hHi⟩ R0;refine xq a.defers _ w' R0.defers R0.RU R0.size λw2 h1 h2 h3 h4 h5=>?_;have g2:∀D',bD w' D' w2 D':=λD'=>⟨Nat.le_of_eq h4.symm,λ_ _ h=>h,λb _ _ hc=>h5 b (.inr hc)⟩
  have R:Rel ⟨λx u=>x=.hs i 1/\u=v,false⟩ (λb=>aF v=some b) w (λb=>D b/\aF v≠some b) fn.ntmps f H β { a with defers:=[] } w2 :=
   ⟨h1.trans R0.os,h2.trans R0.tape,h3.trans R0.output,by rw[h4];exact R0.size,λk hk hm=>(h5 k (.inl hk)).trans (R0.keep k hk hm),R0.old,R0.nD,λd hd=>(by cases hd),λh=>(by cases h),List.nodup_nil,λx u h=>ak.mono (g2 _) (iR.refl _ _) _ _ (R0.gh x u h),
    λt=>ak.mono (g2 _) (iR.refl _ _) _ _ (R0.tmps t),
    λh st e sz rows hh=>(R0.own h st e sz rows hh).mono (g2 _) λk hk=>by obtain⟨cur,e',hc⟩:=R0.dL (by rw[hh];trivial) hk;exact h5 k (.inr ⟨_,hc,rfl⟩),
    λh st e sz rows hh=>⟨(R0.frz h st e sz rows hh).1,(R0.frz h st e sz rows hh).2.1.mono (g2 _),(R0.frz h st e sz rows hh).2.2⟩,R0.dis,
    λh st e rows hh=>(R0.nst h st e rows hh).mono (g2 _) (iR.refl _ _) λk hk=>by obtain⟨cur,e',hc⟩:=R0.dL (by rw[hh];trivial) hk;exact h5 k (.inr ⟨_,hc,rfl⟩),λh B hh=>by rw[h4];exact R0.mrk h B hh,λh x v hh=>ak.mono (g2 _) (iR.refl _ _) _ _ (R0.tie h x v hh)⟩
  clear h1 h2 h3 h4 h5;have hgv:=R.gh _ _ ⟨rfl,rfl⟩;simp only[ak]at hgv;have hvb:v=β i:=hgv.2 (by rw[hHi];rfl);obtain⟨us,h1',h2⟩:=Gs R _ _ hr;have hsub:∀b,D b->DD H β (λb=>D b/\aF v≠some b) b:=λb hb=>by
   by_cases hh:aF v=some b
   .exact .inr ⟨i,by rw[hHi];trivial,by rw[<-hvb];exact hh⟩
   .exact .inl ⟨hb,hh⟩
  refine⟨_,nI h1',_,rfl,⟨R.os,R.tape,R.output,R.size,λk hk hne=>R.keep k hk (λhh=>hne hh.symm)⟩,us,rfl,h2.mono (bD.of_sub hsub),?_⟩;have ho:=R.own i _ _ _ _ hHi;rw[<-hvb]at ho;exact ho.mono (bD.of_sub hsub) λ_ _=>rfl
 cases e1 with
 |normal=>obtain⟨f,H,β,hk,R⟩:=hq;exact fin f H β hk R
 |ret=>obtain⟨f,H,β,hk,R⟩:=hq;exact fin f H β hk R
 |panic _=>exact hq.elim
 |outgrown=>exact hq.elim
 |exit id=>obtain⟨f,H,β,hk,R⟩:=hq;exact hk.elim
 |goto l=>obtain⟨f,H,β,hk,R⟩:=hq;exact hk.elim
def YQ (x:AV)(c:HC)(i e sz:Nat)(rows':List (List IV)):Prop :=
 match x,c with
 |.hv h st off len,.blk false st' e' sz' rows=>h=i/\st=1/\st'=1/\off=0/\e'=e/\sz'=sz/\len<=rows.length/\rows'=rows.take len
 |.hs h st,.blk false st' e' sz' rows=>h=i/\st=1/\st'=1/\e'=e/\sz'=sz/\rows'=rows
 |_,_=>False
def b3V (f:Fr)(H:Hp)(rs:List ResultVar)(i e sz:Nat)(rows':List (List IV)):Prop :=
 match rs with
 |[.tmp t]=>YQ (f t) (H i) i e sz rows'
 |_=>False
def b5q (rs:List ResultVar)(i e sz:Nat)(rows':List (List IV)):Post
 |.ret,f,H=>b3V f H rs i e sz rows'
 |.normal,f,H=>b3V f H rs i e sz rows'
 |_,_,_=>False
theorem XR {rs:List ResultVar}(h:b3V f H rs i e sz rows') :
  ∃t rows,rs=[.tmp t]/\H i=.blk false 1 e sz rows/\((f t=.hs i 1/\rows'=rows)\/∃len,f t=.hv i 1 0 len/\len<=rows.length/\rows'=rows.take len):=by
 unfold b3V at h;split at h
 .rename_i t;unfold YQ at h;split at h
  .rename_i h' st off len st' e' sz' rows hx hc;obtain⟨rfl,rfl,rfl,rfl,rfl,rfl,hl,rfl⟩:=h;exact⟨t,rows,rfl,hc,.inr ⟨len,hx,hl,rfl⟩⟩
  .rename_i h' st st' e' sz' rows hx hc;obtain⟨rfl,rfl,rfl,rfl,rfl,rfl⟩:=h;exact⟨t,_,rfl,hc,.inl ⟨hx,rfl⟩⟩
  .exact h.elim
 .exact h.elim
theorem a6i {u:Value}{k:Nat}(hown:Own w D B M v e sz rows){len:Nat}(hl:len<=rows.length)
  (hu:(len=0/\∃a cap,u=.slice a 0 cap/\cap<=maxLen/\(True->∃n,v=.slice a n cap))\/∃g n cap cap',v=.slice (some ⟨g,0,none⟩) n cap/\u=.slice (some ⟨g,0*k,none⟩) len cap'/\len<=cap'/\cap'<=maxLen/\(True->cap'=cap)) :
  Own w D B M u e sz (rows.take len)/\∀b,aF u=some b->aF v=some b:=by
 obtain⟨h1,h2⟩:=hown;have h1':∀r∈rows.take len,r.length=sz:=λr hr=>h1 r (za0 hr)
 rcases hu with ⟨rfl,a,cap,rfl,hc,hn⟩|⟨g,n,cap,cap',hv,rfl,hlc,hcm,hcc⟩
 .obtain⟨n,hv⟩:=hn zar;refine⟨⟨h1',?_⟩,λb hb=>by
   rw[hv];cases a with
   |none=>cases hb
   |some a=>exact hb⟩
  rcases h2 with ⟨hr,hv'⟩|⟨g,cap0,cur,hv',hB,hg,ha,hb,hcs,hrep⟩
  .rw[hv']at hv;injection hv with e1 e2 e3;subst e1 e3
   exact .inl ⟨by simp,rfl⟩
  .rw[hv']at hv;injection hv with e1 e2 e3;subst e1 e3
   exact .inr ⟨g,_,cur,by simp,hB,hg,by simp,hb,hcs,by simp[dY]⟩
 .have:=hcc zar;subst this;refine⟨⟨h1',?_⟩,λb hb=>by rw[hv];exact hb⟩;rcases h2 with ⟨hr,hv'⟩|⟨g0,cap0,cur,hv',hB,hg,ha,hb,hcs,hrep⟩
  .rw[hv']at hv;cases hv
  .rw[hv']at hv;injection hv with e1 e2 e3;injection e1 with e1;injection e1 with e1;subst e1 e3
   have hll:(rows.take len).length=len:=by rw[zah,zaZ hl]
   refine .inr ⟨_,_,cur,by rw[hll,zcP],hB,hg,by omega,hb,hcs,?_⟩;have h3:=hrep.take (len*sz);have h4:=xB rows 0 len h1 (by omega);rw[zc5,zcP,zc5]at h4;rw[h4,hll];rw[zeT,zaZ (zag _ hl)]at h3;exact h3
theorem ACT.rP {g : Nat} {args : List CV} {i e sz : Nat} {rows rows' : List (List IV)} (hm : P.follows .mixedOrders = true) {fn : Func} {body : Code} (hf : P.funcs[g]? = some fn) (hb : fn.body = some body) (hn : (fn.name == "runtime.NumGoroutine") = false)
  (hd:codeOk fn.ntmps body=true) (hargs:args.length<=fn.ntmps) (h:AW P body (b5q fn.results.toList i e sz rows') (xw args i) (fG i e sz rows)):ACT P g args i e sz rows rows':=by
 intro w D vs v hD hvs hvi hvD hown;refine .inl ⟨fn,hf,hn,by rw[hb];rfl,callsIn_wide.1 (callsIn_of_wp_marks (n:=0) (F:=Fence.wide) hf hb trivial ?_)⟩;have hlen:=hvs.length;have hDD:∀b,DD (fG i e sz rows) (λu=>if u=i then v else default) (λb=>D b/\aF v≠some b) b↔D b:=by
  intro b;constructor
  .rintro(hb|⟨k,hm,hk⟩)
   .exact hb.1
   .by_cases hki:k=i
    .subst hki;simp only[if_pos]at hk;exact hvD b hk
    .simp only[fG,if_neg hki,HC.bI]at hm
  .intro hb;by_cases hh:aF v=some b
   .exact .inr ⟨i,by simp[fG,HC.bI],by simpa using hh⟩
   .exact .inl ⟨hb,hh⟩
 have hcv:∀(cvs:List CV) (us:List Value) (H:Hp) (β:Nat->Value),dU w D cvs us->∀t,ak w D H β (kF cvs t) ((us[t]?).getD Go.undef):=by
  intro cvs us H β hu t
  induction cvs generalizing us t with
  |nil =>
   match us,hu with
   |[],_=>simp[kF,ak]
  |cons c cs ih =>
   match us,hu with
   |u::us,hu =>
    cases t with
    |zero=>simp only[kF,List.map_cons,List.getElem?_cons_zero,Option.getD_some];exact hu.1.av
    |succ t=>simpa only[kF,List.map_cons,List.getElem?_cons_succ] using ih us hu.2 t
 have hDe:DD (fG i e sz rows) (λu=>if u=i then v else default) (λb=>D b/\aF v≠some b)=D:=funext λb=>propext (hDD b)
 have R:Rel ⟨λx u=>x=.hs i 1/\u=v,false⟩ (λb=>aF v=some b) w (λb=>D b/\aF v≠some b) fn.ntmps (xw args i) (fG i e sz rows) (λu=>if u=i then v else default) { tmps:=vs.toArray++Array.replicate (fn.ntmps-vs.toArray.size) Go.undef,defers:=[] } w:=by
  refine⟨rfl,rfl,rfl,Nat.le_refl _,λ_ _ _=>rfl,λb hb=>⟨hD b hb.1,hb.2⟩,by simp;omega,λd hd=>(by cases hd),λh=>(by cases h),List.nodup_nil,?_,λt=>?_,λh st e' sz' vV hh=>?_,λh st e' sz' vV hh=>?_,λh h' hne hm1 hm2=>?_,λh st e' vV hh=>(by simp only[fG]at hh;split at hh<;>cases hh),λh B hh=>(by simp only[fG]at hh;split at hh<;>cases hh),λh x u hh=>(by simp only[fG]at hh;split at hh<;>cases hh)⟩
  .rintro x u ⟨rfl,rfl⟩;simp[ak,fG,HC.stamp]
  .have e1:(vs.toArray++Array.replicate (fn.ntmps-vs.toArray.size) Go.undef).getD t Go.undef=(vs[t]?).getD Go.undef:=by
    rw[Array.getD_eq_getD_getElem?,Array.getElem?_append];split
    .simp
    .rename_i ht;simp only[List.size_toArray,Nat.not_lt]at ht;rw[List.getElem?_eq_none ht];simp only[Array.getElem?_replicate];split<;>rfl
   rw[e1,hDe];by_cases hti:t=i
   .subst hti;rw[hvi];simp[xw,ak,fG,HC.stamp]
   .simp only[xw,if_neg hti];exact hcv args vs _ _ hvs t
  .by_cases hhi:h=i
   .subst hhi;simp only[fG,if_pos]at hh;injection hh with _ h1 h2 h3 h4;subst h1 h2 h3 h4;rw[hDe];simp only[if_pos];exact hown
   .simp only[fG,if_neg hhi,reduceCtorEq]at hh
  .by_cases hhi:h=i
   .subst hhi;simp[fG]at hh
   .simp only[fG,if_neg hhi,reduceCtorEq]at hh
  .by_cases h1:h=i
   .subst h1;simp only[fG,if_neg (Ne.symm hne),HC.bI]at hm2
   .simp only[fG,if_neg h1,HC.bI]at hm1
 refine wpIn_mono (dX hm body none _ _ _ _ _ _ _ _ w (.inr ⟨rfl,rfl⟩) hd h R) λe1 a w' hq=>?_
 have fin:∀f H β,b3V f H fn.results.toList i e sz rows'->Rel ⟨λx u=>x=.hs i 1/\u=v,false⟩ (λb=>aF v=some b) w (λb=>D b/\aF v≠some b) fn.ntmps f H β a w' ->
   LeavesInM Fence.wide 0 P fn a.tmps (λe1 w'=>∃u,e1=.returned u/\w.grownBy w' (aF v)/\(∀b,aF u=some b->aF v=some b)/\Own w' D w.heap.size (λb=>aF v=some b) u e sz rows') a.defers .returning w':=by
  intro f H β hr R0;obtain⟨t,vV,hrs,hHi,hrt⟩:=XR hr;refine xq a.defers _ w' R0.defers R0.RU R0.size λw2 h1 h2 h3 h4 h5=>?_;have g2:∀D',bD w' D' w2 D':=λD'=>⟨Nat.le_of_eq h4.symm,λ_ _ h=>h,λb _ _ hc=>h5 b (.inr hc)⟩
  have R:Rel ⟨λx u=>x=.hs i 1/\u=v,false⟩ (λb=>aF v=some b) w (λb=>D b/\aF v≠some b) fn.ntmps f H β { a with defers:=[] } w2 :=
   ⟨h1.trans R0.os,h2.trans R0.tape,h3.trans R0.output,by rw[h4];exact R0.size,λk hk hm=>(h5 k (.inl hk)).trans (R0.keep k hk hm),R0.old,R0.nD,λd hd=>(by cases hd),λh=>(by cases h),List.nodup_nil,λx u h=>ak.mono (g2 _) (iR.refl _ _) _ _ (R0.gh x u h),
    λt=>ak.mono (g2 _) (iR.refl _ _) _ _ (R0.tmps t),
    λh st e sz rows hh=>(R0.own h st e sz rows hh).mono (g2 _) λk hk=>by obtain⟨cur,e',hc⟩:=R0.dL (by rw[hh];trivial) hk;exact h5 k (.inr ⟨_,hc,rfl⟩),
    λh st e sz rows hh=>⟨(R0.frz h st e sz rows hh).1,(R0.frz h st e sz rows hh).2.1.mono (g2 _),(R0.frz h st e sz rows hh).2.2⟩,R0.dis,
    λh st e rows hh=>(R0.nst h st e rows hh).mono (g2 _) (iR.refl _ _) λk hk=>by obtain⟨cur,e',hc⟩:=R0.dL (by rw[hh];trivial) hk;exact h5 k (.inr ⟨_,hc,rfl⟩),λh B hh=>by rw[h4];exact R0.mrk h B hh,λh x v hh=>ak.mono (g2 _) (iR.refl _ _) _ _ (R0.tie h x v hh)⟩
  clear h1 h2 h3 h4 h5;have hgv:=R.gh _ _ ⟨rfl,rfl⟩;simp only[ak]at hgv;have hvb:v=β i:=hgv.2 (by rw[hHi];rfl);have hsub:∀b,D b->DD H β (λb=>D b/\aF v≠some b) b:=λb hb=>by
   by_cases hh:aF v=some b
   .exact .inr ⟨i,by rw[hHi];trivial,by rw[<-hvb];exact hh⟩
   .exact .inl ⟨hb,hh⟩
  have h1':(fn.results.toList.mapM (rvS a.tmps)).run P w2=.ok [a.tmps.getD t Go.undef] w2:=by rw[hrs];simp[List.mapM_cons,rvS]
  have hu:=R.tmps t;have ho:=R.own i _ _ _ _ hHi;rw[<-hvb]at ho;have ho2:=ho.mono (D':=D) (bD.of_sub hsub) λ_ _=>rfl
  refine⟨_,nI h1',_,rfl,⟨R.os,R.tape,R.output,R.size,λk hk hne=>R.keep k hk (λhh=>hne hh.symm)⟩,?_⟩;show (∀b,aF (a.tmps.getD t Go.undef)=some b->_)/\Own w2 D w.heap.size (λb=>aF v=some b) (a.tmps.getD t Go.undef) e sz rows';rcases hrt with ⟨hx,rfl⟩|⟨len,hx,hl,rfl⟩
  .rw[hx]at hu;simp only[ak]at hu;have hub:a.tmps.getD t Go.undef=v:=by rw[hu.2 (by rw[hHi];rfl)];exact hvb.symm
   rw[hub];exact⟨λ_ h=>h,ho2⟩
  .rw[hx]at hu;simp only[ak]at hu;have hu2:=hu.2 (by rw[hHi];rfl);rw[<-hvb]at hu2;have:=a6i ho2 hl hu2;exact⟨this.2,this.1⟩
 cases e1 with
 |normal=>obtain⟨f,H,β,hk,R⟩:=hq;exact fin f H β hk R
 |ret=>obtain⟨f,H,β,hk,R⟩:=hq;exact fin f H β hk R
 |panic _=>exact hq.elim
 |outgrown=>exact hq.elim
 |exit id=>obtain⟨f,H,β,hk,R⟩:=hq;exact hk.elim
 |goto l=>obtain⟨f,H,β,hk,R⟩:=hq;exact hk.elim
def kL (B:Nat):Hp:=λh=>if h=999 then .mrk B else .none
def Ry (B0 E:Nat)(f:Fr)(H:Hp)(rows:List (List IV))(b:Option (Nat×Nat)):Prop :=
 (b=none->rows=[])/\∀g cap,b=some (g,cap)->B0<=g/\g<E/\g∉bY rows/\(∀u x,f u=.iv x->g∉x.ids)/\(∀u cs,f u=.agg cs->g∉iV cs)/\∀u fz st e sz rows,H u=.blk fz st e sz rows->g∉bY rows
inductive Opn (B0:Nat) (T:Fr->Hp->Prop):Fr->Hp->Prop
 |done {f:Fr} {H:Hp} (h:T f H):Opn B0 T f H
 |vY {f:Fr} {H:Hp} (t e sz:Nat) (ht:f t=.vY) (h:Opn B0 T (upd f t (.iv (.own none e sz []))) H):Opn B0 T f H
 |row {f:Fr} {H:Hp} (hb st e j h s e' sz:Nat) (rows:List AV) (rws:List (List IV)) (B:Nat) (hN:H hb=.nst st e rows) (hj:rows[j]?=some (.hs h s)) (hH:H h=.blk false s e' sz rws) (hB:H 999=.mrk B)
   (k:∀b E,B<=E->Ry B0 E f H rws b->(∀g cap,b=some (g,cap)->∀x,AV.iv x∈rows->g∉x.ids)->Opn B0 T f (bW (bW (bW H h (.blk true s e' sz rws)) 999 (.mrk E)) hb (.nst st e (rows.set j (.iv (.own b e' sz rws)))))):Opn B0 T f H
 |opn {f:Fr} {H:Hp} (t h st e sz:Nat) (rows:List (List IV)) (B:Nat) (ht:f t=.hs h st) (hH:H h=.blk false st e sz rows) (hB:H 999=.mrk B)
   (k:∀b E,B<=E->Ry B0 E f H rows b->Opn B0 T (upd f t (.iv (.own b e sz rows))) (bW (bW H h (.blk true st e sz rows)) 999 (.mrk E))):Opn B0 T f H
def a7H [Zi] (P:Program)(rs:List ResultVar)(B0:Nat)(R:Nat->Nat->List CV->Prop)(f:Fr)(H:Hp):Prop :=
 ∃B cs,H 999=.mrk B/\OI P f H none 0 rs cs/\∀E,B<=E->R B0 E cs
def b5o [Zi] (P:Program)(rs:List ResultVar)(B0:Nat)(R:Nat->Nat->List CV->Prop):Post
 |.ret,f,H=>Opn B0 (a7H P rs B0 R) f H
 |.normal,f,H=>Opn B0 (a7H P rs B0 R) f H
 |_,_,_=>False
theorem Own.SS (h:Own w D B M v e sz rows){D':Nat->Prop}(hD:∀b,D' b->D b)(hn:∀g,aF v=some g->¬D' g) :
  ∃b,Rep w D' (.own b e sz rows) v/\(b=none->rows=[])/\∀g cap,b=some (g,cap)->aF v=some g:=by
 rcases h.2 with ⟨rfl,rfl⟩|⟨g,cap,cur,rfl,hB,hg,h1,h2,h3,h4⟩
 .exact⟨none,.O9 e sz,λ_=>rfl,by simp⟩
 .have h4':=h4.mono (w':=w) (D':=D') ⟨zab _,λb _ hb=>hD b hb,λ_ _ _ _=>rfl⟩;refine⟨some (g,cap),.own rows g cap e sz cur (λi r hi=>h.1 r (zat hi)) h1 h2 hg (hn g rfl) h3 ?_,by simp,λg' cap' hh=>by injection hh with hh;injection hh with h1 h2;subst h1;rfl⟩;intro i r hi j x hj;obtain⟨c,hc,hr⟩:=h4'.get _ _ (jJ rows i j r x h.1 hi hj);rw[zbH]at hc;split at hc
  .rw[zbC]at hc;rw[zal,hc];exact hr
  .cases hc
theorem aG.b7Q:∀{xs:List AV} {vs:List Value} {j:Nat} {x y:AV},aG w D H β xs vs->xs[j]?=some x->(∀v,ak w D H β x v->ak w D H β y v)->aG w D H β (xs.set j y) vs
 |[],[],j,x,y,_,hj,_=>by simp at hj
 |a::xs,v::vs,0,x,y,h,hj,hk=>by
  simp only[zbP,zaq]at hj;subst hj;simp only[aG]at h;simp only[zd7,aG];exact⟨hk v h.1,h.2⟩
 |a::xs,v::vs,j+1,x,y,h,hj,hk=>by
  simp only[aG]at h;simp only[zbe,aG];exact⟨h.1,aG.b7Q h.2 (by simpa using hj) hk⟩
 |[],_::_,_,_,_,h,_,_=>by simp[aG]at h
 |_::_,[],_,_,_,h,_,_=>by simp[aG]at h
theorem aG.b6Y:∀{xs:List AV} {vs:List Value} {x:AV},aG w D H β xs vs->x∈xs->∃v,ak w D H β x v
 |a::xs,v::vs,x,h,hm=>by
  simp only[aG]at h;rcases zaG.1 hm with rfl|hm
  .exact⟨v,h.1⟩
  .exact aG.b6Y h.2 hm
 |[],_,_,_,hm=>by cases hm
 |_::_,[],_,h,_=>by simp[aG]at h
theorem Rel.b0U {f:Fr}{H:Hp}{β:Nat->Value}{a:Act}{w:World}(R:Rel G (λ_=>False) w0 D0 N f H β a w){h st e sz B:Nat}{rows:List (List IV)}(hH:H h=.blk false st e sz rows)(hB:H 999=.mrk B) :
  ∃b E,(B<=E/\E<=w.heap.size)/\Ry w0.heap.size E f H rows b/\(∀g cap,b=some (g,cap)->aF (β h)=some g)/\Rep w (DD (bW H h (.blk true st e sz rows)) β D0) (.own b e sz rows) (β h):=by
 have ho:=R.own h _ _ _ _ hH;have Ee:(H h).bI:=by rw[hH];trivial
 have hsub:∀b,DD (bW H h (.blk true st e sz rows)) β D0 b->DD H β D0 b:=by
  rintro b (hb|⟨u,hm,hk⟩)
  .exact .inl hb
  .by_cases e:u=h
   .subst e;rw[aA]at hm;exact hm.elim
   .rw[aB _ _ e]at hm;exact .inr ⟨u,hm,hk⟩
 have hn:∀g,aF (β h)=some g->¬DD (bW H h (.blk true st e sz rows)) β D0 g:=by
  rintro g hg (hb|⟨u,hm,hk⟩)
  .have h1:=R.old g hb;rcases DD.head R Ee hg with h2|h2
   .omega
   .exact h2
  .by_cases e:u=h
   .subst e;rw[aA]at hm;exact hm.elim
   .rw[aB _ _ e]at hm;exact R.dis u h e hm Ee g hk hg
 obtain⟨b,hrep,hb0,hbg⟩:=ho.SS hsub hn;refine⟨b,w.heap.size,⟨R.mrk _ _ hB,Nat.le_refl _⟩,⟨hb0,λg cap hg=>?_⟩,hbg,hrep⟩;have hgh:=hbg g cap hg;have hDg:DD H β D0 g:=.inr ⟨h,Ee,hgh⟩;have hlt:=R.iG Ee hgh;have hrows:∀(u:Nat) (fz:Bool) (st e sz:Nat) (rows:List (List IV)),H u=.blk fz st e sz rows->g∉bY rows:=λu fz st e sz rows hu hm=>by
  cases fz with
  |false =>
   rcases (R.own u _ _ _ _ hu).2 with ⟨hr,_⟩|⟨g',cap',cur,_,_,_,_,_,_,hr⟩
   .rw[hr]at hm;simp[bY]at hm
   .rw[<-jr]at hm;obtain⟨x,hx,hm⟩:=iH.1 hm;obtain⟨j,hj⟩:=List.getElem?_of_mem hx;obtain⟨v,_,hv⟩:=hr.get j x hj;exact(hv.ids g hm).1 hDg
  |true=>exact((R.frz u _ _ _ _ hu).2.1.ids g hm).1 hDg
 refine⟨hlt.2.resolve_right id,hlt.1,λhm=>?_,λu x hu hm=>?_,λu cs hu hm=>?_,hrows⟩
 .rcases ho.2 with ⟨hr,_⟩|⟨g',cap',cur,_,_,_,_,_,_,hr⟩
  .rw[hr]at hm;simp[bY]at hm
  .rw[<-jr]at hm;obtain⟨x,hx,hm⟩:=iH.1 hm;obtain⟨j,hj⟩:=List.getElem?_of_mem hx;obtain⟨v,_,hv⟩:=hr.get j x hj;exact(hv.ids g hm).1 hDg
 .have:=R.tmps u;rw[hu]at this;simp only[ak]at this;exact(this.ids g hm).1 hDg
 .have:=R.tmps u;rw[hu]at this;simp only[ak]at this;obtain⟨vs,_,hr⟩:=this;obtain⟨x,hx,hm⟩:=iH.1 hm;obtain⟨j,hj⟩:=List.getElem?_of_mem hx;obtain⟨v,_,hv⟩:=hr.get j x hj;exact(hv.ids g hm).1 hDg
theorem Rel.opn {f:Fr}{H:Hp}{T:Fr->Hp->Prop}(k:Opn w0.heap.size T f H):∀{β:Nat->Value} {a:Act} {w:World},Rel G (λ_=>False) w0 D0 N f H β a w->∃f' H' β',T f' H'/\Rel G (λ_=>False) w0 D0 N f' H' β' a w:=by
 induction k with
 |done h=>exact λR=>⟨_,_,_,h,R⟩
 |vY t e sz hf k ih =>
  intro β a w R;have hx:=R.tmps t;rw[hf]at hx;simp only[ak]at hx;have ht:t<N:=R.rF (t:=t) (λv hv=>by rw[hx]at hv;subst hv;intro h;cases h);have R':=R.value (dst:=some t) (v:=.iv (.own none e sz [])) (val:=.slice none 0 0) (by simp only[ak];exact .O9 e sz) (by rintro _ ⟨⟩;exact ht);rw[R.qY ht hx]at R';exact ih R'
 |row hb st e j h s e' sz rows rws B hN hj hH hB k ih =>
  rename_i f H;intro β a w R;have ho:=R.own h _ _ _ _ hH;have Ee:(H h).bI:=by rw[hH];trivial
  have hne:(999:Nat)≠h:=λe=>by rw[e,hH]at hB;cases hB
  have hne2:hb≠h:=λe=>by rw[e,hH]at hN;cases hN
  have b9X:hb≠999:=λe=>by rw[e,hB]at hN;cases hN
  obtain⟨b,E,hE,hok,c0f,hrow⟩:=R.b0U hH hB;have R1:=R.freeze h;rw[hH]at R1;simp only[HC.frz]at R1;have R2:=R1.JM (h:=999) (B:=B) (E:=E) (by rw[aB _ _ hne];exact hB) hE.2;have hN2:bW (bW H h (.blk true s e' sz rws)) 999 (.mrk E) hb=.nst st e rows:=by rw[aB _ _ b9X,aB _ _ hne2];exact hN
  have hsub:∀k,DD (bW (bW H h (.blk true s e' sz rws)) 999 (.mrk E)) β D0 k->DD (bW H h (.blk true s e' sz rws)) β D0 k:=by
   rintro k (hk|⟨u,hm,hk⟩)
   .exact .inl hk
   .by_cases e:u=999
    .subst e;rw[aA]at hm;exact hm.elim
    .rw[aB _ _ e]at hm;exact .inr ⟨u,hm,hk⟩
  have hjr:∀v,ak w (DD (bW (bW H h (.blk true s e' sz rws)) 999 (.mrk E)) β D0) (bW (bW H h (.blk true s e' sz rws)) 999 (.mrk E)) β (.hs h s) v->ak w (DD (bW (bW H h (.blk true s e' sz rws)) 999 (.mrk E)) β D0) (bW (bW H h (.blk true s e' sz rws)) 999 (.mrk E)) β (.iv (.own b e' sz rws)) v:=by
   intro v hv;simp only[ak]at hv ⊢;have:v=β h:=hv.2 (by rw[aB _ _ (Ne.symm hne),aA];rfl);rw[this];exact hrow.mono (bD.of_sub hsub)
  have R3:=R2.conv (h:=hb) (c:=.nst st e (rows.set j (.iv (.own b e' sz rws)))) (by rw[hN2];rfl) (by rw[hN2];rfl) (by rw[hN2];exact Iff.rfl) (by intro a b c d h;cases h) (λst' e'' rows' hh=>by
   injection hh with h1 h2 h3;subst h1 h2 h3;rcases R2.nst hb _ _ _ hN2 with ⟨hr,hv⟩|⟨g,cap,cur,hv,hBg,hg,a1,a2,a3,a4,a5⟩
   .rw[hr]at hj;simp at hj
   .refine .inr ⟨g,cap,cur,by rw[hv];simp,hBg,hg,by simpa using a1,a2,a3,?_,by simpa using a5⟩;simp only[List.length_set];exact aG.b7Q a4 hj hjr) (by intro a b c d h;cases h)
  refine ih b E hE.1 hok (λg cap hb' x hx hm=>?_) R3;rcases R.nst hb _ _ _ hN with ⟨hr,_⟩|⟨g',cap',cur,_,_,_,_,_,_,hr,_⟩
  .rw[hr]at hx;cases hx
  .obtain⟨v,hv⟩:=hr.b6Y hx;simp only[ak]at hv;exact(hv.ids g hm).1 (.inr ⟨h,Ee,c0f g cap hb'⟩)
 |opn t h st e sz rows B hf hH hB k ih =>
  rename_i f H;intro β a w R;have hx:=R.tmps t;rw[hf]at hx;simp only[ak]at hx;have hv:a.tmps.getD t Go.undef=β h:=hx.2 (by rw[hH];rfl);have ho:=R.own h _ _ _ _ hH;have ht:t<N:=R.rF (t:=t) (λv hv'=>by
   rw[hv]at hv';rcases ho.2 with ⟨_,hn⟩|⟨g,cap,cur,hn,_⟩<;>(rw[hn]at hv';subst hv';intro h;cases h))
  have R1:=R.freeze h;rw[hH]at R1;simp only[HC.frz]at R1;have hne:(999:Nat)≠h:=λe=>by rw[e,hH]at hB;cases hB
  have hsub:∀b,DD (bW H h (.blk true st e sz rows)) β D0 b->DD H β D0 b:=by
   rintro b (hb|⟨u,hm,hk⟩)
   .exact .inl hb
   .by_cases e:u=h
    .subst e;rw[aA]at hm;exact hm.elim
    .rw[aB _ _ e]at hm;exact .inr ⟨u,hm,hk⟩
  have Ee:(H h).bI:=by rw[hH];trivial
  have hn:∀g,aF (β h)=some g->¬DD (bW H h (.blk true st e sz rows)) β D0 g:=by
   rintro g hg (hb|⟨u,hm,hk⟩)
   .have h1:=R.old g hb;rcases DD.head R Ee hg with h2|h2
    .omega
    .exact h2
   .by_cases e:u=h
    .subst e;rw[aA]at hm;exact hm.elim
    .rw[aB _ _ e]at hm;exact R.dis u h e hm Ee g hk hg
  obtain⟨b,hrep,hb0,hbg⟩:=ho.SS hsub hn;have R2:=R1.JM (h:=999) (B:=B) (E:=w.heap.size) (by rw[aB _ _ hne];exact hB) (Nat.le_refl _);have hsub2:∀b,DD (bW (bW H h (.blk true st e sz rows)) 999 (.mrk w.heap.size)) β D0 b->DD (bW H h (.blk true st e sz rows)) β D0 b:=by
   rintro b (hb|⟨u,hm,hk⟩)
   .exact .inl hb
   .by_cases e:u=999
    .subst e;rw[aA]at hm;exact hm.elim
    .rw[aB _ _ e]at hm;exact .inr ⟨u,hm,hk⟩
  have R3:=R2.value (dst:=some t) (v:=.iv (.own b e sz rows)) (val:=a.tmps.getD t Go.undef) (by simp only[ak];rw[hv];exact hrep.mono (bD.of_sub hsub2)) (by rintro _ ⟨⟩;exact ht);rw[R.qY ht rfl]at R3;refine ih b w.heap.size (R.mrk _ _ hB) ⟨hb0,λg cap hg=>?_⟩ R3;have hgh:=hbg g cap hg;have hDg:DD H β D0 g:=.inr ⟨h,Ee,hgh⟩;have hlt:=R.iG Ee hgh;have hrows:∀(u:Nat) (fz:Bool) (st e sz:Nat) (rows:List (List IV)),H u=.blk fz st e sz rows->g∉bY rows:=λu fz st e sz rows hu hm=>by
   cases fz with
   |false =>
    rcases (R.own u _ _ _ _ hu).2 with ⟨hr,_⟩|⟨g',cap',cur,_,_,_,_,_,_,hr⟩
    .rw[hr]at hm;simp[bY]at hm
    .rw[<-jr]at hm;obtain⟨x,hx,hm⟩:=iH.1 hm;obtain⟨j,hj⟩:=List.getElem?_of_mem hx;obtain⟨v,_,hv⟩:=hr.get j x hj;exact(hv.ids g hm).1 hDg
   |true=>exact((R.frz u _ _ _ _ hu).2.1.ids g hm).1 hDg
  refine⟨hlt.2.resolve_right id,hlt.1,λhm=>?_,λu x hu hm=>?_,λu cs hu hm=>?_,hrows⟩
  .rcases ho.2 with ⟨hr,_⟩|⟨g',cap',cur,_,_,_,_,_,_,hr⟩
   .rw[hr]at hm;simp[bY]at hm
   .rw[<-jr]at hm;obtain⟨x,hx,hm⟩:=iH.1 hm;obtain⟨j,hj⟩:=List.getElem?_of_mem hx;obtain⟨v,_,hv⟩:=hr.get j x hj;exact(hv.ids g hm).1 hDg
  .have:=R.tmps u;rw[hu]at this;simp only[ak]at this;exact(this.ids g hm).1 hDg
  .have:=R.tmps u;rw[hu]at this;simp only[ak]at this;obtain⟨vs,_,hr⟩:=this;obtain⟨x,hx,hm⟩:=iH.1 hm;obtain⟨j,hj⟩:=List.getElem?_of_mem hx;obtain⟨v,_,hv⟩:=hr.get j x hj;exact(hv.ids g hm).1 hDg
def AWo [Zi] (P:Program)(B0:Nat):Nat->Code->Post->Fr->Hp->Prop
 |0,c,Q,f,H=>Opn B0 (AW P c Q) f H
 |n+1,.seq x y,Q,f,H=>AW P x (Rl (AWo P B0 n y Q) Q) f H
 |_,_,_,_,_=>False
def AWq [Zi] (P:Program)(B0:Nat)(n:Option Nat)(c:Code)(Q:Post)(f:Fr)(H:Hp):Prop :=
 match n with
 |none=>AW P c Q f H
 |some n=>AWo P B0 n c Q f H
theorem QL (hm:P.follows .mixedOrders=true):∀(n:Nat) (c:Code) (w0:World) (Q:Post) (f:Fr) (H:Hp) (β:Nat->Value) (a:Act) (w:World),G.rnd=false->codeOk N c=true->AWo P w0.heap.size n c Q f H->Rel G (λ_=>False) w0 D0 N f H β a w->c.wpIn (Wd none) 0 P (Conc G (λ_=>False) w0 D0 N Q) a w
 |0,c,w0,Q,f,H,β,a,w,hr,hd,h,R=>by
  obtain⟨f',H',β',h',R'⟩:=Rel.opn h R;exact dX hm c none G _ w0 Q f' H' β' a w (.inr ⟨rfl,hr⟩) hd h' R'
 |n+1,.seq x y,w0,Q,f,H,β,a,w,hr,hd,h,R=>by
  simp only[codeOk,zaX]at hd;refine zfP (zcD (dX hm x none G _ w0 _ f H β a w (.inr ⟨rfl,hr⟩) hd.1 h R) λe a w hq=>?_);cases e with
  |normal=>obtain⟨f,H,β,hk,R⟩:=hq;exact QL hm n y w0 Q f H β a w hr hd.2 hk R
  |panic _=>exact hq.elim
  |outgrown=>exact hq.elim
  |exit id=>obtain⟨f,H,β,hk,R⟩:=hq;exact⟨f,H,β,hk,R⟩
  |ret=>obtain⟨f,H,β,hk,R⟩:=hq;exact⟨f,H,β,hk,R⟩
  |goto l=>obtain⟨f,H,β,hk,R⟩:=hq;exact⟨f,H,β,hk,R⟩
theorem a3C (hm:P.follows .mixedOrders=true){n:Option Nat}{c:Code}{w0:World}{Q:Post}{f:Fr}{H:Hp}{β:Nat->Value}{a:Act}{w:World}(hr:G.rnd=false)(hd:codeOk N c=true)(h:AWq P w0.heap.size n c Q f H)(R:Rel G (λ_=>False) w0 D0 N f H β a w):c.wpIn (Wd none) 0 P (Conc G (λ_=>False) w0 D0 N Q) a w:=by
 cases n with
 |none=>exact dX hm c none G _ w0 Q f H β a w (.inr ⟨rfl,hr⟩) hd h R
 |some n=>exact QL hm n c w0 Q f H β a w hr hd h R
theorem Qv:∀{cs:List CV} {us:List Value},us.length=cs.length->(∀(k:Nat) c v,cs[k]?=some c->us[k]?=some v->jo w D c v)->dU w D cs us
 |[],[],_,_=>zar
 |c::cs,u::us,hl,h=>⟨h 0 c u rfl rfl,Qv (by simpa using hl) λk c v hc hv=>h (k+1) c v (by simpa using hc) (by simpa using hv)⟩
 |[],_::_,hl,_=>by simp at hl
 |_::_,[],hl,_=>by simp at hl
theorem ACX.rP {g : Nat} {args : List CV} {R : Nat → Nat → List CV → Prop} (hm : P.follows .mixedOrders = true) {fn : Func} {body : Code} (hf : P.funcs[g]? = some fn) (hb : fn.body = some body) (hn : (fn.name == "runtime.NumGoroutine") = false)
  (hd:codeOk fn.ntmps body=true) (hargs:args.length<=fn.ntmps) (hne:∀B,∃E res,B<=E/\R B E res) {n:Option Nat} (h:∀B,AWq P B n body (b5o P fn.results.toList B R) (kF args) (kL B)):ACX P g args R:=by
 refine⟨hne,λw D vs hD hvs=>?_⟩;refine .inl ⟨fn,hf,hn,by rw[hb];rfl,callsIn_wide.1 (callsIn_of_wp_marks (n:=0) (F:=Fence.wide) hf hb trivial ?_)⟩;have hlen:=hvs.length;have Ee:∀h,¬(kL w.heap.size h).bI:=λh=>by
  unfold kL;split<;>exact id
 have hcv:∀(cvs:List CV) (us:List Value),dU w D cvs us->∀t,ak w (DD (kL w.heap.size) (λ_=>default) D) (kL w.heap.size) (λ_=>default) (kF cvs t) ((us[t]?).getD Go.undef):=by
  intro cvs us hu t;have hDD:∀b,DD (kL w.heap.size) (λ_=>default) D b->D b:=by
   intro b hb;rcases hb with hb|⟨k,hm,_⟩
   .exact hb
   .exact(Ee k hm).elim
  induction cvs generalizing us t with
  |nil =>
   match us,hu with
   |[],_=>simp[kF,ak]
  |cons c cs ih =>
   match us,hu with
   |u::us,hu =>
    cases t with
    |zero=>simp only[kF,List.map_cons,List.getElem?_cons_zero,Option.getD_some];exact(hu.1.mono (bD.of_sub hDD)).av
    |succ t=>simpa only[kF,List.map_cons,List.getElem?_cons_succ] using ih us hu.2 t
 have a2t:∀h c,kL w.heap.size h=c->c=.none\/c=.mrk w.heap.size:=λh c hc=>by
  unfold kL at hc;split at hc
  .exact .inr hc.symm
  .exact .inl hc.symm
 have R0:Rel ⟨λ_ _=>False,false⟩ (λ_=>False) w D fn.ntmps (kF args) (kL w.heap.size) (λ_=>default) { tmps:=vs.toArray++Array.replicate (fn.ntmps-vs.toArray.size) Go.undef,defers:=[] } w:=by
  refine⟨rfl,rfl,rfl,Nat.le_refl _,λ_ _ _=>rfl,λb hb=>⟨hD b hb,λh=>h⟩,by simp;omega,λd hd=>(by cases hd),λh=>(by cases h),List.nodup_nil,λ_ _ h=>h.elim,λt=>?_,λh st e sz rows hh=>(by rcases a2t _ _ hh with h|h<;>cases h),λh st e sz rows hh=>(by rcases a2t _ _ hh with h|h<;>cases h),λh h' _ hm=>(Ee h hm).elim,λh st e rows hh=>(by rcases a2t _ _ hh with h|h<;>cases h),λh B hh=>(by
   rcases a2t _ _ hh with h|h
   .cases h
   .injection h with h;rw[h];exact Nat.le_refl _),λh x v hh=>(by rcases a2t _ _ hh with h|h<;>cases h)⟩
  have e:(vs.toArray++Array.replicate (fn.ntmps-vs.toArray.size) Go.undef).getD t Go.undef=(vs[t]?).getD Go.undef:=by
   rw[Array.getD_eq_getD_getElem?,Array.getElem?_append];split
   .simp
   .rename_i ht;simp only[List.size_toArray,Nat.not_lt]at ht;rw[List.getElem?_eq_none ht];simp only[Array.getElem?_replicate];split<;>rfl
  rw[e];exact hcv args vs hvs t
 refine wpIn_mono (a3C hm rfl hd (h w.heap.size) R0) λe a w' hq=>?_
 have fin:∀f H β,Opn w.heap.size (a7H P fn.results.toList w.heap.size R) f H->Rel ⟨λ_ _=>False,false⟩ (λ_=>False) w D fn.ntmps f H β a w' ->
   LeavesInM Fence.wide 0 P fn a.tmps (λe w'=>∃v,e=.returned v/\Below w.heap.size w w'/\∃us res,v=uP us/\R w.heap.size w'.heap.size res/\dU w' D res us) a.defers .returning w':=by
  intro f H β hr R0;refine xq a.defers _ w' R0.defers R0.RU R0.size λw2 h1 h2 h3 h4 h5=>?_;have g2:bD w' (DD H β D) w2 (DD H β D):=⟨Nat.le_of_eq h4.symm,λ_ _ h=>h,λb _ _ hc=>h5 b (.inr hc)⟩;have R1:Rel ⟨λ_ _=>False,false⟩ (λ_=>False) w D fn.ntmps f H β { a with defers:=[] } w2 :=
   ⟨h1.trans R0.os,h2.trans R0.tape,h3.trans R0.output,by rw[h4];exact R0.size,λk hk _=>(h5 k (.inl hk)).trans (R0.keep k hk (λh=>h)),R0.old,R0.nD,λd hd=>(by cases hd),λh=>(by cases h),List.nodup_nil,λ_ _ h=>h.elim,
    λt=>ak.mono g2 (iR.refl _ _) _ _ (R0.tmps t),
    λh st e sz rows hh=>(R0.own h st e sz rows hh).mono g2 λk hk=>by obtain⟨cur,e',hc⟩:=R0.dL (by rw[hh];trivial) hk;exact h5 k (.inr ⟨_,hc,rfl⟩),
    λh st e sz rows hh=>⟨(R0.frz h st e sz rows hh).1,(R0.frz h st e sz rows hh).2.1.mono g2,(R0.frz h st e sz rows hh).2.2⟩,R0.dis,
    λh st e rows hh=>(R0.nst h st e rows hh).mono g2 (iR.refl _ _) λk hk=>by obtain⟨cur,e',hc⟩:=R0.dL (by rw[hh];trivial) hk;exact h5 k (.inr ⟨_,hc,rfl⟩),λh B hh=>by rw[h4];exact R0.mrk h B hh,λh x v hh=>ak.mono g2 (iR.refl _ _) _ _ (R0.tie h x v hh)⟩
  clear h1 h2 h3 h4 h5;obtain⟨f',H',β',⟨B,cs,hB,b7l,hR⟩,R2⟩:=Rel.opn hr R1;obtain⟨us,h1',h2,h3,_⟩:=xU R2 _ _ _ b7l;refine⟨_,nI h1',_,rfl,⟨R2.os,R2.tape,R2.output,R2.size,λk hk=>R2.keep k hk (λh=>h)⟩,us,cs,rfl,hR _ (R2.mrk _ _ hB),Qv h2 λk c v hc hv=>?_⟩;obtain⟨ms,_,hrep⟩:=h3 k c v (λi e sz rows ho=>nomatch ho) hc hv;exact hrep.mono (bD.of_sub λb hb=>.inl hb)
 cases e with
 |normal=>obtain⟨f,H,β,hk,R⟩:=hq;exact fin f H β hk R
 |ret=>obtain⟨f,H,β,hk,R⟩:=hq;exact fin f H β hk R
 |panic _=>exact hq.elim
 |outgrown=>exact hq.elim
 |exit id=>obtain⟨f,H,β,hk,R⟩:=hq;exact hk.elim
 |goto l=>obtain⟨f,H,β,hk,R⟩:=hq;exact hk.elim
def Ec (avs:List AV):Fr:=λt=>(avs[t]?).getD .undef
def SQ [Zi] (P:Program)(f:Fr)(H:Hp):List ResultVar->Option (Prop×AV)
 |[]=>some (True,.dead)
 |[.tmp t]=>some (True,f t)
 |[.cell t ty]=>match qN (ti P ty) H (f t) with
  |some r=>some (r.c,r.v)
  |none=>none
 |_=>none
def b2y [Zi] (P:Program)(rs:List ResultVar)(Z:AV->Hp->Prop):Post
 |.ret,f,H=>∃c x,SQ P f H rs=some (c,x)/\c/\Z x H
 |.normal,f,H=>∃c x,SQ P f H rs=some (c,x)/\c/\Z x H
 |_,_,_=>False
theorem YC {vs : List Value} {R : Value → World → Prop} (hf : P.funcs[g]? = some fn) (hb : fn.body = some body) (hn : (fn.name == "runtime.NumGoroutine") = false)
  (h:body.wpIn (Wd none) 0 P (λe a w'=>(e=.normal\/e=.ret)/\a.defers=[]/\∃us,(fn.results.toList.mapM (rvS a.tmps)).run P w'=.ok us w'/\R (uP us) w') { tmps:=vs.toArray++Array.replicate (fn.ntmps-vs.toArray.size) Go.undef,defers:=[] } w):qL P g vs w R:=by
 refine .inl ⟨fn,hf,hn,by rw[hb];rfl,zet.1 (zdo (n:=0) (F:=Fence.wide) hf hb zar ?_)⟩;refine zcD h λe a w' hq=>?_;obtain⟨he,hd,us,hr,hR⟩:=hq;have fin:LeavesInM Fence.wide 0 P fn a.tmps (λe w'=>∃v,e=.returned v/\R v w') a.defers .returning w':=by
  rw[hd];exact⟨_,nI (a:=a) hr,_,rfl,hR⟩
 rcases he with rfl|rfl
 .exact fin
 .exact fin
theorem ACI.VY (hf : P.funcs[g]? = some fn) (hb : fn.body = some body) (hn : (fn.name == "runtime.NumGoroutine") = false)
  (hargs:avs.length<=fn.ntmps) (hne:∃x H',Z x H') (hs:∀(G:Gh) (M:Nat->Prop) (w0:World) (D0:Nat->Prop) (β:Nat->Value) (a:Act) (w:World),Rel G M w0 D0 fn.ntmps (Ec avs) H β a w->body.wpIn (Wd none) 0 P (Conc G M w0 D0 fn.ntmps (b2y P fn.results.toList Z)) a w):ACI P g avs H Z:=by
 refine⟨hne,?_⟩;intro G M w0 D0 N f β a w vs R hall;refine YC hf hb hn ?_;have hlen:avs.length=vs.length:=xH hall;have ht:∀t,ak w (DD H β D0) H β (Ec avs t) ((vs.toArray++Array.replicate (fn.ntmps-vs.toArray.size) Go.undef).getD t Go.undef):=by
  intro t;have e:(vs.toArray++Array.replicate (fn.ntmps-vs.toArray.size) Go.undef).getD t Go.undef=(vs[t]?).getD Go.undef:=by
   rw[zal,zc8];split
   .simp
   .rename_i ht;simp only[zbU,zeu]at ht;rw[zaQ ht];simp only[zcr];split<;>rfl
  rw[e];have key:∀(avs:List AV) (vs:List Value) (t:Nat),jZ w (DD H β D0) H β avs vs->ak w (DD H β D0) H β ((avs[t]?).getD .undef) ((vs[t]?).getD Go.undef):=by
   intro avs
   induction avs with
   |nil=>intro vs t h;cases h;simp[ak]
   |cons x xs ih =>
    intro vs t h;cases h with
    |cons hx hxs =>
     cases t with
     |zero=>simpa using hx
     |succ t=>simpa using ih _ t hxs
  exact key avs vs t hall
 have R0:=R.enter (f0:=Ec avs) (a0:={ tmps:=vs.toArray++Array.replicate (fn.ntmps-vs.toArray.size) Go.undef,defers:=[] }) (N':=fn.ntmps) (by simp;omega) rfl ht;refine zcD (hs _ _ _ _ _ _ _ R0) λe a' w' hq=>?_;have fin:∀f1 H1 β1,(∃c x,SQ P f1 H1 fn.results.toList=some (c,x)/\c/\Z x H1)->Rel (WQ f a G) (Mut H β) w D0 fn.ntmps f1 H1 β1 a' w'->a'.defers=[]/\∃us,(fn.results.toList.mapM (rvS a'.tmps)).run P w'=.ok us w'/\∃x H' β',Z x H'/\Rel G M w0 D0 N f H' β' a w'/\ak w' (DD H' β' D0) H' β' x (uP us):=by
  rintro f1 H1 β1 ⟨c,x,hres,hc,hz⟩ R1;refine⟨R1.rnd rfl,?_⟩;have R2:=R.leave R1;unfold SQ at hres;split at hres
  .rename_i heq;injection hres with hres;injection hres with e1 e2;subst e2;rw[heq];exact⟨[],rfl,_,_,β1,hz,R2,by simp[ak]⟩
  .rename_i t heq;injection hres with hres;injection hres with e1 e2;subst e2;rw[heq];exact⟨[a'.tmps.getD t Go.undef],by simp[zdG,rvS],_,_,β1,hz,R2,R1.tmps t⟩
  .rename_i t ty heq;split at hres
   .rename_i r hr;injection hres with hres;injection hres with e1 e2;subst e1 e2;rw[heq];have hx:=R1.tmps t;obtain⟨_,_,u,hu,hrep⟩:=jO R1 hx hr hc;have:∃ad,a'.tmps.getD t Go.undef=.pointer (some ad):=by
     cases hft:f1 t<;>rw[hft]at hx hr<;>simp only[qN,reduceCtorEq]at hr<;>simp only[ak]at hx
     .obtain⟨g,o,h,_⟩:=hx;exact⟨_,h⟩
     .rename_i h st i off;split at hr
      .rename_i hH;have hst:st=(H1 h).stamp:=by
        rw[hH];simp only[HC.stamp];split at hr<;>(injection hr with hr;subst hr;exact hc.2.1)
       obtain⟨g,n,cap,_,h⟩:=hx.2 hst;exact⟨_,h⟩
      .rename_i hH;have hst:st=(H1 h).stamp:=by
        rw[hH];simp only[HC.stamp];split at hr
        .injection hr with hr;subst hr;exact hc.2.1
        .split at hr
         .injection hr with hr;subst hr;exact hc.2.1
         .cases hr
       obtain⟨g,n,cap,_,h⟩:=hx.2 hst;exact⟨_,h⟩
      .cases hr
    obtain⟨ad,had⟩:=this;rw[had]at hu;have hrun:(rvS a'.tmps (.cell t ty)).run P w'=.ok u w':=by
     simp only[rvS,had,asAddr,zaU,zaI,zay];simpa [Instr.loadAt,Instr.sureAddr] using hu
    exact⟨[u],by simp[zdG,hrun,Result.andThen],_,_,β1,hz,R2,hrep⟩
   .cases hres
  .cases hres
 cases e with
 |normal=>obtain⟨f1,H1,β1,hk,R1⟩:=hq;exact⟨.inl rfl,fin f1 H1 β1 hk R1⟩
 |ret=>obtain⟨f1,H1,β1,hk,R1⟩:=hq;exact⟨.inr rfl,fin f1 H1 β1 hk R1⟩
 |panic _=>exact hq.elim
 |outgrown=>exact hq.elim
 |exit id=>obtain⟨f1,H1,β1,hk,R1⟩:=hq;exact hk.elim
 |goto l=>obtain⟨f1,H1,β1,hk,R1⟩:=hq;exact hk.elim
theorem ACI.rP (hm : P.follows .mixedOrders = true) {fn : Func} {body : Code} (hf : P.funcs[g]? = some fn) (hb : fn.body = some body) (hn : (fn.name == "runtime.NumGoroutine") = false)
  (hd:codeOk fn.ntmps body=true) (hnr:dM body=true) (hargs:avs.length<=fn.ntmps) (hne:∃x H',Z x H') (h:AW P body (b2y P fn.results.toList Z) (Ec avs) H):ACI P g avs H Z :=
 ACI.VY hf hb hn hargs hne λG M w0 D0 β a w R=>dX hm body none _ _ _ _ _ _ _ _ w (.inl hnr) hd h R
end
end Go.AL

namespace Go.AL
variable {zi:Zi}
open Go.RowKit
set_option linter.unusedSimpArgs false
set_option linter.unusedVariables false
variable {P:Program} {g d i h st e sz B t B0:Nat} {avs xs:List AV} {f:Fr} {H:Hp} {c:Prop} {args res:List CV} {ms:List Nat} {rows rows':List (List IV)} {R:Nat->Nat->List CV->Prop} {Z:AV->Hp->Prop} {x y:Code} {v:AV} {n:Int}
def kY (r:Option AR)(d:Option Nat)(K:Fr->Hp->Log->Prop)(f:Fr)(H:Hp)(lg:Log):Prop :=
 match r with
 |some r=>r.c/\K (ku f d r.v) (bT r.hs (aH r.fz H)) ((r.rd++r.fz++r.hs.map (·.1),r.fz++r.hs.map (·.1))::lg)
 |none=>False
section
variable {P:Program} {ds:List (Option Nat)} {rest:List Oper} {K:Fr->Hp->Log->Prop} {f:Fr} {H:Hp} {lg:Log} {d:Option Nat} {ty:Nat} {pos:String} {af:Array Edge}
theorem a7Y:fV P ds [] K f H lg=K f H lg:=rfl
theorem a4g {x:Operand}:fV P ds (⟨d,.move x,ty,pos,af,none⟩::rest) K f H lg=match zi.st with
  |.both=>fV P ds rest K (ku f d (wF (ev f x))) H (([],[])::lg)
  |.strip=>fV P ds rest K (ku f d (ev f x)) H (([],[])::lg)
  |.no=>fV P ds rest K (ku f d (ev f x)) H (([],[])::lg)
  |.al _=>fV P ds rest K (ku f d (ev f x)) H (([],[])::lg):=by
 cases d<;>simp only[fV,Oc,pR,b5R]<;>cases zi.st<;>simp[bT,aH]
theorem V6 {x:Operand}:fV P ds (⟨d,.assign x,ty,pos,af,none⟩::rest) K f H lg=fV P ds rest K (ku f d (ev f x)) H (([],[])::lg):=by
 cases d<;>simp[fV,Oc,pR,bT,aH]
theorem a4f {c x y:Operand}:fV P ds (⟨d,.pick c x y,ty,pos,af,none⟩::rest) K f H lg=kY (match ev f c with | .iv (.bool b)=>some ⟨True,if b then ev f x else ev f y,[],[],[]⟩|_=>none) d (fV P ds rest K) f H lg:=by
 cases d<;>rfl
theorem Zb {e d:Nat}:fV P ds (⟨some d,.alloc e,ty,pos,af,none⟩::rest) K f H lg=kY (xK (ti P e) H e d) (some d) (fV P ds rest K) f H lg:=rfl
theorem a7Z {e d:Nat}{x:Operand}:fV P ds (⟨some d,.box e x,ty,pos,af,none⟩::rest) K f H lg=kY (QZ (ti P e) H e d (ev f x)) (some d) (fV P ds rest K) f H lg:=rfl
theorem Z9 {t:Nat}{ps:List (Nat×Operand)}:fV P ds (⟨d,.build t ps.toArray,ty,pos,af,none⟩::rest) K f H lg=kY (ED (ti P t) H (ps.map (·.1)) (ps.map λp=>ev f p.2)) d (fV P ds rest K) f H lg:=by
 cases d<;>rfl
theorem Jj {t n d:Nat}{ps:List (Nat×Operand)}:fV P ds (⟨some d,.buildSlice t n ps.toArray,ty,pos,af,none⟩::rest) K f H lg=match zi.bs d with
  |true=>V7 P t n (ps.map (·.1)) (ps.map λp=>ev f p.2) d (fV P ds rest K) f H lg
  |false=>kY (match (ti P t).desc with | .sl e=>je (ti P e) H e d n (ps.map (·.1)) (ps.map λp=>ev f p.2)|_=>none) (some d) (fV P ds rest K) f H lg:=by
 simp only[fV,Oc,pR];cases zi.bs d
 .unfold kY;cases (ti P t).desc<;>rfl
 .rfl
theorem a4h {t:Nat}{x:Operand}:fV P ds (⟨d,.load t x,ty,pos,af,none⟩::rest) K f H lg=match zi.st with
  |.strip=>kY (match qN (ti P t) H (ev f x) with|some r=>some ⟨r.c,wF r.v,r.fz,r.hs,r.rd⟩|none=>none) d (fV P ds rest K) f H lg
  |.both=>kY (match qN (ti P t) H (ev f x) with|some r=>some ⟨r.c,wF r.v,r.fz,r.hs,r.rd⟩|none=>none) d (fV P ds rest K) f H lg
  |.no=>kY (qN (ti P t) H (ev f x)) d (fV P ds rest K) f H lg
  |.al g=>kY (Ea g (ti P t) H (ev f x)) d (fV P ds rest K) f H lg:=by
 simp only[fV,Oc,pR,a6y];cases zi.st<;>cases d<;>rfl
theorem YX {t:Nat}{x y:Operand}:fV P ds (⟨d,.store t x y,ty,pos,af,none⟩::rest) K f H lg=kY (xI (ti P t) H (ev f x) (ev f y)) d (fV P ds rest K) f H lg:=by cases d<;>rfl
theorem O4 {x:Operand}:fV P ds (⟨d,.nilCheck x,ty,pos,af,none⟩::rest) K f H lg=kY (a9r H (ev f x)) d (fV P ds rest K) f H lg:=by cases d<;>rfl
theorem Za {op:BinOp}{t yt:Nat}{x y:Operand}:fV P ds (⟨d,.binOp op t x y yt,ty,pos,af,none⟩::rest) K f H lg=kY (b5m (ti P t) op (ev f x) (ev f y)) d (fV P ds rest K) f H lg:=by cases d<;>rfl
theorem a4e {op:UnOp}{t:Nat}{x:Operand}:fV P ds (⟨d,.unOp op t x,ty,pos,af,none⟩::rest) K f H lg=kY (aUn op (ev f x)) d (fV P ds rest K) f H lg:=by cases d<;>rfl
theorem RH {s t:Nat}{x:Operand}:fV P ds (⟨d,.convert s t x,ty,pos,af,none⟩::rest) K f H lg=kY (a3J (ti P t) (ti P s) (ev f x)) d (fV P ds rest K) f H lg:=by cases d<;>rfl
theorem JF {t d:Nat}{x y:Operand}:fV P ds (⟨some d,.makeSlice t x y,ty,pos,af,none⟩::rest) K f H lg=kY (match (ti P t).desc with | .sl e=>QO (ti P e) H e d (ev f x) (ev f y)|_=>none) (some d) (fV P ds rest K) f H lg:=by
 simp only[fV,Oc,pR];unfold kY;cases (ti P t).desc<;>rfl
theorem YZ {t:Nat}{x:Operand}{lo hi:Option Operand}:fV P ds (⟨d,.slice t x lo hi none,ty,pos,af,none⟩::rest) K f H lg=kY (match (ti P t).desc with | .sl e=>Ez (ti P e).size (ti P e).ok H (zX (ev f x)) (lo.map (ev f)) (hi.map (ev f))|_=>none) d (fV P ds rest K) f H lg:=by cases d<;>rfl
theorem JH {s i:Nat}{x:Operand}:fV P ds (⟨d,.fieldAddr s x i,ty,pos,af,none⟩::rest) K f H lg=kY (lN (ti P s) i H (ev f x)) d (fV P ds rest K) f H lg:=by cases d<;>rfl
theorem JG {t:Nat}{x i:Operand}:fV P ds (⟨d,.indexAddr t x i,ty,pos,af,none⟩::rest) K f H lg=kY (match (ti P t).desc with | .sl e=>EC (ti P e).size (ti P e).ok H (zX (ev f x)) (ev f i) | .arr n e=>xJ n (ti P e).size (ti P e).ok H (ev f x) (ev f i)|_=>none) d (fV P ds rest K) f H lg:=by cases d<;>rfl
theorem Z4 {t:Nat}{x i:Operand}:fV P ds (⟨d,.index t x i,ty,pos,af,none⟩::rest) K f H lg=kY (Jb P t (ev f x) (ev f i)) d (fV P ds rest K) f H lg:=by cases d<;>rfl
theorem RG {x:Operand}{i:Nat}:fV P ds (⟨d,.extract x i,ty,pos,af,none⟩::rest) K f H lg=kY (BP i (ev f x)) d (fV P ds rest K) f H lg:=by cases d<;>rfl
theorem Z7 {s i:Nat}{x:Operand}:fV P ds (⟨d,.field s x i,ty,pos,af,none⟩::rest) K f H lg=kY (BO (b6a P s i) (ev f x)) d (fV P ds rest K) f H lg:=by cases d<;>rfl
theorem YK {o sz:Nat}{cells:List IV}:BO (some (o,sz,true)) (.agg cells)=some ⟨o+sz<=cells.length,.agg ((cells.drop o).take sz),[],[],[]⟩:=rfl
theorem YJ {o sz:Nat}{cells:List IV}:BO (some (o,sz,false)) (.agg cells)=some ⟨o<cells.length,.iv (cells.getD o default),[],[],[]⟩:=rfl
theorem RJ {b:Builtin}{xs:List Operand}{ts:List Nat}:fV P ds (⟨d,.call ⟨.builtin b,xs.toArray,ts.toArray⟩,ty,pos,af,none⟩::rest) K f H lg=kY (vI P b H d (xs.map (ev f)) ts) d (fV P ds rest K) f H lg:=by cases d<;>rfl
theorem a4i {g d:Nat}{xs:List Operand}{ts:Array Nat}:fV P ds (⟨some d,.call ⟨.value (.func g),xs.toArray,ts⟩,ty,pos,af,none⟩::rest) K f H lg=jQ P g (xs.map (ev f)) d (fV P ds rest K) f H lg:=by
 show Cj P (ev f (.func g)) (xs.map (ev f)) d (fV P ds rest K) f H lg=_;simp only[ev,Cj,zbr]
theorem Z8 {t d:Nat}{xs:List Operand}{ts:Array Nat}:fV P ds (⟨some d,.call ⟨.value (.tmp t),xs.toArray,ts⟩,ty,pos,af,none⟩::rest) K f H lg=Cj P (f t) (xs.map (ev f)) d (fV P ds rest K) f H lg:=rfl
theorem a4n {g d:Nat}{l xs:List AV}{K:Fr->Hp->Log->Prop}:Cj P (.fn g l) xs d K f H lg=jQ P g (xs++l) d K f H lg:=rfl
theorem O5 {g:Nat}{xs:List Operand}:fV P ds (⟨d,.makeFunc (.func g) (List.toArray []) xs.toArray,ty,pos,af,none⟩::rest) K f H lg=fV P ds rest K (ku f d (.fn g (xs.map (ev f)))) H (([],[])::lg):=by
 cases d<;>simp[fV,Oc,pR,bT,aH]
theorem b1S (f:Fr)(g:Nat):ev f (.func g)=.fn g []:=rfl
def EG (v:Option AV)(want:Bool)(yes no:Prop):Prop :=
 match v with
 |some (.iv (.bool b))=>if b=want then yes else no
 |some .undef=>no
 |_=>False
theorem Z5 {op:Op}{j:Nat}{want:Bool}:fV P ds (⟨d,op,ty,pos,af,some (j,want)⟩::rest) K f H lg=EG ((ds.getD j none).map f) want (fV P ds (⟨d,op,ty,pos,af,none⟩::rest) K f H lg) (fV P ds rest K (ku f d .undef) H (([],[])::lg)):=rfl
theorem a4j {yes no:Prop}:EG (some (.iv (.bool true))) true yes no=yes:=rfl
theorem a4m {yes no:Prop}:EG (some (.iv (.bool false))) false yes no=yes:=rfl
theorem a4k {yes no:Prop}:EG (some (.iv (.bool true))) false yes no=no:=rfl
theorem a4l {yes no:Prop}:EG (some (.iv (.bool false))) true yes no=no:=rfl
theorem RN {want:Bool}{yes no:Prop}:EG (some .undef) want yes no=no:=rfl
theorem YV {v:AV}{fz:List Nat}{hs:List (Nat×HC)}{rd:List Nat}:kY (some ⟨True,v,fz,hs,rd⟩) d K f H lg=K (ku f d v) (bT hs (aH fz H)) ((rd++fz++hs.map (·.1),fz++hs.map (·.1))::lg):=by simp[kY]
theorem a7X {c:Prop}{v:AV}{fz:List Nat}{hs:List (Nat×HC)}{rd:List Nat}(hc:c):kY (some ⟨c,v,fz,hs,rd⟩) d K f H lg=K (ku f d v) (bT hs (aH fz H)) ((rd++fz++hs.map (·.1),fz++hs.map (·.1))::lg):=by simp[kY,hc]
end
theorem ah {K:Fr->Hp->Log->Prop}{lg:Log}{own:iZ}
  (hac:AC P g args own res) (ht:gV H avs=some (c,args,ms)) (hc:c)
  (hk:K (upd f d (pG (rAV (aH ms H) d own 0 res))) (bT (Jk (aH ms H) d own) (aH ms H)) ((ms++(Jk (aH ms H) d own).map (·.1),ms++(Jk (aH ms H) d own).map (·.1))::lg)):jQ P g avs d K f H lg :=
 .inl ⟨c,args,ms,own,res,true,.inl ht,hc,hac,by simp,hk⟩
theorem J6 {K:Fr->Hp->Log->Prop}{lg:Log}{own:iZ}
  (hac:AC P g args own res) (ht:gV H avs=some (c,args,ms)) (hc:c) (hf:ms=[]\/xM own res)
  (hk:K (upd f d (pG (rAV H d own 0 res))) (bT (Jk H d own) H) ((ms++(Jk H d own).map (·.1),(Jk H d own).map (·.1))::lg)):jQ P g avs d K f H lg :=
 .inl ⟨c,args,ms,own,res,false,.inl ht,hc,hac,λ_=>hf,hk⟩
theorem a7x {K:Fr->Hp->Log->Prop}{lg:Log}{own:iZ}
  (hac:AC P g args own res) (ht:yI H avs=some (c,args,ms)) (hc:c)
  (hk:K (upd f d (pG (rAV (aH ms H) d own 0 res))) (bT (Jk (aH ms H) d own) (aH ms H)) ((ms++(Jk (aH ms H) d own).map (·.1),ms++(Jk (aH ms H) d own).map (·.1))::lg)):jQ P g avs d K f H lg :=
 .inl ⟨c,args,ms,own,res,true,.inr ht,hc,hac,by simp,hk⟩
theorem a7v {K:Fr->Hp->Log->Prop}{lg:Log}
  (hac:ACW P g args i e sz rows rows' res) (hi:avs[i]?=some (.hs h st)) (hH:H h=.blk false st e sz rows) (ht:gV H (avs.set i .dead)=some (c,args,ms)) (hc:c) (hm:h∉ms)
  (hk:K (upd f d (pG (res.map CV.av))) (bW (aH ms H) h (.blk false st e sz rows')) ((h::ms,ms++[h])::lg)):jQ P g avs d K f H lg :=
 .inr (.inl ⟨c,args,ms,i,h,st,e,sz,rows,rows',res,hi,hH,ht,hc,hm,hac,hk⟩)
theorem yD {K:Fr->Hp->Log->Prop}{lg:Log}
  (hac:ACT P g args i e sz rows rows') (hi:avs[i]?=some (.hs h st)) (hH:H h=.blk false st e sz rows) (ht:gV H (avs.set i .dead)=some (c,args,ms)) (hc:c) (hm:h∉ms)
  (hk:K (upd f d (.hs h (st+1))) (bW (aH ms H) h (.blk false (st+1) e sz rows')) ((h::ms,ms++[h])::lg)):jQ P g avs d K f H lg :=
 .inr (.inr (.inl ⟨c,args,ms,i,h,st,e,sz,rows,rows',hi,hH,ht,hc,hm,hac,hk⟩))
theorem aJ {K:Fr->Hp->Log->Prop}{lg:Log}
  (hac:ACX P g args R) (ht:gV H avs=some (c,args,ms)) (hc:c) (hB:H 999=.mrk B)
  (hk:∀B' E res,B<=B'->B'<=E->R B' E res->K (upd f d (pG (res.map CV.av))) (bW (aH ms H) 999 (.mrk E)) ((999::ms,ms++[999])::lg)):jQ P g avs d K f H lg :=
 .inr (.inr (.inr (.inl ⟨c,args,ms,B,R,ht,hc,hB,hac,hk⟩)))
theorem a7w {K:Fr->Hp->Log->Prop}{lg:Log}(hac:ACI P g avs H Z)(hk:∀x H',Z x H'->K (upd f d x) H' (([],[998])::lg)):jQ P g avs d K f H lg :=
 .inr (.inr (.inr (.inr (.inl ⟨Z,hac,hk⟩))))
theorem FH {K:Fr->Hp->Log->Prop}{lg:Log}{rd:List Nat}{R:AV->List (Nat×HC)->Prop}(hac:ACF P g avs H rd R)
  (hk:∀x hs,R x hs->(∀k∈hs.map (·.1),k∈rd)/\999∈hs.map (·.1)/\K (upd f d x) (bT hs H) ((rd,hs.map (·.1))::lg)):jQ P g avs d K f H lg :=
 .inr (.inr (.inr (.inr (.inr ⟨rd,R,hac,hk⟩))))
theorem b1p {c:Code}{Q:Post}(I:Fr->Hp->Prop)(μ:Fr->Hp->Nat)(h0:I f H)(hr:∀f H,I f H->AW P c (Ji I μ (μ f H) Q) f H):AW P (.loop c) Q f H :=
 ⟨I,μ,⟨f,H,.refl f H,h0⟩,hr⟩
theorem a6x {c:Code}{Q:Post}(t h e sz:Nat)(ht:f t=.vY)(I:Fr->Hp->Prop)(μ:Fr->Hp->Nat)(h0:I (fJ f H t h) (fH H h e sz))(hr:∀f H,I f H->AW P c (Ji I μ (μ f H) Q) f H):AW P (.loop c) Q f H :=
 ⟨I,μ,⟨_,_,.nil t h e sz ht (.refl _ _),h0⟩,hr⟩
theorem b2e (k:IntKind)(n:Int):a4q (.int k n)=.iv (.int k n):=rfl
theorem a7m (b:Bool):a4q (.bool b)=.iv (.bool b):=rfl
theorem b2d:a4q (.slice none 0 0)=.vY:=rfl
theorem b4P (f:Fr)(t:Nat):ev f (.tmp t)=f t:=rfl
theorem a7i (f:Fr)(v:Value):ev f (.const v)=a4q v:=rfl
theorem b3D (f:Fr)(t:Nat)(v:AV)(u:Nat):upd f t v u=if u=t then v else f u:=rfl
theorem yX (H:Hp)(h:Nat)(c:HC)(u:Nat):bW H h c u=if u=h then c else H u:=rfl
theorem Zt (f:Fr)(t:Nat)(v:AV):ku f (some t) v=upd f t v:=rfl
theorem Zu (f:Fr)(v:AV):ku f none v=f:=rfl
theorem a6O (args:List CV)(t:Nat):kF args t=((args.map CV.av)[t]?).getD .undef:=rfl
theorem a6N (h:Nat):Dj h=.none:=rfl
def a7F [Zi] (P:Program)(y:Code)(Q:Post):Post:=Rl (AW P y Q) Q
def DC [Zi] (P:Program)(v:AV)(x y:Code)(Q:Post)(f:Fr)(H:Hp):Prop:=b2W v (AW P x Q f H) (AW P y Q f H)
def O6 [Zi] (P:Program)(c:Code)(Q:Post)(f:Fr)(H:Hp):Prop:=AW P (.loop c) Q f H
def a4d [Zi] (P:Program)(g:Operand)(ps:List Nat)(x y:Code)(Q:Post)(f:Fr)(H:Hp):Prop:=AW P (.rangeFunc g ps.toArray x y) Q f H
def b7M [Zi] (P:Program)(y:Code)(I:Nat->Hp->Prop)(J:Code->Hp->Prop)(k:Nat):Post:=b7L λf H=>AW P y (yR I J k) f H
def a7L [Zi] (P:Program)(rs:List ResultVar)(own:iZ)(res:List CV):Post:=b7J P rs own res
def a3P [Zi] (P:Program)(rs:List ResultVar)(i e sz:Nat)(rows':List (List IV))(res:List CV):Post:=b5p P rs i e sz rows' res
def a3R (rs:List ResultVar)(i e sz:Nat)(rows':List (List IV)):Post:=b5q rs i e sz rows'
def YR [Zi] (P:Program)(rs:List ResultVar)(B:Nat)(R:Nat->Nat->List CV->Prop):Post:=b5o P rs B R
def UY [Zi] (P:Program)(rs:List ResultVar)(Z:AV->Hp->Prop):Post:=b2y P rs Z
def YW [Zi] (P:Program)(rs:List ResultVar)(Z:AV->Hp->Prop)(f:Fr)(H:Hp):Prop:=∃c x,SQ P f H rs=some (c,x)/\c/\Z x H
def a8a [Zi] (P:Program)(rs:List ResultVar)(B:Nat)(R:Nat->Nat->List CV->Prop)(f:Fr)(H:Hp):Prop:=Opn B (a7H P rs B R) f H
def Rj (ops:Array Oper):Prop:=JJ ops=true
def JE (ops:Array Oper)(lg:Log):Prop:=Bg ops lg.reverse=true
section
variable {P:Program} {Q:Post} {K:Fr->Hp->Log->Prop} {f f':Fr} {H H':Hp} {lg:Log}
theorem b2N:AW P .skip Q f H=Q .normal f H:=by rw[AW]
theorem a4c {id:Nat}{l:List Oper}:AW P (.region id l.toArray false) Q f H=fV P (l.map (·.dst)) l (Rx Q) f H []:=by rw[AW];rfl
theorem a7V {id:Nat}{l:List Oper}:AW P (.region id l.toArray true) Q f H=((Rj l.toArray/\fV P (l.map (·.dst)) l (b2G l.toArray Q) f H [])\/∃ord inv,PE l ord inv=true/\Rj (mg l ord inv).toArray/\fV P ((mg l ord inv).map (·.dst)) (mg l ord inv) (b2G (mg l ord inv).toArray Q) f H []):=by rw[AW];rfl
theorem b5A {x y:Code}:AW P (.seq x y) Q f H=AW P x (a7F P y Q) f H:=by rw[AW];rfl
theorem b2Q {c:Operand}{x y:Code}:AW P (.cond c x y) Q f H=DC P (ev f c) x y Q f H:=by rw[AW];rfl
theorem a7W {id:Nat}{c:Code}:AW P (.block id c) Q f H=AW P c (vT id Q) f H:=by rw[AW]
theorem b2O {c:Code}:AW P (.loop c) Q f H=O6 P c Q f H:=rfl
theorem b2P {id:Nat}:AW P (.exit id) Q f H=Q (.exit id) f H:=by rw[AW]
theorem a7S {c:Code}:AW P (.scope c) Q f H=AW P c (Jf Q) f H:=by rw[AW]
theorem a7U {l:Nat}:AW P (.label l) Q f H=Q .normal f H:=by rw[AW]
theorem a7T {g:Operand}{ps:List Nat}{x y:Code}:AW P (.rangeFunc g ps.toArray x y) Q f H=a4d P g ps x y Q f H:=rfl
theorem V5 {y:Code}{I:Nat->Hp->Prop}{J:Code->Hp->Prop}{k:Nat}:b7M P y I J k .normal f H=AW P y (yR I J k) f H:=rfl
theorem NW {I:Nat->Hp->Prop}{J:Code->Hp->Prop}{k:Nat}:yR I J k .normal f H=I (k+1) H:=rfl
theorem YP {I:Nat->Hp->Prop}{J:Code->Hp->Prop}{k:Nat}:yR I J k .ret f H=J .ret H:=rfl
theorem UU {I:Nat->Hp->Prop}{J:Code->Hp->Prop}{k i:Nat}:yR I J k (.exit i) f H=J (.exit i) H:=rfl
theorem b5B:AW P .ret Q f H=Q .ret f H:=by rw[AW]
theorem UQ {y:Code}:a7F P y Q .normal f H=AW P y Q f H:=rfl
theorem a3L {y:Code}{i:Nat}:a7F P y Q (.exit i) f H=Q (.exit i) f H:=rfl
theorem a7E {y:Code}:a7F P y Q .ret f H=Q .ret f H:=rfl
theorem O1 {i:Nat}:vT i Q .normal f H=Q .normal f H:=rfl
theorem V4 {i j:Nat}:vT i Q (.exit j) f H=if j=i then Q .normal f H else Q (.exit j) f H:=rfl
theorem YU {i:Nat}:vT i Q .ret f H=Q .ret f H:=rfl
theorem NV:Jf Q .normal f H=Q .normal f H:=rfl
theorem UR {i:Nat}:Jf Q (.exit i) f H=Q (.exit i) f H:=rfl
theorem YO:Jf Q .ret f H=Q .ret f H:=rfl
theorem Rz {I:Fr->Hp->Prop}{μ:Fr->Hp->Nat}{n:Nat}:Ji I μ n Q .normal f H=(I f H/\μ f H<n):=rfl
theorem YT {I:Fr->Hp->Prop}{μ:Fr->Hp->Nat}{n i:Nat}:Ji I μ n Q (.exit i) f H=Q (.exit i) f H:=rfl
theorem a3V {I:Fr->Hp->Prop}{μ:Fr->Hp->Nat}{n:Nat}:Ji I μ n Q .ret f H=Q .ret f H:=rfl
theorem a3T:Rx Q f H lg=Q .normal f H:=rfl
theorem b2F {ops:Array Oper}:b2G ops Q f H lg=(JE ops lg/\Q .normal f H):=rfl
theorem a7K {rs:List ResultVar}{own:iZ}{res:List CV}:a7L P rs own res .ret f H=(OI P f H own 0 rs res/\(match own with|none=>True|some (i,_)=>i<res.length)):=rfl
theorem UW {rs:List ResultVar}{own:iZ}{res:List CV}:a7L P rs own res .normal f H=(OI P f H own 0 rs res/\(match own with|none=>True|some (i,_)=>i<res.length)):=rfl
theorem a3O {rs:List ResultVar}{i e sz:Nat}{rows':List (List IV)}{res:List CV}:a3P P rs i e sz rows' res .ret f H=(EH P f H rs res/\H i=.blk false 1 e sz rows'):=rfl
theorem Rq {rs:List ResultVar}{i e sz:Nat}{rows':List (List IV)}{res:List CV}:a3P P rs i e sz rows' res .normal f H=(EH P f H rs res/\H i=.blk false 1 e sz rows'):=rfl
theorem a3Q {t:Nat}{i e sz:Nat}{rows':List (List IV)}:a3R [.tmp t] i e sz rows' .ret f H=YQ (f t) (H i) i e sz rows':=rfl
theorem Rt {t:Nat}{i e sz:Nat}{rows':List (List IV)}:a3R [.tmp t] i e sz rows' .normal f H=YQ (f t) (H i) i e sz rows':=rfl
theorem a7I {h st off len st' e' sz' i e sz:Nat}{rows rows':List (List IV)}:YQ (.hv h st off len) (.blk false st' e' sz' rows) i e sz rows'=(h=i/\st=1/\st'=1/\off=0/\e'=e/\sz'=sz/\len<=rows.length/\rows'=rows.take len):=rfl
theorem a7J {h st st' e' sz' i e sz:Nat}{rows rows':List (List IV)}:YQ (.hs h st) (.blk false st' e' sz' rows) i e sz rows'=(h=i/\st=1/\st'=1/\e'=e/\sz'=sz/\rows'=rows):=rfl
@[congr] theorem b2B {rs:List ResultVar} {i e sz:Nat} {rows':List (List IV)} {x:Exit}:a3R rs i e sz rows' x f H=a3R rs i e sz rows' x f H:=rfl
@[congr] theorem b2A {rs:List ResultVar} {i e sz:Nat} {rows':List (List IV)} {res:List CV} {x:Exit}:a3P P rs i e sz rows' res x f H=a3P P rs i e sz rows' res x f H:=rfl
theorem a3N {rs:List ResultVar}{B:Nat}{R:Nat->Nat->List CV->Prop}:YR P rs B R .ret f H=a8a P rs B R f H:=rfl
theorem Rn {rs:List ResultVar}{B:Nat}{R:Nat->Nat->List CV->Prop}:YR P rs B R .normal f H=a8a P rs B R f H:=rfl
@[congr] theorem b2z {rs:List ResultVar} {B:Nat} {R:Nat->Nat->List CV->Prop} {e:Exit}:YR P rs B R e f H=YR P rs B R e f H:=rfl
@[congr] theorem b3k {rs:List ResultVar} {B:Nat} {R:Nat->Nat->List CV->Prop} (hf:f=f') (hH:H=H'):a8a P rs B R f H=a8a P rs B R f' H':=by rw[hf,hH]
theorem a3S {rs:List ResultVar}{Z:AV->Hp->Prop}:UY P rs Z .ret f H=YW P rs Z f H:=rfl
theorem Ru {rs:List ResultVar}{Z:AV->Hp->Prop}:UY P rs Z .normal f H=YW P rs Z f H:=rfl
@[congr] theorem b2C {rs:List ResultVar} {Z:AV->Hp->Prop} {e:Exit}:UY P rs Z e f H=UY P rs Z e f H:=rfl
@[congr] theorem b2S {rs:List ResultVar} {Z:AV->Hp->Prop} (hf:f=f') (hH:H=H'):YW P rs Z f H=YW P rs Z f' H':=by rw[hf,hH]
theorem b3U {Z:AV->Hp->Prop}(h:Z .dead H):YW P [] Z f H:=⟨True,.dead,rfl,trivial,h⟩
theorem LX {x:AV}(ht:f t=x)(h:Z x H):YW P [.tmp t] Z f H:=⟨True,x,by simp only[SQ,ht],zar,h⟩
theorem aQ {rs:List ResultVar}(cs:List CV)(hB:H 999=.mrk B)(hr:OI P f H none 0 rs cs)(h:∀E,B<=E->R B0 E cs):a8a P rs B0 R f H:=.done ⟨B,cs,hB,hr,h⟩
theorem dO {rs:List ResultVar}(t e sz:Nat)(ht:f t=.vY)(h:a8a P rs B0 R (upd f t (.iv (.own none e sz []))) H):a8a P rs B0 R f H:=.vY t e sz ht h
theorem AY {rs:List ResultVar}(t h st e sz:Nat)(rows:List (List IV))(ht:f t=.hs h st)(hH:H h=.blk false st e sz rows)(hB:H 999=.mrk B)
  (k:∀b E,B<=E->Ry B0 E f H rows b->a8a P rs B0 R (upd f t (.iv (.own b e sz rows))) (bW (bW H h (.blk true st e sz rows)) 999 (.mrk E))):a8a P rs B0 R f H:=.opn t h st e sz rows B ht hH hB k
@[congr] theorem b6i {c:Code} (hf:f=f') (hH:H=H'):AW P c Q f H=AW P c Q f' H':=by rw[hf,hH]
@[congr] theorem b3j {ds ds':List (Option Nat)} {ops:List Oper} (hd:ds=ds') (hf:f=f') (hH:H=H'):fV P ds ops K f H lg=fV P ds' ops K f' H' lg:=by rw[hd,hf,hH]
@[congr] theorem b2R {r r':Option AR} {d:Option Nat} (hr:r=r'):kY r d K f H lg=kY r' d K f H lg:=by rw[hr]
@[congr] theorem a9B {g d:Nat} {xs xs':List AV} (hx:xs=xs') (hf:f=f') (hH:H=H'):jQ P g xs d K f H lg=jQ P g xs' d K f' H' lg:=by rw[hx,hf,hH]
@[congr] theorem a9y {v v':Option AV} {want:Bool} {yes no:Prop} (h:v=v'):EG v want yes no=EG v' want yes no:=by rw[h]
@[congr] theorem b2V {v v':AV} {x y:Code} (h:v=v') (hf:f=f') (hH:H=H'):DC P v x y Q f H=DC P v' x y Q f' H':=by rw[h,hf,hH]
@[congr] theorem b2U {c:Code} (hf:f=f') (hH:H=H'):O6 P c Q f H=O6 P c Q f' H':=by rw[hf,hH]
@[congr] theorem a9x {g:Operand} {ps:List Nat} {x y:Code} (hf:f=f') (hH:H=H'):a4d P g ps x y Q f H=a4d P g ps x y Q f' H':=by rw[hf,hH]
@[congr] theorem b3i {y:Code} {I:Nat->Hp->Prop} {J:Code->Hp->Prop} {k:Nat} {e:Exit}:b7M P y I J k e f H=b7M P y I J k e f H:=rfl
@[congr] theorem a9u {I:Nat->Hp->Prop} {J:Code->Hp->Prop} {k:Nat} {e:Exit}:yR I J k e f H=yR I J k e f H:=rfl
@[congr] theorem a9A {v v':AV} {d:Nat} {xs xs':List AV} (hv:v=v') (hx:xs=xs') (hf:f=f') (hH:H=H'):Cj P v xs d K f H lg=Cj P v' xs' d K f' H' lg:=by rw[hv,hx,hf,hH]
@[congr] theorem b3b {y:Code} {e:Exit}:a7F P y Q e f H=a7F P y Q e f H:=rfl
@[congr] theorem a9w {i:Nat} {e:Exit}:vT i Q e f H=vT i Q e f H:=rfl
@[congr] theorem a9t {e:Exit}:Jf Q e f H=Jf Q e f H:=rfl
@[congr] theorem b2K {I:Fr->Hp->Prop} {μ:Fr->Hp->Nat} {n:Nat} {e:Exit}:Ji I μ n Q e f H=Ji I μ n Q e f H:=rfl
@[congr] theorem a9v:Rx Q f H lg=Rx Q f H lg:=rfl
@[congr] theorem b3e {ops:Array Oper}:b2G ops Q f H lg=b2G ops Q f H lg:=rfl
@[congr] theorem b2L {ops:Array Oper}:JE ops lg=JE ops lg:=rfl
@[congr] theorem a9s {ops:Array Oper}:Rj ops=Rj ops:=rfl
@[congr] theorem b3c {rs:List ResultVar} {own:iZ} {res:List CV} {e:Exit}:a7L P rs own res e f H=a7L P rs own res e f H:=rfl
theorem jQ.mono {K K':Fr->Hp->Log->Prop}(hK:∀f H lg,K f H lg->K' f H lg)(h:jQ P g xs d K f H lg):jQ P g xs d K' f H lg:=by
 rcases h with ⟨c,args,ms,own,res,fz,h1,h2,h3,h4,h5⟩|⟨c,args,ms,i,h,st,e,sz,rows,rows',res,h1,h2,h3,h4,h5,h6,h7⟩|⟨c,args,ms,i,h,st,e,sz,rows,rows',h1,h2,h3,h4,h5,h6,h7⟩|⟨c,args,ms,B,R,h1,h2,h3,h4,h5⟩|⟨Z,h1,h2⟩|⟨rd,R,h1,h2⟩
 .exact .inl ⟨c,args,ms,own,res,fz,h1,h2,h3,h4,hK _ _ _ h5⟩
 .exact .inr (.inl ⟨c,args,ms,i,h,st,e,sz,rows,rows',res,h1,h2,h3,h4,h5,h6,hK _ _ _ h7⟩)
 .exact .inr (.inr (.inl ⟨c,args,ms,i,h,st,e,sz,rows,rows',h1,h2,h3,h4,h5,h6,hK _ _ _ h7⟩))
 .exact .inr (.inr (.inr (.inl ⟨c,args,ms,B,R,h1,h2,h3,h4,λB' E res q1 q2 q3=>hK _ _ _ (h5 B' E res q1 q2 q3)⟩)))
 .exact .inr (.inr (.inr (.inr (.inl ⟨Z,h1,λx H' hz=>hK _ _ _ (h2 x H' hz)⟩))))
 .exact .inr (.inr (.inr (.inr (.inr ⟨rd,R,h1,λx hs hz=>⟨(h2 x hs hz).1,(h2 x hs hz).2.1,hK _ _ _ (h2 x hs hz).2.2⟩⟩))))
theorem Oc.mono {o:Oper}{K K':Fr->Hp->Log->Prop}(hK:∀f H lg,K f H lg->K' f H lg)(h:Oc P o K f H lg):Oc P o K' f H lg:=by
 unfold Oc at h ⊢;split at h
 .unfold Cj at h ⊢;split at h
  .exact jQ.mono hK h
  .exact h.elim
 .split at h
  .obtain⟨e,c,css,fz,B,h1,h2,h3,h4,h5⟩:=h;exact⟨e,c,css,fz,B,h1,h2,h3,h4,λB' E b a1 a2 a3 a4=>hK _ _ _ (h5 B' E b a1 a2 a3 a4)⟩
  .split at h
   .exact⟨h.1,hK _ _ _ h.2⟩
   .exact h.elim
 .split at h
  .exact⟨h.1,hK _ _ _ h.2⟩
  .exact h.elim
theorem fV.mono {ds:List (Option Nat)}{K K':Fr->Hp->Log->Prop}(hK:∀f H lg,K f H lg->K' f H lg):∀(ops:List Oper) (f:Fr) (H:Hp) (lg:Log),fV P ds ops K f H lg->fV P ds ops K' f H lg
 |[],_,_,_,h=>hK _ _ _ h
 |o::rest,f,H,lg,h=>by
  unfold fV at h ⊢;split at h
  .exact Oc.mono (fV.mono hK rest) h
  .split at h
   .split at h
    .rename_i h' ;rw[zas h'];exact Oc.mono (fV.mono hK rest) h
    .rename_i h' ;rw[zam h'];exact fV.mono hK rest _ _ _ h
   .exact fV.mono hK rest _ _ _ h
   .exact h.elim
theorem AW.mono:∀(c:Code) {Q Q':Post} {f:Fr} {H:Hp},(∀e f H,Q e f H->Q' e f H)->AW P c Q f H->AW P c Q' f H
 |.skip,_,_,_,_,hq,h=>hq _ _ _ h
 |.region _ ops false,_,_,_,_,hq,h=>fV.mono (λ_ _ _ h=>hq _ _ _ h) _ _ _ _ h
 |.region _ ops true,_,_,_,_,hq,h=>h.imp (λh=>⟨h.1,fV.mono (λ_ _ _ h=>⟨h.1,hq _ _ _ h.2⟩) _ _ _ _ h.2⟩) λ⟨ord,inv,h0,h1,h2⟩=>⟨ord,inv,h0,h1,fV.mono (λ_ _ _ h=>⟨h.1,hq _ _ _ h.2⟩) _ _ _ _ h2⟩
 |.seq x y,_,_,_,_,hq,h=>by
  unfold AW at h ⊢;refine AW.mono x (λe f H h=>?_) h;cases e<;>first|exact AW.mono y hq h|exact hq _ _ _ h
 |.cond c x y,_,_,_,_,hq,h=>by
  unfold AW b2W at h ⊢;split at h
  .exact⟨λe=>AW.mono x hq (h.1 e),λe=>AW.mono y hq (h.2 e)⟩
  .exact⟨AW.mono x hq h.1,AW.mono y hq h.2⟩
  .exact h.elim
 |.block id c,_,_,_,_,hq,h=>by
  unfold AW at h ⊢;refine AW.mono c (λe f H h=>?_) h;cases e<;>simp only[vT]at h ⊢<;>first|exact hq _ _ _ h|skip
  split at h
  .rename_i e;rw[zas e];exact hq _ _ _ h
  .rename_i e;rw[zam e];exact hq _ _ _ h
 |.loop c,_,_,_,_,hq,h=>by
  unfold AW at h ⊢;obtain⟨I,μ,h0,hr⟩:=h;refine⟨I,μ,h0,λf H hI=>AW.mono c (λe f H h=>?_) (hr f H hI)⟩;cases e<;>first|exact h|exact hq _ _ _ h
 |.exit _,_,_,_,_,hq,h=>hq _ _ _ h
 |.scope c,_,_,_,_,hq,h=>by
  unfold AW at h ⊢;refine AW.mono c (λe f H h=>?_) h;cases e<;>first|exact hq _ _ _ h|exact h
 |.label _,_,_,_,_,hq,h=>hq _ _ _ h
 |.ret,_,_,_,_,hq,h=>hq _ _ _ h
 |.goto _,_,_,_,_,_,h=>by unfold AW at h;exact h.elim
 |.rangeFunc g ps x y,_,_,_,_,hq,h=>by
  unfold AW at h ⊢;obtain⟨f1,H1,gf,l,c,caps,ms,n,it,I,J,hwk,hg,ht,hc,hit,h0,hr,hd,h1,h2⟩:=h;exact⟨f1,H1,gf,l,c,caps,ms,n,it,I,J,hwk,hg,ht,hc,hit,h0,hr,λH hI=>hq _ _ _ (hd H hI),λH hI=>hq _ _ _ (h1 H hI),λi H hI=>hq _ _ _ (h2 i H hI)⟩
theorem cut (J:Fr->Hp->Prop)(h1:AW P x (Rl J Q) f H)(h2:∀f H,J f H->AW P y Q f H):AW P x (a7F P y Q) f H :=
 AW.mono x (λe f H h=>by cases e<;>first|exact h2 _ _ h|exact h) h1
theorem KD {x':Code}(J:Fr->Hp->Prop)(h1:DC P v x x' (Rl J Q) f H)(h2:∀f H,J f H->AW P y Q f H):DC P v x x' (a7F P y Q) f H:=by
 unfold DC b2W at *;split at h1
 .exact⟨λe=>cut J (h1.1 e) h2,λe=>cut J (h1.2 e) h2⟩
 .exact⟨cut J h1.1 h2,cut J h1.2 h2⟩
 .exact h1.elim
theorem yQ (J:Fr->Hp->Prop)(h1:O6 P x (vT i (Rl J Q)) f H)(h2:∀f H,J f H->AW P y Q f H):O6 P x (vT i (a7F P y Q)) f H :=
 AW.mono _ (λe f H h=>by
  cases e<;>simp only[vT]at h ⊢<;>first|exact h2 _ _ h|exact h|skip
  split at h
  .rename_i e;rw[zas e];exact h2 _ _ h
  .rename_i e;rw[zam e];exact h) h1
theorem UO {J:Fr->Hp->Prop}:Rl J Q .normal f H=J f H:=rfl
theorem a3K {J:Fr->Hp->Prop}{i:Nat}:Rl J Q (.exit i) f H=Q (.exit i) f H:=rfl
theorem a7D {J:Fr->Hp->Prop}:Rl J Q .ret f H=Q .ret f H:=rfl
@[congr] theorem b3a {J:Fr->Hp->Prop} {e:Exit}:Rl J Q e f H=Rl J Q e f H:=rfl
theorem bf [Decidable c] {x y:Code}(h1:c->AW P x Q f H)(h2:¬c->AW P y Q f H):DC P (.iv (.bool (decide c))) x y Q f H :=
 ⟨λh=>h1 (zfG h),λh=>h2 (of_decide_eq_false h)⟩
theorem U7 {b:Bool}(h1:b=true->AW P x Q f H)(h2:b=false->AW P y Q f H):DC P (.iv (.bool b)) x y Q f H:=⟨h1,h2⟩
theorem b7g (h1:AW P x Q f H)(h2:AW P y Q f H):DC P .ub x y Q f H:=⟨h1,h2⟩
theorem a8b {x y:Code}:DC P (.iv (.bool true)) x y Q f H=AW P x Q f H:=by simp[DC,b2W]
theorem a8c {x y:Code}:DC P (.iv (.bool false)) x y Q f H=AW P y Q f H:=by simp[DC,b2W]
theorem KF (I:Fr->Hp->Prop)(h0:I f H)(h:∀f H,I f H->jQ P g avs d K f H lg):jQ P g avs d K f H lg:=h f H h0
theorem aI {c:Code}(I:Fr->Hp->Prop)(μ:Fr->Hp->Nat)(h0:I f H)(hr:∀f H,I f H->AW P c (Ji I μ (μ f H) Q) f H):O6 P c Q f H:=b1p I μ h0 hr
theorem rZ {c:Code}{f':Fr}{H':Hp}(k:Weak f H f' H')(I:Fr->Hp->Prop)(μ:Fr->Hp->Nat)(h0:I f' H')(hr:∀f H,I f H->AW P c (Ji I μ (μ f H) Q) f H):O6 P c Q f H:=by
 unfold O6 AW;exact⟨I,μ,⟨f',H',k,h0⟩,hr⟩
theorem bU {c:Code}(t h e sz:Nat)(ht:f t=.vY)(I:Fr->Hp->Prop)(μ:Fr->Hp->Nat)(h0:I (fJ f H t h) (fH H h e sz))(hr:∀f H,I f H->AW P c (Ji I μ (μ f H) Q) f H):O6 P c Q f H:=a6x t h e sz ht I μ h0 hr
end
theorem ACW.aj (hm : P.follows .mixedOrders = true) {fn : Func} {body : Code} {rs : List ResultVar} (hf : P.funcs[g]? = some fn) (hb : fn.body = some body) (hr : fn.results.toList = rs) (hn : (fn.name == "runtime.NumGoroutine") = false)
  (hd:codeOk fn.ntmps body=true) (hargs:Nat.ble args.length fn.ntmps=true) (h : @AW zi0 P body (@a3P zi0 P rs i e sz rows' res) (xw args i) (fG i e sz rows)):ACW P g args i e sz rows rows' res:=by
 subst hr;exact ACW.rP hm hf hb hn hd (zcu hargs) h
theorem ACT.aj (hm : P.follows .mixedOrders = true) {fn : Func} {body : Code} {rs : List ResultVar} (hf : P.funcs[g]? = some fn) (hb : fn.body = some body) (hr : fn.results.toList = rs) (hn : (fn.name == "runtime.NumGoroutine") = false)
  (hd:codeOk fn.ntmps body=true) (hargs:Nat.ble args.length fn.ntmps=true) (h : @AW zi0 P body (a3R rs i e sz rows') (xw args i) (fG i e sz rows)):ACT P g args i e sz rows rows':=by
 subst hr;exact ACT.rP hm hf hb hn hd (zcu hargs) h
theorem AC.aj {own : iZ} (hm : P.follows .mixedOrders = true) {fn : Func} {body : Code} {rs : List ResultVar} (hf : P.funcs[g]? = some fn) (hb : fn.body = some body) (hr : fn.results.toList = rs) (hn : (fn.name == "runtime.NumGoroutine") = false)
  (hd:codeOk fn.ntmps body=true) (hargs:Nat.ble args.length fn.ntmps=true) (h : @AW zi0 P body (@a7L zi0 P rs own res) (kF args) Dj):AC P g args own res:=by
 subst hr;exact AC.rP hm hf hb hn hd (zcu hargs) h
theorem ACX.aj (zx : Zi) {P : Program} {g : Nat} {args : List CV} {R : Nat → Nat → List CV → Prop} (hm : P.follows .mixedOrders = true) {fn : Func} {body : Code} {rs : List ResultVar} (hf : P.funcs[g]? = some fn) (hb : fn.body = some body) (hr : fn.results.toList = rs) (hn : (fn.name == "runtime.NumGoroutine") = false)
  (hd:codeOk fn.ntmps body=true) (hargs:Nat.ble args.length fn.ntmps=true) (hne:∀B,∃E res,B<=E/\R B E res) (h:∀B,@AW zx P body (@YR zx P rs B R) (kF args) (kL B)):ACX P g args R:=by
 subst hr;exact ACX.rP hm hf hb hn hd (zcu hargs) hne (n:=none) h
theorem ACI.aj (zx : Zi) {P : Program} {g : Nat} {avs : List AV} {H : Hp} {Z : AV → Hp → Prop} (hm : P.follows .mixedOrders = true) {fn : Func} {body : Code} {rs : List ResultVar} (hf : P.funcs[g]? = some fn) (hb : fn.body = some body) (hr : fn.results.toList = rs) (hn : (fn.name == "runtime.NumGoroutine") = false)
  (hd:codeOk fn.ntmps body=true) (hnr:dM body=true) (hargs:Nat.ble avs.length fn.ntmps=true) (hne:∃x H',Z x H') (h : @AW zx P body (@UY zx P rs Z) (Ec avs) H):ACI P g avs H Z:=by
 subst hr;exact ACI.rP hm hf hb hn hd hnr (zcu hargs) hne h
theorem ACX.Xk (zx : Zi) (n : Nat) {P : Program} {g : Nat} {args : List CV} {R : Nat → Nat → List CV → Prop} (hm : P.follows .mixedOrders = true) {fn : Func} {body : Code} {rs : List ResultVar} (hf : P.funcs[g]? = some fn) (hb : fn.body = some body) (hr : fn.results.toList = rs) (hn : (fn.name == "runtime.NumGoroutine") = false)
  (hd:codeOk fn.ntmps body=true) (hargs:Nat.ble args.length fn.ntmps=true) (hne:∀B,∃E res,B<=E/\R B E res) (h:∀B,@AWo zx P B n body (@YR zx P rs B R) (kF args) (kL B)):ACX P g args R:=by
 subst hr;exact ACX.rP hm hf hb hn hd (zcu hargs) hne (n:=some n) h
theorem a7R {P:Program}{B0 n:Nat}{x y:Code}{Q:Post}{f:Fr}{H:Hp}:AWo P B0 (n+1) (.seq x y) Q f H=AW P x (Rl (AWo P B0 n y Q) Q) f H:=rfl
def bC (f:Fr)(t:Nat):Int:=match f t with | .iv (.int _ n)=>n|_=>0
theorem aC {k:IntKind}(h:f t=.iv (.int k n)):bC f t=n:=by simp[bC,h]
def dh (l:List Nat):List (List IV):=l.map λx:Nat=>[.int .u64 (x:Int)]
theorem uT (l:List Nat):(dh l).length=l.length:=by simp[dh]
theorem U0 {l:List Nat}{i:Nat}(h:i<l.length):(dh l).getD i []=[.int .u64 ((l.getD i 0:Nat):Int)]:=by simp[dh,List.getD,h]
theorem b1z (a b:Int):(a == b)=decide (a=b):=by by_cases h:a=b<;>simp[h]
theorem b1y (a b:Int):(a != b)=decide (a≠b):=by by_cases h:a=b<;>simp[h,bne]
theorem N8 (l:List Nat)(i x:Nat):(dh l).set i [.int .u64 (x:Int)]=dh (l.set i x):=by simp[dh,zev]
theorem Wv (l m:List Nat):dh l++dh m=dh (l++m):=by simp[dh]
theorem a1X (l:List Nat)(x:Nat):dh l++[[.int .u64 (x:Int)]]=dh (l++[x]):=by simp[dh]
theorem xk (l:List Nat)(k:Nat):(dh l).take k=dh (l.take k):=by simp[dh,zcL]
theorem Ib (l:List Nat)(k:Nat):(dh l).drop k=dh (l.drop k):=by simp[dh,List.map_drop]
theorem a6A (n:Nat):List.replicate n [.int .u64 0]=dh (List.replicate n 0):=by simp[dh]
theorem Q5 (l:List Nat):(∀r∈dh l,r.length=1)↔True:=by simp[dh]
theorem a6B:dh []=[]:=rfl
theorem CZ (x y:IV):splice [x] 0 [y]=[y]:=rfl
theorem AC.of_run (ins:List (IntKind×Int))(outs:List (IntKind×Int))(ha:args=ins.map λp=>.iv (.int p.1 p.2))(hr:res=outs.map λp=>.iv (.int p.1 p.2))
  (h:∀w,(callFunc g (ins.map λp=>Value.int p.1 p.2).toArray).run P w=.ok (.value (uP (outs.map λp=>Value.int p.1 p.2))) w):AC P g args none res:=by
 intro w D vs hD hvs;have hv:vs=ins.map λp=>Value.int p.1 p.2:=by
  subst ha;clear h hr
  induction ins generalizing vs with
  |nil=>match vs,hvs with | [],_=>rfl
  |cons p ps ih =>
   match vs,hvs with
   |v::vs,hvs =>
    obtain⟨h1,h2⟩:=hvs;have:=ih vs h2;rw[this];simp only[jo]at h1;cases h1;rfl
 subst hv;refine .inr ⟨_,w,h w,Below.refl _ _,_,rfl,?_⟩;subst hr;refine⟨by simp,λj c v _ hc hv=>?_,λi e sz rows h=>nomatch h⟩;rw[zaD]at hc hv;cases ho:outs[j]? with
 |none=>rw[ho]at hc;cases hc
 |some p =>
  rw[ho]at hc hv;cases hc;cases hv;exact .int _ _
theorem ZT (fz:Bool)(st e sz:Nat)(rows:List (List IV)):HC.stamp (.blk fz st e sz rows)=st:=rfl
theorem ZQ (st e:Nat)(rows:List AV):(HC.nst st e rows).stamp=st:=rfl
theorem XL (st sz:Nat):(HC.gone st sz).stamp=st:=rfl
theorem XK:HC.stamp .none=0:=rfl
theorem b1N (fz:Bool)(st e sz:Nat)(rows:List (List IV)):HC.frz (.blk fz st e sz rows)=.blk true st e sz rows:=rfl
theorem a7d:HC.frz .none=.none:=rfl
theorem ZR (B:Nat):(HC.mrk B).stamp=0:=rfl
theorem Ue (B:Nat):HC.frz (.mrk B)=.mrk B:=rfl
theorem a2l (B h:Nat):kL B h=if h=999 then .mrk B else .none:=rfl
theorem b4Z:((0:Nat):Int)=0:=rfl
theorem b4Y:((1:Nat):Int)=1:=rfl
theorem aP {ops:Array Oper}(h:JJ ops=true):Rj ops:=h
theorem aX {ops:Array Oper}{lg:Log}(h:Bg ops lg.reverse=true):JE ops lg:=h
theorem b0t:List.range 1=[0]:=rfl
theorem b0s:List.range 2=[0,1]:=rfl
theorem b0r:List.range 3=[0,1,2]:=rfl
theorem b0q:List.range 4=[0,1,2,3]:=rfl
theorem a7P (x:IV):CV.av (.iv x)=.iv x:=rfl
theorem a3Y (v:Value):CV.av (.val v)=a4q v:=rfl
theorem a4b (x:List IV):CV.av (.agg x)=.agg x:=rfl
theorem a4a:CV.av .any=.dead:=rfl
theorem a2n (args:List CV)(i t:Nat):xw args i t=if t=i then .hs i 1 else ((args.map CV.av)[t]?).getD .undef:=rfl
theorem a2m (i e sz:Nat)(rows:List (List IV))(h:Nat):fG i e sz rows h=if h=i then .blk false 1 e sz rows else .none:=rfl
theorem a3Z (x:List IV):CV.av (.box x)=.ip x:=rfl
theorem a7Q (g:Nat)(x:List (List IV)):CV.av (.fn g x)=.fn g (x.map .ip):=rfl
theorem a2e (f:Fr)(p:Nat)(ps:List Nat)(x:AV)(xs:List AV):lays f (p::ps) (x::xs)=lays (upd f p x) ps xs:=rfl
theorem a6D (f:Fr):lays f [] []=f:=rfl
theorem wrap_u64 (h:0<=n/\n<18446744073709551616):IntKind.u64.wrap n=n:=by
 simp only[IntKind.wrap,IntKind.signed,IntKind.bits,zdj,zbg,zbo];omega
end Go.AL

namespace Go.AL
set_option linter.unusedSimpArgs false
set_option linter.unusedVariables false
def vl (b:Nat):List Nat->Nat
 |[]=>0
 |x::xs=>x+b*vl b xs
def kV:List Nat->Nat
 |[]=>0
 |x::xs=>if kV xs=0 then (if x=0 then 0 else 1) else kV xs+1
theorem wE:∀l:List Nat,kV l<=l.length
 |[]=>zab _
 |x::xs=>by
  have:=wE xs;simp only[kV,zaL];split
  .split<;>omega
  .omega
theorem nV {l:List Nat}:∀{k:Nat},k<l.length->l.getD k 0=0->kV (l.take (k+1))=kV (l.take k):=by
 induction l with
 |nil=>intro k h;simp at h
 |cons x xs ih =>
  intro k h h0;cases k with
  |zero=>simp at h0;simp[kV,h0]
  |succ k =>
   simp only[zaL]at h;simp only[zaJ,kV];rw[ih (by omega) (by simpa using h0)]
theorem Aa {l:List Nat}:∀{k:Nat},k<l.length->l.getD k 0≠0->kV (l.take (k+1))=k+1:=by
 induction l with
 |nil=>intro k h;simp at h
 |cons x xs ih =>
  intro k h h0;cases k with
  |zero=>simp at h0;simp[kV,h0]
  |succ k =>
   simp only[zaL]at h;simp only[zaJ,kV];rw[ih (by omega) (by simpa using h0)];simp
def dg (b n:Nat):List Nat:=if h:n=0\/b<2 then [] else n%b::dg b (n/b)
termination_by n
decreasing_by exact Nat.div_lt_self (by omega) (by omega)
theorem uZ (b:Nat):dg b 0=[]:=by rw[dg];simp
theorem KT {b n:Nat}(hb:2<=b)(hn:n≠0):dg b n=n%b::dg b (n/b):=by rw[dg];rw[dif_neg (by omega)]
theorem Qq {b n:Nat}(hb:2<=b):dg b n=[]↔n=0:=by
 constructor
 .intro h;by_cases hn:n=0
  .exact hn
  .rw[KT hb hn]at h;cases h
 .rintro rfl;exact uZ b
theorem a4A {b:Nat}(hb:2<=b)(n:Nat):vl b (dg b n)=n:=by
 induction n using Nat.strongRecOn with
 |_ n ih =>
  by_cases hn:n=0
  .subst hn;rw[uZ];rfl
  .rw[KT hb hn,vl,ih _ (Nat.div_lt_self (by omega) (by omega))];exact zeB n b
theorem b2a {b:Nat}(hb:2<=b)(n:Nat):∀x∈dg b n,x<b:=by
 induction n using Nat.strongRecOn with
 |_ n ih =>
  by_cases hn:n=0
  .subst hn;rw[uZ];simp
  .rw[KT hb hn];intro x hx;simp only[zaG]at hx;rcases hx with rfl|hx
   .exact zbj _ (by omega)
   .exact ih _ (Nat.div_lt_self (by omega) (by omega)) x hx
theorem uy {b:Nat}(hb:2<=b):∀l:List Nat,vl b l=0↔kV l=0
 |[]=>by simp[vl,kV]
 |x::xs=>by
  have:=uy hb xs;simp only[vl,kV];constructor
  .intro h;have h1:x=0:=by omega
   have h2:b*vl b xs=0:=by omega
   have h3:vl b xs=0:=by rcases Nat.mul_eq_zero.mp h2 with h|h<;>omega
   simp[this.mp h3,h1]
  .intro h;split at h
   .rename_i h';split at h
    .rename_i hx;rw[this.mpr h',hx];rfl
    .omega
   .omega
theorem a3c {b:Nat}(hb:2<=b):∀{l:List Nat},(∀x∈l,x<b)->dg b (vl b l)=l.take (kV l)
 |[],_=>by simp[vl,uZ,kV]
 |x::xs,h=>by
  have ih:=a3c hb (l:=xs) (λy hy=>h y (by simp[hy]));have hx:x<b:=h x (by simp);simp only[vl];by_cases h0:x+b*vl b xs=0
  .have:=(uy hb (x::xs)).mp h0;rw[h0,uZ,this];rfl
  .rw[KT hb h0,zbQ,zan hx,zdd _ _ (by omega),za6 hx,za9,ih];simp only[kV];split
   .rename_i ht;have:vl b xs=0:=(uy hb xs).mpr ht;have hx0:x≠0:=by rw[this]at h0;omega
    simp[ht,hx0]
   .rw[zaJ]
theorem jC (b:Nat)(m:List Nat):∀l:List Nat,vl b (l++m)=vl b l+b^l.length*vl b m
 |[]=>by simp[vl]
 |x::xs=>by
  simp only[List.cons_append,vl,jC b m xs,zaL,za7,zbx];rw[zaA (b^xs.length) b,za1];omega
theorem Xz {b:Nat}:∀{l:List Nat},(∀x∈l,x<b)->vl b l<b^l.length
 |[],_=>by simp[vl]
 |x::xs,h=>by
  have ih:=Xz (l:=xs) (λy hy=>h y (by simp[hy]));have hx:=h x (by simp);simp only[vl,zaL,za7];have:b*vl b xs+b<=b^xs.length*b:=by
   rw[zaA (b^_) b,<-zdQ];exact zbb _ ih
  omega
theorem gK (b:Nat)(l:List Nat){k:Nat}(h:k<=l.length):vl b l=vl b (l.take k)+b^k*vl b (l.drop k):=by
 conv=>lhs;rw[<-zb1 k l]
 rw[jC,zah,zaZ h]
theorem jB (b n:Nat):vl b (List.replicate n 0)=0:=by
 induction n with
 |zero=>rfl
 |succ n ih=>simp[zfj,vl,ih]
theorem DL (b:Nat){l:List Nat}{k:Nat}(h:k<l.length):vl b (l.take (k+1))=vl b (l.take k)+b^k*l.getD k 0:=by
 rw[zaS,jC,zah,zaZ (by omega)];simp[List.getD,h,vl]
theorem jc {b:Nat}(hb:2<=b)(k:Nat):∀{n:Nat},(dg b n).length<=k↔n<b^k:=by
 intro n;constructor
 .intro h;have:=Xz (b2a hb n);rw[a4A hb]at this;exact zau this (zaH (by omega) h)
 .intro h
  induction k generalizing n with
  |zero=>obtain rfl:n=0:=by simpa using h
         simp[uZ]
  |succ k ih =>
   by_cases hn:n=0
   .subst hn;simp[uZ]
   .rw[KT hb hn,zaL];have:n/b<b^k:=by rw[za5 (by omega),<-za7];exact h
    have:=ih this;omega
theorem FY {b:Nat}(hb:2<=b):∀{l:List Nat},(∀x∈l,x<b)->vl b (l.take (kV l))=vl b l:=by
 intro l h;rw[<-a3c hb h,a4A hb]
abbrev W:Nat:=18446744073709551616
def Lim (l:List Nat):Prop:=∀x∈l,x<W
abbrev wd (n:Nat):List Nat:=dg W n
abbrev nv (l:List Nat):Nat:=vl W l
theorem oV:2<=W:=by decide
theorem bg (n:Nat):Lim (wd n):=b2a oV n
theorem bJ (n:Nat):nv (wd n)=n:=a4A oV n
theorem a9L {l:List Nat}(h:Lim l):wd (nv l)=l.take (kV l):=a3c oV h
theorem ni:wd 0=[]:=uZ W
theorem b3y {n:Nat}:wd n=[]↔n=0:=Qq oV
theorem jA {n:Nat}:(wd n).length=0↔n=0:=by rw[zaz];exact b3y
theorem bH {n k:Nat}:(wd n).length<=k↔n<W^k:=jc oV k
theorem iP {l:List Nat}(h:Lim l):(wd (nv l)).length<=l.length:=bH.mpr (Xz h)
theorem Lim.get {l:List Nat}(h:Lim l)(i:Nat):l.getD i 0<W:=by
 by_cases hi:i<l.length
 .have:l.getD i 0=l[i]:=by simp[List.getD,hi]
  rw[this];exact h _ (zaY hi)
 .rw[zax,zaQ (by omega)];decide
theorem Lim.nil:Lim []:=λ_ h=>nomatch h
theorem Lim.cons {x:Nat}{l:List Nat}(hx:x<W)(h:Lim l):Lim (x::l):=λy hy=>by
 rcases zaG.mp hy with rfl|hy
 .exact hx
 .exact h y hy
theorem Lim.append {l m:List Nat}(h:Lim l)(h':Lim m):Lim (l++m):=λx hx=>(zap.mp hx).elim (h x) (h' x)
theorem Lim.take {l:List Nat}(h:Lim l)(k:Nat):Lim (l.take k):=λx hx=>h x (za0 hx)
theorem Lim.drop {l:List Nat}(h:Lim l)(k:Nat):Lim (l.drop k):=λx hx=>h x (zcE hx)
theorem Lim.set {l:List Nat}(h:Lim l){i x:Nat}(hx:x<W):Lim (l.set i x):=λy hy=>by
 rcases zdF hy with hy|rfl
 .exact h y hy
 .exact hx
theorem Lim.replicate (n:Nat):Lim (List.replicate n 0):=λx hx=>by rw[zca hx];decide
theorem sJ (a b:Nat):(wd (a+b)).length<=max (wd a).length (wd b).length+1:=by
 rw[bH,za7];have h1:a<W^(max (wd a).length (wd b).length):=bH.mp (by omega);have h2:b<W^(max (wd a).length (wd b).length):=bH.mp (by omega);have:W^(max (wd a).length (wd b).length)*2<=W^(max (wd a).length (wd b).length)*W:=zbb _ (by decide);omega
theorem fK (a b:Nat):(wd (a*b)).length<=(wd a).length+(wd b).length:=by
 rw[bH,zbM];have h1:a<W^(wd a).length:=bH.mp (zab _);have h2:b<W^(wd b).length:=bH.mp (zab _);exact Nat.mul_lt_mul'' h1 h2
theorem bF {a b:Nat}(h:a<=b):(wd a).length<=(wd b).length:=by
 rw[bH];exact za3 h (bH.mp (zab _))
theorem aT (b:Nat)(l:List Nat)(k:Nat):vl b (l.take (k+1))=vl b (l.take k)+b^k*l.getD k 0:=by
 by_cases h:k<l.length
 .exact DL b h
 .rw[zac (by omega),zac (by omega),zax,zaQ (by omega)];simp
theorem dI (b:Nat){l:List Nat}{k:Nat}(h:k<l.length)(x:Nat):vl b ((l.set k x).take (k+1))=vl b (l.take k)+b^k*x:=by
 rw[DL b (by simpa using h),List.take_set_of_le (zab _)];simp[List.getD,h]
theorem Zq {b:Nat}:∀{l m:List Nat},(∀x∈l,x<b)->(∀x∈m,x<b)->l.length=m.length->vl b l=vl b m->l=m
 |[],[],_,_,_,_=>rfl
 |x::xs,y::ys,h1,h2,hl,h=>by
  simp only[vl]at h;have hx:=h1 x (by simp);have hy:=h2 y (by simp);have e1:x=y:=by
   have:=zaO (· % b) h;simpa [zbQ,zan hx,zan hy] using this
  subst e1;have e2:b*vl b xs=b*vl b ys:=by omega
  have e3:vl b xs=vl b ys:=zcJ (by omega) e2;rw[Zq (λz hz=>h1 z (by simp[hz])) (λz hz=>h2 z (by simp[hz])) (by simpa using hl) e3]
 |[],_::_,_,_,hl,_=>by simp at hl
 |_::_,[],_,_,hl,_=>by simp at hl
def pad:Nat->Nat->List Nat
 |0,_=>[]
 |n+1,s=>s%W::pad n (s/W)
theorem nK:∀n s,(pad n s).length=n
 |0,_=>rfl
 |n+1,s=>by simp[pad,nK n]
theorem rU:∀n s,Lim (pad n s)
 |0,_=>Lim.nil
 |n+1,s=>Lim.cons (zbj _ (by decide)) (rU n _)
theorem wY:∀n s,nv (pad n s)=s%W^n
 |0,s=>by simp[pad,vl,zfk]
 |n+1,s=>by
  have:=wY n (s/W);simp only[nv]at this;simp only[pad,nv,vl,this];rw[za7,zaA (W^n) W,Nat.mod_mul]
theorem qG {l:List Nat}{n s:Nat}(h:Lim l)(hl:l.length=n)(hv:nv l=s%W^n):l=pad n s :=
 Zq h (rU n s) (by rw[nK,hl]) (by rw[<-nv,hv];exact(wY n s).symm)
theorem kE {l:List Nat}(h:Lim l):nv l<W^l.length:=Xz h
theorem gB (n:Nat):0<W^n:=zb7 (by decide)
theorem yB {P A B O c x y s c':Nat}(h:O+P*c=A+B)(he:s+W*c'=x+y+c):(O+P*s)+P*W*c'=(A+P*x)+(B+P*y):=by
 have:=zaO (P * ·) he;simp only[zbx]at this;rw[za1];omega
theorem Uy {P A B O c x y s c':Nat}(h:O+B=A+P*c)(he:s+y+c=x+W*c'):(O+P*s)+(B+P*y)=(A+P*x)+P*W*c':=by
 have:=zaO (P * ·) he;simp only[zbx]at this;rw[za1];omega
theorem TT (l:List Nat)(x:Nat):nv (l++[x])=nv l+W^l.length*x:=by simp[nv,jC,vl]
abbrev RI:=Bool×List Nat
def jy (c:RI):List IV:=[.bool c.1,.sl (dh c.2)]
def iv (c:RI):Int:=if c.1 then -(nv c.2:Int) else (nv c.2:Int)
def canon (z:Int):RI:=(decide (z<0),wd z.natAbs)
def sg (s:Bool)(n:Nat):Int:=if s then -(n:Int) else (n:Int)
def Sz (k:Nat)(c:RI):Prop:=c.2.length<=k/\Lim c.2
def zl (z:Int):Nat:=(wd z.natAbs).length
def bZ (p:List RI):List (List IV):=p.map jy
theorem a5W (c:RI):(jy c).length=2:=rfl
theorem Yb (c:RI):(jy c).drop 0=jy c:=rfl
theorem Ya (c:RI):(jy c).drop 1=[.sl (dh c.2)]:=rfl
theorem a1f (c:RI)(d:IV):(jy c).getD 0 d=.bool c.1:=rfl
theorem a1e (c:RI)(d:IV):(jy c).getD 1 d=.sl (dh c.2):=rfl
theorem a1c (c:RI):(jy c).take 2=jy c:=rfl
theorem a1b:[IV.bool false,IV.sl []]=jy (false,[]):=rfl
theorem Tz (c d:RI):splice (jy c) 0 (jy d)=jy d:=rfl
theorem a5v (p:List RI):(bZ p).length=p.length:=by simp[bZ]
theorem b0p {p:List RI}{i:Nat}(h:i<p.length):(bZ p).getD i []=jy (p.getD i (false,[])):=by simp[bZ,List.getD,h]
theorem a5q (p:List RI)(i:Nat)(c:RI):(bZ p).set i (jy c)=bZ (p.set i c):=by simp[bZ,zev]
theorem a0y (p:List RI)(c:RI):bZ p++[jy c]=bZ (p++[c]):=by simp[bZ]
theorem Md (p q:List RI):bZ p++bZ q=bZ (p++q):=by simp[bZ]
theorem a5t:bZ []=[]:=rfl
theorem a5s (n:Nat):List.replicate n (jy (false,[]))=bZ (List.replicate n (false,[])):=by simp[bZ]
theorem a0A (p:List RI):(∀r∈bZ p,r.length=2)↔True:=by
 refine iff_true_intro λr hr=>?_;simp only[bZ,zaw]at hr;obtain⟨c,_,rfl⟩:=hr;rfl
theorem a0x (p:List RI)(k:Nat):(bZ p).take k=bZ (p.take k):=by simp[bZ,zcL]
theorem a0B (p:List RI)(k:Nat):(bZ p).drop k=bZ (p.drop k):=by simp[bZ,List.map_drop]
theorem a3v (z:Int):(canon z).2=wd z.natAbs:=rfl
theorem a3y (z:Int):(canon z).1=decide (z<0):=rfl
theorem aS (z:Int):iv (canon z)=z:=by
 simp only[iv,canon,bJ];by_cases h:z<0
 .simp only[h,decide_true,zcm];omega
 .simp only[h,decide_false,zbg,zbo];omega
theorem aY (z:Int):Sz (zl z) (canon z):=⟨zab _,bg _⟩
theorem Sz.mono {j k:Nat}{c:RI}(h:Sz j c)(hk:j<=k):Sz k c:=⟨zad h.1 hk,h.2⟩
theorem Ii (c:RI):(iv c).natAbs=nv c.2:=by
 unfold iv;split<;>omega
theorem oO {c:RI}{k:Nat}(h:Sz k c):zl (iv c)<=k:=by
 unfold zl;rw[Ii];exact Nat.le_trans (iP h.2) h.1
theorem yC (s:Bool)(n:Nat):canon (sg s n)=(s && decide (n≠0),wd n):=by
 unfold canon sg;cases s
 .simp
 .by_cases h:n=0
  .subst h;simp
  .simp[h];omega
theorem b6j (s:Bool)(n:Nat):zl (sg s n)=(wd n).length:=by
 unfold zl sg;cases s<;>simp
theorem qg (a b:Int):zl (a+b)<=max (zl a) (zl b)+1:=by
 unfold zl;exact zad (bF (Int.natAbs_add_le a b)) (sJ _ _)
theorem sD (a:Int):zl (-a)=zl a:=by unfold zl;rw[Int.natAbs_neg]
theorem fA (a b:Int):zl (a*b)<=zl a+zl b:=by
 unfold zl;rw[Int.natAbs_mul];exact fK _ _
theorem iC:zl 0=0:=by simp[zl,ni]
theorem U5:iv (false,[])=0:=by simp[iv,vl]
theorem Dw:canon 0=(false,[]):=by simp[canon,ni]
theorem Fe (c:RI):iv c=sg c.1 (nv c.2):=rfl
theorem b1w (c:RI)(b:Bool)(l:List (List IV)):lay (λi=>[(0,1),(1,1)][i]?) (jy c) ([0,1].zip [[.bool b],[.sl l]])=some (True,[.bool b,.sl l]):=by
 simp[lay,splice,jy]
theorem Ih {a b:RI}(h:a.1=b.1):iv a+iv b=sg a.1 (nv a.2+nv b.2):=by
 unfold iv sg;rw[<-h];split<;>omega
theorem U6 {a b:RI}(h:a.1≠b.1):iv a+iv b=sg (a.1 != decide (nv a.2<nv b.2)) (if nv a.2<nv b.2 then nv b.2-nv a.2 else nv a.2-nv b.2):=by
 unfold iv sg;cases ha:a.1<;>cases hb:b.1<;>rw[ha,hb]at h<;>first|exact(h rfl).elim|skip
 all_goals
  by_cases hlt:nv a.2<nv b.2
  .simp[hlt];omega
  .simp[hlt];omega
theorem a9b (a b:RI):iv a*iv b=sg (a.1 != b.1) (nv a.2*nv b.2):=by
 unfold iv sg;cases a.1<;>cases b.1<;>simp[Int.neg_mul,Int.mul_neg]
theorem GR {l:List Nat}(h:Lim l)(k:Nat):nv (l.take k)=nv l%W^k:=by
 by_cases hk:k<=l.length
 .have e:=gK W l hk;have h2:=kE (h.take k);rw[zah,zaZ hk]at h2;simp only[nv]at *;rw[e,zbQ,zan h2]
 .rw[zac (by omega),zan];exact zau (kE h) (zaH (by decide) (by omega))
theorem a1C {l:List Nat}(h:Lim l)(k:Nat):nv (l.drop k)=nv l/W^k:=by
 by_cases hk:k<=l.length
 .have e:=gK W l hk;have h2:=kE (h.take k);rw[zah,zaZ hk]at h2;simp only[nv]at *;rw[e,zdd _ _ (gB k),za6 h2,za9]
 .rw[zbD (by omega),za6]
  .rfl
  .exact zau (kE h) (zaH (by decide) (by omega))
theorem Zo (b:Nat):∀{l:List Nat} {k:Nat} (_:k<l.length) (x:Nat),vl b (l.set k x)+b^k*l.getD k 0=vl b l+b^k*x
 |y::ys,0,_,x=>by simp[vl];omega
 |y::ys,k+1,h,x=>by
  have ih:=Zo b (l:=ys) (k:=k) (by simpa using h) x;have:=zaO (b * ·) ih;simp only[zbx]at this;simp only[zbe,vl,zdp,za7];rw[zaA (b^k) b,za1,za1];omega
theorem TU {l:List Nat}{k m:Nat}(hk:k<m)(hm:m<=l.length)(x:Nat):nv ((l.set k x).take m)+W^k*l.getD k 0=nv (l.take m)+W^k*x:=by
 rw[List.take_set];have:=Zo W (l:=l.take m) (k:=k) (by rw[zah];omega) x;have e:(l.take m).getD k 0=l.getD k 0:=by simp[List.getD,hk]
 rw[e]at this;exact this
def Jq (n:Nat)(l:List Nat):List Nat:=if l.length=0 then [] else List.replicate n 0++l
theorem VZ (n:Nat)(l:List Nat):nv (Jq n l)=W^n*nv l:=by
 unfold Jq;split
 .rename_i h;rw[zaz]at h;subst h;simp[vl]
 .simp[nv,jC,jB]
theorem Q7 (n:Nat){l:List Nat}(h:Lim l):Lim (Jq n l):=by
 unfold Jq;split
 .exact Lim.nil
 .exact(Lim.replicate n).append h
theorem Q9 (n:Nat)(l:List Nat):(Jq n l).length<=n+l.length:=by
 unfold Jq;split<;>simp
theorem b9I (x y P:Nat)(hP:0<P):∀x1 x0 y1 y0,x1=x/P->x0=x%P->y1=y/P->y0=y%P ->
  P*P*(x1*y1)+P*((x1+x0)*(y1+y0)-(x1*y1+x0*y0))+x0*y0=x*y/\x1*y1+x0*y0<=(x1+x0)*(y1+y0):=by
 intro x1 x0 y1 y0 h1 h2 h3 h4;have ex:x=P*x1+x0:=by rw[h1,h2];exact(zbl x P).symm
 have ey:y=P*y1+y0:=by rw[h3,h4];exact(zbl y P).symm
 have e:(x1+x0)*(y1+y0)=x1*y1+x0*y0+(x1*y0+x0*y1):=by simp only[zaN,zbx];omega
 refine⟨?_,by omega⟩;rw[e,zde,ex,ey];simp only[zaN,zbx];have e1:P*x1*(P*y1)=P*P*(x1*y1):=Nat.mul_mul_mul_comm _ _ _ _;have e2:P*x1*y0=P*(x1*y0):=za1 _ _ _;have e3:x0*(P*y1)=P*(x0*y1):=zfH _ _ _;rw[e1,e2,e3];omega
theorem row_step {T T' Q A b S Bj c o lo hi:Nat}(h:T+Q*c=S+b*Bj)(hT:T'+Q*o=T+Q*lo)(he:hi*W+lo=A+c+o):T'+Q*W*hi=S+(b*Bj+Q*A):=by
 have:=zaO (Q * ·) he;simp only[zbx]at this;rw[za1,zaA W hi];omega
end Go.AL

namespace Go.AL
set_option linter.unusedSimpArgs false
set_option linter.unusedVariables false
variable {q p:List Int} {k n n' k' m j:Nat} {g:Nat->Int}
def pv (p:List RI):List Int:=p.map iv
def tz (q:List Int):Nat:=kV (q.map Int.natAbs)
def aO (q:List Int):List Int:=q.take (tz q)
def cf (q:List Int)(k:Nat):Int:=q.getD k 0
def RP (n k:Nat)(p:List RI):Prop:=p.length<=n/\∀c∈p,Sz k c
def PB (n k:Nat)(q:List Int):Prop:=q.length<=n/\∀z∈q,zl z<=k
def iQ (q:List Int):List (List IV):=bZ ((aO q).map canon)
theorem CS (q:List Int):tz q<=q.length:=by simpa [tz] using wE (q.map Int.natAbs)
theorem dw (q:List Int):(aO q).length=tz q:=by rw[aO,zah,zaZ (CS q)]
theorem DN (h:k<q.length)(h0:cf q k=0):tz (q.take (k+1))=tz (q.take k):=by
 unfold tz;rw[List.map_take,List.map_take];refine nV (by simpa using h) ?_;simp only[cf,List.getD,zaD,h,zaf,zbz,zaE]at h0 ⊢;simp[h0]
theorem Sl (h:k<q.length)(h0:cf q k≠0):tz (q.take (k+1))=k+1:=by
 unfold tz;rw[List.map_take];refine Aa (by simpa using h) ?_;simp only[cf,List.getD,zaD,h,zaf,zbz,zaE]at h0 ⊢;simp;exact h0
theorem kX (h:q.length<=k):cf q k=0:=by
 simp[cf,List.getD,zaQ h]
theorem lK (x:Int)(xs:List Int):cf (x::xs) 0=x:=rfl
theorem iy (x:Int)(xs:List Int)(k:Nat):cf (x::xs) (k+1)=cf xs k:=rfl
theorem lJ (k:Nat):cf [] k=0:=rfl
theorem Sm (x:Int)(xs:List Int):tz (x::xs)=if tz xs=0 then (if x=0 then 0 else 1) else tz xs+1:=by
 unfold tz;simp only[List.map_cons,kV];by_cases hx:x=0
 .simp[hx]
 .rw[zam hx,zam (show ¬x.natAbs=0 by omega)]
theorem bn:∀{q:List Int},tz q=0↔∀k,cf q k=0
 |[]=>by simp[tz,kV,lJ]
 |x::xs=>by
  rw[Sm];constructor
  .intro h k;split at h
   .rename_i h0;split at h
    .rename_i hx;subst hx;cases k with
     |zero=>rfl
     |succ k=>exact bn.mp h0 k
    .omega
   .omega
  .intro h;have h0:tz xs=0:=bn.mpr λk=>h (k+1)
   have hx:x=0:=h 0;rw[zas h0,zas hx]
theorem CU (x:Int)(xs:List Int):aO (x::xs)=if tz xs=0/\x=0 then [] else x::aO xs:=by
 unfold aO;rw[Sm];by_cases h:tz xs=0
 .by_cases hx:x=0<;>simp[h,hx]
 .simp[h]
theorem ji:∀{p q:List Int},(∀k,cf p k=cf q k)->aO p=aO q
 |[],q,h=>by
  have:tz q=0:=bn.mpr λk=>(h k).symm
  simp[aO,this]
 |x::xs,[],h=>by
  have:tz (x::xs)=0:=bn.mpr λk=>h k
  simp[aO,this]
 |x::xs,y::ys,h=>by
  have hx:x=y:=h 0;have ih:=ji (p:=xs) (q:=ys) λk=>h (k+1)
  have ht:tz xs=0↔tz ys=0:=by
   rw[bn,bn];exact forall_congr' λk=>by rw[show cf xs k=cf ys k from h (k+1)]
  rw[CU,CU,hx,ih];simp only[ht]
theorem bM:∀(q:List Int) (k:Nat),cf (aO q) k=cf q k
 |[],k=>by simp[aO]
 |x::xs,k=>by
  rw[CU];split
  .rename_i h;cases k with
   |zero=>simp[lJ,lK,h.2]
   |succ k=>rw[iy,lJ];exact(bn.mp h.1 k).symm
  .cases k with
   |zero=>rfl
   |succ k=>rw[iy,iy,bM xs k]
theorem iM (q:List Int):aO (aO q)=aO q:=ji (bM q)
theorem nC (h:∀k,cf p k=cf q k):tz p=tz q:=by
 rw[<-dw,<-dw,ji h]
theorem J3 (h:∀k,cf p k=cf q k):iQ p=iQ q:=by
 unfold iQ;rw[ji h]
theorem A8 (q:List Int):tz (aO q)=tz q:=nC (bM q)
theorem Sj (h:cf q n≠0)(h0:∀k,n<k->cf q k=0):tz q=n+1:=by
 have hn:n<q.length:=by
  rcases zbh n q.length with h'|h'
  .exact h'
  .exact(h (kX h')).elim
 have e:∀k,cf q k=cf (q.take (n+1)) k:=by
  intro k;by_cases hk:k<n+1
  .simp[cf,List.getD,hk]
  .rw[h0 k (by omega),kX (by rw[zah];omega)]
 rw[nC e,Sl hn h]
theorem jv (h:tz q≠0):cf q (tz q-1)≠0:=by
 induction q with
 |nil=>simp[tz,kV]at h
 |cons x xs ih =>
  rw[Sm]at h ⊢;by_cases h0:tz xs=0
  .rw[zas h0]at h ⊢;by_cases hx:x=0
   .simp[hx]at h
   .rw[zam hx];exact hx
  .rw[zam h0];have:=ih h0;rw[show tz xs+1-1=(tz xs-1)+1 by omega];exact this
theorem dW (q:List Int){k:Nat}(h:tz q<=k):cf q k=0:=by
 rw[<-bM];exact kX (by rw[dw];exact h)
def mZ (p q:List Int):List Int:=(List.range (max p.length q.length)).map λk=>cf p k+cf q k
theorem iY (p q:List Int)(k:Nat):cf (mZ p q) k=cf p k+cf q k:=by
 by_cases h:k<max p.length q.length
 .simp only[mZ,cf,List.getD,zaD,zcN h,zbz,zaE]
 .rw[kX (by simp[mZ];omega),kX (by omega),kX (by omega)];rfl
def aU (c:Int)(p:List Int):List Int:=p.map λx=>x*c
theorem dD (c:Int)(p:List Int)(k:Nat):cf (aU c p) k=cf p k*c:=by
 simp only[aU,cf,List.getD,zaD];cases p[k]?<;>simp
def cv:List Int->(Nat->Int)->Nat->Int
 |[],_,_=>0
 |x::xs,g,k=>x*g k+match k with|0=>0|k+1=>cv xs g k
def fD (p q:List Int):List Int:=(List.range (p.length+q.length)).map (cv p (cf q))
theorem BG {g':Nat->Int}:∀(p:List Int) (k:Nat),(∀j,g j=g' j)->cv p g k=cv p g' k
 |[],_,_=>rfl
 |x::xs,k,h=>by
  simp only[cv,h k];cases k with
  |zero=>rfl
  |succ k=>simp only;rw[BG xs k h]
theorem a3f:∀(p:List Int) {n k:Nat},(∀j,n<=j->g j=0)->p.length+n<=k+1->cv p g k=0
 |[],_,_,_,_=>rfl
 |x::xs,n,k,h,hk=>by
  simp only[zaL]at hk;simp only[cv,h k (by omega),zdC,zdR];cases k with
  |zero=>rfl
  |succ k=>exact a3f xs h (by omega)
theorem gy (p q:List Int)(k:Nat):cf (fD p q) k=cv p (cf q) k:=by
 by_cases h:k<p.length+q.length
 .simp only[fD];rw[cf,List.getD,zaD,zcN h];rfl
 .rw[kX (by simp[fD];omega),a3f p (n:=q.length) (λj hj=>kX hj) (by omega)]
theorem nP {p':List Int}(h:∀j,cf p j=cf p' j):∀k,cv p g k=cv p' g k:=by
 induction p generalizing p' with
 |nil =>
  intro k
  induction p' generalizing k with
  |nil=>rfl
  |cons y ys ih =>
   have hy:y=0:=(h 0).symm;simp only[cv,hy,zb8,zdR];cases k with
   |zero=>rfl
   |succ k=>exact ih (λj=>h (j+1)) k
 |cons x xs ih =>
  intro k;cases p' with
  |nil =>
   have hx:x=0:=h 0;simp only[cv,hx,zb8,zdR];cases k with
   |zero=>rfl
   |succ k=>exact ih (p':=[]) (λj=>h (j+1)) k
  |cons y ys =>
   have hx:x=y:=h 0;simp only[cv,hx];cases k with
   |zero=>rfl
   |succ k=>simp only;rw[ih (p':=ys) (λj=>h (j+1)) k]
theorem rH {g:Nat->Int}:∀(p:List Int) (i k:Nat),cv (p.take (i+1)) g k=cv (p.take i) g k+(if i<=k then cf p i*g (k-i) else 0)
 |[],i,k=>by simp[cv,lJ]
 |x::xs,0,k=>by
  simp only[zaJ,zaj,cv,lK,zcF,za4,zcm];cases k<;>simp
 |x::xs,i+1,k=>by
  simp only[zaJ,cv,iy];cases k with
  |zero=>simp
  |succ k =>
   have:=rH (g:=g) xs i k;simp only[zaJ]at this ⊢;rw[this];simp only[Nat.add_le_add_iff_right,zeW];omega
theorem iT (p:List RI):(pv p).length=p.length:=by simp[pv]
theorem qI (p:List RI)(k:Nat):cf (pv p) k=iv (p.getD k (false,[])):=by
 simp only[cf,pv,List.getD,zaD];cases p[k]?<;>simp[U5]
theorem RP.get {p:List RI}(h:RP n k p)(i:Nat):Sz k (p.getD i (false,[])):=by
 by_cases hi:i<p.length
 .have:p.getD i (false,[])=p[i]:=by simp[List.getD,hi]
  rw[this];exact h.2 _ (zaY hi)
 .rw[zax,zaQ (by omega)];exact⟨za4 _,Lim.nil⟩
theorem KY (q:List Int)(i:Nat):(q.map canon).getD i (false,[])=canon (cf q i):=by
 simp only[cf,List.getD,zaD];cases q[i]?<;>simp[Dw]
theorem a3w (q:List Int)(i:Nat)(z:Int):(q.map canon).set i (canon z)=(q.set i z).map canon:=by rw[zev]
theorem YB (q:List Int)(z:Int):q.map canon++[canon z]=(q++[z]).map canon:=by simp
theorem fP (q:List Int):pv (q.map canon)=q:=by
 simp only[pv,zb2]
 conv=>rhs;rw[<-zeP q]
 exact zbs λz _=>aS z
theorem RP.canon (h:PB n k q):RP n k (q.map canon):=by
 refine⟨by simpa using h.1,λc hc=>?_⟩;obtain⟨z,hz,rfl⟩:=zaw.mp hc;exact(aY z).mono (h.2 z hz)
theorem PB.cf (h:PB n k q)(i:Nat):zl (cf q i)<=k:=by
 by_cases hi:i<q.length
 .have:AL.cf q i=q[i]:=by simp[AL.cf,List.getD,hi]
  rw[this];exact h.2 _ (zaY hi)
 .rw[kX (by omega),iC];exact za4 _
theorem PB.of (hl:q.length<=n)(h:∀i,zl (AL.cf q i)<=k):PB n k q:=by
 refine⟨hl,λz hz=>?_⟩;obtain⟨i,hi,rfl⟩:=zbE hz;have:=h i;rwa [show AL.cf q i=q[i] by simp[AL.cf,List.getD,hi]]at this
theorem PB.aO (h:PB n k q):PB n k (aO q) :=
 .of (by rw[dw];exact zad (CS q) h.1) λi=>by rw[bM];exact h.cf i
theorem RP.pv {p:List RI}(h:RP n k p):PB n k (pv p) :=
 .of (by rw[iT];exact h.1) λi=>by rw[qI];exact oO (h.get i)
theorem PB.mono (h:PB n k q)(hn:n<=n')(hk:k<=k'):PB n' k' q:=⟨zad h.1 hn,λz hz=>zad (h.2 z hz) hk⟩
theorem RP.mono {q:List RI}(h:RP n k q)(hn:n<=n')(hk:k<=k'):RP n' k' q:=⟨zad h.1 hn,λz hz=>(h.2 z hz).mono hk⟩
theorem PB.mZ (hp:PB n k p)(hq:PB m j q):PB (max n m) (max k j+1) (mZ p q) :=
 .of (by simp[AL.mZ];have:=hp.1;have:=hq.1;omega) λi=>by
  rw[iY];have:=qg (AL.cf p i) (AL.cf q i);have:=hp.cf i;have:=hq.cf i;omega
theorem PB.aU {c:Int}(hp:PB n k p):PB n (k+zl c) (aU c p) :=
 .of (by simp[AL.aU];exact hp.1) λi=>by rw[dD];have:=fA (AL.cf p i) c;have:=hp.cf i;omega
theorem sH {z:Int}:zl z<=k↔z.natAbs<W^k:=bH
theorem a9i {M N:Nat}(hg:∀j,(g j).natAbs<=N):∀(p:List Int) (k:Nat),(∀z∈p,z.natAbs<=M)->(cv p g k).natAbs<=p.length*(M*N)
 |[],_,_=>by simp[cv]
 |x::xs,k,h=>by
  have hx:=zbR (h x (by simp)) (hg k);have hsum:∀b:Int,b.natAbs<=xs.length*(M*N)->(x*g k+b).natAbs<=(xs.length+1)*(M*N):=by
   intro b hb;have:=Int.natAbs_add_le (x*g k) b;rw[zcc]at this;rw[zaN,zfd];omega
  simp only[cv,zaL];cases k with
  |zero=>exact hsum 0 (by simp)
  |succ k=>exact hsum _ (a9i hg xs k λz hz=>h z (by simp[hz]))
theorem a4u (hp:PB n k p)(hq:PB m j q)(hn:n<W)(i:Nat):zl (cv p (cf q) i)<=k+j+1:=by
 rw[sH];have h:=a9i (g:=cf q) (M:=W^k-1) (N:=W^j-1) (λi=>by have:=sH.mp (hq.cf i);omega) p i (λz hz=>by have:=sH.mp (hp.2 z hz);omega);refine za3 h ?_;have h1:p.length*((W^k-1)*(W^j-1))<=n*((W^k-1)*(W^j-1)):=zag _ hp.1;have h2:(W^k-1)*(W^j-1)<=W^k*W^j:=zbR (by omega) (by omega);have h3:n*((W^k-1)*(W^j-1))<=n*(W^k*W^j):=zbb _ h2;have h4:n*(W^k*W^j)<W*(W^k*W^j):=(ze8 (Nat.mul_pos (gB k) (gB j))).mpr hn;rw[za7,zbM,zaA _ W];omega
theorem PB.fD (hp:PB n k p)(hq:PB m j q)(hn:n<W):PB (n+m) (k+j+1) (fD p q) :=
 .of (by simp[AL.fD];have:=hp.1;have:=hq.1;omega) λi=>by rw[gy];exact a4u hp hq hn i
theorem wM (n:Nat):List.replicate n ((false,[]):RI)=(List.replicate n 0).map canon:=by rw[zfw,Dw]
theorem aW (q:List Int):(iQ q).length=tz q:=by simp[iQ,bZ,dw]
theorem UZ (h:PB n k q)(i:Nat):PB n k (q.take i):=⟨by rw[zah];have:=h.1;omega,λz hz=>h.2 z (za0 hz)⟩
theorem a6F (c:RI)(l:List (List IV)):lay (λi=>[(0,1),(1,1)][i]?) (jy c) ([1].zip [[.sl l]])=some (True,[.bool c.1,.sl l]):=by simp[lay,splice,jy]
def gI (ps:List (List RI)):List (List IV):=ps.map λp=>[.sl (bZ p)]
theorem Px (ps:List (List RI)):(gI ps).length=ps.length:=by simp[gI]
theorem uO {ps:List (List RI)}{i:Nat}(h:i<ps.length):(gI ps).getD i []=[.sl (bZ (ps.getD i []))]:=by simp[gI,List.getD,h]
theorem a6E (g:Nat->Option (Nat×Nat))(cells:List IV):lay g cells (([]:List Nat).zip ([]:List (List IV)))=some (True,cells):=rfl
theorem QD (n k:Nat):cf (List.replicate n 0) k=0:=by
 simp only[cf,List.getD,zdg];split<;>rfl
theorem J5 {i:Nat}(h:i<q.length)(z:Int)(k:Nat):cf (q.set i z) k=if k=i then z else cf q k:=by
 simp only[cf,List.getD,zfI];by_cases e:i=k
 .subst e;simp[h]
 .simp[e,zfc e]
theorem Ut:∀(p:List Int) (k:Nat),cv p (cf []) k=0
 |[],_=>rfl
 |x::xs,k=>by
  simp only[cv,lJ,zdC,zdR];cases k with
  |zero=>rfl
  |succ k=>exact Ut xs k
end Go.AL

namespace Go.AL
set_option linter.unusedSimpArgs false
set_option linter.unusedVariables false
variable {l a d:List Nat} {n x P A B O c y s c':Nat}
abbrev D16:Nat:=65536
def nums (l:List Nat):List (List IV):=l.map λx:Nat=>[.int .i64 (x:Int)]
theorem Wh (l:List Nat):(nums l).length=l.length:=by simp[nums]
theorem b0Z {l:List Nat}{i:Nat}(h:i<l.length):(nums l).getD i []=[.int .i64 ((l.getD i 0:Nat):Int)]:=by simp[nums,List.getD,h]
theorem a6m (l:List Nat)(i x:Nat):(nums l).set i [.int .i64 (x:Int)]=nums (l.set i x):=by simp[nums,zev]
theorem a6o (l m:List Nat):nums l++nums m=nums (l++m):=by simp[nums]
theorem PK (l:List Nat)(x:Nat):nums l++[[.int .i64 (x:Int)]]=nums (l++[x]):=by simp[nums]
theorem a1E (l:List Nat)(k:Nat):(nums l).take k=nums (l.take k):=by simp[nums,zcL]
theorem a1G (l:List Nat)(k:Nat):(nums l).drop k=nums (l.drop k):=by simp[nums,List.map_drop]
theorem W9 (n:Nat):List.replicate n [.int .i64 0]=nums (List.replicate n 0):=by simp[nums]
theorem a1F (l:List Nat):(∀r∈nums l,r.length=1)↔True:=by simp[nums]
theorem a6n:nums []=[]:=rfl
def iL (l:List Int):List (List IV):=l.map λx=>[.int .i64 x]
theorem a2p (l:List Int):(iL l).length=l.length:=by simp[iL]
theorem a6P {l:List Int}{i:Nat}(h:i<l.length):(iL l).getD i []=[.int .i64 (l.getD i 0)]:=by simp[iL,List.getD,h]
theorem b3J (n:Nat):(n:Int).tdiv 65536=((n/65536:Nat):Int):=by rw[zbY (by omega)];rfl
theorem b3G (n:Nat):(n:Int).tmod 65536=((n%65536:Nat):Int):=by rw[zds (by omega)];rfl
def Dig (d:List Nat):Prop:=∀x∈d,x<D16
theorem Dig.get (h:Dig l)(i:Nat):l.getD i 0<D16:=by
 by_cases hi:i<l.length
 .have:l.getD i 0=l[i]:=by simp[List.getD,hi]
  rw[this];exact h _ (zaY hi)
 .rw[zax,zaQ (by omega)];decide
theorem Dig.append {m:List Nat}(h:Dig l)(h':Dig m):Dig (l++m):=λx hx=>(zap.mp hx).elim (h x) (h' x)
theorem Dig.take (h:Dig l)(k:Nat):Dig (l.take k):=λx hx=>h x (za0 hx)
def dn (n w:Nat):List Nat:=(List.range n).map λk=>w/D16^k%D16
theorem xC (n w:Nat):(dn n w).length=n:=by simp[dn]
theorem a2X (n w:Nat):dn (n+1) w=dn n w++[w/D16^n%D16]:=by simp[dn,zec]
theorem IK (n w:Nat):Dig (dn n w):=λx hx=>by
 simp only[dn,zaw]at hx;obtain⟨k,_,rfl⟩:=hx;exact zbj _ (by decide)
theorem Ol (w:Nat):∀n,vl D16 (dn n w)=w%D16^n
 |0=>by simp[dn,vl,zfk]
 |n+1=>by
  rw[a2X,jC,Ol w n,xC,za7,Nat.mod_mul];simp[vl]
def dd (a:List Nat):List Nat:=a.flatMap (dn 4)
theorem a3d (a:List Nat):(dd a).length=4*a.length:=by
 induction a with
 |nil=>rfl
 |cons x xs ih=>simp only[dd,zbu,zaB,xC,zaL]at ih ⊢;omega
theorem b4W (a:List Nat):Dig (dd a):=λx hx=>by
 obtain⟨w,_,h⟩:=zcM.mp hx;exact IK 4 w x h
theorem Xt:D16^4=W:=by decide
theorem b6n (h:Lim a):vl D16 (dd a)=nv a:=by
 induction a with
 |nil=>rfl
 |cons x xs ih =>
  have hx:x<W:=h x (by simp);have ih:=ih λy hy=>h y (by simp[hy])
  simp only[dd,zbu,jC,Ol,xC,Xt,zan hx,nv,vl]at ih ⊢;rw[ih]
theorem Qs (a:List Nat){i:Nat}(h:i<a.length):dd (a.take (i+1))=dd (a.take i)++dn 4 (a.getD i 0):=by
 have e:a.take (i+1)=a.take i++[a.getD i 0]:=by rw[zaS];simp[List.getD,h]
 rw[e];unfold dd;rw[zbc];simp
abbrev dgD (n:Nat):List Nat:=dg D16 n
theorem kQ:2<=D16:=by decide
theorem a9g (h:Lim a):(dd a).take (kV (dd a))=dgD (nv a):=by rw[<-b6n h,dgD,a3c kQ (b4W a)]
theorem gu (n:Nat):Dig (dgD n):=b2a kQ n
theorem iF (n:Nat):vl D16 (dgD n)=n:=a4A kQ n
theorem Qr (h:Dig d):d.take (kV d)=dgD (vl D16 d):=(a3c kQ h).symm
theorem rG:(dgD n).length=0↔n=0:=by rw[zaz];exact Qq kQ
theorem nO (h:Lim l):(dgD (nv l)).length<=4*l.length:=by
 rw[<-a9g h,zah,a3d];omega
theorem UN (k:Nat):W^k=D16^(4*k):=by rw[zfQ,Xt]
theorem b4l (v:Nat):pad (((dgD v).length+3)/4) v=wd v:=by
 have h1:v<W^(((dgD v).length+3)/4):=by
  rw[UN];exact zau ((jc kQ _).mp (zab _)) (zaH (by decide) (by show (dgD v).length<=_;omega))
 refine(qG (bg v) ?_ (by rw[bJ,zan h1])).symm;have h2:(wd v).length<=((dgD v).length+3)/4:=bH.mpr h1;have h3:(dgD v).length<=4*(wd v).length:=by
  rw[dgD,jc kQ,<-UN];exact bH.mp (zab _)
 omega
def four (d:List Nat)(i:Nat):List Nat:=[d.getD (4*i) 0,d.getD (4*i+1) 0,d.getD (4*i+2) 0,d.getD (4*i+3) 0]
theorem a9N (d:List Nat)(i:Nat):vl D16 (d.take (4*(i+1)))=vl D16 (d.take (4*i))+W^i*vl D16 (four d i):=by
 rw[show 4*(i+1)=4*i+1+1+1+1 by omega,aT,aT,aT,aT,UN];simp only[four,vl,za7,zbx,zcd,zaV,za1,zbp]
theorem a2M (d:List Nat)(i:Nat){j:Nat}(h:j<4):vl D16 ((four d i).drop j)=d.getD (4*i+j) 0+D16*vl D16 ((four d i).drop (j+1)):=by
 have:j=0\/j=1\/j=2\/j=3:=by omega
 rcases this with rfl|rfl|rfl|rfl<;>rfl
theorem a7f (h:Dig d)(i:Nat):Dig (four d i):=by
 intro x hx;simp only[four,zaG,zaT,zco]at hx;rcases hx with rfl|rfl|rfl|rfl<;>exact h.get _
theorem Qm (h:Dig d)(i j:Nat):vl D16 ((four d i).drop (j+1))<281474976710656:=by
 have:=Xz (b:=D16) (l:=(four d i).drop (j+1)) λx hx=>a7f h i x (zcE hx)
 refine zau this ?_;refine zad (zaH (by decide) (show _<=3 by rw[zbV];simp[four])) (by decide)
theorem Dig.nil:Dig []:=λ_ h=>nomatch h
theorem Dig.snoc (h:Dig l)(hx:x<D16):Dig (l++[x]):=h.append λy hy=>by simp at hy;subst hy;exact hx
theorem Dig.set (h:Dig l){i x:Nat}(hx:x<D16):Dig (l.set i x):=λy hy=>by
 rcases zdF hy with hy|rfl
 .exact h y hy
 .exact hx
theorem Dig.replicate (n:Nat):Dig (List.replicate n 0):=λx hx=>by rw[zca hx];decide
theorem mW (n:Nat):0<D16^n:=zb7 (by decide)
theorem iI (h:Dig l):vl D16 l<D16^l.length:=Xz h
theorem Vb (h:Dig l)(k:Nat):vl D16 (l.take k)=vl D16 l%D16^k:=by
 by_cases hk:k<=l.length
 .have e:=gK D16 l hk;have h2:=iI (h.take k);rw[zah,zaZ hk]at h2;rw[e,zbQ,zan h2]
 .rw[zac (by omega),zan];exact zau (iI h) (zaH (by decide) (by omega))
theorem a3b (h:Dig l)(k:Nat):l.getD k 0=vl D16 l/D16^k%D16:=by
 have h1:=aT D16 l k;rw[Vb h,Vb h,zcy]at h1;exact(zcJ (mW k) (zfl h1)).symm
theorem a2S {v:Nat}(h:Dig l)(hl:l.length=n)(hv:vl D16 l=v%D16^n):l=dn n v :=
 Zq h (IK n v) (by rw[xC,hl]) (by rw[Ol,hv])
theorem Vd (l:List Nat)(x:Nat):vl D16 (l++[x])=vl D16 l+D16^l.length*x:=by simp[jC,vl]
theorem b5a (h:O+P*c=A+B)(he:s+D16*c'=x+y+c):(O+P*s)+P*D16*c'=(A+P*x)+(B+P*y):=by
 have:=zaO (P * ·) he;simp only[zbx]at this;rw[za1];omega
theorem a3A (h:O+B=A+P*c)(he:s+y+c=x+D16*c'):(O+P*s)+(B+P*y)=(A+P*x)+P*D16*c':=by
 have:=zaO (P * ·) he;simp only[zbx]at this;rw[za1];omega
end Go.AL
