/-
 The abstract logic: whole functions.
-/
import Derived.Test.YtnhghmibjddlkaaGreatDoorAbsDM
namespace Go.AL
variable {zi:Zi}
open Go.RowKit
set_option linter.unusedSimpArgs false
set_option linter.unusedVariables false
abbrev Post:=Exit->Fr->Hp->Prop
def E5 (K:Fr->Hp->Prop)(Q:Post):Post
 |.normal,f,H=>K f H
 |e,f,H=>Q e f H
def kY (id:Nat)(Q:Post):Post
 |.exit id',f,H=>if id'=id then Q .normal f H else Q (.exit id') f H
 |e,f,H=>Q e f H
def DU (Q:Post):Post
 |.goto _,_,_=>False
 |e,f,H=>Q e f H
def DW (I:Fr->Hp->Prop)(μ:Fr->Hp->Nat)(n:Nat)(Q:Post):Post
 |.normal,f,H=>I f H/\μ f H<n
 |e,f,H=>Q e f H
def a8K (ops:Array Oper)(Q:Post)(f:Fr)(H:Hp)(lg:Log):Prop:=I5 ops lg.reverse=true/\Q .normal f H
def MI (Q:Post)(f:Fr)(H:Hp)(_:Log):Prop:=Q .normal f H
def nH (f:Fr)(H:Hp)(t h:Nat):Fr:=upd f t (.hs h ((H h).stamp+1))
def nG (H:Hp)(h e sz:Nat):Hp:=dF H h (.blk false ((H h).stamp+1) e sz [])
inductive Weak:Fr->Hp->Fr->Hp->Prop
 |refl (f:Fr) (H:Hp):Weak f H f H
 |nil (t h e sz:Nat) {f f':Fr} {H H':Hp} (hf:f t=.oG) (k:Weak (nH f H t h) (nG H h e sz) f' H'):Weak f H f' H'
 |b3C (t:Nat) {f f':Fr} {H H':Hp} (hf:f t=.oG) (k:Weak (upd f t (.iv (.sl []))) H f' H'):Weak f H f' H'
 |b5n (t e sz:Nat) {f f':Fr} {H H':Hp} (hf:f t=.oG) (k:Weak (upd f t (.iv (.own none e sz []))) H f' H'):Weak f H f' H'
 |ren (t h h' st e sz:Nat) (rows:List (List IV)) {f f':Fr} {H H':Hp} (hf:f t=.hs h st) (hH:H h=.blk false st e sz rows) (hne:h≠h') (k:Weak (upd f t (.hs h' ((H h').stamp+1))) (dF (dF H h (.blk true (st+1) e sz [])) h' (.blk false ((H h').stamp+1) e sz rows)) f' H'):Weak f H f' H'
 |iv (t h st:Nat) (b:Bool) (e sz:Nat) (rows:List (List IV)) {f f':Fr} {H H':Hp} (hf:f t=.hs h st) (hH:H h=.blk b st e sz rows) (k:Weak (upd f t (.iv (.sl rows))) (dF H h (.blk true st e sz rows)) f' H'):Weak f H f' H'
 |b5m (h st e:Nat) {f f':Fr} {H H':Hp} (hH:H h=.blk false st e 1 []) (k:Weak f (dF H h (.nst st e [])) f' H'):Weak f H f' H'
 |b3A (t h h' st i off e:Nat) (rows:List AV) {f f':Fr} {H H':Hp} (hf:f t=.hp h st i off) (hH:H h=.nst st e rows) (hne:h≠h') (k:Weak (upd f t (.hp h' ((H h').stamp+1) i off)) (dF (dF H h (.gone (st+1) 1)) h' (.nst ((H h').stamp+1) e rows)) f' H'):Weak f H f' H'
def a9a (v:AV)(X Y:Prop):Prop :=
 match v with
 |.iv (.bool b)=>(b=true->X)/\(b=false->Y)
 |.ub=>X/\Y
 |_=>False
def AW [Zi] (P:Program):Code->Post->Fr->Hp->Prop
 |.skip,Q,f,H=>Q .normal f H
 |.region _ ops false,Q,f,H=>fV P (yE ops) ops.toList (MI Q) f H []
 |.region _ ops true,Q,f,H=>(Ez ops=true/\fV P (yE ops) ops.toList (a8K ops Q) f H []) \/
   ∃ord inv,Ku ops.toList ord inv=true/\Ez (lQ ops.toList ord inv).toArray=true/\fV P (yE (lQ ops.toList ord inv).toArray) (lQ ops.toList ord inv) (a8K (lQ ops.toList ord inv).toArray Q) f H []
 |.seq x y,Q,f,H=>AW P x (E5 (AW P y Q) Q) f H
 |.cond c x y,Q,f,H=>a9a (ev f c) (AW P x Q f H) (AW P y Q f H)
 |.block id c,Q,f,H=>AW P c (kY id Q) f H
 |.loop c,Q,f,H=>∃(I:Fr->Hp->Prop) (μ:Fr->Hp->Nat),(∃f' H',Weak f H f' H'/\I f' H')/\∀f H,I f H->AW P c (DW I μ (μ f H) Q) f H
 |.exit id,Q,f,H=>Q (.exit id) f H
 |.scope c,Q,f,H=>AW P c (DU Q) f H
 |.label _,Q,f,H=>Q .normal f H
 |.ret,Q,f,H=>Q .ret f H
 |.rangeFunc g ps assign body,Q,f,H=>∃(f1:Fr) (H1:Hp) (gf:Nat) (l:List AV) (c:Prop) (caps:List (List IV)) (ms:List Nat) (n:Nat) (it:Nat->List CV) (I:Nat->Hp->Prop) (J:Code->Hp->Prop),
   Weak f H f1 H1/\ev f1 g=.fn gf l/\aB H1 l=some (c,caps,ms)/\c/\a3X P gf caps ps.size n it/\I 0 (aQ ms H1) /\
   (∀k H2,k<n->I k H2->AW P assign (b3u λf3 H3=>AW P body (vw I J k) f3 H3) (lays f1 ps.toList ((it k).map CV.av)) H2) /\
   (∀H2,I n H2->Q .normal f1 H2)/\(∀H2,J .ret H2->Q .ret f1 H2)/\(∀id H2,J (.exit id) H2->Q (.exit id) f1 H2)
 |_,_,_,_=>False
def gQ:Code->Bool
 |.seq x y=>gQ x && gQ y
 |.cond _ x y=>gQ x && gQ y
 |.block _ c=>gQ c
 |.loop c=>gQ c
 |.scope c=>gQ c
 |.rangeFunc ..=>false
 |_=>true
def codeOk (N:Nat):Code->Bool
 |.region _ ops _=>ops.toList.all λo=>match o.dst with|some d=>decide (d<N)|none=>true
 |.seq x y=>codeOk N x && codeOk N y
 |.cond _ x y=>codeOk N x && codeOk N y
 |.block _ c=>codeOk N c
 |.loop c=>codeOk N c
 |.scope c=>codeOk N c
 |.rangeFunc _ ps x y=>ps.toList.all (λp=>decide (p<N)) && codeOk N x && codeOk N y && gQ x && gQ y
 |_=>true
section
variable {P:Program} {G:Gh} {M:Nat->Prop} {w0:World} {D0:Nat->Prop} {N:Nat}
theorem Rel.qA {f:Fr}{H:Hp}{β:Nat->Value}{a:Act}{w:World}(R:Rel G M w0 D0 N f H β a w){t:Nat}{v:Value}(ht:t<N)(hx:a.tmps.getD t Go.undef=v):a.put (some t) v=a:=by
 have h1:t<a.tmps.size:=by rw[R.rV];exact ht
 have h2:a.tmps[t]=v:=by
  rw[Array.getD_eq_getD_getElem?,Array.getElem?_eq_getElem h1]at hx;exact hx
 have h3:a.tmps.setIfInBounds t v=a.tmps:=by
  rw[Array.setIfInBounds,dif_pos h1,<-h2];exact Array.set_getElem_self h1
 show ({ a with tmps:=a.tmps.setIfInBounds t v }:Act)=a;rw[h3]
theorem Rel.qH {f:Fr}{H:Hp}{β:Nat->Value}{a:Act}{w:World}(R:Rel G M w0 D0 N f H β a w){t:Nat}(h:∀v,a.tmps.getD t Go.undef=v->v≠Go.undef):t<N:=by
 rcases Nat.lt_or_ge t N with h'|h'
 .exact h'
 .exact(h _ (by rw[Array.getD_eq_getD_getElem?,Array.getElem?_eq_none (by rw[R.rV];exact h')];rfl) rfl).elim
theorem Rel.weak {f f':Fr}{H H':Hp}(k:Weak f H f' H'):∀{β:Nat->Value} {a:Act} {w:World},Rel G M w0 D0 N f H β a w->∃β',Rel G M w0 D0 N f' H' β' a w:=by
 induction k with
 |refl f H=>exact λR=>⟨_,R⟩
 |nil t h e sz hf k ih =>
  rename_i f f' H H';intro β a w R;have hx:=R.tmps t;rw[hf]at hx;simp only[aG]at hx;have ht:t<N:=by
   rcases Nat.lt_or_ge t N with h|h
   .exact h
   .rw[Array.getD_eq_getD_getElem?,Array.getElem?_eq_none (by rw[R.rV];exact h)]at hx;cases hx
  obtain⟨β',hb,_,R'⟩:=R.fresh (w':=w) (h:=h) (e:=e) (sz:=sz) (rows:=[]) (v:=.slice none 0 0) (dst:=some t) (x:=.hs h ((H h).stamp+1)) (val:=.slice none 0 0) (st:=(H h).stamp+1) (by omega) rfl rfl rfl (Nat.le_refl _) (λ_ _=>rfl)
   ⟨by simp,.inl ⟨rfl,rfl⟩⟩ (λβ' hb D=>by simp only[aG,aO,HC.stamp];exact⟨Nat.le_refl _,λ_=>hb.symm⟩) (by rintro _ ⟨⟩;exact ht)
  have hput:a.put (some t) (.slice none 0 0)=a:=by
   have h1:t<a.tmps.size:=by rw[R.rV];exact ht
   have h2:a.tmps[t]=.slice none 0 0:=by
    rw[Array.getD_eq_getD_getElem?,Array.getElem?_eq_getElem h1]at hx;exact hx
   have h3:a.tmps.setIfInBounds t (.slice none 0 0)=a.tmps:=by
    rw[Array.setIfInBounds,dif_pos h1,<-h2];exact Array.set_getElem_self h1
   show ({ a with tmps:=a.tmps.setIfInBounds t (.slice none 0 0) }:Act)=a;rw[h3]
  rw[hput]at R';exact ih R'
 |b3C t hf k ih =>
  rename_i f f' H H';intro β a w R;have hx:=R.tmps t;rw[hf]at hx;simp only[aG]at hx;have ht:t<N:=R.qH (t:=t) (λv hv=>by rw[hx]at hv;subst hv;intro h;cases h);have R':=R.value (dst:=some t) (v:=.iv (.sl [])) (val:=.slice none 0 0) (by simp only[aG];exact .nil none 0 (Nat.zero_le _)) (by rintro _ ⟨⟩;exact ht);rw[R.qA ht hx]at R';exact ih R'
 |b5n t e sz hf k ih =>
  rename_i f f' H H';intro β a w R;have hx:=R.tmps t;rw[hf]at hx;simp only[aG]at hx;have ht:t<N:=R.qH (t:=t) (λv hv=>by rw[hx]at hv;subst hv;intro h;cases h);have R':=R.value (dst:=some t) (v:=.iv (.own none e sz [])) (val:=.slice none 0 0) (by simp only[aG];exact .QD e sz) (by rintro _ ⟨⟩;exact ht);rw[R.qA ht hx]at R';exact ih R'
 |ren t h h' st e sz rows hf hH hne k ih =>
  rename_i f f' H H';intro β a w R;have hx:=R.tmps t;rw[hf]at hx;simp only[aG]at hx;have hv:a.tmps.getD t Go.undef=β h:=hx.2 (by rw[hH];rfl);have ho:=R.own h _ _ _ _ hH;have ht:t<N:=R.qH (t:=t) (λv hv'=>by
   rw[hv]at hv';rcases ho.2 with ⟨_,hn⟩|⟨g,cap,cur,hn,_⟩<;>(rw[hn]at hv';subst hv';intro h;cases h))
  obtain⟨β2,a9e⟩:∃β2:Nat->Value,β2=λu=>if u=h' then β h else if u=h then .slice none 0 0 else β u:=⟨_,rfl⟩
  have b1:β2 h'=β h:=by rw[a9e];simp
  have b2:β2 h=.slice none 0 0:=by rw[a9e];simp[hne]
  have b3:∀u,u≠h->u≠h'->β2 u=β u:=λu h1 h2=>by rw[a9e];simp[h1,h2]
  have c1:dF (dF H h (.blk true (st+1) e sz [])) h' (.blk false ((H h').stamp+1) e sz rows) h'=.blk false ((H h').stamp+1) e sz rows:=aO _ _ _;have c2:dF (dF H h (.blk true (st+1) e sz [])) h' (.blk false ((H h').stamp+1) e sz rows) h=.blk true (st+1) e sz []:=by rw[aJ _ _ hne,aO]
  have c3:∀u,u≠h->u≠h'->dF (dF H h (.blk true (st+1) e sz [])) h' (.blk false ((H h').stamp+1) e sz rows) u=H u:=λu h1 h2=>by rw[aJ _ _ h2,aJ _ _ h1]
  generalize dF (dF H h (.blk true (st+1) e sz [])) h' (.blk false ((H h').stamp+1) e sz rows)=H2 at *;have hsub:∀b,DD H2 β2 D0 b->DD H β D0 b:=by
   rintro b (hb|⟨u,hm,hk⟩)
   .exact .inl hb
   .by_cases h1:u=h
    .subst h1;rw[c2]at hm;exact hm.elim
    .by_cases h2:u=h'
     .subst h2;rw[b1]at hk;exact .inr ⟨h,by rw[hH];trivial,hk⟩
     .rw[c3 u h1 h2]at hm;rw[b3 u h1 h2]at hk;exact .inr ⟨u,hm,hk⟩
  have g:dh w (DD H β D0) w (DD H2 β2 D0):=dh.of_sub hsub;have R':=R.step (w':=w) (H':=H2) (β':=β2) (dst:=some t) (v:=.hs h' ((H h').stamp+1)) (val:=a.tmps.getD t Go.undef) rfl rfl rfl g (λ_ _ _=>rfl) (λ_ _ h=>h) (λu=>?_) ?_ (λu st1 e1 sz1 BU hu=>?_) (λu st1 e1 sz1 BU hu=>?_) (λu u' huu hm hm' kk hk hk'=>?_) (λu st1 e1 BU hu=>?_) (λu B hu=>by
   by_cases h1:u=h
   .subst h1;rw[c2]at hu;cases hu
   .by_cases h2:u=h'
    .subst h2;rw[c1]at hu;cases hu
    .rw[c3 u h1 h2]at hu;exact R.mrk u B hu) (by rintro _ ⟨⟩;exact ht) (λu x v hu=>by
   by_cases h1:u=h
   .subst h1;rw[c2]at hu;cases hu
   .by_cases h2:u=h'
    .subst h2;rw[c1]at hu;cases hu
    .rw[c3 u h1 h2]at hu;exact hu)
  .rw[R.qA ht rfl]at R';exact ih R'
  .by_cases h1:u=h
   .subst h1;right;rw[c2,hH];simp[HC.stamp]
   .by_cases h2:u=h'
    .subst h2;right;rw[c1];simp[HC.stamp]
    .left;rw[c3 u h1 h2,b3 u h1 h2];exact⟨rfl,rfl,rfl⟩
  .simp only[aG,c1,HC.stamp,b1];exact⟨Nat.le_refl _,λ_=>hv⟩
  .by_cases h1:u=h
   .subst h1;rw[c2]at hu;cases hu
   .by_cases h2:u=h'
    .subst h2;rw[c1]at hu;injection hu with _ q1 q2 q3 q4;subst q1 q2 q3 q4;rw[b1];exact ho.mono g λ_ _=>rfl
    .rw[c3 u h1 h2]at hu;rw[b3 u h1 h2];exact(R.own u _ _ _ _ hu).mono g λ_ _=>rfl
  .by_cases h1:u=h
   .subst h1;rw[c2]at hu;injection hu with _ q1 q2 q3 q4;subst q1 q2 q3 q4;rw[b2];exact⟨by simp,.nil _ _ (Nat.zero_le _),λad n cap hv=>by cases hv⟩
   .by_cases h2:u=h'
    .subst h2;rw[c1]at hu;cases hu
    .rw[c3 u h1 h2]at hu;rw[b3 u h1 h2];exact⟨(R.frz u _ _ _ _ hu).1,(R.frz u _ _ _ _ hu).2.1.mono g,(R.frz u _ _ _ _ hu).2.2⟩
  .have key:∀u u',u≠u'->(H2 u).gB->(H2 u').gB->u≠h'->bD (β2 u)=some kk->bD (β2 u')≠some kk:=by
    intro u u' huu hm hm' hu hk hk';have h1:u≠h:=λe=>by subst e;rw[c2]at hm;exact hm.elim
    have h1':u'≠h:=λe=>by subst e;rw[c2]at hm';exact hm'.elim
    rw[c3 u h1 hu]at hm;rw[b3 u h1 hu]at hk;by_cases h2:u'=h'
    .subst h2;rw[b1]at hk';exact R.dis u h h1 hm (by rw[hH];trivial) kk hk hk'
    .rw[c3 u' h1' h2]at hm';rw[b3 u' h1' h2]at hk';exact R.dis u u' huu hm hm' kk hk hk'
   by_cases hu:u=h'
   .exact key u' u (Ne.symm huu) hm' hm (λe=>huu (hu.trans e.symm)) hk' hk
   .exact key u u' huu hm hm' hu hk hk'
  .have h1:u≠h:=λe=>by subst e;rw[c2]at hu;cases hu
   have h2:u≠h':=λe=>by subst e;rw[c1]at hu;cases hu
   rw[c3 u h1 h2]at hu;rw[b3 u h1 h2];refine(R.nst u _ _ _ hu).mono g (λu=>?_) λ_ _=>rfl;by_cases h1:u=h
   .subst h1;right;rw[c2,hH];simp[HC.stamp]
   .by_cases h2:u=h'
    .subst h2;right;rw[c1];simp[HC.stamp]
    .left;rw[c3 u h1 h2,b3 u h1 h2];exact⟨rfl,rfl,rfl⟩
 |b3A t h h' st i off e rows hf hH hne k ih =>
  rename_i f f' H H';intro β a w R;have hx:=R.tmps t;rw[hf]at hx;simp only[aG]at hx;obtain⟨g0,n0,cap0,hg0,hv⟩:=hx.2 (by rw[hH];rfl);have ho:=R.nst h _ _ _ hH;have ht:t<N:=R.qH (t:=t) (λv hv'=>by
   rw[hv]at hv';subst hv';intro h;cases h)
  obtain⟨β2,a9e⟩:∃β2:Nat->Value,β2=λu=>if u=h' then β h else if u=h then .slice none 0 0 else β u:=⟨_,rfl⟩
  have b1:β2 h'=β h:=by rw[a9e];simp
  have b3:∀u,u≠h->u≠h'->β2 u=β u:=λu h1 h2=>by rw[a9e];simp[h1,h2]
  have c1:dF (dF H h (.gone (st+1) 1)) h' (.nst ((H h').stamp+1) e rows) h'=.nst ((H h').stamp+1) e rows:=aO _ _ _;have c2:dF (dF H h (.gone (st+1) 1)) h' (.nst ((H h').stamp+1) e rows) h=.gone (st+1) 1:=by rw[aJ _ _ hne,aO]
  have c3:∀u,u≠h->u≠h'->dF (dF H h (.gone (st+1) 1)) h' (.nst ((H h').stamp+1) e rows) u=H u:=λu h1 h2=>by rw[aJ _ _ h2,aJ _ _ h1]
  generalize dF (dF H h (.gone (st+1) 1)) h' (.nst ((H h').stamp+1) e rows)=H2 at *;have hsub:∀b,DD H2 β2 D0 b->DD H β D0 b:=by
   rintro b (hb|⟨u,hm,hk⟩)
   .exact .inl hb
   .by_cases h1:u=h
    .subst h1;rw[c2]at hm;exact hm.elim
    .by_cases h2:u=h'
     .subst h2;rw[b1]at hk;exact .inr ⟨h,by rw[hH];trivial,hk⟩
     .rw[c3 u h1 h2]at hm;rw[b3 u h1 h2]at hk;exact .inr ⟨u,hm,hk⟩
  have g:dh w (DD H β D0) w (DD H2 β2 D0):=dh.of_sub hsub;have hstep:jV H β H2 β2:=λu=>by
   by_cases h1:u=h
   .subst h1;right;rw[c2,hH];simp[HC.stamp]
   .by_cases h2:u=h'
    .subst h2;right;rw[c1];simp[HC.stamp]
    .left;rw[c3 u h1 h2,b3 u h1 h2];exact⟨rfl,rfl,rfl⟩
  have R':=R.step (w':=w) (H':=H2) (β':=β2) (dst:=some t) (v:=.hp h' ((H h').stamp+1) i off) (val:=a.tmps.getD t Go.undef) rfl rfl rfl g (λ_ _ _=>rfl) (λ_ _ h=>h) hstep ?_ (λu st1 e1 sz1 BU hu=>?_) (λu st1 e1 sz1 BU hu=>?_) (λu u' huu hm hm' kk hk hk'=>?_) (λu st1 e1 BU hu=>?_) (λu B hu=>by
   by_cases h1:u=h
   .subst h1;rw[c2]at hu;cases hu
   .by_cases h2:u=h'
    .subst h2;rw[c1]at hu;cases hu
    .rw[c3 u h1 h2]at hu;exact R.mrk u B hu) (by rintro _ ⟨⟩;exact ht) (λu x v hu=>by
   by_cases h1:u=h
   .subst h1;rw[c2]at hu;cases hu
   .by_cases h2:u=h'
    .subst h2;rw[c1]at hu;cases hu
    .rw[c3 u h1 h2]at hu;exact hu)
  .rw[R.qA ht rfl]at R';exact ih R'
  .simp only[aG,c1,HC.stamp,b1];refine⟨Nat.le_refl _,λ_=>⟨g0,n0,cap0,hg0,?_⟩⟩;rw[hv,hH];rfl
  .by_cases h1:u=h
   .subst h1;rw[c2]at hu;cases hu
   .by_cases h2:u=h'
    .subst h2;rw[c1]at hu;cases hu
    .rw[c3 u h1 h2]at hu;rw[b3 u h1 h2];exact(R.own u _ _ _ _ hu).mono g λ_ _=>rfl
  .by_cases h1:u=h
   .subst h1;rw[c2]at hu;cases hu
   .by_cases h2:u=h'
    .subst h2;rw[c1]at hu;cases hu
    .rw[c3 u h1 h2]at hu;rw[b3 u h1 h2];exact⟨(R.frz u _ _ _ _ hu).1,(R.frz u _ _ _ _ hu).2.1.mono g,(R.frz u _ _ _ _ hu).2.2⟩
  .have key:∀u u',u≠u'->(H2 u).gB->(H2 u').gB->u≠h'->bD (β2 u)=some kk->bD (β2 u')≠some kk:=by
    intro u u' huu hm hm' hu hk hk';have h1:u≠h:=λe=>by subst e;rw[c2]at hm;exact hm.elim
    have h1':u'≠h:=λe=>by subst e;rw[c2]at hm';exact hm'.elim
    rw[c3 u h1 hu]at hm;rw[b3 u h1 hu]at hk;by_cases h2:u'=h'
    .subst h2;rw[b1]at hk';exact R.dis u h h1 hm (by rw[hH];trivial) kk hk hk'
    .rw[c3 u' h1' h2]at hm';rw[b3 u' h1' h2]at hk';exact R.dis u u' huu hm hm' kk hk hk'
   by_cases hu:u=h'
   .exact key u' u (Ne.symm huu) hm' hm (λe=>huu (hu.trans e.symm)) hk' hk
   .exact key u u' huu hm hm' hu hk hk'
  .by_cases h1:u=h
   .subst h1;rw[c2]at hu;cases hu
   .by_cases h2:u=h'
    .subst h2;rw[c1]at hu;injection hu with q1 q2 q3;subst q1 q2 q3;rw[b1];exact ho.mono g hstep λ_ _=>rfl
    .rw[c3 u h1 h2]at hu;rw[b3 u h1 h2];exact(R.nst u _ _ _ hu).mono g hstep λ_ _=>rfl
 |b5m h st e hH k ih =>
  intro β a w R;exact ih (R.nest (vs:=[]) (xs:=[]) hH (by simp[aS]))
 |iv t h st b e sz rows hf hH k ih =>
  rename_i f f' H H';intro β a w R;have R1:=R.freeze h;rw[hH]at R1;simp only[HC.frz]at R1;have hfr:=R1.frz h st e sz rows (by rw[aO]);have hx:=R1.tmps t;rw[hf]at hx;simp only[aG,aO,HC.stamp]at hx;have hv:=hx.2 trivial;have hrep:=hfr.2.1;rw[<-hv]at hrep;have ht:t<N:=R.qH (t:=t) (λv hv'=>by rw[hv']at hrep;intro h;rw[h]at hrep;cases hrep);have R':=R1.value (dst:=some t) (v:=.iv (.sl rows)) (val:=a.tmps.getD t Go.undef) (by simp only[aG];exact hrep) (by rintro _ ⟨⟩;exact ht);rw[R.qA ht rfl]at R';exact ih R'
theorem gG (hm:P.follows .mixedOrders=true):∀(c:Code) (ro:Option Nat) (G:Gh) (M:Nat->Prop) (w0:World) (Q:Post) (f:Fr) (H:Hp) (β:Nat->Value) (a:Act) (w:World),(gQ c=true\/(ro=none/\G.rnd=false))->codeOk N c=true->AW P c Q f H->Rel G M w0 D0 N f H β a w->c.wpIn (Wd ro) 0 P (Conc G M w0 D0 N Q) a w
 |.skip,ro,G,M,w0,Q,f,H,β,a,w,hro,_,h,R=>wpIn_skip ⟨f,H,β,h,R⟩
 |.region id ops false,ro,G,M,w0,Q,f,H,β,a,w,hro,hd,h,R=>by
  simp only[codeOk,List.all_eq_true]at hd;refine wpIn_region_list (pV (λf H lg β a w hk R=>⟨f,H,β,hk,R⟩) ops.toList f H [] β a w (λo ho d hod=>?_) h R);have:=hd o ho;rw[hod]at this;simpa using this
 |.region id ops true,ro,G,M,w0,Q,f,H,β,a,w,hro,hd,h,R=>by
  simp only[codeOk,List.all_eq_true]at hd;have hdst:∀o∈ops.toList,∀d,o.dst=some d->d<N:=λo ho d hod=>by
   have:=hd o ho;rw[hod]at this;simpa using this
  rcases h with ⟨h1,h2⟩|⟨ord,inv,h0,h1,h2⟩
  .refine wpIn_region_any hm (SG (f:=f) (H:=H) (β:=β) (λi hi d hod=>?_) (λf H lg hk=>⟨hk.1,λβ a w R=>⟨f,H,β,hk.2,R⟩⟩) h1 h2 R.drew);exact hdst (ops.getD i default) (by simp[Array.getD_eq_getD_getElem?,hi]) d hod
  .have h0':=h0;simp only[Ku,Bool.and_eq_true,beq_iff_eq,List.all_eq_true,List.mem_range,decide_eq_true_eq]at h0';obtain⟨⟨⟨ho,hi⟩,hp⟩,hops⟩:=h0';have hsz:(lQ ops.toList ord inv).toArray.size=ops.size:=by simp[lQ,ho]
   have e:ops.toList.toArray=ops:=by simp
   have:=SG (ro:=ro) (ops:=(lQ ops.toList ord inv).toArray) (Q:=Conc G M w0 D0 N Q) (f:=f) (H:=H) (β:=β) (λi hi d hod=>?_) (λf H lg hk=>⟨hk.1,λβ a w R=>⟨f,H,β,hk.2,R⟩⟩) h1 h2 R.drew
   .rw[hsz]at this;refine wpIn_region_any hm ?_;have:=SY h0 ops.size (Array.replicate ops.size false) (Array.replicate ops.size false) a _ (by simp) (by simp) (λp hlt=>?_) this
    .rw[e]at this;exact this
    .have hlt':p<ops.size:=by simpa using hlt
     have h3:=(hp p hlt).1.1.1;simp only[Array.length_toList]at h3;simp only[Array.getD_eq_getD_getElem?,Array.getElem?_replicate,hlt',h3,if_true]
   .rw[hsz]at hi;have hlt:i<ord.length:=by rw[ho];simpa using hi
    have h3:=(hp i (by simpa using hi)).1.1.1;have e2:(lQ ops.toList ord inv).toArray.getD i default=a9b inv (ops.toList.getD (ord.getD i 0) default):=by
     simp[Array.getD_eq_getD_getElem?,lQ,List.getElem?_map,hlt,List.getD]
    rw[e2]at hod;exact hdst (ops.toList.getD (ord.getD i 0) default) (List.mem_of_getElem? (xK _ default h3)) d hod
 |.seq x y,ro,G,M,w0,Q,f,H,β,a,w,hro,hd,h,R=>by
  simp only[codeOk,gQ,Bool.and_eq_true]at hd hro;refine wpIn_seq (wpIn_mono (gG hm x ro G M w0 _ f H β a w (hro.imp (·.1) id) hd.1 h R) λe a w hq=>?_);cases e with
  |normal=>obtain⟨f,H,β,hk,R⟩:=hq;exact gG hm y ro G M w0 Q f H β a w (hro.imp (·.2) id) hd.2 hk R
  |panic _=>exact hq.elim
  |outgrown=>exact hq.elim
  |_=>exact hq
 |.cond c x y,ro,G,M,w0,Q,f,H,β,a,w,hro,hd,h,R=>by
  simp only[codeOk,gQ,Bool.and_eq_true]at hd hro;have hc:=R.ev c;unfold AW a9a at h;split at h
  .rename_i b hb;rw[hb]at hc;simp only[aG]at hc;generalize hv:a.eval c=v at hc;cases hc;exact wpIn_cond_split hv (λht=>gG hm x ro G M w0 Q f H β a w (hro.imp (·.1) id) hd.1 (h.1 ht) R) (λhf=>gG hm y ro G M w0 Q f H β a w (hro.imp (·.2) id) hd.2 (h.2 hf) R)
  .rename_i hb;rw[hb]at hc;simp only[aG]at hc;obtain⟨b,hc⟩:=hc;exact wpIn_cond_split hc (λht=>gG hm x ro G M w0 Q f H β a w (hro.imp (·.1) id) hd.1 h.1 R) (λhf=>gG hm y ro G M w0 Q f H β a w (hro.imp (·.2) id) hd.2 h.2 R)
  .exact h.elim
 |.block id c,ro,G,M,w0,Q,f,H,β,a,w,hro,hd,h,R=>by
  simp only[codeOk,gQ]at hd hro;refine wpIn_block (wpIn_mono (gG hm c ro G M w0 _ f H β a w hro hd h R) λe a w hq=>?_);cases e with
  |exit id' =>
   obtain⟨f,H,β,hk,R⟩:=hq;simp only[kY]at hk;simp only[Exit.inBlock];split at hk
   .rename_i hid;rw[if_pos hid];exact⟨f,H,β,hk,R⟩
   .rename_i hid;rw[if_neg hid];exact⟨f,H,β,hk,R⟩
  |panic _=>exact hq.elim
  |outgrown=>exact hq.elim
  |_=>exact hq
 |.loop c,ro,G,M,w0,Q,f,H,β,a,w,hro,hd,h,R=>by
  simp only[codeOk,gQ]at hd hro;obtain⟨I,μ,⟨f',H',hk,h0⟩,hr⟩:=h;obtain⟨β',R'⟩:=R.weak hk;refine FW (λn a w=>∃f H β,I f H/\Rel G M w0 D0 N f H β a w/\μ f H=n) ?_ (m:=μ f' H') ⟨f',H',β',h0,R',rfl⟩;rintro n a w ⟨f,H,β,hI,R,rfl⟩;refine wpIn_mono (gG hm c ro G M w0 _ f H β a w hro hd (hr f H hI) R) λe a w hq=>?_;cases e with
  |normal=>obtain⟨f',H',β',hk,R'⟩:=hq;exact⟨_,hk.2,f',H',β',hk.1,R',rfl⟩
  |panic _=>exact hq.elim
  |outgrown=>exact hq.elim
  |_=>exact hq
 |.exit id,ro,G,M,w0,Q,f,H,β,a,w,hro,_,h,R=>wpIn_exit ⟨f,H,β,h,R⟩
 |.scope c,ro,G,M,w0,Q,f,H,β,a,w,hro,hd,h,R=>by
  simp only[codeOk,gQ]at hd hro;refine vC (wpIn_mono (gG hm c ro G M w0 _ f H β a w hro hd h R) λe a w hq=>?_);cases e with
  |goto l=>obtain⟨f,H,β,hk,R⟩:=hq;exact hk.elim
  |panic _=>exact hq.elim
  |outgrown=>exact hq.elim
  |_=>exact hq
 |.label l,ro,G,M,w0,Q,f,H,β,a,w,hro,_,h,R=>wpIn_label ⟨f,H,β,h,R⟩
 |.ret,ro,G,M,w0,Q,f,H,β,a,w,hro,_,h,R=>wpIn_ret ⟨f,H,β,h,R⟩
 |.rangeFunc g ps x y,ro,G,M,w0,Q,f,H,β,a,w,hro,hd,h,R=>by
  rcases hro with hro|⟨rfl,hr⟩
  .simp[gQ]at hro
  simp only[codeOk,Bool.and_eq_true,List.all_eq_true,decide_eq_true_eq]at hd;obtain⟨⟨⟨⟨hps,hx⟩,hy⟩,nx⟩,ny⟩:=hd;obtain⟨f1,H1,gf,l,c,caps,ms,n,it,I,J,hwk,he,ht,hc,hit,h0,b0M,hdone,hret,a7s⟩:=h;obtain⟨β',R'⟩:=R.weak hwk;exact Ny R' hr he ht hc hit hps I J (λk f3 H3=>AW P y (vw I J k) f3 H3) h0
   (λl k H' G' M' w0' β' a' w' hk hI R hrn=>gG hm x (some l) G' M' w0' _ _ _ _ _ _ (.inl nx) hx (b0M k H' hk hI) R)
   (λl k f' H' G' M' w0' β' a' w' hk hK R hrn=>gG hm y (some l) G' M' w0' _ _ _ _ _ _ (.inl ny) hy hK R)
   (λH' β' a' w' hI R=>⟨f1,H',β',hdone H' hI,R⟩) (λH' β' a' w' hI R=>⟨f1,H',β',hret H' hI,R⟩) (λid H' β' a' w' hI R=>⟨f1,H',β',a7s id H' hI,R⟩)
 |.goto _,ro,G,M,w0,Q,f,H,β,a,w,hro,_,h,R=>h.elim
 |.refuse _,ro,G,M,w0,Q,f,H,β,a,w,hro,_,h,R=>h.elim
def kU (args:List CV):Fr:=λt=>((args.map CV.av)[t]?).getD .undef
def xJ:Hp:=λ_=>.none
def retv [Zi] (P:Program)(f:Fr)(H:Hp):ResultVar->Option (Prop×CV×List Nat)
 |.tmp t=>bn H (f t)
 |.cell t ty=>match qV (ti P ty) H (f t) with
  |some r=>match bn H r.v with
   |some (c,cv,ms)=>some (r.c/\c,cv,ms)
   |none=>none
  |none=>none
def FP [Zi] (P:Program)(f:Fr)(H:Hp)(r:ResultVar)(flat:Bool)(c:CV):Prop :=
 match retv P f H r with
 |some (p,c',ms)=>p/\c'=c/\(flat=true->ms=[])
 |none=>False
def ZQ (f:Fr)(H:Hp)(r:ResultVar)(e sz:Nat)(rows:List (List IV)):Prop :=
 match r with
 |.tmp t=>match f t with
  |.hs h st=>match H h with
   |.blk false st' e' sz' rows'=>st=st'/\e'=e/\sz'=sz/\rows'=rows
   |_=>False
  |.oG=>rows=[]
  |_=>False
 |_=>False
def JO [Zi] (P:Program)(f:Fr)(H:Hp)(own:iy):Nat->List ResultVar->List CV->Prop
 |_,[],[]=>True
 |j,r::rs,c::cs=>(match own with
   |none=>FP P f H r false c
   |some (i,e,sz,rows)=>if i=j then ZQ f H r e sz rows else FP P f H r true c)/\JO P f H own (j+1) rs cs
 |_,_,_=>False
def b3n [Zi] (P:Program)(rs:List ResultVar)(own:iy)(res:List CV):Post
 |.ret,f,H=>JO P f H own 0 rs res/\(match own with|none=>True|some (i,_)=>i<res.length)
 |.normal,f,H=>JO P f H own 0 rs res/\(match own with|none=>True|some (i,_)=>i<res.length)
 |_,_,_=>False
def rvS (tmps:Array Value):ResultVar->Sem Value
 |.tmp t=>pure (tmps.getD t Go.undef)
 |.cell a t=>do loadVar t (<-asAddr (tmps.getD a Go.undef))
theorem TK {f:Fr}{H:Hp}{β:Nat->Value}{a:Act}{w:World}(R:Rel G M w0 D0 N f H β a w){r:ResultVar}{p:Prop}{c:CV}{ms:List Nat}(h:retv P f H r=some (p,c,ms))(hp:p) :
  ∃v,(rvS a.tmps r).run P w=.ok v w/\iI w (DD (aQ ms H) β D0) c v:=by
 unfold retv at h;split at h
 .rename_i t;exact⟨_,rfl,mG R (R.tmps t) h hp⟩
 .rename_i t ty;split at h
  .rename_i r hr;split at h
   .rename_i c' cv ms' ht;injection h with h;injection h with e1 e2;injection e2 with e2 e3;subst e1 e2 e3;have hx:=R.tmps t;obtain⟨_,_,u,hu,hrep⟩:=iV R hx hr hp.1;refine⟨u,?_,mG R hrep ht hp.2⟩;have:∃ad,a.tmps.getD t Go.undef=.pointer (some ad):=by
     cases hft:f t<;>rw[hft]at hx hr<;>simp only[qV,reduceCtorEq]at hr<;>simp only[aG]at hx
     .obtain⟨g,o,h,_⟩:=hx;exact⟨_,h⟩
     .rename_i h st i off;split at hr
      .rename_i hH;have hst:st=(H h).stamp:=by
        rw[hH];simp only[HC.stamp];split at hr<;>(injection hr with hr;subst hr;exact hp.1.2.1)
       obtain⟨g,n,cap,_,h⟩:=hx.2 hst;exact⟨_,h⟩
      .rename_i hH;have hst:st=(H h).stamp:=by
        rw[hH];simp only[HC.stamp];split at hr
        .injection hr with hr;subst hr;exact hp.1.2.1
        .split at hr
         .injection hr with hr;subst hr;exact hp.1.2.1
         .cases hr
       obtain⟨g,n,cap,_,h⟩:=hx.2 hst;exact⟨_,h⟩
      .cases hr
    obtain⟨ad,had⟩:=this;rw[had]at hu;simp only[rvS,had,asAddr,Sem.run_bind,Sem.run_pure,Result.andThen_ok];simpa [Instr.loadAt,Instr.sureAddr] using hu
   .cases h
  .cases h
theorem uH {f:Fr}{H:Hp}{β:Nat->Value}{a:Act}{w:World}(R:Rel ⟨λ_ _=>False,false⟩ (λ_=>False) w0 D0 N f H β a w){own:iy}:∀(rs:List ResultVar) (j:Nat) (cs:List CV),JO P f H own j rs cs ->
  ∃us:List Value,(rs.mapM (rvS a.tmps)).run P w=.ok us w/\us.length=cs.length /\
   (∀(k:Nat) c v,(∀i e sz rows,own=some (i,e,sz,rows)->j+k≠i)->cs[k]?=some c->us[k]?=some v->∃ms,(own.isSome=true->ms=[])/\iI w (DD (aQ ms H) β D0) c v) /\
   (∀(k:Nat) v i e sz rows,own=some (i,e,sz,rows)->j+k=i->us[k]?=some v->Own w (DD H β D0) w0.heap.size (λ_=>False) v e sz rows/\∀b,bD v=some b->DD H β D0 b)
 |[],j,[],_=>⟨[],by simp,rfl,by simp,by simp⟩
 |r::rs,j,c::cs,h=>by
  simp only[JO]at h;obtain⟨h1,h2⟩:=h;obtain⟨us,a1,a2,a3,a4⟩:=uH R rs (j+1) cs h2;have hval:∀flat,FP P f H r flat c->∃v ms,(rvS a.tmps r).run P w=.ok v w/\(flat=true->ms=[])/\iI w (DD (aQ ms H) β D0) c v:=by
   intro flat hv;unfold FP at hv;split at hv
   .rename_i p c' ms hr;obtain⟨hp,rfl,hf⟩:=hv;obtain⟨v,hv1,hv2⟩:=TK R hr hp;exact⟨v,ms,hv1,hf,hv2⟩
   .exact hv.elim
  cases own with
  |none =>
   obtain⟨v,ms,hv1,hf,hv2⟩:=hval false h1;refine⟨v::us,by simp[List.mapM_cons,hv1,a1],by simp[a2],λk c' v' hk hc hu=>?_,by simp⟩;cases k with
   |zero=>simp at hc hu;subst hc hu;exact⟨ms,by simp,hv2⟩
   |succ k=>exact a3 k c' v' (by simp) (by simpa using hc) (by simpa using hu)
  |some p =>
   obtain⟨i,e,sz,rows⟩:=p;simp only at h1;split at h1
   .rename_i hij;have ho:∃v,(rvS a.tmps r).run P w=.ok v w/\Own w (DD H β D0) w0.heap.size (λ_=>False) v e sz rows/\∀b,bD v=some b->DD H β D0 b:=by
     unfold ZQ at h1;split at h1
     .rename_i t;have hx:=R.tmps t;split at h1
      .rename_i hh st hft;split at h1
       .rename_i st' e' sz' rows' hH;obtain⟨rfl,rfl,rfl,rfl⟩:=h1;rw[hft]at hx;simp only[aG]at hx;have hv:=hx.2 (by rw[hH];rfl);refine⟨_,rfl,by rw[hv];exact R.own _ _ _ _ _ hH,λb hb=>?_⟩;rw[hv]at hb;exact .inr ⟨hh,by rw[hH];trivial,hb⟩
       .exact h1.elim
      .rename_i hft;rw[hft]at hx;simp only[aG]at hx;subst h1;refine⟨_,rfl,by rw[hx];exact⟨by simp,.inl ⟨rfl,rfl⟩⟩,λb hb=>by rw[hx]at hb;cases hb⟩
      .exact h1.elim
     .exact h1.elim
    obtain⟨v,hv1,hv2⟩:=ho;refine⟨v::us,by simp[List.mapM_cons,hv1,a1],by simp[a2],λk c' v' hk hc hu=>?_,λk v' i' e' sz' rows' ho hk hu=>?_⟩
    .cases k with
     |zero=>exact(hk i e sz rows rfl (by omega)).elim
     |succ k=>exact a3 k c' v' (λi' e' sz' rows' ho=>by have:=hk i' e' sz' rows' ho;omega) (by simpa using hc) (by simpa using hu)
    .cases k with
     |zero=>injection ho with ho;injection ho with e1 ho;injection ho with e2 ho;injection ho with e3 e4;subst e2 e3 e4;simp at hu;subst hu;exact hv2
     |succ k=>exact a4 k v' i' e' sz' rows' ho (by omega) (by simpa using hu)
   .rename_i hij;obtain⟨v,ms,hv1,hf,hv2⟩:=hval true h1;refine⟨v::us,by simp[List.mapM_cons,hv1,a1],by simp[a2],λk c' v' hk hc hu=>?_,λk v' i' e' sz' rows' ho hk hu=>?_⟩
    .cases k with
     |zero=>simp at hc hu;subst hc hu;exact⟨ms,λ_=>hf rfl,hv2⟩
     |succ k=>exact a3 k c' v' (λi' e' sz' rows' ho=>by have:=hk i' e' sz' rows' ho;omega) (by simpa using hc) (by simpa using hu)
    .cases k with
     |zero=>injection ho with ho;injection ho with e1 ho;omega
     |succ k=>exact a4 k v' i' e' sz' rows' ho (by omega) (by simpa using hu)
 |[],_,_::_,h=>by simp[JO]at h
 |_::_,_,[],h=>by simp[JO]at h
theorem qx {fn:Func}{a:Act}{w:World}{us:List Value}(h:(fn.results.toList.mapM (rvS a.tmps)).run P w=.ok us w):(results fn a.tmps).run P w=.ok (qF us) w:=by
 have e:results fn a.tmps=(fn.results.mapM (rvS a.tmps) >>= λvs=>pure (if h:vs.size=1 then vs[0] else .tuple vs)):=by
  unfold results
  congr 1
 rw[e,Array.mapM_eq_mapM_toList];simp only[Sem.run_bind,Sem.run_map,h,Result.andThen_ok,Sem.run_pure]
 congr 1
 cases us with
 |nil=>rfl
 |cons u us =>
  cases us with
  |nil=>rfl
  |cons _ _=>rfl
theorem CZ {fn:Func}{tmps:Array Value}{w:World}:∀(ds:List Deferred) (T:Ending->World->Prop) (w1:World),(∀d∈ds,∃k,d={ target:=.collected k,args:=#[] }/\w.heap.size<=k/\w1.heap[k]?=some (.deferred (some [])))->ds.Nodup->w.heap.size<=w1.heap.size ->
   (∀w2,w2.os=w1.os->w2.tape=w1.tape->w2.output=w1.output->w2.heap.size=w1.heap.size->(∀k,(k<w.heap.size\/∃o:Obj,w1.heap[k]?=some o/\o.isCells=true)->w2.heap[k]?=w1.heap[k]?)->LeavesInM Fence.wide 0 P fn tmps T [] .returning w2)->LeavesInM Fence.wide 0 P fn tmps T ds .returning w1:=by
  intro ds
  induction ds with
  |nil=>exact λT w1 _ _ _ h=>h w1 rfl rfl rfl rfl λ_ _=>rfl
  |cons d ds ih =>
   intro T w1 hd hn hsz h;obtain⟨k,rfl,hk,hb⟩:=hd d (by simp);have hne:∀j,{ target:=.collected j,args:=#[] }∈ds->j≠k:=λj hj e=>by subst e;exact(List.nodup_cons.1 hn).1 hj
   refine⟨by simp,.inl ⟨k,_,rfl,run_takeDeferred hb,ih T _ (λd' hd'=>?_) (List.nodup_cons.1 hn).2 (by simpa using hsz) λw2 h1 h2 h3 h4 h5=>h w2 h1 h2 h3 (by simpa using h4) λj hj=>?_⟩⟩
   .obtain⟨k',rfl,hk',hb'⟩:=hd d' (by simp[hd']);exact⟨k',rfl,hk',(World.putObj_heap_other (hne k' hd')).trans hb'⟩
   .have hjk:j≠k:=by
     rintro rfl;rcases hj with hj|⟨o,ho,hc⟩
     .omega
     .rw[hb]at ho;cases ho;cases hc
    have e1:(w1.putObj k (.deferred none)).heap[j]?=w1.heap[j]?:=World.putObj_heap_other hjk;rw[h5 j (by rw[e1];exact hj),e1]
theorem AC.vK {g : Nat} {args : List CV} {own : iy} {res : List CV} (hm : P.follows .mixedOrders = true) {fn : Func} {body : Code} (hf : P.funcs[g]? = some fn) (hb : fn.body = some body) (hn : (fn.name == "runtime.NumGoroutine") = false)
  (hd:codeOk fn.ntmps body=true) (hargs:args.length<=fn.ntmps) (h:AW P body (b3n P fn.results.toList own res) (kU args) xJ):AC P g args own res:=by
 intro w D vs hD hvs;refine .inl ⟨fn,hf,hn,by rw[hb];rfl,callsIn_wide.1 (callsIn_of_wp_marks (n:=0) (F:=Fence.wide) hf hb trivial ?_)⟩;have hlen:=hvs.length;have hcv:∀(cvs:List CV) (us:List Value),eU w D cvs us->∀t,aG w (DD xJ (λ_=>default) D) xJ (λ_=>default) (kU cvs t) ((us[t]?).getD Go.undef):=by
  intro cvs us hu t;have hDD:∀b,DD xJ (λ_=>default) D b->D b:=by
   intro b hb;rcases hb with hb|⟨k,hm,_⟩
   .exact hb
   .exact hm.elim
  induction cvs generalizing us t with
  |nil =>
   match us,hu with
   |[],_=>simp[kU,aG]
  |cons c cs ih =>
   match us,hu with
   |u::us,hu =>
    cases t with
    |zero=>simp only[kU,List.map_cons,List.getElem?_cons_zero,Option.getD_some];exact(hu.1.mono (dh.of_sub hDD)).av
    |succ t=>simpa only[kU,List.map_cons,List.getElem?_cons_succ] using ih us hu.2 t
 have R:Rel ⟨λ_ _=>False,false⟩ (λ_=>False) w D fn.ntmps (kU args) xJ (λ_=>default) { tmps:=vs.toArray++Array.replicate (fn.ntmps-vs.toArray.size) Go.undef,defers:=[] } w:=by
  refine⟨rfl,rfl,rfl,Nat.le_refl _,λ_ _ _=>rfl,λb hb=>⟨hD b hb,λh=>h⟩,by simp;omega,λd hd=>(by cases hd),λh=>(by cases h),List.nodup_nil,λ_ _ h=>h.elim,λt=>?_,λh st e sz rows hh=>(by cases hh),λh st e sz rows hh=>(by cases hh),λh h' _ hm=>hm.elim,λh st e rows hh=>(by cases hh),λh B hh=>(by cases hh),λh x v hh=>(by cases hh)⟩;have e:(vs.toArray++Array.replicate (fn.ntmps-vs.toArray.size) Go.undef).getD t Go.undef=(vs[t]?).getD Go.undef:=by
   rw[Array.getD_eq_getD_getElem?,Array.getElem?_append];split
   .simp
   .rename_i ht;simp only[List.size_toArray,Nat.not_lt]at ht;rw[List.getElem?_eq_none ht];simp only[Array.getElem?_replicate];split<;>rfl
  rw[e];exact hcv args vs hvs t
 refine wpIn_mono (gG hm body none _ _ _ _ _ _ _ _ w (.inr ⟨rfl,rfl⟩) hd h R) λe a w' hq=>?_
 have fin:∀f H β,JO P f H own 0 fn.results.toList res/\(match own with|none=>True|some (i,_)=>i<res.length)->Rel ⟨λ_ _=>False,false⟩ (λ_=>False) w D fn.ntmps f H β a w' ->
   LeavesInM Fence.wide 0 P fn a.tmps (λe w'=>∃v,e=.returned v/\Below w.heap.size w w'/\∃us,v=qF us/\Eo w w' D own res us) a.defers .returning w':=by
  intro f H β ⟨hr,hi⟩ R0;refine CZ a.defers _ w' R0.defers R0.a1X R0.size λw2 h1 h2 h3 h4 h5=>?_;have g2:dh w' (DD H β D) w2 (DD H β D):=⟨Nat.le_of_eq h4.symm,λ_ _ h=>h,λb _ _ hc=>h5 b (.inr hc)⟩;have R:Rel ⟨λ_ _=>False,false⟩ (λ_=>False) w D fn.ntmps f H β { a with defers:=[] } w2 :=
   ⟨h1.trans R0.os,h2.trans R0.tape,h3.trans R0.output,by rw[h4];exact R0.size,λk hk _=>(h5 k (.inl hk)).trans (R0.keep k hk (λh=>h)),R0.old,R0.rV,λd hd=>(by cases hd),λh=>(by cases h),List.nodup_nil,λ_ _ h=>h.elim,
    λt=>aG.mono g2 (jV.refl _ _) _ _ (R0.tmps t),
    λh st e sz rows hh=>(R0.own h st e sz rows hh).mono g2 λk hk=>by obtain⟨cur,e',hc⟩:=R0.gY (by rw[hh];trivial) hk;exact h5 k (.inr ⟨_,hc,rfl⟩),
    λh st e sz rows hh=>⟨(R0.frz h st e sz rows hh).1,(R0.frz h st e sz rows hh).2.1.mono g2,(R0.frz h st e sz rows hh).2.2⟩,R0.dis,
    λh st e rows hh=>(R0.nst h st e rows hh).mono g2 (jV.refl _ _) λk hk=>by obtain⟨cur,e',hc⟩:=R0.gY (by rw[hh];trivial) hk;exact h5 k (.inr ⟨_,hc,rfl⟩),λh B hh=>by rw[h4];exact R0.mrk h B hh,λh x v hh=>aG.mono g2 (jV.refl _ _) _ _ (R0.tie h x v hh)⟩
  clear h1 h2 h3 h4 h5;obtain⟨us,h1',h2,h3,h4⟩:=uH R _ _ _ hr;refine⟨_,qx h1',_,rfl,⟨R.os,R.tape,R.output,R.size,λk hk=>R.keep k hk (λh=>h)⟩,us,rfl,h2,λj c v hj hc hv=>?_,λi e sz rows ho=>?_⟩
  .obtain⟨ms,hms,hrep⟩:=h3 j c v (λi e sz rows ho=>by have:=hj i e sz rows ho;omega) hc hv;refine hrep.mono (dh.of_sub λb hb=>?_);rcases hb with hb|hb
   .exact .inl hb
   .cases own with
    |none=>exact hb.elim
    |some p =>
     obtain⟨i,e,sz,rows⟩:=p;obtain⟨v',hv',hh⟩:=hb;rw[hms rfl];exact(h4 i v' i e sz rows rfl (by omega) hv').2 b hh
  .subst ho;have hi':i<us.length:=by rw[h2];exact hi
   have hui:us[i]?=some us[i]:=by rw[List.getElem?_eq_getElem]
   obtain⟨h5,h6⟩:=h4 i _ i e sz rows rfl (by omega) hui;refine⟨_,hui,hi,h5.mono (dh.of_sub λb hb=>?_) λ_ _=>rfl⟩;rcases hb with hb|⟨v',hv',hh⟩
   .exact .inl hb
   .rw[hui]at hv';injection hv' with hv';subst hv';exact h6 b hh
 cases e with
 |normal=>obtain⟨f,H,β,hk,R⟩:=hq;exact fin f H β hk R
 |ret=>obtain⟨f,H,β,hk,R⟩:=hq;exact fin f H β hk R
 |panic _=>exact hq.elim
 |outgrown=>exact hq.elim
 |exit id=>obtain⟨f,H,β,hk,R⟩:=hq;exact hk.elim
 |goto l=>obtain⟨f,H,β,hk,R⟩:=hq;exact hk.elim
def b0K (args:List CV)(i:Nat):Fr:=λt=>if t=i then .hs i 1 else kU args t
def b0J (i e sz:Nat)(rows:List (List IV)):Hp:=λh=>if h=i then .blk false 1 e sz rows else .none
def Nv [Zi] (P:Program)(f:Fr)(H:Hp):List ResultVar->List CV->Prop
 |[],[]=>True
 |r::rs,c::cs=>FP P f H r true c/\Nv P f H rs cs
 |_,_=>False
def b3l [Zi] (P:Program)(rs:List ResultVar)(i e sz:Nat)(rows':List (List IV))(res:List CV):Post
 |.ret,f,H=>Nv P f H rs res/\H i=.blk false 1 e sz rows'
 |.normal,f,H=>Nv P f H rs res/\H i=.blk false 1 e sz rows'
 |_,_,_=>False
def ZP (x:AV)(c:HC)(i e sz:Nat)(rows':List (List IV)):Prop :=
 match x,c with
 |.hv h st off len,.blk false st' e' sz' rows=>h=i/\st=1/\st'=1/\off=0/\e'=e/\sz'=sz/\len<=rows.length/\rows'=rows.take len
 |.hs h st,.blk false st' e' sz' rows=>h=i/\st=1/\st'=1/\e'=e/\sz'=sz/\rows'=rows
 |_,_=>False
def b3z (f:Fr)(H:Hp)(rs:List ResultVar)(i e sz:Nat)(rows':List (List IV)):Prop :=
 match rs with
 |[.tmp t]=>ZP (f t) (H i) i e sz rows'
 |_=>False
def b3m (rs:List ResultVar)(i e sz:Nat)(rows':List (List IV)):Post
 |.ret,f,H=>b3z f H rs i e sz rows'
 |.normal,f,H=>b3z f H rs i e sz rows'
 |_,_,_=>False
def pF (B:Nat):Hp:=λh=>if h=999 then .mrk B else .none
def SN (B0 E:Nat)(f:Fr)(H:Hp)(rows:List (List IV))(b:Option (Nat×Nat)):Prop :=
 (b=none->rows=[])/\∀g cap,b=some (g,cap)->B0<=g/\g<E/\g∉iq rows/\(∀u x,f u=.iv x->g∉x.ids)/\(∀u cs,f u=.agg cs->g∉pI cs)/\∀u fz st e sz rows,H u=.blk fz st e sz rows->g∉iq rows
inductive Opn (B0:Nat) (T:Fr->Hp->Prop):Fr->Hp->Prop
 |done {f:Fr} {H:Hp} (h:T f H):Opn B0 T f H
 |oG {f:Fr} {H:Hp} (t e sz:Nat) (ht:f t=.oG) (h:Opn B0 T (upd f t (.iv (.own none e sz []))) H):Opn B0 T f H
 |row {f:Fr} {H:Hp} (hb st e j h s e' sz:Nat) (rows:List AV) (rws:List (List IV)) (B:Nat) (hN:H hb=.nst st e rows) (hj:rows[j]?=some (.hs h s)) (hH:H h=.blk false s e' sz rws) (hB:H 999=.mrk B)
   (k:∀b E,B<=E->SN B0 E f H rws b->(∀g cap,b=some (g,cap)->∀x,AV.iv x∈rows->g∉x.ids)->Opn B0 T f (dF (dF (dF H h (.blk true s e' sz rws)) 999 (.mrk E)) hb (.nst st e (rows.set j (.iv (.own b e' sz rws)))))):Opn B0 T f H
 |opn {f:Fr} {H:Hp} (t h st e sz:Nat) (rows:List (List IV)) (B:Nat) (ht:f t=.hs h st) (hH:H h=.blk false st e sz rows) (hB:H 999=.mrk B)
   (k:∀b E,B<=E->SN B0 E f H rows b->Opn B0 T (upd f t (.iv (.own b e sz rows))) (dF (dF H h (.blk true st e sz rows)) 999 (.mrk E))):Opn B0 T f H
def a3C [Zi] (P:Program)(rs:List ResultVar)(B0:Nat)(R:Nat->Nat->List CV->Prop)(f:Fr)(H:Hp):Prop :=
 ∃B cs,H 999=.mrk B/\JO P f H none 0 rs cs/\∀E,B<=E->R B0 E cs
def b1K [Zi] (P:Program)(rs:List ResultVar)(B0:Nat)(R:Nat->Nat->List CV->Prop):Post
 |.ret,f,H=>Opn B0 (a3C P rs B0 R) f H
 |.normal,f,H=>Opn B0 (a3C P rs B0 R) f H
 |_,_,_=>False
theorem Own.WI {w:World}{D M:Nat->Prop}{B:Nat}{v:Value}{e sz:Nat}{rows:List (List IV)}(h:Own w D B M v e sz rows){D':Nat->Prop}(hD:∀b,D' b->D b)(hn:∀g,bD v=some g->¬D' g) :
  ∃b,Rep w D' (.own b e sz rows) v/\(b=none->rows=[])/\∀g cap,b=some (g,cap)->bD v=some g:=by
 rcases h.2 with ⟨rfl,rfl⟩|⟨g,cap,cur,rfl,hB,hg,h1,h2,h3,h4⟩
 .exact⟨none,.QD e sz,λ_=>rfl,by simp⟩
 .have h4':=h4.mono (w':=w) (D':=D') ⟨Nat.le_refl _,λb _ hb=>hD b hb,λ_ _ _ _=>rfl⟩;refine⟨some (g,cap),.own rows g cap e sz cur (λi r hi=>h.1 r (List.mem_of_getElem? hi)) h1 h2 hg (hn g rfl) h3 ?_,by simp,λg' cap' hh=>by injection hh with hh;injection hh with h1 h2;subst h1;rfl⟩;intro i r hi j x hj;obtain⟨c,hc,hr⟩:=h4'.get _ _ (iR rows i j r x h.1 hi hj);rw[List.getElem?_take]at hc;split at hc
  .rw[Array.getElem?_toList]at hc;rw[Array.getD_eq_getD_getElem?,hc];exact hr
  .cases hc
theorem aS.b3x {w:World}{D:Nat->Prop}{H:Hp}{β:Nat->Value}:∀{xs:List AV} {vs:List Value} {j:Nat} {x y:AV},aS w D H β xs vs->xs[j]?=some x->(∀v,aG w D H β x v->aG w D H β y v)->aS w D H β (xs.set j y) vs
 |[],[],j,x,y,_,hj,_=>by simp at hj
 |a::xs,v::vs,0,x,y,h,hj,hk=>by
  simp only[List.getElem?_cons_zero,Option.some.injEq]at hj;subst hj;simp only[aS]at h;simp only[List.set_cons_zero,aS];exact⟨hk v h.1,h.2⟩
 |a::xs,v::vs,j+1,x,y,h,hj,hk=>by
  simp only[aS]at h;simp only[List.set_cons_succ,aS];exact⟨h.1,aS.b3x h.2 (by simpa using hj) hk⟩
 |[],_::_,_,_,_,h,_,_=>by simp[aS]at h
 |_::_,[],_,_,_,h,_,_=>by simp[aS]at h
theorem aS.b3E {w:World}{D:Nat->Prop}{H:Hp}{β:Nat->Value}:∀{xs:List AV} {vs:List Value} {x:AV},aS w D H β xs vs->x∈xs->∃v,aG w D H β x v
 |a::xs,v::vs,x,h,hm=>by
  simp only[aS]at h;rcases List.mem_cons.1 hm with rfl|hm
  .exact⟨v,h.1⟩
  .exact aS.b3E h.2 hm
 |[],_,_,_,hm=>by cases hm
 |_::_,[],_,h,_=>by simp[aS]at h
theorem Rel.a6O {f:Fr}{H:Hp}{β:Nat->Value}{a:Act}{w:World}(R:Rel G (λ_=>False) w0 D0 N f H β a w){h st e sz B:Nat}{rows:List (List IV)}(hH:H h=.blk false st e sz rows)(hB:H 999=.mrk B) :
  ∃b E,(B<=E/\E<=w.heap.size)/\SN w0.heap.size E f H rows b/\(∀g cap,b=some (g,cap)->bD (β h)=some g)/\Rep w (DD (dF H h (.blk true st e sz rows)) β D0) (.own b e sz rows) (β h):=by
 have ho:=R.own h _ _ _ _ hH;have DZ:(H h).gB:=by rw[hH];trivial
 have hsub:∀b,DD (dF H h (.blk true st e sz rows)) β D0 b->DD H β D0 b:=by
  rintro b (hb|⟨u,hm,hk⟩)
  .exact .inl hb
  .by_cases e:u=h
   .subst e;rw[aO]at hm;exact hm.elim
   .rw[aJ _ _ e]at hm;exact .inr ⟨u,hm,hk⟩
 have hn:∀g,bD (β h)=some g->¬DD (dF H h (.blk true st e sz rows)) β D0 g:=by
  rintro g hg (hb|⟨u,hm,hk⟩)
  .have h1:=R.old g hb;rcases DD.head R DZ hg with h2|h2
   .omega
   .exact h2
  .by_cases e:u=h
   .subst e;rw[aO]at hm;exact hm.elim
   .rw[aJ _ _ e]at hm;exact R.dis u h e hm DZ g hk hg
 obtain⟨b,hrep,hb0,hbg⟩:=ho.WI hsub hn;refine⟨b,w.heap.size,⟨R.mrk _ _ hB,Nat.le_refl _⟩,⟨hb0,λg cap hg=>?_⟩,hbg,hrep⟩;have hgh:=hbg g cap hg;have hDg:DD H β D0 g:=.inr ⟨h,DZ,hgh⟩;have hlt:=R.o7 DZ hgh;have hrows:∀(u:Nat) (fz:Bool) (st e sz:Nat) (rows:List (List IV)),H u=.blk fz st e sz rows->g∉iq rows:=λu fz st e sz rows hu hm=>by
  cases fz with
  |false =>
   rcases (R.own u _ _ _ _ hu).2 with ⟨hr,_⟩|⟨g',cap',cur,_,_,_,_,_,_,hr⟩
   .rw[hr]at hm;simp[iq]at hm
   .rw[<-jq]at hm;obtain⟨x,hx,hm⟩:=iH.1 hm;obtain⟨j,hj⟩:=List.getElem?_of_mem hx;obtain⟨v,_,hv⟩:=hr.get j x hj;exact(hv.ids g hm).1 hDg
  |true=>exact((R.frz u _ _ _ _ hu).2.1.ids g hm).1 hDg
 refine⟨hlt.2.resolve_right id,hlt.1,λhm=>?_,λu x hu hm=>?_,λu cs hu hm=>?_,hrows⟩
 .rcases ho.2 with ⟨hr,_⟩|⟨g',cap',cur,_,_,_,_,_,_,hr⟩
  .rw[hr]at hm;simp[iq]at hm
  .rw[<-jq]at hm;obtain⟨x,hx,hm⟩:=iH.1 hm;obtain⟨j,hj⟩:=List.getElem?_of_mem hx;obtain⟨v,_,hv⟩:=hr.get j x hj;exact(hv.ids g hm).1 hDg
 .have:=R.tmps u;rw[hu]at this;simp only[aG]at this;exact(this.ids g hm).1 hDg
 .have:=R.tmps u;rw[hu]at this;simp only[aG]at this;obtain⟨vs,_,hr⟩:=this;obtain⟨x,hx,hm⟩:=iH.1 hm;obtain⟨j,hj⟩:=List.getElem?_of_mem hx;obtain⟨v,_,hv⟩:=hr.get j x hj;exact(hv.ids g hm).1 hDg
theorem Rel.opn {f:Fr}{H:Hp}{T:Fr->Hp->Prop}(k:Opn w0.heap.size T f H):∀{β:Nat->Value} {a:Act} {w:World},Rel G (λ_=>False) w0 D0 N f H β a w->∃f' H' β',T f' H'/\Rel G (λ_=>False) w0 D0 N f' H' β' a w:=by
 induction k with
 |done h=>exact λR=>⟨_,_,_,h,R⟩
 |oG t e sz hf k ih =>
  intro β a w R;have hx:=R.tmps t;rw[hf]at hx;simp only[aG]at hx;have ht:t<N:=R.qH (t:=t) (λv hv=>by rw[hx]at hv;subst hv;intro h;cases h);have R':=R.value (dst:=some t) (v:=.iv (.own none e sz [])) (val:=.slice none 0 0) (by simp only[aG];exact .QD e sz) (by rintro _ ⟨⟩;exact ht);rw[R.qA ht hx]at R';exact ih R'
 |row hb st e j h s e' sz rows rws B hN hj hH hB k ih =>
  rename_i f H;intro β a w R;have ho:=R.own h _ _ _ _ hH;have DZ:(H h).gB:=by rw[hH];trivial
  have hne:(999:Nat)≠h:=λe=>by rw[e,hH]at hB;cases hB
  have hne2:hb≠h:=λe=>by rw[e,hH]at hN;cases hN
  have b5C:hb≠999:=λe=>by rw[e,hB]at hN;cases hN
  obtain⟨b,E,hE,hok,b5F,hrow⟩:=R.a6O hH hB;have R1:=R.freeze h;rw[hH]at R1;simp only[HC.frz]at R1;have R2:=R1.JE (h:=999) (B:=B) (E:=E) (by rw[aJ _ _ hne];exact hB) hE.2;have hN2:dF (dF H h (.blk true s e' sz rws)) 999 (.mrk E) hb=.nst st e rows:=by rw[aJ _ _ b5C,aJ _ _ hne2];exact hN
  have hsub:∀k,DD (dF (dF H h (.blk true s e' sz rws)) 999 (.mrk E)) β D0 k->DD (dF H h (.blk true s e' sz rws)) β D0 k:=by
   rintro k (hk|⟨u,hm,hk⟩)
   .exact .inl hk
   .by_cases e:u=999
    .subst e;rw[aO]at hm;exact hm.elim
    .rw[aJ _ _ e]at hm;exact .inr ⟨u,hm,hk⟩
  have hjr:∀v,aG w (DD (dF (dF H h (.blk true s e' sz rws)) 999 (.mrk E)) β D0) (dF (dF H h (.blk true s e' sz rws)) 999 (.mrk E)) β (.hs h s) v->aG w (DD (dF (dF H h (.blk true s e' sz rws)) 999 (.mrk E)) β D0) (dF (dF H h (.blk true s e' sz rws)) 999 (.mrk E)) β (.iv (.own b e' sz rws)) v:=by
   intro v hv;simp only[aG]at hv ⊢;have:v=β h:=hv.2 (by rw[aJ _ _ (Ne.symm hne),aO];rfl);rw[this];exact hrow.mono (dh.of_sub hsub)
  have R3:=R2.conv (h:=hb) (c:=.nst st e (rows.set j (.iv (.own b e' sz rws)))) (by rw[hN2];rfl) (by rw[hN2];rfl) (by rw[hN2];exact Iff.rfl) (by intro a b c d h;cases h) (λst' e'' rows' hh=>by
   injection hh with h1 h2 h3;subst h1 h2 h3;rcases R2.nst hb _ _ _ hN2 with ⟨hr,hv⟩|⟨g,cap,cur,hv,hBg,hg,a1,a2,a3,a4,a5⟩
   .rw[hr]at hj;simp at hj
   .refine .inr ⟨g,cap,cur,by rw[hv];simp,hBg,hg,by simpa using a1,a2,a3,?_,by simpa using a5⟩;simp only[List.length_set];exact aS.b3x a4 hj hjr) (by intro a b c d h;cases h)
  refine ih b E hE.1 hok (λg cap hb' x hx hm=>?_) R3;rcases R.nst hb _ _ _ hN with ⟨hr,_⟩|⟨g',cap',cur,_,_,_,_,_,_,hr,_⟩
  .rw[hr]at hx;cases hx
  .obtain⟨v,hv⟩:=hr.b3E hx;simp only[aG]at hv;exact(hv.ids g hm).1 (.inr ⟨h,DZ,b5F g cap hb'⟩)
 |opn t h st e sz rows B hf hH hB k ih =>
  rename_i f H;intro β a w R;have hx:=R.tmps t;rw[hf]at hx;simp only[aG]at hx;have hv:a.tmps.getD t Go.undef=β h:=hx.2 (by rw[hH];rfl);have ho:=R.own h _ _ _ _ hH;have ht:t<N:=R.qH (t:=t) (λv hv'=>by
   rw[hv]at hv';rcases ho.2 with ⟨_,hn⟩|⟨g,cap,cur,hn,_⟩<;>(rw[hn]at hv';subst hv';intro h;cases h))
  have R1:=R.freeze h;rw[hH]at R1;simp only[HC.frz]at R1;have hne:(999:Nat)≠h:=λe=>by rw[e,hH]at hB;cases hB
  have hsub:∀b,DD (dF H h (.blk true st e sz rows)) β D0 b->DD H β D0 b:=by
   rintro b (hb|⟨u,hm,hk⟩)
   .exact .inl hb
   .by_cases e:u=h
    .subst e;rw[aO]at hm;exact hm.elim
    .rw[aJ _ _ e]at hm;exact .inr ⟨u,hm,hk⟩
  have DZ:(H h).gB:=by rw[hH];trivial
  have hn:∀g,bD (β h)=some g->¬DD (dF H h (.blk true st e sz rows)) β D0 g:=by
   rintro g hg (hb|⟨u,hm,hk⟩)
   .have h1:=R.old g hb;rcases DD.head R DZ hg with h2|h2
    .omega
    .exact h2
   .by_cases e:u=h
    .subst e;rw[aO]at hm;exact hm.elim
    .rw[aJ _ _ e]at hm;exact R.dis u h e hm DZ g hk hg
  obtain⟨b,hrep,hb0,hbg⟩:=ho.WI hsub hn;have R2:=R1.JE (h:=999) (B:=B) (E:=w.heap.size) (by rw[aJ _ _ hne];exact hB) (Nat.le_refl _);have hsub2:∀b,DD (dF (dF H h (.blk true st e sz rows)) 999 (.mrk w.heap.size)) β D0 b->DD (dF H h (.blk true st e sz rows)) β D0 b:=by
   rintro b (hb|⟨u,hm,hk⟩)
   .exact .inl hb
   .by_cases e:u=999
    .subst e;rw[aO]at hm;exact hm.elim
    .rw[aJ _ _ e]at hm;exact .inr ⟨u,hm,hk⟩
  have R3:=R2.value (dst:=some t) (v:=.iv (.own b e sz rows)) (val:=a.tmps.getD t Go.undef) (by simp only[aG];rw[hv];exact hrep.mono (dh.of_sub hsub2)) (by rintro _ ⟨⟩;exact ht);rw[R.qA ht rfl]at R3;refine ih b w.heap.size (R.mrk _ _ hB) ⟨hb0,λg cap hg=>?_⟩ R3;have hgh:=hbg g cap hg;have hDg:DD H β D0 g:=.inr ⟨h,DZ,hgh⟩;have hlt:=R.o7 DZ hgh;have hrows:∀(u:Nat) (fz:Bool) (st e sz:Nat) (rows:List (List IV)),H u=.blk fz st e sz rows->g∉iq rows:=λu fz st e sz rows hu hm=>by
   cases fz with
   |false =>
    rcases (R.own u _ _ _ _ hu).2 with ⟨hr,_⟩|⟨g',cap',cur,_,_,_,_,_,_,hr⟩
    .rw[hr]at hm;simp[iq]at hm
    .rw[<-jq]at hm;obtain⟨x,hx,hm⟩:=iH.1 hm;obtain⟨j,hj⟩:=List.getElem?_of_mem hx;obtain⟨v,_,hv⟩:=hr.get j x hj;exact(hv.ids g hm).1 hDg
   |true=>exact((R.frz u _ _ _ _ hu).2.1.ids g hm).1 hDg
  refine⟨hlt.2.resolve_right id,hlt.1,λhm=>?_,λu x hu hm=>?_,λu cs hu hm=>?_,hrows⟩
  .rcases ho.2 with ⟨hr,_⟩|⟨g',cap',cur,_,_,_,_,_,_,hr⟩
   .rw[hr]at hm;simp[iq]at hm
   .rw[<-jq]at hm;obtain⟨x,hx,hm⟩:=iH.1 hm;obtain⟨j,hj⟩:=List.getElem?_of_mem hx;obtain⟨v,_,hv⟩:=hr.get j x hj;exact(hv.ids g hm).1 hDg
  .have:=R.tmps u;rw[hu]at this;simp only[aG]at this;exact(this.ids g hm).1 hDg
  .have:=R.tmps u;rw[hu]at this;simp only[aG]at this;obtain⟨vs,_,hr⟩:=this;obtain⟨x,hx,hm⟩:=iH.1 hm;obtain⟨j,hj⟩:=List.getElem?_of_mem hx;obtain⟨v,_,hv⟩:=hr.get j x hj;exact(hv.ids g hm).1 hDg
def AWo [Zi] (P:Program)(B0:Nat):Nat->Code->Post->Fr->Hp->Prop
 |0,c,Q,f,H=>Opn B0 (AW P c Q) f H
 |n+1,.seq x y,Q,f,H=>AW P x (E5 (AWo P B0 n y Q) Q) f H
 |_,_,_,_,_=>False
def AWq [Zi] (P:Program)(B0:Nat)(n:Option Nat)(c:Code)(Q:Post)(f:Fr)(H:Hp):Prop :=
 match n with
 |none=>AW P c Q f H
 |some n=>AWo P B0 n c Q f H
theorem LD (hm:P.follows .mixedOrders=true):∀(n:Nat) (c:Code) (w0:World) (Q:Post) (f:Fr) (H:Hp) (β:Nat->Value) (a:Act) (w:World),G.rnd=false->codeOk N c=true->AWo P w0.heap.size n c Q f H->Rel G (λ_=>False) w0 D0 N f H β a w->c.wpIn (Wd none) 0 P (Conc G (λ_=>False) w0 D0 N Q) a w
 |0,c,w0,Q,f,H,β,a,w,hr,hd,h,R=>by
  obtain⟨f',H',β',h',R'⟩:=Rel.opn h R;exact gG hm c none G _ w0 Q f' H' β' a w (.inr ⟨rfl,hr⟩) hd h' R'
 |n+1,.seq x y,w0,Q,f,H,β,a,w,hr,hd,h,R=>by
  simp only[codeOk,Bool.and_eq_true]at hd;refine wpIn_seq (wpIn_mono (gG hm x none G _ w0 _ f H β a w (.inr ⟨rfl,hr⟩) hd.1 h R) λe a w hq=>?_);cases e with
  |normal=>obtain⟨f,H,β,hk,R⟩:=hq;exact LD hm n y w0 Q f H β a w hr hd.2 hk R
  |panic _=>exact hq.elim
  |outgrown=>exact hq.elim
  |exit id=>obtain⟨f,H,β,hk,R⟩:=hq;exact⟨f,H,β,hk,R⟩
  |ret=>obtain⟨f,H,β,hk,R⟩:=hq;exact⟨f,H,β,hk,R⟩
  |goto l=>obtain⟨f,H,β,hk,R⟩:=hq;exact⟨f,H,β,hk,R⟩
theorem ZG (hm:P.follows .mixedOrders=true){n:Option Nat}{c:Code}{w0:World}{Q:Post}{f:Fr}{H:Hp}{β:Nat->Value}{a:Act}{w:World}(hr:G.rnd=false)(hd:codeOk N c=true)(h:AWq P w0.heap.size n c Q f H)(R:Rel G (λ_=>False) w0 D0 N f H β a w):c.wpIn (Wd none) 0 P (Conc G (λ_=>False) w0 D0 N Q) a w:=by
 cases n with
 |none=>exact gG hm c none G _ w0 Q f H β a w (.inr ⟨rfl,hr⟩) hd h R
 |some n=>exact LD hm n c w0 Q f H β a w hr hd h R
theorem Lc {w:World}{D:Nat->Prop}:∀{cs:List CV} {us:List Value},us.length=cs.length->(∀(k:Nat) c v,cs[k]?=some c->us[k]?=some v->iI w D c v)->eU w D cs us
 |[],[],_,_=>trivial
 |c::cs,u::us,hl,h=>⟨h 0 c u rfl rfl,Lc (by simpa using hl) λk c v hc hv=>h (k+1) c v (by simpa using hc) (by simpa using hv)⟩
 |[],_::_,hl,_=>by simp at hl
 |_::_,[],hl,_=>by simp at hl
theorem ACX.vK {g : Nat} {args : List CV} {R : Nat → Nat → List CV → Prop} (hm : P.follows .mixedOrders = true) {fn : Func} {body : Code} (hf : P.funcs[g]? = some fn) (hb : fn.body = some body) (hn : (fn.name == "runtime.NumGoroutine") = false)
  (hd:codeOk fn.ntmps body=true) (hargs:args.length<=fn.ntmps) (hne:∀B,∃E res,B<=E/\R B E res) {n:Option Nat} (h:∀B,AWq P B n body (b1K P fn.results.toList B R) (kU args) (pF B)):ACX P g args R:=by
 refine⟨hne,λw D vs hD hvs=>?_⟩;refine .inl ⟨fn,hf,hn,by rw[hb];rfl,callsIn_wide.1 (callsIn_of_wp_marks (n:=0) (F:=Fence.wide) hf hb trivial ?_)⟩;have hlen:=hvs.length;have DZ:∀h,¬(pF w.heap.size h).gB:=λh=>by
  unfold pF;split<;>exact id
 have hcv:∀(cvs:List CV) (us:List Value),eU w D cvs us->∀t,aG w (DD (pF w.heap.size) (λ_=>default) D) (pF w.heap.size) (λ_=>default) (kU cvs t) ((us[t]?).getD Go.undef):=by
  intro cvs us hu t;have hDD:∀b,DD (pF w.heap.size) (λ_=>default) D b->D b:=by
   intro b hb;rcases hb with hb|⟨k,hm,_⟩
   .exact hb
   .exact(DZ k hm).elim
  induction cvs generalizing us t with
  |nil =>
   match us,hu with
   |[],_=>simp[kU,aG]
  |cons c cs ih =>
   match us,hu with
   |u::us,hu =>
    cases t with
    |zero=>simp only[kU,List.map_cons,List.getElem?_cons_zero,Option.getD_some];exact(hu.1.mono (dh.of_sub hDD)).av
    |succ t=>simpa only[kU,List.map_cons,List.getElem?_cons_succ] using ih us hu.2 t
 have b0O:∀h c,pF w.heap.size h=c->c=.none\/c=.mrk w.heap.size:=λh c hc=>by
  unfold pF at hc;split at hc
  .exact .inr hc.symm
  .exact .inl hc.symm
 have R0:Rel ⟨λ_ _=>False,false⟩ (λ_=>False) w D fn.ntmps (kU args) (pF w.heap.size) (λ_=>default) { tmps:=vs.toArray++Array.replicate (fn.ntmps-vs.toArray.size) Go.undef,defers:=[] } w:=by
  refine⟨rfl,rfl,rfl,Nat.le_refl _,λ_ _ _=>rfl,λb hb=>⟨hD b hb,λh=>h⟩,by simp;omega,λd hd=>(by cases hd),λh=>(by cases h),List.nodup_nil,λ_ _ h=>h.elim,λt=>?_,λh st e sz rows hh=>(by rcases b0O _ _ hh with h|h<;>cases h),λh st e sz rows hh=>(by rcases b0O _ _ hh with h|h<;>cases h),λh h' _ hm=>(DZ h hm).elim,λh st e rows hh=>(by rcases b0O _ _ hh with h|h<;>cases h),λh B hh=>(by
   rcases b0O _ _ hh with h|h
   .cases h
   .injection h with h;rw[h];exact Nat.le_refl _),λh x v hh=>(by rcases b0O _ _ hh with h|h<;>cases h)⟩
  have e:(vs.toArray++Array.replicate (fn.ntmps-vs.toArray.size) Go.undef).getD t Go.undef=(vs[t]?).getD Go.undef:=by
   rw[Array.getD_eq_getD_getElem?,Array.getElem?_append];split
   .simp
   .rename_i ht;simp only[List.size_toArray,Nat.not_lt]at ht;rw[List.getElem?_eq_none ht];simp only[Array.getElem?_replicate];split<;>rfl
  rw[e];exact hcv args vs hvs t
 refine wpIn_mono (ZG hm rfl hd (h w.heap.size) R0) λe a w' hq=>?_
 have fin:∀f H β,Opn w.heap.size (a3C P fn.results.toList w.heap.size R) f H->Rel ⟨λ_ _=>False,false⟩ (λ_=>False) w D fn.ntmps f H β a w' ->
   LeavesInM Fence.wide 0 P fn a.tmps (λe w'=>∃v,e=.returned v/\Below w.heap.size w w'/\∃us res,v=qF us/\R w.heap.size w'.heap.size res/\eU w' D res us) a.defers .returning w':=by
  intro f H β hr R0;refine CZ a.defers _ w' R0.defers R0.a1X R0.size λw2 h1 h2 h3 h4 h5=>?_;have g2:dh w' (DD H β D) w2 (DD H β D):=⟨Nat.le_of_eq h4.symm,λ_ _ h=>h,λb _ _ hc=>h5 b (.inr hc)⟩;have R1:Rel ⟨λ_ _=>False,false⟩ (λ_=>False) w D fn.ntmps f H β { a with defers:=[] } w2 :=
   ⟨h1.trans R0.os,h2.trans R0.tape,h3.trans R0.output,by rw[h4];exact R0.size,λk hk _=>(h5 k (.inl hk)).trans (R0.keep k hk (λh=>h)),R0.old,R0.rV,λd hd=>(by cases hd),λh=>(by cases h),List.nodup_nil,λ_ _ h=>h.elim,
    λt=>aG.mono g2 (jV.refl _ _) _ _ (R0.tmps t),
    λh st e sz rows hh=>(R0.own h st e sz rows hh).mono g2 λk hk=>by obtain⟨cur,e',hc⟩:=R0.gY (by rw[hh];trivial) hk;exact h5 k (.inr ⟨_,hc,rfl⟩),
    λh st e sz rows hh=>⟨(R0.frz h st e sz rows hh).1,(R0.frz h st e sz rows hh).2.1.mono g2,(R0.frz h st e sz rows hh).2.2⟩,R0.dis,
    λh st e rows hh=>(R0.nst h st e rows hh).mono g2 (jV.refl _ _) λk hk=>by obtain⟨cur,e',hc⟩:=R0.gY (by rw[hh];trivial) hk;exact h5 k (.inr ⟨_,hc,rfl⟩),λh B hh=>by rw[h4];exact R0.mrk h B hh,λh x v hh=>aG.mono g2 (jV.refl _ _) _ _ (R0.tie h x v hh)⟩
  clear h1 h2 h3 h4 h5;obtain⟨f',H',β',⟨B,cs,hB,b2S,hR⟩,R2⟩:=Rel.opn hr R1;obtain⟨us,h1',h2,h3,_⟩:=uH R2 _ _ _ b2S;refine⟨_,qx h1',_,rfl,⟨R2.os,R2.tape,R2.output,R2.size,λk hk=>R2.keep k hk (λh=>h)⟩,us,cs,rfl,hR _ (R2.mrk _ _ hB),Lc h2 λk c v hc hv=>?_⟩;obtain⟨ms,_,hrep⟩:=h3 k c v (λi e sz rows ho=>nomatch ho) hc hv;exact hrep.mono (dh.of_sub λb hb=>.inl hb)
 cases e with
 |normal=>obtain⟨f,H,β,hk,R⟩:=hq;exact fin f H β hk R
 |ret=>obtain⟨f,H,β,hk,R⟩:=hq;exact fin f H β hk R
 |panic _=>exact hq.elim
 |outgrown=>exact hq.elim
 |exit id=>obtain⟨f,H,β,hk,R⟩:=hq;exact hk.elim
 |goto l=>obtain⟨f,H,β,hk,R⟩:=hq;exact hk.elim
def EX (avs:List AV):Fr:=λt=>(avs[t]?).getD .undef
def TL [Zi] (P:Program)(f:Fr)(H:Hp):List ResultVar->Option (Prop×AV)
 |[]=>some (True,.dead)
 |[.tmp t]=>some (True,f t)
 |[.cell t ty]=>match qV (ti P ty) H (f t) with
  |some r=>some (r.c,r.v)
  |none=>none
 |_=>none
def a8D [Zi] (P:Program)(rs:List ResultVar)(Z:AV->Hp->Prop):Post
 |.ret,f,H=>∃c x,TL P f H rs=some (c,x)/\c/\Z x H
 |.normal,f,H=>∃c x,TL P f H rs=some (c,x)/\c/\Z x H
 |_,_,_=>False
theorem Uu {g : Nat} {vs : List Value} {w : World} {R : Value → World → Prop} {fn : Func} {body : Code} (hf : P.funcs[g]? = some fn) (hb : fn.body = some body) (hn : (fn.name == "runtime.NumGoroutine") = false)
  (h:body.wpIn (Wd none) 0 P (λe a w'=>(e=.normal\/e=.ret)/\a.defers=[]/\∃us,(fn.results.toList.mapM (rvS a.tmps)).run P w'=.ok us w'/\R (qF us) w') { tmps:=vs.toArray++Array.replicate (fn.ntmps-vs.toArray.size) Go.undef,defers:=[] } w):lH P g vs w R:=by
 refine .inl ⟨fn,hf,hn,by rw[hb];rfl,callsIn_wide.1 (callsIn_of_wp_marks (n:=0) (F:=Fence.wide) hf hb trivial ?_)⟩;refine wpIn_mono h λe a w' hq=>?_;obtain⟨he,hd,us,hr,hR⟩:=hq;have fin:LeavesInM Fence.wide 0 P fn a.tmps (λe w'=>∃v,e=.returned v/\R v w') a.defers .returning w':=by
  rw[hd];exact⟨_,qx (a:=a) hr,_,rfl,hR⟩
 rcases he with rfl|rfl
 .exact fin
 .exact fin
theorem ACI.a1I {g : Nat} {avs : List AV} {H : Hp} {Z : AV → Hp → Prop} {fn : Func} {body : Code} (hf : P.funcs[g]? = some fn) (hb : fn.body = some body) (hn : (fn.name == "runtime.NumGoroutine") = false)
  (hargs:avs.length<=fn.ntmps) (hne:∃x H',Z x H') (hs:∀(G:Gh) (M:Nat->Prop) (w0:World) (D0:Nat->Prop) (β:Nat->Value) (a:Act) (w:World),Rel G M w0 D0 fn.ntmps (EX avs) H β a w->body.wpIn (Wd none) 0 P (Conc G M w0 D0 fn.ntmps (a8D P fn.results.toList Z)) a w):ACI P g avs H Z:=by
 refine⟨hne,?_⟩;intro G M w0 D0 N f β a w vs R hall;refine Uu hf hb hn ?_;have hlen:avs.length=vs.length:=uh hall;have ht:∀t,aG w (DD H β D0) H β (EX avs t) ((vs.toArray++Array.replicate (fn.ntmps-vs.toArray.size) Go.undef).getD t Go.undef):=by
  intro t;have e:(vs.toArray++Array.replicate (fn.ntmps-vs.toArray.size) Go.undef).getD t Go.undef=(vs[t]?).getD Go.undef:=by
   rw[Array.getD_eq_getD_getElem?,Array.getElem?_append];split
   .simp
   .rename_i ht;simp only[List.size_toArray,Nat.not_lt]at ht;rw[List.getElem?_eq_none ht];simp only[Array.getElem?_replicate];split<;>rfl
  rw[e];have key:∀(avs:List AV) (vs:List Value) (t:Nat),jh w (DD H β D0) H β avs vs->aG w (DD H β D0) H β ((avs[t]?).getD .undef) ((vs[t]?).getD Go.undef):=by
   intro avs
   induction avs with
   |nil=>intro vs t h;cases h;simp[aG]
   |cons x xs ih =>
    intro vs t h;cases h with
    |cons hx hxs =>
     cases t with
     |zero=>simpa using hx
     |succ t=>simpa using ih _ t hxs
  exact key avs vs t hall
 have R0:=R.enter (f0:=EX avs) (a0:={ tmps:=vs.toArray++Array.replicate (fn.ntmps-vs.toArray.size) Go.undef,defers:=[] }) (N':=fn.ntmps) (by simp;omega) rfl ht;refine wpIn_mono (hs _ _ _ _ _ _ _ R0) λe a' w' hq=>?_;have fin:∀f1 H1 β1,(∃c x,TL P f1 H1 fn.results.toList=some (c,x)/\c/\Z x H1)->Rel (QZ f a G) (Mut H β) w D0 fn.ntmps f1 H1 β1 a' w'->a'.defers=[]/\∃us,(fn.results.toList.mapM (rvS a'.tmps)).run P w'=.ok us w'/\∃x H' β',Z x H'/\Rel G M w0 D0 N f H' β' a w'/\aG w' (DD H' β' D0) H' β' x (qF us):=by
  rintro f1 H1 β1 ⟨c,x,hres,hc,hz⟩ R1;refine⟨R1.rnd rfl,?_⟩;have R2:=R.leave R1;unfold TL at hres;split at hres
  .rename_i heq;injection hres with hres;injection hres with e1 e2;subst e2;rw[heq];exact⟨[],rfl,_,_,β1,hz,R2,by simp[aG]⟩
  .rename_i t heq;injection hres with hres;injection hres with e1 e2;subst e2;rw[heq];exact⟨[a'.tmps.getD t Go.undef],by simp[List.mapM_cons,rvS,Result.andThen],_,_,β1,hz,R2,R1.tmps t⟩
  .rename_i t ty heq;split at hres
   .rename_i r hr;injection hres with hres;injection hres with e1 e2;subst e1 e2;rw[heq];have hx:=R1.tmps t;obtain⟨_,_,u,hu,hrep⟩:=iV R1 hx hr hc;have:∃ad,a'.tmps.getD t Go.undef=.pointer (some ad):=by
     cases hft:f1 t<;>rw[hft]at hx hr<;>simp only[qV,reduceCtorEq]at hr<;>simp only[aG]at hx
     .obtain⟨g,o,h,_⟩:=hx;exact⟨_,h⟩
     .rename_i h st i off;split at hr
      .rename_i hH;have hst:st=(H1 h).stamp:=by
        rw[hH];simp only[HC.stamp];split at hr<;>(injection hr with hr;subst hr;exact hc.2.1)
       obtain⟨g,n,cap,_,h⟩:=hx.2 hst;exact⟨_,h⟩
      .rename_i hH;have hst:st=(H1 h).stamp:=by
        rw[hH];simp only[HC.stamp];split at hr
        .injection hr with hr;subst hr;exact hc.2.1
        .split at hr
         .injection hr with hr;subst hr;exact hc.2.1
         .cases hr
       obtain⟨g,n,cap,_,h⟩:=hx.2 hst;exact⟨_,h⟩
      .cases hr
    obtain⟨ad,had⟩:=this;rw[had]at hu;have hrun:(rvS a'.tmps (.cell t ty)).run P w'=.ok u w':=by
     simp only[rvS,had,asAddr,Sem.run_bind,Sem.run_pure,Result.andThen_ok];simpa [Instr.loadAt,Instr.sureAddr] using hu
    exact⟨[u],by simp[List.mapM_cons,hrun,Result.andThen],_,_,β1,hz,R2,hrep⟩
   .cases hres
  .cases hres
 cases e with
 |normal=>obtain⟨f1,H1,β1,hk,R1⟩:=hq;exact⟨.inl rfl,fin f1 H1 β1 hk R1⟩
 |ret=>obtain⟨f1,H1,β1,hk,R1⟩:=hq;exact⟨.inr rfl,fin f1 H1 β1 hk R1⟩
 |panic _=>exact hq.elim
 |outgrown=>exact hq.elim
 |exit id=>obtain⟨f1,H1,β1,hk,R1⟩:=hq;exact hk.elim
 |goto l=>obtain⟨f1,H1,β1,hk,R1⟩:=hq;exact hk.elim
theorem ACI.vK {g : Nat} {avs : List AV} {H : Hp} {Z : AV → Hp → Prop} (hm : P.follows .mixedOrders = true) {fn : Func} {body : Code} (hf : P.funcs[g]? = some fn) (hb : fn.body = some body) (hn : (fn.name == "runtime.NumGoroutine") = false)
  (hd:codeOk fn.ntmps body=true) (hnr:gQ body=true) (hargs:avs.length<=fn.ntmps) (hne:∃x H',Z x H') (h:AW P body (a8D P fn.results.toList Z) (EX avs) H):ACI P g avs H Z :=
 ACI.a1I hf hb hn hargs hne λG M w0 D0 β a w R=>gG hm body none _ _ _ _ _ _ _ _ w (.inl hnr) hd h R
end
end Go.AL

namespace Go.AL
variable {zi:Zi}
open Go.RowKit
set_option linter.unusedSimpArgs false
set_option linter.unusedVariables false
def jD (r:Option AR)(d:Option Nat)(K:Fr->Hp->Log->Prop)(f:Fr)(H:Hp)(lg:Log):Prop :=
 match r with
 |some r=>r.c/\K (iY f d r.v) (dA r.hs (aQ r.fz H)) ((r.rd++r.fz++r.hs.map (·.1),r.fz++r.hs.map (·.1))::lg)
 |none=>False
section
variable {P:Program} {ds:List (Option Nat)} {rest:List Oper} {K:Fr->Hp->Log->Prop} {f:Fr} {H:Hp} {lg:Log} {d:Option Nat} {ty:Nat} {pos:String} {af:Array Edge}
theorem a3U:fV P ds [] K f H lg=K f H lg:=rfl
theorem a0j {x:Operand}:fV P ds (⟨d,.move x,ty,pos,af,none⟩::rest) K f H lg=match zi.st with
  |.both=>fV P ds rest K (iY f d (wG (ev f x))) H (([],[])::lg)
  |.strip=>fV P ds rest K (iY f d (ev f x)) H (([],[])::lg)
  |.no=>fV P ds rest K (iY f d (ev f x)) H (([],[])::lg)
  |.al _=>fV P ds rest K (iY f d (ev f x)) H (([],[])::lg):=by
 cases d<;>simp only[fV,MN,mg,b2b]<;>cases zi.st<;>simp[dA,aQ]
theorem PE {x:Operand}:fV P ds (⟨d,.assign x,ty,pos,af,none⟩::rest) K f H lg=fV P ds rest K (iY f d (ev f x)) H (([],[])::lg):=by
 cases d<;>simp[fV,MN,mg,dA,aQ]
theorem a0i {c x y:Operand}:fV P ds (⟨d,.pick c x y,ty,pos,af,none⟩::rest) K f H lg=jD (match ev f c with | .iv (.bool b)=>some ⟨True,if b then ev f x else ev f y,[],[],[]⟩|_=>none) d (fV P ds rest K) f H lg:=by
 cases d<;>rfl
theorem Vd {e d:Nat}:fV P ds (⟨some d,.alloc e,ty,pos,af,none⟩::rest) K f H lg=jD (uy (ti P e) H e d) (some d) (fV P ds rest K) f H lg:=rfl
theorem a3V {e d:Nat}{x:Operand}:fV P ds (⟨some d,.box e x,ty,pos,af,none⟩::rest) K f H lg=jD (LY (ti P e) H e d (ev f x)) (some d) (fV P ds rest K) f H lg:=rfl
theorem Va {t:Nat}{ps:List (Nat×Operand)}:fV P ds (⟨d,.build t ps.toArray,ty,pos,af,none⟩::rest) K f H lg=jD (Ad (ti P t) H (ps.map (·.1)) (ps.map λp=>ev f p.2)) d (fV P ds rest K) f H lg:=by
 cases d<;>rfl
theorem DX {t n d:Nat}{ps:List (Nat×Operand)}:fV P ds (⟨some d,.buildSlice t n ps.toArray,ty,pos,af,none⟩::rest) K f H lg=match zi.bs d with
  |true=>PG P t n (ps.map (·.1)) (ps.map λp=>ev f p.2) d (fV P ds rest K) f H lg
  |false=>jD (match (ti P t).desc with | .sl e=>iw (ti P e) H e d n (ps.map (·.1)) (ps.map λp=>ev f p.2)|_=>none) (some d) (fV P ds rest K) f H lg:=by
 simp only[fV,MN,mg];cases zi.bs d
 .unfold jD;cases (ti P t).desc<;>rfl
 .rfl
theorem a0k {t:Nat}{x:Operand}:fV P ds (⟨d,.load t x,ty,pos,af,none⟩::rest) K f H lg=match zi.st with
  |.strip=>jD (match qV (ti P t) H (ev f x) with|some r=>some ⟨r.c,wG r.v,r.fz,r.hs,r.rd⟩|none=>none) d (fV P ds rest K) f H lg
  |.both=>jD (match qV (ti P t) H (ev f x) with|some r=>some ⟨r.c,wG r.v,r.fz,r.hs,r.rd⟩|none=>none) d (fV P ds rest K) f H lg
  |.no=>jD (qV (ti P t) H (ev f x)) d (fV P ds rest K) f H lg
  |.al g=>jD (EP g (ti P t) H (ev f x)) d (fV P ds rest K) f H lg:=by
 simp only[fV,MN,mg,a2j];cases zi.st<;>cases d<;>rfl
theorem V4 {t:Nat}{x y:Operand}:fV P ds (⟨d,.store t x y,ty,pos,af,none⟩::rest) K f H lg=jD (uq (ti P t) H (ev f x) (ev f y)) d (fV P ds rest K) f H lg:=by cases d<;>rfl
theorem Jd {x:Operand}:fV P ds (⟨d,.nilCheck x,ty,pos,af,none⟩::rest) K f H lg=jD (a5n H (ev f x)) d (fV P ds rest K) f H lg:=by cases d<;>rfl
theorem Vb {op:BinOp}{t yt:Nat}{x y:Operand}:fV P ds (⟨d,.binOp op t x y yt,ty,pos,af,none⟩::rest) K f H lg=jD (b1H (ti P t) op (ev f x) (ev f y)) d (fV P ds rest K) f H lg:=by cases d<;>rfl
theorem a0h {op:UnOp}{t:Nat}{x:Operand}:fV P ds (⟨d,.unOp op t x,ty,pos,af,none⟩::rest) K f H lg=jD (aUn op (ev f x)) d (fV P ds rest K) f H lg:=by cases d<;>rfl
theorem MQ {s t:Nat}{x:Operand}:fV P ds (⟨d,.convert s t x,ty,pos,af,none⟩::rest) K f H lg=jD (ZM (ti P t) (ti P s) (ev f x)) d (fV P ds rest K) f H lg:=by cases d<;>rfl
theorem Es {t d:Nat}{x y:Operand}:fV P ds (⟨some d,.makeSlice t x y,ty,pos,af,none⟩::rest) K f H lg=jD (match (ti P t).desc with | .sl e=>LP (ti P e) H e d (ev f x) (ev f y)|_=>none) (some d) (fV P ds rest K) f H lg:=by
 simp only[fV,MN,mg];unfold jD;cases (ti P t).desc<;>rfl
theorem V5 {t:Nat}{x:Operand}{lo hi:Option Operand}:fV P ds (⟨d,.slice t x lo hi none,ty,pos,af,none⟩::rest) K f H lg=jD (match (ti P t).desc with | .sl e=>(match (match d with|some d=>Zi.bs d|none=>false) with|true=>y8 (ti P e).size (ti P e).ok H (ev f x) (lo.map (ev f)) (hi.map (ev f))|false=>Aa (ti P e).size (ti P e).ok H (Ve (ev f x)) (lo.map (ev f)) (hi.map (ev f)))|_=>none) d (fV P ds rest K) f H lg:=by cases d<;>rfl
theorem Eu {s i:Nat}{x:Operand}:fV P ds (⟨d,.fieldAddr s x i,ty,pos,af,none⟩::rest) K f H lg=jD (jJ (ti P s) i H (ev f x)) d (fV P ds rest K) f H lg:=by cases d<;>rfl
theorem Et {t:Nat}{x i:Operand}:fV P ds (⟨d,.indexAddr t x i,ty,pos,af,none⟩::rest) K f H lg=jD (match (ti P t).desc with | .sl e=>Ac (ti P e).size (ti P e).ok H (Ve (ev f x)) (ev f i) | .arr n e=>uw n (ti P e).size (ti P e).ok H (ev f x) (ev f i)|_=>none) d (fV P ds rest K) f H lg:=by cases d<;>rfl
theorem V6 {t:Nat}{x i:Operand}:fV P ds (⟨d,.index t x i,ty,pos,af,none⟩::rest) K f H lg=jD (DN P t (ev f x) (ev f i)) d (fV P ds rest K) f H lg:=by cases d<;>rfl
theorem MP {x:Operand}{i:Nat}:fV P ds (⟨d,.extract x i,ty,pos,af,none⟩::rest) K f H lg=jD (yc i (ev f x)) d (fV P ds rest K) f H lg:=by cases d<;>rfl
theorem V8 {s i:Nat}{x:Operand}:fV P ds (⟨d,.field s x i,ty,pos,af,none⟩::rest) K f H lg=jD (y9 (b2e P s i) (ev f x)) d (fV P ds rest K) f H lg:=by cases d<;>rfl
theorem UG {o sz:Nat}{cells:List IV}:y9 (some (o,sz,true)) (.agg cells)=some ⟨o+sz<=cells.length,.agg ((cells.drop o).take sz),[],[],[]⟩:=rfl
theorem UF {o sz:Nat}{cells:List IV}:y9 (some (o,sz,false)) (.agg cells)=some ⟨o<cells.length,.iv (cells.getD o default),[],[],[]⟩:=rfl
theorem MR {b:Builtin}{xs:List Operand}{ts:List Nat}:fV P ds (⟨d,.call ⟨.builtin b,xs.toArray,ts.toArray⟩,ty,pos,af,none⟩::rest) K f H lg=jD (qW P b H d (xs.map (ev f)) ts) d (fV P ds rest K) f H lg:=by cases d<;>rfl
theorem a0l {g d:Nat}{xs:List Operand}{ts:Array Nat}:fV P ds (⟨some d,.call ⟨.value (.func g),xs.toArray,ts⟩,ty,pos,af,none⟩::rest) K f H lg=jY P g (xs.map (ev f)) d (fV P ds rest K) f H lg:=by
 show yD P (ev f (.func g)) (xs.map (ev f)) d (fV P ds rest K) f H lg=_;simp only[ev,yD,List.append_nil]
theorem V9 {t d:Nat}{xs:List Operand}{ts:Array Nat}:fV P ds (⟨some d,.call ⟨.value (.tmp t),xs.toArray,ts⟩,ty,pos,af,none⟩::rest) K f H lg=yD P (f t) (xs.map (ev f)) d (fV P ds rest K) f H lg:=rfl
theorem a0q {g d:Nat}{l xs:List AV}{K:Fr->Hp->Log->Prop}:yD P (.fn g l) xs d K f H lg=jY P g (xs++l) d K f H lg:=rfl
theorem Je {g:Nat}{xs:List Operand}:fV P ds (⟨d,.makeFunc (.func g) (List.toArray []) xs.toArray,ty,pos,af,none⟩::rest) K f H lg=fV P ds rest K (iY f d (.fn g (xs.map (ev f)))) H (([],[])::lg):=by
 cases d<;>simp[fV,MN,mg,dA,aQ]
theorem a7O (f:Fr)(g:Nat):ev f (.func g)=.fn g []:=rfl
def Ae (v:Option AV)(want:Bool)(yes no:Prop):Prop :=
 match v with
 |some (.iv (.bool b))=>if b=want then yes else no
 |some .undef=>no
 |_=>False
theorem V7 {op:Op}{j:Nat}{want:Bool}:fV P ds (⟨d,op,ty,pos,af,some (j,want)⟩::rest) K f H lg=Ae ((ds.getD j none).map f) want (fV P ds (⟨d,op,ty,pos,af,none⟩::rest) K f H lg) (fV P ds rest K (iY f d .undef) H (([],[])::lg)):=rfl
theorem a0m {yes no:Prop}:Ae (some (.iv (.bool true))) true yes no=yes:=rfl
theorem a0p {yes no:Prop}:Ae (some (.iv (.bool false))) false yes no=yes:=rfl
theorem a0n {yes no:Prop}:Ae (some (.iv (.bool true))) false yes no=no:=rfl
theorem a0o {yes no:Prop}:Ae (some (.iv (.bool false))) true yes no=no:=rfl
theorem MS {want:Bool}{yes no:Prop}:Ae (some .undef) want yes no=no:=rfl
theorem UZ {v:AV}{fz:List Nat}{hs:List (Nat×HC)}{rd:List Nat}:jD (some ⟨True,v,fz,hs,rd⟩) d K f H lg=K (iY f d v) (dA hs (aQ fz H)) ((rd++fz++hs.map (·.1),fz++hs.map (·.1))::lg):=by simp[jD]
theorem a3T {c:Prop}{v:AV}{fz:List Nat}{hs:List (Nat×HC)}{rd:List Nat}(hc:c):jD (some ⟨c,v,fz,hs,rd⟩) d K f H lg=K (iY f d v) (dA hs (aQ fz H)) ((rd++fz++hs.map (·.1),fz++hs.map (·.1))::lg):=by simp[jD,hc]
end
theorem au {P:Program}{g:Nat}{avs:List AV}{d:Nat}{K:Fr->Hp->Log->Prop}{f:Fr}{H:Hp}{lg:Log}{c:Prop}{args:List CV}{ms:List Nat}{own:iy}{res:List CV}
  (hac:AC P g args own res) (ht:aH H avs=some (c,args,ms)) (hc:c)
  (hk:K (upd f d (l7 (rAV (aQ ms H) d own 0 res))) (dA (DY (aQ ms H) d own) (aQ ms H)) ((ms++(DY (aQ ms H) d own).map (·.1),ms++(DY (aQ ms H) d own).map (·.1))::lg)):jY P g avs d K f H lg :=
 .inl ⟨c,args,ms,own,res,true,.inl ht,hc,hac,by simp,hk⟩
theorem Ls {P:Program}{g:Nat}{avs:List AV}{d:Nat}{K:Fr->Hp->Log->Prop}{f:Fr}{H:Hp}{lg:Log}{c:Prop}{args:List CV}{ms:List Nat}{own:iy}{res:List CV}
  (hac:AC P g args own res) (ht:aH H avs=some (c,args,ms)) (hc:c) (hf:ms=[]\/wo own res)
  (hk:K (upd f d (l7 (rAV H d own 0 res))) (dA (DY H d own) H) ((ms++(DY H d own).map (·.1),(DY H d own).map (·.1))::lg)):jY P g avs d K f H lg :=
 .inl ⟨c,args,ms,own,res,false,.inl ht,hc,hac,λ_=>hf,hk⟩
theorem a3j {P:Program}{g:Nat}{avs:List AV}{d:Nat}{K:Fr->Hp->Log->Prop}{f:Fr}{H:Hp}{lg:Log}{c:Prop}{args:List CV}{ms:List Nat}{own:iy}{res:List CV}
  (hac:AC P g args own res) (ht:su H avs=some (c,args,ms)) (hc:c)
  (hk:K (upd f d (l7 (rAV (aQ ms H) d own 0 res))) (dA (DY (aQ ms H) d own) (aQ ms H)) ((ms++(DY (aQ ms H) d own).map (·.1),ms++(DY (aQ ms H) d own).map (·.1))::lg)):jY P g avs d K f H lg :=
 .inl ⟨c,args,ms,own,res,true,.inr ht,hc,hac,by simp,hk⟩
theorem Sl {P:Program}{g:Nat}{avs:List AV}{d:Nat}{K:Fr->Hp->Log->Prop}{f:Fr}{H:Hp}{lg:Log}{c:Prop}{args:List CV}{ms:List Nat}{B:Nat}{R:Nat->Nat->List CV->Prop}
  (hac:ACX P g args R) (ht:aH H avs=some (c,args,ms)) (hc:c) (hB:H 999=.mrk B)
  (hk:∀B' E res,B<=B'->B'<=E->R B' E res->K (upd f d (l7 (res.map CV.av))) (dF (aQ ms H) 999 (.mrk E)) ((999::ms,ms++[999])::lg)):jY P g avs d K f H lg :=
 .inr (.inr (.inr (.inl ⟨c,args,ms,B,R,ht,hc,hB,hac,hk⟩)))
theorem IQ {P:Program}{g:Nat}{avs:List AV}{d:Nat}{K:Fr->Hp->Log->Prop}{f:Fr}{H:Hp}{lg:Log}{Z:AV->Hp->Prop}(hac:ACI P g avs H Z)(hk:∀x H',Z x H'->K (upd f d x) H' (([],[998])::lg)):jY P g avs d K f H lg :=
 .inr (.inr (.inr (.inr (.inl ⟨Z,hac,hk⟩))))
theorem a3i {P:Program}{g:Nat}{avs:List AV}{d:Nat}{K:Fr->Hp->Log->Prop}{f:Fr}{H:Hp}{lg:Log}{rd:List Nat}{R:AV->List (Nat×HC)->Prop}(hac:ACF P g avs H rd R)
  (hk:∀x hs,R x hs->(∀k∈hs.map (·.1),k∈rd)/\999∈hs.map (·.1)/\K (upd f d x) (dA hs H) ((rd,hs.map (·.1))::lg)):jY P g avs d K f H lg :=
 .inr (.inr (.inr (.inr (.inr ⟨rd,R,hac,hk⟩))))
theorem a7b {P:Program}{c:Code}{Q:Post}{f:Fr}{H:Hp}(I:Fr->Hp->Prop)(μ:Fr->Hp->Nat)(h0:I f H)(hr:∀f H,I f H->AW P c (DW I μ (μ f H) Q) f H):AW P (.loop c) Q f H :=
 ⟨I,μ,⟨f,H,.refl f H,h0⟩,hr⟩
theorem a2i {P:Program}{c:Code}{Q:Post}{f:Fr}{H:Hp}(t h e sz:Nat)(ht:f t=.oG)(I:Fr->Hp->Prop)(μ:Fr->Hp->Nat)(h0:I (nH f H t h) (nG H h e sz))(hr:∀f H,I f H->AW P c (DW I μ (μ f H) Q) f H):AW P (.loop c) Q f H :=
 ⟨I,μ,⟨_,_,.nil t h e sz ht (.refl _ _),h0⟩,hr⟩
theorem a7Z (k:IntKind)(n:Int):a0t (.int k n)=.iv (.int k n):=rfl
theorem a2T (b:Bool):a0t (.bool b)=.iv (.bool b):=rfl
theorem a7Y:a0t (.slice none 0 0)=.oG:=rfl
theorem b0Y (f:Fr)(t:Nat):ev f (.tmp t)=f t:=rfl
theorem a2P (f:Fr)(v:Value):ev f (.const v)=a0t v:=rfl
theorem a9C (f:Fr)(t:Nat)(v:AV)(u:Nat):upd f t v u=if u=t then v else f u:=rfl
theorem aA (H:Hp)(h:Nat)(c:HC)(u:Nat):dF H h c u=if u=h then c else H u:=rfl
theorem VD (f:Fr)(t:Nat)(v:AV):iY f (some t) v=upd f t v:=rfl
theorem VE (f:Fr)(v:AV):iY f none v=f:=rfl
theorem a2w (args:List CV)(t:Nat):kU args t=((args.map CV.av)[t]?).getD .undef:=rfl
theorem a2v (h:Nat):xJ h=.none:=rfl
def a3B [Zi] (P:Program)(y:Code)(Q:Post):Post:=E5 (AW P y Q) Q
def yC [Zi] (P:Program)(v:AV)(x y:Code)(Q:Post)(f:Fr)(H:Hp):Prop:=a9a v (AW P x Q f H) (AW P y Q f H)
def Am [Zi] (P:Program)(c:Code)(Q:Post)(f:Fr)(H:Hp):Prop:=AW P (.loop c) Q f H
def MO [Zi] (P:Program)(g:Operand)(ps:List Nat)(x y:Code)(Q:Post)(f:Fr)(H:Hp):Prop:=AW P (.rangeFunc g ps.toArray x y) Q f H
def b2m [Zi] (P:Program)(y:Code)(I:Nat->Hp->Prop)(J:Code->Hp->Prop)(k:Nat):Post:=b3u λf H=>AW P y (vw I J k) f H
def a8I [Zi] (P:Program)(rs:List ResultVar)(own:iy)(res:List CV):Post:=b3n P rs own res
def a3G [Zi] (P:Program)(rs:List ResultVar)(i e sz:Nat)(rows':List (List IV))(res:List CV):Post:=b3l P rs i e sz rows' res
def a3H (rs:List ResultVar)(i e sz:Nat)(rows':List (List IV)):Post:=b3m rs i e sz rows'
def UO [Zi] (P:Program)(rs:List ResultVar)(B:Nat)(R:Nat->Nat->List CV->Prop):Post:=b1K P rs B R
def ZW [Zi] (P:Program)(rs:List ResultVar)(Z:AV->Hp->Prop):Post:=a8D P rs Z
def V3 [Zi] (P:Program)(rs:List ResultVar)(Z:AV->Hp->Prop)(f:Fr)(H:Hp):Prop:=∃c x,TL P f H rs=some (c,x)/\c/\Z x H
def a3W [Zi] (P:Program)(rs:List ResultVar)(B:Nat)(R:Nat->Nat->List CV->Prop)(f:Fr)(H:Hp):Prop:=Opn B (a3C P rs B R) f H
def Me (ops:Array Oper):Prop:=Ez ops=true
def a3I (ops:Array Oper)(lg:Log):Prop:=I5 ops lg.reverse=true
section
variable {P:Program} {Q:Post} {K:Fr->Hp->Log->Prop} {f f':Fr} {H H':Hp} {lg:Log}
theorem a8S:AW P .skip Q f H=Q .normal f H:=by rw[AW]
theorem a0g {id:Nat}{l:List Oper}:AW P (.region id l.toArray false) Q f H=fV P (l.map (·.dst)) l (MI Q) f H []:=by rw[AW];rfl
theorem a3R {id:Nat}{l:List Oper}:AW P (.region id l.toArray true) Q f H=((Me l.toArray/\fV P (l.map (·.dst)) l (a8K l.toArray Q) f H [])\/∃ord inv,Ku l ord inv=true/\Me (lQ l ord inv).toArray/\fV P ((lQ l ord inv).map (·.dst)) (lQ l ord inv) (a8K (lQ l ord inv).toArray Q) f H []):=by rw[AW];rfl
theorem b1P {x y:Code}:AW P (.seq x y) Q f H=AW P x (a3B P y Q) f H:=by rw[AW];rfl
theorem a8V {c:Operand}{x y:Code}:AW P (.cond c x y) Q f H=yC P (ev f c) x y Q f H:=by rw[AW];rfl
theorem a3S {id:Nat}{c:Code}:AW P (.block id c) Q f H=AW P c (kY id Q) f H:=by rw[AW]
theorem a8T {c:Code}:AW P (.loop c) Q f H=Am P c Q f H:=rfl
theorem a8U {id:Nat}:AW P (.exit id) Q f H=Q (.exit id) f H:=by rw[AW]
theorem a3O {c:Code}:AW P (.scope c) Q f H=AW P c (DU Q) f H:=by rw[AW]
theorem a3Q {l:Nat}:AW P (.label l) Q f H=Q .normal f H:=by rw[AW]
theorem a3P {g:Operand}{ps:List Nat}{x y:Code}:AW P (.rangeFunc g ps.toArray x y) Q f H=MO P g ps x y Q f H:=rfl
theorem PD {y:Code}{I:Nat->Hp->Prop}{J:Code->Hp->Prop}{k:Nat}:b2m P y I J k .normal f H=AW P y (vw I J k) f H:=rfl
theorem J8 {I:Nat->Hp->Prop}{J:Code->Hp->Prop}{k:Nat}:vw I J k .normal f H=I (k+1) H:=rfl
theorem UN {I:Nat->Hp->Prop}{J:Code->Hp->Prop}{k:Nat}:vw I J k .ret f H=J .ret H:=rfl
theorem Pn {I:Nat->Hp->Prop}{J:Code->Hp->Prop}{k i:Nat}:vw I J k (.exit i) f H=J (.exit i) H:=rfl
theorem b1Q:AW P .ret Q f H=Q .ret f H:=by rw[AW]
theorem Pj {y:Code}:a3B P y Q .normal f H=AW P y Q f H:=rfl
theorem ZO {y:Code}{i:Nat}:a3B P y Q (.exit i) f H=Q (.exit i) f H:=rfl
theorem a3A {y:Code}:a3B P y Q .ret f H=Q .ret f H:=rfl
theorem Jc {i:Nat}:kY i Q .normal f H=Q .normal f H:=rfl
theorem Pz {i j:Nat}:kY i Q (.exit j) f H=if j=i then Q .normal f H else Q (.exit j) f H:=rfl
theorem UY {i:Nat}:kY i Q .ret f H=Q .ret f H:=rfl
theorem J7:DU Q .normal f H=Q .normal f H:=rfl
theorem Pm {i:Nat}:DU Q (.exit i) f H=Q (.exit i) f H:=rfl
theorem UM:DU Q .ret f H=Q .ret f H:=rfl
theorem MJ {I:Fr->Hp->Prop}{μ:Fr->Hp->Nat}{n:Nat}:DW I μ n Q .normal f H=(I f H/\μ f H<n):=rfl
theorem UR {I:Fr->Hp->Prop}{μ:Fr->Hp->Nat}{n i:Nat}:DW I μ n Q (.exit i) f H=Q (.exit i) f H:=rfl
theorem ZY {I:Fr->Hp->Prop}{μ:Fr->Hp->Nat}{n:Nat}:DW I μ n Q .ret f H=Q .ret f H:=rfl
theorem ZX:MI Q f H lg=Q .normal f H:=rfl
theorem a8J {ops:Array Oper}:a8K ops Q f H lg=(a3I ops lg/\Q .normal f H):=rfl
theorem a3F {rs:List ResultVar}{own:iy}{res:List CV}:a8I P rs own res .ret f H=(JO P f H own 0 rs res/\(match own with|none=>True|some (i,_)=>i<res.length)):=rfl
theorem Po {rs:List ResultVar}{own:iy}{res:List CV}:a8I P rs own res .normal f H=(JO P f H own 0 rs res/\(match own with|none=>True|some (i,_)=>i<res.length)):=rfl
theorem ZT {rs:List ResultVar}{i e sz:Nat}{rows':List (List IV)}{res:List CV}:a3G P rs i e sz rows' res .ret f H=(Nv P f H rs res/\H i=.blk false 1 e sz rows'):=rfl
theorem MC {rs:List ResultVar}{i e sz:Nat}{rows':List (List IV)}{res:List CV}:a3G P rs i e sz rows' res .normal f H=(Nv P f H rs res/\H i=.blk false 1 e sz rows'):=rfl
theorem ZU {t:Nat}{i e sz:Nat}{rows':List (List IV)}:a3H [.tmp t] i e sz rows' .ret f H=ZP (f t) (H i) i e sz rows':=rfl
theorem MF {t:Nat}{i e sz:Nat}{rows':List (List IV)}:a3H [.tmp t] i e sz rows' .normal f H=ZP (f t) (H i) i e sz rows':=rfl
theorem a3D {h st off len st' e' sz' i e sz:Nat}{rows rows':List (List IV)}:ZP (.hv h st off len) (.blk false st' e' sz' rows) i e sz rows'=(h=i/\st=1/\st'=1/\off=0/\e'=e/\sz'=sz/\len<=rows.length/\rows'=rows.take len):=rfl
theorem a3E {h st st' e' sz' i e sz:Nat}{rows rows':List (List IV)}:ZP (.hs h st) (.blk false st' e' sz' rows) i e sz rows'=(h=i/\st=1/\st'=1/\e'=e/\sz'=sz/\rows'=rows):=rfl
@[congr] theorem a8G {rs:List ResultVar} {i e sz:Nat} {rows':List (List IV)} {x:Exit}:a3H rs i e sz rows' x f H=a3H rs i e sz rows' x f H:=rfl
@[congr] theorem a8F {rs:List ResultVar} {i e sz:Nat} {rows':List (List IV)} {res:List CV} {x:Exit}:a3G P rs i e sz rows' res x f H=a3G P rs i e sz rows' res x f H:=rfl
theorem ZR {rs:List ResultVar}{B:Nat}{R:Nat->Nat->List CV->Prop}:UO P rs B R .ret f H=a3W P rs B R f H:=rfl
theorem MB {rs:List ResultVar}{B:Nat}{R:Nat->Nat->List CV->Prop}:UO P rs B R .normal f H=a3W P rs B R f H:=rfl
@[congr] theorem a8E {rs:List ResultVar} {B:Nat} {R:Nat->Nat->List CV->Prop} {e:Exit}:UO P rs B R e f H=UO P rs B R e f H:=rfl
@[congr] theorem a9s {rs:List ResultVar} {B:Nat} {R:Nat->Nat->List CV->Prop} (hf:f=f') (hH:H=H'):a3W P rs B R f H=a3W P rs B R f' H':=by rw[hf,hH]
theorem ZV {rs:List ResultVar}{Z:AV->Hp->Prop}:ZW P rs Z .ret f H=V3 P rs Z f H:=rfl
theorem MG {rs:List ResultVar}{Z:AV->Hp->Prop}:ZW P rs Z .normal f H=V3 P rs Z f H:=rfl
@[congr] theorem a8H {rs:List ResultVar} {Z:AV->Hp->Prop} {e:Exit}:ZW P rs Z e f H=ZW P rs Z e f H:=rfl
@[congr] theorem a8X {rs:List ResultVar} {Z:AV->Hp->Prop} (hf:f=f') (hH:H=H'):V3 P rs Z f H=V3 P rs Z f' H':=by rw[hf,hH]
theorem C9 {Z:AV->Hp->Prop}(h:Z .dead H):V3 P [] Z f H:=⟨True,.dead,rfl,trivial,h⟩
theorem a1f {Z:AV->Hp->Prop}{t:Nat}{x:AV}(ht:f t=x)(h:Z x H):V3 P [.tmp t] Z f H:=⟨True,x,by simp only[TL,ht],trivial,h⟩
theorem uJ {rs:List ResultVar}{B0 B:Nat}{R:Nat->Nat->List CV->Prop}(cs:List CV)(hB:H 999=.mrk B)(hr:JO P f H none 0 rs cs)(h:∀E,B<=E->R B0 E cs):a3W P rs B0 R f H:=.done ⟨B,cs,hB,hr,h⟩
theorem a1F {rs:List ResultVar}{B0:Nat}{R:Nat->Nat->List CV->Prop}(t e sz:Nat)(ht:f t=.oG)(h:a3W P rs B0 R (upd f t (.iv (.own none e sz []))) H):a3W P rs B0 R f H:=.oG t e sz ht h
theorem b0s {rs:List ResultVar}{B0 B:Nat}{R:Nat->Nat->List CV->Prop}(t h st e sz:Nat)(rows:List (List IV))(ht:f t=.hs h st)(hH:H h=.blk false st e sz rows)(hB:H 999=.mrk B)
  (k:∀b E,B<=E->SN B0 E f H rows b->a3W P rs B0 R (upd f t (.iv (.own b e sz rows))) (dF (dF H h (.blk true st e sz rows)) 999 (.mrk E))):a3W P rs B0 R f H:=.opn t h st e sz rows B ht hH hB k
@[congr] theorem b2n {c:Code} (hf:f=f') (hH:H=H'):AW P c Q f H=AW P c Q f' H':=by rw[hf,hH]
@[congr] theorem a9r {ds ds':List (Option Nat)} {ops:List Oper} (hd:ds=ds') (hf:f=f') (hH:H=H'):fV P ds ops K f H lg=fV P ds' ops K f' H' lg:=by rw[hd,hf,hH]
@[congr] theorem a8W {r r':Option AR} {d:Option Nat} (hr:r=r'):jD r d K f H lg=jD r' d K f H lg:=by rw[hr]
@[congr] theorem a5B {g d:Nat} {xs xs':List AV} (hx:xs=xs') (hf:f=f') (hH:H=H'):jY P g xs d K f H lg=jY P g xs' d K f' H' lg:=by rw[hx,hf,hH]
@[congr] theorem a5y {v v':Option AV} {want:Bool} {yes no:Prop} (h:v=v'):Ae v want yes no=Ae v' want yes no:=by rw[h]
@[congr] theorem a8Z {v v':AV} {x y:Code} (h:v=v') (hf:f=f') (hH:H=H'):yC P v x y Q f H=yC P v' x y Q f' H':=by rw[h,hf,hH]
@[congr] theorem a8Y {c:Code} (hf:f=f') (hH:H=H'):Am P c Q f H=Am P c Q f' H':=by rw[hf,hH]
@[congr] theorem a5x {g:Operand} {ps:List Nat} {x y:Code} (hf:f=f') (hH:H=H'):MO P g ps x y Q f H=MO P g ps x y Q f' H':=by rw[hf,hH]
@[congr] theorem a9q {y:Code} {I:Nat->Hp->Prop} {J:Code->Hp->Prop} {k:Nat} {e:Exit}:b2m P y I J k e f H=b2m P y I J k e f H:=rfl
@[congr] theorem a5q {I:Nat->Hp->Prop} {J:Code->Hp->Prop} {k:Nat} {e:Exit}:vw I J k e f H=vw I J k e f H:=rfl
@[congr] theorem a5A {v v':AV} {d:Nat} {xs xs':List AV} (hv:v=v') (hx:xs=xs') (hf:f=f') (hH:H=H'):yD P v xs d K f H lg=yD P v' xs' d K f' H' lg:=by rw[hv,hx,hf,hH]
@[congr] theorem a9m {y:Code} {e:Exit}:a3B P y Q e f H=a3B P y Q e f H:=rfl
@[congr] theorem a5w {i:Nat} {e:Exit}:kY i Q e f H=kY i Q e f H:=rfl
@[congr] theorem a5p {e:Exit}:DU Q e f H=DU Q e f H:=rfl
@[congr] theorem a8M {I:Fr->Hp->Prop} {μ:Fr->Hp->Nat} {n:Nat} {e:Exit}:DW I μ n Q e f H=DW I μ n Q e f H:=rfl
@[congr] theorem a5r:MI Q f H lg=MI Q f H lg:=rfl
@[congr] theorem a9o {ops:Array Oper}:a8K ops Q f H lg=a8K ops Q f H lg:=rfl
@[congr] theorem a8N {ops:Array Oper}:a3I ops lg=a3I ops lg:=rfl
@[congr] theorem a5o {ops:Array Oper}:Me ops=Me ops:=rfl
@[congr] theorem a9n {rs:List ResultVar} {own:iy} {res:List CV} {e:Exit}:a8I P rs own res e f H=a8I P rs own res e f H:=rfl
theorem jY.mono {g d:Nat}{xs:List AV}{K K':Fr->Hp->Log->Prop}(hK:∀f H lg,K f H lg->K' f H lg)(h:jY P g xs d K f H lg):jY P g xs d K' f H lg:=by
 rcases h with ⟨c,args,ms,own,res,fz,h1,h2,h3,h4,h5⟩|⟨c,args,ms,i,h,st,e,sz,rows,rows',res,h1,h2,h3,h4,h5,h6,h7⟩|⟨c,args,ms,i,h,st,e,sz,rows,rows',h1,h2,h3,h4,h5,h6,h7⟩|⟨c,args,ms,B,R,h1,h2,h3,h4,h5⟩|⟨Z,h1,h2⟩|⟨rd,R,h1,h2⟩
 .exact .inl ⟨c,args,ms,own,res,fz,h1,h2,h3,h4,hK _ _ _ h5⟩
 .exact .inr (.inl ⟨c,args,ms,i,h,st,e,sz,rows,rows',res,h1,h2,h3,h4,h5,h6,hK _ _ _ h7⟩)
 .exact .inr (.inr (.inl ⟨c,args,ms,i,h,st,e,sz,rows,rows',h1,h2,h3,h4,h5,h6,hK _ _ _ h7⟩))
 .exact .inr (.inr (.inr (.inl ⟨c,args,ms,B,R,h1,h2,h3,h4,λB' E res q1 q2 q3=>hK _ _ _ (h5 B' E res q1 q2 q3)⟩)))
 .exact .inr (.inr (.inr (.inr (.inl ⟨Z,h1,λx H' hz=>hK _ _ _ (h2 x H' hz)⟩))))
 .exact .inr (.inr (.inr (.inr (.inr ⟨rd,R,h1,λx hs hz=>⟨(h2 x hs hz).1,(h2 x hs hz).2.1,hK _ _ _ (h2 x hs hz).2.2⟩⟩))))
theorem MN.mono {o:Oper}{K K':Fr->Hp->Log->Prop}(hK:∀f H lg,K f H lg->K' f H lg)(h:MN P o K f H lg):MN P o K' f H lg:=by
 unfold MN at h ⊢;split at h
 .unfold yD at h ⊢;split at h
  .exact jY.mono hK h
  .exact h.elim
 .split at h
  .obtain⟨e,c,css,fz,B,h1,h2,h3,h4,h5⟩:=h;exact⟨e,c,css,fz,B,h1,h2,h3,h4,λB' E b a1 a2 a3 a4=>hK _ _ _ (h5 B' E b a1 a2 a3 a4)⟩
  .split at h
   .exact⟨h.1,hK _ _ _ h.2⟩
   .exact h.elim
 .split at h
  .exact⟨h.1,hK _ _ _ h.2⟩
  .exact h.elim
theorem fV.mono {ds:List (Option Nat)}{K K':Fr->Hp->Log->Prop}(hK:∀f H lg,K f H lg->K' f H lg):∀(ops:List Oper) (f:Fr) (H:Hp) (lg:Log),fV P ds ops K f H lg->fV P ds ops K' f H lg
 |[],_,_,_,h=>hK _ _ _ h
 |o::rest,f,H,lg,h=>by
  unfold fV at h ⊢;split at h
  .exact MN.mono (fV.mono hK rest) h
  .split at h
   .split at h
    .rename_i h' ;rw[if_pos h'];exact MN.mono (fV.mono hK rest) h
    .rename_i h' ;rw[if_neg h'];exact fV.mono hK rest _ _ _ h
   .exact fV.mono hK rest _ _ _ h
   .exact h.elim
theorem AW.mono:∀(c:Code) {Q Q':Post} {f:Fr} {H:Hp},(∀e f H,Q e f H->Q' e f H)->AW P c Q f H->AW P c Q' f H
 |.skip,_,_,_,_,hq,h=>hq _ _ _ h
 |.region _ ops false,_,_,_,_,hq,h=>fV.mono (λ_ _ _ h=>hq _ _ _ h) _ _ _ _ h
 |.region _ ops true,_,_,_,_,hq,h=>h.imp (λh=>⟨h.1,fV.mono (λ_ _ _ h=>⟨h.1,hq _ _ _ h.2⟩) _ _ _ _ h.2⟩) λ⟨ord,inv,h0,h1,h2⟩=>⟨ord,inv,h0,h1,fV.mono (λ_ _ _ h=>⟨h.1,hq _ _ _ h.2⟩) _ _ _ _ h2⟩
 |.seq x y,_,_,_,_,hq,h=>by
  unfold AW at h ⊢;refine AW.mono x (λe f H h=>?_) h;cases e<;>first|exact AW.mono y hq h|exact hq _ _ _ h
 |.cond c x y,_,_,_,_,hq,h=>by
  unfold AW a9a at h ⊢;split at h
  .exact⟨λe=>AW.mono x hq (h.1 e),λe=>AW.mono y hq (h.2 e)⟩
  .exact⟨AW.mono x hq h.1,AW.mono y hq h.2⟩
  .exact h.elim
 |.block id c,_,_,_,_,hq,h=>by
  unfold AW at h ⊢;refine AW.mono c (λe f H h=>?_) h;cases e<;>simp only[kY]at h ⊢<;>first|exact hq _ _ _ h|skip
  split at h
  .rename_i e;rw[if_pos e];exact hq _ _ _ h
  .rename_i e;rw[if_neg e];exact hq _ _ _ h
 |.loop c,_,_,_,_,hq,h=>by
  unfold AW at h ⊢;obtain⟨I,μ,h0,hr⟩:=h;refine⟨I,μ,h0,λf H hI=>AW.mono c (λe f H h=>?_) (hr f H hI)⟩;cases e<;>first|exact h|exact hq _ _ _ h
 |.exit _,_,_,_,_,hq,h=>hq _ _ _ h
 |.scope c,_,_,_,_,hq,h=>by
  unfold AW at h ⊢;refine AW.mono c (λe f H h=>?_) h;cases e<;>first|exact hq _ _ _ h|exact h
 |.label _,_,_,_,_,hq,h=>hq _ _ _ h
 |.ret,_,_,_,_,hq,h=>hq _ _ _ h
 |.goto _,_,_,_,_,_,h=>by unfold AW at h;exact h.elim
 |.rangeFunc g ps x y,_,_,_,_,hq,h=>by
  unfold AW at h ⊢;obtain⟨f1,H1,gf,l,c,caps,ms,n,it,I,J,hwk,hg,ht,hc,hit,h0,hr,hd,h1,h2⟩:=h;exact⟨f1,H1,gf,l,c,caps,ms,n,it,I,J,hwk,hg,ht,hc,hit,h0,hr,λH hI=>hq _ _ _ (hd H hI),λH hI=>hq _ _ _ (h1 H hI),λi H hI=>hq _ _ _ (h2 i H hI)⟩
theorem Qo {g:Operand}{ps:List Nat}{x y:Code}{gf:Nat}{l:List AV}{c:Prop}{caps:List (List IV)}{ms:List Nat}{n:Nat}{it:Nat->List CV}(hit:a3X P gf caps ps.length n it)(I:Nat->Hp->Prop)
  (hg:ev f g=.fn gf l) (ht:aB H l=some (c,caps,ms)) (hc:c) (h0:I 0 (aQ ms H))
  (hr:∀k H2,k<n->I k H2->AW P x (b2m P y I (λ_ _=>False) k) (lays f ps ((it k).map CV.av)) H2) (hd:∀H2,I n H2->Q .normal f H2):MO P g ps x y Q f H:=by
 unfold MO AW;exact⟨f,H,gf,l,c,caps,ms,n,it,I,λ_ _=>False,.refl _ _,hg,ht,hc,hit,h0,hr,hd,λ_ h=>h.elim,λ_ _ h=>h.elim⟩
theorem cut {x y:Code}(J:Fr->Hp->Prop)(h1:AW P x (E5 J Q) f H)(h2:∀f H,J f H->AW P y Q f H):AW P x (a3B P y Q) f H :=
 AW.mono x (λe f H h=>by cases e<;>first|exact h2 _ _ h|exact h) h1
theorem zN {v:AV}{x x' y:Code}(J:Fr->Hp->Prop)(h1:yC P v x x' (E5 J Q) f H)(h2:∀f H,J f H->AW P y Q f H):yC P v x x' (a3B P y Q) f H:=by
 unfold yC a9a at *;split at h1
 .exact⟨λe=>cut J (h1.1 e) h2,λe=>cut J (h1.2 e) h2⟩
 .exact⟨cut J h1.1 h2,cut J h1.2 h2⟩
 .exact h1.elim
theorem vk {i:Nat}{x y:Code}(J:Fr->Hp->Prop)(h1:Am P x (kY i (E5 J Q)) f H)(h2:∀f H,J f H->AW P y Q f H):Am P x (kY i (a3B P y Q)) f H :=
 AW.mono _ (λe f H h=>by
  cases e<;>simp only[kY]at h ⊢<;>first|exact h2 _ _ h|exact h|skip
  split at h
  .rename_i e;rw[if_pos e];exact h2 _ _ h
  .rename_i e;rw[if_neg e];exact h) h1
theorem Ph {J:Fr->Hp->Prop}:E5 J Q .normal f H=J f H:=rfl
theorem ZN {J:Fr->Hp->Prop}{i:Nat}:E5 J Q (.exit i) f H=Q (.exit i) f H:=rfl
theorem a3z {J:Fr->Hp->Prop}:E5 J Q .ret f H=Q .ret f H:=rfl
@[congr] theorem a9l {J:Fr->Hp->Prop} {e:Exit}:E5 J Q e f H=E5 J Q e f H:=rfl
theorem bU {c:Prop}[Decidable c] {x y:Code}(h1:c->AW P x Q f H)(h2:¬c->AW P y Q f H):yC P (.iv (.bool (decide c))) x y Q f H :=
 ⟨λh=>h1 (of_decide_eq_true h),λh=>h2 (of_decide_eq_false h)⟩
theorem a7r {b:Bool}{x y:Code}(h1:b=true->AW P x Q f H)(h2:b=false->AW P y Q f H):yC P (.iv (.bool b)) x y Q f H:=⟨h1,h2⟩
theorem b2O {x y:Code}(h1:AW P x Q f H)(h2:AW P y Q f H):yC P .ub x y Q f H:=⟨h1,h2⟩
theorem a3Y {x y:Code}:yC P (.iv (.bool true)) x y Q f H=AW P x Q f H:=by simp[yC,a9a]
theorem a3Z {x y:Code}:yC P (.iv (.bool false)) x y Q f H=AW P y Q f H:=by simp[yC,a9a]
theorem F6 {g:Nat}{avs:List AV}{d:Nat}(I:Fr->Hp->Prop)(h0:I f H)(h:∀f H,I f H->jY P g avs d K f H lg):jY P g avs d K f H lg:=h f H h0
theorem bF {c:Code}(I:Fr->Hp->Prop)(μ:Fr->Hp->Nat)(h0:I f H)(hr:∀f H,I f H->AW P c (DW I μ (μ f H) Q) f H):Am P c Q f H:=a7b I μ h0 hr
theorem OW {c:Code}{f':Fr}{H':Hp}(k:Weak f H f' H')(I:Fr->Hp->Prop)(μ:Fr->Hp->Nat)(h0:I f' H')(hr:∀f H,I f H->AW P c (DW I μ (μ f H) Q) f H):Am P c Q f H:=by
 unfold Am AW;exact⟨I,μ,⟨f',H',k,h0⟩,hr⟩
theorem uo {c:Code}(t h e sz:Nat)(ht:f t=.oG)(I:Fr->Hp->Prop)(μ:Fr->Hp->Nat)(h0:I (nH f H t h) (nG H h e sz))(hr:∀f H,I f H->AW P c (DW I μ (μ f H) Q) f H):Am P c Q f H:=a2i t h e sz ht I μ h0 hr
end
theorem AC.aF {P : Program} {g : Nat} {args : List CV} {own : iy} {res : List CV} (hm : P.follows .mixedOrders = true) {fn : Func} {body : Code} {rs : List ResultVar} (hf : P.funcs[g]? = some fn) (hb : fn.body = some body) (hr : fn.results.toList = rs) (hn : (fn.name == "runtime.NumGoroutine") = false)
  (hd:codeOk fn.ntmps body=true) (hargs:Nat.ble args.length fn.ntmps=true) (h : @AW zi0 P body (@a8I zi0 P rs own res) (kU args) xJ):AC P g args own res:=by
 subst hr;exact AC.vK hm hf hb hn hd (Nat.le_of_ble_eq_true hargs) h
theorem ACX.aF (zx : Zi) {P : Program} {g : Nat} {args : List CV} {R : Nat → Nat → List CV → Prop} (hm : P.follows .mixedOrders = true) {fn : Func} {body : Code} {rs : List ResultVar} (hf : P.funcs[g]? = some fn) (hb : fn.body = some body) (hr : fn.results.toList = rs) (hn : (fn.name == "runtime.NumGoroutine") = false)
  (hd:codeOk fn.ntmps body=true) (hargs:Nat.ble args.length fn.ntmps=true) (hne:∀B,∃E res,B<=E/\R B E res) (h:∀B,@AW zx P body (@UO zx P rs B R) (kU args) (pF B)):ACX P g args R:=by
 subst hr;exact ACX.vK hm hf hb hn hd (Nat.le_of_ble_eq_true hargs) hne (n:=none) h
theorem ACI.aF (zx : Zi) {P : Program} {g : Nat} {avs : List AV} {H : Hp} {Z : AV → Hp → Prop} (hm : P.follows .mixedOrders = true) {fn : Func} {body : Code} {rs : List ResultVar} (hf : P.funcs[g]? = some fn) (hb : fn.body = some body) (hr : fn.results.toList = rs) (hn : (fn.name == "runtime.NumGoroutine") = false)
  (hd:codeOk fn.ntmps body=true) (hnr:gQ body=true) (hargs:Nat.ble avs.length fn.ntmps=true) (hne:∃x H',Z x H') (h : @AW zx P body (@ZW zx P rs Z) (EX avs) H):ACI P g avs H Z:=by
 subst hr;exact ACI.vK hm hf hb hn hd hnr (Nat.le_of_ble_eq_true hargs) hne h
theorem ACX.a3k (zx : Zi) (n : Nat) {P : Program} {g : Nat} {args : List CV} {R : Nat → Nat → List CV → Prop} (hm : P.follows .mixedOrders = true) {fn : Func} {body : Code} {rs : List ResultVar} (hf : P.funcs[g]? = some fn) (hb : fn.body = some body) (hr : fn.results.toList = rs) (hn : (fn.name == "runtime.NumGoroutine") = false)
  (hd:codeOk fn.ntmps body=true) (hargs:Nat.ble args.length fn.ntmps=true) (hne:∀B,∃E res,B<=E/\R B E res) (h:∀B,@AWo zx P B n body (@UO zx P rs B R) (kU args) (pF B)):ACX P g args R:=by
 subst hr;exact ACX.vK hm hf hb hn hd (Nat.le_of_ble_eq_true hargs) hne (n:=some n) h
theorem a3N {P:Program}{B0 n:Nat}{x y:Code}{Q:Post}{f:Fr}{H:Hp}:AWo P B0 (n+1) (.seq x y) Q f H=AW P x (E5 (AWo P B0 n y Q) Q) f H:=rfl
def dQ (f:Fr)(t:Nat):Int:=match f t with | .iv (.int _ n)=>n|_=>0
theorem bC {f:Fr}{t:Nat}{k:IntKind}{n:Int}(h:f t=.iv (.int k n)):dQ f t=n:=by simp[dQ,h]
def dJ (l:List Nat):List (List IV):=l.map λx:Nat=>[.int .u64 (x:Int)]
theorem AP (l:List Nat):(dJ l).length=l.length:=by simp[dJ]
theorem O4 {l:List Nat}{i:Nat}(h:i<l.length):(dJ l).getD i []=[.int .u64 ((l.getD i 0:Nat):Int)]:=by simp[dJ,List.getD,h]
theorem a7p (a b:Int):(a == b)=decide (a=b):=by by_cases h:a=b<;>simp[h]
theorem a7o (a b:Int):(a != b)=decide (a≠b):=by by_cases h:a=b<;>simp[h,bne]
theorem QN (l:List Nat)(i x:Nat):(dJ l).set i [.int .u64 (x:Int)]=dJ (l.set i x):=by simp[dJ,List.map_set]
theorem a2m (l m:List Nat):dJ l++dJ m=dJ (l++m):=by simp[dJ]
theorem Y5 (l:List Nat)(x:Nat):dJ l++[[.int .u64 (x:Int)]]=dJ (l++[x]):=by simp[dJ]
theorem xA (l:List Nat)(k:Nat):(dJ l).take k=dJ (l.take k):=by simp[dJ,List.map_take]
theorem xB (l:List Nat)(k:Nat):(dJ l).drop k=dJ (l.drop k):=by simp[dJ,List.map_drop]
theorem a2l (n:Nat):List.replicate n [.int .u64 0]=dJ (List.replicate n 0):=by simp[dJ]
theorem Y6 (l:List Nat):(∀r∈dJ l,r.length=1)↔True:=by simp[dJ]
theorem AO:dJ []=[]:=rfl
theorem uG (x y:IV):splice [x] 0 [y]=[y]:=rfl
theorem AC.of_run {P:Program}{g:Nat}{args:List CV}{res:List CV}(ins:List (IntKind×Int))(outs:List (IntKind×Int))(ha:args=ins.map λp=>.iv (.int p.1 p.2))(hr:res=outs.map λp=>.iv (.int p.1 p.2))
  (h:∀w,(callFunc g (ins.map λp=>Value.int p.1 p.2).toArray).run P w=.ok (.value (qF (outs.map λp=>Value.int p.1 p.2))) w):AC P g args none res:=by
 intro w D vs hD hvs;have hv:vs=ins.map λp=>Value.int p.1 p.2:=by
  subst ha;clear h hr
  induction ins generalizing vs with
  |nil=>match vs,hvs with | [],_=>rfl
  |cons p ps ih =>
   match vs,hvs with
   |v::vs,hvs =>
    obtain⟨h1,h2⟩:=hvs;have:=ih vs h2;rw[this];simp only[iI]at h1;cases h1;rfl
 subst hv;refine .inr ⟨_,w,h w,Below.refl _ _,_,rfl,?_⟩;subst hr;refine⟨by simp,λj c v _ hc hv=>?_,λi e sz rows h=>nomatch h⟩;rw[List.getElem?_map]at hc hv;cases ho:outs[j]? with
 |none=>rw[ho]at hc;cases hc
 |some p =>
  rw[ho]at hc hv;cases hc;cases hv;exact .int _ _
theorem Wh (fz:Bool)(st e sz:Nat)(rows:List (List IV)):HC.stamp (.blk fz st e sz rows)=st:=rfl
theorem VZ (st e:Nat)(rows:List AV):(HC.nst st e rows).stamp=st:=rfl
theorem Tv (st sz:Nat):(HC.gone st sz).stamp=st:=rfl
theorem Tt:HC.stamp .none=0:=rfl
theorem a7C (fz:Bool)(st e sz:Nat)(rows:List (List IV)):HC.frz (.blk fz st e sz rows)=.blk true st e sz rows:=rfl
theorem a2L:HC.frz .none=.none:=rfl
theorem W9 (B:Nat):(HC.mrk B).stamp=0:=rfl
theorem Oo (B:Nat):HC.frz (.mrk B)=.mrk B:=rfl
theorem Yf (B h:Nat):pF B h=if h=999 then .mrk B else .none:=rfl
theorem b1z:((0:Nat):Int)=0:=rfl
theorem b1y:((1:Nat):Int)=1:=rfl
theorem aZ {ops:Array Oper}(h:Ez ops=true):Me ops:=h
theorem aN {ops:Array Oper}{lg:Log}(h:I5 ops lg.reverse=true):a3I ops lg:=h
theorem a6u:List.range 1=[0]:=rfl
theorem a6t:List.range 2=[0,1]:=rfl
theorem a6s:List.range 3=[0,1,2]:=rfl
theorem a6r:List.range 4=[0,1,2,3]:=rfl
theorem a3K (x:IV):CV.av (.iv x)=.iv x:=rfl
theorem a0c (v:Value):CV.av (.val v)=a0t v:=rfl
theorem a0f (x:List IV):CV.av (.agg x)=.agg x:=rfl
theorem a0e:CV.av .any=.dead:=rfl
theorem Yh (args:List CV)(i t:Nat):b0K args i t=if t=i then .hs i 1 else ((args.map CV.av)[t]?).getD .undef:=rfl
theorem Yg (i e sz:Nat)(rows:List (List IV))(h:Nat):b0J i e sz rows h=if h=i then .blk false 1 e sz rows else .none:=rfl
theorem a0d (x:List IV):CV.av (.box x)=.ip x:=rfl
theorem a3L (g:Nat)(x:List (List IV)):CV.av (.fn g x)=.fn g (x.map .ip):=rfl
theorem Y9 (f:Fr)(p:Nat)(ps:List Nat)(x:AV)(xs:List AV):lays f (p::ps) (x::xs)=lays (upd f p x) ps xs:=rfl
theorem a2p (f:Fr):lays f [] []=f:=rfl
theorem wrap_u64 {n:Int}(h:0<=n/\n<18446744073709551616):IntKind.u64.wrap n=n:=by
 simp only[IntKind.wrap,IntKind.signed,IntKind.bits,Bool.false_and,Bool.false_eq_true,if_false];omega
end Go.AL

namespace Go.AL
set_option linter.unusedSimpArgs false
set_option linter.unusedVariables false
def vl (b:Nat):List Nat->Nat
 |[]=>0
 |x::xs=>x+b*vl b xs
def oK:List Nat->Nat
 |[]=>0
 |x::xs=>if oK xs=0 then (if x=0 then 0 else 1) else oK xs+1
theorem rZ:∀l:List Nat,oK l<=l.length
 |[]=>Nat.le_refl _
 |x::xs=>by
  have:=rZ xs;simp only[oK,List.length_cons];split
  .split<;>omega
  .omega
theorem uU {l:List Nat}:∀{k:Nat},k<l.length->l.getD k 0=0->oK (l.take (k+1))=oK (l.take k):=by
 induction l with
 |nil=>intro k h;simp at h
 |cons x xs ih =>
  intro k h h0;cases k with
  |zero=>simp at h0;simp[oK,h0]
  |succ k =>
   simp only[List.length_cons]at h;simp only[List.take_succ_cons,oK];rw[ih (by omega) (by simpa using h0)]
theorem Jy {l:List Nat}:∀{k:Nat},k<l.length->l.getD k 0≠0->oK (l.take (k+1))=k+1:=by
 induction l with
 |nil=>intro k h;simp at h
 |cons x xs ih =>
  intro k h h0;cases k with
  |zero=>simp at h0;simp[oK,h0]
  |succ k =>
   simp only[List.length_cons]at h;simp only[List.take_succ_cons,oK];rw[ih (by omega) (by simpa using h0)];simp
def dg (b n:Nat):List Nat:=if h:n=0\/b<2 then [] else n%b::dg b (n/b)
termination_by n
decreasing_by exact Nat.div_lt_self (by omega) (by omega)
theorem tN (b:Nat):dg b 0=[]:=by rw[dg];simp
theorem KZ {b n:Nat}(hb:2<=b)(hn:n≠0):dg b n=n%b::dg b (n/b):=by rw[dg];rw[dif_neg (by omega)]
theorem Z4 {b n:Nat}(hb:2<=b):dg b n=[]↔n=0:=by
 constructor
 .intro h;by_cases hn:n=0
  .exact hn
  .rw[KZ hb hn]at h;cases h
 .rintro rfl;exact tN b
theorem a5M {b:Nat}(hb:2<=b)(n:Nat):vl b (dg b n)=n:=by
 induction n using Nat.strongRecOn with
 |_ n ih =>
  by_cases hn:n=0
  .subst hn;rw[tN];rfl
  .rw[KZ hb hn,vl,ih _ (Nat.div_lt_self (by omega) (by omega))];exact Nat.mod_add_div n b
theorem b1m {b:Nat}(hb:2<=b)(n:Nat):∀x∈dg b n,x<b:=by
 induction n using Nat.strongRecOn with
 |_ n ih =>
  by_cases hn:n=0
  .subst hn;rw[tN];simp
  .rw[KZ hb hn];intro x hx;simp only[List.mem_cons]at hx;rcases hx with rfl|hx
   .exact Nat.mod_lt _ (by omega)
   .exact ih _ (Nat.div_lt_self (by omega) (by omega)) x hx
theorem qc {b:Nat}(hb:2<=b):∀l:List Nat,vl b l=0↔oK l=0
 |[]=>by simp[vl,oK]
 |x::xs=>by
  have:=qc hb xs;simp only[vl,oK];constructor
  .intro h;have h1:x=0:=by omega
   have h2:b*vl b xs=0:=by omega
   have h3:vl b xs=0:=by rcases Nat.mul_eq_zero.mp h2 with h|h<;>omega
   simp[this.mp h3,h1]
  .intro h;split at h
   .rename_i h';split at h
    .rename_i hx;rw[this.mpr h',hx];rfl
    .omega
   .omega
theorem a7W {b:Nat}(hb:2<=b):∀{l:List Nat},(∀x∈l,x<b)->dg b (vl b l)=l.take (oK l)
 |[],_=>by simp[vl,tN,oK]
 |x::xs,h=>by
  have ih:=a7W hb (l:=xs) (λy hy=>h y (by simp[hy]));have hx:x<b:=h x (by simp);simp only[vl];by_cases h0:x+b*vl b xs=0
  .have:=(qc hb (x::xs)).mp h0;rw[h0,tN,this];rfl
  .rw[KZ hb h0,Nat.add_mul_mod_self_left,Nat.mod_eq_of_lt hx,Nat.add_mul_div_left _ _ (by omega),Nat.div_eq_of_lt hx,Nat.zero_add,ih];simp only[oK];split
   .rename_i ht;have:vl b xs=0:=(qc hb xs).mpr ht;have hx0:x≠0:=by rw[this]at h0;omega
    simp[ht,hx0]
   .rw[List.take_succ_cons]
theorem mQ (b:Nat)(m:List Nat):∀l:List Nat,vl b (l++m)=vl b l+b^l.length*vl b m
 |[]=>by simp[vl]
 |x::xs=>by
  simp only[List.cons_append,vl,mQ b m xs,List.length_cons,Nat.pow_succ,Nat.mul_add];rw[Nat.mul_comm (b^xs.length) b,Nat.mul_assoc];omega
theorem Td {b:Nat}:∀{l:List Nat},(∀x∈l,x<b)->vl b l<b^l.length
 |[],_=>by simp[vl]
 |x::xs,h=>by
  have ih:=Td (l:=xs) (λy hy=>h y (by simp[hy]));have hx:=h x (by simp);simp only[vl,List.length_cons,Nat.pow_succ];have:b*vl b xs+b<=b^xs.length*b:=by
   rw[Nat.mul_comm (b^_) b,<-Nat.mul_succ];exact Nat.mul_le_mul_left _ ih
  omega
theorem ig (b:Nat)(l:List Nat){k:Nat}(h:k<=l.length):vl b l=vl b (l.take k)+b^k*vl b (l.drop k):=by
 conv=>lhs;rw[<-List.take_append_drop k l]
 rw[mQ,List.length_take,Nat.min_eq_left h]
theorem nU (b n:Nat):vl b (List.replicate n 0)=0:=by
 induction n with
 |zero=>rfl
 |succ n ih=>simp[List.replicate_succ,vl,ih]
theorem zG (b:Nat){l:List Nat}{k:Nat}(h:k<l.length):vl b (l.take (k+1))=vl b (l.take k)+b^k*l.getD k 0:=by
 rw[List.take_add_one,mQ,List.length_take,Nat.min_eq_left (by omega)];simp[List.getD,h,vl]
theorem La {b:Nat}(hb:2<=b)(k:Nat):∀{n:Nat},(dg b n).length<=k↔n<b^k:=by
 intro n;constructor
 .intro h;have:=Td (b1m hb n);rw[a5M hb]at this;exact Nat.lt_of_lt_of_le this (Nat.pow_le_pow_right (by omega) h)
 .intro h
  induction k generalizing n with
  |zero=>obtain rfl:n=0:=by simpa using h
         simp[tN]
  |succ k ih =>
   by_cases hn:n=0
   .subst hn;simp[tN]
   .rw[KZ hb hn,List.length_cons];have:n/b<b^k:=by rw[Nat.div_lt_iff_lt_mul (by omega),<-Nat.pow_succ];exact h
    have:=ih this;omega
theorem N9 {b:Nat}(hb:2<=b):∀{l:List Nat},(∀x∈l,x<b)->vl b (l.take (oK l))=vl b l:=by
 intro l h;rw[<-a7W hb h,a5M hb]
abbrev W:Nat:=18446744073709551616
def Lim (l:List Nat):Prop:=∀x∈l,x<W
abbrev wd (n:Nat):List Nat:=dg W n
abbrev nv (l:List Nat):Nat:=vl W l
theorem qh:2<=W:=by decide
theorem bY (n:Nat):Lim (wd n):=b1m qh n
theorem dU (n:Nat):nv (wd n)=n:=a5M qh n
theorem a0B {l:List Nat}(h:Lim l):wd (nv l)=l.take (oK l):=a7W qh h
theorem pY:wd 0=[]:=tN W
theorem a9y {n:Nat}:wd n=[]↔n=0:=Z4 qh
theorem ku {n:Nat}:(wd n).length=0↔n=0:=by rw[List.length_eq_zero_iff];exact a9y
theorem dH {n k:Nat}:(wd n).length<=k↔n<W^k:=La qh k
theorem lF {l:List Nat}(h:Lim l):(wd (nv l)).length<=l.length:=dH.mpr (Td h)
theorem Lim.get {l:List Nat}(h:Lim l)(i:Nat):l.getD i 0<W:=by
 by_cases hi:i<l.length
 .have:l.getD i 0=l[i]:=by simp[List.getD,hi]
  rw[this];exact h _ (List.getElem_mem hi)
 .rw[List.getD_eq_getElem?_getD,List.getElem?_eq_none (by omega)];decide
theorem Lim.nil:Lim []:=λ_ h=>nomatch h
theorem Lim.cons {x:Nat}{l:List Nat}(hx:x<W)(h:Lim l):Lim (x::l):=λy hy=>by
 rcases List.mem_cons.mp hy with rfl|hy
 .exact hx
 .exact h y hy
theorem Lim.append {l m:List Nat}(h:Lim l)(h':Lim m):Lim (l++m):=λx hx=>(List.mem_append.mp hx).elim (h x) (h' x)
theorem Lim.take {l:List Nat}(h:Lim l)(k:Nat):Lim (l.take k):=λx hx=>h x (List.mem_of_mem_take hx)
theorem Lim.drop {l:List Nat}(h:Lim l)(k:Nat):Lim (l.drop k):=λx hx=>h x (List.mem_of_mem_drop hx)
theorem Lim.set {l:List Nat}(h:Lim l){i x:Nat}(hx:x<W):Lim (l.set i x):=λy hy=>by
 rcases List.mem_or_eq_of_mem_set hy with hy|rfl
 .exact h y hy
 .exact hx
theorem Lim.replicate (n:Nat):Lim (List.replicate n 0):=λx hx=>by rw[List.eq_of_mem_replicate hx];decide
theorem uz (a b:Nat):(wd (a+b)).length<=max (wd a).length (wd b).length+1:=by
 rw[dH,Nat.pow_succ];have h1:a<W^(max (wd a).length (wd b).length):=dH.mp (by omega);have h2:b<W^(max (wd a).length (wd b).length):=dH.mp (by omega);have:W^(max (wd a).length (wd b).length)*2<=W^(max (wd a).length (wd b).length)*W:=Nat.mul_le_mul_left _ (by decide);omega
theorem mF (a b:Nat):(wd (a*b)).length<=(wd a).length+(wd b).length:=by
 rw[dH,Nat.pow_add];have h1:a<W^(wd a).length:=dH.mp (Nat.le_refl _);have h2:b<W^(wd b).length:=dH.mp (Nat.le_refl _);exact Nat.mul_lt_mul'' h1 h2
theorem fB {a b:Nat}(h:a<=b):(wd a).length<=(wd b).length:=by
 rw[dH];exact Nat.lt_of_le_of_lt h (dH.mp (Nat.le_refl _))
theorem dn (b:Nat)(l:List Nat)(k:Nat):vl b (l.take (k+1))=vl b (l.take k)+b^k*l.getD k 0:=by
 by_cases h:k<l.length
 .exact zG b h
 .rw[List.take_of_length_le (by omega),List.take_of_length_le (by omega),List.getD_eq_getElem?_getD,List.getElem?_eq_none (by omega)];simp
theorem dW (b:Nat){l:List Nat}{k:Nat}(h:k<l.length)(x:Nat):vl b ((l.set k x).take (k+1))=vl b (l.take k)+b^k*x:=by
 rw[zG b (by simpa using h),List.take_set_of_le (Nat.le_refl _)];simp[List.getD,h]
theorem a4e {b:Nat}:∀{l m:List Nat},(∀x∈l,x<b)->(∀x∈m,x<b)->l.length=m.length->vl b l=vl b m->l=m
 |[],[],_,_,_,_=>rfl
 |x::xs,y::ys,h1,h2,hl,h=>by
  simp only[vl]at h;have hx:=h1 x (by simp);have hy:=h2 y (by simp);have e1:x=y:=by
   have:=congrArg (· % b) h;simpa [Nat.add_mul_mod_self_left,Nat.mod_eq_of_lt hx,Nat.mod_eq_of_lt hy] using this
  subst e1;have e2:b*vl b xs=b*vl b ys:=by omega
  have e3:vl b xs=vl b ys:=Nat.eq_of_mul_eq_mul_left (by omega) e2;rw[a4e (λz hz=>h1 z (by simp[hz])) (λz hz=>h2 z (by simp[hz])) (by simpa using hl) e3]
 |[],_::_,_,_,hl,_=>by simp at hl
 |_::_,[],_,_,hl,_=>by simp at hl
def pad:Nat->Nat->List Nat
 |0,_=>[]
 |n+1,s=>s%W::pad n (s/W)
theorem jT:∀n s,(pad n s).length=n
 |0,_=>rfl
 |n+1,s=>by simp[pad,jT n]
theorem oq:∀n s,Lim (pad n s)
 |0,_=>Lim.nil
 |n+1,s=>Lim.cons (Nat.mod_lt _ (by decide)) (oq n _)
theorem sV:∀n s,nv (pad n s)=s%W^n
 |0,s=>by simp[pad,vl,Nat.mod_one]
 |n+1,s=>by
  have:=sV n (s/W);simp only[nv]at this;simp only[pad,nv,vl,this];rw[Nat.pow_succ,Nat.mul_comm (W^n) W,Nat.mod_mul]
theorem pK {l:List Nat}{n s:Nat}(h:Lim l)(hl:l.length=n)(hv:nv l=s%W^n):l=pad n s :=
 a4e h (oq n s) (by rw[jT,hl]) (by rw[<-nv,hv];exact(sV n s).symm)
theorem jm {l:List Nat}(h:Lim l):nv l<W^l.length:=Td h
theorem fK (n:Nat):0<W^n:=Nat.pow_pos (by decide)
theorem uQ {P A B O c x y s c':Nat}(h:O+P*c=A+B)(he:s+W*c'=x+y+c):(O+P*s)+P*W*c'=(A+P*x)+(B+P*y):=by
 have:=congrArg (P * ·) he;simp only[Nat.mul_add]at this;rw[Nat.mul_assoc];omega
theorem OQ {P A B O c x y s c':Nat}(h:O+B=A+P*c)(he:s+y+c=x+W*c'):(O+P*s)+(B+P*y)=(A+P*x)+P*W*c':=by
 have:=congrArg (P * ·) he;simp only[Nat.mul_add]at this;rw[Nat.mul_assoc];omega
theorem NT (l:List Nat)(x:Nat):nv (l++[x])=nv l+W^l.length*x:=by simp[nv,mQ,vl]
abbrev RI:=Bool×List Nat
def je (c:RI):List IV:=[.bool c.1,.sl (dJ c.2)]
def iv (c:RI):Int:=if c.1 then -(nv c.2:Int) else (nv c.2:Int)
def canon (z:Int):RI:=(decide (z<0),wd z.natAbs)
def sg (s:Bool)(n:Nat):Int:=if s then -(n:Int) else (n:Int)
def Sz (k:Nat)(c:RI):Prop:=c.2.length<=k/\Lim c.2
def zl (z:Int):Nat:=(wd z.natAbs).length
def gZ (p:List RI):List (List IV):=p.map je
theorem a1w (c:RI):(je c).length=2:=rfl
theorem U2 (c:RI):(je c).drop 0=je c:=rfl
theorem U1 (c:RI):(je c).drop 1=[.sl (dJ c.2)]:=rfl
theorem Xe (c:RI)(d:IV):(je c).getD 0 d=.bool c.1:=rfl
theorem Xd (c:RI)(d:IV):(je c).getD 1 d=.sl (dJ c.2):=rfl
theorem Xc (c:RI):(je c).take 2=je c:=rfl
theorem Xb:[IV.bool false,IV.sl []]=je (false,[]):=rfl
theorem NJ (c d:RI):splice (je c) 0 (je d)=je d:=rfl
theorem a1k (p:List RI):(gZ p).length=p.length:=by simp[gZ]
theorem a6p {p:List RI}{i:Nat}(h:i<p.length):(gZ p).getD i []=je (p.getD i (false,[])):=by simp[gZ,List.getD,h]
theorem a1h (p:List RI)(i:Nat)(c:RI):(gZ p).set i (je c)=gZ (p.set i c):=by simp[gZ,List.map_set]
theorem WS (p:List RI)(c:RI):gZ p++[je c]=gZ (p++[c]):=by simp[gZ]
theorem a1l (p q:List RI):gZ p++gZ q=gZ (p++q):=by simp[gZ]
theorem a1j:gZ []=[]:=rfl
theorem a1i (n:Nat):List.replicate n (je (false,[]))=gZ (List.replicate n (false,[])):=by simp[gZ]
theorem WT (p:List RI):(∀r∈gZ p,r.length=2)↔True:=by
 refine iff_true_intro λr hr=>?_;simp only[gZ,List.mem_map]at hr;obtain⟨c,_,rfl⟩:=hr;rfl
theorem WR (p:List RI)(k:Nat):(gZ p).take k=gZ (p.take k):=by simp[gZ,List.map_take]
theorem WU (p:List RI)(k:Nat):(gZ p).drop k=gZ (p.drop k):=by simp[gZ,List.map_drop]
theorem Zq (z:Int):(canon z).2=wd z.natAbs:=rfl
theorem Zt (z:Int):(canon z).1=decide (z<0):=rfl
theorem aU (z:Int):iv (canon z)=z:=by
 simp only[iv,canon,dU];by_cases h:z<0
 .simp only[h,decide_true,if_true];omega
 .simp only[h,decide_false,Bool.false_eq_true,if_false];omega
theorem aW (z:Int):Sz (zl z) (canon z):=⟨Nat.le_refl _,bY _⟩
theorem Sz.mono {j k:Nat}{c:RI}(h:Sz j c)(hk:j<=k):Sz k c:=⟨Nat.le_trans h.1 hk,h.2⟩
theorem rF (c:RI):(iv c).natAbs=nv c.2:=by
 unfold iv;split<;>omega
theorem rG {c:RI}{k:Nat}(h:Sz k c):zl (iv c)<=k:=by
 unfold zl;rw[rF];exact Nat.le_trans (lF h.2) h.1
theorem Sj (s:Bool)(n:Nat):canon (sg s n)=(s && decide (n≠0),wd n):=by
 unfold canon sg;cases s
 .simp
 .by_cases h:n=0
  .subst h;simp
  .simp[h];omega
theorem nT (a b:Int):zl (a+b)<=max (zl a) (zl b)+1:=by
 unfold zl;exact Nat.le_trans (fB (Int.natAbs_add_le a b)) (uz _ _)
theorem rO (a:Int):zl (-a)=zl a:=by unfold zl;rw[Int.natAbs_neg]
theorem gI (a b:Int):zl (a*b)<=zl a+zl b:=by
 unfold zl;rw[Int.natAbs_mul];exact mF _ _
theorem fA:zl 0=0:=by simp[zl,pY]
theorem O8:iv (false,[])=0:=by simp[iv,vl]
theorem zy:canon 0=(false,[]):=by simp[canon,pY]
theorem a7j (c:RI)(b:Bool)(l:List (List IV)):lay (λi=>[(0,1),(1,1)][i]?) (je c) ([0,1].zip [[.bool b],[.sl l]])=some (True,[.bool b,.sl l]):=by
 simp[lay,splice,je]
theorem O9 {a b:RI}(h:a.1=b.1):iv a+iv b=sg a.1 (nv a.2+nv b.2):=by
 unfold iv sg;rw[<-h];split<;>omega
theorem Oa {a b:RI}(h:a.1≠b.1):iv a+iv b=sg (a.1 != decide (nv a.2<nv b.2)) (if nv a.2<nv b.2 then nv b.2-nv a.2 else nv a.2-nv b.2):=by
 unfold iv sg;cases ha:a.1<;>cases hb:b.1<;>rw[ha,hb]at h<;>first|exact(h rfl).elim|skip
 all_goals
  by_cases hlt:nv a.2<nv b.2
  .simp[hlt];omega
  .simp[hlt];omega
theorem b0E (a b:RI):iv a*iv b=sg (a.1 != b.1) (nv a.2*nv b.2):=by
 unfold iv sg;cases a.1<;>cases b.1<;>simp[Int.neg_mul,Int.mul_neg]
theorem CJ {l:List Nat}(h:Lim l)(k:Nat):nv (l.take k)=nv l%W^k:=by
 by_cases hk:k<=l.length
 .have e:=ig W l hk;have h2:=jm (h.take k);rw[List.length_take,Nat.min_eq_left hk]at h2;simp only[nv]at *;rw[e,Nat.add_mul_mod_self_left,Nat.mod_eq_of_lt h2]
 .rw[List.take_of_length_le (by omega),Nat.mod_eq_of_lt];exact Nat.lt_of_lt_of_le (jm h) (Nat.pow_le_pow_right (by decide) (by omega))
theorem XA {l:List Nat}(h:Lim l)(k:Nat):nv (l.drop k)=nv l/W^k:=by
 by_cases hk:k<=l.length
 .have e:=ig W l hk;have h2:=jm (h.take k);rw[List.length_take,Nat.min_eq_left hk]at h2;simp only[nv]at *;rw[e,Nat.add_mul_div_left _ _ (fK k),Nat.div_eq_of_lt h2,Nat.zero_add]
 .rw[List.drop_of_length_le (by omega),Nat.div_eq_of_lt]
  .rfl
  .exact Nat.lt_of_lt_of_le (jm h) (Nat.pow_le_pow_right (by decide) (by omega))
theorem a4d (b:Nat):∀{l:List Nat} {k:Nat} (_:k<l.length) (x:Nat),vl b (l.set k x)+b^k*l.getD k 0=vl b l+b^k*x
 |y::ys,0,_,x=>by simp[vl];omega
 |y::ys,k+1,h,x=>by
  have ih:=a4d b (l:=ys) (k:=k) (by simpa using h) x;have:=congrArg (b * ·) ih;simp only[Nat.mul_add]at this;simp only[List.set_cons_succ,vl,List.getD_cons_succ,Nat.pow_succ];rw[Nat.mul_comm (b^k) b,Nat.mul_assoc,Nat.mul_assoc];omega
theorem NU {l:List Nat}{k m:Nat}(hk:k<m)(hm:m<=l.length)(x:Nat):nv ((l.set k x).take m)+W^k*l.getD k 0=nv (l.take m)+W^k*x:=by
 rw[List.take_set];have:=a4d W (l:=l.take m) (k:=k) (by rw[List.length_take];omega) x;have e:(l.take m).getD k 0=l.getD k 0:=by simp[List.getD,List.getElem?_take,hk]
 rw[e]at this;exact this
def Eb (n:Nat)(l:List Nat):List Nat:=if l.length=0 then [] else List.replicate n 0++l
theorem QG (n:Nat)(l:List Nat):nv (Eb n l)=W^n*nv l:=by
 unfold Eb;split
 .rename_i h;rw[List.length_eq_zero_iff]at h;subst h;simp[vl]
 .simp[nv,mQ,nU]
theorem KJ (n:Nat){l:List Nat}(h:Lim l):Lim (Eb n l):=by
 unfold Eb;split
 .exact Lim.nil
 .exact(Lim.replicate n).append h
theorem KL (n:Nat)(l:List Nat):(Eb n l).length<=n+l.length:=by
 unfold Eb;split<;>simp
theorem b5q (x y P:Nat)(hP:0<P):∀x1 x0 y1 y0,x1=x/P->x0=x%P->y1=y/P->y0=y%P ->
  P*P*(x1*y1)+P*((x1+x0)*(y1+y0)-(x1*y1+x0*y0))+x0*y0=x*y/\x1*y1+x0*y0<=(x1+x0)*(y1+y0):=by
 intro x1 x0 y1 y0 h1 h2 h3 h4;have ex:x=P*x1+x0:=by rw[h1,h2];exact(Nat.div_add_mod x P).symm
 have ey:y=P*y1+y0:=by rw[h3,h4];exact(Nat.div_add_mod y P).symm
 have e:(x1+x0)*(y1+y0)=x1*y1+x0*y0+(x1*y0+x0*y1):=by simp only[Nat.add_mul,Nat.mul_add];omega
 refine⟨?_,by omega⟩;rw[e,Nat.add_sub_cancel_left,ex,ey];simp only[Nat.add_mul,Nat.mul_add];have e1:P*x1*(P*y1)=P*P*(x1*y1):=Nat.mul_mul_mul_comm _ _ _ _;have e2:P*x1*y0=P*(x1*y0):=Nat.mul_assoc _ _ _;have e3:x0*(P*y1)=P*(x0*y1):=Nat.mul_left_comm _ _ _;rw[e1,e2,e3];omega
theorem row_step {T T' Q A b S Bj c o lo hi:Nat}(h:T+Q*c=S+b*Bj)(hT:T'+Q*o=T+Q*lo)(he:hi*W+lo=A+c+o):T'+Q*W*hi=S+(b*Bj+Q*A):=by
 have:=congrArg (Q * ·) he;simp only[Nat.mul_add]at this;rw[Nat.mul_assoc,Nat.mul_comm W hi];omega
end Go.AL

namespace Go.AL
set_option linter.unusedSimpArgs false
set_option linter.unusedVariables false
def pv (p:List RI):List Int:=p.map iv
def tz (q:List Int):Nat:=oK (q.map Int.natAbs)
def aV (q:List Int):List Int:=q.take (tz q)
def cf (q:List Int)(k:Nat):Int:=q.getD k 0
def RP (n k:Nat)(p:List RI):Prop:=p.length<=n/\∀c∈p,Sz k c
def PB (n k:Nat)(q:List Int):Prop:=q.length<=n/\∀z∈q,zl z<=k
def dY (q:List Int):List (List IV):=gZ ((aV q).map canon)
theorem oI (q:List Int):tz q<=q.length:=by simpa [tz] using rZ (q.map Int.natAbs)
theorem bI (q:List Int):(aV q).length=tz q:=by rw[aV,List.length_take,Nat.min_eq_left (oI q)]
theorem Ju {q:List Int}{k:Nat}(h:k<q.length)(h0:cf q k=0):tz (q.take (k+1))=tz (q.take k):=by
 unfold tz;rw[List.map_take,List.map_take];refine uU (by simpa using h) ?_;simp only[cf,List.getD,List.getElem?_map,h,List.getElem?_eq_getElem,Option.map_some,Option.getD_some]at h0 ⊢;simp[h0]
theorem Na {q:List Int}{k:Nat}(h:k<q.length)(h0:cf q k≠0):tz (q.take (k+1))=k+1:=by
 unfold tz;rw[List.map_take];refine Jy (by simpa using h) ?_;simp only[cf,List.getD,List.getElem?_map,h,List.getElem?_eq_getElem,Option.map_some,Option.getD_some]at h0 ⊢;simp;exact h0
theorem jK {q:List Int}{k:Nat}(h:q.length<=k):cf q k=0:=by
 simp[cf,List.getD,List.getElem?_eq_none h]
theorem jI (x:Int)(xs:List Int):cf (x::xs) 0=x:=rfl
theorem gy (x:Int)(xs:List Int)(k:Nat):cf (x::xs) (k+1)=cf xs k:=rfl
theorem gu (k:Nat):cf [] k=0:=rfl
theorem Bz (x:Int)(xs:List Int):tz (x::xs)=if tz xs=0 then (if x=0 then 0 else 1) else tz xs+1:=by
 unfold tz;simp only[List.map_cons,oK];by_cases hx:x=0
 .simp[hx]
 .rw[if_neg hx,if_neg (show ¬x.natAbs=0 by omega)]
theorem bf:∀{q:List Int},tz q=0↔∀k,cf q k=0
 |[]=>by simp[tz,oK,gu]
 |x::xs=>by
  rw[Bz];constructor
  .intro h k;split at h
   .rename_i h0;split at h
    .rename_i hx;subst hx;cases k with
     |zero=>rfl
     |succ k=>exact bf.mp h0 k
    .omega
   .omega
  .intro h;have h0:tz xs=0:=bf.mpr λk=>h (k+1)
   have hx:x=0:=h 0;rw[if_pos h0,if_pos hx]
theorem yF (x:Int)(xs:List Int):aV (x::xs)=if tz xs=0/\x=0 then [] else x::aV xs:=by
 unfold aV;rw[Bz];by_cases h:tz xs=0
 .by_cases hx:x=0<;>simp[h,hx]
 .simp[h]
theorem kQ:∀{p q:List Int},(∀k,cf p k=cf q k)->aV p=aV q
 |[],q,h=>by
  have:tz q=0:=bf.mpr λk=>(h k).symm
  simp[aV,this]
 |x::xs,[],h=>by
  have:tz (x::xs)=0:=bf.mpr λk=>h k
  simp[aV,this]
 |x::xs,y::ys,h=>by
  have hx:x=y:=h 0;have ih:=kQ (p:=xs) (q:=ys) λk=>h (k+1)
  have ht:tz xs=0↔tz ys=0:=by
   rw[bf,bf];exact forall_congr' λk=>by rw[show cf xs k=cf ys k from h (k+1)]
  rw[yF,yF,hx,ih];simp only[ht]
theorem bH:∀(q:List Int) (k:Nat),cf (aV q) k=cf q k
 |[],k=>by simp[aV]
 |x::xs,k=>by
  rw[yF];split
  .rename_i h;cases k with
   |zero=>simp[gu,jI,h.2]
   |succ k=>rw[gy,gu];exact(bf.mp h.1 k).symm
  .cases k with
   |zero=>rfl
   |succ k=>rw[gy,gy,bH xs k]
theorem kD (q:List Int):aV (aV q)=aV q:=kQ (bH q)
theorem jA {p q:List Int}(h:∀k,cf p k=cf q k):tz p=tz q:=by
 rw[<-bI,<-bI,kQ h]
theorem xW {p q:List Int}(h:∀k,cf p k=cf q k):dY p=dY q:=by
 unfold dY;rw[kQ h]
theorem G7 (q:List Int):tz (aV q)=tz q:=jA (bH q)
theorem vF {q:List Int}{n:Nat}(h:cf q n≠0)(h0:∀k,n<k->cf q k=0):tz q=n+1:=by
 have hn:n<q.length:=by
  rcases Nat.lt_or_ge n q.length with h'|h'
  .exact h'
  .exact(h (jK h')).elim
 have e:∀k,cf q k=cf (q.take (n+1)) k:=by
  intro k;by_cases hk:k<n+1
  .simp[cf,List.getD,List.getElem?_take,hk]
  .rw[h0 k (by omega),jK (by rw[List.length_take];omega)]
 rw[jA e,Na hn h]
theorem dS {q:List Int}(h:tz q≠0):cf q (tz q-1)≠0:=by
 induction q with
 |nil=>simp[tz,oK]at h
 |cons x xs ih =>
  rw[Bz]at h ⊢;by_cases h0:tz xs=0
  .rw[if_pos h0]at h ⊢;by_cases hx:x=0
   .simp[hx]at h
   .rw[if_neg hx];exact hx
  .rw[if_neg h0];have:=ih h0;rw[show tz xs+1-1=(tz xs-1)+1 by omega];exact this
theorem bW (q:List Int){k:Nat}(h:tz q<=k):cf q k=0:=by
 rw[<-bH];exact jK (by rw[bI];exact h)
def ji (p q:List Int):List Int:=(List.range (max p.length q.length)).map λk=>cf p k+cf q k
theorem fJ (p q:List Int)(k:Nat):cf (ji p q) k=cf p k+cf q k:=by
 by_cases h:k<max p.length q.length
 .simp only[ji,cf,List.getD,List.getElem?_map,List.getElem?_range h,Option.map_some,Option.getD_some]
 .rw[jK (by simp[ji];omega),jK (by omega),jK (by omega)];rfl
def aY (c:Int)(p:List Int):List Int:=p.map λx=>x*c
theorem dM (c:Int)(p:List Int)(k:Nat):cf (aY c p) k=cf p k*c:=by
 simp only[aY,cf,List.getD,List.getElem?_map];cases p[k]?<;>simp
def cv:List Int->(Nat->Int)->Nat->Int
 |[],_,_=>0
 |x::xs,g,k=>x*g k+match k with|0=>0|k+1=>cv xs g k
def bV (p q:List Int):List Int:=(List.range (p.length+q.length)).map (cv p (cf q))
theorem xQ {g g':Nat->Int}:∀(p:List Int) (k:Nat),(∀j,g j=g' j)->cv p g k=cv p g' k
 |[],_,_=>rfl
 |x::xs,k,h=>by
  simp only[cv,h k];cases k with
  |zero=>rfl
  |succ k=>simp only;rw[xQ xs k h]
theorem Z5 {g:Nat->Int}:∀(p:List Int) {n k:Nat},(∀j,n<=j->g j=0)->p.length+n<=k+1->cv p g k=0
 |[],_,_,_,_=>rfl
 |x::xs,n,k,h,hk=>by
  simp only[List.length_cons]at hk;simp only[cv,h k (by omega),Int.mul_zero,Int.zero_add];cases k with
  |zero=>rfl
  |succ k=>exact Z5 xs h (by omega)
theorem dZ (p q:List Int)(k:Nat):cf (bV p q) k=cv p (cf q) k:=by
 by_cases h:k<p.length+q.length
 .simp only[bV];rw[cf,List.getD,List.getElem?_map,List.getElem?_range h];rfl
 .rw[jK (by simp[bV];omega),Z5 p (n:=q.length) (λj hj=>jK hj) (by omega)]
theorem kJ {p p':List Int}{g:Nat->Int}(h:∀j,cf p j=cf p' j):∀k,cv p g k=cv p' g k:=by
 induction p generalizing p' with
 |nil =>
  intro k
  induction p' generalizing k with
  |nil=>rfl
  |cons y ys ih =>
   have hy:y=0:=(h 0).symm;simp only[cv,hy,Int.zero_mul,Int.zero_add];cases k with
   |zero=>rfl
   |succ k=>exact ih (λj=>h (j+1)) k
 |cons x xs ih =>
  intro k;cases p' with
  |nil =>
   have hx:x=0:=h 0;simp only[cv,hx,Int.zero_mul,Int.zero_add];cases k with
   |zero=>rfl
   |succ k=>exact ih (p':=[]) (λj=>h (j+1)) k
  |cons y ys =>
   have hx:x=y:=h 0;simp only[cv,hx];cases k with
   |zero=>rfl
   |succ k=>simp only;rw[ih (p':=ys) (λj=>h (j+1)) k]
theorem zS {g:Nat->Int}:∀(p:List Int) (i k:Nat),cv (p.take (i+1)) g k=cv (p.take i) g k+(if i<=k then cf p i*g (k-i) else 0)
 |[],i,k=>by simp[cv,gu]
 |x::xs,0,k=>by
  simp only[List.take_succ_cons,List.take_zero,cv,jI,Nat.sub_zero,Nat.zero_le,if_true];cases k<;>simp
 |x::xs,i+1,k=>by
  simp only[List.take_succ_cons,cv,gy];cases k with
  |zero=>simp
  |succ k =>
   have:=zS (g:=g) xs i k;simp only[List.take_succ_cons]at this ⊢;rw[this];simp only[Nat.add_le_add_iff_right,Nat.add_sub_add_right];omega
theorem iK (p:List RI):(pv p).length=p.length:=by simp[pv]
theorem rJ (p:List RI)(k:Nat):cf (pv p) k=iv (p.getD k (false,[])):=by
 simp only[cf,pv,List.getD,List.getElem?_map];cases p[k]?<;>simp[O8]
theorem RP.get {n k:Nat}{p:List RI}(h:RP n k p)(i:Nat):Sz k (p.getD i (false,[])):=by
 by_cases hi:i<p.length
 .have:p.getD i (false,[])=p[i]:=by simp[List.getD,hi]
  rw[this];exact h.2 _ (List.getElem_mem hi)
 .rw[List.getD_eq_getElem?_getD,List.getElem?_eq_none (by omega)];exact⟨Nat.zero_le _,Lim.nil⟩
theorem Ut (q:List Int)(i:Nat):(q.map canon).getD i (false,[])=canon (cf q i):=by
 simp only[cf,List.getD,List.getElem?_map];cases q[i]?<;>simp[zy]
theorem Zr (q:List Int)(i:Nat)(z:Int):(q.map canon).set i (canon z)=(q.set i z).map canon:=by rw[List.map_set]
theorem Us (q:List Int)(z:Int):q.map canon++[canon z]=(q++[z]).map canon:=by simp
theorem gW (q:List Int):pv (q.map canon)=q:=by
 simp only[pv,List.map_map]
 conv=>rhs;rw[<-List.map_id q]
 exact List.map_congr_left λz _=>aU z
theorem RP.canon {n k:Nat}{q:List Int}(h:PB n k q):RP n k (q.map canon):=by
 refine⟨by simpa using h.1,λc hc=>?_⟩;obtain⟨z,hz,rfl⟩:=List.mem_map.mp hc;exact(aW z).mono (h.2 z hz)
theorem PB.cf {n k:Nat}{q:List Int}(h:PB n k q)(i:Nat):zl (cf q i)<=k:=by
 by_cases hi:i<q.length
 .have:AL.cf q i=q[i]:=by simp[AL.cf,List.getD,hi]
  rw[this];exact h.2 _ (List.getElem_mem hi)
 .rw[jK (by omega),fA];exact Nat.zero_le _
theorem PB.of {n k:Nat}{q:List Int}(hl:q.length<=n)(h:∀i,zl (AL.cf q i)<=k):PB n k q:=by
 refine⟨hl,λz hz=>?_⟩;obtain⟨i,hi,rfl⟩:=List.getElem_of_mem hz;have:=h i;rwa [show AL.cf q i=q[i] by simp[AL.cf,List.getD,hi]]at this
theorem PB.aV {n k:Nat}{q:List Int}(h:PB n k q):PB n k (aV q) :=
 .of (by rw[bI];exact Nat.le_trans (oI q) h.1) λi=>by rw[bH];exact h.cf i
theorem RP.pv {n k:Nat}{p:List RI}(h:RP n k p):PB n k (pv p) :=
 .of (by rw[iK];exact h.1) λi=>by rw[rJ];exact rG (h.get i)
theorem PB.mono {n k n' k':Nat}{q:List Int}(h:PB n k q)(hn:n<=n')(hk:k<=k'):PB n' k' q:=⟨Nat.le_trans h.1 hn,λz hz=>Nat.le_trans (h.2 z hz) hk⟩
theorem RP.mono {n k n' k':Nat}{q:List RI}(h:RP n k q)(hn:n<=n')(hk:k<=k'):RP n' k' q:=⟨Nat.le_trans h.1 hn,λz hz=>(h.2 z hz).mono hk⟩
theorem PB.ji {n k m j:Nat}{p q:List Int}(hp:PB n k p)(hq:PB m j q):PB (max n m) (max k j+1) (ji p q) :=
 .of (by simp[AL.ji];have:=hp.1;have:=hq.1;omega) λi=>by
  rw[fJ];have:=nT (AL.cf p i) (AL.cf q i);have:=hp.cf i;have:=hq.cf i;omega
theorem PB.aY {n k:Nat}{p:List Int}{c:Int}(hp:PB n k p):PB n (k+zl c) (aY c p) :=
 .of (by simp[AL.aY];exact hp.1) λi=>by rw[dM];have:=gI (AL.cf p i) c;have:=hp.cf i;omega
theorem dR {z:Int}{k:Nat}:zl z<=k↔z.natAbs<W^k:=dH
theorem a5a {g:Nat->Int}{M N:Nat}(hg:∀j,(g j).natAbs<=N):∀(p:List Int) (k:Nat),(∀z∈p,z.natAbs<=M)->(cv p g k).natAbs<=p.length*(M*N)
 |[],_,_=>by simp[cv]
 |x::xs,k,h=>by
  have hx:=Nat.mul_le_mul (h x (by simp)) (hg k);have hsum:∀b:Int,b.natAbs<=xs.length*(M*N)->(x*g k+b).natAbs<=(xs.length+1)*(M*N):=by
   intro b hb;have:=Int.natAbs_add_le (x*g k) b;rw[Int.natAbs_mul]at this;rw[Nat.add_mul,Nat.one_mul];omega
  simp only[cv,List.length_cons];cases k with
  |zero=>exact hsum 0 (by simp)
  |succ k=>exact hsum _ (a5a hg xs k λz hz=>h z (by simp[hz]))
theorem a5J {p q:List Int}{n k m j:Nat}(hp:PB n k p)(hq:PB m j q)(hn:n<W)(i:Nat):zl (cv p (cf q) i)<=k+j+1:=by
 rw[dR];have h:=a5a (g:=cf q) (M:=W^k-1) (N:=W^j-1) (λi=>by have:=dR.mp (hq.cf i);omega) p i (λz hz=>by have:=dR.mp (hp.2 z hz);omega);refine Nat.lt_of_le_of_lt h ?_;have h1:p.length*((W^k-1)*(W^j-1))<=n*((W^k-1)*(W^j-1)):=Nat.mul_le_mul_right _ hp.1;have h2:(W^k-1)*(W^j-1)<=W^k*W^j:=Nat.mul_le_mul (by omega) (by omega);have h3:n*((W^k-1)*(W^j-1))<=n*(W^k*W^j):=Nat.mul_le_mul_left _ h2;have h4:n*(W^k*W^j)<W*(W^k*W^j):=(Nat.mul_lt_mul_right (Nat.mul_pos (fK k) (fK j))).mpr hn;rw[Nat.pow_succ,Nat.pow_add,Nat.mul_comm _ W];omega
theorem PB.bV {p q:List Int}{n k m j:Nat}(hp:PB n k p)(hq:PB m j q)(hn:n<W):PB (n+m) (k+j+1) (bV p q) :=
 .of (by simp[AL.bV];have:=hp.1;have:=hq.1;omega) λi=>by rw[dZ];exact a5J hp hq hn i
theorem wS (n:Nat):List.replicate n ((false,[]):RI)=(List.replicate n 0).map canon:=by rw[List.map_replicate,zy]
theorem aC (q:List Int):(dY q).length=tz q:=by simp[dY,gZ,bI]
theorem Pq {n k:Nat}{q:List Int}(h:PB n k q)(i:Nat):PB n k (q.take i):=⟨by rw[List.length_take];have:=h.1;omega,λz hz=>h.2 z (List.mem_of_mem_take hz)⟩
theorem a2r (c:RI)(l:List (List IV)):lay (λi=>[(0,1),(1,1)][i]?) (je c) ([1].zip [[.sl l]])=some (True,[.bool c.1,.sl l]):=by simp[lay,splice,je]
def yO (ps:List (List RI)):List (List IV):=ps.map λp=>[.sl (gZ p)]
theorem bG (ps:List (List RI)):(yO ps).length=ps.length:=by simp[yO]
theorem GH {ps:List (List RI)}{i:Nat}(h:i<ps.length):(yO ps).getD i []=[.sl (gZ (ps.getD i []))]:=by simp[yO,List.getD,h]
theorem a2q (g:Nat->Option (Nat×Nat))(cells:List IV):lay g cells (([]:List Nat).zip ([]:List (List IV)))=some (True,cells):=rfl
theorem S9 (n k:Nat):cf (List.replicate n 0) k=0:=by
 simp only[cf,List.getD,List.getElem?_replicate];split<;>rfl
theorem y5 {q:List Int}{i:Nat}(h:i<q.length)(z:Int)(k:Nat):cf (q.set i z) k=if k=i then z else cf q k:=by
 simp only[cf,List.getD,List.getElem?_set];by_cases e:i=k
 .subst e;simp[h]
 .simp[e,Ne.symm e]
theorem OD:∀(p:List Int) (k:Nat),cv p (cf []) k=0
 |[],_=>rfl
 |x::xs,k=>by
  simp only[cv,gu,Int.mul_zero,Int.zero_add];cases k with
  |zero=>rfl
  |succ k=>exact OD xs k
end Go.AL

namespace Go.AL
set_option linter.unusedSimpArgs false
set_option linter.unusedVariables false
abbrev D16:Nat:=65536
def nums (l:List Nat):List (List IV):=l.map λx:Nat=>[.int .i64 (x:Int)]
theorem a1M (l:List Nat):(nums l).length=l.length:=by simp[nums]
theorem a6Q {l:List Nat}{i:Nat}(h:i<l.length):(nums l).getD i []=[.int .i64 ((l.getD i 0:Nat):Int)]:=by simp[nums,List.getD,h]
theorem a1K (l:List Nat)(i x:Nat):(nums l).set i [.int .i64 (x:Int)]=nums (l.set i x):=by simp[nums,List.map_set]
theorem a1N (l m:List Nat):nums l++nums m=nums (l++m):=by simp[nums]
theorem XC (l:List Nat)(x:Nat):nums l++[[.int .i64 (x:Int)]]=nums (l++[x]):=by simp[nums]
theorem XB (l:List Nat)(k:Nat):(nums l).take k=nums (l.take k):=by simp[nums,List.map_take]
theorem XE (l:List Nat)(k:Nat):(nums l).drop k=nums (l.drop k):=by simp[nums,List.map_drop]
theorem XD (l:List Nat):(∀r∈nums l,r.length=1)↔True:=by simp[nums]
theorem a1L:nums []=[]:=rfl
def iO (l:List Int):List (List IV):=l.map λx=>[.int .i64 x]
theorem KP (l:List Int):(iO l).length=l.length:=by simp[iO]
theorem I9 {l:List Int}{i:Nat}(h:i<l.length):(iO l).getD i []=[.int .i64 (l.getD i 0)]:=by simp[iO,List.getD,h]
theorem a9G (n:Nat):(n:Int).tdiv 65536=((n/65536:Nat):Int):=by rw[Int.tdiv_eq_ediv_of_nonneg (by omega)];rfl
theorem a9D (n:Nat):(n:Int).tmod 65536=((n%65536:Nat):Int):=by rw[Int.tmod_eq_emod_of_nonneg (by omega)];rfl
def Dig (d:List Nat):Prop:=∀x∈d,x<D16
theorem Dig.nil:Dig []:=λ_ h=>nomatch h
theorem Dig.set {l:List Nat}(h:Dig l){i x:Nat}(hx:x<D16):Dig (l.set i x):=λy hy=>by
 rcases List.mem_or_eq_of_mem_set hy with hy|rfl
 .exact h y hy
 .exact hx
end Go.AL

namespace Go.AL
set_option linter.defProp false
def wk0:=And.intro @a8S (And.intro @a0g (And.intro @a3R (And.intro @b1P (And.intro @a8V (And.intro @a3Y (And.intro @a3Z (And.intro @a3S (And.intro @a8T (And.intro @a8U (And.intro @a3O (And.intro @a3Q (And.intro @b1Q (And.intro @Pj (And.intro @ZO (And.intro @a3A (And.intro @Ph (And.intro @ZN (And.intro @a3z (And.intro @Jc (And.intro @Pz (And.intro @UY (And.intro @J7 (And.intro @Pm (@UM))))))))))))))))))))))))
def wk1:=And.intro @MJ (And.intro @UR (And.intro @ZY (And.intro @ZX (And.intro @a8J (And.intro @a3F (And.intro @Po (And.intro @a3U (And.intro @a0j (And.intro @PE (And.intro @a0i (And.intro @Vd (And.intro @a3V (And.intro @Va (And.intro @DX (And.intro @a0k (And.intro @V4 (And.intro @Jd (And.intro @Vb (And.intro @a0h (And.intro @MQ (And.intro @Es (And.intro @V5 (And.intro @Eu (@Et))))))))))))))))))))))))
def wk2:=And.intro @V6 (And.intro @MP (And.intro @MR (And.intro @a0l (And.intro @V7 (And.intro @a0m (And.intro @a0p (And.intro @a0n (And.intro @a0o (And.intro @MS (And.intro @UZ (And.intro @a3T (And.intro @a7p (And.intro @a7o (And.intro @a6u (And.intro @a6t (And.intro @a6s (And.intro @a6r (And.intro @uG (And.intro @QN (And.intro @a2m (And.intro @Y5 (And.intro @xA (And.intro @xB (@a2l))))))))))))))))))))))))
def wk3:=And.intro @Y6 (And.intro @AO (And.intro @a7j (And.intro @a1w (And.intro @U2 (And.intro @U1 (And.intro @Xe (And.intro @Xd (And.intro @Xc (And.intro @Xb (And.intro @NJ (And.intro @a1k (And.intro @a6p (And.intro @a1h (And.intro @WS (And.intro @a1l (And.intro @a1j (And.intro @a1i (And.intro @WT (And.intro @WR (And.intro @WU (And.intro @Ut (And.intro @Zr (And.intro @Us (@iK))))))))))))))))))))))))
def wk4:=And.intro @Zq (And.intro @Zt (And.intro @AP (And.intro @O4 (And.intro @VD (And.intro @VE (And.intro @a9C (And.intro @aA (And.intro @b0Y (And.intro @a2P (And.intro @a7Z (And.intro @a2T (And.intro @a7Y (And.intro @a2w (And.intro @a2v (And.intro @a3K (And.intro @a0f (And.intro @a0c (And.intro @Wh (And.intro @Tt (And.intro @a7C (And.intro @a2L (And.intro @b1z (And.intro @b1y (@wrap_i64))))))))))))))))))))))))
def wk5:=And.intro @a2q (And.intro @a1M (And.intro @a6Q (And.intro @a1K (And.intro @a1N (And.intro @XC (And.intro @XB (And.intro @XE (And.intro @XD (And.intro @a1L (And.intro @KP (And.intro @I9 (And.intro @a9G (And.intro @a9D (And.intro @a2r (And.intro @bG (And.intro @GH (And.intro @decide_true (And.intro @decide_false (And.intro @Bool.not_true (And.intro @Bool.not_false (And.intro @ne_eq.{1} (And.intro @not_true_eq_false (And.intro @gt_iff_lt.{0} (@ge_iff_le.{0}))))))))))))))))))))))))
def wk6:=And.intro @Bool.false_eq_true (And.intro @AV.iv.injEq (And.intro @IV.int.injEq (And.intro @IV.bool.injEq (And.intro @CV.iv.injEq (And.intro @CV.agg.injEq (And.intro @AV.agg.injEq (And.intro @true_implies (And.intro @implies_true.{1} (And.intro @List.not_mem_nil.{0} (And.intro @List.mem_cons.{0} (And.intro @or_false (And.intro @forall_eq_or_imp.{1} (And.intro @forall_eq.{1} (And.intro @false_implies (And.intro @not_false_eq_true (And.intro @Decidable.not_not (And.intro @Nat.zero_mul (And.intro @Nat.one_mul (And.intro @Nat.zero_le (And.intro @List.range_zero (And.intro @List.set_cons_zero.{0} (And.intro @List.length_replicate.{0} (And.intro @List.length_append.{0} (@List.length_set.{0}))))))))))))))))))))))))
def wk7:=And.intro @Int.sub_zero (And.intro @List.drop_zero.{0} (And.intro @List.length_cons.{0} (And.intro @List.length_nil.{0} (And.intro @Nat.lt_add_one (And.intro @Nat.zero_add (And.intro @Int.toNat_natCast (And.intro @List.map_cons.{0,0} (And.intro @List.map_nil.{0,0} (And.intro @List.getD_cons_zero.{0} (And.intro @List.getD_cons_succ.{0} (And.intro @List.getElem?_cons_zero.{0} (And.intro @List.getElem?_cons_succ.{0} (And.intro @List.getElem?_nil.{0} (And.intro @Option.getD_some.{0} (And.intro @Option.getD_none.{0} (And.intro @Option.map_some.{0,0} (And.intro @Option.map_none.{0,0} (And.intro @true_and (And.intro @and_true (And.intro @List.append_nil.{0} (And.intro @List.nil_append.{0} (And.intro @List.cons_append.{0} (And.intro @Go.maxLen.eq_1 (@dQ.eq_1))))))))))))))))))))))))
def wk8:=And.intro (λ{zi:Zi}=>@JO.eq_1 zi) (And.intro (λ{zi:Zi}=>@JO.eq_2 zi) (And.intro (λ{zi:Zi}=>@JO.eq_3 zi) (And.intro (λ{zi:Zi}=>@JO.eq_4 zi) (And.intro (λ{zi:Zi}=>@FP.eq_def zi) (And.intro (λ{zi:Zi}=>@retv.eq_def zi) (And.intro @bn.eq_def (And.intro @aH.eq_1 (And.intro @aH.eq_2 (And.intro @lC.eq_1 (And.intro @lC.eq_2 (And.intro @ZQ.eq_def (And.intro @l7.eq_def (And.intro @rAV.eq_1 (And.intro @rAV.eq_2 (And.intro @rAV.eq_3 (And.intro @DY.eq_def (And.intro @kZ.eq_def (And.intro @a4H.eq_def (And.intro @vU.eq_def (And.intro @dA.eq_1 (And.intro @dA.eq_2 (And.intro @aQ.eq_1 (And.intro @aQ.eq_2 ((λ{zi:Zi}=>@qW.eq_def zi)))))))))))))))))))))))))
def wk9:=And.intro @a3x.eq_def (And.intro @a8A.eq_def (And.intro @b1H.eq_def (And.intro @SK.eq_def (And.intro @Ac.eq_def (And.intro @uw.eq_def (And.intro @qV.eq_def (And.intro @y7.eq_def (And.intro @DT.eq_def (And.intro @a8B.eq_def (And.intro @LP.eq_def (And.intro @jJ.eq_def (And.intro @yc.eq_def (And.intro @aUn.eq_def (And.intro @ZM.eq_def (And.intro @Aa.eq_def (And.intro @a5n.eq_def (And.intro @Ad.eq_def (And.intro @iW.eq_def (And.intro @nO.eq_def (And.intro @b1G.eq_def (And.intro @oL.eq_def (And.intro @uY.eq_def (And.intro @DN.eq_def (@P7.eq_def))))))))))))))))))))))))
def wkR:=And.intro @VZ (And.intro @Tv (And.intro @uq.eq_def (And.intro @iw.eq_def (And.intro @qY.eq_def (And.intro @V8 (And.intro @UG (And.intro @UF (And.intro @ZU (And.intro @MF (And.intro @a3D (And.intro @a3E (And.intro @ZT (And.intro @MC (And.intro @a0e (And.intro @Yh (And.intro @Yg (And.intro (λ{zi:Zi}=>@Nv.eq_1 zi) (And.intro (λ{zi:Zi}=>@Nv.eq_2 zi) (And.intro @a3P (And.intro @PD (And.intro @J8 (And.intro @UN (And.intro @Pn (And.intro @V9 (And.intro @a0q (And.intro @Je (And.intro @a7O (And.intro @a0d (And.intro @a3L (And.intro @Y9 (And.intro @a2p (And.intro @aB.eq_1 (And.intro @aB.eq_2 (@aI.eq_def))))))))))))))))))))))))))))))))))
theorem b4g : @zsl zi0=.sl []:=rfl
theorem Yi (avs:List AV)(t:Nat):EX avs t=(avs[t]?).getD .undef:=rfl
def wkX:=And.intro b4c (And.intro @qZ.eq_def (And.intro b4o (And.intro @ZV (And.intro @MG (And.intro @a3N (And.intro @Yi (And.intro @G6.eq_1 (And.intro @G6.eq_2 (And.intro @b1U.eq_def (And.intro b4g (And.intro b4k (And.intro (λ{zi:Zi}=>@uy.eq_def zi) (And.intro (λ{zi:Zi}=>@LY.eq_def zi) (And.intro @NS.eq_def (And.intro @a5N (And.intro @VF (And.intro @a5Q (And.intro @a5O (And.intro @a5P (And.intro @qX.eq_def (And.intro @yu.eq_def (And.intro @Vf.eq_def (And.intro @ZR (And.intro @MB (And.intro @W9 (And.intro @Oo (And.intro @Yf (@HC.mrk.injEq))))))))))))))))))))))))))))
def wk:=And.intro wkX (And.intro wkR (And.intro wk0 (And.intro wk1 (And.intro wk2 (And.intro wk3 (And.intro wk4 (And.intro wk5 (And.intro wk6 (And.intro wk7 (And.intro wk8 (wk9)))))))))))
end Go.AL
