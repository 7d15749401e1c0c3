/-
 The abstract logic: whole functions.
-/
import Derived.Test.YtnjaeokkfbihlaaGreatAbsDM
namespace Go.AL
variable {zi:Zi}
open Go.RowKit
set_option linter.unusedSimpArgs false
set_option linter.unusedVariables false
abbrev Post:=Exit->Fr->Hp->Prop
def SeqQ (K:Fr->Hp->Prop)(Q:Post):Post
 |.normal,f,H=>K f H
 |e,f,H=>Q e f H
def BlockQ (id:Nat)(Q:Post):Post
 |.exit id',f,H=>if id'=id then Q .normal f H else Q (.exit id') f H
 |e,f,H=>Q e f H
def ScopeQ (Q:Post):Post
 |.goto _,_,_=>False
 |e,f,H=>Q e f H
def LoopQ (I:Fr->Hp->Prop)(μ:Fr->Hp->Nat)(n:Nat)(Q:Post):Post
 |.normal,f,H=>I f H/\μ f H<n
 |e,f,H=>Q e f H
def OrdQ (ops:Array Oper)(Q:Post)(f:Fr)(H:Hp)(lg:Log):Prop:=logOk ops lg.reverse=true/\Q .normal f H
def PlainQ (Q:Post)(f:Fr)(H:Hp)(_:Log):Prop:=Q .normal f H
def ghostF (f:Fr)(H:Hp)(t h:Nat):Fr:=upd f t (.hs h ((H h).stamp+1))
def ghostH (H:Hp)(h e sz:Nat):Hp:=updH H h (.blk false ((H h).stamp+1) e sz [])
inductive Weak:Fr->Hp->Fr->Hp->Prop
 |refl (f:Fr) (H:Hp):Weak f H f H
 |nil (t h e sz:Nat) {f f':Fr} {H H':Hp} (hf:f t=.nils) (k:Weak (ghostF f H t h) (ghostH H h e sz) f' H'):Weak f H f' H'
 |nilv (t:Nat) {f f':Fr} {H H':Hp} (hf:f t=.nils) (k:Weak (upd f t (.iv (.sl []))) H f' H'):Weak f H f' H'
 |nilo (t e sz:Nat) {f f':Fr} {H H':Hp} (hf:f t=.nils) (k:Weak (upd f t (.iv (.own none e sz []))) H f' H'):Weak f H f' H'
 |ren (t h h' st e sz:Nat) (rows:List (List IV)) {f f':Fr} {H H':Hp} (hf:f t=.hs h st) (hH:H h=.blk false st e sz rows) (hne:h≠h') (k:Weak (upd f t (.hs h' ((H h').stamp+1))) (updH (updH H h (.blk true (st+1) e sz [])) h' (.blk false ((H h').stamp+1) e sz rows)) f' H'):Weak f H f' H'
 |iv (t h st:Nat) (b:Bool) (e sz:Nat) (rows:List (List IV)) {f f':Fr} {H H':Hp} (hf:f t=.hs h st) (hH:H h=.blk b st e sz rows) (k:Weak (upd f t (.iv (.sl rows))) (updH H h (.blk true st e sz rows)) f' H'):Weak f H f' H'
 |nst0 (h st e:Nat) {f f':Fr} {H H':Hp} (hH:H h=.blk false st e 1 []) (k:Weak f (updH H h (.nst st e [])) f' H'):Weak f H f' H'
 |renb (t h h' st i off e:Nat) (rows:List AV) {f f':Fr} {H H':Hp} (hf:f t=.hp h st i off) (hH:H h=.nst st e rows) (hne:h≠h') (k:Weak (upd f t (.hp h' ((H h').stamp+1) i off)) (updH (updH H h (.gone (st+1) 1)) h' (.nst ((H h').stamp+1) e rows)) f' H'):Weak f H f' H'
theorem Weak.trans {f1 f2 f3:Fr}{H1 H2 H3:Hp}(h:Weak f1 H1 f2 H2)(k:Weak f2 H2 f3 H3):Weak f1 H1 f3 H3:=by
 induction h with
 |refl=>exact k
 |nil t h e sz hf _ ih=>exact .nil t h e sz hf (ih k)
 |nilv t hf _ ih=>exact .nilv t hf (ih k)
 |nilo t e sz hf _ ih=>exact .nilo t e sz hf (ih k)
 |iv t h st b e sz rows hf hH _ ih=>exact .iv t h st b e sz rows hf hH (ih k)
 |nst0 h st e hH _ ih=>exact .nst0 h st e hH (ih k)
 |ren t h h' st e sz rows hf hH hne _ ih=>exact .ren t h h' st e sz rows hf hH hne (ih k)
 |renb t h h' st i off e rows hf hH hne _ ih=>exact .renb t h h' st i off e rows hf hH hne (ih k)
def ACnd (v:AV)(X Y:Prop):Prop :=
 match v with
 |.iv (.bool b)=>(b=true->X)/\(b=false->Y)
 |.ub=>X/\Y
 |_=>False
def AW [Zi] (P:Program):Code->Post->Fr->Hp->Prop
 |.skip,Q,f,H=>Q .normal f H
 |.region _ ops false,Q,f,H=>AOps P (dsts ops) ops.toList (PlainQ Q) f H []
 |.region _ ops true,Q,f,H=>(tmpsOk ops=true/\AOps P (dsts ops) ops.toList (OrdQ ops Q) f H []) \/
   ∃ord inv,permOk ops.toList ord inv=true/\tmpsOk (permL ops.toList ord inv).toArray=true/\AOps P (dsts (permL ops.toList ord inv).toArray) (permL ops.toList ord inv) (OrdQ (permL ops.toList ord inv).toArray Q) f H []
 |.seq x y,Q,f,H=>AW P x (SeqQ (AW P y Q) Q) f H
 |.cond c x y,Q,f,H=>ACnd (ev f c) (AW P x Q f H) (AW P y Q f H)
 |.block id c,Q,f,H=>AW P c (BlockQ id Q) f H
 |.loop c,Q,f,H=>∃(I:Fr->Hp->Prop) (μ:Fr->Hp->Nat),(∃f' H',Weak f H f' H'/\I f' H')/\∀f H,I f H->AW P c (LoopQ I μ (μ f H) Q) f H
 |.exit id,Q,f,H=>Q (.exit id) f H
 |.scope c,Q,f,H=>AW P c (ScopeQ Q) f H
 |.label _,Q,f,H=>Q .normal f H
 |.ret,Q,f,H=>Q .ret f H
 |.rangeFunc g ps assign body,Q,f,H=>∃(f1:Fr) (H1:Hp) (gf:Nat) (l:List AV) (c:Prop) (caps:List (List IV)) (ms:List Nat) (n:Nat) (it:Nat->List CV) (I:Nat->Hp->Prop) (J:Code->Hp->Prop),
   Weak f H f1 H1/\ev f1 g=.fn gf l/\toboxes H1 l=some (c,caps,ms)/\c/\AIter P gf caps ps.size n it/\I 0 (frzAll ms H1) /\
   (∀k H2,k<n->I k H2->AW P assign (AsgQ λf3 H3=>AW P body (RoundQ I J k) f3 H3) (lays f1 ps.toList ((it k).map CV.av)) H2) /\
   (∀H2,I n H2->Q .normal f1 H2)/\(∀H2,J .ret H2->Q .ret f1 H2)/\(∀id H2,J (.exit id) H2->Q (.exit id) f1 H2)
 |_,_,_,_=>False
def noRange:Code->Bool
 |.seq x y=>noRange x && noRange y
 |.cond _ x y=>noRange x && noRange y
 |.block _ c=>noRange c
 |.loop c=>noRange c
 |.scope c=>noRange c
 |.rangeFunc ..=>false
 |_=>true
def codeOk (N:Nat):Code->Bool
 |.region _ ops _=>ops.toList.all λo=>match o.dst with|some d=>decide (d<N)|none=>true
 |.seq x y=>codeOk N x && codeOk N y
 |.cond _ x y=>codeOk N x && codeOk N y
 |.block _ c=>codeOk N c
 |.loop c=>codeOk N c
 |.scope c=>codeOk N c
 |.rangeFunc _ ps x y=>ps.toList.all (λp=>decide (p<N)) && codeOk N x && codeOk N y && noRange x && noRange y
 |_=>true
section
variable {P:Program} {G:Gh} {M:Nat->Prop} {w0:World} {D0:Nat->Prop} {N:Nat}
theorem Rel.put_self {f:Fr}{H:Hp}{β:Nat->Value}{a:Act}{w:World}(R:Rel G M w0 D0 N f H β a w){t:Nat}{v:Value}(ht:t<N)(hx:a.tmps.getD t Go.undef=v):a.put (some t) v=a:=by
 have h1:t<a.tmps.size:=by rw[R.tsize];exact ht
 have h2:a.tmps[t]=v:=by
  rw[Array.getD_eq_getD_getElem?,Array.getElem?_eq_getElem h1]at hx;exact hx
 have h3:a.tmps.setIfInBounds t v=a.tmps:=by
  rw[Array.setIfInBounds,dif_pos h1,<-h2];exact Array.set_getElem_self h1
 show ({ a with tmps:=a.tmps.setIfInBounds t v }:Act)=a;rw[h3]
theorem Rel.in_range {f:Fr}{H:Hp}{β:Nat->Value}{a:Act}{w:World}(R:Rel G M w0 D0 N f H β a w){t:Nat}(h:∀v,a.tmps.getD t Go.undef=v->v≠Go.undef):t<N:=by
 rcases Nat.lt_or_ge t N with h'|h'
 .exact h'
 .exact(h _ (by rw[Array.getD_eq_getD_getElem?,Array.getElem?_eq_none (by rw[R.tsize];exact h')];rfl) rfl).elim
theorem Rel.weak {f f':Fr}{H H':Hp}(k:Weak f H f' H'):∀{β:Nat->Value} {a:Act} {w:World},Rel G M w0 D0 N f H β a w->∃β',Rel G M w0 D0 N f' H' β' a w:=by
 induction k with
 |refl f H=>exact λR=>⟨_,R⟩
 |nil t h e sz hf k ih =>
  rename_i f f' H H';intro β a w R;have hx:=R.tmps t;rw[hf]at hx;simp only[AVRep]at hx;have ht:t<N:=by
   rcases Nat.lt_or_ge t N with h|h
   .exact h
   .rw[Array.getD_eq_getD_getElem?,Array.getElem?_eq_none (by rw[R.tsize];exact h)]at hx;cases hx
  obtain⟨β',hb,_,R'⟩:=R.fresh (w':=w) (h:=h) (e:=e) (sz:=sz) (rows:=[]) (v:=.slice none 0 0) (dst:=some t) (x:=.hs h ((H h).stamp+1)) (val:=.slice none 0 0) (st:=(H h).stamp+1) (by omega) rfl rfl rfl (Nat.le_refl _) (λ_ _=>rfl)
   ⟨by simp,.inl ⟨rfl,rfl⟩⟩ (λβ' hb D=>by simp only[AVRep,updH_same,HC.stamp];exact⟨Nat.le_refl _,λ_=>hb.symm⟩) (by rintro _ ⟨⟩;exact ht)
  have hput:a.put (some t) (.slice none 0 0)=a:=by
   have h1:t<a.tmps.size:=by rw[R.tsize];exact ht
   have h2:a.tmps[t]=.slice none 0 0:=by
    rw[Array.getD_eq_getD_getElem?,Array.getElem?_eq_getElem h1]at hx;exact hx
   have h3:a.tmps.setIfInBounds t (.slice none 0 0)=a.tmps:=by
    rw[Array.setIfInBounds,dif_pos h1,<-h2];exact Array.set_getElem_self h1
   show ({ a with tmps:=a.tmps.setIfInBounds t (.slice none 0 0) }:Act)=a;rw[h3]
  rw[hput]at R';exact ih R'
 |nilv t hf k ih =>
  rename_i f f' H H';intro β a w R;have hx:=R.tmps t;rw[hf]at hx;simp only[AVRep]at hx;have ht:t<N:=R.in_range (t:=t) (λv hv=>by rw[hx]at hv;subst hv;intro h;cases h);have R':=R.value (dst:=some t) (v:=.iv (.sl [])) (val:=.slice none 0 0) (by simp only[AVRep];exact .nil none 0 (Nat.zero_le _)) (by rintro _ ⟨⟩;exact ht);rw[R.put_self ht hx]at R';exact ih R'
 |nilo t e sz hf k ih =>
  rename_i f f' H H';intro β a w R;have hx:=R.tmps t;rw[hf]at hx;simp only[AVRep]at hx;have ht:t<N:=R.in_range (t:=t) (λv hv=>by rw[hx]at hv;subst hv;intro h;cases h);have R':=R.value (dst:=some t) (v:=.iv (.own none e sz [])) (val:=.slice none 0 0) (by simp only[AVRep];exact .ownN e sz) (by rintro _ ⟨⟩;exact ht);rw[R.put_self ht hx]at R';exact ih R'
 |ren t h h' st e sz rows hf hH hne k ih =>
  rename_i f f' H H';intro β a w R;have hx:=R.tmps t;rw[hf]at hx;simp only[AVRep]at hx;have hv:a.tmps.getD t Go.undef=β h:=hx.2 (by rw[hH];rfl);have ho:=R.own h _ _ _ _ hH;have ht:t<N:=R.in_range (t:=t) (λv hv'=>by
   rw[hv]at hv';rcases ho.2 with ⟨_,hn⟩|⟨g,cap,cur,hn,_⟩<;>(rw[hn]at hv';subst hv';intro h;cases h))
  obtain⟨β2,hβ2⟩:∃β2:Nat->Value,β2=λu=>if u=h' then β h else if u=h then .slice none 0 0 else β u:=⟨_,rfl⟩
  have b1:β2 h'=β h:=by rw[hβ2];simp
  have b2:β2 h=.slice none 0 0:=by rw[hβ2];simp[hne]
  have b3:∀u,u≠h->u≠h'->β2 u=β u:=λu h1 h2=>by rw[hβ2];simp[h1,h2]
  have c1:updH (updH H h (.blk true (st+1) e sz [])) h' (.blk false ((H h').stamp+1) e sz rows) h'=.blk false ((H h').stamp+1) e sz rows:=updH_same _ _ _;have c2:updH (updH H h (.blk true (st+1) e sz [])) h' (.blk false ((H h').stamp+1) e sz rows) h=.blk true (st+1) e sz []:=by rw[updH_ne _ _ hne,updH_same]
  have c3:∀u,u≠h->u≠h'->updH (updH H h (.blk true (st+1) e sz [])) h' (.blk false ((H h').stamp+1) e sz rows) u=H u:=λu h1 h2=>by rw[updH_ne _ _ h2,updH_ne _ _ h1]
  generalize updH (updH H h (.blk true (st+1) e sz [])) h' (.blk false ((H h').stamp+1) e sz rows)=H2 at *;have hsub:∀b,DD H2 β2 D0 b->DD H β D0 b:=by
   rintro b (hb|⟨u,hm,hk⟩)
   .exact .inl hb
   .by_cases h1:u=h
    .subst h1;rw[c2]at hm;exact hm.elim
    .by_cases h2:u=h'
     .subst h2;rw[b1]at hk;exact .inr ⟨h,by rw[hH];trivial,hk⟩
     .rw[c3 u h1 h2]at hm;rw[b3 u h1 h2]at hk;exact .inr ⟨u,hm,hk⟩
  have g:Grows w (DD H β D0) w (DD H2 β2 D0):=Grows.of_sub hsub;have R':=R.step (w':=w) (H':=H2) (β':=β2) (dst:=some t) (v:=.hs h' ((H h').stamp+1)) (val:=a.tmps.getD t Go.undef) rfl rfl rfl g (λ_ _ _=>rfl) (λ_ _ h=>h) (λu=>?_) ?_ (λu st1 e1 sz1 rows1 hu=>?_) (λu st1 e1 sz1 rows1 hu=>?_) (λu u' huu hm hm' kk hk hk'=>?_) (λu st1 e1 rows1 hu=>?_) (λu B hu=>by
   by_cases h1:u=h
   .subst h1;rw[c2]at hu;cases hu
   .by_cases h2:u=h'
    .subst h2;rw[c1]at hu;cases hu
    .rw[c3 u h1 h2]at hu;exact R.mrk u B hu) (by rintro _ ⟨⟩;exact ht) (λu x v hu=>by
   by_cases h1:u=h
   .subst h1;rw[c2]at hu;cases hu
   .by_cases h2:u=h'
    .subst h2;rw[c1]at hu;cases hu
    .rw[c3 u h1 h2]at hu;exact hu)
  .rw[R.put_self ht rfl]at R';exact ih R'
  .by_cases h1:u=h
   .subst h1;right;rw[c2,hH];simp[HC.stamp]
   .by_cases h2:u=h'
    .subst h2;right;rw[c1];simp[HC.stamp]
    .left;rw[c3 u h1 h2,b3 u h1 h2];exact⟨rfl,rfl,rfl⟩
  .simp only[AVRep,c1,HC.stamp,b1];exact⟨Nat.le_refl _,λ_=>hv⟩
  .by_cases h1:u=h
   .subst h1;rw[c2]at hu;cases hu
   .by_cases h2:u=h'
    .subst h2;rw[c1]at hu;injection hu with _ q1 q2 q3 q4;subst q1 q2 q3 q4;rw[b1];exact ho.mono g λ_ _=>rfl
    .rw[c3 u h1 h2]at hu;rw[b3 u h1 h2];exact(R.own u _ _ _ _ hu).mono g λ_ _=>rfl
  .by_cases h1:u=h
   .subst h1;rw[c2]at hu;injection hu with _ q1 q2 q3 q4;subst q1 q2 q3 q4;rw[b2];exact⟨by simp,.nil _ _ (Nat.zero_le _),λad n cap hv=>by cases hv⟩
   .by_cases h2:u=h'
    .subst h2;rw[c1]at hu;cases hu
    .rw[c3 u h1 h2]at hu;rw[b3 u h1 h2];exact⟨(R.frz u _ _ _ _ hu).1,(R.frz u _ _ _ _ hu).2.1.mono g,(R.frz u _ _ _ _ hu).2.2⟩
  .have key:∀u u',u≠u'->(H2 u).isMut->(H2 u').isMut->u≠h'->headOf (β2 u)=some kk->headOf (β2 u')≠some kk:=by
    intro u u' huu hm hm' hu hk hk';have h1:u≠h:=λe=>by subst e;rw[c2]at hm;exact hm.elim
    have h1':u'≠h:=λe=>by subst e;rw[c2]at hm';exact hm'.elim
    rw[c3 u h1 hu]at hm;rw[b3 u h1 hu]at hk;by_cases h2:u'=h'
    .subst h2;rw[b1]at hk';exact R.dis u h h1 hm (by rw[hH];trivial) kk hk hk'
    .rw[c3 u' h1' h2]at hm';rw[b3 u' h1' h2]at hk';exact R.dis u u' huu hm hm' kk hk hk'
   by_cases hu:u=h'
   .exact key u' u (Ne.symm huu) hm' hm (λe=>huu (hu.trans e.symm)) hk' hk
   .exact key u u' huu hm hm' hu hk hk'
  .have h1:u≠h:=λe=>by subst e;rw[c2]at hu;cases hu
   have h2:u≠h':=λe=>by subst e;rw[c1]at hu;cases hu
   rw[c3 u h1 h2]at hu;rw[b3 u h1 h2];refine(R.nst u _ _ _ hu).mono g (λu=>?_) λ_ _=>rfl;by_cases h1:u=h
   .subst h1;right;rw[c2,hH];simp[HC.stamp]
   .by_cases h2:u=h'
    .subst h2;right;rw[c1];simp[HC.stamp]
    .left;rw[c3 u h1 h2,b3 u h1 h2];exact⟨rfl,rfl,rfl⟩
 |renb t h h' st i off e rows hf hH hne k ih =>
  rename_i f f' H H';intro β a w R;have hx:=R.tmps t;rw[hf]at hx;simp only[AVRep]at hx;obtain⟨g0,n0,cap0,hg0,hv⟩:=hx.2 (by rw[hH];rfl);have ho:=R.nst h _ _ _ hH;have ht:t<N:=R.in_range (t:=t) (λv hv'=>by
   rw[hv]at hv';subst hv';intro h;cases h)
  obtain⟨β2,hβ2⟩:∃β2:Nat->Value,β2=λu=>if u=h' then β h else if u=h then .slice none 0 0 else β u:=⟨_,rfl⟩
  have b1:β2 h'=β h:=by rw[hβ2];simp
  have b3:∀u,u≠h->u≠h'->β2 u=β u:=λu h1 h2=>by rw[hβ2];simp[h1,h2]
  have c1:updH (updH H h (.gone (st+1) 1)) h' (.nst ((H h').stamp+1) e rows) h'=.nst ((H h').stamp+1) e rows:=updH_same _ _ _;have c2:updH (updH H h (.gone (st+1) 1)) h' (.nst ((H h').stamp+1) e rows) h=.gone (st+1) 1:=by rw[updH_ne _ _ hne,updH_same]
  have c3:∀u,u≠h->u≠h'->updH (updH H h (.gone (st+1) 1)) h' (.nst ((H h').stamp+1) e rows) u=H u:=λu h1 h2=>by rw[updH_ne _ _ h2,updH_ne _ _ h1]
  generalize updH (updH H h (.gone (st+1) 1)) h' (.nst ((H h').stamp+1) e rows)=H2 at *;have hsub:∀b,DD H2 β2 D0 b->DD H β D0 b:=by
   rintro b (hb|⟨u,hm,hk⟩)
   .exact .inl hb
   .by_cases h1:u=h
    .subst h1;rw[c2]at hm;exact hm.elim
    .by_cases h2:u=h'
     .subst h2;rw[b1]at hk;exact .inr ⟨h,by rw[hH];trivial,hk⟩
     .rw[c3 u h1 h2]at hm;rw[b3 u h1 h2]at hk;exact .inr ⟨u,hm,hk⟩
  have g:Grows w (DD H β D0) w (DD H2 β2 D0):=Grows.of_sub hsub;have hstep:HStep H β H2 β2:=λu=>by
   by_cases h1:u=h
   .subst h1;right;rw[c2,hH];simp[HC.stamp]
   .by_cases h2:u=h'
    .subst h2;right;rw[c1];simp[HC.stamp]
    .left;rw[c3 u h1 h2,b3 u h1 h2];exact⟨rfl,rfl,rfl⟩
  have R':=R.step (w':=w) (H':=H2) (β':=β2) (dst:=some t) (v:=.hp h' ((H h').stamp+1) i off) (val:=a.tmps.getD t Go.undef) rfl rfl rfl g (λ_ _ _=>rfl) (λ_ _ h=>h) hstep ?_ (λu st1 e1 sz1 rows1 hu=>?_) (λu st1 e1 sz1 rows1 hu=>?_) (λu u' huu hm hm' kk hk hk'=>?_) (λu st1 e1 rows1 hu=>?_) (λu B hu=>by
   by_cases h1:u=h
   .subst h1;rw[c2]at hu;cases hu
   .by_cases h2:u=h'
    .subst h2;rw[c1]at hu;cases hu
    .rw[c3 u h1 h2]at hu;exact R.mrk u B hu) (by rintro _ ⟨⟩;exact ht) (λu x v hu=>by
   by_cases h1:u=h
   .subst h1;rw[c2]at hu;cases hu
   .by_cases h2:u=h'
    .subst h2;rw[c1]at hu;cases hu
    .rw[c3 u h1 h2]at hu;exact hu)
  .rw[R.put_self ht rfl]at R';exact ih R'
  .simp only[AVRep,c1,HC.stamp,b1];refine⟨Nat.le_refl _,λ_=>⟨g0,n0,cap0,hg0,?_⟩⟩;rw[hv,hH];rfl
  .by_cases h1:u=h
   .subst h1;rw[c2]at hu;cases hu
   .by_cases h2:u=h'
    .subst h2;rw[c1]at hu;cases hu
    .rw[c3 u h1 h2]at hu;rw[b3 u h1 h2];exact(R.own u _ _ _ _ hu).mono g λ_ _=>rfl
  .by_cases h1:u=h
   .subst h1;rw[c2]at hu;cases hu
   .by_cases h2:u=h'
    .subst h2;rw[c1]at hu;cases hu
    .rw[c3 u h1 h2]at hu;rw[b3 u h1 h2];exact⟨(R.frz u _ _ _ _ hu).1,(R.frz u _ _ _ _ hu).2.1.mono g,(R.frz u _ _ _ _ hu).2.2⟩
  .have key:∀u u',u≠u'->(H2 u).isMut->(H2 u').isMut->u≠h'->headOf (β2 u)=some kk->headOf (β2 u')≠some kk:=by
    intro u u' huu hm hm' hu hk hk';have h1:u≠h:=λe=>by subst e;rw[c2]at hm;exact hm.elim
    have h1':u'≠h:=λe=>by subst e;rw[c2]at hm';exact hm'.elim
    rw[c3 u h1 hu]at hm;rw[b3 u h1 hu]at hk;by_cases h2:u'=h'
    .subst h2;rw[b1]at hk';exact R.dis u h h1 hm (by rw[hH];trivial) kk hk hk'
    .rw[c3 u' h1' h2]at hm';rw[b3 u' h1' h2]at hk';exact R.dis u u' huu hm hm' kk hk hk'
   by_cases hu:u=h'
   .exact key u' u (Ne.symm huu) hm' hm (λe=>huu (hu.trans e.symm)) hk' hk
   .exact key u u' huu hm hm' hu hk hk'
  .by_cases h1:u=h
   .subst h1;rw[c2]at hu;cases hu
   .by_cases h2:u=h'
    .subst h2;rw[c1]at hu;injection hu with q1 q2 q3;subst q1 q2 q3;rw[b1];exact ho.mono g hstep λ_ _=>rfl
    .rw[c3 u h1 h2]at hu;rw[b3 u h1 h2];exact(R.nst u _ _ _ hu).mono g hstep λ_ _=>rfl
 |nst0 h st e hH k ih =>
  intro β a w R;exact ih (R.nest (vs:=[]) (xs:=[]) hH (by simp[AVReps]))
 |iv t h st b e sz rows hf hH k ih =>
  rename_i f f' H H';intro β a w R;have R1:=R.freeze h;rw[hH]at R1;simp only[HC.frz]at R1;have hfr:=R1.frz h st e sz rows (by rw[updH_same]);have hx:=R1.tmps t;rw[hf]at hx;simp only[AVRep,updH_same,HC.stamp]at hx;have hv:=hx.2 trivial;have hrep:=hfr.2.1;rw[<-hv]at hrep;have ht:t<N:=R.in_range (t:=t) (λv hv'=>by rw[hv']at hrep;intro h;rw[h]at hrep;cases hrep);have R':=R1.value (dst:=some t) (v:=.iv (.sl rows)) (val:=a.tmps.getD t Go.undef) (by simp only[AVRep];exact hrep) (by rintro _ ⟨⟩;exact ht);rw[R.put_self ht rfl]at R';exact ih R'
theorem aw_sound (hm:P.follows .mixedOrders=true):∀(c:Code) (ro:Option Nat) (G:Gh) (M:Nat->Prop) (w0:World) (Q:Post) (f:Fr) (H:Hp) (β:Nat->Value) (a:Act) (w:World),(noRange c=true\/(ro=none/\G.rnd=false))->codeOk N c=true->AW P c Q f H->Rel G M w0 D0 N f H β a w->c.wpIn (Wd ro) 0 P (Conc G M w0 D0 N Q) a w
 |.skip,ro,G,M,w0,Q,f,H,β,a,w,hro,_,h,R=>wpIn_skip ⟨f,H,β,h,R⟩
 |.region id ops false,ro,G,M,w0,Q,f,H,β,a,w,hro,hd,h,R=>by
  simp only[codeOk,List.all_eq_true]at hd;refine wpIn_region_list (aops_list (λf H lg β a w hk R=>⟨f,H,β,hk,R⟩) ops.toList f H [] β a w (λo ho d hod=>?_) h R);have:=hd o ho;rw[hod]at this;simpa using this
 |.region id ops true,ro,G,M,w0,Q,f,H,β,a,w,hro,hd,h,R=>by
  simp only[codeOk,List.all_eq_true]at hd;have hdst:∀o∈ops.toList,∀d,o.dst=some d->d<N:=λo ho d hod=>by
   have:=hd o ho;rw[hod]at this;simpa using this
  rcases h with ⟨h1,h2⟩|⟨ord,inv,h0,h1,h2⟩
  .refine wpIn_region_any hm (aops_any (f:=f) (H:=H) (β:=β) (λi hi d hod=>?_) (λf H lg hk=>⟨hk.1,λβ a w R=>⟨f,H,β,hk.2,R⟩⟩) h1 h2 R.drew);exact hdst (ops.getD i default) (by simp[Array.getD_eq_getD_getElem?,hi]) d hod
  .have h0':=h0;simp only[permOk,Bool.and_eq_true,beq_iff_eq,List.all_eq_true,List.mem_range,decide_eq_true_eq]at h0';obtain⟨⟨⟨ho,hi⟩,hp⟩,hops⟩:=h0';have hsz:(permL ops.toList ord inv).toArray.size=ops.size:=by simp[permL,ho]
   have e:ops.toList.toArray=ops:=by simp
   have:=aops_any (ro:=ro) (ops:=(permL ops.toList ord inv).toArray) (Q:=Conc G M w0 D0 N Q) (f:=f) (H:=H) (β:=β) (λi hi d hod=>?_) (λf H lg hk=>⟨hk.1,λβ a w R=>⟨f,H,β,hk.2,R⟩⟩) h1 h2 R.drew
   .rw[hsz]at this;refine wpIn_region_any hm ?_;have:=wpAny_perm h0 ops.size (Array.replicate ops.size false) (Array.replicate ops.size false) a _ (by simp) (by simp) (λp hlt=>?_) this
    .rw[e]at this;exact this
    .have hlt':p<ops.size:=by simpa using hlt
     have h3:=(hp p hlt).1.1.1;simp only[Array.length_toList]at h3;simp only[Array.getD_eq_getD_getElem?,Array.getElem?_replicate,hlt',h3,if_true]
   .rw[hsz]at hi;have hlt:i<ord.length:=by rw[ho];simpa using hi
    have h3:=(hp i (by simpa using hi)).1.1.1;have e2:(permL ops.toList ord inv).toArray.getD i default=renm inv (ops.toList.getD (ord.getD i 0) default):=by
     simp[Array.getD_eq_getD_getElem?,permL,List.getElem?_map,hlt,List.getD]
    rw[e2]at hod;exact hdst (ops.toList.getD (ord.getD i 0) default) (List.mem_of_getElem? (get_getD _ default h3)) d hod
 |.seq x y,ro,G,M,w0,Q,f,H,β,a,w,hro,hd,h,R=>by
  simp only[codeOk,noRange,Bool.and_eq_true]at hd hro;refine wpIn_seq (wpIn_mono (aw_sound hm x ro G M w0 _ f H β a w (hro.imp (·.1) id) hd.1 h R) λe a w hq=>?_);cases e with
  |normal=>obtain⟨f,H,β,hk,R⟩:=hq;exact aw_sound hm y ro G M w0 Q f H β a w (hro.imp (·.2) id) hd.2 hk R
  |panic _=>exact hq.elim
  |outgrown=>exact hq.elim
  |_=>exact hq
 |.cond c x y,ro,G,M,w0,Q,f,H,β,a,w,hro,hd,h,R=>by
  simp only[codeOk,noRange,Bool.and_eq_true]at hd hro;have hc:=R.ev c;unfold AW ACnd at h;split at h
  .rename_i b hb;rw[hb]at hc;simp only[AVRep]at hc;generalize hv:a.eval c=v at hc;cases hc;exact wpIn_cond_split hv (λht=>aw_sound hm x ro G M w0 Q f H β a w (hro.imp (·.1) id) hd.1 (h.1 ht) R) (λhf=>aw_sound hm y ro G M w0 Q f H β a w (hro.imp (·.2) id) hd.2 (h.2 hf) R)
  .rename_i hb;rw[hb]at hc;simp only[AVRep]at hc;obtain⟨b,hc⟩:=hc;exact wpIn_cond_split hc (λht=>aw_sound hm x ro G M w0 Q f H β a w (hro.imp (·.1) id) hd.1 h.1 R) (λhf=>aw_sound hm y ro G M w0 Q f H β a w (hro.imp (·.2) id) hd.2 h.2 R)
  .exact h.elim
 |.block id c,ro,G,M,w0,Q,f,H,β,a,w,hro,hd,h,R=>by
  simp only[codeOk,noRange]at hd hro;refine wpIn_block (wpIn_mono (aw_sound hm c ro G M w0 _ f H β a w hro hd h R) λe a w hq=>?_);cases e with
  |exit id' =>
   obtain⟨f,H,β,hk,R⟩:=hq;simp only[BlockQ]at hk;simp only[Exit.inBlock];split at hk
   .rename_i hid;rw[if_pos hid];exact⟨f,H,β,hk,R⟩
   .rename_i hid;rw[if_neg hid];exact⟨f,H,β,hk,R⟩
  |panic _=>exact hq.elim
  |outgrown=>exact hq.elim
  |_=>exact hq
 |.loop c,ro,G,M,w0,Q,f,H,β,a,w,hro,hd,h,R=>by
  simp only[codeOk,noRange]at hd hro;obtain⟨I,μ,⟨f',H',hk,h0⟩,hr⟩:=h;obtain⟨β',R'⟩:=R.weak hk;refine wpIn_loop_rel (λn a w=>∃f H β,I f H/\Rel G M w0 D0 N f H β a w/\μ f H=n) ?_ (m:=μ f' H') ⟨f',H',β',h0,R',rfl⟩;rintro n a w ⟨f,H,β,hI,R,rfl⟩;refine wpIn_mono (aw_sound hm c ro G M w0 _ f H β a w hro hd (hr f H hI) R) λe a w hq=>?_;cases e with
  |normal=>obtain⟨f',H',β',hk,R'⟩:=hq;exact⟨_,hk.2,f',H',β',hk.1,R',rfl⟩
  |panic _=>exact hq.elim
  |outgrown=>exact hq.elim
  |_=>exact hq
 |.exit id,ro,G,M,w0,Q,f,H,β,a,w,hro,_,h,R=>wpIn_exit ⟨f,H,β,h,R⟩
 |.scope c,ro,G,M,w0,Q,f,H,β,a,w,hro,hd,h,R=>by
  simp only[codeOk,noRange]at hd hro;refine wpIn_scope_straight (wpIn_mono (aw_sound hm c ro G M w0 _ f H β a w hro hd h R) λe a w hq=>?_);cases e with
  |goto l=>obtain⟨f,H,β,hk,R⟩:=hq;exact hk.elim
  |panic _=>exact hq.elim
  |outgrown=>exact hq.elim
  |_=>exact hq
 |.label l,ro,G,M,w0,Q,f,H,β,a,w,hro,_,h,R=>wpIn_label ⟨f,H,β,h,R⟩
 |.ret,ro,G,M,w0,Q,f,H,β,a,w,hro,_,h,R=>wpIn_ret ⟨f,H,β,h,R⟩
 |.rangeFunc g ps x y,ro,G,M,w0,Q,f,H,β,a,w,hro,hd,h,R=>by
  rcases hro with hro|⟨rfl,hr⟩
  .simp[noRange]at hro
  simp only[codeOk,Bool.and_eq_true,List.all_eq_true,decide_eq_true_eq]at hd;obtain⟨⟨⟨⟨hps,hx⟩,hy⟩,nx⟩,ny⟩:=hd;obtain⟨f1,H1,gf,l,c,caps,ms,n,it,I,J,hwk,he,ht,hc,hit,h0,hround,hdone,hret,hexit⟩:=h;obtain⟨β',R'⟩:=R.weak hwk;exact range_sound R' hr he ht hc hit hps I J (λk f3 H3=>AW P y (RoundQ I J k) f3 H3) h0
   (λl k H' G' M' w0' β' a' w' hk hI R hrn=>aw_sound hm x (some l) G' M' w0' _ _ _ _ _ _ (.inl nx) hx (hround k H' hk hI) R)
   (λl k f' H' G' M' w0' β' a' w' hk hK R hrn=>aw_sound hm y (some l) G' M' w0' _ _ _ _ _ _ (.inl ny) hy hK R)
   (λH' β' a' w' hI R=>⟨f1,H',β',hdone H' hI,R⟩) (λH' β' a' w' hI R=>⟨f1,H',β',hret H' hI,R⟩) (λid H' β' a' w' hI R=>⟨f1,H',β',hexit id H' hI,R⟩)
 |.goto _,ro,G,M,w0,Q,f,H,β,a,w,hro,_,h,R=>h.elim
 |.refuse _,ro,G,M,w0,Q,f,H,β,a,w,hro,_,h,R=>h.elim
def initF (args:List CV):Fr:=λt=>((args.map CV.av)[t]?).getD .undef
def initH:Hp:=λ_=>.none
def retv [Zi] (P:Program)(f:Fr)(H:Hp):ResultVar->Option (Prop×CV×List Nat)
 |.tmp t=>tocv H (f t)
 |.cell t ty=>match aLoad (ti P ty) H (f t) with
  |some r=>match tocv H r.v with
   |some (c,cv,ms)=>some (r.c/\c,cv,ms)
   |none=>none
  |none=>none
def RetVal [Zi] (P:Program)(f:Fr)(H:Hp)(r:ResultVar)(flat:Bool)(c:CV):Prop :=
 match retv P f H r with
 |some (p,c',ms)=>p/\c'=c/\(flat=true->ms=[])
 |none=>False
def RetOwn (f:Fr)(H:Hp)(r:ResultVar)(e sz:Nat)(rows:List (List IV)):Prop :=
 match r with
 |.tmp t=>match f t with
  |.hs h st=>match H h with
   |.blk false st' e' sz' rows'=>st=st'/\e'=e/\sz'=sz/\rows'=rows
   |_=>False
  |.nils=>rows=[]
  |_=>False
 |_=>False
def rets [Zi] (P:Program)(f:Fr)(H:Hp)(own:OwnRes):Nat->List ResultVar->List CV->Prop
 |_,[],[]=>True
 |j,r::rs,c::cs=>(match own with
   |none=>RetVal P f H r false c
   |some (i,e,sz,rows)=>if i=j then RetOwn f H r e sz rows else RetVal P f H r true c)/\rets P f H own (j+1) rs cs
 |_,_,_=>False
def RetQ [Zi] (P:Program)(rs:List ResultVar)(own:OwnRes)(res:List CV):Post
 |.ret,f,H=>rets P f H own 0 rs res/\(match own with|none=>True|some (i,_)=>i<res.length)
 |.normal,f,H=>rets P f H own 0 rs res/\(match own with|none=>True|some (i,_)=>i<res.length)
 |_,_,_=>False
def rvS (tmps:Array Value):ResultVar->Sem Value
 |.tmp t=>pure (tmps.getD t Go.undef)
 |.cell a t=>do loadVar t (<-asAddr (tmps.getD a Go.undef))
theorem retv_sound {f:Fr}{H:Hp}{β:Nat->Value}{a:Act}{w:World}(R:Rel G M w0 D0 N f H β a w){r:ResultVar}{p:Prop}{c:CV}{ms:List Nat}(h:retv P f H r=some (p,c,ms))(hp:p) :
  ∃v,(rvS a.tmps r).run P w=.ok v w/\CVRep w (DD (frzAll ms H) β D0) c v:=by
 unfold retv at h;split at h
 .rename_i t;exact⟨_,rfl,tocv_sound R (R.tmps t) h hp⟩
 .rename_i t ty;split at h
  .rename_i r hr;split at h
   .rename_i c' cv ms' ht;injection h with h;injection h with e1 e2;injection e2 with e2 e3;subst e1 e2 e3;have hx:=R.tmps t;obtain⟨_,_,u,hu,hrep⟩:=aLoad_sound R hx hr hp.1;refine⟨u,?_,tocv_sound R hrep ht hp.2⟩;have:∃ad,a.tmps.getD t Go.undef=.pointer (some ad):=by
     cases hft:f t<;>rw[hft]at hx hr<;>simp only[aLoad,reduceCtorEq]at hr<;>simp only[AVRep]at hx
     .obtain⟨g,o,h,_⟩:=hx;exact⟨_,h⟩
     .rename_i h st i off;split at hr
      .rename_i hH;have hst:st=(H h).stamp:=by
        rw[hH];simp only[HC.stamp];split at hr<;>(injection hr with hr;subst hr;exact hp.1.2.1)
       obtain⟨g,n,cap,_,h⟩:=hx.2 hst;exact⟨_,h⟩
      .rename_i hH;have hst:st=(H h).stamp:=by
        rw[hH];simp only[HC.stamp];split at hr
        .injection hr with hr;subst hr;exact hp.1.2.1
        .split at hr
         .injection hr with hr;subst hr;exact hp.1.2.1
         .cases hr
       obtain⟨g,n,cap,_,h⟩:=hx.2 hst;exact⟨_,h⟩
      .cases hr
    obtain⟨ad,had⟩:=this;rw[had]at hu;simp only[rvS,had,asAddr,Sem.run_bind,Sem.run_pure,Result.andThen_ok];simpa [Instr.loadAt,Instr.sureAddr] using hu
   .cases h
  .cases h
theorem rets_sound {f:Fr}{H:Hp}{β:Nat->Value}{a:Act}{w:World}(R:Rel ⟨λ_ _=>False,false⟩ (λ_=>False) w0 D0 N f H β a w){own:OwnRes}:∀(rs:List ResultVar) (j:Nat) (cs:List CV),rets P f H own j rs cs ->
  ∃us:List Value,(rs.mapM (rvS a.tmps)).run P w=.ok us w/\us.length=cs.length /\
   (∀(k:Nat) c v,(∀i e sz rows,own=some (i,e,sz,rows)->j+k≠i)->cs[k]?=some c->us[k]?=some v->∃ms,(own.isSome=true->ms=[])/\CVRep w (DD (frzAll ms H) β D0) c v) /\
   (∀(k:Nat) v i e sz rows,own=some (i,e,sz,rows)->j+k=i->us[k]?=some v->Own w (DD H β D0) w0.heap.size (λ_=>False) v e sz rows/\∀b,headOf v=some b->DD H β D0 b)
 |[],j,[],_=>⟨[],by simp,rfl,by simp,by simp⟩
 |r::rs,j,c::cs,h=>by
  simp only[rets]at h;obtain⟨h1,h2⟩:=h;obtain⟨us,a1,a2,a3,a4⟩:=rets_sound R rs (j+1) cs h2;have hval:∀flat,RetVal P f H r flat c->∃v ms,(rvS a.tmps r).run P w=.ok v w/\(flat=true->ms=[])/\CVRep w (DD (frzAll ms H) β D0) c v:=by
   intro flat hv;unfold RetVal at hv;split at hv
   .rename_i p c' ms hr;obtain⟨hp,rfl,hf⟩:=hv;obtain⟨v,hv1,hv2⟩:=retv_sound R hr hp;exact⟨v,ms,hv1,hf,hv2⟩
   .exact hv.elim
  cases own with
  |none =>
   obtain⟨v,ms,hv1,hf,hv2⟩:=hval false h1;refine⟨v::us,by simp[List.mapM_cons,hv1,a1],by simp[a2],λk c' v' hk hc hu=>?_,by simp⟩;cases k with
   |zero=>simp at hc hu;subst hc hu;exact⟨ms,by simp,hv2⟩
   |succ k=>exact a3 k c' v' (by simp) (by simpa using hc) (by simpa using hu)
  |some p =>
   obtain⟨i,e,sz,rows⟩:=p;simp only at h1;split at h1
   .rename_i hij;have ho:∃v,(rvS a.tmps r).run P w=.ok v w/\Own w (DD H β D0) w0.heap.size (λ_=>False) v e sz rows/\∀b,headOf v=some b->DD H β D0 b:=by
     unfold RetOwn at h1;split at h1
     .rename_i t;have hx:=R.tmps t;split at h1
      .rename_i hh st hft;split at h1
       .rename_i st' e' sz' rows' hH;obtain⟨rfl,rfl,rfl,rfl⟩:=h1;rw[hft]at hx;simp only[AVRep]at hx;have hv:=hx.2 (by rw[hH];rfl);refine⟨_,rfl,by rw[hv];exact R.own _ _ _ _ _ hH,λb hb=>?_⟩;rw[hv]at hb;exact .inr ⟨hh,by rw[hH];trivial,hb⟩
       .exact h1.elim
      .rename_i hft;rw[hft]at hx;simp only[AVRep]at hx;subst h1;refine⟨_,rfl,by rw[hx];exact⟨by simp,.inl ⟨rfl,rfl⟩⟩,λb hb=>by rw[hx]at hb;cases hb⟩
      .exact h1.elim
     .exact h1.elim
    obtain⟨v,hv1,hv2⟩:=ho;refine⟨v::us,by simp[List.mapM_cons,hv1,a1],by simp[a2],λk c' v' hk hc hu=>?_,λk v' i' e' sz' rows' ho hk hu=>?_⟩
    .cases k with
     |zero=>exact(hk i e sz rows rfl (by omega)).elim
     |succ k=>exact a3 k c' v' (λi' e' sz' rows' ho=>by have:=hk i' e' sz' rows' ho;omega) (by simpa using hc) (by simpa using hu)
    .cases k with
     |zero=>injection ho with ho;injection ho with e1 ho;injection ho with e2 ho;injection ho with e3 e4;subst e2 e3 e4;simp at hu;subst hu;exact hv2
     |succ k=>exact a4 k v' i' e' sz' rows' ho (by omega) (by simpa using hu)
   .rename_i hij;obtain⟨v,ms,hv1,hf,hv2⟩:=hval true h1;refine⟨v::us,by simp[List.mapM_cons,hv1,a1],by simp[a2],λk c' v' hk hc hu=>?_,λk v' i' e' sz' rows' ho hk hu=>?_⟩
    .cases k with
     |zero=>simp at hc hu;subst hc hu;exact⟨ms,λ_=>hf rfl,hv2⟩
     |succ k=>exact a3 k c' v' (λi' e' sz' rows' ho=>by have:=hk i' e' sz' rows' ho;omega) (by simpa using hc) (by simpa using hu)
    .cases k with
     |zero=>injection ho with ho;injection ho with e1 ho;omega
     |succ k=>exact a4 k v' i' e' sz' rows' ho (by omega) (by simpa using hu)
 |[],_,_::_,h=>by simp[rets]at h
 |_::_,_,[],h=>by simp[rets]at h
theorem results_run {fn:Func}{a:Act}{w:World}{us:List Value}(h:(fn.results.toList.mapM (rvS a.tmps)).run P w=.ok us w):(results fn a.tmps).run P w=.ok (packV us) w:=by
 have e:results fn a.tmps=(fn.results.mapM (rvS a.tmps) >>= λvs=>pure (if h:vs.size=1 then vs[0] else .tuple vs)):=by
  unfold results
  congr 1
 rw[e,Array.mapM_eq_mapM_toList];simp only[Sem.run_bind,Sem.run_map,h,Result.andThen_ok,Sem.run_pure]
 congr 1
 cases us with
 |nil=>rfl
 |cons u us =>
  cases us with
  |nil=>rfl
  |cons _ _=>rfl
theorem leaves_ok {fn:Func}{tmps:Array Value}{w:World}:∀(ds:List Deferred) (T:Ending->World->Prop) (w1:World),(∀d∈ds,∃k,d={ target:=.collected k,args:=#[] }/\w.heap.size<=k/\w1.heap[k]?=some (.deferred (some [])))->ds.Nodup->w.heap.size<=w1.heap.size ->
   (∀w2,w2.os=w1.os->w2.tape=w1.tape->w2.output=w1.output->w2.heap.size=w1.heap.size->(∀k,(k<w.heap.size\/∃o:Obj,w1.heap[k]?=some o/\o.isCells=true)->w2.heap[k]?=w1.heap[k]?)->LeavesInM Fence.wide 0 P fn tmps T [] .returning w2)->LeavesInM Fence.wide 0 P fn tmps T ds .returning w1:=by
  intro ds
  induction ds with
  |nil=>exact λT w1 _ _ _ h=>h w1 rfl rfl rfl rfl λ_ _=>rfl
  |cons d ds ih =>
   intro T w1 hd hn hsz h;obtain⟨k,rfl,hk,hb⟩:=hd d (by simp);have hne:∀j,{ target:=.collected j,args:=#[] }∈ds->j≠k:=λj hj e=>by subst e;exact(List.nodup_cons.1 hn).1 hj
   refine⟨by simp,.inl ⟨k,_,rfl,run_takeDeferred hb,ih T _ (λd' hd'=>?_) (List.nodup_cons.1 hn).2 (by simpa using hsz) λw2 h1 h2 h3 h4 h5=>h w2 h1 h2 h3 (by simpa using h4) λj hj=>?_⟩⟩
   .obtain⟨k',rfl,hk',hb'⟩:=hd d' (by simp[hd']);exact⟨k',rfl,hk',(World.putObj_heap_other (hne k' hd')).trans hb'⟩
   .have hjk:j≠k:=by
     rintro rfl;rcases hj with hj|⟨o,ho,hc⟩
     .omega
     .rw[hb]at ho;cases ho;cases hc
    have e1:(w1.putObj k (.deferred none)).heap[j]?=w1.heap[j]?:=World.putObj_heap_other hjk;rw[h5 j (by rw[e1];exact hj),e1]
theorem AC.of_body {g : Nat} {args : List CV} {own : OwnRes} {res : List CV} (hm : P.follows .mixedOrders = true) {fn : Func} {body : Code} (hf : P.funcs[g]? = some fn) (hb : fn.body = some body) (hn : (fn.name == "runtime.NumGoroutine") = false)
  (hd:codeOk fn.ntmps body=true) (hargs:args.length<=fn.ntmps) (h:AW P body (RetQ P fn.results.toList own res) (initF args) initH):AC P g args own res:=by
 intro w D vs hD hvs;refine .inl ⟨fn,hf,hn,by rw[hb];rfl,callsIn_wide.1 (callsIn_of_wp_marks (n:=0) (F:=Fence.wide) hf hb trivial ?_)⟩;have hlen:=hvs.length;have hcv:∀(cvs:List CV) (us:List Value),CVReps w D cvs us->∀t,AVRep w (DD initH (λ_=>default) D) initH (λ_=>default) (initF cvs t) ((us[t]?).getD Go.undef):=by
  intro cvs us hu t;have hDD:∀b,DD initH (λ_=>default) D b->D b:=by
   intro b hb;rcases hb with hb|⟨k,hm,_⟩
   .exact hb
   .exact hm.elim
  induction cvs generalizing us t with
  |nil =>
   match us,hu with
   |[],_=>simp[initF,AVRep]
  |cons c cs ih =>
   match us,hu with
   |u::us,hu =>
    cases t with
    |zero=>simp only[initF,List.map_cons,List.getElem?_cons_zero,Option.getD_some];exact(hu.1.mono (Grows.of_sub hDD)).av
    |succ t=>simpa only[initF,List.map_cons,List.getElem?_cons_succ] using ih us hu.2 t
 have R:Rel ⟨λ_ _=>False,false⟩ (λ_=>False) w D fn.ntmps (initF args) initH (λ_=>default) { tmps:=vs.toArray++Array.replicate (fn.ntmps-vs.toArray.size) Go.undef,defers:=[] } w:=by
  refine⟨rfl,rfl,rfl,Nat.le_refl _,λ_ _ _=>rfl,λb hb=>⟨hD b hb,λh=>h⟩,by simp;omega,λd hd=>(by cases hd),λh=>(by cases h),List.nodup_nil,λ_ _ h=>h.elim,λt=>?_,λh st e sz rows hh=>(by cases hh),λh st e sz rows hh=>(by cases hh),λh h' _ hm=>hm.elim,λh st e rows hh=>(by cases hh),λh B hh=>(by cases hh),λh x v hh=>(by cases hh)⟩;have e:(vs.toArray++Array.replicate (fn.ntmps-vs.toArray.size) Go.undef).getD t Go.undef=(vs[t]?).getD Go.undef:=by
   rw[Array.getD_eq_getD_getElem?,Array.getElem?_append];split
   .simp
   .rename_i ht;simp only[List.size_toArray,Nat.not_lt]at ht;rw[List.getElem?_eq_none ht];simp only[Array.getElem?_replicate];split<;>rfl
  rw[e];exact hcv args vs hvs t
 refine wpIn_mono (aw_sound hm body none _ _ _ _ _ _ _ _ w (.inr ⟨rfl,rfl⟩) hd h R) λe a w' hq=>?_
 have fin:∀f H β,rets P f H own 0 fn.results.toList res/\(match own with|none=>True|some (i,_)=>i<res.length)->Rel ⟨λ_ _=>False,false⟩ (λ_=>False) w D fn.ntmps f H β a w' ->
   LeavesInM Fence.wide 0 P fn a.tmps (λe w'=>∃v,e=.returned v/\Below w.heap.size w w'/\∃us,v=packV us/\ResOk w w' D own res us) a.defers .returning w':=by
  intro f H β ⟨hr,hi⟩ R0;refine leaves_ok a.defers _ w' R0.defers R0.ndup R0.size λw2 h1 h2 h3 h4 h5=>?_;have g2:Grows w' (DD H β D) w2 (DD H β D):=⟨Nat.le_of_eq h4.symm,λ_ _ h=>h,λb _ _ hc=>h5 b (.inr hc)⟩;have R:Rel ⟨λ_ _=>False,false⟩ (λ_=>False) w D fn.ntmps f H β { a with defers:=[] } w2 :=
   ⟨h1.trans R0.os,h2.trans R0.tape,h3.trans R0.output,by rw[h4];exact R0.size,λk hk _=>(h5 k (.inl hk)).trans (R0.keep k hk (λh=>h)),R0.old,R0.tsize,λd hd=>(by cases hd),λh=>(by cases h),List.nodup_nil,λ_ _ h=>h.elim,
    λt=>AVRep.mono g2 (HStep.refl _ _) _ _ (R0.tmps t),
    λh st e sz rows hh=>(R0.own h st e sz rows hh).mono g2 λk hk=>by obtain⟨cur,e',hc⟩:=R0.own_cells (by rw[hh];trivial) hk;exact h5 k (.inr ⟨_,hc,rfl⟩),
    λh st e sz rows hh=>⟨(R0.frz h st e sz rows hh).1,(R0.frz h st e sz rows hh).2.1.mono g2,(R0.frz h st e sz rows hh).2.2⟩,R0.dis,
    λh st e rows hh=>(R0.nst h st e rows hh).mono g2 (HStep.refl _ _) λk hk=>by obtain⟨cur,e',hc⟩:=R0.own_cells (by rw[hh];trivial) hk;exact h5 k (.inr ⟨_,hc,rfl⟩),λh B hh=>by rw[h4];exact R0.mrk h B hh,λh x v hh=>AVRep.mono g2 (HStep.refl _ _) _ _ (R0.tie h x v hh)⟩
  clear h1 h2 h3 h4 h5;obtain⟨us,h1',h2,h3,h4⟩:=rets_sound R _ _ _ hr;refine⟨_,results_run h1',_,rfl,⟨R.os,R.tape,R.output,R.size,λk hk=>R.keep k hk (λh=>h)⟩,us,rfl,h2,λj c v hj hc hv=>?_,λi e sz rows ho=>?_⟩
  .obtain⟨ms,hms,hrep⟩:=h3 j c v (λi e sz rows ho=>by have:=hj i e sz rows ho;omega) hc hv;refine hrep.mono (Grows.of_sub λb hb=>?_);rcases hb with hb|hb
   .exact .inl hb
   .cases own with
    |none=>exact hb.elim
    |some p =>
     obtain⟨i,e,sz,rows⟩:=p;obtain⟨v',hv',hh⟩:=hb;rw[hms rfl];exact(h4 i v' i e sz rows rfl (by omega) hv').2 b hh
  .subst ho;have hi':i<us.length:=by rw[h2];exact hi
   have hui:us[i]?=some us[i]:=by rw[List.getElem?_eq_getElem]
   obtain⟨h5,h6⟩:=h4 i _ i e sz rows rfl (by omega) hui;refine⟨_,hui,hi,h5.mono (Grows.of_sub λb hb=>?_) λ_ _=>rfl⟩;rcases hb with hb|⟨v',hv',hh⟩
   .exact .inl hb
   .rw[hui]at hv';injection hv' with hv';subst hv';exact h6 b hh
 cases e with
 |normal=>obtain⟨f,H,β,hk,R⟩:=hq;exact fin f H β hk R
 |ret=>obtain⟨f,H,β,hk,R⟩:=hq;exact fin f H β hk R
 |panic _=>exact hq.elim
 |outgrown=>exact hq.elim
 |exit id=>obtain⟨f,H,β,hk,R⟩:=hq;exact hk.elim
 |goto l=>obtain⟨f,H,β,hk,R⟩:=hq;exact hk.elim
def initFW (args:List CV)(i:Nat):Fr:=λt=>if t=i then .hs i 1 else initF args t
def initHW (i e sz:Nat)(rows:List (List IV)):Hp:=λh=>if h=i then .blk false 1 e sz rows else .none
def retsW [Zi] (P:Program)(f:Fr)(H:Hp):List ResultVar->List CV->Prop
 |[],[]=>True
 |r::rs,c::cs=>RetVal P f H r true c/\retsW P f H rs cs
 |_,_=>False
def RetQW [Zi] (P:Program)(rs:List ResultVar)(i e sz:Nat)(rows':List (List IV))(res:List CV):Post
 |.ret,f,H=>retsW P f H rs res/\H i=.blk false 1 e sz rows'
 |.normal,f,H=>retsW P f H rs res/\H i=.blk false 1 e sz rows'
 |_,_,_=>False
theorem retsW_sound {f:Fr}{H:Hp}{β:Nat->Value}{a:Act}{w:World}(R:Rel G M w0 D0 N f H β a w):∀(rs:List ResultVar) (cs:List CV),retsW P f H rs cs ->
  ∃us:List Value,(rs.mapM (rvS a.tmps)).run P w=.ok us w/\CVReps w (DD H β D0) cs us
 |[],[],_=>⟨[],by simp,trivial⟩
 |r::rs,c::cs,h=>by
  simp only[retsW]at h;obtain⟨us,a1,a2⟩:=retsW_sound R rs cs h.2;have hv:=h.1;unfold RetVal at hv;split at hv
  .rename_i p c' ms hr;obtain⟨hp,rfl,hf⟩:=hv;obtain rfl:=hf rfl;obtain⟨v,hv1,hv2⟩:=retv_sound R hr hp;exact⟨v::us,by simp[List.mapM_cons,hv1,a1],hv2,a2⟩
  .exact hv.elim
 |[],_::_,h=>by simp[retsW]at h
 |_::_,[],h=>by simp[retsW]at h
theorem ACW.of_body {g : Nat} {args : List CV} {i e sz : Nat} {rows rows' : List (List IV)} {res : List CV} (hm : P.follows .mixedOrders = true) {fn : Func} {body : Code} (hf : P.funcs[g]? = some fn) (hb : fn.body = some body) (hn : (fn.name == "runtime.NumGoroutine") = false)
  (hd:codeOk fn.ntmps body=true) (hargs:args.length<=fn.ntmps) (h:AW P body (RetQW P fn.results.toList i e sz rows' res) (initFW args i) (initHW i e sz rows)):ACW P g args i e sz rows rows' res:=by
 intro w D vs v hD hvs hvi hvD hown;refine .inl ⟨fn,hf,hn,by rw[hb];rfl,callsIn_wide.1 (callsIn_of_wp_marks (n:=0) (F:=Fence.wide) hf hb trivial ?_)⟩;have hlen:=hvs.length;have hDD:∀b,DD (initHW i e sz rows) (λu=>if u=i then v else default) (λb=>D b/\headOf v≠some b) b↔D b:=by
  intro b;constructor
  .rintro(hb|⟨k,hm,hk⟩)
   .exact hb.1
   .by_cases hki:k=i
    .subst hki;simp only[if_pos]at hk;exact hvD b hk
    .simp only[initHW,if_neg hki,HC.isMut]at hm
  .intro hb;by_cases hh:headOf v=some b
   .exact .inr ⟨i,by simp[initHW,HC.isMut],by simpa using hh⟩
   .exact .inl ⟨hb,hh⟩
 have hcv:∀(cvs:List CV) (us:List Value) (H:Hp) (β:Nat->Value),CVReps w D cvs us->∀t,AVRep w D H β (initF cvs t) ((us[t]?).getD Go.undef):=by
  intro cvs us H β hu t
  induction cvs generalizing us t with
  |nil =>
   match us,hu with
   |[],_=>simp[initF,AVRep]
  |cons c cs ih =>
   match us,hu with
   |u::us,hu =>
    cases t with
    |zero=>simp only[initF,List.map_cons,List.getElem?_cons_zero,Option.getD_some];exact hu.1.av
    |succ t=>simpa only[initF,List.map_cons,List.getElem?_cons_succ] using ih us hu.2 t
 have hDe:DD (initHW i e sz rows) (λu=>if u=i then v else default) (λb=>D b/\headOf v≠some b)=D:=funext λb=>propext (hDD b)
 have R:Rel ⟨λx u=>x=.hs i 1/\u=v,false⟩ (λb=>headOf v=some b) w (λb=>D b/\headOf v≠some b) fn.ntmps (initFW args i) (initHW i e sz rows) (λu=>if u=i then v else default) { tmps:=vs.toArray++Array.replicate (fn.ntmps-vs.toArray.size) Go.undef,defers:=[] } w:=by
  refine⟨rfl,rfl,rfl,Nat.le_refl _,λ_ _ _=>rfl,λb hb=>⟨hD b hb.1,hb.2⟩,by simp;omega,λd hd=>(by cases hd),λh=>(by cases h),List.nodup_nil,?_,λt=>?_,λh st e' sz' rows1 hh=>?_,λh st e' sz' rows1 hh=>?_,λh h' hne hm1 hm2=>?_,λh st e' rows1 hh=>(by simp only[initHW]at hh;split at hh<;>cases hh),λh B hh=>(by simp only[initHW]at hh;split at hh<;>cases hh),λh x u hh=>(by simp only[initHW]at hh;split at hh<;>cases hh)⟩
  .rintro x u ⟨rfl,rfl⟩;simp[AVRep,initHW,HC.stamp]
  .have e1:(vs.toArray++Array.replicate (fn.ntmps-vs.toArray.size) Go.undef).getD t Go.undef=(vs[t]?).getD Go.undef:=by
    rw[Array.getD_eq_getD_getElem?,Array.getElem?_append];split
    .simp
    .rename_i ht;simp only[List.size_toArray,Nat.not_lt]at ht;rw[List.getElem?_eq_none ht];simp only[Array.getElem?_replicate];split<;>rfl
   rw[e1,hDe];by_cases hti:t=i
   .subst hti;rw[hvi];simp[initFW,AVRep,initHW,HC.stamp]
   .simp only[initFW,if_neg hti];exact hcv args vs _ _ hvs t
  .by_cases hhi:h=i
   .subst hhi;simp only[initHW,if_pos]at hh;injection hh with _ h1 h2 h3 h4;subst h1 h2 h3 h4;rw[hDe];simp only[if_pos];exact hown
   .simp only[initHW,if_neg hhi,reduceCtorEq]at hh
  .by_cases hhi:h=i
   .subst hhi;simp[initHW]at hh
   .simp only[initHW,if_neg hhi,reduceCtorEq]at hh
  .by_cases h1:h=i
   .subst h1;simp only[initHW,if_neg (Ne.symm hne),HC.isMut]at hm2
   .simp only[initHW,if_neg h1,HC.isMut]at hm1
 refine wpIn_mono (aw_sound hm body none _ _ _ _ _ _ _ _ w (.inr ⟨rfl,rfl⟩) hd h R) λe1 a w' hq=>?_
 have fin:∀f H β,(retsW P f H fn.results.toList res/\H i=.blk false 1 e sz rows')->Rel ⟨λx u=>x=.hs i 1/\u=v,false⟩ (λb=>headOf v=some b) w (λb=>D b/\headOf v≠some b) fn.ntmps f H β a w' ->
   LeavesInM Fence.wide 0 P fn a.tmps (λe1 w'=>∃u,e1=.returned u/\w.grownBy w' (headOf v)/\∃us,u=packV us/\CVReps w' D res us/\Own w' D w.heap.size (λb=>headOf v=some b) v e sz rows') a.defers .returning w':=by
  intro f H β ⟨hr,hHi⟩ R0;refine leaves_ok a.defers _ w' R0.defers R0.ndup R0.size λw2 h1 h2 h3 h4 h5=>?_;have g2:∀D',Grows w' D' w2 D':=λD'=>⟨Nat.le_of_eq h4.symm,λ_ _ h=>h,λb _ _ hc=>h5 b (.inr hc)⟩
  have R:Rel ⟨λx u=>x=.hs i 1/\u=v,false⟩ (λb=>headOf v=some b) w (λb=>D b/\headOf v≠some b) fn.ntmps f H β { a with defers:=[] } w2 :=
   ⟨h1.trans R0.os,h2.trans R0.tape,h3.trans R0.output,by rw[h4];exact R0.size,λk hk hm=>(h5 k (.inl hk)).trans (R0.keep k hk hm),R0.old,R0.tsize,λd hd=>(by cases hd),λh=>(by cases h),List.nodup_nil,λx u h=>AVRep.mono (g2 _) (HStep.refl _ _) _ _ (R0.gh x u h),
    λt=>AVRep.mono (g2 _) (HStep.refl _ _) _ _ (R0.tmps t),
    λh st e sz rows hh=>(R0.own h st e sz rows hh).mono (g2 _) λk hk=>by obtain⟨cur,e',hc⟩:=R0.own_cells (by rw[hh];trivial) hk;exact h5 k (.inr ⟨_,hc,rfl⟩),
    λh st e sz rows hh=>⟨(R0.frz h st e sz rows hh).1,(R0.frz h st e sz rows hh).2.1.mono (g2 _),(R0.frz h st e sz rows hh).2.2⟩,R0.dis,
    λh st e rows hh=>(R0.nst h st e rows hh).mono (g2 _) (HStep.refl _ _) λk hk=>by obtain⟨cur,e',hc⟩:=R0.own_cells (by rw[hh];trivial) hk;exact h5 k (.inr ⟨_,hc,rfl⟩),λh B hh=>by rw[h4];exact R0.mrk h B hh,λh x v hh=>AVRep.mono (g2 _) (HStep.refl _ _) _ _ (R0.tie h x v hh)⟩
  clear h1 h2 h3 h4 h5;have hgv:=R.gh _ _ ⟨rfl,rfl⟩;simp only[AVRep]at hgv;have hvb:v=β i:=hgv.2 (by rw[hHi];rfl);obtain⟨us,h1',h2⟩:=retsW_sound R _ _ hr;have hsub:∀b,D b->DD H β (λb=>D b/\headOf v≠some b) b:=λb hb=>by
   by_cases hh:headOf v=some b
   .exact .inr ⟨i,by rw[hHi];trivial,by rw[<-hvb];exact hh⟩
   .exact .inl ⟨hb,hh⟩
  refine⟨_,results_run h1',_,rfl,⟨R.os,R.tape,R.output,R.size,λk hk hne=>R.keep k hk (λhh=>hne hh.symm)⟩,us,rfl,h2.mono (Grows.of_sub hsub),?_⟩;have ho:=R.own i _ _ _ _ hHi;rw[<-hvb]at ho;exact ho.mono (Grows.of_sub hsub) λ_ _=>rfl
 cases e1 with
 |normal=>obtain⟨f,H,β,hk,R⟩:=hq;exact fin f H β hk R
 |ret=>obtain⟨f,H,β,hk,R⟩:=hq;exact fin f H β hk R
 |panic _=>exact hq.elim
 |outgrown=>exact hq.elim
 |exit id=>obtain⟨f,H,β,hk,R⟩:=hq;exact hk.elim
 |goto l=>obtain⟨f,H,β,hk,R⟩:=hq;exact hk.elim
def RetTV (x:AV)(c:HC)(i e sz:Nat)(rows':List (List IV)):Prop :=
 match x,c with
 |.hv h st off len,.blk false st' e' sz' rows=>h=i/\st=1/\st'=1/\off=0/\e'=e/\sz'=sz/\len<=rows.length/\rows'=rows.take len
 |.hs h st,.blk false st' e' sz' rows=>h=i/\st=1/\st'=1/\e'=e/\sz'=sz/\rows'=rows
 |_,_=>False
def retT (f:Fr)(H:Hp)(rs:List ResultVar)(i e sz:Nat)(rows':List (List IV)):Prop :=
 match rs with
 |[.tmp t]=>RetTV (f t) (H i) i e sz rows'
 |_=>False
def RetQT (rs:List ResultVar)(i e sz:Nat)(rows':List (List IV)):Post
 |.ret,f,H=>retT f H rs i e sz rows'
 |.normal,f,H=>retT f H rs i e sz rows'
 |_,_,_=>False
theorem retT_cases {f:Fr}{H:Hp}{rs:List ResultVar}{i e sz:Nat}{rows':List (List IV)}(h:retT f H rs i e sz rows') :
  ∃t rows,rs=[.tmp t]/\H i=.blk false 1 e sz rows/\((f t=.hs i 1/\rows'=rows)\/∃len,f t=.hv i 1 0 len/\len<=rows.length/\rows'=rows.take len):=by
 unfold retT at h;split at h
 .rename_i t;unfold RetTV at h;split at h
  .rename_i h' st off len st' e' sz' rows hx hc;obtain⟨rfl,rfl,rfl,rfl,rfl,rfl,hl,rfl⟩:=h;exact⟨t,rows,rfl,hc,.inr ⟨len,hx,hl,rfl⟩⟩
  .rename_i h' st st' e' sz' rows hx hc;obtain⟨rfl,rfl,rfl,rfl,rfl,rfl⟩:=h;exact⟨t,_,rfl,hc,.inl ⟨hx,rfl⟩⟩
  .exact h.elim
 .exact h.elim
theorem own_part {w:World}{D M:Nat->Prop}{B:Nat}{v u:Value}{e sz k:Nat}{rows:List (List IV)}(hown:Own w D B M v e sz rows){len:Nat}(hl:len<=rows.length)
  (hu:(len=0/\∃a cap,u=.slice a 0 cap/\cap<=maxLen/\(True->∃n,v=.slice a n cap))\/∃g n cap cap',v=.slice (some ⟨g,0,none⟩) n cap/\u=.slice (some ⟨g,0*k,none⟩) len cap'/\len<=cap'/\cap'<=maxLen/\(True->cap'=cap)) :
  Own w D B M u e sz (rows.take len)/\∀b,headOf u=some b->headOf v=some b:=by
 obtain⟨h1,h2⟩:=hown;have h1':∀r∈rows.take len,r.length=sz:=λr hr=>h1 r (List.mem_of_mem_take hr)
 rcases hu with ⟨rfl,a,cap,rfl,hc,hn⟩|⟨g,n,cap,cap',hv,rfl,hlc,hcm,hcc⟩
 .obtain⟨n,hv⟩:=hn trivial;refine⟨⟨h1',?_⟩,λb hb=>by
   rw[hv];cases a with
   |none=>cases hb
   |some a=>exact hb⟩
  rcases h2 with ⟨hr,hv'⟩|⟨g,cap0,cur,hv',hB,hg,ha,hb,hcs,hrep⟩
  .rw[hv']at hv;injection hv with e1 e2 e3;subst e1 e3
   exact .inl ⟨by simp,rfl⟩
  .rw[hv']at hv;injection hv with e1 e2 e3;subst e1 e3
   exact .inr ⟨g,_,cur,by simp,hB,hg,by simp,hb,hcs,by simp[Reps]⟩
 .have:=hcc trivial;subst this;refine⟨⟨h1',?_⟩,λb hb=>by rw[hv];exact hb⟩;rcases h2 with ⟨hr,hv'⟩|⟨g0,cap0,cur,hv',hB,hg,ha,hb,hcs,hrep⟩
  .rw[hv']at hv;cases hv
  .rw[hv']at hv;injection hv with e1 e2 e3;injection e1 with e1;injection e1 with e1;subst e1 e3
   have hll:(rows.take len).length=len:=by rw[List.length_take,Nat.min_eq_left hl]
   refine .inr ⟨_,_,cur,by rw[hll,Nat.zero_mul],hB,hg,by omega,hb,hcs,?_⟩;have h3:=hrep.take (len*sz);have h4:=flatten_part rows 0 len h1 (by omega);rw[List.drop_zero,Nat.zero_mul,List.drop_zero]at h4;rw[h4,hll];rw[List.take_take,Nat.min_eq_left (Nat.mul_le_mul_right _ hl)]at h3;exact h3
theorem ACT.of_body {g : Nat} {args : List CV} {i e sz : Nat} {rows rows' : List (List IV)} (hm : P.follows .mixedOrders = true) {fn : Func} {body : Code} (hf : P.funcs[g]? = some fn) (hb : fn.body = some body) (hn : (fn.name == "runtime.NumGoroutine") = false)
  (hd:codeOk fn.ntmps body=true) (hargs:args.length<=fn.ntmps) (h:AW P body (RetQT fn.results.toList i e sz rows') (initFW args i) (initHW i e sz rows)):ACT P g args i e sz rows rows':=by
 intro w D vs v hD hvs hvi hvD hown;refine .inl ⟨fn,hf,hn,by rw[hb];rfl,callsIn_wide.1 (callsIn_of_wp_marks (n:=0) (F:=Fence.wide) hf hb trivial ?_)⟩;have hlen:=hvs.length;have hDD:∀b,DD (initHW i e sz rows) (λu=>if u=i then v else default) (λb=>D b/\headOf v≠some b) b↔D b:=by
  intro b;constructor
  .rintro(hb|⟨k,hm,hk⟩)
   .exact hb.1
   .by_cases hki:k=i
    .subst hki;simp only[if_pos]at hk;exact hvD b hk
    .simp only[initHW,if_neg hki,HC.isMut]at hm
  .intro hb;by_cases hh:headOf v=some b
   .exact .inr ⟨i,by simp[initHW,HC.isMut],by simpa using hh⟩
   .exact .inl ⟨hb,hh⟩
 have hcv:∀(cvs:List CV) (us:List Value) (H:Hp) (β:Nat->Value),CVReps w D cvs us->∀t,AVRep w D H β (initF cvs t) ((us[t]?).getD Go.undef):=by
  intro cvs us H β hu t
  induction cvs generalizing us t with
  |nil =>
   match us,hu with
   |[],_=>simp[initF,AVRep]
  |cons c cs ih =>
   match us,hu with
   |u::us,hu =>
    cases t with
    |zero=>simp only[initF,List.map_cons,List.getElem?_cons_zero,Option.getD_some];exact hu.1.av
    |succ t=>simpa only[initF,List.map_cons,List.getElem?_cons_succ] using ih us hu.2 t
 have hDe:DD (initHW i e sz rows) (λu=>if u=i then v else default) (λb=>D b/\headOf v≠some b)=D:=funext λb=>propext (hDD b)
 have R:Rel ⟨λx u=>x=.hs i 1/\u=v,false⟩ (λb=>headOf v=some b) w (λb=>D b/\headOf v≠some b) fn.ntmps (initFW args i) (initHW i e sz rows) (λu=>if u=i then v else default) { tmps:=vs.toArray++Array.replicate (fn.ntmps-vs.toArray.size) Go.undef,defers:=[] } w:=by
  refine⟨rfl,rfl,rfl,Nat.le_refl _,λ_ _ _=>rfl,λb hb=>⟨hD b hb.1,hb.2⟩,by simp;omega,λd hd=>(by cases hd),λh=>(by cases h),List.nodup_nil,?_,λt=>?_,λh st e' sz' rows1 hh=>?_,λh st e' sz' rows1 hh=>?_,λh h' hne hm1 hm2=>?_,λh st e' rows1 hh=>(by simp only[initHW]at hh;split at hh<;>cases hh),λh B hh=>(by simp only[initHW]at hh;split at hh<;>cases hh),λh x u hh=>(by simp only[initHW]at hh;split at hh<;>cases hh)⟩
  .rintro x u ⟨rfl,rfl⟩;simp[AVRep,initHW,HC.stamp]
  .have e1:(vs.toArray++Array.replicate (fn.ntmps-vs.toArray.size) Go.undef).getD t Go.undef=(vs[t]?).getD Go.undef:=by
    rw[Array.getD_eq_getD_getElem?,Array.getElem?_append];split
    .simp
    .rename_i ht;simp only[List.size_toArray,Nat.not_lt]at ht;rw[List.getElem?_eq_none ht];simp only[Array.getElem?_replicate];split<;>rfl
   rw[e1,hDe];by_cases hti:t=i
   .subst hti;rw[hvi];simp[initFW,AVRep,initHW,HC.stamp]
   .simp only[initFW,if_neg hti];exact hcv args vs _ _ hvs t
  .by_cases hhi:h=i
   .subst hhi;simp only[initHW,if_pos]at hh;injection hh with _ h1 h2 h3 h4;subst h1 h2 h3 h4;rw[hDe];simp only[if_pos];exact hown
   .simp only[initHW,if_neg hhi,reduceCtorEq]at hh
  .by_cases hhi:h=i
   .subst hhi;simp[initHW]at hh
   .simp only[initHW,if_neg hhi,reduceCtorEq]at hh
  .by_cases h1:h=i
   .subst h1;simp only[initHW,if_neg (Ne.symm hne),HC.isMut]at hm2
   .simp only[initHW,if_neg h1,HC.isMut]at hm1
 refine wpIn_mono (aw_sound hm body none _ _ _ _ _ _ _ _ w (.inr ⟨rfl,rfl⟩) hd h R) λe1 a w' hq=>?_
 have fin:∀f H β,retT f H fn.results.toList i e sz rows'->Rel ⟨λx u=>x=.hs i 1/\u=v,false⟩ (λb=>headOf v=some b) w (λb=>D b/\headOf v≠some b) fn.ntmps f H β a w' ->
   LeavesInM Fence.wide 0 P fn a.tmps (λe1 w'=>∃u,e1=.returned u/\w.grownBy w' (headOf v)/\(∀b,headOf u=some b->headOf v=some b)/\Own w' D w.heap.size (λb=>headOf v=some b) u e sz rows') a.defers .returning w':=by
  intro f H β hr R0;obtain⟨t,rows1,hrs,hHi,hrt⟩:=retT_cases hr;refine leaves_ok a.defers _ w' R0.defers R0.ndup R0.size λw2 h1 h2 h3 h4 h5=>?_;have g2:∀D',Grows w' D' w2 D':=λD'=>⟨Nat.le_of_eq h4.symm,λ_ _ h=>h,λb _ _ hc=>h5 b (.inr hc)⟩
  have R:Rel ⟨λx u=>x=.hs i 1/\u=v,false⟩ (λb=>headOf v=some b) w (λb=>D b/\headOf v≠some b) fn.ntmps f H β { a with defers:=[] } w2 :=
   ⟨h1.trans R0.os,h2.trans R0.tape,h3.trans R0.output,by rw[h4];exact R0.size,λk hk hm=>(h5 k (.inl hk)).trans (R0.keep k hk hm),R0.old,R0.tsize,λd hd=>(by cases hd),λh=>(by cases h),List.nodup_nil,λx u h=>AVRep.mono (g2 _) (HStep.refl _ _) _ _ (R0.gh x u h),
    λt=>AVRep.mono (g2 _) (HStep.refl _ _) _ _ (R0.tmps t),
    λh st e sz rows hh=>(R0.own h st e sz rows hh).mono (g2 _) λk hk=>by obtain⟨cur,e',hc⟩:=R0.own_cells (by rw[hh];trivial) hk;exact h5 k (.inr ⟨_,hc,rfl⟩),
    λh st e sz rows hh=>⟨(R0.frz h st e sz rows hh).1,(R0.frz h st e sz rows hh).2.1.mono (g2 _),(R0.frz h st e sz rows hh).2.2⟩,R0.dis,
    λh st e rows hh=>(R0.nst h st e rows hh).mono (g2 _) (HStep.refl _ _) λk hk=>by obtain⟨cur,e',hc⟩:=R0.own_cells (by rw[hh];trivial) hk;exact h5 k (.inr ⟨_,hc,rfl⟩),λh B hh=>by rw[h4];exact R0.mrk h B hh,λh x v hh=>AVRep.mono (g2 _) (HStep.refl _ _) _ _ (R0.tie h x v hh)⟩
  clear h1 h2 h3 h4 h5;have hgv:=R.gh _ _ ⟨rfl,rfl⟩;simp only[AVRep]at hgv;have hvb:v=β i:=hgv.2 (by rw[hHi];rfl);have hsub:∀b,D b->DD H β (λb=>D b/\headOf v≠some b) b:=λb hb=>by
   by_cases hh:headOf v=some b
   .exact .inr ⟨i,by rw[hHi];trivial,by rw[<-hvb];exact hh⟩
   .exact .inl ⟨hb,hh⟩
  have h1':(fn.results.toList.mapM (rvS a.tmps)).run P w2=.ok [a.tmps.getD t Go.undef] w2:=by rw[hrs];simp[List.mapM_cons,rvS]
  have hu:=R.tmps t;have ho:=R.own i _ _ _ _ hHi;rw[<-hvb]at ho;have ho2:=ho.mono (D':=D) (Grows.of_sub hsub) λ_ _=>rfl
  refine⟨_,results_run h1',_,rfl,⟨R.os,R.tape,R.output,R.size,λk hk hne=>R.keep k hk (λhh=>hne hh.symm)⟩,?_⟩;show (∀b,headOf (a.tmps.getD t Go.undef)=some b->_)/\Own w2 D w.heap.size (λb=>headOf v=some b) (a.tmps.getD t Go.undef) e sz rows';rcases hrt with ⟨hx,rfl⟩|⟨len,hx,hl,rfl⟩
  .rw[hx]at hu;simp only[AVRep]at hu;have hub:a.tmps.getD t Go.undef=v:=by rw[hu.2 (by rw[hHi];rfl)];exact hvb.symm
   rw[hub];exact⟨λ_ h=>h,ho2⟩
  .rw[hx]at hu;simp only[AVRep]at hu;have hu2:=hu.2 (by rw[hHi];rfl);rw[<-hvb]at hu2;have:=own_part ho2 hl hu2;exact⟨this.2,this.1⟩
 cases e1 with
 |normal=>obtain⟨f,H,β,hk,R⟩:=hq;exact fin f H β hk R
 |ret=>obtain⟨f,H,β,hk,R⟩:=hq;exact fin f H β hk R
 |panic _=>exact hq.elim
 |outgrown=>exact hq.elim
 |exit id=>obtain⟨f,H,β,hk,R⟩:=hq;exact hk.elim
 |goto l=>obtain⟨f,H,β,hk,R⟩:=hq;exact hk.elim
def initHX (B:Nat):Hp:=λh=>if h=999 then .mrk B else .none
def OpenOk (B0 E:Nat)(f:Fr)(H:Hp)(rows:List (List IV))(b:Option (Nat×Nat)):Prop :=
 (b=none->rows=[])/\∀g cap,b=some (g,cap)->B0<=g/\g<E/\g∉idsRows rows/\(∀u x,f u=.iv x->g∉x.ids)/\(∀u cs,f u=.agg cs->g∉idsRow cs)/\∀u fz st e sz rows,H u=.blk fz st e sz rows->g∉idsRows rows
inductive Opn (B0:Nat) (T:Fr->Hp->Prop):Fr->Hp->Prop
 |done {f:Fr} {H:Hp} (h:T f H):Opn B0 T f H
 |nils {f:Fr} {H:Hp} (t e sz:Nat) (ht:f t=.nils) (h:Opn B0 T (upd f t (.iv (.own none e sz []))) H):Opn B0 T f H
 |row {f:Fr} {H:Hp} (hb st e j h s e' sz:Nat) (rows:List AV) (rws:List (List IV)) (B:Nat) (hN:H hb=.nst st e rows) (hj:rows[j]?=some (.hs h s)) (hH:H h=.blk false s e' sz rws) (hB:H 999=.mrk B)
   (k:∀b E,B<=E->OpenOk B0 E f H rws b->(∀g cap,b=some (g,cap)->∀x,AV.iv x∈rows->g∉x.ids)->Opn B0 T f (updH (updH (updH H h (.blk true s e' sz rws)) 999 (.mrk E)) hb (.nst st e (rows.set j (.iv (.own b e' sz rws)))))):Opn B0 T f H
 |opn {f:Fr} {H:Hp} (t h st e sz:Nat) (rows:List (List IV)) (B:Nat) (ht:f t=.hs h st) (hH:H h=.blk false st e sz rows) (hB:H 999=.mrk B)
   (k:∀b E,B<=E->OpenOk B0 E f H rows b->Opn B0 T (upd f t (.iv (.own b e sz rows))) (updH (updH H h (.blk true st e sz rows)) 999 (.mrk E))):Opn B0 T f H
def RetTX [Zi] (P:Program)(rs:List ResultVar)(B0:Nat)(R:Nat->Nat->List CV->Prop)(f:Fr)(H:Hp):Prop :=
 ∃B cs,H 999=.mrk B/\rets P f H none 0 rs cs/\∀E,B<=E->R B0 E cs
def RetQX [Zi] (P:Program)(rs:List ResultVar)(B0:Nat)(R:Nat->Nat->List CV->Prop):Post
 |.ret,f,H=>Opn B0 (RetTX P rs B0 R) f H
 |.normal,f,H=>Opn B0 (RetTX P rs B0 R) f H
 |_,_,_=>False
theorem Own.rep_own {w:World}{D M:Nat->Prop}{B:Nat}{v:Value}{e sz:Nat}{rows:List (List IV)}(h:Own w D B M v e sz rows){D':Nat->Prop}(hD:∀b,D' b->D b)(hn:∀g,headOf v=some g->¬D' g) :
  ∃b,Rep w D' (.own b e sz rows) v/\(b=none->rows=[])/\∀g cap,b=some (g,cap)->headOf v=some g:=by
 rcases h.2 with ⟨rfl,rfl⟩|⟨g,cap,cur,rfl,hB,hg,h1,h2,h3,h4⟩
 .exact⟨none,.ownN e sz,λ_=>rfl,by simp⟩
 .have h4':=h4.mono (w':=w) (D':=D') ⟨Nat.le_refl _,λb _ hb=>hD b hb,λ_ _ _ _=>rfl⟩;refine⟨some (g,cap),.own rows g cap e sz cur (λi r hi=>h.1 r (List.mem_of_getElem? hi)) h1 h2 hg (hn g rfl) h3 ?_,by simp,λg' cap' hh=>by injection hh with hh;injection hh with h1 h2;subst h1;rfl⟩;intro i r hi j x hj;obtain⟨c,hc,hr⟩:=h4'.get _ _ (flatten_get rows i j r x h.1 hi hj);rw[List.getElem?_take]at hc;split at hc
  .rw[Array.getElem?_toList]at hc;rw[Array.getD_eq_getD_getElem?,hc];exact hr
  .cases hc
theorem AVReps.setv {w:World}{D:Nat->Prop}{H:Hp}{β:Nat->Value}:∀{xs:List AV} {vs:List Value} {j:Nat} {x y:AV},AVReps w D H β xs vs->xs[j]?=some x->(∀v,AVRep w D H β x v->AVRep w D H β y v)->AVReps w D H β (xs.set j y) vs
 |[],[],j,x,y,_,hj,_=>by simp at hj
 |a::xs,v::vs,0,x,y,h,hj,hk=>by
  simp only[List.getElem?_cons_zero,Option.some.injEq]at hj;subst hj;simp only[AVReps]at h;simp only[List.set_cons_zero,AVReps];exact⟨hk v h.1,h.2⟩
 |a::xs,v::vs,j+1,x,y,h,hj,hk=>by
  simp only[AVReps]at h;simp only[List.set_cons_succ,AVReps];exact⟨h.1,AVReps.setv h.2 (by simpa using hj) hk⟩
 |[],_::_,_,_,_,h,_,_=>by simp[AVReps]at h
 |_::_,[],_,_,_,h,_,_=>by simp[AVReps]at h
theorem AVReps.memv {w:World}{D:Nat->Prop}{H:Hp}{β:Nat->Value}:∀{xs:List AV} {vs:List Value} {x:AV},AVReps w D H β xs vs->x∈xs->∃v,AVRep w D H β x v
 |a::xs,v::vs,x,h,hm=>by
  simp only[AVReps]at h;rcases List.mem_cons.1 hm with rfl|hm
  .exact⟨v,h.1⟩
  .exact AVReps.memv h.2 hm
 |[],_,_,_,hm=>by cases hm
 |_::_,[],_,h,_=>by simp[AVReps]at h
theorem Rel.open_at {f:Fr}{H:Hp}{β:Nat->Value}{a:Act}{w:World}(R:Rel G (λ_=>False) w0 D0 N f H β a w){h st e sz B:Nat}{rows:List (List IV)}(hH:H h=.blk false st e sz rows)(hB:H 999=.mrk B) :
  ∃b E,(B<=E/\E<=w.heap.size)/\OpenOk w0.heap.size E f H rows b/\(∀g cap,b=some (g,cap)->headOf (β h)=some g)/\Rep w (DD (updH H h (.blk true st e sz rows)) β D0) (.own b e sz rows) (β h):=by
 have ho:=R.own h _ _ _ _ hH;have hmut:(H h).isMut:=by rw[hH];trivial
 have hsub:∀b,DD (updH H h (.blk true st e sz rows)) β D0 b->DD H β D0 b:=by
  rintro b (hb|⟨u,hm,hk⟩)
  .exact .inl hb
  .by_cases e:u=h
   .subst e;rw[updH_same]at hm;exact hm.elim
   .rw[updH_ne _ _ e]at hm;exact .inr ⟨u,hm,hk⟩
 have hn:∀g,headOf (β h)=some g->¬DD (updH H h (.blk true st e sz rows)) β D0 g:=by
  rintro g hg (hb|⟨u,hm,hk⟩)
  .have h1:=R.old g hb;rcases DD.head R hmut hg with h2|h2
   .omega
   .exact h2
  .by_cases e:u=h
   .subst e;rw[updH_same]at hm;exact hm.elim
   .rw[updH_ne _ _ e]at hm;exact R.dis u h e hm hmut g hk hg
 obtain⟨b,hrep,hb0,hbg⟩:=ho.rep_own hsub hn;refine⟨b,w.heap.size,⟨R.mrk _ _ hB,Nat.le_refl _⟩,⟨hb0,λg cap hg=>?_⟩,hbg,hrep⟩;have hgh:=hbg g cap hg;have hDg:DD H β D0 g:=.inr ⟨h,hmut,hgh⟩;have hlt:=R.mut_lt hmut hgh;have hrows:∀(u:Nat) (fz:Bool) (st e sz:Nat) (rows:List (List IV)),H u=.blk fz st e sz rows->g∉idsRows rows:=λu fz st e sz rows hu hm=>by
  cases fz with
  |false =>
   rcases (R.own u _ _ _ _ hu).2 with ⟨hr,_⟩|⟨g',cap',cur,_,_,_,_,_,_,hr⟩
   .rw[hr]at hm;simp[idsRows]at hm
   .rw[<-idsRow_flatten]at hm;obtain⟨x,hx,hm⟩:=mem_idsRow.1 hm;obtain⟨j,hj⟩:=List.getElem?_of_mem hx;obtain⟨v,_,hv⟩:=hr.get j x hj;exact(hv.ids g hm).1 hDg
  |true=>exact((R.frz u _ _ _ _ hu).2.1.ids g hm).1 hDg
 refine⟨hlt.2.resolve_right id,hlt.1,λhm=>?_,λu x hu hm=>?_,λu cs hu hm=>?_,hrows⟩
 .rcases ho.2 with ⟨hr,_⟩|⟨g',cap',cur,_,_,_,_,_,_,hr⟩
  .rw[hr]at hm;simp[idsRows]at hm
  .rw[<-idsRow_flatten]at hm;obtain⟨x,hx,hm⟩:=mem_idsRow.1 hm;obtain⟨j,hj⟩:=List.getElem?_of_mem hx;obtain⟨v,_,hv⟩:=hr.get j x hj;exact(hv.ids g hm).1 hDg
 .have:=R.tmps u;rw[hu]at this;simp only[AVRep]at this;exact(this.ids g hm).1 hDg
 .have:=R.tmps u;rw[hu]at this;simp only[AVRep]at this;obtain⟨vs,_,hr⟩:=this;obtain⟨x,hx,hm⟩:=mem_idsRow.1 hm;obtain⟨j,hj⟩:=List.getElem?_of_mem hx;obtain⟨v,_,hv⟩:=hr.get j x hj;exact(hv.ids g hm).1 hDg
theorem Rel.opn {f:Fr}{H:Hp}{T:Fr->Hp->Prop}(k:Opn w0.heap.size T f H):∀{β:Nat->Value} {a:Act} {w:World},Rel G (λ_=>False) w0 D0 N f H β a w->∃f' H' β',T f' H'/\Rel G (λ_=>False) w0 D0 N f' H' β' a w:=by
 induction k with
 |done h=>exact λR=>⟨_,_,_,h,R⟩
 |nils t e sz hf k ih =>
  intro β a w R;have hx:=R.tmps t;rw[hf]at hx;simp only[AVRep]at hx;have ht:t<N:=R.in_range (t:=t) (λv hv=>by rw[hx]at hv;subst hv;intro h;cases h);have R':=R.value (dst:=some t) (v:=.iv (.own none e sz [])) (val:=.slice none 0 0) (by simp only[AVRep];exact .ownN e sz) (by rintro _ ⟨⟩;exact ht);rw[R.put_self ht hx]at R';exact ih R'
 |row hb st e j h s e' sz rows rws B hN hj hH hB k ih =>
  rename_i f H;intro β a w R;have ho:=R.own h _ _ _ _ hH;have hmut:(H h).isMut:=by rw[hH];trivial
  have hne:(999:Nat)≠h:=λe=>by rw[e,hH]at hB;cases hB
  have hne2:hb≠h:=λe=>by rw[e,hH]at hN;cases hN
  have hne3:hb≠999:=λe=>by rw[e,hB]at hN;cases hN
  obtain⟨b,E,hE,hok,hids,hrow⟩:=R.open_at hH hB;have R1:=R.freeze h;rw[hH]at R1;simp only[HC.frz]at R1;have R2:=R1.setmrk (h:=999) (B:=B) (E:=E) (by rw[updH_ne _ _ hne];exact hB) hE.2;have hN2:updH (updH H h (.blk true s e' sz rws)) 999 (.mrk E) hb=.nst st e rows:=by rw[updH_ne _ _ hne3,updH_ne _ _ hne2];exact hN
  have hsub:∀k,DD (updH (updH H h (.blk true s e' sz rws)) 999 (.mrk E)) β D0 k->DD (updH H h (.blk true s e' sz rws)) β D0 k:=by
   rintro k (hk|⟨u,hm,hk⟩)
   .exact .inl hk
   .by_cases e:u=999
    .subst e;rw[updH_same]at hm;exact hm.elim
    .rw[updH_ne _ _ e]at hm;exact .inr ⟨u,hm,hk⟩
  have hjr:∀v,AVRep w (DD (updH (updH H h (.blk true s e' sz rws)) 999 (.mrk E)) β D0) (updH (updH H h (.blk true s e' sz rws)) 999 (.mrk E)) β (.hs h s) v->AVRep w (DD (updH (updH H h (.blk true s e' sz rws)) 999 (.mrk E)) β D0) (updH (updH H h (.blk true s e' sz rws)) 999 (.mrk E)) β (.iv (.own b e' sz rws)) v:=by
   intro v hv;simp only[AVRep]at hv ⊢;have:v=β h:=hv.2 (by rw[updH_ne _ _ (Ne.symm hne),updH_same];rfl);rw[this];exact hrow.mono (Grows.of_sub hsub)
  have R3:=R2.conv (h:=hb) (c:=.nst st e (rows.set j (.iv (.own b e' sz rws)))) (by rw[hN2];rfl) (by rw[hN2];rfl) (by rw[hN2];exact Iff.rfl) (by intro a b c d h;cases h) (λst' e'' rows' hh=>by
   injection hh with h1 h2 h3;subst h1 h2 h3;rcases R2.nst hb _ _ _ hN2 with ⟨hr,hv⟩|⟨g,cap,cur,hv,hBg,hg,a1,a2,a3,a4,a5⟩
   .rw[hr]at hj;simp at hj
   .refine .inr ⟨g,cap,cur,by rw[hv];simp,hBg,hg,by simpa using a1,a2,a3,?_,by simpa using a5⟩;simp only[List.length_set];exact AVReps.setv a4 hj hjr) (by intro a b c d h;cases h)
  refine ih b E hE.1 hok (λg cap hb' x hx hm=>?_) R3;rcases R.nst hb _ _ _ hN with ⟨hr,_⟩|⟨g',cap',cur,_,_,_,_,_,_,hr,_⟩
  .rw[hr]at hx;cases hx
  .obtain⟨v,hv⟩:=hr.memv hx;simp only[AVRep]at hv;exact(hv.ids g hm).1 (.inr ⟨h,hmut,hids g cap hb'⟩)
 |opn t h st e sz rows B hf hH hB k ih =>
  rename_i f H;intro β a w R;have hx:=R.tmps t;rw[hf]at hx;simp only[AVRep]at hx;have hv:a.tmps.getD t Go.undef=β h:=hx.2 (by rw[hH];rfl);have ho:=R.own h _ _ _ _ hH;have ht:t<N:=R.in_range (t:=t) (λv hv'=>by
   rw[hv]at hv';rcases ho.2 with ⟨_,hn⟩|⟨g,cap,cur,hn,_⟩<;>(rw[hn]at hv';subst hv';intro h;cases h))
  have R1:=R.freeze h;rw[hH]at R1;simp only[HC.frz]at R1;have hne:(999:Nat)≠h:=λe=>by rw[e,hH]at hB;cases hB
  have hsub:∀b,DD (updH H h (.blk true st e sz rows)) β D0 b->DD H β D0 b:=by
   rintro b (hb|⟨u,hm,hk⟩)
   .exact .inl hb
   .by_cases e:u=h
    .subst e;rw[updH_same]at hm;exact hm.elim
    .rw[updH_ne _ _ e]at hm;exact .inr ⟨u,hm,hk⟩
  have hmut:(H h).isMut:=by rw[hH];trivial
  have hn:∀g,headOf (β h)=some g->¬DD (updH H h (.blk true st e sz rows)) β D0 g:=by
   rintro g hg (hb|⟨u,hm,hk⟩)
   .have h1:=R.old g hb;rcases DD.head R hmut hg with h2|h2
    .omega
    .exact h2
   .by_cases e:u=h
    .subst e;rw[updH_same]at hm;exact hm.elim
    .rw[updH_ne _ _ e]at hm;exact R.dis u h e hm hmut g hk hg
  obtain⟨b,hrep,hb0,hbg⟩:=ho.rep_own hsub hn;have R2:=R1.setmrk (h:=999) (B:=B) (E:=w.heap.size) (by rw[updH_ne _ _ hne];exact hB) (Nat.le_refl _);have hsub2:∀b,DD (updH (updH H h (.blk true st e sz rows)) 999 (.mrk w.heap.size)) β D0 b->DD (updH H h (.blk true st e sz rows)) β D0 b:=by
   rintro b (hb|⟨u,hm,hk⟩)
   .exact .inl hb
   .by_cases e:u=999
    .subst e;rw[updH_same]at hm;exact hm.elim
    .rw[updH_ne _ _ e]at hm;exact .inr ⟨u,hm,hk⟩
  have R3:=R2.value (dst:=some t) (v:=.iv (.own b e sz rows)) (val:=a.tmps.getD t Go.undef) (by simp only[AVRep];rw[hv];exact hrep.mono (Grows.of_sub hsub2)) (by rintro _ ⟨⟩;exact ht);rw[R.put_self ht rfl]at R3;refine ih b w.heap.size (R.mrk _ _ hB) ⟨hb0,λg cap hg=>?_⟩ R3;have hgh:=hbg g cap hg;have hDg:DD H β D0 g:=.inr ⟨h,hmut,hgh⟩;have hlt:=R.mut_lt hmut hgh;have hrows:∀(u:Nat) (fz:Bool) (st e sz:Nat) (rows:List (List IV)),H u=.blk fz st e sz rows->g∉idsRows rows:=λu fz st e sz rows hu hm=>by
   cases fz with
   |false =>
    rcases (R.own u _ _ _ _ hu).2 with ⟨hr,_⟩|⟨g',cap',cur,_,_,_,_,_,_,hr⟩
    .rw[hr]at hm;simp[idsRows]at hm
    .rw[<-idsRow_flatten]at hm;obtain⟨x,hx,hm⟩:=mem_idsRow.1 hm;obtain⟨j,hj⟩:=List.getElem?_of_mem hx;obtain⟨v,_,hv⟩:=hr.get j x hj;exact(hv.ids g hm).1 hDg
   |true=>exact((R.frz u _ _ _ _ hu).2.1.ids g hm).1 hDg
  refine⟨hlt.2.resolve_right id,hlt.1,λhm=>?_,λu x hu hm=>?_,λu cs hu hm=>?_,hrows⟩
  .rcases ho.2 with ⟨hr,_⟩|⟨g',cap',cur,_,_,_,_,_,_,hr⟩
   .rw[hr]at hm;simp[idsRows]at hm
   .rw[<-idsRow_flatten]at hm;obtain⟨x,hx,hm⟩:=mem_idsRow.1 hm;obtain⟨j,hj⟩:=List.getElem?_of_mem hx;obtain⟨v,_,hv⟩:=hr.get j x hj;exact(hv.ids g hm).1 hDg
  .have:=R.tmps u;rw[hu]at this;simp only[AVRep]at this;exact(this.ids g hm).1 hDg
  .have:=R.tmps u;rw[hu]at this;simp only[AVRep]at this;obtain⟨vs,_,hr⟩:=this;obtain⟨x,hx,hm⟩:=mem_idsRow.1 hm;obtain⟨j,hj⟩:=List.getElem?_of_mem hx;obtain⟨v,_,hv⟩:=hr.get j x hj;exact(hv.ids g hm).1 hDg
def AWo [Zi] (P:Program)(B0:Nat):Nat->Code->Post->Fr->Hp->Prop
 |0,c,Q,f,H=>Opn B0 (AW P c Q) f H
 |n+1,.seq x y,Q,f,H=>AW P x (SeqQ (AWo P B0 n y Q) Q) f H
 |_,_,_,_,_=>False
def AWq [Zi] (P:Program)(B0:Nat)(n:Option Nat)(c:Code)(Q:Post)(f:Fr)(H:Hp):Prop :=
 match n with
 |none=>AW P c Q f H
 |some n=>AWo P B0 n c Q f H
theorem awo_sound (hm:P.follows .mixedOrders=true):∀(n:Nat) (c:Code) (w0:World) (Q:Post) (f:Fr) (H:Hp) (β:Nat->Value) (a:Act) (w:World),G.rnd=false->codeOk N c=true->AWo P w0.heap.size n c Q f H->Rel G (λ_=>False) w0 D0 N f H β a w->c.wpIn (Wd none) 0 P (Conc G (λ_=>False) w0 D0 N Q) a w
 |0,c,w0,Q,f,H,β,a,w,hr,hd,h,R=>by
  obtain⟨f',H',β',h',R'⟩:=Rel.opn h R;exact aw_sound hm c none G _ w0 Q f' H' β' a w (.inr ⟨rfl,hr⟩) hd h' R'
 |n+1,.seq x y,w0,Q,f,H,β,a,w,hr,hd,h,R=>by
  simp only[codeOk,Bool.and_eq_true]at hd;refine wpIn_seq (wpIn_mono (aw_sound hm x none G _ w0 _ f H β a w (.inr ⟨rfl,hr⟩) hd.1 h R) λe a w hq=>?_);cases e with
  |normal=>obtain⟨f,H,β,hk,R⟩:=hq;exact awo_sound hm n y w0 Q f H β a w hr hd.2 hk R
  |panic _=>exact hq.elim
  |outgrown=>exact hq.elim
  |exit id=>obtain⟨f,H,β,hk,R⟩:=hq;exact⟨f,H,β,hk,R⟩
  |ret=>obtain⟨f,H,β,hk,R⟩:=hq;exact⟨f,H,β,hk,R⟩
  |goto l=>obtain⟨f,H,β,hk,R⟩:=hq;exact⟨f,H,β,hk,R⟩
theorem awq_sound (hm:P.follows .mixedOrders=true){n:Option Nat}{c:Code}{w0:World}{Q:Post}{f:Fr}{H:Hp}{β:Nat->Value}{a:Act}{w:World}(hr:G.rnd=false)(hd:codeOk N c=true)(h:AWq P w0.heap.size n c Q f H)(R:Rel G (λ_=>False) w0 D0 N f H β a w):c.wpIn (Wd none) 0 P (Conc G (λ_=>False) w0 D0 N Q) a w:=by
 cases n with
 |none=>exact aw_sound hm c none G _ w0 Q f H β a w (.inr ⟨rfl,hr⟩) hd h R
 |some n=>exact awo_sound hm n c w0 Q f H β a w hr hd h R
theorem cvreps_of {w:World}{D:Nat->Prop}:∀{cs:List CV} {us:List Value},us.length=cs.length->(∀(k:Nat) c v,cs[k]?=some c->us[k]?=some v->CVRep w D c v)->CVReps w D cs us
 |[],[],_,_=>trivial
 |c::cs,u::us,hl,h=>⟨h 0 c u rfl rfl,cvreps_of (by simpa using hl) λk c v hc hv=>h (k+1) c v (by simpa using hc) (by simpa using hv)⟩
 |[],_::_,hl,_=>by simp at hl
 |_::_,[],hl,_=>by simp at hl
theorem ACX.of_body {g : Nat} {args : List CV} {R : Nat → Nat → List CV → Prop} (hm : P.follows .mixedOrders = true) {fn : Func} {body : Code} (hf : P.funcs[g]? = some fn) (hb : fn.body = some body) (hn : (fn.name == "runtime.NumGoroutine") = false)
  (hd:codeOk fn.ntmps body=true) (hargs:args.length<=fn.ntmps) (hne:∀B,∃E res,B<=E/\R B E res) {n:Option Nat} (h:∀B,AWq P B n body (RetQX P fn.results.toList B R) (initF args) (initHX B)):ACX P g args R:=by
 refine⟨hne,λw D vs hD hvs=>?_⟩;refine .inl ⟨fn,hf,hn,by rw[hb];rfl,callsIn_wide.1 (callsIn_of_wp_marks (n:=0) (F:=Fence.wide) hf hb trivial ?_)⟩;have hlen:=hvs.length;have hmut:∀h,¬(initHX w.heap.size h).isMut:=λh=>by
  unfold initHX;split<;>exact id
 have hcv:∀(cvs:List CV) (us:List Value),CVReps w D cvs us->∀t,AVRep w (DD (initHX w.heap.size) (λ_=>default) D) (initHX w.heap.size) (λ_=>default) (initF cvs t) ((us[t]?).getD Go.undef):=by
  intro cvs us hu t;have hDD:∀b,DD (initHX w.heap.size) (λ_=>default) D b->D b:=by
   intro b hb;rcases hb with hb|⟨k,hm,_⟩
   .exact hb
   .exact(hmut k hm).elim
  induction cvs generalizing us t with
  |nil =>
   match us,hu with
   |[],_=>simp[initF,AVRep]
  |cons c cs ih =>
   match us,hu with
   |u::us,hu =>
    cases t with
    |zero=>simp only[initF,List.map_cons,List.getElem?_cons_zero,Option.getD_some];exact(hu.1.mono (Grows.of_sub hDD)).av
    |succ t=>simpa only[initF,List.map_cons,List.getElem?_cons_succ] using ih us hu.2 t
 have hmrk:∀h c,initHX w.heap.size h=c->c=.none\/c=.mrk w.heap.size:=λh c hc=>by
  unfold initHX at hc;split at hc
  .exact .inr hc.symm
  .exact .inl hc.symm
 have R0:Rel ⟨λ_ _=>False,false⟩ (λ_=>False) w D fn.ntmps (initF args) (initHX w.heap.size) (λ_=>default) { tmps:=vs.toArray++Array.replicate (fn.ntmps-vs.toArray.size) Go.undef,defers:=[] } w:=by
  refine⟨rfl,rfl,rfl,Nat.le_refl _,λ_ _ _=>rfl,λb hb=>⟨hD b hb,λh=>h⟩,by simp;omega,λd hd=>(by cases hd),λh=>(by cases h),List.nodup_nil,λ_ _ h=>h.elim,λt=>?_,λh st e sz rows hh=>(by rcases hmrk _ _ hh with h|h<;>cases h),λh st e sz rows hh=>(by rcases hmrk _ _ hh with h|h<;>cases h),λh h' _ hm=>(hmut h hm).elim,λh st e rows hh=>(by rcases hmrk _ _ hh with h|h<;>cases h),λh B hh=>(by
   rcases hmrk _ _ hh with h|h
   .cases h
   .injection h with h;rw[h];exact Nat.le_refl _),λh x v hh=>(by rcases hmrk _ _ hh with h|h<;>cases h)⟩
  have e:(vs.toArray++Array.replicate (fn.ntmps-vs.toArray.size) Go.undef).getD t Go.undef=(vs[t]?).getD Go.undef:=by
   rw[Array.getD_eq_getD_getElem?,Array.getElem?_append];split
   .simp
   .rename_i ht;simp only[List.size_toArray,Nat.not_lt]at ht;rw[List.getElem?_eq_none ht];simp only[Array.getElem?_replicate];split<;>rfl
  rw[e];exact hcv args vs hvs t
 refine wpIn_mono (awq_sound hm rfl hd (h w.heap.size) R0) λe a w' hq=>?_
 have fin:∀f H β,Opn w.heap.size (RetTX P fn.results.toList w.heap.size R) f H->Rel ⟨λ_ _=>False,false⟩ (λ_=>False) w D fn.ntmps f H β a w' ->
   LeavesInM Fence.wide 0 P fn a.tmps (λe w'=>∃v,e=.returned v/\Below w.heap.size w w'/\∃us res,v=packV us/\R w.heap.size w'.heap.size res/\CVReps w' D res us) a.defers .returning w':=by
  intro f H β hr R0;refine leaves_ok a.defers _ w' R0.defers R0.ndup R0.size λw2 h1 h2 h3 h4 h5=>?_;have g2:Grows w' (DD H β D) w2 (DD H β D):=⟨Nat.le_of_eq h4.symm,λ_ _ h=>h,λb _ _ hc=>h5 b (.inr hc)⟩;have R1:Rel ⟨λ_ _=>False,false⟩ (λ_=>False) w D fn.ntmps f H β { a with defers:=[] } w2 :=
   ⟨h1.trans R0.os,h2.trans R0.tape,h3.trans R0.output,by rw[h4];exact R0.size,λk hk _=>(h5 k (.inl hk)).trans (R0.keep k hk (λh=>h)),R0.old,R0.tsize,λd hd=>(by cases hd),λh=>(by cases h),List.nodup_nil,λ_ _ h=>h.elim,
    λt=>AVRep.mono g2 (HStep.refl _ _) _ _ (R0.tmps t),
    λh st e sz rows hh=>(R0.own h st e sz rows hh).mono g2 λk hk=>by obtain⟨cur,e',hc⟩:=R0.own_cells (by rw[hh];trivial) hk;exact h5 k (.inr ⟨_,hc,rfl⟩),
    λh st e sz rows hh=>⟨(R0.frz h st e sz rows hh).1,(R0.frz h st e sz rows hh).2.1.mono g2,(R0.frz h st e sz rows hh).2.2⟩,R0.dis,
    λh st e rows hh=>(R0.nst h st e rows hh).mono g2 (HStep.refl _ _) λk hk=>by obtain⟨cur,e',hc⟩:=R0.own_cells (by rw[hh];trivial) hk;exact h5 k (.inr ⟨_,hc,rfl⟩),λh B hh=>by rw[h4];exact R0.mrk h B hh,λh x v hh=>AVRep.mono g2 (HStep.refl _ _) _ _ (R0.tie h x v hh)⟩
  clear h1 h2 h3 h4 h5;obtain⟨f',H',β',⟨B,cs,hB,hrets,hR⟩,R2⟩:=Rel.opn hr R1;obtain⟨us,h1',h2,h3,_⟩:=rets_sound R2 _ _ _ hrets;refine⟨_,results_run h1',_,rfl,⟨R2.os,R2.tape,R2.output,R2.size,λk hk=>R2.keep k hk (λh=>h)⟩,us,cs,rfl,hR _ (R2.mrk _ _ hB),cvreps_of h2 λk c v hc hv=>?_⟩;obtain⟨ms,_,hrep⟩:=h3 k c v (λi e sz rows ho=>nomatch ho) hc hv;exact hrep.mono (Grows.of_sub λb hb=>.inl hb)
 cases e with
 |normal=>obtain⟨f,H,β,hk,R⟩:=hq;exact fin f H β hk R
 |ret=>obtain⟨f,H,β,hk,R⟩:=hq;exact fin f H β hk R
 |panic _=>exact hq.elim
 |outgrown=>exact hq.elim
 |exit id=>obtain⟨f,H,β,hk,R⟩:=hq;exact hk.elim
 |goto l=>obtain⟨f,H,β,hk,R⟩:=hq;exact hk.elim
def initFA (avs:List AV):Fr:=λt=>(avs[t]?).getD .undef
def resAV [Zi] (P:Program)(f:Fr)(H:Hp):List ResultVar->Option (Prop×AV)
 |[]=>some (True,.dead)
 |[.tmp t]=>some (True,f t)
 |[.cell t ty]=>match aLoad (ti P ty) H (f t) with
  |some r=>some (r.c,r.v)
  |none=>none
 |_=>none
def RetQI [Zi] (P:Program)(rs:List ResultVar)(Z:AV->Hp->Prop):Post
 |.ret,f,H=>∃c x,resAV P f H rs=some (c,x)/\c/\Z x H
 |.normal,f,H=>∃c x,resAV P f H rs=some (c,x)/\c/\Z x H
 |_,_,_=>False
theorem calls_body {g : Nat} {vs : List Value} {w : World} {R : Value → World → Prop} {fn : Func} {body : Code} (hf : P.funcs[g]? = some fn) (hb : fn.body = some body) (hn : (fn.name == "runtime.NumGoroutine") = false)
  (h:body.wpIn (Wd none) 0 P (λe a w'=>(e=.normal\/e=.ret)/\a.defers=[]/\∃us,(fn.results.toList.mapM (rvS a.tmps)).run P w'=.ok us w'/\R (packV us) w') { tmps:=vs.toArray++Array.replicate (fn.ntmps-vs.toArray.size) Go.undef,defers:=[] } w):CallsR P g vs w R:=by
 refine .inl ⟨fn,hf,hn,by rw[hb];rfl,callsIn_wide.1 (callsIn_of_wp_marks (n:=0) (F:=Fence.wide) hf hb trivial ?_)⟩;refine wpIn_mono h λe a w' hq=>?_;obtain⟨he,hd,us,hr,hR⟩:=hq;have fin:LeavesInM Fence.wide 0 P fn a.tmps (λe w'=>∃v,e=.returned v/\R v w') a.defers .returning w':=by
  rw[hd];exact⟨_,results_run (a:=a) hr,_,rfl,hR⟩
 rcases he with rfl|rfl
 .exact fin
 .exact fin
theorem ACI.of_sound {g : Nat} {avs : List AV} {H : Hp} {Z : AV → Hp → Prop} {fn : Func} {body : Code} (hf : P.funcs[g]? = some fn) (hb : fn.body = some body) (hn : (fn.name == "runtime.NumGoroutine") = false)
  (hargs:avs.length<=fn.ntmps) (hne:∃x H',Z x H') (hs:∀(G:Gh) (M:Nat->Prop) (w0:World) (D0:Nat->Prop) (β:Nat->Value) (a:Act) (w:World),Rel G M w0 D0 fn.ntmps (initFA avs) H β a w->body.wpIn (Wd none) 0 P (Conc G M w0 D0 fn.ntmps (RetQI P fn.results.toList Z)) a w):ACI P g avs H Z:=by
 refine⟨hne,?_⟩;intro G M w0 D0 N f β a w vs R hall;refine calls_body hf hb hn ?_;have hlen:avs.length=vs.length:=avall_len hall;have ht:∀t,AVRep w (DD H β D0) H β (initFA avs t) ((vs.toArray++Array.replicate (fn.ntmps-vs.toArray.size) Go.undef).getD t Go.undef):=by
  intro t;have e:(vs.toArray++Array.replicate (fn.ntmps-vs.toArray.size) Go.undef).getD t Go.undef=(vs[t]?).getD Go.undef:=by
   rw[Array.getD_eq_getD_getElem?,Array.getElem?_append];split
   .simp
   .rename_i ht;simp only[List.size_toArray,Nat.not_lt]at ht;rw[List.getElem?_eq_none ht];simp only[Array.getElem?_replicate];split<;>rfl
  rw[e];have key:∀(avs:List AV) (vs:List Value) (t:Nat),AVAll w (DD H β D0) H β avs vs->AVRep w (DD H β D0) H β ((avs[t]?).getD .undef) ((vs[t]?).getD Go.undef):=by
   intro avs
   induction avs with
   |nil=>intro vs t h;cases h;simp[AVRep]
   |cons x xs ih =>
    intro vs t h;cases h with
    |cons hx hxs =>
     cases t with
     |zero=>simpa using hx
     |succ t=>simpa using ih _ t hxs
  exact key avs vs t hall
 have R0:=R.enter (f0:=initFA avs) (a0:={ tmps:=vs.toArray++Array.replicate (fn.ntmps-vs.toArray.size) Go.undef,defers:=[] }) (N':=fn.ntmps) (by simp;omega) rfl ht;refine wpIn_mono (hs _ _ _ _ _ _ _ R0) λe a' w' hq=>?_;have fin:∀f1 H1 β1,(∃c x,resAV P f1 H1 fn.results.toList=some (c,x)/\c/\Z x H1)->Rel (ghosts f a G) (Mut H β) w D0 fn.ntmps f1 H1 β1 a' w'->a'.defers=[]/\∃us,(fn.results.toList.mapM (rvS a'.tmps)).run P w'=.ok us w'/\∃x H' β',Z x H'/\Rel G M w0 D0 N f H' β' a w'/\AVRep w' (DD H' β' D0) H' β' x (packV us):=by
  rintro f1 H1 β1 ⟨c,x,hres,hc,hz⟩ R1;refine⟨R1.rnd rfl,?_⟩;have R2:=R.leave R1;unfold resAV at hres;split at hres
  .rename_i heq;injection hres with hres;injection hres with e1 e2;subst e2;rw[heq];exact⟨[],rfl,_,_,β1,hz,R2,by simp[AVRep]⟩
  .rename_i t heq;injection hres with hres;injection hres with e1 e2;subst e2;rw[heq];exact⟨[a'.tmps.getD t Go.undef],by simp[List.mapM_cons,rvS,Result.andThen],_,_,β1,hz,R2,R1.tmps t⟩
  .rename_i t ty heq;split at hres
   .rename_i r hr;injection hres with hres;injection hres with e1 e2;subst e1 e2;rw[heq];have hx:=R1.tmps t;obtain⟨_,_,u,hu,hrep⟩:=aLoad_sound R1 hx hr hc;have:∃ad,a'.tmps.getD t Go.undef=.pointer (some ad):=by
     cases hft:f1 t<;>rw[hft]at hx hr<;>simp only[aLoad,reduceCtorEq]at hr<;>simp only[AVRep]at hx
     .obtain⟨g,o,h,_⟩:=hx;exact⟨_,h⟩
     .rename_i h st i off;split at hr
      .rename_i hH;have hst:st=(H1 h).stamp:=by
        rw[hH];simp only[HC.stamp];split at hr<;>(injection hr with hr;subst hr;exact hc.2.1)
       obtain⟨g,n,cap,_,h⟩:=hx.2 hst;exact⟨_,h⟩
      .rename_i hH;have hst:st=(H1 h).stamp:=by
        rw[hH];simp only[HC.stamp];split at hr
        .injection hr with hr;subst hr;exact hc.2.1
        .split at hr
         .injection hr with hr;subst hr;exact hc.2.1
         .cases hr
       obtain⟨g,n,cap,_,h⟩:=hx.2 hst;exact⟨_,h⟩
      .cases hr
    obtain⟨ad,had⟩:=this;rw[had]at hu;have hrun:(rvS a'.tmps (.cell t ty)).run P w'=.ok u w':=by
     simp only[rvS,had,asAddr,Sem.run_bind,Sem.run_pure,Result.andThen_ok];simpa [Instr.loadAt,Instr.sureAddr] using hu
    exact⟨[u],by simp[List.mapM_cons,hrun,Result.andThen],_,_,β1,hz,R2,hrep⟩
   .cases hres
  .cases hres
 cases e with
 |normal=>obtain⟨f1,H1,β1,hk,R1⟩:=hq;exact⟨.inl rfl,fin f1 H1 β1 hk R1⟩
 |ret=>obtain⟨f1,H1,β1,hk,R1⟩:=hq;exact⟨.inr rfl,fin f1 H1 β1 hk R1⟩
 |panic _=>exact hq.elim
 |outgrown=>exact hq.elim
 |exit id=>obtain⟨f1,H1,β1,hk,R1⟩:=hq;exact hk.elim
 |goto l=>obtain⟨f1,H1,β1,hk,R1⟩:=hq;exact hk.elim
theorem ACI.of_body {g : Nat} {avs : List AV} {H : Hp} {Z : AV → Hp → Prop} (hm : P.follows .mixedOrders = true) {fn : Func} {body : Code} (hf : P.funcs[g]? = some fn) (hb : fn.body = some body) (hn : (fn.name == "runtime.NumGoroutine") = false)
  (hd:codeOk fn.ntmps body=true) (hnr:noRange body=true) (hargs:avs.length<=fn.ntmps) (hne:∃x H',Z x H') (h:AW P body (RetQI P fn.results.toList Z) (initFA avs) H):ACI P g avs H Z :=
 ACI.of_sound hf hb hn hargs hne λG M w0 D0 β a w R=>aw_sound hm body none _ _ _ _ _ _ _ _ w (.inl hnr) hd h R
end
end Go.AL

namespace Go.AL
variable {zi:Zi}
open Go.RowKit
set_option linter.unusedSimpArgs false
set_option linter.unusedVariables false
def AStep (r:Option AR)(d:Option Nat)(K:Fr->Hp->Log->Prop)(f:Fr)(H:Hp)(lg:Log):Prop :=
 match r with
 |some r=>r.c/\K (updo f d r.v) (applyH r.hs (frzAll r.fz H)) ((r.rd++r.fz++r.hs.map (·.1),r.fz++r.hs.map (·.1))::lg)
 |none=>False
section
variable {P:Program} {ds:List (Option Nat)} {rest:List Oper} {K:Fr->Hp->Log->Prop} {f:Fr} {H:Hp} {lg:Log} {d:Option Nat} {ty:Nat} {pos:String} {af:Array Edge}
theorem AOps_nil:AOps P ds [] K f H lg=K f H lg:=rfl
theorem AOps_move {x:Operand}:AOps P ds (⟨d,.move x,ty,pos,af,none⟩::rest) K f H lg=match zi.st with
  |.both=>AOps P ds rest K (updo f d (stripV (ev f x))) H (([],[])::lg)
  |.strip=>AOps P ds rest K (updo f d (ev f x)) H (([],[])::lg)
  |.no=>AOps P ds rest K (updo f d (ev f x)) H (([],[])::lg)
  |.al _=>AOps P ds rest K (updo f d (ev f x)) H (([],[])::lg):=by
 cases d<;>simp only[AOps,ARun,astep,movS]<;>cases zi.st<;>simp[applyH,frzAll]
theorem AOps_assign {x:Operand}:AOps P ds (⟨d,.assign x,ty,pos,af,none⟩::rest) K f H lg=AOps P ds rest K (updo f d (ev f x)) H (([],[])::lg):=by
 cases d<;>simp[AOps,ARun,astep,applyH,frzAll]
theorem AOps_pick {c x y:Operand}:AOps P ds (⟨d,.pick c x y,ty,pos,af,none⟩::rest) K f H lg=AStep (match ev f c with | .iv (.bool b)=>some ⟨True,if b then ev f x else ev f y,[],[],[]⟩|_=>none) d (AOps P ds rest K) f H lg:=by
 cases d<;>rfl
theorem AOps_alloc {e d:Nat}:AOps P ds (⟨some d,.alloc e,ty,pos,af,none⟩::rest) K f H lg=AStep (aAllocN (ti P e) H e d) (some d) (AOps P ds rest K) f H lg:=rfl
theorem AOps_box {e d:Nat}{x:Operand}:AOps P ds (⟨some d,.box e x,ty,pos,af,none⟩::rest) K f H lg=AStep (aBoxN (ti P e) H e d (ev f x)) (some d) (AOps P ds rest K) f H lg:=rfl
theorem AOps_build {t:Nat}{ps:List (Nat×Operand)}:AOps P ds (⟨d,.build t ps.toArray,ty,pos,af,none⟩::rest) K f H lg=AStep (aBuild (ti P t) H (ps.map (·.1)) (ps.map λp=>ev f p.2)) d (AOps P ds rest K) f H lg:=by
 cases d<;>rfl
theorem AOps_buildSlice {t n d:Nat}{ps:List (Nat×Operand)}:AOps P ds (⟨some d,.buildSlice t n ps.toArray,ty,pos,af,none⟩::rest) K f H lg=match zi.bs d with
  |true=>ABuildX P t n (ps.map (·.1)) (ps.map λp=>ev f p.2) d (AOps P ds rest K) f H lg
  |false=>AStep (match (ti P t).desc with | .sl e=>aBuildSliceN (ti P e) H e d n (ps.map (·.1)) (ps.map λp=>ev f p.2)|_=>none) (some d) (AOps P ds rest K) f H lg:=by
 simp only[AOps,ARun,astep];cases zi.bs d
 .unfold AStep;cases (ti P t).desc<;>rfl
 .rfl
theorem AOps_load {t:Nat}{x:Operand}:AOps P ds (⟨d,.load t x,ty,pos,af,none⟩::rest) K f H lg=match zi.st with
  |.strip=>AStep (match aLoad (ti P t) H (ev f x) with|some r=>some ⟨r.c,stripV r.v,r.fz,r.hs,r.rd⟩|none=>none) d (AOps P ds rest K) f H lg
  |.both=>AStep (match aLoad (ti P t) H (ev f x) with|some r=>some ⟨r.c,stripV r.v,r.fz,r.hs,r.rd⟩|none=>none) d (AOps P ds rest K) f H lg
  |.no=>AStep (aLoad (ti P t) H (ev f x)) d (AOps P ds rest K) f H lg
  |.al g=>AStep (loadAl g (ti P t) H (ev f x)) d (AOps P ds rest K) f H lg:=by
 simp only[AOps,ARun,astep,loadS];cases zi.st<;>cases d<;>rfl
theorem AOps_store {t:Nat}{x y:Operand}:AOps P ds (⟨d,.store t x y,ty,pos,af,none⟩::rest) K f H lg=AStep (aStoreN (ti P t) H (ev f x) (ev f y)) d (AOps P ds rest K) f H lg:=by cases d<;>rfl
theorem AOps_nilCheck {x:Operand}:AOps P ds (⟨d,.nilCheck x,ty,pos,af,none⟩::rest) K f H lg=AStep (aNil H (ev f x)) d (AOps P ds rest K) f H lg:=by cases d<;>rfl
theorem AOps_binOp {op:BinOp}{t yt:Nat}{x y:Operand}:AOps P ds (⟨d,.binOp op t x y yt,ty,pos,af,none⟩::rest) K f H lg=AStep (aBin (ti P t) op (ev f x) (ev f y)) d (AOps P ds rest K) f H lg:=by cases d<;>rfl
theorem AOps_unOp {op:UnOp}{t:Nat}{x:Operand}:AOps P ds (⟨d,.unOp op t x,ty,pos,af,none⟩::rest) K f H lg=AStep (aUn op (ev f x)) d (AOps P ds rest K) f H lg:=by cases d<;>rfl
theorem AOps_convert {s t:Nat}{x:Operand}:AOps P ds (⟨d,.convert s t x,ty,pos,af,none⟩::rest) K f H lg=AStep (aConv (ti P t) (ti P s) (ev f x)) d (AOps P ds rest K) f H lg:=by cases d<;>rfl
theorem AOps_makeSlice {t d:Nat}{x y:Operand}:AOps P ds (⟨some d,.makeSlice t x y,ty,pos,af,none⟩::rest) K f H lg=AStep (match (ti P t).desc with | .sl e=>aMake (ti P e) H e d (ev f x) (ev f y)|_=>none) (some d) (AOps P ds rest K) f H lg:=by
 simp only[AOps,ARun,astep];unfold AStep;cases (ti P t).desc<;>rfl
theorem AOps_slice {t:Nat}{x:Operand}{lo hi:Option Operand}:AOps P ds (⟨d,.slice t x lo hi none,ty,pos,af,none⟩::rest) K f H lg=AStep (match (ti P t).desc with | .sl e=>aSlice (ti P e).size (ti P e).ok H (unhw (ev f x)) (lo.map (ev f)) (hi.map (ev f))|_=>none) d (AOps P ds rest K) f H lg:=by cases d<;>rfl
theorem AOps_fieldAddr {s i:Nat}{x:Operand}:AOps P ds (⟨d,.fieldAddr s x i,ty,pos,af,none⟩::rest) K f H lg=AStep (aFieldAddr (ti P s) i H (ev f x)) d (AOps P ds rest K) f H lg:=by cases d<;>rfl
theorem AOps_indexAddr {t:Nat}{x i:Operand}:AOps P ds (⟨d,.indexAddr t x i,ty,pos,af,none⟩::rest) K f H lg=AStep (match (ti P t).desc with | .sl e=>aIndex (ti P e).size (ti P e).ok H (unhw (ev f x)) (ev f i) | .arr n e=>aIndexA n (ti P e).size (ti P e).ok H (ev f x) (ev f i)|_=>none) d (AOps P ds rest K) f H lg:=by cases d<;>rfl
theorem AOps_index {t:Nat}{x i:Operand}:AOps P ds (⟨d,.index t x i,ty,pos,af,none⟩::rest) K f H lg=AStep (aIndexS P t (ev f x) (ev f i)) d (AOps P ds rest K) f H lg:=by cases d<;>rfl
theorem AOps_extract {x:Operand}{i:Nat}:AOps P ds (⟨d,.extract x i,ty,pos,af,none⟩::rest) K f H lg=AStep (aExtract i (ev f x)) d (AOps P ds rest K) f H lg:=by cases d<;>rfl
theorem AOps_field {s i:Nat}{x:Operand}:AOps P ds (⟨d,.field s x i,ty,pos,af,none⟩::rest) K f H lg=AStep (aField (fldA P s i) (ev f x)) d (AOps P ds rest K) f H lg:=by cases d<;>rfl
theorem aField_agg {o sz:Nat}{cells:List IV}:aField (some (o,sz,true)) (.agg cells)=some ⟨o+sz<=cells.length,.agg ((cells.drop o).take sz),[],[],[]⟩:=rfl
theorem aField_one {o sz:Nat}{cells:List IV}:aField (some (o,sz,false)) (.agg cells)=some ⟨o<cells.length,.iv (cells.getD o default),[],[],[]⟩:=rfl
theorem AOps_builtin {b:Builtin}{xs:List Operand}{ts:List Nat}:AOps P ds (⟨d,.call ⟨.builtin b,xs.toArray,ts.toArray⟩,ty,pos,af,none⟩::rest) K f H lg=AStep (aBuiltin P b H d (xs.map (ev f)) ts) d (AOps P ds rest K) f H lg:=by cases d<;>rfl
theorem AOps_call {g d:Nat}{xs:List Operand}{ts:Array Nat}:AOps P ds (⟨some d,.call ⟨.value (.func g),xs.toArray,ts⟩,ty,pos,af,none⟩::rest) K f H lg=ACallK P g (xs.map (ev f)) d (AOps P ds rest K) f H lg:=by
 show ACallV P (ev f (.func g)) (xs.map (ev f)) d (AOps P ds rest K) f H lg=_;simp only[ev,ACallV,List.append_nil]
theorem AOps_callv {t d:Nat}{xs:List Operand}{ts:Array Nat}:AOps P ds (⟨some d,.call ⟨.value (.tmp t),xs.toArray,ts⟩,ty,pos,af,none⟩::rest) K f H lg=ACallV P (f t) (xs.map (ev f)) d (AOps P ds rest K) f H lg:=rfl
theorem ACallV_fn {g d:Nat}{l xs:List AV}{K:Fr->Hp->Log->Prop}:ACallV P (.fn g l) xs d K f H lg=ACallK P g (xs++l) d K f H lg:=rfl
theorem AOps_makeFunc {g:Nat}{xs:List Operand}:AOps P ds (⟨d,.makeFunc (.func g) (List.toArray []) xs.toArray,ty,pos,af,none⟩::rest) K f H lg=AOps P ds rest K (updo f d (.fn g (xs.map (ev f)))) H (([],[])::lg):=by
 cases d<;>simp[AOps,ARun,astep,applyH,frzAll]
theorem ev_func (f:Fr)(g:Nat):ev f (.func g)=.fn g []:=rfl
def AGuard (v:Option AV)(want:Bool)(yes no:Prop):Prop :=
 match v with
 |some (.iv (.bool b))=>if b=want then yes else no
 |some .undef=>no
 |_=>False
theorem AOps_guard {op:Op}{j:Nat}{want:Bool}:AOps P ds (⟨d,op,ty,pos,af,some (j,want)⟩::rest) K f H lg=AGuard ((ds.getD j none).map f) want (AOps P ds (⟨d,op,ty,pos,af,none⟩::rest) K f H lg) (AOps P ds rest K (updo f d .undef) H (([],[])::lg)):=rfl
theorem AGuard_tt {yes no:Prop}:AGuard (some (.iv (.bool true))) true yes no=yes:=rfl
theorem AGuard_ff {yes no:Prop}:AGuard (some (.iv (.bool false))) false yes no=yes:=rfl
theorem AGuard_tf {yes no:Prop}:AGuard (some (.iv (.bool true))) false yes no=no:=rfl
theorem AGuard_ft {yes no:Prop}:AGuard (some (.iv (.bool false))) true yes no=no:=rfl
theorem AGuard_undef {want:Bool}{yes no:Prop}:AGuard (some .undef) want yes no=no:=rfl
theorem AStep_true {v:AV}{fz:List Nat}{hs:List (Nat×HC)}{rd:List Nat}:AStep (some ⟨True,v,fz,hs,rd⟩) d K f H lg=K (updo f d v) (applyH hs (frzAll fz H)) ((rd++fz++hs.map (·.1),fz++hs.map (·.1))::lg):=by simp[AStep]
theorem AStep_ok {c:Prop}{v:AV}{fz:List Nat}{hs:List (Nat×HC)}{rd:List Nat}(hc:c):AStep (some ⟨c,v,fz,hs,rd⟩) d K f H lg=K (updo f d v) (applyH hs (frzAll fz H)) ((rd++fz++hs.map (·.1),fz++hs.map (·.1))::lg):=by simp[AStep,hc]
end
theorem call_by {P:Program}{g:Nat}{avs:List AV}{d:Nat}{K:Fr->Hp->Log->Prop}{f:Fr}{H:Hp}{lg:Log}{c:Prop}{args:List CV}{ms:List Nat}{own:OwnRes}{res:List CV}
  (hac:AC P g args own res) (ht:tocvs H avs=some (c,args,ms)) (hc:c)
  (hk:K (upd f d (packA (rAV (frzAll ms H) d own 0 res))) (applyH (ownH (frzAll ms H) d own) (frzAll ms H)) ((ms++(ownH (frzAll ms H) d own).map (·.1),ms++(ownH (frzAll ms H) d own).map (·.1))::lg)):ACallK P g avs d K f H lg :=
 .inl ⟨c,args,ms,own,res,true,.inl ht,hc,hac,by simp,hk⟩
theorem call_flat {P:Program}{g:Nat}{avs:List AV}{d:Nat}{K:Fr->Hp->Log->Prop}{f:Fr}{H:Hp}{lg:Log}{c:Prop}{args:List CV}{ms:List Nat}{own:OwnRes}{res:List CV}
  (hac:AC P g args own res) (ht:tocvs H avs=some (c,args,ms)) (hc:c) (hf:ms=[]\/FlatRes own res)
  (hk:K (upd f d (packA (rAV H d own 0 res))) (applyH (ownH H d own) H) ((ms++(ownH H d own).map (·.1),(ownH H d own).map (·.1))::lg)):ACallK P g avs d K f H lg :=
 .inl ⟨c,args,ms,own,res,false,.inl ht,hc,hac,λ_=>hf,hk⟩
theorem call_nil {P:Program}{g:Nat}{avs:List AV}{d:Nat}{K:Fr->Hp->Log->Prop}{f:Fr}{H:Hp}{lg:Log}{c:Prop}{args:List CV}{ms:List Nat}{own:OwnRes}{res:List CV}
  (hac:AC P g args own res) (ht:tocvsN H avs=some (c,args,ms)) (hc:c)
  (hk:K (upd f d (packA (rAV (frzAll ms H) d own 0 res))) (applyH (ownH (frzAll ms H) d own) (frzAll ms H)) ((ms++(ownH (frzAll ms H) d own).map (·.1),ms++(ownH (frzAll ms H) d own).map (·.1))::lg)):ACallK P g avs d K f H lg :=
 .inl ⟨c,args,ms,own,res,true,.inr ht,hc,hac,by simp,hk⟩
theorem callw_by {P:Program}{g:Nat}{avs:List AV}{d:Nat}{K:Fr->Hp->Log->Prop}{f:Fr}{H:Hp}{lg:Log}{c:Prop}{args:List CV}{ms:List Nat}{i h st e sz:Nat}{rows rows':List (List IV)}{res:List CV}
  (hac:ACW P g args i e sz rows rows' res) (hi:avs[i]?=some (.hs h st)) (hH:H h=.blk false st e sz rows) (ht:tocvs H (avs.set i .dead)=some (c,args,ms)) (hc:c) (hm:h∉ms)
  (hk:K (upd f d (packA (res.map CV.av))) (updH (frzAll ms H) h (.blk false st e sz rows')) ((h::ms,ms++[h])::lg)):ACallK P g avs d K f H lg :=
 .inr (.inl ⟨c,args,ms,i,h,st,e,sz,rows,rows',res,hi,hH,ht,hc,hm,hac,hk⟩)
theorem callx_by {P:Program}{g:Nat}{avs:List AV}{d:Nat}{K:Fr->Hp->Log->Prop}{f:Fr}{H:Hp}{lg:Log}{c:Prop}{args:List CV}{ms:List Nat}{B:Nat}{R:Nat->Nat->List CV->Prop}
  (hac:ACX P g args R) (ht:tocvs H avs=some (c,args,ms)) (hc:c) (hB:H 999=.mrk B)
  (hk:∀B' E res,B<=B'->B'<=E->R B' E res->K (upd f d (packA (res.map CV.av))) (updH (frzAll ms H) 999 (.mrk E)) ((999::ms,ms++[999])::lg)):ACallK P g avs d K f H lg :=
 .inr (.inr (.inr (.inl ⟨c,args,ms,B,R,ht,hc,hB,hac,hk⟩)))
theorem loop_by {P:Program}{c:Code}{Q:Post}{f:Fr}{H:Hp}(I:Fr->Hp->Prop)(μ:Fr->Hp->Nat)(h0:I f H)(hr:∀f H,I f H->AW P c (LoopQ I μ (μ f H) Q) f H):AW P (.loop c) Q f H :=
 ⟨I,μ,⟨f,H,.refl f H,h0⟩,hr⟩
theorem loop_nil {P:Program}{c:Code}{Q:Post}{f:Fr}{H:Hp}(t h e sz:Nat)(ht:f t=.nils)(I:Fr->Hp->Prop)(μ:Fr->Hp->Nat)(h0:I (ghostF f H t h) (ghostH H h e sz))(hr:∀f H,I f H->AW P c (LoopQ I μ (μ f H) Q) f H):AW P (.loop c) Q f H :=
 ⟨I,μ,⟨_,_,.nil t h e sz ht (.refl _ _),h0⟩,hr⟩
theorem cst_int (k:IntKind)(n:Int):cstA (.int k n)=.iv (.int k n):=rfl
theorem cst_bool (b:Bool):cstA (.bool b)=.iv (.bool b):=rfl
theorem cst_nil:cstA (.slice none 0 0)=.nils:=rfl
theorem ev_tmp (f:Fr)(t:Nat):ev f (.tmp t)=f t:=rfl
theorem ev_const (f:Fr)(v:Value):ev f (.const v)=cstA v:=rfl
theorem upd_at (f:Fr)(t:Nat)(v:AV)(u:Nat):upd f t v u=if u=t then v else f u:=rfl
theorem updH_at (H:Hp)(h:Nat)(c:HC)(u:Nat):updH H h c u=if u=h then c else H u:=rfl
theorem updo_some (f:Fr)(t:Nat)(v:AV):updo f (some t) v=upd f t v:=rfl
theorem updo_none (f:Fr)(v:AV):updo f none v=f:=rfl
theorem initF_at (args:List CV)(t:Nat):initF args t=((args.map CV.av)[t]?).getD .undef:=rfl
theorem initH_at (h:Nat):initH h=.none:=rfl
def SeqC [Zi] (P:Program)(y:Code)(Q:Post):Post:=SeqQ (AW P y Q) Q
def ACond [Zi] (P:Program)(v:AV)(x y:Code)(Q:Post)(f:Fr)(H:Hp):Prop:=ACnd v (AW P x Q f H) (AW P y Q f H)
def ALoop [Zi] (P:Program)(c:Code)(Q:Post)(f:Fr)(H:Hp):Prop:=AW P (.loop c) Q f H
def ARange [Zi] (P:Program)(g:Operand)(ps:List Nat)(x y:Code)(Q:Post)(f:Fr)(H:Hp):Prop:=AW P (.rangeFunc g ps.toArray x y) Q f H
def AsgC [Zi] (P:Program)(y:Code)(I:Nat->Hp->Prop)(J:Code->Hp->Prop)(k:Nat):Post:=AsgQ λf H=>AW P y (RoundQ I J k) f H
def RetC [Zi] (P:Program)(rs:List ResultVar)(own:OwnRes)(res:List CV):Post:=RetQ P rs own res
def RetCW [Zi] (P:Program)(rs:List ResultVar)(i e sz:Nat)(rows':List (List IV))(res:List CV):Post:=RetQW P rs i e sz rows' res
def RetCT (rs:List ResultVar)(i e sz:Nat)(rows':List (List IV)):Post:=RetQT rs i e sz rows'
def RetCX [Zi] (P:Program)(rs:List ResultVar)(B:Nat)(R:Nat->Nat->List CV->Prop):Post:=RetQX P rs B R
def RetCI [Zi] (P:Program)(rs:List ResultVar)(Z:AV->Hp->Prop):Post:=RetQI P rs Z
def ARetI [Zi] (P:Program)(rs:List ResultVar)(Z:AV->Hp->Prop)(f:Fr)(H:Hp):Prop:=∃c x,resAV P f H rs=some (c,x)/\c/\Z x H
def AOpn [Zi] (P:Program)(rs:List ResultVar)(B:Nat)(R:Nat->Nat->List CV->Prop)(f:Fr)(H:Hp):Prop:=Opn B (RetTX P rs B R) f H
def TmpsOk (ops:Array Oper):Prop:=tmpsOk ops=true
def LogOk (ops:Array Oper)(lg:Log):Prop:=logOk ops lg.reverse=true
section
variable {P:Program} {Q:Post} {K:Fr->Hp->Log->Prop} {f f':Fr} {H H':Hp} {lg:Log}
theorem AW_skip:AW P .skip Q f H=Q .normal f H:=by rw[AW]
theorem AW_region {id:Nat}{l:List Oper}:AW P (.region id l.toArray false) Q f H=AOps P (l.map (·.dst)) l (PlainQ Q) f H []:=by rw[AW];rfl
theorem AW_drawn {id:Nat}{l:List Oper}:AW P (.region id l.toArray true) Q f H=((TmpsOk l.toArray/\AOps P (l.map (·.dst)) l (OrdQ l.toArray Q) f H [])\/∃ord inv,permOk l ord inv=true/\TmpsOk (permL l ord inv).toArray/\AOps P ((permL l ord inv).map (·.dst)) (permL l ord inv) (OrdQ (permL l ord inv).toArray Q) f H []):=by rw[AW];rfl
theorem AW_seq {x y:Code}:AW P (.seq x y) Q f H=AW P x (SeqC P y Q) f H:=by rw[AW];rfl
theorem AW_cond {c:Operand}{x y:Code}:AW P (.cond c x y) Q f H=ACond P (ev f c) x y Q f H:=by rw[AW];rfl
theorem AW_block {id:Nat}{c:Code}:AW P (.block id c) Q f H=AW P c (BlockQ id Q) f H:=by rw[AW]
theorem AW_loop {c:Code}:AW P (.loop c) Q f H=ALoop P c Q f H:=rfl
theorem AW_exit {id:Nat}:AW P (.exit id) Q f H=Q (.exit id) f H:=by rw[AW]
theorem AW_scope {c:Code}:AW P (.scope c) Q f H=AW P c (ScopeQ Q) f H:=by rw[AW]
theorem AW_label {l:Nat}:AW P (.label l) Q f H=Q .normal f H:=by rw[AW]
theorem AW_range {g:Operand}{ps:List Nat}{x y:Code}:AW P (.rangeFunc g ps.toArray x y) Q f H=ARange P g ps x y Q f H:=rfl
theorem AsgC_normal {y:Code}{I:Nat->Hp->Prop}{J:Code->Hp->Prop}{k:Nat}:AsgC P y I J k .normal f H=AW P y (RoundQ I J k) f H:=rfl
theorem RoundQ_normal {I:Nat->Hp->Prop}{J:Code->Hp->Prop}{k:Nat}:RoundQ I J k .normal f H=I (k+1) H:=rfl
theorem RoundQ_ret {I:Nat->Hp->Prop}{J:Code->Hp->Prop}{k:Nat}:RoundQ I J k .ret f H=J .ret H:=rfl
theorem RoundQ_exit {I:Nat->Hp->Prop}{J:Code->Hp->Prop}{k i:Nat}:RoundQ I J k (.exit i) f H=J (.exit i) H:=rfl
theorem AW_ret:AW P .ret Q f H=Q .ret f H:=by rw[AW]
theorem SeqC_normal {y:Code}:SeqC P y Q .normal f H=AW P y Q f H:=rfl
theorem SeqC_exit {y:Code}{i:Nat}:SeqC P y Q (.exit i) f H=Q (.exit i) f H:=rfl
theorem SeqC_ret {y:Code}:SeqC P y Q .ret f H=Q .ret f H:=rfl
theorem BlockQ_normal {i:Nat}:BlockQ i Q .normal f H=Q .normal f H:=rfl
theorem BlockQ_exit {i j:Nat}:BlockQ i Q (.exit j) f H=if j=i then Q .normal f H else Q (.exit j) f H:=rfl
theorem BlockQ_ret {i:Nat}:BlockQ i Q .ret f H=Q .ret f H:=rfl
theorem ScopeQ_normal:ScopeQ Q .normal f H=Q .normal f H:=rfl
theorem ScopeQ_exit {i:Nat}:ScopeQ Q (.exit i) f H=Q (.exit i) f H:=rfl
theorem ScopeQ_ret:ScopeQ Q .ret f H=Q .ret f H:=rfl
theorem LoopQ_normal {I:Fr->Hp->Prop}{μ:Fr->Hp->Nat}{n:Nat}:LoopQ I μ n Q .normal f H=(I f H/\μ f H<n):=rfl
theorem LoopQ_exit {I:Fr->Hp->Prop}{μ:Fr->Hp->Nat}{n i:Nat}:LoopQ I μ n Q (.exit i) f H=Q (.exit i) f H:=rfl
theorem LoopQ_ret {I:Fr->Hp->Prop}{μ:Fr->Hp->Nat}{n:Nat}:LoopQ I μ n Q .ret f H=Q .ret f H:=rfl
theorem PlainQ_at:PlainQ Q f H lg=Q .normal f H:=rfl
theorem OrdQ_at {ops:Array Oper}:OrdQ ops Q f H lg=(LogOk ops lg/\Q .normal f H):=rfl
theorem RetC_ret {rs:List ResultVar}{own:OwnRes}{res:List CV}:RetC P rs own res .ret f H=(rets P f H own 0 rs res/\(match own with|none=>True|some (i,_)=>i<res.length)):=rfl
theorem RetC_normal {rs:List ResultVar}{own:OwnRes}{res:List CV}:RetC P rs own res .normal f H=(rets P f H own 0 rs res/\(match own with|none=>True|some (i,_)=>i<res.length)):=rfl
theorem RetCW_ret {rs:List ResultVar}{i e sz:Nat}{rows':List (List IV)}{res:List CV}:RetCW P rs i e sz rows' res .ret f H=(retsW P f H rs res/\H i=.blk false 1 e sz rows'):=rfl
theorem RetCW_normal {rs:List ResultVar}{i e sz:Nat}{rows':List (List IV)}{res:List CV}:RetCW P rs i e sz rows' res .normal f H=(retsW P f H rs res/\H i=.blk false 1 e sz rows'):=rfl
theorem RetCT_ret {t:Nat}{i e sz:Nat}{rows':List (List IV)}:RetCT [.tmp t] i e sz rows' .ret f H=RetTV (f t) (H i) i e sz rows':=rfl
theorem RetCT_normal {t:Nat}{i e sz:Nat}{rows':List (List IV)}:RetCT [.tmp t] i e sz rows' .normal f H=RetTV (f t) (H i) i e sz rows':=rfl
theorem RetTV_hv {h st off len st' e' sz' i e sz:Nat}{rows rows':List (List IV)}:RetTV (.hv h st off len) (.blk false st' e' sz' rows) i e sz rows'=(h=i/\st=1/\st'=1/\off=0/\e'=e/\sz'=sz/\len<=rows.length/\rows'=rows.take len):=rfl
theorem RetTV_hs {h st st' e' sz' i e sz:Nat}{rows rows':List (List IV)}:RetTV (.hs h st) (.blk false st' e' sz' rows) i e sz rows'=(h=i/\st=1/\st'=1/\e'=e/\sz'=sz/\rows'=rows):=rfl
@[congr] theorem RetCT_congr {rs:List ResultVar} {i e sz:Nat} {rows':List (List IV)} {x:Exit}:RetCT rs i e sz rows' x f H=RetCT rs i e sz rows' x f H:=rfl
@[congr] theorem RetCW_congr {rs:List ResultVar} {i e sz:Nat} {rows':List (List IV)} {res:List CV} {x:Exit}:RetCW P rs i e sz rows' res x f H=RetCW P rs i e sz rows' res x f H:=rfl
theorem RetCX_ret {rs:List ResultVar}{B:Nat}{R:Nat->Nat->List CV->Prop}:RetCX P rs B R .ret f H=AOpn P rs B R f H:=rfl
theorem RetCX_normal {rs:List ResultVar}{B:Nat}{R:Nat->Nat->List CV->Prop}:RetCX P rs B R .normal f H=AOpn P rs B R f H:=rfl
@[congr] theorem RetCX_congr {rs:List ResultVar} {B:Nat} {R:Nat->Nat->List CV->Prop} {e:Exit}:RetCX P rs B R e f H=RetCX P rs B R e f H:=rfl
@[congr] theorem AOpn_congr {rs:List ResultVar} {B:Nat} {R:Nat->Nat->List CV->Prop} (hf:f=f') (hH:H=H'):AOpn P rs B R f H=AOpn P rs B R f' H':=by rw[hf,hH]
theorem RetCI_ret {rs:List ResultVar}{Z:AV->Hp->Prop}:RetCI P rs Z .ret f H=ARetI P rs Z f H:=rfl
theorem RetCI_normal {rs:List ResultVar}{Z:AV->Hp->Prop}:RetCI P rs Z .normal f H=ARetI P rs Z f H:=rfl
@[congr] theorem RetCI_congr {rs:List ResultVar} {Z:AV->Hp->Prop} {e:Exit}:RetCI P rs Z e f H=RetCI P rs Z e f H:=rfl
@[congr] theorem ARetI_congr {rs:List ResultVar} {Z:AV->Hp->Prop} (hf:f=f') (hH:H=H'):ARetI P rs Z f H=ARetI P rs Z f' H':=by rw[hf,hH]
theorem reti_none {Z:AV->Hp->Prop}(h:Z .dead H):ARetI P [] Z f H:=⟨True,.dead,rfl,trivial,h⟩
theorem opn_done {rs:List ResultVar}{B0 B:Nat}{R:Nat->Nat->List CV->Prop}(cs:List CV)(hB:H 999=.mrk B)(hr:rets P f H none 0 rs cs)(h:∀E,B<=E->R B0 E cs):AOpn P rs B0 R f H:=.done ⟨B,cs,hB,hr,h⟩
theorem opn_nils {rs:List ResultVar}{B0:Nat}{R:Nat->Nat->List CV->Prop}(t e sz:Nat)(ht:f t=.nils)(h:AOpn P rs B0 R (upd f t (.iv (.own none e sz []))) H):AOpn P rs B0 R f H:=.nils t e sz ht h
theorem opn_by {rs:List ResultVar}{B0 B:Nat}{R:Nat->Nat->List CV->Prop}(t h st e sz:Nat)(rows:List (List IV))(ht:f t=.hs h st)(hH:H h=.blk false st e sz rows)(hB:H 999=.mrk B)
  (k:∀b E,B<=E->OpenOk B0 E f H rows b->AOpn P rs B0 R (upd f t (.iv (.own b e sz rows))) (updH (updH H h (.blk true st e sz rows)) 999 (.mrk E))):AOpn P rs B0 R f H:=.opn t h st e sz rows B ht hH hB k
@[congr] theorem AW_congr {c:Code} (hf:f=f') (hH:H=H'):AW P c Q f H=AW P c Q f' H':=by rw[hf,hH]
@[congr] theorem AOps_congr {ds ds':List (Option Nat)} {ops:List Oper} (hd:ds=ds') (hf:f=f') (hH:H=H'):AOps P ds ops K f H lg=AOps P ds' ops K f' H' lg:=by rw[hd,hf,hH]
@[congr] theorem AStep_congr {r r':Option AR} {d:Option Nat} (hr:r=r'):AStep r d K f H lg=AStep r' d K f H lg:=by rw[hr]
@[congr] theorem ACallK_congr {g d:Nat} {xs xs':List AV} (hx:xs=xs') (hf:f=f') (hH:H=H'):ACallK P g xs d K f H lg=ACallK P g xs' d K f' H' lg:=by rw[hx,hf,hH]
@[congr] theorem AGuard_congr {v v':Option AV} {want:Bool} {yes no:Prop} (h:v=v'):AGuard v want yes no=AGuard v' want yes no:=by rw[h]
@[congr] theorem ACond_congr {v v':AV} {x y:Code} (h:v=v') (hf:f=f') (hH:H=H'):ACond P v x y Q f H=ACond P v' x y Q f' H':=by rw[h,hf,hH]
@[congr] theorem ALoop_congr {c:Code} (hf:f=f') (hH:H=H'):ALoop P c Q f H=ALoop P c Q f' H':=by rw[hf,hH]
@[congr] theorem ARange_congr {g:Operand} {ps:List Nat} {x y:Code} (hf:f=f') (hH:H=H'):ARange P g ps x y Q f H=ARange P g ps x y Q f' H':=by rw[hf,hH]
@[congr] theorem AsgC_congr {y:Code} {I:Nat->Hp->Prop} {J:Code->Hp->Prop} {k:Nat} {e:Exit}:AsgC P y I J k e f H=AsgC P y I J k e f H:=rfl
@[congr] theorem RoundQ_congr {I:Nat->Hp->Prop} {J:Code->Hp->Prop} {k:Nat} {e:Exit}:RoundQ I J k e f H=RoundQ I J k e f H:=rfl
@[congr] theorem ACallV_congr {v v':AV} {d:Nat} {xs xs':List AV} (hv:v=v') (hx:xs=xs') (hf:f=f') (hH:H=H'):ACallV P v xs d K f H lg=ACallV P v' xs' d K f' H' lg:=by rw[hv,hx,hf,hH]
@[congr] theorem SeqC_congr {y:Code} {e:Exit}:SeqC P y Q e f H=SeqC P y Q e f H:=rfl
@[congr] theorem BlockQ_congr {i:Nat} {e:Exit}:BlockQ i Q e f H=BlockQ i Q e f H:=rfl
@[congr] theorem ScopeQ_congr {e:Exit}:ScopeQ Q e f H=ScopeQ Q e f H:=rfl
@[congr] theorem LoopQ_congr {I:Fr->Hp->Prop} {μ:Fr->Hp->Nat} {n:Nat} {e:Exit}:LoopQ I μ n Q e f H=LoopQ I μ n Q e f H:=rfl
@[congr] theorem PlainQ_congr:PlainQ Q f H lg=PlainQ Q f H lg:=rfl
@[congr] theorem OrdQ_congr {ops:Array Oper}:OrdQ ops Q f H lg=OrdQ ops Q f H lg:=rfl
@[congr] theorem LogOk_congr {ops:Array Oper}:LogOk ops lg=LogOk ops lg:=rfl
@[congr] theorem TmpsOk_congr {ops:Array Oper}:TmpsOk ops=TmpsOk ops:=rfl
@[congr] theorem RetC_congr {rs:List ResultVar} {own:OwnRes} {res:List CV} {e:Exit}:RetC P rs own res e f H=RetC P rs own res e f H:=rfl
theorem ACallK.mono {g d:Nat}{xs:List AV}{K K':Fr->Hp->Log->Prop}(hK:∀f H lg,K f H lg->K' f H lg)(h:ACallK P g xs d K f H lg):ACallK P g xs d K' f H lg:=by
 rcases h with ⟨c,args,ms,own,res,fz,h1,h2,h3,h4,h5⟩|⟨c,args,ms,i,h,st,e,sz,rows,rows',res,h1,h2,h3,h4,h5,h6,h7⟩|⟨c,args,ms,i,h,st,e,sz,rows,rows',h1,h2,h3,h4,h5,h6,h7⟩|⟨c,args,ms,B,R,h1,h2,h3,h4,h5⟩|⟨Z,h1,h2⟩|⟨rd,R,h1,h2⟩
 .exact .inl ⟨c,args,ms,own,res,fz,h1,h2,h3,h4,hK _ _ _ h5⟩
 .exact .inr (.inl ⟨c,args,ms,i,h,st,e,sz,rows,rows',res,h1,h2,h3,h4,h5,h6,hK _ _ _ h7⟩)
 .exact .inr (.inr (.inl ⟨c,args,ms,i,h,st,e,sz,rows,rows',h1,h2,h3,h4,h5,h6,hK _ _ _ h7⟩))
 .exact .inr (.inr (.inr (.inl ⟨c,args,ms,B,R,h1,h2,h3,h4,λB' E res q1 q2 q3=>hK _ _ _ (h5 B' E res q1 q2 q3)⟩)))
 .exact .inr (.inr (.inr (.inr (.inl ⟨Z,h1,λx H' hz=>hK _ _ _ (h2 x H' hz)⟩))))
 .exact .inr (.inr (.inr (.inr (.inr ⟨rd,R,h1,λx hs hz=>⟨(h2 x hs hz).1,(h2 x hs hz).2.1,hK _ _ _ (h2 x hs hz).2.2⟩⟩))))
theorem ARun.mono {o:Oper}{K K':Fr->Hp->Log->Prop}(hK:∀f H lg,K f H lg->K' f H lg)(h:ARun P o K f H lg):ARun P o K' f H lg:=by
 unfold ARun at h ⊢;split at h
 .unfold ACallV at h ⊢;split at h
  .exact ACallK.mono hK h
  .exact h.elim
 .split at h
  .obtain⟨e,c,css,fz,B,h1,h2,h3,h4,h5⟩:=h;exact⟨e,c,css,fz,B,h1,h2,h3,h4,λB' E b a1 a2 a3 a4=>hK _ _ _ (h5 B' E b a1 a2 a3 a4)⟩
  .split at h
   .exact⟨h.1,hK _ _ _ h.2⟩
   .exact h.elim
 .split at h
  .exact⟨h.1,hK _ _ _ h.2⟩
  .exact h.elim
theorem AOps.mono {ds:List (Option Nat)}{K K':Fr->Hp->Log->Prop}(hK:∀f H lg,K f H lg->K' f H lg):∀(ops:List Oper) (f:Fr) (H:Hp) (lg:Log),AOps P ds ops K f H lg->AOps P ds ops K' f H lg
 |[],_,_,_,h=>hK _ _ _ h
 |o::rest,f,H,lg,h=>by
  unfold AOps at h ⊢;split at h
  .exact ARun.mono (AOps.mono hK rest) h
  .split at h
   .split at h
    .rename_i h' ;rw[if_pos h'];exact ARun.mono (AOps.mono hK rest) h
    .rename_i h' ;rw[if_neg h'];exact AOps.mono hK rest _ _ _ h
   .exact AOps.mono hK rest _ _ _ h
   .exact h.elim
theorem AW.mono:∀(c:Code) {Q Q':Post} {f:Fr} {H:Hp},(∀e f H,Q e f H->Q' e f H)->AW P c Q f H->AW P c Q' f H
 |.skip,_,_,_,_,hq,h=>hq _ _ _ h
 |.region _ ops false,_,_,_,_,hq,h=>AOps.mono (λ_ _ _ h=>hq _ _ _ h) _ _ _ _ h
 |.region _ ops true,_,_,_,_,hq,h=>h.imp (λh=>⟨h.1,AOps.mono (λ_ _ _ h=>⟨h.1,hq _ _ _ h.2⟩) _ _ _ _ h.2⟩) λ⟨ord,inv,h0,h1,h2⟩=>⟨ord,inv,h0,h1,AOps.mono (λ_ _ _ h=>⟨h.1,hq _ _ _ h.2⟩) _ _ _ _ h2⟩
 |.seq x y,_,_,_,_,hq,h=>by
  unfold AW at h ⊢;refine AW.mono x (λe f H h=>?_) h;cases e<;>first|exact AW.mono y hq h|exact hq _ _ _ h
 |.cond c x y,_,_,_,_,hq,h=>by
  unfold AW ACnd at h ⊢;split at h
  .exact⟨λe=>AW.mono x hq (h.1 e),λe=>AW.mono y hq (h.2 e)⟩
  .exact⟨AW.mono x hq h.1,AW.mono y hq h.2⟩
  .exact h.elim
 |.block id c,_,_,_,_,hq,h=>by
  unfold AW at h ⊢;refine AW.mono c (λe f H h=>?_) h;cases e<;>simp only[BlockQ]at h ⊢<;>first|exact hq _ _ _ h|skip
  split at h
  .rename_i e;rw[if_pos e];exact hq _ _ _ h
  .rename_i e;rw[if_neg e];exact hq _ _ _ h
 |.loop c,_,_,_,_,hq,h=>by
  unfold AW at h ⊢;obtain⟨I,μ,h0,hr⟩:=h;refine⟨I,μ,h0,λf H hI=>AW.mono c (λe f H h=>?_) (hr f H hI)⟩;cases e<;>first|exact h|exact hq _ _ _ h
 |.exit _,_,_,_,_,hq,h=>hq _ _ _ h
 |.scope c,_,_,_,_,hq,h=>by
  unfold AW at h ⊢;refine AW.mono c (λe f H h=>?_) h;cases e<;>first|exact hq _ _ _ h|exact h
 |.label _,_,_,_,_,hq,h=>hq _ _ _ h
 |.ret,_,_,_,_,hq,h=>hq _ _ _ h
 |.goto _,_,_,_,_,_,h=>by unfold AW at h;exact h.elim
 |.rangeFunc g ps x y,_,_,_,_,hq,h=>by
  unfold AW at h ⊢;obtain⟨f1,H1,gf,l,c,caps,ms,n,it,I,J,hwk,hg,ht,hc,hit,h0,hr,hd,h1,h2⟩:=h;exact⟨f1,H1,gf,l,c,caps,ms,n,it,I,J,hwk,hg,ht,hc,hit,h0,hr,λH hI=>hq _ _ _ (hd H hI),λH hI=>hq _ _ _ (h1 H hI),λi H hI=>hq _ _ _ (h2 i H hI)⟩
theorem cut {x y:Code}(J:Fr->Hp->Prop)(h1:AW P x (SeqQ J Q) f H)(h2:∀f H,J f H->AW P y Q f H):AW P x (SeqC P y Q) f H :=
 AW.mono x (λe f H h=>by cases e<;>first|exact h2 _ _ h|exact h) h1
theorem if_cut {v:AV}{x x' y:Code}(J:Fr->Hp->Prop)(h1:ACond P v x x' (SeqQ J Q) f H)(h2:∀f H,J f H->AW P y Q f H):ACond P v x x' (SeqC P y Q) f H:=by
 unfold ACond ACnd at *;split at h1
 .exact⟨λe=>cut J (h1.1 e) h2,λe=>cut J (h1.2 e) h2⟩
 .exact⟨cut J h1.1 h2,cut J h1.2 h2⟩
 .exact h1.elim
theorem block_loop_cut {i:Nat}{x y:Code}(J:Fr->Hp->Prop)(h1:ALoop P x (BlockQ i (SeqQ J Q)) f H)(h2:∀f H,J f H->AW P y Q f H):ALoop P x (BlockQ i (SeqC P y Q)) f H :=
 AW.mono _ (λe f H h=>by
  cases e<;>simp only[BlockQ]at h ⊢<;>first|exact h2 _ _ h|exact h|skip
  split at h
  .rename_i e;rw[if_pos e];exact h2 _ _ h
  .rename_i e;rw[if_neg e];exact h) h1
theorem SeqQ_normal {J:Fr->Hp->Prop}:SeqQ J Q .normal f H=J f H:=rfl
theorem SeqQ_exit {J:Fr->Hp->Prop}{i:Nat}:SeqQ J Q (.exit i) f H=Q (.exit i) f H:=rfl
theorem SeqQ_ret {J:Fr->Hp->Prop}:SeqQ J Q .ret f H=Q .ret f H:=rfl
@[congr] theorem SeqQ_congr {J:Fr->Hp->Prop} {e:Exit}:SeqQ J Q e f H=SeqQ J Q e f H:=rfl
theorem if_by {c:Prop}[Decidable c] {x y:Code}(h1:c->AW P x Q f H)(h2:¬c->AW P y Q f H):ACond P (.iv (.bool (decide c))) x y Q f H :=
 ⟨λh=>h1 (of_decide_eq_true h),λh=>h2 (of_decide_eq_false h)⟩
theorem if_bool {b:Bool}{x y:Code}(h1:b=true->AW P x Q f H)(h2:b=false->AW P y Q f H):ACond P (.iv (.bool b)) x y Q f H:=⟨h1,h2⟩
theorem if_ub {x y:Code}(h1:AW P x Q f H)(h2:AW P y Q f H):ACond P .ub x y Q f H:=⟨h1,h2⟩
theorem ACond_tt {x y:Code}:ACond P (.iv (.bool true)) x y Q f H=AW P x Q f H:=by simp[ACond,ACnd]
theorem ACond_ff {x y:Code}:ACond P (.iv (.bool false)) x y Q f H=AW P y Q f H:=by simp[ACond,ACnd]
theorem frame_call {g:Nat}{avs:List AV}{d:Nat}(I:Fr->Hp->Prop)(h0:I f H)(h:∀f H,I f H->ACallK P g avs d K f H lg):ACallK P g avs d K f H lg:=h f H h0
theorem aloop_by {c:Code}(I:Fr->Hp->Prop)(μ:Fr->Hp->Nat)(h0:I f H)(hr:∀f H,I f H->AW P c (LoopQ I μ (μ f H) Q) f H):ALoop P c Q f H:=loop_by I μ h0 hr
theorem aloop_w {c:Code}{f':Fr}{H':Hp}(k:Weak f H f' H')(I:Fr->Hp->Prop)(μ:Fr->Hp->Nat)(h0:I f' H')(hr:∀f H,I f H->AW P c (LoopQ I μ (μ f H) Q) f H):ALoop P c Q f H:=by
 unfold ALoop AW;exact⟨I,μ,⟨f',H',k,h0⟩,hr⟩
theorem aloop_nil {c:Code}(t h e sz:Nat)(ht:f t=.nils)(I:Fr->Hp->Prop)(μ:Fr->Hp->Nat)(h0:I (ghostF f H t h) (ghostH H h e sz))(hr:∀f H,I f H->AW P c (LoopQ I μ (μ f H) Q) f H):ALoop P c Q f H:=loop_nil t h e sz ht I μ h0 hr
end
theorem ACW.by_walk {P : Program} {g : Nat} {args : List CV} {i e sz : Nat} {rows rows' : List (List IV)} {res : List CV} (hm : P.follows .mixedOrders = true) {fn : Func} {body : Code} {rs : List ResultVar} (hf : P.funcs[g]? = some fn) (hb : fn.body = some body) (hr : fn.results.toList = rs) (hn : (fn.name == "runtime.NumGoroutine") = false)
  (hd:codeOk fn.ntmps body=true) (hargs:Nat.ble args.length fn.ntmps=true) (h : @AW zi0 P body (@RetCW zi0 P rs i e sz rows' res) (initFW args i) (initHW i e sz rows)):ACW P g args i e sz rows rows' res:=by
 subst hr;exact ACW.of_body hm hf hb hn hd (Nat.le_of_ble_eq_true hargs) h
theorem ACT.by_walk {P : Program} {g : Nat} {args : List CV} {i e sz : Nat} {rows rows' : List (List IV)} (hm : P.follows .mixedOrders = true) {fn : Func} {body : Code} {rs : List ResultVar} (hf : P.funcs[g]? = some fn) (hb : fn.body = some body) (hr : fn.results.toList = rs) (hn : (fn.name == "runtime.NumGoroutine") = false)
  (hd:codeOk fn.ntmps body=true) (hargs:Nat.ble args.length fn.ntmps=true) (h : @AW zi0 P body (RetCT rs i e sz rows') (initFW args i) (initHW i e sz rows)):ACT P g args i e sz rows rows':=by
 subst hr;exact ACT.of_body hm hf hb hn hd (Nat.le_of_ble_eq_true hargs) h
theorem AC.by_walk {P : Program} {g : Nat} {args : List CV} {own : OwnRes} {res : List CV} (hm : P.follows .mixedOrders = true) {fn : Func} {body : Code} {rs : List ResultVar} (hf : P.funcs[g]? = some fn) (hb : fn.body = some body) (hr : fn.results.toList = rs) (hn : (fn.name == "runtime.NumGoroutine") = false)
  (hd:codeOk fn.ntmps body=true) (hargs:Nat.ble args.length fn.ntmps=true) (h : @AW zi0 P body (@RetC zi0 P rs own res) (initF args) initH):AC P g args own res:=by
 subst hr;exact AC.of_body hm hf hb hn hd (Nat.le_of_ble_eq_true hargs) h
theorem ACX.by_walk (zx : Zi) {P : Program} {g : Nat} {args : List CV} {R : Nat → Nat → List CV → Prop} (hm : P.follows .mixedOrders = true) {fn : Func} {body : Code} {rs : List ResultVar} (hf : P.funcs[g]? = some fn) (hb : fn.body = some body) (hr : fn.results.toList = rs) (hn : (fn.name == "runtime.NumGoroutine") = false)
  (hd:codeOk fn.ntmps body=true) (hargs:Nat.ble args.length fn.ntmps=true) (hne:∀B,∃E res,B<=E/\R B E res) (h:∀B,@AW zx P body (@RetCX zx P rs B R) (initF args) (initHX B)):ACX P g args R:=by
 subst hr;exact ACX.of_body hm hf hb hn hd (Nat.le_of_ble_eq_true hargs) hne (n:=none) h
theorem ACI.by_walk (zx : Zi) {P : Program} {g : Nat} {avs : List AV} {H : Hp} {Z : AV → Hp → Prop} (hm : P.follows .mixedOrders = true) {fn : Func} {body : Code} {rs : List ResultVar} (hf : P.funcs[g]? = some fn) (hb : fn.body = some body) (hr : fn.results.toList = rs) (hn : (fn.name == "runtime.NumGoroutine") = false)
  (hd:codeOk fn.ntmps body=true) (hnr:noRange body=true) (hargs:Nat.ble avs.length fn.ntmps=true) (hne:∃x H',Z x H') (h : @AW zx P body (@RetCI zx P rs Z) (initFA avs) H):ACI P g avs H Z:=by
 subst hr;exact ACI.of_body hm hf hb hn hd hnr (Nat.le_of_ble_eq_true hargs) hne h
theorem AWo_succ {P:Program}{B0 n:Nat}{x y:Code}{Q:Post}{f:Fr}{H:Hp}:AWo P B0 (n+1) (.seq x y) Q f H=AW P x (SeqQ (AWo P B0 n y Q) Q) f H:=rfl
def intAt (f:Fr)(t:Nat):Int:=match f t with | .iv (.int _ n)=>n|_=>0
theorem intAt_of {f:Fr}{t:Nat}{k:IntKind}{n:Int}(h:f t=.iv (.int k n)):intAt f t=n:=by simp[intAt,h]
def lims (l:List Nat):List (List IV):=l.map λx:Nat=>[.int .u64 (x:Int)]
theorem lims_len (l:List Nat):(lims l).length=l.length:=by simp[lims]
theorem lims_at {l:List Nat}{i:Nat}(h:i<l.length):(lims l).getD i []=[.int .u64 ((l.getD i 0:Nat):Int)]:=by simp[lims,List.getD,h]
theorem int_beq (a b:Int):(a == b)=decide (a=b):=by by_cases h:a=b<;>simp[h]
theorem int_bne (a b:Int):(a != b)=decide (a≠b):=by by_cases h:a=b<;>simp[h,bne]
theorem lims_set (l:List Nat)(i x:Nat):(lims l).set i [.int .u64 (x:Int)]=lims (l.set i x):=by simp[lims,List.map_set]
theorem lims_app (l m:List Nat):lims l++lims m=lims (l++m):=by simp[lims]
theorem lims_snoc (l:List Nat)(x:Nat):lims l++[[.int .u64 (x:Int)]]=lims (l++[x]):=by simp[lims]
theorem lims_take (l:List Nat)(k:Nat):(lims l).take k=lims (l.take k):=by simp[lims,List.map_take]
theorem lims_drop (l:List Nat)(k:Nat):(lims l).drop k=lims (l.drop k):=by simp[lims,List.map_drop]
theorem lims_rep (n:Nat):List.replicate n [.int .u64 0]=lims (List.replicate n 0):=by simp[lims]
theorem lims_rows (l:List Nat):(∀r∈lims l,r.length=1)↔True:=by simp[lims]
theorem lims_nil:lims []=[]:=rfl
theorem splice_one (x y:IV):splice [x] 0 [y]=[y]:=rfl
theorem AC.of_run {P:Program}{g:Nat}{args:List CV}{res:List CV}(ins:List (IntKind×Int))(outs:List (IntKind×Int))(ha:args=ins.map λp=>.iv (.int p.1 p.2))(hr:res=outs.map λp=>.iv (.int p.1 p.2))
  (h:∀w,(callFunc g (ins.map λp=>Value.int p.1 p.2).toArray).run P w=.ok (.value (packV (outs.map λp=>Value.int p.1 p.2))) w):AC P g args none res:=by
 intro w D vs hD hvs;have hv:vs=ins.map λp=>Value.int p.1 p.2:=by
  subst ha;clear h hr
  induction ins generalizing vs with
  |nil=>match vs,hvs with | [],_=>rfl
  |cons p ps ih =>
   match vs,hvs with
   |v::vs,hvs =>
    obtain⟨h1,h2⟩:=hvs;have:=ih vs h2;rw[this];simp only[CVRep]at h1;cases h1;rfl
 subst hv;refine .inr ⟨_,w,h w,Below.refl _ _,_,rfl,?_⟩;subst hr;refine⟨by simp,λj c v _ hc hv=>?_,λi e sz rows h=>nomatch h⟩;rw[List.getElem?_map]at hc hv;cases ho:outs[j]? with
 |none=>rw[ho]at hc;cases hc
 |some p =>
  rw[ho]at hc hv;cases hc;cases hv;exact .int _ _
theorem stamp_blk (fz:Bool)(st e sz:Nat)(rows:List (List IV)):HC.stamp (.blk fz st e sz rows)=st:=rfl
theorem stamp_nst (st e:Nat)(rows:List AV):(HC.nst st e rows).stamp=st:=rfl
theorem stamp_gone (st sz:Nat):(HC.gone st sz).stamp=st:=rfl
theorem stamp_none:HC.stamp .none=0:=rfl
theorem frz_blk (fz:Bool)(st e sz:Nat)(rows:List (List IV)):HC.frz (.blk fz st e sz rows)=.blk true st e sz rows:=rfl
theorem frz_none:HC.frz .none=.none:=rfl
theorem stamp_mrk (B:Nat):(HC.mrk B).stamp=0:=rfl
theorem frz_mrk (B:Nat):HC.frz (.mrk B)=.mrk B:=rfl
theorem initHX_at (B h:Nat):initHX B h=if h=999 then .mrk B else .none:=rfl
theorem cast_0:((0:Nat):Int)=0:=rfl
theorem cast_1:((1:Nat):Int)=1:=rfl
theorem tmps_by {ops:Array Oper}(h:tmpsOk ops=true):TmpsOk ops:=h
theorem log_by {ops:Array Oper}{lg:Log}(h:logOk ops lg.reverse=true):LogOk ops lg:=h
theorem range_1:List.range 1=[0]:=rfl
theorem range_2:List.range 2=[0,1]:=rfl
theorem range_3:List.range 3=[0,1,2]:=rfl
theorem range_4:List.range 4=[0,1,2,3]:=rfl
theorem CV_av_iv (x:IV):CV.av (.iv x)=.iv x:=rfl
theorem CV_av_val (v:Value):CV.av (.val v)=cstA v:=rfl
theorem CV_av_agg (x:List IV):CV.av (.agg x)=.agg x:=rfl
theorem CV_av_any:CV.av .any=.dead:=rfl
theorem initFW_at (args:List CV)(i t:Nat):initFW args i t=if t=i then .hs i 1 else ((args.map CV.av)[t]?).getD .undef:=rfl
theorem initHW_at (i e sz:Nat)(rows:List (List IV))(h:Nat):initHW i e sz rows h=if h=i then .blk false 1 e sz rows else .none:=rfl
theorem CV_av_box (x:List IV):CV.av (.box x)=.ip x:=rfl
theorem CV_av_fn (g:Nat)(x:List (List IV)):CV.av (.fn g x)=.fn g (x.map .ip):=rfl
theorem lays_cons (f:Fr)(p:Nat)(ps:List Nat)(x:AV)(xs:List AV):lays f (p::ps) (x::xs)=lays (upd f p x) ps xs:=rfl
theorem lays_nil (f:Fr):lays f [] []=f:=rfl
theorem wrap_u64 {n:Int}(h:0<=n/\n<18446744073709551616):IntKind.u64.wrap n=n:=by
 simp only[IntKind.wrap,IntKind.signed,IntKind.bits,Bool.false_and,Bool.false_eq_true,if_false];omega
end Go.AL

namespace Go.AL
set_option linter.unusedSimpArgs false
set_option linter.unusedVariables false
def vl (b:Nat):List Nat->Nat
 |[]=>0
 |x::xs=>x+b*vl b xs
def topN:List Nat->Nat
 |[]=>0
 |x::xs=>if topN xs=0 then (if x=0 then 0 else 1) else topN xs+1
theorem topN_le:∀l:List Nat,topN l<=l.length
 |[]=>Nat.le_refl _
 |x::xs=>by
  have:=topN_le xs;simp only[topN,List.length_cons];split
  .split<;>omega
  .omega
theorem topN_take_zero {l:List Nat}:∀{k:Nat},k<l.length->l.getD k 0=0->topN (l.take (k+1))=topN (l.take k):=by
 induction l with
 |nil=>intro k h;simp at h
 |cons x xs ih =>
  intro k h h0;cases k with
  |zero=>simp at h0;simp[topN,h0]
  |succ k =>
   simp only[List.length_cons]at h;simp only[List.take_succ_cons,topN];rw[ih (by omega) (by simpa using h0)]
theorem topN_full {l:List Nat}:∀{k:Nat},k<l.length->l.getD k 0≠0->topN (l.take (k+1))=k+1:=by
 induction l with
 |nil=>intro k h;simp at h
 |cons x xs ih =>
  intro k h h0;cases k with
  |zero=>simp at h0;simp[topN,h0]
  |succ k =>
   simp only[List.length_cons]at h;simp only[List.take_succ_cons,topN];rw[ih (by omega) (by simpa using h0)];simp
def dg (b n:Nat):List Nat:=if h:n=0\/b<2 then [] else n%b::dg b (n/b)
termination_by n
decreasing_by exact Nat.div_lt_self (by omega) (by omega)
theorem dg_zero (b:Nat):dg b 0=[]:=by rw[dg];simp
theorem dg_pos {b n:Nat}(hb:2<=b)(hn:n≠0):dg b n=n%b::dg b (n/b):=by rw[dg];rw[dif_neg (by omega)]
theorem dg_eq_nil {b n:Nat}(hb:2<=b):dg b n=[]↔n=0:=by
 constructor
 .intro h;by_cases hn:n=0
  .exact hn
  .rw[dg_pos hb hn]at h;cases h
 .rintro rfl;exact dg_zero b
theorem vl_dg {b:Nat}(hb:2<=b)(n:Nat):vl b (dg b n)=n:=by
 induction n using Nat.strongRecOn with
 |_ n ih =>
  by_cases hn:n=0
  .subst hn;rw[dg_zero];rfl
  .rw[dg_pos hb hn,vl,ih _ (Nat.div_lt_self (by omega) (by omega))];exact Nat.mod_add_div n b
theorem dg_lt {b:Nat}(hb:2<=b)(n:Nat):∀x∈dg b n,x<b:=by
 induction n using Nat.strongRecOn with
 |_ n ih =>
  by_cases hn:n=0
  .subst hn;rw[dg_zero];simp
  .rw[dg_pos hb hn];intro x hx;simp only[List.mem_cons]at hx;rcases hx with rfl|hx
   .exact Nat.mod_lt _ (by omega)
   .exact ih _ (Nat.div_lt_self (by omega) (by omega)) x hx
theorem vl_zero_top {b:Nat}(hb:2<=b):∀l:List Nat,vl b l=0↔topN l=0
 |[]=>by simp[vl,topN]
 |x::xs=>by
  have:=vl_zero_top hb xs;simp only[vl,topN];constructor
  .intro h;have h1:x=0:=by omega
   have h2:b*vl b xs=0:=by omega
   have h3:vl b xs=0:=by rcases Nat.mul_eq_zero.mp h2 with h|h<;>omega
   simp[this.mp h3,h1]
  .intro h;split at h
   .rename_i h';split at h
    .rename_i hx;rw[this.mpr h',hx];rfl
    .omega
   .omega
theorem dg_vl {b:Nat}(hb:2<=b):∀{l:List Nat},(∀x∈l,x<b)->dg b (vl b l)=l.take (topN l)
 |[],_=>by simp[vl,dg_zero,topN]
 |x::xs,h=>by
  have ih:=dg_vl hb (l:=xs) (λy hy=>h y (by simp[hy]));have hx:x<b:=h x (by simp);simp only[vl];by_cases h0:x+b*vl b xs=0
  .have:=(vl_zero_top hb (x::xs)).mp h0;rw[h0,dg_zero,this];rfl
  .rw[dg_pos hb h0,Nat.add_mul_mod_self_left,Nat.mod_eq_of_lt hx,Nat.add_mul_div_left _ _ (by omega),Nat.div_eq_of_lt hx,Nat.zero_add,ih];simp only[topN];split
   .rename_i ht;have:vl b xs=0:=(vl_zero_top hb xs).mpr ht;have hx0:x≠0:=by rw[this]at h0;omega
    simp[ht,hx0]
   .rw[List.take_succ_cons]
theorem vl_append (b:Nat)(m:List Nat):∀l:List Nat,vl b (l++m)=vl b l+b^l.length*vl b m
 |[]=>by simp[vl]
 |x::xs=>by
  simp only[List.cons_append,vl,vl_append b m xs,List.length_cons,Nat.pow_succ,Nat.mul_add];rw[Nat.mul_comm (b^xs.length) b,Nat.mul_assoc];omega
theorem vl_lt {b:Nat}:∀{l:List Nat},(∀x∈l,x<b)->vl b l<b^l.length
 |[],_=>by simp[vl]
 |x::xs,h=>by
  have ih:=vl_lt (l:=xs) (λy hy=>h y (by simp[hy]));have hx:=h x (by simp);simp only[vl,List.length_cons,Nat.pow_succ];have:b*vl b xs+b<=b^xs.length*b:=by
   rw[Nat.mul_comm (b^_) b,<-Nat.mul_succ];exact Nat.mul_le_mul_left _ ih
  omega
theorem vl_split (b:Nat)(l:List Nat){k:Nat}(h:k<=l.length):vl b l=vl b (l.take k)+b^k*vl b (l.drop k):=by
 conv=>lhs;rw[<-List.take_append_drop k l]
 rw[vl_append,List.length_take,Nat.min_eq_left h]
theorem vl_replicate (b n:Nat):vl b (List.replicate n 0)=0:=by
 induction n with
 |zero=>rfl
 |succ n ih=>simp[List.replicate_succ,vl,ih]
theorem vl_take_succ (b:Nat){l:List Nat}{k:Nat}(h:k<l.length):vl b (l.take (k+1))=vl b (l.take k)+b^k*l.getD k 0:=by
 rw[List.take_add_one,vl_append,List.length_take,Nat.min_eq_left (by omega)];simp[List.getD,h,vl]
theorem dg_length_le {b:Nat}(hb:2<=b)(k:Nat):∀{n:Nat},(dg b n).length<=k↔n<b^k:=by
 intro n;constructor
 .intro h;have:=vl_lt (dg_lt hb n);rw[vl_dg hb]at this;exact Nat.lt_of_lt_of_le this (Nat.pow_le_pow_right (by omega) h)
 .intro h
  induction k generalizing n with
  |zero=>obtain rfl:n=0:=by simpa using h
         simp[dg_zero]
  |succ k ih =>
   by_cases hn:n=0
   .subst hn;simp[dg_zero]
   .rw[dg_pos hb hn,List.length_cons];have:n/b<b^k:=by rw[Nat.div_lt_iff_lt_mul (by omega),<-Nat.pow_succ];exact h
    have:=ih this;omega
theorem vl_drop_top {b:Nat}(hb:2<=b):∀{l:List Nat},(∀x∈l,x<b)->vl b (l.take (topN l))=vl b l:=by
 intro l h;rw[<-dg_vl hb h,vl_dg hb]
abbrev W:Nat:=18446744073709551616
def Lim (l:List Nat):Prop:=∀x∈l,x<W
abbrev wd (n:Nat):List Nat:=dg W n
abbrev nv (l:List Nat):Nat:=vl W l
theorem two_le_W:2<=W:=by decide
theorem lim_wd (n:Nat):Lim (wd n):=dg_lt two_le_W n
theorem nv_wd (n:Nat):nv (wd n)=n:=vl_dg two_le_W n
theorem wd_nv {l:List Nat}(h:Lim l):wd (nv l)=l.take (topN l):=dg_vl two_le_W h
theorem wd_zero:wd 0=[]:=dg_zero W
theorem wd_nil {n:Nat}:wd n=[]↔n=0:=dg_eq_nil two_le_W
theorem wd_len_zero {n:Nat}:(wd n).length=0↔n=0:=by rw[List.length_eq_zero_iff];exact wd_nil
theorem wd_len_le {n k:Nat}:(wd n).length<=k↔n<W^k:=dg_length_le two_le_W k
theorem nv_len {l:List Nat}(h:Lim l):(wd (nv l)).length<=l.length:=wd_len_le.mpr (vl_lt h)
theorem Lim.get {l:List Nat}(h:Lim l)(i:Nat):l.getD i 0<W:=by
 by_cases hi:i<l.length
 .have:l.getD i 0=l[i]:=by simp[List.getD,hi]
  rw[this];exact h _ (List.getElem_mem hi)
 .rw[List.getD_eq_getElem?_getD,List.getElem?_eq_none (by omega)];decide
theorem Lim.nil:Lim []:=λ_ h=>nomatch h
theorem Lim.cons {x:Nat}{l:List Nat}(hx:x<W)(h:Lim l):Lim (x::l):=λy hy=>by
 rcases List.mem_cons.mp hy with rfl|hy
 .exact hx
 .exact h y hy
theorem Lim.append {l m:List Nat}(h:Lim l)(h':Lim m):Lim (l++m):=λx hx=>(List.mem_append.mp hx).elim (h x) (h' x)
theorem Lim.take {l:List Nat}(h:Lim l)(k:Nat):Lim (l.take k):=λx hx=>h x (List.mem_of_mem_take hx)
theorem Lim.drop {l:List Nat}(h:Lim l)(k:Nat):Lim (l.drop k):=λx hx=>h x (List.mem_of_mem_drop hx)
theorem Lim.set {l:List Nat}(h:Lim l){i x:Nat}(hx:x<W):Lim (l.set i x):=λy hy=>by
 rcases List.mem_or_eq_of_mem_set hy with hy|rfl
 .exact h y hy
 .exact hx
theorem Lim.replicate (n:Nat):Lim (List.replicate n 0):=λx hx=>by rw[List.eq_of_mem_replicate hx];decide
theorem wd_add_len (a b:Nat):(wd (a+b)).length<=max (wd a).length (wd b).length+1:=by
 rw[wd_len_le,Nat.pow_succ];have h1:a<W^(max (wd a).length (wd b).length):=wd_len_le.mp (by omega);have h2:b<W^(max (wd a).length (wd b).length):=wd_len_le.mp (by omega);have:W^(max (wd a).length (wd b).length)*2<=W^(max (wd a).length (wd b).length)*W:=Nat.mul_le_mul_left _ (by decide);omega
theorem wd_mul_len (a b:Nat):(wd (a*b)).length<=(wd a).length+(wd b).length:=by
 rw[wd_len_le,Nat.pow_add];have h1:a<W^(wd a).length:=wd_len_le.mp (Nat.le_refl _);have h2:b<W^(wd b).length:=wd_len_le.mp (Nat.le_refl _);exact Nat.mul_lt_mul'' h1 h2
theorem wd_len_mono {a b:Nat}(h:a<=b):(wd a).length<=(wd b).length:=by
 rw[wd_len_le];exact Nat.lt_of_le_of_lt h (wd_len_le.mp (Nat.le_refl _))
theorem vl_take_next (b:Nat)(l:List Nat)(k:Nat):vl b (l.take (k+1))=vl b (l.take k)+b^k*l.getD k 0:=by
 by_cases h:k<l.length
 .exact vl_take_succ b h
 .rw[List.take_of_length_le (by omega),List.take_of_length_le (by omega),List.getD_eq_getElem?_getD,List.getElem?_eq_none (by omega)];simp
theorem vl_take_set (b:Nat){l:List Nat}{k:Nat}(h:k<l.length)(x:Nat):vl b ((l.set k x).take (k+1))=vl b (l.take k)+b^k*x:=by
 rw[vl_take_succ b (by simpa using h),List.take_set_of_le (Nat.le_refl _)];simp[List.getD,h]
theorem vl_inj {b:Nat}:∀{l m:List Nat},(∀x∈l,x<b)->(∀x∈m,x<b)->l.length=m.length->vl b l=vl b m->l=m
 |[],[],_,_,_,_=>rfl
 |x::xs,y::ys,h1,h2,hl,h=>by
  simp only[vl]at h;have hx:=h1 x (by simp);have hy:=h2 y (by simp);have e1:x=y:=by
   have:=congrArg (· % b) h;simpa [Nat.add_mul_mod_self_left,Nat.mod_eq_of_lt hx,Nat.mod_eq_of_lt hy] using this
  subst e1;have e2:b*vl b xs=b*vl b ys:=by omega
  have e3:vl b xs=vl b ys:=Nat.eq_of_mul_eq_mul_left (by omega) e2;rw[vl_inj (λz hz=>h1 z (by simp[hz])) (λz hz=>h2 z (by simp[hz])) (by simpa using hl) e3]
 |[],_::_,_,_,hl,_=>by simp at hl
 |_::_,[],_,_,hl,_=>by simp at hl
def pad:Nat->Nat->List Nat
 |0,_=>[]
 |n+1,s=>s%W::pad n (s/W)
theorem pad_len:∀n s,(pad n s).length=n
 |0,_=>rfl
 |n+1,s=>by simp[pad,pad_len n]
theorem lim_pad:∀n s,Lim (pad n s)
 |0,_=>Lim.nil
 |n+1,s=>Lim.cons (Nat.mod_lt _ (by decide)) (lim_pad n _)
theorem nv_pad:∀n s,nv (pad n s)=s%W^n
 |0,s=>by simp[pad,vl,Nat.mod_one]
 |n+1,s=>by
  have:=nv_pad n (s/W);simp only[nv]at this;simp only[pad,nv,vl,this];rw[Nat.pow_succ,Nat.mul_comm (W^n) W,Nat.mod_mul]
theorem eq_pad {l:List Nat}{n s:Nat}(h:Lim l)(hl:l.length=n)(hv:nv l=s%W^n):l=pad n s :=
 vl_inj h (lim_pad n s) (by rw[pad_len,hl]) (by rw[<-nv,hv];exact(nv_pad n s).symm)
theorem nv_lt {l:List Nat}(h:Lim l):nv l<W^l.length:=vl_lt h
theorem W_pow_pos (n:Nat):0<W^n:=Nat.pow_pos (by decide)
theorem carry_step {P A B O c x y s c':Nat}(h:O+P*c=A+B)(he:s+W*c'=x+y+c):(O+P*s)+P*W*c'=(A+P*x)+(B+P*y):=by
 have:=congrArg (P * ·) he;simp only[Nat.mul_add]at this;rw[Nat.mul_assoc];omega
theorem borrow_step {P A B O c x y s c':Nat}(h:O+B=A+P*c)(he:s+y+c=x+W*c'):(O+P*s)+(B+P*y)=(A+P*x)+P*W*c':=by
 have:=congrArg (P * ·) he;simp only[Nat.mul_add]at this;rw[Nat.mul_assoc];omega
theorem nv_snoc (l:List Nat)(x:Nat):nv (l++[x])=nv l+W^l.length*x:=by simp[nv,vl_append,vl]
abbrev RI:=Bool×List Nat
def prow (c:RI):List IV:=[.bool c.1,.sl (lims c.2)]
def iv (c:RI):Int:=if c.1 then -(nv c.2:Int) else (nv c.2:Int)
def canon (z:Int):RI:=(decide (z<0),wd z.natAbs)
def sg (s:Bool)(n:Nat):Int:=if s then -(n:Int) else (n:Int)
def Sz (k:Nat)(c:RI):Prop:=c.2.length<=k/\Lim c.2
def zl (z:Int):Nat:=(wd z.natAbs).length
def raws (p:List RI):List (List IV):=p.map prow
theorem prow_len (c:RI):(prow c).length=2:=rfl
theorem prow_drop0 (c:RI):(prow c).drop 0=prow c:=rfl
theorem prow_drop1 (c:RI):(prow c).drop 1=[.sl (lims c.2)]:=rfl
theorem prow_get0 (c:RI)(d:IV):(prow c).getD 0 d=.bool c.1:=rfl
theorem prow_get1 (c:RI)(d:IV):(prow c).getD 1 d=.sl (lims c.2):=rfl
theorem prow_take (c:RI):(prow c).take 2=prow c:=rfl
theorem prow_zero:[IV.bool false,IV.sl []]=prow (false,[]):=rfl
theorem prow_splice (c d:RI):splice (prow c) 0 (prow d)=prow d:=rfl
theorem raws_len (p:List RI):(raws p).length=p.length:=by simp[raws]
theorem raws_at {p:List RI}{i:Nat}(h:i<p.length):(raws p).getD i []=prow (p.getD i (false,[])):=by simp[raws,List.getD,h]
theorem raws_set (p:List RI)(i:Nat)(c:RI):(raws p).set i (prow c)=raws (p.set i c):=by simp[raws,List.map_set]
theorem raws_snoc (p:List RI)(c:RI):raws p++[prow c]=raws (p++[c]):=by simp[raws]
theorem raws_app (p q:List RI):raws p++raws q=raws (p++q):=by simp[raws]
theorem raws_nil:raws []=[]:=rfl
theorem raws_rep (n:Nat):List.replicate n (prow (false,[]))=raws (List.replicate n (false,[])):=by simp[raws]
theorem raws_rows (p:List RI):(∀r∈raws p,r.length=2)↔True:=by
 refine iff_true_intro λr hr=>?_;simp only[raws,List.mem_map]at hr;obtain⟨c,_,rfl⟩:=hr;rfl
theorem raws_take (p:List RI)(k:Nat):(raws p).take k=raws (p.take k):=by simp[raws,List.map_take]
theorem raws_drop (p:List RI)(k:Nat):(raws p).drop k=raws (p.drop k):=by simp[raws,List.map_drop]
theorem canon_snd (z:Int):(canon z).2=wd z.natAbs:=rfl
theorem canon_fst (z:Int):(canon z).1=decide (z<0):=rfl
theorem iv_canon (z:Int):iv (canon z)=z:=by
 simp only[iv,canon,nv_wd];by_cases h:z<0
 .simp only[h,decide_true,if_true];omega
 .simp only[h,decide_false,Bool.false_eq_true,if_false];omega
theorem sz_canon (z:Int):Sz (zl z) (canon z):=⟨Nat.le_refl _,lim_wd _⟩
theorem Sz.mono {j k:Nat}{c:RI}(h:Sz j c)(hk:j<=k):Sz k c:=⟨Nat.le_trans h.1 hk,h.2⟩
theorem iv_abs (c:RI):(iv c).natAbs=nv c.2:=by
 unfold iv;split<;>omega
theorem zl_iv {c:RI}{k:Nat}(h:Sz k c):zl (iv c)<=k:=by
 unfold zl;rw[iv_abs];exact Nat.le_trans (nv_len h.2) h.1
theorem canon_sg (s:Bool)(n:Nat):canon (sg s n)=(s && decide (n≠0),wd n):=by
 unfold canon sg;cases s
 .simp
 .by_cases h:n=0
  .subst h;simp
  .simp[h];omega
theorem zl_add (a b:Int):zl (a+b)<=max (zl a) (zl b)+1:=by
 unfold zl;exact Nat.le_trans (wd_len_mono (Int.natAbs_add_le a b)) (wd_add_len _ _)
theorem zl_neg (a:Int):zl (-a)=zl a:=by unfold zl;rw[Int.natAbs_neg]
theorem zl_mul (a b:Int):zl (a*b)<=zl a+zl b:=by
 unfold zl;rw[Int.natAbs_mul];exact wd_mul_len _ _
theorem zl_zero:zl 0=0:=by simp[zl,wd_zero]
theorem iv_zero:iv (false,[])=0:=by simp[iv,vl]
theorem canon_zero:canon 0=(false,[]):=by simp[canon,wd_zero]
theorem iv_eq_sg (c:RI):iv c=sg c.1 (nv c.2):=rfl
theorem lay_int (c:RI)(b:Bool)(l:List (List IV)):lay (λi=>[(0,1),(1,1)][i]?) (prow c) ([0,1].zip [[.bool b],[.sl l]])=some (True,[.bool b,.sl l]):=by
 simp[lay,splice,prow]
theorem iv_add_same {a b:RI}(h:a.1=b.1):iv a+iv b=sg a.1 (nv a.2+nv b.2):=by
 unfold iv sg;rw[<-h];split<;>omega
theorem iv_add_diff {a b:RI}(h:a.1≠b.1):iv a+iv b=sg (a.1 != decide (nv a.2<nv b.2)) (if nv a.2<nv b.2 then nv b.2-nv a.2 else nv a.2-nv b.2):=by
 unfold iv sg;cases ha:a.1<;>cases hb:b.1<;>rw[ha,hb]at h<;>first|exact(h rfl).elim|skip
 all_goals
  by_cases hlt:nv a.2<nv b.2
  .simp[hlt];omega
  .simp[hlt];omega
theorem iv_mul (a b:RI):iv a*iv b=sg (a.1 != b.1) (nv a.2*nv b.2):=by
 unfold iv sg;cases a.1<;>cases b.1<;>simp[Int.neg_mul,Int.mul_neg]
theorem nv_take {l:List Nat}(h:Lim l)(k:Nat):nv (l.take k)=nv l%W^k:=by
 by_cases hk:k<=l.length
 .have e:=vl_split W l hk;have h2:=nv_lt (h.take k);rw[List.length_take,Nat.min_eq_left hk]at h2;simp only[nv]at *;rw[e,Nat.add_mul_mod_self_left,Nat.mod_eq_of_lt h2]
 .rw[List.take_of_length_le (by omega),Nat.mod_eq_of_lt];exact Nat.lt_of_lt_of_le (nv_lt h) (Nat.pow_le_pow_right (by decide) (by omega))
theorem nv_drop {l:List Nat}(h:Lim l)(k:Nat):nv (l.drop k)=nv l/W^k:=by
 by_cases hk:k<=l.length
 .have e:=vl_split W l hk;have h2:=nv_lt (h.take k);rw[List.length_take,Nat.min_eq_left hk]at h2;simp only[nv]at *;rw[e,Nat.add_mul_div_left _ _ (W_pow_pos k),Nat.div_eq_of_lt h2,Nat.zero_add]
 .rw[List.drop_of_length_le (by omega),Nat.div_eq_of_lt]
  .rfl
  .exact Nat.lt_of_lt_of_le (nv_lt h) (Nat.pow_le_pow_right (by decide) (by omega))
theorem vl_set (b:Nat):∀{l:List Nat} {k:Nat} (_:k<l.length) (x:Nat),vl b (l.set k x)+b^k*l.getD k 0=vl b l+b^k*x
 |y::ys,0,_,x=>by simp[vl];omega
 |y::ys,k+1,h,x=>by
  have ih:=vl_set b (l:=ys) (k:=k) (by simpa using h) x;have:=congrArg (b * ·) ih;simp only[Nat.mul_add]at this;simp only[List.set_cons_succ,vl,List.getD_cons_succ,Nat.pow_succ];rw[Nat.mul_comm (b^k) b,Nat.mul_assoc,Nat.mul_assoc];omega
theorem nv_set_take {l:List Nat}{k m:Nat}(hk:k<m)(hm:m<=l.length)(x:Nat):nv ((l.set k x).take m)+W^k*l.getD k 0=nv (l.take m)+W^k*x:=by
 rw[List.take_set];have:=vl_set W (l:=l.take m) (k:=k) (by rw[List.length_take];omega) x;have e:(l.take m).getD k 0=l.getD k 0:=by simp[List.getD,List.getElem?_take,hk]
 rw[e]at this;exact this
def liftl (n:Nat)(l:List Nat):List Nat:=if l.length=0 then [] else List.replicate n 0++l
theorem nv_liftl (n:Nat)(l:List Nat):nv (liftl n l)=W^n*nv l:=by
 unfold liftl;split
 .rename_i h;rw[List.length_eq_zero_iff]at h;subst h;simp[vl]
 .simp[nv,vl_append,vl_replicate]
theorem lim_liftl (n:Nat){l:List Nat}(h:Lim l):Lim (liftl n l):=by
 unfold liftl;split
 .exact Lim.nil
 .exact(Lim.replicate n).append h
theorem liftl_len (n:Nat)(l:List Nat):(liftl n l).length<=n+l.length:=by
 unfold liftl;split<;>simp
theorem kara (x y P:Nat)(hP:0<P):∀x1 x0 y1 y0,x1=x/P->x0=x%P->y1=y/P->y0=y%P ->
  P*P*(x1*y1)+P*((x1+x0)*(y1+y0)-(x1*y1+x0*y0))+x0*y0=x*y/\x1*y1+x0*y0<=(x1+x0)*(y1+y0):=by
 intro x1 x0 y1 y0 h1 h2 h3 h4;have ex:x=P*x1+x0:=by rw[h1,h2];exact(Nat.div_add_mod x P).symm
 have ey:y=P*y1+y0:=by rw[h3,h4];exact(Nat.div_add_mod y P).symm
 have e:(x1+x0)*(y1+y0)=x1*y1+x0*y0+(x1*y0+x0*y1):=by simp only[Nat.add_mul,Nat.mul_add];omega
 refine⟨?_,by omega⟩;rw[e,Nat.add_sub_cancel_left,ex,ey];simp only[Nat.add_mul,Nat.mul_add];have e1:P*x1*(P*y1)=P*P*(x1*y1):=Nat.mul_mul_mul_comm _ _ _ _;have e2:P*x1*y0=P*(x1*y0):=Nat.mul_assoc _ _ _;have e3:x0*(P*y1)=P*(x0*y1):=Nat.mul_left_comm _ _ _;rw[e1,e2,e3];omega
theorem row_step {T T' Q A b S Bj c o lo hi:Nat}(h:T+Q*c=S+b*Bj)(hT:T'+Q*o=T+Q*lo)(he:hi*W+lo=A+c+o):T'+Q*W*hi=S+(b*Bj+Q*A):=by
 have:=congrArg (Q * ·) he;simp only[Nat.mul_add]at this;rw[Nat.mul_assoc,Nat.mul_comm W hi];omega
end Go.AL
