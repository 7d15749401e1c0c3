/-
 The abstract logic: whole functions.
-/
import Derived.Test.YtdpngipofekcfaaGreatAbsDM
namespace Go.AL
variable {zi:Zi}
open Go.RowKit
set_option linter.unusedSimpArgs false
set_option linter.unusedVariables false
abbrev Post:=Exit→Fr→Hp→Prop
def JA (K:Fr→Hp→Prop)(Q:Post):Post
 | .normal,f,H=>K f H
 | e,f,H=>Q e f H
def qV (id:Nat)(Q:Post):Post
 | .exit id',f,H=>if id'=id then Q .normal f H else Q (.exit id') f H
 | e,f,H=>Q e f H
def Eu (Q:Post):Post
 | .goto _,_,_=>False
 | e,f,H=>Q e f H
def EC (I:Fr→Hp→Prop)(μ:Fr→Hp→Nat)(n:Nat)(Q:Post):Post
 | .normal,f,H=>I f H∧μ f H<n
 | e,f,H=>Q e f H
def a5H (ops:Array Oper)(Q:Post)(f:Fr)(H:Hp)(lg:Log):Prop:=EM ops lg.reverse=true∧Q .normal f H
def NC (Q:Post)(f:Fr)(H:Hp)(_:Log):Prop:=Q .normal f H
def fB (f:Fr)(H:Hp)(t h:Nat):Fr:=upd f t (.hs h ((H h).stamp+1))
def fM (H:Hp)(h e sz:Nat):Hp:=bg H h (.blk false ((H h).stamp+1) e sz [])
inductive Weak:Fr→Hp→Fr→Hp→Prop
 | refl (f:Fr) (H:Hp):Weak f H f H
 | nil (t h e sz:Nat) {f f':Fr} {H H':Hp} (hf:f t=.jA) (k:Weak (fB f H t h) (fM H h e sz) f' H'):Weak f H f' H'
 | a9z (t:Nat) {f f':Fr} {H H':Hp} (hf:f t=.jA) (k:Weak (upd f t (.iv (.sl []))) H f' H'):Weak f H f' H'
 | b0Q (t e sz:Nat) {f f':Fr} {H H':Hp} (hf:f t=.jA) (k:Weak (upd f t (.iv (.own none e sz []))) H f' H'):Weak f H f' H'
 | ren (t h h' st e sz:Nat) (rows:List (List IV)) {f f':Fr} {H H':Hp} (hf:f t=.hs h st) (hH:H h=.blk false st e sz rows) (hne:h≠h') (k:Weak (upd f t (.hs h' ((H h').stamp+1))) (bg (bg H h (.blk true (st+1) e sz [])) h' (.blk false ((H h').stamp+1) e sz rows)) f' H'):Weak f H f' H'
 | iv (t h st:Nat) (b:Bool) (e sz:Nat) (rows:List (List IV)) {f f':Fr} {H H':Hp} (hf:f t=.hs h st) (hH:H h=.blk b st e sz rows) (k:Weak (upd f t (.iv (.sl rows))) (bg H h (.blk true st e sz rows)) f' H'):Weak f H f' H'
 | b0P (h st e:Nat) {f f':Fr} {H H':Hp} (hH:H h=.blk false st e 1 []) (k:Weak f (bg H h (.nst st e [])) f' H'):Weak f H f' H'
 | b0J (t h h' st i off e:Nat) (rows:List AV) {f f':Fr} {H H':Hp} (hf:f t=.hp h st i off) (hH:H h=.nst st e rows) (hne:h≠h') (k:Weak (upd f t (.hp h' ((H h').stamp+1) i off)) (bg (bg H h (.gone (st+1) 1)) h' (.nst ((H h').stamp+1) e rows)) f' H'):Weak f H f' H'
def a5V (v:AV)(X Y:Prop):Prop :=
 match v with
 | .iv (.bool b)=>(b=true→X)∧(b=false→Y)
 | .ub=>X∧Y
 | _=>False
def AW [Zi] (P:Program):Code→Post→Fr→Hp→Prop
 | .skip,Q,f,H=>Q .normal f H
 | .region _ ops false,Q,f,H=>eP P (vO ops) ops.toList (NC Q) f H []
 | .region _ ops true,Q,f,H=>(Fg ops=true∧eP P (vO ops) ops.toList (a5H ops Q) f H []) ∨
   ∃ ord inv,KZ ops.toList ord inv=true∧Fg (kZ ops.toList ord inv).toArray=true∧eP P (vO (kZ ops.toList ord inv).toArray) (kZ ops.toList ord inv) (a5H (kZ ops.toList ord inv).toArray Q) f H []
 | .seq x y,Q,f,H=>AW P x (JA (AW P y Q) Q) f H
 | .cond c x y,Q,f,H=>a5V (ev f c) (AW P x Q f H) (AW P y Q f H)
 | .block id c,Q,f,H=>AW P c (qV id Q) f H
 | .loop c,Q,f,H=>∃ (I:Fr→Hp→Prop) (μ:Fr→Hp→Nat),(∃ f' H',Weak f H f' H'∧I f' H')∧∀ f H,I f H→AW P c (EC I μ (μ f H) Q) f H
 | .exit id,Q,f,H=>Q (.exit id) f H
 | .scope c,Q,f,H=>AW P c (Eu Q) f H
 | .label _,Q,f,H=>Q .normal f H
 | .ret,Q,f,H=>Q .ret f H
 | .rangeFunc g ps assign body,Q,f,H=>∃ (f1:Fr) (H1:Hp) (gf:Nat) (l:List AV) (c:Prop) (caps:List (List IV)) (ms:List Nat) (n:Nat) (it:Nat→List CV) (I:Nat→Hp→Prop) (J:Code→Hp→Prop),
   Weak f H f1 H1∧ev f1 g=.fn gf l∧lC H1 l=some (c,caps,ms)∧c∧a7K P gf caps ps.size n it∧I 0 (aC ms H1) ∧
   (∀ k H2,k<n→I k H2→AW P assign (a9o fun f3 H3=>AW P body (uV I J k) f3 H3) (lays f1 ps.toList ((it k).map CV.av)) H2) ∧
   (∀ H2,I n H2→Q .normal f1 H2)∧(∀ H2,J .ret H2→Q .ret f1 H2)∧(∀ id H2,J (.exit id) H2→Q (.exit id) f1 H2)
 | _,_,_,_=>False
def dF:Code→Bool
 | .seq x y=>dF x && dF y
 | .cond _ x y=>dF x && dF y
 | .block _ c=>dF c
 | .loop c=>dF c
 | .scope c=>dF c
 | .rangeFunc ..=>false
 | _=>true
def codeOk (N:Nat):Code→Bool
 | .region _ ops _=>ops.toList.all fun o=>match o.dst with|some d=>decide (d<N)|none=>true
 | .seq x y=>codeOk N x && codeOk N y
 | .cond _ x y=>codeOk N x && codeOk N y
 | .block _ c=>codeOk N c
 | .loop c=>codeOk N c
 | .scope c=>codeOk N c
 | .rangeFunc _ ps x y=>ps.toList.all (fun p=>decide (p<N)) && codeOk N x && codeOk N y && dF x && dF y
 | _=>true
section
variable {P:Program} {G:Gh} {M:Nat→Prop} {w0:World} {D0:Nat→Prop} {N:Nat}
theorem Rel.nX {f:Fr}{H:Hp}{β:Nat→Value}{a:Act}{w:World}(R:Rel G M w0 D0 N f H β a w){t:Nat}{v:Value}(ht:t<N)(hx:a.tmps.getD t Go.undef=v):a.put (some t) v=a:=by
 have h1:t<a.tmps.size:=by rw[R.kW];exact ht
 have h2:a.tmps[t]=v:=by
  rw[Array.getD_eq_getD_getElem?,Array.getElem?_eq_getElem h1]at hx;exact hx
 have h3:a.tmps.setIfInBounds t v=a.tmps:=by
  rw[Array.setIfInBounds,dif_pos h1,← h2];exact Array.set_getElem_self h1
 show ({ a with tmps:=a.tmps.setIfInBounds t v }:Act)=a;rw[h3]
theorem Rel.o7 {f:Fr}{H:Hp}{β:Nat→Value}{a:Act}{w:World}(R:Rel G M w0 D0 N f H β a w){t:Nat}(h:∀ v,a.tmps.getD t Go.undef=v→v≠Go.undef):t<N:=by
 rcases Nat.lt_or_ge t N with h'|h'
 ·exact h'
 ·exact(h _ (by rw[Array.getD_eq_getD_getElem?,Array.getElem?_eq_none (by rw[R.kW];exact h')];rfl) rfl).elim
theorem Rel.weak {f f':Fr}{H H':Hp}(k:Weak f H f' H'):∀ {β:Nat→Value} {a:Act} {w:World},Rel G M w0 D0 N f H β a w→∃ β',Rel G M w0 D0 N f' H' β' a w:=by
 induction k with
 | refl f H=>exact fun R=>⟨_,R⟩
 | nil t h e sz hf k ih =>
  rename_i f f' H H';intro β a w R;have hx:=R.tmps t;rw[hf]at hx;simp only[aj]at hx;have ht:t<N:=by
   rcases Nat.lt_or_ge t N with h|h
   ·exact h
   ·rw[Array.getD_eq_getD_getElem?,Array.getElem?_eq_none (by rw[R.kW];exact h)]at hx;cases hx
  obtain⟨β',hb,_,R'⟩:=R.fresh (w':=w) (h:=h) (e:=e) (sz:=sz) (rows:=[]) (v:=.slice none 0 0) (dst:=some t) (x:=.hs h ((H h).stamp+1)) (val:=.slice none 0 0) (st:=(H h).stamp+1) (by omega) rfl rfl rfl (Nat.le_refl _) (fun _ _=>rfl)
   ⟨by simp,.inl ⟨rfl,rfl⟩⟩ (fun β' hb D=>by simp only[aj,au,HC.stamp];exact⟨Nat.le_refl _,fun _=>hb.symm⟩) (by rintro _ ⟨⟩;exact ht)
  have hput:a.put (some t) (.slice none 0 0)=a:=by
   have h1:t<a.tmps.size:=by rw[R.kW];exact ht
   have h2:a.tmps[t]=.slice none 0 0:=by
    rw[Array.getD_eq_getD_getElem?,Array.getElem?_eq_getElem h1]at hx;exact hx
   have h3:a.tmps.setIfInBounds t (.slice none 0 0)=a.tmps:=by
    rw[Array.setIfInBounds,dif_pos h1,← h2];exact Array.set_getElem_self h1
   show ({ a with tmps:=a.tmps.setIfInBounds t (.slice none 0 0) }:Act)=a;rw[h3]
  rw[hput]at R';exact ih R'
 | a9z t hf k ih =>
  rename_i f f' H H';intro β a w R;have hx:=R.tmps t;rw[hf]at hx;simp only[aj]at hx;have ht:t<N:=R.o7 (t:=t) (fun v hv=>by rw[hx]at hv;subst hv;intro h;cases h);have R':=R.value (dst:=some t) (v:=.iv (.sl [])) (val:=.slice none 0 0) (by simp only[aj];exact .nil none 0 (Nat.zero_le _)) (by rintro _ ⟨⟩;exact ht);rw[R.nX ht hx]at R';exact ih R'
 | b0Q t e sz hf k ih =>
  rename_i f f' H H';intro β a w R;have hx:=R.tmps t;rw[hf]at hx;simp only[aj]at hx;have ht:t<N:=R.o7 (t:=t) (fun v hv=>by rw[hx]at hv;subst hv;intro h;cases h);have R':=R.value (dst:=some t) (v:=.iv (.own none e sz [])) (val:=.slice none 0 0) (by simp only[aj];exact .CX e sz) (by rintro _ ⟨⟩;exact ht);rw[R.nX ht hx]at R';exact ih R'
 | ren t h h' st e sz rows hf hH hne k ih =>
  rename_i f f' H H';intro β a w R;have hx:=R.tmps t;rw[hf]at hx;simp only[aj]at hx;have hv:a.tmps.getD t Go.undef=β h:=hx.2 (by rw[hH];rfl);have ho:=R.own h _ _ _ _ hH;have ht:t<N:=R.o7 (t:=t) (fun v hv'=>by
   rw[hv]at hv';rcases ho.2 with ⟨_,hn⟩|⟨g,cap,cur,hn,_⟩<;>(rw[hn]at hv';subst hv';intro h;cases h))
  obtain⟨β2,a5X⟩:∃ β2:Nat→Value,β2=fun u=>if u=h' then β h else if u=h then .slice none 0 0 else β u:=⟨_,rfl⟩
  have b1:β2 h'=β h:=by rw[a5X];simp
  have b2:β2 h=.slice none 0 0:=by rw[a5X];simp[hne]
  have b3:∀ u,u≠h→u≠h'→β2 u=β u:=fun u h1 h2=>by rw[a5X];simp[h1,h2]
  have c1:bg (bg H h (.blk true (st+1) e sz [])) h' (.blk false ((H h').stamp+1) e sz rows) h'=.blk false ((H h').stamp+1) e sz rows:=au _ _ _;have c2:bg (bg H h (.blk true (st+1) e sz [])) h' (.blk false ((H h').stamp+1) e sz rows) h=.blk true (st+1) e sz []:=by rw[ak _ _ hne,au]
  have c3:∀ u,u≠h→u≠h'→bg (bg H h (.blk true (st+1) e sz [])) h' (.blk false ((H h').stamp+1) e sz rows) u=H u:=fun u h1 h2=>by rw[ak _ _ h2,ak _ _ h1]
  generalize bg (bg H h (.blk true (st+1) e sz [])) h' (.blk false ((H h').stamp+1) e sz rows)=H2 at *;have hsub:∀ b,DD H2 β2 D0 b→DD H β D0 b:=by
   rintro b (hb|⟨u,hm,hk⟩)
   ·exact .inl hb
   ·by_cases h1:u=h
    ·subst h1;rw[c2]at hm;exact hm.elim
    ·by_cases h2:u=h'
     ·subst h2;rw[b1]at hk;exact .inr ⟨h,by rw[hH];trivial,hk⟩
     ·rw[c3 u h1 h2]at hm;rw[b3 u h1 h2]at hk;exact .inr ⟨u,hm,hk⟩
  have g:bD w (DD H β D0) w (DD H2 β2 D0):=bD.of_sub hsub;have R':=R.step (w':=w) (H':=H2) (β':=β2) (dst:=some t) (v:=.hs h' ((H h').stamp+1)) (val:=a.tmps.getD t Go.undef) rfl rfl rfl g (fun _ _ _=>rfl) (fun _ _ h=>h) (fun u=>?_) ?_ (fun u st1 e1 sz1 qW hu=>?_) (fun u st1 e1 sz1 qW hu=>?_) (fun u u' huu hm hm' kk hk hk'=>?_) (fun u st1 e1 qW hu=>?_) (fun u B hu=>by
   by_cases h1:u=h
   ·subst h1;rw[c2]at hu;cases hu
   ·by_cases h2:u=h'
    ·subst h2;rw[c1]at hu;cases hu
    ·rw[c3 u h1 h2]at hu;exact R.mrk u B hu) (by rintro _ ⟨⟩;exact ht) (fun u x v hu=>by
   by_cases h1:u=h
   ·subst h1;rw[c2]at hu;cases hu
   ·by_cases h2:u=h'
    ·subst h2;rw[c1]at hu;cases hu
    ·rw[c3 u h1 h2]at hu;exact hu)
  ·rw[R.nX ht rfl]at R';exact ih R'
  ·by_cases h1:u=h
   ·subst h1;right;rw[c2,hH];simp[HC.stamp]
   ·by_cases h2:u=h'
    ·subst h2;right;rw[c1];simp[HC.stamp]
    ·left;rw[c3 u h1 h2,b3 u h1 h2];exact⟨rfl,rfl,rfl⟩
  ·simp only[aj,c1,HC.stamp,b1];exact⟨Nat.le_refl _,fun _=>hv⟩
  ·by_cases h1:u=h
   ·subst h1;rw[c2]at hu;cases hu
   ·by_cases h2:u=h'
    ·subst h2;rw[c1]at hu;injection hu with _ q1 q2 q3 q4;subst q1 q2 q3 q4;rw[b1];exact ho.mono g fun _ _=>rfl
    ·rw[c3 u h1 h2]at hu;rw[b3 u h1 h2];exact(R.own u _ _ _ _ hu).mono g fun _ _=>rfl
  ·by_cases h1:u=h
   ·subst h1;rw[c2]at hu;injection hu with _ q1 q2 q3 q4;subst q1 q2 q3 q4;rw[b2];exact⟨by simp,.nil _ _ (Nat.zero_le _),fun ad n cap hv=>by cases hv⟩
   ·by_cases h2:u=h'
    ·subst h2;rw[c1]at hu;cases hu
    ·rw[c3 u h1 h2]at hu;rw[b3 u h1 h2];exact⟨(R.frz u _ _ _ _ hu).1,(R.frz u _ _ _ _ hu).2.1.mono g,(R.frz u _ _ _ _ hu).2.2⟩
  ·have key:∀ u u',u≠u'→(H2 u).bV→(H2 u').bV→u≠h'→aG (β2 u)=some kk→aG (β2 u')≠some kk:=by
    intro u u' huu hm hm' hu hk hk';have h1:u≠h:=fun e=>by subst e;rw[c2]at hm;exact hm.elim
    have h1':u'≠h:=fun e=>by subst e;rw[c2]at hm';exact hm'.elim
    rw[c3 u h1 hu]at hm;rw[b3 u h1 hu]at hk;by_cases h2:u'=h'
    ·subst h2;rw[b1]at hk';exact R.dis u h h1 hm (by rw[hH];trivial) kk hk hk'
    ·rw[c3 u' h1' h2]at hm';rw[b3 u' h1' h2]at hk';exact R.dis u u' huu hm hm' kk hk hk'
   by_cases hu:u=h'
   ·exact key u' u (Ne.symm huu) hm' hm (fun e=>huu (hu.trans e.symm)) hk' hk
   ·exact key u u' huu hm hm' hu hk hk'
  ·have h1:u≠h:=fun e=>by subst e;rw[c2]at hu;cases hu
   have h2:u≠h':=fun e=>by subst e;rw[c1]at hu;cases hu
   rw[c3 u h1 h2]at hu;rw[b3 u h1 h2];refine(R.nst u _ _ _ hu).mono g (fun u=>?_) fun _ _=>rfl;by_cases h1:u=h
   ·subst h1;right;rw[c2,hH];simp[HC.stamp]
   ·by_cases h2:u=h'
    ·subst h2;right;rw[c1];simp[HC.stamp]
    ·left;rw[c3 u h1 h2,b3 u h1 h2];exact⟨rfl,rfl,rfl⟩
 | b0J t h h' st i off e rows hf hH hne k ih =>
  rename_i f f' H H';intro β a w R;have hx:=R.tmps t;rw[hf]at hx;simp only[aj]at hx;obtain⟨g0,n0,cap0,hg0,hv⟩:=hx.2 (by rw[hH];rfl);have ho:=R.nst h _ _ _ hH;have ht:t<N:=R.o7 (t:=t) (fun v hv'=>by
   rw[hv]at hv';subst hv';intro h;cases h)
  obtain⟨β2,a5X⟩:∃ β2:Nat→Value,β2=fun u=>if u=h' then β h else if u=h then .slice none 0 0 else β u:=⟨_,rfl⟩
  have b1:β2 h'=β h:=by rw[a5X];simp
  have b3:∀ u,u≠h→u≠h'→β2 u=β u:=fun u h1 h2=>by rw[a5X];simp[h1,h2]
  have c1:bg (bg H h (.gone (st+1) 1)) h' (.nst ((H h').stamp+1) e rows) h'=.nst ((H h').stamp+1) e rows:=au _ _ _;have c2:bg (bg H h (.gone (st+1) 1)) h' (.nst ((H h').stamp+1) e rows) h=.gone (st+1) 1:=by rw[ak _ _ hne,au]
  have c3:∀ u,u≠h→u≠h'→bg (bg H h (.gone (st+1) 1)) h' (.nst ((H h').stamp+1) e rows) u=H u:=fun u h1 h2=>by rw[ak _ _ h2,ak _ _ h1]
  generalize bg (bg H h (.gone (st+1) 1)) h' (.nst ((H h').stamp+1) e rows)=H2 at *;have hsub:∀ b,DD H2 β2 D0 b→DD H β D0 b:=by
   rintro b (hb|⟨u,hm,hk⟩)
   ·exact .inl hb
   ·by_cases h1:u=h
    ·subst h1;rw[c2]at hm;exact hm.elim
    ·by_cases h2:u=h'
     ·subst h2;rw[b1]at hk;exact .inr ⟨h,by rw[hH];trivial,hk⟩
     ·rw[c3 u h1 h2]at hm;rw[b3 u h1 h2]at hk;exact .inr ⟨u,hm,hk⟩
  have g:bD w (DD H β D0) w (DD H2 β2 D0):=bD.of_sub hsub;have hstep:gI H β H2 β2:=fun u=>by
   by_cases h1:u=h
   ·subst h1;right;rw[c2,hH];simp[HC.stamp]
   ·by_cases h2:u=h'
    ·subst h2;right;rw[c1];simp[HC.stamp]
    ·left;rw[c3 u h1 h2,b3 u h1 h2];exact⟨rfl,rfl,rfl⟩
  have R':=R.step (w':=w) (H':=H2) (β':=β2) (dst:=some t) (v:=.hp h' ((H h').stamp+1) i off) (val:=a.tmps.getD t Go.undef) rfl rfl rfl g (fun _ _ _=>rfl) (fun _ _ h=>h) hstep ?_ (fun u st1 e1 sz1 qW hu=>?_) (fun u st1 e1 sz1 qW hu=>?_) (fun u u' huu hm hm' kk hk hk'=>?_) (fun u st1 e1 qW hu=>?_) (fun u B hu=>by
   by_cases h1:u=h
   ·subst h1;rw[c2]at hu;cases hu
   ·by_cases h2:u=h'
    ·subst h2;rw[c1]at hu;cases hu
    ·rw[c3 u h1 h2]at hu;exact R.mrk u B hu) (by rintro _ ⟨⟩;exact ht) (fun u x v hu=>by
   by_cases h1:u=h
   ·subst h1;rw[c2]at hu;cases hu
   ·by_cases h2:u=h'
    ·subst h2;rw[c1]at hu;cases hu
    ·rw[c3 u h1 h2]at hu;exact hu)
  ·rw[R.nX ht rfl]at R';exact ih R'
  ·simp only[aj,c1,HC.stamp,b1];refine⟨Nat.le_refl _,fun _=>⟨g0,n0,cap0,hg0,?_⟩⟩;rw[hv,hH];rfl
  ·by_cases h1:u=h
   ·subst h1;rw[c2]at hu;cases hu
   ·by_cases h2:u=h'
    ·subst h2;rw[c1]at hu;cases hu
    ·rw[c3 u h1 h2]at hu;rw[b3 u h1 h2];exact(R.own u _ _ _ _ hu).mono g fun _ _=>rfl
  ·by_cases h1:u=h
   ·subst h1;rw[c2]at hu;cases hu
   ·by_cases h2:u=h'
    ·subst h2;rw[c1]at hu;cases hu
    ·rw[c3 u h1 h2]at hu;rw[b3 u h1 h2];exact⟨(R.frz u _ _ _ _ hu).1,(R.frz u _ _ _ _ hu).2.1.mono g,(R.frz u _ _ _ _ hu).2.2⟩
  ·have key:∀ u u',u≠u'→(H2 u).bV→(H2 u').bV→u≠h'→aG (β2 u)=some kk→aG (β2 u')≠some kk:=by
    intro u u' huu hm hm' hu hk hk';have h1:u≠h:=fun e=>by subst e;rw[c2]at hm;exact hm.elim
    have h1':u'≠h:=fun e=>by subst e;rw[c2]at hm';exact hm'.elim
    rw[c3 u h1 hu]at hm;rw[b3 u h1 hu]at hk;by_cases h2:u'=h'
    ·subst h2;rw[b1]at hk';exact R.dis u h h1 hm (by rw[hH];trivial) kk hk hk'
    ·rw[c3 u' h1' h2]at hm';rw[b3 u' h1' h2]at hk';exact R.dis u u' huu hm hm' kk hk hk'
   by_cases hu:u=h'
   ·exact key u' u (Ne.symm huu) hm' hm (fun e=>huu (hu.trans e.symm)) hk' hk
   ·exact key u u' huu hm hm' hu hk hk'
  ·by_cases h1:u=h
   ·subst h1;rw[c2]at hu;cases hu
   ·by_cases h2:u=h'
    ·subst h2;rw[c1]at hu;injection hu with q1 q2 q3;subst q1 q2 q3;rw[b1];exact ho.mono g hstep fun _ _=>rfl
    ·rw[c3 u h1 h2]at hu;rw[b3 u h1 h2];exact(R.nst u _ _ _ hu).mono g hstep fun _ _=>rfl
 | b0P h st e hH k ih =>
  intro β a w R;exact ih (R.nest (vs:=[]) (xs:=[]) hH (by simp[aF]))
 | iv t h st b e sz rows hf hH k ih =>
  rename_i f f' H H';intro β a w R;have R1:=R.freeze h;rw[hH]at R1;simp only[HC.frz]at R1;have hfr:=R1.frz h st e sz rows (by rw[au]);have hx:=R1.tmps t;rw[hf]at hx;simp only[aj,au,HC.stamp]at hx;have hv:=hx.2 trivial;have hrep:=hfr.2.1;rw[← hv]at hrep;have ht:t<N:=R.o7 (t:=t) (fun v hv'=>by rw[hv']at hrep;intro h;rw[h]at hrep;cases hrep);have R':=R1.value (dst:=some t) (v:=.iv (.sl rows)) (val:=a.tmps.getD t Go.undef) (by simp only[aj];exact hrep) (by rintro _ ⟨⟩;exact ht);rw[R.nX ht rfl]at R';exact ih R'
theorem dN (hm:P.follows .mixedOrders=true):∀ (c:Code) (ro:Option Nat) (G:Gh) (M:Nat→Prop) (w0:World) (Q:Post) (f:Fr) (H:Hp) (β:Nat→Value) (a:Act) (w:World),(dF c=true∨(ro=none∧G.rnd=false))→codeOk N c=true→AW P c Q f H→Rel G M w0 D0 N f H β a w→c.wpIn (Wd ro) 0 P (Conc G M w0 D0 N Q) a w
 | .skip,ro,G,M,w0,Q,f,H,β,a,w,hro,_,h,R=>wpIn_skip ⟨f,H,β,h,R⟩
 | .region id ops false,ro,G,M,w0,Q,f,H,β,a,w,hro,hd,h,R=>by
  simp only[codeOk,List.all_eq_true]at hd;refine wpIn_region_list (pU (fun f H lg β a w hk R=>⟨f,H,β,hk,R⟩) ops.toList f H [] β a w (fun o ho d hod=>?_) h R);have:=hd o ho;rw[hod]at this;simpa using this
 | .region id ops true,ro,G,M,w0,Q,f,H,β,a,w,hro,hd,h,R=>by
  simp only[codeOk,List.all_eq_true]at hd;have hdst:∀ o∈ops.toList,∀ d,o.dst=some d→d<N:=fun o ho d hod=>by
   have:=hd o ho;rw[hod]at this;simpa using this
  rcases h with ⟨h1,h2⟩|⟨ord,inv,h0,h1,h2⟩
  ·refine wpIn_region_any hm (SY (f:=f) (H:=H) (β:=β) (fun i hi d hod=>?_) (fun f H lg hk=>⟨hk.1,fun β a w R=>⟨f,H,β,hk.2,R⟩⟩) h1 h2 R.drew);exact hdst (ops.getD i default) (by simp[Array.getD_eq_getD_getElem?,hi]) d hod
  ·have h0':=h0;simp only[KZ,Bool.and_eq_true,beq_iff_eq,List.all_eq_true,List.mem_range,decide_eq_true_eq]at h0';obtain⟨⟨⟨ho,hi⟩,hp⟩,hops⟩:=h0';have hsz:(kZ ops.toList ord inv).toArray.size=ops.size:=by simp[kZ,ho]
   have e:ops.toList.toArray=ops:=by simp
   have:=SY (ro:=ro) (ops:=(kZ ops.toList ord inv).toArray) (Q:=Conc G M w0 D0 N Q) (f:=f) (H:=H) (β:=β) (fun i hi d hod=>?_) (fun f H lg hk=>⟨hk.1,fun β a w R=>⟨f,H,β,hk.2,R⟩⟩) h1 h2 R.drew
   ·rw[hsz]at this;refine wpIn_region_any hm ?_;have:=Tm h0 ops.size (Array.replicate ops.size false) (Array.replicate ops.size false) a _ (by simp) (by simp) (fun p hlt=>?_) this
    ·rw[e]at this;exact this
    ·have hlt':p<ops.size:=by simpa using hlt
     have h3:=(hp p hlt).1.1.1;simp only[Array.length_toList]at h3;simp only[Array.getD_eq_getD_getElem?,Array.getElem?_replicate,hlt',h3,if_true]
   ·rw[hsz]at hi;have hlt:i<ord.length:=by rw[ho];simpa using hi
    have h3:=(hp i (by simpa using hi)).1.1.1;have e2:(kZ ops.toList ord inv).toArray.getD i default=a2r inv (ops.toList.getD (ord.getD i 0) default):=by
     simp[Array.getD_eq_getD_getElem?,kZ,hlt,List.getD]
    rw[e2]at hod;exact hdst (ops.toList.getD (ord.getD i 0) default) (List.mem_of_getElem? (xk _ default h3)) d hod
 | .seq x y,ro,G,M,w0,Q,f,H,β,a,w,hro,hd,h,R=>by
  simp only[codeOk,dF,Bool.and_eq_true]at hd hro;refine wpIn_seq (wpIn_mono (dN hm x ro G M w0 _ f H β a w (hro.imp (·.1) id) hd.1 h R) fun e a w hq=>?_);cases e with
  | normal=>obtain⟨f,H,β,hk,R⟩:=hq;exact dN hm y ro G M w0 Q f H β a w (hro.imp (·.2) id) hd.2 hk R
  | panic _=>exact hq.elim
  | outgrown=>exact hq.elim
  | _=>exact hq
 | .cond c x y,ro,G,M,w0,Q,f,H,β,a,w,hro,hd,h,R=>by
  simp only[codeOk,dF,Bool.and_eq_true]at hd hro;have hc:=R.ev c;unfold AW a5V at h;split at h
  ·rename_i b hb;rw[hb]at hc;simp only[aj]at hc;generalize hv:a.eval c=v at hc;cases hc;exact wpIn_cond_split hv (fun ht=>dN hm x ro G M w0 Q f H β a w (hro.imp (·.1) id) hd.1 (h.1 ht) R) (fun hf=>dN hm y ro G M w0 Q f H β a w (hro.imp (·.2) id) hd.2 (h.2 hf) R)
  ·rename_i hb;rw[hb]at hc;simp only[aj]at hc;obtain⟨b,hc⟩:=hc;exact wpIn_cond_split hc (fun ht=>dN hm x ro G M w0 Q f H β a w (hro.imp (·.1) id) hd.1 h.1 R) (fun hf=>dN hm y ro G M w0 Q f H β a w (hro.imp (·.2) id) hd.2 h.2 R)
  ·exact h.elim
 | .block id c,ro,G,M,w0,Q,f,H,β,a,w,hro,hd,h,R=>by
  simp only[codeOk,dF]at hd hro;refine wpIn_block (wpIn_mono (dN hm c ro G M w0 _ f H β a w hro hd h R) fun e a w hq=>?_);cases e with
  | exit id' =>
   obtain⟨f,H,β,hk,R⟩:=hq;simp only[qV]at hk;simp only[Exit.inBlock];split at hk
   ·rename_i hid;rw[if_pos hid];exact⟨f,H,β,hk,R⟩
   ·rename_i hid;rw[if_neg hid];exact⟨f,H,β,hk,R⟩
  | panic _=>exact hq.elim
  | outgrown=>exact hq.elim
  | _=>exact hq
 | .loop c,ro,G,M,w0,Q,f,H,β,a,w,hro,hd,h,R=>by
  simp only[codeOk,dF]at hd hro;obtain⟨I,μ,⟨f',H',hk,h0⟩,hr⟩:=h;obtain⟨β',R'⟩:=R.weak hk;refine qh (fun n a w=>∃ f H β,I f H∧Rel G M w0 D0 N f H β a w∧μ f H=n) ?_ (m:=μ f' H') ⟨f',H',β',h0,R',rfl⟩;rintro n a w ⟨f,H,β,hI,R,rfl⟩;refine wpIn_mono (dN hm c ro G M w0 _ f H β a w hro hd (hr f H hI) R) fun e a w hq=>?_;cases e with
  | normal=>obtain⟨f',H',β',hk,R'⟩:=hq;exact⟨_,hk.2,f',H',β',hk.1,R',rfl⟩
  | panic _=>exact hq.elim
  | outgrown=>exact hq.elim
  | _=>exact hq
 | .exit id,ro,G,M,w0,Q,f,H,β,a,w,hro,_,h,R=>wpIn_exit ⟨f,H,β,h,R⟩
 | .scope c,ro,G,M,w0,Q,f,H,β,a,w,hro,hd,h,R=>by
  simp only[codeOk,dF]at hd hro;refine vg (wpIn_mono (dN hm c ro G M w0 _ f H β a w hro hd h R) fun e a w hq=>?_);cases e with
  | goto l=>obtain⟨f,H,β,hk,R⟩:=hq;exact hk.elim
  | panic _=>exact hq.elim
  | outgrown=>exact hq.elim
  | _=>exact hq
 | .label l,ro,G,M,w0,Q,f,H,β,a,w,hro,_,h,R=>wpIn_label ⟨f,H,β,h,R⟩
 | .ret,ro,G,M,w0,Q,f,H,β,a,w,hro,_,h,R=>wpIn_ret ⟨f,H,β,h,R⟩
 | .rangeFunc g ps x y,ro,G,M,w0,Q,f,H,β,a,w,hro,hd,h,R=>by
  rcases hro with hro|⟨rfl,hr⟩
  ·simp[dF]at hro
  simp only[codeOk,Bool.and_eq_true,List.all_eq_true,decide_eq_true_eq]at hd;obtain⟨⟨⟨⟨hps,hx⟩,hy⟩,nx⟩,ny⟩:=hd;obtain⟨f1,H1,gf,l,c,caps,ms,n,it,I,J,hwk,he,ht,hc,hit,h0,a6Y,hdone,hret,a5a⟩:=h;obtain⟨β',R'⟩:=R.weak hwk;exact Oq R' hr he ht hc hit hps I J (fun k f3 H3=>AW P y (uV I J k) f3 H3) h0
   (fun l k H' G' M' w0' β' a' w' hk hI R hrn=>dN hm x (some l) G' M' w0' _ _ _ _ _ _ (.inl nx) hx (a6Y k H' hk hI) R)
   (fun l k f' H' G' M' w0' β' a' w' hk hK R hrn=>dN hm y (some l) G' M' w0' _ _ _ _ _ _ (.inl ny) hy hK R)
   (fun H' β' a' w' hI R=>⟨f1,H',β',hdone H' hI,R⟩) (fun H' β' a' w' hI R=>⟨f1,H',β',hret H' hI,R⟩) (fun id H' β' a' w' hI R=>⟨f1,H',β',a5a id H' hI,R⟩)
 | .goto _,ro,G,M,w0,Q,f,H,β,a,w,hro,_,h,R=>h.elim
 | .refuse _,ro,G,M,w0,Q,f,H,β,a,w,hro,_,h,R=>h.elim
def iQ (args:List CV):Fr:=fun t=>((args.map CV.av)[t]?).getD .undef
def yR:Hp:=fun _=>.none
def retv [Zi] (P:Program)(f:Fr)(H:Hp):ResultVar→Option (Prop×CV×List Nat)
 | .tmp t=>tJ H (f t)
 | .cell t ty=>match pV (ti P ty) H (f t) with
  | some r=>match tJ H r.v with
   | some (c,cv,ms)=>some (r.c∧c,cv,ms)
   | none=>none
  | none=>none
def Ew [Zi] (P:Program)(f:Fr)(H:Hp)(r:ResultVar)(flat:Bool)(c:CV):Prop :=
 match retv P f H r with
 | some (p,c',ms)=>p∧c'=c∧(flat=true→ms=[])
 | none=>False
def Yy (f:Fr)(H:Hp)(r:ResultVar)(e sz:Nat)(rows:List (List IV)):Prop :=
 match r with
 | .tmp t=>match f t with
  | .hs h st=>match H h with
   | .blk false st' e' sz' rows'=>st=st'∧e'=e∧sz'=sz∧rows'=rows
   | _=>False
  | .jA=>rows=[]
  | _=>False
 | _=>False
def KC [Zi] (P:Program)(f:Fr)(H:Hp)(own:gY):Nat→List ResultVar→List CV→Prop
 | _,[],[]=>True
 | j,r::rs,c::cs=>(match own with
   | none=>Ew P f H r false c
   | some (i,e,sz,rows)=>if i=j then Yy f H r e sz rows else Ew P f H r true c)∧KC P f H own (j+1) rs cs
 | _,_,_=>False
def a9k [Zi] (P:Program)(rs:List ResultVar)(own:gY)(res:List CV):Post
 | .ret,f,H=>KC P f H own 0 rs res∧(match own with|none=>True|some (i,_)=>i<res.length)
 | .normal,f,H=>KC P f H own 0 rs res∧(match own with|none=>True|some (i,_)=>i<res.length)
 | _,_,_=>False
def rvS (tmps:Array Value):ResultVar→Sem Value
 | .tmp t=>pure (tmps.getD t Go.undef)
 | .cell a t=>do loadVar t (← asAddr (tmps.getD a Go.undef))
theorem Fv {f:Fr}{H:Hp}{β:Nat→Value}{a:Act}{w:World}(R:Rel G M w0 D0 N f H β a w){r:ResultVar}{p:Prop}{c:CV}{ms:List Nat}(h:retv P f H r=some (p,c,ms))(hp:p) :
  ∃ v,(rvS a.tmps r).run P w=.ok v w∧iE w (DD (aC ms H) β D0) c v:=by
 unfold retv at h;split at h
 ·rename_i t;exact⟨_,rfl,mD R (R.tmps t) h hp⟩
 ·rename_i t ty;split at h
  ·rename_i r hr;split at h
   ·rename_i c' cv ms' ht;injection h with h;injection h with e1 e2;injection e2 with e2 e3;subst e1 e2 e3;have hx:=R.tmps t;obtain⟨_,_,u,hu,hrep⟩:=iw R hx hr hp.1;refine⟨u,?_,mD R hrep ht hp.2⟩;have:∃ ad,a.tmps.getD t Go.undef=.pointer (some ad):=by
     cases hft:f t<;>rw[hft]at hx hr<;>simp only[pV,reduceCtorEq]at hr<;>simp only[aj]at hx
     ·obtain⟨g,o,h,_⟩:=hx;exact⟨_,h⟩
     ·rename_i h st i off;split at hr
      ·rename_i hH;have hst:st=(H h).stamp:=by
        rw[hH];simp only[HC.stamp];split at hr<;>(injection hr with hr;subst hr;exact hp.1.2.1)
       obtain⟨g,n,cap,_,h⟩:=hx.2 hst;exact⟨_,h⟩
      ·rename_i hH;have hst:st=(H h).stamp:=by
        rw[hH];simp only[HC.stamp];split at hr
        ·injection hr with hr;subst hr;exact hp.1.2.1
        ·split at hr
         ·injection hr with hr;subst hr;exact hp.1.2.1
         ·cases hr
       obtain⟨g,n,cap,_,h⟩:=hx.2 hst;exact⟨_,h⟩
      ·cases hr
    obtain⟨ad,had⟩:=this;rw[had]at hu;simp only[rvS,had,asAddr,Sem.run_bind,Sem.run_pure,Result.andThen_ok];simpa [Instr.loadAt,Instr.sureAddr] using hu
   ·cases h
  ·cases h
theorem tN {f:Fr}{H:Hp}{β:Nat→Value}{a:Act}{w:World}(R:Rel ⟨fun _ _=>False,false⟩ (fun _=>False) w0 D0 N f H β a w){own:gY}:∀ (rs:List ResultVar) (j:Nat) (cs:List CV),KC P f H own j rs cs →
  ∃ us:List Value,(rs.mapM (rvS a.tmps)).run P w=.ok us w∧us.length=cs.length ∧
   (∀ (k:Nat) c v,(∀ i e sz rows,own=some (i,e,sz,rows)→j+k≠i)→cs[k]?=some c→us[k]?=some v→∃ ms,(own.isSome=true→ms=[])∧iE w (DD (aC ms H) β D0) c v) ∧
   (∀ (k:Nat) v i e sz rows,own=some (i,e,sz,rows)→j+k=i→us[k]?=some v→Own w (DD H β D0) w0.heap.size (fun _=>False) v e sz rows∧∀ b,aG v=some b→DD H β D0 b)
 | [],j,[],_=>⟨[],by simp,rfl,by simp,by simp⟩
 | r::rs,j,c::cs,h=>by
  simp only[KC]at h;obtain⟨h1,h2⟩:=h;obtain⟨us,a1,a2,a3,a4⟩:=tN R rs (j+1) cs h2;have hval:∀ flat,Ew P f H r flat c→∃ v ms,(rvS a.tmps r).run P w=.ok v w∧(flat=true→ms=[])∧iE w (DD (aC ms H) β D0) c v:=by
   intro flat hv;unfold Ew at hv;split at hv
   ·rename_i p c' ms hr;obtain⟨hp,rfl,hf⟩:=hv;obtain⟨v,hv1,hv2⟩:=Fv R hr hp;exact⟨v,ms,hv1,hf,hv2⟩
   ·exact hv.elim
  cases own with
  | none =>
   obtain⟨v,ms,hv1,hf,hv2⟩:=hval false h1;refine⟨v::us,by simp[List.mapM_cons,hv1,a1],by simp[a2],fun k c' v' hk hc hu=>?_,by simp⟩;cases k with
   | zero=>simp at hc hu;subst hc hu;exact⟨ms,by simp,hv2⟩
   | succ k=>exact a3 k c' v' (by simp) (by simpa using hc) (by simpa using hu)
  | some p =>
   obtain⟨i,e,sz,rows⟩:=p;simp only at h1;split at h1
   ·rename_i hij;have ho:∃ v,(rvS a.tmps r).run P w=.ok v w∧Own w (DD H β D0) w0.heap.size (fun _=>False) v e sz rows∧∀ b,aG v=some b→DD H β D0 b:=by
     unfold Yy at h1;split at h1
     ·rename_i t;have hx:=R.tmps t;split at h1
      ·rename_i hh st hft;split at h1
       ·rename_i st' e' sz' rows' hH;obtain⟨rfl,rfl,rfl,rfl⟩:=h1;rw[hft]at hx;simp only[aj]at hx;have hv:=hx.2 (by rw[hH];rfl);refine⟨_,rfl,by rw[hv];exact R.own _ _ _ _ _ hH,fun b hb=>?_⟩;rw[hv]at hb;exact .inr ⟨hh,by rw[hH];trivial,hb⟩
       ·exact h1.elim
      ·rename_i hft;rw[hft]at hx;simp only[aj]at hx;subst h1;refine⟨_,rfl,by rw[hx];exact⟨by simp,.inl ⟨rfl,rfl⟩⟩,fun b hb=>by rw[hx]at hb;cases hb⟩
      ·exact h1.elim
     ·exact h1.elim
    obtain⟨v,hv1,hv2⟩:=ho;refine⟨v::us,by simp[List.mapM_cons,hv1,a1],by simp[a2],fun k c' v' hk hc hu=>?_,fun k v' i' e' sz' rows' ho hk hu=>?_⟩
    ·cases k with
     | zero=>exact(hk i e sz rows rfl (by omega)).elim
     | succ k=>exact a3 k c' v' (fun i' e' sz' rows' ho=>by have:=hk i' e' sz' rows' ho;omega) (by simpa using hc) (by simpa using hu)
    ·cases k with
     | zero=>injection ho with ho;injection ho with e1 ho;injection ho with e2 ho;injection ho with e3 e4;subst e2 e3 e4;simp at hu;subst hu;exact hv2
     | succ k=>exact a4 k v' i' e' sz' rows' ho (by omega) (by simpa using hu)
   ·rename_i hij;obtain⟨v,ms,hv1,hf,hv2⟩:=hval true h1;refine⟨v::us,by simp[List.mapM_cons,hv1,a1],by simp[a2],fun k c' v' hk hc hu=>?_,fun k v' i' e' sz' rows' ho hk hu=>?_⟩
    ·cases k with
     | zero=>simp at hc hu;subst hc hu;exact⟨ms,fun _=>hf rfl,hv2⟩
     | succ k=>exact a3 k c' v' (fun i' e' sz' rows' ho=>by have:=hk i' e' sz' rows' ho;omega) (by simpa using hc) (by simpa using hu)
    ·cases k with
     | zero=>injection ho with ho;injection ho with e1 ho;omega
     | succ k=>exact a4 k v' i' e' sz' rows' ho (by omega) (by simpa using hu)
 | [],_,_::_,h=>by simp[KC]at h
 | _::_,_,[],h=>by simp[KC]at h
theorem kM {fn:Func}{a:Act}{w:World}{us:List Value}(h:(fn.results.toList.mapM (rvS a.tmps)).run P w=.ok us w):(results fn a.tmps).run P w=.ok (oU us) w:=by
 have e:results fn a.tmps=(fn.results.mapM (rvS a.tmps) >>= fun vs=>pure (if h:vs.size=1 then vs[0] else .tuple vs)):=by
  unfold results
  congr 1
 rw[e,Array.mapM_eq_mapM_toList];simp only[Sem.run_bind,Sem.run_map,h,Result.andThen_ok,Sem.run_pure]
 congr 1
 cases us with
 | nil=>rfl
 | cons u us =>
  cases us with
  | nil=>rfl
  | cons _ _=>rfl
theorem rV {fn:Func}{tmps:Array Value}{w:World}:∀ (ds:List Deferred) (T:Ending→World→Prop) (w1:World),(∀ d∈ds,∃ k,d={ target:=.collected k,args:=#[] }∧w.heap.size≤k∧w1.heap[k]?=some (.deferred (some [])))→ds.Nodup→w.heap.size≤w1.heap.size →
   (∀ w2,w2.os=w1.os→w2.tape=w1.tape→w2.output=w1.output→w2.heap.size=w1.heap.size→(∀ k,(k<w.heap.size∨∃ o:Obj,w1.heap[k]?=some o∧o.isCells=true)→w2.heap[k]?=w1.heap[k]?)→LeavesInM Fence.wide 0 P fn tmps T [] .returning w2)→LeavesInM Fence.wide 0 P fn tmps T ds .returning w1:=by
  intro ds
  induction ds with
  | nil=>exact fun T w1 _ _ _ h=>h w1 rfl rfl rfl rfl fun _ _=>rfl
  | cons d ds ih =>
   intro T w1 hd hn hsz h;obtain⟨k,rfl,hk,hb⟩:=hd d (by simp);have hne:∀ j,{ target:=.collected j,args:=#[] }∈ds→j≠k:=fun j hj e=>by subst e;exact(List.nodup_cons.1 hn).1 hj
   refine⟨by simp,.inl ⟨k,_,rfl,run_takeDeferred hb,ih T _ (fun d' hd'=>?_) (List.nodup_cons.1 hn).2 (by simpa using hsz) fun w2 h1 h2 h3 h4 h5=>h w2 h1 h2 h3 (by simpa using h4) fun j hj=>?_⟩⟩
   ·obtain⟨k',rfl,hk',hb'⟩:=hd d' (by simp[hd']);exact⟨k',rfl,hk',(World.putObj_heap_other (hne k' hd')).trans hb'⟩
   ·have hjk:j≠k:=by
     rintro rfl;rcases hj with hj|⟨o,ho,hc⟩
     ·omega
     ·rw[hb]at ho;cases ho;cases hc
    have e1:(w1.putObj k (.deferred none)).heap[j]?=w1.heap[j]?:=World.putObj_heap_other hjk;rw[h5 j (by rw[e1];exact hj),e1]
theorem AC.qA {g : Nat} {args : List CV} {own : gY} {res : List CV} (hm : P.follows .mixedOrders = true) {fn : Func} {body : Code} (hf : P.funcs[g]? = some fn) (hb : fn.body = some body) (hn : (fn.name == "runtime.NumGoroutine") = false)
  (hd:codeOk fn.ntmps body=true) (hargs:args.length≤fn.ntmps) (h:AW P body (a9k P fn.results.toList own res) (iQ args) yR):AC P g args own res:=by
 intro w D vs hD hvs;refine .inl ⟨fn,hf,hn,by rw[hb];rfl,callsIn_wide.1 (callsIn_of_wp_marks (n:=0) (F:=Fence.wide) hf hb trivial ?_)⟩;have hlen:=hvs.length;have hcv:∀ (cvs:List CV) (us:List Value),dM w D cvs us→∀ t,aj w (DD yR (fun _=>default) D) yR (fun _=>default) (iQ cvs t) ((us[t]?).getD Go.undef):=by
  intro cvs us hu t;have hDD:∀ b,DD yR (fun _=>default) D b→D b:=by
   intro b hb;rcases hb with hb|⟨k,hm,_⟩
   ·exact hb
   ·exact hm.elim
  induction cvs generalizing us t with
  | nil =>
   match us,hu with
   | [],_=>simp[iQ,aj]
  | cons c cs ih =>
   match us,hu with
   | u::us,hu =>
    cases t with
    | zero=>simp only[iQ,List.map_cons,List.getElem?_cons_zero,Option.getD_some];exact(hu.1.mono (bD.of_sub hDD)).av
    | succ t=>simpa only[iQ,List.map_cons,List.getElem?_cons_succ] using ih us hu.2 t
 have R:Rel ⟨fun _ _=>False,false⟩ (fun _=>False) w D fn.ntmps (iQ args) yR (fun _=>default) { tmps:=vs.toArray++Array.replicate (fn.ntmps-vs.toArray.size) Go.undef,defers:=[] } w:=by
  refine⟨rfl,rfl,rfl,Nat.le_refl _,fun _ _ _=>rfl,fun b hb=>⟨hD b hb,fun h=>h⟩,by simp;omega,fun d hd=>(by cases hd),fun h=>(by cases h),List.nodup_nil,fun _ _ h=>h.elim,fun t=>?_,fun h st e sz rows hh=>(by cases hh),fun h st e sz rows hh=>(by cases hh),fun h h' _ hm=>hm.elim,fun h st e rows hh=>(by cases hh),fun h B hh=>(by cases hh),fun h x v hh=>(by cases hh)⟩;have e:(vs.toArray++Array.replicate (fn.ntmps-vs.toArray.size) Go.undef).getD t Go.undef=(vs[t]?).getD Go.undef:=by
   rw[Array.getD_eq_getD_getElem?,Array.getElem?_append];split
   ·simp
   ·rename_i ht;simp only[List.size_toArray,Nat.not_lt]at ht;rw[List.getElem?_eq_none ht];simp only[Array.getElem?_replicate];split<;>rfl
  rw[e];exact hcv args vs hvs t
 refine wpIn_mono (dN hm body none _ _ _ _ _ _ _ _ w (.inr ⟨rfl,rfl⟩) hd h R) fun e a w' hq=>?_
 have fin:∀ f H β,KC P f H own 0 fn.results.toList res∧(match own with|none=>True|some (i,_)=>i<res.length)→Rel ⟨fun _ _=>False,false⟩ (fun _=>False) w D fn.ntmps f H β a w' →
   LeavesInM Fence.wide 0 P fn a.tmps (fun e w'=>∃ v,e=.returned v∧Below w.heap.size w w'∧∃ us,v=oU us∧Jq w w' D own res us) a.defers .returning w':=by
  intro f H β ⟨hr,hi⟩ R0;refine rV a.defers _ w' R0.defers R0.Lh R0.size fun w2 h1 h2 h3 h4 h5=>?_;have g2:bD w' (DD H β D) w2 (DD H β D):=⟨Nat.le_of_eq h4.symm,fun _ _ h=>h,fun b _ _ hc=>h5 b (.inr hc)⟩;have R:Rel ⟨fun _ _=>False,false⟩ (fun _=>False) w D fn.ntmps f H β { a with defers:=[] } w2 :=
   ⟨h1.trans R0.os,h2.trans R0.tape,h3.trans R0.output,by rw[h4];exact R0.size,fun k hk _=>(h5 k (.inl hk)).trans (R0.keep k hk (fun h=>h)),R0.old,R0.kW,fun d hd=>(by cases hd),fun h=>(by cases h),List.nodup_nil,fun _ _ h=>h.elim,
    fun t=>aj.mono g2 (gI.refl _ _) _ _ (R0.tmps t),
    fun h st e sz rows hh=>(R0.own h st e sz rows hh).mono g2 fun k hk=>by obtain⟨cur,e',hc⟩:=R0.dW (by rw[hh];trivial) hk;exact h5 k (.inr ⟨_,hc,rfl⟩),
    fun h st e sz rows hh=>⟨(R0.frz h st e sz rows hh).1,(R0.frz h st e sz rows hh).2.1.mono g2,(R0.frz h st e sz rows hh).2.2⟩,R0.dis,
    fun h st e rows hh=>(R0.nst h st e rows hh).mono g2 (gI.refl _ _) fun k hk=>by obtain⟨cur,e',hc⟩:=R0.dW (by rw[hh];trivial) hk;exact h5 k (.inr ⟨_,hc,rfl⟩),fun h B hh=>by rw[h4];exact R0.mrk h B hh,fun h x v hh=>aj.mono g2 (gI.refl _ _) _ _ (R0.tie h x v hh)⟩
  clear h1 h2 h3 h4 h5;obtain⟨us,h1',h2,h3,h4⟩:=tN R _ _ _ hr;refine⟨_,kM h1',_,rfl,⟨R.os,R.tape,R.output,R.size,fun k hk=>R.keep k hk (fun h=>h)⟩,us,rfl,h2,fun j c v hj hc hv=>?_,fun i e sz rows ho=>?_⟩
  ·obtain⟨ms,hms,hrep⟩:=h3 j c v (fun i e sz rows ho=>by have:=hj i e sz rows ho;omega) hc hv;refine hrep.mono (bD.of_sub fun b hb=>?_);rcases hb with hb|hb
   ·exact .inl hb
   ·cases own with
    | none=>exact hb.elim
    | some p =>
     obtain⟨i,e,sz,rows⟩:=p;obtain⟨v',hv',hh⟩:=hb;rw[hms rfl];exact(h4 i v' i e sz rows rfl (by omega) hv').2 b hh
  ·subst ho;have hi':i<us.length:=by rw[h2];exact hi
   have hui:us[i]?=some us[i]:=by rw[List.getElem?_eq_getElem]
   obtain⟨h5,h6⟩:=h4 i _ i e sz rows rfl (by omega) hui;refine⟨_,hui,hi,h5.mono (bD.of_sub fun b hb=>?_) fun _ _=>rfl⟩;rcases hb with hb|⟨v',hv',hh⟩
   ·exact .inl hb
   ·rw[hui]at hv';injection hv' with hv';subst hv';exact h6 b hh
 cases e with
 | normal=>obtain⟨f,H,β,hk,R⟩:=hq;exact fin f H β hk R
 | ret=>obtain⟨f,H,β,hk,R⟩:=hq;exact fin f H β hk R
 | panic _=>exact hq.elim
 | outgrown=>exact hq.elim
 | exit id=>obtain⟨f,H,β,hk,R⟩:=hq;exact hk.elim
 | goto l=>obtain⟨f,H,β,hk,R⟩:=hq;exact hk.elim
def rW (args:List CV)(i:Nat):Fr:=fun t=>if t=i then .hs i 1 else iQ args t
def dX (i e sz:Nat)(rows:List (List IV)):Hp:=fun h=>if h=i then .blk false 1 e sz rows else .none
def Aj [Zi] (P:Program)(f:Fr)(H:Hp):List ResultVar→List CV→Prop
 | [],[]=>True
 | r::rs,c::cs=>Ew P f H r true c∧Aj P f H rs cs
 | _,_=>False
def a7x [Zi] (P:Program)(rs:List ResultVar)(i e sz:Nat)(rows':List (List IV))(res:List CV):Post
 | .ret,f,H=>Aj P f H rs res∧H i=.blk false 1 e sz rows'
 | .normal,f,H=>Aj P f H rs res∧H i=.blk false 1 e sz rows'
 | _,_,_=>False
theorem Ci {f:Fr}{H:Hp}{β:Nat→Value}{a:Act}{w:World}(R:Rel G M w0 D0 N f H β a w):∀ (rs:List ResultVar) (cs:List CV),Aj P f H rs cs →
  ∃ us:List Value,(rs.mapM (rvS a.tmps)).run P w=.ok us w∧dM w (DD H β D0) cs us
 | [],[],_=>⟨[],by simp,trivial⟩
 | r::rs,c::cs,h=>by
  simp only[Aj]at h;obtain⟨us,a1,a2⟩:=Ci R rs cs h.2;have hv:=h.1;unfold Ew at hv;split at hv
  ·rename_i p c' ms hr;obtain⟨hp,rfl,hf⟩:=hv;obtain rfl:=hf rfl;obtain⟨v,hv1,hv2⟩:=Fv R hr hp;exact⟨v::us,by simp[List.mapM_cons,hv1,a1],hv2,a2⟩
  ·exact hv.elim
 | [],_::_,h=>by simp[Aj]at h
 | _::_,[],h=>by simp[Aj]at h
theorem ACW.qA {g : Nat} {args : List CV} {i e sz : Nat} {rows rows' : List (List IV)} {res : List CV} (hm : P.follows .mixedOrders = true) {fn : Func} {body : Code} (hf : P.funcs[g]? = some fn) (hb : fn.body = some body) (hn : (fn.name == "runtime.NumGoroutine") = false)
  (hd:codeOk fn.ntmps body=true) (hargs:args.length≤fn.ntmps) (h:AW P body (a7x P fn.results.toList i e sz rows' res) (rW args i) (dX i e sz rows)):ACW P g args i e sz rows rows' res:=by
 intro w D vs v hD hvs hvi hvD hown;refine .inl ⟨fn,hf,hn,by rw[hb];rfl,callsIn_wide.1 (callsIn_of_wp_marks (n:=0) (F:=Fence.wide) hf hb trivial ?_)⟩;have hlen:=hvs.length;have hDD:∀ b,DD (dX i e sz rows) (fun u=>if u=i then v else default) (fun b=>D b∧aG v≠some b) b↔D b:=by
  intro b;constructor
  ·rintro(hb|⟨k,hm,hk⟩)
   ·exact hb.1
   ·by_cases hki:k=i
    ·subst hki;simp only[if_pos]at hk;exact hvD b hk
    ·simp only[dX,if_neg hki,HC.bV]at hm
  ·intro hb;by_cases hh:aG v=some b
   ·exact .inr ⟨i,by simp[dX,HC.bV],by simpa using hh⟩
   ·exact .inl ⟨hb,hh⟩
 have hcv:∀ (cvs:List CV) (us:List Value) (H:Hp) (β:Nat→Value),dM w D cvs us→∀ t,aj w D H β (iQ cvs t) ((us[t]?).getD Go.undef):=by
  intro cvs us H β hu t
  induction cvs generalizing us t with
  | nil =>
   match us,hu with
   | [],_=>simp[iQ,aj]
  | cons c cs ih =>
   match us,hu with
   | u::us,hu =>
    cases t with
    | zero=>simp only[iQ,List.map_cons,List.getElem?_cons_zero,Option.getD_some];exact hu.1.av
    | succ t=>simpa only[iQ,List.map_cons,List.getElem?_cons_succ] using ih us hu.2 t
 have hDe:DD (dX i e sz rows) (fun u=>if u=i then v else default) (fun b=>D b∧aG v≠some b)=D:=funext fun b=>propext (hDD b)
 have R:Rel ⟨fun x u=>x=.hs i 1∧u=v,false⟩ (fun b=>aG v=some b) w (fun b=>D b∧aG v≠some b) fn.ntmps (rW args i) (dX i e sz rows) (fun u=>if u=i then v else default) { tmps:=vs.toArray++Array.replicate (fn.ntmps-vs.toArray.size) Go.undef,defers:=[] } w:=by
  refine⟨rfl,rfl,rfl,Nat.le_refl _,fun _ _ _=>rfl,fun b hb=>⟨hD b hb.1,hb.2⟩,by simp;omega,fun d hd=>(by cases hd),fun h=>(by cases h),List.nodup_nil,?_,fun t=>?_,fun h st e' sz' qW hh=>?_,fun h st e' sz' qW hh=>?_,fun h h' hne hm1 hm2=>?_,fun h st e' qW hh=>(by simp only[dX]at hh;split at hh<;>cases hh),fun h B hh=>(by simp only[dX]at hh;split at hh<;>cases hh),fun h x u hh=>(by simp only[dX]at hh;split at hh<;>cases hh)⟩
  ·rintro x u ⟨rfl,rfl⟩;simp[aj,dX,HC.stamp]
  ·have e1:(vs.toArray++Array.replicate (fn.ntmps-vs.toArray.size) Go.undef).getD t Go.undef=(vs[t]?).getD Go.undef:=by
    rw[Array.getD_eq_getD_getElem?,Array.getElem?_append];split
    ·simp
    ·rename_i ht;simp only[List.size_toArray,Nat.not_lt]at ht;rw[List.getElem?_eq_none ht];simp only[Array.getElem?_replicate];split<;>rfl
   rw[e1,hDe];by_cases hti:t=i
   ·subst hti;rw[hvi];simp[rW,aj,dX,HC.stamp]
   ·simp only[rW,if_neg hti];exact hcv args vs _ _ hvs t
  ·by_cases hhi:h=i
   ·subst hhi;simp only[dX,if_pos]at hh;injection hh with _ h1 h2 h3 h4;subst h1 h2 h3 h4;rw[hDe];simp only[if_pos];exact hown
   ·simp only[dX,if_neg hhi,reduceCtorEq]at hh
  ·by_cases hhi:h=i
   ·subst hhi;simp[dX]at hh
   ·simp only[dX,if_neg hhi,reduceCtorEq]at hh
  ·by_cases h1:h=i
   ·subst h1;simp only[dX,if_neg (Ne.symm hne),HC.bV]at hm2
   ·simp only[dX,if_neg h1,HC.bV]at hm1
 refine wpIn_mono (dN hm body none _ _ _ _ _ _ _ _ w (.inr ⟨rfl,rfl⟩) hd h R) fun e1 a w' hq=>?_
 have fin:∀ f H β,(Aj P f H fn.results.toList res∧H i=.blk false 1 e sz rows')→Rel ⟨fun x u=>x=.hs i 1∧u=v,false⟩ (fun b=>aG v=some b) w (fun b=>D b∧aG v≠some b) fn.ntmps f H β a w' →
   LeavesInM Fence.wide 0 P fn a.tmps (fun e1 w'=>∃ u,e1=.returned u∧w.grownBy w' (aG v)∧∃ us,u=oU us∧dM w' D res us∧Own w' D w.heap.size (fun b=>aG v=some b) v e sz rows') a.defers .returning w':=by
  intro f H β ⟨hr,hHi⟩ R0;refine rV a.defers _ w' R0.defers R0.Lh R0.size fun w2 h1 h2 h3 h4 h5=>?_;have g2:∀ D',bD w' D' w2 D':=fun D'=>⟨Nat.le_of_eq h4.symm,fun _ _ h=>h,fun b _ _ hc=>h5 b (.inr hc)⟩
  have R:Rel ⟨fun x u=>x=.hs i 1∧u=v,false⟩ (fun b=>aG v=some b) w (fun b=>D b∧aG v≠some b) fn.ntmps f H β { a with defers:=[] } w2 :=
   ⟨h1.trans R0.os,h2.trans R0.tape,h3.trans R0.output,by rw[h4];exact R0.size,fun k hk hm=>(h5 k (.inl hk)).trans (R0.keep k hk hm),R0.old,R0.kW,fun d hd=>(by cases hd),fun h=>(by cases h),List.nodup_nil,fun x u h=>aj.mono (g2 _) (gI.refl _ _) _ _ (R0.gh x u h),
    fun t=>aj.mono (g2 _) (gI.refl _ _) _ _ (R0.tmps t),
    fun h st e sz rows hh=>(R0.own h st e sz rows hh).mono (g2 _) fun k hk=>by obtain⟨cur,e',hc⟩:=R0.dW (by rw[hh];trivial) hk;exact h5 k (.inr ⟨_,hc,rfl⟩),
    fun h st e sz rows hh=>⟨(R0.frz h st e sz rows hh).1,(R0.frz h st e sz rows hh).2.1.mono (g2 _),(R0.frz h st e sz rows hh).2.2⟩,R0.dis,
    fun h st e rows hh=>(R0.nst h st e rows hh).mono (g2 _) (gI.refl _ _) fun k hk=>by obtain⟨cur,e',hc⟩:=R0.dW (by rw[hh];trivial) hk;exact h5 k (.inr ⟨_,hc,rfl⟩),fun h B hh=>by rw[h4];exact R0.mrk h B hh,fun h x v hh=>aj.mono (g2 _) (gI.refl _ _) _ _ (R0.tie h x v hh)⟩
  clear h1 h2 h3 h4 h5;have hgv:=R.gh _ _ ⟨rfl,rfl⟩;simp only[aj]at hgv;have hvb:v=β i:=hgv.2 (by rw[hHi];rfl);obtain⟨us,h1',h2⟩:=Ci R _ _ hr;have hsub:∀ b,D b→DD H β (fun b=>D b∧aG v≠some b) b:=fun b hb=>by
   by_cases hh:aG v=some b
   ·exact .inr ⟨i,by rw[hHi];trivial,by rw[← hvb];exact hh⟩
   ·exact .inl ⟨hb,hh⟩
  refine⟨_,kM h1',_,rfl,⟨R.os,R.tape,R.output,R.size,fun k hk hne=>R.keep k hk (fun hh=>hne hh.symm)⟩,us,rfl,h2.mono (bD.of_sub hsub),?_⟩;have ho:=R.own i _ _ _ _ hHi;rw[← hvb]at ho;exact ho.mono (bD.of_sub hsub) fun _ _=>rfl
 cases e1 with
 | normal=>obtain⟨f,H,β,hk,R⟩:=hq;exact fin f H β hk R
 | ret=>obtain⟨f,H,β,hk,R⟩:=hq;exact fin f H β hk R
 | panic _=>exact hq.elim
 | outgrown=>exact hq.elim
 | exit id=>obtain⟨f,H,β,hk,R⟩:=hq;exact hk.elim
 | goto l=>obtain⟨f,H,β,hk,R⟩:=hq;exact hk.elim
def UC (x:AV)(c:HC)(i e sz:Nat)(rows':List (List IV)):Prop :=
 match x,c with
 | .hv h st off len,.blk false st' e' sz' rows=>h=i∧st=1∧st'=1∧off=0∧e'=e∧sz'=sz∧len≤rows.length∧rows'=rows.take len
 | .hs h st,.blk false st' e' sz' rows=>h=i∧st=1∧st'=1∧e'=e∧sz'=sz∧rows'=rows
 | _,_=>False
def a6C (f:Fr)(H:Hp)(rs:List ResultVar)(i e sz:Nat)(rows':List (List IV)):Prop :=
 match rs with
 | [.tmp t]=>UC (f t) (H i) i e sz rows'
 | _=>False
def a7y (rs:List ResultVar)(i e sz:Nat)(rows':List (List IV)):Post
 | .ret,f,H=>a6C f H rs i e sz rows'
 | .normal,f,H=>a6C f H rs i e sz rows'
 | _,_,_=>False
theorem TP {f:Fr}{H:Hp}{rs:List ResultVar}{i e sz:Nat}{rows':List (List IV)}(h:a6C f H rs i e sz rows') :
  ∃ t rows,rs=[.tmp t]∧H i=.blk false 1 e sz rows∧((f t=.hs i 1∧rows'=rows)∨∃ len,f t=.hv i 1 0 len∧len≤rows.length∧rows'=rows.take len):=by
 unfold a6C at h;split at h
 ·rename_i t;unfold UC at h;split at h
  ·rename_i h' st off len st' e' sz' rows hx hc;obtain⟨rfl,rfl,rfl,rfl,rfl,rfl,hl,rfl⟩:=h;exact⟨t,rows,rfl,hc,.inr ⟨len,hx,hl,rfl⟩⟩
  ·rename_i h' st st' e' sz' rows hx hc;obtain⟨rfl,rfl,rfl,rfl,rfl,rfl⟩:=h;exact⟨t,_,rfl,hc,.inl ⟨hx,rfl⟩⟩
  ·exact h.elim
 ·exact h.elim
theorem a0C {w:World}{D M:Nat→Prop}{B:Nat}{v u:Value}{e sz k:Nat}{rows:List (List IV)}(hown:Own w D B M v e sz rows){len:Nat}(hl:len≤rows.length)
  (hu:(len=0∧∃ a cap,u=.slice a 0 cap∧cap≤maxLen∧(True→∃ n,v=.slice a n cap))∨∃ g n cap cap',v=.slice (some ⟨g,0,none⟩) n cap∧u=.slice (some ⟨g,0*k,none⟩) len cap'∧len≤cap'∧cap'≤maxLen∧(True→cap'=cap)) :
  Own w D B M u e sz (rows.take len)∧∀ b,aG u=some b→aG v=some b:=by
 obtain⟨h1,h2⟩:=hown;have h1':∀ r∈rows.take len,r.length=sz:=fun r hr=>h1 r (List.mem_of_mem_take hr)
 rcases hu with ⟨rfl,a,cap,rfl,hc,hn⟩|⟨g,n,cap,cap',hv,rfl,hlc,hcm,hcc⟩
 ·obtain⟨n,hv⟩:=hn trivial;refine⟨⟨h1',?_⟩,fun b hb=>by
   rw[hv];cases a with
   | none=>cases hb
   | some a=>exact hb⟩
  rcases h2 with ⟨hr,hv'⟩|⟨g,cap0,cur,hv',hB,hg,ha,hb,hcs,hrep⟩
  ·rw[hv']at hv;injection hv with e1 e2 e3;subst e1 e3
   exact .inl ⟨by simp,rfl⟩
  ·rw[hv']at hv;injection hv with e1 e2 e3;subst e1 e3
   exact .inr ⟨g,_,cur,by simp,hB,hg,by simp,hb,hcs,by simp[dI]⟩
 ·have:=hcc trivial;subst this;refine⟨⟨h1',?_⟩,fun b hb=>by rw[hv];exact hb⟩;rcases h2 with ⟨hr,hv'⟩|⟨g0,cap0,cur,hv',hB,hg,ha,hb,hcs,hrep⟩
  ·rw[hv']at hv;cases hv
  ·rw[hv']at hv;injection hv with e1 e2 e3;injection e1 with e1;injection e1 with e1;subst e1 e3
   have hll:(rows.take len).length=len:=by rw[List.length_take,Nat.min_eq_left hl]
   refine .inr ⟨_,_,cur,by rw[hll,Nat.zero_mul],hB,hg,by omega,hb,hcs,?_⟩;have h3:=hrep.take (len*sz);have h4:=su rows 0 len h1 (by omega);rw[List.drop_zero,Nat.zero_mul,List.drop_zero]at h4;rw[h4,hll];rw[List.take_take,Nat.min_eq_left (Nat.mul_le_mul_right _ hl)]at h3;exact h3
theorem ACT.qA {g : Nat} {args : List CV} {i e sz : Nat} {rows rows' : List (List IV)} (hm : P.follows .mixedOrders = true) {fn : Func} {body : Code} (hf : P.funcs[g]? = some fn) (hb : fn.body = some body) (hn : (fn.name == "runtime.NumGoroutine") = false)
  (hd:codeOk fn.ntmps body=true) (hargs:args.length≤fn.ntmps) (h:AW P body (a7y fn.results.toList i e sz rows') (rW args i) (dX i e sz rows)):ACT P g args i e sz rows rows':=by
 intro w D vs v hD hvs hvi hvD hown;refine .inl ⟨fn,hf,hn,by rw[hb];rfl,callsIn_wide.1 (callsIn_of_wp_marks (n:=0) (F:=Fence.wide) hf hb trivial ?_)⟩;have hlen:=hvs.length;have hDD:∀ b,DD (dX i e sz rows) (fun u=>if u=i then v else default) (fun b=>D b∧aG v≠some b) b↔D b:=by
  intro b;constructor
  ·rintro(hb|⟨k,hm,hk⟩)
   ·exact hb.1
   ·by_cases hki:k=i
    ·subst hki;simp only[if_pos]at hk;exact hvD b hk
    ·simp only[dX,if_neg hki,HC.bV]at hm
  ·intro hb;by_cases hh:aG v=some b
   ·exact .inr ⟨i,by simp[dX,HC.bV],by simpa using hh⟩
   ·exact .inl ⟨hb,hh⟩
 have hcv:∀ (cvs:List CV) (us:List Value) (H:Hp) (β:Nat→Value),dM w D cvs us→∀ t,aj w D H β (iQ cvs t) ((us[t]?).getD Go.undef):=by
  intro cvs us H β hu t
  induction cvs generalizing us t with
  | nil =>
   match us,hu with
   | [],_=>simp[iQ,aj]
  | cons c cs ih =>
   match us,hu with
   | u::us,hu =>
    cases t with
    | zero=>simp only[iQ,List.map_cons,List.getElem?_cons_zero,Option.getD_some];exact hu.1.av
    | succ t=>simpa only[iQ,List.map_cons,List.getElem?_cons_succ] using ih us hu.2 t
 have hDe:DD (dX i e sz rows) (fun u=>if u=i then v else default) (fun b=>D b∧aG v≠some b)=D:=funext fun b=>propext (hDD b)
 have R:Rel ⟨fun x u=>x=.hs i 1∧u=v,false⟩ (fun b=>aG v=some b) w (fun b=>D b∧aG v≠some b) fn.ntmps (rW args i) (dX i e sz rows) (fun u=>if u=i then v else default) { tmps:=vs.toArray++Array.replicate (fn.ntmps-vs.toArray.size) Go.undef,defers:=[] } w:=by
  refine⟨rfl,rfl,rfl,Nat.le_refl _,fun _ _ _=>rfl,fun b hb=>⟨hD b hb.1,hb.2⟩,by simp;omega,fun d hd=>(by cases hd),fun h=>(by cases h),List.nodup_nil,?_,fun t=>?_,fun h st e' sz' qW hh=>?_,fun h st e' sz' qW hh=>?_,fun h h' hne hm1 hm2=>?_,fun h st e' qW hh=>(by simp only[dX]at hh;split at hh<;>cases hh),fun h B hh=>(by simp only[dX]at hh;split at hh<;>cases hh),fun h x u hh=>(by simp only[dX]at hh;split at hh<;>cases hh)⟩
  ·rintro x u ⟨rfl,rfl⟩;simp[aj,dX,HC.stamp]
  ·have e1:(vs.toArray++Array.replicate (fn.ntmps-vs.toArray.size) Go.undef).getD t Go.undef=(vs[t]?).getD Go.undef:=by
    rw[Array.getD_eq_getD_getElem?,Array.getElem?_append];split
    ·simp
    ·rename_i ht;simp only[List.size_toArray,Nat.not_lt]at ht;rw[List.getElem?_eq_none ht];simp only[Array.getElem?_replicate];split<;>rfl
   rw[e1,hDe];by_cases hti:t=i
   ·subst hti;rw[hvi];simp[rW,aj,dX,HC.stamp]
   ·simp only[rW,if_neg hti];exact hcv args vs _ _ hvs t
  ·by_cases hhi:h=i
   ·subst hhi;simp only[dX,if_pos]at hh;injection hh with _ h1 h2 h3 h4;subst h1 h2 h3 h4;rw[hDe];simp only[if_pos];exact hown
   ·simp only[dX,if_neg hhi,reduceCtorEq]at hh
  ·by_cases hhi:h=i
   ·subst hhi;simp[dX]at hh
   ·simp only[dX,if_neg hhi,reduceCtorEq]at hh
  ·by_cases h1:h=i
   ·subst h1;simp only[dX,if_neg (Ne.symm hne),HC.bV]at hm2
   ·simp only[dX,if_neg h1,HC.bV]at hm1
 refine wpIn_mono (dN hm body none _ _ _ _ _ _ _ _ w (.inr ⟨rfl,rfl⟩) hd h R) fun e1 a w' hq=>?_
 have fin:∀ f H β,a6C f H fn.results.toList i e sz rows'→Rel ⟨fun x u=>x=.hs i 1∧u=v,false⟩ (fun b=>aG v=some b) w (fun b=>D b∧aG v≠some b) fn.ntmps f H β a w' →
   LeavesInM Fence.wide 0 P fn a.tmps (fun e1 w'=>∃ u,e1=.returned u∧w.grownBy w' (aG v)∧(∀ b,aG u=some b→aG v=some b)∧Own w' D w.heap.size (fun b=>aG v=some b) u e sz rows') a.defers .returning w':=by
  intro f H β hr R0;obtain⟨t,qW,hrs,hHi,hrt⟩:=TP hr;refine rV a.defers _ w' R0.defers R0.Lh R0.size fun w2 h1 h2 h3 h4 h5=>?_;have g2:∀ D',bD w' D' w2 D':=fun D'=>⟨Nat.le_of_eq h4.symm,fun _ _ h=>h,fun b _ _ hc=>h5 b (.inr hc)⟩
  have R:Rel ⟨fun x u=>x=.hs i 1∧u=v,false⟩ (fun b=>aG v=some b) w (fun b=>D b∧aG v≠some b) fn.ntmps f H β { a with defers:=[] } w2 :=
   ⟨h1.trans R0.os,h2.trans R0.tape,h3.trans R0.output,by rw[h4];exact R0.size,fun k hk hm=>(h5 k (.inl hk)).trans (R0.keep k hk hm),R0.old,R0.kW,fun d hd=>(by cases hd),fun h=>(by cases h),List.nodup_nil,fun x u h=>aj.mono (g2 _) (gI.refl _ _) _ _ (R0.gh x u h),
    fun t=>aj.mono (g2 _) (gI.refl _ _) _ _ (R0.tmps t),
    fun h st e sz rows hh=>(R0.own h st e sz rows hh).mono (g2 _) fun k hk=>by obtain⟨cur,e',hc⟩:=R0.dW (by rw[hh];trivial) hk;exact h5 k (.inr ⟨_,hc,rfl⟩),
    fun h st e sz rows hh=>⟨(R0.frz h st e sz rows hh).1,(R0.frz h st e sz rows hh).2.1.mono (g2 _),(R0.frz h st e sz rows hh).2.2⟩,R0.dis,
    fun h st e rows hh=>(R0.nst h st e rows hh).mono (g2 _) (gI.refl _ _) fun k hk=>by obtain⟨cur,e',hc⟩:=R0.dW (by rw[hh];trivial) hk;exact h5 k (.inr ⟨_,hc,rfl⟩),fun h B hh=>by rw[h4];exact R0.mrk h B hh,fun h x v hh=>aj.mono (g2 _) (gI.refl _ _) _ _ (R0.tie h x v hh)⟩
  clear h1 h2 h3 h4 h5;have hgv:=R.gh _ _ ⟨rfl,rfl⟩;simp only[aj]at hgv;have hvb:v=β i:=hgv.2 (by rw[hHi];rfl);have hsub:∀ b,D b→DD H β (fun b=>D b∧aG v≠some b) b:=fun b hb=>by
   by_cases hh:aG v=some b
   ·exact .inr ⟨i,by rw[hHi];trivial,by rw[← hvb];exact hh⟩
   ·exact .inl ⟨hb,hh⟩
  have h1':(fn.results.toList.mapM (rvS a.tmps)).run P w2=.ok [a.tmps.getD t Go.undef] w2:=by rw[hrs];simp[List.mapM_cons,rvS]
  have hu:=R.tmps t;have ho:=R.own i _ _ _ _ hHi;rw[← hvb]at ho;have ho2:=ho.mono (D':=D) (bD.of_sub hsub) fun _ _=>rfl
  refine⟨_,kM h1',_,rfl,⟨R.os,R.tape,R.output,R.size,fun k hk hne=>R.keep k hk (fun hh=>hne hh.symm)⟩,?_⟩;show (∀ b,aG (a.tmps.getD t Go.undef)=some b→_)∧Own w2 D w.heap.size (fun b=>aG v=some b) (a.tmps.getD t Go.undef) e sz rows';rcases hrt with ⟨hx,rfl⟩|⟨len,hx,hl,rfl⟩
  ·rw[hx]at hu;simp only[aj]at hu;have hub:a.tmps.getD t Go.undef=v:=by rw[hu.2 (by rw[hHi];rfl)];exact hvb.symm
   rw[hub];exact⟨fun _ h=>h,ho2⟩
  ·rw[hx]at hu;simp only[aj]at hu;have hu2:=hu.2 (by rw[hHi];rfl);rw[← hvb]at hu2;have:=a0C ho2 hl hu2;exact⟨this.2,this.1⟩
 cases e1 with
 | normal=>obtain⟨f,H,β,hk,R⟩:=hq;exact fin f H β hk R
 | ret=>obtain⟨f,H,β,hk,R⟩:=hq;exact fin f H β hk R
 | panic _=>exact hq.elim
 | outgrown=>exact hq.elim
 | exit id=>obtain⟨f,H,β,hk,R⟩:=hq;exact hk.elim
 | goto l=>obtain⟨f,H,β,hk,R⟩:=hq;exact hk.elim
def iP (B:Nat):Hp:=fun h=>if h=999 then .mrk B else .none
def Td (B0 E:Nat)(f:Fr)(H:Hp)(rows:List (List IV))(b:Option (Nat×Nat)):Prop :=
 (b=none→rows=[])∧∀ g cap,b=some (g,cap)→B0≤g∧g<E∧g∉bf rows∧(∀ u x,f u=.iv x→g∉x.ids)∧(∀ u cs,f u=.agg cs→g∉gX cs)∧∀ u fz st e sz rows,H u=.blk fz st e sz rows→g∉bf rows
inductive Opn (B0:Nat) (T:Fr→Hp→Prop):Fr→Hp→Prop
 | done {f:Fr} {H:Hp} (h:T f H):Opn B0 T f H
 | jA {f:Fr} {H:Hp} (t e sz:Nat) (ht:f t=.jA) (h:Opn B0 T (upd f t (.iv (.own none e sz []))) H):Opn B0 T f H
 | row {f:Fr} {H:Hp} (hb st e j h s e' sz:Nat) (rows:List AV) (rws:List (List IV)) (B:Nat) (hN:H hb=.nst st e rows) (hj:rows[j]?=some (.hs h s)) (hH:H h=.blk false s e' sz rws) (hB:H 999=.mrk B)
   (k:∀ b E,B≤E→Td B0 E f H rws b→(∀ g cap,b=some (g,cap)→∀ x,AV.iv x∈rows→g∉x.ids)→Opn B0 T f (bg (bg (bg H h (.blk true s e' sz rws)) 999 (.mrk E)) hb (.nst st e (rows.set j (.iv (.own b e' sz rws)))))):Opn B0 T f H
 | opn {f:Fr} {H:Hp} (t h st e sz:Nat) (rows:List (List IV)) (B:Nat) (ht:f t=.hs h st) (hH:H h=.blk false st e sz rows) (hB:H 999=.mrk B)
   (k:∀ b E,B≤E→Td B0 E f H rows b→Opn B0 T (upd f t (.iv (.own b e sz rows))) (bg (bg H h (.blk true st e sz rows)) 999 (.mrk E))):Opn B0 T f H
def a1M [Zi] (P:Program)(rs:List ResultVar)(B0:Nat)(R:Nat→Nat→List CV→Prop)(f:Fr)(H:Hp):Prop :=
 ∃ B cs,H 999=.mrk B∧KC P f H none 0 rs cs∧∀ E,B≤E→R B0 E cs
def a7w [Zi] (P:Program)(rs:List ResultVar)(B0:Nat)(R:Nat→Nat→List CV→Prop):Post
 | .ret,f,H=>Opn B0 (a1M P rs B0 R) f H
 | .normal,f,H=>Opn B0 (a1M P rs B0 R) f H
 | _,_,_=>False
theorem Own.Ol {w:World}{D M:Nat→Prop}{B:Nat}{v:Value}{e sz:Nat}{rows:List (List IV)}(h:Own w D B M v e sz rows){D':Nat→Prop}(hD:∀ b,D' b→D b)(hn:∀ g,aG v=some g→¬D' g) :
  ∃ b,Rep w D' (.own b e sz rows) v∧(b=none→rows=[])∧∀ g cap,b=some (g,cap)→aG v=some g:=by
 rcases h.2 with ⟨rfl,rfl⟩|⟨g,cap,cur,rfl,hB,hg,h1,h2,h3,h4⟩
 ·exact⟨none,.CX e sz,fun _=>rfl,by simp⟩
 ·have h4':=h4.mono (w':=w) (D':=D') ⟨Nat.le_refl _,fun b _ hb=>hD b hb,fun _ _ _ _=>rfl⟩;refine⟨some (g,cap),.own rows g cap e sz cur (fun i r hi=>h.1 r (List.mem_of_getElem? hi)) h1 h2 hg (hn g rfl) h3 ?_,by simp,fun g' cap' hh=>by injection hh with hh;injection hh with h1 h2;subst h1;rfl⟩;intro i r hi j x hj;obtain⟨c,hc,hr⟩:=h4'.get _ _ (iR rows i j r x h.1 hi hj);rw[List.getElem?_take]at hc;split at hc
  ·rw[Array.getElem?_toList]at hc;rw[Array.getD_eq_getD_getElem?,hc];exact hr
  ·cases hc
theorem aF.a9s {w:World}{D:Nat→Prop}{H:Hp}{β:Nat→Value}:∀ {xs:List AV} {vs:List Value} {j:Nat} {x y:AV},aF w D H β xs vs→xs[j]?=some x→(∀ v,aj w D H β x v→aj w D H β y v)→aF w D H β (xs.set j y) vs
 | [],[],j,x,y,_,hj,_=>by simp at hj
 | a::xs,v::vs,0,x,y,h,hj,hk=>by
  simp only[List.getElem?_cons_zero,Option.some.injEq]at hj;subst hj;simp only[aF]at h;simp only[List.set_cons_zero,aF];exact⟨hk v h.1,h.2⟩
 | a::xs,v::vs,j+1,x,y,h,hj,hk=>by
  simp only[aF]at h;simp only[List.set_cons_succ,aF];exact⟨h.1,aF.a9s h.2 (by simpa using hj) hk⟩
 | [],_::_,_,_,_,h,_,_=>by simp[aF]at h
 | _::_,[],_,_,_,h,_,_=>by simp[aF]at h
theorem aF.a8N {w:World}{D:Nat→Prop}{H:Hp}{β:Nat→Value}:∀ {xs:List AV} {vs:List Value} {x:AV},aF w D H β xs vs→x∈xs→∃ v,aj w D H β x v
 | a::xs,v::vs,x,h,hm=>by
  simp only[aF]at h;rcases List.mem_cons.1 hm with rfl|hm
  ·exact⟨v,h.1⟩
  ·exact aF.a8N h.2 hm
 | [],_,_,_,hm=>by cases hm
 | _::_,[],_,h,_=>by simp[aF]at h
theorem Rel.a4r {f:Fr}{H:Hp}{β:Nat→Value}{a:Act}{w:World}(R:Rel G (fun _=>False) w0 D0 N f H β a w){h st e sz B:Nat}{rows:List (List IV)}(hH:H h=.blk false st e sz rows)(hB:H 999=.mrk B) :
  ∃ b E,(B≤E∧E≤w.heap.size)∧Td w0.heap.size E f H rows b∧(∀ g cap,b=some (g,cap)→aG (β h)=some g)∧Rep w (DD (bg H h (.blk true st e sz rows)) β D0) (.own b e sz rows) (β h):=by
 have ho:=R.own h _ _ _ _ hH;have zL:(H h).bV:=by rw[hH];trivial
 have hsub:∀ b,DD (bg H h (.blk true st e sz rows)) β D0 b→DD H β D0 b:=by
  rintro b (hb|⟨u,hm,hk⟩)
  ·exact .inl hb
  ·by_cases e:u=h
   ·subst e;rw[au]at hm;exact hm.elim
   ·rw[ak _ _ e]at hm;exact .inr ⟨u,hm,hk⟩
 have hn:∀ g,aG (β h)=some g→¬DD (bg H h (.blk true st e sz rows)) β D0 g:=by
  rintro g hg (hb|⟨u,hm,hk⟩)
  ·have h1:=R.old g hb;rcases DD.head R zL hg with h2|h2
   ·omega
   ·exact h2
  ·by_cases e:u=h
   ·subst e;rw[au]at hm;exact hm.elim
   ·rw[ak _ _ e]at hm;exact R.dis u h e hm zL g hk hg
 obtain⟨b,hrep,hb0,hbg⟩:=ho.Ol hsub hn;refine⟨b,w.heap.size,⟨R.mrk _ _ hB,Nat.le_refl _⟩,⟨hb0,fun g cap hg=>?_⟩,hbg,hrep⟩;have hgh:=hbg g cap hg;have hDg:DD H β D0 g:=.inr ⟨h,zL,hgh⟩;have hlt:=R.iD zL hgh;have hrows:∀ (u:Nat) (fz:Bool) (st e sz:Nat) (rows:List (List IV)),H u=.blk fz st e sz rows→g∉bf rows:=fun u fz st e sz rows hu hm=>by
  cases fz with
  | false =>
   rcases (R.own u _ _ _ _ hu).2 with ⟨hr,_⟩|⟨g',cap',cur,_,_,_,_,_,_,hr⟩
   ·rw[hr]at hm;simp[bf]at hm
   ·rw[← iH]at hm;obtain⟨x,hx,hm⟩:=fP.1 hm;obtain⟨j,hj⟩:=List.getElem?_of_mem hx;obtain⟨v,_,hv⟩:=hr.get j x hj;exact(hv.ids g hm).1 hDg
  | true=>exact((R.frz u _ _ _ _ hu).2.1.ids g hm).1 hDg
 refine⟨hlt.2.resolve_right id,hlt.1,fun hm=>?_,fun u x hu hm=>?_,fun u cs hu hm=>?_,hrows⟩
 ·rcases ho.2 with ⟨hr,_⟩|⟨g',cap',cur,_,_,_,_,_,_,hr⟩
  ·rw[hr]at hm;simp[bf]at hm
  ·rw[← iH]at hm;obtain⟨x,hx,hm⟩:=fP.1 hm;obtain⟨j,hj⟩:=List.getElem?_of_mem hx;obtain⟨v,_,hv⟩:=hr.get j x hj;exact(hv.ids g hm).1 hDg
 ·have:=R.tmps u;rw[hu]at this;simp only[aj]at this;exact(this.ids g hm).1 hDg
 ·have:=R.tmps u;rw[hu]at this;simp only[aj]at this;obtain⟨vs,_,hr⟩:=this;obtain⟨x,hx,hm⟩:=fP.1 hm;obtain⟨j,hj⟩:=List.getElem?_of_mem hx;obtain⟨v,_,hv⟩:=hr.get j x hj;exact(hv.ids g hm).1 hDg
theorem Rel.opn {f:Fr}{H:Hp}{T:Fr→Hp→Prop}(k:Opn w0.heap.size T f H):∀ {β:Nat→Value} {a:Act} {w:World},Rel G (fun _=>False) w0 D0 N f H β a w→∃ f' H' β',T f' H'∧Rel G (fun _=>False) w0 D0 N f' H' β' a w:=by
 induction k with
 | done h=>exact fun R=>⟨_,_,_,h,R⟩
 | jA t e sz hf k ih =>
  intro β a w R;have hx:=R.tmps t;rw[hf]at hx;simp only[aj]at hx;have ht:t<N:=R.o7 (t:=t) (fun v hv=>by rw[hx]at hv;subst hv;intro h;cases h);have R':=R.value (dst:=some t) (v:=.iv (.own none e sz [])) (val:=.slice none 0 0) (by simp only[aj];exact .CX e sz) (by rintro _ ⟨⟩;exact ht);rw[R.nX ht hx]at R';exact ih R'
 | row hb st e j h s e' sz rows rws B hN hj hH hB k ih =>
  rename_i f H;intro β a w R;have ho:=R.own h _ _ _ _ hH;have zL:(H h).bV:=by rw[hH];trivial
  have hne:(999:Nat)≠h:=fun e=>by rw[e,hH]at hB;cases hB
  have hne2:hb≠h:=fun e=>by rw[e,hH]at hN;cases hN
  have b1h:hb≠999:=fun e=>by rw[e,hB]at hN;cases hN
  obtain⟨b,E,hE,hok,b1m,hrow⟩:=R.a4r hH hB;have R1:=R.freeze h;rw[hH]at R1;simp only[HC.frz]at R1;have R2:=R1.Fp (h:=999) (B:=B) (E:=E) (by rw[ak _ _ hne];exact hB) hE.2;have hN2:bg (bg H h (.blk true s e' sz rws)) 999 (.mrk E) hb=.nst st e rows:=by rw[ak _ _ b1h,ak _ _ hne2];exact hN
  have hsub:∀ k,DD (bg (bg H h (.blk true s e' sz rws)) 999 (.mrk E)) β D0 k→DD (bg H h (.blk true s e' sz rws)) β D0 k:=by
   rintro k (hk|⟨u,hm,hk⟩)
   ·exact .inl hk
   ·by_cases e:u=999
    ·subst e;rw[au]at hm;exact hm.elim
    ·rw[ak _ _ e]at hm;exact .inr ⟨u,hm,hk⟩
  have hjr:∀ v,aj w (DD (bg (bg H h (.blk true s e' sz rws)) 999 (.mrk E)) β D0) (bg (bg H h (.blk true s e' sz rws)) 999 (.mrk E)) β (.hs h s) v→aj w (DD (bg (bg H h (.blk true s e' sz rws)) 999 (.mrk E)) β D0) (bg (bg H h (.blk true s e' sz rws)) 999 (.mrk E)) β (.iv (.own b e' sz rws)) v:=by
   intro v hv;simp only[aj]at hv ⊢;have:v=β h:=hv.2 (by rw[ak _ _ (Ne.symm hne),au];rfl);rw[this];exact hrow.mono (bD.of_sub hsub)
  have R3:=R2.conv (h:=hb) (c:=.nst st e (rows.set j (.iv (.own b e' sz rws)))) (by rw[hN2];rfl) (by rw[hN2];rfl) (by rw[hN2];exact Iff.rfl) (by intro a b c d h;cases h) (fun st' e'' rows' hh=>by
   injection hh with h1 h2 h3;subst h1 h2 h3;rcases R2.nst hb _ _ _ hN2 with ⟨hr,hv⟩|⟨g,cap,cur,hv,hBg,hg,a1,a2,a3,a4,a5⟩
   ·rw[hr]at hj;simp at hj
   ·refine .inr ⟨g,cap,cur,by rw[hv];simp,hBg,hg,by simpa using a1,a2,a3,?_,by simpa using a5⟩;simp only[List.length_set];exact aF.a9s a4 hj hjr) (by intro a b c d h;cases h)
  refine ih b E hE.1 hok (fun g cap hb' x hx hm=>?_) R3;rcases R.nst hb _ _ _ hN with ⟨hr,_⟩|⟨g',cap',cur,_,_,_,_,_,_,hr,_⟩
  ·rw[hr]at hx;cases hx
  ·obtain⟨v,hv⟩:=hr.a8N hx;simp only[aj]at hv;exact(hv.ids g hm).1 (.inr ⟨h,zL,b1m g cap hb'⟩)
 | opn t h st e sz rows B hf hH hB k ih =>
  rename_i f H;intro β a w R;have hx:=R.tmps t;rw[hf]at hx;simp only[aj]at hx;have hv:a.tmps.getD t Go.undef=β h:=hx.2 (by rw[hH];rfl);have ho:=R.own h _ _ _ _ hH;have ht:t<N:=R.o7 (t:=t) (fun v hv'=>by
   rw[hv]at hv';rcases ho.2 with ⟨_,hn⟩|⟨g,cap,cur,hn,_⟩<;>(rw[hn]at hv';subst hv';intro h;cases h))
  have R1:=R.freeze h;rw[hH]at R1;simp only[HC.frz]at R1;have hne:(999:Nat)≠h:=fun e=>by rw[e,hH]at hB;cases hB
  have hsub:∀ b,DD (bg H h (.blk true st e sz rows)) β D0 b→DD H β D0 b:=by
   rintro b (hb|⟨u,hm,hk⟩)
   ·exact .inl hb
   ·by_cases e:u=h
    ·subst e;rw[au]at hm;exact hm.elim
    ·rw[ak _ _ e]at hm;exact .inr ⟨u,hm,hk⟩
  have zL:(H h).bV:=by rw[hH];trivial
  have hn:∀ g,aG (β h)=some g→¬DD (bg H h (.blk true st e sz rows)) β D0 g:=by
   rintro g hg (hb|⟨u,hm,hk⟩)
   ·have h1:=R.old g hb;rcases DD.head R zL hg with h2|h2
    ·omega
    ·exact h2
   ·by_cases e:u=h
    ·subst e;rw[au]at hm;exact hm.elim
    ·rw[ak _ _ e]at hm;exact R.dis u h e hm zL g hk hg
  obtain⟨b,hrep,hb0,hbg⟩:=ho.Ol hsub hn;have R2:=R1.Fp (h:=999) (B:=B) (E:=w.heap.size) (by rw[ak _ _ hne];exact hB) (Nat.le_refl _);have hsub2:∀ b,DD (bg (bg H h (.blk true st e sz rows)) 999 (.mrk w.heap.size)) β D0 b→DD (bg H h (.blk true st e sz rows)) β D0 b:=by
   rintro b (hb|⟨u,hm,hk⟩)
   ·exact .inl hb
   ·by_cases e:u=999
    ·subst e;rw[au]at hm;exact hm.elim
    ·rw[ak _ _ e]at hm;exact .inr ⟨u,hm,hk⟩
  have R3:=R2.value (dst:=some t) (v:=.iv (.own b e sz rows)) (val:=a.tmps.getD t Go.undef) (by simp only[aj];rw[hv];exact hrep.mono (bD.of_sub hsub2)) (by rintro _ ⟨⟩;exact ht);rw[R.nX ht rfl]at R3;refine ih b w.heap.size (R.mrk _ _ hB) ⟨hb0,fun g cap hg=>?_⟩ R3;have hgh:=hbg g cap hg;have hDg:DD H β D0 g:=.inr ⟨h,zL,hgh⟩;have hlt:=R.iD zL hgh;have hrows:∀ (u:Nat) (fz:Bool) (st e sz:Nat) (rows:List (List IV)),H u=.blk fz st e sz rows→g∉bf rows:=fun u fz st e sz rows hu hm=>by
   cases fz with
   | false =>
    rcases (R.own u _ _ _ _ hu).2 with ⟨hr,_⟩|⟨g',cap',cur,_,_,_,_,_,_,hr⟩
    ·rw[hr]at hm;simp[bf]at hm
    ·rw[← iH]at hm;obtain⟨x,hx,hm⟩:=fP.1 hm;obtain⟨j,hj⟩:=List.getElem?_of_mem hx;obtain⟨v,_,hv⟩:=hr.get j x hj;exact(hv.ids g hm).1 hDg
   | true=>exact((R.frz u _ _ _ _ hu).2.1.ids g hm).1 hDg
  refine⟨hlt.2.resolve_right id,hlt.1,fun hm=>?_,fun u x hu hm=>?_,fun u cs hu hm=>?_,hrows⟩
  ·rcases ho.2 with ⟨hr,_⟩|⟨g',cap',cur,_,_,_,_,_,_,hr⟩
   ·rw[hr]at hm;simp[bf]at hm
   ·rw[← iH]at hm;obtain⟨x,hx,hm⟩:=fP.1 hm;obtain⟨j,hj⟩:=List.getElem?_of_mem hx;obtain⟨v,_,hv⟩:=hr.get j x hj;exact(hv.ids g hm).1 hDg
  ·have:=R.tmps u;rw[hu]at this;simp only[aj]at this;exact(this.ids g hm).1 hDg
  ·have:=R.tmps u;rw[hu]at this;simp only[aj]at this;obtain⟨vs,_,hr⟩:=this;obtain⟨x,hx,hm⟩:=fP.1 hm;obtain⟨j,hj⟩:=List.getElem?_of_mem hx;obtain⟨v,_,hv⟩:=hr.get j x hj;exact(hv.ids g hm).1 hDg
def AWo [Zi] (P:Program)(B0:Nat):Nat→Code→Post→Fr→Hp→Prop
 | 0,c,Q,f,H=>Opn B0 (AW P c Q) f H
 | n+1,.seq x y,Q,f,H=>AW P x (JA (AWo P B0 n y Q) Q) f H
 | _,_,_,_,_=>False
def AWq [Zi] (P:Program)(B0:Nat)(n:Option Nat)(c:Code)(Q:Post)(f:Fr)(H:Hp):Prop :=
 match n with
 | none=>AW P c Q f H
 | some n=>AWo P B0 n c Q f H
theorem MX (hm:P.follows .mixedOrders=true):∀ (n:Nat) (c:Code) (w0:World) (Q:Post) (f:Fr) (H:Hp) (β:Nat→Value) (a:Act) (w:World),G.rnd=false→codeOk N c=true→AWo P w0.heap.size n c Q f H→Rel G (fun _=>False) w0 D0 N f H β a w→c.wpIn (Wd none) 0 P (Conc G (fun _=>False) w0 D0 N Q) a w
 | 0,c,w0,Q,f,H,β,a,w,hr,hd,h,R=>by
  obtain⟨f',H',β',h',R'⟩:=Rel.opn h R;exact dN hm c none G _ w0 Q f' H' β' a w (.inr ⟨rfl,hr⟩) hd h' R'
 | n+1,.seq x y,w0,Q,f,H,β,a,w,hr,hd,h,R=>by
  simp only[codeOk,Bool.and_eq_true]at hd;refine wpIn_seq (wpIn_mono (dN hm x none G _ w0 _ f H β a w (.inr ⟨rfl,hr⟩) hd.1 h R) fun e a w hq=>?_);cases e with
  | normal=>obtain⟨f,H,β,hk,R⟩:=hq;exact MX hm n y w0 Q f H β a w hr hd.2 hk R
  | panic _=>exact hq.elim
  | outgrown=>exact hq.elim
  | exit id=>obtain⟨f,H,β,hk,R⟩:=hq;exact⟨f,H,β,hk,R⟩
  | ret=>obtain⟨f,H,β,hk,R⟩:=hq;exact⟨f,H,β,hk,R⟩
  | goto l=>obtain⟨f,H,β,hk,R⟩:=hq;exact⟨f,H,β,hk,R⟩
theorem Yp (hm:P.follows .mixedOrders=true){n:Option Nat}{c:Code}{w0:World}{Q:Post}{f:Fr}{H:Hp}{β:Nat→Value}{a:Act}{w:World}(hr:G.rnd=false)(hd:codeOk N c=true)(h:AWq P w0.heap.size n c Q f H)(R:Rel G (fun _=>False) w0 D0 N f H β a w):c.wpIn (Wd none) 0 P (Conc G (fun _=>False) w0 D0 N Q) a w:=by
 cases n with
 | none=>exact dN hm c none G _ w0 Q f H β a w (.inr ⟨rfl,hr⟩) hd h R
 | some n=>exact MX hm n c w0 Q f H β a w hr hd h R
theorem MK {w:World}{D:Nat→Prop}:∀ {cs:List CV} {us:List Value},us.length=cs.length→(∀ (k:Nat) c v,cs[k]?=some c→us[k]?=some v→iE w D c v)→dM w D cs us
 | [],[],_,_=>trivial
 | c::cs,u::us,hl,h=>⟨h 0 c u rfl rfl,MK (by simpa using hl) fun k c v hc hv=>h (k+1) c v (by simpa using hc) (by simpa using hv)⟩
 | [],_::_,hl,_=>by simp at hl
 | _::_,[],hl,_=>by simp at hl
theorem ACX.qA {g : Nat} {args : List CV} {R : Nat → Nat → List CV → Prop} (hm : P.follows .mixedOrders = true) {fn : Func} {body : Code} (hf : P.funcs[g]? = some fn) (hb : fn.body = some body) (hn : (fn.name == "runtime.NumGoroutine") = false)
  (hd:codeOk fn.ntmps body=true) (hargs:args.length≤fn.ntmps) (hne:∀ B,∃ E res,B≤E∧R B E res) {n:Option Nat} (h:∀ B,AWq P B n body (a7w P fn.results.toList B R) (iQ args) (iP B)):ACX P g args R:=by
 refine⟨hne,fun w D vs hD hvs=>?_⟩;refine .inl ⟨fn,hf,hn,by rw[hb];rfl,callsIn_wide.1 (callsIn_of_wp_marks (n:=0) (F:=Fence.wide) hf hb trivial ?_)⟩;have hlen:=hvs.length;have zL:∀ h,¬(iP w.heap.size h).bV:=fun h=>by
  unfold iP;split<;>exact id
 have hcv:∀ (cvs:List CV) (us:List Value),dM w D cvs us→∀ t,aj w (DD (iP w.heap.size) (fun _=>default) D) (iP w.heap.size) (fun _=>default) (iQ cvs t) ((us[t]?).getD Go.undef):=by
  intro cvs us hu t;have hDD:∀ b,DD (iP w.heap.size) (fun _=>default) D b→D b:=by
   intro b hb;rcases hb with hb|⟨k,hm,_⟩
   ·exact hb
   ·exact(zL k hm).elim
  induction cvs generalizing us t with
  | nil =>
   match us,hu with
   | [],_=>simp[iQ,aj]
  | cons c cs ih =>
   match us,hu with
   | u::us,hu =>
    cases t with
    | zero=>simp only[iQ,List.map_cons,List.getElem?_cons_zero,Option.getD_some];exact(hu.1.mono (bD.of_sub hDD)).av
    | succ t=>simpa only[iQ,List.map_cons,List.getElem?_cons_succ] using ih us hu.2 t
 have a4Y:∀ h c,iP w.heap.size h=c→c=.none∨c=.mrk w.heap.size:=fun h c hc=>by
  unfold iP at hc;split at hc
  ·exact .inr hc.symm
  ·exact .inl hc.symm
 have R0:Rel ⟨fun _ _=>False,false⟩ (fun _=>False) w D fn.ntmps (iQ args) (iP w.heap.size) (fun _=>default) { tmps:=vs.toArray++Array.replicate (fn.ntmps-vs.toArray.size) Go.undef,defers:=[] } w:=by
  refine⟨rfl,rfl,rfl,Nat.le_refl _,fun _ _ _=>rfl,fun b hb=>⟨hD b hb,fun h=>h⟩,by simp;omega,fun d hd=>(by cases hd),fun h=>(by cases h),List.nodup_nil,fun _ _ h=>h.elim,fun t=>?_,fun h st e sz rows hh=>(by rcases a4Y _ _ hh with h|h<;>cases h),fun h st e sz rows hh=>(by rcases a4Y _ _ hh with h|h<;>cases h),fun h h' _ hm=>(zL h hm).elim,fun h st e rows hh=>(by rcases a4Y _ _ hh with h|h<;>cases h),fun h B hh=>(by
   rcases a4Y _ _ hh with h|h
   ·cases h
   ·injection h with h;rw[h];exact Nat.le_refl _),fun h x v hh=>(by rcases a4Y _ _ hh with h|h<;>cases h)⟩
  have e:(vs.toArray++Array.replicate (fn.ntmps-vs.toArray.size) Go.undef).getD t Go.undef=(vs[t]?).getD Go.undef:=by
   rw[Array.getD_eq_getD_getElem?,Array.getElem?_append];split
   ·simp
   ·rename_i ht;simp only[List.size_toArray,Nat.not_lt]at ht;rw[List.getElem?_eq_none ht];simp only[Array.getElem?_replicate];split<;>rfl
  rw[e];exact hcv args vs hvs t
 refine wpIn_mono (Yp hm rfl hd (h w.heap.size) R0) fun e a w' hq=>?_
 have fin:∀ f H β,Opn w.heap.size (a1M P fn.results.toList w.heap.size R) f H→Rel ⟨fun _ _=>False,false⟩ (fun _=>False) w D fn.ntmps f H β a w' →
   LeavesInM Fence.wide 0 P fn a.tmps (fun e w'=>∃ v,e=.returned v∧Below w.heap.size w w'∧∃ us res,v=oU us∧R w.heap.size w'.heap.size res∧dM w' D res us) a.defers .returning w':=by
  intro f H β hr R0;refine rV a.defers _ w' R0.defers R0.Lh R0.size fun w2 h1 h2 h3 h4 h5=>?_;have g2:bD w' (DD H β D) w2 (DD H β D):=⟨Nat.le_of_eq h4.symm,fun _ _ h=>h,fun b _ _ hc=>h5 b (.inr hc)⟩;have R1:Rel ⟨fun _ _=>False,false⟩ (fun _=>False) w D fn.ntmps f H β { a with defers:=[] } w2 :=
   ⟨h1.trans R0.os,h2.trans R0.tape,h3.trans R0.output,by rw[h4];exact R0.size,fun k hk _=>(h5 k (.inl hk)).trans (R0.keep k hk (fun h=>h)),R0.old,R0.kW,fun d hd=>(by cases hd),fun h=>(by cases h),List.nodup_nil,fun _ _ h=>h.elim,
    fun t=>aj.mono g2 (gI.refl _ _) _ _ (R0.tmps t),
    fun h st e sz rows hh=>(R0.own h st e sz rows hh).mono g2 fun k hk=>by obtain⟨cur,e',hc⟩:=R0.dW (by rw[hh];trivial) hk;exact h5 k (.inr ⟨_,hc,rfl⟩),
    fun h st e sz rows hh=>⟨(R0.frz h st e sz rows hh).1,(R0.frz h st e sz rows hh).2.1.mono g2,(R0.frz h st e sz rows hh).2.2⟩,R0.dis,
    fun h st e rows hh=>(R0.nst h st e rows hh).mono g2 (gI.refl _ _) fun k hk=>by obtain⟨cur,e',hc⟩:=R0.dW (by rw[hh];trivial) hk;exact h5 k (.inr ⟨_,hc,rfl⟩),fun h B hh=>by rw[h4];exact R0.mrk h B hh,fun h x v hh=>aj.mono g2 (gI.refl _ _) _ _ (R0.tie h x v hh)⟩
  clear h1 h2 h3 h4 h5;obtain⟨f',H',β',⟨B,cs,hB,a8T,hR⟩,R2⟩:=Rel.opn hr R1;obtain⟨us,h1',h2,h3,_⟩:=tN R2 _ _ _ a8T;refine⟨_,kM h1',_,rfl,⟨R2.os,R2.tape,R2.output,R2.size,fun k hk=>R2.keep k hk (fun h=>h)⟩,us,cs,rfl,hR _ (R2.mrk _ _ hB),MK h2 fun k c v hc hv=>?_⟩;obtain⟨ms,_,hrep⟩:=h3 k c v (fun i e sz rows ho=>nomatch ho) hc hv;exact hrep.mono (bD.of_sub fun b hb=>.inl hb)
 cases e with
 | normal=>obtain⟨f,H,β,hk,R⟩:=hq;exact fin f H β hk R
 | ret=>obtain⟨f,H,β,hk,R⟩:=hq;exact fin f H β hk R
 | panic _=>exact hq.elim
 | outgrown=>exact hq.elim
 | exit id=>obtain⟨f,H,β,hk,R⟩:=hq;exact hk.elim
 | goto l=>obtain⟨f,H,β,hk,R⟩:=hq;exact hk.elim
def oZ (avs:List AV):Fr:=fun t=>(avs[t]?).getD .undef
def EK [Zi] (P:Program)(f:Fr)(H:Hp):List ResultVar→Option (Prop×AV)
 | []=>some (True,.dead)
 | [.tmp t]=>some (True,f t)
 | [.cell t ty]=>match pV (ti P ty) H (f t) with
  | some r=>some (r.c,r.v)
  | none=>none
 | _=>none
def a1P [Zi] (P:Program)(rs:List ResultVar)(Z:AV→Hp→Prop):Post
 | .ret,f,H=>∃ c x,EK P f H rs=some (c,x)∧c∧Z x H
 | .normal,f,H=>∃ c x,EK P f H rs=some (c,x)∧c∧Z x H
 | _,_,_=>False
theorem Gn {g : Nat} {vs : List Value} {w : World} {R : Value → World → Prop} {fn : Func} {body : Code} (hf : P.funcs[g]? = some fn) (hb : fn.body = some body) (hn : (fn.name == "runtime.NumGoroutine") = false)
  (h:body.wpIn (Wd none) 0 P (fun e a w'=>(e=.normal∨e=.ret)∧a.defers=[]∧∃ us,(fn.results.toList.mapM (rvS a.tmps)).run P w'=.ok us w'∧R (oU us) w') { tmps:=vs.toArray++Array.replicate (fn.ntmps-vs.toArray.size) Go.undef,defers:=[] } w):nG P g vs w R:=by
 refine .inl ⟨fn,hf,hn,by rw[hb];rfl,callsIn_wide.1 (callsIn_of_wp_marks (n:=0) (F:=Fence.wide) hf hb trivial ?_)⟩;refine wpIn_mono h fun e a w' hq=>?_;obtain⟨he,hd,us,hr,hR⟩:=hq;have fin:LeavesInM Fence.wide 0 P fn a.tmps (fun e w'=>∃ v,e=.returned v∧R v w') a.defers .returning w':=by
  rw[hd];exact⟨_,kM (a:=a) hr,_,rfl,hR⟩
 rcases he with rfl|rfl
 ·exact fin
 ·exact fin
theorem ACI.QZ {g : Nat} {avs : List AV} {H : Hp} {Z : AV → Hp → Prop} {fn : Func} {body : Code} (hf : P.funcs[g]? = some fn) (hb : fn.body = some body) (hn : (fn.name == "runtime.NumGoroutine") = false)
  (hargs:avs.length≤fn.ntmps) (hne:∃ x H',Z x H') (hs:∀ (G:Gh) (M:Nat→Prop) (w0:World) (D0:Nat→Prop) (β:Nat→Value) (a:Act) (w:World),Rel G M w0 D0 fn.ntmps (oZ avs) H β a w→body.wpIn (Wd none) 0 P (Conc G M w0 D0 fn.ntmps (a1P P fn.results.toList Z)) a w):ACI P g avs H Z:=by
 refine⟨hne,?_⟩;intro G M w0 D0 N f β a w vs R hall;refine Gn hf hb hn ?_;have hlen:avs.length=vs.length:=pR hall;have ht:∀ t,aj w (DD H β D0) H β (oZ avs t) ((vs.toArray++Array.replicate (fn.ntmps-vs.toArray.size) Go.undef).getD t Go.undef):=by
  intro t;have e:(vs.toArray++Array.replicate (fn.ntmps-vs.toArray.size) Go.undef).getD t Go.undef=(vs[t]?).getD Go.undef:=by
   rw[Array.getD_eq_getD_getElem?,Array.getElem?_append];split
   ·simp
   ·rename_i ht;simp only[List.size_toArray,Nat.not_lt]at ht;rw[List.getElem?_eq_none ht];simp only[Array.getElem?_replicate];split<;>rfl
  rw[e];have key:∀ (avs:List AV) (vs:List Value) (t:Nat),jg w (DD H β D0) H β avs vs→aj w (DD H β D0) H β ((avs[t]?).getD .undef) ((vs[t]?).getD Go.undef):=by
   intro avs
   induction avs with
   | nil=>intro vs t h;cases h;simp[aj]
   | cons x xs ih =>
    intro vs t h;cases h with
    | cons hx hxs =>
     cases t with
     | zero=>simpa using hx
     | succ t=>simpa using ih _ t hxs
  exact key avs vs t hall
 have R0:=R.enter (f0:=oZ avs) (a0:={ tmps:=vs.toArray++Array.replicate (fn.ntmps-vs.toArray.size) Go.undef,defers:=[] }) (N':=fn.ntmps) (by simp;omega) rfl ht;refine wpIn_mono (hs _ _ _ _ _ _ _ R0) fun e a' w' hq=>?_;have fin:∀ f1 H1 β1,(∃ c x,EK P f1 H1 fn.results.toList=some (c,x)∧c∧Z x H1)→Rel (G6 f a G) (Mut H β) w D0 fn.ntmps f1 H1 β1 a' w'→a'.defers=[]∧∃ us,(fn.results.toList.mapM (rvS a'.tmps)).run P w'=.ok us w'∧∃ x H' β',Z x H'∧Rel G M w0 D0 N f H' β' a w'∧aj w' (DD H' β' D0) H' β' x (oU us):=by
  rintro f1 H1 β1 ⟨c,x,hres,hc,hz⟩ R1;refine⟨R1.rnd rfl,?_⟩;have R2:=R.leave R1;unfold EK at hres;split at hres
  ·rename_i heq;injection hres with hres;injection hres with e1 e2;subst e2;rw[heq];exact⟨[],rfl,_,_,β1,hz,R2,by simp[aj]⟩
  ·rename_i t heq;injection hres with hres;injection hres with e1 e2;subst e2;rw[heq];exact⟨[a'.tmps.getD t Go.undef],by simp[List.mapM_cons,rvS],_,_,β1,hz,R2,R1.tmps t⟩
  ·rename_i t ty heq;split at hres
   ·rename_i r hr;injection hres with hres;injection hres with e1 e2;subst e1 e2;rw[heq];have hx:=R1.tmps t;obtain⟨_,_,u,hu,hrep⟩:=iw R1 hx hr hc;have:∃ ad,a'.tmps.getD t Go.undef=.pointer (some ad):=by
     cases hft:f1 t<;>rw[hft]at hx hr<;>simp only[pV,reduceCtorEq]at hr<;>simp only[aj]at hx
     ·obtain⟨g,o,h,_⟩:=hx;exact⟨_,h⟩
     ·rename_i h st i off;split at hr
      ·rename_i hH;have hst:st=(H1 h).stamp:=by
        rw[hH];simp only[HC.stamp];split at hr<;>(injection hr with hr;subst hr;exact hc.2.1)
       obtain⟨g,n,cap,_,h⟩:=hx.2 hst;exact⟨_,h⟩
      ·rename_i hH;have hst:st=(H1 h).stamp:=by
        rw[hH];simp only[HC.stamp];split at hr
        ·injection hr with hr;subst hr;exact hc.2.1
        ·split at hr
         ·injection hr with hr;subst hr;exact hc.2.1
         ·cases hr
       obtain⟨g,n,cap,_,h⟩:=hx.2 hst;exact⟨_,h⟩
      ·cases hr
    obtain⟨ad,had⟩:=this;rw[had]at hu;have hrun:(rvS a'.tmps (.cell t ty)).run P w'=.ok u w':=by
     simp only[rvS,had,asAddr,Sem.run_bind,Sem.run_pure,Result.andThen_ok];simpa [Instr.loadAt,Instr.sureAddr] using hu
    exact⟨[u],by simp[List.mapM_cons,hrun,Result.andThen],_,_,β1,hz,R2,hrep⟩
   ·cases hres
  ·cases hres
 cases e with
 | normal=>obtain⟨f1,H1,β1,hk,R1⟩:=hq;exact⟨.inl rfl,fin f1 H1 β1 hk R1⟩
 | ret=>obtain⟨f1,H1,β1,hk,R1⟩:=hq;exact⟨.inr rfl,fin f1 H1 β1 hk R1⟩
 | panic _=>exact hq.elim
 | outgrown=>exact hq.elim
 | exit id=>obtain⟨f1,H1,β1,hk,R1⟩:=hq;exact hk.elim
 | goto l=>obtain⟨f1,H1,β1,hk,R1⟩:=hq;exact hk.elim
theorem ACI.qA {g : Nat} {avs : List AV} {H : Hp} {Z : AV → Hp → Prop} (hm : P.follows .mixedOrders = true) {fn : Func} {body : Code} (hf : P.funcs[g]? = some fn) (hb : fn.body = some body) (hn : (fn.name == "runtime.NumGoroutine") = false)
  (hd:codeOk fn.ntmps body=true) (hnr:dF body=true) (hargs:avs.length≤fn.ntmps) (hne:∃ x H',Z x H') (h:AW P body (a1P P fn.results.toList Z) (oZ avs) H):ACI P g avs H Z :=
 ACI.QZ hf hb hn hargs hne fun G M w0 D0 β a w R=>dN hm body none _ _ _ _ _ _ _ _ w (.inl hnr) hd h R
end
end Go.AL

namespace Go.AL
variable {zi:Zi}
open Go.RowKit
set_option linter.unusedSimpArgs false
set_option linter.unusedVariables false
def jK (r:Option AR)(d:Option Nat)(K:Fr→Hp→Log→Prop)(f:Fr)(H:Hp)(lg:Log):Prop :=
 match r with
 | some r=>r.c∧K (ji f d r.v) (bU r.hs (aC r.fz H)) ((r.rd++r.fz++r.hs.map (·.1),r.fz++r.hs.map (·.1))::lg)
 | none=>False
section
variable {P:Program} {ds:List (Option Nat)} {rest:List Oper} {K:Fr→Hp→Log→Prop} {f:Fr} {H:Hp} {lg:Log} {d:Option Nat} {ty:Nat} {pos:String} {af:Array Edge}
theorem a2d:eP P ds [] K f H lg=K f H lg:=rfl
theorem YT {x:Operand}:eP P ds (⟨d,.move x,ty,pos,af,none⟩::rest) K f H lg=match zi.st with
  | .both=>eP P ds rest K (ji f d (oP (ev f x))) H (([],[])::lg)
  | .strip=>eP P ds rest K (ji f d (ev f x)) H (([],[])::lg)
  | .no=>eP P ds rest K (ji f d (ev f x)) H (([],[])::lg)
  | .al _=>eP P ds rest K (ji f d (ev f x)) H (([],[])::lg):=by
 cases d<;>simp only[eP,JB,lZ,a7S]<;>cases zi.st<;>simp[bU,aC]
theorem Qp {x:Operand}:eP P ds (⟨d,.assign x,ty,pos,af,none⟩::rest) K f H lg=eP P ds rest K (ji f d (ev f x)) H (([],[])::lg):=by
 cases d<;>simp[eP,JB,lZ,bU,aC]
theorem YS {c x y:Operand}:eP P ds (⟨d,.pick c x y,ty,pos,af,none⟩::rest) K f H lg=jK (match ev f c with | .iv (.bool b)=>some ⟨True,if b then ev f x else ev f y,[],[],[]⟩|_=>none) d (eP P ds rest K) f H lg:=by
 cases d<;>rfl
theorem UU {e d:Nat}:eP P ds (⟨some d,.alloc e,ty,pos,af,none⟩::rest) K f H lg=jK (sN (ti P e) H e d) (some d) (eP P ds rest K) f H lg:=rfl
theorem a2e {e d:Nat}{x:Operand}:eP P ds (⟨some d,.box e x,ty,pos,af,none⟩::rest) K f H lg=jK (Nl (ti P e) H e d (ev f x)) (some d) (eP P ds rest K) f H lg:=rfl
theorem UQ {t:Nat}{ps:List (Nat×Operand)}:eP P ds (⟨d,.build t ps.toArray,ty,pos,af,none⟩::rest) K f H lg=jK (Ag (ti P t) H (ps.map (·.1)) (ps.map fun p=>ev f p.2)) d (eP P ds rest K) f H lg:=by
 cases d<;>rfl
theorem EF {t n d:Nat}{ps:List (Nat×Operand)}:eP P ds (⟨some d,.buildSlice t n ps.toArray,ty,pos,af,none⟩::rest) K f H lg=match zi.bs d with
  | true=>Jy P t n (ps.map (·.1)) (ps.map fun p=>ev f p.2) d (eP P ds rest K) f H lg
  | false=>jK (match (ti P t).desc with | .sl e=>iq (ti P e) H e d n (ps.map (·.1)) (ps.map fun p=>ev f p.2)|_=>none) (some d) (eP P ds rest K) f H lg:=by
 simp only[eP,JB,lZ];cases zi.bs d
 ·unfold jK;cases (ti P t).desc<;>rfl
 ·rfl
theorem YU {t:Nat}{x:Operand}:eP P ds (⟨d,.load t x,ty,pos,af,none⟩::rest) K f H lg=match zi.st with
  | .strip=>jK (match pV (ti P t) H (ev f x) with|some r=>some ⟨r.c,oP r.v,r.fz,r.hs,r.rd⟩|none=>none) d (eP P ds rest K) f H lg
  | .both=>jK (match pV (ti P t) H (ev f x) with|some r=>some ⟨r.c,oP r.v,r.fz,r.hs,r.rd⟩|none=>none) d (eP P ds rest K) f H lg
  | .no=>jK (pV (ti P t) H (ev f x)) d (eP P ds rest K) f H lg
  | .al g=>jK (FV g (ti P t) H (ev f x)) d (eP P ds rest K) f H lg:=by
 simp only[eP,JB,lZ,a0O];cases zi.st<;>cases d<;>rfl
theorem UJ {t:Nat}{x y:Operand}:eP P ds (⟨d,.store t x y,ty,pos,af,none⟩::rest) K f H lg=jK (sJ (ti P t) H (ev f x) (ev f y)) d (eP P ds rest K) f H lg:=by cases d<;>rfl
theorem Ju {x:Operand}:eP P ds (⟨d,.nilCheck x,ty,pos,af,none⟩::rest) K f H lg=jK (a2T H (ev f x)) d (eP P ds rest K) f H lg:=by cases d<;>rfl
theorem UR {op:BinOp}{t yt:Nat}{x y:Operand}:eP P ds (⟨d,.binOp op t x y yt,ty,pos,af,none⟩::rest) K f H lg=jK (a7v (ti P t) op (ev f x) (ev f y)) d (eP P ds rest K) f H lg:=by cases d<;>rfl
theorem YR {op:UnOp}{t:Nat}{x:Operand}:eP P ds (⟨d,.unOp op t x,ty,pos,af,none⟩::rest) K f H lg=jK (aUn op (ev f x)) d (eP P ds rest K) f H lg:=by cases d<;>rfl
theorem NM {s t:Nat}{x:Operand}:eP P ds (⟨d,.convert s t x,ty,pos,af,none⟩::rest) K f H lg=jK (Yv (ti P t) (ti P s) (ev f x)) d (eP P ds rest K) f H lg:=by cases d<;>rfl
theorem F7 {t d:Nat}{x y:Operand}:eP P ds (⟨some d,.makeSlice t x y,ty,pos,af,none⟩::rest) K f H lg=jK (match (ti P t).desc with | .sl e=>Na (ti P e) H e d (ev f x) (ev f y)|_=>none) (some d) (eP P ds rest K) f H lg:=by
 simp only[eP,JB,lZ];unfold jK;cases (ti P t).desc<;>rfl
theorem UK {t:Nat}{x:Operand}{lo hi:Option Operand}:eP P ds (⟨d,.slice t x lo hi none,ty,pos,af,none⟩::rest) K f H lg=jK (match (ti P t).desc with | .sl e=>Ae (ti P e).size (ti P e).ok H (EG (ev f x)) (lo.map (ev f)) (hi.map (ev f))|_=>none) d (eP P ds rest K) f H lg:=by cases d<;>rfl
theorem F9 {s i:Nat}{x:Operand}:eP P ds (⟨d,.fieldAddr s x i,ty,pos,af,none⟩::rest) K f H lg=jK (jS (ti P s) i H (ev f x)) d (eP P ds rest K) f H lg:=by cases d<;>rfl
theorem F8 {t:Nat}{x i:Operand}:eP P ds (⟨d,.indexAddr t x i,ty,pos,af,none⟩::rest) K f H lg=jK (match (ti P t).desc with | .sl e=>Af (ti P e).size (ti P e).ok H (EG (ev f x)) (ev f i) | .arr n e=>sK n (ti P e).size (ti P e).ok H (ev f x) (ev f i)|_=>none) d (eP P ds rest K) f H lg:=by cases d<;>rfl
theorem UL {t:Nat}{x i:Operand}:eP P ds (⟨d,.index t x i,ty,pos,af,none⟩::rest) K f H lg=jK (Eo P t (ev f x) (ev f i)) d (eP P ds rest K) f H lg:=by cases d<;>rfl
theorem NK {x:Operand}{i:Nat}:eP P ds (⟨d,.extract x i,ty,pos,af,none⟩::rest) K f H lg=jK (xR i (ev f x)) d (eP P ds rest K) f H lg:=by cases d<;>rfl
theorem UN {s i:Nat}{x:Operand}:eP P ds (⟨d,.field s x i,ty,pos,af,none⟩::rest) K f H lg=jK (xQ (a7Z P s i) (ev f x)) d (eP P ds rest K) f H lg:=by cases d<;>rfl
theorem Uu {o sz:Nat}{cells:List IV}:xQ (some (o,sz,true)) (.agg cells)=some ⟨o+sz≤cells.length,.agg ((cells.drop o).take sz),[],[],[]⟩:=rfl
theorem Ut {o sz:Nat}{cells:List IV}:xQ (some (o,sz,false)) (.agg cells)=some ⟨o<cells.length,.iv (cells.getD o default),[],[],[]⟩:=rfl
theorem NP {b:Builtin}{xs:List Operand}{ts:List Nat}:eP P ds (⟨d,.call ⟨.builtin b,xs.toArray,ts.toArray⟩,ty,pos,af,none⟩::rest) K f H lg=jK (qJ P b H d (xs.map (ev f)) ts) d (eP P ds rest K) f H lg:=by cases d<;>rfl
theorem YV {g d:Nat}{xs:List Operand}{ts:Array Nat}:eP P ds (⟨some d,.call ⟨.value (.func g),xs.toArray,ts⟩,ty,pos,af,none⟩::rest) K f H lg=jr P g (xs.map (ev f)) d (eP P ds rest K) f H lg:=by
 show yg P (ev f (.func g)) (xs.map (ev f)) d (eP P ds rest K) f H lg=_;simp only[ev,yg,List.append_nil]
theorem UO {t d:Nat}{xs:List Operand}{ts:Array Nat}:eP P ds (⟨some d,.call ⟨.value (.tmp t),xs.toArray,ts⟩,ty,pos,af,none⟩::rest) K f H lg=yg P (f t) (xs.map (ev f)) d (eP P ds rest K) f H lg:=rfl
theorem Z5 {g d:Nat}{l xs:List AV}{K:Fr→Hp→Log→Prop}:yg P (.fn g l) xs d K f H lg=jr P g (xs++l) d K f H lg:=rfl
theorem Jv {g:Nat}{xs:List Operand}:eP P ds (⟨d,.makeFunc (.func g) (List.toArray []) xs.toArray,ty,pos,af,none⟩::rest) K f H lg=eP P ds rest K (ji f d (.fn g (xs.map (ev f)))) H (([],[])::lg):=by
 cases d<;>simp[eP,JB,lZ,bU,aC]
theorem a5i (f:Fr)(g:Nat):ev f (.func g)=.fn g []:=rfl
theorem MV {t n d:Nat}{idx:List Nat}{xs:List AV}{e B:Nat}{c:Prop}{css:List (List IV)}{fz:List Nat}(ht:(ti P t).desc=.sl e)(htp:kX H xs=some (c,css,fz))(hc:c∧(ti P e).ok=true∧(ti P e).zok=true∧n*(ti P e).size≤16777216∧(∀ cs∈css,cs.length=(ti P e).size)∧idx=List.range n)(hB:H 999=.mrk B)
  (hk:∀ B' E b,B≤B'→B'≤E→(b=none→css=[])→(∀ g cap,b=some (g,cap)→B'≤g∧g<E∧g∉bf css)→K (upd f d (.iv (.own b e (ti P e).size css))) (bg (aC fz H) 999 (.mrk E)) ((999::fz,fz++[999])::lg)):Jy P t n idx xs d K f H lg :=
 ⟨e,c,css,fz,B,ht,htp,hc,hB,hk⟩
def Ai (v:Option AV)(want:Bool)(yes no:Prop):Prop :=
 match v with
 | some (.iv (.bool b))=>if b=want then yes else no
 | some .undef=>no
 | _=>False
theorem UM {op:Op}{j:Nat}{want:Bool}:eP P ds (⟨d,op,ty,pos,af,some (j,want)⟩::rest) K f H lg=Ai ((ds.getD j none).map f) want (eP P ds (⟨d,op,ty,pos,af,none⟩::rest) K f H lg) (eP P ds rest K (ji f d .undef) H (([],[])::lg)):=rfl
theorem YW {yes no:Prop}:Ai (some (.iv (.bool true))) true yes no=yes:=rfl
theorem Z4 {yes no:Prop}:Ai (some (.iv (.bool false))) false yes no=yes:=rfl
theorem YX {yes no:Prop}:Ai (some (.iv (.bool true))) false yes no=no:=rfl
theorem YZ {yes no:Prop}:Ai (some (.iv (.bool false))) true yes no=no:=rfl
theorem NQ {want:Bool}{yes no:Prop}:Ai (some .undef) want yes no=no:=rfl
theorem UG {v:AV}{fz:List Nat}{hs:List (Nat×HC)}{rd:List Nat}:jK (some ⟨True,v,fz,hs,rd⟩) d K f H lg=K (ji f d v) (bU hs (aC fz H)) ((rd++fz++hs.map (·.1),fz++hs.map (·.1))::lg):=by simp[jK]
theorem a2c {c:Prop}{v:AV}{fz:List Nat}{hs:List (Nat×HC)}{rd:List Nat}(hc:c):jK (some ⟨c,v,fz,hs,rd⟩) d K f H lg=K (ji f d v) (bU hs (aC fz H)) ((rd++fz++hs.map (·.1),fz++hs.map (·.1))::lg):=by simp[jK,hc]
end
theorem ah {P:Program}{g:Nat}{avs:List AV}{d:Nat}{K:Fr→Hp→Log→Prop}{f:Fr}{H:Hp}{lg:Log}{c:Prop}{args:List CV}{ms:List Nat}{own:gY}{res:List CV}
  (hac:AC P g args own res) (ht:gQ H avs=some (c,args,ms)) (hc:c)
  (hk:K (upd f d (lS (rAV (aC ms H) d own 0 res))) (bU (EH (aC ms H) d own) (aC ms H)) ((ms++(EH (aC ms H) d own).map (·.1),ms++(EH (aC ms H) d own).map (·.1))::lg)):jr P g avs d K f H lg :=
 .inl ⟨c,args,ms,own,res,true,.inl ht,hc,hac,by simp,hk⟩
theorem Eh {P:Program}{g:Nat}{avs:List AV}{d:Nat}{K:Fr→Hp→Log→Prop}{f:Fr}{H:Hp}{lg:Log}{c:Prop}{args:List CV}{ms:List Nat}{own:gY}{res:List CV}
  (hac:AC P g args own res) (ht:gQ H avs=some (c,args,ms)) (hc:c) (hf:ms=[]∨sO own res)
  (hk:K (upd f d (lS (rAV H d own 0 res))) (bU (EH H d own) H) ((ms++(EH H d own).map (·.1),(EH H d own).map (·.1))::lg)):jr P g avs d K f H lg :=
 .inl ⟨c,args,ms,own,res,false,.inl ht,hc,hac,fun _=>hf,hk⟩
theorem a1F {P:Program}{g:Nat}{avs:List AV}{d:Nat}{K:Fr→Hp→Log→Prop}{f:Fr}{H:Hp}{lg:Log}{c:Prop}{args:List CV}{ms:List Nat}{own:gY}{res:List CV}
  (hac:AC P g args own res) (ht:uN H avs=some (c,args,ms)) (hc:c)
  (hk:K (upd f d (lS (rAV (aC ms H) d own 0 res))) (bU (EH (aC ms H) d own) (aC ms H)) ((ms++(EH (aC ms H) d own).map (·.1),ms++(EH (aC ms H) d own).map (·.1))::lg)):jr P g avs d K f H lg :=
 .inl ⟨c,args,ms,own,res,true,.inr ht,hc,hac,by simp,hk⟩
theorem a1E {P:Program}{g:Nat}{avs:List AV}{d:Nat}{K:Fr→Hp→Log→Prop}{f:Fr}{H:Hp}{lg:Log}{c:Prop}{args:List CV}{ms:List Nat}{i h st e sz:Nat}{rows rows':List (List IV)}{res:List CV}
  (hac:ACW P g args i e sz rows rows' res) (hi:avs[i]?=some (.hs h st)) (hH:H h=.blk false st e sz rows) (ht:gQ H (avs.set i .dead)=some (c,args,ms)) (hc:c) (hm:h∉ms)
  (hk:K (upd f d (lS (res.map CV.av))) (bg (aC ms H) h (.blk false st e sz rows')) ((h::ms,ms++[h])::lg)):jr P g avs d K f H lg :=
 .inr (.inl ⟨c,args,ms,i,h,st,e,sz,rows,rows',res,hi,hH,ht,hc,hm,hac,hk⟩)
theorem uH {P:Program}{g:Nat}{avs:List AV}{d:Nat}{K:Fr→Hp→Log→Prop}{f:Fr}{H:Hp}{lg:Log}{c:Prop}{args:List CV}{ms:List Nat}{i h st e sz:Nat}{rows rows':List (List IV)}
  (hac:ACT P g args i e sz rows rows') (hi:avs[i]?=some (.hs h st)) (hH:H h=.blk false st e sz rows) (ht:gQ H (avs.set i .dead)=some (c,args,ms)) (hc:c) (hm:h∉ms)
  (hk:K (upd f d (.hs h (st+1))) (bg (aC ms H) h (.blk false (st+1) e sz rows')) ((h::ms,ms++[h])::lg)):jr P g avs d K f H lg :=
 .inr (.inr (.inl ⟨c,args,ms,i,h,st,e,sz,rows,rows',hi,hH,ht,hc,hm,hac,hk⟩))
theorem aK {P:Program}{g:Nat}{avs:List AV}{d:Nat}{K:Fr→Hp→Log→Prop}{f:Fr}{H:Hp}{lg:Log}{c:Prop}{args:List CV}{ms:List Nat}{B:Nat}{R:Nat→Nat→List CV→Prop}
  (hac:ACX P g args R) (ht:gQ H avs=some (c,args,ms)) (hc:c) (hB:H 999=.mrk B)
  (hk:∀ B' E res,B≤B'→B'≤E→R B' E res→K (upd f d (lS (res.map CV.av))) (bg (aC ms H) 999 (.mrk E)) ((999::ms,ms++[999])::lg)):jr P g avs d K f H lg :=
 .inr (.inr (.inr (.inl ⟨c,args,ms,B,R,ht,hc,hB,hac,hk⟩)))
theorem Bz {P:Program}{g:Nat}{avs:List AV}{d:Nat}{K:Fr→Hp→Log→Prop}{f:Fr}{H:Hp}{lg:Log}{Z:AV→Hp→Prop}(hac:ACI P g avs H Z)(hk:∀ x H',Z x H'→K (upd f d x) H' (([],[998])::lg)):jr P g avs d K f H lg :=
 .inr (.inr (.inr (.inr (.inl ⟨Z,hac,hk⟩))))
theorem Ja {P:Program}{g:Nat}{avs:List AV}{d:Nat}{K:Fr→Hp→Log→Prop}{f:Fr}{H:Hp}{lg:Log}{rd:List Nat}{R:AV→List (Nat×HC)→Prop}(hac:ACF P g avs H rd R)
  (hk:∀ x hs,R x hs→(∀ k∈hs.map (·.1),k∈rd)∧999∈hs.map (·.1)∧K (upd f d x) (bU hs H) ((rd,hs.map (·.1))::lg)):jr P g avs d K f H lg :=
 .inr (.inr (.inr (.inr (.inr ⟨rd,R,hac,hk⟩))))
theorem a4F {P:Program}{c:Code}{Q:Post}{f:Fr}{H:Hp}(I:Fr→Hp→Prop)(μ:Fr→Hp→Nat)(h0:I f H)(hr:∀ f H,I f H→AW P c (EC I μ (μ f H) Q) f H):AW P (.loop c) Q f H :=
 ⟨I,μ,⟨f,H,.refl f H,h0⟩,hr⟩
theorem a0N {P:Program}{c:Code}{Q:Post}{f:Fr}{H:Hp}(t h e sz:Nat)(ht:f t=.jA)(I:Fr→Hp→Prop)(μ:Fr→Hp→Nat)(h0:I (fB f H t h) (fM H h e sz))(hr:∀ f H,I f H→AW P c (EC I μ (μ f H) Q) f H):AW P (.loop c) Q f H :=
 ⟨I,μ,⟨_,_,.nil t h e sz ht (.refl _ _),h0⟩,hr⟩
theorem a5s (k:IntKind)(n:Int):Za (.int k n)=.iv (.int k n):=rfl
theorem a1A (b:Bool):Za (.bool b)=.iv (.bool b):=rfl
theorem a5r:Za (.slice none 0 0)=.jA:=rfl
theorem a7k (f:Fr)(t:Nat):ev f (.tmp t)=f t:=rfl
theorem a1t (f:Fr)(v:Value):ev f (.const v)=Za v:=rfl
theorem a6m (f:Fr)(t:Nat)(v:AV)(u:Nat):upd f t v u=if u=t then v else f u:=rfl
theorem BL (H:Hp)(h:Nat)(c:HC)(u:Nat):bg H h c u=if u=h then c else H u:=rfl
theorem Vd (f:Fr)(t:Nat)(v:AV):ji f (some t) v=upd f t v:=rfl
theorem Ve (f:Fr)(v:AV):ji f none v=f:=rfl
theorem a1g (args:List CV)(t:Nat):iQ args t=((args.map CV.av)[t]?).getD .undef:=rfl
theorem a1f (h:Nat):yR h=.none:=rfl
def a1L [Zi] (P:Program)(y:Code)(Q:Post):Post:=JA (AW P y Q) Q
def zh [Zi] (P:Program)(v:AV)(x y:Code)(Q:Post)(f:Fr)(H:Hp):Prop:=a5V v (AW P x Q f H) (AW P y Q f H)
def Jw [Zi] (P:Program)(c:Code)(Q:Post)(f:Fr)(H:Hp):Prop:=AW P (.loop c) Q f H
def YQ [Zi] (P:Program)(g:Operand)(ps:List Nat)(x y:Code)(Q:Post)(f:Fr)(H:Hp):Prop:=AW P (.rangeFunc g ps.toArray x y) Q f H
def a9p [Zi] (P:Program)(y:Code)(I:Nat→Hp→Prop)(J:Code→Hp→Prop)(k:Nat):Post:=a9o fun f H=>AW P y (uV I J k) f H
def Zc [Zi] (P:Program)(rs:List ResultVar)(own:gY)(res:List CV):Post:=a9k P rs own res
def YC [Zi] (P:Program)(rs:List ResultVar)(i e sz:Nat)(rows':List (List IV))(res:List CV):Post:=a7x P rs i e sz rows' res
def YE (rs:List ResultVar)(i e sz:Nat)(rows':List (List IV)):Post:=a7y rs i e sz rows'
def YA [Zi] (P:Program)(rs:List ResultVar)(B:Nat)(R:Nat→Nat→List CV→Prop):Post:=a7w P rs B R
def Jo [Zi] (P:Program)(rs:List ResultVar)(Z:AV→Hp→Prop):Post:=a1P P rs Z
def UH [Zi] (P:Program)(rs:List ResultVar)(Z:AV→Hp→Prop)(f:Fr)(H:Hp):Prop:=∃ c x,EK P f H rs=some (c,x)∧c∧Z x H
def a2f [Zi] (P:Program)(rs:List ResultVar)(B:Nat)(R:Nat→Nat→List CV→Prop)(f:Fr)(H:Hp):Prop:=Opn B (a1M P rs B R) f H
def Ns (ops:Array Oper):Prop:=Fg ops=true
def UE (ops:Array Oper)(lg:Log):Prop:=EM ops lg.reverse=true
section
variable {P:Program} {Q:Post} {K:Fr→Hp→Log→Prop} {f f':Fr} {H H':Hp} {lg:Log}
theorem a5N:AW P .skip Q f H=Q .normal f H:=by rw[AW]
theorem YO {id:Nat}{l:List Oper}:AW P (.region id l.toArray false) Q f H=eP P (l.map (·.dst)) l (NC Q) f H []:=by rw[AW];rfl
theorem a2a {id:Nat}{l:List Oper}:AW P (.region id l.toArray true) Q f H=((Ns l.toArray∧eP P (l.map (·.dst)) l (a5H l.toArray Q) f H [])∨∃ ord inv,KZ l ord inv=true∧Ns (kZ l ord inv).toArray∧eP P ((kZ l ord inv).map (·.dst)) (kZ l ord inv) (a5H (kZ l ord inv).toArray Q) f H []):=by rw[AW];rfl
theorem a7I {x y:Code}:AW P (.seq x y) Q f H=AW P x (a1L P y Q) f H:=by rw[AW];rfl
theorem a5Q {c:Operand}{x y:Code}:AW P (.cond c x y) Q f H=zh P (ev f c) x y Q f H:=by rw[AW];rfl
theorem a2b {id:Nat}{c:Code}:AW P (.block id c) Q f H=AW P c (qV id Q) f H:=by rw[AW]
theorem a5O {c:Code}:AW P (.loop c) Q f H=Jw P c Q f H:=rfl
theorem a5P {id:Nat}:AW P (.exit id) Q f H=Q (.exit id) f H:=by rw[AW]
theorem a1X {c:Code}:AW P (.scope c) Q f H=AW P c (Eu Q) f H:=by rw[AW]
theorem a1Z {l:Nat}:AW P (.label l) Q f H=Q .normal f H:=by rw[AW]
theorem a1Y {g:Operand}{ps:List Nat}{x y:Code}:AW P (.rangeFunc g ps.toArray x y) Q f H=YQ P g ps x y Q f H:=rfl
theorem Qo {y:Code}{I:Nat→Hp→Prop}{J:Code→Hp→Prop}{k:Nat}:a9p P y I J k .normal f H=AW P y (uV I J k) f H:=rfl
theorem Jm {I:Nat→Hp→Prop}{J:Code→Hp→Prop}{k:Nat}:uV I J k .normal f H=I (k+1) H:=rfl
theorem UA {I:Nat→Hp→Prop}{J:Code→Hp→Prop}{k:Nat}:uV I J k .ret f H=J .ret H:=rfl
theorem Qj {I:Nat→Hp→Prop}{J:Code→Hp→Prop}{k i:Nat}:uV I J k (.exit i) f H=J (.exit i) H:=rfl
theorem a7J:AW P .ret Q f H=Q .ret f H:=by rw[AW]
theorem Qh {y:Code}:a1L P y Q .normal f H=AW P y Q f H:=rfl
theorem Yx {y:Code}{i:Nat}:a1L P y Q (.exit i) f H=Q (.exit i) f H:=rfl
theorem a1K {y:Code}:a1L P y Q .ret f H=Q .ret f H:=rfl
theorem Jt {i:Nat}:qV i Q .normal f H=Q .normal f H:=rfl
theorem Qn {i j:Nat}:qV i Q (.exit j) f H=if j=i then Q .normal f H else Q (.exit j) f H:=rfl
theorem UF {i:Nat}:qV i Q .ret f H=Q .ret f H:=rfl
theorem Jl:Eu Q .normal f H=Q .normal f H:=rfl
theorem Qi {i:Nat}:Eu Q (.exit i) f H=Q (.exit i) f H:=rfl
theorem Uz:Eu Q .ret f H=Q .ret f H:=rfl
theorem NG {I:Fr→Hp→Prop}{μ:Fr→Hp→Nat}{n:Nat}:EC I μ n Q .normal f H=(I f H∧μ f H<n):=rfl
theorem UD {I:Fr→Hp→Prop}{μ:Fr→Hp→Nat}{n i:Nat}:EC I μ n Q (.exit i) f H=Q (.exit i) f H:=rfl
theorem YJ {I:Fr→Hp→Prop}{μ:Fr→Hp→Nat}{n:Nat}:EC I μ n Q .ret f H=Q .ret f H:=rfl
theorem YI:NC Q f H lg=Q .normal f H:=rfl
theorem a5G {ops:Array Oper}:a5H ops Q f H lg=(UE ops lg∧Q .normal f H):=rfl
theorem a1Q {rs:List ResultVar}{own:gY}{res:List CV}:Zc P rs own res .ret f H=(KC P f H own 0 rs res∧(match own with|none=>True|some (i,_)=>i<res.length)):=rfl
theorem Qk {rs:List ResultVar}{own:gY}{res:List CV}:Zc P rs own res .normal f H=(KC P f H own 0 rs res∧(match own with|none=>True|some (i,_)=>i<res.length)):=rfl
theorem YB {rs:List ResultVar}{i e sz:Nat}{rows':List (List IV)}{res:List CV}:YC P rs i e sz rows' res .ret f H=(Aj P f H rs res∧H i=.blk false 1 e sz rows'):=rfl
theorem Nv {rs:List ResultVar}{i e sz:Nat}{rows':List (List IV)}{res:List CV}:YC P rs i e sz rows' res .normal f H=(Aj P f H rs res∧H i=.blk false 1 e sz rows'):=rfl
theorem YD {t:Nat}{i e sz:Nat}{rows':List (List IV)}:YE [.tmp t] i e sz rows' .ret f H=UC (f t) (H i) i e sz rows':=rfl
theorem Ny {t:Nat}{i e sz:Nat}{rows':List (List IV)}:YE [.tmp t] i e sz rows' .normal f H=UC (f t) (H i) i e sz rows':=rfl
theorem a1N {h st off len st' e' sz' i e sz:Nat}{rows rows':List (List IV)}:UC (.hv h st off len) (.blk false st' e' sz' rows) i e sz rows'=(h=i∧st=1∧st'=1∧off=0∧e'=e∧sz'=sz∧len≤rows.length∧rows'=rows.take len):=rfl
theorem a1O {h st st' e' sz' i e sz:Nat}{rows rows':List (List IV)}:UC (.hs h st) (.blk false st' e' sz' rows) i e sz rows'=(h=i∧st=1∧st'=1∧e'=e∧sz'=sz∧rows'=rows):=rfl
@[congr] theorem a5C {rs:List ResultVar} {i e sz:Nat} {rows':List (List IV)} {x:Exit}:YE rs i e sz rows' x f H=YE rs i e sz rows' x f H:=rfl
@[congr] theorem a5B {rs:List ResultVar} {i e sz:Nat} {rows':List (List IV)} {res:List CV} {x:Exit}:YC P rs i e sz rows' res x f H=YC P rs i e sz rows' res x f H:=rfl
theorem Yz {rs:List ResultVar}{B:Nat}{R:Nat→Nat→List CV→Prop}:YA P rs B R .ret f H=a2f P rs B R f H:=rfl
theorem Nu {rs:List ResultVar}{B:Nat}{R:Nat→Nat→List CV→Prop}:YA P rs B R .normal f H=a2f P rs B R f H:=rfl
@[congr] theorem a5A {rs:List ResultVar} {B:Nat} {R:Nat→Nat→List CV→Prop} {e:Exit}:YA P rs B R e f H=YA P rs B R e f H:=rfl
@[congr] theorem a6i {rs:List ResultVar} {B:Nat} {R:Nat→Nat→List CV→Prop} (hf:f=f') (hH:H=H'):a2f P rs B R f H=a2f P rs B R f' H':=by rw[hf,hH]
theorem YF {rs:List ResultVar}{Z:AV→Hp→Prop}:Jo P rs Z .ret f H=UH P rs Z f H:=rfl
theorem Nz {rs:List ResultVar}{Z:AV→Hp→Prop}:Jo P rs Z .normal f H=UH P rs Z f H:=rfl
@[congr] theorem a5D {rs:List ResultVar} {Z:AV→Hp→Prop} {e:Exit}:Jo P rs Z e f H=Jo P rs Z e f H:=rfl
@[congr] theorem a5S {rs:List ResultVar} {Z:AV→Hp→Prop} (hf:f=f') (hH:H=H'):UH P rs Z f H=UH P rs Z f' H':=by rw[hf,hH]
theorem wG {Z:AV→Hp→Prop}(h:Z .dead H):UH P [] Z f H:=⟨True,.dead,rfl,trivial,h⟩
theorem tV {Z:AV→Hp→Prop}{t:Nat}{x:AV}(ht:f t=x)(h:Z x H):UH P [.tmp t] Z f H:=⟨True,x,by simp only[EK,ht],trivial,h⟩
theorem aT {rs:List ResultVar}{B0 B:Nat}{R:Nat→Nat→List CV→Prop}(cs:List CV)(hB:H 999=.mrk B)(hr:KC P f H none 0 rs cs)(h:∀ E,B≤E→R B0 E cs):a2f P rs B0 R f H:=.done ⟨B,cs,hB,hr,h⟩
theorem lT {rs:List ResultVar}{B0:Nat}{R:Nat→Nat→List CV→Prop}(t e sz:Nat)(ht:f t=.jA)(h:a2f P rs B0 R (upd f t (.iv (.own none e sz []))) H):a2f P rs B0 R f H:=.jA t e sz ht h
theorem rP {rs:List ResultVar}{B0 B:Nat}{R:Nat→Nat→List CV→Prop}(t h st e sz:Nat)(rows:List (List IV))(ht:f t=.hs h st)(hH:H h=.blk false st e sz rows)(hB:H 999=.mrk B)
  (k:∀ b E,B≤E→Td B0 E f H rows b→a2f P rs B0 R (upd f t (.iv (.own b e sz rows))) (bg (bg H h (.blk true st e sz rows)) 999 (.mrk E))):a2f P rs B0 R f H:=.opn t h st e sz rows B ht hH hB k
@[congr] theorem a8e {c:Code} (hf:f=f') (hH:H=H'):AW P c Q f H=AW P c Q f' H':=by rw[hf,hH]
@[congr] theorem a6h {ds ds':List (Option Nat)} {ops:List Oper} (hd:ds=ds') (hf:f=f') (hH:H=H'):eP P ds ops K f H lg=eP P ds' ops K f' H' lg:=by rw[hd,hf,hH]
@[congr] theorem a5R {r r':Option AR} {d:Option Nat} (hr:r=r'):jK r d K f H lg=jK r' d K f H lg:=by rw[hr]
@[congr] theorem a3d {g d:Nat} {xs xs':List AV} (hx:xs=xs') (hf:f=f') (hH:H=H'):jr P g xs d K f H lg=jr P g xs' d K f' H' lg:=by rw[hx,hf,hH]
@[congr] theorem a3a {v v':Option AV} {want:Bool} {yes no:Prop} (h:v=v'):Ai v want yes no=Ai v' want yes no:=by rw[h]
@[congr] theorem a5U {v v':AV} {x y:Code} (h:v=v') (hf:f=f') (hH:H=H'):zh P v x y Q f H=zh P v' x y Q f' H':=by rw[h,hf,hH]
@[congr] theorem a5T {c:Code} (hf:f=f') (hH:H=H'):Jw P c Q f H=Jw P c Q f' H':=by rw[hf,hH]
@[congr] theorem a2Z {g:Operand} {ps:List Nat} {x y:Code} (hf:f=f') (hH:H=H'):YQ P g ps x y Q f H=YQ P g ps x y Q f' H':=by rw[hf,hH]
@[congr] theorem a6g {y:Code} {I:Nat→Hp→Prop} {J:Code→Hp→Prop} {k:Nat} {e:Exit}:a9p P y I J k e f H=a9p P y I J k e f H:=rfl
@[congr] theorem a2W {I:Nat→Hp→Prop} {J:Code→Hp→Prop} {k:Nat} {e:Exit}:uV I J k e f H=uV I J k e f H:=rfl
@[congr] theorem a3c {v v':AV} {d:Nat} {xs xs':List AV} (hv:v=v') (hx:xs=xs') (hf:f=f') (hH:H=H'):yg P v xs d K f H lg=yg P v' xs' d K f' H' lg:=by rw[hv,hx,hf,hH]
@[congr] theorem a6a {y:Code} {e:Exit}:a1L P y Q e f H=a1L P y Q e f H:=rfl
@[congr] theorem a2Y {i:Nat} {e:Exit}:qV i Q e f H=qV i Q e f H:=rfl
@[congr] theorem a2V {e:Exit}:Eu Q e f H=Eu Q e f H:=rfl
@[congr] theorem a5K {I:Fr→Hp→Prop} {μ:Fr→Hp→Nat} {n:Nat} {e:Exit}:EC I μ n Q e f H=EC I μ n Q e f H:=rfl
@[congr] theorem a2X:NC Q f H lg=NC Q f H lg:=rfl
@[congr] theorem a6c {ops:Array Oper}:a5H ops Q f H lg=a5H ops Q f H lg:=rfl
@[congr] theorem a5L {ops:Array Oper}:UE ops lg=UE ops lg:=rfl
@[congr] theorem a2U {ops:Array Oper}:Ns ops=Ns ops:=rfl
@[congr] theorem a6b {rs:List ResultVar} {own:gY} {res:List CV} {e:Exit}:Zc P rs own res e f H=Zc P rs own res e f H:=rfl
theorem jr.mono {g d:Nat}{xs:List AV}{K K':Fr→Hp→Log→Prop}(hK:∀ f H lg,K f H lg→K' f H lg)(h:jr P g xs d K f H lg):jr P g xs d K' f H lg:=by
 rcases h with ⟨c,args,ms,own,res,fz,h1,h2,h3,h4,h5⟩|⟨c,args,ms,i,h,st,e,sz,rows,rows',res,h1,h2,h3,h4,h5,h6,h7⟩|⟨c,args,ms,i,h,st,e,sz,rows,rows',h1,h2,h3,h4,h5,h6,h7⟩|⟨c,args,ms,B,R,h1,h2,h3,h4,h5⟩|⟨Z,h1,h2⟩|⟨rd,R,h1,h2⟩
 ·exact .inl ⟨c,args,ms,own,res,fz,h1,h2,h3,h4,hK _ _ _ h5⟩
 ·exact .inr (.inl ⟨c,args,ms,i,h,st,e,sz,rows,rows',res,h1,h2,h3,h4,h5,h6,hK _ _ _ h7⟩)
 ·exact .inr (.inr (.inl ⟨c,args,ms,i,h,st,e,sz,rows,rows',h1,h2,h3,h4,h5,h6,hK _ _ _ h7⟩))
 ·exact .inr (.inr (.inr (.inl ⟨c,args,ms,B,R,h1,h2,h3,h4,fun B' E res q1 q2 q3=>hK _ _ _ (h5 B' E res q1 q2 q3)⟩)))
 ·exact .inr (.inr (.inr (.inr (.inl ⟨Z,h1,fun x H' hz=>hK _ _ _ (h2 x H' hz)⟩))))
 ·exact .inr (.inr (.inr (.inr (.inr ⟨rd,R,h1,fun x hs hz=>⟨(h2 x hs hz).1,(h2 x hs hz).2.1,hK _ _ _ (h2 x hs hz).2.2⟩⟩))))
theorem JB.mono {o:Oper}{K K':Fr→Hp→Log→Prop}(hK:∀ f H lg,K f H lg→K' f H lg)(h:JB P o K f H lg):JB P o K' f H lg:=by
 unfold JB at h ⊢;split at h
 ·unfold yg at h ⊢;split at h
  ·exact jr.mono hK h
  ·exact h.elim
 ·split at h
  ·obtain⟨e,c,css,fz,B,h1,h2,h3,h4,h5⟩:=h;exact⟨e,c,css,fz,B,h1,h2,h3,h4,fun B' E b a1 a2 a3 a4=>hK _ _ _ (h5 B' E b a1 a2 a3 a4)⟩
  ·split at h
   ·exact⟨h.1,hK _ _ _ h.2⟩
   ·exact h.elim
 ·split at h
  ·exact⟨h.1,hK _ _ _ h.2⟩
  ·exact h.elim
theorem eP.mono {ds:List (Option Nat)}{K K':Fr→Hp→Log→Prop}(hK:∀ f H lg,K f H lg→K' f H lg):∀ (ops:List Oper) (f:Fr) (H:Hp) (lg:Log),eP P ds ops K f H lg→eP P ds ops K' f H lg
 | [],_,_,_,h=>hK _ _ _ h
 | o::rest,f,H,lg,h=>by
  unfold eP at h ⊢;split at h
  ·exact JB.mono (eP.mono hK rest) h
  ·split at h
   ·split at h
    ·rename_i h' ;rw[if_pos h'];exact JB.mono (eP.mono hK rest) h
    ·rename_i h' ;rw[if_neg h'];exact eP.mono hK rest _ _ _ h
   ·exact eP.mono hK rest _ _ _ h
   ·exact h.elim
theorem AW.mono:∀ (c:Code) {Q Q':Post} {f:Fr} {H:Hp},(∀ e f H,Q e f H→Q' e f H)→AW P c Q f H→AW P c Q' f H
 | .skip,_,_,_,_,hq,h=>hq _ _ _ h
 | .region _ ops false,_,_,_,_,hq,h=>eP.mono (fun _ _ _ h=>hq _ _ _ h) _ _ _ _ h
 | .region _ ops true,_,_,_,_,hq,h=>h.imp (fun h=>⟨h.1,eP.mono (fun _ _ _ h=>⟨h.1,hq _ _ _ h.2⟩) _ _ _ _ h.2⟩) fun ⟨ord,inv,h0,h1,h2⟩=>⟨ord,inv,h0,h1,eP.mono (fun _ _ _ h=>⟨h.1,hq _ _ _ h.2⟩) _ _ _ _ h2⟩
 | .seq x y,_,_,_,_,hq,h=>by
  unfold AW at h ⊢;refine AW.mono x (fun e f H h=>?_) h;cases e<;>first|exact AW.mono y hq h|exact hq _ _ _ h
 | .cond c x y,_,_,_,_,hq,h=>by
  unfold AW a5V at h ⊢;split at h
  ·exact⟨fun e=>AW.mono x hq (h.1 e),fun e=>AW.mono y hq (h.2 e)⟩
  ·exact⟨AW.mono x hq h.1,AW.mono y hq h.2⟩
  ·exact h.elim
 | .block id c,_,_,_,_,hq,h=>by
  unfold AW at h ⊢;refine AW.mono c (fun e f H h=>?_) h;cases e<;>simp only[qV]at h ⊢<;>first|exact hq _ _ _ h|skip
  split at h
  ·rename_i e;rw[if_pos e];exact hq _ _ _ h
  ·rename_i e;rw[if_neg e];exact hq _ _ _ h
 | .loop c,_,_,_,_,hq,h=>by
  unfold AW at h ⊢;obtain⟨I,μ,h0,hr⟩:=h;refine⟨I,μ,h0,fun f H hI=>AW.mono c (fun e f H h=>?_) (hr f H hI)⟩;cases e<;>first|exact h|exact hq _ _ _ h
 | .exit _,_,_,_,_,hq,h=>hq _ _ _ h
 | .scope c,_,_,_,_,hq,h=>by
  unfold AW at h ⊢;refine AW.mono c (fun e f H h=>?_) h;cases e<;>first|exact hq _ _ _ h|exact h
 | .label _,_,_,_,_,hq,h=>hq _ _ _ h
 | .ret,_,_,_,_,hq,h=>hq _ _ _ h
 | .goto _,_,_,_,_,_,h=>by unfold AW at h;exact h.elim
 | .rangeFunc g ps x y,_,_,_,_,hq,h=>by
  unfold AW at h ⊢;obtain⟨f1,H1,gf,l,c,caps,ms,n,it,I,J,hwk,hg,ht,hc,hit,h0,hr,hd,h1,h2⟩:=h;exact⟨f1,H1,gf,l,c,caps,ms,n,it,I,J,hwk,hg,ht,hc,hit,h0,hr,fun H hI=>hq _ _ _ (hd H hI),fun H hI=>hq _ _ _ (h1 H hI),fun i H hI=>hq _ _ _ (h2 i H hI)⟩
theorem cut {x y:Code}(J:Fr→Hp→Prop)(h1:AW P x (JA J Q) f H)(h2:∀ f H,J f H→AW P y Q f H):AW P x (a1L P y Q) f H :=
 AW.mono x (fun e f H h=>by cases e<;>first|exact h2 _ _ h|exact h) h1
theorem Dq {v:AV}{x x' y:Code}(J:Fr→Hp→Prop)(h1:zh P v x x' (JA J Q) f H)(h2:∀ f H,J f H→AW P y Q f H):zh P v x x' (a1L P y Q) f H:=by
 unfold zh a5V at *;split at h1
 ·exact⟨fun e=>cut J (h1.1 e) h2,fun e=>cut J (h1.2 e) h2⟩
 ·exact⟨cut J h1.1 h2,cut J h1.2 h2⟩
 ·exact h1.elim
theorem uU {i:Nat}{x y:Code}(J:Fr→Hp→Prop)(h1:Jw P x (qV i (JA J Q)) f H)(h2:∀ f H,J f H→AW P y Q f H):Jw P x (qV i (a1L P y Q)) f H :=
 AW.mono _ (fun e f H h=>by
  cases e<;>simp only[qV]at h ⊢<;>first|exact h2 _ _ h|exact h|skip
  split at h
  ·rename_i e;rw[if_pos e];exact h2 _ _ h
  ·rename_i e;rw[if_neg e];exact h) h1
theorem Qg {J:Fr→Hp→Prop}:JA J Q .normal f H=J f H:=rfl
theorem Yw {J:Fr→Hp→Prop}{i:Nat}:JA J Q (.exit i) f H=Q (.exit i) f H:=rfl
theorem a1J {J:Fr→Hp→Prop}:JA J Q .ret f H=Q .ret f H:=rfl
@[congr] theorem a5Z {J:Fr→Hp→Prop} {e:Exit}:JA J Q e f H=JA J Q e f H:=rfl
theorem aQ {c:Prop}[Decidable c] {x y:Code}(h1:c→AW P x Q f H)(h2:¬c→AW P y Q f H):zh P (.iv (.bool (decide c))) x y Q f H :=
 ⟨fun h=>h1 (of_decide_eq_true h),fun h=>h2 (of_decide_eq_false h)⟩
theorem P8 {b:Bool}{x y:Code}(h1:b=true→AW P x Q f H)(h2:b=false→AW P y Q f H):zh P (.iv (.bool b)) x y Q f H:=⟨h1,h2⟩
theorem a8O {x y:Code}(h1:AW P x Q f H)(h2:AW P y Q f H):zh P .ub x y Q f H:=⟨h1,h2⟩
theorem a2g {x y:Code}:zh P (.iv (.bool true)) x y Q f H=AW P x Q f H:=by simp[zh,a5V]
theorem a2h {x y:Code}:zh P (.iv (.bool false)) x y Q f H=AW P y Q f H:=by simp[zh,a5V]
theorem G8 {g:Nat}{avs:List AV}{d:Nat}(I:Fr→Hp→Prop)(h0:I f H)(h:∀ f H,I f H→jr P g avs d K f H lg):jr P g avs d K f H lg:=h f H h0
theorem aH {c:Code}(I:Fr→Hp→Prop)(μ:Fr→Hp→Nat)(h0:I f H)(hr:∀ f H,I f H→AW P c (EC I μ (μ f H) Q) f H):Jw P c Q f H:=a4F I μ h0 hr
theorem Jc {c:Code}{f':Fr}{H':Hp}(k:Weak f H f' H')(I:Fr→Hp→Prop)(μ:Fr→Hp→Nat)(h0:I f' H')(hr:∀ f H,I f H→AW P c (EC I μ (μ f H) Q) f H):Jw P c Q f H:=by
 unfold Jw AW;exact⟨I,μ,⟨f',H',k,h0⟩,hr⟩
theorem dS {c:Code}(t h e sz:Nat)(ht:f t=.jA)(I:Fr→Hp→Prop)(μ:Fr→Hp→Nat)(h0:I (fB f H t h) (fM H h e sz))(hr:∀ f H,I f H→AW P c (EC I μ (μ f H) Q) f H):Jw P c Q f H:=a0N t h e sz ht I μ h0 hr
end
theorem ACW.aA {P : Program} {g : Nat} {args : List CV} {i e sz : Nat} {rows rows' : List (List IV)} {res : List CV} (hm : P.follows .mixedOrders = true) {fn : Func} {body : Code} {rs : List ResultVar} (hf : P.funcs[g]? = some fn) (hb : fn.body = some body) (hr : fn.results.toList = rs) (hn : (fn.name == "runtime.NumGoroutine") = false)
  (hd:codeOk fn.ntmps body=true) (hargs:Nat.ble args.length fn.ntmps=true) (h : @AW zi0 P body (@YC zi0 P rs i e sz rows' res) (rW args i) (dX i e sz rows)):ACW P g args i e sz rows rows' res:=by
 subst hr;exact ACW.qA hm hf hb hn hd (Nat.le_of_ble_eq_true hargs) h
theorem ACT.aA {P : Program} {g : Nat} {args : List CV} {i e sz : Nat} {rows rows' : List (List IV)} (hm : P.follows .mixedOrders = true) {fn : Func} {body : Code} {rs : List ResultVar} (hf : P.funcs[g]? = some fn) (hb : fn.body = some body) (hr : fn.results.toList = rs) (hn : (fn.name == "runtime.NumGoroutine") = false)
  (hd:codeOk fn.ntmps body=true) (hargs:Nat.ble args.length fn.ntmps=true) (h : @AW zi0 P body (YE rs i e sz rows') (rW args i) (dX i e sz rows)):ACT P g args i e sz rows rows':=by
 subst hr;exact ACT.qA hm hf hb hn hd (Nat.le_of_ble_eq_true hargs) h
theorem AC.aA {P : Program} {g : Nat} {args : List CV} {own : gY} {res : List CV} (hm : P.follows .mixedOrders = true) {fn : Func} {body : Code} {rs : List ResultVar} (hf : P.funcs[g]? = some fn) (hb : fn.body = some body) (hr : fn.results.toList = rs) (hn : (fn.name == "runtime.NumGoroutine") = false)
  (hd:codeOk fn.ntmps body=true) (hargs:Nat.ble args.length fn.ntmps=true) (h : @AW zi0 P body (@Zc zi0 P rs own res) (iQ args) yR):AC P g args own res:=by
 subst hr;exact AC.qA hm hf hb hn hd (Nat.le_of_ble_eq_true hargs) h
theorem ACX.aA (zx : Zi) {P : Program} {g : Nat} {args : List CV} {R : Nat → Nat → List CV → Prop} (hm : P.follows .mixedOrders = true) {fn : Func} {body : Code} {rs : List ResultVar} (hf : P.funcs[g]? = some fn) (hb : fn.body = some body) (hr : fn.results.toList = rs) (hn : (fn.name == "runtime.NumGoroutine") = false)
  (hd:codeOk fn.ntmps body=true) (hargs:Nat.ble args.length fn.ntmps=true) (hne:∀ B,∃ E res,B≤E∧R B E res) (h:∀ B,@AW zx P body (@YA zx P rs B R) (iQ args) (iP B)):ACX P g args R:=by
 subst hr;exact ACX.qA hm hf hb hn hd (Nat.le_of_ble_eq_true hargs) hne (n:=none) h
theorem ACI.aA (zx : Zi) {P : Program} {g : Nat} {avs : List AV} {H : Hp} {Z : AV → Hp → Prop} (hm : P.follows .mixedOrders = true) {fn : Func} {body : Code} {rs : List ResultVar} (hf : P.funcs[g]? = some fn) (hb : fn.body = some body) (hr : fn.results.toList = rs) (hn : (fn.name == "runtime.NumGoroutine") = false)
  (hd:codeOk fn.ntmps body=true) (hnr:dF body=true) (hargs:Nat.ble avs.length fn.ntmps=true) (hne:∃ x H',Z x H') (h : @AW zx P body (@Jo zx P rs Z) (oZ avs) H):ACI P g avs H Z:=by
 subst hr;exact ACI.qA hm hf hb hn hd hnr (Nat.le_of_ble_eq_true hargs) hne h
theorem a1W {P:Program}{B0 n:Nat}{x y:Code}{Q:Post}{f:Fr}{H:Hp}:AWo P B0 (n+1) (.seq x y) Q f H=AW P x (JA (AWo P B0 n y Q) Q) f H:=rfl
def aY (f:Fr)(t:Nat):Int:=match f t with | .iv (.int _ n)=>n|_=>0
theorem aB {f:Fr}{t:Nat}{k:IntKind}{n:Int}(h:f t=.iv (.int k n)):aY f t=n:=by simp[aY,h]
def bW (l:List Nat):List (List IV):=l.map fun x:Nat=>[.int .u64 (x:Int)]
theorem jX (l:List Nat):(bW l).length=l.length:=by simp[bW]
theorem Ir {l:List Nat}{i:Nat}(h:i<l.length):(bW l).getD i []=[.int .u64 ((l.getD i 0:Nat):Int)]:=by simp[bW,List.getD,h]
theorem a4W (a b:Int):(a == b)=decide (a=b):=by by_cases h:a=b<;>simp[h]
theorem a4V (a b:Int):(a != b)=decide (a≠b):=by by_cases h:a=b<;>simp[h,bne]
theorem AY (l:List Nat)(i x:Nat):(bW l).set i [.int .u64 (x:Int)]=bW (l.set i x):=by simp[bW,List.map_set]
theorem a0T (l m:List Nat):bW l++bW m=bW (l++m):=by simp[bW]
theorem Xk (l:List Nat)(x:Nat):bW l++[[.int .u64 (x:Int)]]=bW (l++[x]):=by simp[bW]
theorem wS (l:List Nat)(k:Nat):(bW l).take k=bW (l.take k):=by simp[bW,List.map_take]
theorem Dj (l:List Nat)(k:Nat):(bW l).drop k=bW (l.drop k):=by simp[bW,List.map_drop]
theorem a0R (n:Nat):List.replicate n [.int .u64 0]=bW (List.replicate n 0):=by simp[bW]
theorem Di (l:List Nat):(∀ r∈bW l,r.length=1)↔True:=by simp[bW]
theorem a0S:bW []=[]:=rfl
theorem yE (x y:IV):splice [x] 0 [y]=[y]:=rfl
theorem AC.of_run {P:Program}{g:Nat}{args:List CV}{res:List CV}(ins:List (IntKind×Int))(outs:List (IntKind×Int))(ha:args=ins.map fun p=>.iv (.int p.1 p.2))(hr:res=outs.map fun p=>.iv (.int p.1 p.2))
  (h:∀ w,(callFunc g (ins.map fun p=>Value.int p.1 p.2).toArray).run P w=.ok (.value (oU (outs.map fun p=>Value.int p.1 p.2))) w):AC P g args none res:=by
 intro w D vs hD hvs;have hv:vs=ins.map fun p=>Value.int p.1 p.2:=by
  subst ha;clear h hr
  induction ins generalizing vs with
  | nil=>match vs,hvs with | [],_=>rfl
  | cons p ps ih =>
   match vs,hvs with
   | v::vs,hvs =>
    obtain⟨h1,h2⟩:=hvs;have:=ih vs h2;rw[this];simp only[iE]at h1;cases h1;rfl
 subst hv;refine .inr ⟨_,w,h w,Below.refl _ _,_,rfl,?_⟩;subst hr;refine⟨by simp,fun j c v _ hc hv=>?_,fun i e sz rows h=>nomatch h⟩;rw[List.getElem?_map]at hc hv;cases ho:outs[j]? with
 | none=>rw[ho]at hc;cases hc
 | some p =>
  rw[ho]at hc hv;cases hc;cases hv;exact .int _ _
theorem Vx (fz:Bool)(st e sz:Nat)(rows:List (List IV)):HC.stamp (.blk fz st e sz rows)=st:=rfl
theorem Vu (st e:Nat)(rows:List AV):(HC.nst st e rows).stamp=st:=rfl
theorem TL (st sz:Nat):(HC.gone st sz).stamp=st:=rfl
theorem TK:HC.stamp .none=0:=rfl
theorem a5h (fz:Bool)(st e sz:Nat)(rows:List (List IV)):HC.frz (.blk fz st e sz rows)=.blk true st e sz rows:=rfl
theorem a1q:HC.frz .none=.none:=rfl
theorem Vw (B:Nat):(HC.mrk B).stamp=0:=rfl
theorem Pn (B:Nat):HC.frz (.mrk B)=.mrk B:=rfl
theorem Xu (B h:Nat):iP B h=if h=999 then .mrk B else .none:=rfl
theorem a7o:((0:Nat):Int)=0:=rfl
theorem a7n:((1:Nat):Int)=1:=rfl
theorem aS {ops:Array Oper}(h:Fg ops=true):Ns ops:=h
theorem bH {ops:Array Oper}{lg:Log}(h:EM ops lg.reverse=true):UE ops lg:=h
theorem a4d:List.range 1=[0]:=rfl
theorem a4c:List.range 2=[0,1]:=rfl
theorem a4b:List.range 3=[0,1,2]:=rfl
theorem a4a:List.range 4=[0,1,2,3]:=rfl
theorem a1U (x:IV):CV.av (.iv x)=.iv x:=rfl
theorem YK (v:Value):CV.av (.val v)=Za v:=rfl
theorem YN (x:List IV):CV.av (.agg x)=.agg x:=rfl
theorem YM:CV.av .any=.dead:=rfl
theorem Xw (args:List CV)(i t:Nat):rW args i t=if t=i then .hs i 1 else ((args.map CV.av)[t]?).getD .undef:=rfl
theorem Xv (i e sz:Nat)(rows:List (List IV))(h:Nat):dX i e sz rows h=if h=i then .blk false 1 e sz rows else .none:=rfl
theorem YL (x:List IV):CV.av (.box x)=.ip x:=rfl
theorem a1V (g:Nat)(x:List (List IV)):CV.av (.fn g x)=.fn g (x.map .ip):=rfl
theorem Xm (f:Fr)(p:Nat)(ps:List Nat)(x:AV)(xs:List AV):lays f (p::ps) (x::xs)=lays (upd f p x) ps xs:=rfl
theorem a0V (f:Fr):lays f [] []=f:=rfl
theorem wrap_u64 {n:Int}(h:0≤n∧n<18446744073709551616):IntKind.u64.wrap n=n:=by
 simp only[IntKind.wrap,IntKind.signed,IntKind.bits,Bool.false_and,Bool.false_eq_true,if_false];omega
end Go.AL

namespace Go.AL
set_option linter.unusedSimpArgs false
set_option linter.unusedVariables false
def vl (b:Nat):List Nat→Nat
 | []=>0
 | x::xs=>x+b*vl b xs
def jk:List Nat→Nat
 | []=>0
 | x::xs=>if jk xs=0 then (if x=0 then 0 else 1) else jk xs+1
theorem oC:∀ l:List Nat,jk l≤l.length
 | []=>Nat.le_refl _
 | x::xs=>by
  have:=oC xs;simp only[jk,List.length_cons];split
  ·split<;>omega
  ·omega
theorem kV {l:List Nat}:∀ {k:Nat},k<l.length→l.getD k 0=0→jk (l.take (k+1))=jk (l.take k):=by
 induction l with
 | nil=>intro k h;simp at h
 | cons x xs ih =>
  intro k h h0;cases k with
  | zero=>simp at h0;simp[jk,h0]
  | succ k =>
   simp only[List.length_cons]at h;simp only[List.take_succ_cons,jk];rw[ih (by omega) (by simpa using h0)]
theorem vV {l:List Nat}:∀ {k:Nat},k<l.length→l.getD k 0≠0→jk (l.take (k+1))=k+1:=by
 induction l with
 | nil=>intro k h;simp at h
 | cons x xs ih =>
  intro k h h0;cases k with
  | zero=>simp at h0;simp[jk,h0]
  | succ k =>
   simp only[List.length_cons]at h;simp only[List.take_succ_cons,jk];rw[ih (by omega) (by simpa using h0)];simp
def dg (b n:Nat):List Nat:=if h:n=0∨b<2 then [] else n%b::dg b (n/b)
termination_by n
decreasing_by exact Nat.div_lt_self (by omega) (by omega)
theorem oL (b:Nat):dg b 0=[]:=by rw[dg];simp
theorem DW {b n:Nat}(hb:2≤b)(hn:n≠0):dg b n=n%b::dg b (n/b):=by rw[dg];rw[dif_neg (by omega)]
theorem MG {b n:Nat}(hb:2≤b):dg b n=[]↔n=0:=by
 constructor
 ·intro h;by_cases hn:n=0
  ·exact hn
  ·rw[DW hb hn]at h;cases h
 ·rintro rfl;exact oL b
theorem Zn {b:Nat}(hb:2≤b)(n:Nat):vl b (dg b n)=n:=by
 induction n using Nat.strongRecOn with
 | _ n ih =>
  by_cases hn:n=0
  ·subst hn;rw[oL];rfl
  ·rw[DW hb hn,vl,ih _ (Nat.div_lt_self (by omega) (by omega))];exact Nat.mod_add_div n b
theorem a5p {b:Nat}(hb:2≤b)(n:Nat):∀ x∈dg b n,x<b:=by
 induction n using Nat.strongRecOn with
 | _ n ih =>
  by_cases hn:n=0
  ·subst hn;rw[oL];simp
  ·rw[DW hb hn];intro x hx;simp only[List.mem_cons]at hx;rcases hx with rfl|hx
   ·exact Nat.mod_lt _ (by omega)
   ·exact ih _ (Nat.div_lt_self (by omega) (by omega)) x hx
theorem qj {b:Nat}(hb:2≤b):∀ l:List Nat,vl b l=0↔jk l=0
 | []=>by simp[vl,jk]
 | x::xs=>by
  have:=qj hb xs;simp only[vl,jk];constructor
  ·intro h;have h1:x=0:=by omega
   have h2:b*vl b xs=0:=by omega
   have h3:vl b xs=0:=by rcases Nat.mul_eq_zero.mp h2 with h|h<;>omega
   simp[this.mp h3,h1]
  ·intro h;split at h
   ·rename_i h';split at h
    ·rename_i hx;rw[this.mpr h',hx];rfl
    ·omega
   ·omega
theorem Y3 {b:Nat}(hb:2≤b):∀ {l:List Nat},(∀ x∈l,x<b)→dg b (vl b l)=l.take (jk l)
 | [],_=>by simp[vl,oL,jk]
 | x::xs,h=>by
  have ih:=Y3 hb (l:=xs) (fun y hy=>h y (by simp[hy]));have hx:x<b:=h x (by simp);simp only[vl];by_cases h0:x+b*vl b xs=0
  ·have:=(qj hb (x::xs)).mp h0;rw[h0,oL,this];rfl
  ·rw[DW hb h0,Nat.add_mul_mod_self_left,Nat.mod_eq_of_lt hx,Nat.add_mul_div_left _ _ (by omega),Nat.div_eq_of_lt hx,Nat.zero_add,ih];simp only[jk];split
   ·rename_i ht;have:vl b xs=0:=(qj hb xs).mpr ht;have hx0:x≠0:=by rw[this]at h0;omega
    simp[ht,hx0]
   ·rw[List.take_succ_cons]
theorem iL (b:Nat)(m:List Nat):∀ l:List Nat,vl b (l++m)=vl b l+b^l.length*vl b m
 | []=>by simp[vl]
 | x::xs=>by
  simp only[List.cons_append,vl,iL b m xs,List.length_cons,Nat.pow_succ,Nat.mul_add];rw[Nat.mul_comm (b^xs.length) b,Nat.mul_assoc];omega
theorem Tq {b:Nat}:∀ {l:List Nat},(∀ x∈l,x<b)→vl b l<b^l.length
 | [],_=>by simp[vl]
 | x::xs,h=>by
  have ih:=Tq (l:=xs) (fun y hy=>h y (by simp[hy]));have hx:=h x (by simp);simp only[vl,List.length_cons,Nat.pow_succ];have:b*vl b xs+b≤b^xs.length*b:=by
   rw[Nat.mul_comm (b^_) b,← Nat.mul_succ];exact Nat.mul_le_mul_left _ ih
  omega
theorem fA (b:Nat)(l:List Nat){k:Nat}(h:k≤l.length):vl b l=vl b (l.take k)+b^k*vl b (l.drop k):=by
 conv=>lhs;rw[← List.take_append_drop k l]
 rw[iL,List.length_take,Nat.min_eq_left h]
theorem gZ (b n:Nat):vl b (List.replicate n 0)=0:=by
 induction n with
 | zero=>rfl
 | succ n ih=>simp[List.replicate_succ,vl,ih]
theorem zB (b:Nat){l:List Nat}{k:Nat}(h:k<l.length):vl b (l.take (k+1))=vl b (l.take k)+b^k*l.getD k 0:=by
 rw[List.take_add_one,iL,List.length_take,Nat.min_eq_left (by omega)];simp[List.getD,h,vl]
theorem ig {b:Nat}(hb:2≤b)(k:Nat):∀ {n:Nat},(dg b n).length≤k↔n<b^k:=by
 intro n;constructor
 ·intro h;have:=Tq (a5p hb n);rw[Zn hb]at this;exact Nat.lt_of_lt_of_le this (Nat.pow_le_pow_right (by omega) h)
 ·intro h
  induction k generalizing n with
  | zero=>obtain rfl:n=0:=by simpa using h
          simp[oL]
  | succ k ih =>
   by_cases hn:n=0
   ·subst hn;simp[oL]
   ·rw[DW hb hn,List.length_cons];have:n/b<b^k:=by rw[Nat.div_lt_iff_lt_mul (by omega),← Nat.pow_succ];exact h
    have:=ih this;omega
theorem BJ {b:Nat}(hb:2≤b):∀ {l:List Nat},(∀ x∈l,x<b)→vl b (l.take (jk l))=vl b l:=by
 intro l h;rw[← Y3 hb h,Zn hb]
abbrev W:Nat:=18446744073709551616
def Lim (l:List Nat):Prop:=∀ x∈l,x<W
abbrev wd (n:Nat):List Nat:=dg W n
abbrev nv (l:List Nat):Nat:=vl W l
theorem lK:2≤W:=by decide
theorem aO (n:Nat):Lim (wd n):=a5p lK n
theorem bC (n:Nat):nv (wd n)=n:=Zn lK n
theorem Tn {l:List Nat}(h:Lim l):wd (nv l)=l.take (jk l):=Y3 lK h
theorem jG:wd 0=[]:=oL W
theorem a6l {n:Nat}:wd n=[]↔n=0:=MG lK
theorem fC {n:Nat}:(wd n).length=0↔n=0:=by rw[List.length_eq_zero_iff];exact a6l
theorem bT {n k:Nat}:(wd n).length≤k↔n<W^k:=ig lK k
theorem fJ {l:List Nat}(h:Lim l):(wd (nv l)).length≤l.length:=bT.mpr (Tq h)
theorem Lim.get {l:List Nat}(h:Lim l)(i:Nat):l.getD i 0<W:=by
 by_cases hi:i<l.length
 ·have:l.getD i 0=l[i]:=by simp[List.getD,hi]
  rw[this];exact h _ (List.getElem_mem hi)
 ·rw[List.getD_eq_getElem?_getD,List.getElem?_eq_none (by omega)];decide
theorem Lim.nil:Lim []:=fun _ h=>nomatch h
theorem Lim.cons {x:Nat}{l:List Nat}(hx:x<W)(h:Lim l):Lim (x::l):=fun y hy=>by
 rcases List.mem_cons.mp hy with rfl|hy
 ·exact hx
 ·exact h y hy
theorem Lim.append {l m:List Nat}(h:Lim l)(h':Lim m):Lim (l++m):=fun x hx=>(List.mem_append.mp hx).elim (h x) (h' x)
theorem Lim.take {l:List Nat}(h:Lim l)(k:Nat):Lim (l.take k):=fun x hx=>h x (List.mem_of_mem_take hx)
theorem Lim.drop {l:List Nat}(h:Lim l)(k:Nat):Lim (l.drop k):=fun x hx=>h x (List.mem_of_mem_drop hx)
theorem Lim.set {l:List Nat}(h:Lim l){i x:Nat}(hx:x<W):Lim (l.set i x):=fun y hy=>by
 rcases List.mem_or_eq_of_mem_set hy with hy|rfl
 ·exact h y hy
 ·exact hx
theorem Lim.replicate (n:Nat):Lim (List.replicate n 0):=fun x hx=>by rw[List.eq_of_mem_replicate hx];decide
theorem jO (a b:Nat):(wd (a+b)).length≤max (wd a).length (wd b).length+1:=by
 rw[bT,Nat.pow_succ];have h1:a<W^(max (wd a).length (wd b).length):=bT.mp (by omega);have h2:b<W^(max (wd a).length (wd b).length):=bT.mp (by omega);have:W^(max (wd a).length (wd b).length)*2≤W^(max (wd a).length (wd b).length)*W:=Nat.mul_le_mul_left _ (by decide);omega
theorem dQ (a b:Nat):(wd (a*b)).length≤(wd a).length+(wd b).length:=by
 rw[bT,Nat.pow_add];have h1:a<W^(wd a).length:=bT.mp (Nat.le_refl _);have h2:b<W^(wd b).length:=bT.mp (Nat.le_refl _);exact Nat.mul_lt_mul'' h1 h2
theorem bJ {a b:Nat}(h:a≤b):(wd a).length≤(wd b).length:=by
 rw[bT];exact Nat.lt_of_le_of_lt h (bT.mp (Nat.le_refl _))
theorem aJ (b:Nat)(l:List Nat)(k:Nat):vl b (l.take (k+1))=vl b (l.take k)+b^k*l.getD k 0:=by
 by_cases h:k<l.length
 ·exact zB b h
 ·rw[List.take_of_length_le (by omega),List.take_of_length_le (by omega),List.getD_eq_getElem?_getD,List.getElem?_eq_none (by omega)];simp
theorem dw (b:Nat){l:List Nat}{k:Nat}(h:k<l.length)(x:Nat):vl b ((l.set k x).take (k+1))=vl b (l.take k)+b^k*x:=by
 rw[zB b (by simpa using h),List.take_set_of_le (Nat.le_refl _)];simp[List.getD,h]
theorem Vb {b:Nat}:∀ {l m:List Nat},(∀ x∈l,x<b)→(∀ x∈m,x<b)→l.length=m.length→vl b l=vl b m→l=m
 | [],[],_,_,_,_=>rfl
 | x::xs,y::ys,h1,h2,hl,h=>by
  simp only[vl]at h;have hx:=h1 x (by simp);have hy:=h2 y (by simp);have e1:x=y:=by
   have:=congrArg (· % b) h;simpa [Nat.add_mul_mod_self_left,Nat.mod_eq_of_lt hx,Nat.mod_eq_of_lt hy] using this
  subst e1;have e2:b*vl b xs=b*vl b ys:=by omega
  have e3:vl b xs=vl b ys:=Nat.eq_of_mul_eq_mul_left (by omega) e2;rw[Vb (fun z hz=>h1 z (by simp[hz])) (fun z hz=>h2 z (by simp[hz])) (by simpa using hl) e3]
 | [],_::_,_,_,hl,_=>by simp at hl
 | _::_,[],_,_,hl,_=>by simp at hl
def pad:Nat→Nat→List Nat
 | 0,_=>[]
 | n+1,s=>s%W::pad n (s/W)
theorem iI:∀ n s,(pad n s).length=n
 | 0,_=>rfl
 | n+1,s=>by simp[pad,iI n]
theorem lG:∀ n s,Lim (pad n s)
 | 0,_=>Lim.nil
 | n+1,s=>Lim.cons (Nat.mod_lt _ (by decide)) (lG n _)
theorem oV:∀ n s,nv (pad n s)=s%W^n
 | 0,s=>by simp[pad,vl,Nat.mod_one]
 | n+1,s=>by
  have:=oV n (s/W);simp only[nv]at this;simp only[pad,nv,vl,this];rw[Nat.pow_succ,Nat.mul_comm (W^n) W,Nat.mod_mul]
theorem mZ {l:List Nat}{n s:Nat}(h:Lim l)(hl:l.length=n)(hv:nv l=s%W^n):l=pad n s :=
 Vb h (lG n s) (by rw[iI,hl]) (by rw[← nv,hv];exact(oV n s).symm)
theorem iJ {l:List Nat}(h:Lim l):nv l<W^l.length:=Tq h
theorem dL (n:Nat):0<W^n:=Nat.pow_pos (by decide)
theorem uF {P A B O c x y s c':Nat}(h:O+P*c=A+B)(he:s+W*c'=x+y+c):(O+P*s)+P*W*c'=(A+P*x)+(B+P*y):=by
 have:=congrArg (P * ·) he;simp only[Nat.mul_add]at this;rw[Nat.mul_assoc];omega
theorem PV {P A B O c x y s c':Nat}(h:O+B=A+P*c)(he:s+y+c=x+W*c'):(O+P*s)+(B+P*y)=(A+P*x)+P*W*c':=by
 have:=congrArg (P * ·) he;simp only[Nat.mul_add]at this;rw[Nat.mul_assoc];omega
theorem Ii (l:List Nat)(x:Nat):nv (l++[x])=nv l+W^l.length*x:=by simp[nv,iL,vl]
abbrev RI:=Bool×List Nat
def lQ (c:RI):List IV:=[.bool c.1,.sl (bW c.2)]
def iv (c:RI):Int:=if c.1 then -(nv c.2:Int) else (nv c.2:Int)
def canon (z:Int):RI:=(decide (z<0),wd z.natAbs)
def sg (s:Bool)(n:Nat):Int:=if s then -(n:Int) else (n:Int)
def Sz (k:Nat)(c:RI):Prop:=c.2.length≤k∧Lim c.2
def zl (z:Int):Nat:=(wd z.natAbs).length
def kF (p:List RI):List (List IV):=p.map lQ
theorem a0t (c:RI):(lQ c).length=2:=rfl
theorem U6 (c:RI):(lQ c).drop 0=lQ c:=rfl
theorem U5 (c:RI):(lQ c).drop 1=[.sl (bW c.2)]:=rfl
theorem WH (c:RI)(d:IV):(lQ c).getD 0 d=.bool c.1:=rfl
theorem WG (c:RI)(d:IV):(lQ c).getD 1 d=.sl (bW c.2):=rfl
theorem WE (c:RI):(lQ c).take 2=lQ c:=rfl
theorem WC:[IV.bool false,IV.sl []]=lQ (false,[]):=rfl
theorem OG (c d:RI):splice (lQ c) 0 (lQ d)=lQ d:=rfl
theorem a0a (p:List RI):(kF p).length=p.length:=by simp[kF]
theorem a3Z {p:List RI}{i:Nat}(h:i<p.length):(kF p).getD i []=lQ (p.getD i (false,[])):=by simp[kF,List.getD,h]
theorem ZV (p:List RI)(i:Nat)(c:RI):(kF p).set i (lQ c)=kF (p.set i c):=by simp[kF,List.map_set]
theorem VR (p:List RI)(c:RI):kF p++[lQ c]=kF (p++[c]):=by simp[kF]
theorem a0b (p q:List RI):kF p++kF q=kF (p++q):=by simp[kF]
theorem ZY:kF []=[]:=rfl
theorem ZW (n:Nat):List.replicate n (lQ (false,[]))=kF (List.replicate n (false,[])):=by simp[kF]
theorem VT (p:List RI):(∀ r∈kF p,r.length=2)↔True:=by
 refine iff_true_intro fun r hr=>?_;simp only[kF,List.mem_map]at hr;obtain⟨c,_,rfl⟩:=hr;rfl
theorem VQ (p:List RI)(k:Nat):(kF p).take k=kF (p.take k):=by simp[kF,List.map_take]
theorem VU (p:List RI)(k:Nat):(kF p).drop k=kF (p.drop k):=by simp[kF,List.map_drop]
theorem Yh (z:Int):(canon z).2=wd z.natAbs:=rfl
theorem Yk (z:Int):(canon z).1=decide (z<0):=rfl
theorem aN (z:Int):iv (canon z)=z:=by
 simp only[iv,canon,bC];by_cases h:z<0
 ·simp only[h,decide_true,if_true];omega
 ·simp only[h,decide_false,Bool.false_eq_true,if_false];omega
theorem aW (z:Int):Sz (zl z) (canon z):=⟨Nat.le_refl _,aO _⟩
theorem Sz.mono {j k:Nat}{c:RI}(h:Sz j c)(hk:j≤k):Sz k c:=⟨Nat.le_trans h.1 hk,h.2⟩
theorem LH (c:RI):(iv c).natAbs=nv c.2:=by
 unfold iv;split<;>omega
theorem lI {c:RI}{k:Nat}(h:Sz k c):zl (iv c)≤k:=by
 unfold zl;rw[LH];exact Nat.le_trans (fJ h.2) h.1
theorem uG (s:Bool)(n:Nat):canon (sg s n)=(s && decide (n≠0),wd n):=by
 unfold canon sg;cases s
 ·simp
 ·by_cases h:n=0
  ·subst h;simp
  ·simp[h];omega
theorem a8g (s:Bool)(n:Nat):zl (sg s n)=(wd n).length:=by
 unfold zl sg;cases s<;>simp
theorem Fe (a b:Int):zl (a+b)≤max (zl a) (zl b)+1:=by
 unfold zl;exact Nat.le_trans (bJ (Int.natAbs_add_le a b)) (jO _ _)
theorem zu (a:Int):zl (-a)=zl a:=by unfold zl;rw[Int.natAbs_neg]
theorem jL (a b:Int):zl (a*b)≤zl a+zl b:=by
 unfold zl;rw[Int.natAbs_mul];exact dQ _ _
theorem BG:zl 0=0:=by simp[zl,jG]
theorem Xq:iv (false,[])=0:=by simp[iv,vl]
theorem yX:canon 0=(false,[]):=by simp[canon,jG]
theorem AZ (c:RI):iv c=sg c.1 (nv c.2):=rfl
theorem a4R (c:RI)(b:Bool)(l:List (List IV)):lay (fun i=>[(0,1),(1,1)][i]?) (lQ c) ([0,1].zip [[.bool b],[.sl l]])=some (True,[.bool b,.sl l]):=by
 simp[lay,splice,lQ]
theorem Dp {a b:RI}(h:a.1=b.1):iv a+iv b=sg a.1 (nv a.2+nv b.2):=by
 unfold iv sg;rw[← h];split<;>omega
theorem P6 {a b:RI}(h:a.1≠b.1):iv a+iv b=sg (a.1 != decide (nv a.2<nv b.2)) (if nv a.2<nv b.2 then nv b.2-nv a.2 else nv a.2-nv b.2):=by
 unfold iv sg;cases ha:a.1<;>cases hb:b.1<;>rw[ha,hb]at h<;>first|exact(h rfl).elim|skip
 all_goals
  by_cases hlt:nv a.2<nv b.2
  ·simp[hlt];omega
  ·simp[hlt];omega
theorem Xr (a b:RI):iv a*iv b=sg (a.1 != b.1) (nv a.2*nv b.2):=by
 unfold iv sg;cases a.1<;>cases b.1<;>simp[Int.neg_mul,Int.mul_neg]
theorem CY {l:List Nat}(h:Lim l)(k:Nat):nv (l.take k)=nv l%W^k:=by
 by_cases hk:k≤l.length
 ·have e:=fA W l hk;have h2:=iJ (h.take k);rw[List.length_take,Nat.min_eq_left hk]at h2;simp only[nv]at *;rw[e,Nat.add_mul_mod_self_left,Nat.mod_eq_of_lt h2]
 ·rw[List.take_of_length_le (by omega),Nat.mod_eq_of_lt];exact Nat.lt_of_lt_of_le (iJ h) (Nat.pow_le_pow_right (by decide) (by omega))
theorem X0 {l:List Nat}(h:Lim l)(k:Nat):nv (l.drop k)=nv l/W^k:=by
 by_cases hk:k≤l.length
 ·have e:=fA W l hk;have h2:=iJ (h.take k);rw[List.length_take,Nat.min_eq_left hk]at h2;simp only[nv]at *;rw[e,Nat.add_mul_div_left _ _ (dL k),Nat.div_eq_of_lt h2,Nat.zero_add]
 ·rw[List.drop_of_length_le (by omega),Nat.div_eq_of_lt]
  ·rfl
  ·exact Nat.lt_of_lt_of_le (iJ h) (Nat.pow_le_pow_right (by decide) (by omega))
theorem V9 (b:Nat):∀ {l:List Nat} {k:Nat} (_:k<l.length) (x:Nat),vl b (l.set k x)+b^k*l.getD k 0=vl b l+b^k*x
 | y::ys,0,_,x=>by simp[vl];omega
 | y::ys,k+1,h,x=>by
  have ih:=V9 b (l:=ys) (k:=k) (by simpa using h) x;have:=congrArg (b * ·) ih;simp only[Nat.mul_add]at this;simp only[List.set_cons_succ,vl,List.getD_cons_succ,Nat.pow_succ];rw[Nat.mul_comm (b^k) b,Nat.mul_assoc,Nat.mul_assoc];omega
theorem CZ {l:List Nat}{k m:Nat}(hk:k<m)(hm:m≤l.length)(x:Nat):nv ((l.set k x).take m)+W^k*l.getD k 0=nv (l.take m)+W^k*x:=by
 rw[List.take_set];have:=V9 W (l:=l.take m) (k:=k) (by rw[List.length_take];omega) x;have e:(l.take m).getD k 0=l.getD k 0:=by simp[List.getD,hk]
 rw[e]at this;exact this
def Ak (n:Nat)(l:List Nat):List Nat:=if l.length=0 then [] else List.replicate n 0++l
theorem AQ (n:Nat)(l:List Nat):nv (Ak n l)=W^n*nv l:=by
 unfold Ak;split
 ·rename_i h;rw[List.length_eq_zero_iff]at h;subst h;simp[vl]
 ·simp[nv,iL,gZ]
theorem wU (n:Nat){l:List Nat}(h:Lim l):Lim (Ak n l):=by
 unfold Ak;split
 ·exact Lim.nil
 ·exact(Lim.replicate n).append h
theorem wX (n:Nat)(l:List Nat):(Ak n l).length≤n+l.length:=by
 unfold Ak;split<;>simp
theorem a9A (x y P:Nat)(hP:0<P):∀ x1 x0 y1 y0,x1=x/P→x0=x%P→y1=y/P→y0=y%P →
  P*P*(x1*y1)+P*((x1+x0)*(y1+y0)-(x1*y1+x0*y0))+x0*y0=x*y∧x1*y1+x0*y0≤(x1+x0)*(y1+y0):=by
 intro x1 x0 y1 y0 h1 h2 h3 h4;have ex:x=P*x1+x0:=by rw[h1,h2];exact(Nat.div_add_mod x P).symm
 have ey:y=P*y1+y0:=by rw[h3,h4];exact(Nat.div_add_mod y P).symm
 have e:(x1+x0)*(y1+y0)=x1*y1+x0*y0+(x1*y0+x0*y1):=by simp only[Nat.add_mul,Nat.mul_add];omega
 refine⟨?_,by omega⟩;rw[e,Nat.add_sub_cancel_left,ex,ey];simp only[Nat.add_mul,Nat.mul_add];have e1:P*x1*(P*y1)=P*P*(x1*y1):=Nat.mul_mul_mul_comm _ _ _ _;have e2:P*x1*y0=P*(x1*y0):=Nat.mul_assoc _ _ _;have e3:x0*(P*y1)=P*(x0*y1):=Nat.mul_left_comm _ _ _;rw[e1,e2,e3];omega
theorem row_step {T T' Q A b S Bj c o lo hi:Nat}(h:T+Q*c=S+b*Bj)(hT:T'+Q*o=T+Q*lo)(he:hi*W+lo=A+c+o):T'+Q*W*hi=S+(b*Bj+Q*A):=by
 have:=congrArg (Q * ·) he;simp only[Nat.mul_add]at this;rw[Nat.mul_assoc,Nat.mul_comm W hi];omega
end Go.AL

namespace Go.AL
set_option linter.unusedSimpArgs false
set_option linter.unusedVariables false
def pv (p:List RI):List Int:=p.map iv
def tz (q:List Int):Nat:=jk (q.map Int.natAbs)
def dJ (q:List Int):List Int:=q.take (tz q)
def cf (q:List Int)(k:Nat):Int:=q.getD k 0
def RP (n k:Nat)(p:List RI):Prop:=p.length≤n∧∀ c∈p,Sz k c
def PB (n k:Nat)(q:List Int):Prop:=q.length≤n∧∀ z∈q,zl z≤k
def IY (q:List Int):List (List IV):=kF ((dJ q).map canon)
theorem Tt (q:List Int):tz q≤q.length:=by simpa [tz] using oC (q.map Int.natAbs)
theorem iy (q:List Int):(dJ q).length=tz q:=by rw[dJ,List.length_take,Nat.min_eq_left (Tt q)]
theorem JV {q:List Int}{k:Nat}(h:k<q.length)(h0:cf q k=0):tz (q.take (k+1))=tz (q.take k):=by
 unfold tz;rw[List.map_take,List.map_take];refine kV (by simpa using h) ?_;simp only[cf,List.getD,List.getElem?_map,h,List.getElem?_eq_getElem,Option.map_some,Option.getD_some]at h0 ⊢;simp[h0]
theorem Vh {q:List Int}{k:Nat}(h:k<q.length)(h0:cf q k≠0):tz (q.take (k+1))=k+1:=by
 unfold tz;rw[List.map_take];refine vV (by simpa using h) ?_;simp only[cf,List.getD,List.getElem?_map,h,List.getElem?_eq_getElem,Option.map_some,Option.getD_some]at h0 ⊢;simp;exact h0
theorem xJ {q:List Int}{k:Nat}(h:q.length≤k):cf q k=0:=by
 simp[cf,List.getD,List.getElem?_eq_none h]
theorem lu (x:Int)(xs:List Int):cf (x::xs) 0=x:=rfl
theorem iU (x:Int)(xs:List Int)(k:Nat):cf (x::xs) (k+1)=cf xs k:=rfl
theorem zZ (k:Nat):cf [] k=0:=rfl
theorem O7 (x:Int)(xs:List Int):tz (x::xs)=if tz xs=0 then (if x=0 then 0 else 1) else tz xs+1:=by
 unfold tz;simp only[List.map_cons,jk];by_cases hx:x=0
 ·simp[hx]
 ·rw[if_neg hx,if_neg (show ¬x.natAbs=0 by omega)]
theorem fH:∀ {q:List Int},tz q=0↔∀ k,cf q k=0
 | []=>by simp[tz,jk,zZ]
 | x::xs=>by
  rw[O7];constructor
  ·intro h k;split at h
   ·rename_i h0;split at h
    ·rename_i hx;subst hx;cases k with
     | zero=>rfl
     | succ k=>exact fH.mp h0 k
    ·omega
   ·omega
  ·intro h;have h0:tz xs=0:=fH.mpr fun k=>h (k+1)
   have hx:x=0:=h 0;rw[if_pos h0,if_pos hx]
theorem yw (x:Int)(xs:List Int):dJ (x::xs)=if tz xs=0∧x=0 then [] else x::dJ xs:=by
 unfold dJ;rw[O7];by_cases h:tz xs=0
 ·by_cases hx:x=0<;>simp[h,hx]
 ·simp[h]
theorem vU:∀ {p q:List Int},(∀ k,cf p k=cf q k)→dJ p=dJ q
 | [],q,h=>by
  have:tz q=0:=fH.mpr fun k=>(h k).symm
  simp[dJ,this]
 | x::xs,[],h=>by
  have:tz (x::xs)=0:=fH.mpr fun k=>h k
  simp[dJ,this]
 | x::xs,y::ys,h=>by
  have hx:x=y:=h 0;have ih:=vU (p:=xs) (q:=ys) fun k=>h (k+1)
  have ht:tz xs=0↔tz ys=0:=by
   rw[fH,fH];exact forall_congr' fun k=>by rw[show cf xs k=cf ys k from h (k+1)]
  rw[yw,yw,hx,ih];simp only[ht]
theorem qI:∀ (q:List Int) (k:Nat),cf (dJ q) k=cf q k
 | [],k=>by simp[dJ]
 | x::xs,k=>by
  rw[yw];split
  ·rename_i h;cases k with
   | zero=>simp[zZ,lu,h.2]
   | succ k=>rw[iU,zZ];exact(fH.mp h.1 k).symm
  ·cases k with
   | zero=>rfl
   | succ k=>rw[iU,iU,qI xs k]
theorem O6 {p q:List Int}(h:∀ k,cf p k=cf q k):tz p=tz q:=by
 rw[← iy,← iy,vU h]
theorem Yc {p q:List Int}(h:∀ k,cf p k=cf q k):IY p=IY q:=by
 unfold IY;rw[vU h]
theorem Vg {q:List Int}{n:Nat}(h:cf q n≠0)(h0:∀ k,n<k→cf q k=0):tz q=n+1:=by
 have hn:n<q.length:=by
  rcases Nat.lt_or_ge n q.length with h'|h'
  ·exact h'
  ·exact(h (xJ h')).elim
 have e:∀ k,cf q k=cf (q.take (n+1)) k:=by
  intro k;by_cases hk:k<n+1
  ·simp[cf,List.getD,hk]
  ·rw[h0 k (by omega),xJ (by rw[List.length_take];omega)]
 rw[O6 e,Vh hn h]
theorem Ul {q:List Int}(h:tz q≠0):cf q (tz q-1)≠0:=by
 induction q with
 | nil=>simp[tz,jk]at h
 | cons x xs ih =>
  rw[O7]at h ⊢;by_cases h0:tz xs=0
  ·rw[if_pos h0]at h ⊢;by_cases hx:x=0
   ·simp[hx]at h
   ·rw[if_neg hx];exact hx
  ·rw[if_neg h0];have:=ih h0;rw[show tz xs+1-1=(tz xs-1)+1 by omega];exact this
theorem SN (q:List Int){k:Nat}(h:tz q≤k):cf q k=0:=by
 rw[← qI];exact xJ (by rw[iy];exact h)
def cv:List Int→(Nat→Int)→Nat→Int
 | [],_,_=>0
 | x::xs,g,k=>x*g k+match k with|0=>0|k+1=>cv xs g k
def uQ (p q:List Int):List Int:=(List.range (p.length+q.length)).map (cv p (cf q))
theorem Bl {g g':Nat→Int}:∀ (p:List Int) (k:Nat),(∀ j,g j=g' j)→cv p g k=cv p g' k
 | [],_,_=>rfl
 | x::xs,k,h=>by
  simp only[cv,h k];cases k with
  | zero=>rfl
  | succ k=>simp only;rw[Bl xs k h]
theorem Y7 {g:Nat→Int}:∀ (p:List Int) {n k:Nat},(∀ j,n≤j→g j=0)→p.length+n≤k+1→cv p g k=0
 | [],_,_,_,_=>rfl
 | x::xs,n,k,h,hk=>by
  simp only[List.length_cons]at hk;simp only[cv,h k (by omega),Int.mul_zero,Int.zero_add];cases k with
  | zero=>rfl
  | succ k=>exact Y7 xs h (by omega)
theorem ku (p q:List Int)(k:Nat):cf (uQ p q) k=cv p (cf q) k:=by
 by_cases h:k<p.length+q.length
 ·simp only[uQ];rw[cf,List.getD,List.getElem?_map,List.getElem?_range h];rfl
 ·rw[xJ (by simp[uQ];omega),Y7 p (n:=q.length) (fun j hj=>xJ hj) (by omega)]
theorem Ea {p p':List Int}{g:Nat→Int}(h:∀ j,cf p j=cf p' j):∀ k,cv p g k=cv p' g k:=by
 induction p generalizing p' with
 | nil =>
  intro k
  induction p' generalizing k with
  | nil=>rfl
  | cons y ys ih =>
   have hy:y=0:=(h 0).symm;simp only[cv,hy,Int.zero_mul,Int.zero_add];cases k with
   | zero=>rfl
   | succ k=>exact ih (fun j=>h (j+1)) k
 | cons x xs ih =>
  intro k;cases p' with
  | nil =>
   have hx:x=0:=h 0;simp only[cv,hx,Int.zero_mul,Int.zero_add];cases k with
   | zero=>rfl
   | succ k=>exact ih (p':=[]) (fun j=>h (j+1)) k
  | cons y ys =>
   have hx:x=y:=h 0;simp only[cv,hx];cases k with
   | zero=>rfl
   | succ k=>simp only;rw[ih (p':=ys) (fun j=>h (j+1)) k]
theorem zX {g:Nat→Int}:∀ (p:List Int) (i k:Nat),cv (p.take (i+1)) g k=cv (p.take i) g k+(if i≤k then cf p i*g (k-i) else 0)
 | [],i,k=>by simp[cv,zZ]
 | x::xs,0,k=>by
  simp only[List.take_succ_cons,List.take_zero,cv,lu,Nat.sub_zero,Nat.zero_le,if_true];cases k<;>simp
 | x::xs,i+1,k=>by
  simp only[List.take_succ_cons,cv,iU];cases k with
  | zero=>simp
  | succ k =>
   have:=zX (g:=g) xs i k;simp only[List.take_succ_cons]at this ⊢;rw[this];simp only[Nat.add_le_add_iff_right,Nat.add_sub_add_right];omega
theorem nV (p:List RI):(pv p).length=p.length:=by simp[pv]
theorem EP (p:List RI)(k:Nat):cf (pv p) k=iv (p.getD k (false,[])):=by
 simp only[cf,pv,List.getD,List.getElem?_map];cases p[k]?<;>simp[Xq]
theorem RP.get {n k:Nat}{p:List RI}(h:RP n k p)(i:Nat):Sz k (p.getD i (false,[])):=by
 by_cases hi:i<p.length
 ·have:p.getD i (false,[])=p[i]:=by simp[List.getD,hi]
  rw[this];exact h.2 _ (List.getElem_mem hi)
 ·rw[List.getD_eq_getElem?_getD,List.getElem?_eq_none (by omega)];exact⟨Nat.zero_le _,Lim.nil⟩
theorem pK (q:List Int)(i:Nat):(q.map canon).getD i (false,[])=canon (cf q i):=by
 simp only[cf,List.getD,List.getElem?_map];cases q[i]?<;>simp[yX]
theorem Yi (q:List Int)(i:Nat)(z:Int):(q.map canon).set i (canon z)=(q.set i z).map canon:=by rw[List.map_set]
theorem Um (q:List Int)(z:Int):q.map canon++[canon z]=(q++[z]).map canon:=by simp
theorem lN (q:List Int):pv (q.map canon)=q:=by
 simp only[pv,List.map_map]
 conv=>rhs;rw[← List.map_id q]
 exact List.map_congr_left fun z _=>aN z
theorem RP.canon {n k:Nat}{q:List Int}(h:PB n k q):RP n k (q.map canon):=by
 refine⟨by simpa using h.1,fun c hc=>?_⟩;obtain⟨z,hz,rfl⟩:=List.mem_map.mp hc;exact(aW z).mono (h.2 z hz)
theorem PB.cf {n k:Nat}{q:List Int}(h:PB n k q)(i:Nat):zl (cf q i)≤k:=by
 by_cases hi:i<q.length
 ·have:AL.cf q i=q[i]:=by simp[AL.cf,List.getD,hi]
  rw[this];exact h.2 _ (List.getElem_mem hi)
 ·rw[xJ (by omega),BG];exact Nat.zero_le _
theorem PB.of {n k:Nat}{q:List Int}(hl:q.length≤n)(h:∀ i,zl (AL.cf q i)≤k):PB n k q:=by
 refine⟨hl,fun z hz=>?_⟩;obtain⟨i,hi,rfl⟩:=List.getElem_of_mem hz;have:=h i;rwa [show AL.cf q i=q[i] by simp[AL.cf,List.getD,hi]]at this
theorem PB.dJ {n k:Nat}{q:List Int}(h:PB n k q):PB n k (dJ q) :=
 .of (by rw[iy];exact Nat.le_trans (Tt q) h.1) fun i=>by rw[qI];exact h.cf i
theorem RP.pv {n k:Nat}{p:List RI}(h:RP n k p):PB n k (pv p) :=
 .of (by rw[nV];exact h.1) fun i=>by rw[EP];exact lI (h.get i)
theorem PB.mono {n k n' k':Nat}{q:List Int}(h:PB n k q)(hn:n≤n')(hk:k≤k'):PB n' k' q:=⟨Nat.le_trans h.1 hn,fun z hz=>Nat.le_trans (h.2 z hz) hk⟩
theorem RP.mono {n k n' k':Nat}{q:List RI}(h:RP n k q)(hn:n≤n')(hk:k≤k'):RP n' k' q:=⟨Nat.le_trans h.1 hn,fun z hz=>(h.2 z hz).mono hk⟩
theorem BH {z:Int}{k:Nat}:zl z≤k↔z.natAbs<W^k:=bT
theorem a2N {g:Nat→Int}{M N:Nat}(hg:∀ j,(g j).natAbs≤N):∀ (p:List Int) (k:Nat),(∀ z∈p,z.natAbs≤M)→(cv p g k).natAbs≤p.length*(M*N)
 | [],_,_=>by simp[cv]
 | x::xs,k,h=>by
  have hx:=Nat.mul_le_mul (h x (by simp)) (hg k);have hsum:∀ b:Int,b.natAbs≤xs.length*(M*N)→(x*g k+b).natAbs≤(xs.length+1)*(M*N):=by
   intro b hb;have:=Int.natAbs_add_le (x*g k) b;rw[Int.natAbs_mul]at this;rw[Nat.add_mul,Nat.one_mul];omega
  simp only[cv,List.length_cons];cases k with
  | zero=>exact hsum 0 (by simp)
  | succ k=>exact hsum _ (a2N hg xs k fun z hz=>h z (by simp[hz]))
theorem a3j {p q:List Int}{n k m j:Nat}(hp:PB n k p)(hq:PB m j q)(hn:n<W)(i:Nat):zl (cv p (cf q) i)≤k+j+1:=by
 rw[BH];have h:=a2N (g:=cf q) (M:=W^k-1) (N:=W^j-1) (fun i=>by have:=BH.mp (hq.cf i);omega) p i (fun z hz=>by have:=BH.mp (hp.2 z hz);omega);refine Nat.lt_of_le_of_lt h ?_;have h1:p.length*((W^k-1)*(W^j-1))≤n*((W^k-1)*(W^j-1)):=Nat.mul_le_mul_right _ hp.1;have h2:(W^k-1)*(W^j-1)≤W^k*W^j:=Nat.mul_le_mul (by omega) (by omega);have h3:n*((W^k-1)*(W^j-1))≤n*(W^k*W^j):=Nat.mul_le_mul_left _ h2;have h4:n*(W^k*W^j)<W*(W^k*W^j):=(Nat.mul_lt_mul_right (Nat.mul_pos (dL k) (dL j))).mpr hn;rw[Nat.pow_succ,Nat.pow_add,Nat.mul_comm _ W];omega
theorem PB.uQ {p q:List Int}{n k m j:Nat}(hp:PB n k p)(hq:PB m j q)(hn:n<W):PB (n+m) (k+j+1) (uQ p q) :=
 .of (by simp[AL.uQ];have:=hp.1;have:=hq.1;omega) fun i=>by rw[ku];exact a3j hp hq hn i
theorem KF (n:Nat):List.replicate n ((false,[]):RI)=(List.replicate n 0).map canon:=by rw[List.map_replicate,yX]
theorem Ql {n k:Nat}{q:List Int}(h:PB n k q)(i:Nat):PB n k (q.take i):=⟨by rw[List.length_take];have:=h.1;omega,fun z hz=>h.2 z (List.mem_of_mem_take hz)⟩
theorem a0Y (c:RI)(l:List (List IV)):lay (fun i=>[(0,1),(1,1)][i]?) (lQ c) ([1].zip [[.sl l]])=some (True,[.bool c.1,.sl l]):=by simp[lay,splice,lQ]
def a0w (ps:List (List RI)):List (List IV):=ps.map fun p=>[.sl (kF p)]
theorem WL (ps:List (List RI)):(a0w ps).length=ps.length:=by simp[a0w]
theorem a0v {ps:List (List RI)}{i:Nat}(h:i<ps.length):(a0w ps).getD i []=[.sl (kF (ps.getD i []))]:=by simp[a0w,List.getD,h]
theorem a0X (g:Nat→Option (Nat×Nat))(cells:List IV):lay g cells (([]:List Nat).zip ([]:List (List IV)))=some (True,cells):=rfl
theorem a2P (n k:Nat):cf (List.replicate n 0) k=0:=by
 simp only[cf,List.getD,List.getElem?_replicate];split<;>rfl
theorem Yg {q:List Int}{i:Nat}(h:i<q.length)(z:Int)(k:Nat):cf (q.set i z) k=if k=i then z else cf q k:=by
 simp only[cf,List.getD,List.getElem?_set];by_cases e:i=k
 ·subst e;simp[h]
 ·simp[e,Ne.symm e]
theorem PD:∀ (p:List Int) (k:Nat),cv p (cf []) k=0
 | [],_=>rfl
 | x::xs,k=>by
  simp only[cv,zZ,Int.mul_zero,Int.zero_add];cases k with
  | zero=>rfl
  | succ k=>exact PD xs k
end Go.AL
