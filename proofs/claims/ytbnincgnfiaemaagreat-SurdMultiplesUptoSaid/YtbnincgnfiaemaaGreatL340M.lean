/-
 Contracts of the functions that the law reaches.
-/
import Derived.Test.YtbnincgnfiaemaaGreatAbsPM
set_option maxHeartbeats 2000000
namespace Go.Proofs.YtbnincgnfiaemaaGreat
open Go Go.Proofs Go.AL
set_option linter.unusedSimpArgs false
set_option linter.unusedVariables false
theorem mul_bd {a b K D:Rat}(h1 : -K<=a)(h2:a<=K)(h3 : -D<=b)(h4:b<=D) : -(K*D)<=a*b/\a*b<=K*D:=by
 have e1:0<=(K-a)*(D+b):=Rat.mul_nonneg (by grind) (by grind);have e2:0<=(K+a)*(D-b):=Rat.mul_nonneg (by grind) (by grind);have e3:0<=(K-a)*(D-b):=Rat.mul_nonneg (by grind) (by grind);have e4:0<=(K+a)*(D+b):=Rat.mul_nonneg (by grind) (by grind);constructor<;>grind
def LB (f:Rat->Rat):Prop:=∀M:Rat,∃K L:Rat,0<=K/\0<=L/\(∀x,-M<=x->x<=M->-K<=f x/\f x<=K)/\∀x y,-M<=x->x<=y->y<=M->-(L*(y-x))<=f y-f x/\f y-f x<=L*(y-x)
theorem LB.const (c:Rat):LB λ_=>c:=λM=>by
 rcases Rat.le_total (a:=0) (b:=c) with h|h
 .exact⟨c,0,h,Rat.le_refl,λx _ _=>by constructor<;>grind,λx y _ _ _=>by constructor<;>grind⟩
 .exact⟨-c,0,by grind,Rat.le_refl,λx _ _=>by constructor<;>grind,λx y _ _ _=>by constructor<;>grind⟩
theorem LB.id:LB λx=>x:=λM=>by
 rcases Rat.le_total (a:=0) (b:=M) with h|h
 .exact⟨M,1,h,by grind,λx h1 h2=>⟨h1,h2⟩,λx y _ _ _=>by constructor<;>grind⟩
 .exact⟨-M,1,by grind,by grind,λx h1 h2=>by constructor<;>grind,λx y _ _ _=>by constructor<;>grind⟩
theorem LB.add {f g:Rat->Rat}(hf:LB f)(hg:LB g):LB λx=>f x+g x:=λM=>by
 obtain⟨K,L,k0,l0,h1,h2⟩:=hf M;obtain⟨K',L',k0',l0',h1',h2'⟩:=hg M;refine⟨K+K',L+L',by grind,by grind,λx a b=>?_,λx y a b c=>?_⟩
 .have:=h1 x a b;have:=h1' x a b;constructor<;>grind
 .have:=h2 x y a b c;have:=h2' x y a b c;constructor<;>grind
theorem LB.mul {f g:Rat->Rat}(hf:LB f)(hg:LB g):LB λx=>f x*g x:=λM=>by
 obtain⟨K,L,k0,l0,h1,h2⟩:=hf M;obtain⟨K',L',k0',l0',h1',h2'⟩:=hg M;refine⟨K*K',K*L'+K'*L,Rat.mul_nonneg k0 k0',?_,λx a b=>?_,λx y a b c=>?_⟩
 .have:=Rat.mul_nonneg k0 l0';have:=Rat.mul_nonneg k0' l0;grind
 .have p:=h1 x a b;have q:=h1' x a b;exact mul_bd p.1 p.2 q.1 q.2
 .have p:=h1 y (by grind) c;have q:=h2' x y a b c
  have r:=h1' x a (by grind);have s:=h2 x y a b c
  have u:=mul_bd p.1 p.2 q.1 q.2;have v:=mul_bd r.1 r.2 s.1 s.2;constructor<;>grind
theorem LB.congr {f g:Rat->Rat}(hf:LB f)(h:∀x,g x=f x):LB g:=by
 have:g=f:=funext h;rw[this];exact hf
theorem LB.smul {f:Rat->Rat}(c:Rat)(hf:LB f):LB λx=>c*f x:=(LB.const c).mul hf
theorem LB.sub {f g:Rat->Rat}(hf:LB f)(hg:LB g):LB λx=>f x-g x:=(hf.add (hg.smul (-1))).congr λx=>by grind
def CS (f:Rat->Rat)(s t:Rat):Prop:=∀x,s<=x->x<=t->0<f s*f x
def Big (e v:Rat):Prop:=e<=v\/v<=-e
theorem cs_of {f:Rat->Rat}(hf:LB f)(M:Rat){e:Rat}(he:0<e):∃h,0<h/\∀s t,-M<=s->s<=t->t<=M->t-s<=h->Big e (f s)->CS f s t:=by
 obtain⟨K,L,k0,l0,h1,h2⟩:=hf M;have hL:0<L+1:=by grind
 refine⟨e*(1/2)*(L+1)⁻¹,Rat.mul_pos (by grind) (Rat.inv_pos.2 hL),λs t a b c d hb x hx1 hx2=>?_⟩;have g:=h2 s x a hx1 (by grind);have e1:L*(x-s)<e:=by
  have e2:(L+1)*(x-s)<=(L+1)*(e*(1/2)*(L+1)⁻¹):=by
   have:0<=(L+1)*(e*(1/2)*(L+1)⁻¹-(x-s)):=Rat.mul_nonneg (by grind) (by grind)
   grind
  have e3:(L+1)*(e*(1/2)*(L+1)⁻¹)=e*(1/2):=by
   have:(L+1)*(L+1)⁻¹=1:=Rat.mul_inv_cancel _ (by grind)
   grind
  have e4:0<=x-s:=by grind
  grind
 rcases hb with hb|hb
 .exact Rat.mul_pos (by grind) (by grind)
 .have:=Rat.mul_pos (show 0 < -f s by grind) (show 0 < -f x by grind)
  grind
inductive Ch:List (Rat->Rat)->Prop
 |one {f:Rat->Rat} (h:∀x,f x=1):Ch [f]
 |two {f g:Rat->Rat} (hf:LB f) (hg:∀x,g x=1):Ch [f,g]
 |more {f g h:Rat->Rat} {l:List (Rat->Rat)} (hf:LB f) (q:Rat->Rat) (b:Rat) (hq:LB q) (hb:0<b) (e:∀x,f x=q x*g x-b*h x) (t:Ch (g::h::l)):Ch (f::g::h::l)
theorem Ch.lb {f:Rat->Rat}{l:List (Rat->Rat)}(h:Ch (f::l)):LB f:=by
 cases h with
 |one h=>exact(LB.const 1).congr h
 |two hf hg=>exact hf
 |more hf=>exact hf
theorem Ch.pair (M:Rat):∀{l:List (Rat->Rat)} {f g:Rat->Rat},Ch (f::g::l)->∃e,0<e/\∀x,-M<=x->x<=M->Big e (f x)\/Big e (g x):=by
 intro l
 induction l with
 |nil =>
  intro f g h;cases h with
  |two hf hg=>exact⟨1,by grind,λx _ _=>.inr (.inl (by rw[hg];exact Rat.le_refl))⟩
 |cons hh l ih =>
  intro f g hc;cases hc with
  |more hf q b hq hb e t =>
   obtain⟨e',he',hp⟩:=ih t;obtain⟨K,L,k0,l0,h1,-⟩:=hq M;have hK:0<K+1:=by grind
   have hi:=Rat.inv_pos.2 hK;have hu:0<b*e'*(K+1)⁻¹*(1/2):=Rat.mul_pos (Rat.mul_pos (Rat.mul_pos hb he') hi) (by grind);have hone:(K+1)*(K+1)⁻¹=1:=Rat.mul_inv_cancel _ (by grind);obtain⟨e2,h2,h3,h4⟩:∃e2,0<e2/\e2<=e'/\e2<=b*e'*(K+1)⁻¹*(1/2):=by
    rcases Rat.le_total (a:=e') (b:=b*e'*(K+1)⁻¹*(1/2)) with h|h
    .exact⟨e',he',Rat.le_refl,h⟩
    .exact⟨_,hu,h,Rat.le_refl⟩
   refine⟨e2,h2,λx a1 a2=>?_⟩;by_cases hfx:Big e2 (f x)
   .exact .inl hfx
   by_cases hgx:Big e2 (g x)
   .exact .inr hgx
   exfalso
   have hgs : -e2<=g x/\g x<=e2:=by unfold Big at hgx;constructor<;>grind
   have hfs : -e2<=f x/\f x<=e2:=by unfold Big at hfx;constructor<;>grind
   have hq':=h1 x a1 a2;have m:=mul_bd hq'.1 hq'.2 hgs.1 hgs.2;have e1:=e x;have e5:(K+1)*e2<=b*e'*(1/2):=by
    have e6:(K+1)*(b*e'*(K+1)⁻¹*(1/2))=b*e'*(1/2):=by
     rw[show (K+1)*(b*e'*(K+1)⁻¹*(1/2))=(K+1)*(K+1)⁻¹*(b*e'*(1/2)) by grind,hone];grind
    have:0<=(K+1)*(b*e'*(K+1)⁻¹*(1/2)-e2):=Rat.mul_nonneg (by grind) (by grind);clear hp ih
    grind
   have be:0<b*e':=Rat.mul_pos hb he';rcases hp x a1 a2 with h|h
   .rcases h with h|h
    .exact hgx (.inl (by grind))
    .exact hgx (.inr (by grind))
   .rcases h with h|h
    .have:0<=b*(hh x-e'):=Rat.mul_nonneg (by grind) (by grind)
     grind
    .have:0<=b*(-e'-hh x):=Rat.mul_nonneg (by grind) (by grind)
     grind
theorem nz_cases {x:Rat}(h:x≠0):0<x\/x<0:=by
 rcases Rat.le_total (a:=0) (b:=x) with h1|h1<;>grind
theorem pos_cases {a b:Rat}(h:0<a*b):(0<a/\0<b)\/(a<0/\b<0):=by
 have ha:a≠0:=λe=>by rw[e,Rat.zero_mul]at h;grind
 have hb:b≠0:=λe=>by rw[e,Rat.mul_zero]at h;grind
 rcases nz_cases ha with x|x<;>rcases nz_cases hb with y|y
 .exact .inl ⟨x,y⟩
 .have:=Rat.mul_pos x (show 0 < -b by grind);grind
 .have:=Rat.mul_pos (show 0 < -a by grind) y;grind
 .exact .inr ⟨x,y⟩
theorem neg_cases {a b:Rat}(h:a*b<0):(0<a/\b<0)\/(a<0/\0<b):=by
 have:=pos_cases (a:=a) (b:=-b) (by grind);rcases this with ⟨x,y⟩|⟨x,y⟩
 .exact .inl ⟨x,by grind⟩
 .exact .inr ⟨x,by grind⟩
theorem neg_iff_pos {a x:Rat}(h:0<a):a*x<0↔x<0:=by
 constructor
 .intro e;rcases neg_cases e with ⟨_,y⟩|⟨y,_⟩
  .exact y
  .grind
 .intro e;have:=Rat.mul_pos h (show 0 < -x by grind);grind
theorem neg_iff_neg {a x:Rat}(h:a<0):a*x<0↔0<x:=by
 constructor
 .intro e;rcases neg_cases e with ⟨y,_⟩|⟨_,y⟩
  .grind
  .exact y
 .intro e;have:=Rat.mul_pos (show 0 < -a by grind) e;grind
def vrf (e:Rat):List Rat->Nat
 |[]=>0
 |x::l=>if x=0 then vrf e l else (if e*x<0 then 1 else 0)+vrf x l
inductive LG:List (Rat×Rat)->Prop
 |one {a b:Rat} (h:0<a*b):LG [(a,b)]
 |st {a b c d:Rat} {l:List (Rat×Rat)} (h:0<a*b) (t:LG ((c,d)::l)):LG ((a,b)::(c,d)::l)
 |un {a b c d e g:Rat} {l:List (Rat×Rat)} (h:0<a*b) (o:a*e<0) (t:LG ((e,g)::l)):LG ((a,b)::(c,d)::(e,g)::l)
theorem LG.head {a b:Rat}{l:List (Rat×Rat)}(h:LG ((a,b)::l)):0<a*b:=by
 cases h<;>assumption
theorem vrf_between {a c e:Rat}(o:a*e<0)(l:List Rat):vrf a (c::e::l)=1+vrf e l:=by
 have he:e≠0:=λh=>by rw[h,Rat.mul_zero]at o;grind
 simp only[vrf,if_neg he];by_cases hc:c=0
 .rw[if_pos hc,if_pos o]
 .rw[if_neg hc];rcases neg_cases o with ⟨x,y⟩|⟨x,y⟩<;>rcases nz_cases hc with z|z
  .rw[if_neg (by have:=Rat.mul_pos x z;grind),if_pos (by have:=Rat.mul_pos z (show 0 < -e by grind);grind)];omega
  .rw[if_pos (by have:=Rat.mul_pos x (show 0 < -c by grind);grind),if_neg (by have:=Rat.mul_pos (show 0 < -c by grind) (show 0 < -e by grind);grind)];omega
  .rw[if_pos (by have:=Rat.mul_pos (show 0 < -a by grind) z;grind),if_neg (by have:=Rat.mul_pos z y;grind)];omega
  .rw[if_neg (by have:=Rat.mul_pos (show 0 < -a by grind) (show 0 < -c by grind);grind),if_pos (by have:=Rat.mul_pos (show 0 < -c by grind) y;grind)];omega
theorem lg_all {m:List (Rat×Rat)}(hm:LG m):match m with | []=>True|(a,b)::l=>vrf a (l.map (·.1))=vrf b (l.map (·.2)):=by
 induction hm with
 |one h=>rfl
 | @st a b c d l h t ih =>
  have hc:=t.head;have hc0:c≠0:=λe=>by rw[e,Rat.zero_mul]at hc;grind
  have hd0:d≠0:=λe=>by rw[e,Rat.mul_zero]at hc;grind
  have ih:vrf c (l.map (·.1))=vrf d (l.map (·.2)):=ih;show vrf a (c::l.map (·.1))=vrf b (d::l.map (·.2));simp only[vrf,if_neg hc0,if_neg hd0];rw[ih];have:a*c<0↔b*d<0:=by
   rcases pos_cases h with ⟨x,y⟩|⟨x,y⟩<;>rcases pos_cases hc with ⟨z,u⟩|⟨z,u⟩
   .rw[neg_iff_pos x,neg_iff_pos y];constructor<;>intro h<;>grind
   .rw[neg_iff_pos x,neg_iff_pos y];constructor<;>intro h<;>grind
   .rw[neg_iff_neg x,neg_iff_neg y];constructor<;>intro h<;>grind
   .rw[neg_iff_neg x,neg_iff_neg y];constructor<;>intro h<;>grind
  simp only[this]
 | @un a b c d e g l h o t ih =>
  have hg:=t.head;have o':b*g<0:=by
   rcases pos_cases h with ⟨x,y⟩|⟨x,y⟩<;>rcases pos_cases hg with ⟨z,u⟩|⟨z,u⟩
   .have:=Rat.mul_pos x z;grind
   .have:=Rat.mul_pos y (show 0 < -g by grind);grind
   .have:=Rat.mul_pos (show 0 < -b by grind) u;grind
   .have:=Rat.mul_pos (show 0 < -a by grind) (show 0 < -e by grind);grind
  have ih:vrf e (l.map (·.1))=vrf g (l.map (·.2)):=ih;show vrf a (c::e::l.map (·.1))=vrf b (d::g::l.map (·.2));rw[vrf_between o,vrf_between o',ih]
theorem LG.same {a b:Rat}{l:List (Rat×Rat)}(h:LG ((a,b)::l)):vrf a (l.map (·.1))=vrf b (l.map (·.2)):=lg_all h
inductive PL (s t:Rat):List (Rat->Rat)->Prop
 |one {f:Rat->Rat} (h:CS f s t):PL s t [f]
 |two {f g:Rat->Rat} (h:CS g s t):PL s t [f,g]
 |more {f g h:Rat->Rat} {l:List (Rat->Rat)} (h1:CS f s t\/CS g s t) (h2:CS g s t\/f s*h s<0) (p:PL s t (g::h::l)):PL s t (f::g::h::l)
theorem PL.next {s t:Rat}{f g:Rat->Rat}{l:List (Rat->Rat)}(h:PL s t (f::g::l)):(CS f s t\/CS g s t)/\PL s t (g::l):=by
 cases h with
 |two h=>exact⟨.inr h,.one h⟩
 |more h1 h2 p=>exact⟨h1,p⟩
def prs (l:List (Rat->Rat))(s t:Rat):List (Rat×Rat):=l.map λf=>(f s,f t)
theorem PL.lg {s t:Rat}(hst:s<=t):∀(n:Nat) {l:List (Rat->Rat)} {f:Rat->Rat},l.length<=n->PL s t (f::l)->CS f s t->LG (prs (f::l) s t)
 |n,[],f,hn,h,hc=>.one (hc t hst Rat.le_refl)
 |0,_::_,f,hn,h,hc=>by simp at hn
 |n+1,g::l,f,hn,h,hc=>by
  by_cases hg:CS g s t
  .exact .st (hc t hst Rat.le_refl) (PL.lg hst n (by simpa using hn) h.next.2 hg)
  .cases h with
   |two h=>exact(hg h).elim
   |more h1 h2 p =>
    rename_i h l;have o:=h2.resolve_left hg;have hh:=(p.next.1).resolve_left hg;exact .un (hc t hst Rat.le_refl) o (PL.lg hst n (by simp at hn ⊢;omega) p.next.2 hh)
theorem Ch.near (M:Rat):∀{l:List (Rat->Rat)} {f:Rat->Rat},Ch (f::l)->∃h,0<h/\∀s t,-M<=s->s<=t->t<=M->t-s<=h->PL s t (f::l):=by
 have min2:∀a b:Rat,0<a->0<b->∃c,0<c/\c<=a/\c<=b:=λa b ha hb=>by
  rcases Rat.le_total (a:=a) (b:=b) with h|h
  .exact⟨a,ha,Rat.le_refl,h⟩
  .exact⟨b,hb,h,Rat.le_refl⟩
 have onecs:∀(g:Rat->Rat) (s t:Rat),(∀x,g x=1)->CS g s t:=λg s t hg x _ _=>by rw[hg,hg];grind
 intro l
 induction l with
 |nil =>
  intro f h;cases h with
  |one h=>exact⟨1,by grind,λs t _ _ _ _=>.one (onecs f s t h)⟩
 |cons g l ih =>
  intro f hc;cases hc with
  |two hf hg=>exact⟨1,by grind,λs t _ _ _ _=>.two (onecs g s t hg)⟩
  |more hf q b hq hb e t =>
   rename_i h l;obtain⟨h0,hh0,ih0⟩:=ih t;obtain⟨e1,he1,p1⟩:=Ch.pair M (Ch.more hf q b hq hb e t);obtain⟨e2,he2,p2⟩:=Ch.pair M t;obtain⟨K,L,k0,l0,hq1,-⟩:=hq M;have hK:0<K+1:=by grind
   have hi:=Rat.inv_pos.2 hK;have hone:(K+1)*(K+1)⁻¹=1:=Rat.mul_inv_cancel _ (by grind);have hu:0<b*e2*(K+1)⁻¹*(1/2):=Rat.mul_pos (Rat.mul_pos (Rat.mul_pos hb he2) hi) (by grind);obtain⟨e3,he3,a1,a2⟩:=min2 _ _ hu he2;obtain⟨e4,he4,b1,b2⟩:=min2 e3 e1 he3 he1;obtain⟨hf1,hhf,cf1⟩:=cs_of hf M he4;obtain⟨hg1,hhg,cg1⟩:=cs_of t.lb M he4;obtain⟨x1,hx1,c1,c2⟩:=min2 hf1 hg1 hhf hhg;obtain⟨x2,hx2,d1,d2⟩:=min2 x1 h0 hx1 hh0;have weak:∀{v:Rat} {e e':Rat},e'<=e->Big e v->Big e' v:=λh hb=>hb.elim (λk=>.inl (by grind)) λk=>.inr (by grind)
   refine⟨x2,hx2,λs t' s1 s2 s3 s4=>.more ?_ ?_ (ih0 s t' s1 s2 s3 (by grind))⟩
   .rcases p1 s s1 (by grind) with hb|hb
    .exact .inl (cf1 s t' s1 s2 s3 (by grind) (weak b2 hb))
    .exact .inr (cg1 s t' s1 s2 s3 (by grind) (weak b2 hb))
   .by_cases hgb:Big e4 (g s)
    .exact .inl (cg1 s t' s1 s2 s3 (by grind) hgb)
    .right
     have hgs : -e4<=g s/\g s<=e4:=by unfold Big at hgb;constructor<;>grind
     have hqs:=hq1 s s1 (by grind);have m:=mul_bd hqs.1 hqs.2 hgs.1 hgs.2;have e6:(K+1)*(b*e2*(K+1)⁻¹*(1/2))=b*e2*(1/2):=by
      rw[show (K+1)*(b*e2*(K+1)⁻¹*(1/2))=(K+1)*(K+1)⁻¹*(b*e2*(1/2)) by grind,hone];grind
     have e7:K*e4<=b*e2*(1/2):=by
      have:0<=(K+1)*(b*e2*(K+1)⁻¹*(1/2)-e4):=Rat.mul_nonneg (by grind) (by grind);clear p1 p2 ih0 ih hq1 cf1 cg1
      grind
     have hbe:0<b*e2:=Rat.mul_pos hb he2;have hhb:=(p2 s s1 (by grind)).resolve_left λhb=>hgb (weak (by grind) hb)
     have es:=e s;clear p1 p2 ih0 ih hq1 cf1 cg1 e;rcases hhb with hb'|hb'
     .have h1:0<=b*(h s-e2):=Rat.mul_nonneg (by grind) (by grind);have h2:f s<0:=by grind
      have:=Rat.mul_pos (show 0 < -f s by grind) (show 0<h s by grind)
      grind
     .have h1:0<=b*(-e2-h s):=Rat.mul_nonneg (by grind) (by grind);have h2:0<f s:=by grind
      have:=Rat.mul_pos h2 (show 0 < -h s by grind)
      grind
def V (l:List (Rat->Rat))(x:Rat):Nat:=vrf 0 (l.map λf=>f x)
structure Rts (f g:Rat->Rat) (rs:List Rat) (M:Rat):Prop where
 nd:rs.Nodup
 zero:∀r∈rs,f r=0
 off:∀s t,-M<=s->s<=t->t<=M->(∀r∈rs,¬(s<=r/\r<=t))->0<f s*f t
 at_:∀r∈rs,∀x,-M<=x->x<=M->x≠r->(∀r'∈rs,(x<=r'/\r'<=r)\/(r<=r'/\r'<=x)->r'=r)->0<f x*g r*(x-r)
theorem gap_of (ds:List Rat):∃e,0<e/\∀d∈ds,0<d->e<d:=by
 induction ds with
 |nil=>exact⟨1,by grind,λd h=>by simp at h⟩
 |cons d ds ih =>
  obtain⟨e,he,h⟩:=ih;by_cases hd:0<d
  .rcases Rat.le_total (a:=e) (b:=d*(1/2)) with h1|h1
   .exact⟨e,he,λx hx h0=>by
     rcases List.mem_cons.1 hx with rfl|hx
     .grind
     .exact h x hx h0⟩
   .exact⟨d*(1/2),by grind,λx hx h0=>by
     rcases List.mem_cons.1 hx with rfl|hx
     .grind
     .have:=h x hx h0;grind⟩
  .exact⟨e,he,λx hx h0=>by
    rcases List.mem_cons.1 hx with rfl|hx
    .exact(hd h0).elim
    .exact h x hx h0⟩
theorem PL.same {s t:Rat}(hst:s<=t){f:Rat->Rat}{l:List (Rat->Rat)}(h:PL s t (f::l))(hc:CS f s t):vrf (f s) (l.map λg=>g s)=vrf (f t) (l.map λg=>g t):=by
 have:=(h.lg hst l.length (Nat.le_refl _) hc).same;simpa [prs,List.map_map,Function.comp_def] using this
theorem arch (h d:Rat)(hh:0<h):∃n:Nat,d<=n*h:=by
 refine⟨(d*h⁻¹).ceil.toNat,?_⟩;have h1:=Rat.le_ceil (x:=d*h⁻¹);have h2:((d*h⁻¹).ceil:Rat)<=(((d*h⁻¹).ceil.toNat:Nat):Rat):=by
  have:(d*h⁻¹).ceil<=((d*h⁻¹).ceil.toNat:Int):=Int.self_le_toNat _
  exact_mod_cast this
 have h3:d=d*h⁻¹*h:=by rw[Rat.mul_assoc,Rat.inv_mul_cancel _ (by grind),Rat.mul_one]
 have h4:0<=((((d*h⁻¹).ceil.toNat:Nat):Rat)-d*h⁻¹)*h:=Rat.mul_nonneg (by grind) (by grind)
 grind
end Go.Proofs.YtbnincgnfiaemaaGreat
