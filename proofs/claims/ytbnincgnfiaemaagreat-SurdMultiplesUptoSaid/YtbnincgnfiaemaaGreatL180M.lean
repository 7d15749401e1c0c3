/-
 Contracts of the functions that the law reaches.
-/
import Derived.Test.YtbnincgnfiaemaaGreatL298M
import Derived.Test.YtbnincgnfiaemaaGreatL340M
set_option maxHeartbeats 2000000
namespace Go.Proofs.YtbnincgnfiaemaaGreat
open Go Go.Proofs Go.AL
set_option linter.unusedSimpArgs false
set_option linter.unusedVariables false
theorem ps_zero_of {q:List Int}(h:tz q=0):ps q=0:=PS.ext λk=>tz_zero_iff.mp h k
theorem tz_of_ps {p q:List Int}(h:ps p=ps q):tz p=tz q:=tz_eq_of_cf (ps_eq h)
theorem tz_pscale {c:Int}(hc:c≠0)(q:List Int):tz (pscale c q)=tz q:=by
 refine Nat.le_antisymm (tz_scale_le c q) (tz_le_of λk hk=>?_);have:=cf_ge_tz (pscale c q) hk;rw[cf_pscale]at this;exact(Int.mul_eq_zero.mp this).resolve_right hc
theorem ps_cancel {S T B:List Int}(h:ps S*ps B=ps T*ps B)(hB:tz B≠0):ps S=ps T:=by
 have e:ps (pmul (padd S (pscale (-1) T)) B)=0:=by
  rw[ps_pmul,ps_padd,ps_pscale,PS.neg_one_C,PS.add_mul,PS.neg_mul,h,PS.add_neg]
 have h0:tz (pmul (padd S (pscale (-1) T)) B)=0:=tz_zero_iff.mpr λk=>congrArg (λf=>PS.c f k) e
 have h1:tz (padd S (pscale (-1) T))=0:=by
  by_cases h1:tz (padd S (pscale (-1) T))=0
  .exact h1
  .rw[tz_pmul h1 hB]at h0;omega
 refine PS.ext λk=>?_;have:=tz_zero_iff.mp h1 k;rw[cf_padd,cf_pscale]at this;rw[ps_c,ps_c];omega
theorem C_cancel {a:Int}(ha:a≠0){f g:PS}(h:PS.C a*f=PS.C a*g):f=g:=PS.ext λk=>by
 have:=congrArg (λf=>PS.c f k) h;simp only[PS.C_mul_c]at this;exact Int.eq_of_mul_eq_mul_left ha this
def As (A B:List Int):Prop:=∃a b:Int,a≠0/\b≠0/\PS.C a*ps A=PS.C b*ps B
theorem As.of_ps {A B:List Int}(h:ps A=ps B):As A B:=⟨1,1,by decide,by decide,by rw[h]⟩
theorem As.refl (A:List Int):As A A:=.of_ps rfl
theorem As.symm {A B:List Int}(h:As A B):As B A:=by
 obtain⟨a,b,ha,hb,e⟩:=h;exact⟨b,a,hb,ha,e.symm⟩
theorem As.trans {A B D:List Int}(h:As A B)(h2:As B D):As A D:=by
 obtain⟨a,b,ha,hb,e⟩:=h;obtain⟨a',b',ha',hb',e'⟩:=h2;refine⟨a'*a,b*b',Int.mul_ne_zero ha' ha,Int.mul_ne_zero hb hb',?_⟩;rw[PS.C_mul,PS.C_mul,PS.mul_assoc,e,PS.mul_assoc,<-e',<-PS.mul_assoc,<-PS.mul_assoc,PS.mul_comm (PS.C a')]
theorem as_tz {A B:List Int}(h:As A B):tz A=tz B:=by
 obtain⟨a,b,ha,hb,e⟩:=h;rw[<-tz_pscale ha A,<-tz_pscale hb B];exact tz_of_ps (by rw[ps_pscale,ps_pscale,e])
theorem as_prim (A:List Int):As A (prim A):=by
 by_cases h:cont A=0
 .refine .of_ps ?_;rw[ps_prim A,h,PS.C_zero,PS.zero_mul];exact(ps_zero λk=>(prim_zero h k).1).symm
 .exact⟨1,cont A,by decide,h,by rw[PS.C_one,PS.one_mul];exact ps_prim A⟩
def Nf (A:List Int):Prop:=tz A=0\/Prm A
theorem nf_prim (A:List Int):Nf (prim A):=by
 by_cases h:cont A=0
 .exact .inl (tz_zero_iff.mpr λk=>(prim_zero h k).1)
 .exact .inr (prm_prim h)
theorem prm_tz {A:List Int}(h:Prm A):tz A≠0:=(lc_ne (q:=A) (by rw[h.1];decide)).1
theorem As.uniq {A B:List Int}(h:As A B)(hA:Nf A)(hB:Nf B):ps A=ps B:=by
 have ht:=as_tz h;rcases hA with hA|hA
 .rw[ps_zero_of hA,ps_zero_of (by omega)]
 rcases hB with hB|hB
 .exact absurd (by omega) (prm_tz hA)
 obtain⟨a,b,ha,hb,e⟩:=h;have e1:∀k,cf (pscale b B) k=a*cf A k:=λk=>by
  have:=congrArg (λf=>PS.c f k) e;simp only[PS.C_mul_c,ps_c]at this;rw[cf_pscale,Int.mul_comm,this]
 have e2:∀k,cf (pscale b B) k=b*cf B k:=λk=>by rw[cf_pscale,Int.mul_comm]
 have c1:=cont_of hA e1;have c2:=cont_of hB e2;have ab:a=b:=c1.symm.trans c2;subst ab;exact C_cancel ha e
def npr (A:List Int):List Int:=trimz (prim A)
theorem npr_trim (A:List Int):trimz (npr A)=npr A:=trimz_trimz _
theorem as_npr (A:List Int):As A (npr A):=(as_prim A).trans (.of_ps (ps_trimz _).symm)
theorem tz_npr (A:List Int):tz (npr A)=tz A:=(as_tz (as_npr A)).symm
theorem nf_of_ps {A B:List Int}(e:ps A=ps B)(h:Nf A):Nf B:=by
 have ht:=tz_of_ps e;rcases h with h|h
 .exact .inl (by omega)
 .refine .inr ⟨?_,?_⟩
  .rw[<-gz_eq (ps_eq e)];exact h.1
  .have:=h.2;unfold lc at this ⊢;rwa [<-ht,<-ps_eq e]
theorem nf_npr (A:List Int):Nf (npr A):=nf_of_ps (ps_trimz _).symm (nf_prim A)
theorem cp_npr (A:List Int):cp (prim A)=cp (npr A):=cp_ext λk=>(cf_trimz _ k).symm
def Dv (B A:List Int):Prop:=∃(c:Int) (S:List Int),c≠0/\ps S*ps B=PS.C c*ps A
theorem Dv.refl (A:List Int):Dv A A:=⟨1,[1],by decide,by rw[ps_one,PS.C_one]⟩
theorem Dv.zero {A:List Int}(B:List Int)(h:tz A=0):Dv B A:=⟨1,[],by decide,by rw[ps_nil,ps_zero_of h,PS.zero_mul,PS.mul_zero]⟩
theorem Dv.trans {D B A:List Int}(h:Dv D B)(h2:Dv B A):Dv D A:=by
 obtain⟨c,S,hc,e⟩:=h;obtain⟨d,T,hd,e2⟩:=h2;refine⟨c*d,pmul T S,Int.mul_ne_zero hc hd,?_⟩;rw[ps_pmul,PS.mul_assoc,e,PS.C_mul,PS.mul_assoc,<-e2]
 ac_rfl
theorem Dv.mul {B A S:List Int}(h:ps A=ps S*ps B):Dv B A:=⟨1,S,by decide,by rw[PS.C_one,PS.one_mul,h]⟩
theorem Dv.lin {G A B R U V:List Int}{k:Int}(h1:Dv G A)(h2:Dv G B)(hk:k≠0)(e:ps U*ps A+ps V*ps B=PS.C k*ps R):Dv G R:=by
 obtain⟨c,S,hc,e1⟩:=h1;obtain⟨d,T,hd,e2⟩:=h2;refine⟨c*d*k,padd (pscale d (pmul U S)) (pscale c (pmul V T)),Int.mul_ne_zero (Int.mul_ne_zero hc hd) hk,?_⟩;rw[ps_padd,ps_pscale,ps_pscale,ps_pmul,ps_pmul,PS.C_mul,PS.mul_assoc,<-e,PS.C_mul,PS.add_mul,PS.mul_add];have x1:PS.C d*(ps U*ps S)*ps G=PS.C d*(ps U*(ps S*ps G)):=by ac_rfl
 have x2:PS.C c*(ps V*ps T)*ps G=PS.C c*(ps V*(ps T*ps G)):=by ac_rfl
 rw[x1,x2,e1,e2]
 congr 1<;>ac_rfl
theorem As.dv {A B:List Int}(h:As A B):Dv A B:=by
 obtain⟨a,b,ha,hb,e⟩:=h;exact⟨b,[a],hb,by rw[ps_const,e]⟩
theorem dv_tz {B A:List Int}(h:Dv B A)(hA:tz A≠0):tz B≠0/\tz B<=tz A:=by
 obtain⟨c,S,hc,e⟩:=h;have ht:tz (pmul S B)=tz A:=by
  rw[<-tz_pscale hc A];exact tz_of_ps (by rw[ps_pmul,ps_pscale,e])
 have hS:tz S≠0:=λh0=>hA (by rw[<-ht];exact tz_pmul_zero (.inl h0))
 have hB:tz B≠0:=λh0=>hA (by rw[<-ht];exact tz_pmul_zero (.inr h0))
 rw[tz_pmul hS hB]at ht;exact⟨hB,by omega⟩
theorem Dv.anti {A B:List Int}(h:Dv A B)(h2:Dv B A):As A B:=by
 by_cases hB:tz B=0
 .have hA:tz A=0:=by
   by_cases hA:tz A=0
   .exact hA
   .exact absurd hB (dv_tz h2 hA).1
  exact .of_ps (by rw[ps_zero_of hA,ps_zero_of hB])
 have hA:=(dv_tz h hB).1;have l1:=(dv_tz h hB).2;have l2:=(dv_tz h2 hA).2;obtain⟨c,S,hc,e⟩:=h;have ht:tz (pmul S A)=tz B:=by
  rw[<-tz_pscale hc B];exact tz_of_ps (by rw[ps_pmul,ps_pscale,e])
 have hS:tz S≠0:=λh0=>hB (by rw[<-ht];exact tz_pmul_zero (.inl h0))
 rw[tz_pmul hS hA]at ht;have hS1:tz S=1:=by omega
 have es:ps S=PS.C (cf S 0):=PS.ext λk=>by
  rw[ps_c,PS.c_C];split
  .rename_i h;rw[h]
  .exact cf_ge_tz S (by omega)
 have h0:cf S 0≠0:=by have:=cf_tz_pred (q:=S) hS;rwa [hS1]at this
 exact⟨cf S 0,c,h0,hc,by rw[<-es,e]⟩
theorem Dv.as {B B' A A':List Int}(h:Dv B A)(hB:As B' B)(hA:As A A'):Dv B' A':=(hB.dv.trans h).trans hA.dv
structure GG (G A B:List Int):Prop where
 a:Dv G A
 b:Dv G B
 z:∃(c:Int) (U V:List Int),c≠0/\ps U*ps A+ps V*ps B=PS.C c*ps G
theorem GG.dv {G A B D:List Int}(h:GG G A B)(h1:Dv D A)(h2:Dv D B):Dv D G:=by
 obtain⟨c,U,V,hc,e⟩:=h.z;exact h1.lin h2 hc e
theorem GG.uniq {G G' A B:List Int}(h:GG G A B)(h':GG G' A B)(n:Nf G)(n':Nf G'):ps G=ps G':=((h'.dv h.a h.b).anti (h.dv h'.a h'.b)).uniq n n'
theorem GG.symm {G A B:List Int}(h:GG G A B):GG G B A:=by
 obtain⟨c,U,V,hc,e⟩:=h.z;exact⟨h.b,h.a,c,V,U,hc,by rw[PS.add_comm,e]⟩
theorem GG.zero {A B:List Int}(h:tz B=0):GG A A B:=⟨.refl A,.zero A h,1,[1],[],by decide,by rw[ps_one,ps_nil,PS.zero_mul,PS.add_zero,PS.C_one]⟩
theorem GG.as {G G' A A' B B':List Int}(h:GG G A B)(hG:As G G')(hA:As A A')(hB:As B B'):GG G' A' B':=by
 refine⟨h.a.as hG.symm hA,h.b.as hG.symm hB,?_⟩;obtain⟨c,U,V,hc,e⟩:=h.z;obtain⟨g,g',hg,hg',eg⟩:=hG;obtain⟨a,a',ha,ha',ea⟩:=hA;obtain⟨b,b',hb,hb',eb⟩:=hB;refine⟨c*a*b*g',pscale (b*g*a') U,pscale (a*g*b') V,Int.mul_ne_zero (Int.mul_ne_zero (Int.mul_ne_zero hc ha) hb) hg',?_⟩;rw[ps_pscale,ps_pscale];have x1:PS.C (b*g*a')*ps U*ps A'=PS.C a*PS.C b*PS.C g*(ps U*ps A):=by
  have:PS.C (b*g*a')*ps U*ps A'=PS.C b*PS.C g*ps U*(PS.C a'*ps A'):=by rw[PS.C_mul,PS.C_mul];ac_rfl
  rw[this,<-ea];ac_rfl
 have x2:PS.C (a*g*b')*ps V*ps B'=PS.C a*PS.C b*PS.C g*(ps V*ps B):=by
  have:PS.C (a*g*b')*ps V*ps B'=PS.C a*PS.C g*ps V*(PS.C b'*ps B'):=by rw[PS.C_mul,PS.C_mul];ac_rfl
  rw[this,<-eb];ac_rfl
 rw[x1,x2,<-PS.mul_add,e];have:PS.C (c*a*b*g')*ps G'=PS.C c*PS.C a*PS.C b*(PS.C g'*ps G'):=by rw[PS.C_mul,PS.C_mul,PS.C_mul];ac_rfl
 rw[this,<-eg]
 ac_rfl
theorem GG.step {G A B Q R:List Int}{c:Int}(h:GG G B R)(hc:c≠0)(e:ps Q*ps B+ps R=PS.C c*ps A):GG G A B:=by
 refine⟨h.a.lin (U:=Q) (V:=[1]) h.b hc (by rw[ps_one,PS.one_mul,e]),h.a,?_⟩;obtain⟨k,U,V,hk,ek⟩:=h.z;refine⟨k,pscale c V,padd U (pscale (-1) (pmul V Q)),hk,?_⟩;rw[ps_pscale,ps_padd,ps_pscale,ps_pmul,PS.neg_one_C,PS.add_mul,PS.neg_mul,<-ek];have:PS.C c*ps V*ps A=ps V*ps Q*ps B+ps V*ps R:=by
  rw[show PS.C c*ps V*ps A=ps V*(PS.C c*ps A) by ac_rfl,<-e,PS.mul_add]
  congr 1
  ac_rfl
 rw[this];generalize ps V*ps Q*ps B=x;generalize ps V*ps R=y;generalize ps U*ps B=w;refine PS.ext λk=>?_;simp only[PS.c_add,PS.c_neg];omega
theorem gg_tz0 {G A B:List Int}(h:GG G A B)(h0:tz G=0):tz A=0/\tz B=0:=by
 constructor
 .by_cases x:tz A=0
  .exact x
  .exact absurd h0 (dv_tz h.a x).1
 .by_cases x:tz B=0
  .exact x
  .exact absurd h0 (dv_tz h.b x).1
theorem GG.more {G A B A' K:List Int}(h:GG G A B)(e:ps A'=ps A+ps K*ps B):GG G A' B:=by
 refine⟨h.a.lin (U:=[1]) (V:=K) h.b (k:=1) (by decide) (by rw[ps_one,PS.one_mul,PS.C_one,PS.one_mul,e]),h.b,?_⟩;obtain⟨c,U,V,hc,ec⟩:=h.z;refine⟨c,U,padd V (pscale (-1) (pmul U K)),hc,?_⟩;rw[ps_padd,ps_pscale,ps_pmul,PS.neg_one_C,e,PS.mul_add,PS.add_mul,PS.neg_mul,<-ec,<-PS.mul_assoc];generalize ps U*ps K*ps B=x;generalize ps U*ps A=y;generalize ps V*ps B=w;refine PS.ext λk=>?_;simp only[PS.c_add,PS.c_neg];omega
theorem dres_div (A B:List Int):ps (dq A B)*ps B+ps (dr A B)=PS.C (lc B^dxp A B)*ps A:=by
 have h:=dres_eq (c:=lc B) (L:=lc B) (B:=B) (dxp A B) ([],A);have e:∀n,PS.pw (PS.C (lc B)) n=PS.C (lc B^n):=λn=>by
  induction n with
  |zero=>rw[PS.pw,Int.pow_zero,PS.C_one]
  |succ n ih=>rw[PS.pw_add,PS.pw_one,ih,Int.pow_succ,PS.C_mul]
 rw[e]at h;rw[dq,dr,h];show _*(ps []*ps B+ps A)=_;rw[ps_nil,PS.zero_mul,PS.zero_add]
theorem lc_ne0 {B:List Int}(h:tz B≠0):lc B≠0:=cf_tz_pred h
theorem lcp_ne {B:List Int}(h:tz B≠0)(n:Nat):lc B^n≠0:=Int.pow_ne_zero (lc_ne0 h)
theorem drem_tz {A B:List Int}(h:tz B≠0):tz (dr A B)<tz B:=dres_tz rfl h (Int.dvd_refl _) _ _ (by show tz A<tz B+dxp A B;unfold dxp;omega)
def eu:Nat->List Int->List Int->List Int
 |0,A,_=>A
 |n+1,A,B=>if tz B=0 then A else eu n B (npr (dr A B))
theorem eu_gg:∀(n:Nat) (A B:List Int),tz B<=n->GG (eu n A B) A B
 |0,A,B,h=>.zero (by omega)
 |n+1,A,B,h=>by
  rw[eu];split
  .rename_i h0;exact .zero h0
  .rename_i h0;have ht:=drem_tz (A:=A) h0;have ih:=eu_gg n B (npr (dr A B)) (by rw[tz_npr];omega);exact(ih.as (.refl _) (.refl _) (as_npr _).symm).step (lcp_ne h0 _) (dres_div A B)
theorem eu_nf:∀(n:Nat) (A B:List Int),Nf A->Nf B->Nf (eu n A B)
 |0,A,B,h,_=>h
 |n+1,A,B,h,h2=>by
  rw[eu];split
  .exact h
  .exact eu_nf n B _ h2 (nf_npr _)
def gcdp (A B:List Int):List Int:=eu (tz B) (npr A) (npr B)
theorem gcdp_gg (A B:List Int):GG (gcdp A B) A B:=(eu_gg (tz B) (npr A) (npr B) (by rw[tz_npr];omega)).as (.refl _) (as_npr A).symm (as_npr B).symm
theorem gcdp_nf (A B:List Int):Nf (gcdp A B):=eu_nf _ _ _ (nf_npr A) (nf_npr B)
theorem gcdp_eq {A B G:List Int}(h:GG G A B)(n:Nf G):ps G=ps (gcdp A B):=h.uniq (gcdp_gg A B) n (gcdp_nf A B)
theorem gcdp_as {A A' B B':List Int}(hA:As A A')(hB:As B B'):ps (gcdp A B)=ps (gcdp A' B'):=gcdp_eq ((gcdp_gg A B).as (.refl _) hA hB) (gcdp_nf A B)
theorem dv_dr {A B:List Int}(h:tz B≠0):Dv B A↔tz (dr A B)=0:=by
 have e:=dres_div A B;constructor
 .intro hd;have h1:Dv B (dr A B):=hd.lin (U:=[lc B^dxp A B]) (V:=pscale (-1) (dq A B)) (.refl B) (k:=1) (by decide) (by
   rw[ps_const,<-e,ps_pscale,PS.neg_one_C,PS.neg_mul,PS.C_one,PS.one_mul];generalize ps (dq A B)*ps B=x;generalize ps (dr A B)=y;refine PS.ext λk=>?_;simp only[PS.c_add,PS.c_neg];omega)
  by_cases h0:tz (dr A B)=0
  .exact h0
  .have:=(dv_tz h1 h0).2;have:=drem_tz (A:=A) h;omega
 .intro h0;exact⟨_,dq A B,lcp_ne h _,by rw[<-e,ps_zero_of h0,PS.add_zero]⟩
def quo (A B:List Int):List Int:=npr (dq A B)
def SBd (k:Nat)(q:List Int):Prop:=∀i,zl (cf q i)<=k
theorem SBd.mono {k m:Nat}{q:List Int}(h:SBd k q)(hk:k<=m):SBd m q:=λi=>Nat.le_trans (h i) hk
theorem sb_prim {k:Nat}{q:List Int}(h:SBd k q):SBd k (prim q):=λi=>by
 by_cases hc:cont q=0
 .rw[(prim_zero hc i).1,zl_zero];omega
 .have:=zl_div (cont_dvd q i);have e:cf (prim q) i=cf q i/cont q:=cf_pdivs _ _ _;rw[e];exact Nat.le_trans this (h i)
theorem sb_npr {k:Nat}{q:List Int}(h:SBd k q):SBd k (npr q):=λi=>by
 rw[npr,cf_trimz];exact sb_prim h i
theorem dres_sz {L:Int}{B:List Int}{b:Nat}(hL:L≠0)(hB:SBd b B)(hl:zl L<=b):∀(n r:Nat) (s:List Int×List Int),SBd r s.1->SBd r s.2->SBd (r+n*(b+1)) (dres L L B n s).1/\SBd (r+n*(b+1)) (dres L L B n s).2
 |0,r,s,h1,h2=>by rw[Nat.zero_mul,Nat.add_zero];exact⟨h1,h2⟩
 |n+1,r,s,h1,h2=>by
  rw[dres];have hr:r+(n+1)*(b+1)=r+(b+1)+n*(b+1):=by rw[Nat.succ_mul];omega
  rw[hr];have sc:∀q,SBd r q->SBd (r+b) (pscale L q):=λq h i=>by
   rw[cf_pscale];have:=zl_mul (cf q i) L;have:=h i;omega
  split
  .refine dres_sz hL hB hl n _ _ (λi=>?_) (λi=>?_)
   .show zl (cf (padd (pscale L s.1) (mono _ _)) i)<=_;rw[cf_padd,cf_mono,Int.mul_ediv_cancel_left _ hL];have a1:=sc _ h1 i;have a2:zl (if i=tz s.2-tz B then lc s.2 else 0)<=r:=by
     split
     .exact h2 _
     .rw[zl_zero];omega
    have:=zl_add (cf (pscale L s.1) i) (if i=tz s.2-tz B then lc s.2 else 0);omega
   .show zl (cf (padd (pscale L s.2) (pscale (-1) (pmul (mono _ _) B))) i)<=_;rw[cf_padd,cf_pscale (-1),cf_mono_mul,Int.mul_ediv_cancel_left _ hL];have a1:=sc _ h2 i;have a2:zl ((if tz s.2-tz B<=i then lc s.2*cf B (i-(tz s.2-tz B)) else 0) * -1)<=r+b:=by
     rw[Int.mul_neg,Int.mul_one,zl_neg];split
     .have:=zl_mul (lc s.2) (cf B (i-(tz s.2-tz B)));have h3:zl (lc s.2)<=r:=h2 _;have:=hB (i-(tz s.2-tz B));omega
     .rw[zl_zero];omega
    have:=zl_add (cf (pscale L s.2) i) ((if tz s.2-tz B<=i then lc s.2*cf B (i-(tz s.2-tz B)) else 0) * -1);omega
  .exact dres_sz hL hB hl n _ _ ((sc _ h1).mono (by omega)) ((sc _ h2).mono (by omega))
theorem div_sz {A B:List Int}{a b:Nat}(hB0:tz B≠0)(hA:SBd a A)(hB:SBd b B):SBd (a+dxp A B*(b+1)) (dq A B)/\SBd (a+dxp A B*(b+1)) (dr A B) :=
 dres_sz (lc_ne0 hB0) hB (hB _) _ _ _ (λi=>by rw[cf_nil,zl_zero];omega) hA
def EZ (S:Nat):Nat->Nat
 |0=>S
 |1=>2*S+1
 |i+2=>2*EZ S (i+1)+EZ S i+2
theorem EZ.succ (S:Nat):∀i,EZ S i<=EZ S (i+1)
 |0=>by show S<=2*S+1;omega
 |i+1=>by show EZ S (i+1)<=2*EZ S (i+1)+EZ S i+2;omega
theorem EZ.mono (S:Nat){i j:Nat}(h:i<=j):EZ S i<=EZ S j:=by
 induction h with
 |refl=>exact Nat.le_refl _
 |step _ ih=>exact Nat.le_trans ih (EZ.succ S _)
theorem EZ.grow (S u:Nat):∀d,EZ S u+(d+2)*(EZ S (u+1)+1)<=EZ S (u+2+d)
 |0=>by show _<=2*EZ S (u+1)+EZ S u+2;omega
 |d+1=>by
  have ih:=EZ.grow S u d;have h1:EZ S (u+1)<=EZ S (u+1+d):=EZ.mono S (by omega);have e:EZ S (u+2+(d+1))=2*EZ S (u+1+d+1)+EZ S (u+1+d)+2:=by
   rw[show u+2+(d+1)=(u+1+d)+2 by omega,EZ]
  rw[show u+2+d=u+1+d+1 by omega]at ih;rw[e,show d+1+2=(d+2)+1 by omega,Nat.succ_mul];omega
structure EI (D S:Nat) (X Y:List Int):Prop where
 x:tz X<=D
 y:tz Y<=D
 s:(SBd S X/\SBd S Y)\/(tz Y<tz X/\SBd (EZ S (D-tz X)) X/\SBd (EZ S (D-tz X+1)) Y)
theorem EI.bd {D S:Nat}{X Y:List Int}(h:EI D S X Y):SBd (EZ S D) X/\SBd (EZ S D) Y:=by
 rcases h.s with ⟨a,b⟩|⟨l,a,b⟩
 .have:S<=EZ S D:=EZ.mono S (i:=0) (by omega);exact⟨a.mono this,b.mono this⟩
 .have:=h.x;exact⟨a.mono (EZ.mono S (by omega)),b.mono (EZ.mono S (by omega))⟩
theorem EI.step {D S:Nat}{X Y:List Int}(h:EI D S X Y)(h0:tz Y≠0):EI D S Y (npr (dr X Y)):=by
 have ht:=drem_tz (A:=X) h0;have hx:=h.x;have hy:=h.y;refine⟨h.y,by rw[tz_npr];omega,.inr ⟨by rw[tz_npr];omega,?_⟩⟩;have norm:tz Y<tz X->SBd (EZ S (D-tz X)) X->SBd (EZ S (D-tz X+1)) Y->SBd (EZ S (D-tz Y)) Y/\SBd (EZ S (D-tz Y+1)) (npr (dr X Y)):=λl a b=>by
  refine⟨b.mono (EZ.mono S (by omega)),sb_npr ((div_sz h0 a b).2.mono ?_)⟩;have g:=EZ.grow S (D-tz X) (tz X-tz Y-1);rw[show tz X-tz Y-1+2=dxp X Y by unfold dxp;omega,show D-tz X+2+(tz X-tz Y-1)=D-tz Y+1 by omega]at g;exact g
 rcases h.s with ⟨a,b⟩|⟨l,a,b⟩
 .by_cases l:tz Y<tz X
  .exact norm l (a.mono (EZ.mono S (i:=0) (by omega))) (b.mono (EZ.mono S (i:=0) (by omega)))
  .refine⟨b.mono (EZ.mono S (i:=0) (by omega)),sb_npr ((div_sz h0 a b).2.mono ?_)⟩;have g:EZ S 1<=EZ S (D-tz Y+1):=EZ.mono S (by omega);have e1:EZ S 1=2*S+1:=rfl;have hd:dxp X Y<=1:=by unfold dxp;omega
   have:=Nat.mul_le_mul_right (S+1) hd;omega
 .exact norm l a b
theorem EI.start {D S:Nat}{A B:List Int}(ha:tz A<=D)(hb:tz B<=D)(sa:SBd S A)(sb:SBd S B):EI D S (npr A) (npr B):=⟨by rw[tz_npr];exact ha,by rw[tz_npr];exact hb,.inl ⟨sb_npr sa,sb_npr sb⟩⟩
theorem zl_pow {a:Int}{K:Nat}(h:zl a<=K)(i:Nat):zl (a^i)<=i*K+1:=by
 induction i with
 |zero=>rw[Int.pow_zero];have:zl 1<=1:=zl_le.mpr (by decide);omega
 |succ i ih =>
  rw[Int.pow_succ];have:=zl_mul (a^i) a;rw[Nat.succ_mul];omega
def ev:List Int->Int->Int
 |[],_=>0
 |c::p,t=>c+t*ev p t
theorem zl_ev {K kt:Nat}{t:Int}(ht:zl t<=kt):∀{p:List Int},(∀z∈p,zl z<=K)->zl (ev p t)<=K+p.length*(kt+1)
 |[],_=>by rw[ev,zl_zero];omega
 |c::p,h=>by
  have ih:=zl_ev (p:=p) ht λz hz=>h z (List.mem_cons_of_mem _ hz)
  have h1:=zl_add c (t*ev p t);have h2:=zl_mul t (ev p t);have h3:=h c (by simp);rw[ev,List.length_cons,Nat.succ_mul];omega
def sdi (a:Int):List Int->List Int
 |[]=>[]
 |c::q=>ev q a::sdi a q
theorem evi_split (a x:Int):∀p:List Int,ev p x=ev p a+(x-a)*ev (sdi a p) x
 |[]=>by show (0:Int)=0+(x-a)*0;omega
 |c::q=>by
  have ih:=evi_split a x q;show c+x*ev q x=c+a*ev q a+(x-a)*(ev q a+x*ev (sdi a q) x);rw[ih];generalize ev q a=Q;generalize ev (sdi a q) x=E
  grind
theorem cf_sdi (a:Int):∀(p:List Int) (k:Nat),cf p k=(if k=0 then ev p a else cf (sdi a p) (k-1))-a*cf (sdi a p) k
 |[],k=>by
  show cf [] k=(if k=0 then 0 else cf [] (k-1))-a*cf [] k;rw[cf_nil,cf_nil];split<;>omega
 |c::q,0=>by
  show c=c+a*ev q a-a*ev q a;omega
 |c::q,k+1=>by
  have ih:=cf_sdi a q k;rw[if_neg (by omega),Nat.add_sub_cancel];show cf q k=cf (ev q a::sdi a q) k-a*cf (sdi a q) k;rw[ih]
  congr 1
  cases k with
  |zero=>rfl
  |succ k=>rfl
theorem ev_zero {a:Int}:∀{p:List Int},(∀k,cf p k=0)->ev p a=0
 |[],_=>rfl
 |c::q,h=>by
  have h0:c=0:=h 0;rw[ev,ev_zero (p:=q) λk=>h (k+1),h0];omega
theorem sdi_low {a:Int}:∀(p:List Int) {n:Nat},(∀k,n+1<=k->cf p k=0)->∀k,n<=k->cf (sdi a p) k=0
 |[],n,_,k,_=>cf_nil k
 |c::q,0,h,0,_=>ev_zero λk=>h (k+1) (by omega)
 |c::q,n+1,h,0,hk=>absurd hk (by omega)
 |c::q,0,h,k+1,_=>sdi_low q (n:=0) (λj hj=>h (j+1) (by omega)) k (by omega)
 |c::q,n+1,h,k+1,hk=>sdi_low q (n:=n) (λj hj=>h (j+1) (by omega)) k (by omega)
theorem zl_le_mul {z y:Int}(hz:z≠0):zl y<=zl (z*y):=by
 have h:zl (z*y)<=zl (z*y):=Nat.le_refl _;have h1:=zl_le.mp h;refine zl_le.mpr (Nat.lt_of_le_of_lt ?_ h1);rw[Int.natAbs_mul];exact Nat.le_mul_of_pos_left _ (Int.natAbs_pos.mpr hz)
theorem vals_sz:∀(l:List Int) (g:List Int) (m:Nat),l.Nodup->(∀k,l.length<=k->cf g k=0)->(∀a∈l,zl a<=1/\zl (ev g a)<=m)->SBd (m+4*l.length) g
 |[],g,m,_,h,_=>λi=>by rw[h i (Nat.zero_le _),zl_zero];omega
 |a::l,g,m,hd,h,hv=>by
  have hd':=List.nodup_cons.mp hd;obtain⟨va1,va2⟩:=hv a (by simp);have ih:=vals_sz l (sdi a g) (m+1) hd'.2 (λk hk=>sdi_low g (n:=l.length) (λj hj=>h j (by rw[List.length_cons];omega)) k hk) λb hb=>by
   obtain⟨vb1,vb2⟩:=hv b (by simp[hb]);refine⟨vb1,?_⟩;have hne:b-a≠0:=λe=>hd'.1 (by rw[show a=b by omega];exact hb)
   have e:=evi_split a b g;have e2:(b-a)*ev (sdi a g) b=ev g b + -(ev g a):=by omega
   have h1:=zl_le_mul (y:=ev (sdi a g) b) hne;rw[e2]at h1;have h2:=zl_add (ev g b) (-(ev g a));rw[zl_neg]at h2;omega
  intro i;rw[cf_sdi a g i,Int.sub_eq_add_neg,List.length_cons];have h1:=zl_mul a (cf (sdi a g) i);have h2:=ih i;have h3:zl (if i=0 then ev g a else cf (sdi a g) (i-1))<=m+1+4*l.length:=by
   split
   .omega
   .exact ih _
  have h4:=zl_add (if i=0 then ev g a else cf (sdi a g) (i-1)) (-(a*cf (sdi a g) i));rw[zl_neg]at h4;omega
theorem roots_all:∀(l:List Int) (p:List Int),l.Nodup->(∀k,l.length<=k->cf p k=0)->(∀a∈l,ev p a=0)->∀k,cf p k=0
 |[],p,_,h,_,k=>h k (Nat.zero_le _)
 |a::l,p,hd,h,hv,k=>by
  have hd':=List.nodup_cons.mp hd;have va:=hv a (by simp);have ih:=roots_all l (sdi a p) hd'.2 (λk hk=>sdi_low p (n:=l.length) (λj hj=>h j (by rw[List.length_cons];omega)) k hk) λb hb=>by
   have vb:=hv b (by simp[hb]);have hne:b-a≠0:=λe=>hd'.1 (by rw[show a=b by omega];exact hb)
   have e:=evi_split a b p;rw[va,vb,Int.zero_add]at e;exact(Int.mul_eq_zero.mp e.symm).resolve_left hne
  rw[cf_sdi a p k,ih k,va];split
  .omega
  .rw[ih];omega
theorem filter_two {α:Type}(f:α->Bool):∀l:List α,(l.filter f).length+(l.filter λx=>!f x).length=l.length
 |[]=>rfl
 |x::l=>by
  have ih:=filter_two f l;cases hx:f x<;>simp[hx]<;>omega
def ipts (n:Nat):List Int:=(List.range n).map λ(i:Nat)=>(i:Int)
theorem ipts_nodup (n:Nat):(ipts n).Nodup:=by
 unfold ipts;refine List.Pairwise.map _ (λa b (h:a≠b)=>?_) List.nodup_range;intro e;exact h (Int.ofNat.inj e)
theorem pts_ex {p:List Int}{n:Nat}(h0:tz p≠0)(hn:tz p<=n)(hn2:n<=10000):∃l:List Int,l.Nodup/\n<=l.length/\l.length<=2*n/\∀a∈l,zl a<=1/\ev p a≠0:=by
 have hl:(ipts (2*n)).length=2*n:=by simp[ipts]
 have h2:=filter_two (λa=>decide (ev p a=0)) (ipts (2*n));have hr:((ipts (2*n)).filter λa=>decide (ev p a=0)).length<n:=by
  refine Nat.lt_of_not_le λhge=>h0 (tz_zero_iff.mpr ?_);exact roots_all ((ipts (2*n)).filter λa=>decide (ev p a=0)) p ((ipts_nodup _).filter _) (λk hk=>cf_ge_tz p (by omega)) λa ha=>by
   have:=(List.mem_filter.mp ha).2;simpa using this
 refine⟨(ipts (2*n)).filter λa=>!decide (ev p a=0),(ipts_nodup _).filter _,by omega,by omega,λa ha=>?_⟩;obtain⟨m1,m2⟩:=List.mem_filter.mp ha;refine⟨?_,by simpa using m2⟩;obtain⟨i,hi,rfl⟩:=List.mem_map.mp m1;have:=List.mem_range.mp hi;refine zl_le.mpr ?_;rw[Nat.pow_one,Int.natAbs_natCast];simp only[W];omega
theorem ev_ext {p q:List Int}(a:Int)(h:∀k,cf p k=cf q k):ev p a=ev q a:=by
 have key:∀p q:List Int,(∀k,cf p k=cf q k)->ev p a=ev q a:=by
  intro p
  induction p with
  |nil=>intro q hq;exact(ev_zero λk=>by rw[<-hq];exact cf_nil k).symm
  |cons c p ih =>
   intro q hq;cases q with
   |nil=>exact ev_zero λk=>hq k
   |cons d q =>
    have h0:c=d:=hq 0;rw[ev,ev,ih q λk=>hq (k+1),h0]
 exact key p q h
theorem ev_padd (a:Int):∀p q:List Int,ev (padd p q) a=ev p a+ev q a:=by
 intro p
 induction p with
 |nil =>
  intro q;rw[ev_ext (p:=padd [] q) (q:=q) a λk=>by rw[cf_padd,cf_nil,Int.zero_add]];show _=0+_;omega
 |cons c p ih =>
  intro q;cases q with
  |nil =>
   rw[ev_ext (p:=padd (c::p) []) (q:=c::p) a λk=>by rw[cf_padd,cf_nil,Int.add_zero]];show _=_+0;omega
  |cons d q =>
   rw[ev_ext (p:=padd (c::p) (d::q)) (q:=(c+d)::padd p q) a λk=>by
    cases k with
    |zero=>rw[cf_padd];rfl
    |succ k=>rw[cf_padd];exact(cf_padd p q k).symm]
   rw[ev,ev,ev,ih,Int.mul_add];omega
theorem ev_pscale (a c:Int)(p:List Int):ev (pscale c p) a=ev p a*c:=by
 induction p with
 |nil=>show (0:Int)=0*c;omega
 |cons x p ih =>
  show x*c+a*ev (pscale c p) a=(x+a*ev p a)*c;rw[ih,Int.add_mul,Int.mul_assoc]
theorem ev_pmul (a:Int):∀p q:List Int,ev (pmul p q) a=ev p a*ev q a:=by
 intro p
 induction p with
 |nil =>
  intro q;rw[ev_zero λk=>by rw[cf_pmul];rfl];show (0:Int)=0*_;omega
 |cons x p ih =>
  intro q;rw[ev_ext (p:=pmul (x::p) q) (q:=padd (pscale x q) (0::pmul p q)) a λk=>by
   rw[cf_pmul_cons,cf_padd,cf_pscale,Int.mul_comm]
   congr 1
   cases k with
   |zero=>rfl
   |succ k=>rfl]
  rw[ev_padd,ev_pscale];show _+(0+a*ev (pmul p q) a)=(x+a*ev p a)*ev q a;rw[ih,Int.add_mul,Int.mul_comm x,Int.mul_assoc];omega
theorem factor_sz {p g s:List Int}{n S:Nat}(h0:tz p≠0)(hn:tz p<=n)(hn2:n<=10000)(hS:SBd S p)(e:ps s*ps g=ps p):SBd (S+10*n) g:=by
 obtain⟨l,l1,l2,l3,l4⟩:=pts_ex h0 hn hn2;have ht:tz (pmul s g)=tz p:=tz_of_ps (by rw[ps_pmul,e]);have hs:tz s≠0:=λh=>h0 (by rw[<-ht];exact tz_pmul_zero (.inl h))
 have hg:tz g≠0:=λh=>h0 (by rw[<-ht];exact tz_pmul_zero (.inr h))
 rw[tz_pmul hs hg]at ht;refine SBd.mono (vals_sz l g (S+2*n) l1 (λk hk=>cf_ge_tz g (by omega)) λa ha=>⟨(l4 a ha).1,?_⟩) (by omega);have h1:ev p a=ev s a*ev g a:=by
  rw[<-ev_pmul];exact ev_ext a (ps_eq (by rw[ps_pmul,e]))
 have h2:ev s a≠0:=λh=>(l4 a ha).2 (by rw[h1,h,Int.zero_mul])
 have h3:=zl_le_mul (y:=ev g a) h2;rw[<-h1]at h3;have h4:zl (ev p a)<=S+2*n:=by
  rw[ev_ext (p:=p) (q:=trimz p) a λk=>(cf_trimz p k).symm];have h5:=zl_ev (l4 a ha).1 (K:=S) (p:=trimz p) λz hz=>by
   obtain⟨i,hi,rfl⟩:=List.getElem_of_mem hz;have:=hS i;rw[<-cf_trimz p i]at this;simpa [cf,List.getD,hi] using this
  rw[trimz_len]at h5;omega
 omega
theorem dv_int {g p:List Int}(hg:Prm g)(h:Dv g p):∃s,ps s*ps g=ps p:=by
 obtain⟨c,S,hc,e⟩:=h;have hc1:cont (pscale c p)=cont S:=by
  have h1:cont (pmul S g)=cont (pscale c p):=by
   have e2:∀k,cf (pmul S g) k=cf (pscale c p) k:=ps_eq (by rw[ps_pmul,ps_pscale,e]);unfold cont lc;rw[gz_eq e2,tz_eq_of_cf e2,e2]
  rw[<-h1,cont_mul,(prm_self hg).1,Int.mul_one]
 have hd:∀k,c∣cf S k:=λk=>by
  have h1:c∣cont S:=by
   rw[<-hc1];refine Int.dvd_natAbs.mp ?_;rw[cont_natAbs];refine Int.natAbs_dvd.mp (Int.natCast_dvd_natCast.mpr ?_);exact gz_greatest _ _ λk=>by
    rw[cf_pscale];exact Int.natAbs_dvd.mpr (Int.dvd_mul_left _ _)
  exact Int.dvd_trans h1 (cont_dvd S k)
 refine⟨pdivs c S,C_cancel hc ?_⟩;rw[<-PS.mul_assoc,<-e]
 congr 1
 refine PS.ext λk=>?_;rw[PS.C_mul_c,ps_c,ps_c,cf_pdivs,Int.mul_ediv_cancel' (hd k)]
theorem nf_prm {A:List Int}(h:Nf A)(h0:tz A≠0):Prm A:=h.resolve_left h0
theorem dv_sz {p g:List Int}{n S:Nat}(h0:tz p≠0)(hn:tz p<=n)(hn2:n<=10000)(hS:SBd S p)(hg:Nf g)(h:Dv g p):SBd (S+10*n) g:=by
 obtain⟨s,e⟩:=dv_int (nf_prm hg (dv_tz h h0).1) h;exact factor_sz h0 hn hn2 hS e
def er:List Int->Rat->Rat
 |[],_=>0
 |c::p,x=>(c:Rat)+x*er p x
theorem er_zero {x:Rat}:∀{p:List Int},(∀k,cf p k=0)->er p x=0
 |[],_=>rfl
 |c::p,h=>by
  have h0:c=0:=h 0;rw[er,er_zero λk=>h (k+1),h0]
  grind
theorem er_ext {p q:List Int}(x:Rat)(h:∀k,cf p k=cf q k):er p x=er q x:=by
 induction p generalizing q with
 |nil=>exact(er_zero λk=>by rw[<-h];exact cf_nil k).symm
 |cons c p ih =>
  cases q with
  |nil=>exact er_zero λk=>h k
  |cons d q =>
   have h0:c=d:=h 0;rw[er,er,ih λk=>h (k+1),h0]
theorem er_of_ps {p q:List Int}(h:ps p=ps q)(x:Rat):er p x=er q x:=er_ext x (ps_eq h)
theorem er_padd (x:Rat):∀p q:List Int,er (padd p q) x=er p x+er q x:=by
 intro p
 induction p with
 |nil =>
  intro q;rw[er_ext (p:=padd [] q) (q:=q) x λk=>by rw[cf_padd,cf_nil,Int.zero_add]];simp only[er];grind
 |cons c p ih =>
  intro q;cases q with
  |nil =>
   rw[er_ext (p:=padd (c::p) []) (q:=c::p) x λk=>by rw[cf_padd,cf_nil,Int.add_zero]];simp only[er];grind
  |cons d q =>
   rw[er_ext (p:=padd (c::p) (d::q)) (q:=(c+d)::padd p q) x λk=>by
    cases k with
    |zero=>rw[cf_padd];rfl
    |succ k=>rw[cf_padd];exact(cf_padd p q k).symm]
   simp only[er,ih,Rat.intCast_add]
   grind
theorem er_pscale (x:Rat)(c:Int)(p:List Int):er (pscale c p) x=er p x*c:=by
 induction p with
 |nil=>show (0:Rat)=0*c;grind
 |cons y p ih =>
  show ((y*c:Int):Rat)+x*er (pscale c p) x=(y+x*er p x)*c;rw[ih,Rat.intCast_mul];grind
theorem er_pmul (x:Rat):∀p q:List Int,er (pmul p q) x=er p x*er q x:=by
 intro p
 induction p with
 |nil =>
  intro q;rw[er_zero λk=>by rw[cf_pmul];rfl];show (0:Rat)=0*_
  grind
 |cons y p ih =>
  intro q;rw[er_ext (p:=pmul (y::p) q) (q:=padd (pscale y q) (0::pmul p q)) x λk=>by
   rw[cf_pmul_cons,cf_padd,cf_pscale,Int.mul_comm]
   congr 1
   cases k with
   |zero=>rfl
   |succ k=>rfl]
  rw[er_padd,er_pscale];simp only[er,ih,Rat.intCast_zero]
  grind
theorem lb_er:∀p:List Int,LB (er p)
 |[]=>LB.const 0
 |c::p=>(LB.const c).add (LB.id.mul (lb_er p))
theorem er_mul {p q r:List Int}(h:ps p=ps q*ps r)(x:Rat):er p x=er q x*er r x:=by
 rw[<-er_pmul];exact er_of_ps (by rw[ps_pmul,h]) x
theorem er_C {p q:List Int}{c:Int}(h:ps p=PS.C c*ps q)(x:Rat):er p x=c*er q x:=by
 rw[er_of_ps (q:=pscale c q) (by rw[h,ps_pscale]),er_pscale];grind
theorem er_div {a q b r:List Int}{c:Int}(h:ps q*ps b+ps r=PS.C c*ps a)(x:Rat):c*er a x=er q x*er b x+er r x:=by
 have h1:ps (padd (pmul q b) r)=PS.C c*ps a:=by rw[ps_padd,ps_pmul,h]
 rw[<-er_C h1 x,er_padd,er_pmul]
theorem er_deriv_mul {p q r:List Int}(h:ps p=ps q*ps r)(x:Rat):er (pderiv p) x=er (pderiv q) x*er r x+er q x*er (pderiv r) x:=by
 have:ps (pderiv p)=ps (padd (pmul (pderiv q) r) (pmul q (pderiv r))):=by
  rw[ps_padd,ps_pmul,ps_pmul,ps_pderiv,ps_pderiv,ps_pderiv,h];exact PS.D_mul _ _
 rw[er_of_ps this,er_padd,er_pmul,er_pmul]
def Fac (p:List Int)(r:Rat)(m:Nat):Prop:=∃A A':Rat->Rat,LB A/\LB A'/\A r≠0/\∀x,er p x=(x-r)^m*A x/\(x-r)*er (pderiv p) x=(x-r)^m*(m*A x+(x-r)*A' x)
theorem qpow_add (x:Rat)(m:Nat):∀k,x^(m+k)=x^m*x^k
 |0=>by rw[Nat.add_zero,Rat.pow_zero,Rat.mul_one]
 |k+1=>by rw[<-Nat.add_assoc,Rat.pow_succ,Rat.pow_succ,qpow_add x m k,Rat.mul_assoc]
theorem Fac.mul {p q s:List Int}{r:Rat}{m k:Nat}(h:ps s=ps p*ps q)(hp:Fac p r m)(hq:Fac q r k):Fac s r (m+k):=by
 obtain⟨A,A',a1,a2,a3,a4⟩:=hp;obtain⟨B,B',b1,b2,b3,b4⟩:=hq;refine⟨λx=>A x*B x,λx=>A' x*B x+A x*B' x,a1.mul b1,(a2.mul b1).add (a1.mul b2),?_,λx=>?_⟩
 .rcases nz_cases a3 with u|u<;>rcases nz_cases b3 with v|v
  .have:=Rat.mul_pos u v;grind
  .have:=Rat.mul_pos u (show 0 < -B r by grind);grind
  .have:=Rat.mul_pos (show 0 < -A r by grind) v;grind
  .have:=Rat.mul_pos (show 0 < -A r by grind) (show 0 < -B r by grind);grind
 .obtain⟨e1,e2⟩:=a4 x;obtain⟨f1,f2⟩:=b4 x;refine⟨by rw[er_mul h,e1,f1,qpow_add];grind,?_⟩;rw[er_deriv_mul h,qpow_add];have c:((m+k:Nat):Rat)=(m:Rat)+(k:Rat):=Rat.natCast_add m k;rw[c];have:(x-r)*(er (pderiv p) x*er q x+er p x*er (pderiv q) x)=(x-r)*er (pderiv p) x*er q x+er p x*((x-r)*er (pderiv q) x):=by grind
  rw[this,e2,f2,e1,f1]
  grind
def BA (f:Rat->Rat)(s t:Rat):Prop:=∃e,0<e/\∀x,s<=x->x<=t->Big e (f x)
theorem BA.mul {f g:Rat->Rat}{s t:Rat}(hf:BA f s t)(hg:BA g s t):BA (λx=>f x*g x) s t:=by
 obtain⟨e,he,h1⟩:=hf;obtain⟨d,hd,h2⟩:=hg;refine⟨e*d,Rat.mul_pos he hd,λx a b=>?_⟩;rcases h1 x a b with u|u<;>rcases h2 x a b with v|v
 .left
  have:=Rat.mul_nonneg (show 0<=f x-e by grind) (show 0<=g x by grind);have:=Rat.mul_nonneg (show 0<=e by grind) (show 0<=g x-d by grind)
  grind
 .right
  have:=Rat.mul_nonneg (show 0<=f x-e by grind) (show 0<=-g x by grind);have:=Rat.mul_nonneg (show 0<=e by grind) (show 0<=-g x-d by grind)
  grind
 .right
  have:=Rat.mul_nonneg (show 0<=-f x-e by grind) (show 0<=g x by grind);have:=Rat.mul_nonneg (show 0<=e by grind) (show 0<=g x-d by grind)
  grind
 .left
  have:=Rat.mul_nonneg (show 0<=-f x-e by grind) (show 0<=-g x by grind);have:=Rat.mul_nonneg (show 0<=e by grind) (show 0<=-g x-d by grind)
  grind
theorem BA.sign {f:Rat->Rat}(hf:LB f){s t:Rat}(hst:s<=t)(h:BA f s t):0<f s*f t:=by
 obtain⟨e,he,hb⟩:=h;obtain⟨M,m1,m2⟩:∃M:Rat,-M<=s/\t<=M:=by
  rcases Rat.le_total (a:=-s) (b:=t) with h|h
  .exact⟨t,by grind,by grind⟩
  .exact⟨-s,by grind,by grind⟩
 obtain⟨d,hd,near⟩:=cs_of hf M he;have step:∀(n:Nat) (a b:Rat),s<=a->a<=b->b<=t->b-a<=n*d->0<f a*f b:=by
  intro n
  induction n with
  |zero=>intro a b h1 h2 h3 h4;exact near a b (by grind) h2 (by grind) (by grind) (hb a h1 (by grind)) b h2 Rat.le_refl
  |succ n ih =>
   intro a b h1 h2 h3 h4;by_cases hs:b-a<=d
   .exact near a b (by grind) h2 (by grind) hs (hb a h1 (by grind)) b h2 Rat.le_refl
   .have e1:=near a (a+d) (by grind) (by grind) (by grind) (by grind) (hb a h1 (by grind)) (a+d) (by grind) Rat.le_refl;have e2:=ih (a+d) b (by grind) (by grind) h3 (by grind);rcases pos_cases e1 with ⟨u,v⟩|⟨u,v⟩<;>rcases pos_cases e2 with ⟨u',v'⟩|⟨u',v'⟩
    .exact Rat.mul_pos u v'
    .grind
    .grind
    .have:=Rat.mul_pos (show 0 < -f a by grind) (show 0 < -f b by grind);grind
 obtain⟨n,hn⟩:=arch d (t-s) hd;exact step n s t Rat.le_refl hst Rat.le_refl hn
theorem LB.at_point {f g:Rat->Rat}(hf:LB f)(hg:LB g){r:Rat}(h:∀x,x≠r->f x=g x):f r=g r:=by
 have hd:=hf.sub hg;by_cases h0:f r-g r=0
 .grind
 .exfalso
  obtain⟨M,m1,m2⟩:∃M:Rat,-M<=r/\r+1<=M:=by
   rcases Rat.le_total (a:=-r) (b:=r+1) with h|h
   .exact⟨r+1,by grind,by grind⟩
   .exact⟨-r,by grind,by grind⟩
  have key:∀e:Rat,0<e->Big e (f r-g r)->False:=λe he hb=>by
   obtain⟨d,hd0,near⟩:=cs_of hd M he;obtain⟨d',hd1,d1,d2⟩:∃c:Rat,0<c/\c<=d/\c<=1:=by
    rcases Rat.le_total (a:=d) (b:=1) with h|h
    .exact⟨d,hd0,Rat.le_refl,h⟩
    .exact⟨1,by grind,h,Rat.le_refl⟩
   have this:0<(f r-g r)*(f (r+d')-g (r+d')):=near r (r+d') m1 (by grind) (by grind) (by grind) hb (r+d') (by grind) Rat.le_refl;rw[h (r+d') (by grind)]at this
   grind
  rcases nz_cases h0 with u|u
  .exact key _ u (.inl Rat.le_refl)
  .exact key (-(f r-g r)) (by grind) (.inr (by grind))
def spos (A:List Int):List Int:=trimz (pdivs ((cont A).natAbs:Int) A)
theorem ps_spos (A:List Int):ps A=PS.C ((cont A).natAbs:Int)*ps (spos A):=PS.ext λk=>by
 have hd:((cont A).natAbs:Int)∣cf A k:=Int.natAbs_dvd.2 (cont_dvd A k);rw[PS.C_mul_c,ps_c,ps_c,spos,cf_trimz,cf_pdivs,Int.mul_ediv_cancel' hd]
theorem spos_trim (A:List Int):trimz (spos A)=spos A:=trimz_trimz _
theorem cont_zero {A:List Int}(h:cont A=0):tz A=0:=tz_zero_iff.mpr λk=>by
 have:=cont_dvd A k;rw[h]at this;exact Int.zero_dvd.mp this
theorem tz_spos (A:List Int):tz (spos A)=tz A:=by
 by_cases h:cont A=0
 .have h0:=cont_zero h;rw[h0];refine tz_zero_iff.mpr λk=>?_;rw[spos,cf_trimz,cf_pdivs,h,tz_zero_iff.mp h0 k];rfl
 .have e:=ps_spos A;have e2:ps A=ps (pscale ((cont A).natAbs:Int) (spos A)):=by rw[ps_pscale];exact e
  rw[tz_of_ps e2,tz_pscale (by omega)]
theorem dpos_div (A B:List Int):∃Q,ps Q*ps B+ps (dpos A B)=PS.C (((lc B).natAbs:Int)^dxp A B)*ps A:=by
 refine⟨(dres ((lc B).natAbs:Int) (lc B) B (dxp A B) ([],A)).1,?_⟩;have h:=dres_eq (c:=((lc B).natAbs:Int)) (L:=lc B) (B:=B) (dxp A B) ([],A);have e:∀(c:Int) n,PS.pw (PS.C c) n=PS.C (c^n):=λc n=>by
  induction n with
  |zero=>rw[PS.pw,Int.pow_zero,PS.C_one]
  |succ n ih=>rw[PS.pw_add,PS.pw_one,ih,Int.pow_succ,PS.C_mul]
 rw[e]at h;rw[dpos,h];show _*(ps []*ps B+ps A)=_;rw[ps_nil,PS.zero_mul,PS.zero_add]
theorem dpos_tz {A B:List Int}(h:tz B≠0):tz (dpos A B)<tz B:=dres_tz rfl h (Int.dvd_natAbs.2 (Int.dvd_refl _)) _ _ (by show tz A<tz B+dxp A B;unfold dxp;omega)
def snx (X Y:List Int):List Int:=spos (pscale (-1) (dpos X Y))
def srl:Nat->List Int->List Int->List (List Int)
 |0,X,_=>[X]
 |n+1,X,Y=>if tz Y=0 then [X] else X::srl n Y (snx X Y)
def sla:Nat->List Int->List Int->List Int
 |0,X,_=>X
 |n+1,X,Y=>if tz Y=0 then X else sla n Y (snx X Y)
theorem tz_snx {X Y:List Int}:tz (snx X Y)=tz (dpos X Y):=by
 rw[snx,tz_spos];exact tz_pscale (by decide) _
theorem snx_eq (X Y:List Int):∃(Q:List Int) (a k:Int),0<=k/\(tz Y≠0->0<a)/\(tz (snx X Y)≠0->0<k)/\∀x,(a:Rat)*er X x=er Q x*er Y x-(k:Rat)*er (snx X Y) x:=by
 obtain⟨Q,hQ⟩:=dpos_div X Y;have e:=ps_spos (pscale (-1) (dpos X Y));refine⟨Q,((lc Y).natAbs:Int)^dxp X Y,((cont (pscale (-1) (dpos X Y))).natAbs:Int),Int.natCast_nonneg _,λh=>Int.pow_pos (by have:=lc_ne0 h;omega),λh=>?_,λx=>?_⟩
 .have:cont (pscale (-1) (dpos X Y))≠0:=λh0=>h (by
   have:=cont_zero h0;rw[snx,tz_spos];exact this)
  omega
 .have h1:=er_div hQ x;have h2:=er_C (c:=((cont (pscale (-1) (dpos X Y))).natAbs:Int)) (p:=pscale (-1) (dpos X Y)) (q:=snx X Y) e x;rw[er_pscale]at h2;rw[h1];have h3:((-1:Int):Rat) = -1:=by rfl
  rw[h3]at h2
  grind
theorem srl_zero {n:Nat}{X Y:List Int}(h:tz Y=0):srl n X Y=[X]/\sla n X Y=X:=by
 cases n with
 |zero=>exact⟨rfl,rfl⟩
 |succ n=>rw[srl,sla,if_pos h,if_pos h];exact⟨rfl,rfl⟩
theorem srl_fun:∀(n:Nat) (X Y:List Int),tz Y<=n->∃(f:Rat->Rat) (l:List (Rat->Rat)),Ch (f::l)/\(∀x,(srl n X Y).map (λp=>er p x)=(f::l).map λh=>er (sla n X Y) x*h x)/\(∀x,er X x=er (sla n X Y) x*f x)/\(tz Y≠0->∃g l',l=g::l'/\∀x,er Y x=er (sla n X Y) x*g x)
 |0,X,Y,h=>by
  rw[(srl_zero (by omega)).1,(srl_zero (by omega)).2];exact⟨λ_=>1,[],.one λ_=>rfl,λx=>by simp,λx=>by grind,λh0=>by omega⟩
 |n+1,X,Y,h=>by
  by_cases h0:tz Y=0
  .rw[(srl_zero h0).1,(srl_zero h0).2];exact⟨λ_=>1,[],.one λ_=>rfl,λx=>by simp,λx=>by grind,λh1=>(h1 h0).elim⟩
  .have ht:tz (snx X Y)<=n:=by rw[tz_snx];have:=dpos_tz (A:=X) h0;omega
   obtain⟨g,l,hc,hm,hy,hz⟩:=srl_fun n Y (snx X Y) ht;obtain⟨Q,a,k,k0,ha,hk,e⟩:=snx_eq X Y;have ha:=ha h0;have ha':(0:Rat)<a:=by exact_mod_cast ha
   have hi:(a:Rat)*(a:Rat)⁻¹=1:=Rat.mul_inv_cancel _ (by grind);have hip:0<(a:Rat)⁻¹:=Rat.inv_pos.2 ha';rw[srl,sla,if_neg h0,if_neg h0];have lq:LB λx=>(a:Rat)⁻¹*er Q x:=(lb_er Q).smul _
   by_cases hs:tz (snx X Y)=0
   .have hl:=(srl_zero (n:=n) (X:=Y) hs);have lz:l=[]:=by
     have:=congrArg List.length (hm 0);rw[hl.1]at this;simpa using this.symm
    subst lz;have hg1:∀x,g x=1:=by cases hc;assumption
    have hxx:∀x,er X x=er (sla n Y (snx X Y)) x*((a:Rat)⁻¹*er Q x):=λx=>by
     have e1:=e x;rw[er_zero (p:=snx X Y) λj=>tz_zero_iff.mp hs j]at e1;rw[hl.2]
     grind
    refine⟨λx=>(a:Rat)⁻¹*er Q x,[g],.two lq hg1,λx=>?_,hxx,λ_=>⟨g,[],rfl,hy⟩⟩;rw[List.map_cons,hm x,List.map_cons,List.map_cons,hxx x];rfl
   .obtain⟨h',l',rfl,hz2⟩:=hz hs;have hk':(0:Rat)<k:=by exact_mod_cast hk hs
    have lf:LB λx=>(a:Rat)⁻¹*er Q x*g x-(a:Rat)⁻¹*k*h' x:=(lq.mul hc.lb).sub ((by cases hc with|two _ hg=>exact(LB.const 1).congr hg|more _ _ _ _ _ _ t=>exact t.lb:LB h').smul _)
    have hxx:∀x,er X x=er (sla n Y (snx X Y)) x*((a:Rat)⁻¹*er Q x*g x-(a:Rat)⁻¹*k*h' x):=λx=>by
     have e1:=e x;have e2:=hy x;have e3:=hz2 x;have e4:er X x=(a:Rat)⁻¹*((a:Rat)*er X x):=by grind
     rw[e4,e1,e2,e3]
     grind
    refine⟨_,g::h'::l',.more lf _ _ lq (Rat.mul_pos hip hk') (λx=>rfl) hc,λx=>?_,hxx,λ_=>⟨g,_,rfl,hy⟩⟩;rw[List.map_cons,hm x,List.map_cons,List.map_cons (l:=g::h'::l'),hxx x];rfl
theorem within (s t:Rat):∃M:Rat,-M<=s/\s<=M/\-M<=t/\t<=M:=by
 rcases Rat.le_total (a:=0) (b:=s) with h1|h1<;>rcases Rat.le_total (a:=0) (b:=t) with h2|h2
 .exact⟨s+t,by grind,by grind,by grind,by grind⟩
 .exact⟨s-t,by grind,by grind,by grind,by grind⟩
 .exact⟨t-s,by grind,by grind,by grind,by grind⟩
 .exact⟨-s-t,by grind,by grind,by grind,by grind⟩
theorem near_pos {f:Rat->Rat}(hf:LB f){r:Rat}(h:0<f r):∃d,0<d/\∀x,r-d<=x->x<=r+d->0<f x:=by
 obtain⟨M,m1,m2,m3,m4⟩:=within (r-1) (r+1);obtain⟨K,L,k0,l0,-,hL⟩:=hf M;have hi:=Rat.inv_pos.2 (show 0<L+1 by grind);have hone:(L+1)*(L+1)⁻¹=1:=Rat.mul_inv_cancel _ (by grind);have hu:0<f r*(1/2)*(L+1)⁻¹:=Rat.mul_pos (by grind) hi;obtain⟨d,d0,d1,d2⟩:∃d:Rat,0<d/\d<=f r*(1/2)*(L+1)⁻¹/\d<=1:=by
  rcases Rat.le_total (a:=f r*(1/2)*(L+1)⁻¹) (b:=1) with h|h
  .exact⟨_,hu,Rat.le_refl,h⟩
  .exact⟨1,by grind,h,Rat.le_refl⟩
 have hd:L*d<f r:=by
  have e6:(L+1)*(f r*(1/2)*(L+1)⁻¹)=f r*(1/2):=by
   rw[show (L+1)*(f r*(1/2)*(L+1)⁻¹)=(L+1)*(L+1)⁻¹*(f r*(1/2)) by grind,hone];grind
  have:=Rat.mul_nonneg (show 0<=L+1 by grind) (show 0<=f r*(1/2)*(L+1)⁻¹-d by grind)
  grind
 refine⟨d,d0,λx h1 h2=>?_⟩;rcases Rat.le_total (a:=r) (b:=x) with h|h
 .have:=hL r x (by grind) h (by grind);have:=Rat.mul_nonneg l0 (show 0<=d-(x-r) by grind)
  grind
 .have:=hL x r (by grind) h (by grind);have:=Rat.mul_nonneg l0 (show 0<=d-(r-x) by grind)
  grind
theorem BA.of_mul {u f:Rat->Rat}(hu:LB u){s t:Rat}(h:BA (λx=>u x*f x) s t):BA f s t:=by
 obtain⟨e,he,hb⟩:=h;obtain⟨M,m1,m2,m3,m4⟩:=within s t;obtain⟨K,L,k0,l0,hK,-⟩:=hu M;have hi:=Rat.inv_pos.2 (show 0<K+1 by grind);have hone:(K+1)*(K+1)⁻¹=1:=Rat.mul_inv_cancel _ (by grind);have hd:0<e*(K+1)⁻¹:=Rat.mul_pos he hi;refine⟨e*(K+1)⁻¹,hd,λx h1 h2=>?_⟩;by_cases hx:Big (e*(K+1)⁻¹) (f x)
 .exact hx
 .exfalso
  have hf : -(e*(K+1)⁻¹)<=f x/\f x<=e*(K+1)⁻¹:=by unfold Big at hx;constructor<;>grind
  have q:=hK x (by grind) (by grind);have m:=mul_bd q.1 q.2 hf.1 hf.2;have e1:K*(e*(K+1)⁻¹)=e-e*(K+1)⁻¹:=by
   have:(K+1)*(e*(K+1)⁻¹)=e:=by
    rw[show (K+1)*(e*(K+1)⁻¹)=(K+1)*(K+1)⁻¹*e by grind,hone];grind
   grind
  rcases hb x h1 h2 with h|h<;>grind
theorem qpow_ne {x:Rat}(h:x≠0):∀m:Nat,x^m≠0
 |0=>by rw[Rat.pow_zero];grind
 |m+1=>by
  rw[Rat.pow_succ];have h1:=qpow_ne h m;rcases nz_cases h1 with u|u<;>rcases nz_cases h with v|v
  .have:=Rat.mul_pos u v;grind
  .have:=Rat.mul_pos u (show 0 < -x by grind);grind
  .have:=Rat.mul_pos (show 0 < -x^m by grind) v;grind
  .have:=Rat.mul_pos (show 0 < -x^m by grind) (show 0 < -x by grind);grind
theorem cancel_l {a b c:Rat}(h:a≠0)(e:a*b=a*c):b=c:=by
 have h1:a⁻¹*a=1:=Rat.inv_mul_cancel _ h;have:a⁻¹*(a*b)=a⁻¹*(a*c):=by rw[e]
 rw[<-Rat.mul_assoc,<-Rat.mul_assoc,h1,Rat.one_mul,Rat.one_mul]at this;exact this
structure Root2 (P:List Int) (rs:List Rat):Prop where
 nd:rs.Nodup
 fac:∀r∈rs,∃m,0<m/\Fac P r m
 off:∀s t,s<=t->(∀r∈rs,¬(s<=r/\r<=t))->BA (er P) s t
theorem cross {P:List Int}{r:Rat}{m:Nat}(hm:0<m)(hF:Fac P r m){f g u:Rat->Rat}(lf:LB f)(lg:LB g){k k':Rat}(hk:0<k)(hk':0<k')(e1:∀x,er P x=k*(u x*f x))(e2:∀x,er (pderiv P) x=k'*(u x*g x)) :
  ∃A A':Rat->Rat,LB A/\LB A'/\A r≠0/\(∀x,er P x=(x-r)^m*A x)/\∀x,(x-r)*(k'*(A x*g x))=k*(m*A x+(x-r)*A' x)*f x:=by
 obtain⟨A,A',a1,a2,a3,a4⟩:=hF;refine⟨A,A',a1,a2,a3,λx=>(a4 x).1,?_⟩;have off:∀x,x≠r->(x-r)*(k'*(A x*g x))=k*(m*A x+(x-r)*A' x)*f x:=λx hx=>by
  obtain⟨b1,b2⟩:=a4 x;refine cancel_l (qpow_ne (show x-r≠0 by grind) m) ?_;have c1:=e1 x;have c2:=e2 x;have:(x-r)^m*((x-r)*(k'*(A x*g x)))=(x-r)*k'*g x*er P x:=by rw[b1];grind
  rw[this,c1];have:(x-r)^m*(k*(m*A x+(x-r)*A' x)*f x)=k*f x*((x-r)*er (pderiv P) x):=by rw[b2];grind
  rw[this,c2]
  grind
 have lx:LB λx=>x-r:=LB.id.sub (LB.const r)
 have l1:LB λx=>(x-r)*(k'*(A x*g x)):=lx.mul ((a1.mul lg).smul k')
 have l2:LB λx=>k*(m*A x+(x-r)*A' x)*f x:=(((a1.smul (m:Rat)).add (lx.mul a2)).smul k).mul lf
 intro x;by_cases hx:x=r
 .subst hx;exact LB.at_point l1 l2 off
 .exact off x hx
theorem rts_of {P:List Int}{rs:List Rat}(hR:Root2 P rs){f g u:Rat->Rat}{l:List (Rat->Rat)}(lu:LB u){k k':Rat}(hk:0<k)(hk':0<k')(e1:∀x,er P x=k*(u x*f x))(e2:∀x,er (pderiv P) x=k'*(u x*g x))(hc:Ch (f::g::l))(M:Rat):Rts f g rs M/\∀r∈rs,g r≠0:=by
 have lf:=hc.lb;have lg:LB g:=by cases hc with|two _ hg=>exact(LB.const 1).congr hg|more _ _ _ _ _ _ t=>exact t.lb
 have off:∀s t,s<=t->(∀r∈rs,¬(s<=r/\r<=t))->0<f s*f t:=λs t h1 h2=>by
  have b:=hR.off s t h1 h2;have b2:BA (λx=>(k*u x)*f x) s t:=by
   obtain⟨e,he,hb⟩:=b;exact⟨e,he,λx a c=>by have:=hb x a c;rw[e1,<-Rat.mul_assoc]at this;exact this⟩
  exact(b2.of_mul (lu.smul k)).sign lf h1
 have zero:∀r∈rs,f r=0/\g r≠0:=λr hr=>by
  obtain⟨m,hm,hF⟩:=hR.fac r hr;obtain⟨A,A',a1,a2,a3,a4,a5⟩:=cross hm hF lf lg hk hk' e1 e2;have h1:=a5 r;have hm':(0:Rat)<m:=by exact_mod_cast hm
  have h2:f r=0:=by
   have h3:k*m*A r≠0:=by
    rcases nz_cases a3 with v|v
    .have:=Rat.mul_pos (Rat.mul_pos hk hm') v;grind
    .have:=Rat.mul_pos (Rat.mul_pos hk hm') (show 0 < -A r by grind);grind
   refine cancel_l h3 ?_
   grind
  refine⟨h2,λhg=>?_⟩;obtain⟨N,n1,n2,-,-⟩:=within r r;obtain⟨e,he,hp⟩:=Ch.pair N hc;rcases hp r n1 n2 with h|h
  .rw[h2]at h;rcases h with h|h<;>grind
  .rw[hg]at h;rcases h with h|h<;>grind
 refine⟨⟨hR.nd,λr hr=>(zero r hr).1,λs t _ h1 _ h2=>off s t h1 h2,λr hr x _ _ hx hb=>?_⟩,λr hr=>(zero r hr).2⟩;obtain⟨m,hm,hF⟩:=hR.fac r hr;obtain⟨A,A',a1,a2,a3,a4,a5⟩:=cross hm hF lf lg hk hk' e1 e2;have hm':(0:Rat)<m:=by exact_mod_cast hm
 have lx:LB λx=>x-r:=LB.id.sub (LB.const r)
 have lB:LB λx=>k*(m*A x+(x-r)*A' x):=((a1.smul (m:Rat)).add (lx.mul a2)).smul k
 have lW:LB λx=>g r*(k'*(A x*g x))*(k*(m*A x+(x-r)*A' x)):=(((a1.mul lg).smul k').smul (g r)).mul lB
 have hg:=(zero r hr).2;have hW:0<g r*(k'*(A r*g r))*(k*(m*A r+(r-r)*A' r)):=by
  have s1:0<(g r*A r)*(g r*A r):=by
   rcases nz_cases hg with u|u<;>rcases nz_cases a3 with v|v
   .have:=Rat.mul_pos u v;exact Rat.mul_pos this this
   .have:=Rat.mul_pos u (show 0 < -A r by grind);have:=Rat.mul_pos this this;grind
   .have:=Rat.mul_pos (show 0 < -g r by grind) v;have:=Rat.mul_pos this this;grind
   .have:=Rat.mul_pos (show 0 < -g r by grind) (show 0 < -A r by grind);have:=Rat.mul_pos this this;grind
  have s2:=Rat.mul_pos (Rat.mul_pos (Rat.mul_pos hk hk') hm') s1
  grind
 obtain⟨d,hd,near⟩:=near_pos lW hW;have loc:∀y,y≠r->r-d<=y->y<=r+d->0<f y*g r*(y-r):=λy hy h1 h2=>by
  have w:=near y h1 h2;have e:=a5 y;have sq:0<(y-r)*(y-r):=by
   rcases nz_cases (show y-r≠0 by grind) with v|v
   .exact Rat.mul_pos v v
   .have:=Rat.mul_pos (show 0 < -(y-r) by grind) (show 0 < -(y-r) by grind);grind
  have p:=Rat.mul_pos sq w;generalize hBv:k*(m*A y+(y-r)*A' y)=b at *;have:(y-r)*(y-r)*(g r*(k'*(A y*g y))*b)=f y*g r*(y-r)*(b*b):=by
   have:(y-r)*(y-r)*(g r*(k'*(A y*g y))*b)=(y-r)*g r*b*((y-r)*(k'*(A y*g y))):=by grind
   rw[this,e];grind
  rw[this]at p;rcases pos_cases p with ⟨u,_⟩|⟨_,v⟩
  .exact u
  .have:0<=b*b:=by
    rcases Rat.le_total (a:=0) (b:=b) with h|h
    .exact Rat.mul_nonneg h h
    .have:=Rat.mul_nonneg (show 0<=-b by grind) (show 0<=-b by grind);grind
   grind
 by_cases h1:r-d<=x/\x<=r+d
 .exact loc x hx h1.1 h1.2
 .by_cases h2:r<x
  .have p:=loc (r+d) (by grind) (by grind) Rat.le_refl;have q:=off (r+d) x (by grind) λr' hr' hh=>by have:=hb r' hr' (.inr ⟨by grind,hh.2⟩);grind
   have u:0<x-r:=by grind
   have v:0<r+d-r:=by grind
   have p1:0<f (r+d)*g r:=by rcases pos_cases p with ⟨a,_⟩|⟨_,a⟩<;>grind
   have:0<f x*g r:=by
    rcases pos_cases p1 with ⟨a,b⟩|⟨a,b⟩<;>rcases pos_cases q with ⟨c,e⟩|⟨c,e⟩
    .exact Rat.mul_pos e b
    .grind
    .grind
    .have:=Rat.mul_pos (show 0 < -f x by grind) (show 0 < -g r by grind);grind
   exact Rat.mul_pos this u
  .have p:=loc (r-d) (by grind) Rat.le_refl (by grind);have q:=off x (r-d) (by grind) λr' hr' hh=>by have:=hb r' hr' (.inl ⟨hh.1,by grind⟩);grind
   have u:0 < -(x-r):=by grind
   have p1:0 < -(f (r-d)*g r):=by rcases pos_cases p with ⟨_,a⟩|⟨a,_⟩<;>grind
   have:0 < -(f x*g r):=by
    rcases neg_cases (show f (r-d)*g r<0 by grind) with ⟨a,b⟩|⟨a,b⟩<;>rcases pos_cases q with ⟨c,e⟩|⟨c,e⟩
    .have:=Rat.mul_pos c (show 0 < -g r by grind);grind
    .grind
    .grind
    .have:=Rat.mul_pos (show 0 < -f x by grind) b;grind
   have:=Rat.mul_pos this u
   grind
end Go.Proofs.YtbnincgnfiaemaaGreat
