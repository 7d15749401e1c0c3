/-
 Contracts of the functions that the law reaches.
-/
import Derived.Test.YtnhghmibjddlkaaGreatDoorL117M
import Derived.Test.YtnhghmibjddlkaaGreatDoorL46M
import Derived.Test.YtnhghmibjddlkaaGreatDoorL360M
import Derived.Test.YtnhghmibjddlkaaGreatDoorL59M
set_option maxHeartbeats 2000000
namespace Go.Proofs.YtnhghmibjddlkaaGreatDoor
open Go Go.Proofs Go.AL
set_option linter.unusedSimpArgs false
set_option linter.unusedVariables false
theorem TA (c:RI)(n:Nat):sg c.1 (nv c.2*2^n)=iv c*2^n:=by
 rw[xI];unfold sg;split
 .rw[Int.neg_mul];push_cast;rfl
 .push_cast;rfl
theorem Vk (n:Nat):zl (2^n)<=n/64+1:=by
 refine dR.mpr ?_;have e:(2^n:Int).natAbs=2^n:=by rw[Int.natAbs_pow];rfl
 rw[e,show W=2^64 from rfl,<-Nat.pow_mul];exact Nat.pow_lt_pow_right (by decide) (by omega)
theorem Vh (a:RI)(n:Nat)(ha:Sz (2^39) a)(hn:n<=1048576):AC Tryz.prog 85 [cr a,ci n] none [cz (iv a*2^n),ci 0]:=by
 refine AC.aF (rs:=[.cell 4 29,.tmp 5]) bM Tryz.func85 (by rfl) (by rfl) (by rfl) (by rfl) (by rfl) ?_;have h1:¬(n:Int)<0:=by omega
 have h2:¬1048576<(n:Int):=by omega
 simp (disch:=omega) only[wt,seval,reduceCtorEq,Nat.reduceEqDiff,h1,h2];refine au ((vN a.2 n ha.2 ha.1 hn)) (by first|rfl|(simp only[aH,bn,aB,aI,aA,Nat.reduceEqDiff,↓reduceIte,h1,h2];rfl)) (by simp) ?_;simp (disch:=omega) only[wt,seval,reduceCtorEq,Nat.reduceEqDiff,h1,h2];have:=mP a.1 (nv a.2*2^n);rw[TA]at this;refine au (this) (by first|rfl|(simp only[aH,bn,aB,aI,aA,Nat.reduceEqDiff,↓reduceIte,h1,h2];rfl)) (by simp) ?_;simp (disch:=omega) only[wt,seval,reduceCtorEq,Nat.reduceEqDiff,h1,h2]
theorem a6T (c:RI)(n:Nat)(hc:Sz (2^30) c)(hn:n<=2^30):AC Tryz.prog 153 [cr c,ci n] none [cz (iv c*2^n)]:=by
 refine AC.aF (rs:=[.cell 4 29]) bM Tryz.func153 (by rfl) (by rfl) (by rfl) (by rfl) (by rfl) ?_;simp (disch:=omega) only[wt,seval,reduceCtorEq,Nat.reduceEqDiff];refine bF (λf H=>∃(m:Nat) (x:RI) (st2 st4:Nat),m<=n/\iv x*2^m=iv c*2^n/\Sz (2^30+2*(n-m)) x/\f 1=.iv (.int .i64 m)/\f 2=.hp 2 st2 0 0/\H 2=.blk false st2 29 2 [je x]/\f 4=.hp 4 st4 0 0/\H 4=.blk false st4 29 2 [je (false,[])]) (λf H=>(dQ f 1-0).toNat) ?_ ?_
 .refine⟨n,c,1,1,by omega,rfl,hc.mono (by omega),?_⟩;simp (disch:=omega) only[wt,seval,reduceCtorEq,Nat.reduceEqDiff]
 rintro f H ⟨m,x,st2,st4,hm,hx,hs,hF⟩;rw[bC hF.1];simp (disch:=omega) only[wt,seval,reduceCtorEq,Nat.reduceEqDiff,hF];refine bU (λhlt=>?_) (λhlt=>?_)
 .obtain⟨e,he⟩:∃e:Nat,e=65536:=⟨_,rfl⟩;have q:=Vh x e (hs.mono (by omega)) (by omega);have he':((e:Nat):Int)=65536:=by omega
  rw[he']at q;have em:(m:Int)-65536=((m-e:Nat):Int):=by omega
  simp (disch:=omega) only[wt,seval,reduceCtorEq,Nat.reduceEqDiff,hF,em];refine au (q) (by first|rfl|(simp only[aH,bn,aB,aI,aA,Nat.reduceEqDiff,↓reduceIte,hF,em];rfl)) (by simp) ?_;simp (disch:=omega) only[wt,seval,reduceCtorEq,Nat.reduceEqDiff,hF,em];have hz:=gI (iv x) (2^e);have hz1:=Vk e;have hz2:=rG hs;refine⟨⟨m-e,canon (iv x*2^e),st2,st4,by omega,?_,(aW _).mono (by omega),by omega,rfl,rfl,rfl,rfl⟩,by omega⟩;rw[aU,Int.mul_assoc,<-Int.pow_add,show e+(m-e)=m by omega,hx]
 .simp (disch:=omega) only[wt,seval,reduceCtorEq,Nat.reduceEqDiff,hF];have q:=Vh x m (hs.mono (by omega)) (by omega);refine au (q) (by first|rfl|(simp only[aH,bn,aB,aI,aA,Nat.reduceEqDiff,↓reduceIte,hF];rfl)) (by simp) ?_;simp (disch:=omega) only[wt,seval,reduceCtorEq,Nat.reduceEqDiff,hF];rw[hx]
def wtm (t:Int):List Int->List Int
 |[]=>[]
 |c::p=>c*t^p.length::wtm t p
theorem Jl (t:Int)(p:List Int):(wtm t p).length=p.length:=by induction p<;>simp_all[wtm]
theorem OJ (t:Int)(p:List Int)(i:Nat):cf (wtm t p) i=cf p i*t^(p.length-1-i):=by
 induction p generalizing i with
 |nil=>simp[wtm,cf]
 |cons c p ih =>
  cases i with
  |zero=>simp[wtm,cf]
  |succ i =>
   have:=ih i;simp only[wtm,cf,List.getD_cons_succ,List.length_cons]at this ⊢;rw[this]
   congr 2
   omega
theorem YE {p q:List Int}(hl:p.length=q.length)(h:∀k,k<p.length->cf p k=cf q k):p=q :=
 List.ext_getElem hl λi h1 h2=>by have:=h i h1;simpa [cf,List.getD,h1,h2] using this
theorem G9 {p:List Int}(h:p≠[]->cf p (p.length-1)≠0):aV p=p:=by
 by_cases e:p=[]
 .subst e;rfl
 .have hl:0<p.length:=List.length_pos_iff.2 e;have:=Na (q:=p) (k:=p.length-1) (by omega) (h e);rw[show p.length-1+1=p.length by omega,List.take_length]at this;rw[aV,this,List.take_length]
theorem a0K {t:Int}(ht:t≠0)(p:List Int):aV (wtm t (aV p))=wtm t (aV p):=by
 refine G9 λhne=>?_;rw[Jl,OJ,bH,bI];have hz:tz p≠0:=λe=>hne (by rw[VR e];rfl)
 rw[show tz p-1-(tz p-1)=0 by omega,Int.pow_zero,Int.mul_one];exact dS hz
theorem Ti (k:Nat):(2:Int)^k≠0:=Int.pow_ne_zero (by decide)
theorem a9t {N K k:Nat}{p:List Int}(h:PB N K p)(hk:N*k<=2^28):PB N (K+(N*k)/64+1) (wtm (2^k) p):=.of (by rw[Jl];exact h.1) λi=>by
 rw[OJ,<-Int.pow_mul];have h1:=gI (cf p i) (2^(k*(p.length-1-i)));have h2:=Vk (k*(p.length-1-i));have h3:=h.cf i;have h4:k*(p.length-1-i)<=N*k:=by rw[Nat.mul_comm N];exact Nat.mul_le_mul_left _ (by have:=h.1;omega)
 omega
theorem XJ (p:List RI)(k:Nat)(hp:RP (2^10) (2^20) p)(hk:k<=65536):AC Tryz.prog 130 [cw p,ci k] (some (0,29,2,dY (wtm (2^k) (aV (pv p))))) [cp (wtm (2^k) (aV (pv p)))]:=by
 have e:dY (wtm (2^k) (aV (pv p)))=gZ ((wtm (2^k) (aV (pv p))).map canon):=by rw[dY,a0K (Ti k)]
 unfold cp;rw[e];refine AC.aF (rs:=[.tmp 4]) bM Tryz.func130 (by rfl) (by rfl) (by rfl) (by rfl) (by rfl) ?_;simp (disch:=omega) only[wt,seval,reduceCtorEq,Nat.reduceEqDiff];refine au ((Kt p (hp.mono (by omega) (by omega)))) (by rfl) (by simp) ?_;simp (disch:=omega) only[wt,seval,reduceCtorEq,Nat.reduceEqDiff];have hA:=hp.pv.aV;unfold dY;generalize aV (pv p)=A at *;have hAl:=hA.1;have hq:(A.map canon).length=A.length:=by simp
 simp (disch:=omega) only[wt,seval,reduceCtorEq,Nat.reduceEqDiff,hq];refine bF (λf H=>∃(i st:Nat) (cur:List Int),i<=A.length/\cur.length=A.length/\(∀j,cf cur j=if j<i then cf (wtm (2^k) A) j else cf A j)/\f 10=.iv (.int .i64 i)/\f 9=.iv (.int .i64 A.length)/\f 1=.iv (.int .i64 k)/\f 0=.hs 7 st/\H 7=.blk false st 29 2 (gZ (cur.map canon))) (λf H=>(A.length-dQ f 10).toNat) ?_ ?_
 .refine⟨0,1,A,by omega,rfl,λj=>by simp,?_⟩;simp (disch:=omega) only[wt,seval,reduceCtorEq,Nat.reduceEqDiff]
 rintro f H ⟨i,st,cur,hi,hcl,hc,hF⟩;rw[bC hF.1];simp (disch:=omega) only[wt,seval,reduceCtorEq,Nat.reduceEqDiff,hF];have hq:(cur.map canon).length=A.length:=by simp[hcl]
 refine bU (λhlt=>?_) (λhlt=>?_)
 .obtain⟨m,hm⟩:∃m:Nat,m=k*(A.length-1-i):=⟨_,rfl⟩;have hmb:m<=67108864:=by
   rw[hm];exact Nat.le_trans (Nat.mul_le_mul hk (show A.length-1-i<=1024 by omega)) (by omega)
  have em:(k:Int)*((A.length:Int)-1-i)=(m:Int):=by rw[hm];push_cast;congr 1;omega
  have e1:cf cur i=cf A i:=by rw[hc,if_neg (by omega)]
  have zi:=hA.cf i;have q:=a6T (canon (cf A i)) m ((aW _).mono (by omega)) (by omega);rw[aU]at q;simp (disch:=omega) only[wt,seval,reduceCtorEq,Nat.reduceEqDiff,hF,hq,em,e1];refine au (q) (by first|rfl|(simp only[aH,bn,aB,aI,aA,Nat.reduceEqDiff,↓reduceIte,hF,hq,em,e1];rfl)) (by simp) ?_;simp (disch:=omega) only[wt,seval,reduceCtorEq,Nat.reduceEqDiff,hF,hq,em,e1];refine⟨⟨i+1,st,cur.set i (cf A i*2^m),by omega,by simp[hcl],λj=>?_,by omega,rfl,rfl⟩,by omega⟩;rw[y5 (by omega),hc];by_cases hj:j=i
  .subst hj;rw[if_pos rfl,if_pos (by omega),OJ,hm,Int.pow_mul]
  .rw[if_neg hj];by_cases hj2:j<i
   .rw[if_pos hj2,if_pos (by omega)]
   .rw[if_neg hj2,if_neg (by omega)]
 .have ew:cur=wtm (2^k) A:=YE (by rw[Jl,hcl]) λj hj=>by rw[hc,if_pos (by omega)]
  simp (disch:=omega) only[wt,seval,reduceCtorEq,Nat.reduceEqDiff,hF,hq];rw[ew]
theorem Ue {p q:List RI}{P Q out:List Int}(hp:RP (2^10) (2^20) p)(hq:RP (2^10) (2^20) q)(ep:ps (pv p)=ps P)(eq:ps (pv q)=ps Q)(eo:ps out=cmp P (ps Q)):AC Tryz.prog 99 [cw p,cw q] none [cp out]:=by
 have h:=O1 p q hp hq;have e:ps (kS (aV (pv p)) (pv q) [1])=ps out:=by
  rw[vJ,eo,kR,eq];exact(a5d _ (lK _)).trans (a5d _ ep)
 rwa [Ai e]at h
theorem EO {K:Nat}(h:1<=K):Sz K (canon 1):=(aW 1).mono (by have:zl 1<=1:=dR.mpr (by decide);omega)
theorem QK {p:List RI}{a:RI}{P out:List Int}(hp:RP (2^10) (2^20) p)(ha:Sz (2^20) a)(ep:ps (pv p)=ps P)(eo:ps out=cmp P (ps [iv a,1])):AC Tryz.prog 71 [cw p,cr a] none [cp out]:=by
 refine AC.aF (rs:=[.tmp 4]) bM Tryz.func71 (by rfl) (by rfl) (by rfl) (by rfl) (by rfl) ?_;simp (disch:=omega) only[wt,seval,reduceCtorEq,Nat.reduceEqDiff];refine .inl ⟨aZ (by kernel_rfl),?_⟩;refine au ((iJ 1 (by omega) (by omega))) (by rfl) (by simp) ?_;simp (disch:=omega) only[wt,seval,reduceCtorEq,Nat.reduceEqDiff];have l:=GY (canon 1) a (EO (by omega)) (ha.mono (by omega));rw[aU]at l;refine au (l) (by rfl) (by simp) ?_;simp (disch:=omega) only[wt,seval,reduceCtorEq,Nat.reduceEqDiff];have hb:=Xt ha (EO (K:=2^20) (by omega));rw[aU]at hb;have m:=Ue (q:=cn [iv a,1]) hp (yM hb) ep (jf _) eo;refine au (m) (by rfl) (by simp) ?_;simp (disch:=omega) only[wt,seval,reduceCtorEq,Nat.reduceEqDiff]
 first|exact aN (by kernel_rfl)|refine⟨aN (by kernel_rfl),?_⟩
theorem XU (p:List RI)(hp:RP (2^10) (2^20) p):AC Tryz.prog 104 [cw p] none [cp (kS (aV (pv p)) [1,0] [1,1])]:=by
 refine AC.aF (rs:=[.tmp 2]) bM Tryz.func104 (by rfl) (by rfl) (by rfl) (by rfl) (by rfl) ?_;simp (disch:=omega) only[wt,seval,reduceCtorEq,Nat.reduceEqDiff];refine au ((iJ 0 (by omega) (by omega))) (by rfl) (by simp) ?_;simp (disch:=omega) only[wt,seval,reduceCtorEq,Nat.reduceEqDiff];refine au ((iJ 1 (by omega) (by omega))) (by rfl) (by simp) ?_;simp (disch:=omega) only[wt,seval,reduceCtorEq,Nat.reduceEqDiff];refine au ((iJ 1 (by omega) (by omega))) (by rfl) (by simp) ?_;simp (disch:=omega) only[wt,seval,reduceCtorEq,Nat.reduceEqDiff];refine au ((iJ 1 (by omega) (by omega))) (by rfl) (by simp) ?_;simp (disch:=omega) only[wt,seval,reduceCtorEq,Nat.reduceEqDiff];have m:=NY p (canon 0) (canon 1) (canon 1) (canon 1) hp ((aW 0).mono (by rw[fA];omega)) (EO (by omega)) (EO (by omega)) (EO (by omega));rw[aU,aU]at m;refine au (m) (by rfl) (by simp) ?_;simp (disch:=omega) only[wt,seval,reduceCtorEq,Nat.reduceEqDiff]
theorem XW {p:List RI}{out:List Int}(hp:RP (2^10) (2^19) p)(eo:ps out=cmp (wtm 2 (aV (pv p))) (ps [1,1])):AC Tryz.prog 105 [cw p] none [cp (wtm 2 (aV (pv p))),cp out]:=by
 have hw:=XJ p 1 (hp.mono (by omega) (by omega)) (by omega);have hb:=a9t (k:=1) hp.pv.aV (by omega);rw[Int.pow_one]at hw hb;refine AC.aF (rs:=[.tmp 2,.tmp 3]) bM Tryz.func105 (by rfl) (by rfl) (by rfl) (by rfl) (by rfl) ?_;simp (disch:=omega) only[wt,seval,reduceCtorEq,Nat.reduceEqDiff];refine au (hw) (by rfl) (by simp) ?_;simp (disch:=omega) only[wt,seval,reduceCtorEq,Nat.reduceEqDiff];refine au ((iJ 1 (by omega) (by omega))) (by rfl) (by simp) ?_;simp (disch:=omega) only[wt,seval,reduceCtorEq,Nat.reduceEqDiff];generalize wtm 2 (aV (pv p))=V at *;have m:=QK (p:=cn V) (a:=canon 1) (P:=V) (out:=out) (yM (hb.mono (by omega) (by omega))) (EO (by omega)) (jf _) (by rw[aU];exact eo);refine au (m) (by rfl) (by simp) ?_;simp (disch:=omega) only[wt,seval,reduceCtorEq,Nat.reduceEqDiff]
def sc (a:Int):List Int->List Int
 |[]=>[]
 |c::p=>c::aY a (sc a p)
theorem TW (a:Int)(p:List Int):(aY a p).length=p.length:=by simp[aY]
theorem wO (a:Int)(p:List Int):(sc a p).length=p.length:=by
 induction p with
 |nil=>rfl
 |cons c p ih=>rw[sc,List.length_cons,TW,ih,List.length_cons]
theorem OL (a:Int)(p:List Int)(i:Nat):cf (sc a p) i=cf p i*a^i:=by
 induction p generalizing i with
 |nil=>simp[sc,cf]
 |cons c p ih =>
  cases i with
  |zero=>simp[sc,cf]
  |succ i =>
   have e:cf (sc a (c::p)) (i+1)=cf (aY a (sc a p)) i:=by simp[sc,cf]
   have e2:cf (c::p) (i+1)=cf p i:=by simp[cf]
   rw[e,e2,dM,ih,Int.pow_succ,Int.mul_assoc]
theorem XR (p:List RI)(a:RI)(hp:RP (2^10) (2^20) p)(ha:Sz (2^20) a):AC Tryz.prog 69 [cw p,cr a] none [cp (sc (iv a) (aV (pv p)))]:=by
 refine AC.aF (rs:=[.tmp 4]) bM Tryz.func69 (by rfl) (by rfl) (by rfl) (by rfl) (by rfl) ?_;simp (disch:=omega) only[wt,seval,reduceCtorEq,Nat.reduceEqDiff];refine au ((Kt p (hp.mono (by omega) (by omega)))) (by rfl) (by simp) ?_;simp (disch:=omega) only[wt,seval,reduceCtorEq,Nat.reduceEqDiff];refine au ((iJ 1 (by omega) (by omega))) (by rfl) (by simp) ?_;simp (disch:=omega) only[wt,seval,reduceCtorEq,Nat.reduceEqDiff];have hA:=hp.pv.aV;unfold dY;generalize aV (pv p)=A at *;have hAl:=hA.1;have hq:(A.map canon).length=A.length:=by simp
 have za:=rG ha;simp (disch:=omega) only[wt,seval,reduceCtorEq,Nat.reduceEqDiff,hq];refine bF (λf H=>∃(i st st3 st5:Nat) (cur:List Int),i<=A.length/\cur.length=A.length/\(∀j,cf cur j=if j<i then cf (sc (iv a) A) j else cf A j)/\f 12=.iv (.int .i64 i)/\f 11=.iv (.int .i64 A.length)/\f 0=.hs 8 st/\H 8=.blk false st 29 2 (gZ (cur.map canon))/\f 3=.hp 3 st3 0 0/\H 3=.blk false st3 29 2 [je a]/\f 5=.hp 5 st5 0 0/\H 5=.blk false st5 29 2 [je (canon ((iv a)^i))]) (λf H=>(A.length-dQ f 12).toNat) ?_ ?_
 .refine⟨0,1,1,1,A,by omega,rfl,λj=>by simp,?_⟩;simp (disch:=omega) only[wt,seval,reduceCtorEq,Nat.reduceEqDiff,Int.pow_zero]
 rintro f H ⟨i,st,st3,st5,cur,hi,hcl,hc,hF⟩;rw[bC hF.1];simp (disch:=omega) only[wt,seval,reduceCtorEq,Nat.reduceEqDiff,hF];have hq:(cur.map canon).length=A.length:=by simp[hcl]
 refine bU (λhlt=>?_) (λhlt=>?_)
 .have e1:cf cur i=cf A i:=by rw[hc,if_neg (by omega)]
  have zi:=hA.cf i;have zp:=PI za (i:=i) (by omega);simp (disch:=omega) only[wt,seval,reduceCtorEq,Nat.reduceEqDiff,hF,hq,e1];refine .inl ⟨aZ (by kernel_rfl),?_⟩;have q:=jM (canon (cf A i)) (canon (iv a^i)) ((aW _).mono (by omega)) ((aW _).mono (by omega));rw[aU,aU]at q;refine au (q) (by first|rfl|(simp only[aH,bn,aB,aI,aA,Nat.reduceEqDiff,↓reduceIte,hF,hq,e1];rfl)) (by simp) ?_;simp (disch:=omega) only[wt,seval,reduceCtorEq,Nat.reduceEqDiff,hF,hq,e1];have q2:=jM (canon (iv a^i)) a ((aW _).mono (by omega)) (ha.mono (by omega));rw[aU,<-Int.pow_succ]at q2
  first|exact aN (by kernel_rfl)|refine⟨aN (by kernel_rfl),?_⟩
  refine au (q2) (by first|rfl|(simp only[aH,bn,aB,aI,aA,Nat.reduceEqDiff,↓reduceIte,hF,hq,e1];rfl)) (by simp) ?_;simp (disch:=omega) only[wt,seval,reduceCtorEq,Nat.reduceEqDiff,hF,hq,e1];refine⟨⟨i+1,st,st3,st5,cur.set i (cf A i*iv a^i),by omega,by simp[hcl],λj=>?_,by omega,rfl,rfl,rfl,rfl,rfl,rfl⟩,by omega⟩;rw[y5 (by omega),hc];by_cases hj:j=i
  .subst hj;rw[if_pos rfl,if_pos (by omega),OL]
  .rw[if_neg hj];by_cases hj2:j<i
   .rw[if_pos hj2,if_pos (by omega)]
   .rw[if_neg hj2,if_neg (by omega)]
 .have ew:cur=sc (iv a) A:=YE (by rw[wO,hcl]) λj hj=>by rw[hc,if_pos (by omega)]
  subst ew;simp (disch:=omega) only[wt,seval,reduceCtorEq,Nat.reduceEqDiff,hF,hq];have hb:PB (2^10) (2^32) (sc (iv a) A):=.of (by rw[wO];exact hAl) λj=>by
   rw[OL];by_cases hj:j<A.length
   .have z1:=gI (cf A j) (iv a^j);have z2:=PI za (i:=j) (by omega);have z3:=hA.cf j;omega
   .rw[jK (by omega),Int.zero_mul,fA];omega
  have m:=gX ((sc (iv a) A).map canon) (RP.canon (hb.mono (by omega) (by omega)));rw[gW]at m;refine au (m) (by first|rfl|(simp only[aH,bn,aB,aI,aA,Nat.reduceEqDiff,↓reduceIte,hF,hq];rfl)) (by simp) ?_;simp (disch:=omega) only[wt,seval,reduceCtorEq,Nat.reduceEqDiff,hF,hq]
theorem qC {P Q:List Int}(h:∀x:Rat,0<x->er P x=er Q x):ps P=ps Q:=by
 have hz:∀x:Rat,0<x->er (ji P (aY (-1) Q)) x=0:=λx hx=>by
  rw[zk,iF,h x hx,show ((-1:Int):Rat) = -1 from rfl];grind
 have hD:tz (ji P (aY (-1) Q))=0:=by
  refine Classical.byContradiction λh0=>?_;have hl:=bI (ji P (aY (-1) Q));generalize ji P (aY (-1) Q)=D at *;have hc:cf (aV D) ((aV D).length-1)≠0:=by rw[bH,hl];exact dS h0
  exact DC (A:=aV D) (by omega) hc (x:=p2 (rst (aV D) ((aV D).length-1)).1) (by
   rw[nM (p:=aV D) (q:=D) _ (bH D)];exact hz _ (xg _)) (.inl Rat.le_refl)
 refine PS.ext λk=>?_;have:=bf.mp hD k;rw[fJ,dM]at this;rw[zJ,zJ];omega
theorem Bh {P Q:List Int}{s t:Rat}(hs:s≠0)(ht:t≠0)(h:∀x:Rat,0<x->s*er P x=t*er Q x):As P Q:=by
 have sn:s.num≠0:=λe=>hs (Rat.num_eq_zero.mp e)
 have tn:t.num≠0:=λe=>ht (Rat.num_eq_zero.mp e)
 have sd:=s.den_nz;have td:=t.den_nz;refine⟨s.num*t.den,t.num*s.den,Int.mul_ne_zero sn (by omega),Int.mul_ne_zero tn (by omega),?_⟩;rw[<-bg,<-bg];refine qC λx hx=>?_;rw[iF,iF,Rat.intCast_mul,Rat.intCast_mul,vM s,vM t,Rat.intCast_natCast,Rat.intCast_natCast];have:=h x hx
 grind
theorem As.er {P Q:List Int}(h:As P Q):∃s:Rat,s≠0/\∀x,er P x=s*er Q x:=by
 obtain⟨a,b,ha,hb,e⟩:=h;have ha':(a:Rat)≠0:=by exact_mod_cast ha
 have hb':(b:Rat)≠0:=by exact_mod_cast hb
 rw[<-bg,<-bg]at e;refine⟨(b:Rat)/a,λh=>hb' ?_,λx=>?_⟩
 .have h2:=Rat.div_mul_cancel (a:=(b:Rat)) ha';rw[h]at h2;grind
 .have h1:=o8 e x;rw[iF,iF]at h1;have h2:=Rat.div_mul_cancel (a:=(b:Rat)) ha';generalize (b:Rat)/a=z at *;have h3:(a:Rat)*(Go.Proofs.YtnhghmibjddlkaaGreatDoor.er P x-z*Go.Proofs.YtnhghmibjddlkaaGreatDoor.er Q x)=0:=by grind
  rcases Rat.mul_eq_zero.mp h3 with h|h
  .exact(ha' h).elim
  .grind
theorem a7Q (g:List Int)(n:Nat)(x:Rat):er (wY g n) x=er g x^n:=by
 induction n with
 |zero=>rw[wY,Rat.pow_zero];simp only[er];rw[show ((1:Int):Rat)=1 from rfl];grind
 |succ n ih=>rw[wY,gU,ih,Rat.pow_succ];try exact Rat.mul_comm _ _
theorem Dn (F G:List Int)(x:Rat)(hG:er G x≠0):∀p:List Int,er (kS p F G) x*er G x=er G x^p.length*er p (er F x/er G x)
 |[]=>by
  show (0:Rat)*_=_*0
  grind
 |c::p=>by
  have ih:=Dn F G x hG p;have hd:=Rat.div_mul_cancel (a:=er F x) hG;rw[kS,zk,iF,a7Q,gU,List.length_cons,Rat.pow_succ];show _=_*((c:Rat)+er F x/er G x*er p (er F x/er G x));generalize er F x/er G x=z at *;generalize er (kS p F G) x=y at *;generalize er p z=w at *;generalize er G x^p.length=m at *;generalize er G x=g at *;rw[<-hd]
  grind
theorem a4T {t:Int}(ht:t≠0)(x:Rat):∀p:List Int,er (wtm t p) x*t=(t:Rat)^p.length*er p (x/t)
 |[]=>by
  show (0:Rat)*_=_*0
  grind
 |c::p=>by
  have ht':(t:Rat)≠0:=by exact_mod_cast ht
  have ih:=a4T ht x p;have hd:=Rat.div_mul_cancel (a:=x) ht';show ((c*t^p.length:Int)+x*er (wtm t p) x)*(t:Rat)=_*((c:Rat)+x/t*er p (x/t));rw[List.length_cons,Rat.pow_succ,Rat.intCast_mul,Rat.intCast_pow];generalize x/(t:Rat)=z at *;generalize er (wtm t p) x=y at *;generalize er p z=w at *;generalize (t:Rat)^p.length=m at *;rw[<-hd]
  grind
theorem Uk (a:Int)(x:Rat):∀p:List Int,er (sc a p) x=er p (a*x)
 |[]=>rfl
 |c::p=>by
  show (c:Rat)+x*er (aY a (sc a p)) x=c+a*x*er p (a*x);rw[iF,Uk a x p];grind
theorem a8g (n:Nat)(s x:Int):chs (n,-s) (-x)=((chs (n,s) x).1,-(chs (n,s) x).2):=by
 unfold chs;rw[Int.sign_neg];by_cases h:x.sign=0
 .rw[if_pos (by omega),if_pos h]
 .rw[if_neg (by omega),if_neg h];by_cases h2:s≠0/\x.sign≠s
  .rw[if_pos ⟨by simp only;omega,by simp only;omega⟩,if_pos h2]
  .rw[if_neg (λe=>h2 ⟨by have:=e.1;simp only at this;omega,by have:=e.2;simp only at this;omega⟩),if_neg h2]
theorem Rh:∀(l:List Int) (n:Nat) (s:Int),(l.map λx=>-x).foldl chs (n,-s)=((l.foldl chs (n,s)).1,-(l.foldl chs (n,s)).2)
 |[],_,_=>rfl
 |x::l,n,s=>by
  rw[List.map_cons,Bc,Bc,a8g];exact Rh l _ _
theorem a8i (l:List Int):chg (l.map λx=>-x)=chg l:=by
 have:=Rh l 0 0;rw[Int.neg_zero]at this;unfold chg chf;rw[this]
theorem Ll {a:Int}(ha:a≠0)(l:List Int):chg (aY a l)=chg l:=by
 rcases Int.lt_or_gt_of_ne ha with h|h
 .rw[<-a8i l];unfold chg;rw[<-iU (aY a l),<-iU (l.map _)]
  congr 2
  simp only[aY,List.map_map];refine List.map_congr_left λx _=>?_;show (x*a).sign=(-x).sign;rw[Int.sign_mul,Int.sign_neg,Int.sign_eq_neg_one_of_neg h];omega
 .unfold chg;rw[<-iU (aY a l),<-iU l]
  congr 2
  simp only[aY,List.map_map];refine List.map_congr_left λx _=>?_;show (x*a).sign=x.sign;rw[Int.sign_mul,Int.sign_eq_one_of_pos h];omega
theorem As.chg {P Q:List Int}(h:As P Q):Go.Proofs.YtnhghmibjddlkaaGreatDoor.chg P=Go.Proofs.YtnhghmibjddlkaaGreatDoor.chg Q:=by
 obtain⟨a,b,ha,hb,e⟩:=h;rw[<-Ll ha P,<-Ll hb Q];unfold Go.Proofs.YtnhghmibjddlkaaGreatDoor.chg;rw[Dz (p:=aY a P) (q:=aY b Q) (jc (by rw[bg,bg];exact e))]
theorem vP:∀(l:List Int),(∀k,0<=cf l k)->∀(n:Nat) (s:Int),s=0\/s=1->(l.foldl chs (n,s)).1=n
 |[],_,_,_,_=>rfl
 |x::l,h,n,s,hs=>by
  have hx:0<=x:=h 0;rw[Bc];have ih:=vP l λk=>h (k+1)
  by_cases h0:x=0
  .rw[qP (by rw[h0];rfl)];exact ih n s hs
  .have e:x.sign=1:=Int.sign_eq_one_of_pos (by omega);rw[kP (by rw[e];decide) (by rw[e];rintro⟨a,b⟩;simp only at a b;omega),e];exact ih n 1 (.inr rfl)
theorem QA:∀(l:List Int),(∀i j,i<j->0<cf l i->0<=cf l j)->∀(n:Nat) (s:Int),s=0\/s = -1->(l.foldl chs (n,s)).1<=n+1
 |[],_,n,_,_=>Nat.le_succ n
 |x::l,h,n,s,hs=>by
  rw[Bc];have hl:∀i j,i<j->0<cf l i->0<=cf l j:=λi j hij hi=>h (i+1) (j+1) (by omega) hi
  have ih:=QA l hl;rcases dD x with ⟨hx,e⟩|⟨hx,e⟩|⟨hx,e⟩
  .rw[kP (by rw[e];decide) (by rw[e];rintro⟨a,b⟩;simp only at a b;omega),e];exact ih n (-1) (.inr rfl)
  .rw[qP e];exact ih n s hs
  .have nn:∀k,0<=cf l k:=λk=>h 0 (k+1) (by omega) hx
   rcases hs with rfl|rfl
   .rw[kP (by rw[e];decide) (by rintro⟨a,b⟩;exact a rfl),e,vP l nn n 1 (.inr rfl)];omega
   .rw[xZ (by rw[e];decide) ⟨by show (-1:Int)≠0;decide,by rw[e];show (1:Int)≠-1;decide⟩,e,vP l nn (n+1) 1 (.inr rfl)];omega
theorem RZ {l:List Int}(h:∀i j,i<j->0<cf l i->0<=cf l j):chg l<=1:=QA l h 0 0 (.inl rfl)
def P2 (a:Int->Rat):Prop:=(∀k,0<=a k)/\∀i j,i<=j->a (i-1)*a (j+1)<=a i*a j
theorem P2.far {a:Int->Rat}(h:P2 a):∀(t:Nat) (p q:Int),p<=q->a (p-t)*a (q+t)<=a p*a q
 |0,p,q,_=>by
  rw[show p-((0:Nat):Int)=p by omega,show q+((0:Nat):Int)=q by omega];exact Rat.le_refl
 |t+1,p,q,hpq=>by
  have h1:=P2.far h t (p-1) (q+1) (by omega);have h2:=h.2 p q hpq;rw[show p-1-(t:Int)=p-((t+1:Nat):Int) by omega,show q+1+(t:Int)=q+((t+1:Nat):Int) by omega]at h1;exact Rat.le_trans h1 h2
theorem P2.spread {a:Int->Rat}(h:P2 a){p q r s:Int}(hs:p+q=r+s)(h1:r<=p)(h2:r<=q):a r*a s<=a p*a q:=by
 rcases Int.le_total p q with e|e
 .obtain⟨t,ht⟩:∃t:Nat,(t:Int)=p-r:=⟨(p-r).toNat,by omega⟩;have:=h.far t p q e;rwa [show p-(t:Int)=r by omega,show q+(t:Int)=s by omega]at this
 .obtain⟨t,ht⟩:∃t:Nat,(t:Int)=q-r:=⟨(q-r).toNat,by omega⟩;have:=h.far t q p e;rw[show q-(t:Int)=r by omega,show p+(t:Int)=s by omega]at this;rw[Rat.mul_comm (a p)];exact this
theorem fC {x y:Rat}(hx:0<=x)(hy:0<=y):0<=x*y:=Rat.mul_nonneg hx hy
def a6L (u v:Rat)(a:Int->Rat):Int->Rat:=λk=>u*a k+v*a (k-1)
theorem P2.lin {a:Int->Rat}(h:P2 a){u v:Rat}(hu:0<=u)(hv:0<=v):P2 (a6L u v a):=by
 refine⟨λk=>?_,λi j hij=>?_⟩
 .have:=fC hu (h.1 k);have:=fC hv (h.1 (k-1));simp only[a6L]
  grind
 .have e1:=h.spread (p:=i) (q:=j) (r:=i-1) (s:=j+1) (by omega) (by omega) (by omega);have e2:=h.spread (p:=i-1) (q:=j-1) (r:=i-2) (s:=j) (by omega) (by omega) (by omega);have e3:=h.spread (p:=i) (q:=j-1) (r:=i-2) (s:=j+1) (by omega) (by omega) (by omega);simp only[a6L];rw[show i-1-1=i-2 by omega,show j+1-1=j by omega];have f1:=fC (fC hu hu) (show 0<=a i*a j-a (i-1)*a (j+1) by grind);have f2:=fC (fC hv hv) (show 0<=a (i-1)*a (j-1)-a (i-2)*a j by grind);have f3:=fC (fC hu hv) (show 0<=a i*a (j-1)-a (i-2)*a (j+1) by grind);generalize a i=x at *;generalize a j=y at *;generalize a (i-1)=x1 at *;generalize a (j-1)=y1 at *;generalize a (i-2)=x2 at *;generalize a (j+1)=z at *
  grind
def Xi (c0 c1 c2:Rat)(a:Int->Rat):Int->Rat:=λk=>c0*a k+c1*a (k-1)+c2*a (k-2)
theorem P2.b2F {a:Int->Rat}(h:P2 a){c0 c1 c2:Rat}(h0:0<=c0)(h1:0<=c1)(h2:0<=c2)(hc:c0*c2<=c1*c1):P2 (Xi c0 c1 c2 a):=by
 refine⟨λk=>?_,λi j hij=>?_⟩
 .have:=fC h0 (h.1 k);have:=fC h1 (h.1 (k-1));have:=fC h2 (h.1 (k-2));simp only[Xi]
  grind
 .have e1:=h.spread (p:=i) (q:=j) (r:=i-1) (s:=j+1) (by omega) (by omega) (by omega);have e2:=h.spread (p:=i-1) (q:=j-1) (r:=i-2) (s:=j) (by omega) (by omega) (by omega);have e3:=h.spread (p:=i-2) (q:=j-2) (r:=i-3) (s:=j-1) (by omega) (by omega) (by omega);have e4:=h.spread (p:=i) (q:=j-1) (r:=i-2) (s:=j+1) (by omega) (by omega) (by omega);have e5:=h.spread (p:=i) (q:=j-2) (r:=i-3) (s:=j+1) (by omega) (by omega) (by omega);have e6:=h.spread (p:=i-1) (q:=j-2) (r:=i-3) (s:=j) (by omega) (by omega) (by omega);simp only[Xi];rw[show i-1-1=i-2 by omega,show j+1-1=j by omega,show i-1-2=i-3 by omega,show j+1-2=j-1 by omega];have f1:=fC (fC h0 h0) (show 0<=a i*a j-a (i-1)*a (j+1) by grind);have f2:=fC (show 0<=c1*c1-c0*c2 by grind) (show 0<=a (i-1)*a (j-1)-a (i-2)*a j by grind);have f3:=fC (fC h2 h2) (show 0<=a (i-2)*a (j-2)-a (i-3)*a (j-1) by grind);have f4:=fC (fC h0 h1) (show 0<=a i*a (j-1)-a (i-2)*a (j+1) by grind);have f5:=fC (fC h0 h2) (show 0<=a i*a (j-2)-a (i-3)*a (j+1) by grind);have f6:=fC (fC h1 h2) (show 0<=a (i-1)*a (j-2)-a (i-3)*a j by grind);generalize a i=x at *;generalize a j=y at *;generalize a (i-1)=x1 at *;generalize a (j-1)=y1 at *;generalize a (i-2)=x2 at *;generalize a (j-2)=y2 at *;generalize a (i-3)=x3 at *;generalize a (j+1)=z at *
  grind
theorem P2.after {a:Int->Rat}(h:P2 a){n d:Rat}(hn:0<=n)(hd:0<=d):∀(t:Nat) (k:Int),0<a (k-1)->n*a k<=d*a (k-1)->n*a (k+t)<=d*a (k+t-1)
 |0,k,_,h2=>by rw[show k+((0:Nat):Int)=k by omega];exact h2
 |t+1,k,h1,h2=>by
  by_cases h0:0<a k
  .have e:=h.2 k k (Int.le_refl k);have f:=fC (show 0<=d*a (k-1)-n*a k by grind) (h.1 (k+1));have g:0<=a k*(d*a k-n*a (k+1)):=by
    have:=fC hd (show 0<=a k*a k-a (k-1)*a (k+1) by grind)
    grind
   have h3:n*a (k+1)<=d*a k:=by
    by_cases hc:n*a (k+1)<=d*a k
    .exact hc
    .have hp:=Rat.mul_pos h0 (show 0<n*a (k+1)-d*a k by grind)
     grind
   have:=P2.after h hn hd t (k+1) (by rwa [show k+1-1=k by omega]) (by rwa [show k+1-1=k by omega]);rwa [show k+1+(t:Int)=k+((t+1:Nat):Int) by omega]at this
  .have hz:a k=0:=by have:=h.1 k;grind
   have e:=h.spread (p:=k) (q:=k+t) (r:=k-1) (s:=k+((t+1:Nat):Int)) (by omega) (by omega) (by omega);have h3:=h.1 (k+((t+1:Nat):Int));have h4:a (k+((t+1:Nat):Int))=0:=by
    by_cases hc:a (k+((t+1:Nat):Int))=0
    .exact hc
    .have:=Rat.mul_pos h1 (show 0<a (k+((t+1:Nat):Int)) by grind);rw[hz]at e;grind
   have h5:=fC hd (h.1 (k+((t+1:Nat):Int)-1));rw[h4];grind
def Ar (l:List Int)(k:Int):Rat:=if k<0 then 0 else (cf l k.toNat:Rat)
theorem lI (l:List Int)(n:Nat):Ar l n=cf l n:=by rw[Ar,if_neg (by omega),Int.toNat_natCast]
theorem jQ (l:List Int){k:Int}(h:k<0):Ar l k=0:=by rw[Ar,if_pos h]
theorem a1a {p q:List Int}(h:∀k,cf p k=cf q k):Ar p=Ar q:=funext λk=>by unfold Ar;rw[h]
theorem b0n:P2 (Ar [1]):=by
 have e:∀k:Int,Ar [1] k=if k=0 then 1 else 0:=λk=>by
  by_cases h:k<0
  .rw[jQ _ h,if_neg (by omega)]
  .obtain⟨n,rfl⟩:∃n:Nat,k=n:=⟨k.toNat,by omega⟩;rw[lI];cases n with
   |zero=>rfl
   |succ n=>rw[if_neg (by omega)];rfl
 refine⟨λk=>?_,λi j hij=>?_⟩
 .rw[e];split<;>decide
 .rw[e,e,e,e];have h1:¬(i-1=0/\j+1=0):=by omega
  have h0:(0:Rat)<=(if i=0 then 1 else 0)*(if j=0 then 1 else 0):=fC (by split<;>decide) (by split<;>decide);have h2:(if i-1=0 then (1:Rat) else 0)*(if j+1=0 then 1 else 0)=0:=by
   by_cases hi:i-1=0
   .rw[if_neg (c:=j+1=0) (λh=>h1 ⟨hi,h⟩)];grind
   .rw[if_neg hi];grind
  rw[h2];exact h0
theorem Ns (u v:Int)(g:List Int):Ar (bV [u,v] g)=a6L u v (Ar g):=funext λk=>by
 have hn:∀j,cf (bV [] g) j=0:=λj=>by rw[dZ];rfl
 unfold a6L;by_cases h:k<0
 .rw[jQ _ h,jQ _ h,jQ _ (by omega)];grind
 .obtain⟨n,rfl⟩:∃n:Nat,k=n:=⟨k.toNat,by omega⟩;rw[lI,lI,eH];cases n with
  |zero =>
   rw[jQ _ (by omega)];show ((u*cf g 0+0:Int):Rat)=_;rw[Rat.intCast_add,Rat.intCast_mul];show _+((0:Int):Rat)=_;rw[show ((0:Int):Rat)=0 from rfl];grind
  |succ n =>
   rw[show (((n+1:Nat):Int)-1)=(n:Int) by omega,lI];show ((u*cf g (n+1)+cf (bV [v] g) n:Int):Rat)=_;rw[eH];have:ni (cf (bV [] g)) n=0:=by cases n<;>simp[ni,hn]
   rw[this,Int.add_zero,Rat.intCast_add,Rat.intCast_mul,Rat.intCast_mul]
theorem a1b (c0 c1 c2:Int)(g:List Int):Ar (bV [c0,c1,c2] g)=Xi c0 c1 c2 (Ar g):=funext λk=>by
 unfold Xi;by_cases h:k<0
 .rw[jQ _ h,jQ _ h,jQ _ (by omega),jQ _ (by omega)];grind
 .obtain⟨n,rfl⟩:∃n:Nat,k=n:=⟨k.toNat,by omega⟩;rw[lI,lI,eH];cases n with
  |zero =>
   rw[jQ _ (by omega),jQ _ (by omega)];show ((c0*cf g 0+0:Int):Rat)=_;rw[Int.add_zero,Rat.intCast_mul];grind
  |succ n =>
   have e:=congrFun (Ns c1 c2 g) (n:Int);rw[lI]at e;unfold a6L at e;rw[show (((n+1:Nat):Int)-1)=(n:Int) by omega,show (((n+1:Nat):Int)-2)=(n:Int)-1 by omega];show ((c0*cf g (n+1)+cf (bV [c1,c2] g) n:Int):Rat)=_;rw[Rat.intCast_add,Rat.intCast_mul,e]
   grind
theorem a1H {h q:List Int}(hP:P2 (Ar h)){r:Int×Int}(hn:0<=r.1)(hd:0<=r.2)(e:∀k,cf q k=cf (bV (rf r) h) k):chg q<=1:=by
 have hn':(0:Rat)<=(r.1:Rat):=by exact_mod_cast hn
 have hd':(0:Rat)<=(r.2:Rat):=by exact_mod_cast hd
 have ev:∀k:Nat,(cf q k:Rat)=(r.2:Rat)*Ar h ((k:Int)-1)-(r.1:Rat)*Ar h k:=λk=>by
  rw[e,<-lI,show rf r=[-r.1,r.2] from rfl,Ns];unfold a6L;rw[Rat.intCast_neg];grind
 refine RZ λi j hij hi=>?_;have hi':(0:Rat)<(cf q i:Rat):=by exact_mod_cast hi
 rw[ev]at hi';have p1:=fC hn' (hP.1 i);have p2:0<Ar h ((i:Int)-1):=by
  have h0:=hP.1 ((i:Int)-1);by_cases hc:Ar h ((i:Int)-1)=0
  .rw[hc]at hi';grind
  .grind
 have:=hP.after hn' hd' (j-i) i p2 (by grind);rw[show (i:Int)+((j-i:Nat):Int)=(j:Int) by omega]at this;have h3:(0:Rat)<=(cf q j:Rat):=by rw[ev];grind
 exact_mod_cast h3
theorem a1S {h q:List Int}(hP:P2 (Ar h))(e:∀k,cf q k=cf h k):chg q<=1:=RZ λi j _ _=>by
 have:=hP.1 j;rw[lI]at this;rw[e];exact_mod_cast this
theorem Qg {g:List Int}(hg:P2 (Ar g)):∀A:List (Int×Int),(∀r∈A,r.1<=0/\0<r.2)->P2 (Ar (dI A g))
 |[],_=>hg
 |r::A,h=>by
  have ih:=Qg hg A λx hx=>h x (by simp[hx])
  have hr:=h r (by simp);rw[dw,show rf r=[-r.1,r.2] from rfl,Ns];have h1:(0:Rat)<=((-r.1:Int):Rat):=by exact_mod_cast (show (0:Int)<=-r.1 by omega)
  have h2:(0:Rat)<=((r.2:Int):Rat):=by exact_mod_cast (show (0:Int)<=r.2 by omega)
  exact ih.lin h1 h2
def qd (c:Int×Int):List Int:=[c.1*c.1+c.2,-2*c.1,1]
def lJ (C:List (Int×Int)):List Int:=C.foldr (λc h=>bV (qd c) h) [1]
theorem oV (c:Int×Int)(C:List (Int×Int)):lJ (c::C)=bV (qd c) (lJ C):=rfl
def nd (x:Rat):Int×Int:=(x.num,(x.den:Int))
theorem XI (x:Rat):0<(nd x).2:=by have:=x.den_pos;show (0:Int)<(x.den:Int);omega
theorem a6n (x:Rat):rf (nd x)=lnq x:=rfl
theorem Tf (c:Int×Int):tz (qd c)=3:=vF (n:=2) (by show (1:Int)≠0;decide) λk hk=>jK (by show 3<=k;omega)
theorem a7P (c:Int×Int)(x:Rat):er (qd c) x=(x-c.1)*(x-c.1)+c.2:=by
 simp only[qd,er];rw[Rat.intCast_add,Rat.intCast_mul,Rat.intCast_mul,show ((-2:Int):Rat) = -2 from rfl,show ((1:Int):Rat)=1 from rfl]
 grind
theorem a4t {c:Int×Int}(h:1<=c.2)(x:Rat):0<er (qd c) x:=by
 have hb':(1:Rat)<=c.2:=by exact_mod_cast h
 have:0<=(x-c.1)*(x-c.1):=by
  rcases Rat.le_total (a:=0) (b:=x-c.1) with h|h
  .exact Rat.mul_nonneg h h
  .have:=Rat.mul_nonneg (show 0<=-(x-c.1) by grind) (show 0<=-(x-c.1) by grind);grind
 rw[a7P];grind
theorem QM {e:List Int}(h:tz e=2):∃x,er e x=0:=by
 have h1:cf e 1≠0:=by have:=dS (q:=e) (by omega);rwa [h]at this
 have h1':(cf e 1:Rat)≠0:=by exact_mod_cast h1
 have ee:∀x,er e x=(cf e 0:Rat)+x*cf e 1:=λx=>by
  rw[nM (p:=e) (q:=[cf e 0,cf e 1]) x λk=>by
   match k with
   |0=>rfl
   |1=>rfl
   |k+2=>rw[bW e (by omega),jK (by show 2<=k+2;omega)]]
  simp only[er];grind
 refine⟨-(cf e 0:Rat)/cf e 1,?_⟩;have:=Rat.div_mul_cancel (a:=-(cf e 0:Rat)) h1';rw[ee,this];grind
theorem a7T {B A:List Int}(h:Dv B A){x:Rat}(hx:er B x=0):er A x=0:=by
 obtain⟨c,S,hc,e⟩:=h;have h1:=o8 (p:=bV S B) (q:=aY c A) (by rw[aX,bg];exact e) x;rw[gU,iF,hx]at h1;have hc':(c:Rat)≠0:=by exact_mod_cast hc
 rcases Rat.mul_eq_zero.mp (show er A x*(c:Rat)=0 by grind) with h|h
 .exact h
 .exact(hc' h).elim
theorem b0H {c:Int×Int}(h:1<=c.2):Irr (qd c):=⟨by rw[Tf];omega,λe he=>by
 have h1:=pO he (by rw[Tf];omega);rw[Tf]at h1 ⊢;by_cases h2:tz e=2
 .obtain⟨x,hx⟩:=QM h2;have:=a4t h x;rw[a7T he hx]at this;exact absurd this (by grind)
 .omega⟩
theorem Aq:∀C:List (Int×Int),tz (lJ C)=2*C.length+1
 |[]=>rfl
 |c::C=>by
  have ih:=Aq C;rw[oV,gJ (by rw[Tf];omega) (by omega),Tf,List.length_cons];omega
theorem Ie:∀(C:List (Int×Int)) (h:List Int),(∀c∈C,1<=c.2)->tz h≠0->Dv h (lJ C)->∃C':List (Int×Int),(∀c∈C',1<=c.2)/\As h (lJ C')
 |[],h,_,h0,hd=>by
  have h1:=(pO hd (by rw[Aq];omega)).2;rw[Aq]at h1;exact⟨[],by simp,SC (by simp only[List.length_nil]at h1;omega) rfl⟩
 |c::C,h,hC,h0,hd=>by
  have hC':∀x∈C,1<=x.2:=λx hx=>hC x (by simp[hx])
  have q0:tz (qd c)≠0:=by rw[Tf];omega
  by_cases hq:Dv (qd c) h
  .obtain⟨S,hS⟩:=qJ hq;have hd2:Dv S (lJ C):=Dv.cancel q0 (hS.symm.dv.trans hd);have S0:tz S≠0:=λe=>h0 (by rw[OU hS];exact gV (.inr e))
   obtain⟨C',h1,h2⟩:=Ie C S hC' S0 hd2;exact⟨c::C',λx hx=>by
    rcases List.mem_cons.1 hx with rfl|hx
    .exact hC _ (by simp)
    .exact h1 x hx,hS.trans ((As.refl _).pm h2)⟩
  .obtain⟨T,hT⟩:=qJ hd;rcases (b0H (hC c (by simp))).prime ((Vg _ _).trans hT.dv) with h1|h1
   .exact(hq h1).elim
   .obtain⟨U,hU⟩:=qJ h1;have e1:As (bV h T) (bV (qd c) (bV h U)):=((As.refl h).pm hU).trans (.kF (by simp only[aX];ac_rfl));exact Ie C h hC' h0 ((Vg h U).trans (As.cancel q0 (hT.trans e1)).symm.dv)
theorem YP:∀(A:List (Int×Int)) (h g:List Int),(∀r∈A,0<r.2)->(∀x:Rat,er h x≠0)->Dv h (dI A g)->Dv h g
 |[],_,_,_,_,hd=>hd
 |r::A,h,g,hA,hx,hd=>by
  have hr:=hA r (by simp);have tr:=(a0I hr).1;have q0:tz (rf r)≠0:=by omega
  obtain⟨T,hT⟩:=qJ hd;obtain⟨x0,hx0⟩:=QM tr;rcases (ET tr).prime ((Vg (rf r) (dI A g)).trans hT.dv) with h1|h1
  .exact(hx x0 (a7T h1 hx0)).elim
  .obtain⟨U,hU⟩:=qJ h1;have e1:As (bV h T) (bV (rf r) (bV h U)):=((As.refl h).pm hU).trans (.kF (by simp only[aX];ac_rfl));exact YP A h g (λx hx=>hA x (by simp[hx])) hx ((Vg h U).trans (As.cancel q0 (hT.trans e1)).symm.dv)
theorem Aw (A:List (Int×Int))(u v:List Int):ps (dI A (bV u v))=ps u*ps (dI A v):=by
 induction A with
 |nil=>show ps (bV u v)=_;rw[aX];rfl
 |cons b B ih=>rw[dw,dw,aX,aX,ih,<-PS.mul_assoc,PS.mul_comm (ps (rf b)),PS.mul_assoc]
theorem BZ (A:List (Int×Int)){u v:List Int}(h:ps u=ps v):ps (dI A u)=ps (dI A v):=by
 induction A with
 |nil=>exact h
 |cons b B ih=>rw[dw,dw,aX,aX,ih]
theorem As.dI (A:List (Int×Int)){u v:List Int}(h:As u v):As (Go.Proofs.YtnhghmibjddlkaaGreatDoor.dI A u) (Go.Proofs.YtnhghmibjddlkaaGreatDoor.dI A v):=by
 induction A with
 |nil=>exact h
 |cons b B ih=>rw[dw,dw];exact(As.refl _).pm ih
theorem peel:∀(rs:List Rat) (f:List Int),rs.Nodup->(∀r∈rs,er f r=0)->∃s,ps f=ps (dI (rs.map nd) s)
 |[],f,_,_=>⟨f,rfl⟩
 |r::rs,f,hn,h=>by
  obtain⟨hr,hn'⟩:=List.nodup_cons.1 hn;obtain⟨s,hs⟩:=Y2 (h r (by simp));obtain⟨s',hs'⟩:=peel rs s hn' λy hy=>by
   have h1:=h y (by simp[hy]);rw[YH hs.symm y,YI]at h1;have hd:(r.den:Rat)≠0:=by have:=r.den_nz;exact_mod_cast this
   rcases Rat.mul_eq_zero.mp h1 with h2|h2
   .exact h2
   .rcases Rat.mul_eq_zero.mp h2 with h3|h3
    .exact(hd h3).elim
    .exact(hr (show r∈rs by rw[show r=y by grind];exact hy)).elim
  refine⟨s',?_⟩;rw[List.map_cons,dw,aX,a6n,<-hs',<-hs,PS.mul_comm]
theorem twice_in {r:Int×Int}{s:List Int}:∀{A:List (Int×Int)},r∈A->∃T,ps (dI A s)=ps (bV (bV (rf r) s) T)
 |a::A,h=>by
  have nn:ps (dI A s)=ps (bV s (dI A [1])):=by
   rw[aX,<-Aw];exact BZ A (by rw[aX,kR,PS.mul_one])
  rcases List.mem_cons.1 h with rfl|h
  .exact⟨dI A [1],by rw[dw,aX,nn];simp only[aX,PS.mul_assoc]⟩
  .obtain⟨T,hT⟩:=twice_in h;exact⟨bV (rf a) T,by rw[dw,aX,hT];simp only[aX];ac_rfl⟩
theorem Yx {P:List Int}{rs:List Rat}{A0 C0:List (Int×Int)}(hR:J9 P rs)(h0:tz P≠0)(hA0:∀r∈A0,0<r.2)(hC0:∀c∈C0,1<=c.2)(hP:As P (dI A0 (lJ C0))) :
  ∃C:List (Int×Int),(∀c∈C,1<=c.2)/\As (frd P) (dI (rs.map nd) (lJ C)):=by
 obtain⟨-,-,-,a,b,ha,hb,e⟩:=Yy h0;have hk:As (bV (frd P) (rM P (aP P))) P:=⟨a,b,ha,hb,by rw[aX];exact e⟩;have fP:Dv (frd P) P:=(Vg _ _).trans hk.dv;obtain⟨s,hs⟩:=peel rs (frd P) hR.nd (a2M hR h0);have f0:tz (frd P)≠0:=(pO fP h0).1;have sf:Dv s (frd P):=.mul (S:=dI (rs.map nd) [1]) (by
  rw[hs,PS.mul_comm,<-Aw];exact BZ _ (by rw[aX,kR,PS.mul_one]))
 have s0:=(pO sf f0).1;have noz:∀x:Rat,er s x≠0:=λx hx=>by
  have hxP:er P x=0:=a7T (sf.trans fP) hx;have hm:x∈rs:=Classical.byContradiction λhm=>by
   obtain⟨d,hd,hb⟩:=hR.off x x Rat.le_refl λr hr h=>hm (by rw[show x=r by grind];exact hr)
   have:=hb x Rat.le_refl Rat.le_refl;rw[hxP]at this;rcases this with h|h<;>grind
  obtain⟨s',hs'⟩:=Y2 hx;obtain⟨T,hT⟩:=twice_in (r:=nd x) (s:=s) (A:=rs.map nd) (List.mem_map.2 ⟨x,hm,rfl⟩);refine(a7n (d:=lnq x) (ET (VK x).1) h0 (nI P (aP P)) hk).1 (.mul (S:=bV s' T) ?_);rw[hs,hT];simp only[aX];rw[<-hs',a6n]
  ac_rfl
 obtain⟨C,h1,h2⟩:=Ie C0 s hC0 s0 (YP A0 s (lJ C0) hA0 noz ((sf.trans fP).trans hP.dv));exact⟨C,h1,(As.kF hs).trans (h2.dI _)⟩
theorem a7c {P L:List Int}(k:Nat):ps (MV P L (k+1))=ps L*ps (MV P L k):=by
 show ps (bV (MV P L k) L)=_;rw[aX,PS.mul_comm]
theorem Zx {c:Int}(hc:c≠0)(rs:List (Int×Int×Int)):∀i,∃A:List (Int×Int),(∀r∈A,0<r.2)/\As (bQ c rs i) (dI A [1])
 |0=>⟨[],by simp,SC (by show tz [c]=1;exact vF (n:=0) hc λk hk=>jK (by show 1<=k;omega)) rfl⟩
 |i+1=>by
  obtain⟨A,h1,h2⟩:=Zx hc rs i;obtain⟨-,h3,-⟩:=Uf rs i;rw[bQ];generalize (kk rs i).2.2.toNat=k
  induction k with
  |zero=>exact⟨A,h1,h2⟩
  |succ k ih =>
   obtain⟨B,b1,b2⟩:=ih;refine⟨((kk rs i).1,(kk rs i).2.1)::B,λr hr=>?_,?_⟩
   .rcases List.mem_cons.1 hr with rfl|hr
    .show 0<(kk rs i).2.1;omega
    .exact b1 r hr
   .rw[dw];exact(As.kF (by rw[a7c,aX];rfl)).trans ((As.refl (rf ((kk rs i).1,(kk rs i).2.1))).pm b2)
theorem Zw {Q:List Int}{A:List (Int×Int)}(h:As Q (dI A [1]))(qs:List (Int×Int)):∀j,∃C:List (Int×Int),(∀c∈C,1<=c.2)/\As (bR Q qs j) (dI A (lJ C))
 |0=>⟨[],by simp,h⟩
 |j+1=>by
  obtain⟨C,h1,h2⟩:=Zw h qs j;obtain⟨-,h3⟩:=a8z qs j;refine⟨ab qs j::C,λc hc=>?_,?_⟩
  .rcases List.mem_cons.1 hc with rfl|hc
   .exact h3.1
   .exact h1 c hc
  .rw[bR,oV];refine(h2.pm (As.refl (qd (ab qs j)))).trans (.kF ?_);rw[aX,Aw,PS.mul_comm]
theorem Ul (r:Int×Int)(x:Rat):er (rf r) x=r.2*x-r.1:=YJ r.1 r.2 x
theorem YG (A:List (Int×Int))(u v:List Int)(x:Rat):er (dI A (bV u v)) x=er u x*er (dI A v) x:=YH (Aw A u v) x
theorem jB {a b:Rat}(ha:a≠0)(hb:b≠0):a*b≠0:=λh=>(Rat.mul_eq_zero.mp h).elim ha hb
theorem yZ {a:Int}(h:a≠0):(a:Rat)≠0:=by exact_mod_cast h
def Lks (f:List Int)(a e:Int)(L:List Int):Prop:=∃t:Rat,0<t/\∀x,er L x=t*er f ((a+x)*p2 (-e))
def t1 (a u v:Int)(r:Int×Int):Int×Int:=(r.1*v-r.2*u*a,r.2*u)
def q1 (a u v:Int)(c:Int×Int):List Int:=[(u*a-c.1*v)*(u*a-c.1*v)+c.2*v*v,2*u*(u*a-c.1*v),u*u]
theorem Rn (x y z:Int)(t:Rat):er [x,y,z] t=x+t*(y+t*z):=by
 simp only[er];grind
theorem PW {x y z:Int}(h:z≠0):tz [x,y,z]=3:=vF (n:=2) h λk hk=>jK (by show 3<=k;omega)
theorem b3b {a u v:Int}{w:Rat}(hw:w*v=u)(r:Int×Int)(x:Rat):er (rf (t1 a u v r)) x=v*er (rf r) ((a+x)*w):=by
 rw[Ul,Ul];simp only[t1];rw[Rat.intCast_sub,Rat.intCast_mul,Rat.intCast_mul,Rat.intCast_mul,Rat.intCast_mul,<-hw]
 grind
theorem b3c {a u v:Int}{w:Rat}(hw:w*v=u)(c:Int×Int)(x:Rat):er (q1 a u v c) x=v*v*er (qd c) ((a+x)*w):=by
 rw[a7P,q1,Rn];simp only[Rat.intCast_sub,Rat.intCast_mul,Rat.intCast_add];rw[show ((2:Int):Rat)=2 from rfl,<-hw]
 grind
theorem EH {a u v:Int}{w:Rat}(hu:u≠0)(hv:v≠0)(hw:w*v=u):∀C:List (Int×Int),∃(g:List Int) (s:Rat),s≠0/\tz g=2*C.length+1/\∀x,er g x=s*er (lJ C) ((a+x)*w)
 |[]=>⟨[1],1,by decide,rfl,λx=>by rw[Rat.one_mul];simp only[lJ,List.foldr_nil,er];grind⟩
 |c::C=>by
  obtain⟨g,s,s0,ht,h⟩:=EH (a:=a) hu hv hw C;have hv':=yZ hv;refine⟨bV (q1 a u v c) g,v*v*s,jB (jB hv' hv') s0,?_,λx=>?_⟩
  .have h3:tz (q1 a u v c)=3:=PW (Int.mul_ne_zero hu hu);rw[gJ (by omega) (by omega),h3,ht,List.length_cons];omega
  .rw[gU,b3c hw,h,oV,gU];grind
theorem KH {a u v:Int}{w:Rat}(hu:0<u)(hv:v≠0)(hw:w*v=u){g h:List Int}{s0:Rat}(h0:s0≠0)(hg:∀x,er g x=s0*er h ((a+x)*w)):∀A:List (Int×Int),(∀r∈A,0<r.2) ->
  ∃(B:List (Int×Int)) (s:Rat),s≠0/\(∀r∈B,0<r.2)/\B.length=A.length/\∀x,er (dI B g) x=s*er (dI A h) ((a+x)*w)
 |[],_=>⟨[],s0,h0,by simp,rfl,hg⟩
 |r::A,hA=>by
  obtain⟨B,s,s1,hB,hl,hh⟩:=KH hu hv hw h0 hg A λx hx=>hA x (by simp[hx])
  refine⟨t1 a u v r::B,v*s,jB (yZ hv) s1,λx hx=>?_,by rw[List.length_cons,List.length_cons,hl],λx=>?_⟩
  .rcases List.mem_cons.1 hx with rfl|hx
   .exact Int.mul_pos (hA r (by simp)) hu
   .exact hB x hx
  .rw[dw,gU,b3b hw,hh,dw,gU];grind
theorem b0i (e:Int):∃u v:Int,0<u/\0<v/\p2 (-e)*v=u/\(0<=e->u=1):=by
 refine⟨((2^(-e).toNat:Nat):Int),((2^e.toNat:Nat):Int),?_,?_,?_,λh=>?_⟩
 .have:0<2^(-e).toNat:=Nat.pow_pos (by omega);omega
 .have:0<2^e.toNat:=Nat.pow_pos (by omega);omega
 .rw[Rat.intCast_natCast,Rat.intCast_natCast];exact yQ (by omega)
 .rw[show (-e).toNat=0 by omega];rfl
theorem b0A {f L:List Int}{A C:List (Int×Int)}{a e:Int}(hf:As f (dI A (lJ C)))(hA:∀r∈A,0<r.2)(hL:Lks f a e L):tz L=A.length+2*C.length+1:=by
 obtain⟨u,v,hu,hv,hw,-⟩:=b0i e;obtain⟨t,ht,hl⟩:=hL;obtain⟨s0,z0,h0⟩:=hf.er;obtain⟨g,s1,z1,tg,h1⟩:=EH (a:=a) (by omega) (by omega) hw C;obtain⟨B,s2,z2,hB,lB,h2⟩:=KH hu (by omega) hw z1 h1 A hA;have h3:As L (dI B g):=Bh (s:=s2) (t:=t*s0) z2 (jB (by grind) z0) λx _=>by
  rw[hl,h0,h2];grind
 rw[OU h3,(wR (by omega) B hB).1,lB,tg];omega
def Ug (a u v:Int)(r:Int×Int):Bool:=decide (r.2*(u*a)<r.1*v/\r.1*v<r.2*(u*(a+1)))
theorem QL {a u v:Int}(hu:0<u)(hv:0<v):∀A:List (Int×Int),(∀r∈A,0<r.2)->∃(A1 A2:List (Int×Int)) (s:Rat),s≠0/\(∀r∈A1,0<r.1/\0<r.2)/\(∀r∈A2,r.1<=0/\0<r.2)/\A1.length=A.countP (Ug a u v) /\
  ∀(g g':List Int) (x y σ m:Rat),(1+x)*y*v=(a*(1+x)+1)*u->m*er g y=σ*er g' x->(1+x)^A.length*m*er (dI A g) y=s*σ*er (dI A1 (dI A2 g')) x
 |[],_=>⟨[],[],1,by decide,by simp,by simp,rfl,λg g' x y σ m _ h=>by
  show (1+x)^0*m*er g y=1*σ*er g' x;rw[Rat.pow_zero];grind⟩
 |r::A,hA=>by
  obtain⟨A1,A2,s,s0,h1,h2,hl,hh⟩:=QL hu hv A λx hx=>hA x (by simp[hx])
  have hr:=hA r (by simp);have hv':(v:Rat)≠0:=yZ (by omega);have hp:0<r.2*u:=Int.mul_pos hr hu;obtain⟨p1,hp1⟩:∃p1:Int,p1=r.2*u*a-r.1*v:=⟨_,rfl⟩;have e1:r.2*(u*a)=r.2*u*a:=(Int.mul_assoc _ _ _).symm;have e2:r.2*(u*(a+1))=r.2*u*a+r.2*u:=by rw[<-Int.mul_assoc,Int.mul_add,Int.mul_one]
  have key:∀x y:Rat,(1+x)*y*v=(a*(1+x)+1)*u->(1+x)*er (rf r) y*v=(p1:Rat)*x+((p1+r.2*u:Int):Rat):=λx y h=>by
   rw[Ul,hp1];simp only[Rat.intCast_sub,Rat.intCast_mul,Rat.intCast_add]
   grind
  have pw:∀x:Rat,(1+x)^(r::A).length=(1+x)^A.length*(1+x):=λx=>by rw[List.length_cons,Rat.pow_succ]
  have vi:(v:Rat)⁻¹*v=1:=Rat.inv_mul_cancel _ hv';have vn:(v:Rat)⁻¹≠0:=λh=>by rw[h]at vi;grind
  have cnt:(r::A).countP (Ug a u v)=A.countP (Ug a u v)+if Ug a u v r then 1 else 0:=by rw[List.countP_cons]
  by_cases hin:Ug a u v r=true
  .have hin':=of_decide_eq_true hin;rw[e1,e2]at hin';refine⟨(p1+r.2*u,-p1)::A1,A2,s * -(v:Rat)⁻¹,jB s0 (by grind),λx hx=>?_,h2,?_,λg g' x y σ m h h'=>?_⟩
   .rcases List.mem_cons.1 hx with rfl|hx
    .constructor<;>simp only<;>omega
    .exact h1 x hx
   .rw[cnt,hin,List.length_cons,hl];rfl
   .have:=hh g g' x y σ m h h';have k:=key x y h;rw[dw,gU,pw,dw,gU,Ul (p1+r.2*u,-p1)];simp only[Rat.intCast_neg];have k2:(1+x)*er (rf r) y=(v:Rat)⁻¹*((p1:Rat)*x+((p1+r.2*u:Int):Rat)):=by rw[<-k];grind
    generalize er (rf r) y=z1 at *;generalize er (dI A g) y=z2 at *;generalize er (dI A1 (dI A2 g')) x=z3 at *;generalize ((p1+r.2*u:Int):Rat)=z4 at *;generalize (1+x)^A.length=z5 at *;have:z5*(1+x)*m*(z1*z2)=((1+x)*z1)*(z5*m*z2):=by grind
    rw[this,k2,‹z5*m*z2=_›]
    grind
  .have hin':=of_decide_eq_false (Bool.eq_false_iff.2 hin);rw[e1,e2]at hin';rw[cnt,if_neg hin,Nat.add_zero];by_cases c1:0<p1
   .refine⟨A1,(-(p1+r.2*u),p1)::A2,s*(v:Rat)⁻¹,jB s0 vn,h1,λx hx=>?_,hl,λg g' x y σ m h h'=>?_⟩
    .rcases List.mem_cons.1 hx with rfl|hx
     .constructor<;>simp only<;>omega
     .exact h2 x hx
    .have:=hh g g' x y σ m h h';have k:=key x y h;rw[dw,gU,pw,dw,YG,Ul (-(p1+r.2*u),p1)];simp only[Rat.intCast_neg];have k2:(1+x)*er (rf r) y=(v:Rat)⁻¹*((p1:Rat)*x+((p1+r.2*u:Int):Rat)):=by rw[<-k];grind
     generalize er (rf r) y=z1 at *;generalize er (dI A g) y=z2 at *;generalize er (dI A1 (dI A2 g')) x=z3 at *;generalize ((p1+r.2*u:Int):Rat)=z4 at *;generalize (1+x)^A.length=z5 at *;have:z5*(1+x)*m*(z1*z2)=((1+x)*z1)*(z5*m*z2):=by grind
     rw[this,k2,‹z5*m*z2=_›]
     grind
   .by_cases c2:p1=0
    .refine⟨A1,A2,s*((v:Rat)⁻¹*((p1+r.2*u:Int):Rat)),jB s0 (jB vn (yZ (by omega))),h1,h2,hl,λg g' x y σ m h h'=>?_⟩;have:=hh g g' x y σ m h h';have k:=key x y h;rw[dw,gU,pw];have k2:(1+x)*er (rf r) y=(v:Rat)⁻¹*((p1:Rat)*x+((p1+r.2*u:Int):Rat)):=by rw[<-k];grind
     rw[show (p1:Rat)=0 by rw[c2];rfl]at k2;generalize er (rf r) y=z1 at *;generalize er (dI A g) y=z2 at *;generalize er (dI A1 (dI A2 g')) x=z3 at *;generalize ((p1+r.2*u:Int):Rat)=z4 at *;generalize (1+x)^A.length=z5 at *;have:z5*(1+x)*m*(z1*z2)=((1+x)*z1)*(z5*m*z2):=by grind
     rw[this,k2,‹z5*m*z2=_›]
     grind
    .refine⟨A1,(p1+r.2*u,-p1)::A2,s * -(v:Rat)⁻¹,jB s0 (by grind),h1,λx hx=>?_,hl,λg g' x y σ m h h'=>?_⟩
     .rcases List.mem_cons.1 hx with rfl|hx
      .constructor<;>simp only<;>omega
      .exact h2 x hx
     .have:=hh g g' x y σ m h h';have k:=key x y h;rw[dw,gU,pw,dw,YG,Ul (p1+r.2*u,-p1)];simp only[Rat.intCast_neg];have k2:(1+x)*er (rf r) y=(v:Rat)⁻¹*((p1:Rat)*x+((p1+r.2*u:Int):Rat)):=by rw[<-k];grind
      generalize er (rf r) y=z1 at *;generalize er (dI A g) y=z2 at *;generalize er (dI A1 (dI A2 g')) x=z3 at *;generalize ((p1+r.2*u:Int):Rat)=z4 at *;generalize (1+x)^A.length=z5 at *;have:z5*(1+x)*m*(z1*z2)=((1+x)*z1)*(z5*m*z2):=by grind
      rw[this,k2,‹z5*m*z2=_›]
      grind
def q2 (α β u:Int):List Int:=[(u-α)*(u-α)+β,-2*α*(u-α)+2*β,α*α+β]
theorem a9d (x:Int):0<=x*x:=by
 rcases Int.le_total 0 x with h|h
 .exact Int.mul_nonneg h h
 .have:=Int.mul_nonneg (show 0<=-x by omega) (show 0<=-x by omega);rwa [Int.neg_mul_neg]at this
theorem b2G {α β:Int}(hb:1<=β){g:List Int}(h:P2 (Ar g)):P2 (Ar (bV (q2 α β 1) g)):=by
 have s1:=a9d α;have s2:=a9d (1-α);have A0:0<=α*(α-1):=by
  by_cases h:0<α
  .exact Int.mul_nonneg (by omega) (by omega)
  .have:=Int.mul_nonneg (show 0<=-α by omega) (show 0<=-(α-1) by omega);rwa [Int.neg_mul_neg]at this
 obtain⟨A,hA⟩:∃A,A=α*(α-1):=⟨_,rfl⟩;rw[<-hA]at A0;have c1 : -2*α*(1-α)+2*β=2*A+2*β:=by rw[hA];grind
 have cc:((1-α)*(1-α)+β)*(α*α+β)<=(2*A+2*β)*(2*A+2*β):=by
  have e:(2*A+2*β)*(2*A+2*β)-((1-α)*(1-α)+β)*(α*α+β)=3*(A*A)+6*(A*β)+(2*(β*β)+β*(β-1)):=by rw[hA];grind
  have f1:=a9d A;have f2:=Int.mul_nonneg A0 (show 0<=β by omega);have f3:=a9d β;have f4:=Int.mul_nonneg (show 0<=β by omega) (show 0<=β-1 by omega);omega
 rw[q2,a1b,c1];have i0:(0:Rat)<=(((1-α)*(1-α)+β:Int):Rat):=by exact_mod_cast (show (0:Int)<=(1-α)*(1-α)+β by omega)
 have i1:(0:Rat)<=((2*A+2*β:Int):Rat):=by exact_mod_cast (show (0:Int)<=2*A+2*β by omega)
 have i2:(0:Rat)<=((α*α+β:Int):Rat):=by exact_mod_cast (show (0:Int)<=α*α+β by omega)
 exact h.b2F i0 i1 i2 (by rw[<-Rat.intCast_mul,<-Rat.intCast_mul];exact_mod_cast cc)
theorem KI {a u v:Int}(hu:0<u)(hv:0<v):∀C:List (Int×Int),(∀c∈C,1<=c.2)->∃(g:List Int) (s:Rat),s≠0/\GL g/\tz g%2=1/\(u=1->P2 (Ar g)) /\
  ∀x y:Rat,(1+x)*y*v=(a*(1+x)+1)*u->(1+x)^(2*C.length)*er (lJ C) y=s*er g x
 |[],_=>⟨[1],1,by decide,⟨1,⟨λj hj=>by omega,rfl,by decide⟩,rfl⟩,rfl,λ_=>b0n,λx y _=>by
  show (1+x)^0*er [1] y=1*er [1] x;simp only[er];rw[Rat.pow_zero];grind⟩
 |c::C,hC=>by
  obtain⟨g,s,s0,hg,ho,hp,hh⟩:=KI (a:=a) hu hv C λx hx=>hC x (by simp[hx])
  have hc:=hC c (by simp);have hv':(v:Rat)≠0:=yZ (by omega);have vi:(v:Rat)⁻¹*v=1:=Rat.inv_mul_cancel _ hv';have vn:(v:Rat)⁻¹≠0:=λh=>by rw[h]at vi;grind
  obtain⟨α,hα⟩:∃α,α=c.1*v-u*a:=⟨_,rfl⟩;obtain⟨β,hβ⟩:∃β,β=c.2*(v*v):=⟨_,rfl⟩;have hb:1<=β:=by
   rw[hβ];have h1:0<v*v:=Int.mul_pos hv hv;have:=Int.mul_le_mul (show (1:Int)<=c.2 from hc) (show (1:Int)<=v*v by omega) (by omega) (by omega);omega
  have s1:=a9d α;have s2:=a9d (u-α);have h0:0<cf (q2 α β u) 0:=by show 0<(u-α)*(u-α)+β;omega
  have h2:0<cf (q2 α β u) 2:=by show 0<α*α+β;omega
  have h3:tz (q2 α β u)=3:=PW (by omega);obtain⟨g1,g2⟩:=a7w hg ho h0 h3 h2;refine⟨bV g (q2 α β u),s*((v:Rat)⁻¹*(v:Rat)⁻¹),jB s0 (jB vn vn),g1,by omega,λh1=>?_,λx y h=>?_⟩
  .subst h1;rw[a1a (x9 g (q2 α β 1))];exact b2G hb (hp rfl)
  .have ih:=hh x y h;have key:(1+x)*(1+x)*er (qd c) y*(v*v)=er (q2 α β u) x:=by
    rw[a7P,q2,Rn,hα,hβ];simp only[Rat.intCast_sub,Rat.intCast_mul,Rat.intCast_add];rw[show ((2:Int):Rat)=2 from rfl,show ((-2:Int):Rat) = -2 from rfl];have e1:(1+x)*(1+x)*((y-c.1)*(y-c.1)+c.2)*(v*v)=((1+x)*y*v-c.1*(1+x)*v)*((1+x)*y*v-c.1*(1+x)*v)+c.2*((1+x)*v)*((1+x)*v):=by grind
    rw[e1,h]
    grind
   rw[oV,gU,gU,List.length_cons,show 2*(C.length+1)=2*C.length+1+1 by omega,Rat.pow_succ,Rat.pow_succ];have k2:(1+x)*(1+x)*er (qd c) y=(v:Rat)⁻¹*(v:Rat)⁻¹*er (q2 α β u) x:=by rw[<-key];grind
   generalize er (qd c) y=z1 at *;generalize er (lJ C) y=z2 at *;generalize er (q2 α β u) x=z3 at *;generalize (1+x)^(2*C.length)=z5 at *;have:z5*(1+x)*(1+x)*(z1*z2)=((1+x)*(1+x)*z1)*(z5*z2):=by grind
   rw[this,k2,ih]
   grind
theorem a1Q {A1 A2:List (Int×Int)}(h1:∀r∈A1,0<r.1/\0<r.2)(h2:∀r∈A2,r.1<=0/\0<r.2):npos (A1++A2)=A1.length:=by
 unfold npos;rw[List.countP_append,List.countP_eq_length.2 λr hr=>decide_eq_true (h1 r hr).1,List.countP_eq_zero.2 λr hr=>by have:=(h2 r hr).1;simp;omega];rfl
theorem JM (A1 A2:List (Int×Int))(g:List Int):dI (A1++A2) g=dI A1 (dI A2 g):=by simp[dI,List.foldr_append]
theorem a0R {f L:List Int}{A C:List (Int×Int)}{a e u v:Int}(hu:0<u)(hv:0<v)(hw:p2 (-e)*v=u)(hf:As f (dI A (lJ C)))(hA:∀r∈A,0<r.2)(hC:∀c∈C,1<=c.2)(hL:Lks f a e L) :
  A.countP (Ug a u v)<=chg (kS (aV L) [1,0] [1,1])/\chg (kS (aV L) [1,0] [1,1])%2=A.countP (Ug a u v)%2/\(u=1->A.countP (Ug a u v)<=1->chg (kS (aV L) [1,0] [1,1])=A.countP (Ug a u v)):=by
 have htz:=b0A hf hA hL;obtain⟨t,ht,hl⟩:=hL;obtain⟨s0,z0,h0⟩:=hf.er;obtain⟨A1,A2,s1,z1,a1,a2,al,h1⟩:=QL (a:=a) hu hv A hA;obtain⟨g,s2,z2,hg,ho,hp,h2⟩:=KI (a:=a) hu hv C hC;rw[<-al];have hq:As (kS (aV L) [1,0] [1,1]) (dI A1 (dI A2 g)):=Bh (s:=1) (t:=t*s0*(s1*s2)) (by decide) (jB (jB (by grind) z0) (jB z1 z2)) λx hx=>by
  have e1:er [1,1] x=1+x:=by simp only[er];rw[show ((1:Int):Rat)=1 from rfl];grind
  have e2:er [1,0] x=1:=by simp only[er];rw[show ((1:Int):Rat)=1 from rfl,show ((0:Int):Rat)=0 from rfl];grind
  have hx1:1+x≠0:=by grind
  have k:=Dn [1,0] [1,1] x (by rw[e1];exact hx1) (aV L);rw[e1,e2,bI,htz,nM (p:=aV L) (q:=L) _ (bH L),hl,h0]at k;have hz:1/(1+x)*(1+x)=1:=Rat.div_mul_cancel hx1;have hy:(1+x)*((a+1/(1+x))*p2 (-e))*v=(a*(1+x)+1)*u:=by
   rw[<-hw];generalize 1/(1+x)=z at *;grind
  have k2:=h1 (lJ C) g x _ s2 ((1+x)^(2*C.length)) hy (h2 x _ hy);rw[Rat.pow_succ,show (1+x)^(A.length+2*C.length)=(1+x)^A.length*(1+x)^(2*C.length) from Az _ _ _]at k;generalize er (dI A (lJ C)) ((a+1/(1+x))*p2 (-e))=y1 at *;generalize er (kS (aV L) [1,0] [1,1]) x=y2 at *;generalize (1+x)^A.length*(1+x)^(2*C.length)=y3 at *;have k3:y2=y3*(t*(s0*y1)):=by
   have:(1+x)*(y2-y3*(t*(s0*y1)))=0:=by grind
   rcases Rat.mul_eq_zero.mp this with h|h
   .exact(hx1 h).elim
   .grind
  rw[k3,Rat.one_mul];have:y3*(t*(s0*y1))=t*s0*(y3*y1):=by grind
  rw[this,k2];grind
 have hb:∀r∈A1++A2,0<r.2:=λr hr=>by
  rcases List.mem_append.1 hr with h|h
  .exact(a1 r h).2
  .exact(a2 r h).2
 rw[hq.chg];have c1:=OI (A1++A2) g (dI A1 (dI A2 g)) hb hg.tz (by rw[JM]);have c2:=a3c (q:=dI A1 (dI A2 g)) hb hg (by rw[JM]);rw[a1Q a1 a2]at c1 c2;refine⟨c1,c2,λh hm=>?_⟩;have hP:=Qg (hp h) A2 a2
 match A1,hm,a1 with
 |[],_,_ =>
  have:=a1S (q:=dI [] (dI A2 g)) hP λ_=>rfl
  simp only[List.length_nil]at c1 c2 ⊢;omega
 |[r],_,a1 =>
  have hr:=a1 r (by simp);have:=a1H (q:=dI [r] (dI A2 g)) hP (r:=r) (by omega) (by omega) λ_=>rfl
  simp only[List.length_cons,List.length_nil]at c1 c2 ⊢;omega
def vi:Int->List Int->Nat
 |_,[]=>0
 |s,x::l=>if x.sign=0 then vi s l else (if s≠0/\x.sign≠s then 1 else 0)+vi x.sign l
theorem JC (x:Int):x.sign=0\/x.sign=1\/x.sign = -1:=by rcases dD x with ⟨_,e⟩|⟨_,e⟩|⟨_,e⟩<;>omega
theorem kC (s x:Int)(l:List Int):vi s (x::l)=if x.sign=0 then vi s l else (if s≠0/\x.sign≠s then 1 else 0)+vi x.sign l:=rfl
theorem FZ:∀(l:List Int) (n:Nat) (s:Int),(l.foldl chs (n,s)).1=n+vi s l
 |[],_,_=>rfl
 |x::l,n,s=>by
  rw[List.foldl_cons,kC];by_cases h:x.sign=0
  .rw[qP h,if_pos h];exact FZ l n s
  .rw[if_neg h];by_cases h2:s≠0/\x.sign≠s
   .rw[xZ (st:=(n,s)) h h2,if_pos h2,FZ l];omega
   .rw[kP (st:=(n,s)) h h2,if_neg h2,FZ l];omega
theorem Vz (l:List Int):chg l=vi 0 l:=by
 have:=FZ l 0 0;rw[Nat.zero_add]at this;exact this
theorem a9z (s t:Int)(l:List Int)(hs:s=0\/s=1\/s = -1)(ht:t=1\/t = -1):vi s l<=(if s≠0/\t≠s then 1 else 0)+vi t l:=by
 induction l with
 |nil=>exact Nat.zero_le _
 |cons x l ih =>
  rw[kC,kC];by_cases h:x.sign=0
  .rw[if_pos h,if_pos h];exact ih
  .rw[if_neg h,if_neg h];have hx:x.sign=1\/x.sign = -1:=by have:=JC x;omega
   generalize x.sign=X at *;rcases hs with rfl|rfl|rfl<;>rcases ht with rfl|rfl<;>rcases hx with rfl|rfl<;>simp<;>omega
def Mi:List Int->List Int
 |[]=>[]
 |[x]=>[x]
 |x::y::l=>(x+y)::Mi (y::l)
theorem a4G:∀l:List Int,(Mi l).length=l.length
 |[]=>rfl
 |[x]=>rfl
 |x::y::l=>by rw[Mi,List.length_cons,a4G (y::l)];rfl
theorem Nq (x y:Int):(x+y).sign=0\/(x+y).sign=x.sign\/(x+y).sign=y.sign:=by
 rcases dD x with ⟨a,e⟩|⟨a,e⟩|⟨a,e⟩<;>rcases dD y with ⟨b,e'⟩|⟨b,e'⟩|⟨b,e'⟩<;>rcases dD (x+y) with ⟨c,e''⟩|⟨c,e''⟩|⟨c,e''⟩<;>omega
theorem b0y:∀(l:List Int) (s:Int),(s=0\/s=1\/s = -1)->vi s (Mi l)<=vi s l
 |[],_,_=>Nat.le_refl _
 |[x],s,hs=>Nat.le_refl _
 |x::y::l,s,hs=>by
  have ih:=λt ht=>b0y (y::l) t ht
  have hz:=Nq x y;rw[Mi,kC];have hx:=JC x;have hzz:=JC (x+y);have hy:=JC y;have tr:∀t:Int,t=1\/t = -1->vi s (y::l)<=(if s≠0/\t≠s then 1 else 0)+vi t (y::l):=λt ht=>a9z s t (y::l) hs ht
  have h1:vi s (y::l)<=vi s (x::y::l):=by
   rw[kC s x];by_cases h:x.sign=0
   .rw[if_pos h];exact Nat.le_refl _
   .rw[if_neg h];exact tr _ (by omega)
  by_cases h:(x+y).sign=0
  .rw[if_pos h];exact Nat.le_trans (ih s hs) h1
  .rw[if_neg h];rcases hz with e|e|e
   .exact absurd e h
   .rw[e]at h ⊢;rw[kC s x,if_neg h];exact Nat.add_le_add_left (ih _ hx) _
   .have h2:y.sign≠0:=by rw[<-e];exact h
    refine Nat.le_trans ?_ h1;rw[e];refine Nat.le_trans (Nat.add_le_add_left (ih _ hy) _) ?_;have e3:vi y.sign (y::l)=vi y.sign l:=by
     rw[kC,if_neg h2,if_neg (λe=>e.2 rfl),Nat.zero_add]
    rw[e3,kC s,if_neg h2];exact Nat.le_refl _
def tyi:List Int->List Int
 |[]=>[]
 |c::q=>Mi (c::tyi q)
theorem VN:∀(l:List Int) (s:Int),(s=0\/s=1\/s = -1)->vi s (tyi l)<=vi s l
 |[],_,_=>Nat.le_refl _
 |c::q,s,hs=>by
  rw[tyi];refine Nat.le_trans (b0y _ s hs) ?_;rw[kC,kC];by_cases h0:c.sign=0
  .rw[if_pos h0,if_pos h0];exact VN q s hs
  .rw[if_neg h0,if_neg h0];exact Nat.add_le_add_left (VN q _ (JC c)) _
theorem Ze (l:List Int):chg (tyi l)<=chg l:=by rw[Vz,Vz];exact VN l 0 (.inl rfl)
theorem b1c (x:Rat):∀(c:Int) (l:List Int),er (Mi (c::l)) x=c+(x+1)*er l x
 |c,[]=>by simp only[Mi,er];grind
 |c,y::l=>by
  rw[Mi];show ((c+y:Int):Rat)+x*er (Mi (y::l)) x=c+(x+1)*(y+x*er l x);rw[b1c x y l,Rat.intCast_add];grind
theorem Fa (x:Rat):∀l:List Int,er (tyi l) x=er l (x+1)
 |[]=>rfl
 |c::q=>by
  rw[tyi,b1c,Fa x q];rfl
theorem BD:∀l:List Int,(tyi l).length=l.length
 |[]=>rfl
 |c::q=>by rw[tyi,a4G,List.length_cons,BD q,List.length_cons]
def fsg:List Int->Int
 |[]=>0
 |x::l=>if x.sign=0 then fsg l else x.sign
theorem PO (s:Int):∀l:List Int,vi s l=vi 0 l+if s≠0/\fsg l≠0/\fsg l≠s then 1 else 0
 |[]=>by simp[vi,fsg]
 |x::l=>by
  rw[kC,kC,fsg];by_cases h:x.sign=0
  .rw[if_pos h,if_pos h,if_pos h];exact PO s l
  .rw[if_neg h,if_neg h,if_neg h,if_neg (c:=(0:Int)≠0/\x.sign≠0) (λe=>e.1 rfl)];by_cases h2:s≠0/\x.sign≠s
   .rw[if_pos h2,if_pos ⟨h2.1,h,h2.2⟩];omega
   .rw[if_neg h2,if_neg (λe=>h2 ⟨e.1,e.2.2⟩)];omega
theorem a3d (l:List Int)(x:Int):chf (l++[x])=chs (chf l) x:=by simp[chf,List.foldl_append]
theorem WH:∀l:List Int,(chf l.reverse).1=vi 0 l/\(chf l.reverse).2=fsg l
 |[]=>⟨rfl,rfl⟩
 |x::l=>by
  obtain⟨h1,h2⟩:=WH l;rw[List.reverse_cons,a3d,kC,fsg];by_cases h:x.sign=0
  .rw[qP h,if_pos h,if_pos h];exact⟨h1,h2⟩
  .rw[if_neg h,if_neg h,if_neg (λe=>e.1 rfl),PO];by_cases h3:(chf l.reverse).2≠0/\x.sign≠(chf l.reverse).2
   .rw[xZ h h3,h1];rw[h2]at h3;refine⟨?_,rfl⟩;show vi 0 l+1=_;rw[if_pos ⟨h,h3.1,λe=>h3.2 e.symm⟩];omega
   .rw[kP h h3,h1];rw[h2]at h3;refine⟨?_,rfl⟩;show vi 0 l=_;rw[if_neg (λe=>h3 ⟨e.2.1,λe2=>e.2.2 e2.symm⟩)];omega
theorem Zg (l:List Int):chg l.reverse=chg l:=by rw[Vz l];exact(WH l).1
theorem a4V (x:Rat):∀a b:List Int,er (a++b) x=er a x+x^a.length*er b x
 |[],b=>by
  show er b x=0+x^0*er b x;rw[Rat.pow_zero];grind
 |c::a,b=>by
  show (c:Rat)+x*er (a++b) x=c+x*er a x+x^(a.length+1)*er b x;rw[a4V x a b,Rat.pow_succ];grind
theorem Rq {x:Rat}(hx:x≠0):∀l:List Int,er l.reverse x*x=x^l.length*er l (1/x)
 |[]=>by
  show (0:Rat)*x=_*0
  grind
 |c::l=>by
  have ih:=Rq hx l;have hd:=Rat.div_mul_cancel (a:=1) hx;rw[List.reverse_cons,a4V,List.length_reverse,List.length_cons,Rat.pow_succ];show (er l.reverse x+x^l.length*((c:Rat)+x*0))*x=x^l.length*x*((c:Rat)+1/x*er l (1/x));generalize er l.reverse x=y at *;generalize er l (1/x)=z at *;generalize 1/x=w at *;generalize x^l.length=m at *
  grind
theorem Zf (l:List Int):chg (sc 2 l)=chg l:=by
 unfold chg;rw[<-iU (sc 2 l),<-iU l]
 congr 2
 refine YE (by simp[wO]) λk hk=>?_;rw[List.length_map,wO]at hk;have e1:∀(m:List Int),cf (m.map Int.sign) k=(cf m k).sign:=λm=>by
  by_cases h:k<m.length
  .simp[cf,List.getD,h]
  .simp[cf,List.getD,Nat.not_lt.1 h]
 rw[e1,e1,OL,Int.sign_mul,Int.sign_eq_one_of_pos (Int.pow_pos (by decide)),Int.mul_one]
theorem yV {L:List Int}{N:Nat}(ht:tz L=N+1){x:Rat}(hx:1+x≠0):er (kS (aV L) [1,0] [1,1]) x=(1+x)^N*er L (1/(1+x)):=by
 have e1:er [1,1] x=1+x:=by simp only[er];rw[show ((1:Int):Rat)=1 from rfl];grind
 have e2:er [1,0] x=1:=by simp only[er];rw[show ((1:Int):Rat)=1 from rfl,show ((0:Int):Rat)=0 from rfl];grind
 have k:=Dn [1,0] [1,1] x (by rw[e1];exact hx) (aV L);rw[e1,e2,bI,ht,nM (p:=aV L) (q:=L) _ (bH L),Rat.pow_succ]at k;generalize er (kS (aV L) [1,0] [1,1]) x=y at *;generalize er L (1/(1+x))=z at *;generalize (1+x)^N=m at *;have:(1+x)*(y-m*z)=0:=by grind
 rcases Rat.mul_eq_zero.mp this with h|h
 .exact(hx h).elim
 .grind
def AB (L:List Int):List Int:=kS (aV L) [1,0] [1,1]
theorem wQ (a b:Rat):∀n:Nat,(a*b)^n=a^n*b^n
 |0=>by rw[Rat.pow_zero,Rat.pow_zero,Rat.pow_zero];decide +kernel
 |n+1=>by rw[Rat.pow_succ,Rat.pow_succ,Rat.pow_succ,wQ a b n];grind
theorem a7a {L L1:List Int}{N:Nat}{t:Rat}(ht:tz L=N+1)(ht1:tz L1=N+1)(h0:t≠0)(h:∀x,er L1 x=t*er L (x/2)):chg (AB L1)<=chg (AB L):=by
 have hA:As (AB L1) (sc 2 (tyi (AB L))):=Bh (s:=2^N) (t:=t) (Rat.ne_of_gt (Rat.pow_pos (by decide))) h0 λx hx=>by
  rw[Uk,Fa,AB,AB,yV ht1 (by grind),yV ht (by rw[show ((2:Int):Rat)=2 from rfl];grind),h,show ((2:Int):Rat)=2 from rfl,show 1+(2*x+1)=2*(1+x) by grind];have e:1/(2*(1+x))=1/(1+x)/2:=by
   rw[Rat.div_def,Rat.div_def,Rat.div_def,Rat.inv_mul_rev];grind
  rw[e,wQ]
  grind
 rw[hA.chg,Zf];exact Ze _
theorem vH {a b c:Rat}(hc:c≠0)(h:a*c=b*c):a=b:=by
 have:(a-b)*c=0:=by grind
 rcases Rat.mul_eq_zero.mp this with h|h
 .grind
 .exact(hc h).elim
theorem a7f {L:List Int}{N:Nat}(ht:tz L=N+1):ps (AB L)=ps (tyi (aV L).reverse):=qC λx hx=>by
 have h1:1+x≠0:=by grind
 have k:=Rq (x:=1+x) h1 (aV L);rw[bI,ht,nM (p:=aV L) (q:=L) _ (bH L),Rat.pow_succ]at k;rw[AB,yV ht h1,Fa,show x+1=1+x by grind];refine vH h1 ?_;rw[k];grind
theorem a2A {L L1:List Int}{N:Nat}{t:Rat}(ht:tz L=N+1)(ht1:tz L1=N+1)(h0:t≠0)(h:∀x,er L1 x=t*er L ((1+x)/2)):chg (AB L1)<=chg (AB L):=by
 obtain⟨p,hp⟩:∃p:List Int,p=tyi (aV L).reverse:=⟨_,rfl⟩;have pl:p.length=N+1:=by rw[hp,BD,List.length_reverse,bI,ht]
 have pe:ps (AB L)=ps p:=by rw[hp];exact a7f ht
 have hA:As (AB L1) (sc 2 (tyi p.reverse)).reverse:=Bh (s:=2^N) (t:=t) (Rat.ne_of_gt (Rat.pow_pos (by decide))) h0 λx hx=>by
  have hx0:x≠0:=by grind
  have h1:1+x≠0:=by grind
  have h2:2+x≠0:=by grind
  have j1:=Rat.div_mul_cancel (a:=1) hx0;have i1:=Rat.div_mul_cancel (a:=1) h1;have w1:=Rat.div_mul_cancel (a:=x) h2;have f1:=Rq hx0 (sc 2 (tyi p.reverse));rw[wO,BD,List.length_reverse,pl,Uk,Fa,show ((2:Int):Rat)=2 from rfl]at f1;obtain⟨y,hy⟩:∃y,y=2*(1/x)+1:=⟨_,rfl⟩;have yx:y*x=2+x:=by rw[hy];generalize 1/x=z at *;grind
  have hy0:y≠0:=λe=>h2 (by rw[<-yx,e];grind)
  rw[<-hy]at f1;have f2:=Rq hy0 p;have y1:=Rat.div_mul_cancel (a:=1) hy0;have yw:1/y=x/(2+x):=vH h2 (by rw[w1,<-yx];generalize 1/y=z at *;grind);rw[pl,yw]at f2;have pz:=o8 pe (x/(2+x));have hz1:1+x/(2+x)≠0:=λe=>by
   have:(1+x/(2+x))*(2+x)=2*(1+x):=by generalize x/(2+x)=z at *;grind
   rw[e]at this;grind
  rw[AB,yV ht hz1]at pz;have ez:(1+x/(2+x))*(2+x)=2*(1+x):=by generalize x/(2+x)=z at *;grind
  have ei:1/(1+x/(2+x))=(1+1/(1+x))/2:=by
   have z1:=Rat.div_mul_cancel (a:=1) hz1;refine vH (c:=(1+x/(2+x))*(2+x)) (by rw[ez];grind) ?_;have d2:(1+1/(1+x))/2*2=1+1/(1+x):=Rat.div_mul_cancel (by decide);rw[<-Rat.mul_assoc,z1,ez];generalize (1+1/(1+x))/2=z2 at *;generalize 1/(1+x)=z3 at *
   grind
  rw[ei]at pz;rw[AB,yV ht1 h1,h];have e1:x^(N+1)*y^(N+1)=(2+x)^N*(2+x):=by rw[<-wQ,Rat.mul_comm x,yx,Rat.pow_succ]
  have e2:(2+x)^N*(1+x/(2+x))^N=2^N*(1+x)^N:=by rw[<-wQ,<-wQ,Rat.mul_comm (2+x),ez]
  refine vH (c:=x*y) (by rw[Rat.mul_comm,yx];exact h2) ?_;generalize er (sc 2 (tyi p.reverse)).reverse x=q2 at *;generalize er p.reverse y=q1 at *;generalize er p (x/(2+x))=q0 at *;generalize er L ((1+1/(1+x))/2)=l0 at *;generalize x^(N+1)=a1 at *;generalize y^(N+1)=a2 at *;generalize (2+x)^N=a3 at *;generalize (1+x/(2+x))^N=a4 at *;generalize (2:Rat)^N=a5 at *;generalize (1+x)^N=a6 at *;have g1:q2*(x*y)=a1*a2*q0:=by
   have:q2*(x*y)=q2*x*y:=by grind
   rw[this,f1,Rat.mul_assoc,f2];grind
  have g2:t*q2*(x*y)=t*(a1*a2*q0):=by rw[Rat.mul_assoc,g1]
  rw[g2,e1,<-pz];have xy:x*y=2+x:=by grind
  rw[xy];have:a5*(a6*(t*l0))=t*(a5*a6)*l0:=by grind
  rw[this,<-e2];grind
 rw[hA.chg,Zg,Zf];refine Nat.le_trans (Ze _) ?_;rw[Zg];refine Nat.le_of_eq ?_;unfold chg;rw[Dz (jc pe)]
section
structure Sp where
 a:Int
 e:Int
 pt:Bool
 L:List Int
def Sp.w (s:Sp):Rat:=p2 (-s.e)
def Sp.low (s:Sp):Sp:=⟨s.a+s.a,s.e+1,false,wtm 2 (aV s.L)⟩
def Sp.mid (s:Sp):Sp:=⟨s.a+s.a+1,s.e+1,true,[]⟩
def Sp.high (s:Sp):Sp:=⟨s.a+s.a+1,s.e+1,false,kS (wtm 2 (aV s.L)) [1,1] [1]⟩
def Sp.ch (s:Sp):Nat:=chg (AB s.L)
def inb (s:Sp)(x:Rat):Bool:=if s.pt then decide (x=s.a*p2 (-s.e)) else decide (s.a*p2 (-s.e)<x/\x<(s.a+1)*p2 (-s.e))
def ins (rs:List Rat)(s:Sp):List Rat:=rs.filter (inb s)
theorem PN (e:Int):p2 (-(e+1))*2=p2 (-e):=by
 have:p2 (-e)=p2 (-(e+1))*p2 1:=by rw[<-xk];congr 1;omega
 rw[this];rfl
structure Env (f:List Int) (rs:List Rat) (C:List (Int×Int)):Prop where
 hf:As f (dI (rs.map nd) (lJ C))
 hC:∀c∈C,1<=c.2
 rise:rs.Pairwise (· < ·)
 far:∀x∈rs,∀y∈rs,x<y->1<=(y-x)*1000000
theorem b1b (rs:List Rat)(C:List (Int×Int))(hC:∀c∈C,1<=c.2)(y:Rat):er (dI (rs.map nd) (lJ C)) y=0↔y∈rs:=by
 induction rs with
 |nil =>
  have:∀C:List (Int×Int),(∀c∈C,1<=c.2)->0<er (lJ C) y:=λC=>by
   induction C with
   |nil=>intro _;simp only[lJ,List.foldr_nil,er];rw[show ((1:Int):Rat)=1 from rfl];grind
   |cons c C ih =>
    intro h;rw[oV,gU];exact Rat.mul_pos (a4t (h c (by simp)) y) (ih λx hx=>h x (by simp[hx]))
  have:=this C hC;show er (lJ C) y=0↔_;simp
  grind
 |cons x rs ih =>
  rw[List.map_cons,dw,gU,a6n,YI,List.mem_cons,<-ih];have hd:(x.den:Rat)≠0:=by have:=x.den_nz;exact_mod_cast this
  constructor
  .intro h;rcases Rat.mul_eq_zero.mp h with h|h
   .rcases Rat.mul_eq_zero.mp h with h|h
    .exact(hd h).elim
    .left;grind
   .exact .inr h
  .rintro(h|h)
   .rw[h];grind
   .rw[h];grind
variable {f:List Int} {rs:List Rat} {C:List (Int×Int)}
theorem Env.root (E:Env f rs C)(y:Rat):er f y=0↔y∈rs:=by
 obtain⟨s,s0,h⟩:=E.hf.er;rw[<-b1b rs C E.hC y,h];constructor
 .intro h;rcases Rat.mul_eq_zero.mp h with h|h
  .exact(s0 h).elim
  .exact h
 .intro h;rw[h];grind
theorem a2u {a e u v:Int}(hu:0<u)(hv:0<v)(hw:p2 (-e)*v=u)(x:Rat):Ug a u v (nd x)=decide (a*p2 (-e)<x/\x<(a+1)*p2 (-e)):=by
 have hd:(0:Rat)<(x.den:Rat):=by have:=x.den_pos;exact_mod_cast this
 have hv':(0:Rat)<v:=by exact_mod_cast hv
 have hn:=vM x;have hp:=Rat.mul_pos hd hv';have e1:∀b:Int,((x.den:Int)*(u*b)<x.num*v)↔(b:Rat)*p2 (-e)<x:=λb=>by
  have c1:((x.den:Int)*(u*b)<x.num*v)↔((x.den:Rat)*(u*b)<x.num*v):=by
   rw[<-Rat.intCast_natCast,<-Rat.intCast_mul,<-Rat.intCast_mul,<-Rat.intCast_mul,Rat.intCast_lt_intCast]
  rw[c1,hn,<-hw];have k:(x.den:Rat)*x*v-(x.den:Rat)*(p2 (-e)*v*b)=(x-b*p2 (-e))*((x.den:Rat)*v):=by grind
  constructor
  .intro h;refine Rat.not_le.1 λhc=>?_;have:=Rat.mul_nonneg (show 0<=b*p2 (-e)-x by grind) (Rat.le_of_lt hp)
   grind
  .intro h;have:=Rat.mul_pos (show 0<x-b*p2 (-e) by grind) hp
   grind
 have e2:∀b:Int,(x.num*v<(x.den:Int)*(u*b))↔x<(b:Rat)*p2 (-e):=λb=>by
  have c1:(x.num*v<(x.den:Int)*(u*b))↔((x.num:Rat)*v<(x.den:Rat)*(u*b)):=by
   rw[<-Rat.intCast_natCast,<-Rat.intCast_mul,<-Rat.intCast_mul,<-Rat.intCast_mul,Rat.intCast_lt_intCast]
  rw[c1,hn,<-hw];have k:(x.den:Rat)*(p2 (-e)*v*b)-(x.den:Rat)*x*v=(b*p2 (-e)-x)*((x.den:Rat)*v):=by grind
  constructor
  .intro h;refine Rat.not_le.1 λhc=>?_;have:=Rat.mul_nonneg (show 0<=x-b*p2 (-e) by grind) (Rat.le_of_lt hp)
   grind
  .intro h;have:=Rat.mul_pos (show 0<b*p2 (-e)-x by grind) hp
   grind
 unfold Ug nd;simp only;rw[decide_eq_decide];rw[e1 a,e2 (a+1),Rat.intCast_add,show ((1:Int):Rat)=1 from rfl]
theorem Env.ch (E:Env f rs C){s:Sp}(hp:s.pt=false)(hL:Lks f s.a s.e s.L):(ins rs s).length<=s.ch/\s.ch%2=(ins rs s).length%2/\(0<=s.e->(ins rs s).length<=1->s.ch=(ins rs s).length):=by
 obtain⟨u,v,hu,hv,hw,h1⟩:=b0i s.e;have hA:∀r∈rs.map nd,0<r.2:=λr hr=>by
  obtain⟨x,_,rfl⟩:=List.mem_map.1 hr;exact XI x
 have k:=a0R hu hv hw E.hf hA E.hC hL;have e:(rs.map nd).countP (Ug s.a u v)=(ins rs s).length:=by
  rw[List.countP_map,ins,<-List.countP_eq_length_filter]
  congr 1
  funext x
  show Ug s.a u v (nd x)=inb s x;rw[a2u hu hv hw,inb,hp];rfl
 rw[e]at k;exact⟨k.1,k.2.1,λh0 hm=>k.2.2 (h1 h0) hm⟩
theorem Env.tz (E:Env f rs C){a e:Int}{L:List Int}(hL:Lks f a e L):tz L=rs.length+2*C.length+1:=by
 have hA:∀r∈rs.map nd,0<r.2:=λr hr=>by
  obtain⟨x,_,rfl⟩:=List.mem_map.1 hr;exact XI x
 have:=b0A E.hf hA hL;rwa [List.length_map]at this
theorem b1d {L:List Int}{N:Nat}(ht:Go.AL.tz L=N+1)(x:Rat):er (wtm 2 (aV L)) x=2^N*er L (x/2):=by
 have k:=a4T (t:=2) (by decide) x (aV L);rw[bI,ht,show ((2:Int):Rat)=2 from rfl,nM (p:=aV L) (q:=L) _ (bH L),Rat.pow_succ]at k;refine vH (c:=2) (by decide) ?_;rw[k];grind
theorem tJ (P:List Int)(x:Rat):er (kS P [1,1] [1]) x=er P (1+x):=by
 have e1:er [1,1] x=1+x:=by simp only[er];rw[show ((1:Int):Rat)=1 from rfl];grind
 have e2:er [1] x=1:=by simp only[er];rw[show ((1:Int):Rat)=1 from rfl];grind
 have k:=Dn [1,1] [1] x (by rw[e2];decide) P;rw[e1,e2]at k;have one:∀n:Nat,(1:Rat)^n=1:=λn=>by
  induction n with
  |zero=>exact Rat.pow_zero _
  |succ n ih=>rw[Rat.pow_succ,ih];grind
 have i1:(1:Rat)⁻¹=1:=by decide +kernel
 rw[one,show (1+x)/1=1+x by rw[Rat.div_def,i1];grind]at k
 grind
theorem Env.low (E:Env f rs C){s:Sp}(hL:Lks f s.a s.e s.L):Lks f s.low.a s.low.e s.low.L/\Lks f s.high.a s.high.e s.high.L/\s.low.ch<=s.ch/\s.high.ch<=s.ch:=by
 have ht:=E.tz hL;generalize rs.length+2*C.length=N at ht;have el:=b1d ht;have eh:∀x,er (kS (wtm 2 (aV s.L)) [1,1] [1]) x=2^N*er s.L ((1+x)/2):=λx=>by rw[tJ,el]
 have p0:(0:Rat)<2^N:=Rat.pow_pos (by decide);have hL':=hL;obtain⟨t,ht0,hl⟩:=hL;have hw:=PN s.e;have l1:Lks f s.low.a s.low.e s.low.L:=⟨2^N*t,Rat.mul_pos p0 ht0,λx=>by
  show er (wtm 2 (aV s.L)) x=_*er f ((((s.a+s.a:Int):Rat)+x)*p2 (-(s.e+1)));rw[el,hl,<-hw];have hx:=Rat.div_mul_cancel (a:=x) (b:=2) (by decide);rw[Rat.mul_assoc (2^N),Rat.intCast_add]
  congr 3
  generalize x/2=z at *
  grind⟩
 have l2:Lks f s.high.a s.high.e s.high.L:=⟨2^N*t,Rat.mul_pos p0 ht0,λx=>by
  show er (kS (wtm 2 (aV s.L)) [1,1] [1]) x=_*er f ((((s.a+s.a+1:Int):Rat)+x)*p2 (-(s.e+1)));rw[eh,hl,<-hw];have hx:=Rat.div_mul_cancel (a:=1+x) (b:=2) (by decide);rw[Rat.mul_assoc (2^N),Rat.intCast_add,Rat.intCast_add,show ((1:Int):Rat)=1 from rfl]
  congr 3
  generalize (1+x)/2=z at *
  grind⟩
 have t1:Go.AL.tz s.low.L=N+1:=by have:=E.tz l1;have:=E.tz hL';omega
 have t2:Go.AL.tz s.high.L=N+1:=by have:=E.tz l2;have:=E.tz hL';omega
 exact⟨l1,l2,a7a ht t1 (by grind) el,a2A ht t2 (by grind) eh⟩
theorem tH:∀(l:List Rat),l.Pairwise (· < ·)->∀(p:Rat->Bool) (m:Rat),l.filter p=l.filter (λx=>p x && decide (x<m))++(l.filter (λx=>p x && decide (x=m))++l.filter (λx=>p x && decide (m<x)))
 |[],_,_,_=>rfl
 |x::l,h,p,m=>by
  obtain⟨h1,h2⟩:=List.pairwise_cons.1 h;have ih:=tH l h2 p m;have b3D:¬x<m->l.filter (λx=>p x && decide (x<m))=[]:=λhx=>List.filter_eq_nil_iff.2 λy hy=>by
   have:=h1 y hy;simp;intro _;grind
  have b5o:m<x->l.filter (λx=>p x && decide (x=m))=[]:=λhx=>List.filter_eq_nil_iff.2 λy hy=>by
   have:=h1 y hy;simp;intro _;grind
  by_cases hp:p x=true
  .by_cases c1:x<m
   .have c2:¬x=m:=by grind
    have c3:¬m<x:=by grind
    simp only[List.filter_cons,hp,c1,c2,c3,decide_true,decide_false,Bool.and_true,Bool.and_false,Bool.false_eq_true,if_true,if_false,List.cons_append];rw[ih]
   .by_cases c2:x=m
    .have c3:¬m<x:=by grind
     simp only[List.filter_cons,hp,c1,c2,c3,decide_true,decide_false,Bool.and_true,Bool.and_false,Bool.false_eq_true,if_true,if_false,List.cons_append];have e0:=b3D c1;rw[e0]at ih;subst c2;simp only[hp,Rat.lt_irrefl,decide_true,decide_false,Bool.and_true,Bool.and_false,Bool.false_eq_true,if_true,if_false];rw[e0,ih];rfl
    .have c3:m<x:=by grind
     simp only[List.filter_cons,hp,c1,c2,c3,decide_true,decide_false,Bool.and_true,Bool.and_false,Bool.false_eq_true,if_true,if_false];rw[b3D c1,b5o c3]at ih ⊢;rw[ih];rfl
  .simp only[List.filter_cons,hp,Bool.false_and,Bool.false_eq_true,if_false];exact ih
theorem Ye (hr:rs.Pairwise (· < ·)){s:Sp}(hp:s.pt=false):ins rs s=ins rs s.low++(ins rs s.mid++ins rs s.high):=by
 unfold ins;rw[tH rs hr (inb s) ((s.a+s.a+1:Int)*p2 (-(s.e+1)))];have hw:=PN s.e;have hw0:=xg (-(s.e+1))
 congr 1
 .refine List.filter_congr λx _=>?_;rw[inb,hp,inb];show (decide (_/\_) && decide _)=decide ((((s.a+s.a:Int):Rat)*p2 (-(s.e+1))<x)/\x<((((s.a+s.a:Int):Rat)+1)*p2 (-(s.e+1))));rw[<-Bool.decide_and,decide_eq_decide,<-hw];simp only[Rat.intCast_add,show ((1:Int):Rat)=1 from rfl];constructor
  .rintro⟨⟨h1,h2⟩,h3⟩;constructor<;>grind
  .rintro⟨h1,h2⟩;refine⟨⟨?_,?_⟩,?_⟩<;>grind
 .congr 1
  .refine List.filter_congr λx _=>?_;rw[inb,hp,inb];show (decide (_/\_) && decide _)=decide (x=((s.a+s.a+1:Int):Rat)*p2 (-(s.e+1)));rw[<-Bool.decide_and,decide_eq_decide,<-hw];simp only[Rat.intCast_add,show ((1:Int):Rat)=1 from rfl];constructor
   .rintro⟨⟨h1,h2⟩,h3⟩;exact h3
   .intro h1;refine⟨⟨?_,?_⟩,h1⟩<;>grind
  .refine List.filter_congr λx _=>?_;rw[inb,hp,inb];show (decide (_/\_) && decide _)=decide ((((s.a+s.a+1:Int):Rat)*p2 (-(s.e+1))<x)/\x<((((s.a+s.a+1:Int):Rat)+1)*p2 (-(s.e+1))));rw[<-Bool.decide_and,decide_eq_decide,<-hw];simp only[Rat.intCast_add,show ((1:Int):Rat)=1 from rfl];constructor
   .rintro⟨⟨h1,h2⟩,h3⟩;constructor<;>grind
   .rintro⟨h1,h2⟩;refine⟨⟨?_,?_⟩,?_⟩<;>grind
theorem b0I (hr:rs.Pairwise (· < ·)){s:Sp}(hp:s.pt=true):(s.a*p2 (-s.e)∈rs->ins rs s=[s.a*p2 (-s.e)])/\(s.a*p2 (-s.e)∉rs->ins rs s=[]):=by
 have e:∀x,inb s x=decide (x=s.a*p2 (-s.e)):=λx=>by rw[inb,hp];rfl
 generalize (s.a:Rat)*p2 (-s.e)=y at *;unfold ins;rw[show inb s=λx=>decide (x=y) from funext e];clear e;refine⟨λh=>?_,λh=>List.filter_eq_nil_iff.2 λx hx he=>h (by rw[<-of_decide_eq_true he];exact hx)⟩
 induction rs with
 |nil=>simp at h
 |cons x l ih =>
  obtain⟨h1,h2⟩:=List.pairwise_cons.1 hr;by_cases hx:x=y
  .subst hx;rw[List.filter_cons,if_pos (by simp),List.filter_eq_nil_iff.2 λz hz he=>by have:=h1 z hz;rw[of_decide_eq_true he]at this;grind]
  .rw[List.filter_cons,if_neg (by simpa using hx)];exact ih h2 (by rcases List.mem_cons.1 h with h|h;exact(hx h.symm).elim;exact h)
theorem b2L {e:Int}(h:21<=e):p2 (-e)*1000000<1:=by
 have h1:=Xw (show -e<=-21 by omega);have h2:p2 (-21)=1/2097152:=by decide +kernel
 rw[h2]at h1;have h3:(1:Rat)/2097152*1000000<1:=by decide +kernel
 grind
theorem Env.few (E:Env f rs C){s:Sp}(hp:s.pt=false)(he:21<=s.e):(ins rs s).length<=1:=by
 have hs:(ins rs s).Pairwise (· < ·):=E.rise.sublist List.filter_sublist;have hm:∀x∈ins rs s,x∈rs/\s.a*p2 (-s.e)<x/\x<(s.a+1)*p2 (-s.e):=λx hx=>by
  obtain⟨h1,h2⟩:=List.mem_filter.1 hx;rw[inb,hp]at h2;exact⟨h1,of_decide_eq_true h2⟩
 match h:ins rs s with
 |[]=>exact Nat.zero_le _
 |[x]=>exact Nat.le_refl _
 |x::y::l =>
  exfalso
  rw[h]at hs hm;have hxy:x<y:=(List.pairwise_cons.1 hs).1 y (by simp);obtain⟨x1,x2,x3⟩:=hm x (by simp);obtain⟨y1,y2,y3⟩:=hm y (by simp);have:=E.far x x1 y y1 hxy;have:=b2L he
  grind
end
section
structure H1 (f:List Int) (rs:List Rat) (s:Sp) (x:Rat):Prop where
 mem:x∈rs
 inn:inb s x=true
 one:∀y∈rs,inb s y=true->y=x
 lk:s.pt=false->Lks f s.a s.e s.L/\s.ch=1
def HL (f:List Int)(rs:List Rat):List Sp->List Rat->Prop
 |[],[]=>True
 |s::r,x::xs=>H1 f rs s x/\HL f rs r xs
 |_,_=>False
def Sp.hz (f:List Int)(s:Sp):Prop:=er f (s.a*p2 (-s.e))=0
inductive MW (f:List Int):Nat->List Sp->List Sp->Prop
 |nil:MW f 0 [] []
 |yes {n:Nat} {s:Sp} {st r:List Sp} (hp:s.pt=true) (h:s.hz f) (k:MW f n st r):MW f (n+1) (s::st) (s::r)
 |no {n:Nat} {s:Sp} {st r:List Sp} (hp:s.pt=true) (h:¬s.hz f) (k:MW f n st r):MW f (n+1) (s::st) r
 |zero {n:Nat} {s:Sp} {st r:List Sp} (hp:s.pt=false) (h:s.ch=0) (k:MW f n st r):MW f (n+1) (s::st) r
 |one {n:Nat} {s:Sp} {st r:List Sp} (hp:s.pt=false) (h:s.ch=1) (k:MW f n st r):MW f (n+1) (s::st) (s::r)
 |split {n:Nat} {s:Sp} {st r:List Sp} (hp:s.pt=false) (h0:s.ch≠0) (h1:s.ch≠1) (he:s.e<=20) (k:MW f n (s.low::s.mid::s.high::st) r):MW f (n+1) (s::st) r
def swt (s:Sp):Nat:=if s.pt then 1 else 4^(22-s.e).toNat
def a0T (st:List Sp):Nat:=(st.map swt).sum
theorem VX (s:Sp):0<swt s:=by
 unfold swt;split
 .omega
 .exact Nat.pow_pos (by omega)
theorem yL (s:Sp)(st:List Sp):a0T (s::st)=swt s+a0T st:=by simp[a0T]
theorem U9 {l:List Rat}(h:l.length=1):∃x,l=[x]:=List.length_eq_one_iff.1 h
variable {f:List Int} {rs:List Rat} {C:List (Int×Int)}
theorem Env.iso (E:Env f rs C):∀(m:Nat) (st:List Sp),(∀s∈st,s.pt=false->Lks f s.a s.e s.L/\s.e<=21)->a0T st<=m->∃n r,MW f n st r/\HL f rs r (st.flatMap (ins rs))
 |_,[],_,_=>⟨0,[],.nil,trivial⟩
 |0,s::st,_,hm=>by have:=VX s;rw[yL]at hm;omega
 |m+1,s::st,hs,hm=>by
  have hw:=VX s;rw[yL]at hm;have hst:∀t∈st,t.pt=false->Lks f t.a t.e t.L/\t.e<=21:=λt ht=>hs t (by simp[ht])
  rw[List.flatMap_cons];cases hp:s.pt with
  |true =>
   obtain⟨n,r,k1,k2⟩:=E.iso m st hst (by omega);have hi:=b0I E.rise hp;have hr:=E.root (s.a*p2 (-s.e));by_cases hz:s.hz f
   .refine⟨n+1,s::r,.yes hp hz k1,?_⟩;rw[hi.1 (hr.1 hz)];exact⟨⟨hr.1 hz,by rw[inb,hp];simp,λy _ hy=>by rw[inb,hp]at hy;exact of_decide_eq_true hy,λh=>by rw[hp]at h;cases h⟩,k2⟩
   .refine⟨n+1,r,.no hp hz k1,?_⟩;rw[hi.2 λh=>hz (hr.2 h)];exact k2
  |false =>
   obtain⟨hL,he⟩:=hs s (by simp) hp;obtain⟨c1,c2,c3⟩:=E.ch hp hL;by_cases h0:s.ch=0
   .obtain⟨n,r,k1,k2⟩:=E.iso m st hst (by omega);refine⟨n+1,r,.zero hp h0 k1,?_⟩;rw[List.length_eq_zero_iff.1 (show (ins rs s).length=0 by omega)];exact k2
   .by_cases h1:s.ch=1
    .obtain⟨n,r,k1,k2⟩:=E.iso m st hst (by omega);obtain⟨x,hx⟩:=U9 (show (ins rs s).length=1 by omega);refine⟨n+1,s::r,.one hp h1 k1,?_⟩;rw[hx];have hxm:x∈ins rs s:=by rw[hx];simp
     obtain⟨m1,m2⟩:=List.mem_filter.1 hxm;refine⟨⟨m1,m2,λy hy hy2=>?_,λ_=>⟨hL,h1⟩⟩,k2⟩;have:y∈ins rs s:=List.mem_filter.2 ⟨hy,hy2⟩;rw[hx]at this;simpa using this
    .have he2:s.e<=20:=Classical.byContradiction λhc=>by
      have:=E.few hp (show 21<=s.e by omega);have:=c3 (by omega) this;omega
     obtain⟨l1,l2,-,-⟩:=E.low hL;have hq:(22-s.e).toNat=(22-(s.e+1)).toNat+1:=by omega
     have q1:4<=4^(22-(s.e+1)).toNat:=by
      have:(22-(s.e+1)).toNat=(22-(s.e+1)).toNat-1+1:=by omega
      rw[this,Nat.pow_succ];have:=Nat.pow_pos (n:=(22-(s.e+1)).toNat-1) (show 0<4 by omega);omega
     have w1:swt s.low=4^(22-(s.e+1)).toNat:=rfl;have w2:swt s.mid=1:=rfl;have w3:swt s.high=4^(22-(s.e+1)).toNat:=rfl;have w0:swt s=4*4^(22-(s.e+1)).toNat:=by
      rw[swt,hp,hq,Nat.pow_succ,Nat.mul_comm];rfl
     obtain⟨n,r,k1,k2⟩:=E.iso m (s.low::s.mid::s.high::st) (λt ht h=>by
      simp only[List.mem_cons]at ht;rcases ht with rfl|rfl|rfl|ht
      .exact⟨l1,by show s.e+1<=21;omega⟩
      .cases h
      .exact⟨l2,by show s.e+1<=21;omega⟩
      .exact hst t ht h) (by simp only[yL,w1,w2,w3];omega)
     refine⟨n+1,r,.split hp h0 h1 he2 k1,?_⟩;rw[Ye E.rise hp];simp only[List.flatMap_cons,List.append_assoc]at k2 ⊢;exact k2
def Sp.nx (s:Sp):Sp:=if er s.L (1/2)=0 then s.mid else if s.low.ch=1 then s.low else s.high
def oD:Nat->Sp->Sp
 |0,s=>s
 |n+1,s=>if s.pt then s else oD n s.nx
def Sp.ref (s:Sp)(k:Int):Sp:=oD (k-s.e).toNat s
theorem a6W (a e:Int):((a+a+1:Int):Rat)*p2 (-(e+1))=((a:Rat)+1/2)*p2 (-e):=by
 rw[<-PN e,Rat.intCast_add,Rat.intCast_add,show ((1:Int):Rat)=1 from rfl];have h2:(1:Rat)/2*2=1:=by decide +kernel
 generalize (1:Rat)/2=z at *
 grind
theorem H1.nx (E:Env f rs C){s:Sp}{x:Rat}(h:H1 f rs s x)(hp:s.pt=false):H1 f rs s.nx x:=by
 obtain⟨hL,h1⟩:=h.lk hp;obtain⟨l1,l2,c1,c2⟩:=E.low hL;obtain⟨t,ht,hl⟩:=hL;have hin:=h.inn;rw[inb,hp]at hin;have hin':s.a*p2 (-s.e)<x/\x<(s.a+1)*p2 (-s.e):=of_decide_eq_true hin;have hw:=PN s.e;have hw0:=xg (-(s.e+1));have hmv:=a6W s.a s.e;have hmid:inb s (((s.a+s.a+1:Int):Rat)*p2 (-(s.e+1)))=true:=by
  rw[inb,hp];refine decide_eq_true ?_;rw[<-hw,Rat.intCast_add,Rat.intCast_add,show ((1:Int):Rat)=1 from rfl];constructor<;>grind
 have ez:er s.L (1/2)=0↔er f (((s.a+s.a+1:Int):Rat)*p2 (-(s.e+1)))=0:=by
  rw[hl,hmv];constructor
  .intro h;rcases Rat.mul_eq_zero.mp h with h|h
   .grind
   .exact h
  .intro h;rw[h];grind
 have a2h:∀y,inb s.low y=true↔(s.a*p2 (-s.e)<y/\y<((s.a+s.a+1:Int):Rat)*p2 (-(s.e+1))):=λy=>by
  show decide ((((s.a+s.a:Int):Rat)*p2 (-(s.e+1))<y)/\y<((((s.a+s.a:Int):Rat)+1)*p2 (-(s.e+1))))=true↔_;rw[decide_eq_true_iff,<-hw];simp only[Rat.intCast_add,show ((1:Int):Rat)=1 from rfl];constructor<;>rintro⟨a,b⟩<;>constructor<;>grind
 have Ym:∀y,inb s.high y=true↔(((s.a+s.a+1:Int):Rat)*p2 (-(s.e+1))<y/\y<(s.a+1)*p2 (-s.e)):=λy=>by
  show decide ((((s.a+s.a+1:Int):Rat)*p2 (-(s.e+1))<y)/\y<((((s.a+s.a+1:Int):Rat)+1)*p2 (-(s.e+1))))=true↔_;rw[decide_eq_true_iff,<-hw];simp only[Rat.intCast_add,show ((1:Int):Rat)=1 from rfl];constructor<;>rintro⟨a,b⟩<;>constructor<;>grind
 have tos:∀y,(s.a*p2 (-s.e)<y/\y<(s.a+1)*p2 (-s.e))->inb s y=true:=λy hy=>by rw[inb,hp];exact decide_eq_true hy
 have hmid':s.a*p2 (-s.e)<((s.a+s.a+1:Int):Rat)*p2 (-(s.e+1))/\((s.a+s.a+1:Int):Rat)*p2 (-(s.e+1))<(s.a+1)*p2 (-s.e):=by
  rw[inb,hp]at hmid;exact of_decide_eq_true hmid
 unfold Sp.nx;generalize hM:((s.a+s.a+1:Int):Rat)*p2 (-(s.e+1))=m at *;by_cases hz:er s.L (1/2)=0
 .rw[if_pos hz];have hm:=(E.root m).1 (ez.1 hz);have hx:=h.one m hm hmid;have im:∀y,inb s.mid y=decide (y=m):=λy=>by rw[<-hM];rfl
  exact⟨h.mem,by rw[im,hx];simp,λy _ hy=>by rw[im]at hy;rw[of_decide_eq_true hy,hx],λh=>by cases h⟩
 .rw[if_neg hz];have hxm:x≠m:=λe=>hz (ez.2 (by rw[<-e];exact(E.root x).2 h.mem))
  obtain⟨d1,d2,-⟩:=E.ch (s:=s.low) rfl l1;have few:∀y∈ins rs s.low,y=x:=λy hy=>by
   obtain⟨y1,y2⟩:=List.mem_filter.1 hy;have:=(a2h y).1 y2;exact h.one y y1 (tos y ⟨this.1,by grind⟩)
  by_cases hlt:x<m
  .have hx:x∈ins rs s.low:=List.mem_filter.2 ⟨h.mem,(a2h x).2 ⟨hin'.1,hlt⟩⟩;have:=List.length_pos_of_mem hx;have e1:s.low.ch=1:=by omega
   rw[if_pos e1];exact⟨h.mem,(a2h x).2 ⟨hin'.1,hlt⟩,λy hy hy2=>few y (List.mem_filter.2 ⟨hy,hy2⟩),λ_=>⟨l1,e1⟩⟩
  .have hgt:m<x:=by grind
   have e0:ins rs s.low=[]:=List.filter_eq_nil_iff.2 λy hy hy2=>by
    have e:=few y (List.mem_filter.2 ⟨hy,hy2⟩);rw[e]at hy2;exact hlt ((a2h x).1 hy2).2
   rw[e0]at d1 d2;simp only[List.length_nil]at d1 d2;rw[if_neg (by omega)];obtain⟨g1,g2,-⟩:=E.ch (s:=s.high) rfl l2;have hx:x∈ins rs s.high:=List.mem_filter.2 ⟨h.mem,(Ym x).2 ⟨hgt,hin'.2⟩⟩;have:=List.length_pos_of_mem hx;refine⟨h.mem,(Ym x).2 ⟨hgt,hin'.2⟩,λy hy hy2=>?_,λ_=>⟨l2,by omega⟩⟩;have:=(Ym y).1 hy2;exact h.one y hy (tos y ⟨by grind,this.2⟩)
theorem b1Z (s:Sp):s.nx.e=s.e+1:=by
 unfold Sp.nx;split
 .rfl
 .split<;>rfl
theorem WO (E:Env f rs C){x:Rat}:∀(n:Nat) (s:Sp),H1 f rs s x->H1 f rs (oD n s) x/\((oD n s).pt=true\/(oD n s).e=s.e+n)/\s.e<=(oD n s).e/\(oD n s).e<=s.e+n
 |0,s,h=>⟨h,.inr (by show s.e=s.e+((0:Nat):Int);omega),by show s.e<=s.e;omega,by show s.e<=s.e+((0:Nat):Int);omega⟩
 |n+1,s,h=>by
  rw[oD];cases hp:s.pt with
  |true=>exact⟨h,.inl hp,by simp only[if_true];omega,by simp only[if_true];omega⟩
  |false =>
   obtain⟨a,b,c,d⟩:=WO E n s.nx (h.nx E hp);have:=b1Z s;simp only[Bool.false_eq_true,if_false];refine⟨a,?_,by omega,by omega⟩;rcases b with b|b
   .exact .inl b
   .exact .inr (by omega)
theorem a9V (E:Env f rs C){x:Rat}{s:Sp}(h:H1 f rs s x)(k:Int):H1 f rs (s.ref k) x/\((s.ref k).pt=true\/k<=(s.ref k).e)/\s.e<=(s.ref k).e/\(s.e<=k->(s.ref k).e<=k):=by
 obtain⟨a,b,c,d⟩:=WO E (k-s.e).toNat s h;refine⟨a,?_,c,λhk=>?_⟩
 .rcases b with b|b
  .exact .inl b
  .right;unfold Sp.ref;omega
 .unfold Sp.ref;omega
def cfl (x:Rat)(k:Int):Int:=(x*p2 k).floor
def cpt (x:Rat)(k:Int):Bool:=decide ((cfl x k:Rat)=x*p2 k)
theorem AU {x:Rat}{z:Int}(h1:(z:Rat)<=x)(h2:x<z+1):x.floor=z:=by
 have a:=Rat.le_floor_iff.2 h1;have b:=Rat.floor_le (a:=x);have c:((x.floor:Int):Rat)<((z+1:Int):Rat):=by rw[Rat.intCast_add,show ((1:Int):Rat)=1 from rfl];grind
 have d:x.floor<z+1:=by exact_mod_cast c
 omega
theorem a4z (e:Int):p2 e*p2 (-e)=1:=by rw[<-xk,show e + -e=0 by omega];rfl
theorem a4A {e:Int}(h:0<=e):p2 e=((2^e.toNat:Int):Rat):=by
 rw[p2,if_pos h];push_cast;rfl
theorem a1B {s:Sp}{x:Rat}(h:inb s x=true){k:Int}(hk:s.e<=k)(hp:s.pt=true\/s.e=k):cfl x k=s.a*2^(k-s.e).toNat/\cpt x k=s.pt:=by
 have e1:∀y:Rat,y*p2 (-s.e)*p2 k=y*((2^(k-s.e).toNat:Int):Rat):=λy=>by
  rw[<-a4A (show 0<=k-s.e by omega),Rat.mul_assoc,<-xk,show -s.e+k=k-s.e by omega]
 cases hpt:s.pt with
 |true =>
  rw[inb,hpt]at h;have hx:x=s.a*p2 (-s.e):=of_decide_eq_true h;have e2:x*p2 k=((s.a*2^(k-s.e).toNat:Int):Rat):=by rw[hx,e1,Rat.intCast_mul]
  have e3:cfl x k=s.a*2^(k-s.e).toNat:=by unfold cfl;rw[e2,Rat.floor_intCast]
  exact⟨e3,by unfold cpt;rw[e3,e2];simp⟩
 |false =>
  rw[hpt]at hp;rcases hp with hp|hp
  .cases hp
  rw[inb,hpt]at h;have hx:s.a*p2 (-s.e)<x/\x<(s.a+1)*p2 (-s.e):=of_decide_eq_true h;subst hp;have o:=a4z s.e;have w0:=xg s.e;have a1:(s.a:Rat)<x*p2 s.e:=by
   have:=Rat.mul_pos (show 0<x-s.a*p2 (-s.e) by grind) w0
   grind
  have a2:x*p2 s.e<s.a+1:=by
   have:=Rat.mul_pos (show 0<(s.a+1)*p2 (-s.e)-x by grind) w0
   grind
  have e3:cfl x s.e=s.a:=AU (by grind) a2;refine⟨by rw[e3,show (s.e-s.e).toNat=0 by omega,Int.pow_zero,Int.mul_one],?_⟩;unfold cpt;rw[e3];exact decide_eq_false (by grind)
theorem U7 {s:Sp}{x:Rat}(h:inb s x=true){k:Int}(hk:k<s.e):cfl x k=s.a/2^(s.e-k).toNat/\cpt x k=(s.pt && decide (s.a%2^(s.e-k).toNat=0)):=by
 obtain⟨m,hm⟩:∃m:Int,m=2^(s.e-k).toNat:=⟨_,rfl⟩;have m0:0<m:=by rw[hm];exact Int.pow_pos (by decide)
 have m0':(0:Rat)<m:=by exact_mod_cast m0
 have e1:p2 (-s.e)*p2 k*m=1:=by
  rw[hm,<-a4A (show 0<=s.e-k by omega),<-xk,<-xk,show -s.e+k+(s.e-k)=0 by omega];rfl
 have dm:=Int.mul_ediv_add_emod s.a m;have r0:=Int.emod_nonneg s.a (show m≠0 by omega);have r1:=Int.emod_lt_of_pos s.a m0;rw[<-hm];generalize hq:s.a/m=q at *;generalize hr:s.a%m=r at *;have dmr:(s.a:Rat)=m*q+r:=by rw[<-dm,Rat.intCast_add,Rat.intCast_mul]
 have r0':(0:Rat)<=r:=by exact_mod_cast r0
 have r1':(r:Rat)+1<=m:=by
  have:((r+1:Int):Rat)<=m:=by exact_mod_cast (show r+1<=m by omega)
  rwa [Rat.intCast_add,show ((1:Int):Rat)=1 from rfl]at this
 have wk:=xg k;have ws:=xg (-s.e);have wp:=Rat.mul_pos ws wk;cases hpt:s.pt with
 |true =>
  rw[inb,hpt]at h;have hx:x=s.a*p2 (-s.e):=of_decide_eq_true h;have key:(x*p2 k-q)*m=r:=by rw[hx];grind
  have lo:(q:Rat)<=x*p2 k:=by
   refine Rat.not_lt.1 λhc=>?_;have:=Rat.mul_pos (show 0<q-x*p2 k by grind) m0'
   grind
  have hi:x*p2 k<q+1:=by
   refine Rat.not_le.1 λhc=>?_;have:=Rat.mul_nonneg (show 0<=x*p2 k-(q+1) by grind) (Rat.le_of_lt m0')
   grind
  have e3:cfl x k=q:=AU lo hi;refine⟨e3,?_⟩;unfold cpt;rw[e3,Bool.true_and,decide_eq_decide];constructor
  .intro h;have:(r:Rat)=0:=by grind
   exact_mod_cast this
  .intro h;rw[h]at key;rcases Rat.mul_eq_zero.mp (show (x*p2 k-q)*(m:Rat)=0 by rw[key];rfl) with h|h
   .grind
   .grind
 |false =>
  rw[inb,hpt]at h;have hx:s.a*p2 (-s.e)<x/\x<(s.a+1)*p2 (-s.e):=of_decide_eq_true h;have wkm:=Rat.mul_pos wk m0';have key1:(r:Rat)<(x*p2 k-q)*m:=by
   have h1:=Rat.mul_pos (show 0<x-s.a*p2 (-s.e) by grind) wkm;have h2:(x-s.a*p2 (-s.e))*(p2 k*m)=x*p2 k*m-s.a*(p2 (-s.e)*p2 k*m):=by clear e1 h1;grind
   rw[h2,e1]at h1;clear h2 e1 wp wkm;generalize p2 k=K at *
   grind
  have key2:(x*p2 k-q)*m<r+1:=by
   have h1:=Rat.mul_pos (show 0<(s.a+1)*p2 (-s.e)-x by grind) wkm;have h2:((s.a+1)*p2 (-s.e)-x)*(p2 k*m)=(s.a+1)*(p2 (-s.e)*p2 k*m)-x*p2 k*m:=by clear e1 h1;grind
   rw[h2,e1]at h1;clear h2 e1 wp wkm key1;generalize p2 k=K at *
   grind
  have lo:(q:Rat)<x*p2 k:=by
   refine Rat.not_le.1 λhc=>?_;have:=Rat.mul_nonneg (show 0<=q-x*p2 k by grind) (Rat.le_of_lt m0')
   grind
  have hi:x*p2 k<q+1:=by
   refine Rat.not_le.1 λhc=>?_;have:=Rat.mul_nonneg (show 0<=x*p2 k-(q+1) by grind) (Rat.le_of_lt m0')
   grind
  have e3:cfl x k=q:=AU (by grind) hi;refine⟨e3,?_⟩;unfold cpt;rw[e3,Bool.false_and];exact decide_eq_false (by grind)
end
theorem Ap {z:Int}{k a b:Nat}(h:zl z<=a)(hk:k<=64*b):zl (z*2^k)<=a+b+1:=by
 refine dR.mpr ?_;rw[Int.natAbs_mul,Int.natAbs_pow,show a+b+1=a+(b+1) by omega,Nat.pow_add];have h1:z.natAbs<W^a:=dR.mp h;have h2:(2:Int).natAbs^k<W^(b+1):=by
  rw[Ea];exact Nat.pow_lt_pow_right (by decide) (by omega)
 exact Nat.mul_lt_mul'' h1 h2
theorem JY (q:Rat)(k:Nat)(hq:qz q<=2^20)(hk:k<=1048576):AC Tryz.prog 54 [cqz q,ci k] none [cz (q.num*2^k/(q.den:Int)),ci 0]:=by
 have hn:zl q.num<=2^20:=Nat.le_trans (Nat.le_max_left _ _) hq;have hd:(wd q.den).length<=2^20:=Nat.le_trans (Nat.le_max_right _ _) hq;have d0:0<(q.den:Int):=by have:=q.den_pos;omega
 have c:=nD (uf q) ⟨Nat.le_trans hd (by decide),bY _⟩ (Ip q);have nt:=MX false q.den (by omega);have e1:sg false q.den=(q.den:Int):=rfl;rw[e1]at nt;have s:=FQ (canon q.num) k ((aW _).mono (by omega)) hk;rw[aU]at s;have fl:=Vm (q.num*2^k) q.den d0 (by have:=Ap (b:=16384) hn (by omega:k<=64*16384);omega) (by show (wd q.den).length<=_;omega);have n1:¬(k:Int) < -1048576:=by omega
 have n2:¬1048576<(k:Int):=by omega
 have n3:¬(k:Int)<0:=by omega
 generalize q.num*2^k/(q.den:Int)=y at *;refine AC.aF (rs:=[.cell 4 29,.tmp 5]) bM Tryz.func54 (by rfl) (by rfl) (by rfl) (by rfl) (by rfl) ?_;simp (disch:=omega) only[wt,seval,reduceCtorEq,Nat.reduceEqDiff,aj,rqs,n1,n2,n3];refine au (c) (by first|rfl|(simp only[aH,bn,aB,aI,aA,Nat.reduceEqDiff,↓reduceIte,n1,n2,n3];rfl)) (by simp) ?_;simp (disch:=omega) only[wt,seval,reduceCtorEq,Nat.reduceEqDiff,aj,rqs,n1,n2,n3];refine .inl ⟨aZ (by kernel_rfl),?_⟩;refine au (nt) (by first|rfl|(simp only[aH,bn,aB,aI,aA,Nat.reduceEqDiff,↓reduceIte,n1,n2,n3];rfl)) (by simp) ?_;simp (disch:=omega) only[wt,seval,reduceCtorEq,Nat.reduceEqDiff,aj,rqs,n1,n2,n3]
 first|exact aN (by kernel_rfl)|refine⟨aN (by kernel_rfl),?_⟩
 refine au (s) (by first|rfl|(simp only[aH,bn,aB,aI,aA,Nat.reduceEqDiff,↓reduceIte,n1,n2,n3];rfl)) (by simp) ?_;simp (disch:=omega) only[wt,seval,reduceCtorEq,Nat.reduceEqDiff,aj,rqs,n1,n2,n3];refine au (fl) (by first|rfl|(simp only[aH,bn,aB,aI,aA,Nat.reduceEqDiff,↓reduceIte,n1,n2,n3];rfl)) (by simp) ?_;simp (disch:=omega) only[wt,seval,reduceCtorEq,Nat.reduceEqDiff,aj,rqs,n1,n2,n3]
 try rfl
theorem a2V (q:Rat):uf (-q)=(canon (-q.num),wd q.den):=by
 unfold uf;rw[Rat.neg_num,Rat.neg_den]
theorem a1v (q:Rat)(k:Nat)(hq:qz q<=2^20)(hk:k<=1048576):AC Tryz.prog 55 [cqz q,ci k] none [cz (-(-q.num*2^k/(q.den:Int))),ci 0]:=by
 have hn:zl q.num<=2^20:=Nat.le_trans (Nat.le_max_left _ _) hq;have ng:=FT (canon q.num) ((aW _).mono (by omega));rw[aU]at ng;have f:=JY (-q) k (by rw[a9W];exact hq) hk;rw[Rat.neg_num,Rat.neg_den,show cqz (-q)=cqq (canon (-q.num),wd q.den) by rw[<-a2V]]at f;have hz:zl (-q.num*2^k/(q.den:Int))<=2^30:=by
  have e:zl (-q.num)=zl q.num:=by unfold zl;rw[Int.natAbs_neg]
  have h1:=Ap (z:=-q.num) (a:=2^20) (b:=16384) (by rw[e];exact hn) (by omega:k<=64*16384);have h2:zl (-q.num*2^k/(q.den:Int))<=zl (-q.num*2^k):=by
   refine dR.mpr ?_;have h3:(-q.num*2^k).natAbs<W^zl (-q.num*2^k):=dR.mp (Nat.le_refl _);generalize -q.num*2^k=z at *;have h4:(z/(q.den:Int)).natAbs<=z.natAbs:=Int.natAbs_ediv_le_natAbs z q.den;omega
  omega
 have n2:=FT (canon (-q.num*2^k/(q.den:Int))) ((aW _).mono (by omega));rw[aU]at n2;generalize -q.num*2^k/(q.den:Int)=y at *;refine AC.aF (rs:=[.cell 4 29,.tmp 5]) bM Tryz.func55 (by rfl) (by rfl) (by rfl) (by rfl) (by rfl) ?_;simp (disch:=omega) only[wt,seval,reduceCtorEq,Nat.reduceEqDiff,aj,rqs];refine au (ng) (by rfl) (by simp) ?_;simp (disch:=omega) only[wt,seval,reduceCtorEq,Nat.reduceEqDiff,aj,rqs];refine au (f) (by rfl) (by simp) ?_;simp (disch:=omega) only[wt,seval,reduceCtorEq,Nat.reduceEqDiff,aj,rqs];refine au (n2) (by rfl) (by simp) ?_;simp (disch:=omega) only[wt,seval,reduceCtorEq,Nat.reduceEqDiff,aj,rqs]
 try rfl
theorem Zl (q:Rat)(k:Nat):cfl q k=q.num*2^k/(q.den:Int)/\(cpt q k=true↔(q.den:Int)∣q.num*2^k):=by
 have d0:0<(q.den:Int):=by have:=q.den_pos;omega
 have d0':(0:Rat)<(q.den:Rat):=by have:=q.den_pos;exact_mod_cast this
 have hn:=vM q;have hp:p2 (k:Int)=((2^k:Int):Rat):=by rw[Kv];push_cast;rfl
 have key:(q.den:Rat)*(q*p2 (k:Int))=((q.num*2^k:Int):Rat):=by
  rw[Rat.intCast_mul,hn,hp];grind
 have dm:=Int.mul_ediv_add_emod (q.num*2^k) q.den;have r0:=Int.emod_nonneg (q.num*2^k) (show (q.den:Int)≠0 by omega);have r1:=Int.emod_lt_of_pos (q.num*2^k) d0;have hdv:(q.den:Int)∣q.num*2^k↔q.num*2^k%(q.den:Int)=0:=Int.dvd_iff_emod_eq_zero;rw[hdv];generalize q.num*2^k=z at *;generalize z/(q.den:Int)=y at *;generalize z%(q.den:Int)=r at *;obtain⟨x,hx⟩:∃x,x=q*p2 (k:Int):=⟨_,rfl⟩;rw[<-hx]at key;have zc:(z:Rat)=(q.den:Rat)*y+r:=by rw[<-dm,Rat.intCast_add,Rat.intCast_mul,Rat.intCast_natCast]
 have r0':(0:Rat)<=r:=by exact_mod_cast r0
 have r1':(r:Rat)<(q.den:Rat):=by
  have:(r:Rat)<(((q.den:Nat):Int):Rat):=by exact_mod_cast r1
  rwa [Rat.intCast_natCast]at this
 have kk:(q.den:Rat)*(x-y)=r:=by grind
 have lo:(y:Rat)<=x:=by
  refine Rat.not_lt.1 λhc=>?_;have:=Rat.mul_pos d0' (show 0<(y:Rat)-x by grind)
  grind
 have hi:x<y+1:=by
  refine Rat.not_le.1 λhc=>?_;have:=Rat.mul_nonneg (Rat.le_of_lt d0') (show 0<=x-(y+1) by grind)
  grind
 have e:x.floor=y:=AU lo hi;have ef:cfl q k=y:=by unfold cfl;rw[<-hx];exact e
 refine⟨ef,?_⟩;unfold cpt;rw[ef,<-hx,decide_eq_true_iff];constructor
 .intro h;have:(r:Rat)=0:=by rw[<-kk,h];grind
  exact_mod_cast this
 .intro h;rw[h]at kk;rcases Rat.mul_eq_zero.mp (show (q.den:Rat)*(x-y)=0 by rw[kk];rfl) with h|h
  .grind
  .grind
theorem Zj (k:Int)(h0:0<=k)(h1:k<=1048576):AC Tryz.prog 53 [.agg [.bool false,.sl [],.int .i64 k,.bool false]] none [ci 0]:=by
 have n0:¬k<0:=by omega
 have n1:¬1048576<k:=by omega
 refine AC.aF (rs:=[.tmp 2]) bM Tryz.func53 (by rfl) (by rfl) (by rfl) (by rfl) (by rfl) ?_;simp (disch:=omega) only[wt,seval,reduceCtorEq,Nat.reduceEqDiff,aj,rqs,n0,n1]
theorem uZ (x a b c d:IV):lay (λi=>[(0,2),(2,1),(3,1)][i]?) [a,b,c,d] ([1].zip [[x]])=some ((1=1/\2+1<=4)/\True,[a,b,x,d]):=rfl
theorem kT (r:RI)(x y a b c d:IV):lay (λi=>[(0,2),(2,1),(3,1)][i]?) [a,b,c,d] ([0,1,2].zip [je r,[x],[y]])=some ((2=2/\0+2<=4)/\(1=1/\2+1<=4)/\(1=1/\3+1<=4)/\True,[.bool r.1,.sl (dJ r.2),x,y]):=rfl
theorem b1q (q:Rat)(k:Nat)(hq:qz q<=2^20)(hk:k<=1048576):AC Tryz.prog 31 [cqz q,ci k] none [ccl k (cfl q k,cpt q k),ci 0]:=by
 have hn:zl q.num<=2^20:=Nat.le_trans (Nat.le_max_left _ _) hq;have hd:(wd q.den).length<=2^20:=Nat.le_trans (Nat.le_max_right _ _) hq;have c:=nD (uf q) ⟨Nat.le_trans hd (by decide),bY _⟩ (Ip q);have ch:=Zj k (by omega) (by omega);have f:=JY q k hq hk;have g:=a1v q k hq hk;obtain⟨e1,e2⟩:=Zl q k;rw[<-e1]at f;have hz:∀z:Int,zl z<=2^20->zl (z*2^k/(q.den:Int))<=2^30:=λz hz=>by
  have h1:=Ap hz (by omega:k<=64*16384);have h2:zl (z*2^k/(q.den:Int))<=zl (z*2^k):=by
   refine dR.mpr ?_;have h3:(z*2^k).natAbs<W^zl (z*2^k):=dR.mp (Nat.le_refl _);generalize z*2^k=y at *;have h4:(y/(q.den:Int)).natAbs<=y.natAbs:=Int.natAbs_ediv_le_natAbs y q.den;omega
  omega
 have z1:=hz _ hn;have z2:=hz (-q.num) (by unfold zl;rw[Int.natAbs_neg];exact hn);have z3:zl (-(-q.num*2^k/(q.den:Int)))<=2^30:=by unfold zl;rw[Int.natAbs_neg];exact z2
 rw[<-e1]at z1;have d0:0<(q.den:Int):=by have:=q.den_pos;omega
 have eqv:Dx (cfl q k) (-(-q.num*2^k/(q.den:Int)))=0↔cpt q k=true:=by
  rw[e2,e1,Int.neg_mul];generalize q.num*2^k=z;generalize (q.den:Int)=d at *;have h1:=zu (z/d) (-(-z/d));have h2:Dx (z/d) (-(-z/d))=0↔z/d = -(-z/d):=by
   rcases h1 with ⟨a,b⟩|⟨a,b⟩|⟨a,b⟩<;>rw[b]<;>omega
  rw[h2];constructor
  .intro h;have a1:=Int.ediv_mul_le z (show d≠0 by omega);have a2:=Int.ediv_mul_le (-z) (show d≠0 by omega);have : -z/d = -(z/d):=by omega
   rw[this,Int.neg_mul]at a2;exact⟨z/d,by rw[Int.mul_comm];omega⟩
  .rintro⟨m,rfl⟩;rw[<-Int.mul_neg,Int.mul_ediv_cancel_left _ (by omega),Int.mul_ediv_cancel_left _ (by omega)];omega
 have cm:=FU (canon (cfl q k)) (canon (-(-q.num*2^k/(q.den:Int)))) ((aW _).mono (by omega)) ((aW _).mono (by omega));rw[aU,aU]at cm;have eb:decide (Dx (cfl q k) (-(-q.num*2^k/(q.den:Int)))=0)=cpt q k:=by
  cases hb:cpt q k with
  |true=>exact decide_eq_true (eqv.2 hb)
  |false=>exact decide_eq_false λh=>by rw[eqv.1 h]at hb;cases hb
 show AC Tryz.prog 31 [cqz q,ci k] none [.agg [.bool (canon (cfl q k)).1,.sl (dJ (canon (cfl q k)).2),.int .i64 k,.bool (cpt q k)],ci 0];rw[<-eb];clear eb eqv e1 e2 z3 z2 z1 hz;generalize Dx (cfl q k) (-(-q.num*2^k/(q.den:Int)))=x at *;generalize -(-q.num*2^k/(q.den:Int))=y at *;generalize cfl q k=u at *;refine AC.aF (rs:=[.cell 4 62,.tmp 5]) bM Tryz.func31 (by rfl) (by rfl) (by rfl) (by rfl) (by rfl) ?_;simp (disch:=omega) only[wt,seval,reduceCtorEq,Nat.reduceEqDiff,aj,rqs];refine au (c) (by first|rfl|(simp only[aH,bn,aB,aI,aA,Nat.reduceEqDiff,↓reduceIte,uZ,kT];rfl)) (by simp) ?_;simp (disch:=omega) only[wt,seval,reduceCtorEq,Nat.reduceEqDiff,aj,rqs,uZ,kT];refine au (ch) (by first|rfl|(simp only[aH,bn,aB,aI,aA,Nat.reduceEqDiff,↓reduceIte,uZ,kT];rfl)) (by simp) ?_;simp (disch:=omega) only[wt,seval,reduceCtorEq,Nat.reduceEqDiff,aj,rqs,uZ,kT];refine au (f) (by first|rfl|(simp only[aH,bn,aB,aI,aA,Nat.reduceEqDiff,↓reduceIte,uZ,kT];rfl)) (by simp) ?_;simp (disch:=omega) only[wt,seval,reduceCtorEq,Nat.reduceEqDiff,aj,rqs,uZ,kT];refine au (g) (by first|rfl|(simp only[aH,bn,aB,aI,aA,Nat.reduceEqDiff,↓reduceIte,uZ,kT];rfl)) (by simp) ?_;simp (disch:=omega) only[wt,seval,reduceCtorEq,Nat.reduceEqDiff,aj,rqs,uZ,kT];refine .inl ⟨aZ (by kernel_rfl),?_⟩;refine au (cm) (by first|rfl|(simp only[aH,bn,aB,aI,aA,Nat.reduceEqDiff,↓reduceIte,uZ,kT];rfl)) (by simp) ?_;simp (disch:=omega) only[wt,seval,reduceCtorEq,Nat.reduceEqDiff,aj,rqs,uZ,kT]
 first|exact aN (by kernel_rfl)|refine⟨aN (by kernel_rfl),?_⟩
 try rfl
structure MK (d n k:Nat):Prop where
 ok:d<n*2^k
 lo:k≠0->¬d<n*2^(k-1)
theorem MK.uniq {d n k l:Nat}(h:MK d n k)(h':MK d n l):k=l:=by
 have mono:∀{a b:Nat},a<=b->d<n*2^a->d<n*2^b:=λ{a b} hab h =>
  Nat.lt_of_lt_of_le h (Nat.mul_le_mul_left _ (Nat.pow_le_pow_right (by omega) hab))
 rcases Nat.lt_trichotomy k l with hl|hl|hl
 .exact(h'.lo (by omega) (mono (by omega) h.ok)).elim
 .exact hl
 .exact(h.lo (by omega) (mono (by omega) h'.ok)).elim
theorem Zz {B:Nat}:B<2^bl B:=qU.1 (Nat.le_refl _)
theorem Xj {a b c:Nat}(h:a=b+c):2^a=2^b*2^c:=by rw[h,Nat.pow_add]
def fkn (d n:Nat):Nat:=(max 0 (rto (d+1) n)).toNat
theorem YB (d:Nat){n:Nat}(hn:n≠0):MK d n (fkn d n):=by
 have hA:=Zz (B:=d+1);have hA2:=Lu (B:=d+1) (by omega);have hB:=Zz (B:=n);have hB2:=Lu hn;unfold fkn rto;generalize bl (d+1)=a at *;generalize bl n=b at *;by_cases he:(a:Int)-b<0
 .have hAB:d+1<=n:=by
   have h1:2^a*2<=2^b:=by rw[<-Nat.pow_succ];exact Nat.pow_le_pow_right (by omega) (by omega)
   have h3:2^b<=2*n:=hB2;omega
  have e0:(max 0 (if (d+1)*2^(-((a:Int)-b)).toNat<=n*2^((a:Int)-b).toNat then (a:Int)-b else (a:Int)-b+1)).toNat=0:=by split<;>omega
  rw[e0];exact⟨by rw[Nat.pow_zero];omega,λh=>(h rfl).elim⟩
 .obtain⟨e,he⟩:∃e:Nat,(a:Int)-b=e:=⟨((a:Int)-b).toNat,by omega⟩;rw[he,show (-(e:Int)).toNat=0 by omega,Nat.pow_zero,Nat.mul_one,Int.toNat_natCast];have hab:a=b+e:=by omega
  by_cases hq:d+1<=n*2^e
  .rw[if_pos hq,show (max 0 (e:Int)).toNat=e by omega];refine⟨by omega,λh0=>?_⟩;have h1:n*2^(e-1)<2^b*2^(e-1):=Nat.mul_lt_mul_of_pos_right hB (Nat.pow_pos (by omega));have h2:2^a=2^b*2^(e-1)*2:=by rw[<-Nat.pow_add,<-Nat.pow_succ];congr 1;omega
   omega
  .rw[if_neg hq,show (max 0 ((e:Int)+1)).toNat=e+1 by omega];refine⟨?_,λ_=>by rw[Nat.add_sub_cancel];omega⟩;have h1:2^b*2^e<=2*n*2^e:=Nat.mul_le_mul_right _ hB2;have h2:n*2^(e+1)=2*n*2^e:=by rw[Nat.pow_succ];grind
   have h3:2^a=2^b*2^e:=Xj hab;omega
def finv (d n:Nat):Nat:=if d<n*2^(bl d-bl n) then bl d-bl n else bl d-bl n+1
theorem a7I (d:Nat){n:Nat}(hn:n≠0)(hd:d≠0):finv d n=fkn d n:=by
 refine MK.uniq (d:=d) (n:=n) ?_ (YB d hn);have hA:=Zz (B:=d);have hA2:=Lu hd;have hB:=Zz (B:=n);have hB2:=Lu hn;unfold finv;generalize bl d=a at *;generalize bl n=b at *;by_cases hq:d<n*2^(a-b)
 .rw[if_pos hq];refine⟨hq,λh0=>?_⟩;have h1:n*2^(a-b-1)<2^b*2^(a-b-1):=Nat.mul_lt_mul_of_pos_right hB (Nat.pow_pos (by omega));have h2:2^a=2^b*2^(a-b-1)*2:=by rw[<-Nat.pow_add,<-Nat.pow_succ];congr 1;omega
  omega
 .rw[if_neg hq];refine⟨?_,λ_=>by rw[Nat.add_sub_cancel];omega⟩;have h1:2^b*2^(a-b)<=2*n*2^(a-b):=Nat.mul_le_mul_right _ hB2;have h2:n*2^(a-b+1)=2*n*2^(a-b):=by rw[Nat.pow_succ];grind
  have h3:2^a<=2^b*2^(a-b):=by rw[<-Nat.pow_add];exact Nat.pow_le_pow_right (by omega) (by omega)
  omega
theorem WZ (r:RQ)(h:SzQ (2^38) r)(h0:nv r.2=0):AC Tryz.prog 13 [cqq r] none [ci 0,ci 1]:=by
 have c:=EL r ⟨Nat.le_trans h.2.1 (by omega),h.2.2⟩ h0;refine AC.aF (rs:=[.tmp 2,.tmp 3]) bM Tryz.func13 (by rfl) (by rfl) (by rfl) (by rfl) (by rfl) ?_;simp (disch:=omega) only[wt,seval,reduceCtorEq,Nat.reduceEqDiff,aj,rqs];refine au (c) (by rfl) (by simp) ?_;simp (disch:=omega) only[wt,seval,reduceCtorEq,Nat.reduceEqDiff,aj,rqs]
 try rfl
theorem FH {l:List Nat}(hl:Lim l){k:Nat}(h:l.length<=k):bl (nv l)<=64*k:=by
 have h1:nv l<W^l.length:=Td hl;rw[Ea]at h1;exact qU.2 (Nat.lt_of_lt_of_le h1 (Nat.pow_le_pow_right (by omega) (by omega)))
theorem rF (a:RI):(iv a).natAbs=nv a.2:=by rw[xI];unfold sg;split<;>omega
theorem wq1x {n k m:Nat}(h:n<W^k)(hk:k<=m):(wd (n+1)).length<=m+1:=by
 refine dH.mpr ?_;have h2:W^k<=W^m:=Nat.pow_le_pow_right (by simp only[W];omega) hk;have h3:W^(m+1)=W^m*W:=Nat.pow_succ ..;have h4:W^m*2<=W^m*W:=Nat.mul_le_mul_left _ (by simp only[W];omega);omega
theorem Ot (w:RQ)(hw:SzQ (2^20) w)(h0:nv w.2≠0)(hs:0<iv w.1):AC Tryz.prog 39 [cqq w] none [ci (fkn (nv w.2) (nv w.1.2)),ci 0]:=by
 have s:=wU w (hw.mono (by omega)) h0;rw[Int.sign_eq_one_of_pos hs]at s;have o:=KC 1 (by decide);have a:=sZ w.2 (wd 1) hw.2.2 (bY 1) (Nat.le_trans hw.2.1 (by omega)) (Nat.le_trans Vt (by decide));rw[dU]at a;have b:=FV w.1 (hw.1.mono (by omega));rw[rF]at b;have l1:(wd (nv w.2+1)).length<=2^20+1:=wq1x (Td hw.2.2) hw.2.1;have l2:(wd (nv w.1.2)).length<=2^20:=Nat.le_trans (lF hw.1.2) hw.1.1;have b1:=FH (bY (nv w.2+1)) l1;have b2:=FH (bY (nv w.1.2)) l2;rw[dU]at b1 b2;have r:=Qn (nv w.2+1) (nv w.1.2) (by omega) (by omega) (by omega) (by omega);have e:max (0:Int) (rto (nv w.2+1) (nv w.1.2))=(fkn (nv w.2) (nv w.1.2):Int):=by unfold fkn;omega
 generalize fkn (nv w.2) (nv w.1.2)=k at *;generalize rto (nv w.2+1) (nv w.1.2)=x at *;refine AC.aF (rs:=[.tmp 2,.tmp 3]) bM Tryz.func39 (by rfl) (by rfl) (by rfl) (by rfl) (by rfl) ?_;simp (disch:=omega) only[wt,seval,reduceCtorEq,Nat.reduceEqDiff,aj,rqs];refine au (s) (by rfl) (by simp) ?_;simp (disch:=omega) only[wt,seval,reduceCtorEq,Nat.reduceEqDiff,aj,rqs];refine .inl ⟨aZ (by kernel_rfl),?_⟩;refine au (o) (by rfl) (by simp) ?_;simp (disch:=omega) only[wt,seval,reduceCtorEq,Nat.reduceEqDiff,aj,rqs];refine au (a) (by rfl) (by simp) ?_;simp (disch:=omega) only[wt,seval,reduceCtorEq,Nat.reduceEqDiff,aj,rqs];refine au (b) (by rfl) (by simp) ?_;simp (disch:=omega) only[wt,seval,reduceCtorEq,Nat.reduceEqDiff,aj,rqs];refine au (r) (by first|rfl|(simp only[aH,bn,aB,aI,aA,Nat.reduceEqDiff,↓reduceIte,e];rfl)) (by simp) ?_;simp (disch:=omega) only[wt,seval,reduceCtorEq,Nat.reduceEqDiff,aj,rqs,e]
 first|exact aN (by kernel_rfl)|refine⟨aN (by kernel_rfl),?_⟩
 try rfl
theorem YC (w:RQ)(hw:SzQ (2^20) w)(h0:nv w.2=0):AC Tryz.prog 39 [cqq w] none [ci 0,ci 1]:=by
 have s:=WZ w (hw.mono (by omega)) h0;refine AC.aF (rs:=[.tmp 2,.tmp 3]) bM Tryz.func39 (by rfl) (by rfl) (by rfl) (by rfl) (by rfl) ?_;simp (disch:=omega) only[wt,seval,reduceCtorEq,Nat.reduceEqDiff,aj,rqs];refine au (s) (by rfl) (by simp) ?_;simp (disch:=omega) only[wt,seval,reduceCtorEq,Nat.reduceEqDiff,aj,rqs]
 try rfl
theorem Ws {z:Int}(h:z<=0):z.sign<=0:=by
 rcases dD z with ⟨_,e⟩|⟨_,e⟩|⟨_,e⟩<;>omega
theorem a2N (w:RQ)(hw:SzQ (2^20) w)(h0:nv w.2≠0)(hs:iv w.1<=0):AC Tryz.prog 39 [cqq w] none [ci 0,ci 9]:=by
 have s:=wU w (hw.mono (by omega)) h0;have hl:=Ws hs;generalize (iv w.1).sign=x at *;refine AC.aF (rs:=[.tmp 2,.tmp 3]) bM Tryz.func39 (by rfl) (by rfl) (by rfl) (by rfl) (by rfl) ?_;simp (disch:=omega) only[wt,seval,reduceCtorEq,Nat.reduceEqDiff,aj,rqs];refine au (s) (by first|rfl|(simp only[aH,bn,aB,aI,aA,Nat.reduceEqDiff,↓reduceIte,hl];rfl)) (by simp) ?_;simp (disch:=omega) only[wt,seval,reduceCtorEq,Nat.reduceEqDiff,aj,rqs,hl]
 try rfl
theorem Vo (a:RI)(h:Sz (2^40) a):AC Tryz.prog 50 [cr a] none [ci (bl (nv a.2))]:=by
 have b:=uK a.2 h.2 (Nat.le_trans h.1 (by omega));refine AC.aF (rs:=[.tmp 2]) bM Tryz.func50 (by rfl) (by rfl) (by rfl) (by rfl) (by rfl) ?_;simp (disch:=omega) only[wt,seval,reduceCtorEq,Nat.reduceEqDiff,aj,rqs];refine au (b) (by rfl) (by simp) ?_;simp (disch:=omega) only[wt,seval,reduceCtorEq,Nat.reduceEqDiff,aj,rqs]
 try rfl
theorem Tz (A:Nat)(n:Nat)(hk:(wd A).length<=2^38)(hn:n<=2^28):AC Tryz.prog 52 [cl (wd A),ci n] none [cl (wd (A*2^n))]:=by
 refine AC.aF (rs:=[.tmp 4]) bM Tryz.func52 (by rfl) (by rfl) (by rfl) (by rfl) (by rfl) ?_;simp (disch:=omega) only[wt,seval,reduceCtorEq,Nat.reduceEqDiff,aj,rqs];refine bF (λf H=>∃(i:Nat),i<=n/\f 1=.iv (.int .i64 i)/\f 0=.iv (.sl (dJ (wd (A*2^(n-i)))))) (λf H=>(dQ f 1).toNat) ?_ ?_
 .refine⟨n,by omega,?_⟩;simp (disch:=omega) only[wt,seval,reduceCtorEq,Nat.reduceEqDiff,aj,rqs,Nat.sub_self,Nat.pow_zero,Nat.mul_one]
 rintro f H ⟨i,hi,hF⟩;rw[bC hF.1];simp (disch:=omega) only[wt,seval,reduceCtorEq,Nat.reduceEqDiff,aj,rqs,hF];have hl:(wd (A*2^(n-i))).length<=2^39:=wC hk (by omega);refine bU (λhlt=>?_) (λhlt=>?_)
 .obtain⟨m,hm⟩:∃m:Nat,m=1048576:=⟨_,rfl⟩;have s:=vN (wd (A*2^(n-i))) m (bY _) hl (by omega);rw[dU,Nat.mul_assoc,<-Nat.pow_add,show n-i+m=n-(i-m) by omega,hm]at s;have ei:(i:Int)-1048576=((i-1048576:Nat):Int):=by omega
  simp (disch:=omega) only[wt,seval,reduceCtorEq,Nat.reduceEqDiff,aj,rqs,hF];refine au (s) (by first|rfl|(simp only[aH,bn,aB,aI,aA,Nat.reduceEqDiff,↓reduceIte,hF,ei];rfl)) (by simp) ?_;simp (disch:=omega) only[wt,seval,reduceCtorEq,Nat.reduceEqDiff,aj,rqs,hF,ei];refine⟨⟨i-1048576,by omega,?_⟩,by omega⟩
  (repeat' apply And.intro)<;>first|rfl|omega
 .have s:=vN (wd (A*2^(n-i))) i (bY _) hl (by omega);rw[dU,Nat.mul_assoc,<-Nat.pow_add,show n-i+i=n by omega]at s;simp (disch:=omega) only[wt,seval,reduceCtorEq,Nat.reduceEqDiff,aj,rqs,hF];refine au (s) (by first|rfl|(simp only[aH,bn,aB,aI,aA,Nat.reduceEqDiff,↓reduceIte,hF];rfl)) (by simp) ?_;simp (disch:=omega) only[wt,seval,reduceCtorEq,Nat.reduceEqDiff,aj,rqs,hF]
  try rfl
theorem Rj (w:RQ)(hw:SzQ (2^20) w)(h0:nv w.2≠0)(hs:0<iv w.1):AC Tryz.prog 30 [cqq w] none [ci (fkn (nv w.2) (nv w.1.2)),ci 0]:=by
 have c:=nD w ⟨Nat.le_trans hw.2.1 (by omega),hw.2.2⟩ h0;have s:=fM w.1 (hw.1.mono (by omega));rw[Int.sign_eq_one_of_pos hs]at s;have hn:nv w.1.2≠0:=by rw[<-rF];omega
 have b1:=uK w.2 hw.2.2 (Nat.le_trans hw.2.1 (by omega));have b2:=Vo w.1 (hw.1.mono (by omega));have ab:=FV w.1 (hw.1.mono (by omega));rw[rF]at ab;have e1:=FH hw.2.2 hw.2.1;have e2:=FH hw.1.2 hw.1.1;have l2:(wd (nv w.1.2)).length<=2^20:=Nat.le_trans (lF hw.1.2) hw.1.1;have sh:=Tz (nv w.1.2) (bl (nv w.2)-bl (nv w.1.2)) (by omega) (by omega);have cm:=GU w.2 (wd (nv w.1.2*2^(bl (nv w.2)-bl (nv w.1.2)))) hw.2.2 (bY _) (Nat.le_trans hw.2.1 (by omega)) (Nat.le_trans (wC (by omega) (by omega)) (by omega));rw[dU]at cm;have em:max ((bl (nv w.2):Int)-(bl (nv w.1.2):Int)) 0=((bl (nv w.2)-bl (nv w.1.2):Nat):Int):=by omega
 have ef:=a7I (nv w.2) hn h0;have ew:IntKind.i64.wrap ((bl (nv w.2):Int)-(bl (nv w.1.2):Int))=(bl (nv w.2):Int)-(bl (nv w.1.2):Int):=wrap_i64 _ (by omega) (by omega);have hfv:finv (nv w.2) (nv w.1.2)=if nv w.2<nv w.1.2*2^(bl (nv w.2)-bl (nv w.1.2)) then bl (nv w.2)-bl (nv w.1.2) else bl (nv w.2)-bl (nv w.1.2)+1:=rfl
 rw[<-ef,hfv];clear ef hfv;have hcm:∀a b:Nat,(IB a b<0↔a<b):=λa b=>by unfold IB;split<;>(try split)<;>omega
 have hc:=hcm (nv w.2) (nv w.1.2*2^(bl (nv w.2)-bl (nv w.1.2)));generalize hK:bl (nv w.2)-bl (nv w.1.2)=K at *;have hK2:K<=2^28:=by omega
 generalize IB (nv w.2) (nv w.1.2*2^K)=y at *;by_cases hq:nv w.2<nv w.1.2*2^K
 .rw[if_pos hq];have hy:¬0<=y:=by omega
  generalize nv w.1.2*2^K=Z at *;generalize bl (nv w.2)=x1 at *;generalize bl (nv w.1.2)=x2 at *;refine AC.aF (rs:=[.tmp 2,.tmp 3]) bM Tryz.func30 (by rfl) (by rfl) (by rfl) (by rfl) (by rfl) ?_;simp (disch:=omega) only[wt,seval,reduceCtorEq,Nat.reduceEqDiff,aj,rqs];refine au (c) (by rfl) (by simp) ?_;simp (disch:=omega) only[wt,seval,reduceCtorEq,Nat.reduceEqDiff,aj,rqs];refine au (s) (by rfl) (by simp) ?_;simp (disch:=omega) only[wt,seval,reduceCtorEq,Nat.reduceEqDiff,aj,rqs];refine .inl ⟨aZ (by kernel_rfl),?_⟩;refine au (b1) (by rfl) (by simp) ?_;simp (disch:=omega) only[wt,seval,reduceCtorEq,Nat.reduceEqDiff,aj,rqs];refine au (b2) (by first|rfl|(simp only[aH,bn,aB,aI,aA,Nat.reduceEqDiff,↓reduceIte,em,ew];rfl)) (by simp) ?_;simp (disch:=omega) only[wt,seval,reduceCtorEq,Nat.reduceEqDiff,aj,rqs,em,ew]
  first|exact aN (by kernel_rfl)|refine⟨aN (by kernel_rfl),?_⟩
  refine .inl ⟨aZ (by kernel_rfl),?_⟩;refine au (ab) (by first|rfl|(simp only[aH,bn,aB,aI,aA,Nat.reduceEqDiff,↓reduceIte,em];rfl)) (by simp) ?_;simp (disch:=omega) only[wt,seval,reduceCtorEq,Nat.reduceEqDiff,aj,rqs,em];refine au (sh) (by first|rfl|(simp only[aH,bn,aB,aI,aA,Nat.reduceEqDiff,↓reduceIte,em];rfl)) (by simp) ?_;simp (disch:=omega) only[wt,seval,reduceCtorEq,Nat.reduceEqDiff,aj,rqs,em];refine au (cm) (by first|rfl|(simp only[aH,bn,aB,aI,aA,Nat.reduceEqDiff,↓reduceIte,hy];rfl)) (by simp) ?_;simp (disch:=omega) only[wt,seval,reduceCtorEq,Nat.reduceEqDiff,aj,rqs,hy]
  first|exact aN (by kernel_rfl)|refine⟨aN (by kernel_rfl),?_⟩
  try rfl
 .rw[if_neg hq];have hy:0<=y:=by omega
  generalize nv w.1.2*2^K=Z at *;generalize bl (nv w.2)=x1 at *;generalize bl (nv w.1.2)=x2 at *;refine AC.aF (rs:=[.tmp 2,.tmp 3]) bM Tryz.func30 (by rfl) (by rfl) (by rfl) (by rfl) (by rfl) ?_;simp (disch:=omega) only[wt,seval,reduceCtorEq,Nat.reduceEqDiff,aj,rqs];refine au (c) (by rfl) (by simp) ?_;simp (disch:=omega) only[wt,seval,reduceCtorEq,Nat.reduceEqDiff,aj,rqs];refine au (s) (by rfl) (by simp) ?_;simp (disch:=omega) only[wt,seval,reduceCtorEq,Nat.reduceEqDiff,aj,rqs];refine .inl ⟨aZ (by kernel_rfl),?_⟩;refine au (b1) (by rfl) (by simp) ?_;simp (disch:=omega) only[wt,seval,reduceCtorEq,Nat.reduceEqDiff,aj,rqs];refine au (b2) (by first|rfl|(simp only[aH,bn,aB,aI,aA,Nat.reduceEqDiff,↓reduceIte,em,ew];rfl)) (by simp) ?_;simp (disch:=omega) only[wt,seval,reduceCtorEq,Nat.reduceEqDiff,aj,rqs,em,ew]
  first|exact aN (by kernel_rfl)|refine⟨aN (by kernel_rfl),?_⟩
  refine .inl ⟨aZ (by kernel_rfl),?_⟩;refine au (ab) (by first|rfl|(simp only[aH,bn,aB,aI,aA,Nat.reduceEqDiff,↓reduceIte,em];rfl)) (by simp) ?_;simp (disch:=omega) only[wt,seval,reduceCtorEq,Nat.reduceEqDiff,aj,rqs,em];refine au (sh) (by first|rfl|(simp only[aH,bn,aB,aI,aA,Nat.reduceEqDiff,↓reduceIte,em];rfl)) (by simp) ?_;simp (disch:=omega) only[wt,seval,reduceCtorEq,Nat.reduceEqDiff,aj,rqs,em];refine au (cm) (by first|rfl|(simp only[aH,bn,aB,aI,aA,Nat.reduceEqDiff,↓reduceIte,hy];rfl)) (by simp) ?_;simp (disch:=omega) only[wt,seval,reduceCtorEq,Nat.reduceEqDiff,aj,rqs,hy]
  first|exact aN (by kernel_rfl)|refine⟨aN (by kernel_rfl),?_⟩
  try rfl
theorem b0V (w:RQ)(hw:SzQ (2^20) w):fkn (nv w.2) (nv w.1.2)<=2^28:=by
 have h1:=WA (nv w.2+1) (nv w.1.2);have e2:=FH hw.1.2 hw.1.1;have e1:=FH hw.2.2 hw.2.1;have e3:bl (nv w.2+1)<=bl (nv w.2)+1:=qU.2 (by
  have:=Zz (B:=nv w.2);rw[Nat.pow_succ];omega)
 unfold fkn;omega
theorem a7K (w:RQ)(hw:SzQ (2^20) w)(h0:nv w.2≠0)(hs:0<iv w.1)(hb:1048576<fkn (nv w.2) (nv w.1.2)):AC Tryz.prog 14 [cqq w] none [ci 0,ci 13]:=by
 have s:=wU w (hw.mono (by omega)) h0;rw[Int.sign_eq_one_of_pos hs]at s;have f:=Rj w hw h0 hs;have hle:=b0V w hw;generalize fkn (nv w.2) (nv w.1.2)=k at *;have hb':1048576<(k:Int):=by omega
 refine AC.aF (rs:=[.tmp 2,.tmp 3]) bM Tryz.func14 (by rfl) (by rfl) (by rfl) (by rfl) (by rfl) ?_;simp (disch:=omega) only[wt,seval,reduceCtorEq,Nat.reduceEqDiff,aj,rqs];refine au (s) (by rfl) (by simp) ?_;simp (disch:=omega) only[wt,seval,reduceCtorEq,Nat.reduceEqDiff,aj,rqs];refine au (f) (by first|rfl|(simp only[aH,bn,aB,aI,aA,Nat.reduceEqDiff,↓reduceIte,hb'];rfl)) (by simp) ?_;simp (disch:=omega) only[wt,seval,reduceCtorEq,Nat.reduceEqDiff,aj,rqs,hb']
 try rfl
theorem b0X (w:RQ)(hw:SzQ (2^20) w)(h0:nv w.2≠0)(hs:0<iv w.1)(hb:fkn (nv w.2) (nv w.1.2)<=1048576):AC Tryz.prog 14 [cqq w] none [ci (fkn (nv w.2) (nv w.1.2)),ci 0]:=by
 have s:=wU w (hw.mono (by omega)) h0;rw[Int.sign_eq_one_of_pos hs]at s;have f:=Rj w hw h0 hs;generalize fkn (nv w.2) (nv w.1.2)=k at *;have hb':¬1048576<(k:Int):=by omega
 refine AC.aF (rs:=[.tmp 2,.tmp 3]) bM Tryz.func14 (by rfl) (by rfl) (by rfl) (by rfl) (by rfl) ?_;simp (disch:=omega) only[wt,seval,reduceCtorEq,Nat.reduceEqDiff,aj,rqs];refine au (s) (by rfl) (by simp) ?_;simp (disch:=omega) only[wt,seval,reduceCtorEq,Nat.reduceEqDiff,aj,rqs];refine au (f) (by first|rfl|(simp only[aH,bn,aB,aI,aA,Nat.reduceEqDiff,↓reduceIte,hb'];rfl)) (by simp) ?_;simp (disch:=omega) only[wt,seval,reduceCtorEq,Nat.reduceEqDiff,aj,rqs,hb']
 try rfl
set_option linter.defProp false
def spr (s:Sp):List IV:=[.bool (canon s.a).1,.sl (dJ (canon s.a).2),.int .i64 s.e,.bool s.pt,.sl (dY s.L)]
abbrev csp (s:Sp):CV:=.agg (spr s)
theorem a5X (s:Sp):(spr s).length=5:=rfl
theorem b4Z (s:Sp):(spr s).getD 2 default=.int .i64 s.e:=rfl
theorem b4Y (s:Sp):(spr s).getD 3 default=.bool s.pt:=rfl
theorem b4X (s:Sp):(spr s).getD 4 default=.sl (dY s.L):=rfl
theorem a9L (s:Sp):(spr s).take 2=je (canon s.a):=rfl
theorem a9K (s:Sp):(spr s).take 5=spr s:=rfl
theorem a5W (a b c d e:IV)(s:Sp):splice [a,b,c,d,e] 0 (spr s)=spr s:=rfl
theorem a0Q (t s:Sp):splice (spr t) 0 (spr s)=spr s:=rfl
theorem a6a (s:Sp):(spr s).drop 2=[.int .i64 s.e,.bool s.pt,.sl (dY s.L)]:=rfl
theorem a5Z (s:Sp):(spr s).drop 3=[.bool s.pt,.sl (dY s.L)]:=rfl
theorem a5Y (s:Sp):(spr s).drop 4=[.sl (dY s.L)]:=rfl
def ws:=And.intro a5X (And.intro b4Z (And.intro b4Y (And.intro b4X (And.intro a9L (And.intro a9K (And.intro a5W (And.intro a0Q (And.intro a6a (And.intro a5Z a5Y)))))))))
def Bm (m:Nat)(L:List Int):Prop:=tz L<=12/\∀k,(cf L k).natAbs<2^m
theorem a8p {m:Nat}{L:List Int}(h:Bm m L)(k:Nat):zl (cf L k)<=m/64+1:=dR.mpr (by
 rw[Ea];exact Nat.lt_of_lt_of_le (h.2 k) (Nat.pow_le_pow_right (by omega) (by omega)))
theorem a3s {m:Nat}{L:List Int}(h:Bm m L)(hm:m<=33554000):RP 12 (2^19) (cn L):=oQ h.1 λk=>Nat.le_trans (a8p h k) (by omega)
theorem PY (L:List Int):aV (pv (cn L))=aV L:=kQ (jc (jf L))
theorem a9R (p:List RI)(h:RP (2^40) (2^40) p):AC Tryz.prog 128 [cw p] none [ci (chg (pv p))]:=by
 have hl:=h.1;have hpl:=iK p;have m:=b1s ((pv p).map Int.sign) (by rw[List.length_map];omega);rw[chg,iU]at m;have b5b:∀{i:Nat},i<p.length->(((pv p).map Int.sign).take (i+1))=((pv p).map Int.sign).take i++[(iv (p.getD i (false,[]))).sign]:=λ{i} h=>by
  have hl:=iK p;rw[EC (by rw[List.length_map];omega)]
  congr 2
  rw[<-rJ];simp[cf,List.getD,show i<(pv p).length by omega]
 have isn:∀(l:List Int) (x:Int),iO (l++[x])=iO l++[[.int .i64 x]]:=λl x=>by simp[iO]
 refine AC.aF (rs:=[.tmp 2]) bM Tryz.func128 (by rfl) (by rfl) (by rfl) (by rfl) (by rfl) ?_;simp (disch:=omega) only[wt,seval,reduceCtorEq,Nat.reduceEqDiff,aj,rqs];refine bF (λf H=>∃(i st:Nat),i<=p.length/\f 11=.iv (.int .i64 i)/\f 10=.iv (.int .i64 p.length)/\f 9=.iv (.sl (gZ p))/\f 3=.hs 8 st/\H 8=.blk false st 3 1 (iO (((pv p).map Int.sign).take i))) (λf H=>(p.length-dQ f 11).toNat) ?_ ?_
 .refine⟨0,1,by omega,?_⟩;simp (disch:=omega) only[wt,seval,reduceCtorEq,Nat.reduceEqDiff,aj,rqs,List.take_zero,show iO []=[] from rfl,Int.toNat_zero,List.replicate_zero]
 rintro f H ⟨i,st,hi,hF⟩;rw[bC hF.1];simp (disch:=omega) only[wt,seval,reduceCtorEq,Nat.reduceEqDiff,aj,rqs,hF];refine bU (λhlt=>?_) (λhlt=>?_)
 .have hlt':i<p.length:=by omega
  have hq:(((pv p).map Int.sign).take i).length=i:=by rw[List.length_take,List.length_map];omega
  have e:=b5b hlt';have z:=fM (p.getD i (false,[])) (h.get i);simp (disch:=omega) only[wt,seval,reduceCtorEq,Nat.reduceEqDiff,aj,rqs,hF,hq];refine au (z) (by first|rfl|(simp only[aH,bn,aB,aI,aA,Nat.reduceEqDiff,↓reduceIte,hF,hq];rfl)) (by simp) ?_;simp (disch:=omega) only[wt,seval,reduceCtorEq,Nat.reduceEqDiff,aj,rqs,hF,hq];refine⟨⟨i+1,st+1,by omega,?_⟩,by omega⟩;rw[e,isn]
  (repeat' apply And.intro)<;>first|rfl|omega
 .obtain rfl:i=p.length:=by omega
  rw[List.take_of_length_le (by rw[List.length_map];omega)]at hF;simp (disch:=omega) only[wt,seval,reduceCtorEq,Nat.reduceEqDiff,aj,rqs,hF];refine au (m) (by first|rfl|(simp only[aH,bn,aB,aI,aA,Nat.reduceEqDiff,↓reduceIte,hF];rfl)) (by simp) ?_;simp (disch:=omega) only[wt,seval,reduceCtorEq,Nat.reduceEqDiff,aj,rqs,hF]
  try rfl
theorem a0X (p:List RI)(h:RP (2^40) (2^40) p):AC Tryz.prog 127 [cw p] none [cb (decide (tz (pv p)=0))]:=by
 have d:=qE p h;refine AC.aF (rs:=[.tmp 2]) bM Tryz.func127 (by rfl) (by rfl) (by rfl) (by rfl) (by rfl) ?_;simp (disch:=omega) only[wt,seval,reduceCtorEq,Nat.reduceEqDiff,aj,rqs];refine au (d) (by rfl) (by simp) ?_;simp (disch:=omega) only[wt,seval,reduceCtorEq,Nat.reduceEqDiff,aj,rqs];exact decide_eq_decide.mpr (by omega)
theorem a6k (p:List RI)(h:RP (2^40) (2^40) p)(h0:tz (pv p)≠0):AC Tryz.prog 103 [cw p] none [ci (chg (pv p)),ci 0]:=by
 have n:=a0X p h;rw[decide_eq_false h0]at n;have o:=a9R p h;refine AC.aF (rs:=[.tmp 2,.tmp 3]) bM Tryz.func103 (by rfl) (by rfl) (by rfl) (by rfl) (by rfl) ?_;simp (disch:=omega) only[wt,seval,reduceCtorEq,Nat.reduceEqDiff,aj,rqs];refine au (n) (by rfl) (by simp) ?_;simp (disch:=omega) only[wt,seval,reduceCtorEq,Nat.reduceEqDiff,aj,rqs];refine au (o) (by rfl) (by simp) ?_;simp (disch:=omega) only[wt,seval,reduceCtorEq,Nat.reduceEqDiff,aj,rqs]
 try rfl
theorem a2k {n:Nat}(h:n<=12):n*2+1<=2^40/\n*(2^19+2)+2^19+3<=2^40:=by
 have:=Nat.mul_le_mul_right (2^19+2) h;constructor
 .omega
 .exact Nat.le_trans (Nat.add_le_add_right (Nat.add_le_add_right this _) _) (by decide)
theorem a7e {m:Nat}{L:List Int}(h:Bm m L)(hm:m<=33554000):RP (2^40) (2^40) (cn (AB L)):=by
 have hp:PB 12 (2^19) (aV L):=.of (by rw[bI];exact h.1) λi=>by
  rw[bH];exact Nat.le_trans (a8p h i) (by omega)
 have z1:zl 1<=2^19:=Nat.le_trans (dR.mpr (by decide):zl 1<=1) (by omega);have z0:zl 0<=2^19:=by rw[fA];omega
 have h1:PB 2 (2^19) [1,0]:=⟨by simp,λz hz=>by
  simp only[List.mem_cons,List.not_mem_nil,or_false]at hz;rcases hz with rfl|rfl<;>assumption⟩
 have h2:PB 2 (2^19) [1,1]:=⟨by simp,λz hz=>by
  simp only[List.mem_cons,List.not_mem_nil,or_false]at hz;rcases hz with rfl|rfl<;>assumption⟩
 have k:=GI h1 h2 (by omega) (m:=12) (by omega) hp;have hl:(aV L).length<=12:=hp.1;have k1:=k.1;have k2:=k.cf;obtain⟨b1,b2⟩:=a2k hl;unfold AB;generalize kS (aV L) [1,0] [1,1]=X at *;have b3:SBd (2^40) X:=λi=>Nat.le_trans (k2 i) b2
 exact oQ (D:=2^40) (k:=2^40) (Nat.le_trans (oI _) (Nat.le_trans k1 b1)) b3
theorem qg (s:Sp){m:Nat}(h:Bm m s.L)(hm:m<=33554000)(h0:tz (AB s.L)≠0):AC Tryz.prog 73 [csp s] none [ci s.ch]:=by
 have l:=XU (cn s.L) ((a3s h hm).mono (by omega) (by omega));rw[PY]at l;have p:=a6k (cn (AB s.L)) (a7e h hm) (by rw[dX (jf _)];exact h0);have ec:chg (pv (cn (AB s.L)))=s.ch:=by
  unfold Sp.ch chg;rw[Dz (jc (jf _))]
 rw[ec]at p;obtain⟨a,e,pt,L⟩:=s;refine AC.aF (rs:=[.tmp 2]) bM Tryz.func73 (by rfl) (by rfl) (by rfl) (by rfl) (by rfl) ?_;simp (disch:=omega) only[wt,seval,reduceCtorEq,Nat.reduceEqDiff,aj,rqs,ws];refine au (l) (by first|rfl|(simp only[aH,bn,aB,aI,aA,Nat.reduceEqDiff,↓reduceIte,ws];rfl)) (by simp) ?_;simp (disch:=omega) only[wt,seval,reduceCtorEq,Nat.reduceEqDiff,aj,rqs,ws];refine au (p) (by first|rfl|(simp only[aH,bn,aB,aI,aA,Nat.reduceEqDiff,↓reduceIte,ws];rfl)) (by simp) ?_;simp (disch:=omega) only[wt,seval,reduceCtorEq,Nat.reduceEqDiff,aj,rqs,ws]
 try rfl
theorem Yj {K:Nat}:∀(p:List Int),p.length<=60->(∀i,zl (cf p i)<=K)->zl (pG p 1 2)<=K+1+p.length
 |[],_,_=>by show zl 0<=_;rw[fA];omega
 |c::p,hl,h=>by
  simp only[List.length_cons]at hl;have ih:=Yj p (by omega) λi=>h (i+1)
  have h0:zl c<=K:=h 0;have h2:=MZ p.length;have h3:=gI c (2^p.length);show zl (c*2^p.length+1*pG p 1 2)<=_;rw[Int.one_mul,List.length_cons];have h4:=nT (c*2^p.length) (pG p 1 2);omega
theorem a5L (s:Sp){m:Nat}(h:Bm m s.L)(hm:m<=33554000):AC Tryz.prog 75 [csp s] none [cb (decide (er s.L (1/2)=0))]:=by
 have o1:=iJ 1 (by omega) (by omega);have o2:=iJ 2 (by omega) (by omega);have z1:zl 1<=1:=dR.mpr (by decide);have z2:zl 2<=1:=dR.mpr (by decide);have hg:=Fb (cn s.L) (canon 1) (canon 2) ((a3s h hm).mono (by omega) (by omega)) ((aW _).mono (by omega)) ((aW _).mono (by omega));rw[PY,aU,aU]at hg;have hz:zl (pG (aV s.L) 1 2)<=2^33:=by
  have:=Yj (K:=2^19+1) (aV s.L) (by rw[bI];have:=h.1;omega) λi=>by rw[bH];exact Nat.le_trans (a8p h i) (by omega)
  have:=h.1;rw[bI]at *;omega
 have sg:=fM (canon (pG (aV s.L) 1 2)) ((aW _).mono (by omega));rw[aU]at sg;have e:=KQ (p:=s.L) (a:=1) (b:=2) (by omega);have e2:(er s.L (1/2)=0)↔(pG (aV s.L) 1 2).sign=0:=by
  rw[show ((2:Nat):Int)=2 from rfl]at e;rw[e,qw,YL];rfl
 rw[show decide (er s.L (1/2)=0)=decide ((pG (aV s.L) 1 2).sign=0) from decide_eq_decide.mpr e2];clear e e2;generalize (pG (aV s.L) 1 2).sign=x at *;generalize pG (aV s.L) 1 2=y at *;obtain⟨a,e,pt,L⟩:=s;refine AC.aF (rs:=[.tmp 2]) bM Tryz.func75 (by rfl) (by rfl) (by rfl) (by rfl) (by rfl) ?_;simp (disch:=omega) only[wt,seval,reduceCtorEq,Nat.reduceEqDiff,aj,rqs,ws];refine .inl ⟨aZ (by kernel_rfl),?_⟩;refine au (o1) (by first|rfl|(simp only[aH,bn,aB,aI,aA,Nat.reduceEqDiff,↓reduceIte,ws];rfl)) (by simp) ?_;simp (disch:=omega) only[wt,seval,reduceCtorEq,Nat.reduceEqDiff,aj,rqs,ws];refine au (o2) (by first|rfl|(simp only[aH,bn,aB,aI,aA,Nat.reduceEqDiff,↓reduceIte,ws];rfl)) (by simp) ?_;simp (disch:=omega) only[wt,seval,reduceCtorEq,Nat.reduceEqDiff,aj,rqs,ws];refine au (hg) (by first|rfl|(simp only[aH,bn,aB,aI,aA,Nat.reduceEqDiff,↓reduceIte,ws];rfl)) (by simp) ?_;simp (disch:=omega) only[wt,seval,reduceCtorEq,Nat.reduceEqDiff,aj,rqs,ws];refine au (sg) (by first|rfl|(simp only[aH,bn,aB,aI,aA,Nat.reduceEqDiff,↓reduceIte,ws];rfl)) (by simp) ?_;simp (disch:=omega) only[wt,seval,reduceCtorEq,Nat.reduceEqDiff,aj,rqs,ws]
 first|exact aN (by kernel_rfl)|refine⟨aN (by kernel_rfl),?_⟩
 try rfl
theorem jy (r:RI)(x y:IV):lay (λi=>[(0,2),(2,1),(3,1),(4,1)][i]?) (.bool false::.sl []::.int .i64 0::je (false,[])) ([0,1,3].zip [je r,[x],[y]])=some ((2=2/\0+2<=5)/\(1=1/\2+1<=5)/\(1=1/\4+1<=5)/\True,[.bool r.1,.sl (dJ r.2),x,.bool false,y]):=rfl
theorem QV (r:RI)(x y:IV):lay (λi=>[(0,2),(2,1),(3,1),(4,1)][i]?) (.bool false::.sl []::.int .i64 0::je (false,[])) ([0,1,2].zip [je r,[x],[y]])=some ((2=2/\0+2<=5)/\(1=1/\2+1<=5)/\(1=1/\3+1<=5)/\True,[.bool r.1,.sl (dJ r.2),x,y,.sl []]):=rfl
theorem ou (r:RI)(y:IV):lay (λi=>[(0,2),(2,1),(3,1),(4,1)][i]?) (.bool false::.sl []::.int .i64 0::je (false,[])) ([0,2].zip [je r,[y]])=some ((2=2/\0+2<=5)/\(1=1/\3+1<=5)/\True,[.bool r.1,.sl (dJ r.2),.int .i64 0,y,.sl []]):=rfl
theorem spz (s:Sp):splice (.bool false::.sl []::.int .i64 0::je (false,[])) 0 (spr s)=spr s:=rfl
theorem Ey (s:Sp){m:Nat}(h:Bm m s.L)(hm:m<=33554000)(ha:zl s.a<=2^30)(he : -2^40<=s.e)(he2:s.e<=2^40):AC Tryz.prog 74 [csp s] none [csp s.low,csp s.mid,csp s.high]:=by
 have hv:=XW (p:=cn s.L) (out:=kS (wtm 2 (aV s.L)) [1,1] [1]) ((a3s h hm).mono (by omega) (by omega)) (by
  rw[PY,vJ,kR];rfl)
 rw[PY]at hv;have a1:=rP (canon s.a) (canon s.a) ((aW _).mono (by omega)) ((aW _).mono (by omega));rw[aU]at a1;have o:=iJ 1 (by omega) (by omega);have za:zl (s.a+s.a)<=2^31:=by have:=nT s.a s.a;omega
 have z1:zl 1<=1:=dR.mpr (by decide);have a2:=rP (canon (s.a+s.a)) (canon 1) ((aW _).mono (by omega)) ((aW _).mono (by omega));rw[aU,aU]at a2;have ew:IntKind.i64.wrap (s.e+1)=s.e+1:=wrap_i64 _ (by omega) (by omega);obtain⟨a,e,pt,L⟩:=s;simp only[Sp.low,Sp.mid,Sp.high]at *;generalize wtm 2 (aV L)=X at *;generalize kS X [1,1] [1]=Y at *;generalize a+a=a2' at *;generalize a2'+1=a3 at *;have sl:csp ⟨a2',e+1,false,X⟩=.agg [.bool (canon a2').1,.sl (dJ (canon a2').2),.int .i64 (e+1),.bool false,.sl (dY X)]:=rfl;have sm:csp ⟨a3,e+1,true,[]⟩=.agg [.bool (canon a3).1,.sl (dJ (canon a3).2),.int .i64 (e+1),.bool true,.sl []]:=rfl;have sh:csp ⟨a3,e+1,false,Y⟩=.agg [.bool (canon a3).1,.sl (dJ (canon a3).2),.int .i64 (e+1),.bool false,.sl (dY Y)]:=rfl;rw[sl,sm,sh];refine AC.aF (rs:=[.cell 2 89,.cell 3 89,.cell 4 89]) bM Tryz.func74 (by rfl) (by rfl) (by rfl) (by rfl) (by rfl) ?_;simp (disch:=omega) only[wt,seval,reduceCtorEq,Nat.reduceEqDiff,aj,rqs,ws,ew];refine au (hv) (by first|rfl|(simp only[aH,bn,aB,aI,aA,Nat.reduceEqDiff,↓reduceIte,ws,ew];rfl)) (by simp) ?_;simp (disch:=omega) only[wt,seval,reduceCtorEq,Nat.reduceEqDiff,aj,rqs,ws,ew];refine au (a1) (by first|rfl|(simp only[aH,bn,aB,aI,aA,Nat.reduceEqDiff,↓reduceIte,ws,ew];rfl)) (by simp) ?_;simp (disch:=omega) only[wt,seval,reduceCtorEq,Nat.reduceEqDiff,aj,rqs,ws,ew];refine .inl ⟨aZ (by kernel_rfl),?_⟩;refine au (o) (by first|rfl|(simp only[aH,bn,aB,aI,aA,Nat.reduceEqDiff,↓reduceIte,ws,ew];rfl)) (by simp) ?_;simp (disch:=omega) only[wt,seval,reduceCtorEq,Nat.reduceEqDiff,aj,rqs,ws,ew];refine au (a2) (by first|rfl|(simp only[aH,bn,aB,aI,aA,Nat.reduceEqDiff,↓reduceIte,ws,ew,jy,QV];rfl)) (by simp) ?_;simp (disch:=omega) only[wt,seval,reduceCtorEq,Nat.reduceEqDiff,aj,rqs,ws,ew,jy,QV]
 first|exact aN (by kernel_rfl)|refine⟨aN (by kernel_rfl),?_⟩
 refine .inl ⟨aZ (by kernel_rfl),?_⟩
 first|exact aN (by kernel_rfl)|refine⟨aN (by kernel_rfl),?_⟩
 exact⟨rfl,rfl,rfl⟩
theorem nC:∀(n:Nat) (s:Sp),oD (n+1) s=if (oD n s).pt then oD n s else (oD n s).nx
 |0,s=>rfl
 |n+1,s=>by
  rw[oD];cases hp:s.pt with
  |true =>
   have:oD (n+1) s=s:=by rw[oD,hp];rfl
   rw[this,hp];rfl
  |false =>
   have e:oD (n+1) s=oD n s.nx:=by rw[oD,hp];rfl
   rw[e];exact nC n s.nx
theorem JR {s:Sp}{n:Nat}(h:(oD n s).pt=true):∀m,oD (n+m) s=oD n s
 |0=>rfl
 |m+1=>by
  have ih:=JR h m;rw[<-Nat.add_assoc,nC,ih,h];rfl
theorem Qk:∀(n:Nat) (s:Sp),(oD n s).pt=false->(oD n s).e=s.e+n
 |0,s,_=>by show s.e=s.e+((0:Nat):Int);omega
 |n+1,s,h=>by
  rw[nC]at h ⊢;cases hp:(oD n s).pt with
  |true=>rw[hp]at h;simp only[if_true]at h;rw[hp]at h;cases h
  |false =>
   simp only[Bool.false_eq_true,if_false];rw[b1Z,Qk n s hp];omega
def a6m (k:Int)(H:AL.Hp):Nat:=match H 2 with
 |.blk _ _ _ _ [r]=>(match r.getD 2 default with | .int _ e=>(k-e).toNat|_=>0)
 |_=>0
theorem Au {k:Int}{H:AL.Hp}{st e sz:Nat}{fz:Bool}{s:Sp}(h:H 2=.blk fz st e sz [spr s]):a6m k H=(k-s.e).toNat:=by
 unfold a6m;rw[h];rfl
structure b1L (s:Sp):Prop where
 m:∃m,m<=33554000/\Bm m s.L/\Bm m s.low.L
 t:tz (AB s.low.L)≠0
 a:zl s.a<=2^30
 e0 : -2^40<=s.e
 e1:s.e<=2^40
theorem a1J (s:Sp):(er s.L (1/2)=0/\s.nx=s.mid)\/(¬er s.L (1/2)=0/\s.low.ch=1/\s.nx=s.low)\/(¬er s.L (1/2)=0/\s.low.ch≠1/\s.nx=s.high):=by
 unfold Sp.nx;by_cases h:er s.L (1/2)=0
 .exact .inl ⟨h,if_pos h⟩
 .rw[if_neg h];by_cases h1:s.low.ch=1
  .exact .inr (.inl ⟨h,h1,if_pos h1⟩)
  .exact .inr (.inr ⟨h,h1,if_neg h1⟩)
set_option maxRecDepth 100000 in
theorem N8 (s:Sp)(k:Int)(h:∀n:Nat,n<(k-s.e).toNat->(oD n s).pt=false->b1L (oD n s)):AC Tryz.prog 41 [csp s,ci k] none [csp (s.ref k)]:=by
 refine AC.aF (rs:=[.cell 4 89]) bM Tryz.func41 (by rfl) (by rfl) (by rfl) (by rfl) (by rfl) ?_;simp (disch:=omega) only[wt,seval,reduceCtorEq,Nat.reduceEqDiff,aj,rqs,ws];refine bF (λf H=>∃n:Nat,n<=(k-s.e).toNat/\f 1=.iv (.int .i64 k)/\f 2=.hp 2 1 0 0/\H 2=.blk false 1 89 5 [spr (oD n s)]/\f 4=.hp 4 1 0 0/\H 4=.blk false 1 89 5 [.bool false::.sl []::.int .i64 0::je (false,[])]) (λf H=>a6m k H) ?_ ?_
 .refine⟨0,by omega,?_⟩;simp (disch:=omega) only[wt,seval,reduceCtorEq,Nat.reduceEqDiff,aj,rqs,ws];rfl
 rintro f H ⟨n,hn,hF⟩;rw[Au hF.2.2.1];have hsucc:=nC n s;have hstop:=JR (s:=s) (n:=n);have hen:=Qk n s;have ok:=h n;generalize ht:oD n s=t at *;cases hp:t.pt with
 |true =>
  have e:s.ref k=t:=by
   unfold Sp.ref;rw[show (k-s.e).toNat=n+((k-s.e).toNat-n) by omega];exact hstop hp _
  rw[e];simp (disch:=omega) only[wt,seval,reduceCtorEq,Nat.reduceEqDiff,aj,rqs,hF,ws,spz,hp]
  try rfl
 |false =>
  have he:=hen hp;by_cases hlt:t.e<k
  .obtain⟨⟨m,hm,b1,b2⟩,t0,a0,e0,e1⟩:=ok (by omega) hp;have c1:=Ey t b1 hm a0 e0 e1;have c2:=a5L t b1 hm;have c3:=qg t.low b2 hm t0;rw[hp]at hsucc;simp only[Bool.false_eq_true,if_false]at hsucc;have a9g:(k-t.nx.e).toNat<(k-t.e).toNat:=by rw[b1Z];omega
   rcases a1J t with ⟨z,en⟩|⟨z,ch,en⟩|⟨z,ch,en⟩
   .rw[decide_eq_true z]at c2;simp (disch:=omega) only[wt,seval,reduceCtorEq,Nat.reduceEqDiff,aj,rqs,hF,ws,spz,hp,hlt];refine au (c1) (by first|rfl|(simp only[aH,bn,aB,aI,aA,Nat.reduceEqDiff,↓reduceIte,hF,ws,spz,hp,hlt];rfl)) (by simp) ?_;simp (disch:=omega) only[wt,seval,reduceCtorEq,Nat.reduceEqDiff,aj,rqs,hF,ws,spz,hp,hlt];refine au (c2) (by first|rfl|(simp only[aH,bn,aB,aI,aA,Nat.reduceEqDiff,↓reduceIte,hF,ws,spz,hp,hlt];rfl)) (by simp) ?_;simp (disch:=omega) only[wt,seval,reduceCtorEq,Nat.reduceEqDiff,aj,rqs,hF,ws,spz,hp,hlt];refine⟨⟨n+1,by omega,?_⟩,?_⟩
    .rw[hsucc,en]
     first|done|(repeat' apply And.intro)<;>first|rfl|omega
    .rw[en]at a9g;refine Nat.lt_of_le_of_lt (Nat.le_of_eq ?_) a9g;exact Au rfl
   .rw[decide_eq_false z]at c2;have ch':(t.low.ch:Int)=1:=by omega
    simp (disch:=omega) only[wt,seval,reduceCtorEq,Nat.reduceEqDiff,aj,rqs,hF,ws,spz,hp,hlt];refine au (c1) (by first|rfl|(simp only[aH,bn,aB,aI,aA,Nat.reduceEqDiff,↓reduceIte,hF,ws,spz,hp,hlt];rfl)) (by simp) ?_;simp (disch:=omega) only[wt,seval,reduceCtorEq,Nat.reduceEqDiff,aj,rqs,hF,ws,spz,hp,hlt];refine au (c2) (by first|rfl|(simp only[aH,bn,aB,aI,aA,Nat.reduceEqDiff,↓reduceIte,hF,ws,spz,hp,hlt];rfl)) (by simp) ?_;simp (disch:=omega) only[wt,seval,reduceCtorEq,Nat.reduceEqDiff,aj,rqs,hF,ws,spz,hp,hlt];refine au (c3) (by first|rfl|(simp only[aH,bn,aB,aI,aA,Nat.reduceEqDiff,↓reduceIte,hF,ws,spz,hp,hlt,ch'];rfl)) (by simp) ?_;simp (disch:=omega) only[wt,seval,reduceCtorEq,Nat.reduceEqDiff,aj,rqs,hF,ws,spz,hp,hlt,ch'];refine⟨⟨n+1,by omega,?_⟩,?_⟩
    .rw[hsucc,en]
     first|done|(repeat' apply And.intro)<;>first|rfl|omega
    .rw[en]at a9g;refine Nat.lt_of_le_of_lt (Nat.le_of_eq ?_) a9g;exact Au rfl
   .rw[decide_eq_false z]at c2;have ch':¬(t.low.ch:Int)=1:=by omega
    simp (disch:=omega) only[wt,seval,reduceCtorEq,Nat.reduceEqDiff,aj,rqs,hF,ws,spz,hp,hlt];refine au (c1) (by first|rfl|(simp only[aH,bn,aB,aI,aA,Nat.reduceEqDiff,↓reduceIte,hF,ws,spz,hp,hlt];rfl)) (by simp) ?_;simp (disch:=omega) only[wt,seval,reduceCtorEq,Nat.reduceEqDiff,aj,rqs,hF,ws,spz,hp,hlt];refine au (c2) (by first|rfl|(simp only[aH,bn,aB,aI,aA,Nat.reduceEqDiff,↓reduceIte,hF,ws,spz,hp,hlt];rfl)) (by simp) ?_;simp (disch:=omega) only[wt,seval,reduceCtorEq,Nat.reduceEqDiff,aj,rqs,hF,ws,spz,hp,hlt];refine au (c3) (by first|rfl|(simp only[aH,bn,aB,aI,aA,Nat.reduceEqDiff,↓reduceIte,hF,ws,spz,hp,hlt,ch'];rfl)) (by simp) ?_;simp (disch:=omega) only[wt,seval,reduceCtorEq,Nat.reduceEqDiff,aj,rqs,hF,ws,spz,hp,hlt,ch'];refine⟨⟨n+1,by omega,?_⟩,?_⟩
    .rw[hsucc,en]
     first|done|(repeat' apply And.intro)<;>first|rfl|omega
    .rw[en]at a9g;refine Nat.lt_of_le_of_lt (Nat.le_of_eq ?_) a9g;exact Au rfl
  .have e:s.ref k=t:=by
    unfold Sp.ref;have:(k-s.e).toNat=n:=by omega
    rw[this];exact ht
   rw[e];simp (disch:=omega) only[wt,seval,reduceCtorEq,Nat.reduceEqDiff,aj,rqs,hF,ws,spz,hp,hlt]
   try rfl
end Go.Proofs.YtnhghmibjddlkaaGreatDoor
