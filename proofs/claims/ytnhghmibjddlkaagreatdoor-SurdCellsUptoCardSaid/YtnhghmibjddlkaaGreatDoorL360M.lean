/-
 Contracts of the functions that the law reaches.
-/
import Derived.Test.YtnhghmibjddlkaaGreatDoorL59M
import Derived.Test.YtnhghmibjddlkaaGreatDoorL31M
import Derived.Test.YtnhghmibjddlkaaGreatDoorL23M
set_option maxHeartbeats 2000000
namespace Go.Proofs.YtnhghmibjddlkaaGreatDoor
open Go Go.Proofs Go.AL
set_option linter.unusedSimpArgs false
set_option linter.unusedVariables false
theorem AQ (l:List Nat)(n:Int)(hn:n<=0):AC Tryz.prog 95 [cl l,ci n] none [cl l]:=by
 have h0:¬0<n:=by omega
 refine AC.aF (rs:=[.tmp 4]) bM Tryz.func95 (by rfl) (by rfl) (by rfl) (by rfl) (by rfl) ?_;simp (disch:=omega) only[wt,seval,reduceCtorEq,Nat.reduceEqDiff];refine bF (λf H=>f 0=.iv (.sl (dJ l))/\f 1=.iv (.int .i64 n)) (λf H=>0) ?_ ?_
 .simp (disch:=omega) only[wt,seval,reduceCtorEq,Nat.reduceEqDiff]
 rintro f H ⟨g0,g1⟩;simp (disch:=omega) only[wt,seval,reduceCtorEq,Nat.reduceEqDiff,g0,g1,h0]
 try rfl
theorem wC {A n:Nat}(h:(wd A).length<=2^38)(hn:n<=2^28):(wd (A*2^n)).length<=2^39:=by
 have h1:=gI (A:Int) ((2^n:Nat):Int);have h2:zl (A:Int)=(wd A).length:=rfl;have h3:zl ((A:Int)*((2^n:Nat):Int))=(wd (A*2^n)).length:=by rw[<-Int.natCast_mul];rfl
 have h4:zl ((2^n:Nat):Int)<=n+1:=dR.mpr (by
  rw[Int.natAbs_natCast,Ea];exact Nat.pow_lt_pow_right (by omega) (by omega))
 omega
theorem QO (l:List Nat)(n:Nat)(hl:Lim l)(hk:l.length<=2^38)(hn:n<=2^28)(h0:0<n):AC Tryz.prog 95 [cl l,ci n] none [cl (wd (nv l*2^n))]:=by
 refine AC.aF (rs:=[.tmp 4]) bM Tryz.func95 (by rfl) (by rfl) (by rfl) (by rfl) (by rfl) ?_;simp (disch:=omega) only[wt,seval,reduceCtorEq,Nat.reduceEqDiff];refine bF (λf H=>∃(i:Nat) (X:List Nat),i<=n/\Lim X/\X.length<=2^39/\nv X=nv l*2^(n-i)/\(i<n->X=wd (nv l*2^(n-i)))/\f 1=.iv (.int .i64 i)/\f 0=.iv (.sl (dJ X))) (λf H=>(dQ f 1).toNat) ?_ ?_
 .refine⟨n,l,Nat.le_refl _,hl,by omega,by rw[Nat.sub_self,Nat.pow_zero,Nat.mul_one],λh=>by omega,?_⟩;simp (disch:=omega) only[wt,seval,reduceCtorEq,Nat.reduceEqDiff]
 rintro f H ⟨i,X,hi,lX,hX,eX,ew,hF⟩;rw[bC hF.1];simp (disch:=omega) only[wt,seval,reduceCtorEq,Nat.reduceEqDiff,hF];refine bU (λhlt=>?_) (λhlt=>?_)
 .obtain⟨m,hm⟩:∃m,m=min i 1048576:=⟨_,rfl⟩;have em:min (i:Int) 1048576=m:=by omega
  have s:=vN X m lX hX (by omega);have e2:nv X*2^m=nv l*2^(n-(i-m)):=by rw[eX,Nat.mul_assoc,<-Nat.pow_add];congr 2;omega
  rw[e2]at s;have ei:(i:Int)-(m:Int)=((i-m:Nat):Int):=by omega
  simp (disch:=omega) only[wt,seval,reduceCtorEq,Nat.reduceEqDiff,hF,em];refine au (s) (by first|rfl|(simp only[aH,bn,aB,aI,aA,Nat.reduceEqDiff,↓reduceIte,hF,em,ei];rfl)) (by simp) ?_;simp (disch:=omega) only[wt,seval,reduceCtorEq,Nat.reduceEqDiff,hF,em,ei];refine⟨⟨i-m,wd (nv l*2^(n-(i-m))),by omega,bY _,?_,dU _,λ_=>rfl,?_⟩,by omega⟩
  .have h1:=lF hl;exact wC (Nat.le_trans h1 hk) (by omega)
  ·(repeat' apply And.intro)<;>first|rfl|omega
 .obtain rfl:i=0:=by omega
  have:=ew h0;rw[Nat.sub_zero]at this;subst this;simp (disch:=omega) only[wt,seval,reduceCtorEq,Nat.reduceEqDiff,hF]
  try rfl
def rto (A B:Nat):Int:=if A*2^(-((bl A:Int)-bl B)).toNat<=B*2^((bl A:Int)-bl B).toNat then (bl A:Int)-bl B else (bl A:Int)-bl B+1
theorem Lu {B:Nat}(h:B≠0):2^(bl B)<=2*B:=by
 have h1:¬bl B<=bl B-1:=by
  have:bl B≠0:=λe=>h (by have:=qU.1 (show bl B<=0 by omega);simpa using this)
  omega
 have h2:2^(bl B-1)<=B:=Nat.not_lt.1 λhlt=>h1 (qU.2 hlt)
 have h3:bl B=(bl B-1)+1:=by omega
 rw[h3,Nat.pow_succ];omega
theorem a9T {A B:Nat}(hB:B≠0):(A:Rat)<=(B:Rat)*p2 (rto A B):=by
 unfold rto;generalize hE:(bl A:Int)-bl B=e;have hp:=yQ (e:=e) (a:=e.toNat) (b:=(-e).toNat) (by omega);have hb:=mJ (-e).toNat;split
 .rename_i h;have h1:((A*2^(-e).toNat:Nat):Rat)<=((B*2^e.toNat:Nat):Rat):=by exact_mod_cast h
  rw[Rat.natCast_mul,Rat.natCast_mul,<-hp]at h1;rcases Rat.le_total (a:=(A:Rat)) (b:=(B:Rat)*p2 e) with h2|h2
  .exact h2
  .by_cases h3:(A:Rat)=(B:Rat)*p2 e
   .rw[h3];exact Rat.le_refl
   .exfalso
    have:=Rat.mul_pos (show 0<(A:Rat)-(B:Rat)*p2 e by grind) hb
    grind
 .have h1:A<2^bl A:=qU.1 (Nat.le_refl _);have h2:=Lu hB;have h3:((A:Nat):Rat)<=((2^bl A:Nat):Rat):=by
   have:A<=2^bl A:=by omega
   exact_mod_cast this
  have h4:((2^bl B:Nat):Rat)<=((2*B:Nat):Rat):=by exact_mod_cast h2
  have h5:=yQ (e:=e) (a:=bl A) (b:=bl B) (by omega);rw[xk,show p2 1=2 by rfl];rw[Rat.natCast_mul]at h4;have h6:((2:Nat):Rat)=2:=rfl;rw[h6]at h4;have:=Rat.mul_nonneg (Rat.le_of_lt (xg e)) (show 0<=2*(B:Rat)-((2^bl B:Nat):Rat) by grind)
  grind
theorem WA (A B:Nat):(bl A:Int)-bl B<=rto A B/\rto A B<=(bl A:Int)-bl B+1:=by
 unfold rto;split<;>omega
theorem Qn (A B:Nat)(hA:bl A<=2^28)(hB:bl B<=2^28)(lA:(wd A).length<=2^38)(lB:(wd B).length<=2^38):AC Tryz.prog 66 [cl (wd A),cl (wd B)] none [ci (rto A B)]:=by
 have a:=uK (wd A) (bY A) (by omega);have b:=uK (wd B) (bY B) (by omega);rw[dU]at a b;have key:∀(X Y:List Nat),Lim X->Lim Y->X.length<=2^42->Y.length<=2^42->nv X=A*2^(-((bl A:Int)-bl B)).toNat->nv Y=B*2^((bl A:Int)-bl B).toNat->AC Tryz.prog 95 [cl (wd A),ci (-((bl A:Int)-bl B))] none [cl X]->AC Tryz.prog 95 [cl (wd B),ci ((bl A:Int)-bl B)] none [cl Y]->AC Tryz.prog 66 [cl (wd A),cl (wd B)] none [ci (rto A B)]:=by
  intro X Y lX lY hX hY eX eY cX cY;have c:=GU X Y lX lY hX hY;rw[eX,eY]at c;have he:rto A B=if A*2^(-((bl A:Int)-bl B)).toNat<=B*2^((bl A:Int)-bl B).toNat then (bl A:Int)-bl B else (bl A:Int)-bl B+1:=rfl
  rw[he];rw[<-Int.zero_sub]at cX;clear he;generalize A*2^(-((bl A:Int)-bl B)).toNat=U at *;generalize B*2^((bl A:Int)-bl B).toNat=T at *;by_cases hc:U<=T
  .rw[if_pos hc];have h1:IB U T<=0:=by unfold IB;split<;>(try split)<;>omega
   generalize IB U T=c at *;refine AC.aF (rs:=[.tmp 4]) bM Tryz.func66 (by rfl) (by rfl) (by rfl) (by rfl) (by rfl) ?_;simp (disch:=omega) only[wt,seval,reduceCtorEq,Nat.reduceEqDiff];refine au (a) (by rfl) (by simp) ?_;simp (disch:=omega) only[wt,seval,reduceCtorEq,Nat.reduceEqDiff];refine au (b) (by rfl) (by simp) ?_;simp (disch:=omega) only[wt,seval,reduceCtorEq,Nat.reduceEqDiff];refine au (cX) (by rfl) (by simp) ?_;simp (disch:=omega) only[wt,seval,reduceCtorEq,Nat.reduceEqDiff];refine au (cY) (by rfl) (by simp) ?_;simp (disch:=omega) only[wt,seval,reduceCtorEq,Nat.reduceEqDiff];refine au (c) (by first|rfl|(simp only[aH,bn,aB,aI,aA,Nat.reduceEqDiff,↓reduceIte,h1];rfl)) (by simp) ?_;simp (disch:=omega) only[wt,seval,reduceCtorEq,Nat.reduceEqDiff,h1]
   try rfl
  .rw[if_neg hc];have h1:¬IB U T<=0:=by unfold IB;split<;>(try split)<;>omega
   generalize IB U T=c at *;refine AC.aF (rs:=[.tmp 4]) bM Tryz.func66 (by rfl) (by rfl) (by rfl) (by rfl) (by rfl) ?_;simp (disch:=omega) only[wt,seval,reduceCtorEq,Nat.reduceEqDiff];refine au (a) (by rfl) (by simp) ?_;simp (disch:=omega) only[wt,seval,reduceCtorEq,Nat.reduceEqDiff];refine au (b) (by rfl) (by simp) ?_;simp (disch:=omega) only[wt,seval,reduceCtorEq,Nat.reduceEqDiff];refine au (cX) (by rfl) (by simp) ?_;simp (disch:=omega) only[wt,seval,reduceCtorEq,Nat.reduceEqDiff];refine au (cY) (by rfl) (by simp) ?_;simp (disch:=omega) only[wt,seval,reduceCtorEq,Nat.reduceEqDiff];refine au (c) (by first|rfl|(simp only[aH,bn,aB,aI,aA,Nat.reduceEqDiff,↓reduceIte,h1];rfl)) (by simp) ?_;simp (disch:=omega) only[wt,seval,reduceCtorEq,Nat.reduceEqDiff,h1]
   try rfl
 have lX:=bY A;have lY:=bY B;rcases Int.lt_trichotomy ((bl A:Int)-bl B) 0 with h|h|h
 .refine key (wd (A*2^(-((bl A:Int)-bl B)).toNat)) (wd B) (bY _) lY ?_ (by omega) (dU _) (by rw[dU,show ((bl A:Int)-bl B).toNat=0 by omega];simp) ?_ (AQ _ _ (by omega))
  .exact Nat.le_trans (wC lA (by omega)) (by omega)
  .have:=QO (wd A) (-((bl A:Int)-bl B)).toNat lX (by omega) (by omega) (by omega);rwa [dU,show (((-((bl A:Int)-bl B)).toNat:Nat):Int) = -((bl A:Int)-bl B) by omega]at this
 .refine key (wd A) (wd B) lX lY (by omega) (by omega) (by rw[dU,h];simp) (by rw[dU,h];simp) (AQ _ _ (by omega)) (AQ _ _ (by omega))
 .refine key (wd A) (wd (B*2^((bl A:Int)-bl B).toNat)) lX (bY _) (by omega) ?_ (by rw[dU,show (-((bl A:Int)-bl B)).toNat=0 by omega];simp) (dU _) (AQ _ _ (by omega)) ?_
  .exact Nat.le_trans (wC lB (by omega)) (by omega)
  .have:=QO (wd B) ((bl A:Int)-bl B).toNat lY (by omega) (by omega) (by omega);rwa [dU,show ((((bl A:Int)-bl B).toNat:Nat):Int)=(bl A:Int)-bl B by omega]at this
def upz (k i:Int):Int:=if 0<k.tmod i then k.tdiv i+1 else k.tdiv i
theorem a9A {k i:Int}(hi:0<i):k<=i*upz k i:=by
 have h:=Int.mul_tdiv_add_tmod k i;unfold upz;split
 .rename_i h0;have:=Int.tmod_lt_of_pos k hi;rw[Int.mul_add,Int.mul_one];omega
 .omega
theorem a9B {k i:Int}(hi:0<i){K:Int}(h1 : -K<=k)(h2:k<=K) : -K-1<=upz k i/\upz k i<=K+1:=by
 have h3:(k.tdiv i).natAbs<=k.natAbs:=Int.natAbs_tdiv_le_natAbs _ _;unfold upz;split<;>omega
theorem b2p (k i:Int)(hi:0<i)(hk : -1000000000<=k)(hk2:k<=1000000000)(hi2:i<=1000000000):AC Tryz.prog 124 [ci k,ci i] none [ci (upz k i)]:=by
 have h3:(k.tdiv i).natAbs<=k.natAbs:=Int.natAbs_tdiv_le_natAbs _ _;have h4:(k.tmod i).natAbs<i.natAbs:=by
  have:=Int.natAbs_tmod k i;rw[this];exact Nat.mod_lt _ (by omega)
 have h5:¬i=0:=by omega
 unfold upz;by_cases h6:0<k.tmod i
 .rw[if_pos h6];refine AC.aF (rs:=[.tmp 4]) bM Tryz.func124 (by rfl) (by rfl) (by rfl) (by rfl) (by rfl) ?_;simp (disch:=omega) only[wt,seval,reduceCtorEq,Nat.reduceEqDiff,h5,h6]
  try rfl
 .rw[if_neg h6];refine AC.aF (rs:=[.tmp 4]) bM Tryz.func124 (by rfl) (by rfl) (by rfl) (by rfl) (by rfl) ?_;simp (disch:=omega) only[wt,seval,reduceCtorEq,Nat.reduceEqDiff,h5,h6]
  try rfl
def rsk (A:List Int)(i:Nat):Int:=upz (rto (cf A (A.length-1-i)).natAbs (cf A (A.length-1)).natAbs) i+1
def rst (A:List Int):Nat->Int×Bool
 |0=>(0,false)
 |i+1=>if cf A (A.length-1-(i+1))=0 then rst A i else if (rst A i).2=false\/(rst A i).1<rsk A (i+1) then (rsk A (i+1),true) else rst A i
theorem a4p (A:List Int):∀i m,0<m->m<=i->cf A (A.length-1-m)≠0->(rst A i).2=true/\rsk A m<=(rst A i).1
 |0,m,h1,h2,_=>by omega
 |i+1,m,h1,h2,h3=>by
  rw[rst];by_cases hm:m=i+1
  .subst hm;rw[if_neg h3];split
   .exact⟨rfl,Int.le_refl _⟩
   .rename_i h;have h4:(rst A i).2≠false:=λe=>h (.inl e)
    exact⟨by simpa using h4,Int.not_lt.mp λe=>h (.inr e)⟩
  .have ih:=a4p A i m h1 (by omega) h3;split
   .exact ih
   .split
    .rename_i h;refine⟨rfl,?_⟩;rcases h with h|h
     .rw[ih.1]at h;exact absurd h (by decide)
     .show rsk A m<=rsk A (i+1);omega
    .exact ih
theorem Ux (c d:RI):AC Tryz.prog 98 [cr c,cr d] none [cb true]:=by
 refine AC.aF (rs:=[.tmp 4]) bM Tryz.func98 (by rfl) (by rfl) (by rfl) (by rfl) (by rfl) ?_;simp (disch:=omega) only[wt,seval,reduceCtorEq,Nat.reduceEqDiff,aC]
 try rfl
theorem a3q {A:Nat}{k:Nat}(h:zl (A:Int)<=k):bl A<=64*k:=by
 rw[qU];have h1:=dR.mp h;rw[Int.natAbs_natCast,Ea]at h1;exact h1
theorem a4q {A:List Int}{i:Nat}(hi:0<i)(hz:∀k,zl (cf A k)<=1000) : -64003<=rsk A i/\rsk A i<=64003:=by
 have h1:=a3q (A:=(cf A (A.length-1-i)).natAbs) (k:=1000) (hz _);have h2:=a3q (A:=(cf A (A.length-1)).natAbs) (k:=1000) (hz _);have h3:=WA (cf A (A.length-1-i)).natAbs (cf A (A.length-1)).natAbs;have h4:=a9B (k:=rto (cf A (A.length-1-i)).natAbs (cf A (A.length-1)).natAbs) (i:=i) (by omega) (K:=64001) (by omega) (by omega);unfold rsk;omega
theorem WB {A:List Int}(hz:∀k,zl (cf A k)<=1000):∀i,-64003<=(rst A i).1/\(rst A i).1<=64003
 |0=>by rw[rst];decide
 |i+1=>by
  have ih:=WB hz i;have:=a4q (i:=i+1) (by omega) hz;rw[rst];split
  .exact ih
  .split
   .exact this
   .exact ih
set_option maxRecDepth 100000 in
theorem a6l (A:List Int)(hl:A.length<=1000)(h0:A.length≠0)(hA:cf A (A.length-1)≠0)(hz:∀k,zl (cf A k)<=1000):AC Tryz.prog 97 [cw (A.map canon),.fn 98 []] none [ci (rst A (A.length-1)).1,cb (rst A (A.length-1)).2]:=by
 have hln:(A.map canon).length=A.length:=List.length_map _;have hgt:∀i,i<A.length->(A.map canon).getD i (false,[])=canon (cf A i):=λi hi=>by simp[List.getD,hi,cf]
 have en:(A.length:Int)-1=((A.length-1:Nat):Int):=by omega
 refine AC.aF (rs:=[.tmp 4,.tmp 5]) bM Tryz.func97 (by rfl) (by rfl) (by rfl) (by rfl) (by rfl) ?_;simp (disch:=omega) only[wt,seval,reduceCtorEq,Nat.reduceEqDiff,aC,hln,en];refine bF (λf H=>∃(i:Nat),i<=A.length-1/\f 9=.iv (.int .i64 ((i:Int)+1))/\f 6=.iv (.int .i64 ((A.length-1:Nat):Int))/\f 0=.iv (.sl (gZ (A.map canon)))/\f 1=.fn 98 []/\f 7=.iv (.int .i64 (rst A i).1)/\f 8=.iv (.bool (rst A i).2)) (λf H=>(A.length-dQ f 9).toNat) ?_ ?_
 .refine⟨0,by omega,?_⟩;simp (disch:=omega) only[wt,seval,reduceCtorEq,Nat.reduceEqDiff,aC,show rst A 0=(0,false) from rfl,hln,en]
 rintro f H ⟨i,hi,hF⟩;rw[bC hF.1];simp (disch:=omega) only[wt,seval,reduceCtorEq,Nat.reduceEqDiff,aC,hF];have sb:=WB hz i;refine bU (λhlt=>?_) (λhlt=>?_)
 .have hlt':i<A.length-1:=by omega
  have e1:((A.length-1:Nat):Int)-((i:Int)+1)=((A.length-1-(i+1):Nat):Int):=by omega
  have g1:=hgt (A.length-1-(i+1)) (by omega);have g2:=hgt (A.length-1) (by omega);have kb:=a4q (A:=A) (i:=i+1) (by omega) hz;have z:=fM (canon (cf A (A.length-1-(i+1)))) ((aW _).mono (by have:=hz (A.length-1-(i+1));omega));rw[aU]at z;by_cases hc:cf A (A.length-1-(i+1))=0
  .have er:rst A (i+1)=rst A i:=by rw[rst,if_pos hc]
   have hs0:(cf A (A.length-1-(i+1))).sign=0:=by rw[hc];rfl
   rw[hs0]at z;simp (disch:=omega) only[wt,seval,reduceCtorEq,Nat.reduceEqDiff,aC,hF,hln,e1,g1,g2];refine .inl ⟨aZ (by kernel_rfl),?_⟩;refine au (z) (by first|rfl|(simp only[aH,bn,aB,aI,aA,Nat.reduceEqDiff,↓reduceIte,hF,hln,e1,g1,g2];rfl)) (by simp) ?_;simp (disch:=omega) only[wt,seval,reduceCtorEq,Nat.reduceEqDiff,aC,hF,hln,e1,g1,g2]
   first|exact aN (by kernel_rfl)|refine⟨aN (by kernel_rfl),?_⟩
   refine⟨⟨i+1,by omega,?_⟩,by omega⟩;rw[er]
   (repeat' apply And.intro)<;>first|rfl|omega
  .have hs:¬(cf A (A.length-1-(i+1))).sign=0:=λh=>hc (Int.sign_eq_zero_iff_zero.mp h)
   have b1:=Ux (canon (cf A (A.length-1-(i+1)))) (canon (cf A (A.length-1)));have a1:=FV (canon (cf A (A.length-1-(i+1)))) ((aW _).mono (by have:=hz (A.length-1-(i+1));omega));have a2:=FV (canon (cf A (A.length-1))) ((aW _).mono (by have:=hz (A.length-1);omega));rw[aU]at a1 a2;have q1:=hz (A.length-1-(i+1));have q2:=hz (A.length-1);have w1:(wd (cf A (A.length-1-(i+1))).natAbs).length=zl (cf A (A.length-1-(i+1))):=rfl;have w2:(wd (cf A (A.length-1)).natAbs).length=zl (cf A (A.length-1)):=rfl;have h1:=a3q (A:=(cf A (A.length-1-(i+1))).natAbs) (k:=1000) q1;have h2:=a3q (A:=(cf A (A.length-1)).natAbs) (k:=1000) q2;have ra:=Qn (cf A (A.length-1-(i+1))).natAbs (cf A (A.length-1)).natAbs (by omega) (by omega) (by omega) (by omega);have h3:=WA (cf A (A.length-1-(i+1))).natAbs (cf A (A.length-1)).natAbs;have u:=b2p (rto (cf A (A.length-1-(i+1))).natAbs (cf A (A.length-1)).natAbs) ((i:Int)+1) (by omega) (by omega) (by omega) (by omega);have ek:upz (rto (cf A (A.length-1-(i+1))).natAbs (cf A (A.length-1)).natAbs) ((i:Int)+1)+1=rsk A (i+1):=by unfold rsk;rfl
   generalize hk:rsk A (i+1)=k at *;have er:rst A (i+1)=if (rst A i).2=false\/(rst A i).1<k then (k,true) else rst A i:=by rw[rst,if_neg hc,hk]
   generalize rst A i=st at *;obtain⟨e,any⟩:=st;simp (disch:=omega) only[wt,seval,reduceCtorEq,Nat.reduceEqDiff,aC,hF,hln,e1,g1,g2];refine .inl ⟨aZ (by kernel_rfl),?_⟩;refine au (z) (by first|rfl|(simp only[aH,bn,aB,aI,aA,Nat.reduceEqDiff,↓reduceIte,hF,hln,e1,g1,g2,hs];rfl)) (by simp) ?_;simp (disch:=omega) only[wt,seval,reduceCtorEq,Nat.reduceEqDiff,aC,hF,hln,e1,g1,g2,hs];refine au (b1) (by first|rfl|(simp only[aH,bn,aB,aI,aA,Nat.reduceEqDiff,↓reduceIte,hF,hln,e1,g1,g2,hs];rfl)) (by simp) ?_;simp (disch:=omega) only[wt,seval,reduceCtorEq,Nat.reduceEqDiff,aC,hF,hln,e1,g1,g2,hs]
   first|exact aN (by kernel_rfl)|refine⟨aN (by kernel_rfl),?_⟩
   refine .inl ⟨aZ (by kernel_rfl),?_⟩;refine au (a1) (by first|rfl|(simp only[aH,bn,aB,aI,aA,Nat.reduceEqDiff,↓reduceIte,hF,hln,e1,g1,g2,hs];rfl)) (by simp) ?_;simp (disch:=omega) only[wt,seval,reduceCtorEq,Nat.reduceEqDiff,aC,hF,hln,e1,g1,g2,hs];refine au (a2) (by first|rfl|(simp only[aH,bn,aB,aI,aA,Nat.reduceEqDiff,↓reduceIte,hF,hln,e1,g1,g2,hs];rfl)) (by simp) ?_;simp (disch:=omega) only[wt,seval,reduceCtorEq,Nat.reduceEqDiff,aC,hF,hln,e1,g1,g2,hs];refine au (ra) (by first|rfl|(simp only[aH,bn,aB,aI,aA,Nat.reduceEqDiff,↓reduceIte,hF,hln,e1,g1,g2,hs];rfl)) (by simp) ?_;simp (disch:=omega) only[wt,seval,reduceCtorEq,Nat.reduceEqDiff,aC,hF,hln,e1,g1,g2,hs];refine au (u) (by first|rfl|(simp only[aH,bn,aB,aI,aA,Nat.reduceEqDiff,↓reduceIte,hF,hln,e1,g1,g2,hs];rfl)) (by simp) ?_;simp (disch:=omega) only[wt,seval,reduceCtorEq,Nat.reduceEqDiff,aC,hF,hln,e1,g1,g2,hs]
   first|exact aN (by kernel_rfl)|refine⟨aN (by kernel_rfl),?_⟩
   cases any with
   |false =>
    simp (disch:=omega) only[wt,seval,reduceCtorEq,Nat.reduceEqDiff,aC,hF,ek];refine⟨⟨i+1,by omega,?_⟩,by omega⟩;rw[er,if_pos (.inl rfl)]
    (repeat' apply And.intro)<;>first|rfl|omega
   |true =>
    by_cases hlt2:e<k
    .simp (disch:=omega) only[wt,seval,reduceCtorEq,Nat.reduceEqDiff,aC,hF,ek,hlt2];refine⟨⟨i+1,by omega,?_⟩,by omega⟩;rw[er,if_pos (.inr hlt2)]
     (repeat' apply And.intro)<;>first|rfl|omega
    .simp (disch:=omega) only[wt,seval,reduceCtorEq,Nat.reduceEqDiff,aC,hF,ek,hlt2];refine⟨⟨i+1,by omega,?_⟩,by omega⟩;rw[er,if_neg (by simp;omega)]
     (repeat' apply And.intro)<;>first|rfl|omega
 .obtain rfl:i=A.length-1:=by omega
  simp (disch:=omega) only[wt,seval,reduceCtorEq,Nat.reduceEqDiff,aC,hF]
  try rfl
theorem a6g (c:RI)(n:Nat):sg c.1 (nv c.2*2^n)=iv c*2^n:=by
 rw[xI];unfold sg;split
 .rw[Int.neg_mul];push_cast;rfl
 .push_cast;rfl
theorem FQ (a:RI)(n:Nat)(ha:Sz (2^39) a)(hn:n<=1048576):AC Tryz.prog 85 [cr a,ci n] none [cz (iv a*2^n),ci 0]:=by
 refine AC.aF (rs:=[.cell 4 29,.tmp 5]) bM Tryz.func85 (by rfl) (by rfl) (by rfl) (by rfl) (by rfl) ?_;have h1:¬(n:Int)<0:=by omega
 have h2:¬1048576<(n:Int):=by omega
 simp (disch:=omega) only[wt,seval,reduceCtorEq,Nat.reduceEqDiff,aC,h1,h2];refine au ((vN a.2 n ha.2 ha.1 hn)) (by first|rfl|(simp only[aH,bn,aB,aI,aA,Nat.reduceEqDiff,↓reduceIte,h1,h2];rfl)) (by simp) ?_;simp (disch:=omega) only[wt,seval,reduceCtorEq,Nat.reduceEqDiff,aC,h1,h2];have:=mP a.1 (nv a.2*2^n);rw[a6g]at this;refine au (this) (by first|rfl|(simp only[aH,bn,aB,aI,aA,Nat.reduceEqDiff,↓reduceIte,h1,h2];rfl)) (by simp) ?_;simp (disch:=omega) only[wt,seval,reduceCtorEq,Nat.reduceEqDiff,aC,h1,h2]
theorem Vt:(wd 1).length<=1:=by
 show zl ((1:Nat):Int)<=1;exact dR.mpr (by decide)
theorem Uw (p:List RI)(hp:RP 40 1000 p)(h0:tz (pv p)≠0):AC Tryz.prog 68 [cw p] none [ci (rst (aV (pv p)) ((aV (pv p)).length-1)).1,ci 0]:=by
 have nm:=gX p (hp.mono (by omega) (by omega));have hl:=bI (pv p);have t:=VI hp;have hA:cf (aV (pv p)) ((aV (pv p)).length-1)≠0:=by rw[bH,hl];exact dS h0
 have r:=a6l (aV (pv p)) (by omega) (by omega) hA (λk=>by rw[bH];exact JG hp k);have hln:((aV (pv p)).map canon).length=(aV (pv p)).length:=List.length_map _;have n0:¬((aV (pv p)).length:Int)=0:=by omega
 have ecp:cp (pv p)=cw ((aV (pv p)).map canon):=rfl;rw[ecp]at nm;generalize (rst (aV (pv p)) ((aV (pv p)).length-1)).2=b at *;generalize (rst (aV (pv p)) ((aV (pv p)).length-1)).1=e at *;refine AC.aF (rs:=[.tmp 2,.tmp 3]) bM Tryz.func68 (by rfl) (by rfl) (by rfl) (by rfl) (by rfl) ?_;simp (disch:=omega) only[wt,seval,reduceCtorEq,Nat.reduceEqDiff,aC];refine au (nm) (by first|rfl|(simp only[aH,bn,aB,aI,aA,Nat.reduceEqDiff,↓reduceIte,hln,n0];rfl)) (by simp) ?_;simp (disch:=omega) only[wt,seval,reduceCtorEq,Nat.reduceEqDiff,aC,hln,n0];refine au (r) (by first|rfl|(simp only[aH,bn,aB,aI,aA,Nat.reduceEqDiff,↓reduceIte,hln,n0];rfl)) (by simp) ?_;simp (disch:=omega) only[wt,seval,reduceCtorEq,Nat.reduceEqDiff,aC,hln,n0]
 try rfl
theorem DC {A:List Int}(h0:A.length≠0)(hA:cf A (A.length-1)≠0){x:Rat}(hx:er A x=0):¬Big (p2 (rst A (A.length-1)).1) x:=by
 intro hb;generalize hE:(rst A (A.length-1)).1=e at *;have hR:=xg (e-1);have e2:p2 e=2*p2 (e-1):=by rw[show e=1+(e-1) by omega,xk,show 1+(e-1)-1=e-1 by omega];rfl
 rw[e2]at hb;have hL:(0:Rat)<((cf A (A.length-1)).natAbs:Rat):=by
  have:0<(cf A (A.length-1)).natAbs:=by omega
  exact_mod_cast this
 have b3S:∀c:Int,-((c.natAbs:Nat):Rat)<=(c:Rat)/\(c:Rat)<=((c.natAbs:Nat):Rat)/\((c:Rat)=((c.natAbs:Nat):Rat)\/(c:Rat) = -((c.natAbs:Nat):Rat)):=λc=>by
  have h0:(0:Rat)<=((c.natAbs:Nat):Rat):=Rat.natCast_nonneg;rcases Int.natAbs_eq c with h|h
  .have:(c:Rat)=((c.natAbs:Nat):Rat):=by
    have:=congrArg (λz:Int=>(z:Rat)) h;simpa [Rat.intCast_natCast] using this
   refine⟨by grind,by grind,.inl this⟩
  .have:(c:Rat) = -((c.natAbs:Nat):Rat):=by
    have:=congrArg (λz:Int=>(z:Rat)) h;simpa [Rat.intCast_natCast,Rat.intCast_neg] using this
   refine⟨by grind,by grind,.inr this⟩
 have big:=Qe (L:=((cf A (A.length-1)).natAbs:Rat)) (R:=p2 (e-1)) hL hR hb A (λh=>h0 (by rw[h];rfl)) (by
  rcases (b3S (cf A (A.length-1))).2.2 with h|h
  .left;rw[h];exact Rat.le_refl
  .right;rw[h];exact Rat.le_refl) λj hj=>by
   by_cases hc:cf A j=0
   .left
    intro hB;have hp:=Rat.mul_pos hL (Rat.pow_pos (n:=A.length-1-j) hR);rw[hc]at hB;have z:((0:Int):Rat)=0:=rfl;rw[z]at hB;rcases hB with h|h<;>grind
   .have hm:A.length-1-(A.length-1-j)=j:=by omega
    have r1:=(a4p A (A.length-1) (A.length-1-j) (by omega) (by omega) (by rw[hm];exact hc)).2;rw[hE,rsk,hm]at r1;have r2:=a9T (A:=(cf A j).natAbs) (B:=(cf A (A.length-1)).natAbs) (by omega);have r3:=a9A (k:=rto (cf A j).natAbs (cf A (A.length-1)).natAbs) (i:=((A.length-1-j:Nat):Int)) (by omega);have r4:p2 (rto (cf A j).natAbs (cf A (A.length-1)).natAbs)<=p2 (e-1)^(A.length-1-j):=by
     rw[a4x];refine Rat.le_trans (Xw r3) (Xw ?_);rw[Int.mul_comm];exact Int.mul_le_mul_of_nonneg_right (by omega) (by omega)
    have r5:((cf A j).natAbs:Rat)<=((cf A (A.length-1)).natAbs:Rat)*p2 (e-1)^(A.length-1-j):=by
     have:=Rat.mul_nonneg (Rat.le_of_lt hL) (show 0<=p2 (e-1)^(A.length-1-j)-p2 (rto (cf A j).natAbs (cf A (A.length-1)).natAbs) by grind)
     grind
    have b:=b3S (cf A j);generalize ((cf A (A.length-1)).natAbs:Rat)*p2 (e-1)^(A.length-1-j)=T at *;by_cases h1:(cf A j:Rat)=T
    .exact .inr (.inl h1)
    .by_cases h2:(cf A j:Rat) = -T
     .exact .inr (.inr h2)
     .left
      intro hB;rcases hB with h|h<;>grind
 rw[hx]at big;have hp:=Rat.mul_pos hL (Rat.pow_pos (n:=A.length-1) hR);rcases big with h|h<;>grind
def Fq (k:Int)(c:Int×Bool):List IV:=[.bool (canon c.1).1,.sl (dJ (canon c.1).2),.int .i64 k,.bool c.2]
abbrev ccl (k:Int)(c:Int×Bool):CV:=.agg (Fq k c)
def jg (k:Int)(l:List (Int×Bool)):List (List IV):=l.map (Fq k)
theorem fQ (k:Int)(c:Int×Bool):(Fq k c).length=4:=rfl
theorem a8c (k:Int)(c:Int×Bool):(Fq k c).getD 2 default=.int .i64 k:=rfl
theorem a8b (k:Int)(c:Int×Bool):(Fq k c).getD 3 default=.bool c.2:=rfl
theorem a3f (k:Int)(c:Int×Bool)(h0:0<=k)(h1:k<=1048576):AC Tryz.prog 53 [ccl k c] none [ci 0]:=by
 have n0:¬k<0:=by omega
 have n1:¬1048576<k:=by omega
 show AC Tryz.prog 53 [.agg [.bool (canon c.1).1,.sl (dJ (canon c.1).2),.int .i64 k,.bool c.2]] none [ci 0];refine AC.aF (rs:=[.tmp 2]) bM Tryz.func53 (by rfl) (by rfl) (by rfl) (by rfl) (by rfl) ?_;simp (disch:=omega) only[wt,seval,reduceCtorEq,Nat.reduceEqDiff,aj,n0,n1]
theorem Qp (z:Int)(hz:zl z<=2^38):AC Tryz.prog 116 [cz z,ci 0] none [cz z]:=by
 have s:=FQ (canon z) 0 ((aW z).mono (by omega)) (by omega);rw[aU,Int.pow_zero,Int.mul_one]at s;refine AC.aF (rs:=[.cell 4 29]) bM Tryz.func116 (by rfl) (by rfl) (by rfl) (by rfl) (by rfl) ?_;simp (disch:=omega) only[wt,seval,reduceCtorEq,Nat.reduceEqDiff,aj];refine au (s) (by rfl) (by simp) ?_;simp (disch:=omega) only[wt,seval,reduceCtorEq,Nat.reduceEqDiff,aj]
 try rfl
def chi (c:Int×Bool):Int:=if c.2 then c.1 else c.1+1
theorem Wj (k:Int)(c:Int×Bool)(h0:0<=k)(h1:k<=1048576)(hz:zl c.1<=2^36)(hz1:zl (c.1+1)<=2^38):AC Tryz.prog 87 [ccl k c,ci k] none [cz c.1,cz (chi c)]:=by
 obtain⟨z,b⟩:=c;simp only at hz hz1;have r:=Qp z (by omega);have o:=iJ 1 (by omega) (by omega);have a:=rP (canon z) (canon 1) ((aW z).mono (by omega)) ((aW 1).mono (by have:zl 1<=1:=dR.mpr (by decide);omega));rw[aU,aU]at a;have r1:=Qp (z+1) hz1;have kk:k-k=0:=by omega
 show AC Tryz.prog 87 [.agg [.bool (canon z).1,.sl (dJ (canon z).2),.int .i64 k,.bool b],ci k] none [cz z,cz (chi (z,b))];cases b with
 |true =>
  show AC Tryz.prog 87 [.agg [.bool (canon z).1,.sl (dJ (canon z).2),.int .i64 k,.bool true],ci k] none [cz z,cz z];refine AC.aF (rs:=[.cell 4 29,.cell 5 29]) bM Tryz.func87 (by rfl) (by rfl) (by rfl) (by rfl) (by rfl) ?_;simp (disch:=omega) only[wt,seval,reduceCtorEq,Nat.reduceEqDiff,aj,kk];refine au (r) (by first|rfl|(simp only[aH,bn,aB,aI,aA,Nat.reduceEqDiff,↓reduceIte,kk];rfl)) (by simp) ?_;simp (disch:=omega) only[wt,seval,reduceCtorEq,Nat.reduceEqDiff,aj,kk];refine .inl ⟨aZ (by kernel_rfl),?_⟩
  first|exact aN (by kernel_rfl)|refine⟨aN (by kernel_rfl),?_⟩
  try rfl
 |false =>
  show AC Tryz.prog 87 [.agg [.bool (canon z).1,.sl (dJ (canon z).2),.int .i64 k,.bool false],ci k] none [cz z,cz (z+1)];refine AC.aF (rs:=[.cell 4 29,.cell 5 29]) bM Tryz.func87 (by rfl) (by rfl) (by rfl) (by rfl) (by rfl) ?_;simp (disch:=omega) only[wt,seval,reduceCtorEq,Nat.reduceEqDiff,aj,kk];refine au (r) (by first|rfl|(simp only[aH,bn,aB,aI,aA,Nat.reduceEqDiff,↓reduceIte,kk];rfl)) (by simp) ?_;simp (disch:=omega) only[wt,seval,reduceCtorEq,Nat.reduceEqDiff,aj,kk];refine .inl ⟨aZ (by kernel_rfl),?_⟩;refine au (o) (by first|rfl|(simp only[aH,bn,aB,aI,aA,Nat.reduceEqDiff,↓reduceIte,kk];rfl)) (by simp) ?_;simp (disch:=omega) only[wt,seval,reduceCtorEq,Nat.reduceEqDiff,aj,kk];refine au (a) (by first|rfl|(simp only[aH,bn,aB,aI,aA,Nat.reduceEqDiff,↓reduceIte,kk];rfl)) (by simp) ?_;simp (disch:=omega) only[wt,seval,reduceCtorEq,Nat.reduceEqDiff,aj,kk];refine au (r1) (by first|rfl|(simp only[aH,bn,aB,aI,aA,Nat.reduceEqDiff,↓reduceIte,kk];rfl)) (by simp) ?_;simp (disch:=omega) only[wt,seval,reduceCtorEq,Nat.reduceEqDiff,aj,kk]
  first|exact aN (by kernel_rfl)|refine⟨aN (by kernel_rfl),?_⟩
  try rfl
theorem zu (x y:Int):(x<y/\Dx x y = -1)\/(x=y/\Dx x y=0)\/(y<x/\Dx x y=1):=by
 unfold Dx;split
 .exact .inl ⟨‹_›,rfl⟩
 .split
  .exact .inr (.inr ⟨‹_›,rfl⟩)
  .exact .inr (.inl ⟨by omega,rfl⟩)
def a8Q (c:Int×Bool):Prop:=zl c.1<=2^36/\zl (c.1+1)<=2^38
theorem a5e {c:Int×Bool}(h:a8Q c):zl (chi c)<=2^38:=by
 have h1:=h.1;have h2:=h.2;unfold chi;split<;>omega
def a8e (x y:Int)(pa pb:Bool):Int×Bool:=(if x<0\/(x=0/\(!pa || !pb)=true) then -1 else if 0<y\/(y=0/\(!pa || !pb)=true) then 1 else 0,decide (0<=x) && decide (y<=0))
theorem a2Z (k za zb ah bh y:Int)(pa pb:Bool)(sa:AC Tryz.prog 87 [ccl k (za,pa),ci k] none [cz za,cz ah])(sb:AC Tryz.prog 87 [ccl k (zb,pb),ci k] none [cz zb,cz bh])
  (c1:AC Tryz.prog 56 [cz ah,cz zb] none [ci (-1)]) (c2:AC Tryz.prog 56 [cz za,cz bh] none [ci y]):AC Tryz.prog 58 [ccl k (za,pa),ccl k (zb,pb)] none [ci (-1),cb false]:=by
 have mk:max k k=k:=by omega
 simp only[ccl,Fq]at *;cases pa
 all_goals
  refine AC.aF (rs:=[.tmp 4,.tmp 5]) bM Tryz.func58 (by rfl) (by rfl) (by rfl) (by rfl) (by rfl) ?_;simp (disch:=omega) only[wt,seval,reduceCtorEq,Nat.reduceEqDiff,aj,mk];refine au (sa) (by first|rfl|(simp only[aH,bn,aB,aI,aA,Nat.reduceEqDiff,↓reduceIte,mk];rfl)) (by simp) ?_;simp (disch:=omega) only[wt,seval,reduceCtorEq,Nat.reduceEqDiff,aj,mk];refine au (sb) (by first|rfl|(simp only[aH,bn,aB,aI,aA,Nat.reduceEqDiff,↓reduceIte,mk];rfl)) (by simp) ?_;simp (disch:=omega) only[wt,seval,reduceCtorEq,Nat.reduceEqDiff,aj,mk];refine .inl ⟨aZ (by kernel_rfl),?_⟩;refine au (c1) (by first|rfl|(simp only[aH,bn,aB,aI,aA,Nat.reduceEqDiff,↓reduceIte,mk];rfl)) (by simp) ?_;simp (disch:=omega) only[wt,seval,reduceCtorEq,Nat.reduceEqDiff,aj,mk];refine au (c2) (by first|rfl|(simp only[aH,bn,aB,aI,aA,Nat.reduceEqDiff,↓reduceIte,mk];rfl)) (by simp) ?_;simp (disch:=omega) only[wt,seval,reduceCtorEq,Nat.reduceEqDiff,aj,mk]
  first|exact aN (by kernel_rfl)|refine⟨aN (by kernel_rfl),?_⟩
  first|done|exact⟨rfl,rfl⟩|decide|rfl
set_option maxHeartbeats 1000000 in
theorem Zb (k za zb ah bh y:Int)(pa pb:Bool)(hy:y = -1\/y=0\/y=1)(sa:AC Tryz.prog 87 [ccl k (za,pa),ci k] none [cz za,cz ah])(sb:AC Tryz.prog 87 [ccl k (zb,pb),ci k] none [cz zb,cz bh])
  (c1:AC Tryz.prog 56 [cz ah,cz zb] none [ci 0]) (c2:AC Tryz.prog 56 [cz za,cz bh] none [ci y]):AC Tryz.prog 58 [ccl k (za,pa),ccl k (zb,pb)] none [ci (a8e 0 y pa pb).1,cb (a8e 0 y pa pb).2]:=by
 have mk:max k k=k:=by omega
 simp only[ccl,Fq]at *;rcases hy with rfl|rfl|rfl<;>cases pa<;>cases pb
 all_goals
  refine AC.aF (rs:=[.tmp 4,.tmp 5]) bM Tryz.func58 (by rfl) (by rfl) (by rfl) (by rfl) (by rfl) ?_;simp (disch:=omega) only[wt,seval,reduceCtorEq,Nat.reduceEqDiff,aj,mk];refine au (sa) (by first|rfl|(simp only[aH,bn,aB,aI,aA,Nat.reduceEqDiff,↓reduceIte,mk];rfl)) (by simp) ?_;simp (disch:=omega) only[wt,seval,reduceCtorEq,Nat.reduceEqDiff,aj,mk];refine au (sb) (by first|rfl|(simp only[aH,bn,aB,aI,aA,Nat.reduceEqDiff,↓reduceIte,mk];rfl)) (by simp) ?_;simp (disch:=omega) only[wt,seval,reduceCtorEq,Nat.reduceEqDiff,aj,mk];refine .inl ⟨aZ (by kernel_rfl),?_⟩;refine au (c1) (by first|rfl|(simp only[aH,bn,aB,aI,aA,Nat.reduceEqDiff,↓reduceIte,mk];rfl)) (by simp) ?_;simp (disch:=omega) only[wt,seval,reduceCtorEq,Nat.reduceEqDiff,aj,mk];refine au (c2) (by first|rfl|(simp only[aH,bn,aB,aI,aA,Nat.reduceEqDiff,↓reduceIte,mk];rfl)) (by simp) ?_;simp (disch:=omega) only[wt,seval,reduceCtorEq,Nat.reduceEqDiff,aj,mk]
  first|exact aN (by kernel_rfl)|refine⟨aN (by kernel_rfl),?_⟩
  first|done|exact⟨rfl,rfl⟩|decide|rfl
set_option maxHeartbeats 1000000 in
theorem Zc (k za zb ah bh y:Int)(pa pb:Bool)(hy:y = -1\/y=0\/y=1)(sa:AC Tryz.prog 87 [ccl k (za,pa),ci k] none [cz za,cz ah])(sb:AC Tryz.prog 87 [ccl k (zb,pb),ci k] none [cz zb,cz bh])
  (c1:AC Tryz.prog 56 [cz ah,cz zb] none [ci 1]) (c2:AC Tryz.prog 56 [cz za,cz bh] none [ci y]):AC Tryz.prog 58 [ccl k (za,pa),ccl k (zb,pb)] none [ci (a8e 1 y pa pb).1,cb (a8e 1 y pa pb).2]:=by
 have mk:max k k=k:=by omega
 simp only[ccl,Fq]at *;rcases hy with rfl|rfl|rfl<;>cases pa<;>cases pb
 all_goals
  refine AC.aF (rs:=[.tmp 4,.tmp 5]) bM Tryz.func58 (by rfl) (by rfl) (by rfl) (by rfl) (by rfl) ?_;simp (disch:=omega) only[wt,seval,reduceCtorEq,Nat.reduceEqDiff,aj,mk];refine au (sa) (by first|rfl|(simp only[aH,bn,aB,aI,aA,Nat.reduceEqDiff,↓reduceIte,mk];rfl)) (by simp) ?_;simp (disch:=omega) only[wt,seval,reduceCtorEq,Nat.reduceEqDiff,aj,mk];refine au (sb) (by first|rfl|(simp only[aH,bn,aB,aI,aA,Nat.reduceEqDiff,↓reduceIte,mk];rfl)) (by simp) ?_;simp (disch:=omega) only[wt,seval,reduceCtorEq,Nat.reduceEqDiff,aj,mk];refine .inl ⟨aZ (by kernel_rfl),?_⟩;refine au (c1) (by first|rfl|(simp only[aH,bn,aB,aI,aA,Nat.reduceEqDiff,↓reduceIte,mk];rfl)) (by simp) ?_;simp (disch:=omega) only[wt,seval,reduceCtorEq,Nat.reduceEqDiff,aj,mk];refine au (c2) (by first|rfl|(simp only[aH,bn,aB,aI,aA,Nat.reduceEqDiff,↓reduceIte,mk];rfl)) (by simp) ?_;simp (disch:=omega) only[wt,seval,reduceCtorEq,Nat.reduceEqDiff,aj,mk]
  first|exact aN (by kernel_rfl)|refine⟨aN (by kernel_rfl),?_⟩
  first|done|exact⟨rfl,rfl⟩|decide|rfl
theorem Iy (x y:Int)(pa pb:Bool) : -1<=(a8e x y pa pb).1/\(a8e x y pa pb).1<=1:=by
 unfold a8e;simp only;split
 .omega
 .split<;>omega
theorem Um (k:Int)(a b:Int×Bool)(h0:0<=k)(h1:k<=1048576)(ha:a8Q a)(hb:a8Q b):∃(r:Int×Bool),AC Tryz.prog 58 [ccl k a,ccl k b] none [ci r.1,cb r.2]/\(chi a<b.1->r=(-1,false))/\-1<=r.1/\r.1<=1:=by
 have sa:=Wj k a h0 h1 ha.1 ha.2;have sb:=Wj k b h0 h1 hb.1 hb.2;have c1:=FU (canon (chi a)) (canon b.1) ((aW _).mono (by have:=a5e ha;omega)) ((aW _).mono (by have:=hb.1;omega));have c2:=FU (canon a.1) (canon (chi b)) ((aW _).mono (by have:=ha.1;omega)) ((aW _).mono (by have:=a5e hb;omega));rw[aU,aU]at c1 c2;have hy:Dx a.1 (chi b) = -1\/Dx a.1 (chi b)=0\/Dx a.1 (chi b)=1:=by
  rcases zu a.1 (chi b) with ⟨_,h⟩|⟨_,h⟩|⟨_,h⟩<;>omega
 rcases zu (chi a) b.1 with ⟨g1,e⟩|⟨g1,e⟩|⟨g1,e⟩<;>rw[e]at c1
 .exact⟨(-1,false),a2Z k a.1 b.1 _ _ _ a.2 b.2 sa sb c1 c2,λ_=>rfl,by decide,by decide⟩
 .exact⟨_,Zb k a.1 b.1 _ _ _ a.2 b.2 hy sa sb c1 c2,λh=>by omega,(Iy _ _ _ _).1,(Iy _ _ _ _).2⟩
 .exact⟨_,Zc k a.1 b.1 _ _ _ a.2 b.2 hy sa sb c1 c2,λh=>by omega,(Iy _ _ _ _).1,(Iy _ _ _ _).2⟩
theorem tZ (k:Int)(l:List (Int×Bool)):(jg k l).length=l.length:=by simp[jg]
theorem xU {k:Int}{l:List (Int×Bool)}{i:Nat}(h:i<l.length):(jg k l).getD i []=Fq k (l.getD i (0,false)):=by simp[jg,List.getD,h]
theorem fD (k:Int)(l:List (Int×Bool)):(∀r∈jg k l,r.length=4)↔True:=⟨λ_=>trivial,λ_ r hr=>by obtain⟨c,_,rfl⟩:=List.mem_map.1 hr;rfl⟩
theorem fH (k:Int)(c:Int×Bool):(Fq k c).take 4=Fq k c:=rfl
theorem iL (a b d e:IV)(k:Int)(c:Int×Bool):splice [a,b,d,e] 0 (Fq k c)=Fq k c:=rfl
theorem Un (k:Int)(l:List (Int×Bool))(h0:0<=k)(h1:k<=1048576)(hl:l.length<=2^40):AC Tryz.prog 57 [.iv (.sl (jg k l))] none [ci 0]:=by
 have hcl:=tZ k l;refine AC.aF (rs:=[.tmp 2]) bM Tryz.func57 (by rfl) (by rfl) (by rfl) (by rfl) (by rfl) ?_;simp (disch:=omega) only[wt,seval,reduceCtorEq,Nat.reduceEqDiff,aj,hcl];refine bF (λf H=>∃(i:Nat),i<=l.length/\f 8=.iv (.int .i64 i)/\f 7=.iv (.int .i64 l.length)/\f 6=.iv (.sl (jg k l))) (λf H=>(l.length-dQ f 8).toNat) ?_ ?_
 .refine⟨0,by omega,?_⟩;simp (disch:=omega) only[wt,seval,reduceCtorEq,Nat.reduceEqDiff,aj,hcl]
 rintro f H ⟨i,hi,hF⟩;rw[bC hF.1];simp (disch:=omega) only[wt,seval,reduceCtorEq,Nat.reduceEqDiff,aj,hF];refine bU (λhlt=>?_) (λhlt=>?_)
 .have hlt':i<l.length:=by omega
  have hg:=xU (k:=k) hlt';have c:=a3f k (l.getD i (0,false)) h0 h1;simp only[ccl]at c;generalize l.getD i (0,false)=x at *;simp (disch:=omega) only[wt,seval,reduceCtorEq,Nat.reduceEqDiff,aj,hF,hcl,hg,fQ,fH,iL,fD];refine au (c) (by first|rfl|(simp only[aH,bn,aB,aI,aA,Nat.reduceEqDiff,↓reduceIte,hF,hcl,hg,fQ,fH,iL,fD];rfl)) (by simp) ?_;simp (disch:=omega) only[wt,seval,reduceCtorEq,Nat.reduceEqDiff,aj,hF,hcl,hg,fQ,fH,iL,fD];refine⟨⟨i+1,by omega,?_⟩,by omega⟩
  (repeat' apply And.intro)<;>first|rfl|omega
 .simp (disch:=omega) only[wt,seval,reduceCtorEq,Nat.reduceEqDiff,aj,hF]
  try rfl
theorem Lr (k:Int)(l:List (Int×Bool))(h0:0<=k)(h1:k<=1048576)(hl:l.length<=2^40)(hz:∀c∈l,a8Q c):∃b:Bool,AC Tryz.prog 32 [.iv (.sl (jg k l))] none [cb b,ci 0] /\
  ((∀i,i+1<l.length->chi (l.getD i (0,false))<(l.getD (i+1) (0,false)).1)->b=true):=by
 have hcl:=tZ k l;have ch:=Un k l h0 h1 hl;have cp:∀i,∃r:Int×Bool,i+1<l.length->AC Tryz.prog 58 [ccl k (l.getD i (0,false)),ccl k (l.getD (i+1) (0,false))] none [ci r.1,cb r.2]/\(chi (l.getD i (0,false))<(l.getD (i+1) (0,false)).1->r=(-1,false))/\-1<=r.1/\r.1<=1:=λi=>by
  by_cases hi:i+1<l.length
  .have m1:l.getD i (0,false)∈l:=by
    rw[show l.getD i (0,false)=l[i] by simp[List.getD,show i<l.length by omega]];exact List.getElem_mem _
   have m2:l.getD (i+1) (0,false)∈l:=by
    rw[show l.getD (i+1) (0,false)=l[i+1] by simp[List.getD,hi]];exact List.getElem_mem _
   obtain⟨r,hr⟩:=Um k _ _ h0 h1 (hz _ m1) (hz _ m2);exact⟨r,λ_=>hr⟩
  .exact⟨(0,false),λh=>(hi h).elim⟩
 obtain⟨R,hR⟩:=Classical.skolem.1 cp;obtain⟨b,hb⟩:∃b:Bool,b=true↔∀i,i+1<l.length->R i=(-1,false):=by
  by_cases h:∀i,i+1<l.length->R i=(-1,false)
  .exact⟨true,⟨λ_=>h,λ_=>rfl⟩⟩
  .exact⟨false,⟨λe=>(Bool.noConfusion e),λe=>(h e).elim⟩⟩
 refine⟨b,?_,λhall=>hb.2 λi hi=>(hR i hi).2.1 (hall i hi)⟩;refine AC.aF (rs:=[.tmp 2,.tmp 3]) bM Tryz.func32 (by rfl) (by rfl) (by rfl) (by rfl) (by rfl) ?_;simp (disch:=omega) only[wt,seval,reduceCtorEq,Nat.reduceEqDiff,aj,hcl];refine au (ch) (by first|rfl|(simp only[aH,bn,aB,aI,aA,Nat.reduceEqDiff,↓reduceIte,hcl];rfl)) (by simp) ?_;simp (disch:=omega) only[wt,seval,reduceCtorEq,Nat.reduceEqDiff,aj,hcl];refine bF (λf H=>∃(i:Nat),1<=i/\(l.length=0\/i<=l.length)/\(∀j,j+1<i->R j=(-1,false))/\f 5=.iv (.int .i64 i)/\f 0=.iv (.sl (jg k l))) (λf H=>(l.length-dQ f 5).toNat) ?_ ?_
 .refine⟨1,by omega,by omega,λj hj=>by omega,?_⟩;simp (disch:=omega) only[wt,seval,reduceCtorEq,Nat.reduceEqDiff,aj,hcl]
 rintro f H ⟨i,hi1,hi,hz',hF⟩;rw[bC hF.1];simp (disch:=omega) only[wt,seval,reduceCtorEq,Nat.reduceEqDiff,aj,hF];simp (disch:=omega) only[wt,seval,reduceCtorEq,Nat.reduceEqDiff,aj,hcl];refine bU (λhlt=>?_) (λhlt=>?_)
 .have hlt':i<l.length:=by omega
  obtain⟨j,rfl⟩:∃j,i=j+1:=⟨i-1,by omega⟩;have hg1:=xU (k:=k) (l:=l) (i:=j) (by omega);have hg2:=xU (k:=k) hlt';obtain⟨c,-,c2,c3⟩:=hR j hlt';have ej:((j+1:Nat):Int)-1=(j:Int):=by omega
  simp only[ccl]at c;generalize l.getD j (0,false)=x at *;generalize l.getD (j+1) (0,false)=y at *;by_cases hr:R j=(-1,false)
  .rw[hr]at c;simp only at c;simp (disch:=omega) only[wt,seval,reduceCtorEq,Nat.reduceEqDiff,aj,hF,hcl,hg1,hg2,fQ,fH,iL,fD,ej];refine .inl ⟨aZ (by kernel_rfl),?_⟩;refine au (c) (by first|rfl|(simp only[aH,bn,aB,aI,aA,Nat.reduceEqDiff,↓reduceIte,hF,hcl,hg1,hg2,fQ,fH,iL,fD,ej];rfl)) (by simp) ?_;simp (disch:=omega) only[wt,seval,reduceCtorEq,Nat.reduceEqDiff,aj,hF,hcl,hg1,hg2,fQ,fH,iL,fD,ej]
   first|exact aN (by kernel_rfl)|refine⟨aN (by kernel_rfl),?_⟩
   refine⟨⟨j+1+1,by omega,by omega,λm hm=>?_,?_⟩,by omega⟩
   .by_cases h:m=j
    .rw[h];exact hr
    .exact hz' m (by omega)
   ·(repeat' apply And.intro)<;>first|rfl|omega
  .have e:b=false:=by cases b with|false=>rfl|true=>exact(hr (hb.1 rfl j hlt')).elim
   rw[e];generalize R j=r at *;obtain⟨u,m⟩:=r;simp only at c c2 c3;by_cases hu:u = -1
   .subst hu;have hm:m=true:=by cases m with|true=>rfl|false=>exact(hr rfl).elim
    subst hm;simp (disch:=omega) only[wt,seval,reduceCtorEq,Nat.reduceEqDiff,aj,hF,hcl,hg1,hg2,fQ,fH,iL,fD,ej];refine .inl ⟨aZ (by kernel_rfl),?_⟩;refine au (c) (by first|rfl|(simp only[aH,bn,aB,aI,aA,Nat.reduceEqDiff,↓reduceIte,hF,hcl,hg1,hg2,fQ,fH,iL,fD,ej];rfl)) (by simp) ?_;simp (disch:=omega) only[wt,seval,reduceCtorEq,Nat.reduceEqDiff,aj,hF,hcl,hg1,hg2,fQ,fH,iL,fD,ej]
    first|exact aN (by kernel_rfl)|refine⟨aN (by kernel_rfl),?_⟩
    try rfl
   .simp (disch:=omega) only[wt,seval,reduceCtorEq,Nat.reduceEqDiff,aj,hF,hcl,hg1,hg2,fQ,fH,iL,fD,ej];refine .inl ⟨aZ (by kernel_rfl),?_⟩;refine au (c) (by first|rfl|(simp only[aH,bn,aB,aI,aA,Nat.reduceEqDiff,↓reduceIte,hF,hcl,hg1,hg2,fQ,fH,iL,fD,ej,hu];rfl)) (by simp) ?_;simp (disch:=omega) only[wt,seval,reduceCtorEq,Nat.reduceEqDiff,aj,hF,hcl,hg1,hg2,fQ,fH,iL,fD,ej,hu]
    first|exact aN (by kernel_rfl)|refine⟨aN (by kernel_rfl),?_⟩
    try rfl
 .have e:b=true:=hb.2 λj hj=>hz' j (by omega)
  rw[e];simp (disch:=omega) only[wt,seval,reduceCtorEq,Nat.reduceEqDiff,aj,hF]
  try rfl
theorem tK {z d q:Int}(hd:0<d)(h1:q*d<=z)(h2:z<(q+1)*d):z/d=q:=by
 have a:=(Int.le_ediv_iff_mul_le hd).2 h1;have b:=(Int.ediv_lt_iff_lt_mul hd).2 h2;omega
theorem a0y (z:Int)(hz:zl z<=2^40):AC Tryz.prog 50 [cz z] none [ci (bl z.natAbs)]:=by
 have b:=uK (wd z.natAbs) (bY _) (by have:zl z=(wd z.natAbs).length:=rfl;omega);rw[dU]at b;show AC Tryz.prog 50 [.agg [.bool (canon z).1,.sl (dJ (wd z.natAbs))]] none [ci (bl z.natAbs)];refine AC.aF (rs:=[.tmp 2]) bM Tryz.func50 (by rfl) (by rfl) (by rfl) (by rfl) (by rfl) ?_;simp (disch:=omega) only[wt,seval,reduceCtorEq,Nat.reduceEqDiff,aj];refine au (b) (by rfl) (by simp) ?_;simp (disch:=omega) only[wt,seval,reduceCtorEq,Nat.reduceEqDiff,aj]
 try rfl
theorem a6e (z:Int)(u m:Nat)(hm:m=min u (bl z.natAbs+1)):(0<=z->((z.natAbs/2^m:Nat):Int)=z/2^u)/\(z<0->2^m∣z.natAbs->-((z.natAbs/2^m:Nat):Int)=z/2^u)/\(z<0->¬2^m∣z.natAbs->-((z.natAbs/2^m+1:Nat):Int)=z/2^u):=by
 have hN:z.natAbs<2^bl z.natAbs:=qU.1 (Nat.le_refl _);have hp:(0:Int)<2^u:=Int.pow_pos (by decide);have hp':0<2^u:=Nat.pow_pos (n:=u) (show 0<2 by omega);have cast:((2^u:Nat):Int)=(2:Int)^u:=by push_cast;rfl
 generalize hNN:z.natAbs=N at *;by_cases hu:u<=bl N+1
 .have e:m=u:=by omega
  subst e;have h1:=Nat.div_add_mod N (2^m);have h2:=Nat.mod_lt N hp';have cN:((2^m*(N/2^m)+N%2^m:Nat):Int)=N:=by exact_mod_cast h1
  rw[Int.natCast_add,Int.natCast_mul,cast]at cN;have c2:((N%2^m:Nat):Int)<2^m:=by rw[<-cast];exact_mod_cast h2
  refine⟨λh=>?_,λh hd=>?_,λh hd=>?_⟩
  .refine(tK hp ?_ ?_).symm
   .rw[Int.mul_comm];omega
   .rw[Int.add_mul,Int.mul_comm,Int.one_mul];omega
  .have h0:N%2^m=0:=Nat.mod_eq_zero_of_dvd hd;rw[h0]at cN;refine(tK hp ?_ ?_).symm
   .rw[Int.neg_mul,Int.mul_comm];omega
   .rw[Int.add_mul,Int.neg_mul,Int.mul_comm,Int.one_mul];omega
  .have h0:N%2^m≠0:=λe=>hd (Nat.dvd_of_mod_eq_zero e)
   refine(tK hp ?_ ?_).symm
   .rw[Int.neg_mul,Int.natCast_add,Int.add_mul,Int.mul_comm];omega
   .rw[Int.add_mul,Int.neg_mul,Int.natCast_add,Int.add_mul,Int.mul_comm,Int.one_mul];omega
 .have e:m=bl N+1:=by omega
  subst e;have hlt:N<2^(bl N+1):=Nat.lt_of_lt_of_le hN (Nat.pow_le_pow_right (by omega) (by omega));have hlu:N<2^u:=Nat.lt_of_lt_of_le hN (Nat.pow_le_pow_right (by omega) (by omega));have d0:N/2^(bl N+1)=0:=Nat.div_eq_of_lt hlt;have cu:(N:Int)<2^u:=by rw[<-cast];exact_mod_cast hlu
  rw[d0];refine⟨λh=>?_,λh hd=>?_,λh hd=>?_⟩
  .exact(tK hp (by omega) (by omega)).symm
  .have:=Nat.eq_zero_of_dvd_of_lt hd hlt;omega
  .refine(tK hp ?_ ?_).symm
   .have:(-((0+1:Nat):Int)) = -1:=rfl;rw[this];omega
   .have:(-((0+1:Nat):Int))+1=0:=rfl;rw[this];omega
theorem a5G (z:Int)(u:Nat)(hz:zl z<=2^30)(hu:u<=2^30):ACG Tryz.prog yH 106 [cz z,ci u] [cz (z/2^u),ci 0]:=by
 have hbl:bl z.natAbs<=64*2^30:=by
  have h2:z.natAbs<W^zl z:=dR.mp (Nat.le_refl _);rw[Ea]at h2;have h3:64*zl z<=64*2^30:=by omega
  revert h3
  generalize 64*2^30=X;intro h3;exact qU.2 (Nat.lt_of_lt_of_le h2 (Nat.pow_le_pow_right (by omega) h3))
 have hw:(wd z.natAbs).length<=2^30:=hz;obtain⟨m,hm⟩:∃m,m=min u (bl z.natAbs+1):=⟨_,rfl⟩;have em:min (u:Int) ((bl z.natAbs:Int)+1)=m:=by omega
 obtain⟨v1,v2,v3⟩:=a6e z u m hm;have b:=a0y z (by omega);have s:=XF (wd z.natAbs) m (bY _) (by omega) (by omega);rw[dU]at s;have hs:=fM (canon z) ((aW z).mono (by omega));rw[aU]at hs;have t:=(VP (wd z.natAbs) (bY _) (by omega));have n0:¬(u:Int)<0:=by omega
 have lN:=bY z.natAbs;generalize hq:z/2^u=q at *;have zd:=a4a (l:=wd z.natAbs) lN;rw[dU]at zd;show ACG Tryz.prog yH 106 [.agg [.bool (canon z).1,.sl (dJ (wd z.natAbs))],ci u] [cz q,ci 0];have ecz:cz z=.agg [.bool (canon z).1,.sl (dJ (wd z.natAbs))]:=rfl;have ecr:cr (canon z)=.agg [.bool (canon z).1,.sl (dJ (wd z.natAbs))]:=rfl;rw[ecz]at b;rw[ecr]at hs;by_cases hneg:z<0
 .have hc:(canon z).1=true:=by simp[canon,hneg]
  have es:z.sign = -1:=Int.sign_eq_neg_one_of_neg hneg;have hN:z.natAbs≠0:=by omega
  rw[es,hc]at hs;rw[hc]at b ⊢;by_cases hd:2^m∣z.natAbs
  .have hlt:¬((zr (wd z.natAbs):Int)<(m:Int)):=by
    have:=(zd hN m).1 hd;omega
   have o:=mP true (z.natAbs/2^m);rw[show sg true (z.natAbs/2^m)=q from v2 hneg hd]at o;generalize z.natAbs/2^m=r at *;generalize zr (wd z.natAbs)=k at *;generalize bl z.natAbs=bb at *;generalize wd z.natAbs=l at *;refine ACG.aF zi0 (rs:=[.cell 4 29,.tmp 5]) bM Tryz.func106 (by rfl) (by rfl) (by rfl) (by rfl) (by rfl) ?_;simp (disch:=omega) only[wt,seval,reduceCtorEq,Nat.reduceEqDiff,aj,n0];refine au (b) (by first|rfl|(simp only[aH,bn,aB,aI,aA,Nat.reduceEqDiff,↓reduceIte,n0,em];rfl)) (by simp) ?_;simp (disch:=omega) only[wt,seval,reduceCtorEq,Nat.reduceEqDiff,aj,n0,em];refine au (s) (by first|rfl|(simp only[aH,bn,aB,aI,aA,Nat.reduceEqDiff,↓reduceIte,n0,em];rfl)) (by simp) ?_;simp (disch:=omega) only[wt,seval,reduceCtorEq,Nat.reduceEqDiff,aj,n0,em];refine au (hs) (by first|rfl|(simp only[aH,bn,aB,aI,aA,Nat.reduceEqDiff,↓reduceIte,n0,em];rfl)) (by simp) ?_;simp (disch:=omega) only[wt,seval,reduceCtorEq,Nat.reduceEqDiff,aj,n0,em];refine lZ (t) (k:=777) (by first|rfl|(simp only[aA,aj,Nat.reduceEqDiff,reduceIte,n0,em,hlt])) (by first|rfl|(simp only[List.map_cons,List.map_nil,CV.av,n0,em,hlt])) (by simp[gK]) ?_;simp (disch:=omega) only[wt,seval,reduceCtorEq,Nat.reduceEqDiff,aj,n0,em,hlt];refine au (o) (by first|rfl|(simp only[aH,bn,aB,aI,aA,Nat.reduceEqDiff,↓reduceIte,n0,em,hlt];rfl)) (by simp) ?_;simp (disch:=omega) only[wt,seval,reduceCtorEq,Nat.reduceEqDiff,aj,n0,em,hlt]
   try rfl
  .have hlt:((zr (wd z.natAbs):Int)<(m:Int)):=by
    have:=Nat.lt_of_not_le λh=>hd ((zd hN m).2 h)
    omega
   have o:=mP true (z.natAbs/2^m+1);rw[show sg true (z.natAbs/2^m+1)=q from v3 hneg hd]at o;have one:=KC 1 (by decide);have ad:=sZ (wd (z.natAbs/2^m)) (wd 1) (bY _) (bY 1) (by
    have:=fB (Nat.div_le_self z.natAbs (2^m));omega) (Nat.le_trans Vt (by decide))
   rw[dU,dU]at ad;generalize z.natAbs/2^m=r at *;generalize zr (wd z.natAbs)=k at *;generalize bl z.natAbs=bb at *;generalize wd z.natAbs=l at *;refine ACG.aF zi0 (rs:=[.cell 4 29,.tmp 5]) bM Tryz.func106 (by rfl) (by rfl) (by rfl) (by rfl) (by rfl) ?_;simp (disch:=omega) only[wt,seval,reduceCtorEq,Nat.reduceEqDiff,aj,n0];refine au (b) (by first|rfl|(simp only[aH,bn,aB,aI,aA,Nat.reduceEqDiff,↓reduceIte,n0,em];rfl)) (by simp) ?_;simp (disch:=omega) only[wt,seval,reduceCtorEq,Nat.reduceEqDiff,aj,n0,em];refine au (s) (by first|rfl|(simp only[aH,bn,aB,aI,aA,Nat.reduceEqDiff,↓reduceIte,n0,em];rfl)) (by simp) ?_;simp (disch:=omega) only[wt,seval,reduceCtorEq,Nat.reduceEqDiff,aj,n0,em];refine au (hs) (by first|rfl|(simp only[aH,bn,aB,aI,aA,Nat.reduceEqDiff,↓reduceIte,n0,em];rfl)) (by simp) ?_;simp (disch:=omega) only[wt,seval,reduceCtorEq,Nat.reduceEqDiff,aj,n0,em];refine lZ (t) (k:=777) (by first|rfl|(simp only[aA,aj,Nat.reduceEqDiff,reduceIte,n0,em,hlt])) (by first|rfl|(simp only[List.map_cons,List.map_nil,CV.av,n0,em,hlt])) (by simp[gK]) ?_;simp (disch:=omega) only[wt,seval,reduceCtorEq,Nat.reduceEqDiff,aj,n0,em,hlt];refine au (one) (by first|rfl|(simp only[aH,bn,aB,aI,aA,Nat.reduceEqDiff,↓reduceIte,n0,em,hlt];rfl)) (by simp) ?_;simp (disch:=omega) only[wt,seval,reduceCtorEq,Nat.reduceEqDiff,aj,n0,em,hlt];refine au (ad) (by first|rfl|(simp only[aH,bn,aB,aI,aA,Nat.reduceEqDiff,↓reduceIte,n0,em,hlt];rfl)) (by simp) ?_;simp (disch:=omega) only[wt,seval,reduceCtorEq,Nat.reduceEqDiff,aj,n0,em,hlt];refine au (o) (by first|rfl|(simp only[aH,bn,aB,aI,aA,Nat.reduceEqDiff,↓reduceIte,n0,em,hlt];rfl)) (by simp) ?_;simp (disch:=omega) only[wt,seval,reduceCtorEq,Nat.reduceEqDiff,aj,n0,em,hlt]
   try rfl
 .have hc:(canon z).1=false:=by simp[canon,hneg]
  have es:¬z.sign<0:=by
   rcases Int.lt_trichotomy z 0 with h|h|h
   .exact(hneg h).elim
   .rw[h];decide
   .rw[Int.sign_eq_one_of_pos h];decide
  rw[hc]at b hs ⊢;have o:=mP false (z.natAbs/2^m);rw[show sg false (z.natAbs/2^m)=q from v1 (by omega)]at o;generalize z.sign=zs at *;generalize z.natAbs/2^m=r at *;generalize bl z.natAbs=bb at *;clear zd t v1 v2 v3 hm;generalize wd z.natAbs=l at *;refine ACG.aF zi0 (rs:=[.cell 4 29,.tmp 5]) bM Tryz.func106 (by rfl) (by rfl) (by rfl) (by rfl) (by rfl) ?_;simp (disch:=omega) only[wt,seval,reduceCtorEq,Nat.reduceEqDiff,aj,n0];refine au (b) (by first|rfl|(simp only[aH,bn,aB,aI,aA,Nat.reduceEqDiff,↓reduceIte,n0,em];rfl)) (by simp) ?_;simp (disch:=omega) only[wt,seval,reduceCtorEq,Nat.reduceEqDiff,aj,n0,em];refine au (s) (by first|rfl|(simp only[aH,bn,aB,aI,aA,Nat.reduceEqDiff,↓reduceIte,n0,em];rfl)) (by simp) ?_;simp (disch:=omega) only[wt,seval,reduceCtorEq,Nat.reduceEqDiff,aj,n0,em];refine au (hs) (by first|rfl|(simp only[aH,bn,aB,aI,aA,Nat.reduceEqDiff,↓reduceIte,n0,em,es];rfl)) (by simp) ?_;simp (disch:=omega) only[wt,seval,reduceCtorEq,Nat.reduceEqDiff,aj,n0,em,es];refine au (o) (by first|rfl|(simp only[aH,bn,aB,aI,aA,Nat.reduceEqDiff,↓reduceIte,n0,em,es];rfl)) (by simp) ?_;simp (disch:=omega) only[wt,seval,reduceCtorEq,Nat.reduceEqDiff,aj,n0,em,es]
  try rfl

end Go.Proofs.YtnhghmibjddlkaaGreatDoor
