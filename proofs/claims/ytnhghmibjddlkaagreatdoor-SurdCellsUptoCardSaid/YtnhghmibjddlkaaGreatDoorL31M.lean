/-
 Contracts of the functions that the law reaches.
-/
import Derived.Test.YtnhghmibjddlkaaGreatDoorL23M
import Derived.Test.YtnhghmibjddlkaaGreatDoorAbsX
import Derived.Test.YtnhghmibjddlkaaGreatDoorL1M
import Derived.Test.YtnhghmibjddlkaaGreatDoorAbsV
import Derived.Test.YtnhghmibjddlkaaGreatDoorAbsYM
import Derived.Test.YtnhghmibjddlkaaGreatDoorL12M
set_option maxHeartbeats 2000000
namespace Go.Proofs.YtnhghmibjddlkaaGreatDoor
open Go Go.Proofs Go.AL
set_option linter.unusedSimpArgs false
set_option linter.unusedVariables false
theorem XZ (x:Nat)(hx:x<W):AC Tryz.prog 137 [cu x] none [ci (64-bl x:Nat)]:=by
 refine AC.aF (rs:=[.tmp 2]) bM Tryz.func137 (by rfl) (by rfl) (by rfl) (by rfl) (by rfl) ?_;have hb:bl x<=64:=qU.mpr hx;have e:(64:Int)-(bl x:Int)=((64-bl x:Nat):Int):=by omega
 simp (disch:=omega) only[wt,seval,reduceCtorEq,Nat.reduceEqDiff];refine au ((QS x hx)) (by rfl) (by simp) ?_;simp (disch:=omega) only[wt,seval,reduceCtorEq,Nat.reduceEqDiff];rw[e]
theorem qm (x m:Nat)(hm:m<=64):IntKind.u64.wrap ((x:Int)*2^min m IntKind.u64.bits)=((x*2^m%W:Nat):Int):=by
 rw[show min m IntKind.u64.bits=m from Nat.min_eq_left (by simp only[IntKind.bits];omega)];have:=jE x (2^m);rw[<-this]
 congr 2
theorem Xx (a b m:Nat)(hb:b<2^m)(h:a*2^m+b<W):IntKind.u64.wrap ((BitVec.ofInt IntKind.u64.bits ((a*2^m:Nat):Int)|||BitVec.ofInt IntKind.u64.bits (b:Int)).toNat:Int)=((a*2^m+b:Nat):Int):=by
 have h1:(BitVec.ofInt 64 ((a*2^m:Nat):Int)|||BitVec.ofInt 64 (b:Int)).toNat=a*2^m+b:=by
  have e1:∀z:Nat,BitVec.ofInt 64 (z:Int)=BitVec.ofNat 64 z:=λz=>by simp
  rw[e1,e1,BitVec.toNat_or,BitVec.toNat_ofNat,BitVec.toNat_ofNat];rw[Nat.mod_eq_of_lt (show a*2^m<2^64 by simp only[W]at h;omega),Nat.mod_eq_of_lt (show b<2^64 by simp only[W]at h;omega)];rw[<-Nat.shiftLeft_eq,Nat.shiftLeft_add_eq_or_of_lt hb]
 show IntKind.u64.wrap ((BitVec.ofInt 64 ((a*2^m:Nat):Int)|||BitVec.ofInt 64 (b:Int)).toNat:Int)=_;rw[h1,fZ h]
theorem zD (m n:Nat)(hn:n<=m):IntKind.u64.wrap ((m%W:Nat)-(n%W:Nat):Int)=(((m-n)%W:Nat):Int):=by
 simp only[IntKind.wrap,IntKind.signed,IntKind.bits,Bool.false_and,Bool.false_eq_true,if_false];simp only[W];omega
theorem zF (m n:Nat):IntKind.u64.wrap ((m%W:Nat)+(n:Nat):Int)=(((m+n)%W:Nat):Int):=by
 simp only[IntKind.wrap,IntKind.signed,IntKind.bits,Bool.false_and,Bool.false_eq_true,if_false];simp only[W];omega
theorem wF (a b:Nat):((a:Int)).tdiv (b:Int)=((a/b:Nat):Int):=by rw[Int.tdiv_eq_ediv_of_nonneg (by omega)];rfl
theorem Gi (a b:Nat):((a:Int)).tmod (b:Int)=((a%b:Nat):Int):=by rw[Int.tmod_eq_emod_of_nonneg (by omega)];rfl
theorem Ua {y:Nat}(h0:y≠0)(hy:y<W):64-bl y<=63/\y*2^(64-bl y)<W/\9223372036854775808<=y*2^(64-bl y):=by
 have hb:bl y<=64:=qU.mpr hy;have hb0:1<=bl y:=by
  rcases Nat.eq_zero_or_pos (bl y) with h|h
  .have:=qU.mp (Nat.le_of_eq h);omega
  .exact h
 have h1:y<2^bl y:=qU.mp (Nat.le_refl _);have h2:2^(bl y-1)<=y:=by
  rcases Nat.lt_or_ge y (2^(bl y-1)) with h|h
  .have:=qU.mpr h;omega
  .exact h
 have e1:2^bl y*2^(64-bl y)=18446744073709551616:=by rw[<-Nat.pow_add,show bl y+(64-bl y)=64 by omega]
 have e2:2^(bl y-1)*2^(64-bl y)=9223372036854775808:=by rw[<-Nat.pow_add,show bl y-1+(64-bl y)=63 by omega]
 refine⟨by omega,?_,?_⟩
 .rw[show W=18446744073709551616 from rfl,<-e1];exact(Nat.mul_lt_mul_right (Nat.pow_pos (by decide))).mpr h1
 .rw[<-e2];exact Nat.mul_le_mul_right _ h2
theorem VQ {hi lo s:Nat}(hs:s<=64)(hl:lo<W):(hi*W+lo)*2^s=(hi*2^s+lo/2^(64-s))*W+lo*2^s%W/\lo/2^(64-s)<2^s:=by
 have e:W=2^(64-s)*2^s:=by rw[<-Nat.pow_add,Nat.sub_add_cancel hs]
 have h1:lo*2^s/W=lo/2^(64-s):=by
  rw[e,Nat.mul_div_mul_right _ _ (Nat.pow_pos (by decide))]
 have h2:=Nat.div_add_mod (lo*2^s) W;rw[h1]at h2;constructor
 .rw[Nat.add_mul,Nat.add_mul,Nat.mul_right_comm hi,Nat.mul_comm (lo/2^(64-s))];omega
 .rw[Nat.div_lt_iff_lt_mul (Nat.pow_pos (by decide)),Nat.mul_comm,<-e];exact hl
theorem Tj (U u1 u0:Nat):U*W+(u1*B32+u0)=(U*B32+u1)*B32+u0:=by
 simp only[B32,W];omega
theorem Ru (hi lo y:Nat)(hh:hi<y)(hl:lo<W)(hy:y<W):AC Tryz.prog 160 [cu hi,cu lo,cu y] none [cu ((hi*W+lo)/y),cu ((hi*W+lo)%y)]:=by
 refine AC.aF (rs:=[.tmp 6,.tmp 7]) bM Tryz.func160 (by rfl) (by rfl) (by rfl) (by rfl) (by rfl) ?_;have h1:¬(y:Int)=0:=by omega
 have h2:¬(y:Int)<=hi:=by omega
 by_cases h0:hi=0
 .subst h0;have h2':¬(y:Int)<=0:=by omega
  have g1:lo/y<W:=Nat.lt_of_le_of_lt (Nat.div_le_self _ _) hl;have g2:lo%y<W:=Nat.lt_of_le_of_lt (Nat.mod_le _ _) hl;simp (disch:=omega) only[wt,seval,reduceCtorEq,Nat.reduceEqDiff,h1,h2'];refine .inl ⟨aZ (by kernel_rfl),?_⟩;simp (disch:=omega) only[wt,seval,reduceCtorEq,Nat.reduceEqDiff,wF,Gi,fZ g1,fZ g2]
  first|exact aN (by kernel_rfl)|refine⟨aN (by kernel_rfl),?_⟩
 have h0':¬(hi:Int)=0:=by omega
 simp (disch:=omega) only[wt,seval,reduceCtorEq,Nat.reduceEqDiff,h1,h2,h0'];refine au ((XZ y hy)) (by first|rfl|(simp only[aH,bn,aB,aI,aA,Nat.reduceEqDiff,↓reduceIte,h1,h2,h0'];rfl)) (by simp) ?_;simp (disch:=omega) only[wt,seval,reduceCtorEq,Nat.reduceEqDiff,h1,h2,h0'];obtain⟨hs63,hYW,hYn⟩:=Ua (y:=y) (by omega) hy;have hts:=VQ (hi:=hi) (lo:=lo) (s:=64-bl y) (by omega) hl;generalize 64-bl y=s at *;have hws:IntKind.u64.wrap (s:Int)=(s:Int):=fZ (by simp only[W];omega);have hY:=qm y s (by omega);rw[Nat.mod_eq_of_lt hYW]at hY;have hUY:hi*2^s+lo/2^(64-s)<y*2^s:=by
  have:=Nat.mul_le_mul_right (2^s) hh;rw[Nat.succ_mul]at this;omega
 have hhs:=qm hi s (by omega);rw[Nat.mod_eq_of_lt (Nat.lt_of_le_of_lt (Nat.le_add_right _ _) (Nat.lt_trans hUY hYW))]at hhs;have h64:IntKind.u64.wrap (64-(s:Int))=((64-s:Nat):Int):=by rw[show (64:Int)-s=((64-s:Nat):Int) by omega];exact fZ (by simp only[W];omega)
 have hor:=Xx hi (lo/2^(64-s)) s hts.2 (by omega);have b3K:=qm lo s (by omega);have hsr:=og lo (64-s) (by omega);obtain⟨b5v,b5u⟩:=hts;have b3J:(hi*W+lo)/y=(hi*W+lo)*2^s/(y*2^s):=(Nat.mul_div_mul_right _ _ (Nat.pow_pos (by decide))).symm;have b2T:(hi*W+lo)*2^s%(y*2^s)=(hi*W+lo)%y*2^s:=by rw[Nat.mul_mod_mul_right]
 rw[b5v]at b3J b2T;generalize hU:hi*2^s+lo/2^(64-s)=U at *;generalize hL:lo*2^s%W=L at *;have hLW:L<W:=by rw[<-hL];exact Nat.mod_lt _ (by decide)
 simp (disch:=omega) only[wt,seval,reduceCtorEq,Nat.reduceEqDiff,hws,hY];generalize hYY:y*2^s=Y at *;have s1:=BN Y;have a1:=and_low32 Y hYW;have s2:=BN L;have a2:=and_low32 L hLW;simp (disch:=omega) only[wt,seval,reduceCtorEq,Nat.reduceEqDiff,s1,a1,hhs,h64,hsr,hor,b3K,s2,a2];obtain⟨y1,hy1⟩:∃y1,Y/4294967296=y1:=⟨_,rfl⟩;obtain⟨y0,hy0⟩:∃y0,Y%4294967296=y0:=⟨_,rfl⟩;obtain⟨u1,hu1⟩:∃u1,L/4294967296=u1:=⟨_,rfl⟩;obtain⟨u0,hu0⟩:∃u0,L%4294967296=u0:=⟨_,rfl⟩;have eY:Y=y1*B32+y0:=by simp only[B32];omega
 have eL:L=u1*B32+u0:=by simp only[B32];omega
 have b1:2147483648<=y1:=by omega
 have b1':y1<B32:=by simp only[W,B32]at *;omega
 have b0:y0<B32:=by simp only[B32];omega
 have c1:u1<B32:=by simp only[W,B32]at *;omega
 have c0:u0<B32:=by simp only[B32];omega
 rw[hy1,hy0,hu1,hu0];clear s1 a1 s2 a2 hhs h64 hsr hor b3K hws hY b5u hy1 hy0 hu1 hu0;have hg:=Dp (u:=U) (u1:=u1) b1 b0 (by rw[<-eY];exact hUY) c1;have hD1:=Rw (y:=Y) hUY c1;refine vk (λf H=>f 15=.iv (.int .u64 ((U*B32+u1)/Y:Nat))/\f 2=.iv (.int .u64 Y)/\f 8=.iv (.int .u64 s)/\f 9=.iv (.int .u64 y1)/\f 10=.iv (.int .u64 y0)/\f 11=.iv (.int .u64 U)/\f 13=.iv (.int .u64 u1)/\f 14=.iv (.int .u64 u0)) ?_ ?_
 .have m1:IntKind.u64.wrap (((U/y1:Nat):Int)*(y1:Int))=((U/y1*y1:Nat):Int):=fE (Nat.lt_of_le_of_lt (Nat.div_mul_le_self _ _) (Nat.lt_trans hUY hYW));have m2:(U:Int)-((U/y1*y1:Nat):Int)=((U%y1:Nat):Int):=by
   have:=Nat.div_add_mod U y1;rw[Nat.mul_comm]at this;omega
  have m3:U%y1<B32:=Nat.lt_trans (Nat.mod_lt _ (by omega)) b1';have m4:IntKind.u64.wrap ((U%y1:Nat):Int)=((U%y1:Nat):Int):=fZ (by simp only[B32,W]at *;omega);have m5:IntKind.u64.wrap ((U/y1:Nat):Int)=((U/y1:Nat):Int):=fZ (by simp only[B32,W]at *;omega);have m6:U/y1*y1+U%y1=U:=by have:=Nat.div_add_mod U y1;rw[Nat.mul_comm]at this;exact this
  rw[<-eY]at hg;refine bF (λf H=>∃(q r:Nat),q*y1+r=U/\(U*B32+u1)/Y<=q/\r<B32/\q<=B32+1/\f 15=.iv (.int .u64 q)/\f 16=.iv (.int .u64 r)/\f 2=.iv (.int .u64 Y)/\f 8=.iv (.int .u64 s)/\f 9=.iv (.int .u64 y1)/\f 10=.iv (.int .u64 y0)/\f 11=.iv (.int .u64 U)/\f 13=.iv (.int .u64 u1)/\f 14=.iv (.int .u64 u0)) (λf H=>(dQ f 15).toNat) ?_ ?_
  .refine⟨U/y1,U%y1,m6,hg.1,m3,hg.2,?_⟩;simp (disch:=omega) only[wt,seval,reduceCtorEq,Nat.reduceEqDiff,wF,m1,m2,m4,m5]
  rintro f H ⟨q,r,he,hq,hr,hqB,hF⟩;rw[bC hF.1];simp (disch:=omega) only[wt,seval,reduceCtorEq,Nat.reduceEqDiff,hF];have b5B:q<=4294967297:=hqB;have hr':r<4294967296:=hr;have hb1:y1<4294967296:=b1';have hb0:y0<4294967296:=b0;have hcu:u1<4294967296:=c1;rw[eY]at hq hD1;have hw1:0<q->IntKind.u64.wrap ((q:Int)-1)=((q-1:Nat):Int):=λh=>by
   rw[show (q:Int)-1=((q-1:Nat):Int) by omega];exact fZ (by simp only[W];omega)
  have hw2:IntKind.u64.wrap ((r:Int)+(y1:Int))=((r+y1:Nat):Int):=fG (by simp only[W];omega);have he':0<q->(q-1)*y1+(r+y1)=U:=λh=>by
   obtain⟨k,rfl⟩:∃k,q=k+1:=⟨q-1,by omega⟩;rw[Nat.add_sub_cancel,<-he,Nat.succ_mul];omega
  have hout:0<q->(U*B32+u1)/(y1*B32+y0)<=q-1->4294967296<=r+y1->q-1=(U*B32+u1)/(y1*B32+y0):=λh h' h''=>by
   refine qL (he' h) h' (by omega) ?_;have g1:(q-1)*y0<=4294967296*y0:=Nat.mul_le_mul_right _ (by omega);have g2:4294967296*y0<=4294967296*(r+y1):=Nat.mul_le_mul_left _ (by omega);simp only[B32];omega
  by_cases hqb:4294967296<=(q:Int)
  .have hq0:0<q:=by omega
   have hl:(U*B32+u1)/(y1*B32+y0)<=q-1:=by simp only[B32]at *;omega
   simp (disch:=omega) only[wt,seval,reduceCtorEq,Nat.reduceEqDiff,hF,hqb,hw1 hq0,hw2];refine bU (λhbr=>?_) (λhbr=>?_)
   .simp (disch:=omega) only[wt,seval,reduceCtorEq,Nat.reduceEqDiff,hF];rw[hout hq0 hl (by omega),eY]
   .simp (disch:=omega) only[wt,seval,reduceCtorEq,Nat.reduceEqDiff,hF];exact⟨⟨q-1,r+y1,he' hq0,by rw[eY];exact hl,by simp only[B32];omega,by simp only[B32];omega,rfl,rfl⟩,by omega⟩
  have g3:q*y0<=4294967295*4294967295:=Nat.mul_le_mul (by omega) (by omega);have w1:IntKind.u64.wrap (4294967296*(r:Int))=((4294967296*r:Nat):Int):=fE (m:=4294967296) (by simp only[W];omega);have w2:IntKind.u64.wrap (((4294967296*r:Nat):Int)+(u1:Int))=((4294967296*r+u1:Nat):Int):=fG (by simp only[W];omega);have w3:IntKind.u64.wrap ((q:Int)*(y0:Int))=((q*y0:Nat):Int):=fE (by simp only[W];omega);by_cases hcm:((4294967296*r+u1:Nat):Int)<((q*y0:Nat):Int)
  .obtain⟨hl,hq0⟩:=Fh he hq (by omega) (by simp only[B32];omega);simp (disch:=omega) only[wt,seval,reduceCtorEq,Nat.reduceEqDiff,hF,hqb,w1,w2,w3,hcm,hw1 hq0,hw2];refine bU (λhbr=>?_) (λhbr=>?_)
   .simp (disch:=omega) only[wt,seval,reduceCtorEq,Nat.reduceEqDiff,hF];rw[hout hq0 hl (by omega),eY]
   .simp (disch:=omega) only[wt,seval,reduceCtorEq,Nat.reduceEqDiff,hF];exact⟨⟨q-1,r+y1,he' hq0,by rw[eY];exact hl,by simp only[B32];omega,by simp only[B32];omega,rfl,rfl⟩,by omega⟩
  .simp (disch:=omega) only[wt,seval,reduceCtorEq,Nat.reduceEqDiff,hF,hqb,w1,w2,w3,hcm];rw[qL he hq (by omega) (by simp only[B32];omega),eY]
 .clear hg;rintro f H hF;obtain⟨D1,hD⟩:∃D1,(U*B32+u1)/Y=D1:=⟨_,rfl⟩;obtain⟨R1,hR⟩:∃R1,(U*B32+u1)%Y=R1:=⟨_,rfl⟩;have hdm:U*B32+u1=D1*Y+R1:=by rw[<-hD,<-hR];exact(Nat.div_add_mod' _ _).symm
  have hRY:R1<Y:=by rw[<-hR];exact Nat.mod_lt _ (by omega)
  rw[hD]at hF hD1;have hRW:R1<W:=Nat.lt_trans hRY hYW;have v1:IntKind.u64.wrap ((U:Int)*4294967296)=((U*4294967296%W:Nat):Int):=jE U 4294967296;have v2:=zF (U*4294967296) u1;have v3:=jE D1 Y;have v4:=zD (U*4294967296+u1) (D1*Y) (by simp only[B32]at hdm;omega);rw[show U*4294967296+u1-D1*Y=R1 by simp only[B32]at hdm;omega,Nat.mod_eq_of_lt hRW]at v4;have m1:IntKind.u64.wrap (((R1/y1:Nat):Int)*(y1:Int))=((R1/y1*y1:Nat):Int):=fE (Nat.lt_of_le_of_lt (Nat.div_mul_le_self _ _) hRW);have m2:(R1:Int)-((R1/y1*y1:Nat):Int)=((R1%y1:Nat):Int):=by
   have:=Nat.div_add_mod R1 y1;rw[Nat.mul_comm]at this;omega
  have m3:R1%y1<B32:=Nat.lt_trans (Nat.mod_lt _ (by omega)) b1';have hg:=Dp (u:=R1) (u1:=u0) b1 b0 (by rw[<-eY];exact hRY) c0;have hD0:=Rw (y:=Y) hRY c0;have m4:IntKind.u64.wrap ((R1%y1:Nat):Int)=((R1%y1:Nat):Int):=fZ (by simp only[B32,W]at *;omega);have m5:IntKind.u64.wrap ((R1/y1:Nat):Int)=((R1/y1:Nat):Int):=fZ (by simp only[B32,W]at *;omega);have m6:R1/y1*y1+R1%y1=R1:=by have:=Nat.div_add_mod R1 y1;rw[Nat.mul_comm]at this;exact this
  rw[<-eY]at hg;simp (disch:=omega) only[wt,seval,reduceCtorEq,Nat.reduceEqDiff,hF,v1,v2,v3,v4,wF,m1,m2,m4,m5];refine vk (λf H=>f 18=.iv (.int .u64 ((R1*B32+u0)/Y:Nat))/\f 2=.iv (.int .u64 Y)/\f 8=.iv (.int .u64 s)/\f 14=.iv (.int .u64 u0)/\f 15=.iv (.int .u64 D1)/\f 17=.iv (.int .u64 R1)) ?_ ?_
  .have hgo:=hg;refine bF (λf H=>∃(q r:Nat),q*y1+r=R1/\(R1*B32+u0)/Y<=q/\r<B32/\q<=B32+1/\f 18=.iv (.int .u64 q)/\f 16=.iv (.int .u64 r)/\f 2=.iv (.int .u64 Y)/\f 8=.iv (.int .u64 s)/\f 9=.iv (.int .u64 y1)/\f 10=.iv (.int .u64 y0)/\f 14=.iv (.int .u64 u0)/\f 15=.iv (.int .u64 D1)/\f 17=.iv (.int .u64 R1)) (λf H=>(dQ f 18).toNat) ?_ ?_
   .refine⟨R1/y1,R1%y1,m6,hg.1,m3,hg.2,?_⟩;simp (disch:=omega) only[wt,seval,reduceCtorEq,Nat.reduceEqDiff,hF]
   rintro f H ⟨q,r,he,hq,hr,hqB,hF⟩;rw[bC hF.1];simp (disch:=omega) only[wt,seval,reduceCtorEq,Nat.reduceEqDiff,hF];have b5B:q<=4294967297:=hqB;have hr':r<4294967296:=hr;have hb1:y1<4294967296:=b1';have hb0:y0<4294967296:=b0;have hcu:u0<4294967296:=c0;rw[eY]at hq hD0;have hw1:0<q->IntKind.u64.wrap ((q:Int)-1)=((q-1:Nat):Int):=λh=>by
    rw[show (q:Int)-1=((q-1:Nat):Int) by omega];exact fZ (by simp only[W];omega)
   have hw2:IntKind.u64.wrap ((r:Int)+(y1:Int))=((r+y1:Nat):Int):=fG (by simp only[W];omega);have he':0<q->(q-1)*y1+(r+y1)=R1:=λh=>by
    obtain⟨k,rfl⟩:∃k,q=k+1:=⟨q-1,by omega⟩;rw[Nat.add_sub_cancel,<-he,Nat.succ_mul];omega
   have hout:0<q->(R1*B32+u0)/(y1*B32+y0)<=q-1->4294967296<=r+y1->q-1=(R1*B32+u0)/(y1*B32+y0):=λh h' h''=>by
    refine qL (he' h) h' (by omega) ?_;have g1:(q-1)*y0<=4294967296*y0:=Nat.mul_le_mul_right _ (by omega);have g2:4294967296*y0<=4294967296*(r+y1):=Nat.mul_le_mul_left _ (by omega);simp only[B32];omega
   by_cases hqb:4294967296<=(q:Int)
   .have hq0:0<q:=by omega
    have hl:(R1*B32+u0)/(y1*B32+y0)<=q-1:=by simp only[B32]at *;omega
    simp (disch:=omega) only[wt,seval,reduceCtorEq,Nat.reduceEqDiff,hF,hqb,hw1 hq0,hw2];refine bU (λhbr=>?_) (λhbr=>?_)
    .simp (disch:=omega) only[wt,seval,reduceCtorEq,Nat.reduceEqDiff,hF];rw[hout hq0 hl (by omega),eY]
    .simp (disch:=omega) only[wt,seval,reduceCtorEq,Nat.reduceEqDiff,hF];exact⟨⟨q-1,r+y1,he' hq0,by rw[eY];exact hl,by simp only[B32];omega,by simp only[B32];omega,rfl,rfl⟩,by omega⟩
   have g3:q*y0<=4294967295*4294967295:=Nat.mul_le_mul (by omega) (by omega);have w1:IntKind.u64.wrap (4294967296*(r:Int))=((4294967296*r:Nat):Int):=fE (m:=4294967296) (by simp only[W];omega);have w2:IntKind.u64.wrap (((4294967296*r:Nat):Int)+(u0:Int))=((4294967296*r+u0:Nat):Int):=fG (by simp only[W];omega);have w3:IntKind.u64.wrap ((q:Int)*(y0:Int))=((q*y0:Nat):Int):=fE (by simp only[W];omega);by_cases hcm:((4294967296*r+u0:Nat):Int)<((q*y0:Nat):Int)
   .obtain⟨hl,hq0⟩:=Fh he hq (by omega) (by simp only[B32];omega);simp (disch:=omega) only[wt,seval,reduceCtorEq,Nat.reduceEqDiff,hF,hqb,w1,w2,w3,hcm,hw1 hq0,hw2];refine bU (λhbr=>?_) (λhbr=>?_)
    .simp (disch:=omega) only[wt,seval,reduceCtorEq,Nat.reduceEqDiff,hF];rw[hout hq0 hl (by omega),eY]
    .simp (disch:=omega) only[wt,seval,reduceCtorEq,Nat.reduceEqDiff,hF];exact⟨⟨q-1,r+y1,he' hq0,by rw[eY];exact hl,by simp only[B32];omega,by simp only[B32];omega,rfl,rfl⟩,by omega⟩
   .simp (disch:=omega) only[wt,seval,reduceCtorEq,Nat.reduceEqDiff,hF,hqb,w1,w2,w3,hcm];rw[qL he hq (by omega) (by simp only[B32];omega),eY]
  .clear hg hF;rintro f H hF;obtain⟨D0,hE⟩:∃D0,(R1*B32+u0)/Y=D0:=⟨_,rfl⟩;obtain⟨R0,hS⟩:∃R0,(R1*B32+u0)%Y=R0:=⟨_,rfl⟩;have b2Y:R1*B32+u0=D0*Y+R0:=by rw[<-hE,<-hS];exact(Nat.div_add_mod' _ _).symm
   have b2Z:R0<Y:=by rw[<-hS];exact Nat.mod_lt _ (by omega)
   rw[hE]at hF hD0;have b5I:R0<W:=Nat.lt_trans b2Z hYW;have eN:U*W+L=(D1*B32+D0)*Y+R0:=by
    have e1:U*W+L=(U*B32+u1)*B32+u0:=by
     rw[eL];exact Tj U u1 u0
    rw[e1,hdm,Nat.add_mul,Nat.add_assoc,b2Y,Nat.add_mul,Nat.mul_right_comm D1 Y B32,Nat.add_assoc]
   have hq:(hi*W+lo)/y=D1*4294967296+D0:=by
    rw[b3J,eN,Nat.mul_comm,Nat.mul_add_div (by omega),Nat.div_eq_of_lt b2Z,Nat.add_zero]
   have hr:(hi*W+lo)%y=R0/2^s:=by
    rw[eN,Nat.mul_comm,Nat.mul_add_mod,Nat.mod_eq_of_lt b2Z]at b2T;rw[b2T,Nat.mul_div_cancel _ (Nat.pow_pos (by decide))]
   have b6c:D1<4294967296:=hD1;have b6d:D0<4294967296:=hD0;have p1:IntKind.u64.wrap ((D1:Int)*4294967296)=((D1*4294967296:Nat):Int):=fE (n:=4294967296) (by simp only[W];omega);have p2:IntKind.u64.wrap (((D1*4294967296:Nat):Int)+(D0:Int))=((D1*4294967296+D0:Nat):Int):=fG (by simp only[W];omega);have p3:IntKind.u64.wrap ((R1:Int)*4294967296)=((R1*4294967296%W:Nat):Int):=jE R1 4294967296;have p4:=zF (R1*4294967296) u0;have p5:=jE D0 Y;have p6:=zD (R1*4294967296+u0) (D0*Y) (by simp only[B32]at b2Y;omega);rw[show R1*4294967296+u0-D0*Y=R0 by simp only[B32]at b2Y;omega,Nat.mod_eq_of_lt b5I]at p6;have p7:=og R0 s (by omega);rw[hq,hr];simp (disch:=omega) only[wt,seval,reduceCtorEq,Nat.reduceEqDiff,hF,p1,p2,p3,p4,p5,p6,p7]
theorem zK {l:List Nat}{j:Nat}(h:j<l.length):nv (l.drop j)=l.getD j 0+W*nv (l.drop (j+1)):=by
 rw[List.drop_eq_getElem_cons h];have:l.getD j 0=l[j]:=by simp[List.getD,h]
 rw[this];rfl
theorem Ig {l:List Nat}{j:Nat}(h:j<l.length)(x:Nat):nv ((l.set j x).drop j)=x+W*nv (l.drop (j+1)):=by
 rw[zK (by simpa using h),List.drop_set_of_lt (by omega)]
 congr 1
 simp[List.getD,h]
theorem PK {r x w:Nat}(hr:r<w)(hx:x<W):(r*W+x)/w<W:=by
 rw[Nat.div_lt_iff_lt_mul (by omega)];have:=Nat.mul_le_mul_right W hr;rw[Nat.succ_mul,Nat.mul_comm w]at this;omega
theorem YV (a:List Nat)(w:Nat)(ha:Lim a)(hl:a.length<=2^40)(hw0:w≠0)(hw:w<W):AC Tryz.prog 136 [cl a,cu w] none [cl (pad a.length (nv a/w)),cu (nv a%w),ci 0]:=by
 refine AC.aF (rs:=[.tmp 4,.tmp 5,.tmp 6]) bM Tryz.func136 (by rfl) (by rfl) (by rfl) (by rfl) (by rfl) ?_;have h0:¬(w:Int)=0:=by omega
 simp (disch:=omega) only[wt,seval,reduceCtorEq,Nat.reduceEqDiff,h0];refine bF (λf H=>∃(k r st:Nat) (out:List Nat),k<=a.length/\r<w/\Lim out/\out.length=a.length/\nv (out.drop k)*w+r=nv (a.drop k)/\f 9=.iv (.int .i64 ((k:Int)-1))/\f 0=.iv (.sl (dJ a))/\f 1=.iv (.int .u64 w)/\f 7=.hs 14 st/\f 8=.iv (.int .u64 r)/\H 14=.blk false st 73 1 (dJ out)) (λf H=>(dQ f 9+1).toNat) ?_ ?_
 .refine⟨a.length,0,1,List.replicate a.length 0,by omega,by omega,Lim.replicate _,by simp,by simp[vl],?_⟩;simp (disch:=omega) only[wt,seval,reduceCtorEq,Nat.reduceEqDiff,Int.toNat_natCast]
 rintro f H ⟨k,r,st,out,hk,hr,hO,hOl,hv,hF⟩;rw[bC hF.1];simp (disch:=omega) only[wt,seval,reduceCtorEq,Nat.reduceEqDiff,hF];refine bU (λhlt=>?_) (λhlt=>?_)
 .obtain⟨j,rfl⟩:∃j,k=j+1:=⟨k-1,by omega⟩;have ej:((j+1:Nat):Int)-1=(j:Int):=by omega
  rw[ej]at hF;have hx:=ha.get j;simp (disch:=omega) only[wt,seval,reduceCtorEq,Nat.reduceEqDiff,hF];refine au ((Ru r (a.getD j 0) w hr hx hw)) (by first|rfl|(simp only[aH,bn,aB,aI,aA,Nat.reduceEqDiff,↓reduceIte,hF];rfl)) (by simp) ?_;simp (disch:=omega) only[wt,seval,reduceCtorEq,Nat.reduceEqDiff,hF];have hq:=PK hr hx;have hdm:=Nat.div_add_mod (r*W+a.getD j 0) w;generalize (r*W+a.getD j 0)/w=q at *;have hr':(r*W+a.getD j 0)%w<w:=Nat.mod_lt _ (by omega);generalize (r*W+a.getD j 0)%w=r' at *;refine⟨⟨j,r',st,out.set j q,by omega,hr',hO.set hq,by simp[hOl],?_,rfl,rfl,rfl,rfl⟩,by omega⟩;rw[Ig (by omega),zK (l:=a) (j:=j) (by omega),<-hv,Nat.add_mul,Nat.mul_add,Nat.mul_assoc];rw[Nat.mul_comm w q,Nat.mul_comm r W]at hdm;omega
 .simp (disch:=omega) only[wt,seval,reduceCtorEq,Nat.reduceEqDiff,hF];have:k=0:=by omega
  subst this;simp only[List.drop_zero]at hv;have e1:nv a/w=nv out:=by
   rw[<-hv,Nat.mul_comm,Nat.mul_add_div (by omega),Nat.div_eq_of_lt hr,Nat.add_zero]
  have e2:nv a%w=r:=by
   rw[<-hv,Nat.mul_comm,Nat.mul_add_mod,Nat.mod_eq_of_lt hr]
  have h5:=jm hO;rw[hOl]at h5;rw[e1,e2,<-pK hO hOl (s:=nv out) (Nat.mod_eq_of_lt h5).symm];exact⟨rfl,rfl⟩
theorem a2R (a:List Nat)(w:Nat)(ha:Lim a)(hl:a.length<=2^40)(hw0:w≠0)(hw:w<W):AC Tryz.prog 118 [cl a,cu w] none [cl (wd (nv a/w)),cu (nv a%w),ci 0]:=by
 refine AC.aF (rs:=[.tmp 4,.tmp 5,.tmp 6]) bM Tryz.func118 (by rfl) (by rfl) (by rfl) (by rfl) (by rfl) ?_;simp (disch:=omega) only[wt,seval,reduceCtorEq,Nat.reduceEqDiff];refine au ((YV a w ha hl hw0 hw)) (by rfl) (by simp) ?_;simp (disch:=omega) only[wt,seval,reduceCtorEq,Nat.reduceEqDiff];have:=kG (pad a.length (nv a/w)) (oq _ _) (by rw[jT];omega);have h5:=jm ha;have h6:=Nat.div_le_self (nv a) w;rw[sV,Nat.mod_eq_of_lt (by omega)]at this;refine au (this) (by rfl) (by simp) ?_;simp (disch:=omega) only[wt,seval,reduceCtorEq,Nat.reduceEqDiff]
def a6f (a:List Nat)(n:Nat):List Nat:=if n%64=0 then List.replicate (n/64) 0++a else List.replicate (n/64) 0++pad (a.length+1) (nv a*2^(n%64))
theorem Wu {a:List Nat}(h:Lim a)(n:Nat):Lim (a6f a n)/\nv (a6f a n)=nv a*2^n/\(a6f a n).length<=n/64+a.length+1:=by
 have hn:=Nat.div_add_mod n 64;have e:W^(n/64)*2^(n%64)=2^n:=by
  rw[show W=2^64 from rfl,<-Nat.pow_mul,<-Nat.pow_add,hn]
 unfold a6f;split
 .rename_i h0;rw[h0,Nat.pow_zero,Nat.mul_one]at e;refine⟨(Lim.replicate _).append h,?_,by simp⟩;simp only[nv,mQ,nU,List.length_replicate,Nat.zero_add];rw[e,Nat.mul_comm]
 .refine⟨(Lim.replicate _).append (oq _ _),?_,by simp[jT];omega⟩;have h1:=sV (a.length+1) (nv a*2^(n%64));simp only[nv]at h1;simp only[nv,mQ,nU,List.length_replicate,Nat.zero_add,h1];rw[Nat.mod_eq_of_lt]
  .rw[Nat.mul_left_comm,e]
  .have h2:=jm h;have h3:2^(n%64)<=W:=by rw[show W=2^64 from rfl];exact Nat.pow_le_pow_right (by decide) (by omega)
   rw[Nat.pow_succ];simp only[nv]at h2
   calc vl W a*2^(n%64)<=vl W a*W:=Nat.mul_le_mul_left _ h3
    _<W^a.length*W:=(Nat.mul_lt_mul_right (by decide)).mpr h2
theorem wu {x r:Nat}(hr:r<=64)(hx:x<W):x*2^r%W=x%2^(64-r)*2^r/\x%2^(64-r)*2^r+W*(x/2^(64-r))=x*2^r/\x/2^(64-r)<2^r/\x%2^(64-r)*2^r+2^r<=W:=by
 have e:W=2^(64-r)*2^r:=by rw[<-Nat.pow_add,Nat.sub_add_cancel hr]
 have hp:=Nat.pow_pos (n:=r) (show 0<2 by decide);have hp':=Nat.pow_pos (n:=64-r) (show 0<2 by decide);have hm:=Nat.mod_lt x hp';have h3:x%2^(64-r)*2^r+2^r<=W:=by
  rw[e,<-Nat.succ_mul];exact Nat.mul_le_mul_right _ hm
 have h2:x%2^(64-r)*2^r+W*(x/2^(64-r))=x*2^r:=by
  conv=>rhs;rw[<-Nat.mod_add_div x (2^(64-r)),Nat.add_mul]
  rw[e,Nat.mul_right_comm]
 refine⟨?_,h2,?_,h3⟩
 .rw[<-h2,Nat.add_mul_mod_self_left,Nat.mod_eq_of_lt (by omega)]
 .rw[Nat.div_lt_iff_lt_mul hp',Nat.mul_comm,<-e];exact hx
theorem a6Z (a:List Nat)(n:Nat)(ha:Lim a)(hl:a.length<=2^40)(hn:n<=1048576):AC Tryz.prog 113 [cl a,ci n] none [cl (a6f a n),ci 0]:=by
 refine AC.aF (rs:=[.tmp 4,.tmp 5]) bM Tryz.func113 (by rfl) (by rfl) (by rfl) (by rfl) (by rfl) ?_;have e1:=wF n 64;have e2:=Gi n 64;have h1:¬(n:Int)<0:=by omega
 have h2:¬1048576<(n:Int):=by omega
 have e3:((n/64:Nat):Int)+(a.length:Int)+1=((n/64+a.length+1:Nat):Int):=by omega
 have hw:IntKind.u64.wrap ((n%64:Nat):Int)=((n%64:Nat):Int):=fZ (by simp only[W];omega);have e1':(n:Int).tdiv 64=((n/64:Nat):Int):=e1;have e2':(n:Int).tmod 64=((n%64:Nat):Int):=e2;have hd:n/64<=16384:=by omega
 have hr:n%64<64:=Nat.mod_lt _ (by omega);unfold a6f;generalize n/64=q at *;generalize n%64=r at *;simp (disch:=omega) only[wt,seval,reduceCtorEq,Nat.reduceEqDiff,h1,h2,e1',e2',hw,e3];by_cases hr0:r=0
 .subst hr0;have hq:(List.replicate q 0).length=q:=by simp
  simp (disch:=omega) only[wt,seval,reduceCtorEq,Nat.reduceEqDiff,hq]
 .have b5y:¬(r:Int)=0:=by omega
  have h64:IntKind.u64.wrap (64-(r:Int))=((64-r:Nat):Int):=by rw[show (64:Int)-r=((64-r:Nat):Int) by omega];exact fZ (by simp only[W];omega)
  rw[if_neg hr0];simp (disch:=omega) only[wt,seval,reduceCtorEq,Nat.reduceEqDiff,b5y];refine bF (λf H=>∃(i low st:Nat) (S:List Nat),i<=a.length/\S.length=i/\Lim S/\low<2^r/\nv S+W^i*low=nv (a.take i)*2^r/\f 37=.iv (.int .i64 i)/\f 7=.iv (.int .u64 r)/\f 8=.hs 29 st/\f 9=.iv (.int .u64 low)/\f 35=.iv (.sl (dJ a))/\f 36=.iv (.int .i64 a.length)/\H 29=.blk false st 73 1 (dJ (List.replicate q 0++S))) (λf H=>(a.length-dQ f 37).toNat) ?_ ?_
  .refine⟨0,0,1,[],by omega,rfl,Lim.nil,Nat.pow_pos (by decide),by simp[vl],?_⟩;simp (disch:=omega) only[wt,seval,reduceCtorEq,Nat.reduceEqDiff,Int.toNat_natCast,List.append_nil]
  rintro f H ⟨i,low,st,S,hi,hSl,hS,hlow,hv,hF⟩;rw[bC hF.1];simp (disch:=omega) only[wt,seval,reduceCtorEq,Nat.reduceEqDiff,hF];have hq:(List.replicate q 0++S).length=q+i:=by simp[hSl]
  refine bU (λhlt=>?_) (λhlt=>?_)
  .have hx:=ha.get i;have hsx:=wu (r:=r) (by omega) hx;have hm1:=qm (a.getD i 0) r (by omega);rw[hsx.1]at hm1;have hor:=Xx (a.getD i 0%2^(64-r)) low r hlow (by omega);have hsr:=og (a.getD i 0) (64-r) (by omega);simp (disch:=omega) only[wt,seval,reduceCtorEq,Nat.reduceEqDiff,hF,hq,hm1,hor,h64,hsr];refine⟨⟨i+1,a.getD i 0/2^(64-r),st+1,S++[a.getD i 0%2^(64-r)*2^r+low],by omega,by simp[hSl],hS.append (Lim.cons (by omega) Lim.nil),hsx.2.2.1,?_,by omega,rfl,rfl,by rw[List.append_assoc]⟩,by omega⟩;rw[NT,hSl];simp only[nv]at hv ⊢;rw[dn,Nat.pow_succ,Nat.add_mul,Nat.mul_assoc _ (a.getD i 0),<-hsx.2.1,<-hv,Nat.mul_add,Nat.mul_add,Nat.mul_assoc];omega
  .simp (disch:=omega) only[wt,seval,reduceCtorEq,Nat.reduceEqDiff,hF,hq];have:i=a.length:=by omega
   subst this;rw[List.take_length]at hv;have h5:=jm hS;rw[hSl]at h5;have hlW:low<W:=Nat.lt_of_lt_of_le hlow (by rw[show W=2^64 from rfl];exact Nat.pow_le_pow_right (by decide) (by omega));have e:S++[low]=pad (a.length+1) (nv a*2^r):=by
    refine pK (hS.append (Lim.cons hlW Lim.nil)) (by simp[hSl]) ?_;have h6:=jm (hS.append (Lim.cons hlW Lim.nil));rw[NT,hSl,hv]at h6 ⊢;rw[List.length_append,hSl]at h6;exact(Nat.mod_eq_of_lt h6).symm
   rw[List.append_assoc,e]
theorem vN (a:List Nat)(n:Nat)(ha:Lim a)(hl:a.length<=2^39)(hn:n<=1048576):AC Tryz.prog 84 [cl a,ci n] none [cl (wd (nv a*2^n)),ci 0]:=by
 refine AC.aF (rs:=[.tmp 4,.tmp 5]) bM Tryz.func84 (by rfl) (by rfl) (by rfl) (by rfl) (by rfl) ?_;have h1:¬(n:Int)<0:=by omega
 have h2:¬1048576<(n:Int):=by omega
 have ht:=rZ a;simp (disch:=omega) only[wt,seval,reduceCtorEq,Nat.reduceEqDiff,h1,h2];refine au ((Gf a (by omega))) (by first|rfl|(simp only[aH,bn,aB,aI,aA,Nat.reduceEqDiff,↓reduceIte,h1,h2];rfl)) (by simp) ?_;simp (disch:=omega) only[wt,seval,reduceCtorEq,Nat.reduceEqDiff,h1,h2];have hs:=Wu (ha.take (oK a)) n;have e:nv (a.take (oK a))=nv a:=N9 qh ha;rw[e,List.length_take]at hs;refine au ((a6Z (a.take (oK a)) n (ha.take _) (by rw[List.length_take];omega) hn)) (by first|rfl|(simp only[aH,bn,aB,aI,aA,Nat.reduceEqDiff,↓reduceIte,h1,h2];rfl)) (by simp) ?_;simp (disch:=omega) only[wt,seval,reduceCtorEq,Nat.reduceEqDiff,h1,h2];have:=EN (a6f (a.take (oK a)) n) hs.1 (by omega);rw[hs.2.1]at this;refine au (this) (by first|rfl|(simp only[aH,bn,aB,aI,aA,Nat.reduceEqDiff,↓reduceIte,h1,h2];rfl)) (by simp) ?_;simp (disch:=omega) only[wt,seval,reduceCtorEq,Nat.reduceEqDiff,h1,h2]
theorem GR (a b m:Nat)(hb:b<2^m)(h:a*2^m+b<W):IntKind.u64.wrap ((BitVec.ofInt IntKind.u64.bits (b:Int)|||BitVec.ofInt IntKind.u64.bits ((a*2^m:Nat):Int)).toNat:Int)=((a*2^m+b:Nat):Int):=by
 rw[BitVec.or_comm];exact Xx a b m hb h
theorem jw {l:List Nat}(h:Lim l)(k:Nat):l.getD k 0=nv l/W^k%W:=by
 have h1:=dn W l k;have e1:=CJ h (k+1);have e2:=CJ h k;simp only[nv]at *;rw[e1,e2,Nat.mod_pow_succ]at h1;exact(Nat.eq_of_mul_eq_mul_left (fK k) (Nat.add_left_cancel h1)).symm
theorem wL {V r i x y:Nat}(hr:r<64)(hx:x=V/W^i%W)(hy:y=V/W^(i+1)%W):V/2^r/W^i%W=(y%2^r)*2^(64-r)+x/2^r/\x/2^r<2^(64-r)/\(y%2^r)*2^(64-r)+x/2^r<W:=by
 have e:W=2^r*2^(64-r):=by rw[<-Nat.pow_add,show r+(64-r)=64 by omega]
 have hp:=Nat.pow_pos (n:=r) (show 0<2 by decide);have hp':=Nat.pow_pos (n:=64-r) (show 0<2 by decide);have hxW:x<W:=by rw[hx];exact Nat.mod_lt _ (by decide)
 have b1:x/2^r<2^(64-r):=by rw[Nat.div_lt_iff_lt_mul hp,Nat.mul_comm,<-e];exact hxW
 have hT:V/W^i=x+W*(V/W^(i+1)):=by
  rw[hx,Nat.pow_succ,<-Nat.div_div_eq_div_mul];exact(Nat.mod_add_div _ _).symm
 generalize hT1:V/W^(i+1)=T at *;have hm:y%2^r=T%2^r:=by
  rw[hy,e,Nat.mod_mul_right_mod]
 have hlt:T%2^r<2^r:=Nat.mod_lt _ hp;have b2:T%2^r*2^(64-r)+2^(64-r)<=W:=by
  rw[e,<-Nat.succ_mul];exact Nat.mul_le_mul_right _ hlt
 refine⟨?_,b1,by rw[hm];omega⟩;have h1:V/2^r/W^i=x/2^r+2^(64-r)*T:=by
  rw[Nat.div_div_eq_div_mul,Nat.mul_comm,<-Nat.div_div_eq_div_mul,hT];rw[show W*T=2^r*(2^(64-r)*T) by rw[e,Nat.mul_assoc],Nat.add_mul_div_left _ _ hp]
 rw[h1,hm];have h2:2^(64-r)*T=T%2^r*2^(64-r)+W*(T/2^r):=by
  conv=>lhs;rw[<-Nat.mod_add_div T (2^r),Nat.mul_add]
  rw[Nat.mul_comm (2^(64-r)) (T%2^r),e,<-Nat.mul_assoc,Nat.mul_comm (2^(64-r)) (2^r)]
 rw[h2,<-Nat.add_assoc,Nat.add_mul_mod_self_left,Nat.add_comm (x/2^r),Nat.mod_eq_of_lt (by omega)]
theorem lT {l:List Nat}{i:Nat}(h:i<l.length)(x:Nat):(l.set i x).getD i 0=x:=by
 simp[List.getD,h]
theorem a6Y (a:List Nat)(n:Nat)(ha:Lim a)(hl:a.length<=2^40)(hn:n<=2^60):∃b,AC Tryz.prog 154 [cl a,ci n] none [cl (pad (a.length-n/64) (nv a/2^n)),cb b,ci 0]:=by
 have e1:=wF n 64;have e2:=Gi n 64;have h1:¬(n:Int)<0:=by omega
 have hw:IntKind.u64.wrap ((n%64:Nat):Int)=((n%64:Nat):Int):=fZ (by simp only[W];omega);have e1':(n:Int).tdiv 64=((n/64:Nat):Int):=e1;have e2':(n:Int).tmod 64=((n%64:Nat):Int):=e2;have hr:n%64<64:=Nat.mod_lt _ (by omega);have eQ:nv a/2^n=nv a/W^(n/64)/2^(n%64):=by
  rw[Nat.div_div_eq_div_mul,show W=2^64 from rfl,<-Nat.pow_mul,<-Nat.pow_add,Nat.div_add_mod]
 rw[eQ];have hqb:n/64<=2^60:=by omega
 generalize n/64=q at *;generalize n%64=r at *;by_cases hq:(a.length:Int)<=q
 .refine⟨decide (0<(oK a:Int)),?_⟩;refine AC.aF (rs:=[.tmp 4,.tmp 5,.tmp 6]) bM Tryz.func154 (by rfl) (by rfl) (by rfl) (by rfl) (by rfl) ?_;simp (disch:=omega) only[wt,seval,reduceCtorEq,Nat.reduceEqDiff,Option.getD_some,h1,e1',e2',hw,hq];refine au ((Q7 a (by omega))) (by first|rfl|(simp only[aH,bn,aB,aI,aA,Nat.reduceEqDiff,↓reduceIte,h1,hq];rfl)) (by simp) ?_;simp (disch:=omega) only[wt,seval,reduceCtorEq,Nat.reduceEqDiff,Option.getD_some,h1,hq];rw[show a.length-q=0 by omega];rfl
 have h64:IntKind.u64.wrap (64-(r:Int))=((64-r:Nat):Int):=by rw[show (64:Int)-r=((64-r:Nat):Int) by omega];exact fZ (by simp only[W];omega)
 have hm1:=qm (a.getD q 0) (64-r) (by omega);refine⟨decide (0<(oK (a.take q):Int)) || (decide (¬((a.getD q 0*2^(64-r)%W:Nat):Int)=0) && decide (0<(r:Int))),?_⟩;generalize hb:(decide (0<(oK (a.take q):Int)) || (decide (¬((a.getD q 0*2^(64-r)%W:Nat):Int)=0) && decide (0<(r:Int))))=b0;have hV:=XA ha q;have hdl:(a.drop q).length=a.length-q:=by simp
 have hdw:∀i,(a.drop q).getD i 0=a.getD (q+i) 0:=λi=>by simp[List.getD,List.getElem?_drop]
 refine AC.aF (rs:=[.tmp 4,.tmp 5,.tmp 6]) bM Tryz.func154 (by rfl) (by rfl) (by rfl) (by rfl) (by rfl) ?_;simp (disch:=omega) only[wt,seval,reduceCtorEq,Nat.reduceEqDiff,Option.getD_some,h1,e1',e2',hw,hq];have htk:(a.take q).length<=2^43:=by rw[List.length_take];omega
 refine au ((Q7 (a.take q) htk)) (by first|rfl|(simp only[aH,bn,aB,aI,aA,Nat.reduceEqDiff,↓reduceIte,h1,hq];rfl)) (by simp) ?_;have emq:(a.length:Int)-(q:Int)=((a.length-q:Nat):Int):=by omega
 generalize hm:a.length-q=m at *;by_cases hA:0<(oK (a.take q):Int)
 .rw[decide_eq_true hA,Bool.true_or]at hb;simp (disch:=omega) only[wt,seval,reduceCtorEq,Nat.reduceEqDiff,Option.getD_some,hA,emq];refine bF (λf H=>∃(i st:Nat) (out:List Nat),i<=m/\Lim out/\out.length=m/\nv (out.take i)=nv (a.drop q)/2^r%W^i/\f 52=.iv (.int .i64 i)/\f 0=.iv (.sl (dJ a))/\f 7=.iv (.int .i64 q)/\f 8=.iv (.int .u64 r)/\f 9=.iv (.bool b0)/\f 10=.hs 49 st/\f 51=.iv (.int .i64 m)/\H 49=.blk false st 73 1 (dJ out)) (λf H=>(m-dQ f 52).toNat) ?_ ?_
  .refine⟨0,1,List.replicate m 0,by omega,Lim.replicate _,by simp,by simp[vl,Nat.mod_one],?_⟩;simp (disch:=omega) only[wt,seval,reduceCtorEq,Nat.reduceEqDiff,Option.getD_some,Int.toNat_natCast,hb]
  rintro f H ⟨i,st,out,hi,hO,hOl,hv,hF⟩;rw[bC hF.1];simp (disch:=omega) only[wt,seval,reduceCtorEq,Nat.reduceEqDiff,Option.getD_some,hF];refine bU (λhlt=>?_) (λhlt=>?_)
  .have ei:(q:Int)+(i:Int)=((q+i:Nat):Int):=by omega
   have ei1:((q+i:Nat):Int)+1=((q+i+1:Nat):Int):=by omega
   have hdg:=wL (V:=nv (a.drop q)) (i:=i) hr (jw (ha.drop q) i) (jw (ha.drop q) (i+1));rw[hdw,hdw,<-Nat.add_assoc]at hdg;have hsr:=og (a.getD (q+i) 0) r (by omega);have hx:=ha.get (q+i+1);have hsh:=(wu (x:=a.getD (q+i+1) 0) (r:=64-r) (by omega) hx).1;rw[show 64-(64-r)=r by omega]at hsh;have hm2:=qm (a.getD (q+i+1) 0) (64-r) (by omega);rw[hsh]at hm2;have hor:=GR (a.getD (q+i+1) 0%2^r) (a.getD (q+i) 0/2^r) (64-r) hdg.2.1 hdg.2.2;have hls:(out.set i (a.getD (q+i) 0/2^r)).length=m:=by simp[hOl]
   have hgs:(out.set i (a.getD (q+i) 0/2^r)).getD i 0=a.getD (q+i) 0/2^r:=lT (by omega) _;have hss:∀x y,(out.set i x).set i y=out.set i y:=λx y=>by simp
   simp (disch:=omega) only[wt,seval,reduceCtorEq,Nat.reduceEqDiff,Option.getD_some,hF,ei,hsr];refine bU (λhr0=>?_) (λhr0=>?_)
   .simp (disch:=omega) only[wt,seval,reduceCtorEq,Nat.reduceEqDiff,Option.getD_some,hF,ei,ei1,hgs];refine .inl ⟨aZ (by kernel_rfl),?_⟩;refine au ((zC a (q+i+1) (by omega))) (by first|rfl|(simp only[aH,bn,aB,aI,aA,Nat.reduceEqDiff,↓reduceIte,hF,h64,hm2,hor,hgs,hss];rfl)) (by simp) ?_;simp (disch:=omega) only[wt,seval,reduceCtorEq,Nat.reduceEqDiff,Option.getD_some,hF,h64,hm2,hor,hgs,hss]
    first|exact aN (by kernel_rfl)|refine⟨aN (by kernel_rfl),?_⟩
    refine⟨⟨i+1,st,out.set i (a.getD (q+i+1) 0%2^r*2^(64-r)+a.getD (q+i) 0/2^r),by omega,hO.set hdg.2.2,by simp[hOl],?_,by omega,rfl,rfl⟩,by omega⟩;simp only[nv]at hv hdg ⊢;rw[dW W (by omega),hv,<-hdg.1,Nat.mod_pow_succ]
   .simp (disch:=omega) only[wt,seval,reduceCtorEq,Nat.reduceEqDiff,Option.getD_some,hF,ei];have hr1:r=0:=by omega
    subst hr1;refine⟨⟨i+1,st,out.set i (a.getD (q+i) 0/2^0),by omega,hO.set (by rw[Nat.pow_zero,Nat.div_one];exact ha.get _),by simp[hOl],?_,by omega,rfl,rfl⟩,by omega⟩;have h0:=jw (ha.drop q) i;rw[hdw]at h0;simp only[nv,Nat.pow_zero,Nat.div_one]at hv h0 ⊢;rw[dW W (by omega),hv,h0,Nat.mod_pow_succ]
  .simp (disch:=omega) only[wt,seval,reduceCtorEq,Nat.reduceEqDiff,Option.getD_some,hF];have:i=m:=by omega
   subst this;rw[List.take_of_length_le (by omega),hV]at hv;rw[pK hO hOl hv]
 .by_cases hB:((a.getD q 0*2^(64-r)%W:Nat):Int)=0
  .rw[decide_eq_false hA,Bool.false_or,decide_eq_false (by simpa using hB),Bool.false_and]at hb;simp (disch:=omega) only[wt,seval,reduceCtorEq,Nat.reduceEqDiff,Option.getD_some,hA,emq,h64,hm1,hB];refine bF (λf H=>∃(i st:Nat) (out:List Nat),i<=m/\Lim out/\out.length=m/\nv (out.take i)=nv (a.drop q)/2^r%W^i/\f 52=.iv (.int .i64 i)/\f 0=.iv (.sl (dJ a))/\f 7=.iv (.int .i64 q)/\f 8=.iv (.int .u64 r)/\f 9=.iv (.bool b0)/\f 10=.hs 49 st/\f 51=.iv (.int .i64 m)/\H 49=.blk false st 73 1 (dJ out)) (λf H=>(m-dQ f 52).toNat) ?_ ?_
   .refine⟨0,1,List.replicate m 0,by omega,Lim.replicate _,by simp,by simp[vl,Nat.mod_one],?_⟩;simp (disch:=omega) only[wt,seval,reduceCtorEq,Nat.reduceEqDiff,Option.getD_some,Int.toNat_natCast,hb]
   rintro f H ⟨i,st,out,hi,hO,hOl,hv,hF⟩;rw[bC hF.1];simp (disch:=omega) only[wt,seval,reduceCtorEq,Nat.reduceEqDiff,Option.getD_some,hF];refine bU (λhlt=>?_) (λhlt=>?_)
   .have ei:(q:Int)+(i:Int)=((q+i:Nat):Int):=by omega
    have ei1:((q+i:Nat):Int)+1=((q+i+1:Nat):Int):=by omega
    have hdg:=wL (V:=nv (a.drop q)) (i:=i) hr (jw (ha.drop q) i) (jw (ha.drop q) (i+1));rw[hdw,hdw,<-Nat.add_assoc]at hdg;have hsr:=og (a.getD (q+i) 0) r (by omega);have hx:=ha.get (q+i+1);have hsh:=(wu (x:=a.getD (q+i+1) 0) (r:=64-r) (by omega) hx).1;rw[show 64-(64-r)=r by omega]at hsh;have hm2:=qm (a.getD (q+i+1) 0) (64-r) (by omega);rw[hsh]at hm2;have hor:=GR (a.getD (q+i+1) 0%2^r) (a.getD (q+i) 0/2^r) (64-r) hdg.2.1 hdg.2.2;have hls:(out.set i (a.getD (q+i) 0/2^r)).length=m:=by simp[hOl]
    have hgs:(out.set i (a.getD (q+i) 0/2^r)).getD i 0=a.getD (q+i) 0/2^r:=lT (by omega) _;have hss:∀x y,(out.set i x).set i y=out.set i y:=λx y=>by simp
    simp (disch:=omega) only[wt,seval,reduceCtorEq,Nat.reduceEqDiff,Option.getD_some,hF,ei,hsr];refine bU (λhr0=>?_) (λhr0=>?_)
    .simp (disch:=omega) only[wt,seval,reduceCtorEq,Nat.reduceEqDiff,Option.getD_some,hF,ei,ei1,hgs];refine .inl ⟨aZ (by kernel_rfl),?_⟩;refine au ((zC a (q+i+1) (by omega))) (by first|rfl|(simp only[aH,bn,aB,aI,aA,Nat.reduceEqDiff,↓reduceIte,hF,h64,hm2,hor,hgs,hss];rfl)) (by simp) ?_;simp (disch:=omega) only[wt,seval,reduceCtorEq,Nat.reduceEqDiff,Option.getD_some,hF,h64,hm2,hor,hgs,hss]
     first|exact aN (by kernel_rfl)|refine⟨aN (by kernel_rfl),?_⟩
     refine⟨⟨i+1,st,out.set i (a.getD (q+i+1) 0%2^r*2^(64-r)+a.getD (q+i) 0/2^r),by omega,hO.set hdg.2.2,by simp[hOl],?_,by omega,rfl,rfl⟩,by omega⟩;simp only[nv]at hv hdg ⊢;rw[dW W (by omega),hv,<-hdg.1,Nat.mod_pow_succ]
    .simp (disch:=omega) only[wt,seval,reduceCtorEq,Nat.reduceEqDiff,Option.getD_some,hF,ei];have hr1:r=0:=by omega
     subst hr1;refine⟨⟨i+1,st,out.set i (a.getD (q+i) 0/2^0),by omega,hO.set (by rw[Nat.pow_zero,Nat.div_one];exact ha.get _),by simp[hOl],?_,by omega,rfl,rfl⟩,by omega⟩;have h0:=jw (ha.drop q) i;rw[hdw]at h0;simp only[nv,Nat.pow_zero,Nat.div_one]at hv h0 ⊢;rw[dW W (by omega),hv,h0,Nat.mod_pow_succ]
   .simp (disch:=omega) only[wt,seval,reduceCtorEq,Nat.reduceEqDiff,Option.getD_some,hF];have:i=m:=by omega
    subst this;rw[List.take_of_length_le (by omega),hV]at hv;rw[pK hO hOl hv]
  .by_cases hC:0<(r:Int)
   .rw[decide_eq_false hA,Bool.false_or,decide_eq_true hB,decide_eq_true hC,Bool.true_and]at hb;simp (disch:=omega) only[wt,seval,reduceCtorEq,Nat.reduceEqDiff,Option.getD_some,hA,emq,h64,hm1,hB,hC];refine bF (λf H=>∃(i st:Nat) (out:List Nat),i<=m/\Lim out/\out.length=m/\nv (out.take i)=nv (a.drop q)/2^r%W^i/\f 52=.iv (.int .i64 i)/\f 0=.iv (.sl (dJ a))/\f 7=.iv (.int .i64 q)/\f 8=.iv (.int .u64 r)/\f 9=.iv (.bool b0)/\f 10=.hs 49 st/\f 51=.iv (.int .i64 m)/\H 49=.blk false st 73 1 (dJ out)) (λf H=>(m-dQ f 52).toNat) ?_ ?_
    .refine⟨0,1,List.replicate m 0,by omega,Lim.replicate _,by simp,by simp[vl,Nat.mod_one],?_⟩;simp (disch:=omega) only[wt,seval,reduceCtorEq,Nat.reduceEqDiff,Option.getD_some,Int.toNat_natCast,hb]
    rintro f H ⟨i,st,out,hi,hO,hOl,hv,hF⟩;rw[bC hF.1];simp (disch:=omega) only[wt,seval,reduceCtorEq,Nat.reduceEqDiff,Option.getD_some,hF];refine bU (λhlt=>?_) (λhlt=>?_)
    .have ei:(q:Int)+(i:Int)=((q+i:Nat):Int):=by omega
     have ei1:((q+i:Nat):Int)+1=((q+i+1:Nat):Int):=by omega
     have hdg:=wL (V:=nv (a.drop q)) (i:=i) hr (jw (ha.drop q) i) (jw (ha.drop q) (i+1));rw[hdw,hdw,<-Nat.add_assoc]at hdg;have hsr:=og (a.getD (q+i) 0) r (by omega);have hx:=ha.get (q+i+1);have hsh:=(wu (x:=a.getD (q+i+1) 0) (r:=64-r) (by omega) hx).1;rw[show 64-(64-r)=r by omega]at hsh;have hm2:=qm (a.getD (q+i+1) 0) (64-r) (by omega);rw[hsh]at hm2;have hor:=GR (a.getD (q+i+1) 0%2^r) (a.getD (q+i) 0/2^r) (64-r) hdg.2.1 hdg.2.2;have hls:(out.set i (a.getD (q+i) 0/2^r)).length=m:=by simp[hOl]
     have hgs:(out.set i (a.getD (q+i) 0/2^r)).getD i 0=a.getD (q+i) 0/2^r:=lT (by omega) _;have hss:∀x y,(out.set i x).set i y=out.set i y:=λx y=>by simp
     simp (disch:=omega) only[wt,seval,reduceCtorEq,Nat.reduceEqDiff,Option.getD_some,hF,ei,hsr];refine bU (λhr0=>?_) (λhr0=>?_)
     .simp (disch:=omega) only[wt,seval,reduceCtorEq,Nat.reduceEqDiff,Option.getD_some,hF,ei,ei1,hgs];refine .inl ⟨aZ (by kernel_rfl),?_⟩;refine au ((zC a (q+i+1) (by omega))) (by first|rfl|(simp only[aH,bn,aB,aI,aA,Nat.reduceEqDiff,↓reduceIte,hF,h64,hm2,hor,hgs,hss];rfl)) (by simp) ?_;simp (disch:=omega) only[wt,seval,reduceCtorEq,Nat.reduceEqDiff,Option.getD_some,hF,h64,hm2,hor,hgs,hss]
      first|exact aN (by kernel_rfl)|refine⟨aN (by kernel_rfl),?_⟩
      refine⟨⟨i+1,st,out.set i (a.getD (q+i+1) 0%2^r*2^(64-r)+a.getD (q+i) 0/2^r),by omega,hO.set hdg.2.2,by simp[hOl],?_,by omega,rfl,rfl⟩,by omega⟩;simp only[nv]at hv hdg ⊢;rw[dW W (by omega),hv,<-hdg.1,Nat.mod_pow_succ]
     .simp (disch:=omega) only[wt,seval,reduceCtorEq,Nat.reduceEqDiff,Option.getD_some,hF,ei];have hr1:r=0:=by omega
      subst hr1;refine⟨⟨i+1,st,out.set i (a.getD (q+i) 0/2^0),by omega,hO.set (by rw[Nat.pow_zero,Nat.div_one];exact ha.get _),by simp[hOl],?_,by omega,rfl,rfl⟩,by omega⟩;have h0:=jw (ha.drop q) i;rw[hdw]at h0;simp only[nv,Nat.pow_zero,Nat.div_one]at hv h0 ⊢;rw[dW W (by omega),hv,h0,Nat.mod_pow_succ]
    .simp (disch:=omega) only[wt,seval,reduceCtorEq,Nat.reduceEqDiff,Option.getD_some,hF];have:i=m:=by omega
     subst this;rw[List.take_of_length_le (by omega),hV]at hv;rw[pK hO hOl hv]
   .rw[decide_eq_false hA,Bool.false_or,decide_eq_true hB,decide_eq_false hC,Bool.true_and]at hb;simp (disch:=omega) only[wt,seval,reduceCtorEq,Nat.reduceEqDiff,Option.getD_some,hA,emq,h64,hm1,hB,hC];refine bF (λf H=>∃(i st:Nat) (out:List Nat),i<=m/\Lim out/\out.length=m/\nv (out.take i)=nv (a.drop q)/2^r%W^i/\f 52=.iv (.int .i64 i)/\f 0=.iv (.sl (dJ a))/\f 7=.iv (.int .i64 q)/\f 8=.iv (.int .u64 r)/\f 9=.iv (.bool b0)/\f 10=.hs 49 st/\f 51=.iv (.int .i64 m)/\H 49=.blk false st 73 1 (dJ out)) (λf H=>(m-dQ f 52).toNat) ?_ ?_
    .refine⟨0,1,List.replicate m 0,by omega,Lim.replicate _,by simp,by simp[vl,Nat.mod_one],?_⟩;simp (disch:=omega) only[wt,seval,reduceCtorEq,Nat.reduceEqDiff,Option.getD_some,Int.toNat_natCast,hb]
    rintro f H ⟨i,st,out,hi,hO,hOl,hv,hF⟩;rw[bC hF.1];simp (disch:=omega) only[wt,seval,reduceCtorEq,Nat.reduceEqDiff,Option.getD_some,hF];refine bU (λhlt=>?_) (λhlt=>?_)
    .have ei:(q:Int)+(i:Int)=((q+i:Nat):Int):=by omega
     have ei1:((q+i:Nat):Int)+1=((q+i+1:Nat):Int):=by omega
     have hdg:=wL (V:=nv (a.drop q)) (i:=i) hr (jw (ha.drop q) i) (jw (ha.drop q) (i+1));rw[hdw,hdw,<-Nat.add_assoc]at hdg;have hsr:=og (a.getD (q+i) 0) r (by omega);have hx:=ha.get (q+i+1);have hsh:=(wu (x:=a.getD (q+i+1) 0) (r:=64-r) (by omega) hx).1;rw[show 64-(64-r)=r by omega]at hsh;have hm2:=qm (a.getD (q+i+1) 0) (64-r) (by omega);rw[hsh]at hm2;have hor:=GR (a.getD (q+i+1) 0%2^r) (a.getD (q+i) 0/2^r) (64-r) hdg.2.1 hdg.2.2;have hls:(out.set i (a.getD (q+i) 0/2^r)).length=m:=by simp[hOl]
     have hgs:(out.set i (a.getD (q+i) 0/2^r)).getD i 0=a.getD (q+i) 0/2^r:=lT (by omega) _;have hss:∀x y,(out.set i x).set i y=out.set i y:=λx y=>by simp
     simp (disch:=omega) only[wt,seval,reduceCtorEq,Nat.reduceEqDiff,Option.getD_some,hF,ei,hsr];refine bU (λhr0=>?_) (λhr0=>?_)
     .simp (disch:=omega) only[wt,seval,reduceCtorEq,Nat.reduceEqDiff,Option.getD_some,hF,ei,ei1,hgs];refine .inl ⟨aZ (by kernel_rfl),?_⟩;refine au ((zC a (q+i+1) (by omega))) (by first|rfl|(simp only[aH,bn,aB,aI,aA,Nat.reduceEqDiff,↓reduceIte,hF,h64,hm2,hor,hgs,hss];rfl)) (by simp) ?_;simp (disch:=omega) only[wt,seval,reduceCtorEq,Nat.reduceEqDiff,Option.getD_some,hF,h64,hm2,hor,hgs,hss]
      first|exact aN (by kernel_rfl)|refine⟨aN (by kernel_rfl),?_⟩
      refine⟨⟨i+1,st,out.set i (a.getD (q+i+1) 0%2^r*2^(64-r)+a.getD (q+i) 0/2^r),by omega,hO.set hdg.2.2,by simp[hOl],?_,by omega,rfl,rfl⟩,by omega⟩;simp only[nv]at hv hdg ⊢;rw[dW W (by omega),hv,<-hdg.1,Nat.mod_pow_succ]
     .simp (disch:=omega) only[wt,seval,reduceCtorEq,Nat.reduceEqDiff,Option.getD_some,hF,ei];have hr1:r=0:=by omega
      subst hr1;refine⟨⟨i+1,st,out.set i (a.getD (q+i) 0/2^0),by omega,hO.set (by rw[Nat.pow_zero,Nat.div_one];exact ha.get _),by simp[hOl],?_,by omega,rfl,rfl⟩,by omega⟩;have h0:=jw (ha.drop q) i;rw[hdw]at h0;simp only[nv,Nat.pow_zero,Nat.div_one]at hv h0 ⊢;rw[dW W (by omega),hv,h0,Nat.mod_pow_succ]
    .simp (disch:=omega) only[wt,seval,reduceCtorEq,Nat.reduceEqDiff,Option.getD_some,hF];have:i=m:=by omega
     subst this;rw[List.take_of_length_le (by omega),hV]at hv;rw[pK hO hOl hv]
theorem XF (a:List Nat)(n:Nat)(ha:Lim a)(hl:a.length<=2^40)(hn:n<=2^60):AC Tryz.prog 131 [cl a,ci n] none [cl (wd (nv a/2^n)),ci 0]:=by
 obtain⟨b,hb⟩:=a6Y a n ha hl hn;refine AC.aF (rs:=[.tmp 4,.tmp 5]) bM Tryz.func131 (by rfl) (by rfl) (by rfl) (by rfl) (by rfl) ?_;have h1:¬(n:Int)<0:=by omega
 simp (disch:=omega) only[wt,seval,reduceCtorEq,Nat.reduceEqDiff,Option.getD_some,h1];refine au (hb) (by first|rfl|(simp only[aH,bn,aB,aI,aA,Nat.reduceEqDiff,↓reduceIte,h1];rfl)) (by simp) ?_;simp (disch:=omega) only[wt,seval,reduceCtorEq,Nat.reduceEqDiff,Option.getD_some,h1];have:=EN (pad (a.length-n/64) (nv a/2^n)) (oq _ _) (by rw[jT];omega);have e:nv (pad (a.length-n/64) (nv a/2^n))=nv a/2^n:=by
  rw[sV,Nat.mod_eq_of_lt];have h2:=jm ha;have hd:=Nat.div_add_mod n 64;have e1:2^n=W^(n/64)*2^(n%64):=by rw[show W=2^64 from rfl,<-Nat.pow_mul,<-Nat.pow_add,hd]
  rw[e1,<-Nat.div_div_eq_div_mul];refine Nat.lt_of_le_of_lt (Nat.div_le_self _ _) ?_;rw[Nat.div_lt_iff_lt_mul (fK _),<-Nat.pow_add];exact Nat.lt_of_lt_of_le h2 (Nat.pow_le_pow_right (by decide) (by omega))
 rw[e]at this;refine au (this) (by first|rfl|(simp only[aH,bn,aB,aI,aA,Nat.reduceEqDiff,↓reduceIte,h1];rfl)) (by simp) ?_;simp (disch:=omega) only[wt,seval,reduceCtorEq,Nat.reduceEqDiff,Option.getD_some,h1]
theorem a2s (a b:List Nat)(ha:Lim a)(hb:Lim b)(hla:a.length<=2^40)(hlb:b.length<=2^40) :
  AC Tryz.prog 96 [cl a,cl b] (some (0,73,1,dJ (pad (max a.length b.length) (nv a+nv b)))) [cl (pad (max a.length b.length) (nv a+nv b)),cu ((nv a+nv b)/W^(max a.length b.length))]:=by
 refine AC.aF (rs:=[.tmp 4,.tmp 5]) bM Tryz.func96 (by rfl) (by rfl) (by rfl) (by rfl) (by rfl) ?_;simp (disch:=omega) only[wt,seval,reduceCtorEq,Nat.reduceEqDiff,Option.getD_some];refine zN (λf H=>∃A B,B.length<=A.length/\A.length<=2^40/\Lim A/\Lim B/\A.length=max a.length b.length/\nv A+nv B=nv a+nv b/\f 0=.iv (.sl (dJ A))/\f 1=.iv (.sl (dJ B))) ?_ ?_
 .refine bU (λhz=>?_) (λhz=>?_)
  .simp (disch:=omega) only[wt,seval,reduceCtorEq,Nat.reduceEqDiff,Option.getD_some];exact⟨b,a,by omega,by omega,hb,ha,by omega,by omega,rfl,rfl⟩
  .simp (disch:=omega) only[wt,seval,reduceCtorEq,Nat.reduceEqDiff,Option.getD_some];exact⟨a,b,by omega,by omega,ha,hb,by omega,by omega,rfl,rfl⟩
 rintro f H ⟨A,B,hBA,hAl,hA,hB,hAm,hAB,h0,h1⟩;rw[<-hAm,<-hAB];simp (disch:=omega) only[wt,seval,reduceCtorEq,Nat.reduceEqDiff,Option.getD_some,h0,h1];refine au ((qO A (by omega))) (by first|rfl|(simp only[aH,bn,aB,aI,aA,Nat.reduceEqDiff,↓reduceIte,h0,h1];rfl)) (by simp) ?_;simp (disch:=omega) only[wt,seval,reduceCtorEq,Nat.reduceEqDiff,Option.getD_some,h0,h1];refine bF (λf H=>∃(i c:Nat) (out:List Nat) (st:Nat),i<=A.length/\c<=1/\Lim out/\out.length=A.length/\out.drop i=A.drop i/\nv (out.take i)+W^i*c=nv (A.take i)+nv (B.take i) /\
  f 0=.iv (.sl (dJ A))/\f 1=.iv (.sl (dJ B))/\f 6=.hs 17 st/\f 7=.iv (.int .u64 c)/\f 19=.iv (.int .i64 A.length)/\f 20=.iv (.int .i64 i)/\H 17=.blk false st 73 1 (dJ out)) (λf H=>(A.length-dQ f 20).toNat) ?_ ?_
 .exact⟨0,0,A,(H 17).stamp+1,by omega,by omega,hA,rfl,rfl,by simp[vl],by simp (disch:=omega) only[wt,seval,reduceCtorEq,Nat.reduceEqDiff,Option.getD_some,h0],by simp (disch:=omega) only[wt,seval,reduceCtorEq,Nat.reduceEqDiff,Option.getD_some,h1],by simp (disch:=omega) only[wt,seval,reduceCtorEq,Nat.reduceEqDiff,Option.getD_some],by simp (disch:=omega) only[wt,seval,reduceCtorEq,Nat.reduceEqDiff,Option.getD_some],by simp (disch:=omega) only[wt,seval,reduceCtorEq,Nat.reduceEqDiff,Option.getD_some],by simp (disch:=omega) only[wt,seval,reduceCtorEq,Nat.reduceEqDiff,Option.getD_some],by simp (disch:=omega) only[wt,seval,reduceCtorEq,Nat.reduceEqDiff,Option.getD_some]⟩
 clear h0 h1;rintro f H ⟨i,c,out,st,hi,hc,hO,hOl,hOd,hOv,h0,h1,h6,h7,h19,h20,hH⟩;rw[bC h20];simp (disch:=omega) only[wt,seval,reduceCtorEq,Nat.reduceEqDiff,Option.getD_some,h0,h1,h6,h7,h19,h20,hH];refine bU (λhlt=>?_) (λhlt=>?_)
 .by_cases hb':(B.length:Int)<=i
  .by_cases hc':(c:Int)=0
   .simp (disch:=omega) only[wt,seval,reduceCtorEq,Nat.reduceEqDiff,Option.getD_some,h0,h1,h6,h7,h19,h20,hH,hb',hc'];obtain rfl:c=0:=by omega
    have e1:nv out=nv A+nv B:=by
     have e2:=ig W out (k:=i) (by omega);have e3:=ig W A (k:=i) (by omega);rw[List.take_of_length_le (l:=B) (by omega)]at hOv;rw[hOd]at e2;simp only[nv]at *;omega
    have e2:nv A+nv B<W^A.length:=by rw[<-e1,<-hOl];exact jm hO
    rw[<-pK hO hOl (s:=nv A+nv B) (by rw[e1,Nat.mod_eq_of_lt e2]),Nat.div_eq_of_lt e2];exact⟨rfl,rfl⟩
   .simp (disch:=omega) only[wt,seval,reduceCtorEq,Nat.reduceEqDiff,Option.getD_some,h0,h1,h6,h7,h19,h20,hH,hb',hc'];refine .inl ⟨aZ (by kernel_rfl),?_⟩;refine au ((zC B i (by omega))) (by first|rfl|(simp only[aH,bn,aB,aI,aA,Nat.reduceEqDiff,↓reduceIte,h0,h1,h6,h7,h19,h20,hH];rfl)) (by simp) ?_;simp (disch:=omega) only[wt,seval,reduceCtorEq,Nat.reduceEqDiff,Option.getD_some,h0,h1,h6,h7,h19,h20,hH];refine au ((DK (A.getD i 0) (B.getD i 0) c (hA.get i) (hB.get i) (by simp only[W];omega))) (by first|rfl|(simp only[aH,bn,aB,aI,aA,Nat.reduceEqDiff,↓reduceIte,h0,h1,h6,h7,h19,h20,hH];rfl)) (by simp) ?_;simp (disch:=omega) only[wt,seval,reduceCtorEq,Nat.reduceEqDiff,Option.getD_some,h0,h1,h6,h7,h19,h20,hH]
    first|exact aN (by kernel_rfl)|refine⟨aN (by kernel_rfl),?_⟩
    have hx:=hA.get i;have hy:=hB.get i

    refine⟨⟨i+1,(A.getD i 0+B.getD i 0+c)/W,out.set i ((A.getD i 0+B.getD i 0+c)%W),st,by omega,by simp only[W]at *;omega,hO.set (Nat.mod_lt _ (by decide)),by simp[hOl],?_,?_,rfl,rfl,by omega,rfl⟩,by omega⟩
    .rw[List.drop_set_of_lt (by omega)];have:=congrArg (List.drop 1) hOd;simpa using this
    .simp only[nv]at *;rw[dW W (by omega),Nat.pow_succ,dn,dn];exact uQ hOv (by simp only[W];omega)
  .simp (disch:=omega) only[wt,seval,reduceCtorEq,Nat.reduceEqDiff,Option.getD_some,h0,h1,h6,h7,h19,h20,hH,hb'];refine .inl ⟨aZ (by kernel_rfl),?_⟩;refine au ((zC B i (by omega))) (by first|rfl|(simp only[aH,bn,aB,aI,aA,Nat.reduceEqDiff,↓reduceIte,h0,h1,h6,h7,h19,h20,hH];rfl)) (by simp) ?_;simp (disch:=omega) only[wt,seval,reduceCtorEq,Nat.reduceEqDiff,Option.getD_some,h0,h1,h6,h7,h19,h20,hH];refine au ((DK (A.getD i 0) (B.getD i 0) c (hA.get i) (hB.get i) (by simp only[W];omega))) (by first|rfl|(simp only[aH,bn,aB,aI,aA,Nat.reduceEqDiff,↓reduceIte,h0,h1,h6,h7,h19,h20,hH];rfl)) (by simp) ?_;simp (disch:=omega) only[wt,seval,reduceCtorEq,Nat.reduceEqDiff,Option.getD_some,h0,h1,h6,h7,h19,h20,hH]
   first|exact aN (by kernel_rfl)|refine⟨aN (by kernel_rfl),?_⟩
   have hx:=hA.get i;have hy:=hB.get i

   refine⟨⟨i+1,(A.getD i 0+B.getD i 0+c)/W,out.set i ((A.getD i 0+B.getD i 0+c)%W),st,by omega,by simp only[W]at *;omega,hO.set (Nat.mod_lt _ (by decide)),by simp[hOl],?_,?_,rfl,rfl,by omega,rfl⟩,by omega⟩
   .rw[List.drop_set_of_lt (by omega)];have:=congrArg (List.drop 1) hOd;simpa using this
   .simp only[nv]at *;rw[dW W (by omega),Nat.pow_succ,dn,dn];exact uQ hOv (by simp only[W];omega)
 .simp (disch:=omega) only[wt,seval,reduceCtorEq,Nat.reduceEqDiff,Option.getD_some,h0,h1,h6,h7,h19,h20,hH];have hiA:i=A.length:=by omega
  subst hiA;rw[List.take_of_length_le (by omega),List.take_length,List.take_of_length_le (by omega)]at hOv;have hlt':=jm hO;rw[hOl]at hlt';have e2:(nv A+nv B)/W^A.length=c:=by
   rw[<-hOv,Nat.add_mul_div_left _ _ (fK _),Nat.div_eq_of_lt hlt',Nat.zero_add]
  rw[e2,<-pK hO hOl (s:=nv A+nv B) (by rw[<-hOv,Nat.add_mul_mod_self_left,Nat.mod_eq_of_lt hlt'])];exact⟨rfl,rfl⟩
theorem Tq {x y N o c:Nat}(h:o+y=x+N*c)(ho:o<N):c=(y-x+N-1)/N/\o=x+N*c-y:=by
 refine⟨?_,by omega⟩
 symm
 rcases Nat.le_total x y with hxy|hxy
 .refine Nat.div_eq_of_lt_le ?_ ?_
  .rw[Nat.mul_comm];omega
  .rw[Nat.mul_comm,Nat.mul_succ];omega
 .have hc:c=0:=by
   rcases Nat.eq_zero_or_pos c with h0|h0
   .exact h0
   .have:=Nat.mul_le_mul_left N h0;omega
  subst hc;rw[show y-x=0 by omega];exact Nat.div_eq_of_lt (by omega)
def a0O (x y N:Nat):Nat:=(y-x+N-1)/N
theorem Ub {x w c:Nat}(hx:x<W)(hw:w<W)(hc:c<W):x*w+c<=(W-1)*W:=by
 have h1:x*w<=(W-1)*(W-1):=Nat.mul_le_mul (by omega) (by omega);simp only[W]at *;omega
theorem XM (a b:List Nat)(w:Nat)(ha:Lim a)(hb:Lim b)(hw:w<W)(hla:a.length<=2^40)(hlb:b.length<=a.length) :
  AC Tryz.prog 140 [cl a,cl b,cu w] (some (0,73,1,dJ (pad a.length (nv a+W^a.length*a0O (nv a) (nv b*w) (W^a.length)-nv b*w)))) [cl (pad a.length (nv a+W^a.length*a0O (nv a) (nv b*w) (W^a.length)-nv b*w)),cu (a0O (nv a) (nv b*w) (W^a.length)),ci 0]:=by
 refine AC.aF (rs:=[.tmp 6,.tmp 7,.tmp 8]) bM Tryz.func140 (by rfl) (by rfl) (by rfl) (by rfl) (by rfl) ?_;have h1:¬(a.length:Int)<b.length:=by omega
 simp (disch:=omega) only[wt,seval,reduceCtorEq,Nat.reduceEqDiff,Option.getD_some,h1];refine au ((qO a (by omega))) (by first|rfl|(simp only[aH,bn,aB,aI,aA,Nat.reduceEqDiff,↓reduceIte,h1];rfl)) (by simp) ?_;simp (disch:=omega) only[wt,seval,reduceCtorEq,Nat.reduceEqDiff,Option.getD_some,h1];refine bF (λf H=>∃(i c st:Nat) (out:List Nat),i<=a.length/\c<W/\Lim out/\out.length=a.length/\out.drop i=a.drop i/\nv (out.take i)+nv (b.take i)*w=nv (a.take i)+W^i*c/\f 25=.iv (.int .i64 i)/\f 1=.iv (.sl (dJ b))/\f 2=.iv (.int .u64 w)/\f 9=.hs 22 st/\f 10=.iv (.int .u64 c)/\f 24=.iv (.int .i64 a.length)/\H 22=.blk false st 73 1 (dJ out)) (λf H=>(a.length-dQ f 25).toNat) ?_ ?_
 .refine⟨0,0,1,a,by omega,by decide,ha,rfl,rfl,by simp[vl],?_⟩;simp (disch:=omega) only[wt,seval,reduceCtorEq,Nat.reduceEqDiff,Option.getD_some]
 rintro f H ⟨i,c,st,out,hi,hc,hO,hOl,hOd,hv,hF⟩;rw[bC hF.1];simp (disch:=omega) only[wt,seval,reduceCtorEq,Nat.reduceEqDiff,Option.getD_some,hF];refine bU (λhlt=>?_) (λhlt=>?_)
 .have hx:=ha.get i;have hy:=hb.get i;have hoi:out.getD i 0=a.getD i 0:=by
   have e1:out.getD i 0=(out.drop i).getD 0 0:=by simp[List.getD,List.getElem?_drop]
   have e2:a.getD i 0=(a.drop i).getD 0 0:=by simp[List.getD,List.getElem?_drop]
   rw[e1,e2,hOd]
  have hbd:=Ub hy hw hc;simp (disch:=omega) only[wt,seval,reduceCtorEq,Nat.reduceEqDiff,Option.getD_some,hF];refine au ((zC b i (by omega))) (by first|rfl|(simp only[aH,bn,aB,aI,aA,Nat.reduceEqDiff,↓reduceIte,hF];rfl)) (by simp) ?_;simp (disch:=omega) only[wt,seval,reduceCtorEq,Nat.reduceEqDiff,Option.getD_some,hF];have m:=XL (b.getD i 0) w c 0 hy hw hc (by decide);rw[Nat.add_zero]at m;refine au (m) (by first|rfl|(simp only[aH,bn,aB,aI,aA,Nat.reduceEqDiff,↓reduceIte,hF];rfl)) (by simp) ?_;simp (disch:=omega) only[wt,seval,reduceCtorEq,Nat.reduceEqDiff,Option.getD_some,hF];have hdm:=Nat.div_add_mod (b.getD i 0*w+c) W;have hlo:(b.getD i 0*w+c)%W<W:=Nat.mod_lt _ (by decide);generalize (b.getD i 0*w+c)/W=hi' at *;generalize (b.getD i 0*w+c)%W=lo at *;have s:=VY (out.getD i 0) lo 0 (by rw[hoi];exact hx) hlo (by omega);rw[hoi]at s;obtain⟨bo,hbo,hd1,hd2,hcb⟩:∃bo,(if a.getD i 0<lo+0 then 1 else 0)=bo/\(a.getD i 0+W-lo-0)%W<W/\(a.getD i 0+W-lo-0)%W+lo=a.getD i 0+W*bo/\hi'+bo<W:=by
   refine⟨_,rfl,Nat.mod_lt _ (by decide),?_,?_⟩
   .simp only[W]at *;split<;>omega
   .simp only[W]at *;split<;>omega
  rw[hbo]at s;generalize (a.getD i 0+W-lo-0)%W=d at *;have hwc:IntKind.u64.wrap ((hi':Int)+(bo:Int))=((hi'+bo:Nat):Int):=fG hcb;refine au (s) (by first|rfl|(simp only[aH,bn,aB,aI,aA,Nat.reduceEqDiff,↓reduceIte,hF,hoi,hwc];rfl)) (by simp) ?_;simp (disch:=omega) only[wt,seval,reduceCtorEq,Nat.reduceEqDiff,Option.getD_some,hF,hoi,hwc];refine⟨⟨i+1,hi'+bo,st,out.set i d,by omega,hcb,hO.set hd1,by simp[hOl],?_,?_,by omega,rfl,rfl,rfl⟩,by omega⟩
  .rw[List.drop_set_of_lt (by omega)];have:=congrArg (List.drop 1) hOd;simpa using this
  .simp only[nv]at hv ⊢;rw[dW W (by omega),Nat.pow_succ,dn,dn,Nat.add_mul];have key:W^i*d+W^i*b.getD i 0*w+W^i*c=W^i*a.getD i 0+W^i*W*(hi'+bo):=by
    rw[Nat.mul_assoc,Nat.mul_assoc,<-Nat.mul_add,<-Nat.mul_add,<-Nat.mul_add]
    congr 1
    rw[Nat.mul_add];omega
   omega
 .simp (disch:=omega) only[wt,seval,reduceCtorEq,Nat.reduceEqDiff,Option.getD_some,hF];have:i=a.length:=by omega
  subst this;rw[List.take_of_length_le (by omega),List.take_of_length_le (by omega),List.take_length]at hv;have h5:=jm hO;rw[hOl]at h5;obtain⟨e1,e2⟩:=Tq hv h5;have e3:c=a0O (nv a) (nv b*w) (W^a.length):=e1;rw[<-e3,<-e2,<-pK hO hOl (s:=nv out) (Nat.mod_eq_of_lt h5).symm];exact⟨rfl,rfl⟩
def gd3 (u2 u1 u0 v1 v0:Nat):Nat:=min (((u2*W+u1)*W+u0)/(v1*W+v0)) (W-1)
theorem Rx {v1 v0:Nat}(h:0<v1):0<v1*W+v0:=by
 have:=Nat.mul_le_mul_right W h;simp only[W]at *;omega
theorem Yt {u2 u1 u0 v1 v0 q r:Nat}(he:q*v1+r=u2*W+u1)(hv:0<v1)(hq:q<W)(hc:q*v0<=r*W+u0)(hg:gd3 u2 u1 u0 v1 v0<=q):q=gd3 u2 u1 u0 v1 v0:=by
 refine Nat.le_antisymm ?_ hg;refine Nat.le_min.mpr ⟨?_,Nat.le_sub_one_of_lt hq⟩;rw[Nat.le_div_iff_mul_le (Rx hv),<-he,Nat.mul_add,<-Nat.mul_assoc,Nat.add_mul,Nat.add_assoc];omega
theorem a2G {u2 u1 u0 v1 v0 q r:Nat}(he:q*v1+r=u2*W+u1)(hv:0<v1)(hc:r*W+u0<q*v0):gd3 u2 u1 u0 v1 v0<=q-1/\0<q:=by
 have hq:0<q:=by
  rcases Nat.eq_zero_or_pos q with h|h
  .rw[h,Nat.zero_mul]at hc;exact absurd hc (Nat.not_lt_zero _)
  .exact h
 refine⟨?_,hq⟩;have:((u2*W+u1)*W+u0)/(v1*W+v0)<q:=by
  rw[Nat.div_lt_iff_lt_mul (Rx hv),<-he,Nat.mul_add,<-Nat.mul_assoc,Nat.add_mul,Nat.add_assoc];exact Nat.add_lt_add_left hc _
 exact Nat.le_trans (Nat.min_le_left _ _) (Nat.le_sub_one_of_lt this)
theorem FB (q r u2 u1 u0 v1 v0:Nat)(hq:q<W)(hr:r<W)(h0:u0<W)(hv1:v1<W)(hv0:v0<W)(hv:0<v1)(he:q*v1+r=u2*W+u1)(hg:gd3 u2 u1 u0 v1 v0<=q) :
  AC Tryz.prog 162 [cu q,cu r,cu u0,cu v1,cu v0] none [cu (gd3 u2 u1 u0 v1 v0)]:=by
 refine AC.aF (rs:=[.tmp 10]) bM Tryz.func162 (by rfl) (by rfl) (by rfl) (by rfl) (by rfl) ?_;simp (disch:=omega) only[wt,seval,reduceCtorEq,Nat.reduceEqDiff,Option.getD_some];refine bF (λf H=>∃(q r:Nat),q*v1+r=u2*W+u1/\gd3 u2 u1 u0 v1 v0<=q/\q<W/\r<W/\f 0=.iv (.int .u64 q)/\f 1=.iv (.int .u64 r)/\f 2=.iv (.int .u64 u0)/\f 3=.iv (.int .u64 v1)/\f 4=.iv (.int .u64 v0)) (λf H=>(dQ f 0).toNat) ?_ ?_
 .refine⟨q,r,he,hg,hq,hr,?_⟩;simp (disch:=omega) only[wt,seval,reduceCtorEq,Nat.reduceEqDiff,Option.getD_some]
 rintro f H ⟨q,r,he,hg,hq,hr,hF⟩;rw[bC hF.1];simp (disch:=omega) only[wt,seval,reduceCtorEq,Nat.reduceEqDiff,Option.getD_some,hF];have hdm:=Nat.div_add_mod (q*v0) W;have hlo:q*v0%W<W:=Nat.mod_lt _ (by decide);have hm:=QJ q v0 hq hv0;obtain⟨hi,ehi⟩:∃hi,q*v0/W=hi:=⟨_,rfl⟩;obtain⟨lo,elo⟩:∃lo,q*v0%W=lo:=⟨_,rfl⟩;rw[ehi,elo]at hm;rw[ehi,elo]at hdm;rw[elo]at hlo;clear ehi elo;refine au (hm) (by first|rfl|(simp only[aH,bn,aB,aI,aA,Nat.reduceEqDiff,↓reduceIte,hF];rfl)) (by simp) ?_;by_cases hc:q*v0<=r*W+u0
 .have e:=Yt he hv hq hc hg;by_cases h1:(hi:Int)<r
  .simp (disch:=omega) only[wt,seval,reduceCtorEq,Nat.reduceEqDiff,Option.getD_some,hF,h1];rw[e]
  .have h2:(hi:Int)=r:=by simp only[W]at *;omega
   have h3:(lo:Int)<=u0:=by simp only[W]at *;omega
   have h2:=eq_true h2;simp (disch:=omega) only[wt,seval,reduceCtorEq,Nat.reduceEqDiff,Option.getD_some,hF,h1,h2,h3];rw[e]
 .obtain⟨hg',hq0⟩:=a2G he hv (Nat.lt_of_not_le hc);have he':(q-1)*v1+(r+v1)=u2*W+u1:=by
   obtain⟨k,rfl⟩:∃k,q=k+1:=⟨q-1,by omega⟩;rw[Nat.add_sub_cancel,<-he,Nat.succ_mul];omega
  have h1:¬(hi:Int)<r:=by simp only[W]at *;omega
  have hw1:IntKind.u64.wrap ((q:Int)-1)=((q-1:Nat):Int):=by rw[show (q:Int)-1=((q-1:Nat):Int) by omega];exact fZ (by omega)
  have had:=Bl r v1 0 (by omega);rw[Nat.add_zero]at had;have last:1<=(r+v1)/W->q-1=gd3 u2 u1 u0 v1 v0:=λh=>by
   refine Yt he' hv (by omega) ?_ hg';have h1:W<=r+v1:=by
    have:=Nat.div_mul_le_self (r+v1) W;have:=Nat.mul_le_mul_right W h;omega
   have g1:(q-1)*v0<=(W-1)*(W-1):=Nat.mul_le_mul (by omega) (by omega);have g2:=Nat.mul_le_mul_right W h1;simp only[W]at *;omega
  have hle1:(r+v1)/W<=1:=by simp only[W]at *;omega
  have hmod:(r+v1)/W=0->(r+v1)%W=r+v1:=λh=>by simp only[W]at *;omega
  have b2V:(r+v1)%W<W:=Nat.mod_lt _ (by decide);obtain⟨cy,ecy⟩:∃cy,(r+v1)/W=cy:=⟨_,rfl⟩;obtain⟨sm,esm⟩:∃sm,(r+v1)%W=sm:=⟨_,rfl⟩;rw[ecy,esm]at had;rw[ecy]at last hle1 hmod;rw[esm]at hmod b2V;clear ecy esm;by_cases h2:(hi:Int)=r
  .have h3:¬(lo:Int)<=u0:=by simp only[W]at *;omega
   have h2:=eq_true h2;simp (disch:=omega) only[wt,seval,reduceCtorEq,Nat.reduceEqDiff,Option.getD_some,hF,h1,h2,h3,hw1];refine au (had) (by first|rfl|(simp only[aH,bn,aB,aI,aA,Nat.reduceEqDiff,↓reduceIte,hF];rfl)) (by simp) ?_;simp (disch:=omega) only[wt,seval,reduceCtorEq,Nat.reduceEqDiff,Option.getD_some,hF];refine bU (λh4=>?_) (λh4=>?_)
   .simp (disch:=omega) only[wt,seval,reduceCtorEq,Nat.reduceEqDiff,Option.getD_some,hF];rw[last (by omega)]
   .simp (disch:=omega) only[wt,seval,reduceCtorEq,Nat.reduceEqDiff,Option.getD_some,hF];have h5:=hmod (by omega);exact⟨⟨q-1,sm,by rw[h5];exact he',hg',by omega,b2V,rfl,rfl⟩,by omega⟩
  .simp (disch:=omega) only[wt,seval,reduceCtorEq,Nat.reduceEqDiff,Option.getD_some,hF,h1,h2,hw1];refine au (had) (by first|rfl|(simp only[aH,bn,aB,aI,aA,Nat.reduceEqDiff,↓reduceIte,hF];rfl)) (by simp) ?_;simp (disch:=omega) only[wt,seval,reduceCtorEq,Nat.reduceEqDiff,Option.getD_some,hF];refine bU (λh4=>?_) (λh4=>?_)
   .simp (disch:=omega) only[wt,seval,reduceCtorEq,Nat.reduceEqDiff,Option.getD_some,hF];rw[last (by omega)]
   .simp (disch:=omega) only[wt,seval,reduceCtorEq,Nat.reduceEqDiff,Option.getD_some,hF];have h5:=hmod (by omega);exact⟨⟨q-1,sm,by rw[h5];exact he',hg',by omega,b2V,rfl,rfl⟩,by omega⟩
theorem a7x {u2 u1 u0 v1 v0:Nat}(hv:0<v1)(h0:u0<W):gd3 u2 u1 u0 v1 v0<=(u2*W+u1)/v1:=by
 have h2:=Nat.div_mul_le_self ((u2*W+u1)*W+u0) (v1*W+v0);have h6:gd3 u2 u1 u0 v1 v0<=((u2*W+u1)*W+u0)/(v1*W+v0):=Nat.min_le_left _ _;obtain⟨x,hx⟩:∃x,((u2*W+u1)*W+u0)/(v1*W+v0)=x:=⟨_,rfl⟩;rw[hx]at h2 h6;refine Nat.le_trans h6 ?_;rw[Nat.le_div_iff_mul_le hv];clear hx h6;rw[Nat.mul_add,<-Nat.mul_assoc]at h2;rcases Nat.lt_or_ge (u2*W+u1) (x*v1) with h|h
 .have h3:=Nat.mul_le_mul_right W h;rw[Nat.succ_mul]at h3;have h4:x*v1*W<=(u2*W+u1)*W+u0:=Nat.le_trans (Nat.le_add_right _ _) h2;have h5:=Nat.le_trans h3 h4;exact absurd h0 (Nat.not_lt.mpr (Nat.le_of_add_le_add_left h5))
 .exact h
theorem a2C (u2 u1 u0 v1 v0:Nat)(h2:u2<=v1)(h1:u1<W)(h0:u0<W)(hv1:v1<W)(hv0:v0<W)(hv:0<v1) :
  AC Tryz.prog 139 [cu u2,cu u1,cu u0,cu v1,cu v0] none [cu (gd3 u2 u1 u0 v1 v0)]:=by
 refine AC.aF (rs:=[.tmp 10]) bM Tryz.func139 (by rfl) (by rfl) (by rfl) (by rfl) (by rfl) ?_;simp (disch:=omega) only[wt,seval,reduceCtorEq,Nat.reduceEqDiff];refine bU (λhz=>?_) (λhz=>?_)
 .have hu:u2=v1:=by omega
  subst hu;simp (disch:=omega) only[wt,seval,reduceCtorEq,Nat.reduceEqDiff];have had:=Bl u1 u2 0 (by omega);rw[Nat.add_zero]at had;have hle1:(u1+u2)/W<=1:=by simp only[W]at *;omega
  have hmod:(u1+u2)/W=0->(u1+u2)%W=u1+u2/\u1+u2<W:=λh=>by simp only[W]at *;omega
  have hge:(u1+u2)/W=1->W<=u1+u2:=λh=>by simp only[W]at *;omega
  have he:(W-1)*u2+(u1+u2)=u2*W+u1:=by
   simp only[W];omega
  have hg:gd3 u2 u1 u0 u2 v0<=W-1:=Nat.min_le_right _ _;have hW1:((W-1:Nat):Int)=18446744073709551615:=rfl;obtain⟨cy,ecy⟩:∃cy,(u1+u2)/W=cy:=⟨_,rfl⟩;obtain⟨sm,esm⟩:∃sm,(u1+u2)%W=sm:=⟨_,rfl⟩;rw[ecy,esm]at had;rw[ecy]at hle1 hmod hge;rw[esm]at hmod;clear ecy esm;refine au (had) (by rfl) (by simp) ?_;simp (disch:=omega) only[wt,seval,reduceCtorEq,Nat.reduceEqDiff];refine bU (λhc=>?_) (λhc=>?_)
  .simp (disch:=omega) only[wt,seval,reduceCtorEq,Nat.reduceEqDiff];have e:W-1=gd3 u2 u1 u0 u2 v0:=by
    refine Yt he hv (Nat.sub_lt (by decide) (by decide)) ?_ hg;have g1:(W-1)*v0<=(W-1)*(W-1):=Nat.mul_le_mul_left _ (Nat.le_sub_one_of_lt hv0);have g2:=Nat.mul_le_mul_right W (hge (by omega));simp only[W]at *;omega
   rw[<-e];exact hW1.symm
  .simp (disch:=omega) only[wt,seval,reduceCtorEq,Nat.reduceEqDiff];obtain⟨e1,e2⟩:=hmod (by omega);have cc:=FB (W-1) sm u2 u1 u0 u2 v0 (Nat.sub_lt (by decide) (by decide)) (by rw[e1];exact e2) h0 hv1 hv0 hv (by rw[e1];exact he) hg;rw[show cu (W-1)=.iv (.int .u64 18446744073709551615) from rfl]at cc;refine au (cc) (by rfl) (by simp) ?_;simp (disch:=omega) only[wt,seval,reduceCtorEq,Nat.reduceEqDiff]
 .simp (disch:=omega) only[wt,seval,reduceCtorEq,Nat.reduceEqDiff];have hq:(u2*W+u1)/v1<W:=PK (by omega) h1;have hdm:=Nat.div_add_mod (u2*W+u1) v1;have hr:(u2*W+u1)%v1<v1:=Nat.mod_lt _ hv;have hg:=a7x (u2:=u2) (u1:=u1) (u0:=u0) (v1:=v1) (v0:=v0) hv h0;have hd:=Ru u2 u1 v1 (by omega) h1 hv1;generalize (u2*W+u1)/v1=q at *;generalize (u2*W+u1)%v1=r at *;refine au (hd) (by rfl) (by simp) ?_;simp (disch:=omega) only[wt,seval,reduceCtorEq,Nat.reduceEqDiff];refine au ((FB q r u2 u1 u0 v1 v0 hq (by omega) h0 hv1 hv0 hv (by rw[Nat.mul_comm];exact hdm) hg)) (by rfl) (by simp) ?_;simp (disch:=omega) only[wt,seval,reduceCtorEq,Nat.reduceEqDiff]
end Go.Proofs.YtnhghmibjddlkaaGreatDoor

namespace Go.Proofs.YtnhghmibjddlkaaGreatDoor
open Go Go.Proofs Go.AL Go.RowKit
set_option linter.unusedSimpArgs false
set_option linter.unusedVariables false
theorem a2D (w:World)(D:Nat->Prop)(n k:Nat)(hk:k<2^63)(hnk:n<=k)(z:Array Value)(hz:z.size=k)(hD:∀b,D b->b<w.heap.size) :
  Below w.heap.size w (w.alloc (Obj.cells z 73)).drew/\∃us,Value.slice (some { block:=w.heap.size,off:=0 }) 0 k=qF us/\Eo w (w.alloc (Obj.cells z 73)).drew D (some (0,73,1,[])) [.iv (.sl [])] us:=by
 refine⟨?_,[_],rfl,rfl,?_,?_⟩
 .exact((Below.refl _ _).alloc (Nat.le_refl _) _).drew
 .intro j c v hj hc hv;cases j with
  |zero=>exact(hj 0 73 1 [] rfl rfl).elim
  |succ j=>simp at hc
 .intro i e sz rows h;injection h with h;injection h with h1 h;injection h with h2 h;injection h with h3 h4;subst h1 h2 h3 h4;refine⟨_,rfl,by decide,by simp,.inr ⟨w.heap.size,k,z,rfl,.inl (Nat.le_refl _),?_,by simp,?_,by omega,by simp[eF]⟩⟩
  .show (w.alloc _).heap[w.heap.size]?=some _;simp only[World.alloc,Array.getElem?_push_size]
  .simp only[maxLen];omega
theorem a7u (n:Nat)(hn:n<=8796093022208):AC Tryz.prog 161 [.val (.slice none 0 0),.iv (.int .i64 n)] (some (0,73,1,[])) [.iv (.sl [])]:=by
 intro w D vs hD hvs
 match vs,hvs with
 |[v1,v2],hvs =>
 obtain⟨h1,h2,_⟩:=hvs;simp only[iI]at h1 h2;subst h1;obtain rfl:v2=.int .i64 n:=by cases h2;rfl
 refine .inl ⟨_,Tryz.func161,by rfl,by rfl,?_⟩;have hb:Tryz.t73.bytes=8:=by kernel_rfl
 have h4:¬281474976710656<(n:Int)*(8:Nat):=by omega
 have h6:¬281474976710656<n*8:=by omega
 have h8:¬(9223372036854775807<(n:Int)):=by omega
 have h1:¬(n:Int)<0:=by omega
 have h3:(0:Int)-0=0:=rfl;rcases Nat.eq_zero_or_pos n with h0|h0
 .subst h0
  go_enter Tryz.func161,Tryz.ntmps161
  go_wp2
  refine bodyPost_ret (results_tmp rfl _ _ _) rfl ?_;refine⟨_,rfl,Below.refl _ _,[_],rfl,rfl,?_,?_⟩
  .intro j c v hj hc hv;cases j with
   |zero=>exact(hj 0 _ 1 [] rfl rfl).elim
   |succ j=>simp at hc
  .intro i e sz rows h;injection h with h;injection h with h1 h;injection h with h2 h;injection h with h3 h4;subst h1 h2 h3 h4;exact⟨_,rfl,Nat.zero_lt_one,by simp,.inl ⟨rfl,rfl⟩⟩
 .have h2:(0:Int)<n:=by omega
  have h5:Builtin.nextslicecap n 0=n:=nextslicecap_zero h0;have h7:n≠0:=by omega
  go_enter Tryz.func161,Tryz.ntmps161
  go_wp2
  refine bodyPost_ret (results_tmp rfl _ _ _) rfl ?_;refine⟨_,rfl,a2D w D n _ ?_ ?_ _ ?_ hD⟩
  .have:=grownCap_le_maxLen w n 0 73 (by simp only[maxLen];omega);simp only[maxLen,grownCap]at this;omega
  .exact grownCap_ge w n 0 73
  .have:=grownCap_ge w n 0 73;simp only[grownCap]at this;simp only[Array.size_append,size_zeroCells,List.size_toArray,List.length_cons,List.length_nil,Nat.zero_add,Nat.mul_one,Nat.one_mul];omega
def tot (l:List (List Nat)):Nat:=(l.map List.length).sum
theorem JB {l:List (List Nat)}{i:Nat}(h:i<l.length):l.take (i+1)=l.take i++[l.getD i []]:=by
 rw[List.take_add_one];congr 1;simp[List.getD,h]
theorem PZ {l:List (List Nat)}{i:Nat}(h:i<l.length):tot (l.take (i+1))=tot (l.take i)+(l.getD i []).length:=by
 rw[JB h];simp only[tot,List.map_append,List.map_cons,List.map_nil,List.sum_append,List.sum_cons,List.sum_nil,Nat.add_zero]
theorem YA {l:List (List Nat)}{i:Nat}(h:i<l.length):(l.take (i+1)).flatten=(l.take i).flatten++l.getD i []:=by
 rw[JB h];simp only[List.flatten_append,List.flatten_cons,List.flatten_nil,List.append_nil]
theorem a0L (l:List (List Nat)):l.flatten.length=tot l:=by simp[tot,List.length_flatten]
theorem Q5 (l:List (List Nat))(i:Nat):tot (l.take i)<=tot l:=by
 have h:tot l=tot (l.take i)+tot (l.drop i):=by
  have:=congrArg tot (List.take_append_drop i l);rw[<-this];simp only[tot,List.map_append,List.sum_append]
 omega
theorem Z9 (l:List (List Nat))(hl:l.length<=1048576)(ht:tot l<=4398046511104):AC Tryz.prog 138 [.iv (.sl (rH l))] (some (0,73,1,dJ l.flatten)) [cl l.flatten]:=by
 refine AC.aF (rs:=[.tmp 2]) bM Tryz.func138 (by rfl) (by rfl) (by rfl) (by rfl) (by rfl) ?_;simp (disch:=omega) only[wt,seval,reduceCtorEq,Nat.reduceEqDiff,aK,aT];refine bF (λf H=>∃(i:Nat),i<=l.length/\f 11=.iv (.int .i64 i)/\f 3=.iv (.int .i64 (tot (l.take i)))/\f 0=.iv (.sl (rH l))/\f 9=.iv (.sl (rH l))/\f 10=.iv (.int .i64 l.length)) (λf H=>(l.length-dQ f 11).toNat) ?_ ?_
 .refine⟨0,by omega,?_⟩;simp (disch:=omega) only[wt,seval,reduceCtorEq,Nat.reduceEqDiff,aK,aT,List.take_zero,tot,List.map_nil,List.sum_nil]
 rintro f H ⟨i,hi,hF⟩;rw[bC hF.1];simp (disch:=omega) only[wt,seval,reduceCtorEq,Nat.reduceEqDiff,aK,aT,hF];refine bU (λhlt=>?_) (λhlt=>?_)
 .have h1:=PZ (l:=l) (i:=i) (by omega);have h2:=Q5 l (i+1);have h3:¬(((tot (l.take i):Nat):Int)+(((l.getD i []).length:Nat):Int)<0):=by omega
  simp (disch:=omega) only[wt,seval,reduceCtorEq,Nat.reduceEqDiff,aK,aT,hF,h3];exact⟨⟨i+1,by omega,by omega,by omega⟩,by omega⟩
 .obtain rfl:i=l.length:=by omega
  rw[List.take_length]at hF;simp (disch:=omega) only[wt,seval,reduceCtorEq,Nat.reduceEqDiff,aK,aT,hF];refine a3j (a7u (tot l) (by omega)) (by first|rfl|(simp only[su,Nj,aH,bn,hF];rfl)) (by simp) ?_;simp (disch:=omega) only[wt,seval,reduceCtorEq,Nat.reduceEqDiff,aK,aT,hF];have hrl:=aK l;refine bF (λf H=>∃(i st:Nat),i<=l.length/\f 27=.iv (.int .i64 i)/\f 6=.hs 24 st/\f 25=.iv (.sl (rH l))/\f 26=.iv (.int .i64 l.length)/\H 24=.blk false st 73 1 (dJ (l.take i).flatten)) (λf H=>(l.length-dQ f 27).toNat) ?_ ?_
  .refine⟨0,(H 24).stamp+1,by omega,?_⟩;simp (disch:=omega) only[wt,seval,reduceCtorEq,Nat.reduceEqDiff,aK,aT,hF,List.take_zero,List.flatten_nil,AO]
  rintro f H ⟨i,st,hi,hF⟩;rw[bC hF.1];simp (disch:=omega) only[wt,seval,reduceCtorEq,Nat.reduceEqDiff,aK,aT,hF];refine bU (λhlt=>?_) (λhlt=>?_)
  .have h1:=YA (l:=l) (i:=i) (by omega);have h2:=a0L (l.take i);have h3:=PZ (l:=l) (i:=i) (by omega);have h4:=Q5 l (i+1);have h5:((l.take i).flatten.length+(l.getD i []).length)*8<=140737488355328:=by omega
   simp (disch:=omega) only[wt,seval,reduceCtorEq,Nat.reduceEqDiff,aK,aT,hF];exact⟨⟨i+1,st+1,by omega,by omega,rfl,by rw[h1]⟩,by omega⟩
  .obtain rfl:i=l.length:=by omega
   rw[List.take_length]at hF;simp (disch:=omega) only[wt,seval,reduceCtorEq,Nat.reduceEqDiff,aK,aT,hF]
end Go.Proofs.YtnhghmibjddlkaaGreatDoor

namespace Go.Proofs.YtnhghmibjddlkaaGreatDoor
open Go Go.Proofs Go.AL
set_option linter.unusedSimpArgs false
set_option linter.unusedVariables false
theorem Yc {b D D3 V V2 X g:Nat}(hX:0<X)(h1:D3*X<=D)(h2:D<(D3+1)*X)(h3:V2*X<=V)(h4:V<(V2+1)*X)(h5:D<V*b)(h6:b<=V2)(hb:0<b)
  (hg:g=min (D3/V2) (b-1)):D/V<=g/\g<=D/V+1:=by
 have hV2:0<V2:=by omega
 have hV:0<V:=Nat.lt_of_lt_of_le (Nat.mul_pos hV2 hX) h3;constructor
 .rw[hg,Nat.le_min];have e1:=Nat.div_mul_le_self D V;constructor
  .rw[Nat.le_div_iff_mul_le hV2];have e2:D/V*V2*X<(D3+1)*X:=by
    rw[Nat.mul_assoc];exact Nat.lt_of_le_of_lt (Nat.le_trans (Nat.mul_le_mul_left _ h3) e1) h2
   have:=Nat.lt_of_mul_lt_mul_right e2;omega
  .have:D/V<b:=by rw[Nat.div_lt_iff_lt_mul hV,Nat.mul_comm];exact h5
   omega
 .have e2:D<(D/V+1)*V:=by rw[Nat.mul_comm];exact Nat.lt_mul_div_succ D hV
  generalize D/V=q at *;rcases Nat.lt_or_ge (q+1) g with h|h
  .exfalso
   have hgb:g<=b-1:=by rw[hg];exact Nat.min_le_right _ _
   have hgd:g<=D3/V2:=by rw[hg];exact Nat.min_le_left _ _
   have e1:g*V2<=D3:=(Nat.le_div_iff_mul_le hV2).mp hgd;have e3:(q+1)*V<=(g-1)*V:=Nat.mul_le_mul_right _ (by omega);have e4:(g-1)*V<(g-1)*((V2+1)*X):=Nat.mul_lt_mul_of_pos_left h4 (by omega);have e5:g*V2*X<=D:=Nat.le_trans (Nat.mul_le_mul_right _ e1) h1;have e6:g*V2*X<(g-1)*(V2+1)*X:=by rw[Nat.mul_assoc (g-1)];omega
   have e7:=Nat.lt_of_mul_lt_mul_right e6;obtain⟨k,rfl⟩:∃k,g=k+1:=⟨g-1,by omega⟩;rw[Nat.add_sub_cancel,Nat.succ_mul,Nat.mul_succ]at e7;omega
  .exact h
theorem Yb {b N D V lo t g c r:Nat}(hN:0<N)(hlo:lo<N)(hD:D=lo+N*t)(hV:0<V)(hVN:V<=N)(h1:D/V<=g)(h2:g<=D/V+1)
  (hr:r+V*g=lo+N*c) (hrN:r<N) :
  (c<=t->g=D/V/\r+N*(t-c)=D%V)/\(t<c->g=D/V+1/\c<=t+1+0*b/\r+V=D%V+N):=by
 have hd:=Nat.div_add_mod D V;have hm:=Nat.mod_lt D hV;generalize D/V=q at *;generalize D%V=m at *;constructor
 .intro hc;obtain⟨k,rfl⟩:∃k,t=c+k:=⟨t-c,by omega⟩;rw[Nat.mul_add]at hD;rw[Nat.add_sub_cancel_left];have:g=q:=by
   rcases Nat.lt_or_ge q g with h|h
   .obtain rfl:g=q+1:=by omega
    rw[Nat.mul_succ]at hr;omega
   .omega
  subst this;exact⟨rfl,by omega⟩
 .intro hc;obtain⟨k,rfl⟩:∃k,c=t+1+k:=⟨c-t-1,by omega⟩;rw[Nat.mul_add,Nat.mul_add,Nat.mul_one]at hr;have:g=q+1:=by
   rcases Nat.lt_or_ge q g with h|h
   .omega
   .obtain rfl:g=q:=by omega
    omega
  subst this;rw[Nat.mul_succ]at hr;have hk:k=0:=by
   rcases Nat.eq_zero_or_pos k with h|h
   .exact h
   .have:=Nat.mul_le_mul_left N h;omega
  subst hk;rw[Nat.mul_zero]at hr;exact⟨rfl,by omega,by omega⟩
theorem lS (l:List Nat)(k:Nat)(h:k<l.length):nv (l.drop k)=l.getD k 0+W*nv (l.drop (k+1)):=by
 rw[List.drop_eq_getElem_cons h];simp only[nv,vl,List.getD,List.getElem?_eq_getElem h,Option.getD_some]
theorem a5U {x y N:Nat}(hN:0<N)(hx:x<N):(x+N*a0O x y N-y)+y=x+N*a0O x y N/\x+N*a0O x y N-y<N:=by
 unfold a0O;have h1:=Nat.div_add_mod (y-x+N-1) N;have h2:=Nat.mod_lt (y-x+N-1) hN;generalize (y-x+N-1)/N=q at *;rcases Nat.eq_zero_or_pos q with h|h
 .subst h;rw[Nat.mul_zero]at *;omega
 .have:=Nat.mul_le_mul_left N h;omega
theorem O7 {u v:List Nat}{i n:Nat}(hu:Lim u)(hv:Lim v)(hn:2<=n)(hin:i+n<u.length)(hvl:v.length=n)(hv1:0<v.getD (n-1) 0)(hR:nv (u.drop (i+1))<nv v) :
  u.getD (i+n) 0<=v.getD (n-1) 0/\nv (u.drop i)=nv ((u.drop i).take n)+W^n*u.getD (i+n) 0/\nv (u.drop (i+n+1))=0 /\
  nv (u.drop i)/nv v<=gd3 (u.getD (i+n) 0) (u.getD (i+n-1) 0) (u.getD (i+n-2) 0) (v.getD (n-1) 0) (v.getD (n-2) 0) /\
  gd3 (u.getD (i+n) 0) (u.getD (i+n-1) 0) (u.getD (i+n-2) 0) (v.getD (n-1) 0) (v.getD (n-2) 0)<=nv (u.drop i)/nv v+1:=by
 obtain⟨k,rfl⟩:∃k,n=k+2:=⟨n-2,by omega⟩;rw[show k+2-1=k+1 by omega,show k+2-2=k by omega,show i+(k+2)-1=i+k+1 by omega,show i+(k+2)-2=i+k by omega,show i+(k+2)=i+k+2 by omega]at *;have b3O:=jm hv;rw[hvl]at b3O;have d1:=lS u i (by omega);have hDR:nv (u.drop i)<nv v*W:=by
  have:=hu.get i;have h2:=Nat.mul_le_mul_right W hR;rw[Nat.succ_mul]at h2;rw[Nat.mul_comm W]at d1;omega
 have s1:=ig W (u.drop i) (k:=k) (by simp;omega);rw[List.drop_drop]at s1;have d2:=lS u (i+k) (by omega);have d3:=lS u (i+k+1) (by omega);have d4:=lS u (i+k+1+1) (by omega);have s2:=ig W v (k:=k) (by omega);have v2:=lS v k (by omega);have v3:=lS v (k+1) (by omega);have v4:nv (v.drop (k+1+1))=0:=by rw[List.drop_of_length_le (by omega)];rfl
 have s3:=ig W (u.drop i) (k:=k+2) (by simp;omega);rw[List.drop_drop]at s3;have s4:=ig W (u.drop i) (k:=k+2+1) (by simp;omega);rw[List.drop_drop]at s4;have s5:=ig W (u.drop (i+1)) (k:=k+1) (by simp;omega);rw[List.drop_drop]at s5;have s6:=ig W v (k:=k+1) (by omega);have l1:=jm ((hu.drop i).take k);have l2:=jm (hv.take k);have l3:=jm (hv.take (k+1));rw[List.length_take,Nat.min_eq_left (by simp only[List.length_drop];omega)]at l1;rw[List.length_take,Nat.min_eq_left (by omega)]at l2 l3;simp only[nv]at *;rw[show i+1+(k+1)=i+k+2 by omega]at s5;rw[show i+(k+2)=i+k+2 by omega]at s3;rw[show i+(k+2+1)=i+k+3 by omega]at s4;rw[show i+k+1+1+1=i+k+3 by omega,show i+k+1+1=i+k+2 by omega]at d4;rw[show i+k+1+1=i+k+2 by omega]at d3;rw[show i+k+2+1=i+k+3 by omega];have hz:vl W (u.drop (i+k+3))=0:=by
  rcases Nat.eq_zero_or_pos (vl W (u.drop (i+k+3))) with h|h
  .exact h
  .exfalso
   have h1:=Nat.mul_le_mul_left (W^(k+2+1)) h;have h2:=Nat.mul_le_mul_right W (Nat.le_of_lt b3O);rw[<-Nat.pow_succ]at h2;rw[Nat.mul_succ,Nat.mul_zero,Nat.zero_add]at h1;have h3:=Nat.lt_of_lt_of_le hDR h2;have h4:W^(k+2+1)<=vl W (u.drop i):=by rw[s4];exact Nat.le_trans h1 (Nat.le_add_left _ _)
   exact absurd h3 (Nat.not_lt.mpr h4)
 rw[hz,Nat.mul_zero]at d4;replace d4:=d4.trans (Nat.add_zero _);rw[d4]at d3 s3 s5;rw[d3]at d2;rw[d2]at s1;rw[v4,Nat.mul_zero]at v3;replace v3:=v3.trans (Nat.add_zero _);rw[v3]at v2 s6;rw[v2]at s2;have hX:0<W^k:=fK k;refine⟨?_,s3,hz,?_⟩
 .rcases Nat.lt_or_ge (v.getD (k+1) 0) (u.getD (i+k+2) 0) with h|h
  .exfalso
   have h1:=Nat.mul_le_mul_left (W^(k+1)) h;rw[Nat.mul_succ]at h1;generalize W^(k+1)*u.getD (i+k+2) 0=z at *;generalize W^(k+1)*v.getD (k+1) 0=z' at *;omega
  .exact h
 generalize u.getD (i+k+2) 0=u2 at *;generalize u.getD (i+k+1) 0=u1 at *;generalize u.getD (i+k) 0=u0 at *;generalize v.getD (k+1) 0=v1 at *;generalize v.getD k 0=v0 at *;have eD:u0+W*(u1+W*u2)=(u2*W+u1)*W+u0:=by rw[Nat.mul_comm u2 W,Nat.add_comm (W*u2) u1,Nat.mul_comm (u1+W*u2) W];exact Nat.add_comm _ _
 have eV:v0+W*v1=v1*W+v0:=by rw[Nat.mul_comm v1 W];exact Nat.add_comm _ _
 rw[eD]at s1;rw[eV]at s2;refine Yc (b:=W) (X:=W^k) (D3:=(u2*W+u1)*W+u0) (V2:=v1*W+v0) hX ?_ ?_ ?_ ?_ hDR ?_ (by decide) rfl
 .rw[s1,Nat.mul_comm];exact Nat.le_add_left _ _
 .rw[s1,Nat.succ_mul,Nat.mul_comm _ (W^k)];exact Nat.add_comm _ _▸Nat.add_lt_add_left l1 _
 .rw[s2,Nat.mul_comm];exact Nat.le_add_left _ _
 .rw[s2,Nat.succ_mul,Nat.mul_comm _ (W^k)];exact Nat.add_comm _ _▸Nat.add_lt_add_left l2 _
 .exact Nat.le_trans (Nat.le_of_eq (Nat.one_mul W).symm) (Nat.le_trans (Nat.mul_le_mul_right W hv1) (Nat.le_add_right _ _))
abbrev OB:=Option (Nat×Nat)
def oid:OB->List Nat
 |some p=>[p.1]
 |none=>[]
def Nw (B E:Nat)(l:List Nat):Prop:=l.Nodup/\∀g∈l,B<=g/\g<E
theorem Nw.nil (B E:Nat):Nw B E []:=⟨List.nodup_nil,by simp⟩
theorem Nw.mono {B E B' E':Nat}{l:List Nat}(h:Nw B E l)(hB:B'<=B)(hE:E<=E'):Nw B' E' l:=⟨h.1,λg hg=>⟨Nat.le_trans hB (h.2 g hg).1,Nat.lt_of_lt_of_le (h.2 g hg).2 hE⟩⟩
theorem Nw.cons {B E:Nat}{l:List Nat}{g:Nat}(h:Nw B E l)(hg:g∉l)(hB:B<=g)(hE:g<E):Nw B E (g::l) :=
 ⟨List.nodup_cons.2 ⟨hg,h.1⟩,λk hk=>by
  rcases List.mem_cons.1 hk with rfl|hk
  .exact⟨hB,hE⟩
  .exact h.2 k hk⟩
theorem Nw.oid {B E:Nat}{b:OB}(h:∀g cap,b=some (g,cap)->B<=g/\g<E):Nw B E (oid b):=by
 cases b with
 |none=>exact .nil _ _
 |some p=>exact⟨by simp[Go.Proofs.YtnhghmibjddlkaaGreatDoor.oid],by simp only[Go.Proofs.YtnhghmibjddlkaaGreatDoor.oid,List.mem_singleton,forall_eq];exact h p.1 p.2 rfl⟩
abbrev a7F (b:OB)(l:List Nat):IV:=.own b 73 1 (dJ l)
def b3o (l:List Nat)(B E:Nat)(res:List CV):Prop:=∃b,res=[.iv (a7F b l)]/\Nw B E (oid b)
theorem a4F (l:List Nat)(B:Nat):∃E res,B<=E/\b3o l B E res:=⟨B,_,Nat.le_refl _,none,rfl,.nil _ _⟩
theorem a6M (l:List Nat)(h:Lim l)(hl:l.length<=2^43):ACX Tryz.prog 63 [cl l] (b3o (wd (nv l))):=by
 refine ACX.aF zi0 (rs:=[.tmp 2]) bM Tryz.func63 (by rfl) (by rfl) (by rfl) (by rfl) (by rfl) (a4F _) (λB=>?_);have ht:=rZ l;simp (disch:=omega) only[wt,seval,reduceCtorEq,Nat.reduceEqDiff];refine au ((Gf l hl)) (by rfl) (by simp) ?_;simp (disch:=omega) only[wt,seval,reduceCtorEq,Nat.reduceEqDiff];rw[<-a0B h];refine bU (λhz=>?_) (λhz=>?_)
 .have:wd (nv l)=[]:=by rw[<-List.length_eq_zero_iff];omega
  simp (disch:=omega) only[wt,seval,reduceCtorEq,Nat.reduceEqDiff];refine a1F 2 73 1 (by rfl) ?_;refine uJ [.iv (a7F none [])] (by first|rfl|assumption) (by first|(simp (disch:=omega) only[wt,seval,reduceCtorEq,Nat.reduceEqDiff];done)|(simp (disch:=omega) only[wt,seval,reduceCtorEq,Nat.reduceEqDiff];rfl)|rfl) ?_;intro E hE;exact⟨none,by rw[this],.nil _ _⟩
 .simp (disch:=omega) only[wt,seval,reduceCtorEq,Nat.reduceEqDiff];refine au ((qO (wd (nv l)) (by have:=lF h;omega))) (by rfl) (by simp) ?_;simp (disch:=omega) only[wt,seval,reduceCtorEq,Nat.reduceEqDiff];refine b0s 2 10 _ 73 1 ((dJ (wd (nv l)))) (by first|rfl|assumption|simp (disch:=omega) only[wt,seval,reduceCtorEq,Nat.reduceEqDiff]) (by first|rfl|assumption|simp (disch:=omega) only[wt,seval,reduceCtorEq,Nat.reduceEqDiff]) (by first|rfl|assumption) ?_;rintro b E hE hb;refine uJ [.iv (a7F b (wd (nv l)))] (by first|rfl|assumption) (by first|(simp (disch:=omega) only[wt,seval,reduceCtorEq,Nat.reduceEqDiff];done)|(simp (disch:=omega) only[wt,seval,reduceCtorEq,Nat.reduceEqDiff];rfl)|rfl) ?_;intro E hE;exact⟨b,rfl,Nw.oid λg cap e=>by have:=hb.2 g cap e;omega⟩
theorem a1R (l:List Nat)(h:Lim l)(hl:l.length<=2^43):ACX Tryz.prog 59 [cl l] (b3o (wd (nv l))):=by
 refine ACX.aF zi0 (rs:=[.tmp 2]) bM Tryz.func59 (by rfl) (by rfl) (by rfl) (by rfl) (by rfl) (a4F _) (λB=>?_);simp (disch:=omega) only[wt,seval,reduceCtorEq,Nat.reduceEqDiff];refine Sl ((a6M l h hl)) (by rfl) (by simp) (by first|rfl|assumption|(simp (disch:=omega) only[wt,seval,reduceCtorEq,Nat.reduceEqDiff];done)|((repeat (replace hF:=hF.2));exact hF)) ?_;rintro B' E _ hB hE ⟨b,rfl,hb⟩;simp (disch:=omega) only[wt,seval,reduceCtorEq,Nat.reduceEqDiff];refine uJ [.iv (a7F b (wd (nv l)))] (by first|rfl|assumption) (by first|(simp (disch:=omega) only[wt,seval,reduceCtorEq,Nat.reduceEqDiff];done)|(simp (disch:=omega) only[wt,seval,reduceCtorEq,Nat.reduceEqDiff];rfl)|rfl) ?_;intro E hE;exact⟨b,rfl,hb.mono hB (by omega)⟩
end Go.Proofs.YtnhghmibjddlkaaGreatDoor

namespace Go.Proofs.YtnhghmibjddlkaaGreatDoor
open Go Go.Proofs Go.AL Go.RowKit
set_option linter.unusedSimpArgs false
set_option linter.unusedVariables false
theorem Fj {w:World}{D:Nat->Prop}:∀{xs:List CV} {vs:List Value},eU w D xs vs->∀(j:Nat) (c:CV) (v:Value),xs[j]?=some c->vs[j]?=some v->iI w D c v
 |[],[],_,j,c,v,h,_=>by simp at h
 |x::xs,u::vs,h,0,c,v,h1,h2=>by
  simp only[List.getElem?_cons_zero,Option.some.injEq]at h1 h2;subst h1 h2;exact h.1
 |x::xs,u::vs,h,j+1,c,v,h1,h2=>Fj h.2 j c v (by simpa using h1) (by simpa using h2)
 |[],_::_,h,_,_,_,_,_=>h.elim
 |_::_,[],h,_,_,_,_,_=>h.elim
theorem ACX.plain {P:Program}{g:Nat}{args res:List CV}{R:Nat->Nat->List CV->Prop}(h:ACX P g args R)(hs:∀B E r,R B E r->FM r res):AC P g args none res:=by
 intro w D vs hD hv;refine lH.mono (h.2 w D vs hD hv) ?_;rintro v w' ⟨hb,us,r,rfl,hR,hr⟩;have h2:=(hs _ _ _ hR).b1X hr;refine⟨hb,us,rfl,⟨(eU.length h2).symm,λj c v _ hc hv=>?_,λi e sz rows h=>by cases h⟩⟩;exact(Fj h2 j c v hc hv).mono (dh.of_sub λb hb=>hb.elim id λh=>h.elim)
theorem wJ {b:Option (Nat×Nat)}{e sz k:Nat}{rows:List (List IV)}(h:∀r∈rows,r.length=k):SL (.own b e sz rows) (.sl rows) :=
 .own _ _ _ _ _ rfl (λi r r' h1 h2=>by rw[h1]at h2;injection h2 with h2;rw[h2]) (λi r r' h1 h2 j x x' h3 h4=>by
  rw[h1]at h2;injection h2 with h2;subst h2;rw[h3]at h4;injection h4 with h4;subst h4;exact .refl _)
end Go.Proofs.YtnhghmibjddlkaaGreatDoor

namespace Go.Proofs.YtnhghmibjddlkaaGreatDoor
open Go Go.Proofs Go.AL
set_option linter.unusedSimpArgs false
set_option linter.unusedVariables false
theorem a4c {v:Nat}(h:0<(wd v).length):0<(wd v).getD ((wd v).length-1) 0:=by
 rcases Nat.eq_zero_or_pos ((wd v).getD ((wd v).length-1) 0) with h0|h0
 .exfalso
  have h1:=dn W (wd v) ((wd v).length-1);rw[Nat.sub_add_cancel h,List.take_length,h0,Nat.mul_zero,Nat.add_zero]at h1;have h2:=jm ((bY v).take ((wd v).length-1));rw[List.length_take,Nat.min_eq_left (Nat.sub_le _ _)]at h2;have h3:v<W^((wd v).length-1):=by
   have h4:=dU v;simp only[nv]at *;omega
  have:=dH.mpr h3;omega
 .exact h0
theorem O6 {y:Nat}(h:0<(wd y).length):∃s,s=64-bl ((wd y).getD ((wd y).length-1) 0)/\s<=63/\(wd y).getD ((wd y).length-1) 0<W/\(wd (y*2^s)).length=(wd y).length:=by
 have ht:=a4c h;have hw:=(bY y).get ((wd y).length-1);have h1:=dn W (wd y) ((wd y).length-1);rw[Nat.sub_add_cancel h,List.take_length]at h1;have h2:=jm ((bY y).take ((wd y).length-1));rw[List.length_take,Nat.min_eq_left (Nat.sub_le _ _)]at h2;have h4:=dU y;simp only[nv]at *;rw[h4]at h1;have hmono:(wd y).length<=(wd (y*2^(64-bl ((wd y).getD ((wd y).length-1) 0)))).length:=fB (Nat.le_mul_of_pos_right _ (Nat.pow_pos (by decide)));generalize hk:(wd y).length=k at *;generalize (wd y).getD (k-1) 0=t at *;have hb64:bl t<=64:=qU.mpr hw;have hb1:1<=bl t:=by
  rcases Nat.eq_zero_or_pos (bl t) with h0|h0
  .have:=qU.mp (Nat.le_of_eq h0);omega
  .exact h0
 have hbt:t<2^bl t:=qU.mp (Nat.le_refl _);refine⟨_,rfl,by omega,hw,Nat.le_antisymm (dH.mpr ?_) hmono⟩;have h5:y<W^(k-1)*2^bl t:=by
  have:=Nat.mul_le_mul_left (W^(k-1)) hbt;rw[Nat.mul_succ]at this;omega
 have h6:=Nat.mul_lt_mul_of_pos_right h5 (Nat.pow_pos (by decide:0<2):0<2^(64-bl t));rw[Nat.mul_assoc,<-Nat.pow_add,show bl t+(64-bl t)=64 by omega]at h6;have h7:W^k=W^(k-1)*2^64:=by
  have h8:W^(k-1+1)=W^(k-1)*W:=Nat.pow_succ _ _;rw[Nat.sub_add_cancel h]at h8;exact h8
 rw[h7];exact h6
theorem Vx (b:Nat):∀n,vl b (List.replicate n 0)=0
 |0=>rfl
 |n+1=>by rw[List.replicate_succ,vl,Vx b n];rfl
theorem NI {X:List Nat}{k d:Nat}(h:k<X.length):(dJ X).set k (splice ((dJ X).getD k []) 0 [.int .u64 (d:Int)])=dJ (X.set k d):=by
 rw[O4 h,uG,QN]
theorem put_eq {u rs:List Nat}{i n d:Nat}(h:i+n<u.length)(hr:rs.length=n):(u.take i++rs++u.drop (i+n)).set (i+n) d=u.take i++(rs++d::u.drop (i+n+1)):=by
 rw[List.drop_eq_getElem_cons h,List.set_append_right _ _ (by simp;omega)];have e:i+n-(u.take i++rs).length=0:=by simp;omega
 rw[e,List.set_cons_zero,List.append_assoc]
theorem Ci {u rs:List Nat}{i n d:Nat}(h:i+n<u.length)(hr:rs.length=n)(hu:Lim u)(hrs:Lim rs)(hd:d<W):∃X,(u.take i++rs++u.drop (i+n)).set (i+n) d=X/\X.length=u.length/\X.take i=u.take i/\nv (X.drop i)=nv rs+W^n*(d+W*nv (u.drop (i+n+1))) /\
  (X.drop i).take n=rs/\X.getD (i+n) 0=d/\X.drop (i+n+1)=u.drop (i+n+1)/\Lim X:=by
 refine⟨_,put_eq h hr,?_,?_,?_,?_,?_,?_,?_⟩
 .simp;omega
 .rw[List.take_append_of_le_length (by simp;omega),List.take_take,Nat.min_self]
 .rw[List.drop_append_of_le_length (by simp;omega),List.drop_of_length_le (by rw[List.length_take];exact Nat.min_le_left _ _),List.nil_append];have:=ig W (rs++d::u.drop (i+n+1)) (k:=n) (by simp;omega);rw[<-hr,List.take_left,List.drop_left,hr]at this;exact this
 .rw[List.drop_append_of_le_length (by simp;omega),List.drop_of_length_le (by rw[List.length_take];exact Nat.min_le_left _ _),List.nil_append,<-hr,List.take_left]
 .rw[List.getD_eq_getElem?_getD,List.getElem?_append_right (by simp;omega)];have e:i+n-(u.take i).length=n:=by simp;omega
  rw[e,List.getElem?_append_right (by omega),hr];simp
 .rw[<-List.append_assoc,List.drop_append,List.drop_of_length_le (by simp;omega)];have e:i+n+1-(u.take i++rs).length=1:=by simp;omega
  rw[e];rfl
 .exact(hu.take i).append (hrs.append (Lim.cons hd (hu.drop _)))
theorem ES {u u0 q:List Nat}{i V g D:Nat}(hul:i<u.length)(hu0:u0.length=u.length)(hq:i<q.length)(hT:u.take (i+1)=u0.take (i+1))(hE:nv (u0.drop (i+1))=nv (q.drop (i+1))*V+nv (u.drop (i+1)))(hD:nv (u.drop i)=D)(hg:g=D/V) :
  nv (u0.drop i)=nv ((q.set i g).drop i)*V+D%V/\u.take i=u0.take i:=by
 have e1:=lS u0 i (by omega);have e2:=lS u i hul;have e3:=lS (q.set i g) i (by simp;omega);have e4:(q.set i g).getD i 0=g:=by simp[List.getD,hq]
 have e5:(q.set i g).drop (i+1)=q.drop (i+1):=List.drop_set_of_lt (by omega);have e6:u0.getD i 0=u.getD i 0:=by
  have h1:u0.getD i 0=(u0.take (i+1)).getD i 0:=by simp[List.getD,List.getElem?_take]
  have h2:u.getD i 0=(u.take (i+1)).getD i 0:=by simp[List.getD,List.getElem?_take]
  rw[h1,h2,hT]
 have hd:=Nat.div_add_mod D V;rw[e4,e5]at e3;rw[e3,e1,e6,hE,Nat.add_mul,Nat.mul_add,<-Nat.mul_assoc,Nat.mul_comm g V,hg];rw[hD]at e2;constructor
 .omega
 .have:=congrArg (List.take i) hT;simpa [List.take_take] using this
theorem KU (l:List Nat):∀r∈dJ l,∀x∈r,Px x:=by
 intro r hr x hx;simp only[dJ,List.mem_map]at hr;obtain⟨n,_,rfl⟩:=hr;simp only[List.mem_singleton]at hx;subst hx;trivial
theorem flat_own2 (e:Nat)(l l':List Nat)(a:Nat):wo (some (0,e,1,dJ l)) [cl l',cu a]:=by
 refine⟨KU l,λj c hj hc=>?_⟩
 match j,hj with
 |1,_=>simp at hc;subst hc;trivial
 |j+2,_=>simp at hc
theorem flat_own3 (e:Nat)(l l':List Nat)(a b:Nat):wo (some (0,e,1,dJ l)) [cl l',cu a,ci b]:=by
 refine⟨KU l,λj c hj hc=>?_⟩
 match j,hj with
 |1,_=>simp at hc;subst hc;trivial
 |2,_=>simp at hc;subst hc;trivial
 |j+3,_=>simp at hc
def b3V (q r:Nat)(B E:Nat)(res:List CV):Prop:=∃b,res=[.iv (a7F b (wd q)),cl (wd r)]/\Nw B E (oid b)
theorem b0v (q r B:Nat):∃E res,B<=E/\b3V q r B E res:=⟨B,_,Nat.le_refl _,none,rfl,.nil _ _⟩
theorem a0S {b:OB}{l:List Nat}:SL (a7F b l) (.sl (dJ l)):=wJ (k:=1) (λr hr=>by obtain⟨x,_,rfl⟩:=List.mem_map.1 hr;rfl)
set_option maxHeartbeats 4000000 in
theorem Ya (x y m n:Nat)(hm:(wd x).length=m)(hn:(wd y).length=n)(h2:2<=n)(hxy:y<=x)(hl:m<=2^38):ACX Tryz.prog 119 [cl (wd x),cl (wd y)] (b3V (x/y) (x%y)):=by
 refine ACX.aF zi0 (rs:=[.tmp 4,.tmp 5]) bM Tryz.func119 (by rfl) (by rfl) (by rfl) (by rfl) (by rfl) (b0v _ _) (λB0=>?_);obtain⟨s,hs,hs63,htw,hvl⟩:=O6 (y:=y) (by omega);have hyl:n<=m:=by rw[<-hm,<-hn];exact fB hxy
 have lz:=XZ _ htw;rw[<-hs,hn]at lz;rw[hn]at hvl;have hn1:((n:Int)-1).toNat=n-1:=by omega
 simp (disch:=omega) only[wt,seval,reduceCtorEq,Nat.reduceEqDiff,aK,aT,Option.getD_some,hn,hn1];refine au (lz) (by first|rfl|(simp only[aH,bn,aB,aI,aA,Nat.reduceEqDiff,↓reduceIte,hn,hn1];rfl)) (by simp) ?_;simp (disch:=omega) only[wt,seval,reduceCtorEq,Nat.reduceEqDiff,aK,aT,Option.getD_some,hn,hn1];refine au ((vN (wd y) s (bY _) (by omega) (by omega))) (by first|rfl|(simp only[aH,bn,aB,aI,aA,Nat.reduceEqDiff,↓reduceIte,hn];rfl)) (by simp) ?_;simp (disch:=omega) only[wt,seval,reduceCtorEq,Nat.reduceEqDiff,aK,aT,Option.getD_some,hn];rw[dU];refine au ((vN (wd x) s (bY _) (by omega) (by omega))) (by first|rfl|(simp only[aH,bn,aB,aI,aA,Nat.reduceEqDiff,↓reduceIte,hn];rfl)) (by simp) ?_;simp (disch:=omega) only[wt,seval,reduceCtorEq,Nat.reduceEqDiff,aK,aT,Option.getD_some,hn];rw[dU];have hUlt:x*2^s<W^(m+1):=by
  have h1:x<W^m:=by rw[<-hm];exact dH.mp (Nat.le_refl _)
  rw[Nat.pow_succ];exact Nat.mul_lt_mul_of_lt_of_le h1 (Nat.pow_le_pow_right (by decide) (by omega:s<=64)) (by decide)
 have hul:(wd (x*2^s)).length<=m+1:=dH.mpr hUlt;generalize hup:(wd (x*2^s)).length=up at *;have hz1:((m:Int)+1-up).toNat=m+1-up:=by omega
 simp (disch:=omega) only[wt,seval,reduceCtorEq,Nat.reduceEqDiff,aK,aT,Option.getD_some,hn,hm,hup,hz1];have hcc:=Z9 [wd (x*2^s),List.replicate (m+1-up) 0] (by simp) (by simp only[tot,List.map_cons,List.map_nil,List.sum_cons,List.sum_nil,List.length_replicate];omega);have hpu:[wd (x*2^s),List.replicate (m+1-up) 0].flatten=pad (m+1) (x*2^s):=by
  simp only[List.flatten_cons,List.flatten_nil,List.append_nil];refine pK ((bY _).append (Lim.replicate _)) (by simp;omega) ?_;have h1:=ig W (wd (x*2^s)++List.replicate (m+1-up) 0) (k:=up) (by simp;omega);rw[List.take_append_of_le_length (by omega),List.drop_append_of_le_length (by omega),List.take_of_length_le (by omega),List.drop_of_length_le (by omega),List.nil_append,Vx,Nat.mul_zero,Nat.add_zero]at h1;rw[Nat.mod_eq_of_lt hUlt];exact h1.trans (dU _)
 rw[hpu]at hcc;have hpl:=jT (m+1) (x*2^s);have hz2:(((m+1:Nat):Int)-n).toNat=m+1-n:=by omega
 refine au (hcc) (by first|rfl|(simp only[aH,bn,aB,aI,aA,Nat.reduceEqDiff,↓reduceIte,hn,hm,hup,hz1,hpl,hz2];rfl)) (by simp) ?_;simp (disch:=omega) only[wt,seval,reduceCtorEq,Nat.reduceEqDiff,aK,aT,Option.getD_some,hn,hm,hup,hz1,hpl,hz2];have hV:Lim (wd (y*2^s)):=bY _;have hq0:Lim (List.replicate (m+1-n) 0):=Lim.replicate _;have hu0:=oq (m+1) (x*2^s);have hi1:nv ((pad (m+1) (x*2^s)).drop (m+1-n))<y*2^s:=by
  have h1:=ig W (pad (m+1) (x*2^s)) (k:=m+1-n) (by omega);have h3:=sV (m+1) (x*2^s);rw[Nat.mod_eq_of_lt hUlt]at h3;have hx:x<W^m:=by rw[<-hm];exact dH.mp (Nat.le_refl _)
  have hy:W^(n-1)<=y:=by
   rcases Nat.lt_or_ge y (W^(n-1)) with h|h
   .have:=dH.mpr h;omega
   .exact h
  simp only[nv]at *;have h4:W^(m+1-n)*vl W ((pad (m+1) (x*2^s)).drop (m+1-n))<W^(m+1-n)*(y*2^s):=by
   refine Nat.lt_of_le_of_lt (Nat.le_trans (Nat.le_add_left _ _) (Nat.le_of_eq (h1.symm.trans h3))) ?_;rw[<-Nat.mul_assoc];refine Nat.mul_lt_mul_of_pos_right (Nat.lt_of_lt_of_le hx ?_) (Nat.pow_pos (by decide));rw[show m=m+1-n+(n-1) by omega,Nat.pow_add];refine Nat.mul_le_mul (Nat.pow_le_pow_right (by decide) (by omega)) hy
  exact Nat.lt_of_mul_lt_mul_left h4
 have hi2:nv ((pad (m+1) (x*2^s)).drop (m+1-n))=nv ((List.replicate (m+1-n) 0).drop (m+1-n))*(y*2^s)+nv ((pad (m+1) (x*2^s)).drop (m+1-n)):=by
  rw[List.drop_of_length_le (l:=List.replicate _ _) (by simp)];simp[nv,vl]
 refine bF (λf H=>∃(k st st2:Nat) (u q:List Nat),k+n<=m+1/\Lim u/\u.length=m+1/\Lim q/\q.length=m+1-n/\nv (u.drop k)<y*2^s/\nv ((pad (m+1) (x*2^s)).drop k)=nv (q.drop k)*(y*2^s)+nv (u.drop k)/\u.take k=(pad (m+1) (x*2^s)).take k/\f 14=.iv (.int .i64 (k-1))/\f 12=.hs 54 st/\f 13=.hs 59 st2/\f 6=.iv (.int .i64 n)/\f 7=.iv (.int .i64 s)/\f 8=.iv (.sl (dJ (wd (y*2^s))))/\H 54=.blk false st 73 1 (dJ u)/\H 59=.blk false st2 73 1 (dJ q)/\H 999=.mrk B0) (λf H=>(dQ f 14+1).toNat) ?_ ?_
 .refine⟨m+1-n,1,1,pad (m+1) (x*2^s),List.replicate (m+1-n) 0,by omega,hu0,hpl,hq0,by simp,hi1,hi2,rfl,?_⟩;simp (disch:=omega) only[wt,seval,reduceCtorEq,Nat.reduceEqDiff,aK,aT,Option.getD_some,hn,hm,hup,hz1,hpl,hz2]
 rintro f H ⟨k,st,st2,u,q,hk,hu,b5Y,hq,hql,hR,hE,hT,hF⟩;rw[bC hF.1];simp (disch:=omega) only[wt,seval,reduceCtorEq,Nat.reduceEqDiff,aK,aT,Option.getD_some,hF];generalize hU0:pad (m+1) (x*2^s)=u0 at *;refine bU (λhge=>?_) (λhge=>?_)
 .obtain⟨i,rfl⟩:∃i,k=i+1:=⟨k-1,by omega⟩;rw[show (((i+1:Nat):Int)-1)=i by omega]at *;have hnV:nv (wd (y*2^s))=y*2^s:=dU _;have hv1:0<(wd (y*2^s)).getD (n-1) 0:=by
   have:=a4c (v:=y*2^s) (by omega);rwa [hvl]at this
  have hR0:nv (u.drop (i+1))<nv (wd (y*2^s)):=by rw[hnV];exact hR
  have hV0:0<nv (wd (y*2^s)):=Nat.zero_lt_of_lt hR0;have hVn:=Nat.le_of_lt (jm hV);rw[hvl]at hVn;generalize hv:wd (y*2^s)=v at *;generalize y*2^s=V at *;subst hnV;obtain⟨k1,k2,k3,k4,k5⟩:=O7 hu hV h2 (show i+n<u.length by omega) hvl hv1 hR;have gg:=a2C (u.getD (i+n) 0) (u.getD (i+n-1) 0) (u.getD (i+n-2) 0) (v.getD (n-1) 0) (v.getD (n-2) 0) k1 (hu.get _) (hu.get _) (hV.get _) (hV.get _) hv1;have hgW:gd3 (u.getD (i+n) 0) (u.getD (i+n-1) 0) (u.getD (i+n-2) 0) (v.getD (n-1) 0) (v.getD (n-2) 0)<W:=Nat.lt_of_le_of_lt (Nat.min_le_right _ _) (Nat.sub_lt (by decide) (by decide));generalize gd3 (u.getD (i+n) 0) (u.getD (i+n-1) 0) (u.getD (i+n-2) 0) (v.getD (n-1) 0) (v.getD (n-2) 0)=g at *;have t1:((i:Int)+n).toNat=i+n:=by omega
  have t2:((i:Int)+n-1).toNat=i+n-1:=by omega
  have t3:((i:Int)+n-2).toNat=i+n-2:=by omega
  have t4:((n:Int)-1).toNat=n-1:=by omega
  have t5:((n:Int)-2).toNat=n-2:=by omega
  simp (disch:=omega) only[wt,seval,reduceCtorEq,Nat.reduceEqDiff,aK,aT,Option.getD_some,hF,t1,t2,t3,t4,t5];refine .inl ⟨aZ (by kernel_rfl),?_⟩;refine au (gg) (by first|rfl|(simp only[aH,bn,aB,aI,aA,Nat.reduceEqDiff,↓reduceIte,hF,t1,t2,t3,t4,t5];rfl)) (by simp) ?_;simp (disch:=omega) only[wt,seval,reduceCtorEq,Nat.reduceEqDiff,aK,aT,Option.getD_some,hF,t1,t2,t3,t4,t5]
  first|exact aN (by kernel_rfl)|refine⟨aN (by kernel_rfl),?_⟩
  have hal:((u.drop i).take n).length=n:=by simp;omega
  have ms:=XM ((u.drop i).take n) v g ((hu.drop i).take n) hV hgW (by omega) (by omega);rw[hal]at ms;have hlo:=jm ((hu.drop i).take n);rw[hal]at hlo;obtain⟨c1,c2⟩:=a5U (y:=nv v*g) (fK n) hlo;generalize hc:a0O (nv ((u.drop i).take n)) (nv v*g) (W^n)=c at *;have t6:((i:Int)+n-i).toNat=n:=by omega
  refine F6 (λf H=>f 14=.iv (.int .i64 i)/\f 12=.hs 54 st/\f 13=.hs 59 st2/\f 6=.iv (.int .i64 n)/\f 7=.iv (.int .i64 s)/\f 8=.iv (.sl (dJ v))/\f 15=.iv (.int .u64 g)/\H 54=.blk false st 73 1 (dJ u)/\H 59=.blk false st2 73 1 (dJ q)/\H 999=.mrk B0) ?_ (λf H hF=>?_)
  .simp (disch:=omega) only[wt,seval,reduceCtorEq,Nat.reduceEqDiff,aK,aT,Option.getD_some,hF]
  rw[t6];refine Ls ms (by simp only[aH,bn,hF,xA,xB];rfl) (by simp only[AP];simp;omega) (.inr (flat_own3 ..)) ?_;have a2z:=jT n (nv ((u.drop i).take n)+W^n*c-nv v*g);have b2R:=oq n (nv ((u.drop i).take n)+W^n*c-nv v*g);have b3I:=sV n (nv ((u.drop i).take n)+W^n*c-nv v*g);rw[Nat.mod_eq_of_lt c2]at b3I;rw[<-b3I]at c1 c2;generalize pad n (nv ((u.drop i).take n)+W^n*c-nv v*g)=rs at *;have hti:(u.take i).length=i:=by rw[List.length_take];omega
  have hdi:(u.drop (i+n)).length=m+1-(i+n):=by rw[List.length_drop];omega
  have hh1:i+n<i+n+(m+1-(i+n)):=by omega
  have hiq:i<m+1-n:=by omega
  have hut:=hu.get (i+n);have sb:=Gn (u.getD (i+n) 0) c 0 (by omega);obtain⟨p1,p2⟩:=Yb (b:=0) (g:=g) (fK n) hlo k2 hV0 hVn k4 k5 c1 c2;rcases Nat.lt_or_ge (u.getD (i+n) 0) c with hct|hct
  .obtain⟨p3,p4,p5⟩:=p2 hct;obtain rfl:c=u.getD (i+n) 0+1:=by omega
   rw[show (u.getD (i+n) 0+W-(u.getD (i+n) 0+1)-0)%W=W-1 by rw[show u.getD (i+n) 0+W-(u.getD (i+n) 0+1)-0=W-1 by omega];exact Nat.mod_eq_of_lt (Nat.sub_lt (by decide) (by decide)),
    if_pos (by omega)]at sb
   have hWe:W-1+1=W:=Nat.sub_add_cancel (by decide);have hW1:W-1<W:=Nat.sub_lt (by decide) (by decide);generalize W-1=e at sb hWe hW1;obtain⟨X,x0,x1,x2,x3,x4,x5,x6,x7⟩:=Ci (d:=e) (show i+n<u.length by omega) a2z hu b2R hW1;have hpr:=NI (X:=u.take i++rs++u.drop (i+n)) (k:=i+n) (d:=e) (by simp only[List.length_append];omega);rw[x0]at hpr;simp (disch:=omega) only[wt,seval,reduceCtorEq,Nat.reduceEqDiff,aK,aT,Option.getD_some,hF,a2z,t1];refine au (sb) (by first|rfl|(simp only[aH,bn,aB,aI,aA,Nat.reduceEqDiff,↓reduceIte,hF,a2z,t1,hti,hdi,hh1,hiq];rfl)) (by simp) ?_;simp (disch:=omega) only[wt,seval,reduceCtorEq,Nat.reduceEqDiff,aK,aT,Option.getD_some,hF,a2z,t1,hti,hdi,hh1,hiq];rw[t6];have hg0:1<=g:=by rw[p3];exact Nat.succ_pos _
   have hgL:g<18446744073709551616:=hgW;have hg1:((g:Int)-1)=((g-1:Nat):Int):=(Int.ofNat_sub hg0).symm;have hgl:((g-1:Nat):Int)<18446744073709551616:=by rw[<-hg1];clear p1 p2 p3;omega
   have hgw:=wrap_u64 (n:=((g-1:Nat):Int)) ⟨Int.natCast_nonneg _,hgl⟩;refine F6 (λf H=>f 14=.iv (.int .i64 i)/\f 12=.hs 54 st/\f 13=.hs 59 st2/\f 6=.iv (.int .i64 n)/\f 7=.iv (.int .i64 s)/\f 8=.iv (.sl (dJ v))/\f 15=.iv (.int .u64 (g-1:Nat))/\H 54=.blk false st 73 1 (dJ X)/\H 59=.blk false st2 73 1 (dJ q)/\H 999=.mrk B0) ?_ (λf H hF=>?_)
   .simp (disch:=omega) only[wt,seval,reduceCtorEq,Nat.reduceEqDiff,aK,aT,Option.getD_some,hF,hpr,hg1,hgw]
   have ad:=a2s rs v b2R hV (by omega) (by omega);rw[a2z,hvl,Nat.max_self,p5,Nat.add_div_right _ (fK n),Nat.div_eq_of_lt (Nat.lt_of_lt_of_le (Nat.mod_lt _ hV0) hVn)]at ad;have hbl:=jT n (nv (u.drop i)%nv v+W^n);have hbL:=oq n (nv (u.drop i)%nv v+W^n);have hbv:=sV n (nv (u.drop i)%nv v+W^n);rw[Nat.add_mod_right,Nat.mod_eq_of_lt (Nat.lt_of_lt_of_le (Nat.mod_lt _ hV0) hVn)]at hbv;generalize pad n (nv (u.drop i)%nv v+W^n)=bk at *;obtain⟨Y,z0,z1,z2,z3,z4,z5,z6,z7⟩:=Ci (d:=0) (show i+n<X.length by omega) hbl x7 hbL (by decide);have hqr:=NI (X:=X.take i++bk++X.drop (i+n)) (k:=i+n) (d:=0) (by simp only[List.length_append,List.length_take,List.length_drop];omega);rw[z0]at hqr;refine Ls ad (by simp only[aH,bn,hF,xA,xB,x4];rfl) (by simp only[AP];simp;omega) (.inr (flat_own2 ..)) ?_;have b3H:(X.take i).length=i:=by rw[List.length_take];omega
   have b5H:(X.drop (i+n)).length=m+1-(i+n):=by rw[List.length_drop];omega
   have hbg:(X.take i++bk++X.drop (i+n)).getD (i+n) 0=e:=by
    rw[List.getD_eq_getElem?_getD,List.getElem?_append_right (by simp only[List.length_append];omega),List.length_append,b3H,hbl,Nat.sub_self,List.getElem?_drop,Nat.add_zero,<-List.getD_eq_getElem?_getD,x5]
   have hrow:(dJ (X.take i++bk++X.drop (i+n))).getD (i+n) []=[.int .u64 (e:Int)]:=by
    rw[O4 (by simp only[List.length_append];omega),hbg]
   rw[hrow,uG]at hqr;have b5z:(dJ (X.take i++bk++X.drop (i+n))).set (i+n) [.int .u64 0]=dJ Y:=hqr;have hwr:IntKind.u64.wrap ((e:Int)+1)=0:=by
    have h1:((e:Int)+1)=((e+1:Nat):Int):=rfl;rw[h1,hWe];rfl
   simp (disch:=omega) only[wt,seval,reduceCtorEq,Nat.reduceEqDiff,aK,aT,Option.getD_some,hF,hbl,t1,b3H,b5H,hh1,hiq,hrow,b5z,hwr,uG];rw[x6,k3,Nat.mul_zero,Nat.add_zero,Nat.mul_zero,Nat.add_zero,hbv]at z3;have hq1:g-1=nv (u.drop i)/nv v:=by rw[p3];rfl
   obtain⟨y1,y2⟩:=ES (g:=g-1) (by omega) (by omega) (by omega) hT hE rfl hq1;exact⟨⟨i,st,st2,Y,q.set i (g-1),by omega,z7,by omega,hq.set (Nat.lt_of_le_of_lt (Nat.sub_le _ _) hgW),by simp;omega,by rw[z3];exact Nat.mod_lt _ hV0,by rw[z3];exact y1,by rw[z2,x2];exact y2,rfl,rfl,rfl,rfl,rfl⟩,by omega⟩
  .obtain⟨p3,p4⟩:=p1 hct;rw[show (u.getD (i+n) 0+W-c-0)%W=u.getD (i+n) 0-c by rw[show u.getD (i+n) 0+W-c-0=u.getD (i+n) 0-c+W by omega,Nat.add_mod_right];exact Nat.mod_eq_of_lt (by omega),
    if_neg (by omega)]at sb
   simp (disch:=omega) only[wt,seval,reduceCtorEq,Nat.reduceEqDiff,aK,aT,Option.getD_some,hF,a2z,t1];refine au (sb) (by first|rfl|(simp only[aH,bn,aB,aI,aA,Nat.reduceEqDiff,↓reduceIte,hF,a2z,t1,hti,hdi,hh1,hiq];rfl)) (by simp) ?_;simp (disch:=omega) only[wt,seval,reduceCtorEq,Nat.reduceEqDiff,aK,aT,Option.getD_some,hF,a2z,t1,hti,hdi,hh1,hiq];rw[NI (by simp only[List.length_append];omega)];obtain⟨X,x0,x1,x2,x3,x4,x5,x6,x7⟩:=Ci (d:=u.getD (i+n) 0-c) (show i+n<u.length by omega) a2z hu b2R (by omega);rw[k3,Nat.mul_zero,Nat.add_zero]at x3;have x8:=x3.trans p4;obtain⟨y1,y2⟩:=ES (g:=g) (by omega) (by omega) (by omega) hT hE rfl p3;exact⟨⟨i,st,st2,X,q.set i g,by omega,x7,by omega,hq.set hgW,by simp;omega,by rw[x8];exact Nat.mod_lt _ hV0,by rw[x8];exact y1,by rw[x2];exact y2,rfl,rfl,rfl,by rw[x0],rfl⟩,by omega⟩
 .obtain rfl:k=0:=by omega
  simp only[List.drop_zero]at hR hE;have hun:nv (u.take n)=nv u:=by
   have h1:=ig W u (k:=n) (by omega);have h2:nv u<W^n:=Nat.lt_of_lt_of_le hR (by rw[<-dU (y*2^s),<-hvl];exact Nat.le_of_lt (jm hV));simp only[nv]at *;rcases Nat.eq_zero_or_pos (vl W (u.drop n)) with h|h
   .rw[h,Nat.mul_zero]at h1;exact h1.symm
   .have h3:=Nat.mul_le_mul_left (W^n) h;rw[Nat.mul_succ,Nat.mul_zero,Nat.zero_add]at h3;omega
  have hal:(u.take n).length=n:=by rw[List.length_take];omega
  have hut:=hu.take n;simp (disch:=omega) only[wt,seval,reduceCtorEq,Nat.reduceEqDiff,aK,aT,Option.getD_some,hF];refine au (XF (u.take n) s hut (by omega) (by omega)) (by simp only[aH,bn,hF,xA,xB,List.drop_zero];rfl) (by simp only[AP];simp;omega) ?_;simp (disch:=omega) only[wt,seval,reduceCtorEq,Nat.reduceEqDiff,aK,aT,Option.getD_some,hF];refine Sl ((a1R q hq (by omega))) (by first|rfl|(simp only[aH,bn,aB,aI,aA,Nat.reduceEqDiff,↓reduceIte,hF];rfl)) (by simp) (by first|rfl|assumption|(simp (disch:=omega) only[wt,seval,reduceCtorEq,Nat.reduceEqDiff,aK,aT,Option.getD_some,hF];done)|((repeat (replace hF:=hF.2));exact hF)) ?_;rintro B' E' _ hB hE' ⟨c,rfl,hc⟩;simp (disch:=omega) only[wt,seval,reduceCtorEq,Nat.reduceEqDiff,aK,aT,Option.getD_some,hF];have hpv:=sV (m+1) (x*2^s);rw[hU0,Nat.mod_eq_of_lt hUlt,hE]at hpv;have hps:0<2^s:=Nat.pow_pos (by decide);have hV0:0<y*2^s:=Nat.zero_lt_of_lt hR;have eq1:nv q=x/y:=by
   rw[<-Nat.mul_div_mul_right x y hps,<-hpv,Nat.mul_comm (nv q),Nat.mul_add_div hV0,Nat.div_eq_of_lt hR,Nat.add_zero]
  have eq2:nv u=x%y*2^s:=by
   rw[<-Nat.mul_mod_mul_right,<-hpv,Nat.mul_comm (nv q),Nat.mul_add_mod,Nat.mod_eq_of_lt hR]
  rw[hun,eq1,eq2,Nat.mul_div_cancel _ hps];refine uJ [.iv (a7F c (wd (x/y))),cl (wd (x%y))] (by first|rfl|assumption) (by first|(simp (disch:=omega) only[wt,seval,reduceCtorEq,Nat.reduceEqDiff,aK,aT,Option.getD_some,hF];done)|(simp (disch:=omega) only[wt,seval,reduceCtorEq,Nat.reduceEqDiff,aK,aT,Option.getD_some,hF];rfl)|rfl) ?_;intro E hE;exact⟨c,rfl,hc.mono hB (by omega)⟩
theorem a2t (x y m n:Nat)(hm:(wd x).length=m)(hn:(wd y).length=n)(h2:2<=n)(hxy:y<=x)(hl:m<=2^38):AC Tryz.prog 119 [cl (wd x),cl (wd y)] none [cl (wd (x/y)),cl (wd (x%y))] :=
 ACX.plain (Ya x y m n hm hn h2 hxy hl) λB E r hr=>by
  obtain⟨b,rfl,-⟩:=hr;exact .cons (.iv a0S) (.cons (.refl _) .nil)
theorem a9x {y:Nat}(h:(wd y).length=1):(wd y).getD 0 0=y/\y<W:=by
 have h1:=dn W (wd y) 0;rw[Nat.zero_add,List.take_of_length_le (by omega),List.take_zero,Nat.pow_zero,Nat.one_mul]at h1;have h2:=dU y;simp only[nv,vl,Nat.zero_add]at *;have h3:=(bY y).get 0;omega
theorem WX (a b:List Nat)(ha:Lim a)(hb:Lim b)(hla:a.length<=2^38)(hlb:b.length<=2^38)(h0:nv b≠0):AC Tryz.prog 89 [cl a,cl b] none [cl (wd (nv a/nv b)),cl (wd (nv a%nv b)),ci 0]:=by
 refine AC.aF (rs:=[.tmp 4,.tmp 5,.tmp 6]) bM Tryz.func89 (by rfl) (by rfl) (by rfl) (by rfl) (by rfl) ?_;simp (disch:=omega) only[wt,seval,reduceCtorEq,Nat.reduceEqDiff,aK,aT,Option.getD_some];refine au ((kG a ha (by omega))) (by rfl) (by simp) ?_;simp (disch:=omega) only[wt,seval,reduceCtorEq,Nat.reduceEqDiff,aK,aT,Option.getD_some];refine au ((kG b hb (by omega))) (by rfl) (by simp) ?_;simp (disch:=omega) only[wt,seval,reduceCtorEq,Nat.reduceEqDiff,aK,aT,Option.getD_some];have hxl:=lF ha;have hyl:=lF hb;generalize nv a=x at *;generalize nv b=y at *;refine bU (λh=>?_) (λh=>?_)
 .have:=ku.mp (Int.ofNat.inj h);exact absurd this h0
 simp (disch:=omega) only[wt,seval,reduceCtorEq,Nat.reduceEqDiff,aK,aT,Option.getD_some];refine au ((GU (wd x) (wd y) (bY _) (bY _) (by omega) (by omega))) (by rfl) (by simp) ?_;simp (disch:=omega) only[wt,seval,reduceCtorEq,Nat.reduceEqDiff,aK,aT,Option.getD_some];rw[dU,dU];refine bU (λhc=>?_) (λhc=>?_)
 .have hlt:x<y:=by
   unfold IB at hc;split at hc
   .assumption
   .split at hc<;>omega
  rw[Nat.div_eq_of_lt hlt,Nat.mod_eq_of_lt hlt,pY];simp (disch:=omega) only[wt,seval,reduceCtorEq,Nat.reduceEqDiff,aK,aT,Option.getD_some]
 have hle:y<=x:=by
  unfold IB at hc;split at hc
  .omega
  .omega
 simp (disch:=omega) only[wt,seval,reduceCtorEq,Nat.reduceEqDiff,aK,aT,Option.getD_some];refine bU (λh1=>?_) (λh1=>?_)
 .obtain⟨e1,e2⟩:=a9x (Int.ofNat.inj h1);have hp:0<(wd y).length:=by omega
  simp (disch:=omega) only[wt,seval,reduceCtorEq,Nat.reduceEqDiff,aK,aT,Option.getD_some];have m:=a2R (wd x) y (bY _) (by omega) h0 e2;rw[dU]at m;have n:=KC (x%y) (Nat.lt_trans (Nat.mod_lt _ (by omega)) e2);simp (disch:=omega) only[wt,seval,reduceCtorEq,Nat.reduceEqDiff,aK,aT,Option.getD_some,e1];refine au (m) (by first|rfl|(simp only[aH,bn,aB,aI,aA,Nat.reduceEqDiff,↓reduceIte,e1];rfl)) (by simp) ?_;simp (disch:=omega) only[wt,seval,reduceCtorEq,Nat.reduceEqDiff,aK,aT,Option.getD_some,e1];refine au (n) (by first|rfl|(simp only[aH,bn,aB,aI,aA,Nat.reduceEqDiff,↓reduceIte,e1];rfl)) (by simp) ?_;simp (disch:=omega) only[wt,seval,reduceCtorEq,Nat.reduceEqDiff,aK,aT,Option.getD_some,e1]
 .have hn:2<=(wd y).length:=by omega
  simp (disch:=omega) only[wt,seval,reduceCtorEq,Nat.reduceEqDiff,aK,aT,Option.getD_some];refine au ((a2t x y _ _ rfl rfl hn hle (by omega))) (by rfl) (by simp) ?_;simp (disch:=omega) only[wt,seval,reduceCtorEq,Nat.reduceEqDiff,aK,aT,Option.getD_some]
theorem b0w (a b:List Nat)(ha:Lim a)(hb:Lim b)(hla:a.length<=2^38)(hlb:b.length<=2^38)(h0:nv b≠0):AC Tryz.prog 117 [cl a,cl b] none [cl (wd (nv a%nv b)),ci 0]:=by
 refine AC.aF (rs:=[.tmp 4,.tmp 5]) bM Tryz.func117 (by rfl) (by rfl) (by rfl) (by rfl) (by rfl) ?_;simp (disch:=omega) only[wt,seval,reduceCtorEq,Nat.reduceEqDiff,aK,aT,Option.getD_some];refine au ((WX a b ha hb hla hlb h0)) (by rfl) (by simp) ?_;simp (disch:=omega) only[wt,seval,reduceCtorEq,Nat.reduceEqDiff,aK,aT,Option.getD_some]
theorem a7v (a b:List Nat)(ha:Lim a)(hb:Lim b)(hla:a.length<=2^38)(hlb:b.length<=2^38)(h0:nv b≠0):AC Tryz.prog 88 [cl a,cl b] none [cl (wd (nv a%nv b))]:=by
 refine AC.aF (rs:=[.tmp 4]) bM Tryz.func88 (by rfl) (by rfl) (by rfl) (by rfl) (by rfl) ?_;simp (disch:=omega) only[wt,seval,reduceCtorEq,Nat.reduceEqDiff,aK,aT,Option.getD_some];refine au ((b0w a b ha hb hla hlb h0)) (by rfl) (by simp) ?_;simp (disch:=omega) only[wt,seval,reduceCtorEq,Nat.reduceEqDiff,aK,aT,Option.getD_some]
theorem xM (a b:List Nat)(ha:Lim a)(hb:Lim b)(hla:a.length<=2^38)(hlb:b.length<=2^38)(h0:nv b≠0):AC Tryz.prog 61 [cl a,cl b] none [cl (if nv a%nv b=0 then wd (nv a/nv b) else []),ci (if nv a%nv b=0 then 0 else 4)]:=by
 refine AC.aF (rs:=[.tmp 4,.tmp 5]) bM Tryz.func61 (by rfl) (by rfl) (by rfl) (by rfl) (by rfl) ?_;simp (disch:=omega) only[wt,seval,reduceCtorEq,Nat.reduceEqDiff,aK,aT,Option.getD_some];refine au ((WX a b ha hb hla hlb h0)) (by rfl) (by simp) ?_;simp (disch:=omega) only[wt,seval,reduceCtorEq,Nat.reduceEqDiff,aK,aT,Option.getD_some];refine bU (λh=>?_) (λh=>?_)
 .have h1:nv a%nv b≠0:=λh2=>by rw[h2,pY]at h;simp at h
  rw[if_neg h1,if_neg h1];simp (disch:=omega) only[wt,seval,reduceCtorEq,Nat.reduceEqDiff,aK,aT,Option.getD_some]
 .have h1:nv a%nv b=0:=by
   rcases Nat.eq_zero_or_pos (wd (nv a%nv b)).length with h2|h2
   .exact ku.mp h2
   .exact absurd (by omega) h
  rw[if_pos h1,if_pos h1];simp (disch:=omega) only[wt,seval,reduceCtorEq,Nat.reduceEqDiff,aK,aT,Option.getD_some]
def a6S (f:Fr)(t:Nat):Nat:=match f t with
 |.iv (.sl rows)=>nv (rows.map λr=>match r with | [.int _ n]=>n.toNat|_=>0)
 |_=>0
theorem QI {f:Fr}{t v:Nat}(h:f t=.iv (.sl (dJ (wd v)))):a6S f t=v:=by
 unfold a6S;rw[h];have e:(dJ (wd v)).map (λr=>match r with | [.int _ n]=>n.toNat|_=>0)=wd v:=by
  simp only[dJ,List.map_map]
  conv=>rhs;rw[<-List.map_id (wd v)]
  rfl
 simp only[e,dU]
theorem a4Q (a b:List Nat)(ha:Lim a)(hb:Lim b)(hla:a.length<=2^38)(hlb:b.length<=2^38):AC Tryz.prog 60 [cl a,cl b] none [cl (wd (Nat.gcd (nv a) (nv b)))]:=by
 refine AC.aF (rs:=[.tmp 4]) bM Tryz.func60 (by rfl) (by rfl) (by rfl) (by rfl) (by rfl) ?_;simp (disch:=omega) only[wt,seval,reduceCtorEq,Nat.reduceEqDiff,aK,aT,Option.getD_some];refine au ((kG a ha (by omega))) (by rfl) (by simp) ?_;simp (disch:=omega) only[wt,seval,reduceCtorEq,Nat.reduceEqDiff,aK,aT,Option.getD_some];refine au ((kG b hb (by omega))) (by rfl) (by simp) ?_;simp (disch:=omega) only[wt,seval,reduceCtorEq,Nat.reduceEqDiff,aK,aT,Option.getD_some];have hxl:=lF ha;have hyl:=lF hb;generalize nv a=x at *;generalize nv b=y at *;refine bF (λf H=>∃u v:Nat,Nat.gcd u v=Nat.gcd x y/\(wd u).length<=2^38/\(wd v).length<=2^38/\f 0=.iv (.sl (dJ (wd u)))/\f 1=.iv (.sl (dJ (wd v)))) (λf H=>a6S f 1) ?_ ?_
 .exact⟨x,y,rfl,by omega,by omega,by simp (disch:=omega) only[wt,seval,reduceCtorEq,Nat.reduceEqDiff,aK,aT,Option.getD_some]⟩
 rintro f H ⟨u,v,hg,hu,hv,hF⟩;rw[QI hF.2];simp (disch:=omega) only[wt,seval,reduceCtorEq,Nat.reduceEqDiff,aK,aT,Option.getD_some,hF];refine bU (λh=>?_) (λh=>?_)
 .have h0:v≠0:=λh1=>by rw[h1,pY]at h;simp at h
  have hm:=a7v (wd u) (wd v) (bY _) (bY _) hu hv (by rw[dU];exact h0);rw[dU,dU]at hm;simp (disch:=omega) only[wt,seval,reduceCtorEq,Nat.reduceEqDiff,aK,aT,Option.getD_some,hF];refine au (hm) (by first|rfl|(simp only[aH,bn,aB,aI,aA,Nat.reduceEqDiff,↓reduceIte,hF];rfl)) (by simp) ?_;simp (disch:=omega) only[wt,seval,reduceCtorEq,Nat.reduceEqDiff,aK,aT,Option.getD_some,hF];have hlt:=Nat.mod_lt u (Nat.pos_of_ne_zero h0);have:=fB (Nat.le_of_lt hlt);rw[QI rfl];exact⟨⟨v,u%v,by rw[<-hg,Nat.gcd_comm u v,Nat.gcd_rec v u,Nat.gcd_comm],hv,by omega,rfl,rfl⟩,hlt⟩
 .have h0:v=0:=ku.mp (by omega);subst h0;rw[Nat.gcd_zero_right]at hg;simp (disch:=omega) only[wt,seval,reduceCtorEq,Nat.reduceEqDiff,aK,aT,Option.getD_some,hF,hg]
theorem xI (c:RI):iv c=sg c.1 (nv c.2):=rfl
theorem MX (s:Bool)(n:Nat)(h:(wd n).length<=2^40):AC Tryz.prog 62 [cb s,cl (wd n)] none [cz (sg s n)]:=by
 refine AC.aF (rs:=[.cell 4 29]) bM Tryz.func62 (by rfl) (by rfl) (by rfl) (by rfl) (by rfl) ?_;simp (disch:=omega) only[wt,seval,reduceCtorEq,Nat.reduceEqDiff,aC];have m:=pX (s,wd n) ⟨h,bY _⟩;rw[xI,dU]at m;refine au (m) (by rfl) (by simp) ?_;simp (disch:=omega) only[wt,seval,reduceCtorEq,Nat.reduceEqDiff,aC]
theorem a4m {s t:Bool}{x y:Nat}(h:x%y=0):sg s x/sg t y=sg (s != t) (x/y)/\sg t y∣sg s x:=by
 obtain⟨k,rfl⟩:=Nat.dvd_of_mod_eq_zero h;rcases Nat.eq_zero_or_pos y with h0|h0
 .subst h0;cases s<;>cases t<;>simp[sg]
 .rw[Nat.mul_div_cancel_left _ h0];have hy:(y:Int)≠0:=by omega
  cases s<;>cases t<;>simp[sg,Int.mul_ediv_cancel_left _ hy,<-Int.mul_neg]
theorem a4l {s t:Bool}{x y:Nat}:sg t y∣sg s x↔x%y=0:=by
 constructor
 .intro h;have h1:=Int.natAbs_dvd_natAbs.mpr h;have e:∀(b:Bool) (n:Nat),(sg b n).natAbs=n:=λb n=>by cases b<;>simp[sg]
  rw[e,e]at h1;exact Nat.mod_eq_zero_of_dvd h1
 .intro h;exact(a4m h).2
theorem Bq (a b:RI)(ha:Sz (2^38) a)(hb:Sz (2^38) b)(h0:iv b≠0)(hd:iv b∣iv a):AC Tryz.prog 165 [cr a,cr b] none [cz (iv a/iv b),ci 0]:=by
 refine AC.aF (rs:=[.cell 4 29,.tmp 5]) bM Tryz.func165 (by rfl) (by rfl) (by rfl) (by rfl) (by rfl) ?_;rw[xI,xI]at hd;rw[xI]at h0;have hm:=a4l.mp hd;have hn:nv b.2≠0:=λh=>h0 (by rw[h];cases b.1<;>rfl)
 have m:=xM a.2 b.2 ha.2 hb.2 ha.1 hb.1 hn;rw[if_pos hm,if_pos hm]at m;rw[xI,xI,(a4m hm).1];simp (disch:=omega) only[wt,seval,reduceCtorEq,Nat.reduceEqDiff,aC];refine au (m) (by rfl) (by simp) ?_;simp (disch:=omega) only[wt,seval,reduceCtorEq,Nat.reduceEqDiff,aC];refine au ((mP (a.1 != b.1) (nv a.2/nv b.2))) (by rfl) (by simp) ?_;simp (disch:=omega) only[wt,seval,reduceCtorEq,Nat.reduceEqDiff,aC]
theorem SX (a b:RI)(ha:Sz (2^38) a)(hb:Sz (2^38) b)(h0:iv b≠0)(hd:¬iv b∣iv a):AC Tryz.prog 165 [cr a,cr b] none [cr (false,[]),ci 4]:=by
 refine AC.aF (rs:=[.cell 4 29,.tmp 5]) bM Tryz.func165 (by rfl) (by rfl) (by rfl) (by rfl) (by rfl) ?_;rw[xI,xI]at hd;rw[xI]at h0;have hm:¬nv a.2%nv b.2=0:=λh=>hd (a4l.mpr h)
 have hn:nv b.2≠0:=λh=>h0 (by rw[h];cases b.1<;>rfl)
 have m:=xM a.2 b.2 ha.2 hb.2 ha.1 hb.1 hn;rw[if_neg hm,if_neg hm]at m;simp (disch:=omega) only[wt,seval,reduceCtorEq,Nat.reduceEqDiff,aC];refine au (m) (by rfl) (by simp) ?_;simp (disch:=omega) only[wt,seval,reduceCtorEq,Nat.reduceEqDiff,aC]
def gz (q:List Int):Nat:=q.foldl (λg c=>Nat.gcd g c.natAbs) 0
theorem D8 {q:List Int}{i:Nat}(h:i<q.length):gz (q.take (i+1))=Nat.gcd (gz (q.take i)) (cf q i).natAbs:=by
 have e:q.take (i+1)=q.take i++[cf q i]:=by
  rw[List.take_add_one];congr 1;simp[cf,List.getD,h]
 rw[e,gz,List.foldl_append];rfl
theorem a5K (p:List RI)(h:RP (2^40) (2^38) p):AC Tryz.prog 166 [cw p] none [cl (wd (gz (pv p)))]:=by
 refine AC.aF (rs:=[.tmp 2]) bM Tryz.func166 (by rfl) (by rfl) (by rfl) (by rfl) (by rfl) ?_;have hl:=h.1;simp (disch:=omega) only[wt,seval,reduceCtorEq,Nat.reduceEqDiff,aC];refine OW (.iv 3 6 1 false 73 1 [] (by simp (disch:=omega) only[wt,seval,reduceCtorEq,Nat.reduceEqDiff,aC]) (by simp (disch:=omega) only[wt,seval,reduceCtorEq,Nat.reduceEqDiff,aC]) (.refl _ _)) (λf H=>∃(i:Nat),i<=p.length/\(wd (gz ((pv p).take i))).length<=2^38/\f 9=.iv (.int .i64 i)/\f 7=.iv (.sl (gZ p))/\f 8=.iv (.int .i64 p.length)/\f 3=.iv (.sl (dJ (wd (gz ((pv p).take i)))))) (λf H=>(p.length-dQ f 9).toNat) ?_ ?_
 .refine⟨0,by omega,by rw[List.take_zero,gz,List.foldl_nil,pY];exact Nat.zero_le _,?_⟩;simp (disch:=omega) only[wt,seval,reduceCtorEq,Nat.reduceEqDiff,aC,List.take_zero,gz,List.foldl_nil,pY,AO]
 rintro f H ⟨i,hi,hs,hF⟩;rw[bC hF.1];simp (disch:=omega) only[wt,seval,reduceCtorEq,Nat.reduceEqDiff,aC,hF];refine bU (λhlt=>?_) (λhlt=>?_)
 .have hc:=h.get i;have m:=a4Q (wd (gz ((pv p).take i))) (p.getD i (false,[])).2 (bY _) hc.2 hs hc.1;rw[dU,<-rF,<-rJ,<-D8 (by rw[iK];omega)]at m;simp (disch:=omega) only[wt,seval,reduceCtorEq,Nat.reduceEqDiff,aC,hF];refine au (m) (by first|rfl|(simp only[aH,bn,aB,aI,aA,Nat.reduceEqDiff,↓reduceIte,hF];rfl)) (by simp) ?_;simp (disch:=omega) only[wt,seval,reduceCtorEq,Nat.reduceEqDiff,aC,hF];refine⟨⟨i+1,by omega,?_,by omega,rfl⟩,by omega⟩;rw[D8 (by rw[iK];omega)];rcases Nat.eq_zero_or_pos (cf (pv p) i).natAbs with h0|h0
  .rw[h0,Nat.gcd_zero_right];exact hs
  .refine Nat.le_trans (fB (Nat.gcd_le_right _ h0)) ?_;rw[rJ,rF];exact Nat.le_trans (lF hc.2) hc.1
 .simp (disch:=omega) only[wt,seval,reduceCtorEq,Nat.reduceEqDiff,aC,hF];rw[List.take_of_length_le (by rw[iK];omega)]
theorem a4O {n k:Nat}{p:List RI}(h:RP n k p):(wd (gz (pv p))).length<=k:=by
 have key:∀i,i<=p.length->(wd (gz ((pv p).take i))).length<=k:=by
  intro i
  induction i with
  |zero=>intro _;rw[List.take_zero,gz,List.foldl_nil,pY];exact Nat.zero_le _
  |succ i ih =>
   intro hi;rw[D8 (by rw[iK];omega)];rcases Nat.eq_zero_or_pos (cf (pv p) i).natAbs with h0|h0
   .rw[h0,Nat.gcd_zero_right];exact ih (by omega)
   .refine Nat.le_trans (fB (Nat.gcd_le_right _ h0)) ?_;rw[rJ,rF];exact Nat.le_trans (lF (h.get i).2) (h.get i).1
 have:=key p.length (Nat.le_refl _);rwa [List.take_of_length_le (by rw[iK];exact Nat.le_refl _)]at this
def lc (q:List Int):Int:=cf q (tz q-1)
def cont (q:List Int):Int:=sg (decide (lc q<0)) (gz q)
theorem sign_neg (z:Int):z.sign<0↔z<0:=by
 rcases Int.lt_trichotomy z 0 with h|h|h
 .rw[Int.sign_eq_neg_one_of_neg h];omega
 .subst h;simp
 .rw[Int.sign_eq_one_of_pos h];omega
theorem NM (p:List RI)(h:RP (2^40) (2^38) p):AC Tryz.prog 145 [cw p] none [cz (cont (pv p))]:=by
 refine AC.aF (rs:=[.cell 2 29]) bM Tryz.func145 (by rfl) (by rfl) (by rfl) (by rfl) (by rfl) ?_;have hl:=h.1;have hg:=a4O h;have hs:=fM (canon (lc (pv p))) ((aW _).mono (by
  have:=(h.pv).cf (tz (pv p)-1);unfold lc;omega))
 rw[aU]at hs;simp (disch:=omega) only[wt,seval,reduceCtorEq,Nat.reduceEqDiff,aC];refine au ((Qz p (h.mono (by omega) (by omega)))) (by rfl) (by simp) ?_;simp (disch:=omega) only[wt,seval,reduceCtorEq,Nat.reduceEqDiff,aC];refine au (hs) (by rfl) (by simp) ?_;simp (disch:=omega) only[wt,seval,reduceCtorEq,Nat.reduceEqDiff,aC];refine au ((a5K p h)) (by rfl) (by simp) ?_;simp (disch:=omega) only[wt,seval,reduceCtorEq,Nat.reduceEqDiff,aC];have m:=MX (decide (lc (pv p)<0)) (gz (pv p)) (by omega);have e:(decide ((lc (pv p)).sign<0))=decide (lc (pv p)<0):=by rw[decide_eq_decide];exact sign_neg _
 rw[e];refine au (m) (by rfl) (by simp) ?_;simp (disch:=omega) only[wt,seval,reduceCtorEq,Nat.reduceEqDiff,aC];rfl
def Cm (c:Int)(q:List Int):List Int:=q.map (· / c)
theorem U4 (p:List RI)(c:RI)(hp:RP (2^40) (2^38) p)(hc:Sz (2^38) c)(h0:iv c=0):AC Tryz.prog 144 [cw p,cr c] none [cw [],ci 1]:=by
 refine AC.aF (rs:=[.tmp 4,.tmp 5]) bM Tryz.func144 (by rfl) (by rfl) (by rfl) (by rfl) (by rfl) ?_;simp (disch:=omega) only[wt,seval,reduceCtorEq,Nat.reduceEqDiff,aC];have hs:=fM c (hc.mono (by omega));rw[h0]at hs;rw[Int.sign_zero]at hs;refine au (hs) (by rfl) (by simp) ?_;simp (disch:=omega) only[wt,seval,reduceCtorEq,Nat.reduceEqDiff,aC]
theorem iE (c:Int)(q:List Int)(k:Nat):cf (Cm c q) k=cf q k/c:=by
 unfold Cm cf;rw[List.getD_eq_getElem?_getD,List.getD_eq_getElem?_getD,List.getElem?_map];cases q[k]? with
 |none=>simp
 |some x=>rfl
theorem Jj {a b:Int}(h:b∣a):zl (a/b)<=zl a:=by
 obtain⟨k,rfl⟩:=h;by_cases h0:b=0
 .subst h0;simp
 .rw[Int.mul_ediv_cancel_left _ h0];unfold zl;rw[Int.natAbs_mul];exact fB (Nat.le_mul_of_pos_left _ (by omega))
theorem Qx (p:List RI)(c:RI)(hp:RP (2^30) (2^35) p)(hc:Sz (2^35) c)(h0:iv c≠0)(hd:∀k,iv c∣cf (pv p) k):AC Tryz.prog 144 [cw p,cr c] none [cp (Cm (iv c) (pv p)),ci 0]:=by
 refine AC.aF (rs:=[.tmp 4,.tmp 5]) bM Tryz.func144 (by rfl) (by rfl) (by rfl) (by rfl) (by rfl) ?_;have hl:=hp.1;have hs0:(iv c).sign≠0:=λh=>h0 (Int.sign_eq_zero_iff_zero.mp h)
 simp (disch:=omega) only[wt,seval,reduceCtorEq,Nat.reduceEqDiff,aC];refine au ((fM c (hc.mono (by omega)))) (by rfl) (by simp) ?_;simp (disch:=omega) only[wt,seval,reduceCtorEq,Nat.reduceEqDiff,aC];simp (disch:=omega) only[wt,seval,reduceCtorEq,Nat.reduceEqDiff,aC,hs0];refine bF (λf H=>∃(i st st3:Nat) (out:List Int),i<=p.length/\out.length=p.length/\(∀k,zl (cf out k)<=2^36)/\(∀k,k<i->cf out k=cf (pv p) k/iv c)/\f 18=.iv (.int .i64 i)/\f 0=.iv (.sl (gZ p))/\f 3=.hp 3 st3 0 0/\f 6=.hs 15 st/\f 17=.iv (.int .i64 p.length)/\H 15=.blk false st 29 2 (gZ (out.map canon))/\H 3=.blk false st3 29 2 [je c]) (λf H=>(p.length-dQ f 18).toNat) ?_ ?_
 .refine⟨0,1,1,List.replicate p.length 0,by omega,by simp,λk=>by rw[S9,fA];omega,λk hk=>by omega,?_⟩;simp (disch:=omega) only[wt,seval,reduceCtorEq,Nat.reduceEqDiff,aC,Int.toNat_natCast,wS]
 rintro f H ⟨i,st,st3,out,hi,hol,hz,hv,hF⟩;rw[bC hF.1];simp (disch:=omega) only[wt,seval,reduceCtorEq,Nat.reduceEqDiff,aC,hF];refine bU (λhlt=>?_) (λhlt=>?_)
 .have hq:(out.map canon).length=p.length:=by rw[List.length_map,hol]
  have hdi:=hd i;rw[rJ]at hdi;have m:=Bq (p.getD i (false,[])) c ((hp.get i).mono (by omega)) (hc.mono (by omega)) h0 hdi;rw[<-rJ]at m;simp (disch:=omega) only[wt,seval,reduceCtorEq,Nat.reduceEqDiff,aC,hF,hq];refine .inl ⟨aZ (by kernel_rfl),?_⟩;refine au (m) (by first|rfl|(simp only[aH,bn,aB,aI,aA,Nat.reduceEqDiff,↓reduceIte,hF,hq];rfl)) (by simp) ?_;simp (disch:=omega) only[wt,seval,reduceCtorEq,Nat.reduceEqDiff,aC,hF,hq]
  first|exact aN (by kernel_rfl)|refine⟨aN (by kernel_rfl),?_⟩
  refine⟨⟨i+1,st,st3,out.set i (cf (pv p) i/iv c),by omega,by simp[hol],λk=>?_,λk hk=>?_,by omega,rfl,rfl,rfl,rfl⟩,by omega⟩
  .rw[y5 (by omega)];split
   .have:=Jj (hd i);have:=hp.pv.cf i;omega
   .exact hz k
  .rw[y5 (by omega)];split
   .rename_i e;rw[e]
   .exact hv k (by omega)
 .simp (disch:=omega) only[wt,seval,reduceCtorEq,Nat.reduceEqDiff,aC,hF];have e:cp (Cm (iv c) (pv p))=cp (pv (out.map canon)):=by
   refine vg λk=>?_;rw[gW,iE];by_cases hk:k<p.length
   .exact(hv k (by omega)).symm
   .rw[jK (q:=out) (by omega),jK (by rw[iK];omega)];simp
  rw[e];refine au ((gX (out.map canon) (RP.canon (.of (by omega) λk=>Nat.le_trans (hz k) (by omega))))) (by first|rfl|(simp only[aH,bn,aB,aI,aA,Nat.reduceEqDiff,↓reduceIte,hF];rfl)) (by simp) ?_;simp (disch:=omega) only[wt,seval,reduceCtorEq,Nat.reduceEqDiff,aC,hF]
theorem EY (q:List Int)(k:Nat):(gz q:Int)∣cf q k:=by
 have key:∀i,i<=q.length->∀k,k<i->(gz (q.take i):Int)∣cf q k:=by
  intro i
  induction i with
  |zero=>intro _ k hk;omega
  |succ i ih =>
   intro hi k hk;rw[D8 (by omega)];rcases Nat.lt_or_ge k i with h|h
   .exact Int.dvd_trans (Int.natCast_dvd_natCast.mpr (Nat.gcd_dvd_left _ _)) (ih (by omega) k h)
   .obtain rfl:k=i:=by omega
    exact Int.ofNat_dvd_left.mpr (Nat.gcd_dvd_right _ _)
 rcases Nat.lt_or_ge k q.length with h|h
 .have:=key q.length (Nat.le_refl _) k h;rwa [List.take_of_length_le (Nat.le_refl _)]at this
 .rw[jK h];exact Int.dvd_zero _
theorem qN (q:List Int)(k:Nat):cont q∣cf q k:=by
 have:=EY q k;unfold cont sg;split
 .exact Int.neg_dvd.mpr this
 .exact this
theorem jC (q:List Int):(cont q).natAbs=gz q:=by
 unfold cont sg;split<;>simp
def jZ (q:List Int):List Int:=Cm (cont q) q
theorem a1y (p:List RI)(h:RP (2^30) (2^35) p):AC Tryz.prog 121 [cw p] none [cp (jZ (pv p))]:=by
 refine AC.aF (rs:=[.tmp 2]) bM Tryz.func121 (by rfl) (by rfl) (by rfl) (by rfl) (by rfl) ?_;have hg:=a4O h;have hsz:Sz (2^35) (canon (cont (pv p))):=(aW _).mono (by unfold zl;rw[jC];exact hg);simp (disch:=omega) only[wt,seval,reduceCtorEq,Nat.reduceEqDiff,aC];refine au ((NM p (h.mono (by omega) (by omega)))) (by rfl) (by simp) ?_;simp (disch:=omega) only[wt,seval,reduceCtorEq,Nat.reduceEqDiff,aC];by_cases h0:cont (pv p)=0
 .have m:=U4 p (canon (cont (pv p))) (h.mono (by omega) (by omega)) (hsz.mono (by omega)) (by rw[aU];exact h0);have e:cp (jZ (pv p))=cw []:=by
   have:cp (jZ (pv p))=cp []:=vg λk=>by
    unfold jZ;rw[iE,h0,Int.ediv_zero];rfl
   rw[this];rfl
  rw[e];refine au (m) (by rfl) (by simp) ?_;simp (disch:=omega) only[wt,seval,reduceCtorEq,Nat.reduceEqDiff,aC]
 .have m:=Qx p (canon (cont (pv p))) h hsz (by rw[aU];exact h0) (λk=>by rw[aU];exact qN _ k);rw[aU]at m;refine au (m) (by rfl) (by simp) ?_;simp (disch:=omega) only[wt,seval,reduceCtorEq,Nat.reduceEqDiff,aC];rfl
theorem fU (q:List Int)(d:Nat)(h:∀k,(d:Int)∣cf q k):d∣gz q:=by
 have key:∀i,i<=q.length->d∣gz (q.take i):=by
  intro i
  induction i with
  |zero=>intro _;exact Nat.dvd_zero _
  |succ i ih =>
   intro hi;rw[D8 (by omega)];exact Nat.dvd_gcd (ih (by omega)) (Int.ofNat_dvd_left.mp (h i))
 have:=key q.length (Nat.le_refl _);rwa [List.take_of_length_le (Nat.le_refl _)]at this
theorem Yr {p q:List Int}(h:∀k,cf p k=cf q k):gz p=gz q :=
 Nat.dvd_antisymm (fU q _ λk=>by rw[<-h];exact EY p k) (fU p _ λk=>by rw[h];exact EY q k)
theorem a2B (c:Int)(q:List Int):gz (aY c q)=c.natAbs*gz q:=by
 have key:∀(q:List Int) (g:Nat),(aY c q).foldl (λg x=>Nat.gcd g x.natAbs) (c.natAbs*g)=c.natAbs*q.foldl (λg x=>Nat.gcd g x.natAbs) g:=by
  intro q
  induction q with
  |nil=>intro g;rfl
  |cons x xs ih =>
   intro g;have e:aY c (x::xs)=(x*c)::aY c xs:=rfl;rw[e,List.foldl_cons,List.foldl_cons,Int.natAbs_mul,Nat.mul_comm x.natAbs,Nat.gcd_mul_left,ih]
 exact key q 0
theorem Kq:∀n:Nat,1<n->∃r,1<r/\r∣n/\∀x:Nat,r∣x\/Nat.gcd r x=1:=by
 intro n
 induction n using Nat.strongRecOn with
 |_ n ih =>
  intro hn;by_cases h:∀x:Nat,n∣x\/Nat.gcd n x=1
  .exact⟨n,hn,Nat.dvd_refl _,h⟩
  .obtain⟨x,hx⟩:=Classical.not_forall.mp h;have h1:¬n∣x:=λh=>hx (.inl h)
   have h2:¬Nat.gcd n x=1:=λh=>hx (.inr h)
   have h3:Nat.gcd n x<=n:=Nat.gcd_le_left _ (by omega);have h4:Nat.gcd n x≠n:=λh=>h1 (by rw[<-h];exact Nat.gcd_dvd_right _ _)
   have h5:Nat.gcd n x≠0:=λh=>by have:=Nat.eq_zero_of_gcd_eq_zero_left h;omega
   obtain⟨r,hr,hrd,hp⟩:=ih (Nat.gcd n x) (by omega) (by omega);exact⟨r,hr,Nat.dvd_trans hrd (Nat.gcd_dvd_left _ _),hp⟩
theorem Xh {r:Nat}(hp:∀x:Nat,r∣x\/Nat.gcd r x=1){x y:Int}(h:(r:Int)∣x*y):(r:Int)∣x\/(r:Int)∣y:=by
 have h1:=Int.ofNat_dvd_left.mp h;rw[Int.natAbs_mul]at h1;rcases hp x.natAbs with h2|h2
 .exact .inl (Int.ofNat_dvd_left.mpr h2)
 .exact .inr (Int.ofNat_dvd_left.mpr (Nat.Coprime.dvd_of_dvd_mul_left h2 h1))
theorem Qb {r:Int}:∀{n:Nat} {f:Nat->Int},(∀k,k<n->r∣f k)->r∣uV n f
 |0,f,_=>Int.dvd_zero _
 |n+1,f,h=>Int.dvd_add (Qb λk hk=>h k (by omega)) (h n (by omega))
theorem JA {r:Int}{n i:Nat}{f:Nat->Int}(hi:i<n)(h:∀k,k<n->k≠i->r∣f k)(hs:r∣uV n f):r∣f i:=by
 have e:uV n f=uV n (λk=>if k=i then 0 else f k)+f i:=by
  have h1:uV n (λk=>if k=i then f k else 0)=f i:=by
   rw[Gl _ hi λk _ hk=>if_neg hk,if_pos rfl]
  rw[<-h1,<-Gm];refine jG λk _=>?_;by_cases hk:k=i
  .rw[if_pos hk,if_pos hk,Int.zero_add]
  .rw[if_neg hk,if_neg hk,Int.add_zero]
 have h2:r∣uV n (λk=>if k=i then 0 else f k):=Qb λk hk=>by
  by_cases hki:k=i
  .simp only[if_pos hki];exact Int.dvd_zero _
  .simp only[if_neg hki];exact h k hk hki
 rw[e]at hs;exact(Int.dvd_add_right h2).mp hs
theorem Dc {r:Nat}(hp:∀x:Nat,r∣x\/Nat.gcd r x=1){p q:List Int}(h:∀k,(r:Int)∣cf (bV p q) k):∀n i j,i+j=n->(r:Int)∣cf p i\/(r:Int)∣cf q j:=by
 intro n
 induction n using Nat.strongRecOn with
 |_ n ih =>
  intro i j hij;by_cases h1:(r:Int)∣cf p i
  .exact .inl h1
  by_cases h2:(r:Int)∣cf q j
  .exact .inr h2
  exfalso
  have h3:=h n;rw[dZ,PS.qM,PS.conv]at h3;have h4:=JA (i:=i) (by omega) (λk hk hki=>?_) h3
  .rw[show n-i=j by omega]at h4;rcases Xh hp h4 with h5|h5
   .exact h1 h5
   .exact h2 h5
  .rcases Nat.lt_or_ge k i with h5|h5
   .rcases ih (k+j) (by omega) k j rfl with h6|h6
    .exact Int.dvd_trans h6 (Int.dvd_mul_right _ _)
    .exact absurd h6 h2
   .rcases ih (i+(n-k)) (by omega) i (n-k) rfl with h6|h6
    .exact absurd h6 h1
    .exact Int.dvd_trans h6 (Int.dvd_mul_left _ _)
theorem a2I {p q:List Int}(hp:gz p=1)(hq:gz q=1):gz (bV p q)=1:=by
 rcases Nat.lt_trichotomy (gz (bV p q)) 1 with h|h|h
 .exfalso
  obtain⟨r,hr,hrd,hpr⟩:=Kq 2 (by decide);have h0:gz (bV p q)=0:=by omega
  have hd:∀k,(r:Int)∣cf (bV p q) k:=λk=>by
   have:=EY (bV p q) k;rw[h0]at this;rw[Int.zero_dvd.mp this];exact Int.dvd_zero _
  have key:=Dc hpr hd;by_cases ha:∀i,(r:Int)∣cf p i
  .have:=fU p r ha;rw[hp]at this;have:=Nat.le_of_dvd (by decide) this;omega
  .obtain⟨i,hi⟩:=Classical.not_forall.mp ha;have:=fU q r λj=>(key _ i j rfl).resolve_left hi
   rw[hq]at this;have:=Nat.le_of_dvd (by decide) this;omega
 .exact h
 .exfalso
  obtain⟨r,hr,hrd,hpr⟩:=Kq _ h;have hd:∀k,(r:Int)∣cf (bV p q) k:=λk=>Int.dvd_trans (Int.natCast_dvd_natCast.mpr hrd) (EY _ k)
  have key:=Dc hpr hd;by_cases ha:∀i,(r:Int)∣cf p i
  .have:=fU p r ha;rw[hp]at this;have:=Nat.le_of_dvd (by decide) this;omega
  .obtain⟨i,hi⟩:=Classical.not_forall.mp ha;have:=fU q r λj=>(key _ i j rfl).resolve_left hi
   rw[hq]at this;have:=Nat.le_of_dvd (by decide) this;omega
theorem Y8 {q:List Int}{n:Nat}(h:cf q n≠0)(h0:∀k,n<k->cf q k=0):lc q=cf q n:=by
 unfold lc;rw[vF h h0,Nat.add_sub_cancel]
theorem a7h {q:List Int}(h:gz q≠0):tz q≠0/\lc q≠0:=by
 have h1:tz q≠0:=λh1=>by
  have h2:(0:Nat)∣gz q:=fU q 0 λk=>by rw[bf.mp h1 k];exact Int.dvd_zero _
  exact h (Nat.eq_zero_of_zero_dvd h2)
 exact⟨h1,dS h1⟩
def Prm (q:List Int):Prop:=gz q=1/\0<lc q
theorem QT {T R:List Int}{c:Int}(h:∀k,cf T k=c*cf R k)(hR:lc R≠0):lc T=c*lc R:=by
 have hR':tz R≠0:=λh0=>hR (by unfold lc;exact bf.mp h0 _)
 by_cases hc:c=0
 .unfold lc;rw[h,hc,Int.zero_mul,Int.zero_mul]
 .have e:lc T=cf T (tz R-1):=Y8 (by rw[h];exact Int.mul_ne_zero hc hR) λk hk=>by rw[h,bW R (by omega),Int.mul_zero]
  rw[e,h];rfl
theorem a4N {T R:List Int}{c:Int}(h:∀k,cf T k=c*cf R k):gz T=c.natAbs*gz R:=by
 rw[<-a2B];exact Yr λk=>by rw[h,dM,Int.mul_comm]
theorem a9N {c l:Int}(hl:0<l):sg (decide (c*l<0)) c.natAbs=c:=by
 unfold sg;by_cases hc:c<0
 .rw[decide_eq_true (Int.mul_neg_of_neg_of_pos hc hl)];simp only[↓reduceIte];omega
 .have h1:¬c*l<0:=by have:=Int.mul_nonneg (show 0<=c by omega) (show 0<=l by omega);omega
  rw[decide_eq_false h1];simp only[Bool.false_eq_true,↓reduceIte];omega
theorem Dw {T R:List Int}{c:Int}(hR:Prm R)(h:∀k,cf T k=c*cf R k):cont T=c:=by
 unfold cont;rw[a4N h,hR.1,Nat.mul_one,QT h (by have:=hR.2;omega)];exact a9N hR.2
theorem a6G {T R:List Int}{c:Int}(hR:Prm R)(hc:c≠0)(h:∀k,cf T k=c*cf R k)(k:Nat):cf (jZ T) k=cf R k:=by
 unfold jZ;rw[iE,Dw hR h,h,Int.mul_ediv_cancel_left _ hc]
theorem IK (q:List Int)(k:Nat):cf q k=cont q*cf (jZ q) k:=by
 unfold jZ;rw[iE,Int.mul_ediv_cancel' (qN q k)]
theorem wW {q:List Int}(h:cont q≠0):Prm (jZ q):=by
 have h0:gz q≠0:=λh0=>h (Int.natAbs_eq_zero.mp (by rw[jC];exact h0))
 have h1:=a4N (IK q);rw[jC]at h1;have h2:gz (jZ q)=1:=by
  have:gz q*gz (jZ q)=gz q*1:=by omega
  exact Nat.eq_of_mul_eq_mul_left (by omega) this
 refine⟨h2,?_⟩;have h3:=(a7h (q:=jZ q) (by omega)).2;have h4:=QT (IK q) h3;have h5:=(a7h h0).2;rcases Int.lt_trichotomy (lc (jZ q)) 0 with h6|h6|h6
 .exfalso
  rcases Int.lt_or_gt_of_ne h5 with h7|h7
  .have h8:cont q<0:=by
    unfold cont sg;rw[decide_eq_true h7];simp only[↓reduceIte];omega
   have:=Int.mul_pos_of_neg_of_neg h8 h6;omega
  .have h8:0<cont q:=by
    unfold cont sg;rw[decide_eq_false (by omega)];simp only[Bool.false_eq_true,↓reduceIte];omega
   have:=Int.mul_neg_of_pos_of_neg h8 h6;omega
 .exact absurd h6 h3
 .exact h6
theorem O5 {P Q:List Int}(hP:lc P≠0)(hQ:lc Q≠0):lc (bV P Q)=lc P*lc Q:=by
 have hP':tz P≠0:=λh0=>hP (by unfold lc;exact bf.mp h0 _)
 have hQ':tz Q≠0:=λh0=>hQ (by unfold lc;exact bf.mp h0 _)
 have e1:cf (bV P Q) (tz P-1+(tz Q-1))=lc P*lc Q:=by
  rw[dZ,PS.qM,PS.conv,Gl (j:=tz P-1) _ (by omega) λi hi hne=>?_]
  .rw[show tz P-1+(tz Q-1)-(tz P-1)=tz Q-1 by omega];rfl
  .rcases Nat.lt_or_ge i (tz P-1) with h|h
   .rw[bW Q (by omega),Int.mul_zero]
   .rw[bW P (by omega),Int.zero_mul]
 rw[Y8 (n:=tz P-1+(tz Q-1)) (by rw[e1];exact Int.mul_ne_zero hP hQ) λk hk=>?_,e1];rw[dZ,PS.qM,PS.conv];refine oM λi hi=>?_;rcases Nat.lt_or_ge i (tz P) with h|h
 .rw[bW Q (by omega),Int.mul_zero]
 .rw[bW P (by omega),Int.zero_mul]
theorem a6C {P Q:List Int}(hP:Prm P)(hQ:Prm Q):Prm (bV P Q):=by
 refine⟨a2I hP.1 hQ.1,?_⟩;have h1:=hP.2;have h2:=hQ.2;rw[O5 (by omega) (by omega)];exact Int.mul_pos h1 h2
theorem wX {q:List Int}(h:cont q=0)(k:Nat):cf (jZ q) k=0/\cf q k=0:=by
 constructor
 .unfold jZ;rw[iE,h,Int.ediv_zero]
 .rw[IK,h,Int.zero_mul]
theorem sS (q:List Int):ps q=PS.C (cont q)*ps (jZ q):=PS.ext λk=>by
 rw[PS.jW,zJ,zJ];exact IK q k
theorem CU (p q:List Int)(k:Nat):cf (bV p q) k=cont p*cont q*cf (bV (jZ p) (jZ q)) k:=by
 have h:ps (bV p q)=PS.C (cont p*cont q)*ps (bV (jZ p) (jZ q)):=by
  rw[aX,aX,sS p,sS q,PS.jL];rw[<-sS p,<-sS q]
  conv=>lhs;rw[sS p,sS q]
  rw[PS.mul_assoc,PS.mul_assoc,<-PS.mul_assoc (ps (jZ p)),PS.mul_comm (ps (jZ p)) (PS.C _),PS.mul_assoc]
 have:=congrArg (λf=>f.c k) h;simp only[zJ,PS.jW]at this;exact this
theorem a2X (p q:List Int):cont (bV p q)=cont p*cont q:=by
 by_cases hp:cont p=0
 .have h0:∀k,cf (bV p q) k=0:=λk=>by rw[CU,hp,Int.zero_mul,Int.zero_mul]
  have h1:gz (bV p q)=0:=Nat.eq_zero_of_zero_dvd (fU _ 0 λk=>by rw[h0];exact Int.dvd_zero _);rw[hp,Int.zero_mul];exact Int.natAbs_eq_zero.mp (by rw[jC];exact h1)
 by_cases hq:cont q=0
 .have h0:∀k,cf (bV p q) k=0:=λk=>by rw[CU,hq,Int.mul_zero,Int.zero_mul]
  have h1:gz (bV p q)=0:=Nat.eq_zero_of_zero_dvd (fU _ 0 λk=>by rw[h0];exact Int.dvd_zero _);rw[hq,Int.mul_zero];exact Int.natAbs_eq_zero.mp (by rw[jC];exact h1)
 exact Dw (a6C (wW hp) (wW hq)) (CU p q)
theorem a6z {q:List Int}(h:∀k,cf q k=0):ps q=0:=PS.ext h
theorem a1x {q:List Int}(h:Prm q):cont q=1/\ps (jZ q)=ps q :=
 ⟨Dw h λk=>(Int.one_mul _).symm,Xa λk=>a6G h (by decide) (λk=>(Int.one_mul _).symm) k⟩
theorem xX {q:List Int}:cont q=0↔tz q=0:=by
 constructor
 .intro h;exact bf.mpr λk=>(wX h k).2
 .intro h;refine Int.natAbs_eq_zero.mp ?_;rw[jC];exact Nat.eq_zero_of_zero_dvd (fU _ 0 λk=>by rw[bf.mp h k];exact Int.dvd_zero _)
theorem wZ (p:List RI)(h:RP (2^40) (2^40) p):AC Tryz.prog 146 [cw p] none [cb (decide (tz (pv p)=0))]:=by
 refine AC.aF (rs:=[.tmp 2]) bM Tryz.func146 (by rfl) (by rfl) (by rfl) (by rfl) (by rfl) ?_;simp (disch:=omega) only[wt,seval,reduceCtorEq,Nat.reduceEqDiff,aC];refine au ((qE p h)) (by rfl) (by simp) ?_;simp (disch:=omega) only[wt,seval,reduceCtorEq,Nat.reduceEqDiff,aC];rw[decide_eq_decide];omega
theorem FV (c:RI)(h:Sz (2^40) c):AC Tryz.prog 35 [cr c] none [cl (wd (iv c).natAbs)]:=by
 refine AC.aF (rs:=[.tmp 2]) bM Tryz.func35 (by rfl) (by rfl) (by rfl) (by rfl) (by rfl) ?_;have hl:=h.1;simp (disch:=omega) only[wt,seval,reduceCtorEq,Nat.reduceEqDiff,aC];refine au ((kG c.2 h.2 (by omega))) (by rfl) (by simp) ?_;simp (disch:=omega) only[wt,seval,reduceCtorEq,Nat.reduceEqDiff,aC];rw[rF]
theorem U0 (c:RI)(n:Nat)(hn:n<=2^29)(hc:Sz (2^35) c):AC Tryz.prog 167 [cr c,ci n] none [cp (List.replicate n 0++[iv c])]:=by
 refine AC.aF (rs:=[.tmp 4]) bM Tryz.func167 (by rfl) (by rfl) (by rfl) (by rfl) (by rfl) ?_;simp (disch:=omega) only[wt,seval,reduceCtorEq,Nat.reduceEqDiff,aC];refine .inl ⟨aZ (by kernel_rfl),?_⟩;have m:=gX (List.replicate n (false,[])++[c]) ⟨by simp;omega,λx hx=>by
  rcases List.mem_append.mp hx with h|h
  .rw[List.eq_of_mem_replicate h];exact⟨by simp,Lim.nil⟩
  .rw[List.mem_singleton.mp h];exact hc.mono (by omega)⟩
 have e:pv (List.replicate n (false,[])++[c])=List.replicate n 0++[iv c]:=by
  simp only[pv,List.map_append,List.map_replicate,List.map_cons,List.map_nil,O8]
 rw[e]at m;refine au (m) (by rfl) (by simp) ?_;simp (disch:=omega) only[wt,seval,reduceCtorEq,Nat.reduceEqDiff,aC]
 first|exact aN (by kernel_rfl)|refine⟨aN (by kernel_rfl),?_⟩
def mono (n:Nat)(c:Int):List Int:=List.replicate n 0++[c]
theorem ug (n:Nat)(c:Int)(k:Nat):cf (mono n c) k=if k=n then c else 0:=by
 unfold mono cf;rw[List.getD_eq_getElem?_getD];rcases Nat.lt_trichotomy k n with h|h|h
 .rw[List.getElem?_append_left (by simpa using h),List.getElem?_replicate,if_pos h,if_neg (by omega)];rfl
 .subst h;rw[List.getElem?_append_right (by simp),if_pos rfl];simp
 .rw[List.getElem?_eq_none (by simp;omega),if_neg (by omega)];rfl
theorem qR (n:Nat)(c:Int)(B:List Int)(k:Nat):cf (bV (mono n c) B) k=if n<=k then c*cf B (k-n) else 0:=by
 rw[dZ,PS.qM,PS.conv];by_cases h:n<=k
 .rw[if_pos h,Gl (j:=n) _ (by omega) λi hi hne=>by rw[ug,if_neg hne,Int.zero_mul],ug,if_pos rfl]
 .rw[if_neg h];exact oM λi hi=>by rw[ug,if_neg (by omega),Int.zero_mul]
def YS (c L:Int)(B:List Int)(s:List Int×List Int):List Int×List Int :=
 (ji (aY c s.1) (mono (tz s.2-tz B) (c*lc s.2/L)),ji (aY c s.2) (aY (-1) (bV (mono (tz s.2-tz B) (c*lc s.2/L)) B)))
def uO (c L:Int)(B:List Int):Nat->List Int×List Int->List Int×List Int
 |0,s=>s
 |n+1,s=>if tz B<=tz s.2 then uO c L B n (YS c L B s) else uO c L B n (aY c s.1,aY c s.2)
theorem iC {q:List Int}{n:Nat}(h:∀k,n<=k->cf q k=0):tz q<=n:=by
 rcases Nat.lt_or_ge n (tz q) with h1|h1
 .exact absurd (h (tz q-1) (by omega)) (dS (by omega))
 .exact h1
theorem Rt {c L:Int}{B:List Int}{s:List Int×List Int}(hL:L=lc B)(hB:tz B≠0)(hd:L∣c)(h:tz B<=tz s.2):tz (YS c L B s).2<=tz s.2-1:=by
 refine iC λk hk=>?_;show cf (ji (aY c s.2) (aY (-1) (bV (mono (tz s.2-tz B) (c*lc s.2/L)) B))) k=0;rw[fJ,dM,dM,qR,if_pos (by omega)];have hL0:L≠0:=by rw[hL];exact dS hB
 rcases Nat.lt_or_ge k (tz s.2) with h1|h1
 .have hk1:k=tz s.2-1:=by omega
  have e1:k-(tz s.2-tz B)=tz B-1:=by omega
  rw[e1];have e2:cf B (tz B-1)=L:=hL.symm;have e3:cf s.2 k=lc s.2:=by rw[hk1];rfl
  rw[e2,e3,Int.ediv_mul_cancel (Int.dvd_trans hd (Int.dvd_mul_right _ _)),Int.mul_comm c];omega
 .rw[bW s.2 h1,bW B (by omega)];simp
theorem a2S {c L:Int}{B:List Int}{s:List Int×List Int}:ps (YS c L B s).1*ps B+ps (YS c L B s).2=PS.C c*(ps s.1*ps B+ps s.2):=by
 show ps (ji _ _)*ps B+ps (ji _ _)=_;rw[gq,gq,bg,bg,bg,aX,PS.oZ,PS.add_mul,PS.mul_add,PS.mul_assoc,PS.add_assoc,PS.add_comm (PS.C c*ps s.2),<-PS.add_assoc (ps (mono _ _)*ps B),PS.add_neg,PS.zero_add]
theorem Ik {c L:Int}{B:List Int}:∀(n:Nat) (s:List Int×List Int),ps (uO c L B n s).1*ps B+ps (uO c L B n s).2=PS.pw (PS.C c) n*(ps s.1*ps B+ps s.2)
 |0,s=>by rw[uO,PS.pw,PS.one_mul]
 |n+1,s=>by
  have e:PS.pw (PS.C c) (n+1)=PS.pw (PS.C c) n*PS.C c:=by rw[PS.X8,PS.Qv]
  rw[uO];split
  .rw[Ik n,a2S,e,PS.mul_assoc]
  .rw[Ik n,e,PS.mul_assoc]
   congr 1
   rw[bg,bg,PS.mul_assoc,PS.mul_add]
theorem mV (c:Int)(q:List Int):tz (aY c q)<=tz q:=iC λk hk=>by rw[dM,bW q hk,Int.zero_mul]
theorem Ii {c L:Int}{B:List Int}(hL:L=lc B)(hB:tz B≠0)(hd:L∣c):∀(n:Nat) (s:List Int×List Int),tz s.2<tz B+n->tz (uO c L B n s).2<tz B
 |0,s,h=>by simpa [uO] using h
 |n+1,s,h=>by
  rw[uO];split
  .rename_i h1;refine Ii hL hB hd n _ ?_;have:=Rt (c:=c) hL hB hd h1;omega
  .refine Ii hL hB hd n _ ?_;have:=mV c s.2;show tz (aY c s.2)<_;omega
end Go.Proofs.YtnhghmibjddlkaaGreatDoor
