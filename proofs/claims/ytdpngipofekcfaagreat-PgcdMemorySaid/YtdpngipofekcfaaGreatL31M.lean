/-
 Contracts of the functions that the law reaches.
-/
import Derived.Test.YtdpngipofekcfaaGreatL1M
import Derived.Test.YtdpngipofekcfaaGreatAbsX
set_option maxHeartbeats 2000000
namespace Go.Proofs.YtdpngipofekcfaaGreat
open Go Go.Proofs Go.AL
set_option linter.unusedSimpArgs false
set_option linter.unusedVariables false
theorem a1V (x:Nat)(hx:x<W):AC Tryz.prog 307 [cu x] none [ci (64-bl x:Nat)]:=by
 refine AC.aj (rs:=[.tmp 2]) aV Tryz.func307 (by rfl) (by rfl) (by rfl) (by rfl) (by rfl) ?_;have hb:bl x<=64:=Js.mpr hx;have e:(64:Int)-(bl x:Int)=((64-bl x:Nat):Int):=by omega
 simp only[wt,seval];refine ah ((Wy x hx)) (by rfl) (by simp) ?_;simp (disch:=omega) only[wt,seval];rw[e]
theorem uH (x m:Nat)(hm:m<=64):IntKind.u64.wrap ((x:Int)*2^min m IntKind.u64.bits)=((x*2^m%W:Nat):Int):=by
 rw[show min m IntKind.u64.bits=m from Nat.min_eq_left (by simp only[IntKind.bits];omega)];have:=kZ x (2^m);rw[<-this]
 congr 2
theorem a1y (a b m:Nat)(hb:b<2^m)(h:a*2^m+b<W):IntKind.u64.wrap ((BitVec.ofInt IntKind.u64.bits ((a*2^m:Nat):Int)|||BitVec.ofInt IntKind.u64.bits (b:Int)).toNat:Int)=((a*2^m+b:Nat):Int):=by
 have h1:(BitVec.ofInt 64 ((a*2^m:Nat):Int)|||BitVec.ofInt 64 (b:Int)).toNat=a*2^m+b:=by
  have e1:∀z:Nat,BitVec.ofInt 64 (z:Int)=BitVec.ofNat 64 z:=λz=>by simp
  rw[e1,e1,BitVec.toNat_or,zeC,zeC];rw[zan (show a*2^m<2^64 by simp only[W]at h;omega),zan (show b<2^64 by simp only[W]at h;omega)];rw[<-Nat.shiftLeft_eq,Nat.shiftLeft_add_eq_or_of_lt hb]
 show IntKind.u64.wrap ((BitVec.ofInt 64 ((a*2^m:Nat):Int)|||BitVec.ofInt 64 (b:Int)).toNat:Int)=_;rw[h1,iq h]
theorem DJ (m n:Nat)(hn:n<=m):IntKind.u64.wrap ((m%W:Nat)-(n%W:Nat):Int)=(((m-n)%W:Nat):Int):=by
 simp only[IntKind.wrap,IntKind.signed,IntKind.bits,zdj,zbg,zbo];simp only[W];omega
theorem DK (m n:Nat):IntKind.u64.wrap ((m%W:Nat)+(n:Nat):Int)=(((m+n)%W:Nat):Int):=by
 simp only[IntKind.wrap,IntKind.signed,IntKind.bits,zdj,zbg,zbo];simp only[W];omega
theorem Ad (a b:Nat):((a:Int)).tdiv (b:Int)=((a/b:Nat):Int):=by rw[zbY (by omega)];rfl
theorem LC (a b:Nat):((a:Int)).tmod (b:Int)=((a%b:Nat):Int):=by rw[zds (by omega)];rfl
theorem Yj {y:Nat}(h0:y≠0)(hy:y<W):64-bl y<=63/\y*2^(64-bl y)<W/\9223372036854775808<=y*2^(64-bl y):=by
 have hb:bl y<=64:=Js.mpr hy;have hb0:1<=bl y:=by
  rcases za8 (bl y) with h|h
  .have:=Js.mp (zdB h);omega
  .exact h
 have h1:y<2^bl y:=Js.mp (zab _);have h2:2^(bl y-1)<=y:=by
  rcases zbh y (2^(bl y-1)) with h|h
  .have:=Js.mpr h;omega
  .exact h
 have e1:2^bl y*2^(64-bl y)=18446744073709551616:=by rw[<-zbM,show bl y+(64-bl y)=64 by omega]
 have e2:2^(bl y-1)*2^(64-bl y)=9223372036854775808:=by rw[<-zbM,show bl y-1+(64-bl y)=63 by omega]
 refine⟨by omega,?_,?_⟩
 .rw[show W=18446744073709551616 from rfl,<-e1];exact(ze8 (zb7 (by decide))).mpr h1
 .rw[<-e2];exact zag _ h2
theorem Zx {hi lo s:Nat}(hs:s<=64)(hl:lo<W):(hi*W+lo)*2^s=(hi*2^s+lo/2^(64-s))*W+lo*2^s%W/\lo/2^(64-s)<2^s:=by
 have e:W=2^(64-s)*2^s:=by rw[<-zbM,zdb hs]
 have h1:lo*2^s/W=lo/2^(64-s):=by
  rw[e,zeX _ _ (zb7 (by decide))]
 have h2:=zbl (lo*2^s) W;rw[h1]at h2;constructor
 .rw[zaN,zaN,zeD hi,zaA (lo/2^(64-s))];omega
 .rw[za5 (zb7 (by decide)),zaA,<-e];exact hl
theorem XB (U u1 u0:Nat):U*W+(u1*B32+u0)=(U*B32+u1)*B32+u0:=by
 simp only[B32,W];omega
theorem X5 (hi lo y:Nat)(hh:hi<y)(hl:lo<W)(hy:y<W):AC Tryz.prog 318 [cu hi,cu lo,cu y] none [cu ((hi*W+lo)/y),cu ((hi*W+lo)%y)]:=by
 refine AC.aj (rs:=[.tmp 6,.tmp 7]) aV Tryz.func318 (by rfl) (by rfl) (by rfl) (by rfl) (by rfl) ?_;have h1:¬(y:Int)=0:=by omega
 have h2:¬(y:Int)<=hi:=by omega
 by_cases h0:hi=0
 .subst h0;have h2':¬(y:Int)<=0:=by omega
  have g1:lo/y<W:=Nat.lt_of_le_of_lt (Nat.div_le_self _ _) hl;have g2:lo%y<W:=Nat.lt_of_le_of_lt (Nat.mod_le _ _) hl;simp (disch:=omega) only[wt,seval,h1,h2'];refine .inl ⟨aP (by kernel_rfl),?_⟩;simp only[wt,seval,Ad,LC,iq g1];exact aX (by kernel_rfl)
 have h0':¬(hi:Int)=0:=by omega
 simp (disch:=omega) only[wt,seval,h1,h2,h0'];refine ah ((a1V y hy)) (by rfl) (by simp) ?_;simp (disch:=omega) only[wt,seval];obtain⟨hs63,hYW,hYn⟩:=Yj (y:=y) (by omega) hy;have hts:=Zx (hi:=hi) (lo:=lo) (s:=64-bl y) (by omega) hl;generalize 64-bl y=s at *;have hws:IntKind.u64.wrap (s:Int)=(s:Int):=iq (by simp only[W];omega);have hY:=uH y s (by omega);rw[Nat.mod_eq_of_lt hYW]at hY;have hUY:hi*2^s+lo/2^(64-s)<y*2^s:=by
  have:=Nat.mul_le_mul_right (2^s) hh;rw[Nat.succ_mul]at this;omega
 have hhs:=uH hi s (by omega);rw[Nat.mod_eq_of_lt (Nat.lt_of_le_of_lt (Nat.le_add_right _ _) (Nat.lt_trans hUY hYW))]at hhs;have h64:IntKind.u64.wrap (64-(s:Int))=((64-s:Nat):Int):=by rw[show (64:Int)-s=((64-s:Nat):Int) by omega];exact iq (by simp only[W];omega)
 have hor:=a1y hi (lo/2^(64-s)) s hts.2 (by omega);have b8i:=uH lo s (by omega);have hsr:=rM lo (64-s) (by omega);obtain⟨b9P,b9O⟩:=hts;have b8g:(hi*W+lo)/y=(hi*W+lo)*2^s/(y*2^s):=(Nat.mul_div_mul_right _ _ (Nat.pow_pos (by decide))).symm;have b7m:(hi*W+lo)*2^s%(y*2^s)=(hi*W+lo)%y*2^s:=by rw[Nat.mul_mod_mul_right]
 rw[b9P]at b8g b7m;generalize hU:hi*2^s+lo/2^(64-s)=U at *;generalize hL:lo*2^s%W=L at *;have hLW:L<W:=by rw[<-hL];exact Nat.mod_lt _ (by decide)
 simp (disch:=omega) only[wt,seval,hws,hY];generalize hYY:y*2^s=Y at *;have s1:=Gl Y;have a1:=and_low32 Y hYW;have s2:=Gl L;have a2:=and_low32 L hLW;simp (disch:=omega) only[wt,seval,s1,a1,hhs,h64,hsr,hor,b8i,s2,a2];obtain⟨y1,hy1⟩:∃y1,Y/4294967296=y1:=⟨_,rfl⟩;obtain⟨y0,hy0⟩:∃y0,Y%4294967296=y0:=⟨_,rfl⟩;obtain⟨u1,hu1⟩:∃u1,L/4294967296=u1:=⟨_,rfl⟩;obtain⟨u0,hu0⟩:∃u0,L%4294967296=u0:=⟨_,rfl⟩;have eY:Y=y1*B32+y0:=by simp only[B32];omega
 have eL:L=u1*B32+u0:=by simp only[B32];omega
 have b1:2147483648<=y1:=by omega
 have b1':y1<B32:=by simp only[W,B32]at *;omega
 have b0:y0<B32:=by simp only[B32];omega
 have c1:u1<B32:=by simp only[W,B32]at *;omega
 have c0:u0<B32:=by simp only[B32];omega
 rw[hy1,hy0,hu1,hu0];clear s1 a1 s2 a2 hhs h64 hsr hor b8i hws hY b9O hy1 hy0 hu1 hu0;have hg:=IW (u:=U) (u1:=u1) b1 b0 (by rw[<-eY];exact hUY) c1;have hD1:=X6 (y:=Y) hUY c1;refine yQ (λf H=>f 15=.iv (.int .u64 ((U*B32+u1)/Y:Nat))/\f 2=.iv (.int .u64 Y)/\f 8=.iv (.int .u64 s)/\f 9=.iv (.int .u64 y1)/\f 10=.iv (.int .u64 y0)/\f 11=.iv (.int .u64 U)/\f 13=.iv (.int .u64 u1)/\f 14=.iv (.int .u64 u0)) ?_ ?_
 .have m1:IntKind.u64.wrap (((U/y1:Nat):Int)*(y1:Int))=((U/y1*y1:Nat):Int):=fB (Nat.lt_of_le_of_lt (Nat.div_mul_le_self _ _) (Nat.lt_trans hUY hYW));have m2:(U:Int)-((U/y1*y1:Nat):Int)=((U%y1:Nat):Int):=by
   have:=Nat.div_add_mod U y1;rw[Nat.mul_comm]at this;omega
  have m3:U%y1<B32:=Nat.lt_trans (Nat.mod_lt _ (by omega)) b1';have m4:IntKind.u64.wrap ((U%y1:Nat):Int)=((U%y1:Nat):Int):=iq (by simp only[B32,W]at *;omega);have m5:IntKind.u64.wrap ((U/y1:Nat):Int)=((U/y1:Nat):Int):=iq (by simp only[B32,W]at *;omega);have m6:U/y1*y1+U%y1=U:=by have:=Nat.div_add_mod U y1;rw[Nat.mul_comm]at this;exact this
  rw[<-eY]at hg;refine aI (λf H=>∃(q r:Nat),q*y1+r=U/\(U*B32+u1)/Y<=q/\r<B32/\q<=B32+1/\f 15=.iv (.int .u64 q)/\f 16=.iv (.int .u64 r)/\f 2=.iv (.int .u64 Y)/\f 8=.iv (.int .u64 s)/\f 9=.iv (.int .u64 y1)/\f 10=.iv (.int .u64 y0)/\f 11=.iv (.int .u64 U)/\f 13=.iv (.int .u64 u1)/\f 14=.iv (.int .u64 u0)) (λf H=>(bC f 15).toNat) ?_ ?_
  .refine⟨U/y1,U%y1,m6,hg.1,m3,hg.2,?_⟩;simp only[wt,seval,Ad,m1,m2,m4,m5]
  rintro f H ⟨q,r,he,hq,hr,hqB,hF⟩;rw[aC hF.1];simp (disch:=omega) only[wt,seval,hF];have b9W:q<=4294967297:=hqB;have hr':r<4294967296:=hr;have hb1:y1<4294967296:=b1';have hb0:y0<4294967296:=b0;have hcu:u1<4294967296:=c1;rw[eY]at hq hD1;have hw1:0<q->IntKind.u64.wrap ((q:Int)-1)=((q-1:Nat):Int):=λh=>by
   rw[show (q:Int)-1=((q-1:Nat):Int) by omega];exact iq (by simp only[W];omega)
  have hw2:IntKind.u64.wrap ((r:Int)+(y1:Int))=((r+y1:Nat):Int):=fC (by simp only[W];omega);have he':0<q->(q-1)*y1+(r+y1)=U:=λh=>by
   obtain⟨k,rfl⟩:∃k,q=k+1:=⟨q-1,by omega⟩;rw[Nat.add_sub_cancel,<-he,Nat.succ_mul];omega
  have hout:0<q->(U*B32+u1)/(y1*B32+y0)<=q-1->4294967296<=r+y1->q-1=(U*B32+u1)/(y1*B32+y0):=λh h' h''=>by
   refine uY (he' h) h' (by omega) ?_;have g1:(q-1)*y0<=4294967296*y0:=Nat.mul_le_mul_right _ (by omega);have g2:4294967296*y0<=4294967296*(r+y1):=Nat.mul_le_mul_left _ (by omega);simp only[B32];omega
  by_cases hqb:4294967296<=(q:Int)
  .have hq0:0<q:=by omega
   have hl:(U*B32+u1)/(y1*B32+y0)<=q-1:=by simp only[B32]at *;omega
   simp (disch:=omega) only[wt,seval,hF,hqb,hw1 hq0,hw2];refine bf (λhbr=>?_) (λhbr=>?_)
   .simp (disch:=omega) only[wt,seval,hF];rw[hout hq0 hl (by omega),eY]
   .simp (disch:=omega) only[wt,seval,hF];exact⟨⟨q-1,r+y1,he' hq0,by rw[eY];exact hl,by simp only[B32];omega,by simp only[B32];omega,rfl,rfl⟩,by omega⟩
  have g3:q*y0<=4294967295*4294967295:=Nat.mul_le_mul (by omega) (by omega);have w1:IntKind.u64.wrap (4294967296*(r:Int))=((4294967296*r:Nat):Int):=fB (m:=4294967296) (by simp only[W];omega);have w2:IntKind.u64.wrap (((4294967296*r:Nat):Int)+(u1:Int))=((4294967296*r+u1:Nat):Int):=fC (by simp only[W];omega);have w3:IntKind.u64.wrap ((q:Int)*(y0:Int))=((q*y0:Nat):Int):=fB (by simp only[W];omega);by_cases hcm:((4294967296*r+u1:Nat):Int)<((q*y0:Nat):Int)
  .obtain⟨hl,hq0⟩:=KR he hq (by omega) (by simp only[B32];omega);simp (disch:=omega) only[wt,seval,hF,hqb,w1,w2,w3,hcm,hw1 hq0,hw2];refine bf (λhbr=>?_) (λhbr=>?_)
   .simp (disch:=omega) only[wt,seval,hF];rw[hout hq0 hl (by omega),eY]
   .simp (disch:=omega) only[wt,seval,hF];exact⟨⟨q-1,r+y1,he' hq0,by rw[eY];exact hl,by simp only[B32];omega,by simp only[B32];omega,rfl,rfl⟩,by omega⟩
  .simp (disch:=omega) only[wt,seval,hF,hqb,w1,w2,w3,hcm];rw[uY he hq (by omega) (by simp only[B32];omega),eY]
 .clear hg;rintro f H hF;obtain⟨D1,hD⟩:∃D1,(U*B32+u1)/Y=D1:=⟨_,rfl⟩;obtain⟨R1,hR⟩:∃R1,(U*B32+u1)%Y=R1:=⟨_,rfl⟩;have hdm:U*B32+u1=D1*Y+R1:=by rw[<-hD,<-hR];exact(Nat.div_add_mod' _ _).symm
  have hRY:R1<Y:=by rw[<-hR];exact Nat.mod_lt _ (by omega)
  rw[hD]at hF hD1;have hRW:R1<W:=Nat.lt_trans hRY hYW;have v1:IntKind.u64.wrap ((U:Int)*4294967296)=((U*4294967296%W:Nat):Int):=kZ U 4294967296;have v2:=DK (U*4294967296) u1;have v3:=kZ D1 Y;have v4:=DJ (U*4294967296+u1) (D1*Y) (by simp only[B32]at hdm;omega);rw[show U*4294967296+u1-D1*Y=R1 by simp only[B32]at hdm;omega,Nat.mod_eq_of_lt hRW]at v4;have m1:IntKind.u64.wrap (((R1/y1:Nat):Int)*(y1:Int))=((R1/y1*y1:Nat):Int):=fB (Nat.lt_of_le_of_lt (Nat.div_mul_le_self _ _) hRW);have m2:(R1:Int)-((R1/y1*y1:Nat):Int)=((R1%y1:Nat):Int):=by
   have:=Nat.div_add_mod R1 y1;rw[Nat.mul_comm]at this;omega
  have m3:R1%y1<B32:=Nat.lt_trans (Nat.mod_lt _ (by omega)) b1';have hg:=IW (u:=R1) (u1:=u0) b1 b0 (by rw[<-eY];exact hRY) c0;have hD0:=X6 (y:=Y) hRY c0;have m4:IntKind.u64.wrap ((R1%y1:Nat):Int)=((R1%y1:Nat):Int):=iq (by simp only[B32,W]at *;omega);have m5:IntKind.u64.wrap ((R1/y1:Nat):Int)=((R1/y1:Nat):Int):=iq (by simp only[B32,W]at *;omega);have m6:R1/y1*y1+R1%y1=R1:=by have:=Nat.div_add_mod R1 y1;rw[Nat.mul_comm]at this;exact this
  rw[<-eY]at hg;simp (disch:=omega) only[wt,seval,hF,v1,v2,v3,v4,Ad,m1,m2,m4,m5];refine yQ (λf H=>f 18=.iv (.int .u64 ((R1*B32+u0)/Y:Nat))/\f 2=.iv (.int .u64 Y)/\f 8=.iv (.int .u64 s)/\f 14=.iv (.int .u64 u0)/\f 15=.iv (.int .u64 D1)/\f 17=.iv (.int .u64 R1)) ?_ ?_
  .have hgo:=hg;refine aI (λf H=>∃(q r:Nat),q*y1+r=R1/\(R1*B32+u0)/Y<=q/\r<B32/\q<=B32+1/\f 18=.iv (.int .u64 q)/\f 16=.iv (.int .u64 r)/\f 2=.iv (.int .u64 Y)/\f 8=.iv (.int .u64 s)/\f 9=.iv (.int .u64 y1)/\f 10=.iv (.int .u64 y0)/\f 14=.iv (.int .u64 u0)/\f 15=.iv (.int .u64 D1)/\f 17=.iv (.int .u64 R1)) (λf H=>(bC f 18).toNat) ?_ ?_
   .refine⟨R1/y1,R1%y1,m6,hg.1,m3,hg.2,?_⟩;simp only[wt,seval,hF]
   rintro f H ⟨q,r,he,hq,hr,hqB,hF⟩;rw[aC hF.1];simp (disch:=omega) only[wt,seval,hF];have b9W:q<=4294967297:=hqB;have hr':r<4294967296:=hr;have hb1:y1<4294967296:=b1';have hb0:y0<4294967296:=b0;have hcu:u0<4294967296:=c0;rw[eY]at hq hD0;have hw1:0<q->IntKind.u64.wrap ((q:Int)-1)=((q-1:Nat):Int):=λh=>by
    rw[show (q:Int)-1=((q-1:Nat):Int) by omega];exact iq (by simp only[W];omega)
   have hw2:IntKind.u64.wrap ((r:Int)+(y1:Int))=((r+y1:Nat):Int):=fC (by simp only[W];omega);have he':0<q->(q-1)*y1+(r+y1)=R1:=λh=>by
    obtain⟨k,rfl⟩:∃k,q=k+1:=⟨q-1,by omega⟩;rw[Nat.add_sub_cancel,<-he,Nat.succ_mul];omega
   have hout:0<q->(R1*B32+u0)/(y1*B32+y0)<=q-1->4294967296<=r+y1->q-1=(R1*B32+u0)/(y1*B32+y0):=λh h' h''=>by
    refine uY (he' h) h' (by omega) ?_;have g1:(q-1)*y0<=4294967296*y0:=Nat.mul_le_mul_right _ (by omega);have g2:4294967296*y0<=4294967296*(r+y1):=Nat.mul_le_mul_left _ (by omega);simp only[B32];omega
   by_cases hqb:4294967296<=(q:Int)
   .have hq0:0<q:=by omega
    have hl:(R1*B32+u0)/(y1*B32+y0)<=q-1:=by simp only[B32]at *;omega
    simp (disch:=omega) only[wt,seval,hF,hqb,hw1 hq0,hw2];refine bf (λhbr=>?_) (λhbr=>?_)
    .simp (disch:=omega) only[wt,seval,hF];rw[hout hq0 hl (by omega),eY]
    .simp (disch:=omega) only[wt,seval,hF];exact⟨⟨q-1,r+y1,he' hq0,by rw[eY];exact hl,by simp only[B32];omega,by simp only[B32];omega,rfl,rfl⟩,by omega⟩
   have g3:q*y0<=4294967295*4294967295:=Nat.mul_le_mul (by omega) (by omega);have w1:IntKind.u64.wrap (4294967296*(r:Int))=((4294967296*r:Nat):Int):=fB (m:=4294967296) (by simp only[W];omega);have w2:IntKind.u64.wrap (((4294967296*r:Nat):Int)+(u0:Int))=((4294967296*r+u0:Nat):Int):=fC (by simp only[W];omega);have w3:IntKind.u64.wrap ((q:Int)*(y0:Int))=((q*y0:Nat):Int):=fB (by simp only[W];omega);by_cases hcm:((4294967296*r+u0:Nat):Int)<((q*y0:Nat):Int)
   .obtain⟨hl,hq0⟩:=KR he hq (by omega) (by simp only[B32];omega);simp (disch:=omega) only[wt,seval,hF,hqb,w1,w2,w3,hcm,hw1 hq0,hw2];refine bf (λhbr=>?_) (λhbr=>?_)
    .simp (disch:=omega) only[wt,seval,hF];rw[hout hq0 hl (by omega),eY]
    .simp (disch:=omega) only[wt,seval,hF];exact⟨⟨q-1,r+y1,he' hq0,by rw[eY];exact hl,by simp only[B32];omega,by simp only[B32];omega,rfl,rfl⟩,by omega⟩
   .simp (disch:=omega) only[wt,seval,hF,hqb,w1,w2,w3,hcm];rw[uY he hq (by omega) (by simp only[B32];omega),eY]
  .clear hg hF;rintro f H hF;obtain⟨D0,hE⟩:∃D0,(R1*B32+u0)/Y=D0:=⟨_,rfl⟩;obtain⟨R0,hS⟩:∃R0,(R1*B32+u0)%Y=R0:=⟨_,rfl⟩;have b7t:R1*B32+u0=D0*Y+R0:=by rw[<-hE,<-hS];exact(Nat.div_add_mod' _ _).symm
   have b7w:R0<Y:=by rw[<-hS];exact Nat.mod_lt _ (by omega)
   rw[hE]at hF hD0;have c0j:R0<W:=Nat.lt_trans b7w hYW;have eN:U*W+L=(D1*B32+D0)*Y+R0:=by
    have e1:U*W+L=(U*B32+u1)*B32+u0:=by
     rw[eL];exact XB U u1 u0
    rw[e1,hdm,Nat.add_mul,Nat.add_assoc,b7t,Nat.add_mul,Nat.mul_right_comm D1 Y B32,Nat.add_assoc]
   have hq:(hi*W+lo)/y=D1*4294967296+D0:=by
    rw[b8g,eN,Nat.mul_comm,Nat.mul_add_div (by omega),Nat.div_eq_of_lt b7w,Nat.add_zero]
   have hr:(hi*W+lo)%y=R0/2^s:=by
    rw[eN,Nat.mul_comm,Nat.mul_add_mod,Nat.mod_eq_of_lt b7w]at b7m;rw[b7m,Nat.mul_div_cancel _ (Nat.pow_pos (by decide))]
   have c0Q:D1<4294967296:=hD1;have c0R:D0<4294967296:=hD0;have p1:IntKind.u64.wrap ((D1:Int)*4294967296)=((D1*4294967296:Nat):Int):=fB (n:=4294967296) (by simp only[W];omega);have p2:IntKind.u64.wrap (((D1*4294967296:Nat):Int)+(D0:Int))=((D1*4294967296+D0:Nat):Int):=fC (by simp only[W];omega);have p3:IntKind.u64.wrap ((R1:Int)*4294967296)=((R1*4294967296%W:Nat):Int):=kZ R1 4294967296;have p4:=DK (R1*4294967296) u0;have p5:=kZ D0 Y;have p6:=DJ (R1*4294967296+u0) (D0*Y) (by simp only[B32]at b7t;omega);rw[show R1*4294967296+u0-D0*Y=R0 by simp only[B32]at b7t;omega,Nat.mod_eq_of_lt c0j]at p6;have p7:=rM R0 s (by omega);rw[hq,hr];simp (disch:=omega) only[wt,seval,hF,p1,p2,p3,p4,p5,p6,p7]
section
variable {l:List Nat} {j r x:Nat}
theorem DZ (h:j<l.length):nv (l.drop j)=l.getD j 0+W*nv (l.drop (j+1)):=by
 rw[zcl h];have:l.getD j 0=l[j]:=by simp[List.getD,h]
 rw[this];rfl
theorem Nh {l:List Nat}{j:Nat}(h:j<l.length)(x:Nat):nv ((l.set j x).drop j)=x+W*nv (l.drop (j+1)):=by
 rw[DZ (by simpa using h),List.drop_set_of_lt (by omega)]
 congr 1
 simp[List.getD,h]
theorem V9 {w:Nat}(hr:r<w)(hx:x<W):(r*W+x)/w<W:=by
 rw[za5 (by omega)];have:=zag W hr;rw[zbS,zaA w]at this;omega
theorem a2Y (a:List Nat)(w:Nat)(ha:Lim a)(hl:a.length<=2^40)(hw0:w≠0)(hw:w<W):AC Tryz.prog 306 [cl a,cu w] none [cl (pad a.length (nv a/w)),cu (nv a%w),ci 0]:=by
 refine AC.aj (rs:=[.tmp 4,.tmp 5,.tmp 6]) aV Tryz.func306 (by rfl) (by rfl) (by rfl) (by rfl) (by rfl) ?_;have h0:¬(w:Int)=0:=by omega
 simp (disch:=omega) only[wt,seval,h0];refine aI (λf H=>∃(k r st:Nat) (out:List Nat),k<=a.length/\r<w/\Lim out/\out.length=a.length/\nv (out.drop k)*w+r=nv (a.drop k)/\f 9=.iv (.int .i64 ((k:Int)-1))/\f 0=.iv (.sl (dh a))/\f 1=.iv (.int .u64 w)/\f 7=.hs 14 st/\f 8=.iv (.int .u64 r)/\H 14=.blk false st 148 1 (dh out)) (λf H=>(bC f 9+1).toNat) ?_ ?_
 .refine⟨a.length,0,1,List.replicate a.length 0,by omega,by omega,Lim.replicate _,by simp,by simp[vl],?_⟩;simp only[wt,seval]
 rintro f H ⟨k,r,st,out,hk,hr,hO,hOl,hv,hF⟩;rw[aC hF.1];simp (disch:=omega) only[wt,seval,hF];refine bf (λhlt=>?_) (λhlt=>?_)
 .obtain⟨j,rfl⟩:∃j,k=j+1:=⟨k-1,by omega⟩;have ej:((j+1:Nat):Int)-1=(j:Int):=by omega
  rw[ej]at hF;have hx:=ha.get j;simp (disch:=omega) only[wt,seval,hF];refine ah ((X5 r (a.getD j 0) w hr hx hw)) (by rfl) (by simp) ?_;simp (disch:=omega) only[wt,seval,hF];have hq:=V9 hr hx;have hdm:=zbl (r*W+a.getD j 0) w;generalize (r*W+a.getD j 0)/w=q at *;have hr':(r*W+a.getD j 0)%w<w:=zbj _ (by omega);generalize (r*W+a.getD j 0)%w=r' at *;refine⟨⟨j,r',st,out.set j q,by omega,hr',hO.set hq,by simp[hOl],?_,rfl,rfl,rfl,rfl⟩,by omega⟩;rw[Nh (by omega),DZ (l:=a) (j:=j) (by omega),<-hv,zaN,zbx,za1];rw[zaA w q,zaA r W]at hdm;omega
 .simp (disch:=omega) only[wt,seval,hF];have:k=0:=by omega
  subst this;simp only[zc5]at hv;have e1:nv a/w=nv out:=by
   rw[<-hv,zaA,Nat.mul_add_div (by omega),za6 hr,zaV]
  have e2:nv a%w=r:=by
   rw[<-hv,zaA,Nat.mul_add_mod,zan hr]
  have h5:=kE hO;rw[hOl]at h5;rw[e1,e2,<-qG hO hOl (s:=nv out) (zan h5).symm];exact⟨rfl,rfl⟩
def b0d (a:List Nat)(n:Nat):List Nat:=if n%64=0 then List.replicate (n/64) 0++a else List.replicate (n/64) 0++pad (a.length+1) (nv a*2^(n%64))
theorem a0b {a:List Nat}(h:Lim a)(n:Nat):Lim (b0d a n)/\nv (b0d a n)=nv a*2^n/\(b0d a n).length<=n/64+a.length+1:=by
 have hn:=zbl n 64;have e:W^(n/64)*2^(n%64)=2^n:=by
  rw[show W=2^64 from rfl,<-zfQ,<-zbM,hn]
 unfold b0d;split
 .rename_i h0;rw[h0,zdk,zcU]at e;refine⟨(Lim.replicate _).append h,?_,by simp⟩;simp only[nv,jC,jB,zcs,za9];rw[e,zaA]
 .refine⟨(Lim.replicate _).append (rU _ _),?_,by simp[nK];omega⟩;have h1:=wY (a.length+1) (nv a*2^(n%64));simp only[nv]at h1;simp only[nv,jC,jB,zcs,za9,h1];rw[zan]
  .rw[zfH,e]
  .have h2:=kE h;have h3:2^(n%64)<=W:=by rw[show W=2^64 from rfl];exact zaH (by decide) (by omega)
   rw[za7];simp only[nv]at h2
   calc vl W a*2^(n%64)<=vl W a*W:=zbb _ h3
    _<W^a.length*W:=(ze8 (by decide)).mpr h2
theorem zV (hr:r<=64)(hx:x<W):x*2^r%W=x%2^(64-r)*2^r/\x%2^(64-r)*2^r+W*(x/2^(64-r))=x*2^r/\x/2^(64-r)<2^r/\x%2^(64-r)*2^r+2^r<=W:=by
 have e:W=2^(64-r)*2^r:=by rw[<-zbM,zdb hr]
 have hp:=zb7 (n:=r) (show 0<2 by decide);have hp':=zb7 (n:=64-r) (show 0<2 by decide);have hm:=zbj x hp';have h3:x%2^(64-r)*2^r+2^r<=W:=by
  rw[e,<-zbS];exact zag _ hm
 have h2:x%2^(64-r)*2^r+W*(x/2^(64-r))=x*2^r:=by
  conv=>rhs;rw[<-zeB x (2^(64-r)),zaN]
  rw[e,zeD]
 refine⟨?_,h2,?_,h3⟩
 .rw[<-h2,zbQ,zan (by omega)]
 .rw[za5 hp',zaA,<-e];exact hx
theorem b1o (a:List Nat)(n:Nat)(ha:Lim a)(hl:a.length<=2^40)(hn:n<=1048576):AC Tryz.prog 319 [cl a,ci n] none [cl (b0d a n),ci 0]:=by
 refine AC.aj (rs:=[.tmp 4,.tmp 5]) aV Tryz.func319 (by rfl) (by rfl) (by rfl) (by rfl) (by rfl) ?_;have e1:=Ad n 64;have e2:=LC n 64;have h1:¬(n:Int)<0:=by omega
 have h2:¬1048576<(n:Int):=by omega
 have e3:((n/64:Nat):Int)+(a.length:Int)+1=((n/64+a.length+1:Nat):Int):=by omega
 have hw:IntKind.u64.wrap ((n%64:Nat):Int)=((n%64:Nat):Int):=iq (by simp only[W];omega);have e1':(n:Int).tdiv 64=((n/64:Nat):Int):=e1;have e2':(n:Int).tmod 64=((n%64:Nat):Int):=e2;have hd:n/64<=16384:=by omega
 have hr:n%64<64:=zbj _ (by omega);unfold b0d;generalize n/64=q at *;generalize n%64=r at *;simp (disch:=omega) only[wt,seval,h1,h2,e1',e2',hw,e3];by_cases hr0:r=0
 .subst hr0;have hq:(List.replicate q 0).length=q:=by simp
  simp (disch:=omega) only[wt,seval,hq]
 .have b9T:¬(r:Int)=0:=by omega
  have h64:IntKind.u64.wrap (64-(r:Int))=((64-r:Nat):Int):=by rw[show (64:Int)-r=((64-r:Nat):Int) by omega];exact iq (by simp only[W];omega)
  rw[zam hr0];simp (disch:=omega) only[wt,seval,b9T];refine aI (λf H=>∃(i low st:Nat) (S:List Nat),i<=a.length/\S.length=i/\Lim S/\low<2^r/\nv S+W^i*low=nv (a.take i)*2^r/\f 37=.iv (.int .i64 i)/\f 7=.iv (.int .u64 r)/\f 8=.hs 29 st/\f 9=.iv (.int .u64 low)/\f 35=.iv (.sl (dh a))/\f 36=.iv (.int .i64 a.length)/\H 29=.blk false st 148 1 (dh (List.replicate q 0++S))) (λf H=>(a.length-bC f 37).toNat) ?_ ?_
  .refine⟨0,0,1,[],by omega,rfl,Lim.nil,zb7 (by decide),by simp[vl],?_⟩;simp only[wt,seval]
  rintro f H ⟨i,low,st,S,hi,hSl,hS,hlow,hv,hF⟩;rw[aC hF.1];simp (disch:=omega) only[wt,seval,hF];have hq:(List.replicate q 0++S).length=q+i:=by simp[hSl]
  refine bf (λhlt=>?_) (λhlt=>?_)
  .have hx:=ha.get i;have hsx:=zV (r:=r) (by omega) hx;have hm1:=uH (a.getD i 0) r (by omega);rw[hsx.1]at hm1;have hor:=a1y (a.getD i 0%2^(64-r)) low r hlow (by omega);have hsr:=rM (a.getD i 0) (64-r) (by omega);simp (disch:=omega) only[wt,seval,hF,hq,hm1,hor,h64,hsr];refine⟨⟨i+1,a.getD i 0/2^(64-r),st+1,S++[a.getD i 0%2^(64-r)*2^r+low],by omega,by simp[hSl],hS.append (Lim.cons (by omega) Lim.nil),hsx.2.2.1,?_,by omega,rfl,rfl,by rw[zaR]⟩,by omega⟩;rw[TT,hSl];simp only[nv]at hv ⊢;rw[aT,za7,zaN,za1 _ (a.getD i 0),<-hsx.2.1,<-hv,zbx,zbx,za1];omega
  .simp (disch:=omega) only[wt,seval,hF,hq];have:i=a.length:=by omega
   subst this;rw[zaM]at hv;have h5:=kE hS;rw[hSl]at h5;have hlW:low<W:=zau hlow (by rw[show W=2^64 from rfl];exact zaH (by decide) (by omega));have e:S++[low]=pad (a.length+1) (nv a*2^r):=by
    refine qG (hS.append (Lim.cons hlW Lim.nil)) (by simp[hSl]) ?_;have h6:=kE (hS.append (Lim.cons hlW Lim.nil));rw[TT,hSl,hv]at h6 ⊢;rw[zaB,hSl]at h6;exact(zan h6).symm
   rw[zaR,e]
end
theorem b1m (a b:List Nat)(ha:Lim a)(hb:Lim b)(hla:a.length<=2^40)(hlb:b.length<=2^40) :
  AC Tryz.prog 291 [cl a,cl b] none [cl (pad (max a.length b.length) (nv a+W^(max a.length b.length)-nv b)),cu (if nv a<nv b then 1 else 0)]:=by
 refine AC.aj (rs:=[.tmp 4,.tmp 5]) aV Tryz.func291 (by rfl) (by rfl) (by rfl) (by rfl) (by rfl) ?_;simp (disch:=omega) only[wt,seval];generalize hn:max a.length b.length=n at *;have hnI:max (a.length:Int) (b.length:Int)=(n:Int):=by omega
 rw[hnI];simp only[wt,seval];refine aI (λf H=>∃(i c:Nat) (out:List Nat) (st:Nat),i<=n/\c<=1/\Lim out/\out.length=n/\nv (out.take i)+nv (b.take i)=nv (a.take i)+W^i*c /\
  f 0=.iv (.sl (dh a))/\f 1=.iv (.sl (dh b))/\f 6=.hs 14 st/\f 7=.iv (.int .u64 c)/\f 16=.iv (.int .i64 n)/\f 17=.iv (.int .i64 i)/\H 14=.blk false st 148 1 (dh out)) (λf H=>(n-bC f 17).toNat) ?_ ?_
 .exact⟨0,0,List.replicate n 0,1,by omega,by omega,Lim.replicate n,by simp,by simp[vl],by simp only[wt,seval],by simp only[wt,seval],by simp only[wt,seval],by simp only[wt,seval],by simp only[wt,seval],by simp only[wt,seval],by simp only[wt,seval]⟩
 rintro f H ⟨i,c,out,st,hi,hc,hO,hOl,hOv,h0,h1,h6,h7,h16,h17,hH⟩;rw[aC h17];simp (disch:=omega) only[wt,seval,h16,h17];refine bf (λhlt=>?_) (λhlt=>?_)
 .simp (disch:=omega) only[wt,seval,h0,h6,h17];refine ah ((Dz a i (by omega))) (by rfl) (by simp) ?_;simp (disch:=omega) only[wt,seval,h1];refine ah ((Dz b i (by omega))) (by rfl) (by simp) ?_;simp (disch:=omega) only[wt,seval,h7];have hx:=ha.get i;have hy:=hb.get i;refine ah ((ZO (a.getD i 0) (b.getD i 0) c hx hy hc)) (by rfl) (by simp) ?_;simp (disch:=omega) only[wt,seval,h0,h1,h6,h16,h17,hH];refine⟨⟨i+1,_,out.set i _,st,by omega,?_,hO.set (zbj _ (by decide)),by simp[hOl],?_,rfl,rfl,by omega,rfl⟩,by omega⟩
  .split<;>omega
  .simp only[nv]at *;rw[dI W (by omega),za7,aT,aT];refine Uy hOv ?_;simp only[W]at *;split<;>omega
 .simp (disch:=omega) only[wt,seval,h6,h7,hH];have hin:i=n:=by omega
  subst hin;rw[zac (by omega),zac (by omega),zac (by omega)]at hOv;have h3:=kE hO;rw[hOl]at h3;have h4:=kE ha;have h5:=kE hb;have h6:W^a.length<=W^i:=zaH (by decide) (by omega);have h7:W^b.length<=W^i:=zaH (by decide) (by omega);have e:c=if nv a<nv b then 1 else 0:=by
   have:c=0\/c=1:=by omega
   rcases this with rfl|rfl<;>split<;>omega
  rw[<-qG hO hOl (s:=nv a+W^i-nv b) ?_,<-e]
  .exact⟨rfl,rfl⟩
  .have:c=0\/c=1:=by omega
   rcases this with rfl|rfl
   .rw[show nv a+W^i-nv b=nv out+W^i*1 by omega,zbQ,zan h3]
   .rw[show nv a+W^i-nv b=nv out by omega,zan h3]
abbrev cb (b:Bool):CV:=.iv (.bool b)
abbrev cr (c:RI):CV:=.agg (jy c)
abbrev cz (z:Int):CV:=.agg (jy (canon z))
theorem FU (s:Bool)(n:Nat):AC Tryz.prog 189 [cb s,cl (wd n)] none [cz (sg s n)]:=by
 refine AC.aj (rs:=[.cell 4 30]) aV Tryz.func189 (by rfl) (by rfl) (by rfl) (by rfl) (by rfl) ?_;have hz:(0<((wd n).length:Int))↔n≠0:=by have:=jA (n:=n);omega
 cases s
 .simp (disch:=omega) only[wt,seval];rw[yC];rfl
 .simp (disch:=omega) only[wt,seval];rw[yC];have h':decide (0<(wd n).length)=decide (n≠0):=by rw[zbA];omega
  simp[jy,splice,h']
theorem LK (z:Int):z.sign=if z<0 then -1 else if 0<(zl z:Int) then 1 else 0:=by
 by_cases h:z<0
 .rw[zas h];exact zbZ h
 .rw[zam h];have:=jA (n:=z.natAbs);by_cases h0:z=0
  .subst h0;simp[iC]
  .rw[zas (by unfold zl;omega)];exact zcH (by omega)
section
variable {l:List Nat} {i:Nat}
theorem MR (a b m:Nat)(hb:b<2^m)(h:a*2^m+b<W):IntKind.u64.wrap ((BitVec.ofInt IntKind.u64.bits (b:Int)|||BitVec.ofInt IntKind.u64.bits ((a*2^m:Nat):Int)).toNat:Int)=((a*2^m+b:Nat):Int):=by
 rw[BitVec.or_comm];exact a1y a b m hb h
theorem kN (h:Lim l)(k:Nat):l.getD k 0=nv l/W^k%W:=by
 have h1:=aT W l k;have e1:=GR h (k+1);have e2:=GR h k;simp only[nv]at *;rw[e1,e2,zcy]at h1;exact(zcJ (gB k) (zfl h1)).symm
theorem Aj {V r x y:Nat}(hr:r<64)(hx:x=V/W^i%W)(hy:y=V/W^(i+1)%W):V/2^r/W^i%W=(y%2^r)*2^(64-r)+x/2^r/\x/2^r<2^(64-r)/\(y%2^r)*2^(64-r)+x/2^r<W:=by
 have e:W=2^r*2^(64-r):=by rw[<-zbM,show r+(64-r)=64 by omega]
 have hp:=zb7 (n:=r) (show 0<2 by decide);have hp':=zb7 (n:=64-r) (show 0<2 by decide);have hxW:x<W:=by rw[hx];exact zbj _ (by decide)
 have b1:x/2^r<2^(64-r):=by rw[za5 hp,zaA,<-e];exact hxW
 have hT:V/W^i=x+W*(V/W^(i+1)):=by
  rw[hx,za7,<-zbK];exact(zeB _ _).symm
 generalize hT1:V/W^(i+1)=T at *;have hm:y%2^r=T%2^r:=by
  rw[hy,e,Nat.mod_mul_right_mod]
 have hlt:T%2^r<2^r:=zbj _ hp;have b2:T%2^r*2^(64-r)+2^(64-r)<=W:=by
  rw[e,<-zbS];exact zag _ hlt
 refine⟨?_,b1,by rw[hm];omega⟩;have h1:V/2^r/W^i=x/2^r+2^(64-r)*T:=by
  rw[zbK,zaA,<-zbK,hT];rw[show W*T=2^r*(2^(64-r)*T) by rw[e,za1],zdd _ _ hp]
 rw[h1,hm];have h2:2^(64-r)*T=T%2^r*2^(64-r)+W*(T/2^r):=by
  conv=>lhs;rw[<-zeB T (2^r),zbx]
  rw[zaA (2^(64-r)) (T%2^r),e,<-za1,zaA (2^(64-r)) (2^r)]
 rw[h2,<-zbp,zbQ,zdP (x/2^r),zan (by omega)]
theorem pJ (h:i<l.length)(x:Nat):(l.set i x).getD i 0=x:=by
 simp[List.getD,h]
theorem b1n (a:List Nat)(n:Nat)(ha:Lim a)(hl:a.length<=2^40)(hn:n<=2^60):∃b,AC Tryz.prog 322 [cl a,ci n] none [cl (pad (a.length-n/64) (nv a/2^n)),cb b,ci 0]:=by
 have e1:=Ad n 64;have e2:=LC n 64;have h1:¬(n:Int)<0:=by omega
 have hw:IntKind.u64.wrap ((n%64:Nat):Int)=((n%64:Nat):Int):=iq (by simp only[W];omega);have e1':(n:Int).tdiv 64=((n/64:Nat):Int):=e1;have e2':(n:Int).tmod 64=((n%64:Nat):Int):=e2;have hr:n%64<64:=zbj _ (by omega);have eQ:nv a/2^n=nv a/W^(n/64)/2^(n%64):=by
  rw[zbK,show W=2^64 from rfl,<-zfQ,<-zbM,zbl]
 rw[eQ];have hqb:n/64<=2^60:=by omega
 generalize n/64=q at *;generalize n%64=r at *;by_cases hq:(a.length:Int)<=q
 .refine⟨decide (0<(kV a:Int)),?_⟩;refine AC.aj (rs:=[.tmp 4,.tmp 5,.tmp 6]) aV Tryz.func322 (by rfl) (by rfl) (by rfl) (by rfl) (by rfl) ?_;simp (disch:=omega) only[wt,seval,h1,e1',e2',hw,hq];refine ah ((Vg a (by omega))) (by rfl) (by simp) ?_;simp (disch:=omega) only[wt,seval];rw[show a.length-q=0 by omega];rfl
 have h64:IntKind.u64.wrap (64-(r:Int))=((64-r:Nat):Int):=by rw[show (64:Int)-r=((64-r:Nat):Int) by omega];exact iq (by simp only[W];omega)
 have hm1:=uH (a.getD q 0) (64-r) (by omega);refine⟨decide (0<(kV (a.take q):Int)) || (decide (¬((a.getD q 0*2^(64-r)%W:Nat):Int)=0) && decide (0<(r:Int))),?_⟩;generalize hb:(decide (0<(kV (a.take q):Int)) || (decide (¬((a.getD q 0*2^(64-r)%W:Nat):Int)=0) && decide (0<(r:Int))))=b0;have hV:=a1C ha q;have hdl:(a.drop q).length=a.length-q:=by simp
 have hdw:∀i,(a.drop q).getD i 0=a.getD (q+i) 0:=λi=>by simp[List.getD,zbf]
 refine AC.aj (rs:=[.tmp 4,.tmp 5,.tmp 6]) aV Tryz.func322 (by rfl) (by rfl) (by rfl) (by rfl) (by rfl) ?_;simp (disch:=omega) only[wt,seval,h1,e1',e2',hw,hq];have htk:(a.take q).length<=2^43:=by rw[zah];omega
 refine ah ((Vg (a.take q) htk)) (by rfl) (by simp) ?_;have emq:(a.length:Int)-(q:Int)=((a.length-q:Nat):Int):=by omega
 generalize hm:a.length-q=m at *;by_cases hA:0<(kV (a.take q):Int)
 .rw[zbn hA,Bool.true_or]at hb;simp (disch:=omega) only[wt,seval,hA,emq];refine aI (λf H=>∃(i st:Nat) (out:List Nat),i<=m/\Lim out/\out.length=m/\nv (out.take i)=nv (a.drop q)/2^r%W^i/\f 52=.iv (.int .i64 i)/\f 0=.iv (.sl (dh a))/\f 7=.iv (.int .i64 q)/\f 8=.iv (.int .u64 r)/\f 9=.iv (.bool b0)/\f 10=.hs 49 st/\f 51=.iv (.int .i64 m)/\H 49=.blk false st 148 1 (dh out)) (λf H=>(m-bC f 52).toNat) ?_ ?_
  .refine⟨0,1,List.replicate m 0,by omega,Lim.replicate _,by simp,by simp[vl,zfk],?_⟩;simp only[wt,seval,hb]
  rintro f H ⟨i,st,out,hi,hO,hOl,hv,hF⟩;rw[aC hF.1];simp (disch:=omega) only[wt,seval,hF];refine bf (λhlt=>?_) (λhlt=>?_)
  .have ei:(q:Int)+(i:Int)=((q+i:Nat):Int):=by omega
   have ei1:((q+i:Nat):Int)+1=((q+i+1:Nat):Int):=by omega
   have hdg:=Aj (V:=nv (a.drop q)) (i:=i) hr (kN (ha.drop q) i) (kN (ha.drop q) (i+1));rw[hdw,hdw,<-zbp]at hdg;have hsr:=rM (a.getD (q+i) 0) r (by omega);have hx:=ha.get (q+i+1);have hsh:=(zV (x:=a.getD (q+i+1) 0) (r:=64-r) (by omega) hx).1;rw[show 64-(64-r)=r by omega]at hsh;have hm2:=uH (a.getD (q+i+1) 0) (64-r) (by omega);rw[hsh]at hm2;have hor:=MR (a.getD (q+i+1) 0%2^r) (a.getD (q+i) 0/2^r) (64-r) hdg.2.1 hdg.2.2;have hls:(out.set i (a.getD (q+i) 0/2^r)).length=m:=by simp[hOl]
   have hgs:(out.set i (a.getD (q+i) 0/2^r)).getD i 0=a.getD (q+i) 0/2^r:=pJ (by omega) _;have hss:∀x y,(out.set i x).set i y=out.set i y:=λx y=>by simp
   simp (disch:=omega) only[wt,seval,hF,ei,hsr];refine bf (λhr0=>?_) (λhr0=>?_)
   .simp (disch:=omega) only[wt,seval,hF,ei,ei1,hgs];refine .inl ⟨aP (by kernel_rfl),?_⟩;refine ah ((Dz a (q+i+1) (by omega))) (by rfl) (by simp) ?_;simp (disch:=omega) only[wt,seval,hF,h64,hm2,hor,hgs,hss];refine⟨aX (by kernel_rfl),?_⟩;refine⟨⟨i+1,st,out.set i (a.getD (q+i+1) 0%2^r*2^(64-r)+a.getD (q+i) 0/2^r),by omega,hO.set hdg.2.2,by simp[hOl],?_,by omega,rfl,rfl⟩,by omega⟩;simp only[nv]at hv hdg ⊢;rw[dI W (by omega),hv,<-hdg.1,zcy]
   .simp (disch:=omega) only[wt,seval,hF];have hr1:r=0:=by omega
    subst hr1;refine⟨⟨i+1,st,out.set i (a.getD (q+i) 0/2^0),by omega,hO.set (by rw[zdk,zdW];exact ha.get _),by simp[hOl],?_,by omega,rfl,rfl⟩,by omega⟩;have h0:=kN (ha.drop q) i;rw[hdw]at h0;simp only[nv,zdk,zdW]at hv h0 ⊢;rw[dI W (by omega),hv,h0,zcy]
  .simp (disch:=omega) only[wt,seval,hF];have:i=m:=by omega
   subst this;rw[zac (by omega),hV]at hv;rw[qG hO hOl hv]
 .by_cases hB:((a.getD q 0*2^(64-r)%W:Nat):Int)=0
  .rw[zaW hA,Bool.false_or,zaW (by simpa using hB),zdj]at hb;simp (disch:=omega) only[wt,seval,hA,emq,h64,hm1,hB];refine aI (λf H=>∃(i st:Nat) (out:List Nat),i<=m/\Lim out/\out.length=m/\nv (out.take i)=nv (a.drop q)/2^r%W^i/\f 52=.iv (.int .i64 i)/\f 0=.iv (.sl (dh a))/\f 7=.iv (.int .i64 q)/\f 8=.iv (.int .u64 r)/\f 9=.iv (.bool b0)/\f 10=.hs 49 st/\f 51=.iv (.int .i64 m)/\H 49=.blk false st 148 1 (dh out)) (λf H=>(m-bC f 52).toNat) ?_ ?_
   .refine⟨0,1,List.replicate m 0,by omega,Lim.replicate _,by simp,by simp[vl,zfk],?_⟩;simp only[wt,seval,hb]
   rintro f H ⟨i,st,out,hi,hO,hOl,hv,hF⟩;rw[aC hF.1];simp (disch:=omega) only[wt,seval,hF];refine bf (λhlt=>?_) (λhlt=>?_)
   .have ei:(q:Int)+(i:Int)=((q+i:Nat):Int):=by omega
    have ei1:((q+i:Nat):Int)+1=((q+i+1:Nat):Int):=by omega
    have hdg:=Aj (V:=nv (a.drop q)) (i:=i) hr (kN (ha.drop q) i) (kN (ha.drop q) (i+1));rw[hdw,hdw,<-zbp]at hdg;have hsr:=rM (a.getD (q+i) 0) r (by omega);have hx:=ha.get (q+i+1);have hsh:=(zV (x:=a.getD (q+i+1) 0) (r:=64-r) (by omega) hx).1;rw[show 64-(64-r)=r by omega]at hsh;have hm2:=uH (a.getD (q+i+1) 0) (64-r) (by omega);rw[hsh]at hm2;have hor:=MR (a.getD (q+i+1) 0%2^r) (a.getD (q+i) 0/2^r) (64-r) hdg.2.1 hdg.2.2;have hls:(out.set i (a.getD (q+i) 0/2^r)).length=m:=by simp[hOl]
    have hgs:(out.set i (a.getD (q+i) 0/2^r)).getD i 0=a.getD (q+i) 0/2^r:=pJ (by omega) _;have hss:∀x y,(out.set i x).set i y=out.set i y:=λx y=>by simp
    simp (disch:=omega) only[wt,seval,hF,ei,hsr];refine bf (λhr0=>?_) (λhr0=>?_)
    .simp (disch:=omega) only[wt,seval,hF,ei,ei1,hgs];refine .inl ⟨aP (by kernel_rfl),?_⟩;refine ah ((Dz a (q+i+1) (by omega))) (by rfl) (by simp) ?_;simp (disch:=omega) only[wt,seval,hF,h64,hm2,hor,hgs,hss];refine⟨aX (by kernel_rfl),?_⟩;refine⟨⟨i+1,st,out.set i (a.getD (q+i+1) 0%2^r*2^(64-r)+a.getD (q+i) 0/2^r),by omega,hO.set hdg.2.2,by simp[hOl],?_,by omega,rfl,rfl⟩,by omega⟩;simp only[nv]at hv hdg ⊢;rw[dI W (by omega),hv,<-hdg.1,zcy]
    .simp (disch:=omega) only[wt,seval,hF];have hr1:r=0:=by omega
     subst hr1;refine⟨⟨i+1,st,out.set i (a.getD (q+i) 0/2^0),by omega,hO.set (by rw[zdk,zdW];exact ha.get _),by simp[hOl],?_,by omega,rfl,rfl⟩,by omega⟩;have h0:=kN (ha.drop q) i;rw[hdw]at h0;simp only[nv,zdk,zdW]at hv h0 ⊢;rw[dI W (by omega),hv,h0,zcy]
   .simp (disch:=omega) only[wt,seval,hF];have:i=m:=by omega
    subst this;rw[zac (by omega),hV]at hv;rw[qG hO hOl hv]
  .by_cases hC:0<(r:Int)
   .rw[zaW hA,Bool.false_or,zbn hB,zbn hC,zej]at hb;simp (disch:=omega) only[wt,seval,hA,emq,h64,hm1,hB,hC];refine aI (λf H=>∃(i st:Nat) (out:List Nat),i<=m/\Lim out/\out.length=m/\nv (out.take i)=nv (a.drop q)/2^r%W^i/\f 52=.iv (.int .i64 i)/\f 0=.iv (.sl (dh a))/\f 7=.iv (.int .i64 q)/\f 8=.iv (.int .u64 r)/\f 9=.iv (.bool b0)/\f 10=.hs 49 st/\f 51=.iv (.int .i64 m)/\H 49=.blk false st 148 1 (dh out)) (λf H=>(m-bC f 52).toNat) ?_ ?_
    .refine⟨0,1,List.replicate m 0,by omega,Lim.replicate _,by simp,by simp[vl,zfk],?_⟩;simp only[wt,seval,hb]
    rintro f H ⟨i,st,out,hi,hO,hOl,hv,hF⟩;rw[aC hF.1];simp (disch:=omega) only[wt,seval,hF];refine bf (λhlt=>?_) (λhlt=>?_)
    .have ei:(q:Int)+(i:Int)=((q+i:Nat):Int):=by omega
     have ei1:((q+i:Nat):Int)+1=((q+i+1:Nat):Int):=by omega
     have hdg:=Aj (V:=nv (a.drop q)) (i:=i) hr (kN (ha.drop q) i) (kN (ha.drop q) (i+1));rw[hdw,hdw,<-zbp]at hdg;have hsr:=rM (a.getD (q+i) 0) r (by omega);have hx:=ha.get (q+i+1);have hsh:=(zV (x:=a.getD (q+i+1) 0) (r:=64-r) (by omega) hx).1;rw[show 64-(64-r)=r by omega]at hsh;have hm2:=uH (a.getD (q+i+1) 0) (64-r) (by omega);rw[hsh]at hm2;have hor:=MR (a.getD (q+i+1) 0%2^r) (a.getD (q+i) 0/2^r) (64-r) hdg.2.1 hdg.2.2;have hls:(out.set i (a.getD (q+i) 0/2^r)).length=m:=by simp[hOl]
     have hgs:(out.set i (a.getD (q+i) 0/2^r)).getD i 0=a.getD (q+i) 0/2^r:=pJ (by omega) _;have hss:∀x y,(out.set i x).set i y=out.set i y:=λx y=>by simp
     simp (disch:=omega) only[wt,seval,hF,ei,hsr];refine bf (λhr0=>?_) (λhr0=>?_)
     .simp (disch:=omega) only[wt,seval,hF,ei,ei1,hgs];refine .inl ⟨aP (by kernel_rfl),?_⟩;refine ah ((Dz a (q+i+1) (by omega))) (by rfl) (by simp) ?_;simp (disch:=omega) only[wt,seval,hF,h64,hm2,hor,hgs,hss];refine⟨aX (by kernel_rfl),?_⟩;refine⟨⟨i+1,st,out.set i (a.getD (q+i+1) 0%2^r*2^(64-r)+a.getD (q+i) 0/2^r),by omega,hO.set hdg.2.2,by simp[hOl],?_,by omega,rfl,rfl⟩,by omega⟩;simp only[nv]at hv hdg ⊢;rw[dI W (by omega),hv,<-hdg.1,zcy]
     .simp (disch:=omega) only[wt,seval,hF];have hr1:r=0:=by omega
      subst hr1;refine⟨⟨i+1,st,out.set i (a.getD (q+i) 0/2^0),by omega,hO.set (by rw[zdk,zdW];exact ha.get _),by simp[hOl],?_,by omega,rfl,rfl⟩,by omega⟩;have h0:=kN (ha.drop q) i;rw[hdw]at h0;simp only[nv,zdk,zdW]at hv h0 ⊢;rw[dI W (by omega),hv,h0,zcy]
    .simp (disch:=omega) only[wt,seval,hF];have:i=m:=by omega
     subst this;rw[zac (by omega),hV]at hv;rw[qG hO hOl hv]
   .rw[zaW hA,Bool.false_or,zbn hB,zaW hC,zej]at hb;simp (disch:=omega) only[wt,seval,hA,emq,h64,hm1,hB,hC];refine aI (λf H=>∃(i st:Nat) (out:List Nat),i<=m/\Lim out/\out.length=m/\nv (out.take i)=nv (a.drop q)/2^r%W^i/\f 52=.iv (.int .i64 i)/\f 0=.iv (.sl (dh a))/\f 7=.iv (.int .i64 q)/\f 8=.iv (.int .u64 r)/\f 9=.iv (.bool b0)/\f 10=.hs 49 st/\f 51=.iv (.int .i64 m)/\H 49=.blk false st 148 1 (dh out)) (λf H=>(m-bC f 52).toNat) ?_ ?_
    .refine⟨0,1,List.replicate m 0,by omega,Lim.replicate _,by simp,by simp[vl,zfk],?_⟩;simp only[wt,seval,hb]
    rintro f H ⟨i,st,out,hi,hO,hOl,hv,hF⟩;rw[aC hF.1];simp (disch:=omega) only[wt,seval,hF];refine bf (λhlt=>?_) (λhlt=>?_)
    .have ei:(q:Int)+(i:Int)=((q+i:Nat):Int):=by omega
     have ei1:((q+i:Nat):Int)+1=((q+i+1:Nat):Int):=by omega
     have hdg:=Aj (V:=nv (a.drop q)) (i:=i) hr (kN (ha.drop q) i) (kN (ha.drop q) (i+1));rw[hdw,hdw,<-zbp]at hdg;have hsr:=rM (a.getD (q+i) 0) r (by omega);have hx:=ha.get (q+i+1);have hsh:=(zV (x:=a.getD (q+i+1) 0) (r:=64-r) (by omega) hx).1;rw[show 64-(64-r)=r by omega]at hsh;have hm2:=uH (a.getD (q+i+1) 0) (64-r) (by omega);rw[hsh]at hm2;have hor:=MR (a.getD (q+i+1) 0%2^r) (a.getD (q+i) 0/2^r) (64-r) hdg.2.1 hdg.2.2;have hls:(out.set i (a.getD (q+i) 0/2^r)).length=m:=by simp[hOl]
     have hgs:(out.set i (a.getD (q+i) 0/2^r)).getD i 0=a.getD (q+i) 0/2^r:=pJ (by omega) _;have hss:∀x y,(out.set i x).set i y=out.set i y:=λx y=>by simp
     simp (disch:=omega) only[wt,seval,hF,ei,hsr];refine bf (λhr0=>?_) (λhr0=>?_)
     .simp (disch:=omega) only[wt,seval,hF,ei,ei1,hgs];refine .inl ⟨aP (by kernel_rfl),?_⟩;refine ah ((Dz a (q+i+1) (by omega))) (by rfl) (by simp) ?_;simp (disch:=omega) only[wt,seval,hF,h64,hm2,hor,hgs,hss];refine⟨aX (by kernel_rfl),?_⟩;refine⟨⟨i+1,st,out.set i (a.getD (q+i+1) 0%2^r*2^(64-r)+a.getD (q+i) 0/2^r),by omega,hO.set hdg.2.2,by simp[hOl],?_,by omega,rfl,rfl⟩,by omega⟩;simp only[nv]at hv hdg ⊢;rw[dI W (by omega),hv,<-hdg.1,zcy]
     .simp (disch:=omega) only[wt,seval,hF];have hr1:r=0:=by omega
      subst hr1;refine⟨⟨i+1,st,out.set i (a.getD (q+i) 0/2^0),by omega,hO.set (by rw[zdk,zdW];exact ha.get _),by simp[hOl],?_,by omega,rfl,rfl⟩,by omega⟩;have h0:=kN (ha.drop q) i;rw[hdw]at h0;simp only[nv,zdk,zdW]at hv h0 ⊢;rw[dI W (by omega),hv,h0,zcy]
    .simp (disch:=omega) only[wt,seval,hF];have:i=m:=by omega
     subst this;rw[zac (by omega),hV]at hv;rw[qG hO hOl hv]
end
section
variable {x c v1 v0 u2 u1 u0 q r:Nat}
theorem a6H (a b:List Nat)(ha:Lim a)(hb:Lim b)(hla:a.length<=2^40)(hlb:b.length<=2^40) :
  AC Tryz.prog 263 [cl a,cl b] (some (0,148,1,dh (pad (max a.length b.length) (nv a+nv b)))) [cl (pad (max a.length b.length) (nv a+nv b)),cu ((nv a+nv b)/W^(max a.length b.length))]:=by
 refine AC.aj (rs:=[.tmp 4,.tmp 5]) aV Tryz.func263 (by rfl) (by rfl) (by rfl) (by rfl) (by rfl) ?_;simp (disch:=omega) only[wt,seval];refine KD (λf H=>∃A B,B.length<=A.length/\A.length<=2^40/\Lim A/\Lim B/\A.length=max a.length b.length/\nv A+nv B=nv a+nv b/\f 0=.iv (.sl (dh A))/\f 1=.iv (.sl (dh B))) ?_ ?_
 .refine bf (λhz=>?_) (λhz=>?_)
  .simp only[wt,seval];exact⟨b,a,by omega,by omega,hb,ha,by omega,by omega,rfl,rfl⟩
  .simp only[wt,seval];exact⟨a,b,by omega,by omega,ha,hb,by omega,by omega,rfl,rfl⟩
 rintro f H ⟨A,B,hBA,hAl,hA,hB,hAm,hAB,h0,h1⟩;rw[<-hAm,<-hAB];simp only[wt,seval,h0];refine ah ((yx A (by omega))) (by rfl) (by simp) ?_;simp (disch:=omega) only[wt,seval];refine aI (λf H=>∃(i c:Nat) (out:List Nat) (st:Nat),i<=A.length/\c<=1/\Lim out/\out.length=A.length/\out.drop i=A.drop i/\nv (out.take i)+W^i*c=nv (A.take i)+nv (B.take i) /\
  f 0=.iv (.sl (dh A))/\f 1=.iv (.sl (dh B))/\f 6=.hs 17 st/\f 7=.iv (.int .u64 c)/\f 19=.iv (.int .i64 A.length)/\f 20=.iv (.int .i64 i)/\H 17=.blk false st 148 1 (dh out)) (λf H=>(A.length-bC f 20).toNat) ?_ ?_
 .exact⟨0,0,A,(H 17).stamp+1,by omega,by omega,hA,rfl,rfl,by simp[vl],by simp only[wt,seval,h0],by simp only[wt,seval,h1],by simp only[wt,seval],by simp only[wt,seval],by simp only[wt,seval],by simp only[wt,seval],by simp only[wt,seval]⟩
 clear h0 h1;rintro f H ⟨i,c,out,st,hi,hc,hO,hOl,hOd,hOv,h0,h1,h6,h7,h19,h20,hH⟩;rw[aC h20];simp (disch:=omega) only[wt,seval,h19,h20];refine bf (λhlt=>?_) (λhlt=>?_)
 .by_cases hb':(B.length:Int)<=i
  .by_cases hc':(c:Int)=0
   .simp (disch:=omega) only[wt,seval,h1,h6,h7,h20,hH,hb',hc'];obtain rfl:c=0:=by omega
    have e1:nv out=nv A+nv B:=by
     have e2:=gK W out (k:=i) (by omega);have e3:=gK W A (k:=i) (by omega);rw[zac (l:=B) (by omega)]at hOv;rw[hOd]at e2;simp only[nv]at *;omega
    have e2:nv A+nv B<W^A.length:=by rw[<-e1,<-hOl];exact kE hO
    rw[<-qG hO hOl (s:=nv A+nv B) (by rw[e1,zan e2]),za6 e2];exact⟨rfl,rfl⟩
   .simp (disch:=omega) only[wt,seval,h0,h1,h6,h7,h20,hb',hc'];refine .inl ⟨aP (by kernel_rfl),?_⟩;refine ah ((Dz B i (by omega))) (by rfl) (by simp) ?_;simp (disch:=omega) only[wt,seval,h7];refine ah ((J9 (A.getD i 0) (B.getD i 0) c (hA.get i) (hB.get i) (by simp only[W];omega))) (by rfl) (by simp) ?_;simp (disch:=omega) only[wt,seval,h0,h1,h6,h19,h20,hH];refine⟨aX (by kernel_rfl),?_⟩;have hx:=hA.get i;have hy:=hB.get i

    refine⟨⟨i+1,(A.getD i 0+B.getD i 0+c)/W,out.set i ((A.getD i 0+B.getD i 0+c)%W),st,by omega,by simp only[W]at *;omega,hO.set (zbj _ (by decide)),by simp[hOl],?_,?_,rfl,rfl,by omega,rfl⟩,by omega⟩
    .rw[zc4 (by omega)];have:=zaO (List.drop 1) hOd;simpa using this
    .simp only[nv]at *;rw[dI W (by omega),za7,aT,aT];exact yB hOv (by simp only[W];omega)
  .simp (disch:=omega) only[wt,seval,h0,h1,h6,h20,hb'];refine .inl ⟨aP (by kernel_rfl),?_⟩;refine ah ((Dz B i (by omega))) (by rfl) (by simp) ?_;simp (disch:=omega) only[wt,seval,h7];refine ah ((J9 (A.getD i 0) (B.getD i 0) c (hA.get i) (hB.get i) (by simp only[W];omega))) (by rfl) (by simp) ?_;simp (disch:=omega) only[wt,seval,h0,h1,h6,h19,h20,hH];refine⟨aX (by kernel_rfl),?_⟩;have hx:=hA.get i;have hy:=hB.get i

   refine⟨⟨i+1,(A.getD i 0+B.getD i 0+c)/W,out.set i ((A.getD i 0+B.getD i 0+c)%W),st,by omega,by simp only[W]at *;omega,hO.set (zbj _ (by decide)),by simp[hOl],?_,?_,rfl,rfl,by omega,rfl⟩,by omega⟩
   .rw[zc4 (by omega)];have:=zaO (List.drop 1) hOd;simpa using this
   .simp only[nv]at *;rw[dI W (by omega),za7,aT,aT];exact yB hOv (by simp only[W];omega)
 .simp (disch:=omega) only[wt,seval,h6,h7,hH];have hiA:i=A.length:=by omega
  subst hiA;rw[zac (by omega),zaM,zac (by omega)]at hOv;have hlt':=kE hO;rw[hOl]at hlt';have e2:(nv A+nv B)/W^A.length=c:=by
   rw[<-hOv,zdd _ _ (gB _),za6 hlt',za9]
  rw[e2,<-qG hO hOl (s:=nv A+nv B) (by rw[<-hOv,zbQ,zan hlt'])];exact⟨rfl,rfl⟩
theorem XJ {y N o:Nat}(h:o+y=x+N*c)(ho:o<N):c=(y-x+N-1)/N/\o=x+N*c-y:=by
 refine⟨?_,by omega⟩
 symm
 rcases Nat.le_total x y with hxy|hxy
 .refine Nat.div_eq_of_lt_le ?_ ?_
  .rw[zaA];omega
  .rw[zaA,zdQ];omega
 .have hc:c=0:=by
   rcases za8 c with h0|h0
   .exact h0
   .have:=zbb N h0;omega
  subst hc;rw[show y-x=0 by omega];exact za6 (by omega)
def a5a (x y N:Nat):Nat:=(y-x+N-1)/N
theorem Ym {w:Nat}(hx:x<W)(hw:w<W)(hc:c<W):x*w+c<=(W-1)*W:=by
 have h1:x*w<=(W-1)*(W-1):=zbR (by omega) (by omega);simp only[W]at *;omega
theorem a1O (a b:List Nat)(w:Nat)(ha:Lim a)(hb:Lim b)(hw:w<W)(hla:a.length<=2^40)(hlb:b.length<=a.length) :
  AC Tryz.prog 311 [cl a,cl b,cu w] (some (0,148,1,dh (pad a.length (nv a+W^a.length*a5a (nv a) (nv b*w) (W^a.length)-nv b*w)))) [cl (pad a.length (nv a+W^a.length*a5a (nv a) (nv b*w) (W^a.length)-nv b*w)),cu (a5a (nv a) (nv b*w) (W^a.length)),ci 0]:=by
 refine AC.aj (rs:=[.tmp 6,.tmp 7,.tmp 8]) aV Tryz.func311 (by rfl) (by rfl) (by rfl) (by rfl) (by rfl) ?_;have h1:¬(a.length:Int)<b.length:=by omega
 simp (disch:=omega) only[wt,seval,h1];refine ah ((yx a (by omega))) (by rfl) (by simp) ?_;simp (disch:=omega) only[wt,seval];refine aI (λf H=>∃(i c st:Nat) (out:List Nat),i<=a.length/\c<W/\Lim out/\out.length=a.length/\out.drop i=a.drop i/\nv (out.take i)+nv (b.take i)*w=nv (a.take i)+W^i*c/\f 25=.iv (.int .i64 i)/\f 1=.iv (.sl (dh b))/\f 2=.iv (.int .u64 w)/\f 9=.hs 22 st/\f 10=.iv (.int .u64 c)/\f 24=.iv (.int .i64 a.length)/\H 22=.blk false st 148 1 (dh out)) (λf H=>(a.length-bC f 25).toNat) ?_ ?_
 .refine⟨0,0,1,a,by omega,by decide,ha,rfl,rfl,by simp[vl],?_⟩;simp only[wt,seval]
 rintro f H ⟨i,c,st,out,hi,hc,hO,hOl,hOd,hv,hF⟩;rw[aC hF.1];simp (disch:=omega) only[wt,seval,hF];refine bf (λhlt=>?_) (λhlt=>?_)
 .have hx:=ha.get i;have hy:=hb.get i;have hoi:out.getD i 0=a.getD i 0:=by
   have e1:out.getD i 0=(out.drop i).getD 0 0:=by simp[List.getD,List.getElem?_drop]
   have e2:a.getD i 0=(a.drop i).getD 0 0:=by simp[List.getD,List.getElem?_drop]
   rw[e1,e2,hOd]
  have hbd:=Ym hy hw hc;simp (disch:=omega) only[wt,seval,hF];refine ah ((Dz b i (by omega))) (by rfl) (by simp) ?_;simp (disch:=omega) only[wt,seval,hF];have m:=a1N (b.getD i 0) w c 0 hy hw hc (by decide);rw[Nat.add_zero]at m;refine ah (m) (by rfl) (by simp) ?_;simp (disch:=omega) only[wt,seval,hF];have hdm:=Nat.div_add_mod (b.getD i 0*w+c) W;have hlo:(b.getD i 0*w+c)%W<W:=Nat.mod_lt _ (by decide);generalize (b.getD i 0*w+c)/W=hi' at *;generalize (b.getD i 0*w+c)%W=lo at *;have s:=ZO (out.getD i 0) lo 0 (by rw[hoi];exact hx) hlo (by omega);rw[hoi]at s;obtain⟨bo,hbo,hd1,hd2,hcb⟩:∃bo,(if a.getD i 0<lo+0 then 1 else 0)=bo/\(a.getD i 0+W-lo-0)%W<W/\(a.getD i 0+W-lo-0)%W+lo=a.getD i 0+W*bo/\hi'+bo<W:=by
   refine⟨_,rfl,Nat.mod_lt _ (by decide),?_,?_⟩
   .simp only[W]at *;split<;>omega
   .simp only[W]at *;split<;>omega
  rw[hbo]at s;generalize (a.getD i 0+W-lo-0)%W=d at *;have hwc:IntKind.u64.wrap ((hi':Int)+(bo:Int))=((hi'+bo:Nat):Int):=fC hcb;refine ah (s) (by simp only[gV,qU,hoi];rfl) (by simp) ?_;simp (disch:=omega) only[wt,seval,hF,hoi,hwc];refine⟨⟨i+1,hi'+bo,st,out.set i d,by omega,hcb,hO.set hd1,by simp[hOl],?_,?_,by omega,rfl,rfl,rfl⟩,by omega⟩
  .rw[List.drop_set_of_lt (by omega)];have:=congrArg (List.drop 1) hOd;simpa using this
  .simp only[nv]at hv ⊢;rw[dI W (by omega),Nat.pow_succ,aT,aT,Nat.add_mul];have key:W^i*d+W^i*b.getD i 0*w+W^i*c=W^i*a.getD i 0+W^i*W*(hi'+bo):=by
    rw[Nat.mul_assoc,Nat.mul_assoc,<-Nat.mul_add,<-Nat.mul_add,<-Nat.mul_add]
    congr 1
    rw[Nat.mul_add];omega
   omega
 .simp (disch:=omega) only[wt,seval,hF];have:i=a.length:=by omega
  subst this;rw[List.take_of_length_le (by omega),List.take_of_length_le (by omega),List.take_length]at hv;have h5:=kE hO;rw[hOl]at h5;obtain⟨e1,e2⟩:=XJ hv h5;have e3:c=a5a (nv a) (nv b*w) (W^a.length):=e1;rw[<-e3,<-e2,<-qG hO hOl (s:=nv out) (Nat.mod_eq_of_lt h5).symm];exact⟨rfl,rfl⟩
def gd3 (u2 u1 u0 v1 v0:Nat):Nat:=min (((u2*W+u1)*W+u0)/(v1*W+v0)) (W-1)
theorem X9 (h:0<v1):0<v1*W+v0:=by
 have:=zag W h;simp only[W]at *;omega
theorem a2D (he:q*v1+r=u2*W+u1)(hv:0<v1)(hq:q<W)(hc:q*v0<=r*W+u0)(hg:gd3 u2 u1 u0 v1 v0<=q):q=gd3 u2 u1 u0 v1 v0:=by
 refine zfm ?_ hg;refine Nat.le_min.mpr ⟨?_,ze9 hq⟩;rw[zcv (X9 hv),<-he,zbx,<-za1,zaN,zbp];omega
theorem a7b (he:q*v1+r=u2*W+u1)(hv:0<v1)(hc:r*W+u0<q*v0):gd3 u2 u1 u0 v1 v0<=q-1/\0<q:=by
 have hq:0<q:=by
  rcases za8 q with h|h
  .rw[h,zcP]at hc;exact absurd hc (Nat.not_lt_zero _)
  .exact h
 refine⟨?_,hq⟩;have:((u2*W+u1)*W+u0)/(v1*W+v0)<q:=by
  rw[za5 (X9 hv),<-he,zbx,<-za1,zaN,zbp];exact zfn hc _
 exact zad (zeE _ _) (ze9 this)
theorem KW (q r u2 u1 u0 v1 v0:Nat)(hq:q<W)(hr:r<W)(h0:u0<W)(hv1:v1<W)(hv0:v0<W)(hv:0<v1)(he:q*v1+r=u2*W+u1)(hg:gd3 u2 u1 u0 v1 v0<=q) :
  AC Tryz.prog 321 [cu q,cu r,cu u0,cu v1,cu v0] none [cu (gd3 u2 u1 u0 v1 v0)]:=by
 refine AC.aj (rs:=[.tmp 10]) aV Tryz.func321 (by rfl) (by rfl) (by rfl) (by rfl) (by rfl) ?_;simp only[wt,seval];refine aI (λf H=>∃(q r:Nat),q*v1+r=u2*W+u1/\gd3 u2 u1 u0 v1 v0<=q/\q<W/\r<W/\f 0=.iv (.int .u64 q)/\f 1=.iv (.int .u64 r)/\f 2=.iv (.int .u64 u0)/\f 3=.iv (.int .u64 v1)/\f 4=.iv (.int .u64 v0)) (λf H=>(bC f 0).toNat) ?_ ?_
 .refine⟨q,r,he,hg,hq,hr,?_⟩;simp only[wt,seval]
 rintro f H ⟨q,r,he,hg,hq,hr,hF⟩;rw[aC hF.1];simp (disch:=omega) only[wt,seval,hF];have hdm:=zbl (q*v0) W;have hlo:q*v0%W<W:=zbj _ (by decide);have hm:=Wu q v0 hq hv0;obtain⟨hi,ehi⟩:∃hi,q*v0/W=hi:=⟨_,rfl⟩;obtain⟨lo,elo⟩:∃lo,q*v0%W=lo:=⟨_,rfl⟩;rw[ehi,elo]at hm;rw[ehi,elo]at hdm;rw[elo]at hlo;clear ehi elo;refine ah (hm) (by rfl) (by simp) ?_;by_cases hc:q*v0<=r*W+u0
 .have e:=a2D he hv hq hc hg;by_cases h1:(hi:Int)<r
  .simp (disch:=omega) only[wt,seval,hF,h1];rw[e]
  .have h2:(hi:Int)=r:=by simp only[W]at *;omega
   have h3:(lo:Int)<=u0:=by simp only[W]at *;omega
   have h2:=eq_true h2;simp (disch:=omega) only[wt,seval,hF,h1,h2,h3];rw[e]
 .obtain⟨hg',hq0⟩:=a7b he hv (Nat.lt_of_not_le hc);have he':(q-1)*v1+(r+v1)=u2*W+u1:=by
   obtain⟨k,rfl⟩:∃k,q=k+1:=⟨q-1,by omega⟩;rw[zdD,<-he,zbS];omega
  have h1:¬(hi:Int)<r:=by simp only[W]at *;omega
  have hw1:IntKind.u64.wrap ((q:Int)-1)=((q-1:Nat):Int):=by rw[show (q:Int)-1=((q-1:Nat):Int) by omega];exact iq (by omega)
  have had:=FP r v1 0 (by omega);rw[zaV]at had;have last:1<=(r+v1)/W->q-1=gd3 u2 u1 u0 v1 v0:=λh=>by
   refine a2D he' hv (by omega) ?_ hg';have h1:W<=r+v1:=by
    have:=zcO (r+v1) W;have:=zag W h;omega
   have g1:(q-1)*v0<=(W-1)*(W-1):=zbR (by omega) (by omega);have g2:=zag W h1;simp only[W]at *;omega
  have hle1:(r+v1)/W<=1:=by simp only[W]at *;omega
  have hmod:(r+v1)/W=0->(r+v1)%W=r+v1:=λh=>by simp only[W]at *;omega
  have b7q:(r+v1)%W<W:=zbj _ (by decide);obtain⟨cy,ecy⟩:∃cy,(r+v1)/W=cy:=⟨_,rfl⟩;obtain⟨sm,esm⟩:∃sm,(r+v1)%W=sm:=⟨_,rfl⟩;rw[ecy,esm]at had;rw[ecy]at last hle1 hmod;rw[esm]at hmod b7q;clear ecy esm;by_cases h2:(hi:Int)=r
  .have h3:¬(lo:Int)<=u0:=by simp only[W]at *;omega
   have h2:=eq_true h2;simp (disch:=omega) only[wt,seval,hF,h1,h2,h3,hw1];refine ah (had) (by rfl) (by simp) ?_;simp (disch:=omega) only[wt,seval];refine bf (λh4=>?_) (λh4=>?_)
   .simp (disch:=omega) only[wt,seval];rw[last (by omega)]
   .simp (disch:=omega) only[wt,seval,hF];have h5:=hmod (by omega);exact⟨⟨q-1,sm,by rw[h5];exact he',hg',by omega,b7q,rfl,rfl⟩,by omega⟩
  .simp (disch:=omega) only[wt,seval,hF,h1,h2,hw1];refine ah (had) (by rfl) (by simp) ?_;simp (disch:=omega) only[wt,seval];refine bf (λh4=>?_) (λh4=>?_)
   .simp (disch:=omega) only[wt,seval];rw[last (by omega)]
   .simp (disch:=omega) only[wt,seval,hF];have h5:=hmod (by omega);exact⟨⟨q-1,sm,by rw[h5];exact he',hg',by omega,b7q,rfl,rfl⟩,by omega⟩
end
theorem b1J {u2 u1 u0 v1 v0:Nat}(hv:0<v1)(h0:u0<W):gd3 u2 u1 u0 v1 v0<=(u2*W+u1)/v1:=by
 have h2:=zcO ((u2*W+u1)*W+u0) (v1*W+v0);have h6:gd3 u2 u1 u0 v1 v0<=((u2*W+u1)*W+u0)/(v1*W+v0):=zeE _ _;obtain⟨x,hx⟩:∃x,((u2*W+u1)*W+u0)/(v1*W+v0)=x:=⟨_,rfl⟩;rw[hx]at h2 h6;refine zad h6 ?_;rw[zcv hv];clear hx h6;rw[zbx,<-za1]at h2;rcases zbh (u2*W+u1) (x*v1) with h|h
 .have h3:=zag W h;rw[zbS]at h3;have h4:x*v1*W<=(u2*W+u1)*W+u0:=zad (Nat.le_add_right _ _) h2;have h5:=zad h3 h4;exact absurd h0 (zeu.mpr (Nat.le_of_add_le_add_left h5))
 .exact h
theorem a6X (u2 u1 u0 v1 v0:Nat)(h2:u2<=v1)(h1:u1<W)(h0:u0<W)(hv1:v1<W)(hv0:v0<W)(hv:0<v1) :
  AC Tryz.prog 310 [cu u2,cu u1,cu u0,cu v1,cu v0] none [cu (gd3 u2 u1 u0 v1 v0)]:=by
 refine AC.aj (rs:=[.tmp 10]) aV Tryz.func310 (by rfl) (by rfl) (by rfl) (by rfl) (by rfl) ?_;simp (disch:=omega) only[wt,seval];refine bf (λhz=>?_) (λhz=>?_)
 .have hu:u2=v1:=by omega
  subst hu;simp only[wt,seval];have had:=FP u1 u2 0 (by omega);rw[zaV]at had;have hle1:(u1+u2)/W<=1:=by simp only[W]at *;omega
  have hmod:(u1+u2)/W=0->(u1+u2)%W=u1+u2/\u1+u2<W:=λh=>by simp only[W]at *;omega
  have hge:(u1+u2)/W=1->W<=u1+u2:=λh=>by simp only[W]at *;omega
  have he:(W-1)*u2+(u1+u2)=u2*W+u1:=by
   simp only[W];omega
  have hg:gd3 u2 u1 u0 u2 v0<=W-1:=Nat.min_le_right _ _;have hW1:((W-1:Nat):Int)=18446744073709551615:=rfl;obtain⟨cy,ecy⟩:∃cy,(u1+u2)/W=cy:=⟨_,rfl⟩;obtain⟨sm,esm⟩:∃sm,(u1+u2)%W=sm:=⟨_,rfl⟩;rw[ecy,esm]at had;rw[ecy]at hle1 hmod hge;rw[esm]at hmod;clear ecy esm;refine ah (had) (by rfl) (by simp) ?_;simp (disch:=omega) only[wt,seval];refine bf (λhc=>?_) (λhc=>?_)
  .simp (disch:=omega) only[wt,seval];have e:W-1=gd3 u2 u1 u0 u2 v0:=by
    refine a2D he hv (zfT (by decide) (by decide)) ?_ hg;have g1:(W-1)*v0<=(W-1)*(W-1):=zbb _ (ze9 hv0);have g2:=zag W (hge (by omega));simp only[W]at *;omega
   rw[<-e];exact hW1.symm
  .simp only[wt,seval];obtain⟨e1,e2⟩:=hmod (by omega);have cc:=KW (W-1) sm u2 u1 u0 u2 v0 (zfT (by decide) (by decide)) (by rw[e1];exact e2) h0 hv1 hv0 hv (by rw[e1];exact he) hg;rw[show cu (W-1)=.iv (.int .u64 18446744073709551615) from rfl]at cc;refine ah (cc) (by rfl) (by simp) ?_;simp (disch:=omega) only[wt,seval]
 .simp only[wt,seval];have hq:(u2*W+u1)/v1<W:=V9 (by omega) h1;have hdm:=zbl (u2*W+u1) v1;have hr:(u2*W+u1)%v1<v1:=zbj _ hv;have hg:=b1J (u2:=u2) (u1:=u1) (u0:=u0) (v1:=v1) (v0:=v0) hv h0;have hd:=X5 u2 u1 v1 (by omega) h1 hv1;generalize (u2*W+u1)/v1=q at *;generalize (u2*W+u1)%v1=r at *;refine ah (hd) (by rfl) (by simp) ?_;simp (disch:=omega) only[wt,seval];refine ah ((KW q r u2 u1 u0 v1 v0 hq (by omega) h0 hv1 hv0 hv (by rw[zaA];exact hdm) hg)) (by rfl) (by simp) ?_;simp (disch:=omega) only[wt,seval]
end Go.Proofs.YtdpngipofekcfaaGreat
