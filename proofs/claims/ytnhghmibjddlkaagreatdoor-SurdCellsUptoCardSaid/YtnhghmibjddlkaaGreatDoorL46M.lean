/-
 Contracts of the functions that the law reaches.
-/
import Derived.Test.YtnhghmibjddlkaaGreatDoorL31M
import Derived.Test.YtnhghmibjddlkaaGreatDoorL23M
import Derived.Test.YtnhghmibjddlkaaGreatDoorL12M
set_option maxHeartbeats 2000000
namespace Go.Proofs.YtnhghmibjddlkaaGreatDoor
open Go Go.Proofs Go.AL
set_option linter.unusedSimpArgs false
set_option linter.unusedVariables false
theorem cZ:dY []=[]:=rfl
theorem RU {q:List Int}{i:Nat}(h:i<tz q):(dY q).getD i []=je (canon (cf q i)):=by
 have h1:i<(aV q).length:=by rw[bI];exact h
 rw[<-bH];simp[dY,gZ,cf,List.getD,h1]
def Bd (k:Nat)(q:List Int):Prop:=tz q<=40/\∀i,zl (cf q i)<=k
theorem Bd.rp {k:Nat}{q:List Int}(h:Bd k q)(hk:k<=2^35):RP (2^30) (2^35) (cn q):=by
 refine(RP.canon (.of (by rw[bI];exact h.1) λi=>?_)).mono (by decide:40<=_) hk;rw[bH];exact h.2 i
def KB (l:Nat):Nat:=(60-l)*536870912
theorem a0a (l:Nat)(h:l+1<=41):KB l=KB (l+1)+536870912:=by unfold KB;omega
theorem b1M (l:Nat):KB l<=32212254720:=by unfold KB;omega
theorem b3q (l:Nat)(h:l<=41):536870912<=KB l:=by unfold KB;omega
theorem a8n {K k:Nat}(h:K=k+536870912):max (k+2^27) (k+2^27+2^27)+1<=K:=by omega
theorem a3o {K k:Nat}(h:K=k+536870912):max (k+2^27) (k+2^27)+1<=K:=by omega
theorem Sr {K k:Nat}(h:K=k+536870912):k+2^27<=K:=by omega
theorem Bg {K k:Nat}{c:Int}{q:List Int}(h:Bd K q)(hc:zl c<=k):Bd (K+k) (aY c q):=by
 refine⟨Nat.le_trans (mV c q) h.1,λi=>?_⟩;rw[dM];have:=gI (cf q i) c;have:=h.2 i;omega
theorem a8q {K n:Nat}{c:Int}(hn:n<40)(hc:zl c<=K):Bd K (mono n c):=by
 refine⟨iC λk hk=>by rw[ug,if_neg (by omega)],λi=>?_⟩;rw[ug];split
 .exact hc
 .rw[fA];omega
theorem a8r {K k n m:Nat}{c:Int}{B:List Int}(hB:Bd k B)(hn:n+tz B<=40)(hc:zl c<=K):Bd (K+k) (bV (mono n c) B):=by
 refine⟨iC λj hj=>?_,λi=>?_⟩
 .rw[qR];split
  .rw[bW B (by omega),Int.mul_zero]
  .rfl
 .rw[qR];split
  .have:=gI c (cf B (i-n));have:=hB.2 (i-n);omega
  .rw[fA];omega
theorem a5j {K k:Nat}{p q:List Int}(hp:Bd K p)(hq:Bd k q):Bd (max K k+1) (ji p q):=by
 have h1:=hp.1;have h2:=hq.1;refine⟨iC λj hj=>by rw[fJ,bW p (by omega),bW q (by omega)];rfl,λi=>?_⟩;rw[fJ];have:=nT (cf p i) (cf q i);have:=hp.2 i;have:=hq.2 i;omega
theorem b1D {K:Nat}{q:List Int}(h:Bd K q):Bd K (aY (-1) q):=by
 refine⟨Nat.le_trans (mV _ q) h.1,λi=>?_⟩;rw[dM,Int.mul_neg,Int.mul_one,rO];exact h.2 i
theorem b1C (K:Nat):Bd K []:=⟨by simp[tz,oK],λi=>by rw[gu,fA];exact Nat.zero_le _⟩
theorem Bd.mono {K k:Nat}{q:List Int}(h:Bd K q)(hk:K<=k):Bd k q:=⟨h.1,λi=>Nat.le_trans (h.2 i) hk⟩
set_option maxHeartbeats 1000000 in
theorem YW (p q:List RI)(fa:RI)(hp:RP 40 (2^27) p)(hq:RP 40 (2^27) q)(hf:Sz (2^27) fa)(hB:tz (pv q)≠0)(hd:lc (pv q)∣iv fa) :
  AC Tryz.prog 163 [cw p,cw q,cr fa] none [cp (uO (iv fa) (lc (pv q)) (pv q) (tz (pv p)+1-tz (pv q)) ([],pv p)).1,cp (uO (iv fa) (lc (pv q)) (pv q) (tz (pv p)+1-tz (pv q)) ([],pv p)).2,ci (tz (pv p)+1-tz (pv q):Nat)]:=by
 refine AC.aF (rs:=[.tmp 6,.tmp 7,.tmp 8]) bM Tryz.func163 (by rfl) (by rfl) (by rfl) (by rfl) (by rfl) ?_;have qp:=hp.pv;have qq:=hq.pv;have tp:tz (pv p)<=40:=Nat.le_trans (oI _) qp.1;have tq:tz (pv q)<=40:=Nat.le_trans (oI _) qq.1;generalize hee:tz (pv p)+1-tz (pv q)=e at *;have he:max ((tz (pv p):Int)-tz (pv q)+1) 0=(e:Int):=by omega
 have ht1:((tz (pv q):Int)-1).toNat=tz (pv q)-1:=by omega
 have hat:=RU (q:=pv q) (i:=tz (pv q)-1) (by omega);have hL:cf (pv q) (tz (pv q)-1)=lc (pv q):=rfl;rw[hL]at hat;simp (disch:=omega) only[wt,seval,reduceCtorEq,Nat.reduceEqDiff,aC,cZ];refine au ((gX p (hp.mono (by omega) (by omega)))) (by rfl) (by simp) ?_;simp (disch:=omega) only[wt,seval,reduceCtorEq,Nat.reduceEqDiff,aC,cZ];refine au ((gX q (hq.mono (by omega) (by omega)))) (by rfl) (by simp) ?_;simp (disch:=omega) only[wt,seval,reduceCtorEq,Nat.reduceEqDiff,aC,cZ];simp (disch:=omega) only[wt,seval,reduceCtorEq,Nat.reduceEqDiff,aC,cZ,he,ht1,hat];generalize hc:iv fa=c at *;generalize hPe:pv p=P at *;generalize hBe:pv q=B at *;generalize hLe:lc B=L at *;have b5M:Bd (KB e) P:=⟨tp,λi=>Nat.le_trans (qp.cf i) (Nat.le_trans (by decide) (b3q e (by omega)))⟩;refine OW (.b3C 13 (by simp (disch:=omega) only[wt,seval,reduceCtorEq,Nat.reduceEqDiff,aC,cZ]) (.refl _ _)) (λf H=>∃(left st5 b1V:Nat) (Q R:List Int),uO c L B left (Q,R)=uO c L B e ([],P)/\tz R<tz B+left/\left<=41/\Bd (KB left) Q/\Bd (KB left) R/\f 14=.iv (.int .i64 left)/\f 9=.iv (.sl (dY R))/\f 10=.iv (.sl (dY B))/\f 13=.iv (.sl (dY Q))/\f 11=.iv (.int .i64 e)/\f 5=.hp 5 st5 0 0/\f 12=.hp 12 b1V 0 0/\H 5=.blk false st5 29 2 [je fa]/\H 12=.blk false b1V 29 2 [je (canon L)]) (λf H=>(dQ f 14).toNat) ?_ ?_
 .refine⟨e,1,1,[],P,rfl,by omega,by omega,b1C _,b5M,?_⟩;simp (disch:=omega) only[wt,seval,reduceCtorEq,Nat.reduceEqDiff,aC,cZ]
 rintro f H ⟨left,st5,b1V,Q,R,hD,hT,hle,hQ,hR,hF⟩;rw[bC hF.1];simp (disch:=omega) only[wt,seval,reduceCtorEq,Nat.reduceEqDiff,aC,cZ,hF];have hkb:=b1M left;have hkR:=hR.rp (by omega);have hkQ:=hQ.rp (by omega);refine bU (λhge=>?_) (λhge=>?_)
 .obtain⟨l,rfl⟩:∃l,left=l+1:=⟨left-1,by omega⟩;have hm:((tz R:Int)-tz B)=((tz R-tz B:Nat):Int):=by omega
  have ht2:((tz R:Int)-1).toNat=tz R-1:=by omega
  have Jf:=RU (q:=R) (i:=tz R-1) (by omega);have hLR:cf R (tz R-1)=lc R:=rfl;rw[hLR]at Jf;have hzR:=hR.2 (tz R-1);rw[hLR]at hzR;have hzc:zl c<=2^27:=by rw[<-hc];exact rG hf
  have hzL:zl L<=2^27:=by rw[<-hLe];exact qq.cf _
  have hL0:L≠0:=by rw[<-hLe];exact dS hB
  have hzm:=gI c (lc R);have hdv:L∣c*lc R:=Int.dvd_trans hd (Int.dvd_mul_right _ _);have hzt:=Jj hdv;have m1:=jM fa (canon (lc R)) (hf.mono (by omega)) ((aW _).mono (by omega));rw[hc,aU]at m1;have m2:=Bq (canon (c*lc R)) (canon L) ((aW _).mono (by omega)) ((aW _).mono (by omega)) (by rw[aU];exact hL0) (by rw[aU,aU];exact hdv);rw[aU,aU]at m2;have m3:=U0 (canon (c*lc R/L)) (tz R-tz B) (by omega) ((aW _).mono (by omega));rw[aU]at m3;simp (disch:=omega) only[wt,seval,reduceCtorEq,Nat.reduceEqDiff,aC,cZ,hF,hm,ht2,Jf];refine .inl ⟨aZ (by kernel_rfl),?_⟩;refine au (m1) (by first|rfl|(simp only[aH,bn,aB,aI,aA,Nat.reduceEqDiff,↓reduceIte,hF,hm,ht2,Jf];rfl)) (by simp) ?_;simp (disch:=omega) only[wt,seval,reduceCtorEq,Nat.reduceEqDiff,aC,cZ,hF,hm,ht2,Jf];refine au (m2) (by first|rfl|(simp only[aH,bn,aB,aI,aA,Nat.reduceEqDiff,↓reduceIte,hF,hm,ht2,Jf];rfl)) (by simp) ?_;simp (disch:=omega) only[wt,seval,reduceCtorEq,Nat.reduceEqDiff,aC,cZ,hF,hm,ht2,Jf]
  first|exact aN (by kernel_rfl)|refine⟨aN (by kernel_rfl),?_⟩
  refine au (m3) (by first|rfl|(simp only[aH,bn,aB,aI,aA,Nat.reduceEqDiff,↓reduceIte,hF,hm,ht2,Jf];rfl)) (by simp) ?_;simp (disch:=omega) only[wt,seval,reduceCtorEq,Nat.reduceEqDiff,aC,cZ,hF,hm,ht2,Jf];have hBB:Bd (2^27) B:=⟨tq,λi=>qq.cf i⟩;have hlt:=hR.1;have hK2:=a0a l hle;have hge':tz B<=tz R:=by omega
  generalize KB (l+1)=K at *;have b1:=Bg hQ hzc;have b2:=a8q (n:=tz R-tz B) (c:=c*lc R/L) (K:=K+2^27) (by omega) (by omega);have b3:=Bg hR hzc;have b4:=a8r (m:=0) (n:=tz R-tz B) (c:=c*lc R/L) (K:=K+2^27) hBB (by omega) (by omega);have b5:=a5j b1 b2;have b6:=a5j b3 (b1D b4);have hBr:=hBB.rp (by omega);have s1:=wV (q:=Q) (c:=fa) hkQ (hf.mono (by omega)) (jf _);have s2:=wV (q:=R) (c:=fa) hkR (hf.mono (by omega)) (jf _);rw[hc]at s1 s2;have hstep:uO c L B (l+1) (Q,R)=uO c L B l (YS c L B (Q,R)):=by
   rw[uO,if_pos (show tz B<=tz (Q,R).2 from hge')]
  have htz:=Rt (c:=c) (s:=(Q,R)) hLe.symm hB hd (show tz B<=tz (Q,R).2 from hge');refine au (s1) (by first|rfl|(simp only[aH,bn,aB,aI,aA,Nat.reduceEqDiff,↓reduceIte,hF,hm,ht2,Jf];rfl)) (by simp) ?_;simp (disch:=omega) only[wt,seval,reduceCtorEq,Nat.reduceEqDiff,aC,cZ,hF,hm,ht2,Jf];refine au ((Xv (b1.rp (by omega)) (b2.rp (by omega)) (jf _) (jf _))) (by first|rfl|(simp only[aH,bn,aB,aI,aA,Nat.reduceEqDiff,↓reduceIte,hF,hm,ht2,Jf];rfl)) (by simp) ?_;simp (disch:=omega) only[wt,seval,reduceCtorEq,Nat.reduceEqDiff,aC,cZ,hF,hm,ht2,Jf];refine au (s2) (by first|rfl|(simp only[aH,bn,aB,aI,aA,Nat.reduceEqDiff,↓reduceIte,hF,hm,ht2,Jf];rfl)) (by simp) ?_;simp (disch:=omega) only[wt,seval,reduceCtorEq,Nat.reduceEqDiff,aC,cZ,hF,hm,ht2,Jf];refine au ((Qy (b2.rp (by omega)) hBr (jf _) (jf _))) (by first|rfl|(simp only[aH,bn,aB,aI,aA,Nat.reduceEqDiff,↓reduceIte,hF,hm,ht2,Jf];rfl)) (by simp) ?_;simp (disch:=omega) only[wt,seval,reduceCtorEq,Nat.reduceEqDiff,aC,cZ,hF,hm,ht2,Jf];refine au ((b0d (b3.rp (by omega)) (b4.rp (by omega)) (jf _) (jf _))) (by first|rfl|(simp only[aH,bn,aB,aI,aA,Nat.reduceEqDiff,↓reduceIte,hF,hm,ht2,Jf];rfl)) (by simp) ?_;simp (disch:=omega) only[wt,seval,reduceCtorEq,Nat.reduceEqDiff,aC,cZ,hF,hm,ht2,Jf];refine⟨⟨l,st5,b1V,_,_,by rw[<-hD,hstep];rfl,?_,by omega,b5.mono (a3o hK2),b6.mono (a8n hK2),by omega,rfl,rfl,rfl,rfl,rfl,rfl⟩,by omega⟩;have h1:tz R≠0:=by omega
  have h2:tz (ji (aY c R) (aY (-1) (bV (mono (tz R-tz B) (c*lc R/L)) B)))<=tz R-1:=htz;omega
 .have hout:tz R<tz B:=by omega
  simp (disch:=omega) only[wt,seval,reduceCtorEq,Nat.reduceEqDiff,aC,cZ,hF];refine bF (λf H=>∃(lft sf:Nat) (S T:List Int),uO c L B lft (S,T)=uO c L B e ([],P)/\tz T<tz B/\lft<=41/\Bd (KB lft) S/\Bd (KB lft) T/\f 14=.iv (.int .i64 lft)/\f 9=.iv (.sl (dY T))/\f 13=.iv (.sl (dY S))/\f 11=.iv (.int .i64 e)/\f 5=.hp 5 sf 0 0/\H 5=.blk false sf 29 2 [je fa]) (λf H=>(dQ f 14).toNat) ?_ ?_
  .refine⟨left,st5,Q,R,hD,hout,hle,hQ,hR,?_⟩;simp (disch:=omega) only[wt,seval,reduceCtorEq,Nat.reduceEqDiff,aC,cZ,hF]
  rintro f H ⟨lft,sf,S,T,hD,hT,hle,hQ,hR,hF⟩;rw[bC hF.1];simp (disch:=omega) only[wt,seval,reduceCtorEq,Nat.reduceEqDiff,aC,cZ,hF];refine bU (λhgt=>?_) (λhgt=>?_)
  .obtain⟨l,rfl⟩:∃l,lft=l+1:=⟨lft-1,by omega⟩;have hkb:=b1M (l+1);have hzc:zl c<=2^27:=by rw[<-hc];exact rG hf
   have hK2:=a0a l hle;have s1:=wV (q:=S) (c:=fa) (hQ.rp (by omega)) (hf.mono (by omega)) (jf _);have s2:=wV (q:=T) (c:=fa) (hR.rp (by omega)) (hf.mono (by omega)) (jf _);rw[hc]at s1 s2;have hstep:uO c L B (l+1) (S,T)=uO c L B l (aY c S,aY c T):=by
    rw[uO,if_neg (show ¬tz B<=tz (S,T).2 from Nat.not_le.2 hT)]
   have hts:=mV c T;have b1:=(Bg hQ hzc).mono (Sr hK2);have b2:=(Bg hR hzc).mono (Sr hK2);clear hK2;simp (disch:=omega) only[wt,seval,reduceCtorEq,Nat.reduceEqDiff,aC,cZ,hF];refine .inl ⟨aZ (by kernel_rfl),?_⟩;refine au (s1) (by first|rfl|(simp only[aH,bn,aB,aI,aA,Nat.reduceEqDiff,↓reduceIte,hF];rfl)) (by simp) ?_;simp (disch:=omega) only[wt,seval,reduceCtorEq,Nat.reduceEqDiff,aC,cZ,hF];refine au (s2) (by first|rfl|(simp only[aH,bn,aB,aI,aA,Nat.reduceEqDiff,↓reduceIte,hF];rfl)) (by simp) ?_;simp (disch:=omega) only[wt,seval,reduceCtorEq,Nat.reduceEqDiff,aC,cZ,hF]
   first|exact aN (by kernel_rfl)|refine⟨aN (by kernel_rfl),?_⟩
   refine⟨⟨l,sf,_,_,by rw[<-hD,hstep],by omega,by omega,b1,b2,by omega,rfl,rfl,rfl,rfl⟩,by omega⟩
  .obtain rfl:lft=0:=by omega
   simp (disch:=omega) only[wt,seval,reduceCtorEq,Nat.reduceEqDiff,aC,cZ,hF];rw[<-hD];exact⟨rfl,rfl⟩
theorem a8d {p q:List Int}(h:ps p=ps q):cont p=cont q:=by
 unfold cont lc;rw[Yr (jc h),jA (jc h),jc h]
theorem a6F {p q:List Int}(h:ps p=ps q):ps (jZ p)=ps (jZ q):=Xa λk=>by
 unfold jZ;rw[iE,iE,a8d h,jc h]
theorem a6I {a:List RI}{q:List Int}(ha:RP (2^30) (2^35) a)(eq:ps (pv a)=ps q):AC Tryz.prog 121 [cw a] none [cp (jZ q)]:=by
 have h:=a1y a ha;rwa [Ai (a6F eq)]at h
theorem Xn {a:List RI}{q:List Int}(ha:RP (2^30) (2^35) a)(eq:ps (pv a)=ps q):AC Tryz.prog 143 [cw a] none [cz (lc q)]:=by
 have h:=Qz a (ha.mono (by omega) (by omega));have e:cf (pv a) (tz (pv a)-1)=lc q:=by unfold lc;rw[jA (jc eq),jc eq]
 rwa [e]at h
def dxp (P B:List Int):Nat:=tz P+1-tz B
def dq (P B:List Int):List Int:=(uO (lc B) (lc B) B (dxp P B) ([],P)).1
def dr (P B:List Int):List Int:=(uO (lc B) (lc B) B (dxp P B) ([],P)).2
def Fg (P B:List Int):List Int:=(uO ((lc B).natAbs:Int) (lc B) B (dxp P B) ([],P)).2
theorem Xp (p q:List RI)(hq:RP 40 (2^27) q)(h0:tz (pv q)=0):AC Tryz.prog 142 [cw p,cw q] none [cw [],cw [],ci 0,ci 1]:=by
 refine AC.aF (rs:=[.tmp 4,.tmp 5,.tmp 6,.tmp 7]) bM Tryz.func142 (by rfl) (by rfl) (by rfl) (by rfl) (by rfl) ?_;simp (disch:=omega) only[wt,seval,reduceCtorEq,Nat.reduceEqDiff,aC,cZ];refine au ((wZ q (hq.mono (by omega) (by omega)))) (by first|rfl|(simp only[aH,bn,aB,aI,aA,Nat.reduceEqDiff,↓reduceIte,h0];rfl)) (by simp) ?_;simp (disch:=omega) only[wt,seval,reduceCtorEq,Nat.reduceEqDiff,aC,cZ,h0]
theorem Xq (p q:List RI)(hp:RP 40 (2^27) p)(hq:RP 40 (2^27) q)(h0:¬tz (pv q)=0):AC Tryz.prog 142 [cw p,cw q] none [cp (dq (pv p) (pv q)),cp (dr (pv p) (pv q)),ci (dxp (pv p) (pv q)),ci 0]:=by
 refine AC.aF (rs:=[.tmp 4,.tmp 5,.tmp 6,.tmp 7]) bM Tryz.func142 (by rfl) (by rfl) (by rfl) (by rfl) (by rfl) ?_;have hl:Sz (2^27) (canon (lc (pv q))):=(aW _).mono (hq.pv.cf _);have m:=YW p q (canon (lc (pv q))) hp hq hl h0 (by rw[aU];exact Int.dvd_refl _);rw[aU]at m;simp (disch:=omega) only[wt,seval,reduceCtorEq,Nat.reduceEqDiff,aC,cZ];refine au ((wZ q (hq.mono (by omega) (by omega)))) (by first|rfl|(simp only[aH,bn,aB,aI,aA,Nat.reduceEqDiff,↓reduceIte,h0];rfl)) (by simp) ?_;simp (disch:=omega) only[wt,seval,reduceCtorEq,Nat.reduceEqDiff,aC,cZ,h0];refine au ((Xn (hq.mono (by omega) (by omega)) rfl)) (by first|rfl|(simp only[aH,bn,aB,aI,aA,Nat.reduceEqDiff,↓reduceIte,h0];rfl)) (by simp) ?_;simp (disch:=omega) only[wt,seval,reduceCtorEq,Nat.reduceEqDiff,aC,cZ,h0];refine au (m) (by first|rfl|(simp only[aH,bn,aB,aI,aA,Nat.reduceEqDiff,↓reduceIte,h0];rfl)) (by simp) ?_;simp (disch:=omega) only[wt,seval,reduceCtorEq,Nat.reduceEqDiff,aC,cZ,h0];exact⟨rfl,rfl,rfl⟩
theorem a6H (p q:List RI)(hp:RP 40 (2^27) p)(hq:RP 40 (2^27) q)(h0:¬tz (pv q)=0):AC Tryz.prog 147 [cw p,cw q] none [cp (dr (pv p) (pv q)),ci 0]:=by
 refine AC.aF (rs:=[.tmp 4,.tmp 5]) bM Tryz.func147 (by rfl) (by rfl) (by rfl) (by rfl) (by rfl) ?_;simp (disch:=omega) only[wt,seval,reduceCtorEq,Nat.reduceEqDiff,aC,cZ];refine au ((Xq p q hp hq h0)) (by rfl) (by simp) ?_;simp (disch:=omega) only[wt,seval,reduceCtorEq,Nat.reduceEqDiff,aC,cZ]
theorem b0B {q r:List Int}{σ:Int}(hσ:σ=1\/σ = -1)(h:ps q=PS.C σ*ps r):tz q=tz r/\lc q=σ*lc r:=by
 have hk:∀k,cf q k=σ*cf r k:=λk=>by
  have:=congrArg (λf=>f.c k) h;simp only[zJ,PS.jW]at this;exact this
 have h1:tz q=tz r:=by
  refine Nat.le_antisymm (iC λk hk'=>by rw[hk,bW r hk',Int.mul_zero]) (iC λk hk'=>?_);have:=bW q hk';rw[hk]at this;rcases hσ with rfl|rfl<;>omega
 exact⟨h1,by unfold lc;rw[h1,hk]⟩
theorem X9 (n:Nat)(c d:Int):ps (mono n (c*d))=PS.C c*ps (mono n d):=PS.ext λk=>by
 rw[PS.jW,zJ,zJ,ug,ug];split
 .rfl
 .rw[Int.mul_zero]
theorem b1A (x y m b:PS):x*(y*m*b)=y*(x*(m*b)):=by rw[PS.mul_assoc y,<-PS.mul_assoc x y,PS.mul_comm x y,PS.mul_assoc]
theorem c_c (a b:Int)(r:PS):PS.C a*(PS.C b*r)=PS.C (a*b)*r:=by rw[<-PS.mul_assoc,<-PS.jL]
theorem Ij {c L:Int}{B:List Int}(hL0:L≠0)(hd:L∣c):∀(n:Nat) (s s':List Int×List Int) (σ:Int),(σ=1\/σ = -1)->ps s'.1=PS.C σ*ps s.1->ps s'.2=PS.C σ*ps s.2 ->
  ps (uO (-c) L B n s').2=PS.C ((-1)^n*σ)*ps (uO c L B n s).2
 |0,s,s',σ,_,_,h2=>by rw[uO,uO,Int.pow_zero,Int.one_mul];exact h2
 |n+1,s,s',σ,hσ,h1,h2=>by
  obtain⟨ht,hl⟩:=b0B hσ h2;have b3F : -σ=1\/-σ = -1:=by omega
  have e:(-1:Int)^(n+1)*σ=(-1)^n*(-σ):=by rw[Int.pow_succ,Int.mul_assoc,Int.neg_mul,Int.one_mul]
  rw[uO,uO,ht,e];split
  .rename_i hge;have hdv:L∣c*lc s.2:=Int.dvd_trans hd (Int.dvd_mul_right _ _);have hq : -c*lc s'.2/L = -σ*(c*lc s.2/L):=by
    rw[hl,show -c*(σ*lc s.2) = -σ*(c*lc s.2) by rw[Int.neg_mul,Int.neg_mul,Int.mul_left_comm],Int.mul_ediv_assoc _ hdv]
   refine Ij hL0 hd n _ _ (-σ) b3F ?_ ?_
   .show ps (ji _ _)=PS.C _*ps (ji _ _);rw[hq,gq,gq,bg,bg,h1,ht,X9,PS.mul_add,<-PS.mul_assoc,<-PS.mul_assoc,<-PS.jL,<-PS.jL]
    congr 2
    congr 1
    rw[Int.neg_mul,Int.neg_mul,Int.mul_comm]
   .show ps (ji _ _)=PS.C _*ps (ji _ _);rw[hq,gq,gq,bg,bg,bg,bg,aX,aX,h2,ht,X9,PS.mul_add,b1A];simp only[c_c];rw[show -c*σ = -σ*c by rw[Int.neg_mul,Int.neg_mul,Int.mul_comm]]
  .refine Ij hL0 hd n _ _ (-σ) b3F ?_ ?_
   .show ps (aY _ _)=PS.C _*ps (aY _ _);rw[bg,bg,h1,<-PS.mul_assoc,<-PS.mul_assoc,<-PS.jL,<-PS.jL,Int.neg_mul,Int.neg_mul,Int.mul_comm]
   .show ps (aY _ _)=PS.C _*ps (aY _ _);rw[bg,bg,h2,<-PS.mul_assoc,<-PS.mul_assoc,<-PS.jL,<-PS.jL,Int.neg_mul,Int.neg_mul,Int.mul_comm]
theorem fO {q:List Int}(h:tz q=0):ps q=0:=PS.ext λk=>bf.mp h k
theorem dX {p q:List Int}(h:ps p=ps q):tz p=tz q:=jA (jc h)
theorem jk {c:Int}(hc:c≠0)(q:List Int):tz (aY c q)=tz q:=by
 refine Nat.le_antisymm (mV c q) (iC λk hk=>?_);have:=bW (aY c q) hk;rw[dM]at this;exact(Int.mul_eq_zero.mp this).resolve_right hc
theorem Cj {S T B:List Int}(h:ps S*ps B=ps T*ps B)(hB:tz B≠0):ps S=ps T:=by
 have e:ps (bV (ji S (aY (-1) T)) B)=0:=by
  rw[aX,gq,bg,PS.oZ,PS.add_mul,PS.neg_mul,h,PS.add_neg]
 have h0:tz (bV (ji S (aY (-1) T)) B)=0:=bf.mpr λk=>congrArg (λf=>PS.c f k) e
 have h1:tz (ji S (aY (-1) T))=0:=by
  by_cases h1:tz (ji S (aY (-1) T))=0
  .exact h1
  .rw[gJ h1 hB]at h0;omega
 refine PS.ext λk=>?_;have:=bf.mp h1 k;rw[fJ,dM]at this;rw[zJ,zJ];omega
theorem SV {a:Int}(ha:a≠0){f g:PS}(h:PS.C a*f=PS.C a*g):f=g:=PS.ext λk=>by
 have:=congrArg (λf=>PS.c f k) h;simp only[PS.jW]at this;exact Int.eq_of_mul_eq_mul_left ha this
def As (A B:List Int):Prop:=∃a b:Int,a≠0/\b≠0/\PS.C a*ps A=PS.C b*ps B
theorem As.kF {A B:List Int}(h:ps A=ps B):As A B:=⟨1,1,by decide,by decide,by rw[h]⟩
theorem As.refl (A:List Int):As A A:=.kF rfl
theorem As.symm {A B:List Int}(h:As A B):As B A:=by
 obtain⟨a,b,ha,hb,e⟩:=h;exact⟨b,a,hb,ha,e.symm⟩
theorem As.trans {A B D:List Int}(h:As A B)(h2:As B D):As A D:=by
 obtain⟨a,b,ha,hb,e⟩:=h;obtain⟨a',b',ha',hb',e'⟩:=h2;refine⟨a'*a,b*b',Int.mul_ne_zero ha' ha,Int.mul_ne_zero hb hb',?_⟩;rw[PS.jL,PS.jL,PS.mul_assoc,e,PS.mul_assoc,<-e',<-PS.mul_assoc,<-PS.mul_assoc,PS.mul_comm (PS.C a')]
theorem OU {A B:List Int}(h:As A B):tz A=tz B:=by
 obtain⟨a,b,ha,hb,e⟩:=h;rw[<-jk ha A,<-jk hb B];exact dX (by rw[bg,bg,e])
theorem uj (A:List Int):As A (jZ A):=by
 by_cases h:cont A=0
 .refine .kF ?_;rw[sS A,h,PS.a5v,PS.zero_mul];exact(a6z λk=>(wX h k).1).symm
 .exact⟨1,cont A,by decide,h,by rw[PS.uT,PS.one_mul];exact sS A⟩
def Nf (A:List Int):Prop:=tz A=0\/Prm A
theorem XG (A:List Int):Nf (jZ A):=by
 by_cases h:cont A=0
 .exact .inl (bf.mpr λk=>(wX h k).1)
 .exact .inr (wW h)
theorem Xf {A:List Int}(h:Prm A):tz A≠0:=(a7h (q:=A) (by rw[h.1];decide)).1
theorem As.uniq {A B:List Int}(h:As A B)(hA:Nf A)(hB:Nf B):ps A=ps B:=by
 have ht:=OU h;rcases hA with hA|hA
 .rw[fO hA,fO (by omega)]
 rcases hB with hB|hB
 .exact absurd (by omega) (Xf hA)
 obtain⟨a,b,ha,hb,e⟩:=h;have e1:∀k,cf (aY b B) k=a*cf A k:=λk=>by
  have:=congrArg (λf=>PS.c f k) e;simp only[PS.jW,zJ]at this;rw[dM,Int.mul_comm,this]
 have e2:∀k,cf (aY b B) k=b*cf B k:=λk=>by rw[dM,Int.mul_comm]
 have c1:=Dw hA e1;have c2:=Dw hB e2;have ab:a=b:=c1.symm.trans c2;subst ab;exact SV ha e
def npr (A:List Int):List Int:=aV (jZ A)
theorem qG (A:List Int):aV (npr A)=npr A:=kD _
theorem um (A:List Int):As A (npr A):=(uj A).trans (.kF (lK _).symm)
theorem l9 (A:List Int):tz (npr A)=tz A:=(OU (um A)).symm
theorem a1U {A B:List Int}(e:ps A=ps B)(h:Nf A):Nf B:=by
 have ht:=dX e;rcases h with h|h
 .exact .inl (by omega)
 .refine .inr ⟨?_,?_⟩
  .rw[<-Yr (jc e)];exact h.1
  .have:=h.2;unfold lc at this ⊢;rwa [<-ht,<-jc e]
theorem CQ (A:List Int):Nf (npr A):=a1U (lK _).symm (XG A)
theorem a5b (A:List Int):cp (jZ A)=cp (npr A):=vg λk=>(bH _ k).symm
def Dv (B A:List Int):Prop:=∃(c:Int) (S:List Int),c≠0/\ps S*ps B=PS.C c*ps A
theorem Dv.refl (A:List Int):Dv A A:=⟨1,[1],by decide,by rw[kR,PS.uT]⟩
theorem Dv.zero {A:List Int}(B:List Int)(h:tz A=0):Dv B A:=⟨1,[],by decide,by rw[EM,fO h,PS.zero_mul,PS.mul_zero]⟩
theorem Dv.trans {D B A:List Int}(h:Dv D B)(h2:Dv B A):Dv D A:=by
 obtain⟨c,S,hc,e⟩:=h;obtain⟨d,T,hd,e2⟩:=h2;refine⟨c*d,bV T S,Int.mul_ne_zero hc hd,?_⟩;rw[aX,PS.mul_assoc,e,PS.jL,PS.mul_assoc,<-e2]
 ac_rfl
theorem Dv.mul {B A S:List Int}(h:ps A=ps S*ps B):Dv B A:=⟨1,S,by decide,by rw[PS.uT,PS.one_mul,h]⟩
theorem Dv.lin {G A B R U V:List Int}{k:Int}(h1:Dv G A)(h2:Dv G B)(hk:k≠0)(e:ps U*ps A+ps V*ps B=PS.C k*ps R):Dv G R:=by
 obtain⟨c,S,hc,e1⟩:=h1;obtain⟨d,T,hd,e2⟩:=h2;refine⟨c*d*k,ji (aY d (bV U S)) (aY c (bV V T)),Int.mul_ne_zero (Int.mul_ne_zero hc hd) hk,?_⟩;rw[gq,bg,bg,aX,aX,PS.jL,PS.mul_assoc,<-e,PS.jL,PS.add_mul,PS.mul_add];have x1:PS.C d*(ps U*ps S)*ps G=PS.C d*(ps U*(ps S*ps G)):=by ac_rfl
 have x2:PS.C c*(ps V*ps T)*ps G=PS.C c*(ps V*(ps T*ps G)):=by ac_rfl
 rw[x1,x2,e1,e2]
 congr 1<;>ac_rfl
theorem As.dv {A B:List Int}(h:As A B):Dv A B:=by
 obtain⟨a,b,ha,hb,e⟩:=h;exact⟨b,[a],hb,by rw[uI,e]⟩
theorem pO {B A:List Int}(h:Dv B A)(hA:tz A≠0):tz B≠0/\tz B<=tz A:=by
 obtain⟨c,S,hc,e⟩:=h;have ht:tz (bV S B)=tz A:=by
  rw[<-jk hc A];exact dX (by rw[aX,bg,e])
 have hS:tz S≠0:=λh0=>hA (by rw[<-ht];exact gV (.inl h0))
 have hB:tz B≠0:=λh0=>hA (by rw[<-ht];exact gV (.inr h0))
 rw[gJ hS hB]at ht;exact⟨hB,by omega⟩
theorem Dv.anti {A B:List Int}(h:Dv A B)(h2:Dv B A):As A B:=by
 by_cases hB:tz B=0
 .have hA:tz A=0:=by
   by_cases hA:tz A=0
   .exact hA
   .exact absurd hB (pO h2 hA).1
  exact .kF (by rw[fO hA,fO hB])
 have hA:=(pO h hB).1;have l1:=(pO h hB).2;have l2:=(pO h2 hA).2;obtain⟨c,S,hc,e⟩:=h;have ht:tz (bV S A)=tz B:=by
  rw[<-jk hc B];exact dX (by rw[aX,bg,e])
 have hS:tz S≠0:=λh0=>hB (by rw[<-ht];exact gV (.inl h0))
 rw[gJ hS hA]at ht;have hS1:tz S=1:=by omega
 have es:ps S=PS.C (cf S 0):=PS.ext λk=>by
  rw[zJ,PS.c_C];split
  .rename_i h;rw[h]
  .exact bW S (by omega)
 have h0:cf S 0≠0:=by have:=dS (q:=S) hS;rwa [hS1]at this
 exact⟨cf S 0,c,h0,hc,by rw[<-es,e]⟩
theorem Dv.as {B B' A A':List Int}(h:Dv B A)(hB:As B' B)(hA:As A A'):Dv B' A':=(hB.dv.trans h).trans hA.dv
structure GG (G A B:List Int):Prop where
 a:Dv G A
 b:Dv G B
 z:∃(c:Int) (U V:List Int),c≠0/\ps U*ps A+ps V*ps B=PS.C c*ps G
theorem GG.dv {G A B D:List Int}(h:GG G A B)(h1:Dv D A)(h2:Dv D B):Dv D G:=by
 obtain⟨c,U,V,hc,e⟩:=h.z;exact h1.lin h2 hc e
theorem GG.uniq {G G' A B:List Int}(h:GG G A B)(h':GG G' A B)(n:Nf G)(n':Nf G'):ps G=ps G':=((h'.dv h.a h.b).anti (h.dv h'.a h'.b)).uniq n n'
theorem GG.symm {G A B:List Int}(h:GG G A B):GG G B A:=by
 obtain⟨c,U,V,hc,e⟩:=h.z;exact⟨h.b,h.a,c,V,U,hc,by rw[PS.add_comm,e]⟩
theorem GG.zero {A B:List Int}(h:tz B=0):GG A A B:=⟨.refl A,.zero A h,1,[1],[],by decide,by rw[kR,EM,PS.zero_mul,PS.add_zero,PS.uT]⟩
theorem GG.as {G G' A A' B B':List Int}(h:GG G A B)(hG:As G G')(hA:As A A')(hB:As B B'):GG G' A' B':=by
 refine⟨h.a.as hG.symm hA,h.b.as hG.symm hB,?_⟩;obtain⟨c,U,V,hc,e⟩:=h.z;obtain⟨g,g',hg,hg',eg⟩:=hG;obtain⟨a,a',ha,ha',ea⟩:=hA;obtain⟨b,b',hb,hb',eb⟩:=hB;refine⟨c*a*b*g',aY (b*g*a') U,aY (a*g*b') V,Int.mul_ne_zero (Int.mul_ne_zero (Int.mul_ne_zero hc ha) hb) hg',?_⟩;rw[bg,bg];have x1:PS.C (b*g*a')*ps U*ps A'=PS.C a*PS.C b*PS.C g*(ps U*ps A):=by
  have:PS.C (b*g*a')*ps U*ps A'=PS.C b*PS.C g*ps U*(PS.C a'*ps A'):=by rw[PS.jL,PS.jL];ac_rfl
  rw[this,<-ea];ac_rfl
 have x2:PS.C (a*g*b')*ps V*ps B'=PS.C a*PS.C b*PS.C g*(ps V*ps B):=by
  have:PS.C (a*g*b')*ps V*ps B'=PS.C a*PS.C g*ps V*(PS.C b'*ps B'):=by rw[PS.jL,PS.jL];ac_rfl
  rw[this,<-eb];ac_rfl
 rw[x1,x2,<-PS.mul_add,e];have:PS.C (c*a*b*g')*ps G'=PS.C c*PS.C a*PS.C b*(PS.C g'*ps G'):=by rw[PS.jL,PS.jL,PS.jL];ac_rfl
 rw[this,<-eg]
 ac_rfl
theorem GG.step {G A B Q R:List Int}{c:Int}(h:GG G B R)(hc:c≠0)(e:ps Q*ps B+ps R=PS.C c*ps A):GG G A B:=by
 refine⟨h.a.lin (U:=Q) (V:=[1]) h.b hc (by rw[kR,PS.one_mul,e]),h.a,?_⟩;obtain⟨k,U,V,hk,ek⟩:=h.z;refine⟨k,aY c V,ji U (aY (-1) (bV V Q)),hk,?_⟩;rw[bg,gq,bg,aX,PS.oZ,PS.add_mul,PS.neg_mul,<-ek];have:PS.C c*ps V*ps A=ps V*ps Q*ps B+ps V*ps R:=by
  rw[show PS.C c*ps V*ps A=ps V*(PS.C c*ps A) by ac_rfl,<-e,PS.mul_add]
  congr 1
  ac_rfl
 rw[this];generalize ps V*ps Q*ps B=x;generalize ps V*ps R=y;generalize ps U*ps B=w;refine PS.ext λk=>?_;simp only[PS.OO,PS.OM];omega
theorem a4P {G A B:List Int}(h:GG G A B)(h0:tz G=0):tz A=0/\tz B=0:=by
 constructor
 .by_cases x:tz A=0
  .exact x
  .exact absurd h0 (pO h.a x).1
 .by_cases x:tz B=0
  .exact x
  .exact absurd h0 (pO h.b x).1
theorem GG.more {G A B A' K:List Int}(h:GG G A B)(e:ps A'=ps A+ps K*ps B):GG G A' B:=by
 refine⟨h.a.lin (U:=[1]) (V:=K) h.b (k:=1) (by decide) (by rw[kR,PS.one_mul,PS.uT,PS.one_mul,e]),h.b,?_⟩;obtain⟨c,U,V,hc,ec⟩:=h.z;refine⟨c,U,ji V (aY (-1) (bV U K)),hc,?_⟩;rw[gq,bg,aX,PS.oZ,e,PS.mul_add,PS.add_mul,PS.neg_mul,<-ec,<-PS.mul_assoc];generalize ps U*ps K*ps B=x;generalize ps U*ps A=y;generalize ps V*ps B=w;refine PS.ext λk=>?_;simp only[PS.OO,PS.OM];omega
theorem qK (A B:List Int):ps (dq A B)*ps B+ps (dr A B)=PS.C (lc B^dxp A B)*ps A:=by
 have h:=Ik (c:=lc B) (L:=lc B) (B:=B) (dxp A B) ([],A);have e:∀n,PS.pw (PS.C (lc B)) n=PS.C (lc B^n):=λn=>by
  induction n with
  |zero=>rw[PS.pw,Int.pow_zero,PS.uT]
  |succ n ih=>rw[PS.X8,PS.Qv,ih,Int.pow_succ,PS.jL]
 rw[e]at h;rw[dq,dr,h];show _*(ps []*ps B+ps A)=_;rw[EM,PS.zero_mul,PS.zero_add]
theorem xE {B:List Int}(h:tz B≠0):lc B≠0:=dS h
theorem zL {B:List Int}(h:tz B≠0)(n:Nat):lc B^n≠0:=Int.pow_ne_zero (xE h)
theorem vY {A B:List Int}(h:tz B≠0):tz (dr A B)<tz B:=Ii rfl h (Int.dvd_refl _) _ _ (by show tz A<tz B+dxp A B;unfold dxp;omega)
def eu:Nat->List Int->List Int->List Int
 |0,A,_=>A
 |n+1,A,B=>if tz B=0 then A else eu n B (npr (dr A B))
theorem b1a:∀(n:Nat) (A B:List Int),tz B<=n->GG (eu n A B) A B
 |0,A,B,h=>.zero (by omega)
 |n+1,A,B,h=>by
  rw[eu];split
  .rename_i h0;exact .zero h0
  .rename_i h0;have ht:=vY (A:=A) h0;have ih:=b1a n B (npr (dr A B)) (by rw[l9];omega);exact(ih.as (.refl _) (.refl _) (um _).symm).step (zL h0 _) (qK A B)
theorem b0Z:∀(n:Nat) (A B:List Int),Nf A->Nf B->Nf (eu n A B)
 |0,A,B,h,_=>h
 |n+1,A,B,h,h2=>by
  rw[eu];split
  .exact h
  .exact b0Z n B _ h2 (CQ _)
def rM (A B:List Int):List Int:=eu (tz B) (npr A) (npr B)
theorem nI (A B:List Int):GG (rM A B) A B:=(b1a (tz B) (npr A) (npr B) (by rw[l9];omega)).as (.refl _) (um A).symm (um B).symm
theorem Oj (A B:List Int):Nf (rM A B):=b0Z _ _ _ (CQ A) (CQ B)
theorem Om {A B G:List Int}(h:GG G A B)(n:Nf G):ps G=ps (rM A B):=h.uniq (nI A B) n (Oj A B)
theorem a7A {A A' B B':List Int}(hA:As A A')(hB:As B B'):ps (rM A B)=ps (rM A' B'):=Om ((nI A B).as (.refl _) hA hB) (Oj A B)
theorem YR {A B:List Int}(h:tz B≠0):Dv B A↔tz (dr A B)=0:=by
 have e:=qK A B;constructor
 .intro hd;have h1:Dv B (dr A B):=hd.lin (U:=[lc B^dxp A B]) (V:=aY (-1) (dq A B)) (.refl B) (k:=1) (by decide) (by
   rw[uI,<-e,bg,PS.oZ,PS.neg_mul,PS.uT,PS.one_mul];generalize ps (dq A B)*ps B=x;generalize ps (dr A B)=y;refine PS.ext λk=>?_;simp only[PS.OO,PS.OM];omega)
  by_cases h0:tz (dr A B)=0
  .exact h0
  .have:=(pO h1 h0).2;have:=vY (A:=A) h;omega
 .intro h0;exact⟨_,dq A B,zL h _,by rw[<-e,fO h0,PS.add_zero]⟩
def SBd (k:Nat)(q:List Int):Prop:=∀i,zl (cf q i)<=k
theorem SBd.mono {k m:Nat}{q:List Int}(h:SBd k q)(hk:k<=m):SBd m q:=λi=>Nat.le_trans (h i) hk
theorem a6j {k:Nat}{q:List Int}(h:SBd k q):SBd k (jZ q):=λi=>by
 by_cases hc:cont q=0
 .rw[(wX hc i).1,fA];omega
 .have:=Jj (qN q i);have e:cf (jZ q) i=cf q i/cont q:=iE _ _ _;rw[e];exact Nat.le_trans this (h i)
theorem BP {k:Nat}{q:List Int}(h:SBd k q):SBd k (npr q):=λi=>by
 rw[npr,bH];exact a6j h i
theorem Oz {L:Int}{B:List Int}{b:Nat}(hL:L≠0)(hB:SBd b B)(hl:zl L<=b):∀(n r:Nat) (s:List Int×List Int),SBd r s.1->SBd r s.2->SBd (r+n*(b+1)) (uO L L B n s).1/\SBd (r+n*(b+1)) (uO L L B n s).2
 |0,r,s,h1,h2=>by rw[Nat.zero_mul,Nat.add_zero];exact⟨h1,h2⟩
 |n+1,r,s,h1,h2=>by
  rw[uO];have hr:r+(n+1)*(b+1)=r+(b+1)+n*(b+1):=by rw[Nat.succ_mul];omega
  rw[hr];have sc:∀q,SBd r q->SBd (r+b) (aY L q):=λq h i=>by
   rw[dM];have:=gI (cf q i) L;have:=h i;omega
  split
  .refine Oz hL hB hl n _ _ (λi=>?_) (λi=>?_)
   .show zl (cf (ji (aY L s.1) (mono _ _)) i)<=_;rw[fJ,ug,Int.mul_ediv_cancel_left _ hL];have a1:=sc _ h1 i;have a2:zl (if i=tz s.2-tz B then lc s.2 else 0)<=r:=by
     split
     .exact h2 _
     .rw[fA];omega
    have:=nT (cf (aY L s.1) i) (if i=tz s.2-tz B then lc s.2 else 0);omega
   .show zl (cf (ji (aY L s.2) (aY (-1) (bV (mono _ _) B))) i)<=_;rw[fJ,dM (-1),qR,Int.mul_ediv_cancel_left _ hL];have a1:=sc _ h2 i;have a2:zl ((if tz s.2-tz B<=i then lc s.2*cf B (i-(tz s.2-tz B)) else 0) * -1)<=r+b:=by
     rw[Int.mul_neg,Int.mul_one,rO];split
     .have:=gI (lc s.2) (cf B (i-(tz s.2-tz B)));have h3:zl (lc s.2)<=r:=h2 _;have:=hB (i-(tz s.2-tz B));omega
     .rw[fA];omega
    have:=nT (cf (aY L s.2) i) ((if tz s.2-tz B<=i then lc s.2*cf B (i-(tz s.2-tz B)) else 0) * -1);omega
  .exact Oz hL hB hl n _ _ ((sc _ h1).mono (by omega)) ((sc _ h2).mono (by omega))
theorem KY {A B:List Int}{a b:Nat}(hB0:tz B≠0)(hA:SBd a A)(hB:SBd b B):SBd (a+dxp A B*(b+1)) (dq A B)/\SBd (a+dxp A B*(b+1)) (dr A B) :=
 Oz (xE hB0) hB (hB _) _ _ _ (λi=>by rw[gu,fA];omega) hA
def EZ (S:Nat):Nat->Nat
 |0=>S
 |1=>2*S+1
 |i+2=>2*EZ S (i+1)+EZ S i+2
theorem EZ.succ (S:Nat):∀i,EZ S i<=EZ S (i+1)
 |0=>by show S<=2*S+1;omega
 |i+1=>by show EZ S (i+1)<=2*EZ S (i+1)+EZ S i+2;omega
theorem EZ.mono (S:Nat){i j:Nat}(h:i<=j):EZ S i<=EZ S j:=by
 induction h with
 |refl=>exact Nat.le_refl _
 |step _ ih=>exact Nat.le_trans ih (EZ.succ S _)
theorem EZ.grow (S u:Nat):∀d,EZ S u+(d+2)*(EZ S (u+1)+1)<=EZ S (u+2+d)
 |0=>by show _<=2*EZ S (u+1)+EZ S u+2;omega
 |d+1=>by
  have ih:=EZ.grow S u d;have h1:EZ S (u+1)<=EZ S (u+1+d):=EZ.mono S (by omega);have e:EZ S (u+2+(d+1))=2*EZ S (u+1+d+1)+EZ S (u+1+d)+2:=by
   rw[show u+2+(d+1)=(u+1+d)+2 by omega,EZ]
  rw[show u+2+d=u+1+d+1 by omega]at ih;rw[e,show d+1+2=(d+2)+1 by omega,Nat.succ_mul];omega
structure EI (D S:Nat) (X Y:List Int):Prop where
 x:tz X<=D
 y:tz Y<=D
 s:(SBd S X/\SBd S Y)\/(tz Y<tz X/\SBd (EZ S (D-tz X)) X/\SBd (EZ S (D-tz X+1)) Y)
theorem EI.step {D S:Nat}{X Y:List Int}(h:EI D S X Y)(h0:tz Y≠0):EI D S Y (npr (dr X Y)):=by
 have ht:=vY (A:=X) h0;have hx:=h.x;have hy:=h.y;refine⟨h.y,by rw[l9];omega,.inr ⟨by rw[l9];omega,?_⟩⟩;have norm:tz Y<tz X->SBd (EZ S (D-tz X)) X->SBd (EZ S (D-tz X+1)) Y->SBd (EZ S (D-tz Y)) Y/\SBd (EZ S (D-tz Y+1)) (npr (dr X Y)):=λl a b=>by
  refine⟨b.mono (EZ.mono S (by omega)),BP ((KY h0 a b).2.mono ?_)⟩;have g:=EZ.grow S (D-tz X) (tz X-tz Y-1);rw[show tz X-tz Y-1+2=dxp X Y by unfold dxp;omega,show D-tz X+2+(tz X-tz Y-1)=D-tz Y+1 by omega]at g;exact g
 rcases h.s with ⟨a,b⟩|⟨l,a,b⟩
 .by_cases l:tz Y<tz X
  .exact norm l (a.mono (EZ.mono S (i:=0) (by omega))) (b.mono (EZ.mono S (i:=0) (by omega)))
  .refine⟨b.mono (EZ.mono S (i:=0) (by omega)),BP ((KY h0 a b).2.mono ?_)⟩;have g:EZ S 1<=EZ S (D-tz Y+1):=EZ.mono S (by omega);have e1:EZ S 1=2*S+1:=rfl;have hd:dxp X Y<=1:=by unfold dxp;omega
   have:=Nat.mul_le_mul_right (S+1) hd;omega
 .exact norm l a b
theorem EI.start {D S:Nat}{A B:List Int}(ha:tz A<=D)(hb:tz B<=D)(sa:SBd S A)(sb:SBd S B):EI D S (npr A) (npr B):=⟨by rw[l9];exact ha,by rw[l9];exact hb,.inl ⟨BP sa,BP sb⟩⟩
theorem Jh {a:Int}{K:Nat}(h:zl a<=K)(i:Nat):zl (a^i)<=i*K+1:=by
 induction i with
 |zero=>rw[Int.pow_zero];have:zl 1<=1:=dR.mpr (by decide);omega
 |succ i ih =>
  rw[Int.pow_succ];have:=gI (a^i) a;rw[Nat.succ_mul];omega
theorem PI {a:Int}(h:zl a<=2^20){i:Nat}(hi:i<=2^10):zl (a^i)<=2^31:=by
 have h1:=Jh h i;have h2:i*2^20<=2^10*2^20:=Nat.mul_le_mul_right _ hi;have h3:(2^10*2^20:Nat)=2^30:=by decide
 omega
def ev:List Int->Int->Int
 |[],_=>0
 |c::p,t=>c+t*ev p t
def pG:List Int->Int->Int->Int
 |[],_,_=>0
 |c::p,a,b=>c*b^p.length+a*pG p a b
theorem a5I {K kt:Nat}{t:Int}(ht:zl t<=kt):∀{p:List Int},(∀z∈p,zl z<=K)->zl (ev p t)<=K+p.length*(kt+1)
 |[],_=>by rw[ev,fA];omega
 |c::p,h=>by
  have ih:=a5I (p:=p) ht λz hz=>h z (List.mem_cons_of_mem _ hz)
  have h1:=nT c (t*ev p t);have h2:=gI t (ev p t);have h3:=h c (by simp);rw[ev,List.length_cons,Nat.succ_mul];omega
theorem Vl {K k:Nat}{a b:Int}(ha:zl a<=k)(hb:zl b<=k):∀{p:List Int},(∀z∈p,zl z<=K)->zl (pG p a b)<=K+p.length*(k+1)+1
 |[],_=>by rw[pG,fA];omega
 |c::p,h=>by
  have ih:=Vl (p:=p) ha hb λz hz=>h z (List.mem_cons_of_mem _ hz)
  have h1:=nT (c*b^p.length) (a*pG p a b);have h2:=gI a (pG p a b);have h3:=h c (by simp);have h4:=gI c (b^p.length);have h5:=Jh hb p.length;rw[pG,List.length_cons,Nat.succ_mul];rw[Nat.mul_succ]at ih ⊢;omega
theorem YT (q:List Int){i:Nat}(h:i<q.length):q.drop i=cf q i::q.drop (i+1):=by
 rw[List.drop_eq_getElem_cons h];simp[cf,List.getD,h]
def sdi (a:Int):List Int->List Int
 |[]=>[]
 |c::q=>ev q a::sdi a q
theorem Dj (a x:Int):∀p:List Int,ev p x=ev p a+(x-a)*ev (sdi a p) x
 |[]=>by show (0:Int)=0+(x-a)*0;omega
 |c::q=>by
  have ih:=Dj a x q;show c+x*ev q x=c+a*ev q a+(x-a)*(ev q a+x*ev (sdi a q) x);rw[ih];generalize ev q a=Q;generalize ev (sdi a q) x=E
  grind
theorem Zm (a:Int):∀(p:List Int) (k:Nat),cf p k=(if k=0 then ev p a else cf (sdi a p) (k-1))-a*cf (sdi a p) k
 |[],k=>by
  show cf [] k=(if k=0 then 0 else cf [] (k-1))-a*cf [] k;rw[gu,gu];split<;>omega
 |c::q,0=>by
  show c=c+a*ev q a-a*ev q a;omega
 |c::q,k+1=>by
  have ih:=Zm a q k;rw[if_neg (by omega),Nat.add_sub_cancel];show cf q k=cf (ev q a::sdi a q) k-a*cf (sdi a q) k;rw[ih]
  congr 1
  cases k with
  |zero=>rfl
  |succ k=>rfl
theorem Dk {a:Int}:∀{p:List Int},(∀k,cf p k=0)->ev p a=0
 |[],_=>rfl
 |c::q,h=>by
  have h0:c=0:=h 0;rw[ev,Dk (p:=q) λk=>h (k+1),h0];omega
theorem Gw {a:Int}:∀(p:List Int) {n:Nat},(∀k,n+1<=k->cf p k=0)->∀k,n<=k->cf (sdi a p) k=0
 |[],n,_,k,_=>gu k
 |c::q,0,h,0,_=>Dk λk=>h (k+1) (by omega)
 |c::q,n+1,h,0,hk=>absurd hk (by omega)
 |c::q,0,h,k+1,_=>Gw q (n:=0) (λj hj=>h (j+1) (by omega)) k (by omega)
 |c::q,n+1,h,k+1,hk=>Gw q (n:=n) (λj hj=>h (j+1) (by omega)) k (by omega)
theorem Ji {z y:Int}(hz:z≠0):zl y<=zl (z*y):=by
 have h:zl (z*y)<=zl (z*y):=Nat.le_refl _;have h1:=dR.mp h;refine dR.mpr (Nat.lt_of_le_of_lt ?_ h1);rw[Int.natAbs_mul];exact Nat.le_mul_of_pos_left _ (Int.natAbs_pos.mpr hz)
theorem VA:∀(l:List Int) (g:List Int) (m:Nat),l.Nodup->(∀k,l.length<=k->cf g k=0)->(∀a∈l,zl a<=1/\zl (ev g a)<=m)->SBd (m+4*l.length) g
 |[],g,m,_,h,_=>λi=>by rw[h i (Nat.zero_le _),fA];omega
 |a::l,g,m,hd,h,hv=>by
  have hd':=List.nodup_cons.mp hd;obtain⟨va1,va2⟩:=hv a (by simp);have ih:=VA l (sdi a g) (m+1) hd'.2 (λk hk=>Gw g (n:=l.length) (λj hj=>h j (by rw[List.length_cons];omega)) k hk) λb hb=>by
   obtain⟨vb1,vb2⟩:=hv b (by simp[hb]);refine⟨vb1,?_⟩;have hne:b-a≠0:=λe=>hd'.1 (by rw[show a=b by omega];exact hb)
   have e:=Dj a b g;have e2:(b-a)*ev (sdi a g) b=ev g b + -(ev g a):=by omega
   have h1:=Ji (y:=ev (sdi a g) b) hne;rw[e2]at h1;have h2:=nT (ev g b) (-(ev g a));rw[rO]at h2;omega
  intro i;rw[Zm a g i,Int.sub_eq_add_neg,List.length_cons];have h1:=gI a (cf (sdi a g) i);have h2:=ih i;have h3:zl (if i=0 then ev g a else cf (sdi a g) (i-1))<=m+1+4*l.length:=by
   split
   .omega
   .exact ih _
  have h4:=nT (if i=0 then ev g a else cf (sdi a g) (i-1)) (-(a*cf (sdi a g) i));rw[rO]at h4;omega
theorem JK:∀(l:List Int) (p:List Int),l.Nodup->(∀k,l.length<=k->cf p k=0)->(∀a∈l,ev p a=0)->∀k,cf p k=0
 |[],p,_,h,_,k=>h k (Nat.zero_le _)
 |a::l,p,hd,h,hv,k=>by
  have hd':=List.nodup_cons.mp hd;have va:=hv a (by simp);have ih:=JK l (sdi a p) hd'.2 (λk hk=>Gw p (n:=l.length) (λj hj=>h j (by rw[List.length_cons];omega)) k hk) λb hb=>by
   have vb:=hv b (by simp[hb]);have hne:b-a≠0:=λe=>hd'.1 (by rw[show a=b by omega];exact hb)
   have e:=Dj a b p;rw[va,vb,Int.zero_add]at e;exact(Int.mul_eq_zero.mp e.symm).resolve_left hne
  rw[Zm a p k,ih k,va];split
  .omega
  .rw[ih];omega
theorem F7 {α:Type}(f:α->Bool):∀l:List α,(l.filter f).length+(l.filter λx=>!f x).length=l.length
 |[]=>rfl
 |x::l=>by
  have ih:=F7 f l;cases hx:f x<;>simp[hx]<;>omega
def a4J (n:Nat):List Int:=(List.range n).map λ(i:Nat)=>(i:Int)
theorem EU (n:Nat):(a4J n).Nodup:=by
 unfold a4J;refine List.Pairwise.map _ (λa b (h:a≠b)=>?_) List.nodup_range;intro e;exact h (Int.ofNat.inj e)
theorem b0c {p:List Int}{n:Nat}(h0:tz p≠0)(hn:tz p<=n)(hn2:n<=10000):∃l:List Int,l.Nodup/\n<=l.length/\l.length<=2*n/\∀a∈l,zl a<=1/\ev p a≠0:=by
 have hl:(a4J (2*n)).length=2*n:=by simp[a4J]
 have h2:=F7 (λa=>decide (ev p a=0)) (a4J (2*n));have hr:((a4J (2*n)).filter λa=>decide (ev p a=0)).length<n:=by
  refine Nat.lt_of_not_le λhge=>h0 (bf.mpr ?_);exact JK ((a4J (2*n)).filter λa=>decide (ev p a=0)) p ((EU _).filter _) (λk hk=>bW p (by omega)) λa ha=>by
   have:=(List.mem_filter.mp ha).2;simpa using this
 refine⟨(a4J (2*n)).filter λa=>!decide (ev p a=0),(EU _).filter _,by omega,by omega,λa ha=>?_⟩;obtain⟨m1,m2⟩:=List.mem_filter.mp ha;refine⟨?_,by simpa using m2⟩;obtain⟨i,hi,rfl⟩:=List.mem_map.mp m1;have:=List.mem_range.mp hi;refine dR.mpr ?_;rw[Nat.pow_one,Int.natAbs_natCast];simp only[W];omega
theorem F9 {p q:List Int}(a:Int)(h:∀k,cf p k=cf q k):ev p a=ev q a:=by
 have key:∀p q:List Int,(∀k,cf p k=cf q k)->ev p a=ev q a:=by
  intro p
  induction p with
  |nil=>intro q hq;exact(Dk λk=>by rw[<-hq];exact gu k).symm
  |cons c p ih =>
   intro q hq;cases q with
   |nil=>exact Dk λk=>hq k
   |cons d q =>
    have h0:c=d:=hq 0;rw[ev,ev,ih q λk=>hq (k+1),h0]
 exact key p q h
theorem a7N (a:Int):∀p q:List Int,ev (ji p q) a=ev p a+ev q a:=by
 intro p
 induction p with
 |nil =>
  intro q;rw[F9 (p:=ji [] q) (q:=q) a λk=>by rw[fJ,gu,Int.zero_add]];show _=0+_;omega
 |cons c p ih =>
  intro q;cases q with
  |nil =>
   rw[F9 (p:=ji (c::p) []) (q:=c::p) a λk=>by rw[fJ,gu,Int.add_zero]];show _=_+0;omega
  |cons d q =>
   rw[F9 (p:=ji (c::p) (d::q)) (q:=(c+d)::ji p q) a λk=>by
    cases k with
    |zero=>rw[fJ];rfl
    |succ k=>rw[fJ];exact(fJ p q k).symm]
   rw[ev,ev,ev,ih,Int.mul_add];omega
theorem YF (a c:Int)(p:List Int):ev (aY c p) a=ev p a*c:=by
 induction p with
 |nil=>show (0:Int)=0*c;omega
 |cons x p ih =>
  show x*c+a*ev (aY c p) a=(x+a*ev p a)*c;rw[ih,Int.add_mul,Int.mul_assoc]
theorem a7M (a:Int):∀p q:List Int,ev (bV p q) a=ev p a*ev q a:=by
 intro p
 induction p with
 |nil =>
  intro q;rw[Dk λk=>by rw[dZ];rfl];show (0:Int)=0*_;omega
 |cons x p ih =>
  intro q;rw[F9 (p:=bV (x::p) q) (q:=ji (aY x q) (0::bV p q)) a λk=>by
   rw[eH,fJ,dM,Int.mul_comm]
   congr 1
   cases k with
   |zero=>rfl
   |succ k=>rfl]
  rw[a7N,YF];show _+(0+a*ev (bV p q) a)=(x+a*ev p a)*ev q a;rw[ih,Int.add_mul,Int.mul_comm x,Int.mul_assoc];omega
theorem KW {p g s:List Int}{n S:Nat}(h0:tz p≠0)(hn:tz p<=n)(hn2:n<=10000)(hS:SBd S p)(e:ps s*ps g=ps p):SBd (S+10*n) g:=by
 obtain⟨l,l1,l2,l3,l4⟩:=b0c h0 hn hn2;have ht:tz (bV s g)=tz p:=dX (by rw[aX,e]);have hs:tz s≠0:=λh=>h0 (by rw[<-ht];exact gV (.inl h))
 have hg:tz g≠0:=λh=>h0 (by rw[<-ht];exact gV (.inr h))
 rw[gJ hs hg]at ht;refine SBd.mono (VA l g (S+2*n) l1 (λk hk=>bW g (by omega)) λa ha=>⟨(l4 a ha).1,?_⟩) (by omega);have h1:ev p a=ev s a*ev g a:=by
  rw[<-a7M];exact F9 a (jc (by rw[aX,e]))
 have h2:ev s a≠0:=λh=>(l4 a ha).2 (by rw[h1,h,Int.zero_mul])
 have h3:=Ji (y:=ev g a) h2;rw[<-h1]at h3;have h4:zl (ev p a)<=S+2*n:=by
  rw[F9 (p:=p) (q:=aV p) a λk=>(bH p k).symm];have h5:=a5I (l4 a ha).1 (K:=S) (p:=aV p) λz hz=>by
   obtain⟨i,hi,rfl⟩:=List.getElem_of_mem hz;have:=hS i;rw[<-bH p i]at this;simpa [cf,List.getD,hi] using this
  rw[bI]at h5;omega
 omega
theorem YQ {g p:List Int}(hg:Prm g)(h:Dv g p):∃s,ps s*ps g=ps p:=by
 obtain⟨c,S,hc,e⟩:=h;have hc1:cont (aY c p)=cont S:=by
  have h1:cont (bV S g)=cont (aY c p):=by
   have e2:∀k,cf (bV S g) k=cf (aY c p) k:=jc (by rw[aX,bg,e]);unfold cont lc;rw[Yr e2,jA e2,e2]
  rw[<-h1,a2X,(a1x hg).1,Int.mul_one]
 have hd:∀k,c∣cf S k:=λk=>by
  have h1:c∣cont S:=by
   rw[<-hc1];refine Int.dvd_natAbs.mp ?_;rw[jC];refine Int.natAbs_dvd.mp (Int.natCast_dvd_natCast.mpr ?_);exact fU _ _ λk=>by
    rw[dM];exact Int.natAbs_dvd.mpr (Int.dvd_mul_left _ _)
  exact Int.dvd_trans h1 (qN S k)
 refine⟨Cm c S,SV hc ?_⟩;rw[<-PS.mul_assoc,<-e]
 congr 1
 refine PS.ext λk=>?_;rw[PS.jW,zJ,zJ,iE,Int.mul_ediv_cancel' (hd k)]
theorem b0u {A:List Int}(h:Nf A)(h0:tz A≠0):Prm A:=h.resolve_left h0
theorem b1g {p g:List Int}{n S:Nat}(h0:tz p≠0)(hn:tz p<=n)(hn2:n<=10000)(hS:SBd S p)(hg:Nf g)(h:Dv g p):SBd (S+10*n) g:=by
 obtain⟨s,e⟩:=YQ (b0u hg (pO h h0).1) h;exact KW h0 hn hn2 hS e
def er:List Int->Rat->Rat
 |[],_=>0
 |c::p,x=>(c:Rat)+x*er p x
theorem kH {x:Rat}:∀{p:List Int},(∀k,cf p k=0)->er p x=0
 |[],_=>rfl
 |c::p,h=>by
  have h0:c=0:=h 0;rw[er,kH λk=>h (k+1),h0]
  grind
theorem nM {p q:List Int}(x:Rat)(h:∀k,cf p k=cf q k):er p x=er q x:=by
 induction p generalizing q with
 |nil=>exact(kH λk=>by rw[<-h];exact gu k).symm
 |cons c p ih =>
  cases q with
  |nil=>exact kH λk=>h k
  |cons d q =>
   have h0:c=d:=h 0;rw[er,er,ih λk=>h (k+1),h0]
theorem o8 {p q:List Int}(h:ps p=ps q)(x:Rat):er p x=er q x:=nM x (jc h)
theorem zk (x:Rat):∀p q:List Int,er (ji p q) x=er p x+er q x:=by
 intro p
 induction p with
 |nil =>
  intro q;rw[nM (p:=ji [] q) (q:=q) x λk=>by rw[fJ,gu,Int.zero_add]];simp only[er];grind
 |cons c p ih =>
  intro q;cases q with
  |nil =>
   rw[nM (p:=ji (c::p) []) (q:=c::p) x λk=>by rw[fJ,gu,Int.add_zero]];simp only[er];grind
  |cons d q =>
   rw[nM (p:=ji (c::p) (d::q)) (q:=(c+d)::ji p q) x λk=>by
    cases k with
    |zero=>rw[fJ];rfl
    |succ k=>rw[fJ];exact(fJ p q k).symm]
   simp only[er,ih,Rat.intCast_add]
   grind
theorem iF (x:Rat)(c:Int)(p:List Int):er (aY c p) x=er p x*c:=by
 induction p with
 |nil=>show (0:Rat)=0*c;grind
 |cons y p ih =>
  show ((y*c:Int):Rat)+x*er (aY c p) x=(y+x*er p x)*c;rw[ih,Rat.intCast_mul];grind
theorem gU (x:Rat):∀p q:List Int,er (bV p q) x=er p x*er q x:=by
 intro p
 induction p with
 |nil =>
  intro q;rw[kH λk=>by rw[dZ];rfl];show (0:Rat)=0*_
  grind
 |cons y p ih =>
  intro q;rw[nM (p:=bV (y::p) q) (q:=ji (aY y q) (0::bV p q)) x λk=>by
   rw[eH,fJ,dM,Int.mul_comm]
   congr 1
   cases k with
   |zero=>rfl
   |succ k=>rfl]
  rw[zk,iF];simp only[er,ih,Rat.intCast_zero]
  grind
theorem KN:∀p:List Int,LB (er p)
 |[]=>LB.const 0
 |c::p=>(LB.const c).add (LB.id.mul (KN p))
theorem YH {p q r:List Int}(h:ps p=ps q*ps r)(x:Rat):er p x=er q x*er r x:=by
 rw[<-gU];exact o8 (by rw[aX,h]) x
theorem a7R {p q:List Int}{c:Int}(h:ps p=PS.C c*ps q)(x:Rat):er p x=c*er q x:=by
 rw[o8 (q:=aY c q) (by rw[h,bg]),iF];grind
theorem a4U {a q b r:List Int}{c:Int}(h:ps q*ps b+ps r=PS.C c*ps a)(x:Rat):c*er a x=er q x*er b x+er r x:=by
 have h1:ps (ji (bV q b) r)=PS.C c*ps a:=by rw[gq,aX,h]
 rw[<-a7R h1 x,zk,gU]
theorem KX {p q r:List Int}(h:ps p=ps q*ps r)(x:Rat):er (aP p) x=er (aP q) x*er r x+er q x*er (aP r) x:=by
 have:ps (aP p)=ps (ji (bV (aP q) r) (bV q (aP r))):=by
  rw[gq,aX,aX,dL,dL,dL,h];exact PS.UW _ _
 rw[o8 this,zk,gU,gU]
def Fac (p:List Int)(r:Rat)(m:Nat):Prop:=∃A A':Rat->Rat,LB A/\LB A'/\A r≠0/\∀x,er p x=(x-r)^m*A x/\(x-r)*er (aP p) x=(x-r)^m*(m*A x+(x-r)*A' x)
theorem Az (x:Rat)(m:Nat):∀k,x^(m+k)=x^m*x^k
 |0=>by rw[Nat.add_zero,Rat.pow_zero,Rat.mul_one]
 |k+1=>by rw[<-Nat.add_assoc,Rat.pow_succ,Rat.pow_succ,Az x m k,Rat.mul_assoc]
theorem Fac.mul {p q s:List Int}{r:Rat}{m k:Nat}(h:ps s=ps p*ps q)(hp:Fac p r m)(hq:Fac q r k):Fac s r (m+k):=by
 obtain⟨A,A',a1,a2,a3,a4⟩:=hp;obtain⟨B,B',b1,b2,b3,b4⟩:=hq;refine⟨λx=>A x*B x,λx=>A' x*B x+A x*B' x,a1.mul b1,(a2.mul b1).add (a1.mul b2),?_,λx=>?_⟩
 .rcases iD a3 with u|u<;>rcases iD b3 with v|v
  .have:=Rat.mul_pos u v;grind
  .have:=Rat.mul_pos u (show 0 < -B r by grind);grind
  .have:=Rat.mul_pos (show 0 < -A r by grind) v;grind
  .have:=Rat.mul_pos (show 0 < -A r by grind) (show 0 < -B r by grind);grind
 .obtain⟨e1,e2⟩:=a4 x;obtain⟨f1,f2⟩:=b4 x;refine⟨by rw[YH h,e1,f1,Az];grind,?_⟩;rw[KX h,Az];have c:((m+k:Nat):Rat)=(m:Rat)+(k:Rat):=Rat.natCast_add m k;rw[c];have:(x-r)*(er (aP p) x*er q x+er p x*er (aP q) x)=(x-r)*er (aP p) x*er q x+er p x*((x-r)*er (aP q) x):=by grind
  rw[this,e2,f2,e1,f1]
  grind
def BA (f:Rat->Rat)(s t:Rat):Prop:=∃e,0<e/\∀x,s<=x->x<=t->Big e (f x)
theorem BA.mul {f g:Rat->Rat}{s t:Rat}(hf:BA f s t)(hg:BA g s t):BA (λx=>f x*g x) s t:=by
 obtain⟨e,he,h1⟩:=hf;obtain⟨d,hd,h2⟩:=hg;refine⟨e*d,Rat.mul_pos he hd,λx a b=>?_⟩;rcases h1 x a b with u|u<;>rcases h2 x a b with v|v
 .left
  have:=Rat.mul_nonneg (show 0<=f x-e by grind) (show 0<=g x by grind);have:=Rat.mul_nonneg (show 0<=e by grind) (show 0<=g x-d by grind)
  grind
 .right
  have:=Rat.mul_nonneg (show 0<=f x-e by grind) (show 0<=-g x by grind);have:=Rat.mul_nonneg (show 0<=e by grind) (show 0<=-g x-d by grind)
  grind
 .right
  have:=Rat.mul_nonneg (show 0<=-f x-e by grind) (show 0<=g x by grind);have:=Rat.mul_nonneg (show 0<=e by grind) (show 0<=g x-d by grind)
  grind
 .left
  have:=Rat.mul_nonneg (show 0<=-f x-e by grind) (show 0<=-g x by grind);have:=Rat.mul_nonneg (show 0<=e by grind) (show 0<=-g x-d by grind)
  grind
theorem BA.sign {f:Rat->Rat}(hf:LB f){s t:Rat}(hst:s<=t)(h:BA f s t):0<f s*f t:=by
 obtain⟨e,he,hb⟩:=h;obtain⟨M,m1,m2⟩:∃M:Rat,-M<=s/\t<=M:=by
  rcases Rat.le_total (a:=-s) (b:=t) with h|h
  .exact⟨t,by grind,by grind⟩
  .exact⟨-s,by grind,by grind⟩
 obtain⟨d,hd,near⟩:=a8a hf M he;have step:∀(n:Nat) (a b:Rat),s<=a->a<=b->b<=t->b-a<=n*d->0<f a*f b:=by
  intro n
  induction n with
  |zero=>intro a b h1 h2 h3 h4;exact near a b (by grind) h2 (by grind) (by grind) (hb a h1 (by grind)) b h2 Rat.le_refl
  |succ n ih =>
   intro a b h1 h2 h3 h4;by_cases hs:b-a<=d
   .exact near a b (by grind) h2 (by grind) hs (hb a h1 (by grind)) b h2 Rat.le_refl
   .have e1:=near a (a+d) (by grind) (by grind) (by grind) (by grind) (hb a h1 (by grind)) (a+d) (by grind) Rat.le_refl;have e2:=ih (a+d) b (by grind) (by grind) h3 (by grind);rcases jS e1 with ⟨u,v⟩|⟨u,v⟩<;>rcases jS e2 with ⟨u',v'⟩|⟨u',v'⟩
    .exact Rat.mul_pos u v'
    .grind
    .grind
    .have:=Rat.mul_pos (show 0 < -f a by grind) (show 0 < -f b by grind);grind
 obtain⟨n,hn⟩:=b5N d (t-s) hd;exact step n s t Rat.le_refl hst Rat.le_refl hn
theorem LB.IU {f g:Rat->Rat}(hf:LB f)(hg:LB g){r:Rat}(h:∀x,x≠r->f x=g x):f r=g r:=by
 have hd:=hf.sub hg;by_cases h0:f r-g r=0
 .grind
 .exfalso
  obtain⟨M,m1,m2⟩:∃M:Rat,-M<=r/\r+1<=M:=by
   rcases Rat.le_total (a:=-r) (b:=r+1) with h|h
   .exact⟨r+1,by grind,by grind⟩
   .exact⟨-r,by grind,by grind⟩
  have key:∀e:Rat,0<e->Big e (f r-g r)->False:=λe he hb=>by
   obtain⟨d,hd0,near⟩:=a8a hd M he;obtain⟨d',hd1,d1,d2⟩:∃c:Rat,0<c/\c<=d/\c<=1:=by
    rcases Rat.le_total (a:=d) (b:=1) with h|h
    .exact⟨d,hd0,Rat.le_refl,h⟩
    .exact⟨1,by grind,h,Rat.le_refl⟩
   have this:0<(f r-g r)*(f (r+d')-g (r+d')):=near r (r+d') m1 (by grind) (by grind) (by grind) hb (r+d') (by grind) Rat.le_refl;rw[h (r+d') (by grind)]at this
   grind
  rcases iD h0 with u|u
  .exact key _ u (.inl Rat.le_refl)
  .exact key (-(f r-g r)) (by grind) (.inr (by grind))
def spos (A:List Int):List Int:=aV (Cm ((cont A).natAbs:Int) A)
theorem qB (A:List Int):ps A=PS.C ((cont A).natAbs:Int)*ps (spos A):=PS.ext λk=>by
 have hd:((cont A).natAbs:Int)∣cf A k:=Int.natAbs_dvd.2 (qN A k);rw[PS.jW,zJ,zJ,spos,bH,iE,Int.mul_ediv_cancel' hd]
theorem BM (A:List Int):aV (spos A)=spos A:=kD _
theorem pR {A:List Int}(h:cont A=0):tz A=0:=bf.mpr λk=>by
 have:=qN A k;rw[h]at this;exact Int.zero_dvd.mp this
theorem o9 (A:List Int):tz (spos A)=tz A:=by
 by_cases h:cont A=0
 .have h0:=pR h;rw[h0];refine bf.mpr λk=>?_;rw[spos,bH,iE,h,bf.mp h0 k];rfl
 .have e:=qB A;have e2:ps A=ps (aY ((cont A).natAbs:Int) (spos A)):=by rw[bg];exact e
  rw[dX e2,jk (by omega)]
theorem Il (A B:List Int):∃Q,ps Q*ps B+ps (Fg A B)=PS.C (((lc B).natAbs:Int)^dxp A B)*ps A:=by
 refine⟨(uO ((lc B).natAbs:Int) (lc B) B (dxp A B) ([],A)).1,?_⟩;have h:=Ik (c:=((lc B).natAbs:Int)) (L:=lc B) (B:=B) (dxp A B) ([],A);have e:∀(c:Int) n,PS.pw (PS.C c) n=PS.C (c^n):=λc n=>by
  induction n with
  |zero=>rw[PS.pw,Int.pow_zero,PS.uT]
  |succ n ih=>rw[PS.X8,PS.Qv,ih,Int.pow_succ,PS.jL]
 rw[e]at h;rw[Fg,h];show _*(ps []*ps B+ps A)=_;rw[EM,PS.zero_mul,PS.zero_add]
theorem OA {A B:List Int}(h:tz B≠0):tz (Fg A B)<tz B:=Ii rfl h (Int.dvd_natAbs.2 (Int.dvd_refl _)) _ _ (by show tz A<tz B+dxp A B;unfold dxp;omega)
def snx (X Y:List Int):List Int:=spos (aY (-1) (Fg X Y))
def srl:Nat->List Int->List Int->List (List Int)
 |0,X,_=>[X]
 |n+1,X,Y=>if tz Y=0 then [X] else X::srl n Y (snx X Y)
def sla:Nat->List Int->List Int->List Int
 |0,X,_=>X
 |n+1,X,Y=>if tz Y=0 then X else sla n Y (snx X Y)
theorem Jv {X Y:List Int}:tz (snx X Y)=tz (Fg X Y):=by
 rw[snx,o9];exact jk (by decide) _
theorem a9M (X Y:List Int):∃(Q:List Int) (a k:Int),0<=k/\(tz Y≠0->0<a)/\(tz (snx X Y)≠0->0<k)/\∀x,(a:Rat)*er X x=er Q x*er Y x-(k:Rat)*er (snx X Y) x:=by
 obtain⟨Q,hQ⟩:=Il X Y;have e:=qB (aY (-1) (Fg X Y));refine⟨Q,((lc Y).natAbs:Int)^dxp X Y,((cont (aY (-1) (Fg X Y))).natAbs:Int),Int.natCast_nonneg _,λh=>Int.pow_pos (by have:=xE h;omega),λh=>?_,λx=>?_⟩
 .have:cont (aY (-1) (Fg X Y))≠0:=λh0=>h (by
   have:=pR h0;rw[snx,o9];exact this)
  omega
 .have h1:=a4U hQ x;have h2:=a7R (c:=((cont (aY (-1) (Fg X Y))).natAbs:Int)) (p:=aY (-1) (Fg X Y)) (q:=snx X Y) e x;rw[iF]at h2;rw[h1];have h3:((-1:Int):Rat) = -1:=by rfl
  rw[h3]at h2
  grind
theorem wH {n:Nat}{X Y:List Int}(h:tz Y=0):srl n X Y=[X]/\sla n X Y=X:=by
 cases n with
 |zero=>exact⟨rfl,rfl⟩
 |succ n=>rw[srl,sla,if_pos h,if_pos h];exact⟨rfl,rfl⟩
theorem Wi:∀(n:Nat) (X Y:List Int),tz Y<=n->∃(f:Rat->Rat) (l:List (Rat->Rat)),Ch (f::l)/\(∀x,(srl n X Y).map (λp=>er p x)=(f::l).map λh=>er (sla n X Y) x*h x)/\(∀x,er X x=er (sla n X Y) x*f x)/\(tz Y≠0->∃g l',l=g::l'/\∀x,er Y x=er (sla n X Y) x*g x)
 |0,X,Y,h=>by
  rw[(wH (by omega)).1,(wH (by omega)).2];exact⟨λ_=>1,[],.one λ_=>rfl,λx=>by simp,λx=>by grind,λh0=>by omega⟩
 |n+1,X,Y,h=>by
  by_cases h0:tz Y=0
  .rw[(wH h0).1,(wH h0).2];exact⟨λ_=>1,[],.one λ_=>rfl,λx=>by simp,λx=>by grind,λh1=>(h1 h0).elim⟩
  .have ht:tz (snx X Y)<=n:=by rw[Jv];have:=OA (A:=X) h0;omega
   obtain⟨g,l,hc,hm,hy,hz⟩:=Wi n Y (snx X Y) ht;obtain⟨Q,a,k,k0,ha,hk,e⟩:=a9M X Y;have ha:=ha h0;have ha':(0:Rat)<a:=by exact_mod_cast ha
   have hi:(a:Rat)*(a:Rat)⁻¹=1:=Rat.mul_inv_cancel _ (by grind);have hip:0<(a:Rat)⁻¹:=Rat.inv_pos.2 ha';rw[srl,sla,if_neg h0,if_neg h0];have lq:LB λx=>(a:Rat)⁻¹*er Q x:=(KN Q).smul _
   by_cases hs:tz (snx X Y)=0
   .have hl:=(wH (n:=n) (X:=Y) hs);have lz:l=[]:=by
     have:=congrArg List.length (hm 0);rw[hl.1]at this;simpa using this.symm
    subst lz;have hg1:∀x,g x=1:=by cases hc;assumption
    have hxx:∀x,er X x=er (sla n Y (snx X Y)) x*((a:Rat)⁻¹*er Q x):=λx=>by
     have e1:=e x;rw[kH (p:=snx X Y) λj=>bf.mp hs j]at e1;rw[hl.2]
     grind
    refine⟨λx=>(a:Rat)⁻¹*er Q x,[g],.two lq hg1,λx=>?_,hxx,λ_=>⟨g,[],rfl,hy⟩⟩;rw[List.map_cons,hm x,List.map_cons,List.map_cons,hxx x];rfl
   .obtain⟨h',l',rfl,hz2⟩:=hz hs;have hk':(0:Rat)<k:=by exact_mod_cast hk hs
    have lf:LB λx=>(a:Rat)⁻¹*er Q x*g x-(a:Rat)⁻¹*k*h' x:=(lq.mul hc.lb).sub ((by cases hc with|two _ hg=>exact(LB.const 1).congr hg|more _ _ _ _ _ _ t=>exact t.lb:LB h').smul _)
    have hxx:∀x,er X x=er (sla n Y (snx X Y)) x*((a:Rat)⁻¹*er Q x*g x-(a:Rat)⁻¹*k*h' x):=λx=>by
     have e1:=e x;have e2:=hy x;have e3:=hz2 x;have e4:er X x=(a:Rat)⁻¹*((a:Rat)*er X x):=by grind
     rw[e4,e1,e2,e3]
     grind
    refine⟨_,g::h'::l',.more lf _ _ lq (Rat.mul_pos hip hk') (λx=>rfl) hc,λx=>?_,hxx,λ_=>⟨g,_,rfl,hy⟩⟩;rw[List.map_cons,hm x,List.map_cons,List.map_cons (l:=g::h'::l'),hxx x];rfl
theorem within (s t:Rat):∃M:Rat,-M<=s/\s<=M/\-M<=t/\t<=M:=by
 rcases Rat.le_total (a:=0) (b:=s) with h1|h1<;>rcases Rat.le_total (a:=0) (b:=t) with h2|h2
 .exact⟨s+t,by grind,by grind,by grind,by grind⟩
 .exact⟨s-t,by grind,by grind,by grind,by grind⟩
 .exact⟨t-s,by grind,by grind,by grind,by grind⟩
 .exact⟨-s-t,by grind,by grind,by grind,by grind⟩
theorem a1V {f:Rat->Rat}(hf:LB f){r:Rat}(h:0<f r):∃d,0<d/\∀x,r-d<=x->x<=r+d->0<f x:=by
 obtain⟨M,m1,m2,m3,m4⟩:=within (r-1) (r+1);obtain⟨K,L,k0,l0,-,hL⟩:=hf M;have hi:=Rat.inv_pos.2 (show 0<L+1 by grind);have hone:(L+1)*(L+1)⁻¹=1:=Rat.mul_inv_cancel _ (by grind);have hu:0<f r*(1/2)*(L+1)⁻¹:=Rat.mul_pos (by grind) hi;obtain⟨d,d0,d1,d2⟩:∃d:Rat,0<d/\d<=f r*(1/2)*(L+1)⁻¹/\d<=1:=by
  rcases Rat.le_total (a:=f r*(1/2)*(L+1)⁻¹) (b:=1) with h|h
  .exact⟨_,hu,Rat.le_refl,h⟩
  .exact⟨1,by grind,h,Rat.le_refl⟩
 have hd:L*d<f r:=by
  have e6:(L+1)*(f r*(1/2)*(L+1)⁻¹)=f r*(1/2):=by
   rw[show (L+1)*(f r*(1/2)*(L+1)⁻¹)=(L+1)*(L+1)⁻¹*(f r*(1/2)) by grind,hone];grind
  have:=Rat.mul_nonneg (show 0<=L+1 by grind) (show 0<=f r*(1/2)*(L+1)⁻¹-d by grind)
  grind
 refine⟨d,d0,λx h1 h2=>?_⟩;rcases Rat.le_total (a:=r) (b:=x) with h|h
 .have:=hL r x (by grind) h (by grind);have:=Rat.mul_nonneg l0 (show 0<=d-(x-r) by grind)
  grind
 .have:=hL x r (by grind) h (by grind);have:=Rat.mul_nonneg l0 (show 0<=d-(r-x) by grind)
  grind
theorem BA.Xy {u f:Rat->Rat}(hu:LB u){s t:Rat}(h:BA (λx=>u x*f x) s t):BA f s t:=by
 obtain⟨e,he,hb⟩:=h;obtain⟨M,m1,m2,m3,m4⟩:=within s t;obtain⟨K,L,k0,l0,hK,-⟩:=hu M;have hi:=Rat.inv_pos.2 (show 0<K+1 by grind);have hone:(K+1)*(K+1)⁻¹=1:=Rat.mul_inv_cancel _ (by grind);have hd:0<e*(K+1)⁻¹:=Rat.mul_pos he hi;refine⟨e*(K+1)⁻¹,hd,λx h1 h2=>?_⟩;by_cases hx:Big (e*(K+1)⁻¹) (f x)
 .exact hx
 .exfalso
  have hf : -(e*(K+1)⁻¹)<=f x/\f x<=e*(K+1)⁻¹:=by unfold Big at hx;constructor<;>grind
  have q:=hK x (by grind) (by grind);have m:=KE q.1 q.2 hf.1 hf.2;have e1:K*(e*(K+1)⁻¹)=e-e*(K+1)⁻¹:=by
   have:(K+1)*(e*(K+1)⁻¹)=e:=by
    rw[show (K+1)*(e*(K+1)⁻¹)=(K+1)*(K+1)⁻¹*e by grind,hone];grind
   grind
  rcases hb x h1 h2 with h|h<;>grind
theorem ND {x:Rat}(h:x≠0):∀m:Nat,x^m≠0
 |0=>by rw[Rat.pow_zero];grind
 |m+1=>by
  rw[Rat.pow_succ];have h1:=ND h m;rcases iD h1 with u|u<;>rcases iD h with v|v
  .have:=Rat.mul_pos u v;grind
  .have:=Rat.mul_pos u (show 0 < -x by grind);grind
  .have:=Rat.mul_pos (show 0 < -x^m by grind) v;grind
  .have:=Rat.mul_pos (show 0 < -x^m by grind) (show 0 < -x by grind);grind
theorem iM {a b c:Rat}(h:a≠0)(e:a*b=a*c):b=c:=by
 have h1:a⁻¹*a=1:=Rat.inv_mul_cancel _ h;have:a⁻¹*(a*b)=a⁻¹*(a*c):=by rw[e]
 rw[<-Rat.mul_assoc,<-Rat.mul_assoc,h1,Rat.one_mul,Rat.one_mul]at this;exact this
structure J9 (P:List Int) (rs:List Rat):Prop where
 nd:rs.Nodup
 fac:∀r∈rs,∃m,0<m/\Fac P r m
 off:∀s t,s<=t->(∀r∈rs,¬(s<=r/\r<=t))->BA (er P) s t
theorem cross {P:List Int}{r:Rat}{m:Nat}(hm:0<m)(hF:Fac P r m){f g u:Rat->Rat}(lf:LB f)(lg:LB g){k k':Rat}(hk:0<k)(hk':0<k')(e1:∀x,er P x=k*(u x*f x))(e2:∀x,er (aP P) x=k'*(u x*g x)) :
  ∃A A':Rat->Rat,LB A/\LB A'/\A r≠0/\(∀x,er P x=(x-r)^m*A x)/\∀x,(x-r)*(k'*(A x*g x))=k*(m*A x+(x-r)*A' x)*f x:=by
 obtain⟨A,A',a1,a2,a3,a4⟩:=hF;refine⟨A,A',a1,a2,a3,λx=>(a4 x).1,?_⟩;have off:∀x,x≠r->(x-r)*(k'*(A x*g x))=k*(m*A x+(x-r)*A' x)*f x:=λx hx=>by
  obtain⟨b1,b2⟩:=a4 x;refine iM (ND (show x-r≠0 by grind) m) ?_;have c1:=e1 x;have c2:=e2 x;have:(x-r)^m*((x-r)*(k'*(A x*g x)))=(x-r)*k'*g x*er P x:=by rw[b1];grind
  rw[this,c1];have:(x-r)^m*(k*(m*A x+(x-r)*A' x)*f x)=k*f x*((x-r)*er (aP P) x):=by rw[b2];grind
  rw[this,c2]
  grind
 have lx:LB λx=>x-r:=LB.id.sub (LB.const r)
 have l1:LB λx=>(x-r)*(k'*(A x*g x)):=lx.mul ((a1.mul lg).smul k')
 have l2:LB λx=>k*(m*A x+(x-r)*A' x)*f x:=(((a1.smul (m:Rat)).add (lx.mul a2)).smul k).mul lf
 intro x;by_cases hx:x=r
 .subst hx;exact LB.IU l1 l2 off
 .exact off x hx
theorem a9S {P:List Int}{rs:List Rat}(hR:J9 P rs){f g u:Rat->Rat}{l:List (Rat->Rat)}(lu:LB u){k k':Rat}(hk:0<k)(hk':0<k')(e1:∀x,er P x=k*(u x*f x))(e2:∀x,er (aP P) x=k'*(u x*g x))(hc:Ch (f::g::l))(M:Rat):Rts f g rs M/\∀r∈rs,g r≠0:=by
 have lf:=hc.lb;have lg:LB g:=by cases hc with|two _ hg=>exact(LB.const 1).congr hg|more _ _ _ _ _ _ t=>exact t.lb
 have off:∀s t,s<=t->(∀r∈rs,¬(s<=r/\r<=t))->0<f s*f t:=λs t h1 h2=>by
  have b:=hR.off s t h1 h2;have b2:BA (λx=>(k*u x)*f x) s t:=by
   obtain⟨e,he,hb⟩:=b;exact⟨e,he,λx a c=>by have:=hb x a c;rw[e1,<-Rat.mul_assoc]at this;exact this⟩
  exact(b2.Xy (lu.smul k)).sign lf h1
 have zero:∀r∈rs,f r=0/\g r≠0:=λr hr=>by
  obtain⟨m,hm,hF⟩:=hR.fac r hr;obtain⟨A,A',a1,a2,a3,a4,a5⟩:=cross hm hF lf lg hk hk' e1 e2;have h1:=a5 r;have hm':(0:Rat)<m:=by exact_mod_cast hm
  have h2:f r=0:=by
   have h3:k*m*A r≠0:=by
    rcases iD a3 with v|v
    .have:=Rat.mul_pos (Rat.mul_pos hk hm') v;grind
    .have:=Rat.mul_pos (Rat.mul_pos hk hm') (show 0 < -A r by grind);grind
   refine iM h3 ?_
   grind
  refine⟨h2,λhg=>?_⟩;obtain⟨N,n1,n2,-,-⟩:=within r r;obtain⟨e,he,hp⟩:=Ch.pair N hc;rcases hp r n1 n2 with h|h
  .rw[h2]at h;rcases h with h|h<;>grind
  .rw[hg]at h;rcases h with h|h<;>grind
 refine⟨⟨hR.nd,λr hr=>(zero r hr).1,λs t _ h1 _ h2=>off s t h1 h2,λr hr x _ _ hx hb=>?_⟩,λr hr=>(zero r hr).2⟩;obtain⟨m,hm,hF⟩:=hR.fac r hr;obtain⟨A,A',a1,a2,a3,a4,a5⟩:=cross hm hF lf lg hk hk' e1 e2;have hm':(0:Rat)<m:=by exact_mod_cast hm
 have lx:LB λx=>x-r:=LB.id.sub (LB.const r)
 have lB:LB λx=>k*(m*A x+(x-r)*A' x):=((a1.smul (m:Rat)).add (lx.mul a2)).smul k
 have lW:LB λx=>g r*(k'*(A x*g x))*(k*(m*A x+(x-r)*A' x)):=(((a1.mul lg).smul k').smul (g r)).mul lB
 have hg:=(zero r hr).2;have hW:0<g r*(k'*(A r*g r))*(k*(m*A r+(r-r)*A' r)):=by
  have s1:0<(g r*A r)*(g r*A r):=by
   rcases iD hg with u|u<;>rcases iD a3 with v|v
   .have:=Rat.mul_pos u v;exact Rat.mul_pos this this
   .have:=Rat.mul_pos u (show 0 < -A r by grind);have:=Rat.mul_pos this this;grind
   .have:=Rat.mul_pos (show 0 < -g r by grind) v;have:=Rat.mul_pos this this;grind
   .have:=Rat.mul_pos (show 0 < -g r by grind) (show 0 < -A r by grind);have:=Rat.mul_pos this this;grind
  have s2:=Rat.mul_pos (Rat.mul_pos (Rat.mul_pos hk hk') hm') s1
  grind
 obtain⟨d,hd,near⟩:=a1V lW hW;have loc:∀y,y≠r->r-d<=y->y<=r+d->0<f y*g r*(y-r):=λy hy h1 h2=>by
  have w:=near y h1 h2;have e:=a5 y;have sq:0<(y-r)*(y-r):=by
   rcases iD (show y-r≠0 by grind) with v|v
   .exact Rat.mul_pos v v
   .have:=Rat.mul_pos (show 0 < -(y-r) by grind) (show 0 < -(y-r) by grind);grind
  have p:=Rat.mul_pos sq w;generalize hBv:k*(m*A y+(y-r)*A' y)=b at *;have:(y-r)*(y-r)*(g r*(k'*(A y*g y))*b)=f y*g r*(y-r)*(b*b):=by
   have:(y-r)*(y-r)*(g r*(k'*(A y*g y))*b)=(y-r)*g r*b*((y-r)*(k'*(A y*g y))):=by grind
   rw[this,e];grind
  rw[this]at p;rcases jS p with ⟨u,_⟩|⟨_,v⟩
  .exact u
  .have:0<=b*b:=by
    rcases Rat.le_total (a:=0) (b:=b) with h|h
    .exact Rat.mul_nonneg h h
    .have:=Rat.mul_nonneg (show 0<=-b by grind) (show 0<=-b by grind);grind
   grind
 by_cases h1:r-d<=x/\x<=r+d
 .exact loc x hx h1.1 h1.2
 .by_cases h2:r<x
  .have p:=loc (r+d) (by grind) (by grind) Rat.le_refl;have q:=off (r+d) x (by grind) λr' hr' hh=>by have:=hb r' hr' (.inr ⟨by grind,hh.2⟩);grind
   have u:0<x-r:=by grind
   have v:0<r+d-r:=by grind
   have p1:0<f (r+d)*g r:=by rcases jS p with ⟨a,_⟩|⟨_,a⟩<;>grind
   have:0<f x*g r:=by
    rcases jS p1 with ⟨a,b⟩|⟨a,b⟩<;>rcases jS q with ⟨c,e⟩|⟨c,e⟩
    .exact Rat.mul_pos e b
    .grind
    .grind
    .have:=Rat.mul_pos (show 0 < -f x by grind) (show 0 < -g r by grind);grind
   exact Rat.mul_pos this u
  .have p:=loc (r-d) (by grind) Rat.le_refl (by grind);have q:=off x (r-d) (by grind) λr' hr' hh=>by have:=hb r' hr' (.inl ⟨hh.1,by grind⟩);grind
   have u:0 < -(x-r):=by grind
   have p1:0 < -(f (r-d)*g r):=by rcases jS p with ⟨_,a⟩|⟨a,_⟩<;>grind
   have:0 < -(f x*g r):=by
    rcases XH (show f (r-d)*g r<0 by grind) with ⟨a,b⟩|⟨a,b⟩<;>rcases jS q with ⟨c,e⟩|⟨c,e⟩
    .have:=Rat.mul_pos c (show 0 < -g r by grind);grind
    .grind
    .grind
    .have:=Rat.mul_pos (show 0 < -f x by grind) b;grind
   have:=Rat.mul_pos this u
   grind
end Go.Proofs.YtnhghmibjddlkaaGreatDoor
