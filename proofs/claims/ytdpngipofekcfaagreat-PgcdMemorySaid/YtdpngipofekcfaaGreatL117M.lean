/-
 Contracts of the functions that the law reaches.
-/
import Derived.Test.YtdpngipofekcfaaGreatL59M
import Derived.Test.YtdpngipofekcfaaGreatAbsT
import Derived.Test.YtdpngipofekcfaaGreatL302M
set_option maxHeartbeats 2000000
namespace Go.Proofs.YtdpngipofekcfaaGreat
open Go Go.Proofs Go.AL
set_option linter.unusedSimpArgs false
set_option linter.unusedVariables false
theorem ML (X Y:List Rat):pq (LH X Y)=pq X-pq Y:=PQ.ext λk=>pO X Y k
theorem P5 (P:List Int):(qp P).length=P.length:=by simp[qp]
theorem a8k (P:List Int):tzq (qp P)=tz P:=by
 rcases za8 (tz P) with h|h
 .rw[h];exact dH.mpr λk=>by rw[jm,bn.mp h k];rfl
 .have:=EP (q:=qp P) (n:=tz P-1) (by
   rw[jm];exact λe=>jv (q:=P) (by omega) (zcC.mp e)) λk hk=>by rw[jm,dW P (by omega)];rfl
  omega
theorem zB (P:List Int):au (qp P)=qp (aO P):=by rw[au,a8k,aO,qp,qp,zcL]
def fma (c:Rat)(a b:Rat):Rat:=a+c*b
theorem Fp (c:Rat):fma c 0 0=0:=by unfold fma;grind

theorem uK (l:List RQ):(dN l).length=l.length:=by simp[dN]
section
variable {q A B:List Rat} {n D M N:Nat}
def upq (c:Rat)(n:Nat):List Rat:=List.replicate n 0++[c]
theorem CQ (c:Rat)(n:Nat):(upq c n).length=n+1:=by simp[upq]
theorem Lm (c:Rat)(n:Nat):upq c (n+1)=0::upq c n:=rfl
theorem Dp (c:Rat):∀n k,cfq (upq c n) k=if k=n then c else 0
 |0,0=>rfl
 |0,k+1=>by rw[zam (by omega)];exact ig (by rw[CQ];omega)
 |n+1,0=>by rw[zam (by omega)];rfl
 |n+1,k+1=>by
  rw[Lm,fQ,Dp c n k];by_cases h:k=n
  .rw[zas h,zas (by omega)]
  .rw[zam h,zam (by omega)]
theorem Ur (c:Rat)(g:Nat->Rat):∀n k,cvq (upq c n) g k=if n<=k then c*g (k-n) else 0
 |0,k=>by
  rw[zas (za4 _),show upq c 0=[c] from rfl,kS];cases k with
  |zero=>simp only[lX,zcF];grind
  |succ k=>simp only[lX,zcF,cvq];grind
 |n+1,0=>by
  rw[zam (by omega),Lm,kS];simp only[lX];grind
 |n+1,k+1=>by
  rw[Lm,kS,lX,Ur c g n k];by_cases h:n<=k
  .rw[zas h,zas (by omega),zeW];grind
  .rw[zam h,zam (by omega)];grind
theorem jM (c:Rat)(n:Nat)(B:List Rat)(k:Nat):cfq (gJ (upq c n) B) k=if n<=k then c*cfq B (k-n) else 0:=by
 rw[fE,Ur]
def dc (A B:List Rat):Rat:=cfq A (A.length-1)/cfq B (B.length-1)
def dn1 (A B:List Rat):List Rat:=au (FW (fma (-1)) A (gJ (upq (dc A B) (A.length-B.length)) B))
theorem Nv (A B:List Rat)(k:Nat):cfq (dn1 A B) k=cfq A k-if A.length-B.length<=k then dc A B*cfq B (k-(A.length-B.length)) else 0:=by
 rw[dn1,dQ,jw (Fp _),jM];unfold fma
 grind
theorem Zw (h:∀k,n<=k->cfq q k=0):tzq q<=n:=by
 rcases zbh n (tzq q) with h1|h1
 .exact absurd (h (tzq q-1) (by omega)) (jd (by omega))
 .exact h1
theorem IL (h0:B.length≠0)(hb:cfq B (B.length-1)≠0)(hl:B.length<=A.length):(dn1 A B).length<A.length:=by
 have:(dn1 A B).length=tzq (dn1 A B):=by
  have:=jD (dn1 A B);rwa [show au (dn1 A B)=dn1 A B from aZ _]at this
 have h1:=Zw (q:=dn1 A B) (n:=A.length-1) λk hk=>by
  rw[Nv,zas (by omega)];by_cases hk2:k=A.length-1
  .rw[hk2,show A.length-1-(A.length-B.length)=B.length-1 by omega];have:=zbm (a:=cfq A (A.length-1)) hb;unfold dc
   grind
  .rw[ig (q:=A) (by omega),ig (q:=B) (by omega)];grind
 omega
def dit (A B:List Rat):Nat->List Rat
 |0=>A
 |k+1=>dn1 (dit A B k) B
def dqu (A B:List Rat):Nat->List Rat
 |0=>[]
 |k+1=>FW (fma 1) (dqu A B k) (upq (dc (dit A B k) B) ((dit A B k).length-B.length))
theorem Fz (h:au A=A):∀k,au (dit A B k)=dit A B k
 |0=>h
 |k+1=>aZ _
theorem zK (h0:B.length≠0)(hb:cfq B (B.length-1)≠0):∀k,(∀j,j<k->B.length<=(dit A B j).length)->(dit A B k).length+k<=A.length
 |0,_=>zab _
 |k+1,h=>by
  have h1:=zK h0 hb k λj hj=>h j (by omega)
  have h2:=IL h0 hb (h k (by omega));rw[dit];omega
theorem b1Y (A:List Rat){B:List Rat}(h0:B.length≠0)(hb:cfq B (B.length-1)≠0):∃n,(dit A B n).length<B.length/\(∀j,j<n->B.length<=(dit A B j).length)/\n<=A.length:=by
 have e:∃n,(dit A B n).length<B.length:=by
  by_cases hn:∃n,(dit A B n).length<B.length
  .exact hn
  .have:=zK (A:=A) h0 hb (A.length+1) λj _=>ze6 λhj=>hn ⟨j,hj⟩
   omega
 obtain⟨n,hn,hj⟩:=WT e;have hj':∀j,j<n->B.length<=(dit A B j).length:=λj hjn=>ze6 (hj j hjn)
 have:=zK h0 hb n hj';exact⟨n,hn,hj',by omega⟩
theorem oH (A B:List Rat)(k j:Nat):cfq (dqu A B (k+1)) j=cfq (dqu A B k) j+if j=(dit A B k).length-B.length then dc (dit A B k) B else 0:=by
 rw[dqu,jw (Fp _),Dp];unfold fma
 grind
theorem Um (h0:B.length≠0)(hb:cfq B (B.length-1)≠0):∀k,(∀j,j<k->B.length<=(dit A B j).length)->∀j,j+B.length<=(dit A B k).length->cfq (dqu A B k) j=0
 |0,_,j,_=>mO j
 |k+1,h,j,hj=>by
  have h2:=IL h0 hb (h k (by omega));rw[dit]at hj;rw[oH,zam (by omega),Um h0 hb k (λi hi=>h i (by omega)) j (by omega)]
  grind
theorem IJ (h0:B.length≠0)(hb:cfq B (B.length-1)≠0):∀k,(∀j,j<k->B.length<=(dit A B j).length)->(dqu A B k).length<=A.length+1-B.length
 |0,_=>za4 _
 |k+1,h=>by
  have h1:=IJ h0 hb k λj hj=>h j (by omega)
  have h2:=zK h0 hb k λj hj=>h j (by omega)
  have h3:=h k (by omega);rw[dqu,zS,CQ];omega
theorem natAbs_cast (m:Int):(m.natAbs:Rat)=if m<0 then -(m:Rat) else (m:Rat):=by
 split
 .rw[<-Rat.intCast_natCast,<-Rat.intCast_neg];congr 1;omega
 .rw[<-Rat.intCast_natCast];congr 1;omega
theorem CD.b1X {e:Nat}{x t b y:Rat}{m w:Int}(hD:D≠0)(hm:m≠0)(he:e≠0)(hx:CD D M x)(ht:CD D M t)(hb:b*(e:Rat)=(m:Rat))(hy:y*(e:Rat)=(w:Rat))(zm:zl m<=N)(zw:zl w<=N):CD (D*m.natAbs) (M+N+1) (x-t/b*y):=by
 obtain⟨z,e1,hz⟩:=hx;obtain⟨u,e2,hu⟩:=ht;have h1:=jh hD;have h2:(m:Rat)≠0:=λh=>hm (zcC.mp h)
 have h3:=jh he;have hb0:b≠0:=λh=>h2 (by rw[<-hb,h,zbG])
 have z1:=fA z m;have z2:=fA u w;have e3:x-t/b*y=((z:Rat)*(m:Rat)-(u:Rat)*(w:Rat))/((D:Rat)*(m:Rat)):=by
  rw[e1,e2,<-hb,<-hy]
  grind
 by_cases hs:m<0
 .refine⟨u*w-z*m,?_,?_⟩
  .rw[e3,zc9,natAbs_cast,zas hs,Rat.intCast_sub,zbw,zbw]
   grind
  .have:=qg (u*w) (-(z*m));rw[sD,<-zeG]at this;omega
 .refine⟨z*m-u*w,?_,?_⟩
  .rw[e3,zc9,natAbs_cast,zam hs,Rat.intCast_sub,zbw,zbw]
  .have:=qg (z*m) (-(u*w));rw[sD,<-zeG]at this;omega
theorem CD.cf (h:CB D n M q)(k:Nat):CD D M (cfq q k):=by
 by_cases hk:k<q.length
 .rw[oN hk];exact h.c _ (zaY hk)
 .rw[ig (by omega)];exact CD.zero _ _
theorem b4U (hA:CB D n M A)(hB:PB n N (clr B))(h0:B.length≠0)(hb:cfq B (B.length-1)≠0)(hl:B.length<=A.length):∃E,CB E n (M+N+1) (dn1 A B):=by
 have hm:cf (clr B) (B.length-1)≠0:=λe=>hb (a7r.mp e)
 have hcb:∀k,cfq B k*(lS B:Rat)=(cf (clr B) k:Rat):=λk=>(BK B k).symm
 have hl2:=IL h0 hb hl;refine⟨D*(cf (clr B) (B.length-1)).natAbs,zbN hA.d (by omega),?_,by have:=hA.l;omega,λc hc=>?_⟩
 .have h1:=AL.fK D (cf (clr B) (B.length-1)).natAbs;have h2:=hA.w;have h3:=hB.cf (B.length-1);unfold zl at h3;omega
 .obtain⟨i,hi,rfl⟩:=zbE hc;rw[<-oN hi,Nv];split
  .exact CD.b1X hA.d hm (kG B) (CD.cf hA _) (CD.cf hA _) (hcb _) (hcb _) (hB.cf _) (hB.cf _)
  .have:=(CD.cf hA i).up hA.d (E:=(cf (clr B) (B.length-1)).natAbs) (V:=N) (by omega) (hB.cf _);rw[show cfq A i-0=cfq A i by grind];exact this.mono (by omega)
theorem a3a (hA:CB D n M A)(hB:PB n N (clr B))(h0:B.length≠0)(hb:cfq B (B.length-1)≠0):∀k,(∀j,j<k->B.length<=(dit A B j).length)->∃E,CB E n (M+k*(N+1)) (dit A B k)
 |0,_=>⟨D,by rw[zcP];exact hA⟩
 |k+1,h=>by
  obtain⟨E,hE⟩:=a3a hA hB h0 hb k λj hj=>h j (by omega)
  obtain⟨F,hF'⟩:=b4U hE hB h0 hb (h k (by omega));exact⟨F,hF'.mono (zab _) (by rw[zbS];omega)⟩
theorem OW (q:Rat):qz (1/q)<=qz q:=by
 by_cases h:q.num=0
 .have:q=0:=zcK.mp h;rw[this,show (1:Rat)/0=0 by decide +kernel];exact zab _
 .have h1:(q.num:Rat)≠0:=λe=>h (zcC.mp e)
  have h2:=jh q.den_nz;have e:(1:Rat)/q=((q.den:Int):Rat)/(q.num:Rat):=by
   have h3:q=(q.num:Rat)/(q.den:Rat):=by rw[<-zcj];exact(zcT q).symm
   rw[zaP]
   conv=>lhs;rw[h3]
   grind
  have hp:=jg q;rw[e,<-a8X h];refine XY (by omega) ?_ ?_
  .split
   .rw[sD,wz];exact hp.2
   .rw[wz];exact hp.2
  .exact hp.1
theorem a0J (p q:Rat):qz (p/q)<=qz p+qz q:=by
 have h1:=Gw p (1/q);have h2:=OW q;rw[show p*(1/q)=p/q by rw[zeg,zeg,Rat.one_mul]]at h1;omega
end
section
variable {D M n:Nat} {A:List Rat}
theorem CD.b2b {q:Rat}(hD:D≠0)(h:CD D M q):q.den∣D:=by
 obtain⟨z,e,hz⟩:=h;have h1:=jh hD;have h2:=jh q.den_nz;have h3:(q.num:Rat)/(q.den:Rat)=(z:Rat)/(D:Rat):=by
  rw[<-e,<-zcj];exact zcT q
 have h4:(q.num:Rat)*(D:Rat)=(z:Rat)*(q.den:Rat):=by grind
 have h5:q.num*(D:Int)=z*(q.den:Int):=by
  rw[<-zaP,<-zaP,<-zbw,<-zbw]at h4;exact zcx.mp h4
 have h6:q.den∣q.num.natAbs*D:=⟨z.natAbs,by
  have:=zaO Int.natAbs h5;rw[zcc,zcc,zbi,zbi]at this;rw[this,zaA]⟩
 exact(q.reduced.symm).dvd_of_dvd_mul_left h6
theorem b0x {f:Nat->Rat}(h:∀i,i<n->CD D M (f i)):CD D (M+n) (MH n f):=by
 induction n with
 |zero=>exact CD.zero _ _
 |succ n ih =>
  have h1:=ih λi hi=>h i (by omega)
  have h2:=h n (by omega);exact(h1.add h2).mono (by omega)
theorem Bh:∀(l:List Nat) (i:Nat),(∀x∈l,x∣D)->Cm (l.take i)∣D
 |l,0,_=>by rw[zaj];exact Nat.one_dvd _
 |l,i+1,h=>by
  by_cases hi:i<l.length
  .rw[xu hi];refine Nat.lcm_dvd (Bh l i h) (h _ ?_);rw[List.getD,zaf hi,zaE];exact zaY hi
  .rw[zac (by omega),<-zac (l:=l) (i:=i) (by omega)];exact Bh l i h
theorem CB.X8 (h:CB D n M A):∀x∈uq A,x∣D:=λx hx=>by
 obtain⟨c,hc,rfl⟩:=zaw.1 hx;exact(h.c c hc).b2b h.d
theorem CB.U2 (h:CB D n M A)(i:Nat):(wd (Cm ((uq A).take i))).length<=M :=
 zad (bF (zeF (zcY h.d) (Bh _ i h.X8))) h.w
theorem CB.rJ (h:CB D n M A):lS A∣D:=by
 have:=Bh (uq A) (uq A).length h.X8;rwa [zaM]at this
theorem CB.og (h:CB D n M A):(wd (lS A)).length<=M :=
 zad (bF (zeF (zcY h.d) h.rJ)) h.w
theorem CB.KX (h:CB D n M A):PB n M (clr A):=.of (by rw[vF];exact h.l) λk=>by
 obtain⟨z,e,hz⟩:=CD.cf h k;obtain⟨t,ht⟩:=h.rJ;have ht0:t≠0:=λe=>h.d (by rw[ht,e,zcd])
 have h1:=jh (kG A);have h2:=jh ht0;have h3:=BK A k;rw[e,ht,zc9]at h3;have h4:(cf (clr A) k:Rat)*(t:Rat)=(z:Rat):=by rw[h3];grind
 have h5:cf (clr A) k*(t:Int)=z:=by
  rw[<-zaP,<-zbw]at h4;exact zcx.mp h4
 refine zad (bF ?_) hz;rw[<-h5,zcc,zbi];exact zcW _ (zcY ht0)
theorem CB.gJ {E m N:Nat}{B:List Rat}(hA:CB D n M A)(hB:CB E m N B):CB (D*E) (n+m) (M+N+(n+m)) (gJ A B) where
 d:=zbN hA.d hB.d
 w:=by
  have h1:=AL.fK D E;have h2:=hA.w;have h3:=hB.w;omega
 l:=by
  simp only[Ws,zae,zck];have:=hA.l;have:=hB.l;omega
 c:=λc hc=>by
  obtain⟨k,hk,rfl⟩:=zbE hc;have hl:k<n+m:=by
   simp only[Ws,zae,zck]at hk;have:=hA.l;have:=hB.l;omega
  rw[<-oN hk,fE,PQ.yu];exact(b0x (n:=k+1) (f:=λi=>cfq A i*cfq B (k-i)) λi _=>CD.mul hA.d hB.d (CD.cf hA _) (CD.cf hB _)).mono (by omega)
end
section
variable {N k s i:Nat} {Q A B:List Rat} {c:Rat}
theorem Vt {X Y:List Rat}{i:Nat}{c:Rat}(hl:X.length=Y.length)(hc:cfq Y i=c)(ho:∀j,j<Y.length->j≠i->cfq Y j=cfq X j):(X.map aN).set i (aN c)=Y.map aN:=by
 rw[<-List.map_set]
 congr 1
 refine List.ext_getElem (by rw[List.length_set,hl]) λj h1 h2=>?_;rw[List.getElem_set];split
 .rename_i e;subst e;rw[<-hc,oN h2]
 .rename_i e;have:=ho j h2 (λh=>e h.symm);rw[oN h2,oN (by rw[List.length_set]at h1;exact h1)]at this;exact this.symm
def MP (N:Nat)(Q:List Rat):List Rat:=(List.range N).map (cfq Q)
theorem iK (N:Nat)(Q:List Rat):(MP N Q).length=N:=by simp[MP]
theorem BI (h:k<N):cfq (MP N Q) k=cfq Q k:=by
 simp only[MP,cfq,List.getD,zaD,zcN h,zbz,zaE]
theorem VW (h:Q.length<=N)(k:Nat):cfq (MP N Q) k=cfq Q k:=by
 by_cases hk:k<N
 .exact BI hk
 .rw[ig (by rw[iK];omega),ig (by omega)]
theorem a6g (N:Nat):MP N []=List.replicate N 0:=by
 refine List.ext_getElem (by rw[iK,zcs]) λj h1 h2=>?_;rw[<-oN h1,BI (by rwa [iK]at h1),mO,List.getElem_replicate]
def O7 (A B:List Rat)(c:Rat)(s i:Nat):List Rat:=(List.range A.length).map λk=>if s<=k/\k<s+i then cfq A k-c*cfq B (k-s) else cfq A k
theorem jS (A B:List Rat)(c:Rat)(s i:Nat):(O7 A B c s i).length=A.length:=by simp[O7]
theorem vG (h:s+i<=A.length)(k:Nat):cfq (O7 A B c s i) k=if s<=k/\k<s+i then cfq A k-c*cfq B (k-s) else cfq A k:=by
 by_cases hk:k<A.length
 .simp only[O7,cfq,List.getD,zaD,zcN hk,zbz,zaE]
 .rw[ig (by rw[jS];omega),zam (by omega),ig (by omega)]
theorem ZP (A B:List Rat)(c:Rat){s:Nat}(h:s<=A.length):O7 A B c s 0=A:=by
 refine List.ext_getElem (jS ..) λj h1 h2=>?_;rw[<-oN h1,vG (by omega),zam (by omega),oN h2]
theorem a4X (h:s+(i+1)<=A.length):((O7 A B c s i).map aN).set (s+i) (aN (cfq A (s+i)-c*cfq B i))=(O7 A B c s (i+1)).map aN:=by
 refine Vt (by rw[jS,jS]) ?_ λj hj hne=>?_
 .rw[vG h,zas ⟨by omega,by omega⟩,zde]
 .rw[vG h,vG (by omega)];by_cases h1:s<=j/\j<s+i
  .rw[zas h1,zas ⟨h1.1,by omega⟩]
  .rw[zam h1,zam (by omega)]
theorem a4Y (h:B.length<=A.length):cqs (O7 A B (dc A B) (A.length-B.length) B.length)=(dn1 A B).map aN:=by
 have e:au (O7 A B (dc A B) (A.length-B.length) B.length)=dn1 A B:=by
  have h1:=aZ (FW (fma (-1)) A (gJ (upq (dc A B) (A.length-B.length)) B));rw[<-show au (dn1 A B)=dn1 A B from h1];refine jk λk=>?_;rw[vG (by omega),Nv];by_cases h1:A.length-B.length<=k
  .by_cases h2:k<A.length-B.length+B.length
   .rw[zas ⟨h1,h2⟩,zas h1]
   .rw[zam (by omega),zas h1,ig (q:=B) (by omega)];grind
  .rw[zam (by omega),zam h1];grind
 rw[cqs,e]
theorem b1V (hs:(dit A B k).length-B.length<N)(h0:cfq (dqu A B k) ((dit A B k).length-B.length)=0):((MP N (dqu A B k)).map aN).set ((dit A B k).length-B.length) (aN (dc (dit A B k) B))=(MP N (dqu A B (k+1))).map aN:=by
 refine Vt (by rw[iK,iK]) ?_ λj hj hne=>?_
 .rw[BI hs,oH,zas rfl,h0];grind
 .rw[iK]at hj;rw[BI hj,BI hj,oH,zam hne];grind
structure DV (A B:List Rat) (n K:Nat):Prop where
 la:A.length<=2^28
 lb:B.length<=2^28
 h0:B.length≠0
 hb:cfq B (B.length-1)≠0
 ta:au A=A
 tb:au B=B
 en:(dit A B n).length<B.length
 hj:∀j,j<n->B.length<=(dit A B j).length
 za:∀k,k<=n->∀i,qz (cfq (dit A B k) i)<=K
 zb:∀i,qz (cfq B i)<=K
 k1:1<=K
 k2:K<=2^32
theorem BA {K n:Nat}(h0:B.length≠0)(hb:cfq B (B.length-1)≠0)(za:∀k,k<=n->∀i,qz (cfq (dit A B k) i)<=K)(zb:∀i,qz (cfq B i)<=K)(k1:1<=K):∀k,k<=n->(∀j,j<k->B.length<=(dit A B j).length)->∀j,qz (cfq (dqu A B k) j)<=K+K
 |0,_,_,j=>by rw[dqu,mO,zy];omega
 |k+1,hk,h,j=>by
  have ih:=BA h0 hb za zb k1 k (by omega) (λi hi=>h i (by omega)) j;rw[oH];by_cases hj:j=(dit A B k).length-B.length
  .have hl:=h k (by omega);rw[zas hj,Um h0 hb k (λi hi=>h i (by omega)) j (by omega),zfz];have h1:=a0J (cfq (dit A B k) ((dit A B k).length-1)) (cfq B (B.length-1));have h2:=za k (by omega) ((dit A B k).length-1);have h3:=zb (B.length-1);unfold dc;omega
  .rw[zam hj,zdU];exact ih
def hrows:HC->Nat
 |.blk _ _ _ _ rows=>rows.length
 |_=>0
theorem Qg (fz:Bool)(st e sz:Nat)(rows:List (List IV)):hrows (.blk fz st e sz rows)=rows.length:=rfl
end
theorem Ej {g:Nat->Rat}(A:List Rat)(k:Nat):cvq (A.take (k+1)) g k=cvq A g k:=by
 have h:∀m,cvq (A.take (k+1+m)) g k=cvq (A.take (k+1)) g k:=λm=>by
  induction m with
  |zero=>rfl
  |succ m ih=>rw[<-zbp,vk,ih,zam (by omega),zdU]
 rw[<-h A.length,zac (by omega)]
theorem Wq (A B:List Rat):(gJ A B).length=A.length+B.length:=by simp[gJ]

section
variable {A:List Rat} {m N:Nat}
theorem CB.a6l:CB 1 1 1 [1] where
 d:=by omega
 w:=by decide +kernel
 l:=zab _
 c:=λc hc=>by
  rcases zb0.1 hc with rfl;exact⟨1,by decide +kernel,by decide +kernel⟩
def PWH (A:List Rat)(m N K:Nat):Prop:=∀k,k<=m->∃D,CB D N K (b6P A k)
structure PWK (A:List Rat) (m N K:Nat):Prop where
 h:∀k,k<=m->∃D,CB D N K (au (b6P A k))
theorem PWH.k {K:Nat}(h:PWH A m N K):PWK A m N K:=⟨λk hk=>by
 obtain⟨D,hD⟩:=h k hk;exact⟨D,hD.trim⟩⟩
theorem CB.part {D E n M:Nat}{B:List Rat}(hA:CB D n M A)(hB:CB E m N B)(h1:1<=M+N+(n+m))(i k:Nat):qz (cvq (A.take i) (cfq B) k)<=M+N+(n+m):=by
 have h:=((hA.sub (r:=A.take i) (by rw[zah];have:=hA.l;omega) λc hc=>za0 hc).gJ hB).qb.cz h1 k;rwa [fE]at h
end

theorem CB.const {c:Rat}{K:Nat}(h:qz c<=K):CB c.den 1 K [c] where
 d:=c.den_nz
 w:=zad (jg c).2 h
 l:=zab _
 c:=λx hx=>by
  rcases zb0.1 hx with rfl;exact(CD.ofRat x).mono (zad (jg x).1 h)
theorem Yy (a:RQ)(ha:SzQ (2^40) a):AC Tryz.prog 153 [cqq a] none [cqq a]:=by
 have c:=Vw a.1 ha.1.1;have hl:=ha.2.1;refine AC.aj (rs:=[.cell 2 32]) aV Tryz.func153 (by rfl) (by rfl) (by rfl) (by rfl) (by rfl) ?_;simp (disch:=omega) only[wt,seval,rqs];refine .inl ⟨aP (by kernel_rfl),?_⟩;refine ah (c) (by rfl) (by simp) ?_;simp (disch:=omega) only[wt,seval,rqs];exact aX (by kernel_rfl)
 try rfl
theorem XI (p:List RQ){i:Nat}(h:i<p.length):p.take (i+1)=p.take i++[p.getD i q0]:=by
 rw[zaS];simp[h,List.getD]
theorem Xi (p:List RQ)(h:BQ (2^40) (2^40) p):AC Tryz.prog 69 [cqw p] none [cqw p]:=by
 refine AC.aj (rs:=[.tmp 2]) aV Tryz.func69 (by rfl) (by rfl) (by rfl) (by rfl) (by rfl) ?_;have hl:=h.1;simp only[wt,seval];refine bU 3 3 32 3 (by simp only[wt,seval]) (λf H=>∃(i st:Nat),i<=p.length/\f 4=.iv (.int .i64 i)/\f 0=.iv (.sl (dN p))/\f 3=.hs 3 st/\H 3=.blk false st 32 3 (dN (p.take i))) (λf H=>(p.length-bC f 4).toNat) ?_ ?_
 .refine⟨0,1,by omega,?_⟩;simp only[wt,seval,rqs,fJ,fH,zaj]
 rintro f H ⟨i,st,hi,hF⟩;rw[aC hF.1];simp (disch:=omega) only[wt,seval,rqs,hF];refine bf (λhlt=>?_) (λhlt=>?_)
 .have hq:(p.take i).length=i:=by rw[zah];omega
  have hip:i<p.length:=by omega
  have et:=XI p hip;simp (disch:=omega) only[wt,seval,rqs,hF];refine ah ((Yy (p.getD i q0) (h.get hip))) (by rfl) (by simp) ?_;simp (disch:=omega) only[wt,seval,rqs,hF,hq];refine⟨⟨i+1,st+1,by omega,?_⟩,by omega⟩;rw[et]
  (repeat' apply zaa)<;>first|rfl|omega
 .simp (disch:=omega) only[wt,seval,hF];rw[zac (by omega)]
  try rfl
theorem DY (p:List RQ)(h:BQ (2^40) (2^38) p):AC Tryz.prog 240 [cqw p] none [cb (gd p)]:=by
 refine AC.aj (rs:=[.tmp 2]) aV Tryz.func240 (by rfl) (by rfl) (by rfl) (by rfl) (by rfl) ?_;have hl:=h.1;simp only[wt,seval];refine aI (λf H=>∃(i:Nat),i<=p.length/\(∀j,j<i->nv (p.getD j q0).2≠0)/\f 3=.iv (.int .i64 i)/\f 0=.iv (.sl (dN p))) (λf H=>(p.length-bC f 3).toNat) ?_ ?_
 .refine⟨0,by omega,λj hj=>by omega,?_⟩;simp only[wt,seval]
 rintro f H ⟨i,hi,hg,hF⟩;rw[aC hF.1];simp (disch:=omega) only[wt,seval,rqs,hF];refine bf (λhlt=>?_) (λhlt=>?_)
 .have hip:i<p.length:=by omega
  have o:=b4H (p.getD i q0) ⟨zad (h.get hip).2.1 (by omega),(h.get hip).2.2⟩;by_cases h0:nv (p.getD i q0).2=0
  .rw[zaW (λe=>e h0)]at o;simp (disch:=omega) only[wt,seval,rqs,hF];refine ah (o) (by rfl) (by simp) ?_;simp (disch:=omega) only[wt,seval];have hb:gd p=false:=by
    rw[zfM];exact λhh=>Ef.mp hh _ (yg hip) h0
   rw[hb]
  .rw[zbn h0]at o;simp (disch:=omega) only[wt,seval,rqs,hF];refine ah (o) (by rfl) (by simp) ?_;simp (disch:=omega) only[wt,seval,hF];refine⟨⟨i+1,by omega,λj hj=>?_,?_⟩,by omega⟩
   .by_cases e:j=i
    .rw[e];exact h0
    .exact hg j (by omega)
   ·(repeat' apply zaa)<;>first|rfl|omega
 .simp (disch:=omega) only[wt,seval];have hb:gd p=true:=Ef.mpr λr hr=>by
   obtain⟨j,hj,rfl⟩:=zbE hr;have:=hg j (by omega);rwa [List.getD,zaf hj,zaE]at this
  rw[hb]
theorem Lr (q:List Rat){i:Nat}(h:i<q.length):tzq (q.take (i+1))=if cfq q i≠0 then i+1 else tzq (q.take i):=by
 by_cases hz:cfq q i=0
 .rw[zam (by simpa using hz)];exact oU h hz
 .rw[zas hz];exact zZ h hz
theorem Jo (p:List RQ)(h:GQ (2^40) (2^38) p):AC Tryz.prog 233 [cqw p] none [cqp (qvs p)]:=by
 refine AC.aj (rs:=[.tmp 2]) aV Tryz.func233 (by rfl) (by rfl) (by rfl) (by rfl) (by rfl) ?_;have hl:=h.1;have hpl:=rO p;have tz0:tzq []=0:=rfl;simp (disch:=omega) only[wt,seval];refine aI (λf H=>∃(i st:Nat),i<=p.length/\f 5=.iv (.int .i64 i)/\f 4=.iv (.int .i64 (tzq ((qvs p).take i)))/\f 0=.iv (.sl (dN p))/\f 3=.hs 7 st/\H 7=.blk false st 32 3 (dN (((qvs p).take i).map aN))) (λf H=>(p.length-bC f 5).toNat) ?_ ?_
 .refine⟨0,1,by omega,?_⟩;simp only[wt,seval,rqs,zaj,tz0]
 rintro f H ⟨i,st,hi,hF⟩;rw[aC hF.1];simp (disch:=omega) only[wt,seval,rqs,hF];refine bf (λhlt=>?_) (λhlt=>?_)
 .have hip:i<p.length:=by omega
  have hq:(((qvs p).take i).map aN).length=i:=by rw[zae,zah];omega
  have hr:=h.get hip;have hd:=h.den hip;have m:=XW (p.getD i q0).1 (p.getD i q0).2 hr.1 hr.2 hd;rw[show mkRat (iv (p.getD i q0).1) (nv (p.getD i q0).2)=cfq (qvs p) i from (Dq p i).symm]at m;have zc:=JV hr hd;rw[<-Dq]at zc;have s:=b7v (aN (cfq (qvs p) i)) ((cO zc).1.mono (by omega));rw[b3P (cZ _),eF]at s;have et:=Lr (qvs p) (i:=i) (by omega);have e:=jR (q:=qvs p) (i:=i) (by omega);simp (disch:=omega) only[wt,seval,rqs,hF];refine .inl ⟨aP (by kernel_rfl),?_⟩;refine ah (m) (by rfl) (by simp) ?_;simp (disch:=omega) only[wt,seval,rqs,hF,hq];refine⟨aX (by kernel_rfl),?_⟩;by_cases hz:cfq (qvs p) i=0
  .rw[zam (by simpa using hz)]at et;rw[hz,a5g]at s;rw[hz]at e;rw[hz];refine ah (s) (by rfl) (by simp) ?_;simp (disch:=omega) only[wt,seval,hF];refine⟨⟨i+1,st+1,by omega,?_⟩,by omega⟩;rw[et,e,zav]
   (repeat' apply zaa)<;>first|rfl|omega
  .rw[zas hz]at et;have hs:¬sgq (cfq (qvs p) i)=0:=λh=>hz (SN.mp h)
   refine ah (s) (by rfl) (by simp) ?_;simp (disch:=omega) only[wt,seval,hF,hs];refine⟨⟨i+1,st+1,by omega,?_⟩,by omega⟩;rw[et,e,zav]
   (repeat' apply zaa)<;>first|rfl|omega
 .obtain rfl:i=p.length:=by omega
  rw[zac (by omega)]at hF;have htl:tzq (qvs p)<=p.length:=by have:=vP (qvs p);omega
  have hq:((qvs p).map aN).length=p.length:=by rw[zae];omega
  simp (disch:=omega) only[wt,seval,rqs,hF,hq];rw[cqs,au,zcL]
  first|exact⟨htl,rfl⟩|rfl|(refine⟨htl,?_⟩;rfl)
theorem a9m (A:List Rat)(c:RQ)(K:Nat)(hA:QB (2^30) K A)(hc:SzQ K c)(h0:nv c.2≠0)(hK:K<=2^34)(hK1:1<=K):AC Tryz.prog 275 [cqw (A.map aN),cqq c] none [cqp (nG (qv c) A)]:=by
 have hl:=hA.1;have hqa:(A.map aN).length=A.length:=zae _;have zc:=JV hc h0;have hsl:(nG (qv c) A).length=A.length:=by simp[nG]
 have hR:QB (2^40) (2^38) (nG (qv c) A):=.of (by omega) λk=>by
  rw[iw];have h1:=Gw (cfq A k) (qv c);have h2:=hA.cz hK1 k;omega
 have t:=Jo ((nG (qv c) A).map aN) hR.gq;rw[dG]at t;refine AC.aj (rs:=[.tmp 4]) aV Tryz.func275 (by rfl) (by rfl) (by rfl) (by rfl) (by rfl) ?_;simp (disch:=omega) only[wt,seval];refine bU 5 5 32 3 (by simp only[wt,seval]) (λf H=>∃(i st s3:Nat),i<=A.length/\f 6=.iv (.int .i64 i)/\f 0=.iv (.sl (dN (A.map aN)))/\f 3=.hp 3 s3 0 0/\H 3=.blk false s3 32 3 [pW c]/\f 5=.hs 5 st/\H 5=.blk false st 32 3 (dN (((nG (qv c) A).take i).map aN))) (λf H=>(A.length-bC f 6).toNat) ?_ ?_
 .refine⟨0,1,1,by omega,?_⟩;simp only[wt,seval,rqs,fJ,fH,zaj]
 rintro f H ⟨i,st,s3,hi,hF⟩;rw[aC hF.1];simp (disch:=omega) only[wt,seval,rqs,hF];by_cases hlt':i<A.length
 .have hlt:(i:Int)<(A.length:Int):=by omega
  have hrq:(((nG (qv c) A).take i).map aN).length=i:=by rw[zae,zah];omega
  have g:=dZ hlt';have et:=jR (q:=nG (qv c) A) (i:=i) (by omega);rw[iw]at et;have m:=Qe (aN (cfq A i)) c (cO (zad (hA.cz hK1 i) (by omega))) (hc.mono (by omega)) (cZ _) h0;rw[eF]at m;simp (disch:=omega) only[wt,seval,rqs,hF,hqa,hlt,g];refine .inl ⟨aP (by kernel_rfl),?_⟩;refine ah (m) (by rfl) (by simp) ?_;simp (disch:=omega) only[wt,seval,rqs,hF,hrq];refine⟨aX (by kernel_rfl),?_⟩;refine⟨⟨i+1,st+1,s3,by omega,?_⟩,by omega⟩;rw[et,zav]
  (repeat' apply zaa)<;>first|rfl|omega
 .have hlt:¬(i:Int)<(A.length:Int):=by omega
  rw[zac (by omega)]at hF;simp (disch:=omega) only[wt,seval,hF,hqa,hlt];refine ah (t) (by simp only[gV,qU,hF];rfl) (by simp) ?_;simp (disch:=omega) only[wt,seval,hF]
  try rfl
theorem a9o (A:List Rat)(i:Nat)(hl:A.length<=2^40):AC Tryz.prog 299 [cqw (A.map aN),ci i] none [cqz (cfq A i)]:=by
 have hqa:(A.map aN).length=A.length:=zae _;have z0:=Qi 0 1 (by omega) (by omega) (by omega) (by omega);rw[show ((0:Int):Rat)/((1:Nat):Rat)=0 by decide +kernel]at z0;refine AC.aj (rs:=[.cell 4 32]) aV Tryz.func299 (by rfl) (by rfl) (by rfl) (by rfl) (by rfl) ?_;simp (disch:=omega) only[wt,seval,rqs];by_cases h:i<A.length
 .have h':(i:Int)<(A.length:Int):=by omega
  have g:=dZ h;simp (disch:=omega) only[wt,seval,rqs,hqa,h',g]
  try rfl
 .have h':¬(i:Int)<(A.length:Int):=by omega
  rw[ig (by omega)];simp only[wt,seval,hqa,h'];refine ah (z0) (by rfl) (by simp) ?_;simp (disch:=omega) only[wt,seval,rqs]
  try rfl
theorem VR (A B:List Rat)(hA:QB (2^30) (2^33) A)(hB:QB (2^30) (2^33) B):AC Tryz.prog 277 [cqw (A.map aN),cqw (B.map aN)] none [cqp (Ja A B)]:=by
 have hAl:=hA.1;have hBl:=hB.1;have hqa:(A.map aN).length=A.length:=zae _;have hqb:(B.map aN).length=B.length:=zae _;have hal:(Ja A B).length=max A.length B.length:=by simp[Ja]
 have hR:QB (2^40) (2^38) (Ja A B):=.of (by rw[hal];omega) λk=>by
  rw[nZ];have h1:=a8B (cfq A k) (cfq B k);have h2:=hA.cz (by omega) k;have h3:=hB.cz (by omega) k;omega
 have t:=Jo ((Ja A B).map aN) hR.gq;rw[dG]at t;refine AC.aj (rs:=[.tmp 4]) aV Tryz.func277 (by rfl) (by rfl) (by rfl) (by rfl) (by rfl) ?_;simp only[wt,seval];refine bU 5 5 32 3 (by simp only[wt,seval]) (λf H=>∃(i st:Nat),i<=max A.length B.length/\f 6=.iv (.int .i64 i)/\f 0=.iv (.sl (dN (A.map aN)))/\f 1=.iv (.sl (dN (B.map aN)))/\f 5=.hs 5 st/\H 5=.blk false st 32 3 (dN (((Ja A B).take i).map aN))) (λf H=>(A.length+B.length-bC f 6).toNat) ?_ ?_
 .refine⟨0,1,by omega,?_⟩;simp only[wt,seval,rqs,fJ,fH,zaj]
 rintro f H ⟨i,st,hi,hF⟩;rw[aC hF.1];simp (disch:=omega) only[wt,seval,rqs,hF];have hrq:(((Ja A B).take i).map aN).length=i:=by rw[zae,zah,hal];omega
 have y1:=hA.cz (by omega) i;have y2:=hB.cz (by omega) i;have a1:=a9o A i (by omega);have a2:=a9o B i (by omega);have y:=WL (aN (cfq A i)) (aN (cfq B i)) (cO (by omega)) (cO (by omega)) (cZ _) (cZ _);rw[eF,eF]at y;by_cases hm:i<max A.length B.length
 .have et:=jR (q:=Ja A B) (i:=i) (by rw[hal];exact hm);rw[nZ]at et;by_cases h1:i<A.length
  .have h1':(i:Int)<(A.length:Int):=by omega
   simp (disch:=omega) only[wt,seval,hF,hqa,h1'];refine ah (a1) (by rfl) (by simp) ?_;simp (disch:=omega) only[wt,seval,hF];refine ah (a2) (by rfl) (by simp) ?_;simp (disch:=omega) only[wt,seval];refine ah (y) (by rfl) (by simp) ?_;simp (disch:=omega) only[wt,seval,rqs,hF,hrq];refine⟨⟨i+1,st+1,by omega,?_⟩,by omega⟩;rw[et,zav]
   (repeat' apply zaa)<;>first|rfl|omega
  .have h1':¬(i:Int)<(A.length:Int):=by omega
   have h2':(i:Int)<(B.length:Int):=by omega
   simp (disch:=omega) only[wt,seval,hF,hqa,hqb,h1',h2'];refine ah (a1) (by rfl) (by simp) ?_;simp (disch:=omega) only[wt,seval,hF];refine ah (a2) (by rfl) (by simp) ?_;simp (disch:=omega) only[wt,seval];refine ah (y) (by rfl) (by simp) ?_;simp (disch:=omega) only[wt,seval,rqs,hF,hrq];refine⟨⟨i+1,st+1,by omega,?_⟩,by omega⟩;rw[et,zav]
   (repeat' apply zaa)<;>first|rfl|omega
 .have h1':¬(i:Int)<(A.length:Int):=by omega
  have h2':¬(i:Int)<(B.length:Int):=by omega
  rw[zac (by rw[hal];omega)]at hF;simp (disch:=omega) only[wt,seval,hF,hqa,hqb,h1',h2'];refine ah (t) (by simp only[gV,qU,hF];rfl) (by simp) ?_;simp (disch:=omega) only[wt,seval,hF]
  try rfl
theorem Oz (A B:List Rat)(hA:QB (2^30) (2^33) A)(hB:QB (2^30) (2^33) B)(hz:∀i k,qz (cvq (A.take i) (cfq B) k)<=2^34):AC Tryz.prog 246 [cqw (A.map aN),cqw (B.map aN)] none [cqp (gJ A B)]:=by
 have hAl:=hA.1;have hBl:=hB.1;have hqa:(A.map aN).length=A.length:=zae _;have hqb:(B.map aN).length=B.length:=zae _;have hml:=Wq A B;have z0:=Qi 0 1 (by omega) (by omega) (by omega) (by omega);rw[show ((0:Int):Rat)/((1:Nat):Rat)=0 by decide +kernel]at z0;have hR:QB (2^40) (2^38) (gJ A B):=.of (by omega) λk=>by
  rw[fE,<-Ej];have:=hz (k+1) k;omega
 have t:=Jo ((gJ A B).map aN) hR.gq;rw[dG]at t;refine AC.aj (rs:=[.tmp 4]) aV Tryz.func246 (by rfl) (by rfl) (by rfl) (by rfl) (by rfl) ?_;simp only[wt,seval];refine bU 5 5 32 3 (by simp only[wt,seval]) (λf H=>∃(k st:Nat),k<=A.length+B.length/\f 6=.iv (.int .i64 k)/\f 0=.iv (.sl (dN (A.map aN)))/\f 1=.iv (.sl (dN (B.map aN)))/\f 5=.hs 5 st/\H 5=.blk false st 32 3 (dN (((gJ A B).take k).map aN))) (λf H=>(A.length+B.length-bC f 6).toNat) ?_ ?_
 .refine⟨0,1,by omega,?_⟩;simp only[wt,seval,rqs,fJ,fH,zaj]
 rintro f H ⟨k,st,hk,hF⟩;rw[aC hF.1];simp (disch:=omega) only[wt,seval,rqs,hF];by_cases hlt:k<A.length+B.length
 .have hlt':(k:Int)<(A.length:Int)+(B.length:Int):=by omega
  simp (disch:=omega) only[wt,seval,hqa,hqb,hlt'];refine ah (z0) (by rfl) (by simp) ?_;simp (disch:=omega) only[wt,seval,rqs];refine aI (λf H=>∃(i s7:Nat),i<=k+1/\f 8=.iv (.int .i64 i)/\f 6=.iv (.int .i64 k)/\f 0=.iv (.sl (dN (A.map aN)))/\f 1=.iv (.sl (dN (B.map aN)))/\f 5=.hs 5 st/\H 5=.blk false st 32 3 (dN (((gJ A B).take k).map aN))/\f 7=.hp 7 s7 0 0/\H 7=.blk false s7 32 3 [pW (aN (cvq (A.take i) (cfq B) k))]) (λf H=>(k+1-bC f 8).toNat) ?_ ?_
  .refine⟨0,(H 7).stamp+1,by omega,?_⟩;simp only[wt,seval,hF,show aN (cvq (A.take 0) (cfq B) k)=aN 0 from rfl]
  rintro f H ⟨i,s7,hi,hF⟩;rw[aC hF.1];simp (disch:=omega) only[wt,seval,hF];by_cases hik:i<=k
  .have hik':(i:Int)<=(k:Int):=by omega
   have es:=vk (g:=cfq B) A i k;rw[zas hik]at es;by_cases h1:i<A.length
   .have h1':(i:Int)<(A.length:Int):=by omega
    have e1:(k:Int)-(i:Int)=((k-i:Nat):Int):=by omega
    by_cases h2:k-i<B.length
    .have h2':((k-i:Nat):Int)<(B.length:Int):=by omega
     have g1:=dZ h1;have g2:=dZ h2;have y1:=hA.cz (by omega) i;have y2:=hB.cz (by omega) (k-i);have y3:=hz i k;have y4:=Gw (cfq A i) (cfq B (k-i));have x:=Qe (aN (cfq A i)) (aN (cfq B (k-i))) (cO (by omega)) (cO (by omega)) (cZ _) (cZ _);have y:=WL (aN (cvq (A.take i) (cfq B) k)) (aN (cfq A i*cfq B (k-i))) (cO (by omega)) (cO (by omega)) (cZ _) (cZ _);rw[eF,eF]at x y;rw[<-es]at y;simp (disch:=omega) only[wt,seval,rqs,hF,hqa,hqb,hik',h1',e1,h2',g1,g2];refine .inl ⟨aP (by kernel_rfl),?_⟩;refine ah (x) (by rfl) (by simp) ?_;simp (disch:=omega) only[wt,seval];refine ah (y) (by rfl) (by simp) ?_;simp (disch:=omega) only[wt,seval,rqs,hF];refine⟨aX (by kernel_rfl),?_⟩;refine⟨⟨i+1,s7,by omega,?_⟩,by omega⟩
     (repeat' apply zaa)<;>first|rfl|omega
    .have h2':¬((k-i:Nat):Int)<(B.length:Int):=by omega
     rw[ig (q:=B) (by omega),zfy,zdU]at es;simp (disch:=omega) only[wt,seval,rqs,hF,hqa,hqb,hik',h1',e1,h2'];refine⟨⟨i+1,s7,by omega,?_⟩,by omega⟩;rw[es]
     (repeat' apply zaa)<;>first|rfl|omega
   .have h1':¬(i:Int)<(A.length:Int):=by omega
    rw[ig (q:=A) (by omega),zbG,zdU]at es;simp (disch:=omega) only[wt,seval,rqs,hF,hqa,hik',h1'];refine⟨⟨i+1,s7,by omega,?_⟩,by omega⟩;rw[es]
    (repeat' apply zaa)<;>first|rfl|omega
  .have hik':¬(i:Int)<=(k:Int):=by omega
   obtain rfl:i=k+1:=by omega
   rw[Ej,<-fE]at hF;have hrq:(((gJ A B).take k).map aN).length=k:=by rw[zae,zah];omega
   have et:=jR (q:=gJ A B) (i:=k) (by omega);simp (disch:=omega) only[wt,seval,rqs,hF,hik',hrq];refine⟨⟨k+1,st+1,by omega,?_⟩,by omega⟩;rw[et,zav]
   (repeat' apply zaa)<;>first|rfl|omega
 .have hlt':¬(k:Int)<(A.length:Int)+(B.length:Int):=by omega
  rw[zac (by omega)]at hF;simp (disch:=omega) only[wt,seval,hF,hqa,hqb,hlt'];refine ah (t) (by simp only[gV,qU,hF];rfl) (by simp) ?_;simp (disch:=omega) only[wt,seval,hF]
  try rfl
theorem qX (a:List RQ)(ha:BQ (2^40) (2^40) a):AC Tryz.prog 77 [cqw a,cqw a] none [cb true]:=by
 have hl:=ha.1;refine AC.aj (rs:=[.tmp 4]) aV Tryz.func77 (by rfl) (by rfl) (by rfl) (by rfl) (by rfl) ?_;simp (disch:=omega) only[wt,seval,rqs];refine aI (λf H=>∃(i:Nat),i<=a.length/\f 5=.iv (.int .i64 i)/\f 0=.iv (.sl (dN a))/\f 1=.iv (.sl (dN a))) (λf H=>(a.length-bC f 5).toNat) ?_ ?_
 .refine⟨0,by omega,?_⟩;simp only[wt,seval]
 rintro f H ⟨i,hi,hF⟩;rw[aC hF.1];simp (disch:=omega) only[wt,seval,rqs,hF];refine bf (λhlt=>?_) (λhlt=>?_)
 .have hip:i<a.length:=by omega
  have s:=a6T (a.getD i q0) (a.getD i q0) ((ha.get hip).mono (by omega)) ((ha.get hip).mono (by omega));rw[zbn rfl]at s;simp (disch:=omega) only[wt,seval,rqs,hF];refine .inl ⟨aP (by kernel_rfl),?_⟩;refine ah (s) (by rfl) (by simp) ?_;simp (disch:=omega) only[wt,seval,hF];refine⟨aX (by kernel_rfl),?_⟩;refine⟨⟨i+1,by omega,?_⟩,by omega⟩
  (repeat' apply zaa)<;>first|rfl|omega
 .simp (disch:=omega) only[wt,seval]


theorem a2j {q:Rat}(h:q≠0):((q.den:Int):Rat)/(q.num:Rat)=1/q:=by
 have hn:q.num≠0:=λe=>h (zcK.mp e)
 have h1:(q.num:Rat)≠0:=λe=>hn (zcC.mp e)
 have h2:=jh q.den_nz;have h3:q=(q.num:Rat)/(q.den:Rat):=by rw[<-zcj];exact(zcT q).symm
 rw[zaP]
 conv=>rhs;rw[h3]
 grind
theorem a2u:AC Tryz.prog 9 [ci (-1),ci 1] none [cqz (-1)]:=by
 have m:=Qi (-1) 1 (by omega) (by omega) (by omega) (by omega);rwa [show ((-1:Int):Rat)/((1:Nat):Rat) = -1 by decide +kernel]at m
theorem Ll {c:Rat}(h:c≠0)(s:Nat):au (upq c s)=upq c s:=by
 have:=EP (q:=upq c s) (n:=s) (by rw[Dp,zas rfl];exact h) λk hk=>by rw[Dp,zam (by omega)]
 rw[au,this,zac (by rw[CQ];omega)]
theorem a4D (c:Rat)(s i:Nat)(g:Nat->Rat)(k:Nat):cvq ((upq c s).take i) g k=if s<i then (if s<=k then c*g (k-s) else 0) else 0:=by
 by_cases h:s<i
 .rw[zas h,zac (by rw[CQ];omega),Ur]
 .rw[zam h];have e:(upq c s).take i=List.replicate i 0:=by
   rw[upq,zch (by rw[zcs];omega),zfp,zaZ (by omega)]
  rw[e];clear e h
  induction i generalizing k with
  |zero=>rfl
  |succ i ih =>
   rw[zfj,kS];cases k with
   |zero=>simp only[lX];grind
   |succ k=>rw[lX,ih];grind
theorem b0m (c:Rat)(s:Nat):(List.replicate s (0:Rat)).map aN++[aN c]=(upq c s).map aN:=by rw[upq,zav];rfl

section
variable {B A:List Rat} {s:Nat}
theorem PQ.b2v (f g:PQ):f+(g-f)=g:=PQ.ext λk=>by rw[PQ.vH,PQ.QJ];grind
theorem b4g (A B:List Rat):pq (dn1 A B)=pq A-pq (upq (dc A B) (A.length-B.length))*pq B:=PQ.ext λk=>by
 rw[PQ.QJ,<-eG,qZ,qZ,qZ,Nv,jM]
theorem b4f (A B:List Rat)(k:Nat):pq (dqu A B (k+1))=pq (dqu A B k)+pq (upq (dc (dit A B k) B) ((dit A B k).length-B.length)):=PQ.ext λj=>by
 rw[PQ.vH,qZ,qZ,qZ,oH,Dp]
theorem a1l (A B:List Rat):∀k,pq A=pq (dqu A B k)*pq B+pq (dit A B k)
 |0=>by rw[dqu,dit,wW,PQ.zero_mul,PQ.zero_add]
 |k+1=>by rw[b4f,dit,b4g,PQ.add_mul,PQ.add_assoc,PQ.b2v];exact a1l A B k
theorem KQ {Q R Q' R':List Rat}(h:pq Q*pq B+pq R=pq Q'*pq B+pq R')(hB:tzq B≠0)(hR:tzq R<tzq B)(hR':tzq R'<tzq B):pq Q=pq Q'/\pq R=pq R':=by
 have hc:∀k,cfq (gJ Q B) k+cfq R k=cfq (gJ Q' B) k+cfq R' k:=λk=>by
  have:=zaO (λf=>PQ.c f k) h;simp only[PQ.vH,<-eG,qZ]at this;exact this
 have hE:∀k,cfq (gJ (Ja Q (nG (-1) Q')) B) k=cfq (Ja R' (nG (-1) R)) k:=λk=>by
  have e1:pq (gJ (Ja Q (nG (-1) Q')) B)=pq (gJ Q B)+PQ.C (-1)*pq (gJ Q' B):=by
   rw[eG,TA,uN,PQ.add_mul,PQ.mul_assoc,eG,eG]
  have e2:=zaO (λf=>PQ.c f k) e1;simp only[PQ.vH,PQ.gG,qZ]at e2;rw[e2,nZ,iw];have:=hc k
  grind
 have hl:tzq (Ja R' (nG (-1) R))<tzq B:=by
  refine za3 (Zw (n:=max (tzq R) (tzq R')) λk hk=>?_) (by omega);rw[nZ,iw,yA R (by omega),yA R' (by omega)]
  grind
 by_cases h0:tzq (Ja Q (nG (-1) Q'))=0
 .have z1:=dH.mp h0;have z2:=dH.mp ((lu hE).symm.trans (uz (.inl h0)));refine⟨PQ.ext λk=>?_,PQ.ext λk=>?_⟩
  .have:=z1 k;rw[nZ,iw]at this;rw[qZ,qZ]
   grind
  .have:=z2 k;rw[nZ,iw]at this;rw[qZ,qZ]
   grind
 .have h1:=Ls h0 hB;rw[lu hE]at h1;omega
theorem a2b (tb:au B=B)(h0:B.length≠0):cfq B (B.length-1)≠0:=by
 have ht:=dA tb;have:=jd (q:=B) (by omega);rwa [ht]at this
theorem IU {n:Nat}(h0:B.length≠0)(hb:cfq B (B.length-1)≠0)(hj:∀j,j<n->B.length<=(dit A B j).length)(hs:A.length+1<=s+B.length):n<=s:=by
 cases n with
 |zero=>omega
 |succ n =>
  have h1:=zK h0 hb n λj h=>hj j (by omega)
  have h2:=hj n (by omega);omega
theorem Fq {D m M N:Nat}(hA:CB D m M A)(hC:PB m N (clr B))(hB:QB m M B)(ta:au A=A)(tb:au B=B)(h0:B.length≠0)(hs:A.length+1<=s+B.length)(hm:m<=2^28)(hK:M+s*(N+1)<=2^32)(h1:1<=M):∃n,DV A B n (M+s*(N+1)):=by
 have hb:=a2b tb h0;obtain⟨n,en,hj,_⟩:=b1Y A h0 hb;have hn:=IU h0 hb hj hs;refine⟨n,⟨zad hA.l hm,zad hB.1 hm,h0,hb,ta,tb,en,hj,λk hk i=>?_,λi=>?_,by omega,hK⟩⟩
 .obtain⟨E,hE⟩:=a3a hA hC h0 hb k λj hjk=>hj j (by omega)
  have h1:=hE.qb.cz (by omega) i;have h2:k*(N+1)<=s*(N+1):=zag _ (by omega);omega
 .have:=hB.cz h1 i;omega
theorem a7t (q:List Int):lS (qp q)=1:=by
 have h:∀x∈uq (qp q),x∣1:=λx hx=>by
  obtain⟨c,hc,rfl⟩:=zaw.1 hx;obtain⟨z,_,rfl⟩:=zaw.1 hc;rw[Rat.den_intCast];exact Nat.dvd_refl 1
 have:=Bh (uq (qp q)) (uq (qp q)).length h;rw[zaM]at this;exact Nat.dvd_one.mp this
theorem YA (q:List Int)(k:Nat):cf (clr (qp q)) k=cf q k:=by
 have h:=BK (qp q) k;rw[a7t,jm,show ((1:Nat):Rat)=1 from rfl,Rat.mul_one]at h;exact zcx.mp h
end

theorem F9 (p:List RI)(h:RP (2^40) (2^37) p):AC Tryz.prog 150 [cw p] none [cqp (qp (pv p))]:=by
 have hl:=h.1;have hql:(qp (pv p)).length=p.length:=by rw[P5,iT]
 have hX:QB (2^40) (2^38) (qp (pv p)):=.of (by omega) λk=>by
  rw[jm];have h1:=a8A (cf (pv p) k);have h2:=h.pv.cf k;omega
 have n:=Jo ((qp (pv p)).map aN) hX.gq;rw[dG]at n;refine AC.aj (rs:=[.tmp 2]) aV Tryz.func150 (by rfl) (by rfl) (by rfl) (by rfl) (by rfl) ?_;simp only[wt,seval];refine bU 3 3 32 3 (by simp only[wt,seval]) (λf H=>∃(i st:Nat),i<=p.length/\f 4=.iv (.int .i64 i)/\f 0=.iv (.sl (bZ p))/\f 3=.hs 3 st/\H 3=.blk false st 32 3 (dN (((qp (pv p)).take i).map aN))) (λf H=>(p.length-bC f 4).toNat) ?_ ?_
 .refine⟨0,1,by omega,?_⟩;simp only[wt,seval,rqs,fJ,fH,zaj]
 rintro f H ⟨i,st,hi,hF⟩;rw[aC hF.1];simp (disch:=omega) only[wt,seval,hF];by_cases hlt:i<p.length
 .have hlt':(i:Int)<(p.length:Int):=by omega
  have hrq:(((qp (pv p)).take i).map aN).length=i:=by rw[zae,zah];omega
  have et:=jR (q:=qp (pv p)) (i:=i) (by omega);have z:=b7u (p.getD i (false,[])) ((h.get i).mono (by omega));rw[<-qI,<-jm]at z;simp (disch:=omega) only[wt,seval,hF,hlt'];refine ah (z) (by rfl) (by simp) ?_;simp (disch:=omega) only[wt,seval,rqs,hF,hrq];refine⟨⟨i+1,st+1,by omega,?_⟩,by omega⟩;rw[et,zav]
  (repeat' apply zaa)<;>first|rfl|omega
 .have hlt':¬(i:Int)<(p.length:Int):=by omega
  rw[zac (by omega)]at hF;simp (disch:=omega) only[wt,seval,hF,hlt'];refine ah (n) (by simp only[gV,qU,hF];rfl) (by simp) ?_;simp (disch:=omega) only[wt,seval,hF]
  try rfl
theorem a0n (a b:List Nat)(ha:Lim a)(hb:Lim b)(hla:a.length<=2^36)(hlb:b.length<=2^36)(h0:nv a≠0)(h1:nv b≠0):AC Tryz.prog 276 [cl a,cl b] none [cl (wd (Nat.lcm (nv a) (nv b)))]:=by
 have z1:=EU a ha (by omega);have z2:=EU b hb (by omega);rw[zaW h0]at z1;rw[zaW h1]at z2;have t:=wQ a b ha hb (by omega) (by omega);have g:=Td a b ha hb (by omega) (by omega);have hg0:Nat.gcd (nv a) (nv b)≠0:=Nat.ne_of_gt (Nat.gcd_pos_of_pos_left _ (by omega));have wa:=iP ha;have wb:=iP hb;have wg:=bF (Nat.gcd_le_left (m:=nv a) (nv b) (by omega));have wm:=fA (nv a:Int) (nv b:Int);have wm2:(wd (nv a*nv b)).length<=2^37:=by
  have e:zl ((nv a:Int)*(nv b:Int))=(wd (nv a*nv b)).length:=by unfold zl;rw[zcc,zbi,zbi]
  have e1:zl (nv a:Int)=(wd (nv a)).length:=by unfold zl;rw[zbi]
  have e2:zl (nv b:Int)=(wd (nv b)).length:=by unfold zl;rw[zbi]
  omega
 have q:=D6 (wd (nv a*nv b)) (wd (Nat.gcd (nv a) (nv b))) (bg _) (bg _) (by omega) (by omega) (by rw[bJ];exact hg0);rw[bJ,bJ,show nv a*nv b/Nat.gcd (nv a) (nv b)=Nat.lcm (nv a) (nv b) from rfl]at q;refine AC.aj (rs:=[.tmp 4]) aV Tryz.func276 (by rfl) (by rfl) (by rfl) (by rfl) (by rfl) ?_;simp only[wt,seval];refine ah (z1) (by rfl) (by simp) ?_;simp only[wt,seval];refine ah (z2) (by rfl) (by simp) ?_;simp (disch:=omega) only[wt,seval];refine ah (t) (by rfl) (by simp) ?_;simp only[wt,seval];refine ah (g) (by rfl) (by simp) ?_;simp only[wt,seval];refine ah (q) (by rfl) (by simp) ?_;simp (disch:=omega) only[wt,seval]
 try rfl
theorem Yz (A:List Rat)(n k:Nat)(hA:QB n k A)(hn:n<=2^28)(hM:n*k+k+2<=2^34)(hk:1<=k):AC Tryz.prog 242 [cqw (A.map aN)] none [cp (clr A)]:=by
 have hAl:=hA.1;have hq:(A.map aN).length=A.length:=zae _;have hdl:=vg A;have hcl:=vF A;have w1:=uI 1 (by omega);have e0:wd (Cm ((uq A).take 0))=wd 1:=by rw[zaj];rfl
 have hcd:=og hA;have hzc:∀i,zl (cf (clr A) i)<=2^38:=λi=>by
  by_cases hi:i<A.length
  .rw[Dn hi];have h1:=fA (cfq A i).num ((lS A:Int)/((cfq A i).den:Int));have h2:=yH (zb4.mpr (rJ hi));have h3:zl (lS A:Int)=(wd (lS A)).length:=by unfold zl;rw[zbi]
   have h4:=(jg (cfq A i)).1;have h5:=hA.cz hk i;have h6:n*k+k+2<=2^34:=hM;omega
  .rw[kX (by omega),iC];omega
 have nn:=vU ((clr A).map canon) ((RP.canon (.of (n:=2^28) (by omega) hzc)).mono (by omega) (by omega));rw[fP]at nn;refine AC.aj (rs:=[.tmp 2]) aV Tryz.func242 (by rfl) (by rfl) (by rfl) (by rfl) (by rfl) ?_;simp only[wt,seval];refine ah (w1) (by rfl) (by simp) ?_;simp only[wt,seval];refine aI (λf H=>∃(i:Nat),i<=A.length/\f 4=.iv (.int .i64 i)/\f 0=.iv (.sl (dN (A.map aN)))/\f 3=.iv (.sl (dh (wd (Cm ((uq A).take i)))))) (λf H=>(A.length-bC f 4).toNat) ?_ ?_
 .refine⟨0,by omega,?_⟩;simp only[wt,seval,e0]
 rintro f H ⟨i,hi,hF⟩;rw[aC hF.1];simp (disch:=omega) only[wt,seval,rqs,hF];by_cases hlt':i<A.length
 .have hlt:(i:Int)<(A.length:Int):=by omega
  obtain⟨a1,a2,a3⟩:=lI (uq A) k IY hA.uq i (by omega);have h2:i*k<=n*k:=zag _ (by omega);have e:=dZ hlt';have e2:dh (aN (cfq A i)).2=dh (wd (cfq A i).den):=rfl;have hc2:=jg (cfq A i);have hc:=hA.cz hk i;have hdn:=(cfq A i).den_nz;have g:=a0n (wd (Cm ((uq A).take i))) (wd (cfq A i).den) (bg _) (bg _) (by omega) (by omega) (by rw[bJ];exact a1) (by rw[bJ];exact hdn);rw[bJ,bJ,<-FB hlt',<-xu (by omega),FB hlt']at g;simp (disch:=omega) only[wt,seval,rqs,hF,hq,hlt,e,e2];refine ah (g) (by rfl) (by simp) ?_;simp (disch:=omega) only[wt,seval,hF];refine⟨⟨i+1,by omega,?_⟩,by omega⟩
  try (repeat' apply zaa)<;>first|rfl|omega
 .have hlt:¬(i:Int)<(A.length:Int):=by omega
  obtain rfl:i=A.length:=by omega
  rw[zac (by omega),show Cm (uq A)=lS A from rfl]at hF;simp (disch:=omega) only[wt,seval,hq,hlt];refine bU 5 5 30 2 (by simp only[wt,seval]) (λf H=>∃(i st:Nat),i<=A.length/\f 6=.iv (.int .i64 i)/\f 0=.iv (.sl (dN (A.map aN)))/\f 3=.iv (.sl (dh (wd (lS A))))/\f 5=.hs 5 st/\H 5=.blk false st 30 2 (bZ (((clr A).take i).map canon))) (λf H=>(A.length-bC f 6).toNat) ?_ ?_
  .refine⟨0,(H 5).stamp+1,by omega,?_⟩;simp only[wt,seval,fJ,fH,hF,fJ,fH,zaj]
  rintro f H ⟨i,st,hi,hF⟩;rw[aC hF.1];simp (disch:=omega) only[wt,seval,rqs,hF];by_cases hlt':i<A.length
  .have hlt:(i:Int)<(A.length:Int):=by omega
   have hrq:(((clr A).take i).map canon).length=i:=by rw[zae,zah];omega
   have et:=tC (q:=clr A) (i:=i) (by omega);have e:=dZ hlt';have e2:dh (aN (cfq A i)).2=dh (wd (cfq A i).den):=rfl;have e3:jy (aN (cfq A i)).1=jy (canon (cfq A i).num):=rfl;have hc2:=jg (cfq A i);have hc:=hA.cz hk i;have hdn:=(cfq A i).den_nz;have qo:=D6 (wd (lS A)) (wd (cfq A i).den) (bg _) (bg _) (by omega) (by omega) (by rw[bJ];exact hdn);rw[bJ,bJ]at qo;have hql:=bF (zbO (lS A) (cfq A i).den);have ri:=vW false (wd (lS A/(cfq A i).den)) (bg _) (by omega);rw[bJ,show sg false (lS A/(cfq A i).den)=((lS A/(cfq A i).den:Nat):Int) from rfl]at ri;have m:=wR (canon (cfq A i).num) (canon ((lS A/(cfq A i).den:Nat):Int)) ((aY _).mono (by omega)) ((aY _).mono (by unfold zl;rw[zbi];omega));rw[aS,aS,show (cfq A i).num*((lS A/(cfq A i).den:Nat):Int)=cf (clr A) i by rw[Dn hlt',Int.natCast_ediv]]at m;simp (disch:=omega) only[wt,seval,rqs,hF,hq,hlt,e,e2];refine ah (qo) (by rfl) (by simp) ?_;simp (disch:=omega) only[wt,seval,rqs,hF,hq,hlt,e,e2,e3];refine .inl ⟨aP (by kernel_rfl),?_⟩;refine ah (ri) (by rfl) (by simp) ?_;simp (disch:=omega) only[wt,seval];refine ah (m) (by rfl) (by simp) ?_;simp (disch:=omega) only[wt,seval,hF,hrq];refine⟨aX (by kernel_rfl),?_⟩;refine⟨⟨i+1,st+1,by omega,?_⟩,by omega⟩;rw[et,zav]
   (repeat' apply zaa)<;>first|rfl|omega
  .have hlt:¬(i:Int)<(A.length:Int):=by omega
   rw[zac (by omega)]at hF;simp (disch:=omega) only[wt,seval,hF,hq,hlt];refine ah (nn) (by simp only[gV,qU,hF];rfl) (by simp) ?_;simp (disch:=omega) only[wt,seval,hF]
   try rfl
theorem Wx (A B:List Rat)(hA:QB (2^30) (2^33) A)(hB:QB (2^30) (2^33) B):AC Tryz.prog 245 [cqw (A.map aN),cqw (B.map aN)] none [cqp (Ja A (au (nG (-1) B)))]:=by
 have b:=a9m B (aN (-1)) (2^33) hB (cO (by rw[a0I,OU];omega)) (cZ _) (by omega) (by omega);rw[eF]at b;have hsl:(nG (-1) B).length=B.length:=by simp[nG]
 have hBl:=hB.1;have hS:QB (2^30) (2^33) (nG (-1) B):=.of (by omega) λk=>by
  rw[iw,show cfq B k * -1 = -cfq B k by grind,a0I];exact hB.cz (by omega) k
 have p:=VR A (au (nG (-1) B)) hA hS.au;refine AC.aj (rs:=[.tmp 4]) aV Tryz.func245 (by rfl) (by rfl) (by rfl) (by rfl) (by rfl) ?_;simp only[wt,seval];refine ah (a2u) (by rfl) (by simp) ?_;simp only[wt,seval];refine ah (b) (by rfl) (by simp) ?_;simp only[wt,seval];refine ah (p) (by rfl) (by simp) ?_;simp (disch:=omega) only[wt,seval]
 try rfl
set_option maxHeartbeats 1000000 in
theorem KP (p r:List RQ)(hp:GQ (2^30) (2^30) p)(hr:GQ (2^30) (2^30) r)(n K:Nat)(v:DV (au (qvs p)) (au (qvs r)) n K)(hKK:K<=2^30):AC Tryz.prog 243 [cqw p,cqw r] none [cqp (dqu (au (qvs p)) (au (qvs r)) n),cqw ((dit (au (qvs p)) (au (qvs r)) n).map aN)]:=by
 have m:=Jo p (hp.mono (by omega) (by omega));have m2:=Jo r (hr.mono (by omega) (by omega));have z0:=Qi 0 1 (by omega) (by omega) (by omega) (by omega);rw[show ((0:Int):Rat)/((1:Nat):Rat)=0 by decide +kernel]at z0;refine AC.aj (rs:=[.tmp 4,.tmp 5]) aV Tryz.func243 (by rfl) (by rfl) (by rfl) (by rfl) (by rfl) ?_;simp only[wt,seval];refine ah (m) (by rfl) (by simp) ?_;simp only[wt,seval];refine ah (m2) (by rfl) (by simp) ?_;simp (disch:=omega) only[wt,seval];unfold cqs;generalize au (qvs p)=A at *;generalize au (qvs r)=B at *;obtain⟨la,lb,h0,hb,ta,tb,en,hj,za,zb,k1,k2⟩:=v;have hqb:(B.map aN).length=B.length:=List.length_map _;refine rZ (.iv 6 15 1 false 32 3 [] (by simp only[wt,seval]) (by simp only[wt,seval]) (.refl _ _)) (λf H=>∃k:Nat,k<=n/\f 0=.iv (.sl (dN ((dit A B k).map aN)))/\f 1=.iv (.sl (dN (B.map aN)))/\f 6=.iv (.sl (dN (cqs (dqu A B k))))) (λf H=>match f 0 with | .iv (.sl l)=>l.length|_=>0) ?_ ?_
 .exact⟨0,Nat.zero_le _,by simp only[wt,seval]<;>rfl,by simp only[wt,seval],by simp only[wt,seval];rfl⟩
 rintro f H ⟨k,hk,g0,g1,g6⟩;have hql:((dit A B k).map aN).length=(dit A B k).length:=List.length_map _;have hmu:(match f 0 with | .iv (.sl l)=>l.length|_=>0)=(dit A B k).length:=by rw[g0];simp only[];rw[uK,hql]
 rw[hmu];by_cases hge:B.length<=(dit A B k).length
 .have hkn:k<n:=Nat.lt_of_le_of_ne hk λe=>by rw[e]at hge;omega
  have hl1:=zK h0 hb k λj hjk=>hj j (by omega)
  have ll:=IJ h0 hb k λj hjk=>hj j (by omega)
  have hdn:=IL h0 hb hge;have zx:=za k hk;have zq:=BA h0 hb za zb k1 k hk λj hjk=>hj j (by omega)
  have b5W:dit A B (k+1)=dn1 (dit A B k) B:=rfl;have htx:=Fz (B:=B) ta k;have hdq:dqu A B (k+1)=FW (fma 1) (dqu A B k) (upq (dc (dit A B k) B) ((dit A B k).length-B.length)):=rfl;generalize hQ':dqu A B (k+1)=Q' at *;generalize hXX:dit A B k=X at *;generalize dqu A B k=Q at *;obtain⟨s,hs⟩:∃s,s=X.length-B.length:=⟨_,rfl⟩;rw[<-hs]at hdq;have zc:=a0J (cfq X (X.length-1)) (cfq B (B.length-1));have zc1:=zx (X.length-1);have zc2:=zb (B.length-1);have mq:=Fh (aN (cfq X (X.length-1))) (aN (cfq B (B.length-1))) (cO (by omega)) (cO (by omega)) (cZ _) (cZ _) (by rw[Ig];exact λe=>hb (Rat.num_eq_zero.mp e));rw[eF,eF,show cfq X (X.length-1)/cfq B (B.length-1)=dc X B from rfl]at mq;rw[show cfq X (X.length-1)/cfq B (B.length-1)=dc X B from rfl]at zc;have hc0:dc X B≠0:=by
   have ht:=dA htx;have h1:=jd (q:=X) (by omega);rw[ht]at h1;intro e;have h2:=Rat.div_mul_cancel (a:=cfq X (X.length-1)) hb;rw[show cfq X (X.length-1)/cfq B (B.length-1)=dc X B from rfl,e,Rat.zero_mul]at h2;exact h1 h2.symm
  have hU:QB (2^30) (2*K) (upq (dc X B) s):=.of (by rw[CQ];omega) λi=>by
   rw[Dp];split
   .omega
   .rw[zy];omega
  have hQB:QB (2^30) (2*K) Q:=.of (by omega) λi=>by have:=zq i;omega
  have hXB:QB (2^30) K X:=.of (by omega) zx;have hBB:QB (2^30) K B:=.of (by omega) zb;have p1:=VR (au Q) (upq (dc X B) s) (hQB.au.mono (Nat.le_refl _) (by omega)) (hU.mono (Nat.le_refl _) (by omega));rw[show cqp (Ja (au Q) (upq (dc X B) s))=cqw (cqs Q') from congrArg cqw (vC λj=>by rw[hdq,jw (Fp _),nZ,dQ];unfold fma;grind),show cqw ((au Q).map aN)=cqw (cqs Q) from rfl]at p1;have hzc:∀k,qz (dc X B*cfq B k)<=3*K:=λk=>by
   have h1:=Gw (dc X B) (cfq B k);have h2:=zb k;omega
  have tt:=Oz (upq (dc X B) s) B (hU.mono (Nat.le_refl _) (by omega)) (hBB.mono (Nat.le_refl _) (by omega)) (by
   intro i k;rw[a4D];have:=hzc (k-s);split
   .split
    .omega
    .rw[zy];omega
   .rw[zy];omega)
  have hMB:QB (2^30) (4*K) (gJ (upq (dc X B) s) B):=.of (by rw[Wq,CQ];omega) λi=>by
   rw[jM];have:=hzc (i-s);split
   .omega
   .rw[zy];omega
  have p2:=Wx X (au (gJ (upq (dc X B) s) B)) (hXB.mono (Nat.le_refl _) (by omega)) (hMB.au.mono (Nat.le_refl _) (by omega));rw[show cqp (Ja X (au (nG (-1) (au (gJ (upq (dc X B) s) B)))))=cqw ((dn1 X B).map aN) from congrArg cqw (by
   rw[cqs]
   congr 1
   rw[dn1,<-hs];exact jk λj=>by rw[jw (Fp _),nZ,dQ,iw,dQ];unfold fma;grind),show cqw ((au (gJ (upq (dc X B) s) B)).map aN)=cqp (gJ (upq (dc X B) s) B) from rfl]at p2
  have hge':(B.length:Int)<=(X.length:Int):=by omega
  have e1:(X.length:Int)-1=((X.length-1:Nat):Int):=by omega
  have e2:(B.length:Int)-1=((B.length-1:Nat):Int):=by omega
  have e3:(X.length:Int)-(B.length:Int)=(s:Int):=by omega
  have c1:=dZ (q:=X) (i:=X.length-1) (by omega);have c2:=dZ (q:=B) (i:=B.length-1) (by omega);simp (disch:=omega) only[wt,seval,rqs,g0,g1,hql,hqb,hge',e1,e2,c1,c2];refine .inl ⟨aP (by kernel_rfl),?_⟩;refine ah (mq) (by rfl) (by simp) ?_;simp (disch:=omega) only[wt,seval,rqs];refine⟨aX (by kernel_rfl),?_⟩;refine aI (λf H=>∃(i st sc:Nat),i<=s/\f 9=.iv (.int .i64 i)/\f 0=.iv (.sl (dN (X.map aN)))/\f 1=.iv (.sl (dN (B.map aN)))/\f 6=.iv (.sl (dN (cqs Q)))/\f 7=.hp 7 sc 0 0/\H 7=.blk false sc 32 3 [pW (aN (dc X B))]/\f 8=.hs 34 st/\H 34=.blk false st 32 3 (dN ((List.replicate i (0:Rat)).map aN))) (λf H=>(s-bC f 9).toNat) ?_ ?_
  .refine⟨0,(H 34).stamp+1,(H 7).stamp+1,by omega,?_⟩;simp only[wt,seval,rqs,g0,g1,g6,List.replicate_zero]
  rintro f H ⟨i,st,sc,hi,hF⟩;rw[aC hF.1];simp (disch:=omega) only[wt,seval,rqs,hF];have hrq:((List.replicate i (0:Rat)).map aN).length=i:=by simp
  have hXl:(X.map aN).length=X.length:=List.length_map _;by_cases hlt':i<s
  .have hlt:(i:Int)<(s:Int):=by omega
   simp (disch:=omega) only[wt,seval,hF,hXl,hqb,e3,hlt];refine ah (z0) (by rfl) (by simp) ?_;simp (disch:=omega) only[wt,seval,rqs,hF,hrq];refine⟨⟨i+1,st+1,sc,by omega,?_⟩,by omega⟩;rw[List.replicate_succ',List.map_append]
   (repeat' apply And.intro)<;>first|rfl|omega
  .have hlt:¬(i:Int)<(s:Int):=by omega
   obtain rfl:i=s:=by omega
   have hup:=b0m (dc X B) i;simp (disch:=omega) only[wt,seval,rqs,hF,hrq,hXl,hqb,e3,hlt,hup];refine .inl ⟨aP (by kernel_rfl),?_⟩;refine⟨aX (by kernel_rfl),?_⟩;refine ah (p1) (by rfl) (by simp) ?_;simp (disch:=omega) only[wt,seval,hF];refine ah (tt) (by rfl) (by simp) ?_;simp (disch:=omega) only[wt,seval];refine ah (p2) (by rfl) (by simp) ?_;simp (disch:=omega) only[wt,seval,rqs,hF];refine⟨⟨k+1,hkn,?_⟩,?_⟩
   .rw[b5W,hQ']
    (repeat' apply And.intro)<;>first|rfl|omega
   .rw[List.length_map];exact hdn
 .obtain rfl:k=n:=by
   rcases Nat.lt_or_ge k n with h|h
   .exact absurd (hj k h) hge
   .omega
  have hge':¬(B.length:Int)<=((dit A B k).length:Int):=by omega
  simp (disch:=omega) only[wt,seval,rqs,g0,g1,g6,hql,hqb,hge']
  try rfl
section
variable {A q S R P B:List Int} {n K:Nat} {c:Int} {p r:List RI}
theorem b2g (h:tz A=0):cp A=cw []:=by
 have e:iQ A=[]:=zbt (by rw[aW];exact h);unfold cp;rw[e];rfl
theorem a2k {M:Nat}(hl:q.length<=n)(hM:1<=M)(h:SBd M q):CB 1 n M (qp q) where
 d:=by decide
 w:=zad (bH.mpr (by rw[zes];simp only[W];omega)) hM
 l:=by rw[P5];exact hl
 c:=λc hc=>by
  obtain⟨i,hi,rfl⟩:=zbE hc;rw[<-oN hi,jm];refine⟨cf q i,?_,h i⟩;rw[show ((1:Nat):Rat)=1 from rfl];grind
theorem a5T (h:pq (qp S)*pq (qp R)=PQ.C (c:Rat)*pq (qp P)):ps S*ps R=PS.C c*ps P:=PS.ext λk=>by
 have e:=zaO (λf=>PQ.c f k) h;simp only[PQ.gG,<-eG,qZ]at e;rw[<-qH,jm,jm,<-zbw]at e;rw[<-dP,PS.gG,F6,F6];exact zcx.mp e
theorem VQ (h:ps S*ps R=PS.C c*ps P):pq (qp S)*pq (qp R)=PQ.C (c:Rat)*pq (qp P):=PQ.ext λk=>by
 have e:=zaO (λf=>PS.c f k) h;simp only[PS.gG,<-dP,F6]at e;rw[PQ.gG,<-eG,qZ,qZ,<-qH,jm,jm,e,zbw]
theorem a6a (Q:List Rat):pq (qp (clr Q))=PQ.C (lS Q:Rat)*pq Q:=PQ.ext λk=>by
 rw[PQ.gG,qZ,qZ,jm,BK,ze0]
structure OV (P R:List Int) (n K:Nat):Prop where
 dv:DV (qp (aO P)) (qp (aO R)) n K
 w:decide ((dit (qp (aO P)) (qp (aO R)) n).length=0)=dvb R P
 q:Dv R P->∀k,((lc R^dxp P R:Int):Rat)*cfq (dqu (qp (aO P)) (qp (aO R)) n) k=(cf (dq P R) k:Rat)
 s:Dv R P->ps (clr (dqu (qp (aO P)) (qp (aO R)) n))*ps R=PS.C (lS (dqu (qp (aO P)) (qp (aO R)) n):Int)*ps P
theorem b0T {S:Nat}(h0:tz R≠0)(tP:tz P<=40)(tR:tz R<=40)(sP:SBd S P)(sR:SBd S R)(hS:S<=2^20):∃n,OV P R n (S+1+41*(S+1)):=by
 have lP:=dw P;have lR:=dw R;have sP':SBd (S+1) (aO P):=λi=>by rw[bM];exact zad (sP i) (by omega)
 have sR':SBd (S+1) (aO R):=λi=>by rw[bM];exact zad (sR i) (by omega)
 have cA:=a2k (n:=40) (M:=S+1) (by omega) (by omega) sP';have cB:=a2k (n:=40) (M:=S+1) (by omega) (by omega) sR';have ta:au (qp (aO P))=qp (aO P):=by rw[zB,iM]
 have tb:au (qp (aO R))=qp (aO R):=by rw[zB,iM]
 have la:(qp (aO P)).length=tz P:=by rw[P5,lP]
 have lb:(qp (aO R)).length=tz R:=by rw[P5,lR]
 have pcB:PB 40 S (clr (qp (aO R))):=.of (by rw[vF];omega) λi=>by rw[YA,bM];exact sR i
 obtain⟨n,dv⟩:=Fq (s:=41) cA pcB cB.qb ta tb (by omega) (by omega) (by omega) (by omega) (by omega);have epA:pq (qp (aO P))=pq (qp P):=PQ.ext λk=>by rw[qZ,qZ,jm,jm,bM]
 have epB:pq (qp (aO R))=pq (qp R):=PQ.ext λk=>by rw[qZ,qZ,jm,jm,bM]
 have eq:=a1l (qp (aO P)) (qp (aO R)) n;have en:=dv.en;have hB0:tzq (qp (aO R))≠0:=by rw[a8k,A8];exact h0
 have hT:tzq (dit (qp (aO P)) (qp (aO R)) n)<tzq (qp (aO R)):=by
  rw[dA (Fz ta n),dA tb];exact en
 have key:∀(S':List Int) (c:Int),c≠0->ps S'*ps R=PS.C c*ps P->pq (nG (1/(c:Rat)) (qp S'))=pq (dqu (qp (aO P)) (qp (aO R)) n)/\pq []=pq (dit (qp (aO P)) (qp (aO R)) n):=λS' c hc e=>by
  have hcq:(c:Rat)≠0:=λh=>hc (zcx.mp (by rw[h];rfl))
  refine KQ (B:=qp (aO R)) ?_ hB0 (by rw[show tzq []=0 from rfl];omega) hT;rw[<-eq,epA,epB,wW,PQ.add_zero,uN,PQ.mul_assoc,VQ e,<-PQ.mul_assoc,<-PQ.qO,show 1/(c:Rat)*(c:Rat)=1 from zbm hcq,PQ.Ce,PQ.one_mul]
 have fw:Dv R P->(dit (qp (aO P)) (qp (aO R)) n).length=0:=λ⟨c,S',hc,e⟩=>by
  have h1:=(key S' c hc e).2;rw[<-dA (Fz (B:=qp (aO R)) ta n)];exact dH.mpr λk=>by
   have:=zaO (λf=>PQ.c f k) h1;simp only[qZ]at this;rw[<-this];rfl
 have ps0:(dit (qp (aO P)) (qp (aO R)) n).length=0->ps (clr (dqu (qp (aO P)) (qp (aO R)) n))*ps R=PS.C (lS (dqu (qp (aO P)) (qp (aO R)) n):Int)*ps P:=λh=>by
  refine a5T ?_;rw[zbt h,wW,PQ.add_zero,epA,epB]at eq;rw[a6a,PQ.mul_assoc,<-eq,zaP]
 refine⟨n,dv,?_,λhd k=>?_,λhd=>ps0 (fw hd)⟩
 .rw[zfh,uX,zeH];refine⟨λh=>⟨_,_,?_,ps0 h⟩,fw⟩;have:=kG (dqu (qp (aO P)) (qp (aO R)) n);omega
 .have e:=Bz P R;rw[jV ((a2V h0).mp hd),PS.add_zero]at e;have h1:=(key _ _ (Eb h0 _) e).1;have hcq:((lc R^dxp P R:Int):Rat)≠0:=λh=>Eb h0 _ (zcx.mp (by rw[h];rfl))
  have h2:=zaO (λf=>PQ.c f k) h1;simp only[qZ]at h2;rw[<-h2,iw,jm];have h3:=zbm (a:=1) hcq
  grind
theorem OV.qsz (v:OV P R n K)(tP:tz P<=40):QB 41 (2*K) (dqu (qp (aO P)) (qp (aO R)) n):=by
 have ll:=IJ v.dv.h0 v.dv.hb n v.dv.hj;rw[P5,dw]at ll;refine .of (by omega) λi=>?_;have:=BA v.dv.h0 v.dv.hb v.dv.za v.dv.zb v.dv.k1 n (zab _) v.dv.hj i;omega
theorem GN (p r:List RI)(n S:Nat)(hp:RP 40 S p)(hr:RP 40 S r)(hS:S<=2^20)(v:OV (pv p) (pv r) n (S+1+41*(S+1))):AC Tryz.prog 237 [cw p,cw r] none [cqp (dqu (qp (aO (pv p))) (qp (aO (pv r))) n),cb (dvb (pv r) (pv p))]:=by
 have o1:=F9 p (hp.mono (by omega) (by omega));have o2:=F9 r (hr.mono (by omega) (by omega));have g:∀{q:List RI},RP 40 S q->GQ (2^30) (2^30) (cqs (qp (pv q))):=λ{q} hq=>by
  have h1:=a2k (q:=pv q) (n:=40) (M:=S+1) (by rw[iT];exact hq.1) (by omega) ((mX hq).mono (by omega));exact(h1.qb.mono (by omega) (by omega)).gqs
 have e1:∀q:List RI,au (qvs (cqs (qp (pv q))))=qp (aO (pv q)):=λq=>by rw[b0v,aZ,zB]
 have d:=KP (cqs (qp (pv p))) (cqs (qp (pv r))) (g hp) (g hr) n (S+1+41*(S+1)) (by rw[e1,e1];exact v.dv) (by omega);rw[e1,e1]at d;have hw:=v.w;have hdl:((dit (qp (aO (pv p))) (qp (aO (pv r))) n).map aN).length=(dit (qp (aO (pv p))) (qp (aO (pv r))) n).length:=zae _;refine AC.aj (rs:=[.tmp 4,.tmp 5]) aV Tryz.func237 (by rfl) (by rfl) (by rfl) (by rfl) (by rfl) ?_;simp only[wt,seval];refine ah (o1) (by rfl) (by simp) ?_;simp only[wt,seval];refine ah (o2) (by rfl) (by simp) ?_;simp only[wt,seval];refine ah (d) (by rfl) (by simp) ?_;simp (disch:=omega) only[wt,seval,rqs,hdl];rw[<-hw];exact zbA.mpr (by omega)
theorem TM (p r:List RI)(S:Nat)(hp:RP 40 S p)(hr:RP 40 S r)(hS:S<=2^20)(h0:tz (pv r)≠0)(hd:Dv (pv r) (pv p)):AC Tryz.prog 238 [cw p,cw r] none [cp (quo (pv p) (pv r))]:=by
 obtain⟨n,v⟩:=b0T h0 (yF hp) (yF hr) (mX hp) (mX hr) hS;have o:=GN p r n S hp hr hS v;have qb:=v.qsz (yF hp);have e:=v.s hd;generalize dqu (qp (aO (pv p))) (qp (aO (pv r))) n=Q at *;have c:=Yz (au Q) 41 (2*(S+1+41*(S+1))) qb.au (by omega) (by omega) (by omega);have e2:∀k,cf (clr (au Q)) k*(lS Q:Int)=cf (clr Q) k*(lS (au Q):Int):=λk=>by
  refine zcx.mp ?_;rw[zbw,zbw,BK,BK,dQ,zaP,zaP]
  grind
 have a1:As (clr (au Q)) (clr Q):=⟨(lS Q:Int),(lS (au Q):Int),by have:=kG Q;omega,by have:=kG (au Q);omega,PS.ext λk=>by rw[PS.gG,PS.gG,F6,F6,zcR,e2,zcR]⟩;have a2:=Gy (A:=pv p) (B:=pv r) h0 (by have:=kG Q;omega) e;have hz:∀i,zl (cf (clr (au Q)) i)<=2^35:=λi=>by
  by_cases hi:i<(au Q).length
  .rw[Dn hi];have h1:=fA (cfq (au Q) i).num ((lS (au Q):Int)/((cfq (au Q) i).den:Int));have h2:=yH (zb4.mpr (rJ hi));have h3:zl (lS (au Q):Int)=(wd (lS (au Q))).length:=by unfold zl;rw[zbi]
   have h4:=(jg (cfq (au Q) i)).1;have h5:=qb.au.cz (by omega) i;have h6:=og qb.au;omega
  .rw[kX (by rw[vF];omega),iC];omega
 have tq:tz (clr (au Q))<=41:=zad (CS _) (by rw[vF];exact qb.au.1);have pr:=sU (p:=cn (clr (au Q))) (A:=clr (au Q)) ((lQ tq hz).mono (by omega) (by omega)) (fF _);rw[show cp (npr (clr (au Q)))=cp (quo (pv p) (pv r)) from zL (((kD _).symm.trans (a1.trans a2)).uniq (lG _) (oM _ _))]at pr;refine AC.aj (rs:=[.tmp 4]) aV Tryz.func238 (by rfl) (by rfl) (by rfl) (by rfl) (by rfl) ?_;simp only[wt,seval];refine ah (o) (by rfl) (by simp) ?_;simp (disch:=omega) only[wt,seval];refine ah (c) (by rfl) (by simp) ?_;simp only[wt,seval];refine ah (pr) (by rfl) (by simp) ?_;simp (disch:=omega) only[wt,seval]
 try rfl
theorem tV (S:Nat)(hp:RP 40 S p)(hr:RP 40 S r)(hS:S<=2^20)(ea:ps (pv p)=ps A)(eb:ps (pv r)=ps B)(h0:tz B≠0)(hd:Dv B A):AC Tryz.prog 238 [cw p,cw r] none [cp (quo A B)]:=by
 have h:=TM p r S hp hr hS (by rw[gQ eb];exact h0) (hd.as (.nM eb) (.nM ea.symm));rwa [zL (Gx (A':=A) (B':=B) (by rw[gQ eb];exact h0) (hd.as (.nM eb) (.nM ea.symm)) ea eb)]at h
theorem G9 (p r:List RI)(S:Nat)(hp:RP 40 S p)(hr:RP 40 S r)(hS:S<=2^20):AC Tryz.prog 174 [cw p,cw r] none [cb (dvb (pv r) (pv p))]:=by
 have n1:=vU p (hp.mono (by omega) (by omega));have n2:=vU r (hr.mono (by omega) (by omega));have t1:=yF hp;have t2:=yF hr;by_cases h0:tz (pv r)=0
 .rw[show dvb (pv r) (pv p)=decide (tz (pv p)=0) by unfold dvb;rw[zas h0]];refine AC.aj (rs:=[.tmp 4]) aV Tryz.func174 (by rfl) (by rfl) (by rfl) (by rfl) (by rfl) ?_;simp only[wt,seval];refine ah (n2) (by rfl) (by simp) ?_;simp (disch:=omega) only[wt,seval,aW,h0];refine ah (n1) (by rfl) (by simp) ?_;simp (disch:=omega) only[wt,seval,aW]
  try exact zbA.mpr (by omega)
 .obtain⟨n,v⟩:=b0T h0 t1 t2 (mX hp) (mX hr) hS;have o:=GN p r n S hp hr hS v;have h0':¬((tz (pv r):Nat):Int)=0:=by omega
  refine AC.aj (rs:=[.tmp 4]) aV Tryz.func174 (by rfl) (by rfl) (by rfl) (by rfl) (by rfl) ?_;simp only[wt,seval];refine ah (n2) (by rfl) (by simp) ?_;simp (disch:=omega) only[wt,seval,aW,h0'];refine ah (o) (by rfl) (by simp) ?_;simp (disch:=omega) only[wt,seval]
  try rfl
theorem XF (S:Nat)(hp:RP 40 S p)(hr:RP 40 S r)(hS:S<=2^20)(ea:ps (pv p)=ps A)(eb:ps (pv r)=ps B):AC Tryz.prog 174 [cw p,cw r] none [cb (dvb B A)]:=by
 have h:=G9 p r S hp hr hS;rwa [IG (A':=A) (B':=B) (.nM ea) (.nM eb)]at h
def a2P (P R:List Int):Bool:=dvb R P && decide ((lc R^dxp P R)∣(gz (dq P R):Int))
def exv (P R:List Int):List Int:=if tz R=0 then [] else if a2P P R then qA (lc R^dxp P R) (dq P R) else []
def exe (P R:List Int):Int:=if tz R=0 then 1 else if a2P P R then 0 else 4
theorem Qo:c∣(gz q:Int)↔∀k,c∣cf q k:=by
 constructor
 .intro h k;exact zdY h (yO q k)
 .intro h;refine zfE.mp (zb4.mpr (gY q c.natAbs λk=>zfE.mpr (h k)))
theorem b4h (h:zl c<=K)(n:Nat)(hn:n<=41):zl (c^n)<=41*K+1:=by
 have h1:=b3n h n;have h2:n*K<=41*K:=zag _ hn;omega
end
section
variable {x:Rat} {A P B K G:List Int}
theorem b1a (h:x.den=1):x=(x.num:Rat):=by
 have e:=zcT x;rw[h,Rat.mkRat_one]at e;exact e.symm
theorem Uo {c d:Int}(hc:c≠0)(h:(c:Rat)*x=(d:Rat)):(x.den=1↔c∣d)/\(x.den=1->x.num=d/c):=by
 have f1:x.den=1->d=c*x.num:=λh1=>by
  refine zcx.mp ?_;rw[zbw,<-b1a h1,h]
 refine⟨⟨λh1=>⟨x.num,f1 h1⟩,λ⟨m,hm⟩=>?_⟩,λh1=>?_⟩
 .have hcq:(c:Rat)≠0:=λe=>hc (zcx.mp (by rw[e];rfl))
  have:x=(m:Rat):=by
   rw[hm,zbw]at h;have h2:=zaO (λy=>(c:Rat)⁻¹*y) h;simp only[<-Rat.mul_assoc,Rat.inv_mul_cancel _ hcq,Rat.one_mul]at h2;exact h2
  rw[this];rfl
 .rw[f1 h1,zbW _ hc]
theorem Xy (n:Nat):wd n=wd 1↔n=1:=⟨λh=>by rw[<-bJ n,h,bJ],λh=>by rw[h]⟩
theorem a1D {Q:List Rat}(h:au Q=Q):aO (Q.map λc=>c.num)=Q.map λc=>c.num:=by
 have hl:(Q.map λc=>c.num).length=Q.length:=zae _;have hc:∀k,cf (Q.map λc=>c.num) k=(cfq Q k).num:=λk=>by
  by_cases hk:k<Q.length
  .simp[cf,cfq,List.getD,hk]
  .rw[kX (by omega),ig (by omega)];rfl
 have ht:tz (Q.map λc=>c.num)=Q.length:=by
  by_cases h0:Q.length=0
  .have:=CS (Q.map λc=>c.num);omega
  .have h1:=jd (q:=Q) (by rw[dA h];exact h0);rw[dA h]at h1;rw[Sj (q:=Q.map λc=>c.num) (n:=Q.length-1) (by rw[hc];exact λe=>h1 (zcK.mp e)) λk hk=>kX (by omega)];omega
 rw[aO,zac (by omega)]
set_option maxRecDepth 100000 in
theorem ZL (p r:List RI)(S:Nat)(hp:RP 40 S p)(hr:RP 40 S r)(hS:S<=2^20):AC Tryz.prog 163 [cw p,cw r] none [cp (exv (pv p) (pv r)),ci (exe (pv p) (pv r))]:=by
 have n2:=vU r (hr.mono (by omega) (by omega));have w1:=uI 1 (by omega);by_cases h0:tz (pv r)=0
 .rw[exv,exe,zas h0,zas h0];refine AC.aj (rs:=[.tmp 4,.tmp 5]) aV Tryz.func163 (by rfl) (by rfl) (by rfl) (by rfl) (by rfl) ?_;simp only[wt,seval];refine ah (n2) (by rfl) (by simp) ?_;simp (disch:=omega) only[wt,seval,aW,h0]
  try rfl
 have h0':¬((tz (pv r):Nat):Int)=0:=by omega
 rw[exv,exe,zam h0,zam h0];obtain⟨n,v⟩:=b0T h0 (yF hp) (yF hr) (mX hp) (mX hr) hS;have o:=GN p r n S hp hr hS v;by_cases hd:¬dvb (pv r) (pv p)=true
 .have hb:dvb (pv r) (pv p)=false:=by simpa using hd
  have he:a2P (pv p) (pv r)=false:=by unfold a2P;rw[hb];rfl
  rw[he];rw[hb]at o;refine AC.aj (rs:=[.tmp 4,.tmp 5]) aV Tryz.func163 (by rfl) (by rfl) (by rfl) (by rfl) (by rfl) ?_;simp only[wt,seval];refine ah (n2) (by rfl) (by simp) ?_;simp (disch:=omega) only[wt,seval,aW,h0'];refine ah (o) (by rfl) (by simp) ?_;simp (disch:=omega) only[wt,seval]
  try rfl
 have hd:dvb (pv r) (pv p)=true:=zeS.mp hd;have he:a2P (pv p) (pv r)=decide ((lc (pv r)^dxp (pv p) (pv r))∣(gz (dq (pv p) (pv r)):Int)):=by unfold a2P;rw[hd,zej]
 rw[he];rw[hd]at o;have qb:=(v.qsz (yF hp)).au;have hq:=v.q ((uX _ _).mp hd);have tt:=aZ (dqu (qp (aO (pv p))) (qp (aO (pv r))) n);rw[show cqp (dqu (qp (aO (pv p))) (qp (aO (pv r))) n)=cqw ((au (dqu (qp (aO (pv p))) (qp (aO (pv r))) n)).map aN) from rfl]at o;have hq':∀k,((lc (pv r)^dxp (pv p) (pv r):Int):Rat)*cfq (au (dqu (qp (aO (pv p))) (qp (aO (pv r))) n)) k=(cf (dq (pv p) (pv r)) k:Rat):=λk=>by rw[dQ];exact hq k
 have hlp:=Eb h0 (dxp (pv p) (pv r));clear hq v;generalize au (dqu (qp (aO (pv p))) (qp (aO (pv r))) n)=Q at *;generalize dq (pv p) (pv r)=D at *;generalize lc (pv r)^dxp (pv p) (pv r)=c at *;have hQl:=qb.1;have hql:(Q.map aN).length=Q.length:=zae _;have hnl:(Q.map λc=>c.num).length=Q.length:=zae _;have den:∀i,i<Q.length->AC Tryz.prog 31 [cl (wd (cfq Q i).den),cl (wd 1)] none [cb (decide ((cfq Q i).den=1))]:=λi hi=>by
  have h1:=(jg (cfq Q i)).2;have h2:=qb.cz (by omega) i;have s:=EW (wd (cfq Q i).den) (wd 1) (by omega) (by have:=bH (n:=1) (k:=1);have:(wd 1).length<=1:=bH.mpr (by rw[zes];simp only[W];omega);omega);rwa [show decide (wd (cfq Q i).den=wd 1)=decide ((cfq Q i).den=1) from zbA.mpr (Xy _)]at s
 by_cases hg:c∣(gz D:Int)
 .rw[zbn hg,zas rfl,zas rfl];have hall:∀k,(cfq Q k).den=1:=λk=>(Uo hlp (hq' k)).1.mpr (Qo.mp hg k)
  have hnum:∀k,cf (Q.map λc=>c.num) k=cf (qA c D) k:=λk=>by
   rw[fU,<-(Uo hlp (hq' k)).2 (hall k)];by_cases hk:k<Q.length
   .simp[cf,cfq,List.getD,hk]
   .rw[kX (by omega),ig (by omega)];rfl
  have eres:cp (qA c D)=cw ((Q.map λc=>c.num).map canon):=by
   rw[uh λk=>(hnum k).symm,<-a1D tt];show cp _=_;unfold cp iQ;rw[iM]
  rw[eres];refine AC.aj (rs:=[.tmp 4,.tmp 5]) aV Tryz.func163 (by rfl) (by rfl) (by rfl) (by rfl) (by rfl) ?_;simp only[wt,seval];refine ah (n2) (by rfl) (by simp) ?_;simp (disch:=omega) only[wt,seval,aW,h0'];refine ah (o) (by rfl) (by simp) ?_;simp (disch:=omega) only[wt,seval];refine aI (λf H=>∃(i st:Nat),i<=Q.length/\f 9=.iv (.int .i64 i)/\f 6=.iv (.sl (dN (Q.map aN)))/\f 8=.hs 22 st/\H 22=.blk false st 30 2 (bZ (((Q.map λc=>c.num).take i).map canon))) (λf H=>(Q.length-bC f 9).toNat) ?_ ?_
  .refine⟨0,1,by omega,?_⟩;simp only[wt,seval,zaj]
  rintro f H ⟨i,st,hi,hF⟩;rw[aC hF.1];simp (disch:=omega) only[wt,seval,rqs,hF];by_cases hlt':i<Q.length
  .have hlt:(i:Int)<(Q.length:Int):=by omega
   have hrq:(((Q.map λc=>c.num).take i).map canon).length=i:=by rw[zae,zah];omega
   have et:=tC (q:=Q.map λc=>c.num) (i:=i) (by omega);rw[show cf (Q.map λc=>c.num) i=(cfq Q i).num by simp[cf,cfq,List.getD,hlt']]at et;have e:=dZ hlt';have e2:dh (aN (cfq Q i)).2=dh (wd (cfq Q i).den):=rfl;have e3:jy (aN (cfq Q i)).1=jy (canon (cfq Q i).num):=rfl;have dn:=den i hlt';rw[zbn (hall i)]at dn;simp (disch:=omega) only[wt,seval,rqs,hF,hql,hlt,e,e2];refine .inl ⟨aP (by kernel_rfl),?_⟩;refine ah (w1) (by rfl) (by simp) ?_;simp (disch:=omega) only[wt,seval];refine ah (dn) (by rfl) (by simp) ?_;simp (disch:=omega) only[wt,seval,rqs,hF,hql,hlt,hrq,e,e2,e3];refine⟨aX (by kernel_rfl),?_⟩;refine⟨⟨i+1,st+1,by omega,?_⟩,by omega⟩;rw[et,zav]
   (repeat' apply zaa)<;>first|rfl|omega
  .have hlt:¬(i:Int)<(Q.length:Int):=by omega
   rw[zac (by omega)]at hF;simp (disch:=omega) only[wt,seval,hF,hql,hlt]
   try rfl
 .rw[zaW hg];have hex:∃k,¬(cfq Q k).den=1:=Classical.byContradiction λhno=>hg (Qo.mpr λk=>(Uo hlp (hq' k)).1.mp (Classical.byContradiction λh=>hno ⟨k,h⟩))
  obtain⟨k0,hk0,hbef⟩:=WT hex;have c0O:k0<Q.length:=Nat.lt_of_not_le λh=>hk0 (by rw[ig h];rfl)
  refine AC.aj (rs:=[.tmp 4,.tmp 5]) aV Tryz.func163 (by rfl) (by rfl) (by rfl) (by rfl) (by rfl) ?_;simp only[wt,seval];refine ah (n2) (by rfl) (by simp) ?_;simp (disch:=omega) only[wt,seval,aW,h0'];refine ah (o) (by rfl) (by simp) ?_;simp (disch:=omega) only[wt,seval];refine aI (λf H=>∃(i st:Nat),i<=k0/\f 9=.iv (.int .i64 i)/\f 6=.iv (.sl (dN (Q.map aN)))/\f 8=.hs 22 st/\H 22=.blk false st 30 2 (bZ (((Q.map λc=>c.num).take i).map canon))) (λf H=>(Q.length-bC f 9).toNat) ?_ ?_
  .refine⟨0,1,by omega,?_⟩;simp only[wt,seval,zaj]
  rintro f H ⟨i,st,hi,hF⟩;rw[aC hF.1];simp (disch:=omega) only[wt,seval,rqs,hF];have hlt':i<Q.length:=by omega
  have hlt:(i:Int)<(Q.length:Int):=by omega
  have hrq:(((Q.map λc=>c.num).take i).map canon).length=i:=by rw[zae,zah];omega
  have et:=tC (q:=Q.map λc=>c.num) (i:=i) (by omega);rw[show cf (Q.map λc=>c.num) i=(cfq Q i).num by simp[cf,cfq,List.getD,hlt']]at et;have e:=dZ hlt';have e2:dh (aN (cfq Q i)).2=dh (wd (cfq Q i).den):=rfl;have e3:jy (aN (cfq Q i)).1=jy (canon (cfq Q i).num):=rfl;have dn:=den i hlt';by_cases hik:i=k0
  .rw[zaW (by rw[hik];exact hk0)]at dn;simp (disch:=omega) only[wt,seval,rqs,hF,hql,hlt,e,e2];refine .inl ⟨aP (by kernel_rfl),?_⟩;refine ah (w1) (by rfl) (by simp) ?_;simp (disch:=omega) only[wt,seval];refine ah (dn) (by rfl) (by simp) ?_;simp (disch:=omega) only[wt,seval];refine⟨aX (by kernel_rfl),?_⟩
   try rfl
  .rw[zbn (zeS.mp (hbef i (by omega)))]at dn;simp (disch:=omega) only[wt,seval,rqs,hF,hql,hlt,e,e2];refine .inl ⟨aP (by kernel_rfl),?_⟩;refine ah (w1) (by rfl) (by simp) ?_;simp (disch:=omega) only[wt,seval];refine ah (dn) (by rfl) (by simp) ?_;simp (disch:=omega) only[wt,seval,rqs,hF,hql,hlt,hrq,e,e2,e3];refine⟨aX (by kernel_rfl),?_⟩;refine⟨⟨i+1,st+1,by omega,?_⟩,by omega⟩;rw[et,zav]
   (repeat' apply zaa)<;>first|rfl|omega
theorem Gn {k:Nat}(h:tz A=0):SBd k A:=λi=>by rw[bn.mp h i,iC];omega
theorem iE {X:List Int}(h0:tz P≠0)(tP:tz P<=9)(sP:SBd 2 P)(hX:Nf X)(h:Dv X P):SBd 92 X/\tz X<=9/\tz X≠0:=by
 have h1:=Jr h h0;exact⟨b7B h0 tP (by omega) sP hX h,by omega,h1.1⟩
theorem OE (sA:SBd 92 A)(tA:tz A<=9)(tP:tz P<=9)(sP:SBd 2 P):SBd 92 (eU A P)/\tz (eU A P)<=9:=by
 by_cases h:tz P=0
 .have e:=a2E (A:=A) h;refine⟨λi=>by rw[<-oW e];exact DU sA i,?_⟩;rw[<-gQ e,oh];exact tA
 .have:=iE h tP sP (rV A P) (mG A P).b;exact⟨this.1,this.2.1⟩
theorem b6b:EZ 92 9<=2^27:=by decide
theorem ez2:EZ 2 9<=2^27:=by decide
theorem dF {p:List RI}(h:RP 9 2 p):tz (pv p)<=9/\SBd 2 (pv p):=⟨yF h,mX h⟩
theorem O8 (h:SBd 92 A)(ht:tz A<=9):RP 40 92 (cn A):=(lQ ht h).mono (by omega) (zab _)
theorem yL (hB:tz B≠0)(h:Dv B A):Dv (quo A B) A:=by
 refine Dv.as (B:=quo A B) (A:=fD B (quo A B)) (.mul (S:=B) (by rw[dP])) (.refl _) ?_;exact((As.nM (by rw[dP,dP,PS.mul_comm])).trans (Tj hB h).symm)
theorem OX {S:List Int}(hB:tz B≠0)(h:As (fD S B) A):As S (quo A B):=by
 obtain⟨a,b,ha,hb,e⟩:=h;exact(As.scale ha S).symm.trans (Gy hB hb (by rw[bG,PS.mul_assoc,<-dP,e]))
theorem b5g {A':List Int}(h:As A A'):As (fD K A) (fD K A'):=by
 obtain⟨a,b,ha,hb,e⟩:=h;refine⟨a,b,ha,hb,?_⟩;rw[dP,dP,show PS.C a*(ps K*ps A)=ps K*(PS.C a*ps A) by ac_rfl,e]
 ac_rfl
theorem b4S (h:Dv G A):Dv G (fD K A):=h.trans (.mul (S:=K) (by rw[dP]))
theorem Y2 (hG:tz G≠0)(hP:tz P=0):tz (quo P G)=0:=by
 have e:=Gy (A:=P) (B:=G) (S:=[]) (c:=1) hG (by decide) (by rw[Ko,jV hP,PS.zero_mul,PS.mul_zero]);rw[<-a3F e];rfl
def U1 (P R:List Int):List Int:=if tz P=0\/tz R=0 then [] else npr (fD P (quo R (eU P R)))
theorem a9T (p q:List RI)(hp:RP 9 2 p)(hq:RP 9 2 q):AC Tryz.prog 172 [cw p,cw q] none [cp (U1 (pv p) (pv q))]:=by
 have n1:=vU p (hp.mono (by omega) (by omega));have n2:=vU q (hq.mono (by omega) (by omega));by_cases h1:tz (pv p)=0
 .rw[U1,zas (.inl h1)];refine AC.aj (rs:=[.tmp 4]) aV Tryz.func172 (by rfl) (by rfl) (by rfl) (by rfl) (by rfl) ?_;simp only[wt,seval];refine ah (n1) (by rfl) (by simp) ?_;simp only[wt,seval];refine ah (n2) (by rfl) (by simp) ?_;simp (disch:=omega) only[wt,seval,aW,h1]
  try rfl
 have h1':¬((tz (pv p):Nat):Int)=0:=by omega
 by_cases h2:tz (pv q)=0
 .rw[U1,zas (.inr h2)];refine AC.aj (rs:=[.tmp 4]) aV Tryz.func172 (by rfl) (by rfl) (by rfl) (by rfl) (by rfl) ?_;simp only[wt,seval];refine ah (n1) (by rfl) (by simp) ?_;simp only[wt,seval];refine ah (n2) (by rfl) (by simp) ?_;simp (disch:=omega) only[wt,seval,aW,h1',h2]
  try rfl
 have h2':¬((tz (pv q):Nat):Int)=0:=by omega
 rw[U1,zam (by omega)];obtain⟨tP,sP⟩:=dF hp;obtain⟨tQ,sQ⟩:=dF hq;have rp:=lQ tP sP;have rq:=lQ tQ sQ;have m:=a4G (a:=cn (pv p)) (b:=cn (pv q)) (q:=pv p) (r:=pv q) (rp.mono (by omega) (by omega)) (rq.mono (by omega) (by omega)) (fF _) (fF _);have g:=uG 9 2 (rp.mono (show 9<=40 by omega) (zab _)) (rq.mono (show 9<=40 by omega) (zab _)) (fF _) (fF _) tP tQ (by omega) ez2;have gg:=mG (pv p) (pv q);obtain⟨g1,g2,g3⟩:=iE h1 tP sP (rV _ _) gg.a;have hz:∀i,zl (cf (fD (pv p) (pv q)) i)<=100:=λi=>by
  have h:=PB.fD hp.pv hq.pv (by simp only[W];omega);have h2:=h.cf i;omega
 have tm:=uD h1 h2;have po:=tV (p:=cn (fD (pv p) (pv q))) (r:=cn (eU (pv p) (pv q))) (A:=fD (pv p) (pv q)) (B:=eU (pv p) (pv q)) 100 (lQ (D:=40) (by omega) hz) ((O8 g1 g2).mono (zab _) (by omega)) (by omega) (fF _) (fF _) g3 (b4S gg.b);have e1:As (npr (fD (pv p) (quo (pv q) (eU (pv p) (pv q))))) (quo (fD (pv p) (pv q)) (eU (pv p) (pv q))):=by
  refine(kD _).symm.trans (OX g3 ?_);refine As.trans (.nM (B:=fD (pv p) (fD (quo (pv q) (eU (pv p) (pv q))) (eU (pv p) (pv q)))) (by rw[dP,dP,dP,dP,PS.mul_assoc])) (b5g (Tj g3 gg.b).symm)
 rw[<-zL (e1.uniq (lG _) (oM _ _))]at po;refine AC.aj (rs:=[.tmp 4]) aV Tryz.func172 (by rfl) (by rfl) (by rfl) (by rfl) (by rfl) ?_;simp only[wt,seval];refine ah (n1) (by rfl) (by simp) ?_;simp only[wt,seval];refine ah (n2) (by rfl) (by simp) ?_;simp (disch:=omega) only[wt,seval,aW,h1',h2'];refine ah (m) (by rfl) (by simp) ?_;simp only[wt,seval];refine ah (g) (by rfl) (by simp) ?_;simp only[wt,seval];refine ah (po) (by rfl) (by simp) ?_;simp (disch:=omega) only[wt,seval]
 try rfl
end
section
variable {A B:List Int} {l:List (List RI)}
theorem a8T (n:Nf A):aO A=[1]↔tz A=1:=by
 constructor
 .intro h;rw[<-dw,h];rfl
 .intro h;have hp:=a8S n (by omega);have e:∀k,cf A k=cf [cf A 0] k:=λk=>by
   cases k with
   |zero=>rfl
   |succ k=>rw[dW A (by omega),kX (by show 1<=k+1;omega)]
  have hg:gz A=(cf A 0).natAbs:=by
   rw[a2C e];show Nat.gcd 0 (cf A 0).natAbs=_;rw[Nat.gcd_zero_left]
  have h1:=hp.1;have h2:0<cf A 0:=by
   have:=hp.2;unfold lc at this;rwa [h]at this
  have h3:cf A 0=1:=by omega
  rw[ji e,h3]
  decide
theorem XG {p q:List RI}(D S:Nat)(hp:RP 40 S p)(hq:RP 40 S q)(ea:ps (pv p)=ps A)(eb:ps (pv q)=ps B)(tp:tz A<=D)(tq:tz B<=D)(hD:D<=40)(hE:EZ S D<=2^27) :
  AC Tryz.prog 173 [cw p,cw q] none [cb (decide (tz (eU A B)=1))]:=by
 have g:=uG D S hp hq ea eb tp tq hD hE;have s:=Uc tp tq (A:=A) (B:=B) (S:=S) (λi=>by rw[<-oW ea];exact mX hp i) (λi=>by rw[<-oW eb];exact mX hq i);have t:tz (eU A B)<=D:=(a2T _ _ _ (EI.start tp tq (λi=>by rw[<-oW ea];exact mX hp i) (λi=>by rw[<-oW eb];exact mX hq i))).2;have o:=b3M [1] (by simp) (λz hz=>by rw[zb0.1 hz];omega);have t1:aO [(1:Int)]=[1]:=by decide
 rw[show cp [1]=cw (([1]:List Int).map canon) by unfold cp iQ;rw[t1]]at o;have r1:RP (2^40) (2^43) (([1]:List Int).map canon):=RP.canon ⟨by simp,λz hz=>by
  rw[zb0.1 hz];exact zad (sH.mpr (by decide:(1:Int).natAbs<W^1)) (by omega)⟩
 have sm:=ER (cn (eU A B)) (([1]:List Int).map canon) ((lQ t s).mono (by omega) (by omega)) r1;rw[show decide (cn (eU A B)=([1]:List Int).map canon)=decide (tz (eU A B)=1) from zbA.mpr ⟨λh=>(a8T (rV A B)).mp (a3x h),λh=>by unfold cn;rw[(a8T (rV A B)).mpr h]⟩]at sm;have hil:[[IV.int .i64 1]]=iL [1]:=rfl;refine AC.aj (rs:=[.tmp 4]) aV Tryz.func173 (by rfl) (by rfl) (by rfl) (by rfl) (by rfl) ?_;simp only[wt,seval];refine ah (g) (by rfl) (by simp) ?_;simp (disch:=omega) only[wt,seval];refine ah (o) (by rfl) (by simp) ?_;simp only[wt,seval,hil];refine ah (sm) (by rfl) (by simp) ?_;simp (disch:=omega) only[wt,seval]
 try rfl
def uU (P G:List Int):List Int:=if tz P=0 then [] else quo P G
theorem a2a (P:List Int){G:List Int}(hG:tz G≠0):cp (quo P G)=cp (uU P G):=by
 unfold uU;split
 .rename_i h;rw[b2g (Y2 hG h)];rfl
 .rfl
theorem Ip {P R:List Int}(tP:tz P<=9)(sP:SBd 2 P)(tR:tz R<=9)(sR:SBd 2 R):SBd 92 (eU P R)/\tz (eU P R)<=9:=OE (sP.mono (by omega)) tP tR sR
theorem ZE (p q:List RI)(hp:RP 9 2 p)(hq:RP 9 2 q):AC Tryz.prog 164 [cw p,cw q] none (if tz (eU (pv p) (pv q))=0 then [cw [],cw [],cw [],ci 1] else [cp (eU (pv p) (pv q)),cp (uU (pv p) (eU (pv p) (pv q))),cp (uU (pv q) (eU (pv p) (pv q))),ci 0]):=by
 obtain⟨tP,sP⟩:=dF hp;obtain⟨tQ,sQ⟩:=dF hq;have WM:=hp.mono (show 9<=40 by omega) (zab 2);have b4F:=hq.mono (show 9<=40 by omega) (zab 2);have g:=uG 9 2 WM b4F rfl rfl tP tQ (by omega) ez2;have gg:=mG (pv p) (pv q);obtain⟨g1,g2⟩:=Ip tP sP tQ sQ;by_cases h0:tz (eU (pv p) (pv q))=0
 .rw[zas h0];refine AC.aj (rs:=[.tmp 4,.tmp 5,.tmp 6,.tmp 7]) aV Tryz.func164 (by rfl) (by rfl) (by rfl) (by rfl) (by rfl) ?_;simp only[wt,seval];refine ah (g) (by rfl) (by simp) ?_;simp (disch:=omega) only[wt,seval,aW,h0]
  try rfl
 have h0':¬((tz (eU (pv p) (pv q)):Nat):Int)=0:=by omega
 rw[zam h0];have l1:=tV (p:=p) (r:=cn (eU (pv p) (pv q))) (A:=pv p) (B:=eU (pv p) (pv q)) 92 (WM.mono (zab _) (by omega)) (O8 g1 g2) (by omega) rfl (fF _) h0 gg.a;have l2:=tV (p:=q) (r:=cn (eU (pv p) (pv q))) (A:=pv q) (B:=eU (pv p) (pv q)) 92 (b4F.mono (zab _) (by omega)) (O8 g1 g2) (by omega) rfl (fF _) h0 gg.b;rw[a2a _ h0]at l1 l2;refine AC.aj (rs:=[.tmp 4,.tmp 5,.tmp 6,.tmp 7]) aV Tryz.func164 (by rfl) (by rfl) (by rfl) (by rfl) (by rfl) ?_;simp only[wt,seval];refine ah (g) (by rfl) (by simp) ?_;simp (disch:=omega) only[wt,seval,aW,h0'];refine ah (l1) (by rfl) (by simp) ?_;simp only[wt,seval];refine ah (l2) (by rfl) (by simp) ?_;simp (disch:=omega) only[wt,seval]
 try exact⟨rfl,rfl,rfl⟩
def tmn (B:List Int):Nat->List Int->Nat
 |0,_=>0
 |f+1,A=>if dvb B A then tmn B f (quo A B)+1 else 0
def tmr (B:List Int):Nat->List Int->List Int
 |0,A=>A
 |f+1,A=>if dvb B A then tmr B f (quo A B) else A
theorem ZI (h:dvb B A=false):∀f,tmn B f A=0/\tmr B f A=A
 |0=>⟨rfl,rfl⟩
 |f+1=>by rw[tmn,tmr,h];exact⟨rfl,rfl⟩
theorem jU (A B:List Int):aO (quo A B)=quo A B:=eH _
theorem Lu (hA:aO A=A)(hB:aO B=B)(h:ps A=ps B):A=B:=by
 rw[<-hA,<-hB];exact ji (oW h)
theorem b5f {A':List Int}(hB:tz B≠0)(h:As A' A)(hd:Dv B A):quo A' B=quo A B:=by
 obtain⟨c,S,hc,e⟩:=hd;have h1:=Gy hB hc e;have h2:As S (quo A' B):=OX hB ((As.nM (B:=fD S B) rfl).trans (As.trans ⟨1,c,by decide,hc,by rw[PS.Ce,PS.one_mul,dP,e]⟩ h.symm));exact Lu (jU _ _) (jU _ _) ((h2.symm.trans h1).uniq (oM _ _) (oM _ _))
set_option maxRecDepth 100000 in
theorem Sv (p q:List RI)(hp:RP 9 2 p)(hq:RP 9 2 q):AC Tryz.prog 165 [cw p,cw q] none (if tz (pv p)=0 then [ci 0,cw [],ci 1] else if tz (pv q)<=1 then [ci 0,cw [],ci 3] else [ci (tmn (pv q) 9 (npr (pv p))),cp (tmr (pv q) 9 (npr (pv p))),ci 0]):=by
 have d1:=vU p (hp.mono (by omega) (by omega));have d2:=vU q (hq.mono (by omega) (by omega));obtain⟨tP,sP⟩:=dF hp;obtain⟨tQ,sQ⟩:=dF hq;by_cases h1:tz (pv p)=0
 .rw[zas h1];refine AC.aj (rs:=[.tmp 4,.tmp 5,.tmp 6]) aV Tryz.func165 (by rfl) (by rfl) (by rfl) (by rfl) (by rfl) ?_;simp only[wt,seval];refine ah (d1) (by rfl) (by simp) ?_;simp only[wt,seval];refine ah (d2) (by rfl) (by simp) ?_;simp (disch:=omega) only[wt,seval,aW,h1]
  try rfl
 have h1':¬((tz (pv p):Nat):Int)=0:=by omega
 rw[zam h1];by_cases h2:tz (pv q)<=1
 .have h2':((tz (pv q):Nat):Int)<=1:=by omega
  rw[zas h2];refine AC.aj (rs:=[.tmp 4,.tmp 5,.tmp 6]) aV Tryz.func165 (by rfl) (by rfl) (by rfl) (by rfl) (by rfl) ?_;simp only[wt,seval];refine ah (d1) (by rfl) (by simp) ?_;simp only[wt,seval];refine ah (d2) (by rfl) (by simp) ?_;simp (disch:=omega) only[wt,seval,aW,h1',h2']
  try rfl
 have h2':¬((tz (pv q):Nat):Int)<=1:=by omega
 rw[zam h2];have f0:=lG (pv p);have z0:=oh (pv p);have v0:Dv (npr (pv p)) (pv p):=(kD (pv p)).symm.dv;have w0:As (aO (pv p)) (npr (pv p)):=(As.nM (AP _)).trans (kD _);have b0:SBd 92 (aO (pv p)):=λi=>by rw[bM];exact zad (sP i) (by omega)
 have tn:=eH (pv p);generalize npr (pv p)=A0 at *;have rQ:=lQ (D:=40) (by omega) sQ;refine AC.aj (rs:=[.tmp 4,.tmp 5,.tmp 6]) aV Tryz.func165 (by rfl) (by rfl) (by rfl) (by rfl) (by rfl) ?_;simp only[wt,seval];refine ah (d1) (by rfl) (by simp) ?_;simp only[wt,seval];refine ah (d2) (by rfl) (by simp) ?_;simp (disch:=omega) only[wt,seval,aW,h1',h2'];refine aI (λf H=>∃(k n:Nat) (A A':List Int),tmn (pv q) k A+n=tmn (pv q) 9 A0/\tmr (pv q) k A=tmr (pv q) 9 A0/\tz A<=k/\n+k<=9/\aO A=A/\As A' A/\SBd 92 A'/\Nf A/\Dv A (pv p)/\tz A≠0/\f 1=.iv (.sl (iQ (pv q)))/\f 7=.iv (.int .i64 n)/\f 0=.iv (.sl (iQ A'))) (λf H=>match f 0 with | .iv (.sl l)=>l.length|_=>0) ?_ ?_
 .refine⟨9,0,A0,aO (pv p),rfl,rfl,by omega,by omega,tn,w0,b0,f0,v0,by omega,?_⟩;simp only[wt,seval];rw[J3 λk=>bM (pv p) k]
  try exact⟨rfl,rfl⟩
 rintro f H ⟨k,n,A,A',en,er,tk,hnk,tA,wA,bA,nA,vA,hA0,hF⟩;have htA:=a3F wA;have hmu:(match f 0 with | .iv (.sl l)=>l.length|_=>0)=tz A:=by rw[hF.2.2];simp only[];rw[aW];omega
 rw[hmu];obtain⟨a1,a2,_⟩:=iE h1 tP sP nA vA;have rA:=O8 bA (by omega);have dv:=XF (p:=cn A') (r:=cn (pv q)) (A:=A') (B:=pv q) 92 rA (rQ.mono (zab _) (by omega)) (by omega) (fF _) (fF _);rw[IG (A':=A) (B':=pv q) wA (.refl _)]at dv;by_cases hd:dvb (pv q) A=true
 .rw[hd]at dv;obtain⟨k',rfl⟩:∃k',k=k'+1:=⟨k-1,by omega⟩;have hdv:=(uX _ _).mp hd;have qo:=tV (p:=cn A') (r:=cn (pv q)) (A:=A') (B:=pv q) 92 rA (rQ.mono (zab _) (by omega)) (by omega) (fF _) (fF _) (by omega) (hdv.as (.refl _) wA.symm);rw[b5f (by omega) wA hdv]at qo;obtain⟨qt,qn⟩:=VD (A:=A) (B:=pv q) (by omega) hA0 hdv;obtain⟨c1,c2,_⟩:=iE h1 tP sP (oM A (pv q)) ((yL (by omega) hdv).trans vA);rw[tmn,zas hd]at en;rw[tmr,zas hd]at er;simp (disch:=omega) only[wt,seval,hF];refine ah (dv) (by rfl) (by simp) ?_;simp (disch:=omega) only[wt,seval,hF];refine ah (qo) (by rfl) (by simp) ?_;simp (disch:=omega) only[wt,seval,aW,hF];refine⟨⟨k',n+1,quo A (pv q),quo A (pv q),by omega,er,by omega,by omega,jU _ _,.refl _,c1,oM _ _,(yL (by omega) hdv).trans vA,qn,?_⟩,by omega⟩
  try (repeat' apply zaa)<;>first|rfl|omega
 .have hd':dvb (pv q) A=false:=by simpa using hd
  rw[hd']at dv;obtain⟨s1,s2⟩:=ZI hd' k;rw[<-en,<-er,s1,s2];have pr:=sU (p:=cn A') (A:=A') (rA.mono (by omega) (by omega)) (fF _);rw[show npr A'=A from Lu (eH _) tA (((kD A').symm.trans wA).uniq (lG _) nA)]at pr;simp (disch:=omega) only[wt,seval,hF];refine ah (dv) (by rfl) (by simp) ?_;simp (disch:=omega) only[wt,seval,hF];refine ah (pr) (by rfl) (by simp) ?_;simp (disch:=omega) only[wt,seval]
  try exact⟨by omega,rfl⟩
def wof (B:List Int):Nat->List Int->List Int
 |0,A=>A
 |f+1,A=>if tz (eU A B)=1 then A else wof B f (quo A (eU A B))
set_option maxRecDepth 100000 in
theorem Sr (p q:List RI)(hp:RP 9 2 p)(hq:RP 9 2 q):AC Tryz.prog 166 [cw p,cw q] none (if tz (pv p)=0\/tz (pv q)=0 then [cw [],ci 1] else [cp (wof (pv q) 10 (npr (pv p))),ci 0]):=by
 obtain⟨tP,sP⟩:=dF hp;obtain⟨tQ,sQ⟩:=dF hq;have d1:=sU (p:=p) (A:=pv p) (hp.mono (by omega) (by omega)) rfl;have d2:=vU q (hq.mono (by omega) (by omega));have t0:=eH (pv p);have f0:=lG (pv p);have z0:=oh (pv p);have v0:Dv (npr (pv p)) (pv p):=(kD (pv p)).symm.dv;by_cases h1:tz (pv p)=0
 .rw[zas (.inl h1)];rw[h1]at z0;refine AC.aj (rs:=[.tmp 4,.tmp 5]) aV Tryz.func166 (by rfl) (by rfl) (by rfl) (by rfl) (by rfl) ?_;simp only[wt,seval];refine ah (d1) (by rfl) (by simp) ?_;simp only[wt,seval];refine ah (d2) (by rfl) (by simp) ?_;simp (disch:=omega) only[wt,seval,aW,z0]
  try rfl
 have h1':¬((tz (npr (pv p)):Nat):Int)=0:=by omega
 by_cases h2:tz (pv q)=0
 .rw[zas (.inr h2)];refine AC.aj (rs:=[.tmp 4,.tmp 5]) aV Tryz.func166 (by rfl) (by rfl) (by rfl) (by rfl) (by rfl) ?_;simp only[wt,seval];refine ah (d1) (by rfl) (by simp) ?_;simp only[wt,seval];refine ah (d2) (by rfl) (by simp) ?_;simp (disch:=omega) only[wt,seval,aW,h1',h2]
  try rfl
 have h2':¬((tz (pv q):Nat):Int)=0:=by omega
 rw[zam (by omega)];generalize npr (pv p)=A0 at *;have rQ0:=lQ (D:=40) (by omega) sQ;refine AC.aj (rs:=[.tmp 4,.tmp 5]) aV Tryz.func166 (by rfl) (by rfl) (by rfl) (by rfl) (by rfl) ?_;simp only[wt,seval];refine ah (d1) (by rfl) (by simp) ?_;simp only[wt,seval];refine ah (d2) (by rfl) (by simp) ?_;simp (disch:=omega) only[wt,seval,aW,h1',h2'];refine aI (λf H=>∃(k:Nat) (A:List Int),wof (pv q) k A=wof (pv q) 10 A0/\tz A+1<=k/\Nf A/\Dv A (pv p)/\tz A≠0/\f 1=.iv (.sl (iQ (pv q)))/\f 0=.iv (.sl (iQ A))) (λf H=>match f 0 with | .iv (.sl l)=>l.length|_=>0) ?_ ?_
 .refine⟨10,A0,rfl,by omega,f0,v0,by omega,?_⟩;simp only[wt,seval]
  try exact⟨rfl,rfl⟩
 rintro f H ⟨k,A,er,tk,nA,vA,hA0,hF⟩;have hmu:(match f 0 with | .iv (.sl l)=>l.length|_=>0)=tz A:=by rw[hF.2];simp only[];rw[aW]
 rw[hmu];obtain⟨a1,a2,_⟩:=iE h1 tP sP nA vA;have rA:=O8 a1 a2;have rQ:=rQ0.mono (zab 40) (show 2<=92 by omega);have g:=uG 9 92 rA rQ (fF _) (fF _) a2 tQ (by omega) b6b;have gg:=mG A (pv q);obtain⟨g1,g2,g3⟩:=iE h1 tP sP (rV A (pv q)) (gg.a.trans vA);obtain⟨k',rfl⟩:∃k',k=k'+1:=⟨k-1,by omega⟩;rw[wof]at er;by_cases hd:tz (eU A (pv q))=1
 .rw[zas hd]at er;rw[<-er];simp (disch:=omega) only[wt,seval,hF];refine ah (g) (by rfl) (by simp) ?_;simp (disch:=omega) only[wt,seval,aW,hF,hd]
  try rfl
 .rw[zam hd]at er;have hd':¬((tz (eU A (pv q)):Nat):Int)=1:=by omega
  have qo:=tV (p:=cn A) (r:=cn (eU A (pv q))) (A:=A) (B:=eU A (pv q)) 92 rA (O8 g1 g2) (by omega) (fF _) (fF _) g3 gg.a;obtain⟨qt,qn⟩:=VD g3 hA0 gg.a;simp (disch:=omega) only[wt,seval,hF];refine ah (g) (by rfl) (by simp) ?_;simp (disch:=omega) only[wt,seval,aW,hF,hd'];refine ah (qo) (by rfl) (by simp) ?_;simp (disch:=omega) only[wt,seval,aW,hF];refine⟨⟨k',quo A (eU A (pv q)),er,by omega,oM _ _,(yL g3 gg.a).trans vA,qn,?_⟩,by omega⟩
  try (repeat' apply zaa)<;>first|rfl|omega
def alf (l:List (List RI)):List Int:=l.foldl (λg p=>eU g (pv p)) []
theorem FN {i:Nat}(h:i<l.length):alf (l.take (i+1))=eU (alf (l.take i)) (pv (l.getD i [])):=by
 rw[zaS,zaf h,alf,zfK];simp[alf,List.getD,h]
theorem BM (h:∀p∈l,RP 9 2 p):∀i,i<=l.length->SBd 92 (alf (l.take i))/\tz (alf (l.take i))<=9
 |0,_=>by
  rw[zaj];exact⟨λk=>by show zl (cf [] k)<=_;rw[lJ,iC];omega,by decide⟩
 |i+1,hi=>by
  have ih:=BM h i (by omega);have hp:RP 9 2 (l.getD i []):=by
   rw[List.getD,zaf (by omega),zaE];exact h _ (zaY (by omega))
  rw[FN (by omega)];exact OE ih.1 ih.2 (dF hp).1 (dF hp).2
theorem a9V (l:List (List RI))(hl:l.length<=2^40)(h:∀p∈l,RP 9 2 p):AC Tryz.prog 171 [.iv (.sl (gI l))] none [cp (alf l)]:=by
 refine AC.aj (rs:=[.tmp 2]) aV Tryz.func171 (by rfl) (by rfl) (by rfl) (by rfl) (by rfl) ?_;simp (disch:=omega) only[wt,seval];refine rZ (.iv 3 5 1 false 30 2 [] (by simp only[wt,seval]) (by simp only[wt,seval]) (.refl _ _)) (λf H=>∃(i:Nat),i<=l.length/\f 4=.iv (.int .i64 i)/\f 0=.iv (.sl (gI l))/\f 3=.iv (.sl (iQ (alf (l.take i))))) (λf H=>(l.length-bC f 4).toNat) ?_ ?_
 .refine⟨0,by omega,?_⟩;simp only[wt,seval,zaj,show iQ (alf [])=[] from rfl]
 rintro f H ⟨i,hi,hF⟩;rw[aC hF.1];simp (disch:=omega) only[wt,seval,hF];by_cases hlt':i<l.length
 .have hlt:(i:Int)<(l.length:Int):=by omega
  have hg:=uO hlt';have hp:RP 9 2 (l.getD i []):=by
   rw[List.getD,zaf (by omega),zaE];exact h _ (zaY (by omega))
  obtain⟨s1,s2⟩:=BM h i hi;have g:=uG (p:=cn (alf (l.take i))) (q:=l.getD i []) (A:=alf (l.take i)) (B:=pv (l.getD i [])) 9 92 (O8 s1 s2) (hp.mono (by omega) (by omega)) (fF _) rfl s2 (dF hp).1 (by omega) b6b;rw[<-FN hlt']at g;simp (disch:=omega) only[wt,seval,hF,hlt,hg];refine ah (g) (by rfl) (by simp) ?_;simp (disch:=omega) only[wt,seval,hF];refine⟨⟨i+1,by omega,?_⟩,by omega⟩
  try (repeat' apply zaa)<;>first|rfl|omega
 .have hlt:¬(i:Int)<(l.length:Int):=by omega
  rw[zac (by omega)]at hF;simp (disch:=omega) only[wt,seval,hF,hlt]
  try rfl
end
set_option linter.defProp false
section
variable {p q:List RI} {A B:List Int}
theorem Kw (P G:List Int):aO (uU P G)=uU P G:=by
 unfold uU;split
 .rfl
 .exact jU _ _
def Xr (a b c:List Int)(e:Int)(B E:Nat)(res:List CV):Prop:=∃(x y z:OP),res=[.iv (gZ x.1 x.2 a),.iv (gZ y.1 y.2 b),.iv (gZ z.1 z.2 c),ci e]/\x.2.length=a.length/\y.2.length=b.length/\z.2.length=c.length/\Nw B E (pid x++(pid y++pid z))
theorem MN (n:Nat):pid (none,List.replicate n none)=[]:=by simp[pid,oid,ug]
theorem Wj (a b c:List Int)(e:Int)(B:Nat):∃E res,B<=E/\Xr a b c e B E res :=
 ⟨B,_,zab _,(none,List.replicate a.length none),(none,List.replicate b.length none),(none,List.replicate c.length none),rfl,by simp,by simp,by simp,by rw[MN,MN,MN];exact .nil _ _⟩
theorem Xp (l:List (List RI))(i:Nat)(hi:i<=l.length):aO (alf (l.take i))=alf (l.take i):=by
 cases i with
 |zero=>rfl
 |succ i=>rw[FN (by omega)];exact jI _ _
end
set_option linter.defProp false
theorem Va (Q:List Int):∀(k:Nat) (A:List Int),aO A=A->aO (wof Q k A)=wof Q k A
 |0,A,h=>h
 |k+1,A,h=>by
  rw[wof];split
  .exact h
  .exact Va Q k _ (jU _ _)
def b5r (n:Int)(q:List Int)(e:Int)(B E:Nat)(res:List CV):Prop:=∃b bs,res=[ci n,.iv (gZ b bs q),ci e]/\bs.length=q.length/\Nw B E (oid b++ids bs)
theorem a1K (n:Int)(q:List Int)(e:Int)(B:Nat):∃E res,B<=E/\b5r n q e B E res:=⟨B,_,zab _,none,List.replicate q.length none,rfl,by simp,by rw[ug];exact .nil _ _⟩
set_option linter.defProp false

theorem LD {α:Type}(l:List α)(n:Nat):l.take (min (l.length:Int) n).toNat=l.take n:=by
 rcases Nat.le_total l.length n with h|h
 .rw[List.take_of_length_le (i:=n) h,List.take_of_length_le (by omega)]
 .congr 1;omega
theorem a1d (c:RI):(jy c).length=2:=rfl
structure C11 where
 (P R:List RI) (A B C D:RI) (K M:Int) (At:RI) (E:Int) (Pt:Bool) (F G:List RQ) (X:RQ)

def a3U (k:Int):Prop:=k<0\/65536<k\/∃n:Nat,k=n/\n<=200
structure Few (y:C11):Prop where
 P:RP 9 3 y.P
 R:RP 9 3 y.R
 A:Sz 3 y.A
 B:Sz 3 y.B
 C:Sz 3 y.C
 D:Sz 3 y.D
 At:Sz 3 y.At
 K:a3U y.K
 M:a3U y.M
 E:a3U y.E
structure c0W (x:C11):Prop where
 P:Raw x.P
 R:Raw x.R
 A:Sz 9223372036854775807 x.A
 B:Sz 9223372036854775807 x.B
 C:Sz 9223372036854775807 x.C
 D:Sz 9223372036854775807 x.D
 K : -9223372036854775808<=x.K/\x.K<=9223372036854775807
 M : -9223372036854775808<=x.M/\x.M<=9223372036854775807
 At:Sz 9223372036854775807 x.At
 E : -9223372036854775808<=x.E/\x.E<=9223372036854775807
 F:YS x.F
 G:YS x.G
 X:SzQ 9223372036854775807 x.X
def fi2 (a:RI):RI:=(a.1,a.2.take 2)
def fp2 (p:List RI):List RI:=(p.take 9).map fi2
def fr1 (r:RQ):RQ:=((r.1.1,r.1.2.take 1),r.2.take 1)
def fq1 (p:List RQ):List RQ:=(p.take 7).map fr1
theorem fp2_rp {p:List RI}(h:∀c∈p,Lim c.2):RP 9 2 (fp2 p):=⟨by simp[fp2];omega,λc hc=>by
 obtain⟨d,hd,rfl⟩:=zaw.1 hc;exact⟨by simp[fi2];omega,λx hx=>h d (za0 hd) x (za0 hx)⟩⟩
theorem Md (l:List RI)(c:RI):bZ l++[[.bool c.1,.sl (dh c.2)]]=bZ (l++[c]):=by simp[bZ,jy]
set_option maxRecDepth 100000 in
theorem few14_ok (p:List RI)(hl:p.length<=9223372036854775807)(h:∀c∈p,c.2.length<=9223372036854775807):AC Tryz.prog 151 [cw p] none [cw (fp2 p)]:=by
 refine AC.aj (rs:=[.tmp 2]) aV Tryz.func151 (by rfl) (by rfl) (by rfl) (by rfl) (by rfl) ?_;simp only[wt,seval];refine bU 3 3 30 2 (by simp only[wt,seval]) (λf H=>∃(i st:Nat),i<=p.length/\i<=9/\f 4=.iv (.int .i64 i)/\f 0=.iv (.sl (bZ p))/\f 3=.hs 3 st/\H 3=.blk false st 30 2 (bZ ((p.take i).map fi2))) (λf H=>(p.length-bC f 4).toNat) ?_ ?_
 .refine⟨0,1,by omega,by omega,?_⟩;simp only[wt,seval,fJ,fH,zaj]
 rintro f H ⟨i,st,hi,hi9,hF⟩;rw[aC hF.1];simp (disch:=omega) only[wt,seval,hF];by_cases hlt:i<p.length
 .have h1:(i:Int)<p.length:=by omega
  by_cases h9:(i:Int)<9
  .have hq:((p.take i).map fi2).length=i:=by rw[zae,zah];omega
   have hg:p.getD i (false,[])=p[i]:=by simp[List.getD,hlt]
   have hcl:(p.getD i (false,[])).2.length<=9223372036854775807:=by rw[hg];exact h _ (zaY hlt)
   have e:=LD (p.getD i (false,[])).2 2;rw[show ((2:Nat):Int)=2 from rfl]at e;have et:(p.take (i+1)).map fi2=(p.take i).map fi2++[fi2 (p.getD i (false,[]))]:=by
    rw[zaS,zaf hlt,zav,hg];rfl
   simp (disch:=omega) only[wt,seval,hF,h1,h9,hq,e];refine .inl ⟨aP (by kernel_rfl),?_⟩;refine⟨aX (by kernel_rfl),?_⟩;refine⟨⟨i+1,st+1,by omega,by omega,?_⟩,by omega⟩;rw[et];exact⟨by omega,rfl,zaO _ (Md ((p.take i).map fi2) (fi2 (p.getD i (false,[]))))⟩
  .have e9:i=9:=by omega
   have e:(p.take i).map fi2=fp2 p:=by rw[e9];rfl
   rw[e]at hF;simp (disch:=omega) only[wt,seval,hF,h1,h9]
   try rfl
 .have h1:¬(i:Int)<p.length:=by omega
  simp (disch:=omega) only[wt,seval,hF,h1];rw[fp2,zac (by omega),zac (by omega)]
theorem a5A (l:List RQ)(r:RQ):dN l++[[.bool r.1.1,.sl (dh r.1.2),.sl (dh r.2)]]=dN (l++[r]):=by simp[dN,pW]
set_option maxRecDepth 100000 in
theorem fewQ14_ok (p:List RQ)(hl:p.length<=9223372036854775807)(h:∀c∈p,c.1.2.length<=9223372036854775807/\c.2.length<=9223372036854775807):AC Tryz.prog 152 [cqw p] none [cqw (fq1 p)]:=by
 have hrl:=MC p;refine AC.aj (rs:=[.tmp 2]) aV Tryz.func152 (by rfl) (by rfl) (by rfl) (by rfl) (by rfl) ?_;simp only[wt,seval];refine bU 3 3 32 3 (by simp only[wt,seval]) (λf H=>∃(i st s5:Nat),i<=p.length/\i<=7/\f 4=.iv (.int .i64 i)/\f 0=.iv (.sl (dN p))/\f 3=.hs 3 st/\H 3=.blk false st 32 3 (dN ((p.take i).map fr1))) (λf H=>(p.length-bC f 4).toNat) ?_ ?_
 .refine⟨0,1,1,by omega,by omega,?_⟩;simp only[wt,seval,rqs,fJ,fH,zaj]
 rintro f H ⟨i,st,s5,hi,hi9,hF⟩;rw[aC hF.1];simp (disch:=omega) only[wt,seval,rqs,hF];by_cases hlt:i<p.length
 .have h1:(i:Int)<p.length:=by omega
  by_cases h9:(i:Int)<7
  .have hq:((p.take i).map fr1).length=i:=by rw[zae,zah];omega
   have hg:p.getD i q0=p[i]:=by simp[List.getD,hlt]
   have hm:=h _ (zaY hlt);rw[<-hg]at hm;have e:=LD (p.getD i q0).1.2 1;have e':=LD (p.getD i q0).2 1;rw[show ((1:Nat):Int)=1 from rfl]at e e';have et:(p.take (i+1)).map fr1=(p.take i).map fr1++[fr1 (p.getD i q0)]:=by
    rw[zaS,zaf hlt,zav,hg];rfl
   obtain⟨hm1,hm2⟩:=hm;have hpr:∀(b:Bool) (l:List Nat),[IV.bool b,IV.sl (dh l)]=jy (b,l):=λ_ _=>rfl
   have hp2:=a1d;simp (disch:=omega) only[wt,seval,rqs,hF,h1,h9,hq,e,e',hpr];refine .inl ⟨aP (by kernel_rfl),?_⟩;refine⟨aX (by kernel_rfl),?_⟩;refine⟨⟨i+1,st+1,1,by omega,by omega,?_⟩,by omega⟩;rw[et];exact⟨by omega,rfl,zaO _ (a5A ((p.take i).map fr1) (fr1 (p.getD i q0)))⟩
  .have e9:i=7:=by omega
   have e:(p.take i).map fr1=fq1 p:=by rw[e9];rfl
   rw[e]at hF;simp (disch:=omega) only[wt,seval,hF,h1,h9]
   try rfl
 .have h1:¬(i:Int)<p.length:=by omega
  simp (disch:=omega) only[wt,seval,hF,h1];rw[fq1,zac (by omega),zac (by omega)]
structure C14 where
 (P R K:List RI) (L:List (List RI)) (F G:List RQ)
abbrev kC (x:C14):List IV:=[.sl (bZ x.P),.sl (bZ x.R),.sl (bZ x.K),.sl (gI x.L),.sl (dN x.F),.sl (dN x.G)]
def Ic (x:C14):C14:=⟨fp2 x.P,fp2 x.R,fp2 x.K,(x.L.take 6).map fp2,fq1 x.F,fq1 x.G⟩
structure b5u (x:C14):Prop where
 P:Raw x.P
 R:Raw x.R
 K:Raw x.K
 L:x.L.length<=9223372036854775807/\∀p∈x.L,Raw p
 F:YS x.F
 G:YS x.G
set_option maxRecDepth 100000 in
theorem a1Z {x:C14}(h:b5u x):AC Tryz.prog 67 [.agg (kC x)] none [.agg (kC (Ic x))]:=by
 have fz:∀{p:List RI},Raw p->AC Tryz.prog 151 [cw p] none [cw (fp2 p)]:=λ{p} hp=>few14_ok p hp.1 λc hc=>(hp.2 c hc).1
 have fq:∀{p:List RQ},YS p->AC Tryz.prog 152 [cqw p] none [cqw (fq1 p)]:=λ{p} hp=>fewQ14_ok p hp.1 λc hc=>⟨(hp.2 c hc).1.1,(hp.2 c hc).2.1⟩
 have hP:=fz h.P;have hR:=fz h.R;have hK:=fz h.K;have hFq:=fq h.F;have hG:=fq h.G;have hl:=h.L.1;refine AC.aj (rs:=[.cell 2 113]) aV Tryz.func67 (by rfl) (by rfl) (by rfl) (by rfl) (by rfl) ?_;simp (disch:=omega) only[wt,seval];refine .inl ⟨aP (by kernel_rfl),?_⟩;refine ah (hP) (by rfl) (by simp) ?_;simp (disch:=omega) only[wt,seval];refine ah (hR) (by rfl) (by simp) ?_;simp (disch:=omega) only[wt,seval];refine ah (hK) (by rfl) (by simp) ?_;simp (disch:=omega) only[wt,seval];refine ah (hFq) (by rfl) (by simp) ?_;simp (disch:=omega) only[wt,seval];refine ah (hG) (by rfl) (by simp) ?_;simp (disch:=omega) only[wt,seval];refine⟨aX (by kernel_rfl),?_⟩;refine bU 3 3 50 1 (by simp only[wt,seval]) (λf H=>∃(i st:Nat),i<=x.L.length/\i<=6/\f 4=.iv (.int .i64 i)/\f 1=.hp 1 1 0 0/\H 1=.blk false 1 113 6 [kC ⟨fp2 x.P,fp2 x.R,fp2 x.K,x.L,fq1 x.F,fq1 x.G⟩]/\f 2=.hp 2 1 0 0/\H 2=.blk false 1 113 6 [[.sl [],.sl [],.sl [],.sl [],.sl [],.sl []]]/\f 3=.hs 3 st/\H 3=.blk false st 50 1 (gI ((x.L.take i).map fp2))) (λf H=>(x.L.length-bC f 4).toNat) ?_ ?_
 .refine⟨0,1,by omega,by omega,?_⟩;simp only[wt,seval,fJ,fH,fJ,fH,kC,splice,zaJ,zft,zaj,List.drop_nil,show gI []=[] from rfl]
 rintro f H ⟨i,st,hi,hi6,hF⟩;rw[aC hF.1];simp (disch:=omega) only[wt,seval,hF];by_cases hlt:i<x.L.length
 .have h1:(i:Int)<x.L.length:=by omega
  by_cases h9:(i:Int)<6
  .have hq:((x.L.take i).map fp2).length=i:=by rw[zae,zah];omega
   have hg:x.L.getD i []=x.L[i]:=by simp[List.getD,hlt]
   have hat:=uO hlt;have f:=fz (p:=x.L.getD i []) (by rw[hg];exact h.L.2 _ (zaY hlt));have et:(x.L.take (i+1)).map fp2=(x.L.take i).map fp2++[fp2 (x.L.getD i [])]:=by
    rw[zaS,zaf hlt,zav,hg];rfl
   have hsn:=Kq ((x.L.take i).map fp2) (fp2 (x.L.getD i []));simp (disch:=omega) only[wt,seval,hF,h1,h9,hat];refine ah (f) (by rfl) (by simp) ?_;simp (disch:=omega) only[wt,seval,hF,hq,hsn];refine⟨⟨i+1,st+1,by omega,by omega,?_⟩,by omega⟩;rw[et]
   (repeat' apply zaa)<;>first|rfl|omega
  .have e9:i=6:=by omega
   have e:(x.L.take i).map fp2=(x.L.take 6).map fp2:=by rw[e9]
   rw[e]at hF;simp (disch:=omega) only[wt,seval,hF,h1,h9,kC,splice,zaJ,zft,zaj,List.take_nil,List.drop_nil]
   try rfl
 .have h1:¬(i:Int)<x.L.length:=by omega
  have e:(x.L.take i).map fp2=(x.L.take 6).map fp2:=by rw[zac (by omega),zac (by omega)]
  rw[e]at hF;simp (disch:=omega) only[wt,seval,hF,h1,kC,splice,zaJ,zft,zaj,List.take_nil,List.drop_nil]
  try rfl
theorem a9l (p:List RI)(h:RP (2^40) (2^40) p):AC Tryz.prog 80 [cw p] none [cw p]:=by
 have t:=a4R p h;refine AC.aj (rs:=[.tmp 2]) aV Tryz.func80 (by rfl) (by rfl) (by rfl) (by rfl) (by rfl) ?_;simp only[wt,seval];refine ah (t) (by rfl) (by simp) ?_;simp (disch:=omega) only[wt,seval]
 try rfl
theorem b2f (l:List (List RI))(hl:l.length<=2^40)(h:∀p∈l,RP (2^40) (2^40) p):AC Tryz.prog 70 [.iv (.sl (gI l))] none [.iv (.sl (gI l))]:=by
 refine AC.aj (rs:=[.tmp 2]) aV Tryz.func70 (by rfl) (by rfl) (by rfl) (by rfl) (by rfl) ?_;simp only[wt,seval];refine bU 3 3 50 1 (by simp only[wt,seval]) (λf H=>∃(i st:Nat),i<=l.length/\f 4=.iv (.int .i64 i)/\f 0=.iv (.sl (gI l))/\f 3=.hs 3 st/\H 3=.blk false st 50 1 (gI (l.take i))) (λf H=>(l.length-bC f 4).toNat) ?_ ?_
 .refine⟨0,1,by omega,?_⟩;simp only[wt,seval,fJ,fH,fJ,fH,zaj,show gI []=[] from rfl]
 rintro f H ⟨i,st,hi,hF⟩;rw[aC hF.1];simp (disch:=omega) only[wt,seval,hF];by_cases hlt:i<l.length
 .have h1:(i:Int)<l.length:=by omega
  have hq:(l.take i).length=i:=by rw[zah];omega
  have hg:l.getD i []=l[i]:=by simp[List.getD,hlt]
  have hat:=uO hlt;have f:=a9l (l.getD i []) (by rw[hg];exact h _ (zaY hlt));have et:l.take (i+1)=l.take i++[l.getD i []]:=by
   rw[zaS,zaf hlt,hg];rfl
  have hsn:=Kq (l.take i) (l.getD i []);simp (disch:=omega) only[wt,seval,hF,h1,hat];refine ah (f) (by rfl) (by simp) ?_;simp (disch:=omega) only[wt,seval,hF,hq,hsn];refine⟨⟨i+1,st+1,by omega,?_⟩,by omega⟩;rw[et]
  (repeat' apply zaa)<;>first|rfl|omega
 .have h1:¬(i:Int)<l.length:=by omega
  rw[zac (by omega)]at hF;simp (disch:=omega) only[wt,seval,hF,h1]
  try rfl
end Go.Proofs.YtdpngipofekcfaaGreat
