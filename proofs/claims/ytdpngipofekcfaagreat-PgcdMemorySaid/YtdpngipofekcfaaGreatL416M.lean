/-
 Contracts of the functions that the law reaches.
-/
import Derived.Test.YtdpngipofekcfaaGreatL381M
import Derived.Test.YtdpngipofekcfaaGreatAbsZ2
import Derived.Test.YtdpngipofekcfaaGreatL117M
set_option maxHeartbeats 2000000
set_option maxRecDepth 100000
set_option linter.defProp false
namespace Go.Proofs.YtdpngipofekcfaaGreat
open Go Go.Proofs Go.AL
set_option linter.unusedSimpArgs false
set_option linter.unusedVariables false

section
variable {B E i:Nat} {l m:List Nat}
def a0R (a b:RQ)(ha:SzQ (2^35) a)(hb:SzQ (2^35) b)(h0:nv a.2≠0)(h1:nv b.2≠0)(h2:iv b.1≠0):ACX Tryz.prog 95 [cqq a,cqq b] (a4r (aN (qv a/qv b)) 0):=by
 have c:=zC a b (ha.mono (by omega)) (hb.mono (by omega)) h0 h1;have t1:=AA a.1 b.2 (ha.1.mono (by omega)) ⟨zad hb.2.1 (by omega),hb.2.2⟩;have t2:=AA b.1 a.2 (hb.1.mono (by omega)) ⟨zad ha.2.1 (by omega),ha.2.2⟩;have z1:=fA (iv a.1) (nv b.2:Nat);have z2:=fA (iv b.1) (nv a.2:Nat);have y1:=oO ha.1;have y2:=oO hb.1;have y3:=D9 ha.2;have y4:=D9 hb.2;have r:=P8 (canon (iv a.1*(nv b.2:Nat))) (canon (iv b.1*(nv a.2:Nat))) ((aY _).mono (by omega)) ((aY _).mono (by omega)) (by rw[aS];exact zb3 h2 (by omega));rw[aS,aS,b3Y h0 h1 h2]at r;refine ACX.aj zi0 (rs:=[.cell 4 32,.tmp 5]) aV Tryz.func95 (by rfl) (by rfl) (by rfl) (by rfl) (by rfl) (GY _ _) (λB0=>?_);simp (disch:=omega) only[wt,seval,rqs,MB];refine ah (c) (by rfl) (by simp) ?_;simp (disch:=omega) only[wt,seval,rqs];refine .inl ⟨aP (by kernel_rfl),?_⟩;refine ah (t1) (by rfl) (by simp) ?_;simp (disch:=omega) only[wt,seval,rqs];refine ah (t2) (by rfl) (by simp) ?_;simp only[wt,seval];refine aJ (r) (by rfl) (by simp) (by rfl) ?_;rintro B1 E1 _ hB1 hE1 ⟨b1,c1,rfl,hb1⟩;simp (disch:=omega) only[wt,seval,fZ];refine⟨aX (by kernel_rfl),?_⟩;refine aQ [.agg (frq b1 c1 (aN (qv a/qv b))),ci 0] (by rfl) (by simp (disch:=omega) only[wt,seval,dK]) ?_;intro E hE;exact⟨b1,c1,rfl,hb1.mono hB1 (by omega)⟩
def b3d (l m:List RQ)(e:Int)(B E:Nat)(res:List CV):Prop:=∃b bs c cs,res=[.iv (fqp b bs l),.iv (fqp c cs m),ci e]/\bs.length=l.length/\cs.length=m.length/\Nw B E ((oid b++idq bs)++(oid c++idq cs))
theorem a8U (l m:List RQ)(e:Int)(B:Nat):∃E res,B<=E/\b3d l m e B E res:=⟨B,_,zab _,none,List.replicate l.length (none,none),none,List.replicate m.length (none,none),rfl,by simp,by simp,by rw[ou,ou];exact .nil _ _⟩
def Ph (p q:List RQ)(hp:GQ (2^40) (2^38) p)(hq:GQ (2^40) (2^38) q):ACX Tryz.prog 89 [cqw p,cqw q] (b3d (cqs (qvs p)) (cqs (qvs q)) 0):=by
 have m:=D8 p hp;have n:=D8 q hq;refine ACX.aj zi0 (rs:=[.tmp 4,.tmp 5,.tmp 6]) aV Tryz.func89 (by rfl) (by rfl) (by rfl) (by rfl) (by rfl) (a8U _ _ _) (λB0=>?_);simp only[wt,seval];refine aJ (m) (by rfl) (by simp) (by rfl) ?_;rintro B1 E1 _ hB1 hE1 ⟨b1,bs1,rfl,hl1,hb1⟩;simp (disch:=omega) only[wt,seval];refine aJ (n) (by rfl) (by simp) (by rfl) ?_;rintro B2 E2 _ hB2 hE2 ⟨b2,bs2,rfl,hl2,hb2⟩;simp (disch:=omega) only[wt,seval];refine aQ [.iv (fqp b1 bs1 (cqs (qvs p))),.iv (fqp b2 bs2 (cqs (qvs q))),ci 0] (by rfl) (by simp (disch:=omega) only[wt,seval]) ?_;intro E hE;exact⟨b1,bs1,b2,bs2,rfl,hl1,hl2,(hb1.append hb2 (by omega) (by omega) (by omega)).mono (by omega) (by omega)⟩
theorem Qj (b:OB)(l:List Nat):Full (.own b 148 1 (dh l)):=.own _ _ _ _ λr hr x hx=>by
 obtain⟨n,_,rfl⟩:=zaw.1 hr;simp only[zb0]at hx;subst hx;exact .int _ _
theorem Ir (bs:List (OB×OB))(l:List RQ):∀r∈bV bs l,∀x∈r,Full x:=λr hr x hx=>by
 obtain⟨i,hi⟩:=zba hr;rw[bV,zce]at hi;split at hi
 .injection hi with hi;subst hi;simp only[zaG,zaT,zco]at hx;rcases hx with rfl|rfl|rfl
  .exact .bool _
  .exact Qj _ _
  .exact Qj _ _
 .cases hi
def b4n {b:OB}(h:Nw B E (oid b++l)){g cap:Nat}(hb:b=some (g,cap)):B<=g/\g∉l:=by
 subst hb;exact⟨(h.2 g (by simp[oid])).1,λhg=>(zek.1 h.1).2.2 g (by simp[oid]) g hg rfl⟩
def a0g {l m:List RQ}{e:Int}(B' E:Nat)(res:List CV)(h:b3d l m e B' E res):∃b rows rest,res=.iv (.own b 32 3 rows)::rest/\(∀r∈rows,∀x∈r,Full x)/\(∀c∈rest,a7O c)/\∀g cap,b=some (g,cap)->B'<=g/\g∉bY rows/\∀c∈rest,g∉b1A c:=by
 obtain⟨b,bs,c,cs,rfl,h1,h2,hn⟩:=h;refine⟨b,_,_,rfl,Ir _ _,λx hx=>?_,λg cap hb=>?_⟩
 .simp only[zaG,zaT,zco]at hx;rcases hx with rfl|rfl
  .exact .own _ _ _ _ (Ir _ _)
  .exact .int _ _
 .rw[zaR]at hn;have ho:=b4n hn hb;rw[jW h1];refine⟨ho.1,λh=>ho.2 (zbq _ h),λx hx=>?_⟩;simp only[zaG,zaT,zco]at hx;rcases hx with rfl|rfl
  .simp only[b1A,IV.ids,jW h2];intro hg;refine ho.2 (zaF _ ?_);cases c with
   |none=>simpa [oid] using hg
   |some p=>simpa [oid] using hg
  .simp[b1A,IV.ids]
theorem Nw.sub (h:Nw B E l)(hs:m.Sublist l):Nw B E m:=⟨h.1.sublist hs,λg hg=>h.2 g (hs.subset hg)⟩
def a2q {bs:List (OB×OB)}(hi:i<bs.length)(b c:OB):idq (bs.set i (b,c))=idq (bs.take i)++((oid b++oid c)++idq (bs.drop (i+1))):=by
 rw[zey,zas hi];simp[idq]
theorem Qd {bs:List (OB×OB)}(hi:i<bs.length):idq bs=idq (bs.take i)++((oid bs[i].1++oid bs[i].2)++idq (bs.drop (i+1))):=by
 have e:bs=bs.take i++bs[i]::bs.drop (i+1):=by rw[<-zcl hi,zb1]
 have h:idq (bs.take i++bs[i]::bs.drop (i+1))=idq (bs.take i)++((oid bs[i].1++oid bs[i].2)++idq (bs.drop (i+1))):=by simp only[idq,zbc,zbu]
 rw[<-e]at h;exact h
def b0W {C F:Nat}{bs:List (OB×OB)}(hi:i<bs.length){b c:OB}(h:Nw B E (l++(idq bs++m)))(k:Nw C F (oid b++oid c))(hB:B<=C)(hE:E<=C)(hF:E<=F):Nw B F (l++(idq (bs.set i (b,c))++m)):=by
 rw[Qd hi]at h;rw[a2q hi];have h1:Nw B E (l++((idq (bs.take i)++idq (bs.drop (i+1)))++m)):=h.sub ((((zeo _ _).append_left _).append_right _).append_left _);have h2:=h1.append k hB hE hF;refine h2.perm ?_;refine zfs.2 λa=>?_;simp only[zbF];omega
def b0X {bs:List (OB×OB)}(hi:i<bs.length){b c:OB}(h:Nw B E (l++(idq bs++(oid b++oid c)++m))):Nw B E (l++(idq (bs.set i (b,c))++m)):=by
 rw[Qd hi]at h;rw[a2q hi];have h1:Nw B E (l++((idq (bs.take i)++idq (bs.drop (i+1)))++(oid b++oid c)++m)):=h.sub (((((zeo _ _).append_left _).append_right _).append_right _).append_left _);refine h1.perm ?_;refine zfs.2 λa=>?_;simp only[zbF];omega
def Ed (bs:List (OB×OB))(k:Nat):(idq (bs.take k)).Sublist (idq bs):=by
 have e:idq bs=idq (bs.take k)++idq (bs.drop k):=by
  rw[idq,idq,idq,<-zbc,zb1]
 rw[e];exact List.sublist_append_left _ _
theorem a8K {g:Nat}{args:List CV}{l m:List RQ}{e:Int}(h:ACX Tryz.prog g args (b3d l m e)):AC Tryz.prog g args none [cqw l,cqw m,ci e]:=ACX.plain h λB E r hr=>by
 obtain⟨b,bs,c,cs,rfl,hb,hc,-⟩:=hr;exact .cons (iD hb) (.cons (iD hc) (.cons (.refl _) .nil))
theorem EY (p q:List RQ)(hp:GQ (2^40) (2^38) p)(hq:GQ (2^40) (2^38) q):AC Tryz.prog 89 [cqw p,cqw q] none [cqp (qvs p),cqp (qvs q),ci 0] :=
 a8K (Ph p q hp hq)
theorem a5P (p q:List RQ)(g:Nat)(F:Rat->Rat->Rat)(K:Nat)(hp:GQ (2^30) K p)(hq:GQ (2^30) K q)(hK:K<=2^35)(hK1:1<=K)(hF0:F 0 0=0)(hs:∀a b,qz a<=K->qz b<=K->qz (F a b)<=2^38)
  (hop:∀a b,qz a<=K->qz b<=K->AC Tryz.prog g [cqz a,cqz b] none [cqz (F a b),ci 0]):AC Tryz.prog 86 [cqw p,cqw q,.fn g []] none [cqp (FW F (qvs p) (qvs q)),ci 0]:=by
 have m:=EY p q (hp.mono (by omega) (by omega)) (hq.mono (by omega) (by omega));have hA:=hp.qb.au;have hB:=hq.qb.au;have e:cqp (FW F (qvs p) (qvs q))=cqp (FW F (au (qvs p)) (au (qvs q))):=zaO cqw (vC λk=>by rw[jw hF0,jw hF0,dQ,dQ]);rw[e];refine AC.aj (rs:=[.tmp 6,.tmp 7]) aV Tryz.func86 (by rfl) (by rfl) (by rfl) (by rfl) (by rfl) ?_;simp only[wt,seval];refine ah (m) (by rfl) (by simp) ?_;simp (disch:=omega) only[wt,seval,rqs];unfold cqs;generalize au (qvs p)=A at *;generalize au (qvs q)=B at *;have hAl:=hA.1;have hBl:=hB.1;have hqa:(A.map aN).length=A.length:=zae _;have hqb:(B.map aN).length=B.length:=zae _;have hRl:=zS F A B;have hR:QB (2^40) (2^38) (FW F A B):=.of (by omega) λi=>by rw[jw hF0];exact hs _ _ (hA.cz hK1 i) (hB.cz hK1 i)
 obtain⟨n,hn⟩:∃n,n=max A.length B.length:=⟨_,rfl⟩;have hnI:max (A.length:Int) (B.length:Int)=(n:Int):=by omega
 rw[<-hn]at hRl;simp only[seval,hqa,hqb,hnI];refine bU 11 11 32 3 (by simp only[wt,seval]) (λf H=>∃(i st:Nat),i<=n/\f 30=.iv (.int .i64 i)/\f 29=.iv (.int .i64 n)/\f 8=.iv (.sl (dN (A.map aN)))/\f 9=.iv (.sl (dN (B.map aN)))/\f 2=.fn g []/\f 11=.hs 11 st/\H 11=.blk false st 32 3 (dN (((FW F A B).take i).map aN))) (λf H=>(n-bC f 30).toNat) ?_ ?_
 .refine⟨0,1,by omega,?_⟩;simp only[wt,seval,rqs,fJ,fH,zaj]
 rintro f H ⟨i,st,hi,hF⟩;rw[aC hF.1];simp (disch:=omega) only[wt,seval,hF];refine bf (λhlt=>?_) (λhlt=>?_)
 .have hq:(((FW F A B).take i).map aN).length=i:=by rw[zae,zah];omega
  have c1:=AO A i (hA.mono (by omega) (by omega));have c2:=AO B i (hB.mono (by omega) (by omega));have o:=hop (cfq A i) (cfq B i) (hA.cz hK1 i) (hB.cz hK1 i);simp (disch:=omega) only[wt,seval,hF];refine ah (c1) (by rfl) (by simp) ?_;simp (disch:=omega) only[wt,seval,hF];refine ah (c2) (by rfl) (by simp) ?_;simp (disch:=omega) only[wt,seval];refine ah (o) (by rfl) (by simp) ?_;simp (disch:=omega) only[wt,seval,rqs,hF,hq];have e:=jR (q:=FW F A B) (i:=i) (by omega);rw[jw hF0]at e;refine⟨⟨i+1,st+1,by omega,?_⟩,by omega⟩;rw[e,zav]
  (repeat' apply zaa)<;>first|rfl|omega
 .simp (disch:=omega) only[wt,seval,hF];rw[zac (by omega)]at hF;have m:=OY (FW F A B) hR;refine ah (m) (by simp only[gV,qU,hF];rfl) (by simp) ?_;simp (disch:=omega) only[wt,seval,hF]
theorem a5K (p q:List RQ)(K:Nat)(hp:GQ (2^30) K p)(hq:GQ (2^30) K q)(hK:K<=2^35)(hK1:1<=K):AC Tryz.prog 13 [cqw p,cqw q] none [cqp (LH (qvs p) (qvs q)),ci 0]:=by
 have m:=a5P p q 88 (λa b=>a-b) K hp hq hK hK1 (by decide +kernel) (λa b ha hb=>by have:=a8z a b;omega) (λa b ha hb=>by
  have:=b0y (aN a) (aN b) (cO (by omega)) (cO (by omega)) (cZ _) (cZ _);rwa [eF,eF]at this)
 refine AC.aj (rs:=[.tmp 4,.tmp 5]) aV Tryz.func13 (by rfl) (by rfl) (by rfl) (by rfl) (by rfl) ?_;simp only[wt,seval];refine ah (m) (by rfl) (by simp) ?_;simp (disch:=omega) only[wt,seval]
 try rfl
def a5L (p q:List RQ)(D E n k:Nat)(hp:GQ (2^30) (2^36) p)(hq:GQ (2^30) (2^36) q)(hCA:CB D n k (au (qvs p)))(hCB:CB E n k (au (qvs q)))(hn:n<=2^28)(hM:k<=2^33)(hk:1<=k):AC Tryz.prog 14 [cqw p,cqw q] none [cqp (gJ (qvs p) (qvs q)),ci 0]:=by
 have m:=EY p q (hp.mono (by omega) (by omega)) (hq.mono (by omega) (by omega));have hA:=hCA.qb;have hB:=hCB.qb;have e:cqp (gJ (qvs p) (qvs q))=cqp (gJ (au (qvs p)) (au (qvs q))):=zaO cqw (vC λk=>(GZ _ _ k).symm);have tA:=aZ (qvs p);have tB:=aZ (qvs q);rw[e];refine AC.aj (rs:=[.tmp 4,.tmp 5]) aV Tryz.func14 (by rfl) (by rfl) (by rfl) (by rfl) (by rfl) ?_;simp only[wt,seval];refine ah (m) (by rfl) (by simp) ?_;simp (disch:=omega) only[wt,seval,rqs];unfold cqs;generalize au (qvs p)=A at *;generalize au (qvs q)=B at *;have hqa:(A.map aN).length=A.length:=zae _;have hqb:(B.map aN).length=B.length:=zae _;by_cases ha:A.length=0
 .have ha':((A.map aN).length:Int)=0:=by omega
  have hn:=Fb (A:=A) (B:=B) (.inl (by rw[tA];exact zaz.mp ha));rw[show cqp (gJ A B)=cqw [] from zaO cqw hn];simp (disch:=omega) only[wt,seval,rqs,ha']
  try rfl
 have ha':¬((A.map aN).length:Int)=0:=by omega
 by_cases hb:B.length=0
 .have hb':((B.map aN).length:Int)=0:=by omega
  have hn:=Fb (A:=A) (B:=B) (.inr (by rw[tB];exact zaz.mp hb));rw[show cqp (gJ A B)=cqw [] from zaO cqw hn];simp (disch:=omega) only[wt,seval,rqs,ha',hb']
  try rfl
 have hb':¬((B.map aN).length:Int)=0:=by omega
 have c1:=GI (A.map aN) D n k ((hA.mono (by omega) (by omega)).gq) (by rw[dG,tA];exact hCA) hn hM;have c2:=GI (B.map aN) E n k ((hB.mono (by omega) (by omega)).gq) (by rw[dG,tB];exact hCB) hn hM;rw[dG,tA]at c1;rw[dG,tB]at c2;have pA:=hCA.KX.mono (n':=2^30) (k':=2^35) (by omega) (by omega);have pB:=hCB.KX.mono (n':=2^30) (k':=2^35) (by omega) (by omega);have z:=TG ((clr A).map canon) ((clr B).map canon) (RP.canon pA) (RP.canon pB);rw[fP,fP]at z;have l1:=hCA.og;have l2:=hCB.og;have pm:=(pA.fD pB (by decide)).aO;have o:=a5M (aO (fD (clr A) (clr B))) (lS A) (lS B) (pm.mono (by omega) (by omega)) (by omega) (by omega) (kG A) (kG B);have ee:cqs (Un (aO (fD (clr A) (clr B))) ((lS A*lS B:Nat):Int))=cqs (gJ A B):=vC (BJ A B);rw[show cqp (Un (aO (fD (clr A) (clr B))) ((lS A*lS B:Nat):Int))=cqw (cqs (gJ A B)) from zaO cqw ee]at o;simp only[wt,seval,ha',hb'];refine ah (c1) (by rfl) (by simp) ?_;simp (disch:=omega) only[wt,seval];refine ah (c2) (by rfl) (by simp) ?_;simp (disch:=omega) only[wt,seval];refine ah (z) (by rfl) (by simp) ?_;simp only[wt,seval];refine ah (o) (by rfl) (by simp) ?_;simp (disch:=omega) only[wt,seval]
 try rfl
def a0T (p q:List RQ)(n k:Nat)(hp:GQ n k p)(hq:GQ n k q)(hn:n<=2^28)(hM:n*k+k+2<=2^33)(hk:1<=k):ACX Tryz.prog 14 [cqw p,cqw q] (RQp (cqs (gJ (qvs p) (qvs q))) 0):=by
 have m:=EY p q (hp.mono (by omega) (by omega)) (hq.mono (by omega) (by omega));have hA:=hp.qb.au;have hB:=hq.qb.au;have e:cqs (gJ (qvs p) (qvs q))=cqs (gJ (au (qvs p)) (au (qvs q))):=(vC λk=>(GZ _ _ k).symm);have tA:=aZ (qvs p);have tB:=aZ (qvs q);rw[e];refine ACX.aj zi0 (rs:=[.tmp 4,.tmp 5]) aV Tryz.func14 (by rfl) (by rfl) (by rfl) (by rfl) (by rfl) (EJ _ _) (λB0=>?_);simp only[wt,seval];refine ah (m) (by rfl) (by simp) ?_;simp (disch:=omega) only[wt,seval,rqs];have ua:cqs (qvs p)=(au (qvs p)).map aN:=rfl;have ub:cqs (qvs q)=(au (qvs q)).map aN:=rfl;rw[ua,ub];clear ua ub m e;generalize au (qvs p)=A at *;generalize au (qvs q)=B at *;have hqa:(A.map aN).length=A.length:=zae _;have hqb:(B.map aN).length=B.length:=zae _;by_cases ha:A.length=0
 .have ha':((A.map aN).length:Int)=0:=by omega
  have hn:=Fb (A:=A) (B:=B) (.inl (by rw[tA];exact zaz.mp ha));rw[hn];simp only[wt,seval,ha'];refine dO 4 32 3 (by rfl) ?_;refine aQ [.iv (fqp none [] []),ci 0] (by rfl) (by simp (disch:=omega) only[wt,seval];rfl) ?_;intro E hE;exact⟨none,[],rfl,rfl,.nil _ _⟩
 have ha':¬((A.map aN).length:Int)=0:=by omega
 by_cases hb:B.length=0
 .have hb':((B.map aN).length:Int)=0:=by omega
  have hn:=Fb (A:=A) (B:=B) (.inr (by rw[tB];exact zaz.mp hb));rw[hn];simp only[wt,seval,ha',hb'];refine dO 4 32 3 (by rfl) ?_;refine aQ [.iv (fqp none [] []),ci 0] (by rfl) (by simp (disch:=omega) only[wt,seval];rfl) ?_;intro E hE;exact⟨none,[],rfl,rfl,.nil _ _⟩
 have hb':¬((B.map aN).length:Int)=0:=by omega
 have c1:=P9 (A.map aN) n k hA.gq hn hM;have c2:=P9 (B.map aN) n k hB.gq hn hM;rw[dG,tA]at c1;rw[dG,tB]at c2;have pA:=hA.clr.mono (n':=2^30) (k':=2^35) (by omega) (by omega);have pB:=hB.clr.mono (n':=2^30) (k':=2^35) (by omega) (by omega);have z:=TG ((clr A).map canon) ((clr B).map canon) (RP.canon pA) (RP.canon pB);rw[fP,fP]at z;have l1:=og hA;have l2:=og hB;have pm:=(pA.fD pB (by decide)).aO;have o:=P6 (aO (fD (clr A) (clr B))) (lS A) (lS B) (pm.mono (by omega) (by omega)) (by omega) (by omega) (kG A) (kG B);have ee:cqs (Un (aO (fD (clr A) (clr B))) ((lS A*lS B:Nat):Int))=cqs (gJ A B):=vC (BJ A B);rw[ee]at o;simp only[wt,seval,ha',hb'];refine ah (c1) (by rfl) (by simp) ?_;simp (disch:=omega) only[wt,seval];refine ah (c2) (by rfl) (by simp) ?_;simp (disch:=omega) only[wt,seval];refine ah (z) (by rfl) (by simp) ?_;simp only[wt,seval];refine aJ (o) (by rfl) (by simp) (by rfl) ?_;rintro B' E _ hB1 hE ⟨b,bs,rfl,hl,hn2⟩;simp (disch:=omega) only[wt,seval];refine aQ [.iv (fqp b bs (cqs (gJ A B))),ci 0] (by rfl) (by simp (disch:=omega) only[wt,seval]) ?_;intro E hE;exact⟨b,bs,rfl,hl,hn2.mono hB1 (by omega)⟩
end
set_option maxHeartbeats 4000000 in
def VK (p q:List RQ)(hp:GQ (2^30) (2^32) p)(hq:GQ (2^30) (2^32) q)(n K:Nat)(v:DV (au (qvs p)) (au (qvs q)) n K):ACX Tryz.prog 16 [cqw p,cqw q] (b3d (cqs (dqu (au (qvs p)) (au (qvs q)) n)) ((dit (au (qvs p)) (au (qvs q)) n).map aN) 0):=by
 have m:=Ph p q (hp.mono (by omega) (by omega)) (hq.mono (by omega) (by omega));refine ACX.aj zi0 (rs:=[.tmp 4,.tmp 5,.tmp 6]) aV Tryz.func16 (by rfl) (by rfl) (by rfl) (by rfl) (by rfl) (a8U _ _ _) (λB0=>?_);simp only[wt,seval];refine a7w (m.aci (k:=21) (e:=32) (sz:=3) (by rfl) (by simp) (by rfl) (by rfl) a0g) ?_;rintro _ _ ⟨B1,E1,_,_,_,hB1,hE1,⟨b,bs,c,cs,he,hl1,hl2,hnw⟩,rfl,rfl⟩;simp only[zc6,CV.iv.injEq,IV.own.injEq]at he;obtain⟨⟨rfl,_,_,rfl⟩,rfl⟩:=he;have hnb:Nw B0 E1 (idq bs):=(hnw.sub ((zeo _ _).trans (List.sublist_append_left _ _))).mono hB1 (zab _);clear hnw m;unfold cqs at *;generalize au (qvs p)=A at *;generalize au (qvs q)=B at *;obtain⟨la,lb,h0,hb,ta,tb,en,hj,za,zb,k1,k2⟩:=v;rw[zae]at hl1 hl2;have hqa:(bV bs (A.map aN)).length=A.length:=by rw[eX (by rw[hl1,zae]),zae]
 have hqb:(bV cs (B.map aN)).length=B.length:=by rw[eX (by rw[hl2,zae]),zae]
 have hb0:¬(B.length:Int)=0:=by omega
 obtain⟨N,hN⟩:∃N,N=A.length+1-B.length:=⟨_,rfl⟩;have hNI:max ((A.length:Int)-(B.length:Int)+1) 0=(N:Int):=by omega
 simp (disch:=omega) only[wt,seval,hqa,hqb,hb0,hNI,pG,CV.av];refine bU 10 10 32 3 (by simp only[wt,seval]) (λf H=>∃(i st:Nat) (qs:List (OB×OB)) (E:Nat),i<=N/\qs.length=i/\B0<=E/\Nw B0 E (idq bs++idq qs)/\f 40=.iv (.int .i64 i)/\f 39=.iv (.int .i64 N)/\f 7=.hs 21 1/\f 8=.iv (fqp c cs (B.map aN))/\f 10=.hs 10 st/\H 21=.blk false 1 32 3 (bV bs (A.map aN))/\H 10=.blk false st 32 3 (bV qs ((List.replicate i (0:Rat)).map aN))/\H 999=.mrk E) (λf H=>(N-bC f 40).toNat) ?_ ?_
 .refine⟨0,1,[],E1,by omega,rfl,by omega,by simpa [idq] using hnb,?_⟩;simp only[wt,seval,fJ,fH,zdq];rfl
 rintro f H ⟨i,st,qs,E,hi,hqs,hBE,hnw,h40,h39,h7,h8,h10,hH1,hH2,Oa⟩;rw[aC h40];have hrq:(bV qs ((List.replicate i (0:Rat)).map aN)).length=i:=by rw[eX (by simp[hqs])];simp
 simp (disch:=omega) only[wt,seval,h40,h39];refine bf (λhlt=>?_) (λhlt=>?_)
 .simp (disch:=omega) only[wt,seval,h10];refine aJ (P7) (by rfl) (by simp) (by assumption) ?_;rintro B2 E2 _ hB2 hE2 ⟨b2,c2,rfl,hn2⟩;simp (disch:=omega) only[wt,seval,h40,h39,h7,h8,hH1,hH2,hrq];refine⟨⟨i+1,st+1,qs++[(b2,c2)],E2,by omega,by simp[hqs],by omega,?_,by omega,rfl,?_,rfl⟩,by omega⟩
  .rw[Fg,<-zaR];exact hnw.append hn2 (by omega) hB2 (by omega)
  .rw[uV (by simp[hqs]),zdJ,zav];rfl
 obtain rfl:i=N:=by omega
 rw[<-a6g]at hH2;simp (disch:=omega) only[wt,seval];refine aI (λf H=>∃(k sr sq:Nat) (rs qs:List (OB×OB)) (E:Nat),k<=n/\rs.length=(dit A B k).length/\qs.length=i/\B0<=E/\Nw B0 E (idq rs++idq qs)/\f 7=.hs 21 sr/\f 8=.iv (fqp c cs (B.map aN))/\f 10=.hs 10 sq/\H 21=.blk false sr 32 3 (bV rs ((dit A B k).map aN))/\H 10=.blk false sq 32 3 (bV qs ((MP i (dqu A B k)).map aN))/\H 999=.mrk E) (λf H=>hrows (H 21)) ?_ ?_
 .exact⟨0,1,st,bs,qs,E,za4 _,hl1,hqs,hBE,hnw,by simp only[wt,seval,h7],by simp only[wt,seval,h8],by simp only[wt,seval,h10],hH1,hH2,Oa⟩
 clear h40 h39 h7 h8 h10 hH1 hH2 Oa hnw hqs hBE hnb hrq hqa;clear f H;rintro f H ⟨k,sr,sq,rs,qs,E,hk,hrs,hqs,hBE,hnw,h7,h8,h10,hH1,hH2,Oa⟩;have hrl:(bV rs ((dit A B k).map aN)).length=(dit A B k).length:=by rw[eX (by rw[hrs,zae]),zae]
 rw[show hrows (H 21)=(dit A B k).length by rw[hH1,Qg,hrl]];by_cases hge:B.length<=(dit A B k).length
 .have hkn:k<n:=zfA hk λe=>by rw[e]at hge;omega
  have hl1:=zK h0 hb k λj hjk=>hj j (by omega)
  have hlow:=Um h0 hb k (λj hjk=>hj j (by omega)) ((dit A B k).length-B.length) (by omega);have hset:=b1V (N:=i) (k:=k) (A:=A) (B:=B) (by omega) hlow;have hend:=a4Y hge;have hdn:=IL h0 hb hge;have zx:=za k hk;have zx1:=za (k+1) hkn;rw[show dit A B (k+1)=dn1 (dit A B k) B from rfl]at zx1;have b5W:dit A B (k+1)=dn1 (dit A B k) B:=rfl;generalize hQ':dqu A B (k+1)=Q' at *;generalize hXX:dit A B k=X at *;generalize dqu A B k=Q at *;obtain⟨s,hs⟩:∃s,s=X.length-B.length:=⟨_,rfl⟩;rw[<-hs]at hset hend;have zc:=a0J (cfq X (X.length-1)) (cfq B (B.length-1));have zc1:=zx (X.length-1);have zc2:=zb (B.length-1);have mq:=a0R (aN (cfq X (X.length-1))) (aN (cfq B (B.length-1))) (cO (by omega)) (cO (by omega)) (cZ _) (cZ _) (by rw[Ig];exact λe=>hb (zcK.mp e));rw[eF,eF,show cfq X (X.length-1)/cfq B (B.length-1)=dc X B from rfl]at mq;rw[show cfq X (X.length-1)/cfq B (B.length-1)=dc X B from rfl]at zc;have hge':(B.length:Int)<=(X.length:Int):=by omega
  have e1:(X.length:Int)-1=((X.length-1:Nat):Int):=by omega
  have e2:(B.length:Int)-1=((B.length-1:Nat):Int):=by omega
  have e3:(X.length:Int)-(B.length:Int)=(s:Int):=by omega
  have g1:=pX (bs:=rs) (l:=X.map aN) (by rw[hrs,zae]) (i:=X.length-1) (by rw[zae];omega);have g2:=pX (bs:=cs) (l:=B.map aN) (by rw[hl2,zae]) (i:=B.length-1) (by rw[zae];omega);rw[dZ (by omega)]at g1 g2;have hs0:=ZP X B (dc X B) (s:=s) (by omega);simp (disch:=omega) only[wt,seval,dK,h7,h8,hH1,hrl,hqb,hge',e1,e2,e3,g1,g2];refine .inr ⟨[0,1,2,3,4,5,6,7,8,9,10,11,16,12,13,14,15,17,18],[0,1,2,3,4,5,6,7,8,9,10,11,13,14,15,16,12,17,18],by kernel_rfl,aP (by kernel_rfl),?_⟩;simp only[mg,a0r,zaC,zbv,zd0,zdp,zdK];simp (disch:=omega) only[wt,seval,dK,h7,h8,hH1,hrl,hqb,e1,e2,g1,g2];refine aJ ((mq.soft (.cons (qW _ _ _) (.cons (qW _ _ _) .nil)))) (by rfl) (by simp) (by assumption) ?_;rintro B2 E2 _ hB2 hE2 ⟨b2,c2,rfl,hn2⟩;simp (disch:=omega) only[wt,seval,fZ,h8,hqb];refine⟨aX (by kernel_rfl),?_⟩;refine aI (λf H=>∃(j sc:Nat) (rs:List (OB×OB)) (E:Nat),j<=B.length/\rs.length=X.length/\B0<=E/\Nw B0 E (idq rs++(idq qs++(oid b2++oid c2)))/\f 75=.iv (.int .i64 j)/\f 74=.iv (.int .i64 B.length)/\f 73=.iv (fqp c cs (B.map aN))/\f 8=.iv (fqp c cs (B.map aN))/\f 7=.hs 21 sr/\f 10=.hs 10 sq/\f 11=.iv (.int .i64 s)/\f 12=.hp 12 sc 0 0/\H 12=.blk false sc 32 3 [frq b2 c2 (aN (dc X B))]/\H 21=.blk false sr 32 3 (bV rs ((O7 X B (dc X B) s j).map aN))/\H 10=.blk false sq 32 3 (bV qs ((MP i Q).map aN))/\H 999=.mrk E) (λf H=>(B.length-bC f 75).toNat) ?_ ?_
  .refine⟨0,(H 12).stamp+1,rs,E2,by omega,hrs,by omega,?_,?_⟩
   .rw[<-zaR];exact hnw.append hn2 (by omega) hB2 (by omega)
   .simp only[wt,seval,h7,h8,h10,hH1,hH2,hs0]
    try rfl
  clear h7 h8 h10 hH1 hH2 Oa hnw hrs hrl g1 hBE hB2 hE2 hn2;clear f H;rintro f H ⟨j,sc,rs,E,hjl,hrs,hBE,hnw,h75,h74,h73,h8,h7,h10,h11,h12,hH3,hH1,hH2,Oa⟩;rw[aC h75];have hsl:(bV rs ((O7 X B (dc X B) s j).map aN)).length=X.length:=by rw[eX (by rw[zae,jS];exact hrs),zae,jS]
  simp (disch:=omega) only[wt,seval,h75,h74];refine bf (λhlt=>?_) (λhlt=>?_)
  .have hlt':j<B.length:=by omega
   have e4:(s:Int)+(j:Int)=((s+j:Nat):Int):=by omega
   have g3:=pX (bs:=cs) (l:=B.map aN) (by rw[hl2,zae]) (i:=j) (by rw[zae];omega);rw[dZ hlt']at g3;have g4:=pX (bs:=rs) (l:=(O7 X B (dc X B) s j).map aN) (by rw[zae,jS];exact hrs) (i:=s+j) (by rw[zae,jS];omega);rw[dZ (q:=O7 X B (dc X B) s j) (i:=s+j) (by rw[jS];omega),vG (by omega),zam (by omega)]at g4;have zj:=zb j;have zs:=zx (s+j);have zm:=Gw (dc X B) (cfq B j);have mm:=b0B (aN (dc X B)) (aN (cfq B j)) (cO (by omega)) (cO (by omega)) (cZ _) (cZ _);have ms:=VE (aN (cfq X (s+j))) (aN (dc X B*cfq B j)) (cO (by omega)) (cO (by omega)) (cZ _) (cZ _);rw[eF,eF]at mm ms;have hst:=a4X (A:=X) (B:=B) (c:=dc X B) (s:=s) (i:=j) (by omega);simp (disch:=omega) only[wt,seval,fZ,dK,h75,h73,h12,hH3,hqb,g3];refine ah ((mm.soft (.cons (qW _ _ _) (.cons (qW _ _ _) .nil)))) (by rfl) (by simp) ?_;simp (disch:=omega) only[wt,seval,rqs,dK,h7,h11,hH1,hsl,e4,g4];refine .inl ⟨aP (by kernel_rfl),?_⟩;refine aJ ((ms.soft (.cons (qW _ _ _) (.cons (.refl _) .nil)))) (by rfl) (by simp) (by assumption) ?_;rintro B3 E3 _ hB3 hE3 ⟨b3,c3,rfl,hn3⟩;simp (disch:=omega) only[wt,seval,fZ,h75,h74,h73,h8,h7,h10,h11,h12,hH3,hH1,hH2,hsl,g4];refine⟨aX (by kernel_rfl),?_⟩;have Yq:=KG (bs:=rs) (l:=(O7 X B (dc X B) s j).map aN) (by rw[zae,jS];exact hrs) (i:=s+j) (by rw[zae,jS];omega) b3 c3 (aN (cfq X (s+j)-dc X B*cfq B j));rw[hst]at Yq;refine⟨⟨j+1,sc,rs.set (s+j) (b3,c3),E3,by omega,by rw[zcV];exact hrs,by omega,b0W (l:=[]) (by omega) hnw hn3 (by omega) hB3 (by omega),?_⟩,by omega⟩;simp only[wt,seval,Yq]
   (repeat' apply zaa)<;>first|rfl|omega
  .obtain rfl:j=B.length:=by omega
   have hpl:(bV qs ((MP i Q).map aN)).length=i:=by rw[eX (by rw[zae,iK];exact hqs),zae,iK]
   have hsq:QB (2^40) (2^38) (O7 X B (dc X B) s B.length):=.of (by rw[jS];omega) λa=>by
    rw[vG (by omega)];have z1:=zx a;have z2:=zb (a-s);have z3:=Gw (dc X B) (cfq B (a-s));have z4:=a8z (cfq X a) (dc X B*cfq B (a-s));split<;>omega
   have Yq:=KG (bs:=qs) (l:=(MP i Q).map aN) (by rw[zae,iK];exact hqs) (i:=s) (by rw[zae,iK];omega) b2 c2 (aN (dc X B));rw[hset]at Yq;have g5:=pX (bs:=qs) (l:=(MP i Q).map aN) (by rw[zae,iK];exact hqs) (i:=s) (by rw[zae,iK];omega);have b8f:rs.length=(O7 X B (dc X B) s B.length).length:=by rw[jS];exact hrs
   have tt:=xW _ rs b8f hsq;have htl:(rs.take (tzq (O7 X B (dc X B) s B.length))).length=(dn1 X B).length:=by
    have:=zaO List.length hend;rw[Nq,zae]at this;rw[take_len b8f (vP _),this]
   rw[hend]at tt;have b5U:=b0X (l:=idq rs) (m:=[]) (bs:=qs) (i:=s) (by omega) (b:=b2) (c:=c2) (by rw[zbr];exact hnw);rw[zbr]at b5U;generalize tzq (O7 X B (dc X B) s B.length)=z at *;have hrl2:(bV (rs.take z) ((dn1 X B).map aN)).length=(dn1 X B).length:=by rw[eX (by rw[htl,zae]),zae]
   simp (disch:=omega) only[wt,seval,fZ,dK,h7,h10,h11,h12,hH3,hH2,hpl,g5,Yq];refine yD (tt) (by first|rfl|(simp only[wt,seval,rqs,gW,fM,iU,fZ,dK,dJ,zT,Ql,h75,h74,h73,h8,h7,h10,h11,h12,hH3,hH1,hH2,Oa,hpl,g5,Yq];done)) (by first|rfl|(simp only[wt,seval,hH1];done)) (by rfl) (by simp) (by simp) ?_;simp only[wt,seval,h8,h10,Oa];simp only[seval,Qg,hrl2];refine⟨⟨k+1,sr+1,sq,rs.take z,qs.set s (b2,c2),E,hkn,by rw[b5W];exact htl,by rw[zcV];exact hqs,hBE,b5U.sub ((Ed _ _).append_right _),?_⟩,hdn⟩;rw[b5W,hQ']
   (repeat' apply zaa)<;>first|rfl|omega
 .obtain rfl:k=n:=by
   rcases zbh k n with h|h
   .exact absurd (hj k h) hge
   .omega
  have hge':¬(B.length:Int)<=((dit A B k).length:Int):=by omega
  have dl:=IJ h0 hb k hj;have hpl:(bV qs ((MP i (dqu A B k)).map aN)).length=i:=by rw[eX (by rw[zae,iK];exact hqs),zae,iK]
  have zd:=BA h0 hb za zb k1 k (zab _) hj;have tq:=xW (MP i (dqu A B k)) qs (by rw[iK];exact hqs) (.of (by rw[iK];omega) λa=>by
   rw[VW (by omega)];have:=zd a;omega)
  have ec:cqs (MP i (dqu A B k))=cqs (dqu A B k):=vC (VW (by omega));rw[ec]at tq;have htl:(qs.take (tzq (MP i (dqu A B k)))).length=(cqs (dqu A B k)).length:=by
   rw[take_len (bs:=qs) (by rw[hqs,iK]) (vP _),<-ec,Nq]
  have b5U:Nw B0 E (idq rs++idq (qs.take (tzq (MP i (dqu A B k))))):=hnw.sub ((Ed _ _).append_left _);generalize tzq (MP i (dqu A B k))=z at *;simp (disch:=omega) only[wt,seval,h7,h8,h10,hH1,hrl,hqb,hge'];refine yD (tq) (by first|rfl|(simp only[wt,seval,rqs,gW,fM,iU,fZ,dK,dJ,zT,Ql,h7,h8,h10,hH1,hH2,Oa,hrl,hqb,hge',hpl];done)) (by first|rfl|(simp only[seval,hH2];done)) (by rfl) (by simp) (by simp) ?_;simp only[wt,seval,h7];have hl4:(qs.take z).length=(cqs (dqu A B k)).length:=htl;have hl5:rs.length=((dit A B k).map aN).length:=by rw[hrs,zae]
  refine AY 4 10 _ 32 3 ((bV (qs.take z) (cqs (dqu A B k)))) (by first|rfl|assumption|simp only[wt,seval,rqs,gW,fM,iU,fZ,dK,dJ,zT,Ql]) (by first|rfl|assumption|simp only[wt,seval,rqs,gW,fM,iU,fZ,dK,dJ,zT,Ql]) (by assumption) ?_;rintro b4 E4 hE4 hb4;refine AY 5 21 _ 32 3 ((bV rs ((dit A B k).map aN))) (by first|rfl|assumption|simp only[wt,seval,rqs,gW,fM,iU,fZ,dK,dJ,zT,Ql,hH1]) (by first|rfl|assumption|simp only[wt,seval,rqs,gW,fM,iU,fZ,dK,dJ,zT,Ql,hH1]) (by rfl) ?_;rintro b5 E5 hE5 hb5;refine aQ [.iv (fqp b4 (qs.take z) (cqs (dqu A B k))),.iv (fqp b5 rs ((dit A B k).map aN)),ci 0] (by rfl) (by simp (disch:=omega) only[wt,seval]) ?_;intro E hE;refine⟨b4,qs.take z,b5,rs,rfl,hl4,hl5,?_⟩;have n1:=a1z (b:=b4) b5U hE4 λg cap e=>by
   have h:=hb4.2 g cap e;refine⟨h.1,h.2.1,λhg=>?_⟩;have h1:=h.2.2.1;have h2:=h.2.2.2.2.2 21 _ _ _ _ _ (by simp only[wt,seval,hH1];rfl);rw[jW hl4]at h1;rw[jW hl5]at h2;exact(zap.1 hg).elim h2 h1
  have n2:=a1z (b:=b5) n1 hE5 λg cap e=>by
   have h:=hb5.2 g cap e;refine⟨h.1,h.2.1,λhg=>?_⟩;have h1:=h.2.2.1;have h2:=h.2.2.2.1 4 _ (by simp only[wt,seval];rfl);rw[jW hl5]at h1;simp only[IV.ids,jW hl4]at h2;rcases zap.1 hg with hg|hg
   .refine h2 (zbq _ ?_);cases b4 with
    |none=>simp[oid]at hg
    |some p=>simpa [oid] using hg
   .rcases zap.1 hg with hg|hg
    .exact h1 hg
    .exact h2 (zaF _ hg)
  exact(n2.mono (zab _) hE).perm (zfs.2 λa=>by simp only[zbF];omega)
theorem b0C (p q:List RQ)(hp:GQ (2^30) (2^32) p)(hq:GQ (2^30) (2^32) q)(n K:Nat)(v:DV (au (qvs p)) (au (qvs q)) n K):AC Tryz.prog 16 [cqw p,cqw q] none [cqp (dqu (au (qvs p)) (au (qvs q)) n),cqw ((dit (au (qvs p)) (au (qvs q)) n).map aN),ci 0] :=
 a8K (VK p q hp hq n K v)
abbrev cqc (l:List Rat):CV:=cqw (l.map aN)
section
variable {D n m M N K S j:Nat} {A B q X Y:List Rat} {c:Rat}
theorem CB.LH {E:Nat}(hA:CB D n M A)(hB:CB E m N B):CB (D*E) (max n m) (M+N+1) (LH A B) where
 d:=zbN hA.d hB.d
 w:=by
  have h1:=AL.fK D E;have h2:=hA.w;have h3:=hB.w;omega
 l:=by
  simp only[Go.Proofs.YtdpngipofekcfaaGreat.LH,zS];have:=hA.l;have:=hB.l;omega
 c:=λc hc=>by
  obtain⟨k,hk,rfl⟩:=zbE hc;rw[<-oN hk,pO,zeJ];have h1:=CD.up hA.d hB.d hB.w (CD.cf hA k);have h2:=(CD.up hB.d hA.d hA.w (CD.cf hB k)).neg;rw[zaA]at h2;exact(h1.add h2).mono (by omega)
theorem CB.scl (hA:CB D n M A)(hc:qz c<=K):CB (D*c.den) n (M+K) (nG c A) where
 d:=zbN hA.d c.den_nz
 w:=by
  have h1:=AL.fK D c.den;have h2:=hA.w;have h3:=(jg c).2;omega
 l:=by
  have h1:(nG c A).length=A.length:=by simp[nG]
  have:=hA.l;omega
 c:=λx hx=>by
  obtain⟨k,hk,rfl⟩:=zbE hx;rw[<-oN hk,iw];exact(CD.mul hA.d c.den_nz (CD.cf hA k) (CD.ofRat c)).mono (by have:=(jg c).1;omega)
def CX (n M:Nat)(q:List Rat):Prop:=∃D,CB D n M q
def CX.mono (h:CX n M q)(hn:n<=m)(hM:M<=N):CX m N q:=by
 obtain⟨D,h⟩:=h;exact⟨D,h.mono hn hM⟩
def CX.qb (h:CX n M q):QB n M q:=by
 obtain⟨D,h⟩:=h;exact h.qb
def CX.trim (h:CX n M q):CX n M (au q):=by
 obtain⟨D,h⟩:=h;exact⟨D,h.trim⟩
def CX.sub (hA:CX n M A)(hB:CX m N B):CX (max n m) (M+N+1) (LH A B):=by
 obtain⟨D,hA⟩:=hA;obtain⟨E,hB⟩:=hB;exact⟨_,hA.LH hB⟩
def CX.mul (hA:CX n M A)(hB:CX m N B):CX (n+m) (M+N+(n+m)) (gJ A B):=by
 obtain⟨D,hA⟩:=hA;obtain⟨E,hB⟩:=hB;exact⟨_,hA.gJ hB⟩
def CX.scl (hA:CX n M A)(hc:qz c<=K):CX n (M+K) (nG c A):=by
 obtain⟨D,hA⟩:=hA;exact⟨_,hA.scl hc⟩
theorem QB.cx {k:Nat}(h:QB n k q):CX n (n*k+k+1) q:=h.cb
def CX.shrink (h:CX n M q)(hl:q.length<=m):CX m M q:=by
 obtain⟨D,h⟩:=h;exact⟨D,h.d,h.w,hl,h.c⟩
def qnt (X Y:List Rat):Nat->Nat->Nat
 |0,k=>k
 |f+1,k=>if Y.length<=(dit X Y k).length then qnt X Y f (k+1) else k
theorem a8C (en:(dit X Y n).length<Y.length)(hj:∀j,j<n->Y.length<=(dit X Y j).length):∀f k,k<=n->n<=k+f->qnt X Y f k=n
 |0,k,h1,h2=>by rw[qnt];omega
 |f+1,k,h1,h2=>by
  rw[qnt];by_cases h:k=n
  .rw[h,zam (by omega)]
  .rw[zas (hj k (by omega))];exact a8C en hj f (k+1) (by omega) (by omega)
def qnn (X Y:List Rat):Nat:=qnt X Y (X.length+1) 0
def qs (X Y:List Rat):List Rat:=au (dqu X Y (qnn X Y))
def qr (X Y:List Rat):List Rat:=dit X Y (qnn X Y)
def DV.nn (v:DV X Y n K):qnn X Y=n:=by
 have h:=IU (s:=X.length) v.h0 v.hb v.hj (by have:=v.h0;omega);exact a8C v.en v.hj _ _ (za4 _) (by omega)
def b1U (hX:CX m M X)(hY:CX m M Y)(tX:au X=X)(tY:au Y=Y)(h0:Y.length≠0)(hm:m<=1000)(hM:1<=M)(hK:M+(m+1)*(M+1)<=2^30):DV X Y (qnn X Y) (M+(m+1)*(M+1)):=by
 obtain⟨D,hX⟩:=hX;obtain⟨E,hY⟩:=hY;obtain⟨n,v⟩:=Fq (s:=m+1) hX hY.KX hY.qb tX tY h0 (by have:=hX.l;omega) (by omega) (by omega) hM;have e:=v.nn;rw[e];exact v
def Y3 (v:DV X Y (qnn X Y) K)(hl:X.length<=m):QB m (K+K) (qs X Y)/\au (qs X Y)=qs X Y:=by
 have ll:=IJ v.h0 v.hb _ v.hj;have h0:=v.h0;refine⟨QB.au (.of (by omega) λi=>?_),aZ _⟩;exact BA v.h0 v.hb v.za v.zb v.k1 _ (zab _) v.hj i
def lY (v:DV X Y (qnn X Y) K):(qr X Y).length<Y.length/\au (qr X Y)=qr X Y/\pq X=pq (qs X Y)*pq Y+pq (qr X Y):=by
 refine⟨v.en,Fz v.ta _,?_⟩;rw[qs,iJ];exact a1l X Y _
structure QI (D S:Nat) (X Y:List Rat):Prop where
 tx:au X=X
 ty:au Y=Y
 x:X.length<=D
 y:Y.length<=D
 s:(CX D S X/\CX D S Y)\/(Y.length<X.length/\CX D (EZ S (D-X.length)) X/\CX D (EZ S (D-X.length+1)) Y)
def QI.bd (h:QI D S X Y):CX D (EZ S D) X/\CX D (EZ S D) Y:=by
 rcases h.s with ⟨a,b⟩|⟨l,a,b⟩
 .have:S<=EZ S D:=EZ.mono S (i:=0) (by omega);exact⟨a.mono (zab _) this,b.mono (zab _) this⟩
 .have:=h.x;exact⟨a.mono (zab _) (EZ.mono S (by omega)),b.mono (zab _) (EZ.mono S (by omega))⟩
def b0z (v:DV X Y (qnn X Y) K)(hX:CX D M X)(hY:CX D N Y):CX D (M+(X.length+1-Y.length)*(N+1)) (qr X Y):=by
 obtain⟨E,hX⟩:=hX;obtain⟨F,hY⟩:=hY;obtain⟨G,h⟩:=a3a hX hY.KX v.h0 v.hb (qnn X Y) v.hj;have hs:=IU (s:=X.length+1-Y.length) v.h0 v.hb v.hj (by omega);have:=zag (N+1) hs;exact⟨G,h.mono (zab _) (by omega)⟩
def QI.step (h:QI D S X Y)(v:DV X Y (qnn X Y) K):QI D S Y (qr X Y):=by
 obtain⟨r1,r2,_⟩:=lY v;have hx:=h.x;have hy:=h.y;have h0:=v.h0;refine⟨h.ty,r2,h.y,by omega,.inr ⟨r1,?_⟩⟩;have norm:Y.length<X.length->CX D (EZ S (D-X.length)) X->CX D (EZ S (D-X.length+1)) Y->CX D (EZ S (D-Y.length)) Y/\CX D (EZ S (D-Y.length+1)) (qr X Y):=λl a b=>by
  refine⟨b.mono (zab _) (EZ.mono S (by omega)),(b0z v a b).mono (zab _) ?_⟩;have g:=EZ.grow S (D-X.length) (X.length-Y.length-1);rw[show X.length-Y.length-1+2=X.length+1-Y.length by omega,show D-X.length+2+(X.length-Y.length-1)=D-Y.length+1 by omega]at g;exact g
 rcases h.s with ⟨a,b⟩|⟨l,a,b⟩
 .by_cases l:Y.length<X.length
  .exact norm l (a.mono (zab _) (EZ.mono S (i:=0) (by omega))) (b.mono (zab _) (EZ.mono S (i:=0) (by omega)))
  .refine⟨b.mono (zab _) (EZ.mono S (i:=0) (by omega)),(b0z v a b).mono (zab _) ?_⟩;have g:EZ S 1<=EZ S (D-Y.length+1):=EZ.mono S (by omega);have e1:EZ S 1=2*S+1:=rfl;have hd:X.length+1-Y.length<=1:=by omega
   have:=zag (S+1) hd;omega
 .exact norm l a b
def UB:Nat->Nat
 |0=>1
 |j+1=>2*UB j+700000
def UB.mono (j:Nat):UB j<=UB (j+1):=by rw[UB];omega
def UB.le {i:Nat}(h:i<=j):UB i<=UB j:=by
 induction h with
 |refl=>exact zab _
 |step _ ih=>exact zad ih (UB.mono _)
def zY (X Y U V:List Rat):List Rat:=au (LH U (gJ (qs X Y) V))
def qeu:Nat->List Rat->List Rat->List Rat->List Rat->List Rat×List Rat
 |0,X,_,U,_=>(X,U)
 |n+1,X,Y,U,V=>if Y.length=0 then (X,U) else qeu n Y (qr X Y) V (zY X Y U V)
def b1O:EZ 9 7=4079:=by decide
def QI.dv (h:QI 7 9 X Y)(h0:Y.length≠0):DV X Y (qnn X Y) 36719:=by
 obtain⟨a,b⟩:=h.bd;rw[b1O]at a b;exact b1U a b h.tx h.ty h0 (by omega) (by omega) (by omega)
structure QU (j:Nat) (U V:List Rat):Prop where
 tu:au U=U
 tv:au V=V
 u:CX (8*j+1) (UB j) U
 v:CX (8*j+1) (UB j) V
def QU.step {U V:List Rat}(h:QU j U V)(q:QI 7 9 X Y)(h0:Y.length≠0)(hj:j<=8):QU (j+1) V (zY X Y U V):=by
 obtain⟨s1,s2⟩:=Y3 (q.dv h0) q.x;refine⟨h.tv,aZ _,h.v.mono (by omega) (UB.mono j),?_⟩;have m:=s1.cx.mul h.v;refine((h.u.sub m).trim).mono (by omega) ?_;rw[UB];omega
def ub8:UB 9<=400000000:=by decide
end
section
variable {x:Rat} {A B X Y Z:List Rat} {n m M N:Nat}
def a7o {x:Rat}(h:x≠0):(canon (sg (decide (x.num<0)) x.den),wd x.num.natAbs)=aN (1/x):=by
 have hn:x.num≠0:=λe=>h (Rat.num_eq_zero.mp e)
 have hd:x.num.natAbs≠0:=by omega
 have hg:Nat.gcd (sg (decide (x.num<0)) x.den).natAbs x.num.natAbs=1:=by
  have e:(sg (decide (x.num<0)) x.den).natAbs=x.den:=by
   unfold sg;split<;>omega
  rw[e,Nat.gcd_comm];exact x.reduced
 have e1:rq (sg (decide (x.num<0)) x.den) x.num.natAbs=(canon (sg (decide (x.num<0)) x.den),wd x.num.natAbs):=by
  unfold rq;rw[hg,Nat.div_one];simp
 rw[<-e1,LW hd]
 congr 1
 rw[Rat.mkRat_eq_div,<-a2j h];unfold sg;by_cases hs:x.num<0
 .rw[decide_eq_true hs];simp only[↓reduceIte];have e2:((x.num.natAbs:Nat):Rat) = -(x.num:Rat):=by
   rw[<-Rat.intCast_natCast,<-Rat.intCast_neg]
   congr 1
   omega
  have hq:(x.num:Rat)≠0:=λe=>hn (Rat.intCast_inj.mp (by rw[e];rfl))
  rw[e2,Rat.intCast_neg];have h1:=Rat.div_mul_cancel (a:=((x.den:Int):Rat)) hq;have h2:=Rat.div_mul_cancel (a:=-((x.den:Int):Rat)) (b:=-(x.num:Rat)) (by grind)
  grind
 .rw[decide_eq_false hs];simp only[Bool.false_eq_true,↓reduceIte];have e2:((x.num.natAbs:Nat):Rat)=(x.num:Rat):=by
   rw[<-Rat.intCast_natCast]
   congr 1
   omega
  rw[e2]
theorem a2i (h:x≠0)(hz:qz x<=2^34):AC Tryz.prog 229 [cqz x] none [cqz (1/x)]:=by
 have hp:=jg x;have z:=CO (decide (x.num<0)) x.den (by omega);have n:=qB (wd x.num.natAbs) (bg _) (by have:(wd x.num.natAbs).length=zl x.num:=rfl;omega);rw[bJ]at n;have E2:cqz (1/x)=.agg (jy (canon (sg (decide (x.num<0)) x.den))++[.sl (dh (wd x.num.natAbs))]):=by
  show CV.agg (pW (aN (1/x)))=_;rw[<-a7o h]
  try rfl
 have E1:cqz x=.agg [.bool (decide (x.num<0)),.sl (dh (wd x.num.natAbs)),.sl (dh (wd x.den))]:=rfl;rw[E1,E2];refine AC.aj (rs:=[.cell 2 32]) aV Tryz.func229 (by rfl) (by rfl) (by rfl) (by rfl) (by rfl) ?_;simp (disch:=omega) only[wt,seval];refine .inl ⟨aP (by kernel_rfl),?_⟩;refine ah (z) (by rfl) (by simp) ?_;simp (disch:=omega) only[wt,seval];refine ah (n) (by rfl) (by simp) ?_;simp (disch:=omega) only[wt,seval,rqs];refine⟨aX (by kernel_rfl),?_⟩
 try rfl
def b0N (hA:CX n M A)(hB:CX m N B)(hn:n<=1000)(hm:m<=1000)(hM:M<=2^32)(hN:N<=2^32):AC Tryz.prog 231 [cqw (A.map aN),cqw (B.map aN)] none [cqp (gJ A B)]:=by
 obtain⟨D,cA⟩:=(hA.mono (show n<=1000 by omega) (show M<=2^32 by omega)).trim;obtain⟨E,cB⟩:=(hB.mono (show m<=1000 by omega) (show N<=2^32 by omega)).trim;have m:=a5L (A.map aN) (B.map aN) D E 1000 (2^32) (hA.qb.gq.mono (by omega) (by omega)) (hB.qb.gq.mono (by omega) (by omega)) (by rw[dG];exact cA) (by rw[dG];exact cB) (by omega) (by omega) (by omega);rw[dG,dG]at m;refine AC.aj (rs:=[.tmp 4]) aV Tryz.func231 (by rfl) (by rfl) (by rfl) (by rfl) (by rfl) ?_;simp only[wt,seval];refine ah (m) (by rfl) (by simp) ?_;simp (disch:=omega) only[wt,seval]
 try rfl
def b0D (hA:CX n M A)(hB:CX m N B)(hn:n<=1000)(hm:m<=1000)(hM:M<=2^32)(hN:N<=2^32):AC Tryz.prog 232 [cqw (A.map aN),cqw (B.map aN)] none [cqp (LH A B)]:=by
 have m:=a5K (A.map aN) (B.map aN) (2^32) (hA.qb.gq.mono (by omega) hM) (hB.qb.gq.mono (by omega) hN) (by omega) (by omega);rw[dG,dG]at m;refine AC.aj (rs:=[.tmp 4]) aV Tryz.func232 (by rfl) (by rfl) (by rfl) (by rfl) (by rfl) ?_;simp only[wt,seval];refine ah (m) (by rfl) (by simp) ?_;simp (disch:=omega) only[wt,seval]
 try rfl
def b0R {K:Nat}(v:DV X Y (qnn X Y) K)(hX:CX n M X)(hY:CX m N Y)(hn:n<=1000)(hm:m<=1000)(hM:M<=2^32)(hN:N<=2^32):AC Tryz.prog 16 [cqw (X.map aN),cqw (Y.map aN)] none [cqw ((qs X Y).map aN),cqw ((qr X Y).map aN),ci 0]:=by
 have m:=b0C (X.map aN) (Y.map aN) (hX.qb.gq.mono (by omega) hM) (hY.qb.gq.mono (by omega) hN) (qnn X Y) K (by rw[dG,dG,v.ta,v.tb];exact v);rw[dG,dG,v.ta,v.tb]at m;exact m
def lq (A:List Rat):Rat:=cfq A (A.length-1)
theorem MX (t:au A=A)(h0:A.length≠0):lq A≠0:=a2b t h0
def a8J (hA:CX n M A)(t:au A=A)(h0:A.length≠0)(hn:n<=1000)(hM:M<=2^32):AC Tryz.prog 230 [cqw (A.map aN)] none [cqz (lq A)]:=by
 have gA:GQ (2^40) (2^38) (A.map aN):=hA.qb.gq.mono (by omega) (by omega);have hl:=hA.qb.1;have d:=Tq (A.map aN) gA;rw[dG,dA t,show ((A.length:Nat):Int)-1=((A.length-1:Nat):Int) by omega]at d;have dg:AC Tryz.prog 235 [cqw (A.map aN)] none [ci (A.length-1:Nat)]:=by
  refine AC.aj (rs:=[.tmp 2]) aV Tryz.func235 (by rfl) (by rfl) (by rfl) (by rfl) (by rfl) ?_;simp only[wt,seval];refine ah (d) (by rfl) (by simp) ?_;simp (disch:=omega) only[wt,seval]
  try rfl
 have c:=a5R (A.map aN) (A.length-1:Nat) gA;rw[dG,zam (by omega),zei,show cfq A (A.length-1)=lq A from rfl]at c;refine AC.aj (rs:=[.cell 2 32]) aV Tryz.func230 (by rfl) (by rfl) (by rfl) (by rfl) (by rfl) ?_;simp (disch:=omega) only[wt,seval];refine ah (dg) (by rfl) (by simp) ?_;simp only[wt,seval];refine ah (c) (by rfl) (by simp) ?_;simp (disch:=omega) only[wt,seval,rqs]
 try rfl
def b6T (hA:CX n M A)(t:au A=A)(hn:n<=1000)(hM:M<=2^32):AC Tryz.prog 235 [cqw (A.map aN)] none [ci ((A.length:Int)-1)]:=by
 have gA:GQ (2^40) (2^38) (A.map aN):=hA.qb.gq.mono (by omega) (by omega);have d:=Tq (A.map aN) gA;rw[dG,dA t]at d;refine AC.aj (rs:=[.tmp 2]) aV Tryz.func235 (by rfl) (by rfl) (by rfl) (by rfl) (by rfl) ?_;simp only[wt,seval];refine ah (d) (by rfl) (by simp) ?_;simp (disch:=omega) only[wt,seval]
 try rfl
def F7 (l:List (List RQ))(hl:l.length<=2)(h:∀p∈l,BQ (2^40) (2^40) p)(rows:List (List IV))(hr:rows=l.map λp=>[.sl (dN p)]):AC Tryz.prog 227 [.iv (.sl rows)] none [ci (if l.all gd then 0 else 1)]:=by
 have hrl:rows.length=l.length:=by rw[hr,zae]
 have ht:∀i,i<l.length->(l.take (i+1)).all gd=((l.take i).all gd && gd (l.getD i [])):=λi hi=>by
  rw[zaS,zaf hi,List.all_append];simp[List.getD,hi]
 refine AC.aj (rs:=[.tmp 2]) aV Tryz.func227 (by rfl) (by rfl) (by rfl) (by rfl) (by rfl) ?_;simp (disch:=omega) only[wt,seval];refine aI (λf H=>∃(i:Nat),i<=l.length/\(l.take i).all gd=true/\f 7=.iv (.int .i64 i)/\f 6=.iv (.int .i64 l.length)/\f 5=.iv (.sl rows)) (λf H=>(l.length-bC f 7).toNat) ?_ ?_
 .refine⟨0,by omega,by simp,?_⟩;simp only[wt,seval,hrl]
 rintro f H ⟨i,hi,hg,hF⟩;rw[aC hF.1];simp (disch:=omega) only[wt,seval,hF];by_cases hlt':i<l.length
 .have hlt:(i:Int)<(l.length:Int):=by omega
  have e:=ht i hlt';rw[hg,zej]at e;have hat:rows.getD i []=[.sl (dN (l.getD i []))]:=by rw[hr];simp[List.getD,hlt']
  have hm:l.getD i []∈l:=by
   rw[List.getD,zaf hlt',zaE];exact zaY hlt'
  have g:=a5O (l.getD i []) (h _ hm);by_cases hgd:gd (l.getD i [])=true
  .rw[hgd]at g e;simp (disch:=omega) only[wt,seval,hF,hlt,hrl,hat];refine ah (g) (by rfl) (by simp) ?_;simp (disch:=omega) only[wt,seval,hF];refine⟨⟨i+1,by omega,e,?_⟩,by omega⟩
   try (repeat' apply zaa)<;>first|rfl|omega
  .have hgd':gd (l.getD i [])=false:=by simpa using hgd
   rw[hgd']at g;have hall:l.all gd=false:=by
    rw[<-Bool.not_eq_true,zby];intro hc;exact hgd (hc _ hm)
   rw[hall];simp (disch:=omega) only[wt,seval,hF,hlt,hrl,hat];refine ah (g) (by rfl) (by simp) ?_;simp (disch:=omega) only[wt,seval]
   try rfl
 .have hlt:¬(i:Int)<(l.length:Int):=by omega
  rw[zac (by omega)]at hg;rw[hg];simp (disch:=omega) only[wt,seval,hlt]
  try rfl
def DQ (Z A:List Rat):Prop:=∃S,pq A=pq S*pq Z
theorem DQ.refl (A:List Rat):DQ A A:=⟨[1],by
 have:pq [1]=1:=PQ.ext λk=>by
  rw[qZ,PQ.a7y];cases k with
  |zero=>rfl
  |succ k=>rw[ig (by show 1<=k+1;omega),zam (by omega)]
 rw[this,PQ.one_mul]⟩
theorem DQ.nil (A:List Rat):DQ A []:=⟨[],by rw[wW,PQ.zero_mul]⟩
def DQ.lin {R S:List Rat}(h1:DQ Z Y)(h2:DQ Z R)(e:pq X=pq S*pq Y+pq R):DQ Z X:=by
 obtain⟨a,ea⟩:=h1;obtain⟨b,eb⟩:=h2;exact⟨Ja (gJ S a) b,by rw[e,ea,eb,TA,eG,PQ.add_mul,PQ.mul_assoc]⟩
def DQ.trans (h1:DQ Z Y)(h2:DQ Y X):DQ Z X:=by
 obtain⟨a,ea⟩:=h1;obtain⟨b,eb⟩:=h2;exact⟨gJ b a,by rw[eb,ea,eG,PQ.mul_assoc]⟩
def DQ.len (h:DQ Z A)(tZ:au Z=Z)(tA:au A=A)(h0:A.length≠0):Z.length≠0/\Z.length<=A.length:=by
 obtain⟨S,e⟩:=h;have hc:∀k,cfq A k=cfq (gJ S Z) k:=λk=>by
  have:=zaO (λf=>PQ.c f k) e;rwa [<-eG]at this
 have ht:tzq A=tzq (gJ S Z):=lu hc;rw[dA tA]at ht;have hS:tzq S≠0:=λx=>h0 (by rw[ht];exact uz (.inl x))
 have hZ:tzq Z≠0:=λx=>h0 (by rw[ht];exact uz (.inr x))
 rw[Ls hS hZ,dA tZ]at ht;rw[dA tZ]at hZ;exact⟨hZ,by omega⟩
def DQ.trim:DQ (au Z) A↔DQ Z A:=by
 unfold DQ;rw[iJ]
end
section
variable {A B:List Rat}
def bzs (A B:List Rat):List Rat×List Rat:=qeu 9 B A [] [1]
def bzg (A B:List Rat):List Rat:=if B.length=0 then (if A.length=0 then [] else au (gJ [1/lq A] A)) else au (nG (1/lq (bzs A B).1) (bzs A B).1)
def bzw (A B:List Rat):List Rat:=au (nG (1/lq (bzs A B).1) (bzs A B).2)
def bzu (A B:List Rat):List Rat:=if B.length=0 then (if A.length=0 then [] else [1/lq A]) else qr (bzw A B) (qs B (bzg A B))
def bzr (A B:List Rat):List Rat:=au (LH (bzg A B) (au (gJ (bzu A B) A)))
def bzv (A B:List Rat):List Rat:=if B.length=0 then [] else qs (bzr A B) B
def yP {p:List RQ}(h:GQ 7 1 p):CX 7 9 (au (qvs p)):=by
 obtain⟨D,c⟩:=h.qb.au.cb;exact⟨D,c⟩
theorem Qu (n M:Nat)(h:1<=M):CX n M []:=⟨1,by decide,zad (bH.mpr (by rw[zes];simp only[W];omega)) h,za4 _,λc hc=>nomatch hc⟩
theorem b4X (n M:Nat)(hn:1<=n)(hM:1<=M):CX n M [1]:=⟨1,CB.a6l.mono hn hM⟩
theorem qu0:QU 0 [] [1]:=⟨by decide +kernel,by decide +kernel,Qu _ _ (by decide),b4X _ _ (by decide) (by decide)⟩
structure QE (A B X U:List Rat):Prop where
 t:au X=X
 l:X.length≠0
 l7:X.length<=7
 c:CX 7 4079 X
 tu:au U=U
 cu:CX 73 400000000 U
 d:DQ X A/\DQ X B
theorem a0X:∀(n j:Nat) (X Y U V:List Rat),QI 7 9 X Y->QU j U V->Y.length+1<=n->j+n<=9->X.length≠0->(∀Z,DQ Z X->DQ Z Y->DQ Z A/\DQ Z B)->QE A B (qeu n X Y U V).1 (qeu n X Y U V).2
 |0,j,X,Y,U,V,_,_,h,_,_,_=>absurd h (by omega)
 |n+1,j,X,Y,U,V,q,u,h,hj,h0,hd=>by
  rw[qeu];split
  .rename_i hy;have b:=q.bd.1;rw[b1O]at b;have hu:=UB.le (show j<=9 by omega);have u9:=ub8;have e:Y=[]:=zaz.mp hy;exact⟨q.tx,h0,q.x,b,u.tu,u.u.mono (by omega) (by omega),hd X (.refl X) (by rw[e];exact .nil X)⟩
  .rename_i hy;have v:=q.dv hy;obtain⟨r1,r2,r3⟩:=lY v;exact a0X n (j+1) Y (qr X Y) V (zY X Y U V) (q.step v) (u.step q hy (by omega)) (by omega) (by omega) hy λZ z1 z2=>hd Z (z1.lin z2 r3) z1
theorem EX (hA:CX 7 9 A)(hB:CX 7 9 B)(tA:au A=A)(tB:au B=B):QI 7 9 B A:=⟨tB,tA,hB.qb.1,hA.qb.1,.inl ⟨hB,hA⟩⟩
theorem NH (hA:CX 7 9 A)(hB:CX 7 9 B)(tA:au A=A)(tB:au B=B)(hb:B.length≠0):QE A B (bzs A B).1 (bzs A B).2 :=
 a0X 9 0 B A [] [1] (EX hA hB tA tB) qu0 (by have:=hA.qb.1;omega) (by omega) hb λZ z1 z2=>⟨z2,z1⟩
structure QF (A B:List Rat):Prop where
 kz:qz (1/lq (bzs A B).1)<=4079
 k0:lq (bzs A B).1≠0
 lz:qz (lq (bzs A B).1)<=4079
 g:CX 7 8158 (bzg A B)
 gt:au (bzg A B)=bzg A B
 gl:(bzg A B).length≠0/\(bzg A B).length<=B.length
 w:CX 73 400004079 (bzw A B)
 wtt:au (bzw A B)=bzw A B
 m:DV B (bzg A B) (qnn B (bzg A B)) 73430
 mc:CX 7 1174881 (qs B (bzg A B))
 mt:au (qs B (bzg A B))=qs B (bzg A B)
 ml:(qs B (bzg A B)).length≠0
 u:DV (bzw A B) (qs B (bzg A B)) (qnn (bzw A B) (qs B (bzg A B))) 487000000
 ul:(bzu A B).length<(qs B (bzg A B)).length
 ut:au (bzu A B)=bzu A B
 uc:CX 7 487000000 (bzu A B)
 r:CX 14 487100000 (bzr A B)
 v:DV (bzr A B) B (qnn (bzr A B) B) 488000000
 gd:DQ (bzg A B) A/\DQ (bzg A B) B
def Tn (hA:CX 7 9 A)(hB:CX 7 9 B)(tA:au A=A)(tB:au B=B)(hb:B.length≠0):QF A B:=by
 have E:=NH hA hB tA tB hb;have eg:bzg A B=au (nG (1/lq (bzs A B).1) (bzs A B).1):=by rw[bzg,zam hb]
 have eu:bzu A B=qr (bzw A B) (qs B (bzg A B)):=by rw[bzu,zam hb]
 have l0:=MX E.t E.l;have lz:qz (lq (bzs A B).1)<=4079:=E.c.qb.cz (by omega) _;have kz:qz (1/lq (bzs A B).1)<=4079:=zad (OW _) lz;have g:CX 7 8158 (bzg A B):=by rw[eg];exact(E.c.scl kz).trim
 have gt:au (bzg A B)=bzg A B:=by rw[eg];exact aZ _
 have w:CX 73 400004079 (bzw A B):=(E.cu.scl kz).trim;have wtt:au (bzw A B)=bzw A B:=aZ _;have k0:1/lq (bzs A B).1≠0:=λe=>by
  have h1:=zbm (a:=1) l0;rw[e,zbG]at h1;exact absurd h1 (by decide)
 have gX:DQ (bzg A B) (bzs A B).1:=by
  rw[eg,DQ.trim];refine⟨[lq (bzs A B).1],PQ.ext λk=>?_⟩;rw[<-eG,qZ,qZ];have h1:=zbm (a:=1) l0;have h2:cfq (gJ [lq (bzs A B).1] (nG (1/lq (bzs A B).1) (bzs A B).1)) k=lq (bzs A B).1*cfq (nG (1/lq (bzs A B).1) (bzs A B).1) k:=by
   have:=jM (lq (bzs A B).1) 0 (nG (1/lq (bzs A B).1) (bzs A B).1) k;rwa [zas (za4 _),zcF]at this
  rw[h2,iw]
  grind
 have gd:DQ (bzg A B) A/\DQ (bzg A B) B:=⟨gX.trans E.d.1,gX.trans E.d.2⟩;have gl:=gd.2.len gt tB hb;have m:=b1U (hB.mono (zab _) (show 9<=8158 by omega)) g tB gt gl.1 (by omega) (by omega) (by omega);obtain⟨q1,q2⟩:=Y3 m hB.qb.1;have mc:=q1.cx;have mq:=(lY m).2.2;have ml:(qs B (bzg A B)).length≠0:=by
  intro h;have e:qs B (bzg A B)=[]:=zaz.mp h;rw[e,wW,PQ.zero_mul,PQ.zero_add]at mq;have h2:tzq B=tzq (qr B (bzg A B)):=lu λk=>by
   have:=zaO (λf=>PQ.c f k) mq;exact this
  have h3:=(lY m).1;have h4:=vP (qr B (bzg A B));rw[dA tB]at h2;omega
 have u:=b1U w (mc.mono (show 7<=73 by omega) (show 7*(73430+73430)+(73430+73430)+1<=400004079 by omega)) wtt q2 ml (by omega) (by omega);have u':DV (bzw A B) (qs B (bzg A B)) (qnn (bzw A B) (qs B (bzg A B))) 487000000:=by
  obtain⟨D,hX⟩:=w;obtain⟨E2,hY⟩:=mc;obtain⟨n,v⟩:=Fq (s:=74) hX ((hY.KX).mono (show 7<=73 by omega) (zab _)) ((hY.qb).mono (show 7<=73 by omega) (show _<=400004079 by omega)) wtt q2 ml (by have:=hX.l;omega) (by omega) (by omega) (by omega);have e:=v.nn;rw[e];exact⟨v.la,v.lb,v.h0,v.hb,v.ta,v.tb,v.en,v.hj,λk hk i=>zad (v.za k hk i) (by omega),λi=>zad (v.zb i) (by omega),by omega,by omega⟩
 clear u;obtain⟨r1,r2,r3⟩:=lY u';have ml7:=q1.1;have uc:CX 7 487000000 (bzu A B):=by
  rw[eu];refine((b0z u' w (mc.mono (show 7<=73 by omega) (zab _))).shrink (m:=7) (by omega)).mono (zab _) ?_;have h1:=w.qb.1;have h2:(bzw A B).length+1-(qs B (bzg A B)).length<=73:=by omega
  have:=zag (7*(73430+73430)+(73430+73430)+1+1) h2;omega
 have r:CX 14 487100000 (bzr A B):=((g.sub ((uc.mul hA).trim)).trim).mono (by omega) (by omega);have rt:au (bzr A B)=bzr A B:=aZ _;have v:DV (bzr A B) B (qnn (bzr A B) B) 488000000:=by
  obtain⟨D,hX⟩:=r;obtain⟨E2,hY⟩:=hB;obtain⟨n,v⟩:=Fq (s:=15) hX ((hY.KX).mono (show 7<=14 by omega) (zab _)) ((hY.qb).mono (show 7<=14 by omega) (show 9<=487100000 by omega)) rt tB hb (by have:=hX.l;omega) (by omega) (by omega) (by omega);have e:=v.nn;rw[e];exact⟨v.la,v.lb,v.h0,v.hb,v.ta,v.tb,v.en,v.hj,λk hk i=>zad (v.za k hk i) (by omega),λi=>zad (v.zb i) (by omega),by omega,by omega⟩
 exact⟨kz,l0,lz,g,gt,gl,w,wtt,m,mc,q2,ml,u',by rw[eu];exact r1,by rw[eu];exact r2,uc,r,v,gd⟩
end
section
variable {A B X Y:List Rat}
theorem PQ.a9f {f g h:PQ}(e:f=g+h):h=f-g:=PQ.ext λk=>by rw[e,PQ.QJ,PQ.vH];grind
theorem PQ.sub_mul (f g h:PQ):(f-g)*h=f*h-g*h:=PQ.ext λk=>by
 rw[PQ.QJ,PQ.mul_comm (f-g),PQ.mul_comm f,PQ.mul_comm g];have e:h*f=h*(f-g)+h*g:=by
  rw[<-PQ.mul_add]
  congr 1
  exact PQ.ext λk=>by rw[PQ.vH,PQ.QJ];grind
 rw[e,PQ.vH]
 grind
theorem VJ:∀(n:Nat) (X Y U V W W':List Rat),QI 7 9 X Y->pq X=pq U*pq A+pq W*pq B->pq Y=pq V*pq A+pq W'*pq B->∃Z:List Rat,pq (qeu n X Y U V).1=pq (qeu n X Y U V).2*pq A+pq Z*pq B
 |0,X,Y,U,V,W,W',_,e,_=>⟨W,e⟩
 |n+1,X,Y,U,V,W,W',q,e,e'=>by
  rw[qeu];split
  .exact⟨W,e⟩
  .rename_i hy;have v:=q.dv hy;obtain⟨_,_,r3⟩:=lY v;refine VJ n Y (qr X Y) V (zY X Y U V) W' (LH W (gJ (qs X Y) W')) (q.step v) e' ?_;have h1:=PQ.a9f r3;rw[h1,e,e',zY,iJ,ML,eG,ML,eG,PQ.sub_mul,PQ.sub_mul,PQ.mul_add];have x1:pq (qs X Y)*(pq V*pq A)=pq (qs X Y)*pq V*pq A:=(PQ.mul_assoc _ _ _).symm;have x2:pq (qs X Y)*(pq W'*pq B)=pq (qs X Y)*pq W'*pq B:=(PQ.mul_assoc _ _ _).symm;rw[x1,x2];generalize pq U*pq A=a;generalize pq W*pq B=b;generalize pq (qs X Y)*pq V*pq A=c;generalize pq (qs X Y)*pq W'*pq B=d;refine PQ.ext λk=>?_;simp only[PQ.vH,PQ.QJ]
   grind
def VF {S:List Rat}{K:Nat}(v:DV X Y (qnn X Y) K)(e:pq X=pq S*pq Y):pq (qs X Y)=pq S/\qr X Y=[]:=by
 obtain⟨r1,r2,r3⟩:=lY v;have h0:=v.h0;have hY:tzq Y≠0:=by rw[dA v.tb];exact h0
 have h1:=KQ (Q:=qs X Y) (R:=qr X Y) (Q':=S) (R':=[]) (B:=Y) (by rw[<-r3,e,wW,PQ.add_zero]) hY (by rw[dA r2,dA v.tb];exact r1) (by show 0<_;omega);refine⟨h1.1,?_⟩;have h2:tzq (qr X Y)=0:=dH.mpr λk=>by
  have:=zaO (λf=>PQ.c f k) h1.2;exact this
 rw[dA r2]at h2;exact zaz.mp h2
def N9 {Z:List Rat}(tX:au X=X)(tY:au Y=Y)(tZ:au Z=Z)(e:pq Z=pq X*pq Y)(hx:X.length≠0)(hy:Y.length≠0):X.length+Y.length=Z.length+1:=by
 have h:tzq Z=tzq (gJ X Y):=lu λk=>by
  have:=zaO (λf=>PQ.c f k) e;rwa [<-eG]at this
 rw[Ls (by rw[dA tX];exact hx) (by rw[dA tY];exact hy),dA tX,dA tY,dA tZ]at h;omega
structure BZ (A B:List Rat):Prop where
 id:pq (bzu A B)*pq A+pq (bzv A B)*pq B=pq (bzg A B)
 one:(bzg A B).length≠0->lq (bzg A B)=1
 deg:B.length≠0->(bzu A B).length+(bzg A B).length<=B.length
 gt:au (bzg A B)=bzg A B
 ut:au (bzu A B)=bzu A B
 vt:au (bzv A B)=bzv A B
 gn:(A.length≠0\/B.length≠0)->(bzg A B).length≠0
def b2l (hA:CX 7 9 A)(hB:CX 7 9 B)(tA:au A=A)(tB:au B=B):BZ A B:=by
 by_cases hb:B.length=0
 .by_cases ha:A.length=0
  .have eA:A=[]:=zaz.mp ha;have eB:B=[]:=zaz.mp hb;have g:bzg A B=[]:=by rw[bzg,zas hb,zas ha]
   have u:bzu A B=[]:=by rw[bzu,zas hb,zas ha]
   have v:bzv A B=[]:=by rw[bzv,zas hb]
   refine⟨?_,λh=>absurd (by rw[g];rfl) h,λh=>absurd hb h,by rw[g];decide +kernel,by rw[u];decide +kernel,by rw[v];decide +kernel,λh=>absurd h (by omega)⟩;rw[g,u,v,wW,PQ.zero_mul,PQ.zero_mul,PQ.zero_add]
  .have eB:B=[]:=zaz.mp hb;have g:bzg A B=au (gJ [1/lq A] A):=by rw[bzg,zas hb,zam ha]
   have u:bzu A B=[1/lq A]:=by rw[bzu,zas hb,zam ha]
   have v:bzv A B=[]:=by rw[bzv,zas hb]
   have l0:=MX tA ha;have k0:1/lq A≠0:=λe=>by
    have h1:=zbm (a:=1) l0;rw[e,zbG]at h1;exact absurd h1 (by decide)
   have tk:au [1/lq A]=[1/lq A]:=Ll k0 0;have hc:∀k,cfq (gJ [1/lq A] A) k=1/lq A*cfq A k:=λk=>by
    have:=jM (1/lq A) 0 A k;rwa [zas (za4 _),zcF]at this
   have hlen:(au (gJ [1/lq A] A)).length=A.length:=by
    have h:=N9 tk tA (aZ (gJ [1/lq A] A)) (by rw[iJ,eG]) (by rw[zcw];omega) ha;simp only[zcw]at h;omega
   refine⟨?_,λh=>?_,λh=>absurd hb h,by rw[g];exact aZ _,by rw[u];exact tk,by rw[v];decide +kernel,λh=>by rw[g,hlen];exact ha⟩
   .rw[g,u,v,wW,PQ.zero_mul,PQ.add_zero,iJ,eG]
   .rw[g,lq,hlen,dQ,hc];exact zbm l0
 have F:=Tn hA hB tA tB hb;have E:=NH hA hB tA tB hb;have g:bzg A B=au (nG (1/lq (bzs A B).1) (bzs A B).1):=by rw[bzg,zam hb]
 have u:bzu A B=qr (bzw A B) (qs B (bzg A B)):=by rw[bzu,zam hb]
 have v:bzv A B=qs (bzr A B) B:=by rw[bzv,zam hb]
 have l0:=MX E.t E.l;have k0:1/lq (bzs A B).1≠0:=λe=>by
  have h1:=zbm (a:=1) l0;rw[e,zbG]at h1;exact absurd h1 (by decide)
 obtain⟨Z,hZ⟩:=VJ (A:=A) (B:=B) 9 B A [] [1] [1] [] (EX hA hB tA tB) (by rw[wW,PQ.zero_mul,PQ.zero_add,a8G,PQ.one_mul]) (by rw[a8G,PQ.one_mul,wW,PQ.zero_mul,PQ.add_zero]);rw[show qeu 9 B A [] [1]=bzs A B from rfl]at hZ;obtain⟨a,ea⟩:=F.gd.1;obtain⟨b,eb⟩:=F.gd.2;obtain⟨m1,m2⟩:=VF F.m eb;rw[<-m1]at eb;obtain⟨_,_,d3⟩:=lY F.u;rw[<-u]at d3;generalize hm:qs B (bzg A B)=m at *
 -- d = w A + (k Z) B
 have e1:pq (bzg A B)=pq (bzw A B)*pq A+pq (nG (1/lq (bzs A B).1) Z)*pq B:=by
  rw[g,bzw,iJ,iJ,uN,uN,uN,hZ,PQ.mul_add,PQ.mul_assoc,PQ.mul_assoc]
 have e2:pq (qs (bzw A B) m)*pq m*pq A=pq (qs (bzw A B) m)*pq a*pq B:=by
  have x1:pq (qs (bzw A B) m)*pq m*pq A=pq (qs (bzw A B) m)*pq m*(pq a*pq (bzg A B)):=by rw[<-ea]
  have x2:pq (qs (bzw A B) m)*pq a*pq B=pq (qs (bzw A B) m)*pq a*(pq m*pq (bzg A B)):=by rw[<-eb]
  rw[x1,x2]
  ac_rfl
 have e3:pq (bzr A B)=pq (Ja (nG (1/lq (bzs A B).1) Z) (gJ (qs (bzw A B) m) a))*pq B:=by
  have h1:pq (bzu A B)=pq (bzw A B)-pq (qs (bzw A B) m)*pq m:=PQ.a9f d3;rw[bzr,iJ,ML,iJ,eG,h1,PQ.sub_mul,e2,TA,eG,PQ.add_mul,e1];generalize pq (bzw A B)*pq A=x;generalize pq (nG (1/lq (bzs A B).1) Z)*pq B=y;generalize pq (qs (bzw A B) m)*pq a*pq B=z;refine PQ.ext λk=>?_;simp only[PQ.vH,PQ.QJ]
  grind
 obtain⟨v1,v2⟩:=VF F.v e3;have e4:pq (bzr A B)=pq (bzv A B)*pq B:=by rw[v,v1];exact e3
 have ml:=F.ml;have ul:=F.ul;rw[hm]at ml ul;have hl:=N9 (by rw[<-hm];exact aZ _) F.gt tB eb ml F.gl.1;refine⟨?_,λ_=>?_,λ_=>by omega,F.gt,F.ut,by rw[v];exact aZ _,λ_=>F.gl.1⟩
 .rw[<-e4,bzr,iJ,ML,iJ,eG];generalize pq (bzu A B)*pq A=x;generalize pq (bzg A B)=y;refine PQ.ext λk=>?_;simp only[PQ.vH,PQ.QJ]
  grind
 .have hgl:(bzg A B).length=(bzs A B).1.length:=by
   have tk:au [1/lq (bzs A B).1]=[1/lq (bzs A B).1]:=Ll k0 0;have h:=N9 tk E.t F.gt (by
    rw[g,iJ];refine PQ.ext λk=>?_;rw[<-eG,qZ,qZ,iw];have:=jM (1/lq (bzs A B).1) 0 (bzs A B).1 k;rw[zas (za4 _),zcF]at this;rw[show gJ [1/lq (bzs A B).1] (bzs A B).1=gJ (upq (1/lq (bzs A B).1) 0) (bzs A B).1 from rfl,this,ze0]) (by rw[zcw];omega) E.l
   simp only[zcw]at h;omega
  rw[lq,hgl];rw[g,dQ,iw];have h1:=zbm (a:=1) l0;rw[ze0];exact h1
end
section
variable {A B X Y:List Rat} {n m M N i:Nat} {p:List RQ}
def Zy (hA:CX n M A)(hB:CX m N B)(hn:n<=1000)(hm:m<=1000)(hM:M<=2^32)(hN:N<=2^32)(h1:1<=M):AC Tryz.prog 246 [cqw (A.map aN),cqw (B.map aN)] none [cqp (gJ A B)]:=by
 obtain⟨D,cA⟩:=hA;obtain⟨E,cB⟩:=hB;refine Oz A B (cA.qb.mono (by omega) (by omega)) (cB.qb.mono (by omega) (by omega)) λi k=>?_;have:=cA.part cB (by omega) i k;omega
def a8m {A B:List Rat}{n m M N:Nat}(hA:CX n M A)(hB:CX m N B)(hn:n<=1000)(hm:m<=1000)(hM:M<=2^32)(hN:N<=2^32):AC Tryz.prog 245 [cqw (A.map aN),cqw (B.map aN)] none [cqw ((au (LH A B)).map aN)]:=by
 have l:=Wx A B (hA.qb.mono (by omega) (by omega)) (hB.qb.mono (by omega) (by omega));rwa [show cqp (Ja A (au (nG (-1) B)))=cqw ((au (LH A B)).map aN) from congrArg cqw (by
  rw[cqs]
  congr 1
  exact jk λk=>by rw[nZ,pO,dQ,iw];grind)]at l
def a4Q {K:Nat}(v:DV X Y (qnn X Y) K)(hK:K<=2^30)(hX:CX n M X)(hY:CX m N Y)(hn:n<=1000)(hm:m<=1000)(hM:M<=2^30)(hN:N<=2^30):AC Tryz.prog 243 [cqw (X.map aN),cqw (Y.map aN)] none [cqw ((qs X Y).map aN),cqw ((qr X Y).map aN)]:=by
 have m:=KP (X.map aN) (Y.map aN) (hX.qb.gq.mono (by omega) hM) (hY.qb.gq.mono (by omega) hN) (qnn X Y) K (by rw[dG,dG,v.ta,v.tb];exact v) hK;rw[dG,dG,v.ta,v.tb]at m;exact m
def b6o (hA:CX n M A)(t:au A=A)(hn:n<=1000)(hM:M<=2^32):AC Tryz.prog 233 [cqw (A.map aN)] none [cqw (A.map aN)]:=by
 have m:=Jo (A.map aN) (hA.qb.gq.mono (by omega) (by omega));rwa [dG,show cqp A=cqw (A.map aN) from zaO cqw (by rw[cqs,t])]at m
def b7P {k:Rat}(hA:CX n M A)(hk:qz k<=2^30)(hn:n<=1000)(hM:M<=2^32):AC Tryz.prog 275 [cqw (A.map aN),cqz k] none [cqp (nG k A)]:=by
 have b:=a9m A (aN k) (2^32) (hA.qb.mono (by omega) hM) (cO (by omega)) (cZ _) (by omega) (by omega);rwa [eF]at b
def rdn (p:List RQ):List Nat:=p.map λr=>nv r.2
def rlc (p:List RQ):Nat:=Cm (rdn p)
def mY (p:List RQ):List Int:=p.map λr=>iv r.1*((rlc p/nv r.2:Nat):Int)
theorem SX (p:List RQ):(rdn p).length=p.length:=zae _
theorem ET (p:List RQ):(mY p).length=p.length:=zae _
def a0w (h:i<p.length):(rdn p).getD i 0=nv (p.getD i q0).2:=by simp[rdn,List.getD,h]
theorem Mc (h:i<p.length):cf (mY p) i=iv (p.getD i q0).1*((rlc p/nv (p.getD i q0).2:Nat):Int):=by simp[mY,cf,List.getD,h]
structure RC (p:List RQ):Prop where
 n0:∀x∈rdn p,x≠0
 k:∀x∈rdn p,(wd x).length<=1
theorem b3X (hp:GQ 7 1 p):RC p:=⟨λx hx=>by
 obtain⟨r,hr,rfl⟩:=zaw.1 hx;exact(hp.2 r hr).2,λx hx=>by
 obtain⟨r,hr,rfl⟩:=zaw.1 hx;have h:=(hp.2 r hr).1;exact zad (iP h.2.2) h.2.1⟩
def wK (hp:GQ 7 1 p):rlc p≠0/\(wd (rlc p)).length<=8/\∀i,i<p.length->nv (p.getD i q0).2∣rlc p:=by
 have hl:=hp.1;have r:=b3X hp;obtain⟨a,b,c⟩:=lI (rdn p) 1 r.n0 r.k p.length (by rw[SX];exact zab _);rw[zac (by rw[SX];exact zab _)]at a b c;refine⟨a,by show (wd (Cm (rdn p))).length<=8;omega,λi hi=>?_⟩;rw[<-a0w hi];exact c i hi
def SY (hp:GQ 7 1 p):SBd 9 (mY p)/\tz (mY p)<=7:=by
 have hl:=hp.1;obtain⟨l0,l1,l2⟩:=wK hp;refine⟨λi=>?_,zad (CS _) (by rw[ET];exact hl)⟩;by_cases hi:i<p.length
 .rw[Mc hi];have h1:=fA (iv (p.getD i q0).1) ((rlc p/nv (p.getD i q0).2:Nat):Int);have h2:=oO (hp.get hi).1;have h3:zl ((rlc p/nv (p.getD i q0).2:Nat):Int)<=8:=by
   unfold zl;rw[zbi];exact zad (bF (zbO _ _)) l1
  omega
 .rw[kX (by rw[ET];omega),iC];omega
theorem a1k (hp:GQ 7 1 p):pq (qp (mY p))=PQ.C (rlc p:Rat)*pq (qvs p):=PQ.ext λk=>by
 rw[PQ.gG,qZ,qZ,jm];by_cases hi:k<p.length
 .obtain⟨l0,l1,l2⟩:=wK hp;have hd:=hp.den hi;rw[Mc hi,Dq,Y1,zbw,zaP];obtain⟨m,hm⟩:=l2 k hi;have e:rlc p/nv (p.getD k q0).2=m:=by rw[hm,zdX _ (by omega)]
  rw[e,hm,zc9];have h1:=zbm (a:=(iv (p.getD k q0).1:Rat)) (jh hd)
  grind
 .rw[kX (by rw[ET];omega),ig (by rw[rO];omega),zfy];rfl
def OM (p:List RQ)(hp:GQ 7 1 p):AC Tryz.prog 242 [cqw p] none [cp (mY p)]:=by
 have hl:=hp.1;have hdl:=SX p;have hcl:=ET p;have w1:=uI 1 (by omega);have e0:wd (Cm ((rdn p).take 0))=wd 1:=by rw[zaj];rfl
 have rc:=b3X hp;obtain⟨l0,l1,l2⟩:=wK hp;obtain⟨z1,z2⟩:=SY hp;have nn:=vU ((mY p).map canon) ((RP.canon (.of (n:=7) (k:=9) (by omega) z1)).mono (by omega) (by omega));rw[fP]at nn;refine AC.aj (rs:=[.tmp 2]) aV Tryz.func242 (by rfl) (by rfl) (by rfl) (by rfl) (by rfl) ?_;simp only[wt,seval];refine ah (w1) (by rfl) (by simp) ?_;simp only[wt,seval];refine aI (λf H=>∃(i:Nat),i<=p.length/\f 4=.iv (.int .i64 i)/\f 0=.iv (.sl (dN p))/\f 3=.iv (.sl (dh (wd (Cm ((rdn p).take i)))))) (λf H=>(p.length-bC f 4).toNat) ?_ ?_
 .refine⟨0,by omega,?_⟩;simp only[wt,seval,e0]
 rintro f H ⟨i,hi,hF⟩;rw[aC hF.1];simp (disch:=omega) only[wt,seval,rqs,hF];by_cases hlt':i<p.length
 .have hlt:(i:Int)<(p.length:Int):=by omega
  obtain⟨a1,a2,a3⟩:=lI (rdn p) 1 rc.n0 rc.k i (by omega);have hr:=hp.get hlt';have hd:=hp.den hlt';have g:=a0n (wd (Cm ((rdn p).take i))) (p.getD i q0).2 (bg _) hr.2.2 (by omega) (by have:=hr.2.1;omega) (by rw[bJ];exact a1) hd;rw[bJ,<-a0w hlt',<-xu (by omega)]at g;simp (disch:=omega) only[wt,seval,rqs,hF,hlt];refine ah (g) (by rfl) (by simp) ?_;simp (disch:=omega) only[wt,seval,hF];refine⟨⟨i+1,by omega,?_⟩,by omega⟩
  try (repeat' apply zaa)<;>first|rfl|omega
 .have hlt:¬(i:Int)<(p.length:Int):=by omega
  obtain rfl:i=p.length:=by omega
  rw[zac (by omega),show Cm (rdn p)=rlc p from rfl]at hF;simp (disch:=omega) only[wt,seval,hlt];refine bU 5 5 30 2 (by simp only[wt,seval]) (λf H=>∃(i st:Nat),i<=p.length/\f 6=.iv (.int .i64 i)/\f 0=.iv (.sl (dN p))/\f 3=.iv (.sl (dh (wd (rlc p))))/\f 5=.hs 5 st/\H 5=.blk false st 30 2 (bZ (((mY p).take i).map canon))) (λf H=>(p.length-bC f 6).toNat) ?_ ?_
  .refine⟨0,(H 5).stamp+1,by omega,?_⟩;simp only[wt,seval,fJ,fH,hF,fJ,fH,zaj]
  rintro f H ⟨i,st,hi,hF⟩;rw[aC hF.1];simp (disch:=omega) only[wt,seval,rqs,hF];by_cases hlt':i<p.length
  .have hlt:(i:Int)<(p.length:Int):=by omega
   have hrq:(((mY p).take i).map canon).length=i:=by rw[zae,zah];omega
   have et:=tC (q:=mY p) (i:=i) (by omega);have hr:=hp.get hlt';have hd:=hp.den hlt';have qo:=D6 (wd (rlc p)) (p.getD i q0).2 (bg _) hr.2.2 (by omega) (by have:=hr.2.1;omega) hd;rw[bJ]at qo;have hql:=bF (zbO (rlc p) (nv (p.getD i q0).2));have ri:=vW false (wd (rlc p/nv (p.getD i q0).2)) (bg _) (by omega);rw[bJ,show sg false (rlc p/nv (p.getD i q0).2)=((rlc p/nv (p.getD i q0).2:Nat):Int) from rfl]at ri;have m:=wR (p.getD i q0).1 (canon ((rlc p/nv (p.getD i q0).2:Nat):Int)) (hr.1.mono (by omega)) ((aY _).mono (by unfold zl;rw[zbi];omega));rw[aS,<-Mc hlt']at m;simp (disch:=omega) only[wt,seval,rqs,hF,hlt];refine ah (qo) (by rfl) (by simp) ?_;simp (disch:=omega) only[wt,seval,rqs,hF,hlt];refine .inl ⟨aP (by kernel_rfl),?_⟩;refine ah (ri) (by rfl) (by simp) ?_;simp (disch:=omega) only[wt,seval];refine ah (m) (by rfl) (by simp) ?_;simp (disch:=omega) only[wt,seval,hF,hrq];refine⟨aX (by kernel_rfl),?_⟩;refine⟨⟨i+1,st+1,by omega,?_⟩,by omega⟩;rw[et,zav]
   (repeat' apply zaa)<;>first|rfl|omega
  .have hlt:¬(i:Int)<(p.length:Int):=by omega
   rw[zac (by omega)]at hF;simp (disch:=omega) only[wt,seval,hF,hlt];refine ah (nn) (by simp only[gV,qU,hF];rfl) (by simp) ?_;simp (disch:=omega) only[wt,seval,hF]
   try rfl
def mon (A:List Rat):List Rat:=if A.length=0 then [] else au (nG (1/lq A) A)
def ZG (hA:CX n M A)(t:au A=A)(hn:n<=1000)(hM:M<=2^29)(h1:1<=M):AC Tryz.prog 241 [cqw (A.map aN)] none [cqw ((mon A).map aN)]:=by
 have nq:=b6o hA t hn (by omega);have hAl:(A.map aN).length=A.length:=zae _;have hl:=hA.qb.1;by_cases h0:A.length=0
 .have h0':((A.length:Nat):Int)=0:=by omega
  have e:A=[]:=zaz.mp h0;rw[mon,zas h0];refine AC.aj (rs:=[.tmp 2]) aV Tryz.func241 (by rfl) (by rfl) (by rfl) (by rfl) (by rfl) ?_;simp only[wt,seval];refine ah (nq) (by rfl) (by simp) ?_;simp (disch:=omega) only[wt,seval,rqs,hAl,h0'];rw[e]
  try rfl
 have h0':¬((A.length:Nat):Int)=0:=by omega
 have e2:((A.length:Nat):Int)-1=((A.length-1:Nat):Int):=by omega
 have l0:=MX t h0;have lz:qz (lq A)<=2^29:=zad (hA.qb.cz h1 _) hM;have hat:=dZ (q:=A) (i:=A.length-1) (by omega);rw[show cfq A (A.length-1)=lq A from rfl]at hat;have ov:=Fh (aN 1) (aN (lq A)) (cO (by rw[OU];omega)) (cO (by omega)) (cZ _) (cZ _) (by rw[Ig];exact λe=>l0 (zcK.mp e));rw[eF,eF]at ov;have b:=b7P hA (k:=1/lq A) (zad (OW _) (by omega)) hn (by omega);rw[show cqp (nG (1/lq A) A)=cqw ((mon A).map aN) from zaO cqw (by rw[cqs,mon,zam h0])]at b;refine AC.aj (rs:=[.tmp 2]) aV Tryz.func241 (by rfl) (by rfl) (by rfl) (by rfl) (by rfl) ?_;simp only[wt,seval];refine ah (nq) (by rfl) (by simp) ?_;simp (disch:=omega) only[wt,seval,rqs,hAl,h0'];refine .inl ⟨aP (by kernel_rfl),?_⟩;refine ah (U8) (by rfl) (by simp) ?_;simp (disch:=omega) only[wt,seval,rqs,hAl,e2,hat];refine ah (ov) (by rfl) (by simp) ?_;simp only[wt,seval];refine ah (b) (by rfl) (by simp) ?_;simp (disch:=omega) only[wt,seval];exact aX (by kernel_rfl)
 try rfl
def b4r (tX:au X=X)(tY:au Y=Y)(h1:DQ X Y)(h2:DQ Y X):mon X=mon Y:=by
 by_cases h0:Y.length=0
 .have hx:X.length=0:=by
   by_cases hx:X.length=0
   .exact hx
   .exact absurd h0 (h2.len tY tX hx).1
  rw[mon,mon,zas h0,zas hx]
 .obtain⟨hx,l1⟩:=h1.len tX tY h0;have l2:=(h2.len tY tX hx).2;obtain⟨S,e⟩:=h1;have el:lq Y≠0:=MX tY h0;have hS:∀k,cfq Y k=cfq (gJ (au S) X) k:=λk=>by
   have:=zaO (λf=>PQ.c f k) e;rw[<-iJ S]at this;rwa [<-eG]at this
  have hs0:(au S).length≠0:=λh=>by
   have e2:au S=[]:=zaz.mp h;rw[<-iJ S,e2,wW,PQ.zero_mul]at e;exact el (zaO (λf=>PQ.c f (Y.length-1)) e)
  have hl:=N9 (aZ S) tX tY (by rw[iJ];exact e) hs0 hx;obtain⟨s,hs⟩:∃s,au S=[s]:=List.length_eq_one_iff.mp (by omega);have hc:∀k,cfq Y k=s*cfq X k:=λk=>by
   rw[hS,hs];have:=jM s 0 X k;rwa [zas (za4 _),zcF]at this
  have hly:lq Y=s*lq X:=by
   unfold lq;rw[show Y.length=X.length by omega,hc]
  have hs1:s≠0:=λh=>el (by rw[hly,h,zbG])
  have lx:=MX tX hx;rw[mon,mon,zam h0,zam hx];refine jk λk=>?_;rw[iw,iw,hc,hly];have x1:=zbm (a:=1) lx;have x2:=zbm (a:=1) (b:=s*lq X) (λh=>(zfr.mp h).elim hs1 lx)
  grind
def a6v (tX:au X=X)(h:X.length≠0->lq X=1):mon X=X:=by
 by_cases h0:X.length=0
 .rw[mon,zas h0];exact(zaz.mp h0).symm
 .rw[mon,zam h0,h h0];have e:au (nG (1/1) X)=au X:=jk λk=>by rw[iw];grind
  rw[e,tX]
theorem WZ {G P:List Int}{c:Nat}(hc:c≠0)(e:pq (qp P)=PQ.C (c:Rat)*pq A)(h:Dv G P):DQ (qp G) A:=by
 obtain⟨d,S,hd,es⟩:=h;have h1:=VQ es;rw[e]at h1;have hdq:(d:Rat)≠0:=λx=>hd (zcx.mp (by rw[x];rfl))
 have hcq:=jh hc;refine⟨nG (1/((d:Rat)*(c:Rat))) (qp S),?_⟩;rw[uN,PQ.mul_assoc,h1,<-PQ.mul_assoc,<-PQ.mul_assoc,<-PQ.qO,<-PQ.qO];have x:=zbm (a:=1) (b:=(d:Rat)*(c:Rat)) (λh=>(zfr.mp h).elim hdq hcq);rw[Rat.mul_assoc,x,PQ.Ce,PQ.one_mul]
theorem a6u {p r:List RQ}(hp:GQ 7 1 p)(hr:GQ 7 1 r):mon (qp (eU (mY p) (mY r)))=bzg (au (qvs p)) (au (qvs r)):=by
 have hA:=yP hp;have hB:=yP hr;have bz:=b2l hA hB (aZ _) (aZ _);have gg:=mG (mY p) (mY r);have e1:pq (qp (mY p))=PQ.C (rlc p:Rat)*pq (au (qvs p)):=by rw[iJ];exact a1k hp
 have e2:pq (qp (mY r))=PQ.C (rlc r:Rat)*pq (au (qvs r)):=by rw[iJ];exact a1k hr
 have d1:=WZ (wK hp).1 e1 gg.a;have d2:=WZ (wK hr).1 e2 gg.b;have tG:au (qp (eU (mY p) (mY r)))=qp (eU (mY p) (mY r)):=by rw[zB,jI]
 have gd:DQ (bzg (au (qvs p)) (au (qvs r))) (au (qvs p))/\DQ (bzg (au (qvs p)) (au (qvs r))) (au (qvs r)):=by
  by_cases hb:(au (qvs r)).length=0
  .have eB:au (qvs r)=[]:=List.length_eq_zero_iff.mp hb;by_cases ha:(au (qvs p)).length=0
   .have eA:au (qvs p)=[]:=List.length_eq_zero_iff.mp ha;rw[eA,eB];exact⟨.nil _,.nil _⟩
   .refine⟨?_,by rw[eB];exact .nil _⟩;have l0:=MX (aZ (qvs p)) ha;rw[bzg,if_pos hb,if_neg ha,DQ.trim];refine⟨[lq (au (qvs p))],PQ.ext λk=>?_⟩;have h1:∀(c:Rat) (X:List Rat) (k:Nat),cfq (gJ [c] X) k=c*cfq X k:=λc X k=>by
     have:=jM c 0 X k;rwa [if_pos (Nat.zero_le _),Nat.sub_zero]at this
    rw[<-eG,qZ,qZ,h1,h1];have h2:=Rat.div_mul_cancel (a:=1) l0
    grind
  .exact(Tn hA hB (aZ _) (aZ _) hb).gd
 rw[<-a6v bz.gt bz.one];refine b4r tG bz.gt ?_ ?_
 ·-- qp G divides u A + v B
  have h1:DQ (qp (eU (mY p) (mY r))) (gJ (bzv (au (qvs p)) (au (qvs r))) (au (qvs r))):=d2.trans ⟨_,eG _ _⟩;exact d1.lin h1 (show pq (bzg (au (qvs p)) (au (qvs r)))=pq (bzu (au (qvs p)) (au (qvs r)))*pq (au (qvs p))+pq (gJ (bzv (au (qvs p)) (au (qvs r))) (au (qvs r))) by rw[eG];exact bz.id.symm)
 .obtain⟨c,U,V,hc,ez⟩:=gg.z;have hcq:(c:Rat)≠0:=λx=>hc (Rat.intCast_inj.mp (by rw[x];rfl))
  have h0:pq (qp U)*pq (qp (mY p))+pq (qp V)*pq (qp (mY r))=PQ.C (c:Rat)*pq (qp (eU (mY p) (mY r))):=PQ.ext λk=>by
   have e:=congrArg (λf=>PS.c f k) ez;simp only[PS.vH,PS.gG,<-dP,F6]at e;rw[PQ.vH,PQ.gG,<-eG,<-eG,qZ,qZ,qZ,<-qH,<-qH,jm,jm,jm,<-Rat.intCast_add,e,Rat.intCast_mul]
  have h1:DQ (bzg (au (qvs p)) (au (qvs r))) (qp (mY p)):=gd.1.trans ⟨[(rlc p:Rat)],by
   rw[e1]
   congr 1
   exact PQ.ext λk=>by
    rw[PQ.c_C,qZ];cases k with
    |zero=>rfl
    |succ k=>rw[ig (by show 1<=k+1;omega),if_neg (by omega)]⟩
  have h2:DQ (bzg (au (qvs p)) (au (qvs r))) (qp (mY r)):=gd.2.trans ⟨[(rlc r:Rat)],by
   rw[e2]
   congr 1
   exact PQ.ext λk=>by
    rw[PQ.c_C,qZ];cases k with
    |zero=>rfl
    |succ k=>rw[ig (by show 1<=k+1;omega),if_neg (by omega)]⟩
  have h3:DQ (bzg (au (qvs p)) (au (qvs r))) (gJ (qp V) (qp (mY r))):=h2.trans ⟨_,eG _ _⟩;have h4:DQ (bzg (au (qvs p)) (au (qvs r))) (nG (c:Rat) (qp (eU (mY p) (mY r)))):=h1.lin h3 (show pq (nG (c:Rat) (qp (eU (mY p) (mY r))))=pq (qp U)*pq (qp (mY p))+pq (gJ (qp V) (qp (mY r))) by rw[uN,<-h0,eG]);obtain⟨S,eS⟩:=h4;refine⟨nG (1/(c:Rat)) S,?_⟩;rw[uN,PQ.mul_assoc,<-eS,uN,<-PQ.mul_assoc,<-PQ.qO,Rat.div_mul_cancel hcq,PQ.Ce,PQ.one_mul]
end
def ZH (p r:List RQ)(hp:GQ 7 1 p)(hr:GQ 7 1 r):AC Tryz.prog 167 [cqw p,cqw r] none [cqw ((bzg (au (qvs p)) (au (qvs r))).map aN),ci 0]:=by
 have g1:=DY p (hp.bq.mono (by omega) (by omega));have g2:=DY r (hr.bq.mono (by omega) (by omega));rw[hp.gd]at g1;rw[hr.gd]at g2;have c1:=OM p hp;have c2:=OM r hr;obtain⟨s1,t1⟩:=SY hp;obtain⟨s2,t2⟩:=SY hr;have r1:=(lQ t1 s1).mono (show 7<=40 by omega) (zab _);have r2:=(lQ t2 s2).mono (show 7<=40 by omega) (zab _);have gg:=mG (mY p) (mY r);have g:=uG (p:=cn (mY p)) (q:=cn (mY r)) (A:=mY p) (B:=mY r) 7 9 r1 r2 (fF _) (fF _) t1 t2 (by omega) (by rw[b1O];omega);have sg:=Uc (D:=7) (S:=9) t1 t2 s1 s2;rw[b1O]at sg;have tg:tz (eU (mY p) (mY r))<=7:=(a2T (D:=7) (S:=9) _ _ _ (EI.start t1 t2 s1 s2)).2;have ov:=F9 (cn (eU (mY p) (mY r))) ((lQ tg sg).mono (by omega) (by omega));have e0:aO (eU (mY p) (mY r))=eU (mY p) (mY r):=jI _ _;rw[tN e0,show cqp (qp (eU (mY p) (mY r)))=cqw ((qp (eU (mY p) (mY r))).map aN) from zaO cqw (by rw[cqs,zB,e0])]at ov;have cx:CX 7 (7*4079+4079+1) (qp (eU (mY p) (mY r))):=by
  refine(PB.ofZ (n:=7) (k:=4079) ⟨?_,λz hz=>?_⟩ (by omega)).cx
  .rw[<-e0,dw];exact tg
  .obtain⟨i,hi,rfl⟩:=zbE hz;have:=sg i;rwa [cf,List.getD,zaf hi,zaE]at this
 have m:=ZG cx (by rw[zB,e0]) (by omega) (by omega) (by omega);rw[a6u hp hr]at m;refine AC.aj (rs:=[.tmp 4,.tmp 5]) aV Tryz.func167 (by rfl) (by rfl) (by rfl) (by rfl) (by rfl) ?_;simp only[wt,seval];refine ah (g1) (by rfl) (by simp) ?_;simp (disch:=omega) only[wt,seval];refine ah (g2) (by rfl) (by simp) ?_;simp (disch:=omega) only[wt,seval];refine ah (c1) (by rfl) (by simp) ?_;simp only[wt,seval];refine ah (c2) (by rfl) (by simp) ?_;simp only[wt,seval];refine ah (g) (by rfl) (by simp) ?_;simp only[wt,seval];refine ah (ov) (by rfl) (by simp) ?_;simp only[wt,seval];refine ah (m) (by rfl) (by simp) ?_;simp (disch:=omega) only[wt,seval]
 try rfl
def Vl (p r:List RQ)(hp:BQ 7 1 p)(hr:BQ 7 1 r)(h:gd p=false\/gd r=false):AC Tryz.prog 167 [cqw p,cqw r] none [cqw [],ci 1]:=by
 have g1:=DY p (hp.mono (by omega) (by omega));have g2:=DY r (hr.mono (by omega) (by omega));cases hg:gd p with
 |false =>
  rw[hg]at g1;refine AC.aj (rs:=[.tmp 4,.tmp 5]) aV Tryz.func167 (by rfl) (by rfl) (by rfl) (by rfl) (by rfl) ?_;simp only[wt,seval];refine ah (g1) (by rfl) (by simp) ?_;simp (disch:=omega) only[wt,seval,rqs]
  try rfl
 |true =>
  rw[hg]at g1;rw[h.resolve_left (by rw[hg];decide)]at g2;refine AC.aj (rs:=[.tmp 4,.tmp 5]) aV Tryz.func167 (by rfl) (by rfl) (by rfl) (by rfl) (by rfl) ?_;simp only[wt,seval];refine ah (g1) (by rfl) (by simp) ?_;simp (disch:=omega) only[wt,seval];refine ah (g2) (by rfl) (by simp) ?_;simp (disch:=omega) only[wt,seval,rqs]
  try rfl
def a4H {A B:List Rat}(hA:CX 7 9 A)(hB:CX 7 9 B)(tA:au A=A)(tB:au B=B)(hb:B.length≠0):AC Tryz.prog 244 [cqw (A.map aN),cqw (B.map aN),cqw ((bzg A B).map aN)] none [cqw ((bzw A B).map aN)]:=by
 have F:=Tn hA hB tA tB hb;have E:=NH hA hB tA tB hb;have Z:=b2l hA hB tA tB;have n1:=b6o hB tB (by omega) (by omega);have n2:=b6o hA tA (by omega) (by omega);have g1:=Z.one F.gl.1;have gl:=F.gl;have gat:=dZ (q:=bzg A B) (i:=(bzg A B).length-1) (by omega);rw[show cfq (bzg A B) ((bzg A B).length-1)=1 from g1]at gat;have gel:((bzg A B).length:Int)-1=(((bzg A B).length-1:Nat):Int):=by omega
 have gml:((bzg A B).map aN).length=(bzg A B).length:=zae _;have sl0:=E.l;have sl7:=E.l7;have bl7:=hB.qb.1;have sat:=dZ (q:=(bzs A B).1) (i:=(bzs A B).1.length-1) (by omega);rw[show cfq (bzs A B).1 ((bzs A B).1.length-1)=lq (bzs A B).1 from rfl]at sat;have sel:((bzs A B).1.length:Int)-1=(((bzs A B).1.length-1:Nat):Int):=by omega
 have sml:((bzs A B).1.map aN).length=(bzs A B).1.length:=zae _;have lz:=F.lz;have ov:=Fh (aN 1) (aN (lq (bzs A B).1)) (cO (by rw[OU];omega)) (cO (by omega)) (cZ _) (cZ _) (by rw[Ig];exact λe=>F.k0 (zcK.mp e));rw[eF,eF]at ov;have b:=b7P E.cu (zad F.kz (by omega)) (by omega) (by omega);rw[show cqp (nG (1/lq (bzs A B).1) (bzs A B).2)=cqw ((bzw A B).map aN) from rfl]at b;have hXU:bzs A B=qeu 9 B A [] [1]:=rfl;have qi0:=EX hA hB tA tB;have c0n:=hA.qb.1;clear F E Z;generalize bzg A B=g at *;generalize bzw A B=w at *;refine AC.aj (rs:=[.tmp 6]) aV Tryz.func244 (by rfl) (by rfl) (by rfl) (by rfl) (by rfl) ?_;simp only[wt,seval];refine ah (n1) (by rfl) (by simp) ?_;simp only[wt,seval];refine ah (n2) (by rfl) (by simp) ?_;simp (disch:=omega) only[wt,seval];refine ah (U8) (by rfl) (by simp) ?_;simp (disch:=omega) only[wt,seval];refine rZ (.iv 9 18 1 false 32 3 [] (by simp only[wt,seval]) (by simp only[wt,seval]) (.iv 10 20 1 false 32 3 [pW (aN 1)] (by simp only[wt,seval]) (by simp only[wt,seval]) (.refl _ _))) (λf H=>∃(n j:Nat) (X Y U V:List Rat),qeu n X Y U V=bzs A B/\Y.length+1<=n/\j+n<=9/\QI 7 9 X Y/\QU j U V/\f 0=.iv (.sl (dN (A.map aN)))/\f 1=.iv (.sl (dN (B.map aN)))/\f 2=.iv (.sl (dN (g.map aN)))/\f 7=.iv (.sl (dN (X.map aN)))/\f 8=.iv (.sl (dN (Y.map aN)))/\f 9=.iv (.sl (dN (U.map aN)))/\f 10=.iv (.sl (dN (V.map aN)))) (λf H=>match f 8 with | .iv (.sl l)=>l.length|_=>0) ?_ ?_
 .refine⟨9,0,B,A,[],[1],hXU.symm,by omega,by omega,qi0,qu0,?_⟩;simp only[wt,seval,rqs]
  first|rfl|exact⟨rfl,rfl⟩
 rintro f H ⟨n,j,X,Y,U,V,hq1,hn,hj,qi,qu,hF⟩;have hYl:(Y.map aN).length=Y.length:=zae _;have hmu:(match f 8 with | .iv (.sl l)=>l.length|_=>0)=Y.length:=by rw[hF.2.2.2.2.1];simp only[];rw[uK,hYl]
 rw[hmu];obtain⟨n',rfl⟩:∃n',n=n'+1:=⟨n-1,by omega⟩;rw[qeu]at hq1;by_cases hy:Y.length=0
 .rw[zas hy]at hq1;have hy':¬(0:Int)<((Y.length:Nat):Int):=by omega
  have e1:X=(bzs A B).1:=by rw[<-hq1]
  have e2:U=(bzs A B).2:=by rw[<-hq1]
  subst e1 e2;simp (disch:=omega) only[wt,seval,rqs,hF,hYl,hy',gml,sml,gel,sel,gat,sat];refine .inl ⟨aP (by kernel_rfl),?_⟩;refine ah (ov) (by rfl) (by simp) ?_;simp (disch:=omega) only[wt,seval,rqs,hF];refine⟨aX (by kernel_rfl),?_⟩;refine ah (b) (by rfl) (by simp) ?_;simp (disch:=omega) only[wt,seval]
  try rfl
 .rw[zam hy]at hq1;have hy':(0:Int)<((Y.length:Nat):Int):=by omega
  have v:=qi.dv hy;obtain⟨b1,b2⟩:=qi.bd;rw[b1O]at b1 b2;have dv:=a4Q v (by omega) b1 b2 (by omega) (by omega) (by omega) (by omega);obtain⟨s1,s2⟩:=Y3 v qi.x;have ub:=UB.le (show j<=9 by omega);have u9:=ub8;have m1:=Zy s1.cx (qu.v.mono (show 8*j+1<=73 by omega) (show UB j<=400000000 by omega)) (by omega) (by omega) (by omega) (by omega) (by omega);have mc:=(s1.cx.mul (qu.v.mono (show 8*j+1<=73 by omega) (show UB j<=400000000 by omega))).trim;have s3:=a8m (qu.u.mono (show 8*j+1<=73 by omega) (show UB j<=400000000 by omega)) mc (by omega) (by omega) (by omega) (by omega);rw[show au (LH U (au (gJ (qs X Y) V)))=zY X Y U V by
   rw[zY];exact jk λk=>by rw[pO,pO,dQ]]at s3
  have hr:=(lY v).1;simp (disch:=omega) only[wt,seval,rqs,hF,hYl,hy'];refine ah (dv) (by rfl) (by simp) ?_;simp (disch:=omega) only[wt,seval,hF];refine ah (m1) (by rfl) (by simp) ?_;simp (disch:=omega) only[wt,seval];refine ah (s3) (by rfl) (by simp) ?_;simp (disch:=omega) only[wt,seval,rqs,hF];refine⟨⟨n',j+1,Y,qr X Y,V,zY X Y U V,hq1,by omega,by omega,qi.step v,qu.step qi hy (by omega),?_⟩,?_⟩
  .try (repeat' apply zaa)<;>first|rfl|omega
  .rw[zae];exact hr
set_option maxHeartbeats 1000000 in
def ZM (p r:List RQ)(hp:GQ 7 1 p)(hr:GQ 7 1 r):AC Tryz.prog 168 [cqw p,cqw r] none [cqw ((bzg (au (qvs p)) (au (qvs r))).map aN),cqw ((bzu (au (qvs p)) (au (qvs r))).map aN),cqw ((bzv (au (qvs p)) (au (qvs r))).map aN),ci 0]:=by
 have hA:=yP hp;have hB:=yP hr;have tA:=aZ (qvs p);have tB:=aZ (qvs r);have mo:=ZH p r hp hr;have n1:=Jo p (hp.mono (by omega) (by omega));have n2:=Jo r (hr.mono (by omega) (by omega));rw[show cqp (qvs p)=cqw ((au (qvs p)).map aN) from rfl]at n1;rw[show cqp (qvs r)=cqw ((au (qvs r)).map aN) from rfl]at n2;generalize au (qvs p)=A at *;generalize au (qvs r)=B at *;have hAl:(A.map aN).length=A.length:=zae _;have hBl:(B.map aN).length=B.length:=zae _;by_cases hb:B.length=0
 .have hb':((B.length:Nat):Int)=0:=by omega
  by_cases ha:A.length=0
  .have eg:bzg A B=[]:=by rw[bzg,zas hb,zas ha]
   rw[eg]at mo;rw[eg,bzu,bzv,zas hb,zas hb,zas ha];refine AC.aj (rs:=[.tmp 4,.tmp 5,.tmp 6,.tmp 7]) aV Tryz.func168 (by rfl) (by rfl) (by rfl) (by rfl) (by rfl) ?_;simp only[wt,seval];refine ah (mo) (by rfl) (by simp) ?_;simp (disch:=omega) only[wt,seval,rqs];refine ah (n1) (by rfl) (by simp) ?_;simp only[wt,seval];refine ah (n2) (by rfl) (by simp) ?_;simp (disch:=omega) only[wt,seval,rqs]
   try rfl
  .have bz:=b2l hA hB tA tB;have g0:=bz.gn (.inl ha);have gml:((bzg A B).map aN).length=(bzg A B).length:=zae _;have g0':¬(((bzg A B).length:Nat):Int)=0:=by omega
   rw[bzu,bzv,zas hb,zas hb,zam ha];generalize bzg A B=g at *;have l0:=MX tA ha;have lz:qz (lq A)<=9:=hA.qb.cz (by omega) _;have aat:=dZ (q:=A) (i:=A.length-1) (by omega);rw[show cfq A (A.length-1)=lq A from rfl]at aat;have al7:=hA.qb.1;have ael:(A.length:Int)-1=((A.length-1:Nat):Int):=by omega
   have ov:=Fh (aN 1) (aN (lq A)) (cO (by rw[OU];omega)) (cO (by omega)) (cZ _) (cZ _) (by rw[Ig];exact λe=>l0 (zcK.mp e));rw[eF,eF]at ov;refine AC.aj (rs:=[.tmp 4,.tmp 5,.tmp 6,.tmp 7]) aV Tryz.func168 (by rfl) (by rfl) (by rfl) (by rfl) (by rfl) ?_;simp only[wt,seval];refine ah (mo) (by rfl) (by simp) ?_;simp (disch:=omega) only[wt,seval];refine ah (n1) (by rfl) (by simp) ?_;simp only[wt,seval];refine ah (n2) (by rfl) (by simp) ?_;simp (disch:=omega) only[wt,seval,rqs,hBl,hb',gml,g0'];refine .inl ⟨aP (by kernel_rfl),?_⟩;refine ah (U8) (by rfl) (by simp) ?_;simp (disch:=omega) only[wt,seval,rqs,hAl,ael,aat];refine ah (ov) (by rfl) (by simp) ?_;simp (disch:=omega) only[wt,seval,rqs];refine⟨aX (by kernel_rfl),?_⟩
   try rfl
 have hb':¬((B.length:Nat):Int)=0:=by omega
 have F:=Tn hA hB tA tB hb;have so:=a4H hA hB tA tB hb;have gml:((bzg A B).map aN).length=(bzg A B).length:=zae _;have g0:=F.gl.1;have g0':¬(((bzg A B).length:Nat):Int)=0:=by omega
 have d1:=a4Q F.m (by omega) hB F.g (by omega) (by omega) (by omega) (by omega);have d2:=a4Q F.u (by omega) F.w F.mc (by omega) (by omega) (by omega) (by omega);rw[show qr (bzw A B) (qs B (bzg A B))=bzu A B by rw[bzu,zam hb]]at d2;have mu:=Zy F.uc hA (by omega) (by omega) (by omega) (by omega) (by omega);have su:=a8m F.g ((F.uc.mul hA).trim) (by omega) (by omega) (by omega) (by omega);rw[show au (LH (bzg A B) (au (gJ (bzu A B) A)))=bzr A B from rfl]at su;have d3:=a4Q F.v (by omega) F.r hB (by omega) (by omega) (by omega) (by omega);rw[show qs (bzr A B) B=bzv A B by rw[bzv,zam hb]]at d3;clear F;generalize bzg A B=g at *;generalize bzw A B=w at *;generalize bzu A B=u at *;generalize bzr A B=q at *;generalize bzv A B=vv at *;refine AC.aj (rs:=[.tmp 4,.tmp 5,.tmp 6,.tmp 7]) aV Tryz.func168 (by rfl) (by rfl) (by rfl) (by rfl) (by rfl) ?_;simp only[wt,seval];refine ah (mo) (by rfl) (by simp) ?_;simp (disch:=omega) only[wt,seval];refine ah (n1) (by rfl) (by simp) ?_;simp only[wt,seval];refine ah (n2) (by rfl) (by simp) ?_;simp (disch:=omega) only[wt,seval,rqs,hBl,hb',gml,g0'];refine ah (d1) (by rfl) (by simp) ?_;simp (disch:=omega) only[wt,seval];refine ah (so) (by rfl) (by simp) ?_;simp only[wt,seval];refine ah (d2) (by rfl) (by simp) ?_;simp (disch:=omega) only[wt,seval];refine ah (mu) (by rfl) (by simp) ?_;simp only[wt,seval];refine ah (su) (by rfl) (by simp) ?_;simp only[wt,seval];refine ah (d3) (by rfl) (by simp) ?_;simp (disch:=omega) only[wt,seval]
 try rfl
def a4T (p r:List RQ)(hp:BQ 7 1 p)(hr:BQ 7 1 r)(h:gd p=false\/gd r=false):AC Tryz.prog 168 [cqw p,cqw r] none [cqw [],cqw [],cqw [],ci 1]:=by
 have m:=Vl p r hp hr h;refine AC.aj (rs:=[.tmp 4,.tmp 5,.tmp 6,.tmp 7]) aV Tryz.func168 (by rfl) (by rfl) (by rfl) (by rfl) (by rfl) ?_;simp only[wt,seval];refine ah (m) (by rfl) (by simp) ?_;simp (disch:=omega) only[wt,seval,rqs]
 try rfl
def ivl (A B:List Rat):List RQ:=if B.length=0 then [] else if (bzg A B).length=1 then (bzu A B).map aN else []
def ive (A B:List Rat):Int:=if B.length=0 then 1 else if (bzg A B).length=1 then 0 else 4
def a9U (p r:List RQ)(hp:GQ 7 1 p)(hr:GQ 7 1 r):AC Tryz.prog 169 [cqw p,cqw r] none [cqw (ivl (au (qvs p)) (au (qvs r))),ci (ive (au (qvs p)) (au (qvs r)))]:=by
 have g1:=DY p (hp.bq.mono (by omega) (by omega));have g2:=DY r (hr.bq.mono (by omega) (by omega));rw[hp.gd]at g1;rw[hr.gd]at g2;have n2:=Jo r (hr.mono (by omega) (by omega));rw[show cqp (qvs r)=cqw ((au (qvs r)).map aN) from rfl]at n2;have bz:=ZM p r hp hr;generalize au (qvs p)=A at *;generalize au (qvs r)=B at *;have hBl:(B.map aN).length=B.length:=zae _;have gml:((bzg A B).map aN).length=(bzg A B).length:=zae _;rw[ivl,ive];by_cases hb:B.length=0
 .have hb':((B.length:Nat):Int)=0:=by omega
  rw[zas hb,zas hb];refine AC.aj (rs:=[.tmp 4,.tmp 5]) aV zfB (by rfl) (by rfl) (by rfl) (by rfl) (by rfl) ?_;simp only[wt,seval];refine ah (g1) (by rfl) (by simp) ?_;simp (disch:=omega) only[wt,seval];refine ah (g2) (by rfl) (by simp) ?_;simp (disch:=omega) only[wt,seval];refine ah (n2) (by rfl) (by simp) ?_;simp (disch:=omega) only[wt,seval,rqs,hBl,hb']
  try rfl
 have hb':¬((B.length:Nat):Int)=0:=by omega
 rw[zam hb,zam hb];by_cases hg:(bzg A B).length=1
 .have hg':(((bzg A B).length:Nat):Int)=1:=by omega
  rw[zas hg,zas hg];refine AC.aj (rs:=[.tmp 4,.tmp 5]) aV zfB (by rfl) (by rfl) (by rfl) (by rfl) (by rfl) ?_;simp only[wt,seval];refine ah (g1) (by rfl) (by simp) ?_;simp (disch:=omega) only[wt,seval];refine ah (g2) (by rfl) (by simp) ?_;simp (disch:=omega) only[wt,seval];refine ah (n2) (by rfl) (by simp) ?_;simp (disch:=omega) only[wt,seval,rqs,hBl,hb'];refine ah (bz) (by rfl) (by simp) ?_;simp (disch:=omega) only[wt,seval,rqs,gml,hg']
  try rfl
 .have hg':¬(((bzg A B).length:Nat):Int)=1:=by omega
  rw[zam hg,zam hg];refine AC.aj (rs:=[.tmp 4,.tmp 5]) aV zfB (by rfl) (by rfl) (by rfl) (by rfl) (by rfl) ?_;simp only[wt,seval];refine ah (g1) (by rfl) (by simp) ?_;simp (disch:=omega) only[wt,seval];refine ah (g2) (by rfl) (by simp) ?_;simp (disch:=omega) only[wt,seval];refine ah (n2) (by rfl) (by simp) ?_;simp (disch:=omega) only[wt,seval,rqs,hBl,hb'];refine ah (bz) (by rfl) (by simp) ?_;simp (disch:=omega) only[wt,seval,rqs,gml,hg']
  try rfl
def a4O (p r:List RQ)(hp:BQ 7 1 p)(hr:BQ 7 1 r)(h:gd p=false\/gd r=false):AC Tryz.prog 169 [cqw p,cqw r] none [cqw [],ci 1]:=by
 have g1:=DY p (hp.mono (by omega) (by omega));have g2:=DY r (hr.mono (by omega) (by omega));cases hg:gd p with
 |false =>
  rw[hg]at g1;refine AC.aj (rs:=[.tmp 4,.tmp 5]) aV zfB (by rfl) (by rfl) (by rfl) (by rfl) (by rfl) ?_;simp only[wt,seval];refine ah (g1) (by rfl) (by simp) ?_;simp (disch:=omega) only[wt,seval,rqs]
  try rfl
 |true =>
  rw[hg]at g1;rw[h.resolve_left (by rw[hg];decide)]at g2;refine AC.aj (rs:=[.tmp 4,.tmp 5]) aV zfB (by rfl) (by rfl) (by rfl) (by rfl) (by rfl) ?_;simp only[wt,seval];refine ah (g1) (by rfl) (by simp) ?_;simp (disch:=omega) only[wt,seval];refine ah (g2) (by rfl) (by simp) ?_;simp (disch:=omega) only[wt,seval,rqs]
  try rfl
theorem fq1_bq {p:List RQ}(h:YS p):BQ 7 1 (fq1 p):=⟨by simp[fq1];omega,λc hc=>by
 obtain⟨d,hd,rfl⟩:=zaw.1 hc;have k:=h.2 d (za0 hd);refine⟨⟨?_,λx hx=>k.1.2 x (za0 hx)⟩,?_,λx hx=>k.2.2 x (za0 hx)⟩
 .simp[fr1];omega
 .simp[fr1];omega⟩
structure BB (A B:List Rat):Prop where
 g:BQ (2^40) (2^40) ((bzg A B).map aN)
 u:BQ (2^40) (2^40) ((bzu A B).map aN)
 v:BQ (2^40) (2^40) ((bzv A B).map aN)
 i:BQ (2^40) (2^40) (ivl A B)
theorem a1J (n k:Nat):BQ n k []:=⟨za4 _,λc hc=>nomatch hc⟩
structure BS (A B:List Rat):Prop where
 g:CX 14 300000 (bzg A B)
 u:CX 7 487000000 (bzu A B)
 v:CX 14 14700000000 (bzv A B)
def b7E {A B:List Rat}(hA:CX 7 9 A)(hB:CX 7 9 B)(tA:au A=A)(tB:au B=B):BS A B:=by
 by_cases hb:B.length=0
 .by_cases ha:A.length=0
  .refine⟨by rw[show bzg A B=[] by rw[bzg,zas hb,zas ha]];exact Qu _ _ (by omega),by rw[show bzu A B=[] by rw[bzu,zas hb,zas ha]];exact Qu _ _ (by omega),by rw[show bzv A B=[] by rw[bzv,zas hb]];exact Qu _ _ (by omega)⟩
  .have lz:qz (lq A)<=9:=hA.qb.cz (by omega) _;have kz:qz (1/lq A)<=9:=zad (OW _) lz;have ck:CX 1 9 [1/lq A]:=⟨_,CB.const kz⟩;refine⟨?_,?_,by rw[show bzv A B=[] by rw[bzv,zas hb]];exact Qu _ _ (by omega)⟩
   .rw[show bzg A B=au (gJ [1/lq A] A) by rw[bzg,zas hb,zam ha]];exact((ck.mul hA).trim).mono (by omega) (by omega)
   .rw[show bzu A B=[1/lq A] by rw[bzu,zas hb,zam ha]];exact ck.mono (by omega) (by omega)
 .have F:=Tn hA hB tA tB hb;refine⟨F.g.mono (by omega) (by omega),F.uc,?_⟩;rw[show bzv A B=qs (bzr A B) B by rw[bzv,zam hb]];exact((Y3 F.v F.r.qb.1).1.cx).mono (by omega) (by omega)
def b2D (p:List (List RI)):Prop:=p.length<=9223372036854775807/\∀c∈p,Raw c
def a5H (a b:Rat)(c:RQ)(K:Nat)(ha:qz a<=K)(hc:SzQ K c)(h0:nv c.2≠0)(hK:K<=2^35):ACX Tryz.prog 217 [cqz a,cqz b,.box (pW c)] (a4r (aN (a*qv c)) 0):=by
 have m:=VI (aN a) c (cO (by omega)) (hc.mono hK) (cZ _) h0;rw[eF]at m;refine ACX.aj zi0 (rs:=[.cell 5 32,.tmp 6]) aV Tryz.func217 (by rfl) (by rfl) (by rfl) (by rfl) (by rfl) (GY _ _) (λB0=>?_);simp (disch:=omega) only[wt,seval,rqs];refine aJ (m) (by rfl) (by simp) (by rfl) ?_;rintro B1 E1 _ hB1 hE1 ⟨b1,c1,rfl,hb1⟩;simp (disch:=omega) only[wt,seval,fZ];refine aQ [.agg (frq b1 c1 (aN (a*qv c))),ci 0] (by rfl) (by simp (disch:=omega) only[wt,seval,dK]) ?_;intro E hE;exact⟨b1,c1,rfl,hb1.mono hB1 (by omega)⟩
theorem Y8 (p q:List RQ)(g:Nat)(row:List IV)(F:Rat->Rat->Rat)(K:Nat)(hp:GQ (2^30) K p)(hq:GQ (2^30) K q)(hK:K<=2^35)(hK1:1<=K)(hF0:F 0 0=0)(hs:∀a b,qz a<=K->qz b<=K->qz (F a b)<=2^38)
  (hop:∀a b,qz a<=K->qz b<=K->ACX Tryz.prog g [cqz a,cqz b,.box row] (a4r (aN (F a b)) 0)):ACX Tryz.prog 86 [cqw p,cqw q,.fn g [row]] (RQp (cqs (FW F (qvs p) (qvs q))) 0):=by
 have m:=EY p q (hp.mono (by omega) (by omega)) (hq.mono (by omega) (by omega));have hA:=hp.qb.au;have hB:=hq.qb.au;have e:cqs (FW F (qvs p) (qvs q))=cqs (FW F (au (qvs p)) (au (qvs q))):=(vC λk=>by rw[jw hF0,jw hF0,dQ,dQ]);rw[e];refine ACX.aj zi0 (rs:=[.tmp 6,.tmp 7]) aV Tryz.func86 (by rfl) (by rfl) (by rfl) (by rfl) (by rfl) (EJ _ _) (λB0=>?_);simp only[wt,seval];refine ah (m) (by rfl) (by simp) ?_;simp (disch:=omega) only[wt,seval,rqs];have ua:cqs (qvs p)=(au (qvs p)).map aN:=rfl;have ub:cqs (qvs q)=(au (qvs q)).map aN:=rfl;rw[ua,ub];clear ua ub m e;generalize au (qvs p)=A at *;generalize au (qvs q)=B at *;have hAl:=hA.1;have hBl:=hB.1;have hqa:(A.map aN).length=A.length:=zae _;have hqb:(B.map aN).length=B.length:=zae _;have hRl:=zS F A B;have hR:QB (2^40) (2^38) (FW F A B):=.of (by omega) λi=>by rw[jw hF0];exact hs _ _ (hA.cz hK1 i) (hB.cz hK1 i)
 obtain⟨n,hn⟩:∃n,n=max A.length B.length:=⟨_,rfl⟩;have hnI:max (A.length:Int) (B.length:Int)=(n:Int):=by omega
 rw[<-hn]at hRl;simp only[seval,hqa,hqb,hnI];have hRL:=hRl;generalize hX:FW F A B=X at *;have hcx:∀k,cfq X k=F (cfq A k) (cfq B k):=λk=>by rw[<-hX,jw hF0]
 refine bU 11 11 32 3 (by simp only[wt,seval]) (λf H=>∃(i st:Nat) (bs:List (OB×OB)) (E:Nat),i<=n/\bs.length=i/\B0<=E/\Nw B0 E (idq bs)/\f 30=.iv (.int .i64 i)/\f 29=.iv (.int .i64 n)/\f 8=.iv (.sl (dN (A.map aN)))/\f 9=.iv (.sl (dN (B.map aN)))/\f 2=.fn g [.ip row]/\f 11=.hs 11 st/\H 11=.blk false st 32 3 (bV bs ((X.take i).map aN))/\H 999=.mrk E) (λf H=>(n-bC f 30).toNat) ?_ ?_
 .refine⟨0,1,[],B0,by omega,rfl,zab _,.nil _ _,?_⟩;simp only[wt,seval,fJ,fH,zaj];rfl
 rintro f H ⟨i,st,bs,E,hi,hbs,hBE,hnw,h30,h29,h8,h9,h2,h11,hH,Oa⟩;rw[aC h30];simp (disch:=omega) only[wt,seval,h30,h29];have hq:((X.take i).map aN).length=i:=by rw[zae,zah];omega
 have hql:(bV bs ((X.take i).map aN)).length=i:=by rw[eX (by omega),hq]
 refine bf (λhlt=>?_) (λhlt=>?_)
 .have c1:=AO A i (hA.mono (by omega) (by omega));have c2:=AO B i (hB.mono (by omega) (by omega));have o:=hop (cfq A i) (cfq B i) (hA.cz hK1 i) (hB.cz hK1 i);rw[<-hcx]at o;simp (disch:=omega) only[wt,seval,h30,h8,h2];refine ah (c1) (by rfl) (by simp) ?_;simp (disch:=omega) only[wt,seval,h9];refine ah (c2) (by rfl) (by simp) ?_;simp (disch:=omega) only[wt,seval];refine aJ (o) (by rfl) (by simp) (by assumption) ?_;rintro B' E' _ hB1 hE1 ⟨b,c,rfl,hb⟩;simp (disch:=omega) only[wt,seval,fZ,dK,h30,h29,h8,h9,h2,h11,hH,hql];have e:=jR (q:=X) (i:=i) (by omega);refine⟨⟨i+1,st+1,bs++[(b,c)],E',by omega,by simp[hbs],by omega,?_,by omega,rfl,?_,rfl⟩,by omega⟩
  .rw[Fg];exact hnw.append hb (by omega) hB1 (by omega)
  .rw[e,zav,uV (by omega)];rfl
 .simp (disch:=omega) only[wt,seval,h11];obtain rfl:i=n:=by omega
  rw[zac (by omega)]at hH;have t:=xW X bs (by omega) hR;refine yD (t) (by first|rfl|(simp only[wt,seval,rqs,gW,fM,iU,fZ,dK,dJ,h30,h29,h8,h9,h2,h11,hH,Oa];done)) (by first|rfl|(simp only[seval,hH];done)) (by rfl) (by simp) (by simp) ?_;simp only[wt,seval];refine AY 6 11 _ 32 3 ((bV (bs.take (tzq X)) (cqs X))) (by first|rfl|assumption|simp only[wt,seval,rqs,gW,fM,iU,fZ,dK,dJ]) (by first|rfl|assumption|simp only[wt,seval,rqs,gW,fM,iU,fZ,dK,dJ]) (by assumption) ?_;rintro b E2 hE2 hb;refine aQ [.iv (fqp b (bs.take (tzq X)) (cqs X)),ci 0] (by rfl) (by simp (disch:=omega) only[wt,seval]) ?_;intro E hE;obtain⟨e1,e2⟩:=VG (by omega) hnw hE2 (λg cap e=>⟨(hb.2 g cap e).1,(hb.2 g cap e).2.1,(hb.2 g cap e).2.2.1⟩);exact⟨b,_,rfl,e1,e2.mono (zab _) hE⟩
def JX (p:List RQ)(c:RQ)(K:Nat)(hp:GQ (2^30) K p)(hc:SzQ K c)(h0:nv c.2≠0)(hK:K<=2^35)(hK1:1<=K):ACX Tryz.prog 138 [cqw p,cqq c] (RQp (cqs (nG (qv c) (qvs p))) 0):=by
 have k:=qx c ⟨zad hc.2.1 (by omega),hc.2.2⟩ h0;have zc:=JV hc h0;have m:=Y8 p [] 217 (pW c) (λa _=>a*qv c) K hp ⟨za4 _,λr hr=>nomatch hr⟩ hK hK1 (zbG _) (λa b ha hb=>by have:=Gw a (qv c);omega) (λa b ha hb=>a5H a b c K ha hc h0 hK);rw[show cqs (FW (λa _=>a*qv c) (qvs p) (qvs []))=cqs (nG (qv c) (qvs p)) from (vC λj=>by rw[jw (F:=λa _=>a*qv c) (zbG _),iw])]at m;refine ACX.aj zi0 (rs:=[.tmp 4,.tmp 5]) aV Tryz.func138 (by rfl) (by rfl) (by rfl) (by rfl) (by rfl) (EJ _ _) (λB=>?_);simp (disch:=omega) only[wt,seval,rqs];refine ah (k) (by rfl) (by simp) ?_;simp (disch:=omega) only[wt,seval];refine aJ (m) (by rfl) (by simp) (by rfl) ?_;rintro B' E _ hB hE ⟨b,bs,rfl,hl,hn⟩;simp (disch:=omega) only[wt,seval];refine aQ [.iv (fqp b bs (cqs (nG (qv c) (qvs p)))),ci 0] (by rfl) (by simp (disch:=omega) only[wt,seval]) ?_;intro E hE;exact⟨b,bs,rfl,hl,hn.mono hB (by omega)⟩
theorem a0O (p:List RQ)(c:RQ)(K:Nat)(hp:GQ (2^30) K p)(hc:SzQ K c)(h0:nv c.2≠0)(hK:K<=2^35)(hK1:1<=K):AC Tryz.prog 138 [cqw p,cqq c] none [cqp (nG (qv c) (qvs p)),ci 0] :=
 b0O (JX p c K hp hc h0 hK hK1)
def b0F {A:List Rat}{n M:Nat}{k:Rat}(hA:CX n M A)(hk:qz k<=2^32)(hn:n<=1000)(hM:M<=2^32):AC Tryz.prog 138 [cqw (A.map aN),cqz k] none [cqp (nG k A),ci 0]:=by
 have m:=a0O (A.map aN) (aN k) (2^32) (hA.qb.gq.mono (by omega) hM) (cO hk) (cZ _) (by omega) (by omega);rwa [dG,eF]at m
section
variable {A:List Rat} {n M:Nat}
def a0U (r:RQ)(h:SzQ (2^38) r)(h0:nv r.2≠0):ACX Tryz.prog 228 [cqq r,ci 0] (RQp (cqs (uQ (qv r) 0)) 0):=by
 have m:=GH r h h0;have t:=xW (uQ (qv r) 0);have hQ:QB (2^40) (2^38) (uQ (qv r) 0):=(VA (n:=0) (JV h h0) (by omega)).mono (by omega) (zab _);refine ACX.aj zi0 (rs:=[.tmp 4,.tmp 5]) aV Tryz.func228 (by rfl) (by rfl) (by rfl) (by rfl) (by rfl) (EJ _ _) (λB0=>?_);simp (disch:=omega) only[wt,seval,rqs];refine aJ (m) (by rfl) (by simp) (by rfl) ?_;rintro B1 E1 _ hB1 hE1 ⟨b1,c1,rfl,w1⟩;simp (disch:=omega) only[wt,seval,fZ];refine aI (λf H=>∃(st6:Nat),f 26=.iv (.int .i64 0)/\f 25=.iv (.int .i64 0)/\f 6=.hp 6 st6 0 0/\H 6=.blk false st6 32 3 [frq b1 c1 (aN (qv r))]/\f 8=.vY/\H 999=.mrk E1) (λf H=>0) ?_ ?_
 .refine⟨1,?_⟩;simp only[wt,seval]
  try (repeat' apply zaa)<;>first|rfl|omega
 rintro f H ⟨st6,g26,g25,g6,h6,g8,hm⟩;simp (disch:=omega) only[wt,seval,dK,g26,g25,g6,h6,g8];have t2:=t [(b1,c1)] rfl hQ;have e:bV [(b1,c1)] ((uQ (qv r) 0).map aN)=[frq b1 c1 (aN (qv r))]:=rfl;rw[e]at t2;refine yD (t2) (by first|rfl|(simp only[wt,seval,rqs,gW,fM,iU,fZ,dK,dJ,g26,g25,g6,h6,g8,hm];done)) (by first|rfl|(simp only[wt,seval,rqs,gW,fM,iU,fZ,dK,dJ,g26,g25,g6,h6,g8,hm];done)) (by rfl) (by simp) (by simp) ?_;simp only[wt,seval];refine AY 4 36 _ 32 3 ((bV ([(b1,c1)].take (tzq (uQ (qv r) 0))) (cqs (uQ (qv r) 0)))) (by first|rfl|assumption|simp only[wt,seval,rqs,gW,fM,iU,fZ,dK,dJ]) (by first|rfl|assumption|simp only[wt,seval,rqs,gW,fM,iU,fZ,dK,dJ]) (by assumption) ?_;rintro b E2 hE2 hb;refine aQ [.iv (fqp b ([(b1,c1)].take (tzq (uQ (qv r) 0))) (cqs (uQ (qv r) 0))),ci 0] (by rfl) (by simp (disch:=omega) only[wt,seval]) ?_;intro E hE;have hn:Nw B0 E1 (idq [(b1,c1)]):=by
  have:idq [(b1,c1)]=oid b1++oid c1:=by simp[idq]
  rw[this];exact w1.mono hB1 (zab _)
 obtain⟨e1,e2⟩:=VG rfl hn hE2 (λg cap e=>⟨(hb.2 g cap e).1,(hb.2 g cap e).2.1,(hb.2 g cap e).2.2.1⟩);exact⟨b,_,rfl,e1,e2.mono (zab _) hE⟩
def b6h (a b c:List RQ)(e:Int)(B E:Nat)(res:List CV):Prop:=∃x xs y ys z zs,res=[.iv (fqp x xs a),.iv (fqp y ys b),.iv (fqp z zs c),ci e]/\xs.length=a.length/\ys.length=b.length/\zs.length=c.length/\Nw B E ((oid x++idq xs)++((oid y++idq ys)++(oid z++idq zs)))
theorem PO (a b c:List RQ)(e:Int)(B:Nat):∃E res,B<=E/\b6h a b c e B E res:=⟨B,_,zab _,none,List.replicate a.length (none,none),none,List.replicate b.length (none,none),none,List.replicate c.length (none,none),rfl,by simp,by simp,by simp,by rw[ou,ou,ou];exact .nil _ _⟩
def RQl (l:List RQ)(B E:Nat)(res:List CV):Prop:=∃b bs,res=[.iv (fqp b bs l)]/\bs.length=l.length/\Nw B E (oid b++idq bs)
theorem b6W (l:List RQ)(B:Nat):∃E res,B<=E/\RQl l B E res:=⟨B,_,zab _,none,List.replicate l.length (none,none),rfl,by simp,by rw[ou];exact .nil _ _⟩
def b4i {B:List Rat}{k:Nat}(hA:QB 1 k A)(hB:QB n k B)(hn:n<=1000)(hk:k<=2^20):ACX Tryz.prog 231 [cqw (A.map aN),cqw (B.map aN)] (RQl (cqs (gJ A B))):=by
 have m:=a0T (A.map aN) (B.map aN) 1000 (2^20) (hA.gq.mono (by omega) hk) (hB.gq.mono hn hk) (by omega) (by omega) (by omega);rw[dG,dG]at m;refine ACX.aj zi0 (rs:=[.tmp 4]) aV Tryz.func231 (by rfl) (by rfl) (by rfl) (by rfl) (by rfl) (b6W _) (λB0=>?_);simp only[wt,seval];refine aJ (m) (by rfl) (by simp) (by rfl) ?_;rintro B' E _ hB hE ⟨b,bs,rfl,hl,hn⟩;simp (disch:=omega) only[wt,seval];refine aQ [.iv (fqp b bs (cqs (gJ A B)))] (by rfl) (by simp (disch:=omega) only[wt,seval]) ?_;intro E hE;exact⟨b,bs,rfl,hl,hn.mono hB (by omega)⟩
def a8M {X Y:List Rat}{m N K:Nat}(v:DV X Y (qnn X Y) K)(hX:CX n M X)(hY:CX m N Y)(hn:n<=1000)(hm:m<=1000)(hM:M<=2^32)(hN:N<=2^32):ACX Tryz.prog 16 [cqw (X.map aN),cqw (Y.map aN)] (b3d ((qs X Y).map aN) ((qr X Y).map aN) 0):=by
 have m:=VK (X.map aN) (Y.map aN) (hX.qb.gq.mono (by omega) hM) (hY.qb.gq.mono (by omega) hN) (qnn X Y) K (by rw[dG,dG,v.ta,v.tb];exact v);rw[dG,dG,v.ta,v.tb]at m;exact m
def a5S {k:Rat}(hA:CX n M A)(hk:qz k<=2^32)(hn:n<=1000)(hM:M<=2^32):ACX Tryz.prog 138 [cqw (A.map aN),cqz k] (RQp (cqs (nG k A)) 0):=by
 have m:=JX (A.map aN) (aN k) (2^32) (hA.qb.gq.mono (by omega) hM) (cO hk) (cZ _) (by omega) (by omega);rwa [dG,eF]at m
set_option maxHeartbeats 1000000 in
def F8 (p q:List RQ)(hp:GQ 7 1 p)(hq:GQ 7 1 q):ACX Tryz.prog 149 [cqw p,cqw q] (b6h ((bzg (au (qvs p)) (au (qvs q))).map aN) ((bzu (au (qvs p)) (au (qvs q))).map aN) ((bzv (au (qvs p)) (au (qvs q))).map aN) 0):=by
 have hA:=yP hp;have hB:=yP hq;have tA:=aZ (qvs p);have tB:=aZ (qvs q);have n1:=wU p (hp.mono (by omega) (by omega));have n2:=wU q (hq.mono (by omega) (by omega));have gd2:=F7 [p,q] (by simp) (by
  simp only[List.mem_cons,List.not_mem_nil,or_false,forall_eq_or_imp,forall_eq];exact⟨hp.bq.mono (by omega) (by omega),hq.bq.mono (by omega) (by omega)⟩) [[.sl (dN p)],[.sl (dN q)]] rfl
 rw[if_pos (by rw[List.all_cons,List.all_cons,List.all_nil,Ef.mpr λr hr=>(hp.2 r hr).2,Ef.mpr λr hr=>(hq.2 r hr).2];rfl)]at gd2;rw[show cqp (qvs p)=cqw ((au (qvs p)).map aN) from rfl]at n1;rw[show cqp (qvs q)=cqw ((au (qvs q)).map aN) from rfl]at n2;have zo:=Zj 1 (by omega) (by omega);have no:=PL 1 (by simp only[W];omega);have mo:=a5N (aN 1) 0 (cO (by rw[OU];omega)) (cZ _) (by omega);rw[eF,show cqp (uQ 1 0)=cqw (([1]:List Rat).map aN) from congrArg cqw (by rw[cqs,show au (uQ 1 0)=[1] by decide +kernel])]at mo;generalize au (qvs p)=A at *;generalize au (qvs q)=B at *;have hAl:(A.map aN).length=A.length:=List.length_map _;have hBl:(B.map aN).length=B.length:=List.length_map _;by_cases hb:B.length=0
 .have hb':((B.length:Nat):Int)=0:=by omega
  by_cases ha:A.length=0
  .have ha':((A.length:Nat):Int)=0:=by omega
   rw[bzg,bzu,bzv,if_pos hb,if_pos hb,if_pos hb,if_pos ha,if_pos ha];refine ACX.aj zi0 (rs:=[.tmp 4,.tmp 5,.tmp 6,.tmp 7]) aV Tryz.func149 (by rfl) (by rfl) (by rfl) (by rfl) (by rfl) (PO _ _ _ _) (λB0=>?_);simp (disch:=omega) only[wt,seval];refine ah (gd2) (by rfl) (by simp) ?_;simp (disch:=omega) only[wt,seval];refine ah (n1) (by rfl) (by simp) ?_;simp (disch:=omega) only[wt,seval];refine ah (n2) (by rfl) (by simp) ?_;simp (disch:=omega) only[wt,seval,rqs,hAl,hBl,ha',hb'];refine dO 4 32 3 (by rfl) ?_;refine dO 5 32 3 (by rfl) ?_;refine dO 6 32 3 (by rfl) ?_;refine aQ [.iv (fqp none [] []),.iv (fqp none [] []),.iv (fqp none [] []),ci 0] (by rfl) (by simp (disch:=omega) only[wt,seval];repeat' (first|rfl|apply And.intro)) ?_;intro E hE;exact⟨none,[],none,[],none,[],rfl,rfl,rfl,rfl,.nil _ _⟩
  .have ha':¬((A.length:Nat):Int)=0:=by omega
   rw[bzg,bzu,bzv,if_pos hb,if_pos hb,if_pos hb,if_neg ha,if_neg ha];have l0:=MX tA ha;have lz:qz (lq A)<=9:=hA.qb.cz (by omega) _;have ld:=a8J hA tA ha (by omega) (by omega);have iv:=a2i l0 (by omega);have kz:qz (1/lq A)<=9:=Nat.le_trans (OW _) lz;have mo2:=a0U (aN (1/lq A)) (cO (by omega)) (cZ _);have k0:1/lq A≠0:=λe=>by
    have h1:=Rat.div_mul_cancel (a:=1) l0;rw[e,Rat.zero_mul]at h1;exact absurd h1 (by decide)
   have t1:au (uQ (1/lq A) 0)=[1/lq A]:=Ll k0 0;rw[eF,show cqs (uQ (1/lq A) 0)=([1/lq A]:List Rat).map aN from (by rw[cqs,t1])]at mo2;have ck:CX 1 9 [1/lq A]:=⟨_,CB.const kz⟩;have mu:=b4i ck.qb hA.qb (by omega) (by omega);refine ACX.aj zi0 (rs:=[.tmp 4,.tmp 5,.tmp 6,.tmp 7]) aV Tryz.func149 (by rfl) (by rfl) (by rfl) (by rfl) (by rfl) (PO _ _ _ _) (λB0=>?_);simp (disch:=omega) only[wt,seval];refine ah (gd2) (by rfl) (by simp) ?_;simp (disch:=omega) only[wt,seval];refine ah (n1) (by rfl) (by simp) ?_;simp (disch:=omega) only[wt,seval];refine ah (n2) (by rfl) (by simp) ?_;simp (disch:=omega) only[wt,seval,rqs,hAl,hBl,ha',hb'];refine ah (ld) (by rfl) (by simp) ?_;simp only[wt,seval];refine ah (iv) (by rfl) (by simp) ?_;simp only[wt,seval];refine aJ (mo2) (by rfl) (by simp) (by rfl) ?_;rintro B1 E1 _ hB1 hE1 ⟨b1,c1,rfl,l1,w1⟩;simp (disch:=omega) only[wt,seval];have mu2:=mu.soft (.cons (iD (b:=b1) l1) (.cons (.refl _) .nil));refine aJ (mu2) (by rfl) (by simp) (by rfl) ?_;rintro B2 E2 _ hB2 hE2 ⟨b2,c2,rfl,l2,w2⟩;simp only[wt,seval];refine dO 6 32 3 (by rfl) ?_;refine aQ [.iv (fqp b2 c2 (cqs (gJ [1/lq A] A))),.iv (fqp b1 c1 ([1/lq A].map aN)),.iv (fqp none [] []),ci 0] (by rfl) (by simp (disch:=omega) only[wt,seval];repeat' (first|rfl|apply And.intro)) ?_;intro E hE;refine⟨b2,c2,b1,c1,none,[],rfl,l2,l1,rfl,?_⟩;have:=w1.append w2 (by omega) (by omega) (by omega);refine(this.perm ?_).mono (by omega) (by omega);simp only[oid,idq,List.flatMap_nil,List.append_nil];exact List.perm_append_comm
 have hb':¬((B.length:Nat):Int)=0:=by omega
 have F:=Tn hA hB tA tB hb;have E:=NH hA hB tA tB hb;have ld:=a8J E.c E.t E.l (by omega) (by omega);have iv:=a2i F.k0 (Nat.le_trans F.lz (by omega));have sc1:=a5S E.c (Nat.le_trans F.kz (by omega)) (by omega) (by omega);have sc2:=b0F E.cu (Nat.le_trans F.kz (by omega)) (by omega) (by omega);rw[show cqs (nG (1/lq (bzs A B).1) (bzs A B).1)=(bzg A B).map aN from (by rw[cqs,bzg,if_neg hb])]at sc1;rw[show cqp (nG (1/lq (bzs A B).1) (bzs A B).2)=cqw ((bzw A B).map aN) from rfl]at sc2;have d1:=b0R F.m hB F.g (by omega) (by omega) (by omega) (by omega);have d2:=a8M F.u F.w F.mc (by omega) (by omega) (by omega) (by omega);rw[show qr (bzw A B) (qs B (bzg A B))=bzu A B by rw[bzu,if_neg hb]]at d2;have mu:=b0N F.uc hA (by omega) (by omega) (by omega) (by omega);have su:=b0D F.g ((F.uc.mul hA).trim) (by omega) (by omega) (by omega) (by omega);rw[show cqp (LH (bzg A B) (au (gJ (bzu A B) A)))=cqw ((bzr A B).map aN) from rfl]at su;have d3:=a8M F.v F.r hB (by omega) (by omega) (by omega) (by omega);rw[show qs (bzr A B) B=bzv A B by rw[bzv,if_neg hb]]at d3;have hXU:bzs A B=qeu 9 B A [] [1]:=rfl;have qi0:=EX hA hB tA tB;have c0n:=hA.qb.1;clear F E;generalize bzg A B=g at *;generalize bzw A B=w at *;generalize bzu A B=u at *;generalize bzr A B=r at *;generalize bzv A B=vv at *;by_cases ha:A.length=0
 .have ha':((A.length:Nat):Int)=0:=by omega
  refine ACX.aj zi0 (rs:=[.tmp 4,.tmp 5,.tmp 6,.tmp 7]) aV Tryz.func149 (by rfl) (by rfl) (by rfl) (by rfl) (by rfl) (PO _ _ _ _) (λB0=>?_);simp (disch:=omega) only[wt,seval];refine ah (gd2) (by rfl) (by simp) ?_;simp (disch:=omega) only[wt,seval];refine ah (n1) (by rfl) (by simp) ?_;simp (disch:=omega) only[wt,seval];refine ah (n2) (by rfl) (by simp) ?_;simp (disch:=omega) only[wt,seval,rqs,hAl,hBl,hb',ha'];refine ah (zo) (by rfl) (by simp) ?_;simp only[wt,seval];refine ah (no) (by rfl) (by simp) ?_;simp (disch:=omega) only[wt,seval,rqs];refine ah (mo) (by rfl) (by simp) ?_;simp (disch:=omega) only[wt,seval];refine rZ (.b5Q 13 (by simp only[wt,seval]) (.refl _ _)) (λf H=>∃(n j:Nat) (X Y U V:List Rat),qeu n X Y U V=bzs A B/\Y.length+1<=n/\j+n<=9/\QI 7 9 X Y/\QU j U V/\f 0=.iv (.sl (dN (A.map aN)))/\f 1=.iv (.sl (dN (B.map aN)))/\f 11=.iv (.sl (dN (X.map aN)))/\f 12=.iv (.sl (dN (Y.map aN)))/\f 13=.iv (.sl (dN (U.map aN)))/\f 14=.iv (.sl (dN (V.map aN)))/\H 999=.mrk B0) (λf H=>match f 12 with | .iv (.sl l)=>l.length|_=>0) ?_ ?_
  .refine⟨9,0,B,A,[],[1],hXU.symm,by omega,by omega,qi0,qu0,?_⟩;simp only[wt,seval,rqs]
   try (repeat' apply And.intro)<;>first|rfl|omega
  rintro f H ⟨n,j,X,Y,U,V,hq1,hn,hj,qi,qu,hF⟩;have hYl:(Y.map aN).length=Y.length:=List.length_map _;have hmu:(match f 12 with | .iv (.sl l)=>l.length|_=>0)=Y.length:=by rw[hF.2.2.2.1];simp only[];rw[uK,hYl]
  rw[hmu];obtain⟨n',rfl⟩:∃n',n=n'+1:=⟨n-1,by omega⟩;rw[qeu]at hq1;by_cases hy:Y.length=0
  .rw[if_pos hy]at hq1;have hy':¬(0:Int)<((Y.length:Nat):Int):=by omega
   have e1:X=(bzs A B).1:=by rw[<-hq1]
   have e2:U=(bzs A B).2:=by rw[<-hq1]
   subst e1 e2;simp (disch:=omega) only[wt,seval,rqs,hF,hYl,hy'];refine ah (ld) (by rfl) (by simp) ?_;simp only[wt,seval];refine ah (iv) (by rfl) (by simp) ?_;simp (disch:=omega) only[wt,seval,rqs,hF];refine aJ (sc1) (by rfl) (by simp) (by first|rfl|assumption|(simp only[wt,seval,hF];done)|((repeat (replace hF:=hF.2));exact hF)) ?_;rintro B1 E1 _ hB1 hE1 ⟨b1,c1,rfl,l1,w1⟩;simp (disch:=omega) only[wt,seval,rqs,hF];have d1':=d1.soft (.cons (.refl _) (.cons (iD (b:=b1) l1) .nil));have su':=λ(b2:OB) (c2:List (OB×OB)) (l2:c2.length=(u.map aN).length)=>mu.soft (.cons (iD (b:=b2) l2) (.cons (.refl _) .nil))
   have sv':=su.soft (.cons (iD (b:=b1) l1) (.cons (.refl _) .nil));refine ah (sc2) (by rfl) (by simp) ?_;simp (disch:=omega) only[wt,seval,hF];have d1q:=d1';refine ah (d1q) (by rfl) (by simp) ?_;simp (disch:=omega) only[wt,seval];refine aJ (d2) (by rfl) (by simp) (by rfl) ?_;rintro B2 E2 _ hB2 hE2 ⟨b9,c9,b2,c2,rfl,l9,l2,w2⟩;simp (disch:=omega) only[wt,seval,hF];have muq:=su' b2 c2 l2;have svq:=sv';refine ah (muq) (by rfl) (by simp) ?_;simp only[wt,seval];refine ah (svq) (by rfl) (by simp) ?_;simp only[wt,seval,hF];refine aJ (d3) (by rfl) (by simp) (by rfl) ?_;rintro B3 E3 _ hB3 hE3 ⟨b3,c3,b8,c8,rfl,l3,l8,w3⟩;simp (disch:=omega) only[wt,seval];refine aQ [.iv (fqp b1 c1 (g.map aN)),.iv (fqp b2 c2 (u.map aN)),.iv (fqp b3 c3 (vv.map aN)),ci 0] (by rfl) (by simp (disch:=omega) only[wt,seval];repeat' (first|rfl|apply And.intro)) ?_;intro E hE;exact⟨b1,c1,b2,c2,b3,c3,rfl,l1,l2,l3,(w1.append ((a1B w2).append (Yi w3) (by omega) (by omega) (by omega)) (by omega) (by omega) (by omega)).mono (by omega) (by omega)⟩
  .rw[if_neg hy]at hq1;have hy':(0:Int)<((Y.length:Nat):Int):=by omega
   have v:=qi.dv hy;obtain⟨b1,b2⟩:=qi.bd;rw[b1O]at b1 b2;have dv:=b0R v b1 b2 (by omega) (by omega) (by omega) (by omega);obtain⟨s1,s2⟩:=Y3 v qi.x;have ub:=UB.le (show j<=9 by omega);have u9:=ub8;have m1:=b0N s1.cx (qu.v.mono (show 8*j+1<=73 by omega) (show UB j<=400000000 by omega)) (by omega) (by omega) (by omega) (by omega);have mc:=(s1.cx.mul (qu.v.mono (show 8*j+1<=73 by omega) (show UB j<=400000000 by omega))).trim;have s3:=b0D (qu.u.mono (show 8*j+1<=73 by omega) (show UB j<=400000000 by omega)) mc (by omega) (by omega) (by omega) (by omega);rw[show cqp (LH U (au (gJ (qs X Y) V)))=cqw ((zY X Y U V).map aN) from congrArg cqw (by
    rw[cqs,zY]
    congr 1
    exact jk λk=>by rw[pO,pO,dQ])]at s3
   have hr:=(lY v).1;simp (disch:=omega) only[wt,seval,rqs,hF,hYl,hy'];refine ah (dv) (by rfl) (by simp) ?_;simp (disch:=omega) only[wt,seval,hF];refine ah (m1) (by rfl) (by simp) ?_;simp (disch:=omega) only[wt,seval];refine ah (s3) (by rfl) (by simp) ?_;simp (disch:=omega) only[wt,seval,rqs,hF];refine⟨⟨n',j+1,Y,qr X Y,V,zY X Y U V,hq1,by omega,by omega,qi.step v,qu.step qi hy (by omega),?_⟩,?_⟩
   .try (repeat' apply And.intro)<;>first|rfl|omega
   .rw[List.length_map];exact hr
 .have ha':¬((A.length:Nat):Int)=0:=by omega
  refine ACX.aj zi0 (rs:=[.tmp 4,.tmp 5,.tmp 6,.tmp 7]) aV Tryz.func149 (by rfl) (by rfl) (by rfl) (by rfl) (by rfl) (PO _ _ _ _) (λB0=>?_);simp (disch:=omega) only[wt,seval];refine ah (gd2) (by rfl) (by simp) ?_;simp (disch:=omega) only[wt,seval];refine ah (n1) (by rfl) (by simp) ?_;simp (disch:=omega) only[wt,seval];refine ah (n2) (by rfl) (by simp) ?_;simp (disch:=omega) only[wt,seval,rqs,hAl,hBl,hb',ha'];refine ah (zo) (by rfl) (by simp) ?_;simp only[wt,seval];refine ah (no) (by rfl) (by simp) ?_;simp (disch:=omega) only[wt,seval,rqs];refine ah (mo) (by rfl) (by simp) ?_;simp (disch:=omega) only[wt,seval];refine rZ (.b5Q 13 (by simp only[wt,seval]) (.refl _ _)) (λf H=>∃(n j:Nat) (X Y U V:List Rat),qeu n X Y U V=bzs A B/\Y.length+1<=n/\j+n<=9/\QI 7 9 X Y/\QU j U V/\f 0=.iv (.sl (dN (A.map aN)))/\f 1=.iv (.sl (dN (B.map aN)))/\f 11=.iv (.sl (dN (X.map aN)))/\f 12=.iv (.sl (dN (Y.map aN)))/\f 13=.iv (.sl (dN (U.map aN)))/\f 14=.iv (.sl (dN (V.map aN)))/\H 999=.mrk B0) (λf H=>match f 12 with | .iv (.sl l)=>l.length|_=>0) ?_ ?_
  .refine⟨9,0,B,A,[],[1],hXU.symm,by omega,by omega,qi0,qu0,?_⟩;simp only[wt,seval,rqs]
   try (repeat' apply And.intro)<;>first|rfl|omega
  rintro f H ⟨n,j,X,Y,U,V,hq1,hn,hj,qi,qu,hF⟩;have hYl:(Y.map aN).length=Y.length:=List.length_map _;have hmu:(match f 12 with | .iv (.sl l)=>l.length|_=>0)=Y.length:=by rw[hF.2.2.2.1];simp only[];rw[uK,hYl]
  rw[hmu];obtain⟨n',rfl⟩:∃n',n=n'+1:=⟨n-1,by omega⟩;rw[qeu]at hq1;by_cases hy:Y.length=0
  .rw[if_pos hy]at hq1;have hy':¬(0:Int)<((Y.length:Nat):Int):=by omega
   have e1:X=(bzs A B).1:=by rw[<-hq1]
   have e2:U=(bzs A B).2:=by rw[<-hq1]
   subst e1 e2;simp (disch:=omega) only[wt,seval,rqs,hF,hYl,hy'];refine ah (ld) (by rfl) (by simp) ?_;simp only[wt,seval];refine ah (iv) (by rfl) (by simp) ?_;simp (disch:=omega) only[wt,seval,rqs,hF];refine aJ (sc1) (by rfl) (by simp) (by first|rfl|assumption|(simp only[wt,seval,hF];done)|((repeat (replace hF:=hF.2));exact hF)) ?_;rintro B1 E1 _ hB1 hE1 ⟨b1,c1,rfl,l1,w1⟩;simp (disch:=omega) only[wt,seval,rqs,hF];have d1':=d1.soft (.cons (.refl _) (.cons (iD (b:=b1) l1) .nil));have su':=λ(b2:OB) (c2:List (OB×OB)) (l2:c2.length=(u.map aN).length)=>mu.soft (.cons (iD (b:=b2) l2) (.cons (.refl _) .nil))
   have sv':=su.soft (.cons (iD (b:=b1) l1) (.cons (.refl _) .nil));refine ah (sc2) (by rfl) (by simp) ?_;simp (disch:=omega) only[wt,seval,hF];have d1q:=d1';refine ah (d1q) (by rfl) (by simp) ?_;simp (disch:=omega) only[wt,seval];refine aJ (d2) (by rfl) (by simp) (by rfl) ?_;rintro B2 E2 _ hB2 hE2 ⟨b9,c9,b2,c2,rfl,l9,l2,w2⟩;simp (disch:=omega) only[wt,seval,hF];have muq:=su' b2 c2 l2;have svq:=sv';refine ah (muq) (by rfl) (by simp) ?_;simp only[wt,seval];refine ah (svq) (by rfl) (by simp) ?_;simp only[wt,seval,hF];refine aJ (d3) (by rfl) (by simp) (by rfl) ?_;rintro B3 E3 _ hB3 hE3 ⟨b3,c3,b8,c8,rfl,l3,l8,w3⟩;simp (disch:=omega) only[wt,seval];refine aQ [.iv (fqp b1 c1 (g.map aN)),.iv (fqp b2 c2 (u.map aN)),.iv (fqp b3 c3 (vv.map aN)),ci 0] (by rfl) (by simp (disch:=omega) only[wt,seval];repeat' (first|rfl|apply And.intro)) ?_;intro E hE;exact⟨b1,c1,b2,c2,b3,c3,rfl,l1,l2,l3,(w1.append ((a1B w2).append (Yi w3) (by omega) (by omega) (by omega)) (by omega) (by omega) (by omega)).mono (by omega) (by omega)⟩
  .rw[if_neg hy]at hq1;have hy':(0:Int)<((Y.length:Nat):Int):=by omega
   have v:=qi.dv hy;obtain⟨b1,b2⟩:=qi.bd;rw[b1O]at b1 b2;have dv:=b0R v b1 b2 (by omega) (by omega) (by omega) (by omega);obtain⟨s1,s2⟩:=Y3 v qi.x;have ub:=UB.le (show j<=9 by omega);have u9:=ub8;have m1:=b0N s1.cx (qu.v.mono (show 8*j+1<=73 by omega) (show UB j<=400000000 by omega)) (by omega) (by omega) (by omega) (by omega);have mc:=(s1.cx.mul (qu.v.mono (show 8*j+1<=73 by omega) (show UB j<=400000000 by omega))).trim;have s3:=b0D (qu.u.mono (show 8*j+1<=73 by omega) (show UB j<=400000000 by omega)) mc (by omega) (by omega) (by omega) (by omega);rw[show cqp (LH U (au (gJ (qs X Y) V)))=cqw ((zY X Y U V).map aN) from congrArg cqw (by
    rw[cqs,zY]
    congr 1
    exact jk λk=>by rw[pO,pO,dQ])]at s3
   have hr:=(lY v).1;simp (disch:=omega) only[wt,seval,rqs,hF,hYl,hy'];refine ah (dv) (by rfl) (by simp) ?_;simp (disch:=omega) only[wt,seval,hF];refine ah (m1) (by rfl) (by simp) ?_;simp (disch:=omega) only[wt,seval];refine ah (s3) (by rfl) (by simp) ?_;simp (disch:=omega) only[wt,seval,rqs,hF];refine⟨⟨n',j+1,Y,qr X Y,V,zY X Y U V,hq1,by omega,by omega,qi.step v,qu.step qi hy (by omega),?_⟩,?_⟩
   .try (repeat' apply And.intro)<;>first|rfl|omega
   .rw[List.length_map];exact hr
def PI (p q:List RQ)(hp:BQ 7 1 p)(hq:BQ 7 1 q)(h:gd p=false\/gd q=false):ACX Tryz.prog 149 [cqw p,cqw q] (b6h [] [] [] 1):=by
 have gd2:=F7 [p,q] (by simp) (by
  simp only[zaG,zaT,zco,zdv,zfg];exact⟨hp.mono (by omega) (by omega),hq.mono (by omega) (by omega)⟩) [[.sl (dN p)],[.sl (dN q)]] rfl
 rw[zam (by
  rw[zdh,zdh,List.all_nil];rcases h with h|h<;>rw[h]<;>simp)]at gd2
 refine ACX.aj zi0 (rs:=[.tmp 4,.tmp 5,.tmp 6,.tmp 7]) aV ze4 (by rfl) (by rfl) (by rfl) (by rfl) (by rfl) (PO _ _ _ _) (λB0=>?_);simp (disch:=omega) only[wt,seval];refine ah (gd2) (by rfl) (by simp) ?_;simp (disch:=omega) only[wt,seval];refine dO 4 32 3 (by rfl) ?_;refine dO 5 32 3 (by rfl) ?_;refine dO 6 32 3 (by rfl) ?_;refine aQ [.iv (fqp none [] []),.iv (fqp none [] []),.iv (fqp none [] []),ci 1] (by rfl) (by simp (disch:=omega) only[wt,seval];repeat' (first|rfl|apply zaa)) ?_;intro E hE;exact⟨none,[],none,[],none,[],rfl,rfl,rfl,rfl,.nil _ _⟩
end
def a6b (p r:List RQ)(hp:GQ 7 1 p)(hr:GQ 7 1 r):ACX Tryz.prog 156 [cqw p,cqw r] (RQp ((bzg (au (qvs p)) (au (qvs r))).map aN) 0):=by
 have bz:=F8 p r hp hr;refine ACX.aj zi0 (rs:=[.tmp 4,.tmp 5]) aV Tryz.func156 (by rfl) (by rfl) (by rfl) (by rfl) (by rfl) (EJ _ _) (λB0=>?_);simp only[wt,seval];refine aJ (bz) (by rfl) (by simp) (by rfl) ?_;rintro B1 E1 _ hB1 hE1 ⟨x,xs,y,ys,z,zs,rfl,l1,l2,l3,w⟩;simp (disch:=omega) only[wt,seval];refine aQ [.iv (fqp x xs ((bzg (au (qvs p)) (au (qvs r))).map aN)),ci 0] (by rfl) (by simp (disch:=omega) only[wt,seval]) ?_;intro E hE;exact⟨x,xs,rfl,l1,(Yi w).mono hB1 (by omega)⟩
def a1o (p r:List RQ)(hp:BQ 7 1 p)(hr:BQ 7 1 r)(h:gd p=false\/gd r=false):ACX Tryz.prog 156 [cqw p,cqw r] (RQp [] 1):=by
 have bz:=PI p r hp hr h;refine ACX.aj zi0 (rs:=[.tmp 4,.tmp 5]) aV Tryz.func156 (by rfl) (by rfl) (by rfl) (by rfl) (by rfl) (EJ _ _) (λB0=>?_);simp only[wt,seval];refine aJ (bz) (by rfl) (by simp) (by rfl) ?_;rintro B1 E1 _ hB1 hE1 ⟨x,xs,y,ys,z,zs,rfl,l1,l2,l3,w⟩;simp (disch:=omega) only[wt,seval];refine aQ [.iv (fqp x xs []),ci 1] (by rfl) (by simp (disch:=omega) only[wt,seval]) ?_;intro E hE;exact⟨x,xs,rfl,l1,(Yi w).mono hB1 (by omega)⟩
def a6d (p r:List RQ)(hp:GQ 7 1 p)(hr:GQ 7 1 r):ACX Tryz.prog 157 [cqw p,cqw r] (RQp (ivl (au (qvs p)) (au (qvs r))) (ive (au (qvs p)) (au (qvs r)))):=by
 have gd2:=F7 [p,r] (by simp) (by
  simp only[zaG,zaT,zco,zdv,zfg];exact⟨hp.bq.mono (by omega) (by omega),hr.bq.mono (by omega) (by omega)⟩) [[.sl (dN p)],[.sl (dN r)]] rfl
 rw[zas (by rw[zdh,zdh,List.all_nil,Ef.mpr λx hx=>(hp.2 x hx).2,Ef.mpr λx hx=>(hr.2 x hx).2];rfl)]at gd2;have dd:=Tq r (hr.mono (by omega) (by omega));have dg:AC Tryz.prog 235 [cqw r] none [ci ((tzq (qvs r):Int)-1)]:=by
  refine AC.aj (rs:=[.tmp 2]) aV Tryz.func235 (by rfl) (by rfl) (by rfl) (by rfl) (by rfl) ?_;simp only[wt,seval];refine ah (dd) (by rfl) (by simp) ?_;simp (disch:=omega) only[wt,seval]
  try rfl
 rw[show tzq (qvs r)=(au (qvs r)).length from (jD _).symm]at dg;have bz:=F8 p r hp hr;have hA:=yP hp;have hB:=yP hr;have tA:=aZ (qvs p);have tB:=aZ (qvs r);generalize au (qvs p)=A at *;generalize au (qvs r)=B at *;have c0S:=hB.qb.1;rw[ivl,ive];by_cases hb:B.length=0
 .have hb':((B.length:Nat):Int)-1<0:=by omega
  rw[zas hb,zas hb];refine ACX.aj zi0 (rs:=[.tmp 4,.tmp 5]) aV Tryz.func157 (by rfl) (by rfl) (by rfl) (by rfl) (by rfl) (EJ _ _) (λB0=>?_);simp (disch:=omega) only[wt,seval];refine ah (gd2) (by rfl) (by simp) ?_;simp (disch:=omega) only[wt,seval];refine ah (dg) (by rfl) (by simp) ?_;simp (disch:=omega) only[wt,seval,hb'];refine dO 4 32 3 (by rfl) ?_;refine aQ [.iv (fqp none [] []),ci 1] (by rfl) (by simp (disch:=omega) only[wt,seval];rfl) ?_;intro E hE;exact⟨none,[],rfl,rfl,.nil _ _⟩
 have hb':¬((B.length:Nat):Int)-1<0:=by omega
 have F:=Tn hA hB tA tB hb;have gl:=F.gl;have de:=b6T F.g F.gt (by omega) (by omega);clear F;rw[zam hb,zam hb];by_cases hg:(bzg A B).length=1
 .have hg':(((bzg A B).length:Nat):Int)-1=0:=by omega
  rw[zas hg,zas hg];refine ACX.aj zi0 (rs:=[.tmp 4,.tmp 5]) aV Tryz.func157 (by rfl) (by rfl) (by rfl) (by rfl) (by rfl) (EJ _ _) (λB0=>?_);simp (disch:=omega) only[wt,seval];refine ah (gd2) (by rfl) (by simp) ?_;simp (disch:=omega) only[wt,seval];refine ah (dg) (by rfl) (by simp) ?_;simp (disch:=omega) only[wt,seval,hb'];refine aJ (bz) (by rfl) (by simp) (by rfl) ?_;rintro B1 E1 _ hB1 hE1 ⟨x,xs,y,ys,z,zs,rfl,l1,l2,l3,w⟩;simp (disch:=omega) only[wt,seval];have de2:=de.soft (.cons (iD (b:=x) l1) .nil);refine ah (de2) (by rfl) (by simp) ?_;simp (disch:=omega) only[wt,seval,hg'];refine aQ [.iv (fqp y ys ((bzu A B).map aN)),ci 0] (by rfl) (by simp (disch:=omega) only[wt,seval]) ?_;intro E hE;exact⟨y,ys,rfl,l2,(Yi (a1B w)).mono hB1 (by omega)⟩
 .have hg':¬(((bzg A B).length:Nat):Int)-1=0:=by omega
  rw[zam hg,zam hg];refine ACX.aj zi0 (rs:=[.tmp 4,.tmp 5]) aV Tryz.func157 (by rfl) (by rfl) (by rfl) (by rfl) (by rfl) (EJ _ _) (λB0=>?_);simp (disch:=omega) only[wt,seval];refine ah (gd2) (by rfl) (by simp) ?_;simp (disch:=omega) only[wt,seval];refine ah (dg) (by rfl) (by simp) ?_;simp (disch:=omega) only[wt,seval,hb'];refine aJ (bz) (by rfl) (by simp) (by rfl) ?_;rintro B1 E1 _ hB1 hE1 ⟨x,xs,y,ys,z,zs,rfl,l1,l2,l3,w⟩;simp (disch:=omega) only[wt,seval];have de2:=de.soft (.cons (iD (b:=x) l1) .nil);refine ah (de2) (by rfl) (by simp) ?_;simp (disch:=omega) only[wt,seval,hg'];refine dO 4 32 3 (by rfl) ?_;refine aQ [.iv (fqp none [] []),ci 4] (by rfl) (by simp (disch:=omega) only[wt,seval];rfl) ?_;intro E hE;exact⟨none,[],rfl,rfl,.nil _ _⟩
def a1t (p r:List RQ)(hp:BQ 7 1 p)(hr:BQ 7 1 r)(h:gd p=false\/gd r=false):ACX Tryz.prog 157 [cqw p,cqw r] (RQp [] 1):=by
 have gd2:=F7 [p,r] (by simp) (by
  simp only[zaG,zaT,zco,zdv,zfg];exact⟨hp.mono (by omega) (by omega),hr.mono (by omega) (by omega)⟩) [[.sl (dN p)],[.sl (dN r)]] rfl
 rw[zam (by
  rw[zdh,zdh,List.all_nil];rcases h with h|h<;>rw[h]<;>simp)]at gd2
 refine ACX.aj zi0 (rs:=[.tmp 4,.tmp 5]) aV Tryz.func157 (by rfl) (by rfl) (by rfl) (by rfl) (by rfl) (EJ _ _) (λB0=>?_);simp (disch:=omega) only[wt,seval];refine ah (gd2) (by rfl) (by simp) ?_;simp (disch:=omega) only[wt,seval];refine dO 4 32 3 (by rfl) ?_;refine aQ [.iv (fqp none [] []),ci 1] (by rfl) (by simp (disch:=omega) only[wt,seval];rfl) ?_;intro E hE;exact⟨none,[],rfl,rfl,.nil _ _⟩
section
variable {p r:List RQ}
def Pn (P R:List Int):List Int×List Int×List Int×Int:=if tz (eU P R)=0 then ([],[],[],1) else (eU P R,uU P (eU P R),uU R (eU P R),0)
def Zd (P R:List Int):Int×List Int×Int:=if tz P=0 then (0,[],1) else if tz R<=1 then (0,[],3) else (tmn R 9 (npr P),tmr R 9 (npr P),0)
def a4y (P R:List Int):List Int×Int:=if tz P=0\/tz R=0 then ([],1) else (wof R 10 (npr P),0)
def Uz (p r:List RQ):List RQ×List RQ×List RQ×Int:=if (gd p && gd r)=true then ((bzg (au (qvs p)) (au (qvs r))).map aN,(bzu (au (qvs p)) (au (qvs r))).map aN,(bzv (au (qvs p)) (au (qvs r))).map aN,0) else ([],[],[],1)
def a6t (p r:List RQ):List RQ×Int:=if (gd p && gd r)=true then ((bzg (au (qvs p)) (au (qvs r))).map aN,0) else ([],1)
def a6M (p r:List RQ):List RQ×Int:=if (gd p && gd r)=true then (ivl (au (qvs p)) (au (qvs r)),ive (au (qvs p)) (au (qvs r))) else ([],1)
def yh (h:¬(gd p && gd r)=true):gd p=false\/gd r=false:=by
 cases hp:gd p<;>cases hr:gd r<;>simp_all
theorem Bv {n k:Nat}(h:BQ n k p)(g:gd p=true):GQ n k p:=⟨h.1,λr hr=>⟨h.2 r hr,Ef.mp g r hr⟩⟩
def zI (h:(gd p && gd r)=true):gd p=true/\gd r=true:=by
 cases hp:gd p<;>cases hr:gd r<;>simp_all
def b4w (p q:List RI)(hp:RP 9 2 p)(hq:RP 9 2 q):ACX Tryz.prog 154 [cw p,cw q] (Xr (Pn (pv p) (pv q)).1 (Pn (pv p) (pv q)).2.1 (Pn (pv p) (pv q)).2.2.1 (Pn (pv p) (pv q)).2.2.2):=by
 have h:=Yd p q hp hq;unfold Pn;split at h
 .rename_i e;rw[zas e];exact h
 .rename_i e;rw[zam e];exact h
def b4v (p q:List RI)(hp:RP 9 2 p)(hq:RP 9 2 q):ACX Tryz.prog 147 [cw p,cw q] (b5r (Zd (pv p) (pv q)).1 (Zd (pv p) (pv q)).2.1 (Zd (pv p) (pv q)).2.2):=by
 have h:=JZ p q hp hq;unfold Zd;split at h
 .rename_i e;rw[zas e];exact h
 .rename_i e;rw[zam e];split at h
  .rename_i e;rw[zas e];exact h
  .rename_i e;rw[zam e];exact h
def a6L (p q:List RI)(hp:RP 9 2 p)(hq:RP 9 2 q):ACX Tryz.prog 155 [cw p,cw q] (EF (a4y (pv p) (pv q)).1 (a4y (pv p) (pv q)).2):=by
 have h:=Pj p q hp hq;unfold a4y;split at h
 .rename_i e;rw[zas e];exact h
 .rename_i e;rw[zam e];exact h
def b9K (p r:List RQ)(hp:BQ 7 1 p)(hr:BQ 7 1 r):ACX Tryz.prog 149 [cqw p,cqw r] (b6h (Uz p r).1 (Uz p r).2.1 (Uz p r).2.2.1 (Uz p r).2.2.2):=by
 unfold Uz;split
 .rename_i e;obtain⟨a,b⟩:=zI e;exact F8 p r (Bv hp a) (Bv hr b)
 .rename_i e;exact PI p r hp hr (yh e)
def b4y (p r:List RQ)(hp:BQ 7 1 p)(hr:BQ 7 1 r):ACX Tryz.prog 156 [cqw p,cqw r] (RQp (a6t p r).1 (a6t p r).2):=by
 unfold a6t;split
 .rename_i e;obtain⟨a,b⟩:=zI e;exact a6b p r (Bv hp a) (Bv hr b)
 .rename_i e;exact a1o p r hp hr (yh e)
def b9J (p r:List RQ)(hp:BQ 7 1 p)(hr:BQ 7 1 r):ACX Tryz.prog 157 [cqw p,cqw r] (RQp (a6M p r).1 (a6M p r).2):=by
 unfold a6M;split
 .rename_i e;obtain⟨a,b⟩:=zI e;exact a6d p r (Bv hp a) (Bv hr b)
 .rename_i e;exact a1t p r hp hr (yh e)
def b7F (b:Bool):Int:=if b then 1 else 0
def Xm (b:Bool):AC Tryz.prog 160 [cb b] none [ci (b7F b)]:=by
 cases b
 .refine AC.aj (rs:=[.tmp 2]) aV Tryz.func160 (by rfl) (by rfl) (by rfl) (by rfl) (by rfl) ?_;simp (disch:=omega) only[wt,seval]
  try rfl
 .refine AC.aj (rs:=[.tmp 2]) aV Tryz.func160 (by rfl) (by rfl) (by rfl) (by rfl) (by rfl) ?_;simp (disch:=omega) only[wt,seval]
  try rfl
end
@[reducible] def zA:Zi:=⟨some (148,1),(· == 11),λ_=>false,.no⟩
theorem CG : @Zi.st zA=.no:=rfl
theorem b7N (e:Nat) : @Zi.bx zA e=(e == 11):=rfl
theorem b5H (e:Nat) : @Zi.bs zA e=false:=rfl
theorem Xv : @zsl zA=.own none 148 1 []:=rfl
theorem a0F:List.range 9=[0,1,2,3,4,5,6,7,8]:=rfl
theorem Vy:List.range 10=[0,1,2,3,4,5,6,7,8,9]:=rfl
abbrev OQ:=OB×List (OB×OB)
def qid (c:OQ):List Nat:=oid c.1++idq c.2
def uM (ds:List OQ)(qs:List (List RQ)):List (List IV):=List.zipWith (λd q=>[fqp d.1 d.2 q]) ds qs
def QOk (ds:List OQ)(qs:List (List RQ)):Prop:=ds.length=qs.length/\∀(i:Nat) d q,ds[i]?=some d->qs[i]?=some q->d.2.length=q.length
def sZ (p r:List RI)(l:List (List RI)):List (List Int):=[eU (pv p) (pv r),alf l,U1 (pv p) (pv r),aO (exv (pv p) (pv r)),(Pn (pv p) (pv r)).1,(Pn (pv p) (pv r)).2.1,(Pn (pv p) (pv r)).2.2.1,(Zd (pv p) (pv r)).2.1,(a4y (pv p) (pv r)).1]
def sQ (f g:List RQ):List (List RQ):=[(a6t f g).1,(Uz f g).1,(Uz f g).2.1,(Uz f g).2.2.1,(a6M f g).1]
def sN (p r:List RI)(f g:List RQ):List Int:=[b7F (decide (tz (eU (pv p) (pv r))=1)),b7F (dvb (pv r) (pv p)),(Zd (pv p) (pv r)).1,exe (pv p) (pv r),(Pn (pv p) (pv r)).2.2.2,(Zd (pv p) (pv r)).2.2,(a4y (pv p) (pv r)).2,(a6t f g).2,(Uz f g).2.2.2,(a6M f g).2]
def RSaid (zs:List (List Int))(qs:List (List RQ))(ns:List Int)(B E:Nat)(res:List CV):Prop:=∃(o1 o2 o3:OB) (cs:List OP) (ds:List OQ),res=[.agg [.own o1 50 1 (jH cs zs),.own o2 23 1 (uM ds qs),.own o3 3 1 (iL ns)]]/\POk cs zs/\QOk ds qs/\Nw B E (oid o3++(oid o2++(oid o1++(cs.flatMap pid++ds.flatMap qid))))
theorem xA:∀{ds:List OQ} {qs:List (List RQ)},QOk ds qs->bY (uM ds qs)=ds.flatMap qid
 |[],_,_=>by simp[uM,bY]
 |d::ds,[],h=>by have:=h.1;simp at this
 |d::ds,q::qs,h=>by
  have h0:=h.2 0 d q rfl rfl;have ht:QOk ds qs:=⟨by have:=h.1;simpa using this,λi c' q' hc hq=>h.2 (i+1) c' q' (by simpa using hc) (by simpa using hq)⟩;have:=xA ht;simp only[uM,List.zipWith_cons_cons,bY,List.flatMap_cons]at this ⊢;rw[this]
  congr 1
  simp only[iV,List.append_nil,qid];rw[y9,jW h0]
theorem b1f (zs:List (List Int))(qs:List (List RQ))(ns:List Int)(B:Nat):∃E res,B<=E/\RSaid zs qs ns B E res:=by
 refine⟨B,_,zab _,none,none,none,zs.map λq=>(none,List.replicate q.length none),qs.map λq=>(none,List.replicate q.length (none,none)),rfl,⟨by simp,λi c q hc hq=>?_⟩,⟨by simp,λi c q hc hq=>?_⟩,?_⟩
 .rw[zaD,hq]at hc;injection hc with hc;rw[<-hc];simp
 .rw[zaD,hq]at hc;injection hc with hc;rw[<-hc];simp
 .have h1:(zs.map λq=>((none,List.replicate q.length none):OP)).flatMap pid=[]:=by
   rw[zeI];intro c hc;obtain⟨q,_,rfl⟩:=zaw.1 hc;simp[pid,oid,ug]
  have h2:(qs.map λq=>((none,List.replicate q.length (none,none)):OQ)).flatMap qid=[]:=by
   rw[zeI];intro c hc;obtain⟨q,_,rfl⟩:=zaw.1 hc;simp[qid,oid,ou]
  rw[h1,h2];exact .nil _ _
set_option maxHeartbeats 4000000 in
def NK (p r:List RI)(l:List (List RI))(f g:List RQ)(hp:RP 9 2 p)(hr:RP 9 2 r)(hl:l.length<=2^40)(hll:∀p∈l,RP 9 2 p)(hf:BQ 7 1 f)(hg:BQ 7 1 g):ACX Tryz.prog 71 [cw p,cw r,.iv (.sl (gI l)),cqw f,cqw g] (RSaid (sZ p r l) (sQ f g) (sN p r f g)):=by
 obtain⟨tP,sP⟩:=dF hp;obtain⟨tQ,sQ'⟩:=dF hr;have WM:=hp.mono (show 9<=40 by omega) (zab 2);have a6U:=hr.mono (show 9<=40 by omega) (zab 2);have m1:=Kt p r 2 WM a6U (by omega);have m2:=b4w p r hp hr;have m3:=b4v p r hp hr;have m4:=a6L p r hp hr;have m5:=b4y f g hf hg;have m6:=b9K f g hf hg;have m7:=b9J f g hf hg;have m8:=MO 9 2 WM a6U rfl rfl tP tQ (by omega) ez2;have m9:=a6f l hl hll;have m10:=a6c p r hp hr;have c1:=Yg 9 2 WM a6U rfl rfl tP tQ (by omega) ez2;have c2:=GL p r (WM.mono (by omega) (by omega)) (a6U.mono (by omega) (by omega));have e1:=Xm (decide (tz (eU (pv p) (pv r))=1));have e2:=Xm (dvb (pv r) (pv p));refine ACX.Xk zA 12 (rs:=[.cell 10 120]) aV Tryz.func71 (by rfl) (by rfl) (by rfl) (by rfl) (by rfl) (b1f _ _ _) (λB=>?_);simp (disch:=omega) only[wt,seval,Nat.reduceBEq,CG,b7N,Xv];refine aJ (m1) (by rfl) (by simp) (by rfl) ?_;rintro B1 E1 _ hB1 hE1 ⟨b1,c1',rfl,l1,w1⟩;simp (disch:=omega) only[wt,seval,CG];refine aJ (m2) (by rfl) (by simp) (by rfl) ?_;rintro B2 E2 _ hB2 hE2 ⟨x2,y2,z2,rfl,lx,ly,lz,w2⟩;simp (disch:=omega) only[wt,seval,CG];refine aJ (m3) (by rfl) (by simp) (by rfl) ?_;rintro B3 E3 _ hB3 hE3 ⟨b3,c3,rfl,l3,w3⟩;simp (disch:=omega) only[wt,seval,CG];refine aJ (m4) (by rfl) (by simp) (by rfl) ?_;rintro B4 E4 _ hB4 hE4 ⟨b4,c4,rfl,l4,w4⟩;simp (disch:=omega) only[wt,seval,CG];refine aJ (m5) (by rfl) (by simp) (by rfl) ?_;rintro B5 E5 _ hB5 hE5 ⟨b5,c5,rfl,l5,w5⟩;simp (disch:=omega) only[wt,seval,CG];refine aJ (m6) (by rfl) (by simp) (by rfl) ?_;rintro B6 E6 _ hB6 hE6 ⟨x,xs,y,ys,z,zs,rfl,lx6,ly6,lz6,w6⟩;simp (disch:=omega) only[wt,seval,CG];refine aJ (m7) (by rfl) (by simp) (by rfl) ?_;rintro B7 E7 _ hB7 hE7 ⟨b7,c7,rfl,l7,w7⟩;simp (disch:=omega) only[wt,seval,CG,Xv];refine .inr ⟨[0,1,2,3,5,7,8,10,11,12,13,14,15,4,6,9,16,17,18,19],[0,1,2,3,13,4,14,5,6,15,7,8,9,10,11,12,16,17,18,19],by kernel_rfl,aP (by kernel_rfl),?_⟩;simp only[mg,a0r,zaC,zbv,zd0,zdp,zdK];simp (disch:=omega) only[wt,seval,CG,Xv];refine aJ (m8) (by rfl) (by simp) (by rfl) ?_;rintro B8 E8 _ hB8 hE8 ⟨b8,c8,rfl,l8,w8⟩;simp only[wt,seval];refine aJ (m9) (by rfl) (by simp) (by rfl) ?_;rintro B9 E9 _ hB9 hE9 ⟨b9,c9,rfl,l9,w9⟩;simp only[wt,seval];refine aJ (m10) (by rfl) (by simp) (by rfl) ?_;rintro B10 E10 _ c0T c0P ⟨b10,c10,rfl,l10,w10⟩;simp (disch:=omega) only[wt,seval,zbe,CG,b5H,Xv,a0G,a0F];refine⟨aX (by kernel_rfl),?_⟩;refine .inl ⟨aP (by kernel_rfl),?_⟩;refine ah (c1) (by rfl) (by simp) ?_;simp only[wt,seval];refine ah (e1) (by rfl) (by simp) ?_;simp only[wt,seval,CG];refine ah (c2) (by rfl) (by simp) ?_;simp only[wt,seval];refine ah (e2) (by rfl) (by simp) ?_;simp (disch:=omega) only[wt,seval,zbe,CG,b5H,Xv,Vy];refine⟨aX (by kernel_rfl),?_⟩;refine Opn.row 11 1 120 0 95 1 50 1 _ (jH [(b8,c8),(b9,c9),(b10,c10),(b1,c1'),x2,y2,z2,(b3,c3),(b4,c4)] (sZ p r l)) E10 (by simp only[wt,seval];rfl) (by rfl) (by simp only[wt,seval];rfl) (by simp only[wt,seval]) ?_;intro o1 E11 b8p ho1 hr1;refine Opn.row 11 1 120 1 105 1 23 1 _ (uM [(b5,c5),(x,xs),(y,ys),(z,zs),(b7,c7)] (sQ f g)) E11 (by simp only[wt,seval];rfl) (by rfl) (by simp only[wt,seval];rfl) (by simp only[wt,seval]) ?_;intro o2 E12 b8o ho2 hr2;refine Opn.row 11 1 120 2 126 1 3 1 _ (iL (sN p r f g)) E12 (by simp only[wt,seval,zbe];rfl) (by rfl) (by simp only[wt,seval,zbe];rfl) (by simp only[wt,seval,zbe]) ?_;intro o3 E13 b8n ho3 hr3;refine Opn.done ?_;simp (disch:=omega) only[wt,seval,zaJ,zaj,zbe,CG,Xv];refine aQ (B:=E13) [.agg [.own o1 50 1 (jH [(b8,c8),(b9,c9),(b10,c10),(b1,c1'),x2,y2,z2,(b3,c3),(b4,c4)] (sZ p r l)),.own o2 23 1 (uM [(b5,c5),(x,xs),(y,ys),(z,zs),(b7,c7)] (sQ f g)),.own o3 3 1 (iL (sN p r f g))]] (by rfl) (by simp (disch:=omega) only[wt,seval,Xv];rfl) ?_;intro E hE;have pok:POk [(b8,c8),(b9,c9),(b10,c10),(b1,c1'),x2,y2,z2,(b3,c3),(b4,c4)] (sZ p r l):=⟨rfl,λi c q hc hq=>by
  match i,hc,hq with
  |0,hc,hq|1,hc,hq|2,hc,hq|3,hc,hq|4,hc,hq|5,hc,hq|6,hc,hq|7,hc,hq|8,hc,hq=>(injection hc with hc;injection hq with hq;subst hc hq;assumption)
  |i+9,hc,hq=>simp at hc⟩
 have qok:QOk [(b5,c5),(x,xs),(y,ys),(z,zs),(b7,c7)] (sQ f g):=⟨rfl,λi c q hc hq=>by
  match i,hc,hq with
  |0,hc,hq|1,hc,hq|2,hc,hq|3,hc,hq|4,hc,hq=>(injection hc with hc;injection hq with hq;subst hc hq;assumption)
  |i+5,hc,hq=>simp at hc⟩
 have v:=(((((w1.append w2 (by omega) (by omega) (by omega)).append w3 (by omega) (by omega) (by omega)).append w4 (by omega) (by omega) (by omega)).append w5 (by omega) (by omega) (by omega)).append w6 (by omega) (by omega) (by omega)).append w7 (by omega) (by omega) (by omega);have u:=(w8.append w9 (by omega) (by omega) (by omega)).append w10 (by omega) (by omega) (by omega);have zz:Nw B E10 ([(b8,c8),(b9,c9),(b10,c10),(b1,c1'),x2,y2,z2,(b3,c3),(b4,c4)].flatMap pid++[(b5,c5),(x,xs),(y,ys),(z,zs),(b7,c7)].flatMap qid):=by
  refine(((v.append u (by omega) (by omega) (by omega)).mono (by omega) (by omega)).perm ze3).perm (List.Perm.of_eq ?_);simp only[zbu,zdy,pid,qid,zbr,zaR]
 have z1:=b0V (b:=o1) b8p (λg' cap e=>by
  have h:=ho1.2 g' cap e;have h3:=h.2.2.1;have h4:=h.2.2.2.2.2 105 false 1 23 1 (uM [(b5,c5),(x,xs),(y,ys),(z,zs),(b7,c7)] (sQ f g)) (by simp only[wt,seval];rfl);rw[uf pok]at h3;rw[xA qok]at h4;refine⟨h.1,h.2.1,λhm=>?_⟩;rcases zap.1 hm with hm|hm
  .exact h3 hm
  .exact h4 hm) zz
 have z2':=b0V (b:=o2) b8o (λg' cap e=>by
  have h:=ho2.2 g' cap e;have h3:=h.2.2.1;have h4:=hr2 g' cap e _ (zd8 ..);rw[y9,uf pok]at h4;rw[xA qok]at h3;refine⟨h.1,h.2.1,λhm=>?_⟩;rcases zap.1 hm with hm|hm
  .exact h4 (zap.2 (.inl hm))
  .rcases zap.1 hm with hm|hm
   .exact h4 (zap.2 (.inr hm))
   .exact h3 hm) z1
 have z3':=b0V (b:=o3) b8n (λg' cap e=>by
  have h:=ho3.2 g' cap e;have h4:=hr3 g' cap e _ (zd8 ..);have h5:=hr3 g' cap e _ (zdH _ (zd8 ..));rw[y9,uf pok]at h4;rw[y9,xA qok]at h5;refine⟨h.1,h.2.1,λhm=>?_⟩;rcases zap.1 hm with hm|hm
  .exact h5 (zap.2 (.inl hm))
  .rcases zap.1 hm with hm|hm
   .exact h4 (zap.2 (.inl hm))
   .rcases zap.1 hm with hm|hm
    .exact h4 (zap.2 (.inr hm))
    .exact h5 (zap.2 (.inr hm))) z2'
 exact⟨o1,o2,o3,_,_,rfl,pok,qok,z3'.mono (zab _) hE⟩
def qps (l:List (List RQ)):List (List IV):=l.map λq=>[.sl (dN q)]
theorem b0A (l:List (List RQ)):(qps l).length=l.length:=by simp[qps]
theorem b3Z {l:List (List RQ)}{i:Nat}(h:i<l.length):(qps l).getD i []=[.sl (dN (l.getD i []))]:=by simp[qps,List.getD,h]
def a8q (zs:List (List RI))(qs:List (List RQ))(ns:List Int):List IV:=[.sl (gI zs),.sl (qps qs),.sl (iL ns)]
set_option maxHeartbeats 4000000 in
theorem a5e (zs:List (List RI))(qs:List (List RQ))(ns:List Int)(hz:zs.length<=1000)(hq:qs.length<=1000)(hn:ns.length<=1000)(hz1:∀z∈zs,RP (2^40) (2^43) z)(hq1:∀q∈qs,BQ (2^40) (2^40) q) :
  AC Tryz.prog 73 [.agg (a8q zs qs ns),.agg (a8q zs qs ns)] none [cb true]:=by
 refine AC.aj (rs:=[.tmp 4]) aV Tryz.func73 (by rfl) (by rfl) (by rfl) (by rfl) (by rfl) ?_;unfold a8q;have e1:=Px zs;have e2:=b0A qs;simp (disch:=omega) only[wt,seval];refine aI (λf H=>∃i:Nat,i<=zs.length/\f 5=.iv (.int .i64 i)/\f 2=.hp 2 1 0 0/\f 3=.hp 3 1 0 0/\H 2=.blk false 1 120 3 [[.sl (gI zs),.sl (qps qs),.sl (iL ns)]]/\H 3=.blk false 1 120 3 [[.sl (gI zs),.sl (qps qs),.sl (iL ns)]]) (λf H=>(zs.length-bC f 5).toNat) ?_ ?_
 .refine⟨0,by omega,?_⟩;simp only[wt,seval]
  try (repeat' apply zaa)<;>first|rfl|omega
 rintro f H ⟨i,hi,g5,g2,g3,h2,h3⟩;rw[aC g5];simp (disch:=omega) only[wt,seval,g5,g2,h2,e1];refine bf (λhlt=>?_) (λhlt=>?_)
 .have hi':i<zs.length:=by omega
  have hg:=uO hi';have hm:zs.getD i []∈zs:=by
   rw[List.getD,zaf hi',zaE];exact zaY hi'
  have sm:=ER _ _ (hz1 _ hm) (hz1 _ hm);rw[zbn rfl]at sm;simp (disch:=omega) only[wt,seval,g5,g2,g3,h2,h3,hg,e1];refine .inl ⟨aP (by kernel_rfl),?_⟩;refine ah (sm) (by rfl) (by simp) ?_;simp (disch:=omega) only[wt,seval,g5,g2,g3,h2,h3];refine⟨aX (by kernel_rfl),?_⟩;refine⟨⟨i+1,by omega,?_⟩,by omega⟩
  try (repeat' apply zaa)<;>first|rfl|omega
 simp (disch:=omega) only[wt,seval];refine aI (λf H=>∃i:Nat,i<=qs.length/\f 6=.iv (.int .i64 i)/\f 2=.hp 2 1 0 0/\f 3=.hp 3 1 0 0/\H 2=.blk false 1 120 3 [[.sl (gI zs),.sl (qps qs),.sl (iL ns)]]/\H 3=.blk false 1 120 3 [[.sl (gI zs),.sl (qps qs),.sl (iL ns)]]) (λf H=>(qs.length-bC f 6).toNat) ?_ ?_
 .refine⟨0,by omega,?_⟩;simp only[wt,seval,g2,g3,h2,h3]
  try (repeat' apply zaa)<;>first|rfl|omega
 clear g5 g2 g3 h2 h3 hlt hi;rintro f H ⟨i,hi,g5,g2,g3,h2,h3⟩;rw[aC g5];simp (disch:=omega) only[wt,seval,g5,g2,h2,e2];refine bf (λhlt=>?_) (λhlt=>?_)
 .have hi':i<qs.length:=by omega
  have hg:=b3Z hi';have hm:qs.getD i []∈qs:=by
   rw[List.getD,zaf hi',zaE];exact zaY hi'
  have sm:=qX _ (hq1 _ hm);simp (disch:=omega) only[wt,seval,g5,g2,g3,h2,h3,hg,e2];refine .inl ⟨aP (by kernel_rfl),?_⟩;refine ah (sm) (by rfl) (by simp) ?_;simp (disch:=omega) only[wt,seval,g5,g2,g3,h2,h3];refine⟨aX (by kernel_rfl),?_⟩;refine⟨⟨i+1,by omega,?_⟩,by omega⟩
  try (repeat' apply zaa)<;>first|rfl|omega
 simp (disch:=omega) only[wt,seval];refine aI (λf H=>∃i:Nat,i<=ns.length/\f 7=.iv (.int .i64 i)/\f 2=.hp 2 1 0 0/\f 3=.hp 3 1 0 0/\H 2=.blk false 1 120 3 [[.sl (gI zs),.sl (qps qs),.sl (iL ns)]]/\H 3=.blk false 1 120 3 [[.sl (gI zs),.sl (qps qs),.sl (iL ns)]]) (λf H=>(ns.length-bC f 7).toNat) ?_ ?_
 .refine⟨0,by omega,?_⟩;simp only[wt,seval,g2,g3,h2,h3]
  try (repeat' apply zaa)<;>first|rfl|omega
 clear g5 g2 g3 h2 h3 hlt hi;rintro f H ⟨i,hi,g5,g2,g3,h2,h3⟩;rw[aC g5];have e3:(iL ns).length=ns.length:=by simp[iL]
 simp (disch:=omega) only[wt,seval,g5,g2,h2,e3];refine bf (λhlt=>?_) (λhlt=>?_)
 .have hi':i<ns.length:=by omega
  have hg:(iL ns).getD i []=[.int .i64 (ns.getD i 0)]:=by simp[iL,List.getD,hi']
  simp (disch:=omega) only[wt,seval,g5,g2,g3,h2,h3,hg,e3];refine .inl ⟨aP (by kernel_rfl),?_⟩;refine⟨aX (by kernel_rfl),?_⟩;refine⟨⟨i+1,by omega,?_⟩,by omega⟩
  try (repeat' apply zaa)<;>first|rfl|omega
 simp (disch:=omega) only[wt,seval]
 try rfl
section
variable {P R B:List Int}
theorem a4F (c:Int)(D:List Int):tz (qA c D)<=tz D:=qP λk hk=>by rw[fU,dW D hk,Int.zero_ediv]
theorem b4O {S:Nat}(tP:tz P<=40)(sP:SBd S P)(sR:SBd S R):SBd (S+41*(S+1)) (exv P R)/\tz (exv P R)<=41:=by
 unfold exv;split
 .exact⟨Gn (by decide),by decide⟩
 .rename_i h0;split
  .rename_i he;have hdx:dxp P R<=41:=by unfold dxp;omega
   have hg:(lc R^dxp P R)∣(gz (dq P R):Int):=by
    unfold a2P at he;rw[zaX,zeH]at he;exact he.2
   refine⟨λi=>?_,zad (a4F _ _) (zad (b1W h0) hdx)⟩;rw[fU];refine zad (yH (Qo.mp hg i)) (zad ((IQ h0 sP sR).1 i) ?_);have:=zag (S+1) hdx;omega
  .exact⟨Gn (by decide),by decide⟩
def Ky {G:List Int}(tP:tz P<=9)(sP:SBd 2 P)(hG:tz G≠0)(hd:Dv G P):SBd 92 (uU P G)/\tz (uU P G)<=9:=by
 unfold uU;split
 .exact⟨Gn (by decide),by decide⟩
 .rename_i h0;have:=iE h0 tP sP (oM P G) (yL hG hd);exact⟨this.1,this.2.1⟩
theorem Oy (h0:tz P≠0)(tP:tz P<=9)(sP:SBd 2 P)(hB:tz B≠0):∀(f:Nat) (A:List Int),Nf A->Dv A P->SBd 92 (tmr B f A)/\tz (tmr B f A)<=9/\Nf (tmr B f A)/\Dv (tmr B f A) P
 |0,A,n,d=>by
  have:=iE h0 tP sP n d;exact⟨this.1,this.2.1,n,d⟩
 |f+1,A,n,d=>by
  rw[tmr];split
  .rename_i hd;have hdv:=(uX _ _).mp hd;exact Oy h0 tP sP hB f _ (oM _ _) ((yL hB hdv).trans d)
  .have:=iE h0 tP sP n d;exact⟨this.1,this.2.1,n,d⟩
theorem Oj (h0:tz P≠0)(tP:tz P<=9)(sP:SBd 2 P):∀(f:Nat) (A:List Int),Nf A->Dv A P->SBd 92 (wof B f A)/\tz (wof B f A)<=9/\Nf (wof B f A)/\Dv (wof B f A) P
 |0,A,n,d=>by
  have:=iE h0 tP sP n d;exact⟨this.1,this.2.1,n,d⟩
 |f+1,A,n,d=>by
  rw[wof];split
  .have:=iE h0 tP sP n d;exact⟨this.1,this.2.1,n,d⟩
  .have gg:=mG A B;have hA:=(Jr d h0).1;exact Oj h0 tP sP f _ (oM _ _) ((yL (Jr gg.a hA).1 gg.a).trans d)
structure Y14 (y:C14):Prop where
 P:RP 9 2 y.P
 R:RP 9 2 y.R
 K:RP 9 2 y.K
 L:y.L.length<=6/\∀p∈y.L,RP 9 2 p
def y14 {x:C14}(h:b5u x):Y14 (Ic x):=by
 have f:∀{p:List RI},Raw p->RP 9 2 (fp2 p):=λ{p} hp=>fp2_rp λc hc=>(hp.2 c hc).2
 refine⟨f h.P,f h.R,f h.K,?_,λp hp=>?_⟩
 .show ((x.L.take 6).map fp2).length<=6;rw[zae,zah];omega
 .obtain⟨q,hq,rfl⟩:=zaw.1 hp;exact f (h.L.2 q (za0 hq))
def a2c (tP:tz P<=9)(sP:SBd 2 P)(tR:tz R<=9)(sR:SBd 2 R):SBd 200 (U1 P R)/\tz (U1 P R)<=20:=by
 unfold U1;split
 .exact⟨Gn (by decide),by decide⟩
 .rename_i h0;have gg:=mG P R;obtain⟨g1,g2,g3⟩:=iE (by omega) tP sP (rV P R) gg.a;obtain⟨q1,q2,q3⟩:=iE (by omega) tR sR (oM R (eU P R)) (yL g3 gg.b);have tm:=uD (p:=P) (q:=quo R (eU P R)) (by omega) q3;refine⟨DU λi=>?_,by rw[oh];omega⟩;have rp1:=(lQ tP sP).pv;have rp2:=(lQ q2 q1).pv;have h:=(PB.fD rp1 rp2 (by simp only[W];omega)).cf i;rw[Kr (p':=P) (q':=quo R (eU P R)) (QG _) (QG _)]at h;omega
end
end Go.Proofs.YtdpngipofekcfaaGreat
