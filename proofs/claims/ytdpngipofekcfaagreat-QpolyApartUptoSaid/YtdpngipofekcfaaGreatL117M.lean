/-
 Contracts of the functions that the law reaches.
-/
import Derived.Test.YtdpngipofekcfaaGreatL298M
import Derived.Test.YtdpngipofekcfaaGreatAbsT
import Derived.Test.YtdpngipofekcfaaGreatL12M
set_option maxHeartbeats 2000000
namespace Go.Proofs.YtdpngipofekcfaaGreat
open Go Go.Proofs Go.AL
set_option linter.unusedSimpArgs false
set_option linter.unusedVariables false
theorem TD {α:Type}(l:List α):l.take (min (l.length:Int) 40).toNat=l.take 40:=by
 rcases Nat.le_total l.length 40 with h|h
 ·rw[List.take_of_length_le (i:=40) h,List.take_of_length_le (by omega)]
 ·congr 1;omega
theorem few10_ok (p:List RQ)(hl:p.length≤9223372036854775807):AC Tryz.prog 7 [cqw p] none [cqw (p.take 40)]:=by
 have e:=TD p;refine AC.aA (rs:=[.tmp 2]) aX Tryz.func7 (by rfl) (by rfl) (by rfl) (by rfl) (by rfl) ?_;simp (disch:=omega) only[wt,seval,rqs,e]
 try rfl
theorem BQ.few {n k:Nat}{p:List RQ}(h:BQ n k p):BQ 40 k (p.take 40):=⟨by rw[List.length_take];omega,fun r hr=>h.2 r (List.mem_of_mem_take hr)⟩
theorem Oy {i:Nat}(h:i<W):qz (((i:Nat):Int):Rat)≤1:=by
 have h1:=a2u (i:Int);have h2:zl (i:Int)≤1:=a8f (by simpa using h);omega
theorem xw (A:List Rat):(qC A).length=A.length-1:=by simp[qC]
theorem DX (A:List Rat):cqs (qC (aI A))=cqs (qC A):=iT fun k=>by rw[uD,uD,dZ]
theorem QB.qC {n k:Nat}{A:List Rat}(h:QB n k A)(hn:n≤2^40)(hk:1≤k):QB n (k+1) (qC A):=.of (by rw[xw];have:=h.1;omega) fun i=>by
 by_cases hi:i+1<A.length
 ·rw[uD,← Rat.intCast_natCast];have h1:=qQ (cfq A (i+1)) (((i+1:Nat):Int):Rat);have h2:=h.cz hk (i+1);have h3:=Oy (i:=i+1) (by have:=h.1;simp only[W];omega);omega
 ·rw[eF (by rw[xw];omega),lD];omega
def zJ (A:List Rat):List Rat:=(List.range A.length).map fun i=>cfq A i*(1/(((i+1:Nat):Int):Rat))
def P7 (A:List Rat):List Rat:=if A=[] then [] else 0::zJ A
theorem a1e (A:List Rat):P7 A=if A=[] then [] else 0::zJ A:=rfl
theorem nZ (A:List Rat):(zJ A).length=A.length:=by simp[zJ]
theorem Bo (A:List Rat)(i:Nat):cfq (zJ A) i=cfq A i*(1/(((i+1:Nat):Int):Rat)):=by
 by_cases h:i<A.length
 ·rw[zJ,cfq,List.getD,List.getElem?_map,List.getElem?_range h];rfl
 ·rw[eF (by rw[nZ];omega),eF (q:=A) (by omega),Rat.zero_mul]
theorem a4U (i:Nat):(((i+1:Nat):Int):Rat)≠0:=fun h=>by have:=Rat.intCast_eq_zero_iff.mp h;omega
theorem Xt {A:List Rat}(h:aI A=A):aI (P7 A)=P7 A:=by
 unfold P7;split
 ·rfl
 ·rename_i hA;have h0:A.length≠0:=fun e=>hA (List.length_eq_zero_iff.mp e)
  have ht:=iY h;have hp:=fF (q:=A) (by omega);rw[ht]at hp;have hc:cfq (0::zJ A) A.length≠0:=by
   rw[show A.length=(A.length-1)+1 by omega,eH,Bo];intro e;rcases Rat.mul_eq_zero.mp e with e|e
   ·exact hp e
   ·have:=a4U (A.length-1);have h1:(1:Rat)/(((A.length-1+1:Nat):Int):Rat)*(((A.length-1+1:Nat):Int):Rat)=1:=Rat.div_mul_cancel this;rw[e]at h1
    grind
  have:=vS hc fun k hk=>eF (by rw[List.length_cons,nZ];omega)
  rw[aI,this,List.take_of_length_le (by rw[List.length_cons,nZ];omega)]
theorem OA {i:Nat}(h:i+1<W):qz (1/(((i+1:Nat):Int):Rat))≤1:=by
 have:=vF (c:=1) (d:=i+1) (M:=1) (by omega) (a8f (by decide)) (a9q h);rwa [Rat.intCast_one]at this
theorem QB.zJ {n k:Nat}{A:List Rat}(h:QB n k A)(hn:n≤2^40)(hk:1≤k):QB n (k+1) (zJ A):=.of (by rw[nZ];exact h.1) fun i=>by
 by_cases hi:i<A.length
 ·rw[Bo];have h1:=qQ (cfq A i) (1/(((i+1:Nat):Int):Rat));have h2:=h.cz hk i;have h3:=OA (i:=i) (by have:=h.1;simp only[W];omega);omega
 ·rw[eF (by rw[nZ];omega),lD];omega
theorem QB.P7 {n k:Nat}{A:List Rat}(h:QB n k A)(hn:n≤2^40)(hk:1≤k):QB (n+1) (k+1) (P7 A):=by
 rw[a1e];split
 ·exact⟨Nat.zero_le _,fun c hc=>nomatch hc⟩
 ·have hi:=h.zJ hn hk;refine⟨by rw[List.length_cons,nZ];have:=h.1;omega,fun c hc=>?_⟩;rcases List.mem_cons.1 hc with rfl|hc
  ·rw[lD];omega
  ·exact hi.2 c hc
theorem a6n (P:List Int):tzq (qp P)=tz P:=by
 rcases Nat.eq_zero_or_pos (tz P) with h|h
 ·rw[h];exact fU.mpr fun k=>by rw[zY,fH.mp h k];rfl
 ·have:=vS (q:=qp P) (n:=tz P-1) (by
   rw[zY];exact fun e=>Ul (q:=P) (by omega) (Rat.intCast_eq_zero_iff.mp e)) fun k hk=>by rw[zY,SN P (by omega)];rfl
  omega
theorem a4i (P:List Int):aI (qp P)=qp (dJ P):=by rw[aI,a6n,dJ,qp,qp,List.map_take]
theorem a6F (L:List Int):(qp L).map (fun c=>c.num)=L:=by
 rw[qp,List.map_map]
 conv=>rhs;rw[← List.map_id L]
 exact List.map_congr_left fun z _=>Rat.num_intCast z
def fma (c:Rat)(a b:Rat):Rat:=a+c*b
theorem gK (c:Rat):fma c 0 0=0:=by unfold fma;grind
theorem tu (p r:List RQ)(c:RQ)(K:Nat)(hp:GQ (2^30) K p)(hr:GQ (2^30) K r)(hc:SzQ K c)(h0:nv c.2≠0)(hK:K≤2^33)(hK1:1≤K):AC Tryz.prog 27 [cqw p,cqq c,cqw r] none [cqp (qO (fma (qv c)) (qvs p) (qvs r))]:=by
 have m:=gJ p (hp.mono (by omega) (by omega));have n:=gJ r (hr.mono (by omega) (by omega));have hA:=hp.qb.aI;have hB:=hr.qb.aI;have zc:=a2s hc h0;have e:cqp (qO (fma (qv c)) (qvs p) (qvs r))=cqp (qO (fma (qv c)) (aI (qvs p)) (aI (qvs r))):=congrArg cqw (iT fun k=>by rw[eG (gK _),eG (gK _),dZ,dZ]);rw[e];refine AC.aA (rs:=[.tmp 6]) aX Tryz.func27 (by rfl) (by rfl) (by rfl) (by rfl) (by rfl) ?_;simp (disch:=omega) only[wt,seval];refine ah (m) (by rfl) (by simp) ?_;simp only[wt,seval];refine ah (n) (by rfl) (by simp) ?_;simp only[wt,seval];unfold cqs;generalize aI (qvs p)=A at *;generalize aI (qvs r)=B at *;have hAl:=hA.1;have hBl:=hB.1;have hqa:(A.map aP).length=A.length:=List.length_map _;have hqb:(B.map aP).length=B.length:=List.length_map _;have hRl:=qg (fma (qv c)) A B;have hsz:∀ i,qz (cfq (qO (fma (qv c)) A B) i)≤2^38:=fun i=>by
  rw[eG (gK _)];have h1:=hA.cz hK1 i;have h2:=hB.cz hK1 i;have h3:=qQ (qv c) (cfq B i);have h4:=FD (cfq A i) (qv c*cfq B i);unfold fma;omega
 have hR:QB (2^40) (2^38) (qO (fma (qv c)) A B):=.of (by omega) hsz;have t:=gJ ((qO (fma (qv c)) A B).map aP) hR.gq;rw[gV]at t;refine dS 7 7 32 3 (by simp only[wt,seval]) (fun f H=>∃ (i st st4:Nat),i≤max A.length B.length∧f 8=.iv (.int .i64 i)∧f 0=.iv (.sl (fD (A.map aP)))∧f 2=.iv (.sl (fD (B.map aP)))∧f 4=.hp 4 st4 0 0∧H 4=.blk false st4 32 3 [nJ c]∧f 7=.hs 7 st∧H 7=.blk false st 32 3 (fD (((qO (fma (qv c)) A B).take i).map aP))) (fun f H=>(max A.length B.length-aY f 8).toNat) ?_ ?_
 ·refine⟨0,1,1,by omega,?_⟩;simp only[wt,seval,rqs,fB,fM,List.take_zero]
 rintro f H ⟨i,st,st4,hi,hF⟩;rw[aB hF.1];simp (disch:=omega) only[wt,seval,rqs,hF];by_cases ha:i<A.length
 ·have ha':(i:Int)<((A.map aP).length:Int):=by omega
  simp (disch:=omega) only[wt,seval,hF,ha'];have hrq:(((qO (fma (qv c)) A B).take i).map aP).length=i:=by rw[List.length_map,List.length_take];omega
  have h1:=hA.cz hK1 i;have h2:=hB.cz hK1 i;have h3:=qQ (qv c) (cfq B i);have c1:=BP A i (by omega);have c2:=BP B i (by omega);have x:=rX c (aP (cfq B i)) (hc.mono (by omega)) (aZ (by omega)) h0 (bI _);rw[dB]at x;have y:=Iy (aP (cfq A i)) (aP (qv c*cfq B i)) (aZ (by omega)) (aZ (by omega)) (bI _) (bI _);rw[dB,dB,show cfq A i+qv c*cfq B i=cfq (qO (fma (qv c)) A B) i by rw[eG (gK _)];rfl]at y;refine .inl ⟨aS (by kernel_rfl),?_⟩;refine ah (c1) (by rfl) (by simp) ?_;simp (disch:=omega) only[wt,seval,rqs,hF];refine ah (c2) (by rfl) (by simp) ?_;simp (disch:=omega) only[wt,seval];refine ah (x) (by rfl) (by simp) ?_;simp (disch:=omega) only[wt,seval];refine ah (y) (by rfl) (by simp) ?_;simp (disch:=omega) only[wt,seval,rqs,hF,hrq];refine⟨bH (by kernel_rfl),?_⟩;have et:=fG (q:=qO (fma (qv c)) A B) (i:=i) (by omega);refine⟨⟨i+1,st+1,st4,by omega,?_⟩,by omega⟩;rw[et,List.map_append]
  (repeat' apply And.intro)<;>first|rfl|omega
 ·have ha':¬(i:Int)<((A.map aP).length:Int):=by omega
  by_cases hb:i<B.length
  ·have hb':(i:Int)<((B.map aP).length:Int):=by omega
   simp (disch:=omega) only[wt,seval,hF,ha',hb'];have hrq:(((qO (fma (qv c)) A B).take i).map aP).length=i:=by rw[List.length_map,List.length_take];omega
   have h1:=hA.cz hK1 i;have h2:=hB.cz hK1 i;have h3:=qQ (qv c) (cfq B i);have c1:=BP A i (by omega);have c2:=BP B i (by omega);have x:=rX c (aP (cfq B i)) (hc.mono (by omega)) (aZ (by omega)) h0 (bI _);rw[dB]at x;have y:=Iy (aP (cfq A i)) (aP (qv c*cfq B i)) (aZ (by omega)) (aZ (by omega)) (bI _) (bI _);rw[dB,dB,show cfq A i+qv c*cfq B i=cfq (qO (fma (qv c)) A B) i by rw[eG (gK _)];rfl]at y;refine .inl ⟨aS (by kernel_rfl),?_⟩;refine ah (c1) (by rfl) (by simp) ?_;simp (disch:=omega) only[wt,seval,rqs,hF];refine ah (c2) (by rfl) (by simp) ?_;simp (disch:=omega) only[wt,seval];refine ah (x) (by rfl) (by simp) ?_;simp (disch:=omega) only[wt,seval];refine ah (y) (by rfl) (by simp) ?_;simp (disch:=omega) only[wt,seval,rqs,hF,hrq];refine⟨bH (by kernel_rfl),?_⟩;have et:=fG (q:=qO (fma (qv c)) A B) (i:=i) (by omega);refine⟨⟨i+1,st+1,st4,by omega,?_⟩,by omega⟩;rw[et,List.map_append]
   (repeat' apply And.intro)<;>first|rfl|omega
  ·have hb':¬(i:Int)<((B.map aP).length:Int):=by omega
   simp (disch:=omega) only[wt,seval,hF,ha',hb'];rw[List.take_of_length_le (by omega)]at hF;refine ah (t) (by simp only[gQ,tJ,hF];rfl) (by simp) ?_;simp (disch:=omega) only[wt,seval,hF]
theorem JW (p:List RQ)(h:GQ (2^40) (2^38) p):AC Tryz.prog 112 [cqw p] none [cw (((aI (qvs p)).map fun c=>c.num).map canon)]:=by
 have f:=gJ p h;refine AC.aA (rs:=[.tmp 2]) aX Tryz.func112 (by rfl) (by rfl) (by rfl) (by rfl) (by rfl) ?_;simp only[wt,seval];refine ah (f) (by rfl) (by simp) ?_;simp only[wt,seval];unfold cqs;have hAl:=h.qb.aI.1;generalize aI (qvs p)=A at *;have hq:(A.map aP).length=A.length:=List.length_map _;have hnl:(A.map fun c=>c.num).length=A.length:=List.length_map _;refine dS 3 3 30 2 (by simp only[wt,seval]) (fun f H=>∃ (i st:Nat),i≤A.length∧f 4=.iv (.int .i64 i)∧f 0=.iv (.sl (fD (A.map aP)))∧f 3=.hs 3 st∧H 3=.blk false st 30 2 (kF (((A.map fun c=>c.num).take i).map canon))) (fun f H=>(A.length-aY f 4).toNat) ?_ ?_
 ·refine⟨0,1,by omega,?_⟩;simp only[wt,seval,fB,fM,List.take_zero]
 rintro f H ⟨i,st,hi,hF⟩;rw[aB hF.1];simp (disch:=omega) only[wt,seval,rqs,hF];refine aQ (fun hlt=>?_) (fun hlt=>?_)
 ·have hlt':i<A.length:=by omega
  have hrq:(((A.map fun c=>c.num).take i).map canon).length=i:=by rw[List.length_map,List.length_take];omega
  have e:=dR hlt';have e3:lQ (aP (cfq A i)).1=lQ (canon (cfq A i).num):=rfl;have e4:cf (A.map fun c=>c.num) i=(cfq A i).num:=by simp[cf,cfq,List.getD,hlt']
  simp (disch:=omega) only[wt,seval,rqs,hF,hq,hrq,e,e3];have et:=yC (q:=A.map fun c=>c.num) (i:=i) (by omega);rw[e4]at et;refine⟨⟨i+1,st+1,by omega,?_⟩,by omega⟩;rw[et,List.map_append]
  (repeat' apply And.intro)<;>first|rfl|omega
 ·simp (disch:=omega) only[wt,seval,hF];rw[List.take_of_length_le (by omega)]
theorem Qu {A:List Rat}{L:List Int}{s:Rat}(hL:dJ L=L)(h:∀ k,s*cfq A k=(cf L k:Rat)):(aI (qvs (cqs (qO (fma s) [] A)))).map (fun c=>c.num)=L:=by
 rw[vG,dP,mJ (q:=qp L) fun k=>by rw[eG (gK _),jy,zY,← h];unfold fma;grind,a4i,hL,a6F]
theorem Kq (p:List RQ)(n k:Nat)(hp:GQ n k p)(hn:n≤2^28)(hM:n*k+k+2≤2^32)(hk:1≤k):AC Tryz.prog 24 [cqw p] none [cl (wd (jq (aI (qvs p)))),cw ((clr (aI (qvs p))).map canon)]:=by
 have f:=gJ p (hp.mono (by omega) (by omega));have hA:=hp.qb.aI;have tt:=dP (qvs p);have w1:=tK 1 (by omega);refine AC.aA (rs:=[.tmp 2,.tmp 3]) aX Tryz.func24 (by rfl) (by rfl) (by rfl) (by rfl) (by rfl) ?_;simp only[wt,seval];refine ah (f) (by rfl) (by simp) ?_;simp only[wt,seval];unfold cqs;generalize aI (qvs p)=A at *;have hAl:=hA.1;have hq:(A.map aP).length=A.length:=List.length_map _;have hdl:=og A;have e0:wd (ug ((ng A).take 0))=wd 1:=by rw[List.take_zero];rfl
 refine ah (w1) (by rfl) (by simp) ?_;simp only[wt,seval];refine aH (fun f H=>∃ (i:Nat),i≤A.length∧f 5=.iv (.int .i64 i)∧f 0=.iv (.sl (fD (A.map aP)))∧f 4=.iv (.sl (bW (wd (ug ((ng A).take i)))))) (fun f H=>(A.length-aY f 5).toNat) ?_ ?_
 ·refine⟨0,by omega,?_⟩;simp only[wt,seval,e0]
 rintro f H ⟨i,hi,hF⟩;rw[aB hF.1];simp (disch:=omega) only[wt,seval,rqs,hF];refine aQ (fun hlt=>?_) (fun hlt=>?_)
 ·have hlt':i<A.length:=by omega
  obtain⟨a1,a2,a3⟩:=kN (ng A) k yU hA.ng i (by omega);have h2:i*k≤n*k:=Nat.mul_le_mul_right _ (by omega);have e:=dR hlt';have e2:bW (aP (cfq A i)).2=bW (wd (cfq A i).den):=rfl;have hc:qz (cfq A i)≤k:=by rw[kH hlt'];exact hA.2 _ (List.getElem_mem hlt')
  have hc2:=qw (cfq A i);have hdn:=(cfq A i).den_nz;have g:=Ov (wd (cfq A i).den) (wd (ug ((ng A).take i))) (aO _) (aO _) (by omega) (by omega);rw[bC,bC]at g;have hgp:Nat.gcd (cfq A i).den (ug ((ng A).take i))≠0:=Nat.ne_of_gt (Nat.gcd_pos_of_pos_left _ (by omega));have hgl:=bJ (Nat.gcd_le_left (m:=(cfq A i).den) (ug ((ng A).take i)) (by omega));have q:=Ou (wd (cfq A i).den) (wd (Nat.gcd (cfq A i).den (ug ((ng A).take i)))) (aO _) (aO _) (by omega) (by omega) (by rw[bC];exact hgp);rw[bC,bC]at q;have hql:=bJ (Nat.div_le_self (cfq A i).den (Nat.gcd (cfq A i).den (ug ((ng A).take i))));have t:=rH (wd (ug ((ng A).take i))) (wd ((cfq A i).den/Nat.gcd (cfq A i).den (ug ((ng A).take i)))) (aO _) (aO _) (by omega) (by omega);have el:ug ((ng A).take i)*((cfq A i).den/Nat.gcd (cfq A i).den (ug ((ng A).take i)))=ug ((ng A).take (i+1)):=by
   rw[Nat.mul_comm,OX,Nat.lcm_comm,wY (by omega),IK hlt']
  rw[bC,bC,el]at t;simp (disch:=omega) only[wt,seval,rqs,hF,hq,e,e2];refine .inl ⟨aS (by kernel_rfl),?_⟩;refine ah (g) (by rfl) (by simp) ?_;simp (disch:=omega) only[wt,seval];refine ah (q) (by rfl) (by simp) ?_;simp (disch:=omega) only[wt,seval,hF];refine⟨bH (by kernel_rfl),?_⟩;refine ah (t) (by rfl) (by simp) ?_;simp (disch:=omega) only[wt,seval,hF];refine⟨⟨i+1,by omega,?_⟩,by omega⟩
  (repeat' apply And.intro)<;>first|rfl|omega
 ·have hie:i=A.length:=by omega
  subst hie;rw[List.take_of_length_le (by omega),show ug (ng A)=jq A from rfl]at hF;have hcd:=je hA;have i1:=yK false (wd (jq A)) (aO _) (by omega);rw[bC,sgf]at i1;have z1:=a9a (canon (jq A:Int)) ((aW _).mono (by rw[jh];omega));rw[aN,Rat.intCast_natCast]at z1;have zq:qz (jq A:Rat)≤n*k+k+2:=by
   have h1:=a2u (jq A:Int);rw[Rat.intCast_natCast,jh]at h1;omega
  have pl:=tu [] (A.map aP) (aP (jq A:Rat)) (n*k+k+2) ⟨Nat.zero_le _,fun r hr=>nomatch hr⟩ (hA.gq.mono (by omega) (by omega)) (aZ zq) (bI _) (by omega) (by omega);rw[dB,gV,show qvs []=[] from rfl]at pl;have hX:QB (2^40) (2^38) (qO (fma (jq A:Rat)) [] A):=.of (by rw[qg,List.length_nil];omega) fun i=>by
   rw[eG (gK _),jy];have h1:=hA.cz hk i;have h2:=qQ (jq A:Rat) (cfq A i);have h3:=FD 0 ((jq A:Rat)*cfq A i);rw[lD]at h3;unfold fma;omega
  have wh:=JW (cqs (qO (fma (jq A:Rat)) [] A)) hX.gqs;rw[Qu (SI tt) fun k=>by rw[MR,Rat.mul_comm]]at wh;simp (disch:=omega) only[wt,seval,hF];refine ah (i1) (by rfl) (by simp) ?_;simp only[wt,seval];refine ah (z1) (by rfl) (by simp) ?_;simp only[wt,seval,hF];refine ah (pl) (by rfl) (by simp) ?_;simp only[wt,seval];refine ah (wh) (by rfl) (by simp) ?_;simp (disch:=omega) only[wt,seval]
  try rfl
def nK (A:List Rat):Rat:=(cont (clr A):Rat)/(((jq A:Nat):Int):Rat)
theorem PL {A:List Rat}(h:aI A=A)(h0:A.length≠0):cont (clr A)≠0:=by
 have ht:=iY h;have hp:=fF (q:=A) (by omega);intro e;have hg:gz (clr A)=0:=by rw[← vN,e];rfl
 have hd:=a2J (clr A) (tzq A-1);rw[hg]at hd;exact hp (J3.mp (Int.zero_dvd.mp hd))
theorem Gt {n k:Nat}{q:List Int}(h:PB n k q):zl (cont q)≤k:=by
 unfold zl;rw[vN];have:=RS (p:=q.map canon) (RP.canon h);rwa [lN]at this
theorem WR:nK []=0:=by decide +kernel
theorem a0u:cp (yN [])=cw []:=by
 have:cp (yN [])=cp []:=Yd fun k=>by
  unfold yN;rw[xI,zZ,Int.zero_ediv]
 rw[this];rfl
theorem Zv (p:List RQ)(n k:Nat)(hp:GQ n k p)(hn:n≤2^28)(hM:n*k+k+2≤2^32)(hk:1≤k):AC Tryz.prog 25 [cqw p] none [cqz (nK (aI (qvs p))),cp (yN (clr (aI (qvs p))))]:=by
 have f:=gJ p (hp.mono (by omega) (by omega));have hA:=hp.qb.aI;have tt:=dP (qvs p);have z0:=qX 0 1 (by omega) (by omega) (by omega) (by omega);rw[show ((0:Int):Rat)/((1:Nat):Rat)=0 by decide +kernel]at z0;have w0:=tK 0 (by omega);have o1:=P9;refine AC.aA (rs:=[.cell 2 32,.tmp 3]) aX Tryz.func25 (by rfl) (by rfl) (by rfl) (by rfl) (by rfl) ?_;simp (disch:=omega) only[wt,seval];refine ah (f) (by rfl) (by simp) ?_;simp (disch:=omega) only[wt,seval,rqs];unfold cqs;generalize aI (qvs p)=A at *;have hAl:=hA.1;have hq:(A.map aP).length=A.length:=List.length_map _;by_cases h0:A.length=0
 ·have h0':((A.map aP).length:Int)=0:=by omega
  have e:A=[]:=List.length_eq_zero_iff.mp h0;subst e;rw[WR,show cp (yN (clr []))=cw [] from a0u];simp only[wt,seval,rqs];refine ah (z0) (by rfl) (by simp) ?_;simp (disch:=omega) only[wt,seval,rqs]
  try rfl
 have h0':¬((A.map aP).length:Int)=0:=by omega
 have c:=Kq (A.map aP) n k hA.gq hn hM hk;rw[gV,tt]at c;have hB:=hA.clr;have hcl:=qF A;have hqc:((clr A).map canon).length=A.length:=by rw[List.length_map,hcl]
 have e0:wd (gz ((clr A).take 0))=wd 0:=by rw[List.take_zero];rfl
 have hgl:∀ i,(wd (gz ((clr A).take i))).length≤k+n*k+1:=fun i=>by
  have:=RS (p:=((clr A).take i).map canon) (RP.canon (Ql hB i));rwa [lN]at this
 have hc0:=PL tt h0;simp only[wt,seval,h0'];refine ah (c) (by rfl) (by simp) ?_;simp (disch:=omega) only[wt,seval];refine ah (w0) (by rfl) (by simp) ?_;simp only[wt,seval];refine aH (fun f H=>∃ (i:Nat),i≤A.length∧f 7=.iv (.int .i64 i)∧f 0=.iv (.sl (fD (A.map aP)))∧f 5=.iv (.sl (kF ((clr A).map canon)))∧f 4=.iv (.sl (bW (wd (jq A))))∧f 6=.iv (.sl (bW (wd (gz ((clr A).take i)))))∧f 2=.hp 2 1 0 0∧H 2=.blk false 1 32 3 [[.bool false,.sl [],.sl []]]) (fun f H=>(A.length-aY f 7).toNat) ?_ ?_
 ·refine⟨0,by omega,?_⟩;simp only[wt,seval,e0]
 rintro f H ⟨i,hi,hF⟩;rw[aB hF.1];simp (disch:=omega) only[wt,seval,hF];refine aQ (fun hlt=>?_) (fun hlt=>?_)
 ·have hlt':i<A.length:=by omega
  have e1:=pK (clr A) i;have e2:(canon (cf (clr A) i)).2=wd (cf (clr A) i).natAbs:=rfl;have hz:=hB.cf i;have g:=Ov (wd (gz ((clr A).take i))) (wd (cf (clr A) i).natAbs) (aO _) (aO _) (Nat.le_trans (hgl i) (by omega)) (Nat.le_trans hz (by omega));rw[bC,bC,← Dw (by omega)]at g;simp (disch:=omega) only[wt,seval,hF,hqc,e1];refine ah (g) (by rfl) (by simp) ?_;simp (disch:=omega) only[wt,seval,hF];refine⟨⟨i+1,by omega,?_⟩,by omega⟩
  (repeat' apply And.intro)<;>first|rfl|omega
 ·have hie:i=A.length:=by omega
  subst hie;rw[List.take_of_length_le (by omega)]at hF;have ej:(A.length:Int)-1=((A.length-1:Nat):Int):=by omega
  have e1:=pK (clr A) (A.length-1);have tz1:tz (clr A)=A.length:=by rw[← iy,SI tt,hcl]
  have e2:decide (cf (clr A) (A.length-1)<0)=decide (lc (clr A)<0):=by unfold lc;rw[tz1]
  have hgf:(wd (gz (clr A))).length≤k+n*k+1:=by have:=hgl A.length;rwa [List.take_of_length_le (by omega)]at this
  have i1:=yK (decide (lc (clr A)<0)) (wd (gz (clr A))) (aO _) (by omega);rw[bC,show sg (decide (lc (clr A)<0)) (gz (clr A))=cont (clr A) from rfl]at i1;have hcd:=je hA;have hd0:=jJ A;have zc:=Gt hB;have r1:=Ot (canon (cont (clr A))) (wd (jq A)) ((aW _).mono (by omega)) ⟨by omega,aO _⟩ (by rw[bC];exact hd0);rw[aN,bC,show mkRat (cont (clr A)) (jq A)=nK A by rw[Rat.mkRat_eq_div];unfold nK;rw[Rat.intCast_natCast]]at r1;have zp:qz (nK A)≤n*k+k+2:=vF hd0 (by omega) (by omega);have hpn:nK A≠0:=by
   have h1:((cont (clr A):Int):Rat)≠0:=fun e=>hc0 (Rat.intCast_eq_zero_iff.mp e)
   have h2:(((jq A:Nat):Int):Rat)≠0:=fun e=>hd0 (by have:=Rat.intCast_eq_zero_iff.mp e;omega)
   unfold nK;intro e;have h3:=Rat.div_mul_cancel (a:=((cont (clr A):Int):Rat)) h2;rw[e,Rat.zero_mul]at h3;exact h1 h3.symm
  have ov:=RN (aP 1) (aP (nK A)) (aZ (by rw[KJ];omega)) (aZ (by omega)) (bI _) (bI _) (by rw[P5];exact fun e=>hpn (Rat.num_eq_zero.mp e));rw[dB,dB]at ov;have zi:qz (1/nK A)≤n*k+k+2:=by
   have h1:(1:Rat)/nK A=((jq A:Nat):Rat)/((cont (clr A):Int):Rat):=by
    have h1:((cont (clr A):Int):Rat)≠0:=fun e=>hc0 (Rat.intCast_eq_zero_iff.mp e)
    have h2:(((jq A:Nat):Int):Rat)≠0:=fun e=>hd0 (by have:=Rat.intCast_eq_zero_iff.mp e;omega)
    unfold nK;rw[← Rat.intCast_natCast]
    grind
   rw[h1,← Rat.intCast_natCast,← Rz hc0];refine Oz (by omega) ?_ ?_
   ·split
    ·rw[zu,jh];omega
    ·rw[jh];omega
   ·exact Nat.le_trans zc (by omega)
  have pl:=tu [] (A.map aP) (aP (1/nK A)) (n*k+k+2) ⟨Nat.zero_le _,fun r hr=>nomatch hr⟩ (hA.gq.mono (by omega) (by omega)) (aZ zi) (bI _) (by omega) (by omega);rw[dB,gV,show qvs []=[] from rfl]at pl;have hX:QB (2^40) (2^38) (qO (fma (1/nK A)) [] A):=.of (by rw[qg,List.length_nil];omega) fun i=>by
   rw[eG (gK _),jy];have h1:=hA.cz hk i;have h2:=qQ (1/nK A) (cfq A i);have h3:=FD 0 ((1/nK A)*cfq A i);rw[lD]at h3;unfold fma;omega
  have wh:=JW (cqs (qO (fma (1/nK A)) [] A)) hX.gqs;have hpc:∀ k,(1/nK A)*cfq A k=(cf (yN (clr A)) k:Rat):=fun k=>by
   have h1:((cont (clr A):Int):Rat)≠0:=fun e=>hc0 (Rat.intCast_eq_zero_iff.mp e)
   have h2:(((jq A:Nat):Int):Rat)≠0:=fun e=>hd0 (by have:=Rat.intCast_eq_zero_iff.mp e;omega)
   obtain⟨m,hm⟩:=IZ (clr A) k;have h3:=MR A k;unfold yN;rw[xI,hm,Int.mul_ediv_cancel_left _ hc0];rw[hm,Rat.intCast_mul,← Rat.intCast_natCast]at h3;unfold nK
   grind
  have tp:tz (yN (clr A))=A.length:=by
   have:=Vg (q:=yN (clr A)) (n:=A.length-1) (by
    intro e;have h1:=hpc (A.length-1);rw[e,Rat.intCast_zero]at h1;rcases Rat.mul_eq_zero.mp h1 with h2|h2
    ·have h3:=Rat.div_mul_cancel (a:=(1:Rat)) hpn;rw[h2,Rat.zero_mul]at h3;exact absurd h3 (by decide +kernel)
    ·have hp:=fF (q:=A) (by rw[iY tt];exact h0);rw[iY tt]at hp;exact hp h2) fun k hk=>xJ (by unfold yN La;rw[List.length_map,hcl];omega)
   omega
  have tpr:dJ (yN (clr A))=yN (clr A):=by
   rw[dJ,tp,List.take_of_length_le (by unfold yN La;rw[List.length_map,hcl];exact Nat.le_refl _)]
  rw[Qu tpr hpc,show cw ((yN (clr A)).map canon)=cp (yN (clr A)) by unfold cp IY;rw[tpr]]at wh;simp (disch:=omega) only[wt,seval,hF,hqc,ej,e1,e2];refine ah (i1) (by rfl) (by simp) ?_;simp only[wt,seval,hF];refine ah (r1) (by rfl) (by simp) ?_;simp (disch:=omega) only[wt,seval,rqs];refine .inl ⟨aS (by kernel_rfl),?_⟩;refine ah (o1) (by rfl) (by simp) ?_;simp (disch:=omega) only[wt,seval,rqs];refine ah (ov) (by rfl) (by simp) ?_;simp only[wt,seval,hF];refine ah (pl) (by rfl) (by simp) ?_;simp only[wt,seval];refine ah (wh) (by rfl) (by simp) ?_;simp (disch:=omega) only[wt,seval,rqs,hF];exact bH (by kernel_rfl)
  try rfl
theorem Fa {p:List RI}(h:RP (2^40) (2^43) p):AC Tryz.prog 32 [cw p,cw p] none [cb true]:=by
 have:=Zf p p h h;rwa [decide_eq_true rfl]at this
theorem Oo (l:List RQ):(fD l).length=l.length:=by simp[fD]
theorem cO (x y z:IV)(b c:OB)(r:RQ):splice [x,y,z] 0 (frq b c r)=frq b c r:=rfl
theorem bF (b c:OB)(r:RQ):List.take 3 (frq b c r)=frq b c r:=rfl
def aU (bs:List (OB×OB))(l:List RQ):List (List IV):=List.zipWith (fun b r=>frq b.1 b.2 r) bs l
theorem bG {bs:List (OB×OB)}{l:List RQ}(h:bs.length=l.length):(aU bs l).length=l.length:=by simp[aU,h]
theorem jI {bs:List (OB×OB)}{l:List RQ}(h:bs.length=l.length)(b c:OB)(r:RQ):aU bs l++[frq b c r]=aU (bs++[(b,c)]) (l++[r]):=by
 rw[aU,aU,List.zipWith_append h];rfl
theorem rZ {bs:List (OB×OB)}{l:List RQ}(h:bs.length=l.length){i:Nat}(hi:i<l.length):(aU bs l)[i]?=some (frq (bs.getD i (none,none)).1 (bs.getD i (none,none)).2 (l.getD i q0)):=by
 have h2:i<bs.length:=by omega
 simp[aU,List.getElem?_zipWith,List.getD,hi,h2]
theorem kP {bs:List (OB×OB)}{l:List RQ}(h:bs.length=l.length){i:Nat}(hi:i<l.length):(aU bs l).getD i []=frq (bs.getD i (none,none)).1 (bs.getD i (none,none)).2 (l.getD i q0):=by
 rw[List.getD,rZ h hi];rfl
theorem bK (bs:List (OB×OB))(l:List RQ):(∀ r∈aU bs l,r.length=3)↔True:=⟨fun _=>trivial,fun _ r hr=>by
 obtain⟨i,hi⟩:=List.getElem?_of_mem hr;rw[aU,List.getElem?_zipWith]at hi;split at hi
 ·injection hi with hi;rw[← hi];rfl
 ·cases hi⟩
theorem DF (bs:List (OB×OB))(l:List RQ)(k:Nat):(aU bs l).take k=aU (bs.take k) (l.take k):=by rw[aU,aU,List.take_zipWith]
def idq (bs:List (OB×OB)):List Nat:=bs.flatMap fun p=>oid p.1++oid p.2
theorem uh (bs:List (OB×OB))(b c:OB):idq (bs++[(b,c)])=idq bs++(oid b++oid c):=by simp[idq]
theorem Dt (n:Nat):idq (List.replicate n (none,none))=[]:=by simp[idq,oid]
theorem iG:∀ {bs:List (OB×OB)} {l:List RQ},bs.length=l.length→bf (aU bs l)=idq bs
 | [],_,h=>by simp[aU,idq,bf]
 | p::bs,[],h=>by simp at h
 | (b,c)::bs,r::l,h=>by
  have ih:=iG (bs:=bs) (l:=l) (by simpa using h);simp only[aU,idq,List.zipWith_cons_cons,bf,List.flatMap_cons,gX,IV.ids,List.nil_append,List.append_nil,xg]at ih ⊢;rw[ih];cases b<;>cases c<;>rfl
abbrev fqp (b:OB)(bs:List (OB×OB))(l:List RQ):IV:=.own b 32 3 (aU bs l)
def RQp (l:List RQ)(e:Int)(B E:Nat)(res:List CV):Prop:=∃ b bs,res=[.iv (fqp b bs l),ci e]∧bs.length=l.length∧Nw B E (oid b++idq bs)
theorem Il (l:List RQ)(e:Int)(B:Nat):∃ E res,B≤E∧RQp l e B E res:=⟨B,_,Nat.le_refl _,none,List.replicate l.length (none,none),rfl,by simp,by rw[Dt];exact .nil _ _⟩
theorem ZJ {b:OB}{bs:List (OB×OB)}{l:List RQ}(h:bs.length=l.length):NU (fqp b bs l) (.sl (fD l)):=by
 have key:∀ (i:Nat) (r r':List IV),(aU bs l)[i]?=some r→(fD l)[i]?=some r'→∃ b c,r=frq b c (l.getD i q0)∧r'=nJ (l.getD i q0):=by
  intro i r r' hr hr';have hi:i<l.length:=by
   have:=(List.getElem?_eq_some_iff.1 hr).1;rw[bG h]at this;exact this
  rw[rZ h hi]at hr;simp only[fD,List.getElem?_map,List.getElem?_eq_getElem hi,Option.map_some,Option.some.injEq]at hr';refine⟨_,_,by injection hr with hr;exact hr.symm,by rw[← hr'];simp[List.getD,hi]⟩
 refine .own _ _ _ _ _ (by rw[bG h,AA]) (fun i r r' hr hr'=>?_) (fun i r r' hr hr' j x x' hx hx'=>?_)
 ·obtain⟨b,c,rfl,rfl⟩:=key i r r' hr hr';rfl
 ·obtain⟨b,c,rfl,rfl⟩:=key i r r' hr hr'
  match j with
  | 0=>cases hx;cases hx';exact .refl _
  | 1=>cases hx;cases hx';exact wo
  | 2=>cases hx;cases hx';exact wo
  | j+3=>simp at hx
theorem Ld {B E F:Nat}{b:OB}{l:List Nat}(h:Nw B E l)(hE:E≤F)(hb:∀ g cap,b=some (g,cap)→B≤g∧g<F∧g∉l):Nw B F (oid b++l):=by
 cases b with
 | none=>exact h.mono (Nat.le_refl _) hE
 | some g =>
  have:=hb g.1 g.2 rfl;exact(h.mono (Nat.le_refl _) hE).cons this.2.2 this.1 this.2.1
theorem tX (X:List Rat)(bs:List (OB×OB))(hb:bs.length=X.length)(h:QB (2^40) (2^38) X):ACT Tryz.prog 93 [.any] 0 32 3 (aU bs (X.map aP)) (aU (bs.take (tzq X)) (cqs X)):=by
 have fin:∀ k,k=tzq X→aU (bs.take (tzq X)) (cqs X)=(aU bs (X.map aP)).take k:=fun k e=>by rw[DF,← List.map_take,e];rfl
 have htl:=uM X;have hl:=h.1;have hbl:bs.length=(X.map aP).length:=by rw[List.length_map];exact hb
 have hq:(aU bs (X.map aP)).length=X.length:=by rw[bG hbl,List.length_map]
 refine ACT.aA (rs:=[.tmp 2]) aX Tryz.func93 (by rfl) (by rfl) (by rfl) (by rfl) (by rfl) ?_;simp (disch:=omega) only[wt,seval];refine aH (fun f H=>∃ k:Nat,k≤X.length∧f 0=.hs 0 1∧f 3=.iv (.int .i64 k)∧H 0=.blk false 1 32 3 (aU bs (X.map aP))∧tzq (X.take k)=tzq X) (fun f H=>(aY f 3).toNat) ?_ ?_
 ·exact⟨X.length,Nat.le_refl _,by simp only[wt,seval],by simp only[wt,seval,hq],by simp only[wt,seval],by rw[List.take_length]⟩
 rintro f H ⟨k,hk,h0,h3,hh,ht⟩;rw[aB h3];by_cases hc:0<(k:Int)
 ·have ek:((k:Int)-1).toNat=k-1:=by omega
  have ek':k=(k-1)+1:=by omega
  have e:=kP hbl (i:=k-1) (by rw[List.length_map];omega);have e2:(X.map aP).getD (k-1) q0=aP (cfq X (k-1)):=by
   have hk1:k-1<X.length:=by omega
   simp[List.getD,cfq,hk1]
  rw[e2]at e;have z:=(KO (aP (cfq X (k-1))) (aZ (h.cz (by omega) _)) (bI _)).soft (.cons (nU (bs.getD (k-1) (none,none)).1 (bs.getD (k-1) (none,none)).2 _) .nil);rw[dB]at z;simp (disch:=omega) only[wt,seval,bF,h0,h3,hh,hc,ek,hq,e];refine ah (z) (by rfl) (by simp) ?_;simp (disch:=omega) only[wt,seval];by_cases hz:cfq X (k-1)=0
  ·simp (disch:=omega) only[wt,seval,h0,h3,hh,hz];refine⟨⟨k-1,by omega,by omega,?_⟩,by omega⟩;rw[← lJ (k:=k-1) (by omega) hz,← ek',ht]
  ·simp (disch:=omega) only[wt,seval,h0,h3,hh,hz];have hk:k=tzq X:=by
    have:=vT (q:=X) (k:=k-1) (by omega) hz;rw[← ek',ht]at this;exact this.symm
   refine⟨by omega,fin k hk⟩
 ·have hk:k=tzq X:=by
   obtain rfl:k=0:=by omega
   rw[← ht];rfl
  simp (disch:=omega) only[wt,seval,h0,h3,hh,hc];refine⟨by omega,fin k hk⟩
theorem QU (a b:RQ)(ha:SzQ (2^35) a)(hb:SzQ (2^35) b)(h0:nv a.2≠0)(h1:nv b.2≠0):ACX Tryz.prog 87 [cqq a,cqq b] (Zd (aP (qv a+qv b)) 0):=by
 have c:=qx a b (ha.mono (by omega)) (hb.mono (by omega)) h0 h1;have t1:=wK a.1 b.2 (ha.1.mono (by omega)) ⟨Nat.le_trans hb.2.1 (by omega),hb.2.2⟩;have t2:=wK b.1 a.2 (hb.1.mono (by omega)) ⟨Nat.le_trans ha.2.1 (by omega),ha.2.2⟩;have z1:=jL (iv a.1) (nv b.2:Nat);have z2:=jL (iv b.1) (nv a.2:Nat);have y1:=lI ha.1;have y2:=lI hb.1;have y3:=vI ha.2;have y4:=vI hb.2;have z3:=Fe (iv a.1*(nv b.2:Nat)) (iv b.1*(nv a.2:Nat));have s:=V5 (canon (iv a.1*(nv b.2:Nat))) (canon (iv b.1*(nv a.2:Nat))) ((aW _).mono (by omega)) ((aW _).mono (by omega));rw[aN,aN]at s;have m:=Dc a.2 b.2 ha.2.2 hb.2.2 (Nat.le_trans ha.2.1 (by omega)) (Nat.le_trans hb.2.1 (by omega));have hw:(wd (nv a.2*nv b.2)).length≤2^35+2^35:=oz y3 y4;have r:=wL (canon (iv a.1*(nv b.2:Nat)+iv b.1*(nv a.2:Nat))) (wd (nv a.2*nv b.2)) ((aW _).mono (by omega)) ⟨by omega,aO _⟩ (by rw[bC];exact Nat.mul_ne_zero h0 h1);rw[aN,bC,a2D h0 h1]at r;refine ACX.aA zi0 (rs:=[.cell 4 32,.tmp 5]) aX Tryz.func87 (by rfl) (by rfl) (by rfl) (by rfl) (by rfl) (D9 _ _) (fun B0=>?_);simp (disch:=omega) only[wt,seval,rqs,Az];refine ah (c) (by rfl) (by simp) ?_;simp (disch:=omega) only[wt,seval,rqs];refine .inl ⟨aS (by kernel_rfl),?_⟩;refine ah (t1) (by rfl) (by simp) ?_;simp (disch:=omega) only[wt,seval,rqs];refine ah (t2) (by rfl) (by simp) ?_;simp only[wt,seval];refine ah (s) (by rfl) (by simp) ?_;simp (disch:=omega) only[wt,seval];refine ah (m) (by rfl) (by simp) ?_;simp only[wt,seval];refine aK (r) (by rfl) (by simp) (by rfl) ?_;rintro B1 E1 _ hB1 hE1 ⟨b1,c1,rfl,hb1⟩;simp (disch:=omega) only[wt,seval,cO];refine⟨bH (by kernel_rfl),?_⟩;refine aT [.agg (frq b1 c1 (aP (qv a+qv b))),ci 0] (by rfl) (by simp (disch:=omega) only[wt,seval,bF]) ?_;intro E hE;exact⟨b1,c1,rfl,hb1.mono hB1 (by omega)⟩
theorem CP (a b:RI)(ha:Sz (2^38) a)(hb:Sz (2^38) b)(h0:iv b≠0):ACX Tryz.prog 102 [cr a,cr b] (Zd (aP ((iv a:Rat)/(iv b:Rat))) 0):=by
 have s:=pY b (hb.mono (by omega));have hs0:(iv b).sign≠0:=fun h=>h0 (Int.sign_eq_zero_iff_zero.mp h)
 have n:=NZ a (ha.mono (by omega));have w:=Qq b (hb.mono (by omega));have za:=lI ha;have zb:=lI hb;have d:=Rz (a:=iv a) h0;refine ACX.aA zi0 (rs:=[.cell 4 32,.tmp 5]) aX Tryz.func102 (by rfl) (by rfl) (by rfl) (by rfl) (by rfl) (D9 _ _) (fun B0=>?_);simp (disch:=omega) only[wt,seval];refine ah (s) (by rfl) (by simp) ?_;simp (disch:=omega) only[wt,seval];simp (disch:=omega) only[wt,seval,hs0];refine ah (s) (by rfl) (by simp) ?_;simp (disch:=omega) only[wt,seval];have hsg:=sign_neg (iv b);by_cases h:iv b<0
 ·have h1:=hsg.mpr h;rw[if_pos h]at d;have r:=wL (canon (-iv a)) (wd (iv b).natAbs) ((aW _).mono (by rw[zu];exact za)) ⟨zb,aO _⟩ (by rw[bC];omega);rw[aN,bC,d]at r;simp (disch:=omega) only[wt,seval,h1];refine ah (n) (by rfl) (by simp) ?_;simp (disch:=omega) only[wt,seval];refine .inl ⟨aS (by kernel_rfl),?_⟩;refine ah (w) (by rfl) (by simp) ?_;simp only[wt,seval];refine aK (r) (by rfl) (by simp) (by rfl) ?_;rintro B1 E1 _ hB1 hE1 ⟨b1,c1,rfl,hb1⟩;simp (disch:=omega) only[wt,seval,cO];refine⟨bH (by kernel_rfl),?_⟩;refine aT [.agg (frq b1 c1 (aP ((iv a:Rat)/(iv b:Rat)))),ci 0] (by rfl) (by simp (disch:=omega) only[wt,seval,bF]) ?_;intro E hE;exact⟨b1,c1,rfl,hb1.mono hB1 (by omega)⟩
 ·have h1:¬(iv b).sign<0:=fun h'=>h (hsg.mp h')
  rw[if_neg h]at d;have r:=wL a (wd (iv b).natAbs) ha ⟨zb,aO _⟩ (by rw[bC];omega);rw[bC,d]at r;simp (disch:=omega) only[wt,seval,h1];refine .inl ⟨aS (by kernel_rfl),?_⟩;refine ah (w) (by rfl) (by simp) ?_;simp only[wt,seval];refine aK (r) (by rfl) (by simp) (by rfl) ?_;rintro B1 E1 _ hB1 hE1 ⟨b1,c1,rfl,hb1⟩;simp (disch:=omega) only[wt,seval,cO];refine⟨bH (by kernel_rfl),?_⟩;refine aT [.agg (frq b1 c1 (aP ((iv a:Rat)/(iv b:Rat)))),ci 0] (by rfl) (by simp (disch:=omega) only[wt,seval,bF]) ?_;intro E hE;exact⟨b1,c1,rfl,hb1.mono hB1 (by omega)⟩
theorem KU (r:RQ)(h:SzQ (2^38) r)(h0:nv r.2≠0):ACX Tryz.prog 92 [cqq r] (Zd (aP (qv r)) 0):=by
 have c:=qy r ⟨Nat.le_trans h.2.1 (by omega),h.2.2⟩ h0;have m:=wL r.1 r.2 h.1 h.2 h0;refine ACX.aA zi0 (rs:=[.cell 2 32,.tmp 3]) aX Tryz.func92 (by rfl) (by rfl) (by rfl) (by rfl) (by rfl) (D9 _ _) (fun B0=>?_);simp (disch:=omega) only[wt,seval,rqs];refine ah (c) (by rfl) (by simp) ?_;simp (disch:=omega) only[wt,seval,rqs];refine aK (m) (by rfl) (by simp) (by rfl) ?_;rintro B1 E1 _ hB1 hE1 ⟨b1,c1,rfl,hb1⟩;simp (disch:=omega) only[wt,seval,cO];refine aT [.agg (frq b1 c1 (aP (qv r))),ci 0] (by rfl) (by simp (disch:=omega) only[wt,seval,bF];rfl) ?_;intro E hE;exact⟨b1,c1,rfl,hb1.mono hB1 (by omega)⟩
theorem a1j {B E:Nat}{bs:List (OB×OB)}(k:Nat)(h:Nw B E (idq bs)):Nw B E (idq (bs.take k)):=by
 have e:idq bs=idq (bs.take k)++idq (bs.drop k):=by
  rw[idq,idq,idq,← List.flatMap_append,List.take_append_drop]
 rw[e]at h;exact⟨(List.nodup_append.1 h.1).1,fun g hg=>h.2 g (List.mem_append_left _ hg)⟩
theorem take_len {α:Type}{bs:List α}{n k:Nat}(h:bs.length=n)(hk:k≤n):(bs.take k).length=k:=by rw[List.length_take];omega
theorem QM {B E E2:Nat}{bs:List (OB×OB)}{X:List Rat}{b:OB}(hb:bs.length=X.length)(hn:Nw B E (idq bs))(hE:E≤E2)(h:∀ g cap,b=some (g,cap)→B≤g∧g<E2∧g∉bf (aU (bs.take (tzq X)) (cqs X))):(bs.take (tzq X)).length=(cqs X).length∧Nw B E2 (oid b++idq (bs.take (tzq X))):=by
 have e:(bs.take (tzq X)).length=(cqs X).length:=by rw[PI,take_len hb (uM X)]
 rw[iG e]at h;exact⟨e,Ld (a1j _ hn) hE h⟩
set_option maxRecDepth 4000 in
theorem yL (p:List RQ)(h:GQ (2^40) (2^38) p):ACX Tryz.prog 15 [cqw p] (RQp (cqs (qvs p)) 0):=by
 refine ACX.aA zi0 (rs:=[.tmp 2,.tmp 3]) aX Tryz.func15 (by rfl) (by rfl) (by rfl) (by rfl) (by rfl) (Il _ _) (fun B=>?_);have hl:=h.1;have hvl:(qvs p).length=p.length:=gG p;simp (disch:=omega) only[wt,seval,rqs];refine dS 4 4 32 3 (by simp only[wt,seval]) (fun f H=>∃ (i st:Nat) (bs:List (OB×OB)) (E:Nat),i≤p.length∧bs.length=i∧B≤E∧Nw B E (idq bs)∧f 9=.iv (.sl (fD p))∧f 10=.iv (.int .i64 p.length)∧f 11=.iv (.int .i64 i)∧f 4=.hs 4 st∧H 4=.blk false st 32 3 (aU bs (((qvs p).take i).map aP))∧H 999=.mrk E) (fun f H=>(p.length-aY f 11).toNat) ?_ ?_
 ·refine⟨0,1,[],B,by omega,rfl,Nat.le_refl _,.nil _ _,?_⟩;simp only[wt,seval,fB,fM,List.take_zero];rfl
 rintro f H ⟨i,st,bs,E,hi,hbs,hBE,hnw,h9,h10,h11,h4,hH,Iz⟩;rw[aB h11];simp (disch:=omega) only[wt,seval,h10,h11];have hq:(((qvs p).take i).map aP).length=i:=by rw[List.length_map,List.length_take];omega
 have hql:(aU bs (((qvs p).take i).map aP)).length=i:=by rw[bG (by omega),hq]
 refine aQ (fun hlt=>?_) (fun hlt=>?_)
 ·have hlt':i<p.length:=by omega
  have m:=KU (p.getD i q0) (h.get hlt') (h.den hlt');rw[← Ed]at m;simp (disch:=omega) only[wt,seval,rqs,h9,h11];refine aK (m) (by rfl) (by simp) (by assumption) ?_;rintro B' E' _ hB hE ⟨b,c,rfl,hb⟩;simp (disch:=omega) only[wt,seval,cO,bF,h9,h10,h11,h4,hH,hql];have e:=fG (q:=qvs p) (i:=i) (by omega);refine⟨⟨i+1,st+1,bs++[(b,c)],E',by omega,by simp[hbs],by omega,?_,by omega,rfl,?_,rfl⟩,by omega⟩
  ·rw[uh];exact hnw.append hb (by omega) hB (by omega)
  ·rw[e,List.map_append,jI (by omega)];rfl
 ·simp (disch:=omega) only[wt,seval,h4];obtain rfl:i=p.length:=by omega
  rw[List.take_of_length_le (by omega)]at hH;have t:=tX (qvs p) bs (by omega) h.qb;refine uH (t) (by first|rfl|(simp only[wt,seval,rqs,dD,dh,dK,cO,bF,bK,h9,h10,h11,h4,hH,Iz];done)) (by first|rfl|(simp only[seval,hH];done)) (by rfl) (by simp) (by simp) ?_;simp only[wt,seval];refine rP 2 4 _ 32 3 ((aU (bs.take (tzq (qvs p))) (cqs (qvs p)))) (by first|rfl|assumption|simp only[wt,seval,rqs,dD,dh,dK,cO,bF,bK]) (by first|rfl|assumption|simp only[wt,seval,rqs,dD,dh,dK,cO,bF,bK]) (by assumption) ?_;rintro b E2 hE2 hb;refine aT [.iv (fqp b (bs.take (tzq (qvs p))) (cqs (qvs p))),ci 0] (by rfl) (by simp (disch:=omega) only[wt,seval]) ?_;intro E hE;obtain⟨e1,e2⟩:=QM (by omega) hnw hE2 (fun g cap e=>⟨(hb.2 g cap e).1,(hb.2 g cap e).2.1,(hb.2 g cap e).2.2.1⟩);exact⟨b,_,rfl,e1,e2.mono (Nat.le_refl _) hE⟩
set_option maxRecDepth 4000 in
theorem KW (p q:List RQ)(g:Nat)(F:Rat→Rat→Rat)(K:Nat)(hp:GQ (2^30) K p)(hq:GQ (2^30) K q)(hK:K≤2^35)(hK1:1≤K)(hF0:F 0 0=0)(hs:∀ a b,qz a≤K→qz b≤K→qz (F a b)≤2^38)
  (hop:∀ a b,qz a≤K→qz b≤K→ACX Tryz.prog g [cqz a,cqz b] (Zd (aP (F a b)) 0)):ACX Tryz.prog 86 [cqw p,cqw q,.fn g []] (RQp (cqs (qO F (qvs p) (qvs q))) 0):=by
 have m:=AO p q (hp.mono (by omega) (by omega)) (hq.mono (by omega) (by omega));have hA:=hp.qb.aI;have hB:=hq.qb.aI;have e:cqs (qO F (qvs p) (qvs q))=cqs (qO F (aI (qvs p)) (aI (qvs q))):=(iT fun k=>by rw[eG hF0,eG hF0,dZ,dZ]);rw[e];refine ACX.aA zi0 (rs:=[.tmp 6,.tmp 7]) aX Tryz.func86 (by rfl) (by rfl) (by rfl) (by rfl) (by rfl) (Il _ _) (fun B0=>?_);simp only[wt,seval];refine ah (m) (by rfl) (by simp) ?_;simp (disch:=omega) only[wt,seval,rqs];have ua:cqs (qvs p)=(aI (qvs p)).map aP:=rfl;have ub:cqs (qvs q)=(aI (qvs q)).map aP:=rfl;rw[ua,ub];clear ua ub m e;generalize aI (qvs p)=A at *;generalize aI (qvs q)=B at *;have hAl:=hA.1;have hBl:=hB.1;have hqa:(A.map aP).length=A.length:=List.length_map _;have hqb:(B.map aP).length=B.length:=List.length_map _;have hRl:=qg F A B;have hR:QB (2^40) (2^38) (qO F A B):=.of (by omega) fun i=>by rw[eG hF0];exact hs _ _ (hA.cz hK1 i) (hB.cz hK1 i)
 obtain⟨n,hn⟩:∃ n,n=max A.length B.length:=⟨_,rfl⟩;have hnI:max (A.length:Int) (B.length:Int)=(n:Int):=by omega
 rw[← hn]at hRl;simp only[seval,hqa,hqb,hnI];have hRL:=hRl;generalize hX:qO F A B=X at *;have hcx:∀ k,cfq X k=F (cfq A k) (cfq B k):=fun k=>by rw[← hX,eG hF0]
 refine dS 11 11 32 3 (by simp only[wt,seval]) (fun f H=>∃ (i st:Nat) (bs:List (OB×OB)) (E:Nat),i≤n∧bs.length=i∧B0≤E∧Nw B0 E (idq bs)∧f 30=.iv (.int .i64 i)∧f 29=.iv (.int .i64 n)∧f 8=.iv (.sl (fD (A.map aP)))∧f 9=.iv (.sl (fD (B.map aP)))∧f 2=.fn g []∧f 11=.hs 11 st∧H 11=.blk false st 32 3 (aU bs ((X.take i).map aP))∧H 999=.mrk E) (fun f H=>(n-aY f 30).toNat) ?_ ?_
 ·refine⟨0,1,[],B0,by omega,rfl,Nat.le_refl _,.nil _ _,?_⟩;simp only[wt,seval,fB,fM,List.take_zero];rfl
 rintro f H ⟨i,st,bs,E,hi,hbs,hBE,hnw,h30,h29,h8,h9,h2,h11,hH,Iz⟩;rw[aB h30];simp (disch:=omega) only[wt,seval,h30,h29];have hq:((X.take i).map aP).length=i:=by rw[List.length_map,List.length_take];omega
 have hql:(aU bs ((X.take i).map aP)).length=i:=by rw[bG (by omega),hq]
 refine aQ (fun hlt=>?_) (fun hlt=>?_)
 ·have c1:=KX A i (hA.mono (by omega) (by omega));have c2:=KX B i (hB.mono (by omega) (by omega));have o:=hop (cfq A i) (cfq B i) (hA.cz hK1 i) (hB.cz hK1 i);rw[← hcx]at o;simp (disch:=omega) only[wt,seval,h30,h8,h2];refine ah (c1) (by rfl) (by simp) ?_;simp (disch:=omega) only[wt,seval,h9];refine ah (c2) (by rfl) (by simp) ?_;simp (disch:=omega) only[wt,seval];refine aK (o) (by rfl) (by simp) (by assumption) ?_;rintro B' E' _ hB1 hE1 ⟨b,c,rfl,hb⟩;simp (disch:=omega) only[wt,seval,cO,bF,h30,h29,h8,h9,h2,h11,hH,hql];have e:=fG (q:=X) (i:=i) (by omega);refine⟨⟨i+1,st+1,bs++[(b,c)],E',by omega,by simp[hbs],by omega,?_,by omega,rfl,?_,rfl⟩,by omega⟩
  ·rw[uh];exact hnw.append hb (by omega) hB1 (by omega)
  ·rw[e,List.map_append,jI (by omega)];rfl
 ·simp (disch:=omega) only[wt,seval,h11];obtain rfl:i=n:=by omega
  rw[List.take_of_length_le (by omega)]at hH;have t:=tX X bs (by omega) hR;refine uH (t) (by first|rfl|(simp only[wt,seval,rqs,dD,dh,dK,cO,bF,bK,h30,h29,h8,h9,h2,h11,hH,Iz];done)) (by first|rfl|(simp only[seval,hH];done)) (by rfl) (by simp) (by simp) ?_;simp only[wt,seval];refine rP 6 11 _ 32 3 ((aU (bs.take (tzq X)) (cqs X))) (by first|rfl|assumption|simp only[wt,seval,rqs,dD,dh,dK,cO,bF,bK]) (by first|rfl|assumption|simp only[wt,seval,rqs,dD,dh,dK,cO,bF,bK]) (by assumption) ?_;rintro b E2 hE2 hb;refine aT [.iv (fqp b (bs.take (tzq X)) (cqs X)),ci 0] (by rfl) (by simp (disch:=omega) only[wt,seval]) ?_;intro E hE;obtain⟨e1,e2⟩:=QM (by omega) hnw hE2 (fun g cap e=>⟨(hb.2 g cap e).1,(hb.2 g cap e).2.1,(hb.2 g cap e).2.2.1⟩);exact⟨b,_,rfl,e1,e2.mono (Nat.le_refl _) hE⟩
theorem KQ (p q:List RQ)(K:Nat)(hp:GQ (2^30) K p)(hq:GQ (2^30) K q)(hK:K≤2^35)(hK1:1≤K):ACX Tryz.prog 12 [cqw p,cqw q] (RQp (cqs (Zb (qvs p) (qvs q))) 0):=by
 have m:=KW p q 87 (fun a b=>a+b) K hp hq hK hK1 (by decide +kernel) (fun a b ha hb=>by have:=FD a b;omega) (fun a b ha hb=>by
  have:=QU (aP a) (aP b) (aZ (by omega)) (aZ (by omega)) (bI _) (bI _);rwa [dB,dB]at this)
 rw[show qO (fun a b=>a+b) (qvs p) (qvs q)=Zb (qvs p) (qvs q) from rfl]at m;refine ACX.aA zi0 (rs:=[.tmp 4,.tmp 5]) aX Tryz.func12 (by rfl) (by rfl) (by rfl) (by rfl) (by rfl) (Il _ _) (fun B=>?_);simp only[wt,seval];refine aK (m) (by rfl) (by simp) (by rfl) ?_;rintro B' E _ hB hE ⟨b,bs,rfl,hl,hn⟩;simp (disch:=omega) only[wt,seval];refine aT [.iv (fqp b bs (cqs (Zb (qvs p) (qvs q)))),ci 0] (by rfl) (by simp (disch:=omega) only[wt,seval]) ?_;intro E hE;exact⟨b,bs,rfl,hl,hn.mono hB (by omega)⟩
set_option maxRecDepth 4000 in
theorem Wv (L:List Int)(d e:Nat)(hL:PB (2^31) (2^37) L)(hd:(wd d).length≤2^35)(he:(wd e).length≤2^35)(hd0:d≠0)(he0:e≠0):ACX Tryz.prog 90 [cw (L.map canon),cl (wd d),cl (wd e)] (RQp (cqs (EO L ((d*e:Nat):Int))) 0):=by
 have hl:=hL.1;have hq:(L.map canon).length=L.length:=List.length_map _;have hrl:=IJ L ((d*e:Nat):Int);have n1:=mG false d (by omega);have n2:=mG false e (by omega);rw[sgf]at n1 n2;have m:=uZ (canon (d:Int)) (canon (e:Int)) ((aW _).mono (by rw[jh];omega)) ((aW _).mono (by rw[jh];omega));rw[aN,aN,← Int.natCast_mul]at m;have hde:d*e≠0:=Nat.mul_ne_zero hd0 he0;have hw:(wd (d*e)).length≤2^35+2^35:=oz hd he;have hR:QB (2^40) (2^38) (EO L ((d*e:Nat):Int)):=(QB.EO hL hde (by omega)).mono (by omega) (by omega);refine ACX.aA zi0 (rs:=[.tmp 6,.tmp 7]) aX Tryz.func90 (by rfl) (by rfl) (by rfl) (by rfl) (by rfl) (Il _ _) (fun B0=>?_);simp only[wt,seval];refine ah (n1) (by rfl) (by simp) ?_;simp only[wt,seval];refine ah (n2) (by rfl) (by simp) ?_;simp only[wt,seval];refine ah (m) (by rfl) (by simp) ?_;simp (disch:=omega) only[wt,seval];have hcx:∀ k,cfq (EO L ((d*e:Nat):Int)) k=(cf L k:Rat)/(((d*e:Nat):Int):Rat):=fun k=>Bq _ _ _
 generalize EO L ((d*e:Nat):Int)=X at *;refine dS 9 9 32 3 (by simp only[wt,seval]) (fun f H=>∃ (i st st8:Nat) (bs:List (OB×OB)) (E:Nat),i≤L.length∧bs.length=i∧B0≤E∧Nw B0 E (idq bs)∧f 21=.iv (.int .i64 i)∧f 20=.iv (.int .i64 L.length)∧f 19=.iv (.sl (kF (L.map canon)))∧f 8=.hp 8 st8 0 0∧H 8=.blk false st8 30 2 [lQ (canon ((d*e:Nat):Int))]∧f 9=.hs 9 st∧H 9=.blk false st 32 3 (aU bs ((X.take i).map aP))∧H 999=.mrk E) (fun f H=>(L.length-aY f 21).toNat) ?_ ?_
 ·refine⟨0,1,1,[],B0,by omega,rfl,Nat.le_refl _,.nil _ _,?_⟩;simp only[wt,seval,fB,fM,List.take_zero,hq];rfl
 rintro f H ⟨i,st,st8,bs,E,hi,hbs,hBE,hnw,h21,h20,h19,h8,hH8,h9,hH,Iz⟩;rw[aB h21];simp (disch:=omega) only[wt,seval,h21,h20];have hrq:((X.take i).map aP).length=i:=by rw[List.length_map,List.length_take];omega
 have hql:(aU bs ((X.take i).map aP)).length=i:=by rw[bG (by omega),hrq]
 refine aQ (fun hlt=>?_) (fun hlt=>?_)
 ·have e1:=pK L i;have hz:=hL.cf i;have k:=CP (canon (cf L i)) (canon ((d*e:Nat):Int)) ((aW _).mono (by omega)) ((aW _).mono (by rw[jh];omega)) (by rw[aN];omega);rw[aN,aN,← hcx]at k;simp (disch:=omega) only[wt,seval,h21,h19,h8,hH8,e1,hq];refine aK (k) (by rfl) (by simp) (by assumption) ?_;rintro B' E' _ hB1 hE1 ⟨b,c,rfl,hb⟩;simp (disch:=omega) only[wt,seval,cO,bF,h21,h20,h19,h8,hH8,h9,hH,hql];have et:=fG (q:=X) (i:=i) (by omega);refine⟨⟨i+1,st+1,st8,bs++[(b,c)],E',by omega,by simp[hbs],by omega,?_,by omega,rfl,rfl,rfl,?_,rfl⟩,by omega⟩
  ·rw[uh];exact hnw.append hb (by omega) hB1 (by omega)
  ·rw[et,List.map_append,jI (by omega)];rfl
 ·simp (disch:=omega) only[wt,seval,h9];obtain rfl:i=L.length:=by omega
  rw[List.take_of_length_le (by omega)]at hH;have t:=tX X bs (by omega) hR;refine uH (t) (by first|rfl|(simp only[wt,seval,rqs,dD,dh,dK,cO,bF,bK,h21,h20,h19,h8,hH8,h9,hH,Iz];done)) (by first|rfl|(simp only[seval,hH];done)) (by rfl) (by simp) (by simp) ?_;simp only[wt,seval];refine rP 6 9 _ 32 3 ((aU (bs.take (tzq X)) (cqs X))) (by first|rfl|assumption|simp only[wt,seval,rqs,dD,dh,dK,cO,bF,bK]) (by first|rfl|assumption|simp only[wt,seval,rqs,dD,dh,dK,cO,bF,bK]) (by assumption) ?_;rintro b E2 hE2 hb;refine aT [.iv (fqp b (bs.take (tzq X)) (cqs X)),ci 0] (by rfl) (by simp (disch:=omega) only[wt,seval]) ?_;intro E hE;obtain⟨e1,e2⟩:=QM (by omega) hnw hE2 (fun g cap e=>⟨(hb.2 g cap e).1,(hb.2 g cap e).2.1,(hb.2 g cap e).2.2.1⟩);exact⟨b,_,rfl,e1,e2.mono (Nat.le_refl _) hE⟩
theorem KP (p q:List RQ)(n k:Nat)(hp:GQ n k p)(hq:GQ n k q)(hn:n≤2^28)(hM:n*k+k+2≤2^34)(hk:1≤k):ACX Tryz.prog 14 [cqw p,cqw q] (RQp (cqs (iO (qvs p) (qvs q))) 0):=by
 have m:=AO p q (hp.mono (by omega) (by omega)) (hq.mono (by omega) (by omega));have hA:=hp.qb.aI;have hB:=hq.qb.aI;have e:cqs (iO (qvs p) (qvs q))=cqs (iO (aI (qvs p)) (aI (qvs q))):=(iT fun k=>(oW _ _ k).symm);have tA:=dP (qvs p);have tB:=dP (qvs q);rw[e];refine ACX.aA zi0 (rs:=[.tmp 4,.tmp 5]) aX Tryz.func14 (by rfl) (by rfl) (by rfl) (by rfl) (by rfl) (Il _ _) (fun B0=>?_);simp only[wt,seval];refine ah (m) (by rfl) (by simp) ?_;simp (disch:=omega) only[wt,seval,rqs];have ua:cqs (qvs p)=(aI (qvs p)).map aP:=rfl;have ub:cqs (qvs q)=(aI (qvs q)).map aP:=rfl;rw[ua,ub];clear ua ub m e;generalize aI (qvs p)=A at *;generalize aI (qvs q)=B at *;have hqa:(A.map aP).length=A.length:=List.length_map _;have hqb:(B.map aP).length=B.length:=List.length_map _;by_cases ha:A.length=0
 ·have ha':((A.map aP).length:Int)=0:=by omega
  have hn:=AU (A:=A) (B:=B) (.inl (by rw[tA];exact List.length_eq_zero_iff.mp ha));rw[hn];simp only[wt,seval,ha'];refine lT 4 32 3 (by rfl) ?_;refine aT [.iv (fqp none [] []),ci 0] (by rfl) (by simp (disch:=omega) only[wt,seval];rfl) ?_;intro E hE;exact⟨none,[],rfl,rfl,.nil _ _⟩
 have ha':¬((A.map aP).length:Int)=0:=by omega
 by_cases hb:B.length=0
 ·have hb':((B.map aP).length:Int)=0:=by omega
  have hn:=AU (A:=A) (B:=B) (.inr (by rw[tB];exact List.length_eq_zero_iff.mp hb));rw[hn];simp only[wt,seval,ha',hb'];refine lT 4 32 3 (by rfl) ?_;refine aT [.iv (fqp none [] []),ci 0] (by rfl) (by simp (disch:=omega) only[wt,seval];rfl) ?_;intro E hE;exact⟨none,[],rfl,rfl,.nil _ _⟩
 have hb':¬((B.map aP).length:Int)=0:=by omega
 have c1:=rM (A.map aP) n k hA.gq hn hM;have c2:=rM (B.map aP) n k hB.gq hn hM;rw[gV,tA]at c1;rw[gV,tB]at c2;have pA:=hA.clr.mono (n':=2^30) (k':=2^35) (by omega) (by omega);have pB:=hB.clr.mono (n':=2^30) (k':=2^35) (by omega) (by omega);have z:=WO ((clr A).map canon) ((clr B).map canon) (RP.canon pA) (RP.canon pB);rw[lN,lN]at z;have l1:=je hA;have l2:=je hB;have pm:=(pA.uQ pB (by decide)).dJ;have o:=Wv (dJ (uQ (clr A) (clr B))) (jq A) (jq B) (pm.mono (by omega) (by omega)) (by omega) (by omega) (jJ A) (jJ B);have ee:cqs (EO (dJ (uQ (clr A) (clr B))) ((jq A*jq B:Nat):Int))=cqs (iO A B):=iT (qH A B);rw[ee]at o;simp only[wt,seval,ha',hb'];refine ah (c1) (by rfl) (by simp) ?_;simp (disch:=omega) only[wt,seval];refine ah (c2) (by rfl) (by simp) ?_;simp (disch:=omega) only[wt,seval];refine ah (z) (by rfl) (by simp) ?_;simp only[wt,seval];refine aK (o) (by rfl) (by simp) (by rfl) ?_;rintro B' E _ hB1 hE ⟨b,bs,rfl,hl,hn2⟩;simp (disch:=omega) only[wt,seval];refine aT [.iv (fqp b bs (cqs (iO A B))),ci 0] (by rfl) (by simp (disch:=omega) only[wt,seval]) ?_;intro E hE;exact⟨b,bs,rfl,hl,hn2.mono hB1 (by omega)⟩
theorem X7 (x:Nat)(h:x<W):ACX Tryz.prog 107 [cu x] (YH (wd x)):=by
 refine ACX.aA zi0 (rs:=[.tmp 2]) aX Tryz.func107 (by rfl) (by rfl) (by rfl) (by rfl) (by rfl) (uT _) (fun B=>?_);simp (disch:=omega) only[wt,seval];have m:=OO [x] (Lim.cons h Lim.nil) (by simp);have e:nv [x]=x:=by simp[nv,vl]
 rw[e]at m;refine aK (m) (by rfl) (by simp) (by rfl) ?_;rintro B' E _ hB hE ⟨b,rfl,hb⟩;simp only[wt,seval];refine aT [.iv (jo b (wd x))] (by rfl) (by simp (disch:=omega) only[wt,seval]) ?_;intro E hE;exact⟨b,rfl,hb.mono hB (by omega)⟩
def jY (bs:List OB)(q:List Int):List (List IV):=List.zipWith fint bs q
theorem pJ {bs:List OB}{q:List Int}(h:bs.length=q.length):(jY bs q).length=q.length:=by simp[jY,h]
theorem G7 {bs:List OB}{q:List Int}(h:bs.length=q.length)(b:OB)(n:Int):jY bs q++[fint b n]=jY (bs++[b]) (q++[n]):=by
 rw[jY,jY,List.zipWith_append h];rfl
theorem Uf (bs:List OB)(q:List Int):∀ r∈jY bs q,r.length=2:=by
 induction bs generalizing q with
 | nil=>intro r hr;simp[jY]at hr
 | cons b bs ih =>
  cases q with
  | nil=>intro r hr;simp[jY]at hr
  | cons n q =>
   intro r hr;simp only[jY,List.zipWith_cons_cons,List.mem_cons]at hr;rcases hr with rfl|hr
   ·rfl
   ·exact ih q r hr
theorem LX (bs:List OB)(q:List Int):(∀ r∈jY bs q,r.length=2)↔True:=⟨fun _=>trivial,fun _=>Uf bs q⟩
theorem LY {bs:List OB}{q:List Int}(h:bs.length=q.length){i:Nat}(hi:i<q.length):(jY bs q)[i]?=some (fint (bs.getD i none) (cf q i)):=by
 have h2:i<bs.length:=by omega
 simp[jY,List.getElem?_zipWith,List.getD,cf,hi,h2]
def ids (bs:List OB):List Nat:=bs.flatMap oid
theorem LJ {bs:List OB}:∀ {q:List Int},bs.length=q.length→bf (jY bs q)=ids bs:=by
 induction bs with
 | nil=>intro q h;simp[jY,ids,bf]
 | cons b bs ih =>
  intro q h;cases q with
  | nil=>simp at h
  | cons n q =>
   have:=ih (q:=q) (by simpa using h);simp only[jY,ids,List.zipWith_cons_cons,bf,List.flatMap_cons,gX,IV.ids,List.nil_append,List.append_nil,xg]at this ⊢;rw[this];cases b<;>rfl
theorem RH (bs:List OB)(b:OB):ids (bs++[b])=ids bs++oid b:=by simp[ids]
abbrev uK (b:OB)(bs:List OB)(q:List Int):IV:=.own b 30 2 (jY bs q)
def a5F (q:List Int)(B E:Nat)(res:List CV):Prop:=∃ b bs,res=[.iv (uK b bs q)]∧bs.length=q.length∧Nw B E (oid b++ids bs)
theorem x9 (n:Nat):ids (List.replicate n none)=[]:=by
 simp[ids,oid]
theorem X9 (q:List Int)(B:Nat):∃ E res,B≤E∧a5F q B E res:=⟨B,_,Nat.le_refl _,none,List.replicate q.length none,rfl,by simp,by rw[x9];exact .nil _ _⟩
theorem TN {bs:List OB}{q:List Int}(h:bs.length=q.length):(kF (q.map canon)).length=(jY bs q).length∧(∀ (i:Nat) (r r':List IV),(jY bs q)[i]?=some r→(kF (q.map canon))[i]?=some r'→r'.length=r.length) ∧
  ∀ (i:Nat) (r r':List IV),(jY bs q)[i]?=some r→(kF (q.map canon))[i]?=some r'→∀ (j:Nat) (x x':IV),r[j]?=some x→r'[j]?=some x'→NU x x':=by
 have key:∀ (i:Nat) (r r':List IV),(jY bs q)[i]?=some r→(kF (q.map canon))[i]?=some r'→r=fint (bs.getD i none) (cf q i)∧r'=lQ (canon (cf q i)):=by
  intro i r r' hr hr';have hi:i<q.length:=by
   have:=(List.getElem?_eq_some_iff.1 hr).1;rw[pJ h]at this;exact this
  rw[LY h hi]at hr;refine⟨by injection hr with hr;exact hr.symm,?_⟩;simp only[kF,List.map_map,List.getElem?_map]at hr';rw[List.getElem?_eq_getElem hi]at hr';simp only[Option.map_some,Function.comp_apply,Option.some.injEq]at hr';rw[← hr'];simp[cf,List.getD,hi]
 refine⟨by rw[pJ h];simp[kF],fun i r r' hr hr'=>?_,fun i r r' hr hr'=>?_⟩
 ·obtain⟨rfl,rfl⟩:=key i r r' hr hr';rfl
 ·obtain⟨rfl,rfl⟩:=key i r r' hr hr';exact Vz _ _
theorem Kr {b:OB}{bs:List OB}{q:List Int}(h:bs.length=q.length):NU (uK b bs q) (.sl (kF (q.map canon))) :=
 have:=TN h;.own _ _ _ _ _ this.1 this.2.1 this.2.2
set_option maxRecDepth 4000 in
theorem WM (p:List RI)(h:RP (2^40) (2^40) p):ACX Tryz.prog 128 [cw p] (a5F (dJ (pv p))):=by
 refine ACX.aA zi0 (rs:=[.tmp 2]) aX Tryz.func128 (by rfl) (by rfl) (by rfl) (by rfl) (by rfl) (X9 _) (fun B=>?_);have hl:=h.1;have htl:=Tt (pv p);rw[nV]at htl;simp only[wt,seval];refine ah ((Oc p h)) (by rfl) (by simp) ?_;simp only[wt,seval];refine dS 3 3 30 2 (by simp only[wt,seval]) (fun f H=>∃ (k st:Nat) (bs:List OB) (E:Nat),k≤tz (pv p)∧bs.length=k∧B≤E∧Nw B E (ids bs)∧f 0=.iv (.sl (kF p))∧f 3=.hs 3 st∧f 6=.iv (.int .i64 (tz (pv p)))∧f 7=.iv (.int .i64 k)∧H 3=.blk false st 30 2 (jY bs ((dJ (pv p)).take k))∧H 999=.mrk E) (fun f H=>(tz (pv p)-aY f 7).toNat) ?_ ?_
 ·refine⟨0,1,[],B,by omega,rfl,Nat.le_refl _,.nil _ _,?_⟩;simp only[wt,seval,fB,fM,List.take_zero];rfl
 rintro f H ⟨k,st,bs,E,hk,hbs,hBE,hnw,h0,h3,h6,h7,hH,h9⟩;rw[aB h7];simp (disch:=omega) only[wt,seval,h6,h7];have hq:((dJ (pv p)).take k).length=k:=by rw[List.length_take,iy];omega
 have hql:(jY bs ((dJ (pv p)).take k)).length=k:=by rw[pJ (by omega),hq]
 refine aQ (fun hlt=>?_) (fun hlt=>?_)
 ·simp (disch:=omega) only[wt,seval,h0,h3,h7];refine aK ((JD (p.getD k (false,[])) (h.get _))) (by rfl) (by simp) (by assumption) ?_;rintro B' E' _ hB hE ⟨b,rfl,hb⟩;simp (disch:=omega) only[wt,seval,h0,h6,h7,hH,hql];refine⟨⟨k+1,st+1,bs++[b],E',by omega,by simp[hbs],by omega,?_,rfl,by omega,?_,rfl⟩,by omega⟩
  ·rw[RH];exact hnw.append hb (by omega) hB (by omega)
  ·rw[rC (by omega),EP,G7 (by omega)]
 ·simp (disch:=omega) only[wt,seval,h3];obtain rfl:k=tz (pv p):=by omega
  have e:(dJ (pv p)).take (tz (pv p))=dJ (pv p):=List.take_of_length_le (by rw[iy];exact Nat.le_refl _);rw[e]at hH hq;refine rP 2 3 _ 30 2 ((jY bs (dJ (pv p)))) (by first|rfl|assumption|simp only[wt,seval,dD,dh]) (by first|rfl|assumption|simp only[wt,seval,dD,dh]) (by assumption) ?_;rintro b E2 hE2 hb;refine aT [.iv (uK b bs (dJ (pv p)))] (by rfl) (by simp (disch:=omega) only[wt,seval]) ?_;intro E hE;refine⟨b,bs,rfl,by omega,?_⟩;cases b with
  | none=>exact hnw.mono (Nat.le_refl _) (by omega)
  | some g =>
   have:=hb.2 g.1 g.2 rfl;rw[LJ (by omega)]at this;exact(hnw.mono (Nat.le_refl _) (by omega)).cons this.2.2.1 this.1 (by omega)

def YG (q:List Int)(e:Int)(B E:Nat)(res:List CV):Prop:=∃ b bs,res=[.iv (uK b bs q),ci e]∧bs.length=q.length∧Nw B E (oid b++ids bs)
theorem Rq (q:List Int)(e:Int)(B:Nat):∃ E res,B≤E∧YG q e B E res:=⟨B,_,Nat.le_refl _,none,List.replicate q.length none,rfl,by simp,by rw[x9];exact .nil _ _⟩
set_option maxRecDepth 4000 in
theorem WJ (p:List RI)(c:RI)(hp:RP (2^30) (2^35) p)(hc:Sz (2^35) c)(h0:iv c≠0)(hd:∀ k,iv c∣cf (pv p) k):ACX Tryz.prog 195 [cw p,cr c] (YG (dJ (La (iv c) (pv p))) 0):=by
 refine ACX.aA zi0 (rs:=[.tmp 4,.tmp 5]) aX Tryz.func195 (by rfl) (by rfl) (by rfl) (by rfl) (by rfl) (Rq _ _) (fun B=>?_);have hl:=hp.1;have hs0:(iv c).sign≠0:=fun h=>h0 (Int.sign_eq_zero_iff_zero.mp h)
 simp (disch:=omega) only[wt,seval];refine ah ((pY c (hc.mono (by omega)))) (by rfl) (by simp) ?_;simp (disch:=omega) only[wt,seval];simp (disch:=omega) only[wt,seval,hs0];refine aH (fun f H=>∃ (i st st3:Nat) (out:List Int),i≤p.length∧out.length=p.length∧(∀ k,zl (cf out k)≤2^36)∧(∀ k,k<i→cf out k=cf (pv p) k/iv c)∧f 18=.iv (.int .i64 i)∧f 0=.iv (.sl (kF p))∧f 3=.hp 3 st3 0 0∧f 6=.hs 15 st∧f 17=.iv (.int .i64 p.length)∧H 15=.blk false st 30 2 (kF (out.map canon))∧H 3=.blk false st3 30 2 [lQ c]∧H 999=.mrk B) (fun f H=>(p.length-aY f 18).toNat) ?_ ?_
 ·refine⟨0,1,1,List.replicate p.length 0,by omega,by simp,fun k=>by rw[a2P,BG];omega,fun k hk=>by omega,?_⟩;simp only[wt,seval,KF]
 rintro f H ⟨i,st,st3,out,hi,hol,hz,hv,hF⟩;rw[aB hF.1];simp (disch:=omega) only[wt,seval,hF];refine aQ (fun hlt=>?_) (fun hlt=>?_)
 ·have hq:(out.map canon).length=p.length:=by rw[List.length_map,hol]
  have hdi:=hd i;rw[EP]at hdi;have m:=BI (p.getD i (false,[])) c ((hp.get i).mono (by omega)) (hc.mono (by omega)) h0 hdi;rw[← EP]at m;simp (disch:=omega) only[wt,seval,hF];refine .inl ⟨aS (by kernel_rfl),?_⟩;refine ah (m) (by rfl) (by simp) ?_;simp (disch:=omega) only[wt,seval,hF,hq];refine⟨bH (by kernel_rfl),?_⟩;refine⟨⟨i+1,st,st3,out.set i (cf (pv p) i/iv c),by omega,by simp[hol],fun k=>?_,fun k hk=>?_,by omega,rfl,rfl,rfl,rfl⟩,by omega⟩
  ·rw[Yg (by omega)];split
   ·have:=JE (hd i);have:=hp.pv.cf i;omega
   ·exact hz k
  ·rw[Yg (by omega)];split
   ·rename_i e;rw[e]
   ·exact hv k (by omega)
 ·simp (disch:=omega) only[wt,seval,hF];have e:dJ (La (iv c) (pv p))=dJ (pv (out.map canon)):=by
   refine vU fun k=>?_;rw[lN,xI];by_cases hk:k<p.length
   ·exact(hv k (by omega)).symm
   ·rw[xJ (q:=out) (by omega),xJ (by rw[nV];omega)];simp
  rw[e];refine aK ((WM (out.map canon) (RP.canon (.of (by omega) fun k=>Nat.le_trans (hz k) (by omega))))) (by simp only[gQ,tJ,hF];rfl) (by simp) (by first|rfl|assumption|(simp only[wt,seval,hF];done)|((repeat (replace hF:=hF.2));exact hF)) ?_;rintro B' E _ hB hE ⟨b,bs,rfl,hlb,hn⟩;simp only[wt,seval,hF];refine aT [.iv (uK b bs _),ci 0] (by rfl) (by simp (disch:=omega) only[wt,seval];rfl) ?_;intro E hE;exact⟨b,bs,rfl,hlb,hn.mono (by omega) (by omega)⟩


theorem OJ (p:List RI)(c:RI)(hp:RP (2^40) (2^38) p)(hc:Sz (2^38) c)(h0:iv c=0):ACX Tryz.prog 195 [cw p,cr c] (YG [] 1):=by
 refine ACX.aA zi0 (rs:=[.tmp 4,.tmp 5]) aX Tryz.func195 (by rfl) (by rfl) (by rfl) (by rfl) (by rfl) (Rq _ _) (fun B=>?_);simp (disch:=omega) only[wt,seval];have hs:=pY c (hc.mono (by omega));rw[h0]at hs;rw[Int.sign_zero]at hs;refine ah (hs) (by rfl) (by simp) ?_;simp (disch:=omega) only[wt,seval];refine lT 4 30 2 (by rfl) ?_;refine aT [.iv (uK none [] []),ci 1] (by rfl) (by simp (disch:=omega) only[wt,seval];rfl) ?_;intro E hE;exact⟨none,[],rfl,rfl,.nil _ _⟩
theorem WI (p:List RI)(h:RP (2^30) (2^35) p):ACX Tryz.prog 104 [cw p] (a5F (dJ (yN (pv p)))):=by
 refine ACX.aA zi0 (rs:=[.tmp 2]) aX Tryz.func104 (by rfl) (by rfl) (by rfl) (by rfl) (by rfl) (X9 _) (fun B=>?_);have hg:=RS h;have hsz:Sz (2^35) (canon (cont (pv p))):=(aW _).mono (by unfold zl;rw[vN];exact hg);simp only[wt,seval];refine ah ((CU p (h.mono (by omega) (by omega)))) (by rfl) (by simp) ?_;simp only[wt,seval];by_cases h0:cont (pv p)=0
 ·have m:=OJ p (canon (cont (pv p))) (h.mono (by omega) (by omega)) (hsz.mono (by omega)) (by rw[aN];exact h0);have e:dJ (yN (pv p))=[]:=Vl (fH.mpr fun k=>by unfold yN;rw[xI,h0,Int.ediv_zero]);rw[e];refine aK (m) (by rfl) (by simp) (by rfl) ?_;rintro B' E _ hB hE ⟨b,bs,rfl,hl,hn⟩;simp (disch:=omega) only[wt,seval];refine aT [.iv (uK b bs _)] (by rfl) (by simp (disch:=omega) only[wt,seval];rfl) ?_;intro E hE;exact⟨b,bs,rfl,hl,hn.mono (by omega) (by omega)⟩
 ·have m:=WJ p (canon (cont (pv p))) h hsz (by rw[aN];exact h0) (fun k=>by rw[aN];exact IZ _ k);rw[aN]at m;refine aK (m) (by rfl) (by simp) (by rfl) ?_;rintro B' E _ hB hE ⟨b,bs,rfl,hl,hn⟩;simp (disch:=omega) only[wt,seval];refine aT [.iv (uK b bs _)] (by rfl) (by simp (disch:=omega) only[wt,seval];rfl) ?_;intro E hE;exact⟨b,bs,rfl,hl,hn.mono (by omega) (by omega)⟩
theorem BX (b:OB)(l:List Nat):Jk (.iv (jo b l)) (cl l):=by
 refine .iv (.own _ _ _ _ _ rfl (fun i r r' h h'=>?_) (fun i r r' h h' j x x' hx hx'=>?_))
 ·rw[h]at h';cases h';rfl
 ·rw[h]at h';cases h';rw[hx]at hx';cases hx';exact .refl _

theorem Nw.perm {B E:Nat}{l m:List Nat}(h:Nw B E l)(p:l.Perm m):Nw B E m:=⟨p.nodup_iff.1 h.1,fun g hg=>h.2 g (p.mem_iff.2 hg)⟩
set_option linter.defProp false
@[reducible] def zW:Zi:=⟨none,fun _=>false,(· == 5),.no⟩
theorem XW (b:OB)(n:Int):List.take 2 (fint b n)=fint b n:=rfl
structure TPl (x s y:RQ) (i:Nat):Prop where
 v:qv y=qv x+(i:Rat)*qv s
 z:SzQ (200+i*201) y
 d:nv y.2≠0
def upq (c:Rat)(n:Nat):List Rat:=List.replicate n 0++[c]
theorem yu (c:Rat)(n:Nat):(upq c n).length=n+1:=by simp[upq]
theorem Gu (c:Rat)(n:Nat):upq c (n+1)=0::upq c n:=rfl
theorem Ec (c:Rat):∀ n k,cfq (upq c n) k=if k=n then c else 0
 | 0,0=>rfl
 | 0,k+1=>by rw[if_neg (by omega)];exact eF (by rw[yu];omega)
 | n+1,0=>by rw[if_neg (by omega)];rfl
 | n+1,k+1=>by
  rw[Gu,eH,Ec c n k];by_cases h:k=n
  ·rw[if_pos h,if_pos (by omega)]
  ·rw[if_neg h,if_neg (by omega)]
theorem Py (c:Rat)(g:Nat→Rat):∀ n k,cvq (upq c n) g k=if n≤k then c*g (k-n) else 0
 | 0,k=>by
  rw[if_pos (Nat.zero_le _),show upq c 0=[c] from rfl,oq];cases k with
  | zero=>simp only[kG,Nat.sub_zero];grind
  | succ k=>simp only[kG,Nat.sub_zero,cvq];grind
 | n+1,0=>by
  rw[if_neg (by omega),Gu,oq];simp only[kG];grind
 | n+1,k+1=>by
  rw[Gu,oq,kG,Py c g n k];by_cases h:n≤k
  ·rw[if_pos h,if_pos (by omega),Nat.add_sub_add_right];grind
  ·rw[if_neg h,if_neg (by omega)];grind
theorem Ee (c:Rat)(n:Nat)(B:List Rat)(k:Nat):cfq (iO (upq c n) B) k=if n≤k then c*cfq B (k-n) else 0:=by
 rw[fE,Py]
def dc (A B:List Rat):Rat:=cfq A (A.length-1)/cfq B (B.length-1)
def dn1 (A B:List Rat):List Rat:=aI (qO (fma (-1)) A (iO (upq (dc A B) (A.length-B.length)) B))
theorem PO (A B:List Rat)(k:Nat):cfq (dn1 A B) k=cfq A k-if A.length-B.length≤k then dc A B*cfq B (k-(A.length-B.length)) else 0:=by
 rw[dn1,dZ,eG (gK _),Ee];unfold fma
 grind
theorem a3t {q:List Rat}{n:Nat}(h:∀ k,n≤k→cfq q k=0):tzq q≤n:=by
 rcases Nat.lt_or_ge n (tzq q) with h1|h1
 ·exact absurd (h (tzq q-1) (by omega)) (fF (by omega))
 ·exact h1
theorem DT {A B:List Rat}(h0:B.length≠0)(hb:cfq B (B.length-1)≠0)(hl:B.length≤A.length):(dn1 A B).length<A.length:=by
 have:(dn1 A B).length=tzq (dn1 A B):=by
  have:=jT (dn1 A B);rwa [show aI (dn1 A B)=dn1 A B from dP _]at this
 have h1:=a3t (q:=dn1 A B) (n:=A.length-1) fun k hk=>by
  rw[PO,if_pos (by omega)];by_cases hk2:k=A.length-1
  ·rw[hk2,show A.length-1-(A.length-B.length)=B.length-1 by omega];have:=Rat.div_mul_cancel (a:=cfq A (A.length-1)) hb;unfold dc
   grind
  ·rw[eF (q:=A) (by omega),eF (q:=B) (by omega)];grind
 omega
def dit (A B:List Rat):Nat→List Rat
 | 0=>A
 | k+1=>dn1 (dit A B k) B
def dqu (A B:List Rat):Nat→List Rat
 | 0=>[]
 | k+1=>qO (fma 1) (dqu A B k) (upq (dc (dit A B k) B) ((dit A B k).length-B.length))
theorem a1y {A B:List Rat}(h:aI A=A):∀ k,aI (dit A B k)=dit A B k
 | 0=>h
 | k+1=>dP _
theorem vM {A B:List Rat}(h0:B.length≠0)(hb:cfq B (B.length-1)≠0):∀ k,(∀ j,j<k→B.length≤(dit A B j).length)→(dit A B k).length+k≤A.length
 | 0,_=>Nat.le_refl _
 | k+1,h=>by
  have h1:=vM h0 hb k fun j hj=>h j (by omega)
  have h2:=DT h0 hb (h k (by omega));rw[dit];omega
theorem a5n (A:List Rat){B:List Rat}(h0:B.length≠0)(hb:cfq B (B.length-1)≠0):∃ n,(dit A B n).length<B.length∧(∀ j,j<n→B.length≤(dit A B j).length)∧n≤A.length:=by
 have e:∃ n,(dit A B n).length<B.length:=by
  by_cases hn:∃ n,(dit A B n).length<B.length
  ·exact hn
  ·have:=vM (A:=A) h0 hb (A.length+1) fun j _=>Nat.le_of_not_lt fun hj=>hn ⟨j,hj⟩
   omega
 obtain⟨n,hn,hj⟩:=a1s e;have hj':∀ j,j<n→B.length≤(dit A B j).length:=fun j hjn=>Nat.le_of_not_lt (hj j hjn)
 have:=vM h0 hb n hj';exact⟨n,hn,hj',by omega⟩
theorem ou (A B:List Rat)(k j:Nat):cfq (dqu A B (k+1)) j=cfq (dqu A B k) j+if j=(dit A B k).length-B.length then dc (dit A B k) B else 0:=by
 rw[dqu,eG (gK _),Ec];unfold fma
 grind
theorem Px {A B:List Rat}(h0:B.length≠0)(hb:cfq B (B.length-1)≠0):∀ k,(∀ j,j<k→B.length≤(dit A B j).length)→∀ j,j+B.length≤(dit A B k).length→cfq (dqu A B k) j=0
 | 0,_,j,_=>jy j
 | k+1,h,j,hj=>by
  have h2:=DT h0 hb (h k (by omega));rw[dit]at hj;rw[ou,if_neg (by omega),Px h0 hb k (fun i hi=>h i (by omega)) j (by omega)]
  grind
theorem II {A B:List Rat}(h0:B.length≠0)(hb:cfq B (B.length-1)≠0):∀ k,(∀ j,j<k→B.length≤(dit A B j).length)→(dqu A B k).length≤A.length+1-B.length
 | 0,_=>Nat.zero_le _
 | k+1,h=>by
  have h1:=II h0 hb k fun j hj=>h j (by omega)
  have h2:=vM h0 hb k fun j hj=>h j (by omega)
  have h3:=h k (by omega);rw[dqu,qg,yu];omega
theorem natAbs_cast (m:Int):(m.natAbs:Rat)=if m<0 then -(m:Rat) else (m:Rat):=by
 split
 ·rw[← Rat.intCast_natCast,← Rat.intCast_neg];congr 1;omega
 ·rw[← Rat.intCast_natCast];congr 1;omega
theorem CD.a5m {D M N e:Nat}{x t b y:Rat}{m w:Int}(hD:D≠0)(hm:m≠0)(he:e≠0)(hx:CD D M x)(ht:CD D M t)(hb:b*(e:Rat)=(m:Rat))(hy:y*(e:Rat)=(w:Rat))(zm:zl m≤N)(zw:zl w≤N):CD (D*m.natAbs) (M+N+1) (x-t/b*y):=by
 obtain⟨z,e1,hz⟩:=hx;obtain⟨u,e2,hu⟩:=ht;have h1:=lF hD;have h2:(m:Rat)≠0:=fun h=>hm (Rat.intCast_eq_zero_iff.mp h)
 have h3:=lF he;have hb0:b≠0:=fun h=>h2 (by rw[← hb,h,Rat.zero_mul])
 have z1:=jL z m;have z2:=jL u w;have e3:x-t/b*y=((z:Rat)*(m:Rat)-(u:Rat)*(w:Rat))/((D:Rat)*(m:Rat)):=by
  rw[e1,e2,← hb,← hy]
  grind
 by_cases hs:m<0
 ·refine⟨u*w-z*m,?_,?_⟩
  ·rw[e3,Rat.natCast_mul,natAbs_cast,if_pos hs,Rat.intCast_sub,Rat.intCast_mul,Rat.intCast_mul]
   grind
  ·have:=Fe (u*w) (-(z*m));rw[zu,← Int.sub_eq_add_neg]at this;omega
 ·refine⟨z*m-u*w,?_,?_⟩
  ·rw[e3,Rat.natCast_mul,natAbs_cast,if_neg hs,Rat.intCast_sub,Rat.intCast_mul,Rat.intCast_mul]
  ·have:=Fe (z*m) (-(u*w));rw[zu,← Int.sub_eq_add_neg]at this;omega
theorem CD.cf {D n M:Nat}{q:List Rat}(h:CB D n M q)(k:Nat):CD D M (cfq q k):=by
 by_cases hk:k<q.length
 ·rw[kH hk];exact h.c _ (List.getElem_mem hk)
 ·rw[eF (by omega)];exact CD.zero _ _
theorem a7l {D n M N:Nat}{A B:List Rat}(hA:CB D n M A)(hB:PB n N (clr B))(h0:B.length≠0)(hb:cfq B (B.length-1)≠0)(hl:B.length≤A.length):∃ E,CB E n (M+N+1) (dn1 A B):=by
 have hm:cf (clr B) (B.length-1)≠0:=fun e=>hb (J3.mp e)
 have hcb:∀ k,cfq B k*(jq B:Rat)=(cf (clr B) k:Rat):=fun k=>(MR B k).symm
 have hl2:=DT h0 hb hl;refine⟨D*(cf (clr B) (B.length-1)).natAbs,Nat.mul_ne_zero hA.d (by omega),?_,by have:=hA.l;omega,fun c hc=>?_⟩
 ·have h1:=AL.dQ D (cf (clr B) (B.length-1)).natAbs;have h2:=hA.w;have h3:=hB.cf (B.length-1);unfold zl at h3;omega
 ·obtain⟨i,hi,rfl⟩:=List.getElem_of_mem hc;rw[← kH hi,PO];split
  ·exact CD.a5m hA.d hm (jJ B) (CD.cf hA _) (CD.cf hA _) (hcb _) (hcb _) (hB.cf _) (hB.cf _)
  ·have:=(CD.cf hA i).up hA.d (E:=(cf (clr B) (B.length-1)).natAbs) (V:=N) (by omega) (hB.cf _);rw[show cfq A i-0=cfq A i by grind];exact this.mono (by omega)
theorem a2L {D n M N:Nat}{A B:List Rat}(hA:CB D n M A)(hB:PB n N (clr B))(h0:B.length≠0)(hb:cfq B (B.length-1)≠0):∀ k,(∀ j,j<k→B.length≤(dit A B j).length)→∃ E,CB E n (M+k*(N+1)) (dit A B k)
 | 0,_=>⟨D,by rw[Nat.zero_mul];exact hA⟩
 | k+1,h=>by
  obtain⟨E,hE⟩:=a2L hA hB h0 hb k fun j hj=>h j (by omega)
  obtain⟨F,hF'⟩:=a7l hE hB h0 hb (h k (by omega));exact⟨F,hF'.mono (Nat.le_refl _) (by rw[Nat.succ_mul];omega)⟩
theorem a6D (q:Rat):qz (1/q)≤qz q:=by
 by_cases h:q.num=0
 ·have:q=0:=Rat.num_eq_zero.mp h;rw[this,show (1:Rat)/0=0 by decide +kernel];exact Nat.le_refl _
 ·have h1:(q.num:Rat)≠0:=fun e=>h (Rat.intCast_eq_zero_iff.mp e)
  have h2:=lF q.den_nz;have e:(1:Rat)/q=((q.den:Int):Rat)/(q.num:Rat):=by
   have h3:q=(q.num:Rat)/(q.den:Rat):=by rw[← Rat.mkRat_eq_div];exact(Rat.mkRat_self q).symm
   rw[Rat.intCast_natCast]
   conv=>lhs;rw[h3]
   grind
  have hp:=qw q;rw[e,← Rz h];refine Oz (by omega) ?_ ?_
  ·split
   ·rw[zu,jh];exact hp.2
   ·rw[jh];exact hp.2
  ·exact hp.1
theorem W9 (p q:Rat):qz (p/q)≤qz p+qz q:=by
 have h1:=qQ p (1/q);have h2:=a6D q;rw[show p*(1/q)=p/q by rw[Rat.div_def,Rat.div_def,Rat.one_mul]]at h1;omega
theorem a4h {D M n:Nat}{f:Nat→Rat}(h:∀ i,i<n→CD D M (f i)):CD D (M+n) (QK n f):=by
 induction n with
 | zero=>exact CD.zero _ _
 | succ n ih =>
  have h1:=ih fun i hi=>h i (by omega)
  have h2:=h n (by omega);exact(h1.add h2).mono (by omega)
theorem CB.iO {D E n m M N:Nat}{A B:List Rat}(hA:CB D n M A)(hB:CB E m N B):CB (D*E) (n+m) (M+N+(n+m)) (iO A B) where
 d:=Nat.mul_ne_zero hA.d hB.d
 w:=by
  have h1:=AL.dQ D E;have h2:=hA.w;have h3:=hB.w;omega
 l:=by
  simp only[Io,List.length_map,List.length_range];have:=hA.l;have:=hB.l;omega
 c:=fun c hc=>by
  obtain⟨k,hk,rfl⟩:=List.getElem_of_mem hc;have hl:k<n+m:=by
   simp only[Io,List.length_map,List.length_range]at hk;have:=hA.l;have:=hB.l;omega
  rw[← kH hk,fE,PQ.uw];exact(a4h (n:=k+1) (f:=fun i=>cfq A i*cfq B (k-i)) fun i _=>CD.mul hA.d hB.d (CD.cf hA _) (CD.cf hB _)).mono (by omega)
theorem QE {X Y:List Rat}{i:Nat}{c:Rat}(hl:X.length=Y.length)(hc:cfq Y i=c)(ho:∀ j,j<Y.length→j≠i→cfq Y j=cfq X j):(X.map aP).set i (aP c)=Y.map aP:=by
 rw[← List.map_set]
 congr 1
 refine List.ext_getElem (by rw[List.length_set,hl]) fun j h1 h2=>?_;rw[List.getElem_set];split
 ·rename_i e;subst e;rw[← hc,kH h2]
 ·rename_i e;have:=ho j h2 (fun h=>e h.symm);rw[kH h2,kH (by rw[List.length_set]at h1;exact h1)]at this;exact this.symm
def Ib (N:Nat)(Q:List Rat):List Rat:=(List.range N).map (cfq Q)
theorem gu (N:Nat)(Q:List Rat):(Ib N Q).length=N:=by simp[Ib]
theorem xH {N:Nat}{Q:List Rat}{k:Nat}(h:k<N):cfq (Ib N Q) k=cfq Q k:=by
 simp only[Ib,cfq,List.getD,List.getElem?_map,List.getElem?_range h,Option.map_some,Option.getD_some]
theorem QV {N:Nat}{Q:List Rat}(h:Q.length≤N)(k:Nat):cfq (Ib N Q) k=cfq Q k:=by
 by_cases hk:k<N
 ·exact xH hk
 ·rw[eF (by rw[gu];omega),eF (by omega)]
theorem a0A (N:Nat):Ib N []=List.replicate N 0:=by
 refine List.ext_getElem (by rw[gu,List.length_replicate]) fun j h1 h2=>?_;rw[← kH h1,xH (by rwa [gu]at h1),jy,List.getElem_replicate]
def Jz (A B:List Rat)(c:Rat)(s i:Nat):List Rat:=(List.range A.length).map fun k=>if s≤k∧k<s+i then cfq A k-c*cfq B (k-s) else cfq A k
theorem iZ (A B:List Rat)(c:Rat)(s i:Nat):(Jz A B c s i).length=A.length:=by simp[Jz]
theorem qG {A B:List Rat}{c:Rat}{s i:Nat}(h:s+i≤A.length)(k:Nat):cfq (Jz A B c s i) k=if s≤k∧k<s+i then cfq A k-c*cfq B (k-s) else cfq A k:=by
 by_cases hk:k<A.length
 ·simp only[Jz,cfq,List.getD,List.getElem?_map,List.getElem?_range hk,Option.map_some,Option.getD_some]
 ·rw[eF (by rw[iZ];omega),if_neg (by omega),eF (by omega)]
theorem Vs (A B:List Rat)(c:Rat){s:Nat}(h:s≤A.length):Jz A B c s 0=A:=by
 refine List.ext_getElem (iZ ..) fun j h1 h2=>?_;rw[← kH h1,qG (by omega),if_neg (by omega),kH h2]
theorem Zz {A B:List Rat}{c:Rat}{s i:Nat}(h:s+(i+1)≤A.length):((Jz A B c s i).map aP).set (s+i) (aP (cfq A (s+i)-c*cfq B i))=(Jz A B c s (i+1)).map aP:=by
 refine QE (by rw[iZ,iZ]) ?_ fun j hj hne=>?_
 ·rw[qG h,if_pos ⟨by omega,by omega⟩,Nat.add_sub_cancel_left]
 ·rw[qG h,qG (by omega)];by_cases h1:s≤j∧j<s+i
  ·rw[if_pos h1,if_pos ⟨h1.1,by omega⟩]
  ·rw[if_neg h1,if_neg (by omega)]
theorem ZA {A B:List Rat}(h:B.length≤A.length):cqs (Jz A B (dc A B) (A.length-B.length) B.length)=(dn1 A B).map aP:=by
 have e:aI (Jz A B (dc A B) (A.length-B.length) B.length)=dn1 A B:=by
  have h1:=dP (qO (fma (-1)) A (iO (upq (dc A B) (A.length-B.length)) B));rw[← show aI (dn1 A B)=dn1 A B from h1];refine mJ fun k=>?_;rw[qG (by omega),PO];by_cases h1:A.length-B.length≤k
  ·by_cases h2:k<A.length-B.length+B.length
   ·rw[if_pos ⟨h1,h2⟩,if_pos h1]
   ·rw[if_neg (by omega),if_pos h1,eF (q:=B) (by omega)];grind
  ·rw[if_neg (by omega),if_neg h1];grind
 rw[cqs,e]
theorem a5l {A B:List Rat}{N k:Nat}(hs:(dit A B k).length-B.length<N)(h0:cfq (dqu A B k) ((dit A B k).length-B.length)=0):((Ib N (dqu A B k)).map aP).set ((dit A B k).length-B.length) (aP (dc (dit A B k) B))=(Ib N (dqu A B (k+1))).map aP:=by
 refine QE (by rw[gu,gu]) ?_ fun j hj hne=>?_
 ·rw[xH hs,ou,if_pos rfl,h0];grind
 ·rw[gu]at hj;rw[xH hj,xH hj,ou,if_neg hne];grind
structure DV (A B:List Rat) (n K:Nat):Prop where
 la:A.length≤2^28
 lb:B.length≤2^28
 h0:B.length≠0
 hb:cfq B (B.length-1)≠0
 ta:aI A=A
 tb:aI B=B
 en:(dit A B n).length<B.length
 hj:∀ j,j<n→B.length≤(dit A B j).length
 za:∀ k,k≤n→∀ i,qz (cfq (dit A B k) i)≤K
 zb:∀ i,qz (cfq B i)≤K
 k1:1≤K
 k2:K≤2^32
theorem Bd {A B:List Rat}{K n:Nat}(h0:B.length≠0)(hb:cfq B (B.length-1)≠0)(za:∀ k,k≤n→∀ i,qz (cfq (dit A B k) i)≤K)(zb:∀ i,qz (cfq B i)≤K)(k1:1≤K):∀ k,k≤n→(∀ j,j<k→B.length≤(dit A B j).length)→∀ j,qz (cfq (dqu A B k) j)≤K+K
 | 0,_,_,j=>by rw[dqu,jy,lD];omega
 | k+1,hk,h,j=>by
  have ih:=Bd h0 hb za zb k1 k (by omega) (fun i hi=>h i (by omega)) j;rw[ou];by_cases hj:j=(dit A B k).length-B.length
  ·have hl:=h k (by omega);rw[if_pos hj,Px h0 hb k (fun i hi=>h i (by omega)) j (by omega),Rat.zero_add];have h1:=W9 (cfq (dit A B k) ((dit A B k).length-1)) (cfq B (B.length-1));have h2:=za k (by omega) ((dit A B k).length-1);have h3:=zb (B.length-1);unfold dc;omega
  ·rw[if_neg hj,Rat.add_zero];exact ih
def hrows:HC→Nat
 | .blk _ _ _ _ rows=>rows.length
 | _=>0
theorem LP (fz:Bool)(st e sz:Nat)(rows:List (List IV)):hrows (.blk fz st e sz rows)=rows.length:=rfl
theorem zO {g:Nat→Rat}(A:List Rat)(k:Nat):cvq (A.take (k+1)) g k=cvq A g k:=by
 have h:∀ m,cvq (A.take (k+1+m)) g k=cvq (A.take (k+1)) g k:=fun m=>by
  induction m with
  | zero=>rfl
  | succ m ih=>rw[← Nat.add_assoc,qE,ih,if_neg (by omega),Rat.add_zero]
 rw[← h A.length,List.take_of_length_le (by omega)]
theorem Rw (A B:List Rat):(iO A B).length=A.length+B.length:=by simp[iO]
set_option maxHeartbeats 1000000 in
theorem JX (p r:List RQ)(K:Nat)(hp:GQ (2^30) K p)(hr:GQ (2^30) K r)(hK:K≤2^33)(hK1:1≤K)(hz:∀ i k,qz (cvq ((aI (qvs p)).take i) (cfq (aI (qvs r))) k)≤2^34):AC Tryz.prog 28 [cqw p,cqw r] none [cqp (iO (qvs p) (qvs r))]:=by
 have m:=gJ p (hp.mono (by omega) (by omega));have n:=gJ r (hr.mono (by omega) (by omega));have hA:=hp.qb.aI;have hB:=hr.qb.aI;have z0:=qX 0 1 (by omega) (by omega) (by omega) (by omega);rw[show ((0:Int):Rat)/((1:Nat):Rat)=0 by decide +kernel]at z0;have e:cqp (iO (qvs p) (qvs r))=cqp (iO (aI (qvs p)) (aI (qvs r))):=congrArg cqw (iT fun k=>(oW _ _ k).symm);rw[e];refine AC.aA (rs:=[.tmp 4]) aX Tryz.func28 (by rfl) (by rfl) (by rfl) (by rfl) (by rfl) ?_;simp only[wt,seval];refine ah (m) (by rfl) (by simp) ?_;simp only[wt,seval];refine ah (n) (by rfl) (by simp) ?_;simp only[wt,seval];unfold cqs;generalize aI (qvs p)=A at *;generalize aI (qvs r)=B at *;have hAl:=hA.1;have hBl:=hB.1;have hqa:(A.map aP).length=A.length:=List.length_map _;have hqb:(B.map aP).length=B.length:=List.length_map _;have hml:=Rw A B;have hR:QB (2^40) (2^38) ((iO A B).take (A.length+B.length-1)):=⟨by rw[List.length_take];omega,fun c hc=>by
  obtain⟨i,hi,rfl⟩:=List.getElem_of_mem (List.mem_of_mem_take hc);rw[← kH hi,fE,← zO];have:=hz (i+1) i;omega⟩
 have t:=gJ (((iO A B).take (A.length+B.length-1)).map aP) hR.gq;rw[gV,show cqp ((iO A B).take (A.length+B.length-1))=cqp (iO A B) from congrArg cqw (iT fun k=>by
  by_cases hk:k<A.length+B.length-1
  ·rw[kH (by rw[List.length_take];omega),kH (by omega),List.getElem_take]
  ·rw[eF (by rw[List.length_take];omega),fE,IQ (n:=B.length) A (fun j hj=>eF hj) (by omega)])]at t
 refine dS 5 5 32 3 (by simp only[wt,seval]) (fun f H=>∃ (k st:Nat),k≤A.length+B.length-1∧f 6=.iv (.int .i64 k)∧f 0=.iv (.sl (fD (A.map aP)))∧f 1=.iv (.sl (fD (B.map aP)))∧f 5=.hs 5 st∧H 5=.blk false st 32 3 (fD (((iO A B).take k).map aP))) (fun f H=>(A.length+B.length-aY f 6).toNat) ?_ ?_
 ·refine⟨0,1,by omega,?_⟩;simp only[wt,seval,rqs,fB,fM,List.take_zero]
 rintro f H ⟨k,st,hk,hF⟩;rw[aB hF.1];simp (disch:=omega) only[wt,seval,rqs,hF];by_cases hlt:k<A.length+B.length-1
 ·have hlt':(k:Int)<(A.length:Int)+(B.length:Int)-1:=by omega
  simp (disch:=omega) only[wt,seval,hqa,hqb,hlt'];refine ah (z0) (by rfl) (by simp) ?_;simp (disch:=omega) only[wt,seval,rqs];refine aH (fun f H=>∃ (i s7:Nat),i≤k+1∧f 8=.iv (.int .i64 i)∧f 6=.iv (.int .i64 k)∧f 0=.iv (.sl (fD (A.map aP)))∧f 1=.iv (.sl (fD (B.map aP)))∧f 5=.hs 5 st∧H 5=.blk false st 32 3 (fD (((iO A B).take k).map aP))∧f 7=.hp 7 s7 0 0∧H 7=.blk false s7 32 3 [nJ (aP (cvq (A.take i) (cfq B) k))]) (fun f H=>(k+1-aY f 8).toNat) ?_ ?_
  ·refine⟨0,(H 7).stamp+1,by omega,?_⟩;simp only[wt,seval,hF,show aP (cvq (A.take 0) (cfq B) k)=aP 0 from rfl]
  rintro f H ⟨i,s7,hi,hF⟩;rw[aB hF.1];simp (disch:=omega) only[wt,seval,hF];by_cases hik:i≤k
  ·have hik':(i:Int)≤(k:Int):=by omega
   have es:=qE (g:=cfq B) A i k;rw[if_pos hik]at es;by_cases h1:i<A.length
   ·have h1':(i:Int)<(A.length:Int):=by omega
    have e1:(k:Int)-(i:Int)=((k-i:Nat):Int):=by omega
    by_cases h2:k-i<B.length
    ·have h2':((k-i:Nat):Int)<(B.length:Int):=by omega
     have g1:=dR h1;have g2:=dR h2;have y1:=hA.cz hK1 i;have y2:=hB.cz hK1 (k-i);have y3:=hz i k;have y4:=qQ (cfq A i) (cfq B (k-i));have x:=rX (aP (cfq A i)) (aP (cfq B (k-i))) (aZ (by omega)) (aZ (by omega)) (bI _) (bI _);have y:=Iy (aP (cvq (A.take i) (cfq B) k)) (aP (cfq A i*cfq B (k-i))) (aZ (by omega)) (aZ (by omega)) (bI _) (bI _);rw[dB,dB]at x y;rw[← es]at y;simp (disch:=omega) only[wt,seval,rqs,hF,hqa,hqb,hik',h1',e1,h2',g1,g2];refine .inl ⟨aS (by kernel_rfl),?_⟩;refine ah (x) (by rfl) (by simp) ?_;simp (disch:=omega) only[wt,seval];refine ah (y) (by rfl) (by simp) ?_;simp (disch:=omega) only[wt,seval,rqs,hF];refine⟨bH (by kernel_rfl),?_⟩;refine⟨⟨i+1,s7,by omega,?_⟩,by omega⟩
     (repeat' apply And.intro)<;>first|rfl|omega
    ·have h2':¬((k-i:Nat):Int)<(B.length:Int):=by omega
     rw[eF (q:=B) (by omega),Rat.mul_zero,Rat.add_zero]at es;simp (disch:=omega) only[wt,seval,rqs,hF,hqa,hqb,hik',h1',e1,h2'];refine⟨⟨i+1,s7,by omega,?_⟩,by omega⟩;rw[es]
     (repeat' apply And.intro)<;>first|rfl|omega
   ·have h1':¬(i:Int)<(A.length:Int):=by omega
    rw[eF (q:=A) (by omega),Rat.zero_mul,Rat.add_zero]at es;simp (disch:=omega) only[wt,seval,rqs,hF,hqa,hik',h1'];refine⟨⟨i+1,s7,by omega,?_⟩,by omega⟩;rw[es]
    (repeat' apply And.intro)<;>first|rfl|omega
  ·have hik':¬(i:Int)≤(k:Int):=by omega
   obtain rfl:i=k+1:=by omega
   rw[zO,← fE]at hF;have hrq:(((iO A B).take k).map aP).length=k:=by rw[List.length_map,List.length_take];omega
   have et:=fG (q:=iO A B) (i:=k) (by omega);simp (disch:=omega) only[wt,seval,rqs,hF,hik',hrq];refine⟨⟨k+1,st+1,by omega,?_⟩,by omega⟩;rw[et,List.map_append]
   (repeat' apply And.intro)<;>first|rfl|omega
 ·have hlt':¬(k:Int)<(A.length:Int)+(B.length:Int)-1:=by omega
  obtain rfl:k=A.length+B.length-1:=by omega
  simp (disch:=omega) only[wt,seval,hF,hqa,hqb,hlt'];refine ah (t) (by simp only[gQ,tJ,hF];rfl) (by simp) ?_;simp (disch:=omega) only[wt,seval,hF]
theorem MI {A:List Rat}(h:aI A=A):aI (qC A)=qC A:=by
 have hd:=xw A;by_cases h0:A.length≤1
 ·have e:qC A=[]:=List.length_eq_zero_iff.mp (by omega);rw[e];rfl
 ·have ht:=iY h;have hp:=fF (q:=A) (by omega);rw[ht]at hp;have hc:cfq (qC A) (A.length-2)≠0:=by
   rw[uD,show A.length-2+1=A.length-1 by omega];intro e;rcases Rat.mul_eq_zero.mp e with e|e
   ·exact hp e
   ·exact lF (n:=A.length-1) (by omega) e
  have:=vS hc fun k hk=>eF (by omega)
  rw[aI,this,List.take_of_length_le (by omega)]
theorem Vp (p:List RQ)(n k:Nat)(h:GQ n k p)(hn:n≤2^40)(hk:k≤2^34)(hk1:1≤k):AC Tryz.prog 29 [cqw p] none [cqp (qC (qvs p))]:=by
 have nm:=gJ p (h.mono hn (by omega));have hA:=h.qb.aI;have dt:=MI (dP (qvs p));rw[show cqp (qC (qvs p))=cqp (qC (aI (qvs p))) from congrArg cqw (DX _).symm,show cqp (qC (aI (qvs p)))=cqw ((qC (aI (qvs p))).map aP) from congrArg cqw (by rw[cqs,dt])];refine AC.aA (rs:=[.tmp 2]) aX Tryz.func29 (by rfl) (by rfl) (by rfl) (by rfl) (by rfl) ?_;simp only[wt,seval];refine ah (nm) (by rfl) (by simp) ?_;simp only[wt,seval];unfold cqs;generalize aI (qvs p)=A at *;have hAl:=hA.1;have hq:(A.map aP).length=A.length:=List.length_map _;have hdl:=xw A;refine dS 3 3 32 3 (by simp only[wt,seval]) (fun f H=>∃ (i st:Nat),i≤A.length-1∧f 4=.iv (.int .i64 ((i:Int)+1))∧f 0=.iv (.sl (fD (A.map aP)))∧f 3=.hs 3 st∧H 3=.blk false st 32 3 (fD (((qC A).take i).map aP))) (fun f H=>(A.length-aY f 4).toNat) ?_ ?_
 ·refine⟨0,1,by omega,?_⟩;simp only[wt,seval,rqs,fB,fM,List.take_zero]
 rintro f H ⟨i,st,hi,hF⟩;rw[aB hF.1];simp (disch:=omega) only[wt,seval,rqs,hF];refine aQ (fun hlt=>?_) (fun hlt=>?_)
 ·rw[hq]at hlt;have hlt':i+1<A.length:=by omega
  have hrq:(((qC A).take i).map aP).length=i:=by rw[List.length_map,List.length_take];omega
  have e:=dR hlt';have ei:((i:Int)+1)=((i+1:Nat):Int):=by omega
  have o:=qX ((i+1:Nat):Int) 1 (by omega) (by omega) (by omega) (by omega);rw[show ((1:Nat):Rat)=1 from rfl,show (((i+1:Nat):Int):Rat)/1=(((i+1:Nat):Int):Rat) by grind]at o;have z1:=hA.cz hk1 (i+1);have z2:=Oy (i:=i+1) (by simp only[W];omega);have m:=rX (aP (cfq A (i+1))) (aP (((i+1:Nat):Int):Rat)) (aZ (by omega)) (aZ (by omega)) (bI _) (bI _);rw[dB,dB,show cfq A (i+1)*(((i+1:Nat):Int):Rat)=cfq (qC A) i by rw[uD,Rat.intCast_natCast]]at m;rw[ei]at hF;simp (disch:=omega) only[wt,seval,rqs,hF,hq,e,ei];refine .inl ⟨aS (by kernel_rfl),?_⟩;refine ah (o) (by rfl) (by simp) ?_;simp (disch:=omega) only[wt,seval];refine ah (m) (by rfl) (by simp) ?_;simp (disch:=omega) only[wt,seval,rqs,hF,hrq];refine⟨bH (by kernel_rfl),?_⟩;have et:=fG (q:=qC A) (i:=i) (by omega);refine⟨⟨i+1,st+1,by omega,?_⟩,by omega⟩;rw[et,List.map_append]
  (repeat' apply And.intro)<;>first|rfl|omega
 ·rw[hq]at hlt;rw[List.take_of_length_le (by omega)]at hF;simp (disch:=omega) only[wt,seval,hF]
  try rfl
theorem Ko (p:List RQ)(n k:Nat)(h:GQ n k p)(hn:n≤2^38)(hk:k≤2^34)(hk1:1≤k):AC Tryz.prog 30 [cqw p] none [cqp (P7 (aI (qvs p)))]:=by
 have nm:=gJ p (h.mono (by omega) (by omega));have hA:=h.qb.aI;have z0:=qX 0 1 (by omega) (by omega) (by omega) (by omega);rw[show ((0:Int):Rat)/((1:Nat):Rat)=0 by decide +kernel]at z0;refine AC.aA (rs:=[.tmp 2]) aX Tryz.func30 (by rfl) (by rfl) (by rfl) (by rfl) (by rfl) ?_;simp only[wt,seval];refine ah (nm) (by rfl) (by simp) ?_;simp only[wt,seval];unfold cqs;generalize aI (qvs p)=A at *;have hAl:=hA.1;have hq:(A.map aP).length=A.length:=List.length_map _;have hil:=nZ A;have hI:QB (2^40) (2^38) (0::zJ A):=by
  have hi:=hA.zJ (by omega) hk1;refine⟨by rw[List.length_cons];omega,fun c hc=>?_⟩;rcases List.mem_cons.1 hc with rfl|hc
  ·rw[lD];omega
  ·have:=hi.2 c hc;omega
 have t:=gJ ((0::zJ A).map aP) hI.gq;rw[gV,show cqp (0::zJ A)=cqp (P7 A) from congrArg cqw (iT fun k=>by
  unfold P7;split
  ·rename_i e;rw[e];cases k<;>rfl
  ·rfl)]at t
 have e3:[nJ (aP 0)]=fD (aP 0::((zJ A).take 0).map aP):=rfl;refine ah (z0) (by rfl) (by simp) ?_;simp (disch:=omega) only[wt,seval];simp only[seval,e3];refine aH (fun f H=>∃ (i st:Nat),i≤A.length∧f 4=.iv (.int .i64 i)∧f 0=.iv (.sl (fD (A.map aP)))∧f 3=.hs 8 st∧H 8=.blk false st 32 3 (fD (aP 0::((zJ A).take i).map aP))) (fun f H=>(A.length-aY f 4).toNat) ?_ ?_
 ·refine⟨0,1,by omega,?_⟩;simp only[wt,seval]
 rintro f H ⟨i,st,hi,hF⟩;rw[aB hF.1];simp (disch:=omega) only[wt,seval,rqs,hF];refine aQ (fun hlt=>?_) (fun hlt=>?_)
 ·have hlt':i<A.length:=by omega
  have hrq:(aP 0::((zJ A).take i).map aP).length=i+1:=by rw[List.length_cons,List.length_map,List.length_take];omega
  have e:=dR hlt';have ei:((i:Int)+1)=((i+1:Nat):Int):=by omega
  have o:=qX 1 (i+1) (by omega) (by omega) (by omega) (by omega);rw[Rat.intCast_one,show (1:Rat)/((i+1:Nat):Rat)=1/(((i+1:Nat):Int):Rat) by rw[Rat.intCast_natCast]]at o;have z1:=hA.cz hk1 i;have z2:=OA (i:=i) (by simp only[W];omega);have m:=rX (aP (cfq A i)) (aP (1/(((i+1:Nat):Int):Rat))) (aZ (by omega)) (aZ (by omega)) (bI _) (bI _);rw[dB,dB,← Bo]at m;simp (disch:=omega) only[wt,seval,rqs,hF,hq,e,ei];refine .inl ⟨aS (by kernel_rfl),?_⟩;refine ah (o) (by rfl) (by simp) ?_;simp (disch:=omega) only[wt,seval];refine ah (m) (by rfl) (by simp) ?_;simp (disch:=omega) only[wt,seval,rqs,hF,hrq,ei];refine⟨bH (by kernel_rfl),?_⟩;have et:=fG (q:=zJ A) (i:=i) (by omega);refine⟨⟨i+1,st+1,by omega,?_⟩,by omega⟩;rw[et,List.map_append]
  (repeat' apply And.intro)<;>first|rfl|omega
 ·obtain rfl:i=A.length:=by omega
  rw[List.take_of_length_le (by omega)]at hF;simp (disch:=omega) only[wt,seval,hF];refine ah (t) (by simp only[gQ,tJ,hF];rfl) (by simp) ?_;simp (disch:=omega) only[wt,seval,hF]
def PWH (A:List Rat)(m N K:Nat):Prop:=∀ k,k≤m→∃ D,CB D N K (a8J A k)
structure PWK (A:List Rat) (m N K:Nat):Prop where
 h:∀ k,k≤m→∃ D,CB D N K (aI (a8J A k))
theorem PWH.k {A:List Rat}{m N K:Nat}(h:PWH A m N K):PWK A m N K:=⟨fun k hk=>by
 obtain⟨D,hD⟩:=h k hk;exact⟨D,hD.trim⟩⟩
theorem CB.part {D E n m M N:Nat}{A B:List Rat}(hA:CB D n M A)(hB:CB E m N B)(h1:1≤M+N+(n+m))(i k:Nat):qz (cvq (A.take i) (cfq B) k)≤M+N+(n+m):=by
 have h:=((hA.sub (r:=A.take i) (by rw[List.length_take];have:=hA.l;omega) fun c hc=>List.mem_of_mem_take hc).iO hB).qb.cz h1 k;rwa [fE]at h






theorem fV {b:OB}{bs:List (OB×OB)}{l:List RQ}(h:bs.length=l.length):Jk (.iv (fqp b bs l)) (cqw l):=.iv (ZJ h)

theorem G9 {bs:List (OB×OB)}{l:List RQ}(h:bs.length=l.length){i:Nat}(hi:i<l.length)(b c:OB)(r:RQ):(aU bs l).set i (frq b c r)=aU (bs.set i (b,c)) (l.set i r):=by
 refine List.ext_getElem? fun j=>?_;have hb:(bs.set i (b,c)).length=(l.set i r).length:=by rw[List.length_set,List.length_set,h]
 by_cases hj:j=i
 ·subst hj;rw[List.getElem?_set_self (by rw[bG h];exact hi),rZ hb (by rw[List.length_set];exact hi)];have h2:j<bs.length:=by omega
  simp[List.getD,hi,h2]
 ·rw[List.getElem?_set_ne (fun e=>hj e.symm)];simp only[aU,List.getElem?_zipWith];rw[List.getElem?_set_ne (fun e=>hj e.symm),List.getElem?_set_ne (fun e=>hj e.symm)]
theorem Gf (n:Nat):List.replicate n (frq none none q0)=aU (List.replicate n (none,none)) (List.replicate n q0):=by simp[aU]
theorem lH (b c:OB)(r:RQ):(frq b c r).length=3:=rfl
theorem iK:[IV.bool false,IV.own none 148 1 [],IV.own none 148 1 []]=frq none none q0:=rfl
theorem QL (a b:RQ)(ha:SzQ (2^35) a)(hb:SzQ (2^35) b)(h0:nv a.2≠0)(h1:nv b.2≠0):ACX Tryz.prog 88 [cqq a,cqq b] (Zd (aP (qv a-qv b)) 0):=by
 have n:=NZ b.1 (hb.1.mono (by omega));have z:=lI hb.1;have m:=QU a (canon (-iv b.1),b.2) ha ⟨(aW _).mono (by rw[zu];exact z),hb.2⟩ h0 h1;rw[a4v,← Rat.sub_eq_add_neg]at m;refine ACX.aA zi0 (rs:=[.cell 4 32,.tmp 5]) aX Tryz.func88 (by rfl) (by rfl) (by rfl) (by rfl) (by rfl) (D9 _ _) (fun B0=>?_);simp (disch:=omega) only[wt,seval,rqs];refine ah (n) (by rfl) (by simp) ?_;simp (disch:=omega) only[wt,seval,rqs];refine aK (m) (by rfl) (by simp) (by rfl) ?_;rintro B1 E1 _ hB1 hE1 ⟨b1,c1,rfl,hb1⟩;simp (disch:=omega) only[wt,seval,cO];refine aT [.agg (frq b1 c1 (aP (qv a-qv b))),ci 0] (by rfl) (by simp (disch:=omega) only[wt,seval,bF]) ?_;intro E hE;exact⟨b1,c1,rfl,hb1.mono hB1 (by omega)⟩
theorem Wq (p q:List RQ)(K:Nat)(hp:GQ (2^30) K p)(hq:GQ (2^30) K q)(hK:K≤2^35)(hK1:1≤K):ACX Tryz.prog 13 [cqw p,cqw q] (RQp (cqs (a3A (qvs p) (qvs q))) 0):=by
 have m:=KW p q 88 (fun a b=>a-b) K hp hq hK hK1 (by decide +kernel) (fun a b ha hb=>by have:=VZ a b;omega) (fun a b ha hb=>by
  have:=QL (aP a) (aP b) (aZ (by omega)) (aZ (by omega)) (bI _) (bI _);rwa [dB,dB]at this)
 rw[show qO (fun a b=>a-b) (qvs p) (qvs q)=a3A (qvs p) (qvs q) from rfl]at m;refine ACX.aA zi0 (rs:=[.tmp 4,.tmp 5]) aX Tryz.func13 (by rfl) (by rfl) (by rfl) (by rfl) (by rfl) (Il _ _) (fun B=>?_);simp only[wt,seval];refine aK (m) (by rfl) (by simp) (by rfl) ?_;rintro B' E _ hB hE ⟨b,bs,rfl,hl,hn⟩;simp (disch:=omega) only[wt,seval];refine aT [.iv (fqp b bs (cqs (a3A (qvs p) (qvs q)))),ci 0] (by rfl) (by simp (disch:=omega) only[wt,seval]) ?_;intro E hE;exact⟨b,bs,rfl,hl,hn.mono hB (by omega)⟩
theorem QS (a b:RQ)(ha:SzQ (2^35) a)(hb:SzQ (2^35) b)(h0:nv a.2≠0)(h1:nv b.2≠0):ACX Tryz.prog 96 [cqq a,cqq b] (Zd (aP (qv a*qv b)) 0):=by
 have c:=qx a b (ha.mono (by omega)) (hb.mono (by omega)) h0 h1;have z1:=jL (iv a.1) (iv b.1);have y1:=lI ha.1;have y2:=lI hb.1;have y3:=vI ha.2;have y4:=vI hb.2;have s:=uZ a.1 b.1 (ha.1.mono (by omega)) (hb.1.mono (by omega));have m:=Dc a.2 b.2 ha.2.2 hb.2.2 (Nat.le_trans ha.2.1 (by omega)) (Nat.le_trans hb.2.1 (by omega));have hw:(wd (nv a.2*nv b.2)).length≤2^35+2^35:=oz y3 y4;have r:=wL (canon (iv a.1*iv b.1)) (wd (nv a.2*nv b.2)) ((aW _).mono (by omega)) ⟨by omega,aO _⟩ (by rw[bC];exact Nat.mul_ne_zero h0 h1);rw[aN,bC,Xg]at r;refine ACX.aA zi0 (rs:=[.cell 4 32,.tmp 5]) aX Tryz.func96 (by rfl) (by rfl) (by rfl) (by rfl) (by rfl) (D9 _ _) (fun B0=>?_);simp (disch:=omega) only[wt,seval,rqs,Az];refine ah (c) (by rfl) (by simp) ?_;simp (disch:=omega) only[wt,seval,rqs];refine .inl ⟨aS (by kernel_rfl),?_⟩;refine ah (s) (by rfl) (by simp) ?_;simp (disch:=omega) only[wt,seval];refine ah (m) (by rfl) (by simp) ?_;simp only[wt,seval];refine aK (r) (by rfl) (by simp) (by rfl) ?_;rintro B1 E1 _ hB1 hE1 ⟨b1,c1,rfl,hb1⟩;simp (disch:=omega) only[wt,seval,cO];refine⟨bH (by kernel_rfl),?_⟩;refine aT [.agg (frq b1 c1 (aP (qv a*qv b))),ci 0] (by rfl) (by simp (disch:=omega) only[wt,seval,bF]) ?_;intro E hE;exact⟨b1,c1,rfl,hb1.mono hB1 (by omega)⟩
theorem a0Z (x y z:IV)(w:IV):lay (fun i=>[(0,2),(2,1)][i]?) [x,y,z] ([1].zip [[w]])=some ((1=1∧2+1≤3)∧True,[x,y,w]):=rfl
set_option maxRecDepth 4000 in
theorem CO:ACX Tryz.prog 94 [] (RRq (aP 0)):=by
 have m:=X7 1 (by decide);rw[show wd 1=[1] by decide +kernel]at m;have e:aP 0=((false,[]),[1]):=by decide +kernel
 rw[e];refine ACX.aA ziX (rs:=[.cell 0 32]) aX Tryz.func94 (by rfl) (by rfl) (by rfl) (by rfl) (by rfl) (a4w _) (fun B=>?_);simp (disch:=omega) only[wt,seval,iK];refine aK (m) (by rfl) (by simp) (by rfl) ?_;rintro B1 E1 _ hB1 hE1 ⟨b,rfl,hb⟩;simp (disch:=omega) only[wt,seval,iK,a0Z];refine aT [.agg (frq none b ((false,[]),[1]))] (by rfl) (by simp (disch:=omega) only[wt,seval,iK];rfl) ?_;intro E hE;exact⟨none,b,rfl,(show Nw B E ([]++oid b) by rw[List.nil_append];exact hb.mono hB1 (by omega))⟩
theorem Wy (A:List Rat)(i:Nat)(h:QB (2^40) (2^38) A):ACX Tryz.prog 105 [cqw (A.map aP),ci i] (RRq (aP (cfq A i))):=by
 have hl:=h.1;have hq:(A.map aP).length=A.length:=List.length_map _;have h0:¬(i:Int)<0:=by omega
 refine ACX.aA zi0 (rs:=[.cell 4 32]) aX Tryz.func105 (by rfl) (by rfl) (by rfl) (by rfl) (by rfl) (a4w _) (fun B0=>?_);by_cases h1:i<A.length
 ·have h2:¬(A.length:Int)≤(i:Int):=by omega
  have m:=KU (aP (cfq A i)) (aZ (h.cz (by omega) i)) (bI _);rw[dB]at m;have e:=dR h1;simp (disch:=omega) only[wt,seval,rqs,h0,h2,hq,e];refine aK (m) (by rfl) (by simp) (by rfl) ?_;rintro B1 E1 _ hB1 hE1 ⟨b,c,rfl,hb⟩;simp (disch:=omega) only[wt,seval,cO,bF];refine aT [.agg (frq b c (aP (cfq A i)))] (by rfl) (by simp (disch:=omega) only[wt,seval,bF]) ?_;intro E hE;exact⟨b,c,rfl,hb.mono hB1 (by omega)⟩
 ·have h2:(A.length:Int)≤(i:Int):=by omega
  rw[eF (by omega)];simp (disch:=omega) only[wt,seval,rqs,h0,h2,hq];refine aK (CO) (by rfl) (by simp) (by rfl) ?_;rintro B1 E1 _ hB1 hE1 ⟨b,c,rfl,hb⟩;simp (disch:=omega) only[wt,seval,cO];refine aT [.agg (frq b c (aP 0))] (by rfl) (by simp (disch:=omega) only[wt,seval,bF]) ?_;intro E hE;exact⟨b,c,rfl,hb.mono hB1 (by omega)⟩
theorem WB (p:List RQ)(i:Nat)(h:GQ (2^40) (2^38) p):ACX Tryz.prog 21 [cqw p,ci i] (Zd (aP (cfq (qvs p) i)) 0):=by
 have n:=kY p h;have c:=Wy (aI (qvs p)) i h.qb.aI;rw[dZ]at c;refine ACX.aA zi0 (rs:=[.cell 4 32,.tmp 5]) aX Tryz.func21 (by rfl) (by rfl) (by rfl) (by rfl) (by rfl) (D9 _ _) (fun B0=>?_);simp (disch:=omega) only[wt,seval];refine ah (n) (by rfl) (by simp) ?_;simp (disch:=omega) only[wt,seval];refine aK (c) (by rfl) (by simp) (by rfl) ?_;rintro B1 E1 _ hB1 hE1 ⟨b1,c1,rfl,hb1⟩;simp (disch:=omega) only[wt,seval,cO];refine aT [.agg (frq b1 c1 (aP (cfq (qvs p) i))),ci 0] (by rfl) (by simp (disch:=omega) only[wt,seval,bF]) ?_;intro E hE;exact⟨b1,c1,rfl,hb1.mono hB1 (by omega)⟩
end Go.Proofs.YtdpngipofekcfaaGreat
