/-
 Contracts of the functions that the law reaches.
-/
import Derived.Test.YtdpngipofekcfaaGreatL117M
import Derived.Test.YtdpngipofekcfaaGreatAbsZ2
set_option maxHeartbeats 2000000
namespace Go.Proofs.YtdpngipofekcfaaGreat
open Go Go.Proofs Go.AL
set_option linter.unusedSimpArgs false
set_option linter.unusedVariables false
theorem Wp (a b:RQ)(ha:SzQ (2^35) a)(hb:SzQ (2^35) b)(h0:nv a.2≠0)(h1:nv b.2≠0)(h2:iv b.1≠0):ACX Tryz.prog 95 [cqq a,cqq b] (Zd (aP (qv a/qv b)) 0):=by
 have c:=qx a b (ha.mono (by omega)) (hb.mono (by omega)) h0 h1;have t1:=wK a.1 b.2 (ha.1.mono (by omega)) ⟨Nat.le_trans hb.2.1 (by omega),hb.2.2⟩;have t2:=wK b.1 a.2 (hb.1.mono (by omega)) ⟨Nat.le_trans ha.2.1 (by omega),ha.2.2⟩;have z1:=jL (iv a.1) (nv b.2:Nat);have z2:=jL (iv b.1) (nv a.2:Nat);have y1:=lI ha.1;have y2:=lI hb.1;have y3:=vI ha.2;have y4:=vI hb.2;have r:=CP (canon (iv a.1*(nv b.2:Nat))) (canon (iv b.1*(nv a.2:Nat))) ((aW _).mono (by omega)) ((aW _).mono (by omega)) (by rw[aN];exact Int.mul_ne_zero h2 (by omega));rw[aN,aN,a6E h0 h1 h2]at r;refine ACX.aA zi0 (rs:=[.cell 4 32,.tmp 5]) aX Tryz.func95 (by rfl) (by rfl) (by rfl) (by rfl) (by rfl) (D9 _ _) (fun B0=>?_);simp (disch:=omega) only[wt,seval,rqs,Az];refine ah (c) (by rfl) (by simp) ?_;simp (disch:=omega) only[wt,seval,rqs];refine .inl ⟨aS (by kernel_rfl),?_⟩;refine ah (t1) (by rfl) (by simp) ?_;simp (disch:=omega) only[wt,seval,rqs];refine ah (t2) (by rfl) (by simp) ?_;simp only[wt,seval];refine aK (r) (by rfl) (by simp) (by rfl) ?_;rintro B1 E1 _ hB1 hE1 ⟨b1,c1,rfl,hb1⟩;simp (disch:=omega) only[wt,seval,cO];refine⟨bH (by kernel_rfl),?_⟩;refine aT [.agg (frq b1 c1 (aP (qv a/qv b))),ci 0] (by rfl) (by simp (disch:=omega) only[wt,seval,bF]) ?_;intro E hE;exact⟨b1,c1,rfl,hb1.mono hB1 (by omega)⟩
def a5E (l m:List RQ)(e:Int)(B E:Nat)(res:List CV):Prop:=∃ b bs c cs,res=[.iv (fqp b bs l),.iv (fqp c cs m),ci e]∧bs.length=l.length∧cs.length=m.length∧Nw B E ((oid b++idq bs)++(oid c++idq cs))
theorem X8 (l m:List RQ)(e:Int)(B:Nat):∃ E res,B≤E∧a5E l m e B E res:=⟨B,_,Nat.le_refl _,none,List.replicate l.length (none,none),none,List.replicate m.length (none,none),rfl,by simp,by simp,by rw[Dt,Dt];exact .nil _ _⟩
theorem WA (p q:List RQ)(hp:GQ (2^40) (2^38) p)(hq:GQ (2^40) (2^38) q):ACX Tryz.prog 89 [cqw p,cqw q] (a5E (cqs (qvs p)) (cqs (qvs q)) 0):=by
 have m:=yL p hp;have n:=yL q hq;refine ACX.aA zi0 (rs:=[.tmp 4,.tmp 5,.tmp 6]) aX Tryz.func89 (by rfl) (by rfl) (by rfl) (by rfl) (by rfl) (X8 _ _ _) (fun B0=>?_);simp only[wt,seval];refine aK (m) (by rfl) (by simp) (by rfl) ?_;rintro B1 E1 _ hB1 hE1 ⟨b1,bs1,rfl,hl1,hb1⟩;simp (disch:=omega) only[wt,seval];refine aK (n) (by rfl) (by simp) (by rfl) ?_;rintro B2 E2 _ hB2 hE2 ⟨b2,bs2,rfl,hl2,hb2⟩;simp (disch:=omega) only[wt,seval];refine aT [.iv (fqp b1 bs1 (cqs (qvs p))),.iv (fqp b2 bs2 (cqs (qvs q))),ci 0] (by rfl) (by simp (disch:=omega) only[wt,seval]) ?_;intro E hE;exact⟨b1,bs1,b2,bs2,rfl,hl1,hl2,(hb1.append hb2 (by omega) (by omega) (by omega)).mono (by omega) (by omega)⟩
theorem LV (b:OB)(l:List Nat):Full (.own b 148 1 (bW l)):=.own _ _ _ _ fun r hr x hx=>by
 obtain⟨n,_,rfl⟩:=List.mem_map.1 hr;simp only[List.mem_singleton]at hx;subst hx;exact .int _ _
theorem Dz (bs:List (OB×OB))(l:List RQ):∀ r∈aU bs l,∀ x∈r,Full x:=fun r hr x hx=>by
 obtain⟨i,hi⟩:=List.getElem?_of_mem hr;rw[aU,List.getElem?_zipWith]at hi;split at hi
 ·injection hi with hi;subst hi;simp only[List.mem_cons,List.not_mem_nil,or_false]at hx;rcases hx with rfl|rfl|rfl
  ·exact .bool _
  ·exact LV _ _
  ·exact LV _ _
 ·cases hi
theorem a6M {B E:Nat}{l:List Nat}{b:OB}(h:Nw B E (oid b++l)){g cap:Nat}(hb:b=some (g,cap)):B≤g∧g∉l:=by
 subst hb;exact⟨(h.2 g (by simp[oid])).1,fun hg=>(List.nodup_append.1 h.1).2.2 g (by simp[oid]) g hg rfl⟩
theorem VK {l m:List RQ}{e:Int}(B' E:Nat)(res:List CV)(h:a5E l m e B' E res):∃ b rows rest,res=.iv (.own b 32 3 rows)::rest∧(∀ r∈rows,∀ x∈r,Full x)∧(∀ c∈rest,a1T c)∧∀ g cap,b=some (g,cap)→B'≤g∧g∉bf rows∧∀ c∈rest,g∉a4X c:=by
 obtain⟨b,bs,c,cs,rfl,h1,h2,hn⟩:=h;refine⟨b,_,_,rfl,Dz _ _,fun x hx=>?_,fun g cap hb=>?_⟩
 ·simp only[List.mem_cons,List.not_mem_nil,or_false]at hx;rcases hx with rfl|rfl
  ·exact .own _ _ _ _ (Dz _ _)
  ·exact .int _ _
 ·rw[List.append_assoc]at hn;have ho:=a6M hn hb;rw[iG h1];refine⟨ho.1,fun h=>ho.2 (List.mem_append_left _ h),fun x hx=>?_⟩;simp only[List.mem_cons,List.not_mem_nil,or_false]at hx;rcases hx with rfl|rfl
  ·simp only[a4X,IV.ids,iG h2];intro hg;refine ho.2 (List.mem_append_right _ ?_);cases c with
   | none=>simpa [oid] using hg
   | some p=>simpa [oid] using hg
  ·simp[a4X,IV.ids]
theorem Nw.sub {B E:Nat}{l m:List Nat}(h:Nw B E l)(hs:m.Sublist l):Nw B E m:=⟨h.1.sublist hs,fun g hg=>h.2 g (hs.subset hg)⟩
theorem Xz {bs:List (OB×OB)}{i:Nat}(hi:i<bs.length)(b c:OB):idq (bs.set i (b,c))=idq (bs.take i)++((oid b++oid c)++idq (bs.drop (i+1))):=by
 rw[List.set_eq_take_append_cons_drop,if_pos hi];simp[idq]
theorem LM {bs:List (OB×OB)}{i:Nat}(hi:i<bs.length):idq bs=idq (bs.take i)++((oid bs[i].1++oid bs[i].2)++idq (bs.drop (i+1))):=by
 have e:bs=bs.take i++bs[i]::bs.drop (i+1):=by rw[← List.drop_eq_getElem_cons hi,List.take_append_drop]
 have h:idq (bs.take i++bs[i]::bs.drop (i+1))=idq (bs.take i)++((oid bs[i].1++oid bs[i].2)++idq (bs.drop (i+1))):=by simp only[idq,List.flatMap_append,List.flatMap_cons]
 rw[← e]at h;exact h
theorem a6K {B E C F:Nat}{bs:List (OB×OB)}{l m:List Nat}{i:Nat}(hi:i<bs.length){b c:OB}(h:Nw B E (l++(idq bs++m)))(k:Nw C F (oid b++oid c))(hB:B≤C)(hE:E≤C)(hF:E≤F):Nw B F (l++(idq (bs.set i (b,c))++m)):=by
 rw[LM hi]at h;rw[Xz hi];have h1:Nw B E (l++((idq (bs.take i)++idq (bs.drop (i+1)))++m)):=h.sub ((((List.sublist_append_right _ _).append_left _).append_right _).append_left _);have h2:=h1.append k hB hE hF;refine h2.perm ?_;refine List.perm_iff_count.2 fun a=>?_;simp only[List.count_append];omega
theorem a6L {B E:Nat}{bs:List (OB×OB)}{l m:List Nat}{i:Nat}(hi:i<bs.length){b c:OB}(h:Nw B E (l++(idq bs++(oid b++oid c)++m))):Nw B E (l++(idq (bs.set i (b,c))++m)):=by
 rw[LM hi]at h;rw[Xz hi];have h1:Nw B E (l++((idq (bs.take i)++idq (bs.drop (i+1)))++(oid b++oid c)++m)):=h.sub (((((List.sublist_append_right _ _).append_left _).append_right _).append_right _).append_left _);refine h1.perm ?_;refine List.perm_iff_count.2 fun a=>?_;simp only[List.count_append];omega
theorem zK (bs:List (OB×OB))(k:Nat):(idq (bs.take k)).Sublist (idq bs):=by
 have e:idq bs=idq (bs.take k)++idq (bs.drop k):=by
  rw[idq,idq,idq,← List.flatMap_append,List.take_append_drop]
 rw[e];exact List.sublist_append_left _ _
set_option maxRecDepth 8000 in
set_option maxHeartbeats 4000000 in
theorem a0p (p q:List RQ)(hp:GQ (2^30) (2^32) p)(hq:GQ (2^30) (2^32) q)(n K:Nat)(v:DV (aI (qvs p)) (aI (qvs q)) n K):ACX Tryz.prog 16 [cqw p,cqw q] (a5E (cqs (dqu (aI (qvs p)) (aI (qvs q)) n)) ((dit (aI (qvs p)) (aI (qvs q)) n).map aP) 0):=by
 have m:=WA p q (hp.mono (by omega) (by omega)) (hq.mono (by omega) (by omega));refine ACX.aA zi0 (rs:=[.tmp 4,.tmp 5,.tmp 6]) aX Tryz.func16 (by rfl) (by rfl) (by rfl) (by rfl) (by rfl) (X8 _ _ _) (fun B0=>?_);simp only[wt,seval];refine Bz (m.aci (k:=21) (e:=32) (sz:=3) (by rfl) (by simp) (by rfl) (by rfl) VK) ?_;rintro _ _ ⟨B1,E1,_,_,_,hB1,hE1,⟨b,bs,c,cs,he,hl1,hl2,hnw⟩,rfl,rfl⟩;simp only[List.cons.injEq,CV.iv.injEq,IV.own.injEq]at he;obtain⟨⟨rfl,_,_,rfl⟩,rfl⟩:=he;have hnb:Nw B0 E1 (idq bs):=(hnw.sub ((List.sublist_append_right _ _).trans (List.sublist_append_left _ _))).mono hB1 (Nat.le_refl _);clear hnw m;unfold cqs at *;generalize aI (qvs p)=A at *;generalize aI (qvs q)=B at *;obtain⟨la,lb,h0,hb,ta,tb,en,hj,za,zb,k1,k2⟩:=v;rw[List.length_map]at hl1 hl2;have hqa:(aU bs (A.map aP)).length=A.length:=by rw[bG (by rw[hl1,List.length_map]),List.length_map]
 have hqb:(aU cs (B.map aP)).length=B.length:=by rw[bG (by rw[hl2,List.length_map]),List.length_map]
 have hb0:¬(B.length:Int)=0:=by omega
 obtain⟨N,hN⟩:∃ N,N=A.length+1-B.length:=⟨_,rfl⟩;have hNI:max ((A.length:Int)-(B.length:Int)+1) 0=(N:Int):=by omega
 simp (disch:=omega) only[wt,seval,hqa,hqb,hb0,hNI,lS,CV.av];refine dS 10 10 32 3 (by simp only[wt,seval]) (fun f H=>∃ (i st:Nat) (qs:List (OB×OB)) (E:Nat),i≤N∧qs.length=i∧B0≤E∧Nw B0 E (idq bs++idq qs)∧f 40=.iv (.int .i64 i)∧f 39=.iv (.int .i64 N)∧f 7=.hs 21 1∧f 8=.iv (fqp c cs (B.map aP))∧f 10=.hs 10 st∧H 21=.blk false 1 32 3 (aU bs (A.map aP))∧H 10=.blk false st 32 3 (aU qs ((List.replicate i (0:Rat)).map aP))∧H 999=.mrk E) (fun f H=>(N-aY f 40).toNat) ?_ ?_
 ·refine⟨0,1,[],E1,by omega,rfl,by omega,by simpa [idq] using hnb,?_⟩;simp only[wt,seval,fB,fM,List.replicate_zero];rfl
 rintro f H ⟨i,st,qs,E,hi,hqs,hBE,hnw,h40,h39,h7,h8,h10,hH1,hH2,Iz⟩;rw[aB h40];have hrq:(aU qs ((List.replicate i (0:Rat)).map aP)).length=i:=by rw[bG (by simp[hqs])];simp
 simp (disch:=omega) only[wt,seval,h40,h39];refine aQ (fun hlt=>?_) (fun hlt=>?_)
 ·simp (disch:=omega) only[wt,seval,h10];refine aK (CO) (by rfl) (by simp) (by assumption) ?_;rintro B2 E2 _ hB2 hE2 ⟨b2,c2,rfl,hn2⟩;simp (disch:=omega) only[wt,seval,h40,h39,h7,h8,hH1,hH2,hrq];refine⟨⟨i+1,st+1,qs++[(b2,c2)],E2,by omega,by simp[hqs],by omega,?_,by omega,rfl,?_,rfl⟩,by omega⟩
  ·rw[uh,← List.append_assoc];exact hnw.append hn2 (by omega) hB2 (by omega)
  ·rw[jI (by simp[hqs]),List.replicate_succ',List.map_append];rfl
 obtain rfl:i=N:=by omega
 rw[← a0A]at hH2;simp (disch:=omega) only[wt,seval];refine aH (fun f H=>∃ (k sr sq:Nat) (rs qs:List (OB×OB)) (E:Nat),k≤n∧rs.length=(dit A B k).length∧qs.length=i∧B0≤E∧Nw B0 E (idq rs++idq qs)∧f 7=.hs 21 sr∧f 8=.iv (fqp c cs (B.map aP))∧f 10=.hs 10 sq∧H 21=.blk false sr 32 3 (aU rs ((dit A B k).map aP))∧H 10=.blk false sq 32 3 (aU qs ((Ib i (dqu A B k)).map aP))∧H 999=.mrk E) (fun f H=>hrows (H 21)) ?_ ?_
 ·exact⟨0,1,st,bs,qs,E,Nat.zero_le _,hl1,hqs,hBE,hnw,by simp only[wt,seval,h7],by simp only[wt,seval,h8],by simp only[wt,seval,h10],hH1,hH2,Iz⟩
 clear h40 h39 h7 h8 h10 hH1 hH2 Iz hnw hqs hBE hnb hrq hqa;clear f H;rintro f H ⟨k,sr,sq,rs,qs,E,hk,hrs,hqs,hBE,hnw,h7,h8,h10,hH1,hH2,Iz⟩;have hrl:(aU rs ((dit A B k).map aP)).length=(dit A B k).length:=by rw[bG (by rw[hrs,List.length_map]),List.length_map]
 rw[show hrows (H 21)=(dit A B k).length by rw[hH1,LP,hrl]];by_cases hge:B.length≤(dit A B k).length
 ·have hkn:k<n:=Nat.lt_of_le_of_ne hk fun e=>by rw[e]at hge;omega
  have hl1:=vM h0 hb k fun j hjk=>hj j (by omega)
  have hlow:=Px h0 hb k (fun j hjk=>hj j (by omega)) ((dit A B k).length-B.length) (by omega);have hset:=a5l (N:=i) (k:=k) (A:=A) (B:=B) (by omega) hlow;have hend:=ZA hge;have hdn:=DT h0 hb hge;have zx:=za k hk;have zx1:=za (k+1) hkn;rw[show dit A B (k+1)=dn1 (dit A B k) B from rfl]at zx1;have a7W:dit A B (k+1)=dn1 (dit A B k) B:=rfl;generalize hQ':dqu A B (k+1)=Q' at *;generalize hXX:dit A B k=X at *;generalize dqu A B k=Q at *;obtain⟨s,hs⟩:∃ s,s=X.length-B.length:=⟨_,rfl⟩;rw[← hs]at hset hend;have zc:=W9 (cfq X (X.length-1)) (cfq B (B.length-1));have zc1:=zx (X.length-1);have zc2:=zb (B.length-1);have mq:=Wp (aP (cfq X (X.length-1))) (aP (cfq B (B.length-1))) (aZ (by omega)) (aZ (by omega)) (bI _) (bI _) (by rw[P5];exact fun e=>hb (Rat.num_eq_zero.mp e));rw[dB,dB,show cfq X (X.length-1)/cfq B (B.length-1)=dc X B from rfl]at mq;rw[show cfq X (X.length-1)/cfq B (B.length-1)=dc X B from rfl]at zc;have hge':(B.length:Int)≤(X.length:Int):=by omega
  have e1:(X.length:Int)-1=((X.length-1:Nat):Int):=by omega
  have e2:(B.length:Int)-1=((B.length-1:Nat):Int):=by omega
  have e3:(X.length:Int)-(B.length:Int)=(s:Int):=by omega
  have g1:=kP (bs:=rs) (l:=X.map aP) (by rw[hrs,List.length_map]) (i:=X.length-1) (by rw[List.length_map];omega);have g2:=kP (bs:=cs) (l:=B.map aP) (by rw[hl2,List.length_map]) (i:=B.length-1) (by rw[List.length_map];omega);rw[dR (by omega)]at g1 g2;have hs0:=Vs X B (dc X B) (s:=s) (by omega);simp (disch:=omega) only[wt,seval,bF,h7,h8,hH1,hrl,hqb,hge',e1,e2,e3,g1,g2];refine .inr ⟨[0,1,2,3,4,5,6,7,8,9,10,11,16,12,13,14,15,17,18],[0,1,2,3,4,5,6,7,8,9,10,11,13,14,15,16,12,17,18],by kernel_rfl,aS (by kernel_rfl),?_⟩;simp only[kZ,a2r,List.map_cons,List.map_nil,List.getD_cons_zero,List.getD_cons_succ];simp (disch:=omega) only[wt,seval,bF,h7,h8,hH1,hrl,hqb,e1,e2,g1,g2];refine aK ((mq.soft (.cons (nU _ _ _) (.cons (nU _ _ _) .nil)))) (by rfl) (by simp) (by assumption) ?_;rintro B2 E2 _ hB2 hE2 ⟨b2,c2,rfl,hn2⟩;simp (disch:=omega) only[wt,seval,cO,h8,hqb];refine⟨bH (by kernel_rfl),?_⟩;refine aH (fun f H=>∃ (j sc:Nat) (rs:List (OB×OB)) (E:Nat),j≤B.length∧rs.length=X.length∧B0≤E∧Nw B0 E (idq rs++(idq qs++(oid b2++oid c2)))∧f 75=.iv (.int .i64 j)∧f 74=.iv (.int .i64 B.length)∧f 73=.iv (fqp c cs (B.map aP))∧f 8=.iv (fqp c cs (B.map aP))∧f 7=.hs 21 sr∧f 10=.hs 10 sq∧f 11=.iv (.int .i64 s)∧f 12=.hp 12 sc 0 0∧H 12=.blk false sc 32 3 [frq b2 c2 (aP (dc X B))]∧H 21=.blk false sr 32 3 (aU rs ((Jz X B (dc X B) s j).map aP))∧H 10=.blk false sq 32 3 (aU qs ((Ib i Q).map aP))∧H 999=.mrk E) (fun f H=>(B.length-aY f 75).toNat) ?_ ?_
  ·refine⟨0,(H 12).stamp+1,rs,E2,by omega,hrs,by omega,?_,?_⟩
   ·rw[← List.append_assoc];exact hnw.append hn2 (by omega) hB2 (by omega)
   ·simp only[wt,seval,h7,h8,h10,hH1,hH2,hs0]
    try rfl
  clear h7 h8 h10 hH1 hH2 Iz hnw hrs hrl g1 hBE hB2 hE2 hn2;clear f H;rintro f H ⟨j,sc,rs,E,hjl,hrs,hBE,hnw,h75,h74,h73,h8,h7,h10,h11,h12,hH3,hH1,hH2,Iz⟩;rw[aB h75];have hsl:(aU rs ((Jz X B (dc X B) s j).map aP)).length=X.length:=by rw[bG (by rw[List.length_map,iZ];exact hrs),List.length_map,iZ]
  simp (disch:=omega) only[wt,seval,h75,h74];refine aQ (fun hlt=>?_) (fun hlt=>?_)
  ·have hlt':j<B.length:=by omega
   have e4:(s:Int)+(j:Int)=((s+j:Nat):Int):=by omega
   have g3:=kP (bs:=cs) (l:=B.map aP) (by rw[hl2,List.length_map]) (i:=j) (by rw[List.length_map];omega);rw[dR hlt']at g3;have g4:=kP (bs:=rs) (l:=(Jz X B (dc X B) s j).map aP) (by rw[List.length_map,iZ];exact hrs) (i:=s+j) (by rw[List.length_map,iZ];omega);rw[dR (q:=Jz X B (dc X B) s j) (i:=s+j) (by rw[iZ];omega),qG (by omega),if_neg (by omega)]at g4;have zj:=zb j;have zs:=zx (s+j);have zm:=qQ (dc X B) (cfq B j);have mm:=a4l (aP (dc X B)) (aP (cfq B j)) (aZ (by omega)) (aZ (by omega)) (bI _) (bI _);have ms:=QL (aP (cfq X (s+j))) (aP (dc X B*cfq B j)) (aZ (by omega)) (aZ (by omega)) (bI _) (bI _);rw[dB,dB]at mm ms;have hst:=Zz (A:=X) (B:=B) (c:=dc X B) (s:=s) (i:=j) (by omega);simp (disch:=omega) only[wt,seval,cO,bF,h75,h73,h12,hH3,hqb,g3];refine ah ((mm.soft (.cons (nU _ _ _) (.cons (nU _ _ _) .nil)))) (by rfl) (by simp) ?_;simp (disch:=omega) only[wt,seval,rqs,bF,h7,h11,hH1,hsl,e4,g4];refine .inl ⟨aS (by kernel_rfl),?_⟩;refine aK ((ms.soft (.cons (nU _ _ _) (.cons (.refl _) .nil)))) (by rfl) (by simp) (by assumption) ?_;rintro B3 E3 _ hB3 hE3 ⟨b3,c3,rfl,hn3⟩;simp (disch:=omega) only[wt,seval,cO,h75,h74,h73,h8,h7,h10,h11,h12,hH3,hH1,hH2,hsl,g4];refine⟨bH (by kernel_rfl),?_⟩;have Uc:=G9 (bs:=rs) (l:=(Jz X B (dc X B) s j).map aP) (by rw[List.length_map,iZ];exact hrs) (i:=s+j) (by rw[List.length_map,iZ];omega) b3 c3 (aP (cfq X (s+j)-dc X B*cfq B j));rw[hst]at Uc;refine⟨⟨j+1,sc,rs.set (s+j) (b3,c3),E3,by omega,by rw[List.length_set];exact hrs,by omega,a6K (l:=[]) (by omega) hnw hn3 (by omega) hB3 (by omega),?_⟩,by omega⟩;simp only[wt,seval,Uc]
   (repeat' apply And.intro)<;>first|rfl|omega
  ·obtain rfl:j=B.length:=by omega
   have hpl:(aU qs ((Ib i Q).map aP)).length=i:=by rw[bG (by rw[List.length_map,gu];exact hqs),List.length_map,gu]
   have hsq:QB (2^40) (2^38) (Jz X B (dc X B) s B.length):=.of (by rw[iZ];omega) fun a=>by
    rw[qG (by omega)];have z1:=zx a;have z2:=zb (a-s);have z3:=qQ (dc X B) (cfq B (a-s));have z4:=VZ (cfq X a) (dc X B*cfq B (a-s));split<;>omega
   have Uc:=G9 (bs:=qs) (l:=(Ib i Q).map aP) (by rw[List.length_map,gu];exact hqs) (i:=s) (by rw[List.length_map,gu];omega) b2 c2 (aP (dc X B));rw[hset]at Uc;have g5:=kP (bs:=qs) (l:=(Ib i Q).map aP) (by rw[List.length_map,gu];exact hqs) (i:=s) (by rw[List.length_map,gu];omega);have a9D:rs.length=(Jz X B (dc X B) s B.length).length:=by rw[iZ];exact hrs
   have tt:=tX _ rs a9D hsq;have htl:(rs.take (tzq (Jz X B (dc X B) s B.length))).length=(dn1 X B).length:=by
    have:=congrArg List.length hend;rw[PI,List.length_map]at this;rw[take_len a9D (uM _),this]
   rw[hend]at tt;have a7U:=a6L (l:=idq rs) (m:=[]) (bs:=qs) (i:=s) (by omega) (b:=b2) (c:=c2) (by rw[List.append_nil];exact hnw);rw[List.append_nil]at a7U;generalize tzq (Jz X B (dc X B) s B.length)=z at *;have hrl2:(aU (rs.take z) ((dn1 X B).map aP)).length=(dn1 X B).length:=by rw[bG (by rw[htl,List.length_map]),List.length_map]
   simp (disch:=omega) only[wt,seval,cO,bF,h7,h10,h11,h12,hH3,hH2,hpl,g5,Uc];refine uH (tt) (by first|rfl|(simp only[wt,seval,rqs,dD,dh,dK,cO,bF,bK,iK,lH,h75,h74,h73,h8,h7,h10,h11,h12,hH3,hH1,hH2,Iz,hpl,g5,Uc];done)) (by first|rfl|(simp only[wt,seval,hH1];done)) (by rfl) (by simp) (by simp) ?_;simp only[wt,seval,h8,h10,Iz];simp only[seval,LP,hrl2];refine⟨⟨k+1,sr+1,sq,rs.take z,qs.set s (b2,c2),E,hkn,by rw[a7W];exact htl,by rw[List.length_set];exact hqs,hBE,a7U.sub ((zK _ _).append_right _),?_⟩,hdn⟩;rw[a7W,hQ']
   (repeat' apply And.intro)<;>first|rfl|omega
 ·obtain rfl:k=n:=by
   rcases Nat.lt_or_ge k n with h|h
   ·exact absurd (hj k h) hge
   ·omega
  have hge':¬(B.length:Int)≤((dit A B k).length:Int):=by omega
  have dl:=II h0 hb k hj;have hpl:(aU qs ((Ib i (dqu A B k)).map aP)).length=i:=by rw[bG (by rw[List.length_map,gu];exact hqs),List.length_map,gu]
  have zd:=Bd h0 hb za zb k1 k (Nat.le_refl _) hj;have tq:=tX (Ib i (dqu A B k)) qs (by rw[gu];exact hqs) (.of (by rw[gu];omega) fun a=>by
   rw[QV (by omega)];have:=zd a;omega)
  have ec:cqs (Ib i (dqu A B k))=cqs (dqu A B k):=iT (QV (by omega));rw[ec]at tq;have htl:(qs.take (tzq (Ib i (dqu A B k)))).length=(cqs (dqu A B k)).length:=by
   rw[take_len (bs:=qs) (by rw[hqs,gu]) (uM _),← ec,PI]
  have a7U:Nw B0 E (idq rs++idq (qs.take (tzq (Ib i (dqu A B k))))):=hnw.sub ((zK _ _).append_left _);generalize tzq (Ib i (dqu A B k))=z at *;simp (disch:=omega) only[wt,seval,h7,h8,h10,hH1,hrl,hqb,hge'];refine uH (tq) (by first|rfl|(simp only[wt,seval,rqs,dD,dh,dK,cO,bF,bK,iK,lH,h7,h8,h10,hH1,hH2,Iz,hrl,hqb,hge',hpl];done)) (by first|rfl|(simp only[seval,hH2];done)) (by rfl) (by simp) (by simp) ?_;simp only[wt,seval,h7];have hl4:(qs.take z).length=(cqs (dqu A B k)).length:=htl;have hl5:rs.length=((dit A B k).map aP).length:=by rw[hrs,List.length_map]
  refine rP 4 10 _ 32 3 ((aU (qs.take z) (cqs (dqu A B k)))) (by first|rfl|assumption|simp only[wt,seval,rqs,dD,dh,dK,cO,bF,bK,iK,lH]) (by first|rfl|assumption|simp only[wt,seval,rqs,dD,dh,dK,cO,bF,bK,iK,lH]) (by assumption) ?_;rintro b4 E4 hE4 hb4;refine rP 5 21 _ 32 3 ((aU rs ((dit A B k).map aP))) (by first|rfl|assumption|simp only[wt,seval,rqs,dD,dh,dK,cO,bF,bK,iK,lH,hH1]) (by first|rfl|assumption|simp only[wt,seval,rqs,dD,dh,dK,cO,bF,bK,iK,lH,hH1]) (by rfl) ?_;rintro b5 E5 hE5 hb5;refine aT [.iv (fqp b4 (qs.take z) (cqs (dqu A B k))),.iv (fqp b5 rs ((dit A B k).map aP)),ci 0] (by rfl) (by simp (disch:=omega) only[wt,seval]) ?_;intro E hE;refine⟨b4,qs.take z,b5,rs,rfl,hl4,hl5,?_⟩;have n1:=Ld (b:=b4) a7U hE4 fun g cap e=>by
   have h:=hb4.2 g cap e;refine⟨h.1,h.2.1,fun hg=>?_⟩;have h1:=h.2.2.1;have h2:=h.2.2.2.2.2 21 _ _ _ _ _ (by simp only[wt,seval,hH1];rfl);rw[iG hl4]at h1;rw[iG hl5]at h2;exact(List.mem_append.1 hg).elim h2 h1
  have n2:=Ld (b:=b5) n1 hE5 fun g cap e=>by
   have h:=hb5.2 g cap e;refine⟨h.1,h.2.1,fun hg=>?_⟩;have h1:=h.2.2.1;have h2:=h.2.2.2.1 4 _ (by simp only[wt,seval];rfl);rw[iG hl5]at h1;simp only[IV.ids,iG hl4]at h2;rcases List.mem_append.1 hg with hg|hg
   ·refine h2 (List.mem_append_left _ ?_);cases b4 with
    | none=>simp[oid]at hg
    | some p=>simpa [oid] using hg
   ·rcases List.mem_append.1 hg with hg|hg
    ·exact h1 hg
    ·exact h2 (List.mem_append_right _ hg)
  exact(n2.mono (Nat.le_refl _) hE).perm (List.perm_iff_count.2 fun a=>by simp only[List.count_append];omega)
end Go.Proofs.YtdpngipofekcfaaGreat
