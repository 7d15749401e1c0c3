/-
 Contracts of the functions that the law reaches.
-/
import Derived.Test.YtmoiodckaadchaaGreatL298M
import Derived.Test.YtmoiodckaadchaaGreatL12M
set_option maxHeartbeats 2000000
namespace Go.Proofs.YtmoiodckaadchaaGreat
open Go Go.Proofs Go.AL
set_option linter.unusedSimpArgs false
set_option linter.unusedVariables false
theorem esplit_ok (p:List RQ)(x:RQ)(B:Nat)(v:VB p x B):AC Tryz.prog 23 [cqw p,cqq x] none [cqp (sqq (trimq (qvs p)) (qv x)),cqz (evq (qvs p) (qv x)),ci 0]:=by
 have n:=qpnorm_ok p (v.hp.mono (by omega) (by have:=v.b;omega));have o:=qcheck_good x ⟨Nat.le_trans v.hx.2.1 (by have:=v.b;omega),v.hx.2.2⟩ v.d;have w:=ewhole_ok 0 (by omega) (by omega);rw[Rat.intCast_zero]at w;have s:=v.sb;have hb:=s.b;rw[<-evq_trim];refine AC.by_walk (rs:=[.tmp 4,.cell 5 33,.tmp 6]) ords Tryz.func23 (by rfl) (by rfl) (by rfl) (by rfl) (by rfl) ?_;simp (disch:=omega) only[wt,seval,reduceCtorEq,Nat.reduceEqDiff,rqs];refine call_by (n) (by rfl) (by simp) ?_;simp (disch:=omega) only[wt,seval,reduceCtorEq,Nat.reduceEqDiff,rqs];refine call_by (o) (by rfl) (by simp) ?_;simp (disch:=omega) only[wt,seval,reduceCtorEq,Nat.reduceEqDiff,rqs];unfold cqs;generalize trimq (qvs p)=A at *;have hAl:=s.l;have hq:(A.map crat).length=A.length:=List.length_map _;refine if_by (λh0=>?_) (λh0=>?_)
 .have hA:A=[]:=List.length_eq_zero_iff.mp (by rw[hq]at h0;omega);subst hA;simp (disch:=omega) only[wt,seval,reduceCtorEq,Nat.reduceEqDiff,rqs];refine call_by (w) (by rfl) (by simp) ?_;simp (disch:=omega) only[wt,seval,reduceCtorEq,Nat.reduceEqDiff,rqs];exact⟨rfl,rfl⟩
 .rw[hq]at h0;obtain⟨n,hn⟩:∃n,A.length=n+1:=⟨A.length-1,by omega⟩;have en:((n+1:Nat):Int)-1=(n:Int):=by omega
  have en2:((n+1:Nat):Int)-2=(n:Int)-1:=by omega
  have hs0:List.replicate n q0=List.replicate n q0++((sqq A (qv x)).drop n).map crat:=by have:=sqq_start (A:=A) (c:=qv x);rwa [hn]at this
  have he0:(A.map crat).getD n q0=crat (evq (A.drop n) (qv x)):=by rw[evq_last hn,cratq_get (by omega)]
  simp (disch:=omega) only[wt,seval,reduceCtorEq,Nat.reduceEqDiff,rqs,hq,hn,en,en2];refine aloop_by (λf H=>∃(k st3 st9 st31:Nat),k<=n/\f 10=.iv (.int .i64 ((k:Int)-1))/\f 0=.iv (.sl (rats (A.map crat)))/\f 3=.hp 3 st3 0 0/\H 3=.blk false st3 33 3 [qrow x]/\f 9=.hp 9 st9 0 0/\H 9=.blk false st9 33 3 [qrow (crat (evq (A.drop k) (qv x)))]/\f 8=.hs 31 st31/\H 31=.blk false st31 33 3 (rats (List.replicate k q0++((sqq A (qv x)).drop k).map crat))/\f 5=.hp 5 1 0 0/\H 5=.blk false 1 33 3 [[.bool false,.sl [],.sl []]]) (λf H=>(intAt f 10+1).toNat) ?_ ?_
  .refine⟨n,1,1,1,by omega,?_⟩;simp (disch:=omega) only[wt,seval,reduceCtorEq,Nat.reduceEqDiff,rqs,hq,hn,en,en2,Int.toNat_natCast,<-hs0,he0]
  rintro f H ⟨k,st3,st9,st31,hk,hF⟩;rw[intAt_of hF.1];simp (disch:=omega) only[wt,seval,reduceCtorEq,Nat.reduceEqDiff,rqs,hF];refine if_by (λhlt=>?_) (λhlt=>?_)
  .obtain⟨j,rfl⟩:∃j,k=j+1:=⟨k-1,by omega⟩;have ej:((j+1:Nat):Int)-1=(j:Int):=by omega
   rw[ej]at hF;have hlt':j<A.length:=by omega
   have hc:=s.c j hlt';have z1:=s.e (j+1);have z2:=s.e j;have zx:=qz_raw s.hx s.d;have zm:=qz_mul (evq (A.drop (j+1)) (qv x)) (qv x);have m:=qmul_ok (crat (evq (A.drop (j+1)) (qv x))) x (szq_crat (by omega)) (s.hx.mono (by omega)) (nv_crat0 _) s.d;rw[qv_crat]at m;have t:=qadd_ok (crat (evq (A.drop (j+1)) (qv x)*qv x)) (crat (cfq A j)) (szq_crat (by omega)) (szq_crat (by omega)) (nv_crat0 _) (nv_crat0 _);rw[qv_crat,qv_crat,show evq (A.drop (j+1)) (qv x)*qv x+cfq A j=evq (A.drop j) (qv x) from (evq_drop A (qv x) hlt').symm,<-cratq_get hlt']at t;have hrl:=rep_app_len (j+1) (A:=A) (c:=qv x) (by omega);have hset:=sqq_rep (A:=A) (c:=qv x) (j:=j) (by omega);simp (disch:=omega) only[wt,seval,reduceCtorEq,Nat.reduceEqDiff,rqs,hF,hq,hrl,ej,hset];refine call_by (m) (by first|rfl|(simp only[tocvs,tocv,toboxes,tobox,updH_at,Nat.reduceEqDiff,↓reduceIte,hF,hq,hrl,ej,hset];rfl)) (by simp) ?_;simp (disch:=omega) only[wt,seval,reduceCtorEq,Nat.reduceEqDiff,rqs,hF,hq,hrl,ej,hset];refine .inl ⟨tmps_by (by kernel_rfl),?_⟩;refine call_by (t) (by first|rfl|(simp only[tocvs,tocv,toboxes,tobox,updH_at,Nat.reduceEqDiff,↓reduceIte,hF,hq,hrl,ej,hset];rfl)) (by simp) ?_;simp (disch:=omega) only[wt,seval,reduceCtorEq,Nat.reduceEqDiff,rqs,hF,hq,hrl,ej,hset]
   first|exact log_by (by kernel_rfl)|refine⟨log_by (by kernel_rfl),?_⟩
   refine⟨⟨j,st3,st9,st31,by omega,?_⟩,by omega⟩
   (repeat' apply And.intro)<;>first|rfl|omega
  .have hi0:k=0:=by omega
   subst hi0;rw[List.replicate_zero,List.nil_append,List.drop_zero,List.drop_zero]at hF;have m1:=qpnorm_ok ((sqq A (qv x)).map crat) ((s.sqb).mono (by omega) (by omega)).gq;rw[qvs_map]at m1;simp (disch:=omega) only[wt,seval,reduceCtorEq,Nat.reduceEqDiff,rqs,hF,hq];refine call_by (m1) (by first|rfl|(simp only[tocvs,tocv,toboxes,tobox,updH_at,Nat.reduceEqDiff,↓reduceIte,hF,hq];rfl)) (by simp) ?_;simp (disch:=omega) only[wt,seval,reduceCtorEq,Nat.reduceEqDiff,rqs,hF,hq];refine .inl ⟨tmps_by (by kernel_rfl),?_⟩
   first|exact log_by (by kernel_rfl)|refine⟨log_by (by kernel_rfl),?_⟩
   try rfl
structure TB (A:List Rat) (x:RQ) (n:Nat):Prop where
 t:trimq A=A
 l:A.length<=2^30
 n0:A.length≠0
 z:∀j,j<n->evq (qit A (qv x) j) (qv x)=0
 e:evq (qit A (qv x) n) (qv x)≠0
 v:∀k,k<=n->VB ((qit A (qv x) k).map crat) x (2^34)
theorem TB.le {A:List Rat}{x:RQ}{n:Nat}(h:TB A x n){k:Nat}(hk:k<=n):(qit A (qv x) k).length+k=A.length/\(qit A (qv x) k).length≠0/\trimq (qit A (qv x) k)=qit A (qv x) k :=
 qit_len h.t h.n0 k λj hj=>h.z j (by omega)
theorem cqp_sqq (q:List Rat)(c:Rat)(k:Nat)(h:trimq (qit q c k)=qit q c k):cqs (sqq (trimq (qvs ((qit q c k).map crat))) c)=(qit q c (k+1)).map crat:=by
 rw[qvs_map,h];rfl
theorem etimes_ok (p:List RQ)(x:RQ)(n:Nat)(hp:GQ (2^40) (2^38) p)(hx:SzQ (2^34) x)(h0:nv x.2≠0)(h:TB (trimq (qvs p)) x n):AC Tryz.prog 36 [cqw p,cqq x] none [ci n,ci 0]:=by
 have nm:=qpnorm_ok p hp;have o:=qcheck_good x ⟨Nat.le_trans hx.2.1 (by omega),hx.2.2⟩ h0;have hle:∀{k},k<=n->k<2^30+1:=λ{k} hk=>by have:=(h.le hk).1;have:=h.l;omega
 refine AC.by_walk (rs:=[.tmp 4,.tmp 5]) ords Tryz.func36 (by rfl) (by rfl) (by rfl) (by rfl) (by rfl) ?_;simp (disch:=omega) only[wt,seval,reduceCtorEq,Nat.reduceEqDiff,rqs];refine call_by (nm) (by rfl) (by simp) ?_;simp (disch:=omega) only[wt,seval,reduceCtorEq,Nat.reduceEqDiff,rqs];refine call_by (o) (by rfl) (by simp) ?_;simp (disch:=omega) only[wt,seval,reduceCtorEq,Nat.reduceEqDiff,rqs];have hn0:=h.n0;unfold cqs;generalize trimq (qvs p)=A at *;have hq:((A.map crat).length:Int)=(A.length:Int):=by rw[List.length_map]
 have hz:¬((A.map crat).length:Int)=0:=by omega
 simp (disch:=omega) only[wt,seval,reduceCtorEq,Nat.reduceEqDiff,rqs,hz];refine aloop_by (λf H=>∃(k st3:Nat),k<=n/\f 7=.iv (.int .i64 k)/\f 0=.iv (.sl (rats ((qit A (qv x) k).map crat)))/\f 3=.hp 3 st3 0 0/\H 3=.blk false st3 33 3 [qrow x]) (λf H=>(n+1-intAt f 7).toNat) ?_ ?_
 .refine⟨0,1,by omega,?_⟩;simp (disch:=omega) only[wt,seval,reduceCtorEq,Nat.reduceEqDiff,rqs,qit]
 rintro f H ⟨k,st3,hk,hF⟩;rw[intAt_of hF.1];simp (disch:=omega) only[wt,seval,reduceCtorEq,Nat.reduceEqDiff,rqs,hF];have v:=h.v k hk;have hb:=v.b;have hlk:=hle hk;obtain⟨l1,l2,l3⟩:=h.le hk;have m:=esplit_ok ((qit A (qv x) k).map crat) x _ v;rw[show cqp (sqq (trimq (qvs ((qit A (qv x) k).map crat))) (qv x))=cqw ((qit A (qv x) (k+1)).map crat) from congrArg cqw (cqp_sqq A (qv x) k l3),qvs_map]at m;have ze:=v.e (qit A (qv x) k) (by rw[List.length_map];omega) (by rw[qvs_map];exact λc hc=>hc);have s:=qsign_ok (crat (evq (qit A (qv x) k) (qv x))) (szq_crat (by omega)) (nv_crat0 _);rw[sgq_qv (nv_crat0 _),qv_crat]at s;refine call_by (m) (by first|rfl|(simp only[tocvs,tocv,toboxes,tobox,updH_at,Nat.reduceEqDiff,↓reduceIte,hF];rfl)) (by simp) ?_;simp (disch:=omega) only[wt,seval,reduceCtorEq,Nat.reduceEqDiff,rqs,hF];by_cases hkn:k<n
 .rw[h.z k hkn,sgq_zero]at s;have hz0:=h.z k hkn;simp (disch:=omega) only[wt,seval,reduceCtorEq,Nat.reduceEqDiff,rqs,hF,hz0];refine call_by (s) (by first|rfl|(simp only[tocvs,tocv,toboxes,tobox,updH_at,Nat.reduceEqDiff,↓reduceIte,hF,hz0];rfl)) (by simp) ?_;simp (disch:=omega) only[wt,seval,reduceCtorEq,Nat.reduceEqDiff,rqs,hF,hz0];refine⟨⟨k+1,st3,by omega,?_⟩,by omega⟩
  (repeat' apply And.intro)<;>first|rfl|omega
 .obtain rfl:k=n:=by omega
  have hne:¬sgq (evq (qit A (qv x) k) (qv x))=0:=λe=>h.e (sgq_eq_zero.mp e)
  refine call_by (s) (by first|rfl|(simp only[tocvs,tocv,toboxes,tobox,updH_at,Nat.reduceEqDiff,↓reduceIte,hF,hne];rfl)) (by simp) ?_;simp (disch:=omega) only[wt,seval,reduceCtorEq,Nat.reduceEqDiff,rqs,hF,hne]
  try rfl
theorem qv_cd {x:RQ}{X:Nat}(hx:SzQ X x):CD (nv x.2) X (qv x)/\(wd (nv x.2)).length<=X:=⟨⟨iv x.1,qv_eq x,zl_iv hx.1⟩,nt_zl hx.2⟩
theorem sameq_self {p:List RQ}(h:BQ (2^40) (2^40) p):AC Tryz.prog 30 [cqw p,cqw p] none [cb true]:=by
 have:=hsameq_ok p p h h;rwa [decide_eq_true rfl]at this
theorem same_self {v:RQ}(h:SzQ (2^43) v):AC Tryz.prog 25 [cqq v,cqq v] none [cb true]:=by
 have:=hsame_ok v v h h;rwa [decide_eq_true rfl]at this
theorem lay_rat1 (l:List (List IV)):lay (λi=>[(0,2),(2,1)][i]?) [.bool false,.sl [],.sl []] ([1].zip [[.sl l]])=some ((1=1/\2+1<=3)/\True,[.bool false,.sl [],.sl l]):=rfl
theorem qnone_ok:AC Tryz.prog 180 [] none [cqz 0]:=by
 have m:=nof_ok 1 (by decide);rw[show wd 1=[1] by decide +kernel]at m;rw[show cqz 0=.agg (qrow ((false,[]),[1])) from congrArg CV.agg crat_zero'];have hl:=lay_rat1;refine AC.by_walk (rs:=[.cell 0 33]) ords Tryz.func180 (by rfl) (by rfl) (by rfl) (by rfl) (by rfl) ?_;simp (disch:=omega) only[wt,seval,reduceCtorEq,Nat.reduceEqDiff,rqs,hl];refine call_by (m) (by first|rfl|(simp only[tocvs,tocv,toboxes,tobox,updH_at,Nat.reduceEqDiff,↓reduceIte,hl];rfl)) (by simp) ?_;simp (disch:=omega) only[wt,seval,reduceCtorEq,Nat.reduceEqDiff,rqs,hl]
 try rfl
theorem qcoef_ok (A:List Rat)(n:Int)(h:QB (2^40) (2^38) A):AC Tryz.prog 163 [cqw (A.map crat),ci n] none [cqz (if n<0 then 0 else cfq A n.toNat)]:=by
 have hl:=h.1;have hq:(A.map crat).length=A.length:=List.length_map _;refine AC.by_walk (rs:=[.cell 4 33]) ords Tryz.func163 (by rfl) (by rfl) (by rfl) (by rfl) (by rfl) ?_;by_cases h0:n<0
 .rw[if_pos h0];simp (disch:=omega) only[wt,seval,reduceCtorEq,Nat.reduceEqDiff,rqs,h0];refine call_by (qnone_ok) (by first|rfl|(simp only[tocvs,tocv,toboxes,tobox,updH_at,Nat.reduceEqDiff,↓reduceIte,h0];rfl)) (by simp) ?_;simp (disch:=omega) only[wt,seval,reduceCtorEq,Nat.reduceEqDiff,rqs,h0]
  try rfl
 .rw[if_neg h0];obtain⟨i,rfl⟩:∃i:Nat,n=i:=⟨n.toNat,by omega⟩;rw[Int.toNat_natCast];by_cases h1:i<A.length
  .have h2:¬(A.length:Int)<=(i:Int):=by omega
   have m:=qnorm_ok (crat (cfq A i)) (szq_crat (h.cz (by omega) i)) (nv_crat0 _);rw[qv_crat]at m;have e:=cratq_get h1;simp (disch:=omega) only[wt,seval,reduceCtorEq,Nat.reduceEqDiff,rqs,h0,h2,hq,e];refine call_by (m) (by first|rfl|(simp only[tocvs,tocv,toboxes,tobox,updH_at,Nat.reduceEqDiff,↓reduceIte,h0,h2,hq,e];rfl)) (by simp) ?_;simp (disch:=omega) only[wt,seval,reduceCtorEq,Nat.reduceEqDiff,rqs,h0,h2,hq,e]
   try rfl
  .have h2:(A.length:Int)<=(i:Int):=by omega
   rw[cfq_ge (by omega)];simp (disch:=omega) only[wt,seval,reduceCtorEq,Nat.reduceEqDiff,rqs,h0,h2,hq];refine call_by (qnone_ok) (by first|rfl|(simp only[tocvs,tocv,toboxes,tobox,updH_at,Nat.reduceEqDiff,↓reduceIte,h0,h2,hq];rfl)) (by simp) ?_;simp (disch:=omega) only[wt,seval,reduceCtorEq,Nat.reduceEqDiff,rqs,h0,h2,hq]
   try rfl
theorem qcoef_nat (A:List Rat)(i:Nat)(h:QB (2^40) (2^38) A):AC Tryz.prog 163 [cqw (A.map crat),ci i] none [cqz (cfq A i)]:=by
 have:=qcoef_ok A i h;rwa [if_neg (by omega),Int.toNat_natCast]at this
theorem qboth_ok (p q:List RQ)(hp:GQ (2^40) (2^38) p)(hq:GQ (2^40) (2^38) q):AC Tryz.prog 136 [cqw p,cqw q] none [cqp (qvs p),cqp (qvs q),ci 0]:=by
 have m:=qpnorm_ok p hp;have n:=qpnorm_ok q hq;refine AC.by_walk (rs:=[.tmp 4,.tmp 5,.tmp 6]) ords Tryz.func136 (by rfl) (by rfl) (by rfl) (by rfl) (by rfl) ?_;simp (disch:=omega) only[wt,seval,reduceCtorEq,Nat.reduceEqDiff,rqs];refine call_by (m) (by rfl) (by simp) ?_;simp (disch:=omega) only[wt,seval,reduceCtorEq,Nat.reduceEqDiff,rqs];refine call_by (n) (by rfl) (by simp) ?_;simp (disch:=omega) only[wt,seval,reduceCtorEq,Nat.reduceEqDiff,rqs]
 try rfl
def zipq (F:Rat->Rat->Rat)(A B:List Rat):List Rat:=(List.range (max A.length B.length)).map λk=>F (cfq A k) (cfq B k)
theorem zipq_len (F:Rat->Rat->Rat)(A B:List Rat):(zipq F A B).length=max A.length B.length:=by simp[zipq]
theorem cfq_zipq {F:Rat->Rat->Rat}(hF:F 0 0=0)(A B:List Rat)(k:Nat):cfq (zipq F A B) k=F (cfq A k) (cfq B k):=by
 by_cases h:k<max A.length B.length
 .simp only[zipq,cfq,List.getD,List.getElem?_map,List.getElem?_range h,Option.map_some,Option.getD_some]
 .rw[cfq_ge (by rw[zipq_len];omega),cfq_ge (by omega),cfq_ge (by omega),hF]
theorem qeach_ok (p q:List RQ)(g:Nat)(F:Rat->Rat->Rat)(K:Nat)(hp:GQ (2^30) K p)(hq:GQ (2^30) K q)(hK:K<=2^35)(hK1:1<=K)(hF0:F 0 0=0)(hs:∀a b,qz a<=K->qz b<=K->qz (F a b)<=2^38)
  (hop:∀a b,qz a<=K->qz b<=K->AC Tryz.prog g [cqz a,cqz b] none [cqz (F a b),ci 0]):AC Tryz.prog 134 [cqw p,cqw q,.fn g []] none [cqp (zipq F (qvs p) (qvs q)),ci 0]:=by
 have m:=qboth_ok p q (hp.mono (by omega) (by omega)) (hq.mono (by omega) (by omega));have hA:=hp.qb.trimq;have hB:=hq.qb.trimq;have e:cqp (zipq F (qvs p) (qvs q))=cqp (zipq F (trimq (qvs p)) (trimq (qvs q))):=congrArg cqw (cqs_ext λk=>by rw[cfq_zipq hF0,cfq_zipq hF0,cfq_trimq,cfq_trimq]);rw[e];refine AC.by_walk (rs:=[.tmp 6,.tmp 7]) ords Tryz.func134 (by rfl) (by rfl) (by rfl) (by rfl) (by rfl) ?_;simp (disch:=omega) only[wt,seval,reduceCtorEq,Nat.reduceEqDiff,rqs];refine call_by (m) (by rfl) (by simp) ?_;simp (disch:=omega) only[wt,seval,reduceCtorEq,Nat.reduceEqDiff,rqs];unfold cqs;generalize trimq (qvs p)=A at *;generalize trimq (qvs q)=B at *;have hAl:=hA.1;have hBl:=hB.1;have hqa:(A.map crat).length=A.length:=List.length_map _;have hqb:(B.map crat).length=B.length:=List.length_map _;have hRl:=zipq_len F A B;have hR:QB (2^40) (2^38) (zipq F A B):=.of (by omega) λi=>by rw[cfq_zipq hF0];exact hs _ _ (hA.cz hK1 i) (hB.cz hK1 i)
 obtain⟨n,hn⟩:∃n,n=max A.length B.length:=⟨_,rfl⟩;have hnI:max (A.length:Int) (B.length:Int)=(n:Int):=by omega
 rw[<-hn]at hRl;simp (disch:=omega) only[wt,seval,reduceCtorEq,Nat.reduceEqDiff,rqs,hqa,hqb,hnI];refine aloop_nil 11 11 33 3 (by simp (disch:=omega) only[wt,seval,reduceCtorEq,Nat.reduceEqDiff,rqs]) (λf H=>∃(i st:Nat),i<=n/\f 30=.iv (.int .i64 i)/\f 29=.iv (.int .i64 n)/\f 8=.iv (.sl (rats (A.map crat)))/\f 9=.iv (.sl (rats (B.map crat)))/\f 2=.fn g []/\f 11=.hs 11 st/\H 11=.blk false st 33 3 (rats (((zipq F A B).take i).map crat))) (λf H=>(n-intAt f 30).toNat) ?_ ?_
 .refine⟨0,1,by omega,?_⟩;simp (disch:=omega) only[wt,seval,reduceCtorEq,Nat.reduceEqDiff,rqs,ghostF,ghostH,List.take_zero,List.map_nil,hqa,hqb,hnI]
 rintro f H ⟨i,st,hi,hF⟩;rw[intAt_of hF.1];simp (disch:=omega) only[wt,seval,reduceCtorEq,Nat.reduceEqDiff,rqs,hF];refine if_by (λhlt=>?_) (λhlt=>?_)
 .have hq:(((zipq F A B).take i).map crat).length=i:=by rw[List.length_map,List.length_take];omega
  have c1:=qcoef_nat A i (hA.mono (by omega) (by omega));have c2:=qcoef_nat B i (hB.mono (by omega) (by omega));have o:=hop (cfq A i) (cfq B i) (hA.cz hK1 i) (hB.cz hK1 i);simp (disch:=omega) only[wt,seval,reduceCtorEq,Nat.reduceEqDiff,rqs,hF,hq];refine call_by (c1) (by first|rfl|(simp only[tocvs,tocv,toboxes,tobox,updH_at,Nat.reduceEqDiff,↓reduceIte,hF,hq];rfl)) (by simp) ?_;simp (disch:=omega) only[wt,seval,reduceCtorEq,Nat.reduceEqDiff,rqs,hF,hq];refine call_by (c2) (by first|rfl|(simp only[tocvs,tocv,toboxes,tobox,updH_at,Nat.reduceEqDiff,↓reduceIte,hF,hq];rfl)) (by simp) ?_;simp (disch:=omega) only[wt,seval,reduceCtorEq,Nat.reduceEqDiff,rqs,hF,hq];refine call_by (o) (by first|rfl|(simp only[tocvs,tocv,toboxes,tobox,updH_at,Nat.reduceEqDiff,↓reduceIte,hF,hq];rfl)) (by simp) ?_;simp (disch:=omega) only[wt,seval,reduceCtorEq,Nat.reduceEqDiff,rqs,hF,hq];have e:=takeq_snoc (q:=zipq F A B) (i:=i) (by omega);rw[cfq_zipq hF0]at e;refine⟨⟨i+1,st+1,by omega,?_⟩,by omega⟩;rw[e,List.map_append]
  (repeat' apply And.intro)<;>first|rfl|omega
 .simp (disch:=omega) only[wt,seval,reduceCtorEq,Nat.reduceEqDiff,rqs,hF];rw[List.take_of_length_le (by omega)]at hF;have m:=qtrim_own (zipq F A B) hR;refine call_by (m) (by first|rfl|(simp only[tocvs,tocv,toboxes,tobox,updH_at,Nat.reduceEqDiff,↓reduceIte,hF];rfl)) (by simp) ?_;simp (disch:=omega) only[wt,seval,reduceCtorEq,Nat.reduceEqDiff,rqs,hF]
theorem qpadd_ok (p q:List RQ)(K:Nat)(hp:GQ (2^30) K p)(hq:GQ (2^30) K q)(hK:K<=2^35)(hK1:1<=K):AC Tryz.prog 88 [cqw p,cqw q] none [cqp (addq (qvs p) (qvs q)),ci 0]:=by
 have m:=qeach_ok p q 72 (λa b=>a+b) K hp hq hK hK1 (by decide +kernel) (λa b ha hb=>by have:=qz_add a b;omega) (λa b ha hb=>by
  have:=qadd_ok (crat a) (crat b) (szq_crat (by omega)) (szq_crat (by omega)) (nv_crat0 _) (nv_crat0 _);rwa [qv_crat,qv_crat]at this)
 rw[show zipq (λa b=>a+b) (qvs p) (qvs q)=addq (qvs p) (qvs q) from rfl]at m;refine AC.by_walk (rs:=[.tmp 4,.tmp 5]) ords Tryz.func88 (by rfl) (by rfl) (by rfl) (by rfl) (by rfl) ?_;simp (disch:=omega) only[wt,seval,reduceCtorEq,Nat.reduceEqDiff,rqs,List.map_nil];refine call_by (m) (by first|rfl|(simp only[tocvs,tocv,toboxes,tobox,updH_at,Nat.reduceEqDiff,↓reduceIte,List.map_nil];rfl)) (by simp) ?_;simp (disch:=omega) only[wt,seval,reduceCtorEq,Nat.reduceEqDiff,rqs,List.map_nil]
 try rfl
theorem gzero_ok (a:List Nat)(h:Nt (2^42) a):AC Tryz.prog 193 [cl a] none [cb (decide (nv a=0))]:=by
 have m:=nbits_ok a h.2 h.1;refine AC.by_walk (rs:=[.tmp 2]) ords Tryz.func193 (by rfl) (by rfl) (by rfl) (by rfl) (by rfl) ?_;simp (disch:=omega) only[wt,seval,reduceCtorEq,Nat.reduceEqDiff,rqs,natsr_len,natsr_at,natsr_snoc,natsr_app,natsr_rows,natsr_nil];refine call_by (m) (by rfl) (by simp) ?_;simp (disch:=omega) only[wt,seval,reduceCtorEq,Nat.reduceEqDiff,rqs,natsr_len,natsr_at,natsr_snoc,natsr_app,natsr_rows,natsr_nil];rw[decide_eq_decide];constructor
 .intro e;exact bl_zero.mp (by omega)
 .intro e;rw[bl_zero.mpr e];rfl
theorem gquo_ok (a b:List Nat)(ha:Nt (2^38) a)(hb:Nt (2^38) b)(h0:nv b≠0):AC Tryz.prog 194 [cl a,cl b] none [cl (wd (nv a/nv b))]:=by
 have m:=quo_ok a b ha.2 hb.2 ha.1 hb.1 h0;refine AC.by_walk (rs:=[.tmp 4]) ords Tryz.func194 (by rfl) (by rfl) (by rfl) (by rfl) (by rfl) ?_;simp (disch:=omega) only[wt,seval,reduceCtorEq,Nat.reduceEqDiff,rqs,natsr_len,natsr_at,natsr_snoc,natsr_app,natsr_rows,natsr_nil];refine call_by (m) (by rfl) (by simp) ?_;simp (disch:=omega) only[wt,seval,reduceCtorEq,Nat.reduceEqDiff,rqs,natsr_len,natsr_at,natsr_snoc,natsr_app,natsr_rows,natsr_nil]
theorem lcm_val (a b:Nat):a/Nat.gcd a b*b=Nat.lcm a b:=by
 unfold Nat.lcm;rcases Nat.eq_zero_or_pos (Nat.gcd a b) with h|h
 .rw[h,Nat.div_zero,Nat.div_zero,Nat.zero_mul]
 .obtain⟨k,hk⟩:=Nat.gcd_dvd_left a b;have e:a/Nat.gcd a b=k:=Nat.div_eq_of_eq_mul_right h hk;rw[e];refine(Nat.div_eq_of_eq_mul_right h ?_).symm;rw[<-Nat.mul_assoc,<-hk]
theorem lcm_len {a b j k:Nat}(ha:(wd a).length<=j)(hb:(wd b).length<=k):(wd (Nat.lcm a b)).length<=j+k :=
 Nat.le_trans (wd_len_mono (Nat.div_le_self _ _)) (wd_len2 ha hb)
theorem lcm_ne {a b:Nat}(ha:a≠0)(hb:b≠0):Nat.lcm a b≠0:=Nat.lcm_ne_zero ha hb
theorem glcm_ok (a b:List Nat)(ha:Nt (2^35) a)(hb:Nt (2^35) b)(h0:nv a≠0)(h1:nv b≠0):AC Tryz.prog 181 [cl a,cl b] none [cl (wd (Nat.lcm (nv a) (nv b)))]:=by
 have z1:=gzero_ok a ⟨Nat.le_trans ha.1 (by omega),ha.2⟩;have z2:=gzero_ok b ⟨Nat.le_trans hb.1 (by omega),hb.2⟩;rw[decide_eq_false h0]at z1;rw[decide_eq_false h1]at z2;have g:=gcd_ok a b ha.2 hb.2 (Nat.le_trans ha.1 (by omega)) (Nat.le_trans hb.1 (by omega));have hgp:Nat.gcd (nv a) (nv b)≠0:=Nat.ne_of_gt (Nat.gcd_pos_of_pos_right _ (by omega));have hgl:(wd (Nat.gcd (nv a) (nv b))).length<=2^38:=Nat.le_trans (wd_len_mono (Nat.gcd_le_right _ (by omega))) (Nat.le_trans (nv_len hb.2) (Nat.le_trans hb.1 (by omega)));have q:=gquo_ok a (wd (Nat.gcd (nv a) (nv b))) ⟨Nat.le_trans ha.1 (by omega),ha.2⟩ ⟨hgl,lim_wd _⟩ (by rw[nv_wd];exact hgp);rw[nv_wd]at q;have m:=mmul_ok (wd (nv a/Nat.gcd (nv a) (nv b))) b (lim_wd _) hb.2 (Nat.le_trans (wd_len_mono (Nat.div_le_self _ _)) (Nat.le_trans (nv_len ha.2) (Nat.le_trans ha.1 (by omega)))) (Nat.le_trans hb.1 (by omega));rw[nv_wd,lcm_val]at m;refine AC.by_walk (rs:=[.tmp 4]) ords Tryz.func181 (by rfl) (by rfl) (by rfl) (by rfl) (by rfl) ?_;simp (disch:=omega) only[wt,seval,reduceCtorEq,Nat.reduceEqDiff,rqs,natsr_len,natsr_at,natsr_snoc,natsr_app,natsr_rows,natsr_nil];refine call_by (z1) (by rfl) (by simp) ?_;simp (disch:=omega) only[wt,seval,reduceCtorEq,Nat.reduceEqDiff,rqs,natsr_len,natsr_at,natsr_snoc,natsr_app,natsr_rows,natsr_nil];refine call_by (z2) (by rfl) (by simp) ?_;simp (disch:=omega) only[wt,seval,reduceCtorEq,Nat.reduceEqDiff,rqs,natsr_len,natsr_at,natsr_snoc,natsr_app,natsr_rows,natsr_nil];refine call_by (g) (by rfl) (by simp) ?_;simp (disch:=omega) only[wt,seval,reduceCtorEq,Nat.reduceEqDiff,rqs,natsr_len,natsr_at,natsr_snoc,natsr_app,natsr_rows,natsr_nil];refine call_by (q) (by rfl) (by simp) ?_;simp (disch:=omega) only[wt,seval,reduceCtorEq,Nat.reduceEqDiff,rqs,natsr_len,natsr_at,natsr_snoc,natsr_app,natsr_rows,natsr_nil];refine call_by (m) (by rfl) (by simp) ?_;simp (disch:=omega) only[wt,seval,reduceCtorEq,Nat.reduceEqDiff,rqs,natsr_len,natsr_at,natsr_snoc,natsr_app,natsr_rows,natsr_nil]
def lcmL (l:List Nat):Nat:=l.foldl Nat.lcm 1
theorem lcmL_take {l:List Nat}{i:Nat}(h:i<l.length):lcmL (l.take (i+1))=Nat.lcm (lcmL (l.take i)) (l.getD i 0):=by
 rw[List.take_add_one,List.getElem?_eq_getElem h,lcmL,List.foldl_append];simp[lcmL,List.getD,h]
theorem lcmL_facts (l:List Nat)(K:Nat)(h0:∀x∈l,x≠0)(hK:∀x∈l,(wd x).length<=K):∀i,i<=l.length->lcmL (l.take i)≠0/\(wd (lcmL (l.take i))).length<=i*K+1/\∀j,j<i->l.getD j 0∣lcmL (l.take i)
 |0,_=>⟨by simp[lcmL],by rw[List.take_zero];show (wd 1).length<=_;rw[show wd 1=[1] by decide +kernel];simp,λj hj=>by omega⟩
 |i+1,hi=>by
  obtain⟨a1,a2,a3⟩:=lcmL_facts l K h0 hK i (by omega);have hm:l.getD i 0∈l:=by rw[List.getD,List.getElem?_eq_getElem (by omega),Option.getD_some];exact List.getElem_mem _
  rw[lcmL_take (by omega)];refine⟨lcm_ne a1 (h0 _ hm),?_,λj hj=>?_⟩
  .have:=lcm_len a2 (hK _ hm);rw[Nat.succ_mul];omega
  .rcases Nat.lt_or_ge j i with h|h
   .exact Nat.dvd_trans (a3 j h) (Nat.dvd_lcm_left _ _)
   .obtain rfl:j=i:=by omega
    exact Nat.dvd_lcm_right _ _
set_option maxRecDepth 100000 in
theorem galllcm_ok (l:List Nat)(K:Nat)(hl:l.length<=2^30)(h0:∀x∈l,x≠0)(hK:∀x∈l,(wd x).length<=K)(hB:l.length*K+K+1<=2^35):AC Tryz.prog 164 [.iv (.sl (natsr (l.map wd)))] none [cl (wd (lcmL l))]:=by
 have o:=nof_ok 1 (by decide);have hml:(l.map wd).length=l.length:=List.length_map _;have e0:wd (lcmL (l.take 0))=wd 1:=by rw[List.take_zero];rfl
 refine AC.by_walk (rs:=[.tmp 2]) ords Tryz.func164 (by rfl) (by rfl) (by rfl) (by rfl) (by rfl) ?_;simp (disch:=omega) only[wt,seval,reduceCtorEq,Nat.reduceEqDiff,rqs,natsr_len,natsr_at,natsr_snoc,natsr_app,natsr_rows,natsr_nil];refine call_by (o) (by rfl) (by simp) ?_;simp (disch:=omega) only[wt,seval,reduceCtorEq,Nat.reduceEqDiff,rqs,natsr_len,natsr_at,natsr_snoc,natsr_app,natsr_rows,natsr_nil];refine aloop_by (λf H=>∃(i:Nat),i<=l.length/\f 9=.iv (.int .i64 i)/\f 7=.iv (.sl (natsr (l.map wd)))/\f 8=.iv (.int .i64 l.length)/\f 3=.iv (.sl (lims (wd (lcmL (l.take i)))))) (λf H=>(l.length-intAt f 9).toNat) ?_ ?_
 .refine⟨0,by omega,?_⟩;simp (disch:=omega) only[wt,seval,reduceCtorEq,Nat.reduceEqDiff,rqs,natsr_len,natsr_at,natsr_snoc,natsr_app,natsr_rows,natsr_nil,e0,hml]
 rintro f H ⟨i,hi,hF⟩;rw[intAt_of hF.1];simp (disch:=omega) only[wt,seval,reduceCtorEq,Nat.reduceEqDiff,rqs,natsr_len,natsr_at,natsr_snoc,natsr_app,natsr_rows,natsr_nil,hF];refine if_by (λhlt=>?_) (λhlt=>?_)
 .have hlt':i<l.length:=by omega
  obtain⟨a1,a2,a3⟩:=lcmL_facts l K h0 hK i hi;have hm:l.getD i 0∈l:=by rw[List.getD,List.getElem?_eq_getElem hlt',Option.getD_some];exact List.getElem_mem _
  have hg:(l.map wd).getD i []=wd (l.getD i 0):=by simp[List.getD,hlt']
  have hk:=hK _ hm;have h2:i*K<=l.length*K:=Nat.mul_le_mul_right _ hi;have m:=glcm_ok (wd (lcmL (l.take i))) (wd (l.getD i 0)) ⟨by omega,lim_wd _⟩ ⟨by omega,lim_wd _⟩ (by rw[nv_wd];exact a1) (by rw[nv_wd];exact h0 _ hm);rw[nv_wd,nv_wd,<-lcmL_take hlt']at m;simp (disch:=omega) only[wt,seval,reduceCtorEq,Nat.reduceEqDiff,rqs,natsr_len,natsr_at,natsr_snoc,natsr_app,natsr_rows,natsr_nil,hF,hml,hg];refine call_by (m) (by first|rfl|(simp only[tocvs,tocv,toboxes,tobox,updH_at,Nat.reduceEqDiff,↓reduceIte,hF,hml,hg];rfl)) (by simp) ?_;simp (disch:=omega) only[wt,seval,reduceCtorEq,Nat.reduceEqDiff,rqs,natsr_len,natsr_at,natsr_snoc,natsr_app,natsr_rows,natsr_nil,hF,hml,hg];refine⟨⟨i+1,by omega,?_⟩,by omega⟩
  (repeat' apply And.intro)<;>first|rfl|omega
 .simp (disch:=omega) only[wt,seval,reduceCtorEq,Nat.reduceEqDiff,rqs,natsr_len,natsr_at,natsr_snoc,natsr_app,natsr_rows,natsr_nil,hF];rw[List.take_of_length_le (by omega)]
def dens (A:List Rat):List Nat:=A.map λc=>c.den
def cden (A:List Rat):Nat:=lcmL (dens A)
def clr (A:List Rat):List Int:=A.map λc=>c.num*((cden A:Int)/(c.den:Int))
theorem dens_len (A:List Rat):(dens A).length=A.length:=List.length_map _
theorem clr_len (A:List Rat):(clr A).length=A.length:=List.length_map _
theorem dens_get {A:List Rat}{i:Nat}(h:i<A.length):(dens A).getD i 0=(cfq A i).den:=by simp[dens,cfq,List.getD,h]
theorem clr_get {A:List Rat}{i:Nat}(h:i<A.length):cf (clr A) i=(cfq A i).num*((cden A:Int)/((cfq A i).den:Int)):=by simp[clr,cf,cfq,List.getD,h]
theorem dens_ne {A:List Rat}:∀x∈dens A,x≠0:=λx hx=>by
 obtain⟨c,_,rfl⟩:=List.mem_map.1 hx;exact c.den_nz
theorem QB.dens {n k:Nat}{A:List Rat}(h:QB n k A):∀x∈dens A,(wd x).length<=k:=λx hx=>by
 obtain⟨c,hc,rfl⟩:=List.mem_map.1 hx;exact Nat.le_trans (qz_parts c).2 (h.2 c hc)
theorem cden_ne (A:List Rat):cden A≠0:=by
 have:=(lcmL_facts (dens A) ((dens A).foldl (λm x=>max m (wd x).length) 0) dens_ne (λx hx=>by
  have key:∀(l:List Nat) (m:Nat),m<=l.foldl (λm x=>max m (wd x).length) m/\∀x∈l,(wd x).length<=l.foldl (λm x=>max m (wd x).length) m:=by
   intro l
   induction l with
   |nil=>exact λm=>⟨Nat.le_refl _,λx hx=>nomatch hx⟩
   |cons a l ih =>
    intro m;have:=ih (max m (wd a).length);refine⟨Nat.le_trans (Nat.le_max_left _ _) this.1,λx hx=>?_⟩;rcases List.mem_cons.1 hx with rfl|hx
    .exact Nat.le_trans (Nat.le_max_right _ _) this.1
    .exact this.2 x hx
  exact(key (dens A) 0).2 x hx) (dens A).length (Nat.le_refl _)).1
 rwa [List.take_of_length_le (Nat.le_refl _)]at this
theorem cden_dvd {A:List Rat}{i:Nat}(h:i<A.length):(cfq A i).den∣cden A:=by
 have:=(lcmL_facts (dens A) (cden A+(dens A).foldl (λm x=>m+(wd x).length) 0) dens_ne (λx hx=>by
  have key:∀(l:List Nat) (m:Nat),m<=l.foldl (λm x=>m+(wd x).length) m/\∀x∈l,(wd x).length<=l.foldl (λm x=>m+(wd x).length) m:=by
   intro l
   induction l with
   |nil=>exact λm=>⟨Nat.le_refl _,λx hx=>nomatch hx⟩
   |cons a l ih =>
    intro m;have:=ih (m+(wd a).length);refine⟨Nat.le_trans (by omega) this.1,λx hx=>?_⟩;rcases List.mem_cons.1 hx with rfl|hx
    .exact Nat.le_trans (by omega) this.1
    .exact this.2 x hx
  have:=(key (dens A) 0).2 x hx;omega) (dens A).length (Nat.le_refl _)).2.2 i (by rw[dens_len];exact h)
 rw[List.take_of_length_le (Nat.le_refl _),dens_get h]at this;exact this
theorem cden_len {n k:Nat}{A:List Rat}(h:QB n k A):(wd (cden A)).length<=n*k+1:=by
 have:=(lcmL_facts (dens A) k dens_ne h.dens (dens A).length (Nat.le_refl _)).2.1;rw[List.take_of_length_le (Nat.le_refl _),dens_len]at this;have h2:=Nat.mul_le_mul_right k h.1;show (wd (lcmL (dens A))).length<=_;omega
theorem cf_clr (A:List Rat)(i:Nat):(cf (clr A) i:Rat)=cfq A i*(cden A:Rat):=by
 by_cases h:i<A.length
 .rw[clr_get h];obtain⟨m,hm⟩:=cden_dvd h;have hd:((cfq A i).den:Int)≠0:=by have:=(cfq A i).den_nz;omega
  have e:(cden A:Int)/((cfq A i).den:Int)=(m:Int):=by
   rw[hm,Int.natCast_mul,Int.mul_ediv_cancel_left _ hd]
  rw[e,Rat.intCast_mul,Rat.intCast_natCast,hm,Rat.natCast_mul];have h1:cfq A i=((cfq A i).num:Rat)/((cfq A i).den:Rat):=by rw[<-Rat.mkRat_eq_div,Rat.mkRat_self]
  have h2:=natr_ne (cfq A i).den_nz;generalize (cfq A i).num=u at *;generalize (cfq A i).den=v at *;rw[h1]
  grind
 .rw[cf_ge (by rw[clr_len];omega),cfq_ge (by omega),Rat.intCast_zero,Rat.zero_mul]
theorem zl_clr {n k:Nat}{A:List Rat}(h:QB n k A)(i:Nat):zl (cf (clr A) i)<=k+n*k+1:=by
 by_cases hi:i<A.length
 .rw[clr_get hi];have h1:=zl_mul (cfq A i).num ((cden A:Int)/((cfq A i).den:Int));have h2:=zl_div (a:=(cden A:Int)) (b:=((cfq A i).den:Int)) (Int.natCast_dvd_natCast.mpr (cden_dvd hi));have h3:=cden_len h;have h4:=(qz_parts (cfq A i)).1;have h5:qz (cfq A i)<=k:=by rw[cfq_lt hi];exact h.2 _ (List.getElem_mem hi)
  rw[zl_nat]at h2;omega
 .rw[cf_ge (by rw[clr_len];omega),zl_zero];omega
theorem QB.clr {n k:Nat}{A:List Rat}(h:QB n k A):PB n (k+n*k+1) (clr A):=.of (by rw[clr_len];exact h.1) (zl_clr h)
theorem natsr_dens (A:List Rat){i:Nat}(h:i<A.length):((dens A).take (i+1)).map wd=((dens A).take i).map wd++[wd (cfq A i).den]:=by
 rw[List.take_add_one,List.getElem?_eq_getElem (by rw[dens_len];exact h),List.map_append];have e:(dens A)[i]'(by rw[dens_len];exact h)=(cfq A i).den:=by
  have:=dens_get h;rw[List.getD,List.getElem?_eq_getElem (by rw[dens_len];exact h),Option.getD_some]at this;exact this
 simp only[Option.toList,List.map_cons,List.map_nil,e]
theorem qclear_ok (p:List RQ)(n k:Nat)(hp:GQ n k p)(hn:n<=2^28)(hM:n*k+k+2<=2^34):AC Tryz.prog 137 [cqw p] none [cl (wd (cden (trimq (qvs p)))),cw ((clr (trimq (qvs p))).map canon),ci 0]:=by
 have nm:=qpnorm_ok p (hp.mono (by omega) (by omega));have hA:=hp.qb.trimq;refine AC.by_walk (rs:=[.tmp 2,.tmp 3,.tmp 4]) ords Tryz.func137 (by rfl) (by rfl) (by rfl) (by rfl) (by rfl) ?_;simp (disch:=omega) only[wt,seval,reduceCtorEq,Nat.reduceEqDiff,rqs,natsr_len,natsr_at,natsr_snoc,natsr_app,natsr_rows,natsr_nil];refine call_by (nm) (by rfl) (by simp) ?_;simp (disch:=omega) only[wt,seval,reduceCtorEq,Nat.reduceEqDiff,rqs,natsr_len,natsr_at,natsr_snoc,natsr_app,natsr_rows,natsr_nil];unfold cqs;generalize trimq (qvs p)=A at *;have hAl:=hA.1;have hq:(A.map crat).length=A.length:=List.length_map _;have hdl:=dens_len A;have hcl:=clr_len A;simp (disch:=omega) only[wt,seval,reduceCtorEq,Nat.reduceEqDiff,rqs,natsr_len,natsr_at,natsr_snoc,natsr_app,natsr_rows,natsr_nil,hq];refine aloop_by (λf H=>∃(i st26:Nat),i<=A.length/\f 29=.iv (.int .i64 i)/\f 27=.iv (.sl (rats (A.map crat)))/\f 28=.iv (.int .i64 A.length)/\f 5=.iv (.sl (rats (A.map crat)))/\f 7=.hs 26 st26/\H 26=.blk false st26 25 1 (natsr (((dens A).take i).map wd))) (λf H=>(A.length-intAt f 29).toNat) ?_ ?_
 .refine⟨0,1,by omega,?_⟩;simp (disch:=omega) only[wt,seval,reduceCtorEq,Nat.reduceEqDiff,rqs,natsr_len,natsr_at,natsr_snoc,natsr_app,natsr_rows,natsr_nil,hq,List.take_zero,List.map_nil,Int.toNat_natCast,List.replicate_zero]
 rintro f H ⟨i,st26,hi,hF⟩;rw[intAt_of hF.1];simp (disch:=omega) only[wt,seval,reduceCtorEq,Nat.reduceEqDiff,rqs,natsr_len,natsr_at,natsr_snoc,natsr_app,natsr_rows,natsr_nil,hF];refine if_by (λhlt=>?_) (λhlt=>?_)
 .have hlt':i<A.length:=by omega
  have hdq:(((dens A).take i).map wd).length=i:=by rw[List.length_map,List.length_take];omega
  have e:=cratq_get hlt';have e2:lims (crat (cfq A i)).2=lims (wd (cfq A i).den):=rfl;simp (disch:=omega) only[wt,seval,reduceCtorEq,Nat.reduceEqDiff,rqs,natsr_len,natsr_at,natsr_snoc,natsr_app,natsr_rows,natsr_nil,hF,hq,hdq,e,e2];refine⟨⟨i+1,st26+1,by omega,?_⟩,by omega⟩;rw[natsr_dens A hlt']
  (repeat' apply And.intro)<;>first|rfl|omega
 .have hie:i=A.length:=by omega
  subst hie;rw[List.take_of_length_le (by omega)]at hF;have m:=galllcm_ok (dens A) k (by omega) dens_ne hA.dens (by rw[hdl];have:=Nat.mul_le_mul_right k hA.1;omega);have hcd:=cden_len hA;have hcn:=cden_ne A;simp (disch:=omega) only[wt,seval,reduceCtorEq,Nat.reduceEqDiff,rqs,natsr_len,natsr_at,natsr_snoc,natsr_app,natsr_rows,natsr_nil,hF,hq];refine call_by (m) (by first|rfl|(simp only[tocvs,tocv,toboxes,tobox,updH_at,Nat.reduceEqDiff,↓reduceIte,hF,hq];rfl)) (by simp) ?_;simp (disch:=omega) only[wt,seval,reduceCtorEq,Nat.reduceEqDiff,rqs,natsr_len,natsr_at,natsr_snoc,natsr_app,natsr_rows,natsr_nil,hF,hq];rw[show lcmL (dens A)=cden A from rfl];refine aloop_nil 11 11 27 2 (by simp (disch:=omega) only[wt,seval,reduceCtorEq,Nat.reduceEqDiff,rqs,natsr_len,natsr_at,natsr_snoc,natsr_app,natsr_rows,natsr_nil]) (λf H=>∃(i st:Nat),i<=A.length/\f 43=.iv (.int .i64 i)/\f 41=.iv (.sl (rats (A.map crat)))/\f 42=.iv (.int .i64 A.length)/\f 10=.iv (.sl (lims (wd (cden A))))/\f 11=.hs 11 st/\H 11=.blk false st 27 2 (raws (((clr A).take i).map canon))) (λf H=>(A.length-intAt f 43).toNat) ?_ ?_
  .refine⟨0,(H 11).stamp+1,by omega,?_⟩;simp (disch:=omega) only[wt,seval,reduceCtorEq,Nat.reduceEqDiff,rqs,natsr_len,natsr_at,natsr_snoc,natsr_app,natsr_rows,natsr_nil,ghostF,ghostH,hF,hq,List.take_zero,List.map_nil]
  rintro f H ⟨i,st,hi,hF⟩;rw[intAt_of hF.1];simp (disch:=omega) only[wt,seval,reduceCtorEq,Nat.reduceEqDiff,rqs,natsr_len,natsr_at,natsr_snoc,natsr_app,natsr_rows,natsr_nil,hF];refine if_by (λhlt=>?_) (λhlt=>?_)
  .have hlt':i<A.length:=by omega
   have hcq:(((clr A).take i).map canon).length=i:=by rw[List.length_map,List.length_take];omega
   have e:=cratq_get hlt';have e2:lims (crat (cfq A i)).2=lims (wd (cfq A i).den):=rfl;have e3:prow (crat (cfq A i)).1=prow (canon (cfq A i).num):=rfl;have hc:qz (cfq A i)<=k:=by rw[cfq_lt hlt'];exact hA.2 _ (List.getElem_mem hlt')
   have hc2:=qz_parts (cfq A i);have n1:=znat_ok false (cden A) (by omega);have n2:=znat_ok false (cfq A i).den (by omega);rw[sgf]at n1 n2;have hdv:((cfq A i).den:Int)∣(cden A:Int):=Int.natCast_dvd_natCast.mpr (cden_dvd hlt');have x:=zexact_ok (canon (cden A:Int)) (canon ((cfq A i).den:Int)) ((sz_canon _).mono (by rw[zl_nat];omega)) ((sz_canon _).mono (by rw[zl_nat];omega)) (by rw[iv_canon];have:=(cfq A i).den_nz;omega) (by rw[iv_canon,iv_canon];exact hdv);rw[iv_canon,iv_canon]at x;have zd:=zl_div hdv;rw[zl_nat]at zd;have w:=zmul_ok (canon (cfq A i).num) (canon ((cden A:Int)/((cfq A i).den:Int))) ((sz_canon _).mono (by omega)) ((sz_canon _).mono (by omega));rw[iv_canon,iv_canon,<-clr_get hlt']at w;simp (disch:=omega) only[wt,seval,reduceCtorEq,Nat.reduceEqDiff,rqs,natsr_len,natsr_at,natsr_snoc,natsr_app,natsr_rows,natsr_nil,hF,hq,hcq,e,e2,e3];refine .inl ⟨tmps_by (by kernel_rfl),?_⟩;refine call_by (n1) (by first|rfl|(simp only[tocvs,tocv,toboxes,tobox,updH_at,Nat.reduceEqDiff,↓reduceIte,hF,hq,hcq,e,e2,e3];rfl)) (by simp) ?_;simp (disch:=omega) only[wt,seval,reduceCtorEq,Nat.reduceEqDiff,rqs,natsr_len,natsr_at,natsr_snoc,natsr_app,natsr_rows,natsr_nil,hF,hq,hcq,e,e2,e3];refine call_by (n2) (by first|rfl|(simp only[tocvs,tocv,toboxes,tobox,updH_at,Nat.reduceEqDiff,↓reduceIte,hF,hq,hcq,e,e2,e3];rfl)) (by simp) ?_;simp (disch:=omega) only[wt,seval,reduceCtorEq,Nat.reduceEqDiff,rqs,natsr_len,natsr_at,natsr_snoc,natsr_app,natsr_rows,natsr_nil,hF,hq,hcq,e,e2,e3];refine call_by (x) (by first|rfl|(simp only[tocvs,tocv,toboxes,tobox,updH_at,Nat.reduceEqDiff,↓reduceIte,hF,hq,hcq,e,e2,e3];rfl)) (by simp) ?_;simp (disch:=omega) only[wt,seval,reduceCtorEq,Nat.reduceEqDiff,rqs,natsr_len,natsr_at,natsr_snoc,natsr_app,natsr_rows,natsr_nil,hF,hq,hcq,e,e2,e3]
   first|exact log_by (by kernel_rfl)|refine⟨log_by (by kernel_rfl),?_⟩
   refine call_by (w) (by first|rfl|(simp only[tocvs,tocv,toboxes,tobox,updH_at,Nat.reduceEqDiff,↓reduceIte,hF,hq,hcq,e,e2,e3];rfl)) (by simp) ?_;simp (disch:=omega) only[wt,seval,reduceCtorEq,Nat.reduceEqDiff,rqs,natsr_len,natsr_at,natsr_snoc,natsr_app,natsr_rows,natsr_nil,hF,hq,hcq,e,e2,e3];have et:=takez_snoc (q:=clr A) (i:=i) (by omega);refine⟨⟨i+1,st+1,by omega,?_⟩,by omega⟩;rw[et,List.map_append]
   (repeat' apply And.intro)<;>first|rfl|omega
  .have hie:i=A.length:=by omega
   subst hie;rw[List.take_of_length_le (by omega)]at hF;simp (disch:=omega) only[wt,seval,reduceCtorEq,Nat.reduceEqDiff,rqs,natsr_len,natsr_at,natsr_snoc,natsr_app,natsr_rows,natsr_nil,hF]
   try rfl
def divl (L:List Int)(D:Int):List Rat:=L.map λc:Int=>(c:Rat)/(D:Rat)
theorem divl_len (L:List Int)(D:Int):(divl L D).length=L.length:=List.length_map _
theorem zero_divr (x:Rat):(0:Rat)/x=0:=by rw[Rat.div_def,Rat.zero_mul]
theorem cfq_divl (L:List Int)(D:Int)(k:Nat):cfq (divl L D) k=(cf L k:Rat)/(D:Rat):=by
 unfold divl cfq cf;rw[List.getD_eq_getElem?_getD,List.getD_eq_getElem?_getD,List.getElem?_map];cases L[k]? with
 |none=>simp only[Option.map_none,Option.getD_none];rw[Rat.intCast_zero,zero_divr]
 |some x=>rfl
theorem qz_divn {c:Int}{d M:Nat}(hd:d≠0)(hc:zl c<=M)(hw:(wd d).length<=M):qz ((c:Rat)/(((d:Nat):Int):Rat))<=M:=by
 rw[Rat.intCast_natCast,<-Rat.mkRat_eq_div];exact qz_mk hd hc hw
theorem QB.divl {n M:Nat}{L:List Int}{d:Nat}(h:PB n M L)(hd:d≠0)(hw:(wd d).length<=M):QB n M (divl L (d:Int)):=.of (by rw[divl_len];exact h.1) λi=>by
 rw[cfq_divl];exact qz_divn hd (h.cf i) hw
theorem qover_ok (L:List Int)(d e:Nat)(hL:PB (2^31) (2^37) L)(hd:(wd d).length<=2^35)(he:(wd e).length<=2^35)(hd0:d≠0)(he0:e≠0):AC Tryz.prog 138 [cw (L.map canon),cl (wd d),cl (wd e)] none [cqp (divl L ((d*e:Nat):Int)),ci 0]:=by
 have hl:=hL.1;have hq:(L.map canon).length=L.length:=List.length_map _;have hrl:=divl_len L ((d*e:Nat):Int);have n1:=znat_ok false d (by omega);have n2:=znat_ok false e (by omega);rw[sgf]at n1 n2;have m:=zmul_ok (canon (d:Int)) (canon (e:Int)) ((sz_canon _).mono (by rw[zl_nat];omega)) ((sz_canon _).mono (by rw[zl_nat];omega));rw[iv_canon,iv_canon,<-Int.natCast_mul]at m;have hde:d*e≠0:=Nat.mul_ne_zero hd0 he0;have hw:(wd (d*e)).length<=2^35+2^35:=wd_len2 hd he;have hR:QB (2^40) (2^38) (divl L ((d*e:Nat):Int)):=(QB.divl hL hde (by omega)).mono (by omega) (by omega);refine AC.by_walk (rs:=[.tmp 6,.tmp 7]) ords Tryz.func138 (by rfl) (by rfl) (by rfl) (by rfl) (by rfl) ?_;simp (disch:=omega) only[wt,seval,reduceCtorEq,Nat.reduceEqDiff,rqs];refine call_by (n1) (by rfl) (by simp) ?_;simp (disch:=omega) only[wt,seval,reduceCtorEq,Nat.reduceEqDiff,rqs];refine call_by (n2) (by rfl) (by simp) ?_;simp (disch:=omega) only[wt,seval,reduceCtorEq,Nat.reduceEqDiff,rqs];refine call_by (m) (by rfl) (by simp) ?_;simp (disch:=omega) only[wt,seval,reduceCtorEq,Nat.reduceEqDiff,rqs];refine aloop_nil 9 9 33 3 (by simp (disch:=omega) only[wt,seval,reduceCtorEq,Nat.reduceEqDiff,rqs]) (λf H=>∃(i st st8:Nat),i<=L.length/\f 21=.iv (.int .i64 i)/\f 19=.iv (.sl (raws (L.map canon)))/\f 20=.iv (.int .i64 L.length)/\f 8=.hp 8 st8 0 0/\H 8=.blk false st8 27 2 [prow (canon ((d*e:Nat):Int))]/\f 9=.hs 9 st/\H 9=.blk false st 33 3 (rats (((divl L ((d*e:Nat):Int)).take i).map crat))) (λf H=>(L.length-intAt f 21).toNat) ?_ ?_
 .refine⟨0,1,1,by omega,?_⟩;simp (disch:=omega) only[wt,seval,reduceCtorEq,Nat.reduceEqDiff,rqs,ghostF,ghostH,hq,List.take_zero,List.map_nil]
 rintro f H ⟨i,st,st8,hi,hF⟩;rw[intAt_of hF.1];simp (disch:=omega) only[wt,seval,reduceCtorEq,Nat.reduceEqDiff,rqs,hF];refine if_by (λhlt=>?_) (λhlt=>?_)
 .have hlt':i<L.length:=by omega
  have hrq:(((divl L ((d*e:Nat):Int)).take i).map crat).length=i:=by rw[List.length_map,List.length_take];omega
  have e1:=canon_getD L i;have hz:=hL.cf i;have k:=qmake_ok (canon (cf L i)) (canon ((d*e:Nat):Int)) ((sz_canon _).mono (by omega)) ((sz_canon _).mono (by rw[zl_nat];omega)) (by rw[iv_canon];omega);rw[iv_canon,iv_canon,<-cfq_divl]at k;simp (disch:=omega) only[wt,seval,reduceCtorEq,Nat.reduceEqDiff,rqs,hF,hq,hrq,e1];refine call_by (k) (by first|rfl|(simp only[tocvs,tocv,toboxes,tobox,updH_at,Nat.reduceEqDiff,↓reduceIte,hF,hq,hrq,e1];rfl)) (by simp) ?_;simp (disch:=omega) only[wt,seval,reduceCtorEq,Nat.reduceEqDiff,rqs,hF,hq,hrq,e1];have et:=takeq_snoc (q:=divl L ((d*e:Nat):Int)) (i:=i) (by omega);refine⟨⟨i+1,st+1,st8,by omega,?_⟩,by omega⟩;rw[et,List.map_append]
  (repeat' apply And.intro)<;>first|rfl|omega
 .simp (disch:=omega) only[wt,seval,reduceCtorEq,Nat.reduceEqDiff,rqs,hF];rw[List.take_of_length_le (by omega)]at hF;have m:=qtrim_own _ hR;refine call_by (m) (by first|rfl|(simp only[tocvs,tocv,toboxes,tobox,updH_at,Nat.reduceEqDiff,↓reduceIte,hF];rfl)) (by simp) ?_;simp (disch:=omega) only[wt,seval,reduceCtorEq,Nat.reduceEqDiff,rqs,hF]
theorem cv_cast (g:Nat->Int):∀(p:List Int) (k:Nat),((cv p g k:Int):Rat)=cvq (qp p) (λj=>(g j:Rat)) k
 |[],k=>by simp only[cv,qp,List.map_nil,cvq];rfl
 |x::xs,0=>by
  have e:qp (x::xs)=(x:Rat)::qp xs:=rfl;rw[e];simp only[cv,cvq];rw[Int.add_zero,Rat.intCast_mul,Rat.add_zero]
 |x::xs,k+1=>by
  have e:qp (x::xs)=(x:Rat)::qp xs:=rfl;have ih:=cv_cast g xs k;rw[e];simp only[cv,cvq];rw[Rat.intCast_add,Rat.intCast_mul,ih]
theorem cfq_qp_pmul (x y:List Int)(k:Nat):cfq (qp (pmul x y)) k=cfq (mulq (qp x) (qp y)) k:=by
 rw[cfq_qp,cf_pmul,cfq_mulq,cv_cast];exact cvq_congr _ _ λj=>(cfq_qp y j).symm
theorem pq_clr (A:List Rat):pq (qp (clr A))=PQ.C (cden A:Rat)*pq A:=PQ.ext λk=>by
 rw[PQ.C_mul_c,pq_c,pq_c,cfq_qp,cf_clr,Rat.mul_comm]
theorem cfq_clear_mul (A B:List Rat)(k:Nat):cfq (divl (trimz (pmul (clr A) (clr B))) ((cden A*cden B:Nat):Int)) k=cfq (mulq A B) k:=by
 have h1:=natr_ne (cden_ne A);have h2:=natr_ne (cden_ne B);rw[cfq_divl,cf_trimz,<-cfq_qp,cfq_qp_pmul];have e:pq (mulq (qp (clr A)) (qp (clr B)))=PQ.C ((cden A:Rat)*(cden B:Rat))*pq (mulq A B):=by
  rw[pq_mulq,pq_clr,pq_clr,PQ.C_mul,pq_mulq]
  ac_rfl
 have e2:=congrArg (λf=>PQ.c f k) e;simp only[PQ.C_mul_c,pq_c]at e2;rw[e2,Rat.intCast_natCast,Rat.natCast_mul]
 grind
theorem mulq_def (A B:List Rat):mulq A B=(List.range (A.length+B.length)).map (cvq A (cfq B)):=rfl
theorem QB.mulq {n k M:Nat}{A B:List Rat}(hA:QB n k A)(hB:QB n k B)(hn:n<W)(hM:n*k+k+1<=M)(hk:1<=k):QB (2*n) (2*M+1) (mulq A B):=by
 have pA:=hA.clr.mono (n':=n) (k':=M) (Nat.le_refl _) (by omega);have pB:=hB.clr.mono (n':=n) (k':=M) (Nat.le_refl _) (by omega);have pm:=(pA.pmul pB hn).trimz;have c1:=cden_len hA;have c2:=cden_len hB;have hw:(wd (cden A*cden B)).length<=M+M:=wd_len2 (by omega) (by omega);have q:=QB.divl (pm.mono (n':=n+n) (k':=M+M+1) (Nat.le_refl _) (by omega)) (Nat.mul_ne_zero (cden_ne A) (cden_ne B)) (by omega);refine .of (by simp only[mulq_def,List.length_map,List.length_range];have:=hA.1;have:=hB.1;omega) λi=>?_;rw[<-cfq_clear_mul];have:=q.cz (by omega) i;omega
theorem mulq_trim (A B:List Rat)(k:Nat):cfq (mulq (trimq A) (trimq B)) k=cfq (mulq A B) k:=mulq_congr (cfq_trimq A) (cfq_trimq B) k
theorem mulq_nil {A B:List Rat}(h:trimq A=[]\/trimq B=[]):cqs (mulq A B)=[]:=by
 have hz:∀k,cfq (mulq A B) k=0:=λk=>by
  rw[<-mulq_trim];rcases h with h|h
  .rw[h,cfq_mulq];rfl
  .rw[h,cfq_mulq,cvq_none]
 have:tzq (mulq A B)=0:=tzq_zero_iff.mpr hz;rw[cqs,show trimq (mulq A B)=[] by rw[trimq,this,List.take_zero]];rfl
theorem qpmul_ok (p q:List RQ)(n k:Nat)(hp:GQ n k p)(hq:GQ n k q)(hn:n<=2^28)(hM:n*k+k+2<=2^34)(hk:1<=k):AC Tryz.prog 89 [cqw p,cqw q] none [cqp (mulq (qvs p) (qvs q)),ci 0]:=by
 have m:=qboth_ok p q (hp.mono (by omega) (by omega)) (hq.mono (by omega) (by omega));have hA:=hp.qb.trimq;have hB:=hq.qb.trimq;have e:cqp (mulq (qvs p) (qvs q))=cqp (mulq (trimq (qvs p)) (trimq (qvs q))):=congrArg cqw (cqs_ext λk=>(mulq_trim _ _ k).symm);have tA:=trimq_trimq (qvs p);have tB:=trimq_trimq (qvs q);rw[e];refine AC.by_walk (rs:=[.tmp 4,.tmp 5]) ords Tryz.func89 (by rfl) (by rfl) (by rfl) (by rfl) (by rfl) ?_;simp (disch:=omega) only[wt,seval,reduceCtorEq,Nat.reduceEqDiff,rqs];refine call_by (m) (by rfl) (by simp) ?_;simp (disch:=omega) only[wt,seval,reduceCtorEq,Nat.reduceEqDiff,rqs];unfold cqs;generalize trimq (qvs p)=A at *;generalize trimq (qvs q)=B at *;have hqa:(A.map crat).length=A.length:=List.length_map _;have hqb:(B.map crat).length=B.length:=List.length_map _;by_cases ha:A.length=0
 .have ha':((A.map crat).length:Int)=0:=by omega
  have hn:=mulq_nil (A:=A) (B:=B) (.inl (by rw[tA];exact List.length_eq_zero_iff.mp ha));rw[show cqp (mulq A B)=cqw [] from congrArg cqw hn];simp (disch:=omega) only[wt,seval,reduceCtorEq,Nat.reduceEqDiff,rqs,ha']
  try rfl
 have ha':¬((A.map crat).length:Int)=0:=by omega
 by_cases hb:B.length=0
 .have hb':((B.map crat).length:Int)=0:=by omega
  have hn:=mulq_nil (A:=A) (B:=B) (.inr (by rw[tB];exact List.length_eq_zero_iff.mp hb));rw[show cqp (mulq A B)=cqw [] from congrArg cqw hn];simp (disch:=omega) only[wt,seval,reduceCtorEq,Nat.reduceEqDiff,rqs,ha',hb']
  try rfl
 have hb':¬((B.map crat).length:Int)=0:=by omega
 have c1:=qclear_ok (A.map crat) n k hA.gq hn hM;have c2:=qclear_ok (B.map crat) n k hB.gq hn hM;rw[qvs_map,tA]at c1;rw[qvs_map,tB]at c2;have pA:=hA.clr.mono (n':=2^30) (k':=2^35) (by omega) (by omega);have pB:=hB.clr.mono (n':=2^30) (k':=2^35) (by omega) (by omega);have z:=pmul_ok ((clr A).map canon) ((clr B).map canon) (RP.canon pA) (RP.canon pB);rw[pv_canon,pv_canon]at z;have l1:=cden_len hA;have l2:=cden_len hB;have pm:=(pA.pmul pB (by decide)).trimz;have o:=qover_ok (trimz (pmul (clr A) (clr B))) (cden A) (cden B) (pm.mono (by omega) (by omega)) (by omega) (by omega) (cden_ne A) (cden_ne B);have ee:cqs (divl (trimz (pmul (clr A) (clr B))) ((cden A*cden B:Nat):Int))=cqs (mulq A B):=cqs_ext (cfq_clear_mul A B);rw[show cqp (divl (trimz (pmul (clr A) (clr B))) ((cden A*cden B:Nat):Int))=cqw (cqs (mulq A B)) from congrArg cqw ee]at o;simp (disch:=omega) only[wt,seval,reduceCtorEq,Nat.reduceEqDiff,rqs,ha',hb'];refine call_by (c1) (by rfl) (by simp) ?_;simp (disch:=omega) only[wt,seval,reduceCtorEq,Nat.reduceEqDiff,rqs];refine call_by (c2) (by rfl) (by simp) ?_;simp (disch:=omega) only[wt,seval,reduceCtorEq,Nat.reduceEqDiff,rqs];refine call_by (z) (by rfl) (by simp) ?_;simp (disch:=omega) only[wt,seval,reduceCtorEq,Nat.reduceEqDiff,rqs];refine call_by (o) (by rfl) (by simp) ?_;simp (disch:=omega) only[wt,seval,reduceCtorEq,Nat.reduceEqDiff,rqs]
 try rfl

def rowsAt (f:Fr)(t:Nat):Nat:=match f t with
 |.iv (.sl rows)=>rows.length
 |_=>0

end Go.Proofs.YtmoiodckaadchaaGreat
