/-
 Contracts of the functions that the law reaches.
-/
import Derived.Test.YtljmoppgihphlaaL117M
import Derived.Test.YtljmoppgihphlaaL298M
import Derived.Test.YtljmoppgihphlaaL1M
import Derived.Test.YtljmoppgihphlaaL12M
set_option maxHeartbeats 2000000
set_option linter.unusedSimpArgs false
set_option linter.unusedVariables false
namespace Go.Proofs.Ytljmoppgihphlaa
open Go Go.Proofs Go.AL
theorem rsq_trimz (P Q:List Int):rsq (trimz P) Q=rsq P Q:=by
 have e:sylm (trimz P) Q=sylm P Q:=by
  unfold sylm srk;rw[tz_trimz];simp only[cf_trimz]
 rw[rsq,rsq,e]
theorem presult_g {P Q:List Int}(hP:PB (2^19) (2^22) P)(hQ:PB (2^19) (2^22) Q)(p0:tz P≠0)(q0:tz Q≠0)(h128:tz P-1+(tz Q-1)<=128):AC Try.prog 8 [cp P,cp Q] none [cz (rsq (trimz P) (trimz Q))]:=by
 have m:=presult_ok (cn P) (cn Q) (rp_cn hP) (rp_cn hQ) (by rw[pv_cn,tz_trimz];exact p0) (by rw[pv_cn,tz_trimz];exact q0) (by rw[pv_cn,pv_cn,tz_trimz,tz_trimz];exact h128);rw[pv_cn,pv_cn]at m;exact m
theorem presult_none {P Q:List Int}(hP:PB (2^19) (2^22) P)(hQ:PB (2^19) (2^22) Q)(h:tz P=0\/tz Q=0):AC Try.prog 8 [cp P,cp Q] none [cz 0] :=
 presult_zero (cn P) (cn Q) (rp_cn hP) (rp_cn hQ) (by rw[pv_cn,pv_cn,tz_trimz,tz_trimz];exact h)
theorem pprod_g {P Q:List Int}(hP:PB 40 (2^20) P)(hQ:PB 40 (2^20) Q):AC Try.prog 9 [cp P,cp Q] none [cp (pmul (trimz P) (trimz Q))]:=by
 have m:=pmul_ok (cn P) (cn Q) ((rp_cn hP).mono (by omega) (by omega)) ((rp_cn hQ).mono (by omega) (by omega));rw[pv_cn,pv_cn]at m;exact m
theorem few_pb {p:List RI}(h:RP 1048576 1048576 p):RP 40 (2^20) (p.take 40):=⟨List.length_take_le _ _,λc hc=>h.2 c (List.mem_of_mem_take hc)⟩
theorem hor_drop (k:Int)(q:List Int){i:Nat}(h:i<tz q):hor k ((trimz q).drop i)=hor k ((trimz q).drop (i+1))*k+cf q i:=by
 have hl:i<(trimz q).length:=by rw[trimz_len];exact h
 have e:cf q i=(trimz q)[i]:=by rw[<-cf_trimz];simp[cf,List.getD,hl]
 rw[e,List.drop_eq_getElem_cons hl,hor]
theorem zl_hor {k:Int}(hk:k.natAbs<=99){M:Nat}:∀l:List Int,(∀z∈l,zl z<=M)->zl (hor k l)<=M+2*l.length+1
 |[],_=>by rw[hor];exact Nat.le_trans (show zl 0<=1 by decide +kernel) (by omega)
 |c::l,h=>by
  have ih:=zl_hor hk l λz hz=>h z (List.mem_cons_of_mem _ hz)
  have h1:=zl_mul (hor k l) k;have h2:=zl_add (hor k l*k) c;have h3:=h c List.mem_cons_self;have h4:zl k<=1:=zl_le.mpr (Nat.lt_of_le_of_lt hk (by decide));rw[hor,List.length_cons];omega
theorem prsproducts_law (a b q:List RI)(k:Int)(ha:RP 1048576 1048576 a)(hb:RP 1048576 1048576 b)(hq:RP 1048576 1048576 q)(hkl : -9223372036854775808<=k)(hku:k<=9223372036854775807):AC Try.prog 3 [.agg [.sl (raws a),.sl (raws b),.sl (raws q),.int .i64 k]] none [cb true]:=by
 have hla:=ha.1;have hlb:=hb.1;have hlq:=hq.1;have za:=zform_ok _ ((few_pb ha).mono (by omega) (by omega));have zb:=zform_ok _ ((few_pb hb).mono (by omega) (by omega));have zq:=zform_ok _ ((few_pb hq).mono (by omega) (by omega));have pA:=(few_pb ha).pv;have pB:=(few_pb hb).pv;have pQ:=(few_pb hq).pv;refine AC.by_walk (rs:=[.tmp 2]) ords Try.func3 (by rfl) (by rfl) (by rfl) (by rfl) (by rfl) ?_;simp (disch:=omega) only[wt,seval,reduceCtorEq,Nat.reduceEqDiff,zcpoly_len];refine call_by (known13_ok) (by rfl) (by simp) ?_;simp (disch:=omega) only[wt,seval,reduceCtorEq,Nat.reduceEqDiff,zcpoly_len];refine .inl ⟨tmps_by (by kernel_rfl),?_⟩;refine call_by ((few13_ok a (by omega))) (by rfl) (by simp) ?_;simp (disch:=omega) only[wt,seval,reduceCtorEq,Nat.reduceEqDiff,zcpoly_len];refine call_by (za) (by rfl) (by simp) ?_;simp (disch:=omega) only[wt,seval,reduceCtorEq,Nat.reduceEqDiff,zcpoly_len];refine call_by ((few13_ok b (by omega))) (by rfl) (by simp) ?_;simp (disch:=omega) only[wt,seval,reduceCtorEq,Nat.reduceEqDiff,zcpoly_len];refine call_by (zb) (by rfl) (by simp) ?_;simp (disch:=omega) only[wt,seval,reduceCtorEq,Nat.reduceEqDiff,zcpoly_len];refine call_by ((few13_ok q (by omega))) (by rfl) (by simp) ?_;simp (disch:=omega) only[wt,seval,reduceCtorEq,Nat.reduceEqDiff,zcpoly_len];refine call_by (zq) (by rfl) (by simp) ?_;simp (disch:=omega) only[wt,seval,reduceCtorEq,Nat.reduceEqDiff,zcpoly_len]
 first|exact log_by (by kernel_rfl)|refine⟨log_by (by kernel_rfl),?_⟩
 generalize pv (a.take 40)=A at *;generalize pv (b.take 40)=B at *;generalize pv (q.take 40)=Q at *;have pA':=pA.mono (n':=2^19) (k':=2^22) (by omega) (by omega);have pB':=pB.mono (n':=2^19) (k':=2^22) (by omega) (by omega);have pQ':=pQ.mono (n':=2^19) (k':=2^22) (by omega) (by omega);have tA:tz A<=40:=Nat.le_trans (tz_le A) pA.1;have tB:tz B<=40:=Nat.le_trans (tz_le B) pB.1;have tQ:tz Q<=40:=Nat.le_trans (tz_le Q) pQ.1;have pAB:=(pA.trimz.pmul pB.trimz (by decide)).mono (n':=2^19) (k':=2^22) (by omega) (by omega);have pr:=pprod_g pA pB;have sg0:=zsign_ok (canon 0) ((sz_canon 0).mono (Nat.le_trans (show zl 0<=1 by decide +kernel) (by omega)));rw[iv_canon,show Int.sign 0=0 from rfl]at sg0;have tail:tz A=0\/tz B=0\/tz Q=0->AC Try.prog 8 [cp (pmul (trimz A) (trimz B)),cp Q] none [cz 0]:=λh=>presult_none pAB pQ' (by
  rcases h with h|h|h
  .exact .inl (tz_pmul_zero (.inl (by rw[tz_trimz];exact h)))
  .exact .inl (tz_pmul_zero (.inr (by rw[tz_trimz];exact h)))
  .exact .inr h)
 by_cases a0:tz A=0
 .have a1:=eq_true (show (tz A:Int)=0 by omega);simp (disch:=omega) only[wt,seval,reduceCtorEq,Nat.reduceEqDiff,zcpoly_len,a1];refine call_by (pr) (by rfl) (by simp) ?_;simp (disch:=omega) only[wt,seval,reduceCtorEq,Nat.reduceEqDiff,zcpoly_len];refine call_by ((tail (.inl a0))) (by rfl) (by simp) ?_;simp (disch:=omega) only[wt,seval,reduceCtorEq,Nat.reduceEqDiff,zcpoly_len];refine call_by (sg0) (by rfl) (by simp) ?_;simp (disch:=omega) only[wt,seval,reduceCtorEq,Nat.reduceEqDiff,zcpoly_len]
  try rfl
 by_cases b0:tz B=0
 .have a1:=eq_false (show ¬(tz A:Int)=0 by omega);have b1:=eq_true (show (tz B:Int)=0 by omega);simp (disch:=omega) only[wt,seval,reduceCtorEq,Nat.reduceEqDiff,zcpoly_len,a1,b1];refine call_by (pr) (by rfl) (by simp) ?_;simp (disch:=omega) only[wt,seval,reduceCtorEq,Nat.reduceEqDiff,zcpoly_len];refine call_by ((tail (.inr (.inl b0)))) (by rfl) (by simp) ?_;simp (disch:=omega) only[wt,seval,reduceCtorEq,Nat.reduceEqDiff,zcpoly_len];refine call_by (sg0) (by rfl) (by simp) ?_;simp (disch:=omega) only[wt,seval,reduceCtorEq,Nat.reduceEqDiff,zcpoly_len]
  try rfl
 by_cases q0:tz Q=0
 .have a1:=eq_false (show ¬(tz A:Int)=0 by omega);have b1:=eq_false (show ¬(tz B:Int)=0 by omega);have q1:=eq_true (show (tz Q:Int)=0 by omega);simp (disch:=omega) only[wt,seval,reduceCtorEq,Nat.reduceEqDiff,zcpoly_len,a1,b1,q1];refine call_by (pr) (by rfl) (by simp) ?_;simp (disch:=omega) only[wt,seval,reduceCtorEq,Nat.reduceEqDiff,zcpoly_len];refine call_by ((tail (.inr (.inr q0)))) (by rfl) (by simp) ?_;simp (disch:=omega) only[wt,seval,reduceCtorEq,Nat.reduceEqDiff,zcpoly_len];refine call_by (sg0) (by rfl) (by simp) ?_;simp (disch:=omega) only[wt,seval,reduceCtorEq,Nat.reduceEqDiff,zcpoly_len]
  try rfl
 have a1:=eq_false (show ¬(tz A:Int)=0 by omega);have b1:=eq_false (show ¬(tz B:Int)=0 by omega);have q1:=eq_false (show ¬(tz Q:Int)=0 by omega);simp (disch:=omega) only[wt,seval,reduceCtorEq,Nat.reduceEqDiff,zcpoly_len,a1,b1,q1];obtain⟨A',hA'⟩:∃X,trimz A=X:=⟨_,rfl⟩;obtain⟨B',hB'⟩:∃X,trimz B=X:=⟨_,rfl⟩;obtain⟨Q',hQ'⟩:∃X,trimz Q=X:=⟨_,rfl⟩;have sA:=pA'.trimz;have sB:=pB'.trimz;have sQ:=pQ'.trimz;have eA:=tz_trimz A;have eB:=tz_trimz B;have eQ:=tz_trimz Q;have eQQ:=trimz_trimz Q;rw[hA']at sA eA;rw[hB']at sB eB;rw[hQ']at sQ eQ eQQ;rw[hA',hB']at pr pAB;have tAB:tz (pmul A' B')=tz A+tz B-1:=by rw[tz_pmul (by omega) (by omega),eA,eB]
 have r1:=presult_g pAB pQ' (by omega) q0 (by omega);have r2:=presult_g pA' pQ' a0 q0 (by omega);have r3:=presult_g pB' pQ' b0 q0 (by omega);have r4:=presult_g pQ' pA' q0 a0 (by omega);rw[hA',hQ']at r2 r4;rw[hB',hQ']at r3;rw[hQ',rsq_trimz,rsq_mul sA sB sQ pAB (by omega) (by omega) (by omega) (by omega)]at r1;have z2:=(rsq_eq sA sQ (by omega) (by omega) (by omega)).2;have z3:=(rsq_eq sB sQ (by omega) (by omega) (by omega)).2;have z4:=(rsq_eq sQ sA (by omega) (by omega) (by omega)).2;have ht:=rsq_turn sA sQ (by omega) (by omega) (by omega);generalize rsq A' Q'=x at *;generalize rsq B' Q'=y at *;generalize rsq Q' A'=v at *;have zxy:=zl_mul x y;have m1:=zmul_ok (canon x) (canon y) ((sz_canon _).mono (by omega)) ((sz_canon _).mono (by omega));rw[iv_canon,iv_canon]at m1;refine call_by (pr) (by rfl) (by simp) ?_;simp (disch:=omega) only[wt,seval,reduceCtorEq,Nat.reduceEqDiff,zcpoly_len];refine call_by (r1) (by rfl) (by simp) ?_;simp (disch:=omega) only[wt,seval,reduceCtorEq,Nat.reduceEqDiff,zcpoly_len];refine call_by (r2) (by rfl) (by simp) ?_;simp (disch:=omega) only[wt,seval,reduceCtorEq,Nat.reduceEqDiff,zcpoly_len];refine call_by (r3) (by rfl) (by simp) ?_;simp (disch:=omega) only[wt,seval,reduceCtorEq,Nat.reduceEqDiff,zcpoly_len];refine call_by (m1) (by rfl) (by simp) ?_;simp (disch:=omega) only[wt,seval,reduceCtorEq,Nat.reduceEqDiff,zcpoly_len];refine call_by ((sameint_g (rfl:x*y=x*y) (by omega))) (by rfl) (by simp) ?_;simp (disch:=omega) only[wt,seval,reduceCtorEq,Nat.reduceEqDiff,zcpoly_len];refine call_by (r4) (by rfl) (by simp) ?_;simp (disch:=omega) only[wt,seval,reduceCtorEq,Nat.reduceEqDiff,zcpoly_len];have hn40:(tz A-1)*(tz Q-1)<=39*39:=Nat.mul_le_mul (by omega) (by omega);have ec:((tz A:Int)-1)*((tz Q:Int)-1)=(((tz A-1)*(tz Q-1):Nat):Int):=by
  rw[Int.natCast_mul]
  congr 1<;>omega
 have ew:IntKind.i64.wrap (((tz A:Int)-1)*((tz Q:Int)-1))=(((tz A-1)*(tz Q-1):Nat):Int):=by
  rw[ec];exact wrap_i64 _ (by omega) (by omega)
 rw[eA,eQ]at ht;generalize (tz A-1)*(tz Q-1)=t at *;rw[ew,Int.tmod_eq_emod_of_nonneg (by omega)];refine if_cut (λf H=>f 3=.iv (.sl (cpoly A))/\f 5=.iv (.sl (cpoly Q))/\f 6=.iv (.int .i64 k)/\f 8=.hp 8 1 0 0/\H 8=.blk false 1 32 2 [prow (canon x)]) ?_ (λf H hF=>?_)
 .refine if_by (λh0=>?_) (λh0=>?_)
  .have hs:t%2=1:=by omega
   rw[if_pos hs]at ht;have n1:=zneg_ok (canon v) ((sz_canon _).mono (by omega));rw[iv_canon,<-ht]at n1;simp (disch:=omega) only[wt,seval,reduceCtorEq,Nat.reduceEqDiff,zcpoly_len];refine call_by (n1) (by rfl) (by simp) ?_;simp (disch:=omega) only[wt,seval,reduceCtorEq,Nat.reduceEqDiff,zcpoly_len]
  .have hs:¬t%2=1:=by omega
   rw[if_neg hs]at ht;subst ht;simp (disch:=omega) only[wt,seval,reduceCtorEq,Nat.reduceEqDiff,zcpoly_len]
 obtain⟨k',hk'⟩:∃j,Int.tmod k 100=j:=⟨_,rfl⟩;have hk1:k'.natAbs<=99:=by
  have h1:=Int.natAbs_tmod k 100;rw[hk']at h1;have h2:=Nat.mod_lt k.natAbs (show 0<Int.natAbs 100 by decide);rw[<-h1]at h2;simp at h2;omega
 simp (disch:=omega) only[wt,seval,reduceCtorEq,Nat.reduceEqDiff,zcpoly_len,hF];refine .inl ⟨tmps_by (by kernel_rfl),?_⟩;refine call_by (r2) (by first|rfl|(simp only[tocvs,tocv,toboxes,tobox,updH_at,Nat.reduceEqDiff,↓reduceIte,hF];rfl)) (by simp) ?_;simp (disch:=omega) only[wt,seval,reduceCtorEq,Nat.reduceEqDiff,zcpoly_len,hF];refine call_by ((sameint_g (rfl:x=x) (by omega))) (by first|rfl|(simp only[tocvs,tocv,toboxes,tobox,updH_at,Nat.reduceEqDiff,↓reduceIte,hF];rfl)) (by simp) ?_;simp (disch:=omega) only[wt,seval,reduceCtorEq,Nat.reduceEqDiff,zcpoly_len,hF]
 first|exact log_by (by kernel_rfl)|refine⟨log_by (by kernel_rfl),?_⟩
 refine call_by ((zOf_ok 0 (by omega) (by omega))) (by first|rfl|(simp only[tocvs,tocv,toboxes,tobox,updH_at,Nat.reduceEqDiff,↓reduceIte,hF,hk'];rfl)) (by simp) ?_;simp (disch:=omega) only[wt,seval,reduceCtorEq,Nat.reduceEqDiff,zcpoly_len,hF,hk'];have zb:∀i,zl (hor k' (Q'.drop i))<=2^21:=λi=>by
  have h:=zl_hor hk1 (M:=2^20) (Q'.drop i) λz hz=>by
   have h2:=List.mem_of_mem_drop hz;rw[<-hQ']at h2;exact pQ.trimz.2 z h2
  have h2:(Q'.drop i).length<=40:=by
   have h3:=trimz_len Q;rw[hQ']at h3;rw[List.length_drop];omega
  omega
 refine aloop_by (λf H=>∃(i s9:Nat),i<=tz Q/\f 10=.iv (.int .i64 ((i:Int)-1))/\f 5=.iv (.sl (cpoly Q))/\f 6=.iv (.int .i64 k')/\f 9=.hp 9 s9 0 0/\H 9=.blk false s9 32 2 [prow (canon (hor k' (Q'.drop i)))]) (λf H=>(intAt f 10+1).toNat) ?_ ?_
 .refine⟨tz Q,(H 9).stamp+1,by omega,?_⟩;simp (disch:=omega) only[wt,seval,reduceCtorEq,Nat.reduceEqDiff,zcpoly_len,hF,hk',show Q'.drop (tz Q)=[] by rw[<-hQ'];exact List.drop_of_length_le (by rw[trimz_len];exact Nat.le_refl _),hor]
 rintro f H ⟨i,s9,hi,hF⟩;rw[intAt_of hF.1];simp (disch:=omega) only[wt,seval,reduceCtorEq,Nat.reduceEqDiff,zcpoly_len,hF];refine if_by (λhlt=>?_) (λhlt=>?_)
 .obtain⟨j,rfl⟩:∃j,i=j+1:=⟨i-1,by omega⟩;have ej:((j+1:Nat):Int)-1=(j:Int):=by omega
  rw[ej]at hF;have hgd:=zcpoly_getD Q (i:=j) (by omega);have hd:=hor_drop k' Q (i:=j) (by omega);rw[hQ']at hd;have zj:=pQ.cf j;have zb1:=zb (j+1);have zm:=zl_mul (hor k' (Q'.drop (j+1))) k';have zk:zl k'<=1:=zl_le.mpr (Nat.lt_of_le_of_lt hk1 (by decide));simp (disch:=omega) only[wt,seval,reduceCtorEq,Nat.reduceEqDiff,zcpoly_len,hF,ej];refine .inl ⟨tmps_by (by kernel_rfl),?_⟩;refine call_by ((zOf_ok k' (by omega) (by omega))) (by first|rfl|(simp only[tocvs,tocv,toboxes,tobox,updH_at,Nat.reduceEqDiff,↓reduceIte,hF,ej];rfl)) (by simp) ?_;simp (disch:=omega) only[wt,seval,reduceCtorEq,Nat.reduceEqDiff,zcpoly_len,hF,ej];have m:=zmul_ok (canon (hor k' (Q'.drop (j+1)))) (canon k') ((sz_canon _).mono (by omega)) ((sz_canon _).mono (by omega));rw[iv_canon,iv_canon]at m;refine call_by (m) (by first|rfl|(simp only[tocvs,tocv,toboxes,tobox,updH_at,Nat.reduceEqDiff,↓reduceIte,hF,ej,hgd];rfl)) (by simp) ?_;simp (disch:=omega) only[wt,seval,reduceCtorEq,Nat.reduceEqDiff,zcpoly_len,hF,ej,hgd];have s:=zadd_ok (canon (hor k' (Q'.drop (j+1))*k')) (canon (cf Q j)) ((sz_canon _).mono (by omega)) ((sz_canon _).mono (by omega));rw[iv_canon,iv_canon,<-hd]at s;refine call_by (s) (by first|rfl|(simp only[tocvs,tocv,toboxes,tobox,updH_at,Nat.reduceEqDiff,↓reduceIte,hF,ej,hgd];rfl)) (by simp) ?_;simp (disch:=omega) only[wt,seval,reduceCtorEq,Nat.reduceEqDiff,zcpoly_len,hF,ej,hgd]
  first|exact log_by (by kernel_rfl)|refine⟨log_by (by kernel_rfl),?_⟩
  refine⟨⟨j,s9,by omega,?_⟩,by omega⟩
  (repeat' apply And.intro)<;>first|rfl|omega
 .have hi0:i=0:=by omega
  subst hi0;rw[List.drop_zero]at hF;simp (disch:=omega) only[wt,seval,reduceCtorEq,Nat.reduceEqDiff,zcpoly_len,hF];refine .inl ⟨tmps_by (by kernel_rfl),?_⟩;have hlx:PB (2^19) (2^22) [-k',1]:=⟨by simp,λz hz=>by
   refine Nat.le_trans (zl_le.mpr (show z.natAbs<W^1 from Nat.lt_of_lt_of_le (show z.natAbs<2000 from ?_) (by decide))) (show 1<=2^22 by omega);simp only[List.mem_cons,List.not_mem_nil,or_false]at hz;rcases hz with rfl|rfl
   .rw[Int.natAbs_neg];omega
   .decide⟩
  have tx:tz [-k',1]=2:=by
   have h1:=tz_le [-k',1];by_cases h2:tz [-k',1]=2
   .exact h2
   .have h3:=cf_ge_tz [-k',1] (k:=1) (by simp at h1;omega);exact absurd h3 (by show ¬(1:Int)=0;decide)
  have rx:=presult_ok ([-k',1].map canon) (cn Q) (RP.canon hlx) (rp_cn pQ') (by rw[pv_canon,tx];decide) (by rw[pv_cn,tz_trimz];exact q0) (by rw[pv_canon,pv_cn,tx,tz_trimz];omega);rw[pv_canon,pv_cn,hQ',rsq_root (by omega) sQ (by omega) (by omega),eQQ]at rx;have z0:=zb 0;rw[List.drop_zero]at z0;rw[show -k'=0-k' from (Int.zero_sub k').symm]at rx;have hpo:=poly13_ok [0-k',1] (by simp) (by
   intro z hz;simp only[List.mem_cons,List.not_mem_nil,or_false]at hz;rcases hz with rfl|rfl<;>omega)
  refine call_by (hpo) (by first|rfl|(simp only[tocvs,tocv,toboxes,tobox,updH_at,Nat.reduceEqDiff,↓reduceIte,hF];rfl)) (by simp) ?_;simp (disch:=omega) only[wt,seval,reduceCtorEq,Nat.reduceEqDiff,zcpoly_len,hF];refine call_by (rx) (by first|rfl|(simp only[tocvs,tocv,toboxes,tobox,updH_at,Nat.reduceEqDiff,↓reduceIte,hF];rfl)) (by simp) ?_;simp (disch:=omega) only[wt,seval,reduceCtorEq,Nat.reduceEqDiff,zcpoly_len,hF];refine call_by ((sameint_g (rfl:hor k' Q'=hor k' Q') (by omega))) (by first|rfl|(simp only[tocvs,tocv,toboxes,tobox,updH_at,Nat.reduceEqDiff,↓reduceIte,hF];rfl)) (by simp) ?_;simp (disch:=omega) only[wt,seval,reduceCtorEq,Nat.reduceEqDiff,zcpoly_len,hF]
  first|exact log_by (by kernel_rfl)|refine⟨log_by (by kernel_rfl),?_⟩
  try rfl
end Go.Proofs.Ytljmoppgihphlaa
