/-
 Contracts of the functions that the law reaches.
-/
import Derived.Test.YtnjaeokkfbihlaaGreatL298M
set_option maxHeartbeats 2000000
namespace Go.Proofs.YtnjaeokkfbihlaaGreat
open Go Go.Proofs Go.AL
set_option linter.unusedSimpArgs false
set_option linter.unusedVariables false
structure SB (A:List Rat) (x:RQ) (B:Nat):Prop where
 l:A.length<=2^30
 c:∀i,i<A.length->qz (cfq A i)<=B
 e:∀i,qz (evq (A.drop i) (qv x))<=B
 hx:SzQ B x
 d:nv x.2≠0
 b:B<=2^34
 one:1<=B
theorem VB.sb {p:List RQ}{x:RQ}{B:Nat}(v:VB p x B):SB (trimq (qvs p)) x B where
 l:=by rw[trimq_len];exact Nat.le_trans (tzq_le _) (by rw[qvs_len];exact v.hp.1)
 c:=λi hi=>by
  have:=v.hp.qb.trimq;exact this.cz v.one i
 e:=λi=>v.e _ (by rw[List.length_drop,trimq_len];have:=tzq_le (qvs p);rw[qvs_len]at this;omega) λc hc=>List.mem_of_mem_take (List.mem_of_mem_drop hc)
 hx:=v.hx
 d:=v.d
 b:=v.b
 one:=v.one
structure TB (A:List Rat) (x:RQ) (n:Nat):Prop where
 t:trimq A=A
 l:A.length<=2^30
 n0:A.length≠0
 z:∀j,j<n->evq (qit A (qv x) j) (qv x)=0
 e:evq (qit A (qv x) n) (qv x)≠0
 v:∀k,k<=n->VB ((qit A (qv x) k).map crat) x (2^34)
theorem TB.le {A:List Rat}{x:RQ}{n:Nat}(h:TB A x n){k:Nat}(hk:k<=n):(qit A (qv x) k).length+k=A.length/\(qit A (qv x) k).length≠0/\trimq (qit A (qv x) k)=qit A (qv x) k :=
 qit_len h.t h.n0 k λj hj=>h.z j (by omega)


theorem lcm_len {a b j k:Nat}(ha:(wd a).length<=j)(hb:(wd b).length<=k):(wd (Nat.lcm a b)).length<=j+k :=
 Nat.le_trans (wd_len_mono (Nat.div_le_self _ _)) (wd_len2 ha hb)
theorem lcm_ne {a b:Nat}(ha:a≠0)(hb:b≠0):Nat.lcm a b≠0:=Nat.lcm_ne_zero ha hb
def lcmL (l:List Nat):Nat:=l.foldl Nat.lcm 1
theorem lcmL_take {l:List Nat}{i:Nat}(h:i<l.length):lcmL (l.take (i+1))=Nat.lcm (lcmL (l.take i)) (l.getD i 0):=by
 rw[List.take_add_one,List.getElem?_eq_getElem h,lcmL,List.foldl_append];simp[lcmL,List.getD,h]
theorem lcmL_facts (l:List Nat)(K:Nat)(h0:∀x∈l,x≠0)(hK:∀x∈l,(wd x).length<=K):∀i,i<=l.length->lcmL (l.take i)≠0/\(wd (lcmL (l.take i))).length<=i*K+1/\∀j,j<i->l.getD j 0∣lcmL (l.take i)
 |0,_=>⟨by simp[lcmL],by rw[List.take_zero];show (wd 1).length<=_;rw[show wd 1=[1] by decide +kernel];simp,λj hj=>by omega⟩
 |i+1,hi=>by
  obtain⟨a1,a2,a3⟩:=lcmL_facts l K h0 hK i (by omega);have hm:l.getD i 0∈l:=by rw[List.getD,List.getElem?_eq_getElem (by omega),Option.getD_some];exact List.getElem_mem _
  rw[lcmL_take (by omega)];refine⟨lcm_ne a1 (h0 _ hm),?_,λj hj=>?_⟩
  .have:=lcm_len a2 (hK _ hm);rw[Nat.succ_mul];omega
  .rcases Nat.lt_or_ge j i with h|h
   .exact Nat.dvd_trans (a3 j h) (Nat.dvd_lcm_left _ _)
   .obtain rfl:j=i:=by omega
    exact Nat.dvd_lcm_right _ _
def dens (A:List Rat):List Nat:=A.map λc=>c.den
def cden (A:List Rat):Nat:=lcmL (dens A)
def clr (A:List Rat):List Int:=A.map λc=>c.num*((cden A:Int)/(c.den:Int))
theorem dens_len (A:List Rat):(dens A).length=A.length:=List.length_map _
theorem clr_len (A:List Rat):(clr A).length=A.length:=List.length_map _
theorem dens_get {A:List Rat}{i:Nat}(h:i<A.length):(dens A).getD i 0=(cfq A i).den:=by simp[dens,cfq,List.getD,h]
theorem clr_get {A:List Rat}{i:Nat}(h:i<A.length):cf (clr A) i=(cfq A i).num*((cden A:Int)/((cfq A i).den:Int)):=by simp[clr,cf,cfq,List.getD,h]
theorem dens_ne {A:List Rat}:∀x∈dens A,x≠0:=λx hx=>by
 obtain⟨c,_,rfl⟩:=List.mem_map.1 hx;exact c.den_nz
theorem QB.dens {n k:Nat}{A:List Rat}(h:QB n k A):∀x∈dens A,(wd x).length<=k:=λx hx=>by
 obtain⟨c,hc,rfl⟩:=List.mem_map.1 hx;exact Nat.le_trans (qz_parts c).2 (h.2 c hc)
theorem cden_ne (A:List Rat):cden A≠0:=by
 have:=(lcmL_facts (dens A) ((dens A).foldl (λm x=>max m (wd x).length) 0) dens_ne (λx hx=>by
  have key:∀(l:List Nat) (m:Nat),m<=l.foldl (λm x=>max m (wd x).length) m/\∀x∈l,(wd x).length<=l.foldl (λm x=>max m (wd x).length) m:=by
   intro l
   induction l with
   |nil=>exact λm=>⟨Nat.le_refl _,λx hx=>nomatch hx⟩
   |cons a l ih =>
    intro m;have:=ih (max m (wd a).length);refine⟨Nat.le_trans (Nat.le_max_left _ _) this.1,λx hx=>?_⟩;rcases List.mem_cons.1 hx with rfl|hx
    .exact Nat.le_trans (Nat.le_max_right _ _) this.1
    .exact this.2 x hx
  exact(key (dens A) 0).2 x hx) (dens A).length (Nat.le_refl _)).1
 rwa [List.take_of_length_le (Nat.le_refl _)]at this
theorem cden_dvd {A:List Rat}{i:Nat}(h:i<A.length):(cfq A i).den∣cden A:=by
 have:=(lcmL_facts (dens A) (cden A+(dens A).foldl (λm x=>m+(wd x).length) 0) dens_ne (λx hx=>by
  have key:∀(l:List Nat) (m:Nat),m<=l.foldl (λm x=>m+(wd x).length) m/\∀x∈l,(wd x).length<=l.foldl (λm x=>m+(wd x).length) m:=by
   intro l
   induction l with
   |nil=>exact λm=>⟨Nat.le_refl _,λx hx=>nomatch hx⟩
   |cons a l ih =>
    intro m;have:=ih (m+(wd a).length);refine⟨Nat.le_trans (by omega) this.1,λx hx=>?_⟩;rcases List.mem_cons.1 hx with rfl|hx
    .exact Nat.le_trans (by omega) this.1
    .exact this.2 x hx
  have:=(key (dens A) 0).2 x hx;omega) (dens A).length (Nat.le_refl _)).2.2 i (by rw[dens_len];exact h)
 rw[List.take_of_length_le (Nat.le_refl _),dens_get h]at this;exact this
theorem cden_len {n k:Nat}{A:List Rat}(h:QB n k A):(wd (cden A)).length<=n*k+1:=by
 have:=(lcmL_facts (dens A) k dens_ne h.dens (dens A).length (Nat.le_refl _)).2.1;rw[List.take_of_length_le (Nat.le_refl _),dens_len]at this;have h2:=Nat.mul_le_mul_right k h.1;show (wd (lcmL (dens A))).length<=_;omega
theorem cf_clr (A:List Rat)(i:Nat):(cf (clr A) i:Rat)=cfq A i*(cden A:Rat):=by
 by_cases h:i<A.length
 .rw[clr_get h];obtain⟨m,hm⟩:=cden_dvd h;have hd:((cfq A i).den:Int)≠0:=by have:=(cfq A i).den_nz;omega
  have e:(cden A:Int)/((cfq A i).den:Int)=(m:Int):=by
   rw[hm,Int.natCast_mul,Int.mul_ediv_cancel_left _ hd]
  rw[e,Rat.intCast_mul,Rat.intCast_natCast,hm,Rat.natCast_mul];have h1:cfq A i=((cfq A i).num:Rat)/((cfq A i).den:Rat):=by rw[<-Rat.mkRat_eq_div,Rat.mkRat_self]
  have h2:=natr_ne (cfq A i).den_nz;generalize (cfq A i).num=u at *;generalize (cfq A i).den=v at *;rw[h1]
  grind
 .rw[cf_ge (by rw[clr_len];omega),cfq_ge (by omega),Rat.intCast_zero,Rat.zero_mul]
theorem zl_clr {n k:Nat}{A:List Rat}(h:QB n k A)(i:Nat):zl (cf (clr A) i)<=k+n*k+1:=by
 by_cases hi:i<A.length
 .rw[clr_get hi];have h1:=zl_mul (cfq A i).num ((cden A:Int)/((cfq A i).den:Int));have h2:=zl_div (a:=(cden A:Int)) (b:=((cfq A i).den:Int)) (Int.natCast_dvd_natCast.mpr (cden_dvd hi));have h3:=cden_len h;have h4:=(qz_parts (cfq A i)).1;have h5:qz (cfq A i)<=k:=by rw[cfq_lt hi];exact h.2 _ (List.getElem_mem hi)
  rw[zl_nat]at h2;omega
 .rw[cf_ge (by rw[clr_len];omega),zl_zero];omega
theorem QB.clr {n k:Nat}{A:List Rat}(h:QB n k A):PB n (k+n*k+1) (clr A):=.of (by rw[clr_len];exact h.1) (zl_clr h)
def divl (L:List Int)(D:Int):List Rat:=L.map λc:Int=>(c:Rat)/(D:Rat)
theorem divl_len (L:List Int)(D:Int):(divl L D).length=L.length:=List.length_map _
theorem zero_divr (x:Rat):(0:Rat)/x=0:=by rw[Rat.div_def,Rat.zero_mul]
theorem cfq_divl (L:List Int)(D:Int)(k:Nat):cfq (divl L D) k=(cf L k:Rat)/(D:Rat):=by
 unfold divl cfq cf;rw[List.getD_eq_getElem?_getD,List.getD_eq_getElem?_getD,List.getElem?_map];cases L[k]? with
 |none=>simp only[Option.map_none,Option.getD_none];rw[Rat.intCast_zero,zero_divr]
 |some x=>rfl
theorem qz_divn {c:Int}{d M:Nat}(hd:d≠0)(hc:zl c<=M)(hw:(wd d).length<=M):qz ((c:Rat)/(((d:Nat):Int):Rat))<=M:=by
 rw[Rat.intCast_natCast,<-Rat.mkRat_eq_div];exact qz_mk hd hc hw
theorem QB.divl {n M:Nat}{L:List Int}{d:Nat}(h:PB n M L)(hd:d≠0)(hw:(wd d).length<=M):QB n M (divl L (d:Int)):=.of (by rw[divl_len];exact h.1) λi=>by
 rw[cfq_divl];exact qz_divn hd (h.cf i) hw
theorem cv_cast (g:Nat->Int):∀(p:List Int) (k:Nat),((cv p g k:Int):Rat)=cvq (qp p) (λj=>(g j:Rat)) k
 |[],k=>by simp only[cv,qp,List.map_nil,cvq];rfl
 |x::xs,0=>by
  have e:qp (x::xs)=(x:Rat)::qp xs:=rfl;rw[e];simp only[cv,cvq];rw[Int.add_zero,Rat.intCast_mul,Rat.add_zero]
 |x::xs,k+1=>by
  have e:qp (x::xs)=(x:Rat)::qp xs:=rfl;have ih:=cv_cast g xs k;rw[e];simp only[cv,cvq];rw[Rat.intCast_add,Rat.intCast_mul,ih]
theorem cfq_qp_pmul (x y:List Int)(k:Nat):cfq (qp (pmul x y)) k=cfq (mulq (qp x) (qp y)) k:=by
 rw[cfq_qp,cf_pmul,cfq_mulq,cv_cast];exact cvq_congr _ _ λj=>(cfq_qp y j).symm
theorem pq_clr (A:List Rat):pq (qp (clr A))=PQ.C (cden A:Rat)*pq A:=PQ.ext λk=>by
 rw[PQ.C_mul_c,pq_c,pq_c,cfq_qp,cf_clr,Rat.mul_comm]
theorem cfq_clear_mul (A B:List Rat)(k:Nat):cfq (divl (trimz (pmul (clr A) (clr B))) ((cden A*cden B:Nat):Int)) k=cfq (mulq A B) k:=by
 have h1:=natr_ne (cden_ne A);have h2:=natr_ne (cden_ne B);rw[cfq_divl,cf_trimz,<-cfq_qp,cfq_qp_pmul];have e:pq (mulq (qp (clr A)) (qp (clr B)))=PQ.C ((cden A:Rat)*(cden B:Rat))*pq (mulq A B):=by
  rw[pq_mulq,pq_clr,pq_clr,PQ.C_mul,pq_mulq]
  ac_rfl
 have e2:=congrArg (λf=>PQ.c f k) e;simp only[PQ.C_mul_c,pq_c]at e2;rw[e2,Rat.intCast_natCast,Rat.natCast_mul]
 grind
theorem mulq_def (A B:List Rat):mulq A B=(List.range (A.length+B.length)).map (cvq A (cfq B)):=rfl
theorem QB.mulq {n k M:Nat}{A B:List Rat}(hA:QB n k A)(hB:QB n k B)(hn:n<W)(hM:n*k+k+1<=M)(hk:1<=k):QB (2*n) (2*M+1) (mulq A B):=by
 have pA:=hA.clr.mono (n':=n) (k':=M) (Nat.le_refl _) (by omega);have pB:=hB.clr.mono (n':=n) (k':=M) (Nat.le_refl _) (by omega);have pm:=(pA.pmul pB hn).trimz;have c1:=cden_len hA;have c2:=cden_len hB;have hw:(wd (cden A*cden B)).length<=M+M:=wd_len2 (by omega) (by omega);have q:=QB.divl (pm.mono (n':=n+n) (k':=M+M+1) (Nat.le_refl _) (by omega)) (Nat.mul_ne_zero (cden_ne A) (cden_ne B)) (by omega);refine .of (by simp only[mulq_def,List.length_map,List.length_range];have:=hA.1;have:=hB.1;omega) λi=>?_;rw[<-cfq_clear_mul];have:=q.cz (by omega) i;omega
def sfar (q:List Int)(b:Bool):Int:=if b=false/\((tz q:Int)-1).tmod 2=1 then -(lc q).sign else (lc q).sign
theorem sfar_bound (q:List Int)(b:Bool) : -1<=sfar q b/\sfar q b<=1:=by
 have h : -1<=(lc q).sign/\(lc q).sign<=1:=by
  rcases Int.lt_trichotomy (lc q) 0 with h|h|h
  .rw[Int.sign_eq_neg_one_of_neg h];omega
  .rw[h];decide
  .rw[Int.sign_eq_one_of_pos h];omega
 unfold sfar;split<;>omega
theorem esfar_ok (p:List RI)(b:Bool)(h:RP (2^30) (2^35) p):AC Tryz.prog 9 [cw p,cb b] none [ci (sfar (pv p) b)]:=by
 have hl:=h.1;have htl:=tz_le (pv p);rw[pv_len]at htl;have l:=plead_ok p (h.mono (by omega) (by omega));have zl':=h.pv.cf (tz (pv p)-1);have s:=zsign_ok (canon (cf (pv p) (tz (pv p)-1))) ((sz_canon _).mono (by omega));rw[iv_canon]at s;have d:=pdeg_ok p (h.mono (by omega) (by omega));have e0:sfar (pv p) b=if b=false/\((tz (pv p):Int)-1).tmod 2=1 then -(cf (pv p) (tz (pv p)-1)).sign else (cf (pv p) (tz (pv p)-1)).sign:=rfl
 have hb : -1<=(cf (pv p) (tz (pv p)-1)).sign/\(cf (pv p) (tz (pv p)-1)).sign<=1:=by
  have:=sfar_bound (pv p) true;simp only[sfar,Bool.true_eq_false,false_and,if_false]at this;exact this
 rw[e0];generalize (cf (pv p) (tz (pv p)-1)).sign=sg0 at *;refine AC.by_walk (rs:=[.tmp 4]) ords Tryz.func9 (by rfl) (by rfl) (by rfl) (by rfl) (by rfl) ?_;simp (disch:=omega) only[wt,seval,reduceCtorEq,Nat.reduceEqDiff,rqs,case12_A,case12_B,case12_X,case12_Y,ints_two];refine call_by (l) (by rfl) (by simp) ?_;simp (disch:=omega) only[wt,seval,reduceCtorEq,Nat.reduceEqDiff,rqs,case12_A,case12_B,case12_X,case12_Y,ints_two];refine call_by (s) (by rfl) (by simp) ?_;simp (disch:=omega) only[wt,seval,reduceCtorEq,Nat.reduceEqDiff,rqs,case12_A,case12_B,case12_X,case12_Y,ints_two];cases b with
 |true =>
  rw[if_neg (by simp)];simp (disch:=omega) only[wt,seval,reduceCtorEq,Nat.reduceEqDiff,rqs,case12_A,case12_B,case12_X,case12_Y,ints_two]
 |false =>
  by_cases hm:((tz (pv p):Int)-1).tmod 2=1
  .rw[if_pos ⟨rfl,hm⟩];simp (disch:=omega) only[wt,seval,reduceCtorEq,Nat.reduceEqDiff,rqs,case12_A,case12_B,case12_X,case12_Y,ints_two];refine call_by (d) (by rfl) (by simp) ?_;simp (disch:=omega) only[wt,seval,reduceCtorEq,Nat.reduceEqDiff,rqs,case12_A,case12_B,case12_X,case12_Y,ints_two];simp (disch:=omega) only[wt,seval,reduceCtorEq,Nat.reduceEqDiff,rqs,case12_A,case12_B,case12_X,case12_Y,ints_two,hm];rw[Int.zero_sub]
  .rw[if_neg (λh=>hm h.2)];simp (disch:=omega) only[wt,seval,reduceCtorEq,Nat.reduceEqDiff,rqs,case12_A,case12_B,case12_X,case12_Y,ints_two];refine call_by (d) (by rfl) (by simp) ?_;simp (disch:=omega) only[wt,seval,reduceCtorEq,Nat.reduceEqDiff,rqs,case12_A,case12_B,case12_X,case12_Y,ints_two];simp (disch:=omega) only[wt,seval,reduceCtorEq,Nat.reduceEqDiff,rqs,case12_A,case12_B,case12_X,case12_Y,ints_two,hm]
end Go.Proofs.YtnjaeokkfbihlaaGreat

set_option linter.unusedSimpArgs false
set_option linter.unusedVariables false
namespace Go.Proofs.YtnjaeokkfbihlaaGreat
open Go Go.Proofs Go.AL
def sgv (p:List RI)(x:RQ):Int:=sgq (evq (qp (pv p)) (qv x))
theorem qp_vb {p:List RI}{x:RQ}(hp:RP 40 200 p)(hx:SzQ 200 x)(h0:nv x.2≠0):VB (cqs (qp (pv p))) x (2^20):=VB.of (K:=200) (X:=200) (n:=40) (show QB 40 200 (qp (pv p)) from PB.ofZ hp.pv (by omega)).gqs hx h0 (by omega) (by omega) (by omega)
theorem hSign_ok (p:List RI)(x:RQ)(hp:RP 40 200 p)(hx:SzQ 200 x)(h0:nv x.2≠0):AC Tryz.prog 6 [cw p,cqq x] none [ci (sgv p x),ci 0]:=by
 have o:=hoverq_ok p (hp.mono (by omega) (by omega));have v:=qp_vb hp hx h0;have a:=hAt_ok _ x _ v;rw[qvs_cqs,evq_trim]at a;have ze:qz (evq (qp (pv p)) (qv x))<=2^20:=by
  have h:=v.e (trimq (qp (pv p))) (by rw[cqs_len,trimq_len];exact Nat.le_refl _) (λc hc=>by rw[qvs_cqs];exact hc);rwa [evq_trim]at h
 have s:=hS_ok (crat (evq (qp (pv p)) (qv x))) ((szq_crat (k:=2^40) (by omega)).1);rw[sgq_qv (nv_crat0 _),qv_crat]at s;refine AC.by_walk (rs:=[.tmp 4,.tmp 5]) ords Tryz.func6 (by rfl) (by rfl) (by rfl) (by rfl) (by rfl) ?_;simp (disch:=omega) only[wt,seval,reduceCtorEq,Nat.reduceEqDiff,rqs,polys_len,ilims_len];refine .inl ⟨tmps_by (by kernel_rfl),?_⟩;refine call_by (o) (by rfl) (by simp) ?_;simp (disch:=omega) only[wt,seval,reduceCtorEq,Nat.reduceEqDiff,rqs,polys_len,ilims_len];refine call_by (a) (by rfl) (by simp) ?_;simp (disch:=omega) only[wt,seval,reduceCtorEq,Nat.reduceEqDiff,rqs,polys_len,ilims_len]
 first|exact log_by (by kernel_rfl)|refine⟨log_by (by kernel_rfl),?_⟩
 refine call_by (s) (by rfl) (by simp) ?_;simp (disch:=omega) only[wt,seval,reduceCtorEq,Nat.reduceEqDiff,rqs,polys_len,ilims_len]
 try rfl
theorem hSign_bad (p:List RI)(x:RQ)(hp:RP 40 200 p)(hx:SzQ 200 x)(h0:nv x.2=0):AC Tryz.prog 6 [cw p,cqq x] none [ci 0,ci 1]:=by
 have o:=hoverq_ok p (hp.mono (by omega) (by omega));have a:=hAt_bad (cqs (qp (pv p))) x (((show QB 40 200 (qp (pv p)) from PB.ofZ hp.pv (by omega)).gqs.bq).mono (by omega) (by omega)) (hx.mono (by omega)) (.inr h0);refine AC.by_walk (rs:=[.tmp 4,.tmp 5]) ords Tryz.func6 (by rfl) (by rfl) (by rfl) (by rfl) (by rfl) ?_;simp (disch:=omega) only[wt,seval,reduceCtorEq,Nat.reduceEqDiff,rqs,polys_len,ilims_len];refine .inl ⟨tmps_by (by kernel_rfl),?_⟩;refine call_by (o) (by rfl) (by simp) ?_;simp (disch:=omega) only[wt,seval,reduceCtorEq,Nat.reduceEqDiff,rqs,polys_len,ilims_len];refine call_by (a) (by rfl) (by simp) ?_;simp (disch:=omega) only[wt,seval,reduceCtorEq,Nat.reduceEqDiff,rqs,polys_len,ilims_len]
 first|exact log_by (by kernel_rfl)|refine⟨log_by (by kernel_rfl),?_⟩
 try rfl
theorem hSignFar_ok (p:List RI)(b:Bool)(h:RP 40 200 p):AC Tryz.prog 10 [cw p,cb b] none [ci (sfar (pv p) b)]:=by
 have hl:=h.1;have htl:=tz_le (pv p);rw[pv_len]at htl;have l:=slead_ok p (h.mono (by omega) (by omega));have zl':=h.pv.cf (tz (pv p)-1);have s:=rSign_ok (canon (cf (pv p) (tz (pv p)-1))) ((sz_canon _).mono (by omega));rw[iv_canon]at s;have d:=sdeg_ok p (h.mono (by omega) (by omega));have e0:sfar (pv p) b=if b=false/\((tz (pv p):Int)-1).tmod 2=1 then -(cf (pv p) (tz (pv p)-1)).sign else (cf (pv p) (tz (pv p)-1)).sign:=rfl
 have hb : -1<=(cf (pv p) (tz (pv p)-1)).sign/\(cf (pv p) (tz (pv p)-1)).sign<=1:=by
  have:=sfar_bound (pv p) true;simp only[sfar,Bool.true_eq_false,false_and,if_false]at this;exact this
 rw[e0];generalize (cf (pv p) (tz (pv p)-1)).sign=sg0 at *;refine AC.by_walk (rs:=[.tmp 4]) ords Tryz.func10 (by rfl) (by rfl) (by rfl) (by rfl) (by rfl) ?_;simp (disch:=omega) only[wt,seval,reduceCtorEq,Nat.reduceEqDiff,rqs,polys_len,ilims_len];refine call_by (l) (by rfl) (by simp) ?_;simp (disch:=omega) only[wt,seval,reduceCtorEq,Nat.reduceEqDiff,rqs,polys_len,ilims_len];refine call_by (s) (by rfl) (by simp) ?_;simp (disch:=omega) only[wt,seval,reduceCtorEq,Nat.reduceEqDiff,rqs,polys_len,ilims_len];cases b with
 |true =>
  rw[if_neg (by simp)];simp (disch:=omega) only[wt,seval,reduceCtorEq,Nat.reduceEqDiff,rqs,polys_len,ilims_len]
 |false =>
  by_cases hm:((tz (pv p):Int)-1).tmod 2=1
  .rw[if_pos ⟨rfl,hm⟩];simp (disch:=omega) only[wt,seval,reduceCtorEq,Nat.reduceEqDiff,rqs,polys_len,ilims_len];refine call_by (d) (by rfl) (by simp) ?_;simp (disch:=omega) only[wt,seval,reduceCtorEq,Nat.reduceEqDiff,rqs,polys_len,ilims_len];simp (disch:=omega) only[wt,seval,reduceCtorEq,Nat.reduceEqDiff,rqs,polys_len,ilims_len,hm];rw[Int.zero_sub]
  .rw[if_neg (λh=>hm h.2)];simp (disch:=omega) only[wt,seval,reduceCtorEq,Nat.reduceEqDiff,rqs,polys_len,ilims_len];refine call_by (d) (by rfl) (by simp) ?_;simp (disch:=omega) only[wt,seval,reduceCtorEq,Nat.reduceEqDiff,rqs,polys_len,ilims_len];simp (disch:=omega) only[wt,seval,reduceCtorEq,Nat.reduceEqDiff,rqs,polys_len,ilims_len,hm]
theorem psm {ps:List (List RI)}{i:Nat}(h:i<ps.length):ps.getD i []∈ps:=by rw[List.getD,List.getElem?_eq_getElem h,Option.getD_some];exact List.getElem_mem h
theorem im_snoc (f:List RI->Int)(ps:List (List RI)){i:Nat}(h:i<ps.length):ilims ((ps.map f).take i)++[[.int .i64 (f (ps.getD i []))]]=ilims ((ps.map f).take (i+1)):=by
 rw[List.take_add_one,List.getElem?_map,List.getElem?_eq_getElem h,List.getD,List.getElem?_eq_getElem h];simp[ilims]
theorem im_len (f:List RI->Int)(ps:List (List RI)){i:Nat}(h:i<=ps.length):((ps.map f).take i).length=i:=by rw[List.length_take,List.length_map];omega
theorem im_all (f:List RI->Int)(ps:List (List RI)):(ps.map f).take ps.length=ps.map f:=List.take_of_length_le (by rw[List.length_map];exact Nat.le_refl _)
theorem eSignsFar_v (ps:List (List RI))(b:Bool)(hl:ps.length<=1000)(h:∀p∈ps,RP 40 200 p):AC Tryz.prog 15 [.iv (.sl (polys ps)),cb b] none [cis (ps.map λp=>sfar (pv p) b)]:=by
 refine AC.by_walk (rs:=[.tmp 4]) ords Tryz.func15 (by rfl) (by rfl) (by rfl) (by rfl) (by rfl) ?_;simp (disch:=omega) only[wt,seval,reduceCtorEq,Nat.reduceEqDiff,rqs,polys_len,ilims_len];refine aloop_nil 5 5 3 1 (by simp (disch:=omega) only[wt,seval,reduceCtorEq,Nat.reduceEqDiff,rqs,polys_len,ilims_len]) (λf H=>∃(i st:Nat),i<=ps.length/\f 10=.iv (.int .i64 i)/\f 8=.iv (.sl (polys ps))/\f 9=.iv (.int .i64 ps.length)/\f 1=.iv (.bool b)/\f 5=.hs 5 st/\H 5=.blk false st 3 1 (ilims ((ps.map λp=>sfar (pv p) b).take i))) (λf H=>(ps.length-intAt f 10).toNat) ?_ ?_
 .refine⟨0,1,by omega,?_⟩;simp (disch:=omega) only[wt,seval,reduceCtorEq,Nat.reduceEqDiff,rqs,polys_len,ilims_len,ghostF,ghostH,List.take_zero,show ilims []=[] from rfl]
 rintro f H ⟨i,st,hi,hF⟩;rw[intAt_of hF.1];simp (disch:=omega) only[wt,seval,reduceCtorEq,Nat.reduceEqDiff,rqs,polys_len,ilims_len,hF];refine if_by (λhlt=>?_) (λhlt=>?_)
 .have hlt':i<ps.length:=by omega
  have hq:=im_len (λp=>sfar (pv p) b) ps hi;have e:=im_snoc (λp=>sfar (pv p) b) ps hlt';have z:=esfar_ok (ps.getD i []) b ((h _ (psm hlt')).mono (by omega) (by omega));have hgt:=polys_at hlt';simp (disch:=omega) only[wt,seval,reduceCtorEq,Nat.reduceEqDiff,rqs,polys_len,ilims_len,hF,hq,hgt];refine call_by (z) (by first|rfl|(simp only[tocvs,tocv,toboxes,tobox,updH_at,Nat.reduceEqDiff,↓reduceIte,hF,hq,hgt];rfl)) (by simp) ?_;simp (disch:=omega) only[wt,seval,reduceCtorEq,Nat.reduceEqDiff,rqs,polys_len,ilims_len,hF,hq,hgt];refine⟨⟨i+1,st+1,by omega,?_⟩,by omega⟩;rw[<-e]
  (repeat' apply And.intro)<;>first|rfl|omega
 .obtain rfl:i=ps.length:=by omega
  rw[im_all]at hF;simp (disch:=omega) only[wt,seval,reduceCtorEq,Nat.reduceEqDiff,rqs,polys_len,ilims_len,hF]
  try rfl
theorem eSigns_v (ps:List (List RI))(x:RQ)(hl:ps.length<=1000)(h:∀p∈ps,RP 40 200 p)(hx:SzQ 200 x)(h0:nv x.2≠0):AC Tryz.prog 13 [.iv (.sl (polys ps)),cqq x] none [cis (ps.map λp=>sgv p x),ci 0]:=by
 have ck:=qcheck_good x ⟨Nat.le_trans hx.2.1 (by omega),hx.2.2⟩ h0;refine AC.by_walk (rs:=[.tmp 4,.tmp 5]) ords Tryz.func13 (by rfl) (by rfl) (by rfl) (by rfl) (by rfl) ?_;simp (disch:=omega) only[wt,seval,reduceCtorEq,Nat.reduceEqDiff,rqs,polys_len,ilims_len];refine call_by (ck) (by rfl) (by simp) ?_;simp (disch:=omega) only[wt,seval,reduceCtorEq,Nat.reduceEqDiff,rqs,polys_len,ilims_len];refine aloop_nil 7 7 3 1 (by simp (disch:=omega) only[wt,seval,reduceCtorEq,Nat.reduceEqDiff,rqs,polys_len,ilims_len]) (λf H=>∃(i st:Nat),i<=ps.length/\f 17=.iv (.int .i64 i)/\f 15=.iv (.sl (polys ps))/\f 16=.iv (.int .i64 ps.length)/\f 3=.hp 3 1 0 0/\H 3=.blk false 1 31 3 [qrow x]/\f 7=.hs 7 st/\H 7=.blk false st 3 1 (ilims ((ps.map λp=>sgv p x).take i))) (λf H=>(ps.length-intAt f 17).toNat) ?_ ?_
 .refine⟨0,1,by omega,?_⟩;simp (disch:=omega) only[wt,seval,reduceCtorEq,Nat.reduceEqDiff,rqs,polys_len,ilims_len,ghostF,ghostH,List.take_zero,show ilims []=[] from rfl]
 rintro f H ⟨i,st,hi,hF⟩;rw[intAt_of hF.1];simp (disch:=omega) only[wt,seval,reduceCtorEq,Nat.reduceEqDiff,rqs,polys_len,ilims_len,hF];refine if_by (λhlt=>?_) (λhlt=>?_)
 .have hlt':i<ps.length:=by omega
  have hq:=im_len (λp=>sgv p x) ps hi;have e:=im_snoc (λp=>sgv p x) ps hlt';have z:=esign_ok (ps.getD i []) x ((h _ (psm hlt')).mono (by omega) (by omega)) (hx.mono (by omega)) h0;have hgt:=polys_at hlt';simp (disch:=omega) only[wt,seval,reduceCtorEq,Nat.reduceEqDiff,rqs,polys_len,ilims_len,hF,hq,hgt];refine call_by (z) (by first|rfl|(simp only[tocvs,tocv,toboxes,tobox,updH_at,Nat.reduceEqDiff,↓reduceIte,hF,hq,hgt];rfl)) (by simp) ?_;simp (disch:=omega) only[wt,seval,reduceCtorEq,Nat.reduceEqDiff,rqs,polys_len,ilims_len,hF,hq,hgt];refine⟨⟨i+1,st+1,by omega,?_⟩,by omega⟩;rw[<-e]
  (repeat' apply And.intro)<;>first|rfl|omega
 .obtain rfl:i=ps.length:=by omega
  rw[im_all]at hF;simp (disch:=omega) only[wt,seval,reduceCtorEq,Nat.reduceEqDiff,rqs,polys_len,ilims_len,hF]
  try rfl
theorem eSigns_bad (ps:List (List RI))(x:RQ)(hx:SzQ 200 x)(h0:nv x.2=0):AC Tryz.prog 13 [.iv (.sl (polys ps)),cqq x] none [.iv (.sl []),ci 1]:=by
 have ck:=qcheck_bad x ⟨Nat.le_trans hx.2.1 (by omega),hx.2.2⟩ h0;refine AC.by_walk (rs:=[.tmp 4,.tmp 5]) ords Tryz.func13 (by rfl) (by rfl) (by rfl) (by rfl) (by rfl) ?_;simp (disch:=omega) only[wt,seval,reduceCtorEq,Nat.reduceEqDiff,rqs,polys_len,ilims_len];refine call_by (ck) (by rfl) (by simp) ?_;simp (disch:=omega) only[wt,seval,reduceCtorEq,Nat.reduceEqDiff,rqs,polys_len,ilims_len]
 try rfl
end Go.Proofs.YtnjaeokkfbihlaaGreat

set_option linter.unusedSimpArgs false
set_option linter.unusedVariables false
namespace Go.Proofs.YtnjaeokkfbihlaaGreat
open Go Go.Proofs Go.AL
theorem hSignsFar_v (ps:List (List RI))(b:Bool)(hl:ps.length<=1000)(h:∀p∈ps,RP 40 200 p):AC Tryz.prog 16 [.iv (.sl (polys ps)),cb b] none [cis (ps.map λp=>sfar (pv p) b)]:=by
 refine AC.by_walk (rs:=[.tmp 4]) ords Tryz.func16 (by rfl) (by rfl) (by rfl) (by rfl) (by rfl) ?_;simp (disch:=omega) only[wt,seval,reduceCtorEq,Nat.reduceEqDiff,rqs,polys_len,ilims_len,case12_A,case12_B,case12_X,case12_Y,ints_two];refine aloop_nil 5 21 3 1 (by simp (disch:=omega) only[wt,seval,reduceCtorEq,Nat.reduceEqDiff,rqs,polys_len,ilims_len,case12_A,case12_B,case12_X,case12_Y,ints_two]) (λf H=>∃(i st:Nat),i<=ps.length/\f 6=.iv (.int .i64 i)/\f 0=.iv (.sl (polys ps))/\f 1=.iv (.bool b)/\f 5=.hs 21 st/\H 21=.blk false st 3 1 (ilims ((ps.map λp=>sfar (pv p) b).take i))) (λf H=>(ps.length-intAt f 6).toNat) ?_ ?_
 .refine⟨0,1,by omega,?_⟩;simp (disch:=omega) only[wt,seval,reduceCtorEq,Nat.reduceEqDiff,rqs,polys_len,ilims_len,case12_A,case12_B,case12_X,case12_Y,ints_two,ghostF,ghostH,List.take_zero,show ilims []=[] from rfl]
 rintro f H ⟨i,st,hi,hF⟩;rw[intAt_of hF.1];simp (disch:=omega) only[wt,seval,reduceCtorEq,Nat.reduceEqDiff,rqs,polys_len,ilims_len,case12_A,case12_B,case12_X,case12_Y,ints_two,hF];refine if_by (λhlt=>?_) (λhlt=>?_)
 .have hlt':i<ps.length:=by omega
  have hq:=im_len (λp=>sfar (pv p) b) ps hi;have e:=im_snoc (λp=>sfar (pv p) b) ps hlt';have z:=hSignFar_ok (ps.getD i []) b (h _ (psm hlt'));have hgt:=polys_at hlt';simp (disch:=omega) only[wt,seval,reduceCtorEq,Nat.reduceEqDiff,rqs,polys_len,ilims_len,case12_A,case12_B,case12_X,case12_Y,ints_two,hF,hq,hgt];refine call_by (z) (by first|rfl|(simp only[tocvs,tocv,toboxes,tobox,updH_at,Nat.reduceEqDiff,↓reduceIte,hF,hq,hgt];rfl)) (by simp) ?_;simp (disch:=omega) only[wt,seval,reduceCtorEq,Nat.reduceEqDiff,rqs,polys_len,ilims_len,case12_A,case12_B,case12_X,case12_Y,ints_two,hF,hq,hgt];refine⟨⟨i+1,st+1,by omega,?_⟩,by omega⟩;rw[<-e]
  (repeat' apply And.intro)<;>first|rfl|omega
 .obtain rfl:i=ps.length:=by omega
  rw[im_all]at hF;simp (disch:=omega) only[wt,seval,reduceCtorEq,Nat.reduceEqDiff,rqs,polys_len,ilims_len,case12_A,case12_B,case12_X,case12_Y,ints_two,hF]
  try rfl
theorem hSigns_v (ps:List (List RI))(x:RQ)(hl:ps.length<=1000)(h:∀p∈ps,RP 40 200 p)(hx:SzQ 200 x)(h0:nv x.2≠0):AC Tryz.prog 12 [.iv (.sl (polys ps)),cqq x] none [cis (ps.map λp=>sgv p x),ci 0]:=by
 have o:=hok_ok x ⟨Nat.le_trans hx.2.1 (by omega),hx.2.2⟩;rw[decide_eq_true h0]at o;refine AC.by_walk (rs:=[.tmp 4,.tmp 5]) ords Tryz.func12 (by rfl) (by rfl) (by rfl) (by rfl) (by rfl) ?_;simp (disch:=omega) only[wt,seval,reduceCtorEq,Nat.reduceEqDiff,rqs,polys_len,ilims_len,case12_A,case12_B,case12_X,case12_Y,ints_two];refine call_by (o) (by rfl) (by simp) ?_;simp (disch:=omega) only[wt,seval,reduceCtorEq,Nat.reduceEqDiff,rqs,polys_len,ilims_len,case12_A,case12_B,case12_X,case12_Y,ints_two];refine aloop_nil 6 31 3 1 (by simp (disch:=omega) only[wt,seval,reduceCtorEq,Nat.reduceEqDiff,rqs,polys_len,ilims_len,case12_A,case12_B,case12_X,case12_Y,ints_two]) (λf H=>∃(i st s3:Nat),i<=ps.length/\f 7=.iv (.int .i64 i)/\f 0=.iv (.sl (polys ps))/\f 3=.hp 3 s3 0 0/\H 3=.blk false s3 31 3 [qrow x]/\f 6=.hs 31 st/\H 31=.blk false st 3 1 (ilims ((ps.map λp=>sgv p x).take i))) (λf H=>(ps.length-intAt f 7).toNat) ?_ ?_
 .refine⟨0,1,1,by omega,?_⟩;simp (disch:=omega) only[wt,seval,reduceCtorEq,Nat.reduceEqDiff,rqs,polys_len,ilims_len,case12_A,case12_B,case12_X,case12_Y,ints_two,ghostF,ghostH,List.take_zero,show ilims []=[] from rfl]
 rintro f H ⟨i,st,s3,hi,hF⟩;rw[intAt_of hF.1];simp (disch:=omega) only[wt,seval,reduceCtorEq,Nat.reduceEqDiff,rqs,polys_len,ilims_len,case12_A,case12_B,case12_X,case12_Y,ints_two,hF];refine if_by (λhlt=>?_) (λhlt=>?_)
 .have hlt':i<ps.length:=by omega
  have hq:=im_len (λp=>sgv p x) ps hi;have e:=im_snoc (λp=>sgv p x) ps hlt';have z:=hSign_ok (ps.getD i []) x (h _ (psm hlt')) hx h0;have hgt:=polys_at hlt';simp (disch:=omega) only[wt,seval,reduceCtorEq,Nat.reduceEqDiff,rqs,polys_len,ilims_len,case12_A,case12_B,case12_X,case12_Y,ints_two,hF,hq,hgt];refine .inl ⟨tmps_by (by kernel_rfl),?_⟩;refine call_by (z) (by first|rfl|(simp only[tocvs,tocv,toboxes,tobox,updH_at,Nat.reduceEqDiff,↓reduceIte,hF,hq,hgt];rfl)) (by simp) ?_;simp (disch:=omega) only[wt,seval,reduceCtorEq,Nat.reduceEqDiff,rqs,polys_len,ilims_len,case12_A,case12_B,case12_X,case12_Y,ints_two,hF,hq,hgt]
  first|exact log_by (by kernel_rfl)|refine⟨log_by (by kernel_rfl),?_⟩
  refine⟨⟨i+1,st+1,s3,by omega,?_⟩,by omega⟩;rw[<-e]
  (repeat' apply And.intro)<;>first|rfl|omega
 .obtain rfl:i=ps.length:=by omega
  rw[im_all]at hF;simp (disch:=omega) only[wt,seval,reduceCtorEq,Nat.reduceEqDiff,rqs,polys_len,ilims_len,case12_A,case12_B,case12_X,case12_Y,ints_two,hF]
  try rfl
theorem hSigns_bad (ps:List (List RI))(x:RQ)(hx:SzQ 200 x)(h0:nv x.2=0):AC Tryz.prog 12 [.iv (.sl (polys ps)),cqq x] none [.iv (.sl []),ci 1]:=by
 have o:=hok_ok x ⟨Nat.le_trans hx.2.1 (by omega),hx.2.2⟩;rw[decide_eq_false (λh=>h h0)]at o;refine AC.by_walk (rs:=[.tmp 4,.tmp 5]) ords Tryz.func12 (by rfl) (by rfl) (by rfl) (by rfl) (by rfl) ?_;simp (disch:=omega) only[wt,seval,reduceCtorEq,Nat.reduceEqDiff,rqs,polys_len,ilims_len,case12_A,case12_B,case12_X,case12_Y,ints_two];refine call_by (o) (by rfl) (by simp) ?_;simp (disch:=omega) only[wt,seval,reduceCtorEq,Nat.reduceEqDiff,rqs,polys_len,ilims_len,case12_A,case12_B,case12_X,case12_Y,ints_two]
 try rfl
theorem ints12_ok (a:List Int)(hl:a.length<=1000):AC Tryz.prog 14 [cis a,cis a] none [cb true]:=by
 refine AC.by_walk (rs:=[.tmp 4]) ords Tryz.func14 (by rfl) (by rfl) (by rfl) (by rfl) (by rfl) ?_;simp (disch:=omega) only[wt,seval,reduceCtorEq,Nat.reduceEqDiff,rqs,polys_len,ilims_len,case12_A,case12_B,case12_X,case12_Y,ints_two];refine aloop_by (λf H=>∃(i:Nat),i<=a.length/\f 13=.iv (.int .i64 i)/\f 12=.iv (.int .i64 a.length)/\f 0=.iv (.sl (ilims a))/\f 1=.iv (.sl (ilims a))) (λf H=>(a.length-intAt f 13).toNat) ?_ ?_
 .refine⟨0,by omega,?_⟩;simp (disch:=omega) only[wt,seval,reduceCtorEq,Nat.reduceEqDiff,rqs,polys_len,ilims_len,case12_A,case12_B,case12_X,case12_Y,ints_two]
 rintro f H ⟨i,hi,hF⟩;rw[intAt_of hF.1];simp (disch:=omega) only[wt,seval,reduceCtorEq,Nat.reduceEqDiff,rqs,polys_len,ilims_len,case12_A,case12_B,case12_X,case12_Y,ints_two,hF];refine if_by (λhlt=>?_) (λhlt=>?_)
 .have hlt':i<a.length:=by omega
  have hgt:=ilims_at hlt';simp (disch:=omega) only[wt,seval,reduceCtorEq,Nat.reduceEqDiff,rqs,polys_len,ilims_len,case12_A,case12_B,case12_X,case12_Y,ints_two,hF,hgt];refine .inl ⟨tmps_by (by kernel_rfl),?_⟩
  first|exact log_by (by kernel_rfl)|refine⟨log_by (by kernel_rfl),?_⟩
  refine⟨⟨i+1,by omega,?_⟩,by omega⟩
  (repeat' apply And.intro)<;>first|rfl|omega
 .simp (disch:=omega) only[wt,seval,reduceCtorEq,Nat.reduceEqDiff,rqs,polys_len,ilims_len,case12_A,case12_B,case12_X,case12_Y,ints_two,hF]
  try rfl
theorem rng5:List.range 5=[0,1,2,3,4]:=rfl
theorem neg_rp {p:List RI}(h:RP 40 200 p):RP 40 200 (cn (pscale (-1) (pv p))):=rp_cn ⟨by
 have:=h.pv.1;simpa [pscale] using this,λz hz=>by
 obtain⟨y,hy,rfl⟩:=List.mem_map.1 hz;rw[show y * -1 = -y by omega,zl_neg];exact h.pv.2 y hy⟩
theorem signs12_ok (x:C12)(h:Ok12 x)(b:Bool):AC Tryz.prog 3 [.agg (case12 x),cb b] none [cb true]:=by
 have g:=great12_ok x h;cases hg:great12 x with
 |true =>
  rw[hg]at g;refine AC.by_walk (rs:=[.tmp 4]) ords Tryz.func3 (by rfl) (by rfl) (by rfl) (by rfl) (by rfl) ?_;simp (disch:=omega) only[wt,seval,reduceCtorEq,Nat.reduceEqDiff,rqs,polys_len,ilims_len,case12_A,case12_B,case12_X,case12_Y,ints_two];refine call_by (awake12_ok) (by rfl) (by simp) ?_;simp (disch:=omega) only[wt,seval,reduceCtorEq,Nat.reduceEqDiff,rqs,polys_len,ilims_len,case12_A,case12_B,case12_X,case12_Y,ints_two];refine call_by (g) (by rfl) (by simp) ?_;simp (disch:=omega) only[wt,seval,reduceCtorEq,Nat.reduceEqDiff,rqs,polys_len,ilims_len,case12_A,case12_B,case12_X,case12_Y,ints_two]
  try rfl
 |false =>
  rw[hg]at g;have f:=fit12 h hg;have hps:∀p∈[x.P,x.Q,cn (pscale (-1) (pv x.P)),[],x.P],RP 40 200 p:=λp hp=>by
   simp only[List.mem_cons,List.not_mem_nil,or_false]at hp;rcases hp with rfl|rfl|rfl|rfl|rfl
   .exact f.P
   .exact f.Q
   .exact neg_rp f.P
   .exact⟨Nat.zero_le _,λc hc=>nomatch hc⟩
   .exact f.P
  have ng:=sneg_ok x.P (f.P.mono (by omega) (by omega));have f1:=esfar_ok x.P b (f.P.mono (by omega) (by omega));have f2:=hSignFar_ok x.P b f.P;have k1:=eSignsFar_v _ b (by simp) hps;have k2:=hSignsFar_v _ b (by simp) hps;have i2:=ints12_ok ([x.P,x.Q,cn (pscale (-1) (pv x.P)),[],x.P].map λp=>sfar (pv p) b) (by simp);generalize ([x.P,x.Q,cn (pscale (-1) (pv x.P)),[],x.P].map λp=>sfar (pv p) b)=fv at k1 k2 i2;generalize sfar (pv x.P) b=fv0 at f1 f2;by_cases h0:nv x.X.2=0
  .have s1:=hSign_bad x.P x.X f.P f.X h0;have s2:=eSign_bad x.P x.X ⟨Nat.le_trans f.X.2.1 (by omega),f.X.2.2⟩ h0;have l1:=hSigns_bad [x.P,x.Q,cn (pscale (-1) (pv x.P)),[],x.P] x.X f.X h0;have l2:=eSigns_bad [x.P,x.Q,cn (pscale (-1) (pv x.P)),[],x.P] x.X f.X h0;have i1:=ints12_ok [] (by simp);have p1:=plain12_ok 1 1;rw[decide_eq_true rfl]at p1;refine AC.by_walk (rs:=[.tmp 4]) ords Tryz.func3 (by rfl) (by rfl) (by rfl) (by rfl) (by rfl) ?_;simp (disch:=omega) only[wt,seval,reduceCtorEq,Nat.reduceEqDiff,rqs,polys_len,ilims_len,case12_A,case12_B,case12_X,case12_Y,ints_two];refine call_by (awake12_ok) (by rfl) (by simp) ?_;simp (disch:=omega) only[wt,seval,reduceCtorEq,Nat.reduceEqDiff,rqs,polys_len,ilims_len,case12_A,case12_B,case12_X,case12_Y,ints_two];refine call_by (g) (by rfl) (by simp) ?_;simp (disch:=omega) only[wt,seval,reduceCtorEq,Nat.reduceEqDiff,rqs,polys_len,ilims_len,case12_A,case12_B,case12_X,case12_Y,ints_two];refine call_by (s1) (by rfl) (by simp) ?_;simp (disch:=omega) only[wt,seval,reduceCtorEq,Nat.reduceEqDiff,rqs,polys_len,ilims_len,case12_A,case12_B,case12_X,case12_Y,ints_two];refine call_by (s2) (by rfl) (by simp) ?_;simp (disch:=omega) only[wt,seval,reduceCtorEq,Nat.reduceEqDiff,rqs,polys_len,ilims_len,case12_A,case12_B,case12_X,case12_Y,ints_two];refine .inl ⟨tmps_by (by kernel_rfl),?_⟩;refine call_by (p1) (by rfl) (by simp) ?_;simp (disch:=omega) only[wt,seval,reduceCtorEq,Nat.reduceEqDiff,rqs,polys_len,ilims_len,case12_A,case12_B,case12_X,case12_Y,ints_two];refine call_by (f1) (by rfl) (by simp) ?_;simp (disch:=omega) only[wt,seval,reduceCtorEq,Nat.reduceEqDiff,rqs,polys_len,ilims_len,case12_A,case12_B,case12_X,case12_Y,ints_two];refine call_by (f2) (by rfl) (by simp) ?_;simp (disch:=omega) only[wt,seval,reduceCtorEq,Nat.reduceEqDiff,rqs,polys_len,ilims_len,case12_A,case12_B,case12_X,case12_Y,ints_two]
   first|exact log_by (by kernel_rfl)|refine⟨log_by (by kernel_rfl),?_⟩
   refine .inl ⟨tmps_by (by kernel_rfl),?_⟩;refine call_by (ng) (by first|rfl|(simp only[tocvs,tocv,toboxes,tobox,updH_at,Nat.reduceEqDiff,↓reduceIte,rng5];rfl)) (by simp) ?_;simp (disch:=omega) only[wt,seval,reduceCtorEq,Nat.reduceEqDiff,rqs,polys_len,ilims_len,case12_A,case12_B,case12_X,case12_Y,ints_two,rng5]
   first|exact log_by (by kernel_rfl)|refine⟨log_by (by kernel_rfl),?_⟩
   refine call_by (l1) (by rfl) (by simp) ?_;simp (disch:=omega) only[wt,seval,reduceCtorEq,Nat.reduceEqDiff,rqs,polys_len,ilims_len,case12_A,case12_B,case12_X,case12_Y,ints_two];refine call_by (l2) (by rfl) (by simp) ?_;simp (disch:=omega) only[wt,seval,reduceCtorEq,Nat.reduceEqDiff,rqs,polys_len,ilims_len,case12_A,case12_B,case12_X,case12_Y,ints_two];refine call_by (p1) (by rfl) (by simp) ?_;simp (disch:=omega) only[wt,seval,reduceCtorEq,Nat.reduceEqDiff,rqs,polys_len,ilims_len,case12_A,case12_B,case12_X,case12_Y,ints_two];refine call_by (i1) (by rfl) (by simp) ?_;simp (disch:=omega) only[wt,seval,reduceCtorEq,Nat.reduceEqDiff,rqs,polys_len,ilims_len,case12_A,case12_B,case12_X,case12_Y,ints_two];refine call_by (k1) (by rfl) (by simp) ?_;simp (disch:=omega) only[wt,seval,reduceCtorEq,Nat.reduceEqDiff,rqs,polys_len,ilims_len,case12_A,case12_B,case12_X,case12_Y,ints_two];refine call_by (k2) (by rfl) (by simp) ?_;simp (disch:=omega) only[wt,seval,reduceCtorEq,Nat.reduceEqDiff,rqs,polys_len,ilims_len,case12_A,case12_B,case12_X,case12_Y,ints_two];refine call_by (i2) (by rfl) (by simp) ?_;simp (disch:=omega) only[wt,seval,reduceCtorEq,Nat.reduceEqDiff,rqs,polys_len,ilims_len,case12_A,case12_B,case12_X,case12_Y,ints_two]
   try rfl
  .have s1:=hSign_ok x.P x.X f.P f.X h0;have s2:=eSign_ok x.P x.X (f.P.mono (by omega) (by omega)) (f.X.mono (by omega)) h0;have l1:=hSigns_v [x.P,x.Q,cn (pscale (-1) (pv x.P)),[],x.P] x.X (by simp) hps f.X h0;have l2:=eSigns_v [x.P,x.Q,cn (pscale (-1) (pv x.P)),[],x.P] x.X (by simp) hps f.X h0;have i1:=ints12_ok ([x.P,x.Q,cn (pscale (-1) (pv x.P)),[],x.P].map λp=>sgv p x.X) (by simp);generalize ([x.P,x.Q,cn (pscale (-1) (pv x.P)),[],x.P].map λp=>sgv p x.X)=sv at l1 l2 i1;rw[show sgq (evq (qp (pv x.P)) (qv x.X))=sgv x.P x.X from rfl]at s2;generalize sgv x.P x.X=sv0 at s1 s2;have p1:=plain12_ok 0 0;rw[decide_eq_true rfl]at p1;refine AC.by_walk (rs:=[.tmp 4]) ords Tryz.func3 (by rfl) (by rfl) (by rfl) (by rfl) (by rfl) ?_;simp (disch:=omega) only[wt,seval,reduceCtorEq,Nat.reduceEqDiff,rqs,polys_len,ilims_len,case12_A,case12_B,case12_X,case12_Y,ints_two];refine call_by (awake12_ok) (by rfl) (by simp) ?_;simp (disch:=omega) only[wt,seval,reduceCtorEq,Nat.reduceEqDiff,rqs,polys_len,ilims_len,case12_A,case12_B,case12_X,case12_Y,ints_two];refine call_by (g) (by rfl) (by simp) ?_;simp (disch:=omega) only[wt,seval,reduceCtorEq,Nat.reduceEqDiff,rqs,polys_len,ilims_len,case12_A,case12_B,case12_X,case12_Y,ints_two];refine call_by (s1) (by rfl) (by simp) ?_;simp (disch:=omega) only[wt,seval,reduceCtorEq,Nat.reduceEqDiff,rqs,polys_len,ilims_len,case12_A,case12_B,case12_X,case12_Y,ints_two];refine call_by (s2) (by rfl) (by simp) ?_;simp (disch:=omega) only[wt,seval,reduceCtorEq,Nat.reduceEqDiff,rqs,polys_len,ilims_len,case12_A,case12_B,case12_X,case12_Y,ints_two];refine .inl ⟨tmps_by (by kernel_rfl),?_⟩;refine call_by (p1) (by rfl) (by simp) ?_;simp (disch:=omega) only[wt,seval,reduceCtorEq,Nat.reduceEqDiff,rqs,polys_len,ilims_len,case12_A,case12_B,case12_X,case12_Y,ints_two];refine call_by (f1) (by rfl) (by simp) ?_;simp (disch:=omega) only[wt,seval,reduceCtorEq,Nat.reduceEqDiff,rqs,polys_len,ilims_len,case12_A,case12_B,case12_X,case12_Y,ints_two];refine call_by (f2) (by rfl) (by simp) ?_;simp (disch:=omega) only[wt,seval,reduceCtorEq,Nat.reduceEqDiff,rqs,polys_len,ilims_len,case12_A,case12_B,case12_X,case12_Y,ints_two]
   first|exact log_by (by kernel_rfl)|refine⟨log_by (by kernel_rfl),?_⟩
   refine .inl ⟨tmps_by (by kernel_rfl),?_⟩;refine call_by (ng) (by first|rfl|(simp only[tocvs,tocv,toboxes,tobox,updH_at,Nat.reduceEqDiff,↓reduceIte,rng5];rfl)) (by simp) ?_;simp (disch:=omega) only[wt,seval,reduceCtorEq,Nat.reduceEqDiff,rqs,polys_len,ilims_len,case12_A,case12_B,case12_X,case12_Y,ints_two,rng5]
   first|exact log_by (by kernel_rfl)|refine⟨log_by (by kernel_rfl),?_⟩
   refine call_by (l1) (by rfl) (by simp) ?_;simp (disch:=omega) only[wt,seval,reduceCtorEq,Nat.reduceEqDiff,rqs,polys_len,ilims_len,case12_A,case12_B,case12_X,case12_Y,ints_two];refine call_by (l2) (by rfl) (by simp) ?_;simp (disch:=omega) only[wt,seval,reduceCtorEq,Nat.reduceEqDiff,rqs,polys_len,ilims_len,case12_A,case12_B,case12_X,case12_Y,ints_two];refine call_by (p1) (by rfl) (by simp) ?_;simp (disch:=omega) only[wt,seval,reduceCtorEq,Nat.reduceEqDiff,rqs,polys_len,ilims_len,case12_A,case12_B,case12_X,case12_Y,ints_two];refine call_by (i1) (by rfl) (by simp) ?_;simp (disch:=omega) only[wt,seval,reduceCtorEq,Nat.reduceEqDiff,rqs,polys_len,ilims_len,case12_A,case12_B,case12_X,case12_Y,ints_two];refine call_by (k1) (by rfl) (by simp) ?_;simp (disch:=omega) only[wt,seval,reduceCtorEq,Nat.reduceEqDiff,rqs,polys_len,ilims_len,case12_A,case12_B,case12_X,case12_Y,ints_two];refine call_by (k2) (by rfl) (by simp) ?_;simp (disch:=omega) only[wt,seval,reduceCtorEq,Nat.reduceEqDiff,rqs,polys_len,ilims_len,case12_A,case12_B,case12_X,case12_Y,ints_two];refine call_by (i2) (by rfl) (by simp) ?_;simp (disch:=omega) only[wt,seval,reduceCtorEq,Nat.reduceEqDiff,rqs,polys_len,ilims_len,case12_A,case12_B,case12_X,case12_Y,ints_two]
   try rfl
theorem esigns_law (P Q:List RI)(R S:List RQ)(A B:RI)(X Y:RQ)(N:Int)(b:Bool)(hP:Raw P)(hQ:Raw Q)(hR:RawQ R)(hS:RawQ S)(hA:Sz 9223372036854775807 A)(hB:Sz 9223372036854775807 B)(hX:SzQ 9223372036854775807 X)(hY:SzQ 9223372036854775807 Y)(hN1 : -9223372036854775808<=N)(hN2:N<=9223372036854775807) :
  AC Tryz.prog 3 [.agg (case12 ⟨P,Q,R,S,A,B,X,Y,N⟩),cb b] none [cb true]:=signs12_ok _ (ok12 P Q R S A B X Y N hP hQ hR hS hA hB hX hY hN1 hN2) b
end Go.Proofs.YtnjaeokkfbihlaaGreat
