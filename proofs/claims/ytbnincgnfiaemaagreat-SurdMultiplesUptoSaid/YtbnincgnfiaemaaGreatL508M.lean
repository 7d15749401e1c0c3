/-
 Contracts of the functions that the law reaches.
-/
import Derived.Test.YtbnincgnfiaemaaGreatL502M
import Derived.Test.YtbnincgnfiaemaaGreatL59M
import Derived.Test.YtbnincgnfiaemaaGreatAbsYM
import Derived.Test.YtbnincgnfiaemaaGreatL298M
set_option maxHeartbeats 2000000
namespace Go.Proofs.YtbnincgnfiaemaaGreat
open Go Go.Proofs Go.AL
set_option linter.unusedSimpArgs false
set_option linter.unusedVariables false
theorem samenat_eq (l:List Nat)(h:l.length<=2^40):AC Tryz.prog 161 [cl l,cl l] none [cb true]:=by
 refine AC.by_walk (rs:=[.tmp 4]) ords Tryz.func161 (by rfl) (by rfl) (by rfl) (by rfl) (by rfl) ?_;simp (disch:=omega) only[wt,seval,reduceCtorEq,Nat.reduceEqDiff];refine aloop_by (λf H=>∃(i:Nat),i<=l.length/\f 13=.iv (.int .i64 i)/\f 0=.iv (.sl (lims l))/\f 1=.iv (.sl (lims l))/\f 12=.iv (.int .i64 l.length)) (λf H=>(l.length-intAt f 13).toNat) ?_ ?_
 .refine⟨0,by omega,?_⟩;simp (disch:=omega) only[wt,seval,reduceCtorEq,Nat.reduceEqDiff]
 rintro f H ⟨i,hi,hF⟩;rw[intAt_of hF.1];simp (disch:=omega) only[wt,seval,reduceCtorEq,Nat.reduceEqDiff,hF];refine if_by (λhlt=>?_) (λhlt=>?_)
 .simp (disch:=omega) only[wt,seval,reduceCtorEq,Nat.reduceEqDiff,hF];refine .inl ⟨tmps_by (by kernel_rfl),?_⟩
  first|exact log_by (by kernel_rfl)|refine⟨log_by (by kernel_rfl),?_⟩
  refine⟨⟨i+1,by omega,by omega⟩,by omega⟩
 .simp (disch:=omega) only[wt,seval,reduceCtorEq,Nat.reduceEqDiff,hF]
  try rfl
theorem sameint_eq (c:RI)(h:c.2.length<=2^40):AC Tryz.prog 95 [cr c,cr c] none [cb true]:=by
 have s:=samenat_eq c.2 h;have e:(c.1 == c.1)=true:=by simp
 refine AC.by_walk (rs:=[.tmp 4]) ords Tryz.func95 (by rfl) (by rfl) (by rfl) (by rfl) (by rfl) ?_;simp (disch:=omega) only[wt,seval,reduceCtorEq,Nat.reduceEqDiff,e];refine call_by (s) (by first|rfl|(simp only[tocvs,tocv,toboxes,tobox,updH_at,Nat.reduceEqDiff,↓reduceIte,e];rfl)) (by simp) ?_;simp (disch:=omega) only[wt,seval,reduceCtorEq,Nat.reduceEqDiff,e]
theorem samez_eq (p:List RI)(hl:p.length<=2^40)(h:∀c∈p,c.2.length<=2^40):AC Tryz.prog 38 [cw p,cw p] none [cb true]:=by
 refine AC.by_walk (rs:=[.tmp 4]) ords Tryz.func38 (by rfl) (by rfl) (by rfl) (by rfl) (by rfl) ?_;simp (disch:=omega) only[wt,seval,reduceCtorEq,Nat.reduceEqDiff];refine aloop_by (λf H=>∃(i:Nat),i<=p.length/\f 13=.iv (.int .i64 i)/\f 0=.iv (.sl (raws p))/\f 1=.iv (.sl (raws p))/\f 12=.iv (.int .i64 p.length)) (λf H=>(p.length-intAt f 13).toNat) ?_ ?_
 .refine⟨0,by omega,?_⟩;simp (disch:=omega) only[wt,seval,reduceCtorEq,Nat.reduceEqDiff]
 rintro f H ⟨i,hi,hF⟩;rw[intAt_of hF.1];simp (disch:=omega) only[wt,seval,reduceCtorEq,Nat.reduceEqDiff,hF];refine if_by (λhlt=>?_) (λhlt=>?_)
 .have s:=sameint_eq (p.getD i (false,[])) (h _ (by
   have hi':i<p.length:=by omega
   rw[List.getD,List.getElem?_eq_getElem hi'];exact List.getElem_mem hi'))
  simp (disch:=omega) only[wt,seval,reduceCtorEq,Nat.reduceEqDiff,hF];refine .inl ⟨tmps_by (by kernel_rfl),?_⟩;refine call_by (s) (by first|rfl|(simp only[tocvs,tocv,toboxes,tobox,updH_at,Nat.reduceEqDiff,↓reduceIte,hF];rfl)) (by simp) ?_;simp (disch:=omega) only[wt,seval,reduceCtorEq,Nat.reduceEqDiff,hF]
  first|exact log_by (by kernel_rfl)|refine⟨log_by (by kernel_rfl),?_⟩
  refine⟨⟨i+1,by omega,by omega⟩,by omega⟩
 .simp (disch:=omega) only[wt,seval,reduceCtorEq,Nat.reduceEqDiff,hF]
  try rfl
theorem nv_zero:∀l:List Nat,nv l=0↔∀j,j<l.length->l.getD j 0=0:=λl=>by
 induction l with
 |nil=>simp[nv,vl]
 |cons a l ih =>
  have e:nv (a::l)=a+W*nv l:=rfl;have hW:(W:Nat)≠0:=by decide
  constructor
  .intro h j hj;have h1:a=0:=by omega
   have h2:nv l=0:=by
    rcases Nat.mul_eq_zero.mp (show W*nv l=0 by omega) with h|h
    .exact absurd h hW
    .exact h
   cases j with
   |zero=>exact h1
   |succ j=>exact ih.1 h2 j (by simpa using hj)
  .intro h;have h1:a=0:=h 0 (by simp);have h2:nv l=0:=ih.2 λj hj=>h (j+1) (by simpa using hj)
   rw[e,h1,h2];simp
def cAt (p:List RI)(i:Nat):RI:=p.getD i (false,[])
theorem pv_zero {p:List RI}:tz (pv p)=0↔∀i,i<p.length->nv (cAt p i).2=0:=by
 have e:∀i,i<p.length->cf (pv p) i=iv (cAt p i):=λi hi=>by simp[cf,pv,cAt,List.getD,hi]
 have z:∀c:RI,iv c=0↔nv c.2=0:=λc=>by unfold iv;split<;>omega
 rw[tz_zero_iff];constructor
 .intro h i hi;have:=h i;rw[e i hi]at this;exact(z _).mp this
 .intro h k;by_cases hk:k<p.length
  .rw[e k hk];exact(z _).mpr (h k hk)
  .simp[cf,pv,List.getD,hk]
set_option maxRecDepth 100000 in
theorem iszero_ok (p:List RI)(hl:p.length<=2^40)(h:∀i,i<p.length->(cAt p i).2.length<=2^40):AC Tryz.prog 102 [cw p] none [cb (decide (tz (pv p)=0))]:=by
 have hz:=pv_zero (p:=p);refine AC.by_walk (rs:=[.tmp 2]) ords Tryz.func102 (by rfl) (by rfl) (by rfl) (by rfl) (by rfl) ?_;simp (disch:=omega) only[wt,seval,reduceCtorEq,Nat.reduceEqDiff];refine aloop_by (λf H=>∃(i:Nat),i<=p.length/\(∀j,j<i->nv (cAt p j).2=0)/\f 9=.iv (.int .i64 i)/\f 7=.iv (.sl (raws p))/\f 8=.iv (.int .i64 p.length)) (λf H=>(p.length-intAt f 9).toNat) ?_ ?_
 .refine⟨0,by omega,λj hj=>by omega,?_⟩;simp (disch:=omega) only[wt,seval,reduceCtorEq,Nat.reduceEqDiff]
 rintro f H ⟨i,hi,hzi,hF⟩;rw[intAt_of hF.1];simp (disch:=omega) only[wt,seval,reduceCtorEq,Nat.reduceEqDiff,hF];refine if_by (λhlt=>?_) (λhlt=>?_)
 .have hli:=h i (by omega);obtain⟨c,hc⟩:∃c,c=cAt p i:=⟨_,rfl⟩;have hc2:p.getD i (false,[])=c:=hc.symm;rw[<-hc]at hli;simp (disch:=omega) only[wt,seval,reduceCtorEq,Nat.reduceEqDiff,hF,hc2];refine aloop_by (λf H=>∃(k:Nat),k<=c.2.length/\(∀j,j<k->c.2.getD j 0=0)/\f 16=.iv (.int .i64 k)/\f 14=.iv (.sl (lims c.2))/\f 15=.iv (.int .i64 c.2.length)/\f 9=.iv (.int .i64 i)/\f 7=.iv (.sl (raws p))/\f 8=.iv (.int .i64 p.length)) (λf H=>(c.2.length-intAt f 16).toNat) ?_ ?_
  .refine⟨0,by omega,λj hj=>by omega,?_⟩;simp (disch:=omega) only[wt,seval,reduceCtorEq,Nat.reduceEqDiff,hF]
  rintro f H ⟨k,hk,hzk,hF⟩;rw[intAt_of hF.1];simp (disch:=omega) only[wt,seval,reduceCtorEq,Nat.reduceEqDiff,hF];refine if_by (λhlk=>?_) (λhlk=>?_)
  .have hlk':k<c.2.length:=by omega
   by_cases hx:c.2.getD k 0=0
   .have hx':((c.2.getD k 0:Nat):Int)=0:=by omega
    simp (disch:=omega) only[wt,seval,reduceCtorEq,Nat.reduceEqDiff,hF,hx'];refine⟨⟨k+1,by omega,λj hj=>?_,by omega⟩,by omega⟩;rcases Nat.lt_or_ge j k with hj'|hj'
    .exact hzk j hj'
    .obtain rfl:j=k:=by omega
     exact hx
   .have hx':¬((c.2.getD k 0:Nat):Int)=0:=by omega
    have e:decide (tz (pv p)=0)=false:=decide_eq_false (λh=>hx ((nv_zero c.2).1 (by rw[hc];exact hz.mp h i (by omega)) k hlk'));rw[e];simp (disch:=omega) only[wt,seval,reduceCtorEq,Nat.reduceEqDiff,hF,hx']
    try rfl
  .have hn:nv c.2=0:=(nv_zero c.2).2 λj hj=>hzk j (by omega)
   simp (disch:=omega) only[wt,seval,reduceCtorEq,Nat.reduceEqDiff,hF];refine⟨⟨i+1,by omega,λj hj=>?_,by omega⟩,by omega⟩;rcases Nat.lt_or_ge j i with hj'|hj'
   .exact hzi j hj'
   .obtain rfl:j=i:=by omega
    rw[<-hc];exact hn
 .have e:decide (tz (pv p)=0)=true:=decide_eq_true (hz.mpr λj hj=>hzi j (by omega));rw[e];simp (disch:=omega) only[wt,seval,reduceCtorEq,Nat.reduceEqDiff,hF]
  try rfl
section
theorem ps_prodP_app:∀(L M:List (Nat×List Int)),ps (prodP (L++M))=ps (prodP L)*ps (prodP M)
 |[],M=>by rw[show prodP []=[1] from rfl,ps_one,PS.one_mul];rfl
 |x::L,M=>by rw[List.cons_append,prodP_cons,prodP_cons,ps_pmul,ps_pmul,ps_prodP_app L M,PS.mul_assoc]
theorem ps_prodF_app:∀(L M:List (Nat×List Int)),ps (prodF (L++M))=ps (prodF L)*ps (prodF M)
 |[],M=>by rw[show prodF []=[1] from rfl,ps_one,PS.one_mul];rfl
 |x::L,M=>by rw[List.cons_append,prodF_cons,prodF_cons,ps_pmul,ps_pmul,ps_prodF_app L M,PS.mul_assoc]
theorem prm_one:Prm [1]:=⟨by decide,by decide⟩
theorem prm_ppow {a:List Int}(h:Prm a):∀n,Prm (ppow a n)
 |0=>prm_one
 |n+1=>prm_cf (λk=>ps_eq (ps_psucc a n) k) (prm_mul (prm_ppow h n) h)
theorem prm_prodP:∀(L:List (Nat×List Int)),(∀x∈L,Prm x.2)->Prm (prodP L)
 |[],_=>prm_one
 |x::L,h=>prm_mul (prm_ppow (h x (by simp)) _) (prm_prodP L λy hy=>h y (by simp[hy]))
theorem prm_prodF:∀(L:List (Nat×List Int)),(∀x∈L,Prm x.2)->Prm (prodF L)
 |[],_=>prm_one
 |x::L,h=>prm_mul (h x (by simp)) (prm_prodF L λy hy=>h y (by simp[hy]))
def fAt (L:List (Nat×List Int))(i:Nat):Nat×List Int:=L.getD i (0,[])
theorem fAt_eq {L:List (Nat×List Int)}{i:Nat}(h:i<L.length):L=L.take i++fAt L i::L.drop (i+1)/\L.take (i+1)=L.take i++[fAt L i]/\fAt L i∈L:=by
 have e:fAt L i=L[i]:=by simp[fAt,List.getD,h]
 refine⟨?_,?_,by rw[e];exact List.getElem_mem h⟩
 .rw[e,<-List.drop_eq_getElem_cons h,List.take_append_drop]
 .rw[e,List.take_add_one,List.getElem?_eq_getElem h];rfl
section
variable {P:List Int} {S T U:Nat} {L:List (Nat×List Int)}
theorem Pts.prm (h:Pts P (wof P) L){x:Nat×List Int}(hx:x∈L):Prm x.2:=(h.mem x hx).2.2.1.resolve_left (by have:=(h.mem x hx).2.1;omega)
theorem Pts.prmT (h:Pts P (wof P) L){i:Nat}:∀x∈L.take i,Prm x.2:=λx hx=>h.prm (List.mem_of_mem_take hx)
def pAt (L:List (Nat×List Int))(i n:Nat):List Int:=pmul (prodP (L.take i)) (ppow (fAt L i).2 n)
theorem pAt_zero (i:Nat):ps (pAt L i 0)=ps (prodP (L.take i)):=by rw[pAt,ps_pmul,ps_ppow,PS.pw,PS.mul_one]
theorem pAt_succ (i n:Nat):ps (pmul (pAt L i n) (fAt L i).2)=ps (pAt L i (n+1)):=by
 rw[pAt,pAt,ps_pmul,ps_pmul,ps_pmul,ps_psucc,ps_pmul,PS.mul_assoc]
theorem pAt_full {i:Nat}(h:i<L.length):ps (pAt L i (fAt L i).1)=ps (prodP (L.take (i+1))):=by
 rw[(fAt_eq h).2.1,ps_prodP_app,pAt,ps_pmul]
 congr 1
 rw[prodP_cons,ps_pmul,show prodP []=[1] from rfl,ps_one,PS.mul_one]
theorem free_succ {i:Nat}(h:i<L.length):ps (pmul (prodF (L.take i)) (fAt L i).2)=ps (prodF (L.take (i+1))):=by
 rw[(fAt_eq h).2.1,ps_prodF_app,ps_pmul]
 congr 1
 rw[prodF_cons,ps_pmul,show prodF []=[1] from rfl,ps_one,PS.mul_one]
theorem Pts.pdv (h:Pts P (wof P) L){i n:Nat}(hi:i<L.length)(hn:n<=(fAt L i).1):Dv (pAt L i n) P:=by
 refine Dv.trans ?_ h.p.symm.dv;obtain⟨j,hj⟩:∃j,(fAt L i).1=n+j:=⟨(fAt L i).1-n,by omega⟩;refine .mul (S:=pmul (ppow (fAt L i).2 j) (prodP (L.drop (i+1)))) ?_
 conv=>lhs;rw[(fAt_eq hi).1]
 rw[ps_prodP_app,prodP_cons,ps_pmul,hj,pAt,ps_pmul,ps_pmul,ps_ppow,ps_ppow,ps_ppow,PS.pw_add]
 ac_rfl
theorem Pts.fdv (h:Pts P (wof P) L){i:Nat}(hi:i<L.length):Dv (pmul (prodF (L.take i)) (fAt L i).2) (wof P):=by
 refine Dv.trans ?_ h.w.symm.dv;refine .mul (S:=prodF (L.drop (i+1))) ?_
 conv=>lhs;rw[(fAt_eq hi).1]
 rw[ps_prodF_app,prodF_cons,ps_pmul,ps_pmul]
 ac_rfl
structure FA (P:List Int) (S T U:Nat) (L:List (Nat×List Int)) (i:Nat):Prop where
 m1:1<=(fAt L i).1
 mT:(fAt L i).1<=30
 t2:2<=tz (fAt L i).2
 tr:trimz (fAt L i).2=(fAt L i).2
 f:SBd (S+10*T) (fAt L i).2/\tz (fAt L i).2<=T/\tz (fAt L i).2<=U
 p:∀n,n<=(fAt L i).1->SBd (S+10*T) (pAt L i n)/\tz (pAt L i n)<=T
 w:SBd (S+10*T) (prodF (L.take i))/\tz (prodF (L.take i))<=T/\tz (prodF (L.take i))<=U
 sq:tz (gcdp (fAt L i).2 (pderiv (fAt L i).2))=1
 cop:tz (gcdp (prodF (L.take i)) (fAt L i).2)=1
theorem Pts.fa (E:Env P S T U)(h:Pts P (wof P) L){i:Nat}(hi:i<L.length):FA P S T U L i:=by
 have hx:=(fAt_eq hi).2.2;obtain⟨m1,t2,nf,tr⟩:=h.mem _ hx;have hWP:Dv (wof P) P:=(dv_l _ _).trans E.wg.dv;have w0:=(dv_tz hWP E.p0).1;have hw:tz (wof P)<=U:=E.w;have d1:Dv (fAt L i).2 (wof P):=(dv_r _ _).trans (h.fdv hi);have d2:Dv (prodF (L.take i)) (wof P):=(dv_l _ _).trans (h.fdv hi);have z1:=E.sz (d1.trans hWP) nf;have nw:Nf (prodF (L.take i)):=.inr (prm_prodF _ h.prmT);have z2:=E.sz (d2.trans hWP) nw;have le:=h.le hx;have:=E.t;have:=E.t30;refine⟨m1,by omega,t2,tr,⟨z1.1,z1.2.1,Nat.le_trans (dv_tz d1 w0).2 hw⟩,λn hn=>?_,⟨z2.1,z2.2.1,Nat.le_trans (dv_tz d2 w0).2 hw⟩,(h.sq.mono d1).gcd (by omega),h.sq.coprime z2.2.2 (h.fdv hi)⟩;have z3:=E.sz (h.pdv hi hn) (.inr (prm_mul (prm_prodP _ h.prmT) (prm_ppow (h.prm hx) n)));exact⟨z3.1,z3.2.1⟩
theorem Pts.all (h:Pts P (wof P) L):ps (prodP L)=ps (npr P)/\ps (prodF L)=ps (wof P) :=
 ⟨(h.p.symm.trans (as_npr P)).uniq (.inr (prm_prodP L λx hx=>h.prm hx)) (nf_npr P),h.w.symm.uniq (.inr (prm_prodF L λx hx=>h.prm hx)) (nf_npr _)⟩
end
end
theorem drp1 (a b:IV):List.drop 1 [a,b]=[b]:=rfl
theorem rowsK_len (L:List (Nat×List Int)):(rowsK L).length=L.length:=by simp[rowsK,kof]
theorem rowsK_at {L:List (Nat×List Int)}{i:Nat}(h:i<L.length):(rowsK L).getD i []=rowF (cpoly (fAt L i).2) ((fAt L i).1:Int):=by
 simp[rowsK,kof,fAt,List.getD,h];rfl
theorem mults_zero (q:List RI)(hq:RP 40 1048576 q)(h0:tz (pv q)=0):AC Tryz.prog 40 [cw q] none [cb true]:=by
 have cz:=copyz_ok q (Nat.le_trans hq.1 (by omega)) (λc hc=>Nat.le_trans (hq.2 c hc).1 (by omega));have pz:=parts_zero q (hq.mono (by omega) (by omega)) h0;have iz:=iszero_ok q (Nat.le_trans hq.1 (by omega)) (λi hi=>Nat.le_trans (hq.get i).1 (by omega));rw[decide_eq_true h0]at iz;refine AC.by_walk (rs:=[.tmp 2]) ords Tryz.func40 (by rfl) (by rfl) (by rfl) (by rfl) (by rfl) ?_;simp (disch:=omega) only[wt,seval,reduceCtorEq,Nat.reduceEqDiff,cpoly_len,rowF,tak2,spl2,drp1];refine call_by (cz) (by rfl) (by simp) ?_;simp (disch:=omega) only[wt,seval,reduceCtorEq,Nat.reduceEqDiff,cpoly_len,rowF,tak2,spl2,drp1];refine call_by (pz) (by rfl) (by simp) ?_;simp (disch:=omega) only[wt,seval,reduceCtorEq,Nat.reduceEqDiff,cpoly_len,rowF,tak2,spl2,drp1];refine call_by (iz) (by rfl) (by simp) ?_;simp (disch:=omega) only[wt,seval,reduceCtorEq,Nat.reduceEqDiff,cpoly_len,rowF,tak2,spl2,drp1]
theorem inc_at {L:List (Nat×List Int)}(h:L.Pairwise λa b=>a.1<b.1){k:Nat}(hk:k+1<L.length):(fAt L k).1<(fAt L (k+1)).1:=by
 have:=List.pairwise_iff_getElem.mp h k (k+1) (by omega) hk (by omega);simpa [fAt,List.getD,hk,show k<L.length by omega] using this
theorem cpoly_ps {A B:List Int}(h:ps A=ps B):cpoly A=cpoly B:=by unfold cpoly;rw[trimz_ext (ps_eq h)]
set_option maxRecDepth 100000 in
theorem mults_ok {P:List Int}{S T U:Nat}(E:Env P S T U)(q:List RI)(hq:RP 40 (S+10*T) q)(e:As (pv q) P):AC Tryz.prog 40 [cw q] none [cb true]:=by
 obtain⟨n0,hn0⟩:∃n:Nat,n=30:=⟨_,rfl⟩;have hS:=E.hS;have h30:=E.t30;have hT:=E.t;have hu:=E.u;have p0:=E.p0;have te:=as_tz e;obtain⟨bi0,pt⟩:=E.pts (n:=n0) (by omega);have zP:=E.sz bi0.r (nf_npr P);have zW:=E.sz ((dv_l _ _).trans E.wg.dv) (nf_npr _:Nf (wof P));have cz:=copyz_ok q (Nat.le_trans hq.1 (by omega)) (λc hc=>Nat.le_trans (hq.2 c hc).1 (by omega));have pz:=partsL_ok E q hq e n0 hn0;have iz:=iszero_ok q (Nat.le_trans hq.1 (by omega)) (λi hi=>Nat.le_trans (hq.get i).1 (by omega));rw[decide_eq_false (show ¬tz (pv q)=0 by omega)]at iz;have o1:AC Tryz.prog 37 [cis [1]] none [cp [1]]:=by
  have:=tpoly_ok [1] (by simp) (by simp);rwa [show ([1]:List Int).map canon=cn [1] by unfold cn;rw[show trimz [1]=[1] by decide]]at this
 have hfa:=λi hi=>pt.fa E (i:=i) hi
 have hall:=pt.all;have hinc:=pt.inc;have hll:=pt.len;have hwU:tz (wof P)<=U:=E.w;have ppr:=pprim_n (a:=q) (q:=pv q) (hq.mono (by omega) (by omega)) rfl;rw[npr_as e,<-cp_ps hall.1]at ppr;have pfr:=E.free_ok q hq e;rw[<-cp_ps hall.2]at pfr;have rp1:=rp_sb (D:=40) (k:=2^21) (q:=prodP (bmL n0 1 (npr P) (wof P))) (by rw[tz_of_ps hall.1];omega) (λi=>by rw[ps_eq hall.1];exact Nat.le_trans (zP.1 i) (by omega));have rp2:=rp_sb (D:=40) (k:=2^21) (q:=prodF (bmL n0 1 (npr P) (wof P))) (by rw[tz_of_ps hall.2];omega) (λi=>by rw[ps_eq hall.2];exact Nat.le_trans (zW.1 i) (by omega));clear pt bi0;generalize bmL n0 1 (npr P) (wof P)=L at *;have hln:=rowsK_len L;refine AC.by_walk (rs:=[.tmp 2]) ords Tryz.func40 (by rfl) (by rfl) (by rfl) (by rfl) (by rfl) ?_;simp (disch:=omega) only[wt,seval,reduceCtorEq,Nat.reduceEqDiff,cpoly_len,rowF,tak2,spl2,drp1];refine call_by (cz) (by rfl) (by simp) ?_;simp (disch:=omega) only[wt,seval,reduceCtorEq,Nat.reduceEqDiff,cpoly_len,rowF,tak2,spl2,drp1];refine call_by (pz) (by rfl) (by simp) ?_;simp (disch:=omega) only[wt,seval,reduceCtorEq,Nat.reduceEqDiff,cpoly_len,rowF,tak2,spl2,drp1];refine call_by (iz) (by rfl) (by simp) ?_;simp (disch:=omega) only[wt,seval,reduceCtorEq,Nat.reduceEqDiff,cpoly_len,rowF,tak2,spl2,drp1];refine call_by (o1) (by rfl) (by simp) ?_;simp (disch:=omega) only[wt,seval,reduceCtorEq,Nat.reduceEqDiff,cpoly_len,rowF,tak2,spl2,drp1];refine call_by (o1) (by rfl) (by simp) ?_;simp (disch:=omega) only[wt,seval,reduceCtorEq,Nat.reduceEqDiff,cpoly_len,rowF,tak2,spl2,drp1];refine aloop_by (λf H=>∃(i:Nat),i<=L.length/\f 28=.iv (.int .i64 i)/\f 26=.iv (.sl (rowsK L))/\f 27=.iv (.int .i64 L.length)/\f 3=.iv (.sl (rowsK L))/\f 5=.iv (.sl (cpoly (prodP (L.take i))))/\f 6=.iv (.sl (cpoly (prodF (L.take i))))/\f 0=.iv (.sl (raws q))) (λf H=>(L.length-intAt f 28).toNat) ?_ ?_
 .refine⟨0,by omega,?_⟩;simp (disch:=omega) only[wt,seval,reduceCtorEq,Nat.reduceEqDiff,cpoly_len,rowF,tak2,spl2,drp1,hln,List.take_zero,show prodP []=[1] from rfl,show prodF []=[1] from rfl]
 rintro f H ⟨i,hi,hF⟩;rw[intAt_of hF.1];simp (disch:=omega) only[wt,seval,reduceCtorEq,Nat.reduceEqDiff,cpoly_len,rowF,tak2,spl2,drp1,hF];refine if_by (λhlt=>?_) (λhlt=>?_)
 .have hi':i<L.length:=by omega
  have A:=hfa i hi';have hr:=rowsK_at hi';have zf:=A.f;have mT:=A.mT;have rf:=rp_sb (D:=40) (q:=(fAt L i).2) (by omega) zf.1;have cf0:=copyz_ok (cn (fAt L i).2) (Nat.le_trans rf.1 (by omega)) (λc hc=>Nat.le_trans (rf.2 c hc).1 (by omega));have dg:=pdeg_n (a:=cn (fAt L i).2) (q:=(fAt L i).2) (rf.mono (by omega) (by omega)) (ps_cn _);have dv:=pderiv_g (a:=cn (fAt L i).2) (q:=(fAt L i).2) (rf.mono (by omega) (by omega)) (ps_cn _);have bd:SBd (S+10*T+1) (pderiv (fAt L i).2):=λj=>by
   have:=(sb_deriv rf (by omega)).cf j;rwa [pv_cnt A.tr]at this
  have td:tz (pderiv (fAt L i).2)<=tz (fAt L i).2:=tz_le_of λj hj=>by rw[cf_pderiv,cf_ge_tz _ (by omega),Int.zero_mul]
  have rd:=rp_sb (D:=40) (q:=pderiv (fAt L i).2) (by omega) bd;have gd:=E.gcd (cn (fAt L i).2) (cn (pderiv (fAt L i).2)) (rf.mono (by omega) (by omega)) rd (by rw[tz_of_ps (ps_cn _)];exact zf.2.2) (by rw[tz_of_ps (ps_cn _)];omega);rw[cp_ps (gcdp_as (.of_ps (ps_cn (fAt L i).2)) (.of_ps (ps_cn (pderiv (fAt L i).2))))]at gd;have sq:=A.sq;have one:∀X:List Int,tz X=1->SBd (S+10*T) X->AC Tryz.prog 90 [cp X] none [ci 0]:=λX hX hz=>by
   have:=pdeg_n (a:=cn X) (q:=X) ((rp_sb (D:=40) (by omega) hz).mono (by omega) (by omega)) (ps_cn _);rwa [hX]at this
  have dgg:=one _ sq (λj=>by
   have:=nf_const (gcdp_nf (fAt L i).2 (pderiv (fAt L i).2)) sq j;omega)
  have hdeg:¬(tz (fAt L i).2:Int)-1<1:=by have:=A.t2;omega
  have hm1:¬((fAt L i).1:Int)<1:=by have:=A.m1;omega
  have hp0:cpoly (prodP (L.take i))=cpoly (pAt L i 0):=(cpoly_ps (pAt_zero i)).symm;by_cases hi0:i=0
  .have hg:¬(0:Int)<(i:Int):=by omega
   simp (disch:=omega) only[wt,seval,reduceCtorEq,Nat.reduceEqDiff,cpoly_len,rowF,tak2,spl2,drp1,hF,hr,hg,hm1,hdeg];refine .inl ⟨tmps_by (by kernel_rfl),?_⟩;refine call_by (cf0) (by first|rfl|(simp only[tocvs,tocv,toboxes,tobox,updH_at,Nat.reduceEqDiff,↓reduceIte,hF,hr,hg,hm1,hdeg];rfl)) (by simp) ?_;simp (disch:=omega) only[wt,seval,reduceCtorEq,Nat.reduceEqDiff,cpoly_len,rowF,tak2,spl2,drp1,hF,hr,hg,hm1,hdeg];refine call_by (dg) (by first|rfl|(simp only[tocvs,tocv,toboxes,tobox,updH_at,Nat.reduceEqDiff,↓reduceIte,hF,hr,hg,hm1,hdeg];rfl)) (by simp) ?_;simp (disch:=omega) only[wt,seval,reduceCtorEq,Nat.reduceEqDiff,cpoly_len,rowF,tak2,spl2,drp1,hF,hr,hg,hm1,hdeg];refine call_by (cf0) (by first|rfl|(simp only[tocvs,tocv,toboxes,tobox,updH_at,Nat.reduceEqDiff,↓reduceIte,hF,hr,hg,hm1,hdeg];rfl)) (by simp) ?_;simp (disch:=omega) only[wt,seval,reduceCtorEq,Nat.reduceEqDiff,cpoly_len,rowF,tak2,spl2,drp1,hF,hr,hg,hm1,hdeg];refine call_by (cf0) (by first|rfl|(simp only[tocvs,tocv,toboxes,tobox,updH_at,Nat.reduceEqDiff,↓reduceIte,hF,hr,hg,hm1,hdeg];rfl)) (by simp) ?_;simp (disch:=omega) only[wt,seval,reduceCtorEq,Nat.reduceEqDiff,cpoly_len,rowF,tak2,spl2,drp1,hF,hr,hg,hm1,hdeg];refine call_by (dv) (by first|rfl|(simp only[tocvs,tocv,toboxes,tobox,updH_at,Nat.reduceEqDiff,↓reduceIte,hF,hr,hg,hm1,hdeg];rfl)) (by simp) ?_;simp (disch:=omega) only[wt,seval,reduceCtorEq,Nat.reduceEqDiff,cpoly_len,rowF,tak2,spl2,drp1,hF,hr,hg,hm1,hdeg];refine call_by (gd) (by first|rfl|(simp only[tocvs,tocv,toboxes,tobox,updH_at,Nat.reduceEqDiff,↓reduceIte,hF,hr,hg,hm1,hdeg];rfl)) (by simp) ?_;simp (disch:=omega) only[wt,seval,reduceCtorEq,Nat.reduceEqDiff,cpoly_len,rowF,tak2,spl2,drp1,hF,hr,hg,hm1,hdeg];refine call_by (dgg) (by first|rfl|(simp only[tocvs,tocv,toboxes,tobox,updH_at,Nat.reduceEqDiff,↓reduceIte,hF,hr,hg,hm1,hdeg];rfl)) (by simp) ?_;simp (disch:=omega) only[wt,seval,reduceCtorEq,Nat.reduceEqDiff,cpoly_len,rowF,tak2,spl2,drp1,hF,hr,hg,hm1,hdeg]
   first|exact log_by (by kernel_rfl)|refine⟨log_by (by kernel_rfl),?_⟩
   refine aloop_by (λf H=>∃(n st:Nat),n<=(fAt L i).1/\f 9=.iv (.int .i64 n)/\f 5=.iv (.sl (cpoly (pAt L i n)))/\f 6=.iv (.sl (cpoly (prodF (L.take i))))/\f 28=.iv (.int .i64 i)/\f 26=.iv (.sl (rowsK L))/\f 27=.iv (.int .i64 L.length)/\f 3=.iv (.sl (rowsK L))/\f 0=.iv (.sl (raws q))/\f 8=.hp 8 st 0 0/\H 8=.blk false st 72 2 [rowF (cpoly (fAt L i).2) ((fAt L i).1:Int)]) (λf H=>((fAt L i).1-intAt f 9).toNat) ?_ ?_
   .refine⟨0,(H 8).stamp+1,by omega,?_⟩;simp (disch:=omega) only[wt,seval,reduceCtorEq,Nat.reduceEqDiff,cpoly_len,rowF,tak2,spl2,drp1,hF,hp0]
   rintro f H ⟨n,st,hn,hF⟩;rw[intAt_of hF.1];simp (disch:=omega) only[wt,seval,reduceCtorEq,Nat.reduceEqDiff,cpoly_len,rowF,tak2,spl2,drp1,hF];refine if_by (λhlm=>?_) (λhlm=>?_)
   .have zn:=A.p n hn;have rn:=rp_sb (D:=40) (q:=pAt L i n) (by omega) zn.1;have mu:=pmul_g (a:=cn (pAt L i n)) (b:=cn (fAt L i).2) (rn.mono (by omega) (by omega)) (rf.mono (by omega) (by omega)) (ps_cn _) (ps_cn _);rw[cp_ps (pAt_succ i n)]at mu;simp (disch:=omega) only[wt,seval,reduceCtorEq,Nat.reduceEqDiff,cpoly_len,rowF,tak2,spl2,drp1,hF];refine call_by (cf0) (by first|rfl|(simp only[tocvs,tocv,toboxes,tobox,updH_at,Nat.reduceEqDiff,↓reduceIte,hF];rfl)) (by simp) ?_;simp (disch:=omega) only[wt,seval,reduceCtorEq,Nat.reduceEqDiff,cpoly_len,rowF,tak2,spl2,drp1,hF];refine call_by (mu) (by first|rfl|(simp only[tocvs,tocv,toboxes,tobox,updH_at,Nat.reduceEqDiff,↓reduceIte,hF];rfl)) (by simp) ?_;simp (disch:=omega) only[wt,seval,reduceCtorEq,Nat.reduceEqDiff,cpoly_len,rowF,tak2,spl2,drp1,hF];refine⟨⟨n+1,st,by omega,?_⟩,by omega⟩
    try (repeat' apply And.intro)<;>first|rfl|omega
   .have hnm:n=(fAt L i).1:=by omega
    rw[hnm,cpoly_ps (pAt_full hi')]at hF;have zw:=A.w;have rw0:=rp_sb (D:=40) (q:=prodF (L.take i)) (by omega) zw.1;have cw0:=copyz_ok (cn (prodF (L.take i))) (Nat.le_trans rw0.1 (by omega)) (λc hc=>Nat.le_trans (rw0.2 c hc).1 (by omega));have g2:=E.gcd (cn (prodF (L.take i))) (cn (fAt L i).2) (rw0.mono (by omega) (by omega)) (rf.mono (by omega) (by omega)) (by rw[tz_of_ps (ps_cn _)];exact zw.2.2) (by rw[tz_of_ps (ps_cn _)];omega);rw[cp_ps (gcdp_as (.of_ps (ps_cn (prodF (L.take i)))) (.of_ps (ps_cn (fAt L i).2)))]at g2;have d2:=one _ A.cop (λj=>by
     have:=nf_const (gcdp_nf (prodF (L.take i)) (fAt L i).2) A.cop j;omega)
    have mu:=pmul_g (a:=cn (prodF (L.take i))) (b:=cn (fAt L i).2) (rw0.mono (by omega) (by omega)) (rf.mono (by omega) (by omega)) (ps_cn _) (ps_cn _);rw[cp_ps (free_succ hi')]at mu;simp (disch:=omega) only[wt,seval,reduceCtorEq,Nat.reduceEqDiff,cpoly_len,rowF,tak2,spl2,drp1,hF];refine .inl ⟨tmps_by (by kernel_rfl),?_⟩;refine call_by (cw0) (by first|rfl|(simp only[tocvs,tocv,toboxes,tobox,updH_at,Nat.reduceEqDiff,↓reduceIte,hF];rfl)) (by simp) ?_;simp (disch:=omega) only[wt,seval,reduceCtorEq,Nat.reduceEqDiff,cpoly_len,rowF,tak2,spl2,drp1,hF];refine call_by (cf0) (by first|rfl|(simp only[tocvs,tocv,toboxes,tobox,updH_at,Nat.reduceEqDiff,↓reduceIte,hF];rfl)) (by simp) ?_;simp (disch:=omega) only[wt,seval,reduceCtorEq,Nat.reduceEqDiff,cpoly_len,rowF,tak2,spl2,drp1,hF];refine call_by (g2) (by first|rfl|(simp only[tocvs,tocv,toboxes,tobox,updH_at,Nat.reduceEqDiff,↓reduceIte,hF];rfl)) (by simp) ?_;simp (disch:=omega) only[wt,seval,reduceCtorEq,Nat.reduceEqDiff,cpoly_len,rowF,tak2,spl2,drp1,hF];refine call_by (d2) (by first|rfl|(simp only[tocvs,tocv,toboxes,tobox,updH_at,Nat.reduceEqDiff,↓reduceIte,hF];rfl)) (by simp) ?_;simp (disch:=omega) only[wt,seval,reduceCtorEq,Nat.reduceEqDiff,cpoly_len,rowF,tak2,spl2,drp1,hF]
    first|exact log_by (by kernel_rfl)|refine⟨log_by (by kernel_rfl),?_⟩
    refine call_by (cf0) (by first|rfl|(simp only[tocvs,tocv,toboxes,tobox,updH_at,Nat.reduceEqDiff,↓reduceIte,hF];rfl)) (by simp) ?_;simp (disch:=omega) only[wt,seval,reduceCtorEq,Nat.reduceEqDiff,cpoly_len,rowF,tak2,spl2,drp1,hF];refine call_by (mu) (by first|rfl|(simp only[tocvs,tocv,toboxes,tobox,updH_at,Nat.reduceEqDiff,↓reduceIte,hF];rfl)) (by simp) ?_;simp (disch:=omega) only[wt,seval,reduceCtorEq,Nat.reduceEqDiff,cpoly_len,rowF,tak2,spl2,drp1,hF];refine⟨⟨i+1,by omega,?_⟩,by omega⟩
    try (repeat' apply And.intro)<;>first|rfl|omega
  .obtain⟨k,hik⟩:∃k,i=k+1:=⟨i-1,by omega⟩;have hg:(0:Int)<(i:Int):=by omega
   have hk:=inc_at hinc (k:=k) (by omega);rw[<-hik]at hk;have hk':¬((fAt L i).1:Int)<=((fAt L k).1:Int):=by omega
   have hr':=rowsK_at (L:=L) (i:=k) (by omega);have e1:(i:Int)-1=(k:Int):=by omega
   simp (disch:=omega) only[wt,seval,reduceCtorEq,Nat.reduceEqDiff,cpoly_len,rowF,tak2,spl2,drp1,hF,hr,hg,hm1,hk',hr',e1,Int.toNat_natCast,hdeg];refine .inl ⟨tmps_by (by kernel_rfl),?_⟩;refine call_by (cf0) (by first|rfl|(simp only[tocvs,tocv,toboxes,tobox,updH_at,Nat.reduceEqDiff,↓reduceIte,hF,hr,hg,hm1,hdeg,hk',hr',e1,Int.toNat_natCast];rfl)) (by simp) ?_;simp (disch:=omega) only[wt,seval,reduceCtorEq,Nat.reduceEqDiff,cpoly_len,rowF,tak2,spl2,drp1,hF,hr,hg,hm1,hdeg,hk',hr',e1,Int.toNat_natCast];refine call_by (dg) (by first|rfl|(simp only[tocvs,tocv,toboxes,tobox,updH_at,Nat.reduceEqDiff,↓reduceIte,hF,hr,hg,hm1,hdeg];rfl)) (by simp) ?_;simp (disch:=omega) only[wt,seval,reduceCtorEq,Nat.reduceEqDiff,cpoly_len,rowF,tak2,spl2,drp1,hF,hr,hg,hm1,hdeg];refine call_by (cf0) (by first|rfl|(simp only[tocvs,tocv,toboxes,tobox,updH_at,Nat.reduceEqDiff,↓reduceIte,hF,hr,hg,hm1,hdeg];rfl)) (by simp) ?_;simp (disch:=omega) only[wt,seval,reduceCtorEq,Nat.reduceEqDiff,cpoly_len,rowF,tak2,spl2,drp1,hF,hr,hg,hm1,hdeg];refine call_by (cf0) (by first|rfl|(simp only[tocvs,tocv,toboxes,tobox,updH_at,Nat.reduceEqDiff,↓reduceIte,hF,hr,hg,hm1,hdeg];rfl)) (by simp) ?_;simp (disch:=omega) only[wt,seval,reduceCtorEq,Nat.reduceEqDiff,cpoly_len,rowF,tak2,spl2,drp1,hF,hr,hg,hm1,hdeg];refine call_by (dv) (by first|rfl|(simp only[tocvs,tocv,toboxes,tobox,updH_at,Nat.reduceEqDiff,↓reduceIte,hF,hr,hg,hm1,hdeg];rfl)) (by simp) ?_;simp (disch:=omega) only[wt,seval,reduceCtorEq,Nat.reduceEqDiff,cpoly_len,rowF,tak2,spl2,drp1,hF,hr,hg,hm1,hdeg];refine call_by (gd) (by first|rfl|(simp only[tocvs,tocv,toboxes,tobox,updH_at,Nat.reduceEqDiff,↓reduceIte,hF,hr,hg,hm1,hdeg];rfl)) (by simp) ?_;simp (disch:=omega) only[wt,seval,reduceCtorEq,Nat.reduceEqDiff,cpoly_len,rowF,tak2,spl2,drp1,hF,hr,hg,hm1,hdeg];refine call_by (dgg) (by first|rfl|(simp only[tocvs,tocv,toboxes,tobox,updH_at,Nat.reduceEqDiff,↓reduceIte,hF,hr,hg,hm1,hdeg];rfl)) (by simp) ?_;simp (disch:=omega) only[wt,seval,reduceCtorEq,Nat.reduceEqDiff,cpoly_len,rowF,tak2,spl2,drp1,hF,hr,hg,hm1,hdeg]
   first|exact log_by (by kernel_rfl)|refine⟨log_by (by kernel_rfl),?_⟩
   refine aloop_by (λf H=>∃(n st:Nat),n<=(fAt L i).1/\f 9=.iv (.int .i64 n)/\f 5=.iv (.sl (cpoly (pAt L i n)))/\f 6=.iv (.sl (cpoly (prodF (L.take i))))/\f 28=.iv (.int .i64 i)/\f 26=.iv (.sl (rowsK L))/\f 27=.iv (.int .i64 L.length)/\f 3=.iv (.sl (rowsK L))/\f 0=.iv (.sl (raws q))/\f 8=.hp 8 st 0 0/\H 8=.blk false st 72 2 [rowF (cpoly (fAt L i).2) ((fAt L i).1:Int)]) (λf H=>((fAt L i).1-intAt f 9).toNat) ?_ ?_
   .refine⟨0,(H 8).stamp+1,by omega,?_⟩;simp (disch:=omega) only[wt,seval,reduceCtorEq,Nat.reduceEqDiff,cpoly_len,rowF,tak2,spl2,drp1,hF,hp0]
   rintro f H ⟨n,st,hn,hF⟩;rw[intAt_of hF.1];simp (disch:=omega) only[wt,seval,reduceCtorEq,Nat.reduceEqDiff,cpoly_len,rowF,tak2,spl2,drp1,hF];refine if_by (λhlm=>?_) (λhlm=>?_)
   .have zn:=A.p n hn;have rn:=rp_sb (D:=40) (q:=pAt L i n) (by omega) zn.1;have mu:=pmul_g (a:=cn (pAt L i n)) (b:=cn (fAt L i).2) (rn.mono (by omega) (by omega)) (rf.mono (by omega) (by omega)) (ps_cn _) (ps_cn _);rw[cp_ps (pAt_succ i n)]at mu;simp (disch:=omega) only[wt,seval,reduceCtorEq,Nat.reduceEqDiff,cpoly_len,rowF,tak2,spl2,drp1,hF];refine call_by (cf0) (by first|rfl|(simp only[tocvs,tocv,toboxes,tobox,updH_at,Nat.reduceEqDiff,↓reduceIte,hF];rfl)) (by simp) ?_;simp (disch:=omega) only[wt,seval,reduceCtorEq,Nat.reduceEqDiff,cpoly_len,rowF,tak2,spl2,drp1,hF];refine call_by (mu) (by first|rfl|(simp only[tocvs,tocv,toboxes,tobox,updH_at,Nat.reduceEqDiff,↓reduceIte,hF];rfl)) (by simp) ?_;simp (disch:=omega) only[wt,seval,reduceCtorEq,Nat.reduceEqDiff,cpoly_len,rowF,tak2,spl2,drp1,hF];refine⟨⟨n+1,st,by omega,?_⟩,by omega⟩
    try (repeat' apply And.intro)<;>first|rfl|omega
   .have hnm:n=(fAt L i).1:=by omega
    rw[hnm,cpoly_ps (pAt_full hi')]at hF;have zw:=A.w;have rw0:=rp_sb (D:=40) (q:=prodF (L.take i)) (by omega) zw.1;have cw0:=copyz_ok (cn (prodF (L.take i))) (Nat.le_trans rw0.1 (by omega)) (λc hc=>Nat.le_trans (rw0.2 c hc).1 (by omega));have g2:=E.gcd (cn (prodF (L.take i))) (cn (fAt L i).2) (rw0.mono (by omega) (by omega)) (rf.mono (by omega) (by omega)) (by rw[tz_of_ps (ps_cn _)];exact zw.2.2) (by rw[tz_of_ps (ps_cn _)];omega);rw[cp_ps (gcdp_as (.of_ps (ps_cn (prodF (L.take i)))) (.of_ps (ps_cn (fAt L i).2)))]at g2;have d2:=one _ A.cop (λj=>by
     have:=nf_const (gcdp_nf (prodF (L.take i)) (fAt L i).2) A.cop j;omega)
    have mu:=pmul_g (a:=cn (prodF (L.take i))) (b:=cn (fAt L i).2) (rw0.mono (by omega) (by omega)) (rf.mono (by omega) (by omega)) (ps_cn _) (ps_cn _);rw[cp_ps (free_succ hi')]at mu;simp (disch:=omega) only[wt,seval,reduceCtorEq,Nat.reduceEqDiff,cpoly_len,rowF,tak2,spl2,drp1,hF];refine .inl ⟨tmps_by (by kernel_rfl),?_⟩;refine call_by (cw0) (by first|rfl|(simp only[tocvs,tocv,toboxes,tobox,updH_at,Nat.reduceEqDiff,↓reduceIte,hF];rfl)) (by simp) ?_;simp (disch:=omega) only[wt,seval,reduceCtorEq,Nat.reduceEqDiff,cpoly_len,rowF,tak2,spl2,drp1,hF];refine call_by (cf0) (by first|rfl|(simp only[tocvs,tocv,toboxes,tobox,updH_at,Nat.reduceEqDiff,↓reduceIte,hF];rfl)) (by simp) ?_;simp (disch:=omega) only[wt,seval,reduceCtorEq,Nat.reduceEqDiff,cpoly_len,rowF,tak2,spl2,drp1,hF];refine call_by (g2) (by first|rfl|(simp only[tocvs,tocv,toboxes,tobox,updH_at,Nat.reduceEqDiff,↓reduceIte,hF];rfl)) (by simp) ?_;simp (disch:=omega) only[wt,seval,reduceCtorEq,Nat.reduceEqDiff,cpoly_len,rowF,tak2,spl2,drp1,hF];refine call_by (d2) (by first|rfl|(simp only[tocvs,tocv,toboxes,tobox,updH_at,Nat.reduceEqDiff,↓reduceIte,hF];rfl)) (by simp) ?_;simp (disch:=omega) only[wt,seval,reduceCtorEq,Nat.reduceEqDiff,cpoly_len,rowF,tak2,spl2,drp1,hF]
    first|exact log_by (by kernel_rfl)|refine⟨log_by (by kernel_rfl),?_⟩
    refine call_by (cf0) (by first|rfl|(simp only[tocvs,tocv,toboxes,tobox,updH_at,Nat.reduceEqDiff,↓reduceIte,hF];rfl)) (by simp) ?_;simp (disch:=omega) only[wt,seval,reduceCtorEq,Nat.reduceEqDiff,cpoly_len,rowF,tak2,spl2,drp1,hF];refine call_by (mu) (by first|rfl|(simp only[tocvs,tocv,toboxes,tobox,updH_at,Nat.reduceEqDiff,↓reduceIte,hF];rfl)) (by simp) ?_;simp (disch:=omega) only[wt,seval,reduceCtorEq,Nat.reduceEqDiff,cpoly_len,rowF,tak2,spl2,drp1,hF];refine⟨⟨i+1,by omega,?_⟩,by omega⟩
    try (repeat' apply And.intro)<;>first|rfl|omega
 .have e0:L.take i=L:=List.take_of_length_le (by omega);rw[e0]at hF;have s1:=samez_eq (cn (prodP L)) (Nat.le_trans rp1.1 (by omega)) (λc hc=>Nat.le_trans (rp1.2 c hc).1 (by omega));have s2:=samez_eq (cn (prodF L)) (Nat.le_trans rp2.1 (by omega)) (λc hc=>Nat.le_trans (rp2.2 c hc).1 (by omega));simp (disch:=omega) only[wt,seval,reduceCtorEq,Nat.reduceEqDiff,cpoly_len,rowF,tak2,spl2,drp1,hF];refine call_by (cz) (by first|rfl|(simp only[tocvs,tocv,toboxes,tobox,updH_at,Nat.reduceEqDiff,↓reduceIte,hF];rfl)) (by simp) ?_;simp (disch:=omega) only[wt,seval,reduceCtorEq,Nat.reduceEqDiff,cpoly_len,rowF,tak2,spl2,drp1,hF];refine call_by (ppr) (by first|rfl|(simp only[tocvs,tocv,toboxes,tobox,updH_at,Nat.reduceEqDiff,↓reduceIte,hF];rfl)) (by simp) ?_;simp (disch:=omega) only[wt,seval,reduceCtorEq,Nat.reduceEqDiff,cpoly_len,rowF,tak2,spl2,drp1,hF];refine call_by (s1) (by first|rfl|(simp only[tocvs,tocv,toboxes,tobox,updH_at,Nat.reduceEqDiff,↓reduceIte,hF];rfl)) (by simp) ?_;simp (disch:=omega) only[wt,seval,reduceCtorEq,Nat.reduceEqDiff,cpoly_len,rowF,tak2,spl2,drp1,hF];refine call_by (cz) (by first|rfl|(simp only[tocvs,tocv,toboxes,tobox,updH_at,Nat.reduceEqDiff,↓reduceIte,hF];rfl)) (by simp) ?_;simp (disch:=omega) only[wt,seval,reduceCtorEq,Nat.reduceEqDiff,cpoly_len,rowF,tak2,spl2,drp1,hF];refine call_by (pfr) (by first|rfl|(simp only[tocvs,tocv,toboxes,tobox,updH_at,Nat.reduceEqDiff,↓reduceIte,hF];rfl)) (by simp) ?_;simp (disch:=omega) only[wt,seval,reduceCtorEq,Nat.reduceEqDiff,cpoly_len,rowF,tak2,spl2,drp1,hF];refine call_by (s2) (by first|rfl|(simp only[tocvs,tocv,toboxes,tobox,updH_at,Nat.reduceEqDiff,↓reduceIte,hF];rfl)) (by simp) ?_;simp (disch:=omega) only[wt,seval,reduceCtorEq,Nat.reduceEqDiff,cpoly_len,rowF,tak2,spl2,drp1,hF]
  try rfl
abbrev kn3 (x y z:Int):List IV:=[.int .i64 x,.int .i64 y,.int .i64 z]
theorem sp30 (a b c x:IV):splice [a,b,c] 0 [x]=[x,b,c]:=rfl
theorem sp31 (a b c x:IV):splice [a,b,c] 1 [x]=[a,x,c]:=rfl
theorem sp32 (a b c x:IV):splice [a,b,c] 2 [x]=[a,b,x]:=rfl
theorem ln1 (a:IV):[a].length=1:=rfl
theorem ln3 (a b c:IV):[a,b,c].length=3:=rfl
theorem plain_ok (x y z:Int):AC Tryz.prog 97 [.agg (kn3 x y z)] none [.agg (kn3 (clz x (-1000000) 1000000) (clz y 1 1000) (clz z 1 3))]:=by
 have a:=clamp_ok x (-1000000) 1000000;have b:=clamp_ok y 1 1000;have c:=clamp_ok z 1 3;refine AC.by_walk (rs:=[.cell 2 121]) ords Tryz.func97 (by rfl) (by rfl) (by rfl) (by rfl) (by rfl) ?_;simp (disch:=omega) only[wt,seval,reduceCtorEq,Nat.reduceEqDiff,rqs];refine .inl ⟨tmps_by (by kernel_rfl),?_⟩;refine call_by (a) (by rfl) (by simp) ?_;simp (disch:=omega) only[wt,seval,reduceCtorEq,Nat.reduceEqDiff,rqs];refine call_by (b) (by rfl) (by simp) ?_;simp (disch:=omega) only[wt,seval,reduceCtorEq,Nat.reduceEqDiff,rqs];refine call_by (c) (by first|rfl|(simp only[tocvs,tocv,toboxes,tobox,updH_at,Nat.reduceEqDiff,↓reduceIte,sp30,sp31,sp32,ln1,ln3];rfl)) (by simp) ?_;simp (disch:=omega) only[wt,seval,reduceCtorEq,Nat.reduceEqDiff,rqs,sp30,sp31,sp32,ln1,ln3];refine⟨⟨⟨rfl,by simp⟩,⟨rfl,by simp[splice]⟩,⟨rfl,by simp[splice]⟩,trivial⟩,?_⟩
 dsimp only
 simp (disch:=omega) only[wt,seval,reduceCtorEq,Nat.reduceEqDiff,rqs,sp30,sp31,sp32]
 first|exact log_by (by kernel_rfl)|refine⟨log_by (by kernel_rfl),?_⟩
 try rfl
theorem linear_ok (x y z:Int)(hx : -1000000<=x/\x<=1000000)(hy:1<=y/\y<=1000):AC Tryz.prog 99 [.agg (kn3 x y z)] none [cw ([-x,y].map canon)]:=by
 have a:=whole_ok (0-x) (by omega) (by omega);have b:=whole_ok y (by omega) (by omega);have e:[-x,y].map canon=[canon (0-x),canon y]:=by rw[Int.zero_sub];rfl
 rw[e];refine AC.by_walk (rs:=[.tmp 2]) ords Tryz.func99 (by rfl) (by rfl) (by rfl) (by rfl) (by rfl) ?_;simp (disch:=omega) only[wt,seval,reduceCtorEq,Nat.reduceEqDiff,rqs];refine .inl ⟨tmps_by (by kernel_rfl),?_⟩;refine call_by (a) (by rfl) (by simp) ?_;simp (disch:=omega) only[wt,seval,reduceCtorEq,Nat.reduceEqDiff,rqs];refine call_by (b) (by rfl) (by simp) ?_;simp (disch:=omega) only[wt,seval,reduceCtorEq,Nat.reduceEqDiff,rqs]
 first|exact log_by (by kernel_rfl)|refine⟨log_by (by kernel_rfl),?_⟩
 try rfl
def knr (p:List RI)(l:List RQ)(ts:List Int)(ok:Bool):List IV:=[.sl (raws p),.sl (rats l),.sl (ilims ts),.bool ok]
theorem knl (p:List RI)(l:List RQ)(ts:List Int)(ok:Bool):(knr p l ts ok).length=4:=rfl
theorem kn1 (p:List RI)(l:List RQ)(ts:List Int)(ok:Bool):(knr p l ts ok).getD 1 default=.sl (rats l):=rfl
theorem kn2 (p:List RI)(l:List RQ)(ts:List Int)(ok:Bool):(knr p l ts ok).getD 2 default=.sl (ilims ts):=rfl
theorem kn0 (p:List RI)(l:List RQ)(ts:List Int)(ok:Bool):(knr p l ts ok).getD 0 default=.sl (raws p):=rfl

def insAt {α:Type}(l:List α)(k:Nat)(x:α):List α:=l.take k++x::l.drop k
theorem insAt_end {α:Type}(l:List α)(x:α):insAt l l.length x=l++[x]:=by
 rw[insAt,List.take_length,List.drop_length]
theorem insAt_len {α:Type}{l:List α}{k:Nat}(x:α)(h:k<=l.length):(insAt l k x).length=l.length+1:=by
 rw[insAt,List.length_append,List.length_cons,List.length_take,List.length_drop];omega
theorem insAt_swap {α:Type}{l:List α}{k:Nat}(x d:α)(h:k<l.length):((insAt l (k+1) x).set (k+1) (l.getD k d)).set k x=insAt l k x:=by
 have hg:l.getD k d=l[k]:=by simp[List.getD,h]
 have e1:l.take (k+1)=l.take k++[l[k]]:=by rw[List.take_add_one];simp[h]
 have e2:l.drop k=l[k]::l.drop (k+1):=List.drop_eq_getElem_cons h;have lk:(l.take k).length=k:=by rw[List.length_take];omega
 rw[insAt,insAt,hg,e1,e2,List.append_assoc];rw[List.set_append_right _ _ (by omega),List.set_append_right _ _ (by omega),lk];simp
theorem insAt_at {α:Type}{l:List α}{k:Nat}(x d:α)(h:k<=l.length):(insAt l k x).getD k d=x:=by
 have lk:(l.take k).length=k:=by rw[List.length_take];omega
 rw[insAt,List.getD,List.getElem?_append_right (by omega),lk,Nat.sub_self];rfl
theorem insAt_before {α:Type}{l:List α}{k:Nat}(x d:α)(h:k<l.length):(insAt l (k+1) x).getD k d=l.getD k d:=by
 have lk:(l.take (k+1)).length=k+1:=by rw[List.length_take];omega
 rw[insAt,List.getD,List.getElem?_append_left (by omega),List.getElem?_take,if_pos (by omega)];rfl
theorem insAt_mem {α:Type}{l:List α}{k:Nat}{x y:α}:y∈insAt l k x↔y=x\/y∈l:=by
 rw[insAt,List.mem_append,List.mem_cons];have h:=List.take_append_drop k l;constructor
 .rintro(h1|h1|h1)
  .exact .inr (List.mem_of_mem_take h1)
  .exact .inl h1
  .exact .inr (List.mem_of_mem_drop h1)
 .rintro(h1|h1)
  .exact .inr (.inl h1)
  .rw[<-h,List.mem_append]at h1;rcases h1 with h1|h1
   .exact .inl h1
   .exact .inr (.inr h1)
def Rise (l:List RQ):Prop:=l.Pairwise λa b=>qv a<qv b
theorem rise_ins {l:List RQ}(h:Rise l){k:Nat}{x:RQ}(hk:k<=l.length)(h1:∀j,j<k->qv (l.getD j q0)<qv x)(h2:∀j,k<=j->j<l.length->qv x<qv (l.getD j q0)):Rise (insAt l k x):=by
 unfold Rise at *;have e:=List.take_append_drop k l;have h':=h;rw[<-e,List.pairwise_append]at h';obtain⟨a,b,c⟩:=h';have m1:∀y∈l.take k,qv y<qv x:=λy hy=>by
  obtain⟨j,hj,rfl⟩:=List.getElem_of_mem hy;rw[List.length_take]at hj;have:=h1 j (by omega);rwa [List.getD,List.getElem?_eq_getElem (show j<l.length by omega),Option.getD_some,<-List.getElem_take]at this
 have m2:∀y∈l.drop k,qv x<qv y:=λy hy=>by
  obtain⟨j,hj,rfl⟩:=List.getElem_of_mem hy;rw[List.length_drop]at hj;have:=h2 (k+j) (by omega) (by omega);rw[List.getElem_drop];rwa [List.getD,List.getElem?_eq_getElem (show k+j<l.length by omega),Option.getD_some]at this
 rw[insAt,List.pairwise_append,List.pairwise_cons];refine⟨a,⟨m2,b⟩,λy hy z hz=>?_⟩;rcases List.mem_cons.1 hz with rfl|hz
 .exact m1 y hy
 .exact c y hy z hz
theorem rise_get {l:List RQ}(h:Rise l){i j:Nat}(hij:i<j)(hj:j<l.length):qv (l.getD i q0)<qv (l.getD j q0):=by
 have:=List.pairwise_iff_getElem.1 h i j (by omega) hj hij;rw[List.getD,List.getD,List.getElem?_eq_getElem (show i<l.length by omega),List.getElem?_eq_getElem hj];exact this
theorem rise_nodup {l:List RQ}(h:Rise l):(l.map qv).Nodup:=by
 rw[List.Nodup,List.pairwise_map];exact List.Pairwise.imp (λ{a b} hab e=>by rw[e]at hab;exact Rat.lt_irrefl hab) h
theorem sb_pmul1 {A B:List Int}{a n:Nat}(hA:SBd a A)(hB:SBd 1 B)(tA:tz A<=n)(tB:tz B<=3)(hn:n<W):SBd (a+2) (pmul A B):=by
 intro i;have h:=(PB.pmul (rp_sb tA hA).pv (rp_sb tB hB).pv hn).cf i;rw[pmul_congr (p':=A) (q':=B) (cf_cn _) (cf_cn _)]at h;omega
structure Bw (Q:List Int) (S:Rat->Prop) (i m q:Nat):Prop where
 root:RootP Q S
 com:∃D,Com Q D i
 sz:SBd m Q
 t:2*tz Q<=m+1+2*q
theorem Bw.start {c:Int}(hc:c≠0)(h:c.natAbs<W):Bw [c] (λ_=>False) 0 1 0:=by
 refine⟨rootp_const hc,⟨[1],com_const hc⟩,λk=>?_,by have:tz [c]<=1:=tz_le [c];omega⟩
 match k with
 |0=>exact zl_le.mpr (by rw[Nat.pow_one];exact h)
 |k+1=>show zl 0<=1;rw[zl_zero];omega
theorem sb_two {x y:Int}(hx:x.natAbs<W)(hy:y.natAbs<W):SBd 1 [x,y]:=λk=>by
 match k with
 |0=>exact zl_le.mpr (by rw[Nat.pow_one];exact hx)
 |1=>exact zl_le.mpr (by rw[Nat.pow_one];exact hy)
 |k+2=>show zl 0<=1;rw[zl_zero];omega
theorem tz_lin2 {n d:Int}(hd:0<d):tz [-n,d]=2:=by
 refine Nat.le_antisymm (tz_le _) (Nat.le_of_not_lt λh=>?_);have:cf [-n,d] 1=d:=rfl;have h2:=cf_ge_tz [-n,d] (k:=1) (by omega);omega
theorem lmul_sz {P L:List Int}{m:Nat}(hP:SBd m P)(hL:SBd 1 L)(tL:tz L=2)(hP0:tz P≠0)(k:Nat)(hm:tz P+k<W):SBd (m+2*k) (lmul P L k)/\tz (lmul P L k)=tz P+k:=by
 induction k with
 |zero=>exact⟨hP,rfl⟩
 |succ k ih =>
  obtain⟨a,b⟩:=ih (by omega);refine⟨?_,?_⟩
  .exact sb_pmul1 (n:=tz P+k) a hL (by omega) (by omega) (by omega)
  .rw[lmul,tz_pmul (by omega) (by omega)];omega
theorem Bw.ne {Q:List Int}{S:Rat->Prop}{i m q:Nat}(h:Bw Q S i m q):tz Q≠0:=by
 obtain⟨D,hD,E,G,e1,e2,e3,e4⟩:=h.com;rw[tz_of_ps (q:=pmul D E) (by rw[ps_pmul,e1]),tz_pmul hD e4];omega
theorem Bw.lin {Q:List Int}{S:Rat->Prop}{i m q:Nat}(h:Bw Q S i m q){n d:Int}(hd:0<d)(hn:n.natAbs<W)(hd2:d.natAbs<W)(k:Nat)(hm:m+q+2*(k+1)+10<W):Bw (lmul Q [-n,d] (k+1)) (λr=>S r\/r=(n:Rat)/(d:Rat)) (i+1) (m+2*(k+1)) q:=by
 have t:=tz_lin2 (n:=n) hd;obtain⟨D,c⟩:=h.com;obtain⟨D',c',-⟩:=com_lmul c (L:=[-n,d]) (by omega) (by omega) k;have ht:=h.t;obtain⟨a,b⟩:=lmul_sz h.sz (sb_two (x:=-n) (y:=d) (by omega) hd2) t h.ne (k+1) (by omega);exact⟨rootp_lmul h.root (rootp_lin hd) k,⟨D',c'⟩,a,by omega⟩
theorem Bw.quad {Q:List Int}{S:Rat->Prop}{i m q:Nat}(h:Bw Q S i m q){a b:Int}(hb:1<=b)(ha : -1000<=a/\a<=1000)(hb2:b<=1000)(hm:m+q+10<W):Bw (pmul Q [a*a+b,-2*a,1]) S (i+2) (m+2) (q+1):=by
 have t:tz [a*a+b,-2*a,1]=3:=by
  refine Nat.le_antisymm (tz_le _) (Nat.le_of_not_lt λh=>?_);have:cf [a*a+b,-2*a,1] 2=1:=rfl;have h2:=cf_ge_tz [a*a+b,-2*a,1] (k:=2) (by omega);omega
 obtain⟨D,c⟩:=h.com;have q1:0<=a*a:=by
  rcases Int.le_total 0 a with h|h
  .exact Int.mul_nonneg h h
  .have:=Int.mul_nonneg (show 0<=-a by omega) (show 0<=-a by omega);rwa [Int.neg_mul_neg]at this
 have q2:a*a<=1000*1000:=by
  rcases Int.le_total 0 a with h|h
  .exact Int.mul_le_mul (by omega) (by omega) h (by omega)
  .have:=Int.mul_le_mul (a:=-a) (b:=-a) (c:=1000) (d:=1000) (by omega) (by omega) (by omega) (by omega);rwa [Int.neg_mul_neg]at this
 have sq:SBd 1 [a*a+b,-2*a,1]:=λk=>by
  match k with
  |0=>exact zl_le.mpr (by rw[Nat.pow_one];show (a*a+b).natAbs<W;simp only[W];omega)
  |1=>exact zl_le.mpr (by rw[Nat.pow_one];show (-2*a).natAbs<W;simp only[W];omega)
  |2=>exact zl_le.mpr (by rw[Nat.pow_one];show (1:Int).natAbs<W;decide)
  |k+3=>show zl 0<=1;rw[zl_zero];omega
 refine⟨(h.root.mul (rootp_quad hb)).congr λr=>⟨λh=>h.elim (λh=>h) (λh=>h.elim),.inl⟩,⟨D,c.one (k:=2) (by omega) (by omega)⟩,sb_pmul1 (n:=m+1+q) h.sz sq (by have:=h.t;omega) (by omega) (by omega),?_⟩;have ht:=h.t;rw[tz_pmul h.ne (by omega)];omega
theorem Bw.kw {Q:List Int}{l:List RQ}{i m q:Nat}(h:Bw Q (·∈l.map qv) i m q)(hi:i<=10)(hm:m<=44)(hqq:q<=2)(hr:Rise l)(hq:trimz Q=Q):∃D,Kw (cn Q) D i (m+1) (l.map qv):=by
 obtain⟨D,c⟩:=h.com;have ht:tz Q<=30:=by have:=h.t;omega
 have e:pv (cn Q)=Q:=pv_cnt hq;refine⟨D,⟨?_,rp_sb (by omega) (h.sz.mono (by omega)),hi,by omega,?_⟩⟩
 .rw[e];refine⟨c,h.sz.mono (by omega),sb_pderiv h.sz ht (by decide),ht,by omega,?_⟩;have:=ez_top (S:=m+1) (n:=i) (by omega) hi;omega
 .rw[e];exact h.root.two (rise_nodup hr)
theorem Bw.of_ps {P Q:List Int}{S:Rat->Prop}{i m q:Nat}(h:Bw P S i m q)(e:ps P=ps Q):Bw Q S i m q:=by
 obtain⟨D,c⟩:=h.com;exact⟨h.root.of_ps e,⟨D,c.of_ps e⟩,λk=>by rw[<-ps_eq e];exact h.sz k,by rw[<-tz_of_ps e];exact h.t⟩
theorem Bw.congr {Q:List Int}{S T:Rat->Prop}{i m q:Nat}(h:Bw Q S i m q)(e:∀r,S r↔T r):Bw Q T i m q:=⟨h.root.congr e,h.com,h.sz,h.t⟩
set_option linter.defProp false
theorem gzA (x:AV)(l:List AV)(d:AV):(x::l).getD 0 d=x:=rfl
theorem gsA (x:AV)(l:List AV)(d:AV)(n:Nat):(x::l).getD (n+1) d=l.getD n d:=rfl
theorem szA (x y:AV)(l:List AV):(x::l).set 0 y=y::l:=rfl
theorem ssA (x y:AV)(l:List AV)(n:Nat):(x::l).set (n+1) y=x::l.set n y:=rfl
theorem gzI (x:IV)(l:List IV)(d:IV):(x::l).getD 0 d=x:=rfl
theorem gsI (x:IV)(l:List IV)(d:IV)(n:Nat):(x::l).getD (n+1) d=l.getD n d:=rfl
theorem szI (x y:IV)(l:List IV):(x::l).set 0 y=y::l:=rfl
theorem ssI (x y:IV)(l:List IV)(n:Nat):(x::l).set (n+1) y=x::l.set n y:=rfl
def wz:=And.intro gzA (And.intro gsA (And.intro szA (And.intro ssA (And.intro gzI (And.intro gsI (And.intro szI ssI))))))
def Kb (p:List RI)(l:List RQ)(ts:List Int)(H:AL.Hp):Prop :=
 ∃rn tn,H 900=.nst 1 75 [.iv (.sl (raws p)),rn,tn,.iv (.bool true)]/\((l=[]/\rn=.nils)\/∃st,l≠[]/\rn=.hs 68 st/\H 68=.blk false st 46 3 (rats l)) /\
  ((ts=[]/\tn=.nils)\/∃st,ts≠[]/\tn=.hs 78 st/\H 78=.blk false st 3 1 (ilims ts))
def KeptK (H H':AL.Hp):Prop:=∀k,(k=1\/k=2\/150<k)->k≠900->H' k=H k
theorem kb_ex (p:List RI){l:List RQ}{ts:List Int}(hl:l≠[])(ht:ts≠[])(H:AL.Hp):∃H',Kb p l ts H'/\KeptK H H':=by
 refine⟨λk=>if k=900 then .nst 1 75 [.iv (.sl (raws p)),.hs 68 1,.hs 78 1,.iv (.bool true)] else if k=68 then .blk false 1 46 3 (rats l) else if k=78 then .blk false 1 3 1 (ilims ts) else H k,⟨_,_,by rfl,.inr ⟨1,hl,rfl,by rfl⟩,.inr ⟨1,ht,rfl,by rfl⟩⟩,λk h1 h2=>?_⟩;show (if k=900 then _ else if k=68 then _ else if k=78 then _ else H k)=H k;rw[if_neg h2,if_neg (by omega),if_neg (by omega)]
theorem add0_ok (p:List RI)(x:RQ)(t:Int)(H:AL.Hp)(hB:Kb p [] [] H):ACI Tryz.prog 100 [.hp 900 1 0 0,.agg (qrow x),.iv (.int .i64 t)] H (λ_ H'=>Kb p [x] [t] H'/\KeptK H H'):=by
 refine ACI.by_walk zi0 (rs:=[]) ords Tryz.func100 (by rfl) (by rfl) (by rfl) (by rfl) (by rfl) (by rfl) ?_ ?_
 .obtain⟨H',h⟩:=kb_ex p (l:=[x]) (ts:=[t]) (by simp) (by simp) H;exact⟨.dead,H',h⟩
 obtain⟨rn,tn,h900,hR,hT⟩:=hB;obtain rfl:rn=.nils:=by
  rcases hR with ⟨_,h⟩|⟨st,h,h2,h3⟩
  .exact h
  .exact(h rfl).elim
 obtain rfl:tn=.nils:=by
  rcases hT with ⟨_,h⟩|⟨st,h,h2,h3⟩
  .exact h
  .exact(h rfl).elim
 simp (disch:=omega) only[wt,seval,reduceCtorEq,Nat.reduceEqDiff,rqs,wz,h900];refine aloop_by (λf H'=>(f 0=.hp 900 1 0 0/\f 2=.iv (.int .i64 t)/\f 4=.hp 4 ((H 4).stamp+1) 0 0/\f 6=.iv (.int .i64 0)/\f 21=.iv (.int .i64 0)/\f 22=.iv (.int .i64 0))/\H' 4=.blk false ((H 4).stamp+1) 46 3 [qrow x]/\H' 900=.nst 1 75 [.iv (.sl (raws p)),.nils,.nils,.iv (.bool true)]/\KeptK H H') (λf H=>0) ?_ ?_
 .refine⟨⟨by simp (disch:=omega) only[wt,seval,reduceCtorEq,Nat.reduceEqDiff,rqs,wz],by simp (disch:=omega) only[wt,seval,reduceCtorEq,Nat.reduceEqDiff,rqs,wz],by simp (disch:=omega) only[wt,seval,reduceCtorEq,Nat.reduceEqDiff,rqs,wz],by simp (disch:=omega) only[wt,seval,reduceCtorEq,Nat.reduceEqDiff,rqs,wz],by simp (disch:=omega) only[wt,seval,reduceCtorEq,Nat.reduceEqDiff,rqs,wz],by simp (disch:=omega) only[wt,seval,reduceCtorEq,Nat.reduceEqDiff,rqs,wz]⟩,by simp (disch:=omega) only[wt,seval,reduceCtorEq,Nat.reduceEqDiff,rqs,wz],by simp (disch:=omega) only[wt,seval,reduceCtorEq,Nat.reduceEqDiff,rqs,wz,h900],λk h1 h2=>by rw[updH_ne _ _ (by omega)]⟩
 rintro f H' ⟨⟨f0,f2,f4,f6,f21,f22⟩,g4,g9,kp⟩;simp (disch:=omega) only[wt,seval,reduceCtorEq,Nat.reduceEqDiff,rqs,wz,f0,f2,f4,f6,f21,f22,g4,g9];refine .inl ⟨tmps_by (by kernel_rfl),?_⟩
 first|exact log_by (by kernel_rfl)|refine⟨log_by (by kernel_rfl),?_⟩
 refine aloop_by (λf H''=>f 6=.iv (.int .i64 0)/\f 11=.iv (.int .i64 0)/\Kb p [x] [t] H''/\KeptK H H'') (λf H=>0) ?_ ?_
 .refine⟨by simp (disch:=omega) only[wt,seval,reduceCtorEq,Nat.reduceEqDiff,rqs,wz,f6],by simp (disch:=omega) only[wt,seval,reduceCtorEq,Nat.reduceEqDiff,rqs,wz],⟨_,_,by simp (disch:=omega) only[wt,seval,reduceCtorEq,Nat.reduceEqDiff,rqs,wz];rfl,.inr ⟨(H' 68).stamp+1,by simp,by rfl,by simp (disch:=omega) only[wt,seval,reduceCtorEq,Nat.reduceEqDiff,rqs,wz];rfl⟩,.inr ⟨(H' 78).stamp+1,by simp,by rfl,by simp (disch:=omega) only[wt,seval,reduceCtorEq,Nat.reduceEqDiff,rqs,wz];rfl⟩⟩,λk h1 h2=>?_⟩;rw[updH_ne _ _ (by omega),updH_ne _ _ (by omega),updH_ne _ _ (by omega),updH_ne _ _ (by omega),updH_ne _ _ (by omega),updH_ne _ _ (by omega)];exact kp k h1 h2
 rintro f H'' ⟨f6,f11,kb,kq⟩;simp (disch:=omega) only[wt,seval,reduceCtorEq,Nat.reduceEqDiff,rqs,wz,f6,f11];exact reti_none ⟨kb,kq⟩
set_option linter.defProp false
def atk (l:List RQ)(x:RQ):Nat->Nat
 |0=>l.length
 |i+1=>if atk l x i=l.length/\qv x<qv (l.getD i q0) then i else atk l x i
theorem atk_le (l:List RQ)(x:RQ):∀i,atk l x i=l.length\/atk l x i<i
 |0=>.inl rfl
 |i+1=>by
  have ih:=atk_le l x i;rw[atk];split
  .right;omega
  .omega
set_option maxRecDepth 100000 in
theorem addn_ok (p:List RI)(l:List RQ)(ts:List Int)(x:RQ)(t:Int)(H:AL.Hp)(hB:Kb p l ts H)(hl0:l≠[])(hl:l.length<=100)(ht:ts.length=l.length)(hq:∀r∈l,SzQ (2^20) r/\nv r.2≠0)(hx:SzQ (2^20) x)(hx0:nv x.2≠0)(hn:∀r∈l,qv r≠qv x):ACI Tryz.prog 100 [.hp 900 1 0 0,.agg (qrow x),.iv (.int .i64 t)] H (λ_ H'=>Kb p (insAt l (atk l x l.length) x) (insAt ts (atk l x l.length) t) H'/\KeptK H H'):=by
 have ht0:ts≠[]:=λe=>hl0 (by rw[e]at ht;exact List.length_eq_zero_iff.1 ht.symm)
 refine ACI.by_walk zi0 (rs:=[]) ords Tryz.func100 (by rfl) (by rfl) (by rfl) (by rfl) (by rfl) (by rfl) ?_ ?_
 .obtain⟨H',h⟩:=kb_ex p (l:=insAt l (atk l x l.length) x) (ts:=insAt ts (atk l x l.length) t) (by simp[insAt]) (by simp[insAt]) H;exact⟨.dead,H',h⟩
 obtain⟨rn,tn,h900,hR,hT⟩:=hB;obtain⟨st,-,rfl,h68⟩:∃st,l≠[]/\rn=.hs 68 st/\H 68=.blk false st 46 3 (rats l):=hR.resolve_left λh=>hl0 h.1
 obtain⟨st2,-,rfl,h78⟩:∃st,ts≠[]/\tn=.hs 78 st/\H 78=.blk false st 3 1 (ilims ts):=hT.resolve_left λh=>ht0 h.1
 clear hR hT;have cx:=copyrat_ok x (Nat.le_trans hx.1.1 (by omega)) (Nat.le_trans hx.2.1 (by omega));simp (disch:=omega) only[wt,seval,reduceCtorEq,Nat.reduceEqDiff,rqs,wz,h900,h68,h78];refine aloop_by (λf H'=>∃i:Nat,i<=l.length/\(f 0=.hp 900 1 0 0/\f 2=.iv (.int .i64 t)/\f 4=.hp 4 ((H 4).stamp+1) 0 0/\f 6=.iv (.int .i64 (atk l x i))/\f 20=.hs 68 st/\f 21=.iv (.int .i64 l.length)/\f 22=.iv (.int .i64 i))/\H' 4=.blk false ((H 4).stamp+1) 46 3 [qrow x]/\H' 900=.nst 1 75 [.iv (.sl (raws p)),.hs 68 st,.hs 78 st2,.iv (.bool true)]/\H' 68=.blk false st 46 3 (rats l)/\H' 78=.blk false st2 3 1 (ilims ts)/\KeptK H H') (λf H=>(l.length-intAt f 22).toNat) ?_ ?_
 .refine⟨0,by omega,⟨by simp (disch:=omega) only[wt,seval,reduceCtorEq,Nat.reduceEqDiff,rqs,wz],by simp (disch:=omega) only[wt,seval,reduceCtorEq,Nat.reduceEqDiff,rqs,wz],by simp (disch:=omega) only[wt,seval,reduceCtorEq,Nat.reduceEqDiff,rqs,wz],by simp (disch:=omega) only[wt,seval,reduceCtorEq,Nat.reduceEqDiff,rqs,wz];try rfl,by simp (disch:=omega) only[wt,seval,reduceCtorEq,Nat.reduceEqDiff,rqs,wz],by simp (disch:=omega) only[wt,seval,reduceCtorEq,Nat.reduceEqDiff,rqs,wz],by simp (disch:=omega) only[wt,seval,reduceCtorEq,Nat.reduceEqDiff,rqs,wz];try rfl⟩,by simp (disch:=omega) only[wt,seval,reduceCtorEq,Nat.reduceEqDiff,rqs,wz],by simp (disch:=omega) only[wt,seval,reduceCtorEq,Nat.reduceEqDiff,rqs,wz,h900],by simp (disch:=omega) only[wt,seval,reduceCtorEq,Nat.reduceEqDiff,rqs,wz,h68],by simp (disch:=omega) only[wt,seval,reduceCtorEq,Nat.reduceEqDiff,rqs,wz,h78],λk h1 h2=>by rw[updH_ne _ _ (by omega)]⟩
 rintro f H' ⟨i,hi,⟨f0,f2,f4,f6,f20,f21,f22⟩,g4,g9,g68,g78,kp⟩;have ak:=atk_le l x i;rw[intAt_of f22];simp (disch:=omega) only[wt,seval,reduceCtorEq,Nat.reduceEqDiff,rqs,wz,f0,f2,f4,f6,f20,f21,f22,g4,g9,g68,g78];refine if_by (λhlt=>?_) (λhlt=>?_)
 .have hlt':i<l.length:=by omega
  obtain⟨sy,ny⟩:=hq _ (getD_mem hlt' q0);have cy:=copyrat_ok (l.getD i q0) (Nat.le_trans sy.1.1 (by omega)) (Nat.le_trans sy.2.1 (by omega));have c1:=qcmpr_ok x (l.getD i q0) (hx.mono (by omega)) (sy.mono (by omega)) hx0 ny;have hne:qv (l.getD i q0)≠qv x:=hn _ (getD_mem hlt' q0);have c0:¬sgq (qv x-qv (l.getD i q0))=0:=λe=>hne (by have:=sgq_eq_zero.1 e;grind)
  by_cases hc:qv x<qv (l.getD i q0)
  .have s1:sgq (qv x-qv (l.getD i q0)) = -1:=sgq_neg (by grind);rw[s1]at c1;by_cases ha:atk l x i=l.length
   .have ea:atk l x (i+1)=i:=by rw[atk,if_pos ⟨ha,hc⟩]
    have hia:(i:Int)<((atk l x i:Nat):Int):=by omega
    simp (disch:=omega) only[wt,seval,reduceCtorEq,Nat.reduceEqDiff,rqs,wz,f0,f2,f4,f6,f20,f21,f22,g4,g9,g68,g78];refine .inl ⟨tmps_by (by kernel_rfl),?_⟩;refine call_by (cx) (by first|rfl|(simp only[tocvs,tocv,toboxes,tobox,updH_at,Nat.reduceEqDiff,↓reduceIte,f0,f2,f4,f6,f20,f21,f22,g4,g9,g68,g78];rfl)) (by simp) ?_;simp (disch:=omega) only[wt,seval,reduceCtorEq,Nat.reduceEqDiff,rqs,wz,f0,f2,f4,f6,f20,f21,f22,g4,g9,g68,g78];refine call_by (cy) (by first|rfl|(simp only[tocvs,tocv,toboxes,tobox,updH_at,Nat.reduceEqDiff,↓reduceIte,f0,f2,f4,f6,f20,f21,f22,g4,g9,g68,g78];rfl)) (by simp) ?_;simp (disch:=omega) only[wt,seval,reduceCtorEq,Nat.reduceEqDiff,rqs,wz,f0,f2,f4,f6,f20,f21,f22,g4,g9,g68,g78];refine call_by (c1) (by first|rfl|(simp only[tocvs,tocv,toboxes,tobox,updH_at,Nat.reduceEqDiff,↓reduceIte,f0,f2,f4,f6,f20,f21,f22,g4,g9,g68,g78,hia];rfl)) (by simp) ?_;simp (disch:=omega) only[wt,seval,reduceCtorEq,Nat.reduceEqDiff,rqs,wz,f0,f2,f4,f6,f20,f21,f22,g4,g9,g68,g78,hia]
    first|exact log_by (by kernel_rfl)|refine⟨log_by (by kernel_rfl),?_⟩
    refine⟨⟨i+1,by omega,⟨by rw[ea],by omega⟩,λk h1 h2=>by rw[updH_ne _ _ (by omega),updH_ne _ _ (by omega)];exact kp k h1 h2⟩,by omega⟩
   .have ea:atk l x (i+1)=atk l x i:=by rw[atk,if_neg (λh=>ha h.1)]
    have hia:¬(i:Int)<((atk l x i:Nat):Int):=by omega
    simp (disch:=omega) only[wt,seval,reduceCtorEq,Nat.reduceEqDiff,rqs,wz,f0,f2,f4,f6,f20,f21,f22,g4,g9,g68,g78];refine .inl ⟨tmps_by (by kernel_rfl),?_⟩;refine call_by (cx) (by first|rfl|(simp only[tocvs,tocv,toboxes,tobox,updH_at,Nat.reduceEqDiff,↓reduceIte,f0,f2,f4,f6,f20,f21,f22,g4,g9,g68,g78];rfl)) (by simp) ?_;simp (disch:=omega) only[wt,seval,reduceCtorEq,Nat.reduceEqDiff,rqs,wz,f0,f2,f4,f6,f20,f21,f22,g4,g9,g68,g78];refine call_by (cy) (by first|rfl|(simp only[tocvs,tocv,toboxes,tobox,updH_at,Nat.reduceEqDiff,↓reduceIte,f0,f2,f4,f6,f20,f21,f22,g4,g9,g68,g78];rfl)) (by simp) ?_;simp (disch:=omega) only[wt,seval,reduceCtorEq,Nat.reduceEqDiff,rqs,wz,f0,f2,f4,f6,f20,f21,f22,g4,g9,g68,g78];refine call_by (c1) (by first|rfl|(simp only[tocvs,tocv,toboxes,tobox,updH_at,Nat.reduceEqDiff,↓reduceIte,f0,f2,f4,f6,f20,f21,f22,g4,g9,g68,g78,hia];rfl)) (by simp) ?_;simp (disch:=omega) only[wt,seval,reduceCtorEq,Nat.reduceEqDiff,rqs,wz,f0,f2,f4,f6,f20,f21,f22,g4,g9,g68,g78,hia]
    first|exact log_by (by kernel_rfl)|refine⟨log_by (by kernel_rfl),?_⟩
    refine⟨⟨i+1,by omega,⟨by rw[ea],by omega⟩,λk h1 h2=>by rw[updH_ne _ _ (by omega),updH_ne _ _ (by omega)];exact kp k h1 h2⟩,by omega⟩
  .have ea:atk l x (i+1)=atk l x i:=by rw[atk,if_neg (λh=>hc h.2)]
   have s1:¬sgq (qv x-qv (l.getD i q0))<0:=by
    have:=Rat.not_lt.mp hc;rcases sgq_cases (qv x-qv (l.getD i q0)) with ⟨_,e⟩|⟨_,e⟩|⟨h,e⟩<;>rw[e]
    .decide
    .decide
    .exfalso;grind
   generalize sgq (qv x-qv (l.getD i q0))=s at *;simp (disch:=omega) only[wt,seval,reduceCtorEq,Nat.reduceEqDiff,rqs,wz,f0,f2,f4,f6,f20,f21,f22,g4,g9,g68,g78];refine .inl ⟨tmps_by (by kernel_rfl),?_⟩;refine call_by (cx) (by first|rfl|(simp only[tocvs,tocv,toboxes,tobox,updH_at,Nat.reduceEqDiff,↓reduceIte,f0,f2,f4,f6,f20,f21,f22,g4,g9,g68,g78];rfl)) (by simp) ?_;simp (disch:=omega) only[wt,seval,reduceCtorEq,Nat.reduceEqDiff,rqs,wz,f0,f2,f4,f6,f20,f21,f22,g4,g9,g68,g78];refine call_by (cy) (by first|rfl|(simp only[tocvs,tocv,toboxes,tobox,updH_at,Nat.reduceEqDiff,↓reduceIte,f0,f2,f4,f6,f20,f21,f22,g4,g9,g68,g78];rfl)) (by simp) ?_;simp (disch:=omega) only[wt,seval,reduceCtorEq,Nat.reduceEqDiff,rqs,wz,f0,f2,f4,f6,f20,f21,f22,g4,g9,g68,g78];refine call_by (c1) (by first|rfl|(simp only[tocvs,tocv,toboxes,tobox,updH_at,Nat.reduceEqDiff,↓reduceIte,f0,f2,f4,f6,f20,f21,f22,g4,g9,g68,g78,s1,c0];rfl)) (by simp) ?_;simp (disch:=omega) only[wt,seval,reduceCtorEq,Nat.reduceEqDiff,rqs,wz,f0,f2,f4,f6,f20,f21,f22,g4,g9,g68,g78,s1,c0]
   first|exact log_by (by kernel_rfl)|refine⟨log_by (by kernel_rfl),?_⟩
   refine⟨⟨i+1,by omega,⟨by rw[ea],by omega⟩,λk h1 h2=>by rw[updH_ne _ _ (by omega),updH_ne _ _ (by omega)];exact kp k h1 h2⟩,by omega⟩
 .obtain rfl:i=l.length:=by omega
  have hln:(rats l).length=l.length:=by simp[rats]
  have htl:(ilims ts).length=l.length:=by rw[ilims_len,ht]
  simp (disch:=omega) only[wt,seval,reduceCtorEq,Nat.reduceEqDiff,rqs,wz,f0,f2,f4,f6,f20,f21,f22,g4,g9,g68,g78];refine .inl ⟨tmps_by (by kernel_rfl),?_⟩
  first|exact log_by (by kernel_rfl)|refine⟨log_by (by kernel_rfl),?_⟩
  have ee:(((l.length+1:Nat):Int))-1=(l.length:Int):=by omega
  refine aloop_by (λf H''=>∃i:Nat,atk l x l.length<=i/\i<=l.length/\(f 0=.hp 900 1 0 0/\f 6=.iv (.int .i64 (atk l x l.length))/\f 11=.iv (.int .i64 i))/\H'' 900=.nst 1 75 [.iv (.sl (raws p)),.hs 68 (st+1),.hs 78 (st2+1),.iv (.bool true)]/\H'' 68=.blk false (st+1) 46 3 (rats (insAt l i x))/\H'' 78=.blk false (st2+1) 3 1 (ilims (insAt ts i t))/\KeptK H H'') (λf H=>(intAt f 11).toNat) ?_ ?_
  .refine⟨l.length,by omega,by omega,⟨by simp (disch:=omega) only[wt,seval,reduceCtorEq,Nat.reduceEqDiff,rqs,wz,f0],by simp (disch:=omega) only[wt,seval,reduceCtorEq,Nat.reduceEqDiff,rqs,wz,f6];try rfl,by simp (disch:=omega) only[wt,seval,reduceCtorEq,Nat.reduceEqDiff,rqs,wz,ee];try rfl⟩,by simp (disch:=omega) only[wt,seval,reduceCtorEq,Nat.reduceEqDiff,rqs,wz];try rfl,by rw[insAt_end];simp (disch:=omega) only[wt,seval,reduceCtorEq,Nat.reduceEqDiff,rqs,wz];try rfl,by rw[<-ht,insAt_end,ilims_snoc];simp (disch:=omega) only[wt,seval,reduceCtorEq,Nat.reduceEqDiff,rqs,wz];try rfl,λk h1 h2=>?_⟩;rw[updH_ne _ _ (by omega),updH_ne _ _ (by omega),updH_ne _ _ (by omega),updH_ne _ _ (by omega),updH_ne _ _ (by omega),updH_ne _ _ (by omega)];exact kp k h1 h2
  clear f0 f2 f4 f20 f21 f6 f22 g4 g9 g68 g78;rintro f H'' ⟨i,hi1,hi2,⟨f0,f6,f11⟩,g9,g68,g78,kp'⟩;rw[intAt_of f11];simp (disch:=omega) only[wt,seval,reduceCtorEq,Nat.reduceEqDiff,rqs,wz,f0,f6,f11,g9,g68,g78];refine if_by (λhlt=>?_) (λhlt=>?_)
  .obtain⟨j,rfl⟩:∃j,i=j+1:=⟨i-1,by omega⟩;have ej:((j+1:Nat):Int)-1=(j:Int):=by omega
   have l1:=insAt_len (k:=j+1) x hi2;have l2:=insAt_len (l:=ts) (k:=j+1) t (by omega);have b1:=insAt_before (l:=l) (k:=j) x q0 (by omega);have b2:=insAt_before (l:=ts) (k:=j) t 0 (by omega);have a1:=insAt_at (l:=l) (k:=j+1) x q0 hi2;have a2:=insAt_at (l:=ts) (k:=j+1) t 0 (by omega);have w1:=insAt_swap (l:=l) (k:=j) x q0 (by omega);have w2:=insAt_swap (l:=ts) (k:=j) t 0 (by omega);have l3:((insAt l (j+1) x).set (j+1) (l.getD j q0)).length=l.length+1:=by rw[List.length_set];exact l1
   have l4:((insAt ts (j+1) t).set (j+1) (ts.getD j 0)).length=ts.length+1:=by rw[List.length_set];exact l2
   simp (disch:=omega) only[wt,seval,reduceCtorEq,Nat.reduceEqDiff,rqs,wz,f0,f6,f11,g9,g68,g78,ej,l1,l2,l3,l4,ht,b1,b2,a1,a2,w1,w2];refine .inl ⟨tmps_by (by kernel_rfl),?_⟩
   first|exact log_by (by kernel_rfl)|refine⟨log_by (by kernel_rfl),?_⟩
   refine .inl ⟨tmps_by (by kernel_rfl),?_⟩
   first|exact log_by (by kernel_rfl)|refine⟨log_by (by kernel_rfl),?_⟩
   have is:∀(X:List Int) (k:Nat) (v:Int),(ilims X).set k [.int .i64 v]=ilims (X.set k v):=λX k v=>by simp[ilims,List.map_set]
   have isp:∀(Y:List Int) (v:Int),j<Y.length->splice ((ilims Y).getD j []) 0 [.int .i64 v]=[.int .i64 v]:=λY v hj=>by rw[ilims_at hj];rfl
   rw[is,isp _ _ (by omega),is,w2];refine⟨j,by omega,by omega,rfl,rfl,rfl,λk h1 h2=>?_⟩;rw[updH_ne _ _ (by omega),updH_ne _ _ (by omega),updH_ne _ _ (by omega),updH_ne _ _ (by omega)];exact kp' k h1 h2
  .obtain rfl:i=atk l x l.length:=by omega
   simp (disch:=omega) only[wt,seval,reduceCtorEq,Nat.reduceEqDiff,rqs,wz,f0,f6,f11,g9,g68,g78];exact reti_none ⟨⟨_,_,g9,.inr ⟨st+1,by simp[insAt],rfl,g68⟩,.inr ⟨st2+1,by simp[insAt],rfl,g78⟩⟩,kp'⟩
set_option linter.defProp false
theorem atk_spec {l:List RQ}{x:RQ}(hn:∀r∈l,qv r≠qv x):∀i,i<=l.length->(∀j,j<i->j<atk l x i->qv (l.getD j q0)<qv x)/\(atk l x i≠l.length->atk l x i<i/\qv x<qv (l.getD (atk l x i) q0))
 |0,_=>⟨λj h=>by omega,λh=>(h rfl).elim⟩
 |i+1,hi=>by
  obtain⟨a,b⟩:=atk_spec hn i (by omega);have hne:=hn _ (getD_mem (show i<l.length by omega) q0);by_cases h:atk l x i=l.length
  .by_cases h2:qv x<qv (l.getD i q0)
   .have e:atk l x (i+1)=i:=by rw[atk,if_pos ⟨h,h2⟩]
    rw[e];exact⟨λj _ hj=>a j hj (by omega),λ_=>⟨by omega,h2⟩⟩
   .have e:atk l x (i+1)=l.length:=by rw[atk,if_neg (λk=>h2 k.2),h]
    rw[e];refine⟨λj hj _=>?_,λk=>(k rfl).elim⟩;by_cases hji:j=i
    .subst hji;exact Rat.lt_of_le_of_ne (Rat.not_lt.mp h2) hne
    .exact a j (by omega) (by omega)
  .have e:atk l x (i+1)=atk l x i:=by rw[atk,if_neg (λk=>h k.1)]
   rw[e];have:=(b h).1;exact⟨λj _ hj=>a j (by omega) hj,λk=>⟨by omega,(b h).2⟩⟩
theorem rise_atk {l:List RQ}{x:RQ}(hr:Rise l)(hn:∀r∈l,qv r≠qv x):Rise (insAt l (atk l x l.length) x):=by
 obtain⟨a,b⟩:=atk_spec hn l.length (Nat.le_refl _);have hk:=atk_le l x l.length;refine rise_ins hr (by omega) (λj hj=>a j (by omega) hj) (λj h1 h2=>?_);have h3:=(b (by omega)).2;by_cases hjk:j=atk l x l.length
 .subst hjk;exact h3
 .have h4:=rise_get hr (show atk l x l.length<j by omega) h2;grind
set_option linter.defProp false
set_option maxRecDepth 100000 in
theorem addin_ok (p:List RI)(l:List RQ)(ts:List Int)(x:RQ)(t:Int)(H:AL.Hp)(hB:Kb p l ts H)(hr:Rise l)(hl:l.length<=100)(ht:ts.length=l.length)(hq:∀r∈l,SzQ (2^20) r/\nv r.2≠0)(hx:SzQ (2^20) x)(hx0:nv x.2≠0){m:Nat}(hm:m<l.length)(e:qv (l.getD m q0)=qv x)(b1:0<=ts.getD m 0/\ts.getD m 0<=1000)(b2:0<=t/\t<=1000):ACI Tryz.prog 100 [.hp 900 1 0 0,.agg (qrow x),.iv (.int .i64 t)] H (λ_ H'=>Kb p l (ts.set m (ts.getD m 0+t)) H'/\KeptK H H'):=by
 have hl0:l≠[]:=λe=>by rw[e]at hm;simp at hm
 have ht0:ts≠[]:=λe=>by rw[e]at ht;rw[<-ht]at hm;simp at hm
 have hts0:ts.set m (ts.getD m 0+t)≠[]:=λe=>ht0 (List.length_eq_zero_iff.1 (by rw[<-List.length_set (i:=m) (a:=ts.getD m 0+t),e];rfl))
 refine ACI.by_walk zi0 (rs:=[]) ords Tryz.func100 (by rfl) (by rfl) (by rfl) (by rfl) (by rfl) (by rfl) ?_ ?_
 .obtain⟨H',h⟩:=kb_ex p (l:=l) (ts:=ts.set m (ts.getD m 0+t)) hl0 hts0 H;exact⟨.dead,H',h⟩
 obtain⟨rn,tn,h900,hR,hT⟩:=hB;obtain⟨st,-,rfl,h68⟩:∃st,l≠[]/\rn=.hs 68 st/\H 68=.blk false st 46 3 (rats l):=hR.resolve_left λh=>hl0 h.1
 obtain⟨st2,-,rfl,h78⟩:∃st,ts≠[]/\tn=.hs 78 st/\H 78=.blk false st 3 1 (ilims ts):=hT.resolve_left λh=>ht0 h.1
 clear hR hT;have cx:=copyrat_ok x (Nat.le_trans hx.1.1 (by omega)) (Nat.le_trans hx.2.1 (by omega));simp (disch:=omega) only[wt,seval,reduceCtorEq,Nat.reduceEqDiff,rqs,wz,h900,h68,h78];refine aloop_by (λf H'=>∃i:Nat,i<=m/\(f 0=.hp 900 1 0 0/\f 2=.iv (.int .i64 t)/\f 4=.hp 4 ((H 4).stamp+1) 0 0/\f 6=.iv (.int .i64 l.length)/\f 20=.hs 68 st/\f 21=.iv (.int .i64 l.length)/\f 22=.iv (.int .i64 i))/\H' 4=.blk false ((H 4).stamp+1) 46 3 [qrow x]/\H' 900=.nst 1 75 [.iv (.sl (raws p)),.hs 68 st,.hs 78 st2,.iv (.bool true)]/\H' 68=.blk false st 46 3 (rats l)/\H' 78=.blk false st2 3 1 (ilims ts)/\KeptK H H') (λf H=>(l.length-intAt f 22).toNat) ?_ ?_
 .refine⟨0,by omega,⟨by simp (disch:=omega) only[wt,seval,reduceCtorEq,Nat.reduceEqDiff,rqs,wz],by simp (disch:=omega) only[wt,seval,reduceCtorEq,Nat.reduceEqDiff,rqs,wz],by simp (disch:=omega) only[wt,seval,reduceCtorEq,Nat.reduceEqDiff,rqs,wz],by simp (disch:=omega) only[wt,seval,reduceCtorEq,Nat.reduceEqDiff,rqs,wz];try rfl,by simp (disch:=omega) only[wt,seval,reduceCtorEq,Nat.reduceEqDiff,rqs,wz],by simp (disch:=omega) only[wt,seval,reduceCtorEq,Nat.reduceEqDiff,rqs,wz],by simp (disch:=omega) only[wt,seval,reduceCtorEq,Nat.reduceEqDiff,rqs,wz];try rfl⟩,by simp (disch:=omega) only[wt,seval,reduceCtorEq,Nat.reduceEqDiff,rqs,wz],by simp (disch:=omega) only[wt,seval,reduceCtorEq,Nat.reduceEqDiff,rqs,wz,h900],by simp (disch:=omega) only[wt,seval,reduceCtorEq,Nat.reduceEqDiff,rqs,wz,h68],by simp (disch:=omega) only[wt,seval,reduceCtorEq,Nat.reduceEqDiff,rqs,wz,h78],λk h1 h2=>by rw[updH_ne _ _ (by omega)]⟩
 rintro f H' ⟨i,hi,⟨f0,f2,f4,f6,f20,f21,f22⟩,g4,g9,g68,g78,kp⟩;rw[intAt_of f22];simp (disch:=omega) only[wt,seval,reduceCtorEq,Nat.reduceEqDiff,rqs,wz,f0,f2,f4,f6,f20,f21,f22,g4,g9,g68,g78];refine if_by (λhlt=>?_) (λhlt=>by omega);have hlt':i<l.length:=by omega
 obtain⟨sy,ny⟩:=hq _ (getD_mem hlt' q0);have cy:=copyrat_ok (l.getD i q0) (Nat.le_trans sy.1.1 (by omega)) (Nat.le_trans sy.2.1 (by omega));have c1:=qcmpr_ok x (l.getD i q0) (hx.mono (by omega)) (sy.mono (by omega)) hx0 ny;by_cases him:i=m
 .subst him;have s1:sgq (qv x-qv (l.getD i q0))=0:=sgq_eq_zero.2 (by rw[e];grind);rw[s1]at c1;have ew:IntKind.i64.wrap (ts.getD i 0+t)=ts.getD i 0+t:=wrap_i64 _ (by omega) (by omega);have is:∀(X:List Int) (k:Nat) (v:Int),(ilims X).set k [.int .i64 v]=ilims (X.set k v):=λX k v=>by simp[ilims,List.map_set]
  have isp:∀(v:Int),splice ((ilims ts).getD i []) 0 [.int .i64 v]=[.int .i64 v]:=λv=>by rw[ilims_at (by omega)];rfl
  simp (disch:=omega) only[wt,seval,reduceCtorEq,Nat.reduceEqDiff,rqs,wz,f0,f2,f4,f6,f20,f21,f22,g4,g9,g68,g78];refine .inl ⟨tmps_by (by kernel_rfl),?_⟩;refine call_by (cx) (by first|rfl|(simp only[tocvs,tocv,toboxes,tobox,updH_at,Nat.reduceEqDiff,↓reduceIte,f0,f2,f4,f6,f20,f21,f22,g4,g9,g68,g78];rfl)) (by simp) ?_;simp (disch:=omega) only[wt,seval,reduceCtorEq,Nat.reduceEqDiff,rqs,wz,f0,f2,f4,f6,f20,f21,f22,g4,g9,g68,g78];refine call_by (cy) (by first|rfl|(simp only[tocvs,tocv,toboxes,tobox,updH_at,Nat.reduceEqDiff,↓reduceIte,f0,f2,f4,f6,f20,f21,f22,g4,g9,g68,g78];rfl)) (by simp) ?_;simp (disch:=omega) only[wt,seval,reduceCtorEq,Nat.reduceEqDiff,rqs,wz,f0,f2,f4,f6,f20,f21,f22,g4,g9,g68,g78];refine call_by (c1) (by first|rfl|(simp only[tocvs,tocv,toboxes,tobox,updH_at,Nat.reduceEqDiff,↓reduceIte,f0,f2,f4,f6,f20,f21,f22,g4,g9,g68,g78,ew,ht,is,isp];rfl)) (by simp) ?_;simp (disch:=omega) only[wt,seval,reduceCtorEq,Nat.reduceEqDiff,rqs,wz,f0,f2,f4,f6,f20,f21,f22,g4,g9,g68,g78,ew,ht,is,isp]
  first|exact log_by (by kernel_rfl)|refine⟨log_by (by kernel_rfl),?_⟩
  refine reti_none ⟨⟨.hs 68 st,.hs 78 st2,?_,.inr ⟨st,hl0,rfl,?_⟩,.inr ⟨st2,hts0,rfl,?_⟩⟩,λk h1 h2=>?_⟩
  .rw[updH_ne _ _ (by decide),updH_ne _ _ (by decide),updH_ne _ _ (by decide)];exact g9
  .rw[updH_ne _ _ (by decide),updH_ne _ _ (by decide),updH_ne _ _ (by decide)];exact g68
  .rw[updH_same]
  .rw[updH_ne _ _ (by omega),updH_ne _ _ (by omega),updH_ne _ _ (by omega)];exact kp k h1 h2
 .have s1:sgq (qv x-qv (l.getD i q0))=1:=sgq_pos (by have:=rise_get hr (show i<m by omega) hm;rw[e]at this;grind);rw[s1]at c1;simp (disch:=omega) only[wt,seval,reduceCtorEq,Nat.reduceEqDiff,rqs,wz,f0,f2,f4,f6,f20,f21,f22,g4,g9,g68,g78];refine .inl ⟨tmps_by (by kernel_rfl),?_⟩;refine call_by (cx) (by first|rfl|(simp only[tocvs,tocv,toboxes,tobox,updH_at,Nat.reduceEqDiff,↓reduceIte,f0,f2,f4,f6,f20,f21,f22,g4,g9,g68,g78];rfl)) (by simp) ?_;simp (disch:=omega) only[wt,seval,reduceCtorEq,Nat.reduceEqDiff,rqs,wz,f0,f2,f4,f6,f20,f21,f22,g4,g9,g68,g78];refine call_by (cy) (by first|rfl|(simp only[tocvs,tocv,toboxes,tobox,updH_at,Nat.reduceEqDiff,↓reduceIte,f0,f2,f4,f6,f20,f21,f22,g4,g9,g68,g78];rfl)) (by simp) ?_;simp (disch:=omega) only[wt,seval,reduceCtorEq,Nat.reduceEqDiff,rqs,wz,f0,f2,f4,f6,f20,f21,f22,g4,g9,g68,g78];refine call_by (c1) (by first|rfl|(simp only[tocvs,tocv,toboxes,tobox,updH_at,Nat.reduceEqDiff,↓reduceIte,f0,f2,f4,f6,f20,f21,f22,g4,g9,g68,g78];rfl)) (by simp) ?_;simp (disch:=omega) only[wt,seval,reduceCtorEq,Nat.reduceEqDiff,rqs,wz,f0,f2,f4,f6,f20,f21,f22,g4,g9,g68,g78]
  first|exact log_by (by kernel_rfl)|refine⟨log_by (by kernel_rfl),?_⟩
  refine⟨⟨i+1,by omega,rfl,λk h1 h2=>by rw[updH_ne _ _ (by omega),updH_ne _ _ (by omega)];exact kp k h1 h2⟩,by omega⟩
set_option linter.defProp false
def hasq (l:List RQ)(x:RQ):Bool:=l.any λr=>decide (qv r=qv x)
def addl (l:List RQ)(x:RQ):List RQ:=if hasq l x then l else insAt l (atk l x l.length) x
def whq (l:List RQ)(x:RQ):Nat:=l.findIdx λr=>decide (qv r=qv x)
def addt (l:List RQ)(ts:List Int)(x:RQ)(t:Int):List Int:=if hasq l x then ts.set (whq l x) (ts.getD (whq l x) 0+t) else insAt ts (atk l x l.length) t
structure Kl (l:List RQ) (ts:List Int) (n b:Nat):Prop where
 rise:Rise l
 len:l.length<=n
 tlen:ts.length=l.length
 sz:∀r∈l,SzQ (2^20) r/\nv r.2≠0
 tb:∀t∈ts,0<=t/\t<=b
theorem Kl.nil:Kl [] [] 0 0:=⟨List.Pairwise.nil,Nat.le_refl _,rfl,λ_ h=>(by simp at h),λ_ h=>(by simp at h)⟩
theorem whq_spec {l:List RQ}{x:RQ}(h:hasq l x=true):whq l x<l.length/\qv (l.getD (whq l x) q0)=qv x:=by
 have hm:whq l x<l.length:=List.findIdx_lt_length.2 (by simpa [hasq] using h);have:=List.findIdx_getElem (w:=hm);refine⟨hm,?_⟩;rw[List.getD,List.getElem?_eq_getElem hm,Option.getD_some];exact of_decide_eq_true this
theorem hasq_not {l:List RQ}{x:RQ}(h:¬hasq l x=true):∀r∈l,qv r≠qv x:=λr hr e=>h (List.any_eq_true.2 ⟨r,hr,decide_eq_true e⟩)
theorem addl_mem {l:List RQ}{x:RQ}(r:Rat):r∈(addl l x).map qv↔r∈l.map qv\/r=qv x:=by
 unfold addl;split
 .rename_i h;obtain⟨hm,e⟩:=whq_spec h;refine⟨.inl,λh=>h.elim id λh=>?_⟩;rw[h,<-e];exact List.mem_map_of_mem (getD_mem hm q0)
 .simp only[List.mem_map,insAt_mem];constructor
  .rintro⟨y,rfl|h,rfl⟩
   .exact .inr rfl
   .exact .inl ⟨y,h,rfl⟩
  .rintro(⟨y,h,rfl⟩|rfl)
   .exact⟨y,.inr h,rfl⟩
   .exact⟨x,.inl rfl,rfl⟩
theorem Kl.add {l:List RQ}{ts:List Int}{x:RQ}{t:Int}{n b:Nat}(k:Kl l ts n b)(ht:0<=t/\t<=3)(hx:SzQ (2^20) x)(hx0:nv x.2≠0):Kl (addl l x) (addt l ts x t) (n+1) (b+3):=by
 have k1:=k.len;by_cases he:hasq l x=true
 .rw[addl,addt,if_pos he,if_pos he];obtain⟨hm,e⟩:=whq_spec he;have hmt:whq l x<ts.length:=by rw[k.tlen];exact hm
  have tm:=k.tb _ (getD_mem hmt 0);refine⟨k.rise,by omega,by rw[List.length_set];exact k.tlen,k.sz,λs h=>?_⟩;rcases List.mem_or_eq_of_mem_set h with h|h
  .have:=k.tb _ h;omega
  .omega
 .rw[addl,addt,if_neg he,if_neg he];have ha:=atk_le l x l.length;refine⟨rise_atk k.rise (hasq_not he),by rw[insAt_len (l:=l) _ (by omega)];omega,by rw[insAt_len (l:=ts) _ (by rw[k.tlen];omega),insAt_len (l:=l) _ (by omega),k.tlen],λr h=>?_,λs h=>?_⟩
  .rcases insAt_mem.1 h with rfl|h
   .exact⟨hx,hx0⟩
   .exact k.sz _ h
  .rcases insAt_mem.1 h with rfl|h
   .omega
   .have:=k.tb _ h;omega
theorem add_ok (p:List RI)(l:List RQ)(ts:List Int)(x:RQ)(t:Int)(H:AL.Hp)(hB:Kb p l ts H){n b:Nat}(k:Kl l ts n b)(hn:n<=10)(hb:b<=100)(ht:0<=t/\t<=3)(hx:SzQ (2^20) x)(hx0:nv x.2≠0) :
  ACI Tryz.prog 100 [.hp 900 1 0 0,.agg (qrow x),.iv (.int .i64 t)] H (λ_ H'=>Kb p (addl l x) (addt l ts x t) H'/\KeptK H H'):=by
 have k1:=k.len;by_cases hl0:l=[]
 .subst hl0;obtain rfl:ts=[]:=List.length_eq_zero_iff.1 k.tlen;exact add0_ok p x t H hB
 by_cases he:hasq l x=true
 .rw[addl,addt,if_pos he,if_pos he];obtain⟨hm,e⟩:=whq_spec he;have hmt:whq l x<ts.length:=by rw[k.tlen];exact hm
  have tm:=k.tb _ (getD_mem hmt 0);exact addin_ok p l ts x t H hB k.rise (by omega) k.tlen k.sz hx hx0 hm e (by omega) (by omega)
 .rw[addl,addt,if_neg he,if_neg he];exact addn_ok p l ts x t H hB hl0 (by omega) k.tlen k.sz hx hx0 (hasq_not he)
def l3:List RQ:=[((true,[1]),[1]),((false,[]),[1]),((false,[1]),[1])]
theorem three:∃D,Kw ([0,-1,0,1].map canon) D 3 8 (l3.map qv):=by
 have b0:=Bw.start (c:=1) (by decide) (by decide);have b1:=b0.lin (n:=-1) (d:=1) (by decide) (by decide) (by decide) 0 (by decide);have b2:=b1.lin (n:=0) (d:=1) (by decide) (by decide) (by decide) 0 (by decide);have b3:=b2.lin (n:=1) (d:=1) (by decide) (by decide) (by decide) 0 (by decide);have e:trimz (lmul (lmul (lmul [1] [-(-1),1] (0+1)) [-0,1] (0+1)) [-1,1] (0+1))=[0,-1,0,1]:=by rfl
 have b4:=b3.of_ps (Q:=[0,-1,0,1]) (by rw[<-e,ps_trimz]);have q1:qv ((true,[1]),[1]) = -1:=by rfl
 have q2:qv ((false,[]),[1])=0:=by rfl
 have q3:qv ((false,[1]),[1])=1:=by rfl
 have b5:Bw [0,-1,0,1] (·∈l3.map qv) 3 7 0:=b4.congr λr=>by
  simp only[l3,List.map_cons,List.map_nil,List.mem_cons,List.not_mem_nil,or_false,q1,q2,q3,false_or];rw[show ((-1:Int):Rat)/((1:Int):Rat) = -1 by decide +kernel,show ((0:Int):Rat)/((1:Int):Rat)=0 by decide +kernel,show ((1:Int):Rat)/((1:Int):Rat)=1 by decide +kernel,or_assoc]
 have hr:Rise l3:=by
  unfold Rise l3;simp only[List.pairwise_cons,List.mem_cons,List.not_mem_nil,or_false,forall_eq_or_imp,forall_eq,q1,q2,q3];refine⟨⟨by decide,by decide⟩,by decide,?_⟩;simp
 obtain⟨D,h⟩:=b5.kw (by omega) (by omega) (by omega) hr (by rfl);exact⟨D,h⟩
def kk (rs:List (Int×Int×Int))(i:Nat):Int×Int×Int:=(clz (rs.getD i (0,0,0)).1 (-1000000) 1000000,clz (rs.getD i (0,0,0)).2.1 1 1000,clz (rs.getD i (0,0,0)).2.2 1 3)
def kx (rs:List (Int×Int×Int))(i:Nat):RQ:=crat (((kk rs i).1:Rat)/((kk rs i).2.1:Rat))
def bL (rs:List (Int×Int×Int)):Nat->List RQ
 |0=>[]
 |i+1=>addl (bL rs i) (kx rs i)
def bT (rs:List (Int×Int×Int)):Nat->List Int
 |0=>[]
 |i+1=>addt (bL rs i) (bT rs i) (kx rs i) (kk rs i).2.2
def bQ (c:Int)(rs:List (Int×Int×Int)):Nat->List Int
 |0=>[c]
 |i+1=>lmul (bQ c rs i) [-(kk rs i).1,(kk rs i).2.1] (kk rs i).2.2.toNat
def ab (qs:List (Int×Int))(j:Nat):Int×Int:=(clz (qs.getD j (0,0)).1 (-1000) 1000,clz (qs.getD j (0,0)).2 1 1000)
def bR (Q:List Int)(qs:List (Int×Int)):Nat->List Int
 |0=>Q
 |j+1=>pmul (bR Q qs j) [(ab qs j).1*(ab qs j).1+(ab qs j).2,-2*(ab qs j).1,1]
theorem kk_bd (rs:List (Int×Int×Int))(i:Nat):(-1000000<=(kk rs i).1/\(kk rs i).1<=1000000)/\(1<=(kk rs i).2.1/\(kk rs i).2.1<=1000)/\1<=(kk rs i).2.2/\(kk rs i).2.2<=3:=⟨clz_bd (by decide),clz_bd (by decide),clz_bd (by decide)⟩
theorem ab_bd (qs:List (Int×Int))(j:Nat):(-1000<=(ab qs j).1/\(ab qs j).1<=1000)/\1<=(ab qs j).2/\(ab qs j).2<=1000:=⟨clz_bd (by decide),clz_bd (by decide)⟩
theorem kx_val (rs:List (Int×Int×Int))(i:Nat):qv (kx rs i)=((kk rs i).1:Rat)/((kk rs i).2.1:Rat):=qv_crat _
theorem kx_sz (rs:List (Int×Int×Int))(i:Nat):SzQ 1 (kx rs i)/\nv (kx rs i).2≠0:=by
 obtain⟨h1,h2,-⟩:=kk_bd rs i;refine⟨(sz_crat _).mono ?_,den_crat _⟩;obtain⟨d,hd⟩:∃d:Nat,(kk rs i).2.1=(d:Int):=⟨(kk rs i).2.1.toNat,by omega⟩;rw[hd,show (((kk rs i).1:Rat)/(((d:Nat):Int):Rat))=mkRat (kk rs i).1 d by rw[Rat.mkRat_eq_div];rfl];exact qz_mk (by omega) (zl_le.mpr (by rw[Nat.pow_one];simp only[W];omega)) (wd_w (by simp only[W];omega))
theorem bl_kl (rs:List (Int×Int×Int)):∀i,Kl (bL rs i) (bT rs i) i (3*i)
 |0=>.nil
 |i+1=>by
  obtain⟨-,-,h⟩:=kk_bd rs i;exact(bl_kl rs i).add (by omega) ((kx_sz rs i).1.mono (by decide)) (kx_sz rs i).2
theorem bq_bw {c:Int}(hc:c≠0)(hW:c.natAbs<W)(rs:List (Int×Int×Int)):∀i,i<=6->∃m,m<=1+6*i/\Bw (bQ c rs i) (·∈(bL rs i).map qv) i m 0
 |0,_=>⟨1,by omega,(Bw.start hc hW).congr λr=>by simp[bL]⟩
 |i+1,hi=>by
  obtain⟨m,hm,b⟩:=bq_bw hc hW rs i (by omega);obtain⟨h1,h2,h3⟩:=kk_bd rs i;obtain⟨k,hk⟩:∃k:Nat,(kk rs i).2.2.toNat=k+1:=⟨(kk rs i).2.2.toNat-1,by omega⟩;refine⟨m+2*(k+1),by omega,?_⟩;have:=b.lin (n:=(kk rs i).1) (d:=(kk rs i).2.1) (by omega) (by simp only[W];omega) (by simp only[W];omega) k (by simp only[W];omega);rw[bQ,hk];exact this.congr λr=>by rw[bL,addl_mem,kx_val]
theorem br_bw {Q:List Int}{S:Rat->Prop}{i m:Nat}(h:Bw Q S i m 0)(hm:m<=100)(qs:List (Int×Int)):∀j,j<=2->Bw (bR Q qs j) S (i+2*j) (m+2*j) j
 |0,_=>h
 |j+1,hj=>by
  obtain⟨h1,h2⟩:=ab_bd qs j;exact(br_bw h hm qs j (by omega)).quad h2.1 h1 h2.2 (by simp only[W];omega)
end Go.Proofs.YtbnincgnfiaemaaGreat

namespace Go.Proofs.YtbnincgnfiaemaaGreat
open Go Go.Proofs Go.AL Go.RowKit
set_option linter.unusedSimpArgs false
set_option linter.unusedVariables false
set_option linter.defProp false
@[reducible] def zB:Zi:=⟨some (93,1),(· == 4),λ_=>false,.no⟩
theorem zbxB (e:Nat) : @Zi.bx zB e=(e == 4):=rfl
theorem zbsB (e:Nat) : @Zi.bs zB e=false:=rfl
theorem zstB : @Zi.st zB=.no:=rfl
theorem zslB : @zsl zB=.own none 93 1 []:=rfl
def wzB:=And.intro zbxB (And.intro zbsB (And.intro zstB zslB))
theorem lay_kn (a b c d x y:IV):lay (λi=>[(0,1),(1,1),(2,1),(3,1)][i]?) [a,b,c,d] ([0,3].zip [[x],[y]])=some ((1=1/\0+1<=4)/\(1=1/\3+1<=4)/\True,[x,b,c,y]):=rfl
def krows (rs:List (Int×Int×Int)):List (List IV):=rs.map λk=>[.int .i64 k.1,.int .i64 k.2.1,.int .i64 k.2.2]
def qrows (qs:List (Int×Int)):List (List IV):=qs.map λq=>[.int .i64 q.1,.int .i64 q.2]
theorem krows_len (rs:List (Int×Int×Int)):(krows rs).length=rs.length:=by simp[krows]
theorem qrows_len (qs:List (Int×Int)):(qrows qs).length=qs.length:=by simp[qrows]
theorem krows_at {rs:List (Int×Int×Int)}{i:Nat}(h:i<rs.length):(krows rs).getD i []=[.int .i64 (rs.getD i (0,0,0)).1,.int .i64 (rs.getD i (0,0,0)).2.1,.int .i64 (rs.getD i (0,0,0)).2.2]:=by simp[krows,List.getD,h]
theorem qrows_at {qs:List (Int×Int)}{i:Nat}(h:i<qs.length):(qrows qs).getD i []=[.int .i64 (qs.getD i (0,0)).1,.int .i64 (qs.getD i (0,0)).2]:=by simp[qrows,List.getD,h]
theorem krows_rows (rs:List (Int×Int×Int)):(∀r∈krows rs,r.length=3)↔True:=⟨λ_=>trivial,λ_ r hr=>by obtain⟨k,_,rfl⟩:=List.mem_map.1 hr;rfl⟩
theorem qrows_rows (qs:List (Int×Int)):(∀r∈qrows qs,r.length=2)↔True:=⟨λ_=>trivial,λ_ r hr=>by obtain⟨k,_,rfl⟩:=List.mem_map.1 hr;rfl⟩
def wrow (lead:Int)(rs:List (Int×Int×Int))(qs:List (Int×Int)):List IV:=[.int .i64 lead,.sl (krows rs),.sl (qrows qs)]
def RBt (p:List RI)(l:List RQ)(ts:List Int)(_ _:Nat)(res:List CV):Prop:=∃r t:IV,res=[.agg [.sl (raws p),r,t,.bool true]]/\Soft r (.sl (rats l))/\Soft t (.sl (ilims ts))
theorem ne_built (p:List RI)(l:List RQ)(ts:List Int):∀B,∃E res,B<=E/\RBt p l ts B E res:=λB=>⟨B,_,Nat.le_refl _,_,_,rfl,.refl _,.refl _⟩
def ld (lead:Int):Int:=if clz lead (-1000000) 1000000=0 then 1 else clz lead (-1000000) 1000000
theorem tk4a (a b c d:AV):List.take 4 [a,b,c,d]=[a,b,c,d]:=rfl
theorem tk4 (a b c d:IV):List.take 4 [a,b,c,d]=[a,b,c,d]:=rfl
theorem un4a (x y:IV):unAVs [.iv x,.nils,.nils,.iv y]=some [x,.own none 0 0 [],.own none 0 0 [],y]:=rfl
theorem un4 (x y z u:IV):unAVs [.iv x,.iv y,.iv z,.iv u]=some [x,y,z,u]:=rfl
theorem sp4 (x y z u a b c d:IV):splice [x,y,z,u] 0 [a,b,c,d]=[a,b,c,d]:=rfl
theorem ln4 (a b c d:IV):[a,b,c,d].length=4:=rfl
theorem tk2 (a b:IV):List.take 2 [a,b]=[a,b]:=rfl
theorem sp2 (x y a b:IV):splice [x,y] 0 [a,b]=[a,b]:=rfl
theorem ln2 (a b:IV):[a,b].length=2:=rfl
theorem sqr_bd {a:Int}(h1 : -1000<=a)(h2:a<=1000):0<=a*a/\a*a<=1000000:=by
 rcases Int.le_total 0 a with h|h
 .exact⟨Int.mul_nonneg h h,Int.mul_le_mul (a:=a) (b:=a) (c:=1000) (d:=1000) h2 h2 h (by omega)⟩
 .have x:=Int.mul_nonneg (show 0<=-a by omega) (show 0<=-a by omega);have y:=Int.mul_le_mul (a:=-a) (b:=-a) (c:=1000) (d:=1000) (by omega) (by omega) (by omega) (by omega);rw[Int.neg_mul_neg]at x y;exact⟨x,y⟩
theorem rp_three {n d e:Int}(hn:n.natAbs<W)(hd:d.natAbs<W)(he:e.natAbs<W):RP (2^30) (2^35) ([n,d,e].map canon):=by
 refine⟨by simp,λc hc=>?_⟩;simp only[List.map_cons,List.map_nil,List.mem_cons,List.not_mem_nil,or_false]at hc;rcases hc with rfl|rfl|rfl
 .exact(sz_canon _).mono (Nat.le_trans (zl_le.mpr (show n.natAbs<W^1 by rw[Nat.pow_one];exact hn)) (by decide))
 .exact(sz_canon _).mono (Nat.le_trans (zl_le.mpr (show d.natAbs<W^1 by rw[Nat.pow_one];exact hd)) (by decide))
 .exact(sz_canon _).mono (Nat.le_trans (zl_le.mpr (show e.natAbs<W^1 by rw[Nat.pow_one];exact he)) (by decide))
theorem tk3 (a b c:IV):List.take 3 [a,b,c]=[a,b,c]:=rfl
theorem sp3 (x y z a b c:IV):splice [x,y,z] 0 [a,b,c]=[a,b,c]:=rfl
theorem Kb.upd {p:List RI}{l:List RQ}{ts:List Int}{H:AL.Hp}(k:Kb p l ts H){h:Nat}{c:HC}(h1:h≠900)(h2:h≠68)(h3:h≠78):Kb p l ts (updH H h c):=by
 unfold Kb;rw[updH_ne _ _ (Ne.symm h1),updH_ne _ _ (Ne.symm h2),updH_ne _ _ (Ne.symm h3)];exact k
def w3:=And.intro tk3 (And.intro sp3 ln3)
def w2:=And.intro tk2 (And.intro sp2 ln2)
def w4:=And.intro tk4a (And.intro tk4 (And.intro un4a (And.intro un4 (And.intro sp4 ln4))))
theorem Kb.poly {p:List RI}{l:List RQ}{ts:List Int}{H:AL.Hp}(k:Kb p l ts H):∃rn tn,H 900=.nst 1 75 [.iv (.sl (raws p)),rn,tn,.iv (.bool true)]/\∀(q:List RI) (H':AL.Hp),H' 900=.nst 1 75 [.iv (.sl (raws q)),rn,tn,.iv (.bool true)]->H' 68=H 68->H' 78=H 78->Kb q l ts H':=by
 obtain⟨rn,tn,h1,h2,h3⟩:=k;exact⟨rn,tn,h1,λq H' e1 e2 e3=>⟨rn,tn,e1,by rw[e2];exact h2,by rw[e3];exact h3⟩⟩
theorem rp_two {n d:Int}(hn:n.natAbs<W)(hd:d.natAbs<W):RP (2^30) (2^35) ([n,d].map canon):=by
 refine⟨by simp,λc hc=>?_⟩;simp only[List.map_cons,List.map_nil,List.mem_cons,List.not_mem_nil,or_false]at hc;rcases hc with rfl|rfl
 .exact(sz_canon _).mono (Nat.le_trans (zl_le.mpr (show n.natAbs<W^1 by rw[Nat.pow_one];exact hn)) (by decide))
 .exact(sz_canon _).mono (Nat.le_trans (zl_le.mpr (show d.natAbs<W^1 by rw[Nat.pow_one];exact hd)) (by decide))
theorem seq_cut {K J:Fr->AL.Hp->Prop}{Q:Post}(h:∀f H,J f H->K f H):∀e f H,SeqQ J Q e f H->SeqQ K Q e f H
 |.normal,f,H,k=>h f H k
 |.ret,_,_,k=>k
 |.exit _,_,_,k=>k
 |.goto _,_,_,k=>k
 |.panic _,_,_,k=>k
 |.outgrown,_,_,k=>k
theorem aloop_cut {zi:Zi}{P:Program}{c:Code}{id:Nat}{K:Fr->AL.Hp->Prop}{Q:Post}{f:Fr}{H:AL.Hp}(J:Fr->AL.Hp->Prop)(h1:ALoop P c (BlockQ id (SeqQ J Q)) f H)(h2:∀f H,J f H->K f H):ALoop P c (BlockQ id (SeqQ K Q)) f H:=by
 have:∀e f H,BlockQ id (SeqQ J Q) e f H->BlockQ id (SeqQ K Q) e f H:=by
  intro e f H h;cases e with
  |exit j =>
   simp only[BlockQ]at h ⊢;split
   .rename_i e;rw[if_pos e]at h;exact seq_cut h2 _ _ _ h
   .rename_i e;rw[if_neg e]at h;exact seq_cut h2 _ _ _ h
  |normal=>exact h2 _ _ h
  |ret=>exact h
  |goto g=>exact h
  |panic p=>exact h
  |outgrown=>exact h
 unfold ALoop at h1 ⊢;exact AW.mono (.loop c) this h1
theorem if_cut {zi:Zi}{P:Program}{c:Prop}[Decidable c] {x y:Code}{K:Fr->AL.Hp->Prop}{Q:Post}{f:Fr}{H:AL.Hp}(J:Fr->AL.Hp->Prop)(h1:c->AW P x (SeqQ J Q) f H)(h2:¬c->AW P y (SeqQ J Q) f H)(h3:∀f H,J f H->K f H):ACond P (.iv (.bool (decide c))) x y (SeqQ K Q) f H :=
 if_by (λh=>AW.mono x (seq_cut h3) (h1 h)) (λh=>AW.mono y (seq_cut h3) (h2 h))
theorem cn_psb {q r:List Int}(h:ps q=ps r):cn q=cn r:=by unfold cn;rw[trimz_ext (ps_eq h)]
theorem mulc_ok {Q L:List Int}(h1:RP (2^30) (2^35) (cn Q))(h2:RP (2^30) (2^35) (L.map canon)):AC Tryz.prog 84 [cw (cn Q),cw (L.map canon)] none [cw (cn (pmul Q L))]:=by
 have h:=pmul_ok _ _ h1 h2;have e:cn (pmul (pv (cn Q)) (pv (L.map canon)))=cn (pmul Q L):=cn_psb (by rw[ps_pmul,ps_pmul,pv_canon,show pv (cn Q)=trimz Q by unfold cn;rw[pv_canon],ps_trimz]);rw[<-e];exact h
set_option maxRecDepth 4000 in
theorem builtx_ok (lead:Int)(rs:List (Int×Int×Int))(qs:List (Int×Int))(hrs:rs.length<=2^40)(hqs:qs.length<=2^40):ACX Tryz.prog 39 [.agg (wrow lead rs qs)] (RBt (cn (bR (bQ (ld lead) rs (min rs.length 6)) qs (min qs.length 2))) (bL rs (min rs.length 6)) (bT rs (min rs.length 6))):=by
 refine ACX.by_walko zB 6 (rs:=[.cell 2 75]) ords Tryz.func39 (by rfl) (by rfl) (by rfl) (by rfl) (by rfl) (ne_built _ _ _) (λB=>?_);have cl:=clamp_ok lead (-1000000) 1000000;have cb:=clz_bd (n:=lead) (lo:=-1000000) (hi:=1000000) (by decide);obtain⟨c,hc⟩:∃c,ld lead=c:=⟨_,rfl⟩;have hcb:c≠0/\-1000000<=c/\c<=1000000:=by rw[<-hc];unfold ld;split<;>omega
 rw[hc];simp (disch:=omega) only[wt,seval,reduceCtorEq,Nat.reduceEqDiff,rqs,wz,wzB,wrow];refine call_by (cl) (by rfl) (by simp) ?_;simp (disch:=omega) only[wt,seval,reduceCtorEq,Nat.reduceEqDiff,rqs,wz,wzB];refine if_cut (c:=clz lead (-1000000) 1000000=0) (λf H=>(f 1=.hp 1 1 0 0/\f 2=.hp 2 1 0 0/\f 3=.iv (.int .i64 c))/\H=updH (updH (initHX B) 1 (.blk false 1 67 3 [wrow lead rs qs])) 2 (.blk false 1 75 4 [[.own none 93 1 [],.own none 93 1 [],.own none 93 1 [],.bool false]])) (λh0=>?_) (λh0=>?_) ?_
 .have e:c=1:=by rw[<-hc,ld,if_pos h0]
  subst e;simp (disch:=omega) only[wt,seval,reduceCtorEq,Nat.reduceEqDiff,rqs,wz,wzB];rfl
 .have e:c=clz lead (-1000000) 1000000:=by rw[<-hc,ld,if_neg h0]
  rw[<-e];simp (disch:=omega) only[wt,seval,reduceCtorEq,Nat.reduceEqDiff,rqs,wz,wzB];rfl
 rintro f H ⟨⟨f1,f2,f3⟩,rfl⟩;have tp:=tpoly_ok [c] (by simp) (λz hz=>by simp at hz;subst hz;omega);simp (disch:=omega) only[wt,seval,reduceCtorEq,Nat.reduceEqDiff,rqs,wz,wzB,f1,f2,f3,wrow];refine call_by (tp) (by first|rfl|(simp only[tocvs,tocv,toboxes,tobox,updH_at,Nat.reduceEqDiff,↓reduceIte,lay_kn,f1,f2,f3];rfl)) (by simp) ?_;simp (disch:=omega) only[wt,seval,reduceCtorEq,Nat.reduceEqDiff,rqs,wz,wzB,lay_kn,f1,f2,f3];obtain⟨N,hN⟩:∃N,min rs.length 6=N:=⟨_,rfl⟩;rw[hN];have kl0:=krows_len rs;refine aloop_cut (λf H=>(f 1=.hp 1 1 0 0/\f 2=.hp 2 1 0 0/\f 4=.hp 900 1 0 0)/\H 1=.blk false 1 67 3 [[.int .i64 lead,.sl (krows rs),.sl (qrows qs)]]/\H 2=.blk false 1 75 4 [[.own none 93 1 [],.own none 93 1 [],.own none 93 1 [],.bool false]]/\H 999=.mrk B/\Kb (cn (bQ c rs N)) (bL rs N) (bT rs N) H) ?_ ?_
 .refine aloop_w (Weak.renb 4 4 900 1 0 0 75 [.iv (.sl (raws [canon c])),.nils,.nils,.iv (.bool true)] (by simp (disch:=omega) only[wt,seval,reduceCtorEq,Nat.reduceEqDiff,rqs,wz,wzB]) (by simp (disch:=omega) only[wt,seval,reduceCtorEq,Nat.reduceEqDiff,rqs,wz,wzB]) (by decide) (Weak.refl _ _)) (λf H=>∃i:Nat,i<=N/\(f 1=.hp 1 1 0 0/\f 2=.hp 2 1 0 0/\f 4=.hp 900 1 0 0/\f 25=.iv (.sl (krows rs))/\f 26=.iv (.int .i64 rs.length)/\f 27=.iv (.int .i64 i))/\H 1=.blk false 1 67 3 [[.int .i64 lead,.sl (krows rs),.sl (qrows qs)]]/\H 2=.blk false 1 75 4 [[.own none 93 1 [],.own none 93 1 [],.own none 93 1 [],.bool false]]/\H 999=.mrk B/\Kb (cn (bQ c rs i)) (bL rs i) (bT rs i) H) (λf H=>(rs.length-intAt f 27).toNat) ?_ ?_
  .refine⟨0,by omega,⟨by simp (disch:=omega) only[wt,seval,reduceCtorEq,Nat.reduceEqDiff,rqs,wz,wzB,f1],by simp (disch:=omega) only[wt,seval,reduceCtorEq,Nat.reduceEqDiff,rqs,wz,wzB,f2],by simp (disch:=omega) only[wt,seval,reduceCtorEq,Nat.reduceEqDiff,rqs,wz,wzB];try rfl,by simp (disch:=omega) only[wt,seval,reduceCtorEq,Nat.reduceEqDiff,rqs,wz,wzB],by simp (disch:=omega) only[wt,seval,reduceCtorEq,Nat.reduceEqDiff,rqs,wz,wzB,kl0],by simp (disch:=omega) only[wt,seval,reduceCtorEq,Nat.reduceEqDiff,rqs,wz,wzB];try rfl⟩,by simp (disch:=omega) only[wt,seval,reduceCtorEq,Nat.reduceEqDiff,rqs,wz,wzB],by simp (disch:=omega) only[wt,seval,reduceCtorEq,Nat.reduceEqDiff,rqs,wz,wzB],by simp (disch:=omega) only[wt,seval,reduceCtorEq,Nat.reduceEqDiff,rqs,wz,wzB];try rfl,?_⟩;have ec:cn (bQ c rs 0)=[canon c]:=by
    have t1:tz [c]=1:=Nat.le_antisymm (tz_le _) (Nat.le_of_not_lt λh=>hcb.1 (cf_ge_tz [c] (k:=0) (by omega)));show (List.take (tz [c]) [c]).map canon=_;rw[t1];rfl
   rw[ec];exact⟨.nils,.nils,by simp (disch:=omega) only[wt,seval,reduceCtorEq,Nat.reduceEqDiff,rqs,wz,wzB];try rfl,.inl ⟨rfl,rfl⟩,.inl ⟨rfl,rfl⟩⟩
  clear f1 f2 f3;rintro f H ⟨i,hi,⟨f1,f2,f4,f25,f26,f27⟩,g1,g2,g9,kb⟩;rw[intAt_of f27];simp (disch:=omega) only[wt,seval,reduceCtorEq,Nat.reduceEqDiff,rqs,wz,wzB,f1,f2,f4,f25,f26,f27,g1,g2,g9];refine if_by (λhlt=>?_) (λhlt=>?_)
  .have hlt':i<rs.length:=by omega
   simp (disch:=omega) only[wt,seval,reduceCtorEq,Nat.reduceEqDiff,rqs,wz,wzB,f1,f2,f4,f25,f26,f27,g1,g2,g9,krows_len,krows_at hlt',krows_rows];obtain⟨⟨n,d,t⟩,hk⟩:∃k,kk rs i=k:=⟨_,rfl⟩;have kb1:=kk_bd rs i;have e1:clz (rs.getD i (0,0,0)).1 (-1000000) 1000000=n:=congrArg (·.1) hk;have e2:clz (rs.getD i (0,0,0)).2.1 1 1000=d:=congrArg (·.2.1) hk;have e3:clz (rs.getD i (0,0,0)).2.2 1 3=t:=congrArg (·.2.2) hk;rw[hk]at kb1;obtain⟨⟨n1,n2⟩,⟨d1,d2⟩,t1,t2⟩:(-1000000<=n/\n<=1000000)/\(1<=d/\d<=1000)/\1<=t/\t<=3:=kb1;have pl:AC Tryz.prog 97 [.agg [.int .i64 (rs.getD i (0,0,0)).1,.int .i64 (rs.getD i (0,0,0)).2.1,.int .i64 (rs.getD i (0,0,0)).2.2]] none [.agg [.int .i64 n,.int .i64 d,.int .i64 t]]:=by
    have:=plain_ok (rs.getD i (0,0,0)).1 (rs.getD i (0,0,0)).2.1 (rs.getD i (0,0,0)).2.2;rw[e1,e2,e3]at this;exact this
   have li:AC Tryz.prog 99 [.agg [.int .i64 n,.int .i64 d,.int .i64 t]] none [cw ([-n,d].map canon)]:=linear_ok n d t ⟨n1,n2⟩ ⟨d1,d2⟩;have xv:kx rs i=crat ((n:Rat)/(d:Rat)):=by rw[kx,hk]
   obtain⟨x,hx⟩:∃x,kx rs i=x:=⟨_,rfl⟩;have qo:AC Tryz.prog 98 [ci n,ci d] none [cqq (kx rs i),ci 0]:=by rw[xv];exact qof_ok n d (by omega) (by omega) (by omega) (by omega) (by omega)
   obtain⟨sx,nx⟩:=kx_sz rs i;rw[hx]at qo sx nx;simp (disch:=omega) only[wt,seval,reduceCtorEq,Nat.reduceEqDiff,rqs,wz,wzB,f1,f2,f4,f25,f26,f27,g1,g2,g9,krows_len,krows_at hlt',krows_rows,w3];refine if_by (λh6=>?_) (λh6=>?_)
   .obtain rfl:i=N:=by omega
    simp (disch:=omega) only[wt,seval,reduceCtorEq,Nat.reduceEqDiff,rqs,wz,wzB,f1,f2,f4,f25,f26,f27,g1,g2,g9];exact(kb.upd (by decide) (by decide) (by decide)).upd (by decide) (by decide) (by decide)
   .simp (disch:=omega) only[wt,seval,reduceCtorEq,Nat.reduceEqDiff,rqs,wz,wzB,f1,f2,f4,f25,f26,f27,g1,g2,g9,krows_len,krows_at hlt',krows_rows,w3];refine call_by (pl) (by first|rfl|(simp only[tocvs,tocv,toboxes,tobox,updH_at,Nat.reduceEqDiff,↓reduceIte,f1,f2,f4,f25,f26,f27,g1,g2,g9,w3];rfl)) (by simp) ?_;simp (disch:=omega) only[wt,seval,reduceCtorEq,Nat.reduceEqDiff,rqs,wz,wzB,f1,f2,f4,f25,f26,f27,g1,g2,g9,w3];refine call_by (qo) (by first|rfl|(simp only[tocvs,tocv,toboxes,tobox,updH_at,Nat.reduceEqDiff,↓reduceIte,f1,f2,f4,f25,f26,f27,g1,g2,g9,w3];rfl)) (by simp) ?_;simp (disch:=omega) only[wt,seval,reduceCtorEq,Nat.reduceEqDiff,rqs,wz,wzB,f1,f2,f4,f25,f26,f27,g1,g2,g9,w3];have hi6:i<6:=by omega
    refine aloop_by (λf H'=>∃j s7 s8:Nat,j<=t.toNat/\(f 1=.hp 1 1 0 0/\f 2=.hp 2 1 0 0/\f 4=.hp 900 1 0 0/\f 7=.hp 7 s7 0 0/\f 8=.hp 8 s8 0 0/\f 10=.iv (.int .i64 j)/\f 25=.iv (.sl (krows rs))/\f 26=.iv (.int .i64 rs.length)/\f 27=.iv (.int .i64 i))/\(H' 1=.blk false 1 67 3 [[.int .i64 lead,.sl (krows rs),.sl (qrows qs)]]/\H' 2=.blk false 1 75 4 [[.own none 93 1 [],.own none 93 1 [],.own none 93 1 [],.bool false]]/\H' 7=.blk false s7 121 3 [[.int .i64 n,.int .i64 d,.int .i64 t]]/\H' 8=.blk false s8 46 3 [qrow x]/\H' 999=.mrk B)/\Kb (cn (lmul (bQ c rs i) [-n,d] j)) (bL rs i) (bT rs i) H') (λf H=>(t-intAt f 10).toNat) ?_ ?_
    .refine⟨0,_,_,Nat.zero_le _,⟨by simp (disch:=omega) only[wt,seval,reduceCtorEq,Nat.reduceEqDiff,rqs,wz,wzB,f1],by simp (disch:=omega) only[wt,seval,reduceCtorEq,Nat.reduceEqDiff,rqs,wz,wzB,f2],by simp (disch:=omega) only[wt,seval,reduceCtorEq,Nat.reduceEqDiff,rqs,wz,wzB,f4],by simp (disch:=omega) only[wt,seval,reduceCtorEq,Nat.reduceEqDiff,rqs,wz,wzB];try rfl,by simp (disch:=omega) only[wt,seval,reduceCtorEq,Nat.reduceEqDiff,rqs,wz,wzB];try rfl,by simp (disch:=omega) only[wt,seval,reduceCtorEq,Nat.reduceEqDiff,rqs,wz,wzB],by simp (disch:=omega) only[wt,seval,reduceCtorEq,Nat.reduceEqDiff,rqs,wz,wzB,f25],by simp (disch:=omega) only[wt,seval,reduceCtorEq,Nat.reduceEqDiff,rqs,wz,wzB,f26],by simp (disch:=omega) only[wt,seval,reduceCtorEq,Nat.reduceEqDiff,rqs,wz,wzB,f27]⟩,⟨by simp (disch:=omega) only[wt,seval,reduceCtorEq,Nat.reduceEqDiff,rqs,wz,wzB,g1],by simp (disch:=omega) only[wt,seval,reduceCtorEq,Nat.reduceEqDiff,rqs,wz,wzB,g2],by simp (disch:=omega) only[wt,seval,reduceCtorEq,Nat.reduceEqDiff,rqs,wz,wzB],by simp (disch:=omega) only[wt,seval,reduceCtorEq,Nat.reduceEqDiff,rqs,wz,wzB],by simp (disch:=omega) only[wt,seval,reduceCtorEq,Nat.reduceEqDiff,rqs,wz,wzB,g9]⟩,?_⟩
     repeat (refine Kb.upd ?_ (by decide) (by decide) (by decide))
     exact kb
    clear f1 f2 f4 f25 f26 f27 g1 g2 g9 kb;rintro f H ⟨j,s7,s8,hj,⟨f1,f2,f4,f7,f8,f10,f25,f26,f27⟩,⟨g1,g2,g7,g8,g9⟩,kb⟩;rw[intAt_of f10];simp (disch:=omega) only[wt,seval,reduceCtorEq,Nat.reduceEqDiff,rqs,wz,wzB,f1,f2,f4,f7,f8,f10,f25,f26,f27,g1,g2,g7,g8,g9];refine if_by (λhlt2=>?_) (λhlt2=>?_)
    .obtain⟨m,hm,bw⟩:=bq_bw hcb.1 (by simp only[W];omega) rs i (by omega);have bt:=bw.t;obtain⟨s1,s2⟩:=lmul_sz bw.sz (sb_two (x:=-n) (y:=d) (by simp only[W];omega) (by simp only[W];omega)) (tz_lin2 (by omega)) bw.ne j (by simp only[W];omega);have mu:=mulc_ok ((rp_sb (D:=40) (by omega) s1).mono (by decide) (by omega)) (rp_two (n:=-n) (d:=d) (by simp only[W];omega) (by simp only[W];omega));rw[show pmul (lmul (bQ c rs i) [-n,d] j) [-n,d]=lmul (bQ c rs i) [-n,d] (j+1) from rfl]at mu;obtain⟨rn,tn,g900,up⟩:=kb.poly;simp (disch:=omega) only[wt,seval,reduceCtorEq,Nat.reduceEqDiff,rqs,wz,wzB,f1,f2,f4,f7,f8,f10,f25,f26,f27,g1,g2,g7,g8,g9,g900];refine .inl ⟨tmps_by (by kernel_rfl),?_⟩;refine call_by (li) (by first|rfl|(simp only[tocvs,tocv,toboxes,tobox,updH_at,Nat.reduceEqDiff,↓reduceIte,f1,f2,f4,f7,f8,f10,f25,f26,f27,g1,g2,g7,g8,g9,g900];rfl)) (by simp) ?_;simp (disch:=omega) only[wt,seval,reduceCtorEq,Nat.reduceEqDiff,rqs,wz,wzB,f1,f2,f4,f7,f8,f10,f25,f26,f27,g1,g2,g7,g8,g9,g900];refine call_by (mu) (by first|rfl|(simp only[tocvs,tocv,toboxes,tobox,updH_at,Nat.reduceEqDiff,↓reduceIte,f1,f2,f4,f7,f8,f10,f25,f26,f27,g1,g2,g7,g8,g9,g900];rfl)) (by simp) ?_;simp (disch:=omega) only[wt,seval,reduceCtorEq,Nat.reduceEqDiff,rqs,wz,wzB,f1,f2,f4,f7,f8,f10,f25,f26,f27,g1,g2,g7,g8,g9,g900]
     first|exact log_by (by kernel_rfl)|refine⟨log_by (by kernel_rfl),?_⟩
     refine⟨⟨j+1,_,_,by omega,⟨rfl,rfl,by omega⟩,⟨rfl,rfl⟩,up _ _ ?_ ?_ ?_⟩,by omega⟩
     .rw[updH_same]
     .repeat rw[updH_ne _ _ (by decide)]
     .repeat rw[updH_ne _ _ (by decide)]
    .have ej:(j:Int)=t:=by omega
     have ejn:j=t.toNat:=by omega
     subst ejn;simp (disch:=omega) only[wt,seval,reduceCtorEq,Nat.reduceEqDiff,rqs,wz,wzB,f1,f2,f4,f7,f8,f10,f25,f26,f27,g1,g2,g7,g8,g9];refine calli_by (add_ok _ _ _ x t _ kb (bl_kl rs i) (by omega) (by omega) (by omega) (sx.mono (by decide)) nx) ?_;rintro z H2 ⟨kb2,kp⟩;simp (disch:=omega) only[wt,seval,reduceCtorEq,Nat.reduceEqDiff,rqs,wz,wzB,f1,f2,f4,f7,f8,f10,f25,f26,f27,g1,g2,g7,g8,g9];refine⟨⟨i+1,by omega,by omega,(kp 1 (by omega) (by decide)).trans g1,(kp 2 (by omega) (by decide)).trans g2,(kp 999 (by omega) (by decide)).trans g9,?_⟩,by omega⟩;rw[bL,bT,bQ,hx,hk];exact kb2
  .obtain rfl:i=N:=by omega
   simp (disch:=omega) only[wt,seval,reduceCtorEq,Nat.reduceEqDiff,rqs,wz,wzB,f1,f2,f4,f25,f26,f27,g1,g2,g9];exact kb
 rintro f H ⟨⟨f1,f2,f4⟩,g1,g2,g9,kb⟩;simp (disch:=omega) only[wt,seval,reduceCtorEq,Nat.reduceEqDiff,rqs,wz,wzB,f1,f2,f4,g1,g2,g9];obtain⟨M,hM⟩:∃M,min qs.length 2=M:=⟨_,rfl⟩;rw[hM];have kl1:=qrows_len qs;obtain⟨m0,hm0,bw0⟩:=bq_bw hcb.1 (by simp only[W];omega) rs N (by omega);refine aloop_cut (λf H=>(f 2=.hp 2 1 0 0/\f 4=.hp 900 1 0 0)/\H 2=.blk false 1 75 4 [[.own none 93 1 [],.own none 93 1 [],.own none 93 1 [],.bool false]]/\H 999=.mrk B/\Kb (cn (bR (bQ c rs N) qs M)) (bL rs N) (bT rs N) H) ?_ ?_
 .refine aloop_by (λf H=>∃i:Nat,i<=M/\(f 2=.hp 2 1 0 0/\f 4=.hp 900 1 0 0/\f 66=.iv (.sl (qrows qs))/\f 67=.iv (.int .i64 qs.length)/\f 68=.iv (.int .i64 i))/\H 2=.blk false 1 75 4 [[.own none 93 1 [],.own none 93 1 [],.own none 93 1 [],.bool false]]/\H 999=.mrk B/\Kb (cn (bR (bQ c rs N) qs i)) (bL rs N) (bT rs N) H) (λf H=>(qs.length-intAt f 68).toNat) ?_ ?_
  .refine⟨0,by omega,⟨by simp (disch:=omega) only[wt,seval,reduceCtorEq,Nat.reduceEqDiff,rqs,wz,wzB,f2],by simp (disch:=omega) only[wt,seval,reduceCtorEq,Nat.reduceEqDiff,rqs,wz,wzB,f4],by simp (disch:=omega) only[wt,seval,reduceCtorEq,Nat.reduceEqDiff,rqs,wz,wzB],by simp (disch:=omega) only[wt,seval,reduceCtorEq,Nat.reduceEqDiff,rqs,wz,wzB,kl1],by simp (disch:=omega) only[wt,seval,reduceCtorEq,Nat.reduceEqDiff,rqs,wz,wzB];try rfl⟩,by simp (disch:=omega) only[wt,seval,reduceCtorEq,Nat.reduceEqDiff,rqs,wz,wzB,g2],by simp (disch:=omega) only[wt,seval,reduceCtorEq,Nat.reduceEqDiff,rqs,wz,wzB,g9],kb⟩
  clear f1 f2 f4 g1 g2 g9 kb;rintro f H ⟨i,hi,⟨f2,f4,f66,f67,f68⟩,g2,g9,kb⟩;rw[intAt_of f68];simp (disch:=omega) only[wt,seval,reduceCtorEq,Nat.reduceEqDiff,rqs,wz,wzB,f2,f4,f66,f67,f68,g2,g9];refine if_by (λhlt=>?_) (λhlt=>?_)
  .have hlt':i<qs.length:=by omega
   obtain⟨⟨a,b⟩,hk⟩:∃k,ab qs i=k:=⟨_,rfl⟩;have kb1:=ab_bd qs i;have e1:clz (qs.getD i (0,0)).1 (-1000) 1000=a:=congrArg (·.1) hk;have e2:clz (qs.getD i (0,0)).2 1 1000=b:=congrArg (·.2) hk;rw[hk]at kb1;obtain⟨⟨a1,a2⟩,b1,b2⟩:(-1000<=a/\a<=1000)/\1<=b/\b<=1000:=kb1;have c1:=clamp_ok (qs.getD i (0,0)).1 (-1000) 1000;have c2:=clamp_ok (qs.getD i (0,0)).2 1 1000;rw[e1]at c1;rw[e2]at c2;simp (disch:=omega) only[wt,seval,reduceCtorEq,Nat.reduceEqDiff,rqs,wz,wzB,f2,f4,f66,f67,f68,g2,g9,qrows_len,qrows_at hlt',qrows_rows,w2];refine if_by (λh6=>?_) (λh6=>?_)
   .obtain rfl:i=M:=by omega
    simp (disch:=omega) only[wt,seval,reduceCtorEq,Nat.reduceEqDiff,rqs,wz,wzB,f2,f4,f66,f67,f68,g2,g9];exact(kb.upd (by decide) (by decide) (by decide)).upd (by decide) (by decide) (by decide)
   .obtain⟨q1,q2⟩:=sqr_bd a1 a2;have w1:IntKind.i64.wrap (a*a)=a*a:=wrap_i64 _ (by omega) (by omega);have w2:IntKind.i64.wrap (a*a+b)=a*a+b:=wrap_i64 _ (by omega) (by omega);have w3:IntKind.i64.wrap (-2*a) = -2*a:=wrap_i64 _ (by omega) (by omega);have tp:=tpoly_ok [a*a+b,-2*a,1] (by simp) (λz hz=>by
     simp only[List.mem_cons,List.not_mem_nil,or_false]at hz;rcases hz with rfl|rfl|rfl<;>omega)
    have bw:=br_bw bw0 (by omega) qs i (by omega);have bt:=bw.t;have mu:=mulc_ok (L:=[a*a+b,-2*a,1]) ((rp_sb (D:=40) (by omega) bw.sz).mono (by decide) (by omega)) (rp_three (by simp only[W];omega) (by simp only[W];omega) (by decide));have eb:pmul (bR (bQ c rs N) qs i) [a*a+b,-2*a,1]=bR (bQ c rs N) qs (i+1):=by rw[bR,hk]
    rw[eb]at mu;obtain⟨rn,tn,g900,up⟩:=kb.poly;simp (disch:=omega) only[wt,seval,reduceCtorEq,Nat.reduceEqDiff,rqs,wz,wzB,f2,f4,f66,f67,f68,g2,g9,qrows_len,qrows_at hlt',qrows_rows,w2];refine call_by (c1) (by first|rfl|(simp only[tocvs,tocv,toboxes,tobox,updH_at,Nat.reduceEqDiff,↓reduceIte,f2,f4,f66,f67,f68,g2,g9,w2];rfl)) (by simp) ?_;simp (disch:=omega) only[wt,seval,reduceCtorEq,Nat.reduceEqDiff,rqs,wz,wzB,f2,f4,f66,f67,f68,g2,g9,w2];refine call_by (c2) (by first|rfl|(simp only[tocvs,tocv,toboxes,tobox,updH_at,Nat.reduceEqDiff,↓reduceIte,f2,f4,f66,f67,f68,g2,g9,w2,g900,w1,w2,w3];rfl)) (by simp) ?_;simp (disch:=omega) only[wt,seval,reduceCtorEq,Nat.reduceEqDiff,rqs,wz,wzB,f2,f4,f66,f67,f68,g2,g9,w2,g900,w1,w2,w3];refine .inl ⟨tmps_by (by kernel_rfl),?_⟩;refine call_by (tp) (by first|rfl|(simp only[tocvs,tocv,toboxes,tobox,updH_at,Nat.reduceEqDiff,↓reduceIte,f2,f4,f66,f67,f68,g2,g9,w2,g900];rfl)) (by simp) ?_;simp (disch:=omega) only[wt,seval,reduceCtorEq,Nat.reduceEqDiff,rqs,wz,wzB,f2,f4,f66,f67,f68,g2,g9,w2,g900];refine call_by (mu) (by first|rfl|(simp only[tocvs,tocv,toboxes,tobox,updH_at,Nat.reduceEqDiff,↓reduceIte,f2,f4,f66,f67,f68,g2,g9,w2,g900];rfl)) (by simp) ?_;simp (disch:=omega) only[wt,seval,reduceCtorEq,Nat.reduceEqDiff,rqs,wz,wzB,f2,f4,f66,f67,f68,g2,g9,w2,g900]
    first|exact log_by (by kernel_rfl)|refine⟨log_by (by kernel_rfl),?_⟩
    refine⟨⟨i+1,by omega,by omega,up _ _ ?_ ?_ ?_⟩,by omega⟩
    .rw[updH_same]
    .repeat rw[updH_ne _ _ (by decide)]
    .repeat rw[updH_ne _ _ (by decide)]
  .obtain rfl:i=M:=by omega
   simp (disch:=omega) only[wt,seval,reduceCtorEq,Nat.reduceEqDiff,rqs,wz,wzB,f2,f4,f66,f67,f68,g2,g9];exact kb
 clear f1 f2 f4 g1 g2 g9 kb;rintro f H ⟨⟨f2,f4⟩,g2,g9,kb⟩;have kl:=bl_kl rs N;obtain⟨rn,tn,g900,hR,hT⟩:=kb;rcases hR with ⟨l0,rfl⟩|⟨st,l0,rfl,g68⟩
 .have t0:bT rs N=[]:=List.length_eq_zero_iff.1 (by rw[kl.tlen,l0];rfl);obtain rfl:tn=.nils:=by
   rcases hT with ⟨_,h⟩|⟨st,h,h2,h3⟩
   .exact h
   .exact(h t0).elim
  refine Opn.done ?_;simp (disch:=omega) only[wt,seval,reduceCtorEq,Nat.reduceEqDiff,rqs,wz,wzB,f2,f4,g2,g9,g900,w4];refine opn_done (B:=B) [.agg [.sl (raws (cn (bR (bQ c rs N) qs M))),.own none 0 0 [],.own none 0 0 [],.bool true]] (by simp (disch:=omega) only[wt,seval,reduceCtorEq,Nat.reduceEqDiff,rqs,wz,wzB];try exact g9) (by simp (disch:=omega) only[wt,seval,reduceCtorEq,Nat.reduceEqDiff,rqs,wz,wzB,f2,f4,g2,g9,g900];try rfl) ?_;intro E hE;refine⟨.own none 0 0 [],.own none 0 0 [],rfl,?_,?_⟩
  .rw[l0];exact soft_own (k:=0) (λr hr=>by simp at hr)
  .rw[t0];exact soft_own (k:=0) (λr hr=>by simp at hr)
 .have t0:bT rs N≠[]:=λe=>l0 (List.length_eq_zero_iff.1 (by rw[<-kl.tlen,e];rfl))
  obtain⟨st2,-,rfl,g78⟩:=hT.resolve_left λh=>t0 h.1
  refine Opn.row 900 1 75 1 68 st 46 3 _ _ B g900 (by rfl) g68 g9 ?_;intro bo E3 hE3 hbo hbr;refine Opn.row 900 1 75 2 78 st2 3 1 _ (ilims (bT rs N)) E3 (by rfl) (by rfl) (by simp (disch:=omega) only[wt,seval,reduceCtorEq,Nat.reduceEqDiff,rqs,wz,wzB,g78]) (by rfl) ?_;intro bi E4 hE4 hbi hbr2;refine Opn.done ?_;simp (disch:=omega) only[wt,seval,reduceCtorEq,Nat.reduceEqDiff,rqs,wz,wzB,f2,f4,g2,g9,g900,g68,g78,w4];refine opn_done (B:=E4) [.agg [.sl (raws (cn (bR (bQ c rs N) qs M))),.own bo 46 3 (rats (bL rs N)),.own bi 3 1 (ilims (bT rs N)),.bool true]] (by rfl) (by simp (disch:=omega) only[wt,seval,reduceCtorEq,Nat.reduceEqDiff,rqs,wz,wzB,f2,f4,g2,g9,g900,g68,g78];try rfl) ?_;intro E hE;exact⟨_,_,rfl,soft_own ((rats_rows _).mpr trivial),soft_own (k:=1) (λr hr=>by obtain⟨k,_,rfl⟩:=List.mem_map.1 hr;rfl)⟩
theorem built_ok (lead:Int)(rs:List (Int×Int×Int))(qs:List (Int×Int))(hrs:rs.length<=2^40)(hqs:qs.length<=2^40):AC Tryz.prog 39 [.agg (wrow lead rs qs)] none [.agg (knr (cn (bR (bQ (ld lead) rs (min rs.length 6)) qs (min qs.length 2))) (bL rs (min rs.length 6)) (bT rs (min rs.length 6)) true)] :=
 ACX.plain (builtx_ok lead rs qs hrs hqs) λB E r hr=>by
  obtain⟨x,y,rfl,hx,hy⟩:=hr;refine .cons (.agg rfl λj a b ha hb=>?_) .nil
  match j with
  |0=>simp only[knr,List.getElem?_cons_zero,Option.some.injEq]at ha hb;subst ha hb;exact .refl _
  |1=>simp only[knr,List.getElem?_cons_succ,List.getElem?_cons_zero,Option.some.injEq]at ha hb;subst ha hb;exact hx
  |2=>simp only[knr,List.getElem?_cons_succ,List.getElem?_cons_zero,Option.some.injEq]at ha hb;subst ha hb;exact hy
  |3=>simp only[knr,List.getElem?_cons_succ,List.getElem?_cons_zero,Option.some.injEq]at ha hb;subst ha hb;exact .refl _
  |j+4=>simp[knr]at hb
theorem built_kw (lead:Int)(rs:List (Int×Int×Int))(qs:List (Int×Int)):∃p l ts D n S,(p,l,ts)=(cn (bR (bQ (ld lead) rs (min rs.length 6)) qs (min qs.length 2)),bL rs (min rs.length 6),bT rs (min rs.length 6))/\Kw p D n S (l.map qv)/\Kl l ts 6 18:=by
 have hcb:ld lead≠0/\(ld lead).natAbs<W:=by
  have cb:=clz_bd (n:=lead) (lo:=-1000000) (hi:=1000000) (by decide);unfold ld;simp only[W];split<;>omega
 obtain⟨m,hm,bw⟩:=bq_bw hcb.1 hcb.2 rs (min rs.length 6) (by omega);have b2:=br_bw bw (by omega) qs (min qs.length 2) (by omega);have kl:=bl_kl rs (min rs.length 6);generalize hQ:bR (bQ (ld lead) rs (min rs.length 6)) qs (min qs.length 2)=Q at *;have b3:=b2.of_ps (Q:=trimz Q) (ps_trimz Q).symm;have k:=b3.kw (by omega) (by omega) (by omega) kl.rise (trimz_trimz Q);rw[show cn (trimz Q)=cn Q by exact cn_psb (ps_trimz Q)]at k;obtain⟨D,k⟩:=k;refine⟨_,_,_,D,_,_,rfl,k,kl.rise,?_,kl.tlen,kl.sz,λt ht=>?_⟩
 .have:=kl.len;omega
 .have:=kl.tb t ht;omega
end Go.Proofs.YtbnincgnfiaemaaGreat

namespace Go.Proofs.YtbnincgnfiaemaaGreat
open Go Go.Proofs Go.AL
set_option linter.unusedSimpArgs false
set_option linter.unusedVariables false
theorem lnq_tz (x:Rat):tz (lnq x)=2:=by
 refine Nat.le_antisymm (tz_le _) (Nat.le_of_not_lt λh=>?_);have h1:cf (lnq x) 1=(x.den:Int):=rfl;have h2:=cf_ge_tz (lnq x) (k:=1) (by omega);have:=x.den_nz;omega
theorem lnq_root (x:Rat):er (lnq x) x=0:=by rw[er_lnq];grind
theorem er_const {A:List Int}(h:tz A<=1)(x:Rat):er A x=cf A 0:=by
 have e:ps A=ps [cf A 0]:=PS.ext λk=>by
  rw[ps_const,ps_c,PS.c_C];split
  .rename_i h;rw[h]
  .exact cf_ge_tz A (by omega)
 rw[er_of_ps e];simp only[er];grind
theorem lnq_dv {x:Rat}{A:List Int}:Dv (lnq x) A↔er A x=0:=by
 have t:=lnq_tz x;constructor
 .rintro⟨c,S,hc,e⟩;have e1:=er_C (p:=pmul S (lnq x)) (q:=A) (c:=c) (by rw[ps_pmul,e]) x;rw[er_pmul,lnq_root,Rat.mul_zero]at e1;have hc':(c:Rat)≠0:=by exact_mod_cast hc
  rcases Rat.mul_eq_zero.mp e1.symm with h|h
  .exact absurd h hc'
  .exact h
 .intro h0;rw[dv_dr (by omega)];have e:=er_div (dres_div A (lnq x)) x;have tr:=drem_tz (A:=A) (B:=lnq x) (by omega);rw[h0,lnq_root,er_const (A:=dr A (lnq x)) (by omega)]at e;have h1:((cf (dr A (lnq x)) 0:Int):Rat)=0:=by grind
  have h2:cf (dr A (lnq x)) 0=0:=by exact_mod_cast h1
  refine tz_zero_iff.mpr λk=>?_;by_cases hk:k=0
  .rw[hk];exact h2
  .exact cf_ge_tz _ (by omega)
theorem lin_as {n d:Int}(hd:0<d){x:Rat}(hx:(d:Rat)*x=n):As [-n,d] (lnq x):=by
 have h1:er [-n,d] x=0:=by rw[er_lin,hx];grind
 exact(dv_as (lnq_dv.mpr h1) (by rw[tz_lin2 hd];omega) (by rw[lnq_tz,tz_lin2 hd])).symm
def Mu (Q:List Int)(x:Rat)(t:Nat):Prop:=∃k,As Q (pmul (ppow (lnq x) t) k)/\er k x≠0
theorem Mu.const {c:Int}(hc:c≠0)(x:Rat):Mu [c] x 0:=⟨[c],.of_ps (by rw[ps_pmul,ps_ppow,PS.pw,PS.one_mul]),by
 simp only[er];have:(c:Rat)≠0:=by exact_mod_cast hc
 grind⟩
theorem Mu.of_as {Q R:List Int}{x:Rat}{t:Nat}(h:Mu Q x t)(e:As R Q):Mu R x t:=by
 obtain⟨k,e1,e2⟩:=h;exact⟨k,e.trans e1,e2⟩
theorem Mu.ne {Q L:List Int}{x:Rat}{t:Nat}(h:Mu Q x t)(hL:er L x≠0):Mu (pmul Q L) x t:=by
 obtain⟨k,e1,e2⟩:=h;refine⟨pmul k L,(e1.pm (.refl L)).trans (as_assoc _ _ _),?_⟩;rw[er_pmul];exact λh0=>(Rat.mul_eq_zero.mp h0).elim e2 hL
theorem Mu.lin {Q L:List Int}{x:Rat}{t:Nat}(h:Mu Q x t)(hL:As L (lnq x)):Mu (pmul Q L) x (t+1):=by
 obtain⟨k,e1,e2⟩:=h;refine⟨k,(e1.pm hL).trans (.of_ps ?_),e2⟩;rw[ps_pmul,ps_pmul,ps_pmul,ps_psucc,ps_pmul];ac_rfl
theorem Mu.lmul_ne {Q L:List Int}{x:Rat}{t:Nat}(h:Mu Q x t)(hL:er L x≠0):∀m,Mu (lmul Q L m) x t
 |0=>h
 |m+1=>(h.lmul_ne hL m).ne hL
theorem Mu.lmul_lin {Q L:List Int}{x:Rat}{t:Nat}(h:Mu Q x t)(hL:As L (lnq x)):∀m,Mu (lmul Q L m) x (t+m)
 |0=>h
 |m+1=>(h.lmul_lin hL m).lin hL
theorem insAt_get {α:Type}{l:List α}{k:Nat}(x d:α)(h:k<=l.length)(j:Nat):(insAt l k x).getD j d=if j<k then l.getD j d else if j=k then x else l.getD (j-1) d:=by
 have lk:(l.take k).length=k:=by rw[List.length_take];omega
 unfold insAt;by_cases h1:j<k
 .rw[if_pos h1,List.getD,List.getElem?_append_left (by omega),List.getElem?_take,if_pos h1];rfl
 .rw[if_neg h1,List.getD,List.getElem?_append_right (by omega),lk];by_cases h2:j=k
  .rw[if_pos h2,h2,Nat.sub_self];rfl
  .rw[if_neg h2];obtain⟨i,rfl⟩:∃i,j=k+1+i:=⟨j-k-1,by omega⟩;rw[show k+1+i-k=i+1 by omega,List.getElem?_cons_succ,List.getElem?_drop,show k+1+i-1=k+i by omega];rfl
structure MI (l:List RQ) (ts:List Int) (Q:List Int):Prop where
 at_:∀j,j<l.length->Mu Q (qv (l.getD j q0)) (ts.getD j 0).toNat/\1<=ts.getD j 0
 off:∀x,x∉l.map qv->Mu Q x 0
theorem MI.add {l:List RQ}{ts:List Int}{Q:List Int}(h:MI l ts Q)(hr:Rise l)(ht:ts.length=l.length){x:RQ}{n d t:Int}(hd:0<d)(hx:qv x=(n:Rat)/(d:Rat))(t1:1<=t):MI (addl l x) (addt l ts x t) (lmul Q [-n,d] t.toNat):=by
 have hd':(d:Rat)≠0:=by exact_mod_cast (show d≠0 by omega)
 have hdx:(d:Rat)*qv x=n:=by rw[hx,Rat.mul_comm];exact Rat.div_mul_cancel hd'
 have hL:=lin_as hd hdx;have hN:∀y:Rat,y≠qv x->er [-n,d] y≠0:=λy hy h0=>by
  rw[er_lin,<-hdx]at h0;have:(d:Rat)*(y-qv x)=0:=by grind
  rcases Rat.mul_eq_zero.mp this with h|h
  .exact hd' h
  .exact hy (by grind)
 have inj:∀i j,i<l.length->j<l.length->i≠j->qv (l.getD i q0)≠qv (l.getD j q0):=λi j hi hj hne e=>by
  rcases Nat.lt_or_gt_of_ne hne with h|h
  .have:=rise_get hr h hj;grind
  .have:=rise_get hr h hi;grind
 by_cases hh:hasq l x=true
 .obtain⟨hw,ew⟩:=whq_spec hh;rw[addl,addt,if_pos hh,if_pos hh];generalize whq l x=w at *;refine⟨λj hj=>?_,λy hy=>?_⟩
  .by_cases hjw:j=w
   .subst hjw;obtain⟨a,b⟩:=h.at_ j hj;have hg:(ts.set j (ts.getD j 0+t)).getD j 0=ts.getD j 0+t:=by
     rw[List.getD,List.getElem?_set_self (by omega)];rfl
    rw[hg];refine⟨?_,by omega⟩;rw[ew]at a ⊢;have:=a.lmul_lin hL t.toNat;rwa [show (ts.getD j 0).toNat+t.toNat=(ts.getD j 0+t).toNat by omega]at this
   .obtain⟨a,b⟩:=h.at_ j hj;have hg:(ts.set w (ts.getD w 0+t)).getD j 0=ts.getD j 0:=by
     rw[List.getD,List.getElem?_set_ne (λe=>hjw e.symm)];rfl
    rw[hg];exact⟨a.lmul_ne (hN _ (by rw[<-ew];exact inj j w hj hw hjw)) _,b⟩
  .refine(h.off y hy).lmul_ne (hN y λe=>hy ?_) _;rw[e,<-ew];exact List.mem_map_of_mem (getD_mem hw q0)
 .have hn:=hasq_not hh;have hk:=atk_le l x l.length;rw[addl,addt,if_neg hh,if_neg hh];generalize atk l x l.length=k at *;have hx0:qv x∉l.map qv:=λhm=>by
   obtain⟨r,hr,e⟩:=List.mem_map.mp hm;exact hn r hr e
  refine⟨λj hj=>?_,λy hy=>?_⟩
  .rw[insAt_len (l:=l) _ (by omega)]at hj;rw[insAt_get _ _ (by omega),insAt_get _ _ (by omega)];by_cases h1:j<k
   .rw[if_pos h1,if_pos h1];obtain⟨a,b⟩:=h.at_ j (by omega);exact⟨a.lmul_ne (hN _ (hn _ (getD_mem (by omega) q0))) _,b⟩
   .rw[if_neg h1,if_neg h1];by_cases h2:j=k
    .rw[if_pos h2,if_pos h2];have:=(h.off _ hx0).lmul_lin hL t.toNat;rw[Nat.zero_add]at this;exact⟨this,t1⟩
    .rw[if_neg h2,if_neg h2];obtain⟨a,b⟩:=h.at_ (j-1) (by omega);exact⟨a.lmul_ne (hN _ (hn _ (getD_mem (by omega) q0))) _,b⟩
  .have hy':y∉l.map qv/\y≠qv x:=by
    constructor
    .intro hm;obtain⟨r,hr,e⟩:=List.mem_map.mp hm;exact hy (List.mem_map.mpr ⟨r,insAt_mem.mpr (.inr hr),e⟩)
    .intro e;exact hy (List.mem_map.mpr ⟨x,insAt_mem.mpr (.inl rfl),e.symm⟩)
   exact(h.off y hy'.1).lmul_ne (hN y hy'.2) _
theorem bq_mi {c:Int}(hc:c≠0)(rs:List (Int×Int×Int)):∀i,MI (bL rs i) (bT rs i) (bQ c rs i)
 |0=>⟨λj hj=>by simp[bL]at hj,λx _=>.const hc x⟩
 |i+1=>by
  obtain⟨h1,h2,h3⟩:=kk_bd rs i;have kl:=bl_kl rs i;exact(bq_mi hc rs i).add kl.rise kl.tlen (by omega) (kx_val rs i) (by omega)
theorem quad_ne {a b:Int}(hb:1<=b)(x:Rat):er [a*a+b,-2*a,1] x≠0:=by
 have e:er [a*a+b,-2*a,1] x=(x-a)*(x-a)+b:=by
  simp only[er];rw[Rat.intCast_add,Rat.intCast_mul,Rat.intCast_mul,show ((-2:Int):Rat) = -2 from rfl,show ((1:Int):Rat)=1 from rfl]
  grind
 have hb':(1:Rat)<=b:=by exact_mod_cast hb
 have:0<=(x-a)*(x-a):=by
  rcases Rat.le_total (a:=0) (b:=x-a) with h|h
  .exact Rat.mul_nonneg h h
  .have:=Rat.mul_nonneg (show 0<=-(x-a) by grind) (show 0<=-(x-a) by grind);grind
 rw[e];grind
theorem br_mi {Q:List Int}{l:List RQ}{ts:List Int}(h:MI l ts Q)(qs:List (Int×Int)):∀j,MI l ts (bR Q qs j)
 |0=>h
 |j+1=>by
  obtain⟨h1,h2⟩:=ab_bd qs j;have ih:=br_mi h qs j;exact⟨λi hi=>⟨(ih.at_ i hi).1.ne (quad_ne h2.1 _),(ih.at_ i hi).2⟩,λx hx=>(ih.off x hx).ne (quad_ne h2.1 x)⟩
theorem tak3 (a b c:IV):List.take 3 [a,b,c]=[a,b,c]:=rfl
theorem tkq2 (a b c:IV):List.take 2 [a,b,c]=[a,b]:=rfl
theorem spl3 (a b c x y z:IV):splice [a,b,c] 0 [x,y,z]=[x,y,z]:=rfl
theorem drq1 (a b c:IV):List.drop 1 [a,b,c]=[b,c]:=rfl
theorem drq2 (a b c:IV):List.drop 2 [a,b,c]=[c]:=rfl
def linr (r:RQ):List RI:=[(!r.1.1 && decide (0<r.1.2.length),r.1.2),(false,r.2)]
theorem linr_pv (r:RQ):pv (linr r)=[-(iv r.1),(nv r.2:Int)]:=by
 obtain⟨⟨b,m⟩,d⟩:=r;have e2:iv (false,d)=(nv d:Int):=by simp[iv]
 have e1:iv (!b && decide (0<m.length),m) = -(iv (b,m)):=by
  cases b with
  |true=>simp[iv]
  |false =>
   cases m with
   |nil=>simp[iv,nv,vl]
   |cons a m=>simp[iv]
 simp only[linr,pv,List.map_cons,List.map_nil,e1,e2]
theorem linr_as {r:RQ}(h0:nv r.2≠0):As (pv (linr r)) (lnq (qv r)):=by
 rw[linr_pv];refine lin_as (by omega) ?_;rw[qv,Rat.mkRat_eq_div,Rat.intCast_natCast,Rat.mul_comm];exact Rat.div_mul_cancel (by exact_mod_cast h0)
set_option maxRecDepth 100000 in
theorem roots_ok {P:List Int}{S T U:Nat}(E:Env P S T U)(p:List RI)(l:List RQ)(ts:List Int)(hp:RP 40 (S+10*T) p)(e:As (pv p) P)(mi:MI l ts P)(hl:l.length<=6)(ht:ts.length=l.length)(sz:∀r∈l,SzQ (2^20) r/\nv r.2≠0)(tb:∀t∈ts,0<=t/\t<=1000)(ok:Bool):AC Tryz.prog 41 [.agg (knr p l ts ok)] none [cb true]:=by
 obtain⟨n0,hn0⟩:∃n:Nat,n=30:=⟨_,rfl⟩;have hS:=E.hS;have h30:=E.t30;have hT:=E.t;obtain⟨bi0,pt⟩:=E.pts (n:=n0) (by omega);have cz:=copyz_ok p (Nat.le_trans hp.1 (by omega)) (λc hc=>Nat.le_trans (hp.2 c hc).1 (by omega));have pz:=partsL_ok E p hp e n0 hn0;have hfa:=λi hi=>pt.fa E (i:=i) hi
 have hu:=E.u;have hll:=pt.len;have hwU:tz (wof P)<=U:=E.w;have hmu:∀j,j<l.length->∀i,i<(bmL n0 1 (npr P) (wof P)).length->dvb (pv (linr (l.getD j q0))) (fAt (bmL n0 1 (npr P) (wof P)) i).2=decide (((fAt (bmL n0 1 (npr P) (wof P)) i).1:Int)=ts.getD j 0):=λj hj i hi=>by
  obtain⟨⟨k,e1,e2⟩,t1⟩:=mi.at_ j hj;obtain⟨s,hs⟩:∃s:Nat,(ts.getD j 0).toNat=s+1:=⟨(ts.getD j 0).toNat-1,by omega⟩;rw[hs]at e1;have hI:=irr_of_lin (lnq_tz (qv (l.getD j q0)));have hm:=pt.mult hI e1 (λh=>e2 (lnq_dv.mp h)) (fAt_eq hi).2.2;have ha:=linr_as (sz _ (getD_mem hj q0)).2;rw[Bool.eq_iff_iff,dvb_iff,decide_eq_true_iff];constructor
  .intro h;have:=hm.mp (ha.symm.dv.trans h);omega
  .intro h;exact ha.dv.trans (hm.mpr (by omega))
 clear pt bi0;generalize bmL n0 1 (npr P) (wof P)=L at *;have hln:=rowsK_len L;refine AC.by_walk (rs:=[.tmp 2]) ords Tryz.func41 (by rfl) (by rfl) (by rfl) (by rfl) (by rfl) ?_;simp (disch:=omega) only[wt,seval,reduceCtorEq,Nat.reduceEqDiff,rqs,knl,kn0,kn1,kn2,tak2,spl2,drp1,rowF,qrow,tak3,spl3,drq1,drq2,tkq2];refine call_by (cz) (by rfl) (by simp) ?_;simp (disch:=omega) only[wt,seval,reduceCtorEq,Nat.reduceEqDiff,rqs,knl,kn0,kn1,kn2,tak2,spl2,drp1,rowF,qrow,tak3,spl3,drq1,drq2,tkq2];refine call_by (pz) (by rfl) (by simp) ?_;simp (disch:=omega) only[wt,seval,reduceCtorEq,Nat.reduceEqDiff,rqs,knl,kn0,kn1,kn2,tak2,spl2,drp1,rowF,qrow,tak3,spl3,drq1,drq2,tkq2];refine aloop_by (λf H=>∃(i:Nat),i<=l.length/\f 22=.iv (.int .i64 i)/\f 20=.iv (.sl (rats l))/\f 21=.iv (.int .i64 l.length)/\f 3=.iv (.sl (rowsK L))/\f 1=.hp 1 1 0 0/\H 1=.blk false 1 75 4 [knr p l ts ok]) (λf H=>(l.length-intAt f 22).toNat) ?_ ?_
 .refine⟨0,by omega,?_⟩;simp (disch:=omega) only[wt,seval,reduceCtorEq,Nat.reduceEqDiff,rqs,knl,kn0,kn1,kn2,tak2,spl2,drp1,rowF,qrow,tak3,spl3,drq1,drq2,tkq2]
 rintro f H ⟨i,hi,hF⟩;rw[intAt_of hF.1];simp (disch:=omega) only[wt,seval,reduceCtorEq,Nat.reduceEqDiff,rqs,knl,kn0,kn1,kn2,tak2,spl2,drp1,rowF,qrow,tak3,spl3,drq1,drq2,tkq2,hF];refine if_by (λhlt=>?_) (λhlt=>?_)
 .have hi':i<l.length:=by omega
  have hc:=sz _ (getD_mem hi' q0);have hmi:=hmu i hi';have hts:(ilims ts).getD i []=[.int .i64 (ts.getD i 0)]:=by simp[ilims,List.getD,show i<ts.length by omega]
  have htl:(ilims ts).length=l.length:=by simp[ilims,ht]
  have rr:RP 2 (2^20) (linr (l.getD i q0)):=⟨by simp[linr],λc hc'=>by
   simp only[linr,List.mem_cons,List.not_mem_nil,or_false]at hc';rcases hc' with rfl|rfl
   .exact hc.1.1
   .exact hc.1.2⟩
  obtain⟨lr,elr⟩:∃lr,lr=linr (l.getD i q0):=⟨_,rfl⟩;have erl:raws lr=[[.bool (!(l.getD i q0).1.1 && decide (0<(l.getD i q0).1.2.length)),.sl (lims (l.getD i q0).1.2)],[.bool false,.sl (lims (l.getD i q0).2)]]:=by rw[elr];rfl
  rw[<-elr]at hmi rr;obtain⟨⟨⟨b,m⟩,d⟩,hcq⟩:∃c,l.getD i q0=c:=⟨_,rfl⟩;rw[hcq]at hc erl elr;simp only at erl;have cm:=copynat_ok m (Nat.le_trans hc.1.1.1 (by omega));have cd:=copynat_ok d (Nat.le_trans hc.1.2.1 (by omega));have clr:=copyz_ok lr (Nat.le_trans rr.1 (by omega)) (λc hc=>Nat.le_trans (rr.2 c hc).1 (by omega));cases b with
  |true =>
   simp only[Bool.not_true,Bool.false_and]at erl;simp (disch:=omega) only[wt,seval,reduceCtorEq,Nat.reduceEqDiff,rqs,knl,kn0,kn1,kn2,tak2,spl2,drp1,rowF,qrow,tak3,spl3,drq1,drq2,tkq2,hF,hcq];refine .inl ⟨tmps_by (by kernel_rfl),?_⟩;refine call_by (cm) (by first|rfl|(simp only[tocvs,tocv,toboxes,tobox,updH_at,Nat.reduceEqDiff,↓reduceIte,hF,hcq];rfl)) (by simp) ?_;simp (disch:=omega) only[wt,seval,reduceCtorEq,Nat.reduceEqDiff,rqs,knl,kn0,kn1,kn2,tak2,spl2,drp1,rowF,qrow,tak3,spl3,drq1,drq2,tkq2,hF,hcq];refine call_by (cd) (by first|rfl|(simp only[tocvs,tocv,toboxes,tobox,updH_at,Nat.reduceEqDiff,↓reduceIte,hF,hcq];rfl)) (by simp) ?_;simp (disch:=omega) only[wt,seval,reduceCtorEq,Nat.reduceEqDiff,rqs,knl,kn0,kn1,kn2,tak2,spl2,drp1,rowF,qrow,tak3,spl3,drq1,drq2,tkq2,hF,hcq]
   first|exact log_by (by kernel_rfl)|refine⟨log_by (by kernel_rfl),?_⟩
   refine aloop_w (.iv 7 47 ((H 47).stamp+1) false 44 2 (raws lr) (by simp (disch:=omega) only[wt,seval,reduceCtorEq,Nat.reduceEqDiff,rqs,knl,kn0,kn1,kn2,tak2,spl2,drp1,rowF,qrow,tak3,spl3,drq1,drq2,tkq2,hF]) (by simp (disch:=omega) only[wt,seval,reduceCtorEq,Nat.reduceEqDiff,rqs,knl,kn0,kn1,kn2,tak2,spl2,drp1,rowF,qrow,tak3,spl3,drq1,drq2,tkq2,hF,erl]) (.refl _ _)) (λf H=>∃(k:Nat),k<=L.length/\f 50=.iv (.int .i64 k)/\f 48=.iv (.sl (rowsK L))/\f 49=.iv (.int .i64 L.length)/\f 7=.iv (.sl (raws lr))/\f 5=.iv (.int .i64 i)/\f 22=.iv (.int .i64 i)/\f 20=.iv (.sl (rats l))/\f 21=.iv (.int .i64 l.length)/\f 3=.iv (.sl (rowsK L))/\f 1=.hp 1 1 0 0/\H 1=.blk false 1 75 4 [knr p l ts ok]) (λf H=>(L.length-intAt f 50).toNat) ?_ ?_
   .refine⟨0,by omega,?_⟩;simp (disch:=omega) only[wt,seval,reduceCtorEq,Nat.reduceEqDiff,rqs,knl,kn0,kn1,kn2,tak2,spl2,drp1,rowF,qrow,tak3,spl3,drq1,drq2,tkq2,hF,hln]
   rintro f H ⟨k,hk,hF⟩;rw[intAt_of hF.1];simp (disch:=omega) only[wt,seval,reduceCtorEq,Nat.reduceEqDiff,rqs,knl,kn0,kn1,kn2,tak2,spl2,drp1,rowF,qrow,tak3,spl3,drq1,drq2,tkq2,hF];refine if_by (λhlk=>?_) (λhlk=>?_)
   .have hk':k<L.length:=by omega
    have A:=hfa k hk';have hr:=rowsK_at hk';have zf:=A.f;have rf:=rp_sb (D:=40) (q:=(fAt L k).2) (by omega) zf.1;have cf0:=copyz_ok (cn (fAt L k).2) (Nat.le_trans rf.1 (by omega)) (λc hc=>Nat.le_trans (rf.2 c hc).1 (by omega));have dd:=pdivides_g (p:=cn (fAt L k).2) (q:=lr) (A:=(fAt L k).2) (B:=pv lr) (rf.mono (by omega) (by omega)) (rr.mono (by omega) (by omega)) (ps_cn _) rfl;rw[hmi k hk']at dd;simp (disch:=omega) only[wt,seval,reduceCtorEq,Nat.reduceEqDiff,rqs,knl,kn0,kn1,kn2,tak2,spl2,drp1,rowF,qrow,tak3,spl3,drq1,drq2,tkq2,hF,hr];refine .inl ⟨tmps_by (by kernel_rfl),?_⟩;refine call_by (cf0) (by first|rfl|(simp only[tocvs,tocv,toboxes,tobox,updH_at,Nat.reduceEqDiff,↓reduceIte,hF,hr];rfl)) (by simp) ?_;simp (disch:=omega) only[wt,seval,reduceCtorEq,Nat.reduceEqDiff,rqs,knl,kn0,kn1,kn2,tak2,spl2,drp1,rowF,qrow,tak3,spl3,drq1,drq2,tkq2,hF,hr];refine call_by (clr) (by first|rfl|(simp only[tocvs,tocv,toboxes,tobox,updH_at,Nat.reduceEqDiff,↓reduceIte,hF,hr];rfl)) (by simp) ?_;simp (disch:=omega) only[wt,seval,reduceCtorEq,Nat.reduceEqDiff,rqs,knl,kn0,kn1,kn2,tak2,spl2,drp1,rowF,qrow,tak3,spl3,drq1,drq2,tkq2,hF,hr];refine call_by (dd) (by first|rfl|(simp only[tocvs,tocv,toboxes,tobox,updH_at,Nat.reduceEqDiff,↓reduceIte,hF,hr,hts];rfl)) (by simp) ?_;simp (disch:=omega) only[wt,seval,reduceCtorEq,Nat.reduceEqDiff,rqs,knl,kn0,kn1,kn2,tak2,spl2,drp1,rowF,qrow,tak3,spl3,drq1,drq2,tkq2,hF,hr,hts]
    first|exact log_by (by kernel_rfl)|refine⟨log_by (by kernel_rfl),?_⟩
    simp (disch:=omega) only[wt,seval,reduceCtorEq,Nat.reduceEqDiff,rqs,knl,kn0,kn1,kn2,tak2,spl2,drp1,rowF,qrow,tak3,spl3,drq1,drq2,tkq2,hF,beq_self_eq_true,Bool.not_true];refine⟨⟨k+1,by omega,?_⟩,by omega⟩
    try (repeat' apply And.intro)<;>first|rfl|omega
   .simp (disch:=omega) only[wt,seval,reduceCtorEq,Nat.reduceEqDiff,rqs,knl,kn0,kn1,kn2,tak2,spl2,drp1,rowF,qrow,tak3,spl3,drq1,drq2,tkq2,hF];refine⟨⟨i+1,by omega,?_⟩,by omega⟩
    try (repeat' apply And.intro)<;>first|rfl|omega
  |false =>
   simp only[Bool.not_false,Bool.true_and]at erl;by_cases hm0:0<m.length
   .have hm0':(0:Int)<(m.length:Int):=by omega
    rw[decide_eq_true hm0]at erl;simp (disch:=omega) only[wt,seval,reduceCtorEq,Nat.reduceEqDiff,rqs,knl,kn0,kn1,kn2,tak2,spl2,drp1,rowF,qrow,tak3,spl3,drq1,drq2,tkq2,hF,hcq,hm0'];refine .inl ⟨tmps_by (by kernel_rfl),?_⟩;refine call_by (cm) (by first|rfl|(simp only[tocvs,tocv,toboxes,tobox,updH_at,Nat.reduceEqDiff,↓reduceIte,hF,hcq,hm0'];rfl)) (by simp) ?_;simp (disch:=omega) only[wt,seval,reduceCtorEq,Nat.reduceEqDiff,rqs,knl,kn0,kn1,kn2,tak2,spl2,drp1,rowF,qrow,tak3,spl3,drq1,drq2,tkq2,hF,hcq,hm0'];refine call_by (cd) (by first|rfl|(simp only[tocvs,tocv,toboxes,tobox,updH_at,Nat.reduceEqDiff,↓reduceIte,hF,hcq,hm0'];rfl)) (by simp) ?_;simp (disch:=omega) only[wt,seval,reduceCtorEq,Nat.reduceEqDiff,rqs,knl,kn0,kn1,kn2,tak2,spl2,drp1,rowF,qrow,tak3,spl3,drq1,drq2,tkq2,hF,hcq,hm0']
    first|exact log_by (by kernel_rfl)|refine⟨log_by (by kernel_rfl),?_⟩
    refine aloop_w (.iv 7 47 ((H 47).stamp+1) false 44 2 (raws lr) (by simp (disch:=omega) only[wt,seval,reduceCtorEq,Nat.reduceEqDiff,rqs,knl,kn0,kn1,kn2,tak2,spl2,drp1,rowF,qrow,tak3,spl3,drq1,drq2,tkq2,hF]) (by simp (disch:=omega) only[wt,seval,reduceCtorEq,Nat.reduceEqDiff,rqs,knl,kn0,kn1,kn2,tak2,spl2,drp1,rowF,qrow,tak3,spl3,drq1,drq2,tkq2,hF,erl]) (.refl _ _)) (λf H=>∃(k:Nat),k<=L.length/\f 50=.iv (.int .i64 k)/\f 48=.iv (.sl (rowsK L))/\f 49=.iv (.int .i64 L.length)/\f 7=.iv (.sl (raws lr))/\f 5=.iv (.int .i64 i)/\f 22=.iv (.int .i64 i)/\f 20=.iv (.sl (rats l))/\f 21=.iv (.int .i64 l.length)/\f 3=.iv (.sl (rowsK L))/\f 1=.hp 1 1 0 0/\H 1=.blk false 1 75 4 [knr p l ts ok]) (λf H=>(L.length-intAt f 50).toNat) ?_ ?_
    .refine⟨0,by omega,?_⟩;simp (disch:=omega) only[wt,seval,reduceCtorEq,Nat.reduceEqDiff,rqs,knl,kn0,kn1,kn2,tak2,spl2,drp1,rowF,qrow,tak3,spl3,drq1,drq2,tkq2,hF,hln]
    rintro f H ⟨k,hk,hF⟩;rw[intAt_of hF.1];simp (disch:=omega) only[wt,seval,reduceCtorEq,Nat.reduceEqDiff,rqs,knl,kn0,kn1,kn2,tak2,spl2,drp1,rowF,qrow,tak3,spl3,drq1,drq2,tkq2,hF];refine if_by (λhlk=>?_) (λhlk=>?_)
    .have hk':k<L.length:=by omega
     have A:=hfa k hk';have hr:=rowsK_at hk';have zf:=A.f;have rf:=rp_sb (D:=40) (q:=(fAt L k).2) (by omega) zf.1;have cf0:=copyz_ok (cn (fAt L k).2) (Nat.le_trans rf.1 (by omega)) (λc hc=>Nat.le_trans (rf.2 c hc).1 (by omega));have dd:=pdivides_g (p:=cn (fAt L k).2) (q:=lr) (A:=(fAt L k).2) (B:=pv lr) (rf.mono (by omega) (by omega)) (rr.mono (by omega) (by omega)) (ps_cn _) rfl;rw[hmi k hk']at dd;simp (disch:=omega) only[wt,seval,reduceCtorEq,Nat.reduceEqDiff,rqs,knl,kn0,kn1,kn2,tak2,spl2,drp1,rowF,qrow,tak3,spl3,drq1,drq2,tkq2,hF,hr];refine .inl ⟨tmps_by (by kernel_rfl),?_⟩;refine call_by (cf0) (by first|rfl|(simp only[tocvs,tocv,toboxes,tobox,updH_at,Nat.reduceEqDiff,↓reduceIte,hF,hr];rfl)) (by simp) ?_;simp (disch:=omega) only[wt,seval,reduceCtorEq,Nat.reduceEqDiff,rqs,knl,kn0,kn1,kn2,tak2,spl2,drp1,rowF,qrow,tak3,spl3,drq1,drq2,tkq2,hF,hr];refine call_by (clr) (by first|rfl|(simp only[tocvs,tocv,toboxes,tobox,updH_at,Nat.reduceEqDiff,↓reduceIte,hF,hr];rfl)) (by simp) ?_;simp (disch:=omega) only[wt,seval,reduceCtorEq,Nat.reduceEqDiff,rqs,knl,kn0,kn1,kn2,tak2,spl2,drp1,rowF,qrow,tak3,spl3,drq1,drq2,tkq2,hF,hr];refine call_by (dd) (by first|rfl|(simp only[tocvs,tocv,toboxes,tobox,updH_at,Nat.reduceEqDiff,↓reduceIte,hF,hr,hts];rfl)) (by simp) ?_;simp (disch:=omega) only[wt,seval,reduceCtorEq,Nat.reduceEqDiff,rqs,knl,kn0,kn1,kn2,tak2,spl2,drp1,rowF,qrow,tak3,spl3,drq1,drq2,tkq2,hF,hr,hts]
     first|exact log_by (by kernel_rfl)|refine⟨log_by (by kernel_rfl),?_⟩
     simp (disch:=omega) only[wt,seval,reduceCtorEq,Nat.reduceEqDiff,rqs,knl,kn0,kn1,kn2,tak2,spl2,drp1,rowF,qrow,tak3,spl3,drq1,drq2,tkq2,hF,beq_self_eq_true,Bool.not_true];refine⟨⟨k+1,by omega,?_⟩,by omega⟩
     try (repeat' apply And.intro)<;>first|rfl|omega
    .simp (disch:=omega) only[wt,seval,reduceCtorEq,Nat.reduceEqDiff,rqs,knl,kn0,kn1,kn2,tak2,spl2,drp1,rowF,qrow,tak3,spl3,drq1,drq2,tkq2,hF];refine⟨⟨i+1,by omega,?_⟩,by omega⟩
     try (repeat' apply And.intro)<;>first|rfl|omega
   .have hm0':¬(0:Int)<(m.length:Int):=by omega
    rw[decide_eq_false hm0]at erl;simp (disch:=omega) only[wt,seval,reduceCtorEq,Nat.reduceEqDiff,rqs,knl,kn0,kn1,kn2,tak2,spl2,drp1,rowF,qrow,tak3,spl3,drq1,drq2,tkq2,hF,hcq,hm0'];refine .inl ⟨tmps_by (by kernel_rfl),?_⟩;refine call_by (cm) (by first|rfl|(simp only[tocvs,tocv,toboxes,tobox,updH_at,Nat.reduceEqDiff,↓reduceIte,hF,hcq,hm0'];rfl)) (by simp) ?_;simp (disch:=omega) only[wt,seval,reduceCtorEq,Nat.reduceEqDiff,rqs,knl,kn0,kn1,kn2,tak2,spl2,drp1,rowF,qrow,tak3,spl3,drq1,drq2,tkq2,hF,hcq,hm0'];refine call_by (cd) (by first|rfl|(simp only[tocvs,tocv,toboxes,tobox,updH_at,Nat.reduceEqDiff,↓reduceIte,hF,hcq,hm0'];rfl)) (by simp) ?_;simp (disch:=omega) only[wt,seval,reduceCtorEq,Nat.reduceEqDiff,rqs,knl,kn0,kn1,kn2,tak2,spl2,drp1,rowF,qrow,tak3,spl3,drq1,drq2,tkq2,hF,hcq,hm0']
    first|exact log_by (by kernel_rfl)|refine⟨log_by (by kernel_rfl),?_⟩
    refine aloop_w (.iv 7 47 ((H 47).stamp+1) false 44 2 (raws lr) (by simp (disch:=omega) only[wt,seval,reduceCtorEq,Nat.reduceEqDiff,rqs,knl,kn0,kn1,kn2,tak2,spl2,drp1,rowF,qrow,tak3,spl3,drq1,drq2,tkq2,hF]) (by simp (disch:=omega) only[wt,seval,reduceCtorEq,Nat.reduceEqDiff,rqs,knl,kn0,kn1,kn2,tak2,spl2,drp1,rowF,qrow,tak3,spl3,drq1,drq2,tkq2,hF,erl]) (.refl _ _)) (λf H=>∃(k:Nat),k<=L.length/\f 50=.iv (.int .i64 k)/\f 48=.iv (.sl (rowsK L))/\f 49=.iv (.int .i64 L.length)/\f 7=.iv (.sl (raws lr))/\f 5=.iv (.int .i64 i)/\f 22=.iv (.int .i64 i)/\f 20=.iv (.sl (rats l))/\f 21=.iv (.int .i64 l.length)/\f 3=.iv (.sl (rowsK L))/\f 1=.hp 1 1 0 0/\H 1=.blk false 1 75 4 [knr p l ts ok]) (λf H=>(L.length-intAt f 50).toNat) ?_ ?_
    .refine⟨0,by omega,?_⟩;simp (disch:=omega) only[wt,seval,reduceCtorEq,Nat.reduceEqDiff,rqs,knl,kn0,kn1,kn2,tak2,spl2,drp1,rowF,qrow,tak3,spl3,drq1,drq2,tkq2,hF,hln]
    rintro f H ⟨k,hk,hF⟩;rw[intAt_of hF.1];simp (disch:=omega) only[wt,seval,reduceCtorEq,Nat.reduceEqDiff,rqs,knl,kn0,kn1,kn2,tak2,spl2,drp1,rowF,qrow,tak3,spl3,drq1,drq2,tkq2,hF];refine if_by (λhlk=>?_) (λhlk=>?_)
    .have hk':k<L.length:=by omega
     have A:=hfa k hk';have hr:=rowsK_at hk';have zf:=A.f;have rf:=rp_sb (D:=40) (q:=(fAt L k).2) (by omega) zf.1;have cf0:=copyz_ok (cn (fAt L k).2) (Nat.le_trans rf.1 (by omega)) (λc hc=>Nat.le_trans (rf.2 c hc).1 (by omega));have dd:=pdivides_g (p:=cn (fAt L k).2) (q:=lr) (A:=(fAt L k).2) (B:=pv lr) (rf.mono (by omega) (by omega)) (rr.mono (by omega) (by omega)) (ps_cn _) rfl;rw[hmi k hk']at dd;simp (disch:=omega) only[wt,seval,reduceCtorEq,Nat.reduceEqDiff,rqs,knl,kn0,kn1,kn2,tak2,spl2,drp1,rowF,qrow,tak3,spl3,drq1,drq2,tkq2,hF,hr];refine .inl ⟨tmps_by (by kernel_rfl),?_⟩;refine call_by (cf0) (by first|rfl|(simp only[tocvs,tocv,toboxes,tobox,updH_at,Nat.reduceEqDiff,↓reduceIte,hF,hr];rfl)) (by simp) ?_;simp (disch:=omega) only[wt,seval,reduceCtorEq,Nat.reduceEqDiff,rqs,knl,kn0,kn1,kn2,tak2,spl2,drp1,rowF,qrow,tak3,spl3,drq1,drq2,tkq2,hF,hr];refine call_by (clr) (by first|rfl|(simp only[tocvs,tocv,toboxes,tobox,updH_at,Nat.reduceEqDiff,↓reduceIte,hF,hr];rfl)) (by simp) ?_;simp (disch:=omega) only[wt,seval,reduceCtorEq,Nat.reduceEqDiff,rqs,knl,kn0,kn1,kn2,tak2,spl2,drp1,rowF,qrow,tak3,spl3,drq1,drq2,tkq2,hF,hr];refine call_by (dd) (by first|rfl|(simp only[tocvs,tocv,toboxes,tobox,updH_at,Nat.reduceEqDiff,↓reduceIte,hF,hr,hts];rfl)) (by simp) ?_;simp (disch:=omega) only[wt,seval,reduceCtorEq,Nat.reduceEqDiff,rqs,knl,kn0,kn1,kn2,tak2,spl2,drp1,rowF,qrow,tak3,spl3,drq1,drq2,tkq2,hF,hr,hts]
     first|exact log_by (by kernel_rfl)|refine⟨log_by (by kernel_rfl),?_⟩
     simp (disch:=omega) only[wt,seval,reduceCtorEq,Nat.reduceEqDiff,rqs,knl,kn0,kn1,kn2,tak2,spl2,drp1,rowF,qrow,tak3,spl3,drq1,drq2,tkq2,hF,beq_self_eq_true,Bool.not_true];refine⟨⟨k+1,by omega,?_⟩,by omega⟩
     try (repeat' apply And.intro)<;>first|rfl|omega
    .simp (disch:=omega) only[wt,seval,reduceCtorEq,Nat.reduceEqDiff,rqs,knl,kn0,kn1,kn2,tak2,spl2,drp1,rowF,qrow,tak3,spl3,drq1,drq2,tkq2,hF];refine⟨⟨i+1,by omega,?_⟩,by omega⟩
     try (repeat' apply And.intro)<;>first|rfl|omega
 .simp (disch:=omega) only[wt,seval,reduceCtorEq,Nat.reduceEqDiff,rqs,knl,kn0,kn1,kn2,tak2,spl2,drp1,rowF,qrow,tak3,spl3,drq1,drq2,tkq2,hF]
  try rfl
set_option linter.defProp false
theorem spk (a b c d:IV)(p:List RI)(l:List RQ)(ts:List Int)(ok:Bool):splice [a,b,c,d] 0 (knr p l ts ok)=knr p l ts ok:=rfl
theorem kn3k (p:List RI)(l:List RQ)(ts:List Int)(ok:Bool):(knr p l ts ok).getD 3 default=.bool ok:=rfl
def kn:=And.intro knl (And.intro kn0 (And.intro kn1 (And.intro kn2 (And.intro kn3k spk))))
def cubeP:List Int:=[-1,3,-3,1]
theorem cube_bm:bmL 30 1 (npr cubeP) (wof cubeP)=[(3,[-1,1])]:=by decide +kernel
theorem com_mono {P D:List Int}{n m:Nat}(h:Com P D n)(hm:n<=m):Com P D m:=by
 obtain⟨a,E,G,e1,e2,e3,e4⟩:=h;exact⟨a,E,G,e1,e2,by omega,e4⟩
theorem built_env (lead:Int)(rs:List (Int×Int×Int))(qs:List (Int×Int)):∃p l ts,(p,l,ts)=(cn (bR (bQ (ld lead) rs (min rs.length 6)) qs (min qs.length 2)),bL rs (min rs.length 6),bT rs (min rs.length 6))/\Env (pv p) 45 30 11/\RP 40 45 p/\MI l ts (pv p)/\Kl l ts 6 18:=by
 obtain⟨p,l,ts,D,n,S,hp,kw,kl⟩:=built_kw lead rs qs;have hcb:ld lead≠0:=by
  have cb:=clz_bd (n:=lead) (lo:=-1000000) (hi:=1000000) (by decide);unfold ld;split<;>omega
 have mi:=br_mi (bq_mi hcb rs (min rs.length 6)) qs (min qs.length 2);refine⟨p,l,ts,hp,?_,kw.rp.mono (by omega) kw.s40,?_,kl⟩
 .exact env_kn (com_mono kw.kn.com kw.n10) kw.kn.t (kw.kn.s.mono kw.s40) (kw.kn.s'.mono kw.s40) (by omega)
 .injection hp with hp hl;injection hl with hl ht;rw[hp,hl,ht];have e:=As.of_ps (ps_cn (bR (bQ (ld lead) rs (min rs.length 6)) qs (min qs.length 2)));exact⟨λj hj=>⟨(mi.at_ j hj).1.of_as e,(mi.at_ j hj).2⟩,λx hx=>(mi.off x hx).of_as e⟩
theorem mults_any (q:List RI)(hq:RP 10 1048576 q):AC Tryz.prog 40 [cw q] none [cb true]:=by
 by_cases h0:tz (pv q)=0
 .exact mults_zero q (hq.mono (by omega) (by omega)) h0
 .exact mults_ok (env_few h0 (tz_rp hq) (sb_rp hq)) q (hq.mono (by omega) (by omega)) (.refl _)
set_option maxRecDepth 100000 in
theorem mult_law (lead:Int)(rs:List (Int×Int×Int))(qs:List (Int×Int))(p:List RI)(hrs:rs.length<=1048576)(hqs:qs.length<=1048576)(hp:RP 1048576 1048576 p):AC Tryz.prog 5 [.agg (wrow lead rs qs),cw p] none [cb true]:=by
 obtain⟨k,l,ts,hk,E,rk,mi,kl⟩:=built_env lead rs qs;have bu:=built_ok lead rs qs (by omega) (by omega);injection hk with hk hl;injection hl with hl ht;rw[<-hk,<-hl,<-ht]at bu;clear hk hl ht;have t1:=tpoly_ok [-1,3,-3,1] (by simp) (λz hz=>by
  simp only[List.mem_cons,List.not_mem_nil,or_false]at hz;rcases hz with rfl|rfl|rfl|rfl<;>omega)
 have t2:=tpoly_ok [-1,1] (by simp) (λz hz=>by
  simp only[List.mem_cons,List.not_mem_nil,or_false]at hz;rcases hz with rfl|rfl<;>omega)
 have ecn:cn cubeP=[-1,3,-3,1].map canon:=by unfold cn;rw[show trimz cubeP=[-1,3,-3,1] by decide]
 have elin:cn [-1,1]=[-1,1].map canon:=by unfold cn;rw[show trimz [-1,1]=[-1,1] by decide]
 rw[<-ecn]at t1;rw[<-elin]at t2;have small:∀c:List Int,c.length<=10->(∀z∈c,z.natAbs<10)->SBd 1 c:=λc _ hz i=>by
  refine zl_le.mpr ?_;rw[Nat.pow_one];by_cases hi:i<c.length
  .have:=hz (cf c i) (by rw[show cf c i=c[i] by simp[cf,List.getD,hi]];exact List.getElem_mem hi);simp only[W];omega
  .rw[show cf c i=0 by simp[cf,List.getD,hi]];decide
 have sc:SBd 1 cubeP:=small cubeP (by decide) (by decide);have E3:=env_few (P:=cubeP) (by decide) (by decide) (sc.mono (by omega));have pc:=partsL_ok E3 (cn cubeP) (rp_sb (D:=40) (by decide) (sc.mono (by omega))) (.of_ps (ps_cn _)) 30 rfl;rw[cube_bm,show rowsK [(3,[-1,1])]=[rowF (cpoly [-1,1]) 3] from rfl]at pc;have rl:=rp_sb (D:=40) (q:=[-1,1]) (by decide) (small [-1,1] (by decide) (by decide));have s1:=samez_eq (cn [-1,1]) (Nat.le_trans rl.1 (by omega)) (λc hc=>Nat.le_trans (rl.2 c hc).1 (by omega));have mk:=mults_ok E k (rk.mono (by omega) (by omega)) (.refl _);have rb:=roots_ok E k l ts (rk.mono (by omega) (by omega)) (.refl _) mi kl.len kl.tlen kl.sz (λt ht=>by have:=kl.tb t ht;omega) true;have mp:=mults_any (p.take 10) ⟨by rw[List.length_take];omega,λc hc=>hp.2 c (List.mem_of_mem_take hc)⟩;have hpl:=hp.1;simp only[wrow]at bu ⊢;refine AC.by_walk (rs:=[.tmp 4]) ords Tryz.func5 (by rfl) (by rfl) (by rfl) (by rfl) (by rfl) ?_;simp (disch:=omega) only[wt,seval,reduceCtorEq,Nat.reduceEqDiff,rqs,wz,kn,rowF,tak2,drp1];refine call_by (t1) (by rfl) (by simp) ?_;simp (disch:=omega) only[wt,seval,reduceCtorEq,Nat.reduceEqDiff,rqs,wz,kn,rowF,tak2,drp1];refine call_by (pc) (by rfl) (by simp) ?_;simp (disch:=omega) only[wt,seval,reduceCtorEq,Nat.reduceEqDiff,rqs,wz,kn,rowF,tak2,drp1];refine .inl ⟨tmps_by (by kernel_rfl),?_⟩;refine call_by (t2) (by rfl) (by simp) ?_;simp (disch:=omega) only[wt,seval,reduceCtorEq,Nat.reduceEqDiff,rqs,wz,kn,rowF,tak2,drp1];refine call_by (s1) (by rfl) (by simp) ?_;simp (disch:=omega) only[wt,seval,reduceCtorEq,Nat.reduceEqDiff,rqs,wz,kn,rowF,tak2,drp1]
 first|exact log_by (by kernel_rfl)|refine⟨log_by (by kernel_rfl),?_⟩
 by_cases hl10:10<p.length
 .have hl10':(10:Int)<(p.length:Int):=by omega
  simp (disch:=omega) only[wt,seval,reduceCtorEq,Nat.reduceEqDiff,rqs,wz,kn,rowF,tak2,drp1,hl10'];refine call_by (bu) (by first|rfl|(simp only[tocvs,tocv,toboxes,tobox,updH_at,Nat.reduceEqDiff,↓reduceIte,hl10'];rfl)) (by simp) ?_;simp (disch:=omega) only[wt,seval,reduceCtorEq,Nat.reduceEqDiff,rqs,wz,kn,rowF,tak2,drp1,hl10'];refine call_by (mk) (by first|rfl|(simp only[tocvs,tocv,toboxes,tobox,updH_at,Nat.reduceEqDiff,↓reduceIte,hl10'];rfl)) (by simp) ?_;simp (disch:=omega) only[wt,seval,reduceCtorEq,Nat.reduceEqDiff,rqs,wz,kn,rowF,tak2,drp1,hl10'];refine call_by (mp) (by first|rfl|(simp only[tocvs,tocv,toboxes,tobox,updH_at,Nat.reduceEqDiff,↓reduceIte,hl10'];rfl)) (by simp) ?_;simp (disch:=omega) only[wt,seval,reduceCtorEq,Nat.reduceEqDiff,rqs,wz,kn,rowF,tak2,drp1,hl10'];refine call_by (rb) (by first|rfl|(simp only[tocvs,tocv,toboxes,tobox,updH_at,Nat.reduceEqDiff,↓reduceIte,hl10'];rfl)) (by simp) ?_;simp (disch:=omega) only[wt,seval,reduceCtorEq,Nat.reduceEqDiff,rqs,wz,kn,rowF,tak2,drp1,hl10']
  try rfl
 .have hl10':¬(10:Int)<(p.length:Int):=by omega
  rw[List.take_of_length_le (by omega)]at mp;simp (disch:=omega) only[wt,seval,reduceCtorEq,Nat.reduceEqDiff,rqs,wz,kn,rowF,tak2,drp1,hl10'];refine call_by (bu) (by first|rfl|(simp only[tocvs,tocv,toboxes,tobox,updH_at,Nat.reduceEqDiff,↓reduceIte,hl10'];rfl)) (by simp) ?_;simp (disch:=omega) only[wt,seval,reduceCtorEq,Nat.reduceEqDiff,rqs,wz,kn,rowF,tak2,drp1,hl10'];refine call_by (mk) (by first|rfl|(simp only[tocvs,tocv,toboxes,tobox,updH_at,Nat.reduceEqDiff,↓reduceIte,hl10'];rfl)) (by simp) ?_;simp (disch:=omega) only[wt,seval,reduceCtorEq,Nat.reduceEqDiff,rqs,wz,kn,rowF,tak2,drp1,hl10'];refine call_by (mp) (by first|rfl|(simp only[tocvs,tocv,toboxes,tobox,updH_at,Nat.reduceEqDiff,↓reduceIte,hl10'];rfl)) (by simp) ?_;simp (disch:=omega) only[wt,seval,reduceCtorEq,Nat.reduceEqDiff,rqs,wz,kn,rowF,tak2,drp1,hl10'];refine call_by (rb) (by first|rfl|(simp only[tocvs,tocv,toboxes,tobox,updH_at,Nat.reduceEqDiff,↓reduceIte,hl10'];rfl)) (by simp) ?_;simp (disch:=omega) only[wt,seval,reduceCtorEq,Nat.reduceEqDiff,rqs,wz,kn,rowF,tak2,drp1,hl10']
  try rfl
theorem mult_law2 (lead:Int)(rs:List (Int×Int×Int))(qs:List (Int×Int))(p:List RI)(_ : -9223372036854775808<=lead)(_:lead<=9223372036854775807)(hrs:rs.length<=1048576/\∀x∈rs,True)(hqs:qs.length<=1048576/\∀x∈qs,True)(hp:RP 1048576 1048576 p):AC Tryz.prog 5 [.agg (wrow lead rs qs),cw p] none [cb true]:=mult_law lead rs qs p hrs.1 hqs.1 hp
end Go.Proofs.YtbnincgnfiaemaaGreat
