/-
 Lists of coefficients.
-/
import Derived.Test.YtbnincgnfiaemaaGreatAbsFM
namespace Go.AL
set_option linter.unusedSimpArgs false
set_option linter.unusedVariables false
def pv (p:List RI):List Int:=p.map iv
def tz (q:List Int):Nat:=topN (q.map Int.natAbs)
def trimz (q:List Int):List Int:=q.take (tz q)
def cf (q:List Int)(k:Nat):Int:=q.getD k 0
def RP (n k:Nat)(p:List RI):Prop:=p.length<=n/\∀c∈p,Sz k c
def PB (n k:Nat)(q:List Int):Prop:=q.length<=n/\∀z∈q,zl z<=k
def cpoly (q:List Int):List (List IV):=raws ((trimz q).map canon)
theorem tz_le (q:List Int):tz q<=q.length:=by simpa [tz] using topN_le (q.map Int.natAbs)
theorem trimz_len (q:List Int):(trimz q).length=tz q:=by rw[trimz,List.length_take,Nat.min_eq_left (tz_le q)]
theorem tz_take_zero {q:List Int}{k:Nat}(h:k<q.length)(h0:cf q k=0):tz (q.take (k+1))=tz (q.take k):=by
 unfold tz;rw[List.map_take,List.map_take];refine topN_take_zero (by simpa using h) ?_;simp only[cf,List.getD,List.getElem?_map,h,List.getElem?_eq_getElem,Option.map_some,Option.getD_some]at h0 ⊢;simp[h0]
theorem tz_full {q:List Int}{k:Nat}(h:k<q.length)(h0:cf q k≠0):tz (q.take (k+1))=k+1:=by
 unfold tz;rw[List.map_take];refine topN_full (by simpa using h) ?_;simp only[cf,List.getD,List.getElem?_map,h,List.getElem?_eq_getElem,Option.map_some,Option.getD_some]at h0 ⊢;simp;exact h0
theorem cf_ge {q:List Int}{k:Nat}(h:q.length<=k):cf q k=0:=by
 simp[cf,List.getD,List.getElem?_eq_none h]
theorem cf_cons_zero (x:Int)(xs:List Int):cf (x::xs) 0=x:=rfl
theorem cf_cons_succ (x:Int)(xs:List Int)(k:Nat):cf (x::xs) (k+1)=cf xs k:=rfl
theorem cf_nil (k:Nat):cf [] k=0:=rfl
theorem tz_cons (x:Int)(xs:List Int):tz (x::xs)=if tz xs=0 then (if x=0 then 0 else 1) else tz xs+1:=by
 unfold tz;simp only[List.map_cons,topN];by_cases hx:x=0
 .simp[hx]
 .rw[if_neg hx,if_neg (show ¬x.natAbs=0 by omega)]
theorem tz_zero_iff:∀{q:List Int},tz q=0↔∀k,cf q k=0
 |[]=>by simp[tz,topN,cf_nil]
 |x::xs=>by
  rw[tz_cons];constructor
  .intro h k;split at h
   .rename_i h0;split at h
    .rename_i hx;subst hx;cases k with
     |zero=>rfl
     |succ k=>exact tz_zero_iff.mp h0 k
    .omega
   .omega
  .intro h;have h0:tz xs=0:=tz_zero_iff.mpr λk=>h (k+1)
   have hx:x=0:=h 0;rw[if_pos h0,if_pos hx]
theorem trimz_cons (x:Int)(xs:List Int):trimz (x::xs)=if tz xs=0/\x=0 then [] else x::trimz xs:=by
 unfold trimz;rw[tz_cons];by_cases h:tz xs=0
 .by_cases hx:x=0<;>simp[h,hx]
 .simp[h]
theorem trimz_ext:∀{p q:List Int},(∀k,cf p k=cf q k)->trimz p=trimz q
 |[],q,h=>by
  have:tz q=0:=tz_zero_iff.mpr λk=>(h k).symm
  simp[trimz,this]
 |x::xs,[],h=>by
  have:tz (x::xs)=0:=tz_zero_iff.mpr λk=>h k
  simp[trimz,this]
 |x::xs,y::ys,h=>by
  have hx:x=y:=h 0;have ih:=trimz_ext (p:=xs) (q:=ys) λk=>h (k+1)
  have ht:tz xs=0↔tz ys=0:=by
   rw[tz_zero_iff,tz_zero_iff];exact forall_congr' λk=>by rw[show cf xs k=cf ys k from h (k+1)]
  rw[trimz_cons,trimz_cons,hx,ih];simp only[ht]
theorem cf_trimz:∀(q:List Int) (k:Nat),cf (trimz q) k=cf q k
 |[],k=>by simp[trimz]
 |x::xs,k=>by
  rw[trimz_cons];split
  .rename_i h;cases k with
   |zero=>simp[cf_nil,cf_cons_zero,h.2]
   |succ k=>rw[cf_cons_succ,cf_nil];exact(tz_zero_iff.mp h.1 k).symm
  .cases k with
   |zero=>rfl
   |succ k=>rw[cf_cons_succ,cf_cons_succ,cf_trimz xs k]
theorem trimz_trimz (q:List Int):trimz (trimz q)=trimz q:=trimz_ext (cf_trimz q)
theorem tz_eq_of_cf {p q:List Int}(h:∀k,cf p k=cf q k):tz p=tz q:=by
 rw[<-trimz_len,<-trimz_len,trimz_ext h]
theorem cpoly_ext {p q:List Int}(h:∀k,cf p k=cf q k):cpoly p=cpoly q:=by
 unfold cpoly;rw[trimz_ext h]
theorem tz_spec {q:List Int}{n:Nat}(h:cf q n≠0)(h0:∀k,n<k->cf q k=0):tz q=n+1:=by
 have hn:n<q.length:=by
  rcases Nat.lt_or_ge n q.length with h'|h'
  .exact h'
  .exact(h (cf_ge h')).elim
 have e:∀k,cf q k=cf (q.take (n+1)) k:=by
  intro k;by_cases hk:k<n+1
  .simp[cf,List.getD,List.getElem?_take,hk]
  .rw[h0 k (by omega),cf_ge (by rw[List.length_take];omega)]
 rw[tz_eq_of_cf e,tz_full hn h]
theorem cf_tz_pred {q:List Int}(h:tz q≠0):cf q (tz q-1)≠0:=by
 induction q with
 |nil=>simp[tz,topN]at h
 |cons x xs ih =>
  rw[tz_cons]at h ⊢;by_cases h0:tz xs=0
  .rw[if_pos h0]at h ⊢;by_cases hx:x=0
   .simp[hx]at h
   .rw[if_neg hx];exact hx
  .rw[if_neg h0];have:=ih h0;rw[show tz xs+1-1=(tz xs-1)+1 by omega];exact this
theorem cf_ge_tz (q:List Int){k:Nat}(h:tz q<=k):cf q k=0:=by
 rw[<-cf_trimz];exact cf_ge (by rw[trimz_len];exact h)
def padd (p q:List Int):List Int:=(List.range (max p.length q.length)).map λk=>cf p k+cf q k
theorem cf_padd (p q:List Int)(k:Nat):cf (padd p q) k=cf p k+cf q k:=by
 by_cases h:k<max p.length q.length
 .simp only[padd,cf,List.getD,List.getElem?_map,List.getElem?_range h,Option.map_some,Option.getD_some]
 .rw[cf_ge (by simp[padd];omega),cf_ge (by omega),cf_ge (by omega)];rfl
def pscale (c:Int)(p:List Int):List Int:=p.map λx=>x*c
theorem cf_pscale (c:Int)(p:List Int)(k:Nat):cf (pscale c p) k=cf p k*c:=by
 simp only[pscale,cf,List.getD,List.getElem?_map];cases p[k]?<;>simp
def cv:List Int->(Nat->Int)->Nat->Int
 |[],_,_=>0
 |x::xs,g,k=>x*g k+match k with|0=>0|k+1=>cv xs g k
def pmul (p q:List Int):List Int:=(List.range (p.length+q.length)).map (cv p (cf q))
theorem cv_congr {g g':Nat->Int}:∀(p:List Int) (k:Nat),(∀j,g j=g' j)->cv p g k=cv p g' k
 |[],_,_=>rfl
 |x::xs,k,h=>by
  simp only[cv,h k];cases k with
  |zero=>rfl
  |succ k=>simp only;rw[cv_congr xs k h]
theorem cv_zero {g:Nat->Int}:∀(p:List Int) {n k:Nat},(∀j,n<=j->g j=0)->p.length+n<=k+1->cv p g k=0
 |[],_,_,_,_=>rfl
 |x::xs,n,k,h,hk=>by
  simp only[List.length_cons]at hk;simp only[cv,h k (by omega),Int.mul_zero,Int.zero_add];cases k with
  |zero=>rfl
  |succ k=>exact cv_zero xs h (by omega)
theorem cf_pmul (p q:List Int)(k:Nat):cf (pmul p q) k=cv p (cf q) k:=by
 by_cases h:k<p.length+q.length
 .simp only[pmul];rw[cf,List.getD,List.getElem?_map,List.getElem?_range h];rfl
 .rw[cf_ge (by simp[pmul];omega),cv_zero p (n:=q.length) (λj hj=>cf_ge hj) (by omega)]
theorem cv_cf_congr {p p':List Int}{g:Nat->Int}(h:∀j,cf p j=cf p' j):∀k,cv p g k=cv p' g k:=by
 induction p generalizing p' with
 |nil =>
  intro k
  induction p' generalizing k with
  |nil=>rfl
  |cons y ys ih =>
   have hy:y=0:=(h 0).symm;simp only[cv,hy,Int.zero_mul,Int.zero_add];cases k with
   |zero=>rfl
   |succ k=>exact ih (λj=>h (j+1)) k
 |cons x xs ih =>
  intro k;cases p' with
  |nil =>
   have hx:x=0:=h 0;simp only[cv,hx,Int.zero_mul,Int.zero_add];cases k with
   |zero=>rfl
   |succ k=>exact ih (p':=[]) (λj=>h (j+1)) k
  |cons y ys =>
   have hx:x=y:=h 0;simp only[cv,hx];cases k with
   |zero=>rfl
   |succ k=>simp only;rw[ih (p':=ys) (λj=>h (j+1)) k]
theorem cv_take_succ {g:Nat->Int}:∀(p:List Int) (i k:Nat),cv (p.take (i+1)) g k=cv (p.take i) g k+(if i<=k then cf p i*g (k-i) else 0)
 |[],i,k=>by simp[cv,cf_nil]
 |x::xs,0,k=>by
  simp only[List.take_succ_cons,List.take_zero,cv,cf_cons_zero,Nat.sub_zero,Nat.zero_le,if_true];cases k<;>simp
 |x::xs,i+1,k=>by
  simp only[List.take_succ_cons,cv,cf_cons_succ];cases k with
  |zero=>simp
  |succ k =>
   have:=cv_take_succ (g:=g) xs i k;simp only[List.take_succ_cons]at this ⊢;rw[this];simp only[Nat.add_le_add_iff_right,Nat.add_sub_add_right];omega
theorem pv_len (p:List RI):(pv p).length=p.length:=by simp[pv]
theorem cf_pv (p:List RI)(k:Nat):cf (pv p) k=iv (p.getD k (false,[])):=by
 simp only[cf,pv,List.getD,List.getElem?_map];cases p[k]?<;>simp[iv_zero]
theorem RP.get {n k:Nat}{p:List RI}(h:RP n k p)(i:Nat):Sz k (p.getD i (false,[])):=by
 by_cases hi:i<p.length
 .have:p.getD i (false,[])=p[i]:=by simp[List.getD,hi]
  rw[this];exact h.2 _ (List.getElem_mem hi)
 .rw[List.getD_eq_getElem?_getD,List.getElem?_eq_none (by omega)];exact⟨Nat.zero_le _,Lim.nil⟩
theorem canon_getD (q:List Int)(i:Nat):(q.map canon).getD i (false,[])=canon (cf q i):=by
 simp only[cf,List.getD,List.getElem?_map];cases q[i]?<;>simp[canon_zero]
theorem canon_set (q:List Int)(i:Nat)(z:Int):(q.map canon).set i (canon z)=(q.set i z).map canon:=by rw[List.map_set]
theorem canon_snoc (q:List Int)(z:Int):q.map canon++[canon z]=(q++[z]).map canon:=by simp
theorem pv_canon (q:List Int):pv (q.map canon)=q:=by
 simp only[pv,List.map_map]
 conv=>rhs;rw[<-List.map_id q]
 exact List.map_congr_left λz _=>iv_canon z
theorem RP.canon {n k:Nat}{q:List Int}(h:PB n k q):RP n k (q.map canon):=by
 refine⟨by simpa using h.1,λc hc=>?_⟩;obtain⟨z,hz,rfl⟩:=List.mem_map.mp hc;exact(sz_canon z).mono (h.2 z hz)
theorem PB.cf {n k:Nat}{q:List Int}(h:PB n k q)(i:Nat):zl (cf q i)<=k:=by
 by_cases hi:i<q.length
 .have:AL.cf q i=q[i]:=by simp[AL.cf,List.getD,hi]
  rw[this];exact h.2 _ (List.getElem_mem hi)
 .rw[cf_ge (by omega),zl_zero];exact Nat.zero_le _
theorem PB.of {n k:Nat}{q:List Int}(hl:q.length<=n)(h:∀i,zl (AL.cf q i)<=k):PB n k q:=by
 refine⟨hl,λz hz=>?_⟩;obtain⟨i,hi,rfl⟩:=List.getElem_of_mem hz;have:=h i;rwa [show AL.cf q i=q[i] by simp[AL.cf,List.getD,hi]]at this
theorem PB.trimz {n k:Nat}{q:List Int}(h:PB n k q):PB n k (trimz q) :=
 .of (by rw[trimz_len];exact Nat.le_trans (tz_le q) h.1) λi=>by rw[cf_trimz];exact h.cf i
theorem RP.pv {n k:Nat}{p:List RI}(h:RP n k p):PB n k (pv p) :=
 .of (by rw[pv_len];exact h.1) λi=>by rw[cf_pv];exact zl_iv (h.get i)
theorem PB.mono {n k n' k':Nat}{q:List Int}(h:PB n k q)(hn:n<=n')(hk:k<=k'):PB n' k' q:=⟨Nat.le_trans h.1 hn,λz hz=>Nat.le_trans (h.2 z hz) hk⟩
theorem RP.mono {n k n' k':Nat}{q:List RI}(h:RP n k q)(hn:n<=n')(hk:k<=k'):RP n' k' q:=⟨Nat.le_trans h.1 hn,λz hz=>(h.2 z hz).mono hk⟩
theorem PB.padd {n k m j:Nat}{p q:List Int}(hp:PB n k p)(hq:PB m j q):PB (max n m) (max k j+1) (padd p q) :=
 .of (by simp[AL.padd];have:=hp.1;have:=hq.1;omega) λi=>by
  rw[cf_padd];have:=zl_add (AL.cf p i) (AL.cf q i);have:=hp.cf i;have:=hq.cf i;omega
theorem PB.pscale {n k:Nat}{p:List Int}{c:Int}(hp:PB n k p):PB n (k+zl c) (pscale c p) :=
 .of (by simp[AL.pscale];exact hp.1) λi=>by rw[cf_pscale];have:=zl_mul (AL.cf p i) c;have:=hp.cf i;omega
theorem zl_le {z:Int}{k:Nat}:zl z<=k↔z.natAbs<W^k:=wd_len_le
theorem cv_abs {g:Nat->Int}{M N:Nat}(hg:∀j,(g j).natAbs<=N):∀(p:List Int) (k:Nat),(∀z∈p,z.natAbs<=M)->(cv p g k).natAbs<=p.length*(M*N)
 |[],_,_=>by simp[cv]
 |x::xs,k,h=>by
  have hx:=Nat.mul_le_mul (h x (by simp)) (hg k);have hsum:∀b:Int,b.natAbs<=xs.length*(M*N)->(x*g k+b).natAbs<=(xs.length+1)*(M*N):=by
   intro b hb;have:=Int.natAbs_add_le (x*g k) b;rw[Int.natAbs_mul]at this;rw[Nat.add_mul,Nat.one_mul];omega
  simp only[cv,List.length_cons];cases k with
  |zero=>exact hsum 0 (by simp)
  |succ k=>exact hsum _ (cv_abs hg xs k λz hz=>h z (by simp[hz]))
theorem zl_cv {p q:List Int}{n k m j:Nat}(hp:PB n k p)(hq:PB m j q)(hn:n<W)(i:Nat):zl (cv p (cf q) i)<=k+j+1:=by
 rw[zl_le];have h:=cv_abs (g:=cf q) (M:=W^k-1) (N:=W^j-1) (λi=>by have:=zl_le.mp (hq.cf i);omega) p i (λz hz=>by have:=zl_le.mp (hp.2 z hz);omega);refine Nat.lt_of_le_of_lt h ?_;have h1:p.length*((W^k-1)*(W^j-1))<=n*((W^k-1)*(W^j-1)):=Nat.mul_le_mul_right _ hp.1;have h2:(W^k-1)*(W^j-1)<=W^k*W^j:=Nat.mul_le_mul (by omega) (by omega);have h3:n*((W^k-1)*(W^j-1))<=n*(W^k*W^j):=Nat.mul_le_mul_left _ h2;have h4:n*(W^k*W^j)<W*(W^k*W^j):=(Nat.mul_lt_mul_right (Nat.mul_pos (W_pow_pos k) (W_pow_pos j))).mpr hn;rw[Nat.pow_succ,Nat.pow_add,Nat.mul_comm _ W];omega
theorem PB.pmul {p q:List Int}{n k m j:Nat}(hp:PB n k p)(hq:PB m j q)(hn:n<W):PB (n+m) (k+j+1) (pmul p q) :=
 .of (by simp[AL.pmul];have:=hp.1;have:=hq.1;omega) λi=>by rw[cf_pmul];exact zl_cv hp hq hn i
theorem rep_canon (n:Nat):List.replicate n ((false,[]):RI)=(List.replicate n 0).map canon:=by rw[List.map_replicate,canon_zero]
theorem cpoly_len (q:List Int):(cpoly q).length=tz q:=by simp[cpoly,raws,trimz_len]
theorem PB_take {n k:Nat}{q:List Int}(h:PB n k q)(i:Nat):PB n k (q.take i):=⟨by rw[List.length_take];have:=h.1;omega,λz hz=>h.2 z (List.mem_of_mem_take hz)⟩
theorem lay_int1 (c:RI)(l:List (List IV)):lay (λi=>[(0,1),(1,1)][i]?) (prow c) ([1].zip [[.sl l]])=some (True,[.bool c.1,.sl l]):=by simp[lay,splice,prow]
def polys (ps:List (List RI)):List (List IV):=ps.map λp=>[.sl (raws p)]
theorem polys_len (ps:List (List RI)):(polys ps).length=ps.length:=by simp[polys]
theorem polys_at {ps:List (List RI)}{i:Nat}(h:i<ps.length):(polys ps).getD i []=[.sl (raws (ps.getD i []))]:=by simp[polys,List.getD,h]
theorem lay_none (g:Nat->Option (Nat×Nat))(cells:List IV):lay g cells (([]:List Nat).zip ([]:List (List IV)))=some (True,cells):=rfl
theorem cf_rep (n k:Nat):cf (List.replicate n 0) k=0:=by
 simp only[cf,List.getD,List.getElem?_replicate];split<;>rfl
theorem cf_set {q:List Int}{i:Nat}(h:i<q.length)(z:Int)(k:Nat):cf (q.set i z) k=if k=i then z else cf q k:=by
 simp only[cf,List.getD,List.getElem?_set];by_cases e:i=k
 .subst e;simp[h]
 .simp[e,Ne.symm e]
theorem cv_none:∀(p:List Int) (k:Nat),cv p (cf []) k=0
 |[],_=>rfl
 |x::xs,k=>by
  simp only[cv,cf_nil,Int.mul_zero,Int.zero_add];cases k with
  |zero=>rfl
  |succ k=>exact cv_none xs k
end Go.AL

namespace Go.AL
set_option linter.unusedSimpArgs false
set_option linter.unusedVariables false
abbrev D16:Nat:=65536
def nums (l:List Nat):List (List IV):=l.map λx:Nat=>[.int .i64 (x:Int)]
theorem nums_len (l:List Nat):(nums l).length=l.length:=by simp[nums]
theorem nums_at {l:List Nat}{i:Nat}(h:i<l.length):(nums l).getD i []=[.int .i64 ((l.getD i 0:Nat):Int)]:=by simp[nums,List.getD,h]
theorem nums_set (l:List Nat)(i x:Nat):(nums l).set i [.int .i64 (x:Int)]=nums (l.set i x):=by simp[nums,List.map_set]
theorem nums_app (l m:List Nat):nums l++nums m=nums (l++m):=by simp[nums]
theorem nums_snoc (l:List Nat)(x:Nat):nums l++[[.int .i64 (x:Int)]]=nums (l++[x]):=by simp[nums]
theorem nums_take (l:List Nat)(k:Nat):(nums l).take k=nums (l.take k):=by simp[nums,List.map_take]
theorem nums_drop (l:List Nat)(k:Nat):(nums l).drop k=nums (l.drop k):=by simp[nums,List.map_drop]
theorem nums_rows (l:List Nat):(∀r∈nums l,r.length=1)↔True:=by simp[nums]
theorem nums_nil:nums []=[]:=rfl
def ilims (l:List Int):List (List IV):=l.map λx=>[.int .i64 x]
theorem ilims_len (l:List Int):(ilims l).length=l.length:=by simp[ilims]
theorem ilims_at {l:List Int}{i:Nat}(h:i<l.length):(ilims l).getD i []=[.int .i64 (l.getD i 0)]:=by simp[ilims,List.getD,h]
theorem tdiv_D (n:Nat):(n:Int).tdiv 65536=((n/65536:Nat):Int):=by rw[Int.tdiv_eq_ediv_of_nonneg (by omega)];rfl
theorem tmod_D (n:Nat):(n:Int).tmod 65536=((n%65536:Nat):Int):=by rw[Int.tmod_eq_emod_of_nonneg (by omega)];rfl
def Dig (d:List Nat):Prop:=∀x∈d,x<D16
theorem Dig.get {l:List Nat}(h:Dig l)(i:Nat):l.getD i 0<D16:=by
 by_cases hi:i<l.length
 .have:l.getD i 0=l[i]:=by simp[List.getD,hi]
  rw[this];exact h _ (List.getElem_mem hi)
 .rw[List.getD_eq_getElem?_getD,List.getElem?_eq_none (by omega)];decide
theorem Dig.append {l m:List Nat}(h:Dig l)(h':Dig m):Dig (l++m):=λx hx=>(List.mem_append.mp hx).elim (h x) (h' x)
theorem Dig.take {l:List Nat}(h:Dig l)(k:Nat):Dig (l.take k):=λx hx=>h x (List.mem_of_mem_take hx)
def dn (n w:Nat):List Nat:=(List.range n).map λk=>w/D16^k%D16
def dd (a:List Nat):List Nat:=a.flatMap (dn 4)
theorem Dig.nil:Dig []:=λ_ h=>nomatch h
theorem Dig.set {l:List Nat}(h:Dig l){i x:Nat}(hx:x<D16):Dig (l.set i x):=λy hy=>by
 rcases List.mem_or_eq_of_mem_set hy with hy|rfl
 .exact h y hy
 .exact hx
theorem Dig.replicate (n:Nat):Dig (List.replicate n 0):=λx hx=>by rw[List.eq_of_mem_replicate hx];decide
end Go.AL

namespace Go.AL
set_option linter.unusedSimpArgs false
set_option linter.unusedVariables false
def shiftf (g:Nat->Int):Nat->Int
 |0=>0
 |k+1=>g k
theorem cv_add (g h:Nat->Int):∀(p:List Int) (k:Nat),cv p (λj=>g j+h j) k=cv p g k+cv p h k
 |[],_=>rfl
 |x::xs,0=>by simp only[cv,Int.mul_add];omega
 |x::xs,k+1=>by simp only[cv,cv_add g h xs k,Int.mul_add];omega
theorem cv_smul (c:Int)(g:Nat->Int):∀(p:List Int) (k:Nat),cv p (λj=>c*g j) k=c*cv p g k
 |[],_=>by simp[cv]
 |x::xs,0=>by simp only[cv,Int.add_zero];rw[Int.mul_left_comm]
 |x::xs,k+1=>by simp only[cv,cv_smul c g xs k,Int.mul_add];rw[Int.mul_left_comm]
theorem cv_shift (g:Nat->Int):∀(p:List Int) (k:Nat),cv p (shiftf g) k=shiftf (cv p g) k
 |[],0=>rfl
 |[],k+1=>rfl
 |x::xs,0=>by simp[cv,shiftf]
 |x::xs,1=>by simp[cv,shiftf,cv_shift g xs 0]
 |x::xs,k+2=>by simp[cv,shiftf,cv_shift g xs (k+1)]
theorem cv_delta (x:Int):∀(q:List Int) (k:Nat),cv q (λj=>if j=0 then x else 0) k=cf q k*x
 |[],k=>by simp[cv,cf_nil]
 |y::ys,0=>by simp[cv,cf_cons_zero]
 |y::ys,k+1=>by simp[cv,cf_cons_succ,cv_delta x ys k]
theorem cf_cons (x:Int)(xs:List Int)(j:Nat):cf (x::xs) j=(if j=0 then x else 0)+shiftf (cf xs) j:=by
 cases j<;>simp[cf_cons_zero,cf_cons_succ,shiftf]
theorem cv_cons (x:Int)(xs:List Int)(g:Nat->Int)(k:Nat):cv (x::xs) g k=x*g k+shiftf (cv xs g) k:=by
 cases k<;>rfl
theorem shiftf_congr {g h:Nat->Int}(e:∀j,g j=h j)(k:Nat):shiftf g k=shiftf h k:=by cases k<;>simp[shiftf,e]
theorem cv_comm:∀(p q:List Int) (k:Nat),cv p (cf q) k=cv q (cf p) k
 |[],q,k=>by rw[cv_none];rfl
 |x::xs,q,k=>by
  rw[cv_cons,cv_congr q k (cf_cons x xs),cv_add,cv_delta,cv_shift,shiftf_congr (λj=>cv_comm xs q j),Int.mul_comm]
theorem cf_pmul_cons (x:Int)(xs q:List Int)(j:Nat):cf (pmul (x::xs) q) j=x*cf q j+shiftf (cf (pmul xs q)) j:=by
 rw[cf_pmul,cv_cons,shiftf_congr (λj=>(cf_pmul xs q j).symm)]
theorem cv_assoc:∀(p q r:List Int) (k:Nat),cv (pmul p q) (cf r) k=cv p (cf (pmul q r)) k
 |[],q,r,k=>by
  rw[cv_cf_congr (p':=[]) (λj=>by rw[cf_pmul];rfl)];rfl
 |x::xs,q,r,k=>by
  rw[cv_comm (pmul (x::xs) q) r,cv_congr r k (cf_pmul_cons x xs q),cv_add,cv_smul,cv_shift,cv_cons,cf_pmul,cv_comm q r]
  congr 1
  exact shiftf_congr (λj=>by rw[cv_comm,cv_assoc xs q r j]) k
theorem pmul_comm (p q:List Int)(k:Nat):cf (pmul p q) k=cf (pmul q p) k:=by rw[cf_pmul,cf_pmul,cv_comm]
theorem pmul_congr {p p' q q':List Int}(hp:∀k,cf p k=cf p' k)(hq:∀k,cf q k=cf q' k)(k:Nat):cf (pmul p q) k=cf (pmul p' q') k:=by
 rw[cf_pmul,cf_pmul,cv_cf_congr hp,cv_congr _ k hq]
theorem cv_top {g:Nat->Int}{n:Nat}(hg:∀j,n<j->g j=0):∀(p:List Int) (m:Nat),(∀j,m<j->cf p j=0)->cv p g (m+n)=cf p m*g n/\∀k,m+n<k->cv p g k=0
 |[],m,_=>⟨by simp[cv,cf_nil],λ_ _=>rfl⟩
 |x::xs,0,h=>by
  have h0:∀j,cf xs j=cf [] j:=λj=>h (j+1) (by omega)
  have hz:∀k,shiftf (cv xs g) k=0:=by
   intro k;cases k with
   |zero=>rfl
   |succ k=>show cv xs g k=0;rw[cv_cf_congr h0];rfl
  refine⟨?_,λk hk=>?_⟩
  .rw[cv_cons,hz,Nat.zero_add,cf_cons_zero,Int.add_zero]
  .rw[cv_cons,hz,hg k (by omega)];simp
 |x::xs,m+1,h=>by
  obtain⟨h1,h2⟩:=cv_top hg xs m λj hj=>h (j+1) (by omega)
  refine⟨?_,λk hk=>?_⟩
  .rw[cv_cons,hg _ (by omega),cf_cons_succ,show m+1+n=(m+n)+1 by omega];show x*0+cv xs g (m+n)=_;rw[h1];simp
  .cases k with
   |zero=>omega
   |succ k =>
    rw[cv_cons,hg _ (by omega)];show x*0+cv xs g k=0;rw[h2 k (by omega)];simp
theorem tz_pmul {p q:List Int}(hp:tz p≠0)(hq:tz q≠0):tz (pmul p q)=tz p+tz q-1:=by
 obtain⟨h1,h2⟩:=cv_top (g:=cf q) (n:=tz q-1) (λj hj=>cf_ge_tz q (by omega)) p (tz p-1) (λj hj=>cf_ge_tz p (by omega));have:=tz_spec (q:=pmul p q) (n:=tz p-1+(tz q-1)) (by
  rw[cf_pmul,h1];exact Int.mul_ne_zero (cf_tz_pred hp) (cf_tz_pred hq)) (λk hk=>by rw[cf_pmul];exact h2 k hk)
 omega
theorem tz_pmul_zero {p q:List Int}(h:tz p=0\/tz q=0):tz (pmul p q)=0:=by
 rw[tz_zero_iff];intro k;rcases h with h|h
 .rw[cf_pmul,cv_cf_congr (p':=[]) (tz_zero_iff.mp h)];rfl
 .rw[pmul_comm,cf_pmul,cv_cf_congr (p':=[]) (tz_zero_iff.mp h)];rfl
end Go.AL

namespace Go.AL
set_option linter.unusedSimpArgs false
set_option linter.unusedVariables false
def sumN:Nat->(Nat->Int)->Int
 |0,_=>0
 |n+1,f=>sumN n f+f n
theorem sumN_congr {n:Nat}{f g:Nat->Int}(h:∀i,i<n->f i=g i):sumN n f=sumN n g:=by
 induction n with
 |zero=>rfl
 |succ n ih=>rw[sumN,sumN,ih (λi hi=>h i (by omega)),h n (by omega)]
theorem sumN_add (n:Nat)(f g:Nat->Int):sumN n (λi=>f i+g i)=sumN n f+sumN n g:=by
 induction n with
 |zero=>rfl
 |succ n ih=>simp only[sumN,ih];omega
theorem sumN_mul (n:Nat)(c:Int)(f:Nat->Int):sumN n (λi=>c*f i)=c*sumN n f:=by
 induction n with
 |zero=>simp[sumN]
 |succ n ih=>simp only[sumN,ih,Int.mul_add]
theorem sumN_zero {n:Nat}{f:Nat->Int}(h:∀i,i<n->f i=0):sumN n f=0:=by
 induction n with
 |zero=>rfl
 |succ n ih=>rw[sumN,ih (λi hi=>h i (by omega)),h n (by omega)];rfl
theorem sumN_first (n:Nat)(f:Nat->Int):sumN (n+1) f=f 0+sumN n (λi=>f (i+1)):=by
 induction n with
 |zero=>simp[sumN]
 |succ n ih=>rw[sumN,ih,sumN];omega
theorem sumN_one {n j:Nat}(f:Nat->Int)(hj:j<n)(h:∀i,i<n->i≠j->f i=0):sumN n f=f j:=by
 induction n with
 |zero=>omega
 |succ n ih =>
  rw[sumN];by_cases e:j=n
  .subst e;rw[sumN_zero (λi hi=>h i (by omega) (by omega)),Int.zero_add]
  .rw[ih (by omega) (λi hi hne=>h i (by omega) hne),h n (by omega) (by omega),Int.add_zero]
structure PS where
 c:Nat->Int
namespace PS
theorem ext {f g:PS}(h:∀k,f.c k=g.c k):f=g:=by
 cases f;cases g;congr;exact funext h
def conv (f g:Nat->Int)(k:Nat):Int:=sumN (k+1) λi=>f i*g (k-i)
instance:Add PS:=⟨λf g=>⟨λk=>f.c k+g.c k⟩⟩
instance:Mul PS:=⟨λf g=>⟨conv f.c g.c⟩⟩
instance:Neg PS:=⟨λf=>⟨λk=>- f.c k⟩⟩
instance:Sub PS:=⟨λf g=>⟨λk=>f.c k-g.c k⟩⟩
instance:Zero PS:=⟨⟨λ_=>0⟩⟩
def C (z:Int):PS:=⟨λk=>if k=0 then z else 0⟩
instance:One PS:=⟨C 1⟩
def X:PS:=⟨λk=>if k=1 then 1 else 0⟩
theorem c_add (f g:PS)(k:Nat):(f+g).c k=f.c k+g.c k:=rfl
theorem c_neg (f:PS)(k:Nat):(-f).c k = -f.c k:=rfl
theorem c_zero (k:Nat):(0:PS).c k=0:=rfl
theorem c_C (z:Int)(k:Nat):(C z).c k=if k=0 then z else 0:=rfl
theorem c_one (k:Nat):(1:PS).c k=if k=0 then 1 else 0:=rfl
theorem c_mul (f g:PS)(k:Nat):(f*g).c k=conv f.c g.c k:=rfl
theorem cv_conv:∀(p:List Int) (g:Nat->Int) (k:Nat),cv p g k=conv (cf p) g k
 |[],g,k=>by simp only[cv,conv];rw[sumN_zero];intro i _;rw[cf_nil,Int.zero_mul]
 |x::xs,g,k=>by
  rw[cv_cons,conv,sumN_first];simp only[cf_cons_zero,Nat.sub_zero,cf_cons_succ]
  congr 1
  cases k with
  |zero=>rfl
  |succ k =>
   show cv xs g k=_;rw[cv_conv xs g k,conv];exact sumN_congr λi hi=>by congr 2;omega
def cut (n:Nat)(f:Nat->Int):List Int:=(List.range n).map f
theorem cf_cut {n:Nat}{f:Nat->Int}{i:Nat}(h:i<n):cf (cut n f) i=f i:=by
 simp[cut,cf,List.getD,h]
theorem conv_congr {f f' g g':Nat->Int}{k:Nat}(hf:∀i,i<=k->f i=f' i)(hg:∀i,i<=k->g i=g' i):conv f g k=conv f' g' k :=
 sumN_congr λi hi=>by rw[hf i (by omega),hg (k-i) (by omega)]
theorem conv_cut (f g:Nat->Int){n k:Nat}(h:k<n):conv f g k=cf (pmul (cut n f) (cut n g)) k:=by
 rw[cf_pmul,cv_conv];exact conv_congr (λi hi=>(cf_cut (by omega)).symm) (λi hi=>(cf_cut (by omega)).symm)
theorem mul_comm (f g:PS):f*g=g*f:=ext λk=>by
 rw[c_mul,c_mul,conv_cut _ _ (Nat.lt_succ_self k),conv_cut _ _ (Nat.lt_succ_self k),pmul_comm]
theorem mul_assoc (f g h:PS):f*g*h=f*(g*h):=ext λk=>by
 rw[c_mul,c_mul];have e1:conv (f*g).c h.c k=conv (cf (pmul (cut (k+1) f.c) (cut (k+1) g.c))) (cf (cut (k+1) h.c)) k :=
  conv_congr (λi hi=>by rw[c_mul,conv_cut f.c g.c (n:=k+1) (by omega)]) (λi hi=>(cf_cut (by omega)).symm)
 have e2:conv f.c (g*h).c k=conv (cf (cut (k+1) f.c)) (cf (pmul (cut (k+1) g.c) (cut (k+1) h.c))) k :=
  conv_congr (λi hi=>(cf_cut (by omega)).symm) (λi hi=>by rw[c_mul,conv_cut g.c h.c (n:=k+1) (by omega)])
 rw[e1,e2,<-cv_conv,<-cv_conv,cv_assoc]
theorem mul_add (f g h:PS):f*(g+h)=f*g+f*h:=ext λk=>by
 simp only[c_mul,c_add,conv];rw[<-sumN_add];exact sumN_congr λi _=>Int.mul_add _ _ _
theorem add_mul (f g h:PS):(f+g)*h=f*h+g*h:=by rw[mul_comm,mul_add,mul_comm h f,mul_comm h g]
theorem add_comm (f g:PS):f+g=g+f:=ext λk=>Int.add_comm _ _
theorem add_assoc (f g h:PS):f+g+h=f+(g+h):=ext λk=>Int.add_assoc _ _ _
theorem zero_add (f:PS):0+f=f:=ext λk=>Int.zero_add _
theorem add_zero (f:PS):f+0=f:=ext λk=>Int.add_zero _
theorem C_mul_c (z:Int)(f:PS)(k:Nat):(C z*f).c k=z*f.c k:=by
 rw[c_mul,conv,sumN_first,sumN_zero (λi _=>by rw[c_C,if_neg (by omega),Int.zero_mul]),Int.add_zero,c_C,if_pos rfl,Nat.sub_zero]
theorem one_mul (f:PS):1*f=f:=ext λk=>by
 show (C 1*f).c k=_;rw[C_mul_c,Int.one_mul]
theorem mul_one (f:PS):f*1=f:=by rw[mul_comm,one_mul]
theorem zero_mul (f:PS):0*f=0:=ext λk=>by
 rw[c_mul,conv,c_zero,sumN_zero];intro i _;rw[c_zero,Int.zero_mul]
theorem mul_zero (f:PS):f*0=0:=by rw[mul_comm,zero_mul]
theorem add_neg (f:PS):f + -f=0:=ext λk=>by rw[c_add,c_neg,c_zero];omega
theorem neg_mul (f g:PS) : -f*g = -(f*g):=ext λk=>by
 rw[c_mul,c_neg,c_mul,conv,conv,<-Int.neg_one_mul,<-sumN_mul];exact sumN_congr λi _=>by rw[c_neg,Int.neg_mul,Int.neg_one_mul]
theorem mul_neg (f g:PS):f * -g = -(f*g):=by rw[mul_comm,neg_mul,mul_comm]
theorem neg_neg (f:PS) : - -f=f:=ext λk=>Int.neg_neg _
theorem neg_one_C (f:PS):C (-1)*f = -f:=ext λk=>by rw[C_mul_c,c_neg,Int.neg_one_mul]
theorem C_add (a b:Int):C (a+b)=C a+C b:=ext λk=>by simp only[c_C,c_add];split<;>omega
theorem C_mul (a b:Int):C (a*b)=C a*C b:=ext λk=>by
 rw[C_mul_c,c_C,c_C];split<;>simp
theorem C_zero:C 0=0:=ext λk=>by rw[c_C,c_zero];split<;>rfl
theorem C_one:C 1=1:=rfl
instance:Std.Associative (α:=PS) (· * ·):=⟨mul_assoc⟩
instance:Std.Commutative (α:=PS) (· * ·):=⟨mul_comm⟩
instance:Std.Associative (α:=PS) (· + ·):=⟨add_assoc⟩
instance:Std.Commutative (α:=PS) (· + ·):=⟨add_comm⟩
def pw (f:PS):Nat->PS
 |0=>1
 |n+1=>pw f n*f
theorem pw_add (f:PS)(m n:Nat):pw f (m+n)=pw f m*pw f n:=by
 induction n with
 |zero=>rw[Nat.add_zero,pw,mul_one]
 |succ n ih=>rw[<-Nat.add_assoc,pw,ih,pw,mul_assoc]
theorem pw_one (f:PS):pw f 1=f:=by rw[pw,pw,one_mul]
theorem pw_mul (f g:PS)(n:Nat):pw (f*g) n=pw f n*pw g n:=by
 induction n with
 |zero=>rw[pw,pw,pw,mul_one]
 |succ n ih=>rw[pw,pw,pw,ih];ac_rfl
def D (f:PS):PS:=⟨λk=>f.c (k+1)*((k+1:Nat):Int)⟩
theorem D_mul (f g:PS):D (f*g)=D f*g+f*D g:=ext λk=>by
 rw[c_add,c_mul,c_mul];simp only[D,c_mul];have h1:conv (λk=>f.c (k+1)*((k+1:Nat):Int)) g.c k=sumN (k+2) (λi=>(i:Int)*(f.c i*g.c (k+1-i))):=by
  rw[sumN_first,conv,Int.natCast_zero,Int.zero_mul,Int.zero_add];refine sumN_congr λi hi=>?_;rw[show k+1-(i+1)=k-i by omega]
  ac_rfl
 have h2:conv f.c (λk=>g.c (k+1)*((k+1:Nat):Int)) k=sumN (k+2) (λi=>((k+1-i:Nat):Int)*(f.c i*g.c (k+1-i))):=by
  rw[sumN,conv,show k+1-(k+1)=0 by omega,Int.natCast_zero,Int.zero_mul,Int.add_zero];refine sumN_congr λi hi=>?_;rw[show k+1-i=k-i+1 by omega]
  ac_rfl
 rw[h1,h2,<-sumN_add,conv,Int.mul_comm,<-sumN_mul];refine sumN_congr λi hi=>?_;rw[<-Int.add_mul]
 congr 1
 omega
theorem D_C (z:Int):D (C z)=0:=ext λk=>by
 show (C z).c (k+1)*_=0;rw[c_C,if_neg (by omega),Int.zero_mul]
theorem D_pw (f:PS)(n:Nat):D (pw f (n+1))=C ((n+1:Nat):Int)*(pw f n*D f):=by
 induction n with
 |zero=>rw[pw_one,pw,one_mul];exact(one_mul _).symm
 |succ n ih =>
  rw[pw,D_mul,ih,pw];have e:C ((n+1+1:Nat):Int)=C ((n+1:Nat):Int)+1:=by rw[<-C_one,<-C_add];rfl
  rw[e,add_mul,one_mul]
  congr 1
  ac_rfl
end PS
def ps (q:List Int):PS:=⟨cf q⟩
theorem ps_c (q:List Int)(k:Nat):(ps q).c k=cf q k:=rfl
theorem ps_eq {p q:List Int}(h:ps p=ps q)(k:Nat):cf p k=cf q k:=by rw[<-ps_c,h,ps_c]
theorem ps_ext {p q:List Int}(h:∀k,cf p k=cf q k):ps p=ps q:=PS.ext h
theorem ps_padd (p q:List Int):ps (padd p q)=ps p+ps q:=PS.ext λk=>cf_padd p q k
theorem ps_pmul (p q:List Int):ps (pmul p q)=ps p*ps q:=PS.ext λk=>by rw[ps_c,cf_pmul,PS.cv_conv];rfl
theorem ps_pscale (c:Int)(p:List Int):ps (pscale c p)=PS.C c*ps p:=PS.ext λk=>by rw[PS.C_mul_c,ps_c,ps_c,cf_pscale,Int.mul_comm]
theorem ps_trimz (p:List Int):ps (trimz p)=ps p:=PS.ext (cf_trimz p)
theorem ps_nil:ps []=0:=PS.ext λk=>cf_nil k
theorem ps_one:ps [1]=1:=PS.ext λk=>by
 rw[PS.c_one,ps_c];cases k with
 |zero=>rfl
 |succ k=>rw[cf_cons_succ,cf_nil,if_neg (by omega)]
theorem ps_const (z:Int):ps [z]=PS.C z:=PS.ext λk=>by
 rw[PS.c_C,ps_c];cases k with
 |zero=>rfl
 |succ k=>rw[cf_cons_succ,cf_nil,if_neg (by omega)]
def pderiv (p:List Int):List Int:=(List.range (p.length-1)).map λk=>cf p (k+1)*((k+1:Nat):Int)
theorem cf_pderiv (p:List Int)(k:Nat):cf (pderiv p) k=cf p (k+1)*((k+1:Nat):Int):=by
 by_cases h:k<p.length-1
 .rw[pderiv,cf,List.getD,List.getElem?_map,List.getElem?_range h];rfl
 .rw[cf_ge (by simp[pderiv];omega),cf_ge (q:=p) (by omega),Int.zero_mul]
theorem ps_pderiv (p:List Int):ps (pderiv p)=PS.D (ps p):=PS.ext λk=>cf_pderiv p k
def ppow (p:List Int):Nat->List Int
 |0=>[1]
 |n+1=>pmul p (ppow p n)
theorem ps_ppow (p:List Int)(n:Nat):ps (ppow p n)=PS.pw (ps p) n:=by
 induction n with
 |zero=>exact ps_one
 |succ n ih=>rw[ppow,ps_pmul,ih,PS.mul_comm];rfl
theorem PB.pderiv {n k:Nat}{p:List Int}(h:PB n k p)(hn:n<W):PB n (k+1) (pderiv p) :=
 PB.of (by simp only[AL.pderiv,List.length_map,List.length_range];have:=h.1;omega) λi=>by
  rw[cf_pderiv];by_cases hi:i+1<p.length
  .refine Nat.le_trans (zl_mul _ _) (Nat.add_le_add (h.cf _) (zl_le.mpr ?_));have:=h.1;simp only[W]at *;omega
  .rw[cf_ge (q:=p) (by omega),Int.zero_mul,zl_zero];omega
theorem PB.one {n k:Nat}(hn:1<=n)(hk:1<=k):PB n k [1]:=⟨by simpa using hn,λz hz=>by
 simp at hz;subst hz;exact Nat.le_trans (zl_le.mpr (by decide)) hk⟩
theorem PB.ppow {n k:Nat}{p:List Int}(h:PB n k p)(hn:n<W):∀m,PB (m*n+1) (m*(k+1)+1) (ppow p m)
 |0=>PB.one (by omega) (by omega)
 |m+1=>by
  have e:AL.pmul p (AL.ppow p m)=AL.ppow p (m+1):=rfl;have:=h.pmul (PB.ppow h hn m) hn;rw[e]at this;exact this.mono (by rw[Nat.succ_mul];omega) (by rw[Nat.succ_mul];omega)
end Go.AL

namespace Go.AL
set_option linter.unusedSimpArgs false
set_option linter.unusedVariables false
def natsr (l:List (List Nat)):List (List IV):=l.map λa=>[.sl (lims a)]
theorem natsr_len (l:List (List Nat)):(natsr l).length=l.length:=by simp[natsr]
theorem natsr_at {l:List (List Nat)}{i:Nat}(h:i<l.length):(natsr l).getD i []=[.sl (lims (l.getD i []))]:=by simp[natsr,List.getD,h]
theorem natsr_snoc (l:List (List Nat))(a:List Nat):natsr l++[[.sl (lims a)]]=natsr (l++[a]):=by simp[natsr]
theorem natsr_app (l m:List (List Nat)):natsr l++natsr m=natsr (l++m):=by simp[natsr]
theorem natsr_rows (l:List (List Nat)):(∀r∈natsr l,r.length=1)↔True:=by simp[natsr]
theorem natsr_nil:natsr []=[]:=rfl
def hgt (q:List Int):Nat:=q.foldl (λm z=>max m z.natAbs) 0
def cmpZ (x y:Int):Int:=if x<y then -1 else if y<x then 1 else 0
end Go.AL
