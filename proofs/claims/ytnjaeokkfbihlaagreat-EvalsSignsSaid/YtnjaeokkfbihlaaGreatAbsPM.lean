/-
 Lists of coefficients.
-/
import Derived.Test.YtnjaeokkfbihlaaGreatAbsFM
namespace Go.AL
set_option linter.unusedSimpArgs false
set_option linter.unusedVariables false
def pv (p:List RI):List Int:=p.map iv
def tz (q:List Int):Nat:=topN (q.map Int.natAbs)
def trimz (q:List Int):List Int:=q.take (tz q)
def cf (q:List Int)(k:Nat):Int:=q.getD k 0
def RP (n k:Nat)(p:List RI):Prop:=p.length<=n/\∀c∈p,Sz k c
def PB (n k:Nat)(q:List Int):Prop:=q.length<=n/\∀z∈q,zl z<=k
def cpoly (q:List Int):List (List IV):=raws ((trimz q).map canon)
theorem tz_le (q:List Int):tz q<=q.length:=by simpa [tz] using topN_le (q.map Int.natAbs)
theorem trimz_len (q:List Int):(trimz q).length=tz q:=by rw[trimz,List.length_take,Nat.min_eq_left (tz_le q)]
theorem tz_take_zero {q:List Int}{k:Nat}(h:k<q.length)(h0:cf q k=0):tz (q.take (k+1))=tz (q.take k):=by
 unfold tz;rw[List.map_take,List.map_take];refine topN_take_zero (by simpa using h) ?_;simp only[cf,List.getD,List.getElem?_map,h,List.getElem?_eq_getElem,Option.map_some,Option.getD_some]at h0 ⊢;simp[h0]
theorem tz_full {q:List Int}{k:Nat}(h:k<q.length)(h0:cf q k≠0):tz (q.take (k+1))=k+1:=by
 unfold tz;rw[List.map_take];refine topN_full (by simpa using h) ?_;simp only[cf,List.getD,List.getElem?_map,h,List.getElem?_eq_getElem,Option.map_some,Option.getD_some]at h0 ⊢;simp;exact h0
theorem cf_ge {q:List Int}{k:Nat}(h:q.length<=k):cf q k=0:=by
 simp[cf,List.getD,List.getElem?_eq_none h]
theorem cf_cons_zero (x:Int)(xs:List Int):cf (x::xs) 0=x:=rfl
theorem cf_cons_succ (x:Int)(xs:List Int)(k:Nat):cf (x::xs) (k+1)=cf xs k:=rfl
theorem cf_nil (k:Nat):cf [] k=0:=rfl
theorem tz_cons (x:Int)(xs:List Int):tz (x::xs)=if tz xs=0 then (if x=0 then 0 else 1) else tz xs+1:=by
 unfold tz;simp only[List.map_cons,topN];by_cases hx:x=0
 .simp[hx]
 .rw[if_neg hx,if_neg (show ¬x.natAbs=0 by omega)]
theorem tz_zero_iff:∀{q:List Int},tz q=0↔∀k,cf q k=0
 |[]=>by simp[tz,topN,cf_nil]
 |x::xs=>by
  rw[tz_cons];constructor
  .intro h k;split at h
   .rename_i h0;split at h
    .rename_i hx;subst hx;cases k with
     |zero=>rfl
     |succ k=>exact tz_zero_iff.mp h0 k
    .omega
   .omega
  .intro h;have h0:tz xs=0:=tz_zero_iff.mpr λk=>h (k+1)
   have hx:x=0:=h 0;rw[if_pos h0,if_pos hx]
theorem trimz_cons (x:Int)(xs:List Int):trimz (x::xs)=if tz xs=0/\x=0 then [] else x::trimz xs:=by
 unfold trimz;rw[tz_cons];by_cases h:tz xs=0
 .by_cases hx:x=0<;>simp[h,hx]
 .simp[h]
theorem cf_trimz:∀(q:List Int) (k:Nat),cf (trimz q) k=cf q k
 |[],k=>by simp[trimz]
 |x::xs,k=>by
  rw[trimz_cons];split
  .rename_i h;cases k with
   |zero=>simp[cf_nil,cf_cons_zero,h.2]
   |succ k=>rw[cf_cons_succ,cf_nil];exact(tz_zero_iff.mp h.1 k).symm
  .cases k with
   |zero=>rfl
   |succ k=>rw[cf_cons_succ,cf_cons_succ,cf_trimz xs k]
theorem cf_ge_tz (q:List Int){k:Nat}(h:tz q<=k):cf q k=0:=by
 rw[<-cf_trimz];exact cf_ge (by rw[trimz_len];exact h)
def pscale (c:Int)(p:List Int):List Int:=p.map λx=>x*c
theorem cf_pscale (c:Int)(p:List Int)(k:Nat):cf (pscale c p) k=cf p k*c:=by
 simp only[pscale,cf,List.getD,List.getElem?_map];cases p[k]?<;>simp
def cv:List Int->(Nat->Int)->Nat->Int
 |[],_,_=>0
 |x::xs,g,k=>x*g k+match k with|0=>0|k+1=>cv xs g k
def pmul (p q:List Int):List Int:=(List.range (p.length+q.length)).map (cv p (cf q))
theorem cv_congr {g g':Nat->Int}:∀(p:List Int) (k:Nat),(∀j,g j=g' j)->cv p g k=cv p g' k
 |[],_,_=>rfl
 |x::xs,k,h=>by
  simp only[cv,h k];cases k with
  |zero=>rfl
  |succ k=>simp only;rw[cv_congr xs k h]
theorem cv_zero {g:Nat->Int}:∀(p:List Int) {n k:Nat},(∀j,n<=j->g j=0)->p.length+n<=k+1->cv p g k=0
 |[],_,_,_,_=>rfl
 |x::xs,n,k,h,hk=>by
  simp only[List.length_cons]at hk;simp only[cv,h k (by omega),Int.mul_zero,Int.zero_add];cases k with
  |zero=>rfl
  |succ k=>exact cv_zero xs h (by omega)
theorem cf_pmul (p q:List Int)(k:Nat):cf (pmul p q) k=cv p (cf q) k:=by
 by_cases h:k<p.length+q.length
 .simp only[pmul];rw[cf,List.getD,List.getElem?_map,List.getElem?_range h];rfl
 .rw[cf_ge (by simp[pmul];omega),cv_zero p (n:=q.length) (λj hj=>cf_ge hj) (by omega)]
theorem cv_cf_congr {p p':List Int}{g:Nat->Int}(h:∀j,cf p j=cf p' j):∀k,cv p g k=cv p' g k:=by
 induction p generalizing p' with
 |nil =>
  intro k
  induction p' generalizing k with
  |nil=>rfl
  |cons y ys ih =>
   have hy:y=0:=(h 0).symm;simp only[cv,hy,Int.zero_mul,Int.zero_add];cases k with
   |zero=>rfl
   |succ k=>exact ih (λj=>h (j+1)) k
 |cons x xs ih =>
  intro k;cases p' with
  |nil =>
   have hx:x=0:=h 0;simp only[cv,hx,Int.zero_mul,Int.zero_add];cases k with
   |zero=>rfl
   |succ k=>exact ih (p':=[]) (λj=>h (j+1)) k
  |cons y ys =>
   have hx:x=y:=h 0;simp only[cv,hx];cases k with
   |zero=>rfl
   |succ k=>simp only;rw[ih (p':=ys) (λj=>h (j+1)) k]
theorem pv_len (p:List RI):(pv p).length=p.length:=by simp[pv]
theorem cf_pv (p:List RI)(k:Nat):cf (pv p) k=iv (p.getD k (false,[])):=by
 simp only[cf,pv,List.getD,List.getElem?_map];cases p[k]?<;>simp[iv_zero]
theorem RP.get {n k:Nat}{p:List RI}(h:RP n k p)(i:Nat):Sz k (p.getD i (false,[])):=by
 by_cases hi:i<p.length
 .have:p.getD i (false,[])=p[i]:=by simp[List.getD,hi]
  rw[this];exact h.2 _ (List.getElem_mem hi)
 .rw[List.getD_eq_getElem?_getD,List.getElem?_eq_none (by omega)];exact⟨Nat.zero_le _,Lim.nil⟩
theorem canon_getD (q:List Int)(i:Nat):(q.map canon).getD i (false,[])=canon (cf q i):=by
 simp only[cf,List.getD,List.getElem?_map];cases q[i]?<;>simp[canon_zero]
theorem canon_set (q:List Int)(i:Nat)(z:Int):(q.map canon).set i (canon z)=(q.set i z).map canon:=by rw[List.map_set]
theorem canon_snoc (q:List Int)(z:Int):q.map canon++[canon z]=(q++[z]).map canon:=by simp
theorem pv_canon (q:List Int):pv (q.map canon)=q:=by
 simp only[pv,List.map_map]
 conv=>rhs;rw[<-List.map_id q]
 exact List.map_congr_left λz _=>iv_canon z
theorem RP.canon {n k:Nat}{q:List Int}(h:PB n k q):RP n k (q.map canon):=by
 refine⟨by simpa using h.1,λc hc=>?_⟩;obtain⟨z,hz,rfl⟩:=List.mem_map.mp hc;exact(sz_canon z).mono (h.2 z hz)
theorem PB.cf {n k:Nat}{q:List Int}(h:PB n k q)(i:Nat):zl (cf q i)<=k:=by
 by_cases hi:i<q.length
 .have:AL.cf q i=q[i]:=by simp[AL.cf,List.getD,hi]
  rw[this];exact h.2 _ (List.getElem_mem hi)
 .rw[cf_ge (by omega),zl_zero];exact Nat.zero_le _
theorem PB.of {n k:Nat}{q:List Int}(hl:q.length<=n)(h:∀i,zl (AL.cf q i)<=k):PB n k q:=by
 refine⟨hl,λz hz=>?_⟩;obtain⟨i,hi,rfl⟩:=List.getElem_of_mem hz;have:=h i;rwa [show AL.cf q i=q[i] by simp[AL.cf,List.getD,hi]]at this
theorem PB.trimz {n k:Nat}{q:List Int}(h:PB n k q):PB n k (trimz q) :=
 .of (by rw[trimz_len];exact Nat.le_trans (tz_le q) h.1) λi=>by rw[cf_trimz];exact h.cf i
theorem RP.pv {n k:Nat}{p:List RI}(h:RP n k p):PB n k (pv p) :=
 .of (by rw[pv_len];exact h.1) λi=>by rw[cf_pv];exact zl_iv (h.get i)
theorem PB.mono {n k n' k':Nat}{q:List Int}(h:PB n k q)(hn:n<=n')(hk:k<=k'):PB n' k' q:=⟨Nat.le_trans h.1 hn,λz hz=>Nat.le_trans (h.2 z hz) hk⟩
theorem RP.mono {n k n' k':Nat}{q:List RI}(h:RP n k q)(hn:n<=n')(hk:k<=k'):RP n' k' q:=⟨Nat.le_trans h.1 hn,λz hz=>(h.2 z hz).mono hk⟩
theorem PB.pscale {n k:Nat}{p:List Int}{c:Int}(hp:PB n k p):PB n (k+zl c) (pscale c p) :=
 .of (by simp[AL.pscale];exact hp.1) λi=>by rw[cf_pscale];have:=zl_mul (AL.cf p i) c;have:=hp.cf i;omega
theorem zl_le {z:Int}{k:Nat}:zl z<=k↔z.natAbs<W^k:=wd_len_le
theorem cv_abs {g:Nat->Int}{M N:Nat}(hg:∀j,(g j).natAbs<=N):∀(p:List Int) (k:Nat),(∀z∈p,z.natAbs<=M)->(cv p g k).natAbs<=p.length*(M*N)
 |[],_,_=>by simp[cv]
 |x::xs,k,h=>by
  have hx:=Nat.mul_le_mul (h x (by simp)) (hg k);have hsum:∀b:Int,b.natAbs<=xs.length*(M*N)->(x*g k+b).natAbs<=(xs.length+1)*(M*N):=by
   intro b hb;have:=Int.natAbs_add_le (x*g k) b;rw[Int.natAbs_mul]at this;rw[Nat.add_mul,Nat.one_mul];omega
  simp only[cv,List.length_cons];cases k with
  |zero=>exact hsum 0 (by simp)
  |succ k=>exact hsum _ (cv_abs hg xs k λz hz=>h z (by simp[hz]))
theorem zl_cv {p q:List Int}{n k m j:Nat}(hp:PB n k p)(hq:PB m j q)(hn:n<W)(i:Nat):zl (cv p (cf q) i)<=k+j+1:=by
 rw[zl_le];have h:=cv_abs (g:=cf q) (M:=W^k-1) (N:=W^j-1) (λi=>by have:=zl_le.mp (hq.cf i);omega) p i (λz hz=>by have:=zl_le.mp (hp.2 z hz);omega);refine Nat.lt_of_le_of_lt h ?_;have h1:p.length*((W^k-1)*(W^j-1))<=n*((W^k-1)*(W^j-1)):=Nat.mul_le_mul_right _ hp.1;have h2:(W^k-1)*(W^j-1)<=W^k*W^j:=Nat.mul_le_mul (by omega) (by omega);have h3:n*((W^k-1)*(W^j-1))<=n*(W^k*W^j):=Nat.mul_le_mul_left _ h2;have h4:n*(W^k*W^j)<W*(W^k*W^j):=(Nat.mul_lt_mul_right (Nat.mul_pos (W_pow_pos k) (W_pow_pos j))).mpr hn;rw[Nat.pow_succ,Nat.pow_add,Nat.mul_comm _ W];omega
theorem PB.pmul {p q:List Int}{n k m j:Nat}(hp:PB n k p)(hq:PB m j q)(hn:n<W):PB (n+m) (k+j+1) (pmul p q) :=
 .of (by simp[AL.pmul];have:=hp.1;have:=hq.1;omega) λi=>by rw[cf_pmul];exact zl_cv hp hq hn i
theorem cpoly_len (q:List Int):(cpoly q).length=tz q:=by simp[cpoly,raws,trimz_len]
theorem lay_int1 (c:RI)(l:List (List IV)):lay (λi=>[(0,1),(1,1)][i]?) (prow c) ([1].zip [[.sl l]])=some (True,[.bool c.1,.sl l]):=by simp[lay,splice,prow]
def polys (ps:List (List RI)):List (List IV):=ps.map λp=>[.sl (raws p)]
theorem polys_len (ps:List (List RI)):(polys ps).length=ps.length:=by simp[polys]
theorem polys_at {ps:List (List RI)}{i:Nat}(h:i<ps.length):(polys ps).getD i []=[.sl (raws (ps.getD i []))]:=by simp[polys,List.getD,h]
theorem lay_none (g:Nat->Option (Nat×Nat))(cells:List IV):lay g cells (([]:List Nat).zip ([]:List (List IV)))=some (True,cells):=rfl
theorem cv_none:∀(p:List Int) (k:Nat),cv p (cf []) k=0
 |[],_=>rfl
 |x::xs,k=>by
  simp only[cv,cf_nil,Int.mul_zero,Int.zero_add];cases k with
  |zero=>rfl
  |succ k=>exact cv_none xs k
end Go.AL

namespace Go.AL
set_option linter.unusedSimpArgs false
set_option linter.unusedVariables false
abbrev D16:Nat:=65536
def nums (l:List Nat):List (List IV):=l.map λx:Nat=>[.int .i64 (x:Int)]
theorem nums_len (l:List Nat):(nums l).length=l.length:=by simp[nums]
theorem nums_at {l:List Nat}{i:Nat}(h:i<l.length):(nums l).getD i []=[.int .i64 ((l.getD i 0:Nat):Int)]:=by simp[nums,List.getD,h]
theorem nums_set (l:List Nat)(i x:Nat):(nums l).set i [.int .i64 (x:Int)]=nums (l.set i x):=by simp[nums,List.map_set]
theorem nums_app (l m:List Nat):nums l++nums m=nums (l++m):=by simp[nums]
theorem nums_snoc (l:List Nat)(x:Nat):nums l++[[.int .i64 (x:Int)]]=nums (l++[x]):=by simp[nums]
theorem nums_take (l:List Nat)(k:Nat):(nums l).take k=nums (l.take k):=by simp[nums,List.map_take]
theorem nums_drop (l:List Nat)(k:Nat):(nums l).drop k=nums (l.drop k):=by simp[nums,List.map_drop]
theorem nums_rep (n:Nat):List.replicate n [.int .i64 0]=nums (List.replicate n 0):=by simp[nums]
theorem nums_rows (l:List Nat):(∀r∈nums l,r.length=1)↔True:=by simp[nums]
theorem nums_nil:nums []=[]:=rfl
def ilims (l:List Int):List (List IV):=l.map λx=>[.int .i64 x]
theorem ilims_len (l:List Int):(ilims l).length=l.length:=by simp[ilims]
theorem ilims_at {l:List Int}{i:Nat}(h:i<l.length):(ilims l).getD i []=[.int .i64 (l.getD i 0)]:=by simp[ilims,List.getD,h]
theorem tdiv_D (n:Nat):(n:Int).tdiv 65536=((n/65536:Nat):Int):=by rw[Int.tdiv_eq_ediv_of_nonneg (by omega)];rfl
theorem tmod_D (n:Nat):(n:Int).tmod 65536=((n%65536:Nat):Int):=by rw[Int.tmod_eq_emod_of_nonneg (by omega)];rfl
def Dig (d:List Nat):Prop:=∀x∈d,x<D16
theorem Dig.get {l:List Nat}(h:Dig l)(i:Nat):l.getD i 0<D16:=by
 by_cases hi:i<l.length
 .have:l.getD i 0=l[i]:=by simp[List.getD,hi]
  rw[this];exact h _ (List.getElem_mem hi)
 .rw[List.getD_eq_getElem?_getD,List.getElem?_eq_none (by omega)];decide
theorem Dig.append {l m:List Nat}(h:Dig l)(h':Dig m):Dig (l++m):=λx hx=>(List.mem_append.mp hx).elim (h x) (h' x)
theorem Dig.take {l:List Nat}(h:Dig l)(k:Nat):Dig (l.take k):=λx hx=>h x (List.mem_of_mem_take hx)
def dn (n w:Nat):List Nat:=(List.range n).map λk=>w/D16^k%D16
theorem dn_len (n w:Nat):(dn n w).length=n:=by simp[dn]
theorem dn_succ (n w:Nat):dn (n+1) w=dn n w++[w/D16^n%D16]:=by simp[dn,List.range_succ]
theorem dn_dig (n w:Nat):Dig (dn n w):=λx hx=>by
 simp only[dn,List.mem_map]at hx;obtain⟨k,_,rfl⟩:=hx;exact Nat.mod_lt _ (by decide)
theorem vl_dn (w:Nat):∀n,vl D16 (dn n w)=w%D16^n
 |0=>by simp[dn,vl,Nat.mod_one]
 |n+1=>by
  rw[dn_succ,vl_append,vl_dn w n,dn_len,Nat.pow_succ,Nat.mod_mul];simp[vl]
def dd (a:List Nat):List Nat:=a.flatMap (dn 4)
theorem dd_len (a:List Nat):(dd a).length=4*a.length:=by
 induction a with
 |nil=>rfl
 |cons x xs ih=>simp only[dd,List.flatMap_cons,List.length_append,dn_len,List.length_cons]at ih ⊢;omega
theorem dd_dig (a:List Nat):Dig (dd a):=λx hx=>by
 obtain⟨w,_,h⟩:=List.mem_flatMap.mp hx;exact dn_dig 4 w x h
theorem D16_four:D16^4=W:=by decide
theorem vl_dd {a:List Nat}(h:Lim a):vl D16 (dd a)=nv a:=by
 induction a with
 |nil=>rfl
 |cons x xs ih =>
  have hx:x<W:=h x (by simp);have ih:=ih λy hy=>h y (by simp[hy])
  simp only[dd,List.flatMap_cons,vl_append,vl_dn,dn_len,D16_four,Nat.mod_eq_of_lt hx,nv,vl]at ih ⊢;rw[ih]
theorem dd_take_succ (a:List Nat){i:Nat}(h:i<a.length):dd (a.take (i+1))=dd (a.take i)++dn 4 (a.getD i 0):=by
 have e:a.take (i+1)=a.take i++[a.getD i 0]:=by rw[List.take_add_one];simp[List.getD,h]
 rw[e];unfold dd;rw[List.flatMap_append];simp
abbrev dgD (n:Nat):List Nat:=dg D16 n
theorem two_le_D:2<=D16:=by decide
theorem dgD_dd {a:List Nat}(h:Lim a):(dd a).take (topN (dd a))=dgD (nv a):=by rw[<-vl_dd h,dgD,dg_vl two_le_D (dd_dig a)]
theorem dgD_dig (n:Nat):Dig (dgD n):=dg_lt two_le_D n
theorem vl_dgD (n:Nat):vl D16 (dgD n)=n:=vl_dg two_le_D n
theorem dgD_of {d:List Nat}(h:Dig d):d.take (topN d)=dgD (vl D16 d):=(dg_vl two_le_D h).symm
theorem dgD_len_zero {n:Nat}:(dgD n).length=0↔n=0:=by rw[List.length_eq_zero_iff];exact dg_eq_nil two_le_D
theorem dgD_len {l:List Nat}(h:Lim l):(dgD (nv l)).length<=4*l.length:=by
 rw[<-dgD_dd h,List.length_take,dd_len];omega
theorem W_pow_D (k:Nat):W^k=D16^(4*k):=by rw[Nat.pow_mul,D16_four]
theorem pad_wd (v:Nat):pad (((dgD v).length+3)/4) v=wd v:=by
 have h1:v<W^(((dgD v).length+3)/4):=by
  rw[W_pow_D];exact Nat.lt_of_lt_of_le ((dg_length_le two_le_D _).mp (Nat.le_refl _)) (Nat.pow_le_pow_right (by decide) (by show (dgD v).length<=_;omega))
 refine(eq_pad (lim_wd v) ?_ (by rw[nv_wd,Nat.mod_eq_of_lt h1])).symm;have h2:(wd v).length<=((dgD v).length+3)/4:=wd_len_le.mpr h1;have h3:(dgD v).length<=4*(wd v).length:=by
  rw[dgD,dg_length_le two_le_D,<-W_pow_D];exact wd_len_le.mp (Nat.le_refl _)
 omega
def four (d:List Nat)(i:Nat):List Nat:=[d.getD (4*i) 0,d.getD (4*i+1) 0,d.getD (4*i+2) 0,d.getD (4*i+3) 0]
theorem vl_four (d:List Nat)(i:Nat):vl D16 (d.take (4*(i+1)))=vl D16 (d.take (4*i))+W^i*vl D16 (four d i):=by
 rw[show 4*(i+1)=4*i+1+1+1+1 by omega,vl_take_next,vl_take_next,vl_take_next,vl_take_next,W_pow_D];simp only[four,vl,Nat.pow_succ,Nat.mul_add,Nat.mul_zero,Nat.add_zero,Nat.mul_assoc,Nat.add_assoc]
theorem four_drop (d:List Nat)(i:Nat){j:Nat}(h:j<4):vl D16 ((four d i).drop j)=d.getD (4*i+j) 0+D16*vl D16 ((four d i).drop (j+1)):=by
 have:j=0\/j=1\/j=2\/j=3:=by omega
 rcases this with rfl|rfl|rfl|rfl<;>rfl
theorem four_dig {d:List Nat}(h:Dig d)(i:Nat):Dig (four d i):=by
 intro x hx;simp only[four,List.mem_cons,List.not_mem_nil,or_false]at hx;rcases hx with rfl|rfl|rfl|rfl<;>exact h.get _
theorem four_drop_lt {d:List Nat}(h:Dig d)(i j:Nat):vl D16 ((four d i).drop (j+1))<281474976710656:=by
 have:=vl_lt (b:=D16) (l:=(four d i).drop (j+1)) λx hx=>four_dig h i x (List.mem_of_mem_drop hx)
 refine Nat.lt_of_lt_of_le this ?_;refine Nat.le_trans (Nat.pow_le_pow_right (by decide) (show _<=3 by rw[List.length_drop];simp[four])) (by decide)
theorem Dig.nil:Dig []:=λ_ h=>nomatch h
theorem Dig.snoc {l:List Nat}{x:Nat}(h:Dig l)(hx:x<D16):Dig (l++[x]):=h.append λy hy=>by simp at hy;subst hy;exact hx
theorem Dig.set {l:List Nat}(h:Dig l){i x:Nat}(hx:x<D16):Dig (l.set i x):=λy hy=>by
 rcases List.mem_or_eq_of_mem_set hy with hy|rfl
 .exact h y hy
 .exact hx
theorem Dig.replicate (n:Nat):Dig (List.replicate n 0):=λx hx=>by rw[List.eq_of_mem_replicate hx];decide
theorem D_pow_pos (n:Nat):0<D16^n:=Nat.pow_pos (by decide)
theorem vlD_lt {l:List Nat}(h:Dig l):vl D16 l<D16^l.length:=vl_lt h
theorem vlD_take {l:List Nat}(h:Dig l)(k:Nat):vl D16 (l.take k)=vl D16 l%D16^k:=by
 by_cases hk:k<=l.length
 .have e:=vl_split D16 l hk;have h2:=vlD_lt (h.take k);rw[List.length_take,Nat.min_eq_left hk]at h2;rw[e,Nat.add_mul_mod_self_left,Nat.mod_eq_of_lt h2]
 .rw[List.take_of_length_le (by omega),Nat.mod_eq_of_lt];exact Nat.lt_of_lt_of_le (vlD_lt h) (Nat.pow_le_pow_right (by decide) (by omega))
theorem dig_at {l:List Nat}(h:Dig l)(k:Nat):l.getD k 0=vl D16 l/D16^k%D16:=by
 have h1:=vl_take_next D16 l k;rw[vlD_take h,vlD_take h,Nat.mod_pow_succ]at h1;exact(Nat.eq_of_mul_eq_mul_left (D_pow_pos k) (Nat.add_left_cancel h1)).symm
theorem eq_dn {l:List Nat}{n v:Nat}(h:Dig l)(hl:l.length=n)(hv:vl D16 l=v%D16^n):l=dn n v :=
 vl_inj h (dn_dig n v) (by rw[dn_len,hl]) (by rw[vl_dn,hv])
theorem vlD_snoc (l:List Nat)(x:Nat):vl D16 (l++[x])=vl D16 l+D16^l.length*x:=by simp[vl_append,vl]
theorem carryD {P A B O c x y s c':Nat}(h:O+P*c=A+B)(he:s+D16*c'=x+y+c):(O+P*s)+P*D16*c'=(A+P*x)+(B+P*y):=by
 have:=congrArg (P * ·) he;simp only[Nat.mul_add]at this;rw[Nat.mul_assoc];omega
theorem borrowD {P A B O c x y s c':Nat}(h:O+B=A+P*c)(he:s+y+c=x+D16*c'):(O+P*s)+(B+P*y)=(A+P*x)+P*D16*c':=by
 have:=congrArg (P * ·) he;simp only[Nat.mul_add]at this;rw[Nat.mul_assoc];omega
end Go.AL

namespace Go.AL
set_option linter.defProp false
def wk0:=And.intro @AW_skip (And.intro @AW_region (And.intro @AW_drawn (And.intro @AW_seq (And.intro @AW_cond (And.intro @ACond_tt (And.intro @ACond_ff (And.intro @AW_block (And.intro @AW_loop (And.intro @AW_exit (And.intro @AW_scope (And.intro @AW_label (And.intro @AW_ret (And.intro @SeqC_normal (And.intro @SeqC_exit (And.intro @SeqC_ret (And.intro @SeqQ_normal (And.intro @SeqQ_exit (And.intro @SeqQ_ret (And.intro @BlockQ_normal (And.intro @BlockQ_exit (And.intro @BlockQ_ret (And.intro @ScopeQ_normal (And.intro @ScopeQ_exit (@ScopeQ_ret))))))))))))))))))))))))
def wk1:=And.intro @LoopQ_normal (And.intro @LoopQ_exit (And.intro @LoopQ_ret (And.intro @PlainQ_at (And.intro @OrdQ_at (And.intro @RetC_ret (And.intro @RetC_normal (And.intro @AOps_nil (And.intro @AOps_move (And.intro @AOps_assign (And.intro @AOps_pick (And.intro @AOps_alloc (And.intro @AOps_box (And.intro @AOps_build (And.intro @AOps_buildSlice (And.intro @AOps_load (And.intro @AOps_store (And.intro @AOps_nilCheck (And.intro @AOps_binOp (And.intro @AOps_unOp (And.intro @AOps_convert (And.intro @AOps_makeSlice (And.intro @AOps_slice (And.intro @AOps_fieldAddr (@AOps_indexAddr))))))))))))))))))))))))
def wk2:=And.intro @AOps_index (And.intro @AOps_extract (And.intro @AOps_builtin (And.intro @AOps_call (And.intro @AOps_guard (And.intro @AGuard_tt (And.intro @AGuard_ff (And.intro @AGuard_tf (And.intro @AGuard_ft (And.intro @AGuard_undef (And.intro @AStep_true (And.intro @AStep_ok (And.intro @int_beq (And.intro @int_bne (And.intro @range_1 (And.intro @range_2 (And.intro @range_3 (And.intro @range_4 (And.intro @splice_one (And.intro @lims_set (And.intro @lims_app (And.intro @lims_snoc (And.intro @lims_take (And.intro @lims_drop (@lims_rep))))))))))))))))))))))))
def wk3:=And.intro @lims_rows (And.intro @lims_nil (And.intro @lay_int (And.intro @prow_len (And.intro @prow_drop0 (And.intro @prow_drop1 (And.intro @prow_get0 (And.intro @prow_get1 (And.intro @prow_take (And.intro @prow_zero (And.intro @prow_splice (And.intro @raws_len (And.intro @raws_at (And.intro @raws_set (And.intro @raws_snoc (And.intro @raws_app (And.intro @raws_nil (And.intro @raws_rep (And.intro @raws_rows (And.intro @raws_take (And.intro @raws_drop (And.intro @canon_getD (And.intro @canon_set (And.intro @canon_snoc (@pv_len))))))))))))))))))))))))
def wk4:=And.intro @canon_snd (And.intro @canon_fst (And.intro @lims_len (And.intro @lims_at (And.intro @updo_some (And.intro @updo_none (And.intro @upd_at (And.intro @updH_at (And.intro @ev_tmp (And.intro @ev_const (And.intro @cst_int (And.intro @cst_bool (And.intro @cst_nil (And.intro @initF_at (And.intro @initH_at (And.intro @CV_av_iv (And.intro @CV_av_agg (And.intro @CV_av_val (And.intro @stamp_blk (And.intro @stamp_none (And.intro @frz_blk (And.intro @frz_none (And.intro @cast_0 (And.intro @cast_1 (@wrap_i64))))))))))))))))))))))))
def wk5:=And.intro @lay_none (And.intro @nums_len (And.intro @nums_at (And.intro @nums_set (And.intro @nums_app (And.intro @nums_snoc (And.intro @nums_take (And.intro @nums_drop (And.intro @nums_rows (And.intro @nums_nil (And.intro @ilims_len (And.intro @ilims_at (And.intro @tdiv_D (And.intro @tmod_D (And.intro @lay_int1 (And.intro @polys_len (And.intro @polys_at (And.intro @decide_true (And.intro @decide_false (And.intro @Bool.not_true (And.intro @Bool.not_false (And.intro @ne_eq.{1} (And.intro @not_true_eq_false (And.intro @gt_iff_lt.{0} (@ge_iff_le.{0}))))))))))))))))))))))))
def wk6:=And.intro @Bool.false_eq_true (And.intro @AV.iv.injEq (And.intro @IV.int.injEq (And.intro @IV.bool.injEq (And.intro @CV.iv.injEq (And.intro @CV.agg.injEq (And.intro @AV.agg.injEq (And.intro @true_implies (And.intro @implies_true.{1} (And.intro @List.not_mem_nil.{0} (And.intro @List.mem_cons.{0} (And.intro @or_false (And.intro @forall_eq_or_imp.{1} (And.intro @forall_eq.{1} (And.intro @false_implies (And.intro @not_false_eq_true (And.intro @Decidable.not_not (And.intro @Nat.zero_mul (And.intro @Nat.one_mul (And.intro @Nat.zero_le (And.intro @List.range_zero (And.intro @List.set_cons_zero.{0} (And.intro @List.length_replicate.{0} (And.intro @List.length_append.{0} (@List.length_set.{0}))))))))))))))))))))))))
def wk7:=And.intro @Int.sub_zero (And.intro @List.drop_zero.{0} (And.intro @List.length_cons.{0} (And.intro @List.length_nil.{0} (And.intro @Nat.lt_add_one (And.intro @Nat.zero_add (And.intro @Int.toNat_natCast (And.intro @List.map_cons.{0,0} (And.intro @List.map_nil.{0,0} (And.intro @List.getD_cons_zero.{0} (And.intro @List.getD_cons_succ.{0} (And.intro @List.getElem?_cons_zero.{0} (And.intro @List.getElem?_cons_succ.{0} (And.intro @List.getElem?_nil.{0} (And.intro @Option.getD_some.{0} (And.intro @Option.getD_none.{0} (And.intro @Option.map_some.{0,0} (And.intro @Option.map_none.{0,0} (And.intro @true_and (And.intro @and_true (And.intro @List.append_nil.{0} (And.intro @List.nil_append.{0} (And.intro @List.cons_append.{0} (And.intro @Go.maxLen.eq_1 (@intAt.eq_1))))))))))))))))))))))))
def wk8:=And.intro (λ{zi:Zi}=>@rets.eq_1 zi) (And.intro (λ{zi:Zi}=>@rets.eq_2 zi) (And.intro (λ{zi:Zi}=>@rets.eq_3 zi) (And.intro (λ{zi:Zi}=>@rets.eq_4 zi) (And.intro (λ{zi:Zi}=>@RetVal.eq_def zi) (And.intro (λ{zi:Zi}=>@retv.eq_def zi) (And.intro @tocv.eq_def (And.intro @tocvs.eq_1 (And.intro @tocvs.eq_2 (And.intro @tparts.eq_1 (And.intro @tparts.eq_2 (And.intro @RetOwn.eq_def (And.intro @packA.eq_def (And.intro @rAV.eq_1 (And.intro @rAV.eq_2 (And.intro @rAV.eq_3 (And.intro @ownH.eq_def (And.intro @srcRows.eq_def (And.intro @loOf.eq_def (And.intro @hiOf.eq_def (And.intro @applyH.eq_1 (And.intro @applyH.eq_2 (And.intro @frzAll.eq_1 (And.intro @frzAll.eq_2 ((λ{zi:Zi}=>@aBuiltin.eq_def zi)))))))))))))))))))))))))
def wk9:=And.intro @aMax3.eq_def (And.intro @aLen.eq_def (And.intro @aBin.eq_def (And.intro @aArith.eq_def (And.intro @aIndex.eq_def (And.intro @aIndexA.eq_def (And.intro @aLoad.eq_def (And.intro @aStore.eq_def (And.intro @aAlloc.eq_def (And.intro @aBox.eq_def (And.intro @aMake.eq_def (And.intro @aFieldAddr.eq_def (And.intro @aExtract.eq_def (And.intro @aUn.eq_def (And.intro @aConv.eq_def (And.intro @aSlice.eq_def (And.intro @aNil.eq_def (And.intro @aBuild.eq_def (And.intro @aBuildSlice.eq_def (And.intro @aAppend.eq_def (And.intro @aMax.eq_def (And.intro @tcells.eq_def (And.intro @newBox.eq_def (And.intro @aIndexS.eq_def (@aCopy.eq_def))))))))))))))))))))))))
def wkR:=And.intro @stamp_nst (And.intro @stamp_gone (And.intro @aStoreN.eq_def (And.intro @aBuildSliceN.eq_def (And.intro @aAppendN.eq_def (And.intro @AOps_field (And.intro @aField_agg (And.intro @aField_one (And.intro @RetCT_ret (And.intro @RetCT_normal (And.intro @RetTV_hv (And.intro @RetTV_hs (And.intro @RetCW_ret (And.intro @RetCW_normal (And.intro @CV_av_any (And.intro @initFW_at (And.intro @initHW_at (And.intro (λ{zi:Zi}=>@retsW.eq_1 zi) (And.intro (λ{zi:Zi}=>@retsW.eq_2 zi) (And.intro @AW_range (And.intro @AsgC_normal (And.intro @RoundQ_normal (And.intro @RoundQ_ret (And.intro @RoundQ_exit (And.intro @AOps_callv (And.intro @ACallV_fn (And.intro @AOps_makeFunc (And.intro @ev_func (And.intro @CV_av_box (And.intro @CV_av_fn (And.intro @lays_cons (And.intro @lays_nil (And.intro @toboxes.eq_1 (And.intro @toboxes.eq_2 (@tobox.eq_def))))))))))))))))))))))))))))))))))
theorem zsl0 : @zsl zi0=.sl []:=rfl
theorem initFA_at (avs:List AV)(t:Nat):initFA avs t=(avs[t]?).getD .undef:=rfl
def wkX:=And.intro zst0 (And.intro @aAppendM.eq_def (And.intro zbs0 (And.intro @RetCI_ret (And.intro @RetCI_normal (And.intro @AWo_succ (And.intro @initFA_at (And.intro @unAVs.eq_1 (And.intro @unAVs.eq_2 (And.intro @unAV.eq_def (And.intro zsl0 (And.intro zbx0 (And.intro (λ{zi:Zi}=>@aAllocN.eq_def zi) (And.intro (λ{zi:Zi}=>@aBoxN.eq_def zi) (And.intro @oneAV.eq_def (And.intro @unhw_iv (And.intro @unhw_nils (And.intro @unhw_hs (And.intro @unhw_hw (And.intro @unhw_hv (And.intro @aAppendV.eq_def (And.intro @aAppendW.eq_def (And.intro @toAV.eq_def (And.intro @RetCX_ret (And.intro @RetCX_normal (And.intro @stamp_mrk (And.intro @frz_mrk (And.intro @initHX_at (@HC.mrk.injEq))))))))))))))))))))))))))))
def wk:=And.intro wkX (And.intro wkR (And.intro wk0 (And.intro wk1 (And.intro wk2 (And.intro wk3 (And.intro wk4 (And.intro wk5 (And.intro wk6 (And.intro wk7 (And.intro wk8 (wk9)))))))))))
end Go.AL
