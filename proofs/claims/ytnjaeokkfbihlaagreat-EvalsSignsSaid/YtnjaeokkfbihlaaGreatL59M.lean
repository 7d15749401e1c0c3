/-
 Contracts of the functions that the law reaches.
-/
import Derived.Test.YtnjaeokkfbihlaaGreatL12M
import Derived.Test.YtnjaeokkfbihlaaGreatAbsS
set_option maxHeartbeats 2000000
namespace Go.Proofs.YtnjaeokkfbihlaaGreat
open Go Go.Proofs Go.AL
set_option linter.unusedSimpArgs false
set_option linter.unusedVariables false
abbrev RQ:=RI×List Nat
abbrev qrow (r:RQ):List IV:=[.bool r.1.1,.sl (lims r.1.2),.sl (lims r.2)]
def rats (l:List RQ):List (List IV):=l.map qrow
theorem lay_rat (c:RI)(x:IV):lay (λi=>[(0,2),(2,1)][i]?) [.bool false,.sl [],.sl []] ([0,1].zip [prow c,[x]])=some ((2=2/\0+2<=3)/\(1=1/\2+1<=3)/\True,[.bool c.1,.sl (lims c.2),x]):=rfl
theorem rats_len (l:List RQ):(rats l).length=l.length:=by simp[rats]
def Nt (k:Nat)(l:List Nat):Prop:=l.length<=k/\Lim l
def SzQ (k:Nat)(r:RQ):Prop:=Sz k r.1/\Nt k r.2
def RawQ (p:List RQ):Prop:=p.length<=9223372036854775807/\∀c∈p,SzQ 9223372036854775807 c
theorem reads_rat {P:Program}{w:World}{t:TypeId}(h:Reads P w (λc:(RI×(List Nat×Unit))=>prow c.1++([.sl (lims c.2.1)]++[])) (λc=>Sz 9223372036854775807 c.1/\(Nt 9223372036854775807 c.2.1/\True)) t):Reads P w qrow (SzQ 9223372036854775807) t:=λenc sp held fuel cs x hx=>by
 obtain⟨a,f,e⟩:=h enc sp held fuel cs x hx;exact⟨(a.1,a.2.1),⟨f.1,f.2.1⟩,e⟩
def rq (n:Int)(d:Nat):RQ:=(canon (n/(Nat.gcd n.natAbs d:Nat)),wd (d/Nat.gcd n.natAbs d))
theorem gcd_pos_r {n:Int}{d:Nat}(hd:0<d):0<Nat.gcd n.natAbs d:=Nat.gcd_pos_of_pos_right _ hd
theorem rq_parts {n:Int}{d:Nat}(hd:0<d):∃(g:Nat) (a:Int) (b:Nat),0<g/\0<b/\n=a*g/\d=b*g/\Nat.gcd a.natAbs b=1/\rq n d=(canon a,wd b):=by
 have hg:=gcd_pos_r (n:=n) hd;obtain⟨g,hgd⟩:∃g,g=Nat.gcd n.natAbs d:=⟨_,rfl⟩;have h1:g∣n.natAbs:=by rw[hgd];exact Nat.gcd_dvd_left _ _
 have h2:g∣d:=by rw[hgd];exact Nat.gcd_dvd_right _ _
 rw[<-hgd]at hg;obtain⟨b,hb⟩:=h2;obtain⟨a,ha⟩:(g:Int)∣n:=Int.ofNat_dvd_left.mpr h1;have hg':(g:Int)≠0:=by omega
 have hb0:0<b:=Nat.pos_of_ne_zero λe=>by rw[e,Nat.mul_zero]at hb;omega
 refine⟨g,a,b,hg,hb0,by rw[ha,Int.mul_comm],by rw[hb,Nat.mul_comm],?_,?_⟩
 .have e:Nat.gcd n.natAbs d=g*Nat.gcd a.natAbs b:=by rw[ha,hb,Int.natAbs_mul,Int.natAbs_natCast,Nat.gcd_mul_left]
  rw[<-hgd]at e;exact Nat.eq_of_mul_eq_mul_left hg (by rw[<-e,Nat.mul_one])
 .unfold rq;rw[<-hgd];rw[ha,hb,Int.mul_ediv_cancel_left _ hg',Nat.mul_div_cancel_left _ hg]
theorem rq_sz {n:Int}{d K L:Nat}(hd:0<d)(hn:zl n<=K)(hl:(wd d).length<=L):Sz K (rq n d).1/\Nt L (rq n d).2:=by
 obtain⟨g,a,b,hg,hb,rfl,rfl,hc,e⟩:=rq_parts (n:=n) hd;rw[e];refine⟨⟨?_,lim_wd _⟩,?_,lim_wd _⟩
 .refine Nat.le_trans ?_ hn;show zl a<=zl (a*g);refine zl_le.mpr (Nat.lt_of_le_of_lt ?_ (zl_le.mp (Nat.le_refl (zl (a*g)))));rw[Int.natAbs_mul,Int.natAbs_natCast];exact Nat.le_mul_of_pos_right _ hg
 .refine Nat.le_trans ?_ hl;refine wd_len_le.mpr (Nat.lt_of_le_of_lt ?_ (wd_len_le.mp (Nat.le_refl (wd (b*g)).length)));exact Nat.le_mul_of_pos_right _ hg
def qv (r:RQ):Rat:=mkRat (iv r.1) (nv r.2)
def crat (q:Rat):RQ:=(canon q.num,wd q.den)
theorem rq_crat {n:Int}{d:Nat}(hd:d≠0):rq n d=crat (mkRat n d):=by
 have:mkRat n d=Rat.normalize n d hd:=Rat.mkRat_def n d |>.trans (by rw[dif_neg hd])
 rw[this,Rat.normalize_eq hd];rfl
theorem qv_crat (q:Rat):qv (crat q)=q:=by
 unfold qv crat;rw[iv_canon,nv_wd];exact Rat.mkRat_self q
theorem den_crat (q:Rat):nv (crat q).2≠0:=by
 show nv (wd q.den)≠0;rw[nv_wd];exact q.den_nz
def qz (q:Rat):Nat:=max (zl q.num) (wd q.den).length
theorem sz_crat (q:Rat):SzQ (qz q) (crat q):=⟨(sz_canon _).mono (Nat.le_max_left _ _),⟨Nat.le_max_right _ _,lim_wd _⟩⟩
theorem qz_mk {n:Int}{d k:Nat}(hd:d≠0)(hn:zl n<=k)(h:(wd d).length<=k):qz (mkRat n d)<=k:=by
 have e:=rq_crat (n:=n) hd;have s:=rq_sz (n:=n) (Nat.pos_of_ne_zero hd) hn h;rw[e]at s;refine Nat.max_le.2 ⟨?_,s.2.1⟩;have:=zl_iv s.1;rwa [show iv (crat (mkRat n d)).1=(mkRat n d).num from iv_canon _]at this
theorem qz_raw {r:RQ}{k:Nat}(h:SzQ k r)(hd:nv r.2≠0):qz (qv r)<=k :=
 qz_mk hd (zl_iv h.1) (Nat.le_trans (nv_len h.2.2) h.2.1)
theorem wd_mul_len (a b:Nat):(wd (a*b)).length<=(wd a).length+(wd b).length:=by
 have:=zl_mul (a:Int) (b:Int);unfold zl at this;rwa [Int.natAbs_mul,Int.natAbs_natCast,Int.natAbs_natCast]at this
theorem zl_nat (d:Nat):zl (d:Int)=(wd d).length:=rfl
theorem qz_add (p q:Rat):qz (p+q)<=qz p+qz q+1:=by
 have e:p+q=mkRat (p.num*q.den+q.num*p.den) (p.den*q.den):=by
  rw[<-Rat.mkRat_add_mkRat _ _ p.den_nz q.den_nz,Rat.mkRat_self,Rat.mkRat_self]
 have h1:=Nat.le_max_left (zl p.num) (wd p.den).length;have h2:=Nat.le_max_right (zl p.num) (wd p.den).length;have h3:=Nat.le_max_left (zl q.num) (wd q.den).length;have h4:=Nat.le_max_right (zl q.num) (wd q.den).length;have m1:=zl_mul p.num (q.den:Int);have m2:=zl_mul q.num (p.den:Int);have m3:=zl_add (p.num*q.den) (q.num*p.den);have m4:=wd_mul_len p.den q.den;rw[zl_nat]at m1 m2;rw[e];unfold qz;exact qz_mk (Nat.mul_ne_zero p.den_nz q.den_nz) (by omega) (by omega)
theorem qz_mul (p q:Rat):qz (p*q)<=qz p+qz q:=by
 have e:p*q=mkRat (p.num*q.num) (p.den*q.den):=by
  rw[<-Rat.mkRat_mul_mkRat,Rat.mkRat_self,Rat.mkRat_self]
 have h1:=Nat.le_max_left (zl p.num) (wd p.den).length;have h2:=Nat.le_max_right (zl p.num) (wd p.den).length;have h3:=Nat.le_max_left (zl q.num) (wd q.den).length;have h4:=Nat.le_max_right (zl q.num) (wd q.den).length;have m1:=zl_mul p.num q.num;have m4:=wd_mul_len p.den q.den;rw[e];unfold qz;exact qz_mk (Nat.mul_ne_zero p.den_nz q.den_nz) (by omega) (by omega)
def evq:List Rat->Rat->Rat
 |[],_=>0
 |c::p,x=>c+x*evq p x
theorem evq_snoc (p:List Rat)(c x:Rat):evq (p++[c]) x=evq p x+c*x^p.length:=by
 induction p with
 |nil=>simp only[List.nil_append,evq,List.length_nil];grind
 |cons d p ih=>simp only[List.cons_append,evq,ih,List.length_cons];grind
theorem qz_zero:qz 0=1:=by decide +kernel
theorem qz_one:qz 1=1:=by decide +kernel
theorem qz_pow {x:Rat}{X:Nat}(h:qz x<=X)(i:Nat):qz (x^i)<=i*X+1:=by
 induction i with
 |zero=>rw[Rat.pow_zero,qz_one];omega
 |succ i ih =>
  rw[Rat.pow_succ];have:=qz_mul (x^i) x;rw[Nat.succ_mul];omega
theorem qz_evq {x:Rat}{K X:Nat}(hx:qz x<=X):∀{p:List Rat},(∀c∈p,qz c<=K)->qz (evq p x)<=p.length*(K+X+1)+1
 |[],_=>by rw[evq,qz_zero];omega
 |c::p,h=>by
  have ih:=qz_evq hx (p:=p) λz hz=>h z (List.mem_cons_of_mem _ hz)
  have h1:=qz_add c (x*evq p x);have h2:=qz_mul x (evq p x);have h3:=h c (by simp);rw[evq,List.length_cons,Nat.succ_mul];omega
theorem evq_drop (p:List Rat)(x:Rat){i:Nat}(h:i<p.length):evq (p.drop i) x=evq (p.drop (i+1)) x*x+p.getD i 0:=by
 rw[List.drop_eq_getElem_cons h,evq];simp only[List.getD,List.getElem?_eq_getElem h,Option.getD_some]
 grind
theorem evq_take (p:List Rat)(x:Rat){i:Nat}(h:i<p.length):evq (p.take (i+1)) x=evq (p.take i) x+p.getD i 0*x^i:=by
 have e:p.take (i+1)=p.take i++[p.getD i 0]:=by
  rw[List.take_add_one];simp[List.getD,h]
 rw[e,evq_snoc,List.length_take,Nat.min_eq_left (by omega)]
def tzq:List Rat->Nat
 |[]=>0
 |x::xs=>if tzq xs=0 then (if x=0 then 0 else 1) else tzq xs+1
def trimq (q:List Rat):List Rat:=q.take (tzq q)
def cfq (q:List Rat)(k:Nat):Rat:=q.getD k 0
theorem tzq_le:∀q:List Rat,tzq q<=q.length
 |[]=>Nat.le_refl _
 |x::xs=>by
  have:=tzq_le xs;rw[tzq,List.length_cons];split
  .split<;>omega
  .omega
theorem trimq_len (q:List Rat):(trimq q).length=tzq q:=by rw[trimq,List.length_take,Nat.min_eq_left (tzq_le q)]
theorem cfq_ge {q:List Rat}{k:Nat}(h:q.length<=k):cfq q k=0:=by simp[cfq,List.getD,List.getElem?_eq_none h]
theorem cfq_cons_zero (x:Rat)(xs:List Rat):cfq (x::xs) 0=x:=rfl
theorem cfq_cons_succ (x:Rat)(xs:List Rat)(k:Nat):cfq (x::xs) (k+1)=cfq xs k:=rfl
theorem cfq_nil (k:Nat):cfq [] k=0:=rfl
theorem cfq_lt {q:List Rat}{k:Nat}(h:k<q.length):cfq q k=q[k]:=by simp[cfq,List.getD,h]
theorem tzq_take_zero:∀{q:List Rat} {k:Nat},k<q.length->cfq q k=0->tzq (q.take (k+1))=tzq (q.take k)
 |[],k,h,_=>by simp at h
 |x::xs,0,_,h=>by
  have hx:x=0:=h;simp[tzq,hx]
 |x::xs,k+1,h,h0=>by
  have ih:=tzq_take_zero (q:=xs) (k:=k) (by simpa using h) h0;rw[List.take_succ_cons,List.take_succ_cons,tzq,tzq,ih]
theorem tzq_full:∀{q:List Rat} {k:Nat},k<q.length->cfq q k≠0->tzq (q.take (k+1))=k+1
 |[],k,h,_=>by simp at h
 |x::xs,0,_,h=>by
  have hx:x≠0:=h;simp[tzq,hx]
 |x::xs,k+1,h,h0=>by
  have ih:=tzq_full (q:=xs) (k:=k) (by simpa using h) h0;rw[List.take_succ_cons,tzq,ih,if_neg (by omega)]
theorem tzq_zero_iff:∀{q:List Rat},tzq q=0↔∀k,cfq q k=0
 |[]=>by simp[tzq,cfq_nil]
 |x::xs=>by
  rw[tzq];constructor
  .intro h k;split at h
   .rename_i h0;split at h
    .rename_i hx;subst hx;cases k with
     |zero=>rfl
     |succ k=>exact tzq_zero_iff.mp h0 k
    .omega
   .omega
  .intro h;have h0:tzq xs=0:=tzq_zero_iff.mpr λk=>h (k+1)
   have hx:x=0:=h 0;rw[if_pos h0,if_pos hx]
theorem trimq_cons (x:Rat)(xs:List Rat):trimq (x::xs)=if tzq xs=0/\x=0 then [] else x::trimq xs:=by
 unfold trimq;rw[tzq];by_cases h:tzq xs=0
 .by_cases hx:x=0<;>simp[h,hx]
 .simp[h]
theorem trimq_ext:∀{p q:List Rat},(∀k,cfq p k=cfq q k)->trimq p=trimq q
 |[],q,h=>by
  have:tzq q=0:=tzq_zero_iff.mpr λk=>(h k).symm
  simp[trimq,this]
 |x::xs,[],h=>by
  have:tzq (x::xs)=0:=tzq_zero_iff.mpr λk=>h k
  simp[trimq,this]
 |x::xs,y::ys,h=>by
  have hx:x=y:=h 0;have ih:=trimq_ext (p:=xs) (q:=ys) λk=>h (k+1)
  have ht:tzq xs=0↔tzq ys=0:=by
   rw[tzq_zero_iff,tzq_zero_iff];exact forall_congr' λk=>by rw[show cfq xs k=cfq ys k from h (k+1)]
  rw[trimq_cons,trimq_cons,hx,ih];simp only[ht]
theorem cfq_trimq:∀(q:List Rat) (k:Nat),cfq (trimq q) k=cfq q k
 |[],k=>by simp[trimq]
 |x::xs,k=>by
  rw[trimq_cons];split
  .rename_i h;cases k with
   |zero=>simp[cfq_nil,cfq_cons_zero,h.2]
   |succ k=>rw[cfq_cons_succ,cfq_nil];exact(tzq_zero_iff.mp h.1 k).symm
  .cases k with
   |zero=>rfl
   |succ k=>rw[cfq_cons_succ,cfq_cons_succ,cfq_trimq xs k]
theorem trimq_trimq (q:List Rat):trimq (trimq q)=trimq q:=trimq_ext (cfq_trimq q)
theorem tzq_eq_of_cf {p q:List Rat}(h:∀k,cfq p k=cfq q k):tzq p=tzq q:=by rw[<-trimq_len,<-trimq_len,trimq_ext h]
def qvs (p:List RQ):List Rat:=p.map qv
def cqs (q:List Rat):List RQ:=(trimq q).map crat
theorem qvs_len (p:List RQ):(qvs p).length=p.length:=by simp[qvs]
theorem qvs_map (q:List Rat):qvs (q.map crat)=q:=by
 simp only[qvs,List.map_map]
 conv=>rhs;rw[<-List.map_id q]
 exact List.map_congr_left λz _=>qv_crat z
theorem evq_ext {p q:List Rat}(x:Rat)(h:∀k,cfq p k=cfq q k):evq p x=evq q x:=by
 have z:∀{p:List Rat},(∀k,cfq p k=0)->evq p x=0:=λ{p}=>by
  induction p with
  |nil=>exact λ_=>rfl
  |cons c p ih =>
   intro hk;have h0:c=0:=hk 0;rw[evq,ih λk=>hk (k+1),h0]
   grind
 induction p generalizing q with
 |nil=>rw[evq,z λk=>(h k).symm]
 |cons c p ih =>
  cases q with
  |nil=>rw[z (p:=c::p) λk=>h k];rfl
  |cons d q =>
   have h0:c=d:=h 0;rw[evq,evq,ih λk=>h (k+1),h0]
theorem tzq_spec {q:List Rat}{n:Nat}(h:cfq q n≠0)(h0:∀k,n<k->cfq q k=0):tzq q=n+1:=by
 have hn:n<q.length:=by
  rcases Nat.lt_or_ge n q.length with h'|h'
  .exact h'
  .exact(h (cfq_ge h')).elim
 have e:∀k,cfq q k=cfq (q.take (n+1)) k:=by
  intro k;by_cases hk:k<n+1
  .simp[cfq,List.getD,List.getElem?_take,hk]
  .rw[h0 k (by omega),cfq_ge (by rw[List.length_take];omega)]
 rw[tzq_eq_of_cf e,tzq_full hn h]
theorem cfq_tzq_pred {q:List Rat}(h:tzq q≠0):cfq q (tzq q-1)≠0:=by
 induction q with
 |nil=>simp[tzq]at h
 |cons x xs ih =>
  rw[tzq]at h ⊢;by_cases h0:tzq xs=0
  .rw[if_pos h0]at h ⊢;by_cases hx:x=0
   .simp[hx]at h
   .rw[if_neg hx];exact hx
  .rw[if_neg h0];have:=ih h0;rw[show tzq xs+1-1=(tzq xs-1)+1 by omega];exact this
def cvq:List Rat->(Nat->Rat)->Nat->Rat
 |[],_,_=>0
 |x::xs,g,k=>x*g k+match k with|0=>0|k+1=>cvq xs g k
def mulq (p q:List Rat):List Rat:=(List.range (p.length+q.length)).map (cvq p (cfq q))
theorem cvq_none:∀(p:List Rat) (k:Nat),cvq p (cfq []) k=0
 |[],_=>rfl
 |x::xs,0=>by simp[cvq,cfq_nil]<;>grind
 |x::xs,k+1=>by simp[cvq,cfq_nil,cvq_none xs k]<;>grind
theorem cvq_congr {g g':Nat->Rat}:∀(p:List Rat) (k:Nat),(∀j,g j=g' j)->cvq p g k=cvq p g' k
 |[],_,_=>rfl
 |x::xs,k,h=>by
  simp only[cvq,h k];cases k with
  |zero=>rfl
  |succ k=>simp only;rw[cvq_congr xs k h]
theorem cvq_zero {g:Nat->Rat}:∀(p:List Rat) {n k:Nat},(∀j,n<=j->g j=0)->p.length+n<=k+1->cvq p g k=0
 |[],_,_,_,_=>rfl
 |x::xs,n,k,h,hk=>by
  simp only[List.length_cons]at hk;simp only[cvq,h k (by omega),Rat.mul_zero,Rat.zero_add];cases k with
  |zero=>rfl
  |succ k=>exact cvq_zero xs h (by omega)
theorem cfq_mulq (p q:List Rat)(k:Nat):cfq (mulq p q) k=cvq p (cfq q) k:=by
 by_cases h:k<p.length+q.length
 .simp only[mulq];rw[cfq,List.getD,List.getElem?_map,List.getElem?_range h];rfl
 .rw[cfq_ge (by simp[mulq];omega),cvq_zero p (n:=q.length) (λj hj=>cfq_ge hj) (by omega)]
theorem cvq_cfq_congr {p p':List Rat}{g:Nat->Rat}(h:∀j,cfq p j=cfq p' j):∀k,cvq p g k=cvq p' g k:=by
 induction p generalizing p' with
 |nil =>
  intro k
  induction p' generalizing k with
  |nil=>rfl
  |cons y ys ih =>
   have hy:y=0:=(h 0).symm;simp only[cvq,hy,Rat.zero_mul,Rat.zero_add];cases k with
   |zero=>rfl
   |succ k=>exact ih (λj=>h (j+1)) k
 |cons x xs ih =>
  intro k;cases p' with
  |nil =>
   have hx:x=0:=h 0;simp only[cvq,hx,Rat.zero_mul,Rat.zero_add];cases k with
   |zero=>rfl
   |succ k=>exact ih (p':=[]) (λj=>h (j+1)) k
  |cons y ys =>
   have hx:x=y:=h 0;simp only[cvq,hx];cases k with
   |zero=>rfl
   |succ k=>simp only;rw[ih (p':=ys) (λj=>h (j+1)) k]
def qshift (g:Nat->Rat):Nat->Rat
 |0=>0
 |k+1=>g k
theorem cvq_add (g h:Nat->Rat):∀(p:List Rat) (k:Nat),cvq p (λj=>g j+h j) k=cvq p g k+cvq p h k
 |[],_=>by simp only[cvq];grind
 |x::xs,0=>by simp only[cvq,Rat.mul_add];grind
 |x::xs,k+1=>by simp only[cvq,cvq_add g h xs k,Rat.mul_add];grind
theorem cvq_smul (c:Rat)(g:Nat->Rat):∀(p:List Rat) (k:Nat),cvq p (λj=>c*g j) k=c*cvq p g k
 |[],_=>by simp[cvq]<;>grind
 |x::xs,0=>by simp only[cvq,Rat.add_zero];grind
 |x::xs,k+1=>by simp only[cvq,cvq_smul c g xs k,Rat.mul_add];grind
theorem cvq_shift (g:Nat->Rat):∀(p:List Rat) (k:Nat),cvq p (qshift g) k=qshift (cvq p g) k
 |[],0=>rfl
 |[],k+1=>rfl
 |x::xs,0=>by simp[cvq,qshift]<;>grind
 |x::xs,1=>by simp[cvq,qshift,cvq_shift g xs 0]<;>grind
 |x::xs,k+2=>by simp[cvq,qshift,cvq_shift g xs (k+1)]<;>grind
theorem cvq_delta (x:Rat):∀(q:List Rat) (k:Nat),cvq q (λj=>if j=0 then x else 0) k=cfq q k*x
 |[],k=>by simp[cvq,cfq_nil]<;>grind
 |y::ys,0=>by simp[cvq,cfq_cons_zero]<;>grind
 |y::ys,k+1=>by simp[cvq,cfq_cons_succ,cvq_delta x ys k]<;>grind
theorem cfq_cons (x:Rat)(xs:List Rat)(j:Nat):cfq (x::xs) j=(if j=0 then x else 0)+qshift (cfq xs) j:=by
 cases j<;>simp[cfq_cons_zero,cfq_cons_succ,qshift]<;>grind
theorem cvq_cons (x:Rat)(xs:List Rat)(g:Nat->Rat)(k:Nat):cvq (x::xs) g k=x*g k+qshift (cvq xs g) k:=by
 cases k<;>rfl
theorem qshift_congr {g h:Nat->Rat}(e:∀j,g j=h j)(k:Nat):qshift g k=qshift h k:=by cases k<;>simp[qshift,e]<;>grind
theorem cvq_comm:∀(p q:List Rat) (k:Nat),cvq p (cfq q) k=cvq q (cfq p) k
 |[],q,k=>by rw[cvq_none];rfl
 |x::xs,q,k=>by
  rw[cvq_cons,cvq_congr q k (cfq_cons x xs),cvq_add,cvq_delta,cvq_shift,qshift_congr (λj=>cvq_comm xs q j),Rat.mul_comm]
theorem cfq_mulq_cons (x:Rat)(xs q:List Rat)(j:Nat):cfq (mulq (x::xs) q) j=x*cfq q j+qshift (cfq (mulq xs q)) j:=by
 rw[cfq_mulq,cvq_cons,qshift_congr (λj=>(cfq_mulq xs q j).symm)]
theorem cvq_assoc:∀(p q r:List Rat) (k:Nat),cvq (mulq p q) (cfq r) k=cvq p (cfq (mulq q r)) k
 |[],q,r,k=>by
  rw[cvq_cfq_congr (p':=[]) (λj=>by rw[cfq_mulq];rfl)];rfl
 |x::xs,q,r,k=>by
  rw[cvq_comm (mulq (x::xs) q) r,cvq_congr r k (cfq_mulq_cons x xs q),cvq_add,cvq_smul,cvq_shift,cvq_cons,cfq_mulq,cvq_comm q r]
  congr 1
  exact qshift_congr (λj=>by rw[cvq_comm,cvq_assoc xs q r j]) k
theorem mulq_comm (p q:List Rat)(k:Nat):cfq (mulq p q) k=cfq (mulq q p) k:=by rw[cfq_mulq,cfq_mulq,cvq_comm]
def qsum:Nat->(Nat->Rat)->Rat
 |0,_=>0
 |n+1,f=>qsum n f+f n
theorem qsum_congr {n:Nat}{f g:Nat->Rat}(h:∀i,i<n->f i=g i):qsum n f=qsum n g:=by
 induction n with
 |zero=>rfl
 |succ n ih=>rw[qsum,qsum,ih (λi hi=>h i (by omega)),h n (by omega)]
theorem qsum_add (n:Nat)(f g:Nat->Rat):qsum n (λi=>f i+g i)=qsum n f+qsum n g:=by
 induction n with
 |zero=>simp only[qsum];grind
 |succ n ih=>simp only[qsum,ih];grind
theorem qsum_mul (n:Nat)(c:Rat)(f:Nat->Rat):qsum n (λi=>c*f i)=c*qsum n f:=by
 induction n with
 |zero=>simp[qsum]
 |succ n ih=>simp only[qsum,ih,Rat.mul_add]
theorem qsum_zero {n:Nat}{f:Nat->Rat}(h:∀i,i<n->f i=0):qsum n f=0:=by
 induction n with
 |zero=>rfl
 |succ n ih=>rw[qsum,ih (λi hi=>h i (by omega)),h n (by omega)];grind
theorem qsum_first (n:Nat)(f:Nat->Rat):qsum (n+1) f=f 0+qsum n (λi=>f (i+1)):=by
 induction n with
 |zero=>simp only[qsum];grind
 |succ n ih=>rw[qsum,ih,qsum];grind
structure PQ where
 c:Nat->Rat
namespace PQ
theorem ext {f g:PQ}(h:∀k,f.c k=g.c k):f=g:=by
 cases f;cases g;congr;exact funext h
def conv (f g:Nat->Rat)(k:Nat):Rat:=qsum (k+1) λi=>f i*g (k-i)
instance:Add PQ:=⟨λf g=>⟨λk=>f.c k+g.c k⟩⟩
instance:Mul PQ:=⟨λf g=>⟨conv f.c g.c⟩⟩
instance:Neg PQ:=⟨λf=>⟨λk=>- f.c k⟩⟩
instance:Sub PQ:=⟨λf g=>⟨λk=>f.c k-g.c k⟩⟩
instance:Zero PQ:=⟨⟨λ_=>0⟩⟩
def C (z:Rat):PQ:=⟨λk=>if k=0 then z else 0⟩
instance:One PQ:=⟨C 1⟩
def X:PQ:=⟨λk=>if k=1 then 1 else 0⟩
theorem c_add (f g:PQ)(k:Nat):(f+g).c k=f.c k+g.c k:=rfl
theorem c_neg (f:PQ)(k:Nat):(-f).c k = -f.c k:=rfl
theorem c_zero (k:Nat):(0:PQ).c k=0:=rfl
theorem c_C (z:Rat)(k:Nat):(C z).c k=if k=0 then z else 0:=rfl
theorem c_mul (f g:PQ)(k:Nat):(f*g).c k=conv f.c g.c k:=rfl
theorem cvq_conv:∀(p:List Rat) (g:Nat->Rat) (k:Nat),cvq p g k=conv (cfq p) g k
 |[],g,k=>by simp only[cvq,conv];rw[qsum_zero];intro i _;rw[cfq_nil,Rat.zero_mul]
 |x::xs,g,k=>by
  rw[cvq_cons,conv,qsum_first];simp only[cfq_cons_zero,Nat.sub_zero,cfq_cons_succ]
  congr 1
  cases k with
  |zero=>rfl
  |succ k =>
   show cvq xs g k=_;rw[cvq_conv xs g k,conv];exact qsum_congr λi hi=>by congr 2;omega
def cut (n:Nat)(f:Nat->Rat):List Rat:=(List.range n).map f
theorem cfq_cut {n:Nat}{f:Nat->Rat}{i:Nat}(h:i<n):cfq (cut n f) i=f i:=by
 simp[cut,cfq,List.getD,h]<;>grind
theorem conv_congr {f f' g g':Nat->Rat}{k:Nat}(hf:∀i,i<=k->f i=f' i)(hg:∀i,i<=k->g i=g' i):conv f g k=conv f' g' k :=
 qsum_congr λi hi=>by rw[hf i (by omega),hg (k-i) (by omega)]
theorem conv_cut (f g:Nat->Rat){n k:Nat}(h:k<n):conv f g k=cfq (mulq (cut n f) (cut n g)) k:=by
 rw[cfq_mulq,cvq_conv];exact conv_congr (λi hi=>(cfq_cut (by omega)).symm) (λi hi=>(cfq_cut (by omega)).symm)
theorem mul_comm (f g:PQ):f*g=g*f:=ext λk=>by
 rw[c_mul,c_mul,conv_cut _ _ (Nat.lt_succ_self k),conv_cut _ _ (Nat.lt_succ_self k),mulq_comm]
theorem mul_assoc (f g h:PQ):f*g*h=f*(g*h):=ext λk=>by
 rw[c_mul,c_mul];have e1:conv (f*g).c h.c k=conv (cfq (mulq (cut (k+1) f.c) (cut (k+1) g.c))) (cfq (cut (k+1) h.c)) k :=
  conv_congr (λi hi=>by rw[c_mul,conv_cut f.c g.c (n:=k+1) (by omega)]) (λi hi=>(cfq_cut (by omega)).symm)
 have e2:conv f.c (g*h).c k=conv (cfq (cut (k+1) f.c)) (cfq (mulq (cut (k+1) g.c) (cut (k+1) h.c))) k :=
  conv_congr (λi hi=>(cfq_cut (by omega)).symm) (λi hi=>by rw[c_mul,conv_cut g.c h.c (n:=k+1) (by omega)])
 rw[e1,e2,<-cvq_conv,<-cvq_conv,cvq_assoc]
theorem mul_add (f g h:PQ):f*(g+h)=f*g+f*h:=ext λk=>by
 simp only[c_mul,c_add,conv];rw[<-qsum_add];exact qsum_congr λi _=>Rat.mul_add _ _ _
theorem add_mul (f g h:PQ):(f+g)*h=f*h+g*h:=by rw[mul_comm,mul_add,mul_comm h f,mul_comm h g]
theorem add_comm (f g:PQ):f+g=g+f:=ext λk=>Rat.add_comm _ _
theorem add_assoc (f g h:PQ):f+g+h=f+(g+h):=ext λk=>Rat.add_assoc _ _ _
theorem zero_add (f:PQ):0+f=f:=ext λk=>Rat.zero_add _
theorem add_zero (f:PQ):f+0=f:=ext λk=>Rat.add_zero _
theorem C_mul_c (z:Rat)(f:PQ)(k:Nat):(C z*f).c k=z*f.c k:=by
 rw[c_mul,conv,qsum_first,qsum_zero (λi _=>by rw[c_C,if_neg (by omega),Rat.zero_mul]),Rat.add_zero,c_C,if_pos rfl,Nat.sub_zero]
theorem one_mul (f:PQ):1*f=f:=ext λk=>by
 show (C 1*f).c k=_;rw[C_mul_c,Rat.one_mul]
theorem mul_one (f:PQ):f*1=f:=by rw[mul_comm,one_mul]
theorem zero_mul (f:PQ):0*f=0:=ext λk=>by
 rw[c_mul,conv,c_zero,qsum_zero];intro i _;rw[c_zero,Rat.zero_mul]
theorem mul_zero (f:PQ):f*0=0:=by rw[mul_comm,zero_mul]
theorem neg_mul (f g:PQ) : -f*g = -(f*g):=ext λk=>by
 rw[c_mul,c_neg,c_mul,conv,conv,show ∀x:Rat,-x=(-1)*x by grind,<-qsum_mul];exact qsum_congr λi _=>by rw[c_neg];grind
theorem mul_neg (f g:PQ):f * -g = -(f*g):=by rw[mul_comm,neg_mul,mul_comm]
theorem neg_neg (f:PQ) : - -f=f:=ext λk=>Rat.neg_neg _
theorem C_mul (a b:Rat):C (a*b)=C a*C b:=ext λk=>by
 rw[C_mul_c,c_C,c_C];split<;>simp
instance:Std.Associative (α:=PQ) (· * ·):=⟨mul_assoc⟩
instance:Std.Commutative (α:=PQ) (· * ·):=⟨mul_comm⟩
instance:Std.Associative (α:=PQ) (· + ·):=⟨add_assoc⟩
instance:Std.Commutative (α:=PQ) (· + ·):=⟨add_comm⟩
def D (f:PQ):PQ:=⟨λk=>f.c (k+1)*((k+1:Nat):Rat)⟩
end PQ
def pq (q:List Rat):PQ:=⟨cfq q⟩
theorem pq_c (q:List Rat)(k:Nat):(pq q).c k=cfq q k:=rfl
theorem pq_mulq (p q:List Rat):pq (mulq p q)=pq p*pq q:=PQ.ext λk=>by rw[pq_c,cfq_mulq,PQ.cvq_conv];rfl
end Go.Proofs.YtnjaeokkfbihlaaGreat
