/-
 Contracts of the functions that the law reaches.
-/
import Derived.Test.YtbnincgnfiaemaaGreatL298M
import Derived.Test.YtbnincgnfiaemaaGreatAbsS
import Derived.Test.YtbnincgnfiaemaaGreatAbsX
import Derived.Test.YtbnincgnfiaemaaGreatL1M
import Derived.Test.YtbnincgnfiaemaaGreatL180M
set_option maxHeartbeats 2000000
namespace Go.Proofs.YtbnincgnfiaemaaGreat
open Go Go.Proofs Go.AL
set_option linter.unusedSimpArgs false
set_option linter.unusedVariables false
abbrev RQ:=RI×List Nat
abbrev qrow (r:RQ):List IV:=[.bool r.1.1,.sl (lims r.1.2),.sl (lims r.2)]
def rats (l:List RQ):List (List IV):=l.map qrow
theorem lay_rat (c:RI)(x:IV):lay (λi=>[(0,2),(2,1)][i]?) [.bool false,.sl [],.sl []] ([0,1].zip [prow c,[x]])=some ((2=2/\0+2<=3)/\(1=1/\2+1<=3)/\True,[.bool c.1,.sl (lims c.2),x]):=rfl
theorem rats_len (l:List RQ):(rats l).length=l.length:=by simp[rats]
def Nt (k:Nat)(l:List Nat):Prop:=l.length<=k/\Lim l
def SzQ (k:Nat)(r:RQ):Prop:=Sz k r.1/\Nt k r.2
def RawQ (p:List RQ):Prop:=p.length<=9223372036854775807/\∀c∈p,SzQ 9223372036854775807 c
def rq (n:Int)(d:Nat):RQ:=(canon (n/(Nat.gcd n.natAbs d:Nat)),wd (d/Nat.gcd n.natAbs d))
theorem gcd_pos_r {n:Int}{d:Nat}(hd:0<d):0<Nat.gcd n.natAbs d:=Nat.gcd_pos_of_pos_right _ hd
theorem rq_parts {n:Int}{d:Nat}(hd:0<d):∃(g:Nat) (a:Int) (b:Nat),0<g/\0<b/\n=a*g/\d=b*g/\Nat.gcd a.natAbs b=1/\rq n d=(canon a,wd b):=by
 have hg:=gcd_pos_r (n:=n) hd;obtain⟨g,hgd⟩:∃g,g=Nat.gcd n.natAbs d:=⟨_,rfl⟩;have h1:g∣n.natAbs:=by rw[hgd];exact Nat.gcd_dvd_left _ _
 have h2:g∣d:=by rw[hgd];exact Nat.gcd_dvd_right _ _
 rw[<-hgd]at hg;obtain⟨b,hb⟩:=h2;obtain⟨a,ha⟩:(g:Int)∣n:=Int.ofNat_dvd_left.mpr h1;have hg':(g:Int)≠0:=by omega
 have hb0:0<b:=Nat.pos_of_ne_zero λe=>by rw[e,Nat.mul_zero]at hb;omega
 refine⟨g,a,b,hg,hb0,by rw[ha,Int.mul_comm],by rw[hb,Nat.mul_comm],?_,?_⟩
 .have e:Nat.gcd n.natAbs d=g*Nat.gcd a.natAbs b:=by rw[ha,hb,Int.natAbs_mul,Int.natAbs_natCast,Nat.gcd_mul_left]
  rw[<-hgd]at e;exact Nat.eq_of_mul_eq_mul_left hg (by rw[<-e,Nat.mul_one])
 .unfold rq;rw[<-hgd];rw[ha,hb,Int.mul_ediv_cancel_left _ hg',Nat.mul_div_cancel_left _ hg]
theorem rq_sz {n:Int}{d K L:Nat}(hd:0<d)(hn:zl n<=K)(hl:(wd d).length<=L):Sz K (rq n d).1/\Nt L (rq n d).2:=by
 obtain⟨g,a,b,hg,hb,rfl,rfl,hc,e⟩:=rq_parts (n:=n) hd;rw[e];refine⟨⟨?_,lim_wd _⟩,?_,lim_wd _⟩
 .refine Nat.le_trans ?_ hn;show zl a<=zl (a*g);refine zl_le.mpr (Nat.lt_of_le_of_lt ?_ (zl_le.mp (Nat.le_refl (zl (a*g)))));rw[Int.natAbs_mul,Int.natAbs_natCast];exact Nat.le_mul_of_pos_right _ hg
 .refine Nat.le_trans ?_ hl;refine wd_len_le.mpr (Nat.lt_of_le_of_lt ?_ (wd_len_le.mp (Nat.le_refl (wd (b*g)).length)));exact Nat.le_mul_of_pos_right _ hg
def qv (r:RQ):Rat:=mkRat (iv r.1) (nv r.2)
def crat (q:Rat):RQ:=(canon q.num,wd q.den)
theorem rq_crat {n:Int}{d:Nat}(hd:d≠0):rq n d=crat (mkRat n d):=by
 have:mkRat n d=Rat.normalize n d hd:=Rat.mkRat_def n d |>.trans (by rw[dif_neg hd])
 rw[this,Rat.normalize_eq hd];rfl
theorem qv_crat (q:Rat):qv (crat q)=q:=by
 unfold qv crat;rw[iv_canon,nv_wd];exact Rat.mkRat_self q
theorem den_crat (q:Rat):nv (crat q).2≠0:=by
 show nv (wd q.den)≠0;rw[nv_wd];exact q.den_nz
def qz (q:Rat):Nat:=max (zl q.num) (wd q.den).length
theorem sz_crat (q:Rat):SzQ (qz q) (crat q):=⟨(sz_canon _).mono (Nat.le_max_left _ _),⟨Nat.le_max_right _ _,lim_wd _⟩⟩
theorem qz_mk {n:Int}{d k:Nat}(hd:d≠0)(hn:zl n<=k)(h:(wd d).length<=k):qz (mkRat n d)<=k:=by
 have e:=rq_crat (n:=n) hd;have s:=rq_sz (n:=n) (Nat.pos_of_ne_zero hd) hn h;rw[e]at s;refine Nat.max_le.2 ⟨?_,s.2.1⟩;have:=zl_iv s.1;rwa [show iv (crat (mkRat n d)).1=(mkRat n d).num from iv_canon _]at this
theorem qz_raw {r:RQ}{k:Nat}(h:SzQ k r)(hd:nv r.2≠0):qz (qv r)<=k :=
 qz_mk hd (zl_iv h.1) (Nat.le_trans (nv_len h.2.2) h.2.1)
theorem wd_mul_len (a b:Nat):(wd (a*b)).length<=(wd a).length+(wd b).length:=by
 have:=zl_mul (a:Int) (b:Int);unfold zl at this;rwa [Int.natAbs_mul,Int.natAbs_natCast,Int.natAbs_natCast]at this
theorem zl_nat (d:Nat):zl (d:Int)=(wd d).length:=rfl
theorem qz_add (p q:Rat):qz (p+q)<=qz p+qz q+1:=by
 have e:p+q=mkRat (p.num*q.den+q.num*p.den) (p.den*q.den):=by
  rw[<-Rat.mkRat_add_mkRat _ _ p.den_nz q.den_nz,Rat.mkRat_self,Rat.mkRat_self]
 have h1:=Nat.le_max_left (zl p.num) (wd p.den).length;have h2:=Nat.le_max_right (zl p.num) (wd p.den).length;have h3:=Nat.le_max_left (zl q.num) (wd q.den).length;have h4:=Nat.le_max_right (zl q.num) (wd q.den).length;have m1:=zl_mul p.num (q.den:Int);have m2:=zl_mul q.num (p.den:Int);have m3:=zl_add (p.num*q.den) (q.num*p.den);have m4:=wd_mul_len p.den q.den;rw[zl_nat]at m1 m2;rw[e];unfold qz;exact qz_mk (Nat.mul_ne_zero p.den_nz q.den_nz) (by omega) (by omega)
theorem qz_mul (p q:Rat):qz (p*q)<=qz p+qz q:=by
 have e:p*q=mkRat (p.num*q.num) (p.den*q.den):=by
  rw[<-Rat.mkRat_mul_mkRat,Rat.mkRat_self,Rat.mkRat_self]
 have h1:=Nat.le_max_left (zl p.num) (wd p.den).length;have h2:=Nat.le_max_right (zl p.num) (wd p.den).length;have h3:=Nat.le_max_left (zl q.num) (wd q.den).length;have h4:=Nat.le_max_right (zl q.num) (wd q.den).length;have m1:=zl_mul p.num q.num;have m4:=wd_mul_len p.den q.den;rw[e];unfold qz;exact qz_mk (Nat.mul_ne_zero p.den_nz q.den_nz) (by omega) (by omega)
def evq:List Rat->Rat->Rat
 |[],_=>0
 |c::p,x=>c+x*evq p x
theorem qz_zero:qz 0=1:=by decide +kernel
theorem qz_one:qz 1=1:=by decide +kernel
theorem qz_pow {x:Rat}{X:Nat}(h:qz x<=X)(i:Nat):qz (x^i)<=i*X+1:=by
 induction i with
 |zero=>rw[Rat.pow_zero,qz_one];omega
 |succ i ih =>
  rw[Rat.pow_succ];have:=qz_mul (x^i) x;rw[Nat.succ_mul];omega
theorem qz_evq {x:Rat}{K X:Nat}(hx:qz x<=X):∀{p:List Rat},(∀c∈p,qz c<=K)->qz (evq p x)<=p.length*(K+X+1)+1
 |[],_=>by rw[evq,qz_zero];omega
 |c::p,h=>by
  have ih:=qz_evq hx (p:=p) λz hz=>h z (List.mem_cons_of_mem _ hz)
  have h1:=qz_add c (x*evq p x);have h2:=qz_mul x (evq p x);have h3:=h c (by simp);rw[evq,List.length_cons,Nat.succ_mul];omega
def tzq:List Rat->Nat
 |[]=>0
 |x::xs=>if tzq xs=0 then (if x=0 then 0 else 1) else tzq xs+1
def trimq (q:List Rat):List Rat:=q.take (tzq q)
def cfq (q:List Rat)(k:Nat):Rat:=q.getD k 0
theorem tzq_le:∀q:List Rat,tzq q<=q.length
 |[]=>Nat.le_refl _
 |x::xs=>by
  have:=tzq_le xs;rw[tzq,List.length_cons];split
  .split<;>omega
  .omega
theorem trimq_len (q:List Rat):(trimq q).length=tzq q:=by rw[trimq,List.length_take,Nat.min_eq_left (tzq_le q)]
theorem cfq_ge {q:List Rat}{k:Nat}(h:q.length<=k):cfq q k=0:=by simp[cfq,List.getD,List.getElem?_eq_none h]
theorem cfq_cons_zero (x:Rat)(xs:List Rat):cfq (x::xs) 0=x:=rfl
theorem cfq_cons_succ (x:Rat)(xs:List Rat)(k:Nat):cfq (x::xs) (k+1)=cfq xs k:=rfl
theorem cfq_nil (k:Nat):cfq [] k=0:=rfl
theorem cfq_lt {q:List Rat}{k:Nat}(h:k<q.length):cfq q k=q[k]:=by simp[cfq,List.getD,h]
theorem tzq_full:∀{q:List Rat} {k:Nat},k<q.length->cfq q k≠0->tzq (q.take (k+1))=k+1
 |[],k,h,_=>by simp at h
 |x::xs,0,_,h=>by
  have hx:x≠0:=h;simp[tzq,hx]
 |x::xs,k+1,h,h0=>by
  have ih:=tzq_full (q:=xs) (k:=k) (by simpa using h) h0;rw[List.take_succ_cons,tzq,ih,if_neg (by omega)]
theorem tzq_zero_iff:∀{q:List Rat},tzq q=0↔∀k,cfq q k=0
 |[]=>by simp[tzq,cfq_nil]
 |x::xs=>by
  rw[tzq];constructor
  .intro h k;split at h
   .rename_i h0;split at h
    .rename_i hx;subst hx;cases k with
     |zero=>rfl
     |succ k=>exact tzq_zero_iff.mp h0 k
    .omega
   .omega
  .intro h;have h0:tzq xs=0:=tzq_zero_iff.mpr λk=>h (k+1)
   have hx:x=0:=h 0;rw[if_pos h0,if_pos hx]
theorem trimq_cons (x:Rat)(xs:List Rat):trimq (x::xs)=if tzq xs=0/\x=0 then [] else x::trimq xs:=by
 unfold trimq;rw[tzq];by_cases h:tzq xs=0
 .by_cases hx:x=0<;>simp[h,hx]
 .simp[h]
theorem trimq_ext:∀{p q:List Rat},(∀k,cfq p k=cfq q k)->trimq p=trimq q
 |[],q,h=>by
  have:tzq q=0:=tzq_zero_iff.mpr λk=>(h k).symm
  simp[trimq,this]
 |x::xs,[],h=>by
  have:tzq (x::xs)=0:=tzq_zero_iff.mpr λk=>h k
  simp[trimq,this]
 |x::xs,y::ys,h=>by
  have hx:x=y:=h 0;have ih:=trimq_ext (p:=xs) (q:=ys) λk=>h (k+1)
  have ht:tzq xs=0↔tzq ys=0:=by
   rw[tzq_zero_iff,tzq_zero_iff];exact forall_congr' λk=>by rw[show cfq xs k=cfq ys k from h (k+1)]
  rw[trimq_cons,trimq_cons,hx,ih];simp only[ht]
theorem cfq_trimq:∀(q:List Rat) (k:Nat),cfq (trimq q) k=cfq q k
 |[],k=>by simp[trimq]
 |x::xs,k=>by
  rw[trimq_cons];split
  .rename_i h;cases k with
   |zero=>simp[cfq_nil,cfq_cons_zero,h.2]
   |succ k=>rw[cfq_cons_succ,cfq_nil];exact(tzq_zero_iff.mp h.1 k).symm
  .cases k with
   |zero=>rfl
   |succ k=>rw[cfq_cons_succ,cfq_cons_succ,cfq_trimq xs k]
theorem trimq_trimq (q:List Rat):trimq (trimq q)=trimq q:=trimq_ext (cfq_trimq q)
theorem tzq_eq_of_cf {p q:List Rat}(h:∀k,cfq p k=cfq q k):tzq p=tzq q:=by rw[<-trimq_len,<-trimq_len,trimq_ext h]
def qvs (p:List RQ):List Rat:=p.map qv
theorem qvs_len (p:List RQ):(qvs p).length=p.length:=by simp[qvs]
theorem tzq_spec {q:List Rat}{n:Nat}(h:cfq q n≠0)(h0:∀k,n<k->cfq q k=0):tzq q=n+1:=by
 have hn:n<q.length:=by
  rcases Nat.lt_or_ge n q.length with h'|h'
  .exact h'
  .exact(h (cfq_ge h')).elim
 have e:∀k,cfq q k=cfq (q.take (n+1)) k:=by
  intro k;by_cases hk:k<n+1
  .simp[cfq,List.getD,List.getElem?_take,hk]
  .rw[h0 k (by omega),cfq_ge (by rw[List.length_take];omega)]
 rw[tzq_eq_of_cf e,tzq_full hn h]
theorem cfq_tzq_pred {q:List Rat}(h:tzq q≠0):cfq q (tzq q-1)≠0:=by
 induction q with
 |nil=>simp[tzq]at h
 |cons x xs ih =>
  rw[tzq]at h ⊢;by_cases h0:tzq xs=0
  .rw[if_pos h0]at h ⊢;by_cases hx:x=0
   .simp[hx]at h
   .rw[if_neg hx];exact hx
  .rw[if_neg h0];have:=ih h0;rw[show tzq xs+1-1=(tzq xs-1)+1 by omega];exact this
def cvq:List Rat->(Nat->Rat)->Nat->Rat
 |[],_,_=>0
 |x::xs,g,k=>x*g k+match k with|0=>0|k+1=>cvq xs g k
def mulq (p q:List Rat):List Rat:=(List.range (p.length+q.length)).map (cvq p (cfq q))
theorem cvq_none:∀(p:List Rat) (k:Nat),cvq p (cfq []) k=0
 |[],_=>rfl
 |x::xs,0=>by simp[cvq,cfq_nil]<;>grind
 |x::xs,k+1=>by simp[cvq,cfq_nil,cvq_none xs k]<;>grind
theorem cvq_congr {g g':Nat->Rat}:∀(p:List Rat) (k:Nat),(∀j,g j=g' j)->cvq p g k=cvq p g' k
 |[],_,_=>rfl
 |x::xs,k,h=>by
  simp only[cvq,h k];cases k with
  |zero=>rfl
  |succ k=>simp only;rw[cvq_congr xs k h]
theorem cvq_zero {g:Nat->Rat}:∀(p:List Rat) {n k:Nat},(∀j,n<=j->g j=0)->p.length+n<=k+1->cvq p g k=0
 |[],_,_,_,_=>rfl
 |x::xs,n,k,h,hk=>by
  simp only[List.length_cons]at hk;simp only[cvq,h k (by omega),Rat.mul_zero,Rat.zero_add];cases k with
  |zero=>rfl
  |succ k=>exact cvq_zero xs h (by omega)
theorem cfq_mulq (p q:List Rat)(k:Nat):cfq (mulq p q) k=cvq p (cfq q) k:=by
 by_cases h:k<p.length+q.length
 .simp only[mulq];rw[cfq,List.getD,List.getElem?_map,List.getElem?_range h];rfl
 .rw[cfq_ge (by simp[mulq];omega),cvq_zero p (n:=q.length) (λj hj=>cfq_ge hj) (by omega)]
theorem cvq_cfq_congr {p p':List Rat}{g:Nat->Rat}(h:∀j,cfq p j=cfq p' j):∀k,cvq p g k=cvq p' g k:=by
 induction p generalizing p' with
 |nil =>
  intro k
  induction p' generalizing k with
  |nil=>rfl
  |cons y ys ih =>
   have hy:y=0:=(h 0).symm;simp only[cvq,hy,Rat.zero_mul,Rat.zero_add];cases k with
   |zero=>rfl
   |succ k=>exact ih (λj=>h (j+1)) k
 |cons x xs ih =>
  intro k;cases p' with
  |nil =>
   have hx:x=0:=h 0;simp only[cvq,hx,Rat.zero_mul,Rat.zero_add];cases k with
   |zero=>rfl
   |succ k=>exact ih (p':=[]) (λj=>h (j+1)) k
  |cons y ys =>
   have hx:x=y:=h 0;simp only[cvq,hx];cases k with
   |zero=>rfl
   |succ k=>simp only;rw[ih (p':=ys) (λj=>h (j+1)) k]
def qshift (g:Nat->Rat):Nat->Rat
 |0=>0
 |k+1=>g k
theorem cvq_add (g h:Nat->Rat):∀(p:List Rat) (k:Nat),cvq p (λj=>g j+h j) k=cvq p g k+cvq p h k
 |[],_=>by simp only[cvq];grind
 |x::xs,0=>by simp only[cvq,Rat.mul_add];grind
 |x::xs,k+1=>by simp only[cvq,cvq_add g h xs k,Rat.mul_add];grind
theorem cvq_smul (c:Rat)(g:Nat->Rat):∀(p:List Rat) (k:Nat),cvq p (λj=>c*g j) k=c*cvq p g k
 |[],_=>by simp[cvq]<;>grind
 |x::xs,0=>by simp only[cvq,Rat.add_zero];grind
 |x::xs,k+1=>by simp only[cvq,cvq_smul c g xs k,Rat.mul_add];grind
theorem cvq_shift (g:Nat->Rat):∀(p:List Rat) (k:Nat),cvq p (qshift g) k=qshift (cvq p g) k
 |[],0=>rfl
 |[],k+1=>rfl
 |x::xs,0=>by simp[cvq,qshift]<;>grind
 |x::xs,1=>by simp[cvq,qshift,cvq_shift g xs 0]<;>grind
 |x::xs,k+2=>by simp[cvq,qshift,cvq_shift g xs (k+1)]<;>grind
theorem cvq_delta (x:Rat):∀(q:List Rat) (k:Nat),cvq q (λj=>if j=0 then x else 0) k=cfq q k*x
 |[],k=>by simp[cvq,cfq_nil]<;>grind
 |y::ys,0=>by simp[cvq,cfq_cons_zero]<;>grind
 |y::ys,k+1=>by simp[cvq,cfq_cons_succ,cvq_delta x ys k]<;>grind
theorem cfq_cons (x:Rat)(xs:List Rat)(j:Nat):cfq (x::xs) j=(if j=0 then x else 0)+qshift (cfq xs) j:=by
 cases j<;>simp[cfq_cons_zero,cfq_cons_succ,qshift]<;>grind
theorem cvq_cons (x:Rat)(xs:List Rat)(g:Nat->Rat)(k:Nat):cvq (x::xs) g k=x*g k+qshift (cvq xs g) k:=by
 cases k<;>rfl
theorem qshift_congr {g h:Nat->Rat}(e:∀j,g j=h j)(k:Nat):qshift g k=qshift h k:=by cases k<;>simp[qshift,e]<;>grind
theorem cvq_comm:∀(p q:List Rat) (k:Nat),cvq p (cfq q) k=cvq q (cfq p) k
 |[],q,k=>by rw[cvq_none];rfl
 |x::xs,q,k=>by
  rw[cvq_cons,cvq_congr q k (cfq_cons x xs),cvq_add,cvq_delta,cvq_shift,qshift_congr (λj=>cvq_comm xs q j),Rat.mul_comm]
theorem cfq_mulq_cons (x:Rat)(xs q:List Rat)(j:Nat):cfq (mulq (x::xs) q) j=x*cfq q j+qshift (cfq (mulq xs q)) j:=by
 rw[cfq_mulq,cvq_cons,qshift_congr (λj=>(cfq_mulq xs q j).symm)]
theorem cvq_assoc:∀(p q r:List Rat) (k:Nat),cvq (mulq p q) (cfq r) k=cvq p (cfq (mulq q r)) k
 |[],q,r,k=>by
  rw[cvq_cfq_congr (p':=[]) (λj=>by rw[cfq_mulq];rfl)];rfl
 |x::xs,q,r,k=>by
  rw[cvq_comm (mulq (x::xs) q) r,cvq_congr r k (cfq_mulq_cons x xs q),cvq_add,cvq_smul,cvq_shift,cvq_cons,cfq_mulq,cvq_comm q r]
  congr 1
  exact qshift_congr (λj=>by rw[cvq_comm,cvq_assoc xs q r j]) k
theorem mulq_comm (p q:List Rat)(k:Nat):cfq (mulq p q) k=cfq (mulq q p) k:=by rw[cfq_mulq,cfq_mulq,cvq_comm]
def qsum:Nat->(Nat->Rat)->Rat
 |0,_=>0
 |n+1,f=>qsum n f+f n
theorem qsum_congr {n:Nat}{f g:Nat->Rat}(h:∀i,i<n->f i=g i):qsum n f=qsum n g:=by
 induction n with
 |zero=>rfl
 |succ n ih=>rw[qsum,qsum,ih (λi hi=>h i (by omega)),h n (by omega)]
theorem qsum_add (n:Nat)(f g:Nat->Rat):qsum n (λi=>f i+g i)=qsum n f+qsum n g:=by
 induction n with
 |zero=>simp only[qsum];grind
 |succ n ih=>simp only[qsum,ih];grind
theorem qsum_mul (n:Nat)(c:Rat)(f:Nat->Rat):qsum n (λi=>c*f i)=c*qsum n f:=by
 induction n with
 |zero=>simp[qsum]
 |succ n ih=>simp only[qsum,ih,Rat.mul_add]
theorem qsum_zero {n:Nat}{f:Nat->Rat}(h:∀i,i<n->f i=0):qsum n f=0:=by
 induction n with
 |zero=>rfl
 |succ n ih=>rw[qsum,ih (λi hi=>h i (by omega)),h n (by omega)];grind
theorem qsum_first (n:Nat)(f:Nat->Rat):qsum (n+1) f=f 0+qsum n (λi=>f (i+1)):=by
 induction n with
 |zero=>simp only[qsum];grind
 |succ n ih=>rw[qsum,ih,qsum];grind
structure PQ where
 c:Nat->Rat
namespace PQ
theorem ext {f g:PQ}(h:∀k,f.c k=g.c k):f=g:=by
 cases f;cases g;congr;exact funext h
def conv (f g:Nat->Rat)(k:Nat):Rat:=qsum (k+1) λi=>f i*g (k-i)
instance:Add PQ:=⟨λf g=>⟨λk=>f.c k+g.c k⟩⟩
instance:Mul PQ:=⟨λf g=>⟨conv f.c g.c⟩⟩
instance:Neg PQ:=⟨λf=>⟨λk=>- f.c k⟩⟩
instance:Sub PQ:=⟨λf g=>⟨λk=>f.c k-g.c k⟩⟩
instance:Zero PQ:=⟨⟨λ_=>0⟩⟩
def C (z:Rat):PQ:=⟨λk=>if k=0 then z else 0⟩
instance:One PQ:=⟨C 1⟩
def X:PQ:=⟨λk=>if k=1 then 1 else 0⟩
theorem c_add (f g:PQ)(k:Nat):(f+g).c k=f.c k+g.c k:=rfl
theorem c_neg (f:PQ)(k:Nat):(-f).c k = -f.c k:=rfl
theorem c_zero (k:Nat):(0:PQ).c k=0:=rfl
theorem c_C (z:Rat)(k:Nat):(C z).c k=if k=0 then z else 0:=rfl
theorem c_one (k:Nat):(1:PQ).c k=if k=0 then 1 else 0:=rfl
theorem c_mul (f g:PQ)(k:Nat):(f*g).c k=conv f.c g.c k:=rfl
theorem cvq_conv:∀(p:List Rat) (g:Nat->Rat) (k:Nat),cvq p g k=conv (cfq p) g k
 |[],g,k=>by simp only[cvq,conv];rw[qsum_zero];intro i _;rw[cfq_nil,Rat.zero_mul]
 |x::xs,g,k=>by
  rw[cvq_cons,conv,qsum_first];simp only[cfq_cons_zero,Nat.sub_zero,cfq_cons_succ]
  congr 1
  cases k with
  |zero=>rfl
  |succ k =>
   show cvq xs g k=_;rw[cvq_conv xs g k,conv];exact qsum_congr λi hi=>by congr 2;omega
def cut (n:Nat)(f:Nat->Rat):List Rat:=(List.range n).map f
theorem cfq_cut {n:Nat}{f:Nat->Rat}{i:Nat}(h:i<n):cfq (cut n f) i=f i:=by
 simp[cut,cfq,List.getD,h]<;>grind
theorem conv_congr {f f' g g':Nat->Rat}{k:Nat}(hf:∀i,i<=k->f i=f' i)(hg:∀i,i<=k->g i=g' i):conv f g k=conv f' g' k :=
 qsum_congr λi hi=>by rw[hf i (by omega),hg (k-i) (by omega)]
theorem conv_cut (f g:Nat->Rat){n k:Nat}(h:k<n):conv f g k=cfq (mulq (cut n f) (cut n g)) k:=by
 rw[cfq_mulq,cvq_conv];exact conv_congr (λi hi=>(cfq_cut (by omega)).symm) (λi hi=>(cfq_cut (by omega)).symm)
theorem mul_comm (f g:PQ):f*g=g*f:=ext λk=>by
 rw[c_mul,c_mul,conv_cut _ _ (Nat.lt_succ_self k),conv_cut _ _ (Nat.lt_succ_self k),mulq_comm]
theorem mul_assoc (f g h:PQ):f*g*h=f*(g*h):=ext λk=>by
 rw[c_mul,c_mul];have e1:conv (f*g).c h.c k=conv (cfq (mulq (cut (k+1) f.c) (cut (k+1) g.c))) (cfq (cut (k+1) h.c)) k :=
  conv_congr (λi hi=>by rw[c_mul,conv_cut f.c g.c (n:=k+1) (by omega)]) (λi hi=>(cfq_cut (by omega)).symm)
 have e2:conv f.c (g*h).c k=conv (cfq (cut (k+1) f.c)) (cfq (mulq (cut (k+1) g.c) (cut (k+1) h.c))) k :=
  conv_congr (λi hi=>(cfq_cut (by omega)).symm) (λi hi=>by rw[c_mul,conv_cut g.c h.c (n:=k+1) (by omega)])
 rw[e1,e2,<-cvq_conv,<-cvq_conv,cvq_assoc]
theorem mul_add (f g h:PQ):f*(g+h)=f*g+f*h:=ext λk=>by
 simp only[c_mul,c_add,conv];rw[<-qsum_add];exact qsum_congr λi _=>Rat.mul_add _ _ _
theorem add_mul (f g h:PQ):(f+g)*h=f*h+g*h:=by rw[mul_comm,mul_add,mul_comm h f,mul_comm h g]
theorem add_comm (f g:PQ):f+g=g+f:=ext λk=>Rat.add_comm _ _
theorem add_assoc (f g h:PQ):f+g+h=f+(g+h):=ext λk=>Rat.add_assoc _ _ _
theorem zero_add (f:PQ):0+f=f:=ext λk=>Rat.zero_add _
theorem add_zero (f:PQ):f+0=f:=ext λk=>Rat.add_zero _
theorem C_mul_c (z:Rat)(f:PQ)(k:Nat):(C z*f).c k=z*f.c k:=by
 rw[c_mul,conv,qsum_first,qsum_zero (λi _=>by rw[c_C,if_neg (by omega),Rat.zero_mul]),Rat.add_zero,c_C,if_pos rfl,Nat.sub_zero]
theorem one_mul (f:PQ):1*f=f:=ext λk=>by
 show (C 1*f).c k=_;rw[C_mul_c,Rat.one_mul]
theorem mul_one (f:PQ):f*1=f:=by rw[mul_comm,one_mul]
theorem zero_mul (f:PQ):0*f=0:=ext λk=>by
 rw[c_mul,conv,c_zero,qsum_zero];intro i _;rw[c_zero,Rat.zero_mul]
theorem mul_zero (f:PQ):f*0=0:=by rw[mul_comm,zero_mul]
theorem add_neg (f:PQ):f + -f=0:=ext λk=>by rw[c_add,c_neg,c_zero];grind
theorem neg_mul (f g:PQ) : -f*g = -(f*g):=ext λk=>by
 rw[c_mul,c_neg,c_mul,conv,conv,show ∀x:Rat,-x=(-1)*x by grind,<-qsum_mul];exact qsum_congr λi _=>by rw[c_neg];grind
theorem mul_neg (f g:PQ):f * -g = -(f*g):=by rw[mul_comm,neg_mul,mul_comm]
theorem neg_neg (f:PQ) : - -f=f:=ext λk=>Rat.neg_neg _
theorem neg_one_C (f:PQ):C (-1)*f = -f:=ext λk=>by rw[C_mul_c,c_neg];grind
theorem C_add (a b:Rat):C (a+b)=C a+C b:=ext λk=>by simp only[c_C,c_add];split<;>grind
theorem C_mul (a b:Rat):C (a*b)=C a*C b:=ext λk=>by
 rw[C_mul_c,c_C,c_C];split<;>simp
theorem C_zero:C 0=0:=ext λk=>by rw[c_C,c_zero];split<;>rfl
theorem C_one:C 1=1:=rfl
instance:Std.Associative (α:=PQ) (· * ·):=⟨mul_assoc⟩
instance:Std.Commutative (α:=PQ) (· * ·):=⟨mul_comm⟩
instance:Std.Associative (α:=PQ) (· + ·):=⟨add_assoc⟩
instance:Std.Commutative (α:=PQ) (· + ·):=⟨add_comm⟩
def pw (f:PQ):Nat->PQ
 |0=>1
 |n+1=>pw f n*f
theorem pw_add (f:PQ)(m n:Nat):pw f (m+n)=pw f m*pw f n:=by
 induction n with
 |zero=>rw[Nat.add_zero,pw,mul_one]
 |succ n ih=>rw[<-Nat.add_assoc,pw,ih,pw,mul_assoc]
theorem pw_one (f:PQ):pw f 1=f:=by rw[pw,pw,one_mul]
theorem pw_mul (f g:PQ)(n:Nat):pw (f*g) n=pw f n*pw g n:=by
 induction n with
 |zero=>rw[pw,pw,pw,mul_one]
 |succ n ih=>rw[pw,pw,pw,ih];ac_rfl
def D (f:PQ):PQ:=⟨λk=>f.c (k+1)*((k+1:Nat):Rat)⟩
theorem D_mul (f g:PQ):D (f*g)=D f*g+f*D g:=ext λk=>by
 rw[c_add,c_mul,c_mul];simp only[D,c_mul];have h1:conv (λk=>f.c (k+1)*((k+1:Nat):Rat)) g.c k=qsum (k+2) (λi=>(i:Rat)*(f.c i*g.c (k+1-i))):=by
  rw[qsum_first,conv,show ((0:Nat):Rat)=0 from rfl,Rat.zero_mul,Rat.zero_add];refine qsum_congr λi hi=>?_;rw[show k+1-(i+1)=k-i by omega]
  grind
 have h2:conv f.c (λk=>g.c (k+1)*((k+1:Nat):Rat)) k=qsum (k+2) (λi=>((k+1-i:Nat):Rat)*(f.c i*g.c (k+1-i))):=by
  rw[qsum,conv,show k+1-(k+1)=0 by omega,show ((0:Nat):Rat)=0 from rfl,Rat.zero_mul,Rat.add_zero];refine qsum_congr λi hi=>?_;rw[show k+1-i=k-i+1 by omega]
  grind
 rw[h1,h2,<-qsum_add,conv,Rat.mul_comm,<-qsum_mul];refine qsum_congr λi hi=>?_;rw[<-Rat.add_mul]
 congr 1
 rw[<-Rat.natCast_add,show i+(k+1-i)=k+1 by omega]
theorem D_C (z:Rat):D (C z)=0:=ext λk=>by
 show (C z).c (k+1)*_=0;rw[c_C,if_neg (by omega),Rat.zero_mul]
theorem D_pw (f:PQ)(n:Nat):D (pw f (n+1))=C ((n+1:Nat):Rat)*(pw f n*D f):=by
 induction n with
 |zero=>rw[pw_one,pw,one_mul];exact(one_mul _).symm
 |succ n ih =>
  rw[pw,D_mul,ih,pw];have e:C ((n+1+1:Nat):Rat)=C ((n+1:Nat):Rat)+1:=by rw[<-C_one,<-C_add,Rat.natCast_add];rfl
  rw[e,add_mul,one_mul]
  congr 1
  ac_rfl
end PQ
def pq (q:List Rat):PQ:=⟨cfq q⟩
theorem pq_c (q:List Rat)(k:Nat):(pq q).c k=cfq q k:=rfl
theorem pq_mulq (p q:List Rat):pq (mulq p q)=pq p*pq q:=PQ.ext λk=>by rw[pq_c,cfq_mulq,PQ.cvq_conv];rfl

structure Dvr (b:List Nat):Prop where
 dig:Dig b
 pos:0<b.length
 top:b.getD (b.length-1) 0≠0
def hval (H:Hp)(h:Nat):Nat:=match H h with
 |.blk _ _ _ _ rows=>vl D16 (rows.map λr=>match r with | [.int _ n]=>n.toNat|_=>0)
 |_=>0
def hlen (H:Hp)(h:Nat):Nat:=match H h with
 |.blk _ _ _ _ rows=>rows.length
 |_=>0


abbrev cqq (r:RQ):CV:=.agg (qrow r)
abbrev cqz (q:Rat):CV:=cqq (crat q)
abbrev cqw (l:List RQ):CV:=.iv (.sl (rats l))
abbrev q0:RQ:=((false,[]),[])
theorem rats_get {l:List RQ}{i:Nat}(h:i<l.length):(rats l).getD i []=qrow (l.getD i q0):=by simp[rats,List.getD,h]
theorem rats_rows (p:List RQ):(∀r∈rats p,r.length=3)↔True:=by
 simp only[iff_true];intro r hr;obtain⟨c,_,rfl⟩:=List.mem_map.1 hr;rfl
theorem rats_snoc (p:List RQ)(c:RQ):rats p++[qrow c]=rats (p++[c]):=by simp[rats]
theorem rats_nil:rats []=[]:=rfl
theorem rats_set (p:List RQ)(i:Nat)(c:RQ):(rats p).set i (qrow c)=rats (p.set i c):=by simp[rats,List.map_set]
theorem rats_take (p:List RQ)(k:Nat):(rats p).take k=rats (p.take k):=by simp[rats,List.map_take]
theorem rats_rep (n:Nat):List.replicate n [IV.bool false,IV.sl [],IV.sl []]=rats (List.replicate n q0):=by rw[rats,List.map_replicate];rfl
theorem qrow_take (r:RQ):List.take 3 (qrow r)=qrow r:=rfl
theorem qrow_drop2 (r:RQ):List.drop 2 (qrow r)=[.sl (lims r.2)]:=rfl
theorem qrow_drop1 (r:RQ):List.drop 1 (qrow r)=[.sl (lims r.1.2),.sl (lims r.2)]:=rfl
theorem qrow_take2 (r:RQ):List.take 2 (qrow r)=prow r.1:=rfl
theorem qrow_spl0 (r:RQ)(c:RI):splice (qrow r) 0 (prow c)=qrow (c,r.2):=rfl
theorem qrow_len (r:RQ):(qrow r).length=3:=rfl
theorem qrow_splice (x y z:IV)(r:RQ):splice [x,y,z] 0 (qrow r)=qrow r:=rfl
theorem qrow_row (r:RQ):[IV.bool r.1.1,IV.sl (lims r.1.2),IV.sl (lims r.2)]=qrow r:=rfl
theorem rqs:(∀l:List RQ,(rats l).length=l.length)/\(∀{l:List RQ} {i:Nat},i<l.length->(rats l).getD i []=qrow (l.getD i q0)) /\
  (∀(c:RI) (x:IV),lay (λi=>[(0,2),(2,1)][i]?) [.bool false,.sl [],.sl []] ([0,1].zip [prow c,[x]])=some ((2=2/\0+2<=3)/\(1=1/\2+1<=3)/\True,[.bool c.1,.sl (lims c.2),x])) /\
  (∀r:RQ,List.take 3 (qrow r)=qrow r)/\(∀r:RQ,(qrow r).length=3)/\(∀(x y z:IV) (r:RQ),splice [x,y,z] 0 (qrow r)=qrow r)/\(∀r:RQ,[IV.bool r.1.1,IV.sl (lims r.1.2),IV.sl (lims r.2)]=qrow r) /\
  (∀p:List RQ,(∀r∈rats p,r.length=3)↔True)/\(∀(p:List RQ) (c:RQ),rats p++[qrow c]=rats (p++[c]))/\(∀(p:List RQ) (i:Nat) (c:RQ),(rats p).set i (qrow c)=rats (p.set i c)) /\
  (∀(p:List RQ) (k:Nat),(rats p).take k=rats (p.take k))/\(∀n:Nat,List.replicate n [IV.bool false,IV.sl [],IV.sl []]=rats (List.replicate n q0))/\(rats []=[]) /\
  (∀r:RQ,List.drop 2 (qrow r)=[.sl (lims r.2)])/\(∀r:RQ,List.take 2 (qrow r)=prow r.1)/\(∀r:RQ,List.drop 1 (qrow r)=[.sl (lims r.1.2),.sl (lims r.2)])/\(∀(r:RQ) (c:RI),splice (qrow r) 0 (prow c)=qrow (c,r.2)) :=
 ⟨rats_len,rats_get,lay_rat,qrow_take,qrow_len,qrow_splice,qrow_row,rats_rows,rats_snoc,rats_set,rats_take,rats_rep,rats_nil,qrow_drop2,qrow_take2,qrow_drop1,qrow_spl0⟩
theorem pow64 (m:Nat):W^m=2^(64*m):=by rw[Nat.pow_mul]
theorem bl_top {l:List Nat}(h:Lim l){m:Nat}(h0:topN l=m+1):l.getD m 0<W/\m*64+bl (l.getD m 0)=bl (nv l):=by
 have e:(wd (nv l)).length=m+1:=by rw[wd_nv h,List.length_take,Nat.min_eq_left (topN_le l),h0]
 have h1:nv l<W^(m+1):=wd_len_le.mp (by omega);have h2:W^m<=nv l:=Nat.le_of_not_lt λh3=>by have:=wd_len_le.mpr h3;omega
 have h4:nv l/W^m<W:=by rw[Nat.div_lt_iff_lt_mul (W_pow_pos m),Nat.mul_comm,<-Nat.pow_succ];exact h1
 have h5:=word_at h m;rw[Nat.mod_eq_of_lt h4]at h5;refine⟨by rw[h5];exact h4,?_⟩;rw[h5,pow64]at *;rw[bl_shift h2];omega
theorem lbits_ok (l:List Nat)(h:Lim l)(hl:l.length<=2^42):AC Tryz.prog 232 [cl l] none [ci (bl (nv l))]:=by
 refine AC.by_walk (rs:=[.tmp 2]) ords Tryz.func232 (by rfl) (by rfl) (by rfl) (by rfl) (by rfl) ?_;simp (disch:=omega) only[wt,seval,reduceCtorEq,Nat.reduceEqDiff,rqs];refine call_by ((top_ok l (by omega))) (by rfl) (by simp) ?_;simp (disch:=omega) only[wt,seval,reduceCtorEq,Nat.reduceEqDiff,rqs];have ht:=topN_le l;refine if_by (λh1=>?_) (λh1=>?_)
 .have h2:topN l=0:=by omega
  simp (disch:=omega) only[wt,seval,reduceCtorEq,Nat.reduceEqDiff,rqs];rw[show nv l=0 from (vl_zero_top two_le_W l).mpr h2];rfl
 .obtain⟨m,hm⟩:∃m,topN l=m+1:=⟨topN l-1,by omega⟩;obtain⟨h3,h4⟩:=bl_top h hm;have e:((m+1:Nat):Int)-1=(m:Int):=by omega
  rw[hm];have hb:bl (l.getD m 0)<=64:=bl_le.mpr h3;simp (disch:=omega) only[wt,seval,reduceCtorEq,Nat.reduceEqDiff,rqs,e];refine call_by ((len64_ok (l.getD m 0) h3)) (by first|rfl|(simp only[tocvs,tocv,toboxes,tobox,updH_at,Nat.reduceEqDiff,↓reduceIte,e];rfl)) (by simp) ?_;simp (disch:=omega) only[wt,seval,reduceCtorEq,Nat.reduceEqDiff,rqs,e];rw[<-h4]
  push_cast
  rfl
theorem nbits_ok (l:List Nat)(h:Lim l)(hl:l.length<=2^42):AC Tryz.prog 193 [cl l] none [ci (bl (nv l))]:=by
 refine AC.by_walk (rs:=[.tmp 2]) ords Tryz.func193 (by rfl) (by rfl) (by rfl) (by rfl) (by rfl) ?_;simp (disch:=omega) only[wt,seval,reduceCtorEq,Nat.reduceEqDiff,rqs];refine call_by ((lbits_ok l h hl)) (by rfl) (by simp) ?_;simp (disch:=omega) only[wt,seval,reduceCtorEq,Nat.reduceEqDiff,rqs]
theorem bl_zero {n:Nat}:bl n=0↔n=0:=by unfold bl;split<;>simp_all
theorem qcheck_ok (r:RQ)(h:Nt (2^42) r.2):AC Tryz.prog 134 [cqq r] none [ci (if nv r.2=0 then 1 else 0)]:=by
 refine AC.by_walk (rs:=[.tmp 2]) ords Tryz.func134 (by rfl) (by rfl) (by rfl) (by rfl) (by rfl) ?_;simp (disch:=omega) only[wt,seval,reduceCtorEq,Nat.reduceEqDiff,rqs];refine call_by ((nbits_ok r.2 h.2 h.1)) (by rfl) (by simp) ?_;simp (disch:=omega) only[wt,seval,reduceCtorEq,Nat.reduceEqDiff,rqs];refine if_by (λh1=>?_) (λh1=>?_)
 .rw[if_pos (bl_zero.mp (by omega))];simp (disch:=omega) only[wt,seval,reduceCtorEq,Nat.reduceEqDiff,rqs]
 .rw[if_neg (λh2=>h1 (by rw[bl_zero.mpr h2];rfl))];simp (disch:=omega) only[wt,seval,reduceCtorEq,Nat.reduceEqDiff,rqs]
theorem qcheck_good (r:RQ)(h:Nt (2^42) r.2)(h0:nv r.2≠0):AC Tryz.prog 134 [cqq r] none [ci 0]:=by
 have:=qcheck_ok r h;rwa [if_neg h0]at this
theorem qcheck_bad (r:RQ)(h:Nt (2^42) r.2)(h0:nv r.2=0):AC Tryz.prog 134 [cqq r] none [ci 1]:=by
 have:=qcheck_ok r h;rwa [if_pos h0]at this
theorem qchecks_gen (l:List RQ)(e:Int)(hl:l.length<=2^40)(h:∀r∈l,Nt (2^42) r.2)(hg:(∀r∈l,nv r.2≠0)->e=0)(hb:(¬∀r∈l,nv r.2≠0)->e=1):AC Tryz.prog 189 [cqw l] none [ci e]:=by
 refine AC.by_walk (rs:=[.tmp 2]) ords Tryz.func189 (by rfl) (by rfl) (by rfl) (by rfl) (by rfl) ?_;simp (disch:=omega) only[wt,seval,reduceCtorEq,Nat.reduceEqDiff,rqs];refine aloop_by (λf H=>∃(i:Nat),i<=l.length/\(∀j,j<i->nv (l.getD j q0).2≠0)/\f 8=.iv (.int .i64 i)/\f 6=.iv (.sl (rats l))/\f 7=.iv (.int .i64 l.length)) (λf H=>(l.length-intAt f 8).toNat) ?_ ?_
 .refine⟨0,by omega,λj hj=>by omega,?_⟩;simp (disch:=omega) only[wt,seval,reduceCtorEq,Nat.reduceEqDiff,rqs]
 rintro f H ⟨i,hi,hz,hF⟩;rw[intAt_of hF.1];simp (disch:=omega) only[wt,seval,reduceCtorEq,Nat.reduceEqDiff,rqs,hF];refine if_by (λhlt=>?_) (λhlt=>?_)
 .have hlt':i<l.length:=by omega
  have hmem:l.getD i q0∈l:=by rw[List.getD,List.getElem?_eq_getElem hlt',Option.getD_some];exact List.getElem_mem hlt'
  simp (disch:=omega) only[wt,seval,reduceCtorEq,Nat.reduceEqDiff,rqs,hF];by_cases h0:nv (l.getD i q0).2=0
  .obtain rfl:=hb (λh1=>h1 _ hmem h0);refine call_by ((qcheck_bad (l.getD i q0) (h _ hmem) h0)) (by first|rfl|(simp only[tocvs,tocv,toboxes,tobox,updH_at,Nat.reduceEqDiff,↓reduceIte,hF];rfl)) (by simp) ?_;simp (disch:=omega) only[wt,seval,reduceCtorEq,Nat.reduceEqDiff,rqs,hF]
  .have h0':=h0;refine call_by ((qcheck_good (l.getD i q0) (h _ hmem) h0)) (by first|rfl|(simp only[tocvs,tocv,toboxes,tobox,updH_at,Nat.reduceEqDiff,↓reduceIte,hF];rfl)) (by simp) ?_;simp (disch:=omega) only[wt,seval,reduceCtorEq,Nat.reduceEqDiff,rqs,hF];refine⟨⟨i+1,by omega,λj hj=>?_,by omega⟩,by omega⟩;rcases Nat.lt_or_ge j i with hj'|hj'
   .exact hz j hj'
   .obtain rfl:j=i:=by omega
    exact h0
 .obtain rfl:=hg (λr hr=>by
   obtain⟨j,hj,rfl⟩:=List.getElem_of_mem hr;have:=hz j (by omega);rwa [List.getD,List.getElem?_eq_getElem hj,Option.getD_some]at this)
  simp (disch:=omega) only[wt,seval,reduceCtorEq,Nat.reduceEqDiff,rqs,hF]
theorem sg_over (n:Int)(g:Nat)(h:(g:Int)∣n)(hg:g≠0):sg (decide (n<0)) (n.natAbs/g)=n/g:=by
 obtain⟨k,rfl⟩:=h;have hg':(g:Int)≠0:=by omega
 have hp:(0:Int)<g:=by omega
 rw[Int.mul_ediv_cancel_left _ hg',Int.natAbs_mul,Int.natAbs_natCast,Nat.mul_div_cancel_left _ (by omega)];unfold sg;by_cases hk:k<0
 .rw[decide_eq_true (Int.mul_neg_of_pos_of_neg hp hk),if_pos rfl];omega
 .rw[decide_eq_false (by have:=Int.mul_nonneg (a:=(g:Int)) (b:=k) (by omega) (by omega);omega),if_neg (by decide)];omega
theorem qred_ok (n:RI)(d:List Nat)(hn:Sz (2^38) n)(hd:Nt (2^38) d)(h0:nv d≠0):AC Tryz.prog 182 [cr n,cl d] none [cqz (mkRat (iv n) (nv d))]:=by
 rw[show cqz (mkRat (iv n) (nv d))=cqq (rq (iv n) (nv d)) by rw[rq_crat h0]];have zn:=zl_iv hn;have hgp:0<Nat.gcd (iv n).natAbs (nv d):=Nat.gcd_pos_of_pos_right _ (by omega);have hgd:(wd (Nat.gcd (iv n).natAbs (nv d))).length<=2^38:=Nat.le_trans (wd_len_mono (Nat.gcd_le_right _ (by omega))) (Nat.le_trans (nv_len hd.2) hd.1);have h1:((Nat.gcd (iv n).natAbs (nv d):Nat):Int)∣iv n:=Int.ofNat_dvd_left.mpr (Nat.gcd_dvd_left _ _);have g:=gcd_ok (wd (iv n).natAbs) d (lim_wd _) hd.2 zn hd.1;rw[nv_wd]at g;have e1:=dexact_ok (wd (iv n).natAbs) (wd (Nat.gcd (iv n).natAbs (nv d))) (lim_wd _) (lim_wd _) zn hgd (by rw[nv_wd];omega);rw[nv_wd,nv_wd,if_pos (Nat.mod_eq_zero_of_dvd (Nat.gcd_dvd_left _ _)),if_pos (Nat.mod_eq_zero_of_dvd (Nat.gcd_dvd_left _ _))]at e1;have e2:=dexact_ok d (wd (Nat.gcd (iv n).natAbs (nv d))) hd.2 (lim_wd _) hd.1 hgd (by rw[nv_wd];omega);rw[nv_wd,if_pos (Nat.mod_eq_zero_of_dvd (Nat.gcd_dvd_right _ _)),if_pos (Nat.mod_eq_zero_of_dvd (Nat.gcd_dvd_right _ _))]at e2;have e3:=znat_ok (decide (iv n<0)) ((iv n).natAbs/Nat.gcd (iv n).natAbs (nv d)) (Nat.le_trans (wd_len_mono (Nat.div_le_self _ _)) (Nat.le_trans zn (by omega)));rw[sg_over _ _ h1 (by omega)]at e3;refine AC.by_walk (rs:=[.cell 4 46]) ords Tryz.func182 (by rfl) (by rfl) (by rfl) (by rfl) (by rfl) ?_;simp (disch:=omega) only[wt,seval,reduceCtorEq,Nat.reduceEqDiff,rqs];refine call_by ((znorm_ok n (hn.mono (by omega)))) (by rfl) (by simp) ?_;simp (disch:=omega) only[wt,seval,reduceCtorEq,Nat.reduceEqDiff,rqs];refine call_by (g) (by rfl) (by simp) ?_;simp (disch:=omega) only[wt,seval,reduceCtorEq,Nat.reduceEqDiff,rqs];refine call_by (e1) (by rfl) (by simp) ?_;simp (disch:=omega) only[wt,seval,reduceCtorEq,Nat.reduceEqDiff,rqs];refine call_by (e2) (by rfl) (by simp) ?_;simp (disch:=omega) only[wt,seval,reduceCtorEq,Nat.reduceEqDiff,rqs];refine call_by (e3) (by rfl) (by simp) ?_;simp (disch:=omega) only[wt,seval,reduceCtorEq,Nat.reduceEqDiff,rqs];rfl
theorem qv_eq (r:RQ):qv r=(iv r.1:Rat)/(nv r.2:Rat):=Rat.mkRat_eq_div _ _
theorem SzQ.mono {j k:Nat}{r:RQ}(h:SzQ j r)(hk:j<=k):SzQ k r:=⟨h.1.mono hk,Nat.le_trans h.2.1 hk,h.2.2⟩
theorem znatl_ok (s:Bool)(l:List Nat)(h:Lim l)(hl:l.length<=2^40):AC Tryz.prog 123 [cb s,cl l] none [cz (sg s (nv l))]:=by
 refine AC.by_walk (rs:=[.cell 4 44]) ords Tryz.func123 (by rfl) (by rfl) (by rfl) (by rfl) (by rfl) ?_;simp (disch:=omega) only[wt,seval,reduceCtorEq,Nat.reduceEqDiff,rqs];have m:=znorm_ok (s,l) ⟨hl,h⟩;rw[iv_sg]at m;refine call_by (m) (by rfl) (by simp) ?_;simp (disch:=omega) only[wt,seval,reduceCtorEq,Nat.reduceEqDiff,rqs]
theorem nt_zl {l:List Nat}{k:Nat}(h:Nt k l):zl ((nv l:Nat):Int)<=k:=Nat.le_trans (nv_len h.2) h.1
theorem sgf (n:Nat):sg false n=(n:Int):=rfl
theorem qtimes_ok (a:RI)(d:List Nat)(ha:Sz (2^36) a)(hd:Nt (2^36) d):AC Tryz.prog 190 [cr a,cl d] none [cz (iv a*nv d)]:=by
 have m:=znatl_ok false d hd.2 (Nat.le_trans hd.1 (by omega));rw[sgf]at m;have n:=zmul_ok a (canon (nv d)) ha ((sz_canon _).mono (nt_zl hd));rw[iv_canon]at n;refine AC.by_walk (rs:=[.cell 4 44]) ords Tryz.func190 (by rfl) (by rfl) (by rfl) (by rfl) (by rfl) ?_;simp (disch:=omega) only[wt,seval,reduceCtorEq,Nat.reduceEqDiff,rqs];refine .inl ⟨tmps_by (by kernel_rfl),?_⟩;refine call_by (m) (by rfl) (by simp) ?_;simp (disch:=omega) only[wt,seval,reduceCtorEq,Nat.reduceEqDiff,rqs];refine call_by (n) (by rfl) (by simp) ?_;simp (disch:=omega) only[wt,seval,reduceCtorEq,Nat.reduceEqDiff,rqs]
 first|exact log_by (by kernel_rfl)|refine⟨log_by (by kernel_rfl),?_⟩
 try rfl
theorem qchecks_two (a b:RQ)(ha:SzQ (2^36) a)(hb:SzQ (2^36) b)(h0:nv a.2≠0)(h1:nv b.2≠0):AC Tryz.prog 189 [cqw [a,b]] none [ci 0] :=
 qchecks_gen [a,b] 0 (by simp) (λr hr=>by
  simp only[List.mem_cons,List.not_mem_nil,or_false]at hr;rcases hr with rfl|rfl
  .exact⟨Nat.le_trans ha.2.1 (by omega),ha.2.2⟩
  .exact⟨Nat.le_trans hb.2.1 (by omega),hb.2.2⟩) (λ_=>rfl) (λh=>(h λr hr=>by
   simp only[List.mem_cons,List.not_mem_nil,or_false]at hr;rcases hr with rfl|rfl
   .exact h0
   .exact h1).elim)
theorem rats_two (a b:RQ):[qrow a,qrow b]=rats [a,b]:=rfl
theorem wd_len2 {a b:Nat}{j k:Nat}(ha:(wd a).length<=j)(hb:(wd b).length<=k):(wd (a*b)).length<=j+k:=Nat.le_trans (AL.wd_mul_len a b) (Nat.add_le_add ha hb)
theorem zneg_ok (c:RI)(h:Sz (2^40) c):AC Tryz.prog 191 [cr c] none [cz (-iv c)]:=by
 have e:sg (!c.1) (nv c.2) = -iv c:=by
  rw[iv_sg];unfold sg;cases c.1<;>simp
 have m:=zof_ok (!c.1) (nv c.2);rw[e]at m;have n:=norm_ok c.2 h.2 (Nat.le_trans h.1 (by omega));refine AC.by_walk (rs:=[.cell 2 44]) ords Tryz.func191 (by rfl) (by rfl) (by rfl) (by rfl) (by rfl) ?_;simp (disch:=omega) only[wt,seval,reduceCtorEq,Nat.reduceEqDiff,rqs];refine .inl ⟨tmps_by (by kernel_rfl),?_⟩;refine call_by (n) (by rfl) (by simp) ?_;simp (disch:=omega) only[wt,seval,reduceCtorEq,Nat.reduceEqDiff,rqs];refine call_by (m) (by rfl) (by simp) ?_;simp (disch:=omega) only[wt,seval,reduceCtorEq,Nat.reduceEqDiff,rqs]
 first|exact log_by (by kernel_rfl)|refine⟨log_by (by kernel_rfl),?_⟩
 try rfl
theorem zabsn_ok (c:RI)(h:Sz (2^40) c):AC Tryz.prog 216 [cr c] none [cl (wd (iv c).natAbs)]:=by
 have n:=norm_ok c.2 h.2 (Nat.le_trans h.1 (by omega));rw[<-iv_abs]at n;refine AC.by_walk (rs:=[.tmp 2]) ords Tryz.func216 (by rfl) (by rfl) (by rfl) (by rfl) (by rfl) ?_;simp (disch:=omega) only[wt,seval,reduceCtorEq,Nat.reduceEqDiff,rqs];refine call_by (n) (by rfl) (by simp) ?_;simp (disch:=omega) only[wt,seval,reduceCtorEq,Nat.reduceEqDiff,rqs]
theorem mk_div {a b:Int}(hb:b≠0):mkRat (if b<0 then -a else a) b.natAbs=(a:Rat)/(b:Rat):=by
 have hr:(b:Rat)≠0:=λh=>hb (Rat.intCast_eq_zero_iff.mp h)
 rw[Rat.mkRat_eq_div];by_cases h:b<0
 .have e:((b.natAbs:Nat):Rat) = -(b:Rat):=by
   rw[<-Rat.intCast_natCast,<-Rat.intCast_neg]
   congr 1
   omega
  rw[if_pos h,e,Rat.intCast_neg]
  grind
 .have e:((b.natAbs:Nat):Rat)=(b:Rat):=by
   rw[<-Rat.intCast_natCast]
   congr 1
   omega
  rw[if_neg h,e]
theorem qmake_ok (a b:RI)(ha:Sz (2^38) a)(hb:Sz (2^38) b)(h0:iv b≠0):AC Tryz.prog 162 [cr a,cr b] none [cqz ((iv a:Rat)/(iv b:Rat)),ci 0]:=by
 have s:=zsign_ok b (hb.mono (by omega));have hs0:(iv b).sign≠0:=λh=>h0 (Int.sign_eq_zero_iff_zero.mp h)
 have n:=zneg_ok a (ha.mono (by omega));have w:=zabsn_ok b (hb.mono (by omega));have za:=zl_iv ha;have zb:=zl_iv hb;have d:=mk_div (a:=iv a) h0;refine AC.by_walk (rs:=[.cell 4 46,.tmp 5]) ords Tryz.func162 (by rfl) (by rfl) (by rfl) (by rfl) (by rfl) ?_;simp (disch:=omega) only[wt,seval,reduceCtorEq,Nat.reduceEqDiff,rqs];refine call_by (s) (by rfl) (by simp) ?_;simp (disch:=omega) only[wt,seval,reduceCtorEq,Nat.reduceEqDiff,rqs];simp (disch:=omega) only[wt,seval,reduceCtorEq,Nat.reduceEqDiff,rqs,hs0];refine call_by (s) (by first|rfl|(simp only[tocvs,tocv,toboxes,tobox,updH_at,Nat.reduceEqDiff,↓reduceIte,hs0];rfl)) (by simp) ?_;simp (disch:=omega) only[wt,seval,reduceCtorEq,Nat.reduceEqDiff,rqs,hs0];have hsg:=sign_neg (iv b);by_cases h:iv b<0
 .have h1:=hsg.mpr h;rw[if_pos h]at d;have r:=qred_ok (canon (-iv a)) (wd (iv b).natAbs) ((sz_canon _).mono (by rw[zl_neg];exact za)) ⟨zb,lim_wd _⟩ (by rw[nv_wd];omega);rw[iv_canon,nv_wd,d]at r;simp (disch:=omega) only[wt,seval,reduceCtorEq,Nat.reduceEqDiff,rqs,h1];refine call_by (n) (by first|rfl|(simp only[tocvs,tocv,toboxes,tobox,updH_at,Nat.reduceEqDiff,↓reduceIte,h1];rfl)) (by simp) ?_;simp (disch:=omega) only[wt,seval,reduceCtorEq,Nat.reduceEqDiff,rqs,h1];refine .inl ⟨tmps_by (by kernel_rfl),?_⟩;refine call_by (w) (by rfl) (by simp) ?_;simp (disch:=omega) only[wt,seval,reduceCtorEq,Nat.reduceEqDiff,rqs];refine call_by (r) (by rfl) (by simp) ?_;simp (disch:=omega) only[wt,seval,reduceCtorEq,Nat.reduceEqDiff,rqs]
  first|exact log_by (by kernel_rfl)|refine⟨log_by (by kernel_rfl),?_⟩
  try rfl
 .have h1:¬(iv b).sign<0:=λh'=>h (hsg.mp h')
  rw[if_neg h]at d;have r:=qred_ok a (wd (iv b).natAbs) ha ⟨zb,lim_wd _⟩ (by rw[nv_wd];omega);rw[nv_wd,d]at r;simp (disch:=omega) only[wt,seval,reduceCtorEq,Nat.reduceEqDiff,rqs,h1];refine .inl ⟨tmps_by (by kernel_rfl),?_⟩;refine call_by (w) (by rfl) (by simp) ?_;simp (disch:=omega) only[wt,seval,reduceCtorEq,Nat.reduceEqDiff,rqs];refine call_by (r) (by rfl) (by simp) ?_;simp (disch:=omega) only[wt,seval,reduceCtorEq,Nat.reduceEqDiff,rqs]
  first|exact log_by (by kernel_rfl)|refine⟨log_by (by kernel_rfl),?_⟩
  try rfl
theorem qof_ok (a b:Int)(ha : -9223372036854775808<=a)(ha':a<=9223372036854775807)(hb : -9223372036854775808<=b)(hb':b<=9223372036854775807)(h0:b≠0):AC Tryz.prog 98 [ci a,ci b] none [cqz ((a:Rat)/(b:Rat)),ci 0]:=by
 have z1:=zOf_ok a ha ha';have z2:=zOf_ok b hb hb';have s:∀x:Int,-9223372036854775808<=x->x<=9223372036854775807->zl x<=1:=λx h1 h2=>zl_le.mpr (by rw[Nat.pow_one];simp only[W];omega)
 have r:=qmake_ok (canon a) (canon b) ((sz_canon _).mono (Nat.le_trans (s a ha ha') (by omega))) ((sz_canon _).mono (Nat.le_trans (s b hb hb') (by omega))) (by rw[iv_canon];exact h0);rw[iv_canon,iv_canon]at r;refine AC.by_walk (rs:=[.cell 4 46,.tmp 5]) ords Tryz.func98 (by rfl) (by rfl) (by rfl) (by rfl) (by rfl) ?_;simp (disch:=omega) only[wt,seval,reduceCtorEq,Nat.reduceEqDiff,rqs];refine call_by (z1) (by rfl) (by simp) ?_;simp (disch:=omega) only[wt,seval,reduceCtorEq,Nat.reduceEqDiff,rqs];refine call_by (z2) (by rfl) (by simp) ?_;simp (disch:=omega) only[wt,seval,reduceCtorEq,Nat.reduceEqDiff,rqs];refine call_by (r) (by rfl) (by simp) ?_;simp (disch:=omega) only[wt,seval,reduceCtorEq,Nat.reduceEqDiff,rqs]
 try rfl
theorem wd_w {d:Nat}(h:d<W):(wd d).length<=1:=wd_len_le.mpr (by rwa [Nat.pow_one])
def BQ (n k:Nat)(p:List RQ):Prop:=p.length<=n/\∀r∈p,SzQ k r
def GQ (n k:Nat)(p:List RQ):Prop:=p.length<=n/\∀r∈p,SzQ k r/\nv r.2≠0
def QB (n k:Nat)(q:List Rat):Prop:=q.length<=n/\∀c∈q,qz c<=k
def gd (p:List RQ):Bool:=p.all λr=>decide (nv r.2≠0)
theorem getq_mem {p:List RQ}{i:Nat}(h:i<p.length):p.getD i q0∈p:=by rw[List.getD,List.getElem?_eq_getElem h,Option.getD_some];exact List.getElem_mem h
theorem BQ.get {n k i:Nat}{p:List RQ}(h:BQ n k p)(hi:i<p.length):SzQ k (p.getD i q0):=h.2 _ (getq_mem hi)
theorem GQ.get {n k i:Nat}{p:List RQ}(h:GQ n k p)(hi:i<p.length):SzQ k (p.getD i q0):=(h.2 _ (getq_mem hi)).1
theorem GQ.den {n k i:Nat}{p:List RQ}(h:GQ n k p)(hi:i<p.length):nv (p.getD i q0).2≠0:=(h.2 _ (getq_mem hi)).2
theorem gd_iff {p:List RQ}:gd p=true↔∀r∈p,nv r.2≠0:=by simp[gd]
theorem GQ.gd {n k:Nat}{p:List RQ}(h:GQ n k p):gd p=true:=gd_iff.mpr λr hr=>(h.2 r hr).2
theorem BQ.mono {n k n' k':Nat}{p:List RQ}(h:BQ n k p)(hn:n<=n')(hk:k<=k'):BQ n' k' p:=⟨Nat.le_trans h.1 hn,λr hr=>(h.2 r hr).mono hk⟩
theorem GQ.mono {n k n' k':Nat}{p:List RQ}(h:GQ n k p)(hn:n<=n')(hk:k<=k'):GQ n' k' p:=⟨Nat.le_trans h.1 hn,λr hr=>⟨(h.2 r hr).1.mono hk,(h.2 r hr).2⟩⟩
theorem QB.mono {n k n' k':Nat}{q:List Rat}(h:QB n k q)(hn:n<=n')(hk:k<=k'):QB n' k' q:=⟨Nat.le_trans h.1 hn,λr hr=>Nat.le_trans (h.2 r hr) hk⟩
theorem GQ.qb {n k:Nat}{p:List RQ}(h:GQ n k p):QB n k (qvs p):=⟨by rw[qvs_len];exact h.1,λc hc=>by
 obtain⟨r,hr,rfl⟩:=List.mem_map.1 hc;exact qz_raw (h.2 r hr).1 (h.2 r hr).2⟩
theorem QB.trimq {n k:Nat}{q:List Rat}(h:QB n k q):QB n k (trimq q):=⟨Nat.le_trans (by rw[trimq_len];exact tzq_le q) h.1,λc hc=>h.2 c (List.mem_of_mem_take hc)⟩
theorem QB.cz {n k:Nat}{q:List Rat}(h:QB n k q)(hk:1<=k)(i:Nat):qz (cfq q i)<=k:=by
 unfold cfq;rw[List.getD_eq_getElem?_getD];cases hi:q[i]? with
 |none=>rw[Option.getD_none,qz_zero];exact hk
 |some x=>exact h.2 x (List.mem_of_getElem? hi)
theorem QB.of {n k:Nat}{q:List Rat}(hl:q.length<=n)(h:∀i,qz (cfq q i)<=k):QB n k q:=⟨hl,λc hc=>by
 obtain⟨i,hi,rfl⟩:=List.getElem_of_mem hc;have:=h i;rwa [cfq_lt hi]at this⟩
def qp (p:List Int):List Rat:=p.map λz:Int=>(z:Rat)
theorem cfq_qp (p:List Int)(k:Nat):cfq (qp p) k=(cf p k:Rat):=by
 unfold cfq qp cf;rw[List.getD_eq_getElem?_getD,List.getD_eq_getElem?_getD,List.getElem?_map];cases p[k]?<;>rfl
structure VB (p:List RQ) (x:RQ) (B:Nat):Prop where
 hp:GQ (2^30) B p
 hx:SzQ B x
 d:nv x.2≠0
 e:∀q:List Rat,q.length<=p.length->(∀c∈q,c∈qvs p)->qz (evq q (qv x))<=B
 w:∀i,i<=p.length->qz (qv x^i)<=B
 b:B<=2^34
 one:1<=B
theorem VB.of {n K X B:Nat}{p:List RQ}{x:RQ}(hp:GQ n K p)(hx:SzQ X x)(hd:nv x.2≠0)(hn:n<=2^30)(hB:n*(K+X+1)+K+X+1<=B)(hB':B<=2^34):VB p x B where
 hp:=hp.mono hn (by omega)
 hx:=hx.mono (by omega)
 d:=hd
 e:=λq hq hc=>by
  have h:=qz_evq (K:=K) (qz_raw hx hd) (p:=q) λc hc'=>hp.qb.2 c (hc c hc')
  have h2:=Nat.mul_le_mul_right (K+X+1) (Nat.le_trans hq hp.1);omega
 w:=λi hi=>by
  have h:=qz_pow (qz_raw hx hd) i;have h2:=Nat.mul_le_mul_right X (Nat.le_trans hi hp.1);have h3:n*X<=n*(K+X+1):=Nat.mul_le_mul_left n (by omega);omega
 b:=hB'
 one:=by omega
theorem VB.take {p:List RQ}{x:RQ}{B:Nat}(v:VB p x B)(i:Nat):qz (evq ((qvs p).take i) (qv x))<=B :=
 v.e _ (by rw[List.length_take,qvs_len];omega) λc hc=>List.mem_of_mem_take hc
theorem VB.drop {p:List RQ}{x:RQ}{B:Nat}(v:VB p x B)(i:Nat):qz (evq ((qvs p).drop i) (qv x))<=B :=
 v.e _ (by rw[List.length_drop,qvs_len];omega) λc hc=>List.mem_of_mem_drop hc
def sgq (q:Rat):Int:=q.num.sign
theorem sgq_pos {q:Rat}(h:0<q):sgq q=1:=by
 refine Int.sign_eq_one_of_pos ?_;have h1:0<=q.num:=Rat.num_nonneg.mpr (Rat.le_of_lt h);have h2:q.num≠0:=λe=>by rw[Rat.num_eq_zero.mp e]at h;exact Rat.lt_irrefl h
 omega
theorem sgq_neg {q:Rat}(h:q<0):sgq q = -1:=by
 refine Int.sign_eq_neg_one_of_neg ?_;have h1:¬0<=q.num:=λe=>Rat.not_le.mpr h (Rat.num_nonneg.mp e)
 omega
theorem sgq_zero:sgq 0=0:=rfl
theorem sgq_cases (q:Rat):(0<q/\sgq q=1)\/(q=0/\sgq q=0)\/(q<0/\sgq q = -1):=by
 by_cases h:q<0
 .exact .inr (.inr ⟨h,sgq_neg h⟩)
 .by_cases h0:q=0
  .exact .inr (.inl ⟨h0,by rw[h0];rfl⟩)
  .have:0<q:=Rat.lt_of_le_of_ne (Rat.not_lt.mp h) (λe=>h0 e.symm);exact .inl ⟨this,sgq_pos this⟩
theorem sgq_mul (p q:Rat):sgq (p*q)=sgq p*sgq q:=by
 have hn:∀{x:Rat},x<0->0 < -x:=λ{x} h=>by grind
 rcases sgq_cases p with ⟨h1,e1⟩|⟨h1,e1⟩|⟨h1,e1⟩<;>rcases sgq_cases q with ⟨h2,e2⟩|⟨h2,e2⟩|⟨h2,e2⟩<;>rw[e1,e2]
 .rw[sgq_pos (Rat.mul_pos h1 h2)];rfl
 .rw[h2,Rat.mul_zero];rfl
 .have:=Rat.mul_pos h1 (hn h2);rw[sgq_neg (by rw[Rat.mul_neg]at this;grind)];rfl
 .rw[h1,Rat.zero_mul];rfl
 .rw[h1,Rat.zero_mul];rfl
 .rw[h1,Rat.zero_mul];rfl
 .have:=Rat.mul_pos (hn h1) h2;rw[sgq_neg (by rw[Rat.neg_mul]at this;grind)];rfl
 .rw[h2,Rat.mul_zero];rfl
 .have:=Rat.mul_pos (hn h1) (hn h2);rw[sgq_pos (by rw[Rat.neg_mul,Rat.mul_neg,Rat.neg_neg]at this;exact this)];rfl
theorem sgq_int (z:Int):sgq (z:Rat)=z.sign:=by rw[sgq,Rat.num_intCast]
theorem sgq_eq_zero {q:Rat}:sgq q=0↔q=0:=by
 rcases sgq_cases q with ⟨h1,e1⟩|⟨h1,e1⟩|⟨h1,e1⟩<;>rw[e1]
 .exact⟨λh=>by omega,λh=>by rw[h]at h1;exact(Rat.lt_irrefl h1).elim⟩
 .exact⟨λ_=>h1,λ_=>rfl⟩
 .exact⟨λh=>by omega,λh=>by rw[h]at h1;exact(Rat.lt_irrefl h1).elim⟩
structure C12 where
 (P Q:List RI) (R S:List RQ) (A B:RI) (X Y:RQ) (N:Int)
structure Ok12 (x:C12):Prop where
 P:Raw x.P
 Q:Raw x.Q
 R:RawQ x.R
 S:RawQ x.S
 A:Sz 9223372036854775807 x.A
 B:Sz 9223372036854775807 x.B
 X:SzQ 9223372036854775807 x.X
 Y:SzQ 9223372036854775807 x.Y
 N : -9223372036854775808<=x.N/\x.N<=9223372036854775807
structure Fit12 (x:C12):Prop where
 P:RP 40 200 x.P
 Q:RP 40 200 x.Q
 R:BQ 40 200 x.R
 S:BQ 40 200 x.S
 A:Sz 200 x.A
 B:Sz 200 x.B
 X:SzQ 200 x.X
 Y:SzQ 200 x.Y
def CD (D M:Nat)(q:Rat):Prop:=∃z:Int,q=(z:Rat)/(D:Rat)/\zl z<=M
theorem CD.mono {D M N:Nat}{q:Rat}(h:CD D M q)(hk:M<=N):CD D N q:=by
 obtain⟨z,e,hz⟩:=h;exact⟨z,e,Nat.le_trans hz hk⟩
theorem natr_ne {n:Nat}(h:n≠0):(n:Rat)≠0:=λe=>h (Rat.natCast_eq_zero_iff.mp e)
theorem CD.add {D M N:Nat}{p q:Rat}(h:CD D M p)(k:CD D N q):CD D (max M N+1) (p+q):=by
 obtain⟨z,e,hz⟩:=h;obtain⟨w,f,hw⟩:=k;refine⟨z+w,?_,?_⟩
 .rw[e,f,Rat.intCast_add,Rat.div_def,Rat.div_def,Rat.div_def,Rat.add_mul]
 .have:=zl_add z w;omega
theorem CD.neg {D M:Nat}{p:Rat}(h:CD D M p):CD D M (-p):=by
 obtain⟨z,e,hz⟩:=h;exact⟨-z,by rw[e,Rat.intCast_neg,Rat.div_def,Rat.div_def,Rat.neg_mul],by rw[zl_neg];exact hz⟩
theorem CD.mul {D E M N:Nat}{p q:Rat}(hD:D≠0)(hE:E≠0)(h:CD D M p)(k:CD E N q):CD (D*E) (M+N) (p*q):=by
 obtain⟨z,e,hz⟩:=h;obtain⟨w,f,hw⟩:=k;refine⟨z*w,?_,?_⟩
 .have h1:=natr_ne hD;have h2:=natr_ne hE;rw[e,f,Rat.intCast_mul,Rat.natCast_mul]
  grind
 .have:=zl_mul z w;omega
theorem CD.up {D E M V:Nat}{q:Rat}(hD:D≠0)(hE:E≠0)(hV:(wd E).length<=V)(h:CD D M q):CD (D*E) (M+V) q:=by
 obtain⟨z,e,hz⟩:=h;refine⟨z*E,?_,?_⟩
 .have h1:=natr_ne hD;have h2:=natr_ne hE;rw[e,Rat.intCast_mul,Rat.natCast_mul,Rat.intCast_natCast]
  grind
 .have:=zl_mul z E;rw[zl_nat]at this;omega
theorem CD.ofRat (q:Rat):CD q.den (zl q.num) q:=⟨q.num,by rw[<-Rat.mkRat_eq_div];exact(Rat.mkRat_self q).symm,Nat.le_refl _⟩
theorem CD.size {D M:Nat}{q:Rat}(hD:D≠0)(hw:(wd D).length<=M)(h:CD D M q):qz q<=M:=by
 obtain⟨z,e,hz⟩:=h;rw[e,<-Rat.mkRat_eq_div];exact qz_mk hD hz hw
theorem CD.zero (D M:Nat):CD D M 0:=⟨0,by rw[Rat.intCast_zero,Rat.div_def,Rat.zero_mul],by rw[zl_zero];omega⟩
theorem wd_pow {v V:Nat}(h:(wd v).length<=V)(n:Nat):(wd (v^n)).length<=n*V+1:=by
 have:=zl_pow (a:=(v:Int)) (K:=V) h n;unfold zl at this;rwa [Int.natAbs_pow,Int.natAbs_natCast]at this
theorem pow_ne {v:Nat}(h:v≠0)(n:Nat):v^n≠0:=Nat.ne_of_gt (Nat.pow_pos (Nat.pos_of_ne_zero h))
theorem evq_cd {D K v X V:Nat}{x:Rat}(hD:D≠0)(hv:v≠0)(hV:(wd v).length<=V)(hx:CD v X x):∀p:List Rat,(∀c∈p,CD D K c)->CD (D*v^p.length) (K+p.length*(X+V+1)+1) (evq p x)
 |[],_=>CD.zero _ _
 |c::p,h=>by
  have ih:=evq_cd hD hv hV hx p λc' hc=>h c' (List.mem_cons_of_mem _ hc)
  have h1:=(h c (by simp)).up hD (pow_ne hv (p.length+1)) (wd_pow hV (p.length+1));have h2:=hx.mul hv (Nat.mul_ne_zero hD (pow_ne hv _)) ih;rw[show v*(D*v^p.length)=D*v^(p.length+1) by rw[Nat.pow_succ];ac_rfl]at h2;rw[evq,List.length_cons];refine(h1.add h2).mono ?_;have e1:(p.length+1)*V=p.length*V+V:=Nat.succ_mul _ _;have e2:(p.length+1)*(X+V+1)=p.length*(X+V+1)+(X+V+1):=Nat.succ_mul _ _;have e3:p.length*V<=p.length*(X+V+1):=Nat.mul_le_mul_left _ (by omega);omega
theorem evq_cdN {D K v X V N:Nat}{x:Rat}(hD:D≠0)(hv:v≠0)(hV:(wd v).length<=V)(hx:CD v X x){p:List Rat}(hp:∀c∈p,CD D K c)(hN:p.length<=N):CD (D*v^N) (K+N*(X+V+1)+N*V+2) (evq p x):=by
 have h1:=(evq_cd hD hv hV hx p hp).up (Nat.mul_ne_zero hD (pow_ne hv _)) (pow_ne hv (N-p.length)) (wd_pow hV (N-p.length));rw[Nat.mul_assoc,<-Nat.pow_add,show p.length+(N-p.length)=N by omega]at h1;refine h1.mono ?_;have e1:p.length*(X+V+1)<=N*(X+V+1):=Nat.mul_le_mul_right _ hN;have e2:(N-p.length)*V<=N*V:=Nat.mul_le_mul_right _ (by omega);omega
structure CB (D n M:Nat) (q:List Rat):Prop where
 d:D≠0
 w:(wd D).length<=M
 l:q.length<=n
 c:∀c∈q,CD D M c
theorem CB.qb {D n M:Nat}{q:List Rat}(h:CB D n M q):QB n M q:=⟨h.l,λc hc=>(h.c c hc).size h.d h.w⟩
theorem CB.mono {D n M m N:Nat}{q:List Rat}(h:CB D n M q)(hn:n<=m)(hM:M<=N):CB D m N q:=⟨h.d,Nat.le_trans h.w hM,Nat.le_trans h.l hn,λc hc=>(h.c c hc).mono hM⟩
theorem CB.sub {D n M:Nat}{q r:List Rat}(h:CB D n M q)(hl:r.length<=n)(hr:∀c∈r,c∈q):CB D n M r:=⟨h.d,h.w,hl,λc hc=>h.c c (hr c hc)⟩
theorem qz_parts (q:Rat):zl q.num<=qz q/\(wd q.den).length<=qz q:=⟨Nat.le_max_left _ _,Nat.le_max_right _ _⟩
theorem one_cd:∀{k:Nat} (q:List Rat),(∀c∈q,qz c<=k)->∃D,D≠0/\(wd D).length<=q.length*k+1/\∀c∈q,CD D (q.length*k+k+1) c
 |k,[],_=>⟨1,by omega,by rw[show wd 1=[1] by decide +kernel];simp,λc hc=>nomatch hc⟩
 |k,a::q,h=>by
  obtain⟨D,hD,hw,hc⟩:=one_cd q λc hc=>h c (List.mem_cons_of_mem _ hc)
  have ha:=h a (by simp);have hp:=qz_parts a;refine⟨a.den*D,Nat.mul_ne_zero a.den_nz hD,?_,λc hc'=>?_⟩
  .have:=AL.wd_mul_len a.den D;rw[List.length_cons,Nat.succ_mul];omega
  .rw[List.length_cons,Nat.succ_mul];rcases List.mem_cons.1 hc' with rfl|hc'
   .exact((CD.ofRat c).up c.den_nz hD hw).mono (by omega)
   .rw[Nat.mul_comm];exact((hc c hc').up hD a.den_nz hp.2).mono (by omega)
theorem QB.cb {n k:Nat}{q:List Rat}(h:QB n k q):∃D,CB D n (n*k+k+1) q:=by
 obtain⟨D,hD,hw,hc⟩:=one_cd q h.2;have:=Nat.mul_le_mul_right k h.1;exact⟨D,hD,by omega,h.1,λc hc'=>(hc c hc').mono (by omega)⟩
def sqq (q:List Rat)(c:Rat):List Rat:=(List.range (q.length-1)).map λi=>evq (q.drop (i+1)) c
theorem sqq_len (q:List Rat)(c:Rat):(sqq q c).length=q.length-1:=by simp[sqq]
theorem cfq_sqq (q:List Rat)(c:Rat)(i:Nat):cfq (sqq q c) i=evq (q.drop (i+1)) c:=by
 by_cases h:i<q.length-1
 .rw[sqq,cfq,List.getD,List.getElem?_map,List.getElem?_range h];rfl
 .rw[cfq_ge (by rw[sqq_len];omega),List.drop_of_length_le (by omega)];rfl
theorem CB.sqq {D n M v X V:Nat}{q:List Rat}{x:Rat}(h:CB D n M q)(hv:v≠0)(hV:(wd v).length<=V)(hx:CD v X x):CB (D*v^n) n (M+n*(X+V+1)+n*V+2) (sqq q x) where
 d:=Nat.mul_ne_zero h.d (pow_ne hv _)
 w:=by
  have h1:=AL.wd_mul_len D (v^n);have h2:=wd_pow hV n;have h3:=h.w;omega
 l:=by rw[sqq_len];have:=h.l;omega
 c:=λc hc=>by
  obtain⟨i,_,rfl⟩:=List.mem_map.1 hc;exact evq_cdN h.d hv hV hx (λc hc=>h.c c (List.mem_of_mem_drop hc)) (by rw[List.length_drop];have:=h.l;omega)
theorem trimq_full {q:List Rat}(h:trimq q=q):tzq q=q.length:=by rw[<-trimq_len,h]
theorem sqq_tz {q:List Rat}{c:Rat}(h:trimq q=q)(h0:q.length≠0)(he:evq q c=0):tzq (sqq q c)=q.length-1/\q.length-1≠0:=by
 have ht:=trimq_full h;have h1:q.length≠1:=λe=>by
  match q,e with
  |[a],_ =>
   have:=cfq_tzq_pred (q:=[a]) (by rw[ht];simp);rw[ht]at this;rw[evq,evq]at he;exact this (by show a=0;rw[<-he];grind)
 have h2:cfq (sqq q c) (q.length-2)≠0:=by
  have:=cfq_tzq_pred (q:=q) (by rw[ht];exact h0);rw[ht]at this;rw[cfq_sqq,show q.length-2+1=q.length-1 by omega,List.drop_eq_getElem_cons (by omega),evq,List.drop_of_length_le (by omega),evq];rw[cfq_lt (by omega)]at this;intro e;exact this (by rw[<-e];grind)
 have:=tzq_spec h2 λk hk=>by rw[cfq_sqq,List.drop_of_length_le (by omega)];rfl
 exact⟨by omega,by omega⟩
def qit (q:List Rat)(c:Rat):Nat->List Rat
 |0=>q
 |k+1=>trimq (sqq (qit q c k) c)
theorem qit_len {q:List Rat}{c:Rat}(h:trimq q=q)(h0:q.length≠0):∀k,(∀j,j<k->evq (qit q c j) c=0)->(qit q c k).length+k=q.length/\(qit q c k).length≠0/\trimq (qit q c k)=qit q c k
 |0,_=>⟨rfl,h0,h⟩
 |k+1,hk=>by
  obtain⟨h1,h2,h3⟩:=qit_len h h0 k λj hj=>hk j (by omega)
  obtain⟨h4,h5⟩:=sqq_tz h3 h2 (hk k (by omega));refine⟨?_,?_,trimq_trimq _⟩
  .rw[qit,trimq_len];omega
  .rw[qit,trimq_len];omega

structure SB (A:List Rat) (x:RQ) (B:Nat):Prop where
 l:A.length<=2^30
 c:∀i,i<A.length->qz (cfq A i)<=B
 e:∀i,qz (evq (A.drop i) (qv x))<=B
 hx:SzQ B x
 d:nv x.2≠0
 b:B<=2^34
 one:1<=B
theorem VB.sb {p:List RQ}{x:RQ}{B:Nat}(v:VB p x B):SB (trimq (qvs p)) x B where
 l:=by rw[trimq_len];exact Nat.le_trans (tzq_le _) (by rw[qvs_len];exact v.hp.1)
 c:=λi hi=>by
  have:=v.hp.qb.trimq;exact this.cz v.one i
 e:=λi=>v.e _ (by rw[List.length_drop,trimq_len];have:=tzq_le (qvs p);rw[qvs_len]at this;omega) λc hc=>List.mem_of_mem_take (List.mem_of_mem_drop hc)
 hx:=v.hx
 d:=v.d
 b:=v.b
 one:=v.one
structure TB (A:List Rat) (x:RQ) (n:Nat):Prop where
 t:trimq A=A
 l:A.length<=2^30
 n0:A.length≠0
 z:∀j,j<n->evq (qit A (qv x) j) (qv x)=0
 e:evq (qit A (qv x) n) (qv x)≠0
 v:∀k,k<=n->VB ((qit A (qv x) k).map crat) x (2^34)
theorem TB.le {A:List Rat}{x:RQ}{n:Nat}(h:TB A x n){k:Nat}(hk:k<=n):(qit A (qv x) k).length+k=A.length/\(qit A (qv x) k).length≠0/\trimq (qit A (qv x) k)=qit A (qv x) k :=
 qit_len h.t h.n0 k λj hj=>h.z j (by omega)


theorem lcm_len {a b j k:Nat}(ha:(wd a).length<=j)(hb:(wd b).length<=k):(wd (Nat.lcm a b)).length<=j+k :=
 Nat.le_trans (wd_len_mono (Nat.div_le_self _ _)) (wd_len2 ha hb)
theorem lcm_ne {a b:Nat}(ha:a≠0)(hb:b≠0):Nat.lcm a b≠0:=Nat.lcm_ne_zero ha hb
def lcmL (l:List Nat):Nat:=l.foldl Nat.lcm 1
theorem lcmL_take {l:List Nat}{i:Nat}(h:i<l.length):lcmL (l.take (i+1))=Nat.lcm (lcmL (l.take i)) (l.getD i 0):=by
 rw[List.take_add_one,List.getElem?_eq_getElem h,lcmL,List.foldl_append];simp[lcmL,List.getD,h]
theorem lcmL_facts (l:List Nat)(K:Nat)(h0:∀x∈l,x≠0)(hK:∀x∈l,(wd x).length<=K):∀i,i<=l.length->lcmL (l.take i)≠0/\(wd (lcmL (l.take i))).length<=i*K+1/\∀j,j<i->l.getD j 0∣lcmL (l.take i)
 |0,_=>⟨by simp[lcmL],by rw[List.take_zero];show (wd 1).length<=_;rw[show wd 1=[1] by decide +kernel];simp,λj hj=>by omega⟩
 |i+1,hi=>by
  obtain⟨a1,a2,a3⟩:=lcmL_facts l K h0 hK i (by omega);have hm:l.getD i 0∈l:=by rw[List.getD,List.getElem?_eq_getElem (by omega),Option.getD_some];exact List.getElem_mem _
  rw[lcmL_take (by omega)];refine⟨lcm_ne a1 (h0 _ hm),?_,λj hj=>?_⟩
  .have:=lcm_len a2 (hK _ hm);rw[Nat.succ_mul];omega
  .rcases Nat.lt_or_ge j i with h|h
   .exact Nat.dvd_trans (a3 j h) (Nat.dvd_lcm_left _ _)
   .obtain rfl:j=i:=by omega
    exact Nat.dvd_lcm_right _ _
def dens (A:List Rat):List Nat:=A.map λc=>c.den
def cden (A:List Rat):Nat:=lcmL (dens A)
def clr (A:List Rat):List Int:=A.map λc=>c.num*((cden A:Int)/(c.den:Int))
theorem dens_len (A:List Rat):(dens A).length=A.length:=List.length_map _
theorem clr_len (A:List Rat):(clr A).length=A.length:=List.length_map _
theorem dens_get {A:List Rat}{i:Nat}(h:i<A.length):(dens A).getD i 0=(cfq A i).den:=by simp[dens,cfq,List.getD,h]
theorem clr_get {A:List Rat}{i:Nat}(h:i<A.length):cf (clr A) i=(cfq A i).num*((cden A:Int)/((cfq A i).den:Int)):=by simp[clr,cf,cfq,List.getD,h]
theorem dens_ne {A:List Rat}:∀x∈dens A,x≠0:=λx hx=>by
 obtain⟨c,_,rfl⟩:=List.mem_map.1 hx;exact c.den_nz
theorem QB.dens {n k:Nat}{A:List Rat}(h:QB n k A):∀x∈dens A,(wd x).length<=k:=λx hx=>by
 obtain⟨c,hc,rfl⟩:=List.mem_map.1 hx;exact Nat.le_trans (qz_parts c).2 (h.2 c hc)
theorem cden_ne (A:List Rat):cden A≠0:=by
 have:=(lcmL_facts (dens A) ((dens A).foldl (λm x=>max m (wd x).length) 0) dens_ne (λx hx=>by
  have key:∀(l:List Nat) (m:Nat),m<=l.foldl (λm x=>max m (wd x).length) m/\∀x∈l,(wd x).length<=l.foldl (λm x=>max m (wd x).length) m:=by
   intro l
   induction l with
   |nil=>exact λm=>⟨Nat.le_refl _,λx hx=>nomatch hx⟩
   |cons a l ih =>
    intro m;have:=ih (max m (wd a).length);refine⟨Nat.le_trans (Nat.le_max_left _ _) this.1,λx hx=>?_⟩;rcases List.mem_cons.1 hx with rfl|hx
    .exact Nat.le_trans (Nat.le_max_right _ _) this.1
    .exact this.2 x hx
  exact(key (dens A) 0).2 x hx) (dens A).length (Nat.le_refl _)).1
 rwa [List.take_of_length_le (Nat.le_refl _)]at this
theorem cden_dvd {A:List Rat}{i:Nat}(h:i<A.length):(cfq A i).den∣cden A:=by
 have:=(lcmL_facts (dens A) (cden A+(dens A).foldl (λm x=>m+(wd x).length) 0) dens_ne (λx hx=>by
  have key:∀(l:List Nat) (m:Nat),m<=l.foldl (λm x=>m+(wd x).length) m/\∀x∈l,(wd x).length<=l.foldl (λm x=>m+(wd x).length) m:=by
   intro l
   induction l with
   |nil=>exact λm=>⟨Nat.le_refl _,λx hx=>nomatch hx⟩
   |cons a l ih =>
    intro m;have:=ih (m+(wd a).length);refine⟨Nat.le_trans (by omega) this.1,λx hx=>?_⟩;rcases List.mem_cons.1 hx with rfl|hx
    .exact Nat.le_trans (by omega) this.1
    .exact this.2 x hx
  have:=(key (dens A) 0).2 x hx;omega) (dens A).length (Nat.le_refl _)).2.2 i (by rw[dens_len];exact h)
 rw[List.take_of_length_le (Nat.le_refl _),dens_get h]at this;exact this
theorem cden_len {n k:Nat}{A:List Rat}(h:QB n k A):(wd (cden A)).length<=n*k+1:=by
 have:=(lcmL_facts (dens A) k dens_ne h.dens (dens A).length (Nat.le_refl _)).2.1;rw[List.take_of_length_le (Nat.le_refl _),dens_len]at this;have h2:=Nat.mul_le_mul_right k h.1;show (wd (lcmL (dens A))).length<=_;omega
theorem cf_clr (A:List Rat)(i:Nat):(cf (clr A) i:Rat)=cfq A i*(cden A:Rat):=by
 by_cases h:i<A.length
 .rw[clr_get h];obtain⟨m,hm⟩:=cden_dvd h;have hd:((cfq A i).den:Int)≠0:=by have:=(cfq A i).den_nz;omega
  have e:(cden A:Int)/((cfq A i).den:Int)=(m:Int):=by
   rw[hm,Int.natCast_mul,Int.mul_ediv_cancel_left _ hd]
  rw[e,Rat.intCast_mul,Rat.intCast_natCast,hm,Rat.natCast_mul];have h1:cfq A i=((cfq A i).num:Rat)/((cfq A i).den:Rat):=by rw[<-Rat.mkRat_eq_div,Rat.mkRat_self]
  have h2:=natr_ne (cfq A i).den_nz;generalize (cfq A i).num=u at *;generalize (cfq A i).den=v at *;rw[h1]
  grind
 .rw[cf_ge (by rw[clr_len];omega),cfq_ge (by omega),Rat.intCast_zero,Rat.zero_mul]
theorem zl_clr {n k:Nat}{A:List Rat}(h:QB n k A)(i:Nat):zl (cf (clr A) i)<=k+n*k+1:=by
 by_cases hi:i<A.length
 .rw[clr_get hi];have h1:=zl_mul (cfq A i).num ((cden A:Int)/((cfq A i).den:Int));have h2:=zl_div (a:=(cden A:Int)) (b:=((cfq A i).den:Int)) (Int.natCast_dvd_natCast.mpr (cden_dvd hi));have h3:=cden_len h;have h4:=(qz_parts (cfq A i)).1;have h5:qz (cfq A i)<=k:=by rw[cfq_lt hi];exact h.2 _ (List.getElem_mem hi)
  rw[zl_nat]at h2;omega
 .rw[cf_ge (by rw[clr_len];omega),zl_zero];omega
theorem QB.clr {n k:Nat}{A:List Rat}(h:QB n k A):PB n (k+n*k+1) (clr A):=.of (by rw[clr_len];exact h.1) (zl_clr h)
def divl (L:List Int)(D:Int):List Rat:=L.map λc:Int=>(c:Rat)/(D:Rat)
theorem divl_len (L:List Int)(D:Int):(divl L D).length=L.length:=List.length_map _
theorem zero_divr (x:Rat):(0:Rat)/x=0:=by rw[Rat.div_def,Rat.zero_mul]
theorem cfq_divl (L:List Int)(D:Int)(k:Nat):cfq (divl L D) k=(cf L k:Rat)/(D:Rat):=by
 unfold divl cfq cf;rw[List.getD_eq_getElem?_getD,List.getD_eq_getElem?_getD,List.getElem?_map];cases L[k]? with
 |none=>simp only[Option.map_none,Option.getD_none];rw[Rat.intCast_zero,zero_divr]
 |some x=>rfl
theorem qz_divn {c:Int}{d M:Nat}(hd:d≠0)(hc:zl c<=M)(hw:(wd d).length<=M):qz ((c:Rat)/(((d:Nat):Int):Rat))<=M:=by
 rw[Rat.intCast_natCast,<-Rat.mkRat_eq_div];exact qz_mk hd hc hw
theorem QB.divl {n M:Nat}{L:List Int}{d:Nat}(h:PB n M L)(hd:d≠0)(hw:(wd d).length<=M):QB n M (divl L (d:Int)):=.of (by rw[divl_len];exact h.1) λi=>by
 rw[cfq_divl];exact qz_divn hd (h.cf i) hw
theorem cv_cast (g:Nat->Int):∀(p:List Int) (k:Nat),((cv p g k:Int):Rat)=cvq (qp p) (λj=>(g j:Rat)) k
 |[],k=>by simp only[cv,qp,List.map_nil,cvq];rfl
 |x::xs,0=>by
  have e:qp (x::xs)=(x:Rat)::qp xs:=rfl;rw[e];simp only[cv,cvq];rw[Int.add_zero,Rat.intCast_mul,Rat.add_zero]
 |x::xs,k+1=>by
  have e:qp (x::xs)=(x:Rat)::qp xs:=rfl;have ih:=cv_cast g xs k;rw[e];simp only[cv,cvq];rw[Rat.intCast_add,Rat.intCast_mul,ih]
theorem cfq_qp_pmul (x y:List Int)(k:Nat):cfq (qp (pmul x y)) k=cfq (mulq (qp x) (qp y)) k:=by
 rw[cfq_qp,cf_pmul,cfq_mulq,cv_cast];exact cvq_congr _ _ λj=>(cfq_qp y j).symm
theorem pq_clr (A:List Rat):pq (qp (clr A))=PQ.C (cden A:Rat)*pq A:=PQ.ext λk=>by
 rw[PQ.C_mul_c,pq_c,pq_c,cfq_qp,cf_clr,Rat.mul_comm]
theorem cfq_clear_mul (A B:List Rat)(k:Nat):cfq (divl (trimz (pmul (clr A) (clr B))) ((cden A*cden B:Nat):Int)) k=cfq (mulq A B) k:=by
 have h1:=natr_ne (cden_ne A);have h2:=natr_ne (cden_ne B);rw[cfq_divl,cf_trimz,<-cfq_qp,cfq_qp_pmul];have e:pq (mulq (qp (clr A)) (qp (clr B)))=PQ.C ((cden A:Rat)*(cden B:Rat))*pq (mulq A B):=by
  rw[pq_mulq,pq_clr,pq_clr,PQ.C_mul,pq_mulq]
  ac_rfl
 have e2:=congrArg (λf=>PQ.c f k) e;simp only[PQ.C_mul_c,pq_c]at e2;rw[e2,Rat.intCast_natCast,Rat.natCast_mul]
 grind
theorem mulq_def (A B:List Rat):mulq A B=(List.range (A.length+B.length)).map (cvq A (cfq B)):=rfl
theorem QB.mulq {n k M:Nat}{A B:List Rat}(hA:QB n k A)(hB:QB n k B)(hn:n<W)(hM:n*k+k+1<=M)(hk:1<=k):QB (2*n) (2*M+1) (mulq A B):=by
 have pA:=hA.clr.mono (n':=n) (k':=M) (Nat.le_refl _) (by omega);have pB:=hB.clr.mono (n':=n) (k':=M) (Nat.le_refl _) (by omega);have pm:=(pA.pmul pB hn).trimz;have c1:=cden_len hA;have c2:=cden_len hB;have hw:(wd (cden A*cden B)).length<=M+M:=wd_len2 (by omega) (by omega);have q:=QB.divl (pm.mono (n':=n+n) (k':=M+M+1) (Nat.le_refl _) (by omega)) (Nat.mul_ne_zero (cden_ne A) (cden_ne B)) (by omega);refine .of (by simp only[mulq_def,List.length_map,List.length_range];have:=hA.1;have:=hB.1;omega) λi=>?_;rw[<-cfq_clear_mul];have:=q.cz (by omega) i;omega
def sfar (q:List Int)(b:Bool):Int:=if b=false/\((tz q:Int)-1).tmod 2=1 then -(lc q).sign else (lc q).sign
theorem sfar_zero {q:List Int}(b:Bool)(h:tz q=0):sfar q b=0:=by
 have:lc q=0:=by unfold lc;exact cf_ge_tz q (by omega)
 unfold sfar;rw[this,Int.sign_zero];simp
theorem sign_cases (x:Int):(x<0/\x.sign = -1)\/(x=0/\x.sign=0)\/(0<x/\x.sign=1):=by
 rcases Int.lt_trichotomy x 0 with hx|hx|hx
 .exact .inl ⟨hx,Int.sign_eq_neg_one_of_neg hx⟩
 .exact .inr (.inl ⟨hx,by rw[hx];rfl⟩)
 .exact .inr (.inr ⟨hx,Int.sign_eq_one_of_pos hx⟩)
theorem pm_pow {s:Rat}(hs:s=1\/s = -1):∀k:Nat,s^k=1\/s^k = -1
 |0=>.inl (Rat.pow_zero _)
 |k+1=>by
  rw[Rat.pow_succ];rcases pm_pow hs k with h|h<;>rcases hs with e|e<;>rw[h,e]
  .left;grind
  .right;grind
  .right;grind
  .left;grind
theorem one_pow':∀k:Nat,(1:Rat)^k=1
 |0=>Rat.pow_zero _
 |k+1=>by rw[Rat.pow_succ,one_pow' k];grind
theorem neg_one_par:∀k:Nat,(k%2=0->(-1:Rat)^k=1)/\(k%2=1->(-1:Rat)^k = -1)
 |0=>⟨λ_=>Rat.pow_zero _,λh=>by omega⟩
 |k+1=>by
  obtain⟨a,b⟩:=neg_one_par k;rw[Rat.pow_succ];exact⟨λh=>by rw[b (by omega)];grind,λh=>by rw[a (by omega)];grind⟩
theorem neg_one_odd (k:Nat)(h:k%2=1):(-1:Rat)^k = -1:=(neg_one_par k).2 h
theorem neg_one_even (k:Nat)(h:k%2=0):(-1:Rat)^k=1:=(neg_one_par k).1 h
theorem tz_cons (c:Int){q:List Int}(h:tz q≠0):tz (c::q)=tz q+1/\lc (c::q)=lc q:=by
 have h1:tz (c::q)=tz q+1:=by
  refine Nat.le_antisymm (tz_le_of λk hk=>?_) ?_
  .match k,hk with
   |k+1,hk=>exact cf_ge_tz q (by omega)
  .refine Nat.le_of_not_lt λhlt=>?_;have:=cf_tz_pred h;have h2:cf (c::q) (tz q)=0:=cf_ge_tz _ (by omega)
   match hq:tz q,h with
   |k+1,_ =>
    rw[hq]at this h2;exact this h2
 refine⟨h1,?_⟩;unfold lc;rw[h1]
 match hq:tz q,h with
 |k+1,_=>rfl
theorem far_core {s:Rat}(hs:s=1\/s = -1):∀p:List Int,tz p≠0->∃M η:Rat,0<M/\0<η/\∀x,M<=x->η<=((lc p).sign:Int)*s^(tz p-1)*er p (s*x)
 |[],h=>(h rfl).elim
 |c::q,h=>by
  by_cases hq:tz q=0
  .have hz:∀k,cf q k=0:=tz_zero_iff.mp hq;have h1:tz (c::q)<=1:=tz_le_of λk hk=>by
    match k,hk with
    |k+1,_=>exact hz k
   have e1:tz (c::q)=1:=by omega
   have e2:lc (c::q)=c:=by rw[lc,e1];rfl
   have hc:c≠0:=by have:=lc_ne0 h;rwa [e2]at this
   refine⟨1,1,by grind,by grind,λx _=>?_⟩;rw[e1,e2,Nat.sub_self,Rat.pow_zero,er,er_zero hz];have:((c.sign:Int):Rat)*(c:Rat)=((c.sign*c:Int):Rat):=by rw[Rat.intCast_mul]
   have h3:(1:Int)<=c.sign*c:=by rw[Int.sign_mul_self];omega
   have h4:(1:Rat)<=((c.sign*c:Int):Rat):=by exact_mod_cast h3
   grind
  .obtain⟨e1,e2⟩:=tz_cons c hq;obtain⟨M,η,hM,hη,hb⟩:=far_core hs q hq;have hone:η*η⁻¹=1:=Rat.mul_inv_cancel _ (by grind);have hi:0<η⁻¹:=Rat.inv_pos.2 hη;have cn:(0:Rat)<=((c.natAbs:Nat):Rat):=Rat.natCast_nonneg;obtain⟨N,n1,n2⟩:∃N:Rat,M<=N/\((c.natAbs:Nat)+1:Rat)*η⁻¹<=N:=by
    rcases Rat.le_total (a:=M) (b:=((c.natAbs:Nat)+1:Rat)*η⁻¹) with h|h
    .exact⟨_,h,Rat.le_refl⟩
    .exact⟨M,Rat.le_refl,h⟩
   refine⟨N,1,by grind,by grind,λx hx=>?_⟩;have k1:=hb x (by grind);rw[e1,e2];obtain⟨k,hk⟩:∃k,tz q=k+1:=⟨tz q-1,by omega⟩;rw[hk]at k1 ⊢;rw[Nat.add_sub_cancel]at k1 ⊢;rw[er,Rat.pow_succ];have hss:s*s=1:=by rcases hs with e|e<;>rw[e]<;>grind
   have split:(((lc q).sign:Int):Rat)*(s^k*s)*((c:Rat)+s*x*er q (s*x))=(((lc q).sign:Int):Rat)*(s^k*s)*c+s*s*(x*((((lc q).sign:Int):Rat)*s^k*er q (s*x))):=by grind
   rw[split,hss,Rat.one_mul];have b1:(((lc q).sign:Int):Rat)*(s^k*s)=1\/(((lc q).sign:Int):Rat)*(s^k*s) = -1:=by
    have sg:(((lc q).sign:Int):Rat)=1\/(((lc q).sign:Int):Rat) = -1:=by
     have:=lc_ne0 hq;rcases sign_cases (lc q) with ⟨_,e⟩|⟨e,_⟩|⟨_,e⟩
     .rw[e];right;rfl
     .exact(this e).elim
     .rw[e];left;rfl
    have pw:=pm_pow hs (k+1);rw[Rat.pow_succ]at pw;rcases sg with a|a<;>rcases pw with b|b<;>rw[a,b]
    .left;grind
    .right;grind
    .right;grind
    .left;grind
   have cb : -((c.natAbs:Nat):Rat)<=(c:Rat)/\(c:Rat)<=((c.natAbs:Nat):Rat):=by
    constructor
    .have : -((c.natAbs:Nat):Int)<=c:=by omega
     have h5:((-((c.natAbs:Nat):Int):Int):Rat)<=(c:Rat):=by exact_mod_cast this
     rw[Rat.intCast_neg,Rat.intCast_natCast]at h5;exact h5
    .have:c<=((c.natAbs:Nat):Int):=by omega
     exact_mod_cast this
   have x0:0<=x:=by grind
   have g1:x*η<=x*((((lc q).sign:Int):Rat)*s^k*er q (s*x)):=by
    have:=Rat.mul_nonneg x0 (show 0<=(((lc q).sign:Int):Rat)*s^k*er q (s*x)-η by grind)
    grind
   have g2:((c.natAbs:Nat):Rat)+1<=x*η:=by
    have:=Rat.mul_nonneg (show 0<=x-((c.natAbs:Nat)+1:Rat)*η⁻¹ by grind) (Rat.le_of_lt hη);have:((c.natAbs:Nat)+1:Rat)*η⁻¹*η=((c.natAbs:Nat):Rat)+1:=by rw[Rat.mul_assoc,Rat.mul_comm η⁻¹,hone,Rat.mul_one]
    grind
   rcases b1 with b|b<;>rw[b]<;>grind
theorem sgq_of {σ:Int}{v:Rat}(hσ:σ=1\/σ = -1)(h:0<(σ:Rat)*v):sgq v=σ:=by
 rcases hσ with e|e
 .subst e;exact sgq_pos (by grind)
 .subst e;have:((-1:Int):Rat) = -1:=rfl;rw[this]at h;exact sgq_neg (by grind)
theorem far_one (p:List Int):∃N:Rat,0<N/\∀M,N<=M->sfar p true=sgq (er p M)/\sfar p false=sgq (er p (-M)):=by
 by_cases h:tz p=0
 .refine⟨1,by grind,λM _=>?_⟩;rw[sfar_zero _ h,sfar_zero _ h,er_zero (tz_zero_iff.mp h),er_zero (tz_zero_iff.mp h)];exact⟨rfl,rfl⟩
 .obtain⟨M1,η1,a1,a2,a3⟩:=far_core (s:=1) (.inl rfl) p h;obtain⟨M2,η2,b1,b2,b3⟩:=far_core (s:=-1) (.inr rfl) p h;have hl:=lc_ne0 h;have sg:(lc p).sign=1\/(lc p).sign = -1:=by
   rcases sign_cases (lc p) with ⟨_,e⟩|⟨e,_⟩|⟨_,e⟩
   .exact .inr e
   .exact(hl e).elim
   .exact .inl e
  refine⟨M1+M2,by grind,λM hM=>⟨?_,?_⟩⟩
  .have:=a3 M (by grind);rw[one_pow',Rat.mul_one,Rat.one_mul]at this;rw[sfar,if_neg (by simp)];exact(sgq_of sg (by grind)).symm
  .have k:=b3 M (by grind);have tm:((tz p:Int)-1).tmod 2=((tz p:Int)-1)%2:=Int.tmod_eq_emod_of_nonneg (by omega);rw[show (-1:Rat)*M = -M by grind]at k;by_cases hpar:((tz p:Int)-1).tmod 2=1
   .rw[sfar,if_pos ⟨rfl,hpar⟩];have e:((-1:Rat)^(tz p-1)) = -1:=neg_one_odd _ (by omega);rw[e]at k;refine(sgq_of ?_ ?_).symm
    .rcases sg with e|e<;>rw[e]
     .exact .inr rfl
     .exact .inl rfl
    .rw[Rat.intCast_neg];grind
   .rw[sfar,if_neg (λh=>hpar h.2)];have e:((-1:Rat)^(tz p-1))=1:=neg_one_even _ (by omega);rw[e]at k;exact(sgq_of sg (by grind)).symm
theorem er_pderiv (c:Int)(p:List Int)(x:Rat):er (pderiv (c::p)) x=er p x+x*er (pderiv p) x:=by
 rw[er_ext (p:=pderiv (c::p)) (q:=padd p (0::pderiv p)) x λk=>by
  rw[cf_pderiv,cf_padd];cases k with
  |zero=>show cf p 0*((0+1:Nat):Int)=cf p 0+0;simp
  |succ k =>
   show cf p (k+1)*((k+1+1:Nat):Int)=cf p (k+1)+cf (pderiv p) k;rw[cf_pderiv,show ((k+1+1:Nat):Int)=((k+1:Nat):Int)+1 by omega,Int.mul_add,Int.mul_one,Int.add_comm]]
 rw[er_padd];simp only[er,Rat.intCast_zero]
 grind
theorem er_at (r:Rat):∀p:List Int,∃B B':Rat->Rat,LB B/\LB B'/\(∀x,er p x=er p r+(x-r)*B x)/\∀x,er (pderiv p) x=B x+(x-r)*B' x
 |[]=>⟨λ_=>0,λ_=>0,.const 0,.const 0,λx=>by simp only[er];grind,λx=>by show (0:Rat)=_;grind⟩
 |c::p=>by
  obtain⟨B,B',b1,b2,b3,b4⟩:=er_at r p;refine⟨λx=>er p r+x*B x,λx=>B x+x*B' x,(LB.const _).add (LB.id.mul b1),b1.add (LB.id.mul b2),λx=>?_,λx=>?_⟩
  .rw[er,er,b3 x];grind
  .rw[er_pderiv,b3 x,b4 x];grind
theorem sfar_ne {p:List Int}(h:tz p≠0)(b:Bool):sfar p b≠0:=by
 have:=lc_ne0 h;rcases sign_cases (lc p) with ⟨_,e⟩|⟨e,_⟩|⟨_,e⟩
 .unfold sfar;rw[e];split<;>decide
 .exact(this e).elim
 .unfold sfar;rw[e];split<;>decide
theorem no_roots {P:List Int}{rs:List Rat}(hR:Root2 P rs)(h:tz (pderiv P)=0):rs=[]:=by
 match rs,hR with
 |[],_=>rfl
 |r::rs,hR =>
  exfalso
  obtain⟨m,hm,A,A',a1,a2,a3,a4⟩:=hR.fac r (by simp);have hm':(0:Rat)<m:=by exact_mod_cast hm
  have lx:LB λx=>x-r:=LB.id.sub (LB.const r)
  have e:(λx=>(m:Rat)*A x+(x-r)*A' x) r=(λ_=>(0:Rat)) r:=LB.at_point ((a1.smul (m:Rat)).add (lx.mul a2)) (LB.const 0) (r:=r) λx hx=>by
   have h2:=(a4 x).2;rw[er_zero (tz_zero_iff.mp h)]at h2;exact cancel_l (qpow_ne (show x-r≠0 by grind) m) (by grind)
  have e:(m:Rat)*A r+(r-r)*A' r=0:=e;rcases nz_cases a3 with v|v
  .have:=Rat.mul_pos hm' v;grind
  .have:=Rat.mul_pos hm' (show 0 < -A r by grind);grind
structure ChF (P:List Int) (n:Nat) (rs:List Rat) (f g:Rat->Rat) (l:List (Rat->Rat)) (k k':Rat):Prop where
 ch:Ch (f::g::l)
 k0:0<k
 k0':0<k'
 val:∀x,(srl n (spos P) (spos (pderiv P))).map (λp=>er p x)=(f::g::l).map λh=>er (sla n (spos P) (spos (pderiv P))) x*h x
 e1:∀x,er P x=k*(er (sla n (spos P) (spos (pderiv P))) x*f x)
 e2:∀x,er (pderiv P) x=k'*(er (sla n (spos P) (spos (pderiv P))) x*g x)
 rts:∀M,Rts f g rs M
 gne:∀r∈rs,g r≠0
theorem cont_pos {P:List Int}(h:tz P≠0):(0:Rat)<((((cont P).natAbs:Nat):Int):Rat):=by
 have:cont P≠0:=λh0=>h (cont_zero h0)
 have:(0:Int)<((cont P).natAbs:Int):=by omega
 exact_mod_cast this
theorem chf_of {P:List Int}{n:Nat}{rs:List Rat}(hR:Root2 P rs)(h:tz P≠0)(hd:tz (pderiv P)≠0)(hn:tz (pderiv P)<=n):∃f g l k k',ChF P n rs f g l k k':=by
 obtain⟨f,l,hc,hm,hx,hz⟩:=srl_fun n (spos P) (spos (pderiv P)) (by rw[tz_spos];exact hn);obtain⟨g,l',rfl,hy⟩:=hz (by rw[tz_spos];exact hd);have e1:∀x,er P x=((((cont P).natAbs:Nat):Int):Rat)*(er (sla n (spos P) (spos (pderiv P))) x*f x):=λx=>by rw[er_C (ps_spos P) x,hx]
 have e2:∀x,er (pderiv P) x=((((cont (pderiv P)).natAbs:Nat):Int):Rat)*(er (sla n (spos P) (spos (pderiv P))) x*g x):=λx=>by rw[er_C (ps_spos (pderiv P)) x,hy]
 have hr:=λM=>rts_of hR (lb_er _) (cont_pos h) (cont_pos hd) e1 e2 hc M
 exact⟨f,g,l',_,_,hc,cont_pos h,cont_pos hd,hm,e1,e2,λM=>(hr M).1,(hr 0).2⟩
structure Simp1 (F:List Int) (rs:List Rat):Prop where
 root:Root2 F rs
 one:∀r∈rs,Fac F r 1
theorem freed_of {P S:List Int}{n:Nat}{rs:List Rat}(hR:Root2 P rs)(h:tz P≠0)(hn:tz (pderiv P)<=n){c:Int}(hc:c≠0)(e:ps S*ps (sla n (spos P) (spos (pderiv P)))=PS.C c*ps P):Simp1 (spos S) rs:=by
 have eS:=er_C (ps_spos S);have eP:∀x,(c:Rat)*er P x=er S x*er (sla n (spos P) (spos (pderiv P))) x:=λx=>by
  rw[<-er_pmul];exact(er_C (p:=pmul S _) (by rw[ps_pmul];exact e) x).symm
 have c0:(c:Rat)≠0:=by exact_mod_cast hc
 by_cases hd:tz (pderiv P)=0
 .have hz:=no_roots hR hd;subst hz;refine⟨⟨hR.nd,λr hr=>(nomatch hr),λs t hst _=>?_⟩,λr hr=>(nomatch hr)⟩;have b:=hR.off s t hst λr hr=>nomatch hr
  have b2:BA (λx=>(((((cont S).natAbs:Nat):Int):Rat)*er (sla n (spos P) (spos (pderiv P))) x*(c:Rat)⁻¹)*er (spos S) x) s t:=by
   obtain⟨d,hd,hb⟩:=b;refine⟨d,hd,λx a1 a2=>?_⟩;have:=hb x a1 a2;have k1:er P x=((((cont S).natAbs:Nat):Int):Rat)*er (sla n (spos P) (spos (pderiv P))) x*(c:Rat)⁻¹*er (spos S) x:=by
    refine cancel_l c0 ?_;rw[eP,eS];have:(c:Rat)*(c:Rat)⁻¹=1:=Rat.mul_inv_cancel _ c0
    grind
   rw[k1]at this;exact this
  exact b2.of_mul (((lb_er _).smul _).mul (LB.const _))
 .obtain⟨f,g,l,k,k',F⟩:=chf_of hR h hd hn;generalize hu:er (sla n (spos P) (spos (pderiv P)))=u at *;have lu:LB u:=by rw[<-hu];exact lb_er _
  have lf:=F.ch.lb;have lg:LB g:=by cases F.ch with|two _ hg=>exact(LB.const 1).congr hg|more _ _ _ _ _ _ t=>exact t.lb
  have F1:∀x,er P x=k*(u x*f x):=λx=>by rw[<-hu];exact F.e1 x
  have F2:∀x,er (pderiv P) x=k'*(u x*g x):=λx=>by rw[<-hu];exact F.e2 x
  have k0:=F.k0
  -- S is a multiple of f
  have same:∀x,er S x=c*(k*f x):=by
   intro r;have lh:LB λx=>er S x-c*(k*f x):=(lb_er S).sub ((lf.smul k).smul (c:Rat))
   have hz:∀x,u x*(er S x-c*(k*f x))=0:=λx=>by
    have:=eP x;rw[F1]at this
    grind
   by_cases h0:er S r-c*(k*f r)=0
   .grind
   .exfalso
    obtain⟨M,m1,m2,m3,m4⟩:=within r (r+1);have key:∀d:Rat,0<d->Big d (er S r-c*(k*f r))->False:=λd hd hb=>by
     obtain⟨η,h1,near⟩:=cs_of lh M hd;obtain⟨ga,g1,gap⟩:=gap_of (rs.map λr'=>r'-r);obtain⟨y,y0,y1,y2,y3⟩:∃y:Rat,0<y/\y<=η/\y<=ga/\y<=1:=by
      rcases Rat.le_total (a:=η) (b:=ga) with h|h
      .rcases Rat.le_total (a:=η) (b:=1) with h'|h'
       .exact⟨η,h1,Rat.le_refl,h,h'⟩
       .exact⟨1,by grind,h',by grind,Rat.le_refl⟩
      .rcases Rat.le_total (a:=ga) (b:=1) with h'|h'
       .exact⟨ga,g1,h,Rat.le_refl,h'⟩
       .exact⟨1,by grind,by grind,h',Rat.le_refl⟩
     have this:0<(er S r-c*(k*f r))*(er S (r+y)-c*(k*f (r+y))):=near r (r+y) m1 (by grind) (by grind) (by grind) hb (r+y) (by grind) Rat.le_refl;have hn:er S (r+y)-c*(k*f (r+y))≠0:=λe=>by rw[e,Rat.mul_zero]at this;grind
     have hu0:u (r+y)=0:=cancel_l hn (by have:=hz (r+y);grind);obtain⟨d',hd',hb'⟩:=hR.off (r+y) (r+y) Rat.le_refl λr' hr' hh=>by
      have:=gap (r'-r) (List.mem_map.2 ⟨r',hr',rfl⟩) (by grind)
      grind
     have:=hb' (r+y) Rat.le_refl Rat.le_refl;rw[F1,hu0,Rat.zero_mul,Rat.mul_zero]at this;rcases this with h|h<;>grind
    rcases nz_cases h0 with v|v
    .exact key _ v (.inl Rat.le_refl)
    .exact key (-(er S r-c*(k*f r))) (by grind) (.inr (by grind))
  have hS:tz S≠0:=λhS=>by
   obtain⟨N,n1,n2⟩:=far_one P;have p:=(n2 N Rat.le_refl).1;have:=same N;rw[er_zero (tz_zero_iff.mp hS)]at this;have hf:f N=0:=by
    refine cancel_l (a:=c*k) (λe=>?_) (by grind);rcases nz_cases c0 with v|v
    .have:=Rat.mul_pos v k0;grind
    .have:=Rat.mul_pos (show 0 < -(c:Rat) by grind) k0;grind
   rw[F1,hf,Rat.mul_zero,Rat.mul_zero]at p;exact sfar_ne h _ (p.trans sgq_zero)
  have q0:=cont_pos hS;generalize hq:((((cont S).natAbs:Nat):Int):Rat)=q at *;have hqi:q*q⁻¹=1:=Rat.mul_inv_cancel _ (by grind);have hci:(c:Rat)*(c:Rat)⁻¹=1:=Rat.mul_inv_cancel _ c0;have hki:k*k⁻¹=1:=Rat.mul_inv_cancel _ (by grind);have fF:∀x,f x=(k⁻¹*(c:Rat)⁻¹*q)*er (spos S) x:=λx=>by
   have h1:=same x;rw[eS]at h1;refine cancel_l (a:=(c:Rat)) c0 (cancel_l (a:=k) (by grind) ?_)
   grind
  have ff:∀r∈rs,Fac (spos S) r 1:=λr hr=>by
   obtain⟨B,B',b1,b2,b3,b4⟩:=er_at r (spos S);have z0:er (spos S) r=0:=by
    have h1:=(F.rts 0).zero r hr;rw[fF]at h1;refine cancel_l (a:=k⁻¹*(c:Rat)⁻¹*q) (λe=>?_) (by grind);have:k*(c:Rat)*(k⁻¹*(c:Rat)⁻¹*q)=q:=by grind
    rw[e,Rat.mul_zero]at this
    grind
   obtain⟨m,hm,hF⟩:=hR.fac r hr;obtain⟨A,A',a1,a2,a3,a4,a5⟩:=cross hm hF lf lg F.k0 F.k0' F1 F2;have hm':(0:Rat)<m:=by exact_mod_cast hm
   have lx:LB λx=>x-r:=LB.id.sub (LB.const r)
   have at_:(λx=>k'*(A x*g x)) r=(λx=>k*(m*A x+(x-r)*A' x)*((k⁻¹*(c:Rat)⁻¹*q)*B x)) r:=LB.at_point ((a1.mul lg).smul k') ((((a1.smul (m:Rat)).add (lx.mul a2)).smul k).mul (b1.smul _)) λx hx=>by
    have h5:=a5 x;rw[fF,b3 x,z0]at h5;exact cancel_l (show x-r≠0 by grind) (by grind)
   have at_:k'*(A r*g r)=k*(m*A r+(r-r)*A' r)*((k⁻¹*(c:Rat)⁻¹*q)*B r):=at_;refine⟨B,B',b1,b2,λe=>?_,λx=>?_⟩
   .rw[e]at at_;have hg:=F.gne r hr;have k0':=F.k0';have:A r*g r=0:=cancel_l (a:=k') (by grind) (by grind);have:g r=0:=cancel_l a3 (by grind);exact hg this
   .rw[b3 x,z0,b4 x,Rat.pow_succ,Rat.pow_zero];have:((1:Nat):Rat)=1:=rfl;rw[this];constructor<;>grind
  refine⟨⟨hR.nd,λr hr=>⟨1,by omega,ff r hr⟩,λs t hst ho=>?_⟩,ff⟩;have b:=hR.off s t hst ho;have b2:BA (λx=>(k*u x*(k⁻¹*(c:Rat)⁻¹*q))*er (spos S) x) s t:=by
   obtain⟨d,hd,hb⟩:=b;refine⟨d,hd,λx a1 a2=>?_⟩;have:=hb x a1 a2;rw[F1,fF]at this;have e:k*u x*(k⁻¹*(c:Rat)⁻¹*q)*er (spos S) x=k*(u x*(k⁻¹*(c:Rat)⁻¹*q*er (spos S) x)):=by grind
   show Big d (k*u x*(k⁻¹*(c:Rat)⁻¹*q)*er (spos S) x);rw[e];exact this
  exact b2.of_mul ((lu.smul k).mul (LB.const _))
structure RootP (P:List Int) (S:Rat->Prop):Prop where
 fac:∀r,S r->∃m,0<m/\Fac P r m
 off:∀s t,s<=t->(∀r,S r->¬(s<=r/\r<=t))->BA (er P) s t
theorem RootP.two {P:List Int}{rs:List Rat}(h:RootP P (·∈rs))(hn:rs.Nodup):Root2 P rs:=⟨hn,h.fac,h.off⟩
theorem RootP.congr {P:List Int}{S T:Rat->Prop}(h:RootP P S)(e:∀r,S r↔T r):RootP P T:=by
 have:S=T:=funext λr=>propext (e r)
 rwa [<-this]
theorem fac_none {P:List Int}{r:Rat}(h:er P r≠0):Fac P r 0:=⟨er P,er (pderiv P),lb_er _,lb_er _,h,λx=>by
 rw[Rat.pow_zero];have:((0:Nat):Rat)=0:=rfl;rw[this];constructor<;>grind⟩
theorem RootP.none {P:List Int}{S:Rat->Prop}(h:RootP P S){r:Rat}(hr:¬S r):Fac P r 0:=fac_none λe=>by
 obtain⟨d,hd,hb⟩:=h.off r r Rat.le_refl λr' hr' hh=>hr ((show r'=r by grind)▸hr')
 have:=hb r Rat.le_refl Rat.le_refl;rw[e]at this;rcases this with h|h<;>grind
theorem RootP.any {P:List Int}{S:Rat->Prop}(h:RootP P S)(r:Rat):∃m,(S r->0<m)/\Fac P r m:=by
 by_cases hr:S r
 .obtain⟨m,h1,h2⟩:=h.fac r hr;exact⟨m,λ_=>h1,h2⟩
 .exact⟨0,λh=>(hr h).elim,h.none hr⟩
theorem ba_congr {f g:Rat->Rat}{s t:Rat}(h:BA f s t)(e:∀x,g x=f x):BA g s t:=by
 have:g=f:=funext e;rwa [this]
theorem RootP.mul {P Q:List Int}{S T:Rat->Prop}(hP:RootP P S)(hQ:RootP Q T):RootP (pmul P Q) λr=>S r\/T r:=by
 refine⟨λr hr=>?_,λs t hst h=>?_⟩
 .obtain⟨m,m1,m2⟩:=hP.any r;obtain⟨k,k1,k2⟩:=hQ.any r;refine⟨m+k,?_,Fac.mul (ps_pmul P Q) m2 k2⟩;rcases hr with h|h
  .have:=m1 h;omega
  .have:=k1 h;omega
 .exact ba_congr ((hP.off s t hst λr hr=>h r (.inl hr)).mul (hQ.off s t hst λr hr=>h r (.inr hr))) λx=>er_pmul x P Q
theorem rootp_const {c:Int}(hc:c≠0):RootP [c] λ_=>False:=by
 refine⟨λr h=>h.elim,λs t _ _=>?_⟩;have e:∀x,er [c] x=c:=λx=>by simp only[er];grind
 have h0:(c:Rat)≠0:=by exact_mod_cast hc
 rcases nz_cases h0 with h|h
 .exact⟨c,h,λx _ _=>.inl (by rw[e];exact Rat.le_refl)⟩
 .exact⟨-c,by grind,λx _ _=>.inr (by rw[e];grind)⟩
theorem er_lin (n d:Int)(x:Rat):er [-n,d] x=d*x-n:=by
 simp only[er];rw[Rat.intCast_neg];grind
theorem rootp_lin {n d:Int}(hd:0<d):RootP [-n,d] λr=>r=(n:Rat)/(d:Rat):=by
 have hd':(0:Rat)<d:=by exact_mod_cast hd
 have hr:(d:Rat)*((n:Rat)/(d:Rat))=n:=by rw[Rat.mul_comm];exact Rat.div_mul_cancel (by grind)
 generalize (n:Rat)/(d:Rat)=r at hr;have e:∀x,er [-n,d] x=d*(x-r):=λx=>by rw[er_lin];grind
 refine⟨λr' h=>?_,λs t hst h=>?_⟩
 .subst h;refine⟨1,by omega,λ_=>d,λ_=>0,.const _,.const _,by grind,λx=>?_⟩;have e2:er (pderiv [-n,d]) x=d:=by
   rw[er_pderiv];show er [d] x+x*er (pderiv [d]) x=d;rw[er_pderiv];show er [d] x+x*(0+x*0)=d;simp only[er];grind
  rw[e,e2,Rat.pow_succ,Rat.pow_zero,show ((1:Nat):Rat)=1 from rfl];constructor<;>grind
 .have:=h r rfl;by_cases h1:s<=r
  .have h2:t<r:=by grind
   refine⟨d*(r-t),Rat.mul_pos hd' (by grind),λx a b=>.inr ?_⟩;rw[e];have:=Rat.mul_nonneg (Rat.le_of_lt hd') (show 0<=t-x by grind)
   grind
  .refine⟨d*(s-r),Rat.mul_pos hd' (by grind),λx a b=>.inl ?_⟩;rw[e];have:=Rat.mul_nonneg (Rat.le_of_lt hd') (show 0<=x-s by grind)
   grind
theorem rootp_quad {a b:Int}(hb:1<=b):RootP [a*a+b,-2*a,1] λ_=>False:=by
 refine⟨λr h=>h.elim,λs t _ _=>⟨1,by grind,λx _ _=>.inl ?_⟩⟩;have e:er [a*a+b,-2*a,1] x=(x-a)*(x-a)+b:=by
  simp only[er];rw[Rat.intCast_add,Rat.intCast_mul,Rat.intCast_mul,show ((-2:Int):Rat) = -2 from rfl,show ((1:Int):Rat)=1 from rfl]
  grind
 have hb':(1:Rat)<=b:=by exact_mod_cast hb
 have:0<=(x-a)*(x-a):=by
  rcases Rat.le_total (a:=0) (b:=x-a) with h|h
  .exact Rat.mul_nonneg h h
  .have:=Rat.mul_nonneg (show 0<=-(x-a) by grind) (show 0<=-(x-a) by grind);grind
 rw[e];grind
def Com (P:List Int)(D:List Int)(n:Nat):Prop:=tz D≠0/\∃E G:List Int,ps P=ps D*ps E/\ps (pderiv P)=ps D*ps G/\tz E<=n+1/\tz E≠0
theorem com_const {c:Int}(hc:c≠0):Com [c] [1] 0:=by
 refine⟨by decide,[c],[],by rw[ps_one,PS.one_mul],?_,tz_le [c],λh=>hc (tz_zero_iff.mp h 0)⟩;rw[ps_one,PS.one_mul];rfl
theorem Com.one {P D Q:List Int}{n k:Nat}(h:Com P D n)(hQ:tz Q<=k+1)(h0:tz Q≠0):Com (pmul P Q) D (n+k):=by
 obtain⟨hD,E,G,e1,e2,e3,e4⟩:=h;have dv:ps (pderiv (pmul P Q))=ps (pderiv P)*ps Q+ps P*ps (pderiv Q):=by
  rw[ps_pderiv,ps_pmul,ps_pderiv,ps_pderiv];exact PS.D_mul _ _
 refine⟨hD,pmul E Q,padd (pmul G Q) (pmul E (pderiv Q)),by rw[ps_pmul,ps_pmul,e1,PS.mul_assoc],?_,?_,?_⟩
 .rw[dv,e1,e2,ps_padd,ps_pmul,ps_pmul,PS.mul_add,PS.mul_assoc,PS.mul_assoc]
 .rw[tz_pmul e4 h0];omega
 .rw[tz_pmul e4 h0];omega
theorem Com.more {P P' D Q:List Int}{n:Nat}(hP:ps P=ps P'*ps Q)(h:Com P D n)(h0:tz Q≠0)(hPQ:∃C,ps P'=ps D*ps C):Com (pmul P Q) (pmul D Q) n:=by
 obtain⟨hD,E,G,e1,e2,e3,e4⟩:=h;obtain⟨C,e5⟩:=hPQ;have dv:ps (pderiv (pmul P Q))=ps (pderiv P)*ps Q+ps P*ps (pderiv Q):=by
  rw[ps_pderiv,ps_pmul,ps_pderiv,ps_pderiv];exact PS.D_mul _ _
 refine⟨by rw[tz_pmul hD h0];omega,E,padd G (pmul C (pderiv Q)),?_,?_,e3,e4⟩
 .rw[ps_pmul,ps_pmul,e1,PS.mul_assoc,PS.mul_assoc,PS.mul_comm (ps E)]
 .rw[dv,e2,hP,e5,ps_pmul,ps_padd,ps_pmul,PS.mul_add]
  congr 1
  .rw[PS.mul_assoc,PS.mul_assoc,PS.mul_comm (ps G)]
  .rw[PS.mul_assoc,PS.mul_assoc,PS.mul_assoc]
   congr 1
   rw[<-PS.mul_assoc,<-PS.mul_assoc,PS.mul_comm (ps C)]
def lmul (P L:List Int):Nat->List Int
 |0=>P
 |m+1=>pmul (lmul P L m) L
theorem com_lmul {P D L:List Int}{n:Nat}(h:Com P D n)(h0:tz L≠0)(hL:tz L<=2)(m:Nat):∃D',Com (lmul P L (m+1)) D' (n+1)/\∃P',ps (lmul P L (m+1))=ps P'*ps L/\∃C,ps P'=ps D'*ps C:=by
 induction m with
 |zero =>
  obtain⟨E,G,e1,-⟩:=h.2;exact⟨D,h.one (k:=1) hL h0,P,ps_pmul _ _,E,e1⟩
 |succ m ih =>
  obtain⟨D',c,P',e,C,e'⟩:=ih;refine⟨pmul D' L,c.more (n:=n+1) e h0 ⟨C,e'⟩,lmul P L (m+1),ps_pmul _ _,C,?_⟩;rw[e,e',ps_pmul,PS.mul_assoc,PS.mul_assoc,PS.mul_comm (ps C)]
theorem rootp_lmul {P L:List Int}{S T:Rat->Prop}(hP:RootP P S)(hL:RootP L T)(m:Nat):RootP (lmul P L (m+1)) λr=>S r\/T r:=by
 induction m with
 |zero=>exact hP.mul hL
 |succ m ih=>exact(ih.mul hL).congr λr=>⟨λh=>h.elim (λh=>h) .inr,.inl⟩
theorem RootP.of_ps {P Q:List Int}{S:Rat->Prop}(h:RootP P S)(e:ps P=ps Q):RootP Q S:=by
 have er_:er P=er Q:=funext λx=>er_of_ps e x
 have de:er (pderiv P)=er (pderiv Q):=funext λx=>er_of_ps (by rw[ps_pderiv,ps_pderiv,e]) x
 refine⟨λr hr=>?_,λs t a b=>?_⟩
 .obtain⟨m,h1,h2⟩:=h.fac r hr;refine⟨m,h1,?_⟩;unfold Fac at *;rw[<-er_,<-de];exact h2
 .rw[<-er_];exact h.off s t a b
theorem Com.of_ps {P Q D:List Int}{n:Nat}(h:Com P D n)(e:ps P=ps Q):Com Q D n:=by
 obtain⟨a,E,G,e1,e2,e3⟩:=h;exact⟨a,E,G,by rw[<-e,e1],by rw[<-e2,ps_pderiv,ps_pderiv,e],e3⟩
theorem pv_cnt {X:List Int}(h:trimz X=X):pv (cn X)=X:=by unfold cn;rw[pv_canon,h]
theorem rp_sb {D k:Nat}{q:List Int}(ht:tz q<=D)(h:SBd k q):RP D k (cn q):=RP.canon (.of (by rw[trimz_len];exact ht) λi=>by rw[cf_trimz];exact h i)
theorem sb_rp {n k:Nat}{p:List RI}(h:RP n k p):SBd k (pv p):=λi=>h.pv.cf i
theorem tz_rp {n k:Nat}{p:List RI}(h:RP n k p):tz (pv p)<=n:=Nat.le_trans (tz_le _) h.pv.1
theorem npr_ps {A B:List Int}(h:ps A=ps B):ps (npr A)=ps (npr B):=(((as_npr A).symm.trans (.of_ps h)).trans (as_npr B)).uniq (nf_npr A) (nf_npr B)
theorem npr_eq {A B:List Int}(h:ps A=ps B):npr A=npr B:=by
 rw[<-npr_trim A,<-npr_trim B];exact trimz_ext (ps_eq (npr_ps h))
theorem pprim_n {a:List RI}{q:List Int}(ha:RP (2^30) (2^35) a)(e:ps (pv a)=ps q):AC Tryz.prog 104 [cw a] none [cp (npr q)]:=by
 have h:=pprim_g ha e;rwa [cp_npr]at h
theorem pdeg_n {a:List RI}{q:List Int}(ha:RP (2^40) (2^40) a)(e:ps (pv a)=ps q):AC Tryz.prog 90 [cw a] none [ci ((tz q:Int)-1)]:=by
 have h:=pdeg_ok a ha;rwa [tz_of_ps e]at h
theorem polys_snoc (L:List (List RI))(x:List RI):polys L++[[.sl (raws x)]]=polys (L++[x]):=by simp[polys]
theorem dq_tz {A B:List Int}(hB:tz B≠0):tz (dq A B)<=dxp A B:=by
 have e:=dres_div A B;by_cases h0:tz (dq A B)=0
 .omega
 have ht:=drem_tz (A:=A) hB;have hm:=tz_pmul h0 hB;refine Nat.le_of_not_lt λhlt=>?_;have hA:tz (pscale (lc B^dxp A B) A)=tz A:=tz_pscale (lcp_ne hB _) A;have e2:ps (padd (pmul (dq A B) B) (dr A B))=ps (pscale (lc B^dxp A B) A):=by rw[ps_padd,ps_pmul,ps_pscale,e]
 have h1:cf (padd (pmul (dq A B) B) (dr A B)) (tz (dq A B)+tz B-2)≠0:=by
  rw[cf_padd,cf_ge_tz (dr A B) (by omega),Int.add_zero];have:=cf_tz_pred (q:=pmul (dq A B) B) (by omega);rwa [hm,show tz (dq A B)+tz B-1-1=tz (dq A B)+tz B-2 by omega]at this
 rw[ps_eq e2]at h1;refine h1 (cf_ge_tz _ ?_);rw[hA];unfold dxp at hlt;omega
def prl:Nat->List Int->List Int->List (List Int)
 |0,X,_=>[X]
 |n+1,X,Y=>if tz Y=0 then [X] else X::prl n Y (npr (dr X Y))
theorem prl_last:∀(n:Nat) (X Y:List Int),∃L,prl n X Y=L++[eu n X Y]
 |0,X,Y=>⟨[],rfl⟩
 |n+1,X,Y=>by
  rw[prl,eu];split
  .exact⟨[],rfl⟩
  .obtain⟨L,e⟩:=prl_last n Y (npr (dr X Y));exact⟨X::L,by rw[e];rfl⟩
theorem prl_len:∀(n:Nat) (X Y:List Int),(prl n X Y).length<=n+1
 |0,X,Y=>by simp[prl]
 |n+1,X,Y=>by
  rw[prl];split
  .simp
  .have:=prl_len n Y (npr (dr X Y));rw[List.length_cons];omega
theorem gcdp_l0 {A B:List Int}(h:tz A=0):ps (npr B)=ps (gcdp A B):=gcdp_eq ((GG.zero h).symm.as (as_npr B) (.refl _) (.refl _)) (nf_npr B)
theorem gcdp_r0 {A B:List Int}(h:tz B=0):ps (npr A)=ps (gcdp A B):=gcdp_eq ((GG.zero h).as (as_npr A) (.refl _) (.refl _)) (nf_npr A)
def dvb (B A:List Int):Bool:=if tz B=0 then decide (tz A=0) else decide (tz (dr A B)=0)
theorem dvb_iff (B A:List Int):dvb B A=true↔Dv B A:=by
 unfold dvb;split
 .rename_i h0;rw[decide_eq_true_iff];refine⟨λh=>.zero B h,λh=>?_⟩;by_cases hA:tz A=0
  .exact hA
  .exact absurd h0 (dv_tz h hA).1
 .rename_i h0;rw[decide_eq_true_iff];exact(dv_dr h0).symm
theorem dvb_congr {A A' B B':List Int}(ha:As A A')(hb:As B B'):dvb B A=dvb B' A':=by
 rw[Bool.eq_iff_iff,dvb_iff,dvb_iff];exact⟨λh=>h.as hb.symm ha,λh=>h.as hb ha.symm⟩
theorem pdivides_ok (p q:List RI)(hp:RP 40 (2^27) p)(hq:RP 40 (2^27) q):AC Tryz.prog 107 [cw p,cw q] none [cb (dvb (pv q) (pv p))]:=by
 have d1:=pdeg_ok p (hp.mono (by omega) (by omega));have d2:=pdeg_ok q (hq.mono (by omega) (by omega));by_cases h0:tz (pv q)=0
 .rw[show dvb (pv q) (pv p)=decide (tz (pv p)=0) by unfold dvb;rw[if_pos h0]];have e:decide ((tz (pv p):Int)-1<0)=decide (tz (pv p)=0):=decide_eq_decide.mpr (by omega);rw[h0]at d2;refine AC.by_walk (rs:=[.tmp 4]) ords Tryz.func107 (by rfl) (by rfl) (by rfl) (by rfl) (by rfl) ?_;simp (disch:=omega) only[wt,seval,reduceCtorEq,Nat.reduceEqDiff,cpoly_len,polys_len];refine call_by (d2) (by rfl) (by simp) ?_;simp (disch:=omega) only[wt,seval,reduceCtorEq,Nat.reduceEqDiff,cpoly_len,polys_len];refine call_by (d1) (by rfl) (by simp) ?_;simp (disch:=omega) only[wt,seval,reduceCtorEq,Nat.reduceEqDiff,cpoly_len,polys_len]
  try exact decide_eq_decide.mpr (by omega)
 have h0':¬(tz (pv q):Int)-1<0:=by omega
 rw[show dvb (pv q) (pv p)=decide (tz (dr (pv p) (pv q))=0) by unfold dvb;rw[if_neg h0]];have rm:=prem_ok p q hp hq h0;have s:=(div_sz h0 (sb_rp hp) (sb_rp hq)).2;have tp:=tz_rp hp;have tq:=tz_rp hq;have t:=drem_tz (A:=pv p) h0;have hdx:dxp (pv p) (pv q)<=41:=by unfold dxp;omega
 have hdm:dxp (pv p) (pv q)*(2^27+1)<=41*(2^27+1):=Nat.mul_le_mul_right _ hdx;have d3:=pdeg_n (a:=cn (dr (pv p) (pv q))) (q:=dr (pv p) (pv q)) ((rp_sb (D:=40) (k:=2^35) (by omega) (s.mono (by omega))).mono (by omega) (by omega)) (ps_cn _);refine AC.by_walk (rs:=[.tmp 4]) ords Tryz.func107 (by rfl) (by rfl) (by rfl) (by rfl) (by rfl) ?_;simp (disch:=omega) only[wt,seval,reduceCtorEq,Nat.reduceEqDiff,cpoly_len,polys_len];refine call_by (d2) (by first|rfl|(simp only[tocvs,tocv,toboxes,tobox,updH_at,Nat.reduceEqDiff,↓reduceIte,h0'];rfl)) (by simp) ?_;simp (disch:=omega) only[wt,seval,reduceCtorEq,Nat.reduceEqDiff,cpoly_len,polys_len,h0'];refine call_by (rm) (by rfl) (by simp) ?_;simp (disch:=omega) only[wt,seval,reduceCtorEq,Nat.reduceEqDiff,cpoly_len,polys_len];refine call_by (d3) (by rfl) (by simp) ?_;simp (disch:=omega) only[wt,seval,reduceCtorEq,Nat.reduceEqDiff,cpoly_len,polys_len]
 try exact decide_eq_decide.mpr (by omega)
theorem pdivides_g {p q:List RI}{A B:List Int}(hp:RP 40 (2^27) p)(hq:RP 40 (2^27) q)(ea:ps (pv p)=ps A)(eb:ps (pv q)=ps B):AC Tryz.prog 107 [cw p,cw q] none [cb (dvb B A)]:=by
 have h:=pdivides_ok p q hp hq;rwa [dvb_congr (A':=A) (B':=B) (.of_ps ea) (.of_ps eb)]at h
theorem dpos_dr {A B:List Int}(h:tz B≠0):∃σ:Int,(σ=1\/σ = -1)/\ps (dpos A B)=PS.C σ*ps (dr A B):=by
 have hL:=lc_ne0 h;by_cases hneg:lc B<0
 .have:=dres_neg (c:=lc B) (L:=lc B) (B:=B) hL (Int.dvd_refl _) (dxp A B) ([],A) ([],A) 1 (.inl rfl) (by rw[PS.C_one,PS.one_mul]) (by rw[PS.C_one,PS.one_mul]);rw[show -lc B=((lc B).natAbs:Int) by omega]at this;refine⟨(-1)^dxp A B*1,?_,this⟩;rw[Int.mul_one];have hp:∀n:Nat,(-1:Int)^n=1\/(-1:Int)^n = -1:=λn=>by
   induction n with
   |zero=>exact .inl rfl
   |succ n ih =>
    rw[Int.pow_succ];rcases ih with e|e<;>rw[e]
    .exact .inr rfl
    .exact .inl rfl
  exact hp _
 .refine⟨1,.inl rfl,?_⟩;rw[PS.C_one,PS.one_mul];unfold dpos dr;rw[show ((lc B).natAbs:Int)=lc B by omega]
theorem cf_sgn {p q:List Int}{σ:Int}(hσ:σ=1\/σ = -1)(h:ps p=PS.C σ*ps q)(k:Nat):cf p k=cf q k\/cf p k = -cf q k:=by
 have:=ps_eq (q:=pscale σ q) (by rw[h,ps_pscale]) k;rw[cf_pscale]at this;rcases hσ with e|e<;>rw[e]at this
 .left;omega
 .right;omega
theorem dpos_sz {A B:List Int}{a b:Nat}(h:tz B≠0)(hA:SBd a A)(hB:SBd b B):SBd (a+dxp A B*(b+1)) (dpos A B):=λk=>by
 obtain⟨σ,hσ,e⟩:=dpos_dr (A:=A) h;have:=(div_sz h hA hB).2 k;rcases cf_sgn hσ e k with e|e<;>rw[e]
 .exact this
 .rw[zl_neg];exact this
theorem sb_spos {k:Nat}{A:List Int}(h:SBd k A):SBd k (spos A):=λi=>by
 have hd:((cont A).natAbs:Int)∣cf A i:=Int.natAbs_dvd.2 (cont_dvd A i);rw[spos,cf_trimz,cf_pdivs];have:=zl_div hd;exact Nat.le_trans (zl_div hd) (h i)
theorem sb_neg {k:Nat}{A:List Int}(h:SBd k A):SBd k (pscale (-1) A):=λi=>by
 rw[cf_pscale];have:cf A i * -1 = -cf A i:=by omega
 first
 |rw[this,zl_neg];exact h i
 |rw[show (-1:Int)*cf A i = -cf A i by omega,zl_neg];exact h i
theorem sb_snx {k:Nat}{X Y:List Int}(h:SBd k (dpos X Y)):SBd k (snx X Y):=sb_spos (sb_neg h)
theorem ei_snx {D S:Nat}{X Y:List Int}(h:EI D S X Y)(h0:tz Y≠0):EI D S Y (snx X Y):=by
 have ht:=dpos_tz (A:=X) h0;have hx:=h.x;have hy:=h.y;refine⟨h.y,by rw[tz_snx];omega,.inr ⟨by rw[tz_snx];omega,?_⟩⟩;have norm:tz Y<tz X->SBd (EZ S (D-tz X)) X->SBd (EZ S (D-tz X+1)) Y->SBd (EZ S (D-tz Y)) Y/\SBd (EZ S (D-tz Y+1)) (snx X Y):=λl a b=>by
  refine⟨b.mono (EZ.mono S (by omega)),sb_snx ((dpos_sz h0 a b).mono ?_)⟩;have g:=EZ.grow S (D-tz X) (tz X-tz Y-1);rw[show tz X-tz Y-1+2=dxp X Y by unfold dxp;omega,show D-tz X+2+(tz X-tz Y-1)=D-tz Y+1 by omega]at g;exact g
 rcases h.s with ⟨a,b⟩|⟨l,a,b⟩
 .by_cases l:tz Y<tz X
  .exact norm l (a.mono (EZ.mono S (i:=0) (by omega))) (b.mono (EZ.mono S (i:=0) (by omega)))
  .refine⟨b.mono (EZ.mono S (i:=0) (by omega)),sb_snx ((dpos_sz h0 a b).mono ?_)⟩;have g:EZ S 1<=EZ S (D-tz Y+1):=EZ.mono S (by omega);have e1:EZ S 1=2*S+1:=rfl;have hd:dxp X Y<=1:=by unfold dxp;omega
   have:=Nat.mul_le_mul_right (S+1) hd;omega
 .exact norm l a b
theorem spos_dv {A:List Int}(h:tz A≠0):Dv A (spos A):=by
 refine⟨((cont A).natAbs:Int),[1],?_,by rw[ps_one,PS.one_mul];exact ps_spos A⟩;have:cont A≠0:=λh0=>h (cont_zero h0)
 omega
theorem dv_sposn {D A:List Int}(h:Dv D A):Dv D (spos A):=by
 by_cases h0:tz A=0
 .exact .zero _ (by rw[tz_spos];exact h0)
 .exact h.trans (spos_dv h0)
theorem dv_neg {D A:List Int}(h:Dv D A):Dv D (pscale (-1) A):=by
 obtain⟨c,S,h1,h2⟩:=h;refine⟨c,pscale (-1) S,h1,?_⟩;rw[ps_pscale,ps_pscale,PS.mul_assoc,h2,<-PS.mul_assoc,<-PS.mul_assoc,PS.mul_comm (PS.C (-1))]
theorem dv_snx {D X Y:List Int}(h0:tz Y≠0)(hx:Dv D X)(hy:Dv D Y):Dv D (snx X Y):=by
 obtain⟨Q,e⟩:=dpos_div X Y;refine dv_sposn (dv_neg (Dv.lin (A:=X) (B:=Y) (U:=[((lc Y).natAbs:Int)^dxp X Y]) (V:=pscale (-1) Q) (k:=1) hx hy (by decide) ?_));rw[ps_const,<-e,ps_pscale,PS.C_one,PS.one_mul];refine PS.ext λk=>?_;show (ps Q*ps Y).c k+(ps (dpos X Y)).c k+(PS.C (-1)*ps Q*ps Y).c k=_;rw[PS.mul_assoc,PS.C_mul_c];omega
structure CI (D S K:Nat) (D0 X Y:List Int):Prop where
 ei:EI D S X Y
 x0:tz X≠0
 dx:Dv D0 X
 dy:Dv D0 Y
 k:D<=tz D0+K
 tx:trimz X=X
 ty:trimz Y=Y
theorem CI.step {D S K:Nat}{D0 X Y:List Int}(h:CI D S K D0 X Y)(h0:tz Y≠0):CI D S K D0 Y (snx X Y):=⟨ei_snx h.ei h0,h0,h.dy,dv_snx h0 h.dx h.dy,h.k,h.ty,spos_trim _⟩
theorem CI.bd {D S K:Nat}{D0 X Y:List Int}(h:CI D S K D0 X Y):SBd (EZ S (K+1)) X/\SBd (EZ S (K+1)) Y:=by
 have d1:=dv_tz h.dx h.x0;have hk:=h.k;have hS:S<=EZ S (K+1):=EZ.mono S (i:=0) (by omega);rcases h.ei.s with ⟨a,b⟩|⟨l,a,b⟩
 .exact⟨a.mono hS,b.mono hS⟩
 .exact⟨a.mono (EZ.mono S (by omega)),b.mono (EZ.mono S (by omega))⟩
theorem CI.start {P D0:List Int}{n S:Nat}(h:Com P D0 n)(hS:SBd S P)(hS':SBd S (pderiv P)):CI (tz P) S n D0 (spos P) (spos (pderiv P)):=by
 obtain⟨hD,E,G,e1,e2,e3,e4⟩:=h;have tP:tz P=tz D0+tz E-1:=by rw[tz_of_ps (q:=pmul D0 E) (by rw[ps_pmul,e1]),tz_pmul hD e4]
 have hd:tz (pderiv P)<=tz P:=tz_le_of λk hk=>by rw[cf_pderiv,cf_ge_tz P (by omega),Int.zero_mul]
 refine⟨⟨by rw[tz_spos];omega,by rw[tz_spos];exact hd,.inl ⟨sb_spos hS,sb_spos hS'⟩⟩,by rw[tz_spos];omega,dv_sposn (.mul (S:=E) (by rw[e1,PS.mul_comm])),dv_sposn (.mul (S:=G) (by rw[e2,PS.mul_comm])),by omega,spos_trim _,spos_trim _⟩
theorem sla_gg:∀(n:Nat) (X Y:List Int),tz Y<=n->GG (sla n X Y) X Y
 |0,X,Y,h=>by rw[sla];exact .zero (by omega)
 |n+1,X,Y,h=>by
  rw[sla];split
  .rename_i h0;exact .zero h0
  .rename_i h0;have ht:tz (snx X Y)<=n:=by rw[tz_snx];have:=dpos_tz (A:=X) h0;omega
   have ih:=sla_gg n Y (snx X Y) ht;obtain⟨Q,e⟩:=dpos_div X Y;have has:As (snx X Y) (dpos X Y):=by
    by_cases hz:tz (dpos X Y)=0
    .exact .of_ps (by rw[ps_zero_of hz,ps_zero_of (by rw[tz_snx];exact hz)])
    .have e2:=ps_spos (pscale (-1) (dpos X Y));have c0:cont (pscale (-1) (dpos X Y))≠0:=λh=>hz (by rw[<-tz_pscale (c:=-1) (by decide)];exact cont_zero h)
     refine⟨((cont (pscale (-1) (dpos X Y))).natAbs:Int),-1,by omega,by decide,?_⟩;rw[<-ps_pscale (-1)];exact e2.symm
   refine GG.step (c:=((lc Y).natAbs:Int)^dxp X Y) ((ih.as (.refl _) (.refl _) has)) ?_ e;have:=lc_ne0 h0;exact Int.pow_ne_zero (by omega)
def p2 (e:Int):Rat:=if 0<=e then ((2^e.toNat:Nat):Rat) else (((2^(-e).toNat:Nat):Rat))⁻¹
theorem Big.mono {e d v:Rat}(h:Big e v)(hd:d<=e):Big d v:=by
 rcases h with h|h
 .left;grind
 .right;grind
theorem num_den (z:Rat):(z.num:Rat)=z.den*z:=by
 have hd:(z.den:Rat)≠0:=by have:=z.den_nz;exact_mod_cast this
 have e:(z.num:Rat)/(z.den:Rat)=z:=by
  have h1:=Rat.divInt_eq_div z.num (z.den:Int);rw[Rat.intCast_natCast]at h1;rw[<-h1];exact Rat.num_divInt_den z
 have h2:=Rat.div_mul_cancel (a:=(z.num:Rat)) hd;rw[e]at h2
 grind
def lnq (x:Rat):List Int:=[-x.num,(x.den:Int)]
theorem er_lnq (x y:Rat):er (lnq x) y=x.den*(y-x):=by
 show er [-x.num,(x.den:Int)] y=_;rw[er_lin,Rat.intCast_natCast];rw[num_den];grind
theorem dv_npr {D A:List Int}(h:Dv D A):Dv D (npr A):=h.as (.refl _) (as_npr A)
theorem dv_rem {D X Y:List Int}(h0:tz Y≠0)(hx:Dv D X)(hy:Dv D Y):Dv D (npr (dr X Y)):=by
 have e:=dres_div X Y;refine dv_npr (Dv.lin (A:=X) (B:=Y) (U:=[lc Y^dxp X Y]) (V:=pscale (-1) (dq X Y)) (k:=1) hx hy (by decide) ?_);rw[ps_const,<-e,ps_pscale,PS.C_one,PS.one_mul];refine PS.ext λk=>?_;show (ps (dq X Y)*ps Y).c k+(ps (dr X Y)).c k+(PS.C (-1)*ps (dq X Y)*ps Y).c k=_;rw[PS.mul_assoc,PS.C_mul_c];omega
structure CN (D S K:Nat) (D0 X Y:List Int):Prop where
 ei:EI D S X Y
 x0:tz X≠0
 dx:Dv D0 X
 dy:Dv D0 Y
 k:D<=tz D0+K
theorem CN.step {D S K:Nat}{D0 X Y:List Int}(h:CN D S K D0 X Y)(h0:tz Y≠0):CN D S K D0 Y (npr (dr X Y)):=⟨h.ei.step h0,h0,h.dy,dv_rem h0 h.dx h.dy,h.k⟩
theorem CN.bd {D S K:Nat}{D0 X Y:List Int}(h:CN D S K D0 X Y):SBd (EZ S (K+1)) X/\SBd (EZ S (K+1)) Y:=by
 have d1:=dv_tz h.dx h.x0;have hk:=h.k;have hS:S<=EZ S (K+1):=EZ.mono S (i:=0) (by omega);rcases h.ei.s with ⟨a,b⟩|⟨l,a,b⟩
 .exact⟨a.mono hS,b.mono hS⟩
 .exact⟨a.mono (EZ.mono S (by omega)),b.mono (EZ.mono S (by omega))⟩
theorem CN.start {P D0:List Int}{n S:Nat}(h:Com P D0 n)(hS:SBd S P)(hS':SBd S (pderiv P)):CN (tz P) S n D0 (npr P) (npr (pderiv P)):=by
 obtain⟨hD,E,G,e1,e2,e3,e4⟩:=h;have tP:tz P=tz D0+tz E-1:=by rw[tz_of_ps (q:=pmul D0 E) (by rw[ps_pmul,e1]),tz_pmul hD e4]
 have hd:tz (pderiv P)<=tz P:=tz_le_of λk hk=>by rw[cf_pderiv,cf_ge_tz P (by omega),Int.zero_mul]
 exact⟨.start (Nat.le_refl _) hd hS hS',by rw[tz_npr];omega,dv_npr (.mul (S:=E) (by rw[e1,PS.mul_comm])),dv_npr (.mul (S:=G) (by rw[e2,PS.mul_comm])),by omega⟩
set_option maxRecDepth 100000 in
theorem prims_c (p q:List RI)(D S K:Nat)(D0:List Int)(hp:RP 40 S p)(hq:RP 40 S q)(hD:D<=40)(hE:EZ S (K+1)<=2^27)(ei0:CN D S K D0 (npr (pv p)) (npr (pv q)))(h1:tz (pv p)≠0)(h2:tz (pv q)≠0) :
  AC Tryz.prog 108 [cw p,cw q] none [.iv (.sl (polys ((prl (tz (pv q)) (npr (pv p)) (npr (pv q))).map cn))),ci 0]:=by
 have hS:S<=2^27:=Nat.le_trans (EZ.mono S (i:=0) (by omega)) hE;have tp:=ei0.ei.x;have tq:=ei0.ei.y;rw[tz_npr]at tp tq;have n1:=pnone_ok p (hp.mono (by omega) (by omega));have n2:=pnone_ok q (hq.mono (by omega) (by omega));rw[decide_eq_false h1]at n1;rw[decide_eq_false h2]at n2;have pp:=pprim_n (a:=p) (hp.mono (by omega) (by omega)) rfl;have pq:=pprim_n (a:=q) (hq.mono (by omega) (by omega)) rfl;have t0:=npr_trim (pv p);have t0':=npr_trim (pv q);have ht:=tz_npr (pv q);generalize npr (pv p)=X0 at *;generalize npr (pv q)=Y0 at *;rw[<-ht];refine AC.by_walk (rs:=[.tmp 4,.tmp 5]) ords Tryz.func108 (by rfl) (by rfl) (by rfl) (by rfl) (by rfl) ?_;simp (disch:=omega) only[wt,seval,reduceCtorEq,Nat.reduceEqDiff,cpoly_len,polys_len];refine call_by (n1) (by rfl) (by simp) ?_;simp (disch:=omega) only[wt,seval,reduceCtorEq,Nat.reduceEqDiff,cpoly_len,polys_len];refine call_by (n2) (by rfl) (by simp) ?_;simp (disch:=omega) only[wt,seval,reduceCtorEq,Nat.reduceEqDiff,cpoly_len,polys_len];refine call_by (pp) (by rfl) (by simp) ?_;simp (disch:=omega) only[wt,seval,reduceCtorEq,Nat.reduceEqDiff,cpoly_len,polys_len];refine call_by (pq) (by rfl) (by simp) ?_;simp (disch:=omega) only[wt,seval,reduceCtorEq,Nat.reduceEqDiff,cpoly_len,polys_len];refine aloop_by (λf H=>∃(n st:Nat) (L:List (List Int)) (X Y:List Int),L++prl n X Y=prl (tz Y0) X0 Y0/\tz Y<=n/\trimz X=X/\trimz Y=Y/\CN D S K D0 X Y/\L.length+n<=40/\f 7=.iv (.sl (cpoly Y))/\f 6=.hs 18 st/\H 18=.blk false st 23 1 (polys ((L++[X]).map cn))) (λf H=>match f 7 with | .iv (.sl l)=>l.length|_=>0) ?_ ?_
 .refine⟨tz Y0,1,[],X0,Y0,rfl,by omega,t0,t0',ei0,by simp only[List.length_nil];omega,?_⟩;simp (disch:=omega) only[wt,seval,reduceCtorEq,Nat.reduceEqDiff,cpoly_len,polys_len]
  try rfl
 rintro f H ⟨n,st,L,X,Y,hL,hn,tX,tY,ei,hl,g7,g6,h6⟩;have hmu:(match f 7 with | .iv (.sl l)=>l.length|_=>0)=tz Y:=by rw[g7];simp only[];rw[cpoly_len]
 rw[hmu];obtain⟨sX,sY⟩:=ei.bd;have rX:=rp_sb ei.ei.x sX;have rY:=rp_sb ei.ei.y sY;have nn:=pnone_ok (cn Y) (rY.mono (by omega) (by omega));rw[pv_cnt tY]at nn;by_cases h0:tz Y=0
 .rw[decide_eq_true h0]at nn;have e:prl n X Y=[X]:=by
   cases n with
   |zero=>rfl
   |succ n=>rw[prl,if_pos h0]
  rw[e]at hL;rw[hL]at h6;simp (disch:=omega) only[wt,seval,reduceCtorEq,Nat.reduceEqDiff,cpoly_len,polys_len,g7,g6,h6];refine call_by (nn) (by first|rfl|(simp only[tocvs,tocv,toboxes,tobox,updH_at,Nat.reduceEqDiff,↓reduceIte,g7,g6,h6];rfl)) (by simp) ?_;simp (disch:=omega) only[wt,seval,reduceCtorEq,Nat.reduceEqDiff,cpoly_len,polys_len,g7,g6,h6]
  try rfl
 .rw[decide_eq_false h0]at nn;obtain⟨m,rfl⟩:∃m,n=m+1:=⟨n-1,by omega⟩;have rm:=prem_ok (cn X) (cn Y) (rX.mono (by omega) hE) (rY.mono (by omega) hE) (by rw[pv_cnt tY];exact h0);rw[pv_cnt tX,pv_cnt tY]at rm;have ei':=ei.step h0;have dsz:=(div_sz h0 sX sY).2;have hdx:dxp X Y<=41:=by unfold dxp;have:=ei.ei.x;omega
  have hdm:dxp X Y*(EZ S (K+1)+1)<=41*(EZ S (K+1)+1):=Nat.mul_le_mul_right _ hdx;have dtz:=drem_tz (A:=X) h0;have hey:=ei.ei.y;have pr:=pprim_n (a:=cn (dr X Y)) (q:=dr X Y) ((rp_sb (D:=40) (k:=2^35) (by omega) (dsz.mono (by omega))).mono (by omega) (by omega)) (ps_cn _);have hsn:polys ((L++[X]).map cn)++[[.sl (cpoly Y)]]=polys ((L++[X]++[Y]).map cn):=by
   rw[List.map_append (l₁:=L++[X])];exact polys_snoc _ _
  have hln:((L++[X]).map cn).length=L.length+1:=by simp
  have hln2:((L++[X]++[Y]).map cn).length=L.length+2:=by simp
  have hgt:(polys ((L++[X]++[Y]).map cn)).getD L.length []=[.sl (cpoly X)]:=by
   rw[polys_at (by rw[hln2];omega)];simp[List.getD];rfl
  have e2:((L.length+2:Nat):Int)-2=(L.length:Int):=by omega
  have htz:=tz_npr (dr X Y);simp (disch:=omega) only[wt,seval,reduceCtorEq,Nat.reduceEqDiff,cpoly_len,polys_len,g7,g6,h6,hln,hsn,hln2];refine call_by (nn) (by first|rfl|(simp only[tocvs,tocv,toboxes,tobox,updH_at,Nat.reduceEqDiff,↓reduceIte,g7,g6,h6,hln,hsn,hln2,e2,hgt];rfl)) (by simp) ?_;simp (disch:=omega) only[wt,seval,reduceCtorEq,Nat.reduceEqDiff,cpoly_len,polys_len,g7,g6,h6,hln,hsn,hln2,e2,hgt];refine call_by (rm) (by first|rfl|(simp only[tocvs,tocv,toboxes,tobox,updH_at,Nat.reduceEqDiff,↓reduceIte,g7,g6,h6,hln,hsn,hln2,e2,hgt];rfl)) (by simp) ?_;simp (disch:=omega) only[wt,seval,reduceCtorEq,Nat.reduceEqDiff,cpoly_len,polys_len,g7,g6,h6,hln,hsn,hln2,e2,hgt];refine call_by (pr) (by first|rfl|(simp only[tocvs,tocv,toboxes,tobox,updH_at,Nat.reduceEqDiff,↓reduceIte,g7,g6,h6,hln,hsn,hln2,e2,hgt];rfl)) (by simp) ?_;simp (disch:=omega) only[wt,seval,reduceCtorEq,Nat.reduceEqDiff,cpoly_len,polys_len,g7,g6,h6,hln,hsn,hln2,e2,hgt];refine⟨⟨m,st+1,L++[X],Y,npr (dr X Y),?_,by omega,tY,npr_trim _,ei',by simp only[List.length_append,List.length_singleton];omega,?_⟩,?_⟩
  .rw[<-hL,prl,if_neg h0];simp
  .try (repeat' apply And.intro)<;>first|rfl|omega
  .omega
theorem pgcd_c (p q:List RI)(D S K:Nat)(D0:List Int)(hp:RP 40 S p)(hq:RP 40 S q)(hD:D<=40)(hE:EZ S (K+1)<=2^27)(ei0:CN D S K D0 (npr (pv p)) (npr (pv q))) :
  AC Tryz.prog 42 [cw p,cw q] none [cp (gcdp (pv p) (pv q))]:=by
 have hS:S<=2^27:=Nat.le_trans (EZ.mono S (i:=0) (by omega)) hE;have tp:=ei0.ei.x;have tq:=ei0.ei.y;rw[tz_npr]at tp tq;have d1:=pdeg_ok p (hp.mono (by omega) (by omega));have d2:=pdeg_ok q (hq.mono (by omega) (by omega));by_cases h1:tz (pv p)=0
 .have pr:=pprim_n (a:=q) (q:=pv q) (hq.mono (by omega) (by omega)) rfl;rw[cp_ps (gcdp_l0 h1)]at pr;rw[h1]at d1;refine AC.by_walk (rs:=[.tmp 4]) ords Tryz.func42 (by rfl) (by rfl) (by rfl) (by rfl) (by rfl) ?_;simp (disch:=omega) only[wt,seval,reduceCtorEq,Nat.reduceEqDiff,cpoly_len,polys_len];refine call_by (d1) (by rfl) (by simp) ?_;simp (disch:=omega) only[wt,seval,reduceCtorEq,Nat.reduceEqDiff,cpoly_len,polys_len];refine call_by (pr) (by rfl) (by simp) ?_;simp (disch:=omega) only[wt,seval,reduceCtorEq,Nat.reduceEqDiff,cpoly_len,polys_len]
  try rfl
 have h1':¬(tz (pv p):Int)-1<0:=by omega
 by_cases h2:tz (pv q)=0
 .have pr:=pprim_n (a:=p) (q:=pv p) (hp.mono (by omega) (by omega)) rfl;rw[cp_ps (gcdp_r0 h2)]at pr;rw[h2]at d2;refine AC.by_walk (rs:=[.tmp 4]) ords Tryz.func42 (by rfl) (by rfl) (by rfl) (by rfl) (by rfl) ?_;simp (disch:=omega) only[wt,seval,reduceCtorEq,Nat.reduceEqDiff,cpoly_len,polys_len];refine call_by (d1) (by first|rfl|(simp only[tocvs,tocv,toboxes,tobox,updH_at,Nat.reduceEqDiff,↓reduceIte,h1'];rfl)) (by simp) ?_;simp (disch:=omega) only[wt,seval,reduceCtorEq,Nat.reduceEqDiff,cpoly_len,polys_len,h1'];refine call_by (d2) (by first|rfl|(simp only[tocvs,tocv,toboxes,tobox,updH_at,Nat.reduceEqDiff,↓reduceIte,h1'];rfl)) (by simp) ?_;simp (disch:=omega) only[wt,seval,reduceCtorEq,Nat.reduceEqDiff,cpoly_len,polys_len,h1'];refine call_by (pr) (by rfl) (by simp) ?_;simp (disch:=omega) only[wt,seval,reduceCtorEq,Nat.reduceEqDiff,cpoly_len,polys_len]
  try rfl
 have h2':¬(tz (pv q):Int)-1<0:=by omega
 have pl:=prims_c p q D S K D0 hp hq hD hE ei0 h1 h2;obtain⟨L,hL⟩:=prl_last (tz (pv q)) (npr (pv p)) (npr (pv q));have hll:=prl_len (tz (pv q)) (npr (pv p)) (npr (pv q));rw[hL]at pl hll;rw[show eu (tz (pv q)) (npr (pv p)) (npr (pv q))=gcdp (pv p) (pv q) from rfl]at pl;simp only[List.length_append,List.length_singleton]at hll;have hln:((L++[gcdp (pv p) (pv q)]).map cn).length=L.length+1:=by simp
 have hgt:(polys ((L++[gcdp (pv p) (pv q)]).map cn)).getD L.length []=[.sl (cpoly (gcdp (pv p) (pv q)))]:=by
  rw[polys_at (by rw[hln];omega)];simp[List.getD];rfl
 have e2:((L.length+1:Nat):Int)-1=(L.length:Int):=by omega
 refine AC.by_walk (rs:=[.tmp 4]) ords Tryz.func42 (by rfl) (by rfl) (by rfl) (by rfl) (by rfl) ?_;simp (disch:=omega) only[wt,seval,reduceCtorEq,Nat.reduceEqDiff,cpoly_len,polys_len];refine call_by (d1) (by first|rfl|(simp only[tocvs,tocv,toboxes,tobox,updH_at,Nat.reduceEqDiff,↓reduceIte,h1'];rfl)) (by simp) ?_;simp (disch:=omega) only[wt,seval,reduceCtorEq,Nat.reduceEqDiff,cpoly_len,polys_len,h1'];refine call_by (d2) (by first|rfl|(simp only[tocvs,tocv,toboxes,tobox,updH_at,Nat.reduceEqDiff,↓reduceIte,h2'];rfl)) (by simp) ?_;simp (disch:=omega) only[wt,seval,reduceCtorEq,Nat.reduceEqDiff,cpoly_len,polys_len,h2'];refine call_by (pl) (by first|rfl|(simp only[tocvs,tocv,toboxes,tobox,updH_at,Nat.reduceEqDiff,↓reduceIte,hln,e2,hgt];rfl)) (by simp) ?_;simp (disch:=omega) only[wt,seval,reduceCtorEq,Nat.reduceEqDiff,cpoly_len,polys_len,hln,e2,hgt]
 try rfl
theorem pover_bad (p:List RI)(c:RI)(hp:RP (2^30) (2^35) p)(hc:Sz (2^35) c)(h0:iv c≠0)(hb:¬∀k,iv c∣cf (pv p) k):AC Tryz.prog 113 [cw p,cr c] none [cw [],ci 4]:=by
 refine AC.by_walk (rs:=[.tmp 4,.tmp 5]) ords Tryz.func113 (by rfl) (by rfl) (by rfl) (by rfl) (by rfl) ?_;have hl:=hp.1;have hs0:(iv c).sign≠0:=λh=>h0 (Int.sign_eq_zero_iff_zero.mp h)
 simp (disch:=omega) only[wt,seval,reduceCtorEq,Nat.reduceEqDiff,cpoly_len];refine call_by ((zsign_ok c (hc.mono (by omega)))) (by rfl) (by simp) ?_;simp (disch:=omega) only[wt,seval,reduceCtorEq,Nat.reduceEqDiff,cpoly_len];simp (disch:=omega) only[wt,seval,reduceCtorEq,Nat.reduceEqDiff,cpoly_len,hs0];refine aloop_by (λf H=>∃(i st st3:Nat) (out:List RI),i<=p.length/\out.length=p.length/\(∀k,k<i->iv c∣cf (pv p) k)/\f 18=.iv (.int .i64 i)/\f 0=.iv (.sl (raws p))/\f 3=.hp 3 st3 0 0/\f 6=.hs 15 st/\f 17=.iv (.int .i64 p.length)/\H 15=.blk false st 44 2 (raws out)/\H 3=.blk false st3 44 2 [prow c]) (λf H=>(p.length-intAt f 18).toNat) ?_ ?_
 .refine⟨0,1,1,List.replicate p.length (false,[]),by omega,by simp,λk hk=>by omega,?_⟩;simp (disch:=omega) only[wt,seval,reduceCtorEq,Nat.reduceEqDiff,cpoly_len,Int.toNat_natCast]
 rintro f H ⟨i,st,st3,out,hi,hol,hv,hF⟩;rw[intAt_of hF.1];simp (disch:=omega) only[wt,seval,reduceCtorEq,Nat.reduceEqDiff,cpoly_len,hF];refine if_by (λhlt=>?_) (λhlt=>?_)
 .by_cases hdv:iv c∣cf (pv p) i
  .have hdi:=hdv;rw[cf_pv]at hdi;have m:=zexact_ok (p.getD i (false,[])) c ((hp.get i).mono (by omega)) (hc.mono (by omega)) h0 hdi;simp (disch:=omega) only[wt,seval,reduceCtorEq,Nat.reduceEqDiff,cpoly_len,hF];refine .inl ⟨tmps_by (by kernel_rfl),?_⟩;refine call_by (m) (by first|rfl|(simp only[tocvs,tocv,toboxes,tobox,updH_at,Nat.reduceEqDiff,↓reduceIte,hF];rfl)) (by simp) ?_;simp (disch:=omega) only[wt,seval,reduceCtorEq,Nat.reduceEqDiff,cpoly_len,hF]
   first|exact log_by (by kernel_rfl)|refine⟨log_by (by kernel_rfl),?_⟩
   refine⟨⟨i+1,st,st3,out.set i (canon (iv (p.getD i (false,[]))/iv c)),by omega,by simpa using hol,λk hk=>?_,by omega,rfl,rfl,rfl,rfl⟩,by omega⟩;rcases Nat.lt_or_ge k i with hk'|hk'
   .exact hv k hk'
   .obtain rfl:k=i:=by omega
    exact hdv
  .have hdi:=hdv;rw[cf_pv]at hdi;have m:=zexact_bad (p.getD i (false,[])) c ((hp.get i).mono (by omega)) (hc.mono (by omega)) h0 hdi;simp (disch:=omega) only[wt,seval,reduceCtorEq,Nat.reduceEqDiff,cpoly_len,hF];refine .inl ⟨tmps_by (by kernel_rfl),?_⟩;refine call_by (m) (by first|rfl|(simp only[tocvs,tocv,toboxes,tobox,updH_at,Nat.reduceEqDiff,↓reduceIte,hF];rfl)) (by simp) ?_;simp (disch:=omega) only[wt,seval,reduceCtorEq,Nat.reduceEqDiff,cpoly_len,hF]
   first|exact log_by (by kernel_rfl)|refine⟨log_by (by kernel_rfl),?_⟩
 .refine(hb λk=>?_).elim;rcases Nat.lt_or_ge k p.length with hk|hk
  .exact hv k (by omega)
  .rw[cf_ge (by rw[pv_len];omega)];exact Int.dvd_zero _
def exok (P R:List Int):Bool:=dvb R P && decide ((lc R^dxp P R)∣(gz (dq P R):Int))
def exv (P R:List Int):List Int:=if tz R=0 then [] else if exok P R then pdivs (lc R^dxp P R) (dq P R) else []
def exe (P R:List Int):Int:=if tz R=0 then 1 else if exok P R then 0 else 4
theorem dvd_gz {c:Int}{q:List Int}:c∣(gz q:Int)↔∀k,c∣cf q k:=by
 constructor
 .intro h k;exact Int.dvd_trans h (gz_dvd q k)
 .intro h;refine Int.natAbs_dvd.mp (Int.natCast_dvd_natCast.mpr (gz_greatest q c.natAbs λk=>Int.natAbs_dvd.mpr (h k)))
theorem pow_z {c:Int}{K:Nat}(h:zl c<=K)(n:Nat)(hn:n<=41):zl (c^n)<=41*K+1:=by
 have h1:=zl_pow h n;have h2:n*K<=41*K:=Nat.mul_le_mul_right _ hn;omega
set_option maxRecDepth 100000 in
theorem pexact_ok (p q:List RI)(S:Nat)(hp:RP 40 S p)(hq:RP 40 S q)(hS:S<=2^22):AC Tryz.prog 44 [cw p,cw q] none [cp (exv (pv p) (pv q)),ci (exe (pv p) (pv q))]:=by
 have hp':=hp.mono (Nat.le_refl 40) (show S<=2^27 by omega);have hq':=hq.mono (Nat.le_refl 40) (show S<=2^27 by omega);have sP:=sb_rp hp;have sQ:=sb_rp hq;by_cases h0:tz (pv q)=0
 .rw[exv,exe,if_pos h0,if_pos h0];have d:=pdiv_zero p q hq' h0;refine AC.by_walk (rs:=[.tmp 4,.tmp 5]) ords Tryz.func44 (by rfl) (by rfl) (by rfl) (by rfl) (by rfl) ?_;simp (disch:=omega) only[wt,seval,reduceCtorEq,Nat.reduceEqDiff,cpoly_len];refine call_by (d) (by rfl) (by simp) ?_;simp (disch:=omega) only[wt,seval,reduceCtorEq,Nat.reduceEqDiff,cpoly_len]
  try rfl
 have d:=pdiv_ok p q hp' hq' h0;have t1:=tz_rp hp;have t2:=tz_rp hq;have tr:=drem_tz (A:=pv p) h0;have td:=dq_tz (A:=pv p) h0;obtain⟨s1,s2⟩:=div_sz h0 sP sQ;have hdx:dxp (pv p) (pv q)<=41:=by unfold dxp;omega
 have hdm:dxp (pv p) (pv q)*(S+1)<=41*(S+1):=Nat.mul_le_mul_right _ hdx;have dg:=pdeg_n (a:=cn (dr (pv p) (pv q))) (q:=dr (pv p) (pv q)) ((rp_sb (D:=40) (k:=2^35) (by omega) (s2.mono (by omega))).mono (by omega) (by omega)) (ps_cn _);rw[exv,exe,if_neg h0,if_neg h0];by_cases hd:¬dvb (pv q) (pv p)=true
 .have hb:dvb (pv q) (pv p)=false:=by simpa using hd
  have he:exok (pv p) (pv q)=false:=by unfold exok;rw[hb];rfl
  rw[he];have hr:¬tz (dr (pv p) (pv q))=0:=λh=>hd ((dvb_iff _ _).mpr ((dv_dr h0).mpr h))
  have hr':(0:Int)<=(tz (dr (pv p) (pv q)):Int)-1:=by omega
  refine AC.by_walk (rs:=[.tmp 4,.tmp 5]) ords Tryz.func44 (by rfl) (by rfl) (by rfl) (by rfl) (by rfl) ?_;simp (disch:=omega) only[wt,seval,reduceCtorEq,Nat.reduceEqDiff,cpoly_len];refine call_by (d) (by rfl) (by simp) ?_;simp (disch:=omega) only[wt,seval,reduceCtorEq,Nat.reduceEqDiff,cpoly_len];refine call_by (dg) (by first|rfl|(simp only[tocvs,tocv,toboxes,tobox,updH_at,Nat.reduceEqDiff,↓reduceIte,hr'];rfl)) (by simp) ?_;simp (disch:=omega) only[wt,seval,reduceCtorEq,Nat.reduceEqDiff,cpoly_len,hr']
  try rfl
 have hd:dvb (pv q) (pv p)=true:=Classical.not_not.mp hd;have hdr:=(dv_dr h0).mp ((dvb_iff _ _).mp hd);have he:exok (pv p) (pv q)=decide ((lc (pv q)^dxp (pv p) (pv q))∣(gz (dq (pv p) (pv q)):Int)):=by unfold exok;rw[hd,Bool.true_and]
 rw[he];rw[hdr]at dg;have o1:=zOf_ok 1 (by omega) (by omega);have le:=plead_g (a:=q) (q:=pv q) (hq.mono (by omega) (by omega)) rfl;have hlz:zl (lc (pv q))<=S:=sQ _;have rD:=rp_sb (D:=41) (k:=2^35) (by omega) (s1.mono (by omega));have hlp:=lcp_ne h0 (dxp (pv p) (pv q));have hpz:=pow_z hlz (dxp (pv p) (pv q)) hdx;have key:∃(res:List Int) (e:Int),AC Tryz.prog 113 [cp (dq (pv p) (pv q)),cz (lc (pv q)^dxp (pv p) (pv q))] none [cp res,ci e]/\res=(if decide ((lc (pv q)^dxp (pv p) (pv q))∣(gz (dq (pv p) (pv q)):Int))=true then pdivs (lc (pv q)^dxp (pv p) (pv q)) (dq (pv p) (pv q)) else [])/\e=(if decide ((lc (pv q)^dxp (pv p) (pv q))∣(gz (dq (pv p) (pv q)):Int))=true then 0 else 4):=by
  by_cases hg:(lc (pv q)^dxp (pv p) (pv q))∣(gz (dq (pv p) (pv q)):Int)
  .rw[decide_eq_true hg];have ov:=pover_ok (cn (dq (pv p) (pv q))) (canon (lc (pv q)^dxp (pv p) (pv q))) (rD.mono (by omega) (by omega)) ((sz_canon _).mono (by omega)) (by rw[iv_canon];exact hlp) (λk=>by rw[iv_canon,cf_cn];exact dvd_gz.mp hg k);rw[iv_canon,show cp (pdivs (lc (pv q)^dxp (pv p) (pv q)) (pv (cn (dq (pv p) (pv q)))))=cp (pdivs (lc (pv q)^dxp (pv p) (pv q)) (dq (pv p) (pv q))) from cp_ext λk=>by rw[cf_pdivs,cf_pdivs,cf_cn]]at ov;exact⟨_,_,ov,rfl,rfl⟩
  .rw[decide_eq_false hg];have ov:=pover_bad (cn (dq (pv p) (pv q))) (canon (lc (pv q)^dxp (pv p) (pv q))) (rD.mono (by omega) (by omega)) ((sz_canon _).mono (by omega)) (by rw[iv_canon];exact hlp) (λh=>hg (dvd_gz.mpr λk=>by have:=h k;rwa [iv_canon,cf_cn]at this));exact⟨[],4,ov,rfl,rfl⟩
 obtain⟨res,e,ov,hres,hee⟩:=key;rw[<-hres,<-hee];have he2:e=0\/(¬e=0/\e=4/\res=[]):=by
  rw[hres,hee];split
  .exact .inl rfl
  .exact .inr ⟨by decide,rfl,rfl⟩
 clear hres hee he hdm;generalize hX:dxp (pv p) (pv q)=x at *;generalize hL:lc (pv q)=L at *;refine AC.by_walk (rs:=[.tmp 4,.tmp 5]) ords Tryz.func44 (by rfl) (by rfl) (by rfl) (by rfl) (by rfl) ?_;simp (disch:=omega) only[wt,seval,reduceCtorEq,Nat.reduceEqDiff,cpoly_len];refine call_by (d) (by rfl) (by simp) ?_;simp (disch:=omega) only[wt,seval,reduceCtorEq,Nat.reduceEqDiff,cpoly_len];refine call_by (dg) (by rfl) (by simp) ?_;simp (disch:=omega) only[wt,seval,reduceCtorEq,Nat.reduceEqDiff,cpoly_len];refine call_by (o1) (by rfl) (by simp) ?_;simp (disch:=omega) only[wt,seval,reduceCtorEq,Nat.reduceEqDiff,cpoly_len];refine aloop_by (λf H=>∃(i st:Nat),i<=x/\f 26=.iv (.int .i64 i)/\f 25=.iv (.int .i64 x)/\f 1=.iv (.sl (raws q))/\f 6=.iv (.sl (cpoly (dq (pv p) (pv q))))/\f 10=.hp 10 st 0 0/\H 10=.blk false st 44 2 [prow (canon (L^i))]) (λf H=>(x-intAt f 26).toNat) ?_ ?_
 .refine⟨0,1,by omega,?_⟩;simp (disch:=omega) only[wt,seval,reduceCtorEq,Nat.reduceEqDiff,cpoly_len,Int.pow_zero]
 rintro f H ⟨i,st,hi,hF⟩;rw[intAt_of hF.1];simp (disch:=omega) only[wt,seval,reduceCtorEq,Nat.reduceEqDiff,cpoly_len,hF];by_cases hlt':i<x
 .have hlt:(i:Int)<(x:Int):=by omega
  have hz:=pow_z hlz i (by omega);have m:=zmul_ok (canon (L^i)) (canon L) ((sz_canon _).mono (by omega)) ((sz_canon _).mono (by omega));rw[iv_canon,iv_canon,<-Int.pow_succ]at m;simp (disch:=omega) only[wt,seval,reduceCtorEq,Nat.reduceEqDiff,cpoly_len,hF,hlt];refine .inl ⟨tmps_by (by kernel_rfl),?_⟩;refine call_by (le) (by first|rfl|(simp only[tocvs,tocv,toboxes,tobox,updH_at,Nat.reduceEqDiff,↓reduceIte,hF,hlt];rfl)) (by simp) ?_;simp (disch:=omega) only[wt,seval,reduceCtorEq,Nat.reduceEqDiff,cpoly_len,hF,hlt];refine call_by (m) (by first|rfl|(simp only[tocvs,tocv,toboxes,tobox,updH_at,Nat.reduceEqDiff,↓reduceIte,hF,hlt];rfl)) (by simp) ?_;simp (disch:=omega) only[wt,seval,reduceCtorEq,Nat.reduceEqDiff,cpoly_len,hF,hlt]
  first|exact log_by (by kernel_rfl)|refine⟨log_by (by kernel_rfl),?_⟩
  refine⟨⟨i+1,st,by omega,?_⟩,by omega⟩
  try (repeat' apply And.intro)<;>first|rfl|omega
 .obtain rfl:i=x:=by omega
  have hlt:¬(i:Int)<(i:Int):=by omega
  simp (disch:=omega) only[wt,seval,reduceCtorEq,Nat.reduceEqDiff,cpoly_len,hF,hlt];rcases he2 with rfl|⟨h1,rfl,rfl⟩
  .skip
   refine call_by (ov) (by first|rfl|(simp only[tocvs,tocv,toboxes,tobox,updH_at,Nat.reduceEqDiff,↓reduceIte,hF];rfl)) (by simp) ?_;simp (disch:=omega) only[wt,seval,reduceCtorEq,Nat.reduceEqDiff,cpoly_len,hF]
   try rfl
  .skip
   refine call_by (ov) (by first|rfl|(simp only[tocvs,tocv,toboxes,tobox,updH_at,Nat.reduceEqDiff,↓reduceIte,hF];rfl)) (by simp) ?_;simp (disch:=omega) only[wt,seval,reduceCtorEq,Nat.reduceEqDiff,cpoly_len,hF]
   try rfl
theorem ps_lc (a b c:PS):a*(b*c)=b*(a*c):=by rw[<-PS.mul_assoc,PS.mul_comm a b,PS.mul_assoc]
theorem exv_prm {P R:List Int}(hR:Prm R)(h:Dv R P):ps (exv P R)*ps R=ps P:=by
 have h0:=prm_tz hR;obtain⟨s,e⟩:=dv_int hR h;have hz:=(dv_dr h0).mp h;have e2:=dres_div P R;rw[ps_zero_of hz,PS.add_zero,<-e,<-PS.mul_assoc]at e2;have e3:ps (dq P R)=ps (pscale (lc R^dxp P R) s):=ps_cancel (B:=R) (by rw[e2,ps_pscale]) h0;have hk:∀k,cf (dq P R) k=lc R^dxp P R*cf s k:=λk=>by rw[ps_eq e3 k,cf_pscale,Int.mul_comm]
 have hd:exok P R=true:=by
  unfold exok;rw[(dvb_iff _ _).2 h,Bool.true_and,decide_eq_true_iff];exact dvd_gz.2 λk=>by rw[hk];exact Int.dvd_mul_right _ _
 rw[exv,if_neg h0,if_pos hd];rw[<-e]
 congr 1
 refine PS.ext λk=>?_;rw[ps_c,ps_c,cf_pdivs,hk,Int.mul_ediv_cancel_left _ (lcp_ne h0 _)]
def frd (P:List Int):List Int:=prim (exv (prim P) (prim (gcdp P (pderiv P))))
theorem gcdp_ne {P:List Int}(h:tz P≠0):tz (gcdp P (pderiv P))≠0:=λh0=>h (gg_tz0 (gcdp_gg P (pderiv P)) h0).1
theorem frd_as {P:List Int}(h:tz P≠0):∃c:Int,c≠0/\ps (pmul (frd P) (gcdp P (pderiv P)))=ps (pmul (frd P) (gcdp P (pderiv P)))/\∃a b:Int,a≠0/\b≠0/\PS.C a*(ps (frd P)*ps (gcdp P (pderiv P)))=PS.C b*ps P:=by
 have hg:=gcdp_gg P (pderiv P);have h0:=gcdp_ne h;have hG:Prm (prim (gcdp P (pderiv P))):=prm_prim λe=>h0 (cont_zero_iff.1 e)
 have e:=exv_prm (P:=prim P) hG (hg.a.as (as_prim _).symm (as_prim P));refine⟨1,by decide,rfl,?_⟩;have p1:As (frd P) (exv (prim P) (prim (gcdp P (pderiv P)))):=(as_prim _).symm;have p2:As (prim P) P:=(as_prim P).symm;have p3:As (gcdp P (pderiv P)) (prim (gcdp P (pderiv P))):=as_prim _;obtain⟨a1,b1,n1,m1,q1⟩:=p1;obtain⟨a2,b2,n2,m2,q2⟩:=p2;obtain⟨a3,b3,n3,m3,q3⟩:=p3;refine⟨a1*a3*a2,b1*b3*b2,Int.mul_ne_zero (Int.mul_ne_zero n1 n3) n2,Int.mul_ne_zero (Int.mul_ne_zero m1 m3) m2,?_⟩;have:PS.C (a1*a3*a2)*(ps (frd P)*ps (gcdp P (pderiv P)))=PS.C a2*((PS.C a1*ps (frd P))*(PS.C a3*ps (gcdp P (pderiv P)))):=by
  rw[PS.C_mul,PS.C_mul];simp only[PS.mul_assoc,PS.mul_comm,ps_lc]
 rw[this,q1,q3];have:PS.C a2*(PS.C b1*ps (exv (prim P) (prim (gcdp P (pderiv P))))*(PS.C b3*ps (prim (gcdp P (pderiv P)))))=PS.C (b1*b3)*(PS.C a2*ps (prim P)):=by
  rw[<-e,PS.C_mul];simp only[PS.mul_assoc,PS.mul_comm,ps_lc]
 rw[this,q2,<-PS.mul_assoc,<-PS.C_mul]
theorem sla_pgg {P:List Int}{n:Nat}(hn:tz (pderiv P)<=n)(h:tz P≠0):GG (sla n (spos P) (spos (pderiv P))) P (pderiv P):=by
 have sp:∀A:List Int,As (spos A) A:=λA=>by
  by_cases h0:tz A=0
  .exact .of_ps (by rw[ps_zero_of h0,ps_zero_of (by rw[tz_spos];exact h0)])
  .have c0:cont A≠0:=λe=>h0 (cont_zero e)
   exact⟨((cont A).natAbs:Int),1,by omega,by decide,by rw[PS.C_one,PS.one_mul];exact(ps_spos A).symm⟩
 exact(sla_gg n _ _ (by rw[tz_spos];exact hn)).as (.refl _) (sp P) (sp _)
theorem frd_tz {P D0:List Int}{n:Nat}(h:Com P D0 n)(h0:tz P≠0):tz (frd P)≠0/\tz (frd P)<=n+1/\Dv (frd P) P/\Dv D0 (gcdp P (pderiv P)):=by
 obtain⟨-,-,-,a,b,ha,hb,e⟩:=frd_as h0;obtain⟨hD,E,G,e1,e2,e3,e4⟩:=h;have g0:=gcdp_ne h0;have dg:Dv D0 (gcdp P (pderiv P)):=(gcdp_gg P (pderiv P)).dv (.mul (S:=E) (by rw[e1,PS.mul_comm])) (.mul (S:=G) (by rw[e2,PS.mul_comm]));have hk:As (pmul (frd P) (gcdp P (pderiv P))) P:=⟨a,b,ha,hb,by rw[ps_pmul];exact e⟩;have ht:=as_tz hk;have f0:tz (frd P)≠0:=λhf=>h0 (by rw[<-ht];exact tz_pmul_zero (.inl hf))
 rw[tz_pmul f0 g0]at ht;have tP:tz P=tz D0+tz E-1:=by rw[tz_of_ps (q:=pmul D0 E) (by rw[ps_pmul,e1]),tz_pmul hD e4]
 have:=dv_tz dg g0;exact⟨f0,by omega,⟨b,pscale a (gcdp P (pderiv P)),hb,by rw[ps_pscale,<-e];simp only[PS.mul_assoc,PS.mul_comm,ps_lc]⟩,dg⟩
theorem gcdp_dsz {P:List Int}{N S:Nat}(h0:tz P≠0)(hN:tz P<=N)(hN2:N<=10000)(hS:SBd S P):SBd (S+10*N) (gcdp P (pderiv P)):=dv_sz h0 hN hN2 hS (gcdp_nf _ _) (gcdp_gg P (pderiv P)).a
structure Kn (P D0:List Int) (n S:Nat):Prop where
 com:Com P D0 n
 s:SBd S P
 s':SBd S (pderiv P)
 t:tz P<=30
 hS:S<=1000
 hE:EZ S (n+1)<=2^27
theorem Kn.ne {P D0:List Int}{n S:Nat}(h:Kn P D0 n S):tz P≠0:=by
 obtain⟨hD,E,G,e1,e2,e3,e4⟩:=h.com;rw[tz_of_ps (q:=pmul D0 E) (by rw[ps_pmul,e1]),tz_pmul hD e4];omega
theorem Kn.tp {P D0:List Int}{n S:Nat}(h:Kn P D0 n S):tz (pderiv P)<=tz P:=tz_le_of λk hk=>by rw[cf_pderiv,cf_ge_tz P (by omega),Int.zero_mul]
theorem prm_cf {p q:List Int}(h:∀k,cf p k=cf q k)(hq:Prm q):Prm p:=by
 refine⟨by rw[gz_eq h];exact hq.1,?_⟩;unfold lc;rw[tz_eq_of_cf h,h];exact hq.2
theorem over_g (a b:List RI)(A B:List Int)(ea:ps (pv a)=ps A)(eb:ps (pv b)=ps B)(ra:RP 40 (2^21) a)(rb:RP 40 (2^21) b)(hb:tz B≠0)(hd:Dv B A)(hA0:tz A≠0)(S:Nat)(hA:SBd S A)(hS:S<=2^21):AC Tryz.prog 158 [cw a,cw b] none [cp (prim (exv (prim A) (prim B)))]:=by
 have p1:=pprim_n (a:=a) (q:=A) (ra.mono (by omega) (by omega)) ea;have p2:=pprim_n (a:=b) (q:=B) (rb.mono (by omega) (by omega)) eb;have sa:=sb_rp ra;have sb:=sb_rp rb;have ta:=tz_rp ra;have tb:=tz_rp rb;rw[tz_of_ps ea]at ta;rw[tz_of_ps eb]at tb;have sA:SBd (2^21) A:=λk=>by rw[<-ps_eq ea];exact sa k
 have sB:SBd (2^21) B:=λk=>by rw[<-ps_eq eb];exact sb k
 have rA:RP 40 (2^22) (cn (npr A)):=rp_sb (by rw[tz_npr];exact ta) ((sb_npr sA).mono (by omega));have rB:RP 40 (2^22) (cn (npr B)):=rp_sb (by rw[tz_npr];exact tb) ((sb_npr sB).mono (by omega));have p3:=pexact_ok (cn (npr A)) (cn (npr B)) (2^22) rA rB (by omega);rw[pv_cnt (npr_trim A),pv_cnt (npr_trim B)]at p3;have pB:Prm (prim B):=prm_prim λe=>hb (cont_zero_iff.1 e)
 have nB:Prm (npr B):=prm_cf (λk=>cf_trimz _ k) pB;have hd1:Dv (npr B) (npr A):=hd.as (as_npr B).symm (as_npr A);have hd2:Dv (prim B) (prim A):=hd.as (as_prim B).symm (as_prim A);have e1:=exv_prm nB hd1;have e2:=exv_prm pB hd2;have ee:ps (exv (npr A) (npr B))=ps (exv (prim A) (prim B)):=ps_cancel (B:=npr B) (by
  rw[e1,show ps (npr B)=ps (prim B) from ps_trimz _,e2];exact ps_trimz _) (prm_tz nB)
 have tn:tz (npr A)≠0:=by rw[tz_npr];exact hA0
 have hs:SBd (S+10*40) (exv (npr A) (npr B)):=factor_sz (s:=npr B) tn (by rw[tz_npr];exact ta) (by omega) (sb_npr hA) (by rw[PS.mul_comm];exact e1);have hz:=(dv_tz (.mul (S:=npr B) (by rw[<-e1,PS.mul_comm]):Dv (exv (npr A) (npr B)) (npr A)) tn).2;rw[tz_npr]at hz;have p4:=pprim_n (a:=cn (exv (npr A) (npr B))) (q:=exv (prim A) (prim B)) ((rp_sb (D:=40) (k:=2^22) (by omega) (hs.mono (by omega))).mono (by omega) (by omega)) (by rw[ps_cn];exact ee);rw[<-cp_npr]at p4;generalize exe (npr A) (npr B)=e at p3;refine AC.by_walk (rs:=[.tmp 4]) ords Tryz.func158 (by rfl) (by rfl) (by rfl) (by rfl) (by rfl) ?_;simp (disch:=omega) only[wt,seval,reduceCtorEq,Nat.reduceEqDiff];refine call_by (p1) (by rfl) (by simp) ?_;simp (disch:=omega) only[wt,seval,reduceCtorEq,Nat.reduceEqDiff];refine call_by (p2) (by rfl) (by simp) ?_;simp (disch:=omega) only[wt,seval,reduceCtorEq,Nat.reduceEqDiff];refine call_by (p3) (by rfl) (by simp) ?_;simp (disch:=omega) only[wt,seval,reduceCtorEq,Nat.reduceEqDiff];refine call_by (p4) (by rfl) (by simp) ?_;simp (disch:=omega) only[wt,seval,reduceCtorEq,Nat.reduceEqDiff]
theorem free_ok (p:List RI){P D0:List Int}{n S:Nat}(e:ps (pv p)=ps P)(hp:RP 40 S p)(h:Kn P D0 n S):AC Tryz.prog 105 [cw p] none [cp (frd P)]:=by
 have h0:=h.ne;have t30:=h.t;have hS:=h.hS;have d1:=pdeg_n (a:=p) (q:=P) (hp.mono (by omega) (by omega)) e;have d2:=pderiv_g (a:=p) (q:=P) (hp.mono (by omega) (by omega)) e;have tp:=h.tp;have sd:=h.s';have c0:=CN.start h.com h.s h.s';have ed:ps (pv (cn (pderiv P)))=ps (pderiv P):=ps_cn _;have d3:=pgcd_c p (cn (pderiv P)) (tz P) S n D0 hp (rp_sb (by omega) sd) (by omega) h.hE (by rw[npr_eq e,npr_eq ed];exact c0);rw[cp_ps (gcdp_as (.of_ps e) (.of_ps ed))]at d3;have gs:=gcdp_dsz (N:=30) h0 t30 (by omega) h.s;have gt:=(dv_tz (gcdp_gg P (pderiv P)).a h0).2;have d4:=over_g p (cn (gcdp P (pderiv P))) P (gcdp P (pderiv P)) e (ps_cn _) (hp.mono (by omega) (by omega)) (rp_sb (by omega) (gs.mono (by omega))) (gcdp_ne h0) (gcdp_gg P (pderiv P)).a h0 S h.s (by omega);have n1:¬(tz P:Int)-1<0:=by omega
 refine AC.by_walk (rs:=[.tmp 2]) ords Tryz.func105 (by rfl) (by rfl) (by rfl) (by rfl) (by rfl) ?_;simp (disch:=omega) only[wt,seval,reduceCtorEq,Nat.reduceEqDiff];refine call_by (d1) (by first|rfl|(simp only[tocvs,tocv,toboxes,tobox,updH_at,Nat.reduceEqDiff,↓reduceIte,n1];rfl)) (by simp) ?_;simp (disch:=omega) only[wt,seval,reduceCtorEq,Nat.reduceEqDiff,n1];refine call_by (d2) (by rfl) (by simp) ?_;simp (disch:=omega) only[wt,seval,reduceCtorEq,Nat.reduceEqDiff];refine call_by (d3) (by rfl) (by simp) ?_;simp (disch:=omega) only[wt,seval,reduceCtorEq,Nat.reduceEqDiff];refine call_by (d4) (by rfl) (by simp) ?_;simp (disch:=omega) only[wt,seval,reduceCtorEq,Nat.reduceEqDiff]
 try rfl
end Go.Proofs.YtbnincgnfiaemaaGreat
