/-
 Contracts of the functions that the law reaches.
-/
import Derived.Test.YtdpngipofekcfaaGreatL12M
import Derived.Test.YtdpngipofekcfaaGreatAbsS
set_option maxHeartbeats 2000000
namespace Go.Proofs.YtdpngipofekcfaaGreat
open Go Go.Proofs Go.AL
set_option linter.unusedSimpArgs false
set_option linter.unusedVariables false
abbrev RQ:=RI×List Nat
abbrev nJ (r:RQ):List IV:=[.bool r.1.1,.sl (bW r.1.2),.sl (bW r.2)]
def fD (l:List RQ):List (List IV):=l.map nJ
theorem a4Q (c:RI)(x:IV):lay (fun i=>[(0,2),(2,1)][i]?) [.bool false,.sl [],.sl []] ([0,1].zip [lQ c,[x]])=some ((2=2∧0+2≤3)∧(1=1∧2+1≤3)∧True,[.bool c.1,.sl (bW c.2),x]):=rfl
theorem AA (l:List RQ):(fD l).length=l.length:=by simp[fD]
def Nt (k:Nat)(l:List Nat):Prop:=l.length≤k∧Lim l
def SzQ (k:Nat)(r:RQ):Prop:=Sz k r.1∧Nt k r.2
def a9O (p:List RQ):Prop:=p.length≤9223372036854775807∧∀ c∈p,SzQ 9223372036854775807 c
def rq (n:Int)(d:Nat):RQ:=(canon (n/(Nat.gcd n.natAbs d:Nat)),wd (d/Nat.gcd n.natAbs d))
theorem XO {n:Int}{d:Nat}(hd:0<d):0<Nat.gcd n.natAbs d:=Nat.gcd_pos_of_pos_right _ hd
theorem ZP {n:Int}{d:Nat}(hd:0<d):∃ (g:Nat) (a:Int) (b:Nat),0<g∧0<b∧n=a*g∧d=b*g∧Nat.gcd a.natAbs b=1∧rq n d=(canon a,wd b):=by
 have hg:=XO (n:=n) hd;obtain⟨g,hgd⟩:∃ g,g=Nat.gcd n.natAbs d:=⟨_,rfl⟩;have h1:g∣n.natAbs:=by rw[hgd];exact Nat.gcd_dvd_left _ _
 have h2:g∣d:=by rw[hgd];exact Nat.gcd_dvd_right _ _
 rw[← hgd]at hg;obtain⟨b,hb⟩:=h2;obtain⟨a,ha⟩:(g:Int)∣n:=Int.ofNat_dvd_left.mpr h1;have hg':(g:Int)≠0:=by omega
 have hb0:0<b:=Nat.pos_of_ne_zero fun e=>by rw[e,Nat.mul_zero]at hb;omega
 refine⟨g,a,b,hg,hb0,by rw[ha,Int.mul_comm],by rw[hb,Nat.mul_comm],?_,?_⟩
 ·have e:Nat.gcd n.natAbs d=g*Nat.gcd a.natAbs b:=by rw[ha,hb,Int.natAbs_mul,Int.natAbs_natCast,Nat.gcd_mul_left]
  rw[← hgd]at e;exact Nat.eq_of_mul_eq_mul_left hg (by rw[← e,Nat.mul_one])
 ·unfold rq;rw[← hgd];rw[ha,hb,Int.mul_ediv_cancel_left _ hg',Nat.mul_div_cancel_left _ hg]
theorem a8F {n:Int}{d K L:Nat}(hd:0<d)(hn:zl n≤K)(hl:(wd d).length≤L):Sz K (rq n d).1∧Nt L (rq n d).2:=by
 obtain⟨g,a,b,hg,hb,rfl,rfl,hc,e⟩:=ZP (n:=n) hd;rw[e];refine⟨⟨?_,aO _⟩,?_,aO _⟩
 ·refine Nat.le_trans ?_ hn;show zl a≤zl (a*g);refine BH.mpr (Nat.lt_of_le_of_lt ?_ (BH.mp (Nat.le_refl (zl (a*g)))));rw[Int.natAbs_mul,Int.natAbs_natCast];exact Nat.le_mul_of_pos_right _ hg
 ·refine Nat.le_trans ?_ hl;refine bT.mpr (Nat.lt_of_le_of_lt ?_ (bT.mp (Nat.le_refl (wd (b*g)).length)));exact Nat.le_mul_of_pos_right _ hg
def qv (r:RQ):Rat:=mkRat (iv r.1) (nv r.2)
def aP (q:Rat):RQ:=(canon q.num,wd q.den)
theorem GK {n:Int}{d:Nat}(hd:d≠0):rq n d=aP (mkRat n d):=by
 have:mkRat n d=Rat.normalize n d hd:=Rat.mkRat_def n d |>.trans (by rw[dif_neg hd])
 rw[this,Rat.normalize_eq hd];rfl
theorem dB (q:Rat):qv (aP q)=q:=by
 unfold qv aP;rw[aN,bC];exact Rat.mkRat_self q
theorem Bg (q:Rat):nv (aP q).2≠0:=by
 show nv (wd q.den)≠0;rw[bC];exact q.den_nz
def qz (q:Rat):Nat:=max (zl q.num) (wd q.den).length
theorem a3z (q:Rat):SzQ (qz q) (aP q):=⟨(aW _).mono (Nat.le_max_left _ _),⟨Nat.le_max_right _ _,aO _⟩⟩
theorem Oz {n:Int}{d k:Nat}(hd:d≠0)(hn:zl n≤k)(h:(wd d).length≤k):qz (mkRat n d)≤k:=by
 have e:=GK (n:=n) hd;have s:=a8F (n:=n) (Nat.pos_of_ne_zero hd) hn h;rw[e]at s;refine Nat.max_le.2 ⟨?_,s.2.1⟩;have:=lI s.1;rwa [show iv (aP (mkRat n d)).1=(mkRat n d).num from aN _]at this
theorem a2s {r:RQ}{k:Nat}(h:SzQ k r)(hd:nv r.2≠0):qz (qv r)≤k :=
 Oz hd (lI h.1) (Nat.le_trans (fJ h.2.2) h.2.1)
theorem dQ (a b:Nat):(wd (a*b)).length≤(wd a).length+(wd b).length:=by
 have:=jL (a:Int) (b:Int);unfold zl at this;rwa [Int.natAbs_mul,Int.natAbs_natCast,Int.natAbs_natCast]at this
theorem jh (d:Nat):zl (d:Int)=(wd d).length:=rfl
theorem FD (p q:Rat):qz (p+q)≤qz p+qz q+1:=by
 have e:p+q=mkRat (p.num*q.den+q.num*p.den) (p.den*q.den):=by
  rw[← Rat.mkRat_add_mkRat _ _ p.den_nz q.den_nz,Rat.mkRat_self,Rat.mkRat_self]
 have h1:=Nat.le_max_left (zl p.num) (wd p.den).length;have h2:=Nat.le_max_right (zl p.num) (wd p.den).length;have h3:=Nat.le_max_left (zl q.num) (wd q.den).length;have h4:=Nat.le_max_right (zl q.num) (wd q.den).length;have m1:=jL p.num (q.den:Int);have m2:=jL q.num (p.den:Int);have m3:=Fe (p.num*q.den) (q.num*p.den);have m4:=dQ p.den q.den;rw[jh]at m1 m2;rw[e];unfold qz;exact Oz (Nat.mul_ne_zero p.den_nz q.den_nz) (by omega) (by omega)
theorem qQ (p q:Rat):qz (p*q)≤qz p+qz q:=by
 have e:p*q=mkRat (p.num*q.num) (p.den*q.den):=by
  rw[← Rat.mkRat_mul_mkRat,Rat.mkRat_self,Rat.mkRat_self]
 have h1:=Nat.le_max_left (zl p.num) (wd p.den).length;have h2:=Nat.le_max_right (zl p.num) (wd p.den).length;have h3:=Nat.le_max_left (zl q.num) (wd q.den).length;have h4:=Nat.le_max_right (zl q.num) (wd q.den).length;have m1:=jL p.num q.num;have m4:=dQ p.den q.den;rw[e];unfold qz;exact Oz (Nat.mul_ne_zero p.den_nz q.den_nz) (by omega) (by omega)
def evq:List Rat→Rat→Rat
 | [],_=>0
 | c::p,x=>c+x*evq p x
theorem lD:qz 0=1:=by decide +kernel
theorem KJ:qz 1=1:=by decide +kernel
def tzq:List Rat→Nat
 | []=>0
 | x::xs=>if tzq xs=0 then (if x=0 then 0 else 1) else tzq xs+1
def aI (q:List Rat):List Rat:=q.take (tzq q)
def cfq (q:List Rat)(k:Nat):Rat:=q.getD k 0
theorem uM:∀ q:List Rat,tzq q≤q.length
 | []=>Nat.le_refl _
 | x::xs=>by
  have:=uM xs;rw[tzq,List.length_cons];split
  ·split<;>omega
  ·omega
theorem jT (q:List Rat):(aI q).length=tzq q:=by rw[aI,List.length_take,Nat.min_eq_left (uM q)]
theorem eF {q:List Rat}{k:Nat}(h:q.length≤k):cfq q k=0:=by simp[cfq,List.getD,List.getElem?_eq_none h]
theorem jZ (x:Rat)(xs:List Rat):cfq (x::xs) 0=x:=rfl
theorem eH (x:Rat)(xs:List Rat)(k:Nat):cfq (x::xs) (k+1)=cfq xs k:=rfl
theorem jy (k:Nat):cfq [] k=0:=rfl
theorem kH {q:List Rat}{k:Nat}(h:k<q.length):cfq q k=q[k]:=by simp[cfq,List.getD,h]
theorem lJ:∀ {q:List Rat} {k:Nat},k<q.length→cfq q k=0→tzq (q.take (k+1))=tzq (q.take k)
 | [],k,h,_=>by simp at h
 | x::xs,0,_,h=>by
  have hx:x=0:=h;simp[tzq,hx]
 | x::xs,k+1,h,h0=>by
  have ih:=lJ (q:=xs) (k:=k) (by simpa using h) h0;rw[List.take_succ_cons,List.take_succ_cons,tzq,tzq,ih]
theorem vT:∀ {q:List Rat} {k:Nat},k<q.length→cfq q k≠0→tzq (q.take (k+1))=k+1
 | [],k,h,_=>by simp at h
 | x::xs,0,_,h=>by
  have hx:x≠0:=h;simp[tzq,hx]
 | x::xs,k+1,h,h0=>by
  have ih:=vT (q:=xs) (k:=k) (by simpa using h) h0;rw[List.take_succ_cons,tzq,ih,if_neg (by omega)]
theorem fU:∀ {q:List Rat},tzq q=0↔∀ k,cfq q k=0
 | []=>by simp[tzq,jy]
 | x::xs=>by
  rw[tzq];constructor
  ·intro h k;split at h
   ·rename_i h0;split at h
    ·rename_i hx;subst hx;cases k with
     | zero=>rfl
     | succ k=>exact fU.mp h0 k
    ·omega
   ·omega
  ·intro h;have h0:tzq xs=0:=fU.mpr fun k=>h (k+1)
   have hx:x=0:=h 0;rw[if_pos h0,if_pos hx]
theorem yA (x:Rat)(xs:List Rat):aI (x::xs)=if tzq xs=0∧x=0 then [] else x::aI xs:=by
 unfold aI;rw[tzq];by_cases h:tzq xs=0
 ·by_cases hx:x=0<;>simp[h,hx]
 ·simp[h]
theorem mJ:∀ {p q:List Rat},(∀ k,cfq p k=cfq q k)→aI p=aI q
 | [],q,h=>by
  have:tzq q=0:=fU.mpr fun k=>(h k).symm
  simp[aI,this]
 | x::xs,[],h=>by
  have:tzq (x::xs)=0:=fU.mpr fun k=>h k
  simp[aI,this]
 | x::xs,y::ys,h=>by
  have hx:x=y:=h 0;have ih:=mJ (p:=xs) (q:=ys) fun k=>h (k+1)
  have ht:tzq xs=0↔tzq ys=0:=by
   rw[fU,fU];exact forall_congr' fun k=>by rw[show cfq xs k=cfq ys k from h (k+1)]
  rw[yA,yA,hx,ih];simp only[ht]
theorem dZ:∀ (q:List Rat) (k:Nat),cfq (aI q) k=cfq q k
 | [],k=>by simp[aI]
 | x::xs,k=>by
  rw[yA];split
  ·rename_i h;cases k with
   | zero=>simp[jy,jZ,h.2]
   | succ k=>rw[eH,jy];exact(fU.mp h.1 k).symm
  ·cases k with
   | zero=>rfl
   | succ k=>rw[eH,eH,dZ xs k]
theorem dP (q:List Rat):aI (aI q)=aI q:=mJ (dZ q)
theorem JU {p q:List Rat}(h:∀ k,cfq p k=cfq q k):tzq p=tzq q:=by rw[← jT,← jT,mJ h]
def qvs (p:List RQ):List Rat:=p.map qv
def cqs (q:List Rat):List RQ:=(aI q).map aP
theorem gG (p:List RQ):(qvs p).length=p.length:=by simp[qvs]
theorem gV (q:List Rat):qvs (q.map aP)=q:=by
 simp only[qvs,List.map_map]
 conv=>rhs;rw[← List.map_id q]
 exact List.map_congr_left fun z _=>dB z
theorem iT {p q:List Rat}(h:∀ k,cfq p k=cfq q k):cqs p=cqs q:=by rw[cqs,cqs,mJ h]
theorem vS {q:List Rat}{n:Nat}(h:cfq q n≠0)(h0:∀ k,n<k→cfq q k=0):tzq q=n+1:=by
 have hn:n<q.length:=by
  rcases Nat.lt_or_ge n q.length with h'|h'
  ·exact h'
  ·exact(h (eF h')).elim
 have e:∀ k,cfq q k=cfq (q.take (n+1)) k:=by
  intro k;by_cases hk:k<n+1
  ·simp[cfq,List.getD,hk]
  ·rw[h0 k (by omega),eF (by rw[List.length_take];omega)]
 rw[JU e,vT hn h]
theorem fF {q:List Rat}(h:tzq q≠0):cfq q (tzq q-1)≠0:=by
 induction q with
 | nil=>simp[tzq]at h
 | cons x xs ih =>
  rw[tzq]at h ⊢;by_cases h0:tzq xs=0
  ·rw[if_pos h0]at h ⊢;by_cases hx:x=0
   ·simp[hx]at h
   ·rw[if_neg hx];exact hx
  ·rw[if_neg h0];have:=ih h0;rw[show tzq xs+1-1=(tzq xs-1)+1 by omega];exact this
def Zb (p q:List Rat):List Rat:=(List.range (max p.length q.length)).map fun k=>cfq p k+cfq q k
theorem J8 (p q:List Rat)(k:Nat):cfq (Zb p q) k=cfq p k+cfq q k:=by
 by_cases h:k<max p.length q.length
 ·simp only[Zb,cfq,List.getD,List.getElem?_map,List.getElem?_range h,Option.map_some,Option.getD_some]
 ·rw[eF (by simp[Zb];omega),eF (by omega),eF (by omega)];grind
def cvq:List Rat→(Nat→Rat)→Nat→Rat
 | [],_,_=>0
 | x::xs,g,k=>x*g k+match k with|0=>0|k+1=>cvq xs g k
def iO (p q:List Rat):List Rat:=(List.range (p.length+q.length)).map (cvq p (cfq q))
theorem IU:∀ (p:List Rat) (k:Nat),cvq p (cfq []) k=0
 | [],_=>rfl
 | x::xs,0=>by simp[cvq,jy]<;>grind
 | x::xs,k+1=>by simp[cvq,jy,IU xs k]<;>grind
theorem sG {g g':Nat→Rat}:∀ (p:List Rat) (k:Nat),(∀ j,g j=g' j)→cvq p g k=cvq p g' k
 | [],_,_=>rfl
 | x::xs,k,h=>by
  simp only[cvq,h k];cases k with
  | zero=>rfl
  | succ k=>simp only;rw[sG xs k h]
theorem IQ {g:Nat→Rat}:∀ (p:List Rat) {n k:Nat},(∀ j,n≤j→g j=0)→p.length+n≤k+1→cvq p g k=0
 | [],_,_,_,_=>rfl
 | x::xs,n,k,h,hk=>by
  simp only[List.length_cons]at hk;simp only[cvq,h k (by omega),Rat.mul_zero,Rat.zero_add];cases k with
  | zero=>rfl
  | succ k=>exact IQ xs h (by omega)
theorem fE (p q:List Rat)(k:Nat):cfq (iO p q) k=cvq p (cfq q) k:=by
 by_cases h:k<p.length+q.length
 ·simp only[iO];rw[cfq,List.getD,List.getElem?_map,List.getElem?_range h];rfl
 ·rw[eF (by simp[iO];omega),IQ p (n:=q.length) (fun j hj=>eF hj) (by omega)]
theorem xE {p p':List Rat}{g:Nat→Rat}(h:∀ j,cfq p j=cfq p' j):∀ k,cvq p g k=cvq p' g k:=by
 induction p generalizing p' with
 | nil =>
  intro k
  induction p' generalizing k with
  | nil=>rfl
  | cons y ys ih =>
   have hy:y=0:=(h 0).symm;simp only[cvq,hy,Rat.zero_mul,Rat.zero_add];cases k with
   | zero=>rfl
   | succ k=>exact ih (fun j=>h (j+1)) k
 | cons x xs ih =>
  intro k;cases p' with
  | nil =>
   have hx:x=0:=h 0;simp only[cvq,hx,Rat.zero_mul,Rat.zero_add];cases k with
   | zero=>rfl
   | succ k=>exact ih (p':=[]) (fun j=>h (j+1)) k
  | cons y ys =>
   have hx:x=y:=h 0;simp only[cvq,hx];cases k with
   | zero=>rfl
   | succ k=>simp only;rw[ih (p':=ys) (fun j=>h (j+1)) k]
theorem qE {g:Nat→Rat}:∀ (p:List Rat) (i k:Nat),cvq (p.take (i+1)) g k=cvq (p.take i) g k+(if i≤k then cfq p i*g (k-i) else 0)
 | [],i,k=>by simp[cvq,jy]<;>grind
 | x::xs,0,k=>by
  simp only[List.take_succ_cons,List.take_zero,cvq,jZ,Nat.sub_zero,Nat.zero_le,if_true];cases k<;>simp<;>grind
 | x::xs,i+1,k=>by
  simp only[List.take_succ_cons,cvq,eH];cases k with
  | zero=>simp<;>grind
  | succ k =>
   have:=qE (g:=g) xs i k;simp only[List.take_succ_cons]at this ⊢;rw[this];simp only[Nat.add_le_add_iff_right,Nat.add_sub_add_right]
   grind
def kG (g:Nat→Rat):Nat→Rat
 | 0=>0
 | k+1=>g k
theorem Pz (g h:Nat→Rat):∀ (p:List Rat) (k:Nat),cvq p (fun j=>g j+h j) k=cvq p g k+cvq p h k
 | [],_=>by simp only[cvq];grind
 | x::xs,0=>by simp only[cvq,Rat.mul_add];grind
 | x::xs,k+1=>by simp only[cvq,Pz g h xs k,Rat.mul_add];grind
theorem Sv (c:Rat)(g:Nat→Rat):∀ (p:List Rat) (k:Nat),cvq p (fun j=>c*g j) k=c*cvq p g k
 | [],_=>by simp[cvq]<;>grind
 | x::xs,0=>by simp only[cvq,Rat.add_zero];grind
 | x::xs,k+1=>by simp only[cvq,Sv c g xs k,Rat.mul_add];grind
theorem xB (g:Nat→Rat):∀ (p:List Rat) (k:Nat),cvq p (kG g) k=kG (cvq p g) k
 | [],0=>rfl
 | [],k+1=>rfl
 | x::xs,0=>by simp[cvq,kG]<;>grind
 | x::xs,1=>by simp[cvq,kG,xB g xs 0]<;>grind
 | x::xs,k+2=>by simp[cvq,kG,xB g xs (k+1)]<;>grind
theorem MN (x:Rat):∀ (q:List Rat) (k:Nat),cvq q (fun j=>if j=0 then x else 0) k=cfq q k*x
 | [],k=>by simp[cvq,jy]<;>grind
 | y::ys,0=>by simp[cvq,jZ]<;>grind
 | y::ys,k+1=>by simp[cvq,eH,MN x ys k]<;>grind
theorem a1D (x:Rat)(xs:List Rat)(j:Nat):cfq (x::xs) j=(if j=0 then x else 0)+kG (cfq xs) j:=by
 cases j<;>simp[jZ,eH,kG]<;>grind
theorem oq (x:Rat)(xs:List Rat)(g:Nat→Rat)(k:Nat):cvq (x::xs) g k=x*g k+kG (cvq xs g) k:=by
 cases k<;>rfl
theorem rJ {g h:Nat→Rat}(e:∀ j,g j=h j)(k:Nat):kG g k=kG h k:=by cases k<;>simp[kG,e]<;>grind
theorem xC:∀ (p q:List Rat) (k:Nat),cvq p (cfq q) k=cvq q (cfq p) k
 | [],q,k=>by rw[IU];rfl
 | x::xs,q,k=>by
  rw[oq,sG q k (a1D x xs),Pz,MN,xB,rJ (fun j=>xC xs q j),Rat.mul_comm]
theorem J6 (x:Rat)(xs q:List Rat)(j:Nat):cfq (iO (x::xs) q) j=x*cfq q j+kG (cfq (iO xs q)) j:=by
 rw[fE,oq,rJ (fun j=>(fE xs q j).symm)]
theorem MO:∀ (p q r:List Rat) (k:Nat),cvq (iO p q) (cfq r) k=cvq p (cfq (iO q r)) k
 | [],q,r,k=>by
  rw[xE (p':=[]) (fun j=>by rw[fE];rfl)];rfl
 | x::xs,q,r,k=>by
  rw[xC (iO (x::xs) q) r,sG r k (J6 x xs q),Pz,Sv,xB,oq,fE,xC q r]
  congr 1
  exact rJ (fun j=>by rw[xC,MO xs q r j]) k
theorem Xd (p q:List Rat)(k:Nat):cfq (iO p q) k=cfq (iO q p) k:=by rw[fE,fE,xC]
theorem Ua {p p' q q':List Rat}(hp:∀ k,cfq p k=cfq p' k)(hq:∀ k,cfq q k=cfq q' k)(k:Nat):cfq (iO p q) k=cfq (iO p' q') k:=by
 rw[fE,fE,xE hp,sG _ k hq]
def QK:Nat→(Nat→Rat)→Rat
 | 0,_=>0
 | n+1,f=>QK n f+f n
theorem FI {n:Nat}{f g:Nat→Rat}(h:∀ i,i<n→f i=g i):QK n f=QK n g:=by
 induction n with
 | zero=>rfl
 | succ n ih=>rw[QK,QK,ih (fun i hi=>h i (by omega)),h n (by omega)]
theorem KN {n:Nat}{f:Nat→Rat}(h:∀ i,i<n→f i=0):QK n f=0:=by
 induction n with
 | zero=>rfl
 | succ n ih=>rw[QK,ih (fun i hi=>h i (by omega)),h n (by omega)];grind
theorem FH (n:Nat)(f:Nat→Rat):QK (n+1) f=f 0+QK n (fun i=>f (i+1)):=by
 induction n with
 | zero=>simp only[QK];grind
 | succ n ih=>rw[QK,ih,QK];grind
structure PQ where
 c:Nat→Rat
namespace PQ
theorem ext {f g:PQ}(h:∀ k,f.c k=g.c k):f=g:=by
 cases f;cases g;congr;exact funext h
def conv (f g:Nat→Rat)(k:Nat):Rat:=QK (k+1) fun i=>f i*g (k-i)
instance:Add PQ:=⟨fun f g=>⟨fun k=>f.c k+g.c k⟩⟩
instance:Mul PQ:=⟨fun f g=>⟨conv f.c g.c⟩⟩
instance:Neg PQ:=⟨fun f=>⟨fun k=>- f.c k⟩⟩
instance:Sub PQ:=⟨fun f g=>⟨fun k=>f.c k-g.c k⟩⟩
instance:Zero PQ:=⟨⟨fun _=>0⟩⟩
def C (z:Rat):PQ:=⟨fun k=>if k=0 then z else 0⟩
instance:One PQ:=⟨C 1⟩
def X:PQ:=⟨fun k=>if k=1 then 1 else 0⟩
theorem c_C (z:Rat)(k:Nat):(C z).c k=if k=0 then z else 0:=rfl
theorem a9g (k:Nat):(1:PQ).c k=if k=0 then 1 else 0:=rfl
theorem xM (f g:PQ)(k:Nat):(f*g).c k=conv f.c g.c k:=rfl
theorem uw:∀ (p:List Rat) (g:Nat→Rat) (k:Nat),cvq p g k=conv (cfq p) g k
 | [],g,k=>by simp only[cvq,conv];rw[KN];intro i _;rw[jy,Rat.zero_mul]
 | x::xs,g,k=>by
  rw[oq,conv,FH];simp only[jZ,Nat.sub_zero,eH]
  congr 1
  cases k with
  | zero=>rfl
  | succ k =>
   show cvq xs g k=_;rw[uw xs g k,conv];exact FI fun i hi=>by congr 2;omega
def cut (n:Nat)(f:Nat→Rat):List Rat:=(List.range n).map f
theorem J7 {n:Nat}{f:Nat→Rat}{i:Nat}(h:i<n):cfq (cut n f) i=f i:=by
 simp[cut,cfq,List.getD,h]<;>grind
theorem kS {f f' g g':Nat→Rat}{k:Nat}(hf:∀ i,i≤k→f i=f' i)(hg:∀ i,i≤k→g i=g' i):conv f g k=conv f' g' k :=
 FI fun i hi=>by rw[hf i (by omega),hg (k-i) (by omega)]
theorem lX (f g:Nat→Rat){n k:Nat}(h:k<n):conv f g k=cfq (iO (cut n f) (cut n g)) k:=by
 rw[fE,uw];exact kS (fun i hi=>(J7 (by omega)).symm) (fun i hi=>(J7 (by omega)).symm)
theorem mul_comm (f g:PQ):f*g=g*f:=ext fun k=>by
 rw[xM,xM,lX _ _ (Nat.lt_succ_self k),lX _ _ (Nat.lt_succ_self k),Xd]
theorem mul_assoc (f g h:PQ):f*g*h=f*(g*h):=ext fun k=>by
 rw[xM,xM];have e1:conv (f*g).c h.c k=conv (cfq (iO (cut (k+1) f.c) (cut (k+1) g.c))) (cfq (cut (k+1) h.c)) k :=
  kS (fun i hi=>by rw[xM,lX f.c g.c (n:=k+1) (by omega)]) (fun i hi=>(J7 (by omega)).symm)
 have e2:conv f.c (g*h).c k=conv (cfq (cut (k+1) f.c)) (cfq (iO (cut (k+1) g.c) (cut (k+1) h.c))) k :=
  kS (fun i hi=>(J7 (by omega)).symm) (fun i hi=>by rw[xM,lX g.c h.c (n:=k+1) (by omega)])
 rw[e1,e2,← uw,← uw,MO]
theorem add_comm (f g:PQ):f+g=g+f:=ext fun k=>Rat.add_comm _ _
theorem add_assoc (f g h:PQ):f+g+h=f+(g+h):=ext fun k=>Rat.add_assoc _ _ _
theorem Js (z:Rat)(f:PQ)(k:Nat):(C z*f).c k=z*f.c k:=by
 rw[xM,conv,FH,KN (fun i _=>by rw[c_C,if_neg (by omega),Rat.zero_mul]),Rat.add_zero,c_C,if_pos rfl,Nat.sub_zero]
theorem one_mul (f:PQ):1*f=f:=ext fun k=>by
 show (C 1*f).c k=_;rw[Js,Rat.one_mul]
theorem a9n (a b:Rat):C (a*b)=C a*C b:=ext fun k=>by
 rw[Js,c_C,c_C];split<;>simp
instance:Std.Associative (α:=PQ) (· * ·):=⟨mul_assoc⟩
instance:Std.Commutative (α:=PQ) (· * ·):=⟨mul_comm⟩
instance:Std.Associative (α:=PQ) (· + ·):=⟨add_assoc⟩
instance:Std.Commutative (α:=PQ) (· + ·):=⟨add_comm⟩
def D (f:PQ):PQ:=⟨fun k=>f.c (k+1)*((k+1:Nat):Rat)⟩
end PQ
def pq (q:List Rat):PQ:=⟨cfq q⟩
theorem a4o (q:List Rat)(k:Nat):(pq q).c k=cfq q k:=rfl
theorem a8I {p q:List Rat}(h:pq p=pq q)(k:Nat):cfq p k=cfq q k:=by rw[← a4o,h,a4o]
theorem OI (p q:List Rat):pq (iO p q)=pq p*pq q:=PQ.ext fun k=>by rw[a4o,fE,PQ.uw];rfl
theorem a6H:pq [1]=1:=PQ.ext fun k=>by
 rw[PQ.a9g,a4o];cases k with
 | zero=>rfl
 | succ k=>rw[eH,jy,if_neg (by omega)]
def qC (p:List Rat):List Rat:=(List.range (p.length-1)).map fun k=>cfq p (k+1)*((k+1:Nat):Rat)
theorem uD (p:List Rat)(k:Nat):cfq (qC p) k=cfq p (k+1)*((k+1:Nat):Rat):=by
 by_cases h:k<p.length-1
 ·rw[qC,cfq,List.getD,List.getElem?_map,List.getElem?_range h];rfl
 ·rw[eF (by simp[qC];omega),eF (q:=p) (by omega),Rat.zero_mul]
def a8J (p:List Rat):Nat→List Rat
 | 0=>[1]
 | n+1=>iO p (a8J p n)
end Go.Proofs.YtdpngipofekcfaaGreat
