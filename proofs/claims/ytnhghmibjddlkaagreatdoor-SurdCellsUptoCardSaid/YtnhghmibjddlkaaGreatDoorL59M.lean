/-
 Contracts of the functions that the law reaches.
-/
import Derived.Test.YtnhghmibjddlkaaGreatDoorL12M
import Derived.Test.YtnhghmibjddlkaaGreatDoorAbsS
import Derived.Test.YtnhghmibjddlkaaGreatDoorAbsX
import Derived.Test.YtnhghmibjddlkaaGreatDoorL31M
import Derived.Test.YtnhghmibjddlkaaGreatDoorL23M
import Derived.Test.YtnhghmibjddlkaaGreatDoorL46M
set_option maxHeartbeats 2000000
namespace Go.Proofs.YtnhghmibjddlkaaGreatDoor
open Go Go.Proofs Go.AL
set_option linter.unusedSimpArgs false
set_option linter.unusedVariables false
abbrev RQ:=RI×List Nat
abbrev oh (r:RQ):List IV:=[.bool r.1.1,.sl (dJ r.1.2),.sl (dJ r.2)]
def lD (l:List RQ):List (List IV):=l.map oh
theorem a7i (c:RI)(x:IV):lay (λi=>[(0,2),(2,1)][i]?) [.bool false,.sl [],.sl []] ([0,1].zip [je c,[x]])=some ((2=2/\0+2<=3)/\(1=1/\2+1<=3)/\True,[.bool c.1,.sl (dJ c.2),x]):=rfl
theorem a1p (l:List RQ):(lD l).length=l.length:=by simp[lD]
def Nt (k:Nat)(l:List Nat):Prop:=l.length<=k/\Lim l
def SzQ (k:Nat)(r:RQ):Prop:=Sz k r.1/\Nt k r.2
def b3U (p:List RQ):Prop:=p.length<=9223372036854775807/\∀c∈p,SzQ 9223372036854775807 c
def rq (n:Int)(d:Nat):RQ:=(canon (n/(Nat.gcd n.natAbs d:Nat)),wd (d/Nat.gcd n.natAbs d))
theorem Yu {n:Int}{d:Nat}(hd:0<d):0<Nat.gcd n.natAbs d:=Nat.gcd_pos_of_pos_right _ hd
theorem a0Y {n:Int}{d:Nat}(hd:0<d):∃(g:Nat) (a:Int) (b:Nat),0<g/\0<b/\n=a*g/\d=b*g/\Nat.gcd a.natAbs b=1/\rq n d=(canon a,wd b):=by
 have hg:=Yu (n:=n) hd;obtain⟨g,hgd⟩:∃g,g=Nat.gcd n.natAbs d:=⟨_,rfl⟩;have h1:g∣n.natAbs:=by rw[hgd];exact Nat.gcd_dvd_left _ _
 have h2:g∣d:=by rw[hgd];exact Nat.gcd_dvd_right _ _
 rw[<-hgd]at hg;obtain⟨b,hb⟩:=h2;obtain⟨a,ha⟩:(g:Int)∣n:=Int.ofNat_dvd_left.mpr h1;have hg':(g:Int)≠0:=by omega
 have hb0:0<b:=Nat.pos_of_ne_zero λe=>by rw[e,Nat.mul_zero]at hb;omega
 refine⟨g,a,b,hg,hb0,by rw[ha,Int.mul_comm],by rw[hb,Nat.mul_comm],?_,?_⟩
 .have e:Nat.gcd n.natAbs d=g*Nat.gcd a.natAbs b:=by rw[ha,hb,Int.natAbs_mul,Int.natAbs_natCast,Nat.gcd_mul_left]
  rw[<-hgd]at e;exact Nat.eq_of_mul_eq_mul_left hg (by rw[<-e,Nat.mul_one])
 .unfold rq;rw[<-hgd];rw[ha,hb,Int.mul_ediv_cancel_left _ hg',Nat.mul_div_cancel_left _ hg]
theorem b2E {n:Int}{d K L:Nat}(hd:0<d)(hn:zl n<=K)(hl:(wd d).length<=L):Sz K (rq n d).1/\Nt L (rq n d).2:=by
 obtain⟨g,a,b,hg,hb,rfl,rfl,hc,e⟩:=a0Y (n:=n) hd;rw[e];refine⟨⟨?_,bY _⟩,?_,bY _⟩
 .refine Nat.le_trans ?_ hn;show zl a<=zl (a*g);refine dR.mpr (Nat.lt_of_le_of_lt ?_ (dR.mp (Nat.le_refl (zl (a*g)))));rw[Int.natAbs_mul,Int.natAbs_natCast];exact Nat.le_mul_of_pos_right _ hg
 .refine Nat.le_trans ?_ hl;refine dH.mpr (Nat.lt_of_le_of_lt ?_ (dH.mp (Nat.le_refl (wd (b*g)).length)));exact Nat.le_mul_of_pos_right _ hg
def qv (r:RQ):Rat:=mkRat (iv r.1) (nv r.2)
def uf (q:Rat):RQ:=(canon q.num,wd q.den)
theorem WC {n:Int}{d:Nat}(hd:d≠0):rq n d=uf (mkRat n d):=by
 have:mkRat n d=Rat.normalize n d hd:=Rat.mkRat_def n d |>.trans (by rw[dif_neg hd])
 rw[this,Rat.normalize_eq hd];rfl
theorem Cb (q:Rat):qv (uf q)=q:=by
 unfold qv uf;rw[aU,dU];exact Rat.mkRat_self q
theorem Ip (q:Rat):nv (uf q).2≠0:=by
 show nv (wd q.den)≠0;rw[dU];exact q.den_nz
def qz (q:Rat):Nat:=max (zl q.num) (wd q.den).length
theorem Nk (q:Rat):SzQ (qz q) (uf q):=⟨(aW _).mono (Nat.le_max_left _ _),⟨Nat.le_max_right _ _,bY _⟩⟩
theorem a9X {n:Int}{d k:Nat}(hd:d≠0)(hn:zl n<=k)(h:(wd d).length<=k):qz (mkRat n d)<=k:=by
 have e:=WC (n:=n) hd;have s:=b2E (n:=n) (Nat.pos_of_ne_zero hd) hn h;rw[e]at s;refine Nat.max_le.2 ⟨?_,s.2.1⟩;have:=rG s.1;rwa [show iv (uf (mkRat n d)).1=(mkRat n d).num from aU _]at this
theorem a9u (d:Nat):zl (d:Int)=(wd d).length:=rfl
def evq:List Rat->Rat->Rat
 |[],_=>0
 |c::p,x=>c+x*evq p x
def tzq:List Rat->Nat
 |[]=>0
 |x::xs=>if tzq xs=0 then (if x=0 then 0 else 1) else tzq xs+1
def mW (q:List Rat):List Rat:=q.take (tzq q)
def cfq (q:List Rat)(k:Nat):Rat:=q.getD k 0
theorem VG:∀q:List Rat,tzq q<=q.length
 |[]=>Nat.le_refl _
 |x::xs=>by
  have:=VG xs;rw[tzq,List.length_cons];split
  .split<;>omega
  .omega
theorem oJ (q:List Rat):(mW q).length=tzq q:=by rw[mW,List.length_take,Nat.min_eq_left (VG q)]
theorem Lp {q:List Rat}{k:Nat}(h:q.length<=k):cfq q k=0:=by simp[cfq,List.getD,List.getElem?_eq_none h]
theorem lV (x:Rat)(xs:List Rat):cfq (x::xs) 0=x:=rfl
theorem jd (x:Rat)(xs:List Rat)(k:Nat):cfq (x::xs) (k+1)=cfq xs k:=rfl
theorem vZ (k:Nat):cfq [] k=0:=rfl
theorem b1u {q:List Rat}{k:Nat}(h:k<q.length):cfq q k=q[k]:=by simp[cfq,List.getD,h]
theorem PV:∀{q:List Rat} {k:Nat},k<q.length->cfq q k≠0->tzq (q.take (k+1))=k+1
 |[],k,h,_=>by simp at h
 |x::xs,0,_,h=>by
  have hx:x≠0:=h;simp[tzq,hx]
 |x::xs,k+1,h,h0=>by
  have ih:=PV (q:=xs) (k:=k) (by simpa using h) h0;rw[List.take_succ_cons,tzq,ih,if_neg (by omega)]
theorem iP:∀{q:List Rat},tzq q=0↔∀k,cfq q k=0
 |[]=>by simp[tzq,vZ]
 |x::xs=>by
  rw[tzq];constructor
  .intro h k;split at h
   .rename_i h0;split at h
    .rename_i hx;subst hx;cases k with
     |zero=>rfl
     |succ k=>exact iP.mp h0 k
    .omega
   .omega
  .intro h;have h0:tzq xs=0:=iP.mpr λk=>h (k+1)
   have hx:x=0:=h 0;rw[if_pos h0,if_pos hx]
theorem yG (x:Rat)(xs:List Rat):mW (x::xs)=if tzq xs=0/\x=0 then [] else x::mW xs:=by
 unfold mW;rw[tzq];by_cases h:tzq xs=0
 .by_cases hx:x=0<;>simp[h,hx]
 .simp[h]
theorem BF:∀{p q:List Rat},(∀k,cfq p k=cfq q k)->mW p=mW q
 |[],q,h=>by
  have:tzq q=0:=iP.mpr λk=>(h k).symm
  simp[mW,this]
 |x::xs,[],h=>by
  have:tzq (x::xs)=0:=iP.mpr λk=>h k
  simp[mW,this]
 |x::xs,y::ys,h=>by
  have hx:x=y:=h 0;have ih:=BF (p:=xs) (q:=ys) λk=>h (k+1)
  have ht:tzq xs=0↔tzq ys=0:=by
   rw[iP,iP];exact forall_congr' λk=>by rw[show cfq xs k=cfq ys k from h (k+1)]
  rw[yG,yG,hx,ih];simp only[ht]
theorem Lm:∀(q:List Rat) (k:Nat),cfq (mW q) k=cfq q k
 |[],k=>by simp[mW]
 |x::xs,k=>by
  rw[yG];split
  .rename_i h;cases k with
   |zero=>simp[vZ,lV,h.2]
   |succ k=>rw[jd,vZ];exact(iP.mp h.1 k).symm
  .cases k with
   |zero=>rfl
   |succ k=>rw[jd,jd,Lm xs k]
theorem Nb (q:List Rat):mW (mW q)=mW q:=BF (Lm q)
theorem Jt {p q:List Rat}(h:∀k,cfq p k=cfq q k):tzq p=tzq q:=by rw[<-oJ,<-oJ,BF h]
def qvs (p:List RQ):List Rat:=p.map qv
theorem a6v (p:List RQ):(qvs p).length=p.length:=by simp[qvs]
theorem a7L {p q:List Rat}(x:Rat)(h:∀k,cfq p k=cfq q k):evq p x=evq q x:=by
 have z:∀{p:List Rat},(∀k,cfq p k=0)->evq p x=0:=λ{p}=>by
  induction p with
  |nil=>exact λ_=>rfl
  |cons c p ih =>
   intro hk;have h0:c=0:=hk 0;rw[evq,ih λk=>hk (k+1),h0]
   grind
 induction p generalizing q with
 |nil=>rw[evq,z λk=>(h k).symm]
 |cons c p ih =>
  cases q with
  |nil=>rw[z (p:=c::p) λk=>h k];rfl
  |cons d q =>
   have h0:c=d:=h 0;rw[evq,evq,ih λk=>h (k+1),h0]
theorem a0H {q:List Rat}{n:Nat}(h:cfq q n≠0)(h0:∀k,n<k->cfq q k=0):tzq q=n+1:=by
 have hn:n<q.length:=by
  rcases Nat.lt_or_ge n q.length with h'|h'
  .exact h'
  .exact(h (Lp h')).elim
 have e:∀k,cfq q k=cfq (q.take (n+1)) k:=by
  intro k;by_cases hk:k<n+1
  .simp[cfq,List.getD,List.getElem?_take,hk]
  .rw[h0 k (by omega),Lp (by rw[List.length_take];omega)]
 rw[Jt e,PV hn h]
theorem zU {q:List Rat}(h:tzq q≠0):cfq q (tzq q-1)≠0:=by
 induction q with
 |nil=>simp[tzq]at h
 |cons x xs ih =>
  rw[tzq]at h ⊢;by_cases h0:tzq xs=0
  .rw[if_pos h0]at h ⊢;by_cases hx:x=0
   .simp[hx]at h
   .rw[if_neg hx];exact hx
  .rw[if_neg h0];have:=ih h0;rw[show tzq xs+1-1=(tzq xs-1)+1 by omega];exact this
def cvq:List Rat->(Nat->Rat)->Nat->Rat
 |[],_,_=>0
 |x::xs,g,k=>x*g k+match k with|0=>0|k+1=>cvq xs g k
def Uc (p q:List Rat):List Rat:=(List.range (p.length+q.length)).map (cvq p (cfq q))
theorem RD:∀(p:List Rat) (k:Nat),cvq p (cfq []) k=0
 |[],_=>rfl
 |x::xs,0=>by simp[cvq,vZ]<;>grind
 |x::xs,k+1=>by simp[cvq,vZ,RD xs k]<;>grind
theorem Dq {g g':Nat->Rat}:∀(p:List Rat) (k:Nat),(∀j,g j=g' j)->cvq p g k=cvq p g' k
 |[],_,_=>rfl
 |x::xs,k,h=>by
  simp only[cvq,h k];cases k with
  |zero=>rfl
  |succ k=>simp only;rw[Dq xs k h]
theorem Ry {g:Nat->Rat}:∀(p:List Rat) {n k:Nat},(∀j,n<=j->g j=0)->p.length+n<=k+1->cvq p g k=0
 |[],_,_,_,_=>rfl
 |x::xs,n,k,h,hk=>by
  simp only[List.length_cons]at hk;simp only[cvq,h k (by omega),Rat.mul_zero,Rat.zero_add];cases k with
  |zero=>rfl
  |succ k=>exact Ry xs h (by omega)
theorem qQ (p q:List Rat)(k:Nat):cfq (Uc p q) k=cvq p (cfq q) k:=by
 by_cases h:k<p.length+q.length
 .simp only[Uc];rw[cfq,List.getD,List.getElem?_map,List.getElem?_range h];rfl
 .rw[Lp (by simp[Uc];omega),Ry p (n:=q.length) (λj hj=>Lp hj) (by omega)]
theorem Iq {p p':List Rat}{g:Nat->Rat}(h:∀j,cfq p j=cfq p' j):∀k,cvq p g k=cvq p' g k:=by
 induction p generalizing p' with
 |nil =>
  intro k
  induction p' generalizing k with
  |nil=>rfl
  |cons y ys ih =>
   have hy:y=0:=(h 0).symm;simp only[cvq,hy,Rat.zero_mul,Rat.zero_add];cases k with
   |zero=>rfl
   |succ k=>exact ih (λj=>h (j+1)) k
 |cons x xs ih =>
  intro k;cases p' with
  |nil =>
   have hx:x=0:=h 0;simp only[cvq,hx,Rat.zero_mul,Rat.zero_add];cases k with
   |zero=>rfl
   |succ k=>exact ih (p':=[]) (λj=>h (j+1)) k
  |cons y ys =>
   have hx:x=y:=h 0;simp only[cvq,hx];cases k with
   |zero=>rfl
   |succ k=>simp only;rw[ih (p':=ys) (λj=>h (j+1)) k]
def rC (g:Nat->Rat):Nat->Rat
 |0=>0
 |k+1=>g k
theorem OC (g h:Nat->Rat):∀(p:List Rat) (k:Nat),cvq p (λj=>g j+h j) k=cvq p g k+cvq p h k
 |[],_=>by simp only[cvq];grind
 |x::xs,0=>by simp only[cvq,Rat.mul_add];grind
 |x::xs,k+1=>by simp only[cvq,OC g h xs k,Rat.mul_add];grind
theorem Rz (c:Rat)(g:Nat->Rat):∀(p:List Rat) (k:Nat),cvq p (λj=>c*g j) k=c*cvq p g k
 |[],_=>by simp[cvq]<;>grind
 |x::xs,0=>by simp only[cvq,Rat.add_zero];grind
 |x::xs,k+1=>by simp only[cvq,Rz c g xs k,Rat.mul_add];grind
theorem xO (g:Nat->Rat):∀(p:List Rat) (k:Nat),cvq p (rC g) k=rC (cvq p g) k
 |[],0=>rfl
 |[],k+1=>rfl
 |x::xs,0=>by simp[cvq,rC]<;>grind
 |x::xs,1=>by simp[cvq,rC,xO g xs 0]<;>grind
 |x::xs,k+2=>by simp[cvq,rC,xO g xs (k+1)]<;>grind
theorem Le (x:Rat):∀(q:List Rat) (k:Nat),cvq q (λj=>if j=0 then x else 0) k=cfq q k*x
 |[],k=>by simp[cvq,vZ]<;>grind
 |y::ys,0=>by simp[cvq,lV]<;>grind
 |y::ys,k+1=>by simp[cvq,jd,Le x ys k]<;>grind
theorem a3g (x:Rat)(xs:List Rat)(j:Nat):cfq (x::xs) j=(if j=0 then x else 0)+rC (cfq xs) j:=by
 cases j<;>simp[lV,jd,rC]<;>grind
theorem AY (x:Rat)(xs:List Rat)(g:Nat->Rat)(k:Nat):cvq (x::xs) g k=x*g k+rC (cvq xs g) k:=by
 cases k<;>rfl
theorem sO {g h:Nat->Rat}(e:∀j,g j=h j)(k:Nat):rC g k=rC h k:=by cases k<;>simp[rC,e]<;>grind
theorem xP:∀(p q:List Rat) (k:Nat),cvq p (cfq q) k=cvq q (cfq p) k
 |[],q,k=>by rw[RD];rfl
 |x::xs,q,k=>by
  rw[AY,Dq q k (a3g x xs),OC,Le,xO,sO (λj=>xP xs q j),Rat.mul_comm]
theorem IG (x:Rat)(xs q:List Rat)(j:Nat):cfq (Uc (x::xs) q) j=x*cfq q j+rC (cfq (Uc xs q)) j:=by
 rw[qQ,AY,sO (λj=>(qQ xs q j).symm)]
theorem Lh:∀(p q r:List Rat) (k:Nat),cvq (Uc p q) (cfq r) k=cvq p (cfq (Uc q r)) k
 |[],q,r,k=>by
  rw[Iq (p':=[]) (λj=>by rw[qQ];rfl)];rfl
 |x::xs,q,r,k=>by
  rw[xP (Uc (x::xs) q) r,Dq r k (IG x xs q),OC,Rz,xO,AY,qQ,xP q r]
  congr 1
  exact sO (λj=>by rw[xP,Lh xs q r j]) k
theorem XO (p q:List Rat)(k:Nat):cfq (Uc p q) k=cfq (Uc q p) k:=by rw[qQ,qQ,xP]
def TS:Nat->(Nat->Rat)->Rat
 |0,_=>0
 |n+1,f=>TS n f+f n
theorem EJ {n:Nat}{f g:Nat->Rat}(h:∀i,i<n->f i=g i):TS n f=TS n g:=by
 induction n with
 |zero=>rfl
 |succ n ih=>rw[TS,TS,ih (λi hi=>h i (by omega)),h n (by omega)]
theorem WY {n:Nat}{f:Nat->Rat}(h:∀i,i<n->f i=0):TS n f=0:=by
 induction n with
 |zero=>rfl
 |succ n ih=>rw[TS,ih (λi hi=>h i (by omega)),h n (by omega)];grind
theorem TR (n:Nat)(f:Nat->Rat):TS (n+1) f=f 0+TS n (λi=>f (i+1)):=by
 induction n with
 |zero=>simp only[TS];grind
 |succ n ih=>rw[TS,ih,TS];grind
structure PQ where
 c:Nat->Rat
namespace PQ
theorem ext {f g:PQ}(h:∀k,f.c k=g.c k):f=g:=by
 cases f;cases g;congr;exact funext h
def conv (f g:Nat->Rat)(k:Nat):Rat:=TS (k+1) λi=>f i*g (k-i)
instance:Add PQ:=⟨λf g=>⟨λk=>f.c k+g.c k⟩⟩
instance:Mul PQ:=⟨λf g=>⟨conv f.c g.c⟩⟩
instance:Neg PQ:=⟨λf=>⟨λk=>- f.c k⟩⟩
instance:Sub PQ:=⟨λf g=>⟨λk=>f.c k-g.c k⟩⟩
instance:Zero PQ:=⟨⟨λ_=>0⟩⟩
def C (z:Rat):PQ:=⟨λk=>if k=0 then z else 0⟩
instance:One PQ:=⟨C 1⟩
def X:PQ:=⟨λk=>if k=1 then 1 else 0⟩
theorem oC (f g:PQ)(k:Nat):(f*g).c k=conv f.c g.c k:=rfl
theorem AX:∀(p:List Rat) (g:Nat->Rat) (k:Nat),cvq p g k=conv (cfq p) g k
 |[],g,k=>by simp only[cvq,conv];rw[WY];intro i _;rw[vZ,Rat.zero_mul]
 |x::xs,g,k=>by
  rw[AY,conv,TR];simp only[lV,Nat.sub_zero,jd]
  congr 1
  cases k with
  |zero=>rfl
  |succ k =>
   show cvq xs g k=_;rw[AX xs g k,conv];exact EJ λi hi=>by congr 2;omega
def cut (n:Nat)(f:Nat->Rat):List Rat:=(List.range n).map f
theorem II {n:Nat}{f:Nat->Rat}{i:Nat}(h:i<n):cfq (cut n f) i=f i:=by
 simp[cut,cfq,List.getD,h]<;>grind
theorem kK {f f' g g':Nat->Rat}{k:Nat}(hf:∀i,i<=k->f i=f' i)(hg:∀i,i<=k->g i=g' i):conv f g k=conv f' g' k :=
 EJ λi hi=>by rw[hf i (by omega),hg (k-i) (by omega)]
theorem lU (f g:Nat->Rat){n k:Nat}(h:k<n):conv f g k=cfq (Uc (cut n f) (cut n g)) k:=by
 rw[qQ,AX];exact kK (λi hi=>(II (by omega)).symm) (λi hi=>(II (by omega)).symm)
theorem mul_comm (f g:PQ):f*g=g*f:=ext λk=>by
 rw[oC,oC,lU _ _ (Nat.lt_succ_self k),lU _ _ (Nat.lt_succ_self k),XO]
theorem mul_assoc (f g h:PQ):f*g*h=f*(g*h):=ext λk=>by
 rw[oC,oC];have e1:conv (f*g).c h.c k=conv (cfq (Uc (cut (k+1) f.c) (cut (k+1) g.c))) (cfq (cut (k+1) h.c)) k :=
  kK (λi hi=>by rw[oC,lU f.c g.c (n:=k+1) (by omega)]) (λi hi=>(II (by omega)).symm)
 have e2:conv f.c (g*h).c k=conv (cfq (cut (k+1) f.c)) (cfq (Uc (cut (k+1) g.c) (cut (k+1) h.c))) k :=
  kK (λi hi=>(II (by omega)).symm) (λi hi=>by rw[oC,lU g.c h.c (n:=k+1) (by omega)])
 rw[e1,e2,<-AX,<-AX,Lh]
theorem add_comm (f g:PQ):f+g=g+f:=ext λk=>Rat.add_comm _ _
theorem add_assoc (f g h:PQ):f+g+h=f+(g+h):=ext λk=>Rat.add_assoc _ _ _
instance:Std.Associative (α:=PQ) (· * ·):=⟨mul_assoc⟩
instance:Std.Commutative (α:=PQ) (· * ·):=⟨mul_comm⟩
instance:Std.Associative (α:=PQ) (· + ·):=⟨add_assoc⟩
instance:Std.Commutative (α:=PQ) (· + ·):=⟨add_comm⟩
def D (f:PQ):PQ:=⟨λk=>f.c (k+1)*((k+1:Nat):Rat)⟩
end PQ

structure Dvr (b:List Nat):Prop where
 dig:Dig b
 pos:0<b.length
 top:b.getD (b.length-1) 0≠0
def hlen (H:Hp)(h:Nat):Nat:=match H h with
 |.blk _ _ _ _ rows=>rows.length
 |_=>0


abbrev cqq (r:RQ):CV:=.agg (oh r)
abbrev cqz (q:Rat):CV:=cqq (uf q)
abbrev cqw (l:List RQ):CV:=.iv (.sl (lD l))
abbrev q0:RQ:=((false,[]),[])
theorem a1q {l:List RQ}{i:Nat}(h:i<l.length):(lD l).getD i []=oh (l.getD i q0):=by simp[lD,List.getD,h]
theorem JV (p:List RQ):(∀r∈lD p,r.length=3)↔True:=by
 simp only[iff_true];intro r hr;obtain⟨c,_,rfl⟩:=List.mem_map.1 hr;rfl
theorem WW (p:List RQ)(c:RQ):lD p++[oh c]=lD (p++[c]):=by simp[lD]
theorem a1o:lD []=[]:=rfl
theorem a1m (p:List RQ)(i:Nat)(c:RQ):(lD p).set i (oh c)=lD (p.set i c):=by simp[lD,List.map_set]
theorem WV (p:List RQ)(k:Nat):(lD p).take k=lD (p.take k):=by simp[lD,List.map_take]
theorem a1n (n:Nat):List.replicate n [IV.bool false,IV.sl [],IV.sl []]=lD (List.replicate n q0):=by rw[lD,List.map_replicate];rfl
theorem X3 (r:RQ):List.take 3 (oh r)=oh r:=rfl
theorem TU (r:RQ):List.drop 2 (oh r)=[.sl (dJ r.2)]:=rfl
theorem TV (r:RQ):List.drop 1 (oh r)=[.sl (dJ r.1.2),.sl (dJ r.2)]:=rfl
theorem TT (r:RQ):List.take 2 (oh r)=je r.1:=rfl
theorem X4 (r:RQ)(c:RI):splice (oh r) 0 (je c)=oh (c,r.2):=rfl
theorem a1t (r:RQ):(oh r).length=3:=rfl
theorem NC (x y z:IV)(r:RQ):splice [x,y,z] 0 (oh r)=oh r:=rfl
theorem a1s (r:RQ):[IV.bool r.1.1,IV.sl (dJ r.1.2),IV.sl (dJ r.2)]=oh r:=rfl
theorem rqs:(∀l:List RQ,(lD l).length=l.length)/\(∀{l:List RQ} {i:Nat},i<l.length->(lD l).getD i []=oh (l.getD i q0)) /\
  (∀(c:RI) (x:IV),lay (λi=>[(0,2),(2,1)][i]?) [.bool false,.sl [],.sl []] ([0,1].zip [je c,[x]])=some ((2=2/\0+2<=3)/\(1=1/\2+1<=3)/\True,[.bool c.1,.sl (dJ c.2),x])) /\
  (∀r:RQ,List.take 3 (oh r)=oh r)/\(∀r:RQ,(oh r).length=3)/\(∀(x y z:IV) (r:RQ),splice [x,y,z] 0 (oh r)=oh r)/\(∀r:RQ,[IV.bool r.1.1,IV.sl (dJ r.1.2),IV.sl (dJ r.2)]=oh r) /\
  (∀p:List RQ,(∀r∈lD p,r.length=3)↔True)/\(∀(p:List RQ) (c:RQ),lD p++[oh c]=lD (p++[c]))/\(∀(p:List RQ) (i:Nat) (c:RQ),(lD p).set i (oh c)=lD (p.set i c)) /\
  (∀(p:List RQ) (k:Nat),(lD p).take k=lD (p.take k))/\(∀n:Nat,List.replicate n [IV.bool false,IV.sl [],IV.sl []]=lD (List.replicate n q0))/\(lD []=[]) /\
  (∀r:RQ,List.drop 2 (oh r)=[.sl (dJ r.2)])/\(∀r:RQ,List.take 2 (oh r)=je r.1)/\(∀r:RQ,List.drop 1 (oh r)=[.sl (dJ r.1.2),.sl (dJ r.2)])/\(∀(r:RQ) (c:RI),splice (oh r) 0 (je c)=oh (c,r.2)) :=
 ⟨a1p,a1q,a7i,X3,a1t,NC,a1s,JV,WW,a1m,WV,a1n,a1o,TU,TT,TV,X4⟩
theorem Ea (m:Nat):W^m=2^(64*m):=by rw[Nat.pow_mul]
theorem b1B {l:List Nat}(h:Lim l){m:Nat}(h0:oK l=m+1):l.getD m 0<W/\m*64+bl (l.getD m 0)=bl (nv l):=by
 have e:(wd (nv l)).length=m+1:=by rw[a0B h,List.length_take,Nat.min_eq_left (rZ l),h0]
 have h1:nv l<W^(m+1):=dH.mp (by omega);have h2:W^m<=nv l:=Nat.le_of_not_lt λh3=>by have:=dH.mpr h3;omega
 have h4:nv l/W^m<W:=by rw[Nat.div_lt_iff_lt_mul (fK m),Nat.mul_comm,<-Nat.pow_succ];exact h1
 have h5:=N7 h m;rw[Nat.mod_eq_of_lt h4]at h5;refine⟨by rw[h5];exact h4,?_⟩;rw[h5,Ea]at *;rw[Bf h2];omega
theorem a2o (l:List Nat)(h:Lim l)(hl:l.length<=2^42):AC Tryz.prog 82 [cl l] none [ci (bl (nv l))]:=by
 refine AC.aF (rs:=[.tmp 2]) bM Tryz.func82 (by rfl) (by rfl) (by rfl) (by rfl) (by rfl) ?_;simp (disch:=omega) only[wt,seval,reduceCtorEq,Nat.reduceEqDiff,rqs];refine au ((Q7 l (by omega))) (by rfl) (by simp) ?_;simp (disch:=omega) only[wt,seval,reduceCtorEq,Nat.reduceEqDiff,rqs];have ht:=rZ l;refine bU (λh1=>?_) (λh1=>?_)
 .have h2:oK l=0:=by omega
  simp (disch:=omega) only[wt,seval,reduceCtorEq,Nat.reduceEqDiff,rqs];rw[show nv l=0 from (qc qh l).mpr h2];rfl
 .obtain⟨m,hm⟩:∃m,oK l=m+1:=⟨oK l-1,by omega⟩;obtain⟨h3,h4⟩:=b1B h hm;have e:((m+1:Nat):Int)-1=(m:Int):=by omega
  rw[hm];have hb:bl (l.getD m 0)<=64:=qU.mpr h3;simp (disch:=omega) only[wt,seval,reduceCtorEq,Nat.reduceEqDiff,rqs,e];refine au ((QS (l.getD m 0) h3)) (by first|rfl|(simp only[aH,bn,aB,aI,aA,Nat.reduceEqDiff,↓reduceIte,e];rfl)) (by simp) ?_;simp (disch:=omega) only[wt,seval,reduceCtorEq,Nat.reduceEqDiff,rqs,e];rw[<-h4]
  push_cast
  rfl
theorem uK (l:List Nat)(h:Lim l)(hl:l.length<=2^42):AC Tryz.prog 48 [cl l] none [ci (bl (nv l))]:=by
 refine AC.aF (rs:=[.tmp 2]) bM Tryz.func48 (by rfl) (by rfl) (by rfl) (by rfl) (by rfl) ?_;simp (disch:=omega) only[wt,seval,reduceCtorEq,Nat.reduceEqDiff,rqs];refine au ((a2o l h hl)) (by rfl) (by simp) ?_;simp (disch:=omega) only[wt,seval,reduceCtorEq,Nat.reduceEqDiff,rqs]
theorem Zy {n:Nat}:bl n=0↔n=0:=by unfold bl;split<;>simp_all
theorem JZ (r:RQ)(h:Nt (2^42) r.2):AC Tryz.prog 28 [cqq r] none [ci (if nv r.2=0 then 1 else 0)]:=by
 refine AC.aF (rs:=[.tmp 2]) bM Tryz.func28 (by rfl) (by rfl) (by rfl) (by rfl) (by rfl) ?_;simp (disch:=omega) only[wt,seval,reduceCtorEq,Nat.reduceEqDiff,rqs];refine au ((uK r.2 h.2 h.1)) (by rfl) (by simp) ?_;simp (disch:=omega) only[wt,seval,reduceCtorEq,Nat.reduceEqDiff,rqs];refine bU (λh1=>?_) (λh1=>?_)
 .rw[if_pos (Zy.mp (by omega))];simp (disch:=omega) only[wt,seval,reduceCtorEq,Nat.reduceEqDiff,rqs]
 .rw[if_neg (λh2=>h1 (by rw[Zy.mpr h2];rfl))];simp (disch:=omega) only[wt,seval,reduceCtorEq,Nat.reduceEqDiff,rqs]
theorem nD (r:RQ)(h:Nt (2^42) r.2)(h0:nv r.2≠0):AC Tryz.prog 28 [cqq r] none [ci 0]:=by
 have:=JZ r h;rwa [if_neg h0]at this
theorem EL (r:RQ)(h:Nt (2^42) r.2)(h0:nv r.2=0):AC Tryz.prog 28 [cqq r] none [ci 1]:=by
 have:=JZ r h;rwa [if_pos h0]at this
theorem NH (l:List RQ)(e:Int)(hl:l.length<=2^40)(h:∀r∈l,Nt (2^42) r.2)(hg:(∀r∈l,nv r.2≠0)->e=0)(hb:(¬∀r∈l,nv r.2≠0)->e=1):AC Tryz.prog 80 [cqw l] none [ci e]:=by
 refine AC.aF (rs:=[.tmp 2]) bM Tryz.func80 (by rfl) (by rfl) (by rfl) (by rfl) (by rfl) ?_;simp (disch:=omega) only[wt,seval,reduceCtorEq,Nat.reduceEqDiff,rqs];refine bF (λf H=>∃(i:Nat),i<=l.length/\(∀j,j<i->nv (l.getD j q0).2≠0)/\f 8=.iv (.int .i64 i)/\f 6=.iv (.sl (lD l))/\f 7=.iv (.int .i64 l.length)) (λf H=>(l.length-dQ f 8).toNat) ?_ ?_
 .refine⟨0,by omega,λj hj=>by omega,?_⟩;simp (disch:=omega) only[wt,seval,reduceCtorEq,Nat.reduceEqDiff,rqs]
 rintro f H ⟨i,hi,hz,hF⟩;rw[bC hF.1];simp (disch:=omega) only[wt,seval,reduceCtorEq,Nat.reduceEqDiff,rqs,hF];refine bU (λhlt=>?_) (λhlt=>?_)
 .have hlt':i<l.length:=by omega
  have hmem:l.getD i q0∈l:=by rw[List.getD,List.getElem?_eq_getElem hlt',Option.getD_some];exact List.getElem_mem hlt'
  simp (disch:=omega) only[wt,seval,reduceCtorEq,Nat.reduceEqDiff,rqs,hF];by_cases h0:nv (l.getD i q0).2=0
  .obtain rfl:=hb (λh1=>h1 _ hmem h0);refine au ((EL (l.getD i q0) (h _ hmem) h0)) (by first|rfl|(simp only[aH,bn,aB,aI,aA,Nat.reduceEqDiff,↓reduceIte,hF];rfl)) (by simp) ?_;simp (disch:=omega) only[wt,seval,reduceCtorEq,Nat.reduceEqDiff,rqs,hF]
  .have h0':=h0;refine au ((nD (l.getD i q0) (h _ hmem) h0)) (by first|rfl|(simp only[aH,bn,aB,aI,aA,Nat.reduceEqDiff,↓reduceIte,hF];rfl)) (by simp) ?_;simp (disch:=omega) only[wt,seval,reduceCtorEq,Nat.reduceEqDiff,rqs,hF];refine⟨⟨i+1,by omega,λj hj=>?_,by omega⟩,by omega⟩;rcases Nat.lt_or_ge j i with hj'|hj'
   .exact hz j hj'
   .obtain rfl:j=i:=by omega
    exact h0
 .obtain rfl:=hg (λr hr=>by
   obtain⟨j,hj,rfl⟩:=List.getElem_of_mem hr;have:=hz j (by omega);rwa [List.getD,List.getElem?_eq_getElem hj,Option.getD_some]at this)
  simp (disch:=omega) only[wt,seval,reduceCtorEq,Nat.reduceEqDiff,rqs,hF]
theorem a6h (n:Int)(g:Nat)(h:(g:Int)∣n)(hg:g≠0):sg (decide (n<0)) (n.natAbs/g)=n/g:=by
 obtain⟨k,rfl⟩:=h;have hg':(g:Int)≠0:=by omega
 have hp:(0:Int)<g:=by omega
 rw[Int.mul_ediv_cancel_left _ hg',Int.natAbs_mul,Int.natAbs_natCast,Nat.mul_div_cancel_left _ (by omega)];unfold sg;by_cases hk:k<0
 .rw[decide_eq_true (Int.mul_neg_of_pos_of_neg hp hk),if_pos rfl];omega
 .rw[decide_eq_false (by have:=Int.mul_nonneg (a:=(g:Int)) (b:=k) (by omega) (by omega);omega),if_neg (by decide)];omega
theorem X5 (n:RI)(d:List Nat)(hn:Sz (2^38) n)(hd:Nt (2^38) d)(h0:nv d≠0):AC Tryz.prog 34 [cr n,cl d] none [cqz (mkRat (iv n) (nv d))]:=by
 rw[show cqz (mkRat (iv n) (nv d))=cqq (rq (iv n) (nv d)) by rw[WC h0]];have zn:=rG hn;have hgp:0<Nat.gcd (iv n).natAbs (nv d):=Nat.gcd_pos_of_pos_right _ (by omega);have hgd:(wd (Nat.gcd (iv n).natAbs (nv d))).length<=2^38:=Nat.le_trans (fB (Nat.gcd_le_right _ (by omega))) (Nat.le_trans (lF hd.2) hd.1);have h1:((Nat.gcd (iv n).natAbs (nv d):Nat):Int)∣iv n:=Int.ofNat_dvd_left.mpr (Nat.gcd_dvd_left _ _);have g:=a4Q (wd (iv n).natAbs) d (bY _) hd.2 zn hd.1;rw[dU]at g;have e1:=xM (wd (iv n).natAbs) (wd (Nat.gcd (iv n).natAbs (nv d))) (bY _) (bY _) zn hgd (by rw[dU];omega);rw[dU,dU,if_pos (Nat.mod_eq_zero_of_dvd (Nat.gcd_dvd_left _ _)),if_pos (Nat.mod_eq_zero_of_dvd (Nat.gcd_dvd_left _ _))]at e1;have e2:=xM d (wd (Nat.gcd (iv n).natAbs (nv d))) hd.2 (bY _) hd.1 hgd (by rw[dU];omega);rw[dU,if_pos (Nat.mod_eq_zero_of_dvd (Nat.gcd_dvd_right _ _)),if_pos (Nat.mod_eq_zero_of_dvd (Nat.gcd_dvd_right _ _))]at e2;have e3:=MX (decide (iv n<0)) ((iv n).natAbs/Nat.gcd (iv n).natAbs (nv d)) (Nat.le_trans (fB (Nat.div_le_self _ _)) (Nat.le_trans zn (by omega)));rw[a6h _ _ h1 (by omega)]at e3;refine AC.aF (rs:=[.cell 4 31]) bM Tryz.func34 (by rfl) (by rfl) (by rfl) (by rfl) (by rfl) ?_;simp (disch:=omega) only[wt,seval,reduceCtorEq,Nat.reduceEqDiff,rqs];refine au ((pX n (hn.mono (by omega)))) (by rfl) (by simp) ?_;simp (disch:=omega) only[wt,seval,reduceCtorEq,Nat.reduceEqDiff,rqs];refine au (g) (by rfl) (by simp) ?_;simp (disch:=omega) only[wt,seval,reduceCtorEq,Nat.reduceEqDiff,rqs];refine au (e1) (by rfl) (by simp) ?_;simp (disch:=omega) only[wt,seval,reduceCtorEq,Nat.reduceEqDiff,rqs];refine au (e2) (by rfl) (by simp) ?_;simp (disch:=omega) only[wt,seval,reduceCtorEq,Nat.reduceEqDiff,rqs];refine au (e3) (by rfl) (by simp) ?_;simp (disch:=omega) only[wt,seval,reduceCtorEq,Nat.reduceEqDiff,rqs];rfl
theorem a9Y (r:RQ):qv r=(iv r.1:Rat)/(nv r.2:Rat):=Rat.mkRat_eq_div _ _
theorem SzQ.mono {j k:Nat}{r:RQ}(h:SzQ j r)(hk:j<=k):SzQ k r:=⟨h.1.mono hk,Nat.le_trans h.2.1 hk,h.2.2⟩
theorem a0w (s:Bool)(l:List Nat)(h:Lim l)(hl:l.length<=2^40):AC Tryz.prog 62 [cb s,cl l] none [cz (sg s (nv l))]:=by
 refine AC.aF (rs:=[.cell 4 29]) bM Tryz.func62 (by rfl) (by rfl) (by rfl) (by rfl) (by rfl) ?_;simp (disch:=omega) only[wt,seval,reduceCtorEq,Nat.reduceEqDiff,rqs];have m:=pX (s,l) ⟨hl,h⟩;rw[xI]at m;refine au (m) (by rfl) (by simp) ?_;simp (disch:=omega) only[wt,seval,reduceCtorEq,Nat.reduceEqDiff,rqs]
theorem a6R {l:List Nat}{k:Nat}(h:Nt k l):zl ((nv l:Nat):Int)<=k:=Nat.le_trans (lF h.2) h.1
theorem sgf (n:Nat):sg false n=(n:Int):=rfl
theorem JX (a:RI)(d:List Nat)(ha:Sz (2^36) a)(hd:Nt (2^36) d):AC Tryz.prog 81 [cr a,cl d] none [cz (iv a*nv d)]:=by
 have m:=a0w false d hd.2 (Nat.le_trans hd.1 (by omega));rw[sgf]at m;have n:=jM a (canon (nv d)) ha ((aW _).mono (a6R hd));rw[aU]at n;refine AC.aF (rs:=[.cell 4 29]) bM Tryz.func81 (by rfl) (by rfl) (by rfl) (by rfl) (by rfl) ?_;simp (disch:=omega) only[wt,seval,reduceCtorEq,Nat.reduceEqDiff,rqs];refine .inl ⟨aZ (by kernel_rfl),?_⟩;refine au (m) (by rfl) (by simp) ?_;simp (disch:=omega) only[wt,seval,reduceCtorEq,Nat.reduceEqDiff,rqs];refine au (n) (by rfl) (by simp) ?_;simp (disch:=omega) only[wt,seval,reduceCtorEq,Nat.reduceEqDiff,rqs]
 first|exact aN (by kernel_rfl)|refine⟨aN (by kernel_rfl),?_⟩
 try rfl
theorem NG (a b:RQ)(ha:SzQ (2^36) a)(hb:SzQ (2^36) b)(h0:nv a.2≠0)(h1:nv b.2≠0):AC Tryz.prog 80 [cqw [a,b]] none [ci 0] :=
 NH [a,b] 0 (by simp) (λr hr=>by
  simp only[List.mem_cons,List.not_mem_nil,or_false]at hr;rcases hr with rfl|rfl
  .exact⟨Nat.le_trans ha.2.1 (by omega),ha.2.2⟩
  .exact⟨Nat.le_trans hb.2.1 (by omega),hb.2.2⟩) (λ_=>rfl) (λh=>(h λr hr=>by
   simp only[List.mem_cons,List.not_mem_nil,or_false]at hr;rcases hr with rfl|rfl
   .exact h0
   .exact h1).elim)
theorem Gz (a b:RQ):[oh a,oh b]=lD [a,b]:=rfl
theorem FT (c:RI)(h:Sz (2^40) c):AC Tryz.prog 33 [cr c] none [cz (-iv c)]:=by
 have e:sg (!c.1) (nv c.2) = -iv c:=by
  rw[xI];unfold sg;cases c.1<;>simp
 have m:=mP (!c.1) (nv c.2);rw[e]at m;have n:=kG c.2 h.2 (Nat.le_trans h.1 (by omega));refine AC.aF (rs:=[.cell 2 29]) bM Tryz.func33 (by rfl) (by rfl) (by rfl) (by rfl) (by rfl) ?_;simp (disch:=omega) only[wt,seval,reduceCtorEq,Nat.reduceEqDiff,rqs];refine .inl ⟨aZ (by kernel_rfl),?_⟩;refine au (n) (by rfl) (by simp) ?_;simp (disch:=omega) only[wt,seval,reduceCtorEq,Nat.reduceEqDiff,rqs];refine au (m) (by rfl) (by simp) ?_;simp (disch:=omega) only[wt,seval,reduceCtorEq,Nat.reduceEqDiff,rqs]
 first|exact aN (by kernel_rfl)|refine⟨aN (by kernel_rfl),?_⟩
 try rfl
theorem a0z (c:RI)(h:Sz (2^40) c):AC Tryz.prog 35 [cr c] none [cl (wd (iv c).natAbs)]:=by
 have n:=kG c.2 h.2 (Nat.le_trans h.1 (by omega));rw[<-rF]at n;refine AC.aF (rs:=[.tmp 2]) bM Tryz.func35 (by rfl) (by rfl) (by rfl) (by rfl) (by rfl) ?_;simp (disch:=omega) only[wt,seval,reduceCtorEq,Nat.reduceEqDiff,rqs];refine au (n) (by rfl) (by simp) ?_;simp (disch:=omega) only[wt,seval,reduceCtorEq,Nat.reduceEqDiff,rqs]
theorem b0x {a b:Int}(hb:b≠0):mkRat (if b<0 then -a else a) b.natAbs=(a:Rat)/(b:Rat):=by
 have hr:(b:Rat)≠0:=λh=>hb (Rat.intCast_eq_zero_iff.mp h)
 rw[Rat.mkRat_eq_div];by_cases h:b<0
 .have e:((b.natAbs:Nat):Rat) = -(b:Rat):=by
   rw[<-Rat.intCast_natCast,<-Rat.intCast_neg]
   congr 1
   omega
  rw[if_pos h,e,Rat.intCast_neg]
  grind
 .have e:((b.natAbs:Nat):Rat)=(b:Rat):=by
   rw[<-Rat.intCast_natCast]
   congr 1
   omega
  rw[if_neg h,e]
theorem a1u (a b:RI)(ha:Sz (2^38) a)(hb:Sz (2^38) b)(h0:iv b≠0):AC Tryz.prog 16 [cr a,cr b] none [cqz ((iv a:Rat)/(iv b:Rat)),ci 0]:=by
 have s:=fM b (hb.mono (by omega));have hs0:(iv b).sign≠0:=λh=>h0 (Int.sign_eq_zero_iff_zero.mp h)
 have n:=FT a (ha.mono (by omega));have w:=a0z b (hb.mono (by omega));have za:=rG ha;have zb:=rG hb;have d:=b0x (a:=iv a) h0;refine AC.aF (rs:=[.cell 4 31,.tmp 5]) bM Tryz.func16 (by rfl) (by rfl) (by rfl) (by rfl) (by rfl) ?_;simp (disch:=omega) only[wt,seval,reduceCtorEq,Nat.reduceEqDiff,rqs];refine au (s) (by rfl) (by simp) ?_;simp (disch:=omega) only[wt,seval,reduceCtorEq,Nat.reduceEqDiff,rqs];simp (disch:=omega) only[wt,seval,reduceCtorEq,Nat.reduceEqDiff,rqs,hs0];refine au (s) (by first|rfl|(simp only[aH,bn,aB,aI,aA,Nat.reduceEqDiff,↓reduceIte,hs0];rfl)) (by simp) ?_;simp (disch:=omega) only[wt,seval,reduceCtorEq,Nat.reduceEqDiff,rqs,hs0];have hsg:=sign_neg (iv b);by_cases h:iv b<0
 .have h1:=hsg.mpr h;rw[if_pos h]at d;have r:=X5 (canon (-iv a)) (wd (iv b).natAbs) ((aW _).mono (by rw[rO];exact za)) ⟨zb,bY _⟩ (by rw[dU];omega);rw[aU,dU,d]at r;simp (disch:=omega) only[wt,seval,reduceCtorEq,Nat.reduceEqDiff,rqs,h1];refine au (n) (by first|rfl|(simp only[aH,bn,aB,aI,aA,Nat.reduceEqDiff,↓reduceIte,h1];rfl)) (by simp) ?_;simp (disch:=omega) only[wt,seval,reduceCtorEq,Nat.reduceEqDiff,rqs,h1];refine .inl ⟨aZ (by kernel_rfl),?_⟩;refine au (w) (by rfl) (by simp) ?_;simp (disch:=omega) only[wt,seval,reduceCtorEq,Nat.reduceEqDiff,rqs];refine au (r) (by rfl) (by simp) ?_;simp (disch:=omega) only[wt,seval,reduceCtorEq,Nat.reduceEqDiff,rqs]
  first|exact aN (by kernel_rfl)|refine⟨aN (by kernel_rfl),?_⟩
  try rfl
 .have h1:¬(iv b).sign<0:=λh'=>h (hsg.mp h')
  rw[if_neg h]at d;have r:=X5 a (wd (iv b).natAbs) ha ⟨zb,bY _⟩ (by rw[dU];omega);rw[dU,d]at r;simp (disch:=omega) only[wt,seval,reduceCtorEq,Nat.reduceEqDiff,rqs,h1];refine .inl ⟨aZ (by kernel_rfl),?_⟩;refine au (w) (by rfl) (by simp) ?_;simp (disch:=omega) only[wt,seval,reduceCtorEq,Nat.reduceEqDiff,rqs];refine au (r) (by rfl) (by simp) ?_;simp (disch:=omega) only[wt,seval,reduceCtorEq,Nat.reduceEqDiff,rqs]
  first|exact aN (by kernel_rfl)|refine⟨aN (by kernel_rfl),?_⟩
  try rfl
theorem wU (r:RQ)(h:SzQ (2^38) r)(h0:nv r.2≠0):AC Tryz.prog 13 [cqq r] none [ci (iv r.1).sign,ci 0]:=by
 have c:=nD r ⟨Nat.le_trans h.2.1 (by omega),h.2.2⟩ h0;have m:=fM r.1 (h.1.mono (by omega));refine AC.aF (rs:=[.tmp 2,.tmp 3]) bM Tryz.func13 (by rfl) (by rfl) (by rfl) (by rfl) (by rfl) ?_;simp (disch:=omega) only[wt,seval,reduceCtorEq,Nat.reduceEqDiff,rqs];refine au (c) (by rfl) (by simp) ?_;simp (disch:=omega) only[wt,seval,reduceCtorEq,Nat.reduceEqDiff,rqs];refine au (m) (by rfl) (by simp) ?_;simp (disch:=omega) only[wt,seval,reduceCtorEq,Nat.reduceEqDiff,rqs]
 try rfl
theorem a4s (a b:Int)(ha : -9223372036854775808<=a)(ha':a<=9223372036854775807)(hb : -9223372036854775808<=b)(hb':b<=9223372036854775807)(h0:b≠0):AC Tryz.prog 4 [ci a,ci b] none [cqz ((a:Rat)/(b:Rat)),ci 0]:=by
 have z1:=iJ a ha ha';have z2:=iJ b hb hb';have s:∀x:Int,-9223372036854775808<=x->x<=9223372036854775807->zl x<=1:=λx h1 h2=>dR.mpr (by rw[Nat.pow_one];simp only[W];omega)
 have r:=a1u (canon a) (canon b) ((aW _).mono (Nat.le_trans (s a ha ha') (by omega))) ((aW _).mono (Nat.le_trans (s b hb hb') (by omega))) (by rw[aU];exact h0);rw[aU,aU]at r;refine AC.aF (rs:=[.cell 4 31,.tmp 5]) bM Tryz.func4 (by rfl) (by rfl) (by rfl) (by rfl) (by rfl) ?_;simp (disch:=omega) only[wt,seval,reduceCtorEq,Nat.reduceEqDiff,rqs];refine au (z1) (by rfl) (by simp) ?_;simp (disch:=omega) only[wt,seval,reduceCtorEq,Nat.reduceEqDiff,rqs];refine au (z2) (by rfl) (by simp) ?_;simp (disch:=omega) only[wt,seval,reduceCtorEq,Nat.reduceEqDiff,rqs];refine au (r) (by rfl) (by simp) ?_;simp (disch:=omega) only[wt,seval,reduceCtorEq,Nat.reduceEqDiff,rqs]
 try rfl
theorem b4p {d:Nat}(h:d<W):(wd d).length<=1:=dH.mpr (by rwa [Nat.pow_one])
def BQ (n k:Nat)(p:List RQ):Prop:=p.length<=n/\∀r∈p,SzQ k r
def GQ (n k:Nat)(p:List RQ):Prop:=p.length<=n/\∀r∈p,SzQ k r/\nv r.2≠0
def QB (n k:Nat)(q:List Rat):Prop:=q.length<=n/\∀c∈q,qz c<=k
def gd (p:List RQ):Bool:=p.all λr=>decide (nv r.2≠0)
theorem b0R {p:List RQ}:gd p=true↔∀r∈p,nv r.2≠0:=by simp[gd]
theorem GQ.gd {n k:Nat}{p:List RQ}(h:GQ n k p):gd p=true:=b0R.mpr λr hr=>(h.2 r hr).2
theorem QB.mW {n k:Nat}{q:List Rat}(h:QB n k q):QB n k (mW q):=⟨Nat.le_trans (by rw[oJ];exact VG q) h.1,λc hc=>h.2 c (List.mem_of_mem_take hc)⟩
def qp (p:List Int):List Rat:=p.map λz:Int=>(z:Rat)
theorem a5g (p:List Int)(k:Nat):cfq (qp p) k=(cf p k:Rat):=by
 unfold cfq qp cf;rw[List.getD_eq_getElem?_getD,List.getD_eq_getElem?_getD,List.getElem?_map];cases p[k]?<;>rfl
structure VB (p:List RQ) (x:RQ) (B:Nat):Prop where
 hp:GQ (2^30) B p
 hx:SzQ B x
 d:nv x.2≠0
 e:∀q:List Rat,q.length<=p.length->(∀c∈q,c∈qvs p)->qz (evq q (qv x))<=B
 w:∀i,i<=p.length->qz (qv x^i)<=B
 b:B<=2^34
 one:1<=B
theorem VB.drop {p:List RQ}{x:RQ}{B:Nat}(v:VB p x B)(i:Nat):qz (evq ((qvs p).drop i) (qv x))<=B :=
 v.e _ (by rw[List.length_drop,a6v];omega) λc hc=>List.mem_of_mem_drop hc
def sgq (q:Rat):Int:=q.num.sign
theorem sH {q:Rat}(h:0<q):sgq q=1:=by
 refine Int.sign_eq_one_of_pos ?_;have h1:0<=q.num:=Rat.num_nonneg.mpr (Rat.le_of_lt h);have h2:q.num≠0:=λe=>by rw[Rat.num_eq_zero.mp e]at h;exact Rat.lt_irrefl h
 omega
theorem BO {q:Rat}(h:q<0):sgq q = -1:=by
 refine Int.sign_eq_neg_one_of_neg ?_;have h1:¬0<=q.num:=λe=>Rat.not_le.mpr h (Rat.num_nonneg.mp e)
 omega
theorem a0V:sgq 0=0:=rfl
theorem wM (q:Rat):(0<q/\sgq q=1)\/(q=0/\sgq q=0)\/(q<0/\sgq q = -1):=by
 by_cases h:q<0
 .exact .inr (.inr ⟨h,BO h⟩)
 .by_cases h0:q=0
  .exact .inr (.inl ⟨h0,by rw[h0];rfl⟩)
  .have:0<q:=Rat.lt_of_le_of_ne (Rat.not_lt.mp h) (λe=>h0 e.symm);exact .inl ⟨this,sH this⟩
theorem Np (p q:Rat):sgq (p*q)=sgq p*sgq q:=by
 have hn:∀{x:Rat},x<0->0 < -x:=λ{x} h=>by grind
 rcases wM p with ⟨h1,e1⟩|⟨h1,e1⟩|⟨h1,e1⟩<;>rcases wM q with ⟨h2,e2⟩|⟨h2,e2⟩|⟨h2,e2⟩<;>rw[e1,e2]
 .rw[sH (Rat.mul_pos h1 h2)];rfl
 .rw[h2,Rat.mul_zero];rfl
 .have:=Rat.mul_pos h1 (hn h2);rw[BO (by rw[Rat.mul_neg]at this;grind)];rfl
 .rw[h1,Rat.zero_mul];rfl
 .rw[h1,Rat.zero_mul];rfl
 .rw[h1,Rat.zero_mul];rfl
 .have:=Rat.mul_pos (hn h1) h2;rw[BO (by rw[Rat.neg_mul]at this;grind)];rfl
 .rw[h2,Rat.mul_zero];rfl
 .have:=Rat.mul_pos (hn h1) (hn h2);rw[sH (by rw[Rat.neg_mul,Rat.mul_neg,Rat.neg_neg]at this;exact this)];rfl
theorem Wx (z:Int):sgq (z:Rat)=z.sign:=by rw[sgq,Rat.num_intCast]
theorem qw {q:Rat}:sgq q=0↔q=0:=by
 rcases wM q with ⟨h1,e1⟩|⟨h1,e1⟩|⟨h1,e1⟩<;>rw[e1]
 .exact⟨λh=>by omega,λh=>by rw[h]at h1;exact(Rat.lt_irrefl h1).elim⟩
 .exact⟨λ_=>h1,λ_=>rfl⟩
 .exact⟨λh=>by omega,λh=>by rw[h]at h1;exact(Rat.lt_irrefl h1).elim⟩
theorem Ox (p:List Int)(x:Rat):evq (qp (aV p)) x=evq (qp p) x:=a7L x λk=>by rw[a5g,a5g,bH]
theorem QX {a b:Int}(hb:b≠0):∀p:List Int,((pG p a b:Int):Rat)*(b:Rat)=(b:Rat)^p.length*evq (qp p) ((a:Rat)/(b:Rat))
 |[]=>by
  rw[pG,qp,List.map_nil,evq,Rat.intCast_zero];grind
 |c::p=>by
  have ih:=QX (a:=a) hb p;have hr:(b:Rat)≠0:=λh=>hb (Rat.intCast_eq_zero_iff.mp h)
  have e:qp (c::p)=(c:Rat)::qp p:=rfl;rw[pG,e,evq,List.length_cons,Rat.intCast_add,Rat.intCast_mul,Rat.intCast_mul,Rat.intCast_pow,Rat.pow_succ];have h2:(a:Rat)/(b:Rat)*(b:Rat)=(a:Rat):=Rat.div_mul_cancel hr;generalize (a:Rat)/(b:Rat)=x at *;rw[<-h2]
  grind
theorem KQ {p:List Int}{a:Int}{b:Nat}(hb:b≠0):(pG (aV p) a (b:Int)).sign=sgq (evq (qp p) ((a:Rat)/(b:Rat))):=by
 have h:=QX (a:=a) (b:=(b:Int)) (by omega) (aV p);rw[Rat.intCast_natCast,Ox]at h;have hp:(0:Rat)<(b:Rat):=Rat.natCast_pos.mpr (by omega);have e:=congrArg sgq h;rwa [Np,Np,Wx,sH hp,sH (Rat.pow_pos hp),Int.mul_one,Int.one_mul]at e
theorem a2Q {p:List RI}{t:Int}(hp:RP (2^10) (2^20) p)(zt:zl t<=2^20):∀q:List Int,q.length<=p.length->(∀z∈q,z∈pv p)->zl (ev q t)<=2^32:=λq hq hz=>by
 have h:=a5I (K:=2^20) (p:=q) zt λz hz'=>hp.pv.2 z (hz z hz')
 have h2:q.length<=2^10:=Nat.le_trans hq hp.1;have h3:=Nat.mul_le_mul_right (2^20+1) h2;have h4:2^20+2^10*(2^20+1)<=2^32:=by decide
 omega
theorem YM (p:List RI)(t:RI)(hp:RP (2^10) (2^20) p)(ht:Sz (2^20) t):AC Tryz.prog 101 [cw p,cr t] none [cz (ev (pv p) (iv t))]:=by
 have hl:=hp.1;have hpl:=iK p;have zt:=rG ht;have hb:∀i,zl (ev ((pv p).drop i) (iv t))<=2^32:=λi=>a2Q hp zt _ (by rw[List.length_drop];omega) λz hz=>List.mem_of_mem_drop hz
 have e0:canon (ev ((pv p).drop p.length) (iv t))=canon 0:=by rw[List.drop_of_length_le (by omega),ev]
 refine AC.aF (rs:=[.cell 4 29]) bM Tryz.func101 (by rfl) (by rfl) (by rfl) (by rfl) (by rfl) ?_;simp (disch:=omega) only[wt,seval,reduceCtorEq,Nat.reduceEqDiff,rqs];refine au ((iJ 0 (by omega) (by omega))) (by rfl) (by simp) ?_;simp (disch:=omega) only[wt,seval,reduceCtorEq,Nat.reduceEqDiff,rqs];refine bF (λf H=>∃(i st3 st4 st5:Nat),i<=p.length/\f 6=.iv (.int .i64 ((i:Int)-1))/\f 0=.iv (.sl (gZ p))/\f 3=.hp 3 st3 0 0/\H 3=.blk false st3 29 2 [je t]/\f 4=.hp 4 st4 0 0/\H 4=.blk false st4 29 2 [je (false,[])]/\f 5=.hp 5 st5 0 0/\H 5=.blk false st5 29 2 [je (canon (ev ((pv p).drop i) (iv t)))]) (λf H=>(dQ f 6+1).toNat) ?_ ?_
 .refine⟨p.length,1,1,1,by omega,?_⟩;simp (disch:=omega) only[wt,seval,reduceCtorEq,Nat.reduceEqDiff,rqs,e0]
 rintro f H ⟨i,st3,st4,st5,hi,hF⟩;rw[bC hF.1];simp (disch:=omega) only[wt,seval,reduceCtorEq,Nat.reduceEqDiff,rqs,hF];refine bU (λhlt=>?_) (λhlt=>?_)
 .obtain⟨j,rfl⟩:∃j,i=j+1:=⟨i-1,by omega⟩;have ej:((j+1:Nat):Int)-1=(j:Int):=by omega
  rw[ej]at hF;have hd:=YT (pv p) (i:=j) (by omega);have zj:=hp.pv.cf j;have zb:=hb (j+1);have zm:=gI (ev ((pv p).drop (j+1)) (iv t)) (iv t);simp (disch:=omega) only[wt,seval,reduceCtorEq,Nat.reduceEqDiff,rqs,hF,ej];refine .inl ⟨aZ (by kernel_rfl),?_⟩;have m:=jM (canon (ev ((pv p).drop (j+1)) (iv t))) t ((aW _).mono (by omega)) (ht.mono (by omega));rw[aU]at m;refine au (m) (by first|rfl|(simp only[aH,bn,aB,aI,aA,Nat.reduceEqDiff,↓reduceIte,hF,ej];rfl)) (by simp) ?_;simp (disch:=omega) only[wt,seval,reduceCtorEq,Nat.reduceEqDiff,rqs,hF,ej];have s:=rP (canon (ev ((pv p).drop (j+1)) (iv t)*iv t)) (p.getD j (false,[])) ((aW _).mono (by omega)) ((hp.get j).mono (by omega));rw[aU,<-rJ]at s;refine au (s) (by first|rfl|(simp only[aH,bn,aB,aI,aA,Nat.reduceEqDiff,↓reduceIte,hF,ej];rfl)) (by simp) ?_;simp (disch:=omega) only[wt,seval,reduceCtorEq,Nat.reduceEqDiff,rqs,hF,ej]
  first|exact aN (by kernel_rfl)|refine⟨aN (by kernel_rfl),?_⟩
  have ev':ev ((pv p).drop (j+1)) (iv t)*iv t+cf (pv p) j=ev ((pv p).drop j) (iv t):=by rw[hd,ev,Int.add_comm,Int.mul_comm]
  refine⟨⟨j,st3,st4,st5,by omega,?_⟩,by omega⟩;rw[ev']
  (repeat' apply And.intro)<;>first|rfl|omega
 .have hi0:i=0:=by omega
  subst hi0;rw[List.drop_zero]at hF;simp (disch:=omega) only[wt,seval,reduceCtorEq,Nat.reduceEqDiff,rqs,hF]
  try rfl
structure C12 where
 (P Q:List RI) (R S:List RQ) (A B:RI) (X Y:RQ) (N:Int)
structure b6f (x:C12):Prop where
 P:Raw x.P
 Q:Raw x.Q
 R:b3U x.R
 S:b3U x.S
 A:Sz 9223372036854775807 x.A
 B:Sz 9223372036854775807 x.B
 X:SzQ 9223372036854775807 x.X
 Y:SzQ 9223372036854775807 x.Y
 N : -9223372036854775808<=x.N/\x.N<=9223372036854775807
structure b5S (x:C12):Prop where
 P:RP 40 200 x.P
 Q:RP 40 200 x.Q
 R:BQ 40 200 x.R
 S:BQ 40 200 x.S
 A:Sz 200 x.A
 B:Sz 200 x.B
 X:SzQ 200 x.X
 Y:SzQ 200 x.Y
def CD (D M:Nat)(q:Rat):Prop:=∃z:Int,q=(z:Rat)/(D:Rat)/\zl z<=M
theorem CD.mono {D M N:Nat}{q:Rat}(h:CD D M q)(hk:M<=N):CD D N q:=by
 obtain⟨z,e,hz⟩:=h;exact⟨z,e,Nat.le_trans hz hk⟩
theorem GV {n:Nat}(h:n≠0):(n:Rat)≠0:=λe=>h (Rat.natCast_eq_zero_iff.mp e)
theorem CD.add {D M N:Nat}{p q:Rat}(h:CD D M p)(k:CD D N q):CD D (max M N+1) (p+q):=by
 obtain⟨z,e,hz⟩:=h;obtain⟨w,f,hw⟩:=k;refine⟨z+w,?_,?_⟩
 .rw[e,f,Rat.intCast_add,Rat.div_def,Rat.div_def,Rat.div_def,Rat.add_mul]
 .have:=nT z w;omega
theorem CD.neg {D M:Nat}{p:Rat}(h:CD D M p):CD D M (-p):=by
 obtain⟨z,e,hz⟩:=h;exact⟨-z,by rw[e,Rat.intCast_neg,Rat.div_def,Rat.div_def,Rat.neg_mul],by rw[rO];exact hz⟩
theorem CD.mul {D E M N:Nat}{p q:Rat}(hD:D≠0)(hE:E≠0)(h:CD D M p)(k:CD E N q):CD (D*E) (M+N) (p*q):=by
 obtain⟨z,e,hz⟩:=h;obtain⟨w,f,hw⟩:=k;refine⟨z*w,?_,?_⟩
 .have h1:=GV hD;have h2:=GV hE;rw[e,f,Rat.intCast_mul,Rat.natCast_mul]
  grind
 .have:=gI z w;omega
theorem CD.up {D E M V:Nat}{q:Rat}(hD:D≠0)(hE:E≠0)(hV:(wd E).length<=V)(h:CD D M q):CD (D*E) (M+V) q:=by
 obtain⟨z,e,hz⟩:=h;refine⟨z*E,?_,?_⟩
 .have h1:=GV hD;have h2:=GV hE;rw[e,Rat.intCast_mul,Rat.natCast_mul,Rat.intCast_natCast]
  grind
 .have:=gI z E;rw[a9u]at this;omega
theorem CD.ofRat (q:Rat):CD q.den (zl q.num) q:=⟨q.num,by rw[<-Rat.mkRat_eq_div];exact(Rat.mkRat_self q).symm,Nat.le_refl _⟩
theorem CD.size {D M:Nat}{q:Rat}(hD:D≠0)(hw:(wd D).length<=M)(h:CD D M q):qz q<=M:=by
 obtain⟨z,e,hz⟩:=h;rw[e,<-Rat.mkRat_eq_div];exact a9X hD hz hw
theorem CD.zero (D M:Nat):CD D M 0:=⟨0,by rw[Rat.intCast_zero,Rat.div_def,Rat.zero_mul],by rw[fA];omega⟩
structure CB (D n M:Nat) (q:List Rat):Prop where
 d:D≠0
 w:(wd D).length<=M
 l:q.length<=n
 c:∀c∈q,CD D M c
theorem CB.sub {D n M:Nat}{q r:List Rat}(h:CB D n M q)(hl:r.length<=n)(hr:∀c∈r,c∈q):CB D n M r:=⟨h.d,h.w,hl,λc hc=>h.c c (hr c hc)⟩
theorem a1r (q:Rat):zl q.num<=qz q/\(wd q.den).length<=qz q:=⟨Nat.le_max_left _ _,Nat.le_max_right _ _⟩
theorem a4C:∀{k:Nat} (q:List Rat),(∀c∈q,qz c<=k)->∃D,D≠0/\(wd D).length<=q.length*k+1/\∀c∈q,CD D (q.length*k+k+1) c
 |k,[],_=>⟨1,by omega,by rw[show wd 1=[1] by decide +kernel];simp,λc hc=>nomatch hc⟩
 |k,a::q,h=>by
  obtain⟨D,hD,hw,hc⟩:=a4C q λc hc=>h c (List.mem_cons_of_mem _ hc)
  have ha:=h a (by simp);have hp:=a1r a;refine⟨a.den*D,Nat.mul_ne_zero a.den_nz hD,?_,λc hc'=>?_⟩
  .have:=AL.mF a.den D;rw[List.length_cons,Nat.succ_mul];omega
  .rw[List.length_cons,Nat.succ_mul];rcases List.mem_cons.1 hc' with rfl|hc'
   .exact((CD.ofRat c).up c.den_nz hD hw).mono (by omega)
   .rw[Nat.mul_comm];exact((hc c hc').up hD a.den_nz hp.2).mono (by omega)
theorem QB.cb {n k:Nat}{q:List Rat}(h:QB n k q):∃D,CB D n (n*k+k+1) q:=by
 obtain⟨D,hD,hw,hc⟩:=a4C q h.2;have:=Nat.mul_le_mul_right k h.1;exact⟨D,hD,by omega,h.1,λc hc'=>(hc c hc').mono (by omega)⟩
def sqq (q:List Rat)(c:Rat):List Rat:=(List.range (q.length-1)).map λi=>evq (q.drop (i+1)) c
theorem a5V (q:List Rat)(c:Rat):(sqq q c).length=q.length-1:=by simp[sqq]
theorem Zk (q:List Rat)(c:Rat)(i:Nat):cfq (sqq q c) i=evq (q.drop (i+1)) c:=by
 by_cases h:i<q.length-1
 .rw[sqq,cfq,List.getD,List.getElem?_map,List.getElem?_range h];rfl
 .rw[Lp (by rw[a5V];omega),List.drop_of_length_le (by omega)];rfl
theorem Tm {q:List Rat}(h:mW q=q):tzq q=q.length:=by rw[<-oJ,h]
theorem a9J {q:List Rat}{c:Rat}(h:mW q=q)(h0:q.length≠0)(he:evq q c=0):tzq (sqq q c)=q.length-1/\q.length-1≠0:=by
 have ht:=Tm h;have h1:q.length≠1:=λe=>by
  match q,e with
  |[a],_ =>
   have:=zU (q:=[a]) (by rw[ht];simp);rw[ht]at this;rw[evq,evq]at he;exact this (by show a=0;rw[<-he];grind)
 have h2:cfq (sqq q c) (q.length-2)≠0:=by
  have:=zU (q:=q) (by rw[ht];exact h0);rw[ht]at this;rw[Zk,show q.length-2+1=q.length-1 by omega,List.drop_eq_getElem_cons (by omega),evq,List.drop_of_length_le (by omega),evq];rw[b1u (by omega)]at this;intro e;exact this (by rw[<-e];grind)
 have:=a0H h2 λk hk=>by rw[Zk,List.drop_of_length_le (by omega)];rfl
 exact⟨by omega,by omega⟩
def qit (q:List Rat)(c:Rat):Nat->List Rat
 |0=>q
 |k+1=>mW (sqq (qit q c k) c)
theorem X6 {q:List Rat}{c:Rat}(h:mW q=q)(h0:q.length≠0):∀k,(∀j,j<k->evq (qit q c j) c=0)->(qit q c k).length+k=q.length/\(qit q c k).length≠0/\mW (qit q c k)=qit q c k
 |0,_=>⟨rfl,h0,h⟩
 |k+1,hk=>by
  obtain⟨h1,h2,h3⟩:=X6 h h0 k λj hj=>hk j (by omega)
  obtain⟨h4,h5⟩:=a9J h3 h2 (hk k (by omega));refine⟨?_,?_,Nb _⟩
  .rw[qit,oJ];omega
  .rw[qit,oJ];omega

structure SB (A:List Rat) (x:RQ) (B:Nat):Prop where
 l:A.length<=2^30
 c:∀i,i<A.length->qz (cfq A i)<=B
 e:∀i,qz (evq (A.drop i) (qv x))<=B
 hx:SzQ B x
 d:nv x.2≠0
 b:B<=2^34
 one:1<=B
structure TB (A:List Rat) (x:RQ) (n:Nat):Prop where
 t:mW A=A
 l:A.length<=2^30
 n0:A.length≠0
 z:∀j,j<n->evq (qit A (qv x) j) (qv x)=0
 e:evq (qit A (qv x) n) (qv x)≠0
 v:∀k,k<=n->VB ((qit A (qv x) k).map uf) x (2^34)
theorem TB.le {A:List Rat}{x:RQ}{n:Nat}(h:TB A x n){k:Nat}(hk:k<=n):(qit A (qv x) k).length+k=A.length/\(qit A (qv x) k).length≠0/\mW (qit A (qv x) k)=qit A (qv x) k :=
 X6 h.t h.n0 k λj hj=>h.z j (by omega)

theorem a9W (q:Rat):qz (-q)=qz q:=by unfold qz;rw[Rat.neg_num,Rat.neg_den,rO]


def a0r (q:List Int)(b:Bool):Int:=if b=false/\((tz q:Int)-1).tmod 2=1 then -(lc q).sign else (lc q).sign
theorem JD {q:List Int}(b:Bool)(h:tz q=0):a0r q b=0:=by
 have:lc q=0:=by unfold lc;exact bW q (by omega)
 unfold a0r;rw[this,Int.sign_zero];simp
def chs (st:Nat×Int)(x:Int):Nat×Int :=
 if x.sign=0 then st else (if st.2≠0/\x.sign≠st.2 then st.1+1 else st.1,x.sign)
def chf (l:List Int):Nat×Int:=l.foldl chs (0,0)
def chg (l:List Int):Nat:=(chf l).1
theorem EC {l:List Int}{i:Nat}(h:i<l.length):l.take (i+1)=l.take i++[l.getD i 0]:=by
 rw[List.take_add_one];congr 1;simp[List.getD,h]
theorem Ba {l:List Int}{i:Nat}(h:i<l.length):chf (l.take (i+1))=chs (chf (l.take i)) (l.getD i 0):=by
 rw[EC h,chf,List.foldl_append];rfl
theorem qP {st:Nat×Int}{x:Int}(h:x.sign=0):chs st x=st:=by rw[chs,if_pos h]
theorem xZ {st:Nat×Int}{x:Int}(h:x.sign≠0)(h2:st.2≠0/\x.sign≠st.2):chs st x=(st.1+1,x.sign):=by rw[chs,if_neg h,if_pos h2]
theorem kP {st:Nat×Int}{x:Int}(h:x.sign≠0)(h2:¬(st.2≠0/\x.sign≠st.2)):chs st x=(st.1,x.sign):=by rw[chs,if_neg h,if_neg h2]
theorem a5f (l:List Int):∀i,i<=l.length->(chf (l.take i)).1<=i
 |0,_=>by rw[List.take_zero];exact Nat.le_refl _
 |i+1,h=>by
  have ih:=a5f l i (by omega);rw[Ba (by omega)];unfold chs;split
  .omega
  .split<;>(simp only;omega)
theorem dD (x:Int):(x<0/\x.sign = -1)\/(x=0/\x.sign=0)\/(0<x/\x.sign=1):=by
 rcases Int.lt_trichotomy x 0 with hx|hx|hx
 .exact .inl ⟨hx,Int.sign_eq_neg_one_of_neg hx⟩
 .exact .inr (.inl ⟨hx,by rw[hx];rfl⟩)
 .exact .inr (.inr ⟨hx,Int.sign_eq_one_of_pos hx⟩)
theorem sign_sign (x:Int):x.sign.sign=x.sign:=by
 rcases dD x with ⟨_,h⟩|⟨_,h⟩|⟨_,h⟩<;>rw[h]<;>rfl
theorem a3a (st:Nat×Int)(x:Int):chs st x.sign=chs st x:=by unfold chs;rw[sign_sign]
theorem iU (l:List Int):chf (l.map Int.sign)=chf l:=by
 have:∀(l:List Int) (st:Nat×Int),(l.map Int.sign).foldl chs st=l.foldl chs st:=λl=>by
  induction l with
  |nil=>exact λ_=>rfl
  |cons x l ih=>exact λst=>by rw[List.map_cons,List.foldl_cons,List.foldl_cons,a3a,ih]
 exact this l _
set_option maxRecDepth 100000 in
theorem b1s (l:List Int)(hl:l.length<=2^40):AC Tryz.prog 151 [cis l] none [ci (chg l)]:=by
 refine AC.aF (rs:=[.tmp 2]) bM Tryz.func151 (by rfl) (by rfl) (by rfl) (by rfl) (by rfl) ?_;simp (disch:=omega) only[wt,seval,reduceCtorEq,Nat.reduceEqDiff,Bool.true_beq,Bool.false_beq,Bool.not_true,Bool.not_false];refine bF (λf H=>∃(i:Nat) (last:Int),i<=l.length/\last.sign=(chf (l.take i)).2/\f 9=.iv (.int .i64 i)/\f 8=.iv (.int .i64 l.length)/\f 7=.iv (.sl (iO l))/\f 3=.iv (.int .i64 (chf (l.take i)).1)/\f 4=.iv (.int .i64 last)) (λf H=>(l.length-dQ f 9).toNat) ?_ ?_
 .refine⟨0,0,by omega,rfl,?_⟩;simp (disch:=omega) only[wt,seval,reduceCtorEq,Nat.reduceEqDiff,Bool.true_beq,Bool.false_beq,Bool.not_true,Bool.not_false,List.take_zero,show (chf []).1=0 from rfl]
 rintro f H ⟨i,last,hi,hs,hF⟩;rw[bC hF.1];simp (disch:=omega) only[wt,seval,reduceCtorEq,Nat.reduceEqDiff,Bool.true_beq,Bool.false_beq,Bool.not_true,Bool.not_false,hF];refine bU (λhlt=>?_) (λhlt=>?_)
 .have hlt':i<l.length:=by omega
  have et:=Ba hlt';have hle:=a5f l i hi;obtain⟨x,hx⟩:∃x,x=l.getD i 0:=⟨_,rfl⟩;rw[<-hx]at et;generalize hst:chf (l.take i)=st at *;rcases dD x with ⟨c1,s1⟩|⟨c1,s1⟩|⟨c1,s1⟩
  .have n0:¬x=0:=by omega
   by_cases hl0:last=0
   .rw[hl0]at hs;rw[kP (by rw[s1];decide) (λh=>h.1 hs.symm)]at et;simp (disch:=omega) only[wt,seval,reduceCtorEq,Nat.reduceEqDiff,Bool.true_beq,Bool.false_beq,Bool.not_true,Bool.not_false,hF,<-hx,n0,hl0];refine⟨⟨i+1,x,by omega,by rw[et],?_⟩,by omega⟩;rw[et]
    (repeat' apply And.intro)<;>first|rfl|omega
   .rcases dD last with ⟨c2,s2⟩|⟨c2,s2⟩|⟨c2,s2⟩
    .rw[kP (by rw[s1];decide) (λh=>h.2 (by rw[s1,<-hs,s2]))]at et;simp (disch:=omega) only[wt,seval,reduceCtorEq,Nat.reduceEqDiff,Bool.true_beq,Bool.false_beq,Bool.not_true,Bool.not_false,hF,<-hx,n0,hl0,c1,c2];refine⟨⟨i+1,x,by omega,by rw[et],?_⟩,by omega⟩;rw[et]
     (repeat' apply And.intro)<;>first|rfl|omega
    .omega
    .have c2':¬last<0:=by omega
     rw[xZ (by rw[s1];decide) ⟨by rw[<-hs,s2];decide,by rw[s1,<-hs,s2];decide⟩]at et;simp (disch:=omega) only[wt,seval,reduceCtorEq,Nat.reduceEqDiff,Bool.true_beq,Bool.false_beq,Bool.not_true,Bool.not_false,hF,<-hx,n0,hl0,c1,c2'];refine⟨⟨i+1,x,by omega,by rw[et],?_⟩,by omega⟩;rw[et]
     (repeat' apply And.intro)<;>first|rfl|omega
  .rw[qP s1]at et;simp (disch:=omega) only[wt,seval,reduceCtorEq,Nat.reduceEqDiff,Bool.true_beq,Bool.false_beq,Bool.not_true,Bool.not_false,hF,<-hx,c1];refine⟨⟨i+1,last,by omega,by rw[et];exact hs,?_⟩,by omega⟩;rw[et]
   (repeat' apply And.intro)<;>first|rfl|omega
  .have n0:¬x=0:=by omega
   have c1':¬x<0:=by omega
   by_cases hl0:last=0
   .rw[hl0]at hs;rw[kP (by rw[s1];decide) (λh=>h.1 hs.symm)]at et;simp (disch:=omega) only[wt,seval,reduceCtorEq,Nat.reduceEqDiff,Bool.true_beq,Bool.false_beq,Bool.not_true,Bool.not_false,hF,<-hx,n0,hl0];refine⟨⟨i+1,x,by omega,by rw[et],?_⟩,by omega⟩;rw[et]
    (repeat' apply And.intro)<;>first|rfl|omega
   .rcases dD last with ⟨c2,s2⟩|⟨c2,s2⟩|⟨c2,s2⟩
    .rw[xZ (by rw[s1];decide) ⟨by rw[<-hs,s2];decide,by rw[s1,<-hs,s2];decide⟩]at et;simp (disch:=omega) only[wt,seval,reduceCtorEq,Nat.reduceEqDiff,Bool.true_beq,Bool.false_beq,Bool.not_true,Bool.not_false,hF,<-hx,n0,hl0,c1',c2];refine⟨⟨i+1,x,by omega,by rw[et],?_⟩,by omega⟩;rw[et]
     (repeat' apply And.intro)<;>first|rfl|omega
    .omega
    .have c2':¬last<0:=by omega
     rw[kP (by rw[s1];decide) (λh=>h.2 (by rw[s1,<-hs,s2]))]at et;simp (disch:=omega) only[wt,seval,reduceCtorEq,Nat.reduceEqDiff,Bool.true_beq,Bool.false_beq,Bool.not_true,Bool.not_false,hF,<-hx,n0,hl0,c1',c2'];refine⟨⟨i+1,x,by omega,by rw[et],?_⟩,by omega⟩;rw[et]
     (repeat' apply And.intro)<;>first|rfl|omega
 .obtain rfl:i=l.length:=by omega
  rw[List.take_length]at hF;simp (disch:=omega) only[wt,seval,reduceCtorEq,Nat.reduceEqDiff,Bool.true_beq,Bool.false_beq,Bool.not_true,Bool.not_false,hF]
  try rfl
theorem YL (x:Rat):∀p:List Int,er p x=evq (qp p) x
 |[]=>rfl
 |c::p=>by
  show (c:Rat)+x*er p x=(c:Rat)+x*evq (qp p) x;rw[YL x p]
theorem a4u {s:Rat}(hs:s=1\/s = -1):∀k:Nat,s^k=1\/s^k = -1
 |0=>.inl (Rat.pow_zero _)
 |k+1=>by
  rw[Rat.pow_succ];rcases a4u hs k with h|h<;>rcases hs with e|e<;>rw[h,e]
  .left;grind
  .right;grind
  .right;grind
  .left;grind
theorem QF:∀k:Nat,(1:Rat)^k=1
 |0=>Rat.pow_zero _
 |k+1=>by rw[Rat.pow_succ,QF k];grind
theorem vS:∀k:Nat,(k%2=0->(-1:Rat)^k=1)/\(k%2=1->(-1:Rat)^k = -1)
 |0=>⟨λ_=>Rat.pow_zero _,λh=>by omega⟩
 |k+1=>by
  obtain⟨a,b⟩:=vS k;rw[Rat.pow_succ];exact⟨λh=>by rw[b (by omega)];grind,λh=>by rw[a (by omega)];grind⟩
theorem NW (k:Nat)(h:k%2=1):(-1:Rat)^k = -1:=(vS k).2 h
theorem KD (k:Nat)(h:k%2=0):(-1:Rat)^k=1:=(vS k).1 h
theorem Bz (c:Int){q:List Int}(h:tz q≠0):tz (c::q)=tz q+1/\lc (c::q)=lc q:=by
 have h1:tz (c::q)=tz q+1:=by
  refine Nat.le_antisymm (iC λk hk=>?_) ?_
  .match k,hk with
   |k+1,hk=>exact bW q (by omega)
  .refine Nat.le_of_not_lt λhlt=>?_;have:=dS h;have h2:cf (c::q) (tz q)=0:=bW _ (by omega)
   match hq:tz q,h with
   |k+1,_ =>
    rw[hq]at this h2;exact this h2
 refine⟨h1,?_⟩;unfold lc;rw[h1]
 match hq:tz q,h with
 |k+1,_=>rfl
theorem Ib {s:Rat}(hs:s=1\/s = -1):∀p:List Int,tz p≠0->∃M η:Rat,0<M/\0<η/\∀x,M<=x->η<=((lc p).sign:Int)*s^(tz p-1)*er p (s*x)
 |[],h=>(h rfl).elim
 |c::q,h=>by
  by_cases hq:tz q=0
  .have hz:∀k,cf q k=0:=bf.mp hq;have h1:tz (c::q)<=1:=iC λk hk=>by
    match k,hk with
    |k+1,_=>exact hz k
   have e1:tz (c::q)=1:=by omega
   have e2:lc (c::q)=c:=by rw[lc,e1];rfl
   have hc:c≠0:=by have:=xE h;rwa [e2]at this
   refine⟨1,1,by grind,by grind,λx _=>?_⟩;rw[e1,e2,Nat.sub_self,Rat.pow_zero,er,kH hz];have:((c.sign:Int):Rat)*(c:Rat)=((c.sign*c:Int):Rat):=by rw[Rat.intCast_mul]
   have h3:(1:Int)<=c.sign*c:=by rw[Int.sign_mul_self];omega
   have h4:(1:Rat)<=((c.sign*c:Int):Rat):=by exact_mod_cast h3
   grind
  .obtain⟨e1,e2⟩:=Bz c hq;obtain⟨M,η,hM,hη,hb⟩:=Ib hs q hq;have hone:η*η⁻¹=1:=Rat.mul_inv_cancel _ (by grind);have hi:0<η⁻¹:=Rat.inv_pos.2 hη;have cn:(0:Rat)<=((c.natAbs:Nat):Rat):=Rat.natCast_nonneg;obtain⟨N,n1,n2⟩:∃N:Rat,M<=N/\((c.natAbs:Nat)+1:Rat)*η⁻¹<=N:=by
    rcases Rat.le_total (a:=M) (b:=((c.natAbs:Nat)+1:Rat)*η⁻¹) with h|h
    .exact⟨_,h,Rat.le_refl⟩
    .exact⟨M,Rat.le_refl,h⟩
   refine⟨N,1,by grind,by grind,λx hx=>?_⟩;have k1:=hb x (by grind);rw[e1,e2];obtain⟨k,hk⟩:∃k,tz q=k+1:=⟨tz q-1,by omega⟩;rw[hk]at k1 ⊢;rw[Nat.add_sub_cancel]at k1 ⊢;rw[er,Rat.pow_succ];have hss:s*s=1:=by rcases hs with e|e<;>rw[e]<;>grind
   have split:(((lc q).sign:Int):Rat)*(s^k*s)*((c:Rat)+s*x*er q (s*x))=(((lc q).sign:Int):Rat)*(s^k*s)*c+s*s*(x*((((lc q).sign:Int):Rat)*s^k*er q (s*x))):=by grind
   rw[split,hss,Rat.one_mul];have b1:(((lc q).sign:Int):Rat)*(s^k*s)=1\/(((lc q).sign:Int):Rat)*(s^k*s) = -1:=by
    have sg:(((lc q).sign:Int):Rat)=1\/(((lc q).sign:Int):Rat) = -1:=by
     have:=xE hq;rcases dD (lc q) with ⟨_,e⟩|⟨e,_⟩|⟨_,e⟩
     .rw[e];right;rfl
     .exact(this e).elim
     .rw[e];left;rfl
    have pw:=a4u hs (k+1);rw[Rat.pow_succ]at pw;rcases sg with a|a<;>rcases pw with b|b<;>rw[a,b]
    .left;grind
    .right;grind
    .right;grind
    .left;grind
   have cb : -((c.natAbs:Nat):Rat)<=(c:Rat)/\(c:Rat)<=((c.natAbs:Nat):Rat):=by
    constructor
    .have : -((c.natAbs:Nat):Int)<=c:=by omega
     have h5:((-((c.natAbs:Nat):Int):Int):Rat)<=(c:Rat):=by exact_mod_cast this
     rw[Rat.intCast_neg,Rat.intCast_natCast]at h5;exact h5
    .have:c<=((c.natAbs:Nat):Int):=by omega
     exact_mod_cast this
   have x0:0<=x:=by grind
   have g1:x*η<=x*((((lc q).sign:Int):Rat)*s^k*er q (s*x)):=by
    have:=Rat.mul_nonneg x0 (show 0<=(((lc q).sign:Int):Rat)*s^k*er q (s*x)-η by grind)
    grind
   have g2:((c.natAbs:Nat):Rat)+1<=x*η:=by
    have:=Rat.mul_nonneg (show 0<=x-((c.natAbs:Nat)+1:Rat)*η⁻¹ by grind) (Rat.le_of_lt hη);have:((c.natAbs:Nat)+1:Rat)*η⁻¹*η=((c.natAbs:Nat):Rat)+1:=by rw[Rat.mul_assoc,Rat.mul_comm η⁻¹,hone,Rat.mul_one]
    grind
   rcases b1 with b|b<;>rw[b]<;>grind
theorem Wv {σ:Int}{v:Rat}(hσ:σ=1\/σ = -1)(h:0<(σ:Rat)*v):sgq v=σ:=by
 rcases hσ with e|e
 .subst e;exact sH (by grind)
 .subst e;have:((-1:Int):Rat) = -1:=rfl;rw[this]at h;exact BO (by grind)
theorem a7J (p:List Int):∃N:Rat,0<N/\∀M,N<=M->a0r p true=sgq (er p M)/\a0r p false=sgq (er p (-M)):=by
 by_cases h:tz p=0
 .refine⟨1,by grind,λM _=>?_⟩;rw[JD _ h,JD _ h,kH (bf.mp h),kH (bf.mp h)];exact⟨rfl,rfl⟩
 .obtain⟨M1,η1,a1,a2,a3⟩:=Ib (s:=1) (.inl rfl) p h;obtain⟨M2,η2,b1,b2,b3⟩:=Ib (s:=-1) (.inr rfl) p h;have hl:=xE h;have sg:(lc p).sign=1\/(lc p).sign = -1:=by
   rcases dD (lc p) with ⟨_,e⟩|⟨e,_⟩|⟨_,e⟩
   .exact .inr e
   .exact(hl e).elim
   .exact .inl e
  refine⟨M1+M2,by grind,λM hM=>⟨?_,?_⟩⟩
  .have:=a3 M (by grind);rw[QF,Rat.mul_one,Rat.one_mul]at this;rw[a0r,if_neg (by simp)];exact(Wv sg (by grind)).symm
  .have k:=b3 M (by grind);have tm:((tz p:Int)-1).tmod 2=((tz p:Int)-1)%2:=Int.tmod_eq_emod_of_nonneg (by omega);rw[show (-1:Rat)*M = -M by grind]at k;by_cases hpar:((tz p:Int)-1).tmod 2=1
   .rw[a0r,if_pos ⟨rfl,hpar⟩];have e:((-1:Rat)^(tz p-1)) = -1:=NW _ (by omega);rw[e]at k;refine(Wv ?_ ?_).symm
    .rcases sg with e|e<;>rw[e]
     .exact .inr rfl
     .exact .inl rfl
    .rw[Rat.intCast_neg];grind
   .rw[a0r,if_neg (λh=>hpar h.2)];have e:((-1:Rat)^(tz p-1))=1:=KD _ (by omega);rw[e]at k;exact(Wv sg (by grind)).symm
theorem Dl (c:Int)(p:List Int)(x:Rat):er (aP (c::p)) x=er p x+x*er (aP p) x:=by
 rw[nM (p:=aP (c::p)) (q:=ji p (0::aP p)) x λk=>by
  rw[jr,fJ];cases k with
  |zero=>show cf p 0*((0+1:Nat):Int)=cf p 0+0;simp
  |succ k =>
   show cf p (k+1)*((k+1+1:Nat):Int)=cf p (k+1)+cf (aP p) k;rw[jr,show ((k+1+1:Nat):Int)=((k+1:Nat):Int)+1 by omega,Int.mul_add,Int.mul_one,Int.add_comm]]
 rw[zk];simp only[er,Rat.intCast_zero]
 grind
theorem b1e (r:Rat):∀p:List Int,∃B B':Rat->Rat,LB B/\LB B'/\(∀x,er p x=er p r+(x-r)*B x)/\∀x,er (aP p) x=B x+(x-r)*B' x
 |[]=>⟨λ_=>0,λ_=>0,.const 0,.const 0,λx=>by simp only[er];grind,λx=>by show (0:Rat)=_;grind⟩
 |c::p=>by
  obtain⟨B,B',b1,b2,b3,b4⟩:=b1e r p;refine⟨λx=>er p r+x*B x,λx=>B x+x*B' x,(LB.const _).add (LB.id.mul b1),b1.add (LB.id.mul b2),λx=>?_,λx=>?_⟩
  .rw[er,er,b3 x];grind
  .rw[Dl,b3 x,b4 x];grind
theorem a6i {p:List Int}(h:tz p≠0)(b:Bool):a0r p b≠0:=by
 have:=xE h;rcases dD (lc p) with ⟨_,e⟩|⟨e,_⟩|⟨_,e⟩
 .unfold a0r;rw[e];split<;>decide
 .exact(this e).elim
 .unfold a0r;rw[e];split<;>decide
theorem a1T {P:List Int}{rs:List Rat}(hR:J9 P rs)(h:tz (aP P)=0):rs=[]:=by
 match rs,hR with
 |[],_=>rfl
 |r::rs,hR =>
  exfalso
  obtain⟨m,hm,A,A',a1,a2,a3,a4⟩:=hR.fac r (by simp);have hm':(0:Rat)<m:=by exact_mod_cast hm
  have lx:LB λx=>x-r:=LB.id.sub (LB.const r)
  have e:(λx=>(m:Rat)*A x+(x-r)*A' x) r=(λ_=>(0:Rat)) r:=LB.IU ((a1.smul (m:Rat)).add (lx.mul a2)) (LB.const 0) (r:=r) λx hx=>by
   have h2:=(a4 x).2;rw[kH (bf.mp h)]at h2;exact iM (ND (show x-r≠0 by grind) m) (by grind)
  have e:(m:Rat)*A r+(r-r)*A' r=0:=e;rcases iD a3 with v|v
  .have:=Rat.mul_pos hm' v;grind
  .have:=Rat.mul_pos hm' (show 0 < -A r by grind);grind
structure ChF (P:List Int) (n:Nat) (rs:List Rat) (f g:Rat->Rat) (l:List (Rat->Rat)) (k k':Rat):Prop where
 ch:Ch (f::g::l)
 k0:0<k
 k0':0<k'
 val:∀x,(srl n (spos P) (spos (aP P))).map (λp=>er p x)=(f::g::l).map λh=>er (sla n (spos P) (spos (aP P))) x*h x
 e1:∀x,er P x=k*(er (sla n (spos P) (spos (aP P))) x*f x)
 e2:∀x,er (aP P) x=k'*(er (sla n (spos P) (spos (aP P))) x*g x)
 rts:∀M,Rts f g rs M
 gne:∀r∈rs,g r≠0
theorem xY {P:List Int}(h:tz P≠0):(0:Rat)<((((cont P).natAbs:Nat):Int):Rat):=by
 have:cont P≠0:=λh0=>h (pR h0)
 have:(0:Int)<((cont P).natAbs:Int):=by omega
 exact_mod_cast this
theorem b1t {P:List Int}{n:Nat}{rs:List Rat}(hR:J9 P rs)(h:tz P≠0)(hd:tz (aP P)≠0)(hn:tz (aP P)<=n):∃f g l k k',ChF P n rs f g l k k':=by
 obtain⟨f,l,hc,hm,hx,hz⟩:=Wi n (spos P) (spos (aP P)) (by rw[o9];exact hn);obtain⟨g,l',rfl,hy⟩:=hz (by rw[o9];exact hd);have e1:∀x,er P x=((((cont P).natAbs:Nat):Int):Rat)*(er (sla n (spos P) (spos (aP P))) x*f x):=λx=>by rw[a7R (qB P) x,hx]
 have e2:∀x,er (aP P) x=((((cont (aP P)).natAbs:Nat):Int):Rat)*(er (sla n (spos P) (spos (aP P))) x*g x):=λx=>by rw[a7R (qB (aP P)) x,hy]
 have hr:=λM=>a9S hR (KN _) (xY h) (xY hd) e1 e2 hc M
 exact⟨f,g,l',_,_,hc,xY h,xY hd,hm,e1,e2,λM=>(hr M).1,(hr 0).2⟩
structure b1J (F:List Int) (rs:List Rat):Prop where
 root:J9 F rs
 one:∀r∈rs,Fac F r 1
theorem Rf {P S:List Int}{n:Nat}{rs:List Rat}(hR:J9 P rs)(h:tz P≠0)(hn:tz (aP P)<=n){c:Int}(hc:c≠0)(e:ps S*ps (sla n (spos P) (spos (aP P)))=PS.C c*ps P):b1J (spos S) rs:=by
 have eS:=a7R (qB S);have eP:∀x,(c:Rat)*er P x=er S x*er (sla n (spos P) (spos (aP P))) x:=λx=>by
  rw[<-gU];exact(a7R (p:=bV S _) (by rw[aX];exact e) x).symm
 have c0:(c:Rat)≠0:=by exact_mod_cast hc
 by_cases hd:tz (aP P)=0
 .have hz:=a1T hR hd;subst hz;refine⟨⟨hR.nd,λr hr=>(nomatch hr),λs t hst _=>?_⟩,λr hr=>(nomatch hr)⟩;have b:=hR.off s t hst λr hr=>nomatch hr
  have b2:BA (λx=>(((((cont S).natAbs:Nat):Int):Rat)*er (sla n (spos P) (spos (aP P))) x*(c:Rat)⁻¹)*er (spos S) x) s t:=by
   obtain⟨d,hd,hb⟩:=b;refine⟨d,hd,λx a1 a2=>?_⟩;have:=hb x a1 a2;have k1:er P x=((((cont S).natAbs:Nat):Int):Rat)*er (sla n (spos P) (spos (aP P))) x*(c:Rat)⁻¹*er (spos S) x:=by
    refine iM c0 ?_;rw[eP,eS];have:(c:Rat)*(c:Rat)⁻¹=1:=Rat.mul_inv_cancel _ c0
    grind
   rw[k1]at this;exact this
  exact b2.Xy (((KN _).smul _).mul (LB.const _))
 .obtain⟨f,g,l,k,k',F⟩:=b1t hR h hd hn;generalize hu:er (sla n (spos P) (spos (aP P)))=u at *;have lu:LB u:=by rw[<-hu];exact KN _
  have lf:=F.ch.lb;have lg:LB g:=by cases F.ch with|two _ hg=>exact(LB.const 1).congr hg|more _ _ _ _ _ _ t=>exact t.lb
  have F1:∀x,er P x=k*(u x*f x):=λx=>by rw[<-hu];exact F.e1 x
  have F2:∀x,er (aP P) x=k'*(u x*g x):=λx=>by rw[<-hu];exact F.e2 x
  have k0:=F.k0
  -- S is a multiple of f
  have same:∀x,er S x=c*(k*f x):=by
   intro r;have lh:LB λx=>er S x-c*(k*f x):=(KN S).sub ((lf.smul k).smul (c:Rat))
   have hz:∀x,u x*(er S x-c*(k*f x))=0:=λx=>by
    have:=eP x;rw[F1]at this
    grind
   by_cases h0:er S r-c*(k*f r)=0
   .grind
   .exfalso
    obtain⟨M,m1,m2,m3,m4⟩:=within r (r+1);have key:∀d:Rat,0<d->Big d (er S r-c*(k*f r))->False:=λd hd hb=>by
     obtain⟨η,h1,near⟩:=a8a lh M hd;obtain⟨ga,g1,gap⟩:=b0S (rs.map λr'=>r'-r);obtain⟨y,y0,y1,y2,y3⟩:∃y:Rat,0<y/\y<=η/\y<=ga/\y<=1:=by
      rcases Rat.le_total (a:=η) (b:=ga) with h|h
      .rcases Rat.le_total (a:=η) (b:=1) with h'|h'
       .exact⟨η,h1,Rat.le_refl,h,h'⟩
       .exact⟨1,by grind,h',by grind,Rat.le_refl⟩
      .rcases Rat.le_total (a:=ga) (b:=1) with h'|h'
       .exact⟨ga,g1,h,Rat.le_refl,h'⟩
       .exact⟨1,by grind,by grind,h',Rat.le_refl⟩
     have this:0<(er S r-c*(k*f r))*(er S (r+y)-c*(k*f (r+y))):=near r (r+y) m1 (by grind) (by grind) (by grind) hb (r+y) (by grind) Rat.le_refl;have hn:er S (r+y)-c*(k*f (r+y))≠0:=λe=>by rw[e,Rat.mul_zero]at this;grind
     have hu0:u (r+y)=0:=iM hn (by have:=hz (r+y);grind);obtain⟨d',hd',hb'⟩:=hR.off (r+y) (r+y) Rat.le_refl λr' hr' hh=>by
      have:=gap (r'-r) (List.mem_map.2 ⟨r',hr',rfl⟩) (by grind)
      grind
     have:=hb' (r+y) Rat.le_refl Rat.le_refl;rw[F1,hu0,Rat.zero_mul,Rat.mul_zero]at this;rcases this with h|h<;>grind
    rcases iD h0 with v|v
    .exact key _ v (.inl Rat.le_refl)
    .exact key (-(er S r-c*(k*f r))) (by grind) (.inr (by grind))
  have hS:tz S≠0:=λhS=>by
   obtain⟨N,n1,n2⟩:=a7J P;have p:=(n2 N Rat.le_refl).1;have:=same N;rw[kH (bf.mp hS)]at this;have hf:f N=0:=by
    refine iM (a:=c*k) (λe=>?_) (by grind);rcases iD c0 with v|v
    .have:=Rat.mul_pos v k0;grind
    .have:=Rat.mul_pos (show 0 < -(c:Rat) by grind) k0;grind
   rw[F1,hf,Rat.mul_zero,Rat.mul_zero]at p;exact a6i h _ (p.trans a0V)
  have q0:=xY hS;generalize hq:((((cont S).natAbs:Nat):Int):Rat)=q at *;have hqi:q*q⁻¹=1:=Rat.mul_inv_cancel _ (by grind);have hci:(c:Rat)*(c:Rat)⁻¹=1:=Rat.mul_inv_cancel _ c0;have hki:k*k⁻¹=1:=Rat.mul_inv_cancel _ (by grind);have fF:∀x,f x=(k⁻¹*(c:Rat)⁻¹*q)*er (spos S) x:=λx=>by
   have h1:=same x;rw[eS]at h1;refine iM (a:=(c:Rat)) c0 (iM (a:=k) (by grind) ?_)
   grind
  have ff:∀r∈rs,Fac (spos S) r 1:=λr hr=>by
   obtain⟨B,B',b1,b2,b3,b4⟩:=b1e r (spos S);have z0:er (spos S) r=0:=by
    have h1:=(F.rts 0).zero r hr;rw[fF]at h1;refine iM (a:=k⁻¹*(c:Rat)⁻¹*q) (λe=>?_) (by grind);have:k*(c:Rat)*(k⁻¹*(c:Rat)⁻¹*q)=q:=by grind
    rw[e,Rat.mul_zero]at this
    grind
   obtain⟨m,hm,hF⟩:=hR.fac r hr;obtain⟨A,A',a1,a2,a3,a4,a5⟩:=cross hm hF lf lg F.k0 F.k0' F1 F2;have hm':(0:Rat)<m:=by exact_mod_cast hm
   have lx:LB λx=>x-r:=LB.id.sub (LB.const r)
   have at_:(λx=>k'*(A x*g x)) r=(λx=>k*(m*A x+(x-r)*A' x)*((k⁻¹*(c:Rat)⁻¹*q)*B x)) r:=LB.IU ((a1.mul lg).smul k') ((((a1.smul (m:Rat)).add (lx.mul a2)).smul k).mul (b1.smul _)) λx hx=>by
    have h5:=a5 x;rw[fF,b3 x,z0]at h5;exact iM (show x-r≠0 by grind) (by grind)
   have at_:k'*(A r*g r)=k*(m*A r+(r-r)*A' r)*((k⁻¹*(c:Rat)⁻¹*q)*B r):=at_;refine⟨B,B',b1,b2,λe=>?_,λx=>?_⟩
   .rw[e]at at_;have hg:=F.gne r hr;have k0':=F.k0';have:A r*g r=0:=iM (a:=k') (by grind) (by grind);have:g r=0:=iM a3 (by grind);exact hg this
   .rw[b3 x,z0,b4 x,Rat.pow_succ,Rat.pow_zero];have:((1:Nat):Rat)=1:=rfl;rw[this];constructor<;>grind
  refine⟨⟨hR.nd,λr hr=>⟨1,by omega,ff r hr⟩,λs t hst ho=>?_⟩,ff⟩;have b:=hR.off s t hst ho;have b2:BA (λx=>(k*u x*(k⁻¹*(c:Rat)⁻¹*q))*er (spos S) x) s t:=by
   obtain⟨d,hd,hb⟩:=b;refine⟨d,hd,λx a1 a2=>?_⟩;have:=hb x a1 a2;rw[F1,fF]at this;have e:k*u x*(k⁻¹*(c:Rat)⁻¹*q)*er (spos S) x=k*(u x*(k⁻¹*(c:Rat)⁻¹*q*er (spos S) x)):=by grind
   show Big d (k*u x*(k⁻¹*(c:Rat)⁻¹*q)*er (spos S) x);rw[e];exact this
  exact b2.Xy ((lu.smul k).mul (LB.const _))
structure nR (P:List Int) (S:Rat->Prop):Prop where
 fac:∀r,S r->∃m,0<m/\Fac P r m
 off:∀s t,s<=t->(∀r,S r->¬(s<=r/\r<=t))->BA (er P) s t
theorem nR.two {P:List Int}{rs:List Rat}(h:nR P (·∈rs))(hn:rs.Nodup):J9 P rs:=⟨hn,h.fac,h.off⟩
theorem nR.congr {P:List Int}{S T:Rat->Prop}(h:nR P S)(e:∀r,S r↔T r):nR P T:=by
 have:S=T:=funext λr=>propext (e r)
 rwa [<-this]
theorem a2O {P:List Int}{r:Rat}(h:er P r≠0):Fac P r 0:=⟨er P,er (aP P),KN _,KN _,h,λx=>by
 rw[Rat.pow_zero];have:((0:Nat):Rat)=0:=rfl;rw[this];constructor<;>grind⟩
theorem nR.none {P:List Int}{S:Rat->Prop}(h:nR P S){r:Rat}(hr:¬S r):Fac P r 0:=a2O λe=>by
 obtain⟨d,hd,hb⟩:=h.off r r Rat.le_refl λr' hr' hh=>hr ((show r'=r by grind)▸hr')
 have:=hb r Rat.le_refl Rat.le_refl;rw[e]at this;rcases this with h|h<;>grind
theorem nR.any {P:List Int}{S:Rat->Prop}(h:nR P S)(r:Rat):∃m,(S r->0<m)/\Fac P r m:=by
 by_cases hr:S r
 .obtain⟨m,h1,h2⟩:=h.fac r hr;exact⟨m,λ_=>h1,h2⟩
 .exact⟨0,λh=>(hr h).elim,h.none hr⟩
theorem a3t {f g:Rat->Rat}{s t:Rat}(h:BA f s t)(e:∀x,g x=f x):BA g s t:=by
 have:g=f:=funext e;rwa [this]
theorem nR.mul {P Q:List Int}{S T:Rat->Prop}(hP:nR P S)(hQ:nR Q T):nR (bV P Q) λr=>S r\/T r:=by
 refine⟨λr hr=>?_,λs t hst h=>?_⟩
 .obtain⟨m,m1,m2⟩:=hP.any r;obtain⟨k,k1,k2⟩:=hQ.any r;refine⟨m+k,?_,Fac.mul (aX P Q) m2 k2⟩;rcases hr with h|h
  .have:=m1 h;omega
  .have:=k1 h;omega
 .exact a3t ((hP.off s t hst λr hr=>h r (.inl hr)).mul (hQ.off s t hst λr hr=>h r (.inr hr))) λx=>gU x P Q
theorem Nu {c:Int}(hc:c≠0):nR [c] λ_=>False:=by
 refine⟨λr h=>h.elim,λs t _ _=>?_⟩;have e:∀x,er [c] x=c:=λx=>by simp only[er];grind
 have h0:(c:Rat)≠0:=by exact_mod_cast hc
 rcases iD h0 with h|h
 .exact⟨c,h,λx _ _=>.inl (by rw[e];exact Rat.le_refl)⟩
 .exact⟨-c,by grind,λx _ _=>.inr (by rw[e];grind)⟩
theorem YJ (n d:Int)(x:Rat):er [-n,d] x=d*x-n:=by
 simp only[er];rw[Rat.intCast_neg];grind
theorem WE {n d:Int}(hd:0<d):nR [-n,d] λr=>r=(n:Rat)/(d:Rat):=by
 have hd':(0:Rat)<d:=by exact_mod_cast hd
 have hr:(d:Rat)*((n:Rat)/(d:Rat))=n:=by rw[Rat.mul_comm];exact Rat.div_mul_cancel (by grind)
 generalize (n:Rat)/(d:Rat)=r at hr;have e:∀x,er [-n,d] x=d*(x-r):=λx=>by rw[YJ];grind
 refine⟨λr' h=>?_,λs t hst h=>?_⟩
 .subst h;refine⟨1,by omega,λ_=>d,λ_=>0,.const _,.const _,by grind,λx=>?_⟩;have e2:er (aP [-n,d]) x=d:=by
   rw[Dl];show er [d] x+x*er (aP [d]) x=d;rw[Dl];show er [d] x+x*(0+x*0)=d;simp only[er];grind
  rw[e,e2,Rat.pow_succ,Rat.pow_zero,show ((1:Nat):Rat)=1 from rfl];constructor<;>grind
 .have:=h r rfl;by_cases h1:s<=r
  .have h2:t<r:=by grind
   refine⟨d*(r-t),Rat.mul_pos hd' (by grind),λx a b=>.inr ?_⟩;rw[e];have:=Rat.mul_nonneg (Rat.le_of_lt hd') (show 0<=t-x by grind)
   grind
  .refine⟨d*(s-r),Rat.mul_pos hd' (by grind),λx a b=>.inl ?_⟩;rw[e];have:=Rat.mul_nonneg (Rat.le_of_lt hd') (show 0<=x-s by grind)
   grind
theorem TF {a b:Int}(hb:1<=b):nR [a*a+b,-2*a,1] λ_=>False:=by
 refine⟨λr h=>h.elim,λs t _ _=>⟨1,by grind,λx _ _=>.inl ?_⟩⟩;have e:er [a*a+b,-2*a,1] x=(x-a)*(x-a)+b:=by
  simp only[er];rw[Rat.intCast_add,Rat.intCast_mul,Rat.intCast_mul,show ((-2:Int):Rat) = -2 from rfl,show ((1:Int):Rat)=1 from rfl]
  grind
 have hb':(1:Rat)<=b:=by exact_mod_cast hb
 have:0<=(x-a)*(x-a):=by
  rcases Rat.le_total (a:=0) (b:=x-a) with h|h
  .exact Rat.mul_nonneg h h
  .have:=Rat.mul_nonneg (show 0<=-(x-a) by grind) (show 0<=-(x-a) by grind);grind
 rw[e];grind
def Com (P:List Int)(D:List Int)(n:Nat):Prop:=tz D≠0/\∃E G:List Int,ps P=ps D*ps E/\ps (aP P)=ps D*ps G/\tz E<=n+1/\tz E≠0
theorem Za {c:Int}(hc:c≠0):Com [c] [1] 0:=by
 refine⟨by decide,[c],[],by rw[kR,PS.one_mul],?_,oI [c],λh=>hc (bf.mp h 0)⟩;rw[kR,PS.one_mul];rfl
theorem Com.one {P D Q:List Int}{n k:Nat}(h:Com P D n)(hQ:tz Q<=k+1)(h0:tz Q≠0):Com (bV P Q) D (n+k):=by
 obtain⟨hD,E,G,e1,e2,e3,e4⟩:=h;have dv:ps (aP (bV P Q))=ps (aP P)*ps Q+ps P*ps (aP Q):=by
  rw[dL,aX,dL,dL];exact PS.UW _ _
 refine⟨hD,bV E Q,ji (bV G Q) (bV E (aP Q)),by rw[aX,aX,e1,PS.mul_assoc],?_,?_,?_⟩
 .rw[dv,e1,e2,gq,aX,aX,PS.mul_add,PS.mul_assoc,PS.mul_assoc]
 .rw[gJ e4 h0];omega
 .rw[gJ e4 h0];omega
theorem Com.more {P P' D Q:List Int}{n:Nat}(hP:ps P=ps P'*ps Q)(h:Com P D n)(h0:tz Q≠0)(hPQ:∃C,ps P'=ps D*ps C):Com (bV P Q) (bV D Q) n:=by
 obtain⟨hD,E,G,e1,e2,e3,e4⟩:=h;obtain⟨C,e5⟩:=hPQ;have dv:ps (aP (bV P Q))=ps (aP P)*ps Q+ps P*ps (aP Q):=by
  rw[dL,aX,dL,dL];exact PS.UW _ _
 refine⟨by rw[gJ hD h0];omega,E,ji G (bV C (aP Q)),?_,?_,e3,e4⟩
 .rw[aX,aX,e1,PS.mul_assoc,PS.mul_assoc,PS.mul_comm (ps E)]
 .rw[dv,e2,hP,e5,aX,gq,aX,PS.mul_add]
  congr 1
  .rw[PS.mul_assoc,PS.mul_assoc,PS.mul_comm (ps G)]
  .rw[PS.mul_assoc,PS.mul_assoc,PS.mul_assoc]
   congr 1
   rw[<-PS.mul_assoc,<-PS.mul_assoc,PS.mul_comm (ps C)]
def MV (P L:List Int):Nat->List Int
 |0=>P
 |m+1=>bV (MV P L m) L
theorem a2Y {P D L:List Int}{n:Nat}(h:Com P D n)(h0:tz L≠0)(hL:tz L<=2)(m:Nat):∃D',Com (MV P L (m+1)) D' (n+1)/\∃P',ps (MV P L (m+1))=ps P'*ps L/\∃C,ps P'=ps D'*ps C:=by
 induction m with
 |zero =>
  obtain⟨E,G,e1,-⟩:=h.2;exact⟨D,h.one (k:=1) hL h0,P,aX _ _,E,e1⟩
 |succ m ih =>
  obtain⟨D',c,P',e,C,e'⟩:=ih;refine⟨bV D' L,c.more (n:=n+1) e h0 ⟨C,e'⟩,MV P L (m+1),aX _ _,C,?_⟩;rw[e,e',aX,PS.mul_assoc,PS.mul_assoc,PS.mul_comm (ps C)]
theorem TG {P L:List Int}{S T:Rat->Prop}(hP:nR P S)(hL:nR L T)(m:Nat):nR (MV P L (m+1)) λr=>S r\/T r:=by
 induction m with
 |zero=>exact hP.mul hL
 |succ m ih=>exact(ih.mul hL).congr λr=>⟨λh=>h.elim (λh=>h) .inr,.inl⟩
theorem nR.kF {P Q:List Int}{S:Rat->Prop}(h:nR P S)(e:ps P=ps Q):nR Q S:=by
 have er_:er P=er Q:=funext λx=>o8 e x
 have de:er (aP P)=er (aP Q):=funext λx=>o8 (by rw[dL,dL,e]) x
 refine⟨λr hr=>?_,λs t a b=>?_⟩
 .obtain⟨m,h1,h2⟩:=h.fac r hr;refine⟨m,h1,?_⟩;unfold Fac at *;rw[<-er_,<-de];exact h2
 .rw[<-er_];exact h.off s t a b
theorem Com.kF {P Q D:List Int}{n:Nat}(h:Com P D n)(e:ps P=ps Q):Com Q D n:=by
 obtain⟨a,E,G,e1,e2,e3⟩:=h;exact⟨a,E,G,by rw[<-e,e1],by rw[<-e2,dL,dL,e],e3⟩
theorem Ce {X:List Int}(h:aV X=X):pv (cn X)=X:=by unfold cn;rw[gW,h]
theorem oQ {D k:Nat}{q:List Int}(ht:tz q<=D)(h:SBd k q):RP D k (cn q):=RP.canon (.of (by rw[bI];exact ht) λi=>by rw[bH];exact h i)
theorem JG {n k:Nat}{p:List RI}(h:RP n k p):SBd k (pv p):=λi=>h.pv.cf i
theorem VI {n k:Nat}{p:List RI}(h:RP n k p):tz (pv p)<=n:=Nat.le_trans (oI _) h.pv.1
theorem b0t {A B:List Int}(h:ps A=ps B):ps (npr A)=ps (npr B):=(((um A).symm.trans (.kF h)).trans (um B)).uniq (CQ A) (CQ B)
theorem a4E {A B:List Int}(h:ps A=ps B):npr A=npr B:=by
 rw[<-qG A,<-qG B];exact kQ (jc (b0t h))
theorem sU {a:List RI}{q:List Int}(ha:RP (2^30) (2^35) a)(e:ps (pv a)=ps q):AC Tryz.prog 121 [cw a] none [cp (npr q)]:=by
 have h:=a6I ha e;rwa [a5b]at h
theorem a4v {a:List RI}{q:List Int}(ha:RP (2^40) (2^40) a)(e:ps (pv a)=ps q):AC Tryz.prog 64 [cw a] none [ci ((tz q:Int)-1)]:=by
 have h:=qE a ha;rwa [dX e]at h
theorem U5 (L:List (List RI))(x:List RI):yO L++[[.sl (gZ x)]]=yO (L++[x]):=by simp[yO]
theorem b3e {A B:List Int}(hB:tz B≠0):tz (dq A B)<=dxp A B:=by
 have e:=qK A B;by_cases h0:tz (dq A B)=0
 .omega
 have ht:=vY (A:=A) hB;have hm:=gJ h0 hB;refine Nat.le_of_not_lt λhlt=>?_;have hA:tz (aY (lc B^dxp A B) A)=tz A:=jk (zL hB _) A;have e2:ps (ji (bV (dq A B) B) (dr A B))=ps (aY (lc B^dxp A B) A):=by rw[gq,aX,bg,e]
 have h1:cf (ji (bV (dq A B) B) (dr A B)) (tz (dq A B)+tz B-2)≠0:=by
  rw[fJ,bW (dr A B) (by omega),Int.add_zero];have:=dS (q:=bV (dq A B) B) (by omega);rwa [hm,show tz (dq A B)+tz B-1-1=tz (dq A B)+tz B-2 by omega]at this
 rw[jc e2]at h1;refine h1 (bW _ ?_);rw[hA];unfold dxp at hlt;omega
def prl:Nat->List Int->List Int->List (List Int)
 |0,X,_=>[X]
 |n+1,X,Y=>if tz Y=0 then [X] else X::prl n Y (npr (dr X Y))
theorem Qw:∀(n:Nat) (X Y:List Int),∃L,prl n X Y=L++[eu n X Y]
 |0,X,Y=>⟨[],rfl⟩
 |n+1,X,Y=>by
  rw[prl,eu];split
  .exact⟨[],rfl⟩
  .obtain⟨L,e⟩:=Qw n Y (npr (dr X Y));exact⟨X::L,by rw[e];rfl⟩
theorem Xg:∀(n:Nat) (X Y:List Int),(prl n X Y).length<=n+1
 |0,X,Y=>by simp[prl]
 |n+1,X,Y=>by
  rw[prl];split
  .simp
  .have:=Xg n Y (npr (dr X Y));rw[List.length_cons];omega
theorem a7z {A B:List Int}(h:tz A=0):ps (npr B)=ps (rM A B):=Om ((GG.zero h).symm.as (um B) (.refl _) (.refl _)) (CQ B)
theorem a7y {A B:List Int}(h:tz B=0):ps (npr A)=ps (rM A B):=Om ((GG.zero h).as (um A) (.refl _) (.refl _)) (CQ A)
def dvb (B A:List Int):Bool:=if tz B=0 then decide (tz A=0) else decide (tz (dr A B)=0)
theorem Oy (B A:List Int):dvb B A=true↔Dv B A:=by
 unfold dvb;split
 .rename_i h0;rw[decide_eq_true_iff];refine⟨λh=>.zero B h,λh=>?_⟩;by_cases hA:tz A=0
  .exact hA
  .exact absurd h0 (pO h hA).1
 .rename_i h0;rw[decide_eq_true_iff];exact(YR h0).symm
theorem a7U {A B:List Int}(h:tz B≠0):∃σ:Int,(σ=1\/σ = -1)/\ps (Fg A B)=PS.C σ*ps (dr A B):=by
 have hL:=xE h;by_cases hneg:lc B<0
 .have:=Ij (c:=lc B) (L:=lc B) (B:=B) hL (Int.dvd_refl _) (dxp A B) ([],A) ([],A) 1 (.inl rfl) (by rw[PS.uT,PS.one_mul]) (by rw[PS.uT,PS.one_mul]);rw[show -lc B=((lc B).natAbs:Int) by omega]at this;refine⟨(-1)^dxp A B*1,?_,this⟩;rw[Int.mul_one];have hp:∀n:Nat,(-1:Int)^n=1\/(-1:Int)^n = -1:=λn=>by
   induction n with
   |zero=>exact .inl rfl
   |succ n ih =>
    rw[Int.pow_succ];rcases ih with e|e<;>rw[e]
    .exact .inr rfl
    .exact .inl rfl
  exact hp _
 .refine⟨1,.inl rfl,?_⟩;rw[PS.uT,PS.one_mul];unfold Fg dr;rw[show ((lc B).natAbs:Int)=lc B by omega]
theorem b1v {p q:List Int}{σ:Int}(hσ:σ=1\/σ = -1)(h:ps p=PS.C σ*ps q)(k:Nat):cf p k=cf q k\/cf p k = -cf q k:=by
 have:=jc (q:=aY σ q) (by rw[h,bg]) k;rw[dM]at this;rcases hσ with e|e<;>rw[e]at this
 .left;omega
 .right;omega
theorem YU {A B:List Int}{a b:Nat}(h:tz B≠0)(hA:SBd a A)(hB:SBd b B):SBd (a+dxp A B*(b+1)) (Fg A B):=λk=>by
 obtain⟨σ,hσ,e⟩:=a7U (A:=A) h;have:=(KY h hA hB).2 k;rcases b1v hσ e k with e|e<;>rw[e]
 .exact this
 .rw[rO];exact this
theorem Nr {k:Nat}{A:List Int}(h:SBd k A):SBd k (spos A):=λi=>by
 have hd:((cont A).natAbs:Int)∣cf A i:=Int.natAbs_dvd.2 (qN A i);rw[spos,bH,iE];have:=Jj hd;exact Nat.le_trans (Jj hd) (h i)
theorem a9P {k:Nat}{A:List Int}(h:SBd k A):SBd k (aY (-1) A):=λi=>by
 rw[dM];have:cf A i * -1 = -cf A i:=by omega
 first
 |rw[this,rO];exact h i
 |rw[show (-1:Int)*cf A i = -cf A i by omega,rO];exact h i
theorem a4o {k:Nat}{X Y:List Int}(h:SBd k (Fg X Y)):SBd k (snx X Y):=Nr (a9P h)
theorem b1f {D S:Nat}{X Y:List Int}(h:EI D S X Y)(h0:tz Y≠0):EI D S Y (snx X Y):=by
 have ht:=OA (A:=X) h0;have hx:=h.x;have hy:=h.y;refine⟨h.y,by rw[Jv];omega,.inr ⟨by rw[Jv];omega,?_⟩⟩;have norm:tz Y<tz X->SBd (EZ S (D-tz X)) X->SBd (EZ S (D-tz X+1)) Y->SBd (EZ S (D-tz Y)) Y/\SBd (EZ S (D-tz Y+1)) (snx X Y):=λl a b=>by
  refine⟨b.mono (EZ.mono S (by omega)),a4o ((YU h0 a b).mono ?_)⟩;have g:=EZ.grow S (D-tz X) (tz X-tz Y-1);rw[show tz X-tz Y-1+2=dxp X Y by unfold dxp;omega,show D-tz X+2+(tz X-tz Y-1)=D-tz Y+1 by omega]at g;exact g
 rcases h.s with ⟨a,b⟩|⟨l,a,b⟩
 .by_cases l:tz Y<tz X
  .exact norm l (a.mono (EZ.mono S (i:=0) (by omega))) (b.mono (EZ.mono S (i:=0) (by omega)))
  .refine⟨b.mono (EZ.mono S (i:=0) (by omega)),a4o ((YU h0 a b).mono ?_)⟩;have g:EZ S 1<=EZ S (D-tz Y+1):=EZ.mono S (by omega);have e1:EZ S 1=2*S+1:=rfl;have hd:dxp X Y<=1:=by unfold dxp;omega
   have:=Nat.mul_le_mul_right (S+1) hd;omega
 .exact norm l a b
theorem a6b {A:List Int}(h:tz A≠0):Dv A (spos A):=by
 refine⟨((cont A).natAbs:Int),[1],?_,by rw[kR,PS.one_mul];exact qB A⟩;have:cont A≠0:=λh0=>h (pR h0)
 omega
theorem Ic {D A:List Int}(h:Dv D A):Dv D (spos A):=by
 by_cases h0:tz A=0
 .exact .zero _ (by rw[o9];exact h0)
 .exact h.trans (a6b h0)
theorem b1j {D A:List Int}(h:Dv D A):Dv D (aY (-1) A):=by
 obtain⟨c,S,h1,h2⟩:=h;refine⟨c,aY (-1) S,h1,?_⟩;rw[bg,bg,PS.mul_assoc,h2,<-PS.mul_assoc,<-PS.mul_assoc,PS.mul_comm (PS.C (-1))]
theorem b1h {D X Y:List Int}(h0:tz Y≠0)(hx:Dv D X)(hy:Dv D Y):Dv D (snx X Y):=by
 obtain⟨Q,e⟩:=Il X Y;refine Ic (b1j (Dv.lin (A:=X) (B:=Y) (U:=[((lc Y).natAbs:Int)^dxp X Y]) (V:=aY (-1) Q) (k:=1) hx hy (by decide) ?_));rw[uI,<-e,bg,PS.uT,PS.one_mul];refine PS.ext λk=>?_;show (ps Q*ps Y).c k+(ps (Fg X Y)).c k+(PS.C (-1)*ps Q*ps Y).c k=_;rw[PS.mul_assoc,PS.jW];omega
structure CI (D S K:Nat) (D0 X Y:List Int):Prop where
 ei:EI D S X Y
 x0:tz X≠0
 dx:Dv D0 X
 dy:Dv D0 Y
 k:D<=tz D0+K
 tx:aV X=X
 ty:aV Y=Y
theorem CI.step {D S K:Nat}{D0 X Y:List Int}(h:CI D S K D0 X Y)(h0:tz Y≠0):CI D S K D0 Y (snx X Y):=⟨b1f h.ei h0,h0,h.dy,b1h h0 h.dx h.dy,h.k,h.ty,BM _⟩
theorem CI.bd {D S K:Nat}{D0 X Y:List Int}(h:CI D S K D0 X Y):SBd (EZ S (K+1)) X/\SBd (EZ S (K+1)) Y:=by
 have d1:=pO h.dx h.x0;have hk:=h.k;have hS:S<=EZ S (K+1):=EZ.mono S (i:=0) (by omega);rcases h.ei.s with ⟨a,b⟩|⟨l,a,b⟩
 .exact⟨a.mono hS,b.mono hS⟩
 .exact⟨a.mono (EZ.mono S (by omega)),b.mono (EZ.mono S (by omega))⟩
theorem CI.start {P D0:List Int}{n S:Nat}(h:Com P D0 n)(hS:SBd S P)(hS':SBd S (aP P)):CI (tz P) S n D0 (spos P) (spos (aP P)):=by
 obtain⟨hD,E,G,e1,e2,e3,e4⟩:=h;have tP:tz P=tz D0+tz E-1:=by rw[dX (q:=bV D0 E) (by rw[aX,e1]),gJ hD e4]
 have hd:tz (aP P)<=tz P:=iC λk hk=>by rw[jr,bW P (by omega),Int.zero_mul]
 refine⟨⟨by rw[o9];omega,by rw[o9];exact hd,.inl ⟨Nr hS,Nr hS'⟩⟩,by rw[o9];omega,Ic (.mul (S:=E) (by rw[e1,PS.mul_comm])),Ic (.mul (S:=G) (by rw[e2,PS.mul_comm])),by omega,BM _,BM _⟩
theorem a4j:∀(n:Nat) (X Y:List Int),tz Y<=n->GG (sla n X Y) X Y
 |0,X,Y,h=>by rw[sla];exact .zero (by omega)
 |n+1,X,Y,h=>by
  rw[sla];split
  .rename_i h0;exact .zero h0
  .rename_i h0;have ht:tz (snx X Y)<=n:=by rw[Jv];have:=OA (A:=X) h0;omega
   have ih:=a4j n Y (snx X Y) ht;obtain⟨Q,e⟩:=Il X Y;have has:As (snx X Y) (Fg X Y):=by
    by_cases hz:tz (Fg X Y)=0
    .exact .kF (by rw[fO hz,fO (by rw[Jv];exact hz)])
    .have e2:=qB (aY (-1) (Fg X Y));have c0:cont (aY (-1) (Fg X Y))≠0:=λh=>hz (by rw[<-jk (c:=-1) (by decide)];exact pR h)
     refine⟨((cont (aY (-1) (Fg X Y))).natAbs:Int),-1,by omega,by decide,?_⟩;rw[<-bg (-1)];exact e2.symm
   refine GG.step (c:=((lc Y).natAbs:Int)^dxp X Y) ((ih.as (.refl _) (.refl _) has)) ?_ e;have:=xE h0;exact Int.pow_ne_zero (by omega)
def p2 (e:Int):Rat:=if 0<=e then ((2^e.toNat:Nat):Rat) else (((2^(-e).toNat:Nat):Rat))⁻¹
theorem Kv (n:Nat):p2 n=((2^n:Nat):Rat):=by rw[p2,if_pos (by omega),Int.toNat_natCast]
theorem mJ (n:Nat):(0:Rat)<((2^n:Nat):Rat):=by
 have:0<2^n:=Nat.pow_pos (by omega)
 exact_mod_cast this
theorem xg (e:Int):0<p2 e:=by
 unfold p2;split
 .exact mJ _
 .exact Rat.inv_pos.2 (mJ _)
theorem yQ {e:Int}{a b:Nat}(h:e=a-b):p2 e*((2^b:Nat):Rat)=((2^a:Nat):Rat):=by
 have hp:=mJ;unfold p2;split
 .rename_i h0;have:a=e.toNat+b:=by omega
  rw[this,Nat.pow_add,Rat.natCast_mul]
 .rename_i h0;have:b=(-e).toNat+a:=by omega
  rw[this,Nat.pow_add,Rat.natCast_mul,<-Rat.mul_assoc,Rat.inv_mul_cancel _ (by have:=hp (-e).toNat;grind),Rat.one_mul]
theorem xk (e g:Int):p2 (e+g)=p2 e*p2 g:=by
 obtain⟨a,b,h1⟩:∃a b:Nat,e=(a:Int)-b:=⟨e.toNat,(-e).toNat,by omega⟩;obtain⟨c,d,h2⟩:∃a b:Nat,g=(a:Int)-b:=⟨g.toNat,(-g).toNat,by omega⟩;have e1:=yQ h1;have e2:=yQ h2;have e3:=yQ (e:=e+g) (a:=a+c) (b:=b+d) (by omega);rw[Nat.pow_add,Nat.pow_add,Rat.natCast_mul,Rat.natCast_mul]at e3;have hb:=mJ b;have hd:=mJ d;refine iM (a:=((2^b:Nat):Rat)*((2^d:Nat):Rat)) (by have:=Rat.mul_pos hb hd;grind) ?_
 grind
theorem Xw {e g:Int}(h:e<=g):p2 e<=p2 g:=by
 have:g=e+((g-e).toNat:Int):=by omega
 rw[this,xk,Kv];have h1:1<=2^(g-e).toNat:=Nat.one_le_two_pow;have h2:(1:Rat)<=((2^(g-e).toNat:Nat):Rat):=by exact_mod_cast h1
 have:=Rat.mul_nonneg (Rat.le_of_lt (xg e)) (show 0<=((2^(g-e).toNat:Nat):Rat)-1 by grind)
 grind
theorem a4x (e:Int):∀i:Nat,p2 e^i=p2 (e*i)
 |0=>by rw[Rat.pow_zero];show (1:Rat)=p2 (e*0);rw[Int.mul_zero];rfl
 |i+1=>by
  rw[Rat.pow_succ,a4x e i,<-xk]
  congr 1
  rw[Int.natCast_add,Int.mul_add];omega
theorem Qe {L R x:Rat}(hL:0<L)(hR:0<R)(hx:Big (2*R) x):∀(p:List Int),p≠[]->Big L (cf p (p.length-1))->(∀j,j+1<p.length->¬Big (L*R^(p.length-1-j)) (cf p j)\/(cf p j:Rat)=L*R^(p.length-1-j)\/(cf p j:Rat) = -(L*R^(p.length-1-j)))->Big (L*R^(p.length-1)) (er p x)
 |[],h,_,_=>(h rfl).elim
 |[c],_,hb,_=>by
  have:er [c] x=c:=by simp only[er];grind
  rw[this];show Big (L*R^0) c;rw[Rat.pow_zero,Rat.mul_one];exact hb
 |c::d::q,_,hb,h=>by
  have ih:=Qe hL hR hx (d::q) (by simp) hb λj hj=>by
   have:=h (j+1) (by simp at hj ⊢;omega);have e:(c::d::q).length-1-(j+1)=(d::q).length-1-j:=by simp
   rw[e]at this;exact this
  have h0:=h 0 (by simp);have e0:(c::d::q).length-1-0=q.length+1:=by simp
  have e1:(c::d::q).length-1=q.length+1:=by simp
  have e2:(d::q).length-1=q.length:=by simp
  rw[e0]at h0;rw[e1];rw[e2]at ih;have hc : -(L*R^(q.length+1))<=(c:Rat)/\(c:Rat)<=L*R^(q.length+1):=by
   have hp:0<L*R^(q.length+1):=Rat.mul_pos hL (Rat.pow_pos hR);have h0:¬Big (L*R^(q.length+1)) (c:Rat)\/(c:Rat)=L*R^(q.length+1)\/(c:Rat) = -(L*R^(q.length+1)):=h0;unfold Big at h0;rcases h0 with h0|h0|h0<;>constructor<;>grind
  have hE:0<L*R^q.length:=Rat.mul_pos hL (Rat.pow_pos hR);generalize hv:er (d::q) x=v at *;rw[er,hv,Rat.pow_succ];rw[Rat.pow_succ]at hc;generalize hE':L*R^q.length=E at *;have hc : -(E*R)<=(c:Rat)/\(c:Rat)<=E*R:=by
   have:L*(R^q.length*R)=E*R:=by rw[<-hE'];grind
   rwa [this]at hc
  have e3:L*(R^q.length*R)=E*R:=by rw[<-hE'];grind
  rw[e3];have key:∀a b:Rat,2*R<=a->E<=b->2*(E*R)<=a*b:=λa b h1 h2=>by
   have q1:=Rat.mul_nonneg (show 0<=a-2*R by grind) (Rat.le_of_lt hE);have q2:=Rat.mul_nonneg (show 0<=a by grind) (show 0<=b-E by grind)
   grind
  rcases hx with hx|hx<;>rcases ih with ih|ih
  .have:=key x v hx ih;left;grind
  .have:=key x (-v) hx (by grind);right;grind
  .have:=key (-x) v (by grind) ih;right;grind
  .have:=key (-x) (-v) (by grind) (by grind);left;grind
theorem vM (z:Rat):(z.num:Rat)=z.den*z:=by
 have hd:(z.den:Rat)≠0:=by have:=z.den_nz;exact_mod_cast this
 have e:(z.num:Rat)/(z.den:Rat)=z:=by
  have h1:=Rat.divInt_eq_div z.num (z.den:Int);rw[Rat.intCast_natCast]at h1;rw[<-h1];exact Rat.num_divInt_den z
 have h2:=Rat.div_mul_cancel (a:=(z.num:Rat)) hd;rw[e]at h2
 grind
def lnq (x:Rat):List Int:=[-x.num,(x.den:Int)]
theorem VK (x:Rat):tz (lnq x)=2/\lc (lnq x)=x.den:=by
 have hd:(x.den:Int)≠0:=by have:=x.den_nz;omega
 have h1:cf (lnq x) 1=x.den:=rfl;have h2:tz (lnq x)=2:=by
  refine Nat.le_antisymm (oI _) (Nat.le_of_not_lt λh=>?_);exact hd (by rw[<-h1];exact bW _ (by omega))
 exact⟨h2,by unfold lc;rw[h2];rfl⟩
theorem a6D (x:Rat):Prm (lnq x):=by
 refine⟨?_,by rw[(VK x).2];have:=x.den_pos;omega⟩;show Nat.gcd (Nat.gcd 0 (-x.num).natAbs) (x.den:Int).natAbs=1;rw[Nat.gcd_zero_left,Int.natAbs_neg,Int.natAbs_natCast];exact x.reduced
theorem YI (x y:Rat):er (lnq x) y=x.den*(y-x):=by
 show er [-x.num,(x.den:Int)] y=_;rw[YJ,Rat.intCast_natCast];rw[vM];grind
theorem Y2 {f:List Int}{x:Rat}(h:er f x=0):∃s,ps s*ps (lnq x)=ps f:=by
 refine YQ (a6D x) ?_;have t:=VK x;have h0:tz (lnq x)≠0:=by omega
 have e:=qK f (lnq x);have ht:=vY (A:=f) h0;have hv:=a4U e x;rw[h,YI]at hv;have hz:er (dr f (lnq x)) x=0:=by grind
 have hr:tz (dr f (lnq x))=0:=by
  refine bf.mpr λk=>?_;have he:er (dr f (lnq x)) x=(cf (dr f (lnq x)) 0:Int):=by
   rw[nM (q:=[cf (dr f (lnq x)) 0]) x λk=>by
    cases k with
    |zero=>rfl
    |succ k=>rw[bW _ (by omega)];rfl]
   simp only[er];grind
  rw[he]at hz;cases k with
  |zero=>exact_mod_cast hz
  |succ k=>exact bW _ (by omega)
 refine⟨lc (lnq x)^dxp f (lnq x),dq f (lnq x),zL h0 _,?_⟩;rw[fO hr,PS.add_zero]at e;exact e
theorem ZI {x y:Rat}(h:y<x):(1:Rat)<=(x-y)*((x.den*y.den:Nat):Rat):=by
 have hxd:(0:Rat)<(x.den:Rat):=by have:=x.den_pos;exact_mod_cast this
 have hyd:(0:Rat)<(y.den:Rat):=by have:=y.den_pos;exact_mod_cast this
 have hq:=vM;have e:(x-y)*((x.den*y.den:Nat):Rat)=((x.num*y.den-y.num*x.den:Int):Rat):=by
  rw[Rat.intCast_sub,Rat.intCast_mul,Rat.intCast_mul,hq x,hq y,Rat.natCast_mul,Rat.intCast_natCast,Rat.intCast_natCast]
  grind
 have hp:0<(x-y)*((x.den*y.den:Nat):Rat):=by
  rw[Rat.natCast_mul];exact Rat.mul_pos (by grind) (Rat.mul_pos hxd hyd)
 rw[e]at hp ⊢;have h1:(0:Int)<x.num*y.den-y.num*x.den:=by exact_mod_cast hp
 have h2:(1:Int)<=x.num*y.den-y.num*x.den:=by omega
 exact_mod_cast h2
theorem YO {D A:List Int}(h:Dv D A):Dv D (npr A):=h.as (.refl _) (um A)
theorem b1i {D X Y:List Int}(h0:tz Y≠0)(hx:Dv D X)(hy:Dv D Y):Dv D (npr (dr X Y)):=by
 have e:=qK X Y;refine YO (Dv.lin (A:=X) (B:=Y) (U:=[lc Y^dxp X Y]) (V:=aY (-1) (dq X Y)) (k:=1) hx hy (by decide) ?_);rw[uI,<-e,bg,PS.uT,PS.one_mul];refine PS.ext λk=>?_;show (ps (dq X Y)*ps Y).c k+(ps (dr X Y)).c k+(PS.C (-1)*ps (dq X Y)*ps Y).c k=_;rw[PS.mul_assoc,PS.jW];omega
structure CN (D S K:Nat) (D0 X Y:List Int):Prop where
 ei:EI D S X Y
 x0:tz X≠0
 dx:Dv D0 X
 dy:Dv D0 Y
 k:D<=tz D0+K
theorem CN.step {D S K:Nat}{D0 X Y:List Int}(h:CN D S K D0 X Y)(h0:tz Y≠0):CN D S K D0 Y (npr (dr X Y)):=⟨h.ei.step h0,h0,h.dy,b1i h0 h.dx h.dy,h.k⟩
theorem CN.bd {D S K:Nat}{D0 X Y:List Int}(h:CN D S K D0 X Y):SBd (EZ S (K+1)) X/\SBd (EZ S (K+1)) Y:=by
 have d1:=pO h.dx h.x0;have hk:=h.k;have hS:S<=EZ S (K+1):=EZ.mono S (i:=0) (by omega);rcases h.ei.s with ⟨a,b⟩|⟨l,a,b⟩
 .exact⟨a.mono hS,b.mono hS⟩
 .exact⟨a.mono (EZ.mono S (by omega)),b.mono (EZ.mono S (by omega))⟩
theorem CN.start {P D0:List Int}{n S:Nat}(h:Com P D0 n)(hS:SBd S P)(hS':SBd S (aP P)):CN (tz P) S n D0 (npr P) (npr (aP P)):=by
 obtain⟨hD,E,G,e1,e2,e3,e4⟩:=h;have tP:tz P=tz D0+tz E-1:=by rw[dX (q:=bV D0 E) (by rw[aX,e1]),gJ hD e4]
 have hd:tz (aP P)<=tz P:=iC λk hk=>by rw[jr,bW P (by omega),Int.zero_mul]
 exact⟨.start (Nat.le_refl _) hd hS hS',by rw[l9];omega,YO (.mul (S:=E) (by rw[e1,PS.mul_comm])),YO (.mul (S:=G) (by rw[e2,PS.mul_comm])),by omega⟩
set_option maxRecDepth 100000 in
theorem a6E (p q:List RI)(D S K:Nat)(D0:List Int)(hp:RP 40 S p)(hq:RP 40 S q)(hD:D<=40)(hE:EZ S (K+1)<=2^27)(ei0:CN D S K D0 (npr (pv p)) (npr (pv q)))(h1:tz (pv p)≠0)(h2:tz (pv q)≠0) :
  AC Tryz.prog 122 [cw p,cw q] none [.iv (.sl (yO ((prl (tz (pv q)) (npr (pv p)) (npr (pv q))).map cn))),ci 0]:=by
 have hS:S<=2^27:=Nat.le_trans (EZ.mono S (i:=0) (by omega)) hE;have tp:=ei0.ei.x;have tq:=ei0.ei.y;rw[l9]at tp tq;have n1:=wZ p (hp.mono (by omega) (by omega));have n2:=wZ q (hq.mono (by omega) (by omega));rw[decide_eq_false h1]at n1;rw[decide_eq_false h2]at n2;have pp:=sU (a:=p) (hp.mono (by omega) (by omega)) rfl;have pq:=sU (a:=q) (hq.mono (by omega) (by omega)) rfl;have t0:=qG (pv p);have t0':=qG (pv q);have ht:=l9 (pv q);generalize npr (pv p)=X0 at *;generalize npr (pv q)=Y0 at *;rw[<-ht];refine AC.aF (rs:=[.tmp 4,.tmp 5]) bM Tryz.func122 (by rfl) (by rfl) (by rfl) (by rfl) (by rfl) ?_;simp (disch:=omega) only[wt,seval,reduceCtorEq,Nat.reduceEqDiff,aC,bG];refine au (n1) (by rfl) (by simp) ?_;simp (disch:=omega) only[wt,seval,reduceCtorEq,Nat.reduceEqDiff,aC,bG];refine au (n2) (by rfl) (by simp) ?_;simp (disch:=omega) only[wt,seval,reduceCtorEq,Nat.reduceEqDiff,aC,bG];refine au (pp) (by rfl) (by simp) ?_;simp (disch:=omega) only[wt,seval,reduceCtorEq,Nat.reduceEqDiff,aC,bG];refine au (pq) (by rfl) (by simp) ?_;simp (disch:=omega) only[wt,seval,reduceCtorEq,Nat.reduceEqDiff,aC,bG];refine bF (λf H=>∃(n st:Nat) (L:List (List Int)) (X Y:List Int),L++prl n X Y=prl (tz Y0) X0 Y0/\tz Y<=n/\aV X=X/\aV Y=Y/\CN D S K D0 X Y/\L.length+n<=40/\f 7=.iv (.sl (dY Y))/\f 6=.hs 18 st/\H 18=.blk false st 39 1 (yO ((L++[X]).map cn))) (λf H=>match f 7 with | .iv (.sl l)=>l.length|_=>0) ?_ ?_
 .refine⟨tz Y0,1,[],X0,Y0,rfl,by omega,t0,t0',ei0,by simp only[List.length_nil];omega,?_⟩;simp (disch:=omega) only[wt,seval,reduceCtorEq,Nat.reduceEqDiff,aC,bG]
  try rfl
 rintro f H ⟨n,st,L,X,Y,hL,hn,tX,tY,ei,hl,g7,g6,h6⟩;have hmu:(match f 7 with | .iv (.sl l)=>l.length|_=>0)=tz Y:=by rw[g7];simp only[];rw[aC]
 rw[hmu];obtain⟨sX,sY⟩:=ei.bd;have rX:=oQ ei.ei.x sX;have rY:=oQ ei.ei.y sY;have nn:=wZ (cn Y) (rY.mono (by omega) (by omega));rw[Ce tY]at nn;by_cases h0:tz Y=0
 .rw[decide_eq_true h0]at nn;have e:prl n X Y=[X]:=by
   cases n with
   |zero=>rfl
   |succ n=>rw[prl,if_pos h0]
  rw[e]at hL;rw[hL]at h6;simp (disch:=omega) only[wt,seval,reduceCtorEq,Nat.reduceEqDiff,aC,bG,g7,g6,h6];refine au (nn) (by first|rfl|(simp only[aH,bn,aB,aI,aA,Nat.reduceEqDiff,↓reduceIte,g7,g6,h6];rfl)) (by simp) ?_;simp (disch:=omega) only[wt,seval,reduceCtorEq,Nat.reduceEqDiff,aC,bG,g7,g6,h6]
  try rfl
 .rw[decide_eq_false h0]at nn;obtain⟨m,rfl⟩:∃m,n=m+1:=⟨n-1,by omega⟩;have rm:=a6H (cn X) (cn Y) (rX.mono (by omega) hE) (rY.mono (by omega) hE) (by rw[Ce tY];exact h0);rw[Ce tX,Ce tY]at rm;have ei':=ei.step h0;have dsz:=(KY h0 sX sY).2;have hdx:dxp X Y<=41:=by unfold dxp;have:=ei.ei.x;omega
  have hdm:dxp X Y*(EZ S (K+1)+1)<=41*(EZ S (K+1)+1):=Nat.mul_le_mul_right _ hdx;have dtz:=vY (A:=X) h0;have hey:=ei.ei.y;have pr:=sU (a:=cn (dr X Y)) (q:=dr X Y) ((oQ (D:=40) (k:=2^35) (by omega) (dsz.mono (by omega))).mono (by omega) (by omega)) (jf _);have hsn:yO ((L++[X]).map cn)++[[.sl (dY Y)]]=yO ((L++[X]++[Y]).map cn):=by
   rw[List.map_append (l₁:=L++[X])];exact U5 _ _
  have hln:((L++[X]).map cn).length=L.length+1:=by simp
  have a4L:((L++[X]++[Y]).map cn).length=L.length+2:=by simp
  have hgt:(yO ((L++[X]++[Y]).map cn)).getD L.length []=[.sl (dY X)]:=by
   rw[GH (by rw[a4L];omega)];simp[List.getD];rfl
  have e2:((L.length+2:Nat):Int)-2=(L.length:Int):=by omega
  have htz:=l9 (dr X Y);simp (disch:=omega) only[wt,seval,reduceCtorEq,Nat.reduceEqDiff,aC,bG,g7,g6,h6,hln,hsn,a4L];refine au (nn) (by first|rfl|(simp only[aH,bn,aB,aI,aA,Nat.reduceEqDiff,↓reduceIte,g7,g6,h6,hln,hsn,a4L,e2,hgt];rfl)) (by simp) ?_;simp (disch:=omega) only[wt,seval,reduceCtorEq,Nat.reduceEqDiff,aC,bG,g7,g6,h6,hln,hsn,a4L,e2,hgt];refine au (rm) (by first|rfl|(simp only[aH,bn,aB,aI,aA,Nat.reduceEqDiff,↓reduceIte,g7,g6,h6,hln,hsn,a4L,e2,hgt];rfl)) (by simp) ?_;simp (disch:=omega) only[wt,seval,reduceCtorEq,Nat.reduceEqDiff,aC,bG,g7,g6,h6,hln,hsn,a4L,e2,hgt];refine au (pr) (by first|rfl|(simp only[aH,bn,aB,aI,aA,Nat.reduceEqDiff,↓reduceIte,g7,g6,h6,hln,hsn,a4L,e2,hgt];rfl)) (by simp) ?_;simp (disch:=omega) only[wt,seval,reduceCtorEq,Nat.reduceEqDiff,aC,bG,g7,g6,h6,hln,hsn,a4L,e2,hgt];refine⟨⟨m,st+1,L++[X],Y,npr (dr X Y),?_,by omega,tY,qG _,ei',by simp only[List.length_append,List.length_singleton];omega,?_⟩,?_⟩
  .rw[<-hL,prl,if_neg h0];simp
  .try (repeat' apply And.intro)<;>first|rfl|omega
  .omega
theorem b0g (p q:List RI)(D S K:Nat)(D0:List Int)(hp:RP 40 S p)(hq:RP 40 S q)(hD:D<=40)(hE:EZ S (K+1)<=2^27)(ei0:CN D S K D0 (npr (pv p)) (npr (pv q))) :
  AC Tryz.prog 93 [cw p,cw q] none [cp (rM (pv p) (pv q))]:=by
 have hS:S<=2^27:=Nat.le_trans (EZ.mono S (i:=0) (by omega)) hE;have tp:=ei0.ei.x;have tq:=ei0.ei.y;rw[l9]at tp tq;have d1:=qE p (hp.mono (by omega) (by omega));have d2:=qE q (hq.mono (by omega) (by omega));by_cases h1:tz (pv p)=0
 .have pr:=sU (a:=q) (q:=pv q) (hq.mono (by omega) (by omega)) rfl;rw[Ai (a7z h1)]at pr;rw[h1]at d1;refine AC.aF (rs:=[.tmp 4]) bM Tryz.func93 (by rfl) (by rfl) (by rfl) (by rfl) (by rfl) ?_;simp (disch:=omega) only[wt,seval,reduceCtorEq,Nat.reduceEqDiff,aC,bG];refine au (d1) (by rfl) (by simp) ?_;simp (disch:=omega) only[wt,seval,reduceCtorEq,Nat.reduceEqDiff,aC,bG];refine au (pr) (by rfl) (by simp) ?_;simp (disch:=omega) only[wt,seval,reduceCtorEq,Nat.reduceEqDiff,aC,bG]
  try rfl
 have h1':¬(tz (pv p):Int)-1<0:=by omega
 by_cases h2:tz (pv q)=0
 .have pr:=sU (a:=p) (q:=pv p) (hp.mono (by omega) (by omega)) rfl;rw[Ai (a7y h2)]at pr;rw[h2]at d2;refine AC.aF (rs:=[.tmp 4]) bM Tryz.func93 (by rfl) (by rfl) (by rfl) (by rfl) (by rfl) ?_;simp (disch:=omega) only[wt,seval,reduceCtorEq,Nat.reduceEqDiff,aC,bG];refine au (d1) (by first|rfl|(simp only[aH,bn,aB,aI,aA,Nat.reduceEqDiff,↓reduceIte,h1'];rfl)) (by simp) ?_;simp (disch:=omega) only[wt,seval,reduceCtorEq,Nat.reduceEqDiff,aC,bG,h1'];refine au (d2) (by first|rfl|(simp only[aH,bn,aB,aI,aA,Nat.reduceEqDiff,↓reduceIte,h1'];rfl)) (by simp) ?_;simp (disch:=omega) only[wt,seval,reduceCtorEq,Nat.reduceEqDiff,aC,bG,h1'];refine au (pr) (by rfl) (by simp) ?_;simp (disch:=omega) only[wt,seval,reduceCtorEq,Nat.reduceEqDiff,aC,bG]
  try rfl
 have h2':¬(tz (pv q):Int)-1<0:=by omega
 have pl:=a6E p q D S K D0 hp hq hD hE ei0 h1 h2;obtain⟨L,hL⟩:=Qw (tz (pv q)) (npr (pv p)) (npr (pv q));have hll:=Xg (tz (pv q)) (npr (pv p)) (npr (pv q));rw[hL]at pl hll;rw[show eu (tz (pv q)) (npr (pv p)) (npr (pv q))=rM (pv p) (pv q) from rfl]at pl;simp only[List.length_append,List.length_singleton]at hll;have hln:((L++[rM (pv p) (pv q)]).map cn).length=L.length+1:=by simp
 have hgt:(yO ((L++[rM (pv p) (pv q)]).map cn)).getD L.length []=[.sl (dY (rM (pv p) (pv q)))]:=by
  rw[GH (by rw[hln];omega)];simp[List.getD];rfl
 have e2:((L.length+1:Nat):Int)-1=(L.length:Int):=by omega
 refine AC.aF (rs:=[.tmp 4]) bM Tryz.func93 (by rfl) (by rfl) (by rfl) (by rfl) (by rfl) ?_;simp (disch:=omega) only[wt,seval,reduceCtorEq,Nat.reduceEqDiff,aC,bG];refine au (d1) (by first|rfl|(simp only[aH,bn,aB,aI,aA,Nat.reduceEqDiff,↓reduceIte,h1'];rfl)) (by simp) ?_;simp (disch:=omega) only[wt,seval,reduceCtorEq,Nat.reduceEqDiff,aC,bG,h1'];refine au (d2) (by first|rfl|(simp only[aH,bn,aB,aI,aA,Nat.reduceEqDiff,↓reduceIte,h2'];rfl)) (by simp) ?_;simp (disch:=omega) only[wt,seval,reduceCtorEq,Nat.reduceEqDiff,aC,bG,h2'];refine au (pl) (by first|rfl|(simp only[aH,bn,aB,aI,aA,Nat.reduceEqDiff,↓reduceIte,hln,e2,hgt];rfl)) (by simp) ?_;simp (disch:=omega) only[wt,seval,reduceCtorEq,Nat.reduceEqDiff,aC,bG,hln,e2,hgt]
 try rfl
theorem Xk (p:List RI)(c:RI)(hp:RP (2^30) (2^35) p)(hc:Sz (2^35) c)(h0:iv c≠0)(hb:¬∀k,iv c∣cf (pv p) k):AC Tryz.prog 144 [cw p,cr c] none [cw [],ci 4]:=by
 refine AC.aF (rs:=[.tmp 4,.tmp 5]) bM Tryz.func144 (by rfl) (by rfl) (by rfl) (by rfl) (by rfl) ?_;have hl:=hp.1;have hs0:(iv c).sign≠0:=λh=>h0 (Int.sign_eq_zero_iff_zero.mp h)
 simp (disch:=omega) only[wt,seval,reduceCtorEq,Nat.reduceEqDiff,aC];refine au ((fM c (hc.mono (by omega)))) (by rfl) (by simp) ?_;simp (disch:=omega) only[wt,seval,reduceCtorEq,Nat.reduceEqDiff,aC];simp (disch:=omega) only[wt,seval,reduceCtorEq,Nat.reduceEqDiff,aC,hs0];refine bF (λf H=>∃(i st st3:Nat) (out:List RI),i<=p.length/\out.length=p.length/\(∀k,k<i->iv c∣cf (pv p) k)/\f 18=.iv (.int .i64 i)/\f 0=.iv (.sl (gZ p))/\f 3=.hp 3 st3 0 0/\f 6=.hs 15 st/\f 17=.iv (.int .i64 p.length)/\H 15=.blk false st 29 2 (gZ out)/\H 3=.blk false st3 29 2 [je c]) (λf H=>(p.length-dQ f 18).toNat) ?_ ?_
 .refine⟨0,1,1,List.replicate p.length (false,[]),by omega,by simp,λk hk=>by omega,?_⟩;simp (disch:=omega) only[wt,seval,reduceCtorEq,Nat.reduceEqDiff,aC,Int.toNat_natCast]
 rintro f H ⟨i,st,st3,out,hi,hol,hv,hF⟩;rw[bC hF.1];simp (disch:=omega) only[wt,seval,reduceCtorEq,Nat.reduceEqDiff,aC,hF];refine bU (λhlt=>?_) (λhlt=>?_)
 .by_cases hdv:iv c∣cf (pv p) i
  .have hdi:=hdv;rw[rJ]at hdi;have m:=Bq (p.getD i (false,[])) c ((hp.get i).mono (by omega)) (hc.mono (by omega)) h0 hdi;simp (disch:=omega) only[wt,seval,reduceCtorEq,Nat.reduceEqDiff,aC,hF];refine .inl ⟨aZ (by kernel_rfl),?_⟩;refine au (m) (by first|rfl|(simp only[aH,bn,aB,aI,aA,Nat.reduceEqDiff,↓reduceIte,hF];rfl)) (by simp) ?_;simp (disch:=omega) only[wt,seval,reduceCtorEq,Nat.reduceEqDiff,aC,hF]
   first|exact aN (by kernel_rfl)|refine⟨aN (by kernel_rfl),?_⟩
   refine⟨⟨i+1,st,st3,out.set i (canon (iv (p.getD i (false,[]))/iv c)),by omega,by simpa using hol,λk hk=>?_,by omega,rfl,rfl,rfl,rfl⟩,by omega⟩;rcases Nat.lt_or_ge k i with hk'|hk'
   .exact hv k hk'
   .obtain rfl:k=i:=by omega
    exact hdv
  .have hdi:=hdv;rw[rJ]at hdi;have m:=SX (p.getD i (false,[])) c ((hp.get i).mono (by omega)) (hc.mono (by omega)) h0 hdi;simp (disch:=omega) only[wt,seval,reduceCtorEq,Nat.reduceEqDiff,aC,hF];refine .inl ⟨aZ (by kernel_rfl),?_⟩;refine au (m) (by first|rfl|(simp only[aH,bn,aB,aI,aA,Nat.reduceEqDiff,↓reduceIte,hF];rfl)) (by simp) ?_;simp (disch:=omega) only[wt,seval,reduceCtorEq,Nat.reduceEqDiff,aC,hF]
   first|exact aN (by kernel_rfl)|refine⟨aN (by kernel_rfl),?_⟩
 .refine(hb λk=>?_).elim;rcases Nat.lt_or_ge k p.length with hk|hk
  .exact hv k (by omega)
  .rw[jK (by rw[iK];omega)];exact Int.dvd_zero _
def a4S (P R:List Int):Bool:=dvb R P && decide ((lc R^dxp P R)∣(gz (dq P R):Int))
def exv (P R:List Int):List Int:=if tz R=0 then [] else if a4S P R then Cm (lc R^dxp P R) (dq P R) else []
def exe (P R:List Int):Int:=if tz R=0 then 1 else if a4S P R then 0 else 4
theorem YN {c:Int}{q:List Int}:c∣(gz q:Int)↔∀k,c∣cf q k:=by
 constructor
 .intro h k;exact Int.dvd_trans h (EY q k)
 .intro h;refine Int.natAbs_dvd.mp (Int.natCast_dvd_natCast.mpr (fU q c.natAbs λk=>Int.natAbs_dvd.mpr (h k)))
theorem b0f {c:Int}{K:Nat}(h:zl c<=K)(n:Nat)(hn:n<=41):zl (c^n)<=41*K+1:=by
 have h1:=Jh h n;have h2:n*K<=41*K:=Nat.mul_le_mul_right _ hn;omega
set_option maxRecDepth 100000 in
theorem Xo (p q:List RI)(S:Nat)(hp:RP 40 S p)(hq:RP 40 S q)(hS:S<=2^22):AC Tryz.prog 120 [cw p,cw q] none [cp (exv (pv p) (pv q)),ci (exe (pv p) (pv q))]:=by
 have hp':=hp.mono (Nat.le_refl 40) (show S<=2^27 by omega);have hq':=hq.mono (Nat.le_refl 40) (show S<=2^27 by omega);have sP:=JG hp;have sQ:=JG hq;by_cases h0:tz (pv q)=0
 .rw[exv,exe,if_pos h0,if_pos h0];have d:=Xp p q hq' h0;refine AC.aF (rs:=[.tmp 4,.tmp 5]) bM Tryz.func120 (by rfl) (by rfl) (by rfl) (by rfl) (by rfl) ?_;simp (disch:=omega) only[wt,seval,reduceCtorEq,Nat.reduceEqDiff,aC];refine au (d) (by rfl) (by simp) ?_;simp (disch:=omega) only[wt,seval,reduceCtorEq,Nat.reduceEqDiff,aC]
  try rfl
 have d:=Xq p q hp' hq' h0;have t1:=VI hp;have t2:=VI hq;have tr:=vY (A:=pv p) h0;have td:=b3e (A:=pv p) h0;obtain⟨s1,s2⟩:=KY h0 sP sQ;have hdx:dxp (pv p) (pv q)<=41:=by unfold dxp;omega
 have hdm:dxp (pv p) (pv q)*(S+1)<=41*(S+1):=Nat.mul_le_mul_right _ hdx;have dg:=a4v (a:=cn (dr (pv p) (pv q))) (q:=dr (pv p) (pv q)) ((oQ (D:=40) (k:=2^35) (by omega) (s2.mono (by omega))).mono (by omega) (by omega)) (jf _);rw[exv,exe,if_neg h0,if_neg h0];by_cases hd:¬dvb (pv q) (pv p)=true
 .have hb:dvb (pv q) (pv p)=false:=by simpa using hd
  have he:a4S (pv p) (pv q)=false:=by unfold a4S;rw[hb];rfl
  rw[he];have hr:¬tz (dr (pv p) (pv q))=0:=λh=>hd ((Oy _ _).mpr ((YR h0).mpr h))
  have hr':(0:Int)<=(tz (dr (pv p) (pv q)):Int)-1:=by omega
  refine AC.aF (rs:=[.tmp 4,.tmp 5]) bM Tryz.func120 (by rfl) (by rfl) (by rfl) (by rfl) (by rfl) ?_;simp (disch:=omega) only[wt,seval,reduceCtorEq,Nat.reduceEqDiff,aC];refine au (d) (by rfl) (by simp) ?_;simp (disch:=omega) only[wt,seval,reduceCtorEq,Nat.reduceEqDiff,aC];refine au (dg) (by first|rfl|(simp only[aH,bn,aB,aI,aA,Nat.reduceEqDiff,↓reduceIte,hr'];rfl)) (by simp) ?_;simp (disch:=omega) only[wt,seval,reduceCtorEq,Nat.reduceEqDiff,aC,hr']
  try rfl
 have hd:dvb (pv q) (pv p)=true:=Classical.not_not.mp hd;have hdr:=(YR h0).mp ((Oy _ _).mp hd);have he:a4S (pv p) (pv q)=decide ((lc (pv q)^dxp (pv p) (pv q))∣(gz (dq (pv p) (pv q)):Int)):=by unfold a4S;rw[hd,Bool.true_and]
 rw[he];rw[hdr]at dg;have o1:=iJ 1 (by omega) (by omega);have le:=Xn (a:=q) (q:=pv q) (hq.mono (by omega) (by omega)) rfl;have hlz:zl (lc (pv q))<=S:=sQ _;have rD:=oQ (D:=41) (k:=2^35) (by omega) (s1.mono (by omega));have hlp:=zL h0 (dxp (pv p) (pv q));have hpz:=b0f hlz (dxp (pv p) (pv q)) hdx;have key:∃(res:List Int) (e:Int),AC Tryz.prog 144 [cp (dq (pv p) (pv q)),cz (lc (pv q)^dxp (pv p) (pv q))] none [cp res,ci e]/\res=(if decide ((lc (pv q)^dxp (pv p) (pv q))∣(gz (dq (pv p) (pv q)):Int))=true then Cm (lc (pv q)^dxp (pv p) (pv q)) (dq (pv p) (pv q)) else [])/\e=(if decide ((lc (pv q)^dxp (pv p) (pv q))∣(gz (dq (pv p) (pv q)):Int))=true then 0 else 4):=by
  by_cases hg:(lc (pv q)^dxp (pv p) (pv q))∣(gz (dq (pv p) (pv q)):Int)
  .rw[decide_eq_true hg];have ov:=Qx (cn (dq (pv p) (pv q))) (canon (lc (pv q)^dxp (pv p) (pv q))) (rD.mono (by omega) (by omega)) ((aW _).mono (by omega)) (by rw[aU];exact hlp) (λk=>by rw[aU,Uo];exact YN.mp hg k);rw[aU,show cp (Cm (lc (pv q)^dxp (pv p) (pv q)) (pv (cn (dq (pv p) (pv q)))))=cp (Cm (lc (pv q)^dxp (pv p) (pv q)) (dq (pv p) (pv q))) from vg λk=>by rw[iE,iE,Uo]]at ov;exact⟨_,_,ov,rfl,rfl⟩
  .rw[decide_eq_false hg];have ov:=Xk (cn (dq (pv p) (pv q))) (canon (lc (pv q)^dxp (pv p) (pv q))) (rD.mono (by omega) (by omega)) ((aW _).mono (by omega)) (by rw[aU];exact hlp) (λh=>hg (YN.mpr λk=>by have:=h k;rwa [aU,Uo]at this));exact⟨[],4,ov,rfl,rfl⟩
 obtain⟨res,e,ov,hres,hee⟩:=key;rw[<-hres,<-hee];have he2:e=0\/(¬e=0/\e=4/\res=[]):=by
  rw[hres,hee];split
  .exact .inl rfl
  .exact .inr ⟨by decide,rfl,rfl⟩
 clear hres hee he hdm;generalize hX:dxp (pv p) (pv q)=x at *;generalize hL:lc (pv q)=L at *;refine AC.aF (rs:=[.tmp 4,.tmp 5]) bM Tryz.func120 (by rfl) (by rfl) (by rfl) (by rfl) (by rfl) ?_;simp (disch:=omega) only[wt,seval,reduceCtorEq,Nat.reduceEqDiff,aC];refine au (d) (by rfl) (by simp) ?_;simp (disch:=omega) only[wt,seval,reduceCtorEq,Nat.reduceEqDiff,aC];refine au (dg) (by rfl) (by simp) ?_;simp (disch:=omega) only[wt,seval,reduceCtorEq,Nat.reduceEqDiff,aC];refine au (o1) (by rfl) (by simp) ?_;simp (disch:=omega) only[wt,seval,reduceCtorEq,Nat.reduceEqDiff,aC];refine bF (λf H=>∃(i st:Nat),i<=x/\f 26=.iv (.int .i64 i)/\f 25=.iv (.int .i64 x)/\f 1=.iv (.sl (gZ q))/\f 6=.iv (.sl (dY (dq (pv p) (pv q))))/\f 10=.hp 10 st 0 0/\H 10=.blk false st 29 2 [je (canon (L^i))]) (λf H=>(x-dQ f 26).toNat) ?_ ?_
 .refine⟨0,1,by omega,?_⟩;simp (disch:=omega) only[wt,seval,reduceCtorEq,Nat.reduceEqDiff,aC,Int.pow_zero]
 rintro f H ⟨i,st,hi,hF⟩;rw[bC hF.1];simp (disch:=omega) only[wt,seval,reduceCtorEq,Nat.reduceEqDiff,aC,hF];by_cases hlt':i<x
 .have hlt:(i:Int)<(x:Int):=by omega
  have hz:=b0f hlz i (by omega);have m:=jM (canon (L^i)) (canon L) ((aW _).mono (by omega)) ((aW _).mono (by omega));rw[aU,aU,<-Int.pow_succ]at m;simp (disch:=omega) only[wt,seval,reduceCtorEq,Nat.reduceEqDiff,aC,hF,hlt];refine .inl ⟨aZ (by kernel_rfl),?_⟩;refine au (le) (by first|rfl|(simp only[aH,bn,aB,aI,aA,Nat.reduceEqDiff,↓reduceIte,hF,hlt];rfl)) (by simp) ?_;simp (disch:=omega) only[wt,seval,reduceCtorEq,Nat.reduceEqDiff,aC,hF,hlt];refine au (m) (by first|rfl|(simp only[aH,bn,aB,aI,aA,Nat.reduceEqDiff,↓reduceIte,hF,hlt];rfl)) (by simp) ?_;simp (disch:=omega) only[wt,seval,reduceCtorEq,Nat.reduceEqDiff,aC,hF,hlt]
  first|exact aN (by kernel_rfl)|refine⟨aN (by kernel_rfl),?_⟩
  refine⟨⟨i+1,st,by omega,?_⟩,by omega⟩
  try (repeat' apply And.intro)<;>first|rfl|omega
 .obtain rfl:i=x:=by omega
  have hlt:¬(i:Int)<(i:Int):=by omega
  simp (disch:=omega) only[wt,seval,reduceCtorEq,Nat.reduceEqDiff,aC,hF,hlt];rcases he2 with rfl|⟨h1,rfl,rfl⟩
  .skip
   refine au (ov) (by first|rfl|(simp only[aH,bn,aB,aI,aA,Nat.reduceEqDiff,↓reduceIte,hF];rfl)) (by simp) ?_;simp (disch:=omega) only[wt,seval,reduceCtorEq,Nat.reduceEqDiff,aC,hF]
   try rfl
  .skip
   refine au (ov) (by first|rfl|(simp only[aH,bn,aB,aI,aA,Nat.reduceEqDiff,↓reduceIte,hF];rfl)) (by simp) ?_;simp (disch:=omega) only[wt,seval,reduceCtorEq,Nat.reduceEqDiff,aC,hF]
   try rfl
theorem TY (a b c:PS):a*(b*c)=b*(a*c):=by rw[<-PS.mul_assoc,PS.mul_comm a b,PS.mul_assoc]
theorem Ov {P R:List Int}(hR:Prm R)(h:Dv R P):ps (exv P R)*ps R=ps P:=by
 have h0:=Xf hR;obtain⟨s,e⟩:=YQ hR h;have hz:=(YR h0).mp h;have e2:=qK P R;rw[fO hz,PS.add_zero,<-e,<-PS.mul_assoc]at e2;have e3:ps (dq P R)=ps (aY (lc R^dxp P R) s):=Cj (B:=R) (by rw[e2,bg]) h0;have hk:∀k,cf (dq P R) k=lc R^dxp P R*cf s k:=λk=>by rw[jc e3 k,dM,Int.mul_comm]
 have hd:a4S P R=true:=by
  unfold a4S;rw[(Oy _ _).2 h,Bool.true_and,decide_eq_true_iff];exact YN.2 λk=>by rw[hk];exact Int.dvd_mul_right _ _
 rw[exv,if_neg h0,if_pos hd];rw[<-e]
 congr 1
 refine PS.ext λk=>?_;rw[zJ,zJ,iE,hk,Int.mul_ediv_cancel_left _ (zL h0 _)]
def frd (P:List Int):List Int:=jZ (exv (jZ P) (jZ (rM P (aP P))))
theorem Ol {P:List Int}(h:tz P≠0):tz (rM P (aP P))≠0:=λh0=>h (a4P (nI P (aP P)) h0).1
theorem Yy {P:List Int}(h:tz P≠0):∃c:Int,c≠0/\ps (bV (frd P) (rM P (aP P)))=ps (bV (frd P) (rM P (aP P)))/\∃a b:Int,a≠0/\b≠0/\PS.C a*(ps (frd P)*ps (rM P (aP P)))=PS.C b*ps P:=by
 have hg:=nI P (aP P);have h0:=Ol h;have hG:Prm (jZ (rM P (aP P))):=wW λe=>h0 (xX.1 e)
 have e:=Ov (P:=jZ P) hG (hg.a.as (uj _).symm (uj P));refine⟨1,by decide,rfl,?_⟩;have p1:As (frd P) (exv (jZ P) (jZ (rM P (aP P)))):=(uj _).symm;have p2:As (jZ P) P:=(uj P).symm;have p3:As (rM P (aP P)) (jZ (rM P (aP P))):=uj _;obtain⟨a1,b1,n1,m1,q1⟩:=p1;obtain⟨a2,b2,n2,m2,q2⟩:=p2;obtain⟨a3,b3,n3,m3,q3⟩:=p3;refine⟨a1*a3*a2,b1*b3*b2,Int.mul_ne_zero (Int.mul_ne_zero n1 n3) n2,Int.mul_ne_zero (Int.mul_ne_zero m1 m3) m2,?_⟩;have:PS.C (a1*a3*a2)*(ps (frd P)*ps (rM P (aP P)))=PS.C a2*((PS.C a1*ps (frd P))*(PS.C a3*ps (rM P (aP P)))):=by
  rw[PS.jL,PS.jL];simp only[PS.mul_assoc,PS.mul_comm,TY]
 rw[this,q1,q3];have:PS.C a2*(PS.C b1*ps (exv (jZ P) (jZ (rM P (aP P))))*(PS.C b3*ps (jZ (rM P (aP P)))))=PS.C (b1*b3)*(PS.C a2*ps (jZ P)):=by
  rw[<-e,PS.jL];simp only[PS.mul_assoc,PS.mul_comm,TY]
 rw[this,q2,<-PS.mul_assoc,<-PS.jL]
theorem b3a {G H A B:List Int}(h:GG G A B)(h':GG H A B):As G H:=(h'.dv h.a h.b).anti (h.dv h'.a h'.b)
theorem Wn {P:List Int}{n:Nat}(hn:tz (aP P)<=n)(h:tz P≠0):GG (sla n (spos P) (spos (aP P))) P (aP P):=by
 have sp:∀A:List Int,As (spos A) A:=λA=>by
  by_cases h0:tz A=0
  .exact .kF (by rw[fO h0,fO (by rw[o9];exact h0)])
  .have c0:cont A≠0:=λe=>h0 (pR e)
   exact⟨((cont A).natAbs:Int),1,by omega,by decide,by rw[PS.uT,PS.one_mul];exact(qB A).symm⟩
 exact(a4j n _ _ (by rw[o9];exact hn)).as (.refl _) (sp P) (sp _)
theorem a2M {P:List Int}{rs:List Rat}(hR:J9 P rs)(h:tz P≠0):∀r∈rs,er (frd P) r=0:=by
 obtain⟨-,-,-,a,b,ha,hb,e⟩:=Yy h;obtain⟨c,d,hc,hd,e2⟩:=b3a (nI P (aP P)) (Wn (Nat.le_refl _) h);have k:ps (aY (a*d) (frd P))*ps (sla (tz (aP P)) (spos P) (spos (aP P)))=PS.C (b*c)*ps P:=by
  have:ps (aY (a*d) (frd P))*ps (sla (tz (aP P)) (spos P) (spos (aP P)))=PS.C a*(ps (frd P)*(PS.C d*ps (sla (tz (aP P)) (spos P) (spos (aP P))))):=by
   rw[bg,PS.jL];simp only[PS.mul_assoc,PS.mul_comm,TY]
  rw[this,<-e2];have:PS.C a*(ps (frd P)*(PS.C c*ps (rM P (aP P))))=PS.C c*(PS.C a*(ps (frd P)*ps (rM P (aP P)))):=by simp only[PS.mul_assoc,PS.mul_comm,TY]
  rw[this,e,PS.jL];simp only[PS.mul_assoc,PS.mul_comm,TY]
 have s:=Rf hR h (Nat.le_refl _) (Int.mul_ne_zero hb hc) k;intro r hr;obtain⟨A,A',a1,a2,a3,a4⟩:=s.one r hr;have h1:=(a4 r).1;rw[show r-r=0 by grind,Rat.pow_succ,Rat.pow_zero,Rat.mul_zero,Rat.zero_mul]at h1;have h2:er (aY (a*d) (frd P)) r=0:=by rw[a7R (qB _),h1,Rat.mul_zero]
 rw[iF]at h2;have h3:((a*d:Int):Rat)≠0:=by exact_mod_cast Int.mul_ne_zero ha hd
 exact iM h3 (by grind)
theorem a4R {P D0:List Int}{n:Nat}(h:Com P D0 n)(h0:tz P≠0):tz (frd P)≠0/\tz (frd P)<=n+1/\Dv (frd P) P/\Dv D0 (rM P (aP P)):=by
 obtain⟨-,-,-,a,b,ha,hb,e⟩:=Yy h0;obtain⟨hD,E,G,e1,e2,e3,e4⟩:=h;have g0:=Ol h0;have dg:Dv D0 (rM P (aP P)):=(nI P (aP P)).dv (.mul (S:=E) (by rw[e1,PS.mul_comm])) (.mul (S:=G) (by rw[e2,PS.mul_comm]));have hk:As (bV (frd P) (rM P (aP P))) P:=⟨a,b,ha,hb,by rw[aX];exact e⟩;have ht:=OU hk;have f0:tz (frd P)≠0:=λhf=>h0 (by rw[<-ht];exact gV (.inl hf))
 rw[gJ f0 g0]at ht;have tP:tz P=tz D0+tz E-1:=by rw[dX (q:=bV D0 E) (by rw[aX,e1]),gJ hD e4]
 have:=pO dg g0;exact⟨f0,by omega,⟨b,aY a (rM P (aP P)),hb,by rw[bg,<-e];simp only[PS.mul_assoc,PS.mul_comm,TY]⟩,dg⟩
theorem b0U {P D0:List Int}{n N S:Nat}(h:Com P D0 n)(h0:tz P≠0)(hN:tz P<=N)(hN2:N<=10000)(hS:SBd S P):SBd (S+10*N) (frd P):=b1g h0 hN hN2 hS (XG _) (a4R h h0).2.2.1
theorem a2H {P:List Int}{N S:Nat}(h0:tz P≠0)(hN:tz P<=N)(hN2:N<=10000)(hS:SBd S P):SBd (S+10*N) (rM P (aP P)):=b1g h0 hN hN2 hS (Oj _ _) (nI P (aP P)).a
structure Kn (P D0:List Int) (n S:Nat):Prop where
 com:Com P D0 n
 s:SBd S P
 s':SBd S (aP P)
 t:tz P<=30
 hS:S<=1000
 hE:EZ S (n+1)<=2^27
theorem Kn.ne {P D0:List Int}{n S:Nat}(h:Kn P D0 n S):tz P≠0:=by
 obtain⟨hD,E,G,e1,e2,e3,e4⟩:=h.com;rw[dX (q:=bV D0 E) (by rw[aX,e1]),gJ hD e4];omega
theorem Kn.tp {P D0:List Int}{n S:Nat}(h:Kn P D0 n S):tz (aP P)<=tz P:=iC λk hk=>by rw[jr,bW P (by omega),Int.zero_mul]
theorem b0e {p q:List Int}(h:∀k,cf p k=cf q k)(hq:Prm q):Prm p:=by
 refine⟨by rw[Yr h];exact hq.1,?_⟩;unfold lc;rw[jA h,h];exact hq.2
theorem b0r (a b:List RI)(A B:List Int)(ea:ps (pv a)=ps A)(eb:ps (pv b)=ps B)(ra:RP 40 (2^21) a)(rb:RP 40 (2^21) b)(hb:tz B≠0)(hd:Dv B A)(hA0:tz A≠0)(S:Nat)(hA:SBd S A)(hS:S<=2^21):AC Tryz.prog 92 [cw a,cw b] none [cp (jZ (exv (jZ A) (jZ B)))]:=by
 have p1:=sU (a:=a) (q:=A) (ra.mono (by omega) (by omega)) ea;have p2:=sU (a:=b) (q:=B) (rb.mono (by omega) (by omega)) eb;have sa:=JG ra;have sb:=JG rb;have ta:=VI ra;have tb:=VI rb;rw[dX ea]at ta;rw[dX eb]at tb;have sA:SBd (2^21) A:=λk=>by rw[<-jc ea];exact sa k
 have sB:SBd (2^21) B:=λk=>by rw[<-jc eb];exact sb k
 have rA:RP 40 (2^22) (cn (npr A)):=oQ (by rw[l9];exact ta) ((BP sA).mono (by omega));have rB:RP 40 (2^22) (cn (npr B)):=oQ (by rw[l9];exact tb) ((BP sB).mono (by omega));have p3:=Xo (cn (npr A)) (cn (npr B)) (2^22) rA rB (by omega);rw[Ce (qG A),Ce (qG B)]at p3;have pB:Prm (jZ B):=wW λe=>hb (xX.1 e)
 have nB:Prm (npr B):=b0e (λk=>bH _ k) pB;have hd1:Dv (npr B) (npr A):=hd.as (um B).symm (um A);have hd2:Dv (jZ B) (jZ A):=hd.as (uj B).symm (uj A);have e1:=Ov nB hd1;have e2:=Ov pB hd2;have ee:ps (exv (npr A) (npr B))=ps (exv (jZ A) (jZ B)):=Cj (B:=npr B) (by
  rw[e1,show ps (npr B)=ps (jZ B) from lK _,e2];exact lK _) (Xf nB)
 have tn:tz (npr A)≠0:=by rw[l9];exact hA0
 have hs:SBd (S+10*40) (exv (npr A) (npr B)):=KW (s:=npr B) tn (by rw[l9];exact ta) (by omega) (BP hA) (by rw[PS.mul_comm];exact e1);have hz:=(pO (.mul (S:=npr B) (by rw[<-e1,PS.mul_comm]):Dv (exv (npr A) (npr B)) (npr A)) tn).2;rw[l9]at hz;have p4:=sU (a:=cn (exv (npr A) (npr B))) (q:=exv (jZ A) (jZ B)) ((oQ (D:=40) (k:=2^22) (by omega) (hs.mono (by omega))).mono (by omega) (by omega)) (by rw[jf];exact ee);rw[<-a5b]at p4;generalize exe (npr A) (npr B)=e at p3;refine AC.aF (rs:=[.tmp 4]) bM Tryz.func92 (by rfl) (by rfl) (by rfl) (by rfl) (by rfl) ?_;simp (disch:=omega) only[wt,seval,reduceCtorEq,Nat.reduceEqDiff];refine au (p1) (by rfl) (by simp) ?_;simp (disch:=omega) only[wt,seval,reduceCtorEq,Nat.reduceEqDiff];refine au (p2) (by rfl) (by simp) ?_;simp (disch:=omega) only[wt,seval,reduceCtorEq,Nat.reduceEqDiff];refine au (p3) (by rfl) (by simp) ?_;simp (disch:=omega) only[wt,seval,reduceCtorEq,Nat.reduceEqDiff];refine au (p4) (by rfl) (by simp) ?_;simp (disch:=omega) only[wt,seval,reduceCtorEq,Nat.reduceEqDiff]
theorem a7E (p:List RI){P D0:List Int}{n S:Nat}(e:ps (pv p)=ps P)(hp:RP 40 S p)(h:Kn P D0 n S):AC Tryz.prog 65 [cw p] none [cp (frd P)]:=by
 have h0:=h.ne;have t30:=h.t;have hS:=h.hS;have d1:=a4v (a:=p) (q:=P) (hp.mono (by omega) (by omega)) e;have d2:=a1C (a:=p) (q:=P) (hp.mono (by omega) (by omega)) e;have tp:=h.tp;have sd:=h.s';have c0:=CN.start h.com h.s h.s';have ed:ps (pv (cn (aP P)))=ps (aP P):=jf _;have d3:=b0g p (cn (aP P)) (tz P) S n D0 hp (oQ (by omega) sd) (by omega) h.hE (by rw[a4E e,a4E ed];exact c0);rw[Ai (a7A (.kF e) (.kF ed))]at d3;have gs:=a2H (N:=30) h0 t30 (by omega) h.s;have gt:=(pO (nI P (aP P)).a h0).2;have d4:=b0r p (cn (rM P (aP P))) P (rM P (aP P)) e (jf _) (hp.mono (by omega) (by omega)) (oQ (by omega) (gs.mono (by omega))) (Ol h0) (nI P (aP P)).a h0 S h.s (by omega);have n1:¬(tz P:Int)-1<0:=by omega
 refine AC.aF (rs:=[.tmp 2]) bM Tryz.func65 (by rfl) (by rfl) (by rfl) (by rfl) (by rfl) ?_;simp (disch:=omega) only[wt,seval,reduceCtorEq,Nat.reduceEqDiff];refine au (d1) (by first|rfl|(simp only[aH,bn,aB,aI,aA,Nat.reduceEqDiff,↓reduceIte,n1];rfl)) (by simp) ?_;simp (disch:=omega) only[wt,seval,reduceCtorEq,Nat.reduceEqDiff,n1];refine au (d2) (by rfl) (by simp) ?_;simp (disch:=omega) only[wt,seval,reduceCtorEq,Nat.reduceEqDiff];refine au (d3) (by rfl) (by simp) ?_;simp (disch:=omega) only[wt,seval,reduceCtorEq,Nat.reduceEqDiff];refine au (d4) (by rfl) (by simp) ?_;simp (disch:=omega) only[wt,seval,reduceCtorEq,Nat.reduceEqDiff]
 try rfl

theorem Uh (l:List Int)(x:Int):iO (l++[x])=iO l++[[.int .i64 x]]:=by simp[iO]
theorem getD_mem {α:Type}{L:List α}{i:Nat}(h:i<L.length)(d:α):L.getD i d∈L:=by
 rw[List.getD,List.getElem?_eq_getElem h,Option.getD_some];exact List.getElem_mem h
theorem Fb (p:List RI)(a b:RI)(hp:RP (2^6) (2^24) p)(ha:Sz (2^24) a)(hb:Sz (2^24) b):AC Tryz.prog 102 [cw p,cr a,cr b] none [cz (pG (aV (pv p)) (iv a) (iv b))]:=by
 have za:=rG ha;have zb:=rG hb;refine AC.aF (rs:=[.cell 6 29]) bM Tryz.func102 (by rfl) (by rfl) (by rfl) (by rfl) (by rfl) ?_;simp (disch:=omega) only[wt,seval,reduceCtorEq,Nat.reduceEqDiff,rqs,aC,bG];refine au ((gX p (hp.mono (by omega) (by omega)))) (by rfl) (by simp) ?_;simp (disch:=omega) only[wt,seval,reduceCtorEq,Nat.reduceEqDiff,rqs,aC,bG];have hA:=hp.pv.aV;unfold dY;generalize aV (pv p)=A at *;have hAl:=hA.1;have hq:(A.map canon).length=A.length:=by simp
 have hB:∀i,zl (pG (A.drop i) (iv a) (iv b))<=2^32:=λi=>by
  have h:=Vl (K:=2^24) (p:=A.drop i) za zb λz hz=>hA.2 z (List.mem_of_mem_drop hz)
  have h2:(A.drop i).length<=2^6:=by rw[List.length_drop];omega
  have h3:=Nat.mul_le_mul_right (2^24+1) h2;have h4:2^24+2^6*(2^24+1)+1<=2^32:=by decide
  omega
 refine au ((iJ 0 (by omega) (by omega))) (by first|rfl|(simp only[aH,bn,aB,aI,aA,Nat.reduceEqDiff,↓reduceIte,hq];rfl)) (by simp) ?_;simp (disch:=omega) only[wt,seval,reduceCtorEq,Nat.reduceEqDiff,rqs,aC,bG,hq];refine au ((iJ 1 (by omega) (by omega))) (by first|rfl|(simp only[aH,bn,aB,aI,aA,Nat.reduceEqDiff,↓reduceIte,hq];rfl)) (by simp) ?_;simp (disch:=omega) only[wt,seval,reduceCtorEq,Nat.reduceEqDiff,rqs,aC,bG,hq];have e0:canon (pG (A.drop A.length) (iv a) (iv b))=canon 0:=by rw[List.drop_length,pG]
 have e1:canon (iv b^(A.length-A.length))=canon 1:=by rw[Nat.sub_self,Int.pow_zero]
 refine bF (λf H=>∃(i st4 st5 st6 st7 st8:Nat),i<=A.length/\f 9=.iv (.int .i64 ((i:Int)-1))/\f 0=.iv (.sl (gZ (A.map canon)))/\f 4=.hp 4 st4 0 0/\H 4=.blk false st4 29 2 [je a]/\f 5=.hp 5 st5 0 0/\H 5=.blk false st5 29 2 [je b]/\f 6=.hp 6 st6 0 0/\H 6=.blk false st6 29 2 [je (false,[])]/\f 7=.hp 7 st7 0 0/\H 7=.blk false st7 29 2 [je (canon (pG (A.drop i) (iv a) (iv b)))]/\f 8=.hp 8 st8 0 0/\H 8=.blk false st8 29 2 [je (canon (iv b^(A.length-i)))]) (λf H=>(dQ f 9+1).toNat) ?_ ?_
 .refine⟨A.length,1,1,1,1,1,by omega,?_⟩;simp (disch:=omega) only[wt,seval,reduceCtorEq,Nat.reduceEqDiff,rqs,aC,bG,e0,e1]
 rintro f H ⟨i,st4,st5,st6,st7,st8,hi,hF⟩;rw[bC hF.1];simp (disch:=omega) only[wt,seval,reduceCtorEq,Nat.reduceEqDiff,rqs,aC,bG,hF];refine bU (λhlt=>?_) (λhlt=>?_)
 .obtain⟨j,rfl⟩:∃j,i=j+1:=⟨i-1,by omega⟩;have ej:((j+1:Nat):Int)-1=(j:Int):=by omega
  rw[ej]at hF;have hd:=YT A (i:=j) (by omega);have zj:=hA.cf j;have zh:=hB (j+1);have zp:=Jh zb (A.length-(j+1));have zm:=gI (pG (A.drop (j+1)) (iv a) (iv b)) (iv a);have zm2:=gI (cf A j) (iv b^(A.length-(j+1)));simp (disch:=omega) only[wt,seval,reduceCtorEq,Nat.reduceEqDiff,rqs,aC,bG,hF,ej,hq];refine .inl ⟨aZ (by kernel_rfl),?_⟩;have m:=jM (canon (pG (A.drop (j+1)) (iv a) (iv b))) a ((aW _).mono (by omega)) (ha.mono (by omega));rw[aU]at m;refine au (m) (by first|rfl|(simp only[aH,bn,aB,aI,aA,Nat.reduceEqDiff,↓reduceIte,hF,ej,hq];rfl)) (by simp) ?_;simp (disch:=omega) only[wt,seval,reduceCtorEq,Nat.reduceEqDiff,rqs,aC,bG,hF,ej,hq];have m2:=jM (canon (cf A j)) (canon (iv b^(A.length-(j+1)))) ((aW _).mono (by omega)) ((aW _).mono (by omega));rw[aU,aU]at m2;refine au (m2) (by first|rfl|(simp only[aH,bn,aB,aI,aA,Nat.reduceEqDiff,↓reduceIte,hF,ej,hq];rfl)) (by simp) ?_;simp (disch:=omega) only[wt,seval,reduceCtorEq,Nat.reduceEqDiff,rqs,aC,bG,hF,ej,hq];have s:=rP (canon (pG (A.drop (j+1)) (iv a) (iv b)*iv a)) (canon (cf A j*iv b^(A.length-(j+1)))) ((aW _).mono (by omega)) ((aW _).mono (by omega));rw[aU,aU]at s;refine au (s) (by first|rfl|(simp only[aH,bn,aB,aI,aA,Nat.reduceEqDiff,↓reduceIte,hF,ej,hq];rfl)) (by simp) ?_;simp (disch:=omega) only[wt,seval,reduceCtorEq,Nat.reduceEqDiff,rqs,aC,bG,hF,ej,hq]
  first|exact aN (by kernel_rfl)|refine⟨aN (by kernel_rfl),?_⟩
  have m3:=jM (canon (iv b^(A.length-(j+1)))) b ((aW _).mono (by omega)) (hb.mono (by omega));rw[aU,<-Int.pow_succ,show (A.length-(j+1)).succ=A.length-j by omega]at m3;refine au (m3) (by first|rfl|(simp only[aH,bn,aB,aI,aA,Nat.reduceEqDiff,↓reduceIte,hF,ej,hq];rfl)) (by simp) ?_;simp (disch:=omega) only[wt,seval,reduceCtorEq,Nat.reduceEqDiff,rqs,aC,bG,hF,ej,hq];have e':pG (A.drop (j+1)) (iv a) (iv b)*iv a+cf A j*iv b^(A.length-(j+1))=pG (A.drop j) (iv a) (iv b):=by rw[hd,pG,List.length_drop,Int.add_comm,Int.mul_comm (iv a)]
  refine⟨⟨j,st4,st5,st6,st7,st8,by omega,?_⟩,by omega⟩;rw[e']
  (repeat' apply And.intro)<;>first|rfl|omega
 .have hi0:i=0:=by omega
  subst hi0;rw[List.drop_zero]at hF;simp (disch:=omega) only[wt,seval,reduceCtorEq,Nat.reduceEqDiff,rqs,aC,bG,hF]
  try rfl
theorem b1r {x y:Int}{d e:Nat}(hd:d≠0)(he:e≠0):Dx (x*e) (y*d)=sgq ((x:Rat)/(d:Rat)-(y:Rat)/(e:Rat)):=by
 have hd':(0:Rat)<d:=by have:0<d:=by omega
                        exact_mod_cast this
 have he':(0:Rat)<e:=by have:0<e:=by omega
                        exact_mod_cast this
 have h1:(x:Rat)/(d:Rat)*(d:Rat)=x:=Rat.div_mul_cancel (by grind);have h2:(y:Rat)/(e:Rat)*(e:Rat)=y:=Rat.div_mul_cancel (by grind);generalize (x:Rat)/(d:Rat)=u at *;generalize (y:Rat)/(e:Rat)=v at *;have key:((x*e-y*d:Int):Rat)=(d:Rat)*(e:Rat)*(u-v):=by
  rw[Rat.intCast_sub,Rat.intCast_mul,Rat.intCast_mul,Rat.intCast_natCast,Rat.intCast_natCast,<-h1,<-h2]
  grind
 have hp:=Rat.mul_pos hd' he';have s:=congrArg sgq key;rw[Wx,Np,sH hp,Int.one_mul]at s;rw[<-s];unfold Dx;generalize x*(e:Int)=p;generalize y*(d:Int)=q;split
 .rw[Int.sign_eq_neg_one_of_neg (by omega)]
 .split
  .rw[Int.sign_eq_one_of_pos (by omega)]
  .rw[show p-q=0 by omega];rfl
theorem Qs (a b:RQ)(ha:SzQ (2^34) a)(hb:SzQ (2^34) b)(h0:nv a.2≠0)(h1:nv b.2≠0):AC Tryz.prog 47 [cqq a,cqq b] none [ci (sgq (qv a-qv b)),ci 0]:=by
 rw[a9Y,a9Y,<-b1r h0 h1];have c:=NG a b (ha.mono (by omega)) (hb.mono (by omega)) h0 h1;have t1:=JX a.1 b.2 (ha.1.mono (by omega)) ⟨Nat.le_trans hb.2.1 (by omega),hb.2.2⟩;have t2:=JX b.1 a.2 (hb.1.mono (by omega)) ⟨Nat.le_trans ha.2.1 (by omega),ha.2.2⟩;have y1:=rG ha.1;have y2:=rG hb.1;have y3:=a6R ha.2;have y4:=a6R hb.2;have z1:=gI (iv a.1) (nv b.2:Nat);have z2:=gI (iv b.1) (nv a.2:Nat);have m:=FU (canon (iv a.1*(nv b.2:Nat))) (canon (iv b.1*(nv a.2:Nat))) ((aW _).mono (by omega)) ((aW _).mono (by omega));rw[aU,aU]at m;refine AC.aF (rs:=[.tmp 4,.tmp 5]) bM Tryz.func47 (by rfl) (by rfl) (by rfl) (by rfl) (by rfl) ?_;simp (disch:=omega) only[wt,seval,reduceCtorEq,Nat.reduceEqDiff,rqs,aC,bG,Gz];refine au (c) (by first|rfl|(simp only[aH,bn,aB,aI,aA,Nat.reduceEqDiff,↓reduceIte,Gz];rfl)) (by simp) ?_;simp (disch:=omega) only[wt,seval,reduceCtorEq,Nat.reduceEqDiff,rqs,aC,bG,Gz];refine .inl ⟨aZ (by kernel_rfl),?_⟩;refine au (t1) (by rfl) (by simp) ?_;simp (disch:=omega) only[wt,seval,reduceCtorEq,Nat.reduceEqDiff,rqs,aC,bG];refine au (t2) (by rfl) (by simp) ?_;simp (disch:=omega) only[wt,seval,reduceCtorEq,Nat.reduceEqDiff,rqs,aC,bG];refine au (m) (by rfl) (by simp) ?_;simp (disch:=omega) only[wt,seval,reduceCtorEq,Nat.reduceEqDiff,rqs,aC,bG]
 first|exact aN (by kernel_rfl)|refine⟨aN (by kernel_rfl),?_⟩
 try rfl
theorem CI.all {D S K:Nat}{D0:List Int}:∀(n:Nat) {X Y:List Int},CI D S K D0 X Y->∀Z∈srl n X Y,aV Z=Z/\tz Z<=D/\tz Z≠0/\SBd (EZ S (K+1)) Z
 |0,X,Y,h,Z,hZ=>by
  rw[srl,List.mem_singleton]at hZ;subst hZ;exact⟨h.tx,h.ei.x,h.x0,h.bd.1⟩
 |n+1,X,Y,h,Z,hZ=>by
  rw[srl]at hZ;split at hZ
  .rw[List.mem_singleton]at hZ;subst hZ;exact⟨h.tx,h.ei.x,h.x0,h.bd.1⟩
  .rename_i h0;rcases List.mem_cons.1 hZ with e|e
   .subst e;exact⟨h.tx,h.ei.x,h.x0,h.bd.1⟩
   .exact CI.all n (h.step h0) Z e
abbrev scn (P:List Int):List (List Int):=srl (tz (aP P)) (spos P) (spos (aP P))
theorem Kn.all {P D0:List Int}{n S:Nat}(hk:Kn P D0 n S):∀Z∈scn P,aV Z=Z/\tz Z<=30/\tz Z≠0/\SBd (EZ S (n+1)) Z:=λZ hZ=>by
 obtain⟨a,b,c,d⟩:=CI.all _ (CI.start hk.com hk.s hk.s') Z hZ;exact⟨a,Nat.le_trans b hk.t,c,d⟩
def frp (P:List Int):List Int:=spos (dq P (sla (tz (aP P)) (spos P) (spos (aP P))))
theorem a7D {P D0:List Int}{n S:Nat}(hk:Kn P D0 n S):ps (dq P (sla (tz (aP P)) (spos P) (spos (aP P))))*ps (sla (tz (aP P)) (spos P) (spos (aP P)))=PS.C (lc (sla (tz (aP P)) (spos P) (spos (aP P)))^dxp P (sla (tz (aP P)) (spos P) (spos (aP P))))*ps P/\tz (sla (tz (aP P)) (spos P) (spos (aP P)))≠0/\tz (dq P (sla (tz (aP P)) (spos P) (spos (aP P))))≠0:=by
 have g:=Wn (P:=P) (Nat.le_refl _) hk.ne;generalize sla (tz (aP P)) (spos P) (spos (aP P))=G at *;have h0:tz G≠0:=λh0=>hk.ne (a4P g h0).1
 have e:=qK P G;rw[fO ((YR h0).mp g.a),PS.add_zero]at e;refine⟨e,h0,λhz=>?_⟩;rw[fO hz,PS.zero_mul]at e;have hP:tz (aY (lc G^dxp P G) P)=0:=bf.mpr λk=>by
  have:=jc (p:=aY (lc G^dxp P G) P) (q:=[]) (by rw[bg,<-e,EM]) k;rw[this,gu]
 rw[jk (zL h0 _)]at hP;exact hk.ne hP
theorem Wy {P:List Int}{S n:Nat}(h:SBd S P)(ht:tz P<=n)(hn:n<W):SBd (S+1) (aP P):=λk=>by
 rw[jr];by_cases hk:tz P<=k+1
 .rw[bW P hk,Int.zero_mul,fA];omega
 .have h1:=gI (cf P (k+1)) ((k+1:Nat):Int);have h2:=h (k+1);have h3:zl ((k+1:Nat):Int)<=1:=dR.mpr (by rw[Nat.pow_one];omega);omega
theorem EZ.a6U {S T:Nat}(h:S<=T):∀i,EZ S i<=EZ T i
 |0=>h
 |1=>by show 2*S+1<=2*T+1;omega
 |i+2=>by
  have:=EZ.a6U h i;have:=EZ.a6U h (i+1);show 2*EZ S (i+1)+EZ S i+2<=2*EZ T (i+1)+EZ T i+2;omega
theorem YD {S n:Nat}(hS:S<=350)(hn:n<=10):EZ S (n+1)<=2^23:=by
 have h1:=EZ.a6U hS (n+1);have h2:=EZ.mono 350 (show n+1<=11 by omega);have h3:EZ 350 11<=2^23:=by decide +kernel
 omega
structure Kw (p:List RI) (D0:List Int) (n S:Nat) (rs:List Rat):Prop where
 kn:Kn (pv p) D0 n S
 rp:RP 40 S p
 n10:n<=10
 s40:S<=45
 root:J9 (pv p) rs
theorem Kw.mem {p:List RI}{D0:List Int}{n S:Nat}{rs:List Rat}(h:Kw p D0 n S rs):∀X∈scn (pv p),RP 40 (2^24) (cn X):=λX hX=>by
 obtain⟨a,b,c,d⟩:=h.kn.all X hX;have e:=YD (S:=S) (n:=n) (by have:=h.s40;omega) h.n10;exact oQ (by omega) (d.mono (by omega))
theorem Kw.simp {p:List RI}{D0:List Int}{n S:Nat}{rs:List Rat}(h:Kw p D0 n S rs):b1J (frp (pv p)) rs:=by
 obtain⟨e,g0,q0⟩:=a7D h.kn;exact Rf h.root h.kn.ne (Nat.le_refl _) (zL g0 _) e
end Go.Proofs.YtnhghmibjddlkaaGreatDoor
