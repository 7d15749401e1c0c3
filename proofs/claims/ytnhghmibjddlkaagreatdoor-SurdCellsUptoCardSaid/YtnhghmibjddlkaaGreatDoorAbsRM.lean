/-
 The laws of the ring of polynomials.
-/
import Derived.Test.YtnhghmibjddlkaaGreatDoorAbsFM
namespace Go.AL
set_option linter.unusedSimpArgs false
set_option linter.unusedVariables false
def ni (g:Nat->Int):Nat->Int
 |0=>0
 |k+1=>g k
theorem Z8 (g h:Nat->Int):∀(p:List Int) (k:Nat),cv p (λj=>g j+h j) k=cv p g k+cv p h k
 |[],_=>rfl
 |x::xs,0=>by simp only[cv,Int.mul_add];omega
 |x::xs,k+1=>by simp only[cv,Z8 g h xs k,Int.mul_add];omega
theorem Z7 (c:Int)(g:Nat->Int):∀(p:List Int) (k:Nat),cv p (λj=>c*g j) k=c*cv p g k
 |[],_=>by simp[cv]
 |x::xs,0=>by simp only[cv,Int.add_zero];rw[Int.mul_left_comm]
 |x::xs,k+1=>by simp only[cv,Z7 c g xs k,Int.mul_add];rw[Int.mul_left_comm]
theorem AZ (g:Nat->Int):∀(p:List Int) (k:Nat),cv p (ni g) k=ni (cv p g) k
 |[],0=>rfl
 |[],k+1=>rfl
 |x::xs,0=>by simp[cv,ni]
 |x::xs,1=>by simp[cv,ni,AZ g xs 0]
 |x::xs,k+2=>by simp[cv,ni,AZ g xs (k+1)]
theorem RF (x:Int):∀(q:List Int) (k:Nat),cv q (λj=>if j=0 then x else 0) k=cf q k*x
 |[],k=>by simp[cv,gu]
 |y::ys,0=>by simp[cv,jI]
 |y::ys,k+1=>by simp[cv,gy,RF x ys k]
theorem a8j (x:Int)(xs:List Int)(j:Nat):cf (x::xs) j=(if j=0 then x else 0)+ni (cf xs) j:=by
 cases j<;>simp[jI,gy,ni]
theorem tV (x:Int)(xs:List Int)(g:Nat->Int)(k:Nat):cv (x::xs) g k=x*g k+ni (cv xs g) k:=by
 cases k<;>rfl
theorem sG {g h:Nat->Int}(e:∀j,g j=h j)(k:Nat):ni g k=ni h k:=by cases k<;>simp[ni,e]
theorem Dt:∀(p q:List Int) (k:Nat),cv p (cf q) k=cv q (cf p) k
 |[],q,k=>by rw[OD];rfl
 |x::xs,q,k=>by
  rw[tV,xQ q k (a8j x xs),Z8,RF,AZ,sG (λj=>Dt xs q j),Int.mul_comm]
theorem eH (x:Int)(xs q:List Int)(j:Nat):cf (bV (x::xs) q) j=x*cf q j+ni (cf (bV xs q)) j:=by
 rw[dZ,tV,sG (λj=>(dZ xs q j).symm)]
theorem RG:∀(p q r:List Int) (k:Nat),cv (bV p q) (cf r) k=cv p (cf (bV q r)) k
 |[],q,r,k=>by
  rw[kJ (p':=[]) (λj=>by rw[dZ];rfl)];rfl
 |x::xs,q,r,k=>by
  rw[Dt (bV (x::xs) q) r,xQ r k (eH x xs q),Z8,Z7,AZ,tV,dZ,Dt q r]
  congr 1
  exact sG (λj=>by rw[Dt,RG xs q r j]) k
theorem x9 (p q:List Int)(k:Nat):cf (bV p q) k=cf (bV q p) k:=by rw[dZ,dZ,Dt]
theorem U6 {p p' q q':List Int}(hp:∀k,cf p k=cf p' k)(hq:∀k,cf q k=cf q' k)(k:Nat):cf (bV p q) k=cf (bV p' q') k:=by
 rw[dZ,dZ,kJ hp,xQ _ k hq]
theorem a4Z {g:Nat->Int}{n:Nat}(hg:∀j,n<j->g j=0):∀(p:List Int) (m:Nat),(∀j,m<j->cf p j=0)->cv p g (m+n)=cf p m*g n/\∀k,m+n<k->cv p g k=0
 |[],m,_=>⟨by simp[cv,gu],λ_ _=>rfl⟩
 |x::xs,0,h=>by
  have h0:∀j,cf xs j=cf [] j:=λj=>h (j+1) (by omega)
  have hz:∀k,ni (cv xs g) k=0:=by
   intro k;cases k with
   |zero=>rfl
   |succ k=>show cv xs g k=0;rw[kJ h0];rfl
  refine⟨?_,λk hk=>?_⟩
  .rw[tV,hz,Nat.zero_add,jI,Int.add_zero]
  .rw[tV,hz,hg k (by omega)];simp
 |x::xs,m+1,h=>by
  obtain⟨h1,h2⟩:=a4Z hg xs m λj hj=>h (j+1) (by omega)
  refine⟨?_,λk hk=>?_⟩
  .rw[tV,hg _ (by omega),gy,show m+1+n=(m+n)+1 by omega];show x*0+cv xs g (m+n)=_;rw[h1];simp
  .cases k with
   |zero=>omega
   |succ k =>
    rw[tV,hg _ (by omega)];show x*0+cv xs g k=0;rw[h2 k (by omega)];simp
theorem gJ {p q:List Int}(hp:tz p≠0)(hq:tz q≠0):tz (bV p q)=tz p+tz q-1:=by
 obtain⟨h1,h2⟩:=a4Z (g:=cf q) (n:=tz q-1) (λj hj=>bW q (by omega)) p (tz p-1) (λj hj=>bW p (by omega));have:=vF (q:=bV p q) (n:=tz p-1+(tz q-1)) (by
  rw[dZ,h1];exact Int.mul_ne_zero (dS hp) (dS hq)) (λk hk=>by rw[dZ];exact h2 k hk)
 omega
theorem gV {p q:List Int}(h:tz p=0\/tz q=0):tz (bV p q)=0:=by
 rw[bf];intro k;rcases h with h|h
 .rw[dZ,kJ (p':=[]) (bf.mp h)];rfl
 .rw[x9,dZ,kJ (p':=[]) (bf.mp h)];rfl
end Go.AL

namespace Go.AL
set_option linter.unusedSimpArgs false
set_option linter.unusedVariables false
def uV:Nat->(Nat->Int)->Int
 |0,_=>0
 |n+1,f=>uV n f+f n
theorem jG {n:Nat}{f g:Nat->Int}(h:∀i,i<n->f i=g i):uV n f=uV n g:=by
 induction n with
 |zero=>rfl
 |succ n ih=>rw[uV,uV,ih (λi hi=>h i (by omega)),h n (by omega)]
theorem Gm (n:Nat)(f g:Nat->Int):uV n (λi=>f i+g i)=uV n f+uV n g:=by
 induction n with
 |zero=>rfl
 |succ n ih=>simp only[uV,ih];omega
theorem Qa (n:Nat)(c:Int)(f:Nat->Int):uV n (λi=>c*f i)=c*uV n f:=by
 induction n with
 |zero=>simp[uV]
 |succ n ih=>simp only[uV,ih,Int.mul_add]
theorem oM {n:Nat}{f:Nat->Int}(h:∀i,i<n->f i=0):uV n f=0:=by
 induction n with
 |zero=>rfl
 |succ n ih=>rw[uV,ih (λi hi=>h i (by omega)),h n (by omega)];rfl
theorem yI (n:Nat)(f:Nat->Int):uV (n+1) f=f 0+uV n (λi=>f (i+1)):=by
 induction n with
 |zero=>simp[uV]
 |succ n ih=>rw[uV,ih,uV];omega
theorem Gl {n j:Nat}(f:Nat->Int)(hj:j<n)(h:∀i,i<n->i≠j->f i=0):uV n f=f j:=by
 induction n with
 |zero=>omega
 |succ n ih =>
  rw[uV];by_cases e:j=n
  .subst e;rw[oM (λi hi=>h i (by omega) (by omega)),Int.zero_add]
  .rw[ih (by omega) (λi hi hne=>h i (by omega) hne),h n (by omega) (by omega),Int.add_zero]
structure PS where
 c:Nat->Int
namespace PS
theorem ext {f g:PS}(h:∀k,f.c k=g.c k):f=g:=by
 cases f;cases g;congr;exact funext h
def conv (f g:Nat->Int)(k:Nat):Int:=uV (k+1) λi=>f i*g (k-i)
instance:Add PS:=⟨λf g=>⟨λk=>f.c k+g.c k⟩⟩
instance:Mul PS:=⟨λf g=>⟨conv f.c g.c⟩⟩
instance:Neg PS:=⟨λf=>⟨λk=>- f.c k⟩⟩
instance:Sub PS:=⟨λf g=>⟨λk=>f.c k-g.c k⟩⟩
instance:Zero PS:=⟨⟨λ_=>0⟩⟩
def C (z:Int):PS:=⟨λk=>if k=0 then z else 0⟩
instance:One PS:=⟨C 1⟩
def X:PS:=⟨λk=>if k=1 then 1 else 0⟩
theorem OO (f g:PS)(k:Nat):(f+g).c k=f.c k+g.c k:=rfl
theorem OM (f:PS)(k:Nat):(-f).c k = -f.c k:=rfl
theorem Sm (k:Nat):(0:PS).c k=0:=rfl
theorem c_C (z:Int)(k:Nat):(C z).c k=if k=0 then z else 0:=rfl
theorem b3h (k:Nat):(1:PS).c k=if k=0 then 1 else 0:=rfl
theorem oC (f g:PS)(k:Nat):(f*g).c k=conv f.c g.c k:=rfl
theorem qM:∀(p:List Int) (g:Nat->Int) (k:Nat),cv p g k=conv (cf p) g k
 |[],g,k=>by simp only[cv,conv];rw[oM];intro i _;rw[gu,Int.zero_mul]
 |x::xs,g,k=>by
  rw[tV,conv,yI];simp only[jI,Nat.sub_zero,gy]
  congr 1
  cases k with
  |zero=>rfl
  |succ k =>
   show cv xs g k=_;rw[qM xs g k,conv];exact jG λi hi=>by congr 2;omega
def cut (n:Nat)(f:Nat->Int):List Int:=(List.range n).map f
theorem Si {n:Nat}{f:Nat->Int}{i:Nat}(h:i<n):cf (cut n f) i=f i:=by
 simp[cut,cf,List.getD,h]
theorem kK {f f' g g':Nat->Int}{k:Nat}(hf:∀i,i<=k->f i=f' i)(hg:∀i,i<=k->g i=g' i):conv f g k=conv f' g' k :=
 jG λi hi=>by rw[hf i (by omega),hg (k-i) (by omega)]
theorem lU (f g:Nat->Int){n k:Nat}(h:k<n):conv f g k=cf (bV (cut n f) (cut n g)) k:=by
 rw[dZ,qM];exact kK (λi hi=>(Si (by omega)).symm) (λi hi=>(Si (by omega)).symm)
theorem mul_comm (f g:PS):f*g=g*f:=ext λk=>by
 rw[oC,oC,lU _ _ (Nat.lt_succ_self k),lU _ _ (Nat.lt_succ_self k),x9]
theorem mul_assoc (f g h:PS):f*g*h=f*(g*h):=ext λk=>by
 rw[oC,oC];have e1:conv (f*g).c h.c k=conv (cf (bV (cut (k+1) f.c) (cut (k+1) g.c))) (cf (cut (k+1) h.c)) k :=
  kK (λi hi=>by rw[oC,lU f.c g.c (n:=k+1) (by omega)]) (λi hi=>(Si (by omega)).symm)
 have e2:conv f.c (g*h).c k=conv (cf (cut (k+1) f.c)) (cf (bV (cut (k+1) g.c) (cut (k+1) h.c))) k :=
  kK (λi hi=>(Si (by omega)).symm) (λi hi=>by rw[oC,lU g.c h.c (n:=k+1) (by omega)])
 rw[e1,e2,<-qM,<-qM,RG]
theorem mul_add (f g h:PS):f*(g+h)=f*g+f*h:=ext λk=>by
 simp only[oC,OO,conv];rw[<-Gm];exact jG λi _=>Int.mul_add _ _ _
theorem add_mul (f g h:PS):(f+g)*h=f*h+g*h:=by rw[mul_comm,mul_add,mul_comm h f,mul_comm h g]
theorem add_comm (f g:PS):f+g=g+f:=ext λk=>Int.add_comm _ _
theorem add_assoc (f g h:PS):f+g+h=f+(g+h):=ext λk=>Int.add_assoc _ _ _
theorem zero_add (f:PS):0+f=f:=ext λk=>Int.zero_add _
theorem add_zero (f:PS):f+0=f:=ext λk=>Int.add_zero _
theorem jW (z:Int)(f:PS)(k:Nat):(C z*f).c k=z*f.c k:=by
 rw[oC,conv,yI,oM (λi _=>by rw[c_C,if_neg (by omega),Int.zero_mul]),Int.add_zero,c_C,if_pos rfl,Nat.sub_zero]
theorem one_mul (f:PS):1*f=f:=ext λk=>by
 show (C 1*f).c k=_;rw[jW,Int.one_mul]
theorem mul_one (f:PS):f*1=f:=by rw[mul_comm,one_mul]
theorem zero_mul (f:PS):0*f=0:=ext λk=>by
 rw[oC,conv,Sm,oM];intro i _;rw[Sm,Int.zero_mul]
theorem mul_zero (f:PS):f*0=0:=by rw[mul_comm,zero_mul]
theorem add_neg (f:PS):f + -f=0:=ext λk=>by rw[OO,OM,Sm];omega
theorem neg_mul (f g:PS) : -f*g = -(f*g):=ext λk=>by
 rw[oC,OM,oC,conv,conv,<-Int.neg_one_mul,<-Qa];exact jG λi _=>by rw[OM,Int.neg_mul,Int.neg_one_mul]
theorem oZ (f:PS):C (-1)*f = -f:=ext λk=>by rw[jW,OM,Int.neg_one_mul]
theorem b3t (a b:Int):C (a+b)=C a+C b:=ext λk=>by simp only[c_C,OO];split<;>omega
theorem jL (a b:Int):C (a*b)=C a*C b:=ext λk=>by
 rw[jW,c_C,c_C];split<;>simp
theorem a5v:C 0=0:=ext λk=>by rw[c_C,Sm];split<;>rfl
theorem uT:C 1=1:=rfl
instance:Std.Associative (α:=PS) (· * ·):=⟨mul_assoc⟩
instance:Std.Commutative (α:=PS) (· * ·):=⟨mul_comm⟩
instance:Std.Associative (α:=PS) (· + ·):=⟨add_assoc⟩
instance:Std.Commutative (α:=PS) (· + ·):=⟨add_comm⟩
def pw (f:PS):Nat->PS
 |0=>1
 |n+1=>pw f n*f
theorem X8 (f:PS)(m n:Nat):pw f (m+n)=pw f m*pw f n:=by
 induction n with
 |zero=>rw[Nat.add_zero,pw,mul_one]
 |succ n ih=>rw[<-Nat.add_assoc,pw,ih,pw,mul_assoc]
theorem Qv (f:PS):pw f 1=f:=by rw[pw,pw,one_mul]
def D (f:PS):PS:=⟨λk=>f.c (k+1)*((k+1:Nat):Int)⟩
theorem UW (f g:PS):D (f*g)=D f*g+f*D g:=ext λk=>by
 rw[OO,oC,oC];simp only[D,oC];have h1:conv (λk=>f.c (k+1)*((k+1:Nat):Int)) g.c k=uV (k+2) (λi=>(i:Int)*(f.c i*g.c (k+1-i))):=by
  rw[yI,conv,Int.natCast_zero,Int.zero_mul,Int.zero_add];refine jG λi hi=>?_;rw[show k+1-(i+1)=k-i by omega]
  ac_rfl
 have h2:conv f.c (λk=>g.c (k+1)*((k+1:Nat):Int)) k=uV (k+2) (λi=>((k+1-i:Nat):Int)*(f.c i*g.c (k+1-i))):=by
  rw[uV,conv,show k+1-(k+1)=0 by omega,Int.natCast_zero,Int.zero_mul,Int.add_zero];refine jG λi hi=>?_;rw[show k+1-i=k-i+1 by omega]
  ac_rfl
 rw[h1,h2,<-Gm,conv,Int.mul_comm,<-Qa];refine jG λi hi=>?_;rw[<-Int.add_mul]
 congr 1
 omega
theorem D_C (z:Int):D (C z)=0:=ext λk=>by
 show (C z).c (k+1)*_=0;rw[c_C,if_neg (by omega),Int.zero_mul]
theorem b5T (f:PS)(n:Nat):D (pw f (n+1))=C ((n+1:Nat):Int)*(pw f n*D f):=by
 induction n with
 |zero=>rw[Qv,pw,one_mul];exact(one_mul _).symm
 |succ n ih =>
  rw[pw,UW,ih,pw];have e:C ((n+1+1:Nat):Int)=C ((n+1:Nat):Int)+1:=by rw[<-uT,<-b3t];rfl
  rw[e,add_mul,one_mul]
  congr 1
  ac_rfl
end PS
def ps (q:List Int):PS:=⟨cf q⟩
theorem zJ (q:List Int)(k:Nat):(ps q).c k=cf q k:=rfl
theorem jc {p q:List Int}(h:ps p=ps q)(k:Nat):cf p k=cf q k:=by rw[<-zJ,h,zJ]
theorem Xa {p q:List Int}(h:∀k,cf p k=cf q k):ps p=ps q:=PS.ext h
theorem gq (p q:List Int):ps (ji p q)=ps p+ps q:=PS.ext λk=>fJ p q k
theorem aX (p q:List Int):ps (bV p q)=ps p*ps q:=PS.ext λk=>by rw[zJ,dZ,PS.qM];rfl
theorem bg (c:Int)(p:List Int):ps (aY c p)=PS.C c*ps p:=PS.ext λk=>by rw[PS.jW,zJ,zJ,dM,Int.mul_comm]
theorem lK (p:List Int):ps (aV p)=ps p:=PS.ext (bH p)
theorem EM:ps []=0:=PS.ext λk=>gu k
theorem kR:ps [1]=1:=PS.ext λk=>by
 rw[PS.b3h,zJ];cases k with
 |zero=>rfl
 |succ k=>rw[gy,gu,if_neg (by omega)]
theorem uI (z:Int):ps [z]=PS.C z:=PS.ext λk=>by
 rw[PS.c_C,zJ];cases k with
 |zero=>rfl
 |succ k=>rw[gy,gu,if_neg (by omega)]
def aP (p:List Int):List Int:=(List.range (p.length-1)).map λk=>cf p (k+1)*((k+1:Nat):Int)
theorem jr (p:List Int)(k:Nat):cf (aP p) k=cf p (k+1)*((k+1:Nat):Int):=by
 by_cases h:k<p.length-1
 .rw[aP,cf,List.getD,List.getElem?_map,List.getElem?_range h];rfl
 .rw[jK (by simp[aP];omega),jK (q:=p) (by omega),Int.zero_mul]
theorem dL (p:List Int):ps (aP p)=PS.D (ps p):=PS.ext λk=>jr p k
def wY (p:List Int):Nat->List Int
 |0=>[1]
 |n+1=>bV p (wY p n)
theorem jR (p:List Int)(n:Nat):ps (wY p n)=PS.pw (ps p) n:=by
 induction n with
 |zero=>exact kR
 |succ n ih=>rw[wY,aX,ih,PS.mul_comm];rfl
theorem PB.aP {n k:Nat}{p:List Int}(h:PB n k p)(hn:n<W):PB n (k+1) (aP p) :=
 PB.of (by simp only[AL.aP,List.length_map,List.length_range];have:=h.1;omega) λi=>by
  rw[jr];by_cases hi:i+1<p.length
  .refine Nat.le_trans (gI _ _) (Nat.add_le_add (h.cf _) (dR.mpr ?_));have:=h.1;simp only[W]at *;omega
  .rw[jK (q:=p) (by omega),Int.zero_mul,fA];omega
theorem PB.one {n k:Nat}(hn:1<=n)(hk:1<=k):PB n k [1]:=⟨by simpa using hn,λz hz=>by
 simp at hz;subst hz;exact Nat.le_trans (dR.mpr (by decide)) hk⟩
theorem PB.wY {n k:Nat}{p:List Int}(h:PB n k p)(hn:n<W):∀m,PB (m*n+1) (m*(k+1)+1) (wY p m)
 |0=>PB.one (by omega) (by omega)
 |m+1=>by
  have e:AL.bV p (AL.wY p m)=AL.wY p (m+1):=rfl;have:=h.bV (PB.wY h hn m) hn;rw[e]at this;exact this.mono (by rw[Nat.succ_mul];omega) (by rw[Nat.succ_mul];omega)
end Go.AL
