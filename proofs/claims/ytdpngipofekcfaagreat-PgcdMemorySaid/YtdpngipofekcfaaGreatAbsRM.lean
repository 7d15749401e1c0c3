/-
 The laws of the ring of polynomials.
-/
import Derived.Test.YtdpngipofekcfaaGreatAbsK
import Derived.Test.YtdpngipofekcfaaGreatAbsFM
namespace Go.AL
set_option linter.unusedSimpArgs false
set_option linter.unusedVariables false
variable {g:Nat->Int} {p q:List Int}
def tK (g:Nat->Int):Nat->Int
 |0=>0
 |k+1=>g k
theorem a3i (g h:Nat->Int):∀(p:List Int) (k:Nat),cv p (λj=>g j+h j) k=cv p g k+cv p h k
 |[],_=>rfl
 |x::xs,0=>by simp only[cv,zfo];omega
 |x::xs,k+1=>by simp only[cv,a3i g h xs k,zfo];omega
theorem a3g (c:Int)(g:Nat->Int):∀(p:List Int) (k:Nat),cv p (λj=>c*g j) k=c*cv p g k
 |[],_=>by simp[cv]
 |x::xs,0=>by simp only[cv,zcS];rw[Int.mul_left_comm]
 |x::xs,k+1=>by simp only[cv,a3g c g xs k,zfo];rw[Int.mul_left_comm]
theorem FC (g:Nat->Int):∀(p:List Int) (k:Nat),cv p (tK g) k=tK (cv p g) k
 |[],0=>rfl
 |[],k+1=>rfl
 |x::xs,0=>by simp[cv,tK]
 |x::xs,1=>by simp[cv,tK,FC g xs 0]
 |x::xs,k+2=>by simp[cv,tK,FC g xs (k+1)]
theorem Xc (x:Int):∀(q:List Int) (k:Nat),cv q (λj=>if j=0 then x else 0) k=cf q k*x
 |[],k=>by simp[cv,lJ]
 |y::ys,0=>by simp[cv,lK]
 |y::ys,k+1=>by simp[cv,iy,Xc x ys k]
theorem b2j (x:Int)(xs:List Int)(j:Nat):cf (x::xs) j=(if j=0 then x else 0)+tK (cf xs) j:=by
 cases j<;>simp[lK,iy,tK]
theorem xG (x:Int)(xs:List Int)(g:Nat->Int)(k:Nat):cv (x::xs) g k=x*g k+tK (cv xs g) k:=by
 cases k<;>rfl
theorem wI {h:Nat->Int}(e:∀j,g j=h j)(k:Nat):tK g k=tK h k:=by cases k<;>simp[tK,e]
theorem IZ:∀(p q:List Int) (k:Nat),cv p (cf q) k=cv q (cf p) k
 |[],q,k=>by rw[Ut];rfl
 |x::xs,q,k=>by
  rw[xG,BG q k (b2j x xs),a3i,Xc,FC,wI (λj=>IZ xs q j),zcR]
theorem Eo (x:Int)(xs q:List Int)(j:Nat):cf (fD (x::xs) q) j=x*cf q j+tK (cf (fD xs q)) j:=by
 rw[gy,xG,wI (λj=>(gy xs q j).symm)]
theorem Xd:∀(p q r:List Int) (k:Nat),cv (fD p q) (cf r) k=cv p (cf (fD q r)) k
 |[],q,r,k=>by
  rw[nP (p':=[]) (λj=>by rw[gy];rfl)];rfl
 |x::xs,q,r,k=>by
  rw[IZ (fD (x::xs) q) r,BG r k (Eo x xs q),a3i,a3g,FC,xG,gy,IZ q r]
  congr 1
  exact wI (λj=>by rw[IZ,Xd xs q r j]) k
theorem Pz (p q:List Int)(k:Nat):cf (fD p q) k=cf (fD q p) k:=by rw[gy,gy,IZ]
theorem Kr {p' q':List Int}(hp:∀k,cf p k=cf p' k)(hq:∀k,cf q k=cf q' k)(k:Nat):cf (fD p q) k=cf (fD p' q') k:=by
 rw[gy,gy,nP hp,BG _ k hq]
theorem a9h {n:Nat}(hg:∀j,n<j->g j=0):∀(p:List Int) (m:Nat),(∀j,m<j->cf p j=0)->cv p g (m+n)=cf p m*g n/\∀k,m+n<k->cv p g k=0
 |[],m,_=>⟨by simp[cv,lJ],λ_ _=>rfl⟩
 |x::xs,0,h=>by
  have h0:∀j,cf xs j=cf [] j:=λj=>h (j+1) (by omega)
  have hz:∀k,tK (cv xs g) k=0:=by
   intro k;cases k with
   |zero=>rfl
   |succ k=>show cv xs g k=0;rw[nP h0];rfl
  refine⟨?_,λk hk=>?_⟩
  .rw[xG,hz,za9,lK,zcS]
  .rw[xG,hz,hg k (by omega)];simp
 |x::xs,m+1,h=>by
  obtain⟨h1,h2⟩:=a9h hg xs m λj hj=>h (j+1) (by omega)
  refine⟨?_,λk hk=>?_⟩
  .rw[xG,hg _ (by omega),iy,show m+1+n=(m+n)+1 by omega];show x*0+cv xs g (m+n)=_;rw[h1];simp
  .cases k with
   |zero=>omega
   |succ k =>
    rw[xG,hg _ (by omega)];show x*0+cv xs g k=0;rw[h2 k (by omega)];simp
theorem uD (hp:tz p≠0)(hq:tz q≠0):tz (fD p q)=tz p+tz q-1:=by
 obtain⟨h1,h2⟩:=a9h (g:=cf q) (n:=tz q-1) (λj hj=>dW q (by omega)) p (tz p-1) (λj hj=>dW p (by omega));have:=Sj (q:=fD p q) (n:=tz p-1+(tz q-1)) (by
  rw[gy,h1];exact zb3 (jv hp) (jv hq)) (λk hk=>by rw[gy];exact h2 k hk)
 omega
theorem lC (h:tz p=0\/tz q=0):tz (fD p q)=0:=by
 rw[bn];intro k;rcases h with h|h
 .rw[gy,nP (p':=[]) (bn.mp h)];rfl
 .rw[Pz,gy,nP (p':=[]) (bn.mp h)];rfl
theorem a3x (h:p.map canon=q.map canon):p=q:=by rw[<-fP p,h,fP]
end Go.AL

namespace Go.AL
set_option linter.unusedSimpArgs false
set_option linter.unusedVariables false
variable {n k:Nat} {f g:Nat->Int} {p q:List Int}
def Af:Nat->(Nat->Int)->Int
 |0,_=>0
 |n+1,f=>Af n f+f n
theorem tJ (h:∀i,i<n->f i=g i):Af n f=Af n g:=by
 induction n with
 |zero=>rfl
 |succ n ih=>rw[Af,Af,ih (λi hi=>h i (by omega)),h n (by omega)]
theorem Vq (n:Nat)(f g:Nat->Int):Af n (λi=>f i+g i)=Af n f+Af n g:=by
 induction n with
 |zero=>rfl
 |succ n ih=>simp only[Af,ih];omega
theorem a4W (n:Nat)(c:Int)(f:Nat->Int):Af n (λi=>c*f i)=c*Af n f:=by
 induction n with
 |zero=>simp[Af]
 |succ n ih=>simp only[Af,ih,zfo]
theorem tH (h:∀i,i<n->f i=0):Af n f=0:=by
 induction n with
 |zero=>rfl
 |succ n ih=>rw[Af,ih (λi hi=>h i (by omega)),h n (by omega)];rfl
theorem JK (n:Nat)(f:Nat->Int):Af (n+1) f=f 0+Af n (λi=>f (i+1)):=by
 induction n with
 |zero=>simp[Af]
 |succ n ih=>rw[Af,ih,Af];omega
theorem LG {j:Nat}(f:Nat->Int)(hj:j<n)(h:∀i,i<n->i≠j->f i=0):Af n f=f j:=by
 induction n with
 |zero=>omega
 |succ n ih =>
  rw[Af];by_cases e:j=n
  .subst e;rw[tH (λi hi=>h i (by omega) (by omega)),zdR]
  .rw[ih (by omega) (λi hi hne=>h i (by omega) hne),h n (by omega) (by omega),zcS]
structure PS where
 c:Nat->Int
namespace PS
theorem ext {f g:PS}(h:∀k,f.c k=g.c k):f=g:=by
 cases f;cases g;congr;exact funext h
def conv (f g:Nat->Int)(k:Nat):Int:=Af (k+1) λi=>f i*g (k-i)
instance:Add PS:=⟨λf g=>⟨λk=>f.c k+g.c k⟩⟩
instance:Mul PS:=⟨λf g=>⟨conv f.c g.c⟩⟩
instance:Neg PS:=⟨λf=>⟨λk=>- f.c k⟩⟩
instance:Sub PS:=⟨λf g=>⟨λk=>f.c k-g.c k⟩⟩
instance:Zero PS:=⟨⟨λ_=>0⟩⟩
def C (z:Int):PS:=⟨λk=>if k=0 then z else 0⟩
instance:One PS:=⟨C 1⟩
def X:PS:=⟨λk=>if k=1 then 1 else 0⟩
theorem vH (f g:PS)(k:Nat):(f+g).c k=f.c k+g.c k:=rfl
theorem Ux (f:PS)(k:Nat):(-f).c k = -f.c k:=rfl
theorem J7 (k:Nat):(0:PS).c k=0:=rfl
theorem c_C (z:Int)(k:Nat):(C z).c k=if k=0 then z else 0:=rfl
theorem a7y (k:Nat):(1:PS).c k=if k=0 then 1 else 0:=rfl
theorem rW (f g:PS)(k:Nat):(f*g).c k=conv f.c g.c k:=rfl
theorem vw:∀(p:List Int) (g:Nat->Int) (k:Nat),cv p g k=conv (cf p) g k
 |[],g,k=>by simp only[cv,conv];rw[tH];intro i _;rw[lJ,Int.zero_mul]
 |x::xs,g,k=>by
  rw[xG,conv,JK];simp only[lK,Nat.sub_zero,iy]
  congr 1
  cases k with
  |zero=>rfl
  |succ k =>
   show cv xs g k=_;rw[vw xs g k,conv];exact tJ λi hi=>by congr 2;omega
def cut (n:Nat)(f:Nat->Int):List Int:=(List.range n).map f
theorem Xj {i:Nat}(h:i<n):cf (cut n f) i=f i:=by
 simp[cut,cf,List.getD,h]
theorem nR {f' g':Nat->Int}(hf:∀i,i<=k->f i=f' i)(hg:∀i,i<=k->g i=g' i):conv f g k=conv f' g' k :=
 tJ λi hi=>by rw[hf i (by omega),hg (k-i) (by omega)]
theorem pK (f g:Nat->Int){n k:Nat}(h:k<n):conv f g k=cf (fD (cut n f) (cut n g)) k:=by
 rw[gy,vw];exact nR (λi hi=>(Xj (by omega)).symm) (λi hi=>(Xj (by omega)).symm)
theorem mul_comm (f g:PS):f*g=g*f:=ext λk=>by
 rw[rW,rW,pK _ _ (zdw k),pK _ _ (zdw k),Pz]
theorem mul_assoc (f g h:PS):f*g*h=f*(g*h):=ext λk=>by
 rw[rW,rW];have e1:conv (f*g).c h.c k=conv (cf (fD (cut (k+1) f.c) (cut (k+1) g.c))) (cf (cut (k+1) h.c)) k :=
  nR (λi hi=>by rw[rW,pK f.c g.c (n:=k+1) (by omega)]) (λi hi=>(Xj (by omega)).symm)
 have e2:conv f.c (g*h).c k=conv (cf (cut (k+1) f.c)) (cf (fD (cut (k+1) g.c) (cut (k+1) h.c))) k :=
  nR (λi hi=>(Xj (by omega)).symm) (λi hi=>by rw[rW,pK g.c h.c (n:=k+1) (by omega)])
 rw[e1,e2,<-vw,<-vw,Xd]
theorem mul_add (f g h:PS):f*(g+h)=f*g+f*h:=ext λk=>by
 simp only[rW,vH,conv];rw[<-Vq];exact tJ λi _=>zfo _ _ _
theorem add_mul (f g h:PS):(f+g)*h=f*h+g*h:=by rw[mul_comm,mul_add,mul_comm h f,mul_comm h g]
theorem add_comm (f g:PS):f+g=g+f:=ext λk=>Int.add_comm _ _
theorem add_assoc (f g h:PS):f+g+h=f+(g+h):=ext λk=>Int.add_assoc _ _ _
theorem zero_add (f:PS):0+f=f:=ext λk=>zdR _
theorem add_zero (f:PS):f+0=f:=ext λk=>zcS _
theorem gG (z:Int)(f:PS)(k:Nat):(C z*f).c k=z*f.c k:=by
 rw[rW,conv,JK,tH (λi _=>by rw[c_C,zam (by omega),zb8]),zcS,c_C,zas rfl,zcF]
theorem one_mul (f:PS):1*f=f:=ext λk=>by
 show (C 1*f).c k=_;rw[gG,zfR]
theorem mul_one (f:PS):f*1=f:=by rw[mul_comm,one_mul]
theorem zero_mul (f:PS):0*f=0:=ext λk=>by
 rw[rW,conv,J7,tH];intro i _;rw[J7,zb8]
theorem mul_zero (f:PS):f*0=0:=by rw[mul_comm,zero_mul]
theorem add_neg (f:PS):f + -f=0:=ext λk=>by rw[vH,Ux,J7];omega
theorem neg_mul (f g:PS) : -f*g = -(f*g):=ext λk=>by
 rw[rW,Ux,rW,conv,conv,<-Int.neg_one_mul,<-a4W];exact tJ λi _=>by rw[Ux,Int.neg_mul,Int.neg_one_mul]
theorem x9 (f:PS):C (-1)*f = -f:=ext λk=>by rw[gG,Ux,Int.neg_one_mul]
theorem qO (a b:Int):C (a*b)=C a*C b:=ext λk=>by
 rw[gG,c_C,c_C];split<;>simp
theorem b5w:C 0=0:=ext λk=>by rw[c_C,J7];split<;>rfl
theorem Ce:C 1=1:=rfl
instance:Std.Associative (α:=PS) (· * ·):=⟨mul_assoc⟩
instance:Std.Commutative (α:=PS) (· * ·):=⟨mul_comm⟩
instance:Std.Associative (α:=PS) (· + ·):=⟨add_assoc⟩
instance:Std.Commutative (α:=PS) (· + ·):=⟨add_comm⟩
def pw (f:PS):Nat->PS
 |0=>1
 |n+1=>pw f n*f
theorem a8E (f:PS)(m n:Nat):pw f (m+n)=pw f m*pw f n:=by
 induction n with
 |zero=>rw[zaV,pw,mul_one]
 |succ n ih=>rw[<-zbp,pw,ih,pw,mul_assoc]
theorem a8D (f:PS):pw f 1=f:=by rw[pw,pw,one_mul]
def D (f:PS):PS:=⟨λk=>f.c (k+1)*((k+1:Nat):Int)⟩
end PS
def ps (q:List Int):PS:=⟨cf q⟩
theorem F6 (q:List Int)(k:Nat):(ps q).c k=cf q k:=rfl
theorem oW (h:ps p=ps q)(k:Nat):cf p k=cf q k:=by rw[<-F6,h,F6]
theorem a8F (h:∀k,cf p k=cf q k):ps p=ps q:=PS.ext h
theorem lZ (p q:List Int):ps (mZ p q)=ps p+ps q:=PS.ext λk=>iY p q k
theorem dP (p q:List Int):ps (fD p q)=ps p*ps q:=PS.ext λk=>by rw[F6,gy,PS.vw];rfl
theorem bG (c:Int)(p:List Int):ps (aU c p)=PS.C c*ps p:=PS.ext λk=>by rw[PS.gG,F6,F6,dD,zcR]
theorem AP (p:List Int):ps (aO p)=ps p:=PS.ext (bM p)
theorem Ko:ps []=0:=PS.ext λk=>lJ k
theorem a0Y:ps [1]=1:=PS.ext λk=>by
 rw[PS.a7y,F6];cases k with
 |zero=>rfl
 |succ k=>rw[iy,lJ,zam (by omega)]
theorem VN (z:Int):ps [z]=PS.C z:=PS.ext λk=>by
 rw[PS.c_C,F6];cases k with
 |zero=>rfl
 |succ k=>rw[iy,lJ,zam (by omega)]
theorem PB.one (hn:1<=n)(hk:1<=k):PB n k [1]:=⟨by simpa using hn,λz hz=>by
 simp at hz;subst hz;exact zad (sH.mpr (by decide)) hk⟩
end Go.AL

namespace Go.AL
set_option linter.unusedSimpArgs false
set_option linter.unusedVariables false
def zF (l:List (List Nat)):List (List IV):=l.map λa=>[.sl (dh a)]
theorem oq (l:List (List Nat)):(zF l).length=l.length:=by simp[zF]
theorem MS {l:List (List Nat)}{i:Nat}(h:i<l.length):(zF l).getD i []=[.sl (dh (l.getD i []))]:=by simp[zF,List.getD,h]
theorem Yk (l:List (List Nat))(a:List Nat):zF l++[[.sl (dh a)]]=zF (l++[a]):=by simp[zF]
theorem a1M:zF []=[]:=rfl
end Go.AL
