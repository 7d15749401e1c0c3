/-
 The laws of the ring of polynomials.
-/
import Derived.Test.YtnjaeokkfbihlaaGreatAbsPM
namespace Go.AL
set_option linter.unusedSimpArgs false
set_option linter.unusedVariables false
def shiftf (g:Nat->Int):Nat->Int
 |0=>0
 |k+1=>g k
theorem cv_add (g h:Nat->Int):∀(p:List Int) (k:Nat),cv p (λj=>g j+h j) k=cv p g k+cv p h k
 |[],_=>rfl
 |x::xs,0=>by simp only[cv,Int.mul_add];omega
 |x::xs,k+1=>by simp only[cv,cv_add g h xs k,Int.mul_add];omega
theorem cv_smul (c:Int)(g:Nat->Int):∀(p:List Int) (k:Nat),cv p (λj=>c*g j) k=c*cv p g k
 |[],_=>by simp[cv]
 |x::xs,0=>by simp only[cv,Int.add_zero];rw[Int.mul_left_comm]
 |x::xs,k+1=>by simp only[cv,cv_smul c g xs k,Int.mul_add];rw[Int.mul_left_comm]
theorem cv_shift (g:Nat->Int):∀(p:List Int) (k:Nat),cv p (shiftf g) k=shiftf (cv p g) k
 |[],0=>rfl
 |[],k+1=>rfl
 |x::xs,0=>by simp[cv,shiftf]
 |x::xs,1=>by simp[cv,shiftf,cv_shift g xs 0]
 |x::xs,k+2=>by simp[cv,shiftf,cv_shift g xs (k+1)]
theorem cv_delta (x:Int):∀(q:List Int) (k:Nat),cv q (λj=>if j=0 then x else 0) k=cf q k*x
 |[],k=>by simp[cv,cf_nil]
 |y::ys,0=>by simp[cv,cf_cons_zero]
 |y::ys,k+1=>by simp[cv,cf_cons_succ,cv_delta x ys k]
theorem cf_cons (x:Int)(xs:List Int)(j:Nat):cf (x::xs) j=(if j=0 then x else 0)+shiftf (cf xs) j:=by
 cases j<;>simp[cf_cons_zero,cf_cons_succ,shiftf]
theorem cv_cons (x:Int)(xs:List Int)(g:Nat->Int)(k:Nat):cv (x::xs) g k=x*g k+shiftf (cv xs g) k:=by
 cases k<;>rfl
theorem shiftf_congr {g h:Nat->Int}(e:∀j,g j=h j)(k:Nat):shiftf g k=shiftf h k:=by cases k<;>simp[shiftf,e]
theorem cv_comm:∀(p q:List Int) (k:Nat),cv p (cf q) k=cv q (cf p) k
 |[],q,k=>by rw[cv_none];rfl
 |x::xs,q,k=>by
  rw[cv_cons,cv_congr q k (cf_cons x xs),cv_add,cv_delta,cv_shift,shiftf_congr (λj=>cv_comm xs q j),Int.mul_comm]
theorem cf_pmul_cons (x:Int)(xs q:List Int)(j:Nat):cf (pmul (x::xs) q) j=x*cf q j+shiftf (cf (pmul xs q)) j:=by
 rw[cf_pmul,cv_cons,shiftf_congr (λj=>(cf_pmul xs q j).symm)]
theorem cv_assoc:∀(p q r:List Int) (k:Nat),cv (pmul p q) (cf r) k=cv p (cf (pmul q r)) k
 |[],q,r,k=>by
  rw[cv_cf_congr (p':=[]) (λj=>by rw[cf_pmul];rfl)];rfl
 |x::xs,q,r,k=>by
  rw[cv_comm (pmul (x::xs) q) r,cv_congr r k (cf_pmul_cons x xs q),cv_add,cv_smul,cv_shift,cv_cons,cf_pmul,cv_comm q r]
  congr 1
  exact shiftf_congr (λj=>by rw[cv_comm,cv_assoc xs q r j]) k
theorem pmul_comm (p q:List Int)(k:Nat):cf (pmul p q) k=cf (pmul q p) k:=by rw[cf_pmul,cf_pmul,cv_comm]
end Go.AL

namespace Go.AL
set_option linter.unusedSimpArgs false
set_option linter.unusedVariables false
def sumN:Nat->(Nat->Int)->Int
 |0,_=>0
 |n+1,f=>sumN n f+f n
theorem sumN_congr {n:Nat}{f g:Nat->Int}(h:∀i,i<n->f i=g i):sumN n f=sumN n g:=by
 induction n with
 |zero=>rfl
 |succ n ih=>rw[sumN,sumN,ih (λi hi=>h i (by omega)),h n (by omega)]
theorem sumN_add (n:Nat)(f g:Nat->Int):sumN n (λi=>f i+g i)=sumN n f+sumN n g:=by
 induction n with
 |zero=>rfl
 |succ n ih=>simp only[sumN,ih];omega
theorem sumN_mul (n:Nat)(c:Int)(f:Nat->Int):sumN n (λi=>c*f i)=c*sumN n f:=by
 induction n with
 |zero=>simp[sumN]
 |succ n ih=>simp only[sumN,ih,Int.mul_add]
theorem sumN_zero {n:Nat}{f:Nat->Int}(h:∀i,i<n->f i=0):sumN n f=0:=by
 induction n with
 |zero=>rfl
 |succ n ih=>rw[sumN,ih (λi hi=>h i (by omega)),h n (by omega)];rfl
theorem sumN_first (n:Nat)(f:Nat->Int):sumN (n+1) f=f 0+sumN n (λi=>f (i+1)):=by
 induction n with
 |zero=>simp[sumN]
 |succ n ih=>rw[sumN,ih,sumN];omega
structure PS where
 c:Nat->Int
namespace PS
theorem ext {f g:PS}(h:∀k,f.c k=g.c k):f=g:=by
 cases f;cases g;congr;exact funext h
def conv (f g:Nat->Int)(k:Nat):Int:=sumN (k+1) λi=>f i*g (k-i)
instance:Add PS:=⟨λf g=>⟨λk=>f.c k+g.c k⟩⟩
instance:Mul PS:=⟨λf g=>⟨conv f.c g.c⟩⟩
instance:Neg PS:=⟨λf=>⟨λk=>- f.c k⟩⟩
instance:Sub PS:=⟨λf g=>⟨λk=>f.c k-g.c k⟩⟩
instance:Zero PS:=⟨⟨λ_=>0⟩⟩
def C (z:Int):PS:=⟨λk=>if k=0 then z else 0⟩
instance:One PS:=⟨C 1⟩
def X:PS:=⟨λk=>if k=1 then 1 else 0⟩
theorem c_add (f g:PS)(k:Nat):(f+g).c k=f.c k+g.c k:=rfl
theorem c_neg (f:PS)(k:Nat):(-f).c k = -f.c k:=rfl
theorem c_zero (k:Nat):(0:PS).c k=0:=rfl
theorem c_C (z:Int)(k:Nat):(C z).c k=if k=0 then z else 0:=rfl
theorem c_mul (f g:PS)(k:Nat):(f*g).c k=conv f.c g.c k:=rfl
theorem cv_conv:∀(p:List Int) (g:Nat->Int) (k:Nat),cv p g k=conv (cf p) g k
 |[],g,k=>by simp only[cv,conv];rw[sumN_zero];intro i _;rw[cf_nil,Int.zero_mul]
 |x::xs,g,k=>by
  rw[cv_cons,conv,sumN_first];simp only[cf_cons_zero,Nat.sub_zero,cf_cons_succ]
  congr 1
  cases k with
  |zero=>rfl
  |succ k =>
   show cv xs g k=_;rw[cv_conv xs g k,conv];exact sumN_congr λi hi=>by congr 2;omega
def cut (n:Nat)(f:Nat->Int):List Int:=(List.range n).map f
theorem cf_cut {n:Nat}{f:Nat->Int}{i:Nat}(h:i<n):cf (cut n f) i=f i:=by
 simp[cut,cf,List.getD,h]
theorem conv_congr {f f' g g':Nat->Int}{k:Nat}(hf:∀i,i<=k->f i=f' i)(hg:∀i,i<=k->g i=g' i):conv f g k=conv f' g' k :=
 sumN_congr λi hi=>by rw[hf i (by omega),hg (k-i) (by omega)]
theorem conv_cut (f g:Nat->Int){n k:Nat}(h:k<n):conv f g k=cf (pmul (cut n f) (cut n g)) k:=by
 rw[cf_pmul,cv_conv];exact conv_congr (λi hi=>(cf_cut (by omega)).symm) (λi hi=>(cf_cut (by omega)).symm)
theorem mul_comm (f g:PS):f*g=g*f:=ext λk=>by
 rw[c_mul,c_mul,conv_cut _ _ (Nat.lt_succ_self k),conv_cut _ _ (Nat.lt_succ_self k),pmul_comm]
theorem mul_assoc (f g h:PS):f*g*h=f*(g*h):=ext λk=>by
 rw[c_mul,c_mul];have e1:conv (f*g).c h.c k=conv (cf (pmul (cut (k+1) f.c) (cut (k+1) g.c))) (cf (cut (k+1) h.c)) k :=
  conv_congr (λi hi=>by rw[c_mul,conv_cut f.c g.c (n:=k+1) (by omega)]) (λi hi=>(cf_cut (by omega)).symm)
 have e2:conv f.c (g*h).c k=conv (cf (cut (k+1) f.c)) (cf (pmul (cut (k+1) g.c) (cut (k+1) h.c))) k :=
  conv_congr (λi hi=>(cf_cut (by omega)).symm) (λi hi=>by rw[c_mul,conv_cut g.c h.c (n:=k+1) (by omega)])
 rw[e1,e2,<-cv_conv,<-cv_conv,cv_assoc]
theorem mul_add (f g h:PS):f*(g+h)=f*g+f*h:=ext λk=>by
 simp only[c_mul,c_add,conv];rw[<-sumN_add];exact sumN_congr λi _=>Int.mul_add _ _ _
theorem add_mul (f g h:PS):(f+g)*h=f*h+g*h:=by rw[mul_comm,mul_add,mul_comm h f,mul_comm h g]
theorem add_comm (f g:PS):f+g=g+f:=ext λk=>Int.add_comm _ _
theorem add_assoc (f g h:PS):f+g+h=f+(g+h):=ext λk=>Int.add_assoc _ _ _
theorem zero_add (f:PS):0+f=f:=ext λk=>Int.zero_add _
theorem add_zero (f:PS):f+0=f:=ext λk=>Int.add_zero _
theorem C_mul_c (z:Int)(f:PS)(k:Nat):(C z*f).c k=z*f.c k:=by
 rw[c_mul,conv,sumN_first,sumN_zero (λi _=>by rw[c_C,if_neg (by omega),Int.zero_mul]),Int.add_zero,c_C,if_pos rfl,Nat.sub_zero]
theorem one_mul (f:PS):1*f=f:=ext λk=>by
 show (C 1*f).c k=_;rw[C_mul_c,Int.one_mul]
theorem mul_one (f:PS):f*1=f:=by rw[mul_comm,one_mul]
theorem zero_mul (f:PS):0*f=0:=ext λk=>by
 rw[c_mul,conv,c_zero,sumN_zero];intro i _;rw[c_zero,Int.zero_mul]
theorem mul_zero (f:PS):f*0=0:=by rw[mul_comm,zero_mul]
theorem neg_mul (f g:PS) : -f*g = -(f*g):=ext λk=>by
 rw[c_mul,c_neg,c_mul,conv,conv,<-Int.neg_one_mul,<-sumN_mul];exact sumN_congr λi _=>by rw[c_neg,Int.neg_mul,Int.neg_one_mul]
theorem mul_neg (f g:PS):f * -g = -(f*g):=by rw[mul_comm,neg_mul,mul_comm]
theorem neg_neg (f:PS) : - -f=f:=ext λk=>Int.neg_neg _
theorem C_mul (a b:Int):C (a*b)=C a*C b:=ext λk=>by
 rw[C_mul_c,c_C,c_C];split<;>simp
instance:Std.Associative (α:=PS) (· * ·):=⟨mul_assoc⟩
instance:Std.Commutative (α:=PS) (· * ·):=⟨mul_comm⟩
instance:Std.Associative (α:=PS) (· + ·):=⟨add_assoc⟩
instance:Std.Commutative (α:=PS) (· + ·):=⟨add_comm⟩
def D (f:PS):PS:=⟨λk=>f.c (k+1)*((k+1:Nat):Int)⟩
end PS
def ps (q:List Int):PS:=⟨cf q⟩
theorem PB.one {n k:Nat}(hn:1<=n)(hk:1<=k):PB n k [1]:=⟨by simpa using hn,λz hz=>by
 simp at hz;subst hz;exact Nat.le_trans (zl_le.mpr (by decide)) hk⟩
end Go.AL
