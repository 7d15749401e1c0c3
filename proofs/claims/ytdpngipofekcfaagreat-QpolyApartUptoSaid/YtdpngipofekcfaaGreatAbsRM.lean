/-
 The laws of the ring of polynomials.
-/
import Derived.Test.YtdpngipofekcfaaGreatAbsQM
namespace Go.AL
set_option linter.unusedSimpArgs false
set_option linter.unusedVariables false
def qP (g:Nat→Int):Nat→Int
 | 0=>0
 | k+1=>g k
theorem Ya (g h:Nat→Int):∀ (p:List Int) (k:Nat),cv p (fun j=>g j+h j) k=cv p g k+cv p h k
 | [],_=>rfl
 | x::xs,0=>by simp only[cv,Int.mul_add];omega
 | x::xs,k+1=>by simp only[cv,Ya g h xs k,Int.mul_add];omega
theorem Y8 (c:Int)(g:Nat→Int):∀ (p:List Int) (k:Nat),cv p (fun j=>c*g j) k=c*cv p g k
 | [],_=>by simp[cv]
 | x::xs,0=>by simp only[cv,Int.add_zero];rw[Int.mul_left_comm]
 | x::xs,k+1=>by simp only[cv,Y8 c g xs k,Int.mul_add];rw[Int.mul_left_comm]
theorem Bh (g:Nat→Int):∀ (p:List Int) (k:Nat),cv p (qP g) k=qP (cv p g) k
 | [],0=>rfl
 | [],k+1=>rfl
 | x::xs,0=>by simp[cv,qP]
 | x::xs,1=>by simp[cv,qP,Bh g xs 0]
 | x::xs,k+2=>by simp[cv,qP,Bh g xs (k+1)]
theorem SA (x:Int):∀ (q:List Int) (k:Nat),cv q (fun j=>if j=0 then x else 0) k=cf q k*x
 | [],k=>by simp[cv,zZ]
 | y::ys,0=>by simp[cv,lu]
 | y::ys,k+1=>by simp[cv,iU,SA x ys k]
theorem a5u (x:Int)(xs:List Int)(j:Nat):cf (x::xs) j=(if j=0 then x else 0)+qP (cf xs) j:=by
 cases j<;>simp[lu,iU,qP]
theorem IX (x:Int)(xs:List Int)(g:Nat→Int)(k:Nat):cv (x::xs) g k=x*g k+qP (cv xs g) k:=by
 cases k<;>rfl
theorem rE {g h:Nat→Int}(e:∀ j,g j=h j)(k:Nat):qP g k=qP h k:=by cases k<;>simp[qP,e]
theorem DZ:∀ (p q:List Int) (k:Nat),cv p (cf q) k=cv q (cf p) k
 | [],q,k=>by rw[PD];rfl
 | x::xs,q,k=>by
  rw[IX,Bl q k (a5u x xs),Ya,SA,Bh,rE (fun j=>DZ xs q j),Int.mul_comm]
theorem MQ (x:Int)(xs q:List Int)(j:Nat):cf (uQ (x::xs) q) j=x*cf q j+qP (cf (uQ xs q)) j:=by
 rw[ku,IX,rE (fun j=>(ku xs q j).symm)]
theorem SC:∀ (p q r:List Int) (k:Nat),cv (uQ p q) (cf r) k=cv p (cf (uQ q r)) k
 | [],q,r,k=>by
  rw[Ea (p':=[]) (fun j=>by rw[ku];rfl)];rfl
 | x::xs,q,r,k=>by
  rw[DZ (uQ (x::xs) q) r,Bl r k (MQ x xs q),Ya,Y8,Bh,IX,ku,DZ q r]
  congr 1
  exact rE (fun j=>by rw[DZ,SC xs q r j]) k
theorem WQ (p q:List Int)(k:Nat):cf (uQ p q) k=cf (uQ q p) k:=by rw[ku,ku,DZ]
end Go.AL

namespace Go.AL
set_option linter.unusedSimpArgs false
set_option linter.unusedVariables false
def TG:Nat→(Nat→Int)→Int
 | 0,_=>0
 | n+1,f=>TG n f+f n
theorem Fh {n:Nat}{f g:Nat→Int}(h:∀ i,i<n→f i=g i):TG n f=TG n g:=by
 induction n with
 | zero=>rfl
 | succ n ih=>rw[TG,TG,ih (fun i hi=>h i (by omega)),h n (by omega)]
theorem Vq {n:Nat}{f:Nat→Int}(h:∀ i,i<n→f i=0):TG n f=0:=by
 induction n with
 | zero=>rfl
 | succ n ih=>rw[TG,ih (fun i hi=>h i (by omega)),h n (by omega)];rfl
theorem TF (n:Nat)(f:Nat→Int):TG (n+1) f=f 0+TG n (fun i=>f (i+1)):=by
 induction n with
 | zero=>simp[TG]
 | succ n ih=>rw[TG,ih,TG];omega
structure PS where
 c:Nat→Int
namespace PS
theorem ext {f g:PS}(h:∀ k,f.c k=g.c k):f=g:=by
 cases f;cases g;congr;exact funext h
def conv (f g:Nat→Int)(k:Nat):Int:=TG (k+1) fun i=>f i*g (k-i)
instance:Add PS:=⟨fun f g=>⟨fun k=>f.c k+g.c k⟩⟩
instance:Mul PS:=⟨fun f g=>⟨conv f.c g.c⟩⟩
instance:Neg PS:=⟨fun f=>⟨fun k=>- f.c k⟩⟩
instance:Sub PS:=⟨fun f g=>⟨fun k=>f.c k-g.c k⟩⟩
instance:Zero PS:=⟨⟨fun _=>0⟩⟩
def C (z:Int):PS:=⟨fun k=>if k=0 then z else 0⟩
instance:One PS:=⟨C 1⟩
def X:PS:=⟨fun k=>if k=1 then 1 else 0⟩
theorem xM (f g:PS)(k:Nat):(f*g).c k=conv f.c g.c k:=rfl
theorem IW:∀ (p:List Int) (g:Nat→Int) (k:Nat),cv p g k=conv (cf p) g k
 | [],g,k=>by simp only[cv,conv];rw[Vq];intro i _;rw[zZ,Int.zero_mul]
 | x::xs,g,k=>by
  rw[IX,conv,TF];simp only[lu,Nat.sub_zero,iU]
  congr 1
  cases k with
  | zero=>rfl
  | succ k =>
   show cv xs g k=_;rw[IW xs g k,conv];exact Fh fun i hi=>by congr 2;omega
def cut (n:Nat)(f:Nat→Int):List Int:=(List.range n).map f
theorem SQ {n:Nat}{f:Nat→Int}{i:Nat}(h:i<n):cf (cut n f) i=f i:=by
 simp[cut,cf,List.getD,h]
theorem kS {f f' g g':Nat→Int}{k:Nat}(hf:∀ i,i≤k→f i=f' i)(hg:∀ i,i≤k→g i=g' i):conv f g k=conv f' g' k :=
 Fh fun i hi=>by rw[hf i (by omega),hg (k-i) (by omega)]
theorem lX (f g:Nat→Int){n k:Nat}(h:k<n):conv f g k=cf (uQ (cut n f) (cut n g)) k:=by
 rw[ku,IW];exact kS (fun i hi=>(SQ (by omega)).symm) (fun i hi=>(SQ (by omega)).symm)
theorem mul_comm (f g:PS):f*g=g*f:=ext fun k=>by
 rw[xM,xM,lX _ _ (Nat.lt_succ_self k),lX _ _ (Nat.lt_succ_self k),WQ]
theorem mul_assoc (f g h:PS):f*g*h=f*(g*h):=ext fun k=>by
 rw[xM,xM];have e1:conv (f*g).c h.c k=conv (cf (uQ (cut (k+1) f.c) (cut (k+1) g.c))) (cf (cut (k+1) h.c)) k :=
  kS (fun i hi=>by rw[xM,lX f.c g.c (n:=k+1) (by omega)]) (fun i hi=>(SQ (by omega)).symm)
 have e2:conv f.c (g*h).c k=conv (cf (cut (k+1) f.c)) (cf (uQ (cut (k+1) g.c) (cut (k+1) h.c))) k :=
  kS (fun i hi=>(SQ (by omega)).symm) (fun i hi=>by rw[xM,lX g.c h.c (n:=k+1) (by omega)])
 rw[e1,e2,← IW,← IW,SC]
theorem add_comm (f g:PS):f+g=g+f:=ext fun k=>Int.add_comm _ _
theorem add_assoc (f g h:PS):f+g+h=f+(g+h):=ext fun k=>Int.add_assoc _ _ _
instance:Std.Associative (α:=PS) (· * ·):=⟨mul_assoc⟩
instance:Std.Commutative (α:=PS) (· * ·):=⟨mul_comm⟩
instance:Std.Associative (α:=PS) (· + ·):=⟨add_assoc⟩
instance:Std.Commutative (α:=PS) (· + ·):=⟨add_comm⟩
def D (f:PS):PS:=⟨fun k=>f.c (k+1)*((k+1:Nat):Int)⟩
end PS
def ps (q:List Int):PS:=⟨cf q⟩
theorem PB.one {n k:Nat}(hn:1≤n)(hk:1≤k):PB n k [1]:=⟨by simpa using hn,fun z hz=>by
 simp at hz;subst hz;exact Nat.le_trans (BH.mpr (by decide)) hk⟩
end Go.AL
