/-
 Contracts of the functions that the law reaches.
-/
import Derived.Test.YtnhghmibjddlkaaGreatDoorAbsFM
namespace Go.AL
set_option linter.unusedSimpArgs false
set_option linter.unusedVariables false
abbrev B32:Nat:=4294967296
theorem den_pos {y1 y0:Nat}(hy:0<y1):0<y1*B32+y0:=by
 have h:=Nat.mul_le_mul_right B32 hy;simp only[B32]at *;omega
theorem qL {u u1 y1 y0 q r:Nat}(he:q*y1+r=u)(hq:(u*B32+u1)/(y1*B32+y0)<=q)(hy:0<y1)(hc:q*y0<=B32*r+u1):q=(u*B32+u1)/(y1*B32+y0):=by
 refine Nat.le_antisymm ?_ hq;rw[Nat.le_div_iff_mul_le (den_pos hy)];have e:q*(y1*B32+y0)=q*y1*B32+q*y0:=by rw[Nat.mul_add,Nat.mul_assoc]
 have e2:u*B32=q*y1*B32+r*B32:=by rw[<-he,Nat.add_mul]
 rw[e,e2,Nat.mul_comm r];omega
theorem Fh {u u1 y1 y0 q r:Nat}(he:q*y1+r=u)(hq:(u*B32+u1)/(y1*B32+y0)<=q)(hy:0<y1)(h:B32*r+u1<q*y0):(u*B32+u1)/(y1*B32+y0)<=q-1/\0<q:=by
 have hq0:0<q:=by
  rcases Nat.eq_zero_or_pos q with h0|h0
  .subst h0;simp at h
  .exact h0
 refine⟨?_,hq0⟩;have:(u*B32+u1)/(y1*B32+y0)<q:=by
  rw[Nat.div_lt_iff_lt_mul (den_pos hy)];have e:q*(y1*B32+y0)=q*y1*B32+q*y0:=by rw[Nat.mul_add,Nat.mul_assoc]
  have e2:u*B32=q*y1*B32+r*B32:=by rw[<-he,Nat.add_mul]
  rw[e,e2,Nat.mul_comm r];omega
 omega
theorem Rw {u u1 y:Nat}(hu:u<y)(h1:u1<B32):(u*B32+u1)/y<B32:=by
 rw[Nat.div_lt_iff_lt_mul (by omega)];have:(u+1)*B32<=y*B32:=Nat.mul_le_mul_right _ hu;rw[Nat.add_mul]at this;rw[Nat.mul_comm B32];simp only[B32]at *;omega
theorem Dp {u u1 y1 y0:Nat}(hy:2147483648<=y1)(h0:y0<B32)(hu:u<y1*B32+y0)(h1:u1<B32):(u*B32+u1)/(y1*B32+y0)<=u/y1/\u/y1<=B32+1:=by
 have hyp:0<y1:=by omega
 constructor
 .rw[Nat.le_div_iff_mul_le hyp];have h2:(u*B32+u1)/(y1*B32+y0)*(y1*B32+y0)<=u*B32+u1:=Nat.div_mul_le_self _ _;generalize (u*B32+u1)/(y1*B32+y0)=q at *;have e:q*(y1*B32+y0)=q*y1*B32+q*y0:=by rw[Nat.mul_add,Nat.mul_assoc]
  rw[e]at h2;rcases Nat.lt_or_ge u (q*y1) with h|h
  .have:(u+1)*B32<=q*y1*B32:=Nat.mul_le_mul_right _ h;rw[Nat.add_mul]at this;simp only[B32]at *;omega
  .exact h
 .have:u/y1<B32+2:=by
   rw[Nat.div_lt_iff_lt_mul hyp,Nat.add_mul,Nat.mul_comm B32];simp only[B32]at *;omega
  omega
end Go.AL
