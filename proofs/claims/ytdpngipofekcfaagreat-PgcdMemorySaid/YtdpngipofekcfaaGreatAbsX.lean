/-
 Contracts of the functions that the law reaches.
-/
import Derived.Test.YtdpngipofekcfaaGreatAbsK
import Derived.Test.YtdpngipofekcfaaGreatAbsFM
namespace Go.AL
set_option linter.unusedSimpArgs false
set_option linter.unusedVariables false
variable {y1 y0 u u1 q r:Nat}
abbrev B32:Nat:=4294967296
theorem den_pos (hy:0<y1):0<y1*B32+y0:=by
 have h:=zag B32 hy;simp only[B32]at *;omega
theorem uY (he:q*y1+r=u)(hq:(u*B32+u1)/(y1*B32+y0)<=q)(hy:0<y1)(hc:q*y0<=B32*r+u1):q=(u*B32+u1)/(y1*B32+y0):=by
 refine zfm ?_ hq;rw[zcv (den_pos hy)];have e:q*(y1*B32+y0)=q*y1*B32+q*y0:=by rw[zbx,za1]
 have e2:u*B32=q*y1*B32+r*B32:=by rw[<-he,zaN]
 rw[e,e2,zaA r];omega
theorem KR (he:q*y1+r=u)(hq:(u*B32+u1)/(y1*B32+y0)<=q)(hy:0<y1)(h:B32*r+u1<q*y0):(u*B32+u1)/(y1*B32+y0)<=q-1/\0<q:=by
 have hq0:0<q:=by
  rcases za8 q with h0|h0
  .subst h0;simp at h
  .exact h0
 refine⟨?_,hq0⟩;have:(u*B32+u1)/(y1*B32+y0)<q:=by
  rw[za5 (den_pos hy)];have e:q*(y1*B32+y0)=q*y1*B32+q*y0:=by rw[zbx,za1]
  have e2:u*B32=q*y1*B32+r*B32:=by rw[<-he,zaN]
  rw[e,e2,zaA r];omega
 omega
theorem X6 {y:Nat}(hu:u<y)(h1:u1<B32):(u*B32+u1)/y<B32:=by
 rw[za5 (by omega)];have:(u+1)*B32<=y*B32:=zag _ hu;rw[zaN]at this;rw[zaA B32];simp only[B32]at *;omega
theorem IW (hy:2147483648<=y1)(h0:y0<B32)(hu:u<y1*B32+y0)(h1:u1<B32):(u*B32+u1)/(y1*B32+y0)<=u/y1/\u/y1<=B32+1:=by
 have hyp:0<y1:=by omega
 constructor
 .rw[zcv hyp];have h2:(u*B32+u1)/(y1*B32+y0)*(y1*B32+y0)<=u*B32+u1:=zcO _ _;generalize (u*B32+u1)/(y1*B32+y0)=q at *;have e:q*(y1*B32+y0)=q*y1*B32+q*y0:=by rw[zbx,za1]
  rw[e]at h2;rcases zbh u (q*y1) with h|h
  .have:(u+1)*B32<=q*y1*B32:=zag _ h;rw[zaN]at this;simp only[B32]at *;omega
  .exact h
 .have:u/y1<B32+2:=by
   rw[za5 hyp,zaN,zaA B32];simp only[B32]at *;omega
  omega
end Go.AL
