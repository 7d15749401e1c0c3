/-
 Contracts of the functions that the law reaches.
-/
import Derived.Test.YtnhghmibjddlkaaGreatDoorL12M
import Derived.Test.YtnhghmibjddlkaaGreatDoorAbsV
import Derived.Test.YtnhghmibjddlkaaGreatDoorTyA
import Derived.Test.YtnhghmibjddlkaaGreatDoorAbsYM
import Derived.Shelf.Spec.TrailingZeros
import Derived.Test.YtnhghmibjddlkaaGreatDoorL1M
set_option maxHeartbeats 2000000
namespace Go.Proofs.YtnhghmibjddlkaaGreatDoor
open Go Go.Proofs Go.AL
set_option linter.unusedSimpArgs false
set_option linter.unusedVariables false
theorem a1D (p:List RI)(i:Int)(h:RP (2^40) (2^40) p):AC Tryz.prog 164 [cw p,ci i] none [cz (if i<0 then 0 else cf (pv p) i.toNat)]:=by
 refine AC.aF (rs:=[.cell 4 29]) bM Tryz.func164 (by rfl) (by rfl) (by rfl) (by rfl) (by rfl) ?_;have hl:=h.1;simp (disch:=omega) only[wt,seval,reduceCtorEq,Nat.reduceEqDiff,aC,aK,aT,bJ,cO,bK,bZ];have key:AC Tryz.prog 150 [cw p,ci i] none [cr (if i<0 then (false,[]) else p.getD i.toNat (false,[]))]:=by
  refine AC.aF (rs:=[.cell 4 29]) bM Tryz.func150 (by rfl) (by rfl) (by rfl) (by rfl) (by rfl) ?_;by_cases h0:i<0
  .simp (disch:=omega) only[wt,seval,reduceCtorEq,Nat.reduceEqDiff,aC,aK,aT,bJ,cO,bK,bZ,h0]
  by_cases h1:(p.length:Int)<=i
  .simp (disch:=omega) only[wt,seval,reduceCtorEq,Nat.reduceEqDiff,aC,aK,aT,bJ,cO,bK,bZ,h0,h1];have e:p.getD i.toNat (false,[])=(false,[]):=by rw[List.getD_eq_getElem?_getD,List.getElem?_eq_none (by omega)];rfl
   rw[e]
  .simp (disch:=omega) only[wt,seval,reduceCtorEq,Nat.reduceEqDiff,aC,aK,aT,bJ,cO,bK,bZ,h0,h1]
 refine au (key) (by rfl) (by simp) ?_;simp (disch:=omega) only[wt,seval,reduceCtorEq,Nat.reduceEqDiff,aC,aK,aT,bJ,cO,bK,bZ];have hs:Sz (2^40) (if i<0 then (false,[]) else p.getD i.toNat (false,[])):=by
  split
  .exact⟨by simp,Lim.nil⟩
  .exact h.get _
 have e:iv (if i<0 then (false,[]) else p.getD i.toNat (false,[]))=if i<0 then 0 else cf (pv p) i.toNat:=by
  split
  .exact O8
  .rw[<-rJ]
 refine au ((pX _ hs)) (by rfl) (by simp) ?_;simp (disch:=omega) only[wt,seval,reduceCtorEq,Nat.reduceEqDiff,aC,aK,aT,bJ,cO,bK,bZ];rw[e]
theorem Qz (p:List RI)(h:RP (2^40) (2^40) p):AC Tryz.prog 143 [cw p] none [cz (cf (pv p) (tz (pv p)-1))]:=by
 refine AC.aF (rs:=[.cell 2 29]) bM Tryz.func143 (by rfl) (by rfl) (by rfl) (by rfl) (by rfl) ?_;have hl:=h.1;simp (disch:=omega) only[wt,seval,reduceCtorEq,Nat.reduceEqDiff,aC,aK,aT,bJ,cO,bK,bZ];refine au ((qE p h)) (by rfl) (by simp) ?_;simp (disch:=omega) only[wt,seval,reduceCtorEq,Nat.reduceEqDiff,aC,aK,aT,bJ,cO,bK,bZ];have:=a1D p ((tz (pv p):Int)-1) h;have e:(if (tz (pv p):Int)-1<0 then 0 else cf (pv p) ((tz (pv p):Int)-1).toNat)=cf (pv p) (tz (pv p)-1):=by
  by_cases h0:tz (pv p)=0
  .rw[if_pos (by omega),bW _ (by omega)]
  .rw[if_neg (by omega)];congr 1;omega
 rw[e]at this;refine au (this) (by rfl) (by simp) ?_;simp (disch:=omega) only[wt,seval,reduceCtorEq,Nat.reduceEqDiff,aC,aK,aT,bJ,cO,bK,bZ]
theorem VT {x y i:Nat}(h:x/W^(i+1)=y/W^(i+1))(hd:x/W^i%W<y/W^i%W):x<y:=by
 have e:∀z:Nat,z/W^i=W*(z/W^(i+1))+z/W^i%W:=λz=>by
  rw[Nat.pow_succ,<-Nat.div_div_eq_div_mul];exact(Nat.div_add_mod _ _).symm
 have h1:=e x;have h2:=e y;rw[h]at h1;rcases Nat.lt_or_ge x y with h3|h3
 .exact h3
 .have:=Nat.div_le_div_right (c:=W^i) h3;omega
theorem N7 {l:List Nat}(h:Lim l)(k:Nat):l.getD k 0=nv l/W^k%W:=by
 have h1:=dn W l k;have e1:=CJ h (k+1);have e2:=CJ h k;simp only[nv]at *;rw[e1,e2,Nat.mod_pow_succ]at h1;exact(Nat.eq_of_mul_eq_mul_left (fK k) (Nat.add_left_cancel h1)).symm
theorem a7g (a b:List Nat)(ha:Lim a)(hb:Lim b)(hla:a.length<=2^42)(hlb:b.length<=2^42):AC Tryz.prog 83 [cl a,cl b] none [ci (IB (nv a) (nv b))]:=by
 refine AC.aF (rs:=[.tmp 4]) bM Tryz.func83 (by rfl) (by rfl) (by rfl) (by rfl) (by rfl) ?_;generalize hn:max a.length b.length=n at *;have hnI:max (a.length:Int) (b.length:Int)=(n:Int):=by omega
 have h0:nv a/W^n=nv b/W^n:=by
  have hA:=jm ha;have hB:=jm hb;have hA2:W^a.length<=W^n:=Nat.pow_le_pow_right (by decide) (by omega);have hB2:W^b.length<=W^n:=Nat.pow_le_pow_right (by decide) (by omega);rw[Nat.div_eq_of_lt (by omega),Nat.div_eq_of_lt (by omega)]
 simp (disch:=omega) only[wt,seval,reduceCtorEq,Nat.reduceEqDiff,aC,aK,aT,bJ,cO,bK,bZ,hnI];refine bF (λf H=>∃(i:Nat),i<=n/\nv a/W^i=nv b/W^i/\f 6=.iv (.int .i64 ((i:Int)-1))/\f 0=.iv (.sl (dJ a))/\f 1=.iv (.sl (dJ b))) (λf H=>(dQ f 6+1).toNat) ?_ ?_
 .refine⟨n,by omega,h0,?_⟩;simp (disch:=omega) only[wt,seval,reduceCtorEq,Nat.reduceEqDiff,aC,aK,aT,bJ,cO,bK,bZ]
 rintro f H ⟨i,hi,hv,hF⟩;rw[bC hF.1];simp (disch:=omega) only[wt,seval,reduceCtorEq,Nat.reduceEqDiff,aC,aK,aT,bJ,cO,bK,bZ,hF];refine bU (λhlt=>?_) (λhlt=>?_)
 .obtain⟨j,rfl⟩:∃j,i=j+1:=⟨i-1,by omega⟩;have ej:((j+1:Nat):Int)-1=(j:Int):=by omega
  have hx:=N7 ha j;have hy:=N7 hb j;rw[ej]at hF;simp (disch:=omega) only[wt,seval,reduceCtorEq,Nat.reduceEqDiff,aC,aK,aT,bJ,cO,bK,bZ,hF];refine au ((zC a j (by omega))) (by first|rfl|(simp only[aH,bn,aB,aI,aA,Nat.reduceEqDiff,↓reduceIte,hF];rfl)) (by simp) ?_;simp (disch:=omega) only[wt,seval,reduceCtorEq,Nat.reduceEqDiff,aC,aK,aT,bJ,cO,bK,bZ,hF];refine au ((zC b j (by omega))) (by first|rfl|(simp only[aH,bn,aB,aI,aA,Nat.reduceEqDiff,↓reduceIte,hF];rfl)) (by simp) ?_;simp (disch:=omega) only[wt,seval,reduceCtorEq,Nat.reduceEqDiff,aC,aK,aT,bJ,cO,bK,bZ,hF];refine bU (λh1=>?_) (λh1=>?_)
  .simp (disch:=omega) only[wt,seval,reduceCtorEq,Nat.reduceEqDiff,aC,aK,aT,bJ,cO,bK,bZ,hF];refine⟨⟨j,by omega,?_,rfl⟩,by omega⟩;have e:∀z:Nat,z/W^j=W*(z/W^(j+1))+z/W^j%W:=λz=>by
    rw[Nat.pow_succ,<-Nat.div_div_eq_div_mul];exact(Nat.div_add_mod _ _).symm
   rw[e (nv a),e (nv b),hv];omega
  simp (disch:=omega) only[wt,seval,reduceCtorEq,Nat.reduceEqDiff,aC,aK,aT,bJ,cO,bK,bZ,hF];refine bU (λh2=>?_) (λh2=>?_)
  .simp (disch:=omega) only[wt,seval,reduceCtorEq,Nat.reduceEqDiff,aC,aK,aT,bJ,cO,bK,bZ,hF];have:nv a<nv b:=VT hv (by omega);rw[IB,if_pos this]
  simp (disch:=omega) only[wt,seval,reduceCtorEq,Nat.reduceEqDiff,aC,aK,aT,bJ,cO,bK,bZ,hF];have:nv b<nv a:=VT hv.symm (by omega);rw[IB,if_neg (by omega),if_pos this]
 .simp (disch:=omega) only[wt,seval,reduceCtorEq,Nat.reduceEqDiff,aC,aK,aT,bJ,cO,bK,bZ,hF];have:i=0:=by omega
  subst this;simp at hv;rw[hv,IB];simp
theorem GU (a b:List Nat)(ha:Lim a)(hb:Lim b)(hla:a.length<=2^42)(hlb:b.length<=2^42):AC Tryz.prog 51 [cl a,cl b] none [ci (IB (nv a) (nv b))]:=by
 refine AC.aF (rs:=[.tmp 4]) bM Tryz.func51 (by rfl) (by rfl) (by rfl) (by rfl) (by rfl) ?_;simp (disch:=omega) only[wt,seval,reduceCtorEq,Nat.reduceEqDiff,aC,aK,aT,bJ,cO,bK,bZ];refine au ((a7g a b ha hb hla hlb)) (by rfl) (by simp) ?_;simp (disch:=omega) only[wt,seval,reduceCtorEq,Nat.reduceEqDiff,aC,aK,aT,bJ,cO,bK,bZ]
theorem FU (a b:RI)(ha:Sz (2^40) a)(hb:Sz (2^40) b):AC Tryz.prog 56 [cr a,cr b] none [ci (Dx (iv a) (iv b))]:=by
 refine AC.aF (rs:=[.tmp 4]) bM Tryz.func56 (by rfl) (by rfl) (by rfl) (by rfl) (by rfl) ?_;have hla:=ha.1;have hlb:=hb.1;have sa:=Int.sign_mul_natAbs (iv a);have sb:=Int.sign_mul_natAbs (iv b);have na:=rF a;have nb:=rF b;have ca:(iv a).sign = -1/\iv a<0\/(iv a).sign=0/\iv a=0\/(iv a).sign=1/\0<iv a:=by
  rcases Int.lt_trichotomy (iv a) 0 with h|h|h
  .exact .inl ⟨Int.sign_eq_neg_one_of_neg h,h⟩
  .exact .inr (.inl ⟨by rw[h];rfl,h⟩)
  .exact .inr (.inr ⟨Int.sign_eq_one_of_pos h,h⟩)
 have cb':(iv b).sign = -1/\iv b<0\/(iv b).sign=0/\iv b=0\/(iv b).sign=1/\0<iv b:=by
  rcases Int.lt_trichotomy (iv b) 0 with h|h|h
  .exact .inl ⟨Int.sign_eq_neg_one_of_neg h,h⟩
  .exact .inr (.inl ⟨by rw[h];rfl,h⟩)
  .exact .inr (.inr ⟨Int.sign_eq_one_of_pos h,h⟩)
 simp (disch:=omega) only[wt,seval,reduceCtorEq,Nat.reduceEqDiff,aC,aK,aT,bJ,cO,bK,bZ];refine .inl ⟨aZ (by kernel_rfl),?_⟩;refine au ((fM a ha)) (by rfl) (by simp) ?_;simp (disch:=omega) only[wt,seval,reduceCtorEq,Nat.reduceEqDiff,aC,aK,aT,bJ,cO,bK,bZ];refine au ((fM b hb)) (by rfl) (by simp) ?_;simp (disch:=omega) only[wt,seval,reduceCtorEq,Nat.reduceEqDiff,aC,aK,aT,bJ,cO,bK,bZ]
 first|exact aN (by kernel_rfl)|refine⟨aN (by kernel_rfl),?_⟩
 refine bU (λh1=>?_) (λh1=>?_)
 .simp (disch:=omega) only[wt,seval,reduceCtorEq,Nat.reduceEqDiff,aC,aK,aT,bJ,cO,bK,bZ];rw[Dx,if_pos (by omega)]
 simp (disch:=omega) only[wt,seval,reduceCtorEq,Nat.reduceEqDiff,aC,aK,aT,bJ,cO,bK,bZ];refine bU (λh2=>?_) (λh2=>?_)
 .simp (disch:=omega) only[wt,seval,reduceCtorEq,Nat.reduceEqDiff,aC,aK,aT,bJ,cO,bK,bZ];rw[Dx,if_neg (by omega),if_pos (by omega)]
 simp (disch:=omega) only[wt,seval,reduceCtorEq,Nat.reduceEqDiff,aC,aK,aT,bJ,cO,bK,bZ];refine au ((GU a.2 b.2 ha.2 hb.2 (by omega) (by omega))) (by rfl) (by simp) ?_;simp (disch:=omega) only[wt,seval,reduceCtorEq,Nat.reduceEqDiff,aC,aK,aT,bJ,cO,bK,bZ];have e:(iv a).sign*IB (nv a.2) (nv b.2)=Dx (iv a) (iv b):=by
  have hs:(iv a).sign=(iv b).sign:=by omega
  rcases ca with ⟨h,h'⟩|⟨h,h'⟩|⟨h,h'⟩<;>rw[h]
  .unfold IB Dx;rw[<-na,<-nb];split<;>split<;>(try split)<;>(try split)<;>omega
  .unfold Dx;rw[if_neg (by omega),if_neg (by omega)];simp
  .unfold IB Dx;rw[<-na,<-nb];split<;>split<;>(try split)<;>(try split)<;>omega
 rw[e];have hb3 : -1<=Dx (iv a) (iv b)/\Dx (iv a) (iv b)<=1:=by unfold Dx;split<;>(try split)<;>omega
 simp (disch:=omega) only[wt,seval,reduceCtorEq,Nat.reduceEqDiff,aC,aK,aT,bJ,cO,bK,bZ]

end Go.Proofs.YtnhghmibjddlkaaGreatDoor

namespace Go.Proofs.YtnhghmibjddlkaaGreatDoor
open Go Go.Proofs Go.AL Go.Shelf
set_option linter.unusedSimpArgs false
set_option linter.unusedVariables false
def b5c:Ren:=⟨λ_=>155,λt=>if t=0 then 0 else if t=3 then 3 else if t=4 then 4 else if t=5 then 5 else if t=22 then 73 else if t=25 then 167 else 188,λ_=>0⟩
theorem b0C:Lays7.n29 Tryz.prog b5c:=by
 constructor<;>first|kernel_rfl|(intro w;kernel_rfl)|(intro w;rfl)
def yH:List IV:=Lib.deBruijn64tab.map λ(n:Nat)=>IV.int .u8 (n:Int)
theorem a9H {w:World}{D:Nat->Prop}(h:jX w D yH Jz):TabAt 0 Lib.deBruijn64tab w:=λj hj=>by
 obtain⟨g,o,hp,-,vs,hr,hc⟩:=h;cases hp;have hl:=hr.length;have hj':j<vs.length:=by rw[<-hl];simpa [yH] using hj
 obtain⟨v,h0,h2⟩:=hr.get j (.int .u8 (Lib.deBruijn64tab.getD j 0)) (by simp[yH,List.getD,hj]);cases h2;have e0:(0:Nat)+j=j:=Nat.zero_add j;have:=hc j _ h0;rwa [e0]at this
theorem b2q (x:Nat)(hx:x<W):ACG Tryz.prog yH 155 [.iv (.int .u64 x)] [ci (Lib.ctz 64 x)]:=by
 intro w D vs hD htb hvs
 match vs,hvs with
 |[v],hvs =>
  have h1:=hvs.1;simp only[iI]at h1;cases h1;have k:=Any7.bits_TrailingZeros64 b0C x (by simpa only[W] using hx) w λ_=>a9H htb
  refine .inl ⟨_,b0C.f29,rfl,rfl,k.mono ?_⟩;rintro e w' ⟨rfl,rfl⟩;refine⟨_,rfl,.refl _ _,[_],rfl,rfl,λj c v _ hc hv=>?_,λi e sz rows h=>by cases h⟩
  match j,hc,hv with
  |0,hc,hv =>
   cases hc;cases hv;exact .int _ _
  |j+1,hc,hv=>simp at hc
theorem a6P {n z m:Nat}(h:n=2^z*(2*m+1))(k:Nat):2^k∣n↔k<=z:=by
 constructor
 .intro hd;refine Nat.not_lt.1 λhlt=>?_;have h1:2^(z+1)∣n:=Nat.dvd_trans (Nat.pow_dvd_pow 2 (by omega)) hd;rw[h,Nat.pow_succ]at h1;have:=Nat.dvd_of_mul_dvd_mul_left (Nat.pow_pos (by omega)) h1;omega
 .intro hk;rw[h,show z=k+(z-k) by omega,Nat.pow_add,Nat.mul_assoc];exact Nat.dvd_mul_right _ _
def twz:List Nat->Nat
 |[]=>0
 |x::l=>if x=0 then 64+twz l else Lib.ctz 64 x
theorem RH {x:Nat}(h0:x≠0)(hx:x<W):∃m,x=2^Lib.ctz 64 x*(2*m+1)/\Lib.ctz 64 x<64:=by
 obtain⟨m,h1,h2⟩:=Lib.ctzFrom_spec 64 x (by omega) (by simpa only[W] using hx);have e:Lib.ctz 64 x=Lib.ctzFrom 64 x:=by rw[Lib.ctz,if_neg h0]
 exact⟨m,by rw[e];exact h1,by rw[e];exact h2⟩
theorem PX:∀{l:List Nat},Lim l->nv l≠0->∃m,nv l=2^twz l*(2*m+1)
 |[],_,h=>(h rfl).elim
 |x::l,hl,h=>by
  have hx:x<W:=hl x (by simp);have hl':Lim l:=λy hy=>hl y (by simp[hy])
  have e:nv (x::l)=x+2^64*nv l:=by show x+W*nv l=_;simp only[W]
  rw[e]at h ⊢;rw[twz];by_cases h0:x=0
  .subst h0;obtain⟨m,hm⟩:=PX hl' (λe=>h (by rw[e]));exact⟨m,by rw[if_pos rfl,Nat.zero_add,Nat.pow_add,Nat.mul_assoc,<-hm]⟩
  .rw[if_neg h0];obtain⟨m,h1,h2⟩:=RH h0 hx;generalize Lib.ctz 64 x=c at *;have e2:(2:Nat)^64=2^c*(2*2^(63-c)):=by
    rw[<-Nat.pow_succ',<-Nat.pow_add];congr 1;omega
   refine⟨m+2^(63-c)*nv l,?_⟩;rw[h1,e2,Nat.mul_assoc,<-Nat.mul_add]
   congr 1
   rw[Nat.mul_add,Nat.mul_assoc];omega
def zr (l:List Nat):Nat:=if nv l=0 then 0 else twz l
theorem a4a {l:List Nat}(hl:Lim l)(h:nv l≠0)(k:Nat):2^k∣nv l↔k<=zr l:=by
 obtain⟨m,hm⟩:=PX hl h;rw[zr,if_neg h];exact a6P hm k
theorem a4h:∀(l:List Nat) (i:Nat),(∀j,j<i->l.getD j 0=0)->l.getD i 0≠0->twz l=i*64+Lib.ctz 64 (l.getD i 0)/\nv l≠0
 |[],i,_,h=>(h (by simp)).elim
 |x::l,0,_,h=>by
  have hx:x≠0:=h;refine⟨by rw[twz,if_neg hx,Nat.zero_mul,Nat.zero_add];rfl,?_⟩;show x+W*nv l≠0;omega
 |x::l,i+1,hz,h=>by
  have h0:x=0:=hz 0 (by omega);obtain⟨a,b⟩:=a4h l i (λj hj=>hz (j+1) (by omega)) h;refine⟨?_,?_⟩
  .rw[twz,if_pos h0,a];show 64+(i*64+Lib.ctz 64 (l.getD i 0))=(i+1)*64+Lib.ctz 64 (l.getD i 0);omega
  .show x+W*nv l≠0;have:0<W*nv l:=Nat.mul_pos (by simp only[W];omega) (by omega);omega
theorem Vj:∀(l:List Nat),(∀j,j<l.length->l.getD j 0=0)->nv l=0
 |[],_=>rfl
 |x::l,h=>by
  have h0:x=0:=h 0 (by simp);show x+W*nv l=0;rw[Vj l λj hj=>h (j+1) (by simpa using hj),h0,Nat.mul_zero]
theorem b1p (x:Nat)(hx:x<W):Lib.ctz 64 x<=64:=by
 by_cases h:x=0
 .subst h;decide
 .obtain⟨m,_,h2⟩:=RH h hx;omega
theorem a2n {l:List Nat}(h:Lim l)(i:Nat):l.getD i 0<W:=by
 by_cases hi:i<l.length
 .simp[List.getD,hi];exact h _ (List.getElem_mem hi)
 .simp[List.getD,Nat.not_lt.1 hi]
theorem a0x (l:List Nat)(hl:Lim l)(hn:l.length<=2^40):ACG Tryz.prog yH 132 [cl l] [ci (zr l)]:=by
 refine ACG.aF zi0 (rs:=[.tmp 2]) bM Tryz.func132 (by rfl) (by rfl) (by rfl) (by rfl) (by rfl) ?_;simp (disch:=omega) only[wt,seval,reduceCtorEq,Nat.reduceEqDiff,aj];refine bF (λf H=>∃(i:Nat),i<=l.length/\(∀j,j<i->l.getD j 0=0)/\f 7=.iv (.int .i64 i)/\f 6=.iv (.int .i64 l.length)/\f 5=.iv (.sl (dJ l))/\H 777=.tie (.ip yH) Jz) (λf H=>(l.length-dQ f 7).toNat) ?_ ?_
 .refine⟨0,by omega,λj hj=>by omega,?_⟩;simp (disch:=omega) only[wt,seval,reduceCtorEq,Nat.reduceEqDiff,aj]
 rintro f H ⟨i,hi,hz,hF⟩;rw[bC hF.1];simp (disch:=omega) only[wt,seval,reduceCtorEq,Nat.reduceEqDiff,aj,hF];refine bU (λhlt=>?_) (λhlt=>?_)
 .have hlt':i<l.length:=by omega
  have lx:l.getD i 0<W:=a2n hl i;by_cases hx:l.getD i 0=0
  .simp (disch:=omega) only[wt,seval,reduceCtorEq,Nat.reduceEqDiff,aj,hF,hx];refine⟨⟨i+1,by omega,λj hj=>?_,?_⟩,by omega⟩
   .by_cases h:j=i
    .rw[h];exact hx
    .exact hz j (by omega)
   ·(repeat' apply And.intro)<;>first|rfl|omega
  .obtain⟨e1,e2⟩:=a4h l i hz hx;have hx':¬((l.getD i 0:Nat):Int)=0:=by omega
   have hc:=b1p _ lx;have t:=b2q (l.getD i 0) lx;have ez:(zr l:Int)=(i:Int)*64+(Lib.ctz 64 (l.getD i 0):Int):=by rw[zr,if_neg e2,e1];push_cast;rfl
   rw[ez];generalize Lib.ctz 64 (l.getD i 0)=c at *;simp (disch:=omega) only[wt,seval,reduceCtorEq,Nat.reduceEqDiff,aj,hF,hx'];refine lZ (t) (k:=777) (by first|rfl|(simp only[aA,aj,Nat.reduceEqDiff,reduceIte,hF,hx'])) (by first|rfl|(simp only[List.map_cons,List.map_nil,CV.av,hF,hx'])) (by simp[gK]) ?_;simp (disch:=omega) only[wt,seval,reduceCtorEq,Nat.reduceEqDiff,aj,hF,hx']
   try rfl
 .obtain rfl:i=l.length:=by omega
  have e:=Vj l hz;have ez:(zr l:Int)=0:=by rw[zr,if_pos e];rfl
  simp (disch:=omega) only[wt,seval,reduceCtorEq,Nat.reduceEqDiff,aj,hF]
  try rw[ez]
  try rfl
theorem VP (l:List Nat)(hl:Lim l)(hn:l.length<=2^40):ACG Tryz.prog yH 107 [cl l] [ci (zr l)]:=by
 have z:=a0x l hl hn;refine ACG.aF zi0 (rs:=[.tmp 2]) bM Tryz.func107 (by rfl) (by rfl) (by rfl) (by rfl) (by rfl) ?_;simp (disch:=omega) only[wt,seval,reduceCtorEq,Nat.reduceEqDiff,aj];refine lZ (z) (k:=777) (by first|rfl|(simp only[aA,aj,Nat.reduceEqDiff,reduceIte])) (by first|rfl|(simp only[List.map_cons,List.map_nil,CV.av])) (by simp[gK]) ?_;simp (disch:=omega) only[wt,seval,reduceCtorEq,Nat.reduceEqDiff,aj]
 try rfl
end Go.Proofs.YtnhghmibjddlkaaGreatDoor

namespace Go.Proofs.YtnhghmibjddlkaaGreatDoor
open Go Go.Proofs Go.AL
set_option linter.unusedSimpArgs false
set_option linter.unusedVariables false
theorem KE {a b K D:Rat}(h1 : -K<=a)(h2:a<=K)(h3 : -D<=b)(h4:b<=D) : -(K*D)<=a*b/\a*b<=K*D:=by
 have e1:0<=(K-a)*(D+b):=Rat.mul_nonneg (by grind) (by grind);have e2:0<=(K+a)*(D-b):=Rat.mul_nonneg (by grind) (by grind);have e3:0<=(K-a)*(D-b):=Rat.mul_nonneg (by grind) (by grind);have e4:0<=(K+a)*(D+b):=Rat.mul_nonneg (by grind) (by grind);constructor<;>grind
def LB (f:Rat->Rat):Prop:=∀M:Rat,∃K L:Rat,0<=K/\0<=L/\(∀x,-M<=x->x<=M->-K<=f x/\f x<=K)/\∀x y,-M<=x->x<=y->y<=M->-(L*(y-x))<=f y-f x/\f y-f x<=L*(y-x)
theorem LB.const (c:Rat):LB λ_=>c:=λM=>by
 rcases Rat.le_total (a:=0) (b:=c) with h|h
 .exact⟨c,0,h,Rat.le_refl,λx _ _=>by constructor<;>grind,λx y _ _ _=>by constructor<;>grind⟩
 .exact⟨-c,0,by grind,Rat.le_refl,λx _ _=>by constructor<;>grind,λx y _ _ _=>by constructor<;>grind⟩
theorem LB.id:LB λx=>x:=λM=>by
 rcases Rat.le_total (a:=0) (b:=M) with h|h
 .exact⟨M,1,h,by grind,λx h1 h2=>⟨h1,h2⟩,λx y _ _ _=>by constructor<;>grind⟩
 .exact⟨-M,1,by grind,by grind,λx h1 h2=>by constructor<;>grind,λx y _ _ _=>by constructor<;>grind⟩
theorem LB.add {f g:Rat->Rat}(hf:LB f)(hg:LB g):LB λx=>f x+g x:=λM=>by
 obtain⟨K,L,k0,l0,h1,h2⟩:=hf M;obtain⟨K',L',k0',l0',h1',h2'⟩:=hg M;refine⟨K+K',L+L',by grind,by grind,λx a b=>?_,λx y a b c=>?_⟩
 .have:=h1 x a b;have:=h1' x a b;constructor<;>grind
 .have:=h2 x y a b c;have:=h2' x y a b c;constructor<;>grind
theorem LB.mul {f g:Rat->Rat}(hf:LB f)(hg:LB g):LB λx=>f x*g x:=λM=>by
 obtain⟨K,L,k0,l0,h1,h2⟩:=hf M;obtain⟨K',L',k0',l0',h1',h2'⟩:=hg M;refine⟨K*K',K*L'+K'*L,Rat.mul_nonneg k0 k0',?_,λx a b=>?_,λx y a b c=>?_⟩
 .have:=Rat.mul_nonneg k0 l0';have:=Rat.mul_nonneg k0' l0;grind
 .have p:=h1 x a b;have q:=h1' x a b;exact KE p.1 p.2 q.1 q.2
 .have p:=h1 y (by grind) c;have q:=h2' x y a b c
  have r:=h1' x a (by grind);have s:=h2 x y a b c
  have u:=KE p.1 p.2 q.1 q.2;have v:=KE r.1 r.2 s.1 s.2;constructor<;>grind
theorem LB.congr {f g:Rat->Rat}(hf:LB f)(h:∀x,g x=f x):LB g:=by
 have:g=f:=funext h;rw[this];exact hf
theorem LB.smul {f:Rat->Rat}(c:Rat)(hf:LB f):LB λx=>c*f x:=(LB.const c).mul hf
theorem LB.sub {f g:Rat->Rat}(hf:LB f)(hg:LB g):LB λx=>f x-g x:=(hf.add (hg.smul (-1))).congr λx=>by grind
def CS (f:Rat->Rat)(s t:Rat):Prop:=∀x,s<=x->x<=t->0<f s*f x
def Big (e v:Rat):Prop:=e<=v\/v<=-e
theorem a8a {f:Rat->Rat}(hf:LB f)(M:Rat){e:Rat}(he:0<e):∃h,0<h/\∀s t,-M<=s->s<=t->t<=M->t-s<=h->Big e (f s)->CS f s t:=by
 obtain⟨K,L,k0,l0,h1,h2⟩:=hf M;have hL:0<L+1:=by grind
 refine⟨e*(1/2)*(L+1)⁻¹,Rat.mul_pos (by grind) (Rat.inv_pos.2 hL),λs t a b c d hb x hx1 hx2=>?_⟩;have g:=h2 s x a hx1 (by grind);have e1:L*(x-s)<e:=by
  have e2:(L+1)*(x-s)<=(L+1)*(e*(1/2)*(L+1)⁻¹):=by
   have:0<=(L+1)*(e*(1/2)*(L+1)⁻¹-(x-s)):=Rat.mul_nonneg (by grind) (by grind)
   grind
  have e3:(L+1)*(e*(1/2)*(L+1)⁻¹)=e*(1/2):=by
   have:(L+1)*(L+1)⁻¹=1:=Rat.mul_inv_cancel _ (by grind)
   grind
  have e4:0<=x-s:=by grind
  grind
 rcases hb with hb|hb
 .exact Rat.mul_pos (by grind) (by grind)
 .have:=Rat.mul_pos (show 0 < -f s by grind) (show 0 < -f x by grind)
  grind
inductive Ch:List (Rat->Rat)->Prop
 |one {f:Rat->Rat} (h:∀x,f x=1):Ch [f]
 |two {f g:Rat->Rat} (hf:LB f) (hg:∀x,g x=1):Ch [f,g]
 |more {f g h:Rat->Rat} {l:List (Rat->Rat)} (hf:LB f) (q:Rat->Rat) (b:Rat) (hq:LB q) (hb:0<b) (e:∀x,f x=q x*g x-b*h x) (t:Ch (g::h::l)):Ch (f::g::h::l)
theorem Ch.lb {f:Rat->Rat}{l:List (Rat->Rat)}(h:Ch (f::l)):LB f:=by
 cases h with
 |one h=>exact(LB.const 1).congr h
 |two hf hg=>exact hf
 |more hf=>exact hf
theorem Ch.pair (M:Rat):∀{l:List (Rat->Rat)} {f g:Rat->Rat},Ch (f::g::l)->∃e,0<e/\∀x,-M<=x->x<=M->Big e (f x)\/Big e (g x):=by
 intro l
 induction l with
 |nil =>
  intro f g h;cases h with
  |two hf hg=>exact⟨1,by grind,λx _ _=>.inr (.inl (by rw[hg];exact Rat.le_refl))⟩
 |cons hh l ih =>
  intro f g hc;cases hc with
  |more hf q b hq hb e t =>
   obtain⟨e',he',hp⟩:=ih t;obtain⟨K,L,k0,l0,h1,-⟩:=hq M;have hK:0<K+1:=by grind
   have hi:=Rat.inv_pos.2 hK;have hu:0<b*e'*(K+1)⁻¹*(1/2):=Rat.mul_pos (Rat.mul_pos (Rat.mul_pos hb he') hi) (by grind);have hone:(K+1)*(K+1)⁻¹=1:=Rat.mul_inv_cancel _ (by grind);obtain⟨e2,h2,h3,h4⟩:∃e2,0<e2/\e2<=e'/\e2<=b*e'*(K+1)⁻¹*(1/2):=by
    rcases Rat.le_total (a:=e') (b:=b*e'*(K+1)⁻¹*(1/2)) with h|h
    .exact⟨e',he',Rat.le_refl,h⟩
    .exact⟨_,hu,h,Rat.le_refl⟩
   refine⟨e2,h2,λx a1 a2=>?_⟩;by_cases hfx:Big e2 (f x)
   .exact .inl hfx
   by_cases hgx:Big e2 (g x)
   .exact .inr hgx
   exfalso
   have hgs : -e2<=g x/\g x<=e2:=by unfold Big at hgx;constructor<;>grind
   have hfs : -e2<=f x/\f x<=e2:=by unfold Big at hfx;constructor<;>grind
   have hq':=h1 x a1 a2;have m:=KE hq'.1 hq'.2 hgs.1 hgs.2;have e1:=e x;have e5:(K+1)*e2<=b*e'*(1/2):=by
    have e6:(K+1)*(b*e'*(K+1)⁻¹*(1/2))=b*e'*(1/2):=by
     rw[show (K+1)*(b*e'*(K+1)⁻¹*(1/2))=(K+1)*(K+1)⁻¹*(b*e'*(1/2)) by grind,hone];grind
    have:0<=(K+1)*(b*e'*(K+1)⁻¹*(1/2)-e2):=Rat.mul_nonneg (by grind) (by grind);clear hp ih
    grind
   have be:0<b*e':=Rat.mul_pos hb he';rcases hp x a1 a2 with h|h
   .rcases h with h|h
    .exact hgx (.inl (by grind))
    .exact hgx (.inr (by grind))
   .rcases h with h|h
    .have:0<=b*(hh x-e'):=Rat.mul_nonneg (by grind) (by grind)
     grind
    .have:0<=b*(-e'-hh x):=Rat.mul_nonneg (by grind) (by grind)
     grind
theorem iD {x:Rat}(h:x≠0):0<x\/x<0:=by
 rcases Rat.le_total (a:=0) (b:=x) with h1|h1<;>grind
theorem jS {a b:Rat}(h:0<a*b):(0<a/\0<b)\/(a<0/\b<0):=by
 have ha:a≠0:=λe=>by rw[e,Rat.zero_mul]at h;grind
 have hb:b≠0:=λe=>by rw[e,Rat.mul_zero]at h;grind
 rcases iD ha with x|x<;>rcases iD hb with y|y
 .exact .inl ⟨x,y⟩
 .have:=Rat.mul_pos x (show 0 < -b by grind);grind
 .have:=Rat.mul_pos (show 0 < -a by grind) y;grind
 .exact .inr ⟨x,y⟩
theorem XH {a b:Rat}(h:a*b<0):(0<a/\b<0)\/(a<0/\0<b):=by
 have:=jS (a:=a) (b:=-b) (by grind);rcases this with ⟨x,y⟩|⟨x,y⟩
 .exact .inl ⟨x,by grind⟩
 .exact .inr ⟨x,by grind⟩
def vrf (e:Rat):List Rat->Nat
 |[]=>0
 |x::l=>if x=0 then vrf e l else (if e*x<0 then 1 else 0)+vrf x l
inductive LG:List (Rat×Rat)->Prop
 |one {a b:Rat} (h:0<a*b):LG [(a,b)]
 |st {a b c d:Rat} {l:List (Rat×Rat)} (h:0<a*b) (t:LG ((c,d)::l)):LG ((a,b)::(c,d)::l)
 |un {a b c d e g:Rat} {l:List (Rat×Rat)} (h:0<a*b) (o:a*e<0) (t:LG ((e,g)::l)):LG ((a,b)::(c,d)::(e,g)::l)
inductive PL (s t:Rat):List (Rat->Rat)->Prop
 |one {f:Rat->Rat} (h:CS f s t):PL s t [f]
 |two {f g:Rat->Rat} (h:CS g s t):PL s t [f,g]
 |more {f g h:Rat->Rat} {l:List (Rat->Rat)} (h1:CS f s t\/CS g s t) (h2:CS g s t\/f s*h s<0) (p:PL s t (g::h::l)):PL s t (f::g::h::l)
theorem PL.next {s t:Rat}{f g:Rat->Rat}{l:List (Rat->Rat)}(h:PL s t (f::g::l)):(CS f s t\/CS g s t)/\PL s t (g::l):=by
 cases h with
 |two h=>exact⟨.inr h,.one h⟩
 |more h1 h2 p=>exact⟨h1,p⟩
def prs (l:List (Rat->Rat))(s t:Rat):List (Rat×Rat):=l.map λf=>(f s,f t)
theorem PL.lg {s t:Rat}(hst:s<=t):∀(n:Nat) {l:List (Rat->Rat)} {f:Rat->Rat},l.length<=n->PL s t (f::l)->CS f s t->LG (prs (f::l) s t)
 |n,[],f,hn,h,hc=>.one (hc t hst Rat.le_refl)
 |0,_::_,f,hn,h,hc=>by simp at hn
 |n+1,g::l,f,hn,h,hc=>by
  by_cases hg:CS g s t
  .exact .st (hc t hst Rat.le_refl) (PL.lg hst n (by simpa using hn) h.next.2 hg)
  .cases h with
   |two h=>exact(hg h).elim
   |more h1 h2 p =>
    rename_i h l;have o:=h2.resolve_left hg;have hh:=(p.next.1).resolve_left hg;exact .un (hc t hst Rat.le_refl) o (PL.lg hst n (by simp at hn ⊢;omega) p.next.2 hh)
def V (l:List (Rat->Rat))(x:Rat):Nat:=vrf 0 (l.map λf=>f x)
structure Rts (f g:Rat->Rat) (rs:List Rat) (M:Rat):Prop where
 nd:rs.Nodup
 zero:∀r∈rs,f r=0
 off:∀s t,-M<=s->s<=t->t<=M->(∀r∈rs,¬(s<=r/\r<=t))->0<f s*f t
 at_:∀r∈rs,∀x,-M<=x->x<=M->x≠r->(∀r'∈rs,(x<=r'/\r'<=r)\/(r<=r'/\r'<=x)->r'=r)->0<f x*g r*(x-r)
theorem b0S (ds:List Rat):∃e,0<e/\∀d∈ds,0<d->e<d:=by
 induction ds with
 |nil=>exact⟨1,by grind,λd h=>by simp at h⟩
 |cons d ds ih =>
  obtain⟨e,he,h⟩:=ih;by_cases hd:0<d
  .rcases Rat.le_total (a:=e) (b:=d*(1/2)) with h1|h1
   .exact⟨e,he,λx hx h0=>by
     rcases List.mem_cons.1 hx with rfl|hx
     .grind
     .exact h x hx h0⟩
   .exact⟨d*(1/2),by grind,λx hx h0=>by
     rcases List.mem_cons.1 hx with rfl|hx
     .grind
     .have:=h x hx h0;grind⟩
  .exact⟨e,he,λx hx h0=>by
    rcases List.mem_cons.1 hx with rfl|hx
    .exact(hd h0).elim
    .exact h x hx h0⟩
theorem b5N (h d:Rat)(hh:0<h):∃n:Nat,d<=n*h:=by
 refine⟨(d*h⁻¹).ceil.toNat,?_⟩;have h1:=Rat.le_ceil (x:=d*h⁻¹);have h2:((d*h⁻¹).ceil:Rat)<=(((d*h⁻¹).ceil.toNat:Nat):Rat):=by
  have:(d*h⁻¹).ceil<=((d*h⁻¹).ceil.toNat:Int):=Int.self_le_toNat _
  exact_mod_cast this
 have h3:d=d*h⁻¹*h:=by rw[Rat.mul_assoc,Rat.inv_mul_cancel _ (by grind),Rat.mul_one]
 have h4:0<=((((d*h⁻¹).ceil.toNat:Nat):Rat)-d*h⁻¹)*h:=Rat.mul_nonneg (by grind) (by grind)
 grind
def bl (n:Nat):Nat:=if n=0 then 0 else n.log2+1
theorem Bf {x k:Nat}(h:2^k<=x):bl x=bl (x/2^k)+k:=by
 have h0:x≠0:=by have:=Nat.pow_pos (n:=k) (show 0<2 by decide);omega
 have h1:x/2^k≠0:=by
  intro h1;rw[Nat.div_eq_zero_iff]at h1;have:=Nat.pow_pos (n:=k) (show 0<2 by decide);omega
 unfold bl;rw[if_neg h0,if_neg h1];have h2:(x/2^k).log2=x.log2-k:=by
  rw[Nat.log2_eq_iff h1];have a1:=Nat.log2_self_le h0;have a2:=Nat.lt_log2_self (n:=x);have hk:k<=x.log2:=(Nat.le_log2 h0).mpr h;constructor
  .rw[Nat.le_div_iff_mul_le (Nat.pow_pos (by decide)),<-Nat.pow_add,Nat.sub_add_cancel hk];exact a1
  .rw[Nat.div_lt_iff_lt_mul (Nat.pow_pos (by decide)),<-Nat.pow_add];rw[show x.log2-k+1+k=x.log2+1 by omega];exact a2
 have hk:k<=x.log2:=(Nat.le_log2 h0).mpr h;omega
theorem qU {n k:Nat}:bl n<=k↔n<2^k:=by
 unfold bl;split
 .rename_i h;subst h;simp[Nat.pow_pos]
 .rename_i h;constructor
  .intro h';exact Nat.lt_of_lt_of_le Nat.lt_log2_self (Nat.pow_le_pow_right (by decide) h')
  .intro h';exact(Nat.log2_lt h).mpr h'
theorem og (x m:Nat)(hm:m<=64):((x:Int)).fdiv (2^min m IntKind.u64.bits)=((x/2^m:Nat):Int):=by
 rw[show min m IntKind.u64.bits=m from Nat.min_eq_left (by simp only[IntKind.bits];omega),Int.fdiv_eq_ediv_of_nonneg _ (by exact Int.le_of_lt (Int.pow_pos (by decide)))]
 norm_cast
theorem a7X (S:ByteArray):a0t (.string S)=.iv (.raw (.string S)):=rfl
theorem ZH {S:ByteArray}{y d:Nat}{K:Fr->Hp->Log->Prop}{f:Fr}{H:Hp}{lg:Log}(h:∀n,n<256->n<S.size/\(S[n]?.getD 0).toNat=bl n)(hy:y<256)
  (hk:K (upd f d (.iv (.int .u8 (bl y)))) H (([],[])::lg)):jD (some ⟨0<=(y:Int)/\(y:Int)<(S.size:Int),.iv (.int .u8 ((S[y]?.getD 0).toNat:Nat)),[],[],[]⟩) (some d) K f H lg:=by
 have h1:=h y hy;refine⟨⟨by omega,by omega⟩,?_⟩;show K (upd f d (.iv (.int .u8 ((S[y]?.getD 0).toNat:Nat)))) H _;rw[h1.2];exact hk
theorem QS (x:Nat)(hx:x<W):AC Tryz.prog 111 [cu x] none [ci (bl x)]:=by
 refine AC.aF (rs:=[.tmp 2]) bM Tryz.func111 (by rfl) (by rfl) (by rfl) (by rfl) (by rfl) ?_;simp (disch:=omega) only[wt,seval,reduceCtorEq,Nat.reduceEqDiff];refine zN (λf H=>∃y n:Nat,y<2^32/\n<=32/\bl x=bl y+n/\f 0=.iv (.int .u64 y)/\f 2=.iv (.int .i64 n)) ?_ ?_
 .refine bU (λh=>?_) (λh=>?_)
  .simp (disch:=omega) only[wt,seval,reduceCtorEq,Nat.reduceEqDiff,og x 32 (by omega)];exact⟨x/2^32,32,by simp only[W]at hx;omega,by omega,Bf (k:=32) (by omega),rfl,rfl⟩
  .simp (disch:=omega) only[wt,seval,reduceCtorEq,Nat.reduceEqDiff];exact⟨x,0,by omega,by omega,rfl,rfl,rfl⟩
 rintro f H ⟨y,n,hy,hn,e,hF⟩;rw[e];clear e hx;simp (disch:=omega) only[wt,seval,reduceCtorEq,Nat.reduceEqDiff,hF];refine zN (λf H=>∃z m:Nat,z<2^16/\m<=48/\bl y+n=bl z+m/\f 0=.iv (.int .u64 z)/\f 2=.iv (.int .i64 m)) ?_ ?_
 .refine bU (λh=>?_) (λh=>?_)
  .have:=Bf (x:=y) (k:=16) (by omega);simp (disch:=omega) only[wt,seval,reduceCtorEq,Nat.reduceEqDiff,hF,og y 16 (by omega)];exact⟨y/2^16,n+16,by omega,by omega,by omega,rfl,by omega⟩
  .simp (disch:=omega) only[wt,seval,reduceCtorEq,Nat.reduceEqDiff,hF];exact⟨y,n,by omega,by omega,rfl,rfl,rfl⟩
 clear hF;rintro f H ⟨z,m,hz,hm,e,hF⟩;rw[e];clear e hy;simp (disch:=omega) only[wt,seval,reduceCtorEq,Nat.reduceEqDiff,hF];refine zN (λf H=>∃y n:Nat,y<2^8/\n<=56/\bl z+m=bl y+n/\f 0=.iv (.int .u64 y)/\f 2=.iv (.int .i64 n)) ?_ ?_
 .refine bU (λh=>?_) (λh=>?_)
  .have:=Bf (x:=z) (k:=8) (by omega);simp (disch:=omega) only[wt,seval,reduceCtorEq,Nat.reduceEqDiff,hF,og z 8 (by omega)];exact⟨z/2^8,m+8,by omega,by omega,by omega,rfl,by omega⟩
  .simp (disch:=omega) only[wt,seval,reduceCtorEq,Nat.reduceEqDiff,hF];exact⟨z,m,by omega,by omega,rfl,rfl,rfl⟩
 clear hF;rintro f H ⟨y,n,hy,hn,e,hF⟩;rw[e];have hb:bl y<=8:=qU.mpr hy;have hw:IntKind.u8.wrap (y:Int)=(y:Int):=by
  simp only[IntKind.wrap,IntKind.signed,IntKind.bits,Bool.false_and,Bool.false_eq_true,if_false];omega
 have hw2:IntKind.i64.wrap (bl y:Int)=(bl y:Int):=wrap_i64 _ (by omega) (by omega);simp (disch:=omega) only[wt,seval,reduceCtorEq,Nat.reduceEqDiff,hF,hw,a7X];refine ZH ?_ (by omega) ?_
 .decide +kernel
 simp (disch:=omega) only[wt,seval,reduceCtorEq,Nat.reduceEqDiff,hF,hw,hw2];omega
end Go.Proofs.YtnhghmibjddlkaaGreatDoor
