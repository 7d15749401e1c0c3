/-
 Contracts of the functions that the law reaches.
-/
import Derived.Test.YtnhghmibjddlkaaGreatDoorTyA
import Derived.Test.YtnhghmibjddlkaaGreatDoorAbsFM
import Derived.Laws.Externs
set_option maxHeartbeats 2000000
namespace Go.Proofs.YtnhghmibjddlkaaGreatDoor
open Go Go.Proofs Go.AL
set_option linter.unusedSimpArgs false
set_option linter.unusedVariables false
abbrev cl (l:List Nat):CV:=.iv (.sl (dJ l))
abbrev cu (x:Nat):CV:=.iv (.int .u64 (x:Int))
abbrev ci (n:Int):CV:=.iv (.int .i64 n)
def a0N:Array Value->Sem Value:=λargs=>do
 let (x, y, b) ← Extern.MathBitsCarry.three "Sub64" args
 pure (Extern.MathBitsCarry.pair ((x+Extern.MathBitsCarry.m64-y-b)%Extern.MathBitsCarry.m64) (if x<y+b then 1 else 0))
theorem Bl (x y c:Nat)(hc:c<=1):AC Tryz.prog 148 [cu x,cu y,cu c] none [cu ((x+y+c)%W),cu ((x+y+c)/W)]:=by
 refine AC.of_run [(.u64,x),(.u64,y),(.u64,c)] [(.u64,((x+y+c)%W:Nat)),(.u64,((x+y+c)/W:Nat))] rfl rfl λw=>?_;show (callFunc _ #[.int .u64 x,.int .u64 y,.int .u64 c]).run Tryz.prog w=_;rw[run_callFunc_extern Tryz.func148 (by kernel_rfl) (by kernel_rfl) (by kernel_rfl) (e:=add64Entry) (by kernel_rfl),run_add64 x y c (by omega) (by omega) (by omega) (by omega)];simp only[Result.andThen,qF,List.map]
 congr 5<;>omega
theorem Gn (x y b:Nat)(hb:b<=1):AC Tryz.prog 141 [cu x,cu y,cu b] none [cu ((x+W-y-b)%W),cu (if x<y+b then 1 else 0)]:=by
 refine AC.of_run [(.u64,x),(.u64,y),(.u64,b)] [(.u64,((x+W-y-b)%W:Nat)),(.u64,((if x<y+b then 1 else 0:Nat):Int))] rfl rfl λw=>?_;show (callFunc _ #[.int .u64 x,.int .u64 y,.int .u64 b]).run Tryz.prog w=_;rw[run_callFunc_extern Tryz.func141 (by kernel_rfl) (by kernel_rfl) (by kernel_rfl) (e:=a0N) (by kernel_rfl)];have:b=0\/b=1:=by omega
 rcases this with rfl|rfl<;>rfl
theorem qO (l:List Nat)(hl:l.length<=2^43):AC Tryz.prog 91 [cl l] (some (0,73,1,dJ l)) [cl l]:=by
 refine AC.aF (rs:=[.tmp 2]) bM Tryz.func91 (by rfl) (by rfl) (by rfl) (by rfl) (by rfl) ?_;simp (disch:=omega) only[wt,seval,reduceCtorEq,Nat.reduceEqDiff];by_cases hn:l=[]
 .subst hn;refine b2O ?_ ?_
  .simp (disch:=omega) only[wt,seval,reduceCtorEq,Nat.reduceEqDiff,AO]
  .simp (disch:=omega) only[wt,seval,reduceCtorEq,Nat.reduceEqDiff]
 .have he:(dJ l).isEmpty=false:=by cases l with|nil=>exact(hn rfl).elim|cons x xs=>rfl
  simp (disch:=omega) only[wt,seval,reduceCtorEq,Nat.reduceEqDiff,he]
theorem zC (l:List Nat)(i:Nat)(hl:l.length<=2^43):AC Tryz.prog 112 [cl l,ci i] none [cu (l.getD i 0)]:=by
 refine AC.aF (rs:=[.tmp 4]) bM Tryz.func112 (by rfl) (by rfl) (by rfl) (by rfl) (by rfl) ?_;simp (disch:=omega) only[wt,seval,reduceCtorEq,Nat.reduceEqDiff];refine bU (λh=>?_) (λh=>?_)
 .simp (disch:=omega) only[wt,seval,reduceCtorEq,Nat.reduceEqDiff]
 .simp (disch:=omega) only[wt,seval,reduceCtorEq,Nat.reduceEqDiff];rw[List.getD_eq_getElem?_getD,List.getElem?_eq_none (by omega)];rfl
theorem DK (x y c:Nat)(hx:x<W)(hy:y<W)(hc:c<W):AC Tryz.prog 123 [cu x,cu y,cu c] none [cu ((x+y+c)%W),cu ((x+y+c)/W)]:=by
 refine AC.aF (rs:=[.tmp 6,.tmp 7]) bM Tryz.func123 (by rfl) (by rfl) (by rfl) (by rfl) (by rfl) ?_;simp (disch:=omega) only[wt,seval,reduceCtorEq,Nat.reduceEqDiff];refine au ((Bl x y 0 (by omega))) (by rfl) (by simp) ?_;simp (disch:=omega) only[wt,seval,reduceCtorEq,Nat.reduceEqDiff];refine au ((Bl ((x+y+0)%W) c 0 (by omega))) (by rfl) (by simp) ?_;simp (disch:=omega) only[wt,seval,reduceCtorEq,Nat.reduceEqDiff];rw[wrap_u64 (by simp only[W]at *;omega)];simp only[W]at *;omega
theorem VY (x y c:Nat)(hx:x<W)(hy:y<W)(hc:c<=1):AC Tryz.prog 156 [cu x,cu y,cu c] none [cu ((x+W-y-c)%W),cu (if x<y+c then 1 else 0)]:=by
 refine AC.aF (rs:=[.tmp 6,.tmp 7]) bM Tryz.func156 (by rfl) (by rfl) (by rfl) (by rfl) (by rfl) ?_;simp (disch:=omega) only[wt,seval,reduceCtorEq,Nat.reduceEqDiff];refine au ((Gn x y 0 (by omega))) (by rfl) (by simp) ?_;simp (disch:=omega) only[wt,seval,reduceCtorEq,Nat.reduceEqDiff];refine au ((Gn ((x+W-y-0)%W) c 0 (by omega))) (by rfl) (by simp) ?_;simp (disch:=omega) only[wt,seval,reduceCtorEq,Nat.reduceEqDiff];rw[wrap_u64 (by simp only[W]at *;split<;>split<;>omega)];simp only[W]at *;split<;>split<;>split<;>omega
theorem and_low32 (x:Nat)(hx:x<W):IntKind.u64.wrap ((BitVec.ofInt IntKind.u64.bits (x:Int)&&&BitVec.ofInt IntKind.u64.bits 4294967295).toNat:Int)=((x%4294967296:Nat):Int):=by
 have h:(BitVec.ofInt 64 (x:Int)&&&BitVec.ofInt 64 4294967295).toNat=x%4294967296:=by
  have e1:BitVec.ofInt 64 (x:Int)=BitVec.ofNat 64 x:=by simp
  have e2:(BitVec.ofInt 64 4294967295:BitVec 64)=BitVec.ofNat 64 (2^32-1):=by rfl
  rw[e1,e2,BitVec.toNat_and,BitVec.toNat_ofNat,BitVec.toNat_ofNat];rw[Nat.mod_eq_of_lt (show x<2^64 from hx),Nat.mod_eq_of_lt (by decide:2^32-1<2^64),Nat.and_two_pow_sub_one_eq_mod]
 show IntKind.u64.wrap ((BitVec.ofInt 64 (x:Int)&&&BitVec.ofInt 64 4294967295).toNat:Int)=_;rw[h,wrap_u64 (by omega)]
theorem BN (x:Nat):((x:Int)).fdiv (2^min 32 IntKind.u64.bits)=((x/4294967296:Nat):Int):=by
 show ((x:Int)).fdiv 4294967296=_;rw[Int.fdiv_eq_ediv_of_nonneg _ (by omega)];rfl
theorem fZ {n:Nat}(h:n<W):IntKind.u64.wrap (n:Int)=(n:Int):=wrap_u64 (by simp only[W]at h;omega)
theorem fG {m n:Nat}(h:m+n<W):IntKind.u64.wrap ((m:Int)+(n:Int))=((m+n:Nat):Int):=by rw[wrap_u64 (by simp only[W]at h;omega)];omega
theorem fE {m n:Nat}(h:m*n<W):IntKind.u64.wrap ((m:Int)*(n:Int))=((m*n:Nat):Int):=by rw[<-Int.natCast_mul,fZ h]
theorem jE (m n:Nat):IntKind.u64.wrap ((m:Int)*(n:Int))=((m*n%W:Nat):Int):=by
 rw[<-Int.natCast_mul];simp only[IntKind.wrap,IntKind.signed,IntKind.bits,Bool.false_and,Bool.false_eq_true,if_false];simp only[W];omega
theorem XQ {x y:Nat}(hx:x<W)(hy:y<W):∃P Q R S,P=x%4294967296*(y%4294967296)/\Q=x/4294967296*(y%4294967296)/\R=x%4294967296*(y/4294967296)/\S=x/4294967296*(y/4294967296) /\
  P<=18446744065119617025/\Q<=18446744065119617025/\R<=18446744065119617025/\S<=18446744065119617025/\x*y=P+4294967296*(Q+R)+18446744073709551616*S:=by
 simp only[W]at hx hy;have h0:x%4294967296<=4294967295:=by omega
 have h1:x/4294967296<=4294967295:=by omega
 have h2:y%4294967296<=4294967295:=by omega
 have h3:y/4294967296<=4294967295:=by omega
 refine⟨_,_,_,_,rfl,rfl,rfl,rfl,Nat.mul_le_mul h0 h2,Nat.mul_le_mul h1 h2,Nat.mul_le_mul h0 h3,Nat.mul_le_mul h1 h3,?_⟩;have ex:x=x%4294967296+4294967296*(x/4294967296):=by omega
 have ey:y=y%4294967296+4294967296*(y/4294967296):=by omega
 generalize x%4294967296=a at *;generalize x/4294967296=b at *;generalize y%4294967296=c at *;generalize y/4294967296=d at *;subst ex ey;simp only[Nat.add_mul,Nat.mul_add];have e1:4294967296*b*c=4294967296*(b*c):=Nat.mul_assoc _ _ _;have e2:a*(4294967296*d)=4294967296*(a*d):=Nat.mul_left_comm _ _ _;have e3:4294967296*b*(4294967296*d)=18446744073709551616*(b*d):=by
  rw[Nat.mul_mul_mul_comm]
 rw[e1,e2,e3];omega
theorem QJ (x y:Nat)(hx:x<W)(hy:y<W):AC Tryz.prog 159 [cu x,cu y] none [cu (x*y/W),cu (x*y%W)]:=by
 refine AC.aF (rs:=[.tmp 4,.tmp 5]) bM Tryz.func159 (by rfl) (by rfl) (by rfl) (by rfl) (by rfl) ?_;simp (disch:=omega) only[wt,seval,reduceCtorEq,Nat.reduceEqDiff];obtain⟨P,Q,R,S,hP,hQ,hR,hS,bP,bQ,bR,bS,hxy⟩:=XQ hx hy;rw[and_low32 x hx,and_low32 y hy,BN x,BN y];rw[fE (m:=x%4294967296) (by simp only[W];omega),fE (m:=x/4294967296) (n:=y%4294967296) (by simp only[W];omega),fE (m:=x%4294967296) (n:=y/4294967296) (by simp only[W];omega),fE (m:=x/4294967296) (n:=y/4294967296) (by simp only[W];omega),jE];clear hx hy;rw[<-hP,<-hQ,<-hR,<-hS,BN P,fG (by simp only[W];omega),BN,and_low32 _ (by simp only[W];omega),fG (by simp only[W];omega),fG (by simp only[W];omega),BN,fG (by simp only[W];omega),hxy];simp only[W];refine⟨?_,trivial⟩;omega
theorem XL (x y a b:Nat)(hx:x<W)(hy:y<W)(ha:a<W)(hb:b<W):AC Tryz.prog 135 [cu x,cu y,cu a,cu b] none [cu ((x*y+a+b)/W),cu ((x*y+a+b)%W)]:=by
 refine AC.aF (rs:=[.tmp 8,.tmp 9]) bM Tryz.func135 (by rfl) (by rfl) (by rfl) (by rfl) (by rfl) ?_;simp (disch:=omega) only[wt,seval,reduceCtorEq,Nat.reduceEqDiff];refine au ((QJ x y hx hy)) (by rfl) (by simp) ?_;simp (disch:=omega) only[wt,seval,reduceCtorEq,Nat.reduceEqDiff];refine au ((DK (x*y%W) a b (Nat.mod_lt _ (by decide)) ha hb)) (by rfl) (by simp) ?_;simp (disch:=omega) only[wt,seval,reduceCtorEq,Nat.reduceEqDiff];have hm:x*y<=18446744073709551615*18446744073709551615:=Nat.mul_le_mul (by simp only[W]at hx;omega) (by simp only[W]at hy;omega);simp only[W]at *;rw[fG (by simp only[W];omega)];omega
theorem Q7 (l:List Nat)(hl:l.length<=2^43):AC Tryz.prog 110 [cl l] none [ci (oK l)]:=by
 refine AC.aF (rs:=[.tmp 2]) bM Tryz.func110 (by rfl) (by rfl) (by rfl) (by rfl) (by rfl) ?_;simp (disch:=omega) only[wt,seval,reduceCtorEq,Nat.reduceEqDiff];refine bF (λf H=>∃k:Nat,k<=l.length/\f 0=.iv (.sl (dJ l))/\f 3=.iv (.int .i64 k)/\oK (l.take k)=oK l) (λf H=>(dQ f 3).toNat) ?_ ?_
 .exact⟨l.length,Nat.le_refl _,by simp (disch:=omega) only[wt,seval,reduceCtorEq,Nat.reduceEqDiff],by simp (disch:=omega) only[wt,seval,reduceCtorEq,Nat.reduceEqDiff],by rw[List.take_length]⟩
 rintro f H ⟨k,hk,h0,h3,ht⟩;rw[bC h3];by_cases hc:0<(k:Int)
 .simp (disch:=omega) only[wt,seval,reduceCtorEq,Nat.reduceEqDiff,h0,h3,hc];refine bU (λhz=>?_) (λhz=>?_)
  .simp (disch:=omega) only[wt,seval,reduceCtorEq,Nat.reduceEqDiff,h0,h3];refine⟨⟨k-1,by omega,by omega,?_⟩,by omega⟩;have e:k=(k-1)+1:=by omega
   rw[<-uU (k:=k-1) (by omega) (by rw[show ((k:Int)-1).toNat=k-1 by omega]at hz;exact_mod_cast hz),<-e,ht]
  .simp (disch:=omega) only[wt,seval,reduceCtorEq,Nat.reduceEqDiff,h0,h3];rw[<-ht,show k=(k-1)+1 by omega,Jy (by omega) (by rw[show ((k:Int)-1).toNat=k-1 by omega]at hz;exact_mod_cast hz)]
 .simp (disch:=omega) only[wt,seval,reduceCtorEq,Nat.reduceEqDiff,h0,h3,hc];obtain rfl:k=0:=by omega
  rw[<-ht];rfl
theorem Gf (l:List Nat)(hl:l.length<=2^43):AC Tryz.prog 90 [cl l] none [cl (l.take (oK l))]:=by
 refine AC.aF (rs:=[.tmp 2]) bM Tryz.func90 (by rfl) (by rfl) (by rfl) (by rfl) (by rfl) ?_;have ht:=rZ l;simp (disch:=omega) only[wt,seval,reduceCtorEq,Nat.reduceEqDiff];refine au ((Q7 l hl)) (by rfl) (by simp) ?_;simp (disch:=omega) only[wt,seval,reduceCtorEq,Nat.reduceEqDiff];refine au ((qO (l.take (oK l)) (by rw[List.length_take];omega))) (by rfl) (by simp) ?_;simp (disch:=omega) only[wt,seval,reduceCtorEq,Nat.reduceEqDiff]
theorem EN (l:List Nat)(h:Lim l)(hl:l.length<=2^43):AC Tryz.prog 63 [cl l] none [cl (wd (nv l))]:=by
 refine AC.aF (rs:=[.tmp 2]) bM Tryz.func63 (by rfl) (by rfl) (by rfl) (by rfl) (by rfl) ?_;have ht:=rZ l;simp (disch:=omega) only[wt,seval,reduceCtorEq,Nat.reduceEqDiff];refine au ((Gf l hl)) (by rfl) (by simp) ?_;simp (disch:=omega) only[wt,seval,reduceCtorEq,Nat.reduceEqDiff];rw[<-a0B h];refine bU (λhz=>?_) (λhz=>?_)
 .simp (disch:=omega) only[wt,seval,reduceCtorEq,Nat.reduceEqDiff];have:wd (nv l)=[]:=by rw[<-List.length_eq_zero_iff];omega
  rw[this];rfl
 .simp (disch:=omega) only[wt,seval,reduceCtorEq,Nat.reduceEqDiff];refine au ((qO (wd (nv l)) (by have:=lF h;omega))) (by rfl) (by simp) ?_;simp (disch:=omega) only[wt,seval,reduceCtorEq,Nat.reduceEqDiff]
theorem kG (l:List Nat)(h:Lim l)(hl:l.length<=2^43):AC Tryz.prog 59 [cl l] none [cl (wd (nv l))]:=by
 refine AC.aF (rs:=[.tmp 2]) bM Tryz.func59 (by rfl) (by rfl) (by rfl) (by rfl) (by rfl) ?_;simp (disch:=omega) only[wt,seval,reduceCtorEq,Nat.reduceEqDiff];refine au ((EN l h hl)) (by rfl) (by simp) ?_;simp (disch:=omega) only[wt,seval,reduceCtorEq,Nat.reduceEqDiff]
theorem KC (x:Nat)(hx:x<W):AC Tryz.prog 37 [cu x] none [cl (wd x)]:=by
 refine AC.aF (rs:=[.tmp 2]) bM Tryz.func37 (by rfl) (by rfl) (by rfl) (by rfl) (by rfl) ?_;simp (disch:=omega) only[wt,seval,reduceCtorEq,Nat.reduceEqDiff];have e:nv [x]=x:=by simp[nv,vl]
 have:=EN [x] (Lim.cons hx Lim.nil) (by simp);rw[e]at this;refine au (this) (by rfl) (by simp) ?_;simp (disch:=omega) only[wt,seval,reduceCtorEq,Nat.reduceEqDiff]
theorem a7k (a b:List Nat)(ha:Lim a)(hb:Lim b)(hla:a.length<=2^40)(hlb:b.length<=2^40) :
  AC Tryz.prog 96 [cl a,cl b] none [cl (pad (max a.length b.length) (nv a+nv b)),cu ((nv a+nv b)/W^(max a.length b.length))]:=by
 refine AC.aF (rs:=[.tmp 4,.tmp 5]) bM Tryz.func96 (by rfl) (by rfl) (by rfl) (by rfl) (by rfl) ?_;simp (disch:=omega) only[wt,seval,reduceCtorEq,Nat.reduceEqDiff];refine zN (λf H=>∃A B,B.length<=A.length/\A.length<=2^40/\Lim A/\Lim B/\A.length=max a.length b.length/\nv A+nv B=nv a+nv b/\f 0=.iv (.sl (dJ A))/\f 1=.iv (.sl (dJ B))) ?_ ?_
 .refine bU (λhz=>?_) (λhz=>?_)
  .simp (disch:=omega) only[wt,seval,reduceCtorEq,Nat.reduceEqDiff];exact⟨b,a,by omega,by omega,hb,ha,by omega,by omega,rfl,rfl⟩
  .simp (disch:=omega) only[wt,seval,reduceCtorEq,Nat.reduceEqDiff];exact⟨a,b,by omega,by omega,ha,hb,by omega,by omega,rfl,rfl⟩
 rintro f H ⟨A,B,hBA,hAl,hA,hB,hAm,hAB,h0,h1⟩;rw[<-hAm,<-hAB];simp (disch:=omega) only[wt,seval,reduceCtorEq,Nat.reduceEqDiff,h0,h1];refine au ((qO A (by omega))) (by first|rfl|(simp only[aH,bn,aB,aI,aA,Nat.reduceEqDiff,↓reduceIte,h0,h1];rfl)) (by simp) ?_;simp (disch:=omega) only[wt,seval,reduceCtorEq,Nat.reduceEqDiff,h0,h1];refine bF (λf H=>∃(i c:Nat) (out:List Nat) (st:Nat),i<=A.length/\c<=1/\Lim out/\out.length=A.length/\out.drop i=A.drop i/\nv (out.take i)+W^i*c=nv (A.take i)+nv (B.take i) /\
  f 0=.iv (.sl (dJ A))/\f 1=.iv (.sl (dJ B))/\f 6=.hs 17 st/\f 7=.iv (.int .u64 c)/\f 19=.iv (.int .i64 A.length)/\f 20=.iv (.int .i64 i)/\H 17=.blk false st 73 1 (dJ out)) (λf H=>(A.length-dQ f 20).toNat) ?_ ?_
 .exact⟨0,0,A,(H 17).stamp+1,by omega,by omega,hA,rfl,rfl,by simp[vl],by simp (disch:=omega) only[wt,seval,reduceCtorEq,Nat.reduceEqDiff,h0],by simp (disch:=omega) only[wt,seval,reduceCtorEq,Nat.reduceEqDiff,h1],by simp (disch:=omega) only[wt,seval,reduceCtorEq,Nat.reduceEqDiff],by simp (disch:=omega) only[wt,seval,reduceCtorEq,Nat.reduceEqDiff],by simp (disch:=omega) only[wt,seval,reduceCtorEq,Nat.reduceEqDiff],by simp (disch:=omega) only[wt,seval,reduceCtorEq,Nat.reduceEqDiff],by simp (disch:=omega) only[wt,seval,reduceCtorEq,Nat.reduceEqDiff]⟩
 clear h0 h1;rintro f H ⟨i,c,out,st,hi,hc,hO,hOl,hOd,hOv,h0,h1,h6,h7,h19,h20,hH⟩;rw[bC h20];simp (disch:=omega) only[wt,seval,reduceCtorEq,Nat.reduceEqDiff,h0,h1,h6,h7,h19,h20,hH];refine bU (λhlt=>?_) (λhlt=>?_)
 .by_cases hb':(B.length:Int)<=i
  .by_cases hc':(c:Int)=0
   .simp (disch:=omega) only[wt,seval,reduceCtorEq,Nat.reduceEqDiff,h0,h1,h6,h7,h19,h20,hH,hb',hc'];obtain rfl:c=0:=by omega
    have e1:nv out=nv A+nv B:=by
     have e2:=ig W out (k:=i) (by omega);have e3:=ig W A (k:=i) (by omega);rw[List.take_of_length_le (l:=B) (by omega)]at hOv;rw[hOd]at e2;simp only[nv]at *;omega
    have e2:nv A+nv B<W^A.length:=by rw[<-e1,<-hOl];exact jm hO
    rw[<-pK hO hOl (s:=nv A+nv B) (by rw[e1,Nat.mod_eq_of_lt e2]),Nat.div_eq_of_lt e2];exact⟨rfl,rfl⟩
   .simp (disch:=omega) only[wt,seval,reduceCtorEq,Nat.reduceEqDiff,h0,h1,h6,h7,h19,h20,hH,hb',hc'];refine .inl ⟨aZ (by kernel_rfl),?_⟩;refine au ((zC B i (by omega))) (by first|rfl|(simp only[aH,bn,aB,aI,aA,Nat.reduceEqDiff,↓reduceIte,h0,h1,h6,h7,h19,h20,hH];rfl)) (by simp) ?_;simp (disch:=omega) only[wt,seval,reduceCtorEq,Nat.reduceEqDiff,h0,h1,h6,h7,h19,h20,hH];refine au ((DK (A.getD i 0) (B.getD i 0) c (hA.get i) (hB.get i) (by simp only[W];omega))) (by first|rfl|(simp only[aH,bn,aB,aI,aA,Nat.reduceEqDiff,↓reduceIte,h0,h1,h6,h7,h19,h20,hH];rfl)) (by simp) ?_;simp (disch:=omega) only[wt,seval,reduceCtorEq,Nat.reduceEqDiff,h0,h1,h6,h7,h19,h20,hH]
    first|exact aN (by kernel_rfl)|refine⟨aN (by kernel_rfl),?_⟩
    have hx:=hA.get i;have hy:=hB.get i

    refine⟨⟨i+1,(A.getD i 0+B.getD i 0+c)/W,out.set i ((A.getD i 0+B.getD i 0+c)%W),st,by omega,by simp only[W]at *;omega,hO.set (Nat.mod_lt _ (by decide)),by simp[hOl],?_,?_,rfl,rfl,by omega,rfl⟩,by omega⟩
    .rw[List.drop_set_of_lt (by omega)];have:=congrArg (List.drop 1) hOd;simpa using this
    .simp only[nv]at *;rw[dW W (by omega),Nat.pow_succ,dn,dn];exact uQ hOv (by simp only[W];omega)
  .simp (disch:=omega) only[wt,seval,reduceCtorEq,Nat.reduceEqDiff,h0,h1,h6,h7,h19,h20,hH,hb'];refine .inl ⟨aZ (by kernel_rfl),?_⟩;refine au ((zC B i (by omega))) (by first|rfl|(simp only[aH,bn,aB,aI,aA,Nat.reduceEqDiff,↓reduceIte,h0,h1,h6,h7,h19,h20,hH];rfl)) (by simp) ?_;simp (disch:=omega) only[wt,seval,reduceCtorEq,Nat.reduceEqDiff,h0,h1,h6,h7,h19,h20,hH];refine au ((DK (A.getD i 0) (B.getD i 0) c (hA.get i) (hB.get i) (by simp only[W];omega))) (by first|rfl|(simp only[aH,bn,aB,aI,aA,Nat.reduceEqDiff,↓reduceIte,h0,h1,h6,h7,h19,h20,hH];rfl)) (by simp) ?_;simp (disch:=omega) only[wt,seval,reduceCtorEq,Nat.reduceEqDiff,h0,h1,h6,h7,h19,h20,hH]
   first|exact aN (by kernel_rfl)|refine⟨aN (by kernel_rfl),?_⟩
   have hx:=hA.get i;have hy:=hB.get i

   refine⟨⟨i+1,(A.getD i 0+B.getD i 0+c)/W,out.set i ((A.getD i 0+B.getD i 0+c)%W),st,by omega,by simp only[W]at *;omega,hO.set (Nat.mod_lt _ (by decide)),by simp[hOl],?_,?_,rfl,rfl,by omega,rfl⟩,by omega⟩
   .rw[List.drop_set_of_lt (by omega)];have:=congrArg (List.drop 1) hOd;simpa using this
   .simp only[nv]at *;rw[dW W (by omega),Nat.pow_succ,dn,dn];exact uQ hOv (by simp only[W];omega)
 .simp (disch:=omega) only[wt,seval,reduceCtorEq,Nat.reduceEqDiff,h0,h1,h6,h7,h19,h20,hH];have hiA:i=A.length:=by omega
  subst hiA;rw[List.take_of_length_le (by omega),List.take_length,List.take_of_length_le (by omega)]at hOv;have hlt':=jm hO;rw[hOl]at hlt';have e2:(nv A+nv B)/W^A.length=c:=by
   rw[<-hOv,Nat.add_mul_div_left _ _ (fK _),Nat.div_eq_of_lt hlt',Nat.zero_add]
  rw[e2,<-pK hO hOl (s:=nv A+nv B) (by rw[<-hOv,Nat.add_mul_mod_self_left,Nat.mod_eq_of_lt hlt'])];exact⟨rfl,rfl⟩
theorem a6X (a b:List Nat)(ha:Lim a)(hb:Lim b)(hla:a.length<=2^40)(hlb:b.length<=2^40) :
  AC Tryz.prog 133 [cl a,cl b] none [cl (pad (max a.length b.length) (nv a+W^(max a.length b.length)-nv b)),cu (if nv a<nv b then 1 else 0)]:=by
 refine AC.aF (rs:=[.tmp 4,.tmp 5]) bM Tryz.func133 (by rfl) (by rfl) (by rfl) (by rfl) (by rfl) ?_;simp (disch:=omega) only[wt,seval,reduceCtorEq,Nat.reduceEqDiff];generalize hn:max a.length b.length=n at *;have hnI:max (a.length:Int) (b.length:Int)=(n:Int):=by omega
 rw[hnI];simp (disch:=omega) only[wt,seval,reduceCtorEq,Nat.reduceEqDiff];refine bF (λf H=>∃(i c:Nat) (out:List Nat) (st:Nat),i<=n/\c<=1/\Lim out/\out.length=n/\nv (out.take i)+nv (b.take i)=nv (a.take i)+W^i*c /\
  f 0=.iv (.sl (dJ a))/\f 1=.iv (.sl (dJ b))/\f 6=.hs 14 st/\f 7=.iv (.int .u64 c)/\f 16=.iv (.int .i64 n)/\f 17=.iv (.int .i64 i)/\H 14=.blk false st 73 1 (dJ out)) (λf H=>(n-dQ f 17).toNat) ?_ ?_
 .exact⟨0,0,List.replicate n 0,1,by omega,by omega,Lim.replicate n,by simp,by simp[vl],by simp (disch:=omega) only[wt,seval,reduceCtorEq,Nat.reduceEqDiff],by simp (disch:=omega) only[wt,seval,reduceCtorEq,Nat.reduceEqDiff],by simp (disch:=omega) only[wt,seval,reduceCtorEq,Nat.reduceEqDiff],by simp (disch:=omega) only[wt,seval,reduceCtorEq,Nat.reduceEqDiff],by simp (disch:=omega) only[wt,seval,reduceCtorEq,Nat.reduceEqDiff,List.length_replicate,Int.toNat_natCast],by simp (disch:=omega) only[wt,seval,reduceCtorEq,Nat.reduceEqDiff],by simp (disch:=omega) only[wt,seval,reduceCtorEq,Nat.reduceEqDiff,Int.toNat_natCast]⟩
 rintro f H ⟨i,c,out,st,hi,hc,hO,hOl,hOv,h0,h1,h6,h7,h16,h17,hH⟩;rw[bC h17];simp (disch:=omega) only[wt,seval,reduceCtorEq,Nat.reduceEqDiff,h0,h1,h6,h7,h16,h17,hH];refine bU (λhlt=>?_) (λhlt=>?_)
 .simp (disch:=omega) only[wt,seval,reduceCtorEq,Nat.reduceEqDiff,h0,h1,h6,h7,h16,h17,hH];refine au ((zC a i (by omega))) (by first|rfl|(simp only[aH,bn,aB,aI,aA,Nat.reduceEqDiff,↓reduceIte,h0,h1,h6,h7,h16,h17,hH];rfl)) (by simp) ?_;simp (disch:=omega) only[wt,seval,reduceCtorEq,Nat.reduceEqDiff,h0,h1,h6,h7,h16,h17,hH];refine au ((zC b i (by omega))) (by first|rfl|(simp only[aH,bn,aB,aI,aA,Nat.reduceEqDiff,↓reduceIte,h0,h1,h6,h7,h16,h17,hH];rfl)) (by simp) ?_;simp (disch:=omega) only[wt,seval,reduceCtorEq,Nat.reduceEqDiff,h0,h1,h6,h7,h16,h17,hH];have hx:=ha.get i;have hy:=hb.get i;refine au ((VY (a.getD i 0) (b.getD i 0) c hx hy hc)) (by first|rfl|(simp only[aH,bn,aB,aI,aA,Nat.reduceEqDiff,↓reduceIte,h0,h1,h6,h7,h16,h17,hH];rfl)) (by simp) ?_;simp (disch:=omega) only[wt,seval,reduceCtorEq,Nat.reduceEqDiff,h0,h1,h6,h7,h16,h17,hH];refine⟨⟨i+1,_,out.set i _,st,by omega,?_,hO.set (Nat.mod_lt _ (by decide)),by simp[hOl],?_,rfl,rfl,by omega,rfl⟩,by omega⟩
  .split<;>omega
  .simp only[nv]at *;rw[dW W (by omega),Nat.pow_succ,dn,dn];refine OQ hOv ?_;simp only[W]at *;split<;>omega
 .simp (disch:=omega) only[wt,seval,reduceCtorEq,Nat.reduceEqDiff,h0,h1,h6,h7,h16,h17,hH];have hin:i=n:=by omega
  subst hin;rw[List.take_of_length_le (by omega),List.take_of_length_le (by omega),List.take_of_length_le (by omega)]at hOv;have h3:=jm hO;rw[hOl]at h3;have h4:=jm ha;have h5:=jm hb;have h6:W^a.length<=W^i:=Nat.pow_le_pow_right (by decide) (by omega);have h7:W^b.length<=W^i:=Nat.pow_le_pow_right (by decide) (by omega);have e:c=if nv a<nv b then 1 else 0:=by
   have:c=0\/c=1:=by omega
   rcases this with rfl|rfl<;>split<;>omega
  rw[<-pK hO hOl (s:=nv a+W^i-nv b) ?_,<-e]
  .exact⟨rfl,rfl⟩
  .have:c=0\/c=1:=by omega
   rcases this with rfl|rfl
   .rw[show nv a+W^i-nv b=nv out+W^i*1 by omega,Nat.add_mul_mod_self_left,Nat.mod_eq_of_lt h3]
   .rw[show nv a+W^i-nv b=nv out by omega,Nat.mod_eq_of_lt h3]
theorem sZ (a b:List Nat)(ha:Lim a)(hb:Lim b)(hla:a.length<=2^40)(hlb:b.length<=2^40) :
  AC Tryz.prog 67 [cl a,cl b] none [cl (wd (nv a+nv b))]:=by
 refine AC.aF (rs:=[.tmp 4]) bM Tryz.func67 (by rfl) (by rfl) (by rfl) (by rfl) (by rfl) ?_;simp (disch:=omega) only[wt,seval,reduceCtorEq,Nat.reduceEqDiff];refine au ((a7k a b ha hb hla hlb)) (by rfl) (by simp) ?_;simp (disch:=omega) only[wt,seval,reduceCtorEq,Nat.reduceEqDiff];generalize hn:max a.length b.length=n at *;refine au ((qO (pad n (nv a+nv b)) (by rw[jT];omega))) (by first|rfl|(simp only[aH,bn,aB,aI,aA,Nat.reduceEqDiff,↓reduceIte,jT];rfl)) (by simp) ?_;simp (disch:=omega) only[wt,seval,reduceCtorEq,Nat.reduceEqDiff,jT];have hc:(nv a+nv b)/W^n<W:=by
  rw[Nat.div_lt_iff_lt_mul (fK n)];have h4:=jm ha;have h5:=jm hb;have h6:W^a.length<=W^n:=Nat.pow_le_pow_right (by decide) (by omega);have h7:W^b.length<=W^n:=Nat.pow_le_pow_right (by decide) (by omega);have:2*W^n<=W*W^n:=Nat.mul_le_mul_right _ (by decide);omega
 have e:nv (pad n (nv a+nv b)++[(nv a+nv b)/W^n])=nv a+nv b:=by
  rw[NT,sV,jT];exact Nat.mod_add_div _ _
 have:=EN (pad n (nv a+nv b)++[(nv a+nv b)/W^n]) ((oq _ _).append (Lim.cons hc Lim.nil)) (by simp[jT];omega);rw[e]at this;refine au (this) (by rfl) (by simp) ?_;simp (disch:=omega) only[wt,seval,reduceCtorEq,Nat.reduceEqDiff]
theorem NV (a b:List Nat)(ha:Lim a)(hb:Lim b)(hla:a.length<=2^40)(hlb:b.length<=2^40) :
  AC Tryz.prog 108 [cl a,cl b] none [cl (if nv a<nv b then [] else wd (nv a-nv b)),ci (if nv a<nv b then 2 else 0)]:=by
 refine AC.aF (rs:=[.tmp 4,.tmp 5]) bM Tryz.func108 (by rfl) (by rfl) (by rfl) (by rfl) (by rfl) ?_;simp (disch:=omega) only[wt,seval,reduceCtorEq,Nat.reduceEqDiff];refine au ((a6X a b ha hb hla hlb)) (by rfl) (by simp) ?_;simp (disch:=omega) only[wt,seval,reduceCtorEq,Nat.reduceEqDiff];generalize hn:max a.length b.length=n at *;by_cases h:nv a<nv b
 .simp (disch:=omega) only[wt,seval,reduceCtorEq,Nat.reduceEqDiff,h]
 .simp (disch:=omega) only[wt,seval,reduceCtorEq,Nat.reduceEqDiff,h];have h4:=jm ha;have h6:W^a.length<=W^n:=Nat.pow_le_pow_right (by decide) (by omega);have e:nv (pad n (nv a+W^n-nv b))=nv a-nv b:=by
   rw[sV,show nv a+W^n-nv b=(nv a-nv b)+W^n by omega,Nat.add_mod_right,Nat.mod_eq_of_lt (by omega)]
  have:=EN (pad n (nv a+W^n-nv b)) (oq _ _) (by simp[jT];omega);rw[e]at this;refine au (this) (by first|rfl|(simp only[aH,bn,aB,aI,aA,Nat.reduceEqDiff,↓reduceIte,h];rfl)) (by simp) ?_;simp (disch:=omega) only[wt,seval,reduceCtorEq,Nat.reduceEqDiff,h]
theorem a1Y (a b:List Nat)(ha:Lim a)(hb:Lim b)(hla:a.length<=2^40)(hlb:b.length<=2^40) :
  AC Tryz.prog 78 [cl a,cl b] none [cl (wd (if nv a<nv b then nv b-nv a else nv a-nv b)),.iv (.bool (decide (nv a<nv b)))]:=by
 refine AC.aF (rs:=[.tmp 4,.tmp 5]) bM Tryz.func78 (by rfl) (by rfl) (by rfl) (by rfl) (by rfl) ?_;simp (disch:=omega) only[wt,seval,reduceCtorEq,Nat.reduceEqDiff];refine au ((NV a b ha hb hla hlb)) (by rfl) (by simp) ?_;simp (disch:=omega) only[wt,seval,reduceCtorEq,Nat.reduceEqDiff];by_cases h:nv a<nv b
 .have h':¬nv b<nv a:=by omega
  simp (disch:=omega) only[wt,seval,reduceCtorEq,Nat.reduceEqDiff,h];refine au ((NV b a hb ha hlb hla)) (by first|rfl|(simp only[aH,bn,aB,aI,aA,Nat.reduceEqDiff,↓reduceIte,h,h'];rfl)) (by simp) ?_;simp (disch:=omega) only[wt,seval,reduceCtorEq,Nat.reduceEqDiff,h,h']
 .simp (disch:=omega) only[wt,seval,reduceCtorEq,Nat.reduceEqDiff,h]
abbrev cb (b:Bool):CV:=.iv (.bool b)
abbrev cr (c:RI):CV:=.agg (je c)
abbrev cz (z:Int):CV:=.agg (je (canon z))
theorem mP (s:Bool)(n:Nat):AC Tryz.prog 36 [cb s,cl (wd n)] none [cz (sg s n)]:=by
 refine AC.aF (rs:=[.cell 4 29]) bM Tryz.func36 (by rfl) (by rfl) (by rfl) (by rfl) (by rfl) ?_;have hz:(0<((wd n).length:Int))↔n≠0:=by have:=ku (n:=n);omega
 cases s
 .simp (disch:=omega) only[wt,seval,reduceCtorEq,Nat.reduceEqDiff];rw[Sj];rfl
 .simp (disch:=omega) only[wt,seval,reduceCtorEq,Nat.reduceEqDiff];rw[Sj];have h':decide (0<(wd n).length)=decide (n≠0):=by rw[decide_eq_decide];omega
  simp[je,splice,h']
theorem pX (c:RI)(h:Sz (2^40) c):AC Tryz.prog 49 [cr c] none [cz (iv c)]:=by
 refine AC.aF (rs:=[.cell 2 29]) bM Tryz.func49 (by rfl) (by rfl) (by rfl) (by rfl) (by rfl) ?_;have hl:=h.1;simp (disch:=omega) only[wt,seval,reduceCtorEq,Nat.reduceEqDiff];refine .inl ⟨aZ (by kernel_rfl),?_⟩;refine au ((kG c.2 h.2 (by omega))) (by rfl) (by simp) ?_;simp (disch:=omega) only[wt,seval,reduceCtorEq,Nat.reduceEqDiff];refine au ((mP c.1 (nv c.2))) (by rfl) (by simp) ?_;simp (disch:=omega) only[wt,seval,reduceCtorEq,Nat.reduceEqDiff]
 first|exact aN (by kernel_rfl)|refine⟨aN (by kernel_rfl),?_⟩
 rfl
theorem Gt (z:Int):z.sign=if z<0 then -1 else if 0<(zl z:Int) then 1 else 0:=by
 by_cases h:z<0
 .rw[if_pos h];exact Int.sign_eq_neg_one_of_neg h
 .rw[if_neg h];have:=ku (n:=z.natAbs);by_cases h0:z=0
  .subst h0;simp[fA]
  .rw[if_pos (by unfold zl;omega)];exact Int.sign_eq_one_of_pos (by omega)
theorem fM (c:RI)(h:Sz (2^40) c):AC Tryz.prog 29 [cr c] none [ci (iv c).sign]:=by
 refine AC.aF (rs:=[.tmp 2]) bM Tryz.func29 (by rfl) (by rfl) (by rfl) (by rfl) (by rfl) ?_;simp (disch:=omega) only[wt,seval,reduceCtorEq,Nat.reduceEqDiff];refine au ((pX c h)) (by rfl) (by simp) ?_;simp (disch:=omega) only[wt,seval,reduceCtorEq,Nat.reduceEqDiff];rw[Gt];refine bU (λhn=>?_) (λhn=>?_)
 .simp (disch:=omega) only[wt,seval,reduceCtorEq,Nat.reduceEqDiff,hn]
 .simp (disch:=omega) only[wt,seval,reduceCtorEq,Nat.reduceEqDiff,hn];refine bU (λhp=>?_) (λhp=>?_)
  .simp (disch:=omega) only[wt,seval,reduceCtorEq,Nat.reduceEqDiff,hp,zl]
  .simp (disch:=omega) only[wt,seval,reduceCtorEq,Nat.reduceEqDiff,hp,zl]
theorem rP (a b:RI)(ha:Sz (2^40) a)(hb:Sz (2^40) b):AC Tryz.prog 45 [cr a,cr b] none [cz (iv a+iv b)]:=by
 refine AC.aF (rs:=[.cell 4 29]) bM Tryz.func45 (by rfl) (by rfl) (by rfl) (by rfl) (by rfl) ?_;have hla:=ha.1;have hlb:=hb.1;simp (disch:=omega) only[wt,seval,reduceCtorEq,Nat.reduceEqDiff];refine a7r (λhe=>?_) (λhe=>?_)
 .have he:a.1=b.1:=by simpa using he
  rw[O9 he];simp (disch:=omega) only[wt,seval,reduceCtorEq,Nat.reduceEqDiff];refine .inl ⟨aZ (by kernel_rfl),?_⟩;refine au ((sZ a.2 b.2 ha.2 hb.2 (by omega) (by omega))) (by rfl) (by simp) ?_;simp (disch:=omega) only[wt,seval,reduceCtorEq,Nat.reduceEqDiff];refine au ((mP a.1 (nv a.2+nv b.2))) (by rfl) (by simp) ?_;simp (disch:=omega) only[wt,seval,reduceCtorEq,Nat.reduceEqDiff]
  first|exact aN (by kernel_rfl)|refine⟨aN (by kernel_rfl),?_⟩
 .have he:a.1≠b.1:=by simpa using he
  rw[Oa he];simp (disch:=omega) only[wt,seval,reduceCtorEq,Nat.reduceEqDiff];refine au ((a1Y a.2 b.2 ha.2 hb.2 (by omega) (by omega))) (by rfl) (by simp) ?_;simp (disch:=omega) only[wt,seval,reduceCtorEq,Nat.reduceEqDiff];refine au ((mP (a.1 != decide (nv a.2<nv b.2)) (if nv a.2<nv b.2 then nv b.2-nv a.2 else nv a.2-nv b.2))) (by rfl) (by simp) ?_;simp (disch:=omega) only[wt,seval,reduceCtorEq,Nat.reduceEqDiff]
theorem XY (l:List Nat)(n:Nat)(h:Lim l)(hl:l.length<=2^40)(hn:n<=2^40):AC Tryz.prog 157 [cl l,ci n] none [cl (wd (nv l/W^n)),cl (wd (nv l%W^n))]:=by
 refine AC.aF (rs:=[.tmp 4,.tmp 5]) bM Tryz.func157 (by rfl) (by rfl) (by rfl) (by rfl) (by rfl) ?_;rw[<-XA h,<-CJ h];simp (disch:=omega) only[wt,seval,reduceCtorEq,Nat.reduceEqDiff];have e:min (n:Int) (l.length:Int)=((min n l.length:Nat):Int):=by omega
 rw[e];simp (disch:=omega) only[wt,seval,reduceCtorEq,Nat.reduceEqDiff];refine .inl ⟨aZ (by kernel_rfl),?_⟩;have e1:(l.drop (min n l.length)).take ((l.length:Int)-((min n l.length:Nat):Int)).toNat=l.drop n:=by
  rw[List.take_of_length_le (by rw[List.length_drop];omega)];by_cases hc:n<=l.length
  .rw[Nat.min_eq_left hc]
  .rw[Nat.min_eq_right (by omega),List.drop_of_length_le (by omega),List.drop_of_length_le (by omega)]
 have e2:l.take (min n l.length)=l.take n:=by
  by_cases hc:n<=l.length
  .rw[Nat.min_eq_left hc]
  .rw[Nat.min_eq_right (by omega),List.take_of_length_le (by omega),List.take_of_length_le (by omega)]
 rw[e1];refine au ((kG (l.drop n) (h.drop n) (by rw[List.length_drop];omega))) (by rfl) (by simp) ?_;simp (disch:=omega) only[wt,seval,reduceCtorEq,Nat.reduceEqDiff];rw[e2];refine au ((kG (l.take n) (h.take n) (by rw[List.length_take];omega))) (by rfl) (by simp) ?_;simp (disch:=omega) only[wt,seval,reduceCtorEq,Nat.reduceEqDiff]
 first|exact aN (by kernel_rfl)|refine⟨aN (by kernel_rfl),?_⟩
theorem Y7 (l:List Nat)(n:Nat)(hl:l.length<=2^40)(hn:n<=2^40):AC Tryz.prog 158 [cl l,ci n] none [cl (Eb n l)]:=by
 refine AC.aF (rs:=[.tmp 4]) bM Tryz.func158 (by rfl) (by rfl) (by rfl) (by rfl) (by rfl) ?_;unfold Eb;simp (disch:=omega) only[wt,seval,reduceCtorEq,Nat.reduceEqDiff];refine bU (λhz=>?_) (λhz=>?_)
 .have hz:l.length=0:=by omega
  simp (disch:=omega) only[wt,seval,reduceCtorEq,Nat.reduceEqDiff,hz]
 .have hz:¬l.length=0:=by omega
  simp (disch:=omega) only[wt,seval,reduceCtorEq,Nat.reduceEqDiff,hz]
def MH (x y:Nat):Prop:=AC Tryz.prog 109 [cl (wd x),cl (wd y)] none [cl (wd (x*y))]
theorem Yp (x y:Nat)(m:Nat)(hm:m=((wd y).length+1)/2)(ih:∀u v,(wd u).length<=m+1->(wd v).length<=m+1->MH u v)(hxy:(wd x).length<=(wd y).length)(hl:(wd y).length<=2^36) :
  AC Tryz.prog 134 [cl (wd x),cl (wd y)] none [cl (wd (x*y))]:=by
 refine AC.aF (rs:=[.tmp 4]) bM Tryz.func134 (by rfl) (by rfl) (by rfl) (by rfl) (by rfl) ?_;have hq:Int.tdiv ((wd y).length+1:Int) 2=(m:Int):=by rw[Int.tdiv_eq_ediv_of_nonneg (by omega)];omega
 have hlt:∀z,(wd z).length<=2*m->(wd (z/W^m)).length<=m/\(wd (z%W^m)).length<=m:=by
  intro z hz;refine⟨dH.mpr ?_,dH.mpr (Nat.mod_lt _ (fK m))⟩;rw[Nat.div_lt_iff_lt_mul (fK m),<-Nat.pow_add,<-Nat.two_mul];exact dH.mp hz
 obtain⟨hx1,hx0⟩:=hlt x (by omega);obtain⟨hy1,hy0⟩:=hlt y (by omega);obtain⟨hk,hle⟩:=b5q x y (W^m) (fK m) _ _ _ _ rfl rfl rfl rfl;simp (disch:=omega) only[wt,seval,reduceCtorEq,Nat.reduceEqDiff,hq];have c1:=XY (wd x) m (bY x) (by omega) (by omega);have c2:=XY (wd y) m (bY y) (by omega) (by omega);rw[dU]at c1 c2;refine au (c1) (by rfl) (by simp) ?_;simp (disch:=omega) only[wt,seval,reduceCtorEq,Nat.reduceEqDiff];refine au (c2) (by rfl) (by simp) ?_;simp (disch:=omega) only[wt,seval,reduceCtorEq,Nat.reduceEqDiff];generalize x/W^m=x1 at *;generalize x%W^m=x0 at *;generalize y/W^m=y1 at *;generalize y%W^m=y0 at *;have p1:=ih x1 y1 (by omega) (by omega);have p0:=ih x0 y0 (by omega) (by omega);have ax:=uz x1 x0;have ay:=uz y1 y0;have pm:=ih (x1+x0) (y1+y0) (by omega) (by omega);unfold MH at p1 p0 pm;have l1:=mF x1 y1;have l0:=mF x0 y0;have lm:=mF (x1+x0) (y1+y0);refine au (p1) (by rfl) (by simp) ?_;simp (disch:=omega) only[wt,seval,reduceCtorEq,Nat.reduceEqDiff];refine au (p0) (by rfl) (by simp) ?_;simp (disch:=omega) only[wt,seval,reduceCtorEq,Nat.reduceEqDiff];have s1:=sZ (wd x1) (wd x0) (bY _) (bY _) (by omega) (by omega);have s2:=sZ (wd y1) (wd y0) (bY _) (bY _) (by omega) (by omega);have s3:=sZ (wd (x1*y1)) (wd (x0*y0)) (bY _) (bY _) (by omega) (by omega);simp only[dU]at s1 s2 s3;have ls:=uz (x1*y1) (x0*y0);refine au (s1) (by rfl) (by simp) ?_;simp (disch:=omega) only[wt,seval,reduceCtorEq,Nat.reduceEqDiff];refine au (s2) (by rfl) (by simp) ?_;simp (disch:=omega) only[wt,seval,reduceCtorEq,Nat.reduceEqDiff];refine au (pm) (by rfl) (by simp) ?_;simp (disch:=omega) only[wt,seval,reduceCtorEq,Nat.reduceEqDiff];refine au (s3) (by rfl) (by simp) ?_;simp (disch:=omega) only[wt,seval,reduceCtorEq,Nat.reduceEqDiff];have s4:=NV (wd ((x1+x0)*(y1+y0))) (wd (x1*y1+x0*y0)) (bY _) (bY _) (by omega) (by omega);simp only[dU,if_neg (Nat.not_lt.mpr hle)]at s4;refine au (s4) (by rfl) (by simp) ?_;simp (disch:=omega) only[wt,seval,reduceCtorEq,Nat.reduceEqDiff];generalize hM:(x1+x0)*(y1+y0)-(x1*y1+x0*y0)=M at *;have lM:(wd M).length<=(wd ((x1+x0)*(y1+y0))).length:=fB (by omega);have e2m:(2:Int)*(m:Int)=((2*m:Nat):Int):=by omega
 rw[e2m];refine au ((Y7 (wd (x1*y1)) (2*m) (by omega) (by omega))) (by rfl) (by simp) ?_;simp (disch:=omega) only[wt,seval,reduceCtorEq,Nat.reduceEqDiff];refine au ((Y7 (wd M) m (by omega) (by omega))) (by rfl) (by simp) ?_;simp (disch:=omega) only[wt,seval,reduceCtorEq,Nat.reduceEqDiff];have ll1:=KL (2*m) (wd (x1*y1));have ll2:=KL m (wd M);have s5:=sZ (Eb (2*m) (wd (x1*y1))) (Eb m (wd M)) (KJ _ (bY _)) (KJ _ (bY _)) (by omega) (by omega);rw[QG,QG,dU,dU]at s5;refine au (s5) (by rfl) (by simp) ?_;simp (disch:=omega) only[wt,seval,reduceCtorEq,Nat.reduceEqDiff];have b5X:=mF x y;have e5:W^(2*m)*(x1*y1)+W^m*M+x0*y0=x*y:=by
  rw[<-hk,Nat.two_mul,Nat.pow_add]
 have s6:=sZ (wd (W^(2*m)*(x1*y1)+W^m*M)) (wd (x0*y0)) (bY _) (bY _) (Nat.le_trans (fB (Nat.le.intro e5)) (by omega)) (by omega);rw[dU,dU,e5]at s6;refine au (s6) (by rfl) (by simp) ?_;simp (disch:=omega) only[wt,seval,reduceCtorEq,Nat.reduceEqDiff]
theorem U3:∀(n x y:Nat),max (wd x).length (wd y).length<=n->(wd x).length<=2^36->(wd y).length<=2^36->MH x y:=by
 intro n
 induction n using Nat.strongRecOn with
 |_ n ih =>
 intro x y hn hx hy;unfold MH;refine AC.aF (rs:=[.tmp 4]) bM Tryz.func109 (by rfl) (by rfl) (by rfl) (by rfl) (by rfl) ?_;simp (disch:=omega) only[wt,seval,reduceCtorEq,Nat.reduceEqDiff];refine zN (λf H=>∃u v,(wd u).length<=(wd v).length/\(wd v).length<=2^36/\(wd v).length<=n/\u*v=x*y/\f 0=.iv (.sl (dJ (wd u)))/\f 1=.iv (.sl (dJ (wd v)))) ?_ ?_
 .refine bU (λhz=>?_) (λhz=>?_)
  .simp (disch:=omega) only[wt,seval,reduceCtorEq,Nat.reduceEqDiff];exact⟨y,x,by omega,by omega,by omega,Nat.mul_comm _ _,rfl,rfl⟩
  .simp (disch:=omega) only[wt,seval,reduceCtorEq,Nat.reduceEqDiff];exact⟨x,y,by omega,by omega,by omega,rfl,rfl,rfl⟩
 rintro f H ⟨u,v,huv,hv,hvn,e,h0,h1⟩;rw[<-e];clear e hn hx hy;have hu:(wd u).length<=2^36:=by omega
 simp (disch:=omega) only[wt,seval,reduceCtorEq,Nat.reduceEqDiff,h0,h1];refine bU (λhz=>?_) (λhz=>?_)
 .have hz:u=0:=ku.mp (by omega);subst hz;simp (disch:=omega) only[wt,seval,reduceCtorEq,Nat.reduceEqDiff,Nat.zero_mul,pY]
 simp (disch:=omega) only[wt,seval,reduceCtorEq,Nat.reduceEqDiff,h0,h1];refine bU (λhz=>?_) (λhz=>?_)
 .simp (disch:=omega) only[wt,seval,reduceCtorEq,Nat.reduceEqDiff,h0,h1];refine au ((Yp u v (((wd v).length+1)/2) rfl (λa b ha hb=>ih (((wd v).length+1)/2+1) (by omega) a b (by omega) (by omega) (by omega)) huv hv)) (by first|rfl|(simp only[aH,bn,aB,aI,aA,Nat.reduceEqDiff,↓reduceIte,h0,h1];rfl)) (by simp) ?_;simp (disch:=omega) only[wt,seval,reduceCtorEq,Nat.reduceEqDiff,h0,h1]
 simp (disch:=omega) only[wt,seval,reduceCtorEq,Nat.reduceEqDiff,h0,h1];generalize hA:wd u=A at *;generalize hB:wd v=B at *;have lA:Lim A:=by rw[<-hA];exact bY u
 have lB:Lim B:=by rw[<-hB];exact bY v
 have eA:nv A=u:=by rw[<-hA];exact dU u
 have eB:nv B=v:=by rw[<-hB];exact dU v
 have eN:((A.length:Int)+(B.length:Int))=((A.length+B.length:Nat):Int):=by omega
 rw[eN];simp (disch:=omega) only[wt,seval,reduceCtorEq,Nat.reduceEqDiff,h0,h1];refine bF (λf H=>∃(i:Nat) (out:List Nat) (st:Nat),i<=A.length/\Lim out/\out.length=A.length+B.length/\nv (out.take (i+B.length))=nv (A.take i)*nv B /\
  f 1=.iv (.sl (dJ B))/\f 5=.hs 34 st/\f 35=.iv (.sl (dJ A))/\f 36=.iv (.int .i64 A.length)/\f 37=.iv (.int .i64 i)/\H 34=.blk false st 73 1 (dJ out)) (λf H=>(A.length-dQ f 37).toNat) ?_ ?_
 .refine⟨0,List.replicate (A.length+B.length) 0,(H 34).stamp+1,by omega,Lim.replicate _,by simp,?_,by simp (disch:=omega) only[wt,seval,reduceCtorEq,Nat.reduceEqDiff,h1],by simp (disch:=omega) only[wt,seval,reduceCtorEq,Nat.reduceEqDiff],by simp (disch:=omega) only[wt,seval,reduceCtorEq,Nat.reduceEqDiff,h0],by simp (disch:=omega) only[wt,seval,reduceCtorEq,Nat.reduceEqDiff,h0],by simp (disch:=omega) only[wt,seval,reduceCtorEq,Nat.reduceEqDiff],by simp (disch:=omega) only[wt,seval,reduceCtorEq,Nat.reduceEqDiff,Int.toNat_natCast]⟩;rw[List.take_replicate,Nat.zero_add];simp[nv,nU,vl]
 clear h0 h1;rintro f H ⟨i,out,st,hi,hO,hOl,hOv,h1,h5,h35,h36,h37,hH⟩;rw[bC h37];simp (disch:=omega) only[wt,seval,reduceCtorEq,Nat.reduceEqDiff,h1,h5,h35,h36,h37,hH];refine bU (λhlt=>?_) (λhlt=>?_)
 .simp (disch:=omega) only[wt,seval,reduceCtorEq,Nat.reduceEqDiff,h1,h5,h35,h36,h37,hH];refine bF (λf H=>∃(j c:Nat) (out:List Nat) (st:Nat),j<=B.length/\c<W/\Lim out/\out.length=A.length+B.length/\nv (out.take (i+B.length))+W^(i+j)*c=nv (A.take i)*nv B+(W^i*A.getD i 0)*nv (B.take j) /\
   f 1=.iv (.sl (dJ B))/\f 5=.hs 34 st/\f 6=.iv (.int .i64 i)/\f 7=.iv (.int .u64 (A.getD i 0:Nat))/\f 8=.iv (.int .u64 c)/\f 35=.iv (.sl (dJ A))/\f 36=.iv (.int .i64 A.length)/\f 37=.iv (.int .i64 i)/\f 42=.iv (.sl (dJ B))/\f 43=.iv (.int .i64 B.length)/\f 44=.iv (.int .i64 j)/\H 34=.blk false st 73 1 (dJ out)) (λf H=>(B.length-dQ f 44).toNat) ?_ ?_
  .refine⟨0,0,out,st,by omega,by decide,hO,hOl,?_,by simp (disch:=omega) only[wt,seval,reduceCtorEq,Nat.reduceEqDiff,h1],by simp (disch:=omega) only[wt,seval,reduceCtorEq,Nat.reduceEqDiff,h5],by simp (disch:=omega) only[wt,seval,reduceCtorEq,Nat.reduceEqDiff],by simp (disch:=omega) only[wt,seval,reduceCtorEq,Nat.reduceEqDiff],by simp (disch:=omega) only[wt,seval,reduceCtorEq,Nat.reduceEqDiff],by simp (disch:=omega) only[wt,seval,reduceCtorEq,Nat.reduceEqDiff,h35],by simp (disch:=omega) only[wt,seval,reduceCtorEq,Nat.reduceEqDiff,h36],by simp (disch:=omega) only[wt,seval,reduceCtorEq,Nat.reduceEqDiff,h37],by simp (disch:=omega) only[wt,seval,reduceCtorEq,Nat.reduceEqDiff],by simp (disch:=omega) only[wt,seval,reduceCtorEq,Nat.reduceEqDiff],by simp (disch:=omega) only[wt,seval,reduceCtorEq,Nat.reduceEqDiff],by simp (disch:=omega) only[wt,seval,reduceCtorEq,Nat.reduceEqDiff,hH]⟩;rw[hOv];simp[nv,vl]
  have hAi:=lA.get i;clear h1 h5 h35 h36 h37 hH hOv hO hOl;clear out st f H;rintro f H ⟨j,c,out,st,hj,hc,hO,hOl,hOv,h1,h5,h6,h7,h8,h35,h36,h37,h42,h43,h44,hH⟩;rw[bC h44];simp (disch:=omega) only[wt,seval,reduceCtorEq,Nat.reduceEqDiff,h1,h5,h6,h7,h8,h35,h36,h37,h42,h43,h44,hH];refine bU (λhlj=>?_) (λhlj=>?_)
  .simp (disch:=omega) only[wt,seval,reduceCtorEq,Nat.reduceEqDiff,h1,h5,h6,h7,h8,h35,h36,h37,h42,h43,h44,hH];have eij:(i:Int)+(j:Int)=((i+j:Nat):Int):=by omega
   rw[eij];simp (disch:=omega) only[wt,seval,reduceCtorEq,Nat.reduceEqDiff,h1,h5,h6,h7,h8,h35,h36,h37,h42,h43,h44,hH];have hBj:=lB.get j;have b5J:=hO.get (i+j);refine au ((XL (B.getD j 0) (A.getD i 0) c (out.getD (i+j) 0) hBj hAi hc b5J)) (by first|rfl|(simp only[aH,bn,aB,aI,aA,Nat.reduceEqDiff,↓reduceIte,h1,h5,h6,h7,h8,h35,h36,h37,h42,h43,h44,hH];rfl)) (by simp) ?_;simp (disch:=omega) only[wt,seval,reduceCtorEq,Nat.reduceEqDiff,h1,h5,h6,h7,h8,h35,h36,h37,h42,h43,h44,hH];have hm:B.getD j 0*A.getD i 0<=18446744073709551615*18446744073709551615:=Nat.mul_le_mul (by simp only[W]at hBj;omega) (by simp only[W]at hAi;omega);refine⟨⟨j+1,(B.getD j 0*A.getD i 0+c+out.getD (i+j) 0)/W,out.set (i+j) ((B.getD j 0*A.getD i 0+c+out.getD (i+j) 0)%W),st,by omega,by simp only[W]at *;omega,hO.set (Nat.mod_lt _ (by decide)),by simp[hOl],?_,rfl,rfl,by omega,rfl⟩,by omega⟩;have hT:=NU (l:=out) (k:=i+j) (m:=i+B.length) (by omega) (by omega) ((B.getD j 0*A.getD i 0+c+out.getD (i+j) 0)%W);have hN:nv (B.take (j+1))=nv (B.take j)+W^j*B.getD j 0:=dn W B j;rw[hN,Nat.mul_add,<-Nat.add_assoc i j 1,Nat.pow_succ];have hR:=row_step (A:=B.getD j 0*A.getD i 0) (hi:=(B.getD j 0*A.getD i 0+c+out.getD (i+j) 0)/W) hOv hT (by rw[Nat.mul_comm];exact Nat.div_add_mod _ _);rw[hR]
   congr 2
   rw[Nat.pow_add];ac_rfl
  .simp (disch:=omega) only[wt,seval,reduceCtorEq,Nat.reduceEqDiff,h1,h5,h6,h7,h8,h35,h36,h37,h42,h43,h44,hH];have hjB:j=B.length:=by omega
   subst hjB;have eij:(i:Int)+(B.length:Int)=((i+B.length:Nat):Int):=by omega
   rw[eij];simp (disch:=omega) only[wt,seval,reduceCtorEq,Nat.reduceEqDiff,h1,h5,h6,h7,h8,h35,h36,h37,h42,h43,h44,hH];refine⟨⟨i+1,out.set (i+B.length) c,st,by omega,hO.set hc,by simp[hOl],?_,rfl,by omega,rfl⟩,by omega⟩;rw[show i+1+B.length=(i+B.length)+1 by omega];have hT:nv ((out.set (i+B.length) c).take (i+B.length+1))=nv (out.take (i+B.length))+W^(i+B.length)*c:=dW W (by omega) c;have hN:nv (A.take (i+1))=nv (A.take i)+W^i*A.getD i 0:=dn W A i;rw[List.take_length]at hOv;rw[hT,hOv,hN,Nat.add_mul]
 .simp (disch:=omega) only[wt,seval,reduceCtorEq,Nat.reduceEqDiff,h1,h5,h35,h36,h37,hH];have hiA:i=A.length:=by omega
  subst hiA;rw[List.take_of_length_le (by omega),List.take_of_length_le (by omega),eA,eB]at hOv;have t:=Gf out (by omega);rw[<-a0B hO,hOv]at t;refine au (t) (by first|rfl|(simp only[aH,bn,aB,aI,aA,Nat.reduceEqDiff,↓reduceIte,h1,h5,h35,h36,h37,hH];rfl)) (by simp) ?_;simp (disch:=omega) only[wt,seval,reduceCtorEq,Nat.reduceEqDiff,h1,h5,h35,h36,h37,hH]
theorem a6V (a b:List Nat)(ha:Lim a)(hb:Lim b)(hla:a.length<=2^36)(hlb:b.length<=2^36):AC Tryz.prog 79 [cl a,cl b] none [cl (wd (nv a*nv b))]:=by
 refine AC.aF (rs:=[.tmp 4]) bM Tryz.func79 (by rfl) (by rfl) (by rfl) (by rfl) (by rfl) ?_;have h1:=lF ha;have h2:=lF hb;simp (disch:=omega) only[wt,seval,reduceCtorEq,Nat.reduceEqDiff];refine au ((kG a ha (by omega))) (by rfl) (by simp) ?_;simp (disch:=omega) only[wt,seval,reduceCtorEq,Nat.reduceEqDiff];refine au ((kG b hb (by omega))) (by rfl) (by simp) ?_;simp (disch:=omega) only[wt,seval,reduceCtorEq,Nat.reduceEqDiff];have p:=U3 _ (nv a) (nv b) (Nat.le_refl _) (by omega) (by omega);unfold MH at p;refine au (p) (by rfl) (by simp) ?_;simp (disch:=omega) only[wt,seval,reduceCtorEq,Nat.reduceEqDiff]
theorem jM (a b:RI)(ha:Sz (2^36) a)(hb:Sz (2^36) b):AC Tryz.prog 46 [cr a,cr b] none [cz (iv a*iv b)]:=by
 refine AC.aF (rs:=[.cell 4 29]) bM Tryz.func46 (by rfl) (by rfl) (by rfl) (by rfl) (by rfl) ?_;rw[b0E];have h1:=ha.1;have h2:=hb.1;simp (disch:=omega) only[wt,seval,reduceCtorEq,Nat.reduceEqDiff];refine .inl ⟨aZ (by kernel_rfl),?_⟩;refine au ((a6V a.2 b.2 ha.2 hb.2 (by omega) (by omega))) (by rfl) (by simp) ?_;simp (disch:=omega) only[wt,seval,reduceCtorEq,Nat.reduceEqDiff];have hb:(!(a.1 == b.1))=(a.1 != b.1):=rfl;rw[hb];refine au ((mP (a.1 != b.1) (nv a.2*nv b.2))) (by rfl) (by simp) ?_;simp (disch:=omega) only[wt,seval,reduceCtorEq,Nat.reduceEqDiff]
 first|exact aN (by kernel_rfl)|refine⟨aN (by kernel_rfl),?_⟩
abbrev cw (p:List RI):CV:=.iv (.sl (gZ p))
abbrev cp (q:List Int):CV:=.iv (.sl (dY q))
theorem vg {p q:List Int}(h:∀k,cf p k=cf q k):cp p=cp q:=by unfold cp;rw[xW h]
theorem Jo {n:Int}(h : -9223372036854775808<=n)(h':n<0):IntKind.u64.wrap (0-IntKind.u64.wrap n)=((n.natAbs:Nat):Int):=by
 simp only[IntKind.wrap,IntKind.signed,IntKind.bits,Bool.false_and,Bool.false_eq_true,if_false];omega
theorem Jm {n:Int}(h:0<=n)(h':n<=9223372036854775807):IntKind.u64.wrap n=((n.natAbs:Nat):Int):=by
 simp only[IntKind.wrap,IntKind.signed,IntKind.bits,Bool.false_and,Bool.false_eq_true,if_false];omega
theorem iJ (n:Int)(h : -9223372036854775808<=n)(h':n<=9223372036854775807):AC Tryz.prog 17 [ci n] none [cz n]:=by
 refine AC.aF (rs:=[.cell 2 29]) bM Tryz.func17 (by rfl) (by rfl) (by rfl) (by rfl) (by rfl) ?_;simp (disch:=omega) only[wt,seval,reduceCtorEq,Nat.reduceEqDiff];refine bU (λhn=>?_) (λhn=>?_)
 .simp (disch:=omega) only[wt,seval,reduceCtorEq,Nat.reduceEqDiff];rw[Jo h hn];refine au ((KC n.natAbs (by simp only[W];omega))) (by rfl) (by simp) ?_;simp (disch:=omega) only[wt,seval,reduceCtorEq,Nat.reduceEqDiff];have e:n=sg true n.natAbs:=by unfold sg;simp;omega
  have:=mP true n.natAbs;rw[<-e]at this;refine au (this) (by rfl) (by simp) ?_;simp (disch:=omega) only[wt,seval,reduceCtorEq,Nat.reduceEqDiff]
 .simp (disch:=omega) only[wt,seval,reduceCtorEq,Nat.reduceEqDiff];rw[Jm (by omega) h'];refine au ((KC n.natAbs (by simp only[W];omega))) (by rfl) (by simp) ?_;simp (disch:=omega) only[wt,seval,reduceCtorEq,Nat.reduceEqDiff];have e:n=sg false n.natAbs:=by unfold sg;simp;omega
  have:=mP false n.natAbs;rw[<-e]at this;refine au (this) (by rfl) (by simp) ?_;simp (disch:=omega) only[wt,seval,reduceCtorEq,Nat.reduceEqDiff]
theorem Gp (p:List RI)(h:RP (2^40) (2^40) p):AC Tryz.prog 77 [cw p] none [ci (tz (pv p))]:=by
 refine AC.aF (rs:=[.tmp 2]) bM Tryz.func77 (by rfl) (by rfl) (by rfl) (by rfl) (by rfl) ?_;have hl:=h.1;simp (disch:=omega) only[wt,seval,reduceCtorEq,Nat.reduceEqDiff];refine bF (λf H=>∃k:Nat,k<=p.length/\f 0=.iv (.sl (gZ p))/\f 3=.iv (.int .i64 k)/\tz ((pv p).take k)=tz (pv p)) (λf H=>(dQ f 3).toNat) ?_ ?_
 .exact⟨p.length,Nat.le_refl _,by simp (disch:=omega) only[wt,seval,reduceCtorEq,Nat.reduceEqDiff],by simp (disch:=omega) only[wt,seval,reduceCtorEq,Nat.reduceEqDiff],by rw[<-iK p,List.take_length]⟩
 rintro f H ⟨k,hk,h0,h3,ht⟩;rw[bC h3];by_cases hc:0<(k:Int)
 .simp (disch:=omega) only[wt,seval,reduceCtorEq,Nat.reduceEqDiff,h0,h3,hc];have ek:((k:Int)-1).toNat=k-1:=by omega
  have ek':k=(k-1)+1:=by omega
  rw[ek];refine au ((fM (p.getD (k-1) (false,[])) (h.get _))) (by first|rfl|(simp only[aH,bn,aB,aI,aA,Nat.reduceEqDiff,↓reduceIte,h0,h3,hc];rfl)) (by simp) ?_;simp (disch:=omega) only[wt,seval,reduceCtorEq,Nat.reduceEqDiff,h0,h3,hc];rw[<-rJ];refine bU (λhz=>?_) (λhz=>?_)
  .simp (disch:=omega) only[wt,seval,reduceCtorEq,Nat.reduceEqDiff,h0,h3];refine⟨⟨k-1,by omega,by omega,?_⟩,by omega⟩;rw[<-Ju (k:=k-1) (by rw[iK];omega) (Int.sign_eq_zero_iff_zero.mp hz),<-ek',ht]
  .simp (disch:=omega) only[wt,seval,reduceCtorEq,Nat.reduceEqDiff,h0,h3];rw[<-ht,ek',Na (by rw[iK];omega) (λe=>hz (Int.sign_eq_zero_iff_zero.mpr e))]
 .simp (disch:=omega) only[wt,seval,reduceCtorEq,Nat.reduceEqDiff,h0,h3,hc];obtain rfl:k=0:=by omega
  rw[<-ht];rfl
theorem rW {q:List Int}{k:Nat}(h:k<tz q):(aV q).take (k+1)=(aV q).take k++[cf q k]:=by
 rw[List.take_add_one]
 congr 1
 rw[<-bH];have:k<(aV q).length:=by rw[bI];exact h
 simp[cf,List.getD,this]
theorem gX (p:List RI)(h:RP (2^40) (2^40) p):AC Tryz.prog 44 [cw p] none [cp (pv p)]:=by
 refine AC.aF (rs:=[.tmp 2]) bM Tryz.func44 (by rfl) (by rfl) (by rfl) (by rfl) (by rfl) ?_;have hl:=h.1;have htl:=oI (pv p);rw[iK]at htl;simp (disch:=omega) only[wt,seval,reduceCtorEq,Nat.reduceEqDiff];refine au ((Gp p h)) (by rfl) (by simp) ?_;simp (disch:=omega) only[wt,seval,reduceCtorEq,Nat.reduceEqDiff];refine uo 3 3 29 2 (by simp (disch:=omega) only[wt,seval,reduceCtorEq,Nat.reduceEqDiff]) (λf H=>∃(k st:Nat),k<=tz (pv p)/\f 0=.iv (.sl (gZ p))/\f 3=.hs 3 st/\f 6=.iv (.int .i64 (tz (pv p)))/\f 7=.iv (.int .i64 k)/\H 3=.blk false st 29 2 (gZ (((aV (pv p)).take k).map canon))) (λf H=>(tz (pv p)-dQ f 7).toNat) ?_ ?_
 .refine⟨0,1,by omega,?_⟩;simp (disch:=omega) only[wt,seval,reduceCtorEq,Nat.reduceEqDiff,nH,nG,List.take_zero]
 rintro f H ⟨k,st,hk,h0,h3,h6,h7,hH⟩;rw[bC h7];simp (disch:=omega) only[wt,seval,reduceCtorEq,Nat.reduceEqDiff,h0,h3,h6,h7,hH];refine bU (λhlt=>?_) (λhlt=>?_)
 .simp (disch:=omega) only[wt,seval,reduceCtorEq,Nat.reduceEqDiff,h0,h3,h6,h7,hH];have hq:(((aV (pv p)).take k).map canon).length=k:=by rw[List.length_map,List.length_take,bI];omega
  refine au ((pX (p.getD k (false,[])) (h.get _))) (by first|rfl|(simp only[aH,bn,aB,aI,aA,Nat.reduceEqDiff,↓reduceIte,h0,h3,h6,h7,hH,hq];rfl)) (by simp) ?_;simp (disch:=omega) only[wt,seval,reduceCtorEq,Nat.reduceEqDiff,h0,h3,h6,h7,hH,hq];refine⟨⟨k+1,st+1,by omega,rfl,by omega,?_⟩,by omega⟩;rw[rW (by omega),rJ]
 .simp (disch:=omega) only[wt,seval,reduceCtorEq,Nat.reduceEqDiff,h0,h3,h6,h7,hH];have hk:k=tz (pv p):=by omega
  rw[hk,List.take_of_length_le (by rw[bI];exact Nat.le_refl _)];rfl
theorem a4w (p:List RI)(i:Nat)(hl:p.length<=2^40)(hi:i<=2^40):AC Tryz.prog 150 [cw p,ci i] none [cr (p.getD i (false,[]))]:=by
 refine AC.aF (rs:=[.cell 4 29]) bM Tryz.func150 (by rfl) (by rfl) (by rfl) (by rfl) (by rfl) ?_;have hi0:¬(i:Int)<0:=by omega
 simp (disch:=omega) only[wt,seval,reduceCtorEq,Nat.reduceEqDiff,hi0];refine bU (λhn=>?_) (λhn=>?_)
 .simp (disch:=omega) only[wt,seval,reduceCtorEq,Nat.reduceEqDiff];have e:p.getD i (false,[])=(false,[]):=by rw[List.getD_eq_getElem?_getD,List.getElem?_eq_none (by omega)];rfl
  rw[e]
 .simp (disch:=omega) only[wt,seval,reduceCtorEq,Nat.reduceEqDiff]
theorem Xu (a b:List RI)(ha:RP (2^30) (2^36) a)(hb:RP (2^30) (2^36) b):AC Tryz.prog 126 [cw a,cw b] none [cp (ji (pv a) (pv b))]:=by
 refine AC.aF (rs:=[.tmp 4]) bM Tryz.func126 (by rfl) (by rfl) (by rfl) (by rfl) (by rfl) ?_;have hla:=ha.1;have hlb:=hb.1;simp (disch:=omega) only[wt,seval,reduceCtorEq,Nat.reduceEqDiff];generalize hn:max a.length b.length=n at *;have hnI:max (a.length:Int) (b.length:Int)=(n:Int):=by omega
 rw[hnI];simp (disch:=omega) only[wt,seval,reduceCtorEq,Nat.reduceEqDiff];refine bF (λf H=>∃(i st:Nat) (out:List Int),i<=n/\out.length=n/\(∀k,zl (cf out k)<=2^36+1)/\(∀k,k<i->cf out k=cf (pv a) k+cf (pv b) k) /\
  f 0=.iv (.sl (gZ a))/\f 1=.iv (.sl (gZ b))/\f 5=.hs 12 st/\f 14=.iv (.int .i64 n)/\f 15=.iv (.int .i64 i)/\H 12=.blk false st 29 2 (gZ (out.map canon))) (λf H=>(n-dQ f 15).toNat) ?_ ?_
 .exact⟨0,1,List.replicate n 0,by omega,by simp,λk=>by rw[S9,fA];omega,λk hk=>by omega,by simp (disch:=omega) only[wt,seval,reduceCtorEq,Nat.reduceEqDiff],by simp (disch:=omega) only[wt,seval,reduceCtorEq,Nat.reduceEqDiff],by simp (disch:=omega) only[wt,seval,reduceCtorEq,Nat.reduceEqDiff],by simp (disch:=omega) only[wt,seval,reduceCtorEq,Nat.reduceEqDiff],by simp (disch:=omega) only[wt,seval,reduceCtorEq,Nat.reduceEqDiff],by simp (disch:=omega) only[wt,seval,reduceCtorEq,Nat.reduceEqDiff,Int.toNat_natCast,wS]⟩
 rintro f H ⟨i,st,out,hi,hol,hz,hv,h0,h1,h5,h14,h15,hH⟩;rw[bC h15];simp (disch:=omega) only[wt,seval,reduceCtorEq,Nat.reduceEqDiff,h0,h1,h5,h14,h15,hH];refine bU (λhlt=>?_) (λhlt=>?_)
 .have hq:(out.map canon).length=n:=by rw[List.length_map,hol]
  simp (disch:=omega) only[wt,seval,reduceCtorEq,Nat.reduceEqDiff,h0,h1,h5,h14,h15,hH,hq];refine au ((a4w a i (by omega) (by omega))) (by first|rfl|(simp only[aH,bn,aB,aI,aA,Nat.reduceEqDiff,↓reduceIte,h0,h1,h5,h14,h15,hH,hq];rfl)) (by simp) ?_;simp (disch:=omega) only[wt,seval,reduceCtorEq,Nat.reduceEqDiff,h0,h1,h5,h14,h15,hH,hq];refine au ((a4w b i (by omega) (by omega))) (by first|rfl|(simp only[aH,bn,aB,aI,aA,Nat.reduceEqDiff,↓reduceIte,h0,h1,h5,h14,h15,hH,hq];rfl)) (by simp) ?_;simp (disch:=omega) only[wt,seval,reduceCtorEq,Nat.reduceEqDiff,h0,h1,h5,h14,h15,hH,hq];refine au ((rP (a.getD i (false,[])) (b.getD i (false,[])) ((ha.get i).mono (by omega)) ((hb.get i).mono (by omega)))) (by first|rfl|(simp only[aH,bn,aB,aI,aA,Nat.reduceEqDiff,↓reduceIte,h0,h1,h5,h14,h15,hH,hq];rfl)) (by simp) ?_;simp (disch:=omega) only[wt,seval,reduceCtorEq,Nat.reduceEqDiff,h0,h1,h5,h14,h15,hH,hq];rw[<-rJ,<-rJ];refine⟨⟨i+1,st,out.set i (cf (pv a) i+cf (pv b) i),by omega,by simp[hol],λk=>?_,λk hk=>?_,rfl,by omega,rfl⟩,by omega⟩
  .rw[y5 (by omega)];split
   .have:=nT (cf (pv a) i) (cf (pv b) i);have:=ha.pv.cf i;have:=hb.pv.cf i;omega
   .exact hz k
  .rw[y5 (by omega)];split
   .rename_i e;rw[e]
   .exact hv k (by omega)
 .simp (disch:=omega) only[wt,seval,reduceCtorEq,Nat.reduceEqDiff,h0,h1,h5,h14,h15,hH];have e:cp (ji (pv a) (pv b))=cp (pv (out.map canon)):=by
   refine vg λk=>?_;rw[gW,fJ];by_cases hk:k<n
   .exact(hv k (by omega)).symm
   .rw[jK (q:=out) (by omega),jK (by rw[iK];omega),jK (by rw[iK];omega)];rfl
  rw[e];refine au ((gX (out.map canon) (RP.canon (.of (by omega) λk=>Nat.le_trans (hz k) (by omega))))) (by first|rfl|(simp only[aH,bn,aB,aI,aA,Nat.reduceEqDiff,↓reduceIte,h0,h1,h5,h14,h15,hH];rfl)) (by simp) ?_;simp (disch:=omega) only[wt,seval,reduceCtorEq,Nat.reduceEqDiff,h0,h1,h5,h14,h15,hH]
theorem Ko (p:List RI)(c:RI)(hp:RP (2^30) (2^35) p)(hc:Sz (2^35) c):AC Tryz.prog 152 [cw p,cr c] none [cp (aY (iv c) (pv p))]:=by
 refine AC.aF (rs:=[.tmp 4]) bM Tryz.func152 (by rfl) (by rfl) (by rfl) (by rfl) (by rfl) ?_;have hl:=hp.1;simp (disch:=omega) only[wt,seval,reduceCtorEq,Nat.reduceEqDiff];refine bF (λf H=>∃(i st st3:Nat) (out:List Int),i<=p.length/\out.length=p.length/\(∀k,zl (cf out k)<=2^36)/\(∀k,k<i->cf out k=cf (pv p) k*iv c) /\
  f 0=.iv (.sl (gZ p))/\f 3=.hp 3 st3 0 0/\f 5=.hs 9 st/\f 11=.iv (.int .i64 p.length)/\f 12=.iv (.int .i64 i)/\H 9=.blk false st 29 2 (gZ (out.map canon))/\H 3=.blk false st3 29 2 [je c]) (λf H=>(p.length-dQ f 12).toNat) ?_ ?_
 .exact⟨0,1,1,List.replicate p.length 0,by omega,by simp,λk=>by rw[S9,fA];omega,λk hk=>by omega,by simp (disch:=omega) only[wt,seval,reduceCtorEq,Nat.reduceEqDiff],by simp (disch:=omega) only[wt,seval,reduceCtorEq,Nat.reduceEqDiff],by simp (disch:=omega) only[wt,seval,reduceCtorEq,Nat.reduceEqDiff],by simp (disch:=omega) only[wt,seval,reduceCtorEq,Nat.reduceEqDiff],by simp (disch:=omega) only[wt,seval,reduceCtorEq,Nat.reduceEqDiff],by simp (disch:=omega) only[wt,seval,reduceCtorEq,Nat.reduceEqDiff,Int.toNat_natCast,wS],by simp (disch:=omega) only[wt,seval,reduceCtorEq,Nat.reduceEqDiff]⟩
 rintro f H ⟨i,st,st3,out,hi,hol,hz,hv,h0,h3,h5,h11,h12,hH,hH3⟩;rw[bC h12];simp (disch:=omega) only[wt,seval,reduceCtorEq,Nat.reduceEqDiff,h0,h3,h5,h11,h12,hH,hH3];refine bU (λhlt=>?_) (λhlt=>?_)
 .have hq:(out.map canon).length=p.length:=by rw[List.length_map,hol]
  simp (disch:=omega) only[wt,seval,reduceCtorEq,Nat.reduceEqDiff,h0,h3,h5,h11,h12,hH,hH3,hq];refine .inl ⟨aZ (by kernel_rfl),?_⟩;refine au ((jM (p.getD i (false,[])) c ((hp.get i).mono (by omega)) (hc.mono (by omega)))) (by first|rfl|(simp only[aH,bn,aB,aI,aA,Nat.reduceEqDiff,↓reduceIte,h0,h3,h5,h11,h12,hH,hH3,hq];rfl)) (by simp) ?_;simp (disch:=omega) only[wt,seval,reduceCtorEq,Nat.reduceEqDiff,h0,h3,h5,h11,h12,hH,hH3,hq];rw[<-rJ]
  first|exact aN (by kernel_rfl)|refine⟨aN (by kernel_rfl),?_⟩
  refine⟨⟨i+1,st,st3,out.set i (cf (pv p) i*iv c),by omega,by simp[hol],λk=>?_,λk hk=>?_,rfl,rfl,by omega,rfl,rfl⟩,by omega⟩
  .rw[y5 (by omega)];split
   .have:=gI (cf (pv p) i) (iv c);have:=hp.pv.cf i;have:=rG hc;omega
   .exact hz k
  .rw[y5 (by omega)];split
   .rename_i e;rw[e]
   .exact hv k (by omega)
 .simp (disch:=omega) only[wt,seval,reduceCtorEq,Nat.reduceEqDiff,h0,h3,h5,h11,h12,hH,hH3];have e:cp (aY (iv c) (pv p))=cp (pv (out.map canon)):=by
   refine vg λk=>?_;rw[gW,dM];by_cases hk:k<p.length
   .exact(hv k (by omega)).symm
   .rw[jK (q:=out) (by omega),jK (by rw[iK];omega)];simp
  rw[e];refine au ((gX (out.map canon) (RP.canon (.of (by omega) λk=>Nat.le_trans (hz k) (by omega))))) (by first|rfl|(simp only[aH,bn,aB,aI,aA,Nat.reduceEqDiff,↓reduceIte,h0,h3,h5,h11,h12,hH,hH3];rfl)) (by simp) ?_;simp (disch:=omega) only[wt,seval,reduceCtorEq,Nat.reduceEqDiff,h0,h3,h5,h11,h12,hH,hH3]
theorem a6K (p:List RI)(hp:RP (2^30) (2^35) p):AC Tryz.prog 169 [cw p] none [cp (aY (-1) (pv p))]:=by
 refine AC.aF (rs:=[.tmp 2]) bM Tryz.func169 (by rfl) (by rfl) (by rfl) (by rfl) (by rfl) ?_;simp (disch:=omega) only[wt,seval,reduceCtorEq,Nat.reduceEqDiff];refine au ((iJ (-1) (by omega) (by omega))) (by rfl) (by simp) ?_;simp (disch:=omega) only[wt,seval,reduceCtorEq,Nat.reduceEqDiff];have:=Ko p (canon (-1)) hp ((aW (-1)).mono (by have:zl (-1)<=1:=dR.mpr (by decide);omega));rw[aU]at this;refine au (this) (by rfl) (by simp) ?_;simp (disch:=omega) only[wt,seval,reduceCtorEq,Nat.reduceEqDiff]
theorem a6y (a b:List RI)(ha:RP (2^30) (2^36) a)(hb:RP (2^30) (2^35) b):AC Tryz.prog 168 [cw a,cw b] none [cp (ji (pv a) (aY (-1) (pv b)))]:=by
 refine AC.aF (rs:=[.tmp 4]) bM Tryz.func168 (by rfl) (by rfl) (by rfl) (by rfl) (by rfl) ?_;simp (disch:=omega) only[wt,seval,reduceCtorEq,Nat.reduceEqDiff];refine au ((a6K b hb)) (by rfl) (by simp) ?_;simp (disch:=omega) only[wt,seval,reduceCtorEq,Nat.reduceEqDiff];have h1:zl (-1)<=1:=dR.mpr (by decide);have:=Xu a ((aV (aY (-1) (pv b))).map canon) ha (RP.canon (hb.pv.aY.aV.mono (by omega) (by omega)));have e:cp (ji (pv a) (pv ((aV (aY (-1) (pv b))).map canon)))=cp (ji (pv a) (aY (-1) (pv b))):=by
  refine vg λk=>?_;rw[gW,fJ,fJ,bH]
 rw[e]at this;refine au (this) (by rfl) (by simp) ?_;simp (disch:=omega) only[wt,seval,reduceCtorEq,Nat.reduceEqDiff]
theorem qE (p:List RI)(h:RP (2^40) (2^40) p):AC Tryz.prog 64 [cw p] none [ci ((tz (pv p):Int)-1)]:=by
 refine AC.aF (rs:=[.tmp 2]) bM Tryz.func64 (by rfl) (by rfl) (by rfl) (by rfl) (by rfl) ?_;have hl:=h.1;have htl:=oI (pv p);rw[iK]at htl;simp (disch:=omega) only[wt,seval,reduceCtorEq,Nat.reduceEqDiff];refine au ((Gp p h)) (by rfl) (by simp) ?_;simp (disch:=omega) only[wt,seval,reduceCtorEq,Nat.reduceEqDiff]
theorem Xm (a b:List RI)(ha:RP (2^30) (2^35) a)(hb:RP (2^30) (2^35) b):AC Tryz.prog 23 [cw a,cw b] none [cp (bV (pv a) (pv b))]:=by
 refine AC.aF (rs:=[.tmp 4]) bM Tryz.func23 (by rfl) (by rfl) (by rfl) (by rfl) (by rfl) ?_;have pa:=ha.pv.aV;have pb:=hb.pv.aV;have e0:cp (bV (pv a) (pv b))=cp (bV (aV (pv a)) (aV (pv b))):=by
  refine vg λk=>?_;rw[dZ,dZ,kJ (λj=>(bH (pv a) j).symm),xQ _ k (λj=>(bH (pv b) j).symm)]
 rw[e0];simp (disch:=omega) only[wt,seval,reduceCtorEq,Nat.reduceEqDiff];refine au ((gX a (ha.mono (by omega) (by omega)))) (by rfl) (by simp) ?_;simp (disch:=omega) only[wt,seval,reduceCtorEq,Nat.reduceEqDiff];refine au ((gX b (hb.mono (by omega) (by omega)))) (by rfl) (by simp) ?_;simp (disch:=omega) only[wt,seval,reduceCtorEq,Nat.reduceEqDiff];unfold dY;generalize aV (pv a)=A at *;generalize aV (pv b)=B at *;have hA:=pa.1;have hB:=pb.1;have hAl:(A.map canon).length=A.length:=by simp
 have hBl:(B.map canon).length=B.length:=by simp
 simp (disch:=omega) only[wt,seval,reduceCtorEq,Nat.reduceEqDiff,hAl,hBl];by_cases hza:(A.length:Int)=0
 .have hA0:A=[]:=by rw[<-List.length_eq_zero_iff];omega
  subst hA0;simp (disch:=omega) only[wt,seval,reduceCtorEq,Nat.reduceEqDiff,hza,hBl];have:aV (bV [] B)=[]:=by rw[<-List.length_eq_zero_iff,bI,bf];intro k;rw[dZ];rfl
  unfold dY;rw[this];rfl
 simp (disch:=omega) only[wt,seval,reduceCtorEq,Nat.reduceEqDiff,hza,hAl,hBl];refine bU (λhzb=>?_) (λhzb=>?_)
 .have hB0:B=[]:=by rw[<-List.length_eq_zero_iff];omega
  subst hB0;simp (disch:=omega) only[wt,seval,reduceCtorEq,Nat.reduceEqDiff,hza,hAl];have:aV (bV A [])=[]:=by
   rw[<-List.length_eq_zero_iff,bI,bf];intro k;rw[dZ,OD]
  unfold dY;rw[this];rfl
 simp (disch:=omega) only[wt,seval,reduceCtorEq,Nat.reduceEqDiff,hAl,hBl];have eN:(A.length:Int)+(B.length:Int)-1=((A.length+B.length-1:Nat):Int):=by omega
 rw[eN];simp (disch:=omega) only[wt,seval,reduceCtorEq,Nat.reduceEqDiff,hAl,hBl];generalize hN:A.length+B.length-1=N at *;refine bF (λf H=>∃(i st:Nat) (out:List Int),i<=A.length/\out.length=N/\(∀k,cf out k=cv (A.take i) (cf B) k) /\
  f 0=.iv (.sl (gZ (A.map canon)))/\f 1=.iv (.sl (gZ (B.map canon)))/\f 5=.hs 26 st/\f 28=.iv (.int .i64 A.length)/\f 29=.iv (.int .i64 i)/\H 26=.blk false st 29 2 (gZ (out.map canon))) (λf H=>(A.length-dQ f 29).toNat) ?_ ?_
 .exact⟨0,1,List.replicate N 0,by omega,by simp,λk=>by rw[S9];rfl,by simp (disch:=omega) only[wt,seval,reduceCtorEq,Nat.reduceEqDiff],by simp (disch:=omega) only[wt,seval,reduceCtorEq,Nat.reduceEqDiff],by simp (disch:=omega) only[wt,seval,reduceCtorEq,Nat.reduceEqDiff],by simp (disch:=omega) only[wt,seval,reduceCtorEq,Nat.reduceEqDiff,hAl],by simp (disch:=omega) only[wt,seval,reduceCtorEq,Nat.reduceEqDiff],by simp (disch:=omega) only[wt,seval,reduceCtorEq,Nat.reduceEqDiff,Int.toNat_natCast,wS]⟩
 rintro f H ⟨i,st,out,hi,hol,hv,h0,h1,h5,h28,h29,hH⟩;rw[bC h29];simp (disch:=omega) only[wt,seval,reduceCtorEq,Nat.reduceEqDiff,h0,h1,h5,h28,h29,hH,hAl,hBl];refine bU (λhlt=>?_) (λhlt=>?_)
 .simp (disch:=omega) only[wt,seval,reduceCtorEq,Nat.reduceEqDiff,h0,h1,h5,h28,h29,hH,hAl,hBl];refine bF (λf H=>∃(j st:Nat) (out:List Int),j<=B.length/\out.length=N/\(∀k,cf out k=cv (A.take i) (cf B) k+(if i<=k/\k<i+j then cf A i*cf B (k-i) else 0)) /\
   f 0=.iv (.sl (gZ (A.map canon)))/\f 1=.iv (.sl (gZ (B.map canon)))/\f 5=.hs 26 st/\f 6=.iv (.int .i64 i)/\f 28=.iv (.int .i64 A.length)/\f 29=.iv (.int .i64 i)/\f 33=.iv (.int .i64 B.length)/\f 34=.iv (.int .i64 j)/\H 26=.blk false st 29 2 (gZ (out.map canon))) (λf H=>(B.length-dQ f 34).toNat) ?_ ?_
  .refine⟨0,st,out,by omega,hol,λk=>?_,by simp (disch:=omega) only[wt,seval,reduceCtorEq,Nat.reduceEqDiff,h0],by simp (disch:=omega) only[wt,seval,reduceCtorEq,Nat.reduceEqDiff,h1],by simp (disch:=omega) only[wt,seval,reduceCtorEq,Nat.reduceEqDiff,h5],by simp (disch:=omega) only[wt,seval,reduceCtorEq,Nat.reduceEqDiff],by simp (disch:=omega) only[wt,seval,reduceCtorEq,Nat.reduceEqDiff,h28],by simp (disch:=omega) only[wt,seval,reduceCtorEq,Nat.reduceEqDiff,h29],by simp (disch:=omega) only[wt,seval,reduceCtorEq,Nat.reduceEqDiff,hBl],by simp (disch:=omega) only[wt,seval,reduceCtorEq,Nat.reduceEqDiff],by simp (disch:=omega) only[wt,seval,reduceCtorEq,Nat.reduceEqDiff,hH]⟩;rw[hv k,if_neg (by omega),Int.add_zero]
  clear h0 h1 h5 h28 h29 hH hv hol;clear out st f H;rintro f H ⟨j,st,out,hj,hol,hv,h0,h1,h5,h6,h28,h29,h33,h34,hH⟩;rw[bC h34];simp (disch:=omega) only[wt,seval,reduceCtorEq,Nat.reduceEqDiff,h0,h1,h5,h6,h28,h29,h33,h34,hH];refine bU (λhlj=>?_) (λhlj=>?_)
  .have hq:(out.map canon).length=N:=by rw[List.length_map,hol]
   have eij:(i:Int)+(j:Int)=((i+j:Nat):Int):=by omega
   simp (disch:=omega) only[wt,seval,reduceCtorEq,Nat.reduceEqDiff,h0,h1,h5,h6,h28,h29,h33,h34,hH,hq,hAl,hBl];rw[eij];simp (disch:=omega) only[wt,seval,reduceCtorEq,Nat.reduceEqDiff,h0,h1,h5,h6,h28,h29,h33,h34,hH,hq,hAl,hBl];refine .inl ⟨aZ (by kernel_rfl),?_⟩;have hAi:=pa.cf i;have hBj:=pb.cf j;have hprod:=gI (cf A i) (cf B j);have hold:cf out (i+j)=cv (A.take i) (cf B) (i+j):=by rw[hv,if_neg (by omega),Int.add_zero]
   have hzo:zl (cf out (i+j))<=2^35+2^35+1:=by rw[hold];exact a5J (Pq pa i) pb (by decide) _
   have m:=jM (canon (cf A i)) (canon (cf B j)) ((aW _).mono (by omega)) ((aW _).mono (by omega));rw[aU,aU]at m;refine au (m) (by first|rfl|(simp only[aH,bn,aB,aI,aA,Nat.reduceEqDiff,↓reduceIte,h0,h1,h5,h6,h28,h29,h33,h34,hH,hq,hAl,hBl];rfl)) (by simp) ?_;simp (disch:=omega) only[wt,seval,reduceCtorEq,Nat.reduceEqDiff,h0,h1,h5,h6,h28,h29,h33,h34,hH,hq,hAl,hBl];have s:=rP (canon (cf out (i+j))) (canon (cf A i*cf B j)) ((aW _).mono (by omega)) ((aW _).mono (by omega));rw[aU,aU]at s;refine au (s) (by first|rfl|(simp only[aH,bn,aB,aI,aA,Nat.reduceEqDiff,↓reduceIte,h0,h1,h5,h6,h28,h29,h33,h34,hH,hq,hAl,hBl];rfl)) (by simp) ?_;simp (disch:=omega) only[wt,seval,reduceCtorEq,Nat.reduceEqDiff,h0,h1,h5,h6,h28,h29,h33,h34,hH,hq,hAl,hBl]
   first|exact aN (by kernel_rfl)|refine⟨aN (by kernel_rfl),?_⟩
   refine⟨⟨j+1,st,out.set (i+j) (cf out (i+j)+cf A i*cf B j),by omega,by simp[hol],λk=>?_,rfl,by omega,rfl⟩,by omega⟩;rw[y5 (by omega)];by_cases e:k=i+j
   .subst e;rw[if_pos rfl,if_pos ⟨by omega,by omega⟩,hold,Nat.add_sub_cancel_left]
   .rw[if_neg e,hv k];by_cases hk:i<=k/\k<i+j
    .rw[if_pos hk,if_pos ⟨hk.1,by omega⟩]
    .rw[if_neg hk,if_neg (by omega)]
  .simp (disch:=omega) only[wt,seval,reduceCtorEq,Nat.reduceEqDiff,h0,h1,h5,h6,h28,h29,h33,h34,hH,hAl,hBl];refine⟨⟨i+1,st,out,by omega,hol,λk=>?_,rfl,by omega,rfl⟩,by omega⟩;rw[hv k,zS]
   congr 1
   by_cases hk:i<=k
   .rw[if_pos hk];by_cases hk2:k<i+j
    .rw[if_pos ⟨hk,hk2⟩]
    .rw[if_neg (by omega),jK (q:=B) (by omega),Int.mul_zero]
   .rw[if_neg hk,if_neg (by omega)]
 .simp (disch:=omega) only[wt,seval,reduceCtorEq,Nat.reduceEqDiff,h0,h1,h5,h28,h29,hH,hAl,hBl];have hiA:i=A.length:=by omega
  have e:cp (bV A B)=cp (pv (out.map canon)):=by
   refine vg λk=>?_;rw[gW,hv,dZ,hiA,List.take_length]
  unfold dY at e;rw[e];refine au ((gX (out.map canon) (RP.canon (.of (by omega) λk=>by rw[hv];exact Nat.le_trans (a5J (Pq pa i) pb (by decide) k) (by omega))))) (by first|rfl|(simp only[aH,bn,aB,aI,aA,Nat.reduceEqDiff,↓reduceIte,h0,h1,h5,h28,h29,hH,hAl,hBl];rfl)) (by simp) ?_;simp (disch:=omega) only[wt,seval,reduceCtorEq,Nat.reduceEqDiff,h0,h1,h5,h28,h29,hH,hAl,hBl]
end Go.Proofs.YtnhghmibjddlkaaGreatDoor
