/-
 Contracts of the functions that the law reaches.
-/
import Derived.Test.YtnjaeokkfbihlaaGreatTyA
import Derived.Test.YtnjaeokkfbihlaaGreatAbsPM
import Derived.Laws.Externs
set_option maxHeartbeats 2000000
namespace Go.Proofs.YtnjaeokkfbihlaaGreat
open Go Go.Proofs Go.AL
set_option linter.unusedSimpArgs false
set_option linter.unusedVariables false
abbrev cl (l:List Nat):CV:=.iv (.sl (lims l))
abbrev cu (x:Nat):CV:=.iv (.int .u64 (x:Int))
abbrev ci (n:Int):CV:=.iv (.int .i64 n)
def subEntry:Array Value->Sem Value:=λargs=>do
 let (x, y, b) ← Extern.MathBitsCarry.three "Sub64" args
 pure (Extern.MathBitsCarry.pair ((x+Extern.MathBitsCarry.m64-y-b)%Extern.MathBitsCarry.m64) (if x<y+b then 1 else 0))
theorem add64_ok (x y c:Nat)(hc:c<=1):AC Tryz.prog 144 [cu x,cu y,cu c] none [cu ((x+y+c)%W),cu ((x+y+c)/W)]:=by
 refine AC.of_run [(.u64,x),(.u64,y),(.u64,c)] [(.u64,((x+y+c)%W:Nat)),(.u64,((x+y+c)/W:Nat))] rfl rfl λw=>?_;show (callFunc _ #[.int .u64 x,.int .u64 y,.int .u64 c]).run Tryz.prog w=_;rw[run_callFunc_extern Tryz.func144 (by kernel_rfl) (by kernel_rfl) (by kernel_rfl) (e:=add64Entry) (by kernel_rfl),run_add64 x y c (by omega) (by omega) (by omega) (by omega)];simp only[Result.andThen,packV,List.map]
 congr 5<;>omega
theorem sub64_ok (x y b:Nat)(hb:b<=1):AC Tryz.prog 142 [cu x,cu y,cu b] none [cu ((x+W-y-b)%W),cu (if x<y+b then 1 else 0)]:=by
 refine AC.of_run [(.u64,x),(.u64,y),(.u64,b)] [(.u64,((x+W-y-b)%W:Nat)),(.u64,((if x<y+b then 1 else 0:Nat):Int))] rfl rfl λw=>?_;show (callFunc _ #[.int .u64 x,.int .u64 y,.int .u64 b]).run Tryz.prog w=_;rw[run_callFunc_extern Tryz.func142 (by kernel_rfl) (by kernel_rfl) (by kernel_rfl) (e:=subEntry) (by kernel_rfl)];have:b=0\/b=1:=by omega
 rcases this with rfl|rfl<;>rfl
theorem clone_ok (l:List Nat)(hl:l.length<=2^43):AC Tryz.prog 113 [cl l] (some (0,92,1,lims l)) [cl l]:=by
 refine AC.by_walk (rs:=[.tmp 2]) ords Tryz.func113 (by rfl) (by rfl) (by rfl) (by rfl) (by rfl) ?_;simp (disch:=omega) only[wt,seval,reduceCtorEq,Nat.reduceEqDiff];by_cases hn:l=[]
 .subst hn;refine if_ub ?_ ?_
  .simp (disch:=omega) only[wt,seval,reduceCtorEq,Nat.reduceEqDiff,lims_nil]
  .simp (disch:=omega) only[wt,seval,reduceCtorEq,Nat.reduceEqDiff]
 .have he:(lims l).isEmpty=false:=by cases l with|nil=>exact(hn rfl).elim|cons x xs=>rfl
  simp (disch:=omega) only[wt,seval,reduceCtorEq,Nat.reduceEqDiff,he]
theorem at_ok (l:List Nat)(i:Nat)(hl:l.length<=2^43):AC Tryz.prog 130 [cl l,ci i] none [cu (l.getD i 0)]:=by
 refine AC.by_walk (rs:=[.tmp 4]) ords Tryz.func130 (by rfl) (by rfl) (by rfl) (by rfl) (by rfl) ?_;simp (disch:=omega) only[wt,seval,reduceCtorEq,Nat.reduceEqDiff];refine if_by (λh=>?_) (λh=>?_)
 .simp (disch:=omega) only[wt,seval,reduceCtorEq,Nat.reduceEqDiff]
 .simp (disch:=omega) only[wt,seval,reduceCtorEq,Nat.reduceEqDiff];rw[List.getD_eq_getElem?_getD,List.getElem?_eq_none (by omega)];rfl
theorem addw_ok (x y c:Nat)(hx:x<W)(hy:y<W)(hc:c<W):AC Tryz.prog 129 [cu x,cu y,cu c] none [cu ((x+y+c)%W),cu ((x+y+c)/W)]:=by
 refine AC.by_walk (rs:=[.tmp 6,.tmp 7]) ords Tryz.func129 (by rfl) (by rfl) (by rfl) (by rfl) (by rfl) ?_;simp (disch:=omega) only[wt,seval,reduceCtorEq,Nat.reduceEqDiff];refine call_by ((add64_ok x y 0 (by omega))) (by rfl) (by simp) ?_;simp (disch:=omega) only[wt,seval,reduceCtorEq,Nat.reduceEqDiff];refine call_by ((add64_ok ((x+y+0)%W) c 0 (by omega))) (by rfl) (by simp) ?_;simp (disch:=omega) only[wt,seval,reduceCtorEq,Nat.reduceEqDiff];rw[wrap_u64 (by simp only[W]at *;omega)];simp only[W]at *;omega
theorem subw_ok (x y c:Nat)(hx:x<W)(hy:y<W)(hc:c<=1):AC Tryz.prog 145 [cu x,cu y,cu c] none [cu ((x+W-y-c)%W),cu (if x<y+c then 1 else 0)]:=by
 refine AC.by_walk (rs:=[.tmp 6,.tmp 7]) ords Tryz.func145 (by rfl) (by rfl) (by rfl) (by rfl) (by rfl) ?_;simp (disch:=omega) only[wt,seval,reduceCtorEq,Nat.reduceEqDiff];refine call_by ((sub64_ok x y 0 (by omega))) (by rfl) (by simp) ?_;simp (disch:=omega) only[wt,seval,reduceCtorEq,Nat.reduceEqDiff];refine call_by ((sub64_ok ((x+W-y-0)%W) c 0 (by omega))) (by rfl) (by simp) ?_;simp (disch:=omega) only[wt,seval,reduceCtorEq,Nat.reduceEqDiff];rw[wrap_u64 (by simp only[W]at *;split<;>split<;>omega)];simp only[W]at *;split<;>split<;>split<;>omega
theorem and_low32 (x:Nat)(hx:x<W):IntKind.u64.wrap ((BitVec.ofInt IntKind.u64.bits (x:Int)&&&BitVec.ofInt IntKind.u64.bits 4294967295).toNat:Int)=((x%4294967296:Nat):Int):=by
 have h:(BitVec.ofInt 64 (x:Int)&&&BitVec.ofInt 64 4294967295).toNat=x%4294967296:=by
  have e1:BitVec.ofInt 64 (x:Int)=BitVec.ofNat 64 x:=by simp
  have e2:(BitVec.ofInt 64 4294967295:BitVec 64)=BitVec.ofNat 64 (2^32-1):=by rfl
  rw[e1,e2,BitVec.toNat_and,BitVec.toNat_ofNat,BitVec.toNat_ofNat];rw[Nat.mod_eq_of_lt (show x<2^64 from hx),Nat.mod_eq_of_lt (by decide:2^32-1<2^64),Nat.and_two_pow_sub_one_eq_mod]
 show IntKind.u64.wrap ((BitVec.ofInt 64 (x:Int)&&&BitVec.ofInt 64 4294967295).toNat:Int)=_;rw[h,wrap_u64 (by omega)]
theorem shr_32 (x:Nat):((x:Int)).fdiv (2^min 32 IntKind.u64.bits)=((x/4294967296:Nat):Int):=by
 show ((x:Int)).fdiv 4294967296=_;rw[Int.fdiv_eq_ediv_of_nonneg _ (by omega)];rfl
theorem wrap_nat {n:Nat}(h:n<W):IntKind.u64.wrap (n:Int)=(n:Int):=wrap_u64 (by simp only[W]at h;omega)
theorem wrap_add_nat {m n:Nat}(h:m+n<W):IntKind.u64.wrap ((m:Int)+(n:Int))=((m+n:Nat):Int):=by rw[wrap_u64 (by simp only[W]at h;omega)];omega
theorem wrap_mul_nat {m n:Nat}(h:m*n<W):IntKind.u64.wrap ((m:Int)*(n:Int))=((m*n:Nat):Int):=by rw[<-Int.natCast_mul,wrap_nat h]
theorem wrap_mul_mod (m n:Nat):IntKind.u64.wrap ((m:Int)*(n:Int))=((m*n%W:Nat):Int):=by
 rw[<-Int.natCast_mul];simp only[IntKind.wrap,IntKind.signed,IntKind.bits,Bool.false_and,Bool.false_eq_true,if_false];simp only[W];omega
theorem mul64_num {x y:Nat}(hx:x<W)(hy:y<W):∃P Q R S,P=x%4294967296*(y%4294967296)/\Q=x/4294967296*(y%4294967296)/\R=x%4294967296*(y/4294967296)/\S=x/4294967296*(y/4294967296) /\
  P<=18446744065119617025/\Q<=18446744065119617025/\R<=18446744065119617025/\S<=18446744065119617025/\x*y=P+4294967296*(Q+R)+18446744073709551616*S:=by
 simp only[W]at hx hy;have h0:x%4294967296<=4294967295:=by omega
 have h1:x/4294967296<=4294967295:=by omega
 have h2:y%4294967296<=4294967295:=by omega
 have h3:y/4294967296<=4294967295:=by omega
 refine⟨_,_,_,_,rfl,rfl,rfl,rfl,Nat.mul_le_mul h0 h2,Nat.mul_le_mul h1 h2,Nat.mul_le_mul h0 h3,Nat.mul_le_mul h1 h3,?_⟩;have ex:x=x%4294967296+4294967296*(x/4294967296):=by omega
 have ey:y=y%4294967296+4294967296*(y/4294967296):=by omega
 generalize x%4294967296=a at *;generalize x/4294967296=b at *;generalize y%4294967296=c at *;generalize y/4294967296=d at *;subst ex ey;simp only[Nat.add_mul,Nat.mul_add];have e1:4294967296*b*c=4294967296*(b*c):=Nat.mul_assoc _ _ _;have e2:a*(4294967296*d)=4294967296*(a*d):=Nat.mul_left_comm _ _ _;have e3:4294967296*b*(4294967296*d)=18446744073709551616*(b*d):=by
  rw[Nat.mul_mul_mul_comm]
 rw[e1,e2,e3];omega
theorem mul64_ok (x y:Nat)(hx:x<W)(hy:y<W):AC Tryz.prog 128 [cu x,cu y] none [cu (x*y/W),cu (x*y%W)]:=by
 refine AC.by_walk (rs:=[.tmp 4,.tmp 5]) ords Tryz.func128 (by rfl) (by rfl) (by rfl) (by rfl) (by rfl) ?_;simp (disch:=omega) only[wt,seval,reduceCtorEq,Nat.reduceEqDiff];obtain⟨P,Q,R,S,hP,hQ,hR,hS,bP,bQ,bR,bS,hxy⟩:=mul64_num hx hy;rw[and_low32 x hx,and_low32 y hy,shr_32 x,shr_32 y];rw[wrap_mul_nat (m:=x%4294967296) (by simp only[W];omega),wrap_mul_nat (m:=x/4294967296) (n:=y%4294967296) (by simp only[W];omega),wrap_mul_nat (m:=x%4294967296) (n:=y/4294967296) (by simp only[W];omega),wrap_mul_nat (m:=x/4294967296) (n:=y/4294967296) (by simp only[W];omega),wrap_mul_mod];clear hx hy;rw[<-hP,<-hQ,<-hR,<-hS,shr_32 P,wrap_add_nat (by simp only[W];omega),shr_32,and_low32 _ (by simp only[W];omega),wrap_add_nat (by simp only[W];omega),wrap_add_nat (by simp only[W];omega),shr_32,wrap_add_nat (by simp only[W];omega),hxy];simp only[W];refine⟨?_,trivial⟩;omega
theorem mulw_ok (x y a b:Nat)(hx:x<W)(hy:y<W)(ha:a<W)(hb:b<W):AC Tryz.prog 110 [cu x,cu y,cu a,cu b] none [cu ((x*y+a+b)/W),cu ((x*y+a+b)%W)]:=by
 refine AC.by_walk (rs:=[.tmp 8,.tmp 9]) ords Tryz.func110 (by rfl) (by rfl) (by rfl) (by rfl) (by rfl) ?_;simp (disch:=omega) only[wt,seval,reduceCtorEq,Nat.reduceEqDiff];refine call_by ((mul64_ok x y hx hy)) (by rfl) (by simp) ?_;simp (disch:=omega) only[wt,seval,reduceCtorEq,Nat.reduceEqDiff];refine call_by ((addw_ok (x*y%W) a b (Nat.mod_lt _ (by decide)) ha hb)) (by rfl) (by simp) ?_;simp (disch:=omega) only[wt,seval,reduceCtorEq,Nat.reduceEqDiff];have hm:x*y<=18446744073709551615*18446744073709551615:=Nat.mul_le_mul (by simp only[W]at hx;omega) (by simp only[W]at hy;omega);simp only[W]at *;rw[wrap_add_nat (by simp only[W];omega)];omega
theorem top_ok (l:List Nat)(hl:l.length<=2^43):AC Tryz.prog 102 [cl l] none [ci (topN l)]:=by
 refine AC.by_walk (rs:=[.tmp 2]) ords Tryz.func102 (by rfl) (by rfl) (by rfl) (by rfl) (by rfl) ?_;simp (disch:=omega) only[wt,seval,reduceCtorEq,Nat.reduceEqDiff];refine aloop_by (λf H=>∃k:Nat,k<=l.length/\f 0=.iv (.sl (lims l))/\f 3=.iv (.int .i64 k)/\topN (l.take k)=topN l) (λf H=>(intAt f 3).toNat) ?_ ?_
 .exact⟨l.length,Nat.le_refl _,by simp (disch:=omega) only[wt,seval,reduceCtorEq,Nat.reduceEqDiff],by simp (disch:=omega) only[wt,seval,reduceCtorEq,Nat.reduceEqDiff],by rw[List.take_length]⟩
 rintro f H ⟨k,hk,h0,h3,ht⟩;rw[intAt_of h3];by_cases hc:0<(k:Int)
 .simp (disch:=omega) only[wt,seval,reduceCtorEq,Nat.reduceEqDiff,h0,h3,hc];refine if_by (λhz=>?_) (λhz=>?_)
  .simp (disch:=omega) only[wt,seval,reduceCtorEq,Nat.reduceEqDiff,h0,h3];refine⟨⟨k-1,by omega,by omega,?_⟩,by omega⟩;have e:k=(k-1)+1:=by omega
   rw[<-topN_take_zero (k:=k-1) (by omega) (by rw[show ((k:Int)-1).toNat=k-1 by omega]at hz;exact_mod_cast hz),<-e,ht]
  .simp (disch:=omega) only[wt,seval,reduceCtorEq,Nat.reduceEqDiff,h0,h3];rw[<-ht,show k=(k-1)+1 by omega,topN_full (by omega) (by rw[show ((k:Int)-1).toNat=k-1 by omega]at hz;exact_mod_cast hz)]
 .simp (disch:=omega) only[wt,seval,reduceCtorEq,Nat.reduceEqDiff,h0,h3,hc];obtain rfl:k=0:=by omega
  rw[<-ht];rfl
theorem trim_ok (l:List Nat)(hl:l.length<=2^43):AC Tryz.prog 111 [cl l] none [cl (l.take (topN l))]:=by
 refine AC.by_walk (rs:=[.tmp 2]) ords Tryz.func111 (by rfl) (by rfl) (by rfl) (by rfl) (by rfl) ?_;have ht:=topN_le l;simp (disch:=omega) only[wt,seval,reduceCtorEq,Nat.reduceEqDiff];refine call_by ((top_ok l hl)) (by rfl) (by simp) ?_;simp (disch:=omega) only[wt,seval,reduceCtorEq,Nat.reduceEqDiff];refine call_by ((clone_ok (l.take (topN l)) (by rw[List.length_take];omega))) (by rfl) (by simp) ?_;simp (disch:=omega) only[wt,seval,reduceCtorEq,Nat.reduceEqDiff]
theorem own_ok (l:List Nat)(h:Lim l)(hl:l.length<=2^43):AC Tryz.prog 104 [cl l] none [cl (wd (nv l))]:=by
 refine AC.by_walk (rs:=[.tmp 2]) ords Tryz.func104 (by rfl) (by rfl) (by rfl) (by rfl) (by rfl) ?_;have ht:=topN_le l;simp (disch:=omega) only[wt,seval,reduceCtorEq,Nat.reduceEqDiff];refine call_by ((trim_ok l hl)) (by rfl) (by simp) ?_;simp (disch:=omega) only[wt,seval,reduceCtorEq,Nat.reduceEqDiff];rw[<-wd_nv h];refine if_by (λhz=>?_) (λhz=>?_)
 .simp (disch:=omega) only[wt,seval,reduceCtorEq,Nat.reduceEqDiff];have:wd (nv l)=[]:=by rw[<-List.length_eq_zero_iff];omega
  rw[this];rfl
 .simp (disch:=omega) only[wt,seval,reduceCtorEq,Nat.reduceEqDiff];refine call_by ((clone_ok (wd (nv l)) (by have:=nv_len h;omega))) (by rfl) (by simp) ?_;simp (disch:=omega) only[wt,seval,reduceCtorEq,Nat.reduceEqDiff]
theorem norm_ok (l:List Nat)(h:Lim l)(hl:l.length<=2^43):AC Tryz.prog 83 [cl l] none [cl (wd (nv l))]:=by
 refine AC.by_walk (rs:=[.tmp 2]) ords Tryz.func83 (by rfl) (by rfl) (by rfl) (by rfl) (by rfl) ?_;simp (disch:=omega) only[wt,seval,reduceCtorEq,Nat.reduceEqDiff];refine call_by ((own_ok l h hl)) (by rfl) (by simp) ?_;simp (disch:=omega) only[wt,seval,reduceCtorEq,Nat.reduceEqDiff]
theorem nof_ok (x:Nat)(hx:x<W):AC Tryz.prog 89 [cu x] none [cl (wd x)]:=by
 refine AC.by_walk (rs:=[.tmp 2]) ords Tryz.func89 (by rfl) (by rfl) (by rfl) (by rfl) (by rfl) ?_;simp (disch:=omega) only[wt,seval,reduceCtorEq,Nat.reduceEqDiff];have e:nv [x]=x:=by simp[nv,vl]
 have:=own_ok [x] (Lim.cons hx Lim.nil) (by simp);rw[e]at this;refine call_by (this) (by rfl) (by simp) ?_;simp (disch:=omega) only[wt,seval,reduceCtorEq,Nat.reduceEqDiff]
theorem ladd_ok (a b:List Nat)(ha:Lim a)(hb:Lim b)(hla:a.length<=2^40)(hlb:b.length<=2^40) :
  AC Tryz.prog 112 [cl a,cl b] none [cl (pad (max a.length b.length) (nv a+nv b)),cu ((nv a+nv b)/W^(max a.length b.length))]:=by
 refine AC.by_walk (rs:=[.tmp 4,.tmp 5]) ords Tryz.func112 (by rfl) (by rfl) (by rfl) (by rfl) (by rfl) ?_;simp (disch:=omega) only[wt,seval,reduceCtorEq,Nat.reduceEqDiff];refine if_cut (λf H=>∃A B,B.length<=A.length/\A.length<=2^40/\Lim A/\Lim B/\A.length=max a.length b.length/\nv A+nv B=nv a+nv b/\f 0=.iv (.sl (lims A))/\f 1=.iv (.sl (lims B))) ?_ ?_
 .refine if_by (λhz=>?_) (λhz=>?_)
  .simp (disch:=omega) only[wt,seval,reduceCtorEq,Nat.reduceEqDiff];exact⟨b,a,by omega,by omega,hb,ha,by omega,by omega,rfl,rfl⟩
  .simp (disch:=omega) only[wt,seval,reduceCtorEq,Nat.reduceEqDiff];exact⟨a,b,by omega,by omega,ha,hb,by omega,by omega,rfl,rfl⟩
 rintro f H ⟨A,B,hBA,hAl,hA,hB,hAm,hAB,h0,h1⟩;rw[<-hAm,<-hAB];simp (disch:=omega) only[wt,seval,reduceCtorEq,Nat.reduceEqDiff,h0,h1];refine call_by ((clone_ok A (by omega))) (by first|rfl|(simp only[tocvs,tocv,toboxes,tobox,updH_at,Nat.reduceEqDiff,↓reduceIte,h0,h1];rfl)) (by simp) ?_;simp (disch:=omega) only[wt,seval,reduceCtorEq,Nat.reduceEqDiff,h0,h1];refine aloop_by (λf H=>∃(i c:Nat) (out:List Nat) (st:Nat),i<=A.length/\c<=1/\Lim out/\out.length=A.length/\out.drop i=A.drop i/\nv (out.take i)+W^i*c=nv (A.take i)+nv (B.take i) /\
  f 0=.iv (.sl (lims A))/\f 1=.iv (.sl (lims B))/\f 6=.hs 17 st/\f 7=.iv (.int .u64 c)/\f 19=.iv (.int .i64 A.length)/\f 20=.iv (.int .i64 i)/\H 17=.blk false st 92 1 (lims out)) (λf H=>(A.length-intAt f 20).toNat) ?_ ?_
 .exact⟨0,0,A,(H 17).stamp+1,by omega,by omega,hA,rfl,rfl,by simp[vl],by simp (disch:=omega) only[wt,seval,reduceCtorEq,Nat.reduceEqDiff,h0],by simp (disch:=omega) only[wt,seval,reduceCtorEq,Nat.reduceEqDiff,h1],by simp (disch:=omega) only[wt,seval,reduceCtorEq,Nat.reduceEqDiff],by simp (disch:=omega) only[wt,seval,reduceCtorEq,Nat.reduceEqDiff],by simp (disch:=omega) only[wt,seval,reduceCtorEq,Nat.reduceEqDiff],by simp (disch:=omega) only[wt,seval,reduceCtorEq,Nat.reduceEqDiff],by simp (disch:=omega) only[wt,seval,reduceCtorEq,Nat.reduceEqDiff]⟩
 clear h0 h1;rintro f H ⟨i,c,out,st,hi,hc,hO,hOl,hOd,hOv,h0,h1,h6,h7,h19,h20,hH⟩;rw[intAt_of h20];simp (disch:=omega) only[wt,seval,reduceCtorEq,Nat.reduceEqDiff,h0,h1,h6,h7,h19,h20,hH];refine if_by (λhlt=>?_) (λhlt=>?_)
 .by_cases hb':(B.length:Int)<=i
  .by_cases hc':(c:Int)=0
   .simp (disch:=omega) only[wt,seval,reduceCtorEq,Nat.reduceEqDiff,h0,h1,h6,h7,h19,h20,hH,hb',hc'];obtain rfl:c=0:=by omega
    have e1:nv out=nv A+nv B:=by
     have e2:=vl_split W out (k:=i) (by omega);have e3:=vl_split W A (k:=i) (by omega);rw[List.take_of_length_le (l:=B) (by omega)]at hOv;rw[hOd]at e2;simp only[nv]at *;omega
    have e2:nv A+nv B<W^A.length:=by rw[<-e1,<-hOl];exact nv_lt hO
    rw[<-eq_pad hO hOl (s:=nv A+nv B) (by rw[e1,Nat.mod_eq_of_lt e2]),Nat.div_eq_of_lt e2];exact⟨rfl,rfl⟩
   .simp (disch:=omega) only[wt,seval,reduceCtorEq,Nat.reduceEqDiff,h0,h1,h6,h7,h19,h20,hH,hb',hc'];refine .inl ⟨tmps_by (by kernel_rfl),?_⟩;refine call_by ((at_ok B i (by omega))) (by first|rfl|(simp only[tocvs,tocv,toboxes,tobox,updH_at,Nat.reduceEqDiff,↓reduceIte,h0,h1,h6,h7,h19,h20,hH];rfl)) (by simp) ?_;simp (disch:=omega) only[wt,seval,reduceCtorEq,Nat.reduceEqDiff,h0,h1,h6,h7,h19,h20,hH];refine call_by ((addw_ok (A.getD i 0) (B.getD i 0) c (hA.get i) (hB.get i) (by simp only[W];omega))) (by first|rfl|(simp only[tocvs,tocv,toboxes,tobox,updH_at,Nat.reduceEqDiff,↓reduceIte,h0,h1,h6,h7,h19,h20,hH];rfl)) (by simp) ?_;simp (disch:=omega) only[wt,seval,reduceCtorEq,Nat.reduceEqDiff,h0,h1,h6,h7,h19,h20,hH]
    first|exact log_by (by kernel_rfl)|refine⟨log_by (by kernel_rfl),?_⟩
    have hx:=hA.get i;have hy:=hB.get i

    refine⟨⟨i+1,(A.getD i 0+B.getD i 0+c)/W,out.set i ((A.getD i 0+B.getD i 0+c)%W),st,by omega,by simp only[W]at *;omega,hO.set (Nat.mod_lt _ (by decide)),by simp[hOl],?_,?_,rfl,rfl,by omega,rfl⟩,by omega⟩
    .rw[List.drop_set_of_lt (by omega)];have:=congrArg (List.drop 1) hOd;simpa using this
    .simp only[nv]at *;rw[vl_take_set W (by omega),Nat.pow_succ,vl_take_next,vl_take_next];exact carry_step hOv (by simp only[W];omega)
  .simp (disch:=omega) only[wt,seval,reduceCtorEq,Nat.reduceEqDiff,h0,h1,h6,h7,h19,h20,hH,hb'];refine .inl ⟨tmps_by (by kernel_rfl),?_⟩;refine call_by ((at_ok B i (by omega))) (by first|rfl|(simp only[tocvs,tocv,toboxes,tobox,updH_at,Nat.reduceEqDiff,↓reduceIte,h0,h1,h6,h7,h19,h20,hH];rfl)) (by simp) ?_;simp (disch:=omega) only[wt,seval,reduceCtorEq,Nat.reduceEqDiff,h0,h1,h6,h7,h19,h20,hH];refine call_by ((addw_ok (A.getD i 0) (B.getD i 0) c (hA.get i) (hB.get i) (by simp only[W];omega))) (by first|rfl|(simp only[tocvs,tocv,toboxes,tobox,updH_at,Nat.reduceEqDiff,↓reduceIte,h0,h1,h6,h7,h19,h20,hH];rfl)) (by simp) ?_;simp (disch:=omega) only[wt,seval,reduceCtorEq,Nat.reduceEqDiff,h0,h1,h6,h7,h19,h20,hH]
   first|exact log_by (by kernel_rfl)|refine⟨log_by (by kernel_rfl),?_⟩
   have hx:=hA.get i;have hy:=hB.get i

   refine⟨⟨i+1,(A.getD i 0+B.getD i 0+c)/W,out.set i ((A.getD i 0+B.getD i 0+c)%W),st,by omega,by simp only[W]at *;omega,hO.set (Nat.mod_lt _ (by decide)),by simp[hOl],?_,?_,rfl,rfl,by omega,rfl⟩,by omega⟩
   .rw[List.drop_set_of_lt (by omega)];have:=congrArg (List.drop 1) hOd;simpa using this
   .simp only[nv]at *;rw[vl_take_set W (by omega),Nat.pow_succ,vl_take_next,vl_take_next];exact carry_step hOv (by simp only[W];omega)
 .simp (disch:=omega) only[wt,seval,reduceCtorEq,Nat.reduceEqDiff,h0,h1,h6,h7,h19,h20,hH];have hiA:i=A.length:=by omega
  subst hiA;rw[List.take_of_length_le (by omega),List.take_length,List.take_of_length_le (by omega)]at hOv;have hlt':=nv_lt hO;rw[hOl]at hlt';have e2:(nv A+nv B)/W^A.length=c:=by
   rw[<-hOv,Nat.add_mul_div_left _ _ (W_pow_pos _),Nat.div_eq_of_lt hlt',Nat.zero_add]
  rw[e2,<-eq_pad hO hOl (s:=nv A+nv B) (by rw[<-hOv,Nat.add_mul_mod_self_left,Nat.mod_eq_of_lt hlt'])];exact⟨rfl,rfl⟩
theorem lsub_ok (a b:List Nat)(ha:Lim a)(hb:Lim b)(hla:a.length<=2^40)(hlb:b.length<=2^40) :
  AC Tryz.prog 131 [cl a,cl b] none [cl (pad (max a.length b.length) (nv a+W^(max a.length b.length)-nv b)),cu (if nv a<nv b then 1 else 0)]:=by
 refine AC.by_walk (rs:=[.tmp 4,.tmp 5]) ords Tryz.func131 (by rfl) (by rfl) (by rfl) (by rfl) (by rfl) ?_;simp (disch:=omega) only[wt,seval,reduceCtorEq,Nat.reduceEqDiff];generalize hn:max a.length b.length=n at *;have hnI:max (a.length:Int) (b.length:Int)=(n:Int):=by omega
 rw[hnI];simp (disch:=omega) only[wt,seval,reduceCtorEq,Nat.reduceEqDiff];refine aloop_by (λf H=>∃(i c:Nat) (out:List Nat) (st:Nat),i<=n/\c<=1/\Lim out/\out.length=n/\nv (out.take i)+nv (b.take i)=nv (a.take i)+W^i*c /\
  f 0=.iv (.sl (lims a))/\f 1=.iv (.sl (lims b))/\f 6=.hs 14 st/\f 7=.iv (.int .u64 c)/\f 16=.iv (.int .i64 n)/\f 17=.iv (.int .i64 i)/\H 14=.blk false st 92 1 (lims out)) (λf H=>(n-intAt f 17).toNat) ?_ ?_
 .exact⟨0,0,List.replicate n 0,1,by omega,by omega,Lim.replicate n,by simp,by simp[vl],by simp (disch:=omega) only[wt,seval,reduceCtorEq,Nat.reduceEqDiff],by simp (disch:=omega) only[wt,seval,reduceCtorEq,Nat.reduceEqDiff],by simp (disch:=omega) only[wt,seval,reduceCtorEq,Nat.reduceEqDiff],by simp (disch:=omega) only[wt,seval,reduceCtorEq,Nat.reduceEqDiff],by simp (disch:=omega) only[wt,seval,reduceCtorEq,Nat.reduceEqDiff,List.length_replicate,Int.toNat_natCast],by simp (disch:=omega) only[wt,seval,reduceCtorEq,Nat.reduceEqDiff],by simp (disch:=omega) only[wt,seval,reduceCtorEq,Nat.reduceEqDiff,Int.toNat_natCast]⟩
 rintro f H ⟨i,c,out,st,hi,hc,hO,hOl,hOv,h0,h1,h6,h7,h16,h17,hH⟩;rw[intAt_of h17];simp (disch:=omega) only[wt,seval,reduceCtorEq,Nat.reduceEqDiff,h0,h1,h6,h7,h16,h17,hH];refine if_by (λhlt=>?_) (λhlt=>?_)
 .simp (disch:=omega) only[wt,seval,reduceCtorEq,Nat.reduceEqDiff,h0,h1,h6,h7,h16,h17,hH];refine call_by ((at_ok a i (by omega))) (by first|rfl|(simp only[tocvs,tocv,toboxes,tobox,updH_at,Nat.reduceEqDiff,↓reduceIte,h0,h1,h6,h7,h16,h17,hH];rfl)) (by simp) ?_;simp (disch:=omega) only[wt,seval,reduceCtorEq,Nat.reduceEqDiff,h0,h1,h6,h7,h16,h17,hH];refine call_by ((at_ok b i (by omega))) (by first|rfl|(simp only[tocvs,tocv,toboxes,tobox,updH_at,Nat.reduceEqDiff,↓reduceIte,h0,h1,h6,h7,h16,h17,hH];rfl)) (by simp) ?_;simp (disch:=omega) only[wt,seval,reduceCtorEq,Nat.reduceEqDiff,h0,h1,h6,h7,h16,h17,hH];have hx:=ha.get i;have hy:=hb.get i;refine call_by ((subw_ok (a.getD i 0) (b.getD i 0) c hx hy hc)) (by first|rfl|(simp only[tocvs,tocv,toboxes,tobox,updH_at,Nat.reduceEqDiff,↓reduceIte,h0,h1,h6,h7,h16,h17,hH];rfl)) (by simp) ?_;simp (disch:=omega) only[wt,seval,reduceCtorEq,Nat.reduceEqDiff,h0,h1,h6,h7,h16,h17,hH];refine⟨⟨i+1,_,out.set i _,st,by omega,?_,hO.set (Nat.mod_lt _ (by decide)),by simp[hOl],?_,rfl,rfl,by omega,rfl⟩,by omega⟩
  .split<;>omega
  .simp only[nv]at *;rw[vl_take_set W (by omega),Nat.pow_succ,vl_take_next,vl_take_next];refine borrow_step hOv ?_;simp only[W]at *;split<;>omega
 .simp (disch:=omega) only[wt,seval,reduceCtorEq,Nat.reduceEqDiff,h0,h1,h6,h7,h16,h17,hH];have hin:i=n:=by omega
  subst hin;rw[List.take_of_length_le (by omega),List.take_of_length_le (by omega),List.take_of_length_le (by omega)]at hOv;have h3:=nv_lt hO;rw[hOl]at h3;have h4:=nv_lt ha;have h5:=nv_lt hb;have h6:W^a.length<=W^i:=Nat.pow_le_pow_right (by decide) (by omega);have h7:W^b.length<=W^i:=Nat.pow_le_pow_right (by decide) (by omega);have e:c=if nv a<nv b then 1 else 0:=by
   have:c=0\/c=1:=by omega
   rcases this with rfl|rfl<;>split<;>omega
  rw[<-eq_pad hO hOl (s:=nv a+W^i-nv b) ?_,<-e]
  .exact⟨rfl,rfl⟩
  .have:c=0\/c=1:=by omega
   rcases this with rfl|rfl
   .rw[show nv a+W^i-nv b=nv out+W^i*1 by omega,Nat.add_mul_mod_self_left,Nat.mod_eq_of_lt h3]
   .rw[show nv a+W^i-nv b=nv out by omega,Nat.mod_eq_of_lt h3]
theorem nadd_ok (a b:List Nat)(ha:Lim a)(hb:Lim b)(hla:a.length<=2^40)(hlb:b.length<=2^40) :
  AC Tryz.prog 93 [cl a,cl b] none [cl (wd (nv a+nv b))]:=by
 refine AC.by_walk (rs:=[.tmp 4]) ords Tryz.func93 (by rfl) (by rfl) (by rfl) (by rfl) (by rfl) ?_;simp (disch:=omega) only[wt,seval,reduceCtorEq,Nat.reduceEqDiff];refine call_by ((ladd_ok a b ha hb hla hlb)) (by rfl) (by simp) ?_;simp (disch:=omega) only[wt,seval,reduceCtorEq,Nat.reduceEqDiff];generalize hn:max a.length b.length=n at *;refine call_by ((clone_ok (pad n (nv a+nv b)) (by rw[pad_len];omega))) (by first|rfl|(simp only[tocvs,tocv,toboxes,tobox,updH_at,Nat.reduceEqDiff,↓reduceIte,pad_len];rfl)) (by simp) ?_;simp (disch:=omega) only[wt,seval,reduceCtorEq,Nat.reduceEqDiff,pad_len];have hc:(nv a+nv b)/W^n<W:=by
  rw[Nat.div_lt_iff_lt_mul (W_pow_pos n)];have h4:=nv_lt ha;have h5:=nv_lt hb;have h6:W^a.length<=W^n:=Nat.pow_le_pow_right (by decide) (by omega);have h7:W^b.length<=W^n:=Nat.pow_le_pow_right (by decide) (by omega);have:2*W^n<=W*W^n:=Nat.mul_le_mul_right _ (by decide);omega
 have e:nv (pad n (nv a+nv b)++[(nv a+nv b)/W^n])=nv a+nv b:=by
  rw[nv_snoc,nv_pad,pad_len];exact Nat.mod_add_div _ _
 have:=own_ok (pad n (nv a+nv b)++[(nv a+nv b)/W^n]) ((lim_pad _ _).append (Lim.cons hc Lim.nil)) (by simp[pad_len];omega);rw[e]at this;refine call_by (this) (by rfl) (by simp) ?_;simp (disch:=omega) only[wt,seval,reduceCtorEq,Nat.reduceEqDiff]
theorem nsub_ok (a b:List Nat)(ha:Lim a)(hb:Lim b)(hla:a.length<=2^40)(hlb:b.length<=2^40) :
  AC Tryz.prog 114 [cl a,cl b] none [cl (if nv a<nv b then [] else wd (nv a-nv b)),ci (if nv a<nv b then 2 else 0)]:=by
 refine AC.by_walk (rs:=[.tmp 4,.tmp 5]) ords Tryz.func114 (by rfl) (by rfl) (by rfl) (by rfl) (by rfl) ?_;simp (disch:=omega) only[wt,seval,reduceCtorEq,Nat.reduceEqDiff];refine call_by ((lsub_ok a b ha hb hla hlb)) (by rfl) (by simp) ?_;simp (disch:=omega) only[wt,seval,reduceCtorEq,Nat.reduceEqDiff];generalize hn:max a.length b.length=n at *;by_cases h:nv a<nv b
 .simp (disch:=omega) only[wt,seval,reduceCtorEq,Nat.reduceEqDiff,h]
 .simp (disch:=omega) only[wt,seval,reduceCtorEq,Nat.reduceEqDiff,h];have h4:=nv_lt ha;have h6:W^a.length<=W^n:=Nat.pow_le_pow_right (by decide) (by omega);have e:nv (pad n (nv a+W^n-nv b))=nv a-nv b:=by
   rw[nv_pad,show nv a+W^n-nv b=(nv a-nv b)+W^n by omega,Nat.add_mod_right,Nat.mod_eq_of_lt (by omega)]
  have:=own_ok (pad n (nv a+W^n-nv b)) (lim_pad _ _) (by simp[pad_len];omega);rw[e]at this;refine call_by (this) (by first|rfl|(simp only[tocvs,tocv,toboxes,tobox,updH_at,Nat.reduceEqDiff,↓reduceIte,h];rfl)) (by simp) ?_;simp (disch:=omega) only[wt,seval,reduceCtorEq,Nat.reduceEqDiff,h]
theorem ndiff_ok (a b:List Nat)(ha:Lim a)(hb:Lim b)(hla:a.length<=2^40)(hlb:b.length<=2^40) :
  AC Tryz.prog 94 [cl a,cl b] none [cl (wd (if nv a<nv b then nv b-nv a else nv a-nv b)),.iv (.bool (decide (nv a<nv b)))]:=by
 refine AC.by_walk (rs:=[.tmp 4,.tmp 5]) ords Tryz.func94 (by rfl) (by rfl) (by rfl) (by rfl) (by rfl) ?_;simp (disch:=omega) only[wt,seval,reduceCtorEq,Nat.reduceEqDiff];refine call_by ((nsub_ok a b ha hb hla hlb)) (by rfl) (by simp) ?_;simp (disch:=omega) only[wt,seval,reduceCtorEq,Nat.reduceEqDiff];by_cases h:nv a<nv b
 .have h':¬nv b<nv a:=by omega
  simp (disch:=omega) only[wt,seval,reduceCtorEq,Nat.reduceEqDiff,h];refine call_by ((nsub_ok b a hb ha hlb hla)) (by first|rfl|(simp only[tocvs,tocv,toboxes,tobox,updH_at,Nat.reduceEqDiff,↓reduceIte,h,h'];rfl)) (by simp) ?_;simp (disch:=omega) only[wt,seval,reduceCtorEq,Nat.reduceEqDiff,h,h']
 .simp (disch:=omega) only[wt,seval,reduceCtorEq,Nat.reduceEqDiff,h]
abbrev cb (b:Bool):CV:=.iv (.bool b)
abbrev cr (c:RI):CV:=.agg (prow c)
abbrev cz (z:Int):CV:=.agg (prow (canon z))
theorem zof_ok (s:Bool)(n:Nat):AC Tryz.prog 82 [cb s,cl (wd n)] none [cz (sg s n)]:=by
 refine AC.by_walk (rs:=[.cell 4 29]) ords Tryz.func82 (by rfl) (by rfl) (by rfl) (by rfl) (by rfl) ?_;have hz:(0<((wd n).length:Int))↔n≠0:=by have:=wd_len_zero (n:=n);omega
 cases s
 .simp (disch:=omega) only[wt,seval,reduceCtorEq,Nat.reduceEqDiff];rw[canon_sg];rfl
 .simp (disch:=omega) only[wt,seval,reduceCtorEq,Nat.reduceEqDiff];rw[canon_sg];have h':decide (0<(wd n).length)=decide (n≠0):=by rw[decide_eq_decide];omega
  simp[prow,splice,h']
theorem znorm_ok (c:RI)(h:Sz (2^40) c):AC Tryz.prog 56 [cr c] none [cz (iv c)]:=by
 refine AC.by_walk (rs:=[.cell 2 29]) ords Tryz.func56 (by rfl) (by rfl) (by rfl) (by rfl) (by rfl) ?_;have hl:=h.1;simp (disch:=omega) only[wt,seval,reduceCtorEq,Nat.reduceEqDiff];refine .inl ⟨tmps_by (by kernel_rfl),?_⟩;refine call_by ((norm_ok c.2 h.2 (by omega))) (by rfl) (by simp) ?_;simp (disch:=omega) only[wt,seval,reduceCtorEq,Nat.reduceEqDiff];refine call_by ((zof_ok c.1 (nv c.2))) (by rfl) (by simp) ?_;simp (disch:=omega) only[wt,seval,reduceCtorEq,Nat.reduceEqDiff]
 first|exact log_by (by kernel_rfl)|refine⟨log_by (by kernel_rfl),?_⟩
 rfl
theorem sign_of_canon (z:Int):z.sign=if z<0 then -1 else if 0<(zl z:Int) then 1 else 0:=by
 by_cases h:z<0
 .rw[if_pos h];exact Int.sign_eq_neg_one_of_neg h
 .rw[if_neg h];have:=wd_len_zero (n:=z.natAbs);by_cases h0:z=0
  .subst h0;simp[zl_zero]
  .rw[if_pos (by unfold zl;omega)];exact Int.sign_eq_one_of_pos (by omega)
theorem zsign_ok (c:RI)(h:Sz (2^40) c):AC Tryz.prog 29 [cr c] none [ci (iv c).sign]:=by
 refine AC.by_walk (rs:=[.tmp 2]) ords Tryz.func29 (by rfl) (by rfl) (by rfl) (by rfl) (by rfl) ?_;simp (disch:=omega) only[wt,seval,reduceCtorEq,Nat.reduceEqDiff];refine call_by ((znorm_ok c h)) (by rfl) (by simp) ?_;simp (disch:=omega) only[wt,seval,reduceCtorEq,Nat.reduceEqDiff];rw[sign_of_canon];refine if_by (λhn=>?_) (λhn=>?_)
 .simp (disch:=omega) only[wt,seval,reduceCtorEq,Nat.reduceEqDiff,hn]
 .simp (disch:=omega) only[wt,seval,reduceCtorEq,Nat.reduceEqDiff,hn];refine if_by (λhp=>?_) (λhp=>?_)
  .simp (disch:=omega) only[wt,seval,reduceCtorEq,Nat.reduceEqDiff,hp,zl]
  .simp (disch:=omega) only[wt,seval,reduceCtorEq,Nat.reduceEqDiff,hp,zl]
theorem zadd_ok (a b:RI)(ha:Sz (2^40) a)(hb:Sz (2^40) b):AC Tryz.prog 70 [cr a,cr b] none [cz (iv a+iv b)]:=by
 refine AC.by_walk (rs:=[.cell 4 29]) ords Tryz.func70 (by rfl) (by rfl) (by rfl) (by rfl) (by rfl) ?_;have hla:=ha.1;have hlb:=hb.1;simp (disch:=omega) only[wt,seval,reduceCtorEq,Nat.reduceEqDiff];refine if_bool (λhe=>?_) (λhe=>?_)
 .have he:a.1=b.1:=by simpa using he
  rw[iv_add_same he];simp (disch:=omega) only[wt,seval,reduceCtorEq,Nat.reduceEqDiff];refine .inl ⟨tmps_by (by kernel_rfl),?_⟩;refine call_by ((nadd_ok a.2 b.2 ha.2 hb.2 (by omega) (by omega))) (by rfl) (by simp) ?_;simp (disch:=omega) only[wt,seval,reduceCtorEq,Nat.reduceEqDiff];refine call_by ((zof_ok a.1 (nv a.2+nv b.2))) (by rfl) (by simp) ?_;simp (disch:=omega) only[wt,seval,reduceCtorEq,Nat.reduceEqDiff]
  first|exact log_by (by kernel_rfl)|refine⟨log_by (by kernel_rfl),?_⟩
 .have he:a.1≠b.1:=by simpa using he
  rw[iv_add_diff he];simp (disch:=omega) only[wt,seval,reduceCtorEq,Nat.reduceEqDiff];refine call_by ((ndiff_ok a.2 b.2 ha.2 hb.2 (by omega) (by omega))) (by rfl) (by simp) ?_;simp (disch:=omega) only[wt,seval,reduceCtorEq,Nat.reduceEqDiff];refine call_by ((zof_ok (a.1 != decide (nv a.2<nv b.2)) (if nv a.2<nv b.2 then nv b.2-nv a.2 else nv a.2-nv b.2))) (by rfl) (by simp) ?_;simp (disch:=omega) only[wt,seval,reduceCtorEq,Nat.reduceEqDiff]
theorem mcut_ok (l:List Nat)(n:Nat)(h:Lim l)(hl:l.length<=2^40)(hn:n<=2^40):AC Tryz.prog 126 [cl l,ci n] none [cl (wd (nv l/W^n)),cl (wd (nv l%W^n))]:=by
 refine AC.by_walk (rs:=[.tmp 4,.tmp 5]) ords Tryz.func126 (by rfl) (by rfl) (by rfl) (by rfl) (by rfl) ?_;rw[<-nv_drop h,<-nv_take h];simp (disch:=omega) only[wt,seval,reduceCtorEq,Nat.reduceEqDiff];have e:min (n:Int) (l.length:Int)=((min n l.length:Nat):Int):=by omega
 rw[e];simp (disch:=omega) only[wt,seval,reduceCtorEq,Nat.reduceEqDiff];refine .inl ⟨tmps_by (by kernel_rfl),?_⟩;have e1:(l.drop (min n l.length)).take ((l.length:Int)-((min n l.length:Nat):Int)).toNat=l.drop n:=by
  rw[List.take_of_length_le (by rw[List.length_drop];omega)];by_cases hc:n<=l.length
  .rw[Nat.min_eq_left hc]
  .rw[Nat.min_eq_right (by omega),List.drop_of_length_le (by omega),List.drop_of_length_le (by omega)]
 have e2:l.take (min n l.length)=l.take n:=by
  by_cases hc:n<=l.length
  .rw[Nat.min_eq_left hc]
  .rw[Nat.min_eq_right (by omega),List.take_of_length_le (by omega),List.take_of_length_le (by omega)]
 rw[e1];refine call_by ((norm_ok (l.drop n) (h.drop n) (by rw[List.length_drop];omega))) (by rfl) (by simp) ?_;simp (disch:=omega) only[wt,seval,reduceCtorEq,Nat.reduceEqDiff];rw[e2];refine call_by ((norm_ok (l.take n) (h.take n) (by rw[List.length_take];omega))) (by rfl) (by simp) ?_;simp (disch:=omega) only[wt,seval,reduceCtorEq,Nat.reduceEqDiff]
 first|exact log_by (by kernel_rfl)|refine⟨log_by (by kernel_rfl),?_⟩
theorem lift_ok (l:List Nat)(n:Nat)(hl:l.length<=2^40)(hn:n<=2^40):AC Tryz.prog 127 [cl l,ci n] none [cl (liftl n l)]:=by
 refine AC.by_walk (rs:=[.tmp 4]) ords Tryz.func127 (by rfl) (by rfl) (by rfl) (by rfl) (by rfl) ?_;unfold liftl;simp (disch:=omega) only[wt,seval,reduceCtorEq,Nat.reduceEqDiff];refine if_by (λhz=>?_) (λhz=>?_)
 .have hz:l.length=0:=by omega
  simp (disch:=omega) only[wt,seval,reduceCtorEq,Nat.reduceEqDiff,hz]
 .have hz:¬l.length=0:=by omega
  simp (disch:=omega) only[wt,seval,reduceCtorEq,Nat.reduceEqDiff,hz]
def ProdOk (x y:Nat):Prop:=AC Tryz.prog 92 [cl (wd x),cl (wd y)] none [cl (wd (x*y))]
theorem halves_ok (x y:Nat)(m:Nat)(hm:m=((wd y).length+1)/2)(ih:∀u v,(wd u).length<=m+1->(wd v).length<=m+1->ProdOk u v)(hxy:(wd x).length<=(wd y).length)(hl:(wd y).length<=2^36) :
  AC Tryz.prog 109 [cl (wd x),cl (wd y)] none [cl (wd (x*y))]:=by
 refine AC.by_walk (rs:=[.tmp 4]) ords Tryz.func109 (by rfl) (by rfl) (by rfl) (by rfl) (by rfl) ?_;have hq:Int.tdiv ((wd y).length+1:Int) 2=(m:Int):=by rw[Int.tdiv_eq_ediv_of_nonneg (by omega)];omega
 have hlt:∀z,(wd z).length<=2*m->(wd (z/W^m)).length<=m/\(wd (z%W^m)).length<=m:=by
  intro z hz;refine⟨wd_len_le.mpr ?_,wd_len_le.mpr (Nat.mod_lt _ (W_pow_pos m))⟩;rw[Nat.div_lt_iff_lt_mul (W_pow_pos m),<-Nat.pow_add,<-Nat.two_mul];exact wd_len_le.mp hz
 obtain⟨hx1,hx0⟩:=hlt x (by omega);obtain⟨hy1,hy0⟩:=hlt y (by omega);obtain⟨hk,hle⟩:=kara x y (W^m) (W_pow_pos m) _ _ _ _ rfl rfl rfl rfl;simp (disch:=omega) only[wt,seval,reduceCtorEq,Nat.reduceEqDiff,hq];have c1:=mcut_ok (wd x) m (lim_wd x) (by omega) (by omega);have c2:=mcut_ok (wd y) m (lim_wd y) (by omega) (by omega);rw[nv_wd]at c1 c2;refine call_by (c1) (by rfl) (by simp) ?_;simp (disch:=omega) only[wt,seval,reduceCtorEq,Nat.reduceEqDiff];refine call_by (c2) (by rfl) (by simp) ?_;simp (disch:=omega) only[wt,seval,reduceCtorEq,Nat.reduceEqDiff];generalize x/W^m=x1 at *;generalize x%W^m=x0 at *;generalize y/W^m=y1 at *;generalize y%W^m=y0 at *;have p1:=ih x1 y1 (by omega) (by omega);have p0:=ih x0 y0 (by omega) (by omega);have ax:=wd_add_len x1 x0;have ay:=wd_add_len y1 y0;have pm:=ih (x1+x0) (y1+y0) (by omega) (by omega);unfold ProdOk at p1 p0 pm;have l1:=wd_mul_len x1 y1;have l0:=wd_mul_len x0 y0;have lm:=wd_mul_len (x1+x0) (y1+y0);refine call_by (p1) (by rfl) (by simp) ?_;simp (disch:=omega) only[wt,seval,reduceCtorEq,Nat.reduceEqDiff];refine call_by (p0) (by rfl) (by simp) ?_;simp (disch:=omega) only[wt,seval,reduceCtorEq,Nat.reduceEqDiff];have s1:=nadd_ok (wd x1) (wd x0) (lim_wd _) (lim_wd _) (by omega) (by omega);have s2:=nadd_ok (wd y1) (wd y0) (lim_wd _) (lim_wd _) (by omega) (by omega);have s3:=nadd_ok (wd (x1*y1)) (wd (x0*y0)) (lim_wd _) (lim_wd _) (by omega) (by omega);simp only[nv_wd]at s1 s2 s3;have ls:=wd_add_len (x1*y1) (x0*y0);refine call_by (s1) (by rfl) (by simp) ?_;simp (disch:=omega) only[wt,seval,reduceCtorEq,Nat.reduceEqDiff];refine call_by (s2) (by rfl) (by simp) ?_;simp (disch:=omega) only[wt,seval,reduceCtorEq,Nat.reduceEqDiff];refine call_by (pm) (by rfl) (by simp) ?_;simp (disch:=omega) only[wt,seval,reduceCtorEq,Nat.reduceEqDiff];refine call_by (s3) (by rfl) (by simp) ?_;simp (disch:=omega) only[wt,seval,reduceCtorEq,Nat.reduceEqDiff];have s4:=nsub_ok (wd ((x1+x0)*(y1+y0))) (wd (x1*y1+x0*y0)) (lim_wd _) (lim_wd _) (by omega) (by omega);simp only[nv_wd,if_neg (Nat.not_lt.mpr hle)]at s4;refine call_by (s4) (by rfl) (by simp) ?_;simp (disch:=omega) only[wt,seval,reduceCtorEq,Nat.reduceEqDiff];generalize hM:(x1+x0)*(y1+y0)-(x1*y1+x0*y0)=M at *;have lM:(wd M).length<=(wd ((x1+x0)*(y1+y0))).length:=wd_len_mono (by omega);have e2m:(2:Int)*(m:Int)=((2*m:Nat):Int):=by omega
 rw[e2m];refine call_by ((lift_ok (wd (x1*y1)) (2*m) (by omega) (by omega))) (by rfl) (by simp) ?_;simp (disch:=omega) only[wt,seval,reduceCtorEq,Nat.reduceEqDiff];refine call_by ((lift_ok (wd M) m (by omega) (by omega))) (by rfl) (by simp) ?_;simp (disch:=omega) only[wt,seval,reduceCtorEq,Nat.reduceEqDiff];have ll1:=liftl_len (2*m) (wd (x1*y1));have ll2:=liftl_len m (wd M);have s5:=nadd_ok (liftl (2*m) (wd (x1*y1))) (liftl m (wd M)) (lim_liftl _ (lim_wd _)) (lim_liftl _ (lim_wd _)) (by omega) (by omega);rw[nv_liftl,nv_liftl,nv_wd,nv_wd]at s5;refine call_by (s5) (by rfl) (by simp) ?_;simp (disch:=omega) only[wt,seval,reduceCtorEq,Nat.reduceEqDiff];have hxyl:=wd_mul_len x y;have e5:W^(2*m)*(x1*y1)+W^m*M+x0*y0=x*y:=by
  rw[<-hk,Nat.two_mul,Nat.pow_add]
 have s6:=nadd_ok (wd (W^(2*m)*(x1*y1)+W^m*M)) (wd (x0*y0)) (lim_wd _) (lim_wd _) (Nat.le_trans (wd_len_mono (Nat.le.intro e5)) (by omega)) (by omega);rw[nv_wd,nv_wd,e5]at s6;refine call_by (s6) (by rfl) (by simp) ?_;simp (disch:=omega) only[wt,seval,reduceCtorEq,Nat.reduceEqDiff]
theorem product_ok:∀(n x y:Nat),max (wd x).length (wd y).length<=n->(wd x).length<=2^36->(wd y).length<=2^36->ProdOk x y:=by
 intro n
 induction n using Nat.strongRecOn with
 |_ n ih =>
 intro x y hn hx hy;unfold ProdOk;refine AC.by_walk (rs:=[.tmp 4]) ords Tryz.func92 (by rfl) (by rfl) (by rfl) (by rfl) (by rfl) ?_;simp (disch:=omega) only[wt,seval,reduceCtorEq,Nat.reduceEqDiff];refine if_cut (λf H=>∃u v,(wd u).length<=(wd v).length/\(wd v).length<=2^36/\(wd v).length<=n/\u*v=x*y/\f 0=.iv (.sl (lims (wd u)))/\f 1=.iv (.sl (lims (wd v)))) ?_ ?_
 .refine if_by (λhz=>?_) (λhz=>?_)
  .simp (disch:=omega) only[wt,seval,reduceCtorEq,Nat.reduceEqDiff];exact⟨y,x,by omega,by omega,by omega,Nat.mul_comm _ _,rfl,rfl⟩
  .simp (disch:=omega) only[wt,seval,reduceCtorEq,Nat.reduceEqDiff];exact⟨x,y,by omega,by omega,by omega,rfl,rfl,rfl⟩
 rintro f H ⟨u,v,huv,hv,hvn,e,h0,h1⟩;rw[<-e];clear e hn hx hy;have hu:(wd u).length<=2^36:=by omega
 simp (disch:=omega) only[wt,seval,reduceCtorEq,Nat.reduceEqDiff,h0,h1];refine if_by (λhz=>?_) (λhz=>?_)
 .have hz:u=0:=wd_len_zero.mp (by omega);subst hz;simp (disch:=omega) only[wt,seval,reduceCtorEq,Nat.reduceEqDiff,Nat.zero_mul,wd_zero]
 simp (disch:=omega) only[wt,seval,reduceCtorEq,Nat.reduceEqDiff,h0,h1];refine if_by (λhz=>?_) (λhz=>?_)
 .simp (disch:=omega) only[wt,seval,reduceCtorEq,Nat.reduceEqDiff,h0,h1];refine call_by ((halves_ok u v (((wd v).length+1)/2) rfl (λa b ha hb=>ih (((wd v).length+1)/2+1) (by omega) a b (by omega) (by omega) (by omega)) huv hv)) (by first|rfl|(simp only[tocvs,tocv,toboxes,tobox,updH_at,Nat.reduceEqDiff,↓reduceIte,h0,h1];rfl)) (by simp) ?_;simp (disch:=omega) only[wt,seval,reduceCtorEq,Nat.reduceEqDiff,h0,h1]
 simp (disch:=omega) only[wt,seval,reduceCtorEq,Nat.reduceEqDiff,h0,h1];generalize hA:wd u=A at *;generalize hB:wd v=B at *;have lA:Lim A:=by rw[<-hA];exact lim_wd u
 have lB:Lim B:=by rw[<-hB];exact lim_wd v
 have eA:nv A=u:=by rw[<-hA];exact nv_wd u
 have eB:nv B=v:=by rw[<-hB];exact nv_wd v
 have eN:((A.length:Int)+(B.length:Int))=((A.length+B.length:Nat):Int):=by omega
 rw[eN];simp (disch:=omega) only[wt,seval,reduceCtorEq,Nat.reduceEqDiff,h0,h1];refine aloop_by (λf H=>∃(i:Nat) (out:List Nat) (st:Nat),i<=A.length/\Lim out/\out.length=A.length+B.length/\nv (out.take (i+B.length))=nv (A.take i)*nv B /\
  f 1=.iv (.sl (lims B))/\f 5=.hs 34 st/\f 35=.iv (.sl (lims A))/\f 36=.iv (.int .i64 A.length)/\f 37=.iv (.int .i64 i)/\H 34=.blk false st 92 1 (lims out)) (λf H=>(A.length-intAt f 37).toNat) ?_ ?_
 .refine⟨0,List.replicate (A.length+B.length) 0,(H 34).stamp+1,by omega,Lim.replicate _,by simp,?_,by simp (disch:=omega) only[wt,seval,reduceCtorEq,Nat.reduceEqDiff,h1],by simp (disch:=omega) only[wt,seval,reduceCtorEq,Nat.reduceEqDiff],by simp (disch:=omega) only[wt,seval,reduceCtorEq,Nat.reduceEqDiff,h0],by simp (disch:=omega) only[wt,seval,reduceCtorEq,Nat.reduceEqDiff,h0],by simp (disch:=omega) only[wt,seval,reduceCtorEq,Nat.reduceEqDiff],by simp (disch:=omega) only[wt,seval,reduceCtorEq,Nat.reduceEqDiff,Int.toNat_natCast]⟩;rw[List.take_replicate,Nat.zero_add];simp[nv,vl_replicate,vl]
 clear h0 h1;rintro f H ⟨i,out,st,hi,hO,hOl,hOv,h1,h5,h35,h36,h37,hH⟩;rw[intAt_of h37];simp (disch:=omega) only[wt,seval,reduceCtorEq,Nat.reduceEqDiff,h1,h5,h35,h36,h37,hH];refine if_by (λhlt=>?_) (λhlt=>?_)
 .simp (disch:=omega) only[wt,seval,reduceCtorEq,Nat.reduceEqDiff,h1,h5,h35,h36,h37,hH];refine aloop_by (λf H=>∃(j c:Nat) (out:List Nat) (st:Nat),j<=B.length/\c<W/\Lim out/\out.length=A.length+B.length/\nv (out.take (i+B.length))+W^(i+j)*c=nv (A.take i)*nv B+(W^i*A.getD i 0)*nv (B.take j) /\
   f 1=.iv (.sl (lims B))/\f 5=.hs 34 st/\f 6=.iv (.int .i64 i)/\f 7=.iv (.int .u64 (A.getD i 0:Nat))/\f 8=.iv (.int .u64 c)/\f 35=.iv (.sl (lims A))/\f 36=.iv (.int .i64 A.length)/\f 37=.iv (.int .i64 i)/\f 42=.iv (.sl (lims B))/\f 43=.iv (.int .i64 B.length)/\f 44=.iv (.int .i64 j)/\H 34=.blk false st 92 1 (lims out)) (λf H=>(B.length-intAt f 44).toNat) ?_ ?_
  .refine⟨0,0,out,st,by omega,by decide,hO,hOl,?_,by simp (disch:=omega) only[wt,seval,reduceCtorEq,Nat.reduceEqDiff,h1],by simp (disch:=omega) only[wt,seval,reduceCtorEq,Nat.reduceEqDiff,h5],by simp (disch:=omega) only[wt,seval,reduceCtorEq,Nat.reduceEqDiff],by simp (disch:=omega) only[wt,seval,reduceCtorEq,Nat.reduceEqDiff],by simp (disch:=omega) only[wt,seval,reduceCtorEq,Nat.reduceEqDiff],by simp (disch:=omega) only[wt,seval,reduceCtorEq,Nat.reduceEqDiff,h35],by simp (disch:=omega) only[wt,seval,reduceCtorEq,Nat.reduceEqDiff,h36],by simp (disch:=omega) only[wt,seval,reduceCtorEq,Nat.reduceEqDiff,h37],by simp (disch:=omega) only[wt,seval,reduceCtorEq,Nat.reduceEqDiff],by simp (disch:=omega) only[wt,seval,reduceCtorEq,Nat.reduceEqDiff],by simp (disch:=omega) only[wt,seval,reduceCtorEq,Nat.reduceEqDiff],by simp (disch:=omega) only[wt,seval,reduceCtorEq,Nat.reduceEqDiff,hH]⟩;rw[hOv];simp[nv,vl]
  have hAi:=lA.get i;clear h1 h5 h35 h36 h37 hH hOv hO hOl;clear out st f H;rintro f H ⟨j,c,out,st,hj,hc,hO,hOl,hOv,h1,h5,h6,h7,h8,h35,h36,h37,h42,h43,h44,hH⟩;rw[intAt_of h44];simp (disch:=omega) only[wt,seval,reduceCtorEq,Nat.reduceEqDiff,h1,h5,h6,h7,h8,h35,h36,h37,h42,h43,h44,hH];refine if_by (λhlj=>?_) (λhlj=>?_)
  .simp (disch:=omega) only[wt,seval,reduceCtorEq,Nat.reduceEqDiff,h1,h5,h6,h7,h8,h35,h36,h37,h42,h43,h44,hH];have eij:(i:Int)+(j:Int)=((i+j:Nat):Int):=by omega
   rw[eij];simp (disch:=omega) only[wt,seval,reduceCtorEq,Nat.reduceEqDiff,h1,h5,h6,h7,h8,h35,h36,h37,h42,h43,h44,hH];have hBj:=lB.get j;have hOij:=hO.get (i+j);refine call_by ((mulw_ok (B.getD j 0) (A.getD i 0) c (out.getD (i+j) 0) hBj hAi hc hOij)) (by first|rfl|(simp only[tocvs,tocv,toboxes,tobox,updH_at,Nat.reduceEqDiff,↓reduceIte,h1,h5,h6,h7,h8,h35,h36,h37,h42,h43,h44,hH];rfl)) (by simp) ?_;simp (disch:=omega) only[wt,seval,reduceCtorEq,Nat.reduceEqDiff,h1,h5,h6,h7,h8,h35,h36,h37,h42,h43,h44,hH];have hm:B.getD j 0*A.getD i 0<=18446744073709551615*18446744073709551615:=Nat.mul_le_mul (by simp only[W]at hBj;omega) (by simp only[W]at hAi;omega);refine⟨⟨j+1,(B.getD j 0*A.getD i 0+c+out.getD (i+j) 0)/W,out.set (i+j) ((B.getD j 0*A.getD i 0+c+out.getD (i+j) 0)%W),st,by omega,by simp only[W]at *;omega,hO.set (Nat.mod_lt _ (by decide)),by simp[hOl],?_,rfl,rfl,by omega,rfl⟩,by omega⟩;have hT:=nv_set_take (l:=out) (k:=i+j) (m:=i+B.length) (by omega) (by omega) ((B.getD j 0*A.getD i 0+c+out.getD (i+j) 0)%W);have hN:nv (B.take (j+1))=nv (B.take j)+W^j*B.getD j 0:=vl_take_next W B j;rw[hN,Nat.mul_add,<-Nat.add_assoc i j 1,Nat.pow_succ];have hR:=row_step (A:=B.getD j 0*A.getD i 0) (hi:=(B.getD j 0*A.getD i 0+c+out.getD (i+j) 0)/W) hOv hT (by rw[Nat.mul_comm];exact Nat.div_add_mod _ _);rw[hR]
   congr 2
   rw[Nat.pow_add];ac_rfl
  .simp (disch:=omega) only[wt,seval,reduceCtorEq,Nat.reduceEqDiff,h1,h5,h6,h7,h8,h35,h36,h37,h42,h43,h44,hH];have hjB:j=B.length:=by omega
   subst hjB;have eij:(i:Int)+(B.length:Int)=((i+B.length:Nat):Int):=by omega
   rw[eij];simp (disch:=omega) only[wt,seval,reduceCtorEq,Nat.reduceEqDiff,h1,h5,h6,h7,h8,h35,h36,h37,h42,h43,h44,hH];refine⟨⟨i+1,out.set (i+B.length) c,st,by omega,hO.set hc,by simp[hOl],?_,rfl,by omega,rfl⟩,by omega⟩;rw[show i+1+B.length=(i+B.length)+1 by omega];have hT:nv ((out.set (i+B.length) c).take (i+B.length+1))=nv (out.take (i+B.length))+W^(i+B.length)*c:=vl_take_set W (by omega) c;have hN:nv (A.take (i+1))=nv (A.take i)+W^i*A.getD i 0:=vl_take_next W A i;rw[List.take_length]at hOv;rw[hT,hOv,hN,Nat.add_mul]
 .simp (disch:=omega) only[wt,seval,reduceCtorEq,Nat.reduceEqDiff,h1,h5,h35,h36,h37,hH];have hiA:i=A.length:=by omega
  subst hiA;rw[List.take_of_length_le (by omega),List.take_of_length_le (by omega),eA,eB]at hOv;have t:=trim_ok out (by omega);rw[<-wd_nv hO,hOv]at t;refine call_by (t) (by first|rfl|(simp only[tocvs,tocv,toboxes,tobox,updH_at,Nat.reduceEqDiff,↓reduceIte,h1,h5,h35,h36,h37,hH];rfl)) (by simp) ?_;simp (disch:=omega) only[wt,seval,reduceCtorEq,Nat.reduceEqDiff,h1,h5,h35,h36,h37,hH]
theorem mmul_ok (a b:List Nat)(ha:Lim a)(hb:Lim b)(hla:a.length<=2^36)(hlb:b.length<=2^36):AC Tryz.prog 69 [cl a,cl b] none [cl (wd (nv a*nv b))]:=by
 refine AC.by_walk (rs:=[.tmp 4]) ords Tryz.func69 (by rfl) (by rfl) (by rfl) (by rfl) (by rfl) ?_;have h1:=nv_len ha;have h2:=nv_len hb;simp (disch:=omega) only[wt,seval,reduceCtorEq,Nat.reduceEqDiff];refine call_by ((norm_ok a ha (by omega))) (by rfl) (by simp) ?_;simp (disch:=omega) only[wt,seval,reduceCtorEq,Nat.reduceEqDiff];refine call_by ((norm_ok b hb (by omega))) (by rfl) (by simp) ?_;simp (disch:=omega) only[wt,seval,reduceCtorEq,Nat.reduceEqDiff];have p:=product_ok _ (nv a) (nv b) (Nat.le_refl _) (by omega) (by omega);unfold ProdOk at p;refine call_by (p) (by rfl) (by simp) ?_;simp (disch:=omega) only[wt,seval,reduceCtorEq,Nat.reduceEqDiff]
theorem zmul_ok (a b:RI)(ha:Sz (2^36) a)(hb:Sz (2^36) b):AC Tryz.prog 68 [cr a,cr b] none [cz (iv a*iv b)]:=by
 refine AC.by_walk (rs:=[.cell 4 29]) ords Tryz.func68 (by rfl) (by rfl) (by rfl) (by rfl) (by rfl) ?_;rw[iv_mul];have h1:=ha.1;have h2:=hb.1;simp (disch:=omega) only[wt,seval,reduceCtorEq,Nat.reduceEqDiff];refine .inl ⟨tmps_by (by kernel_rfl),?_⟩;refine call_by ((mmul_ok a.2 b.2 ha.2 hb.2 (by omega) (by omega))) (by rfl) (by simp) ?_;simp (disch:=omega) only[wt,seval,reduceCtorEq,Nat.reduceEqDiff];have hb:(!(a.1 == b.1))=(a.1 != b.1):=rfl;rw[hb];refine call_by ((zof_ok (a.1 != b.1) (nv a.2*nv b.2))) (by rfl) (by simp) ?_;simp (disch:=omega) only[wt,seval,reduceCtorEq,Nat.reduceEqDiff]
 first|exact log_by (by kernel_rfl)|refine⟨log_by (by kernel_rfl),?_⟩
abbrev cw (p:List RI):CV:=.iv (.sl (raws p))
abbrev cp (q:List Int):CV:=.iv (.sl (cpoly q))
theorem wrap_neg_u64 {n:Int}(h : -9223372036854775808<=n)(h':n<0):IntKind.u64.wrap (0-IntKind.u64.wrap n)=((n.natAbs:Nat):Int):=by
 simp only[IntKind.wrap,IntKind.signed,IntKind.bits,Bool.false_and,Bool.false_eq_true,if_false];omega
theorem wrap_pos_u64 {n:Int}(h:0<=n)(h':n<=9223372036854775807):IntKind.u64.wrap n=((n.natAbs:Nat):Int):=by
 simp only[IntKind.wrap,IntKind.signed,IntKind.bits,Bool.false_and,Bool.false_eq_true,if_false];omega
theorem zOf_ok (n:Int)(h : -9223372036854775808<=n)(h':n<=9223372036854775807):AC Tryz.prog 65 [ci n] none [cz n]:=by
 refine AC.by_walk (rs:=[.cell 2 29]) ords Tryz.func65 (by rfl) (by rfl) (by rfl) (by rfl) (by rfl) ?_;simp (disch:=omega) only[wt,seval,reduceCtorEq,Nat.reduceEqDiff];refine if_by (λhn=>?_) (λhn=>?_)
 .simp (disch:=omega) only[wt,seval,reduceCtorEq,Nat.reduceEqDiff];rw[wrap_neg_u64 h hn];refine call_by ((nof_ok n.natAbs (by simp only[W];omega))) (by rfl) (by simp) ?_;simp (disch:=omega) only[wt,seval,reduceCtorEq,Nat.reduceEqDiff];have e:n=sg true n.natAbs:=by unfold sg;simp;omega
  have:=zof_ok true n.natAbs;rw[<-e]at this;refine call_by (this) (by rfl) (by simp) ?_;simp (disch:=omega) only[wt,seval,reduceCtorEq,Nat.reduceEqDiff]
 .simp (disch:=omega) only[wt,seval,reduceCtorEq,Nat.reduceEqDiff];rw[wrap_pos_u64 (by omega) h'];refine call_by ((nof_ok n.natAbs (by simp only[W];omega))) (by rfl) (by simp) ?_;simp (disch:=omega) only[wt,seval,reduceCtorEq,Nat.reduceEqDiff];have e:n=sg false n.natAbs:=by unfold sg;simp;omega
  have:=zof_ok false n.natAbs;rw[<-e]at this;refine call_by (this) (by rfl) (by simp) ?_;simp (disch:=omega) only[wt,seval,reduceCtorEq,Nat.reduceEqDiff]
theorem size_ok (p:List RI)(h:RP (2^40) (2^40) p):AC Tryz.prog 58 [cw p] none [ci (tz (pv p))]:=by
 refine AC.by_walk (rs:=[.tmp 2]) ords Tryz.func58 (by rfl) (by rfl) (by rfl) (by rfl) (by rfl) ?_;have hl:=h.1;simp (disch:=omega) only[wt,seval,reduceCtorEq,Nat.reduceEqDiff];refine aloop_by (λf H=>∃k:Nat,k<=p.length/\f 0=.iv (.sl (raws p))/\f 3=.iv (.int .i64 k)/\tz ((pv p).take k)=tz (pv p)) (λf H=>(intAt f 3).toNat) ?_ ?_
 .exact⟨p.length,Nat.le_refl _,by simp (disch:=omega) only[wt,seval,reduceCtorEq,Nat.reduceEqDiff],by simp (disch:=omega) only[wt,seval,reduceCtorEq,Nat.reduceEqDiff],by rw[<-pv_len p,List.take_length]⟩
 rintro f H ⟨k,hk,h0,h3,ht⟩;rw[intAt_of h3];by_cases hc:0<(k:Int)
 .simp (disch:=omega) only[wt,seval,reduceCtorEq,Nat.reduceEqDiff,h0,h3,hc];have ek:((k:Int)-1).toNat=k-1:=by omega
  have ek':k=(k-1)+1:=by omega
  rw[ek];refine call_by ((zsign_ok (p.getD (k-1) (false,[])) (h.get _))) (by first|rfl|(simp only[tocvs,tocv,toboxes,tobox,updH_at,Nat.reduceEqDiff,↓reduceIte,h0,h3,hc];rfl)) (by simp) ?_;simp (disch:=omega) only[wt,seval,reduceCtorEq,Nat.reduceEqDiff,h0,h3,hc];rw[<-cf_pv];refine if_by (λhz=>?_) (λhz=>?_)
  .simp (disch:=omega) only[wt,seval,reduceCtorEq,Nat.reduceEqDiff,h0,h3];refine⟨⟨k-1,by omega,by omega,?_⟩,by omega⟩;rw[<-tz_take_zero (k:=k-1) (by rw[pv_len];omega) (Int.sign_eq_zero_iff_zero.mp hz),<-ek',ht]
  .simp (disch:=omega) only[wt,seval,reduceCtorEq,Nat.reduceEqDiff,h0,h3];rw[<-ht,ek',tz_full (by rw[pv_len];omega) (λe=>hz (Int.sign_eq_zero_iff_zero.mpr e))]
 .simp (disch:=omega) only[wt,seval,reduceCtorEq,Nat.reduceEqDiff,h0,h3,hc];obtain rfl:k=0:=by omega
  rw[<-ht];rfl
theorem trimz_take_succ {q:List Int}{k:Nat}(h:k<tz q):(trimz q).take (k+1)=(trimz q).take k++[cf q k]:=by
 rw[List.take_add_one]
 congr 1
 rw[<-cf_trimz];have:k<(trimz q).length:=by rw[trimz_len];exact h
 simp[cf,List.getD,this]
theorem pnorm_ok (p:List RI)(h:RP (2^40) (2^40) p):AC Tryz.prog 81 [cw p] none [cp (pv p)]:=by
 refine AC.by_walk (rs:=[.tmp 2]) ords Tryz.func81 (by rfl) (by rfl) (by rfl) (by rfl) (by rfl) ?_;have hl:=h.1;have htl:=tz_le (pv p);rw[pv_len]at htl;simp (disch:=omega) only[wt,seval,reduceCtorEq,Nat.reduceEqDiff];refine call_by ((size_ok p h)) (by rfl) (by simp) ?_;simp (disch:=omega) only[wt,seval,reduceCtorEq,Nat.reduceEqDiff];refine aloop_nil 3 3 29 2 (by simp (disch:=omega) only[wt,seval,reduceCtorEq,Nat.reduceEqDiff]) (λf H=>∃(k st:Nat),k<=tz (pv p)/\f 0=.iv (.sl (raws p))/\f 3=.hs 3 st/\f 6=.iv (.int .i64 (tz (pv p)))/\f 7=.iv (.int .i64 k)/\H 3=.blk false st 29 2 (raws (((trimz (pv p)).take k).map canon))) (λf H=>(tz (pv p)-intAt f 7).toNat) ?_ ?_
 .refine⟨0,1,by omega,?_⟩;simp (disch:=omega) only[wt,seval,reduceCtorEq,Nat.reduceEqDiff,ghostF,ghostH,List.take_zero]
 rintro f H ⟨k,st,hk,h0,h3,h6,h7,hH⟩;rw[intAt_of h7];simp (disch:=omega) only[wt,seval,reduceCtorEq,Nat.reduceEqDiff,h0,h3,h6,h7,hH];refine if_by (λhlt=>?_) (λhlt=>?_)
 .simp (disch:=omega) only[wt,seval,reduceCtorEq,Nat.reduceEqDiff,h0,h3,h6,h7,hH];have hq:(((trimz (pv p)).take k).map canon).length=k:=by rw[List.length_map,List.length_take,trimz_len];omega
  refine call_by ((znorm_ok (p.getD k (false,[])) (h.get _))) (by first|rfl|(simp only[tocvs,tocv,toboxes,tobox,updH_at,Nat.reduceEqDiff,↓reduceIte,h0,h3,h6,h7,hH,hq];rfl)) (by simp) ?_;simp (disch:=omega) only[wt,seval,reduceCtorEq,Nat.reduceEqDiff,h0,h3,h6,h7,hH,hq];refine⟨⟨k+1,st+1,by omega,rfl,by omega,?_⟩,by omega⟩;rw[trimz_take_succ (by omega),cf_pv]
 .simp (disch:=omega) only[wt,seval,reduceCtorEq,Nat.reduceEqDiff,h0,h3,h6,h7,hH];have hk:k=tz (pv p):=by omega
  rw[hk,List.take_of_length_le (by rw[trimz_len];exact Nat.le_refl _)];rfl
theorem pdeg_ok (p:List RI)(h:RP (2^40) (2^40) p):AC Tryz.prog 31 [cw p] none [ci ((tz (pv p):Int)-1)]:=by
 refine AC.by_walk (rs:=[.tmp 2]) ords Tryz.func31 (by rfl) (by rfl) (by rfl) (by rfl) (by rfl) ?_;have hl:=h.1;have htl:=tz_le (pv p);rw[pv_len]at htl;simp (disch:=omega) only[wt,seval,reduceCtorEq,Nat.reduceEqDiff];refine call_by ((size_ok p h)) (by rfl) (by simp) ?_;simp (disch:=omega) only[wt,seval,reduceCtorEq,Nat.reduceEqDiff]
end Go.Proofs.YtnjaeokkfbihlaaGreat
