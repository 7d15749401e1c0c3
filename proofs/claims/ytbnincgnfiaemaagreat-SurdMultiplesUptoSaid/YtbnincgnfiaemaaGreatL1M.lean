/-
 Contracts of the functions that the law reaches.
-/
import Derived.Test.YtbnincgnfiaemaaGreatTyA
import Derived.Test.YtbnincgnfiaemaaGreatAbsW
import Derived.Laws.Externs
set_option maxHeartbeats 2000000
namespace Go.Proofs.YtbnincgnfiaemaaGreat
open Go Go.Proofs Go.AL
set_option linter.unusedSimpArgs false
set_option linter.unusedVariables false
abbrev cl (l:List Nat):CV:=.iv (.sl (lims l))
abbrev cu (x:Nat):CV:=.iv (.int .u64 (x:Int))
abbrev ci (n:Int):CV:=.iv (.int .i64 n)
def subEntry:Array Value->Sem Value:=λargs=>do
 let (x, y, b) ← Extern.MathBitsCarry.three "Sub64" args
 pure (Extern.MathBitsCarry.pair ((x+Extern.MathBitsCarry.m64-y-b)%Extern.MathBitsCarry.m64) (if x<y+b then 1 else 0))
theorem add64_ok (x y c:Nat)(hc:c<=1):AC Tryz.prog 267 [cu x,cu y,cu c] none [cu ((x+y+c)%W),cu ((x+y+c)/W)]:=by
 refine AC.of_run [(.u64,x),(.u64,y),(.u64,c)] [(.u64,((x+y+c)%W:Nat)),(.u64,((x+y+c)/W:Nat))] rfl rfl λw=>?_;show (callFunc _ #[.int .u64 x,.int .u64 y,.int .u64 c]).run Tryz.prog w=_;rw[run_callFunc_extern Tryz.func267 (by kernel_rfl) (by kernel_rfl) (by kernel_rfl) (e:=add64Entry) (by kernel_rfl),run_add64 x y c (by omega) (by omega) (by omega) (by omega)];simp only[Result.andThen,packV,List.map]
 congr 5<;>omega
theorem sub64_ok (x y b:Nat)(hb:b<=1):AC Tryz.prog 274 [cu x,cu y,cu b] none [cu ((x+W-y-b)%W),cu (if x<y+b then 1 else 0)]:=by
 refine AC.of_run [(.u64,x),(.u64,y),(.u64,b)] [(.u64,((x+W-y-b)%W:Nat)),(.u64,((if x<y+b then 1 else 0:Nat):Int))] rfl rfl λw=>?_;show (callFunc _ #[.int .u64 x,.int .u64 y,.int .u64 b]).run Tryz.prog w=_;rw[run_callFunc_extern Tryz.func274 (by kernel_rfl) (by kernel_rfl) (by kernel_rfl) (e:=subEntry) (by kernel_rfl)];have:b=0\/b=1:=by omega
 rcases this with rfl|rfl<;>rfl
theorem clone_ok (l:List Nat)(hl:l.length<=2^43):AC Tryz.prog 188 [cl l] (some (0,93,1,lims l)) [cl l]:=by
 refine AC.by_walk (rs:=[.tmp 2]) ords Tryz.func188 (by rfl) (by rfl) (by rfl) (by rfl) (by rfl) ?_;simp (disch:=omega) only[wt,seval,reduceCtorEq,Nat.reduceEqDiff];by_cases hn:l=[]
 .subst hn;refine if_ub ?_ ?_
  .simp (disch:=omega) only[wt,seval,reduceCtorEq,Nat.reduceEqDiff,lims_nil]
  .simp (disch:=omega) only[wt,seval,reduceCtorEq,Nat.reduceEqDiff]
 .have he:(lims l).isEmpty=false:=by cases l with|nil=>exact(hn rfl).elim|cons x xs=>rfl
  simp (disch:=omega) only[wt,seval,reduceCtorEq,Nat.reduceEqDiff,he]
theorem at_ok (l:List Nat)(i:Nat)(hl:l.length<=2^43):AC Tryz.prog 254 [cl l,ci i] none [cu (l.getD i 0)]:=by
 refine AC.by_walk (rs:=[.tmp 4]) ords Tryz.func254 (by rfl) (by rfl) (by rfl) (by rfl) (by rfl) ?_;simp (disch:=omega) only[wt,seval,reduceCtorEq,Nat.reduceEqDiff];refine if_by (λh=>?_) (λh=>?_)
 .simp (disch:=omega) only[wt,seval,reduceCtorEq,Nat.reduceEqDiff]
 .simp (disch:=omega) only[wt,seval,reduceCtorEq,Nat.reduceEqDiff];rw[List.getD_eq_getElem?_getD,List.getElem?_eq_none (by omega)];rfl
theorem addw_ok (x y c:Nat)(hx:x<W)(hy:y<W)(hc:c<W):AC Tryz.prog 253 [cu x,cu y,cu c] none [cu ((x+y+c)%W),cu ((x+y+c)/W)]:=by
 refine AC.by_walk (rs:=[.tmp 6,.tmp 7]) ords Tryz.func253 (by rfl) (by rfl) (by rfl) (by rfl) (by rfl) ?_;simp (disch:=omega) only[wt,seval,reduceCtorEq,Nat.reduceEqDiff];refine call_by ((add64_ok x y 0 (by omega))) (by rfl) (by simp) ?_;simp (disch:=omega) only[wt,seval,reduceCtorEq,Nat.reduceEqDiff];refine call_by ((add64_ok ((x+y+0)%W) c 0 (by omega))) (by rfl) (by simp) ?_;simp (disch:=omega) only[wt,seval,reduceCtorEq,Nat.reduceEqDiff];rw[wrap_u64 (by simp only[W]at *;omega)];simp only[W]at *;omega
theorem subw_ok (x y c:Nat)(hx:x<W)(hy:y<W)(hc:c<=1):AC Tryz.prog 268 [cu x,cu y,cu c] none [cu ((x+W-y-c)%W),cu (if x<y+c then 1 else 0)]:=by
 refine AC.by_walk (rs:=[.tmp 6,.tmp 7]) ords Tryz.func268 (by rfl) (by rfl) (by rfl) (by rfl) (by rfl) ?_;simp (disch:=omega) only[wt,seval,reduceCtorEq,Nat.reduceEqDiff];refine call_by ((sub64_ok x y 0 (by omega))) (by rfl) (by simp) ?_;simp (disch:=omega) only[wt,seval,reduceCtorEq,Nat.reduceEqDiff];refine call_by ((sub64_ok ((x+W-y-0)%W) c 0 (by omega))) (by rfl) (by simp) ?_;simp (disch:=omega) only[wt,seval,reduceCtorEq,Nat.reduceEqDiff];rw[wrap_u64 (by simp only[W]at *;split<;>split<;>omega)];simp only[W]at *;split<;>split<;>split<;>omega
theorem and_low32 (x:Nat)(hx:x<W):IntKind.u64.wrap ((BitVec.ofInt IntKind.u64.bits (x:Int)&&&BitVec.ofInt IntKind.u64.bits 4294967295).toNat:Int)=((x%4294967296:Nat):Int):=by
 have h:(BitVec.ofInt 64 (x:Int)&&&BitVec.ofInt 64 4294967295).toNat=x%4294967296:=by
  have e1:BitVec.ofInt 64 (x:Int)=BitVec.ofNat 64 x:=by simp
  have e2:(BitVec.ofInt 64 4294967295:BitVec 64)=BitVec.ofNat 64 (2^32-1):=by rfl
  rw[e1,e2,BitVec.toNat_and,BitVec.toNat_ofNat,BitVec.toNat_ofNat];rw[Nat.mod_eq_of_lt (show x<2^64 from hx),Nat.mod_eq_of_lt (by decide:2^32-1<2^64),Nat.and_two_pow_sub_one_eq_mod]
 show IntKind.u64.wrap ((BitVec.ofInt 64 (x:Int)&&&BitVec.ofInt 64 4294967295).toNat:Int)=_;rw[h,wrap_u64 (by omega)]
theorem shr_32 (x:Nat):((x:Int)).fdiv (2^min 32 IntKind.u64.bits)=((x/4294967296:Nat):Int):=by
 show ((x:Int)).fdiv 4294967296=_;rw[Int.fdiv_eq_ediv_of_nonneg _ (by omega)];rfl
theorem wrap_nat {n:Nat}(h:n<W):IntKind.u64.wrap (n:Int)=(n:Int):=wrap_u64 (by simp only[W]at h;omega)
theorem wrap_add_nat {m n:Nat}(h:m+n<W):IntKind.u64.wrap ((m:Int)+(n:Int))=((m+n:Nat):Int):=by rw[wrap_u64 (by simp only[W]at h;omega)];omega
theorem wrap_mul_nat {m n:Nat}(h:m*n<W):IntKind.u64.wrap ((m:Int)*(n:Int))=((m*n:Nat):Int):=by rw[<-Int.natCast_mul,wrap_nat h]
theorem wrap_mul_mod (m n:Nat):IntKind.u64.wrap ((m:Int)*(n:Int))=((m*n%W:Nat):Int):=by
 rw[<-Int.natCast_mul];simp only[IntKind.wrap,IntKind.signed,IntKind.bits,Bool.false_and,Bool.false_eq_true,if_false];simp only[W];omega
theorem mul64_num {x y:Nat}(hx:x<W)(hy:y<W):∃P Q R S,P=x%4294967296*(y%4294967296)/\Q=x/4294967296*(y%4294967296)/\R=x%4294967296*(y/4294967296)/\S=x/4294967296*(y/4294967296) /\
  P<=18446744065119617025/\Q<=18446744065119617025/\R<=18446744065119617025/\S<=18446744065119617025/\x*y=P+4294967296*(Q+R)+18446744073709551616*S:=by
 simp only[W]at hx hy;have h0:x%4294967296<=4294967295:=by omega
 have h1:x/4294967296<=4294967295:=by omega
 have h2:y%4294967296<=4294967295:=by omega
 have h3:y/4294967296<=4294967295:=by omega
 refine⟨_,_,_,_,rfl,rfl,rfl,rfl,Nat.mul_le_mul h0 h2,Nat.mul_le_mul h1 h2,Nat.mul_le_mul h0 h3,Nat.mul_le_mul h1 h3,?_⟩;have ex:x=x%4294967296+4294967296*(x/4294967296):=by omega
 have ey:y=y%4294967296+4294967296*(y/4294967296):=by omega
 generalize x%4294967296=a at *;generalize x/4294967296=b at *;generalize y%4294967296=c at *;generalize y/4294967296=d at *;subst ex ey;simp only[Nat.add_mul,Nat.mul_add];have e1:4294967296*b*c=4294967296*(b*c):=Nat.mul_assoc _ _ _;have e2:a*(4294967296*d)=4294967296*(a*d):=Nat.mul_left_comm _ _ _;have e3:4294967296*b*(4294967296*d)=18446744073709551616*(b*d):=by
  rw[Nat.mul_mul_mul_comm]
 rw[e1,e2,e3];omega
theorem mul64_ok (x y:Nat)(hx:x<W)(hy:y<W):AC Tryz.prog 260 [cu x,cu y] none [cu (x*y/W),cu (x*y%W)]:=by
 refine AC.by_walk (rs:=[.tmp 4,.tmp 5]) ords Tryz.func260 (by rfl) (by rfl) (by rfl) (by rfl) (by rfl) ?_;simp (disch:=omega) only[wt,seval,reduceCtorEq,Nat.reduceEqDiff];obtain⟨P,Q,R,S,hP,hQ,hR,hS,bP,bQ,bR,bS,hxy⟩:=mul64_num hx hy;rw[and_low32 x hx,and_low32 y hy,shr_32 x,shr_32 y];rw[wrap_mul_nat (m:=x%4294967296) (by simp only[W];omega),wrap_mul_nat (m:=x/4294967296) (n:=y%4294967296) (by simp only[W];omega),wrap_mul_nat (m:=x%4294967296) (n:=y/4294967296) (by simp only[W];omega),wrap_mul_nat (m:=x/4294967296) (n:=y/4294967296) (by simp only[W];omega),wrap_mul_mod];clear hx hy;rw[<-hP,<-hQ,<-hR,<-hS,shr_32 P,wrap_add_nat (by simp only[W];omega),shr_32,and_low32 _ (by simp only[W];omega),wrap_add_nat (by simp only[W];omega),wrap_add_nat (by simp only[W];omega),shr_32,wrap_add_nat (by simp only[W];omega),hxy];simp only[W];refine⟨?_,trivial⟩;omega
theorem mulw_ok (x y a b:Nat)(hx:x<W)(hy:y<W)(ha:a<W)(hb:b<W):AC Tryz.prog 248 [cu x,cu y,cu a,cu b] none [cu ((x*y+a+b)/W),cu ((x*y+a+b)%W)]:=by
 refine AC.by_walk (rs:=[.tmp 8,.tmp 9]) ords Tryz.func248 (by rfl) (by rfl) (by rfl) (by rfl) (by rfl) ?_;simp (disch:=omega) only[wt,seval,reduceCtorEq,Nat.reduceEqDiff];refine call_by ((mul64_ok x y hx hy)) (by rfl) (by simp) ?_;simp (disch:=omega) only[wt,seval,reduceCtorEq,Nat.reduceEqDiff];refine call_by ((addw_ok (x*y%W) a b (Nat.mod_lt _ (by decide)) ha hb)) (by rfl) (by simp) ?_;simp (disch:=omega) only[wt,seval,reduceCtorEq,Nat.reduceEqDiff];have hm:x*y<=18446744073709551615*18446744073709551615:=Nat.mul_le_mul (by simp only[W]at hx;omega) (by simp only[W]at hy;omega);simp only[W]at *;rw[wrap_add_nat (by simp only[W];omega)];omega
theorem top_ok (l:List Nat)(hl:l.length<=2^43):AC Tryz.prog 231 [cl l] none [ci (topN l)]:=by
 refine AC.by_walk (rs:=[.tmp 2]) ords Tryz.func231 (by rfl) (by rfl) (by rfl) (by rfl) (by rfl) ?_;simp (disch:=omega) only[wt,seval,reduceCtorEq,Nat.reduceEqDiff];refine aloop_by (λf H=>∃k:Nat,k<=l.length/\f 0=.iv (.sl (lims l))/\f 3=.iv (.int .i64 k)/\topN (l.take k)=topN l) (λf H=>(intAt f 3).toNat) ?_ ?_
 .exact⟨l.length,Nat.le_refl _,by simp (disch:=omega) only[wt,seval,reduceCtorEq,Nat.reduceEqDiff],by simp (disch:=omega) only[wt,seval,reduceCtorEq,Nat.reduceEqDiff],by rw[List.take_length]⟩
 rintro f H ⟨k,hk,h0,h3,ht⟩;rw[intAt_of h3];by_cases hc:0<(k:Int)
 .simp (disch:=omega) only[wt,seval,reduceCtorEq,Nat.reduceEqDiff,h0,h3,hc];refine if_by (λhz=>?_) (λhz=>?_)
  .simp (disch:=omega) only[wt,seval,reduceCtorEq,Nat.reduceEqDiff,h0,h3];refine⟨⟨k-1,by omega,by omega,?_⟩,by omega⟩;have e:k=(k-1)+1:=by omega
   rw[<-topN_take_zero (k:=k-1) (by omega) (by rw[show ((k:Int)-1).toNat=k-1 by omega]at hz;exact_mod_cast hz),<-e,ht]
  .simp (disch:=omega) only[wt,seval,reduceCtorEq,Nat.reduceEqDiff,h0,h3];rw[<-ht,show k=(k-1)+1 by omega,topN_full (by omega) (by rw[show ((k:Int)-1).toNat=k-1 by omega]at hz;exact_mod_cast hz)]
 .simp (disch:=omega) only[wt,seval,reduceCtorEq,Nat.reduceEqDiff,h0,h3,hc];obtain rfl:k=0:=by omega
  rw[<-ht];rfl
theorem trim_ok (l:List Nat)(hl:l.length<=2^43):AC Tryz.prog 187 [cl l] none [cl (l.take (topN l))]:=by
 refine AC.by_walk (rs:=[.tmp 2]) ords Tryz.func187 (by rfl) (by rfl) (by rfl) (by rfl) (by rfl) ?_;have ht:=topN_le l;simp (disch:=omega) only[wt,seval,reduceCtorEq,Nat.reduceEqDiff];refine call_by ((top_ok l hl)) (by rfl) (by simp) ?_;simp (disch:=omega) only[wt,seval,reduceCtorEq,Nat.reduceEqDiff];refine call_by ((clone_ok (l.take (topN l)) (by rw[List.length_take];omega))) (by rfl) (by simp) ?_;simp (disch:=omega) only[wt,seval,reduceCtorEq,Nat.reduceEqDiff]
theorem own_ok (l:List Nat)(h:Lim l)(hl:l.length<=2^43):AC Tryz.prog 128 [cl l] none [cl (wd (nv l))]:=by
 refine AC.by_walk (rs:=[.tmp 2]) ords Tryz.func128 (by rfl) (by rfl) (by rfl) (by rfl) (by rfl) ?_;have ht:=topN_le l;simp (disch:=omega) only[wt,seval,reduceCtorEq,Nat.reduceEqDiff];refine call_by ((trim_ok l hl)) (by rfl) (by simp) ?_;simp (disch:=omega) only[wt,seval,reduceCtorEq,Nat.reduceEqDiff];rw[<-wd_nv h];refine if_by (λhz=>?_) (λhz=>?_)
 .simp (disch:=omega) only[wt,seval,reduceCtorEq,Nat.reduceEqDiff];have:wd (nv l)=[]:=by rw[<-List.length_eq_zero_iff];omega
  rw[this];rfl
 .simp (disch:=omega) only[wt,seval,reduceCtorEq,Nat.reduceEqDiff];refine call_by ((clone_ok (wd (nv l)) (by have:=nv_len h;omega))) (by rfl) (by simp) ?_;simp (disch:=omega) only[wt,seval,reduceCtorEq,Nat.reduceEqDiff]
theorem norm_ok (l:List Nat)(h:Lim l)(hl:l.length<=2^43):AC Tryz.prog 124 [cl l] none [cl (wd (nv l))]:=by
 refine AC.by_walk (rs:=[.tmp 2]) ords Tryz.func124 (by rfl) (by rfl) (by rfl) (by rfl) (by rfl) ?_;simp (disch:=omega) only[wt,seval,reduceCtorEq,Nat.reduceEqDiff];refine call_by ((own_ok l h hl)) (by rfl) (by simp) ?_;simp (disch:=omega) only[wt,seval,reduceCtorEq,Nat.reduceEqDiff]
theorem nof_ok (x:Nat)(hx:x<W):AC Tryz.prog 57 [cu x] none [cl (wd x)]:=by
 refine AC.by_walk (rs:=[.tmp 2]) ords Tryz.func57 (by rfl) (by rfl) (by rfl) (by rfl) (by rfl) ?_;simp (disch:=omega) only[wt,seval,reduceCtorEq,Nat.reduceEqDiff];have e:nv [x]=x:=by simp[nv,vl]
 have:=own_ok [x] (Lim.cons hx Lim.nil) (by simp);rw[e]at this;refine call_by (this) (by rfl) (by simp) ?_;simp (disch:=omega) only[wt,seval,reduceCtorEq,Nat.reduceEqDiff]
theorem ladd_ok (a b:List Nat)(ha:Lim a)(hb:Lim b)(hla:a.length<=2^40)(hlb:b.length<=2^40) :
  AC Tryz.prog 238 [cl a,cl b] none [cl (pad (max a.length b.length) (nv a+nv b)),cu ((nv a+nv b)/W^(max a.length b.length))]:=by
 refine AC.by_walk (rs:=[.tmp 4,.tmp 5]) ords Tryz.func238 (by rfl) (by rfl) (by rfl) (by rfl) (by rfl) ?_;simp (disch:=omega) only[wt,seval,reduceCtorEq,Nat.reduceEqDiff];refine if_cut (λf H=>∃A B,B.length<=A.length/\A.length<=2^40/\Lim A/\Lim B/\A.length=max a.length b.length/\nv A+nv B=nv a+nv b/\f 0=.iv (.sl (lims A))/\f 1=.iv (.sl (lims B))) ?_ ?_
 .refine if_by (λhz=>?_) (λhz=>?_)
  .simp (disch:=omega) only[wt,seval,reduceCtorEq,Nat.reduceEqDiff];exact⟨b,a,by omega,by omega,hb,ha,by omega,by omega,rfl,rfl⟩
  .simp (disch:=omega) only[wt,seval,reduceCtorEq,Nat.reduceEqDiff];exact⟨a,b,by omega,by omega,ha,hb,by omega,by omega,rfl,rfl⟩
 rintro f H ⟨A,B,hBA,hAl,hA,hB,hAm,hAB,h0,h1⟩;rw[<-hAm,<-hAB];simp (disch:=omega) only[wt,seval,reduceCtorEq,Nat.reduceEqDiff,h0,h1];refine call_by ((clone_ok A (by omega))) (by first|rfl|(simp only[tocvs,tocv,toboxes,tobox,updH_at,Nat.reduceEqDiff,↓reduceIte,h0,h1];rfl)) (by simp) ?_;simp (disch:=omega) only[wt,seval,reduceCtorEq,Nat.reduceEqDiff,h0,h1];refine aloop_by (λf H=>∃(i c:Nat) (out:List Nat) (st:Nat),i<=A.length/\c<=1/\Lim out/\out.length=A.length/\out.drop i=A.drop i/\nv (out.take i)+W^i*c=nv (A.take i)+nv (B.take i) /\
  f 0=.iv (.sl (lims A))/\f 1=.iv (.sl (lims B))/\f 6=.hs 17 st/\f 7=.iv (.int .u64 c)/\f 19=.iv (.int .i64 A.length)/\f 20=.iv (.int .i64 i)/\H 17=.blk false st 93 1 (lims out)) (λf H=>(A.length-intAt f 20).toNat) ?_ ?_
 .exact⟨0,0,A,(H 17).stamp+1,by omega,by omega,hA,rfl,rfl,by simp[vl],by simp (disch:=omega) only[wt,seval,reduceCtorEq,Nat.reduceEqDiff,h0],by simp (disch:=omega) only[wt,seval,reduceCtorEq,Nat.reduceEqDiff,h1],by simp (disch:=omega) only[wt,seval,reduceCtorEq,Nat.reduceEqDiff],by simp (disch:=omega) only[wt,seval,reduceCtorEq,Nat.reduceEqDiff],by simp (disch:=omega) only[wt,seval,reduceCtorEq,Nat.reduceEqDiff],by simp (disch:=omega) only[wt,seval,reduceCtorEq,Nat.reduceEqDiff],by simp (disch:=omega) only[wt,seval,reduceCtorEq,Nat.reduceEqDiff]⟩
 clear h0 h1;rintro f H ⟨i,c,out,st,hi,hc,hO,hOl,hOd,hOv,h0,h1,h6,h7,h19,h20,hH⟩;rw[intAt_of h20];simp (disch:=omega) only[wt,seval,reduceCtorEq,Nat.reduceEqDiff,h0,h1,h6,h7,h19,h20,hH];refine if_by (λhlt=>?_) (λhlt=>?_)
 .by_cases hb':(B.length:Int)<=i
  .by_cases hc':(c:Int)=0
   .simp (disch:=omega) only[wt,seval,reduceCtorEq,Nat.reduceEqDiff,h0,h1,h6,h7,h19,h20,hH,hb',hc'];obtain rfl:c=0:=by omega
    have e1:nv out=nv A+nv B:=by
     have e2:=vl_split W out (k:=i) (by omega);have e3:=vl_split W A (k:=i) (by omega);rw[List.take_of_length_le (l:=B) (by omega)]at hOv;rw[hOd]at e2;simp only[nv]at *;omega
    have e2:nv A+nv B<W^A.length:=by rw[<-e1,<-hOl];exact nv_lt hO
    rw[<-eq_pad hO hOl (s:=nv A+nv B) (by rw[e1,Nat.mod_eq_of_lt e2]),Nat.div_eq_of_lt e2];exact⟨rfl,rfl⟩
   .simp (disch:=omega) only[wt,seval,reduceCtorEq,Nat.reduceEqDiff,h0,h1,h6,h7,h19,h20,hH,hb',hc'];refine .inl ⟨tmps_by (by kernel_rfl),?_⟩;refine call_by ((at_ok B i (by omega))) (by first|rfl|(simp only[tocvs,tocv,toboxes,tobox,updH_at,Nat.reduceEqDiff,↓reduceIte,h0,h1,h6,h7,h19,h20,hH];rfl)) (by simp) ?_;simp (disch:=omega) only[wt,seval,reduceCtorEq,Nat.reduceEqDiff,h0,h1,h6,h7,h19,h20,hH];refine call_by ((addw_ok (A.getD i 0) (B.getD i 0) c (hA.get i) (hB.get i) (by simp only[W];omega))) (by first|rfl|(simp only[tocvs,tocv,toboxes,tobox,updH_at,Nat.reduceEqDiff,↓reduceIte,h0,h1,h6,h7,h19,h20,hH];rfl)) (by simp) ?_;simp (disch:=omega) only[wt,seval,reduceCtorEq,Nat.reduceEqDiff,h0,h1,h6,h7,h19,h20,hH]
    first|exact log_by (by kernel_rfl)|refine⟨log_by (by kernel_rfl),?_⟩
    have hx:=hA.get i;have hy:=hB.get i

    refine⟨⟨i+1,(A.getD i 0+B.getD i 0+c)/W,out.set i ((A.getD i 0+B.getD i 0+c)%W),st,by omega,by simp only[W]at *;omega,hO.set (Nat.mod_lt _ (by decide)),by simp[hOl],?_,?_,rfl,rfl,by omega,rfl⟩,by omega⟩
    .rw[List.drop_set_of_lt (by omega)];have:=congrArg (List.drop 1) hOd;simpa using this
    .simp only[nv]at *;rw[vl_take_set W (by omega),Nat.pow_succ,vl_take_next,vl_take_next];exact carry_step hOv (by simp only[W];omega)
  .simp (disch:=omega) only[wt,seval,reduceCtorEq,Nat.reduceEqDiff,h0,h1,h6,h7,h19,h20,hH,hb'];refine .inl ⟨tmps_by (by kernel_rfl),?_⟩;refine call_by ((at_ok B i (by omega))) (by first|rfl|(simp only[tocvs,tocv,toboxes,tobox,updH_at,Nat.reduceEqDiff,↓reduceIte,h0,h1,h6,h7,h19,h20,hH];rfl)) (by simp) ?_;simp (disch:=omega) only[wt,seval,reduceCtorEq,Nat.reduceEqDiff,h0,h1,h6,h7,h19,h20,hH];refine call_by ((addw_ok (A.getD i 0) (B.getD i 0) c (hA.get i) (hB.get i) (by simp only[W];omega))) (by first|rfl|(simp only[tocvs,tocv,toboxes,tobox,updH_at,Nat.reduceEqDiff,↓reduceIte,h0,h1,h6,h7,h19,h20,hH];rfl)) (by simp) ?_;simp (disch:=omega) only[wt,seval,reduceCtorEq,Nat.reduceEqDiff,h0,h1,h6,h7,h19,h20,hH]
   first|exact log_by (by kernel_rfl)|refine⟨log_by (by kernel_rfl),?_⟩
   have hx:=hA.get i;have hy:=hB.get i

   refine⟨⟨i+1,(A.getD i 0+B.getD i 0+c)/W,out.set i ((A.getD i 0+B.getD i 0+c)%W),st,by omega,by simp only[W]at *;omega,hO.set (Nat.mod_lt _ (by decide)),by simp[hOl],?_,?_,rfl,rfl,by omega,rfl⟩,by omega⟩
   .rw[List.drop_set_of_lt (by omega)];have:=congrArg (List.drop 1) hOd;simpa using this
   .simp only[nv]at *;rw[vl_take_set W (by omega),Nat.pow_succ,vl_take_next,vl_take_next];exact carry_step hOv (by simp only[W];omega)
 .simp (disch:=omega) only[wt,seval,reduceCtorEq,Nat.reduceEqDiff,h0,h1,h6,h7,h19,h20,hH];have hiA:i=A.length:=by omega
  subst hiA;rw[List.take_of_length_le (by omega),List.take_length,List.take_of_length_le (by omega)]at hOv;have hlt':=nv_lt hO;rw[hOl]at hlt';have e2:(nv A+nv B)/W^A.length=c:=by
   rw[<-hOv,Nat.add_mul_div_left _ _ (W_pow_pos _),Nat.div_eq_of_lt hlt',Nat.zero_add]
  rw[e2,<-eq_pad hO hOl (s:=nv A+nv B) (by rw[<-hOv,Nat.add_mul_mod_self_left,Nat.mod_eq_of_lt hlt'])];exact⟨rfl,rfl⟩
def bl (n:Nat):Nat:=if n=0 then 0 else n.log2+1
theorem bl_shift {x k:Nat}(h:2^k<=x):bl x=bl (x/2^k)+k:=by
 have h0:x≠0:=by have:=Nat.pow_pos (n:=k) (show 0<2 by decide);omega
 have h1:x/2^k≠0:=by
  intro h1;rw[Nat.div_eq_zero_iff]at h1;have:=Nat.pow_pos (n:=k) (show 0<2 by decide);omega
 unfold bl;rw[if_neg h0,if_neg h1];have h2:(x/2^k).log2=x.log2-k:=by
  rw[Nat.log2_eq_iff h1];have a1:=Nat.log2_self_le h0;have a2:=Nat.lt_log2_self (n:=x);have hk:k<=x.log2:=(Nat.le_log2 h0).mpr h;constructor
  .rw[Nat.le_div_iff_mul_le (Nat.pow_pos (by decide)),<-Nat.pow_add,Nat.sub_add_cancel hk];exact a1
  .rw[Nat.div_lt_iff_lt_mul (Nat.pow_pos (by decide)),<-Nat.pow_add];rw[show x.log2-k+1+k=x.log2+1 by omega];exact a2
 have hk:k<=x.log2:=(Nat.le_log2 h0).mpr h;omega
theorem bl_le {n k:Nat}:bl n<=k↔n<2^k:=by
 unfold bl;split
 .rename_i h;subst h;simp[Nat.pow_pos]
 .rename_i h;constructor
  .intro h';exact Nat.lt_of_lt_of_le Nat.lt_log2_self (Nat.pow_le_pow_right (by decide) h')
  .intro h';exact(Nat.log2_lt h).mpr h'
theorem shr_nat (x m:Nat)(hm:m<=64):((x:Int)).fdiv (2^min m IntKind.u64.bits)=((x/2^m:Nat):Int):=by
 rw[show min m IntKind.u64.bits=m from Nat.min_eq_left (by simp only[IntKind.bits];omega),Int.fdiv_eq_ediv_of_nonneg _ (by exact Int.le_of_lt (Int.pow_pos (by decide)))]
 norm_cast
theorem cst_str (S:ByteArray):cstA (.string S)=.iv (.raw (.string S)):=rfl
theorem astep_tab {S:ByteArray}{y d:Nat}{K:Fr->Hp->Log->Prop}{f:Fr}{H:Hp}{lg:Log}(h:∀n,n<256->n<S.size/\(S[n]?.getD 0).toNat=bl n)(hy:y<256)
  (hk:K (upd f d (.iv (.int .u8 (bl y)))) H (([],[])::lg)):AStep (some ⟨0<=(y:Int)/\(y:Int)<(S.size:Int),.iv (.int .u8 ((S[y]?.getD 0).toNat:Nat)),[],[],[]⟩) (some d) K f H lg:=by
 have h1:=h y hy;refine⟨⟨by omega,by omega⟩,?_⟩;show K (upd f d (.iv (.int .u8 ((S[y]?.getD 0).toNat:Nat)))) H _;rw[h1.2];exact hk
theorem len64_ok (x:Nat)(hx:x<W):AC Tryz.prog 215 [cu x] none [ci (bl x)]:=by
 refine AC.by_walk (rs:=[.tmp 2]) ords Tryz.func215 (by rfl) (by rfl) (by rfl) (by rfl) (by rfl) ?_;simp (disch:=omega) only[wt,seval,reduceCtorEq,Nat.reduceEqDiff];refine if_cut (λf H=>∃y n:Nat,y<2^32/\n<=32/\bl x=bl y+n/\f 0=.iv (.int .u64 y)/\f 2=.iv (.int .i64 n)) ?_ ?_
 .refine if_by (λh=>?_) (λh=>?_)
  .simp (disch:=omega) only[wt,seval,reduceCtorEq,Nat.reduceEqDiff,shr_nat x 32 (by omega)];exact⟨x/2^32,32,by simp only[W]at hx;omega,by omega,bl_shift (k:=32) (by omega),rfl,rfl⟩
  .simp (disch:=omega) only[wt,seval,reduceCtorEq,Nat.reduceEqDiff];exact⟨x,0,by omega,by omega,rfl,rfl,rfl⟩
 rintro f H ⟨y,n,hy,hn,e,hF⟩;rw[e];clear e hx;simp (disch:=omega) only[wt,seval,reduceCtorEq,Nat.reduceEqDiff,hF];refine if_cut (λf H=>∃z m:Nat,z<2^16/\m<=48/\bl y+n=bl z+m/\f 0=.iv (.int .u64 z)/\f 2=.iv (.int .i64 m)) ?_ ?_
 .refine if_by (λh=>?_) (λh=>?_)
  .have:=bl_shift (x:=y) (k:=16) (by omega);simp (disch:=omega) only[wt,seval,reduceCtorEq,Nat.reduceEqDiff,hF,shr_nat y 16 (by omega)];exact⟨y/2^16,n+16,by omega,by omega,by omega,rfl,by omega⟩
  .simp (disch:=omega) only[wt,seval,reduceCtorEq,Nat.reduceEqDiff,hF];exact⟨y,n,by omega,by omega,rfl,rfl,rfl⟩
 clear hF;rintro f H ⟨z,m,hz,hm,e,hF⟩;rw[e];clear e hy;simp (disch:=omega) only[wt,seval,reduceCtorEq,Nat.reduceEqDiff,hF];refine if_cut (λf H=>∃y n:Nat,y<2^8/\n<=56/\bl z+m=bl y+n/\f 0=.iv (.int .u64 y)/\f 2=.iv (.int .i64 n)) ?_ ?_
 .refine if_by (λh=>?_) (λh=>?_)
  .have:=bl_shift (x:=z) (k:=8) (by omega);simp (disch:=omega) only[wt,seval,reduceCtorEq,Nat.reduceEqDiff,hF,shr_nat z 8 (by omega)];exact⟨z/2^8,m+8,by omega,by omega,by omega,rfl,by omega⟩
  .simp (disch:=omega) only[wt,seval,reduceCtorEq,Nat.reduceEqDiff,hF];exact⟨z,m,by omega,by omega,rfl,rfl,rfl⟩
 clear hF;rintro f H ⟨y,n,hy,hn,e,hF⟩;rw[e];have hb:bl y<=8:=bl_le.mpr hy;have hw:IntKind.u8.wrap (y:Int)=(y:Int):=by
  simp only[IntKind.wrap,IntKind.signed,IntKind.bits,Bool.false_and,Bool.false_eq_true,if_false];omega
 have hw2:IntKind.i64.wrap (bl y:Int)=(bl y:Int):=wrap_i64 _ (by omega) (by omega);simp (disch:=omega) only[wt,seval,reduceCtorEq,Nat.reduceEqDiff,hF,hw,cst_str];refine astep_tab ?_ (by omega) ?_
 .decide +kernel
 simp (disch:=omega) only[wt,seval,reduceCtorEq,Nat.reduceEqDiff,hF,hw,hw2];omega
end Go.Proofs.YtbnincgnfiaemaaGreat
