/-
 Contracts of the functions that the law reaches.
-/
import Derived.Test.YtdpngipofekcfaaGreatTyA
import Derived.Test.YtdpngipofekcfaaGreatAbsQM
import Derived.Laws.Externs
set_option maxHeartbeats 2000000
namespace Go.Proofs.YtdpngipofekcfaaGreat
open Go Go.Proofs Go.AL
set_option linter.unusedSimpArgs false
set_option linter.unusedVariables false
abbrev cl (l:List Nat):CV:=.iv (.sl (bW l))
abbrev cu (x:Nat):CV:=.iv (.int .u64 (x:Int))
abbrev ci (n:Int):CV:=.iv (.int .i64 n)
def ZB:Array Value→Sem Value:=fun args=>do
 let (x, y, b) ← Extern.MathBitsCarry.three "Sub64" args
 pure (Extern.MathBitsCarry.pair ((x+Extern.MathBitsCarry.m64-y-b)%Extern.MathBitsCarry.m64) (if x<y+b then 1 else 0))
theorem BF (x y c:Nat)(hc:c≤1):AC Tryz.prog 314 [cu x,cu y,cu c] none [cu ((x+y+c)%W),cu ((x+y+c)/W)]:=by
 refine AC.of_run [(.u64,x),(.u64,y),(.u64,c)] [(.u64,((x+y+c)%W:Nat)),(.u64,((x+y+c)/W:Nat))] rfl rfl fun w=>?_;show (callFunc _ #[.int .u64 x,.int .u64 y,.int .u64 c]).run Tryz.prog w=_;rw[run_callFunc_extern Tryz.func314 (by kernel_rfl) (by kernel_rfl) (by kernel_rfl) (e:=add64Entry) (by kernel_rfl),run_add64 x y c (by omega) (by omega) (by omega) (by omega)];simp only[Result.andThen,oU,List.map]
 congr 5<;>omega
theorem Gy (x y b:Nat)(hb:b≤1):AC Tryz.prog 312 [cu x,cu y,cu b] none [cu ((x+W-y-b)%W),cu (if x<y+b then 1 else 0)]:=by
 refine AC.of_run [(.u64,x),(.u64,y),(.u64,b)] [(.u64,((x+W-y-b)%W:Nat)),(.u64,((if x<y+b then 1 else 0:Nat):Int))] rfl rfl fun w=>?_;show (callFunc _ #[.int .u64 x,.int .u64 y,.int .u64 b]).run Tryz.prog w=_;rw[run_callFunc_extern Tryz.func312 (by kernel_rfl) (by kernel_rfl) (by kernel_rfl) (e:=ZB) (by kernel_rfl)];have:b=0∨b=1:=by omega
 rcases this with rfl|rfl<;>rfl
theorem lY (l:List Nat)(hl:l.length≤2^43):AC Tryz.prog 258 [cl l] (some (0,148,1,bW l)) [cl l]:=by
 refine AC.aA (rs:=[.tmp 2]) aX Tryz.func258 (by rfl) (by rfl) (by rfl) (by rfl) (by rfl) ?_;simp (disch:=omega) only[wt,seval];by_cases hn:l=[]
 ·subst hn;refine a8O ?_ ?_
  ·simp (disch:=omega) only[wt,seval]
  ·simp (disch:=omega) only[wt,seval]
 ·have he:(bW l).isEmpty=false:=by cases l with|nil=>exact(hn rfl).elim|cons x xs=>rfl
  simp (disch:=omega) only[wt,seval,he]
theorem yZ (l:List Nat)(i:Nat)(hl:l.length≤2^43):AC Tryz.prog 290 [cl l,ci i] none [cu (l.getD i 0)]:=by
 refine AC.aA (rs:=[.tmp 4]) aX Tryz.func290 (by rfl) (by rfl) (by rfl) (by rfl) (by rfl) ?_;simp (disch:=omega) only[wt,seval];refine aQ (fun h=>?_) (fun h=>?_)
 ·simp (disch:=omega) only[wt,seval]
 ·simp (disch:=omega) only[wt,seval];rw[List.getD_eq_getElem?_getD,List.getElem?_eq_none (by omega)];rfl
theorem Em (x y c:Nat)(hx:x<W)(hy:y<W)(hc:c<W):AC Tryz.prog 289 [cu x,cu y,cu c] none [cu ((x+y+c)%W),cu ((x+y+c)/W)]:=by
 refine AC.aA (rs:=[.tmp 6,.tmp 7]) aX Tryz.func289 (by rfl) (by rfl) (by rfl) (by rfl) (by rfl) ?_;simp only[wt,seval];refine ah ((BF x y 0 (by omega))) (by rfl) (by simp) ?_;simp (disch:=omega) only[wt,seval];refine ah ((BF ((x+y+0)%W) c 0 (by omega))) (by rfl) (by simp) ?_;simp (disch:=omega) only[wt,seval];rw[wrap_u64 (by simp only[W]at *;omega)];simp only[W]at *;omega
theorem Vr (x y c:Nat)(hx:x<W)(hy:y<W)(hc:c≤1):AC Tryz.prog 315 [cu x,cu y,cu c] none [cu ((x+W-y-c)%W),cu (if x<y+c then 1 else 0)]:=by
 refine AC.aA (rs:=[.tmp 6,.tmp 7]) aX Tryz.func315 (by rfl) (by rfl) (by rfl) (by rfl) (by rfl) ?_;simp only[wt,seval];refine ah ((Gy x y 0 (by omega))) (by rfl) (by simp) ?_;simp (disch:=omega) only[wt,seval];refine ah ((Gy ((x+W-y-0)%W) c 0 (by omega))) (by rfl) (by simp) ?_;simp (disch:=omega) only[wt,seval];rw[wrap_u64 (by simp only[W]at *;split<;>split<;>omega)];simp only[W]at *;split<;>split<;>split<;>omega
theorem and_low32 (x:Nat)(hx:x<W):IntKind.u64.wrap ((BitVec.ofInt IntKind.u64.bits (x:Int)&&&BitVec.ofInt IntKind.u64.bits 4294967295).toNat:Int)=((x%4294967296:Nat):Int):=by
 have h:(BitVec.ofInt 64 (x:Int)&&&BitVec.ofInt 64 4294967295).toNat=x%4294967296:=by
  have e1:BitVec.ofInt 64 (x:Int)=BitVec.ofNat 64 x:=by simp
  have e2:(BitVec.ofInt 64 4294967295:BitVec 64)=BitVec.ofNat 64 (2^32-1):=by rfl
  rw[e1,e2,BitVec.toNat_and,BitVec.toNat_ofNat,BitVec.toNat_ofNat];rw[Nat.mod_eq_of_lt (show x<2^64 from hx),Nat.mod_eq_of_lt (by decide:2^32-1<2^64),Nat.and_two_pow_sub_one_eq_mod]
 show IntKind.u64.wrap ((BitVec.ofInt 64 (x:Int)&&&BitVec.ofInt 64 4294967295).toNat:Int)=_;rw[h,wrap_u64 (by omega)]
theorem BZ (x:Nat):((x:Int)).fdiv (2^min 32 IntKind.u64.bits)=((x/4294967296:Nat):Int):=by
 show ((x:Int)).fdiv 4294967296=_;rw[Int.fdiv_eq_ediv_of_nonneg _ (by omega)];rfl
theorem eX {n:Nat}(h:n<W):IntKind.u64.wrap (n:Int)=(n:Int):=wrap_u64 (by simp only[W]at h;omega)
theorem dV {m n:Nat}(h:m+n<W):IntKind.u64.wrap ((m:Int)+(n:Int))=((m+n:Nat):Int):=by rw[wrap_u64 (by simp only[W]at h;omega)];omega
theorem dU {m n:Nat}(h:m*n<W):IntKind.u64.wrap ((m:Int)*(n:Int))=((m*n:Nat):Int):=by rw[← Int.natCast_mul,eX h]
theorem jM (m n:Nat):IntKind.u64.wrap ((m:Int)*(n:Int))=((m*n%W:Nat):Int):=by
 rw[← Int.natCast_mul];simp only[IntKind.wrap,IntKind.signed,IntKind.bits,Bool.false_and,Bool.false_eq_true,if_false];simp only[W];omega
theorem Xe {x y:Nat}(hx:x<W)(hy:y<W):∃ P Q R S,P=x%4294967296*(y%4294967296)∧Q=x/4294967296*(y%4294967296)∧R=x%4294967296*(y/4294967296)∧S=x/4294967296*(y/4294967296) ∧
  P≤18446744065119617025∧Q≤18446744065119617025∧R≤18446744065119617025∧S≤18446744065119617025∧x*y=P+4294967296*(Q+R)+18446744073709551616*S:=by
 simp only[W]at hx hy;have h0:x%4294967296≤4294967295:=by omega
 have h1:x/4294967296≤4294967295:=by omega
 have h2:y%4294967296≤4294967295:=by omega
 have h3:y/4294967296≤4294967295:=by omega
 refine⟨_,_,_,_,rfl,rfl,rfl,rfl,Nat.mul_le_mul h0 h2,Nat.mul_le_mul h1 h2,Nat.mul_le_mul h0 h3,Nat.mul_le_mul h1 h3,?_⟩;have ex:x=x%4294967296+4294967296*(x/4294967296):=by omega
 have ey:y=y%4294967296+4294967296*(y/4294967296):=by omega
 generalize x%4294967296=a at *;generalize x/4294967296=b at *;generalize y%4294967296=c at *;generalize y/4294967296=d at *;subst ex ey;simp only[Nat.add_mul,Nat.mul_add];have e1:4294967296*b*c=4294967296*(b*c):=Nat.mul_assoc _ _ _;have e2:a*(4294967296*d)=4294967296*(a*d):=Nat.mul_left_comm _ _ _;have e3:4294967296*b*(4294967296*d)=18446744073709551616*(b*d):=by
  rw[Nat.mul_mul_mul_comm]
 rw[e1,e2,e3];omega
theorem Rx (x y:Nat)(hx:x<W)(hy:y<W):AC Tryz.prog 304 [cu x,cu y] none [cu (x*y/W),cu (x*y%W)]:=by
 refine AC.aA (rs:=[.tmp 4,.tmp 5]) aX Tryz.func304 (by rfl) (by rfl) (by rfl) (by rfl) (by rfl) ?_;simp (disch:=omega) only[wt,seval];obtain⟨P,Q,R,S,hP,hQ,hR,hS,bP,bQ,bR,bS,hxy⟩:=Xe hx hy;rw[and_low32 x hx,and_low32 y hy,BZ x,BZ y];rw[dU (m:=x%4294967296) (by simp only[W];omega),dU (m:=x/4294967296) (n:=y%4294967296) (by simp only[W];omega),dU (m:=x%4294967296) (n:=y/4294967296) (by simp only[W];omega),dU (m:=x/4294967296) (n:=y/4294967296) (by simp only[W];omega),jM];clear hx hy;rw[← hP,← hQ,← hR,← hS,BZ P,dV (by simp only[W];omega),BZ,and_low32 _ (by simp only[W];omega),dV (by simp only[W];omega),dV (by simp only[W];omega),BZ,dV (by simp only[W];omega),hxy];simp only[W];refine⟨?_,trivial⟩;omega
theorem OV (x y a b:Nat)(hx:x<W)(hy:y<W)(ha:a<W)(hb:b<W):AC Tryz.prog 283 [cu x,cu y,cu a,cu b] none [cu ((x*y+a+b)/W),cu ((x*y+a+b)%W)]:=by
 refine AC.aA (rs:=[.tmp 8,.tmp 9]) aX Tryz.func283 (by rfl) (by rfl) (by rfl) (by rfl) (by rfl) ?_;simp only[wt,seval];refine ah ((Rx x y hx hy)) (by rfl) (by simp) ?_;simp (disch:=omega) only[wt,seval];refine ah ((Em (x*y%W) a b (Nat.mod_lt _ (by decide)) ha hb)) (by rfl) (by simp) ?_;simp (disch:=omega) only[wt,seval];have hm:x*y≤18446744073709551615*18446744073709551615:=Nat.mul_le_mul (by simp only[W]at hx;omega) (by simp only[W]at hy;omega);simp only[W]at *;rw[dV (by simp only[W];omega)];omega
theorem JY (l:List Nat)(hl:l.length≤2^43):AC Tryz.prog 288 [cl l] none [ci (jk l)]:=by
 refine AC.aA (rs:=[.tmp 2]) aX Tryz.func288 (by rfl) (by rfl) (by rfl) (by rfl) (by rfl) ?_;simp (disch:=omega) only[wt,seval];refine aH (fun f H=>∃ k:Nat,k≤l.length∧f 0=.iv (.sl (bW l))∧f 3=.iv (.int .i64 k)∧jk (l.take k)=jk l) (fun f H=>(aY f 3).toNat) ?_ ?_
 ·exact⟨l.length,Nat.le_refl _,by simp only[wt,seval],by simp only[wt,seval],by rw[List.take_length]⟩
 rintro f H ⟨k,hk,h0,h3,ht⟩;rw[aB h3];by_cases hc:0<(k:Int)
 ·simp (disch:=omega) only[wt,seval,h0,h3,hc];refine aQ (fun hz=>?_) (fun hz=>?_)
  ·simp (disch:=omega) only[wt,seval,h0,h3];refine⟨⟨k-1,by omega,by omega,?_⟩,by omega⟩;have e:k=(k-1)+1:=by omega
   rw[← kV (k:=k-1) (by omega) (by rw[show ((k:Int)-1).toNat=k-1 by omega]at hz;exact_mod_cast hz),← e,ht]
  ·simp (disch:=omega) only[wt,seval,h3];rw[← ht,show k=(k-1)+1 by omega,vV (by omega) (by rw[show ((k:Int)-1).toNat=k-1 by omega]at hz;exact_mod_cast hz)]
 ·simp (disch:=omega) only[wt,seval,h3,hc];obtain rfl:k=0:=by omega
  rw[← ht];rfl
theorem Gw (l:List Nat)(hl:l.length≤2^43):AC Tryz.prog 257 [cl l] none [cl (l.take (jk l))]:=by
 refine AC.aA (rs:=[.tmp 2]) aX Tryz.func257 (by rfl) (by rfl) (by rfl) (by rfl) (by rfl) ?_;have ht:=oC l;simp only[wt,seval];refine ah ((JY l hl)) (by rfl) (by simp) ?_;simp (disch:=omega) only[wt,seval];refine ah ((lY (l.take (jk l)) (by rw[List.length_take];omega))) (by rfl) (by simp) ?_;simp (disch:=omega) only[wt,seval]
theorem FN (l:List Nat)(h:Lim l)(hl:l.length≤2^43):AC Tryz.prog 196 [cl l] none [cl (wd (nv l))]:=by
 refine AC.aA (rs:=[.tmp 2]) aX Tryz.func196 (by rfl) (by rfl) (by rfl) (by rfl) (by rfl) ?_;have ht:=oC l;simp only[wt,seval];refine ah ((Gw l hl)) (by rfl) (by simp) ?_;simp (disch:=omega) only[wt,seval];rw[← Tn h];refine aQ (fun hz=>?_) (fun hz=>?_)
 ·simp (disch:=omega) only[wt,seval];have:wd (nv l)=[]:=by rw[← List.length_eq_zero_iff];omega
  rw[this];rfl
 ·simp only[wt,seval];refine ah ((lY (wd (nv l)) (by have:=fJ h;omega))) (by rfl) (by simp) ?_;simp (disch:=omega) only[wt,seval]
theorem jv (l:List Nat)(h:Lim l)(hl:l.length≤2^43):AC Tryz.prog 252 [cl l] none [cl (wd (nv l))]:=by
 refine AC.aA (rs:=[.tmp 2]) aX Tryz.func252 (by rfl) (by rfl) (by rfl) (by rfl) (by rfl) ?_;simp only[wt,seval];refine ah ((FN l h hl)) (by rfl) (by simp) ?_;simp (disch:=omega) only[wt,seval]
theorem D8 (x:Nat)(hx:x<W):AC Tryz.prog 107 [cu x] none [cl (wd x)]:=by
 refine AC.aA (rs:=[.tmp 2]) aX Tryz.func107 (by rfl) (by rfl) (by rfl) (by rfl) (by rfl) ?_;simp (disch:=omega) only[wt,seval];have e:nv [x]=x:=by simp[nv,vl]
 have:=FN [x] (Lim.cons hx Lim.nil) (by simp);rw[e]at this;refine ah (this) (by rfl) (by simp) ?_;simp (disch:=omega) only[wt,seval]
theorem Xn (a b:List Nat)(ha:Lim a)(hb:Lim b)(hla:a.length≤2^40)(hlb:b.length≤2^40) :
  AC Tryz.prog 263 [cl a,cl b] none [cl (pad (max a.length b.length) (nv a+nv b)),cu ((nv a+nv b)/W^(max a.length b.length))]:=by
 refine AC.aA (rs:=[.tmp 4,.tmp 5]) aX Tryz.func263 (by rfl) (by rfl) (by rfl) (by rfl) (by rfl) ?_;simp (disch:=omega) only[wt,seval];refine Dq (fun f H=>∃ A B,B.length≤A.length∧A.length≤2^40∧Lim A∧Lim B∧A.length=max a.length b.length∧nv A+nv B=nv a+nv b∧f 0=.iv (.sl (bW A))∧f 1=.iv (.sl (bW B))) ?_ ?_
 ·refine aQ (fun hz=>?_) (fun hz=>?_)
  ·simp only[wt,seval];exact⟨b,a,by omega,by omega,hb,ha,by omega,by omega,rfl,rfl⟩
  ·simp only[wt,seval];exact⟨a,b,by omega,by omega,ha,hb,by omega,by omega,rfl,rfl⟩
 rintro f H ⟨A,B,hBA,hAl,hA,hB,hAm,hAB,h0,h1⟩;rw[← hAm,← hAB];simp only[wt,seval,h0];refine ah ((lY A (by omega))) (by rfl) (by simp) ?_;simp (disch:=omega) only[wt,seval];refine aH (fun f H=>∃ (i c:Nat) (out:List Nat) (st:Nat),i≤A.length∧c≤1∧Lim out∧out.length=A.length∧out.drop i=A.drop i∧nv (out.take i)+W^i*c=nv (A.take i)+nv (B.take i) ∧
  f 0=.iv (.sl (bW A))∧f 1=.iv (.sl (bW B))∧f 6=.hs 17 st∧f 7=.iv (.int .u64 c)∧f 19=.iv (.int .i64 A.length)∧f 20=.iv (.int .i64 i)∧H 17=.blk false st 148 1 (bW out)) (fun f H=>(A.length-aY f 20).toNat) ?_ ?_
 ·exact⟨0,0,A,(H 17).stamp+1,by omega,by omega,hA,rfl,rfl,by simp[vl],by simp only[wt,seval,h0],by simp only[wt,seval,h1],by simp only[wt,seval],by simp only[wt,seval],by simp only[wt,seval],by simp only[wt,seval],by simp only[wt,seval]⟩
 clear h0 h1;rintro f H ⟨i,c,out,st,hi,hc,hO,hOl,hOd,hOv,h0,h1,h6,h7,h19,h20,hH⟩;rw[aB h20];simp (disch:=omega) only[wt,seval,h19,h20];refine aQ (fun hlt=>?_) (fun hlt=>?_)
 ·by_cases hb':(B.length:Int)≤i
  ·by_cases hc':(c:Int)=0
   ·simp (disch:=omega) only[wt,seval,h1,h6,h7,h20,hH,hb',hc'];obtain rfl:c=0:=by omega
    have e1:nv out=nv A+nv B:=by
     have e2:=fA W out (k:=i) (by omega);have e3:=fA W A (k:=i) (by omega);rw[List.take_of_length_le (l:=B) (by omega)]at hOv;rw[hOd]at e2;simp only[nv]at *;omega
    have e2:nv A+nv B<W^A.length:=by rw[← e1,← hOl];exact iJ hO
    rw[← mZ hO hOl (s:=nv A+nv B) (by rw[e1,Nat.mod_eq_of_lt e2]),Nat.div_eq_of_lt e2];exact⟨rfl,rfl⟩
   ·simp (disch:=omega) only[wt,seval,h0,h1,h6,h7,h20,hb',hc'];refine .inl ⟨aS (by kernel_rfl),?_⟩;refine ah ((yZ B i (by omega))) (by rfl) (by simp) ?_;simp (disch:=omega) only[wt,seval,h7];refine ah ((Em (A.getD i 0) (B.getD i 0) c (hA.get i) (hB.get i) (by simp only[W];omega))) (by rfl) (by simp) ?_;simp (disch:=omega) only[wt,seval,h0,h1,h6,h19,h20,hH];refine⟨bH (by kernel_rfl),?_⟩;have hx:=hA.get i;have hy:=hB.get i

    refine⟨⟨i+1,(A.getD i 0+B.getD i 0+c)/W,out.set i ((A.getD i 0+B.getD i 0+c)%W),st,by omega,by simp only[W]at *;omega,hO.set (Nat.mod_lt _ (by decide)),by simp[hOl],?_,?_,rfl,rfl,by omega,rfl⟩,by omega⟩
    ·rw[List.drop_set_of_lt (by omega)];have:=congrArg (List.drop 1) hOd;simpa using this
    ·simp only[nv]at *;rw[dw W (by omega),Nat.pow_succ,aJ,aJ];exact uF hOv (by simp only[W];omega)
  ·simp (disch:=omega) only[wt,seval,h0,h1,h6,h20,hb'];refine .inl ⟨aS (by kernel_rfl),?_⟩;refine ah ((yZ B i (by omega))) (by rfl) (by simp) ?_;simp (disch:=omega) only[wt,seval,h7];refine ah ((Em (A.getD i 0) (B.getD i 0) c (hA.get i) (hB.get i) (by simp only[W];omega))) (by rfl) (by simp) ?_;simp (disch:=omega) only[wt,seval,h0,h1,h6,h19,h20,hH];refine⟨bH (by kernel_rfl),?_⟩;have hx:=hA.get i;have hy:=hB.get i

   refine⟨⟨i+1,(A.getD i 0+B.getD i 0+c)/W,out.set i ((A.getD i 0+B.getD i 0+c)%W),st,by omega,by simp only[W]at *;omega,hO.set (Nat.mod_lt _ (by decide)),by simp[hOl],?_,?_,rfl,rfl,by omega,rfl⟩,by omega⟩
   ·rw[List.drop_set_of_lt (by omega)];have:=congrArg (List.drop 1) hOd;simpa using this
   ·simp only[nv]at *;rw[dw W (by omega),Nat.pow_succ,aJ,aJ];exact uF hOv (by simp only[W];omega)
 ·simp (disch:=omega) only[wt,seval,h6,h7,hH];have hiA:i=A.length:=by omega
  subst hiA;rw[List.take_of_length_le (by omega),List.take_length,List.take_of_length_le (by omega)]at hOv;have hlt':=iJ hO;rw[hOl]at hlt';have e2:(nv A+nv B)/W^A.length=c:=by
   rw[← hOv,Nat.add_mul_div_left _ _ (dL _),Nat.div_eq_of_lt hlt',Nat.zero_add]
  rw[e2,← mZ hO hOl (s:=nv A+nv B) (by rw[← hOv,Nat.add_mul_mod_self_left,Nat.mod_eq_of_lt hlt'])];exact⟨rfl,rfl⟩
theorem a4C (a b:List Nat)(ha:Lim a)(hb:Lim b)(hla:a.length≤2^40)(hlb:b.length≤2^40) :
  AC Tryz.prog 291 [cl a,cl b] none [cl (pad (max a.length b.length) (nv a+W^(max a.length b.length)-nv b)),cu (if nv a<nv b then 1 else 0)]:=by
 refine AC.aA (rs:=[.tmp 4,.tmp 5]) aX Tryz.func291 (by rfl) (by rfl) (by rfl) (by rfl) (by rfl) ?_;simp (disch:=omega) only[wt,seval];generalize hn:max a.length b.length=n at *;have hnI:max (a.length:Int) (b.length:Int)=(n:Int):=by omega
 rw[hnI];simp only[wt,seval];refine aH (fun f H=>∃ (i c:Nat) (out:List Nat) (st:Nat),i≤n∧c≤1∧Lim out∧out.length=n∧nv (out.take i)+nv (b.take i)=nv (a.take i)+W^i*c ∧
  f 0=.iv (.sl (bW a))∧f 1=.iv (.sl (bW b))∧f 6=.hs 14 st∧f 7=.iv (.int .u64 c)∧f 16=.iv (.int .i64 n)∧f 17=.iv (.int .i64 i)∧H 14=.blk false st 148 1 (bW out)) (fun f H=>(n-aY f 17).toNat) ?_ ?_
 ·exact⟨0,0,List.replicate n 0,1,by omega,by omega,Lim.replicate n,by simp,by simp[vl],by simp only[wt,seval],by simp only[wt,seval],by simp only[wt,seval],by simp only[wt,seval],by simp only[wt,seval],by simp only[wt,seval],by simp only[wt,seval]⟩
 rintro f H ⟨i,c,out,st,hi,hc,hO,hOl,hOv,h0,h1,h6,h7,h16,h17,hH⟩;rw[aB h17];simp (disch:=omega) only[wt,seval,h16,h17];refine aQ (fun hlt=>?_) (fun hlt=>?_)
 ·simp (disch:=omega) only[wt,seval,h0,h6,h17];refine ah ((yZ a i (by omega))) (by rfl) (by simp) ?_;simp (disch:=omega) only[wt,seval,h1];refine ah ((yZ b i (by omega))) (by rfl) (by simp) ?_;simp (disch:=omega) only[wt,seval,h7];have hx:=ha.get i;have hy:=hb.get i;refine ah ((Vr (a.getD i 0) (b.getD i 0) c hx hy hc)) (by rfl) (by simp) ?_;simp (disch:=omega) only[wt,seval,h0,h1,h6,h16,h17,hH];refine⟨⟨i+1,_,out.set i _,st,by omega,?_,hO.set (Nat.mod_lt _ (by decide)),by simp[hOl],?_,rfl,rfl,by omega,rfl⟩,by omega⟩
  ·split<;>omega
  ·simp only[nv]at *;rw[dw W (by omega),Nat.pow_succ,aJ,aJ];refine PV hOv ?_;simp only[W]at *;split<;>omega
 ·simp (disch:=omega) only[wt,seval,h6,h7,hH];have hin:i=n:=by omega
  subst hin;rw[List.take_of_length_le (by omega),List.take_of_length_le (by omega),List.take_of_length_le (by omega)]at hOv;have h3:=iJ hO;rw[hOl]at h3;have h4:=iJ ha;have h5:=iJ hb;have h6:W^a.length≤W^i:=Nat.pow_le_pow_right (by decide) (by omega);have h7:W^b.length≤W^i:=Nat.pow_le_pow_right (by decide) (by omega);have e:c=if nv a<nv b then 1 else 0:=by
   have:c=0∨c=1:=by omega
   rcases this with rfl|rfl<;>split<;>omega
  rw[← mZ hO hOl (s:=nv a+W^i-nv b) ?_,← e]
  ·exact⟨rfl,rfl⟩
  ·have:c=0∨c=1:=by omega
   rcases this with rfl|rfl
   ·rw[show nv a+W^i-nv b=nv out+W^i*1 by omega,Nat.add_mul_mod_self_left,Nat.mod_eq_of_lt h3]
   ·rw[show nv a+W^i-nv b=nv out by omega,Nat.mod_eq_of_lt h3]
theorem oK (a b:List Nat)(ha:Lim a)(hb:Lim b)(hla:a.length≤2^40)(hlb:b.length≤2^40) :
  AC Tryz.prog 207 [cl a,cl b] none [cl (wd (nv a+nv b))]:=by
 refine AC.aA (rs:=[.tmp 4]) aX Tryz.func207 (by rfl) (by rfl) (by rfl) (by rfl) (by rfl) ?_;simp only[wt,seval];refine ah ((Xn a b ha hb hla hlb)) (by rfl) (by simp) ?_;simp (disch:=omega) only[wt,seval];generalize hn:max a.length b.length=n at *;refine ah ((lY (pad n (nv a+nv b)) (by rw[iI];omega))) (by rfl) (by simp) ?_;simp (disch:=omega) only[wt,seval,iI];have hc:(nv a+nv b)/W^n<W:=by
  rw[Nat.div_lt_iff_lt_mul (dL n)];have h4:=iJ ha;have h5:=iJ hb;have h6:W^a.length≤W^n:=Nat.pow_le_pow_right (by decide) (by omega);have h7:W^b.length≤W^n:=Nat.pow_le_pow_right (by decide) (by omega);have:2*W^n≤W*W^n:=Nat.mul_le_mul_right _ (by decide);omega
 have e:nv (pad n (nv a+nv b)++[(nv a+nv b)/W^n])=nv a+nv b:=by
  rw[Ii,oV,iI];exact Nat.mod_add_div _ _
 have:=FN (pad n (nv a+nv b)++[(nv a+nv b)/W^n]) ((lG _ _).append (Lim.cons hc Lim.nil)) (by simp[iI];omega);rw[e]at this;refine ah (this) (by rfl) (by simp) ?_;simp (disch:=omega) only[wt,seval]
theorem Ij (a b:List Nat)(ha:Lim a)(hb:Lim b)(hla:a.length≤2^40)(hlb:b.length≤2^40) :
  AC Tryz.prog 264 [cl a,cl b] none [cl (if nv a<nv b then [] else wd (nv a-nv b)),ci (if nv a<nv b then 2 else 0)]:=by
 refine AC.aA (rs:=[.tmp 4,.tmp 5]) aX Tryz.func264 (by rfl) (by rfl) (by rfl) (by rfl) (by rfl) ?_;simp only[wt,seval];refine ah ((a4C a b ha hb hla hlb)) (by rfl) (by simp) ?_;simp (disch:=omega) only[wt,seval];generalize hn:max a.length b.length=n at *;by_cases h:nv a<nv b
 ·simp (disch:=omega) only[wt,seval,h]
 ·simp only[wt,seval,h];have h4:=iJ ha;have h6:W^a.length≤W^n:=Nat.pow_le_pow_right (by decide) (by omega);have e:nv (pad n (nv a+W^n-nv b))=nv a-nv b:=by
   rw[oV,show nv a+W^n-nv b=(nv a-nv b)+W^n by omega,Nat.add_mod_right,Nat.mod_eq_of_lt (by omega)]
  have:=FN (pad n (nv a+W^n-nv b)) (lG _ _) (by simp[iI];omega);rw[e]at this;refine ah (this) (by rfl) (by simp) ?_;simp (disch:=omega) only[wt,seval]
theorem a0K (a b:List Nat)(ha:Lim a)(hb:Lim b)(hla:a.length≤2^40)(hlb:b.length≤2^40) :
  AC Tryz.prog 208 [cl a,cl b] none [cl (wd (if nv a<nv b then nv b-nv a else nv a-nv b)),.iv (.bool (decide (nv a<nv b)))]:=by
 refine AC.aA (rs:=[.tmp 4,.tmp 5]) aX Tryz.func208 (by rfl) (by rfl) (by rfl) (by rfl) (by rfl) ?_;simp only[wt,seval];refine ah ((Ij a b ha hb hla hlb)) (by rfl) (by simp) ?_;simp (disch:=omega) only[wt,seval];by_cases h:nv a<nv b
 ·have h':¬nv b<nv a:=by omega
  simp only[wt,seval,h];refine ah ((Ij b a hb ha hlb hla)) (by rfl) (by simp) ?_;simp (disch:=omega) only[wt,seval,h']
 ·simp (disch:=omega) only[wt,seval,h]
abbrev cb (b:Bool):CV:=.iv (.bool b)
abbrev cr (c:RI):CV:=.agg (lQ c)
abbrev cz (z:Int):CV:=.agg (lQ (canon z))
theorem zk (s:Bool)(n:Nat):AC Tryz.prog 189 [cb s,cl (wd n)] none [cz (sg s n)]:=by
 refine AC.aA (rs:=[.cell 4 30]) aX Tryz.func189 (by rfl) (by rfl) (by rfl) (by rfl) (by rfl) ?_;have hz:(0<((wd n).length:Int))↔n≠0:=by have:=fC (n:=n);omega
 cases s
 ·simp (disch:=omega) only[wt,seval];rw[uG];rfl
 ·simp (disch:=omega) only[wt,seval];rw[uG];have h':decide (0<(wd n).length)=decide (n≠0):=by rw[decide_eq_decide];omega
  simp[lQ,splice,h']
theorem qc (c:RI)(h:Sz (2^40) c):AC Tryz.prog 190 [cr c] none [cz (iv c)]:=by
 refine AC.aA (rs:=[.cell 2 30]) aX Tryz.func190 (by rfl) (by rfl) (by rfl) (by rfl) (by rfl) ?_;have hl:=h.1;simp (disch:=omega) only[wt,seval];refine .inl ⟨aS (by kernel_rfl),?_⟩;refine ah ((jv c.2 h.2 (by omega))) (by rfl) (by simp) ?_;simp only[wt,seval];refine ah ((zk c.1 (nv c.2))) (by rfl) (by simp) ?_;simp (disch:=omega) only[wt,seval];refine⟨bH (by kernel_rfl),?_⟩;rfl
theorem Gz (z:Int):z.sign=if z<0 then -1 else if 0<(zl z:Int) then 1 else 0:=by
 by_cases h:z<0
 ·rw[if_pos h];exact Int.sign_eq_neg_one_of_neg h
 ·rw[if_neg h];have:=fC (n:=z.natAbs);by_cases h0:z=0
  ·subst h0;simp[BG]
  ·rw[if_pos (by unfold zl;omega)];exact Int.sign_eq_one_of_pos (by omega)
theorem pY (c:RI)(h:Sz (2^40) c):AC Tryz.prog 191 [cr c] none [ci (iv c).sign]:=by
 refine AC.aA (rs:=[.tmp 2]) aX Tryz.func191 (by rfl) (by rfl) (by rfl) (by rfl) (by rfl) ?_;simp (disch:=omega) only[wt,seval];refine ah ((qc c h)) (by rfl) (by simp) ?_;simp (disch:=omega) only[wt,seval];rw[Gz];refine aQ (fun hn=>?_) (fun hn=>?_)
 ·simp (disch:=omega) only[wt,seval,hn]
 ·simp (disch:=omega) only[wt,seval,hn];refine aQ (fun hp=>?_) (fun hp=>?_)
  ·simp (disch:=omega) only[wt,seval,hp,zl]
  ·simp (disch:=omega) only[wt,seval,hp,zl]
theorem V5 (a b:RI)(ha:Sz (2^40) a)(hb:Sz (2^40) b):AC Tryz.prog 127 [cr a,cr b] none [cz (iv a+iv b)]:=by
 refine AC.aA (rs:=[.cell 4 30]) aX Tryz.func127 (by rfl) (by rfl) (by rfl) (by rfl) (by rfl) ?_;have hla:=ha.1;have hlb:=hb.1;simp (disch:=omega) only[wt,seval];refine P8 (fun he=>?_) (fun he=>?_)
 ·have he:a.1=b.1:=by simpa using he
  rw[Dp he];simp (disch:=omega) only[wt,seval];refine .inl ⟨aS (by kernel_rfl),?_⟩;refine ah ((oK a.2 b.2 ha.2 hb.2 (by omega) (by omega))) (by rfl) (by simp) ?_;simp only[wt,seval];refine ah ((zk a.1 (nv a.2+nv b.2))) (by rfl) (by simp) ?_;simp (disch:=omega) only[wt,seval];exact bH (by kernel_rfl)
 ·have he:a.1≠b.1:=by simpa using he
  rw[P6 he];simp (disch:=omega) only[wt,seval];refine ah ((a0K a.2 b.2 ha.2 hb.2 (by omega) (by omega))) (by rfl) (by simp) ?_;simp (disch:=omega) only[wt,seval];refine ah ((zk (a.1 != decide (nv a.2<nv b.2)) (if nv a.2<nv b.2 then nv b.2-nv a.2 else nv a.2-nv b.2))) (by rfl) (by simp) ?_;simp (disch:=omega) only[wt,seval]
theorem Ip (l:List Nat)(n:Nat)(h:Lim l)(hl:l.length≤2^40)(hn:n≤2^40):AC Tryz.prog 302 [cl l,ci n] none [cl (wd (nv l/W^n)),cl (wd (nv l%W^n))]:=by
 refine AC.aA (rs:=[.tmp 4,.tmp 5]) aX Tryz.func302 (by rfl) (by rfl) (by rfl) (by rfl) (by rfl) ?_;rw[← X0 h,← CY h];simp (disch:=omega) only[wt,seval];have e:min (n:Int) (l.length:Int)=((min n l.length:Nat):Int):=by omega
 rw[e];simp only[wt,seval];refine .inl ⟨aS (by kernel_rfl),?_⟩;have e1:(l.drop (min n l.length)).take ((l.length:Int)-((min n l.length:Nat):Int)).toNat=l.drop n:=by
  rw[List.take_of_length_le (by rw[List.length_drop];omega)];by_cases hc:n≤l.length
  ·rw[Nat.min_eq_left hc]
  ·rw[Nat.min_eq_right (by omega),List.drop_of_length_le (by omega),List.drop_of_length_le (by omega)]
 have e2:l.take (min n l.length)=l.take n:=by
  by_cases hc:n≤l.length
  ·rw[Nat.min_eq_left hc]
  ·rw[Nat.min_eq_right (by omega),List.take_of_length_le (by omega),List.take_of_length_le (by omega)]
 rw[e1];refine ah ((jv (l.drop n) (h.drop n) (by rw[List.length_drop];omega))) (by rfl) (by simp) ?_;simp (disch:=omega) only[wt,seval];rw[e2];refine ah ((jv (l.take n) (h.take n) (by rw[List.length_take];omega))) (by rfl) (by simp) ?_;simp (disch:=omega) only[wt,seval];exact bH (by kernel_rfl)
theorem Iu (l:List Nat)(n:Nat)(hl:l.length≤2^40)(hn:n≤2^40):AC Tryz.prog 303 [cl l,ci n] none [cl (Ak n l)]:=by
 refine AC.aA (rs:=[.tmp 4]) aX Tryz.func303 (by rfl) (by rfl) (by rfl) (by rfl) (by rfl) ?_;unfold Ak;simp (disch:=omega) only[wt,seval];refine aQ (fun hz=>?_) (fun hz=>?_)
 ·have hz:l.length=0:=by omega
  simp (disch:=omega) only[wt,seval,hz]
 ·have hz:¬l.length=0:=by omega
  simp (disch:=omega) only[wt,seval,hz]
def Ey (x y:Nat):Prop:=AC Tryz.prog 251 [cl (wd x),cl (wd y)] none [cl (wd (x*y))]
theorem XJ (x y:Nat)(m:Nat)(hm:m=((wd y).length+1)/2)(ih:∀ u v,(wd u).length≤m+1→(wd v).length≤m+1→Ey u v)(hxy:(wd x).length≤(wd y).length)(hl:(wd y).length≤2^36) :
  AC Tryz.prog 282 [cl (wd x),cl (wd y)] none [cl (wd (x*y))]:=by
 refine AC.aA (rs:=[.tmp 4]) aX Tryz.func282 (by rfl) (by rfl) (by rfl) (by rfl) (by rfl) ?_;have hq:Int.tdiv ((wd y).length+1:Int) 2=(m:Int):=by rw[Int.tdiv_eq_ediv_of_nonneg (by omega)];omega
 have hlt:∀ z,(wd z).length≤2*m→(wd (z/W^m)).length≤m∧(wd (z%W^m)).length≤m:=by
  intro z hz;refine⟨bT.mpr ?_,bT.mpr (Nat.mod_lt _ (dL m))⟩;rw[Nat.div_lt_iff_lt_mul (dL m),← Nat.pow_add,← Nat.two_mul];exact bT.mp hz
 obtain⟨hx1,hx0⟩:=hlt x (by omega);obtain⟨hy1,hy0⟩:=hlt y (by omega);obtain⟨hk,hle⟩:=a9A x y (W^m) (dL m) _ _ _ _ rfl rfl rfl rfl;simp (disch:=omega) only[wt,seval,hq];have c1:=Ip (wd x) m (aO x) (by omega) (by omega);have c2:=Ip (wd y) m (aO y) (by omega) (by omega);rw[bC]at c1 c2;refine ah (c1) (by rfl) (by simp) ?_;simp (disch:=omega) only[wt,seval];refine ah (c2) (by rfl) (by simp) ?_;simp (disch:=omega) only[wt,seval];generalize x/W^m=x1 at *;generalize x%W^m=x0 at *;generalize y/W^m=y1 at *;generalize y%W^m=y0 at *;have p1:=ih x1 y1 (by omega) (by omega);have p0:=ih x0 y0 (by omega) (by omega);have ax:=jO x1 x0;have ay:=jO y1 y0;have pm:=ih (x1+x0) (y1+y0) (by omega) (by omega);unfold Ey at p1 p0 pm;have l1:=dQ x1 y1;have l0:=dQ x0 y0;have lm:=dQ (x1+x0) (y1+y0);refine ah (p1) (by rfl) (by simp) ?_;simp only[wt,seval];refine ah (p0) (by rfl) (by simp) ?_;simp only[wt,seval];have s1:=oK (wd x1) (wd x0) (aO _) (aO _) (by omega) (by omega);have s2:=oK (wd y1) (wd y0) (aO _) (aO _) (by omega) (by omega);have s3:=oK (wd (x1*y1)) (wd (x0*y0)) (aO _) (aO _) (by omega) (by omega);simp only[bC]at s1 s2 s3;have ls:=jO (x1*y1) (x0*y0);refine ah (s1) (by rfl) (by simp) ?_;simp only[wt,seval];refine ah (s2) (by rfl) (by simp) ?_;simp only[wt,seval];refine ah (pm) (by rfl) (by simp) ?_;simp only[wt,seval];refine ah (s3) (by rfl) (by simp) ?_;simp only[wt,seval];have s4:=Ij (wd ((x1+x0)*(y1+y0))) (wd (x1*y1+x0*y0)) (aO _) (aO _) (by omega) (by omega);simp only[bC,if_neg (Nat.not_lt.mpr hle)]at s4;refine ah (s4) (by rfl) (by simp) ?_;simp (disch:=omega) only[wt,seval];generalize hM:(x1+x0)*(y1+y0)-(x1*y1+x0*y0)=M at *;have lM:(wd M).length≤(wd ((x1+x0)*(y1+y0))).length:=bJ (by omega);have e2m:(2:Int)*(m:Int)=((2*m:Nat):Int):=by omega
 rw[e2m];refine ah ((Iu (wd (x1*y1)) (2*m) (by omega) (by omega))) (by rfl) (by simp) ?_;simp only[wt,seval];refine ah ((Iu (wd M) m (by omega) (by omega))) (by rfl) (by simp) ?_;simp only[wt,seval];have ll1:=wX (2*m) (wd (x1*y1));have ll2:=wX m (wd M);have s5:=oK (Ak (2*m) (wd (x1*y1))) (Ak m (wd M)) (wU _ (aO _)) (wU _ (aO _)) (by omega) (by omega);rw[AQ,AQ,bC,bC]at s5;refine ah (s5) (by rfl) (by simp) ?_;simp only[wt,seval];have b0U:=dQ x y;have e5:W^(2*m)*(x1*y1)+W^m*M+x0*y0=x*y:=by
  rw[← hk,Nat.two_mul,Nat.pow_add]
 have s6:=oK (wd (W^(2*m)*(x1*y1)+W^m*M)) (wd (x0*y0)) (aO _) (aO _) (Nat.le_trans (bJ (Nat.le.intro e5)) (by omega)) (by omega);rw[bC,bC,e5]at s6;refine ah (s6) (by rfl) (by simp) ?_;simp (disch:=omega) only[wt,seval]
theorem FK:∀ (n x y:Nat),max (wd x).length (wd y).length≤n→(wd x).length≤2^36→(wd y).length≤2^36→Ey x y:=by
 intro n
 induction n using Nat.strongRecOn with
 | _ n ih =>
 intro x y hn hx hy;unfold Ey;refine AC.aA (rs:=[.tmp 4]) aX Tryz.func251 (by rfl) (by rfl) (by rfl) (by rfl) (by rfl) ?_;simp (disch:=omega) only[wt,seval];refine Dq (fun f H=>∃ u v,(wd u).length≤(wd v).length∧(wd v).length≤2^36∧(wd v).length≤n∧u*v=x*y∧f 0=.iv (.sl (bW (wd u)))∧f 1=.iv (.sl (bW (wd v)))) ?_ ?_
 ·refine aQ (fun hz=>?_) (fun hz=>?_)
  ·simp only[wt,seval];exact⟨y,x,by omega,by omega,by omega,Nat.mul_comm _ _,rfl,rfl⟩
  ·simp only[wt,seval];exact⟨x,y,by omega,by omega,by omega,rfl,rfl,rfl⟩
 rintro f H ⟨u,v,huv,hv,hvn,e,h0,h1⟩;rw[← e];clear e hn hx hy;have hu:(wd u).length≤2^36:=by omega
 simp (disch:=omega) only[wt,seval,h0];refine aQ (fun hz=>?_) (fun hz=>?_)
 ·have hz:u=0:=fC.mp (by omega);subst hz;simp (disch:=omega) only[wt,seval,jG]
 simp (disch:=omega) only[wt,seval,h0];refine aQ (fun hz=>?_) (fun hz=>?_)
 ·simp only[wt,seval,h0,h1];refine ah ((XJ u v (((wd v).length+1)/2) rfl (fun a b ha hb=>ih (((wd v).length+1)/2+1) (by omega) a b (by omega) (by omega) (by omega)) huv hv)) (by rfl) (by simp) ?_;simp (disch:=omega) only[wt,seval]
 simp (disch:=omega) only[wt,seval,h0,h1];generalize hA:wd u=A at *;generalize hB:wd v=B at *;have lA:Lim A:=by rw[← hA];exact aO u
 have lB:Lim B:=by rw[← hB];exact aO v
 have eA:nv A=u:=by rw[← hA];exact bC u
 have eB:nv B=v:=by rw[← hB];exact bC v
 have eN:((A.length:Int)+(B.length:Int))=((A.length+B.length:Nat):Int):=by omega
 rw[eN];simp only[wt,seval];refine aH (fun f H=>∃ (i:Nat) (out:List Nat) (st:Nat),i≤A.length∧Lim out∧out.length=A.length+B.length∧nv (out.take (i+B.length))=nv (A.take i)*nv B ∧
  f 1=.iv (.sl (bW B))∧f 5=.hs 34 st∧f 35=.iv (.sl (bW A))∧f 36=.iv (.int .i64 A.length)∧f 37=.iv (.int .i64 i)∧H 34=.blk false st 148 1 (bW out)) (fun f H=>(A.length-aY f 37).toNat) ?_ ?_
 ·refine⟨0,List.replicate (A.length+B.length) 0,(H 34).stamp+1,by omega,Lim.replicate _,by simp,?_,by simp only[wt,seval,h1],by simp only[wt,seval],by simp only[wt,seval],by simp only[wt,seval],by simp only[wt,seval],by simp only[wt,seval]⟩;rw[List.take_replicate,Nat.zero_add];simp[nv,gZ,vl]
 clear h0 h1;rintro f H ⟨i,out,st,hi,hO,hOl,hOv,h1,h5,h35,h36,h37,hH⟩;rw[aB h37];simp (disch:=omega) only[wt,seval,h36,h37];refine aQ (fun hlt=>?_) (fun hlt=>?_)
 ·simp (disch:=omega) only[wt,seval,h1,h35,h37];refine aH (fun f H=>∃ (j c:Nat) (out:List Nat) (st:Nat),j≤B.length∧c<W∧Lim out∧out.length=A.length+B.length∧nv (out.take (i+B.length))+W^(i+j)*c=nv (A.take i)*nv B+(W^i*A.getD i 0)*nv (B.take j) ∧
   f 1=.iv (.sl (bW B))∧f 5=.hs 34 st∧f 6=.iv (.int .i64 i)∧f 7=.iv (.int .u64 (A.getD i 0:Nat))∧f 8=.iv (.int .u64 c)∧f 35=.iv (.sl (bW A))∧f 36=.iv (.int .i64 A.length)∧f 37=.iv (.int .i64 i)∧f 42=.iv (.sl (bW B))∧f 43=.iv (.int .i64 B.length)∧f 44=.iv (.int .i64 j)∧H 34=.blk false st 148 1 (bW out)) (fun f H=>(B.length-aY f 44).toNat) ?_ ?_
  ·refine⟨0,0,out,st,by omega,by decide,hO,hOl,?_,by simp only[wt,seval,h1],by simp only[wt,seval,h5],by simp only[wt,seval],by simp only[wt,seval],by simp only[wt,seval],by simp only[wt,seval,h35],by simp only[wt,seval,h36],by simp only[wt,seval,h37],by simp only[wt,seval],by simp only[wt,seval],by simp only[wt,seval],by simp only[seval,hH]⟩;rw[hOv];simp[nv,vl]
  have hAi:=lA.get i;clear h1 h5 h35 h36 h37 hH hOv hO hOl;clear out st f H;rintro f H ⟨j,c,out,st,hj,hc,hO,hOl,hOv,h1,h5,h6,h7,h8,h35,h36,h37,h42,h43,h44,hH⟩;rw[aB h44];simp (disch:=omega) only[wt,seval,h43,h44];refine aQ (fun hlj=>?_) (fun hlj=>?_)
  ·simp (disch:=omega) only[wt,seval,h5,h6,h7,h8,h42,h44,hH];have eij:(i:Int)+(j:Int)=((i+j:Nat):Int):=by omega
   rw[eij];simp (disch:=omega) only[wt,seval];have hBj:=lB.get j;have a9d:=hO.get (i+j);refine ah ((OV (B.getD j 0) (A.getD i 0) c (out.getD (i+j) 0) hBj hAi hc a9d)) (by rfl) (by simp) ?_;simp (disch:=omega) only[wt,seval,h1,h5,h6,h7,h35,h36,h37,h42,h43,h44,hH];have hm:B.getD j 0*A.getD i 0≤18446744073709551615*18446744073709551615:=Nat.mul_le_mul (by simp only[W]at hBj;omega) (by simp only[W]at hAi;omega);refine⟨⟨j+1,(B.getD j 0*A.getD i 0+c+out.getD (i+j) 0)/W,out.set (i+j) ((B.getD j 0*A.getD i 0+c+out.getD (i+j) 0)%W),st,by omega,by simp only[W]at *;omega,hO.set (Nat.mod_lt _ (by decide)),by simp[hOl],?_,rfl,rfl,by omega,rfl⟩,by omega⟩;have hT:=CZ (l:=out) (k:=i+j) (m:=i+B.length) (by omega) (by omega) ((B.getD j 0*A.getD i 0+c+out.getD (i+j) 0)%W);have hN:nv (B.take (j+1))=nv (B.take j)+W^j*B.getD j 0:=aJ W B j;rw[hN,Nat.mul_add,← Nat.add_assoc i j 1,Nat.pow_succ];have hR:=row_step (A:=B.getD j 0*A.getD i 0) (hi:=(B.getD j 0*A.getD i 0+c+out.getD (i+j) 0)/W) hOv hT (by rw[Nat.mul_comm];exact Nat.div_add_mod _ _);rw[hR]
   congr 2
   rw[Nat.pow_add];ac_rfl
  ·simp (disch:=omega) only[wt,seval,h1,h5,h6,h8,h35,h36,h37,hH];have hjB:j=B.length:=by omega
   subst hjB;have eij:(i:Int)+(B.length:Int)=((i+B.length:Nat):Int):=by omega
   rw[eij];simp only[wt,seval];refine⟨⟨i+1,out.set (i+B.length) c,st,by omega,hO.set hc,by simp[hOl],?_,rfl,by omega,rfl⟩,by omega⟩;rw[show i+1+B.length=(i+B.length)+1 by omega];have hT:nv ((out.set (i+B.length) c).take (i+B.length+1))=nv (out.take (i+B.length))+W^(i+B.length)*c:=dw W (by omega) c;have hN:nv (A.take (i+1))=nv (A.take i)+W^i*A.getD i 0:=aJ W A i;rw[List.take_length]at hOv;rw[hT,hOv,hN,Nat.add_mul]
 ·simp (disch:=omega) only[wt,seval,h5];have hiA:i=A.length:=by omega
  subst hiA;rw[List.take_of_length_le (by omega),List.take_of_length_le (by omega),eA,eB]at hOv;have t:=Gw out (by omega);rw[← Tn hO,hOv]at t;refine ah (t) (by simp only[gQ,tJ,hH];rfl) (by simp) ?_;simp (disch:=omega) only[wt,seval,hH]
theorem Dc (a b:List Nat)(ha:Lim a)(hb:Lim b)(hla:a.length≤2^36)(hlb:b.length≤2^36):AC Tryz.prog 184 [cl a,cl b] none [cl (wd (nv a*nv b))]:=by
 refine AC.aA (rs:=[.tmp 4]) aX Tryz.func184 (by rfl) (by rfl) (by rfl) (by rfl) (by rfl) ?_;have h1:=fJ ha;have h2:=fJ hb;simp only[wt,seval];refine ah ((jv a ha (by omega))) (by rfl) (by simp) ?_;simp only[wt,seval];refine ah ((jv b hb (by omega))) (by rfl) (by simp) ?_;simp only[wt,seval];have p:=FK _ (nv a) (nv b) (Nat.le_refl _) (by omega) (by omega);unfold Ey at p;refine ah (p) (by rfl) (by simp) ?_;simp (disch:=omega) only[wt,seval]
theorem uZ (a b:RI)(ha:Sz (2^36) a)(hb:Sz (2^36) b):AC Tryz.prog 101 [cr a,cr b] none [cz (iv a*iv b)]:=by
 refine AC.aA (rs:=[.cell 4 30]) aX Tryz.func101 (by rfl) (by rfl) (by rfl) (by rfl) (by rfl) ?_;rw[Xr];have h1:=ha.1;have h2:=hb.1;simp (disch:=omega) only[wt,seval];refine .inl ⟨aS (by kernel_rfl),?_⟩;refine ah ((Dc a.2 b.2 ha.2 hb.2 (by omega) (by omega))) (by rfl) (by simp) ?_;simp only[wt,seval];have hb:(!(a.1 == b.1))=(a.1 != b.1):=rfl;rw[hb];refine ah ((zk (a.1 != b.1) (nv a.2*nv b.2))) (by rfl) (by simp) ?_;simp (disch:=omega) only[wt,seval];exact bH (by kernel_rfl)
abbrev cw (p:List RI):CV:=.iv (.sl (kF p))
abbrev cp (q:List Int):CV:=.iv (.sl (IY q))
theorem Yd {p q:List Int}(h:∀ k,cf p k=cf q k):cp p=cp q:=by unfold cp;rw[Yc h]
theorem JH {n:Int}(h : -9223372036854775808≤n)(h':n<0):IntKind.u64.wrap (0-IntKind.u64.wrap n)=((n.natAbs:Nat):Int):=by
 simp only[IntKind.wrap,IntKind.signed,IntKind.bits,Bool.false_and,Bool.false_eq_true,if_false];omega
theorem JG {n:Int}(h:0≤n)(h':n≤9223372036854775807):IntKind.u64.wrap n=((n.natAbs:Nat):Int):=by
 simp only[IntKind.wrap,IntKind.signed,IntKind.bits,Bool.false_and,Bool.false_eq_true,if_false];omega
theorem V6 (n:Int)(h : -9223372036854775808≤n)(h':n≤9223372036854775807):AC Tryz.prog 106 [ci n] none [cz n]:=by
 refine AC.aA (rs:=[.cell 2 30]) aX Tryz.func106 (by rfl) (by rfl) (by rfl) (by rfl) (by rfl) ?_;simp (disch:=omega) only[wt,seval];refine aQ (fun hn=>?_) (fun hn=>?_)
 ·simp (disch:=omega) only[wt,seval];rw[JH h hn];refine ah ((D8 n.natAbs (by simp only[W];omega))) (by rfl) (by simp) ?_;simp only[wt,seval];have e:n=sg true n.natAbs:=by unfold sg;simp;omega
  have:=zk true n.natAbs;rw[← e]at this;refine ah (this) (by rfl) (by simp) ?_;simp (disch:=omega) only[wt,seval]
 ·simp (disch:=omega) only[wt,seval];rw[JG (by omega) h'];refine ah ((D8 n.natAbs (by simp only[W];omega))) (by rfl) (by simp) ?_;simp only[wt,seval];have e:n=sg false n.natAbs:=by unfold sg;simp;omega
  have:=zk false n.natAbs;rw[← e]at this;refine ah (this) (by rfl) (by simp) ?_;simp (disch:=omega) only[wt,seval]
theorem Oc (p:List RI)(h:RP (2^40) (2^40) p):AC Tryz.prog 209 [cw p] none [ci (tz (pv p))]:=by
 refine AC.aA (rs:=[.tmp 2]) aX Tryz.func209 (by rfl) (by rfl) (by rfl) (by rfl) (by rfl) ?_;have hl:=h.1;simp (disch:=omega) only[wt,seval];refine aH (fun f H=>∃ k:Nat,k≤p.length∧f 0=.iv (.sl (kF p))∧f 3=.iv (.int .i64 k)∧tz ((pv p).take k)=tz (pv p)) (fun f H=>(aY f 3).toNat) ?_ ?_
 ·exact⟨p.length,Nat.le_refl _,by simp only[wt,seval],by simp only[wt,seval],by rw[← nV p,List.take_length]⟩
 rintro f H ⟨k,hk,h0,h3,ht⟩;rw[aB h3];by_cases hc:0<(k:Int)
 ·simp (disch:=omega) only[wt,seval,h0,h3,hc];have ek:((k:Int)-1).toNat=k-1:=by omega
  have ek':k=(k-1)+1:=by omega
  rw[ek];refine ah ((pY (p.getD (k-1) (false,[])) (h.get _))) (by rfl) (by simp) ?_;simp (disch:=omega) only[wt,seval];rw[← EP];refine aQ (fun hz=>?_) (fun hz=>?_)
  ·simp (disch:=omega) only[wt,seval,h0,h3];refine⟨⟨k-1,by omega,by omega,?_⟩,by omega⟩;rw[← JV (k:=k-1) (by rw[nV];omega) (Int.sign_eq_zero_iff_zero.mp hz),← ek',ht]
  ·simp (disch:=omega) only[wt,seval,h3];rw[← ht,ek',Vh (by rw[nV];omega) (fun e=>hz (Int.sign_eq_zero_iff_zero.mpr e))]
 ·simp (disch:=omega) only[wt,seval,h3,hc];obtain rfl:k=0:=by omega
  rw[← ht];rfl
theorem rC {q:List Int}{k:Nat}(h:k<tz q):(dJ q).take (k+1)=(dJ q).take k++[cf q k]:=by
 rw[List.take_add_one]
 congr 1
 rw[← qI];have:k<(dJ q).length:=by rw[iy];exact h
 simp[cf,List.getD,this]
theorem I8 (p:List RI)(h:RP (2^40) (2^40) p):AC Tryz.prog 128 [cw p] none [cp (pv p)]:=by
 refine AC.aA (rs:=[.tmp 2]) aX Tryz.func128 (by rfl) (by rfl) (by rfl) (by rfl) (by rfl) ?_;have hl:=h.1;have htl:=Tt (pv p);rw[nV]at htl;simp only[wt,seval];refine ah ((Oc p h)) (by rfl) (by simp) ?_;simp only[wt,seval];refine dS 3 3 30 2 (by simp only[wt,seval]) (fun f H=>∃ (k st:Nat),k≤tz (pv p)∧f 0=.iv (.sl (kF p))∧f 3=.hs 3 st∧f 6=.iv (.int .i64 (tz (pv p)))∧f 7=.iv (.int .i64 k)∧H 3=.blk false st 30 2 (kF (((dJ (pv p)).take k).map canon))) (fun f H=>(tz (pv p)-aY f 7).toNat) ?_ ?_
 ·refine⟨0,1,by omega,?_⟩;simp only[wt,seval,fB,fM,List.take_zero]
 rintro f H ⟨k,st,hk,h0,h3,h6,h7,hH⟩;rw[aB h7];simp (disch:=omega) only[wt,seval,h6,h7];refine aQ (fun hlt=>?_) (fun hlt=>?_)
 ·simp (disch:=omega) only[wt,seval,h0,h3,h7];have hq:(((dJ (pv p)).take k).map canon).length=k:=by rw[List.length_map,List.length_take,iy];omega
  refine ah ((qc (p.getD k (false,[])) (h.get _))) (by rfl) (by simp) ?_;simp (disch:=omega) only[wt,seval,h0,h6,h7,hH,hq];refine⟨⟨k+1,st+1,by omega,rfl,by omega,?_⟩,by omega⟩;rw[rC (by omega),EP]
 ·simp (disch:=omega) only[wt,seval,h3,hH];have hk:k=tz (pv p):=by omega
  rw[hk,List.take_of_length_le (by rw[iy];exact Nat.le_refl _)];rfl
theorem a4p (p:List RI)(h:RP (2^40) (2^40) p):AC Tryz.prog 219 [cw p] none [ci ((tz (pv p):Int)-1)]:=by
 refine AC.aA (rs:=[.tmp 2]) aX Tryz.func219 (by rfl) (by rfl) (by rfl) (by rfl) (by rfl) ?_;have hl:=h.1;have htl:=Tt (pv p);rw[nV]at htl;simp only[wt,seval];refine ah ((Oc p h)) (by rfl) (by simp) ?_;simp (disch:=omega) only[wt,seval]
theorem WO (a b:List RI)(ha:RP (2^30) (2^35) a)(hb:RP (2^30) (2^35) b):AC Tryz.prog 91 [cw a,cw b] none [cp (uQ (pv a) (pv b))]:=by
 refine AC.aA (rs:=[.tmp 4]) aX Tryz.func91 (by rfl) (by rfl) (by rfl) (by rfl) (by rfl) ?_;have pa:=ha.pv.dJ;have pb:=hb.pv.dJ;have e0:cp (uQ (pv a) (pv b))=cp (uQ (dJ (pv a)) (dJ (pv b))):=by
  refine Yd fun k=>?_;rw[ku,ku,Ea (fun j=>(qI (pv a) j).symm),Bl _ k (fun j=>(qI (pv b) j).symm)]
 rw[e0];simp only[wt,seval];refine ah ((I8 a (ha.mono (by omega) (by omega)))) (by rfl) (by simp) ?_;simp only[wt,seval];refine ah ((I8 b (hb.mono (by omega) (by omega)))) (by rfl) (by simp) ?_;simp (disch:=omega) only[wt,seval];unfold IY;generalize dJ (pv a)=A at *;generalize dJ (pv b)=B at *;have hA:=pa.1;have hB:=pb.1;have hAl:(A.map canon).length=A.length:=by simp
 have hBl:(B.map canon).length=B.length:=by simp
 simp (disch:=omega) only[wt,seval,hAl,hBl];by_cases hza:(A.length:Int)=0
 ·have hA0:A=[]:=by rw[← List.length_eq_zero_iff];omega
  subst hA0;simp (disch:=omega) only[wt,seval];have:dJ (uQ [] B)=[]:=by rw[← List.length_eq_zero_iff,iy,fH];intro k;rw[ku];rfl
  unfold IY;rw[this];rfl
 simp only[wt,seval,hza];refine aQ (fun hzb=>?_) (fun hzb=>?_)
 ·have hB0:B=[]:=by rw[← List.length_eq_zero_iff];omega
  subst hB0;simp (disch:=omega) only[wt,seval];have:dJ (uQ A [])=[]:=by
   rw[← List.length_eq_zero_iff,iy,fH];intro k;rw[ku,PD]
  unfold IY;rw[this];rfl
 simp (disch:=omega) only[wt,seval,hAl,hBl];have eN:(A.length:Int)+(B.length:Int)-1=((A.length+B.length-1:Nat):Int):=by omega
 rw[eN];simp only[wt,seval];generalize hN:A.length+B.length-1=N at *;refine aH (fun f H=>∃ (i st:Nat) (out:List Int),i≤A.length∧out.length=N∧(∀ k,cf out k=cv (A.take i) (cf B) k) ∧
  f 0=.iv (.sl (kF (A.map canon)))∧f 1=.iv (.sl (kF (B.map canon)))∧f 5=.hs 26 st∧f 28=.iv (.int .i64 A.length)∧f 29=.iv (.int .i64 i)∧H 26=.blk false st 30 2 (kF (out.map canon))) (fun f H=>(A.length-aY f 29).toNat) ?_ ?_
 ·exact⟨0,1,List.replicate N 0,by omega,by simp,fun k=>by rw[a2P];rfl,by simp only[wt,seval],by simp only[wt,seval],by simp only[wt,seval],by simp only[wt,seval],by simp only[wt,seval],by simp only[wt,seval,KF]⟩
 rintro f H ⟨i,st,out,hi,hol,hv,h0,h1,h5,h28,h29,hH⟩;rw[aB h29];simp (disch:=omega) only[wt,seval,h28,h29];refine aQ (fun hlt=>?_) (fun hlt=>?_)
 ·simp (disch:=omega) only[wt,seval,h1,h29,hBl];refine aH (fun f H=>∃ (j st:Nat) (out:List Int),j≤B.length∧out.length=N∧(∀ k,cf out k=cv (A.take i) (cf B) k+(if i≤k∧k<i+j then cf A i*cf B (k-i) else 0)) ∧
   f 0=.iv (.sl (kF (A.map canon)))∧f 1=.iv (.sl (kF (B.map canon)))∧f 5=.hs 26 st∧f 6=.iv (.int .i64 i)∧f 28=.iv (.int .i64 A.length)∧f 29=.iv (.int .i64 i)∧f 33=.iv (.int .i64 B.length)∧f 34=.iv (.int .i64 j)∧H 26=.blk false st 30 2 (kF (out.map canon))) (fun f H=>(B.length-aY f 34).toNat) ?_ ?_
  ·refine⟨0,st,out,by omega,hol,fun k=>?_,by simp only[wt,seval,h0],by simp only[wt,seval,h1],by simp only[wt,seval,h5],by simp only[wt,seval],by simp only[wt,seval,h28],by simp only[wt,seval,h29],by simp only[wt,seval],by simp only[wt,seval],by simp only[seval,hH]⟩;rw[hv k,if_neg (by omega),Int.add_zero]
  clear h0 h1 h5 h28 h29 hH hv hol;clear out st f H;rintro f H ⟨j,st,out,hj,hol,hv,h0,h1,h5,h6,h28,h29,h33,h34,hH⟩;rw[aB h34];simp (disch:=omega) only[wt,seval,h33,h34];refine aQ (fun hlj=>?_) (fun hlj=>?_)
  ·have hq:(out.map canon).length=N:=by rw[List.length_map,hol]
   have eij:(i:Int)+(j:Int)=((i+j:Nat):Int):=by omega
   simp (disch:=omega) only[wt,seval,h0,h1,h5,h6,h34,hH,hq,hAl,hBl];rw[eij];simp (disch:=omega) only[wt,seval];refine .inl ⟨aS (by kernel_rfl),?_⟩;have hAi:=pa.cf i;have hBj:=pb.cf j;have hprod:=jL (cf A i) (cf B j);have hold:cf out (i+j)=cv (A.take i) (cf B) (i+j):=by rw[hv,if_neg (by omega),Int.add_zero]
   have hzo:zl (cf out (i+j))≤2^35+2^35+1:=by rw[hold];exact a3j (Ql pa i) pb (by decide) _
   have m:=uZ (canon (cf A i)) (canon (cf B j)) ((aW _).mono (by omega)) ((aW _).mono (by omega));rw[aN,aN]at m;refine ah (m) (by rfl) (by simp) ?_;simp (disch:=omega) only[wt,seval];have s:=V5 (canon (cf out (i+j))) (canon (cf A i*cf B j)) ((aW _).mono (by omega)) ((aW _).mono (by omega));rw[aN,aN]at s;refine ah (s) (by rfl) (by simp) ?_;simp (disch:=omega) only[wt,seval,h0,h1,h5,h6,h28,h29,h33,h34,hH,hq];refine⟨bH (by kernel_rfl),?_⟩;refine⟨⟨j+1,st,out.set (i+j) (cf out (i+j)+cf A i*cf B j),by omega,by simp[hol],fun k=>?_,rfl,by omega,rfl⟩,by omega⟩;rw[Yg (by omega)];by_cases e:k=i+j
   ·subst e;rw[if_pos rfl,if_pos ⟨by omega,by omega⟩,hold,Nat.add_sub_cancel_left]
   ·rw[if_neg e,hv k];by_cases hk:i≤k∧k<i+j
    ·rw[if_pos hk,if_pos ⟨hk.1,by omega⟩]
    ·rw[if_neg hk,if_neg (by omega)]
  ·simp (disch:=omega) only[wt,seval,h0,h1,h5,h28,h29,hH];refine⟨⟨i+1,st,out,by omega,hol,fun k=>?_,rfl,by omega,rfl⟩,by omega⟩;rw[hv k,zX]
   congr 1
   by_cases hk:i≤k
   ·rw[if_pos hk];by_cases hk2:k<i+j
    ·rw[if_pos ⟨hk,hk2⟩]
    ·rw[if_neg (by omega),xJ (q:=B) (by omega),Int.mul_zero]
   ·rw[if_neg hk,if_neg (by omega)]
 ·simp (disch:=omega) only[wt,seval,h5];have hiA:i=A.length:=by omega
  have e:cp (uQ A B)=cp (pv (out.map canon)):=by
   refine Yd fun k=>?_;rw[lN,hv,ku,hiA,List.take_length]
  unfold IY at e;rw[e];refine ah ((I8 (out.map canon) (RP.canon (.of (by omega) fun k=>by rw[hv];exact Nat.le_trans (a3j (Ql pa i) pb (by decide) k) (by omega))))) (by simp only[gQ,tJ,hH];rfl) (by simp) ?_;simp (disch:=omega) only[wt,seval,hH]
end Go.Proofs.YtdpngipofekcfaaGreat
