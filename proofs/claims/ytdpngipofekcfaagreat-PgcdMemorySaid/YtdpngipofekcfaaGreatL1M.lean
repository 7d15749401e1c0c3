/-
 Contracts of the functions that the law reaches.
-/
import Derived.Test.YtdpngipofekcfaaGreatAbsK
import Derived.Test.YtdpngipofekcfaaGreatTyA
import Derived.Test.YtdpngipofekcfaaGreatAbsW
import Derived.Laws.Externs
set_option maxHeartbeats 2000000
namespace Go.Proofs.YtdpngipofekcfaaGreat
open Go Go.Proofs Go.AL
set_option linter.unusedSimpArgs false
set_option linter.unusedVariables false

section
variable {n m:Nat}
abbrev cl (l:List Nat):CV:=.iv (.sl (dh l))
abbrev cu (x:Nat):CV:=.iv (.int .u64 (x:Int))
abbrev ci (n:Int):CV:=.iv (.int .i64 n)
def a4Z:Array Value->Sem Value:=λargs=>do
 let (x, y, b) ← Extern.MathBitsCarry.three "Sub64" args
 pure (Extern.MathBitsCarry.pair ((x+Extern.MathBitsCarry.m64-y-b)%Extern.MathBitsCarry.m64) (if x<y+b then 1 else 0))
theorem FP (x y c:Nat)(hc:c<=1):AC Tryz.prog 314 [cu x,cu y,cu c] none [cu ((x+y+c)%W),cu ((x+y+c)/W)]:=by
 refine AC.of_run [(.u64,x),(.u64,y),(.u64,c)] [(.u64,((x+y+c)%W:Nat)),(.u64,((x+y+c)/W:Nat))] rfl rfl λw=>?_;show (callFunc _ #[.int .u64 x,.int .u64 y,.int .u64 c]).run Tryz.prog w=_;rw[run_callFunc_extern Tryz.func314 (by kernel_rfl) (by kernel_rfl) (by kernel_rfl) (e:=add64Entry) (by kernel_rfl),run_add64 x y c (by omega) (by omega) (by omega) (by omega)];simp only[Result.andThen,uP,List.map]
 congr 5<;>omega
theorem LJ (x y b:Nat)(hb:b<=1):AC Tryz.prog 312 [cu x,cu y,cu b] none [cu ((x+W-y-b)%W),cu (if x<y+b then 1 else 0)]:=by
 refine AC.of_run [(.u64,x),(.u64,y),(.u64,b)] [(.u64,((x+W-y-b)%W:Nat)),(.u64,((if x<y+b then 1 else 0:Nat):Int))] rfl rfl λw=>?_;show (callFunc _ #[.int .u64 x,.int .u64 y,.int .u64 b]).run Tryz.prog w=_;rw[run_callFunc_extern Tryz.func312 (by kernel_rfl) (by kernel_rfl) (by kernel_rfl) (e:=a4Z) (by kernel_rfl)];have:b=0\/b=1:=by omega
 rcases this with rfl|rfl<;>rfl
theorem yx (l:List Nat)(hl:l.length<=2^43):AC Tryz.prog 258 [cl l] (some (0,148,1,dh l)) [cl l]:=by
 refine AC.aj (rs:=[.tmp 2]) aV Tryz.func258 (by rfl) (by rfl) (by rfl) (by rfl) (by rfl) ?_;simp (disch:=omega) only[wt,seval];by_cases hn:l=[]
 .subst hn;refine b7g ?_ ?_
  .simp (disch:=omega) only[wt,seval]
  .simp (disch:=omega) only[wt,seval]
 .have he:(dh l).isEmpty=false:=by cases l with|nil=>exact(hn rfl).elim|cons x xs=>rfl
  simp (disch:=omega) only[wt,seval,he]
theorem Dz (l:List Nat)(i:Nat)(hl:l.length<=2^43):AC Tryz.prog 290 [cl l,ci i] none [cu (l.getD i 0)]:=by
 refine AC.aj (rs:=[.tmp 4]) aV Tryz.func290 (by rfl) (by rfl) (by rfl) (by rfl) (by rfl) ?_;simp (disch:=omega) only[wt,seval];refine bf (λh=>?_) (λh=>?_)
 .simp (disch:=omega) only[wt,seval]
 .simp (disch:=omega) only[wt,seval];rw[zax,zaQ (by omega)];rfl
theorem J9 (x y c:Nat)(hx:x<W)(hy:y<W)(hc:c<W):AC Tryz.prog 289 [cu x,cu y,cu c] none [cu ((x+y+c)%W),cu ((x+y+c)/W)]:=by
 refine AC.aj (rs:=[.tmp 6,.tmp 7]) aV Tryz.func289 (by rfl) (by rfl) (by rfl) (by rfl) (by rfl) ?_;simp only[wt,seval];refine ah ((FP x y 0 (by omega))) (by rfl) (by simp) ?_;simp (disch:=omega) only[wt,seval];refine ah ((FP ((x+y+0)%W) c 0 (by omega))) (by rfl) (by simp) ?_;simp (disch:=omega) only[wt,seval];rw[wrap_u64 (by simp only[W]at *;omega)];simp only[W]at *;omega
theorem ZO (x y c:Nat)(hx:x<W)(hy:y<W)(hc:c<=1):AC Tryz.prog 315 [cu x,cu y,cu c] none [cu ((x+W-y-c)%W),cu (if x<y+c then 1 else 0)]:=by
 refine AC.aj (rs:=[.tmp 6,.tmp 7]) aV Tryz.func315 (by rfl) (by rfl) (by rfl) (by rfl) (by rfl) ?_;simp only[wt,seval];refine ah ((LJ x y 0 (by omega))) (by rfl) (by simp) ?_;simp (disch:=omega) only[wt,seval];refine ah ((LJ ((x+W-y-0)%W) c 0 (by omega))) (by rfl) (by simp) ?_;simp (disch:=omega) only[wt,seval];rw[wrap_u64 (by simp only[W]at *;split<;>split<;>omega)];simp only[W]at *;split<;>split<;>split<;>omega
theorem and_low32 (x:Nat)(hx:x<W):IntKind.u64.wrap ((BitVec.ofInt IntKind.u64.bits (x:Int)&&&BitVec.ofInt IntKind.u64.bits 4294967295).toNat:Int)=((x%4294967296:Nat):Int):=by
 have h:(BitVec.ofInt 64 (x:Int)&&&BitVec.ofInt 64 4294967295).toNat=x%4294967296:=by
  have e1:BitVec.ofInt 64 (x:Int)=BitVec.ofNat 64 x:=by simp
  have e2:(BitVec.ofInt 64 4294967295:BitVec 64)=BitVec.ofNat 64 (2^32-1):=by rfl
  rw[e1,e2,BitVec.toNat_and,zeC,zeC];rw[zan (show x<2^64 from hx),zan (by decide:2^32-1<2^64),Nat.and_two_pow_sub_one_eq_mod]
 show IntKind.u64.wrap ((BitVec.ofInt 64 (x:Int)&&&BitVec.ofInt 64 4294967295).toNat:Int)=_;rw[h,wrap_u64 (by omega)]
theorem Gl (x:Nat):((x:Int)).fdiv (2^min 32 IntKind.u64.bits)=((x/4294967296:Nat):Int):=by
 show ((x:Int)).fdiv 4294967296=_;rw[zem _ (by omega)];rfl
theorem iq (h:n<W):IntKind.u64.wrap (n:Int)=(n:Int):=wrap_u64 (by simp only[W]at h;omega)
theorem fC (h:m+n<W):IntKind.u64.wrap ((m:Int)+(n:Int))=((m+n:Nat):Int):=by rw[wrap_u64 (by simp only[W]at h;omega)];omega
theorem fB (h:m*n<W):IntKind.u64.wrap ((m:Int)*(n:Int))=((m*n:Nat):Int):=by rw[<-zci,iq h]
theorem kZ (m n:Nat):IntKind.u64.wrap ((m:Int)*(n:Int))=((m*n%W:Nat):Int):=by
 rw[<-zci];simp only[IntKind.wrap,IntKind.signed,IntKind.bits,zdj,zbg,zbo];simp only[W];omega
theorem a1P {x y:Nat}(hx:x<W)(hy:y<W):∃P Q R S,P=x%4294967296*(y%4294967296)/\Q=x/4294967296*(y%4294967296)/\R=x%4294967296*(y/4294967296)/\S=x/4294967296*(y/4294967296) /\
  P<=18446744065119617025/\Q<=18446744065119617025/\R<=18446744065119617025/\S<=18446744065119617025/\x*y=P+4294967296*(Q+R)+18446744073709551616*S:=by
 simp only[W]at hx hy;have h0:x%4294967296<=4294967295:=by omega
 have h1:x/4294967296<=4294967295:=by omega
 have h2:y%4294967296<=4294967295:=by omega
 have h3:y/4294967296<=4294967295:=by omega
 refine⟨_,_,_,_,rfl,rfl,rfl,rfl,zbR h0 h2,zbR h1 h2,zbR h0 h3,zbR h1 h3,?_⟩;have ex:x=x%4294967296+4294967296*(x/4294967296):=by omega
 have ey:y=y%4294967296+4294967296*(y/4294967296):=by omega
 generalize x%4294967296=a at *;generalize x/4294967296=b at *;generalize y%4294967296=c at *;generalize y/4294967296=d at *;subst ex ey;simp only[zaN,zbx];have e1:4294967296*b*c=4294967296*(b*c):=za1 _ _ _;have e2:a*(4294967296*d)=4294967296*(a*d):=zfH _ _ _;have e3:4294967296*b*(4294967296*d)=18446744073709551616*(b*d):=by
  rw[Nat.mul_mul_mul_comm]
 rw[e1,e2,e3];omega
theorem Wu (x y:Nat)(hx:x<W)(hy:y<W):AC Tryz.prog 304 [cu x,cu y] none [cu (x*y/W),cu (x*y%W)]:=by
 refine AC.aj (rs:=[.tmp 4,.tmp 5]) aV Tryz.func304 (by rfl) (by rfl) (by rfl) (by rfl) (by rfl) ?_;simp (disch:=omega) only[wt,seval];obtain⟨P,Q,R,S,hP,hQ,hR,hS,bP,bQ,bR,bS,hxy⟩:=a1P hx hy;rw[and_low32 x hx,and_low32 y hy,Gl x,Gl y];rw[fB (m:=x%4294967296) (by simp only[W];omega),fB (m:=x/4294967296) (n:=y%4294967296) (by simp only[W];omega),fB (m:=x%4294967296) (n:=y/4294967296) (by simp only[W];omega),fB (m:=x/4294967296) (n:=y/4294967296) (by simp only[W];omega),kZ];clear hx hy;rw[<-hP,<-hQ,<-hR,<-hS,Gl P,fC (by simp only[W];omega),Gl,and_low32 _ (by simp only[W];omega),fC (by simp only[W];omega),fC (by simp only[W];omega),Gl,fC (by simp only[W];omega),hxy];simp only[W];refine⟨?_,zar⟩;omega
theorem a1N (x y a b:Nat)(hx:x<W)(hy:y<W)(ha:a<W)(hb:b<W):AC Tryz.prog 283 [cu x,cu y,cu a,cu b] none [cu ((x*y+a+b)/W),cu ((x*y+a+b)%W)]:=by
 refine AC.aj (rs:=[.tmp 8,.tmp 9]) aV Tryz.func283 (by rfl) (by rfl) (by rfl) (by rfl) (by rfl) ?_;simp only[wt,seval];refine ah ((Wu x y hx hy)) (by rfl) (by simp) ?_;simp (disch:=omega) only[wt,seval];refine ah ((J9 (x*y%W) a b (zbj _ (by decide)) ha hb)) (by rfl) (by simp) ?_;simp (disch:=omega) only[wt,seval];have hm:x*y<=18446744073709551615*18446744073709551615:=zbR (by simp only[W]at hx;omega) (by simp only[W]at hy;omega);simp only[W]at *;rw[fC (by simp only[W];omega)];omega
theorem Vg (l:List Nat)(hl:l.length<=2^43):AC Tryz.prog 288 [cl l] none [ci (kV l)]:=by
 refine AC.aj (rs:=[.tmp 2]) aV Tryz.func288 (by rfl) (by rfl) (by rfl) (by rfl) (by rfl) ?_;simp (disch:=omega) only[wt,seval];refine aI (λf H=>∃k:Nat,k<=l.length/\f 0=.iv (.sl (dh l))/\f 3=.iv (.int .i64 k)/\kV (l.take k)=kV l) (λf H=>(bC f 3).toNat) ?_ ?_
 .exact⟨l.length,zab _,by simp only[wt,seval],by simp only[wt,seval],by rw[zaM]⟩
 rintro f H ⟨k,hk,h0,h3,ht⟩;rw[aC h3];by_cases hc:0<(k:Int)
 .simp (disch:=omega) only[wt,seval,h0,h3,hc];refine bf (λhz=>?_) (λhz=>?_)
  .simp (disch:=omega) only[wt,seval,h0,h3];refine⟨⟨k-1,by omega,by omega,?_⟩,by omega⟩;have e:k=(k-1)+1:=by omega
   rw[<-nV (k:=k-1) (by omega) (by rw[show ((k:Int)-1).toNat=k-1 by omega]at hz;exact_mod_cast hz),<-e,ht]
  .simp (disch:=omega) only[wt,seval,h3];rw[<-ht,show k=(k-1)+1 by omega,Aa (by omega) (by rw[show ((k:Int)-1).toNat=k-1 by omega]at hz;exact_mod_cast hz)]
 .simp (disch:=omega) only[wt,seval,h3,hc];obtain rfl:k=0:=by omega
  rw[<-ht];rfl
theorem SE (l:List Nat)(hl:l.length<=2^43):AC Tryz.prog 257 [cl l] none [cl (l.take (kV l))]:=by
 refine AC.aj (rs:=[.tmp 2]) aV Tryz.func257 (by rfl) (by rfl) (by rfl) (by rfl) (by rfl) ?_;have ht:=wE l;simp only[wt,seval];refine ah ((Vg l hl)) (by rfl) (by simp) ?_;simp (disch:=omega) only[wt,seval];refine ah ((yx (l.take (kV l)) (by rw[zah];omega))) (by rfl) (by simp) ?_;simp (disch:=omega) only[wt,seval]
theorem b1x (a b:List Nat)(ha:Lim a)(hb:Lim b)(hla:a.length<=2^40)(hlb:b.length<=2^40) :
  AC Tryz.prog 263 [cl a,cl b] none [cl (pad (max a.length b.length) (nv a+nv b)),cu ((nv a+nv b)/W^(max a.length b.length))]:=by
 refine AC.aj (rs:=[.tmp 4,.tmp 5]) aV Tryz.func263 (by rfl) (by rfl) (by rfl) (by rfl) (by rfl) ?_;simp (disch:=omega) only[wt,seval];refine KD (λf H=>∃A B,B.length<=A.length/\A.length<=2^40/\Lim A/\Lim B/\A.length=max a.length b.length/\nv A+nv B=nv a+nv b/\f 0=.iv (.sl (dh A))/\f 1=.iv (.sl (dh B))) ?_ ?_
 .refine bf (λhz=>?_) (λhz=>?_)
  .simp only[wt,seval];exact⟨b,a,by omega,by omega,hb,ha,by omega,by omega,rfl,rfl⟩
  .simp only[wt,seval];exact⟨a,b,by omega,by omega,ha,hb,by omega,by omega,rfl,rfl⟩
 rintro f H ⟨A,B,hBA,hAl,hA,hB,hAm,hAB,h0,h1⟩;rw[<-hAm,<-hAB];simp only[wt,seval,h0];refine ah ((yx A (by omega))) (by rfl) (by simp) ?_;simp (disch:=omega) only[wt,seval];refine aI (λf H=>∃(i c:Nat) (out:List Nat) (st:Nat),i<=A.length/\c<=1/\Lim out/\out.length=A.length/\out.drop i=A.drop i/\nv (out.take i)+W^i*c=nv (A.take i)+nv (B.take i) /\
  f 0=.iv (.sl (dh A))/\f 1=.iv (.sl (dh B))/\f 6=.hs 17 st/\f 7=.iv (.int .u64 c)/\f 19=.iv (.int .i64 A.length)/\f 20=.iv (.int .i64 i)/\H 17=.blk false st 148 1 (dh out)) (λf H=>(A.length-bC f 20).toNat) ?_ ?_
 .exact⟨0,0,A,(H 17).stamp+1,by omega,by omega,hA,rfl,rfl,by simp[vl],by simp only[wt,seval,h0],by simp only[wt,seval,h1],by simp only[wt,seval],by simp only[wt,seval],by simp only[wt,seval],by simp only[wt,seval],by simp only[wt,seval]⟩
 clear h0 h1;rintro f H ⟨i,c,out,st,hi,hc,hO,hOl,hOd,hOv,h0,h1,h6,h7,h19,h20,hH⟩;rw[aC h20];simp (disch:=omega) only[wt,seval,h19,h20];refine bf (λhlt=>?_) (λhlt=>?_)
 .by_cases hb':(B.length:Int)<=i
  .by_cases hc':(c:Int)=0
   .simp (disch:=omega) only[wt,seval,h1,h6,h7,h20,hH,hb',hc'];obtain rfl:c=0:=by omega
    have e1:nv out=nv A+nv B:=by
     have e2:=gK W out (k:=i) (by omega);have e3:=gK W A (k:=i) (by omega);rw[zac (l:=B) (by omega)]at hOv;rw[hOd]at e2;simp only[nv]at *;omega
    have e2:nv A+nv B<W^A.length:=by rw[<-e1,<-hOl];exact kE hO
    rw[<-qG hO hOl (s:=nv A+nv B) (by rw[e1,zan e2]),za6 e2];exact⟨rfl,rfl⟩
   .simp (disch:=omega) only[wt,seval,h0,h1,h6,h7,h20,hb',hc'];refine .inl ⟨aP (by kernel_rfl),?_⟩;refine ah ((Dz B i (by omega))) (by rfl) (by simp) ?_;simp (disch:=omega) only[wt,seval,h7];refine ah ((J9 (A.getD i 0) (B.getD i 0) c (hA.get i) (hB.get i) (by simp only[W];omega))) (by rfl) (by simp) ?_;simp (disch:=omega) only[wt,seval,h0,h1,h6,h19,h20,hH];refine⟨aX (by kernel_rfl),?_⟩;have hx:=hA.get i;have hy:=hB.get i

    refine⟨⟨i+1,(A.getD i 0+B.getD i 0+c)/W,out.set i ((A.getD i 0+B.getD i 0+c)%W),st,by omega,by simp only[W]at *;omega,hO.set (zbj _ (by decide)),by simp[hOl],?_,?_,rfl,rfl,by omega,rfl⟩,by omega⟩
    .rw[zc4 (by omega)];have:=zaO (List.drop 1) hOd;simpa using this
    .simp only[nv]at *;rw[dI W (by omega),za7,aT,aT];exact yB hOv (by simp only[W];omega)
  .simp (disch:=omega) only[wt,seval,h0,h1,h6,h20,hb'];refine .inl ⟨aP (by kernel_rfl),?_⟩;refine ah ((Dz B i (by omega))) (by rfl) (by simp) ?_;simp (disch:=omega) only[wt,seval,h7];refine ah ((J9 (A.getD i 0) (B.getD i 0) c (hA.get i) (hB.get i) (by simp only[W];omega))) (by rfl) (by simp) ?_;simp (disch:=omega) only[wt,seval,h0,h1,h6,h19,h20,hH];refine⟨aX (by kernel_rfl),?_⟩;have hx:=hA.get i;have hy:=hB.get i

   refine⟨⟨i+1,(A.getD i 0+B.getD i 0+c)/W,out.set i ((A.getD i 0+B.getD i 0+c)%W),st,by omega,by simp only[W]at *;omega,hO.set (zbj _ (by decide)),by simp[hOl],?_,?_,rfl,rfl,by omega,rfl⟩,by omega⟩
   .rw[zc4 (by omega)];have:=zaO (List.drop 1) hOd;simpa using this
   .simp only[nv]at *;rw[dI W (by omega),za7,aT,aT];exact yB hOv (by simp only[W];omega)
 .simp (disch:=omega) only[wt,seval,h6,h7,hH];have hiA:i=A.length:=by omega
  subst hiA;rw[zac (by omega),zaM,zac (by omega)]at hOv;have hlt':=kE hO;rw[hOl]at hlt';have e2:(nv A+nv B)/W^A.length=c:=by
   rw[<-hOv,zdd _ _ (gB _),za6 hlt',za9]
  rw[e2,<-qG hO hOl (s:=nv A+nv B) (by rw[<-hOv,zbQ,zan hlt'])];exact⟨rfl,rfl⟩
end
section
variable {k:Nat}
def bl (n:Nat):Nat:=if n=0 then 0 else n.log2+1
theorem FI {x:Nat}(h:2^k<=x):bl x=bl (x/2^k)+k:=by
 have h0:x≠0:=by have:=zb7 (n:=k) (show 0<2 by decide);omega
 have h1:x/2^k≠0:=by
  intro h1;rw[Nat.div_eq_zero_iff]at h1;have:=zb7 (n:=k) (show 0<2 by decide);omega
 unfold bl;rw[zam h0,zam h1];have h2:(x/2^k).log2=x.log2-k:=by
  rw[Nat.log2_eq_iff h1];have a1:=Nat.log2_self_le h0;have a2:=Nat.lt_log2_self (n:=x);have hk:k<=x.log2:=(Nat.le_log2 h0).mpr h;constructor
  .rw[zcv (zb7 (by decide)),<-zbM,zdb hk];exact a1
  .rw[za5 (zb7 (by decide)),<-zbM];rw[show x.log2-k+1+k=x.log2+1 by omega];exact a2
 have hk:k<=x.log2:=(Nat.le_log2 h0).mpr h;omega
theorem Js {n:Nat}:bl n<=k↔n<2^k:=by
 unfold bl;split
 .rename_i h;subst h;simp[zb7]
 .rename_i h;constructor
  .intro h';exact zau Nat.lt_log2_self (zaH (by decide) h')
  .intro h';exact(Nat.log2_lt h).mpr h'
theorem rM (x m:Nat)(hm:m<=64):((x:Int)).fdiv (2^min m IntKind.u64.bits)=((x/2^m:Nat):Int):=by
 rw[show min m IntKind.u64.bits=m from zaZ (by simp only[IntKind.bits];omega),zem _ (by exact Int.le_of_lt (Int.pow_pos (by decide)))]
 norm_cast
theorem b2c (S:ByteArray):a4q (.string S)=.iv (.raw (.string S)):=rfl
theorem a3E {S:ByteArray}{y d:Nat}{K:Fr->Hp->Log->Prop}{f:Fr}{H:Hp}{lg:Log}(h:∀n,n<256->n<S.size/\(S[n]?.getD 0).toNat=bl n)(hy:y<256)
  (hk:K (upd f d (.iv (.int .u8 (bl y)))) H (([],[])::lg)):kY (some ⟨0<=(y:Int)/\(y:Int)<(S.size:Int),.iv (.int .u8 ((S[y]?.getD 0).toNat:Nat)),[],[],[]⟩) (some d) K f H lg:=by
 have h1:=h y hy;refine⟨⟨by omega,by omega⟩,?_⟩;show K (upd f d (.iv (.int .u8 ((S[y]?.getD 0).toNat:Nat)))) H _;rw[h1.2];exact hk
theorem Wy (x:Nat)(hx:x<W):AC Tryz.prog 292 [cu x] none [ci (bl x)]:=by
 refine AC.aj (rs:=[.tmp 2]) aV Tryz.func292 (by rfl) (by rfl) (by rfl) (by rfl) (by rfl) ?_;simp (disch:=omega) only[wt,seval];refine KD (λf H=>∃y n:Nat,y<2^32/\n<=32/\bl x=bl y+n/\f 0=.iv (.int .u64 y)/\f 2=.iv (.int .i64 n)) ?_ ?_
 .refine bf (λh=>?_) (λh=>?_)
  .simp (disch:=omega) only[wt,seval,rM x 32 (by omega)];exact⟨x/2^32,32,by simp only[W]at hx;omega,by omega,FI (k:=32) (by omega),rfl,rfl⟩
  .simp only[wt,seval];exact⟨x,0,by omega,by omega,rfl,rfl,rfl⟩
 rintro f H ⟨y,n,hy,hn,e,hF⟩;rw[e];clear e hx;simp (disch:=omega) only[wt,seval,hF];refine KD (λf H=>∃z m:Nat,z<2^16/\m<=48/\bl y+n=bl z+m/\f 0=.iv (.int .u64 z)/\f 2=.iv (.int .i64 m)) ?_ ?_
 .refine bf (λh=>?_) (λh=>?_)
  .have:=FI (x:=y) (k:=16) (by omega);simp (disch:=omega) only[wt,seval,hF,rM y 16 (by omega)];exact⟨y/2^16,n+16,by omega,by omega,by omega,rfl,by omega⟩
  .simp only[wt,seval,hF];exact⟨y,n,by omega,by omega,rfl,rfl,rfl⟩
 clear hF;rintro f H ⟨z,m,hz,hm,e,hF⟩;rw[e];clear e hy;simp (disch:=omega) only[wt,seval,hF];refine KD (λf H=>∃y n:Nat,y<2^8/\n<=56/\bl z+m=bl y+n/\f 0=.iv (.int .u64 y)/\f 2=.iv (.int .i64 n)) ?_ ?_
 .refine bf (λh=>?_) (λh=>?_)
  .have:=FI (x:=z) (k:=8) (by omega);simp (disch:=omega) only[wt,seval,hF,rM z 8 (by omega)];exact⟨z/2^8,m+8,by omega,by omega,by omega,rfl,by omega⟩
  .simp only[wt,seval,hF];exact⟨z,m,by omega,by omega,rfl,rfl,rfl⟩
 clear hF;rintro f H ⟨y,n,hy,hn,e,hF⟩;rw[e];have hb:bl y<=8:=Js.mpr hy;have hw:IntKind.u8.wrap (y:Int)=(y:Int):=by
  simp only[IntKind.wrap,IntKind.signed,IntKind.bits,zdj,zbg,zbo];omega
 have hw2:IntKind.i64.wrap (bl y:Int)=(bl y:Int):=wrap_i64 _ (by omega) (by omega);simp (disch:=omega) only[wt,seval,hF,hw,b2c];refine a3E ?_ (by omega) ?_
 .decide +kernel
 simp (disch:=omega) only[wt,seval,hw2];omega
end
end Go.Proofs.YtdpngipofekcfaaGreat
