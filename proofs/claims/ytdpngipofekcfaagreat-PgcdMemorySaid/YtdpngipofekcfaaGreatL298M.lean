/-
 Contracts of the functions that the law reaches.
-/
import Derived.Test.YtdpngipofekcfaaGreatL36M
import Derived.Test.YtdpngipofekcfaaGreatL31M
import Derived.Test.YtdpngipofekcfaaGreatAbsYM
import Derived.Test.YtdpngipofekcfaaGreatAbsRM
import Derived.Test.YtdpngipofekcfaaGreatAbsFM
set_option maxHeartbeats 2000000
namespace Go.Proofs.YtdpngipofekcfaaGreat
open Go Go.Proofs Go.AL Go.RowKit
set_option linter.unusedSimpArgs false
set_option linter.unusedVariables false
theorem KU {w:World}{D:Nat->Prop}:∀{xs:List CV} {vs:List Value},dU w D xs vs->∀(j:Nat) (c:CV) (v:Value),xs[j]?=some c->vs[j]?=some v->jo w D c v
 |[],[],_,j,c,v,h,_=>by simp at h
 |x::xs,u::vs,h,0,c,v,h1,h2=>by
  simp only[zbP,zaq]at h1 h2;subst h1 h2;exact h.1
 |x::xs,u::vs,h,j+1,c,v,h1,h2=>KU h.2 j c v (by simpa using h1) (by simpa using h2)
 |[],_::_,h,_,_,_,_,_=>h.elim
 |_::_,[],h,_,_,_,_,_=>h.elim
theorem ACX.plain {P:Program}{g:Nat}{args res:List CV}{R:Nat->Nat->List CV->Prop}(h:ACX P g args R)(hs:∀B E r,R B E r->Cb r res):AC P g args none res:=by
 intro w D vs hD hv;refine qL.mono (h.2 w D vs hD hv) ?_;rintro v w' ⟨hb,us,r,rfl,hR,hr⟩;have h2:=(hs _ _ _ hR).a4o hr;refine⟨hb,us,rfl,⟨(dU.length h2).symm,λj c v _ hc hv=>?_,λi e sz rows h=>by cases h⟩⟩;exact(KU h2 j c v hc hv).mono (bD.of_sub λb hb=>hb.elim id λh=>h.elim)
theorem Ah {b:Option (Nat×Nat)}{e sz k:Nat}{rows:List (List IV)}(h:∀r∈rows,r.length=k):Le (.own b e sz rows) (.sl rows) :=
 .own _ _ _ _ _ rfl (λi r r' h1 h2=>by rw[h1]at h2;injection h2 with h2;rw[h2]) (λi r r' h1 h2 j x x' h3 h4=>by
  rw[h1]at h2;injection h2 with h2;subst h2;rw[h3]at h4;injection h4 with h4;subst h4;exact .refl _)
abbrev fint (b:OB)(n:Int):List IV:=[.bool (canon n).1,Fj b (canon n).2]
def b6g (n:Int)(B E:Nat)(res:List CV):Prop:=∃b,res=[.agg (fint b n)]/\Nw B E (oid b)
theorem a8V (n:Int)(B:Nat):∃E res,B<=E/\b6g n B E res:=⟨B,_,zab _,none,rfl,.nil _ _⟩
theorem a9F (s:Bool)(n:Nat)(b:OB):AC Tryz.prog 189 [cb s,.iv (Fj b (wd n))] none [.agg (fint b (sg s n))]:=by
 refine AC.aj (rs:=[.cell 4 30]) aV Tryz.func189 (by rfl) (by rfl) (by rfl) (by rfl) (by rfl) ?_;have hz:(0<((wd n).length:Int))↔n≠0:=by have:=jA (n:=n);omega
 cases s
 .simp (disch:=omega) only[wt,seval,gW,fM];unfold fint;rw[yC];rfl
 .simp (disch:=omega) only[wt,seval,gW,fM];unfold fint;rw[yC];have h':decide (0<(wd n).length)=decide (n≠0):=by rw[zbA];omega
  simp[h']
theorem FV (c:RI)(h:Sz (2^40) c):ACX Tryz.prog 190 [cr c] (b6g (iv c)):=by
 refine ACX.aj zi0 (rs:=[.cell 2 30]) aV Tryz.func190 (by rfl) (by rfl) (by rfl) (by rfl) (by rfl) (a8V _) (λB=>?_);have hl:=h.1;simp (disch:=omega) only[wt,seval];refine .inl ⟨aP (by kernel_rfl),?_⟩;refine aJ ((Fa c.2 h.2 (by omega))) (by rfl) (by simp) (by rfl) ?_;rintro B' E _ hB hE ⟨b,rfl,hb⟩;simp only[wt,seval];refine ah ((a9F c.1 (nv c.2) b)) (by rfl) (by simp) ?_;simp (disch:=omega) only[wt,seval,fM];refine⟨aX (by kernel_rfl),?_⟩;refine aQ [.agg (fint b (iv c))] (by rfl) (by simp (disch:=omega) only[wt,seval];rfl) ?_;intro E hE;exact⟨b,rfl,hb.mono hB (by omega)⟩
theorem V8 (s:Bool)(n:Nat)(h:(wd n).length<=2^40):ACX Tryz.prog 100 [cb s,cl (wd n)] (b6g (sg s n)):=by
 refine ACX.aj zi0 (rs:=[.cell 4 30]) aV Tryz.func100 (by rfl) (by rfl) (by rfl) (by rfl) (by rfl) (a8V _) (λB=>?_);simp (disch:=omega) only[wt,seval];have m:=FV (s,wd n) ⟨h,bg _⟩;rw[show iv (s,wd n)=sg s n by show sg s (nv (wd n))=sg s n;rw[bJ]]at m;refine aJ (m) (by rfl) (by simp) (by rfl) ?_;rintro B' E _ hB hE ⟨b,rfl,hb⟩;simp (disch:=omega) only[wt,seval,fM];refine aQ [.agg (fint b (sg s n))] (by rfl) (by simp (disch:=omega) only[wt,seval];rfl) ?_;intro E hE;exact⟨b,rfl,hb.mono hB (by omega)⟩
theorem OC (b:OB)(n:Int):∀(j:Nat) (x y:IV),(fint b n)[j]?=some x->(jy (canon n))[j]?=some y->Le x y
 |0,x,y,hx,hy=>by cases hx;cases hy;exact .refl _
 |1,x,y,hx,hy=>by
  cases hx;cases hy;refine .own _ _ _ _ _ rfl (λi r r' h h'=>?_) (λi r r' h h' j x x' hx hx'=>?_)
  .rw[h]at h';cases h';rfl
  .rw[h]at h';cases h';rw[hx]at hx';cases hx';exact .refl _
 |j+2,x,y,hx,_=>by simp at hx
theorem a8L {g:Nat}{args:List CV}{n:Int}(h:ACX Tryz.prog g args (b6g n)):AC Tryz.prog g args none [cz n]:=ACX.plain h λB E r hr=>by
 obtain⟨b,rfl,-⟩:=hr;exact .cons (.agg rfl (OC b n)) .nil
theorem EO (c:RI)(h:Sz (2^40) c):AC Tryz.prog 190 [cr c] none [cz (iv c)] :=
 a8L (FV c h)
theorem uw (c:RI)(h:Sz (2^40) c):AC Tryz.prog 191 [cr c] none [ci (iv c).sign]:=by
 refine AC.aj (rs:=[.tmp 2]) aV Tryz.func191 (by rfl) (by rfl) (by rfl) (by rfl) (by rfl) ?_;simp (disch:=omega) only[wt,seval];refine ah ((EO c h)) (by rfl) (by simp) ?_;simp (disch:=omega) only[wt,seval];rw[LK];refine bf (λhn=>?_) (λhn=>?_)
 .simp (disch:=omega) only[wt,seval,hn]
 .simp (disch:=omega) only[wt,seval,hn];refine bf (λhp=>?_) (λhp=>?_)
  .simp (disch:=omega) only[wt,seval,hp,zl]
  .simp (disch:=omega) only[wt,seval,hp,zl]
end Go.Proofs.YtdpngipofekcfaaGreat

namespace Go.Proofs.YtdpngipofekcfaaGreat
open Go Go.Proofs Go.AL
set_option linter.unusedSimpArgs false
set_option linter.unusedVariables false

section
variable {d i n:Nat} {u rs:List Nat}
theorem a8i {v:Nat}(h:0<(wd v).length):0<(wd v).getD ((wd v).length-1) 0:=by
 rcases za8 ((wd v).getD ((wd v).length-1) 0) with h0|h0
 .exfalso
  have h1:=aT W (wd v) ((wd v).length-1);rw[zdb h,zaM,h0,zcd,zaV]at h1;have h2:=kE ((bg v).take ((wd v).length-1));rw[zah,zaZ (zfJ _ _)]at h2;have h3:v<W^((wd v).length-1):=by
   have h4:=bJ v;simp only[nv]at *;omega
  have:=bH.mpr h3;omega
 .exact h0
theorem U3 {y:Nat}(h:0<(wd y).length):∃s,s=64-bl ((wd y).getD ((wd y).length-1) 0)/\s<=63/\(wd y).getD ((wd y).length-1) 0<W/\(wd (y*2^s)).length=(wd y).length:=by
 have ht:=a8i h;have hw:=(bg y).get ((wd y).length-1);have h1:=aT W (wd y) ((wd y).length-1);rw[zdb h,zaM]at h1;have h2:=kE ((bg y).take ((wd y).length-1));rw[zah,zaZ (zfJ _ _)]at h2;have h4:=bJ y;simp only[nv]at *;rw[h4]at h1;have hmono:(wd y).length<=(wd (y*2^(64-bl ((wd y).getD ((wd y).length-1) 0)))).length:=bF (zcW _ (zb7 (by decide)));generalize hk:(wd y).length=k at *;generalize (wd y).getD (k-1) 0=t at *;have hb64:bl t<=64:=Js.mpr hw;have hb1:1<=bl t:=by
  rcases za8 (bl t) with h0|h0
  .have:=Js.mp (zdB h0);omega
  .exact h0
 have hbt:t<2^bl t:=Js.mp (zab _);refine⟨_,rfl,by omega,hw,zfm (bH.mpr ?_) hmono⟩;have h5:y<W^(k-1)*2^bl t:=by
  have:=zbb (W^(k-1)) hbt;rw[zdQ]at this;omega
 have h6:=Nat.mul_lt_mul_of_pos_right h5 (zb7 (by decide:0<2):0<2^(64-bl t));rw[za1,<-zbM,show bl t+(64-bl t)=64 by omega]at h6;have h7:W^k=W^(k-1)*2^64:=by
  have h8:W^(k-1+1)=W^(k-1)*W:=za7 _ _;rw[zdb h]at h8;exact h8
 rw[h7];exact h6
theorem Zp (b:Nat):∀n,vl b (List.replicate n 0)=0
 |0=>rfl
 |n+1=>by rw[zfj,vl,Zp b n];rfl
theorem Tv {X:List Nat}{k:Nat}(h:k<X.length):(dh X).set k (splice ((dh X).getD k []) 0 [.int .u64 (d:Int)])=dh (X.set k d):=by
 rw[U0 h,CZ,N8]
theorem put_eq (h:i+n<u.length)(hr:rs.length=n):(u.take i++rs++u.drop (i+n)).set (i+n) d=u.take i++(rs++d::u.drop (i+n+1)):=by
 rw[zcl h,zeY _ _ (by simp;omega)];have e:i+n-(u.take i++rs).length=0:=by simp;omega
 rw[e,zd7,zaR]
theorem GK (h:i+n<u.length)(hr:rs.length=n)(hu:Lim u)(hrs:Lim rs)(hd:d<W):∃X,(u.take i++rs++u.drop (i+n)).set (i+n) d=X/\X.length=u.length/\X.take i=u.take i/\nv (X.drop i)=nv rs+W^n*(d+W*nv (u.drop (i+n+1))) /\
  (X.drop i).take n=rs/\X.getD (i+n) 0=d/\X.drop (i+n+1)=u.drop (i+n+1)/\Lim X:=by
 refine⟨_,put_eq h hr,?_,?_,?_,?_,?_,?_,?_⟩
 .simp;omega
 .rw[zch (by simp;omega),zeT,Nat.min_self]
 .rw[zd4 (by simp;omega),zbD (by rw[zah];exact zeE _ _),zcg];have:=gK W (rs++d::u.drop (i+n+1)) (k:=n) (by simp;omega);rw[<-hr,zd5,List.drop_left,hr]at this;exact this
 .rw[zd4 (by simp;omega),zbD (by rw[zah];exact zeE _ _),zcg,<-hr,zd5]
 .rw[zax,za2 (by simp;omega)];have e:i+n-(u.take i).length=n:=by simp;omega
  rw[e,za2 (by omega),hr];simp
 .rw[<-zaR,List.drop_append,zbD (by simp;omega)];have e:i+n+1-(u.take i++rs).length=1:=by simp;omega
  rw[e];rfl
 .exact(hu.take i).append (hrs.append (Lim.cons hd (hu.drop _)))
theorem Kz {u0 q:List Nat}{V g D:Nat}(hul:i<u.length)(hu0:u0.length=u.length)(hq:i<q.length)(hT:u.take (i+1)=u0.take (i+1))(hE:nv (u0.drop (i+1))=nv (q.drop (i+1))*V+nv (u.drop (i+1)))(hD:nv (u.drop i)=D)(hg:g=D/V) :
  nv (u0.drop i)=nv ((q.set i g).drop i)*V+D%V/\u.take i=u0.take i:=by
 have e1:=pI u0 i (by omega);have e2:=pI u i hul;have e3:=pI (q.set i g) i (by simp;omega);have e4:(q.set i g).getD i 0=g:=by simp[List.getD,hq]
 have e5:(q.set i g).drop (i+1)=q.drop (i+1):=zc4 (by omega);have e6:u0.getD i 0=u.getD i 0:=by
  have h1:u0.getD i 0=(u0.take (i+1)).getD i 0:=by simp[List.getD]
  have h2:u.getD i 0=(u.take (i+1)).getD i 0:=by simp[List.getD]
  rw[h1,h2,hT]
 have hd:=zbl D V;rw[e4,e5]at e3;rw[e3,e1,e6,hE,zaN,zbx,<-za1,zaA g V,hg];rw[hD]at e2;constructor
 .omega
 .have:=zaO (List.take i) hT;simpa [zeT] using this
theorem Qn (l:List Nat):∀r∈dh l,∀x∈r,RD x:=by
 intro r hr x hx;simp only[dh,List.mem_map]at hr;obtain⟨n,_,rfl⟩:=hr;simp only[List.mem_singleton]at hx;subst hx;trivial
theorem flat_own2 (e:Nat)(l l':List Nat)(a:Nat):xM (some (0,e,1,dh l)) [cl l',cu a]:=by
 refine⟨Qn l,λj c hj hc=>?_⟩
 match j,hj with
 |1,_=>simp at hc;subst hc;trivial
 |j+2,_=>simp at hc
theorem flat_own3 (e:Nat)(l l':List Nat)(a b:Nat):xM (some (0,e,1,dh l)) [cl l',cu a,ci b]:=by
 refine⟨Qn l,λj c hj hc=>?_⟩
 match j,hj with
 |1,_=>simp at hc;subst hc;trivial
 |2,_=>simp at hc;subst hc;trivial
 |j+3,_=>simp at hc
def b8z (q r:Nat)(B E:Nat)(res:List CV):Prop:=∃b,res=[.iv (Fj b (wd q)),cl (wd r)]/\Nw B E (oid b)
theorem b4q (q r B:Nat):∃E res,B<=E/\b8z q r B E res:=⟨B,_,zab _,none,rfl,.nil _ _⟩
theorem xR {b:OB}{l:List Nat}:Le (Fj b l) (.sl (dh l)):=Ah (k:=1) (λr hr=>by obtain⟨x,_,rfl⟩:=zaw.1 hr;rfl)
theorem a1s {g:Nat}{args:List CV}{l:List Nat}(h:ACX Tryz.prog g args (b5t l)):AC Tryz.prog g args none [cl l]:=ACX.plain h λB E r hr=>by
 obtain⟨b,rfl,-⟩:=hr;exact .cons (.iv xR) .nil
theorem VX (l:List Nat)(h:Lim l)(hl:l.length<=2^43):AC Tryz.prog 196 [cl l] none [cl (wd (nv l))] :=
 a1s (TN l h hl)
theorem qB (l:List Nat)(h:Lim l)(hl:l.length<=2^43):AC Tryz.prog 252 [cl l] none [cl (wd (nv l))] :=
 a1s (Fa l h hl)
theorem a1H (a:List Nat)(n:Nat)(ha:Lim a)(hl:a.length<=2^39)(hn:n<=1048576):AC Tryz.prog 308 [cl a,ci n] none [cl (wd (nv a*2^n)),ci 0]:=by
 refine AC.aj (rs:=[.tmp 4,.tmp 5]) aV Tryz.func308 (by rfl) (by rfl) (by rfl) (by rfl) (by rfl) ?_;have h1:¬(n:Int)<0:=by omega
 have h2:¬1048576<(n:Int):=by omega
 have ht:=wE a;simp (disch:=omega) only[wt,seval,h1,h2];refine ah ((SE a (by omega))) (by rfl) (by simp) ?_;simp only[wt,seval];have hs:=a0b (ha.take (kV a)) n;have e:nv (a.take (kV a))=nv a:=FY oV ha;rw[e,zah]at hs;refine ah ((b1o (a.take (kV a)) n (ha.take _) (by rw[zah];omega) hn)) (by rfl) (by simp) ?_;simp (disch:=omega) only[wt,seval];have:=VX (b0d (a.take (kV a)) n) hs.1 (by omega);rw[hs.2.1]at this;refine ah (this) (by rfl) (by simp) ?_;simp (disch:=omega) only[wt,seval]
theorem Dh (a b:List Nat)(ha:Lim a)(hb:Lim b)(hla:a.length<=2^40)(hlb:b.length<=2^40) :
  AC Tryz.prog 207 [cl a,cl b] none [cl (wd (nv a+nv b))]:=by
 refine AC.aj (rs:=[.tmp 4]) aV Tryz.func207 (by rfl) (by rfl) (by rfl) (by rfl) (by rfl) ?_;simp only[wt,seval];refine ah ((b1x a b ha hb hla hlb)) (by rfl) (by simp) ?_;simp (disch:=omega) only[wt,seval];generalize hn:max a.length b.length=n at *;refine ah ((yx (pad n (nv a+nv b)) (by rw[nK];omega))) (by rfl) (by simp) ?_;simp (disch:=omega) only[wt,seval,nK];have hc:(nv a+nv b)/W^n<W:=by
  rw[za5 (gB n)];have h4:=kE ha;have h5:=kE hb;have h6:W^a.length<=W^n:=zaH (by decide) (by omega);have h7:W^b.length<=W^n:=zaH (by decide) (by omega);have:2*W^n<=W*W^n:=zag _ (by decide);omega
 have e:nv (pad n (nv a+nv b)++[(nv a+nv b)/W^n])=nv a+nv b:=by
  rw[TT,wY,nK];exact zeB _ _
 have:=VX (pad n (nv a+nv b)++[(nv a+nv b)/W^n]) ((rU _ _).append (Lim.cons hc Lim.nil)) (by simp[nK];omega);rw[e]at this;refine ah (this) (by rfl) (by simp) ?_;simp (disch:=omega) only[wt,seval]
theorem TV (a b:List Nat)(ha:Lim a)(hb:Lim b)(hla:a.length<=2^40)(hlb:b.length<=2^40) :
  AC Tryz.prog 264 [cl a,cl b] none [cl (if nv a<nv b then [] else wd (nv a-nv b)),ci (if nv a<nv b then 2 else 0)]:=by
 refine AC.aj (rs:=[.tmp 4,.tmp 5]) aV Tryz.func264 (by rfl) (by rfl) (by rfl) (by rfl) (by rfl) ?_;simp only[wt,seval];refine ah ((b1m a b ha hb hla hlb)) (by rfl) (by simp) ?_;simp (disch:=omega) only[wt,seval];generalize hn:max a.length b.length=n at *;by_cases h:nv a<nv b
 .simp (disch:=omega) only[wt,seval,h]
 .simp only[wt,seval,h];have h4:=kE ha;have h6:W^a.length<=W^n:=zaH (by decide) (by omega);have e:nv (pad n (nv a+W^n-nv b))=nv a-nv b:=by
   rw[wY,show nv a+W^n-nv b=(nv a-nv b)+W^n by omega,zeQ,zan (by omega)]
  have:=VX (pad n (nv a+W^n-nv b)) (rU _ _) (by simp[nK];omega);rw[e]at this;refine ah (this) (by rfl) (by simp) ?_;simp (disch:=omega) only[wt,seval]
theorem a6r (a b:List Nat)(ha:Lim a)(hb:Lim b)(hla:a.length<=2^40)(hlb:b.length<=2^40) :
  AC Tryz.prog 208 [cl a,cl b] none [cl (wd (if nv a<nv b then nv b-nv a else nv a-nv b)),.iv (.bool (decide (nv a<nv b)))]:=by
 refine AC.aj (rs:=[.tmp 4,.tmp 5]) aV Tryz.func208 (by rfl) (by rfl) (by rfl) (by rfl) (by rfl) ?_;simp only[wt,seval];refine ah ((TV a b ha hb hla hlb)) (by rfl) (by simp) ?_;simp (disch:=omega) only[wt,seval];by_cases h:nv a<nv b
 .have h':¬nv b<nv a:=by omega
  simp only[wt,seval,h];refine ah ((TV b a hb ha hlb hla)) (by rfl) (by simp) ?_;simp (disch:=omega) only[wt,seval,h']
 .simp (disch:=omega) only[wt,seval,h]
theorem RX (a b:RI)(ha:Sz (2^40) a)(hb:Sz (2^40) b):AC Tryz.prog 127 [cr a,cr b] none [cz (iv a+iv b)]:=by
 refine AC.aj (rs:=[.cell 4 30]) aV Tryz.func127 (by rfl) (by rfl) (by rfl) (by rfl) (by rfl) ?_;have hla:=ha.1;have hlb:=hb.1;simp (disch:=omega) only[wt,seval];refine U7 (λhe=>?_) (λhe=>?_)
 .have he:a.1=b.1:=by simpa using he
  rw[Ih he];simp (disch:=omega) only[wt,seval];refine .inl ⟨aP (by kernel_rfl),?_⟩;refine ah ((Dh a.2 b.2 ha.2 hb.2 (by omega) (by omega))) (by rfl) (by simp) ?_;simp only[wt,seval];refine ah ((FU a.1 (nv a.2+nv b.2))) (by rfl) (by simp) ?_;simp (disch:=omega) only[wt,seval];exact aX (by kernel_rfl)
 .have he:a.1≠b.1:=by simpa using he
  rw[U6 he];simp (disch:=omega) only[wt,seval];refine ah ((a6r a.2 b.2 ha.2 hb.2 (by omega) (by omega))) (by rfl) (by simp) ?_;simp (disch:=omega) only[wt,seval];refine ah ((FU (a.1 != decide (nv a.2<nv b.2)) (if nv a.2<nv b.2 then nv b.2-nv a.2 else nv a.2-nv b.2))) (by rfl) (by simp) ?_;simp (disch:=omega) only[wt,seval]
theorem b1b (a:List Nat)(n:Nat)(ha:Lim a)(hl:a.length<=2^40)(hn:n<=2^60):AC Tryz.prog 313 [cl a,ci n] none [cl (wd (nv a/2^n)),ci 0]:=by
 obtain⟨b,hb⟩:=b1n a n ha hl hn;refine AC.aj (rs:=[.tmp 4,.tmp 5]) aV Tryz.func313 (by rfl) (by rfl) (by rfl) (by rfl) (by rfl) ?_;have h1:¬(n:Int)<0:=by omega
 simp (disch:=omega) only[wt,seval,h1];refine ah (hb) (by rfl) (by simp) ?_;simp (disch:=omega) only[wt,seval];have:=VX (pad (a.length-n/64) (nv a/2^n)) (rU _ _) (by rw[nK];omega);have e:nv (pad (a.length-n/64) (nv a/2^n))=nv a/2^n:=by
  rw[wY,zan];have h2:=kE ha;have hd:=zbl n 64;have e1:2^n=W^(n/64)*2^(n%64):=by rw[show W=2^64 from rfl,<-zfQ,<-zbM,hd]
  rw[e1,<-zbK];refine za3 (zbO _ _) ?_;rw[za5 (gB _),<-zbM];exact zau h2 (zaH (by decide) (by omega))
 rw[e]at this;refine ah (this) (by rfl) (by simp) ?_;simp (disch:=omega) only[wt,seval]
set_option maxHeartbeats 4000000 in
theorem a2f (x y m n:Nat)(hm:(wd x).length=m)(hn:(wd y).length=n)(h2:2<=n)(hxy:y<=x)(hl:m<=2^38):ACX Tryz.prog 286 [cl (wd x),cl (wd y)] (b8z (x/y) (x%y)):=by
 refine ACX.aj zi0 (rs:=[.tmp 4,.tmp 5]) aV Tryz.func286 (by rfl) (by rfl) (by rfl) (by rfl) (by rfl) (b4q _ _) (λB0=>?_);obtain⟨s,hs,hs63,htw,hvl⟩:=U3 (y:=y) (by omega);have hyl:n<=m:=by rw[<-hm,<-hn];exact bF hxy
 have lz:=a1V _ htw;rw[<-hs,hn]at lz;rw[hn]at hvl;have hn1:((n:Int)-1).toNat=n-1:=by omega
 simp (disch:=omega) only[wt,seval,hn,hn1];refine ah (lz) (by rfl) (by simp) ?_;simp only[wt,seval];refine ah ((a1H (wd y) s (bg _) (by omega) (by omega))) (by rfl) (by simp) ?_;simp (disch:=omega) only[wt,seval];rw[bJ];refine ah ((a1H (wd x) s (bg _) (by omega) (by omega))) (by rfl) (by simp) ?_;simp (disch:=omega) only[wt,seval];rw[bJ];have hUlt:x*2^s<W^(m+1):=by
  have h1:x<W^m:=by rw[<-hm];exact bH.mp (zab _)
  rw[za7];exact Nat.mul_lt_mul_of_lt_of_le h1 (zaH (by decide) (by omega:s<=64)) (by decide)
 have hul:(wd (x*2^s)).length<=m+1:=bH.mpr hUlt;generalize hup:(wd (x*2^s)).length=up at *;have hz1:((m:Int)+1-up).toNat=m+1-up:=by omega
 simp (disch:=omega) only[wt,seval,hm,hz1];have hcc:=a3m [wd (x*2^s),List.replicate (m+1-up) 0] (by simp) (by simp only[tot,zaC,zbv,List.sum_cons,List.sum_nil,zcs];omega);have hpu:[wd (x*2^s),List.replicate (m+1-up) 0].flatten=pad (m+1) (x*2^s):=by
  simp only[zbI,zdu,zbr];refine qG ((bg _).append (Lim.replicate _)) (by simp;omega) ?_;have h1:=gK W (wd (x*2^s)++List.replicate (m+1-up) 0) (k:=up) (by simp;omega);rw[zch (by omega),zd4 (by omega),zac (by omega),zbD (by omega),zcg,Zp,zcd,zaV]at h1;rw[zan hUlt];exact h1.trans (bJ _)
 rw[hpu]at hcc;have hpl:=nK (m+1) (x*2^s);have hz2:(((m+1:Nat):Int)-n).toNat=m+1-n:=by omega
 refine ah (hcc) (by rfl) (by simp) ?_;simp (disch:=omega) only[wt,seval,hpl,hz2];have hV:Lim (wd (y*2^s)):=bg _;have hq0:Lim (List.replicate (m+1-n) 0):=Lim.replicate _;have hu0:=rU (m+1) (x*2^s);have hi1:nv ((pad (m+1) (x*2^s)).drop (m+1-n))<y*2^s:=by
  have h1:=gK W (pad (m+1) (x*2^s)) (k:=m+1-n) (by omega);have h3:=wY (m+1) (x*2^s);rw[zan hUlt]at h3;have hx:x<W^m:=by rw[<-hm];exact bH.mp (zab _)
  have hy:W^(n-1)<=y:=by
   rcases zbh y (W^(n-1)) with h|h
   .have:=bH.mpr h;omega
   .exact h
  simp only[nv]at *;have h4:W^(m+1-n)*vl W ((pad (m+1) (x*2^s)).drop (m+1-n))<W^(m+1-n)*(y*2^s):=by
   refine za3 (zad (zez _ _) (zdB (h1.symm.trans h3))) ?_;rw[<-za1];refine Nat.mul_lt_mul_of_pos_right (zau hx ?_) (zb7 (by decide));rw[show m=m+1-n+(n-1) by omega,zbM];refine zbR (zaH (by decide) (by omega)) hy
  exact Nat.lt_of_mul_lt_mul_left h4
 have hi2:nv ((pad (m+1) (x*2^s)).drop (m+1-n))=nv ((List.replicate (m+1-n) 0).drop (m+1-n))*(y*2^s)+nv ((pad (m+1) (x*2^s)).drop (m+1-n)):=by
  rw[zbD (l:=List.replicate _ _) (by simp)];simp[nv,vl]
 refine aI (λf H=>∃(k st st2:Nat) (u q:List Nat),k+n<=m+1/\Lim u/\u.length=m+1/\Lim q/\q.length=m+1-n/\nv (u.drop k)<y*2^s/\nv ((pad (m+1) (x*2^s)).drop k)=nv (q.drop k)*(y*2^s)+nv (u.drop k)/\u.take k=(pad (m+1) (x*2^s)).take k/\f 14=.iv (.int .i64 (k-1))/\f 12=.hs 54 st/\f 13=.hs 59 st2/\f 6=.iv (.int .i64 n)/\f 7=.iv (.int .i64 s)/\f 8=.iv (.sl (dh (wd (y*2^s))))/\H 54=.blk false st 148 1 (dh u)/\H 59=.blk false st2 148 1 (dh q)/\H 999=.mrk B0) (λf H=>(bC f 14+1).toNat) ?_ ?_
 .refine⟨m+1-n,1,1,pad (m+1) (x*2^s),List.replicate (m+1-n) 0,by omega,hu0,hpl,hq0,by simp,hi1,hi2,rfl,?_⟩;simp only[wt,seval]
 rintro f H ⟨k,st,st2,u,q,hk,hu,c0G,hq,hql,hR,hE,hT,hF⟩;rw[aC hF.1];simp (disch:=omega) only[wt,seval,hF];generalize hU0:pad (m+1) (x*2^s)=u0 at *;refine bf (λhge=>?_) (λhge=>?_)
 .obtain⟨i,rfl⟩:∃i,k=i+1:=⟨k-1,by omega⟩;rw[show (((i+1:Nat):Int)-1)=i by omega]at *;have hnV:nv (wd (y*2^s))=y*2^s:=bJ _;have hv1:0<(wd (y*2^s)).getD (n-1) 0:=by
   have:=a8i (v:=y*2^s) (by omega);rwa [hvl]at this
  have hR0:nv (u.drop (i+1))<nv (wd (y*2^s)):=by rw[hnV];exact hR
  have hV0:0<nv (wd (y*2^s)):=Nat.zero_lt_of_lt hR0;have hVn:=zee (kE hV);rw[hvl]at hVn;generalize hv:wd (y*2^s)=v at *;generalize y*2^s=V at *;subst hnV;obtain⟨k1,k2,k3,k4,k5⟩:=U4 hu hV h2 (show i+n<u.length by omega) hvl hv1 hR;have gg:=a6X (u.getD (i+n) 0) (u.getD (i+n-1) 0) (u.getD (i+n-2) 0) (v.getD (n-1) 0) (v.getD (n-2) 0) k1 (hu.get _) (hu.get _) (hV.get _) (hV.get _) hv1;have hgW:gd3 (u.getD (i+n) 0) (u.getD (i+n-1) 0) (u.getD (i+n-2) 0) (v.getD (n-1) 0) (v.getD (n-2) 0)<W:=za3 (Nat.min_le_right _ _) (zfT (by decide) (by decide));generalize gd3 (u.getD (i+n) 0) (u.getD (i+n-1) 0) (u.getD (i+n-2) 0) (v.getD (n-1) 0) (v.getD (n-2) 0)=g at *;have t1:((i:Int)+n).toNat=i+n:=by omega
  have t2:((i:Int)+n-1).toNat=i+n-1:=by omega
  have t3:((i:Int)+n-2).toNat=i+n-2:=by omega
  have t4:((n:Int)-1).toNat=n-1:=by omega
  have t5:((n:Int)-2).toNat=n-2:=by omega
  simp (disch:=omega) only[wt,seval,hF,t1,t2,t3,t4,t5];refine .inl ⟨aP (by kernel_rfl),?_⟩;refine ah (gg) (by rfl) (by simp) ?_;simp (disch:=omega) only[wt,seval,hF];refine⟨aX (by kernel_rfl),?_⟩;have hal:((u.drop i).take n).length=n:=by simp;omega
  have ms:=a1O ((u.drop i).take n) v g ((hu.drop i).take n) hV hgW (by omega) (by omega);rw[hal]at ms;have hlo:=kE ((hu.drop i).take n);rw[hal]at hlo;obtain⟨c1,c2⟩:=a9Y (y:=nv v*g) (gB n) hlo;generalize hc:a5a (nv ((u.drop i).take n)) (nv v*g) (W^n)=c at *;have t6:((i:Int)+n-i).toNat=n:=by omega
  refine KF (λf H=>f 14=.iv (.int .i64 i)/\f 12=.hs 54 st/\f 13=.hs 59 st2/\f 6=.iv (.int .i64 n)/\f 7=.iv (.int .i64 s)/\f 8=.iv (.sl (dh v))/\f 15=.iv (.int .u64 g)/\H 54=.blk false st 148 1 (dh u)/\H 59=.blk false st2 148 1 (dh q)/\H 999=.mrk B0) ?_ (λf H hF=>?_)
  .simp only[wt,seval,hF]
  rw[t6];refine J6 ms (by simp only[gV,qU,hF,xk,Ib];rfl) (by simp only[uT];simp;omega) (.inr (flat_own3 ..)) ?_;have b4C:=nK n (nv ((u.drop i).take n)+W^n*c-nv v*g);have b7k:=rU n (nv ((u.drop i).take n)+W^n*c-nv v*g);have b8e:=wY n (nv ((u.drop i).take n)+W^n*c-nv v*g);rw[zan c2]at b8e;rw[<-b8e]at c1 c2;generalize pad n (nv ((u.drop i).take n)+W^n*c-nv v*g)=rs at *;have hti:(u.take i).length=i:=by rw[zah];omega
  have hdi:(u.drop (i+n)).length=m+1-(i+n):=by rw[zbV];omega
  have hh1:i+n<i+n+(m+1-(i+n)):=by omega
  have hiq:i<m+1-n:=by omega
  have hut:=hu.get (i+n);have sb:=LJ (u.getD (i+n) 0) c 0 (by omega);obtain⟨p1,p2⟩:=a2g (b:=0) (g:=g) (gB n) hlo k2 hV0 hVn k4 k5 c1 c2;rcases zbh (u.getD (i+n) 0) c with hct|hct
  .obtain⟨p3,p4,p5⟩:=p2 hct;obtain rfl:c=u.getD (i+n) 0+1:=by omega
   rw[show (u.getD (i+n) 0+W-(u.getD (i+n) 0+1)-0)%W=W-1 by rw[show u.getD (i+n) 0+W-(u.getD (i+n) 0+1)-0=W-1 by omega];exact zan (zfT (by decide) (by decide)),
    zas (by omega)]at sb
   have hWe:W-1+1=W:=zdb (by decide);have hW1:W-1<W:=zfT (by decide) (by decide);generalize W-1=e at sb hWe hW1;obtain⟨X,x0,x1,x2,x3,x4,x5,x6,x7⟩:=GK (d:=e) (show i+n<u.length by omega) b4C hu b7k hW1;have hpr:=Tv (X:=u.take i++rs++u.drop (i+n)) (k:=i+n) (d:=e) (by simp only[zaB];omega);rw[x0]at hpr;simp (disch:=omega) only[wt,seval,hF,t1];refine ah (sb) (by rfl) (by simp) ?_;simp (disch:=omega) only[wt,seval,hF,b4C,t1,hti,hdi,hh1];rw[t6];have hg0:1<=g:=by rw[p3];exact Nat.succ_pos _
   have hgL:g<18446744073709551616:=hgW;have hg1:((g:Int)-1)=((g-1:Nat):Int):=(Int.ofNat_sub hg0).symm;have hgl:((g-1:Nat):Int)<18446744073709551616:=by rw[<-hg1];clear p1 p2 p3;omega
   have hgw:=wrap_u64 (n:=((g-1:Nat):Int)) ⟨Int.natCast_nonneg _,hgl⟩;refine KF (λf H=>f 14=.iv (.int .i64 i)/\f 12=.hs 54 st/\f 13=.hs 59 st2/\f 6=.iv (.int .i64 n)/\f 7=.iv (.int .i64 s)/\f 8=.iv (.sl (dh v))/\f 15=.iv (.int .u64 (g-1:Nat))/\H 54=.blk false st 148 1 (dh X)/\H 59=.blk false st2 148 1 (dh q)/\H 999=.mrk B0) ?_ (λf H hF=>?_)
   .simp (disch:=omega) only[wt,seval,hF,hpr,hg1,hgw]
   have ad:=a6H rs v b7k hV (by omega) (by omega);rw[b4C,hvl,Nat.max_self,p5,Nat.add_div_right _ (gB n),za6 (zau (zbj _ hV0) hVn)]at ad;have hbl:=nK n (nv (u.drop i)%nv v+W^n);have hbL:=rU n (nv (u.drop i)%nv v+W^n);have hbv:=wY n (nv (u.drop i)%nv v+W^n);rw[zeQ,zan (zau (zbj _ hV0) hVn)]at hbv;generalize pad n (nv (u.drop i)%nv v+W^n)=bk at *;obtain⟨Y,z0,z1,z2,z3,z4,z5,z6,z7⟩:=GK (d:=0) (show i+n<X.length by omega) hbl x7 hbL (by decide);have hqr:=Tv (X:=X.take i++bk++X.drop (i+n)) (k:=i+n) (d:=0) (by simp only[zaB,zah,zbV];omega);rw[z0]at hqr;refine J6 ad (by simp only[gV,qU,hF,xk,Ib,x4];rfl) (by simp only[uT];simp;omega) (.inr (flat_own2 ..)) ?_;have b8d:(X.take i).length=i:=by rw[zah];omega
   have c0h:(X.drop (i+n)).length=m+1-(i+n):=by rw[zbV];omega
   have hbg:(X.take i++bk++X.drop (i+n)).getD (i+n) 0=e:=by
    rw[zax,za2 (by simp only[zaB];omega),zaB,b8d,hbl,zdS,zbf,zaV,<-zax,x5]
   have hrow:(dh (X.take i++bk++X.drop (i+n))).getD (i+n) []=[.int .u64 (e:Int)]:=by
    rw[U0 (by simp only[zaB];omega),hbg]
   rw[hrow,CZ]at hqr;have b9U:(dh (X.take i++bk++X.drop (i+n))).set (i+n) [.int .u64 0]=dh Y:=hqr;have hwr:IntKind.u64.wrap ((e:Int)+1)=0:=by
    have h1:((e:Int)+1)=((e+1:Nat):Int):=rfl;rw[h1,hWe];rfl
   simp (disch:=omega) only[wt,seval,hF,hbl,t1,b8d,c0h,hh1,hrow,b9U,hwr];rw[x6,k3,zcd,zaV,zcd,zaV,hbv]at z3;have hq1:g-1=nv (u.drop i)/nv v:=by rw[p3];rfl
   obtain⟨y1,y2⟩:=Kz (g:=g-1) (by omega) (by omega) (by omega) hT hE rfl hq1;exact⟨⟨i,st,st2,Y,q.set i (g-1),by omega,z7,by omega,hq.set (za3 (zfJ _ _) hgW),by simp;omega,by rw[z3];exact zbj _ hV0,by rw[z3];exact y1,by rw[z2,x2];exact y2,rfl,rfl,rfl,rfl,rfl⟩,by omega⟩
  .obtain⟨p3,p4⟩:=p1 hct;rw[show (u.getD (i+n) 0+W-c-0)%W=u.getD (i+n) 0-c by rw[show u.getD (i+n) 0+W-c-0=u.getD (i+n) 0-c+W by omega,zeQ];exact zan (by omega),
    zam (by omega)]at sb
   simp (disch:=omega) only[wt,seval,hF,t1];refine ah (sb) (by rfl) (by simp) ?_;simp (disch:=omega) only[wt,seval,hF,b4C,t1,hti,hdi,hh1];rw[Tv (by simp only[zaB];omega)];obtain⟨X,x0,x1,x2,x3,x4,x5,x6,x7⟩:=GK (d:=u.getD (i+n) 0-c) (show i+n<u.length by omega) b4C hu b7k (by omega);rw[k3,zcd,zaV]at x3;have x8:=x3.trans p4;obtain⟨y1,y2⟩:=Kz (g:=g) (by omega) (by omega) (by omega) hT hE rfl p3;exact⟨⟨i,st,st2,X,q.set i g,by omega,x7,by omega,hq.set hgW,by simp;omega,by rw[x8];exact zbj _ hV0,by rw[x8];exact y1,by rw[x2];exact y2,rfl,rfl,rfl,by rw[x0],rfl⟩,by omega⟩
 .obtain rfl:k=0:=by omega
  simp only[zc5]at hR hE;have hun:nv (u.take n)=nv u:=by
   have h1:=gK W u (k:=n) (by omega);have h2:nv u<W^n:=zau hR (by rw[<-bJ (y*2^s),<-hvl];exact zee (kE hV));simp only[nv]at *;rcases za8 (vl W (u.drop n)) with h|h
   .rw[h,zcd]at h1;exact h1.symm
   .have h3:=zbb (W^n) h;rw[zdQ,zcd,za9]at h3;omega
  have hal:(u.take n).length=n:=by rw[zah];omega
  have hut:=hu.take n;simp (disch:=omega) only[wt,seval,hF];refine ah (b1b (u.take n) s hut (by omega) (by omega)) (by simp only[gV,qU,hF,xk,zc5];rfl) (by simp only[uT];simp;omega) ?_;simp (disch:=omega) only[wt,seval,hF];refine aJ ((Fa q hq (by omega))) (by simp only[gV,qU,yX,Nat.reduceEqDiff,↓reduceIte,hF];rfl) (by simp) (by first|rfl|assumption|(simp only[wt,seval,hF];done)|((repeat (replace hF:=hF.2));exact hF)) ?_;rintro B' E' _ hB hE' ⟨c,rfl,hc⟩;simp only[wt,seval,hF];have hpv:=wY (m+1) (x*2^s);rw[hU0,zan hUlt,hE]at hpv;have hps:0<2^s:=zb7 (by decide);have hV0:0<y*2^s:=Nat.zero_lt_of_lt hR;have eq1:nv q=x/y:=by
   rw[<-zeX x y hps,<-hpv,zaA (nv q),Nat.mul_add_div hV0,za6 hR,zaV]
  have eq2:nv u=x%y*2^s:=by
   rw[<-Nat.mul_mod_mul_right,<-hpv,zaA (nv q),Nat.mul_add_mod,zan hR]
  rw[hun,eq1,eq2,Nat.mul_div_cancel _ hps];refine aQ [.iv (Fj c (wd (x/y))),cl (wd (x%y))] (by rfl) (by simp (disch:=omega) only[wt,seval]) ?_;intro E hE;exact⟨c,rfl,hc.mono hB (by omega)⟩
end
theorem a1U (l:List Nat)(n:Nat)(h:Lim l)(hl:l.length<=2^40)(hn:n<=2^40):AC Tryz.prog 302 [cl l,ci n] none [cl (wd (nv l/W^n)),cl (wd (nv l%W^n))]:=by
 refine AC.aj (rs:=[.tmp 4,.tmp 5]) aV Tryz.func302 (by rfl) (by rfl) (by rfl) (by rfl) (by rfl) ?_;rw[<-a1C h,<-GR h];simp (disch:=omega) only[wt,seval];have e:min (n:Int) (l.length:Int)=((min n l.length:Nat):Int):=by omega
 rw[e];simp only[wt,seval];refine .inl ⟨aP (by kernel_rfl),?_⟩;have e1:(l.drop (min n l.length)).take ((l.length:Int)-((min n l.length:Nat):Int)).toNat=l.drop n:=by
  rw[zac (by rw[zbV];omega)];by_cases hc:n<=l.length
  .rw[zaZ hc]
  .rw[Nat.min_eq_right (by omega),zbD (by omega),zbD (by omega)]
 have e2:l.take (min n l.length)=l.take n:=by
  by_cases hc:n<=l.length
  .rw[zaZ hc]
  .rw[Nat.min_eq_right (by omega),zac (by omega),zac (by omega)]
 rw[e1];refine ah ((qB (l.drop n) (h.drop n) (by rw[zbV];omega))) (by rfl) (by simp) ?_;simp (disch:=omega) only[wt,seval];rw[e2];refine ah ((qB (l.take n) (h.take n) (by rw[zah];omega))) (by rfl) (by simp) ?_;simp (disch:=omega) only[wt,seval];exact aX (by kernel_rfl)
theorem a1Y (l:List Nat)(n:Nat)(hl:l.length<=2^40)(hn:n<=2^40):AC Tryz.prog 303 [cl l,ci n] none [cl (Jq n l)]:=by
 refine AC.aj (rs:=[.tmp 4]) aV Tryz.func303 (by rfl) (by rfl) (by rfl) (by rfl) (by rfl) ?_;unfold Jq;simp (disch:=omega) only[wt,seval];refine bf (λhz=>?_) (λhz=>?_)
 .have hz:l.length=0:=by omega
  simp (disch:=omega) only[wt,seval,hz]
 .have hz:¬l.length=0:=by omega
  simp (disch:=omega) only[wt,seval,hz]
def Rw (x y:Nat):Prop:=AC Tryz.prog 251 [cl (wd x),cl (wd y)] none [cl (wd (x*y))]
theorem a2z (x y:Nat)(m:Nat)(hm:m=((wd y).length+1)/2)(ih:∀u v,(wd u).length<=m+1->(wd v).length<=m+1->Rw u v)(hxy:(wd x).length<=(wd y).length)(hl:(wd y).length<=2^36) :
  AC Tryz.prog 282 [cl (wd x),cl (wd y)] none [cl (wd (x*y))]:=by
 refine AC.aj (rs:=[.tmp 4]) aV Tryz.func282 (by rfl) (by rfl) (by rfl) (by rfl) (by rfl) ?_;have hq:Int.tdiv ((wd y).length+1:Int) 2=(m:Int):=by rw[zbY (by omega)];omega
 have hlt:∀z,(wd z).length<=2*m->(wd (z/W^m)).length<=m/\(wd (z%W^m)).length<=m:=by
  intro z hz;refine⟨bH.mpr ?_,bH.mpr (zbj _ (gB m))⟩;rw[za5 (gB m),<-zbM,<-Nat.two_mul];exact bH.mp hz
 obtain⟨hx1,hx0⟩:=hlt x (by omega);obtain⟨hy1,hy0⟩:=hlt y (by omega);obtain⟨hk,hle⟩:=b9I x y (W^m) (gB m) _ _ _ _ rfl rfl rfl rfl;simp (disch:=omega) only[wt,seval,hq];have c1:=a1U (wd x) m (bg x) (by omega) (by omega);have c2:=a1U (wd y) m (bg y) (by omega) (by omega);rw[bJ]at c1 c2;refine ah (c1) (by rfl) (by simp) ?_;simp (disch:=omega) only[wt,seval];refine ah (c2) (by rfl) (by simp) ?_;simp (disch:=omega) only[wt,seval];generalize x/W^m=x1 at *;generalize x%W^m=x0 at *;generalize y/W^m=y1 at *;generalize y%W^m=y0 at *;have p1:=ih x1 y1 (by omega) (by omega);have p0:=ih x0 y0 (by omega) (by omega);have ax:=sJ x1 x0;have ay:=sJ y1 y0;have pm:=ih (x1+x0) (y1+y0) (by omega) (by omega);unfold Rw at p1 p0 pm;have l1:=fK x1 y1;have l0:=fK x0 y0;have lm:=fK (x1+x0) (y1+y0);refine ah (p1) (by rfl) (by simp) ?_;simp only[wt,seval];refine ah (p0) (by rfl) (by simp) ?_;simp only[wt,seval];have s1:=Dh (wd x1) (wd x0) (bg _) (bg _) (by omega) (by omega);have s2:=Dh (wd y1) (wd y0) (bg _) (bg _) (by omega) (by omega);have s3:=Dh (wd (x1*y1)) (wd (x0*y0)) (bg _) (bg _) (by omega) (by omega);simp only[bJ]at s1 s2 s3;have ls:=sJ (x1*y1) (x0*y0);refine ah (s1) (by rfl) (by simp) ?_;simp only[wt,seval];refine ah (s2) (by rfl) (by simp) ?_;simp only[wt,seval];refine ah (pm) (by rfl) (by simp) ?_;simp only[wt,seval];refine ah (s3) (by rfl) (by simp) ?_;simp only[wt,seval];have s4:=TV (wd ((x1+x0)*(y1+y0))) (wd (x1*y1+x0*y0)) (bg _) (bg _) (by omega) (by omega);simp only[bJ,zam (zeu.mpr hle)]at s4;refine ah (s4) (by rfl) (by simp) ?_;simp (disch:=omega) only[wt,seval];generalize hM:(x1+x0)*(y1+y0)-(x1*y1+x0*y0)=M at *;have lM:(wd M).length<=(wd ((x1+x0)*(y1+y0))).length:=bF (by omega);have e2m:(2:Int)*(m:Int)=((2*m:Nat):Int):=by omega
 rw[e2m];refine ah ((a1Y (wd (x1*y1)) (2*m) (by omega) (by omega))) (by rfl) (by simp) ?_;simp only[wt,seval];refine ah ((a1Y (wd M) m (by omega) (by omega))) (by rfl) (by simp) ?_;simp only[wt,seval];have ll1:=Q9 (2*m) (wd (x1*y1));have ll2:=Q9 m (wd M);have s5:=Dh (Jq (2*m) (wd (x1*y1))) (Jq m (wd M)) (Q7 _ (bg _)) (Q7 _ (bg _)) (by omega) (by omega);rw[VZ,VZ,bJ,bJ]at s5;refine ah (s5) (by rfl) (by simp) ?_;simp only[wt,seval];have c0E:=fK x y;have e5:W^(2*m)*(x1*y1)+W^m*M+x0*y0=x*y:=by
  rw[<-hk,Nat.two_mul,zbM]
 have s6:=Dh (wd (W^(2*m)*(x1*y1)+W^m*M)) (wd (x0*y0)) (bg _) (bg _) (zad (bF (Nat.le.intro e5)) (by omega)) (by omega);rw[bJ,bJ,e5]at s6;refine ah (s6) (by rfl) (by simp) ?_;simp (disch:=omega) only[wt,seval]
theorem Yc:∀(n x y:Nat),max (wd x).length (wd y).length<=n->(wd x).length<=2^36->(wd y).length<=2^36->Rw x y:=by
 intro n
 induction n using Nat.strongRecOn with
 |_ n ih =>
 intro x y hn hx hy;unfold Rw;refine AC.aj (rs:=[.tmp 4]) aV Tryz.func251 (by rfl) (by rfl) (by rfl) (by rfl) (by rfl) ?_;simp (disch:=omega) only[wt,seval];refine KD (λf H=>∃u v,(wd u).length<=(wd v).length/\(wd v).length<=2^36/\(wd v).length<=n/\u*v=x*y/\f 0=.iv (.sl (dh (wd u)))/\f 1=.iv (.sl (dh (wd v)))) ?_ ?_
 .refine bf (λhz=>?_) (λhz=>?_)
  .simp only[wt,seval];exact⟨y,x,by omega,by omega,by omega,Nat.mul_comm _ _,rfl,rfl⟩
  .simp only[wt,seval];exact⟨x,y,by omega,by omega,by omega,rfl,rfl,rfl⟩
 rintro f H ⟨u,v,huv,hv,hvn,e,h0,h1⟩;rw[<-e];clear e hn hx hy;have hu:(wd u).length<=2^36:=by omega
 simp (disch:=omega) only[wt,seval,h0];refine bf (λhz=>?_) (λhz=>?_)
 .have hz:u=0:=jA.mp (by omega);subst hz;simp (disch:=omega) only[wt,seval,ni]
 simp (disch:=omega) only[wt,seval,h0];refine bf (λhz=>?_) (λhz=>?_)
 .simp only[wt,seval,h0,h1];refine ah ((a2z u v (((wd v).length+1)/2) rfl (λa b ha hb=>ih (((wd v).length+1)/2+1) (by omega) a b (by omega) (by omega) (by omega)) huv hv)) (by rfl) (by simp) ?_;simp (disch:=omega) only[wt,seval]
 simp (disch:=omega) only[wt,seval,h0,h1];generalize hA:wd u=A at *;generalize hB:wd v=B at *;have lA:Lim A:=by rw[<-hA];exact bg u
 have lB:Lim B:=by rw[<-hB];exact bg v
 have eA:nv A=u:=by rw[<-hA];exact bJ u
 have eB:nv B=v:=by rw[<-hB];exact bJ v
 have eN:((A.length:Int)+(B.length:Int))=((A.length+B.length:Nat):Int):=by omega
 rw[eN];simp only[wt,seval];refine aI (λf H=>∃(i:Nat) (out:List Nat) (st:Nat),i<=A.length/\Lim out/\out.length=A.length+B.length/\nv (out.take (i+B.length))=nv (A.take i)*nv B /\
  f 1=.iv (.sl (dh B))/\f 5=.hs 34 st/\f 35=.iv (.sl (dh A))/\f 36=.iv (.int .i64 A.length)/\f 37=.iv (.int .i64 i)/\H 34=.blk false st 148 1 (dh out)) (λf H=>(A.length-bC f 37).toNat) ?_ ?_
 .refine⟨0,List.replicate (A.length+B.length) 0,(H 34).stamp+1,by omega,Lim.replicate _,by simp,?_,by simp only[wt,seval,h1],by simp only[wt,seval],by simp only[wt,seval],by simp only[wt,seval],by simp only[wt,seval],by simp only[wt,seval]⟩;rw[List.take_replicate,Nat.zero_add];simp[nv,jB,vl]
 clear h0 h1;rintro f H ⟨i,out,st,hi,hO,hOl,hOv,h1,h5,h35,h36,h37,hH⟩;rw[aC h37];simp (disch:=omega) only[wt,seval,h36,h37];refine bf (λhlt=>?_) (λhlt=>?_)
 .simp (disch:=omega) only[wt,seval,h1,h35,h37];refine aI (λf H=>∃(j c:Nat) (out:List Nat) (st:Nat),j<=B.length/\c<W/\Lim out/\out.length=A.length+B.length/\nv (out.take (i+B.length))+W^(i+j)*c=nv (A.take i)*nv B+(W^i*A.getD i 0)*nv (B.take j) /\
   f 1=.iv (.sl (dh B))/\f 5=.hs 34 st/\f 6=.iv (.int .i64 i)/\f 7=.iv (.int .u64 (A.getD i 0:Nat))/\f 8=.iv (.int .u64 c)/\f 35=.iv (.sl (dh A))/\f 36=.iv (.int .i64 A.length)/\f 37=.iv (.int .i64 i)/\f 42=.iv (.sl (dh B))/\f 43=.iv (.int .i64 B.length)/\f 44=.iv (.int .i64 j)/\H 34=.blk false st 148 1 (dh out)) (λf H=>(B.length-bC f 44).toNat) ?_ ?_
  .refine⟨0,0,out,st,by omega,by decide,hO,hOl,?_,by simp only[wt,seval,h1],by simp only[wt,seval,h5],by simp only[wt,seval],by simp only[wt,seval],by simp only[wt,seval],by simp only[wt,seval,h35],by simp only[wt,seval,h36],by simp only[wt,seval,h37],by simp only[wt,seval],by simp only[wt,seval],by simp only[wt,seval],by simp only[seval,hH]⟩;rw[hOv];simp[nv,vl]
  have hAi:=lA.get i;clear h1 h5 h35 h36 h37 hH hOv hO hOl;clear out st f H;rintro f H ⟨j,c,out,st,hj,hc,hO,hOl,hOv,h1,h5,h6,h7,h8,h35,h36,h37,h42,h43,h44,hH⟩;rw[aC h44];simp (disch:=omega) only[wt,seval,h43,h44];refine bf (λhlj=>?_) (λhlj=>?_)
  .simp (disch:=omega) only[wt,seval,h5,h6,h7,h8,h42,h44,hH];have eij:(i:Int)+(j:Int)=((i+j:Nat):Int):=by omega
   rw[eij];simp (disch:=omega) only[wt,seval];have hBj:=lB.get j;have c0k:=hO.get (i+j);refine ah ((a1N (B.getD j 0) (A.getD i 0) c (out.getD (i+j) 0) hBj hAi hc c0k)) (by rfl) (by simp) ?_;simp (disch:=omega) only[wt,seval,h1,h5,h6,h7,h35,h36,h37,h42,h43,h44,hH];have hm:B.getD j 0*A.getD i 0<=18446744073709551615*18446744073709551615:=Nat.mul_le_mul (by simp only[W]at hBj;omega) (by simp only[W]at hAi;omega);refine⟨⟨j+1,(B.getD j 0*A.getD i 0+c+out.getD (i+j) 0)/W,out.set (i+j) ((B.getD j 0*A.getD i 0+c+out.getD (i+j) 0)%W),st,by omega,by simp only[W]at *;omega,hO.set (Nat.mod_lt _ (by decide)),by simp[hOl],?_,rfl,rfl,by omega,rfl⟩,by omega⟩;have hT:=TU (l:=out) (k:=i+j) (m:=i+B.length) (by omega) (by omega) ((B.getD j 0*A.getD i 0+c+out.getD (i+j) 0)%W);have hN:nv (B.take (j+1))=nv (B.take j)+W^j*B.getD j 0:=aT W B j;rw[hN,Nat.mul_add,<-Nat.add_assoc i j 1,Nat.pow_succ];have hR:=row_step (A:=B.getD j 0*A.getD i 0) (hi:=(B.getD j 0*A.getD i 0+c+out.getD (i+j) 0)/W) hOv hT (by rw[Nat.mul_comm];exact Nat.div_add_mod _ _);rw[hR]
   congr 2
   rw[Nat.pow_add];ac_rfl
  .simp (disch:=omega) only[wt,seval,h1,h5,h6,h8,h35,h36,h37,hH];have hjB:j=B.length:=by omega
   subst hjB;have eij:(i:Int)+(B.length:Int)=((i+B.length:Nat):Int):=by omega
   rw[eij];simp only[wt,seval];refine⟨⟨i+1,out.set (i+B.length) c,st,by omega,hO.set hc,by simp[hOl],?_,rfl,by omega,rfl⟩,by omega⟩;rw[show i+1+B.length=(i+B.length)+1 by omega];have hT:nv ((out.set (i+B.length) c).take (i+B.length+1))=nv (out.take (i+B.length))+W^(i+B.length)*c:=dI W (by omega) c;have hN:nv (A.take (i+1))=nv (A.take i)+W^i*A.getD i 0:=aT W A i;rw[List.take_length]at hOv;rw[hT,hOv,hN,Nat.add_mul]
 .simp (disch:=omega) only[wt,seval,h5];have hiA:i=A.length:=by omega
  subst hiA;rw[List.take_of_length_le (by omega),List.take_of_length_le (by omega),eA,eB]at hOv;have t:=SE out (by omega);rw[<-a9L hO,hOv]at t;refine ah (t) (by simp only[gV,qU,hH];rfl) (by simp) ?_;simp (disch:=omega) only[wt,seval,hH]
theorem MV (a b:List Nat)(ha:Lim a)(hb:Lim b)(hla:a.length<=2^36)(hlb:b.length<=2^36):AC Tryz.prog 184 [cl a,cl b] none [cl (wd (nv a*nv b))]:=by
 refine AC.aj (rs:=[.tmp 4]) aV Tryz.func184 (by rfl) (by rfl) (by rfl) (by rfl) (by rfl) ?_;have h1:=iP ha;have h2:=iP hb;simp only[wt,seval];refine ah ((qB a ha (by omega))) (by rfl) (by simp) ?_;simp only[wt,seval];refine ah ((qB b hb (by omega))) (by rfl) (by simp) ?_;simp only[wt,seval];have p:=Yc _ (nv a) (nv b) (zab _) (by omega) (by omega);unfold Rw at p;refine ah (p) (by rfl) (by simp) ?_;simp (disch:=omega) only[wt,seval]
theorem wu (a b:RI)(ha:Sz (2^36) a)(hb:Sz (2^36) b):AC Tryz.prog 101 [cr a,cr b] none [cz (iv a*iv b)]:=by
 refine AC.aj (rs:=[.cell 4 30]) aV Tryz.func101 (by rfl) (by rfl) (by rfl) (by rfl) (by rfl) ?_;rw[a9b];have h1:=ha.1;have h2:=hb.1;simp (disch:=omega) only[wt,seval];refine .inl ⟨aP (by kernel_rfl),?_⟩;refine ah ((MV a.2 b.2 ha.2 hb.2 (by omega) (by omega))) (by rfl) (by simp) ?_;simp only[wt,seval];have hb:(!(a.1 == b.1))=(a.1 != b.1):=rfl;rw[hb];refine ah ((FU (a.1 != b.1) (nv a.2*nv b.2))) (by rfl) (by simp) ?_;simp (disch:=omega) only[wt,seval];exact aX (by kernel_rfl)
section
variable {q:List Int} {n:Int}
abbrev cw (p:List RI):CV:=.iv (.sl (bZ p))
abbrev cp (q:List Int):CV:=.iv (.sl (iQ q))
theorem uh {p:List Int}(h:∀k,cf p k=cf q k):cp p=cp q:=by unfold cp;rw[J3 h]
theorem Oi (h : -9223372036854775808<=n)(h':n<0):IntKind.u64.wrap (0-IntKind.u64.wrap n)=((n.natAbs:Nat):Int):=by
 simp only[IntKind.wrap,IntKind.signed,IntKind.bits,zdj,zbg,zbo];omega
theorem Oh (h:0<=n)(h':n<=9223372036854775807):IntKind.u64.wrap n=((n.natAbs:Nat):Int):=by
 simp only[IntKind.wrap,IntKind.signed,IntKind.bits,zdj,zbg,zbo];omega
theorem ZW (p:List RI)(h:RP (2^40) (2^40) p):AC Tryz.prog 209 [cw p] none [ci (tz (pv p))]:=by
 refine AC.aj (rs:=[.tmp 2]) aV Tryz.func209 (by rfl) (by rfl) (by rfl) (by rfl) (by rfl) ?_;have hl:=h.1;simp (disch:=omega) only[wt,seval];refine aI (λf H=>∃k:Nat,k<=p.length/\f 0=.iv (.sl (bZ p))/\f 3=.iv (.int .i64 k)/\tz ((pv p).take k)=tz (pv p)) (λf H=>(bC f 3).toNat) ?_ ?_
 .exact⟨p.length,zab _,by simp only[wt,seval],by simp only[wt,seval],by rw[<-iT p,zaM]⟩
 rintro f H ⟨k,hk,h0,h3,ht⟩;rw[aC h3];by_cases hc:0<(k:Int)
 .simp (disch:=omega) only[wt,seval,h0,h3,hc];have ek:((k:Int)-1).toNat=k-1:=by omega
  have ek':k=(k-1)+1:=by omega
  rw[ek];refine ah ((uw (p.getD (k-1) (false,[])) (h.get _))) (by rfl) (by simp) ?_;simp (disch:=omega) only[wt,seval];rw[<-qI];refine bf (λhz=>?_) (λhz=>?_)
  .simp (disch:=omega) only[wt,seval,h0,h3];refine⟨⟨k-1,by omega,by omega,?_⟩,by omega⟩;rw[<-DN (k:=k-1) (by rw[iT];omega) (zbT.mp hz),<-ek',ht]
  .simp (disch:=omega) only[wt,seval,h3];rw[<-ht,ek',Sl (by rw[iT];omega) (λe=>hz (zbT.mpr e))]
 .simp (disch:=omega) only[wt,seval,h3,hc];obtain rfl:k=0:=by omega
  rw[<-ht];rfl
theorem FZ {q:List Int}{k:Nat}(h:k<tz q):(aO q).take (k+1)=(aO q).take k++[cf q k]:=by
 rw[List.take_add_one]
 congr 1
 rw[<-bM];have:k<(aO q).length:=by rw[dw];exact h
 simp[cf,List.getD,this]
theorem a8N (p:List RI)(i:Nat)(hl:p.length<=2^40)(hi:i<=2^40):AC Tryz.prog 287 [cw p,ci i] none [cr (p.getD i (false,[]))]:=by
 refine AC.aj (rs:=[.cell 4 30]) aV Tryz.func287 (by rfl) (by rfl) (by rfl) (by rfl) (by rfl) ?_;have hi0:¬(i:Int)<0:=by omega
 simp (disch:=omega) only[wt,seval,hi0];refine bf (λhn=>?_) (λhn=>?_)
 .simp (disch:=omega) only[wt,seval];have e:p.getD i (false,[])=(false,[]):=by rw[zax,zaQ (by omega)];rfl
  rw[e]
 .simp (disch:=omega) only[wt,seval]
theorem mD (p:List RI)(h:RP (2^40) (2^40) p):AC Tryz.prog 219 [cw p] none [ci ((tz (pv p):Int)-1)]:=by
 refine AC.aj (rs:=[.tmp 2]) aV Tryz.func219 (by rfl) (by rfl) (by rfl) (by rfl) (by rfl) ?_;have hl:=h.1;have htl:=CS (pv p);rw[iT]at htl;simp only[wt,seval];refine ah ((ZW p h)) (by rfl) (by simp) ?_;simp (disch:=omega) only[wt,seval]
end

theorem zL {p q:List Int}(h:ps p=ps q):cp p=cp q:=uh (oW h)
def cn (q:List Int):List RI:=(aO q).map canon
theorem QG (q:List Int)(k:Nat):cf (pv (cn q)) k=cf q k:=by rw[cn,fP,bM]
theorem fF (q:List Int):ps (pv (cn q))=ps q:=a8F (QG q)
theorem a5l {n k:Nat}{q:List Int}(h:PB n k q):RP n k (cn q):=RP.canon h.aO
abbrev cd (l:List Nat):CV:=.iv (.sl (nums l))
theorem qm (d:List Nat)(i:Nat)(hl:d.length<=2^43):AC Tryz.prog 280 [cd d,ci i] none [ci (d.getD i 0:Nat)]:=by
 refine AC.aj (rs:=[.tmp 4]) aV Tryz.func280 (by rfl) (by rfl) (by rfl) (by rfl) (by rfl) ?_;simp (disch:=omega) only[wt,seval];refine bf (λh=>?_) (λh=>?_)
 .simp (disch:=omega) only[wt,seval]
 .simp (disch:=omega) only[wt,seval];rw[zax,zaQ (by omega)];rfl
theorem LZ (l:List Nat)(hl:l.length<=2^43):AC Tryz.prog 201 [cd l] none [cd (l.take (kV l))]:=by
 refine AC.aj (rs:=[.tmp 2]) aV Tryz.func201 (by rfl) (by rfl) (by rfl) (by rfl) (by rfl) ?_;simp (disch:=omega) only[wt,seval];have htl:=wE l;refine aI (λf H=>∃k:Nat,k<=l.length/\f 0=.iv (.sl (nums l))/\f 3=.iv (.int .i64 k)/\kV (l.take k)=kV l) (λf H=>(bC f 3).toNat) ?_ ?_
 .exact⟨l.length,zab _,by simp only[wt,seval],by simp only[wt,seval],by rw[zaM]⟩
 rintro f H ⟨k,hk,h0,h3,ht⟩;rw[aC h3];by_cases hc:0<(k:Int)
 .simp (disch:=omega) only[wt,seval,h0,h3,hc];rw[show ((k:Int)-1).toNat=k-1 by omega];refine bf (λhz=>?_) (λhz=>?_)
  .simp (disch:=omega) only[wt,seval,h0,h3];refine⟨⟨k-1,by omega,by omega,?_⟩,by omega⟩;have e:k=(k-1)+1:=by omega
   rw[<-nV (k:=k-1) (by omega) (by exact_mod_cast hz),<-e,ht]
  .simp (disch:=omega) only[wt,seval,h0,h3];have e:=Aa (l:=l) (k:=k-1) (by omega) (by exact_mod_cast hz);rw[show k-1+1=k by omega,ht]at e;rw[e]
 .simp (disch:=omega) only[wt,seval,h0,h3,hc];obtain rfl:k=0:=by omega
  rw[<-ht];rfl
theorem XT (a:List Nat)(h:Lim a)(hl:a.length<=2^40):AC Tryz.prog 262 [cl a] none [cd (dd a)]:=by
 refine AC.aj (rs:=[.tmp 2]) aV Tryz.func262 (by rfl) (by rfl) (by rfl) (by rfl) (by rfl) ?_;simp only[wt,seval];refine bU 3 3 3 1 (by simp only[wt,seval]) (λf H=>∃(i st:Nat),i<=a.length/\f 0=.iv (.sl (dh a))/\f 3=.hs 3 st/\f 4=.iv (.int .i64 i)/\H 3=.blk false st 3 1 (nums (dd (a.take i)))) (λf H=>(a.length-bC f 4).toNat) ?_ ?_
 .refine⟨0,1,by omega,?_⟩;simp only[wt,seval,fJ,fH,zaj];rfl
 rintro f H ⟨i,st,hi,h0,h3,h4,hH⟩;rw[aC h4];simp (disch:=omega) only[wt,seval,h0,h4];refine bf (λhlt=>?_) (λhlt=>?_)
 .simp (disch:=omega) only[wt,seval,h0,h4];refine aI (λf H=>∃(k st:Nat),k<=4/\f 0=.iv (.sl (dh a))/\f 3=.hs 3 st/\f 4=.iv (.int .i64 i)/\f 5=.iv (.int .u64 (a.getD i 0/D16^k:Nat))/\f 6=.iv (.int .i64 k)/\H 3=.blk false st 3 1 (nums (dd (a.take i)++dn k (a.getD i 0)))) (λf H=>(4-bC f 6).toNat) ?_ ?_
  .refine⟨0,st,by omega,by simp only[wt,seval,h0],by simp only[wt,seval,h3],by simp only[wt,seval,h4],by simp only[wt,seval,zdk,zdW],by simp only[wt,seval],by simp only[seval,hH];rw[show dn 0 (a.getD i 0)=[] from rfl,zbr]⟩
  have hai:=h.get i;clear h0 h3 h4 hH;clear st f H;rintro f H ⟨k,st,hk,h0,h3,h4,h5,h6,hH⟩;rw[aC h6];simp (disch:=omega) only[wt,seval,h6];refine bf (λhlk=>?_) (λhlk=>?_)
  .have hl1:(dd (a.take i)).length=4*i:=by rw[a3d,zah,zaZ (by omega)]
   have hl2:(dn k (a.getD i 0)).length=k:=xC _ _;simp (disch:=omega) only[wt,seval,h0,h3,h4,h5,h6,hH,hl1,hl2];refine⟨⟨k+1,st+1,by omega,rfl,?_,by omega,?_⟩,by omega⟩
   .rw[za7,<-zbK];exact iq (za3 (zad (zbO _ _) (zbO _ _)) hai)
   .rw[a2X,zaR]
  .simp (disch:=omega) only[wt,seval,h0,h3,h4,hH];have hk4:k=4:=by omega
   subst hk4;refine⟨⟨i+1,st,by omega,rfl,by omega,?_⟩,by omega⟩;rw[Qs a (by omega)]
 .simp (disch:=omega) only[wt,seval,h3,hH];rw[show i=a.length by omega,zaM]
theorem a0f (d:List Nat)(n:Nat)(h:Dig d)(hl:d.length<=2^43)(hn:n<=2^41):AC Tryz.prog 249 [cd d,ci n] none [cl (pad n (vl D16 (d.take (4*n))))]:=by
 refine AC.aj (rs:=[.tmp 4]) aV Tryz.func249 (by rfl) (by rfl) (by rfl) (by rfl) (by rfl) ?_;simp (disch:=omega) only[wt,seval];refine aI (λf H=>∃(i st:Nat) (out:List Nat),i<=n/\out.length=n/\Lim out/\nv (out.take i)=vl D16 (d.take (4*i))/\(∀k,i<=k->out.getD k 0=0)/\f 0=.iv (.sl (nums d))/\f 1=.iv (.int .i64 n)/\f 5=.hs 9 st/\f 6=.iv (.int .i64 i)/\H 9=.blk false st 148 1 (dh out)) (λf H=>(n-bC f 6).toNat) ?_ ?_
 .refine⟨0,1,List.replicate n 0,by omega,by simp,Lim.replicate n,by simp[vl],λk _=>?_,by simp only[wt,seval],by simp only[wt,seval],by simp only[wt,seval],by simp only[wt,seval],by simp only[wt,seval]⟩;rw[zax,zdg];split<;>rfl
 rintro f H ⟨i,st,out,hi,hol,hO,hv,hz,h0,h1,h5,h6,hH⟩;rw[aC h6];simp (disch:=omega) only[wt,seval,h1,h6];refine bf (λhlt=>?_) (λhlt=>?_)
 .simp (disch:=omega) only[wt,seval];refine aI (λf H=>∃(j st:Nat) (out:List Nat),j<=4/\out.length=n/\Lim out/\nv (out.take i)=vl D16 (d.take (4*i))/\(∀k,i+1<=k->out.getD k 0=0)/\out.getD i 0=vl D16 ((four d i).drop j) /\
   f 0=.iv (.sl (nums d))/\f 1=.iv (.int .i64 n)/\f 5=.hs 9 st/\f 6=.iv (.int .i64 i)/\f 7=.iv (.int .i64 ((j:Int)-1))/\H 9=.blk false st 148 1 (dh out)) (λf H=>(1+bC f 7).toNat) ?_ ?_
  .refine⟨4,st,out,by omega,hol,hO,hv,λk hk=>hz k (by omega),hz i (by omega),by simp only[wt,seval,h0],by simp only[wt,seval,h1],by simp only[wt,seval,h5],by simp only[wt,seval,h6],(by simp only[wt,seval]<;>rfl),by simp only[seval,hH]⟩
  clear h0 h1 h5 h6 hH hz hv hO hol;clear st out f H;rintro f H ⟨j,st,out,hj,hol,hO,hv,hz,hi4,h0,h1,h5,h6,h7,hH⟩;rw[aC h7];by_cases hlj:(0:Int)<=(j:Int)-1
  .simp (disch:=omega) only[wt,seval,h0,h5,h6,h7,hH,hlj];have e1:((4:Int)*(i:Int)+((j:Int)-1))=((4*i+(j-1):Nat):Int):=by omega
   rw[e1];refine .inl ⟨aP (by kernel_rfl),?_⟩;refine ah ((qm d (4*i+(j-1)) (by omega))) (by rfl) (by simp) ?_;simp (disch:=omega) only[wt,seval,h0,h1,h5,h6,h7,hH];have hd:=h.get (4*i+(j-1));have hb:=Qm h i (j-1);have hf:=a2M d i (j:=j-1) (by omega);rw[show j-1+1=j by omega]at hb hf;rw[<-hi4]at hb hf;have hw:IntKind.u64.wrap (IntKind.u64.wrap ((out.getD i 0:Nat)*65536:Int)+IntKind.u64.wrap (d.getD (4*i+(j-1)) 0:Nat))=((out.getD i 0*65536+d.getD (4*i+(j-1)) 0:Nat):Int):=by
    rw[wrap_u64 (n:=((out.getD i 0:Nat)*65536:Int)) (by omega),wrap_u64 (n:=(d.getD (4*i+(j-1)) 0:Nat)) (by simp only[D16]at hd;omega),wrap_u64 (by simp only[D16]at hd;omega)];omega
   rw[hw,N8];refine⟨aX (by kernel_rfl),?_⟩;refine⟨⟨j-1,st,out.set i (out.getD i 0*65536+d.getD (4*i+(j-1)) 0),by omega,by simp[hol],hO.set (by simp only[D16,W]at *;omega),?_,λk hk=>?_,?_,rfl,by omega,rfl⟩,by omega⟩
   .rw[List.take_set_of_le (zab _)];exact hv
   .have:=hz k hk;simp only[List.getD,zfI,zam (show ¬i=k by omega)]at this ⊢;exact this
   .rw[hf];have hio:i<out.length:=by omega
    have e:∀x,(out.set i x).getD i 0=x:=λx=>by simp[List.getD,hio]
    rw[e];simp only[D16];omega
  .simp (disch:=omega) only[wt,seval,h0,h1,h5,h6,h7,hH,hlj];have hj0:j=0:=by omega
   subst hj0;refine⟨⟨i+1,st,out,by omega,hol,hO,?_,hz,rfl,by omega,rfl⟩,by omega⟩;have:=aT W out i;simp only[nv]at hv ⊢;rw[this,hv,hi4,a9N];rfl
 .simp (disch:=omega) only[wt,seval,h5,hH];have hin:i=n:=by omega
  subst hin;rw[zac (by omega)]at hv;rw[<-hv,<-qG hO hol (s:=nv out) (by have:=kE hO;rw[hol]at this;rw[zan this])]
theorem lF (d:List Nat)(h:Dig d)(hl:d.length<=2^42):AC Tryz.prog 177 [cd d] none [cl (wd (vl D16 d))]:=by
 refine AC.aj (rs:=[.tmp 2]) aV Tryz.func177 (by rfl) (by rfl) (by rfl) (by rfl) (by rfl) ?_;have hlen:(dgD (vl D16 d)).length<=d.length:=by rw[<-Qr h,zah];omega
 simp only[wt,seval];have c1:=LZ d (by omega);rw[Qr h]at c1;have e:((dgD (vl D16 d)).length+3:Int).tdiv 4=(((dgD (vl D16 d)).length+3)/4:Nat):=by rw[zbY (by omega)];omega
 refine ah (c1) (by rfl) (by simp) ?_;simp (disch:=omega) only[wt,seval,e];have:=a0f (dgD (vl D16 d)) (((dgD (vl D16 d)).length+3)/4) (gu _) (by omega) (by omega);rw[zac (by omega),iF,b4l]at this;refine ah (this) (by rfl) (by simp) ?_;simp (disch:=omega) only[wt,seval]
theorem lW (a:List Nat)(h:Lim a)(hl:a.length<=2^40):AC Tryz.prog 200 [cl a] none [cd (dgD (nv a))]:=by
 refine AC.aj (rs:=[.tmp 2]) aV Tryz.func200 (by rfl) (by rfl) (by rfl) (by rfl) (by rfl) ?_;simp only[wt,seval];refine ah ((XT a h hl)) (by rfl) (by simp) ?_;simp only[wt,seval];have:=LZ (dd a) (by rw[a3d];omega);rw[a9g h]at this;refine ah (this) (by rfl) (by simp) ?_;simp (disch:=omega) only[wt,seval]
theorem a5o (a:List Nat)(h:Lim a)(hl:a.length<=2^40):AC Tryz.prog 203 [cl a] none [cl (wd (nv a))]:=by
 refine AC.aj (rs:=[.tmp 2]) aV Tryz.func203 (by rfl) (by rfl) (by rfl) (by rfl) (by rfl) ?_;simp only[wt,seval];refine ah ((lW a h hl)) (by rfl) (by simp) ?_;simp only[wt,seval];have:=lF (dgD (nv a)) (gu _) (by have:=nO h;omega);rw[iF]at this;refine ah (this) (by rfl) (by simp) ?_;simp (disch:=omega) only[wt,seval]
theorem vW (s:Bool)(a:List Nat)(h:Lim a)(hl:a.length<=2^40):AC Tryz.prog 114 [cb s,cl a] none [cz (sg s (nv a))]:=by
 refine AC.aj (rs:=[.cell 4 30]) aV Tryz.func114 (by rfl) (by rfl) (by rfl) (by rfl) (by rfl) ?_;simp (disch:=omega) only[wt,seval];refine ah ((a5o a h hl)) (by rfl) (by simp) ?_;simp (disch:=omega) only[wt,seval];have hz:(0<((wd (nv a)).length:Int))↔nv a≠0:=by have:=jA (n:=nv a);omega
 cases s
 .simp (disch:=omega) only[wt,seval];rw[yC];rfl
 .simp (disch:=omega) only[wt,seval];rw[yC];have h':decide (0<(wd (nv a)).length)=decide (nv a≠0):=by rw[zbA];omega
  simp[jy,splice,h']
theorem uI (n:Nat)(hn:n<9223372036854775808):AC Tryz.prog 83 [ci n] none [cl (wd n)]:=by
 refine AC.aj (rs:=[.tmp 2]) aV Tryz.func83 (by rfl) (by rfl) (by rfl) (by rfl) (by rfl) ?_;simp (disch:=omega) only[wt,seval];have hd:Dig [n%65536,n/65536%65536,n/65536/65536%65536,n/65536/65536/65536]:=by
  intro x hx;simp only[zaG,zaT,zco]at hx;simp only[D16];omega
 have e:vl D16 [n%65536,n/65536%65536,n/65536/65536%65536,n/65536/65536/65536]=n:=by
  simp only[vl,D16];omega
 have:=lF _ hd (by simp);rw[e]at this;refine ah (this) (by rfl) (by simp) ?_;simp (disch:=omega) only[wt,seval]
theorem MF (n:Int)(h : -9223372036854775808<n)(h':n<9223372036854775808):AC Tryz.prog 79 [ci n] none [cz n]:=by
 refine AC.aj (rs:=[.cell 2 30]) aV Tryz.func79 (by rfl) (by rfl) (by rfl) (by rfl) (by rfl) ?_;have hl:(wd n.natAbs).length<=1:=bH.mpr (by simp only[W];omega);simp (disch:=omega) only[wt,seval];refine bf (λhn=>?_) (λhn=>?_)
 .simp (disch:=omega) only[wt,seval];have e1:(0:Int)-n=(n.natAbs:Int):=by omega
  rw[e1];refine ah ((uI n.natAbs (by omega))) (by rfl) (by simp) ?_;simp only[wt,seval];have e:sg true n.natAbs=n:=by unfold sg;simp;omega
  have:=vW true (wd n.natAbs) (bg _) (by omega);rw[bJ,e]at this;refine ah (this) (by rfl) (by simp) ?_;simp (disch:=omega) only[wt,seval]
 .simp only[wt,seval];have e1:n=(n.natAbs:Int):=by omega
  have c1:=uI n.natAbs (by omega);rw[<-e1]at c1;refine ah (c1) (by rfl) (by simp) ?_;simp only[wt,seval];have e:sg false n.natAbs=n:=by unfold sg;simp;omega
  have:=vW false (wd n.natAbs) (bg _) (by omega);rw[bJ,e]at this;refine ah (this) (by rfl) (by simp) ?_;simp (disch:=omega) only[wt,seval]
theorem EU (a:List Nat)(h:Lim a)(hl:a.length<=2^40):AC Tryz.prog 176 [cl a] none [cb (decide (nv a=0))]:=by
 refine AC.aj (rs:=[.tmp 2]) aV Tryz.func176 (by rfl) (by rfl) (by rfl) (by rfl) (by rfl) ?_;simp only[wt,seval];refine ah ((lW a h hl)) (by rfl) (by simp) ?_;simp (disch:=omega) only[wt,seval];have:=rG (n:=nv a);rw[zbA];omega
theorem MG (c:RI)(h:Sz (2^40) c):AC Tryz.prog 180 [cr c] none [ci (iv c).sign]:=by
 refine AC.aj (rs:=[.tmp 2]) aV Tryz.func180 (by rfl) (by rfl) (by rfl) (by rfl) (by rfl) ?_;simp (disch:=omega) only[wt,seval];refine ah ((EU c.2 h.2 h.1)) (by rfl) (by simp) ?_;simp only[wt,seval];refine bf (λhz=>?_) (λhz=>?_)
 .simp (disch:=omega) only[wt,seval];unfold iv;rw[hz];split<;>rfl
 .simp (disch:=omega) only[wt,seval];refine U7 (λhs=>?_) (λhs=>?_)
  .simp (disch:=omega) only[wt,seval];unfold iv;rw[if_pos hs];exact(Int.sign_eq_neg_one_of_neg (by omega)).symm
  .simp (disch:=omega) only[wt,seval];unfold iv;rw[hs];exact(Int.sign_eq_one_of_pos (by simp;omega)).symm
theorem a5h (a b:List Nat)(hla:a.length<=2^43)(hlb:b.length<=2^43):AC Tryz.prog 118 [cl a,cl b] none [cb (decide (a=b))]:=by
 refine AC.aj (rs:=[.tmp 4]) aV Tryz.func118 (by rfl) (by rfl) (by rfl) (by rfl) (by rfl) ?_;simp (disch:=omega) only[wt,seval];refine bf (λhz=>?_) (λhz=>?_)
 .simp (disch:=omega) only[wt,seval];exact(zaW (λe=>hz (by rw[e]))).symm
 have hl:a.length=b.length:=by omega
 simp only[wt,seval];refine aI (λf H=>∃i:Nat,i<=a.length/\a.take i=b.take i/\f 0=.iv (.sl (dh a))/\f 1=.iv (.sl (dh b))/\f 5=.iv (.int .i64 i)) (λf H=>(a.length-bC f 5).toNat) ?_ ?_
 .exact⟨0,by omega,rfl,by simp only[wt,seval],by simp only[wt,seval],by simp only[wt,seval]⟩
 rintro f H ⟨i,hi,he,h0,h1,h5⟩;rw[aC h5];simp (disch:=omega) only[wt,seval,h0,h5];refine bf (λhlt=>?_) (λhlt=>?_)
 .simp (disch:=omega) only[wt,seval,h0,h1,h5];refine .inl ⟨aP (by kernel_rfl),?_⟩;refine⟨aX (by kernel_rfl),?_⟩;refine bf (λhne=>?_) (λhne=>?_)
  .simp (disch:=omega) only[wt,seval];exact(zaW (λe=>hne (by rw[e]))).symm
  .simp (disch:=omega) only[wt,seval,h0,h1,h5];refine⟨⟨i+1,by omega,?_,by omega⟩,by omega⟩;have h1:a.getD i 0=b.getD i 0:=by omega
   have hia:i<a.length:=by omega
   have hib:i<b.length:=by omega
   rw[zaS,zaS,he,zaf hia,zaf hib];have e1:a.getD i 0=a[i]:=by simp[List.getD,hia]
   have e2:b.getD i 0=b[i]:=by simp[List.getD,hib]
   rw[<-e1,<-e2,h1]
 .simp (disch:=omega) only[wt,seval];rw[zac (by omega),zac (by omega)]at he;exact(zbn he).symm
theorem EW (a b:List Nat)(hla:a.length<=2^43)(hlb:b.length<=2^43):AC Tryz.prog 31 [cl a,cl b] none [cb (decide (a=b))]:=by
 refine AC.aj (rs:=[.tmp 4]) aV Tryz.func31 (by rfl) (by rfl) (by rfl) (by rfl) (by rfl) ?_;simp only[wt,seval];refine ah ((a5h a b hla hlb)) (by rfl) (by simp) ?_;simp (disch:=omega) only[wt,seval]
theorem zu (a b:RI)(hla:a.2.length<=2^43)(hlb:b.2.length<=2^43):AC Tryz.prog 47 [cr a,cr b] none [cb (decide (a=b))]:=by
 refine AC.aj (rs:=[.tmp 4]) aV Tryz.func47 (by rfl) (by rfl) (by rfl) (by rfl) (by rfl) ?_;cases hb:(a.1 == b.1)
 .simp (disch:=omega) only[wt,seval,hb];exact(zaW (λe=>by rw[e]at hb;simp at hb)).symm
 .simp (disch:=omega) only[wt,seval,hb];refine ah ((EW a.2 b.2 hla hlb)) (by rfl) (by simp) ?_;simp (disch:=omega) only[wt,seval];have hb:a.1=b.1:=by simpa using hb
  rw[zbA];exact⟨λh=>Prod.ext hb h,λh=>by rw[h]⟩
abbrev cis (l:List Int):CV:=.iv (.sl (iL l))
theorem Vs (l:List Int)(n:Nat)(hl:l.length<=n)(h:∀z∈l,z.natAbs<W):PB n 1 l:=⟨hl,λz hz=>sH.mpr (by simpa using h z hz)⟩
section
variable {a b:List RI} {q r:List Int}
def Raw (p:List RI):Prop:=p.length<=9223372036854775807/\∀c∈p,Sz (9223372036854775807) c
end
theorem a5j (a b:List Nat)(ha:Dig a)(hb:Dig b)(hla:a.length<=2^42)(hlb:b.length<=2^42):AC Tryz.prog 265 [cd a,cd b] none [cd (dn (max a.length b.length+(vl D16 a+vl D16 b)/D16^max a.length b.length) (vl D16 a+vl D16 b))]:=by
 refine AC.aj (rs:=[.tmp 4]) aV Tryz.func265 (by rfl) (by rfl) (by rfl) (by rfl) (by rfl) ?_;generalize hn:max a.length b.length=n at *;have hA:=iI ha;have hB:=iI hb;have hA2:D16^a.length<=D16^n:=zaH (by decide) (by omega);have hB2:D16^b.length<=D16^n:=zaH (by decide) (by omega);have hta:∀i,n<=i->vl D16 (a.take i)=vl D16 a:=λi hi=>by rw[zac (by omega)]
 have htb:∀i,n<=i->vl D16 (b.take i)=vl D16 b:=λi hi=>by rw[zac (by omega)]
 simp only[wt,seval];refine bU 5 5 3 1 (by simp only[wt,seval]) (λf H=>∃(i c st:Nat) (s:List Nat),(i<=n\/i=n+1/\D16^n<=vl D16 a+vl D16 b)/\c<=1/\Dig s/\s.length=i/\vl D16 s+D16^i*c=vl D16 (a.take i)+vl D16 (b.take i)/\f 7=.iv (.int .i64 i)/\f 0=.iv (.sl (nums a))/\f 1=.iv (.sl (nums b))/\f 5=.hs 5 st/\f 6=.iv (.int .i64 c)/\H 5=.blk false st 3 1 (nums s)) (λf H=>((n:Int)+2-bC f 7).toNat) ?_ ?_
 .refine⟨0,0,1,[],.inl (by omega),by omega,Dig.nil,rfl,by simp[vl],?_⟩;simp only[wt,seval,fJ,fH]
 rintro f H ⟨i,c,st,s,hi,hc,hS,hSl,hv,hF⟩;rw[aC hF.1];simp (disch:=omega) only[wt,seval,hF];have hx:=ha.get i;have hy:=hb.get i;by_cases hgo:i<n\/0<c
 .have h3:(i:Int)<a.length\/(¬(i:Int)<a.length/\(i:Int)<b.length)\/(¬(i:Int)<a.length/\¬(i:Int)<b.length/\0<(c:Int)):=by omega
  have hin:i<=n:=by
   rcases hi with hi|⟨rfl,hi⟩
   .exact hi
   .rw[hta _ (by omega),htb _ (by omega)]at hv;have h5:=iI hS;rw[hSl]at h5;have:c=1:=by omega
    subst this;have:D16^(n+1)=D16^n*D16:=za7 ..;have:2*D16^n<=D16^n*D16:=by rw[zaA];exact zbb _ (by decide)
    omega
  have hnext:i+1<=n\/i+1=n+1/\D16^n<=vl D16 a+vl D16 b:=by
   by_cases hlt:i<n
   .exact .inl (by omega)
   .have:i=n:=by omega
    subst this;rw[hta _ (by omega),htb _ (by omega)]at hv;have:c=1:=by omega
    subst this;exact .inr ⟨rfl,by omega⟩
  have hstep:∀t,t=c+(a.getD i 0+b.getD i 0)->Dig (s++[t%65536])/\vl D16 (s++[t%65536])+D16^(i+1)*(t/65536)=vl D16 (a.take (i+1))+vl D16 (b.take (i+1)):=by
   intro t ht;refine⟨hS.snoc (zbj _ (by decide)),?_⟩;rw[Vd,aT,aT,hSl,za7];exact b5a hv (by rw[ht];simp only[D16];omega)
  have e1:(c:Int)+((a.getD i 0:Nat)+(b.getD i 0:Nat):Int)=((c+(a.getD i 0+b.getD i 0):Nat):Int):=by omega
  simp only[D16]at hx hy;rcases h3 with h|⟨h,h'⟩|⟨h,h',h''⟩
  all_goals
   first|simp (disch:=omega) only[wt,seval,hF,h,h',h'']|simp (disch:=omega) only[wt,seval,hF,h,h']|simp (disch:=omega) only[wt,seval,hF,h]
   refine ah ((qm a i (by omega))) (by rfl) (by simp) ?_;simp (disch:=omega) only[wt,seval,hF];refine ah ((qm b i (by omega))) (by rfl) (by simp) ?_;simp (disch:=omega) only[wt,seval,hF];rw[e1];simp (disch:=omega) only[wt,seval];obtain⟨a1,a2⟩:=hstep _ rfl;exact⟨⟨i+1,_,st+1,s++[_],hnext,by omega,a1,by simp[hSl],a2,by omega,rfl,rfl,rfl⟩,by omega⟩
 .have h1:¬(i:Int)<a.length:=by omega
  have h2:¬(i:Int)<b.length:=by omega
  have h3:¬0<(c:Int):=by omega
  simp (disch:=omega) only[wt,seval,hF,h1,h2,h3];have:c=0:=by omega
  subst this;rw[hta _ (by omega),htb _ (by omega),zcd,zaV]at hv;have h5:=iI hS;rw[hSl]at h5;have e:s=dn (n+(vl D16 a+vl D16 b)/D16^n) (vl D16 a+vl D16 b):=by
   have hD:D16^(n+1)=D16^n*D16:=za7 ..;have hlen:i=n+(vl D16 a+vl D16 b)/D16^n:=by
    rcases hi with hi|⟨rfl,hi⟩
    .have:i=n:=by omega
     subst this;rw[za6 (by omega),zaV]
    .rw[Nat.div_eq_of_lt_le (k:=1) (by omega) (by omega)]
   rw[<-hlen];exact a2S hS hSl (by rw[hv,zan (by omega)])
  rw[e]
theorem a0m (a b:List Nat)(ha:Dig a)(hb:Dig b)(hla:a.length<=2^42)(hlb:b.length<=a.length)(hle:vl D16 b<=vl D16 a):AC Tryz.prog 267 [cd a,cd b] none [cd (dn a.length (vl D16 a-vl D16 b))]:=by
 refine AC.aj (rs:=[.tmp 4]) aV Tryz.func267 (by rfl) (by rfl) (by rfl) (by rfl) (by rfl) ?_;simp only[wt,seval];refine bU 5 5 3 1 (by simp only[wt,seval]) (λf H=>∃(i c st:Nat) (s:List Nat),i<=a.length/\c<=1/\Dig s/\s.length=i/\vl D16 s+vl D16 (b.take i)=vl D16 (a.take i)+D16^i*c/\f 7=.iv (.int .i64 i)/\f 0=.iv (.sl (nums a))/\f 1=.iv (.sl (nums b))/\f 5=.hs 5 st/\f 6=.iv (.int .i64 c)/\H 5=.blk false st 3 1 (nums s)) (λf H=>(a.length-bC f 7).toNat) ?_ ?_
 .refine⟨0,0,1,[],by omega,by omega,Dig.nil,rfl,by simp[vl],?_⟩;simp only[wt,seval,fJ,fH]
 rintro f H ⟨i,c,st,s,hi,hc,hS,hSl,hv,hF⟩;rw[aC hF.1];simp (disch:=omega) only[wt,seval,hF];refine bf (λhlt=>?_) (λhlt=>?_)
 .have hx:=ha.get i;have hy:=hb.get i;have hstep:∀t c',t<D16->t+b.getD i 0+c=a.getD i 0+D16*c'->Dig (s++[t])/\vl D16 (s++[t])+vl D16 (b.take (i+1))=vl D16 (a.take (i+1))+D16^(i+1)*c':=by
   intro t c' ht h;refine⟨hS.snoc ht,?_⟩;rw[Vd,aT,aT,hSl,za7];exact a3A hv h
  simp only[D16]at hx hy hstep;simp (disch:=omega) only[wt,seval,hF];refine ah ((qm a i (by omega))) (by rfl) (by simp) ?_;simp (disch:=omega) only[wt,seval,hF];refine ah ((qm b i (by omega))) (by rfl) (by simp) ?_;simp (disch:=omega) only[wt,seval,hF];refine bf (λhneg=>?_) (λhneg=>?_)
  .have e1:(a.getD i 0:Int)-(b.getD i 0:Int)-(c:Int)+65536=((a.getD i 0+65536-b.getD i 0-c:Nat):Int):=by omega
   simp (disch:=omega) only[wt,seval,hF];rw[e1];simp only[wt,seval];obtain⟨a1,a2⟩:=hstep (a.getD i 0+65536-b.getD i 0-c) 1 (by omega) (by omega);exact⟨⟨i+1,1,st+1,_,by omega,by omega,a1,by simp[hSl],a2,by omega,rfl,rfl,rfl⟩,by omega⟩
  .have e1:(a.getD i 0:Int)-(b.getD i 0:Int)-(c:Int)=((a.getD i 0-b.getD i 0-c:Nat):Int):=by omega
   rw[e1];simp (disch:=omega) only[wt,seval,hF,hSl];obtain⟨a1,a2⟩:=hstep (a.getD i 0-b.getD i 0-c) 0 (by omega) (by omega);exact⟨⟨i+1,0,st+1,_,by omega,by omega,a1,by simp[hSl],a2,by omega,rfl,rfl,rfl⟩,by omega⟩
 .simp (disch:=omega) only[wt,seval,hF];have hin:i=a.length:=by omega
  rw[zac (by omega),zac (by omega)]at hv;have h5:=iI hS;rw[hSl]at h5;have:c=0\/c=1:=by omega
  have e:s=dn a.length (vl D16 a-vl D16 b):=by
   refine a2S hS (by omega) ?_;rw[<-hin];rcases this with rfl|rfl
   .rw[zan (by omega)];omega
   .omega
  rw[e]
def Uw (x y:Nat):Int:=if x<y then -1 else if y<x then 1 else 0
theorem a8l {x y i:Nat}(h:x/D16^(i+1)=y/D16^(i+1))(hd:x/D16^i%D16<y/D16^i%D16):x<y:=by
 have e:∀z:Nat,z/D16^i=D16*(z/D16^(i+1))+z/D16^i%D16:=λz=>by
  rw[za7,<-zbK];exact(zbl _ _).symm
 have h1:=e x;have h2:=e y;rw[h]at h1;rcases zbh x y with h3|h3
 .exact h3
 .have:=Nat.div_le_div_right (c:=D16^i) h3;omega
theorem Gu (a b:List Nat)(ha:Dig a)(hb:Dig b)(hla:a.length<=2^42)(hlb:b.length<=2^42):AC Tryz.prog 266 [cd a,cd b] none [ci (Uw (vl D16 a) (vl D16 b))]:=by
 refine AC.aj (rs:=[.tmp 4]) aV Tryz.func266 (by rfl) (by rfl) (by rfl) (by rfl) (by rfl) ?_;generalize hn:max a.length b.length=n at *;have hnI:max (a.length:Int) (b.length:Int)=(n:Int):=by omega
 have h0:vl D16 a/D16^n=vl D16 b/D16^n:=by
  have hA:=iI ha;have hB:=iI hb;have hA2:D16^a.length<=D16^n:=zaH (by decide) (by omega);have hB2:D16^b.length<=D16^n:=zaH (by decide) (by omega);rw[za6 (by omega),za6 (by omega)]
 simp (disch:=omega) only[wt,seval,hnI];refine aI (λf H=>∃(i:Nat),i<=n/\vl D16 a/D16^i=vl D16 b/D16^i/\f 5=.iv (.int .i64 ((i:Int)-1))/\f 0=.iv (.sl (nums a))/\f 1=.iv (.sl (nums b))) (λf H=>(bC f 5+1).toNat) ?_ ?_
 .refine⟨n,by omega,h0,?_⟩;simp only[wt,seval]
 rintro f H ⟨i,hi,hv,hF⟩;rw[aC hF.1];simp (disch:=omega) only[wt,seval,hF];refine bf (λhlt=>?_) (λhlt=>?_)
 .obtain⟨j,rfl⟩:∃j,i=j+1:=⟨i-1,by omega⟩;have ej:((j+1:Nat):Int)-1=(j:Int):=by omega
  have hx:=a3b ha j;have hy:=a3b hb j;rw[ej]at hF;simp (disch:=omega) only[wt,seval,hF];refine ah ((qm a j (by omega))) (by rfl) (by simp) ?_;simp (disch:=omega) only[wt,seval,hF];refine ah ((qm b j (by omega))) (by rfl) (by simp) ?_;simp (disch:=omega) only[wt,seval];refine bf (λh1=>?_) (λh1=>?_)
  .simp (disch:=omega) only[wt,seval];have:vl D16 a<vl D16 b:=a8l hv (by omega);rw[Uw,zas this]
  simp (disch:=omega) only[wt,seval];refine bf (λh2=>?_) (λh2=>?_)
  .simp (disch:=omega) only[wt,seval];have:vl D16 b<vl D16 a:=a8l hv.symm (by omega);rw[Uw,zam (by omega),zas this]
  simp (disch:=omega) only[wt,seval,hF];refine⟨⟨j,by omega,?_,rfl⟩,by omega⟩;have e:∀z:Nat,z/D16^j=D16*(z/D16^(j+1))+z/D16^j%D16:=λz=>by
   rw[za7,<-zbK];exact(zbl _ _).symm
  rw[e (vl D16 a),e (vl D16 b),hv];omega
 .simp (disch:=omega) only[wt,seval];have:i=0:=by omega
  subst this;simp at hv;rw[hv,Uw];simp
theorem b0n (a b:List Nat)(ha:Lim a)(hb:Lim b)(hla:a.length<=2^40)(hlb:b.length<=2^40):AC Tryz.prog 211 [cl a,cl b] none [ci (Uw (nv a) (nv b))]:=by
 refine AC.aj (rs:=[.tmp 4]) aV Tryz.func211 (by rfl) (by rfl) (by rfl) (by rfl) (by rfl) ?_;have h1:=nO ha;have h2:=nO hb;simp only[wt,seval];refine ah ((lW a ha hla)) (by rfl) (by simp) ?_;simp only[wt,seval];refine ah ((lW b hb hlb)) (by rfl) (by simp) ?_;simp only[wt,seval];have:=Gu (dgD (nv a)) (dgD (nv b)) (gu _) (gu _) (by omega) (by omega);rw[iF,iF]at this;refine ah (this) (by rfl) (by simp) ?_;simp (disch:=omega) only[wt,seval]
theorem a0l (a:List Nat)(hl:a.length<=2^43):AC Tryz.prog 259 [cl a] none [cu (if kV a=0 then 0 else a.getD 0 0),cb (decide (kV a<=1))]:=by
 refine AC.aj (rs:=[.tmp 2,.tmp 3]) aV Tryz.func259 (by rfl) (by rfl) (by rfl) (by rfl) (by rfl) ?_;simp (disch:=omega) only[wt,seval];refine aI (λf H=>∃(k:Nat),k<=a.length/\kV (a.take k)=kV a/\f 4=.iv (.int .i64 k)/\f 0=.iv (.sl (dh a))) (λf H=>(bC f 4).toNat) ?_ ?_
 .refine⟨a.length,by omega,by rw[zaM],?_⟩;simp only[wt,seval]
 rintro f H ⟨k,hk,ht,hF⟩;rw[aC hF.1];simp (disch:=omega) only[wt,seval,hF];have done:(k=kV a)->a.length>=k->True:=λ_ _=>zar
 by_cases h0:0<(k:Int)
 .obtain⟨j,rfl⟩:∃j,k=j+1:=⟨k-1,by omega⟩;have ej:((j+1:Nat):Int)-1=(j:Int):=by omega
  simp (disch:=omega) only[wt,seval,h0,ej];refine bf (λhz=>?_) (λhz=>?_)
  .simp (disch:=omega) only[wt,seval,hF,ej];exact⟨j,by omega,by rw[<-nV (by omega) (by omega),ht],rfl⟩
  .have hk':kV a=j+1:=by rw[<-ht,Aa (by omega) (by omega)]
   have hne:¬((j+1:Nat):Int)=0:=by omega
   simp (disch:=omega) only[wt,seval,hF,hne];rw[zam (by omega),hk'];exact⟨rfl,zbA.mpr (by omega)⟩
 .have:k=0:=by omega
  subst this;have hk':kV a=0:=by rw[<-ht];rfl
  simp (disch:=omega) only[wt,seval,hF];rw[hk'];exact⟨rfl,rfl⟩
theorem Vh {a:List Nat}(h:Lim a)(ht:kV a<=1):nv a=if kV a=0 then 0 else a.getD 0 0:=by
 have e:nv (a.take (kV a))=nv a:=FY oV h;rw[<-e];split
 .rename_i h0;rw[h0];rfl
 .rename_i h0;have h1:kV a=1:=by omega
  rw[h1];have:=aT W a 0;rw[za9]at this;show vl W (a.take 1)=_;rw[this];simp[vl]
theorem Aq (a b:List Nat)(m:Nat)(ha:Lim a)(hb:Lim b)(hm:m<=63)(hla:a.length<=2^43)(hlb:b.length<=2^43) :
  ∃(x y:Nat) (s:Bool),AC Tryz.prog 197 [cl a,cl b,ci m] none [cu x,cu y,cb s]/\(s=true->x=nv a/\y=nv b/\nv a<2^m/\nv b<2^m):=by
 have hs:∀x:Nat,(x:Int).fdiv (2^min m IntKind.u64.bits)=((x/2^m:Nat):Int):=by
  intro x;rw[show min m IntKind.u64.bits=m from zaZ (by simp only[IntKind.bits];omega),zem _ (by exact Int.le_of_lt (Int.pow_pos (by decide)))]
  norm_cast
 generalize hX:(if kV a=0 then 0 else a.getD 0 0)=X;generalize hY:(if kV b=0 then 0 else b.getD 0 0)=Y;refine⟨X,Y,decide (kV a<=1) && decide (kV b<=1) && decide (X/2^m=0) && decide (Y/2^m=0),?_,?_⟩
 .refine AC.aj (rs:=[.tmp 6,.tmp 7,.tmp 8]) aV Tryz.func197 (by rfl) (by rfl) (by rfl) (by rfl) (by rfl) ?_;have h1:=a0l a hla;have h2:=a0l b hlb;rw[hX]at h1;rw[hY]at h2;simp only[wt,seval];refine ah (h1) (by rfl) (by simp) ?_;simp (disch:=omega) only[wt,seval];refine ah (h2) (by rfl) (by simp) ?_;simp (disch:=omega) only[wt,seval];refine .inl ⟨aP (by kernel_rfl),?_⟩;by_cases t1:kV a<=1
  .by_cases t2:kV b<=1
   .by_cases t3:X/2^m=0
    .by_cases t4:((Y/2^m:Nat):Int)=0
     .have t3':((X/2^m:Nat):Int)=0:=by omega
      simp (disch:=omega) only[wt,seval,t1,t2,hs,t3',t4];refine⟨aX (by kernel_rfl),?_⟩;simp[t3,show Y/2^m=0 by omega]
     .have t3':((X/2^m:Nat):Int)=0:=by omega
      simp (disch:=omega) only[wt,seval,t1,t2,hs,t3',t4];refine⟨aX (by kernel_rfl),?_⟩;simp[show ¬Y/2^m=0 by omega]
    .have t3':¬((X/2^m:Nat):Int)=0:=by omega
     simp (disch:=omega) only[wt,seval,t1,t2,hs,t3'];refine⟨aX (by kernel_rfl),?_⟩;simp[t3]
   .simp (disch:=omega) only[wt,seval,t1,t2];refine⟨aX (by kernel_rfl),?_⟩;simp
  .simp (disch:=omega) only[wt,seval,t1];refine⟨aX (by kernel_rfl),?_⟩;simp
 .intro h;simp only[zaX,zdl]at h;obtain⟨⟨⟨h1,h2⟩,h3⟩,h4⟩:=h;have e1:=Vh ha h1;have e2:=Vh hb h2;rw[e1,e2,hX,hY];rw[Nat.div_eq_zero_iff]at h3 h4;have:=zb7 (n:=m) (show 0<2 by decide);omega
theorem JQ (w:Nat)(h:w<W):AC Tryz.prog 198 [cu w] none [cl (wd w)]:=by
 refine AC.aj (rs:=[.tmp 2]) aV Tryz.func198 (by rfl) (by rfl) (by rfl) (by rfl) (by rfl) ?_;simp (disch:=omega) only[wt,seval];refine bf (λhz=>?_) (λhz=>?_)
 .have:w=0:=by omega
  subst this;simp (disch:=omega) only[wt,seval,ni]
 .have:wd w=[w]:=by
   rw[wd,KT oV (by omega),zan h,za6 h,uZ]
  simp (disch:=omega) only[wt,seval,this];rfl
theorem a5B (a b:List Nat)(ha:Lim a)(hb:Lim b)(hla:a.length<=2^38)(hlb:b.length<=2^38):AC Tryz.prog 210 [cl a,cl b] none [cl (wd (nv a+nv b))]:=by
 refine AC.aj (rs:=[.tmp 4]) aV Tryz.func210 (by rfl) (by rfl) (by rfl) (by rfl) (by rfl) ?_;obtain⟨x,y,s,h1,h2⟩:=Aq a b 63 ha hb (by omega) (by omega) (by omega);have h3:=nO ha;have h4:=nO hb;simp only[wt,seval];refine ah (h1) (by rfl) (by simp) ?_;simp (disch:=omega) only[wt,seval];cases s with
 |true =>
  obtain⟨rfl,rfl,b1,b2⟩:=h2 rfl;simp (disch:=omega) only[wt,seval,fC (m:=nv a) (n:=nv b) (by simp only[W];omega)];refine ah ((JQ (nv a+nv b) (by simp only[W];omega))) (by rfl) (by simp) ?_;simp (disch:=omega) only[wt,seval]
 |false =>
  simp only[wt,seval];refine ah ((lW a ha (by omega))) (by rfl) (by simp) ?_;simp only[wt,seval];refine ah ((lW b hb (by omega))) (by rfl) (by simp) ?_;simp only[wt,seval];have p:=a5j (dgD (nv a)) (dgD (nv b)) (gu _) (gu _) (by omega) (by omega);rw[iF,iF]at p;refine ah (p) (by rfl) (by simp) ?_;simp only[wt,seval];have hA:=iI (gu (nv a));have hB:=iI (gu (nv b));rw[iF]at hA hB;generalize hn:max (dgD (nv a)).length (dgD (nv b)).length=n;have hA2:D16^(dgD (nv a)).length<=D16^n:=zaH (by decide) (by omega);have hB2:D16^(dgD (nv b)).length<=D16^n:=zaH (by decide) (by omega);have hq:(nv a+nv b)/D16^n<2:=by
   rw[za5 (mW n)];omega
  have hlen:n+(nv a+nv b)/D16^n<=2^42:=by
   generalize (nv a+nv b)/D16^n=q at hq;omega
  have q:=lF (dn (n+(nv a+nv b)/D16^n) (nv a+nv b)) (IK _ _) (by rw[xC];exact hlen);have e:vl D16 (dn (n+(nv a+nv b)/D16^n) (nv a+nv b))=nv a+nv b:=by
   rw[Ol,zan];have two:∀q,q<2->q=0\/q=1:=by omega
   have:=two _ hq;rcases this with h|h
   .rw[h,zaV];exact(Nat.div_eq_zero_iff_lt (mW n)).mp h
   .rw[h,za7];have:2*D16^n<=D16^n*D16:=by rw[zaA];exact zbb _ (by decide)
    omega
  rw[e]at q;refine ah (q) (by rfl) (by simp) ?_;simp (disch:=omega) only[wt,seval]
theorem OO (a b:List Nat)(ha:Lim a)(hb:Lim b)(hla:a.length<=2^38)(hlb:b.length<=2^38)(hle:nv b<=nv a):AC Tryz.prog 212 [cl a,cl b] none [cl (wd (nv a-nv b))]:=by
 refine AC.aj (rs:=[.tmp 4]) aV Tryz.func212 (by rfl) (by rfl) (by rfl) (by rfl) (by rfl) ?_;obtain⟨x,y,s,h1,h2⟩:=Aq a b 63 ha hb (by omega) (by omega) (by omega);have h3:=nO ha;have h4:=nO hb;simp only[wt,seval];refine ah (h1) (by rfl) (by simp) ?_;simp (disch:=omega) only[wt,seval];cases s with
 |true =>
  obtain⟨rfl,rfl,b1,b2⟩:=h2 rfl;have e1:(nv a:Int)-(nv b:Int)=((nv a-nv b:Nat):Int):=by omega
  simp (disch:=omega) only[wt,seval,e1,iq (n:=nv a-nv b) (by simp only[W];omega)];refine ah ((JQ (nv a-nv b) (by simp only[W];omega))) (by rfl) (by simp) ?_;simp (disch:=omega) only[wt,seval]
 |false =>
  simp only[wt,seval];refine ah ((lW a ha (by omega))) (by rfl) (by simp) ?_;simp only[wt,seval];refine ah ((lW b hb (by omega))) (by rfl) (by simp) ?_;simp only[wt,seval];have hlen:(dgD (nv b)).length<=(dgD (nv a)).length:=(jc kQ _).mpr (za3 hle ((jc kQ _).mp (zab _)));have p:=a0m (dgD (nv a)) (dgD (nv b)) (gu _) (gu _) (by omega) hlen (by rw[iF,iF];exact hle);rw[iF,iF]at p;refine ah (p) (by rfl) (by simp) ?_;simp only[wt,seval];have hA:=iI (gu (nv a));rw[iF]at hA;have q:=lF (dn (dgD (nv a)).length (nv a-nv b)) (IK _ _) (by rw[xC];omega);have e:vl D16 (dn (dgD (nv a)).length (nv a-nv b))=nv a-nv b:=by
   rw[Ol,zan (by omega)]
  rw[e]at q;refine ah (q) (by rfl) (by simp) ?_;simp (disch:=omega) only[wt,seval]
theorem Om {l:List Nat}{k m:Nat}(hk:k<m)(hm:m<=l.length)(x:Nat):vl D16 ((l.set k x).take m)+D16^k*l.getD k 0=vl D16 (l.take m)+D16^k*x:=by
 have e:(l.set k x).take m=(l.take m).set k x:=by rw[List.take_set]
 have h2:(l.take m).getD k 0=l.getD k 0:=by simp[List.getD,hk]
 rw[e,<-h2];exact Zo D16 (by rw[zah];omega) x
theorem b9w {T T' Q A b S Bj c o lo hi:Nat}(h:T+Q*c=S+b*Bj)(hT:T'+Q*o=T+Q*lo)(he:hi*D16+lo=A+c+o):T'+Q*D16*hi=S+(b*Bj+Q*A):=by
 have:=zaO (Q * ·) he;simp only[zbx]at this;rw[za1,zaA D16 hi];omega
theorem a0h (a b:List Nat)(ha:Dig a)(hb:Dig b)(hla:a.length<=2^40)(hlb:b.length<=2^40):AC Tryz.prog 202 [cd a,cd b] none [cd (dn (a.length+b.length) (vl D16 a*vl D16 b))]:=by
 refine AC.aj (rs:=[.tmp 4]) aV Tryz.func202 (by rfl) (by rfl) (by rfl) (by rfl) (by rfl) ?_;have eN:((a.length:Int)+(b.length:Int))=((a.length+b.length:Nat):Int):=by omega
 simp (disch:=omega) only[wt,seval,eN,W9];refine aI (λf H=>∃(i st:Nat) (s:List Nat),i<=a.length/\Dig s/\s.length=a.length+b.length/\vl D16 (s.take (i+b.length))=vl D16 (a.take i)*vl D16 b/\(∀k,i+b.length<=k->s.getD k 0=0)/\f 6=.iv (.int .i64 i)/\f 0=.iv (.sl (nums a))/\f 1=.iv (.sl (nums b))/\f 5=.hs 14 st/\H 14=.blk false st 3 1 (nums s)) (λf H=>(a.length-bC f 6).toNat) ?_ ?_
 .refine⟨0,1,List.replicate (a.length+b.length) 0,by omega,Dig.replicate _,by simp,by rw[List.take_replicate];simp[jB,vl],λk _=>by simp[List.getD,List.getElem?_replicate];split<;>rfl,?_⟩;simp only[wt,seval]
 rintro f H ⟨i,st,s,hi,hS,hSl,hv,hz,hF⟩;rw[aC hF.1];simp (disch:=omega) only[wt,seval,hF];refine bf (λhlt=>?_) (λhlt=>?_)
 .simp (disch:=omega) only[wt,seval];have hx:=ha.get i;refine aI (λf H=>∃(k c st:Nat) (s:List Nat),k<=b.length/\c<D16/\Dig s/\s.length=a.length+b.length/\vl D16 (s.take (i+b.length))+D16^(i+k)*c=vl D16 (a.take i)*vl D16 b+(D16^i*a.getD i 0)*vl D16 (b.take k)/\(∀k,i+b.length<=k->s.getD k 0=0)/\f 8=.iv (.int .i64 k)/\f 0=.iv (.sl (nums a))/\f 1=.iv (.sl (nums b))/\f 5=.hs 14 st/\f 6=.iv (.int .i64 i)/\f 7=.iv (.int .i64 c)/\H 14=.blk false st 3 1 (nums s)) (λf H=>(b.length-bC f 8).toNat) ?_ ?_
  .refine⟨0,0,st,s,by omega,by decide,hS,hSl,by simp[hv,vl],hz,?_⟩;simp only[wt,seval,hF]
  rintro f H ⟨k,c,st,s,hk,hc,hS,hSl,hv,hz,hF⟩;rw[aC hF.1];simp (disch:=omega) only[wt,seval,hF];refine bf (λhlk=>?_) (λhlk=>?_)
  .have hy:=hb.get k;have ho:=hS.get (i+k);have eij:(i:Int)+(k:Int)=((i+k:Nat):Int):=by omega
   have eab:(a.getD i 0:Int)*(b.getD k 0:Int)=((a.getD i 0*b.getD k 0:Nat):Int):=(Int.natCast_mul _ _).symm;have hm:a.getD i 0*b.getD k 0<=65535*65535:=Nat.mul_le_mul (by simp only[D16]at hx;omega) (by simp only[D16]at hy;omega);have hdef:∃m,m=a.getD i 0*b.getD k 0:=⟨_,rfl⟩;obtain⟨m,hm1⟩:=hdef;rw[<-hm1]at eab hm;have et:(c:Int)+((s.getD (i+k) 0:Nat)+(m:Nat):Int)=((c+(s.getD (i+k) 0+m):Nat):Int):=by omega
   have hT:c+(s.getD (i+k) 0+m)<65536*65536:=by simp only[D16]at hc ho;omega
   simp only[D16]at hc ho;simp (disch:=omega) only[wt,seval,hF,eij,eab,et];refine .inl ⟨aP (by kernel_rfl),?_⟩;refine⟨aX (by kernel_rfl),?_⟩;have hs1:=Om (l:=s) (k:=i+k) (m:=i+b.length) (by omega) (by omega) ((c+(s.getD (i+k) 0+m))%D16);have hs2:=b9w (A:=m) (hi:=(c+(s.getD (i+k) 0+m))/D16) hv hs1 (by simp only[D16];omega);refine⟨⟨k+1,(c+(s.getD (i+k) 0+m))/D16,st,s.set (i+k) ((c+(s.getD (i+k) 0+m))%D16),by omega,by simp only[D16];omega,hS.set (Nat.mod_lt _ (by decide)),by simp[hSl],?_,?_,by omega,rfl,rfl,rfl⟩,by omega⟩
   .rw[<-Nat.add_assoc i k 1,Nat.pow_succ,hs2,aT,Nat.mul_add,hm1,Nat.pow_add]
    congr 2
    ac_rfl
   .intro j hj;rw[show (s.set (i+k) ((c+(s.getD (i+k) 0+m))%D16)).getD j 0=s.getD j 0 by simp[List.getD,List.getElem?_set_ne (show i+k≠j by omega)]];exact hz j hj
  .have hkb:k=b.length:=by omega
   subst hkb;have eij:(i:Int)+(b.length:Int)=((i+b.length:Nat):Int):=by omega
   rw[List.take_length]at hv;simp (disch:=omega) only[wt,seval,hF,eij];have hs1:=dI D16 (l:=s) (k:=i+b.length) (by omega) c;refine⟨⟨i+1,st,s.set (i+b.length) c,by omega,hS.set hc,by simp[hSl],?_,?_,by omega,rfl,rfl⟩,by omega⟩
   .rw[show i+1+b.length=i+b.length+1 by omega,hs1,hv,aT,Nat.add_mul]
   .intro j hj;rw[show (s.set (i+b.length) c).getD j 0=s.getD j 0 by simp[List.getD,List.getElem?_set_ne (show i+b.length≠j by omega)]];exact hz j (by omega)
 .simp (disch:=omega) only[wt,seval,hF];have:i=a.length:=by omega
  subst this;rw[List.take_of_length_le (by omega),List.take_length]at hv;have e:s=dn (a.length+b.length) (vl D16 a*vl D16 b):=by
   refine a2S hS hSl ?_;have h5:=iI hS;rw[hSl]at h5;rw[hv,Nat.mod_eq_of_lt (by rw[<-hv];exact h5)]
  rw[e]
theorem wQ (a b:List Nat)(ha:Lim a)(hb:Lim b)(hla:a.length<=2^37)(hlb:b.length<=2^37):AC Tryz.prog 111 [cl a,cl b] none [cl (wd (nv a*nv b))]:=by
 refine AC.aj (rs:=[.tmp 4]) aV Tryz.func111 (by rfl) (by rfl) (by rfl) (by rfl) (by rfl) ?_;obtain⟨x,y,s,h1,h2⟩:=Aq a b 32 ha hb (by omega) (by omega) (by omega);have h3:=nO ha;have h4:=nO hb;simp only[wt,seval];refine ah (h1) (by rfl) (by simp) ?_;simp (disch:=omega) only[wt,seval];cases s with
 |true =>
  obtain⟨rfl,rfl,b1,b2⟩:=h2 rfl;have hm:nv a*nv b<=(2^32-1)*(2^32-1):=zbR (by omega) (by omega);have hw:nv a*nv b<W:=by simp only[W];omega
  simp (disch:=omega) only[wt,seval,fB hw];refine ah ((JQ (nv a*nv b) hw)) (by rfl) (by simp) ?_;simp (disch:=omega) only[wt,seval]
 |false =>
  simp only[wt,seval];refine ah ((lW a ha (by omega))) (by rfl) (by simp) ?_;simp only[wt,seval];refine ah ((lW b hb (by omega))) (by rfl) (by simp) ?_;simp only[wt,seval];have p:=a0h (dgD (nv a)) (dgD (nv b)) (gu _) (gu _) (by omega) (by omega);rw[iF,iF]at p;refine ah (p) (by rfl) (by simp) ?_;simp only[wt,seval];have hA:=iI (gu (nv a));have hB:=iI (gu (nv b));rw[iF]at hA hB;have q:=lF (dn ((dgD (nv a)).length+(dgD (nv b)).length) (nv a*nv b)) (IK _ _) (by rw[xC];omega);have e:vl D16 (dn ((dgD (nv a)).length+(dgD (nv b)).length) (nv a*nv b))=nv a*nv b:=by
   rw[Ol,zan];rw[zbM];exact Nat.mul_lt_mul'' hA hB
  rw[e]at q;refine ah (q) (by rfl) (by simp) ?_;simp (disch:=omega) only[wt,seval]
theorem Tf (a b:RI)(ha:Sz (2^38) a)(hb:Sz (2^38) b):AC Tryz.prog 129 [cr a,cr b] none [cz (iv a+iv b)]:=by
 refine AC.aj (rs:=[.cell 4 30]) aV Tryz.func129 (by rfl) (by rfl) (by rfl) (by rfl) (by rfl) ?_;have hla:=ha.1;have hlb:=hb.1;simp (disch:=omega) only[wt,seval];refine U7 (λhe=>?_) (λhe=>?_)
 .have he:a.1=b.1:=by simpa using he
  rw[Ih he];simp (disch:=omega) only[wt,seval];refine .inl ⟨aP (by kernel_rfl),?_⟩;refine ah ((a5B a.2 b.2 ha.2 hb.2 hla hlb)) (by rfl) (by simp) ?_;simp only[wt,seval];have l1:=sJ (nv a.2) (nv b.2);have l2:=iP ha.2;have l3:=iP hb.2;have i1:=vW a.1 (wd (nv a.2+nv b.2)) (bg _) (by omega);rw[bJ]at i1;refine ah (i1) (by rfl) (by simp) ?_;simp (disch:=omega) only[wt,seval];exact aX (by kernel_rfl)
 .have he:a.1≠b.1:=by simpa using he
  simp (disch:=omega) only[wt,seval];refine ah ((b0n a.2 b.2 ha.2 hb.2 (by omega) (by omega))) (by rfl) (by simp) ?_;simp (disch:=omega) only[wt,seval];refine bf (λhc=>?_) (λhc=>?_)
  .have hle:nv b.2<=nv a.2:=by
    unfold Uw at hc;split at hc
    .omega
    .omega
   simp (disch:=omega) only[wt,seval];refine .inl ⟨aP (by kernel_rfl),?_⟩;refine ah ((OO a.2 b.2 ha.2 hb.2 hla hlb hle)) (by rfl) (by simp) ?_;simp only[wt,seval];have l2:=iP ha.2;have l4:=bF (zfJ (nv a.2) (nv b.2));have i1:=vW a.1 (wd (nv a.2-nv b.2)) (bg _) (by omega);rw[bJ]at i1;have e:sg a.1 (nv a.2-nv b.2)=iv a+iv b:=by
    rw[Fe,Fe];unfold sg;cases h1:a.1<;>cases h2:b.1<;>simp_all<;>omega
   rw[e]at i1;refine ah (i1) (by rfl) (by simp) ?_;simp (disch:=omega) only[wt,seval];exact aX (by kernel_rfl)
  .have hle:nv a.2<=nv b.2:=by
    unfold Uw at hc;split at hc
    .omega
    .split at hc<;>omega
   simp (disch:=omega) only[wt,seval];refine .inl ⟨aP (by kernel_rfl),?_⟩;refine ah ((OO b.2 a.2 hb.2 ha.2 hlb hla hle)) (by rfl) (by simp) ?_;simp only[wt,seval];have l2:=iP hb.2;have l4:=bF (zfJ (nv b.2) (nv a.2));have i1:=vW b.1 (wd (nv b.2-nv a.2)) (bg _) (by omega);rw[bJ]at i1;have e:sg b.1 (nv b.2-nv a.2)=iv a+iv b:=by
    rw[Fe,Fe];unfold sg;cases h1:a.1<;>cases h2:b.1<;>simp_all<;>omega
   rw[e]at i1;refine ah (i1) (by rfl) (by simp) ?_;simp (disch:=omega) only[wt,seval];exact aX (by kernel_rfl)
theorem wR (a b:RI)(ha:Sz (2^37) a)(hb:Sz (2^37) b):AC Tryz.prog 130 [cr a,cr b] none [cz (iv a*iv b)]:=by
 refine AC.aj (rs:=[.cell 4 30]) aV Tryz.func130 (by rfl) (by rfl) (by rfl) (by rfl) (by rfl) ?_;have hla:=ha.1;have hlb:=hb.1;simp (disch:=omega) only[wt,seval];refine .inl ⟨aP (by kernel_rfl),?_⟩;refine ah ((wQ a.2 b.2 ha.2 hb.2 hla hlb)) (by rfl) (by simp) ?_;simp only[wt,seval];have l1:=fK (nv a.2) (nv b.2);have l2:=iP ha.2;have l3:=iP hb.2;have i1:=vW (a.1 != b.1) (wd (nv a.2*nv b.2)) (bg _) (by omega);rw[bJ,<-a9b]at i1;refine ah (i1) (by rfl) (by simp) ?_;simp (disch:=omega) only[wt,seval];exact aX (by kernel_rfl)
theorem ZC {p:List Int}(h:tz p=0):aO p=[]:=by rw[aO,h];rfl
theorem a6e (p:List RI)(i:Int)(h:RP (2^40) (2^40) p):AC Tryz.prog 256 [cw p,ci i] none [cz (if i<0 then 0 else cf (pv p) i.toNat)]:=by
 refine AC.aj (rs:=[.cell 4 30]) aV Tryz.func256 (by rfl) (by rfl) (by rfl) (by rfl) (by rfl) ?_;have hl:=h.1;simp (disch:=omega) only[wt,seval];have key:AC Tryz.prog 287 [cw p,ci i] none [cr (if i<0 then (false,[]) else p.getD i.toNat (false,[]))]:=by
  refine AC.aj (rs:=[.cell 4 30]) aV Tryz.func287 (by rfl) (by rfl) (by rfl) (by rfl) (by rfl) ?_;by_cases h0:i<0
  .simp (disch:=omega) only[wt,seval,h0]
  by_cases h1:(p.length:Int)<=i
  .simp (disch:=omega) only[wt,seval,h0,h1];have e:p.getD i.toNat (false,[])=(false,[]):=by rw[zax,zaQ (by omega)];rfl
   rw[e]
  .simp (disch:=omega) only[wt,seval,h0,h1]
 refine ah (key) (by rfl) (by simp) ?_;simp only[wt,seval];have hs:Sz (2^40) (if i<0 then (false,[]) else p.getD i.toNat (false,[])):=by
  split
  .exact⟨by simp,Lim.nil⟩
  .exact h.get _
 have e:iv (if i<0 then (false,[]) else p.getD i.toNat (false,[]))=if i<0 then 0 else cf (pv p) i.toNat:=by
  split
  .exact U5
  .rw[<-qI]
 refine ah ((EO _ hs)) (by rfl) (by simp) ?_;simp (disch:=omega) only[wt,seval];rw[e]
theorem VT (p:List RI)(h:RP (2^40) (2^40) p):AC Tryz.prog 193 [cw p] none [cz (cf (pv p) (tz (pv p)-1))]:=by
 refine AC.aj (rs:=[.cell 2 30]) aV Tryz.func193 (by rfl) (by rfl) (by rfl) (by rfl) (by rfl) ?_;have hl:=h.1;simp (disch:=omega) only[wt,seval];refine ah ((mD p h)) (by rfl) (by simp) ?_;simp only[wt,seval];have:=a6e p ((tz (pv p):Int)-1) h;have e:(if (tz (pv p):Int)-1<0 then 0 else cf (pv p) ((tz (pv p):Int)-1).toNat)=cf (pv p) (tz (pv p)-1):=by
  by_cases h0:tz (pv p)=0
  .rw[if_pos (by omega),dW _ (by omega)]
  .rw[if_neg (by omega)];congr 1;omega
 rw[e]at this;refine ah (this) (by rfl) (by simp) ?_;simp (disch:=omega) only[wt,seval]
theorem ZF {x y i:Nat}(h:x/W^(i+1)=y/W^(i+1))(hd:x/W^i%W<y/W^i%W):x<y:=by
 have e:∀z:Nat,z/W^i=W*(z/W^(i+1))+z/W^i%W:=λz=>by
  rw[za7,<-zbK];exact(zbl _ _).symm
 have h1:=e x;have h2:=e y;rw[h]at h1;rcases zbh x y with h3|h3
 .exact h3
 .have:=Nat.div_le_div_right (c:=W^i) h3;omega
theorem RY {l:List Nat}(h:Lim l)(k:Nat):l.getD k 0=nv l/W^k%W:=by
 have h1:=aT W l k;have e1:=GR h (k+1);have e2:=GR h k;simp only[nv]at *;rw[e1,e2,zcy]at h1;exact(zcJ (gB k) (zfl h1)).symm
theorem b1r (a b:List Nat)(ha:Lim a)(hb:Lim b)(hla:a.length<=2^42)(hlb:b.length<=2^42):AC Tryz.prog 305 [cl a,cl b] none [ci (Uw (nv a) (nv b))]:=by
 refine AC.aj (rs:=[.tmp 4]) aV Tryz.func305 (by rfl) (by rfl) (by rfl) (by rfl) (by rfl) ?_;generalize hn:max a.length b.length=n at *;have hnI:max (a.length:Int) (b.length:Int)=(n:Int):=by omega
 have h0:nv a/W^n=nv b/W^n:=by
  have hA:=kE ha;have hB:=kE hb;have hA2:W^a.length<=W^n:=zaH (by decide) (by omega);have hB2:W^b.length<=W^n:=zaH (by decide) (by omega);rw[za6 (by omega),za6 (by omega)]
 simp (disch:=omega) only[wt,seval,hnI];refine aI (λf H=>∃(i:Nat),i<=n/\nv a/W^i=nv b/W^i/\f 6=.iv (.int .i64 ((i:Int)-1))/\f 0=.iv (.sl (dh a))/\f 1=.iv (.sl (dh b))) (λf H=>(bC f 6+1).toNat) ?_ ?_
 .refine⟨n,by omega,h0,?_⟩;simp only[wt,seval]
 rintro f H ⟨i,hi,hv,hF⟩;rw[aC hF.1];simp (disch:=omega) only[wt,seval,hF];refine bf (λhlt=>?_) (λhlt=>?_)
 .obtain⟨j,rfl⟩:∃j,i=j+1:=⟨i-1,by omega⟩;have ej:((j+1:Nat):Int)-1=(j:Int):=by omega
  have hx:=RY ha j;have hy:=RY hb j;rw[ej]at hF;simp (disch:=omega) only[wt,seval,hF];refine ah ((Dz a j (by omega))) (by rfl) (by simp) ?_;simp (disch:=omega) only[wt,seval,hF];refine ah ((Dz b j (by omega))) (by rfl) (by simp) ?_;simp (disch:=omega) only[wt,seval];refine bf (λh1=>?_) (λh1=>?_)
  .simp (disch:=omega) only[wt,seval,hF];refine⟨⟨j,by omega,?_,rfl⟩,by omega⟩;have e:∀z:Nat,z/W^j=W*(z/W^(j+1))+z/W^j%W:=λz=>by
    rw[za7,<-zbK];exact(zbl _ _).symm
   rw[e (nv a),e (nv b),hv];omega
  simp (disch:=omega) only[wt,seval];refine bf (λh2=>?_) (λh2=>?_)
  .simp (disch:=omega) only[wt,seval];have:nv a<nv b:=ZF hv (by omega);rw[Uw,zas this]
  simp (disch:=omega) only[wt,seval];have:nv b<nv a:=ZF hv.symm (by omega);rw[Uw,zam (by omega),zas this]
 .simp (disch:=omega) only[wt,seval];have:i=0:=by omega
  subst this;simp at hv;rw[hv,Uw];simp
theorem b1i (a b:List Nat)(ha:Lim a)(hb:Lim b)(hla:a.length<=2^42)(hlb:b.length<=2^42):AC Tryz.prog 284 [cl a,cl b] none [ci (Uw (nv a) (nv b))]:=by
 refine AC.aj (rs:=[.tmp 4]) aV Tryz.func284 (by rfl) (by rfl) (by rfl) (by rfl) (by rfl) ?_;simp only[wt,seval];refine ah ((b1r a b ha hb hla hlb)) (by rfl) (by simp) ?_;simp (disch:=omega) only[wt,seval]


theorem b3x {y:Nat}(h:(wd y).length=1):(wd y).getD 0 0=y/\y<W:=by
 have h1:=aT W (wd y) 0;rw[za9,zac (by omega),zaj,zdk,zfd]at h1;have h2:=bJ y;simp only[nv,vl,za9]at *;have h3:=(bg y).get 0;omega
def b1j (f:Fr)(t:Nat):Nat:=match f t with
 |.iv (.sl rows)=>nv (rows.map λr=>match r with | [.int _ n]=>n.toNat|_=>0)
 |_=>0
theorem Wp {f:Fr}{t v:Nat}(h:f t=.iv (.sl (dh (wd v)))):b1j f t=v:=by
 unfold b1j;rw[h];have e:(dh (wd v)).map (λr=>match r with | [.int _ n]=>n.toNat|_=>0)=wd v:=by
  simp only[dh,zb2]
  conv=>rhs;rw[<-zeP (wd v)]
  rfl
 simp only[e,bJ]
section
variable {s t:Bool} {x y:Nat}
theorem vX (c:RI):iv c=sg c.1 (nv c.2):=rfl
theorem CO (s:Bool)(n:Nat)(h:(wd n).length<=2^40):AC Tryz.prog 100 [cb s,cl (wd n)] none [cz (sg s n)] :=
 a8L (V8 s n h)
theorem a0e (h:x%y=0):sg s x/sg t y=sg (s != t) (x/y)/\sg t y∣sg s x:=by
 obtain⟨k,rfl⟩:=Nat.dvd_of_mod_eq_zero h;rcases za8 y with h0|h0
 .subst h0;cases s<;>cases t<;>simp[sg]
 .rw[zdX _ h0];have hy:(y:Int)≠0:=by omega
  cases s<;>cases t<;>simp[sg,zbW _ hy,<-Int.mul_neg]
theorem a0d:sg t y∣sg s x↔x%y=0:=by
 constructor
 .intro h;have h1:=Int.natAbs_dvd_natAbs.mpr h;have e:∀(b:Bool) (n:Nat),(sg b n).natAbs=n:=λb n=>by cases b<;>simp[sg]
  rw[e,e]at h1;exact zcn h1
 .intro h;exact(a0e h).2
def gz (q:List Int):Nat:=q.foldl (λg c=>Nat.gcd g c.natAbs) 0
theorem zH {q:List Int}{i:Nat}(h:i<q.length):gz (q.take (i+1))=Nat.gcd (gz (q.take i)) (cf q i).natAbs:=by
 have e:q.take (i+1)=q.take i++[cf q i]:=by
  rw[List.take_add_one];congr 1;simp[cf,List.getD,h]
 rw[e,gz,List.foldl_append];rfl
theorem a2B {n k:Nat}{p:List RI}(h:RP n k p):(wd (gz (pv p))).length<=k:=by
 have key:∀i,i<=p.length->(wd (gz ((pv p).take i))).length<=k:=by
  intro i
  induction i with
  |zero=>intro _;rw[zaj,gz,zeV,ni];exact za4 _
  |succ i ih =>
   intro hi;rw[zH (by rw[iT];omega)];rcases za8 (cf (pv p) i).natAbs with h0|h0
   .rw[h0,zdE];exact ih (by omega)
   .refine zad (bF (zdx _ h0)) ?_;rw[qI,Ii];exact zad (iP (h.get i).2) (h.get i).1
 have:=key p.length (zab _);rwa [zac (by rw[iT];exact zab _)]at this
def lc (q:List Int):Int:=cf q (tz q-1)
def cont (q:List Int):Int:=sg (decide (lc q<0)) (gz q)
theorem sign_neg (z:Int):z.sign<0↔z<0:=by
 rcases zeR z 0 with h|h|h
 .rw[zbZ h];omega
 .subst h;simp
 .rw[zcH h];omega
def qA (c:Int)(q:List Int):List Int:=q.map (· / c)
theorem fU (c:Int)(q:List Int)(k:Nat):cf (qA c q) k=cf q k/c:=by
 unfold qA cf;rw[zax,zax,zaD];cases q[k]? with
 |none=>simp
 |some x=>rfl
theorem yH {a b:Int}(h:b∣a):zl (a/b)<=zl a:=by
 obtain⟨k,rfl⟩:=h;by_cases h0:b=0
 .subst h0;simp
 .rw[zbW _ h0];unfold zl;rw[zcc];exact bF (Nat.le_mul_of_pos_left _ (by omega))
theorem yO (q:List Int)(k:Nat):(gz q:Int)∣cf q k:=by
 have key:∀i,i<=q.length->∀k,k<i->(gz (q.take i):Int)∣cf q k:=by
  intro i
  induction i with
  |zero=>intro _ k hk;omega
  |succ i ih =>
   intro hi k hk;rw[zH (by omega)];rcases zbh k i with h|h
   .exact zdY (zb4.mpr (zcz _ _)) (ih (by omega) k h)
   .obtain rfl:k=i:=by omega
    exact zcG.mpr (zdN _ _)
 rcases zbh k q.length with h|h
 .have:=key q.length (zab _) k h;rwa [zac (zab _)]at this
 .rw[kX h];exact zdT _
theorem FD (q:List Int)(k:Nat):cont q∣cf q k:=by
 have:=yO q k;unfold cont sg;split
 .exact Int.neg_dvd.mpr this
 .exact this
theorem jL (q:List Int):(cont q).natAbs=gz q:=by
 unfold cont sg;split<;>simp
def xY (q:List Int):List Int:=qA (cont q) q
end
section
variable {p q T R P Q:List Int} {r n:Nat} {c:Int}
theorem gY (q:List Int)(d:Nat)(h:∀k,(d:Int)∣cf q k):d∣gz q:=by
 have key:∀i,i<=q.length->d∣gz (q.take i):=by
  intro i
  induction i with
  |zero=>intro _;exact Nat.dvd_zero _
  |succ i ih =>
   intro hi;rw[zH (by omega)];exact Nat.dvd_gcd (ih (by omega)) (zcG.mp (h i))
 have:=key q.length (zab _);rwa [zac (zab _)]at this
theorem a2C (h:∀k,cf p k=cf q k):gz p=gz q :=
 Nat.dvd_antisymm (gY q _ λk=>by rw[<-h];exact yO p k) (gY p _ λk=>by rw[h];exact yO q k)
theorem a6W (c:Int)(q:List Int):gz (aU c q)=c.natAbs*gz q:=by
 have key:∀(q:List Int) (g:Nat),(aU c q).foldl (λg x=>Nat.gcd g x.natAbs) (c.natAbs*g)=c.natAbs*q.foldl (λg x=>Nat.gcd g x.natAbs) g:=by
  intro q
  induction q with
  |nil=>intro g;rfl
  |cons x xs ih =>
   intro g;have e:aU c (x::xs)=(x*c)::aU c xs:=rfl;rw[e,zff,zff,zcc,zaA x.natAbs,Nat.gcd_mul_left,ih]
 exact key q 0
theorem Po:∀n:Nat,1<n->∃r,1<r/\r∣n/\∀x:Nat,r∣x\/Nat.gcd r x=1:=by
 intro n
 induction n using Nat.strongRecOn with
 |_ n ih =>
  intro hn;by_cases h:∀x:Nat,n∣x\/Nat.gcd n x=1
  .exact⟨n,hn,Nat.dvd_refl _,h⟩
  .obtain⟨x,hx⟩:=zfa.mp h;have h1:¬n∣x:=λh=>hx (.inl h)
   have h2:¬Nat.gcd n x=1:=λh=>hx (.inr h)
   have h3:Nat.gcd n x<=n:=Nat.gcd_le_left _ (by omega);have h4:Nat.gcd n x≠n:=λh=>h1 (by rw[<-h];exact zdN _ _)
   have h5:Nat.gcd n x≠0:=λh=>by have:=Nat.eq_zero_of_gcd_eq_zero_left h;omega
   obtain⟨r,hr,hrd,hp⟩:=ih (Nat.gcd n x) (by omega) (by omega);exact⟨r,hr,Nat.dvd_trans hrd (zcz _ _),hp⟩
theorem a1i (hp:∀x:Nat,r∣x\/Nat.gcd r x=1){x y:Int}(h:(r:Int)∣x*y):(r:Int)∣x\/(r:Int)∣y:=by
 have h1:=zcG.mp h;rw[zcc]at h1;rcases hp x.natAbs with h2|h2
 .exact .inl (zcG.mpr h2)
 .exact .inr (zcG.mpr (Nat.Coprime.dvd_of_dvd_mul_left h2 h1))
theorem Vp {r:Int}:∀{n:Nat} {f:Nat->Int},(∀k,k<n->r∣f k)->r∣Af n f
 |0,f,_=>zdT _
 |n+1,f,h=>Int.dvd_add (Vp λk hk=>h k (by omega)) (h n (by omega))
theorem OA {r:Int}{i:Nat}{f:Nat->Int}(hi:i<n)(h:∀k,k<n->k≠i->r∣f k)(hs:r∣Af n f):r∣f i:=by
 have e:Af n f=Af n (λk=>if k=i then 0 else f k)+f i:=by
  have h1:Af n (λk=>if k=i then f k else 0)=f i:=by
   rw[LG _ hi λk _ hk=>zam hk,zas rfl]
  rw[<-h1,<-Vq];refine tJ λk _=>?_;by_cases hk:k=i
  .rw[zas hk,zas hk,zdR]
  .rw[zam hk,zam hk,zcS]
 have h2:r∣Af n (λk=>if k=i then 0 else f k):=Vp λk hk=>by
  by_cases hki:k=i
  .simp only[zas hki];exact zdT _
  .simp only[zam hki];exact h k hk hki
 rw[e]at hs;exact(Int.dvd_add_right h2).mp hs
theorem Iq (hp:∀x:Nat,r∣x\/Nat.gcd r x=1){p q:List Int}(h:∀k,(r:Int)∣cf (fD p q) k):∀n i j,i+j=n->(r:Int)∣cf p i\/(r:Int)∣cf q j:=by
 intro n
 induction n using Nat.strongRecOn with
 |_ n ih =>
  intro i j hij;by_cases h1:(r:Int)∣cf p i
  .exact .inl h1
  by_cases h2:(r:Int)∣cf q j
  .exact .inr h2
  exfalso
  have h3:=h n;rw[gy,PS.vw,PS.conv]at h3;have h4:=OA (i:=i) (by omega) (λk hk hki=>?_) h3
  .rw[show n-i=j by omega]at h4;rcases a1i hp h4 with h5|h5
   .exact h1 h5
   .exact h2 h5
  .rcases zbh k i with h5|h5
   .rcases ih (k+j) (by omega) k j rfl with h6|h6
    .exact zdY h6 (zfL _ _)
    .exact absurd h6 h2
   .rcases ih (i+(n-k)) (by omega) i (n-k) rfl with h6|h6
    .exact absurd h6 h1
    .exact zdY h6 (Int.dvd_mul_left _ _)
theorem a7c (hp:gz p=1)(hq:gz q=1):gz (fD p q)=1:=by
 rcases zdn (gz (fD p q)) 1 with h|h|h
 .exfalso
  obtain⟨r,hr,hrd,hpr⟩:=Po 2 (by decide);have h0:gz (fD p q)=0:=by omega
  have hd:∀k,(r:Int)∣cf (fD p q) k:=λk=>by
   have:=yO (fD p q) k;rw[h0]at this;rw[Int.zero_dvd.mp this];exact zdT _
  have key:=Iq hpr hd;by_cases ha:∀i,(r:Int)∣cf p i
  .have:=gY p r ha;rw[hp]at this;have:=zeF (by decide) this;omega
  .obtain⟨i,hi⟩:=zfa.mp ha;have:=gY q r λj=>(key _ i j rfl).resolve_left hi
   rw[hq]at this;have:=zeF (by decide) this;omega
 .exact h
 .exfalso
  obtain⟨r,hr,hrd,hpr⟩:=Po _ h;have hd:∀k,(r:Int)∣cf (fD p q) k:=λk=>zdY (zb4.mpr hrd) (yO _ k)
  have key:=Iq hpr hd;by_cases ha:∀i,(r:Int)∣cf p i
  .have:=gY p r ha;rw[hp]at this;have:=zeF (by decide) this;omega
  .obtain⟨i,hi⟩:=zfa.mp ha;have:=gY q r λj=>(key _ i j rfl).resolve_left hi
   rw[hq]at this;have:=zeF (by decide) this;omega
theorem a2d (h:cf q n≠0)(h0:∀k,n<k->cf q k=0):lc q=cf q n:=by
 unfold lc;rw[Sj h h0,zdD]
theorem b1u (h:gz q≠0):tz q≠0/\lc q≠0:=by
 have h1:tz q≠0:=λh1=>by
  have h2:(0:Nat)∣gz q:=gY q 0 λk=>by rw[bn.mp h1 k];exact zdT _
  exact h (zdZ h2)
 exact⟨h1,jv h1⟩
def Prm (q:List Int):Prop:=gz q=1/\0<lc q
theorem WC (h:∀k,cf T k=c*cf R k)(hR:lc R≠0):lc T=c*lc R:=by
 have hR':tz R≠0:=λh0=>hR (by unfold lc;exact bn.mp h0 _)
 by_cases hc:c=0
 .unfold lc;rw[h,hc,zb8,zb8]
 .have e:lc T=cf T (tz R-1):=a2d (by rw[h];exact zb3 hc hR) λk hk=>by rw[h,dW R (by omega),zdC]
  rw[e,h];rfl
theorem a9e (h:∀k,cf T k=c*cf R k):gz T=c.natAbs*gz R:=by
 rw[<-a6W];exact a2C λk=>by rw[h,dD,zcR]
theorem b3Q {l:Int}(hl:0<l):sg (decide (c*l<0)) c.natAbs=c:=by
 unfold sg;by_cases hc:c<0
 .rw[zbn (Int.mul_neg_of_neg_of_pos hc hl)];simp only[↓reduceIte];omega
 .have h1:¬c*l<0:=by have:=Int.mul_nonneg (show 0<=c by omega) (show 0<=l by omega);omega
  rw[zaW h1];simp only[zbg,↓reduceIte];omega
theorem J4 (hR:Prm R)(h:∀k,cf T k=c*cf R k):cont T=c:=by
 unfold cont;rw[a9e h,hR.1,zcU,WC h (by have:=hR.2;omega)];exact b3Q hR.2
theorem b0K (hR:Prm R)(hc:c≠0)(h:∀k,cf T k=c*cf R k)(k:Nat):cf (xY T) k=cf R k:=by
 unfold xY;rw[fU,J4 hR h,h,zbW _ hc]
theorem NC (q:List Int)(k:Nat):cf q k=cont q*cf (xY q) k:=by
 unfold xY;rw[fU,zfb (FD q k)]
theorem MJ (h:cont q≠0):Prm (xY q):=by
 have h0:gz q≠0:=λh0=>h (zd9.mp (by rw[jL];exact h0))
 have h1:=a9e (NC q);rw[jL]at h1;have h2:gz (xY q)=1:=by
  have:gz q*gz (xY q)=gz q*1:=by omega
  exact zcJ (by omega) this
 refine⟨h2,?_⟩;have h3:=(b1u (q:=xY q) (by omega)).2;have h4:=WC (NC q) h3;have h5:=(b1u h0).2;rcases zeR (lc (xY q)) 0 with h6|h6|h6
 .exfalso
  rcases Int.lt_or_gt_of_ne h5 with h7|h7
  .have h8:cont q<0:=by
    unfold cont sg;rw[zbn h7];simp only[↓reduceIte];omega
   have:=Int.mul_pos_of_neg_of_neg h8 h6;omega
  .have h8:0<cont q:=by
    unfold cont sg;rw[zaW (by omega)];simp only[zbg,↓reduceIte];omega
   have:=zen h8 h6;omega
 .exact absurd h6 h3
 .exact h6
theorem b1t (hP:lc P≠0)(hQ:lc Q≠0):lc (fD P Q)=lc P*lc Q:=by
 have hP':tz P≠0:=λh0=>hP (by unfold lc;exact bn.mp h0 _)
 have hQ':tz Q≠0:=λh0=>hQ (by unfold lc;exact bn.mp h0 _)
 have e1:cf (fD P Q) (tz P-1+(tz Q-1))=lc P*lc Q:=by
  rw[gy,PS.vw,PS.conv,LG (j:=tz P-1) _ (by omega) λi hi hne=>?_]
  .rw[show tz P-1+(tz Q-1)-(tz P-1)=tz Q-1 by omega];rfl
  .rcases zbh i (tz P-1) with h|h
   .rw[dW Q (by omega),zdC]
   .rw[dW P (by omega),zb8]
 rw[a2d (n:=tz P-1+(tz Q-1)) (by rw[e1];exact zb3 hP hQ) λk hk=>?_,e1];rw[gy,PS.vw,PS.conv];refine tH λi hi=>?_;rcases zbh i (tz P) with h|h
 .rw[dW Q (by omega),zdC]
 .rw[dW P (by omega),zb8]
theorem b0J (hP:Prm P)(hQ:Prm Q):Prm (fD P Q):=by
 refine⟨a7c hP.1 hQ.1,?_⟩;have h1:=hP.2;have h2:=hQ.2;rw[b1t (by omega) (by omega)];exact Int.mul_pos h1 h2
theorem AQ (h:cont q=0)(k:Nat):cf (xY q) k=0/\cf q k=0:=by
 constructor
 .unfold xY;rw[fU,h,Int.ediv_zero]
 .rw[NC,h,zb8]
theorem wV (q:List Int):ps q=PS.C (cont q)*ps (xY q):=PS.ext λk=>by
 rw[PS.gG,F6,F6];exact NC q k
theorem I4 (p q:List Int)(k:Nat):cf (fD p q) k=cont p*cont q*cf (fD (xY p) (xY q)) k:=by
 have h:ps (fD p q)=PS.C (cont p*cont q)*ps (fD (xY p) (xY q)):=by
  rw[dP,dP,wV p,wV q,PS.qO];rw[<-wV p,<-wV q]
  conv=>lhs;rw[wV p,wV q]
  rw[PS.mul_assoc,PS.mul_assoc,<-PS.mul_assoc (ps (xY p)),PS.mul_comm (ps (xY p)) (PS.C _),PS.mul_assoc]
 have:=zaO (λf=>f.c k) h;simp only[F6,PS.gG]at this;exact this
theorem a7q (p q:List Int):cont (fD p q)=cont p*cont q:=by
 by_cases hp:cont p=0
 .have h0:∀k,cf (fD p q) k=0:=λk=>by rw[I4,hp,zb8,zb8]
  have h1:gz (fD p q)=0:=zdZ (gY _ 0 λk=>by rw[h0];exact zdT _);rw[hp,zb8];exact zd9.mp (by rw[jL];exact h1)
 by_cases hq:cont q=0
 .have h0:∀k,cf (fD p q) k=0:=λk=>by rw[I4,hq,zdC,zb8]
  have h1:gz (fD p q)=0:=zdZ (gY _ 0 λk=>by rw[h0];exact zdT _);rw[hq,zdC];exact zd9.mp (by rw[jL];exact h1)
 exact J4 (b0J (MJ hp) (MJ hq)) (I4 p q)
theorem b0G (h:∀k,cf q k=0):ps q=0:=PS.ext h
theorem a5X (h:Prm q):cont q=1/\ps (xY q)=ps q :=
 ⟨J4 h λk=>(zfR _).symm,a8F λk=>b0K h (by decide) (λk=>(zfR _).symm) k⟩
theorem Nr:cont q=0↔tz q=0:=by
 constructor
 .intro h;exact bn.mpr λk=>(AQ h k).2
 .intro h;refine zd9.mp ?_;rw[jL];exact zdZ (gY _ 0 λk=>by rw[bn.mp h k];exact zdT _)
end
theorem AU (p:List RI)(h:RP (2^40) (2^40) p):AC Tryz.prog 270 [cw p] none [cb (decide (tz (pv p)=0))]:=by
 refine AC.aj (rs:=[.tmp 2]) aV Tryz.func270 (by rfl) (by rfl) (by rfl) (by rfl) (by rfl) ?_;simp only[wt,seval];refine ah ((mD p h)) (by rfl) (by simp) ?_;simp (disch:=omega) only[wt,seval];rw[zbA];omega
section
variable {c L:Int} {B:List Int} {s:List Int×List Int}
def mono (n:Nat)(c:Int):List Int:=List.replicate n 0++[c]
theorem Dt (n:Nat)(c:Int)(k:Nat):cf (mono n c) k=if k=n then c else 0:=by
 unfold mono cf;rw[zax];rcases zdn k n with h|h|h
 .rw[zbB (by simpa using h),zdg,zas h,zam (by omega)];rfl
 .subst h;rw[za2 (by simp),zas rfl];simp
 .rw[zaQ (by simp;omega),zam (by omega)];rfl
theorem nS (n:Nat)(c:Int)(B:List Int)(k:Nat):cf (fD (mono n c) B) k=if n<=k then c*cf B (k-n) else 0:=by
 rw[gy,PS.vw,PS.conv];by_cases h:n<=k
 .rw[zas h,LG (j:=n) _ (by omega) λi hi hne=>by rw[Dt,zam hne,zb8],Dt,zas rfl]
 .rw[zam h];exact tH λi hi=>by rw[Dt,zam (by omega),zb8]
def a2W (c L:Int)(B:List Int)(s:List Int×List Int):List Int×List Int :=
 (mZ (aU c s.1) (mono (tz s.2-tz B) (c*lc s.2/L)),mZ (aU c s.2) (aU (-1) (fD (mono (tz s.2-tz B) (c*lc s.2/L)) B)))
def Ei (c L:Int)(B:List Int):Nat->List Int×List Int->List Int×List Int
 |0,s=>s
 |n+1,s=>if tz B<=tz s.2 then Ei c L B n (a2W c L B s) else Ei c L B n (aU c s.1,aU c s.2)
theorem qP {q:List Int}{n:Nat}(h:∀k,n<=k->cf q k=0):tz q<=n:=by
 rcases zbh n (tz q) with h1|h1
 .exact absurd (h (tz q-1) (by omega)) (jv (by omega))
 .exact h1
theorem WX (hL:L=lc B)(hB:tz B≠0)(hd:L∣c)(h:tz B<=tz s.2):tz (a2W c L B s).2<=tz s.2-1:=by
 refine qP λk hk=>?_;show cf (mZ (aU c s.2) (aU (-1) (fD (mono (tz s.2-tz B) (c*lc s.2/L)) B))) k=0;rw[iY,dD,dD,nS,zas (by omega)];have hL0:L≠0:=by rw[hL];exact jv hB
 rcases zbh k (tz s.2) with h1|h1
 .have hk1:k=tz s.2-1:=by omega
  have e1:k-(tz s.2-tz B)=tz B-1:=by omega
  rw[e1];have e2:cf B (tz B-1)=L:=hL.symm;have e3:cf s.2 k=lc s.2:=by rw[hk1];rfl
  rw[e2,e3,Int.ediv_mul_cancel (zdY hd (zfL _ _)),zcR c];omega
 .rw[dW s.2 h1,dW B (by omega)];simp
theorem a7j:ps (a2W c L B s).1*ps B+ps (a2W c L B s).2=PS.C c*(ps s.1*ps B+ps s.2):=by
 show ps (mZ _ _)*ps B+ps (mZ _ _)=_;rw[lZ,lZ,bG,bG,bG,dP,PS.x9,PS.add_mul,PS.mul_add,PS.mul_assoc,PS.add_assoc,PS.add_comm (PS.C c*ps s.2),<-PS.add_assoc (ps (mono _ _)*ps B),PS.add_neg,PS.zero_add]
theorem Ul {c L:Int}{B:List Int}:∀(n:Nat) (s:List Int×List Int),ps (Ei c L B n s).1*ps B+ps (Ei c L B n s).2=PS.pw (PS.C c) n*(ps s.1*ps B+ps s.2)
 |0,s=>by rw[Ei,PS.pw,PS.one_mul]
 |n+1,s=>by
  have e:PS.pw (PS.C c) (n+1)=PS.pw (PS.C c) n*PS.C c:=by rw[PS.a8E,PS.a8D]
  rw[Ei];split
  .rw[Ul n,a7j,e,PS.mul_assoc]
  .rw[Ul n,e,PS.mul_assoc]
   congr 1
   rw[bG,bG,PS.mul_assoc,PS.mul_add]
theorem jf (c:Int)(q:List Int):tz (aU c q)<=tz q:=qP λk hk=>by rw[dD,dW q hk,zb8]
theorem Uj (hL:L=lc B)(hB:tz B≠0)(hd:L∣c):∀(n:Nat) (s:List Int×List Int),tz s.2<tz B+n->tz (Ei c L B n s).2<tz B
 |0,s,h=>by simpa [Ei] using h
 |n+1,s,h=>by
  rw[Ei];split
  .rename_i h1;refine Uj hL hB hd n _ ?_;have:=WX (c:=c) hL hB hd h1;omega
  .refine Uj hL hB hd n _ ?_;have:=jf c s.2;show tz (aU c s.2)<_;omega
end
section
variable {q:List Int} {k K n:Nat} {c:Int}
theorem a3k:iQ []=[]:=rfl
theorem yw {i:Nat}(h:i<tz q):(iQ q).getD i []=jy (canon (cf q i)):=by
 have h1:i<(aO q).length:=by rw[dw];exact h
 rw[<-bM];simp[iQ,bZ,cf,List.getD,h1]
def Bd (k:Nat)(q:List Int):Prop:=tz q<=40/\∀i,zl (cf q i)<=k
theorem Bd.rp (h:Bd k q)(hk:k<=2^35):RP (2^30) (2^35) (cn q):=by
 refine(RP.canon (.of (by rw[dw];exact h.1) λi=>?_)).mono (by decide:40<=_) hk;rw[bM];exact h.2 i
def KB (l:Nat):Nat:=(60-l)*536870912
theorem a3W (l:Nat)(h:l+1<=41):KB l=KB (l+1)+536870912:=by unfold KB;omega
theorem b5v (l:Nat):KB l<=32212254720:=by unfold KB;omega
theorem b7K (l:Nat)(h:l<=41):536870912<=KB l:=by unfold KB;omega
theorem b2n (h:K=k+536870912):max (k+2^27) (k+2^27+2^27)+1<=K:=by omega
theorem a7z (h:K=k+536870912):max (k+2^27) (k+2^27)+1<=K:=by omega
theorem Xl (h:K=k+536870912):k+2^27<=K:=by omega
theorem FK (h:Bd K q)(hc:zl c<=k):Bd (K+k) (aU c q):=by
 refine⟨zad (jf c q) h.1,λi=>?_⟩;rw[dD];have:=fA (cf q i) c;have:=h.2 i;omega
theorem b2o (hn:n<40)(hc:zl c<=K):Bd K (mono n c):=by
 refine⟨qP λk hk=>by rw[Dt,zam (by omega)],λi=>?_⟩;rw[Dt];split
 .exact hc
 .rw[iC];omega
theorem b2p {m:Nat}{B:List Int}(hB:Bd k B)(hn:n+tz B<=40)(hc:zl c<=K):Bd (K+k) (fD (mono n c) B):=by
 refine⟨qP λj hj=>?_,λi=>?_⟩
 .rw[nS];split
  .rw[dW B (by omega),zdC]
  .rfl
 .rw[nS];split
  .have:=fA c (cf B (i-n));have:=hB.2 (i-n);omega
  .rw[iC];omega
theorem a9n {p:List Int}(hp:Bd K p)(hq:Bd k q):Bd (max K k+1) (mZ p q):=by
 have h1:=hp.1;have h2:=hq.1;refine⟨qP λj hj=>by rw[iY,dW p (by omega),dW q (by omega)];rfl,λi=>?_⟩;rw[iY];have:=qg (cf p i) (cf q i);have:=hp.2 i;have:=hq.2 i;omega
theorem b5e (h:Bd K q):Bd K (aU (-1) q):=by
 refine⟨zad (jf _ q) h.1,λi=>?_⟩;rw[dD,Int.mul_neg,Int.mul_one,sD];exact h.2 i
theorem b5d (K:Nat):Bd K []:=⟨by simp[tz,kV],λi=>by rw[lJ,iC];exact za4 _⟩
theorem Bd.mono (h:Bd K q)(hk:K<=k):Bd k q:=⟨h.1,λi=>zad (h.2 i) hk⟩
end
section
variable {p q:List Int} {a:List RI}
theorem a1q (ha:RP (2^30) (2^35) a)(eq:ps (pv a)=ps q):AC Tryz.prog 193 [cw a] none [cz (lc q)]:=by
 have h:=VT a (ha.mono (by omega) (by omega));have e:cf (pv a) (tz (pv a)-1)=lc q:=by unfold lc;rw[nC (oW eq),oW eq]
 rwa [e]at h
end
def dxp (P B:List Int):Nat:=tz P+1-tz B
def dq (P B:List Int):List Int:=(Ei (lc B) (lc B) B (dxp P B) ([],P)).1
def dr (P B:List Int):List Int:=(Ei (lc B) (lc B) B (dxp P B) ([],P)).2
theorem a1v (p q:List RI)(hq:RP 40 (2^27) q)(h0:tz (pv q)=0):AC Tryz.prog 226 [cw p,cw q] none [cw [],cw [],ci 0,ci 1]:=by
 refine AC.aj (rs:=[.tmp 4,.tmp 5,.tmp 6,.tmp 7]) aV Tryz.func226 (by rfl) (by rfl) (by rfl) (by rfl) (by rfl) ?_;simp only[wt,seval];refine ah ((AU q (hq.mono (by omega) (by omega)))) (by rfl) (by simp) ?_;simp (disch:=omega) only[wt,seval,h0]

section
variable {q S B A D B' A' G G' X Y:List Int} {c:Int} {k b:Nat}
theorem jV (h:tz q=0):ps q=0:=PS.ext λk=>bn.mp h k
theorem gQ {p:List Int}(h:ps p=ps q):tz p=tz q:=nC (oW h)
theorem sS (hc:c≠0)(q:List Int):tz (aU c q)=tz q:=by
 refine zfm (jf c q) (qP λk hk=>?_);have:=dW (aU c q) hk;rw[dD]at this;exact(Int.mul_eq_zero.mp this).resolve_right hc
theorem a0Z {T:List Int}(h:ps S*ps B=ps T*ps B)(hB:tz B≠0):ps S=ps T:=by
 have e:ps (fD (mZ S (aU (-1) T)) B)=0:=by
  rw[dP,lZ,bG,PS.x9,PS.add_mul,PS.neg_mul,h,PS.add_neg]
 have h0:tz (fD (mZ S (aU (-1) T)) B)=0:=bn.mpr λk=>zaO (λf=>PS.c f k) e
 have h1:tz (mZ S (aU (-1) T))=0:=by
  by_cases h1:tz (mZ S (aU (-1) T))=0
  .exact h1
  .rw[uD h1 hB]at h0;omega
 refine PS.ext λk=>?_;have:=bn.mp h1 k;rw[iY,dD]at this;rw[F6,F6];omega
theorem Xu {a:Int}(ha:a≠0){f g:PS}(h:PS.C a*f=PS.C a*g):f=g:=PS.ext λk=>by
 have:=zaO (λf=>PS.c f k) h;simp only[PS.gG]at this;exact Int.eq_of_mul_eq_mul_left ha this
def As (A B:List Int):Prop:=∃a b:Int,a≠0/\b≠0/\PS.C a*ps A=PS.C b*ps B
theorem As.nM (h:ps A=ps B):As A B:=⟨1,1,by decide,by decide,by rw[h]⟩
theorem As.refl (A:List Int):As A A:=.nM rfl
theorem As.symm (h:As A B):As B A:=by
 obtain⟨a,b,ha,hb,e⟩:=h;exact⟨b,a,hb,ha,e.symm⟩
theorem As.trans (h:As A B)(h2:As B D):As A D:=by
 obtain⟨a,b,ha,hb,e⟩:=h;obtain⟨a',b',ha',hb',e'⟩:=h2;refine⟨a'*a,b*b',zb3 ha' ha,zb3 hb hb',?_⟩;rw[PS.qO,PS.qO,PS.mul_assoc,e,PS.mul_assoc,<-e',<-PS.mul_assoc,<-PS.mul_assoc,PS.mul_comm (PS.C a')]
theorem a3F (h:As A B):tz A=tz B:=by
 obtain⟨a,b,ha,hb,e⟩:=h;rw[<-sS ha A,<-sS hb B];exact gQ (by rw[bG,bG,e])
theorem b2r (A:List Int):As A (xY A):=by
 by_cases h:cont A=0
 .refine .nM ?_;rw[wV A,h,PS.b5w,PS.zero_mul];exact(b0G λk=>(AQ h k).1).symm
 .exact⟨1,cont A,by decide,h,by rw[PS.Ce,PS.one_mul];exact wV A⟩
theorem As.scale (hc:c≠0)(A:List Int):As (aU c A) A:=⟨1,c,by decide,hc,by rw[PS.Ce,PS.one_mul,bG]⟩
def Nf (A:List Int):Prop:=tz A=0\/Prm A
theorem b1c (A:List Int):Nf (xY A):=by
 by_cases h:cont A=0
 .exact .inl (bn.mpr λk=>(AQ h k).1)
 .exact .inr (MJ h)
theorem b4e (h:Prm A):tz A≠0:=(b1u (q:=A) (by rw[h.1];decide)).1
theorem As.uniq (h:As A B)(hA:Nf A)(hB:Nf B):ps A=ps B:=by
 have ht:=a3F h;rcases hA with hA|hA
 .rw[jV hA,jV (by omega)]
 rcases hB with hB|hB
 .exact absurd (by omega) (b4e hA)
 obtain⟨a,b,ha,hb,e⟩:=h;have e1:∀k,cf (aU b B) k=a*cf A k:=λk=>by
  have:=zaO (λf=>PS.c f k) e;simp only[PS.gG,F6]at this;rw[dD,zcR,this]
 have e2:∀k,cf (aU b B) k=b*cf B k:=λk=>by rw[dD,zcR]
 have c1:=J4 hA e1;have c2:=J4 hB e2;have ab:a=b:=c1.symm.trans c2;subst ab;exact Xu ha e
def npr (A:List Int):List Int:=aO (xY A)
theorem eH (A:List Int):aO (npr A)=npr A:=iM _
theorem kD (A:List Int):As A (npr A):=(b2r A).trans (.nM (AP _).symm)
theorem oh (A:List Int):tz (npr A)=tz A:=(a3F (kD A)).symm
theorem a6q (e:ps A=ps B)(h:Nf A):Nf B:=by
 have ht:=gQ e;rcases h with h|h
 .exact .inl (by omega)
 .refine .inr ⟨?_,?_⟩
  .rw[<-a2C (oW e)];exact h.1
  .have:=h.2;unfold lc at this ⊢;rwa [<-ht,<-oW e]
theorem lG (A:List Int):Nf (npr A):=a6q (AP _).symm (b1c A)
theorem a3l (A:List Int):cp (xY A)=cp (npr A):=uh λk=>(bM _ k).symm
def Dv (B A:List Int):Prop:=∃(c:Int) (S:List Int),c≠0/\ps S*ps B=PS.C c*ps A
theorem Dv.refl (A:List Int):Dv A A:=⟨1,[1],by decide,by rw[a0Y,PS.Ce]⟩
theorem Dv.zero (B:List Int)(h:tz A=0):Dv B A:=⟨1,[],by decide,by rw[Ko,jV h,PS.zero_mul,PS.mul_zero]⟩
theorem Dv.trans (h:Dv D B)(h2:Dv B A):Dv D A:=by
 obtain⟨c,S,hc,e⟩:=h;obtain⟨d,T,hd,e2⟩:=h2;refine⟨c*d,fD T S,zb3 hc hd,?_⟩;rw[dP,PS.mul_assoc,e,PS.qO,PS.mul_assoc,<-e2]
 ac_rfl
theorem Dv.mul (h:ps A=ps S*ps B):Dv B A:=⟨1,S,by decide,by rw[PS.Ce,PS.one_mul,h]⟩
theorem Dv.lin {G A B R U V:List Int}{k:Int}(h1:Dv G A)(h2:Dv G B)(hk:k≠0)(e:ps U*ps A+ps V*ps B=PS.C k*ps R):Dv G R:=by
 obtain⟨c,S,hc,e1⟩:=h1;obtain⟨d,T,hd,e2⟩:=h2;refine⟨c*d*k,mZ (aU d (fD U S)) (aU c (fD V T)),Int.mul_ne_zero (Int.mul_ne_zero hc hd) hk,?_⟩;rw[lZ,bG,bG,dP,dP,PS.qO,PS.mul_assoc,<-e,PS.qO,PS.add_mul,PS.mul_add];have x1:PS.C d*(ps U*ps S)*ps G=PS.C d*(ps U*(ps S*ps G)):=by ac_rfl
 have x2:PS.C c*(ps V*ps T)*ps G=PS.C c*(ps V*(ps T*ps G)):=by ac_rfl
 rw[x1,x2,e1,e2]
 congr 1<;>ac_rfl
theorem As.dv (h:As A B):Dv A B:=by
 obtain⟨a,b,ha,hb,e⟩:=h;exact⟨b,[a],hb,by rw[VN,e]⟩
theorem Jr (h:Dv B A)(hA:tz A≠0):tz B≠0/\tz B<=tz A:=by
 obtain⟨c,S,hc,e⟩:=h;have ht:tz (fD S B)=tz A:=by
  rw[<-sS hc A];exact gQ (by rw[dP,bG,e])
 have hS:tz S≠0:=λh0=>hA (by rw[<-ht];exact lC (.inl h0))
 have hB:tz B≠0:=λh0=>hA (by rw[<-ht];exact lC (.inr h0))
 rw[uD hS hB]at ht;exact⟨hB,by omega⟩
theorem Dv.anti (h:Dv A B)(h2:Dv B A):As A B:=by
 by_cases hB:tz B=0
 .have hA:tz A=0:=by
   by_cases hA:tz A=0
   .exact hA
   .exact absurd hB (Jr h2 hA).1
  exact .nM (by rw[jV hA,jV hB])
 have hA:=(Jr h hB).1;have l1:=(Jr h hB).2;have l2:=(Jr h2 hA).2;obtain⟨c,S,hc,e⟩:=h;have ht:tz (fD S A)=tz B:=by
  rw[<-sS hc B];exact gQ (by rw[dP,bG,e])
 have hS:tz S≠0:=λh0=>hB (by rw[<-ht];exact lC (.inl h0))
 rw[uD hS hA]at ht;have hS1:tz S=1:=by omega
 have es:ps S=PS.C (cf S 0):=PS.ext λk=>by
  rw[F6,PS.c_C];split
  .rename_i h;rw[h]
  .exact dW S (by omega)
 have h0:cf S 0≠0:=by have:=jv (q:=S) hS;rwa [hS1]at this
 exact⟨cf S 0,c,h0,hc,by rw[<-es,e]⟩
theorem Dv.as (h:Dv B A)(hB:As B' B)(hA:As A A'):Dv B' A':=(hB.dv.trans h).trans hA.dv
structure GG (G A B:List Int):Prop where
 a:Dv G A
 b:Dv G B
 z:∃(c:Int) (U V:List Int),c≠0/\ps U*ps A+ps V*ps B=PS.C c*ps G
theorem GG.dv (h:GG G A B)(h1:Dv D A)(h2:Dv D B):Dv D G:=by
 obtain⟨c,U,V,hc,e⟩:=h.z;exact h1.lin h2 hc e
theorem GG.uniq (h:GG G A B)(h':GG G' A B)(n:Nf G)(n':Nf G'):ps G=ps G':=((h'.dv h.a h.b).anti (h.dv h'.a h'.b)).uniq n n'
theorem GG.symm (h:GG G A B):GG G B A:=by
 obtain⟨c,U,V,hc,e⟩:=h.z;exact⟨h.b,h.a,c,V,U,hc,by rw[PS.add_comm,e]⟩
theorem GG.zero (h:tz B=0):GG A A B:=⟨.refl A,.zero A h,1,[1],[],by decide,by rw[a0Y,Ko,PS.zero_mul,PS.add_zero,PS.Ce]⟩
theorem GG.as (h:GG G A B)(hG:As G G')(hA:As A A')(hB:As B B'):GG G' A' B':=by
 refine⟨h.a.as hG.symm hA,h.b.as hG.symm hB,?_⟩;obtain⟨c,U,V,hc,e⟩:=h.z;obtain⟨g,g',hg,hg',eg⟩:=hG;obtain⟨a,a',ha,ha',ea⟩:=hA;obtain⟨b,b',hb,hb',eb⟩:=hB;refine⟨c*a*b*g',aU (b*g*a') U,aU (a*g*b') V,zb3 (zb3 (zb3 hc ha) hb) hg',?_⟩;rw[bG,bG];have x1:PS.C (b*g*a')*ps U*ps A'=PS.C a*PS.C b*PS.C g*(ps U*ps A):=by
  have:PS.C (b*g*a')*ps U*ps A'=PS.C b*PS.C g*ps U*(PS.C a'*ps A'):=by rw[PS.qO,PS.qO];ac_rfl
  rw[this,<-ea];ac_rfl
 have x2:PS.C (a*g*b')*ps V*ps B'=PS.C a*PS.C b*PS.C g*(ps V*ps B):=by
  have:PS.C (a*g*b')*ps V*ps B'=PS.C a*PS.C g*ps V*(PS.C b'*ps B'):=by rw[PS.qO,PS.qO];ac_rfl
  rw[this,<-eb];ac_rfl
 rw[x1,x2,<-PS.mul_add,e];have:PS.C (c*a*b*g')*ps G'=PS.C c*PS.C a*PS.C b*(PS.C g'*ps G'):=by rw[PS.qO,PS.qO,PS.qO];ac_rfl
 rw[this,<-eg]
 ac_rfl
theorem GG.step {G A B Q R:List Int}{c:Int}(h:GG G B R)(hc:c≠0)(e:ps Q*ps B+ps R=PS.C c*ps A):GG G A B:=by
 refine⟨h.a.lin (U:=Q) (V:=[1]) h.b hc (by rw[a0Y,PS.one_mul,e]),h.a,?_⟩;obtain⟨k,U,V,hk,ek⟩:=h.z;refine⟨k,aU c V,mZ U (aU (-1) (fD V Q)),hk,?_⟩;rw[bG,lZ,bG,dP,PS.x9,PS.add_mul,PS.neg_mul,<-ek];have:PS.C c*ps V*ps A=ps V*ps Q*ps B+ps V*ps R:=by
  rw[show PS.C c*ps V*ps A=ps V*(PS.C c*ps A) by ac_rfl,<-e,PS.mul_add]
  congr 1
  ac_rfl
 rw[this];generalize ps V*ps Q*ps B=x;generalize ps V*ps R=y;generalize ps U*ps B=w;refine PS.ext λk=>?_;simp only[PS.vH,PS.Ux];omega
theorem Bz (A B:List Int):ps (dq A B)*ps B+ps (dr A B)=PS.C (lc B^dxp A B)*ps A:=by
 have h:=Ul (c:=lc B) (L:=lc B) (B:=B) (dxp A B) ([],A);have e:∀n,PS.pw (PS.C (lc B)) n=PS.C (lc B^n):=λn=>by
  induction n with
  |zero=>rw[PS.pw,Int.pow_zero,PS.Ce]
  |succ n ih=>rw[PS.a8E,PS.a8D,ih,Int.pow_succ,PS.qO]
 rw[e]at h;rw[dq,dr,h];show _*(ps []*ps B+ps A)=_;rw[Ko,PS.zero_mul,PS.zero_add]
theorem WE (h:tz B≠0):lc B≠0:=jv h
theorem Eb (h:tz B≠0)(n:Nat):lc B^n≠0:=Int.pow_ne_zero (WE h)
theorem zJ (h:tz B≠0):tz (dr A B)<tz B:=Uj rfl h (Int.dvd_refl _) _ _ (by show tz A<tz B+dxp A B;unfold dxp;omega)
def eu:Nat->List Int->List Int->List Int
 |0,A,_=>A
 |n+1,A,B=>if tz B=0 then A else eu n B (npr (dr A B))
theorem b4R:∀(n:Nat) (A B:List Int),tz B<=n->GG (eu n A B) A B
 |0,A,B,h=>.zero (by omega)
 |n+1,A,B,h=>by
  rw[eu];split
  .rename_i h0;exact .zero h0
  .rename_i h0;have ht:=zJ (A:=A) h0;have ih:=b4R n B (npr (dr A B)) (by rw[oh];omega);exact(ih.as (.refl _) (.refl _) (kD _).symm).step (Eb h0 _) (Bz A B)
theorem b4Q:∀(n:Nat) (A B:List Int),Nf A->Nf B->Nf (eu n A B)
 |0,A,B,h,_=>h
 |n+1,A,B,h,h2=>by
  rw[eu];split
  .exact h
  .exact b4Q n B _ h2 (lG _)
def eU (A B:List Int):List Int:=eu (tz B) (npr A) (npr B)
theorem mG (A B:List Int):GG (eU A B) A B:=(b4R (tz B) (npr A) (npr B) (by rw[oh];omega)).as (.refl _) (kD A).symm (kD B).symm
theorem rV (A B:List Int):Nf (eU A B):=b4Q _ _ _ (lG A) (lG B)
theorem Nc (h:GG G A B)(n:Nf G):ps G=ps (eU A B):=h.uniq (mG A B) n (rV A B)
theorem Ud (hA:As A A')(hB:As B B'):ps (eU A B)=ps (eU A' B'):=Nc ((mG A B).as (.refl _) hA hB) (rV A B)
theorem a2V (h:tz B≠0):Dv B A↔tz (dr A B)=0:=by
 have e:=Bz A B;constructor
 .intro hd;have h1:Dv B (dr A B):=hd.lin (U:=[lc B^dxp A B]) (V:=aU (-1) (dq A B)) (.refl B) (k:=1) (by decide) (by
   rw[VN,<-e,bG,PS.x9,PS.neg_mul,PS.Ce,PS.one_mul];generalize ps (dq A B)*ps B=x;generalize ps (dr A B)=y;refine PS.ext λk=>?_;simp only[PS.vH,PS.Ux];omega)
  by_cases h0:tz (dr A B)=0
  .exact h0
  .have:=(Jr h1 h0).2;have:=zJ (A:=A) h;omega
 .intro h0;exact⟨_,dq A B,Eb h _,by rw[<-e,jV h0,PS.add_zero]⟩
def quo (A B:List Int):List Int:=npr (dq A B)
theorem oM (A B:List Int):Nf (quo A B):=lG _
theorem Gy (hB:tz B≠0)(hc:c≠0)(e:ps S*ps B=PS.C c*ps A):As S (quo A B):=by
 have h0:=(a2V hB).mp ⟨c,S,hc,e⟩;have e2:=Bz A B;rw[jV h0,PS.add_zero]at e2;refine As.trans ⟨lc B^dxp A B,c,Eb hB _,hc,?_⟩ (kD (dq A B));have:ps (aU (lc B^dxp A B) S)=ps (aU c (dq A B)):=a0Z (B:=B) (by
  rw[bG,bG,PS.mul_assoc,PS.mul_assoc,e,e2]
  ac_rfl) hB
 rw[bG,bG]at this;exact this
theorem Tj (hB:tz B≠0)(h:Dv B A):As A (fD (quo A B) B):=by
 obtain⟨c,S,hc,e⟩:=h;obtain⟨a,b,ha,hb,e2⟩:=Gy hB hc e;refine⟨a*c,b,zb3 ha hc,hb,?_⟩;rw[dP,<-PS.mul_assoc,<-e2,PS.mul_assoc,e,PS.qO,PS.mul_assoc]
theorem VD (hB:tz B≠0)(hA:tz A≠0)(h:Dv B A):tz (quo A B)+tz B=tz A+1/\tz (quo A B)≠0:=by
 have e:=a3F (Tj hB h);have hq:tz (quo A B)≠0:=λh0=>hA (by rw[e];exact lC (.inl h0))
 rw[uD hq hB]at e;exact⟨by omega,hq⟩
def SBd (k:Nat)(q:List Int):Prop:=∀i,zl (cf q i)<=k
theorem SBd.mono {m:Nat}(h:SBd k q)(hk:k<=m):SBd m q:=λi=>zad (h i) hk
theorem b0g (h:SBd k q):SBd k (xY q):=λi=>by
 by_cases hc:cont q=0
 .rw[(AQ hc i).1,iC];omega
 .have:=yH (FD q i);have e:cf (xY q) i=cf q i/cont q:=fU _ _ _;rw[e];exact zad this (h i)
theorem DU (h:SBd k q):SBd k (npr q):=λi=>by
 rw[npr,bM];exact b0g h i
theorem Uk {L:Int}(hL:L≠0)(hB:SBd b B)(hl:zl L<=b):∀(n r:Nat) (s:List Int×List Int),SBd r s.1->SBd r s.2->SBd (r+n*(b+1)) (Ei L L B n s).1/\SBd (r+n*(b+1)) (Ei L L B n s).2
 |0,r,s,h1,h2=>by rw[zcP,zaV];exact⟨h1,h2⟩
 |n+1,r,s,h1,h2=>by
  rw[Ei];have hr:r+(n+1)*(b+1)=r+(b+1)+n*(b+1):=by rw[zbS];omega
  rw[hr];have sc:∀q,SBd r q->SBd (r+b) (aU L q):=λq h i=>by
   rw[dD];have:=fA (cf q i) L;have:=h i;omega
  split
  .refine Uk hL hB hl n _ _ (λi=>?_) (λi=>?_)
   .show zl (cf (mZ (aU L s.1) (mono _ _)) i)<=_;rw[iY,Dt,zbW _ hL];have a1:=sc _ h1 i;have a2:zl (if i=tz s.2-tz B then lc s.2 else 0)<=r:=by
     split
     .exact h2 _
     .rw[iC];omega
    have:=qg (cf (aU L s.1) i) (if i=tz s.2-tz B then lc s.2 else 0);omega
   .show zl (cf (mZ (aU L s.2) (aU (-1) (fD (mono _ _) B))) i)<=_;rw[iY,dD (-1),nS,zbW _ hL];have a1:=sc _ h2 i;have a2:zl ((if tz s.2-tz B<=i then lc s.2*cf B (i-(tz s.2-tz B)) else 0) * -1)<=r+b:=by
     rw[Int.mul_neg,Int.mul_one,sD];split
     .have:=fA (lc s.2) (cf B (i-(tz s.2-tz B)));have h3:zl (lc s.2)<=r:=h2 _;have:=hB (i-(tz s.2-tz B));omega
     .rw[iC];omega
    have:=qg (cf (aU L s.2) i) ((if tz s.2-tz B<=i then lc s.2*cf B (i-(tz s.2-tz B)) else 0) * -1);omega
  .exact Uk hL hB hl n _ _ ((sc _ h1).mono (by omega)) ((sc _ h2).mono (by omega))
theorem IQ {a:Nat}(hB0:tz B≠0)(hA:SBd a A)(hB:SBd b B):SBd (a+dxp A B*(b+1)) (dq A B)/\SBd (a+dxp A B*(b+1)) (dr A B) :=
 Uk (WE hB0) hB (hB _) _ _ _ (λi=>by rw[lJ,iC];omega) hA
def EZ (S:Nat):Nat->Nat
 |0=>S
 |1=>2*S+1
 |i+2=>2*EZ S (i+1)+EZ S i+2
theorem EZ.succ (S:Nat):∀i,EZ S i<=EZ S (i+1)
 |0=>by show S<=2*S+1;omega
 |i+1=>by show EZ S (i+1)<=2*EZ S (i+1)+EZ S i+2;omega
theorem EZ.mono (S:Nat){i j:Nat}(h:i<=j):EZ S i<=EZ S j:=by
 induction h with
 |refl=>exact zab _
 |step _ ih=>exact zad ih (EZ.succ S _)
theorem EZ.grow (S u:Nat):∀d,EZ S u+(d+2)*(EZ S (u+1)+1)<=EZ S (u+2+d)
 |0=>by show _<=2*EZ S (u+1)+EZ S u+2;omega
 |d+1=>by
  have ih:=EZ.grow S u d;have h1:EZ S (u+1)<=EZ S (u+1+d):=EZ.mono S (by omega);have e:EZ S (u+2+(d+1))=2*EZ S (u+1+d+1)+EZ S (u+1+d)+2:=by
   rw[show u+2+(d+1)=(u+1+d)+2 by omega,EZ]
  rw[show u+2+d=u+1+d+1 by omega]at ih;rw[e,show d+1+2=(d+2)+1 by omega,zbS];omega
structure EI (D S:Nat) (X Y:List Int):Prop where
 x:tz X<=D
 y:tz Y<=D
 s:(SBd S X/\SBd S Y)\/(tz Y<tz X/\SBd (EZ S (D-tz X)) X/\SBd (EZ S (D-tz X+1)) Y)
theorem EI.bd {D S:Nat}(h:EI D S X Y):SBd (EZ S D) X/\SBd (EZ S D) Y:=by
 rcases h.s with ⟨a,b⟩|⟨l,a,b⟩
 .have:S<=EZ S D:=EZ.mono S (i:=0) (by omega);exact⟨a.mono this,b.mono this⟩
 .have:=h.x;exact⟨a.mono (EZ.mono S (by omega)),b.mono (EZ.mono S (by omega))⟩
theorem EI.step {D S:Nat}(h:EI D S X Y)(h0:tz Y≠0):EI D S Y (npr (dr X Y)):=by
 have ht:=zJ (A:=X) h0;have hx:=h.x;have hy:=h.y;refine⟨h.y,by rw[oh];omega,.inr ⟨by rw[oh];omega,?_⟩⟩;have norm:tz Y<tz X->SBd (EZ S (D-tz X)) X->SBd (EZ S (D-tz X+1)) Y->SBd (EZ S (D-tz Y)) Y/\SBd (EZ S (D-tz Y+1)) (npr (dr X Y)):=λl a b=>by
  refine⟨b.mono (EZ.mono S (by omega)),DU ((IQ h0 a b).2.mono ?_)⟩;have g:=EZ.grow S (D-tz X) (tz X-tz Y-1);rw[show tz X-tz Y-1+2=dxp X Y by unfold dxp;omega,show D-tz X+2+(tz X-tz Y-1)=D-tz Y+1 by omega]at g;exact g
 rcases h.s with ⟨a,b⟩|⟨l,a,b⟩
 .by_cases l:tz Y<tz X
  .exact norm l (a.mono (EZ.mono S (i:=0) (by omega))) (b.mono (EZ.mono S (i:=0) (by omega)))
  .refine⟨b.mono (EZ.mono S (i:=0) (by omega)),DU ((IQ h0 a b).2.mono ?_)⟩;have g:EZ S 1<=EZ S (D-tz Y+1):=EZ.mono S (by omega);have e1:EZ S 1=2*S+1:=rfl;have hd:dxp X Y<=1:=by unfold dxp;omega
   have:=zag (S+1) hd;omega
 .exact norm l a b
theorem a2T {D S:Nat}:∀(n:Nat) (X Y:List Int),EI D S X Y->SBd (EZ S D) (eu n X Y)/\tz (eu n X Y)<=D
 |0,X,Y,h=>⟨h.bd.1,h.x⟩
 |n+1,X,Y,h=>by
  rw[eu];split
  .exact⟨h.bd.1,h.x⟩
  .rename_i h0;exact a2T n Y _ (h.step h0)
theorem EI.start {D S:Nat}(ha:tz A<=D)(hb:tz B<=D)(sa:SBd S A)(sb:SBd S B):EI D S (npr A) (npr B):=⟨by rw[oh];exact ha,by rw[oh];exact hb,.inl ⟨DU sa,DU sb⟩⟩
theorem Uc {D S:Nat}(ha:tz A<=D)(hb:tz B<=D)(sa:SBd S A)(sb:SBd S B):SBd (EZ S D) (eU A B):=(a2T _ _ _ (EI.start ha hb sa sb)).1
end
section
variable {K:Nat}
theorem b3n {a:Int}(h:zl a<=K)(i:Nat):zl (a^i)<=i*K+1:=by
 induction i with
 |zero=>rw[Int.pow_zero];have:zl 1<=1:=sH.mpr (by decide);omega
 |succ i ih =>
  rw[Int.pow_succ];have:=fA (a^i) a;rw[zbS];omega
def ev:List Int->Int->Int
 |[],_=>0
 |c::p,t=>c+t*ev p t
theorem b3o {kt:Nat}{t:Int}(ht:zl t<=kt):∀{p:List Int},(∀z∈p,zl z<=K)->zl (ev p t)<=K+p.length*(kt+1)
 |[],_=>by rw[ev,iC];omega
 |c::p,h=>by
  have ih:=b3o (p:=p) ht λz hz=>h z (zdH _ hz)
  have h1:=qg c (t*ev p t);have h2:=fA t (ev p t);have h3:=h c (by simp);rw[ev,zaL,zbS];omega
theorem b4z (c:RI):iv c=sg c.1 (nv c.2):=rfl
theorem b0l (c:RI)(h:Sz (2^40) c):AC Tryz.prog 278 [cr c] none [cz (-iv c)]:=by
 refine AC.aj (rs:=[.cell 2 30]) aV Tryz.func278 (by rfl) (by rfl) (by rfl) (by rfl) (by rfl) ?_;simp (disch:=omega) only[wt,seval];have m:=vW (!c.1) c.2 h.2 h.1;have e:sg (!c.1) (nv c.2) = -iv c:=by
  rw[b4z];unfold sg;cases c.1<;>simp
 rw[e]at m;refine ah (m) (by rfl) (by simp) ?_;simp (disch:=omega) only[wt,seval]
end
section
variable {a:Int} {p g:List Int} {n S:Nat}
def sdi (a:Int):List Int->List Int
 |[]=>[]
 |c::q=>ev q a::sdi a q
theorem IC (a x:Int):∀p:List Int,ev p x=ev p a+(x-a)*ev (sdi a p) x
 |[]=>by show (0:Int)=0+(x-a)*0;omega
 |c::q=>by
  have ih:=IC a x q;show c+x*ev q x=c+a*ev q a+(x-a)*(ev q a+x*ev (sdi a q) x);rw[ih];generalize ev q a=Q;generalize ev (sdi a q) x=E
  grind
theorem a3r (a:Int):∀(p:List Int) (k:Nat),cf p k=(if k=0 then ev p a else cf (sdi a p) (k-1))-a*cf (sdi a p) k
 |[],k=>by
  show cf [] k=(if k=0 then 0 else cf [] (k-1))-a*cf [] k;rw[lJ,lJ];split<;>omega
 |c::q,0=>by
  show c=c+a*ev q a-a*ev q a;omega
 |c::q,k+1=>by
  have ih:=a3r a q k;rw[if_neg (by omega),Nat.add_sub_cancel];show cf q k=cf (ev q a::sdi a q) k-a*cf (sdi a q) k;rw[ih]
  congr 1
  cases k with
  |zero=>rfl
  |succ k=>rfl
theorem IE:∀{p:List Int},(∀k,cf p k=0)->ev p a=0
 |[],_=>rfl
 |c::q,h=>by
  have h0:c=0:=h 0;rw[ev,IE (p:=q) λk=>h (k+1),h0];omega
theorem LP:∀(p:List Int) {n:Nat},(∀k,n+1<=k->cf p k=0)->∀k,n<=k->cf (sdi a p) k=0
 |[],n,_,k,_=>lJ k
 |c::q,0,h,0,_=>IE λk=>h (k+1) (by omega)
 |c::q,n+1,h,0,hk=>absurd hk (by omega)
 |c::q,0,h,k+1,_=>LP q (n:=0) (λj hj=>h (j+1) (by omega)) k (by omega)
 |c::q,n+1,h,k+1,hk=>LP q (n:=n) (λj hj=>h (j+1) (by omega)) k (by omega)
theorem Oe {z y:Int}(hz:z≠0):zl y<=zl (z*y):=by
 have h:zl (z*y)<=zl (z*y):=zab _;have h1:=sH.mp h;refine sH.mpr (za3 ?_ h1);rw[zcc];exact Nat.le_mul_of_pos_left _ (Int.natAbs_pos.mpr hz)
theorem Zr:∀(l:List Int) (g:List Int) (m:Nat),l.Nodup->(∀k,l.length<=k->cf g k=0)->(∀a∈l,zl a<=1/\zl (ev g a)<=m)->SBd (m+4*l.length) g
 |[],g,m,_,h,_=>λi=>by rw[h i (za4 _),iC];omega
 |a::l,g,m,hd,h,hv=>by
  have hd':=zdM.mp hd;obtain⟨va1,va2⟩:=hv a (by simp);have ih:=Zr l (sdi a g) (m+1) hd'.2 (λk hk=>LP g (n:=l.length) (λj hj=>h j (by rw[zaL];omega)) k hk) λb hb=>by
   obtain⟨vb1,vb2⟩:=hv b (by simp[hb]);refine⟨vb1,?_⟩;have hne:b-a≠0:=λe=>hd'.1 (by rw[show a=b by omega];exact hb)
   have e:=IC a b g;have e2:(b-a)*ev (sdi a g) b=ev g b + -(ev g a):=by omega
   have h1:=Oe (y:=ev (sdi a g) b) hne;rw[e2]at h1;have h2:=qg (ev g b) (-(ev g a));rw[sD]at h2;omega
  intro i;rw[a3r a g i,zeG,zaL];have h1:=fA a (cf (sdi a g) i);have h2:=ih i;have h3:zl (if i=0 then ev g a else cf (sdi a g) (i-1))<=m+1+4*l.length:=by
   split
   .omega
   .exact ih _
  have h4:=qg (if i=0 then ev g a else cf (sdi a g) (i-1)) (-(a*cf (sdi a g) i));rw[sD]at h4;omega
theorem OH:∀(l:List Int) (p:List Int),l.Nodup->(∀k,l.length<=k->cf p k=0)->(∀a∈l,ev p a=0)->∀k,cf p k=0
 |[],p,_,h,_,k=>h k (za4 _)
 |a::l,p,hd,h,hv,k=>by
  have hd':=zdM.mp hd;have va:=hv a (by simp);have ih:=OH l (sdi a p) hd'.2 (λk hk=>LP p (n:=l.length) (λj hj=>h j (by rw[zaL];omega)) k hk) λb hb=>by
   have vb:=hv b (by simp[hb]);have hne:b-a≠0:=λe=>hd'.1 (by rw[show a=b by omega];exact hb)
   have e:=IC a b p;rw[va,vb,zdR]at e;exact(Int.mul_eq_zero.mp e.symm).resolve_left hne
  rw[a3r a p k,ih k,va];split
  .omega
  .rw[ih];omega
theorem KH {α:Type}(f:α->Bool):∀l:List α,(l.filter f).length+(l.filter λx=>!f x).length=l.length
 |[]=>rfl
 |x::l=>by
  have ih:=KH f l;cases hx:f x<;>simp[hx]<;>omega
def a9c (n:Nat):List Int:=(List.range n).map λ(i:Nat)=>(i:Int)
theorem KC (n:Nat):(a9c n).Nodup:=by
 unfold a9c;refine List.Pairwise.map _ (λa b (h:a≠b)=>?_) List.nodup_range;intro e;exact h (zel e)
theorem b4c (h0:tz p≠0)(hn:tz p<=n)(hn2:n<=10000):∃l:List Int,l.Nodup/\n<=l.length/\l.length<=2*n/\∀a∈l,zl a<=1/\ev p a≠0:=by
 have hl:(a9c (2*n)).length=2*n:=by simp[a9c]
 have h2:=KH (λa=>decide (ev p a=0)) (a9c (2*n));have hr:((a9c (2*n)).filter λa=>decide (ev p a=0)).length<n:=by
  refine Nat.lt_of_not_le λhge=>h0 (bn.mpr ?_);exact OH ((a9c (2*n)).filter λa=>decide (ev p a=0)) p ((KC _).filter _) (λk hk=>dW p (by omega)) λa ha=>by
   have:=(zcX.mp ha).2;simpa using this
 refine⟨(a9c (2*n)).filter λa=>!decide (ev p a=0),(KC _).filter _,by omega,by omega,λa ha=>?_⟩;obtain⟨m1,m2⟩:=zcX.mp ha;refine⟨?_,by simpa using m2⟩;obtain⟨i,hi,rfl⟩:=zaw.mp m1;have:=zaK.mp hi;refine sH.mpr ?_;rw[zes,zbi];simp only[W];omega
theorem KN {q:List Int}(a:Int)(h:∀k,cf p k=cf q k):ev p a=ev q a:=by
 have key:∀p q:List Int,(∀k,cf p k=cf q k)->ev p a=ev q a:=by
  intro p
  induction p with
  |nil=>intro q hq;exact(IE λk=>by rw[<-hq];exact lJ k).symm
  |cons c p ih =>
   intro q hq;cases q with
   |nil=>exact IE λk=>hq k
   |cons d q =>
    have h0:c=d:=hq 0;rw[ev,ev,ih q λk=>hq (k+1),h0]
 exact key p q h
theorem b1R (a:Int):∀p q:List Int,ev (mZ p q) a=ev p a+ev q a:=by
 intro p
 induction p with
 |nil =>
  intro q;rw[KN (p:=mZ [] q) (q:=q) a λk=>by rw[iY,lJ,zdR]];show _=0+_;omega
 |cons c p ih =>
  intro q;cases q with
  |nil =>
   rw[KN (p:=mZ (c::p) []) (q:=c::p) a λk=>by rw[iY,lJ,zcS]];show _=_+0;omega
  |cons d q =>
   rw[KN (p:=mZ (c::p) (d::q)) (q:=(c+d)::mZ p q) a λk=>by
    cases k with
    |zero=>rw[iY];rfl
    |succ k=>rw[iY];exact(iY p q k).symm]
   rw[ev,ev,ev,ih,zfo];omega
theorem a2Q (a c:Int)(p:List Int):ev (aU c p) a=ev p a*c:=by
 induction p with
 |nil=>show (0:Int)=0*c;omega
 |cons x p ih =>
  show x*c+a*ev (aU c p) a=(x+a*ev p a)*c;rw[ih,Int.add_mul,Int.mul_assoc]
theorem b1Q (a:Int):∀p q:List Int,ev (fD p q) a=ev p a*ev q a:=by
 intro p
 induction p with
 |nil =>
  intro q;rw[IE λk=>by rw[gy];rfl];show (0:Int)=0*_;omega
 |cons x p ih =>
  intro q;rw[KN (p:=fD (x::p) q) (q:=mZ (aU x q) (0::fD p q)) a λk=>by
   rw[Eo,iY,dD,Int.mul_comm]
   congr 1
   cases k with
   |zero=>rfl
   |succ k=>rfl]
  rw[b1R,a2Q];show _+(0+a*ev (fD p q) a)=(x+a*ev p a)*ev q a;rw[ih,Int.add_mul,Int.mul_comm x,Int.mul_assoc];omega
theorem a2O {s:List Int}(h0:tz p≠0)(hn:tz p<=n)(hn2:n<=10000)(hS:SBd S p)(e:ps s*ps g=ps p):SBd (S+10*n) g:=by
 obtain⟨l,l1,l2,l3,l4⟩:=b4c h0 hn hn2;have ht:tz (fD s g)=tz p:=gQ (by rw[dP,e]);have hs:tz s≠0:=λh=>h0 (by rw[<-ht];exact lC (.inl h))
 have hg:tz g≠0:=λh=>h0 (by rw[<-ht];exact lC (.inr h))
 rw[uD hs hg]at ht;refine SBd.mono (Zr l g (S+2*n) l1 (λk hk=>dW g (by omega)) λa ha=>⟨(l4 a ha).1,?_⟩) (by omega);have h1:ev p a=ev s a*ev g a:=by
  rw[<-b1Q];exact KN a (oW (by rw[dP,e]))
 have h2:ev s a≠0:=λh=>(l4 a ha).2 (by rw[h1,h,zb8])
 have h3:=Oe (y:=ev g a) h2;rw[<-h1]at h3;have h4:zl (ev p a)<=S+2*n:=by
  rw[KN (p:=p) (q:=aO p) a λk=>(bM p k).symm];have h5:=b3o (l4 a ha).1 (K:=S) (p:=aO p) λz hz=>by
   obtain⟨i,hi,rfl⟩:=zbE hz;have:=hS i;rw[<-bM p i]at this;simpa [cf,List.getD,hi] using this
  rw[dw]at h5;omega
 omega
theorem b4T {g p:List Int}(hg:Prm g)(h:Dv g p):∃s,ps s*ps g=ps p:=by
 obtain⟨c,S,hc,e⟩:=h;have hc1:cont (aU c p)=cont S:=by
  have h1:cont (fD S g)=cont (aU c p):=by
   have e2:∀k,cf (fD S g) k=cf (aU c p) k:=oW (by rw[dP,bG,e]);unfold cont lc;rw[a2C e2,nC e2,e2]
  rw[<-h1,a7q,(a5X hg).1,Int.mul_one]
 have hd:∀k,c∣cf S k:=λk=>by
  have h1:c∣cont S:=by
   rw[<-hc1];refine Int.dvd_natAbs.mp ?_;rw[jL];refine Int.natAbs_dvd.mp (Int.natCast_dvd_natCast.mpr ?_);exact gY _ _ λk=>by
    rw[dD];exact Int.natAbs_dvd.mpr (Int.dvd_mul_left _ _)
  exact Int.dvd_trans h1 (FD S k)
 refine⟨qA c S,Xu hc ?_⟩;rw[<-PS.mul_assoc,<-e]
 congr 1
 refine PS.ext λk=>?_;rw[PS.gG,F6,F6,fU,Int.mul_ediv_cancel' (hd k)]
theorem a8S {A:List Int}(h:Nf A)(h0:tz A≠0):Prm A:=h.resolve_left h0
theorem b7B (h0:tz p≠0)(hn:tz p<=n)(hn2:n<=10000)(hS:SBd S p)(hg:Nf g)(h:Dv g p):SBd (S+10*n) g:=by
 obtain⟨s,e⟩:=b4T (a8S hg (Jr h h0).1) h;exact a2O h0 hn hn2 hS e
end
section
variable {k n:Nat} {p a q:List RI} {A B A' B':List Int}
theorem tN {X:List Int}(h:aO X=X):pv (cn X)=X:=by unfold cn;rw[fP,h]
theorem lQ {D:Nat}{q:List Int}(ht:tz q<=D)(h:SBd k q):RP D k (cn q):=RP.canon (.of (by rw[dw];exact ht) λi=>by rw[bM];exact h i)
theorem mX (h:RP n k p):SBd k (pv p):=λi=>h.pv.cf i
theorem yF (h:RP n k p):tz (pv p)<=n:=zad (CS _) h.pv.1
theorem b4o (h:ps A=ps B):ps (npr A)=ps (npr B):=(((kD A).symm.trans (.nM h)).trans (kD B)).uniq (lG A) (lG B)
theorem a8R (h:ps A=ps B):npr A=npr B:=by
 rw[<-eH A,<-eH B];exact ji (oW (b4o h))
theorem PG {q:List Int}(ha:RP (2^40) (2^40) a)(e:ps (pv a)=ps q):AC Tryz.prog 219 [cw a] none [ci ((tz q:Int)-1)]:=by
 have h:=mD a ha;rwa [gQ e]at h
theorem Kq (L:List (List RI))(x:List RI):gI L++[[.sl (bZ x)]]=gI (L++[x]):=by simp[gI]
theorem b1W (hB:tz B≠0):tz (dq A B)<=dxp A B:=by
 have e:=Bz A B;by_cases h0:tz (dq A B)=0
 .omega
 have ht:=zJ (A:=A) hB;have hm:=uD h0 hB;refine ze6 λhlt=>?_;have hA:tz (aU (lc B^dxp A B) A)=tz A:=sS (Eb hB _) A;have e2:ps (mZ (fD (dq A B) B) (dr A B))=ps (aU (lc B^dxp A B) A):=by rw[lZ,dP,bG,e]
 have h1:cf (mZ (fD (dq A B) B) (dr A B)) (tz (dq A B)+tz B-2)≠0:=by
  rw[iY,dW (dr A B) (by omega),zcS];have:=jv (q:=fD (dq A B) B) (by omega);rwa [hm,show tz (dq A B)+tz B-1-1=tz (dq A B)+tz B-2 by omega]at this
 rw[oW e2]at h1;refine h1 (dW _ ?_);rw[hA];unfold dxp at hlt;omega
def prl:Nat->List Int->List Int->List (List Int)
 |0,X,_=>[X]
 |n+1,X,Y=>if tz Y=0 then [X] else X::prl n Y (npr (dr X Y))
theorem VO:∀(n:Nat) (X Y:List Int),∃L,prl n X Y=L++[eu n X Y]
 |0,X,Y=>⟨[],rfl⟩
 |n+1,X,Y=>by
  rw[prl,eu];split
  .exact⟨[],rfl⟩
  .obtain⟨L,e⟩:=VO n Y (npr (dr X Y));exact⟨X::L,by rw[e];rfl⟩
theorem a1g:∀(n:Nat) (X Y:List Int),(prl n X Y).length<=n+1
 |0,X,Y=>by simp[prl]
 |n+1,X,Y=>by
  rw[prl];split
  .simp
  .have:=a1g n Y (npr (dr X Y));rw[zaL];omega
theorem a2R:∀(n:Nat) (X Y:List Int),aO X=X->aO Y=Y->aO (eu n X Y)=eu n X Y
 |0,X,Y,h,_=>h
 |n+1,X,Y,h,h2=>by
  rw[eu];split
  .exact h
  .exact a2R n Y _ h2 (eH _)
theorem jI (A B:List Int):aO (eU A B)=eU A B:=a2R _ _ _ (eH A) (eH B)
theorem b1K (h:tz A=0):ps (npr B)=ps (eU A B):=Nc ((GG.zero h).symm.as (kD B) (.refl _) (.refl _)) (lG B)
theorem a2E (h:tz B=0):ps (npr A)=ps (eU A B):=Nc ((GG.zero h).as (kD A) (.refl _) (.refl _)) (lG A)
theorem Gx (hB:tz B≠0)(hd:Dv B A)(ea:ps A=ps A')(eb:ps B=ps B'):ps (quo A B)=ps (quo A' B'):=by
 obtain⟨c,S,hc,e⟩:=hd;have h1:=Gy hB hc e;have h2:=Gy (A:=A') (B:=B') (S:=S) (by rw[<-gQ eb];exact hB) hc (by rw[<-eb,<-ea];exact e);exact(h1.symm.trans h2).uniq (oM A B) (oM A' B')
def dvb (B A:List Int):Bool:=if tz B=0 then decide (tz A=0) else decide (tz (dr A B)=0)
theorem uX (B A:List Int):dvb B A=true↔Dv B A:=by
 unfold dvb;split
 .rename_i h0;rw[zeH];refine⟨λh=>.zero B h,λh=>?_⟩;by_cases hA:tz A=0
  .exact hA
  .exact absurd h0 (Jr h hA).1
 .rename_i h0;rw[zeH];exact(a2V h0).symm
theorem IG (ha:As A A')(hb:As B B'):dvb B A=dvb B' A':=by
 rw[zfh,uX,uX];exact⟨λh=>h.as hb.symm ha,λh=>h.as hb ha.symm⟩
end
theorem a1I (x:Nat)(h:x<W):ACX Tryz.prog 107 [cu x] (b5t (wd x)):=by
 refine ACX.aj zi0 (rs:=[.tmp 2]) aV Tryz.func107 (by rfl) (by rfl) (by rfl) (by rfl) (by rfl) (a1L _) (λB=>?_);simp (disch:=omega) only[wt,seval];have m:=TN [x] (Lim.cons h Lim.nil) (by simp);have e:nv [x]=x:=by simp[nv,vl]
 rw[e]at m;refine aJ (m) (by rfl) (by simp) (by rfl) ?_;rintro B' E _ hB hE ⟨b,rfl,hb⟩;simp only[wt,seval];refine aQ [.iv (Fj b (wd x))] (by rfl) (by simp (disch:=omega) only[wt,seval]) ?_;intro E hE;exact⟨b,rfl,hb.mono hB (by omega)⟩
theorem PL (x:Nat)(hx:x<W):AC Tryz.prog 107 [cu x] none [cl (wd x)] :=
 a1s (a1I x hx)
theorem Zj (n:Int)(h : -9223372036854775808<=n)(h':n<=9223372036854775807):AC Tryz.prog 106 [ci n] none [cz n]:=by
 refine AC.aj (rs:=[.cell 2 30]) aV Tryz.func106 (by rfl) (by rfl) (by rfl) (by rfl) (by rfl) ?_;simp (disch:=omega) only[wt,seval];refine bf (λhn=>?_) (λhn=>?_)
 .simp (disch:=omega) only[wt,seval];rw[Oi h hn];refine ah ((PL n.natAbs (by simp only[W];omega))) (by rfl) (by simp) ?_;simp only[wt,seval];have e:n=sg true n.natAbs:=by unfold sg;simp;omega
  have:=FU true n.natAbs;rw[<-e]at this;refine ah (this) (by rfl) (by simp) ?_;simp (disch:=omega) only[wt,seval]
 .simp (disch:=omega) only[wt,seval];rw[Oh (by omega) h'];refine ah ((PL n.natAbs (by simp only[W];omega))) (by rfl) (by simp) ?_;simp only[wt,seval];have e:n=sg false n.natAbs:=by unfold sg;simp;omega
  have:=FU false n.natAbs;rw[<-e]at this;refine ah (this) (by rfl) (by simp) ?_;simp (disch:=omega) only[wt,seval]
end Go.Proofs.YtdpngipofekcfaaGreat
