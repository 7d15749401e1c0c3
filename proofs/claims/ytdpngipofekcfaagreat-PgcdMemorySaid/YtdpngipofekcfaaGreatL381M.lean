/-
 Contracts of the functions that the law reaches.
-/
import Derived.Test.YtdpngipofekcfaaGreatL117M
import Derived.Test.YtdpngipofekcfaaGreatL59M
set_option maxHeartbeats 2000000
set_option maxRecDepth 100000
set_option linter.defProp false
namespace Go.Proofs.YtdpngipofekcfaaGreat
open Go Go.Proofs Go.AL
set_option linter.unusedSimpArgs false
set_option linter.unusedVariables false
theorem Nw.b6S {B E:Nat}{l m:List Nat}(h:Nw B E l)(p:l.Perm m):Nw B E m:=⟨p.nodup_iff.1 h.1,λg hg=>h.2 g (p.mem_iff.2 hg)⟩
theorem iU (c:Bool)(x y:IV):lay (λi=>[(0,2),(2,1)][i]?) [.bool false,.sl [],.sl []] ([0,1].zip [[.bool c,x],[y]])=some ((2=2/\0+2<=3)/\(1=1/\2+1<=3)/\True,[.bool c,x,y]):=rfl
def b5s (l:List Nat)(e:Int)(B E:Nat)(res:List CV):Prop:=∃b,res=[.iv (Fj b l),ci e]/\Nw B E (oid b)
theorem b1g (l:List Nat)(e:Int)(B:Nat):∃E res,B<=E/\b5s l e B E res:=⟨B,_,zab _,none,rfl,.nil _ _⟩
def b2E (q r:Nat)(B E:Nat)(res:List CV):Prop:=∃b,res=[.iv (Fj b (wd q)),cl (wd r),ci 0]/\Nw B E (oid b)
theorem b1h (q r B:Nat):∃E res,B<=E/\b2E q r B E res:=⟨B,_,zab _,none,rfl,.nil _ _⟩
def a2U (a:List Nat)(w:Nat)(ha:Lim a)(hl:a.length<=2^40)(hw0:w≠0)(hw:w<W):ACX Tryz.prog 285 [cl a,cu w] (λB E res=>∃b,res=[.iv (Fj b (wd (nv a/w))),cu (nv a%w),ci 0]/\Nw B E (oid b)):=by
 refine ACX.aj zi0 (rs:=[.tmp 4,.tmp 5,.tmp 6]) aV Tryz.func285 (by rfl) (by rfl) (by rfl) (by rfl) (by rfl) (λB=>⟨B,_,zab _,none,rfl,.nil _ _⟩) (λB=>?_);simp only[wt,seval];refine ah ((a2Y a w ha hl hw0 hw)) (by rfl) (by simp) ?_;simp (disch:=omega) only[wt,seval];have:=Fa (pad a.length (nv a/w)) (rU _ _) (by rw[nK];omega);have h5:=kE ha;have h6:=zbO (nv a) w;rw[wY,zan (by omega)]at this;refine aJ (this) (by rfl) (by simp) (by rfl) ?_;rintro B' E _ hB hE ⟨b,rfl,hb⟩;simp only[wt,seval];refine aQ [.iv (Fj b (wd (nv a/w))),cu (nv a%w),ci 0] (by rfl) (by simp (disch:=omega) only[wt,seval]) ?_;intro E hE;exact⟨b,rfl,hb.mono hB (by omega)⟩
def a0M (a b:List Nat)(ha:Lim a)(hb:Lim b)(hla:a.length<=2^38)(hlb:b.length<=2^38)(h0:nv b≠0):ACX Tryz.prog 255 [cl a,cl b] (b2E (nv a/nv b) (nv a%nv b)):=by
 refine ACX.aj zi0 (rs:=[.tmp 4,.tmp 5,.tmp 6]) aV Tryz.func255 (by rfl) (by rfl) (by rfl) (by rfl) (by rfl) (b1h _ _) (λB=>?_);simp only[wt,seval];refine ah ((qB a ha (by omega))) (by rfl) (by simp) ?_;simp only[wt,seval];refine ah ((qB b hb (by omega))) (by rfl) (by simp) ?_;simp (disch:=omega) only[wt,seval];have hxl:=iP ha;have hyl:=iP hb;generalize nv a=x at *;generalize nv b=y at *;refine bf (λh=>?_) (λh=>?_)
 .have:=jA.mp (zel h);exact absurd this h0
 simp only[wt,seval];refine ah ((b1i (wd x) (wd y) (bg _) (bg _) (by omega) (by omega))) (by rfl) (by simp) ?_;simp (disch:=omega) only[wt,seval];rw[bJ,bJ];refine bf (λhc=>?_) (λhc=>?_)
 .have hlt:x<y:=by
   unfold Uw at hc;split at hc
   .assumption
   .split at hc<;>omega
  rw[za6 hlt,zan hlt];simp only[wt,seval];refine dO 4 148 1 (by rfl) ?_;refine aQ [.iv (Fj none []),cl (wd x),ci 0] (by rfl) (by simp (disch:=omega) only[wt,seval];rfl) ?_;intro E hE;exact⟨none,by rw[ni],.nil _ _⟩
 have hle:y<=x:=by
  unfold Uw at hc;split at hc
  .omega
  .omega
 simp (disch:=omega) only[wt,seval];refine bf (λh1=>?_) (λh1=>?_)
 .obtain⟨e1,e2⟩:=b3x (zel h1);have hp:0<(wd y).length:=by omega
  simp (disch:=omega) only[wt,seval];have m:=a2U (wd x) y (bg _) (by omega) h0 e2;rw[bJ]at m;have n:=PL (x%y) (zed (zbj _ (by omega)) e2);simp only[seval,e1];refine aJ (m) (by rfl) (by simp) (by rfl) ?_;rintro B' E _ hB hE ⟨c,rfl,hc⟩;simp (disch:=omega) only[wt,seval];refine ah (n) (by rfl) (by simp) ?_;simp only[wt,seval];refine aQ [.iv (Fj c (wd (x/y))),cl (wd (x%y)),ci 0] (by rfl) (by simp (disch:=omega) only[wt,seval]) ?_;intro E hE;exact⟨c,rfl,hc.mono hB (by omega)⟩
 .have hn:2<=(wd y).length:=by omega
  simp only[wt,seval];refine aJ ((a2f x y _ _ rfl rfl hn hle (by omega))) (by rfl) (by simp) (by rfl) ?_;rintro B' E _ hB hE ⟨c,rfl,hc⟩;simp (disch:=omega) only[wt,seval];refine aQ [.iv (Fj c (wd (x/y))),cl (wd (x%y)),ci 0] (by rfl) (by simp (disch:=omega) only[wt,seval]) ?_;intro E hE;exact⟨c,rfl,hc.mono hB (by omega)⟩
def Yx (a b:List Nat)(ha:Lim a)(hb:Lim b)(hla:a.length<=2^38)(hlb:b.length<=2^38)(h0:nv b≠0)(h1:nv a%nv b=0):ACX Tryz.prog 188 [cl a,cl b] (b5s (wd (nv a/nv b)) 0):=by
 refine ACX.aj zi0 (rs:=[.tmp 4,.tmp 5]) aV Tryz.func188 (by rfl) (by rfl) (by rfl) (by rfl) (by rfl) (b1g _ _) (λB=>?_);simp only[wt,seval];have q:=a0M a b ha hb hla hlb h0;rw[h1]at q;refine aJ (q) (by rfl) (by simp) (by rfl) ?_;rintro B' E _ hB hE ⟨c,rfl,hc⟩;simp (disch:=omega) only[wt,seval,ni];refine aQ [.iv (Fj c (wd (nv a/nv b))),ci 0] (by rfl) (by simp (disch:=omega) only[wt,seval]) ?_;intro E hE;exact⟨c,rfl,hc.mono hB (by omega)⟩
abbrev frq (b c:OB)(r:RQ):List IV:=[.bool r.1.1,Fj b r.1.2,Fj c r.2]
def RRq (r:RQ)(B E:Nat)(res:List CV):Prop:=∃b c,res=[.agg (frq b c r)]/\Nw B E (oid b++oid c)
theorem b4p (r:RQ)(B:Nat):∃E res,B<=E/\RRq r B E res:=⟨B,_,zab _,none,none,rfl,.nil _ _⟩
def a4r (r:RQ)(e:Int)(B E:Nat)(res:List CV):Prop:=∃b c,res=[.agg (frq b c r),ci e]/\Nw B E (oid b++oid c)
theorem GY (r:RQ)(e:Int)(B:Nat):∃E res,B<=E/\a4r r e B E res:=⟨B,_,zab _,none,none,rfl,.nil _ _⟩
theorem qW (b c:OB)(r:RQ):Je (.agg (frq b c r)) (cqq r):=.agg rfl λj x y hx hy=>by
 match j with
 |0=>cases hx;cases hy;exact .refl _
 |1=>cases hx;cases hy;exact xR
 |2=>cases hx;cases hy;exact xR
 |j+3=>simp at hx
theorem b0P {g:Nat}{args:List CV}{q r:Nat}(h:ACX Tryz.prog g args (b2E q r)):AC Tryz.prog g args none [cl (wd q),cl (wd r),ci 0]:=ACX.plain h λB E r hr=>by
 obtain⟨b,rfl,-⟩:=hr;exact .cons (.iv xR) (.cons (.refl _) (.cons (.refl _) .nil))
theorem b6R {g:Nat}{args:List CV}{r:RQ}(h:ACX Tryz.prog g args (RRq r)):AC Tryz.prog g args none [cqq r]:=ACX.plain h λB E r hr=>by
 obtain⟨b,c,rfl,-⟩:=hr;exact .cons (qW b c r) .nil
theorem a1r {g:Nat}{args:List CV}{r:RQ}{e:Int}(h:ACX Tryz.prog g args (a4r r e)):AC Tryz.prog g args none [cqq r,ci e]:=ACX.plain h λB E r hr=>by
 obtain⟨b,c,rfl,-⟩:=hr;exact .cons (qW b c r) (.cons (.refl _) .nil)
theorem a0N (a b:List Nat)(ha:Lim a)(hb:Lim b)(hla:a.length<=2^38)(hlb:b.length<=2^38)(h0:nv b≠0):AC Tryz.prog 255 [cl a,cl b] none [cl (wd (nv a/nv b)),cl (wd (nv a%nv b)),ci 0] :=
 b0P (a0M a b ha hb hla hlb h0)
def b4s (a b:List Nat)(ha:Lim a)(hb:Lim b)(hla:a.length<=2^38)(hlb:b.length<=2^38)(h0:nv b≠0):AC Tryz.prog 301 [cl a,cl b] none [cl (wd (nv a%nv b)),ci 0]:=by
 refine AC.aj (rs:=[.tmp 4,.tmp 5]) aV Tryz.func301 (by rfl) (by rfl) (by rfl) (by rfl) (by rfl) ?_;simp only[wt,seval];refine ah ((a0N a b ha hb hla hlb h0)) (by rfl) (by simp) ?_;simp (disch:=omega) only[wt,seval]
theorem b1H (a b:List Nat)(ha:Lim a)(hb:Lim b)(hla:a.length<=2^38)(hlb:b.length<=2^38)(h0:nv b≠0):AC Tryz.prog 281 [cl a,cl b] none [cl (wd (nv a%nv b))]:=by
 refine AC.aj (rs:=[.tmp 4]) aV Tryz.func281 (by rfl) (by rfl) (by rfl) (by rfl) (by rfl) ?_;simp only[wt,seval];refine ah ((b4s a b ha hb hla hlb h0)) (by rfl) (by simp) ?_;simp (disch:=omega) only[wt,seval]
theorem IX (a b:List Nat)(ha:Lim a)(hb:Lim b)(hla:a.length<=2^38)(hlb:b.length<=2^38)(h0:nv b≠0):AC Tryz.prog 188 [cl a,cl b] none [cl (if nv a%nv b=0 then wd (nv a/nv b) else []),ci (if nv a%nv b=0 then 0 else 4)]:=by
 refine AC.aj (rs:=[.tmp 4,.tmp 5]) aV Tryz.func188 (by rfl) (by rfl) (by rfl) (by rfl) (by rfl) ?_;simp only[wt,seval];refine ah ((a0N a b ha hb hla hlb h0)) (by rfl) (by simp) ?_;simp (disch:=omega) only[wt,seval];refine bf (λh=>?_) (λh=>?_)
 .have h1:nv a%nv b≠0:=λh2=>by rw[h2,ni]at h;simp at h
  rw[zam h1,zam h1];simp (disch:=omega) only[wt,seval]
 .have h1:nv a%nv b=0:=by
   rcases za8 (wd (nv a%nv b)).length with h2|h2
   .exact jA.mp h2
   .exact absurd (by omega) h
  rw[zas h1,zas h1];simp (disch:=omega) only[wt,seval]
theorem a2G (a b:List Nat)(ha:Lim a)(hb:Lim b)(hla:a.length<=2^38)(hlb:b.length<=2^38):AC Tryz.prog 250 [cl a,cl b] none [cl (wd (Nat.gcd (nv a) (nv b)))]:=by
 refine AC.aj (rs:=[.tmp 4]) aV Tryz.func250 (by rfl) (by rfl) (by rfl) (by rfl) (by rfl) ?_;simp only[wt,seval];refine ah ((qB a ha (by omega))) (by rfl) (by simp) ?_;simp only[wt,seval];refine ah ((qB b hb (by omega))) (by rfl) (by simp) ?_;simp only[wt,seval];have hxl:=iP ha;have hyl:=iP hb;generalize nv a=x at *;generalize nv b=y at *;refine aI (λf H=>∃u v:Nat,Nat.gcd u v=Nat.gcd x y/\(wd u).length<=2^38/\(wd v).length<=2^38/\f 0=.iv (.sl (dh (wd u)))/\f 1=.iv (.sl (dh (wd v)))) (λf H=>b1j f 1) ?_ ?_
 .exact⟨x,y,rfl,by omega,by omega,by simp only[wt,seval]⟩
 rintro f H ⟨u,v,hg,hu,hv,hF⟩;rw[Wp hF.2];simp (disch:=omega) only[wt,seval,hF];refine bf (λh=>?_) (λh=>?_)
 .have h0:v≠0:=λh1=>by rw[h1,ni]at h;simp at h
  have hm:=b1H (wd u) (wd v) (bg _) (bg _) hu hv (by rw[bJ];exact h0);rw[bJ,bJ]at hm;simp only[wt,seval,hF];refine ah (hm) (by rfl) (by simp) ?_;simp only[wt,seval];have hlt:=zbj u (zcY h0);have:=bF (zee hlt);rw[Wp rfl];exact⟨⟨v,u%v,by rw[<-hg,zew u v,Nat.gcd_rec v u,zew],hv,by omega,rfl,rfl⟩,hlt⟩
 .have h0:v=0:=jA.mp (by omega);subst h0;rw[zdE]at hg;simp (disch:=omega) only[wt,seval,hF,hg]
theorem zU (a b:RI)(ha:Sz (2^38) a)(hb:Sz (2^38) b)(h0:iv b≠0)(hd:iv b∣iv a):AC Tryz.prog 99 [cr a,cr b] none [cz (iv a/iv b),ci 0]:=by
 refine AC.aj (rs:=[.cell 4 30,.tmp 5]) aV Tryz.func99 (by rfl) (by rfl) (by rfl) (by rfl) (by rfl) ?_;rw[vX,vX]at hd;rw[vX]at h0;have hm:=a0d.mp hd;have hn:nv b.2≠0:=λh=>h0 (by rw[h];cases b.1<;>rfl)
 have m:=IX a.2 b.2 ha.2 hb.2 ha.1 hb.1 hn;rw[zas hm,zas hm]at m;rw[vX,vX,(a0e hm).1];simp (disch:=omega) only[wt,seval];refine ah (m) (by rfl) (by simp) ?_;simp (disch:=omega) only[wt,seval];refine ah ((FU (a.1 != b.1) (nv a.2/nv b.2))) (by rfl) (by simp) ?_;simp (disch:=omega) only[wt,seval]
theorem Xw (a b:RI)(ha:Sz (2^38) a)(hb:Sz (2^38) b)(h0:iv b≠0)(hd:¬iv b∣iv a):AC Tryz.prog 99 [cr a,cr b] none [cr (false,[]),ci 4]:=by
 refine AC.aj (rs:=[.cell 4 30,.tmp 5]) aV Tryz.func99 (by rfl) (by rfl) (by rfl) (by rfl) (by rfl) ?_;rw[vX,vX]at hd;rw[vX]at h0;have hm:¬nv a.2%nv b.2=0:=λh=>hd (a0d.mpr h)
 have hn:nv b.2≠0:=λh=>h0 (by rw[h];cases b.1<;>rfl)
 have m:=IX a.2 b.2 ha.2 hb.2 ha.1 hb.1 hn;rw[zam hm,zam hm]at m;simp (disch:=omega) only[wt,seval];refine ah (m) (by rfl) (by simp) ?_;simp (disch:=omega) only[wt,seval]
theorem a9G (p:List RI)(h:RP (2^40) (2^38) p):AC Tryz.prog 194 [cw p] none [cl (wd (gz (pv p)))]:=by
 refine AC.aj (rs:=[.tmp 2]) aV Tryz.func194 (by rfl) (by rfl) (by rfl) (by rfl) (by rfl) ?_;have hl:=h.1;simp (disch:=omega) only[wt,seval];refine rZ (.iv 3 6 1 false 148 1 [] (by simp only[wt,seval]) (by simp only[wt,seval]) (.refl _ _)) (λf H=>∃(i:Nat),i<=p.length/\(wd (gz ((pv p).take i))).length<=2^38/\f 9=.iv (.int .i64 i)/\f 7=.iv (.sl (bZ p))/\f 8=.iv (.int .i64 p.length)/\f 3=.iv (.sl (dh (wd (gz ((pv p).take i)))))) (λf H=>(p.length-bC f 9).toNat) ?_ ?_
 .refine⟨0,by omega,by rw[zaj,gz,zeV,ni];exact za4 _,?_⟩;simp only[wt,seval,zaj,gz,zeV,ni]
 rintro f H ⟨i,hi,hs,hF⟩;rw[aC hF.1];simp (disch:=omega) only[wt,seval,hF];refine bf (λhlt=>?_) (λhlt=>?_)
 .have hc:=h.get i;have m:=a2G (wd (gz ((pv p).take i))) (p.getD i (false,[])).2 (bg _) hc.2 hs hc.1;rw[bJ,<-Ii,<-qI,<-zH (by rw[iT];omega)]at m;simp (disch:=omega) only[wt,seval,hF];refine ah (m) (by rfl) (by simp) ?_;simp (disch:=omega) only[wt,seval,hF];refine⟨⟨i+1,by omega,?_,by omega,rfl⟩,by omega⟩;rw[zH (by rw[iT];omega)];rcases za8 (cf (pv p) i).natAbs with h0|h0
  .rw[h0,zdE];exact hs
  .refine zad (bF (zdx _ h0)) ?_;rw[qI,Ii];exact zad (iP hc.2) hc.1
 .simp (disch:=omega) only[wt,seval,hF];rw[zac (by rw[iT];omega)]
theorem TL (p:List RI)(h:RP (2^40) (2^38) p):AC Tryz.prog 103 [cw p] none [cz (cont (pv p))]:=by
 refine AC.aj (rs:=[.cell 2 30]) aV Tryz.func103 (by rfl) (by rfl) (by rfl) (by rfl) (by rfl) ?_;have hl:=h.1;have hg:=a2B h;have hs:=uw (canon (lc (pv p))) ((aY _).mono (by
  have:=(h.pv).cf (tz (pv p)-1);unfold lc;omega))
 rw[aS]at hs;simp (disch:=omega) only[wt,seval];refine ah ((VT p (h.mono (by omega) (by omega)))) (by rfl) (by simp) ?_;simp only[wt,seval];refine ah (hs) (by rfl) (by simp) ?_;simp (disch:=omega) only[wt,seval];refine ah ((a9G p h)) (by rfl) (by simp) ?_;simp only[wt,seval];have m:=CO (decide (lc (pv p)<0)) (gz (pv p)) (by omega);have e:(decide ((lc (pv p)).sign<0))=decide (lc (pv p)<0):=by rw[zbA];exact sign_neg _
 rw[e];refine ah (m) (by rfl) (by simp) ?_;simp (disch:=omega) only[wt,seval];rfl
set_option maxHeartbeats 1000000 in
theorem a2Z (p q:List RI)(fa:RI)(hp:RP 40 (2^27) p)(hq:RP 40 (2^27) q)(hf:Sz (2^27) fa)(hB:tz (pv q)≠0)(hd:lc (pv q)∣iv fa) :
  AC Tryz.prog 271 [cw p,cw q,cr fa] none [cp (Ei (iv fa) (lc (pv q)) (pv q) (tz (pv p)+1-tz (pv q)) ([],pv p)).1,cp (Ei (iv fa) (lc (pv q)) (pv q) (tz (pv p)+1-tz (pv q)) ([],pv p)).2,ci (tz (pv p)+1-tz (pv q):Nat)]:=by
 refine AC.aj (rs:=[.tmp 6,.tmp 7,.tmp 8]) aV Tryz.func271 (by rfl) (by rfl) (by rfl) (by rfl) (by rfl) ?_;have qp:=hp.pv;have qq:=hq.pv;have tp:tz (pv p)<=40:=zad (CS _) qp.1;have tq:tz (pv q)<=40:=zad (CS _) qq.1;generalize hee:tz (pv p)+1-tz (pv q)=e at *;have he:max ((tz (pv p):Int)-tz (pv q)+1) 0=(e:Int):=by omega
 have ht1:((tz (pv q):Int)-1).toNat=tz (pv q)-1:=by omega
 have hat:=yw (q:=pv q) (i:=tz (pv q)-1) (by omega);have hL:cf (pv q) (tz (pv q)-1)=lc (pv q):=rfl;rw[hL]at hat;simp (disch:=omega) only[wt,seval];refine ah ((ru p (hp.mono (by omega) (by omega)))) (by rfl) (by simp) ?_;simp only[wt,seval];refine ah ((ru q (hq.mono (by omega) (by omega)))) (by rfl) (by simp) ?_;simp (disch:=omega) only[wt,seval,aW];simp (disch:=omega) only[wt,seval,he,ht1,hat];generalize hc:iv fa=c at *;generalize hPe:pv p=P at *;generalize hBe:pv q=B at *;generalize hLe:lc B=L at *;have c0w:Bd (KB e) P:=⟨tp,λi=>zad (qp.cf i) (zad (by decide) (b7K e (by omega)))⟩;refine rZ (.b5Q 13 (by simp only[wt,seval]) (.refl _ _)) (λf H=>∃(left st5 b5L:Nat) (Q R:List Int),Ei c L B left (Q,R)=Ei c L B e ([],P)/\tz R<tz B+left/\left<=41/\Bd (KB left) Q/\Bd (KB left) R/\f 14=.iv (.int .i64 left)/\f 9=.iv (.sl (iQ R))/\f 10=.iv (.sl (iQ B))/\f 13=.iv (.sl (iQ Q))/\f 11=.iv (.int .i64 e)/\f 5=.hp 5 st5 0 0/\f 12=.hp 12 b5L 0 0/\H 5=.blk false st5 30 2 [jy fa]/\H 12=.blk false b5L 30 2 [jy (canon L)]) (λf H=>(bC f 14).toNat) ?_ ?_
 .refine⟨e,1,1,[],P,rfl,by omega,by omega,b5d _,c0w,?_⟩;simp only[wt,seval,a3k]
 rintro f H ⟨left,st5,b5L,Q,R,hD,hT,hle,hQ,hR,hF⟩;rw[aC hF.1];simp (disch:=omega) only[wt,seval,aW,hF];have hkb:=b5v left;have hkR:=hR.rp (by omega);have hkQ:=hQ.rp (by omega);refine bf (λhge=>?_) (λhge=>?_)
 .obtain⟨l,rfl⟩:∃l,left=l+1:=⟨left-1,by omega⟩;have hm:((tz R:Int)-tz B)=((tz R-tz B:Nat):Int):=by omega
  have ht2:((tz R:Int)-1).toNat=tz R-1:=by omega
  have b8m:=yw (q:=R) (i:=tz R-1) (by omega);have hLR:cf R (tz R-1)=lc R:=rfl;rw[hLR]at b8m;have hzR:=hR.2 (tz R-1);rw[hLR]at hzR;have hzc:zl c<=2^27:=by rw[<-hc];exact oO hf
  have hzL:zl L<=2^27:=by rw[<-hLe];exact qq.cf _
  have hL0:L≠0:=by rw[<-hLe];exact jv hB
  have hzm:=fA c (lc R);have hdv:L∣c*lc R:=zdY hd (zfL _ _);have hzt:=yH hdv;have m1:=wu fa (canon (lc R)) (hf.mono (by omega)) ((aY _).mono (by omega));rw[hc,aS]at m1;have m2:=zU (canon (c*lc R)) (canon L) ((aY _).mono (by omega)) ((aY _).mono (by omega)) (by rw[aS];exact hL0) (by rw[aS,aS];exact hdv);rw[aS,aS]at m2;have m3:=Y9 (canon (c*lc R/L)) (tz R-tz B) (by omega) ((aY _).mono (by omega));rw[aS]at m3;simp (disch:=omega) only[wt,seval,aW,hF,ht2,b8m];refine .inl ⟨aP (by kernel_rfl),?_⟩;refine ah (m1) (by rfl) (by simp) ?_;simp (disch:=omega) only[wt,seval,hF];refine ah (m2) (by rfl) (by simp) ?_;simp (disch:=omega) only[wt,seval,aW,hF,hm];refine⟨aX (by kernel_rfl),?_⟩;refine ah (m3) (by rfl) (by simp) ?_;simp (disch:=omega) only[wt,seval,hF];have hBB:Bd (2^27) B:=⟨tq,λi=>qq.cf i⟩;have hlt:=hR.1;have hK2:=a3W l hle;have hge':tz B<=tz R:=by omega
  generalize KB (l+1)=K at *;have b1:=FK hQ hzc;have b2:=b2o (n:=tz R-tz B) (c:=c*lc R/L) (K:=K+2^27) (by omega) (by omega);have b3:=FK hR hzc;have b4:=b2p (m:=0) (n:=tz R-tz B) (c:=c*lc R/L) (K:=K+2^27) hBB (by omega) (by omega);have b5:=a9n b1 b2;have b6:=a9n b3 (b5e b4);have hBr:=hBB.rp (by omega);have s1:=F5 (q:=Q) (c:=fa) hkQ (hf.mono (by omega)) (fF _);have s2:=F5 (q:=R) (c:=fa) hkR (hf.mono (by omega)) (fF _);rw[hc]at s1 s2;have hstep:Ei c L B (l+1) (Q,R)=Ei c L B l (a2W c L B (Q,R)):=by
   rw[Ei,zas (show tz B<=tz (Q,R).2 from hge')]
  have htz:=WX (c:=c) (s:=(Q,R)) hLe.symm hB hd (show tz B<=tz (Q,R).2 from hge');refine ah (s1) (by rfl) (by simp) ?_;simp (disch:=omega) only[wt,seval];refine ah ((b4k (b1.rp (by omega)) (b2.rp (by omega)) (fF _) (fF _))) (by rfl) (by simp) ?_;simp (disch:=omega) only[wt,seval,hF];refine ah (s2) (by rfl) (by simp) ?_;simp (disch:=omega) only[wt,seval,hF];refine ah ((a8I (b2.rp (by omega)) hBr (fF _) (fF _))) (by rfl) (by simp) ?_;simp (disch:=omega) only[wt,seval];refine ah ((b4d (b3.rp (by omega)) (b4.rp (by omega)) (fF _) (fF _))) (by rfl) (by simp) ?_;simp (disch:=omega) only[wt,seval,hF];refine⟨⟨l,st5,b5L,_,_,by rw[<-hD,hstep];rfl,?_,by omega,b5.mono (a7z hK2),b6.mono (b2n hK2),by omega,rfl,rfl,rfl,rfl,rfl,rfl⟩,by omega⟩;have h1:tz R≠0:=by omega
  have h2:tz (mZ (aU c R) (aU (-1) (fD (mono (tz R-tz B) (c*lc R/L)) B)))<=tz R-1:=htz;omega
 .have hout:tz R<tz B:=by omega
  simp (disch:=omega) only[wt,seval];refine aI (λf H=>∃(lft sf:Nat) (S T:List Int),Ei c L B lft (S,T)=Ei c L B e ([],P)/\tz T<tz B/\lft<=41/\Bd (KB lft) S/\Bd (KB lft) T/\f 14=.iv (.int .i64 lft)/\f 9=.iv (.sl (iQ T))/\f 13=.iv (.sl (iQ S))/\f 11=.iv (.int .i64 e)/\f 5=.hp 5 sf 0 0/\H 5=.blk false sf 30 2 [jy fa]) (λf H=>(bC f 14).toNat) ?_ ?_
  .refine⟨left,st5,Q,R,hD,hout,hle,hQ,hR,?_⟩;simp only[wt,seval,hF]
  rintro f H ⟨lft,sf,S,T,hD,hT,hle,hQ,hR,hF⟩;rw[aC hF.1];simp (disch:=omega) only[wt,seval,hF];refine bf (λhgt=>?_) (λhgt=>?_)
  .obtain⟨l,rfl⟩:∃l,lft=l+1:=⟨lft-1,by omega⟩;have hkb:=b5v (l+1);have hzc:zl c<=2^27:=by rw[<-hc];exact oO hf
   have hK2:=a3W l hle;have s1:=F5 (q:=S) (c:=fa) (hQ.rp (by omega)) (hf.mono (by omega)) (fF _);have s2:=F5 (q:=T) (c:=fa) (hR.rp (by omega)) (hf.mono (by omega)) (fF _);rw[hc]at s1 s2;have hstep:Ei c L B (l+1) (S,T)=Ei c L B l (aU c S,aU c T):=by
    rw[Ei,zam (show ¬tz B<=tz (S,T).2 from Nat.not_le.2 hT)]
   have hts:=jf c T;have b1:=(FK hQ hzc).mono (Xl hK2);have b2:=(FK hR hzc).mono (Xl hK2);clear hK2;simp (disch:=omega) only[wt,seval,hF];refine .inl ⟨aP (by kernel_rfl),?_⟩;refine ah (s1) (by rfl) (by simp) ?_;simp (disch:=omega) only[wt,seval,hF];refine ah (s2) (by rfl) (by simp) ?_;simp (disch:=omega) only[wt,seval,hF];refine⟨aX (by kernel_rfl),?_⟩;refine⟨⟨l,sf,_,_,by rw[<-hD,hstep],by omega,by omega,b1,b2,by omega,rfl,rfl,rfl,rfl⟩,by omega⟩
  .obtain rfl:lft=0:=by omega
   simp (disch:=omega) only[wt,seval,hF];rw[<-hD];exact⟨rfl,rfl⟩
def TK (p q:List RI)(hp:RP 40 (2^27) p)(hq:RP 40 (2^27) q)(h0:¬tz (pv q)=0):AC Tryz.prog 226 [cw p,cw q] none [cp (dq (pv p) (pv q)),cp (dr (pv p) (pv q)),ci (dxp (pv p) (pv q)),ci 0]:=by
 refine AC.aj (rs:=[.tmp 4,.tmp 5,.tmp 6,.tmp 7]) aV Tryz.func226 (by rfl) (by rfl) (by rfl) (by rfl) (by rfl) ?_;have hl:Sz (2^27) (canon (lc (pv q))):=(aY _).mono (hq.pv.cf _);have m:=a2Z p q (canon (lc (pv q))) hp hq hl h0 (by rw[aS];exact Int.dvd_refl _);rw[aS]at m;simp only[wt,seval];refine ah ((AU q (hq.mono (by omega) (by omega)))) (by rfl) (by simp) ?_;simp only[wt,seval,h0];refine ah ((a1q (hq.mono (by omega) (by omega)) rfl)) (by rfl) (by simp) ?_;simp only[wt,seval];refine ah (m) (by rfl) (by simp) ?_;simp (disch:=omega) only[wt,seval];exact⟨rfl,rfl,rfl⟩
def a1j (p q:List RI)(hp:RP 40 (2^27) p)(hq:RP 40 (2^27) q)(h0:¬tz (pv q)=0):AC Tryz.prog 236 [cw p,cw q] none [cp (dr (pv p) (pv q)),ci 0]:=by
 refine AC.aj (rs:=[.tmp 4,.tmp 5]) aV Tryz.func236 (by rfl) (by rfl) (by rfl) (by rfl) (by rfl) ?_;simp only[wt,seval];refine ah ((TK p q hp hq h0)) (by rfl) (by simp) ?_;simp (disch:=omega) only[wt,seval]
theorem GL (p q:List RI)(hp:RP 40 (2^27) p)(hq:RP 40 (2^27) q):AC Tryz.prog 162 [cw p,cw q] none [cb (dvb (pv q) (pv p))]:=by
 have d1:=mD p (hp.mono (by omega) (by omega));have d2:=mD q (hq.mono (by omega) (by omega));by_cases h0:tz (pv q)=0
 .rw[show dvb (pv q) (pv p)=decide (tz (pv p)=0) by unfold dvb;rw[zas h0]];have e:decide ((tz (pv p):Int)-1<0)=decide (tz (pv p)=0):=zbA.mpr (by omega);rw[h0]at d2;refine AC.aj (rs:=[.tmp 4]) aV Tryz.func162 (by rfl) (by rfl) (by rfl) (by rfl) (by rfl) ?_;simp only[wt,seval];refine ah (d2) (by rfl) (by simp) ?_;simp (disch:=omega) only[wt,seval];refine ah (d1) (by rfl) (by simp) ?_;simp (disch:=omega) only[wt,seval]
  try exact zbA.mpr (by omega)
 have h0':¬(tz (pv q):Int)-1<0:=by omega
 rw[show dvb (pv q) (pv p)=decide (tz (dr (pv p) (pv q))=0) by unfold dvb;rw[zam h0]];have rm:=a1j p q hp hq h0;have s:=(IQ h0 (mX hp) (mX hq)).2;have tp:=yF hp;have tq:=yF hq;have t:=zJ (A:=pv p) h0;have hdx:dxp (pv p) (pv q)<=41:=by unfold dxp;omega
 have hdm:dxp (pv p) (pv q)*(2^27+1)<=41*(2^27+1):=zag _ hdx;have d3:=PG (a:=cn (dr (pv p) (pv q))) (q:=dr (pv p) (pv q)) ((lQ (D:=40) (k:=2^35) (by omega) (s.mono (by omega))).mono (by omega) (by omega)) (fF _);refine AC.aj (rs:=[.tmp 4]) aV Tryz.func162 (by rfl) (by rfl) (by rfl) (by rfl) (by rfl) ?_;simp only[wt,seval];refine ah (d2) (by rfl) (by simp) ?_;simp (disch:=omega) only[wt,seval,h0'];refine ah (rm) (by rfl) (by simp) ?_;simp (disch:=omega) only[wt,seval];refine ah (d3) (by rfl) (by simp) ?_;simp (disch:=omega) only[wt,seval]
 try exact zbA.mpr (by omega)
def Yf {p q:List RI}{A B:List Int}(hp:RP 40 (2^27) p)(hq:RP 40 (2^27) q)(ea:ps (pv p)=ps A)(eb:ps (pv q)=ps B):AC Tryz.prog 162 [cw p,cw q] none [cb (dvb B A)]:=by
 have h:=GL p q hp hq;rwa [IG (A':=A) (B':=B) (.nM ea) (.nM eb)]at h
def Pv (p:List RI)(c:RI)(hp:RP (2^30) (2^35) p)(hc:Sz (2^35) c)(h0:iv c≠0)(hd:∀k,iv c∣cf (pv p) k):ACX Tryz.prog 195 [cw p,cr c] (EF (aO (qA (iv c) (pv p))) 0):=by
 refine ACX.aj zi0 (rs:=[.tmp 4,.tmp 5]) aV zfx (by rfl) (by rfl) (by rfl) (by rfl) (by rfl) (rE _ _) (λB=>?_);have hl:=hp.1;have hs0:(iv c).sign≠0:=λh=>h0 (zbT.mp h)
 simp (disch:=omega) only[wt,seval];refine ah ((uw c (hc.mono (by omega)))) (by rfl) (by simp) ?_;simp (disch:=omega) only[wt,seval];simp (disch:=omega) only[wt,seval,hs0];refine aI (λf H=>∃(i st st3:Nat) (out:List Int),i<=p.length/\out.length=p.length/\(∀k,zl (cf out k)<=2^36)/\(∀k,k<i->cf out k=cf (pv p) k/iv c)/\f 18=.iv (.int .i64 i)/\f 0=.iv (.sl (bZ p))/\f 3=.hp 3 st3 0 0/\f 6=.hs 15 st/\f 17=.iv (.int .i64 p.length)/\H 15=.blk false st 30 2 (bZ (out.map canon))/\H 3=.blk false st3 30 2 [jy c]/\H 999=.mrk B) (λf H=>(p.length-bC f 18).toNat) ?_ ?_
 .refine⟨0,1,1,List.replicate p.length 0,by omega,by simp,λk=>by rw[QD,iC];omega,λk hk=>by omega,?_⟩;simp only[wt,seval,wM]
 rintro f H ⟨i,st,st3,out,hi,hol,hz,hv,hF⟩;rw[aC hF.1];simp (disch:=omega) only[wt,seval,hF];refine bf (λhlt=>?_) (λhlt=>?_)
 .have hq:(out.map canon).length=p.length:=by rw[zae,hol]
  have hdi:=hd i;rw[qI]at hdi;have m:=zU (p.getD i (false,[])) c ((hp.get i).mono (by omega)) (hc.mono (by omega)) h0 hdi;rw[<-qI]at m;simp (disch:=omega) only[wt,seval,hF];refine .inl ⟨aP (by kernel_rfl),?_⟩;refine ah (m) (by rfl) (by simp) ?_;simp (disch:=omega) only[wt,seval,hF,hq];refine⟨aX (by kernel_rfl),?_⟩;refine⟨⟨i+1,st,st3,out.set i (cf (pv p) i/iv c),by omega,by simp[hol],λk=>?_,λk hk=>?_,by omega,rfl,rfl,rfl,rfl⟩,by omega⟩
  .rw[J5 (by omega)];split
   .have:=yH (hd i);have:=hp.pv.cf i;omega
   .exact hz k
  .rw[J5 (by omega)];split
   .rename_i e;rw[e]
   .exact hv k (by omega)
 .simp (disch:=omega) only[wt,seval,hF];have e:aO (qA (iv c) (pv p))=aO (pv (out.map canon)):=by
   refine ji λk=>?_;rw[fP,fU];by_cases hk:k<p.length
   .exact(hv k (by omega)).symm
   .rw[kX (q:=out) (by omega),kX (by rw[iT];omega)];simp
  rw[e];refine aJ ((Py (out.map canon) (RP.canon (.of (by omega) λk=>zad (hz k) (by omega))))) (by simp only[gV,qU,hF];rfl) (by simp) (by first|rfl|assumption|(simp only[wt,seval,hF];done)|((repeat (replace hF:=hF.2));exact hF)) ?_;rintro B' E _ hB hE ⟨b,bs,rfl,hlb,hn⟩;simp only[wt,seval,hF];refine aQ [.iv (gZ b bs _),ci 0] (by rfl) (by simp (disch:=omega) only[wt,seval];rfl) ?_;intro E hE;exact⟨b,bs,rfl,hlb,hn.mono (by omega) (by omega)⟩
def a1n (p:List RI)(c:RI)(hp:RP (2^30) (2^35) p)(hc:Sz (2^35) c)(h0:iv c≠0)(hb:¬∀k,iv c∣cf (pv p) k):AC Tryz.prog 195 [cw p,cr c] none [cw [],ci 4]:=by
 refine AC.aj (rs:=[.tmp 4,.tmp 5]) aV zfx (by rfl) (by rfl) (by rfl) (by rfl) (by rfl) ?_;have hl:=hp.1;have hs0:(iv c).sign≠0:=λh=>h0 (zbT.mp h)
 simp (disch:=omega) only[wt,seval];refine ah ((uw c (hc.mono (by omega)))) (by rfl) (by simp) ?_;simp (disch:=omega) only[wt,seval];simp (disch:=omega) only[wt,seval,hs0];refine aI (λf H=>∃(i st st3:Nat) (out:List RI),i<=p.length/\out.length=p.length/\(∀k,k<i->iv c∣cf (pv p) k)/\f 18=.iv (.int .i64 i)/\f 0=.iv (.sl (bZ p))/\f 3=.hp 3 st3 0 0/\f 6=.hs 15 st/\f 17=.iv (.int .i64 p.length)/\H 15=.blk false st 30 2 (bZ out)/\H 3=.blk false st3 30 2 [jy c]) (λf H=>(p.length-bC f 18).toNat) ?_ ?_
 .refine⟨0,1,1,List.replicate p.length (false,[]),by omega,by simp,λk hk=>by omega,?_⟩;simp only[wt,seval]
 rintro f H ⟨i,st,st3,out,hi,hol,hv,hF⟩;rw[aC hF.1];simp (disch:=omega) only[wt,seval,hF];refine bf (λhlt=>?_) (λhlt=>?_)
 .by_cases hdv:iv c∣cf (pv p) i
  .have hdi:=hdv;rw[qI]at hdi;have m:=zU (p.getD i (false,[])) c ((hp.get i).mono (by omega)) (hc.mono (by omega)) h0 hdi;simp (disch:=omega) only[wt,seval,hF];refine .inl ⟨aP (by kernel_rfl),?_⟩;refine ah (m) (by rfl) (by simp) ?_;simp (disch:=omega) only[wt,seval,hF];refine⟨aX (by kernel_rfl),?_⟩;refine⟨⟨i+1,st,st3,out.set i (canon (iv (p.getD i (false,[]))/iv c)),by omega,by simpa using hol,λk hk=>?_,by omega,rfl,rfl,rfl,rfl⟩,by omega⟩;rcases zbh k i with hk'|hk'
   .exact hv k hk'
   .obtain rfl:k=i:=by omega
    exact hdv
  .have hdi:=hdv;rw[qI]at hdi;have m:=Xw (p.getD i (false,[])) c ((hp.get i).mono (by omega)) (hc.mono (by omega)) h0 hdi;simp (disch:=omega) only[wt,seval,hF];refine .inl ⟨aP (by kernel_rfl),?_⟩;refine ah (m) (by rfl) (by simp) ?_;simp (disch:=omega) only[wt,seval];exact aX (by kernel_rfl)
 .refine(hb λk=>?_).elim;rcases zbh k p.length with hk|hk
  .exact hv k (by omega)
  .rw[kX (by rw[iT];omega)];exact zdT _
def a1m (p:List RI)(h:RP (2^30) (2^35) p):ACX Tryz.prog 104 [cw p] (EN (aO (xY (pv p)))):=by
 refine ACX.aj zi0 (rs:=[.tmp 2]) aV Tryz.func104 (by rfl) (by rfl) (by rfl) (by rfl) (by rfl) (oK _) (λB=>?_);have hg:=a2B h;have hsz:Sz (2^35) (canon (cont (pv p))):=(aY _).mono (by unfold zl;rw[jL];exact hg);simp only[wt,seval];refine ah ((TL p (h.mono (by omega) (by omega)))) (by rfl) (by simp) ?_;simp only[wt,seval];by_cases h0:cont (pv p)=0
 .have m:=TD p (canon (cont (pv p))) (h.mono (by omega) (by omega)) (hsz.mono (by omega)) (by rw[aS];exact h0);have e:aO (xY (pv p))=[]:=ZC (bn.mpr λk=>by unfold xY;rw[fU,h0,Int.ediv_zero]);rw[e];refine aJ (m) (by rfl) (by simp) (by rfl) ?_;rintro B' E _ hB hE ⟨b,bs,rfl,hl,hn⟩;simp (disch:=omega) only[wt,seval];refine aQ [.iv (gZ b bs _)] (by rfl) (by simp (disch:=omega) only[wt,seval];rfl) ?_;intro E hE;exact⟨b,bs,rfl,hl,hn.mono (by omega) (by omega)⟩
 .have m:=Pv p (canon (cont (pv p))) h hsz (by rw[aS];exact h0) (λk=>by rw[aS];exact FD _ k);rw[aS]at m;refine aJ (m) (by rfl) (by simp) (by rfl) ?_;rintro B' E _ hB hE ⟨b,bs,rfl,hl,hn⟩;simp (disch:=omega) only[wt,seval];refine aQ [.iv (gZ b bs _)] (by rfl) (by simp (disch:=omega) only[wt,seval];rfl) ?_;intro E hE;exact⟨b,bs,rfl,hl,hn.mono (by omega) (by omega)⟩
def pF {a:List RI}{q:List Int}(ha:RP (2^30) (2^35) a)(e:ps (pv a)=ps q):ACX Tryz.prog 104 [cw a] (EN (npr q)):=by
 have h:=a1m a ha;rwa [show aO (xY (pv a))=npr q from a8R e]at h
theorem a1h (p q:List RI)(D S:Nat)(hp:RP 40 S p)(hq:RP 40 S q)(tp:tz (pv p)<=D)(tq:tz (pv q)<=D)(hD:D<=40)(hE:EZ S D<=2^27)(h1:tz (pv p)≠0)(h2:tz (pv q)≠0) :
  ACX Tryz.prog 223 [cw p,cw q] (RPs (prl (tz (pv q)) (npr (pv p)) (npr (pv q))) 0):=by
 have hS:S<=2^27:=Nat.le_trans (EZ.mono S (i:=0) (by omega)) hE;have n1:=AU p (hp.mono (by omega) (by omega));have n2:=AU q (hq.mono (by omega) (by omega));rw[decide_eq_false h1]at n1;rw[decide_eq_false h2]at n2;have pp:=pF (a:=p) (hp.mono (by omega) (by omega)) rfl;have pq:=pF (a:=q) (hq.mono (by omega) (by omega)) rfl;have ei0:EI D S (npr (pv p)) (npr (pv q)):=EI.start tp tq (mX hp) (mX hq);have t0:=eH (pv p);have t0':=eH (pv q);have ht:=oh (pv q);generalize npr (pv p)=X0 at *;generalize npr (pv q)=Y0 at *;rw[<-ht];refine ACX.aj zi0 (rs:=[.tmp 4,.tmp 5]) aV Tryz.func223 (by rfl) (by rfl) (by rfl) (by rfl) (by rfl) (b6X _ _) (λB=>?_);simp only[wt,seval];refine ah (n1) (by rfl) (by simp) ?_;simp only[wt,seval];refine ah (n2) (by rfl) (by simp) ?_;simp (disch:=omega) only[wt,seval];refine aJ (pp) (by rfl) (by simp) (by rfl) ?_;rintro B1 E1 _ hB1 hE1 ⟨b1,c1,rfl,l1,w1⟩;simp (disch:=omega) only[wt,seval];refine aJ (pq) (by rfl) (by simp) (by rfl) ?_;rintro B2 E2 _ hB2 hE2 ⟨b2,c2,rfl,l2,w2⟩;simp only[wt,seval];refine aI (λf H=>∃(n st E:Nat) (L:List (List Int)) (X Y:List Int) (cs:List OP) (c d:OP),L++prl n X Y=prl (tz Y0) X0 Y0/\tz Y<=n/\aO X=X/\aO Y=Y/\EI D S X Y/\L.length+n<=40/\POk cs L/\c.2.length=X.length/\d.2.length=Y.length/\B<=E/\Nw B E ((cs.flatMap pid++pid c)++pid d)/\f 7=.iv (gZ d.1 d.2 Y)/\f 6=.hs 18 st/\H 18=.blk false st 50 1 (jH (cs++[c]) (L++[X]))/\H 999=.mrk E) (λf H=>match f 7 with | .iv (.own _ _ _ l)=>l.length|_=>0) ?_ ?_
 .refine⟨tz Y0,1,E2,[],X0,Y0,[],(b1,c1),(b2,c2),rfl,by omega,t0,t0',ei0,by simp only[List.length_nil];omega,⟨rfl,by simp⟩,l1,l2,by omega,(w1.append w2 (by omega) (by omega) (by omega)).mono (by omega) (by omega),?_⟩;simp only[wt,seval]
  try rfl
 rintro f H ⟨n,st,E,L,X,Y,cs,c,d,hL,hn,tX,tY,ei,hl,pk,lc,ld,hBE,hw,g7,g6,h6,hm⟩;have hmu:(match f 7 with | .iv (.own _ _ _ l)=>l.length|_=>0)=tz Y:=by rw[g7];simp only[];rw[mJ ld,<-tY,dw,tY]
 rw[hmu];obtain⟨sX,sY⟩:=ei.bd;have rX:=lQ ei.x sX;have rY:=lQ ei.y sY;have nn:=(AU (cn Y) (rY.mono (by omega) (by omega))).soft (.cons (jE (b:=d.1) ld tY) .nil);rw[tN tY]at nn;by_cases h0:tz Y=0
 .rw[decide_eq_true h0]at nn;have e:prl n X Y=[X]:=by
   cases n with
   |zero=>rfl
   |succ n=>rw[prl,if_pos h0]
  rw[e]at hL;simp (disch:=omega) only[wt,seval,g7];refine ah (nn) (by rfl) (by simp) ?_;simp (disch:=omega) only[wt,seval,g6];refine AY 4 18 _ 50 1 ((jH (cs++[c]) (L++[X]))) (by first|rfl|assumption|simp only[wt,seval,gW,fM]) (by first|rfl|assumption|simp only[wt,seval,gW,fM]) (by assumption) ?_;rintro o E3 hE3 ho;refine aQ [.iv (.own o 50 1 (jH (cs++[c]) (L++[X]))),ci 0] (by rfl) (by simp (disch:=omega) only[wt,seval]) ?_;intro E hE;have pk':=pk.snoc lc;refine⟨o,cs++[c],by rw[<-hL],by rw[<-hL];exact pk',?_⟩;have e2:(cs++[c]).flatMap pid=cs.flatMap pid++pid c:=by simp
  rw[e2];exact(b0Y ho ((uf pk').trans e2) ((Yi hw).mono (Nat.le_refl _) (by omega))).mono (Nat.le_refl _) hE
 .rw[decide_eq_false h0]at nn;obtain⟨m,rfl⟩:∃m,n=m+1:=⟨n-1,by omega⟩;have rm:=(a1j (cn X) (cn Y) (rX.mono (by omega) hE) (rY.mono (by omega) hE) (by rw[tN tY];exact h0)).soft (.cons (jE (b:=c.1) lc tX) (.cons (jE (b:=d.1) ld tY) .nil));rw[tN tX,tN tY]at rm;have ei':=ei.step h0;have dsz:=(IQ h0 sX sY).2;have hdx:dxp X Y<=41:=by unfold dxp;have:=ei.x;omega
  have hdm:dxp X Y*(EZ S D+1)<=41*(EZ S D+1):=Nat.mul_le_mul_right _ hdx;have dtz:=zJ (A:=X) h0;have hey:=ei.y;have pr:=pF (a:=cn (dr X Y)) (q:=dr X Y) ((lQ (D:=40) (k:=2^35) (by omega) (dsz.mono (by omega))).mono (by omega) (by omega)) (fF _);have pk':=pk.snoc lc;have hsn:jH (cs++[c]) (L++[X])++[[gZ d.1 d.2 Y]]=jH (cs++[c]++[d]) (L++[X]++[Y]):=(y7 pk'.1 d Y).symm;have hln:(jH (cs++[c]) (L++[X])).length=L.length+1:=by rw[qy pk'.1];simp
  have b9Z:(jH (cs++[c]++[d]) (L++[X]++[Y])).length=L.length+2:=by rw[qy (pk'.snoc ld).1];simp
  have hgt:(jH (cs++[c]++[d]) (L++[X]++[Y])).getD L.length []=[gZ c.1 c.2 X]:=a1p pk.1 c d X Y;have e2:((L.length+2:Nat):Int)-2=(L.length:Int):=by omega
  have htz:=oh (dr X Y);simp (disch:=omega) only[wt,seval,g7];refine ah (nn) (by rfl) (by simp) ?_;simp (disch:=omega) only[wt,seval,g7,g6,h6,hln,hsn,b9Z,e2,hgt];refine ah (rm) (by rfl) (by simp) ?_;simp (disch:=omega) only[wt,seval];refine aJ (pr) (by rfl) (by simp) (by assumption) ?_;rintro B3 E3 _ hB3 hE3 ⟨b3,c3,rfl,l3,w3⟩;simp (disch:=omega) only[wt,seval];have hfl:(oD c3 (npr (dr X Y))).length=tz (npr (dr X Y)):=by
   rw[mJ l3];exact(congrArg List.length (eH (dr X Y))).symm.trans (dw _)
  refine⟨⟨m,st+1,E3,L++[X],Y,npr (dr X Y),cs++[c],d,(b3,c3),?_,by omega,tY,eH _,ei',by simp only[List.length_append,List.length_singleton];omega,pk',ld,l3,by omega,?_,?_⟩,?_⟩
  .rw[<-hL,prl,if_neg h0];simp
  .rw[List.flatMap_append];simp only[List.flatMap_cons,List.flatMap_nil,List.append_nil];exact hw.append w3 (by omega) (by omega) (by omega)
  .try (repeat' apply And.intro)<;>first|rfl|omega
  .rw[hfl];omega
theorem VU (p q:List RI)(D S:Nat)(hp:RP 40 S p)(hq:RP 40 S q)(tp:tz (pv p)<=D)(tq:tz (pv q)<=D)(hD:D<=40)(hE:EZ S D<=2^27) :
  ACX Tryz.prog 145 [cw p,cw q] (EN (eU (pv p) (pv q))):=by
 have hS:S<=2^27:=Nat.le_trans (EZ.mono S (i:=0) (by omega)) hE;have d1:=mD p (hp.mono (by omega) (by omega));have d2:=mD q (hq.mono (by omega) (by omega));by_cases h1:tz (pv p)=0
 .have pr:=pF (a:=q) (q:=pv q) (hq.mono (by omega) (by omega)) rfl;have e:npr (pv q)=eU (pv p) (pv q):=by rw[<-eH,<-jI (pv p)];exact ji (oW (b1K h1))
  rw[e]at pr;rw[h1]at d1;refine ACX.aj zi0 (rs:=[.tmp 4]) aV Tryz.func145 (by rfl) (by rfl) (by rfl) (by rfl) (by rfl) (oK _) (λB=>?_);simp only[wt,seval];refine ah (d1) (by rfl) (by simp) ?_;simp (disch:=omega) only[wt,seval];refine aJ (pr) (by rfl) (by simp) (by rfl) ?_;rintro B' E _ hB hE2 ⟨b,bs,rfl,hl,hn⟩;simp only[wt,seval];refine aQ [.iv (gZ b bs _)] (by rfl) (by simp (disch:=omega) only[wt,seval];rfl) ?_;intro E hE;exact⟨b,bs,rfl,hl,hn.mono (by omega) (by omega)⟩
 have h1':¬(tz (pv p):Int)-1<0:=by omega
 by_cases h2:tz (pv q)=0
 .have pr:=pF (a:=p) (q:=pv p) (hp.mono (by omega) (by omega)) rfl;have e:npr (pv p)=eU (pv p) (pv q):=by rw[<-eH,<-jI (pv p)];exact ji (oW (a2E h2))
  rw[e]at pr;rw[h2]at d2;refine ACX.aj zi0 (rs:=[.tmp 4]) aV Tryz.func145 (by rfl) (by rfl) (by rfl) (by rfl) (by rfl) (oK _) (λB=>?_);simp only[wt,seval];refine ah (d1) (by rfl) (by simp) ?_;simp (disch:=omega) only[wt,seval,h1'];refine ah (d2) (by rfl) (by simp) ?_;simp (disch:=omega) only[wt,seval];refine aJ (pr) (by rfl) (by simp) (by rfl) ?_;rintro B' E _ hB hE2 ⟨b,bs,rfl,hl,hn⟩;simp only[wt,seval];refine aQ [.iv (gZ b bs _)] (by rfl) (by simp (disch:=omega) only[wt,seval];rfl) ?_;intro E hE;exact⟨b,bs,rfl,hl,hn.mono (by omega) (by omega)⟩
 have h2':¬(tz (pv q):Int)-1<0:=by omega
 have pl:=a1h p q D S hp hq tp tq hD hE h1 h2;obtain⟨L,hL⟩:=VO (tz (pv q)) (npr (pv p)) (npr (pv q));have hll:=a1g (tz (pv q)) (npr (pv p)) (npr (pv q));rw[hL]at pl hll;rw[show eu (tz (pv q)) (npr (pv p)) (npr (pv q))=eU (pv p) (pv q) from rfl]at pl;simp only[List.length_append,List.length_singleton]at hll;have e2:((L.length+1:Nat):Int)-1=(L.length:Int):=by omega
 refine ACX.aj zi0 (rs:=[.tmp 4]) aV Tryz.func145 (by rfl) (by rfl) (by rfl) (by rfl) (by rfl) (oK _) (λB=>?_);simp only[wt,seval];refine ah (d1) (by rfl) (by simp) ?_;simp (disch:=omega) only[wt,seval,h1'];refine ah (d2) (by rfl) (by simp) ?_;simp (disch:=omega) only[wt,seval,h2'];refine aJ (pl) (by rfl) (by simp) (by rfl) ?_;rintro B' E _ hB hE2 ⟨o,cs,rfl,pk,hn⟩;simp (disch:=omega) only[wt,seval];obtain⟨cs,c,rfl⟩:∃cs' c,cs=cs'++[c]:=by
  have:=pk.1;rcases List.eq_nil_or_concat cs with rfl|⟨cs',c,rfl⟩
  .simp at this
  .exact⟨cs',c,by simp⟩
 have pl0:cs.length=L.length:=by have:=pk.1;simp at this;exact this
 have hlc:c.2.length=(eU (pv p) (pv q)).length:=pk.2 L.length c _ (by rw[<-pl0];simp) (by simp);have hln:(jH (cs++[c]) (L++[eU (pv p) (pv q)])).length=L.length+1:=by rw[qy pk.1];simp
 have hgt:=Ye pl0 c (eU (pv p) (pv q));simp (disch:=omega) only[wt,seval,hln,e2,hgt];refine aQ [.iv (gZ c.1 c.2 (eU (pv p) (pv q)))] (by rfl) (by simp (disch:=omega) only[wt,seval]) ?_;intro E hE;refine⟨c.1,c.2,rfl,hlc,?_⟩;rw[List.flatMap_append]at hn;have:=a1B (a1B hn);simp only[List.flatMap_cons,List.flatMap_nil,List.append_nil,pid]at this;exact this.mono (by omega) (by omega)
def b1G (a b:List Nat)(ha:Nt (2^38) a)(hb:Nt (2^38) b)(h0:nv b≠0):AC Tryz.prog 254 [cl a,cl b] none [cl (wd (nv a/nv b))]:=by
 have m:=a0N a b ha.2 hb.2 ha.1 hb.1 h0;refine AC.aj (rs:=[.tmp 4]) aV Tryz.func254 (by rfl) (by rfl) (by rfl) (by rfl) (by rfl) ?_;simp only[wt,seval];refine ah (m) (by rfl) (by simp) ?_;simp (disch:=omega) only[wt,seval]
theorem b1I (a b:List Nat)(ha:Nt (2^35) a)(hb:Nt (2^35) b)(h0:nv a≠0)(h1:nv b≠0):AC Tryz.prog 187 [cl a,cl b] none [cl (wd (Nat.lcm (nv a) (nv b)))]:=by
 have z1:=WO a ⟨zad ha.1 (by omega),ha.2⟩;have z2:=WO b ⟨zad hb.1 (by omega),hb.2⟩;rw[zaW h0]at z1;rw[zaW h1]at z2;have g:=a2G a b ha.2 hb.2 (zad ha.1 (by omega)) (zad hb.1 (by omega));have hgp:Nat.gcd (nv a) (nv b)≠0:=Nat.ne_of_gt (zdc _ (by omega));have hgl:(wd (Nat.gcd (nv a) (nv b))).length<=2^38:=zad (bF (zdx _ (by omega))) (zad (iP hb.2) (zad hb.1 (by omega)));have q:=b1G a (wd (Nat.gcd (nv a) (nv b))) ⟨zad ha.1 (by omega),ha.2⟩ ⟨hgl,bg _⟩ (by rw[bJ];exact hgp);rw[bJ]at q;have m:=MV (wd (nv a/Nat.gcd (nv a) (nv b))) b (bg _) hb.2 (zad (bF (zbO _ _)) (zad (iP ha.2) (zad ha.1 (by omega)))) (zad hb.1 (by omega));rw[bJ,b1s]at m;refine AC.aj (rs:=[.tmp 4]) aV Tryz.func187 (by rfl) (by rfl) (by rfl) (by rfl) (by rfl) ?_;simp only[wt,seval];refine ah (z1) (by rfl) (by simp) ?_;simp only[wt,seval];refine ah (z2) (by rfl) (by simp) ?_;simp (disch:=omega) only[wt,seval];refine ah (g) (by rfl) (by simp) ?_;simp only[wt,seval];refine ah (q) (by rfl) (by simp) ?_;simp only[wt,seval];refine ah (m) (by rfl) (by simp) ?_;simp (disch:=omega) only[wt,seval]
def Yr (l:List Nat)(K:Nat)(hM:∀i,(wd (Cm (l.take i))).length<=K)(hl:l.length<=2^30)(h0:∀x∈l,x≠0)(hK:∀x∈l,(wd x).length<=K)(hB:K<=2^34):AC Tryz.prog 98 [.iv (.sl (zF (l.map wd)))] none [cl (wd (Cm l))]:=by
 have o:=PL 1 (by decide);have hml:(l.map wd).length=l.length:=zae _;have e0:wd (Cm (l.take 0))=wd 1:=by rw[zaj];rfl
 refine AC.aj (rs:=[.tmp 2]) aV Tryz.func98 (by rfl) (by rfl) (by rfl) (by rfl) (by rfl) ?_;simp only[wt,seval];refine ah (o) (by rfl) (by simp) ?_;simp (disch:=omega) only[wt,seval,oq];refine aI (λf H=>∃(i:Nat),i<=l.length/\f 9=.iv (.int .i64 i)/\f 7=.iv (.sl (zF (l.map wd)))/\f 8=.iv (.int .i64 l.length)/\f 3=.iv (.sl (dh (wd (Cm (l.take i)))))) (λf H=>(l.length-bC f 9).toNat) ?_ ?_
 .refine⟨0,by omega,?_⟩;simp only[wt,seval,e0,hml]
 rintro f H ⟨i,hi,hF⟩;rw[aC hF.1];simp (disch:=omega) only[wt,seval,hF];refine bf (λhlt=>?_) (λhlt=>?_)
 .have hlt':i<l.length:=by omega
  obtain⟨a1,a2,a3⟩:=lI l K h0 hK i hi;have hm:l.getD i 0∈l:=by rw[List.getD,zaf hlt',zaE];exact zaY _
  have hg:(l.map wd).getD i []=wd (l.getD i 0):=by simp[List.getD,hlt']
  have hk:=hK _ hm;have h2:=hM i;have m:=b1I (wd (Cm (l.take i))) (wd (l.getD i 0)) ⟨by omega,bg _⟩ ⟨by omega,bg _⟩ (by rw[bJ];exact a1) (by rw[bJ];exact h0 _ hm);rw[bJ,bJ,<-xu hlt']at m;simp (disch:=omega) only[wt,seval,oq,MS,hF,hml,hg];refine ah (m) (by rfl) (by simp) ?_;simp (disch:=omega) only[wt,seval,hF];refine⟨⟨i+1,by omega,?_⟩,by omega⟩
  (repeat' apply zaa)<;>first|rfl|omega
 .simp (disch:=omega) only[wt,seval,hF];rw[zac (by omega)]
theorem MO {p q:List RI}{A B:List Int}(D S:Nat)(hp:RP 40 S p)(hq:RP 40 S q)(ea:ps (pv p)=ps A)(eb:ps (pv q)=ps B)(tp:tz A<=D)(tq:tz B<=D)(hD:D<=40)(hE:EZ S D<=2^27) :
  ACX Tryz.prog 145 [cw p,cw q] (EN (eU A B)):=by
 have h:=VU p q D S hp hq (by rw[gQ ea];exact tp) (by rw[gQ eb];exact tq) hD hE;rwa [Lu (jI _ _) (jI _ _) (Ud (A':=A) (B':=B) (.nM ea) (.nM eb))]at h
def Pq (p q:List RI)(hp:RP 40 (2^27) p)(hq:RP 40 (2^27) q)(h0:tz (pv q)≠0):ACX Tryz.prog 225 [cw p,cw q] (EN (quo (pv p) (pv q))):=by
 have dv:=TK p q hp hq h0;have s:=(IQ h0 (mX hp) (mX hq)).1;have tp:=yF hp;have t:=b1W (A:=pv p) h0;have hdx:dxp (pv p) (pv q)<=41:=by unfold dxp;omega
 have hdm:dxp (pv p) (pv q)*(2^27+1)<=41*(2^27+1):=zag _ hdx;have pr:=pF (a:=cn (dq (pv p) (pv q))) (q:=dq (pv p) (pv q)) ((lQ (D:=41) (k:=2^35) (by omega) (s.mono (by omega))).mono (by omega) (by omega)) (fF _);refine ACX.aj zi0 (rs:=[.tmp 4]) aV Tryz.func225 (by rfl) (by rfl) (by rfl) (by rfl) (by rfl) (oK _) (λB=>?_);simp only[wt,seval];refine ah (dv) (by rfl) (by simp) ?_;simp (disch:=omega) only[wt,seval];refine aJ (pr) (by rfl) (by simp) (by rfl) ?_;rintro B' E _ hB hE2 ⟨b,bs,rfl,hl,hn⟩;simp only[wt,seval];refine aQ [.iv (gZ b bs (quo (pv p) (pv q)))] (by rfl) (by simp (disch:=omega) only[wt,seval];rfl) ?_;intro E hE;exact⟨b,bs,rfl,hl,hn.mono (by omega) (by omega)⟩
def MK {p q:List RI}{A B:List Int}(hp:RP 40 (2^27) p)(hq:RP 40 (2^27) q)(ea:ps (pv p)=ps A)(eb:ps (pv q)=ps B)(h0:tz B≠0)(hd:Dv B A):ACX Tryz.prog 225 [cw p,cw q] (EN (quo A B)):=by
 have h:=Pq p q hp hq (by rw[gQ eb];exact h0);rwa [Lu (jU _ _) (jU _ _) (Gx (A':=A) (B':=B) (by rw[gQ eb];exact h0) (hd.as (.nM eb) (.nM ea.symm)) ea eb)]at h
def PD (p:List RI){G:List Int}(hp:RP 9 2 p)(sG:SBd 92 G)(tG:tz G<=9)(hG:tz G≠0)(hd:Dv G (pv p)):ACX Tryz.prog 234 [cw p,cp G] (EN (uU (pv p) G)):=by
 have d1:=mD p (hp.mono (by omega) (by omega));by_cases h1:tz (pv p)=0
 .rw[uU,zas h1];rw[h1]at d1;refine ACX.aj zi0 (rs:=[.tmp 4]) aV Tryz.func234 (by rfl) (by rfl) (by rfl) (by rfl) (by rfl) (oK _) (λB=>?_);simp only[wt,seval];refine ah (d1) (by rfl) (by simp) ?_;simp (disch:=omega) only[wt,seval];refine dO 4 30 2 (by rfl) ?_;refine aQ [.iv (gZ none [] [])] (by rfl) (by simp (disch:=omega) only[wt,seval];rfl) ?_;intro E hE;exact⟨none,[],rfl,rfl,.nil _ _⟩
 have h1':¬((tz (pv p):Nat):Int)-1<0:=by omega
 rw[uU,zam h1];have qo:=MK (p:=p) (q:=cn G) (A:=pv p) (B:=G) (hp.mono (by omega) (by omega)) ((O8 sG tG).mono (zab _) (by omega)) rfl (fF _) hG hd;refine ACX.aj zi0 (rs:=[.tmp 4]) aV Tryz.func234 (by rfl) (by rfl) (by rfl) (by rfl) (by rfl) (oK _) (λB=>?_);simp only[wt,seval];refine ah (d1) (by rfl) (by simp) ?_;simp (disch:=omega) only[wt,seval,h1'];refine aJ (qo) (by rfl) (by simp) (by rfl) ?_;rintro B' E _ hB hE2 ⟨b,bs,rfl,hl,hn⟩;simp only[wt,seval];refine aQ [.iv (gZ b bs (quo (pv p) G))] (by rfl) (by simp (disch:=omega) only[wt,seval]) ?_;intro E hE;exact⟨b,bs,rfl,hl,hn.mono (by omega) (by omega)⟩
def Yd (p q:List RI)(hp:RP 9 2 p)(hq:RP 9 2 q):ACX Tryz.prog 154 [cw p,cw q] (if tz (eU (pv p) (pv q))=0 then Xr [] [] [] 1 else Xr (eU (pv p) (pv q)) (uU (pv p) (eU (pv p) (pv q))) (uU (pv q) (eU (pv p) (pv q))) 0):=by
 obtain⟨tP,sP⟩:=dF hp;obtain⟨tQ,sQ⟩:=dF hq;have g:=MO 9 2 (hp.mono (show 9<=40 by omega) (zab 2)) (hq.mono (show 9<=40 by omega) (zab 2)) rfl rfl tP tQ (by omega) ez2;have gg:=mG (pv p) (pv q);have gt:=jI (pv p) (pv q);obtain⟨g1,g2⟩:=Ip tP sP tQ sQ;have d:=PG (a:=cn (eU (pv p) (pv q))) (q:=eU (pv p) (pv q)) ((O8 g1 g2).mono (by omega) (by omega)) (fF _);by_cases h0:tz (eU (pv p) (pv q))=0
 .rw[zas h0];rw[h0]at d;refine ACX.aj zi0 (rs:=[.tmp 4,.tmp 5,.tmp 6,.tmp 7]) aV Tryz.func154 (by rfl) (by rfl) (by rfl) (by rfl) (by rfl) (Wj _ _ _ _) (λB=>?_);simp only[wt,seval];refine aJ (g) (by rfl) (by simp) (by rfl) ?_;rintro B' E _ hB hE2 ⟨b,bs,rfl,hl,hn⟩;simp only[wt,seval];have dd:=d.soft (.cons (jE (b:=b) hl gt) .nil);refine ah (dd) (by rfl) (by simp) ?_;simp (disch:=omega) only[wt,seval];refine dO 4 30 2 (by rfl) ?_;refine dO 5 30 2 (by rfl) ?_;refine dO 6 30 2 (by rfl) ?_;refine aQ [.iv (gZ none [] []),.iv (gZ none [] []),.iv (gZ none [] []),ci 1] (by rfl) (by simp (disch:=omega) only[wt,seval];repeat' (first|rfl|apply zaa)) ?_;intro E hE;exact⟨(none,[]),(none,[]),(none,[]),rfl,rfl,rfl,rfl,.nil _ _⟩
 have h0':¬((tz (eU (pv p) (pv q)):Nat):Int)-1<0:=by omega
 rw[zam h0];have l1:=PD p hp g1 g2 h0 gg.a;have l2:=PD q hq g1 g2 h0 gg.b;refine ACX.aj zi0 (rs:=[.tmp 4,.tmp 5,.tmp 6,.tmp 7]) aV Tryz.func154 (by rfl) (by rfl) (by rfl) (by rfl) (by rfl) (Wj _ _ _ _) (λB=>?_);simp only[wt,seval];refine aJ (g) (by rfl) (by simp) (by rfl) ?_;rintro B1 E1 _ hB1 hE1 ⟨b1,c1,rfl,m1,w1⟩;simp only[wt,seval];have dd:=d.soft (.cons (jE (b:=b1) m1 gt) .nil);have ll1:=l1.soft (.cons (.refl _) (.cons (jE (b:=b1) m1 gt) .nil));have ll2:=l2.soft (.cons (.refl _) (.cons (jE (b:=b1) m1 gt) .nil));refine ah (dd) (by rfl) (by simp) ?_;simp (disch:=omega) only[wt,seval,h0'];refine aJ (ll1) (by rfl) (by simp) (by rfl) ?_;rintro B2 E2 _ hB2 hE2 ⟨b2,c2,rfl,m2,w2⟩;simp only[wt,seval];refine aJ (ll2) (by rfl) (by simp) (by rfl) ?_;rintro B3 E3 _ hB3 hE3 ⟨b3,c3,rfl,m3,w3⟩;simp only[wt,seval];refine aQ [.iv (gZ b1 c1 (eU (pv p) (pv q))),.iv (gZ b2 c2 (uU (pv p) (eU (pv p) (pv q)))),.iv (gZ b3 c3 (uU (pv q) (eU (pv p) (pv q)))),ci 0] (by rfl) (by simp (disch:=omega) only[wt,seval];repeat' (first|rfl|apply zaa)) ?_;intro E hE;exact⟨(b1,c1),(b2,c2),(b3,c3),rfl,m1,m2,m3,(w1.append (w2.append w3 (by omega) (by omega) (by omega)) (by omega) (by omega) (by omega)).mono (by omega) (by omega)⟩
def a6f (l:List (List RI))(hl:l.length<=2^40)(h:∀p∈l,RP 9 2 p):ACX Tryz.prog 158 [.iv (.sl (gI l))] (EN (alf l)):=by
 refine ACX.aj zi0 (rs:=[.tmp 2]) aV Tryz.func158 (by rfl) (by rfl) (by rfl) (by rfl) (by rfl) (oK _) (λB=>?_);simp (disch:=omega) only[wt,seval];refine rZ (.b7Z 3 30 2 (by simp only[wt,seval]) (.refl _ _)) (λf H=>∃(i E:Nat) (b:OB) (bs:List OB),i<=l.length/\bs.length=(alf (l.take i)).length/\B<=E/\Nw B E (oid b++ids bs)/\f 8=.iv (.int .i64 i)/\f 7=.iv (.int .i64 l.length)/\f 6=.iv (.sl (gI l))/\f 3=.iv (gZ b bs (alf (l.take i)))/\H 999=.mrk E) (λf H=>(l.length-bC f 8).toNat) ?_ ?_
 .refine⟨0,B,none,[],by omega,rfl,by omega,.nil _ _,?_⟩;simp only[wt,seval,zaj]
  try (repeat' apply zaa)<;>first|rfl|omega
 rintro f H ⟨i,E,b,bs,hi,hb,hBE,hw,g8,g7,g6,g3,hm⟩;rw[aC g8];simp (disch:=omega) only[wt,seval,g8,g7];by_cases hlt':i<l.length
 .have hlt:(i:Int)<(l.length:Int):=by omega
  have hg:=uO hlt';have hp:RP 9 2 (l.getD i []):=by
   rw[List.getD,zaf (by omega),zaE];exact h _ (zaY (by omega))
  obtain⟨s1,s2⟩:=BM h i hi;have g:=(MO (p:=cn (alf (l.take i))) (q:=l.getD i []) (A:=alf (l.take i)) (B:=pv (l.getD i [])) 9 92 (O8 s1 s2) (hp.mono (by omega) (by omega)) (fF _) rfl s2 (dF hp).1 (by omega) b6b).soft (.cons (jE (b:=b) hb (Xp l i hi)) (.cons (.refl _) .nil));rw[<-FN hlt']at g;simp (disch:=omega) only[wt,seval,g8,g6,g3,hlt,hg];refine aJ (g) (by rfl) (by simp) (by assumption) ?_;rintro B' E' _ hB hE2 ⟨b2,bs2,rfl,hl2,hn2⟩;simp (disch:=omega) only[wt,seval,g8,g7,g6];refine⟨⟨i+1,E',b2,bs2,by omega,hl2,by omega,hn2.mono (by omega) (by omega),?_⟩,by omega⟩
  try (repeat' apply zaa)<;>first|rfl|omega
 .have hlt:¬(i:Int)<(l.length:Int):=by omega
  rw[zac (by omega)]at g3 hb;simp (disch:=omega) only[wt,seval,g3,hlt];refine aQ [.iv (gZ b bs (alf l))] (by assumption) (by simp (disch:=omega) only[wt,seval]) ?_;intro E hE;exact⟨b,bs,rfl,hb,hw.mono (by omega) (by omega)⟩
def Pj (p q:List RI)(hp:RP 9 2 p)(hq:RP 9 2 q):ACX Tryz.prog 155 [cw p,cw q] (if tz (pv p)=0\/tz (pv q)=0 then EF [] 1 else EF (wof (pv q) 10 (npr (pv p))) 0):=by
 have d1:=mD p (hp.mono (by omega) (by omega));have d2:=mD q (hq.mono (by omega) (by omega));obtain⟨tP,sP⟩:=dF hp;obtain⟨tQ,sQ⟩:=dF hq;by_cases h1:tz (pv p)=0
 .rw[zas (.inl h1)];rw[h1]at d1;refine ACX.aj zi0 (rs:=[.tmp 4,.tmp 5]) aV Tryz.func155 (by rfl) (by rfl) (by rfl) (by rfl) (by rfl) (rE _ _) (λB=>?_);simp only[wt,seval];refine ah (d1) (by rfl) (by simp) ?_;simp (disch:=omega) only[wt,seval];refine dO 4 30 2 (by rfl) ?_;refine aQ [.iv (gZ none [] []),ci 1] (by rfl) (by simp (disch:=omega) only[wt,seval];rfl) ?_;intro E hE;exact⟨none,[],rfl,rfl,.nil _ _⟩
 have h1':¬((tz (pv p):Nat):Int)-1<0:=by omega
 by_cases h2:tz (pv q)=0
 .rw[zas (.inr h2)];rw[h2]at d2;refine ACX.aj zi0 (rs:=[.tmp 4,.tmp 5]) aV Tryz.func155 (by rfl) (by rfl) (by rfl) (by rfl) (by rfl) (rE _ _) (λB=>?_);simp only[wt,seval];refine ah (d1) (by rfl) (by simp) ?_;simp (disch:=omega) only[wt,seval,h1'];refine ah (d2) (by rfl) (by simp) ?_;simp (disch:=omega) only[wt,seval];refine dO 4 30 2 (by rfl) ?_;refine aQ [.iv (gZ none [] []),ci 1] (by rfl) (by simp (disch:=omega) only[wt,seval];rfl) ?_;intro E hE;exact⟨none,[],rfl,rfl,.nil _ _⟩
 have h2':¬((tz (pv q):Nat):Int)-1<0:=by omega
 rw[zam (by omega)];have pr:=pF (a:=p) (q:=pv p) (hp.mono (by omega) (by omega)) rfl;have t0:=eH (pv p);have f0:=lG (pv p);have z0:=oh (pv p);have v0:Dv (npr (pv p)) (pv p):=(kD (pv p)).symm.dv;generalize npr (pv p)=A0 at *;refine ACX.aj zi0 (rs:=[.tmp 4,.tmp 5]) aV Tryz.func155 (by rfl) (by rfl) (by rfl) (by rfl) (by rfl) (rE _ _) (λB=>?_);simp only[wt,seval];refine ah (d1) (by rfl) (by simp) ?_;simp (disch:=omega) only[wt,seval,h1'];refine ah (d2) (by rfl) (by simp) ?_;simp (disch:=omega) only[wt,seval,h2'];refine aJ (pr) (by rfl) (by simp) (by rfl) ?_;rintro B1 E1 _ hB1 hE1 ⟨b1,c1,rfl,l1,w1⟩;simp only[wt,seval];refine aI (λf H=>∃(k E:Nat) (A:List Int) (b:OB) (bs:List OB),wof (pv q) k A=wof (pv q) 10 A0/\tz A+1<=k/\aO A=A/\Nf A/\Dv A (pv p)/\tz A≠0/\bs.length=A.length/\B<=E/\Nw B E (oid b++ids bs)/\f 1=.iv (.sl (bZ q))/\f 6=.iv (gZ b bs A)/\H 999=.mrk E) (λf H=>match f 6 with | .iv (.own _ _ _ l)=>l.length|_=>0) ?_ ?_
 .refine⟨10,E1,A0,b1,c1,rfl,by omega,t0,f0,v0,by omega,l1,by omega,w1.mono (by omega) (by omega),?_⟩;simp only[wt,seval]
  try rfl
 rintro f H ⟨k,E,A,b,bs,er,tk,tA,nA,vA,hA0,hb,hBE,hw,g1',g6,hm⟩;have hmu:(match f 6 with | .iv (.own _ _ _ l)=>l.length|_=>0)=tz A:=by rw[g6];simp only[];rw[mJ hb,<-tA,dw,tA]
 rw[hmu];obtain⟨a1,a2,_⟩:=iE h1 tP sP nA vA;have rA:=O8 a1 a2;have rQ:=hq.mono (show 9<=40 by omega) (show 2<=92 by omega);have g:=(MO 9 92 rA rQ (fF _) rfl a2 tQ (by omega) b6b).soft (.cons (jE (b:=b) hb tA) (.cons (.refl _) .nil));have gg:=mG A (pv q);have gt:=jI A (pv q);obtain⟨g1,g2,g3⟩:=iE h1 tP sP (rV A (pv q)) (gg.a.trans vA);have dg:=PG (a:=cn (eU A (pv q))) (q:=eU A (pv q)) ((O8 g1 g2).mono (by omega) (by omega)) (fF _);obtain⟨k',rfl⟩:∃k',k=k'+1:=⟨k-1,by omega⟩;rw[wof]at er;by_cases hd:tz (eU A (pv q))=1
 .rw[zas hd]at er;rw[<-er];rw[hd]at dg;simp (disch:=omega) only[wt,seval,g1',g6];refine aJ (g) (by rfl) (by simp) (by assumption) ?_;rintro B2 E2 _ hB2 hE2 ⟨b2,c2,rfl,l2,w2⟩;simp (disch:=omega) only[wt,seval];have dg2:=dg.soft (.cons (jE (b:=b2) l2 gt) .nil);refine ah (dg2) (by rfl) (by simp) ?_;simp (disch:=omega) only[wt,seval,g6];refine aQ [.iv (gZ b bs A),ci 0] (by rfl) (by simp (disch:=omega) only[wt,seval]) ?_;intro E hE;exact⟨b,bs,rfl,hb,hw.mono (by omega) (by omega)⟩
 .rw[zam hd]at er;have hd':¬((tz (eU A (pv q)):Nat):Int)-1=0:=by omega
  have qo:=MK (p:=cn A) (q:=cn (eU A (pv q))) (A:=A) (B:=eU A (pv q)) (rA.mono (zab _) (by omega)) ((O8 g1 g2).mono (zab _) (by omega)) (fF _) (fF _) g3 gg.a;obtain⟨qt,qn⟩:=VD g3 hA0 gg.a;simp (disch:=omega) only[wt,seval,g1',g6];refine aJ (g) (by rfl) (by simp) (by assumption) ?_;rintro B2 E2 _ hB2 hE2 ⟨b2,c2,rfl,l2,w2⟩;simp (disch:=omega) only[wt,seval];have dg2:=dg.soft (.cons (jE (b:=b2) l2 gt) .nil);have qo2:=qo.soft (.cons (jE (b:=b) hb tA) (.cons (jE (b:=b2) l2 gt) .nil));refine ah (dg2) (by rfl) (by simp) ?_;simp (disch:=omega) only[wt,seval,g6,hd'];refine aJ (qo2) (by rfl) (by simp) (by rfl) ?_;rintro B3 E3 _ hB3 hE3 ⟨b3,c3,rfl,l3,w3⟩;simp (disch:=omega) only[wt,seval,g1'];have hfl:(oD c3 (quo A (eU A (pv q)))).length=tz (quo A (eU A (pv q))):=by
   rw[mJ l3];exact(zaO List.length (jU A _)).symm.trans (dw _)
  refine⟨⟨k',E3,quo A (eU A (pv q)),b3,c3,er,by omega,jU _ _,oM _ _,(yL g3 gg.a).trans vA,qn,l3,by omega,w3.mono (by omega) (by omega),?_⟩,by rw[hfl];omega⟩
  try (repeat' apply zaa)<;>first|rfl|omega
def JZ (p q:List RI)(hp:RP 9 2 p)(hq:RP 9 2 q):ACX Tryz.prog 147 [cw p,cw q] (if tz (pv p)=0 then b5r 0 [] 1 else if tz (pv q)<=1 then b5r 0 [] 3 else b5r (tmn (pv q) 9 (npr (pv p))) (tmr (pv q) 9 (npr (pv p))) 0):=by
 have d1:=mD p (hp.mono (by omega) (by omega));have d2:=mD q (hq.mono (by omega) (by omega));obtain⟨tP,sP⟩:=dF hp;obtain⟨tQ,sQ⟩:=dF hq;by_cases h1:tz (pv p)=0
 .rw[zas h1];rw[h1]at d1;refine ACX.aj zi0 (rs:=[.tmp 4,.tmp 5,.tmp 6]) aV ze2 (by rfl) (by rfl) (by rfl) (by rfl) (by rfl) (a1K _ _ _) (λB=>?_);simp only[wt,seval];refine ah (d1) (by rfl) (by simp) ?_;simp (disch:=omega) only[wt,seval];refine dO 5 30 2 (by rfl) ?_;refine aQ [ci 0,.iv (gZ none [] []),ci 1] (by rfl) (by simp (disch:=omega) only[wt,seval];repeat' (first|rfl|apply zaa)) ?_;intro E hE;exact⟨none,[],rfl,rfl,.nil _ _⟩
 have h1':¬((tz (pv p):Nat):Int)-1<0:=by omega
 rw[zam h1];by_cases h2:tz (pv q)<=1
 .have h2':((tz (pv q):Nat):Int)-1<1:=by omega
  rw[zas h2];refine ACX.aj zi0 (rs:=[.tmp 4,.tmp 5,.tmp 6]) aV ze2 (by rfl) (by rfl) (by rfl) (by rfl) (by rfl) (a1K _ _ _) (λB=>?_);simp only[wt,seval];refine ah (d1) (by rfl) (by simp) ?_;simp (disch:=omega) only[wt,seval,h1'];refine ah (d2) (by rfl) (by simp) ?_;simp (disch:=omega) only[wt,seval,h2'];refine dO 5 30 2 (by rfl) ?_;refine aQ [ci 0,.iv (gZ none [] []),ci 3] (by rfl) (by simp (disch:=omega) only[wt,seval];repeat' (first|rfl|apply zaa)) ?_;intro E hE;exact⟨none,[],rfl,rfl,.nil _ _⟩
 have h2':¬((tz (pv q):Nat):Int)-1<1:=by omega
 rw[zam h2];have pr:=pF (a:=p) (q:=pv p) (hp.mono (by omega) (by omega)) rfl;have t0:=eH (pv p);have f0:=lG (pv p);have z0:=oh (pv p);have v0:Dv (npr (pv p)) (pv p):=(kD (pv p)).symm.dv;generalize npr (pv p)=A0 at *;refine ACX.aj zi0 (rs:=[.tmp 4,.tmp 5,.tmp 6]) aV ze2 (by rfl) (by rfl) (by rfl) (by rfl) (by rfl) (a1K _ _ _) (λB=>?_);simp only[wt,seval];refine ah (d1) (by rfl) (by simp) ?_;simp (disch:=omega) only[wt,seval,h1'];refine ah (d2) (by rfl) (by simp) ?_;simp (disch:=omega) only[wt,seval,h2'];refine aJ (pr) (by rfl) (by simp) (by rfl) ?_;rintro B1 E1 _ hB1 hE1 ⟨b1,c1,rfl,l1,w1⟩;simp only[wt,seval];refine aI (λf H=>∃(k n E:Nat) (A:List Int) (b:OB) (bs:List OB),tmn (pv q) k A+n=tmn (pv q) 9 A0/\tmr (pv q) k A=tmr (pv q) 9 A0/\tz A<=k/\n+k<=9/\aO A=A/\Nf A/\Dv A (pv p)/\tz A≠0/\bs.length=A.length/\B<=E/\Nw B E (oid b++ids bs)/\f 1=.iv (.sl (bZ q))/\f 7=.iv (.int .i64 n)/\f 8=.iv (gZ b bs A)/\H 999=.mrk E) (λf H=>match f 8 with | .iv (.own _ _ _ l)=>l.length|_=>0) ?_ ?_
 .refine⟨9,0,E1,A0,b1,c1,rfl,rfl,by omega,by omega,t0,f0,v0,by omega,l1,by omega,w1.mono (by omega) (by omega),?_⟩;simp only[wt,seval]
  try (repeat' apply zaa)<;>first|rfl|omega
 rintro f H ⟨k,n,E,A,b,bs,en,er,tk,hnk,tA,nA,vA,hA0,hb,hBE,hw,g1,g7,g8,hm⟩;have hmu:(match f 8 with | .iv (.own _ _ _ l)=>l.length|_=>0)=tz A:=by rw[g8];simp only[];rw[mJ hb,<-tA,dw,tA]
 rw[hmu];obtain⟨a1,a2,_⟩:=iE h1 tP sP nA vA;have dv:=(Yf (p:=cn A) (q:=q) (A:=A) (B:=pv q) ((O8 a1 a2).mono (zab _) (by omega)) (hq.mono (by omega) (by omega)) (fF _) rfl).soft (.cons (jE (b:=b) hb tA) (.cons (.refl _) .nil));by_cases hd:dvb (pv q) A=true
 .rw[hd]at dv;obtain⟨k',rfl⟩:∃k',k=k'+1:=⟨k-1,by omega⟩;have hdv:=(uX _ _).mp hd;have qo:=(MK (p:=cn A) (q:=q) (A:=A) (B:=pv q) ((O8 a1 a2).mono (zab _) (by omega)) (hq.mono (by omega) (by omega)) (fF _) rfl (by omega) hdv).soft (.cons (jE (b:=b) hb tA) (.cons (.refl _) .nil));obtain⟨qt,qn⟩:=VD (A:=A) (B:=pv q) (by omega) hA0 hdv;rw[tmn,zas hd]at en;rw[tmr,zas hd]at er;simp (disch:=omega) only[wt,seval,g1,g8];refine ah (dv) (by rfl) (by simp) ?_;simp (disch:=omega) only[wt,seval,g1,g7,g8];refine aJ (qo) (by rfl) (by simp) (by assumption) ?_;rintro B3 E3 _ hB3 hE3 ⟨b3,c3,rfl,l3,w3⟩;simp (disch:=omega) only[wt,seval,g1];have hfl:(oD c3 (quo A (pv q))).length=tz (quo A (pv q)):=by
   rw[mJ l3];exact(zaO List.length (jU A _)).symm.trans (dw _)
  refine⟨⟨k',n+1,E3,quo A (pv q),b3,c3,by omega,er,by omega,by omega,jU _ _,oM _ _,(yL (by omega) hdv).trans vA,qn,l3,by omega,w3.mono (by omega) (by omega),?_⟩,by rw[hfl];omega⟩
  try (repeat' apply zaa)<;>first|rfl|omega
 .have hd':dvb (pv q) A=false:=by simpa using hd
  rw[hd']at dv;obtain⟨s1,s2⟩:=ZI hd' k;rw[s1]at en;rw[<-en,<-er,s2];simp (disch:=omega) only[wt,seval,g1,g8];refine ah (dv) (by rfl) (by simp) ?_;simp (disch:=omega) only[wt,seval,g7,g8];refine aQ [ci (n:Int),.iv (gZ b bs A),ci 0] (by assumption) (by simp (disch:=omega) only[wt,seval];repeat' (first|rfl|omega|apply zaa)) ?_;intro E' hE';exact⟨b,bs,rfl,hb,hw.mono (by omega) (by omega)⟩
def Kt (p q:List RI)(S:Nat)(hp:RP 40 S p)(hq:RP 40 S q)(hS:S<=2^20):ACX Tryz.prog 148 [cw p,cw q] (EF (aO (exv (pv p) (pv q))) (exe (pv p) (pv q))):=by
 have hp':=hp.mono (zab 40) (show S<=2^27 by omega);have hq':=hq.mono (zab 40) (show S<=2^27 by omega);have sP:=mX hp;have sQ:=mX hq;by_cases h0:tz (pv q)=0
 .rw[exv,exe,zas h0,zas h0];have d:=a1v p q hq' h0;refine ACX.aj zi0 (rs:=[.tmp 4,.tmp 5]) aV ze1 (by rfl) (by rfl) (by rfl) (by rfl) (by rfl) (rE _ _) (λB=>?_);simp only[wt,seval];refine ah (d) (by rfl) (by simp) ?_;simp (disch:=omega) only[wt,seval];refine dO 4 30 2 (by rfl) ?_;refine aQ [.iv (gZ none [] []),ci 1] (by rfl) (by simp (disch:=omega) only[wt,seval];rfl) ?_;intro E hE;exact⟨none,[],rfl,rfl,.nil _ _⟩
 have d:=TK p q hp' hq' h0;have t1:=yF hp;have t2:=yF hq;have tr:=zJ (A:=pv p) h0;have td:=b1W (A:=pv p) h0;obtain⟨s1,s2⟩:=IQ h0 sP sQ;have hdx:dxp (pv p) (pv q)<=41:=by unfold dxp;omega
 have hdm:dxp (pv p) (pv q)*(S+1)<=41*(S+1):=zag _ hdx;have dg:=PG (a:=cn (dr (pv p) (pv q))) (q:=dr (pv p) (pv q)) ((lQ (D:=40) (k:=2^35) (by omega) (s2.mono (by omega))).mono (by omega) (by omega)) (fF _);rw[exv,exe,zam h0,zam h0];by_cases hd:¬dvb (pv q) (pv p)=true
 .have hb:dvb (pv q) (pv p)=false:=by simpa using hd
  have he:a2P (pv p) (pv q)=false:=by unfold a2P;rw[hb];rfl
  rw[he];have hr:¬tz (dr (pv p) (pv q))=0:=λh=>hd ((uX _ _).mpr ((a2V h0).mpr h))
  have hr':(0:Int)<=(tz (dr (pv p) (pv q)):Int)-1:=by omega
  refine ACX.aj zi0 (rs:=[.tmp 4,.tmp 5]) aV ze1 (by rfl) (by rfl) (by rfl) (by rfl) (by rfl) (rE _ _) (λB=>?_);simp only[wt,seval];refine ah (d) (by rfl) (by simp) ?_;simp (disch:=omega) only[wt,seval];refine ah (dg) (by rfl) (by simp) ?_;simp (disch:=omega) only[wt,seval,hr'];refine dO 4 30 2 (by rfl) ?_;refine aQ [.iv (gZ none [] []),ci 4] (by rfl) (by simp (disch:=omega) only[wt,seval];rfl) ?_;intro E hE;exact⟨none,[],rfl,rfl,.nil _ _⟩
 have hd:dvb (pv q) (pv p)=true:=zeS.mp hd;have hdr:=(a2V h0).mp ((uX _ _).mp hd);have he:a2P (pv p) (pv q)=decide ((lc (pv q)^dxp (pv p) (pv q))∣(gz (dq (pv p) (pv q)):Int)):=by unfold a2P;rw[hd,zej]
 rw[he];rw[hdr]at dg;have o1:=Zj 1 (by omega) (by omega);have le:=a1q (a:=q) (q:=pv q) (hq.mono (by omega) (by omega)) rfl;have hlz:zl (lc (pv q))<=S:=sQ _;have rD:=lQ (D:=41) (k:=2^35) (by omega) (s1.mono (by omega));have hlp:=Eb h0 (dxp (pv p) (pv q));have hpz:=b4h hlz (dxp (pv p) (pv q)) hdx;have rD2:RP (2^30) (2^35) (cn (dq (pv p) (pv q))):=rD.mono (by omega) (by omega);have hev:(lc (pv q)^dxp (pv p) (pv q))∣(gz (dq (pv p) (pv q)):Int)->ACX Tryz.prog 195 [cp (dq (pv p) (pv q)),cz (lc (pv q)^dxp (pv p) (pv q))] (EF (aO (qA (lc (pv q)^dxp (pv p) (pv q)) (dq (pv p) (pv q)))) 0):=λhg=>by
  have ov:=Pv (cn (dq (pv p) (pv q))) (canon (lc (pv q)^dxp (pv p) (pv q))) rD2 ((aY _).mono (by omega)) (by rw[aS];exact hlp) (λk=>by rw[aS,QG];exact Qo.mp hg k);rwa [aS,ji (p:=qA (lc (pv q)^dxp (pv p) (pv q)) (pv (cn (dq (pv p) (pv q))))) (q:=qA (lc (pv q)^dxp (pv p) (pv q)) (dq (pv p) (pv q))) (λk=>by rw[fU,fU,QG])]at ov
 have heb:¬(lc (pv q)^dxp (pv p) (pv q))∣(gz (dq (pv p) (pv q)):Int)->AC Tryz.prog 195 [cp (dq (pv p) (pv q)),cz (lc (pv q)^dxp (pv p) (pv q))] none [cp [],ci 4]:=λhg =>
  a1n (cn (dq (pv p) (pv q))) (canon (lc (pv q)^dxp (pv p) (pv q))) (rD.mono (by omega) (by omega)) ((aY _).mono (by omega)) (by rw[aS];exact hlp) (λh=>hg (Qo.mpr λk=>by have:=h k;rwa [aS,QG]at this))
 clear he hdm;generalize hX:dxp (pv p) (pv q)=x at *;generalize hL:lc (pv q)=L at *;refine ACX.aj zi0 (rs:=[.tmp 4,.tmp 5]) aV ze1 (by rfl) (by rfl) (by rfl) (by rfl) (by rfl) (rE _ _) (λB=>?_);simp only[wt,seval];refine ah (d) (by rfl) (by simp) ?_;simp (disch:=omega) only[wt,seval];refine ah (dg) (by rfl) (by simp) ?_;simp (disch:=omega) only[wt,seval];refine ah (o1) (by rfl) (by simp) ?_;simp (disch:=omega) only[wt,seval];refine aI (λf H=>∃(i st:Nat),i<=x/\f 26=.iv (.int .i64 i)/\f 25=.iv (.int .i64 x)/\f 1=.iv (.sl (bZ q))/\f 6=.iv (.sl (iQ (dq (pv p) (pv q))))/\f 10=.hp 10 st 0 0/\H 10=.blk false st 30 2 [jy (canon (L^i))]/\H 999=.mrk B) (λf H=>(x-bC f 26).toNat) ?_ ?_
 .refine⟨0,1,by omega,?_⟩;simp only[wt,seval,Int.pow_zero]
 rintro f H ⟨i,st,hi,hF⟩;rw[aC hF.1];simp (disch:=omega) only[wt,seval,hF];by_cases hlt':i<x
 .have hlt:(i:Int)<(x:Int):=by omega
  have hz:=b4h hlz i (by omega);have m:=wu (canon (L^i)) (canon L) ((aY _).mono (by omega)) ((aY _).mono (by omega));rw[aS,aS,<-Int.pow_succ]at m;simp (disch:=omega) only[wt,seval,hF,hlt];refine .inl ⟨aP (by kernel_rfl),?_⟩;refine ah (le) (by rfl) (by simp) ?_;simp (disch:=omega) only[wt,seval];refine ah (m) (by rfl) (by simp) ?_;simp (disch:=omega) only[wt,seval,hF];refine⟨aX (by kernel_rfl),?_⟩;refine⟨⟨i+1,st,by omega,?_⟩,by omega⟩
  try (repeat' apply zaa)<;>first|rfl|omega
 .obtain rfl:i=x:=by omega
  have hlt:¬(i:Int)<(i:Int):=by omega
  simp (disch:=omega) only[wt,seval,hF,hlt];have hm:=hF.2.2.2.2.2.2;by_cases hg:L^i∣(gz (dq (pv p) (pv q)):Int)
  .rw[zbn hg];have ov:=hev hg;refine aJ (ov) (by rfl) (by simp) (by assumption) ?_;rintro B' E _ hB hE2 ⟨b,bs,rfl,hl,hn⟩;simp (disch:=omega) only[wt,seval];refine aQ [.iv (gZ b bs (aO (qA (L^i) (dq (pv p) (pv q))))),ci 0] (by rfl) (by simp (disch:=omega) only[wt,seval]) ?_;intro E hE;exact⟨b,bs,rfl,hl,hn.mono (by omega) (by omega)⟩
  .rw[zaW hg];have ov:=heb hg;refine ah (ov) (by rfl) (by simp) ?_;simp (disch:=omega) only[wt,seval];refine dO 4 30 2 (by rfl) ?_;refine aQ [.iv (gZ none [] []),ci 4] (by assumption) (by simp (disch:=omega) only[wt,seval];rfl) ?_;intro E hE;exact⟨none,[],rfl,rfl,.nil _ _⟩
def AB (n:RI)(d:List Nat)(hn:Sz (2^38) n)(hd:Nt (2^38) d)(h0:nv d≠0):ACX Tryz.prog 182 [cr n,cl d] (RRq (aN (mkRat (iv n) (nv d)))):=by
 rw[show aN (mkRat (iv n) (nv d))=rq (iv n) (nv d) by rw[LW h0]];have zn:=oO hn;have hgp:0<Nat.gcd (iv n).natAbs (nv d):=zdc _ (by omega);have hgd:(wd (Nat.gcd (iv n).natAbs (nv d))).length<=2^38:=zad (bF (zdx _ (by omega))) (zad (iP hd.2) hd.1);have h1:((Nat.gcd (iv n).natAbs (nv d):Nat):Int)∣iv n:=zcG.mpr (zcz _ _);have g:=a2G (wd (iv n).natAbs) d (bg _) hd.2 zn hd.1;rw[bJ]at g;have e1:=IX (wd (iv n).natAbs) (wd (Nat.gcd (iv n).natAbs (nv d))) (bg _) (bg _) zn hgd (by rw[bJ];omega);rw[bJ,bJ,zas (zcn (zcz _ _)),zas (zcn (zcz _ _))]at e1;have e2:=Yx d (wd (Nat.gcd (iv n).natAbs (nv d))) hd.2 (bg _) hd.1 hgd (by rw[bJ];omega) (by rw[bJ];exact zcn (zdN _ _));rw[bJ]at e2;have e3:=V8 (decide (iv n<0)) ((iv n).natAbs/Nat.gcd (iv n).natAbs (nv d)) (zad (bF (zbO _ _)) (zad zn (by omega)));rw[a0c _ _ h1 (by omega)]at e3;refine ACX.aj zi0 (rs:=[.cell 4 32]) aV Tryz.func182 (by rfl) (by rfl) (by rfl) (by rfl) (by rfl) (b4p _) (λB0=>?_);simp (disch:=omega) only[wt,seval];refine ah ((EO n (hn.mono (by omega)))) (by rfl) (by simp) ?_;simp (disch:=omega) only[wt,seval];refine ah (g) (by rfl) (by simp) ?_;simp (disch:=omega) only[wt,seval];refine ah (e1) (by rfl) (by simp) ?_;simp (disch:=omega) only[wt,seval];refine aJ (e2) (by rfl) (by simp) (by rfl) ?_;rintro B1 E1 _ hB1 hE1 ⟨c,rfl,hc⟩;simp (disch:=omega) only[wt,seval];refine aJ (e3) (by rfl) (by simp) (by rfl) ?_;rintro B2 E2 _ hB2 hE2 ⟨b,rfl,hb⟩;simp (disch:=omega) only[wt,seval,iU];refine aQ [.agg (frq b c (rq (iv n) (nv d)))] (by rfl) (by simp (disch:=omega) only[wt,seval];rfl) ?_;intro E hE;refine⟨b,c,rfl,?_⟩;have h:=hc.append hb (by omega) (by omega) (by omega);exact Nw.b6S (h.mono (by omega) (by omega)) ze3
theorem b0Q (p q:List RI)(D S:Nat)(hp:RP 40 S p)(hq:RP 40 S q)(tp:tz (pv p)<=D)(tq:tz (pv q)<=D)(hD:D<=40)(hE:EZ S D<=2^27) :
  AC Tryz.prog 145 [cw p,cw q] none [cp (eU (pv p) (pv q))]:=by
 have h:=VU p q D S hp hq tp tq hD hE;rw[<-jI]at h;exact TJ h
theorem a1u {p q:List RI}{A B:List Int}(D S:Nat)(hp:RP 40 S p)(hq:RP 40 S q)(ea:ps (pv p)=ps A)(eb:ps (pv q)=ps B)(tp:tz A<=D)(tq:tz B<=D)(hD:D<=40)(hE:EZ S D<=2^27) :
  AC Tryz.prog 145 [cw p,cw q] none [cp (eU A B)]:=by
 have h:=b0Q p q D S hp hq (by rw[gQ ea];exact tp) (by rw[gQ eb];exact tq) hD hE;rwa [zL (Ud (.nM ea) (.nM eb))]at h
def a5Z (p q:List RI)(hp:RP 40 (2^27) p)(hq:RP 40 (2^27) q)(h0:tz (pv q)≠0):AC Tryz.prog 225 [cw p,cw q] none [cp (quo (pv p) (pv q))]:=by
 have h:=Pq p q hp hq h0;rw[<-jU]at h;exact TJ h
def b0L {p q:List RI}{A B:List Int}(hp:RP 40 (2^27) p)(hq:RP 40 (2^27) q)(ea:ps (pv p)=ps A)(eb:ps (pv q)=ps B)(h0:tz B≠0)(hd:Dv B A):AC Tryz.prog 225 [cw p,cw q] none [cp (quo A B)]:=by
 have h:=a5Z p q hp hq (by rw[gQ eb];exact h0);rwa [zL (Gx (A':=A) (B':=B) (by rw[gQ eb];exact h0) (hd.as (.nM eb) (.nM ea.symm)) ea eb)]at h
theorem Yg {p q:List RI}{A B:List Int}(D S:Nat)(hp:RP 40 S p)(hq:RP 40 S q)(ea:ps (pv p)=ps A)(eb:ps (pv q)=ps B)(tp:tz A<=D)(tq:tz B<=D)(hD:D<=40)(hE:EZ S D<=2^27) :
  AC Tryz.prog 161 [cw p,cw q] none [cb (decide (tz (eU A B)=1))]:=by
 have g:=a1u D S hp hq ea eb tp tq hD hE;have s:=Uc tp tq (A:=A) (B:=B) (S:=S) (λi=>by rw[<-oW ea];exact mX hp i) (λi=>by rw[<-oW eb];exact mX hq i);have t:tz (eU A B)<=D:=(a2T _ _ _ (EI.start tp tq (λi=>by rw[<-oW ea];exact mX hp i) (λi=>by rw[<-oW eb];exact mX hq i))).2;have d:=PG (a:=cn (eU A B)) (q:=eU A B) ((lQ t s).mono (by omega) (by omega)) (fF _);refine AC.aj (rs:=[.tmp 4]) aV Tryz.func161 (by rfl) (by rfl) (by rfl) (by rfl) (by rfl) ?_;simp only[wt,seval];refine ah (g) (by rfl) (by simp) ?_;simp only[wt,seval];refine ah (d) (by rfl) (by simp) ?_;simp (disch:=omega) only[wt,seval]
 try exact zbA.mpr (by omega)
def a6c (p q:List RI)(hp:RP 9 2 p)(hq:RP 9 2 q):ACX Tryz.prog 159 [cw p,cw q] (EN (U1 (pv p) (pv q))):=by
 have d1:=mD p (hp.mono (by omega) (by omega));have d2:=mD q (hq.mono (by omega) (by omega));by_cases h1:tz (pv p)=0
 .rw[U1,zas (.inl h1)];rw[h1]at d1;refine ACX.aj zi0 (rs:=[.tmp 4]) aV Tryz.func159 (by rfl) (by rfl) (by rfl) (by rfl) (by rfl) (oK _) (λB=>?_);simp only[wt,seval];refine ah (d1) (by rfl) (by simp) ?_;simp (disch:=omega) only[wt,seval];refine dO 4 30 2 (by rfl) ?_;refine aQ [.iv (gZ none [] [])] (by rfl) (by simp (disch:=omega) only[wt,seval];rfl) ?_;intro E hE;exact⟨none,[],rfl,rfl,.nil _ _⟩
 have h1':¬((tz (pv p):Nat):Int)-1<0:=by omega
 by_cases h2:tz (pv q)=0
 .rw[U1,zas (.inr h2)];rw[h2]at d2;refine ACX.aj zi0 (rs:=[.tmp 4]) aV Tryz.func159 (by rfl) (by rfl) (by rfl) (by rfl) (by rfl) (oK _) (λB=>?_);simp only[wt,seval];refine ah (d1) (by rfl) (by simp) ?_;simp (disch:=omega) only[wt,seval,h1'];refine ah (d2) (by rfl) (by simp) ?_;simp (disch:=omega) only[wt,seval];refine dO 4 30 2 (by rfl) ?_;refine aQ [.iv (gZ none [] [])] (by rfl) (by simp (disch:=omega) only[wt,seval];rfl) ?_;intro E hE;exact⟨none,[],rfl,rfl,.nil _ _⟩
 have h2':¬((tz (pv q):Nat):Int)-1<0:=by omega
 rw[U1,zam (by omega)];obtain⟨tP,sP⟩:=dF hp;obtain⟨tQ,sQ⟩:=dF hq;have WM:=hp.mono (show 9<=40 by omega) (zab 2);have b4F:=hq.mono (show 9<=40 by omega) (zab 2);have g:=a1u 9 2 WM b4F rfl rfl tP tQ (by omega) ez2;have gg:=mG (pv p) (pv q);obtain⟨g1,g2,g3⟩:=iE h1 tP sP (rV _ _) gg.a;have qo:=b0L (p:=q) (q:=cn (eU (pv p) (pv q))) (A:=pv q) (B:=eU (pv p) (pv q)) (b4F.mono (zab _) (by omega)) ((O8 g1 g2).mono (zab _) (by omega)) rfl (fF _) g3 gg.b;obtain⟨q1,q2,q3⟩:=iE h2 tQ sQ (oM (pv q) (eU (pv p) (pv q))) (yL g3 gg.b);have m:=a8I (a:=p) (b:=cn (quo (pv q) (eU (pv p) (pv q)))) (q:=pv p) (r:=quo (pv q) (eU (pv p) (pv q))) (hp.mono (by omega) (by omega)) ((O8 q1 q2).mono (by omega) (by omega)) rfl (fF _);have hz:∀i,zl (cf (fD (pv p) (quo (pv q) (eU (pv p) (pv q)))) i)<=100:=λi=>by
  have h:=PB.fD hp.pv (O8 q1 q2).pv (by simp only[W];omega);have h2:=h.cf i;rw[Kr (p':=pv p) (q':=quo (pv q) (eU (pv p) (pv q))) (λ_=>rfl) (QG _)]at h2;omega
 have tm:=uD h1 q3;have pr:=pF (a:=cn (fD (pv p) (quo (pv q) (eU (pv p) (pv q))))) (q:=fD (pv p) (quo (pv q) (eU (pv p) (pv q)))) ((lQ (D:=40) (by omega) hz).mono (by omega) (by omega)) (fF _);refine ACX.aj zi0 (rs:=[.tmp 4]) aV Tryz.func159 (by rfl) (by rfl) (by rfl) (by rfl) (by rfl) (oK _) (λB=>?_);simp only[wt,seval];refine ah (d1) (by rfl) (by simp) ?_;simp (disch:=omega) only[wt,seval,h1'];refine ah (d2) (by rfl) (by simp) ?_;simp (disch:=omega) only[wt,seval,h2'];refine ah (g) (by rfl) (by simp) ?_;simp only[wt,seval];refine ah (qo) (by rfl) (by simp) ?_;simp only[wt,seval];refine ah (m) (by rfl) (by simp) ?_;simp only[wt,seval];refine aJ (pr) (by rfl) (by simp) (by rfl) ?_;rintro B' E _ hB hE2 ⟨b,bs,rfl,hl,hn⟩;simp only[wt,seval];refine aQ [.iv (gZ b bs _)] (by rfl) (by simp (disch:=omega) only[wt,seval];rfl) ?_;intro E hE;exact⟨b,bs,rfl,hl,hn.mono (by omega) (by omega)⟩
section
variable {l:List RQ}
theorem fZ (x y z:IV)(b c:OB)(r:RQ):splice [x,y,z] 0 (frq b c r)=frq b c r:=rfl
theorem dK (b c:OB)(r:RQ):List.take 3 (frq b c r)=frq b c r:=rfl
def bV (bs:List (OB×OB))(l:List RQ):List (List IV):=List.zipWith (λb r=>frq b.1 b.2 r) bs l
def eX {bs:List (OB×OB)}(h:bs.length=l.length):(bV bs l).length=l.length:=by simp[bV,h]
theorem uV {bs:List (OB×OB)}(h:bs.length=l.length)(b c:OB)(r:RQ):bV bs l++[frq b c r]=bV (bs++[(b,c)]) (l++[r]):=by
 rw[bV,bV,zfq h];rfl
def Iw {bs:List (OB×OB)}(h:bs.length=l.length){i:Nat}(hi:i<l.length):(bV bs l)[i]?=some (frq (bs.getD i (none,none)).1 (bs.getD i (none,none)).2 (l.getD i q0)):=by
 have h2:i<bs.length:=by omega
 simp[bV,zce,List.getD,hi,h2]
theorem pX {bs:List (OB×OB)}(h:bs.length=l.length){i:Nat}(hi:i<l.length):(bV bs l).getD i []=frq (bs.getD i (none,none)).1 (bs.getD i (none,none)).2 (l.getD i q0):=by
 rw[List.getD,Iw h hi];rfl
def Ug (bs:List (OB×OB))(l:List RQ)(k:Nat):(bV bs l).take k=bV (bs.take k) (l.take k):=by rw[bV,bV,List.take_zipWith]
def idq (bs:List (OB×OB)):List Nat:=bs.flatMap λp=>oid p.1++oid p.2
def Fg (bs:List (OB×OB))(b c:OB):idq (bs++[(b,c)])=idq bs++(oid b++oid c):=by simp[idq]
theorem ou (n:Nat):idq (List.replicate n (none,none))=[]:=by simp[idq,oid]
theorem jW:∀{bs:List (OB×OB)} {l:List RQ},bs.length=l.length->bY (bV bs l)=idq bs
 |[],_,h=>by simp[bV,idq,bY]
 |p::bs,[],h=>by simp at h
 |(b,c)::bs,r::l,h=>by
  have ih:=jW (bs:=bs) (l:=l) (by simpa using h);simp only[bV,idq,zd6,bY,zbu,iV,IV.ids,zcg,zbr,WJ]at ih ⊢;rw[ih];cases b<;>cases c<;>rfl
abbrev fqp (b:OB)(bs:List (OB×OB))(l:List RQ):IV:=.own b 32 3 (bV bs l)
def RQp (l:List RQ)(e:Int)(B E:Nat)(res:List CV):Prop:=∃b bs,res=[.iv (fqp b bs l),ci e]/\bs.length=l.length/\Nw B E (oid b++idq bs)
theorem EJ (l:List RQ)(e:Int)(B:Nat):∃E res,B<=E/\RQp l e B E res:=⟨B,_,zab _,none,List.replicate l.length (none,none),rfl,by simp,by rw[ou];exact .nil _ _⟩
def Vr {b:OB}{bs:List (OB×OB)}(h:bs.length=l.length):Le (fqp b bs l) (.sl (dN l)):=by
 have key:∀(i:Nat) (r r':List IV),(bV bs l)[i]?=some r->(dN l)[i]?=some r'->∃b c,r=frq b c (l.getD i q0)/\r'=pW (l.getD i q0):=by
  intro i r r' hr hr';have hi:i<l.length:=by
   have:=(zao.1 hr).1;rw[eX h]at this;exact this
  rw[Iw h hi]at hr;simp only[dN,zaD,zaf hi,zbz,zaq]at hr';refine⟨_,_,by injection hr with hr;exact hr.symm,by rw[<-hr'];simp[List.getD,hi]⟩
 refine .own _ _ _ _ _ (by rw[eX h,MC]) (λi r r' hr hr'=>?_) (λi r r' hr hr' j x x' hx hx'=>?_)
 .obtain⟨b,c,rfl,rfl⟩:=key i r r' hr hr';rfl
 .obtain⟨b,c,rfl,rfl⟩:=key i r r' hr hr'
  match j with
  |0=>cases hx;cases hx';exact .refl _
  |1=>cases hx;cases hx';exact xR
  |2=>cases hx;cases hx';exact xR
  |j+3=>simp at hx
def a1z {B E F:Nat}{b:OB}{l:List Nat}(h:Nw B E l)(hE:E<=F)(hb:∀g cap,b=some (g,cap)->B<=g/\g<F/\g∉l):Nw B F (oid b++l):=by
 cases b with
 |none=>exact h.mono (zab _) hE
 |some g =>
  have:=hb g.1 g.2 rfl;exact(h.mono (zab _) hE).cons this.2.2 this.1 this.2.1
def xW (X:List Rat)(bs:List (OB×OB))(hb:bs.length=X.length)(h:QB (2^40) (2^38) X):ACT Tryz.prog 93 [.any] 0 32 3 (bV bs (X.map aN)) (bV (bs.take (tzq X)) (cqs X)):=by
 have fin:∀k,k=tzq X->bV (bs.take (tzq X)) (cqs X)=(bV bs (X.map aN)).take k:=λk e=>by rw[Ug,<-zcL,e];rfl
 have htl:=vP X;have hl:=h.1;have hbl:bs.length=(X.map aN).length:=by rw[zae];exact hb
 have hq:(bV bs (X.map aN)).length=X.length:=by rw[eX hbl,zae]
 refine ACT.aj (rs:=[.tmp 2]) aV Tryz.func93 (by rfl) (by rfl) (by rfl) (by rfl) (by rfl) ?_;simp (disch:=omega) only[wt,seval];refine aI (λf H=>∃k:Nat,k<=X.length/\f 0=.hs 0 1/\f 3=.iv (.int .i64 k)/\H 0=.blk false 1 32 3 (bV bs (X.map aN))/\tzq (X.take k)=tzq X) (λf H=>(bC f 3).toNat) ?_ ?_
 .exact⟨X.length,zab _,by simp only[wt,seval],by simp only[wt,seval,hq],by simp only[wt,seval],by rw[zaM]⟩
 rintro f H ⟨k,hk,h0,h3,hh,ht⟩;rw[aC h3];by_cases hc:0<(k:Int)
 .have ek:((k:Int)-1).toNat=k-1:=by omega
  have ek':k=(k-1)+1:=by omega
  have e:=pX hbl (i:=k-1) (by rw[zae];omega);have e2:(X.map aN).getD (k-1) q0=aN (cfq X (k-1)):=by
   have hk1:k-1<X.length:=by omega
   simp[List.getD,cfq,hk1]
  rw[e2]at e;have z:=(OZ (aN (cfq X (k-1))) (cO (h.cz (by omega) _)) (cZ _)).soft (.cons (qW (bs.getD (k-1) (none,none)).1 (bs.getD (k-1) (none,none)).2 _) .nil);rw[eF]at z;simp (disch:=omega) only[wt,seval,dK,h0,h3,hh,hc,ek,hq,e];refine ah (z) (by rfl) (by simp) ?_;simp (disch:=omega) only[wt,seval];by_cases hz:cfq X (k-1)=0
  .simp (disch:=omega) only[wt,seval,h0,h3,hh,hz];refine⟨⟨k-1,by omega,by omega,?_⟩,by omega⟩;rw[<-oU (k:=k-1) (by omega) hz,<-ek',ht]
  .simp (disch:=omega) only[wt,seval,h0,h3,hh,hz];have hk:k=tzq X:=by
    have:=zZ (q:=X) (k:=k-1) (by omega) hz;rw[<-ek',ht]at this;exact this.symm
   refine⟨by omega,fin k hk⟩
 .have hk:k=tzq X:=by
   obtain rfl:k=0:=by omega
   rw[<-ht];rfl
  simp (disch:=omega) only[wt,seval,h0,h3,hh,hc];refine⟨by omega,fin k hk⟩
end
def a5Q (a b:RQ)(ha:SzQ (2^35) a)(hb:SzQ (2^35) b)(h0:nv a.2≠0)(h1:nv b.2≠0):ACX Tryz.prog 87 [cqq a,cqq b] (a4r (aN (qv a+qv b)) 0):=by
 have c:=zC a b (ha.mono (by omega)) (hb.mono (by omega)) h0 h1;have t1:=AA a.1 b.2 (ha.1.mono (by omega)) ⟨zad hb.2.1 (by omega),hb.2.2⟩;have t2:=AA b.1 a.2 (hb.1.mono (by omega)) ⟨zad ha.2.1 (by omega),ha.2.2⟩;have z1:=fA (iv a.1) (nv b.2:Nat);have z2:=fA (iv b.1) (nv a.2:Nat);have y1:=oO ha.1;have y2:=oO hb.1;have y3:=D9 ha.2;have y4:=D9 hb.2;have z3:=qg (iv a.1*(nv b.2:Nat)) (iv b.1*(nv a.2:Nat));have s:=RX (canon (iv a.1*(nv b.2:Nat))) (canon (iv b.1*(nv a.2:Nat))) ((aY _).mono (by omega)) ((aY _).mono (by omega));rw[aS,aS]at s;have m:=MV a.2 b.2 ha.2.2 hb.2.2 (zad ha.2.1 (by omega)) (zad hb.2.1 (by omega));have hw:(wd (nv a.2*nv b.2)).length<=2^35+2^35:=yV y3 y4;have r:=AB (canon (iv a.1*(nv b.2:Nat)+iv b.1*(nv a.2:Nat))) (wd (nv a.2*nv b.2)) ((aY _).mono (by omega)) ⟨by omega,bg _⟩ (by rw[bJ];exact zbN h0 h1);rw[aS,bJ,a8Y h0 h1]at r;refine ACX.aj zi0 (rs:=[.cell 4 32,.tmp 5]) aV Tryz.func87 (by rfl) (by rfl) (by rfl) (by rfl) (by rfl) (GY _ _) (λB0=>?_);simp (disch:=omega) only[wt,seval,rqs,MB];refine ah (c) (by rfl) (by simp) ?_;simp (disch:=omega) only[wt,seval,rqs];refine .inl ⟨aP (by kernel_rfl),?_⟩;refine ah (t1) (by rfl) (by simp) ?_;simp (disch:=omega) only[wt,seval,rqs];refine ah (t2) (by rfl) (by simp) ?_;simp only[wt,seval];refine ah (s) (by rfl) (by simp) ?_;simp (disch:=omega) only[wt,seval];refine ah (m) (by rfl) (by simp) ?_;simp only[wt,seval];refine aJ (r) (by rfl) (by simp) (by rfl) ?_;rintro B1 E1 _ hB1 hE1 ⟨b1,c1,rfl,hb1⟩;simp (disch:=omega) only[wt,seval,fZ];refine⟨aX (by kernel_rfl),?_⟩;refine aQ [.agg (frq b1 c1 (aN (qv a+qv b))),ci 0] (by rfl) (by simp (disch:=omega) only[wt,seval,dK]) ?_;intro E hE;exact⟨b1,c1,rfl,hb1.mono hB1 (by omega)⟩
def P8 (a b:RI)(ha:Sz (2^38) a)(hb:Sz (2^38) b)(h0:iv b≠0):ACX Tryz.prog 102 [cr a,cr b] (a4r (aN ((iv a:Rat)/(iv b:Rat))) 0):=by
 have s:=uw b (hb.mono (by omega));have hs0:(iv b).sign≠0:=λh=>h0 (zbT.mp h)
 have n:=Zg a (ha.mono (by omega));have w:=a4v b (hb.mono (by omega));have za:=oO ha;have zb:=oO hb;have d:=a8X (a:=iv a) h0;refine ACX.aj zi0 (rs:=[.cell 4 32,.tmp 5]) aV Tryz.func102 (by rfl) (by rfl) (by rfl) (by rfl) (by rfl) (GY _ _) (λB0=>?_);simp (disch:=omega) only[wt,seval];refine ah (s) (by rfl) (by simp) ?_;simp (disch:=omega) only[wt,seval];simp (disch:=omega) only[wt,seval,hs0];refine ah (s) (by rfl) (by simp) ?_;simp (disch:=omega) only[wt,seval];have hsg:=sign_neg (iv b);by_cases h:iv b<0
 .have h1:=hsg.mpr h;rw[zas h]at d;have r:=AB (canon (-iv a)) (wd (iv b).natAbs) ((aY _).mono (by rw[sD];exact za)) ⟨zb,bg _⟩ (by rw[bJ];omega);rw[aS,bJ,d]at r;simp (disch:=omega) only[wt,seval,h1];refine ah (n) (by rfl) (by simp) ?_;simp (disch:=omega) only[wt,seval];refine .inl ⟨aP (by kernel_rfl),?_⟩;refine ah (w) (by rfl) (by simp) ?_;simp only[wt,seval];refine aJ (r) (by rfl) (by simp) (by rfl) ?_;rintro B1 E1 _ hB1 hE1 ⟨b1,c1,rfl,hb1⟩;simp (disch:=omega) only[wt,seval,fZ];refine⟨aX (by kernel_rfl),?_⟩;refine aQ [.agg (frq b1 c1 (aN ((iv a:Rat)/(iv b:Rat)))),ci 0] (by rfl) (by simp (disch:=omega) only[wt,seval,dK]) ?_;intro E hE;exact⟨b1,c1,rfl,hb1.mono hB1 (by omega)⟩
 .have h1:¬(iv b).sign<0:=λh'=>h (hsg.mp h')
  rw[zam h]at d;have r:=AB a (wd (iv b).natAbs) ha ⟨zb,bg _⟩ (by rw[bJ];omega);rw[bJ,d]at r;simp (disch:=omega) only[wt,seval,h1];refine .inl ⟨aP (by kernel_rfl),?_⟩;refine ah (w) (by rfl) (by simp) ?_;simp only[wt,seval];refine aJ (r) (by rfl) (by simp) (by rfl) ?_;rintro B1 E1 _ hB1 hE1 ⟨b1,c1,rfl,hb1⟩;simp (disch:=omega) only[wt,seval,fZ];refine⟨aX (by kernel_rfl),?_⟩;refine aQ [.agg (frq b1 c1 (aN ((iv a:Rat)/(iv b:Rat)))),ci 0] (by rfl) (by simp (disch:=omega) only[wt,seval,dK]) ?_;intro E hE;exact⟨b1,c1,rfl,hb1.mono hB1 (by omega)⟩
def GH (r:RQ)(h:SzQ (2^38) r)(h0:nv r.2≠0):ACX Tryz.prog 92 [cqq r] (a4r (aN (qv r)) 0):=by
 have c:=qx r ⟨zad h.2.1 (by omega),h.2.2⟩ h0;have m:=AB r.1 r.2 h.1 h.2 h0;refine ACX.aj zi0 (rs:=[.cell 2 32,.tmp 3]) aV Tryz.func92 (by rfl) (by rfl) (by rfl) (by rfl) (by rfl) (GY _ _) (λB0=>?_);simp (disch:=omega) only[wt,seval,rqs];refine ah (c) (by rfl) (by simp) ?_;simp (disch:=omega) only[wt,seval,rqs];refine aJ (m) (by rfl) (by simp) (by rfl) ?_;rintro B1 E1 _ hB1 hE1 ⟨b1,c1,rfl,hb1⟩;simp (disch:=omega) only[wt,seval,fZ];refine aQ [.agg (frq b1 c1 (aN (qv r))),ci 0] (by rfl) (by simp (disch:=omega) only[wt,seval,dK];rfl) ?_;intro E hE;exact⟨b1,c1,rfl,hb1.mono hB1 (by omega)⟩
theorem VH (r:RQ)(h:SzQ (2^38) r)(h0:nv r.2≠0):AC Tryz.prog 92 [cqq r] none [cqz (qv r),ci 0] :=
 a1r (GH r h h0)
section
variable {B E:Nat}
def a6R {bs:List (OB×OB)}(k:Nat)(h:Nw B E (idq bs)):Nw B E (idq (bs.take k)):=by
 have e:idq bs=idq (bs.take k)++idq (bs.drop k):=by
  rw[idq,idq,idq,<-zbc,zb1]
 rw[e]at h;exact⟨(zek.1 h.1).1,λg hg=>h.2 g (zbq _ hg)⟩
def take_len {α:Type}{bs:List α}{n k:Nat}(h:bs.length=n)(hk:k<=n):(bs.take k).length=k:=by rw[zah];omega
def VG {E2:Nat}{bs:List (OB×OB)}{X:List Rat}{b:OB}(hb:bs.length=X.length)(hn:Nw B E (idq bs))(hE:E<=E2)(h:∀g cap,b=some (g,cap)->B<=g/\g<E2/\g∉bY (bV (bs.take (tzq X)) (cqs X))):(bs.take (tzq X)).length=(cqs X).length/\Nw B E2 (oid b++idq (bs.take (tzq X))):=by
 have e:(bs.take (tzq X)).length=(cqs X).length:=by rw[Nq,take_len hb (vP X)]
 rw[jW e]at h;exact⟨e,a1z (a6R _ hn) hE h⟩
def D8 (p:List RQ)(h:GQ (2^40) (2^38) p):ACX Tryz.prog 15 [cqw p] (RQp (cqs (qvs p)) 0):=by
 refine ACX.aj zi0 (rs:=[.tmp 2,.tmp 3]) aV Tryz.func15 (by rfl) (by rfl) (by rfl) (by rfl) (by rfl) (EJ _ _) (λB=>?_);have hl:=h.1;have hvl:(qvs p).length=p.length:=rO p;simp (disch:=omega) only[wt,seval,rqs];refine bU 4 4 32 3 (by simp only[wt,seval]) (λf H=>∃(i st:Nat) (bs:List (OB×OB)) (E:Nat),i<=p.length/\bs.length=i/\B<=E/\Nw B E (idq bs)/\f 9=.iv (.sl (dN p))/\f 10=.iv (.int .i64 p.length)/\f 11=.iv (.int .i64 i)/\f 4=.hs 4 st/\H 4=.blk false st 32 3 (bV bs (((qvs p).take i).map aN))/\H 999=.mrk E) (λf H=>(p.length-bC f 11).toNat) ?_ ?_
 .refine⟨0,1,[],B,by omega,rfl,zab _,.nil _ _,?_⟩;simp only[wt,seval,fJ,fH,zaj];rfl
 rintro f H ⟨i,st,bs,E,hi,hbs,hBE,hnw,h9,h10,h11,h4,hH,Oa⟩;rw[aC h11];simp (disch:=omega) only[wt,seval,h10,h11];have hq:(((qvs p).take i).map aN).length=i:=by rw[zae,zah];omega
 have hql:(bV bs (((qvs p).take i).map aN)).length=i:=by rw[eX (by omega),hq]
 refine bf (λhlt=>?_) (λhlt=>?_)
 .have hlt':i<p.length:=by omega
  have m:=GH (p.getD i q0) (h.get hlt') (h.den hlt');rw[<-Dq]at m;simp (disch:=omega) only[wt,seval,rqs,h9,h11];refine aJ (m) (by rfl) (by simp) (by assumption) ?_;rintro B' E' _ hB hE ⟨b,c,rfl,hb⟩;simp (disch:=omega) only[wt,seval,fZ,dK,h9,h10,h11,h4,hH,hql];have e:=jR (q:=qvs p) (i:=i) (by omega);refine⟨⟨i+1,st+1,bs++[(b,c)],E',by omega,by simp[hbs],by omega,?_,by omega,rfl,?_,rfl⟩,by omega⟩
  .rw[Fg];exact hnw.append hb (by omega) hB (by omega)
  .rw[e,zav,uV (by omega)];rfl
 .simp (disch:=omega) only[wt,seval,h4];obtain rfl:i=p.length:=by omega
  rw[zac (by omega)]at hH;have t:=xW (qvs p) bs (by omega) h.qb;refine yD (t) (by first|rfl|(simp only[wt,seval,rqs,gW,fM,iU,fZ,dK,dJ,h9,h10,h11,h4,hH,Oa];done)) (by first|rfl|(simp only[seval,hH];done)) (by rfl) (by simp) (by simp) ?_;simp only[wt,seval];refine AY 2 4 _ 32 3 ((bV (bs.take (tzq (qvs p))) (cqs (qvs p)))) (by first|rfl|assumption|simp only[wt,seval,rqs,gW,fM,iU,fZ,dK,dJ]) (by first|rfl|assumption|simp only[wt,seval,rqs,gW,fM,iU,fZ,dK,dJ]) (by assumption) ?_;rintro b E2 hE2 hb;refine aQ [.iv (fqp b (bs.take (tzq (qvs p))) (cqs (qvs p))),ci 0] (by rfl) (by simp (disch:=omega) only[wt,seval]) ?_;intro E hE;obtain⟨e1,e2⟩:=VG (by omega) hnw hE2 (λg cap e=>⟨(hb.2 g cap e).1,(hb.2 g cap e).2.1,(hb.2 g cap e).2.2.1⟩);exact⟨b,_,rfl,e1,e2.mono (zab _) hE⟩
end
def P6 (L:List Int)(d e:Nat)(hL:PB (2^31) (2^37) L)(hd:(wd d).length<=2^35)(he:(wd e).length<=2^35)(hd0:d≠0)(he0:e≠0):ACX Tryz.prog 90 [cw (L.map canon),cl (wd d),cl (wd e)] (RQp (cqs (Un L ((d*e:Nat):Int))) 0):=by
 have hl:=hL.1;have hq:(L.map canon).length=L.length:=zae _;have hrl:=X3 L ((d*e:Nat):Int);have n1:=CO false d (by omega);have n2:=CO false e (by omega);rw[sgf]at n1 n2;have m:=wu (canon (d:Int)) (canon (e:Int)) ((aY _).mono (by rw[wz];omega)) ((aY _).mono (by rw[wz];omega));rw[aS,aS,<-zci]at m;have hde:d*e≠0:=zbN hd0 he0;have hw:(wd (d*e)).length<=2^35+2^35:=yV hd he;have hR:QB (2^40) (2^38) (Un L ((d*e:Nat):Int)):=(QB.Un hL hde (by omega)).mono (by omega) (by omega);refine ACX.aj zi0 (rs:=[.tmp 6,.tmp 7]) aV Tryz.func90 (by rfl) (by rfl) (by rfl) (by rfl) (by rfl) (EJ _ _) (λB0=>?_);simp only[wt,seval];refine ah (n1) (by rfl) (by simp) ?_;simp only[wt,seval];refine ah (n2) (by rfl) (by simp) ?_;simp only[wt,seval];refine ah (m) (by rfl) (by simp) ?_;simp (disch:=omega) only[wt,seval];have hcx:∀k,cfq (Un L ((d*e:Nat):Int)) k=(cf L k:Rat)/(((d*e:Nat):Int):Rat):=λk=>Ny _ _ _
 generalize Un L ((d*e:Nat):Int)=X at *;refine bU 9 9 32 3 (by simp only[wt,seval]) (λf H=>∃(i st st8:Nat) (bs:List (OB×OB)) (E:Nat),i<=L.length/\bs.length=i/\B0<=E/\Nw B0 E (idq bs)/\f 21=.iv (.int .i64 i)/\f 20=.iv (.int .i64 L.length)/\f 19=.iv (.sl (bZ (L.map canon)))/\f 8=.hp 8 st8 0 0/\H 8=.blk false st8 30 2 [jy (canon ((d*e:Nat):Int))]/\f 9=.hs 9 st/\H 9=.blk false st 32 3 (bV bs ((X.take i).map aN))/\H 999=.mrk E) (λf H=>(L.length-bC f 21).toNat) ?_ ?_
 .refine⟨0,1,1,[],B0,by omega,rfl,zab _,.nil _ _,?_⟩;simp only[wt,seval,fJ,fH,zaj,hq];rfl
 rintro f H ⟨i,st,st8,bs,E,hi,hbs,hBE,hnw,h21,h20,h19,h8,hH8,h9,hH,Oa⟩;rw[aC h21];simp (disch:=omega) only[wt,seval,h21,h20];have hrq:((X.take i).map aN).length=i:=by rw[zae,zah];omega
 have hql:(bV bs ((X.take i).map aN)).length=i:=by rw[eX (by omega),hrq]
 refine bf (λhlt=>?_) (λhlt=>?_)
 .have e1:=KY L i;have hz:=hL.cf i;have k:=P8 (canon (cf L i)) (canon ((d*e:Nat):Int)) ((aY _).mono (by omega)) ((aY _).mono (by rw[wz];omega)) (by rw[aS];omega);rw[aS,aS,<-hcx]at k;simp (disch:=omega) only[wt,seval,h21,h19,h8,hH8,e1,hq];refine aJ (k) (by rfl) (by simp) (by assumption) ?_;rintro B' E' _ hB1 hE1 ⟨b,c,rfl,hb⟩;simp (disch:=omega) only[wt,seval,fZ,dK,h21,h20,h19,h8,hH8,h9,hH,hql];have et:=jR (q:=X) (i:=i) (by omega);refine⟨⟨i+1,st+1,st8,bs++[(b,c)],E',by omega,by simp[hbs],by omega,?_,by omega,rfl,rfl,rfl,?_,rfl⟩,by omega⟩
  .rw[Fg];exact hnw.append hb (by omega) hB1 (by omega)
  .rw[et,zav,uV (by omega)];rfl
 .simp (disch:=omega) only[wt,seval,h9];obtain rfl:i=L.length:=by omega
  rw[zac (by omega)]at hH;have t:=xW X bs (by omega) hR;refine yD (t) (by first|rfl|(simp only[wt,seval,rqs,gW,fM,iU,fZ,dK,dJ,h21,h20,h19,h8,hH8,h9,hH,Oa];done)) (by first|rfl|(simp only[seval,hH];done)) (by rfl) (by simp) (by simp) ?_;simp only[wt,seval];refine AY 6 9 _ 32 3 ((bV (bs.take (tzq X)) (cqs X))) (by first|rfl|assumption|simp only[wt,seval,rqs,gW,fM,iU,fZ,dK,dJ]) (by first|rfl|assumption|simp only[wt,seval,rqs,gW,fM,iU,fZ,dK,dJ]) (by assumption) ?_;rintro b E2 hE2 hb;refine aQ [.iv (fqp b (bs.take (tzq X)) (cqs X)),ci 0] (by rfl) (by simp (disch:=omega) only[wt,seval]) ?_;intro E hE;obtain⟨e1,e2⟩:=VG (by omega) hnw hE2 (λg cap e=>⟨(hb.2 g cap e).1,(hb.2 g cap e).2.1,(hb.2 g cap e).2.2.1⟩);exact⟨b,_,rfl,e1,e2.mono (zab _) hE⟩
@[reducible] def zW:Zi:=⟨none,λ_=>false,(· == 5),.no⟩

structure TPl (x s y:RQ) (i:Nat):Prop where
 v:qv y=qv x+(i:Rat)*qv s
 z:SzQ (200+i*201) y
 d:nv y.2≠0



theorem iD {b:OB}{bs:List (OB×OB)}{l:List RQ}(h:bs.length=l.length):Je (.iv (fqp b bs l)) (cqw l):=.iv (Vr h)
theorem b0O {g:Nat}{args:List CV}{l:List RQ}{e:Int}(h:ACX Tryz.prog g args (RQp l e)):AC Tryz.prog g args none [cqw l,ci e]:=ACX.plain h λB E r hr=>by
 obtain⟨b,bs,rfl,hb,-⟩:=hr;exact .cons (iD hb) (.cons (.refl _) .nil)
theorem wU (p:List RQ)(h:GQ (2^40) (2^38) p):AC Tryz.prog 15 [cqw p] none [cqp (qvs p),ci 0] :=
 b0O (D8 p h)
theorem a5M (L:List Int)(d e:Nat)(hL:PB (2^31) (2^37) L)(hd:(wd d).length<=2^35)(he:(wd e).length<=2^35)(hd0:d≠0)(he0:e≠0):AC Tryz.prog 90 [cw (L.map canon),cl (wd d),cl (wd e)] none [cqp (Un L ((d*e:Nat):Int)),ci 0] :=
 b0O (P6 L d e hL hd he hd0 he0)
def Tq (p:List RQ)(h:GQ (2^40) (2^38) p):AC Tryz.prog 272 [cqw p] none [ci ((tzq (qvs p):Int)-1),ci 0]:=by
 have n:=wU p h;have hl:=h.1;have htl:=vP (qvs p);rw[rO]at htl;have hq:=Nq (qvs p);refine AC.aj (rs:=[.tmp 2,.tmp 3]) aV Tryz.func272 (by rfl) (by rfl) (by rfl) (by rfl) (by rfl) ?_;simp only[wt,seval];refine ah (n) (by rfl) (by simp) ?_;simp (disch:=omega) only[wt,seval,rqs,hq]
 try rfl
def GI (p:List RQ)(D n k:Nat)(hp:GQ (2^30) (2^36) p)(hC:CB D n k (au (qvs p)))(hn:n<=2^28)(hM:k<=2^33):AC Tryz.prog 19 [cqw p] none [cl (wd (lS (au (qvs p)))),cw ((clr (au (qvs p))).map canon),ci 0]:=by
 have nm:=wU p (hp.mono (by omega) (by omega));have hA:=hC.qb;refine AC.aj (rs:=[.tmp 2,.tmp 3,.tmp 4]) aV Tryz.func19 (by rfl) (by rfl) (by rfl) (by rfl) (by rfl) ?_;simp only[wt,seval];refine ah (nm) (by rfl) (by simp) ?_;simp (disch:=omega) only[wt,seval,rqs];unfold cqs;generalize au (qvs p)=A at *;have hAl:=hA.1;have hq:(A.map aN).length=A.length:=zae _;have hdl:=vg A;have hcl:=vF A;simp (disch:=omega) only[wt,seval,rqs,hq];refine aI (λf H=>∃(i b5K:Nat),i<=A.length/\f 29=.iv (.int .i64 i)/\f 27=.iv (.sl (dN (A.map aN)))/\f 28=.iv (.int .i64 A.length)/\f 5=.iv (.sl (dN (A.map aN)))/\f 7=.hs 26 b5K/\H 26=.blk false b5K 28 1 (zF (((uq A).take i).map wd))) (λf H=>(A.length-bC f 29).toNat) ?_ ?_
 .refine⟨0,1,by omega,?_⟩;simp only[wt,seval,a1M,zaj]
 rintro f H ⟨i,b5K,hi,hF⟩;rw[aC hF.1];simp (disch:=omega) only[wt,seval,hF];refine bf (λhlt=>?_) (λhlt=>?_)
 .have hlt':i<A.length:=by omega
  have hdq:(((uq A).take i).map wd).length=i:=by rw[zae,zah];omega
  have e:=dZ hlt';have e2:dh (aN (cfq A i)).2=dh (wd (cfq A i).den):=rfl;simp (disch:=omega) only[wt,seval,rqs,oq,Yk,hF,hq,hdq,e,e2];refine⟨⟨i+1,b5K+1,by omega,?_⟩,by omega⟩;rw[Yl A hlt']
  (repeat' apply zaa)<;>first|rfl|omega
 .have hie:i=A.length:=by omega
  subst hie;rw[zac (by omega)]at hF;have m:=Yr (uq A) k (λi=>hC.U2 i) (by omega) IY hA.uq (by omega);have hcd:=hC.og;have hcn:=kG A;simp (disch:=omega) only[wt,seval,hF];refine ah (m) (by simp only[gV,qU,hF];rfl) (by simp) ?_;simp (disch:=omega) only[wt,seval,rqs,hF,hq];rw[show Cm (uq A)=lS A from rfl];refine bU 11 11 30 2 (by simp only[wt,seval]) (λf H=>∃(i st:Nat),i<=A.length/\f 43=.iv (.int .i64 i)/\f 41=.iv (.sl (dN (A.map aN)))/\f 42=.iv (.int .i64 A.length)/\f 10=.iv (.sl (dh (wd (lS A))))/\f 11=.hs 11 st/\H 11=.blk false st 30 2 (bZ (((clr A).take i).map canon))) (λf H=>(A.length-bC f 43).toNat) ?_ ?_
  .refine⟨0,(H 11).stamp+1,by omega,?_⟩;simp only[wt,seval,fJ,fH,zaj]
  rintro f H ⟨i,st,hi,hF⟩;rw[aC hF.1];simp (disch:=omega) only[wt,seval,hF];refine bf (λhlt=>?_) (λhlt=>?_)
  .have hlt':i<A.length:=by omega
   have hcq:(((clr A).take i).map canon).length=i:=by rw[zae,zah];omega
   have e:=dZ hlt';have e2:dh (aN (cfq A i)).2=dh (wd (cfq A i).den):=rfl;have e3:jy (aN (cfq A i)).1=jy (canon (cfq A i).num):=rfl;have hc:qz (cfq A i)<=k:=by rw[oN hlt'];exact hA.2 _ (zaY hlt')
   have hc2:=jg (cfq A i);have n1:=CO false (lS A) (by omega);have n2:=CO false (cfq A i).den (by omega);rw[sgf]at n1 n2;have hdv:((cfq A i).den:Int)∣(lS A:Int):=zb4.mpr (rJ hlt');have x:=zU (canon (lS A:Int)) (canon ((cfq A i).den:Int)) ((aY _).mono (by rw[wz];omega)) ((aY _).mono (by rw[wz];omega)) (by rw[aS];have:=(cfq A i).den_nz;omega) (by rw[aS,aS];exact hdv);rw[aS,aS]at x;have zd:=yH hdv;rw[wz]at zd;have w:=wu (canon (cfq A i).num) (canon ((lS A:Int)/((cfq A i).den:Int))) ((aY _).mono (by omega)) ((aY _).mono (by omega));rw[aS,aS,<-Dn hlt']at w;simp (disch:=omega) only[wt,seval,rqs,hF,hq,e,e2];refine .inl ⟨aP (by kernel_rfl),?_⟩;refine ah (n1) (by rfl) (by simp) ?_;simp (disch:=omega) only[wt,seval,e2];refine ah (n2) (by rfl) (by simp) ?_;simp (disch:=omega) only[wt,seval];refine ah (x) (by rfl) (by simp) ?_;simp (disch:=omega) only[wt,seval,rqs,hF,e3];refine⟨aX (by kernel_rfl),?_⟩;refine ah (w) (by rfl) (by simp) ?_;simp (disch:=omega) only[wt,seval,hF,hcq];have et:=tC (q:=clr A) (i:=i) (by omega);refine⟨⟨i+1,st+1,by omega,?_⟩,by omega⟩;rw[et,zav]
   (repeat' apply zaa)<;>first|rfl|omega
  .have hie:i=A.length:=by omega
   subst hie;rw[zac (by omega)]at hF;simp (disch:=omega) only[wt,seval,hF]
   try rfl
theorem P9 (p:List RQ)(n k:Nat)(hp:GQ n k p)(hn:n<=2^28)(hM:n*k+k+2<=2^33):AC Tryz.prog 19 [cqw p] none [cl (wd (lS (au (qvs p)))),cw ((clr (au (qvs p))).map canon),ci 0] :=
 GI p _ n _ (hp.mono (by omega) (by omega)) (b9B hp.qb.au) hn (by omega)

def KG {bs:List (OB×OB)}{l:List RQ}(h:bs.length=l.length){i:Nat}(hi:i<l.length)(b c:OB)(r:RQ):(bV bs l).set i (frq b c r)=bV (bs.set i (b,c)) (l.set i r):=by
 refine zeM λj=>?_;have hb:(bs.set i (b,c)).length=(l.set i r).length:=by rw[zcV,zcV,h]
 by_cases hj:j=i
 .subst hj;rw[List.getElem?_set_self (by rw[eX h];exact hi),Iw hb (by rw[zcV];exact hi)];have h2:j<bs.length:=by omega
  simp[List.getD,hi,h2]
 .rw[zdI (λe=>hj e.symm)];simp only[bV,zce];rw[zdI (λe=>hj e.symm),zdI (λe=>hj e.symm)]
theorem zT:[IV.bool false,IV.own none 148 1 [],IV.own none 148 1 []]=frq none none q0:=rfl
def VE (a b:RQ)(ha:SzQ (2^35) a)(hb:SzQ (2^35) b)(h0:nv a.2≠0)(h1:nv b.2≠0):ACX Tryz.prog 88 [cqq a,cqq b] (a4r (aN (qv a-qv b)) 0):=by
 have n:=Zg b.1 (hb.1.mono (by omega));have z:=oO hb.1;have m:=a5Q a (canon (-iv b.1),b.2) ha ⟨(aY _).mono (by rw[sD];exact z),hb.2⟩ h0 h1;rw[b1d,<-zeJ]at m;refine ACX.aj zi0 (rs:=[.cell 4 32,.tmp 5]) aV Tryz.func88 (by rfl) (by rfl) (by rfl) (by rfl) (by rfl) (GY _ _) (λB0=>?_);simp (disch:=omega) only[wt,seval,rqs];refine ah (n) (by rfl) (by simp) ?_;simp (disch:=omega) only[wt,seval,rqs];refine aJ (m) (by rfl) (by simp) (by rfl) ?_;rintro B1 E1 _ hB1 hE1 ⟨b1,c1,rfl,hb1⟩;simp (disch:=omega) only[wt,seval,fZ];refine aQ [.agg (frq b1 c1 (aN (qv a-qv b))),ci 0] (by rfl) (by simp (disch:=omega) only[wt,seval,dK]) ?_;intro E hE;exact⟨b1,c1,rfl,hb1.mono hB1 (by omega)⟩
def VI (a b:RQ)(ha:SzQ (2^35) a)(hb:SzQ (2^35) b)(h0:nv a.2≠0)(h1:nv b.2≠0):ACX Tryz.prog 96 [cqq a,cqq b] (a4r (aN (qv a*qv b)) 0):=by
 have c:=zC a b (ha.mono (by omega)) (hb.mono (by omega)) h0 h1;have z1:=fA (iv a.1) (iv b.1);have y1:=oO ha.1;have y2:=oO hb.1;have y3:=D9 ha.2;have y4:=D9 hb.2;have s:=wu a.1 b.1 (ha.1.mono (by omega)) (hb.1.mono (by omega));have m:=MV a.2 b.2 ha.2.2 hb.2.2 (zad ha.2.1 (by omega)) (zad hb.2.1 (by omega));have hw:(wd (nv a.2*nv b.2)).length<=2^35+2^35:=yV y3 y4;have r:=AB (canon (iv a.1*iv b.1)) (wd (nv a.2*nv b.2)) ((aY _).mono (by omega)) ⟨by omega,bg _⟩ (by rw[bJ];exact zbN h0 h1);rw[aS,bJ,a8W]at r;refine ACX.aj zi0 (rs:=[.cell 4 32,.tmp 5]) aV Tryz.func96 (by rfl) (by rfl) (by rfl) (by rfl) (by rfl) (GY _ _) (λB0=>?_);simp (disch:=omega) only[wt,seval,rqs,MB];refine ah (c) (by rfl) (by simp) ?_;simp (disch:=omega) only[wt,seval,rqs];refine .inl ⟨aP (by kernel_rfl),?_⟩;refine ah (s) (by rfl) (by simp) ?_;simp (disch:=omega) only[wt,seval];refine ah (m) (by rfl) (by simp) ?_;simp only[wt,seval];refine aJ (r) (by rfl) (by simp) (by rfl) ?_;rintro B1 E1 _ hB1 hE1 ⟨b1,c1,rfl,hb1⟩;simp (disch:=omega) only[wt,seval,fZ];refine⟨aX (by kernel_rfl),?_⟩;refine aQ [.agg (frq b1 c1 (aN (qv a*qv b))),ci 0] (by rfl) (by simp (disch:=omega) only[wt,seval,dK]) ?_;intro E hE;exact⟨b1,c1,rfl,hb1.mono hB1 (by omega)⟩
theorem a6G (x y z:IV)(w:IV):lay (λi=>[(0,2),(2,1)][i]?) [x,y,z] ([1].zip [[w]])=some ((1=1/\2+1<=3)/\True,[x,y,w]):=rfl
def P7:ACX Tryz.prog 94 [] (RRq (aN 0)):=by
 have m:=a1I 1 (by decide);rw[show wd 1=[1] by decide +kernel]at m;have e:aN 0=((false,[]),[1]):=by decide +kernel
 rw[e];refine ACX.aj ziX (rs:=[.cell 0 32]) aV Tryz.func94 (by rfl) (by rfl) (by rfl) (by rfl) (by rfl) (b4p _) (λB=>?_);simp (disch:=omega) only[wt,seval,zT];refine aJ (m) (by rfl) (by simp) (by rfl) ?_;rintro B1 E1 _ hB1 hE1 ⟨b,rfl,hb⟩;simp (disch:=omega) only[wt,seval,zT,a6G];refine aQ [.agg (frq none b ((false,[]),[1]))] (by rfl) (by simp (disch:=omega) only[wt,seval,zT];rfl) ?_;intro E hE;exact⟨none,b,rfl,(show Nw B E ([]++oid b) by rw[zcg];exact hb.mono hB1 (by omega))⟩
theorem b0B (a b:RQ)(ha:SzQ (2^35) a)(hb:SzQ (2^35) b)(h0:nv a.2≠0)(h1:nv b.2≠0):AC Tryz.prog 96 [cqq a,cqq b] none [cqz (qv a*qv b),ci 0] :=
 a1r (VI a b ha hb h0 h1)
theorem b0y (a b:RQ)(ha:SzQ (2^35) a)(hb:SzQ (2^35) b)(h0:nv a.2≠0)(h1:nv b.2≠0):AC Tryz.prog 88 [cqq a,cqq b] none [cqz (qv a-qv b),ci 0] :=
 a1r (VE a b ha hb h0 h1)
theorem MI:AC Tryz.prog 94 [] none [cqz 0] :=
 b6R (P7)
def VL (A:List Rat)(n:Int)(h:QB (2^40) (2^38) A):AC Tryz.prog 105 [cqw (A.map aN),ci n] none [cqz (if n<0 then 0 else cfq A n.toNat)]:=by
 have hl:=h.1;have hq:(A.map aN).length=A.length:=zae _;refine AC.aj (rs:=[.cell 4 32]) aV Tryz.func105 (by rfl) (by rfl) (by rfl) (by rfl) (by rfl) ?_;by_cases h0:n<0
 .rw[zas h0];simp (disch:=omega) only[wt,seval,h0];refine ah (MI) (by rfl) (by simp) ?_;simp (disch:=omega) only[wt,seval,rqs]
  try rfl
 .rw[zam h0];obtain⟨i,rfl⟩:∃i:Nat,n=i:=⟨n.toNat,by omega⟩;rw[zei];by_cases h1:i<A.length
  .have h2:¬(A.length:Int)<=(i:Int):=by omega
   have m:=VH (aN (cfq A i)) (cO (h.cz (by omega) i)) (cZ _);rw[eF]at m;have e:=dZ h1;simp (disch:=omega) only[wt,seval,rqs,h0,h2,hq,e];refine ah (m) (by rfl) (by simp) ?_;simp (disch:=omega) only[wt,seval,rqs]
   try rfl
  .have h2:(A.length:Int)<=(i:Int):=by omega
   rw[ig (by omega)];simp (disch:=omega) only[wt,seval,rqs,h0,h2,hq];refine ah (MI) (by rfl) (by simp) ?_;simp (disch:=omega) only[wt,seval,rqs]
   try rfl
def AO (A:List Rat)(i:Nat)(h:QB (2^40) (2^38) A):AC Tryz.prog 105 [cqw (A.map aN),ci i] none [cqz (cfq A i)]:=by
 have:=VL A i h;rwa [zam (by omega),zei]at this
def a5R (p:List RQ)(n:Int)(h:GQ (2^40) (2^38) p):AC Tryz.prog 21 [cqw p,ci n] none [cqz (if n<0 then 0 else cfq (qvs p) n.toNat),ci 0]:=by
 have m:=wU p h;have c:=VL (au (qvs p)) n h.qb.au;rw[dQ]at c;refine AC.aj (rs:=[.cell 4 32,.tmp 5]) aV Tryz.func21 (by rfl) (by rfl) (by rfl) (by rfl) (by rfl) ?_;simp (disch:=omega) only[wt,seval];refine ah (m) (by rfl) (by simp) ?_;simp (disch:=omega) only[wt,seval];refine ah (c) (by rfl) (by simp) ?_;simp (disch:=omega) only[wt,seval,rqs]
 try rfl
def a5N (r:RQ)(n:Nat)(h:SzQ (2^38) r)(h0:nv r.2≠0)(hn:n<=4096):AC Tryz.prog 228 [cqq r,ci n] none [cqp (uQ (qv r) n),ci 0]:=by
 have m:=VH r h h0;have h1:¬(n:Int)<0:=by omega
 have h2:¬4096<(n:Int):=by omega
 have t:=OY (uQ (qv r) n) ((VA (n:=n) (JV h h0) (by omega)).mono (by omega) (zab _));rw[Yo]at t;refine AC.aj (rs:=[.tmp 4,.tmp 5]) aV Tryz.func228 (by rfl) (by rfl) (by rfl) (by rfl) (by rfl) ?_;simp (disch:=omega) only[wt,seval,rqs];refine ah (m) (by rfl) (by simp) ?_;simp (disch:=omega) only[wt,seval,rqs];simp only[wt,seval,h1,h2];refine bU 8 8 32 3 (by simp only[wt,seval]) (λf H=>∃(i st st6:Nat),i<=n/\f 26=.iv (.int .i64 i)/\f 25=.iv (.int .i64 n)/\f 6=.hp 6 st6 0 0/\H 6=.blk false st6 32 3 [pW (aN (qv r))]/\f 8=.hs 8 st/\H 8=.blk false st 32 3 (dN ((List.replicate i 0).map aN))) (λf H=>(n-bC f 26).toNat) ?_ ?_
 .refine⟨0,1,1,by omega,?_⟩;simp only[wt,seval,rqs,fJ,fH,zdq]
 rintro f H ⟨i,st,st6,hi,hF⟩;rw[aC hF.1];simp (disch:=omega) only[wt,seval,hF];have hq:((List.replicate i (0:Rat)).map aN).length=i:=by simp
 refine bf (λhlt=>?_) (λhlt=>?_)
 .simp (disch:=omega) only[wt,seval,hF];refine ah (MI) (by rfl) (by simp) ?_;simp (disch:=omega) only[wt,seval,rqs,hF,hq];refine⟨⟨i+1,st+1,st6,by omega,?_⟩,by omega⟩;rw[a0q]
  (repeat' apply zaa)<;>first|rfl|omega
 .obtain rfl:i=n:=by omega
  simp (disch:=omega) only[wt,seval,rqs,hF,hq];refine ah (t) (by rfl) (by simp) ?_;simp (disch:=omega) only[wt,seval]
end Go.Proofs.YtdpngipofekcfaaGreat
