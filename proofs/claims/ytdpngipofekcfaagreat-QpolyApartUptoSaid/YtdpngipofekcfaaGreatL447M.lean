/-
 Contracts of the functions that the law reaches.
-/
import Derived.Test.YtdpngipofekcfaaGreatL438M
set_option maxHeartbeats 2000000
namespace Go.Proofs.YtdpngipofekcfaaGreat
open Go Go.Proofs Go.AL
set_option linter.unusedSimpArgs false
set_option linter.unusedVariables false
set_option linter.defProp false
@[reducible] def zQ:Zi:=⟨some (148,1),fun _=>false,fun d=>d == 293 || d == 295,.no⟩
theorem kE : @Zi.st zQ=.no:=rfl
theorem a5W (e:Nat) : @Zi.bx zQ e=false:=rfl
theorem a2i (e:Nat) : @Zi.bs zQ e=(e == 293 || e == 295):=rfl
theorem NR : @zsl zQ=.own none 148 1 []:=rfl
def inO:Code→Option Code
 | .block _ c=>some c
 | .loop c=>some c
 | _=>none
def Ce (c:Code):Option Code:=(OM 6 c).bind fun c=>(kQ 1 c).bind fun c=>(inO c).bind fun c=>(inO c).bind fun c=>(kQ 1 c).bind fun c=>(OM 0 c).bind inO
theorem PK.rem {s:PS}{B:Nat}{H:AL.Hp}(h:PK s B H)(E:Nat):PK s E (bg H 999 (.mrk E)):=by
 obtain⟨a1,a2,a3,a4,a5,a6,a7,k0,k1,k2,k3,k4,k5,k6,k7,k9⟩:=h;refine⟨a1,a2,a3,a4,a5,a6,a7,?_,?_,?_,?_,?_,?_,?_,?_,au _ _ _⟩
 ·rw[ak _ _ (by omega)];exact k0
 ·rw[ak _ _ (by omega)];exact k1
 ·rw[ak _ _ (by omega)];exact k2
 ·rw[ak _ _ (by omega)];exact k3
 ·rw[ak _ _ (by omega)];exact k4
 ·rw[ak _ _ (by omega)];exact k5
 ·rw[ak _ _ (by omega)];exact k6
 ·rw[ak _ _ (by omega)];exact k7
def PKX (s:PS)(H:AL.Hp):Prop:=∃ B,PK s B H
theorem PKX.rem {s:PS}{H:AL.Hp}(h:PKX s H)(E:Nat):PKX s (bg H 999 (.mrk E)):=by
 obtain⟨B,h⟩:=h;exact⟨E,h.rem E⟩
theorem PKX.pk {s:PS}{H:AL.Hp}(h:PKX s H)(E:Nat):PK s E (bg H 999 (.mrk E)):=by
 obtain⟨B,h⟩:=h;exact h.rem E
theorem PKX.upd {s:PS}{H:AL.Hp}(h:PKX s H){k:Nat}(hk:k∉pks)(c:HC):PKX s (bg H k c):=by
 obtain⟨B,h⟩:=h;exact⟨B,h.upd hk c⟩
structure KR (P R:List RQ) (W V S T M D I U Q:List RQ) (eD:Int) (kn:Nat) (wz xz:List Int) (cr fr:RQ) (b:OB) (bs:List (OB×OB)) (b':OB) (bs':List (OB×OB)) (n8:Int) (s:PS) (E:Nat)
  (b1 b2 b3 b4 b5 b6 b7 b8 b9 b10:OB) (bs1 bs2 bs3 bs4 bs5 bs6 bs7 bs8 bs9 Ei:List (OB×OB)) (bk ow ox c1 c2 f1 f2:OB) (ows oxs:List OB) (NT NS:Nat) (f:AL.Fr) (H:AL.Hp):Prop where
 g5:f 5=.hp 900000 1 0 0
 g6:f 6=.iv (fqp b bs P)
 g7:f 7=.iv (fqp b' bs' R)
 g8:f 8=.iv (.int .i64 n8)
 g9:f 9=.iv (.sl (fD W))
 g10:f 10=.iv (.sl (fD V))
 g11:f 11=.iv (fqp b1 bs1 S)
 g13:f 13=.iv (fqp b2 bs2 T)
 g15:f 15=.iv (fqp b3 bs3 M)
 g17:f 17=.iv (fqp b4 bs4 W)
 g19:f 19=.iv (fqp b5 bs5 W)
 g21:f 21=.iv (fqp b6 bs6 U)
 g22:f 22=.iv (fqp b7 bs7 Q)
 g23:f 23=.iv (.int .i64 eD)
 g24:f 24=.iv (fqp b8 bs8 D)
 g26:f 26=.iv (fqp b9 bs9 I)
 g28:f 28=.iv (jo bk (wd kn))
 g29:f 29=.iv (uK ow ows wz)
 g31:f 31=.hp 31 NT 0 0
 h31:H 31=.blk false NT 32 3 [frq c1 c2 cr]
 g32:f 32=.iv (uK ox oxs xz)
 g34:f 34=.hp 34 NS 0 0
 h34:H 34=.blk false NS 32 3 [frq f1 f2 fr]
 g36:f 36=.iv (fqp b10 Ei W)
 pk:PK s E H
 l1:bs1.length=S.length∧bs2.length=T.length∧bs3.length=M.length∧bs4.length=W.length∧bs5.length=W.length∧bs6.length=U.length∧bs7.length=Q.length∧bs8.length=D.length∧bs9.length=I.length∧Ei.length=W.length
 l2:ows.length=wz.length∧oxs.length=xz.length
def a0y (b1 b2 b3 b4 b5 b6 b7 b8 b9 b10:OB)(bs1 bs2 bs3 bs4 bs5 bs6 bs7 bs8 bs9 Ei:List (OB×OB))(bk ow ox c1 c2 f1 f2:OB)(ows oxs:List OB)(q:Nat):Nat :=
 (List.count q (oid b1)+List.count q (idq bs1))+(List.count q (oid b2)+List.count q (idq bs2))+(List.count q (oid b3)+List.count q (idq bs3))+(List.count q (oid b4)+List.count q (idq bs4))+(List.count q (oid b5)+List.count q (idq bs5))+(List.count q (oid b6)+List.count q (idq bs6))+(List.count q (oid b7)+List.count q (idq bs7))+(List.count q (oid b8)+List.count q (idq bs8))+(List.count q (oid b9)+List.count q (idq bs9))+(List.count q (oid b10)+List.count q (idq Ei))+List.count q (oid bk)+(List.count q (oid ow)+List.count q (ids ows))+(List.count q (oid ox)+List.count q (ids oxs))+(List.count q (oid c1)+List.count q (oid c2))+(List.count q (oid f1)+List.count q (oid f2))
set_option maxRecDepth 8000 in
set_option maxHeartbeats 8000000 in
theorem a3T {P R W V S T M D I U Q:List RQ}{eD:Int}{kn:Nat}{wz xz:List Int}{cr fr:RQ}(v:RV P R W V S T M D I U Q eD kn wz xz cr fr){b:OB}{bs:List (OB×OB)}{b':OB}{bs':List (OB×OB)}(l1:bs.length=P.length)(l2:bs'.length=R.length){n8:Int}{s:PS}{B0 E nl nr:Nat}(f:AL.Fr)(H:AL.Hp)(g5:f 5=.hp 900000 1 0 0)(g6:f 6=.iv (fqp b bs P))(g7:f 7=.iv (fqp b' bs' R))(g8:f 8=.iv (.int .i64 n8))(hp:PK s E H)(hb:BK s B0 E [] nl nr) :
  ∃ X,(Tryz.f3.body.bind Ce).bind (kQ 1)=some X∧@AWs zQ Tryz.prog (fun f H=>∃ E b1 b2 b3 b4 b5 b6 b7 b8 b9 b10 bs1 bs2 bs3 bs4 bs5 bs6 bs7 bs8 bs9 Ei bk ow ox c1 c2 f1 f2 ows oxs NT NS pend,KR P R W V S T M D I U Q eD kn wz xz cr fr b bs b' bs' n8 s E b1 b2 b3 b4 b5 b6 b7 b8 b9 b10 bs1 bs2 bs3 bs4 bs5 bs6 bs7 bs8 bs9 Ei bk ow ox c1 c2 f1 f2 ows oxs NT NS f H∧BK s B0 E pend nl nr∧∀ q,List.count q pend=a0y b1 b2 b3 b4 b5 b6 b7 b8 b9 b10 bs1 bs2 bs3 bs4 bs5 bs6 bs7 bs8 bs9 Ei bk ow ox c1 c2 f1 f2 ows oxs q) 13 X (fun _ _ _=>False) f H:=by
 refine⟨_,rfl,?_⟩;have k9:=hp.mark;have sP:=fV (b:=b) l1;have sR:=fV (b:=b') l2;simp only[wt,seval,aV,kE,g6];refine ah ((v.f1.soft (.cons sP .nil))) (by rfl) (by simp) ?_;simp only[wt,seval,kE,g7];refine ah ((v.f2.soft (.cons sR .nil))) (by rfl) (by simp) ?_;simp only[wt,seval,aV,kE,g6,g7];refine aK ((v.add.soft (.cons sP (.cons sR .nil)))) (by rfl) (by simp) (by assumption) ?_;rintro B1 E1 _ hB1 hE1 ⟨b1,bs1,rfl,m1,n1⟩;simp (disch:=omega) only[wt,seval,aV,kE,g6,g7];have y1:=hb.new hB1 hE1 n1;refine aK ((v.sub.soft (.cons sP (.cons sR .nil)))) (by rfl) (by simp) (by rfl) ?_;rintro B2 E2 _ hB2 hE2 ⟨b2,bs2,rfl,m2,n2⟩;simp (disch:=omega) only[wt,seval,aV,kE,g6,g7];have y2:=y1.new hB2 hE2 n2;refine aK ((v.mul.soft (.cons sP (.cons sR .nil)))) (by rfl) (by simp) (by rfl) ?_;rintro B3 E3 _ hB3 hE3 ⟨b3,bs3,rfl,m3,n3⟩;simp (disch:=omega) only[wt,seval,aV,kE,g6];have y3:=y2.new hB3 hE3 n3;refine aK ((v.nrm.soft (.cons sP .nil))) (by rfl) (by simp) (by rfl) ?_;rintro B4 E4 _ hB4 hE4 ⟨b4,bs4,rfl,m4,n4⟩;simp (disch:=omega) only[wt,seval,aV,kE,g6];have y4:=y3.new hB4 hE4 n4;refine aK ((v.ad0.soft (.cons sP (.cons (.refl _) .nil)))) (by rfl) (by simp) (by rfl) ?_;rintro B5 E5 _ hB5 hE5 ⟨b5,bs5,rfl,m5,n5⟩;simp (disch:=omega) only[wt,seval,aV,kE,g6,g7];have y5:=y4.new hB5 hE5 n5;refine aK ((v.div.soft (.cons sP (.cons sR .nil)))) (by rfl) (by simp) (by rfl) ?_;rintro B6 E6 _ hB6 hE6 ⟨b6,bs6,b7,bs7,rfl,m6,m7,n6⟩;simp (disch:=omega) only[wt,seval,aV,kE,g6];have y6:=y5.new hB6 hE6 n6;refine aK ((v.der.soft (.cons sP .nil))) (by rfl) (by simp) (by rfl) ?_;rintro B8 E8 _ hB8 hE8 ⟨b8,bs8,rfl,m8,n8'⟩;simp (disch:=omega) only[wt,seval,aV,kE,g6];have y8:=y6.new hB8 hE8 n8';refine aK ((v.int.soft (.cons sP .nil))) (by rfl) (by simp) (by rfl) ?_;rintro B9 E9 _ hB9 hE9 ⟨b9,bs9,rfl,m9,n9⟩;simp (disch:=omega) only[wt,seval,aV,kE,g6];have y9:=y8.new hB9 hE9 n9;refine aK ((v.clr.soft (.cons sP .nil))) (by rfl) (by simp) (by rfl) ?_;rintro Bk Ek _ hBk hEk ⟨bk,ow,ows,rfl,mk,nk⟩;simp (disch:=omega) only[wt,seval,aV,kE,g6];have yk:=y9.new hBk hEk nk;refine aK ((v.prt.soft (.cons sP .nil))) (by rfl) (by simp) (by rfl) ?_;rintro Bx Ex _ hBx hEx ⟨c1,c2,ox,oxs,rfl,mx,nx⟩;simp (disch:=omega) only[wt,seval,aV,cO,kE,a5W,NR,g6];have yx:=yk.new hBx hEx nx;refine aK ((v.cof.soft (.cons sP (.cons (.refl _) .nil)))) (by rfl) (by simp) (by rfl) ?_;rintro Bf Ef _ hBf hEf ⟨f1,f2,rfl,nf⟩;simp (disch:=omega) only[wt,seval,aV,cO,kE,a5W,NR,g6];have yf:=yx.new hBf hEf nf;refine aK ((v.pow.soft (.cons sP (.cons (.refl _) .nil)))) (by rfl) (by simp) (by rfl) ?_;rintro Bp Ep _ hBp hEp ⟨b10,Ei,rfl,m10,n10⟩;simp (disch:=omega) only[wt,seval,cZ,kE];have yp:=yf.new hBp hEp n10;refine⟨Ep,b1,b2,b3,b4,b5,b6,b7,b8,b9,b10,bs1,bs2,bs3,bs4,bs5,bs6,bs7,bs8,bs9,Ei,bk,ow,ox,c1,c2,f1,f2,ows,oxs,(H 31).stamp+1,(H 34).stamp+1,_,⟨by simp only[wt,seval,g5],by simp only[wt,seval,g6],by simp only[wt,seval,g7],by simp only[wt,seval,g8],by simp only[wt,seval],by simp only[wt,seval],by simp only[wt,seval],by simp only[wt,seval],by simp only[wt,seval],by simp only[wt,seval],by simp only[wt,seval],by simp only[wt,seval],by simp only[wt,seval],by simp only[wt,seval],by simp only[wt,seval],by simp only[wt,seval],by simp only[wt,seval],by simp only[wt,seval],by simp only[wt,seval],by simp only[wt,seval],by simp only[wt,seval],by simp only[wt,seval],by simp only[wt,seval],by simp only[wt,seval],?_,⟨m1,m2,m3,m4,m5,m6,m7,m8,m9,m10⟩,⟨mk,mx⟩⟩,yp,fun q=>?_⟩
 ·refine PKX.pk ?_ _
  repeat first|exact⟨_,hp⟩|refine PKX.rem ?_ _|refine PKX.upd ?_ (fZ (by decide)) _
 ·simp only[List.count_append,List.count_nil,a0y];omega
set_option linter.defProp false
structure SPA (s:PS) (L:List (OB×List Nat)) (Q:List QX):Prop where
 hf:s.fs=L.map fnr
 hw:s.ws=L.map wsr
 hl:L.length≤100000
 hn:∀ x∈L,x.2.length≤2^41
 hz:s.zf=[]
 hq:s.qf=Q.map qfr
 hQ:Q.length≤100000
 hx:∀ x∈Q,x.2.1.length=x.2.2.length∧x.2.2.length≤1000
theorem LL.bq {l:List RQ}(h:LL l):BQ (2^40) (2^40) l:=⟨Nat.le_trans h.1 (by decide),h.2⟩
set_option maxRecDepth 8000 in
set_option maxHeartbeats 8000000 in
theorem a3S {P R W V S T M D I U Q:List RQ}{eD:Int}{kn:Nat}{wz xz:List Int}{cr fr:RQ}(v:RV P R W V S T M D I U Q eD kn wz xz cr fr){b:OB}{bs:List (OB×OB)}{b':OB}{bs':List (OB×OB)}{n8:Int}(hn8:n8=0∨n8=1){s:PS}(hsp:n8=0→∃ L Q,SPA s L Q){E:Nat}{b1 b2 b3 b4 b5 b6 b7 b8 b9 b10:OB}{bs1 bs2 bs3 bs4 bs5 bs6 bs7 bs8 bs9 Ei:List (OB×OB)}{bk ow ox c1 c2 f1 f2:OB}{ows oxs:List OB}{NT NS:Nat}(f:AL.Fr)(H:AL.Hp)(k:KR P R W V S T M D I U Q eD kn wz xz cr fr b bs b' bs' n8 s E b1 b2 b3 b4 b5 b6 b7 b8 b9 b10 bs1 bs2 bs3 bs4 bs5 bs6 bs7 bs8 bs9 Ei bk ow ox c1 c2 f1 f2 ows oxs NT NS f H) :
  ∃ X,(Tryz.f3.body.bind Ce).bind (kQ 14)=some X∧@AWs zQ Tryz.prog (fun f H=>KR P R W V S T M D I U Q eD kn wz xz cr fr b bs b' bs' n8 s E b1 b2 b3 b4 b5 b6 b7 b8 b9 b10 bs1 bs2 bs3 bs4 bs5 bs6 bs7 bs8 bs9 Ei bk ow ox c1 c2 f1 f2 ows oxs NT NS f H) 1 X (fun _ _ _=>False) f H:=by
 refine⟨_,rfl,?_⟩;obtain⟨g5,g6,g7,g8,g9,g10,g11,g13,g15,g17,g19,g21,g22,g23,g24,g26,g28,g29,g31,h31,g32,g34,h34,g36,pk,l1,l2⟩:=k;rcases hn8 with rfl|rfl
 ·obtain⟨L,Qs,sp⟩:=hsp rfl;simp (disch:=omega) only[wt,seval,aV,kE,g5,g8];refine uI (Vy s E L sp.hf sp.hw sp.hl sp.hn sp.hz Qs sp.hq sp.hQ sp.hx) pk ?_;rintro _ s' E' H' ⟨rfl,rfl,rfl⟩ hp' hk;simp (disch:=omega) only[wt,seval,cZ];exact⟨by simp only[wt,seval,g5],by simp only[wt,seval,g6],by simp only[wt,seval,g7],by simp only[wt,seval,g8],by simp only[wt,seval,g9],by simp only[wt,seval,g10],by simp only[wt,seval,g11],by simp only[wt,seval,g13],by simp only[wt,seval,g15],by simp only[wt,seval,g17],by simp only[wt,seval,g19],by simp only[wt,seval,g21],by simp only[wt,seval,g22],by simp only[wt,seval,g23],by simp only[wt,seval,g24],by simp only[wt,seval,g26],by simp only[wt,seval,g28],by simp only[wt,seval,g29],by simp only[wt,seval,g31],(hk 31 (fZ (by decide))).trans h31,by simp only[wt,seval,g32],by simp only[wt,seval,g34],(hk 34 (fZ (by decide))).trans h34,by simp only[wt,seval,g36],hp',l1,l2⟩
 ·simp (disch:=omega) only[wt,seval,aV,cZ,kE,g8];exact⟨by simp only[wt,seval,g5],by simp only[wt,seval,g6],by simp only[wt,seval,g7],by simp only[wt,seval,g8],by simp only[wt,seval,g9],by simp only[wt,seval,g10],by simp only[wt,seval,g11],by simp only[wt,seval,g13],by simp only[wt,seval,g15],by simp only[wt,seval,g17],by simp only[wt,seval,g19],by simp only[wt,seval,g21],by simp only[wt,seval,g22],by simp only[wt,seval,g23],by simp only[wt,seval,g24],by simp only[wt,seval,g26],by simp only[wt,seval,g28],by simp only[wt,seval,g29],by simp only[wt,seval,g31],h31,by simp only[wt,seval,g32],by simp only[wt,seval,g34],h34,by simp only[wt,seval,g36],pk,l1,l2⟩
set_option maxRecDepth 8000 in
set_option maxHeartbeats 8000000 in
theorem a3R {P R W V S T M D I U Q:List RQ}{eD:Int}{kn:Nat}{wz xz:List Int}{cr fr:RQ}(v:RV P R W V S T M D I U Q eD kn wz xz cr fr){b:OB}{bs:List (OB×OB)}{b':OB}{bs':List (OB×OB)}{n8:Int}{s:PS}{E:Nat}{b1 b2 b3 b4 b5 b6 b7 b8 b9 b10:OB}{bs1 bs2 bs3 bs4 bs5 bs6 bs7 bs8 bs9 Ei:List (OB×OB)}{bk ow ox c1 c2 f1 f2:OB}{ows oxs:List OB}{NT NS:Nat}(f:AL.Fr)(H:AL.Hp)(k:KR P R W V S T M D I U Q eD kn wz xz cr fr b bs b' bs' n8 s E b1 b2 b3 b4 b5 b6 b7 b8 b9 b10 bs1 bs2 bs3 bs4 bs5 bs6 bs7 bs8 bs9 Ei bk ow ox c1 c2 f1 f2 ows oxs NT NS f H) :
  ∃ X,(Tryz.f3.body.bind Ce).bind (kQ 15)=some X∧@AWs zQ Tryz.prog (fun f H=>KR P R W V S T M D I U Q eD kn wz xz cr fr b bs b' bs' n8 s E b1 b2 b3 b4 b5 b6 b7 b8 b9 b10 bs1 bs2 bs3 bs4 bs5 bs6 bs7 bs8 bs9 Ei bk ow ox c1 c2 f1 f2 ows oxs NT NS f H) 3 X (fun _ _ _=>False) f H:=by
 refine⟨_,rfl,?_⟩;obtain⟨g5,g6,g7,g8,g9,g10,g11,g13,g15,g17,g19,g21,g22,g23,g24,g26,g28,g29,g31,h31,g32,g34,h34,g36,pk,l1,l2⟩:=k;obtain⟨m1,m2,m3,m4,m5,m6,m7,m8,m9,m10⟩:=l1;obtain⟨mw,mx⟩:=l2;obtain⟨zW,zV,zS,zT,zM,zD,zI,zU,zQ'⟩:=v.ll;have sS:=iW zS.bq;have sT:=iW zT.bq;have sM:=iW zM.bq;have sW:=iW zW.bq;have sD:=iW zD.bq;have sI:=iW zI.bq;have sk:=VI (a:=kn) (Nat.le_trans v.sk (by decide));have sw:=Fa (v.sw.2.mono (n':=2^40) (k':=2^43) (by omega) (by omega));have sx:=Fa (v.sx.2.mono (n':=2^40) (k':=2^43) (by omega) (by omega));have sc:=Kv (v.sc.1.mono (by decide:2^40≤2^43));have sf:=Kv (v.sc.2.mono (by decide:2^40≤2^43));simp only[wt,seval,aV,kE,g9];refine ah ((v.tcl)) (by rfl) (by simp) ?_;simp (disch:=omega) only[wt,seval,aV,kE,g9];refine ah ((v.tpr)) (by rfl) (by simp) ?_;simp (disch:=omega) only[wt,seval,rqs,aV,kE,a5W,NR];refine .inl ⟨aS (by kernel_rfl),?_⟩;simp only[wt,seval,kE,g9,g11,List.append_eq];refine ah (P9) (by rfl) (by simp) ?_;simp only[wt,seval,kE,g10];refine ah ((v.tp1)) (by rfl) (by simp) ?_;simp only[wt,seval];refine ah ((sS.soft (.cons (fV m1) (.cons (.refl _) .nil)))) (by rfl) (by simp) ?_;simp (disch:=omega) only[wt,seval,kE,g9,g13];refine ah (a7c) (by rfl) (by simp) ?_;simp only[wt,seval,kE,g10];refine ah ((v.tp2)) (by rfl) (by simp) ?_;simp only[wt,seval];refine ah ((sT.soft (.cons (fV m2) (.cons (.refl _) .nil)))) (by rfl) (by simp) ?_;simp (disch:=omega) only[wt,seval,kE,g9,g10,g15];refine ah ((v.ttm)) (by rfl) (by simp) ?_;simp only[wt,seval];refine ah ((sM.soft (.cons (fV m3) (.cons (.refl _) .nil)))) (by rfl) (by simp) ?_;simp (disch:=omega) only[wt,seval,kE,g9,g17];refine ah ((sW.soft (.cons (fV m4) (.cons (.refl _) .nil)))) (by rfl) (by simp) ?_;simp (disch:=omega) only[wt,seval,kE,g9,g19];refine ah ((sW.soft (.cons (fV m5) (.cons (.refl _) .nil)))) (by rfl) (by simp) ?_;simp (disch:=omega) only[wt,seval,kE,g9,g36];refine ah ((sW.soft (.cons (fV m10) (.cons (.refl _) .nil)))) (by rfl) (by simp) ?_;simp (disch:=omega) only[wt,seval,kE,g9,g24];refine ah ((v.tdr)) (by rfl) (by simp) ?_;simp only[wt,seval];refine ah ((sD.soft (.cons (fV m8) (.cons (.refl _) .nil)))) (by rfl) (by simp) ?_;simp (disch:=omega) only[wt,seval,kE,g9,g26];refine ah ((v.tin)) (by rfl) (by simp) ?_;simp only[wt,seval];refine ah ((sI.soft (.cons (fV m9) (.cons (.refl _) .nil)))) (by rfl) (by simp) ?_;simp (disch:=omega) only[wt,seval,kE,g28];refine ah ((sk.soft (.cons (BX _ _) (.cons (.refl _) .nil)))) (by rfl) (by simp) ?_;simp (disch:=omega) only[wt,seval,kE,g29];refine ah ((sw.soft (.cons (.iv (Kr mw)) (.cons (.refl _) .nil)))) (by rfl) (by simp) ?_;simp (disch:=omega) only[wt,seval,rqs,bF,kE,NR,g31,h31];refine ah ((sc.soft (.cons (nU _ _ _) (.cons (.refl _) .nil)))) (by rfl) (by simp) ?_;simp (disch:=omega) only[wt,seval,kE,g32];refine ah ((sx.soft (.cons (.iv (Kr mx)) (.cons (.refl _) .nil)))) (by rfl) (by simp) ?_;simp (disch:=omega) only[wt,seval,bF,kE,NR,g9,g34,h34];refine ah ((v.tat)) (by rfl) (by simp) ?_;simp only[wt,seval];refine ah ((sf.soft (.cons (nU _ _ _) (.cons (.refl _) .nil)))) (by rfl) (by simp) ?_;simp (disch:=omega) only[wt,seval,cZ];refine⟨bH (by kernel_rfl),?_⟩;exact⟨by simp only[wt,seval,g5],by simp only[wt,seval,g6],by simp only[wt,seval,g7],by simp only[wt,seval,g8],by simp only[wt,seval,g9],by simp only[wt,seval,g10],by simp only[wt,seval,g11],by simp only[wt,seval,g13],by simp only[wt,seval,g15],by simp only[wt,seval,g17],by simp only[wt,seval,g19],by simp only[wt,seval,g21],by simp only[wt,seval,g22],by simp only[wt,seval,g23],by simp only[wt,seval,g24],by simp only[wt,seval,g26],by simp only[wt,seval,g28],by simp only[wt,seval,g29],by simp only[wt,seval,g31],by simp only[wt,seval,h31],by simp only[wt,seval,g32],by simp only[wt,seval,g34],by simp only[wt,seval,h34],by simp only[wt,seval,g36],by repeat first|exact pk|refine PK.upd ?_ (fZ (by decide)) _,⟨m1,m2,m3,m4,m5,m6,m7,m8,m9,m10⟩,⟨mw,mx⟩⟩
set_option maxRecDepth 8000 in
set_option maxHeartbeats 8000000 in
theorem a3Q {P R W V S T M D I U Q:List RQ}{eD:Int}{kn:Nat}{wz xz:List Int}{cr fr:RQ}(v:RV P R W V S T M D I U Q eD kn wz xz cr fr){b:OB}{bs:List (OB×OB)}{b':OB}{bs':List (OB×OB)}{n8:Int}{s:PS}{E:Nat}{b1 b2 b3 b4 b5 b6 b7 b8 b9 b10:OB}{bs1 bs2 bs3 bs4 bs5 bs6 bs7 bs8 bs9 Ei:List (OB×OB)}{bk ow ox c1 c2 f1 f2:OB}{ows oxs:List OB}{NT NS:Nat}(f:AL.Fr)(H:AL.Hp)(k:KR P R W V S T M D I U Q eD kn wz xz cr fr b bs b' bs' n8 s E b1 b2 b3 b4 b5 b6 b7 b8 b9 b10 bs1 bs2 bs3 bs4 bs5 bs6 bs7 bs8 bs9 Ei bk ow ox c1 c2 f1 f2 ows oxs NT NS f H) :
  ∃ X,(Tryz.f3.body.bind Ce).bind (kQ 18)=some X∧@AWs zQ Tryz.prog (fun f H=>KR P R W V S T M D I U Q eD kn wz xz cr fr b bs b' bs' n8 s E b1 b2 b3 b4 b5 b6 b7 b8 b9 b10 bs1 bs2 bs3 bs4 bs5 bs6 bs7 bs8 bs9 Ei bk ow ox c1 c2 f1 f2 ows oxs NT NS f H) 1 X (fun _ _ _=>False) f H:=by
 refine⟨_,rfl,?_⟩;obtain⟨g5,g6,g7,g8,g9,g10,g11,g13,g15,g17,g19,g21,g22,g23,g24,g26,g28,g29,g31,h31,g32,g34,h34,g36,pk,l1,l2⟩:=k;obtain⟨m1,m2,m3,m4,m5,m6,m7,m8,m9,m10⟩:=l1;obtain⟨mw,mx⟩:=l2;obtain⟨zW,zV,zS,zT,zM,zD,zI,zU,zQ'⟩:=v.ll;rcases v.dv with hv0|⟨hv0,rfl,tq⟩
 ·have hV:¬(0:Int)<((V.length:Nat):Int):=by omega
  simp (disch:=omega) only[wt,seval,rqs,aV,cZ,kE,NR,g10,hV];exact⟨by simp only[wt,seval,g5],by simp only[wt,seval,g6],by simp only[wt,seval,g7],by simp only[wt,seval,g8],by simp only[wt,seval,g9],by simp only[wt,seval,g10],by simp only[wt,seval,g11],by simp only[wt,seval,g13],by simp only[wt,seval,g15],by simp only[wt,seval,g17],by simp only[wt,seval,g19],by simp only[wt,seval,g21],by simp only[wt,seval,g22],by simp only[wt,seval,g23],by simp only[wt,seval,g24],by simp only[wt,seval,g26],by simp only[wt,seval,g28],by simp only[wt,seval,g29],by simp only[wt,seval,g31],by simp only[seval,h31],by simp only[wt,seval,g32],by simp only[wt,seval,g34],by simp only[seval,h34],by simp only[wt,seval,g36],by repeat first|exact pk|refine PK.upd ?_ (fZ (by decide)) _,⟨m1,m2,m3,m4,m5,m6,m7,m8,m9,m10⟩,⟨mw,mx⟩⟩
 ·have hV:(0:Int)<((V.length:Nat):Int):=by omega
  have sU:=iW zU.bq;have sQ:=iW zQ'.bq;simp (disch:=omega) only[wt,seval,rqs,aV,kE,NR,g10,hV,g9];refine ah (tq) (by rfl) (by simp) ?_;simp (disch:=omega) only[wt,seval,kE,g21,g23];refine ah ((sU.soft (.cons (fV m6) (.cons (.refl _) .nil)))) (by rfl) (by simp) ?_;simp (disch:=omega) only[wt,seval,kE,g22];refine ah ((sQ.soft (.cons (fV m7) (.cons (.refl _) .nil)))) (by rfl) (by simp) ?_;simp (disch:=omega) only[wt,seval,cZ];exact⟨by simp only[wt,seval,g5],by simp only[wt,seval,g6],by simp only[wt,seval,g7],by simp only[wt,seval,g8],by simp only[wt,seval,g9],by simp only[wt,seval,g10],by simp only[wt,seval,g11],by simp only[wt,seval,g13],by simp only[wt,seval,g15],by simp only[wt,seval,g17],by simp only[wt,seval,g19],by simp only[wt,seval,g21],by simp only[wt,seval,g22],by simp only[wt,seval,g23],by simp only[wt,seval,g24],by simp only[wt,seval,g26],by simp only[wt,seval,g28],by simp only[wt,seval,g29],by simp only[wt,seval,g31],by simp only[seval,h31],by simp only[wt,seval,g32],by simp only[wt,seval,g34],by simp only[seval,h34],by simp only[wt,seval,g36],by repeat first|exact pk|refine PK.upd ?_ (fZ (by decide)) _,⟨m1,m2,m3,m4,m5,m6,m7,m8,m9,m10⟩,⟨mw,mx⟩⟩
set_option linter.defProp false
section
variable {s:PS} {B0 E:Nat} {pend:List Nat} {nl nr:Nat}
def a6V (X:List QX):List Nat:=X.flatMap fun x=>oid x.1++idq x.2.1
def a6U (X:List ZX):List Nat:=X.flatMap fun x=>oid x.1++ids x.2.1
theorem BK.oH:∀ (X:List QX) {s:PS} {pend:List Nat} {nl nr:Nat} (h:BK s B0 E pend nl nr) {iC:List Nat} (hx:∀ x∈X,x.2.1.length=x.2.2.length∧x.2.2.length≤100∧∀ r∈x.2.2,r.1.2.length≤2^41∧r.2.length≤2^41) (hc:∀ q,List.count q iC+List.count q (a6V X)≤List.count q pend),BK (s.oH X) B0 E iC (nl+200*X.length) (nr+X.length)
 | [],s,pend,nl,nr,h,iC,hx,hc=>h.cnt fun q=>by have:=hc q;simp only[a6V,List.flatMap_nil,List.count_nil]at this;omega
 | x::X,s,pend,nl,nr,h,iC,hx,hc=>by
  have h0:=hx x (by simp);have h1:=h.yM (x:=x) (iC:=iC++a6V X) h0.1 h0.2.1 h0.2.2 fun q=>by
   have:=hc q;simp only[a6V,List.flatMap_cons,List.count_append]at this ⊢;omega
  have h2:=BK.oH X h1 (iC:=iC) (fun y hy=>hx y (by simp[hy])) fun q=>by rw[List.count_append];exact Nat.le_refl _
  exact h2.mono (by simp only[List.length_cons];omega) (by simp only[List.length_cons];omega)
theorem BK.oM:∀ (X:List ZX) {s:PS} {pend:List Nat} {nl nr:Nat} (h:BK s B0 E pend nl nr) {iC:List Nat} (hx:∀ x∈X,x.2.1.length=x.2.2.length∧x.2.2.length≤100∧∀ z∈x.2.2,(canon z).2.length≤2^41) (hc:∀ q,List.count q iC+List.count q (a6U X)≤List.count q pend),BK (s.oM X) B0 E iC (nl+100*X.length) (nr+X.length)
 | [],s,pend,nl,nr,h,iC,hx,hc=>h.cnt fun q=>by have:=hc q;simp only[a6U,List.flatMap_nil,List.count_nil]at this;omega
 | x::X,s,pend,nl,nr,h,iC,hx,hc=>by
  have h0:=hx x (by simp);have h1:=h.yh (x:=x) (iC:=iC++a6U X) h0.1 (by have:=h0.2.1;omega) h0.2.2 fun q=>by
   have:=hc q;simp only[a6U,List.flatMap_cons,List.count_append]at this ⊢;omega
  have h2:=BK.oM X (h1.mono (by omega) (Nat.le_refl _):BK _ _ _ _ (nl+100) _) (iC:=iC) (fun y hy=>hx y (by simp[hy])) fun q=>by rw[List.count_append];exact Nat.le_refl _
  exact h2.mono (by simp only[List.length_cons];omega) (by simp only[List.length_cons];omega)
end
def Ext (s s':PS):Prop:=∃ O:List (OB×List Nat),s'.ls=s.ls++O.map fnr∧s'.fs=s.fs++O.map fno∧(∀ x∈O,x.2.length≤2^41)∧∀ g,g∈obs s.rs→g∈obs s'.rs
theorem Ext.refl (s:PS):Ext s s:=⟨[],by simp,by simp,by simp,fun _ h=>h⟩
theorem Ext.trans {s s' s'':PS}(h:Ext s s')(k:Ext s' s''):Ext s s'':=by
 obtain⟨O,h1,h2,h3,h4⟩:=h;obtain⟨O',k1,k2,k3,k4⟩:=k;exact⟨O++O',by rw[k1,h1];simp,by rw[k2,h2];simp,fun x hx=>(List.mem_append.1 hx).elim (h3 x) (k3 x),fun g hg=>k4 g (h4 g hg)⟩
theorem IB (s:PS)(L:List (OB×List Nat))(h:∀ x∈L,x.2.length≤2^41):Ext s (s.outs L):=⟨L,rfl,rfl,h,fun _ h=>h⟩
theorem MB:∀ (X:List QX) (s:PS) (hx:∀ x∈X,∀ r∈x.2.2,r.1.2.length≤2^41∧r.2.length≤2^41),Ext s (s.oH X)
 | [],s,_=>.refl s
 | x::X,s,hx=>by
  have h1:Ext s (s.N7 x):=⟨[],by simp[PS.N7],by simp[PS.N7],by simp,fun g hg=>by
   show g∈obs (s.rs++[qor x]);rw[oJ];exact List.mem_append_left _ hg⟩
  exact(h1.trans (IB _ _ (jR (hx x (by simp))))).trans (MB X (s.yM x) fun y hy=>hx y (by simp[hy]))
theorem Me:∀ (X:List ZX) (s:PS) (hx:∀ x∈X,∀ z∈x.2.2,(canon z).2.length≤2^41),Ext s (s.oM X)
 | [],s,_=>.refl s
 | x::X,s,hx=>by
  have h1:Ext s (s.MZ x):=⟨[],by simp[PS.MZ],by simp[PS.MZ],by simp,fun g hg=>hg⟩;exact(h1.trans (IB _ _ (Fb (hx x (by simp))))).trans (Me X (s.yh x) fun y hy=>hx y (by simp[hy]))
set_option linter.defProp false
theorem a0f:List.range 12=[0,1,2,3,4,5,6,7,8,9,10,11]:=rfl
theorem SzQ.two {r:RQ}(h:SzQ (2^40) r):r.1.2.length≤2^41∧r.2.length≤2^41:=⟨Nat.le_trans h.1.1 (by decide),Nat.le_trans h.2.1 (by decide)⟩
theorem LL.row {l:List RQ}(h:LL l){bs:List (OB×OB)}(hb:bs.length=l.length):bs.length=l.length∧l.length≤100∧∀ r∈l,r.1.2.length≤2^41∧r.2.length≤2^41:=⟨hb,h.1,fun r hr=>(h.2 r hr).two⟩
theorem a2q {l:List Int}(h:l.length≤100∧RP (2^40) (2^40) (l.map canon)){bs:List OB}(hb:bs.length=l.length):bs.length=l.length∧l.length≤100∧∀ z∈l,(canon z).2.length≤2^41:=⟨hb,h.1,fun z hz=>Nat.le_trans (h.2.2 (canon z) (List.mem_map.2 ⟨z,hz,rfl⟩)).1 (by decide)⟩
def KE (b:OB)(bs:List (OB×OB))(P:List RQ)(b':OB)(bs':List (OB×OB))(R:List RQ)(n8:Int)(s:PS)(B0 nl nr:Nat)(f:AL.Fr)(H:AL.Hp):Prop:=f 5=.hp 900000 1 0 0∧f 6=.iv (fqp b bs P)∧f 7=.iv (fqp b' bs' R)∧f 8=.iv (.int .i64 n8)∧∃ s' E,PK s' E H∧BK s' B0 E [] (nl+3000) (nr+20)∧Ext s s'
set_option maxRecDepth 8000 in
set_option maxHeartbeats 8000000 in
theorem a3P {P R W V S T M D I U Q:List RQ}{eD:Int}{kn:Nat}{wz xz:List Int}{cr fr:RQ}(v:RV P R W V S T M D I U Q eD kn wz xz cr fr){b:OB}{bs:List (OB×OB)}{b':OB}{bs':List (OB×OB)}{n8:Int}{s:PS}{E:Nat}{b1 b2 b3 b4 b5 b6 b7 b8 b9 b10:OB}{bs1 bs2 bs3 bs4 bs5 bs6 bs7 bs8 bs9 Ei:List (OB×OB)}{bk ow ox c1 c2 f1 f2:OB}{ows oxs:List OB}{NT NS:Nat}(f:AL.Fr)(H:AL.Hp)(k:KR P R W V S T M D I U Q eD kn wz xz cr fr b bs b' bs' n8 s E b1 b2 b3 b4 b5 b6 b7 b8 b9 b10 bs1 bs2 bs3 bs4 bs5 bs6 bs7 bs8 bs9 Ei bk ow ox c1 c2 f1 f2 ows oxs NT NS f H)
  {B0 nl nr:Nat} {pend:List Nat} (hb:BK s B0 E pend nl nr) (hnl:nl≤40000) (hnr:nr≤1000) (hpe:∀ q,List.count q pend=a0y b1 b2 b3 b4 b5 b6 b7 b8 b9 b10 bs1 bs2 bs3 bs4 bs5 bs6 bs7 bs8 bs9 Ei bk ow ox c1 c2 f1 f2 ows oxs q) :
  ∃ X,(Tryz.f3.body.bind Ce).bind (kQ 19)=some X∧@AWs zQ Tryz.prog (KE b bs P b' bs' R n8 s B0 nl nr) 3 X (fun _ _ _=>False) f H:=by
 refine⟨_,rfl,?_⟩;obtain⟨g5,g6,g7,g8,g9,g10,g11,g13,g15,g17,g19,g21,g22,g23,g24,g26,g28,g29,g31,h31,g32,g34,h34,g36,pk,l1,l2⟩:=k;obtain⟨m1,m2,m3,m4,m5,m6,m7,m8,m9,m10⟩:=l1;obtain⟨mw,mx⟩:=l2;obtain⟨zW,zV,zS,zT,zM,zD,zI,zU,zQ'⟩:=v.ll;have k9:=pk.mark;simp (disch:=omega) only[wt,seval,aV,bF,kE,a2i,NR,Bool.true_or,g5,g11,g13,g15,g17,g19,g21,g22,g24,g26,g36,g31,h31];refine MV (e:=32) (by rfl) (by rfl) (by simp only[tis];exact⟨⟨trivial,trivial⟩,trivial,trivial,by decide,by simp[frq],rfl⟩) (by first|exact k9|(simp only[wt,seval,rqs,aV,cZ,List.getD_cons_zero,List.getD_cons_succ,dD,dh,dK,cO,bF,kE,a5W,a2i,NR,Bool.false_or,Bool.true_or,k9];done)) ?_;intro B1 E1 ec hB1 hE1 b1D he1;simp (disch:=omega) only[wt,seval,bF,kE,a2i,NR,Bool.false_or,g34,h34];refine MV (e:=32) (by rfl) (by rfl) (by simp only[tis];exact⟨⟨trivial,trivial⟩,trivial,trivial,by decide,by simp[frq],rfl⟩) (by first|rfl|(simp only[wt,seval,rqs,aV,cZ,List.getD_cons_zero,List.getD_cons_succ,dD,dh,dK,cO,bF,kE,a5W,a2i,NR,Bool.false_or,Bool.true_or];done)) ?_;intro B2 E2 ef hB2 hE2 b1C he2;simp (disch:=omega) only[wt,seval,a2i,NR,Bool.false_or,a0f];obtain⟨X,hX⟩:∃ X:List QX,X=[(b1,bs1,S),(b2,bs2,T),(b3,bs3,M),(b4,bs4,W),(b5,bs5,W),(b6,bs6,U),(b7,bs7,Q),(b8,bs8,D),(b9,bs9,I),(b10,Ei,W),(ec,[(c1,c2)],[cr]),(ef,[(f1,f2)],[fr])]:=⟨_,rfl⟩;have ncr:Nw B1 E1 (oid ec):=Nw.oid fun g cap e=>by have:=he1 g cap e;omega
 have nef:Nw B2 E2 (oid ef):=Nw.oid fun g cap e=>by have:=he2 g cap e;omega
 have y2:=(hb.new hB1 hE1 ncr).new hB2 hE2 nef;have z1:LL [cr]:=⟨by simp,fun r hr=>by rw[List.mem_singleton.1 hr];exact v.sc.1⟩;have z2:LL [fr]:=⟨by simp,fun r hr=>by rw[List.mem_singleton.1 hr];exact v.sc.2⟩;have hx:∀ x∈X,x.2.1.length=x.2.2.length∧x.2.2.length≤100∧∀ r∈x.2.2,r.1.2.length≤2^41∧r.2.length≤2^41:=by
  rw[hX];intro x hm;simp only[List.mem_cons,List.not_mem_nil,or_false]at hm;rcases hm with rfl|rfl|rfl|rfl|rfl|rfl|rfl|rfl|rfl|rfl|rfl|rfl
  ·exact zS.row m1
  ·exact zT.row m2
  ·exact zM.row m3
  ·exact zW.row m4
  ·exact zW.row m5
  ·exact zU.row m6
  ·exact zQ'.row m7
  ·exact zD.row m8
  ·exact zI.row m9
  ·exact zW.row m10
  ·exact z1.row rfl
  ·exact z2.row rfl
 have hXl:X.length=12:=by rw[hX];rfl
 have bn:=y2.n;have bm:=y2.m;obtain⟨pe2,a9G⟩:∃ pe2,pe2=oid bk++(oid ow++ids ows)++(oid ox++ids oxs):=⟨_,rfl⟩;have y3:=BK.oH X y2 (iC:=pe2) hx (fun q=>by
  have:=hpe q;rw[hX,a9G];simp only[a6V,List.flatMap_cons,List.flatMap_nil,List.count_append,List.count_nil,idq,a0y]at this ⊢;omega)
 refine sH (a4j s E2 X (by omega) (fun x hm=>⟨(hx x hm).1,Nat.le_trans (hx x hm).2.1 (by decide)⟩) (by omega) (by omega) (by omega) (by omega)) ?_ (by rw[hX];first|exact au _ _ _|(simp only[wt,seval,rqs,aV,cZ,List.getD_cons_zero,List.getD_cons_succ,dD,dh,dK,cO,bF,kE,a5W,a2i,NR,Bool.false_or,Bool.true_or];rfl)) (by decide) ?_
 ·refine PK.upd ?_ (fZ (by decide)) _;refine PKX.pk ?_ _
  repeat first|exact⟨_,pk⟩|refine PKX.rem ?_ _|refine PKX.upd ?_ (fZ (by decide)) _
 rintro _ _ E3 H3 ⟨rfl,rfl,rfl⟩ hp3 hk3;simp (disch:=omega) only[wt,seval,aV,kE,a2i,NR,Bool.false_or,g5,g29,g32];obtain⟨Z,hZ⟩:∃ Z:List ZX,Z=[(ow,ows,wz),(ox,oxs,xz)]:=⟨_,rfl⟩;have hz:∀ x∈Z,x.2.1.length=x.2.2.length∧x.2.2.length≤100∧∀ z∈x.2.2,(canon z).2.length≤2^41:=by
  rw[hZ];intro x hm;simp only[List.mem_cons,List.not_mem_nil,or_false]at hm;rcases hm with rfl|rfl
  ·exact a2q v.sw mw
  ·exact a2q v.sx mx
 have hZl:Z.length=2:=by rw[hZ];rfl
 have y4:=BK.oM Z y3 (iC:=oid bk) hz (fun q=>by
  rw[hZ,a9G];simp only[a6U,List.flatMap_cons,List.flatMap_nil,List.count_append,List.count_nil];omega)
 have b3n:=y3.n;have b3m:=y3.m;refine sH (a3h (s.oH X) E3 Z (by omega) (fun x hm=>⟨(hz x hm).1,Nat.le_trans (hz x hm).2.1 (by decide)⟩) (by omega) (by omega) (by omega) (by omega)) (hp3.upd (fZ (by decide)) _) (by rw[hZ];exact au _ _ _) (by decide) ?_;rintro _ _ E4 H4 ⟨rfl,rfl,rfl⟩ hp4 hk4;obtain⟨a1,a2,a3,a4,a5,a6,a7,k0,-⟩:=id hp4;simp (disch:=omega) only[wt,seval,aV,kE,a2i,NR,Bool.false_or,g5,g28,k0];have y5:=y4.outs (L:=[(bk,wd kn)]) (iC:=[]) (fun x hm=>by rw[List.mem_singleton.1 hm];exact Nat.le_trans v.sk (by decide)) (fun q=>by simp);have b4n:=y4.n;refine sH (PU ((s.oH X).oM Z) E4 [(bk,wd kn)] (by simp) (by omega) (by omega) (by omega)) (hp4.upd (fZ (by decide)) _) (au _ _ _) (by decide) ?_;rintro _ _ E5 H5 ⟨rfl,rfl,rfl⟩ hp5 hk5;simp only[wt,seval,cZ];refine⟨by simp only[wt,seval,g5],by simp only[wt,seval,g6],by simp only[wt,seval,g7],by simp only[wt,seval,g8],_,E5,hp5,y5.mono (by simp only[List.length_singleton];omega) (by omega),((MB X s fun x hm=>(hx x hm).2.2).trans (Me Z _ fun x hm=>(hz x hm).2.2)).trans (IB _ _ fun x hm=>by rw[List.mem_singleton.1 hm];exact Nat.le_trans v.sk (by decide))⟩
set_option linter.defProp false
theorem SV.after {P:Program}{L N:Nat}{Q Q1:PostB}{f:AL.Fr}{H:AL.Hp}{β:Nat→Value}{c:Code}(h:AL.SV P L N c Q1 f H β)(he:∀ e f H β w0 D0 a w,w0.heap.size≤L→Q1 e f H β→Rel G0 M0 w0 D0 N f H β a w→∃ f' H' β',Q e f' H' β'∧Rel G0 M0 w0 D0 N f' H' β' a w):AL.SV P L N c Q f H β:=fun w0 D0 a w hL R=>wpIn_mono (h w0 D0 a w hL R) fun e a w hq=>by
 cases e with
 | panic _=>exact hq.elim
 | outgrown=>exact hq.elim
 | normal=>obtain⟨f,H,β,hk,R⟩:=hq;obtain⟨f',H',β',h1,h2⟩:=he _ f H β w0 D0 a w hL hk R;exact⟨f',H',β',h1,h2⟩
 | exit id=>obtain⟨f,H,β,hk,R⟩:=hq;obtain⟨f',H',β',h1,h2⟩:=he _ f H β w0 D0 a w hL hk R;exact⟨f',H',β',h1,h2⟩
 | ret=>obtain⟨f,H,β,hk,R⟩:=hq;obtain⟨f',H',β',h1,h2⟩:=he _ f H β w0 D0 a w hL hk R;exact⟨f',H',β',h1,h2⟩
 | goto l=>obtain⟨f,H,β,hk,R⟩:=hq;obtain⟨f',H',β',h1,h2⟩:=he _ f H β w0 D0 a w hL hk R;exact⟨f',H',β',h1,h2⟩
theorem a8h (n:Nat):xr n<W:=(BitVec.ofInt IntKind.u64.bits (n:Int) ^^^ BitVec.ofInt IntKind.u64.bits 6148914691236517205).isLt
theorem a2G (l:List Nat):Lim (l.map xr):=fun x hx=>by
 obtain⟨y,_,rfl⟩:=List.mem_map.1 hx;exact a8h y
theorem a6B {k:Nat}{r:RQ}(h:SzQ k r):SzQ k (scq r):=⟨⟨by simpa [scq] using h.1.1,a2G _⟩,by simpa [scq] using h.2.1,a2G _⟩
theorem BQ.scq {n k:Nat}{p:List RQ}(h:BQ n k p):BQ n k (p.map scq):=⟨by rw[List.length_map];exact h.1,fun r hr=>by
 obtain⟨y,hy,rfl⟩:=List.mem_map.1 hr;exact a6B (h.2 y hy)⟩
def JL (B0:Nat)(k:Nat)(f:AL.Fr)(H:AL.Hp):Prop:=∃ P R b bs b' bs' s E,f 8=.iv (.int .i64 (k:Int))∧f 5=.hp 900000 1 0 0∧f 6=.iv (fqp b bs P)∧f 7=.iv (fqp b' bs' R)∧bs.length=P.length∧bs'.length=R.length∧BQ 40 (2^20) P∧BQ 40 (2^20) R∧PK s E H∧BK s B0 E [] (200+3000*k) (10+20*k)∧(k=0→s=sIn b bs P b' bs' R∧∀ x∈qnl bs P++qnl bs' R,x.1.isSome)
def JR (B0:Nat)(k:Nat)(f:AL.Fr)(H:AL.Hp):Prop:=∃ P R b bs b' bs' s E,f 8=.iv (.int .i64 (k:Int))∧f 5=.hp 900000 1 0 0∧f 6=.iv (fqp b bs P)∧f 7=.iv (fqp b' bs' R)∧bs.length=P.length∧bs'.length=R.length∧BQ 40 (2^20) P∧BQ 40 (2^20) R∧PK s E H∧BK s B0 E [] (200+3000*(k+1)) (10+20*(k+1))
def JT (B0:Nat)(f:AL.Fr)(H:AL.Hp):Prop:=∃ s E nl nr,f 5=.hp 900000 1 0 0∧PK s E H∧BK s B0 E [] nl nr∧nl≤100000∧nr≤10000
theorem a3N {b:OB}{bs:List (OB×OB)}{P:List RQ}{b':OB}{bs':List (OB×OB)}{R:List RQ}(h1:bs.length=P.length)(h2:bs'.length=R.length)(hP:BQ 40 (2^20) P)(hR:BQ 40 (2^20) R):∃ L Q,SPA (sIn b bs P b' bs' R) L Q:=by
 obtain⟨q1,q2,q3,q4,q5,q6,q7⟩:=Oj (b:=b) (b':=b') h1 h2;have p1:=hP.1;have p2:=hR.1;refine⟨(qnl bs P++qnl bs' R).map (fun x=>(x.1,EI x.2)),[(b,bs,P),(b',bs',R)],⟨by rw[q2,List.map_map];rfl,by rw[q3,List.map_map];rfl,?_,fun x hx=>?_,q5,by rw[q7];rfl,by simp,fun x hx=>?_⟩⟩
 ·rw[List.length_map,List.length_append,vH h1,vH h2];omega
 ·obtain⟨y,hy,rfl⟩:=List.mem_map.1 hx;have:=(List.mem_append.1 hy).elim (jR hP.len y) (jR hR.len y);simp only[nM];omega
 ·simp only[List.mem_cons,List.not_mem_nil,or_false]at hx;rcases hx with rfl|rfl
  ·exact⟨h1,by simp only;omega⟩
  ·exact⟨h2,by simp only;omega⟩
theorem a3O {b:OB}{bs:List (OB×OB)}{P:List RQ}{b':OB}{bs':List (OB×OB)}{R:List RQ}(h1:bs.length=P.length)(h2:bs'.length=R.length)(hP:BQ 40 (2^20) P)(hR:BQ 40 (2^20) R)(hs:∀ x∈qnl bs P++qnl bs' R,x.1.isSome){s:PS}(he:Ext (sIn b bs P b' bs' R) s):∃ A O,SCR s A O b bs P b' bs' R:=by
 obtain⟨q1,q2,q3,q4,q5,q6,q7⟩:=Oj (b:=b) (b':=b') h1 h2;obtain⟨O,e1,e2,e3,e4⟩:=he;have ho:∀ g c,b=some (g,c)∨b'=some (g,c)→g∈obs (sIn b bs P b' bs' R).rs:=fun g c h=>by
  rw[q6];rcases h with rfl|rfl<;>simp[obs,ob,oid]
 exact⟨qnl bs P++qnl bs' R,O,⟨by rw[e1,q1],by rw[e2,q2],fun x hx=>⟨hs x hx,by
  have:=(List.mem_append.1 hx).elim (jR hP.len x) (jR hR.len x);omega⟩,e3,rfl,fun g c e=>e4 g (ho g c (.inl e)),fun g c e=>e4 g (ho g c (.inr e)),h1,h2⟩⟩
set_option linter.defProp false
def a4T:Code→Option Code
 | .seq _ (.cond _ x _)=>some x
 | _=>none
set_option maxRecDepth 8000 in
set_option maxHeartbeats 4000000 in
theorem ZN {B B0:Nat}(hB:B≤B0){P R:List RQ}{b:OB}{bs:List (OB×OB)}{b':OB}{bs':List (OB×OB)}(l1:bs.length=P.length)(l2:bs'.length=R.length)(hP:BQ 40 (2^20) P)(hR:BQ 40 (2^20) R)(hs:∀ x∈qnl bs P++qnl bs' R,x.1.isSome)(f:AL.Fr)(H:AL.Hp)(β:Nat→Value)(hK:KE b bs P b' bs' R 0 (sIn b bs P b' bs' R) B0 200 10 f H) :
  ∃ X,((Tryz.f3.body.bind Ce).bind (kQ 22)).bind a4T=some X∧AL.SV Tryz.prog B Tryz.f3.ntmps X (a1R fun f H _=>JR B0 0 f H) f H β:=by
 refine⟨_,rfl,?_⟩;obtain⟨g5,g6,g7,g8,s,E,hp,hb,he⟩:=hK;obtain⟨A,O,hsc⟩:=a3O (b:=b) (b':=b') l1 l2 hP hR hs he;refine SV.ent fun w0 D0 a w hL Rl=>?_;obtain⟨f1,H1,β1,a1,a2,a3,a4,a5,a6,a7,ws,is,rs,zf,qf,k1,sk,⟨hI,hIo,hIl,hRr,hRo,hRl,hwl,hql⟩,R1⟩:=a5j Rl (Nat.le_trans hL hB) hp hb (by omega) hsc g5 g6 g7 g8;refine⟨f1,H1,β1,?_,R1⟩;clear Rl R1 hL w0 D0 a w g5 g6 g7 g8 hp;have bn:=hb.n;have hAl:A.length+O.length≤100000:=by
  have:s.ls.length=A.length+O.length:=by rw[hsc.ls];simp
  omega
 refine SV.after (Q1:=fun e f H β=>e=.normal∧K1 A O b bs P b' bs' R a1 a2 a3 a4 a5 a6 a7 ws is rs zf qf E 0 f H β∧SK A.length (mA A) (fun k=>scr (mA A k) (xA A k)) O H) (SV.aw zQ aX (by rfl) (by rfl) (Qa:=fun e f' H'=>e=.normal∧(f' 5=.hp 900000 1 0 0∧f' 6=.iv (.own b 32 3 (shq bs P))∧f' 7=.iv (.own b' 32 3 (shq bs' R))∧f' 8=.iv (.int .i64 0))∧SK A.length (mA A) (fun k=>scr (mA A k) (xA A k)) O H'∧FS H1 H') ?_ ?_) ?_
 ·have k0:=k1.k0;simp (disch:=omega) only[wt,seval,kE,NR,k1.f5,k0];refine Bz (Oh A.length (mA A) (xA A) O hAl (fun k hk=>?_) hsc.hO H1 sk) ?_
  ·have:=(hsc.hA _ (getD_mem hk)).2;simp only[mA,xA,nM];omega
  rintro _ H2 ⟨sk2,fs⟩;simp only[wt,seval,k1.f5,k1.f6,k1.f7,k1.f8];exact⟨sk2,fs⟩
 ·rintro e f' H' β' ⟨rfl,⟨x5,x6,x7,x8⟩,sk2,fs⟩ hsb;refine⟨rfl,⟨x5,x6,x7,x8,(fs _ (by omega)).trans k1.k0,(fs _ (by omega)).trans k1.k1,(fs _ (by omega)).trans k1.k2,(fs _ (by omega)).trans k1.k3,(fs _ (by omega)).trans k1.k4,(fs _ (by omega)).trans k1.k5,(fs _ (by omega)).trans k1.k6,(fs _ (by omega)).trans k1.k7,(fs _ (by omega)).trans k1.k9,fun k hk=>?_⟩,sk2⟩;obtain⟨_,_,_,_,_,_,kx⟩:=sk;obtain⟨_,_,_,_,_,_,kx2⟩:=sk2;rw[hsb (k+10000) (by rw[kx k hk];trivial) (by rw[kx k hk,kx2 k hk];rfl)];exact k1.hb k hk
 ·rintro e f2 H2 β2 w0 D0 a w hL ⟨rfl,k2,sk2⟩ R2;obtain⟨f3,H3,fs,hfl,hp3,hb3,y5,y6,y7,y8,R3⟩:=a1v R2 hb (by omega) hsc k2 sk2 hI hIo hIl hRr hRo hRl hwl;exact⟨f3,H3,β2,⟨rfl,P.map scq,R.map scq,b,bs,b',bs',_,E,y8,y5,y6,y7,by rw[List.length_map];exact l1,by rw[List.length_map];exact l2,hP.scq,hR.scq,hp3,hb3.mono (by omega) (by omega)⟩,R3⟩
set_option linter.defProp false
theorem a4S {o:Option Code}{c X Y:Code}(ho:o=some c)(hl:a4T c=some Y)(hX:o.bind a4T=some X):X=Y:=by
 subst ho;exact Option.some.inj (hX.symm.trans hl)
theorem BK.le {s:PS}{B0 E:Nat}{pend:List Nat}{nl nr nl' nr':Nat}(h:BK s B0 E pend nl nr)(h1:nl=nl')(h2:nr=nr'):BK s B0 E pend nl' nr':=by rw[← h1,← h2];exact h
set_option maxRecDepth 8000 in
set_option maxHeartbeats 4000000 in
theorem ZR {B B0 k:Nat}(hk:k<2)(hB:B≤B0)(f:AL.Fr)(H:AL.Hp)(β:Nat→Value)(hJ:JL B0 k f H) :
  ∃ X,Tryz.f3.body.bind Ce=some X∧AL.SV Tryz.prog B Tryz.f3.ntmps X (fun e f H _=>(e=.normal∧JR B0 k f H)∨(e=.exit 0∧JT B0 f H)) f H β:=by
 refine⟨_,rfl,?_⟩;obtain⟨P,R,b,bs,b',bs',s,E,g8,g5,g6,g7,l1,l2,hP,hR,hp,hb,h0⟩:=hJ;have c1:=(Au P (hP.mono (by omega) (by omega))).soft (.cons (fV (b:=b) l1) .nil);have c2:=(Au R (hR.mono (by omega) (by omega))).soft (.cons (fV (b:=b') l2) .nil);refine SV.seq (S:=fun f' H' β'=>(f' 5=.hp 900000 1 0 0∧f' 6=.iv (fqp b bs P)∧f' 7=.iv (fqp b' bs' R)∧f' 8=.iv (.int .i64 (k:Int)))∧H'=H∧gd P=true∧gd R=true) (SV.aw zQ aX (by rfl) (by rfl) (Qa:=fun e f' H'=>(f' 5=.hp 900000 1 0 0∧f' 6=.iv (fqp b bs P)∧f' 7=.iv (fqp b' bs' R)∧f' 8=.iv (.int .i64 (k:Int)))∧H'=H∧((e=.normal∧gd P=true∧gd R=true)∨e=.exit 0)) ?_ ?_) ?_
 ·cases h1:gd P with
  | false =>
   rw[h1]at c1;simp only[wt,seval,kE,g6];refine ah (c1) (by rfl) (by simp) ?_;simp (disch:=omega) only[wt,seval,kE,g5,g6,g7,g8]
   try first|trivial|exact .inr trivial|exact .inl ⟨trivial,trivial⟩|exact⟨trivial,trivial⟩
  | true =>
   rw[h1]at c1;cases h2:gd R with
   | false =>
    rw[h2]at c2;simp only[wt,seval,kE,g6];refine ah (c1) (by rfl) (by simp) ?_;simp (disch:=omega) only[wt,seval,kE,g7];refine ah (c2) (by rfl) (by simp) ?_;simp (disch:=omega) only[wt,seval,g5,g6,g7,g8]
    try first|trivial|exact .inr trivial|exact .inl ⟨trivial,trivial⟩|exact⟨trivial,trivial⟩
   | true =>
    rw[h2]at c2;simp only[wt,seval,kE,g6];refine ah (c1) (by rfl) (by simp) ?_;simp (disch:=omega) only[wt,seval,kE,g7];refine ah (c2) (by rfl) (by simp) ?_;simp (disch:=omega) only[wt,seval,g5,g6,g7,g8]
    try first|trivial|exact .inr trivial|exact .inl ⟨trivial,trivial⟩|exact⟨trivial,trivial⟩
 ·rintro e f' H' β' ⟨⟨x5,x6,x7,x8⟩,rfl,he⟩ -;rcases he with ⟨rfl,e1,e2⟩|rfl
  ·exact⟨⟨x5,x6,x7,x8⟩,rfl,e1,e2⟩
  ·exact .inr ⟨rfl,s,E,_,_,x5,hp,hb,by omega,by omega⟩
 clear g5 g6 g7 g8 f β c1 c2;rintro f H' β ⟨⟨g5,g6,g7,g8⟩,rfl,e1,e2⟩;obtain⟨W,V,S,T,M,D,I,U,Q,eD,kn,wz,xz,cr,fr,v⟩:=Kz P R (hP.gq e1) (hR.gq e2);obtain⟨X,hX,ha⟩:=a3T v l1 l2 f H' g5 g6 g7 g8 hp hb;obtain rfl:=jF rfl rfl hX;refine SV.seg zQ aX 13 (by rfl) (by rfl) ha (by rfl) ?_;clear ha hX g5 g6 g7 g8;rintro f H2 β ⟨E2,b1,b2,b3,b4,b5,b6,b7,b8,b9,b10,bs1,bs2,bs3,bs4,bs5,bs6,bs7,bs8,bs9,Ei,bk,ow,ox,c1,c2,f1,f2,ows,oxs,NT,NS,pend,kr,hb2,hpe⟩ -;obtain⟨X,hX,ha⟩:=a3S v (n8:=(k:Int)) (by omega) (fun h=>by obtain⟨q1,q2⟩:=h0 (by omega);rw[q1];exact a3N l1 l2 hP hR) f H2 kr;obtain rfl:=jF rfl rfl hX;refine SV.seg zQ aX 1 (by rfl) (by rfl) ha (by rfl) ?_;clear ha hX kr;rintro f H2 β kr -;obtain⟨X,hX,ha⟩:=a3R v f H2 kr;obtain rfl:=jF rfl rfl hX;refine SV.seg zQ aX 3 (by rfl) (by rfl) ha (by rfl) ?_;clear ha hX kr;rintro f H2 β kr -;obtain⟨X,hX,ha⟩:=a3Q v f H2 kr;obtain rfl:=jF rfl rfl hX;refine SV.seg zQ aX 1 (by rfl) (by rfl) ha (by rfl) ?_;clear ha hX kr;rintro f H2 β kr -;obtain⟨X,hX,ha⟩:=a3P v f H2 kr hb2 (by omega) (by omega) hpe;obtain rfl:=jF rfl rfl hX;refine SV.seg zQ aX 3 (by rfl) (by rfl) ha (by rfl) ?_;clear ha hX kr hb2 hpe;rintro f H2 β ke -;have kk:k=0∨k=1:=by omega
 rcases kk with rfl|rfl
 ·obtain⟨q1,q2⟩:=h0 rfl;rw[q1]at ke;refine SV.seq (S:=fun f' H' β'=>f' 310=.iv (.bool true)∧KE b bs P b' bs' R 0 (sIn b bs P b' bs' R) B0 200 10 f' H') (SV.aw zQ aX (by rfl) (by rfl) (Qa:=fun e f' H'=>e=.normal∧f' 310=.iv (.bool true)∧KE b bs P b' bs' R 0 (sIn b bs P b' bs' R) B0 200 10 f' H') ?_ ?_) ?_
  ·obtain⟨g5,g6,g7,g8,kr⟩:=ke;have e0:((0:Nat):Int)=0:=rfl;rw[e0]at g8;simp (disch:=omega) only[wt,seval,kE,g8];exact⟨by simp only[wt,seval,g5],by simp only[wt,seval,g6],by simp only[wt,seval,g7],by simp only[wt,seval,g8],kr⟩
  ·rintro e f' H' β' ⟨rfl,x1,x2⟩ -;exact⟨x1,x2⟩
  rintro f3 H3 β3 ⟨x1,x2⟩;refine SV.cond (b:=true) x1 (fun _=>?_) (fun h=>nomatch h);obtain⟨X,hX,hs⟩:=ZN hB l1 l2 hP hR q2 f3 H3 β3 x2;obtain rfl:=a4S rfl rfl hX;exact SV.mono hs fun e f H β h=>.inl h
 ·refine SV.seq (S:=fun f' H' β'=>f' 310=.iv (.bool false)∧KE b bs P b' bs' R ((1:Nat):Int) s B0 (200+3000*1) (10+20*1) f' H') (SV.aw zQ aX (by rfl) (by rfl) (Qa:=fun e f' H'=>e=.normal∧f' 310=.iv (.bool false)∧KE b bs P b' bs' R ((1:Nat):Int) s B0 (200+3000*1) (10+20*1) f' H') ?_ ?_) ?_
  ·obtain⟨g5,g6,g7,g8,kr⟩:=ke;have e0:((1:Nat):Int)=1:=rfl;simp (disch:=omega) only[wt,seval,kE,g8,e0];exact⟨by simp only[wt,seval,g5],by simp only[wt,seval,g6],by simp only[wt,seval,g7],by simp only[wt,seval,g8],kr⟩
  ·rintro e f' H' β' ⟨rfl,x1,x2⟩ -;exact⟨x1,x2⟩
  rintro f3 H3 β3 ⟨x1,x5,x6,x7,x8,s3,E3,hp3,hb3,he3⟩;refine SV.cond (b:=false) x1 (fun h=>nomatch h) (fun _=>SV.skip (.inl ⟨rfl,P,R,b,bs,b',bs',s3,E3,x8,x5,x6,x7,l1,l2,hP,hR,hp3,hb3.mono (by omega) (by omega)⟩))
set_option linter.defProp false
set_option maxRecDepth 8000 in
set_option maxHeartbeats 4000000 in
theorem U4 (p r:List RQ)(hp:BQ (2^20) (2^20) p)(hr:BQ (2^20) (2^20) r):AC Tryz.prog 3 [cqw p,cqw r] none [cb true]:=by
 refine AC.a9h (zi:=zQ) (rs:=[.tmp 4]) aX Tryz.func3 (by rfl) (by rfl) (by rfl) (by rfl) (by rfl) (by rfl) fun B β=>?_;obtain⟨c,hc,h1⟩:=a0s p r hp hr B;obtain rfl:=jF rfl rfl hc;refine SV.seg zP aX 5 (by rfl) (by rfl) h1 (by rfl) ?_;clear h1 hc;rintro f H β1 ⟨P,R,gP,gR,hK⟩ -;have main:∀ (f:AL.Fr) (H:AL.Hp) (β:Nat→Value),f 0=.iv (.sl (fD P))→f 1=.iv (.sl (fD R))→f 5=.hp 64 1 0 0→H 64=.nst 1 41 [.jA,.jA,.jA,.jA,.jA,.jA,.jA]→H 999=.mrk B→AL.SV Tryz.prog B Tryz.f3.ntmps (uz 5 (Tryz.f3.body.getD .skip)) (fun e f H _=>@Zc zQ Tryz.prog [.tmp 4] none [cb true] e f H) f H β:=by
  clear hK f H β β1;intro f H β f0 f1 f5 h64 h9;refine SV.ent fun w0 D0 a w hL Rl=>?_;have hBw:=Rl.mrk _ _ h9;obtain⟨f',H',β',⟨pk,ft,fo⟩,R'⟩:=a1u Rl f5 h64;refine⟨f',H',β',?_,R'⟩;have e0:f' 0=.iv (.sl (fD P)):=by rw[fo 0 (by decide),f0];rfl
  have e1:f' 1=.iv (.sl (fD R)):=by rw[fo 1 (by decide),f1];rfl
  clear R' Rl fo f0 f1 f5 h64 h9 hL;generalize w.heap.size=B0 at pk hBw;obtain⟨c,hc,h2⟩:=a0r P R gP gR B0 f' H' ft e0 e1 pk;obtain rfl:=jF rfl rfl hc;refine SV.seg zP aX 1 (by rfl) (by rfl) h2 (by rfl) ?_;clear h2 hc pk ft e0 e1;rintro f H β ⟨E,b,bs,b',bs',g5,g6,g7,l1,l2,pk,bk,hs⟩ -;refine SV.seq (S:=fun f H β=>JT B0 f H) ?_ ?_
  ·refine SV.seg zQ aX (S:=fun f H=>JL B0 0 f H) 1 (by rfl) (by rfl) ?_ (by rfl) ?_
   ·simp only[wt,seval,aV,cZ];exact⟨P,R,b,bs,b',bs',_,E,by simp only[wt,seval];try rfl,by simp only[wt,seval,g5],by simp only[wt,seval,g6],by simp only[wt,seval,g7],l1,l2,gP.bq,gR.bq,pk,bk,fun _=>⟨rfl,hs⟩⟩
   clear g5 g6 g7 pk bk;rintro f2 H2 β2 hj -;refine SV.block (SV.loop (fun f H β=>∃ k,k≤2∧JL B0 k f H) (fun f=>(2-aY f 8).toNat) ⟨0,by omega,hj⟩ ?_);clear hj;rintro f H β ⟨k,hk,hj⟩;have hj0:=hj;obtain⟨P,R,b,bs,b',bs',s,E,g8,g5,g6,g7,l1,l2,hP,hR,hp,hb,h0⟩:=hj0;rw[aB g8];refine SV.seq (S:=fun f' H' β'=>JL B0 k f' H'∧k<2) (SV.aw zQ aX (by rfl) (by rfl) (Qa:=fun e f' H'=>JL B0 k f' H'∧((e=.normal∧k<2)∨(e=.exit 0∧k=2))) ?_ ?_) ?_
   ·simp (disch:=omega) only[wt,seval,kE,g8];have jl:∀ f':AL.Fr,f' 8=.iv (.int .i64 (k:Int))→f' 5=.hp 900000 1 0 0→f' 6=.iv (fqp b bs P)→f' 7=.iv (fqp b' bs' R)→JL B0 k f' H:=fun f' x8 x5 x6 x7=>⟨P,R,b,bs,b',bs',s,E,x8,x5,x6,x7,l1,l2,hP,hR,hp,hb,h0⟩
    refine aQ (fun hlt=>?_) (fun hlt=>?_)
    ·simp only[wt,seval];exact⟨jl _ (by simp only[wt,seval,g8]) (by simp only[wt,seval,g5]) (by simp only[wt,seval,g6]) (by simp only[wt,seval,g7]),.inl (by omega)⟩
    ·simp only[wt,seval];exact⟨jl _ (by simp only[wt,seval,g8]) (by simp only[wt,seval,g5]) (by simp only[wt,seval,g6]) (by simp only[wt,seval,g7]),.inr (by omega)⟩
   ·rintro e f' H' β' ⟨hj,he⟩ -;rcases he with ⟨rfl,he⟩|⟨rfl,rfl⟩
    ·exact⟨hj,he⟩
    ·obtain⟨P,R,b,bs,b',bs',s,E,g8,g5,g6,g7,l1,l2,hP,hR,hp,hb,h0⟩:=hj;exact⟨s,E,_,_,g5,hp,hb,by omega,by omega⟩
   clear hj g8 g5 g6 g7 l1 l2 hP hR hp hb h0;rintro f H β ⟨hj,hk2⟩;refine SV.seq (S:=fun f H β=>JR B0 k f H) (SV.block ?_) ?_
   ·obtain⟨X,hX,hs⟩:=ZR hk2 hBw f H β hj;obtain rfl:X=_:=(Option.some.inj hX).symm;refine SV.mono hs fun e f H β h=>?_;rcases h with ⟨rfl,h⟩|⟨rfl,h⟩
    ·exact h
    ·exact h
   ·rintro f H β ⟨P,R,b,bs,b',bs',s,E,g8,g5,g6,g7,l1,l2,hP,hR,hp,hb⟩;refine SV.aw zQ aX (by rfl) (by rfl) (Qa:=fun e f' H'=>e=.normal∧(f' 8=.iv (.int .i64 ((k+1:Nat):Int))∧f' 5=.hp 900000 1 0 0∧f' 6=.iv (fqp b bs P)∧f' 7=.iv (fqp b' bs' R))∧H'=H) ?_ ?_
    ·simp (disch:=omega) only[wt,seval,kE,g8,g5,g6,g7]
     try rfl
    ·rintro e f' H' β' ⟨rfl,⟨x8,x5,x6,x7⟩,rfl⟩ -;exact⟨⟨k+1,by omega,P,R,b,bs,b',bs',s,E,x8,x5,x6,x7,l1,l2,hP,hR,hp,hb,fun h=>absurd h (by omega)⟩,by show (2-aY f' 8).toNat<_;rw[aB x8];omega⟩
  ·clear g5 g6 g7 pk bk hs l1 l2;rintro f H β ⟨s,E,nl,nr,g5,hp,hb,hnl,hnr⟩;refine SV.ent fun w0 D0 a w hL Rl=>?_;obtain⟨f',H',β',n,ni,nq,X,Z,Y,n1,n2,n3,bX,bZ,bY,ls,f5,R'⟩:=XZ (L:=B) Rl (Nat.le_trans hL hBw) hp hb hnl hnr g5;refine⟨f',H',β',?_,R'⟩;clear R' Rl hL hp hb g5;refine SV.aw zQ aX (by rfl) (by rfl) (Qa:=@Zc zQ Tryz.prog [.tmp 4] none [cb true]) ?_ fun _ _ _ _ h _=>h;simp only[wt,seval,kE,f5];refine Bz (a0P n ni nq X Z Y n1 n2 n3 bX bZ bY H' ls) ?_;rintro _ H3 rfl;simp (disch:=omega) only[wt,seval]
   try rfl
 rcases hK with ⟨⟨f0,f1⟩|⟨f0,h60,f1,h62⟩,f5,h64,h9⟩
 ·exact main f H β1 f0 f1 f5 h64 h9
 ·refine SV.weak (.iv 0 60 1 false 32 3 (fD P) f0 h60 (.iv 1 62 1 false 32 3 (fD R) (by rw[upd,if_neg (by decide)];exact f1) (by rw[ak _ _ (by decide)];exact h62) (.refl _ _))) fun β' _=>main _ _ β' (by simp[upd]) (by simp[upd]) (by simp[upd,f5]) (by rw[ak _ _ (by decide),ak _ _ (by decide)];exact h64) (by rw[ak _ _ (by decide),ak _ _ (by decide)];exact h9)
end Go.Proofs.YtdpngipofekcfaaGreat
