/-
 Contracts of the functions that the law reaches.
-/
import Derived.Test.YtdpngipofekcfaaGreatL298M
import Derived.RangeFuncBox
import Derived.OwnWalkIn
import Derived.TacticsInMore
import Derived.LoopNIn
import Derived.LoopIn
set_option maxHeartbeats 2000000
namespace Go.Proofs.YtdpngipofekcfaaGreat
open Go Go.Proofs Go.AL
set_option linter.unusedSimpArgs false
set_option linter.unusedVariables false

section
variable {q:List Int}
def oD (bs:List OB)(q:List Int):List (List IV):=List.zipWith fint bs q
theorem mJ {bs:List OB}(h:bs.length=q.length):(oD bs q).length=q.length:=by simp[oD,h]
theorem Yu {bs:List OB}(h:bs.length=q.length)(b:OB)(n:Int):oD bs q++[fint b n]=oD (bs++[b]) (q++[n]):=by
 rw[oD,oD,zfq h];rfl
theorem a2J {bs:List OB}(h:bs.length=q.length){i:Nat}(hi:i<q.length):(oD bs q)[i]?=some (fint (bs.getD i none) (cf q i)):=by
 have h2:i<bs.length:=by omega
 simp[oD,zce,List.getD,cf,hi,h2]
def ids (bs:List OB):List Nat:=bs.flatMap oid
theorem Qc {bs:List OB}:∀{q:List Int},bs.length=q.length->bY (oD bs q)=ids bs:=by
 induction bs with
 |nil=>intro q h;simp[oD,ids,bY]
 |cons b bs ih =>
  intro q h;cases q with
  |nil=>simp at h
  |cons n q =>
   have:=ih (q:=q) (by simpa using h);simp only[oD,ids,zd6,bY,zbu,iV,IV.ids,zcg,zbr,WJ]at this ⊢;rw[this];cases b<;>rfl
theorem a6Q (bs:List OB)(b:OB):ids (bs++[b])=ids bs++oid b:=by simp[ids]
abbrev gZ (b:OB)(bs:List OB)(q:List Int):IV:=.own b 30 2 (oD bs q)
def EN (q:List Int)(B E:Nat)(res:List CV):Prop:=∃b bs,res=[.iv (gZ b bs q)]/\bs.length=q.length/\Nw B E (oid b++ids bs)
theorem ug (n:Nat):ids (List.replicate n none)=[]:=by
 simp[ids,oid]
theorem oK (q:List Int)(B:Nat):∃E res,B<=E/\EN q B E res:=⟨B,_,zab _,none,List.replicate q.length none,rfl,by simp,by rw[ug];exact .nil _ _⟩
theorem XM {bs:List OB}(h:bs.length=q.length):(bZ (q.map canon)).length=(oD bs q).length/\(∀(i:Nat) (r r':List IV),(oD bs q)[i]?=some r->(bZ (q.map canon))[i]?=some r'->r'.length=r.length) /\
  ∀(i:Nat) (r r':List IV),(oD bs q)[i]?=some r->(bZ (q.map canon))[i]?=some r'->∀(j:Nat) (x x':IV),r[j]?=some x->r'[j]?=some x'->Le x x':=by
 have key:∀(i:Nat) (r r':List IV),(oD bs q)[i]?=some r->(bZ (q.map canon))[i]?=some r'->r=fint (bs.getD i none) (cf q i)/\r'=jy (canon (cf q i)):=by
  intro i r r' hr hr';have hi:i<q.length:=by
   have:=(zao.1 hr).1;rw[mJ h]at this;exact this
  rw[a2J h hi]at hr;refine⟨by injection hr with hr;exact hr.symm,?_⟩;simp only[bZ,zb2,zaD]at hr';rw[zaf hi]at hr';simp only[zbz,Function.comp_apply,zaq]at hr';rw[<-hr'];simp[cf,List.getD,hi]
 refine⟨by rw[mJ h];simp[bZ],λi r r' hr hr'=>?_,λi r r' hr hr'=>?_⟩
 .obtain⟨rfl,rfl⟩:=key i r r' hr hr';rfl
 .obtain⟨rfl,rfl⟩:=key i r r' hr hr';exact OC _ _
theorem Gj {b:OB}{bs:List OB}(h:bs.length=q.length):Le (gZ b bs q) (.sl (bZ (q.map canon))) :=
 have:=XM h;.own _ _ _ _ _ this.1 this.2.1 this.2.2
set_option maxRecDepth 4000 in
theorem Py (p:List RI)(h:RP (2^40) (2^40) p):ACX Tryz.prog 128 [cw p] (EN (aO (pv p))):=by
 refine ACX.aj zi0 (rs:=[.tmp 2]) aV Tryz.func128 (by rfl) (by rfl) (by rfl) (by rfl) (by rfl) (oK _) (λB=>?_);have hl:=h.1;have htl:=CS (pv p);rw[iT]at htl;simp only[wt,seval];refine ah ((ZW p h)) (by rfl) (by simp) ?_;simp only[wt,seval];refine bU 3 3 30 2 (by simp only[wt,seval]) (λf H=>∃(k st:Nat) (bs:List OB) (E:Nat),k<=tz (pv p)/\bs.length=k/\B<=E/\Nw B E (ids bs)/\f 0=.iv (.sl (bZ p))/\f 3=.hs 3 st/\f 6=.iv (.int .i64 (tz (pv p)))/\f 7=.iv (.int .i64 k)/\H 3=.blk false st 30 2 (oD bs ((aO (pv p)).take k))/\H 999=.mrk E) (λf H=>(tz (pv p)-bC f 7).toNat) ?_ ?_
 .refine⟨0,1,[],B,by omega,rfl,zab _,.nil _ _,?_⟩;simp only[wt,seval,fJ,fH,zaj];rfl
 rintro f H ⟨k,st,bs,E,hk,hbs,hBE,hnw,h0,h3,h6,h7,hH,h9⟩;rw[aC h7];simp (disch:=omega) only[wt,seval,h6,h7];have hq:((aO (pv p)).take k).length=k:=by rw[zah,dw];omega
 have hql:(oD bs ((aO (pv p)).take k)).length=k:=by rw[mJ (by omega),hq]
 refine bf (λhlt=>?_) (λhlt=>?_)
 .simp (disch:=omega) only[wt,seval,h0,h3,h7];refine aJ ((FV (p.getD k (false,[])) (h.get _))) (by rfl) (by simp) (by assumption) ?_;rintro B' E' _ hB hE ⟨b,rfl,hb⟩;simp (disch:=omega) only[wt,seval,h0,h6,h7,hH,hql];refine⟨⟨k+1,st+1,bs++[b],E',by omega,by simp[hbs],by omega,?_,rfl,by omega,?_,rfl⟩,by omega⟩
  .rw[a6Q];exact hnw.append hb (by omega) hB (by omega)
  .rw[FZ (by omega),qI,Yu (by omega)]
 .simp (disch:=omega) only[wt,seval,h3];obtain rfl:k=tz (pv p):=by omega
  have e:(aO (pv p)).take (tz (pv p))=aO (pv p):=zac (by rw[dw];exact zab _);rw[e]at hH hq;refine AY 2 3 _ 30 2 ((oD bs (aO (pv p)))) (by first|rfl|assumption|simp only[wt,seval,gW,fM]) (by first|rfl|assumption|simp only[wt,seval,gW,fM]) (by assumption) ?_;rintro b E2 hE2 hb;refine aQ [.iv (gZ b bs (aO (pv p)))] (by rfl) (by simp (disch:=omega) only[wt,seval]) ?_;intro E hE;refine⟨b,bs,rfl,by omega,?_⟩;cases b with
  |none=>exact hnw.mono (zab _) (by omega)
  |some g =>
   have:=hb.2 g.1 g.2 rfl;rw[Qc (by omega)]at this;exact(hnw.mono (zab _) (by omega)).cons this.2.2.1 this.1 (by omega)
theorem TJ {g:Nat}{args:List CV}{q:List Int}(h:ACX Tryz.prog g args (EN (aO q))):AC Tryz.prog g args none [cp q]:=ACX.plain h λB E r hr=>by
 obtain⟨b,bs,rfl,hb,-⟩:=hr;exact .cons (.iv (Gj hb)) .nil
theorem ru (p:List RI)(h:RP (2^40) (2^40) p):AC Tryz.prog 128 [cw p] none [cp (pv p)] :=
 TJ (Py p h)
theorem a1w (a b:List RI)(ha:RP (2^30) (2^36) a)(hb:RP (2^30) (2^36) b):AC Tryz.prog 294 [cw a,cw b] none [cp (mZ (pv a) (pv b))]:=by
 refine AC.aj (rs:=[.tmp 4]) aV Tryz.func294 (by rfl) (by rfl) (by rfl) (by rfl) (by rfl) ?_;have hla:=ha.1;have hlb:=hb.1;simp (disch:=omega) only[wt,seval];generalize hn:max a.length b.length=n at *;have hnI:max (a.length:Int) (b.length:Int)=(n:Int):=by omega
 rw[hnI];simp only[wt,seval];refine aI (λf H=>∃(i st:Nat) (out:List Int),i<=n/\out.length=n/\(∀k,zl (cf out k)<=2^36+1)/\(∀k,k<i->cf out k=cf (pv a) k+cf (pv b) k) /\
  f 0=.iv (.sl (bZ a))/\f 1=.iv (.sl (bZ b))/\f 5=.hs 12 st/\f 14=.iv (.int .i64 n)/\f 15=.iv (.int .i64 i)/\H 12=.blk false st 30 2 (bZ (out.map canon))) (λf H=>(n-bC f 15).toNat) ?_ ?_
 .exact⟨0,1,List.replicate n 0,by omega,by simp,λk=>by rw[QD,iC];omega,λk hk=>by omega,by simp only[wt,seval],by simp only[wt,seval],by simp only[wt,seval],by simp only[wt,seval],by simp only[wt,seval],by simp only[wt,seval,wM]⟩
 rintro f H ⟨i,st,out,hi,hol,hz,hv,h0,h1,h5,h14,h15,hH⟩;rw[aC h15];simp (disch:=omega) only[wt,seval,h14,h15];refine bf (λhlt=>?_) (λhlt=>?_)
 .have hq:(out.map canon).length=n:=by rw[zae,hol]
  simp (disch:=omega) only[wt,seval,h0,h5,h15];refine ah ((a8N a i (by omega) (by omega))) (by rfl) (by simp) ?_;simp (disch:=omega) only[wt,seval,h1];refine ah ((a8N b i (by omega) (by omega))) (by rfl) (by simp) ?_;simp (disch:=omega) only[wt,seval];refine ah ((RX (a.getD i (false,[])) (b.getD i (false,[])) ((ha.get i).mono (by omega)) ((hb.get i).mono (by omega)))) (by rfl) (by simp) ?_;simp (disch:=omega) only[wt,seval,h0,h1,h5,h14,h15,hH,hq];rw[<-qI,<-qI];refine⟨⟨i+1,st,out.set i (cf (pv a) i+cf (pv b) i),by omega,by simp[hol],λk=>?_,λk hk=>?_,rfl,by omega,rfl⟩,by omega⟩
  .rw[J5 (by omega)];split
   .have:=qg (cf (pv a) i) (cf (pv b) i);have:=ha.pv.cf i;have:=hb.pv.cf i;omega
   .exact hz k
  .rw[J5 (by omega)];split
   .rename_i e;rw[e]
   .exact hv k (by omega)
 .simp (disch:=omega) only[wt,seval,h5];have e:cp (mZ (pv a) (pv b))=cp (pv (out.map canon)):=by
   refine uh λk=>?_;rw[fP,iY];by_cases hk:k<n
   .exact(hv k (by omega)).symm
   .rw[kX (q:=out) (by omega),kX (by rw[iT];omega),kX (by rw[iT];omega)];rfl
  rw[e];refine ah ((ru (out.map canon) (RP.canon (.of (by omega) λk=>zad (hz k) (by omega))))) (by simp only[gV,qU,hH];rfl) (by simp) ?_;simp (disch:=omega) only[wt,seval,hH]
theorem Pm (p:List RI)(c:RI)(hp:RP (2^30) (2^35) p)(hc:Sz (2^35) c):AC Tryz.prog 295 [cw p,cr c] none [cp (aU (iv c) (pv p))]:=by
 refine AC.aj (rs:=[.tmp 4]) aV Tryz.func295 (by rfl) (by rfl) (by rfl) (by rfl) (by rfl) ?_;have hl:=hp.1;simp (disch:=omega) only[wt,seval];refine aI (λf H=>∃(i st st3:Nat) (out:List Int),i<=p.length/\out.length=p.length/\(∀k,zl (cf out k)<=2^36)/\(∀k,k<i->cf out k=cf (pv p) k*iv c) /\
  f 0=.iv (.sl (bZ p))/\f 3=.hp 3 st3 0 0/\f 5=.hs 9 st/\f 11=.iv (.int .i64 p.length)/\f 12=.iv (.int .i64 i)/\H 9=.blk false st 30 2 (bZ (out.map canon))/\H 3=.blk false st3 30 2 [jy c]) (λf H=>(p.length-bC f 12).toNat) ?_ ?_
 .exact⟨0,1,1,List.replicate p.length 0,by omega,by simp,λk=>by rw[QD,iC];omega,λk hk=>by omega,by simp only[wt,seval],by simp only[wt,seval],by simp only[wt,seval],by simp only[wt,seval],by simp only[wt,seval],by simp only[wt,seval,wM],by simp only[wt,seval]⟩
 rintro f H ⟨i,st,st3,out,hi,hol,hz,hv,h0,h3,h5,h11,h12,hH,hH3⟩;rw[aC h12];simp (disch:=omega) only[wt,seval,h11,h12];refine bf (λhlt=>?_) (λhlt=>?_)
 .have hq:(out.map canon).length=p.length:=by rw[zae,hol]
  simp (disch:=omega) only[wt,seval,h0,h3,h5,h12,hH3];refine .inl ⟨aP (by kernel_rfl),?_⟩;refine ah ((wu (p.getD i (false,[])) c ((hp.get i).mono (by omega)) (hc.mono (by omega)))) (by rfl) (by simp) ?_;simp (disch:=omega) only[wt,seval,h0,h3,h5,h11,h12,hH,hH3,hq];rw[<-qI];refine⟨aX (by kernel_rfl),?_⟩;refine⟨⟨i+1,st,st3,out.set i (cf (pv p) i*iv c),by omega,by simp[hol],λk=>?_,λk hk=>?_,rfl,rfl,by omega,rfl,rfl⟩,by omega⟩
  .rw[J5 (by omega)];split
   .have:=fA (cf (pv p) i) (iv c);have:=hp.pv.cf i;have:=oO hc;omega
   .exact hz k
  .rw[J5 (by omega)];split
   .rename_i e;rw[e]
   .exact hv k (by omega)
 .simp (disch:=omega) only[wt,seval,h5];have e:cp (aU (iv c) (pv p))=cp (pv (out.map canon)):=by
   refine uh λk=>?_;rw[fP,dD];by_cases hk:k<p.length
   .exact(hv k (by omega)).symm
   .rw[kX (q:=out) (by omega),kX (by rw[iT];omega)];simp
  rw[e];refine ah ((ru (out.map canon) (RP.canon (.of (by omega) λk=>zad (hz k) (by omega))))) (by simp only[gV,qU,hH];rfl) (by simp) ?_;simp (disch:=omega) only[wt,seval,hH]
theorem b0M (p:List RI)(hp:RP (2^30) (2^35) p):AC Tryz.prog 316 [cw p] none [cp (aU (-1) (pv p))]:=by
 refine AC.aj (rs:=[.tmp 2]) aV Tryz.func316 (by rfl) (by rfl) (by rfl) (by rfl) (by rfl) ?_;simp only[wt,seval];refine ah ((Zj (-1) (by omega) (by omega))) (by rfl) (by simp) ?_;simp only[wt,seval];have:=Pm p (canon (-1)) hp ((aY (-1)).mono (by have:zl (-1)<=1:=sH.mpr (by decide);omega));rw[aS]at this;refine ah (this) (by rfl) (by simp) ?_;simp (disch:=omega) only[wt,seval]
theorem b0E (a b:List RI)(ha:RP (2^30) (2^36) a)(hb:RP (2^30) (2^35) b):AC Tryz.prog 296 [cw a,cw b] none [cp (mZ (pv a) (aU (-1) (pv b)))]:=by
 refine AC.aj (rs:=[.tmp 4]) aV Tryz.func296 (by rfl) (by rfl) (by rfl) (by rfl) (by rfl) ?_;simp only[wt,seval];refine ah ((b0M b hb)) (by rfl) (by simp) ?_;simp only[wt,seval];have h1:zl (-1)<=1:=sH.mpr (by decide);have:=a1w a ((aO (aU (-1) (pv b))).map canon) ha (RP.canon (hb.pv.aU.aO.mono (by omega) (by omega)));have e:cp (mZ (pv a) (pv ((aO (aU (-1) (pv b))).map canon)))=cp (mZ (pv a) (aU (-1) (pv b))):=by
  refine uh λk=>?_;rw[fP,iY,iY,bM]
 rw[e]at this;refine ah (this) (by rfl) (by simp) ?_;simp (disch:=omega) only[wt,seval]
theorem TG (a b:List RI)(ha:RP (2^30) (2^35) a)(hb:RP (2^30) (2^35) b):AC Tryz.prog 91 [cw a,cw b] none [cp (fD (pv a) (pv b))]:=by
 refine AC.aj (rs:=[.tmp 4]) aV Tryz.func91 (by rfl) (by rfl) (by rfl) (by rfl) (by rfl) ?_;have pa:=ha.pv.aO;have pb:=hb.pv.aO;have e0:cp (fD (pv a) (pv b))=cp (fD (aO (pv a)) (aO (pv b))):=by
  refine uh λk=>?_;rw[gy,gy,nP (λj=>(bM (pv a) j).symm),BG _ k (λj=>(bM (pv b) j).symm)]
 rw[e0];simp only[wt,seval];refine ah ((ru a (ha.mono (by omega) (by omega)))) (by rfl) (by simp) ?_;simp only[wt,seval];refine ah ((ru b (hb.mono (by omega) (by omega)))) (by rfl) (by simp) ?_;simp (disch:=omega) only[wt,seval];unfold iQ;generalize aO (pv a)=A at *;generalize aO (pv b)=B at *;have hA:=pa.1;have hB:=pb.1;have hAl:(A.map canon).length=A.length:=by simp
 have hBl:(B.map canon).length=B.length:=by simp
 simp (disch:=omega) only[wt,seval,hAl,hBl];by_cases hza:(A.length:Int)=0
 .have hA0:A=[]:=by rw[<-List.length_eq_zero_iff];omega
  subst hA0;simp (disch:=omega) only[wt,seval];have:aO (fD [] B)=[]:=by rw[<-List.length_eq_zero_iff,dw,bn];intro k;rw[gy];rfl
  unfold iQ;rw[this];rfl
 simp only[wt,seval,hza];refine bf (λhzb=>?_) (λhzb=>?_)
 .have hB0:B=[]:=by rw[<-List.length_eq_zero_iff];omega
  subst hB0;simp (disch:=omega) only[wt,seval];have:aO (fD A [])=[]:=by
   rw[<-List.length_eq_zero_iff,dw,bn];intro k;rw[gy,Ut]
  unfold iQ;rw[this];rfl
 simp (disch:=omega) only[wt,seval,hAl,hBl];have eN:(A.length:Int)+(B.length:Int)-1=((A.length+B.length-1:Nat):Int):=by omega
 rw[eN];simp only[wt,seval];generalize hN:A.length+B.length-1=N at *;refine aI (λf H=>∃(i st:Nat) (out:List Int),i<=A.length/\out.length=N/\(∀k,cf out k=cv (A.take i) (cf B) k) /\
  f 0=.iv (.sl (bZ (A.map canon)))/\f 1=.iv (.sl (bZ (B.map canon)))/\f 5=.hs 26 st/\f 28=.iv (.int .i64 A.length)/\f 29=.iv (.int .i64 i)/\H 26=.blk false st 30 2 (bZ (out.map canon))) (λf H=>(A.length-bC f 29).toNat) ?_ ?_
 .exact⟨0,1,List.replicate N 0,by omega,by simp,λk=>by rw[QD];rfl,by simp only[wt,seval],by simp only[wt,seval],by simp only[wt,seval],by simp only[wt,seval],by simp only[wt,seval],by simp only[wt,seval,wM]⟩
 rintro f H ⟨i,st,out,hi,hol,hv,h0,h1,h5,h28,h29,hH⟩;rw[aC h29];simp (disch:=omega) only[wt,seval,h28,h29];refine bf (λhlt=>?_) (λhlt=>?_)
 .simp (disch:=omega) only[wt,seval,h1,h29,hBl];refine aI (λf H=>∃(j st:Nat) (out:List Int),j<=B.length/\out.length=N/\(∀k,cf out k=cv (A.take i) (cf B) k+(if i<=k/\k<i+j then cf A i*cf B (k-i) else 0)) /\
   f 0=.iv (.sl (bZ (A.map canon)))/\f 1=.iv (.sl (bZ (B.map canon)))/\f 5=.hs 26 st/\f 6=.iv (.int .i64 i)/\f 28=.iv (.int .i64 A.length)/\f 29=.iv (.int .i64 i)/\f 33=.iv (.int .i64 B.length)/\f 34=.iv (.int .i64 j)/\H 26=.blk false st 30 2 (bZ (out.map canon))) (λf H=>(B.length-bC f 34).toNat) ?_ ?_
  .refine⟨0,st,out,by omega,hol,λk=>?_,by simp only[wt,seval,h0],by simp only[wt,seval,h1],by simp only[wt,seval,h5],by simp only[wt,seval],by simp only[wt,seval,h28],by simp only[wt,seval,h29],by simp only[wt,seval],by simp only[wt,seval],by simp only[seval,hH]⟩;rw[hv k,if_neg (by omega),Int.add_zero]
  clear h0 h1 h5 h28 h29 hH hv hol;clear out st f H;rintro f H ⟨j,st,out,hj,hol,hv,h0,h1,h5,h6,h28,h29,h33,h34,hH⟩;rw[aC h34];simp (disch:=omega) only[wt,seval,h33,h34];refine bf (λhlj=>?_) (λhlj=>?_)
  .have hq:(out.map canon).length=N:=by rw[List.length_map,hol]
   have eij:(i:Int)+(j:Int)=((i+j:Nat):Int):=by omega
   simp (disch:=omega) only[wt,seval,h0,h1,h5,h6,h34,hH,hq,hAl,hBl];rw[eij];simp (disch:=omega) only[wt,seval];refine .inl ⟨aP (by kernel_rfl),?_⟩;have hAi:=pa.cf i;have hBj:=pb.cf j;have hprod:=fA (cf A i) (cf B j);have hold:cf out (i+j)=cv (A.take i) (cf B) (i+j):=by rw[hv,if_neg (by omega),Int.add_zero]
   have hzo:zl (cf out (i+j))<=2^35+2^35+1:=by rw[hold];exact a4u (UZ pa i) pb (by decide) _
   have m:=wu (canon (cf A i)) (canon (cf B j)) ((aY _).mono (by omega)) ((aY _).mono (by omega));rw[aS,aS]at m;refine ah (m) (by rfl) (by simp) ?_;simp (disch:=omega) only[wt,seval];have s:=RX (canon (cf out (i+j))) (canon (cf A i*cf B j)) ((aY _).mono (by omega)) ((aY _).mono (by omega));rw[aS,aS]at s;refine ah (s) (by rfl) (by simp) ?_;simp (disch:=omega) only[wt,seval,h0,h1,h5,h6,h28,h29,h33,h34,hH,hq];refine⟨aX (by kernel_rfl),?_⟩;refine⟨⟨j+1,st,out.set (i+j) (cf out (i+j)+cf A i*cf B j),by omega,by simp[hol],λk=>?_,rfl,by omega,rfl⟩,by omega⟩;rw[J5 (by omega)];by_cases e:k=i+j
   .subst e;rw[if_pos rfl,if_pos ⟨by omega,by omega⟩,hold,Nat.add_sub_cancel_left]
   .rw[if_neg e,hv k];by_cases hk:i<=k/\k<i+j
    .rw[if_pos hk,if_pos ⟨hk.1,by omega⟩]
    .rw[if_neg hk,if_neg (by omega)]
  .simp (disch:=omega) only[wt,seval,h0,h1,h5,h28,h29,hH];refine⟨⟨i+1,st,out,by omega,hol,λk=>?_,rfl,by omega,rfl⟩,by omega⟩;rw[hv k,rH]
   congr 1
   by_cases hk:i<=k
   .rw[if_pos hk];by_cases hk2:k<i+j
    .rw[if_pos ⟨hk,hk2⟩]
    .rw[if_neg (by omega),kX (q:=B) (by omega),Int.mul_zero]
   .rw[if_neg hk,if_neg (by omega)]
 .simp (disch:=omega) only[wt,seval,h5];have hiA:i=A.length:=by omega
  have e:cp (fD A B)=cp (pv (out.map canon)):=by
   refine uh λk=>?_;rw[fP,hv,gy,hiA,List.take_length]
  unfold iQ at e;rw[e];refine ah ((ru (out.map canon) (RP.canon (.of (by omega) λk=>by rw[hv];exact Nat.le_trans (a4u (UZ pa i) pb (by decide) k) (by omega))))) (by simp only[gV,qU,hH];rfl) (by simp) ?_;simp (disch:=omega) only[wt,seval,hH]
theorem a8I {a b:List RI}{q r:List Int}(ha:RP (2^30) (2^35) a)(hb:RP (2^30) (2^35) b)(eq:ps (pv a)=ps q)(er:ps (pv b)=ps r):AC Tryz.prog 91 [cw a,cw b] none [cp (fD q r)]:=by
 have h:=TG a b ha hb;rwa [zL (q:=fD q r) (by rw[dP,dP,eq,er])]at h
theorem b4k {a b:List RI}{q r:List Int}(ha:RP (2^30) (2^35) a)(hb:RP (2^30) (2^35) b)(eq:ps (pv a)=ps q)(er:ps (pv b)=ps r):AC Tryz.prog 294 [cw a,cw b] none [cp (mZ q r)]:=by
 have h:=a1w a b (ha.mono (by omega) (by omega)) (hb.mono (by omega) (by omega));rwa [zL (q:=mZ q r) (by rw[lZ,lZ,eq,er])]at h
theorem b4d {a b:List RI}{q r:List Int}(ha:RP (2^30) (2^35) a)(hb:RP (2^30) (2^35) b)(eq:ps (pv a)=ps q)(er:ps (pv b)=ps r):AC Tryz.prog 296 [cw a,cw b] none [cp (mZ q (aU (-1) r))]:=by
 have h:=b0E a b (ha.mono (by omega) (by omega)) hb;rwa [zL (q:=mZ q (aU (-1) r)) (by rw[lZ,bG,lZ,bG,eq,er])]at h
theorem F5 {a:List RI}{q:List Int}{c:RI}(ha:RP (2^30) (2^35) a)(hc:Sz (2^35) c)(eq:ps (pv a)=ps q):AC Tryz.prog 295 [cw a,cr c] none [cp (aU (iv c) q)]:=by
 have h:=Pm a c ha hc;rwa [zL (q:=aU (iv c) q) (by rw[bG,bG,eq])]at h
theorem Y9 (c:RI)(n:Nat)(hn:n<=2^29)(hc:Sz (2^35) c):AC Tryz.prog 293 [cr c,ci n] none [cp (List.replicate n 0++[iv c])]:=by
 refine AC.aj (rs:=[.tmp 4]) aV Tryz.func293 (by rfl) (by rfl) (by rfl) (by rfl) (by rfl) ?_;simp (disch:=omega) only[wt,seval];refine .inl ⟨aP (by kernel_rfl),?_⟩;have m:=ru (List.replicate n (false,[])++[c]) ⟨by simp;omega,λx hx=>by
  rcases zap.mp hx with h|h
  .rw[zca h];exact⟨by simp,Lim.nil⟩
  .rw[zb0.mp h];exact hc.mono (by omega)⟩
 have e:pv (List.replicate n (false,[])++[c])=List.replicate n 0++[iv c]:=by
  simp only[pv,zav,zfw,zaC,zbv,U5]
 rw[e]at m;refine ah (m) (by rfl) (by simp) ?_;simp (disch:=omega) only[wt,seval];exact aX (by kernel_rfl)
end

def EF (q:List Int)(e:Int)(B E:Nat)(res:List CV):Prop:=∃b bs,res=[.iv (gZ b bs q),ci e]/\bs.length=q.length/\Nw B E (oid b++ids bs)
theorem rE (q:List Int)(e:Int)(B:Nat):∃E res,B<=E/\EF q e B E res:=⟨B,_,zab _,none,List.replicate q.length none,rfl,by simp,by rw[ug];exact .nil _ _⟩
theorem b0Y {B E:Nat}{f:AL.Fr}{H:AL.Hp}{rows:List (List IV)}{b:OB}{l:List Nat}(hb:Ry B E f H rows b)(hr:bY rows=l)(hl:Nw B E l):Nw B E (oid b++l):=by
 cases b with
 |none=>exact hl
 |some g =>
  have:=hb.2 g.1 g.2 rfl;rw[hr]at this;exact hl.cons this.2.2.1 this.1 this.2.1
section
variable {i:Nat}
theorem II {l:List Nat}{j x:Nat}(h:i<j):(l.set i x).drop j=l.drop j:=by
 rw[List.drop_set];rw[zas h]
def Qb (r b:List Nat)(k i:Nat):List Nat:=dn r.length (vl D16 r-k*vl D16 b*D16^i)
theorem a4U {L r b:List Nat}{k cc:Nat}(hL:Dig L)(hl:L.length=r.length)(hb:i+b.length<=r.length)(hle:k*vl D16 b*D16^i<=vl D16 r)
  (he:vl D16 L+k*vl D16 b*D16^i=vl D16 r+cc*D16^r.length):L=Qb r b k i:=by
 have h1:=iI hL;rw[hl]at h1;have hcc:cc=0:=by
  rcases za8 cc with h|h
  .exact h
  .have:=zag (D16^r.length) h;omega
 subst hcc;refine a2S hL hl ?_;rw[zan (by omega)];omega
theorem a9W (r b:List Nat)(k i:Nat)(hr:Dig r)(hb:Dig b)(hlr:r.length<=2^43)(hk:k<=2^40)(hi:i+b.length<=r.length)(hle:k*vl D16 b*D16^i<=vl D16 r) :
  ACW Tryz.prog 261 [.any,cd b,ci k,ci i] 0 3 1 (nums r) (nums (Qb r b k i)) []:=by
 refine ACW.aj (rs:=[]) aV Tryz.func261 (by rfl) (by rfl) (by rfl) (by rfl) (by rfl) ?_;simp only[wt,seval];refine aI (λf H=>∃(j cc:Nat) (L:List Nat),i+j<=r.length/\L.length=r.length/\Dig L/\vl D16 (L.take (i+j))+k*vl D16 (b.take j)*D16^i=vl D16 (r.take (i+j))+cc*D16^(i+j)/\L.drop (i+j)=r.drop (i+j)/\cc<=2^41/\f 9=.iv (.int .i64 j)/\f 8=.iv (.int .i64 (-(cc:Int)))/\f 0=.hs 0 1/\f 1=.iv (.sl (nums b))/\f 2=.iv (.int .i64 k)/\f 3=.iv (.int .i64 i)/\H 0=.blk false 1 3 1 (nums L)) (λf H=>(r.length-bC f 9).toNat) ?_ ?_
 .refine⟨0,0,r,by omega,rfl,hr,by simp[vl],by simp,by omega,?_⟩;simp only[wt,seval]
 rintro f H ⟨j,cc,L,hj,hl,hL,hv,hd,hcc,hF⟩;rw[aC hF.1];simp (disch:=omega) only[wt,seval,hF];refine bf (λhlt=>?_) (λhlt=>?_)
 .have hij:i+j<r.length:=by omega
  have c0e:i+j<L.length:=by omega
  have hcast:((i:Int)+(j:Int)).toNat=i+j:=by omega
  have hx:L.getD (i+j) 0=r.getD (i+j) 0:=by
   have h1:(L.drop (i+j))[0]?=(r.drop (i+j))[0]?:=by rw[hd]
   simp only[List.getElem?_drop,Nat.add_zero]at h1;rw[List.getD_eq_getElem?_getD,List.getD_eq_getElem?_getD,h1]
  have hxd:=hr.get (i+j);have hyd:=hb.get j;have c0F:r.getD (i+j) 0<65536:=hxd;have hky:k*b.getD j 0<=2^40*65536:=Nat.mul_le_mul hk (by simp only[D16]at hyd;omega);generalize hxe:r.getD (i+j) 0=x at *;generalize hye:b.getD j 0=y at *;have c0M:((k:Int)*(y:Int))<=72057594037927936:=by
   rw[<-Int.natCast_mul];exact Int.ofNat_le.mpr (Nat.le_trans hky (by decide))
  have c0L:0<=((k:Int)*(y:Int)):=by rw[<-Int.natCast_mul];omega
  have step:∀s c2:Nat,s+k*y+cc=x+65536*c2->s<65536->c2<=2^41 ->
    i+(j+1)<=r.length/\(L.set (i+j) s).length=r.length/\Dig (L.set (i+j) s)/\vl D16 ((L.set (i+j) s).take (i+(j+1)))+k*vl D16 (b.take (j+1))*D16^i=vl D16 (r.take (i+(j+1)))+c2*D16^(i+(j+1))/\(L.set (i+j) s).drop (i+(j+1))=r.drop (i+(j+1))/\c2<=2^41:=by
   intro s c2 hs hs2 hc2;refine⟨by omega,by simpa using hl,hL.set hs2,?_,?_,hc2⟩
   .rw[show i+(j+1)=i+j+1 by omega,dI D16 c0e,aT D16 b j,aT D16 r (i+j),hxe,hye];have e:=a3A (P:=D16^(i+j)) (O:=vl D16 (L.take (i+j))) (B:=k*vl D16 (b.take j)*D16^i) (A:=vl D16 (r.take (i+j))) (c:=cc) (x:=x) (y:=k*y) (s:=s) (c':=c2) (by rw[hv,Nat.mul_comm cc]) (by simp only[D16];omega);rw[Nat.pow_succ,Nat.mul_comm c2];rw[<-e,Nat.mul_add,Nat.add_mul]
    congr 2
    rw[Nat.pow_add];ac_rfl
   .rw[II (by omega),show i+(j+1)=(i+j)+1 by omega,<-List.drop_drop,hd,List.drop_drop]
  by_cases hjb:(j:Int)<(b.length:Int)
  .have hjb':j<b.length:=by omega
   obtain⟨n0,hn0⟩:∃n0:Int,(x:Int) + -(cc:Int)-(k:Int)*(y:Int)=n0:=⟨_,rfl⟩;simp (disch:=omega) only[wt,seval,hF,hcast,hjb,hx,hye,hn0];refine aI (λf H=>∃(nn:Int) (c2:Nat),nn+(k:Int)*(y:Int)+cc=x+65536*(c2:Int)/\nn<65536/\(c2=0\/0<=nn)/\c2<=2^41/\f 10=.iv (.int .i64 nn)/\f 8=.iv (.int .i64 (-(c2:Int)))/\f 9=.iv (.int .i64 j)/\f 0=.hs 0 1/\f 1=.iv (.sl (nums b))/\f 2=.iv (.int .i64 k)/\f 3=.iv (.int .i64 i)/\f 12=.iv (.int .i64 i)/\H 0=.blk false 1 3 1 (nums L)) (λf H=>(-bC f 10).toNat) ?_ ?_
   .refine⟨n0,0,by omega,by omega,by omega,by omega,?_⟩;simp only[wt,seval,hF]
   rintro f H ⟨nn,c2,hne,hnn,h01,hc2,hF⟩;rw[aC hF.1];simp (disch:=omega) only[wt,seval,hF];refine bf (λhneg=>?_) (λhneg=>?_)
   .have hq:(65535-nn).tdiv 65536=(65535-nn)/65536:=Int.tdiv_eq_ediv_of_nonneg (by omega);obtain⟨m,hm⟩:∃m:Nat,(65535-nn)/65536=(m:Int):=⟨((65535-nn)/65536).toNat,by omega⟩;obtain rfl:c2=0:=by omega
    simp (disch:=omega) only[wt,seval,hF,hq,hm];refine⟨⟨nn+m*65536,m,by omega,by omega,by omega,by omega,rfl,by omega⟩,by omega⟩
   .obtain⟨s,rfl⟩:∃s:Nat,nn=(s:Int):=⟨nn.toNat,by omega⟩;have hs1:s+k*y+cc=x+65536*c2:=by
     have:((s+k*y+cc:Nat):Int)=((x+65536*c2:Nat):Int):=by rw[Int.natCast_add,Int.natCast_add,Int.natCast_mul,hne,Int.natCast_add,Int.natCast_mul];rfl
     exact Int.ofNat.inj this
    obtain⟨g1,g2,g3,g4,g5,g6⟩:=step s c2 hs1 (by omega) hc2;simp (disch:=omega) only[wt,seval,hF,hcast];exact⟨⟨j+1,c2,_,g1,g2,g3,g4,g5,g6,by omega,rfl,rfl⟩,by omega⟩
  .have hjb':¬j<b.length:=by omega
   have hy0:y=0:=by rw[<-hye,List.getD_eq_getElem?_getD,List.getElem?_eq_none (by omega)];rfl
   have c0K:(k:Int)*(y:Int)=0:=by rw[hy0];simp
   obtain⟨n0,hn0⟩:∃n0:Int,(x:Int) + -(cc:Int)=n0:=⟨_,rfl⟩;simp (disch:=omega) only[wt,seval,hF,hcast,hjb,hx,hn0];refine aI (λf H=>∃(nn:Int) (c2:Nat),nn+(k:Int)*(y:Int)+cc=x+65536*(c2:Int)/\nn<65536/\(c2=0\/0<=nn)/\c2<=2^41/\f 10=.iv (.int .i64 nn)/\f 8=.iv (.int .i64 (-(c2:Int)))/\f 9=.iv (.int .i64 j)/\f 0=.hs 0 1/\f 1=.iv (.sl (nums b))/\f 2=.iv (.int .i64 k)/\f 3=.iv (.int .i64 i)/\f 12=.iv (.int .i64 i)/\H 0=.blk false 1 3 1 (nums L)) (λf H=>(-bC f 10).toNat) ?_ ?_
   .refine⟨n0,0,by omega,by omega,by omega,by omega,?_⟩;simp only[wt,seval,hF]
   rintro f H ⟨nn,c2,hne,hnn,h01,hc2,hF⟩;rw[aC hF.1];simp (disch:=omega) only[wt,seval,hF];refine bf (λhneg=>?_) (λhneg=>?_)
   .have hq:(65535-nn).tdiv 65536=(65535-nn)/65536:=Int.tdiv_eq_ediv_of_nonneg (by omega);obtain⟨m,hm⟩:∃m:Nat,(65535-nn)/65536=(m:Int):=⟨((65535-nn)/65536).toNat,by omega⟩;obtain rfl:c2=0:=by omega
    simp (disch:=omega) only[wt,seval,hF,hq,hm];refine⟨⟨nn+m*65536,m,by omega,by omega,by omega,by omega,rfl,by omega⟩,by omega⟩
   .obtain⟨s,rfl⟩:∃s:Nat,nn=(s:Int):=⟨nn.toNat,by omega⟩;have hs1:s+k*y+cc=x+65536*c2:=by
     have:((s+k*y+cc:Nat):Int)=((x+65536*c2:Nat):Int):=by rw[Int.natCast_add,Int.natCast_add,Int.natCast_mul,hne,Int.natCast_add,Int.natCast_mul];rfl
     exact Int.ofNat.inj this
    obtain⟨g1,g2,g3,g4,g5,g6⟩:=step s c2 hs1 (by omega) hc2;simp (disch:=omega) only[wt,seval,hF,hcast];exact⟨⟨j+1,c2,_,g1,g2,g3,g4,g5,g6,by omega,rfl,rfl⟩,by omega⟩
 .obtain hij:i+j=r.length:=by omega
  simp (disch:=omega) only[wt,seval,hF];have hbt:b.take j=b:=List.take_of_length_le (by omega);rw[hij,hbt,List.take_length,<-hl,List.take_length]at hv;rw[hl]at hv;rw[a4U hL hl hi hle hv]
end
section
variable {r b:List Nat} {H:Hp} {h st e sz:Nat} {fz:Bool}
theorem a4C (h:Dig r)(j:Nat):vl D16 (r.drop j)=vl D16 r/D16^j:=by
 rcases zbh r.length j with hj|hj
 .rw[List.drop_eq_nil_of_le (by omega),za6 (zau (iI h) (zaH (by decide) (by omega)))];rfl
 .rw[gK D16 r hj,zdd _ _ (mW j),za6,za9];have:=iI (h.take j);rwa [zah,zaZ hj]at this
theorem a4B (h:Dig r)(j:Nat):vl D16 r/D16^j=vl D16 r/D16^(j+1)*65536+r.getD j 0:=by
 rw[a3b h,za7,<-zbK];have:=zbl (vl D16 r/D16^j) D16;simp only[D16]at this ⊢;omega
structure Dvr (b:List Nat):Prop where
 dig:Dig b
 pos:0<b.length
 top:b.getD (b.length-1) 0≠0
theorem Dvr.bounds (h:Dvr b):D16^(b.length-1)<=vl D16 b/\vl D16 b<(b.getD (b.length-1) 0+1)*D16^(b.length-1):=by
 have e:=aT D16 b (b.length-1);rw[show b.length-1+1=b.length by have:=h.pos;omega,zaM]at e;have h1:=iI (h.dig.take (b.length-1));rw[zah,zaZ (by omega)]at h1;have h2:=zbb (D16^(b.length-1)) (zcY h.top);rw[e];constructor
 .omega
 .rw[zaN,zfd,zaA (b.getD _ _)];omega
theorem Dvr.b8O (h:Dvr b):0<vl D16 b:=zau (mW _) h.bounds.1
def kOf (R t s:Nat):Nat:=max 1 (R/D16^s/t)
theorem b4x {b:List Nat}(h:Dvr b){R i:Nat}(hh:vl D16 b*D16^i<=R):kOf R (b.getD (b.length-1) 0+1) (i+b.length-1)*vl D16 b*D16^i<=R:=by
 have hb:=h.bounds.2;have hp:=h.pos;generalize b.getD (b.length-1) 0+1=t at *;unfold kOf;rcases Nat.le_total (R/D16^(i+b.length-1)/t) 1 with h1|h1
 .rw[Nat.max_eq_left h1,Nat.one_mul];exact hh
 .rw[Nat.max_eq_right h1];have e1:R/D16^(i+b.length-1)/t*t<=R/D16^(i+b.length-1):=Nat.div_mul_le_self _ _;have e2:R/D16^(i+b.length-1)*D16^(i+b.length-1)<=R:=Nat.div_mul_le_self _ _;generalize R/D16^(i+b.length-1)/t=q at *;generalize R/D16^(i+b.length-1)=x at *;have e3:q*vl D16 b<=q*(t*D16^(b.length-1)):=Nat.mul_le_mul_left _ (Nat.le_of_lt hb);have e4:q*(t*D16^(b.length-1))<=x*D16^(b.length-1):=by rw[<-Nat.mul_assoc];exact Nat.mul_le_mul_right _ e1
  have e5:x*D16^(b.length-1)*D16^i=x*D16^(i+b.length-1):=by rw[Nat.mul_assoc,<-Nat.pow_add];congr 2;omega
  exact Nat.le_trans (Nat.mul_le_mul_right _ (Nat.le_trans e3 e4)) (by rw[e5];exact e2)
theorem b1D {b:List Nat}(h:Dvr b){R i:Nat}(hR:R<vl D16 b*D16^(i+1)):R/D16^(i+b.length-1)<4294967296/\kOf R (b.getD (b.length-1) 0+1) (i+b.length-1)<=65536:=by
 have hb:=h.bounds.2;have hp:=h.pos;have ht:b.getD (b.length-1) 0+1<=65536:=by have:=h.dig.get (b.length-1);simp only[D16]at this;omega
 generalize hte:b.getD (b.length-1) 0+1=t at *;have h1:R<t*D16*D16^(i+b.length-1):=by
  refine Nat.lt_of_lt_of_le hR ?_;have e:t*D16*D16^(i+b.length-1)=t*D16^(b.length-1)*D16^(i+1):=by
   rw[Nat.mul_assoc,Nat.mul_assoc,<-Nat.pow_add,<-Nat.pow_succ']
   congr 2;omega
  rw[e];exact Nat.mul_le_mul_right _ (Nat.le_of_lt hb)
 have h2:R/D16^(i+b.length-1)<t*D16:=(Nat.div_lt_iff_lt_mul (mW _)).mpr h1;have h3:t*D16<=65536*65536:=Nat.mul_le_mul_right _ ht;refine⟨Nat.lt_of_lt_of_le h2 h3,?_⟩;unfold kOf;refine Nat.max_le.mpr ⟨by omega,?_⟩;exact Nat.le_of_lt (Nat.div_lt_of_lt_mul h2)
theorem a2x (r b:List Nat)(i:Nat)(hr:Dig r)(hb:Dig b)(hl:r.length<=2^42)(hlb:b.length<=2^42)(hi:i<=r.length) :
  AC Tryz.prog 260 [cd r,cd b,ci i] none [cb (decide (vl D16 b*D16^i<=vl D16 r))]:=by
 refine AC.aj (rs:=[.tmp 6]) aV Tryz.func260 (by rfl) (by rfl) (by rfl) (by rfl) (by rfl) ?_;have e:List.take ((r.length:Int)-(i:Int)).toNat (List.drop i r)=List.drop i r:=zac (by rw[zbV];omega);simp (disch:=omega) only[wt,seval,e];have m:=Gu (r.drop i) b (λx hx=>hr x (zcE hx)) hb (by rw[zbV];omega) hlb;rw[a4C hr]at m;refine ah (m) (by rfl) (by simp) ?_;simp (disch:=omega) only[wt,seval];rw[zbA,<-zcv (mW i)];unfold Uw;split
 .omega
 .split<;>omega
def hval (H:Hp)(h:Nat):Nat:=match H h with
 |.blk _ _ _ _ rows=>vl D16 (rows.map λr=>match r with | [.int _ n]=>n.toNat|_=>0)
 |_=>0
theorem a2r {H:Hp}{h st e sz:Nat}{fz:Bool}{l:List Nat}(hh:H h=.blk fz st e sz (nums l)):hval H h=vl D16 l:=by
 unfold hval;rw[hh];simp only[nums,List.map_map]
 congr 1
 conv=>rhs;rw[<-List.map_id l]
 exact List.map_congr_left λx _=>by simp
def hlen (H:Hp)(h:Nat):Nat:=match H h with
 |.blk _ _ _ _ rows=>rows.length
 |_=>0
theorem a2v {rows:List (List IV)}(hh:H h=.blk fz st e sz rows):hlen H h=rows.length:=by unfold hlen;rw[hh]
theorem b4b {q:List Nat}{i k:Nat}(h:i<q.length):vl D16 (q.set i (q.getD i 0+k))=vl D16 q+k*D16^i:=by
 have e1:=gK D16 (q.set i (q.getD i 0+k)) (k:=i+1) (by simp;omega);have e2:=gK D16 q (k:=i+1) (by omega);rw[II (by omega),dI D16 h]at e1;rw[aT]at e2;rw[e1,e2,zbx,zaA k];omega
theorem Yw (a b:List Nat)(ha:Dig a)(hb:Dvr b)(hla:a.length<=2^41)(hlb:b.length<=2^41)(hab:b.length<=a.length) :
  AC Tryz.prog 199 [cd a,cd b] none [cd (dn (a.length-b.length+1) (vl D16 a/vl D16 b)),cd (dgD (vl D16 a%vl D16 b))]:=by
 refine AC.aj (rs:=[.tmp 4,.tmp 5]) aV Tryz.func199 (by rfl) (by rfl) (by rfl) (by rfl) (by rfl) ?_;have hp:=hb.pos;have hm:((a.length:Int)-(b.length:Int)+1).toNat=a.length-b.length+1:=by omega
 have ht1:((b.length:Int)-1).toNat=b.length-1:=by omega
 have hlt:¬((a.length:Int)<(b.length:Int)):=by omega
 have htop:=hb.dig.get (b.length-1);have b9R:b.getD (b.length-1) 0<65536:=htop;have hm2:(((a.length-b.length+1:Nat):Int))=(a.length:Int)-(b.length:Int)+1:=by omega
 simp (disch:=omega) only[wt,seval,hm,ht1,hlt];have b5Z:=iI ha;have hT:=hb.bounds.1;have b4J:=hb.b8O;have hstart:vl D16 a<vl D16 b*D16^(a.length-b.length+1):=by
  refine Nat.lt_of_lt_of_le b5Z ?_;have e:D16^a.length=D16^(b.length-1)*D16^(a.length-b.length+1):=by rw[<-Nat.pow_add];congr 1;omega
  rw[e];exact Nat.mul_le_mul_right _ hT
 generalize hme:a.length-b.length+1=m at *;have hml:m<=2^42:=by omega
 generalize hV:vl D16 a=V at *;refine aI (λf H=>∃(i1 s13 s28:Nat) (r q:List Nat),i1<=m/\Dig r/\Dig q/\q.length=m/\vl D16 q*vl D16 b+vl D16 r=V/\vl D16 r<vl D16 b*D16^i1/\i1<=r.length+1/\r.length<=2^42/\(∀j,j<i1->q.getD j 0=0)/\(i1=0->r=dgD (vl D16 r))/\f 9=.iv (.int .i64 ((i1:Int)-1))/\f 6=.hs 13 s13/\f 7=.hs 28 s28/\f 1=.iv (.sl (nums b))/\f 8=.iv (.int .i64 ((b.getD (b.length-1) 0:Nat)+1))/\H 13=.blk false s13 3 1 (nums r)/\H 28=.blk false s28 3 1 (nums q)) (λf H=>(bC f 9+1).toNat) ?_ ?_
 .refine⟨m,2,1,a,List.replicate m 0,Nat.le_refl _,ha,Dig.replicate _,by simp,by rw[jB,Nat.zero_mul,Nat.zero_add,hV],by rw[hV];exact hstart,by omega,by omega,λj _=>by simp[List.getD,List.getElem?_replicate];split<;>rfl,by omega,?_⟩;simp only[wt,seval,W9]
 rintro f H ⟨i1,s13,s28,r,q,hi1,hr,hq,hql,hv,hlt1,hil,hrl,hz,hfin,hF⟩;rw[aC hF.1];simp (disch:=omega) only[wt,seval,hF];refine bf (λhge=>?_) (λhge=>?_)
 .obtain⟨i,rfl⟩:∃i,i1=i+1:=⟨i1-1,by omega⟩;have hie:((i+1:Nat):Int)-1=(i:Int):=by omega
  rw[hie]at hF;simp (disch:=omega) only[wt,seval,hie];refine aI (λf H=>∃(s13 s28:Nat) (r q:List Nat),(Dig r/\Dig q/\q.length=m/\vl D16 q*vl D16 b+vl D16 r=V/\vl D16 r+q.getD i 0*vl D16 b*D16^i<vl D16 b*D16^(i+1)/\i<=r.length/\r.length<=2^42/\∀j,j<i->q.getD j 0=0) /\
   f 9=.iv (.int .i64 i)/\f 6=.hs 13 s13/\f 7=.hs 28 s28/\f 1=.iv (.sl (nums b))/\f 8=.iv (.int .i64 ((b.getD (b.length-1) 0:Nat)+1))/\H 13=.blk false s13 3 1 (nums r)/\H 28=.blk false s28 3 1 (nums q)) (λf H=>hval H 13) ?_ ?_
  .refine⟨s13,s28,r,q,⟨hr,hq,hql,hv,?_,by omega,hrl,λj hj=>hz j (by omega)⟩,?_⟩
   .rw[hz i (by omega),Nat.zero_mul,Nat.zero_mul,Nat.add_zero];exact hlt1
   .simp only[wt,seval,hF]
  clear hF hfin hil hrl hz hlt1 hv hql hq hr;clear r q;rintro f H ⟨s13,s28,r,q,⟨hr,hq,hql,hv,hlt1,hil,hrl,hz⟩,hF⟩;rw[a2r hF.2.2.2.2.2.1];simp (disch:=omega) only[wt,seval,hF];have hlt2:vl D16 r<vl D16 b*D16^(i+1):=by omega
  obtain⟨hhl,hkl⟩:=b1D hb hlt2;refine J6 ((a2x r b i hr hb.dig hrl (by omega) hil)) (by simp only[gV,qU,hF];rfl) (by simp) (.inr (by simp[xM,RF,RD])) ?_;simp (disch:=omega) only[wt,seval];by_cases hh:vl D16 b*D16^i<=vl D16 r
  .have hlr:i+b.length<=r.length:=by
    have h1:D16^(b.length-1+i)<D16^r.length:=by
     rw[Nat.pow_add];exact Nat.lt_of_le_of_lt (Nat.le_trans (Nat.mul_le_mul_right _ hT) hh) (iI hr)
    have h2:=(Nat.pow_lt_pow_iff_right (by decide:1<D16)).mp h1;omega
   obtain⟨hx,hxe⟩:∃g:Nat->Nat,g=λj=>vl D16 r/D16^j:=⟨_,rfl⟩
   have hz0:hx r.length=0:=by rw[hxe];exact Nat.div_eq_of_lt (iI hr)
   have hxs:∀j,hx (j+1)*65536+r.getD j 0=hx j:=λj=>by rw[hxe];exact(a4B hr j).symm
   have hxm:∀j,i+b.length<=j+1->hx j<=hx (i+b.length-1):=λj hj=>by rw[hxe];exact Nat.div_le_div_left (Nat.pow_le_pow_right (by decide) (by omega)) (mW _)
   have hxl:hx (i+b.length-1)<4294967296:=by rw[hxe];exact hhl
   have hkle:=b4x hb hh;have c0N:kOf (vl D16 r) (b.getD (b.length-1) 0+1) (i+b.length-1)=max 1 (hx (i+b.length-1)/(b.getD (b.length-1) 0+1)):=by rw[hxe];rfl
   clear hhl;simp (disch:=omega) only[wt,seval,hF,hh];refine aI (λf H=>∃(j1:Nat),i+b.length<=j1+1/\j1<=r.length/\f 11=.iv (.int .i64 ((j1:Int)-1))/\f 10=.iv (.int .i64 (hx j1:Nat))/\f 9=.iv (.int .i64 i)/\f 6=.hs 13 s13/\f 7=.hs 28 s28/\f 1=.iv (.sl (nums b))/\f 8=.iv (.int .i64 ((b.getD (b.length-1) 0:Nat)+1))/\H 13=.blk false s13 3 1 (nums r)/\H 28=.blk false s28 3 1 (nums q)) (λf H=>(bC f 11+1).toNat) ?_ ?_
   .refine⟨r.length,by omega,Nat.le_refl _,?_⟩;simp only[wt,seval,hF,hz0]
   rintro f H ⟨j1,hj1,hj2,hF⟩;rw[aC hF.1];simp (disch:=omega) only[wt,seval,hF];have hdl:=hxm j1 hj1;refine bf (λb5V=>?_) (λb5V=>?_)
   .obtain⟨j,rfl⟩:∃j,j1=j+1:=⟨j1-1,by omega⟩;have hje:((j+1:Nat):Int)-1=(j:Int):=by omega
    have hrd:r.getD j 0<65536:=hr.get j;have hs1:=hxs j;have hs2:=hxm j (by omega);have hst:(hx (j+1):Int)*65536+((r.getD j 0:Nat):Int)=(hx j:Int):=by omega
    rw[hje]at hF b5V;simp (disch:=omega) only[wt,seval,hF,hje,hst];exact⟨⟨j,by omega,by omega,rfl,rfl⟩,by omega⟩
   .obtain rfl:j1=i+b.length-1:=by omega
    generalize hx (i+b.length-1)=x at *;have hq0:((x:Nat):Int).tdiv (((b.getD (b.length-1) 0:Nat):Int)+1)=((x/(b.getD (b.length-1) 0+1):Nat):Int):=by
     rw[Int.tdiv_eq_ediv_of_nonneg (by omega)];rfl
    have hq1:x/(b.getD (b.length-1) 0+1)<=x:=Nat.div_le_self _ _;generalize x/(b.getD (b.length-1) 0+1)=y at *;generalize hkd:kOf (vl D16 r) (b.getD (b.length-1) 0+1) (i+b.length-1)=k at *;have hq2:max (1:Int) ((y:Nat):Int)=((k:Nat):Int):=by omega
    have hk1:1<=k:=by omega
    have hiq:i<q.length:=by omega
    have hlv:vl D16 (Qb r b k i)=vl D16 r-k*vl D16 b*D16^i:=by
     unfold Qb;rw[Ol,Nat.mod_eq_of_lt (Nat.lt_of_le_of_lt (Nat.sub_le _ _) (iI hr))]
    have hprod:D16^i<=k*vl D16 b*D16^i:=by
     have:=Nat.mul_le_mul_right (D16^i) (Nat.mul_le_mul hk1 b4J);simpa using this
    have hDi:=mW i;have hqs:=b4b (k:=k) hiq;have hkT:k*D16^i*vl D16 b=k*vl D16 b*D16^i:=Nat.mul_right_comm _ _ _;have b8h:(q.getD i 0+k)*vl D16 b*D16^i=q.getD i 0*vl D16 b*D16^i+k*vl D16 b*D16^i:=by rw[Nat.add_mul,Nat.add_mul]
    have hqi:q.getD i 0+k<D16:=by
     have h1:(q.getD i 0+k)*vl D16 b*D16^i<D16*vl D16 b*D16^i:=by
      rw[b8h];have:D16*vl D16 b*D16^i=vl D16 b*D16^(i+1):=by rw[Nat.pow_succ];ac_rfl
      rw[this];omega
     exact Nat.lt_of_mul_lt_mul_right (Nat.lt_of_mul_lt_mul_right h1)
    have hqk:((q.getD i 0:Nat):Int)+(k:Int)=((q.getD i 0+k:Nat):Int):=by omega
    have c0H:q.getD i 0+k<65536:=hqi;have b7n:(q.set i (q.getD i 0+k)).getD i 0=q.getD i 0+k:=by simp[List.getD,hiq]
    simp (disch:=omega) only[wt,seval,hF,hq0,hq2];refine a7v ((a9W r b k i hr hb.dig (by omega) (by omega) hlr hkle)) (by first|rfl|(simp only[wt,seval,hF,hqk];done)) (by first|rfl|(simp only[seval,hF];done)) (by rfl) (by simp) (by simp) ?_;simp (disch:=omega) only[wt,seval,hF,hqk];refine⟨⟨s13,s28,Qb r b k i,q.set i (q.getD i 0+k),⟨IK _ _,hq.set hqi,by simpa using hql,?_,?_,?_,?_,λj hj=>?_⟩,rfl,rfl,rfl,rfl⟩,?_⟩
    .rw[hqs,Nat.add_mul,hkT,hlv];omega
    .rw[b7n,b8h,hlv];omega
    .rw[Qb,xC];exact hil
    .rw[Qb,xC];exact hrl
    .have:(q.set i (q.getD i 0+k)).getD j 0=q.getD j 0:=by simp only[List.getD,List.getElem?_set,show ¬i=j by omega,if_false]
     rw[this];exact hz j hj
    .rw[a2r (st:=s13) (e:=3) (sz:=1) (fz:=false) (l:=Qb r b k i) (by simp only[yX];rfl),hlv];omega
  .have mc:=LZ r (by omega);rw[Qr hr]at mc;have hdl:(dgD (vl D16 r)).length<=r.length:=by
    rw[<-Qr hr,List.length_take];omega
   have hRi:vl D16 r<vl D16 b*D16^i:=by omega
   simp (disch:=omega) only[wt,seval,hF,hh];refine ah (mc) (by simp only[gV,qU,yX,Nat.reduceEqDiff,↓reduceIte,hF];rfl) (by simp) ?_;simp (disch:=omega) only[wt,seval,hF];refine rZ (.ren 6 82 13 _ _ _ _ (by rfl) (by rfl) (by decide) (.refl _ _)) (λf H=>∃(t13 n:Nat),(n=0\/(dgD (vl D16 r)).length+n<=i)/\f 9=.iv (.int .i64 i)/\f 6=.hs 13 t13/\f 7=.hs 28 s28/\f 1=.iv (.sl (nums b))/\f 8=.iv (.int .i64 ((b.getD (b.length-1) 0:Nat)+1)) /\
    H 13=.blk false t13 3 1 (nums (dgD (vl D16 r)++List.replicate n 0))/\H 28=.blk false s28 3 1 (nums q)) (λf H=>i-hlen H 13) ?_ ?_
   .refine⟨s13+1,0,.inl rfl,?_⟩;simp only[wt,seval,hF,List.replicate_zero]
   rintro f H ⟨t13,n,hn,hF⟩;rw[a2v hF.2.2.2.2.2.1];have hll:(dgD (vl D16 r)++List.replicate n 0).length=(dgD (vl D16 r)).length+n:=by simp
   simp (disch:=omega) only[wt,seval,hF,hll];refine bf (λb5V=>?_) (λb5V=>?_)
   .simp (disch:=omega) only[wt,seval,hF,hll];have e1:nums (dgD (vl D16 r)++List.replicate n 0)++[[IV.int IntKind.i64 0]]=nums (dgD (vl D16 r)++List.replicate (n+1) 0):=by
     rw[List.replicate_succ',<-List.append_assoc,<-PK];rfl
    rw[e1];refine⟨⟨t13+1,n+1,.inr (by omega),rfl,rfl⟩,?_⟩;rw[a2v (st:=t13+1) (e:=3) (sz:=1) (fz:=false) (rows:=nums (dgD (vl D16 r)++List.replicate (n+1) 0)) (by simp only[yX];rfl),Wh];simp only[List.length_append,List.length_replicate];omega
   .simp (disch:=omega) only[wt,seval,hF];have hvv:vl D16 (dgD (vl D16 r)++List.replicate n 0)=vl D16 r:=by rw[jC,jB,Nat.mul_zero,Nat.add_zero,iF]
    refine⟨⟨i,t13,s28,dgD (vl D16 r)++List.replicate n 0,q,by omega,(gu _).append (Dig.replicate _),hq,hql,by rw[hvv];exact hv,by rw[hvv];exact hRi,by omega,by omega,hz,λh0=>?_,rfl,rfl,rfl,rfl,rfl⟩,by omega⟩;obtain rfl:n=0:=by omega
    rw[hvv,List.replicate_zero,List.append_nil]
 .obtain rfl:i1=0:=by omega
  simp (disch:=omega) only[wt,seval,hF];have hr0:vl D16 r<vl D16 b:=by simpa using hlt1
  have hqv:vl D16 q=V/vl D16 b:=by
   rw[<-hv,Nat.add_comm,Nat.add_mul_div_right _ _ b4J,Nat.div_eq_of_lt hr0,Nat.zero_add]
  have hrv:vl D16 r=V%vl D16 b:=by
   rw[<-hv,Nat.add_comm,Nat.add_mul_mod_self_right,Nat.mod_eq_of_lt hr0]
  have e1:q=dn m (V/vl D16 b):=by
   refine a2S hq hql ?_;rw[<-hqv];have:=iI hq;rw[hql]at this;rw[Nat.mod_eq_of_lt this]
  rw[<-hrv,<-hfin rfl,<-e1];exact⟨rfl,rfl⟩
end
theorem b1T {y:Nat}(h:y≠0):Dvr (dgD y):=by
 have hp:0<(dgD y).length:=by
  rcases za8 (dgD y).length with h0|h0
  .exact absurd (rG.mp h0) h
  .exact h0
 refine⟨gu y,hp,λh0=>?_⟩;have e:=aT D16 (dgD y) ((dgD y).length-1);rw[show (dgD y).length-1+1=(dgD y).length by omega,zaM,h0,zcd,zaV,iF]at e;have h1:=iI ((gu y).take ((dgD y).length-1));rw[zah,zaZ (by omega),<-e]at h1;have:=(jc kQ ((dgD y).length-1) (n:=y)).mpr h1;have h2:(dg D16 y).length=(dgD y).length:=rfl;omega
theorem Qp (a b:List Nat)(ha:a.length<=2^41)(hb:b.length<=2^41)(h:a.length<b.length):AC Tryz.prog 199 [cd a,cd b] none [cd [],cd a]:=by
 refine AC.aj (rs:=[.tmp 4,.tmp 5]) aV Tryz.func199 (by rfl) (by rfl) (by rfl) (by rfl) (by rfl) ?_;have hlt:(a.length:Int)<(b.length:Int):=by omega
 simp (disch:=omega) only[wt,seval,hlt]
theorem X4 (x y:Nat)(hy:y≠0)(hx:(dgD x).length<=2^41)(hyl:(dgD y).length<=2^41):∃q,Dig q/\vl D16 q=x/y/\q.length<=(dgD x).length+1/\AC Tryz.prog 199 [cd (dgD x),cd (dgD y)] none [cd q,cd (dgD (x%y))]:=by
 have hd:=b1T hy;rcases Nat.lt_or_ge (dgD x).length (dgD y).length with h|h
 .have hlt:x<y:=by
   have h1:=iI (gu x);rw[iF]at h1;have h2:=hd.bounds.1;rw[iF]at h2;exact Nat.lt_of_lt_of_le h1 (Nat.le_trans (Nat.pow_le_pow_right (by decide) (by omega)) h2)
  refine⟨[],Dig.nil,by rw[Nat.div_eq_of_lt hlt];rfl,by simp,?_⟩;rw[Nat.mod_eq_of_lt hlt];exact Qp _ _ hx hyl h
 .have m:=Yw (dgD x) (dgD y) (gu x) hd hx hyl h;rw[iF,iF]at m;refine⟨_,IK _ _,?_,?_,m⟩
  .rw[Ol];refine Nat.mod_eq_of_lt ?_;have h1:=iI (gu x);rw[iF]at h1;have h2:=hd.bounds.1;rw[iF]at h2;refine(Nat.div_lt_iff_lt_mul (by omega)).mpr (Nat.lt_of_lt_of_le h1 ?_);have e:D16^(dgD x).length=D16^((dgD x).length-(dgD y).length+1)*D16^((dgD y).length-1):=by
    rw[<-Nat.pow_add];congr 1;have:=hd.pos;omega
   rw[e];exact Nat.mul_le_mul_left _ h2
  .rw[xC];have:=hd.pos;omega
theorem D6 (a b:List Nat)(ha:Lim a)(hb:Lim b)(hla:a.length<=2^38)(hlb:b.length<=2^38)(h0:nv b≠0):AC Tryz.prog 109 [cl a,cl b] none [cl (wd (nv a/nv b)),cl (wd (nv a%nv b))]:=by
 refine AC.aj (rs:=[.tmp 4,.tmp 5]) aV Tryz.func109 (by rfl) (by rfl) (by rfl) (by rfl) (by rfl) ?_;obtain⟨x,y,s,h1,h2⟩:=Aq a b 63 ha hb (by omega) (by omega) (by omega);have h3:=nO ha;have h4:=nO hb;simp only[wt,seval];refine ah (h1) (by rfl) (by simp) ?_;simp (disch:=omega) only[wt,seval];cases s with
 |true =>
  obtain⟨rfl,rfl,b1,b2⟩:=h2 rfl;have e1:((nv a:Nat):Int).tdiv ((nv b:Nat):Int)=((nv a/nv b:Nat):Int):=by rw[zbY (by omega)];rfl
  have e2:((nv a:Nat):Int).tmod ((nv b:Nat):Int)=((nv a%nv b:Nat):Int):=by rw[zds (by omega)];rfl
  have l1:nv a/nv b<=nv a:=zbO _ _;have l2:nv a%nv b<=nv a:=Nat.mod_le _ _;generalize nv a/nv b=q at *;generalize nv a%nv b=r at *;have hqW:q<W:=by simp only[W];omega
  have hrW:r<W:=by simp only[W];omega
  simp (disch:=omega) only[wt,seval,e1,iq hqW];refine .inl ⟨aP (by kernel_rfl),?_⟩;refine ah ((JQ q hqW)) (by rfl) (by simp) ?_;simp (disch:=omega) only[wt,seval,e2];refine ah ((JQ r hrW)) (by rfl) (by simp) ?_;simp (disch:=omega) only[wt,seval];exact aX (by kernel_rfl)
 |false =>
  simp only[wt,seval];refine ah ((lW a ha (by omega))) (by rfl) (by simp) ?_;simp only[wt,seval];refine ah ((lW b hb (by omega))) (by rfl) (by simp) ?_;simp only[wt,seval];obtain⟨q,q1,q2,q3,m⟩:=X4 (nv a) (nv b) h0 (by omega) (by omega);refine ah (m) (by rfl) (by simp) ?_;simp (disch:=omega) only[wt,seval];have m1:=lF q q1 (by omega);rw[q2]at m1;have h5:(dgD (nv a%nv b)).length<=2^41:=by
   have h6:nv a%nv b<D16^(dgD (nv b)).length:=zau (zbj _ (by omega)) (by have:=iI (gu (nv b));rw[iF]at this;omega);have:=(jc kQ (dgD (nv b)).length).mpr h6;have e:(dg D16 (nv a%nv b)).length=(dgD (nv a%nv b)).length:=rfl;omega
  have m2:=lF (dgD (nv a%nv b)) (gu _) (by omega);rw[iF]at m2;refine ah (m1) (by rfl) (by simp) ?_;simp only[wt,seval];refine ah (m2) (by rfl) (by simp) ?_;simp (disch:=omega) only[wt,seval]
theorem a0H (a b:RI)(ha:Sz (2^38) a)(hb:Sz (2^38) b)(h0:iv b≠0)(hd:iv b∣iv a):AC Tryz.prog 298 [cr a,cr b] none [cz (iv a/iv b)]:=by
 refine AC.aj (rs:=[.cell 4 30]) aV Tryz.func298 (by rfl) (by rfl) (by rfl) (by rfl) (by rfl) ?_;rw[vX,vX]at hd;rw[vX]at h0;have hm:=a0d.mp hd;have hn:nv b.2≠0:=λh=>h0 (by rw[h];cases b.1<;>rfl)
 have m:=D6 a.2 b.2 ha.2 hb.2 ha.1 hb.1 hn;have hl:(wd (nv a.2/nv b.2)).length<=2^38:=zad (zad (bF (zbO _ _)) (iP ha.2)) ha.1;have i1:=vW (a.1 != b.1) (wd (nv a.2/nv b.2)) (bg _) (by omega);rw[bJ]at i1;rw[vX,vX,(a0e hm).1];simp (disch:=omega) only[wt,seval];refine ah (m) (by rfl) (by simp) ?_;simp (disch:=omega) only[wt,seval];refine ah (i1) (by rfl) (by simp) ?_;simp (disch:=omega) only[wt,seval]
def b1Z (f:Fr)(t:Nat):Nat:=match f t with
 |.iv (.sl rows)=>vl D16 (rows.map λr=>match r with | [.int _ n]=>n.toNat|_=>0)
 |_=>0
theorem X7 {f:Fr}{t:Nat}{l:List Nat}(h:f t=.iv (.sl (nums l))):b1Z f t=vl D16 l:=by
 unfold b1Z;rw[h];simp only[nums,List.map_map]
 congr 1
 conv=>rhs;rw[<-List.map_id l]
 exact List.map_congr_left λx _=>by simp
theorem a7k {a b:Nat}(h:a<=b):(dgD a).length<=(dgD b).length:=by
 have h1:=iI (gu b);rw[iF]at h1;exact(jc kQ (dgD b).length (n:=a)).mpr (za3 h h1)
theorem Td (a b:List Nat)(ha:Lim a)(hb:Lim b)(hla:a.length<=2^38)(hlb:b.length<=2^38):AC Tryz.prog 110 [cl a,cl b] none [cl (wd (Nat.gcd (nv a) (nv b)))]:=by
 refine AC.aj (rs:=[.tmp 4]) aV Tryz.func110 (by rfl) (by rfl) (by rfl) (by rfl) (by rfl) ?_;obtain⟨x,y,s,h1,h2⟩:=Aq a b 63 ha hb (by omega) (by omega) (by omega);have h3:=nO ha;have h4:=nO hb;simp only[wt,seval];refine ah (h1) (by rfl) (by simp) ?_;simp (disch:=omega) only[wt,seval];cases s with
 |true =>
  obtain⟨rfl,rfl,b1,b2⟩:=h2 rfl;clear h1 h2;generalize nv a=x at *;generalize nv b=y at *;refine aI (λf H=>∃(u v:Nat),Nat.gcd u v=Nat.gcd x y/\u<2^63/\v<2^63/\f 6=.iv (.int .u64 v)/\f 5=.iv (.int .u64 u)/\f 7=.iv (.bool true)) (λf H=>(bC f 6).toNat) ?_ ?_
  .refine⟨x,y,rfl,b1,b2,?_⟩;simp only[wt,seval]
  rintro f H ⟨u,v,hg,hu,hv,hF⟩;rw[aC hF.1];simp (disch:=omega) only[wt,seval,hF];by_cases hp:0<v
  .have hp':(0:Int)<(v:Int):=by omega
   have e2:((u:Nat):Int).tmod ((v:Nat):Int)=((u%v:Nat):Int):=by rw[zds (by omega)];rfl
   have hlt:=zbj u hp;generalize hr:u%v=r at *;simp (disch:=omega) only[wt,seval,hF,hp',e2];refine .inl ⟨aP (by kernel_rfl),?_⟩;refine⟨aX (by kernel_rfl),?_⟩;refine⟨⟨v,r,?_,hv,by omega,rfl,rfl⟩,by omega⟩;rw[<-hg,<-hr,zew u v,Nat.gcd_rec v u,zew]
  .obtain rfl:v=0:=by omega
   rw[zdE]at hg;subst hg;simp (disch:=omega) only[wt,seval,hF];refine ah ((JQ (Nat.gcd x y) (by simp only[W];omega))) (by rfl) (by simp) ?_;simp (disch:=omega) only[wt,seval]
 |false =>
  clear h2;refine aI (λf H=>True/\f 6=.iv (.int .u64 y)/\f 5=.iv (.int .u64 x)/\f 7=.iv (.bool false)/\f 0=.iv (.sl (dh a))/\f 1=.iv (.sl (dh b))) (λf H=>(bC f 6).toNat) ?_ ?_
  .refine⟨zar,?_⟩;simp only[wt,seval]
  rintro f H ⟨_,hF⟩;rw[aC hF.1];simp (disch:=omega) only[wt,seval,hF];refine ah ((lW a ha (by omega))) (by rfl) (by simp) ?_;simp only[wt,seval,hF];refine ah ((lW b hb (by omega))) (by rfl) (by simp) ?_;simp only[wt,seval];generalize nv a=x1 at *;generalize nv b=y1 at *;refine aI (λf H=>∃u v:Nat,Nat.gcd u v=Nat.gcd x1 y1/\(dgD u).length<=2^40/\(dgD v).length<=2^40/\f 8=.iv (.sl (nums (dgD u)))/\f 9=.iv (.sl (nums (dgD v)))) (λf H=>b1Z f 9) ?_ ?_
  .exact⟨x1,y1,rfl,by omega,by omega,by simp only[wt,seval]⟩
  clear hF;rintro f H ⟨u,v,hg,hu,hv,hF⟩;rw[X7 hF.2,iF];simp (disch:=omega) only[wt,seval,hF];refine bf (λh=>?_) (λh=>?_)
  .have h0:v≠0:=λh1=>by rw[h1,rG.mpr rfl]at h;simp at h
   obtain⟨q,q1,q2,q3,m⟩:=X4 u v h0 (by omega) (by omega);have hlt:=zbj u (zcY h0);have hml:=a7k (zee hlt);have mc:=LZ (dgD (u%v)) (by omega);rw[Qr (gu _),iF]at mc;simp only[wt,seval,hF];refine ah (m) (by rfl) (by simp) ?_;simp (disch:=omega) only[wt,seval,hF];refine ah (mc) (by rfl) (by simp) ?_;simp only[wt,seval];rw[X7 rfl,iF];exact⟨⟨v,u%v,by rw[<-hg,zew u v,Nat.gcd_rec v u,zew],hv,by omega,rfl,rfl⟩,hlt⟩
  .have h0:v=0:=rG.mp (by omega);subst h0;rw[zdE]at hg;subst hg;have mn:=lF (dgD (Nat.gcd x1 y1)) (gu _) (by omega);rw[iF]at mn;simp only[wt,seval,hF];refine ah (mn) (by rfl) (by simp) ?_;simp (disch:=omega) only[wt,seval]

theorem TD (p:List RI)(c:RI)(hp:RP (2^40) (2^38) p)(hc:Sz (2^38) c)(h0:iv c=0):ACX Tryz.prog 195 [cw p,cr c] (EF [] 1):=by
 refine ACX.aj zi0 (rs:=[.tmp 4,.tmp 5]) aV zfx (by rfl) (by rfl) (by rfl) (by rfl) (by rfl) (rE _ _) (λB=>?_);simp (disch:=omega) only[wt,seval];have hs:=uw c (hc.mono (by omega));rw[h0]at hs;rw[Int.sign_zero]at hs;refine ah (hs) (by rfl) (by simp) ?_;simp (disch:=omega) only[wt,seval];refine dO 4 30 2 (by rfl) ?_;refine aQ [.iv (gZ none [] []),ci 1] (by rfl) (by simp (disch:=omega) only[wt,seval];rfl) ?_;intro E hE;exact⟨none,[],rfl,rfl,.nil _ _⟩

section
variable {B E:Nat} {l:List Nat}
theorem a0G:List.range 5=[0,1,2,3,4]:=rfl
theorem Nw.perm {m:List Nat}(h:Nw B E l)(p:l.Perm m):Nw B E m:=⟨p.nodup_iff.1 h.1,λg hg=>h.2 g (p.mem_iff.2 hg)⟩
abbrev OP:=OB×List OB
def pid (c:OP):List Nat:=oid c.1++ids c.2
def jH (cs:List OP)(ps:List (List Int)):List (List IV):=List.zipWith (λc q=>[gZ c.1 c.2 q]) cs ps
def POk (cs:List OP)(ps:List (List Int)):Prop:=cs.length=ps.length/\∀(i:Nat) c q,cs[i]?=some c->ps[i]?=some q->c.2.length=q.length
theorem uf:∀{cs:List OP} {ps:List (List Int)},POk cs ps->bY (jH cs ps)=cs.flatMap pid
 |[],_,_=>by simp[jH,bY]
 |c::cs,[],h=>by have:=h.1;simp at this
 |c::cs,q::ps,h=>by
  have h0:=h.2 0 c q rfl rfl;have ht:POk cs ps:=⟨by have:=h.1;simpa using this,λi c' q' hc hq=>h.2 (i+1) c' q' (by simpa using hc) (by simpa using hq)⟩;have:=uf ht;simp only[jH,List.zipWith_cons_cons,bY,List.flatMap_cons]at this ⊢;rw[this]
  congr 1
  simp only[iV,List.append_nil,pid];rw[<-Qc h0];cases c.1<;>simp[IV.ids,oid]
theorem b0V {E':Nat}{b:OB}(hE:E<=E')(h:∀g cap,b=some (g,cap)->B<=g/\g<E'/\g∉l)(hl:Nw B E l):Nw B E' (oid b++l):=by
 cases b with
 |none=>exact hl.mono (zab _) hE
 |some g =>
  have:=h g.1 g.2 rfl;exact(hl.mono (zab _) hE).cons this.2.2 this.1 this.2.1
theorem y9 (b:OB)(e sz:Nat)(rows:List (List IV)):(IV.own b e sz rows).ids=oid b++bY rows:=by
 cases b<;>simp[IV.ids,oid]
end
set_option linter.defProp false
theorem jE {b:OB}{bs:List OB}{q:List Int}(h:bs.length=q.length)(t:aO q=q):Je (.iv (gZ b bs q)) (cp q):=by
 have:=Gj (b:=b) h;have e:cp q=.iv (.sl (bZ (q.map canon))):=by rw[cp,iQ,t]
 rw[e];exact .iv this
theorem qy {cs:List OP}{ps:List (List Int)}(h:cs.length=ps.length):(jH cs ps).length=ps.length:=by simp[jH,h]
theorem y7 {cs:List OP}{ps:List (List Int)}(h:cs.length=ps.length)(c:OP)(q:List Int):jH (cs++[c]) (ps++[q])=jH cs ps++[[gZ c.1 c.2 q]]:=by simp[jH,List.zipWith_append h]
theorem a1p {cs:List OP}{ps:List (List Int)}(h:cs.length=ps.length)(c d:OP)(q r:List Int):(jH (cs++[c]++[d]) (ps++[q]++[r])).getD ps.length []=[gZ c.1 c.2 q]:=by
 rw[y7 (by simp[h]),y7 h,List.getD,List.append_assoc,List.getElem?_append_right (by rw[qy h];exact Nat.le_refl _),qy h,Nat.sub_self];rfl
theorem Ye {cs:List OP}{ps:List (List Int)}(h:cs.length=ps.length)(c:OP)(q:List Int):(jH (cs++[c]) (ps++[q])).getD ps.length []=[gZ c.1 c.2 q]:=by
 rw[y7 h,List.getD,List.getElem?_append_right (by rw[qy h];exact Nat.le_refl _),qy h,Nat.sub_self];rfl
theorem POk.snoc {cs:List OP}{ps:List (List Int)}(h:POk cs ps){c:OP}{q:List Int}(hl:c.2.length=q.length):POk (cs++[c]) (ps++[q]):=by
 refine⟨by simp[h.1],λi c' q' hc hq=>?_⟩;by_cases e:i<cs.length
 .rw[List.getElem?_append_left e]at hc;rw[List.getElem?_append_left (by rw[<-h.1];exact e)]at hq;exact h.2 i c' q' hc hq
 .rw[List.getElem?_append_right (by omega)]at hc;rw[List.getElem?_append_right (by rw[<-h.1];omega),<-h.1]at hq;cases hk:i-cs.length with
  |zero=>rw[hk]at hc hq;injection hc with hc;injection hq with hq;subst hc hq;exact hl
  |succ k=>rw[hk]at hc;simp at hc
def RPs (ps:List (List Int))(e:Int)(B E:Nat)(res:List CV):Prop:=∃(o:OB) (cs:List OP),res=[.iv (.own o 50 1 (jH cs ps)),ci e]/\POk cs ps/\Nw B E (oid o++cs.flatMap pid)
theorem b6X (ps:List (List Int))(e:Int)(B:Nat):∃E res,B<=E/\RPs ps e B E res:=by
 refine⟨B,_,Nat.le_refl _,none,ps.map λq=>(none,List.replicate q.length none),rfl,⟨by simp,λi c q hc hq=>?_⟩,?_⟩
 .rw[List.getElem?_map,hq]at hc;injection hc with hc;rw[<-hc];simp
 .rw[List.flatMap_eq_nil_iff.2]
  .exact .nil _ _
  .intro c hc;obtain⟨q,_,rfl⟩:=List.mem_map.1 hc;simp[pid,oid,ug]
theorem Yi {B E:Nat}{l m:List Nat}(h:Nw B E (l++m)):Nw B E l:=⟨(List.nodup_append.1 h.1).1,λg hg=>h.2 g (List.mem_append_left _ hg)⟩
theorem a1B {B E:Nat}{l m:List Nat}(h:Nw B E (l++m)):Nw B E m:=⟨(List.nodup_append.1 h.1).2.1,λg hg=>h.2 g (List.mem_append_right _ hg)⟩

theorem Ou (q:List Int){i:Nat}(h:i<q.length):tz (q.take (i+1))=if cf q i≠0 then i+1 else tz (q.take i):=by
 by_cases hz:cf q i=0
 .rw[zam (by simpa using hz)];exact DN h hz
 .rw[zas hz];exact Sl h hz
theorem vU (p:List RI)(h:RP (2^40) (2^40) p):AC Tryz.prog 224 [cw p] none [cp (pv p)]:=by
 refine AC.aj (rs:=[.tmp 2]) aV Tryz.func224 (by rfl) (by rfl) (by rfl) (by rfl) (by rfl) ?_;have hl:=h.1;have hpl:=iT p;simp (disch:=omega) only[wt,seval];refine aI (λf H=>∃(i st:Nat),i<=p.length/\f 5=.iv (.int .i64 i)/\f 4=.iv (.int .i64 (tz ((pv p).take i)))/\f 0=.iv (.sl (bZ p))/\f 3=.hs 7 st/\H 7=.blk false st 30 2 (bZ (((pv p).take i).map canon))) (λf H=>(p.length-bC f 5).toNat) ?_ ?_
 .refine⟨0,1,by omega,?_⟩;simp only[wt,seval,List.take_zero,show tz []=0 from rfl]
 rintro f H ⟨i,st,hi,hF⟩;rw[aC hF.1];simp (disch:=omega) only[wt,seval,hF];refine bf (λhlt=>?_) (λhlt=>?_)
 .have hq:(((pv p).take i).map canon).length=i:=by rw[List.length_map,List.length_take];omega
  simp (disch:=omega) only[wt,seval,hF];refine .inl ⟨aP (by kernel_rfl),?_⟩;have m:=vW (p.getD i (false,[])).1 (p.getD i (false,[])).2 (h.get i).2 (h.get i).1;have ev:sg (p.getD i (false,[])).1 (nv (p.getD i (false,[])).2)=cf (pv p) i:=by rw[qI];rfl
  rw[ev]at m;have hcz:=h.pv.cf i;refine ah (m) (by rfl) (by simp) ?_;simp (disch:=omega) only[wt,seval,hF,hq];refine⟨aX (by kernel_rfl),?_⟩;have q:=MG (canon (cf (pv p) i)) ((aY _).mono (by omega));rw[aS]at q;refine ah (q) (by rfl) (by simp) ?_;simp (disch:=omega) only[wt,seval];have et:=Ou (pv p) (i:=i) (by omega);have e:(pv p).take (i+1)=(pv p).take i++[cf (pv p) i]:=by
   rw[List.take_add_one]
   congr 1
   simp[cf,List.getD,show i<(pv p).length by omega]
  refine bf (λhs=>?_) (λhs=>?_)
  .have hz:cf (pv p) i≠0:=λe=>hs (by rw[e];rfl)
   rw[if_pos hz]at et;simp (disch:=omega) only[wt,seval,hF];refine⟨⟨i+1,st+1,by omega,by omega,by rw[et];omega,?_⟩,by omega⟩;rw[e];exact⟨rfl,rfl⟩
  .have hz:¬cf (pv p) i≠0:=λe=>hs (λh=>e (Int.sign_eq_zero_iff_zero.mp h))
   rw[if_neg hz]at et;simp (disch:=omega) only[wt,seval,hF];refine⟨⟨i+1,st+1,by omega,by omega,by rw[et],?_⟩,by omega⟩;rw[e];exact⟨rfl,rfl⟩
 .simp (disch:=omega) only[wt,seval,hF];have hq:(((pv p).take i).map canon).length=p.length:=by rw[List.length_map,List.length_take];omega
  have htl:tz ((pv p).take i)<=p.length:=by have:=CS ((pv p).take i);rw[List.length_take]at this;omega
  simp (disch:=omega) only[wt,seval,hF,hq];refine⟨htl,?_⟩;rw[List.take_of_length_le (i:=i) (by omega),<-List.map_take];rfl
theorem b3M (l:List Int)(hl:l.length<=2^30)(h:∀z∈l,-9223372036854775808<z/\z<9223372036854775808):AC Tryz.prog 146 [cis l] none [cp l]:=by
 refine AC.aj (rs:=[.tmp 2]) aV Tryz.func146 (by rfl) (by rfl) (by rfl) (by rfl) (by rfl) ?_;simp only[wt,seval];refine bU 3 3 30 2 (by simp only[wt,seval]) (λf H=>∃(k st:Nat),k<=l.length/\f 0=.iv (.sl (iL l))/\f 3=.hs 3 st/\f 4=.iv (.int .i64 k)/\H 3=.blk false st 30 2 (bZ ((l.take k).map canon))) (λf H=>(l.length-bC f 4).toNat) ?_ ?_
 .refine⟨0,1,by omega,?_⟩;simp only[wt,seval,fJ,fH,zaj]
 rintro f H ⟨k,st,hk,h0,h3,h4,hH⟩;rw[aC h4];simp (disch:=omega) only[wt,seval,h0,h4];refine bf (λhlt=>?_) (λhlt=>?_)
 .have hq:((l.take k).map canon).length=k:=by rw[zae,zah];omega
  have hkl:k<l.length:=by omega
  have hg:l.getD k 0=l[k]:=by simp[List.getD,hkl]
  have hb:=h l[k] (zaY hkl);simp (disch:=omega) only[wt,seval,h0,h3,h4];rw[hg];refine ah ((MF l[k] hb.1 hb.2)) (by rfl) (by simp) ?_;simp (disch:=omega) only[wt,seval,h0,h4,hH,hq];refine⟨⟨k+1,st+1,by omega,rfl,by omega,?_⟩,by omega⟩;rw[zaS];simp[hkl]
 .simp (disch:=omega) only[wt,seval,h3];have hk:k=l.length:=by omega
  have hz:∀z:Int,-9223372036854775808<z->z<9223372036854775808->zl z<=1:=λz h1 h2=>sH.mpr (by simp only[W];omega)
  have:=vU (l.map canon) (RP.canon ⟨by omega,λz hz'=>zad (hz z (h z hz').1 (h z hz').2) (by omega)⟩);rw[fP]at this;rw[hk,zaM]at hH;refine ah (this) (by simp only[gV,qU,hH];rfl) (by simp) ?_;simp (disch:=omega) only[wt,seval,hH]
theorem ER (a b:List RI)(ha:RP (2^40) (2^43) a)(hb:RP (2^40) (2^43) b):AC Tryz.prog 78 [cw a,cw b] none [cb (decide (a=b))]:=by
 refine AC.aj (rs:=[.tmp 4]) aV Tryz.func78 (by rfl) (by rfl) (by rfl) (by rfl) (by rfl) ?_;have hla:=ha.1;have hlb:=hb.1;simp (disch:=omega) only[wt,seval];refine bf (λhz=>?_) (λhz=>?_)
 .simp (disch:=omega) only[wt,seval];exact(zaW (λe=>hz (by rw[e]))).symm
 have hl:a.length=b.length:=by omega
 simp only[wt,seval];refine aI (λf H=>∃i:Nat,i<=a.length/\a.take i=b.take i/\f 0=.iv (.sl (bZ a))/\f 1=.iv (.sl (bZ b))/\f 5=.iv (.int .i64 i)) (λf H=>(a.length-bC f 5).toNat) ?_ ?_
 .exact⟨0,by omega,rfl,by simp only[wt,seval],by simp only[wt,seval],by simp only[wt,seval]⟩
 rintro f H ⟨i,hi,he,h0,h1,h5⟩;rw[aC h5];simp (disch:=omega) only[wt,seval,h0,h5];refine bf (λhlt=>?_) (λhlt=>?_)
 .simp (disch:=omega) only[wt,seval,h0,h1,h5];refine .inl ⟨aP (by kernel_rfl),?_⟩;refine ah ((zu (a.getD i (false,[])) (b.getD i (false,[])) (ha.get i).1 (hb.get i).1)) (by rfl) (by simp) ?_;simp (disch:=omega) only[wt,seval];refine⟨aX (by kernel_rfl),?_⟩;by_cases hne:a.getD i (false,[])=b.getD i (false,[])
  .simp (disch:=omega) only[wt,seval,h0,h1,h5,hne];refine⟨⟨i+1,by omega,?_,by omega⟩,by omega⟩;have hia:i<a.length:=by omega
   have hib:i<b.length:=by omega
   rw[zaS,zaS,he,zaf hia,zaf hib];have e1:a.getD i (false,[])=a[i]:=by simp[List.getD,hia]
   have e2:b.getD i (false,[])=b[i]:=by simp[List.getD,hib]
   rw[<-e1,<-e2,hne]
  .simp (disch:=omega) only[wt,seval,hne];exact(zaW (λe=>hne (by rw[e]))).symm
 .simp (disch:=omega) only[wt,seval];rw[zac (by omega),zac (by omega)]at he;exact(zbn he).symm
theorem Vw (c:RI)(h:c.2.length<=2^40):AC Tryz.prog 126 [cr c] none [cr c]:=by
 refine AC.aj (rs:=[.cell 2 30]) aV Tryz.func126 (by rfl) (by rfl) (by rfl) (by rfl) (by rfl) ?_;simp (disch:=omega) only[wt,seval];refine .inl ⟨aP (by kernel_rfl),?_⟩;refine⟨aX (by kernel_rfl),?_⟩;rfl
theorem a4R (p:List RI)(h:RP (2^40) (2^40) p):AC Tryz.prog 175 [cw p] none [cw p]:=by
 refine AC.aj (rs:=[.tmp 2]) aV Tryz.func175 (by rfl) (by rfl) (by rfl) (by rfl) (by rfl) ?_;have hl:=h.1;simp only[wt,seval];refine bU 3 3 30 2 (by simp only[wt,seval]) (λf H=>∃(i st:Nat),i<=p.length/\f 4=.iv (.int .i64 i)/\f 0=.iv (.sl (bZ p))/\f 3=.hs 3 st/\H 3=.blk false st 30 2 (bZ (p.take i))) (λf H=>(p.length-bC f 4).toNat) ?_ ?_
 .refine⟨0,1,by omega,?_⟩;simp only[wt,seval,fJ,fH,zaj]
 rintro f H ⟨i,st,hi,hF⟩;rw[aC hF.1];simp (disch:=omega) only[wt,seval,hF];refine bf (λhlt=>?_) (λhlt=>?_)
 .have hq:(p.take i).length=i:=by rw[zah];omega
  simp (disch:=omega) only[wt,seval,hF];refine ah ((Vw (p.getD i (false,[])) (h.get i).1)) (by rfl) (by simp) ?_;simp (disch:=omega) only[wt,seval,hF,hq];have hip:i<p.length:=by omega
  refine⟨⟨i+1,st+1,by omega,by omega,rfl,?_⟩,by omega⟩;rw[zaS];simp[hip,List.getD]
 .simp (disch:=omega) only[wt,seval,hF];rw[zac (by omega)]
end Go.Proofs.YtdpngipofekcfaaGreat

namespace Go.Proofs.YtdpngipofekcfaaGreat
open Go Go.Proofs Go.AL
open Go.RowKit Go.Shelf
set_option linter.unusedSimpArgs false
set_option linter.unusedVariables false
attribute [local go_sem] Oper.semAt_some
end Go.Proofs.YtdpngipofekcfaaGreat

namespace Go.Proofs.YtdpngipofekcfaaGreat
open Go Go.Proofs Go.AL
set_option linter.unusedSimpArgs false
set_option linter.unusedVariables false




theorem a8o (p:List RI)(i:Nat)(hl:p.length<=2^40):AC Tryz.prog 317 [cw p,ci i] none [cr (p.getD i (false,[]))]:=by
 refine AC.aj (rs:=[.cell 4 30]) aV Tryz.func317 (by rfl) (by rfl) (by rfl) (by rfl) (by rfl) ?_;simp (disch:=omega) only[wt,seval];refine bf (λh=>?_) (λh=>?_)
 .simp (disch:=omega) only[wt,seval]
 .simp (disch:=omega) only[wt,seval];simp[List.getD,show p.length<=i by omega]
theorem Qz (p:List Int)(g:Nat->Int)(i:Nat):cv (p.take (i+1)) g i=cv p g i:=by
 have key:∀m,cv (p.take (i+1+m)) g i=cv (p.take (i+1)) g i:=λm=>by
  induction m with
  |zero=>rfl
  |succ m ih=>rw[show i+1+(m+1)=i+1+m+1 by omega,rH,zam (by omega),zcS,ih]
 rw[<-key p.length,zac (by omega)]
theorem a4K (a b:List RI)(ha:RP (2^30) (2^36) a)(hb:RP (2^30) (2^36) b):AC Tryz.prog 300 [cw a,cw b] none [cp (mZ (pv a) (pv b))]:=by
 refine AC.aj (rs:=[.tmp 4]) aV Tryz.func300 (by rfl) (by rfl) (by rfl) (by rfl) (by rfl) ?_;have hla:=ha.1;have hlb:=hb.1;generalize hn:max a.length b.length=n at *;have hpl:(mZ (pv a) (pv b)).length=n:=by simp[mZ,iT,hn]
 simp only[wt,seval];refine bU 5 5 30 2 (by simp only[wt,seval]) (λf H=>∃(i st:Nat),i<=n/\f 6=.iv (.int .i64 i)/\f 0=.iv (.sl (bZ a))/\f 1=.iv (.sl (bZ b))/\f 5=.hs 5 st/\H 5=.blk false st 30 2 (bZ (((mZ (pv a) (pv b)).take i).map canon))) (λf H=>(n-bC f 6).toNat) ?_ ?_
 .refine⟨0,1,by omega,?_⟩;simp only[wt,seval,fJ,fH,List.take_zero]
 rintro f H ⟨i,st,hi,hF⟩;rw[aC hF.1];simp (disch:=omega) only[wt,seval,hF];by_cases hlt:i<n
 .have h3:(i:Int)<a.length\/(¬(i:Int)<a.length/\(i:Int)<b.length):=by omega
  have hq:(((mZ (pv a) (pv b)).take i).map canon).length=i:=by rw[List.length_map,List.length_take];omega
  have z1:=ha.pv.cf i;have z2:=hb.pv.cf i;have c1:=a8o a i (by omega);have c2:=a8o b i (by omega);have m:=Tf (a.getD i (false,[])) (b.getD i (false,[])) ((ha.get i).mono (by omega)) ((hb.get i).mono (by omega));rw[<-qI,<-qI]at m;have e:(mZ (pv a) (pv b)).take (i+1)=(mZ (pv a) (pv b)).take i++[cf (pv a) i+cf (pv b) i]:=by
   rw[List.take_add_one,<-iY]
   congr 1
   simp[cf,List.getD,show i<(mZ (pv a) (pv b)).length by omega]
  rcases h3 with h|⟨h,h'⟩
  all_goals
   first|simp (disch:=omega) only[wt,seval,hF,h,h']|simp (disch:=omega) only[wt,seval,hF,h]
   refine ah (c1) (by rfl) (by simp) ?_;simp (disch:=omega) only[wt,seval,hF];refine ah (c2) (by rfl) (by simp) ?_;simp (disch:=omega) only[wt,seval];refine ah (m) (by rfl) (by simp) ?_;simp (disch:=omega) only[wt,seval,hF,hq];exact⟨⟨i+1,st+1,by omega,by omega,by rw[e];exact⟨rfl,rfl⟩⟩,by omega⟩
 .have h1:¬(i:Int)<a.length:=by omega
  have h2:¬(i:Int)<b.length:=by omega
  simp (disch:=omega) only[wt,seval,hF,h1,h2];have hb:=ha.pv.mZ hb.pv;have:=vU ((mZ (pv a) (pv b)).map canon) (RP.canon (hb.mono (by omega) (by omega)));rw[fP]at this;rw[List.take_of_length_le (by omega)]at hF;refine ah (this) (by simp only[gV,qU,hF];rfl) (by simp) ?_;simp (disch:=omega) only[wt,seval,hF]
theorem Zz (a b:List RI)(ha:RP (2^30) (2^35) a)(hb:RP (2^30) (2^35) b):AC Tryz.prog 248 [cw a,cw b] none [cp (fD (pv a) (pv b))]:=by
 refine AC.aj (rs:=[.tmp 4]) aV Tryz.func248 (by rfl) (by rfl) (by rfl) (by rfl) (by rfl) ?_;have hla:=ha.1;have hlb:=hb.1;have pla:=iT a;have plb:=iT b;obtain⟨F,hFd⟩:∃F:Nat->List Int,F=λi=>(List.range i).map λk=>cv (pv a) (cf (pv b)) k:=⟨_,rfl⟩
 have hFl:∀i,(F i).length=i:=λi=>by rw[hFd];simp
 have hF0:F 0=[]:=by rw[hFd];rfl
 have hFs:∀i,F (i+1)=F i++[cv (pv a) (cf (pv b)) i]:=λi=>by rw[hFd];simp[zec]
 simp only[wt,seval];refine bU 5 5 30 2 (by simp only[wt,seval]) (λf H=>∃(i st:Nat),i<=a.length+b.length/\f 6=.iv (.int .i64 i)/\f 0=.iv (.sl (bZ a))/\f 1=.iv (.sl (bZ b))/\f 5=.hs 5 st/\H 5=.blk false st 30 2 (bZ ((F i).map canon))) (λf H=>(a.length+b.length-bC f 6).toNat) ?_ ?_
 .refine⟨0,1,by omega,?_⟩;simp only[wt,seval,fJ,fH,hF0]
 rintro f H ⟨i,st,hi,hF⟩;rw[aC hF.1];simp (disch:=omega) only[wt,seval,hF];refine bf (λhlt=>?_) (λhlt=>?_)
 .have hq:((F i).map canon).length=i:=by rw[zae,hFl]
  simp (disch:=omega) only[wt,seval];refine aI (λf H=>∃(k st st7:Nat),k<=i+1/\f 8=.iv (.int .i64 k)/\f 6=.iv (.int .i64 i)/\f 0=.iv (.sl (bZ a))/\f 1=.iv (.sl (bZ b))/\f 5=.hs 5 st/\H 5=.blk false st 30 2 (bZ ((F i).map canon))/\f 7=.hp 7 st7 0 0/\H 7=.blk false st7 30 2 [jy (canon (cv ((pv a).take k) (cf (pv b)) i))]) (λf H=>(i+1-bC f 8).toNat) ?_ ?_
  .refine⟨0,st,(H 7).stamp+1,by omega,?_⟩;simp only[wt,seval,hF,Dw,zaj,show cv [] (cf (pv b)) i=0 from rfl]
  rintro f H ⟨k,st,st7,hk,hF⟩;rw[aC hF.1];simp (disch:=omega) only[wt,seval,hF];refine bf (λhki=>?_) (λhki=>?_)
  .have c0c:k<=i:=by omega
   have hz:=a4u (UZ ha.pv k) hb.pv (by decide) i;have hs:=rH (g:=cf (pv b)) (pv a) k i;rw[zas c0c]at hs;by_cases h1:(k:Int)<a.length
   .by_cases h2:(i:Int)-k<b.length
    .have eik:(i:Int)-k=((i-k:Nat):Int):=by omega
     have h2':((i-k:Nat):Int)<b.length:=by omega
     have c0U:i-k<b.length:=by omega
     have zak:=ha.pv.cf k;have zbk:=hb.pv.cf (i-k);have hprod:=fA (cf (pv a) k) (cf (pv b) (i-k));simp (disch:=omega) only[wt,seval,hF,h1,eik,h2'];refine .inl ⟨aP (by kernel_rfl),?_⟩;have m:=wR (a.getD k (false,[])) (b.getD (i-k) (false,[])) ((ha.get k).mono (by omega)) ((hb.get (i-k)).mono (by omega));rw[<-qI,<-qI]at m;refine ah (m) (by rfl) (by simp) ?_;simp (disch:=omega) only[wt,seval];have s:=Tf (canon (cv ((pv a).take k) (cf (pv b)) i)) (canon (cf (pv a) k*cf (pv b) (i-k))) ((aY _).mono (by omega)) ((aY _).mono (by omega));rw[aS,aS]at s;refine ah (s) (by rfl) (by simp) ?_;simp (disch:=omega) only[wt,seval,hF];refine⟨aX (by kernel_rfl),?_⟩;exact⟨⟨k+1,st,st7,by omega,by omega,by rw[hs];exact⟨rfl,rfl,rfl,rfl⟩⟩,by omega⟩
    .rw[kX (q:=pv b) (by omega),zdC,zcS]at hs;simp (disch:=omega) only[wt,seval,hF,h1,h2];exact⟨⟨k+1,st,st7,by omega,by omega,by rw[hs];exact⟨rfl,rfl,rfl,rfl⟩⟩,by omega⟩
   .rw[kX (q:=pv a) (by omega),zb8,zcS]at hs;simp (disch:=omega) only[wt,seval,hF,h1];exact⟨⟨k+1,st,st7,by omega,by omega,by rw[hs];exact⟨rfl,rfl,rfl,rfl⟩⟩,by omega⟩
  .have ek:k=i+1:=by omega
   subst ek;rw[Qz]at hF;simp (disch:=omega) only[wt,seval,hF,hq];exact⟨⟨i+1,st+1,by omega,by omega,by rw[hFs];exact⟨rfl,rfl⟩⟩,by omega⟩
 .simp (disch:=omega) only[wt,seval,hF];have hi':i=a.length+b.length:=by omega
  have e:F i=fD (pv a) (pv b):=by rw[hFd,hi',<-pla,<-plb];rfl
  rw[e]at hF;have hb:=ha.pv.fD hb.pv (by decide);have:=vU ((fD (pv a) (pv b)).map canon) (RP.canon (hb.mono (by omega) (by omega)));rw[fP]at this;refine ah (this) (by simp only[gV,qU,hF];rfl) (by simp) ?_;simp (disch:=omega) only[wt,seval,hF]

section
variable {q r:List Int} {a b:List RI}
theorem b3K (p:List RI)(c:RI)(hp:RP (2^30) (2^36) p)(hc:Sz (2^36) c):AC Tryz.prog 274 [cw p,cr c] none [cp (aU (iv c) (pv p))]:=by
 refine AC.aj (rs:=[.tmp 4]) aV Tryz.func274 (by rfl) (by rfl) (by rfl) (by rfl) (by rfl) ?_;have hl:=hp.1;have hpl:(aU (iv c) (pv p)).length=p.length:=by simp[aU,iT]
 simp (disch:=omega) only[wt,seval];refine bU 5 5 30 2 (by simp only[wt,seval]) (λf H=>∃(i st st3:Nat),i<=p.length/\f 6=.iv (.int .i64 i)/\f 0=.iv (.sl (bZ p))/\f 3=.hp 3 st3 0 0/\f 5=.hs 5 st/\H 3=.blk false st3 30 2 [jy c]/\H 5=.blk false st 30 2 (bZ (((aU (iv c) (pv p)).take i).map canon))) (λf H=>(p.length-bC f 6).toNat) ?_ ?_
 .refine⟨0,1,1,by omega,?_⟩;simp only[wt,seval,fJ,fH,List.take_zero]
 rintro f H ⟨i,st,st3,hi,hF⟩;rw[aC hF.1];simp (disch:=omega) only[wt,seval,hF];refine bf (λhlt=>?_) (λhlt=>?_)
 .have hq:(((aU (iv c) (pv p)).take i).map canon).length=i:=by rw[List.length_map,List.length_take];omega
  simp (disch:=omega) only[wt,seval,hF];refine .inl ⟨aP (by kernel_rfl),?_⟩;have m:=wR (p.getD i (false,[])) c ((hp.get i).mono (by omega)) (hc.mono (by omega));rw[<-qI,<-dD]at m;refine ah (m) (by rfl) (by simp) ?_;simp (disch:=omega) only[wt,seval,hF,hq];refine⟨aX (by kernel_rfl),?_⟩;have e:(aU (iv c) (pv p)).take (i+1)=(aU (iv c) (pv p)).take i++[cf (aU (iv c) (pv p)) i]:=by
   rw[List.take_add_one]
   congr 1
   simp[cf,List.getD,show i<(aU (iv c) (pv p)).length by omega]
  exact⟨⟨i+1,st+1,st3,by omega,by omega,by rw[e];exact⟨rfl,rfl,rfl,rfl⟩⟩,by omega⟩
 .simp (disch:=omega) only[wt,seval,hF];have hz:=oO hc;have hb:=hp.pv.aU (c:=iv c);have:=vU ((aU (iv c) (pv p)).map canon) (RP.canon (hb.mono (by omega) (by omega)));rw[fP]at this;rw[List.take_of_length_le (by omega)]at hF;refine ah (this) (by simp only[gV,qU,hF];rfl) (by simp) ?_;simp (disch:=omega) only[wt,seval,hF]
theorem a4S {p:List RI}{c:Int}(hp:RP (2^30) (2^36) p)(hc:zl c<=2^36)(e:ps (pv p)=ps q):AC Tryz.prog 274 [cw p,cz c] none [cp (aU c q)]:=by
 have h:=b3K p (canon c) hp ((aY _).mono hc);rw[aS]at h;rwa [zL (show ps (aU c (pv p))=ps (aU c q) by rw[bG,bG,e])]at h
theorem a9S (ha:RP (2^30) (2^36) a)(hb:RP (2^30) (2^36) b)(eq:ps (pv a)=ps q)(er:ps (pv b)=ps r):AC Tryz.prog 300 [cw a,cw b] none [cp (mZ q r)]:=by
 have h:=a4K a b ha hb;rwa [zL (show ps (mZ (pv a) (pv b))=ps (mZ q r) by rw[lZ,lZ,eq,er])]at h
theorem a4G (ha:RP (2^30) (2^35) a)(hb:RP (2^30) (2^35) b)(eq:ps (pv a)=ps q)(er:ps (pv b)=ps r):AC Tryz.prog 248 [cw a,cw b] none [cp (fD q r)]:=by
 have h:=Zz a b ha hb;rwa [zL (show ps (fD (pv a) (pv b))=ps (fD q r) by rw[dP,dP,eq,er])]at h
end
section
variable {q A B:List Int} {b:Nat}
theorem SI (p:List RI)(h:RP (2^40) (2^38) p):AC Tryz.prog 297 [cw p] none [cl (wd (gz (pv p)))]:=by
 have hl:=h.1;refine AC.aj (rs:=[.tmp 2]) aV Tryz.func297 (by rfl) (by rfl) (by rfl) (by rfl) (by rfl) ?_;simp (disch:=omega) only[wt,seval];refine rZ (.iv 3 5 1 false 148 1 [] (by simp only[wt,seval]) (by simp only[wt,seval]) (.refl _ _)) (λf H=>∃(i:Nat),i<=p.length/\(wd (gz ((pv p).take i))).length<=2^38/\f 4=.iv (.int .i64 i)/\f 0=.iv (.sl (bZ p))/\f 3=.iv (.sl (dh (wd (gz ((pv p).take i)))))) (λf H=>(p.length-bC f 4).toNat) ?_ ?_
 .refine⟨0,by omega,by rw[zaj,gz,zeV,ni];exact za4 _,?_⟩;simp only[wt,seval,zaj,gz,zeV,ni]
 rintro f H ⟨i,hi,hs,hF⟩;rw[aC hF.1];simp (disch:=omega) only[wt,seval,hF];refine bf (λhlt=>?_) (λhlt=>?_)
 .have hc:=h.get i;have m:=Td (wd (gz ((pv p).take i))) (p.getD i (false,[])).2 (bg _) hc.2 hs hc.1;rw[bJ,<-Ii,<-qI,<-zH (by rw[iT];omega)]at m;simp (disch:=omega) only[wt,seval,hF];refine ah (m) (by rfl) (by simp) ?_;simp (disch:=omega) only[wt,seval,hF];refine⟨⟨i+1,by omega,?_,by omega,rfl⟩,by omega⟩;rw[zH (by rw[iT];omega)];rcases za8 (cf (pv p) i).natAbs with h0|h0
  .rw[h0,zdE];exact hs
  .refine zad (bF (zdx _ h0)) ?_;rw[qI,Ii];exact zad (iP hc.2) hc.1
 .simp (disch:=omega) only[wt,seval,hF];rw[zac (by rw[iT];omega)]
theorem XH (q:List Int){i:Nat}(h:i<q.length):q.take (i+1)=q.take i++[cf q i]:=by
 rw[List.take_add_one];congr 1;simp[cf,List.getD,h]
def DX (q:List Int):List Int:=qA (gz q:Int) q
theorem b1E (h:tz q≠0):gz q≠0:=λh0=>h (Nr.mp (zd9.mp (by rw[jL];exact h0)))
theorem a3s (q:List Int)(k:Nat):cf q k=(gz q:Int)*cf (DX q) k:=by
 unfold DX;rw[fU,zfb (yO q k)]
theorem Ov (p:List RI)(h:RP (2^30) (2^35) p):AC Tryz.prog 273 [cw p] none [cp (DX (pv p))]:=by
 have n:=vU p (h.mono (by omega) (by omega));have hPb:=h.pv;generalize pv p=P at *;have hTb:PB (2^30) (2^35) (aO P):=hPb.aO;have rT:RP (2^30) (2^35) (cn P):=a5l hPb;have c:=SI (cn P) (rT.mono (by omega) (by omega));have eg:gz (pv (cn P))=gz P:=a2C (QG P);have hgl:=a2B rT;rw[eg]at c hgl;have ri:=vW false (wd (gz P)) (bg _) (by omega);rw[bJ,show sg false (gz P)=(gz P:Int) from rfl]at ri;have hTl:(aO P).length=tz P:=dw P;have c0J:=hTb.1;have hql:(qA (gz P:Int) (aO P)).length=tz P:=by unfold qA;rw[zae,hTl]
 have hzq:∀k,zl (cf (qA (gz P:Int) (aO P)) k)<=2^35:=λk=>by
  rw[fU,bM];exact zad (yH (yO P k)) (hPb.cf k)
 have n2:=vU ((qA (gz P:Int) (aO P)).map canon) ((RP.canon (.of (n:=2^30) (by omega) hzq)).mono (by omega) (by omega));rw[fP,show cp (qA (gz P:Int) (aO P))=cp (DX P) from uh λk=>by unfold DX;rw[fU,fU,bM]]at n2;refine AC.aj (rs:=[.tmp 2]) aV Tryz.func273 (by rfl) (by rfl) (by rfl) (by rfl) (by rfl) ?_;simp only[wt,seval];refine ah (n) (by rfl) (by simp) ?_;simp only[wt,seval];refine ah (c) (by rfl) (by simp) ?_;simp only[wt,seval];refine bU 4 4 30 2 (by simp only[wt,seval]) (λf H=>∃(i st:Nat),i<=tz P/\f 5=.iv (.int .i64 i)/\f 0=.iv (.sl (iQ P))/\f 3=.iv (.sl (dh (wd (gz P))))/\f 4=.hs 4 st/\H 4=.blk false st 30 2 (bZ (((qA (gz P:Int) (aO P)).take i).map canon))) (λf H=>(tz P-bC f 5).toNat) ?_ ?_
 .refine⟨0,1,by omega,?_⟩;simp only[wt,seval,fJ,fH,zaj]
 rintro f H ⟨i,st,hi,hF⟩;rw[aC hF.1];simp (disch:=omega) only[wt,seval,aW,hF];by_cases hlt:i<tz P
 .have hlt':(i:Int)<(tz P:Int):=by omega
  have hq:(((qA (gz P:Int) (aO P)).take i).map canon).length=i:=by rw[zae,zah];omega
  have e:=XH (qA (gz P:Int) (aO P)) (i:=i) (by omega);rw[fU,bM]at e;have hat:=yw (q:=P) (i:=i) hlt;have hg0:((gz P:Nat):Int)≠0:=by have:=b1E (q:=P) (by omega);omega
  have x:=a0H (canon (cf P i)) (canon ((gz P:Nat):Int)) ((aY _).mono (zad (hPb.cf i) (by omega))) ((aY _).mono (by unfold zl;rw[zbi];omega)) (by rw[aS];exact hg0) (by rw[aS,aS];exact yO P i);rw[aS,aS]at x;simp (disch:=omega) only[wt,seval,aW,hF,hlt',hat];refine .inl ⟨aP (by kernel_rfl),?_⟩;refine ah (ri) (by rfl) (by simp) ?_;simp (disch:=omega) only[wt,seval];refine ah (x) (by rfl) (by simp) ?_;simp (disch:=omega) only[wt,seval,hF,hq];refine⟨aX (by kernel_rfl),?_⟩;refine⟨⟨i+1,st+1,by omega,?_⟩,by omega⟩;rw[e,zav]
  (repeat' apply zaa)<;>first|rfl|omega
 .have hlt':¬(i:Int)<(tz P:Int):=by omega
  rw[zac (by omega)]at hF;simp (disch:=omega) only[wt,seval,hF,hlt'];refine ah (n2) (by simp only[gV,qU,hF];rfl) (by simp) ?_;simp (disch:=omega) only[wt,seval,hF]
  try rfl
theorem VP (h:¬lc q<0):xY q=DX q:=by
 unfold xY DX cont;rw[zaW h];rfl
theorem a5Y (h:lc q<0)(k:Nat):cf (xY q) k=cf (aU (-1) (DX q)) k:=by
 unfold xY DX cont;rw[dD,fU,fU,zbn h,show sg true (gz q) = -(gz q:Int) from rfl,Int.ediv_neg];omega
theorem XC (p:List RI)(h:RP (2^30) (2^35) p):AC Tryz.prog 239 [cw p] none [cp (npr (pv p))]:=by
 have n:=Ov p h;have hPb:=h.pv;generalize pv p=P at *;have htq:tz (DX P)=tz P:=by
  by_cases h0:tz P=0
  .rw[h0];refine bn.mpr λk=>?_;unfold DX;rw[fU,bn.mp h0 k,Int.zero_ediv]
  .have hg:=b1E h0;rw[<-sS (c:=(gz P:Int)) (by omega) (DX P)];exact nC λk=>by rw[dD,zcR,<-a3s]
 have hzq:∀k,zl (cf (DX P) k)<=2^35:=λk=>by
  unfold DX;rw[fU];exact zad (yH (yO P k)) (hPb.cf k)
 have htl:tz P<=2^30:=zad (CS P) hPb.1;by_cases h0:tz P=0
 .rw[<-a3l,VP (q:=P) (by unfold lc;rw[bn.mp h0];omega)];rw[h0]at htq;refine AC.aj (rs:=[.tmp 2]) aV Tryz.func239 (by rfl) (by rfl) (by rfl) (by rfl) (by rfl) ?_;simp only[wt,seval];refine ah (n) (by rfl) (by simp) ?_;simp (disch:=omega) only[wt,seval,aW,htq]
  try rfl
 have hg:=b1E h0;have e1:lc P=(gz P:Int)*lc (DX P):=by
  unfold lc;rw[htq,<-a3s]
 have hat:=yw (q:=DX P) (i:=tz P-1) (by omega);have hcz:cf (DX P) (tz P-1)=lc (DX P):=by unfold lc;rw[htq]
 rw[hcz]at hat;have s:=MG (canon (lc (DX P))) ((aY _).mono (zad (hzq _) (by omega)));rw[aS]at s;have e2:((tz P:Nat):Int)-1=((tz P-1:Nat):Int):=by omega
 have hp0:(0:Int)<((tz P:Nat):Int):=by omega
 have z1:=MF (-1) (by omega) (by omega);by_cases hs:lc P<0
 .have hs2:(lc (DX P)).sign = -1:=by
   refine zbZ ?_;rcases (show lc (DX P)<0\/0<=lc (DX P) by omega) with h1|h1
   .exact h1
   .have:=Int.mul_nonneg (show (0:Int)<=(gz P:Int) by omega) h1;omega
  rw[hs2]at s;have b:=a4S (p:=cn (DX P)) (c:=-1) (q:=DX P) ((lQ (D:=2^30) (k:=2^35) (by omega) hzq).mono (by omega) (by omega)) (zad (sH.mpr (by decide:(-1:Int).natAbs<W^1)) (by omega)) (fF _);rw[<-a3l,show cp (xY P)=cp (aU (-1) (DX P)) from uh (a5Y hs)];refine AC.aj (rs:=[.tmp 2]) aV Tryz.func239 (by rfl) (by rfl) (by rfl) (by rfl) (by rfl) ?_;simp only[wt,seval];refine ah (n) (by rfl) (by simp) ?_;simp (disch:=omega) only[wt,seval,aW,htq,hp0,e2,hat];refine ah (s) (by rfl) (by simp) ?_;simp (disch:=omega) only[wt,seval];refine ah (z1) (by rfl) (by simp) ?_;simp only[wt,seval];refine ah (b) (by rfl) (by simp) ?_;simp (disch:=omega) only[wt,seval]
  try rfl
 .have hs2:¬(lc (DX P)).sign<0:=by
   rw[sign_neg];intro h1;exact hs (by rw[e1];exact zen (by omega) h1)
  rw[<-a3l,VP hs];refine AC.aj (rs:=[.tmp 2]) aV Tryz.func239 (by rfl) (by rfl) (by rfl) (by rfl) (by rfl) ?_;simp only[wt,seval];refine ah (n) (by rfl) (by simp) ?_;simp (disch:=omega) only[wt,seval,aW,htq,hp0,e2,hat];refine ah (s) (by rfl) (by simp) ?_;simp (disch:=omega) only[wt,seval,hs2]
  try rfl
theorem sU {p:List RI}(h:RP (2^30) (2^35) p)(e:ps (pv p)=ps A):AC Tryz.prog 239 [cw p] none [cp (npr A)]:=by
 have:=XC p h;rwa [a8R e]at this
theorem a4N {a b:List RI}(ha:RP (2^30) (2^36) a)(hb:RP (2^30) (2^35) b)(ea:ps (pv a)=ps A)(eb:ps (pv b)=ps B):AC Tryz.prog 279 [cw a,cw b] none [cp (mZ A (aU (-1) B))]:=by
 have z1:=MF (-1) (by omega) (by omega);have hz1:zl (-1)<=1:=sH.mpr (by decide);have b1:=a4S (p:=b) (c:=-1) (q:=B) (hb.mono (by omega) (by omega)) (by omega) eb;have hbb:PB (2^30) (2^35+1) (aU (-1) (pv b)):=hb.pv.aU.mono (zab _) (by omega);have rb:RP (2^30) (2^36) (cn (aU (-1) B)):=by
  have h1:=(a5l hbb).mono (zab (2^30)) (show 2^35+1<=2^36 by omega);have h2:cn (aU (-1) (pv b))=cn (aU (-1) B):=by
   unfold cn;rw[ji (p:=aU (-1) (pv b)) (q:=aU (-1) B) λk=>by rw[dD,dD,oW eb]]
  rwa [h2]at h1
 have p1:=a9S ha rb ea (fF _);refine AC.aj (rs:=[.tmp 4]) aV Tryz.func279 (by rfl) (by rfl) (by rfl) (by rfl) (by rfl) ?_;simp only[wt,seval];refine ah (z1) (by rfl) (by simp) ?_;simp only[wt,seval];refine ah (b1) (by rfl) (by simp) ?_;simp only[wt,seval];refine ah (p1) (by rfl) (by simp) ?_;simp (disch:=omega) only[wt,seval]
 try rfl
def rst (A B:List Int):List Int:=aO (mZ (aU ((lc B).natAbs:Int) A) (aU (-1) (fD (mono (tz A-tz B) ((lc B).sign*lc A)) B)))
def rrs (B:List Int):Nat->List Int->List Int
 |0,A=>A
 |n+1,A=>if tz B<=tz A then rrs B n (rst A B) else A
theorem a9k (A B:List Int)(k:Nat):cf (rst A B) k=cf A k*((lc B).natAbs:Int)-(if tz A-tz B<=k then (lc B).sign*lc A*cf B (k-(tz A-tz B)) else 0):=by
 rw[rst,bM,iY,dD,dD,nS];split<;>omega
theorem a8t {A B:List Int}(hB:tz B≠0)(h:tz B<=tz A):tz (rst A B)<tz A:=by
 refine Nat.lt_of_le_of_lt (m:=tz A-1) (qP λk hk=>?_) (by omega);rw[a9k,if_pos (by omega)];rcases Nat.lt_or_ge k (tz A) with h1|h1
 .have e1:k-(tz A-tz B)=tz B-1:=by omega
  have e2:cf A k=lc A:=by unfold lc;congr 1;omega
  have e3:cf B (tz B-1)=lc B:=rfl;rw[e1,e2,e3,<-Int.mul_sign_self];have:(lc B).sign*lc A*lc B=lc A*(lc B*(lc B).sign):=by ac_rfl
  rw[this];omega
 .rw[dW A h1,dW B (by omega)];omega
theorem b3S (A B:List Int):ps (mono (tz A-tz B) ((lc B).sign*lc A))*ps B+ps (rst A B)=PS.C ((lc B).natAbs:Int)*ps A:=by
 rw[rst,AP,lZ,bG,bG,dP,PS.x9];generalize ps (mono (tz A-tz B) ((lc B).sign*lc A))*ps B=x;generalize PS.C ((lc B).natAbs:Int)*ps A=y;refine PS.ext λk=>?_;simp only[PS.vH,PS.Ux];omega
theorem a8u {a:Nat}(hA:SBd a A)(hB:SBd b B):SBd (a+(b+1)) (rst A B):=λk=>by
 rw[a9k];have h1:=fA (cf A k) ((lc B).natAbs:Int);have h2:zl ((lc B).natAbs:Int)<=b:=by
  have:zl ((lc B).natAbs:Int)=zl (lc B):=by unfold zl;rw[zbi]
  rw[this];exact hB _
 have h3:=hA k;have h4:zl (if tz A-tz B<=k then (lc B).sign*lc A*cf B (k-(tz A-tz B)) else 0)<=a+b:=by
  split
  .have h5:=fA ((lc B).sign*lc A) (cf B (k-(tz A-tz B)));have h6:zl ((lc B).sign*lc A)<=zl (lc A):=by
    refine sH.mpr (za3 ?_ (sH.mp (zab _)));rw[zcc];have:(lc B).sign.natAbs<=1:=by
     rcases zeR (lc B) 0 with h|h|h
     .rw[zbZ h];decide
     .rw[h];decide
     .rw[zcH h];decide
    have:=zag (lc A).natAbs this;omega
   have h7:zl (lc A)<=a:=hA _;have h8:=hB (k-(tz A-tz B));omega
  .rw[iC];omega
 have h9:=qg (cf A k*((lc B).natAbs:Int)) (-(if tz A-tz B<=k then (lc B).sign*lc A*cf B (k-(tz A-tz B)) else 0));rw[sD,<-zeG]at h9;omega
theorem a8v (hB:tz B≠0):∀(n:Nat) (A:List Int),tz A<tz B+n->tz (rrs B n A)<tz B
 |0,A,h=>by simpa [rrs] using h
 |n+1,A,h=>by
  rw[rrs];split
  .rename_i h1;have:=a8t hB h1;exact a8v hB n _ (by omega)
  .omega
theorem a8x (hB:tz B≠0):∀(n:Nat) (A:List Int),∃(c:Int) (Q:List Int),c≠0/\ps Q*ps B+ps (rrs B n A)=PS.C c*ps A
 |0,A=>⟨1,[],by decide,by rw[Ko,PS.zero_mul,PS.zero_add,PS.Ce,PS.one_mul];rfl⟩
 |n+1,A=>by
  rw[rrs];split
  .obtain⟨c,Q,hc,e⟩:=a8x hB n (rst A B);have e2:=b3S A B;have hl:=WE hB;refine⟨c*((lc B).natAbs:Int),mZ Q (aU c (mono (tz A-tz B) ((lc B).sign*lc A))),zb3 hc (by omega),?_⟩;rw[PS.qO,PS.mul_assoc,<-e2,lZ,bG,PS.add_mul,PS.mul_add,<-e,PS.mul_assoc];generalize ps Q*ps B=x;generalize PS.C c*(ps (mono (tz A-tz B) ((lc B).sign*lc A))*ps B)=y
   ac_rfl
  .exact⟨1,[],by decide,by rw[Ko,PS.zero_mul,PS.zero_add,PS.Ce,PS.one_mul]⟩
theorem a8w (hB:SBd b B):∀(n a:Nat) (A:List Int),SBd a A->SBd (a+n*(b+1)) (rrs B n A)
 |0,a,A,h=>by rw[zcP,zaV];exact h
 |n+1,a,A,h=>by
  rw[rrs];split
  .have:=a8w hB n _ _ (a8u h hB);exact this.mono (by rw[zbS];omega)
  .exact h.mono (by omega)
def rre (A B:List Int):List Int:=rrs B (dxp A B) A
theorem EI.step' {D S:Nat}{X Y R:List Int}(h:EI D S X Y)(h0:tz Y≠0)(ht:tz R<tz Y)(hs:∀a b,SBd a X->SBd b Y->SBd (a+dxp X Y*(b+1)) R):EI D S Y (npr R):=by
 have hx:=h.x;have hy:=h.y;refine⟨h.y,by rw[oh];omega,.inr ⟨by rw[oh];omega,?_⟩⟩;have norm:tz Y<tz X->SBd (EZ S (D-tz X)) X->SBd (EZ S (D-tz X+1)) Y->SBd (EZ S (D-tz Y)) Y/\SBd (EZ S (D-tz Y+1)) (npr R):=λl a b=>by
  refine⟨b.mono (EZ.mono S (by omega)),DU ((hs _ _ a b).mono ?_)⟩;have g:=EZ.grow S (D-tz X) (tz X-tz Y-1);rw[show tz X-tz Y-1+2=dxp X Y by unfold dxp;omega,show D-tz X+2+(tz X-tz Y-1)=D-tz Y+1 by omega]at g;exact g
 rcases h.s with ⟨a,b⟩|⟨l,a,b⟩
 .by_cases l:tz Y<tz X
  .exact norm l (a.mono (EZ.mono S (i:=0) (by omega))) (b.mono (EZ.mono S (i:=0) (by omega)))
  .refine⟨b.mono (EZ.mono S (i:=0) (by omega)),DU ((hs _ _ a b).mono ?_)⟩;have g:EZ S 1<=EZ S (D-tz Y+1):=EZ.mono S (by omega);have e1:EZ S 1=2*S+1:=rfl;have hd:dxp X Y<=1:=by unfold dxp;omega
   have:=zag (S+1) hd;omega
 .exact norm l a b
end
theorem Q8 (z:Int):(canon z).2=wd z.natAbs:=rfl
theorem b3W (n:Nat)(q:List Int):bZ (List.replicate n (false,[]))++iQ q=bZ ((List.replicate n 0++aO q).map canon):=by
 rw[zav,<-wM];simp[bZ,iQ]
theorem Xh (q:List Int):(∀r∈iQ q,r.length=2)↔True:=by simp[iQ,bZ,jy]
set_option maxRecDepth 100000 in
set_option maxHeartbeats 1000000 in
theorem a4J (p q:List RI)(a b:Nat)(hp:RP 40 a p)(hq:RP 40 b q)(h0:tz (pv q)≠0)(ha:a<=2^27)(hb:b<=2^27):AC Tryz.prog 247 [cw p,cw q] none [cp (rre (aO (pv p)) (aO (pv q)))]:=by
 have n1:=vU p (hp.mono (by omega) (by omega));have n2:=vU q (hq.mono (by omega) (by omega));have sP:=mX hp;have sQ:=mX hq;have tP:=yF hp;have tQ:=yF hq;generalize pv p=P at *;generalize pv q=Q at *;rw[show cp P=cp (aO P) from uh λk=>(bM P k).symm]at n1;rw[show cp Q=cp (aO Q) from uh λk=>(bM Q k).symm]at n2;have c0l:SBd a (aO P):=λi=>by rw[bM];exact sP i
 have hBs:SBd b (aO Q):=λi=>by rw[bM];exact sQ i
 have tA0:tz (aO P)<=40:=by rw[A8];exact tP
 have tB:tz (aO Q)<=40:=by rw[A8];exact tQ
 have hB0:tz (aO Q)≠0:=by rw[A8];exact h0
 have b8P:=iM P;have trB:=iM Q;generalize aO P=A0 at *;generalize hBe:aO Q=B at *;have hL0:=WE hB0;have b8l:=yw (q:=B) (i:=tz B-1) (by omega);rw[show cf B (tz B-1)=lc B from rfl]at b8l;have e2:((tz B:Nat):Int)-1=((tz B-1:Nat):Int):=by omega
 have hLz:zl (lc B)<=2^27:=zad (hBs _) hb;have ri:=vW false (canon (lc B)).2 (bg _) (by have:(wd (lc B).natAbs).length<=2^27:=hLz;rw[Q8];omega);rw[Q8,bJ,show sg false (lc B).natAbs=((lc B).natAbs:Int) from rfl]at ri;have hdx:dxp A0 B<=41:=by unfold dxp;omega
 have hK:a+dxp A0 B*(b+1)<=2^34:=by
  have:=zag (b+1) hdx;omega
 have c0I:zl ((lc B).natAbs:Int)<=2^27:=by unfold zl;rw[zbi];exact hLz
 refine AC.aj (rs:=[.tmp 4]) aV Tryz.func247 (by rfl) (by rfl) (by rfl) (by rfl) (by rfl) ?_;simp only[wt,seval];refine ah (n1) (by rfl) (by simp) ?_;simp only[wt,seval];refine ah (n2) (by rfl) (by simp) ?_;simp (disch:=omega) only[wt,seval,aW,e2,b8l];refine ah (ri) (by rfl) (by simp) ?_;simp (disch:=omega) only[wt,seval];refine aI (λf H=>∃(n s5 s6:Nat) (A:List Int),rrs B n A=rre A0 B/\tz A<tz B+n/\SBd (a+(dxp A0 B-n)*(b+1)) A/\aO A=A/\(n<=dxp A0 B/\tz A<=40)/\f 0=.iv (.sl (iQ A))/\f 1=.iv (.sl (iQ B))/\f 5=.hp 5 s5 0 0/\f 6=.hp 6 s6 0 0/\H 5=.blk false s5 30 2 [jy (canon (lc B))]/\H 6=.blk false s6 30 2 [jy (canon ((lc B).natAbs:Int))]) (λf H=>match f 0 with | .iv (.sl l)=>l.length|_=>0) ?_ ?_
 .refine⟨dxp A0 B,1,1,A0,rfl,by unfold dxp;omega,by rw[zdS,zcP,zaV];exact c0l,b8P,⟨zab _,tA0⟩,?_⟩;simp only[wt,seval]
  try rfl
 rintro f H ⟨n,s5,s6,A,hR,ht,hAs,trA,⟨hn,tA⟩,hF⟩;have hmu:(match f 0 with | .iv (.sl l)=>l.length|_=>0)=tz A:=by rw[hF.1];simp only[];rw[aW]
 rw[hmu];by_cases hge:tz B<=tz A
 .obtain⟨m,rfl⟩:∃m,n=m+1:=⟨n-1,by omega⟩;have hge':(tz B:Int)<=(tz A:Int):=by omega
  rw[rrs,zas hge]at hR;have hst:=a8t hB0 hge;have hsb:=a8u hAs hBs;have hKm:a+(dxp A0 B-(m+1))*(b+1)<=2^34:=by
   have:=zag (b+1) (show dxp A0 B-(m+1)<=dxp A0 B by omega);omega
  have ebd:a+(dxp A0 B-(m+1))*(b+1)+(b+1)=a+(dxp A0 B-m)*(b+1):=by
   rw[show dxp A0 B-m=(dxp A0 B-(m+1))+1 by omega,zbS];omega
  rw[ebd]at hsb;have hat:=yw (q:=A) (i:=tz A-1) (by omega);rw[show cf A (tz A-1)=lc A from rfl]at hat;have e1:((tz A:Nat):Int)-1=((tz A-1:Nat):Int):=by omega
  have e3:((tz A:Nat):Int)-((tz B:Nat):Int)=((tz A-tz B:Nat):Int):=by omega
  have rA:=lQ tA hAs;have rB:=lQ tB hBs;have hlA:zl (lc A)<=2^34:=zad (hAs _) hKm;have by2:=a4S (p:=cn A) (c:=((lc B).natAbs:Int)) (q:=A) (rA.mono (by omega) (by omega)) (by omega) (fF _);have s1:SBd (2^36) (aU ((lc B).natAbs:Int) A):=λi=>by
   rw[dD];have h1:=fA (cf A i) ((lc B).natAbs:Int);have h2:=hAs i;omega
  have ng:=b0l (canon (lc A)) ((aY _).mono (by omega));rw[aS]at ng;have hrep:=b3W (tz A-tz B);have fin:∀c:Int,c=(lc B).sign*lc A->zl c<=2^34/\AC Tryz.prog 274 [cw (cn B),cz c] none [cp (aU c B)]/\AC Tryz.prog 279 [cp (aU ((lc B).natAbs:Int) A),cw ((List.replicate (tz A-tz B) 0++aO (aU c B)).map canon)] none [cp (rst A B)]:=λc hc=>by
   have hcz:zl c<=2^34:=by
    rcases zeR (lc B) 0 with h|h|h
    .rw[hc,zbZ h,Int.neg_mul,zfR,sD];exact hlA
    .exact absurd h hL0
    .rw[hc,zcH h,zfR];exact hlA
   refine⟨hcz,a4S (p:=cn B) (c:=c) (q:=B) (rB.mono (by omega) (by omega)) (by omega) (fF _),?_⟩;have epv:ps (pv ((List.replicate (tz A-tz B) 0++aO (aU c B)).map canon))=ps (fD (mono (tz A-tz B) c) B):=PS.ext λk=>by
    rw[fP,F6,F6,nS];by_cases hk:tz A-tz B<=k
    .rw[zas hk];have:cf (List.replicate (tz A-tz B) 0++aO (aU c B)) k=cf (aO (aU c B)) (k-(tz A-tz B)):=by
      simp[cf,List.getD,za2,hk]
     rw[this,bM,dD,zcR]
    .rw[zam hk];have:cf (List.replicate (tz A-tz B) 0++aO (aU c B)) k=cf (List.replicate (tz A-tz B) 0) k:=by
      simp[cf,List.getD,zbB,show k<tz A-tz B by omega]
     rw[this,QD]
   have rr:RP (2^30) (2^35) ((List.replicate (tz A-tz B) 0++aO (aU c B)).map canon):=RP.canon ⟨by
    have h1:=jf c B;rw[zaB,zcs,dw];omega,λz hz=>by
    rcases zap.1 hz with hz|hz
    .rw[zca hz,iC];omega
    .obtain⟨i,hi,rfl⟩:=zbE hz;have h1:(aO (aU c B))[i]=cf (aU c B) i:=by rw[<-bM (aU c B) i];simp[cf,List.getD,hi]
     rw[h1,dD];have h2:=fA (cf B i) c;have h3:=hBs i;omega⟩
   have ls:=a4N (a:=cn (aU ((lc B).natAbs:Int) A)) (A:=aU ((lc B).natAbs:Int) A) (B:=fD (mono (tz A-tz B) c) B) ((lQ (D:=40) (zad (jf _ A) tA) s1).mono (by omega) (by omega)) rr (fF _) epv;rw[hc]at ls ⊢;rwa [show cp (mZ (aU ((lc B).natAbs:Int) A) (aU (-1) (fD (mono (tz A-tz B) ((lc B).sign*lc A)) B)))=cp (rst A B) from uh λk=>(bM _ k).symm]at ls
  by_cases hneg:lc B<0
  .obtain⟨zc,by1,ls⟩:=fin (-(lc A)) (by rw[zbZ hneg];omega);simp (disch:=omega) only[wt,seval,aW,hF,hge',e1,hat,hneg];refine ah (ng) (by rfl) (by simp) ?_;simp (disch:=omega) only[wt,seval,aW,hF,e3];refine .inl ⟨aP (by kernel_rfl),?_⟩;have htz:=zad (jf (-(lc A)) B) tB;refine ah (by1) (by rfl) (by simp) ?_;simp (disch:=omega) only[wt,seval,aW,Xh,hF,hrep];refine⟨aX (by kernel_rfl),?_⟩;refine ah (by2) (by rfl) (by simp) ?_;simp (disch:=omega) only[wt,seval];refine ah (ls) (by rfl) (by simp) ?_;simp (disch:=omega) only[wt,seval,aW,hF];refine⟨⟨m,s5,s6,rst A B,hR,by omega,hsb,iM _,⟨by omega,by omega⟩,?_⟩,hst⟩
   try (repeat' apply zaa)<;>first|rfl|omega
  .obtain⟨zc,by1,ls⟩:=fin (lc A) (by rw[zcH (by omega)];omega);simp (disch:=omega) only[wt,seval,aW,hF,hge',e1,hat,e3,hneg];refine .inl ⟨aP (by kernel_rfl),?_⟩;have htz:=zad (jf (lc A) B) tB;refine ah (by1) (by rfl) (by simp) ?_;simp (disch:=omega) only[wt,seval,aW,Xh,hF,hrep];refine⟨aX (by kernel_rfl),?_⟩;refine ah (by2) (by rfl) (by simp) ?_;simp (disch:=omega) only[wt,seval];refine ah (ls) (by rfl) (by simp) ?_;simp (disch:=omega) only[wt,seval,aW,hF];refine⟨⟨m,s5,s6,rst A B,hR,by omega,hsb,iM _,⟨by omega,by omega⟩,?_⟩,hst⟩
   try (repeat' apply zaa)<;>first|rfl|omega
 .have hge':¬(tz B:Int)<=(tz A:Int):=by omega
  have e:rrs B n A=A:=by
   cases n with
   |zero=>rfl
   |succ n=>rw[rrs,zam hge]
  rw[<-hR,e];simp (disch:=omega) only[wt,seval,aW,hF,hge']
  try rfl
theorem a0i {X Y:List Int}(h0:tz Y≠0):tz (rre X Y)<tz Y/\(∃(c:Int) (Q:List Int),c≠0/\ps Q*ps Y+ps (rre X Y)=PS.C c*ps X)/\∀a b,SBd a X->SBd b Y->SBd (a+dxp X Y*(b+1)) (rre X Y) :=
 ⟨a8v h0 _ _ (by unfold dxp;omega),a8x h0 _ _,λa b ha hb=>a8w hb _ _ _ ha⟩
set_option maxRecDepth 100000 in
theorem ZK (p q:List RI)(D S:Nat)(hp:RP 40 S p)(hq:RP 40 S q)(tp:tz (pv p)<=D)(tq:tz (pv q)<=D)(hD:D<=40)(hE:EZ S D<=2^27) :
  AC Tryz.prog 170 [cw p,cw q] none [cp (eU (pv p) (pv q))]:=by
 have hS:S<=2^27:=zad (EZ.mono S (i:=0) (by omega)) hE;have pp:=sU (p:=p) (A:=pv p) (hp.mono (by omega) (by omega)) rfl;have pq:=sU (p:=q) (A:=pv q) (hq.mono (by omega) (by omega)) rfl;have ei0:EI D S (npr (pv p)) (npr (pv q)):=EI.start tp tq (mX hp) (mX hq);have gg0:∀G,GG G (npr (pv p)) (npr (pv q))->GG G (pv p) (pv q):=λG h=>h.as (.refl _) (kD _).symm (kD _).symm
 have t0:=eH (pv p);have t0':=eH (pv q);have f0:=lG (pv p);have f0':=lG (pv q);generalize hA:pv p=A at *;generalize hB:pv q=B at *;generalize npr A=X0 at *;generalize npr B=Y0 at *;refine AC.aj (rs:=[.tmp 4]) aV Tryz.func170 (by rfl) (by rfl) (by rfl) (by rfl) (by rfl) ?_;simp only[wt,seval];refine ah (pp) (by rfl) (by simp) ?_;simp only[wt,seval];refine ah (pq) (by rfl) (by simp) ?_;simp only[wt,seval];refine aI (λf H=>∃(X Y:List Int),(∀G,GG G X Y->GG G A B)/\aO X=X/\aO Y=Y/\Nf X/\Nf Y/\EI D S X Y/\f 0=.iv (.sl (iQ X))/\f 1=.iv (.sl (iQ Y))) (λf H=>match f 1 with | .iv (.sl l)=>l.length|_=>0) ?_ ?_
 .refine⟨X0,Y0,gg0,t0,t0',f0,f0',ei0,?_⟩;simp only[wt,seval]
  try exact⟨rfl,rfl⟩
 rintro f H ⟨X,Y,gg,tX,tY,nX,nY,ei,g0,g1⟩;have hmu:(match f 1 with | .iv (.sl l)=>l.length|_=>0)=tz Y:=by rw[g1];simp only[];rw[aW]
 rw[hmu];obtain⟨sX,sY⟩:=ei.bd;have hx:=ei.x;have hy:=ei.y;by_cases h0:tz Y=0
 .have e:=Nc (gg X (.zero h0)) nX;have e':iQ X=iQ (eU A B):=by
   have:=zL e;exact J3 (oW e)
  rw[e']at g0;simp (disch:=omega) only[wt,seval,aW,g0,g1,h0]
  try rfl
 .have h0':(0:Int)<(tz Y:Int):=by omega
  obtain⟨r1,⟨c,Q,hc,r2⟩,r3⟩:=a0i (X:=X) h0;have rr:=a4J (cn X) (cn Y) (EZ S D) (EZ S D) ((lQ hx sX).mono hD (zab _)) ((lQ hy sY).mono hD (zab _)) (by rw[tN tY];exact h0) hE hE;rw[tN tX,tN tY,tX,tY]at rr;have hdx:dxp X Y<=41:=by unfold dxp;omega
  have hdm:dxp X Y*(EZ S D+1)<=41*(EZ S D+1):=zag _ hdx;have pr:=sU (p:=cn (rre X Y)) (A:=rre X Y) ((lQ (D:=40) (k:=2^35) (by omega) ((r3 _ _ sX sY).mono (by omega))).mono (by omega) (by omega)) (fF _);have ht:=oh (rre X Y);simp (disch:=omega) only[wt,seval,aW,g0,g1,h0'];refine ah (rr) (by rfl) (by simp) ?_;simp (disch:=omega) only[wt,seval];refine ah (pr) (by rfl) (by simp) ?_;simp (disch:=omega) only[wt,seval,aW];refine⟨⟨Y,npr (rre X Y),λG h=>gg G ((h.as (.refl _) (.refl _) (kD _).symm).step hc r2),tY,eH _,nY,lG _,ei.step' h0 r1 r3,?_⟩,by omega⟩
  try (repeat' apply zaa)<;>first|rfl|omega
theorem uG {p q:List RI}{A B:List Int}(D S:Nat)(hp:RP 40 S p)(hq:RP 40 S q)(ea:ps (pv p)=ps A)(eb:ps (pv q)=ps B)(tp:tz A<=D)(tq:tz B<=D)(hD:D<=40)(hE:EZ S D<=2^27) :
  AC Tryz.prog 170 [cw p,cw q] none [cp (eU A B)]:=by
 have h:=ZK p q D S hp hq (by rw[gQ ea];exact tp) (by rw[gQ eb];exact tq) hD hE;rwa [zL (Ud (.nM ea) (.nM eb))]at h
end Go.Proofs.YtdpngipofekcfaaGreat
