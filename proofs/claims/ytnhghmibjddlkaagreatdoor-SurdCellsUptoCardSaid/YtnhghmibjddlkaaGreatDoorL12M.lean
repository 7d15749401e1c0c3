/-
 Contracts of the functions that the law reaches.
-/
import Derived.Test.YtnhghmibjddlkaaGreatDoorL1M
import Derived.Test.YtnhghmibjddlkaaGreatDoorAbsRM
import Derived.Test.YtnhghmibjddlkaaGreatDoorAbsFM
set_option maxHeartbeats 2000000
namespace Go.Proofs.YtnhghmibjddlkaaGreatDoor
open Go Go.Proofs Go.AL
set_option linter.unusedSimpArgs false
set_option linter.unusedVariables false
theorem Ai {p q:List Int}(h:ps p=ps q):cp p=cp q:=vg (jc h)
theorem NK {P:List Int}{i:Nat}(h:i+1<P.length+1)(h0:0<i):aP (P.take (i+1))=aP (P.take i)++[cf P i*(i:Int)]:=by
 have e:∀m,m<=P.length->aP (P.take m)=(List.range (m-1)).map λk=>cf P (k+1)*((k+1:Nat):Int):=by
  intro m hm;rw[aP,List.length_take,Nat.min_eq_left hm];refine List.map_congr_left λk hk=>?_;have hk:=List.mem_range.mp hk;simp[cf,List.getD,List.getElem?_take,show k+1<m by omega]
 rw[e _ (by omega),e _ (by omega),show i+1-1=(i-1)+1 by omega,List.range_succ,List.map_append,List.map_singleton,show i-1+1=i by omega]
theorem Xr (p:List RI)(h:RP (2^30) (2^35) p):AC Tryz.prog 94 [cw p] none [cp (aP (pv p))]:=by
 refine AC.aF (rs:=[.tmp 2]) bM Tryz.func94 (by rfl) (by rfl) (by rfl) (by rfl) (by rfl) ?_;have hl:=h.1;have htl:=oI (pv p);rw[iK]at htl;simp (disch:=omega) only[wt,seval,reduceCtorEq,Nat.reduceEqDiff,aC];refine au ((Gp p (h.mono (by omega) (by omega)))) (by rfl) (by simp) ?_;simp (disch:=omega) only[wt,seval,reduceCtorEq,Nat.reduceEqDiff,aC];refine uo 3 3 29 2 (by simp (disch:=omega) only[wt,seval,reduceCtorEq,Nat.reduceEqDiff,aC]) (λf H=>∃(k st:Nat),k<=tz (pv p)/\f 7=.iv (.int .i64 k)/\f 0=.iv (.sl (gZ p))/\f 3=.hs 3 st/\f 6=.iv (.int .i64 (tz (pv p)))/\H 3=.blk false st 29 2 (gZ ((aP ((pv p).take k)).map canon))) (λf H=>(tz (pv p)-dQ f 7).toNat) ?_ ?_
 .refine⟨0,1,by omega,?_⟩;simp (disch:=omega) only[wt,seval,reduceCtorEq,Nat.reduceEqDiff,aC,nH,nG,List.take_zero,aP]
 rintro f H ⟨k,st,hk,hF⟩;rw[bC hF.1];simp (disch:=omega) only[wt,seval,reduceCtorEq,Nat.reduceEqDiff,aC,hF];refine bU (λhlt=>?_) (λhlt=>?_)
 .simp (disch:=omega) only[wt,seval,reduceCtorEq,Nat.reduceEqDiff,aC,hF];refine bU (λh0=>?_) (λh0=>?_)
  .simp (disch:=omega) only[wt,seval,reduceCtorEq,Nat.reduceEqDiff,aC,hF];have hq:((aP ((pv p).take k)).map canon).length=k-1:=by
    simp only[aP,List.length_map,List.length_range,List.length_take,iK];omega
   refine .inl ⟨aZ (by kernel_rfl),?_⟩;refine au ((iJ k (by omega) (by omega))) (by first|rfl|(simp only[aH,bn,aB,aI,aA,Nat.reduceEqDiff,↓reduceIte,hF,hq];rfl)) (by simp) ?_;simp (disch:=omega) only[wt,seval,reduceCtorEq,Nat.reduceEqDiff,aC,hF,hq];have hz:zl (k:Int)<=1:=dR.mpr (by simp only[W];omega);have m:=jM (p.getD k (false,[])) (canon k) ((h.get _).mono (by omega)) ((aW _).mono (by omega));rw[aU,<-rJ]at m;refine au (m) (by first|rfl|(simp only[aH,bn,aB,aI,aA,Nat.reduceEqDiff,↓reduceIte,hF,hq];rfl)) (by simp) ?_;simp (disch:=omega) only[wt,seval,reduceCtorEq,Nat.reduceEqDiff,aC,hF,hq]
   first|exact aN (by kernel_rfl)|refine⟨aN (by kernel_rfl),?_⟩
   refine⟨⟨k+1,st+1,by omega,?_⟩,by omega⟩;rw[NK (by rw[iK];omega) (by omega)];exact⟨by omega,rfl,rfl⟩
  .simp (disch:=omega) only[wt,seval,reduceCtorEq,Nat.reduceEqDiff,aC,hF];obtain rfl:k=0:=by omega
   refine⟨⟨1,st,by omega,?_⟩,by omega⟩;have:aP ((pv p).take 1)=[]:=by simp[aP];omega
   rw[this];exact⟨rfl,rfl,rfl⟩
 .simp (disch:=omega) only[wt,seval,reduceCtorEq,Nat.reduceEqDiff,aC,hF];have hk:k=tz (pv p):=by omega
  have e:cp (aP (pv p))=cp (pv ((aP ((pv p).take k)).map canon)):=by
   refine Ai ?_;rw[gW,dL,dL,hk];exact congrArg PS.D (lK (pv p)).symm
  rw[e];have hb:PB (2^30) (2^40) (aP ((pv p).take k)):=((Pq h.pv k).aP (by decide)).mono (by omega) (by omega);refine au ((gX ((aP ((pv p).take k)).map canon) (RP.canon (hb.mono (by omega) (by omega))))) (by first|rfl|(simp only[aH,bn,aB,aI,aA,Nat.reduceEqDiff,↓reduceIte,hF];rfl)) (by simp) ?_;simp (disch:=omega) only[wt,seval,reduceCtorEq,Nat.reduceEqDiff,aC,hF]
def cn (q:List Int):List RI:=(aV q).map canon
theorem Uo (q:List Int)(k:Nat):cf (pv (cn q)) k=cf q k:=by rw[cn,gW,bH]
theorem jf (q:List Int):ps (pv (cn q))=ps q:=Xa (Uo q)
theorem yM {n k:Nat}{q:List Int}(h:PB n k q):RP n k (cn q):=RP.canon h.aV

abbrev cis (l:List Int):CV:=.iv (.sl (iO l))
theorem Qy {a b:List RI}{q r:List Int}(ha:RP (2^30) (2^35) a)(hb:RP (2^30) (2^35) b)(eq:ps (pv a)=ps q)(er:ps (pv b)=ps r):AC Tryz.prog 23 [cw a,cw b] none [cp (bV q r)]:=by
 have h:=Xm a b ha hb;rwa [Ai (q:=bV q r) (by rw[aX,aX,eq,er])]at h
theorem Xv {a b:List RI}{q r:List Int}(ha:RP (2^30) (2^35) a)(hb:RP (2^30) (2^35) b)(eq:ps (pv a)=ps q)(er:ps (pv b)=ps r):AC Tryz.prog 126 [cw a,cw b] none [cp (ji q r)]:=by
 have h:=Xu a b (ha.mono (by omega) (by omega)) (hb.mono (by omega) (by omega));rwa [Ai (q:=ji q r) (by rw[gq,gq,eq,er])]at h
theorem b0d {a b:List RI}{q r:List Int}(ha:RP (2^30) (2^35) a)(hb:RP (2^30) (2^35) b)(eq:ps (pv a)=ps q)(er:ps (pv b)=ps r):AC Tryz.prog 168 [cw a,cw b] none [cp (ji q (aY (-1) r))]:=by
 have h:=a6y a b (ha.mono (by omega) (by omega)) hb;rwa [Ai (q:=ji q (aY (-1) r)) (by rw[gq,bg,gq,bg,eq,er])]at h
theorem wV {a:List RI}{q:List Int}{c:RI}(ha:RP (2^30) (2^35) a)(hc:Sz (2^35) c)(eq:ps (pv a)=ps q):AC Tryz.prog 152 [cw a,cr c] none [cp (aY (iv c) q)]:=by
 have h:=Ko a c ha hc;rwa [Ai (q:=aY (iv c) q) (by rw[bg,bg,eq])]at h
theorem a1C {a:List RI}{q:List Int}(ha:RP (2^30) (2^35) a)(eq:ps (pv a)=ps q):AC Tryz.prog 94 [cw a] none [cp (aP q)]:=by
 have h:=Xr a ha;rwa [Ai (q:=aP q) (by rw[dL,dL,eq])]at h
theorem Xl {a:List RI}{q:List Int}(ha:RP (2^30) (2^35) a)(eq:ps (pv a)=ps q):AC Tryz.prog 44 [cw a] none [cp q]:=by
 have h:=gX a (ha.mono (by omega) (by omega));rwa [Ai eq]at h
def Raw (p:List RI):Prop:=p.length<=9223372036854775807/\∀c∈p,Sz (9223372036854775807) c
def IB (x y:Nat):Int:=if x<y then -1 else if y<x then 1 else 0

theorem VR {p:List Int}(h:tz p=0):aV p=[]:=by rw[aV,h];rfl
end Go.Proofs.YtnhghmibjddlkaaGreatDoor
