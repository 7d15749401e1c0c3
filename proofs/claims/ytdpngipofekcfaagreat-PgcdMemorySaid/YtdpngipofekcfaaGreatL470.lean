/-
 Contracts of the functions that the law reaches.
-/
import Derived.Test.YtdpngipofekcfaaGreatL416M
set_option maxHeartbeats 2000000
set_option linter.defProp false
namespace Go.Proofs.YtdpngipofekcfaaGreat
open Go Go.Proofs Go.AL
set_option linter.unusedSimpArgs false
set_option linter.unusedVariables false
variable {n:Nat}
def b3B (p q:List RI)(hp:RP 9 2 p)(hq:RP 9 2 q):AC Tryz.prog 164 [cw p,cw q] none [cp (Pn (pv p) (pv q)).1,cp (Pn (pv p) (pv q)).2.1,cp (Pn (pv p) (pv q)).2.2.1,ci (Pn (pv p) (pv q)).2.2.2]:=by
 have h:=ZE p q hp hq;unfold Pn;split at h
 .rename_i e;rw[zas e];exact h
 .rename_i e;rw[zam e];exact h
def b3A (p q:List RI)(hp:RP 9 2 p)(hq:RP 9 2 q):AC Tryz.prog 165 [cw p,cw q] none [ci (Zd (pv p) (pv q)).1,cp (Zd (pv p) (pv q)).2.1,ci (Zd (pv p) (pv q)).2.2]:=by
 have h:=Sv p q hp hq;unfold Zd;split at h
 .rename_i e;rw[zas e];exact h
 .rename_i e;rw[zam e];split at h
  .rename_i e;rw[zas e];exact h
  .rename_i e;rw[zam e];exact h
def a4z (p q:List RI)(hp:RP 9 2 p)(hq:RP 9 2 q):AC Tryz.prog 166 [cw p,cw q] none [cp (a4y (pv p) (pv q)).1,ci (a4y (pv p) (pv q)).2]:=by
 have h:=Sr p q hp hq;unfold a4y;split at h
 .rename_i e;rw[zas e];exact h
 .rename_i e;rw[zam e];exact h
def b8N (p r:List RQ)(hp:BQ 7 1 p)(hr:BQ 7 1 r):AC Tryz.prog 168 [cqw p,cqw r] none [cqw (Uz p r).1,cqw (Uz p r).2.1,cqw (Uz p r).2.2.1,ci (Uz p r).2.2.2]:=by
 unfold Uz;split
 .rename_i e;obtain⟨a,b⟩:=zI e;exact ZM p r (Bv hp a) (Bv hr b)
 .rename_i e;exact a4T p r hp hr (yh e)
def b3C (p r:List RQ)(hp:BQ 7 1 p)(hr:BQ 7 1 r):AC Tryz.prog 167 [cqw p,cqw r] none [cqw (a6t p r).1,ci (a6t p r).2]:=by
 unfold a6t;split
 .rename_i e;obtain⟨a,b⟩:=zI e;exact ZH p r (Bv hp a) (Bv hr b)
 .rename_i e;exact Vl p r hp hr (yh e)
def b8M (p r:List RQ)(hp:BQ 7 1 p)(hr:BQ 7 1 r):AC Tryz.prog 169 [cqw p,cqw r] none [cqw (a6M p r).1,ci (a6M p r).2]:=by
 unfold a6M;split
 .rename_i e;obtain⟨a,b⟩:=zI e;exact a9U p r (Bv hp a) (Bv hr b)
 .rename_i e;exact a4O p r hp hr (yh e)
theorem Vk (B:List Int):∀(f:Nat) (A:List Int),aO A=A->aO (tmr B f A)=tmr B f A
 |0,A,h=>h
 |f+1,A,h=>by
  rw[tmr];split
  .exact Vk B f _ (jU _ _)
  .exact h
def ZSm (q:List Int):Prop:=SBd 500 q/\q.length<=50/\aO q=q
theorem DF {q:List Int}{S:Nat}(h:SBd S q/\tz q<=n)(hS:S<=500)(hn:n<=50)(t:aO q=q):ZSm q:=⟨h.1.mono hS,by rw[<-t,dw];omega,t⟩
theorem CJ:ZSm []:=⟨Gn (by decide),by simp,rfl⟩
def LQ {p r:List RI}{l:List (List RI)}(hp:RP 9 2 p)(hr:RP 9 2 r)(hl:∀p∈l,RP 9 2 p):∀q∈sZ p r l,ZSm q:=by
 obtain⟨tP,sP⟩:=dF hp;obtain⟨tR,sR⟩:=dF hr;have gg:=mG (pv p) (pv r);have a:=BM hl l.length (zab _);have at':=Xp l l.length (zab _);rw[zaM]at a at';have ls:=a2c tP sP tR sR;have lt:aO (U1 (pv p) (pv r))=U1 (pv p) (pv r):=by
  unfold U1;split
  .rfl
  .exact eH _
 have xs:=b4O (R:=pv r) (show tz (pv p)<=40 by omega) sP sR;have hx:ZSm (aO (exv (pv p) (pv r))):=DF (S:=2+41*(2+1)) (n:=41) ⟨λi=>by rw[bM];exact xs.1 i,by rw[A8];exact xs.2⟩ (by omega) (by omega) (iM _);have g1:=DF (Ip tP sP tR sR) (by omega) (by omega) (jI (pv p) (pv r));intro q hq;simp only[sZ,zaG,zaT,zco]at hq;rcases hq with rfl|rfl|rfl|rfl|rfl|rfl|rfl|rfl|rfl
 .exact g1
 .exact DF a (by omega) (by omega) at'
 .exact DF ls (by omega) (by omega) lt
 .exact hx
 .unfold Pn;split
  .exact CJ
  .exact g1
 .unfold Pn;split
  .exact CJ
  .rename_i h0;exact DF (Ky tP sP h0 gg.a) (by omega) (by omega) (Kw _ _)
 .unfold Pn;split
  .exact CJ
  .rename_i h0;exact DF (Ky tR sR h0 gg.b) (by omega) (by omega) (Kw _ _)
 .unfold Zd;split
  .exact CJ
  .rename_i h0;split
   .exact CJ
   .rename_i h1;have s:=Oy (B:=pv r) h0 tP sP (by omega) 9 (npr (pv p)) (lG _) (kD (pv p)).symm.dv;exact DF ⟨s.1,s.2.1⟩ (by omega) (by omega) (Vk _ _ _ (eH _))
 .unfold a4y;split
  .exact CJ
  .rename_i h0;have s:=Oj (B:=pv r) (λh=>h0 (.inl h)) tP sP 10 (npr (pv p)) (lG _) (kD (pv p)).symm.dv;exact DF ⟨s.1,s.2.1⟩ (by omega) (by omega) (Va _ _ _ (eH _))
theorem CX.b6d {M:Nat}{q:List Rat}(h:CX n M q)(hn:n<=50)(hM:M<=2^36):BQ 50 (2^40) (q.map aN):=h.qb.gq.bq.mono (by omega) (by omega)
def LU {f g:List RQ}(hf:BQ 7 1 f)(hg:BQ 7 1 g):∀q∈sQ f g,BQ 50 (2^40) q:=by
 have key:∀q∈sQ f g,q=[]\/(gd f && gd g)=true/\(q=(bzg (au (qvs f)) (au (qvs g))).map aN\/q=(bzu (au (qvs f)) (au (qvs g))).map aN\/q=(bzv (au (qvs f)) (au (qvs g))).map aN\/q=ivl (au (qvs f)) (au (qvs g))):=by
  intro q hq;simp only[sQ,zaG,zaT,zco]at hq;unfold a6t Uz a6M at hq;by_cases h:(gd f && gd g)=true
  .simp only[h,zcm]at hq;rcases hq with h1|h1|h1|h1|h1<;>simp[h,h1]
  .simp only[h]at hq;simp only[zbg,zbo,or_self]at hq;exact .inl hq
 intro q hq;rcases key q hq with rfl|⟨h,hh⟩
 .exact a1J _ _
 .obtain⟨a,b⟩:=zI h;have S:=b7E (yP (Bv hf a)) (yP (Bv hg b)) (aZ _) (aZ _);rcases hh with rfl|rfl|rfl|rfl
  .exact S.g.b6d (by omega) (by omega)
  .exact S.u.b6d (by omega) (by omega)
  .exact S.v.b6d (by omega) (by omega)
  .rw[ivl];split
   .exact a1J _ _
   .split
    .exact S.u.b6d (by omega) (by omega)
    .exact a1J _ _
def a7p (q:List Int):cp q=cp (aO q):=by rw[cp,iQ,cp,iQ,iM]
theorem a8r {a b c a' b' c':IV}(h1:Le a a')(h2:Le b b')(h3:Le c c'):Je (.agg [a,b,c]) (.agg [a',b',c']):=.agg rfl λj x y hx hy=>by
 match j,hx,hy with
 |0,hx,hy=>injection hx with hx;injection hy with hy;subst hx hy;exact h1
 |1,hx,hy=>injection hx with hx;injection hy with hy;subst hx hy;exact h2
 |2,hx,hy=>injection hx with hx;injection hy with hy;subst hx hy;exact h3
 |j+3,hx,hy=>simp at hx
def a7M (zs:List (List RI))(qs:List (List RQ))(ns:List Int)(B E:Nat)(res:List CV):Prop:=∃(o1 o2 o3:OB),res=[.agg [.own o1 50 1 (gI zs),.own o2 23 1 (qps qs),.own o3 3 1 (iL ns)]]
theorem b1e (zs:List (List RI))(qs:List (List RQ))(ns:List Int)(B:Nat):∃E res,B<=E/\a7M zs qs ns B E res:=⟨B,_,zab _,none,none,none,rfl⟩
theorem TF (zs:List (List RI)):∀r∈gI zs,r.length=1:=λr hr=>by
 obtain⟨_,_,rfl⟩:=zaw.1 hr;rfl
theorem a0S (zs:List (List RQ)):∀r∈qps zs,r.length=1:=λr hr=>by
 obtain⟨_,_,rfl⟩:=zaw.1 hr;rfl
theorem Ij (zs:List Int):∀r∈iL zs,r.length=1:=λr hr=>by
 obtain⟨_,_,rfl⟩:=zaw.1 hr;rfl
def a7M.soft {zs:List (List RI)}{qs:List (List RQ)}{ns:List Int}{B E:Nat}{res:List CV}(h:a7M zs qs ns B E res):Cb res [.agg (a8q zs qs ns)]:=by
 obtain⟨o1,o2,o3,rfl⟩:=h;exact .cons (a8r (Ah (TF zs)) (Ah (a0S qs)) (Ah (Ij ns))) .nil
def wZ (p r:List RI)(l:List (List RI)):List (List RI):=(sZ p r l).map cn
set_option maxRecDepth 8000 in
set_option maxHeartbeats 4000000 in
def FX (p r:List RI)(l:List (List RI))(f g:List RQ)(hp:RP 9 2 p)(hr:RP 9 2 r)(hl:l.length<=2^40)(hll:∀p∈l,RP 9 2 p)(hf:BQ 7 1 f)(hg:BQ 7 1 g):AC Tryz.prog 72 [cw p,cw r,.iv (.sl (gI l)),cqw f,cqw g] none [.agg (a8q (wZ p r l) (sQ f g) (sN p r f g))]:=by
 refine ACX.plain (R:=a7M (wZ p r l) (sQ f g) (sN p r f g)) ?_ λB E res h=>h.soft;obtain⟨tP,sP⟩:=dF hp;obtain⟨tQ,sQ'⟩:=dF hr;have WM:=hp.mono (show 9<=40 by omega) (zab 2);have a6U:=hr.mono (show 9<=40 by omega) (zab 2);have m1:=ZL p r 2 WM a6U (by omega);rw[a7p]at m1;have m2:=b3B p r hp hr;have m3:=b3A p r hp hr;have m4:=a4z p r hp hr;have m5:=b3C f g hf hg;have m6:=b8N f g hf hg;have m7:=b8M f g hf hg;have m8:=uG 9 2 WM a6U rfl rfl tP tQ (by omega) ez2;have m9:=a9V l hl hll;have m10:=a9T p r hp hr;have c1:=XG 9 2 WM a6U rfl rfl tP tQ (by omega) ez2;have c2:=G9 p r 2 WM a6U (by omega);have e1:=Xm (decide (tz (eU (pv p) (pv r))=1));have e2:=Xm (dvb (pv r) (pv p));refine ACX.Xk zA 12 (rs:=[.cell 10 120]) aV Tryz.func72 (by rfl) (by rfl) (by rfl) (by rfl) (by rfl) (b1e _ _ _) (λB=>?_);simp (disch:=omega) only[wt,seval,Nat.reduceBEq,CG,b7N,Xv];refine ah (m1) (by rfl) (by simp) ?_;simp (disch:=omega) only[wt,seval,CG];refine ah (m2) (by rfl) (by simp) ?_;simp (disch:=omega) only[wt,seval,CG];refine ah (m3) (by rfl) (by simp) ?_;simp (disch:=omega) only[wt,seval,CG];refine ah (m4) (by rfl) (by simp) ?_;simp (disch:=omega) only[wt,seval,CG];refine ah (m5) (by rfl) (by simp) ?_;simp (disch:=omega) only[wt,seval,CG];refine ah (m6) (by rfl) (by simp) ?_;simp (disch:=omega) only[wt,seval,CG];refine ah (m7) (by rfl) (by simp) ?_;simp (disch:=omega) only[wt,seval,CG,Xv];refine .inl ⟨aP (by kernel_rfl),?_⟩;refine ah (m8) (by rfl) (by simp) ?_;simp only[wt,seval,CG];refine ah (m9) (by rfl) (by simp) ?_;simp only[wt,seval,CG];refine ah (m10) (by rfl) (by simp) ?_;simp (disch:=omega) only[wt,seval,zbe,CG,b5H,Xv,a0G,a0F];refine⟨aX (by kernel_rfl),?_⟩;refine .inl ⟨aP (by kernel_rfl),?_⟩;refine ah (c1) (by rfl) (by simp) ?_;simp only[wt,seval];refine ah (e1) (by rfl) (by simp) ?_;simp only[wt,seval,CG];refine ah (c2) (by rfl) (by simp) ?_;simp only[wt,seval];refine ah (e2) (by rfl) (by simp) ?_;simp (disch:=omega) only[wt,seval,zbe,CG,b5H,Xv,Vy];refine⟨aX (by kernel_rfl),?_⟩;refine Opn.row 11 1 120 0 95 1 50 1 _ (gI (wZ p r l)) B (by simp only[wt,seval];rfl) (by rfl) (by simp only[wt,seval];rfl) (by simp only[wt,seval]) ?_;intro o1 E11 b8p ho1 hr1;refine Opn.row 11 1 120 1 105 1 23 1 _ (qps (sQ f g)) E11 (by simp only[wt,seval];rfl) (by rfl) (by simp only[wt,seval];rfl) (by simp only[wt,seval]) ?_;intro o2 E12 b8o ho2 hr2;refine Opn.row 11 1 120 2 126 1 3 1 _ (iL (sN p r f g)) E12 (by simp only[wt,seval,zbe];rfl) (by rfl) (by simp only[wt,seval,zbe];rfl) (by simp only[wt,seval,zbe]) ?_;intro o3 E13 b8n ho3 hr3;refine Opn.done ?_;simp (disch:=omega) only[wt,seval,zaJ,zaj,zbe,CG,Xv];refine aQ (B:=E13) [.agg [.own o1 50 1 (gI (wZ p r l)),.own o2 23 1 (qps (sQ f g)),.own o3 3 1 (iL (sN p r f g))]] (by rfl) (by simp (disch:=omega) only[wt,seval,Xv];rfl) ?_;intro E hE;exact⟨o1,o2,o3,rfl⟩
end Go.Proofs.YtdpngipofekcfaaGreat
