/-
 Contracts of the functions that the law reaches.
-/
import Derived.Test.YtdpngipofekcfaaGreatL471M
import Derived.Test.YtdpngipofekcfaaGreatAbsZ15
set_option maxHeartbeats 2000000
set_option maxRecDepth 100000
set_option linter.defProp false
namespace Go.Proofs.YtdpngipofekcfaaGreat
open Go Go.Proofs Go.AL
set_option linter.unusedSimpArgs false
set_option linter.unusedVariables false

section
variable {n:Nat} {q:List Int} {w:World} {D:Nat->Prop} {v:Value}
def jX {α β:Type}(l:List α)(d:α)(g:α->List β):l.flatMap g=(List.range l.length).flatMap λi=>g (l.getD i d):=by
 induction l with
 |nil=>rfl
 |cons x l ih =>
  rw[zbu,zaL,List.range_succ_eq_map,zbu,zcA,ih];rfl
def lH {α:Type}{g:Nat->α}{i:Nat}{x:α}(h:((List.range n).map g)[i]?=some x):i<n/\x=g i:=by
 rw[zaD,zcI]at h;obtain⟨k,hk,rfl⟩:=h;obtain⟨h1,h2⟩:=zao.1 hk;simp only[zck,zfC]at h1 h2;subst h2;exact⟨h1,rfl⟩
def pY {β:Type}{n:Nat}{f g:Nat->List β}(h:∀i<n,f i=g i):(List.range n).flatMap f=(List.range n).flatMap g:=by
 rw[List.flatMap_def,List.flatMap_def]
 congr 1
 exact List.map_congr_left λi hi=>h i (List.mem_range.1 hi)
def AZ (b:OB):b.elim [] (λp=>[p.1])=oid b:=by cases b<;>rfl
def a7e {bs:List OB}(h:bs.length=q.length):(oD bs q).length=q.length:=by simp[oD,h]
theorem I5 {b:OB}{g c:Nat}(h:b=some (g,c)):g∈oid b:=by subst h;simp[oid]
def JD (w:World)(B:Nat)(v:Value)(e sz:Nat)(rows:List (List IV)):Prop:=∀(D' M:Nat->Prop),AL.Own w D' B M v e sz rows
def Yt {bs:List OB}(hl:bs.length=q.length){i:Nat}(h:i<q.length):(oD bs q)[i]?=some (fint (bs.getD i none) (q.getD i 0)):=by
 simp[oD,zce,List.getD,h,show i<bs.length by omega]
theorem a2L {bs:List (OB×OB)}{l:List RQ}(hl:bs.length=l.length){i:Nat}(h:i<l.length):(bV bs l)[i]?=some (frq (bs.getD i (none,none)).1 (bs.getD i (none,none)).2 (l.getD i q0)):=by
 simp[bV,zce,List.getD,h,show i<bs.length by omega]
theorem KL {b:OB}{l:List Nat}(h:Rep w D (Fj b l) v){B:Nat}(hB:∀g∈oid b,B<=g):hd v=oid b/\v.oneCell'=true/\∃rows:List (List IV),rows.length=l.length/\(∀r∈rows,r.length=1)/\JD w B v 148 1 rows:=by
 have h1:=h.one;obtain⟨c,e1,e2,-,-⟩:=dL h;refine⟨e1.trans (AZ b),h1,_,by simp[o7,dh],λr hr=>?_,λD' M=>e2 D' B M λg cap e=>hB g (I5 e)⟩;obtain⟨i,_,rfl⟩:=zaw.1 hr;rfl
structure XZ (w:World) (B:Nat) (b:OB) (bs:List OB) (q:List Int) (v:Value) (z:List ZX):Prop where
 len:z.length=q.length
 h:hd v=oid b
 o:JD w B v 30 2 (z.map zrw)
 hs:(z.map (·.2)).flatMap hd=ids bs
 ws:∀(j:Nat) (x:ZX),z[j]?=some x->x.2.oneCell'=true/\∃rows:List (List IV),rows.length=(wd (q.getD j 0).natAbs).length/\(∀r∈rows,r.length=1)/\JD w B x.2 148 1 rows
def b1P {b:OB}{bs:List OB}(h:Rep w D (gZ b bs q) v)(hl:bs.length=q.length){B:Nat}(hB:∀g∈oid b++ids bs,B<=g):∃z,XZ w B b bs q v z:=by
 obtain⟨c,e1,e2,e3,-⟩:=dL h;have fl:=a7e hl;have hc:∀i<q.length,Rep w D (Fj (bs.getD i none) (wd (q.getD i 0).natAbs)) (c i 1):=λi hi=>e3 i _ 1 _ (Yt hl hi) rfl
 have hb:∀i<q.length,∀g∈oid (bs.getD i none),B<=g:=λi hi g hg=>hB g (zaF _ (zcM.2 ⟨_,by rw[List.getD,zaf (by omega)];exact zaY (by omega),hg⟩))
 refine⟨(List.range q.length).map λi=>(c i 0,c i 1),by simp,e1.trans (AZ b),λD' M=>?_,?_,λj x hx=>?_⟩
 .have:=e2 D' B M λg cap e=>hB g (zbq _ (I5 e))
  rw[fl]at this;rw[zb2];exact this
 .rw[zb2,zcA,ids,jX bs none oid,hl];exact pY λi hi=>(KL (hc i hi) (hb i hi)).1
 .obtain⟨hj,rfl⟩:=lH hx;obtain⟨-,h1,rows,r1,r2,r3⟩:=KL (hc j hj) (hb j hj);exact⟨h1,rows,r1,r2,r3⟩
structure XQ (w:World) (B:Nat) (b:OB) (bs:List (OB×OB)) (q:List RQ) (v:Value) (z:List QX):Prop where
 len:z.length=q.length
 h:hd v=oid b
 o:JD w B v 32 3 (z.map qrw)
 hs:(qw2 z).flatMap hd=idq bs
 ws:∀(j:Nat) (x:QX),z[j]?=some x->(x.2.1.oneCell'=true/\∃rows:List (List IV),rows.length=(q.getD j q0).1.2.length/\(∀r∈rows,r.length=1)/\JD w B x.2.1 148 1 rows)/\x.2.2.oneCell'=true/\∃rows:List (List IV),rows.length=(q.getD j q0).2.length/\(∀r∈rows,r.length=1)/\JD w B x.2.2 148 1 rows
def a7h {b:OB}{bs:List (OB×OB)}{q:List RQ}(h:Rep w D (fqp b bs q) v)(hl:bs.length=q.length){B:Nat}(hB:∀g∈oid b++idq bs,B<=g):∃z,XQ w B b bs q v z:=by
 obtain⟨c,e1,e2,e3,-⟩:=dL h;have fl:(bV bs q).length=q.length:=eX hl;have hc:∀i<q.length,Rep w D (Fj (bs.getD i (none,none)).1 (q.getD i q0).1.2) (c i 1):=λi hi=>e3 i _ 1 _ (a2L hl hi) rfl
 have hc2:∀i<q.length,Rep w D (Fj (bs.getD i (none,none)).2 (q.getD i q0).2) (c i 2):=λi hi=>e3 i _ 2 _ (a2L hl hi) rfl
 have hb:∀i<q.length,∀g∈oid (bs.getD i (none,none)).1++oid (bs.getD i (none,none)).2,B<=g:=λi hi g hg=>hB g (zaF _ (zcM.2 ⟨_,by rw[List.getD,zaf (by omega)];exact zaY (by omega),hg⟩))
 refine⟨(List.range q.length).map λi=>(c i 0,c i 1,c i 2),by simp,e1.trans (AZ b),λD' M=>?_,?_,λj x hx=>?_⟩
 .have:=e2 D' B M λg cap e=>hB g (zbq _ (I5 e))
  rw[fl]at this;rw[zb2];exact this
 .rw[qw2,zcA,zfD,idq,jX bs (none,none),hl];refine pY λi hi=>?_;simp only[zbu,zdy,zbr];rw[(KL (hc i hi) λg hg=>hb i hi g (zbq _ hg)).1,(KL (hc2 i hi) λg hg=>hb i hi g (zaF _ hg)).1]
 .obtain⟨hj,rfl⟩:=lH hx;obtain⟨-,h1,rows,r1,r2,r3⟩:=KL (hc j hj) λg hg=>hb j hj g (zbq _ hg)
  obtain⟨-,h1',rows',r1',r2',r3'⟩:=KL (hc2 j hj) λg hg=>hb j hj g (zaF _ hg)
  exact⟨⟨h1,rows,r1,r2,r3⟩,h1',rows',r1',r2',r3'⟩
end
section
variable {zs:List (List Int)} {i:Nat}
def QC {α:Type}(l:List α)(f g:α->List Nat)(a:Nat):(l.flatMap λx=>f x++g x).count a=(l.flatMap f).count a+(l.flatMap g).count a:=by
 induction l with
 |nil=>rfl
 |cons x l ih=>simp only[zbu,zbF,ih];omega
def XHL (vZ vQ:Value)(hz hq:List Value)(Z:List (List ZX))(Q:List (List QX)):List Nat:=hd vZ++(hd vQ++(hz.flatMap hd++(hq.flatMap hd++(zws Z++qws Q).flatMap hd)))
structure XA (w:World) (D:Nat->Prop) (E0 E nz nq:Nat) (vZ vQ:Value) (hz hq:List Value) (Z:List (List ZX)) (Q:List (List QX)):Prop where
 zl:hz.length=nz
 zl2:Z.length=nz
 ql:hq.length=nq
 ql2:Q.length=nq
 oZ:JD w E0 vZ 50 1 (jG hz)
 oQ:JD w E0 vQ 23 1 (jG hq)
 cz:∀v∈hz,v.oneCell'=true
 cq:∀v∈hq,v.oneCell'=true
 pz:∀i z,Z[i]?=some z->JD w E0 (hz.getD i Go.undef) 30 2 (z.map zrw)
 pq:∀i z,Q[i]?=some z->JD w E0 (hq.getD i Go.undef) 32 3 (z.map qrw)
 wo:WOk Z Q
 ws:∀v∈zws Z++qws Q,v.oneCell'=true/\∃rows:List (List IV),rows.length<=1099511627776/\(∀r∈rows,r.length=1)/\JD w E0 v 148 1 rows
 nd:∀g,(XHL vZ vQ hz hq Z Q).count g<=1
 rg:∀g∈XHL vZ vQ hz hq Z Q,(E0<=g/\g<E)/\¬D g
def xZ {cs:List OP}(h:POk cs zs){i:Nat}(hi:i<zs.length):(jH cs zs)[i]?=some [gZ (cs.getD i (none,[])).1 (cs.getD i (none,[])).2 (zs.getD i [])]:=by
 have:=h.1;simp[jH,zce,List.getD,hi,show i<cs.length by omega]
theorem xX {cs:List OQ}{zs:List (List RQ)}(h:QOk cs zs){i:Nat}(hi:i<zs.length):(uM cs zs)[i]?=some [fqp (cs.getD i (none,[])).1 (cs.getD i (none,[])).2 (zs.getD i [])]:=by
 have:=h.1;simp[uM,zce,List.getD,hi,show i<cs.length by omega]
theorem getD_some {α:Type}{l:List α}(d:α)(h:i<l.length):l[i]?=some (l.getD i d):=by simp[List.getD,h]
theorem oz {α:Type}{l:List α}(d:α)(h:i<l.length):l.getD i d∈l:=zat (getD_some d h)
def Gv (n:Nat)(c:Nat->Nat->Value):o7 n 1 c=jG ((List.range n).map λi=>c i 0):=by
 simp[o7,jG,zec]
theorem Ui {w:World}{D:Nat->Prop}{o1 o2 o3:OB}{cs:List OP}{ds:List OQ}{qs:List (List RQ)}{vZ vQ:Value}{E0 E:Nat}(h1:Rep w D (.own o1 50 1 (jH cs zs)) vZ)(h2:Rep w D (.own o2 23 1 (uM ds qs)) vQ)(hc:POk cs zs)(hd':QOk ds qs)
  (hn:Nw E0 E (oid o3++(oid o2++(oid o1++(cs.flatMap pid++ds.flatMap qid))))) (nz:zs.length<=50) (nq:qs.length<=50) (bz:∀q∈zs,ZSm q) (bq:∀q∈qs,BQ 50 (2^40) q):∃hz hq Z Q,XA w D E0 E zs.length qs.length vZ vQ hz hq Z Q:=by
 obtain⟨c1,e1,a1,b1,-⟩:=dL h1;obtain⟨c2,e2,a2,b2,-⟩:=dL h2;have pl:(jH cs zs).length=zs.length:=by simp[jH,hc.1]
 have ql:(uM ds qs).length=qs.length:=by simp[uM,hd'.1]
 have b9G:∀i<zs.length,∀g∈oid (cs.getD i (none,[])).1++ids (cs.getD i (none,[])).2,E0<=g:=λi hi g hg=>(hn.2 g (by
  have:g∈cs.flatMap pid:=zcM.2 ⟨_,oz (none,[]) (by rw[hc.1];exact hi),hg⟩;simp[this])).1
 have b9H:∀i<qs.length,∀g∈oid (ds.getD i (none,[])).1++idq (ds.getD i (none,[])).2,E0<=g:=λi hi g hg=>(hn.2 g (by
  have:g∈ds.flatMap qid:=zcM.2 ⟨_,oz (none,[]) (by rw[hd'.1];exact hi),hg⟩;simp[this])).1
 have hz:=zeK (r:=λ(i:Nat) (z:List ZX)=>i<zs.length->XZ w E0 (cs.getD i (none,[])).1 (cs.getD i (none,[])).2 (zs.getD i []) (c1 i 0) z) λi=>by
  by_cases hi:i<zs.length
  .obtain⟨z,hz⟩:=b1P (b1 i _ 0 _ (xZ hc hi) rfl) (hc.2 i _ _ (getD_some (none,[]) (by rw[hc.1];exact hi)) (getD_some [] hi)) (b9G i hi);exact⟨z,λ_=>hz⟩
  .exact⟨[],λh=>absurd h hi⟩
 have hq:=zeK (r:=λ(i:Nat) (z:List QX)=>i<qs.length->XQ w E0 (ds.getD i (none,[])).1 (ds.getD i (none,[])).2 (qs.getD i []) (c2 i 0) z) λi=>by
  by_cases hi:i<qs.length
  .obtain⟨z,hz⟩:=a7h (b2 i _ 0 _ (xX hd' hi) rfl) (hd'.2 i _ _ (getD_some (none,[]) (by rw[hd'.1];exact hi)) (getD_some [] hi)) (b9H i hi);exact⟨z,λ_=>hz⟩
  .exact⟨[],λh=>absurd h hi⟩
 obtain⟨zf,hz⟩:=hz;obtain⟨qf,hq⟩:=hq;have cz1:∀i<zs.length,(c1 i 0).oneCell'=true:=λi hi=>(b1 i _ 0 _ (xZ hc hi) rfl).one
 have cq1:∀i<qs.length,(c2 i 0).oneCell'=true:=λi hi=>(b2 i _ 0 _ (xX hd' hi) rfl).one
 have sz:∀i<zs.length,ZSm (zs.getD i []):=λi hi=>bz _ (oz [] hi)
 have sq:∀i<qs.length,BQ 50 (2^40) (qs.getD i []):=λi hi=>bq _ (oz [] hi)
 have hZw:(zws ((List.range zs.length).map zf)).flatMap hd=cs.flatMap λc=>ids c.2:=by
  rw[zws,zfD,zcA,jX cs (none,[]),hc.1];exact pY λi hi=>(hz i hi).hs
 have hQw:(qws ((List.range qs.length).map qf)).flatMap hd=ds.flatMap λc=>idq c.2:=by
  rw[qws,zfD,zcA,jX ds (none,[]),hd'.1];exact pY λi hi=>(hq i hi).hs
 have hZh:((List.range zs.length).map λi=>c1 i 0).flatMap hd=cs.flatMap λc=>oid c.1:=by
  rw[zcA,jX cs (none,[]),hc.1];exact pY λi hi=>(hz i hi).h
 have hQh:((List.range qs.length).map λi=>c2 i 0).flatMap hd=ds.flatMap λc=>oid c.1:=by
  rw[zcA,jX ds (none,[]),hd'.1];exact pY λi hi=>(hq i hi).h
 have hcnt:∀g,(XHL vZ vQ ((List.range zs.length).map λi=>c1 i 0) ((List.range qs.length).map λi=>c2 i 0) ((List.range zs.length).map zf) ((List.range qs.length).map qf)).count g<=(oid o2++(oid o1++(cs.flatMap pid++ds.flatMap qid))).count g:=λg=>by
  have p1:(cs.flatMap pid).count g=_:=QC cs (λc=>oid c.1) (λc=>ids c.2) g;have p2:(ds.flatMap qid).count g=_:=QC ds (λc=>oid c.1) (λc=>idq c.2) g;simp only[XHL,zbc,zbF,hZw,hQw,hZh,hQh,p1,p2,e1,e2,AZ];omega
 refine⟨(List.range zs.length).map λi=>c1 i 0,(List.range qs.length).map λi=>c2 i 0,(List.range zs.length).map zf,(List.range qs.length).map qf,⟨by simp,by simp,by simp,by simp,λD' M=>?_,λD' M=>?_,λv hv=>?_,λv hv=>?_,λi z hi=>?_,λi z hi=>?_,⟨by simp[nz],by simp[nq],λq hq'=>?_,λq hq'=>?_⟩,λv hv=>?_,λg=>?_,λg hg=>?_⟩⟩
 .have:=a1 D' E0 M λg c e=>(hn.2 g (by simp[I5 e])).1
  rw[pl,Gv]at this;exact this
 .have:=a2 D' E0 M λg c e=>(hn.2 g (by simp[I5 e])).1
  rw[ql,Gv]at this;exact this
 .obtain⟨i,hi,rfl⟩:=zaw.1 hv;exact cz1 i (zaK.1 hi)
 .obtain⟨i,hi,rfl⟩:=zaw.1 hv;exact cq1 i (zaK.1 hi)
 .obtain⟨hi',rfl⟩:=lH hi;replace hi:=hi';rw[show ((List.range zs.length).map λi=>c1 i 0).getD i Go.undef=c1 i 0 by simp[List.getD,hi]];exact(hz i hi).o
 .obtain⟨hi',rfl⟩:=lH hi;replace hi:=hi';rw[show ((List.range qs.length).map λi=>c2 i 0).getD i Go.undef=c2 i 0 by simp[List.getD,hi]];exact(hq i hi).o
 .obtain⟨i,hi,rfl⟩:=zaw.1 hq';have hi:=zaK.1 hi;rw[(hz i hi).len];have:=(sz i hi).2.1;omega
 .obtain⟨i,hi,rfl⟩:=zaw.1 hq';have hi:=zaK.1 hi;rw[(hq i hi).len];have:=(sq i hi).1;omega
 .rcases zap.1 hv with hv|hv
  .obtain⟨z,hz',hv⟩:=zcM.1 hv;obtain⟨i,hi,rfl⟩:=zaw.1 hz';have hi:=zaK.1 hi;obtain⟨x,hx,rfl⟩:=zaw.1 hv;obtain⟨j,hj⟩:=zba hx;obtain⟨r1,rows,r2,r3,r4⟩:=(hz i hi).ws j x hj;refine⟨r1,rows,?_,r3,r4⟩;rw[r2];have c0o:zl (cf (zs.getD i []) j)<=500:=(sz i hi).1 j;exact zad c0o (by omega)
  .obtain⟨z,hz',hv⟩:=zcM.1 hv;obtain⟨i,hi,rfl⟩:=zaw.1 hz';have hi:=zaK.1 hi;obtain⟨x,hx,hv⟩:=zcM.1 hv;obtain⟨j,hj⟩:=zba hx;have hj2:j<(qs.getD i []).length:=by rw[<-(hq i hi).len];exact(zao.1 hj).1
   have hs:=(sq i hi).2 _ (oz q0 hj2);obtain⟨⟨r1,rows,r2,r3,r4⟩,r1',rows',r2',r3',r4'⟩:=(hq i hi).ws j x hj;simp only[zaG,zaT,zco]at hv;rcases hv with rfl|rfl
   .exact⟨r1,rows,by rw[r2];exact hs.1.1,r3,r4⟩
   .exact⟨r1',rows',by rw[r2'];exact hs.2.1,r3',r4'⟩
 .have h1:=hcnt g;have h2:=List.nodup_iff_count.1 hn.1 g;rw[zbF]at h2;omega
 .have:=hcnt g;have h0:0<(XHL vZ vQ ((List.range zs.length).map λi=>c1 i 0) ((List.range qs.length).map λi=>c2 i 0) ((List.range zs.length).map zf) ((List.range qs.length).map qf)).count g:=zcp.2 hg;have hm:=zcp.1 (show 0<(oid o2++(oid o1++(cs.flatMap pid++ds.flatMap qid))).count g by omega);refine⟨hn.2 g (zaF _ hm),?_⟩;have i1:(IV.own o1 50 1 (jH cs zs)).ids=oid o1++cs.flatMap pid:=by rw[y9,uf hc]
  have i2:(IV.own o2 23 1 (uM ds qs)).ids=oid o2++ds.flatMap qid:=by rw[y9,xA hd']
  rcases zap.1 hm with hm|hm
  .exact(h2.ids g (by rw[i2];exact zbq _ hm)).1
  .rcases zap.1 hm with hm|hm
   .exact(h1.ids g (by rw[i1];exact zbq _ hm)).1
   .rcases zap.1 hm with hm|hm
    .exact(h1.ids g (by rw[i1];exact zaF _ hm)).1
    .exact(h2.ids g (by rw[i2];exact zaF _ hm)).1
end
section
variable {a b B B' e:Nat} {l:List Nat} {w:World} {v:Value} {D D0:Nat->Prop} {β:Nat->Value}
structure AX where
 (vZ vQ vN:Value)
 (hz hq:List Value)
 (Z:List (List ZX))
 (Q:List (List QX))
def AX.wk (x:AX):List Value:=zws x.Z++qws x.Q
def AX.HL (x:AX):List Nat:=XHL x.vZ x.vQ x.hz x.hq x.Z x.Q
def AX.fz (c:Nat)(x:AX)(i:Nat):KE:=(c+i+100+2000,x.hz.getD i Go.undef,.blk false 1 30 2 ((x.Z.getD i []).map zrw))
def AX.fq (c:Nat)(x:AX)(i:Nat):KE:=(c+i+200+2000,x.hq.getD i Go.undef,.blk false 1 32 3 ((x.Q.getD i []).map qrw))
def AX.top (c:Nat)(x:AX):List KE:=[(c+2000,x.vZ,.nst 1 50 (hzw c x.Z.length)),(c+1+2000,x.vQ,.nst 1 23 (hqw c x.Q.length)),(c+2002,default,.tie (.hs (c+2000) 1) x.vZ),(c+2003,default,.tie (.hs (c+1+2000) 1) x.vQ)]
def AX.K (c:Nat)(x:AX):List KE:=x.top c++((List.range x.Z.length).map (x.fz c)++(List.range x.Q.length).map (x.fq c))
def wdK (W:List Value)(X:Nat->List (List IV)):List KE:=(List.range W.length).map (λk=>((k+10000,W.getD k Go.undef,.blk false 1 148 1 (X k)):KE))++(List.range W.length).map λk=>((k+20000,default,.tie (.hw (k+10000) 1) (W.getD k Go.undef)):KE)
def Inc (lo hi:Nat)(l:List Nat):Prop:=l.Pairwise (· < ·)/\∀k∈l,lo<=k/\k<hi
theorem Inc.app {b' c:Nat}{m:List Nat}(h:Inc a b l)(k:Inc b' c m)(hb:b<=b')(hc:b<=c)(ha:a<=b'):Inc a c (l++m):=⟨List.pairwise_append.2 ⟨h.1,k.1,λx hx y hy=>by have:=h.2 x hx;have:=k.2 y hy;omega⟩,λx hx=>by
 rcases zap.1 hx with hx|hx
 .have:=h.2 x hx;omega
 .have:=k.2 x hx;omega⟩
theorem Bo (n:Nat)(f:Nat->Nat)(a:Nat)(hf:∀i,f i=i+a):Inc a (a+n) ((List.range n).map f):=⟨List.pairwise_map.2 (List.pairwise_lt_range.imp λ{i j} h=>by rw[hf,hf];omega),λk hk=>by
 obtain⟨i,hi,rfl⟩:=zaw.1 hk;have:=zaK.1 hi;rw[hf];omega⟩
theorem Inc.nodup (h:Inc a b l):l.Nodup:=h.1.imp λh=>Nat.ne_of_lt h
def AX.inc (c:Nat)(x:AX)(hz:x.Z.length<=50)(hq:x.Q.length<=50):Inc (c+2000) (c+3000) ((x.K c).map (·.1)):=by
 have t:Inc (c+2000) (c+2004) ((x.top c).map (·.1)):=by
  refine⟨?_,?_⟩
  .simp only[AX.top,zaC,zbv,List.pairwise_cons,zaG,zaT,zco,zdv,zfg,false_implies,implies_true,List.Pairwise.nil,zdA];omega
  .simp only[AX.top,zaC,zbv,zaG,zaT,zco,zdv,zfg];omega
 have z:=Bo x.Z.length (λi=>c+i+100+2000) (c+2100) λi=>by omega
 have q:=Bo x.Q.length (λi=>c+i+200+2000) (c+2200) λi=>by omega
 rw[AX.K,zav,zav,zb2,zb2];have r:=t.app (z.app q (by omega) (by omega) (by omega)) (by omega) (by omega) (by omega);exact⟨r.1,λk hk=>by have:=r.2 k hk;omega⟩
def a9M (W:List Value)(X:Nat->List (List IV))(h:W.length<=10000):Inc 10000 30000 ((wdK W X).map (·.1)):=by
 rw[wdK,zav,zb2,zb2];have z:=Bo W.length (λi=>i+10000) 10000 λi=>rfl
 have q:=Bo W.length (λi=>i+20000) 20000 λi=>rfl
 have r:=z.app q (by omega) (by omega) (by omega);exact⟨r.1,λk hk=>by have:=r.2 k hk;omega⟩
theorem a1R (k:Nat)(v:Value)(st e sz:Nat)(rows:List (List IV)):mhd (k,v,.blk false st e sz rows)=hd v:=rfl
theorem b1k (k:Nat)(v:Value)(st e:Nat)(rows:List AV):mhd (k,v,.nst st e rows)=hd v:=rfl
theorem TW (k:Nat)(v:Value)(x:AV)(u:Value):mhd (k,v,.tie x u)=[]:=rfl
theorem b1l (k:Nat)(v:Value)(B:Nat):mhd (k,v,.mrk B)=[]:=rfl
def AX.heads (c:Nat)(x:AX)(hz:x.hz.length=x.Z.length)(hq:x.hq.length=x.Q.length):(x.K c).flatMap mhd=hd x.vZ++(hd x.vQ++(x.hz.flatMap hd++x.hq.flatMap hd)):=by
 rw[AX.K,zbc,zbc,zcA,zcA,jX x.hz Go.undef,jX x.hq Go.undef,hz,hq];simp only[AX.top,zbu,zdy,b1k,TW,zbr,zaR];rfl
def Zn (W:List Value)(X:Nat->List (List IV)):(wdK W X).flatMap mhd=W.flatMap hd:=by
 rw[wdK,zbc,zcA,zcA,jX W Go.undef];simp only[a1R,TW];rw[show (List.range W.length).flatMap (λ_=>([]:List Nat))=[] by simp,zbr]
theorem Vo {T:List KE}(hn:(T.map (·.1)).Nodup){c:Nat}{x:AX}(hs:∀e∈x.K c,e∈T):WK c x.Z x.Q x.vZ x.vQ (yJ T):=by
 refine⟨(Ae hn (hs _ (by simp[AX.K,AX.top];exact .inl rfl))).1,(Ae hn (hs _ (by simp[AX.K,AX.top];exact .inl rfl))).1,λi q hi=>?_,λi q hi=>?_,(Ae hn (v:=default) (hs _ (by simp[AX.K,AX.top]))).1,(Ae hn (v:=default) (hs _ (by simp[AX.K,AX.top]))).1⟩
 .have hlt:=(zao.1 hi).1;have:=(Gg hn (hs (x.fz c i) (zaF _ (zbq _ (zaw.2 ⟨i,zaK.2 hlt,rfl⟩))))).1;rw[AX.fz,show x.Z.getD i []=q by rw[List.getD,hi];rfl]at this;exact this
 .have hlt:=(zao.1 hi).1;have:=(Gg hn (hs (x.fq c i) (zaF _ (zaF _ (zaw.2 ⟨i,zaK.2 hlt,rfl⟩))))).1;rw[AX.fq,show x.Q.getD i []=q by rw[List.getD,hi];rfl]at this;exact this
theorem a8p {T:List KE}(hn:(T.map (·.1)).Nodup){W:List Value}{X:Nat->List (List IV)}(hs:∀e∈wdK W X,e∈T):∀k<W.length,yJ T (k+10000)=.blk false 1 148 1 (X k)/\yJ T (k+20000)=.tie (.hw (k+10000) 1) (W.getD k Go.undef)/\yY T (k+10000)=W.getD k Go.undef:=λk hk=>by
 have h1:=Ae hn (hs _ (zbq _ (zaw.2 ⟨k,zaK.2 hk,rfl⟩)));have h2:=Ae hn (hs _ (zaF _ (zaw.2 ⟨k,zaK.2 hk,rfl⟩)));exact⟨h1.1,h2.1,h1.2⟩
def a4V {T:List KE}{u:Nat}(h:u∉T.map (·.1)):yJ T u=.none:=by
 rcases lT T u with ⟨e,he,e1,_⟩|e
 .exact absurd (zaw.2 ⟨e,he,e1⟩) h
 .exact e
def JD.mono {sz:Nat}{rows:List (List IV)}(h:JD w B v e sz rows)(hB:B'<=B){D M:Nat->Prop}:AL.Own w D B' M v e sz rows:=by
 have:=h D M;refine⟨this.1,this.2.imp id ?_⟩;rintro⟨g,cap,cur,e1,e2,rest⟩;exact⟨g,cap,cur,e1,e2.imp (zad hB) id,rest⟩
theorem La {H:AL.Hp}:∀{xs:List AV} {vs:List Value},xs.length=vs.length->(∀(i:Nat) x v,xs[i]?=some x->vs[i]?=some v->ak w D H β x v)->aG w D H β xs vs
 |[],[],_,_=>by simp[aG]
 |x::xs,v::vs,hl,h=>by
  simp only[aG];exact⟨h 0 x v rfl rfl,La (by simpa using hl) λi y u h1 h2=>h (i+1) y u (by simpa using h1) (by simpa using h2)⟩
 |[],_::_,hl,_=>by simp at hl
 |_::_,[],hl,_=>by simp at hl
def a1x {H:AL.Hp}{hs:List Value}(h:JD w B v e 1 (jG hs))(hB:B'<=B){xs:List AV}(hl:xs.length=hs.length)(h1:∀v∈hs,v.oneCell'=true)(hx:∀(i:Nat) x v,xs[i]?=some x->hs[i]?=some v->ak w D H β x v){M:Nat->Prop}:Ob w D H β B' M v e xs:=by
 rcases (h.mono hB (D:=D) (M:=M)).2 with ⟨q1,q2⟩|⟨g,cap,cur,q1,q2,q3,q4,q5,q6,q7⟩
 .have:hs=[]:=by cases hs with
   |nil=>rfl
   |cons a l=>simp[jG]at q1
  subst this;exact .inl ⟨zbt hl,q2⟩
 .rw[qw]at q1 q4 q7;rw[zcU]at q6 q7;rw[XV]at q7;have e1:cur.toList.take hs.length=hs:=by
   have key:∀(us vs:List Value),dY w D (vs.map .raw) us->us=vs:=by
    intro us
    induction us with
    |nil=>intro vs h;cases vs with
     |nil=>rfl
     |cons a l=>exact h.elim
    |cons u us ih=>intro vs h;cases vs with
     |nil=>exact h.elim
     |cons a l =>
      obtain⟨h1,h2⟩:=h;cases h1;rw[ih l h2]
   exact key _ _ q7
  exact .inr ⟨g,cap,cur,by rw[hl];exact q1,q2,q3,by rw[hl];exact q4,q5,q6,by rw[hl,e1];exact La hl hx,by rw[hl,e1];exact h1⟩
def AX.ok {T:List KE}(hn:(T.map (·.1)).Nodup){c:Nat}{x:AX}(hs:∀e∈x.K c,e∈T){E0 E nz nq B:Nat}{M:Nat->Prop}(hx:XA w D E0 E nz nq x.vZ x.vQ x.hz x.hq x.Z x.Q)(hB:B<=E0):∀e∈x.K c,EOk w (DD (yJ T) (yY T) D0) (yJ T) (yY T) B M e:=by
 have hw:=Vo hn hs;have hb1:yY T (c+2000)=x.vZ:=(Ae hn (hs (c+2000,x.vZ,_) (by simp[AX.K,AX.top];exact .inl rfl))).2;have hb2:yY T (c+1+2000)=x.vQ:=(Ae hn (hs (c+1+2000,x.vQ,_) (by simp[AX.K,AX.top];exact .inl rfl))).2;have hfz:∀i<x.Z.length,yY T (c+i+100+2000)=x.hz.getD i Go.undef:=λi hi=>(Gg hn (hs (x.fz c i) (zaF _ (zbq _ (zaw.2 ⟨i,zaK.2 hi,rfl⟩))))).2
 have hfq:∀i<x.Q.length,yY T (c+i+200+2000)=x.hq.getD i Go.undef:=λi hi=>(Gg hn (hs (x.fq c i) (zaF _ (zaF _ (zaw.2 ⟨i,zaK.2 hi,rfl⟩))))).2
 intro e he;rcases zap.1 he with he|he
 .simp only[AX.top,zaG,zaT,zco]at he;rcases he with rfl|rfl|rfl|rfl
  .refine a1x hx.oZ hB (by rw[Ik,hx.zl,hx.zl2]) hx.cz λi y v hy hv=>?_;obtain⟨hi,rfl⟩:=lH hy;simp only[ak,hw.2.2.1 i _ (zaf hi),HC.stamp,hfz i hi];exact⟨zab _,λ_=>by rw[List.getD,hv];rfl⟩
  .refine a1x hx.oQ hB (by rw[Nb,hx.ql,hx.ql2]) hx.cq λi y v hy hv=>?_;obtain⟨hi,rfl⟩:=lH hy;simp only[ak,hw.2.2.2.1 i _ (zaf hi),HC.stamp,hfq i hi];exact⟨zab _,λ_=>by rw[List.getD,hv];rfl⟩
  .show ak w (DD (yJ T) (yY T) D0) (yJ T) (yY T) (.hs (c+2000) 1) x.vZ;simp only[ak,hw.1,HC.stamp,hb1];exact⟨zab _,λ_=>zar⟩
  .show ak w (DD (yJ T) (yY T) D0) (yJ T) (yY T) (.hs (c+1+2000) 1) x.vQ;simp only[ak,hw.2.1,HC.stamp,hb2];exact⟨zab _,λ_=>zar⟩
 .rcases zap.1 he with he|he
  .obtain⟨i,hi,rfl⟩:=zaw.1 he;have hi:=zaK.1 hi;exact(hx.pz i _ (getD_some [] hi)).mono hB
  .obtain⟨i,hi,rfl⟩:=zaw.1 he;have hi:=zaK.1 hi;exact(hx.pq i _ (getD_some [] hi)).mono hB
def b3z {T:List KE}(hn:(T.map (·.1)).Nodup){W:List Value}{X:Nat->List (List IV)}(hs:∀e∈wdK W X,e∈T){B:Nat}{M:Nat->Prop}(hX:∀k<W.length,JD w B (W.getD k Go.undef) 148 1 (X k)):∀e∈wdK W X,EOk w (DD (yJ T) (yY T) D0) (yJ T) (yY T) B M e:=by
 have hw:=a8p hn hs;intro e he;rcases zap.1 he with he|he
 .obtain⟨i,hi,rfl⟩:=zaw.1 he;exact(hX i (zaK.1 hi)).mono (zab _)
 .obtain⟨i,hi,rfl⟩:=zaw.1 he;have hi:=zaK.1 hi;show ak w (DD (yJ T) (yY T) D0) (yJ T) (yY T) (.hw (i+10000) 1) (W.getD i Go.undef);simp only[ak,(hw i hi).1,HC.stamp,(hw i hi).2.2];exact⟨zab _,λ_=>zar⟩
end
section
variable {G:Gh} {M:Nat->Prop}
def SA (y:C14)(p1 p2 r1 r2:Value)(f:AL.Fr)(H:AL.Hp):Prop :=
 (f 1=.hp 1 1 0 0/\f 3=.hp 3 1 0 0/\f 4=.hp 4 1 0 0/\f 2=.iv (.bool false)/\f 5=.iv (.sl (dN y.F))/\f 6=.iv (.sl (dN y.G))/\f 7=.iv (.sl (gI y.L)))/\H 1=.blk false 1 113 6 [kC y] /\
 H 3=.blk false 1 116 3 [[.raw p1,.raw p2,.sl (jl y.P)]]/\H 4=.blk false 1 116 3 [[.raw r1,.raw r2,.sl (jl y.R)]]/\kJ 0 y.P p1 p2 H/\kJ 100 y.R r1 r2 H
def SB0 (y:C14)(b1 b3 b4:Value)(X1:Nat->Prop)(f:AL.Fr)(H:AL.Hp):Prop :=
 (f 1=.hp 1 1 0 0/\f 3=.hp 3 1 0 0/\f 4=.hp 4 1 0 0/\f 2=.iv (.bool false)/\f 5=.iv (.av X1 (.sl (dN y.F)))/\f 6=.iv (.av X1 (.sl (dN y.G)))/\f 7=.iv (.av X1 (.sl (gI y.L))))/\H 1=.blk true 1 113 6 [kC y] /\
 (∃x2 x3,H 3=.blk true 1 116 3 [[.sl (bZ y.P),x2,x3]])/\(∃x2 x3,H 4=.blk true 1 116 3 [[.sl (bZ y.R),x2,x3]])/\H 991=.tie (.hs 1 1) b1/\H 993=.tie (.hs 3 1) b3/\H 994=.tie (.hs 4 1) b4
section
variable {N:Nat} {w0 w:World} {D0:Nat->Prop} {f:AL.Fr} {H:AL.Hp} {β:Nat->Value} {a:Act}
theorem dd0 {b:Nat}{H':AL.Hp}{β':Nat->Value}(hm:∀h,¬(H' h).bI)(h:DD H' β' D0 b):D0 b:=h.elim id λ⟨k,hk,_⟩=>(hm k hk).elim
theorem wO (R:Rel G M w0 D0 N f H β a w){h g:Nat}(hm:(H h).bI)(hg:aF (β h)=some g):¬D0 g:=λhd=>by
 rcases (R.iG hm hg).2 with h|h
 .have:=(R.old g hd).1;omega
 .exact(R.old g hd).2 h
def a0s (R:Rel G M w0 D0 N f H β a w){c:Nat}{p:List RI}{v1 v2:Value}(h:kJ c p v1 v2 H):Rep w D0 (.sl (bZ p)) v1:=by
 have ht:=R.tie _ _ _ h.2.1;have hv:jZ w (DD H β D0) H β [.hv (c+1500) 1 0 p.length] [v1]:=.cons ht .nil;have hs:=kW R hv (c:=(1=1/\0+p.length<=(bZ (p++[m4])).length)/\True) (ys:=[.iv (.sl (((bZ (p++[m4])).drop 0).take p.length))]) (ms:=[c+1500]++[]) (by simp only[gV,qU,h.1]) ⟨⟨rfl,by rw[Au];omega⟩,zar⟩;have h1:Rep w _ (.sl (((bZ (p++[m4])).drop 0).take p.length)) v1:=hs.1;rw[zc5,show (bZ (p++[m4])).take p.length=bZ p by simp[bZ]]at h1;exact h1.mono (bD.of_sub λb hb=>.inl hb)
def Gt (R:Rel G M w0 D0 N f H β a w){h c:Nat}{p:List RI}{v1 v2:Value}(hH:H h=.blk false 1 116 3 [[.raw v1,.raw v2,.sl (jl p)]])(hr:kJ c p v1 v2 H):AL.Own w D0 w0.heap.size M (β h) 116 3 [[.sl (bZ p),.raw v2,.sl (jl p)]]:=by
 refine⟨by simp,?_⟩;rcases (R.own _ _ _ _ _ hH).2 with ⟨q,_⟩|⟨g,cap,cur,q1,q2,q3,q4,q5,q6,q7⟩
 .cases q
 .refine .inr ⟨g,cap,cur,q1,q2,q3,q4,q5,q6,?_⟩;simp only[zbI,zdu,zbr]at q7 ⊢;simp only[zaL,zb9]at q7 ⊢;generalize List.take _ cur.toList=cs at q7
  match cs,q7 with
  |[a1,a2,a3],⟨m1,m2,m3,_⟩ =>
   cases m1;exact⟨a0s R hr,m2.mono (bD.of_sub λb hb=>.inl hb),m3.mono (bD.of_sub λb hb=>.inl hb),zar⟩
def b7A (R:Rel G0 M0 w0 D0 N f H β a w){y:C14}{p1 p2 r1 r2:Value}(h:SA y p1 p2 r1 r2 f H):∃f' H',(SB0 y (β 1) (β 3) (β 4) (λb=>DD H β D0 b\/w.heap.size<=b) f' H'/\H' 999=.mrk w.heap.size/\H' 8=.none/\H' 9=.none/\H' 11=.none)/\Rel G0 M0 w D0 N f' H' β a w:=by
 obtain⟨⟨h1,h3,h4,h2,h5,h6,h7⟩,hH1,hH3,hH4,kP,kR⟩:=h;obtain⟨H',hH'⟩:∃H':AL.Hp,H'=λu=>if u=1 then .blk true 1 113 6 [kC y] else if u=3 then .blk true 1 116 3 [[.sl (bZ y.P),.raw p2,.sl (jl y.P)]] else if u=4 then .blk true 1 116 3 [[.sl (bZ y.R),.raw r2,.sl (jl y.R)]] else if u=991 then .tie (.hs 1 1) (β 1) else if u=993 then .tie (.hs 3 1) (β 3) else if u=994 then .tie (.hs 4 1) (β 4) else if u=999 then .mrk w.heap.size else .none:=⟨_,rfl⟩
 have a1:H' 1=.blk true 1 113 6 [kC y]:=by rw[hH'];rfl
 have a3:H' 3=.blk true 1 116 3 [[.sl (bZ y.P),.raw p2,.sl (jl y.P)]]:=by rw[hH'];rfl
 have a4:H' 4=.blk true 1 116 3 [[.sl (bZ y.R),.raw r2,.sl (jl y.R)]]:=by rw[hH'];rfl
 have t1:H' 991=.tie (.hs 1 1) (β 1):=by rw[hH'];rfl
 have t3:H' 993=.tie (.hs 3 1) (β 3):=by rw[hH'];rfl
 have t4:H' 994=.tie (.hs 4 1) (β 4):=by rw[hH'];rfl
 have a9:H' 999=.mrk w.heap.size:=by rw[hH'];rfl
 have z8:H' 8=.none/\H' 9=.none/\H' 11=.none:=by rw[hH'];exact⟨rfl,rfl,rfl⟩
 have cls:∀u,u=1\/u=3\/u=4\/u=991\/u=993\/u=994\/u=999\/H' u=.none:=λu=>by
  by_cases c1:u=1
  .exact .inl c1
  by_cases c2:u=3
  .exact .inr (.inl c2)
  by_cases c3:u=4
  .exact .inr (.inr (.inl c3))
  by_cases c4:u=991
  .exact .inr (.inr (.inr (.inl c4)))
  by_cases c5:u=993
  .exact .inr (.inr (.inr (.inr (.inl c5))))
  by_cases c6:u=994
  .exact .inr (.inr (.inr (.inr (.inr (.inl c6)))))
  by_cases c7:u=999
  .exact .inr (.inr (.inr (.inr (.inr (.inr (.inl c7))))))
  .exact .inr (.inr (.inr (.inr (.inr (.inr (.inr (by rw[hH'];simp only;rw[if_neg c1,if_neg c2,if_neg c3,if_neg c4,if_neg c5,if_neg c6,if_neg c7])))))))
 clear hH';have hm:∀u,¬(H' u).bI:=λu hu=>by
  rcases cls u with rfl|rfl|rfl|rfl|rfl|rfl|rfl|e
  .rw[a1]at hu;exact hu.elim
  .rw[a3]at hu;exact hu.elim
  .rw[a4]at hu;exact hu.elim
  .rw[t1]at hu;exact hu.elim
  .rw[t3]at hu;exact hu.elim
  .rw[t4]at hu;exact hu.elim
  .rw[a9]at hu;exact hu.elim
  .rw[e]at hu;exact hu.elim
 have m1:(H 1).bI:=by rw[hH1];trivial
 have m3:(H 3).bI:=by rw[hH3];trivial
 have m4':(H 4).bI:=by rw[hH4];trivial
 obtain⟨X1,hX1⟩:∃X1:Nat->Prop,X1=λb=>DD H β D0 b\/w.heap.size<=b:=⟨_,rfl⟩
 have av:∀{x:IV} {v:Value},Rep w (DD H β D0) x v->Rep w (DD H' β D0) (.av X1 x) v:=λhr=>by
  refine .av _ _ _ (hr.fresh.mono (bD.of_sub λb hb=>?_));rw[hX1]at hb;rcases hb with hb|hb
  .exact .inl (.inl (dd0 hm hb))
  .exact hb
 have hp:∀t e sz row,f t=.hp t 1 0 0->H t=.blk false 1 e sz [row]->(∃e' row',H' t=.blk true 1 e' sz [row'])->ak w (DD H' β D0) H' β (.hp t 1 0 0) (a.tmps.getD t Go.undef):=λt e sz row h1 h2 h3=>by
  obtain⟨e',row',h3⟩:=h3;have hx:=R.tmps t;rw[h1]at hx;simp only[ak,h2,h3,HC.stamp,HC.esz]at hx ⊢;exact hx
 obtain⟨f',hf'⟩:∃f':AL.Fr,f'=λt=>if t=5 then .iv (.av X1 (.sl (dN y.F))) else if t=6 then .iv (.av X1 (.sl (dN y.G))) else if t=7 then .iv (.av X1 (.sl (gI y.L))) else if t=1\/t=3\/t=4\/t=2 then f t else .dead:=⟨_,rfl⟩
 rw[<-hX1];refine⟨f',H',⟨⟨⟨by rw[hf'];exact h1,by rw[hf'];exact h3,by rw[hf'];exact h4,by rw[hf'];exact h2,by rw[hf'];rfl,by rw[hf'];rfl,by rw[hf'];rfl⟩,a1,⟨_,_,a3⟩,⟨_,_,a4⟩,t1,t3,t4⟩,a9,z8⟩,Rel.b3N R.nD (R.rnd rfl) (λb hb=>Nat.lt_of_lt_of_le (R.old b hb).1 R.size) hm (λt=>?_) (λu st e sz rows hu=>?_) (λu B hu=>?_) (λu x v hu=>?_)⟩
 .rw[hf'];show ak _ _ _ _ (if t=5 then .iv (.av X1 (.sl (dN y.F))) else if t=6 then .iv (.av X1 (.sl (dN y.G))) else if t=7 then .iv (.av X1 (.sl (gI y.L))) else if t=1\/t=3\/t=4\/t=2 then f t else .dead) _;split
  .rename_i e;subst e;have hx:=R.tmps 5;rw[h5]at hx;exact av hx
  .split
   .rename_i e;subst e;have hx:=R.tmps 6;rw[h6]at hx;exact av hx
   .split
    .rename_i e;subst e;have hx:=R.tmps 7;rw[h7]at hx;exact av hx
    .split
     .rename_i e;rcases e with rfl|rfl|rfl|rfl
      .rw[h1];exact hp 1 _ _ _ h1 hH1 ⟨_,_,a1⟩
      .rw[h3];exact hp 3 _ _ _ h3 hH3 ⟨_,_,a3⟩
      .rw[h4];exact hp 4 _ _ _ h4 hH4 ⟨_,_,a4⟩
      .have hx:=R.tmps 2;rw[h2]at hx ⊢;simp only[ak]at hx ⊢;exact hx.flat trivial
     .simp[ak]
 .rcases cls u with rfl|rfl|rfl|rfl|rfl|rfl|rfl|e'
  .rw[a1]at hu;cases hu;have ho:=R.own _ _ _ _ _ hH1;exact⟨ho.1,ho.rep (λb hb=>.inl (dd0 hm hb)) λg hg hb=>wO R m1 hg (dd0 hm hb),ho.b5O⟩
  .rw[a3]at hu;cases hu;have ho:=Gt R hH3 kP;exact⟨ho.1,ho.rep (λb hb=>dd0 hm hb) λg hg hb=>wO R m3 hg (dd0 hm hb),ho.b5O⟩
  .rw[a4]at hu;cases hu;have ho:=Gt R hH4 kR;exact⟨ho.1,ho.rep (λb hb=>dd0 hm hb) λg hg hb=>wO R m4' hg (dd0 hm hb),ho.b5O⟩
  .rw[t1]at hu;cases hu
  .rw[t3]at hu;cases hu
  .rw[t4]at hu;cases hu
  .rw[a9]at hu;cases hu
  .rw[e']at hu;cases hu
 .rcases cls u with rfl|rfl|rfl|rfl|rfl|rfl|rfl|e'
  .rw[a1]at hu;cases hu
  .rw[a3]at hu;cases hu
  .rw[a4]at hu;cases hu
  .rw[t1]at hu;cases hu
  .rw[t3]at hu;cases hu
  .rw[t4]at hu;cases hu
  .rw[a9]at hu;cases hu;exact Nat.le_refl _
  .rw[e']at hu;cases hu
 .rcases cls u with rfl|rfl|rfl|rfl|rfl|rfl|rfl|e'
  .rw[a1]at hu;cases hu
  .rw[a3]at hu;cases hu
  .rw[a4]at hu;cases hu
  .rw[t1]at hu;cases hu;simp only[ak,a1,HC.stamp];exact⟨Nat.le_refl _,λ_=>trivial⟩
  .rw[t3]at hu;cases hu;simp only[ak,a3,HC.stamp];exact⟨Nat.le_refl _,λ_=>trivial⟩
  .rw[t4]at hu;cases hu;simp only[ak,a4,HC.stamp];exact⟨Nat.le_refl _,λ_=>trivial⟩
  .rw[a9]at hu;cases hu
  .rw[e']at hu;cases hu
end
end
section
variable {v:Value}
def b2T (zs:List (List Int))(qs:List (List RQ))(ns:List Int)(B E:Nat)(row:List IV):Prop:=∃(o1 o2 o3:OB) (cs:List OP) (ds:List OQ),row=[.own o1 50 1 (jH cs zs),.own o2 23 1 (uM ds qs),.own o3 3 1 (iL ns)]/\POk cs zs/\QOk ds qs/\Nw B E (oid o3++(oid o2++(oid o1++(cs.flatMap pid++ds.flatMap qid))))
def SBm (y:C14)(b1 b3 b4:Value)(X1:Nat->Prop)(E:Nat)(f:AL.Fr)(H:AL.Hp):Prop :=
 SB0 y b1 b3 b4 X1 f H/\(f 8=.hp 8 1 0 0/\f 9=.hp 9 1 0 0/\f 11=.hp 11 1 0 0)/\∃b6M b6L b0h E0 E1 E2 E3 E4 E5,(E<=E0/\E0<=E1/\E1<=E2/\E2<=E3/\E3<=E4/\E4<=E5) /\
  (b2T (sZ y.P y.R y.L) (sQ y.F y.G) (sN y.P y.R y.F y.G) E0 E1 b6M/\H 8=.blk false 1 120 3 [b6M])/\(b2T (sZ y.P y.R y.L) (sQ y.F y.G) (sN y.P y.R y.F y.G) E2 E3 b6L/\H 9=.blk false 1 120 3 [b6L]) /\
  (b2T (sZ y.R y.P y.L) (sQ y.G y.F) (sN y.R y.P y.G y.F) E4 E5 b0h/\H 11=.blk false 1 120 3 [b0h])
def W3 (x0 x1 x2:AX):List Value:=(x0.wk++x1.wk)++x2.wk
def c0A (W:List Value)(X:Nat->List (List IV))(H:AL.Hp):Prop:=∀k<W.length,H (k+10000)=.blk false 1 148 1 (X k)/\H (k+20000)=.tie (.hw (k+10000) 1) (W.getD k Go.undef)
structure SC (y:C14) (p1 p2 r1 r2:Value) (x0 x1 x2:AX) (X:Nat->List (List IV)) (E:Nat) (f:AL.Fr) (H:AL.Hp):Prop where
 f1:f 1=.hp 1 1 0 0
 f2:f 2=.iv (.bool false)
 f3:f 3=.hp 3 1 0 0
 f4:f 4=.hp 4 1 0 0
 f5:f 5=.iv (.sl (dN y.F))
 f6:f 6=.iv (.sl (dN y.G))
 f7:f 7=.iv (.sl (gI y.L))
 f8:f 8=.hp 8 1 0 0
 f9:f 9=.hp 9 1 0 0
 f11:f 11=.hp 11 1 0 0
 h1:H 1=.blk false 1 113 6 [kC y]
 h3:H 3=.blk false 1 116 3 [[.raw p1,.raw p2,.sl (jl y.P)]]
 h4:H 4=.blk false 1 116 3 [[.raw r1,.raw r2,.sl (jl y.R)]]
 h8:H 8=.blk false 1 120 3 [[.raw x0.vZ,.raw x0.vQ,.raw x0.vN]]
 h9:H 9=.blk false 1 120 3 [[.raw x1.vZ,.raw x1.vQ,.raw x1.vN]]
 h11:H 11=.blk false 1 120 3 [[.raw x2.vZ,.raw x2.vQ,.raw x2.vN]]
 Oa:H 999=.mrk E
 kP:kJ 0 y.P p1 p2 H
 kR:kJ 100 y.R r1 r2 H
 w0:WK 0 x0.Z x0.Q x0.vZ x0.vQ H
 w1:WK 1000 x1.Z x1.Q x1.vZ x1.vQ H
 w2:WK 2000 x2.Z x2.Q x2.vZ x2.vQ H
 wd:c0A (W3 x0 x1 x2) X H
 n0:H 2050=.none
 n1:H 3050=.none
 n2:H 4050=.none
structure SCk (x0 x1 x2:AX) (X:Nat->List (List IV)):Prop where
 o0:WOk x0.Z x0.Q
 o1:WOk x1.Z x1.Q
 o2:WOk x2.Z x2.Q
 l:(x0.Z.length=9/\x0.Q.length=5)/\(x1.Z.length=9/\x1.Q.length=5)/\x2.Z.length=9/\x2.Q.length=5
 wl:(W3 x0 x1 x2).length<=10000
 X:∀k<(W3 x0 x1 x2).length,(X k).length<=1099511627776/\∀r∈X k,r.length=1
def KO (y:C14)(p1 p2 r1 r2:Value)(x0 x1 x2:AX)(E:Nat)(b1 b3 b4 b8 b9 b11 bP bR:Value):List KE :=
 [(1,b1,.blk false 1 113 6 [kC y]),(3,b3,.blk false 1 116 3 [[.raw p1,.raw p2,.sl (jl y.P)]]),(4,b4,.blk false 1 116 3 [[.raw r1,.raw r2,.sl (jl y.R)]]),
  (8,b8,.blk false 1 120 3 [[.raw x0.vZ,.raw x0.vQ,.raw x0.vN]]),(9,b9,.blk false 1 120 3 [[.raw x1.vZ,.raw x1.vQ,.raw x1.vN]]),(11,b11,.blk false 1 120 3 [[.raw x2.vZ,.raw x2.vQ,.raw x2.vN]]),(999,default,.mrk E),
  (1500,bP,.blk false 1 30 2 (bZ (y.P++[m4]))),(1501,default,.tie (.hv 1500 1 0 y.P.length) p1),(1502,default,.tie (.hs 1500 1) p2),(1600,bR,.blk false 1 30 2 (bZ (y.R++[m4]))),(1601,default,.tie (.hv 1600 1 0 y.R.length) r1),(1602,default,.tie (.hs 1600 1) r2)]
theorem b1C (v:Value)(g:Nat):(hd v).count g<=1:=by
 unfold hd;split
 .rename_i k _;by_cases e:k=g
  .subst e;simp
  .rw[List.count_eq_zero_of_not_mem (by simp;exact λh=>e h.symm)];omega
 .simp
theorem yN {g:Nat}(h:0<(hd v).count g):aF v=some g:=a1T.1 (zcp.1 h)
def nN {u:Value}(g:Nat)(h:∀g,aF u=some g->aF v≠some g):(hd u).count g+(hd v).count g<=1:=by
 have:=b1C u g;have:=b1C v g;by_cases h1:0<(hd u).count g
 .have:¬0<(hd v).count g:=λh2=>h g (yN h1) (yN h2)
  omega
 .omega
def a6I (y:C14)(p1 p2 r1 r2:Value)(x0 x1 x2:AX)(E:Nat)(b1 b3 b4 b8 b9 b11 bP bR:Value)(g:Nat):((KO y p1 p2 r1 r2 x0 x1 x2 E b1 b3 b4 b8 b9 b11 bP bR).flatMap mhd).count g=(hd b1).count g+(hd b3).count g+(hd b4).count g+(hd b8).count g+(hd b9).count g+(hd b11).count g+(hd bP).count g+(hd bR).count g:=by
 simp only[KO,zbu,zdy,a1R,b1l,TW,zbF,List.count_nil];omega
def b4u (y:C14)(p1 p2 r1 r2:Value)(x0 x1 x2:AX)(E:Nat)(b1 b3 b4 b8 b9 b11 bP bR:Value):Inc 1 1603 ((KO y p1 p2 r1 r2 x0 x1 x2 E b1 b3 b4 b8 b9 b11 bP bR).map (·.1)):=by
 simp only[KO,zaC,zbv];exact⟨by decide,by decide⟩
section
variable {N:Nat} {w0 w:World} {D0:Nat->Prop} {f:AL.Fr} {H:AL.Hp} {β:Nat->Value} {a:Act}
def LY (R:Rel G0 M0 w0 D0 N f H β a w){h e:Nat}{x1 x2 x3:IV}(hH:H h=.blk false 1 e 3 [[x1,x2,x3]]):∃a b c,Rep w (DD H β D0) x1 a/\Rep w (DD H β D0) x2 b/\Rep w (DD H β D0) x3 c/\JD w w0.heap.size (β h) e 3 [[.raw a,.raw b,.raw c]]:=by
 rcases (R.own _ _ _ _ _ hH).2 with ⟨q,_⟩|⟨g,cap,cur,q1,q2,q3,q4,q5,q6,q7⟩
 .cases q
 .simp only[zbI,zdu,zbr,zaL,zb9]at q7;generalize hc:List.take _ cur.toList=cs at q7
  match cs,q7 with
  |[a1,a2,a3],⟨m1,m2,m3,_⟩ =>
   refine⟨a1,a2,a3,m1,m2,m3,λD' M=>⟨by simp,.inr ⟨g,cap,cur,q1,.inl (q2.elim id λh=>h.elim),q3,q4,q5,q6,?_⟩⟩⟩;simp only[zbI,zdu,zbr,zaL,zb9];rw[hc];exact⟨.raw _ m1.one,.raw _ m2.one,.raw _ m3.one,zar⟩
end
end
def TC (y:C14)(p1 p2 r1 r2:Value)(x0 x1 x2:AX)(E:Nat)(b1 b3 b4 b8 b9 b11 bP bR:Value)(X:Nat->List (List IV)):List KE :=
 KO y p1 p2 r1 r2 x0 x1 x2 E b1 b3 b4 b8 b9 b11 bP bR++(x0.K 0++(x1.K 1000++(x2.K 2000++wdK (W3 x0 x1 x2) X)))
def JI {x:AX}(h:WOk x.Z x.Q)(l:x.Z.length=9/\x.Q.length=5):x.wk.length<=2000:=by
 have h1:=RV h.zl;have h2:=a0K h.ql;rw[AX.wk,zaB];rw[l.1]at h1;rw[l.2]at h2;omega
theorem b5n {x0 x1 x2:AX}{P:Value->Prop}(h0:∀v∈x0.wk,P v)(h1:∀v∈x1.wk,P v)(h2:∀v∈x2.wk,P v):∀k<(W3 x0 x1 x2).length,P ((W3 x0 x1 x2).getD k Go.undef):=λk hk=>by
 rcases zap.1 (oz Go.undef hk) with h|h
 .rcases zap.1 h with h|h
  .exact h0 _ h
  .exact h1 _ h
 .exact h2 _ h
def b2q (c:Nat)(x:AX)(hz:x.hz.length=x.Z.length)(hq:x.hq.length=x.Q.length)(g:Nat):((x.K c).flatMap mhd).count g+(x.wk.flatMap hd).count g=x.HL.count g:=by
 rw[x.heads c hz hq,AX.HL,XHL,AX.wk];simp only[zbF];omega
theorem GX {l:List Nat}{a b:Nat}(h:Inc a b l){u:Nat}(hu:u<a\/b<=u):u∉l:=λhm=>by have:=h.2 u hm;omega
theorem NJ {c:Nat}{x:AX}{u:Nat}(hz:x.Z.length<=50)(hq:x.Q.length<=50)(hu:u=c+50+2000):u∉(x.K c).map (·.1):=λhm=>by
 rw[AX.K,zav,zav,zb2,zb2]at hm;rcases zap.1 hm with hm|hm
 .simp only[AX.top,zaC,zbv,zaG,zaT,zco]at hm;omega
 .rcases zap.1 hm with hm|hm
  .obtain⟨i,hi,e⟩:=zaw.1 hm;have e:c+i+100+2000=u:=e;omega
  .obtain⟨i,hi,e⟩:=zaw.1 hm;have e:c+i+200+2000=u:=e;omega
set_option maxHeartbeats 2000000 in
theorem b7z {N:Nat}{w0 w1 w2:World}{D0:Nat->Prop}{f1 f2:AL.Fr}{H1 H2:AL.Hp}{β1 β2:Nat->Value}{a1 a2:Act}(R1:Rel G0 M0 w0 D0 N f1 H1 β1 a1 w1){y:C14}{p1 p2 r1 r2:Value}(hA:SA y p1 p2 r1 r2 f1 H1)
  (R2:Rel G0 M0 w1 D0 N f2 H2 β2 a2 w2) (hB:SBm y (β1 1) (β1 3) (β1 4) (λb=>DD H1 β1 D0 b\/w1.heap.size<=b) w1.heap.size f2 H2)
  (z1:∀q∈sZ y.P y.R y.L,ZSm q) (z2:∀q∈sZ y.R y.P y.L,ZSm q) (q1:∀q∈sQ y.F y.G,BQ 50 (2^40) q) (q2:∀q∈sQ y.G y.F,BQ 50 (2^40) q) :
  ∃f3 H3 β3 x0 x1 x2 X E,SC y p1 p2 r1 r2 x0 x1 x2 X E f3 H3/\SCk x0 x1 x2 X/\Rel G0 M0 w0 D0 N f3 H3 β3 a2 w2:=by
 obtain⟨⟨g1,g3,g4,g2,g5,g6,g7⟩,hH1,hH3,hH4,kP,kR⟩:=hA;obtain⟨⟨⟨k1,k3,k4,k2,k5,k6,k7⟩,hB1,⟨y2,y3,hB3⟩,⟨y2',y3',hB4⟩,t1,t3,t4⟩,⟨k8,k9,k11⟩,b6M,b6L,b0h,E0,E1,E2,E3,E4,E5,⟨l0,l1,l2,l3,l4,l5⟩,⟨⟨o1,o2,o3,cs,ds,rfl,pc,qc,nw⟩,hB8⟩,⟨⟨o1',o2',o3',cs',ds',rfl,pc',qc',nw'⟩,hB9⟩,⟨b7X,b7W,b7V,cs'',ds'',rfl,b4j,b4a,b5P⟩,b7y⟩:=hB;obtain⟨c8a,c8b,c8c,m8a,m8b,m8c,ow8⟩:=LY R2 hB8;obtain⟨c9a,c9b,c9c,m9a,m9b,m9c,ow9⟩:=LY R2 hB9;obtain⟨c0u,c0t,c0s,b8b,b8a,b9F,b6U⟩:=LY R2 b7y;obtain⟨hz0,hq0,Z0,Q0,xa0⟩:=Ui m8a m8b pc qc nw (show 9<=50 by omega) (show 5<=50 by omega) z1 q1;obtain⟨hz1,hq1,Z1,Q1,xa1⟩:=Ui m9a m9b pc' qc' nw' (show 9<=50 by omega) (show 5<=50 by omega) z1 q1;obtain⟨hz2,hq2,Z2,Q2,xa2⟩:=Ui b8b b8a b4j b4a b5P (show 9<=50 by omega) (show 5<=50 by omega) z2 q2;obtain⟨x0,hx0⟩:∃x:AX,x=⟨c8a,c8b,c8c,hz0,hq0,Z0,Q0⟩:=⟨_,rfl⟩;obtain⟨x1,hx1⟩:∃x:AX,x=⟨c9a,c9b,c9c,hz1,hq1,Z1,Q1⟩:=⟨_,rfl⟩;obtain⟨x2,hx2⟩:∃x:AX,x=⟨c0u,c0t,c0s,hz2,hq2,Z2,Q2⟩:=⟨_,rfl⟩;replace xa0:XA w2 (DD H2 β2 D0) E0 E1 9 5 x0.vZ x0.vQ x0.hz x0.hq x0.Z x0.Q:=by rw[hx0];exact xa0
 replace xa1:XA w2 (DD H2 β2 D0) E2 E3 9 5 x1.vZ x1.vQ x1.hz x1.hq x1.Z x1.Q:=by rw[hx1];exact xa1
 replace xa2:XA w2 (DD H2 β2 D0) E4 E5 9 5 x2.vZ x2.vQ x2.hz x2.hq x2.Z x2.Q:=by rw[hx2];exact xa2
 replace ow8:JD w2 w1.heap.size (β2 8) 120 3 [[.raw x0.vZ,.raw x0.vQ,.raw x0.vN]]:=by rw[hx0];exact ow8
 replace ow9:JD w2 w1.heap.size (β2 9) 120 3 [[.raw x1.vZ,.raw x1.vQ,.raw x1.vN]]:=by rw[hx1];exact ow9
 replace b6U:JD w2 w1.heap.size (β2 11) 120 3 [[.raw x2.vZ,.raw x2.vQ,.raw x2.vN]]:=by rw[hx2];exact b6U
 clear hx0 hx1 hx2 m8a m8b m8c m9a m9b m9c b8b b8a b9F pc qc nw pc' qc' nw' b4j b4a b5P z1 z2 q1 q2;have ll:(x0.Z.length=9/\x0.Q.length=5)/\(x1.Z.length=9/\x1.Q.length=5)/\x2.Z.length=9/\x2.Q.length=5:=⟨⟨xa0.zl2,xa0.ql2⟩,⟨xa1.zl2,xa1.ql2⟩,xa2.zl2,xa2.ql2⟩;have wl:(W3 x0 x1 x2).length<=10000:=by
  have:=JI xa0.wo ll.1;have:=JI xa1.wo ll.2.1;have:=JI xa2.wo ll.2.2;rw[W3,List.length_append,List.length_append];omega
 have hX0:=b5n (x0:=x0) (x1:=x1) (x2:=x2) (P:=λv=>∃rows:List (List IV),rows.length<=1099511627776/\(∀r∈rows,r.length=1)/\JD w2 w1.heap.size v 148 1 rows)
  (λv hv=>by obtain⟨_,rows,e1,e2,e3⟩:=xa0.ws v hv;exact⟨rows,e1,e2,λD' M=>e3.mono (by omega)⟩) (λv hv=>by obtain⟨_,rows,e1,e2,e3⟩:=xa1.ws v hv;exact⟨rows,e1,e2,λD' M=>e3.mono (by omega)⟩) (λv hv=>by obtain⟨_,rows,e1,e2,e3⟩:=xa2.ws v hv;exact⟨rows,e1,e2,λD' M=>e3.mono (by omega)⟩)
 obtain⟨X,hX⟩:=Classical.axiomOfChoice (r:=λ(k:Nat) (rows:List (List IV))=>k<(W3 x0 x1 x2).length->rows.length<=1099511627776/\(∀r∈rows,r.length=1)/\JD w2 w1.heap.size ((W3 x0 x1 x2).getD k Go.undef) 148 1 rows) λk=>by
  by_cases hk:k<(W3 x0 x1 x2).length
  .obtain⟨rows,e⟩:=hX0 k hk;exact⟨rows,λ_=>e⟩
  .exact⟨[],λh=>absurd h hk⟩
 clear hX0;obtain⟨T,hT⟩:∃T,T=TC y p1 p2 r1 r2 x0 x1 x2 w2.heap.size (β1 1) (β1 3) (β1 4) (β2 8) (β2 9) (β2 11) (β1 1500) (β1 1600) X:=⟨_,rfl⟩;have iO:=b4u y p1 p2 r1 r2 x0 x1 x2 w2.heap.size (β1 1) (β1 3) (β1 4) (β2 8) (β2 9) (β2 11) (β1 1500) (β1 1600);have i0:=x0.inc 0 xa0.wo.z xa0.wo.q;have i1:=x1.inc 1000 xa1.wo.z xa1.wo.q;have i2:=x2.inc 2000 xa2.wo.z xa2.wo.q;have iW:=a9M (W3 x0 x1 x2) X wl;have inc:Inc 1 30000 (T.map (·.1)):=by
  rw[hT,TC,List.map_append,List.map_append,List.map_append,List.map_append];exact iO.app (i0.app (i1.app (i2.app iW (by omega) (by omega) (by omega)) (by omega) (by omega) (by omega)) (by omega) (by omega) (by omega)) (by omega) (by omega) (by omega)
 have hn:=inc.nodup;have sO:∀e∈KO y p1 p2 r1 r2 x0 x1 x2 w2.heap.size (β1 1) (β1 3) (β1 4) (β2 8) (β2 9) (β2 11) (β1 1500) (β1 1600),e∈T:=λe he=>by rw[hT];exact List.mem_append_left _ he
 have s0:∀e∈x0.K 0,e∈T:=λe he=>by rw[hT];exact List.mem_append_right _ (List.mem_append_left _ he)
 have s1:∀e∈x1.K 1000,e∈T:=λe he=>by rw[hT];exact List.mem_append_right _ (List.mem_append_right _ (List.mem_append_left _ he))
 have s2:∀e∈x2.K 2000,e∈T:=λe he=>by rw[hT];exact List.mem_append_right _ (List.mem_append_right _ (List.mem_append_right _ (List.mem_append_left _ he)))
 have sW:∀e∈wdK (W3 x0 x1 x2) X,e∈T:=λe he=>by rw[hT];exact List.mem_append_right _ (List.mem_append_right _ (List.mem_append_right _ (List.mem_append_right _ he)))
 have none:∀u,(u=2050\/u=3050\/u=4050)->yJ T u=.none:=λu hu=>by
  refine a4V λhm=>?_;rw[hT,TC,List.map_append,List.map_append,List.map_append,List.map_append]at hm;rcases List.mem_append.1 hm with hm|hm
  .exact GX iO (by omega) hm
  rcases List.mem_append.1 hm with hm|hm
  .by_cases e:u=0+50+2000
   .exact NJ xa0.wo.z xa0.wo.q e hm
   .exact GX i0 (by omega) hm
  rcases List.mem_append.1 hm with hm|hm
  .by_cases e:u=1000+50+2000
   .exact NJ xa1.wo.z xa1.wo.q e hm
   .exact GX i1 (by omega) hm
  rcases List.mem_append.1 hm with hm|hm
  .by_cases e:u=2000+50+2000
   .exact NJ xa2.wo.z xa2.wo.q e hm
   .exact GX i2 (by omega) hm
  .exact GX iW (by omega) hm
 obtain⟨H3,b4K⟩:∃H3,H3=yJ T:=⟨_,rfl⟩;obtain⟨β3,b5S⟩:∃β3,β3=yY T:=⟨_,rfl⟩;have tk:∀(k:Nat) (v:Value) (c:HC),(k,v,c)∈KO y p1 p2 r1 r2 x0 x1 x2 w2.heap.size (β1 1) (β1 3) (β1 4) (β2 8) (β2 9) (β2 11) (β1 1500) (β1 1600)->H3 k=c/\β3 k=v:=λk v c h=>by
  rw[b4K,b5S];exact Ae hn (sO _ h)
 have e1:=tk 1 _ _ (List.mem_of_getElem? (i:=0) rfl);have e3:=tk 3 _ _ (List.mem_of_getElem? (i:=1) rfl);have e4:=tk 4 _ _ (List.mem_of_getElem? (i:=2) rfl);have e8:=tk 8 _ _ (List.mem_of_getElem? (i:=3) rfl);have e9:=tk 9 _ _ (List.mem_of_getElem? (i:=4) rfl);have e11:=tk 11 _ _ (List.mem_of_getElem? (i:=5) rfl);have c0q:=tk 999 _ _ (List.mem_of_getElem? (i:=6) rfl);have eP:=tk 1500 _ _ (List.mem_of_getElem? (i:=7) rfl);have eP1:=tk 1501 _ _ (List.mem_of_getElem? (i:=8) rfl);have eP2:=tk 1502 _ _ (List.mem_of_getElem? (i:=9) rfl);have eR:=tk 1600 _ _ (List.mem_of_getElem? (i:=10) rfl);have eR1:=tk 1601 _ _ (List.mem_of_getElem? (i:=11) rfl);have eR2:=tk 1602 _ _ (List.mem_of_getElem? (i:=12) rfl)
 -- whose heads
 have m1:(H1 1).bI:=by rw[hH1];trivial
 have m3:(H1 3).bI:=by rw[hH3];trivial
 have m4:(H1 4).bI:=by rw[hH4];trivial
 have mP:(H1 1500).bI:=by rw[kP.1];trivial
 have mR:(H1 1600).bI:=by rw[kR.1];trivial
 have m8:(H2 8).bI:=by rw[hB8];trivial
 have m9:(H2 9).bI:=by rw[hB9];trivial
 have m11:(H2 11).bI:=by rw[b7y];trivial
 have hcnt:∀g,(T.flatMap mhd).count g=(hd (β1 1)).count g+(hd (β1 3)).count g+(hd (β1 4)).count g+(hd (β2 8)).count g+(hd (β2 9)).count g+(hd (β2 11)).count g+(hd (β1 1500)).count g+(hd (β1 1600)).count g+x0.HL.count g+x1.HL.count g+x2.HL.count g:=λg=>by
  have c0:=b2q 0 x0 (by rw[xa0.zl,xa0.zl2]) (by rw[xa0.ql,xa0.ql2]) g;have c1:=b2q 1000 x1 (by rw[xa1.zl,xa1.zl2]) (by rw[xa1.ql,xa1.ql2]) g;have c2:=b2q 2000 x2 (by rw[xa2.zl,xa2.zl2]) (by rw[xa2.ql,xa2.ql2]) g;rw[hT,TC,List.flatMap_append,List.flatMap_append,List.flatMap_append,List.flatMap_append,List.count_append,List.count_append,List.count_append,List.count_append,a6I,Zn,W3,List.flatMap_append,List.flatMap_append,List.count_append,List.count_append];omega
 have hlt:∀{h g:Nat},(H1 h).bI->0<(hd (β1 h)).count g->g<w1.heap.size:=λhm h=>(R1.iG hm (yN h)).1
 have hge:∀{h g:Nat},(H2 h).bI->0<(hd (β2 h)).count g->w1.heap.size<=g/\DD H2 β2 D0 g:=λhm h=>⟨(R2.iG hm (yN h)).2.elim id λh=>h.elim,.inr ⟨_,hm,yN h⟩⟩
 have hhd:∀g,(T.flatMap mhd).count g<=1:=λg=>by
  rw[hcnt g];have a1:=b1C (β1 1) g;have p2:=nN (u:=β1 1) (v:=β1 3) g (R1.dis 1 3 (by omega) m1 m3);have p3:=nN (u:=β1 1) (v:=β1 4) g (R1.dis 1 4 (by omega) m1 m4);have p4:=nN (u:=β1 1) (v:=β1 1500) g (R1.dis 1 1500 (by omega) m1 mP);have p5:=nN (u:=β1 1) (v:=β1 1600) g (R1.dis 1 1600 (by omega) m1 mR);have p6:=nN (u:=β1 3) (v:=β1 4) g (R1.dis 3 4 (by omega) m3 m4);have p7:=nN (u:=β1 3) (v:=β1 1500) g (R1.dis 3 1500 (by omega) m3 mP);have p8:=nN (u:=β1 3) (v:=β1 1600) g (R1.dis 3 1600 (by omega) m3 mR);have p9:=nN (u:=β1 4) (v:=β1 1500) g (R1.dis 4 1500 (by omega) m4 mP);have p10:=nN (u:=β1 4) (v:=β1 1600) g (R1.dis 4 1600 (by omega) m4 mR);have p11:=nN (u:=β1 1500) (v:=β1 1600) g (R1.dis 1500 1600 (by omega) mP mR);have q1:=nN (u:=β2 8) (v:=β2 9) g (R2.dis 8 9 (by omega) m8 m9);have q2:=nN (u:=β2 8) (v:=β2 11) g (R2.dis 8 11 (by omega) m8 m11);have q3:=nN (u:=β2 9) (v:=β2 11) g (R2.dis 9 11 (by omega) m9 m11);have n0:x0.HL.count g<=1:=xa0.nd g;have n1:x1.HL.count g<=1:=xa1.nd g;have n2:x2.HL.count g<=1:=xa2.nd g;have r0:0<x0.HL.count g->(E0<=g/\g<E1)/\¬DD H2 β2 D0 g:=λh=>xa0.rg g (List.count_pos_iff.1 h)
  have r1:0<x1.HL.count g->(E2<=g/\g<E3)/\¬DD H2 β2 D0 g:=λh=>xa1.rg g (List.count_pos_iff.1 h)
  have r2:0<x2.HL.count g->(E4<=g/\g<E5)/\¬DD H2 β2 D0 g:=λh=>xa2.rg g (List.count_pos_iff.1 h)
  have o1:=@hlt 1 g m1;have o3:=@hlt 3 g m3;have o4:=@hlt 4 g m4;have oP:=@hlt 1500 g mP;have oR:=@hlt 1600 g mR;have b8:=@hge 8 g m8;have b9:=@hge 9 g m9;have b11:=@hge 11 g m11;by_cases hdd:DD H2 β2 D0 g
  .have z0:¬0<x0.HL.count g:=λh=>(r0 h).2 hdd
   have z1:¬0<x1.HL.count g:=λh=>(r1 h).2 hdd
   have z2:¬0<x2.HL.count g:=λh=>(r2 h).2 hdd
   clear r0 r1 r2;simp only[hdd,and_true]at b8 b9 b11;omega
  .have z0:¬0<(hd (β2 8)).count g:=λh=>hdd (b8 h).2
   have z1:¬0<(hd (β2 9)).count g:=λh=>hdd (b9 h).2
   have z2:¬0<(hd (β2 11)).count g:=λh=>hdd (b11 h).2
   clear b8 b9 b11;simp only[hdd,not_false_eq_true,and_true]at r0 r1 r2;omega
 have ddT:∀b,DD H3 β3 D0 b->D0 b\/b∈T.flatMap mhd:=λb hb=>by rw[b4K,b5S]at hb;exact b4V hb
 have b8r:∀b,b<w1.heap.size->DD H3 β3 D0 b->DD H1 β1 D0 b:=λb hb hd3=>by
  rcases ddT b hd3 with h|h
  .exact .inl h
  .have h:=List.count_pos_iff.2 h;rw[hcnt b]at h;have r0:0<x0.HL.count b->(E0<=b/\b<E1)/\¬DD H2 β2 D0 b:=λh=>xa0.rg b (List.count_pos_iff.1 h)
   have r1:0<x1.HL.count b->(E2<=b/\b<E3)/\¬DD H2 β2 D0 b:=λh=>xa1.rg b (List.count_pos_iff.1 h)
   have r2:0<x2.HL.count b->(E4<=b/\b<E5)/\¬DD H2 β2 D0 b:=λh=>xa2.rg b (List.count_pos_iff.1 h)
   have n0:¬0<x0.HL.count b:=λh=>by have:=(r0 h).1;omega
   have n1:¬0<x1.HL.count b:=λh=>by have:=(r1 h).1;omega
   have n2:¬0<x2.HL.count b:=λh=>by have:=(r2 h).1;omega
   have n8:¬0<(hd (β2 8)).count b:=λh=>by have:=(hge m8 h).1;omega
   have n9:¬0<(hd (β2 9)).count b:=λh=>by have:=(hge m9 h).1;omega
   have n11:¬0<(hd (β2 11)).count b:=λh=>by have:=(hge m11 h).1;omega
   have key:0<(hd (β1 1)).count b\/0<(hd (β1 3)).count b\/0<(hd (β1 4)).count b\/0<(hd (β1 1500)).count b\/0<(hd (β1 1600)).count b:=by omega
   rcases key with h|h|h|h|h
   .exact .inr ⟨1,m1,yN h⟩
   .exact .inr ⟨3,m3,yN h⟩
   .exact .inr ⟨4,m4,yN h⟩
   .exact .inr ⟨1500,mP,yN h⟩
   .exact .inr ⟨1600,mR,yN h⟩
 have g13:bD w1 (DD H1 β1 D0) w2 (DD H3 β3 D0):=⟨R2.size,b8r,λb hb _ _=>R2.keep b hb λh=>h⟩;have hkeep:∀{h:Nat},(H1 h).bI->∀k,aF (β1 h)=some k->w2.heap[k]?=w1.heap[k]?:=λhm k hk=>R2.keep k (R1.iG hm hk).1 λh=>h
 have hE:∀e∈T,EOk w2 (DD (yJ T) (yY T) D0) (yJ T) (yY T) w0.heap.size M0 e:=by
  have hO:∀e∈KO y p1 p2 r1 r2 x0 x1 x2 w2.heap.size (β1 1) (β1 3) (β1 4) (β2 8) (β2 9) (β2 11) (β1 1500) (β1 1600),EOk w2 (DD (yJ T) (yY T) D0) (yJ T) (yY T) w0.heap.size M0 e:=by
   rw[<-b4K,<-b5S];intro e he;simp only[KO,List.mem_cons,List.not_mem_nil,or_false]at he;rcases he with rfl|rfl|rfl|rfl|rfl|rfl|rfl|rfl|rfl|rfl|rfl|rfl|rfl
   .exact(R1.own _ _ _ _ _ hH1).mono g13 (hkeep m1)
   .exact(R1.own _ _ _ _ _ hH3).mono g13 (hkeep m3)
   .exact(R1.own _ _ _ _ _ hH4).mono g13 (hkeep m4)
   .exact ow8.mono R1.size
   .exact ow9.mono R1.size
   .exact b6U.mono R1.size
   .exact Nat.le_refl w2.heap.size
   .exact(R1.own _ _ _ _ _ kP.1).mono g13 (hkeep mP)
   .have hx:=R1.tie _ _ _ kP.2.1;show ak w2 (DD H3 β3 D0) H3 β3 (.hv 1500 1 0 y.P.length) p1;simp only[ak,kP.1,eP.1,eP.2,HC.stamp,HC.esz]at hx ⊢;exact hx
   .have hx:=R1.tie _ _ _ kP.2.2;show ak w2 (DD H3 β3 D0) H3 β3 (.hs 1500 1) p2;simp only[ak,kP.1,eP.1,eP.2,HC.stamp]at hx ⊢;exact hx
   .exact(R1.own _ _ _ _ _ kR.1).mono g13 (hkeep mR)
   .have hx:=R1.tie _ _ _ kR.2.1;show ak w2 (DD H3 β3 D0) H3 β3 (.hv 1600 1 0 y.R.length) r1;simp only[ak,kR.1,eR.1,eR.2,HC.stamp,HC.esz]at hx ⊢;exact hx
   .have hx:=R1.tie _ _ _ kR.2.2;show ak w2 (DD H3 β3 D0) H3 β3 (.hs 1600 1) r2;simp only[ak,kR.1,eR.1,eR.2,HC.stamp]at hx ⊢;exact hx
  have h0:=AX.ok (D0:=D0) (M:=M0) (B:=w0.heap.size) hn s0 xa0 (by have:=R1.size;omega);have h1:=AX.ok (D0:=D0) (M:=M0) (B:=w0.heap.size) hn s1 xa1 (by have:=R1.size;omega);have h2:=AX.ok (D0:=D0) (M:=M0) (B:=w0.heap.size) hn s2 xa2 (by have:=R1.size;omega);have hW:=b3z (w:=w2) (D0:=D0) (M:=M0) (B:=w0.heap.size) hn sW λk hk D' M=>(hX k hk).2.2.mono R1.size
  intro e he;have he2:=he;rw[hT,TC]at he2;rcases List.mem_append.1 he2 with h|h
  .exact hO e h
  rcases List.mem_append.1 h with h|h
  .exact h0 e h
  rcases List.mem_append.1 h with h|h
  .exact h1 e h
  rcases List.mem_append.1 h with h|h
  .exact h2 e h
  .exact hW e h
 have hpo:∀(t e e' sz:Nat) (row row':List IV) (u:Value),f2 t=.hp t 1 0 0->H2 t=.blk true 1 e sz [row]->H3 t=.blk false 1 e' sz [row']->β3 t=u->β2 t=u->ak w2 (DD H3 β3 D0) H3 β3 (.hp t 1 0 0) (a2.tmps.getD t Go.undef):=λt e e' sz row row' u h1 h2 h3 h4 h5=>by
  have hx:=R2.tmps t;rw[h1]at hx;simp only[ak,h2,h3,h4,h5,HC.stamp,HC.esz]at hx ⊢;exact hx
 have hpn:∀(t e sz:Nat) (row row':List IV),f2 t=.hp t 1 0 0->H2 t=.blk false 1 e sz [row]->H3 t=.blk false 1 e sz [row']->β3 t=β2 t->ak w2 (DD H3 β3 D0) H3 β3 (.hp t 1 0 0) (a2.tmps.getD t Go.undef):=λt e sz row row' h1 h2 h3 h4=>by
  have hx:=R2.tmps t;rw[h1]at hx;simp only[ak,h2,h3,h4,HC.stamp,HC.esz]at hx ⊢;exact hx
 have tie:∀(k t e sz:Nat) (row:List IV) (b:Value),H2 k=.tie (.hs t 1) b->H2 t=.blk true 1 e sz [row]->β2 t=b:=λk t e sz row b h1 h2=>by
  have hx:=R2.tie _ _ _ h1;simp only[ak,h2,HC.stamp]at hx;exact(hx.2 trivial).symm
 have b3E:∀(t:Nat) (x:IV),f2 t=.iv (.av (λb=>DD H1 β1 D0 b\/w1.heap.size<=b) x)->ak w2 (DD H3 β3 D0) H3 β3 (.iv x) (a2.tmps.getD t Go.undef):=λt x h=>by
  have hx:=R2.tmps t;rw[h]at hx;simp only[ak]at hx ⊢;cases hx with
  |av _ _ _ hx =>
   refine hx.mono (bD.of_sub λb hb=>?_);by_cases hl:b<w1.heap.size
   .exact .inr (.inl (b8r b hl hb))
   .exact .inr (.inr (by omega))
 obtain⟨f3,hf3⟩:∃f3:AL.Fr,f3=λt=>if t=1\/t=3\/t=4\/t=8\/t=9\/t=11 then .hp t 1 0 0 else if t=2 then .iv (.bool false) else if t=5 then .iv (.sl (dN y.F)) else if t=6 then .iv (.sl (dN y.G)) else if t=7 then .iv (.sl (gI y.L)) else .dead:=⟨_,rfl⟩
 have hw0:=Vo hn s0;have hw1:=Vo hn s1;have hw2:=Vo hn s2;have hwd:=a8p hn sW;rw[<-b4K]at hw0 hw1 hw2 hwd none;refine⟨f3,H3,β3,x0,x1,x2,X,w2.heap.size,⟨by rw[hf3];rfl,by rw[hf3];rfl,by rw[hf3];rfl,by rw[hf3];rfl,by rw[hf3];rfl,by rw[hf3];rfl,by rw[hf3];rfl,by rw[hf3];rfl,by rw[hf3];rfl,by rw[hf3];rfl,e1.1,e3.1,e4.1,e8.1,e9.1,e11.1,c0q.1,⟨eP.1,eP1.1,eP2.1⟩,⟨eR.1,eR1.1,eR2.1⟩,hw0,hw1,hw2,λk hk=>⟨(hwd k hk).1,(hwd k hk).2.1⟩,none _ (.inl rfl),none _ (.inr (.inl rfl)),none _ (.inr (.inr rfl))⟩,
  ⟨xa0.wo,xa1.wo,xa2.wo,ll,wl,λk hk=>⟨(hX k hk).1,(hX k hk).2.1⟩⟩,?_⟩
 have htm:∀t,ak w2 (DD H3 β3 D0) H3 β3 (f3 t) (a2.tmps.getD t Go.undef):=λt=>by
  rw[hf3];show ak w2 (DD H3 β3 D0) H3 β3 (if t=1\/t=3\/t=4\/t=8\/t=9\/t=11 then .hp t 1 0 0 else if t=2 then .iv (.bool false) else if t=5 then .iv (.sl (dN y.F)) else if t=6 then .iv (.sl (dN y.G)) else if t=7 then .iv (.sl (gI y.L)) else .dead) _;split
  .rename_i e;rcases e with rfl|rfl|rfl|rfl|rfl|rfl
   .exact hpo 1 _ _ _ _ _ _ k1 hB1 e1.1 e1.2 (tie _ _ _ _ _ _ t1 hB1)
   .exact hpo 3 _ _ _ _ _ _ k3 hB3 e3.1 e3.2 (tie _ _ _ _ _ _ t3 hB3)
   .exact hpo 4 _ _ _ _ _ _ k4 hB4 e4.1 e4.2 (tie _ _ _ _ _ _ t4 hB4)
   .exact hpn 8 _ _ _ _ k8 hB8 e8.1 e8.2
   .exact hpn 9 _ _ _ _ k9 hB9 e9.1 e9.2
   .exact hpn 11 _ _ _ _ k11 b7y e11.1 e11.2
  .split
   .rename_i e;subst e;have hx:=R2.tmps 2;rw[k2]at hx;simp only[ak]at hx ⊢;exact hx.flat trivial
   .split
    .rename_i e;subst e;exact b3E 5 _ k5
    .split
     .rename_i e;subst e;exact b3E 6 _ k6
     .split
      .rename_i e;subst e;exact b3E 7 _ k7
      .simp[ak]
 rw[b4K,b5S]at htm ⊢;exact R1.table R2.os R2.tape R2.output R2.size (λk hk=>R2.keep k hk λh=>h) R2.nD (R2.rnd rfl) T hhd hE htm
theorem a5k (l:List Int)(h:l.length<=9/\∀z∈l,z.natAbs<10):RP 9 1 (cn l) :=
 a5l (Vs l 9 h.1 λz hz=>by have:=h.2 z hz;simp only[W];omega)
theorem a4P:AC Tryz.prog 147 [cp [0,0,0,-1,1],cp [0,1]] none [ci 3,cp [-1,1],ci 0] :=
 ACX.plain (JZ (cn [0,0,0,-1,1]) (cn [0,1]) ((a5k _ (by decide)).mono (by omega) (by omega)) ((a5k _ (by decide)).mono (by omega) (by omega))) λB E r hr=>by
  rw[tN (by decide),tN (by decide),if_neg (by decide),if_neg (by decide),show tmn [0,1] 9 (npr [0,0,0,-1,1])=3 by decide +kernel,show tmr [0,1] 9 (npr [0,0,0,-1,1])=[-1,1] by decide +kernel]at hr;obtain⟨b,bs,rfl,hb,-⟩:=hr;exact .cons (.refl _) (.cons (jE hb (by decide)) (.cons (.refl _) .nil))
theorem a7g:AC Tryz.prog 148 [cp [0,2],cp [4]] none [cp [],ci 4] :=
 ACX.plain (Kt (cn [0,2]) (cn [4]) 1 ((a5k _ (by decide)).mono (by omega) (by omega)) ((a5k _ (by decide)).mono (by omega) (by omega)) (by omega)) λB E r hr=>by
  rw[tN (by decide),tN (by decide),show aO (exv [0,2] [4])=[] by decide +kernel,show exe [0,2] [4]=4 by decide +kernel]at hr;obtain⟨b,bs,rfl,hb,-⟩:=hr;exact .cons (jE hb (by decide)) (.cons (.refl _) .nil)
theorem b5c:AC Tryz.prog 149 [cqc [-1,0,1],cqc [-2,1]] none [cqc [1],cqc [1/3],cqc [-2/3,-1/3],ci 0] :=
 ACX.plain (F8 (([-1,0,1]:List Rat).map aN) (([-2,1]:List Rat).map aN) (QB.gq ⟨by decide,by decide +kernel⟩) (QB.gq ⟨by decide,by decide +kernel⟩)) λB E r hr=>by
  rw[show au (qvs (([-1,0,1]:List Rat).map aN))=[-1,0,1] by decide +kernel,show au (qvs (([-2,1]:List Rat).map aN))=[-2,1] by decide +kernel,show bzg [-1,0,1] [-2,1]=[1] by decide +kernel,show bzu [-1,0,1] [-2,1]=[1/3] by decide +kernel,show bzv [-1,0,1] [-2,1]=[-2/3,-1/3] by decide +kernel]at hr;obtain⟨x,xs,y,ys,z,zs,rfl,h1,h2,h3,-⟩:=hr;exact .cons (iD h1) (.cons (iD h2) (.cons (iD h3) (.cons (.refl _) .nil)))
def fixed14_ok:AC Tryz.prog 66 [] none [cb true]:=by
 have lim:∀l:List Int,(l.length<=9/\∀z∈l,z.natAbs<10)->(AC Tryz.prog 146 [cis l] none [cp l])/\RP 9 1 (cn l):=λl h=>by
  refine⟨b3M l (by omega) (λz hz=>by have:=h.2 z hz;omega),?_⟩;exact a5l (Vs l 9 h.1 λz hz=>by have:=h.2 z hz;simp only[W];omega)
 have mo:∀{l:List RI},RP 9 1 l->RP 9 2 l:=λh=>h.mono (Nat.le_refl _) (by omega)
 obtain⟨p1,r1⟩:=lim [-1,0,1] (by decide);obtain⟨p2,r2⟩:=lim [1,-2,1] (by decide);obtain⟨p3,r3⟩:=lim [-1,1] (by decide);obtain⟨p4,r4⟩:=lim [0,0,0,-1,1] (by decide);obtain⟨p5,r5⟩:=lim [0,1] (by decide);obtain⟨p6,r6⟩:=lim [0,2] (by decide);obtain⟨p7,r7⟩:=lim [4] (by decide);obtain⟨p8,r8⟩:=lim [-2,1] (by decide);obtain⟨p9,r9⟩:=lim [1] (by decide);have g:=a1u (p:=cn [-1,0,1]) (q:=cn [1,-2,1]) (A:=[-1,0,1]) (B:=[1,-2,1]) 9 2 (r1.mono (by omega) (by omega)) (r2.mono (by omega) (by omega)) (fF _) (fF _) (by decide) (by decide) (by omega) ez2;rw[show cp (eU [-1,0,1] [1,-2,1])=cp [-1,1] from zL (by rw[<-AP,show aO (eU [-1,0,1] [1,-2,1])=[-1,1] by decide +kernel])]at g;have s3:=ER (cn [-1,1]) (cn [-1,1]) (r3.mono (by omega) (by omega)) (r3.mono (by omega) (by omega));rw[decide_eq_true rfl]at s3;have t:=a4P;have x:=a7g;have ov:∀l:List Int,RP 9 1 (cn l)->aO l=l->AC Tryz.prog 150 [cp l] none [cqc (qp l)]:=λl h e=>by
  have o:=F9 (cn l) (h.mono (by omega) (by omega));rwa [tN e,show cqp (qp l)=cqc (qp l) from congrArg cqw (by rw[cqs,zB,e])]at o
 have o1:=ov [-1,0,1] r1 (by decide);have o8:=ov [-2,1] r8 (by decide);have o9:=ov [1] r9 (by decide);rw[show qp [-1,0,1]=[-1,0,1] by decide +kernel]at o1;rw[show qp [-2,1]=[-2,1] by decide +kernel]at o8;rw[show qp [1]=[1] by decide +kernel]at o9;have bz:=b5c;have sq:∀l:List Rat,(l.length<=9/\∀c∈l,qz c<=3)->AC Tryz.prog 77 [cqc l,cqc l] none [cb true]:=λl h=>by
  have hb:QB 9 3 l:=⟨h.1,h.2⟩;exact qX (l.map aN) (hb.gq.bq.mono (by omega) (by omega))
 have q1:=sq [1] (by decide +kernel);have q2:=sq [1/3] (by decide +kernel);have q3:=sq [-2/3,-1/3] (by decide +kernel);have h1:=Qi 1 3 (by omega) (by omega) (by omega) (by omega);have h2:=Qi (-2) 3 (by omega) (by omega) (by omega) (by omega);have h3:=Qi (-1) 3 (by omega) (by omega) (by omega) (by omega);rw[show ((1:Int):Rat)/((3:Nat):Rat)=1/3 by decide +kernel]at h1;rw[show ((-2:Int):Rat)/((3:Nat):Rat) = -2/3 by decide +kernel]at h2;rw[show ((-1:Int):Rat)/((3:Nat):Rat) = -1/3 by decide +kernel]at h3;have i1:[[IV.int .i64 (-1)],[IV.int .i64 0],[IV.int .i64 1]]=iL [-1,0,1]:=rfl;have i2:[[IV.int .i64 1],[IV.int .i64 (-2)],[IV.int .i64 1]]=iL [1,-2,1]:=rfl;have i3:[[IV.int .i64 (-1)],[IV.int .i64 1]]=iL [-1,1]:=rfl;have i4:[[IV.int .i64 0],[IV.int .i64 0],[IV.int .i64 0],[IV.int .i64 (-1)],[IV.int .i64 1]]=iL [0,0,0,-1,1]:=rfl;have i5:[[IV.int .i64 0],[IV.int .i64 1]]=iL [0,1]:=rfl;have i6:[[IV.int .i64 0],[IV.int .i64 2]]=iL [0,2]:=rfl;have i7:[[IV.int .i64 4]]=iL [4]:=rfl;have i8:[[IV.int .i64 (-2)],[IV.int .i64 1]]=iL [-2,1]:=rfl;have i9:[[IV.int .i64 1]]=iL [1]:=rfl;have hir:∀l:List Int,(∀r∈iL l,r.length=1)↔True:=λl=>by simp[iL]
 have hr5:List.range 5=[0,1,2,3,4]:=rfl;have j1:[pW (aN (1/3))]=dN (([1/3]:List Rat).map aN):=rfl;have j2:[pW (aN (-2/3)),pW (aN (-1/3))]=dN (([-2/3,-1/3]:List Rat).map aN):=rfl;refine AC.aj (rs:=[.tmp 0]) aV Tryz.func66 (by rfl) (by rfl) (by rfl) (by rfl) (by rfl) ?_;simp (disch:=omega) only[wt,seval];refine ah (p1) (by rfl) (by simp) ?_;simp (disch:=omega) only[wt,seval,i1,i2,hir];refine ah (p2) (by rfl) (by simp) ?_;simp only[wt,seval];refine ah (g) (by rfl) (by simp) ?_;simp (disch:=omega) only[wt,seval,i3,hir];refine ah (p3) (by rfl) (by simp) ?_;simp only[wt,seval];refine ah (s3) (by rfl) (by simp) ?_;simp (disch:=omega) only[wt,seval,i4,hir,hr5];refine ah (p4) (by rfl) (by simp) ?_;simp (disch:=omega) only[wt,seval,i5,hir];refine ah (p5) (by rfl) (by simp) ?_;simp only[wt,seval];refine ah (t) (by rfl) (by simp) ?_;simp (disch:=omega) only[wt,seval,i6,hir];refine ah (p6) (by rfl) (by simp) ?_;simp (disch:=omega) only[wt,seval,i7,hir];refine ah (p7) (by rfl) (by simp) ?_;simp only[wt,seval];refine ah (x) (by rfl) (by simp) ?_;simp (disch:=omega) only[wt,seval,i1,hir];refine ah (p1) (by rfl) (by simp) ?_;simp only[wt,seval];refine ah (o1) (by rfl) (by simp) ?_;simp (disch:=omega) only[wt,seval,i8,hir];refine ah (p8) (by rfl) (by simp) ?_;simp only[wt,seval];refine ah (o8) (by rfl) (by simp) ?_;simp only[wt,seval];refine ah (bz) (by rfl) (by simp) ?_;simp (disch:=omega) only[wt,seval,i3,hir];refine ah (p3) (by rfl) (by simp) ?_;simp only[wt,seval];refine ah (s3) (by rfl) (by simp) ?_;simp (disch:=omega) only[wt,seval,i9,hir];refine ah (p9) (by rfl) (by simp) ?_;simp only[wt,seval];refine ah (o9) (by rfl) (by simp) ?_;simp only[wt,seval];refine ah (q1) (by rfl) (by simp) ?_;simp (disch:=omega) only[wt,seval];refine ah (h1) (by rfl) (by simp) ?_;simp (disch:=omega) only[wt,seval,rqs,j1];refine ah (q2) (by rfl) (by simp) ?_;simp (disch:=omega) only[wt,seval];refine ah (h2) (by rfl) (by simp) ?_;simp only[wt,seval];refine ah (h3) (by rfl) (by simp) ?_;simp (disch:=omega) only[wt,seval,rqs,j2];refine ah (q3) (by rfl) (by simp) ?_;simp (disch:=omega) only[wt,seval]
 try rfl
theorem ZV {o1 o2 o3:OB}{cs:List OP}{ds:List OQ}{zs:List (List Int)}{qs:List (List RQ)}{ns:List Int}(hc:POk cs zs)(hd':QOk ds qs)(hz:∀q∈zs,ZSm q) :
  Je (.agg [.own o1 50 1 (jH cs zs),.own o2 23 1 (uM ds qs),.own o3 3 1 (iL ns)]) (.agg (a8q (zs.map cn) qs ns)):=by
 refine a8r (.own _ _ _ _ _ (by simp[jH,gI,hc.1]) (λi r r' h1 h2=>?_) λi r r' h1 h2 j x x' hx hx'=>?_) (.own _ _ _ _ _ (by simp[uM,qps,hd'.1]) (λi r r' h1 h2=>?_) λi r r' h1 h2 j x x' hx hx'=>?_) (Ah (Ij ns))
 .have hi:i<zs.length:=by have:=(List.getElem?_eq_some_iff.1 h2).1;simpa [gI] using this
  rw[xZ hc hi]at h1;injection h1 with h1;subst h1;simp only[gI,List.getElem?_map,Option.map_eq_some_iff]at h2;obtain⟨_,_,rfl⟩:=h2;rfl
 .have hi:i<zs.length:=by have:=(List.getElem?_eq_some_iff.1 h2).1;simpa [gI] using this
  rw[xZ hc hi]at h1;injection h1 with h1;subst h1;simp only[gI,List.map_map,List.getElem?_map,getD_some [] hi,Option.map_some,Option.some.injEq]at h2;subst h2
  match j,hx,hx' with
  |0,hx,hx' =>
   injection hx with hx;injection hx' with hx';subst hx hx';have:=Gj (b:=(cs.getD i (none,[])).1) (hc.2 i _ _ (getD_some (none,[]) (by rw[hc.1];exact hi)) (getD_some [] hi));show Le _ (.sl (bZ (cn (zs.getD i []))));rw[cn,(hz _ (oz [] hi)).2.2];exact this
  |j+1,hx,_=>simp at hx
 .have hi:i<qs.length:=by have:=(List.getElem?_eq_some_iff.1 h2).1;simpa [qps] using this
  rw[xX hd' hi]at h1;injection h1 with h1;subst h1;simp only[qps,List.getElem?_map,Option.map_eq_some_iff]at h2;obtain⟨_,_,rfl⟩:=h2;rfl
 .have hi:i<qs.length:=by have:=(List.getElem?_eq_some_iff.1 h2).1;simpa [qps] using this
  rw[xX hd' hi]at h1;injection h1 with h1;subst h1;simp only[qps,List.getElem?_map,getD_some [] hi,Option.map_some,Option.some.injEq]at h2;subst h2
  match j,hx,hx' with
  |0,hx,hx' =>
   injection hx with hx;injection hx' with hx';subst hx hx';exact Vr (hd'.2 i _ _ (getD_some (none,[]) (by rw[hd'.1];exact hi)) (getD_some [] hi))
  |j+1,hx,_=>simp at hx
theorem kJ.move {c:Nat}{p:List RI}{v1 v2:Value}{H H':AL.Hp}(h:kJ c p v1 v2 H)(e:∀k,c+1500<=k->k<=c+1502->H' k=H k):kJ c p v1 v2 H' :=
 ⟨(e _ (by omega) (by omega)).trans h.1,(e _ (by omega) (by omega)).trans h.2.1,(e _ (by omega) (by omega)).trans h.2.2⟩
structure Y5 (y:C14):Prop where
 P:RP 9 2 y.P
 R:RP 9 2 y.R
 L:y.L.length<=6/\∀p∈y.L,RP 9 2 p
 F:BQ 7 1 y.F
 G:BQ 7 1 y.G
theorem y5 {x:C14}(h:b5u x):Y5 (Ic x):=⟨(y14 h).P,(y14 h).R,(y14 h).L,fq1_bq h.F,fq1_bq h.G⟩
theorem a5m {p:List RI}(h:RP 9 2 p):RP 100 (2^40) p:=h.mono (by omega) (by omega)
set_option maxHeartbeats 4000000 in
theorem b7c {x:C14}(h:b5u x)
  (hrest:∀(w:World) (D:Nat->Prop) (f:AL.Fr) (H:AL.Hp) (β:Nat->Value) (a:Act) (w':World),(∃p1 p2 r1 r2,SA (Ic x) p1 p2 r1 r2 f H)->Rel ⟨λ_ _=>False,true⟩ (λ_=>False) w D Tryz.f5.ntmps f H β a w' ->
   (kT 6 (Es Tryz.prog 5)).wpIn (Wd none) 0 Tryz.prog (Conc ⟨λ_ _=>False,false⟩ (λ_=>False) w D Tryz.f5.ntmps (@a7L zi0 Tryz.prog [.tmp 2] none [cb true])) a w') :
  AC Tryz.prog 5 [.agg (kC x)] none [cb true]:=by
 have le:=a1Z h;have hy:=y5 h;refine AC.b2m (zi:=zi0) (rs:=[.tmp 2]) aV Tryz.func5 (by rfl) (by rfl) (by rfl) (by rfl) (by rfl) (by rfl) 6 (λ_ f H=>∃p1 p2 r1 r2,SA (Ic x) p1 p2 r1 r2 f H) (λB=>?_) hrest;generalize Ic x=y at *;have hsp:splice (kC x) 0 (kC y)=kC y:=rfl;have cF:=Xi y.F (hy.F.mono (by omega) (by omega));have cG:=Xi y.G (hy.G.mono (by omega) (by omega));have cL:=b2f y.L (by have:=hy.L.1;omega) λp hp=>(hy.L.2 p hp).mono (by omega) (by omega)
 simp (disch:=omega) only[wt,seval,kU];refine ah (fixed14_ok) (by rfl) (by simp) ?_;simp (disch:=omega) only[wt,seval,kU,List.take_succ_cons,List.take_zero];refine ah (le) (by rfl) (by simp) ?_;simp (disch:=omega) only[wt,seval,kU,hsp];refine .inr ⟨[0,1,3,4,6,7,2,5,8,9],[0,1,6,2,3,7,4,5,8,9],by kernel_rfl,aP (by kernel_rfl),?_⟩;simp only[mg,a0r,List.map_cons,List.map_nil,List.getD_cons_zero,List.getD_cons_succ,Option.map_none];simp (disch:=omega) only[wt,seval];refine KZ (c:=0) (a5m hy.P) (B:=B) (by simp only[wt,seval]) (by simp only[wt,seval]) (by simp only[wt,seval]) (by simp only[wt,seval]) ?_;intro p1 p2 H1 k1 hB1 hk1;have a1:H1 1=.blk false 1 113 6 [kC y]:=(hk1 1 (by decide)).trans (by simp only[wt,seval]);have a3:H1 3=.blk false 1 116 3 [[.sl [],.sl [],.sl []]]:=(hk1 3 (by decide)).trans (by simp only[wt,seval]);have a4:H1 4=.blk false 1 116 3 [[.sl [],.sl [],.sl []]]:=(hk1 4 (by decide)).trans (by simp only[wt,seval]);have b0:H1 (100+1500)=.none:=(hk1 _ (by decide)).trans (by simp only[wt,seval]);have b1:H1 (100+1501)=.none:=(hk1 _ (by decide)).trans (by simp only[wt,seval]);have b2:H1 (100+1502)=.none:=(hk1 _ (by decide)).trans (by simp only[wt,seval]);simp only[wt,seval];refine KZ (c:=100) (a5m hy.R) hB1 b0 b1 b2 ?_;intro r1 r2 H2 k2 hB2 hk2;have a1':H2 1=_:=(hk2 1 (by decide)).trans a1;have a3':H2 3=_:=(hk2 3 (by decide)).trans a3;have a4':H2 4=_:=(hk2 4 (by decide)).trans a4;have k1':kJ 0 y.P p1 p2 H2:=k1.move λk h1 h2=>hk2 k (by simp only[rks,List.mem_cons,List.not_mem_nil,or_false];omega)
 clear hk1 hk2 a1 a3 a4 b0 b1 b2 k1 hB1;simp (disch:=omega) only[wt,seval,kU,a3',a4'];apply And.intro
 .apply a1W
  .repeat' (first|exact mV.nil|exact a0p _|exact WW _ _|apply mV.cons)
  .kernel_rfl
 simp (disch:=omega) only[wt,seval,a1'];refine .inl ⟨aP (by kernel_rfl),?_⟩;refine ah (cF) (by rfl) (by simp) ?_;simp (disch:=omega) only[wt,seval,a1'];refine ah (cG) (by rfl) (by simp) ?_;simp (disch:=omega) only[wt,seval,kU,a1'];refine⟨aX (by kernel_rfl),?_⟩;refine ah (cL) (by rfl) (by simp) ?_;simp only[wt,seval,Ci];exact⟨p1,p2,r1,r2,⟨by simp only[wt,seval],by simp only[wt,seval],by simp only[wt,seval],by simp only[wt,seval],by simp only[wt,seval],by simp only[wt,seval],by simp only[wt,seval]⟩,by simp only[wt,seval,a1'],by simp only[wt,seval];try rfl,by simp only[wt,seval];try rfl,k1'.move λk h1 h2=>by rw[aB _ _ (by omega),aB _ _ (by omega)],k2.move λk h1 h2=>by rw[aB _ _ (by omega),aB _ _ (by omega)]⟩
@[reducible] def b3s:Zi:=⟨none,λ_=>false,λ_=>false,.both⟩
theorem b3p (e:Nat) : @Zi.bx b3s e=false:=rfl
theorem b3q (e:Nat) : @Zi.bs b3s e=false:=rfl
theorem b3l : @Zi.st b3s=.both:=rfl
theorem b3m : @zsl b3s=.sl []:=rfl
theorem b0a (x:IV):wF (.iv x)=.iv (wG x):=rfl
theorem a5d (cs:List IV):wF (.agg cs)=.agg (cs.map wG):=rfl
theorem b0b (X:Nat->Prop)(x:IV):wG (.av X x)=x:=rfl
theorem a9Z (r:List (List IV)):wG (.sl r)=.sl r:=rfl
theorem ZU (b:Bool):wG (.bool b)=.bool b:=rfl
theorem a5c (k:IntKind)(n:Int):wG (.int k n)=.int k n:=rfl
theorem a5b (b:OB)(e sz:Nat)(r:List (List IV)):wG (.own b e sz r)=.own b e sz r:=rfl
def b6m:=zaa @b0a (zaa @a5d (zaa @b0b (zaa @a9Z (zaa @ZU (zaa @a5c (@a5b))))))
def a8g:=zaa @b6m (zaa @b3p (zaa @b3q (zaa @b3l (zaa @b3m (zaa @kU (@Ci))))))
theorem b5M (a b c x y z:IV):splice [a,b,c] 0 [x,y,z]=[x,y,z]:=rfl
theorem Gp {o1 o2 o3:OB}{cs:List OP}{ds:List OQ}{p r:List RI}{l:List (List RI)}{f g:List RQ}(hp:RP 9 2 p)(hr:RP 9 2 r)(hl:∀p∈l,RP 9 2 p)(hf:BQ 7 1 f)(hg:BQ 7 1 g)(hc:POk cs (sZ p r l))(hd':QOk ds (sQ f g)) :
  AC Tryz.prog 73 [.agg [.own o1 50 1 (jH cs (sZ p r l)),.own o2 23 1 (uM ds (sQ f g)),.own o3 3 1 (iL (sN p r f g))],.agg [.sl (gI (wZ p r l)),.sl (qps (sQ f g)),.sl (iL (sN p r f g))]] none [cb true]:=by
 have z:=LQ hp hr hl;have q:=LU hf hg;have s:=a5e (wZ p r l) (sQ f g) (sN p r f g) (show 9<=1000 by omega) (show 5<=1000 by omega) (show 10<=1000 by omega) (λx hx=>by
  obtain⟨y,hy,rfl⟩:=zaw.1 hx;have h:=z y hy;exact(lQ (D:=50) (by have:=CS y;have:=h.2.1;omega) h.1).mono (by omega) (by omega)) λx hx=>(q x hx).mono (by omega) (zab _)
 exact s.soft (.cons (ZV hc hd' z) (.cons (.refl _) .nil))
set_option maxHeartbeats 4000000 in
theorem b7b {y:C14}(hy:Y5 y){b1 b3 b4:Value}{X1:Nat->Prop}{E:Nat}{f:AL.Fr}{H:AL.Hp}(h:SB0 y b1 b3 b4 X1 f H)(h9:H 999=.mrk E)(n8:H 8=.none)(n9:H 9=.none)(n11:H 11=.none) :
  ∃c,(Tryz.f5.body.bind (oG 6))=some c/\@AWs b3s Tryz.prog (SBm y b1 b3 b4 X1 E) 5 c (λ_ _ _=>False) f H:=by
 refine⟨_,rfl,?_⟩;obtain⟨⟨k1,k3,k4,k2,k5,k6,k7⟩,hB1,⟨x2,x3,hB3⟩,⟨x2',x3',hB4⟩,t1,t3,t4⟩:=id h;have lL:y.L.length<=2^40:=by have:=hy.L.1;omega
 have m1:=NK y.P y.R y.L y.F y.G hy.P hy.R lL hy.L.2 hy.F hy.G;have m2:=NK y.R y.P y.L y.G y.F hy.R hy.P lL hy.L.2 hy.G hy.F;have w1:=FX y.P y.R y.L y.F y.G hy.P hy.R lL hy.L.2 hy.F hy.G;have w2:=FX y.R y.P y.L y.G y.F hy.R hy.P lL hy.L.2 hy.G hy.F;unfold a8q at w1 w2;have s1:∀{o1 o2 o3:OB} {cs:List OP} {ds:List OQ},POk cs (sZ y.P y.R y.L)->QOk ds (sQ y.F y.G)->AC Tryz.prog 73 [.agg [.own o1 50 1 (jH cs (sZ y.P y.R y.L)),.own o2 23 1 (uM ds (sQ y.F y.G)),.own o3 3 1 (iL (sN y.P y.R y.F y.G))],.agg [.sl (gI (wZ y.P y.R y.L)),.sl (qps (sQ y.F y.G)),.sl (iL (sN y.P y.R y.F y.G))]] none [cb true]:=λh1 h2=>Gp hy.P hy.R hy.L.2 hy.F hy.G h1 h2
 have s2:∀{o1 o2 o3:OB} {cs:List OP} {ds:List OQ},POk cs (sZ y.R y.P y.L)->QOk ds (sQ y.G y.F)->AC Tryz.prog 73 [.agg [.own o1 50 1 (jH cs (sZ y.R y.P y.L)),.own o2 23 1 (uM ds (sQ y.G y.F)),.own o3 3 1 (iL (sN y.R y.P y.G y.F))],.agg [.sl (gI (wZ y.R y.P y.L)),.sl (qps (sQ y.G y.F)),.sl (iL (sN y.R y.P y.G y.F))]] none [cb true]:=λh1 h2=>Gp hy.R hy.P hy.L.2 hy.G hy.F h1 h2
 generalize hZA:sZ y.P y.R y.L=ZA at m1 s1;generalize hZB:sZ y.R y.P y.L=ZB at m2 s2;generalize hQA:sQ y.F y.G=QA at m1 w1 s1;generalize hQB:sQ y.G y.F=QB at m2 w2 s2;generalize hNA:sN y.P y.R y.F y.G=NA at m1 w1 s1;generalize hNB:sN y.R y.P y.G y.F=NB at m2 w2 s2;generalize hWA:wZ y.P y.R y.L=WA at w1 s1;generalize hWB:wZ y.R y.P y.L=WB at w2 s2;simp (disch:=omega) only[wt,seval,a8g,k3,k4,k5,k6,k7,hB3,hB4];refine aJ (m1) (by rfl) (by simp) (by assumption) ?_;rintro E0 E1 _ hE0 hE1 ⟨o1,o2,o3,cs,ds,rfl,pc,qc,nw⟩;simp (disch:=omega) only[wt,seval,b5M,a8g,k3,k4,k5,k6,k7,hB3,hB4,n8];refine aJ (m1) (by rfl) (by simp) (by rfl) ?_;rintro E2 E3 _ hE2 hE3 ⟨o1',o2',o3',cs',ds',rfl,pc',qc',nw'⟩;simp (disch:=omega) only[wt,seval,b5M,a8g,k1,hB1,n9];refine ah (w1) (by rfl) (by simp) ?_;simp (disch:=omega) only[wt,seval,b5M,a8g,k3,k4,k5,k6,k7,hB3,hB4];refine aJ (m2) (by rfl) (by simp) (by rfl) ?_;rintro E4 E5 _ hE4 hE5 ⟨b7X,b7W,b7V,cs'',ds'',rfl,b4j,b4a,b5P⟩;simp (disch:=omega) only[wt,seval,zaJ,zaj,b5M,a8g,n11];refine .inl ⟨aP (by kernel_rfl),?_⟩;refine ah ((s1 pc qc)) (by rfl) (by simp) ?_;simp (disch:=omega) only[wt,seval,zaJ,zaj,a8g];refine ah ((s1 pc' qc')) (by rfl) (by simp) ?_;simp (disch:=omega) only[wt,seval,zaJ,zaj,a8g,k1,hB1];refine ah (w2) (by rfl) (by simp) ?_;simp only[wt,seval];refine ah ((s2 b4j b4a)) (by rfl) (by simp) ?_;simp (disch:=omega) only[wt,seval,a8g];refine⟨aX (by kernel_rfl),?_⟩;subst hZA hZB hQA hQB hNA hNB;exact⟨⟨⟨by simp only[wt,seval,k1],by simp only[wt,seval,k3],by simp only[wt,seval,k4],by simp only[wt,seval,k2],by simp only[wt,seval,k5],by simp only[wt,seval,k6],by simp only[wt,seval,k7]⟩,by simp only[wt,seval,hB1],⟨x2,x3,by simp only[wt,seval,hB3]⟩,⟨x2',x3',by simp only[wt,seval,hB4]⟩,by simp only[wt,seval,t1],by simp only[wt,seval,t3],by simp only[wt,seval,t4]⟩,⟨by simp only[wt,seval],by simp only[wt,seval],by simp only[wt,seval]⟩,_,_,_,E0,E1,E2,E3,E4,E5,⟨hE0,hE1,hE2,hE3,hE4,hE5⟩,⟨⟨o1,o2,o3,cs,ds,rfl,pc,qc,nw⟩,by simp only[wt,seval]⟩,⟨⟨o1',o2',o3',cs',ds',rfl,pc',qc',nw'⟩,by simp only[wt,seval]⟩,⟨b7X,b7W,b7V,cs'',ds'',rfl,b4j,b4a,b5P⟩,by simp only[wt,seval]⟩
section
variable {c k:Nat}
def SD (y:C14)(p1 p2 r1 r2:Value)(f:AL.Fr)(H:AL.Hp):Prop :=
 (f 1=.hp 1 1 0 0/\f 2=.iv (.bool false)/\f 3=.hp 3 1 0 0/\f 4=.hp 4 1 0 0/\f 5=.iv (.sl (dN y.F))/\f 6=.iv (.sl (dN y.G))/\f 7=.iv (.sl (gI y.L)))/\H 1=.blk false 1 113 6 [kC y] /\
 H 3=.blk false 1 116 3 [[.raw p1,.raw p2,.sl (jl y.P)]]/\H 4=.blk false 1 116 3 [[.raw r1,.raw r2,.sl (jl y.R)]]/\kJ 0 y.P p1 p2 H/\kJ 100 y.R r1 r2 H/\∃E,H 999=.mrk E
theorem JU (vs:List Value):(∀r∈jG vs,r.length=1)=True:=eq_true λr hr=>by
 obtain⟨_,_,rfl⟩:=zaw.1 hr;rfl
theorem RZ {nz nq:Nat}(h9:k≠999)(h:k<c+2000\/c+3000<=k)(hz:nz<=50)(hq:nq<=50):k∉wks c nz nq:=λhm=>by
 rcases mF.1 hm with e|e|e|e|e|e|⟨i,hi,e⟩|⟨i,hi,e⟩<;>omega
theorem b2s {n:Nat}(h9:k≠999)(h2:k≠2050)(h:k<10000):k∉aks n:=λhm=>by
 rcases uS.1 hm with e|e|⟨i,hi,e⟩|⟨i,hi,e⟩<;>omega
theorem wL (h9:k≠999)(h:k<c+1500\/c+1502<k):k∉rks c:=λhm=>by
 simp only[rks,zaG,zaT,zco]at hm;omega
def Far (c:Nat)(H H':AL.Hp):Prop:=∀k,k≠999->(k<c+2000\/c+3000<=k)->H' k=H k
set_option maxHeartbeats 4000000 in
theorem b7a {y:C14}(hy:Y5 y){p1 p2 r1 r2:Value}{x0 x1 x2:AX}{X:Nat->List (List IV)}{E:Nat}{f:AL.Fr}{H:AL.Hp}(h:SC y p1 p2 r1 r2 x0 x1 x2 X E f H)(k:SCk x0 x1 x2 X) :
  ∃c,(Tryz.f5.body.bind (oG 11))=some c/\@AWs zi0 Tryz.prog (SD y p1 p2 r1 r2) 1 c (λ_ _ _=>False) f H:=by
 refine⟨_,rfl,?_⟩;obtain⟨f1,f2,f3,f4,f5,f6,f7,f8,f9,f11,h1,h3,h4,h8,h9,h11,Oa,kP,kR,w0,w1,w2,wd',n0,n1,n2⟩:=h;obtain⟨o0,o1,o2,⟨⟨z0,q0⟩,⟨z1,q1⟩,z2,q2⟩,wl,hX⟩:=k;have l0:=JI o0 ⟨z0,q0⟩;have l1:=JI o1 ⟨z1,q1⟩;have l2:=JI o2 ⟨z2,q2⟩;have sF:=qX y.F (hy.F.mono (by omega) (by omega));have sG:=qX y.G (hy.G.mono (by omega) (by omega));simp (disch:=omega) only[wt,seval,kU,zaJ,zaj,f8,h8];refine .inr ⟨[0,2,5,1,3,4,6,7,8,9,10,11,12,13,14,15,16,17,18,19,20,21,22,23,24,25,26,27,28,29,30,31,32,33,34,35,36,37],[0,3,1,4,5,2,6,7,8,9,10,11,12,13,14,15,16,17,18,19,20,21,22,23,24,25,26,27,28,29,30,31,32,33,34,35,36,37],by kernel_rfl,aP (by kernel_rfl),?_⟩;simp only[mg,a0r,zaC,zbv,zd0,zdp,zbz,zdK];simp (disch:=omega) only[wt,seval,zaJ,zaj,f8,f9,f11,h8,h9,h11];refine Dx (c:=0) o0 Oa w0 n0 ?_;intro st H1 w0' hL0 hB1 hk1;have far1:Far 0 H H1:=λk h9 h=>hk1 k (RZ h9 h (by omega) (by omega))
 replace w1:WK 1000 x1.Z x1.Q x1.vZ x1.vQ H1:=w1.congr o1 λk hk=>far1 k (by omega) (by omega)
 simp only[wt,seval];refine Dx (c:=1000) o1 hB1 w1 ((far1 3050 (by omega) (by omega)).trans n1) ?_;intro st1 H2 w1' hL1 hB2 hk2;have far2:Far 1000 H1 H2:=λk h9 h=>hk2 k (RZ h9 h (by omega) (by omega))
 replace hL0:H2 (0+50+2000)=_:=(far2 (0+50+2000) (by omega) (by omega)).trans hL0;replace w2:WK 2000 x2.Z x2.Q x2.vZ x2.vQ H2:=w2.congr o2 λk hk=>(far2 k (by omega) (by omega)).trans (far1 k (by omega) (by omega))
 have rl0:(jG (zws x0.Z++qws x0.Q)).length<=2000:=by rw[qw];exact l0
 have rl1:(jG (zws x1.Z++qws x1.Q)).length<=2000:=by rw[qw];exact l1
 have rl2:(jG (zws x2.Z++qws x2.Q)).length<=2000:=by rw[qw];exact l2
 simp (disch:=omega) only[wt,seval,hL0,hL1,JU];refine Dx (c:=2000) o2 (B:=E) (by rw[aB _ _ (by omega)];exact hB2) (w2.congr o2 λk hk=>aB _ _ (by omega)) ((aB _ _ (by omega)).trans (((far2 4050 (by omega) (by omega)).trans (far1 4050 (by omega) (by omega))).trans n2)) ?_;intro st2 H3 w2' hL2 hB3 hk3;have far3:∀k,k≠999->(k<2000+2000\/2000+3000<=k)->H3 k=_:=λk h9 h=>hk3 k (RZ h9 h (by omega) (by omega))
 have hL0':H3 2050=.blk false (st+1) 28 1 (jG (zws x0.Z++qws x0.Q)++jG (zws x1.Z++qws x1.Q)):=(far3 2050 (by omega) (by omega)).trans (aA _ _ _);have c0D:(jG (zws x0.Z++qws x0.Q)++jG (zws x1.Z++qws x1.Q)).length<=4000:=by rw[zaB];omega
 simp (disch:=omega) only[wt,seval,hL0',hL2,JU];have far:∀k,k≠999->k≠2050->(k<2000\/5000<=k)->H3 k=H k:=λk h9 h2 h=>by
  rw[far3 k h9 (by omega),aB _ _ h2,far2 k h9 (by omega),far1 k h9 (by omega)]
 refine YD (st:=st+1+1) (n:=(W3 x0 x1 x2).length) (vs:=W3 x0 x1 x2) (X:=X) rfl wl hX (B:=E) (by rw[aB _ _ (by omega)];exact hB3) ⟨?_,λk hk=>?_⟩ ?_
 .rw[aA,Az,Az];rfl
 .rw[aB _ _ (by omega),aB _ _ (by omega),far _ (by omega) (by omega) (by omega),far _ (by omega) (by omega) (by omega)];exact wd' k hk
 intro H4 hB4 hk4;have fin:∀k,k≠999->k<2000->H4 k=H k:=λk h9 h=>by
  rw[hk4 k (b2s h9 (by omega) (by omega)),aB _ _ (by omega),far k h9 (by omega) (by omega)]
 clear hk1 hk2 hk3 hk4 far1 far2 far3 far hL0 hL1 hL2 hL0' w0 w1 w2 w0' w1' w2' hB1 hB2 hB3 wd' hX n0 n1 n2 h8 h9 h11 Oa;have g1:=(fin 1 (by omega) (by omega)).trans h1;have g3:=(fin 3 (by omega) (by omega)).trans h3;have g4:=(fin 4 (by omega) (by omega)).trans h4;replace kP:kJ 0 y.P p1 p2 H4:=kP.move λk h1 h2=>fin k (by omega) (by omega)
 replace kR:kJ 100 y.R r1 r2 H4:=kR.move λk h1 h2=>fin k (by omega) (by omega)
 clear fin h1 h3 h4;simp (disch:=omega) only[wt,seval,zaJ,zaj,f1,f3,g1,g3];refine QH (c:=0) (a5m hy.P) hB4 kP ?_;intro H5 kP5 hB5 hk5;replace g1:=(hk5 1 (wL (by omega) (by omega))).trans g1;replace g3:=(hk5 3 (wL (by omega) (by omega))).trans g3;replace g4:=(hk5 4 (wL (by omega) (by omega))).trans g4;replace kR:kJ 100 y.R r1 r2 H5:=kR.move λk h1 h2=>hk5 k (wL (by omega) (by omega))
 clear hk5 hB4 kP;simp (disch:=omega) only[wt,seval,zaJ,zaj,f1,f4,g1,g4];refine QH (c:=100) (a5m hy.R) hB5 kR ?_;intro H6 kR6 hB6 hk6;replace g1:=(hk6 1 (wL (by omega) (by omega))).trans g1;replace g3:=(hk6 3 (wL (by omega) (by omega))).trans g3;replace g4:=(hk6 4 (wL (by omega) (by omega))).trans g4;replace kP5:kJ 0 y.P p1 p2 H6:=kP5.move λk h1 h2=>hk6 k (wL (by omega) (by omega))
 clear hk6 hB5 kR;simp (disch:=omega) only[wt,seval,f1,f5,g1];refine ah (sF) (by rfl) (by simp) ?_;simp (disch:=omega) only[wt,seval,f1,f6,g1];refine ah (sG) (by rfl) (by simp) ?_;simp (disch:=omega) only[wt,seval,Ci];apply zaa
 .apply a1W
  .repeat' (first|exact mV.nil|exact a0p _|exact a9K _ _ _|exact b2u _|exact WW _ _|apply mV.cons)
  .kernel_rfl
 exact⟨⟨by simp only[wt,seval,f1],by simp only[wt,seval,f2],by simp only[wt,seval,f3],by simp only[wt,seval,f4],by simp only[wt,seval,f5],by simp only[wt,seval,f6],by simp only[wt,seval,f7]⟩,by simp only[seval,g1],by simp only[seval,g3],by simp only[seval,g4],kP5,kR6,_,hB6⟩
end
section
variable {p:List RI} {i:Nat}
@[reducible] def alD:Nat->Nat->Nat->Option Nat:=λh i off=>if h=3 then (if off=0 then some 1501 else if off=1 then some 1502 else none) else if h=4 then (if off=0 then some 1601 else none) else none
@[reducible] def b5I:Zi:=⟨none,λ_=>false,λ_=>false,.al alD⟩
theorem zQ : @Zi.st b5I=.al alD:=rfl
theorem DI : @zsl b5I=.sl []:=rfl
theorem a7B (i:Nat):alD 3 i 0=some 1501:=rfl
theorem b7H (i:Nat):alD 3 i 1=some 1502:=rfl
theorem b5i (i:Nat):alD 4 i 0=some 1601:=rfl
theorem b8x (i off:Nat):alD 1 i off=none:=rfl
def nz3 (k:Nat):RI:=canon (3*(k:Int)-2)
def wr (p:List RI)(i:Nat):List RI:=(List.range i).map nz3++p.drop i
def nwp (p:List RI):List RI:=(List.range p.length).map nz3
def a9I (p:List RI):wr p 0=p:=by simp[wr]
theorem b3v (p:List RI):wr p p.length=nwp p:=by simp[wr,nwp]
theorem a8h (h:i<=p.length):(wr p i).length=p.length:=by simp[wr];omega
def b3t (h:i<p.length):(wr p i).set i (nz3 i)=wr p (i+1):=by
 have e:p.drop i=p.getD i (false,[])::p.drop (i+1):=by rw[zcl h];simp[List.getD,h]
 rw[wr,wr,zeY _ _ (by simp),zae,zck,zdS,e,zd7,zec,zav,zaR];rfl
def a0z (p:List RI)(i:Nat)(c:RI):(bZ p).set i (jy c)=bZ (p.set i c):=by simp[bZ,zev]
theorem b3u (h:i<p.length):(bZ (wr p i++[m4])).set i (jy (nz3 i))=bZ (wr p (i+1)++[m4]):=by
 rw[a0z,List.set_append_left _ _ (by rw[a8h (by omega)];exact h),b3t h]
theorem a5r {q:List RI}(h:i<q.length):(bZ q).getD i []=jy (q.getD i (false,[])):=by simp[bZ,List.getD,h]
theorem b4m (h:RP 9 2 p):RP 9 2 (nwp p):=by
 refine⟨by rw[nwp,zae,zck];exact h.1,λc hc=>?_⟩;obtain⟨k,hk,rfl⟩:=zaw.1 hc;have hk:=zaK.1 hk;have:=h.1;refine⟨zad (show (wd (3*(k:Int)-2).natAbs).length<=1 from bH.mpr (by rw[zes];simp only[W];omega)) (by omega),bg _⟩
def a1A (p:List RI):((bZ (nwp p++[m4])).drop 0).take p.length=bZ (nwp p):=by
 rw[zc5,show (bZ (nwp p++[m4]))=bZ (nwp p)++bZ [m4] by simp[bZ],List.take_left' (by simp[bZ,nwp])]
theorem a6Z (p:List RI):((bZ (p++[m4])).drop 0).take p.length=bZ p:=by
 rw[zc5,show (bZ (p++[m4]))=bZ p++bZ [m4] by simp[bZ],List.take_left' (by simp[bZ])]
set_option maxHeartbeats 4000000 in
theorem b6Z {y:C14}(hy:Y5 y){p1 p2 r1 r2:Value}{f:AL.Fr}{H:AL.Hp}(h:SD y p1 p2 r1 r2 f H) :
  ∃c,(Tryz.f5.body.bind (oG 12))=some c/\@AW b5I Tryz.prog c (@a7L zi0 Tryz.prog [.tmp 2] none [cb true]) f H:=by
 refine⟨_,rfl,?_⟩;obtain⟨⟨f1,f2,f3,f4,f5,f6,f7⟩,g1,g3,g4,kP,kR,E,h9⟩:=h;have lL:=hy.L.1;simp only[wt,seval];refine aI (λf H=>∃i:Nat,i<=y.L.length/\f 12=.iv (.int .i64 i)/\f 1=.hp 1 1 0 0/\f 3=.hp 3 1 0 0/\f 4=.hp 4 1 0 0/\f 5=.iv (.sl (dN y.F))/\f 6=.iv (.sl (dN y.G))/\f 7=.iv (.sl (gI y.L))/\H 1=.blk false 1 113 6 [kC y] /\
  H 3=.blk false 1 116 3 [[.raw p1,.raw p2,.sl (jl y.P)]]/\H 4=.blk false 1 116 3 [[.raw r1,.raw r2,.sl (jl y.R)]]/\kJ 0 y.P p1 p2 H/\kJ 100 y.R r1 r2 H/\H 999=.mrk E) (λf H=>(y.L.length-bC f 12).toNat) ?_ ?_
 .refine⟨0,by omega,?_⟩;simp only[wt,seval,f1,f3,f4,f5,f6,f7,g1,g3,g4];exact⟨kP,kR,h9⟩
 clear f1 f2 f3 f4 f5 f6 f7 g1 g3 g4 kP kR h9;clear f;rintro f H ⟨i,hi,h12,f1,f3,f4,f5,f6,f7,g1,g3,g4,kP,kR,h9⟩;rw[aC h12];simp (disch:=omega) only[wt,seval,zQ,DI,h12,f7];refine bf (λhlt=>?_) (λhlt=>?_)
 .have hlt':i<y.L.length:=by omega
  have hat:=uO hlt';have hrp:=hy.L.2 _ (oz [] hlt');have sm:=ER (y.L.getD i []) (y.L.getD i []) (hrp.mono (by omega) (by omega)) (hrp.mono (by omega) (by omega));rw[zbn rfl]at sm;simp (disch:=omega) only[wt,seval,dS,I9,zQ,DI,b8x,h12,f1,f7,g1,hat];refine .inl ⟨aP (by kernel_rfl),?_⟩;refine ah (sm) (by rfl) (by simp) ?_;simp (disch:=omega) only[wt,seval,zQ,h12,f1,f3,f4,f5,f6,f7,g1,g3,g4];refine⟨aX (by kernel_rfl),?_⟩;exact⟨⟨i+1,by omega,by omega,kP,kR,h9⟩,by omega⟩
 .clear hlt;have k0:H 1500=.blk false 1 30 2 (bZ (wr y.P 0++[m4])):=by rw[a9I];exact kP.1
  have k1:H 1501=.tie (.hv 1500 1 0 y.P.length) p1:=kP.2.1;have k2:H 1502=.tie (.hs 1500 1) p2:=kP.2.2;have c0:H 1600=.blk false 1 30 2 (bZ (y.R++[m4])):=kR.1;have c1:H 1601=.tie (.hv 1600 1 0 y.R.length) r1:=kR.2.1;clear kP kR;simp (disch:=omega) only[wt,seval];refine aI (λf H=>∃i:Nat,i<=y.P.length/\f 13=.iv (.int .i64 i)/\f 1=.hp 1 1 0 0/\f 3=.hp 3 1 0 0/\f 4=.hp 4 1 0 0/\f 5=.iv (.sl (dN y.F))/\f 6=.iv (.sl (dN y.G))/\f 7=.iv (.sl (gI y.L))/\H 1=.blk false 1 113 6 [kC y] /\
   H 3=.blk false 1 116 3 [[.raw p1,.raw p2,.sl (jl y.P)]]/\H 4=.blk false 1 116 3 [[.raw r1,.raw r2,.sl (jl y.R)]]/\H 1500=.blk false 1 30 2 (bZ (wr y.P i++[m4]))/\H 1501=.tie (.hv 1500 1 0 y.P.length) p1/\H 1502=.tie (.hs 1500 1) p2/\H 1600=.blk false 1 30 2 (bZ (y.R++[m4]))/\H 1601=.tie (.hv 1600 1 0 y.R.length) r1/\H 999=.mrk E) (λf H=>(y.P.length-bC f 13).toNat) ?_ ?_
  .refine⟨0,by omega,?_⟩;simp only[wt,seval,f1,f3,f4,f5,f6,f7,g1,g3,g4,k0,k1,k2,c0,c1,h9]
  clear h12 f1 f3 f4 f5 f6 f7 g1 g3 g4 k0 k1 k2 c0 c1 h9 hi i;clear f;rintro f H ⟨i,hi,h13,f1,f3,f4,f5,f6,f7,g1,g3,g4,k0,k1,k2,c0,c1,h9⟩;rw[aC h13];have lP:=hy.P.1;simp (disch:=omega) only[wt,seval,dS,zQ,DI,a7B,h13,f3,g3,k0,k1];refine bf (λhlt=>?_) (λhlt=>?_)
  .have hlt':i<y.P.length:=by omega
   have zk:=MF (3*(i:Int)-2) (by omega) (by omega);have wl:(wr y.P i++[m4]).length=y.P.length+1:=by rw[zaB,a8h hi];rfl
   have wlr:(bZ (wr y.P i++[m4])).length=y.P.length+1:=by rw[Aw,wl]
   have b8K:=a5r (q:=wr y.P i++[m4]) (i:=i) (by omega);have b7O:=b3u hlt';rw[nz3]at b7O;simp (disch:=omega) only[wt,seval,dS,zQ,DI,b7H,h13,f3,g3,k2];refine .inl ⟨aP (by kernel_rfl),?_⟩;refine ah (zk) (by rfl) (by simp) ?_;simp (disch:=omega) only[wt,seval,zQ,DI,h13,f1,f3,f4,f5,f6,f7,g1,g3,g4,k0,k1,k2,c0,c1,h9,wlr,b8K,b7O];refine⟨aX (by kernel_rfl),?_⟩;exact⟨⟨i+1,by omega,by omega,rfl⟩,by omega⟩
  .obtain rfl:i=y.P.length:=by omega
   rw[b3v]at k0;have hn:=b4m hy.P;have cP:=a9l (nwp y.P) (hn.mono (by omega) (by omega));have gP:=a1A y.P;have gR:=a6Z y.R;have b8c:y.L.length<=2^40:=by omega
   have m1:=NK (nwp y.P) y.R y.L y.F y.G hn hy.R b8c hy.L.2 hy.F hy.G;have w1:=FX (nwp y.P) y.R y.L y.F y.G hn hy.R b8c hy.L.2 hy.F hy.G;unfold a8q at w1;clear hlt hi;simp (disch:=omega) only[wt,seval,dS,zQ,DI,a7B,f3,g3,k1];refine ah cP (c:=(1=1/\0+y.P.length<=(bZ (nwp y.P++[m4])).length)/\True) (ms:=[1500]++[]) (by simp only[gV,qU,k0,gP]) ⟨⟨rfl,by rw[Au];simp[nwp]⟩,zar⟩ ?_;simp (disch:=omega) only[wt,seval,dS,zQ,DI,a7B,b5i,f3,f4,f5,f6,f7,g3,g4,k0,k1,c1];refine .inr ⟨[0,1,2,3,4,5,6,8,9,10,11,12,13,14,15,16,7,17,18,19],[0,1,2,3,4,5,6,16,7,8,9,10,11,12,13,14,15,17,18,19],by kernel_rfl,aP (by kernel_rfl),?_⟩;simp only[mg,a0r,zaC,zbv,zd0,zdp,zdK];simp (disch:=omega) only[wt,seval,dS,zQ,DI,a7B,b5i,b8x,f1,f3,f4,f5,f6,f7,g1,g3,g4,k1,c1];refine aJ m1 (c:=(1=1/\0+y.P.length<=(bZ (nwp y.P++[m4])).length)/\(1=1/\0+y.R.length<=(bZ (y.R++[m4])).length)/\True/\True/\True/\True) (ms:=[1500,1600]) (B:=E) (by first|(simp only[gV,qU,yX,Nat.reduceEqDiff,↓reduceIte,c0,gP,gR];done)|(simp only[gV,qU,yX,Nat.reduceEqDiff,↓reduceIte,c0,gP,gR];rfl)) ⟨⟨rfl,by rw[Au];simp[nwp]⟩,⟨rfl,by rw[Au];omega⟩,zar,zar,zar,zar⟩ (by simp only[wt,seval,h9]) ?_;rintro B' E' _ hB' hE' ⟨o1,o2,o3,cs,ds,rfl,pc,qc,nw⟩;simp only[wt,seval,c0];refine ah (w1) (by rfl) (by simp) ?_;simp only[wt,seval];have sm:=Gp (o1:=o1) (o2:=o2) (o3:=o3) hn hy.R hy.L.2 hy.F hy.G pc qc;refine ah (sm) (by rfl) (by simp) ?_;simp (disch:=omega) only[wt,seval];exact aX (by kernel_rfl)
end
theorem a1S {zi:Zi}{k n:Nat}{c:Code}(hc:Tryz.f5.body.bind (oG k)=some c){S:AL.Fr->AL.Hp->Prop}{Kp:Exit->Act->World->Prop}{f:AL.Fr}{H:AL.Hp}{β:Nat->Value}{a:Act}{w w0:World}{D0:Nat->Prop}
  (R:Rel G0 M0 w0 D0 Tryz.f5.ntmps f H β a w) (h : @AWs zi Tryz.prog S n c (λ_ _ _=>False) f H)
  (hS:∀f H β a w,S f H->Rel G0 M0 w0 D0 Tryz.f5.ntmps f H β a w->(kT (k+n) (Es Tryz.prog 5)).wpIn (Wd none) 0 Tryz.prog Kp a w):(kT k (Es Tryz.prog 5)).wpIn (Wd none) 0 Tryz.prog Kp a w:=by
 have hcd:Option.map (codeOk Tryz.f5.ntmps) Tryz.f5.body=some true:=by rfl
 have hcn:Option.map dM Tryz.f5.body=some true:=by rfl
 cases hb:Tryz.f5.body with
 |none=>rw[hb]at hcd;cases hcd
 |some body =>
  rw[hb]at hc hcd hcn;simp only[zbz,zaq]at hcd hcn;exact b3R (zi:=zi) aV zfN hb hcd hcn (show oG k body=some c from hc) n R h hS
def PW {x:C14}(h:b5u x):AC Tryz.prog 5 [.agg (kC x)] none [cb true]:=by
 have hy:=y5 h;refine b7c h λw D f H β a w' hS R=>?_;generalize Ic x=y at *;obtain⟨p1,p2,r1,r2,hA⟩:=hS;obtain⟨f1,H1,⟨hB0,h9,n8,n9,n11⟩,R1⟩:=b7A R hA;obtain⟨c,hc,hs⟩:=b7b hy hB0 h9 n8 n9 n11;refine a1S hc R1 hs λf2 H2 β2 a2 w2 hS R2=>?_;obtain⟨f3,H3,β3,x0,x1,x2,X,E,hC,hk,R3⟩:=b7z R hA R2 hS (LQ hy.P hy.R hy.L.2) (LQ hy.R hy.P hy.L.2) (LU hy.F hy.G) (LU hy.G hy.F);obtain⟨c,hc,hs⟩:=b7a hy hC hk;refine a1S hc R3 hs λf H β a w hS R=>?_;obtain⟨c,hc,hs⟩:=b6Z hy hS;have hcd:Option.map (codeOk Tryz.f5.ntmps) Tryz.f5.body=some true:=by rfl
 have hcn:Option.map dM Tryz.f5.body=some true:=by rfl
 cases hb:Tryz.f5.body with
 |none=>rw[hb]at hcd;cases hcd
 |some body =>
  rw[hb]at hc hcd hcn;simp only[zbz,zaq]at hcd hcn;have hd:oG 12 body=some c:=hc;rw[J8 zfN hb,Fv hd];exact zcD (dX (zi:=b5I) aV c none _ _ _ _ _ _ _ a w (.inl (Nl hd hcn)) (Nk hd hcd) hs R) λe a w' hq=>hq.S9
theorem MW (P R K:List RI)(L:List (List RI))(F G:List RQ)(h1:Raw P)(h2:Raw R)(h3:Raw K)(h4:b2D L)(h5:YS F)(h6:YS G):AC Tryz.prog 5 [.agg (kC ⟨P,R,K,L,F,G⟩)] none [cb true]:=PW ⟨h1,h2,h3,h4,h5,h6⟩
end Go.Proofs.YtdpngipofekcfaaGreat
