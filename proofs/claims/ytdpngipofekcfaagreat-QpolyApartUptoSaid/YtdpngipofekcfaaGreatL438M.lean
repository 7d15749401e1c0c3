/-
 Contracts of the functions that the law reaches.
-/
import Derived.Test.YtdpngipofekcfaaGreatL432M
import Derived.Test.YtdpngipofekcfaaGreatAbsZ13
import Derived.Test.YtdpngipofekcfaaGreatL117M
import Derived.Test.YtdpngipofekcfaaGreatL298M
set_option maxHeartbeats 2000000
namespace Go.Proofs.YtdpngipofekcfaaGreat
open Go Go.Proofs Go.AL
set_option linter.unusedSimpArgs false
set_option linter.unusedVariables false
set_option linter.defProp false
def ob:List IV→OB
 | [.own b _ _ _]=>b
 | _=>none
def obs (rows:List (List IV)):List Nat:=rows.flatMap fun r=>oid (ob r)
theorem oJ (a b:List (List IV)):obs (a++b)=obs a++obs b:=by simp[obs]
def NV (e sz:Nat)(rows:List (List IV)):Prop:=∀ r∈rows,∃ b rs,r=[.own b e sz rs]∧rs.length≤2^41
theorem NV.app {e sz:Nat}{a b:List (List IV)}(h:NV e sz a)(k:NV e sz b):NV e sz (a++b):=fun r hr=>(List.mem_append.1 hr).elim (h r) (k r)
theorem WZ (L:List (OB×List Nat)):obs (L.map fnr)=L.flatMap fun x=>oid x.1:=by
 induction L with
 | nil=>rfl
 | cons x L ih=>rw[List.map_cons,List.flatMap_cons,← ih];rfl
theorem AP {L:List (OB×List Nat)}(h:∀ x∈L,x.2.length≤2^41):NV 148 1 (L.map fnr):=fun r hr=>by
 obtain⟨x,hx,rfl⟩:=List.mem_map.1 hr;exact⟨x.1,_,rfl,by rw[jX];exact h x hx⟩
theorem I5:∀ {bs:List (OB×OB)} {l:List RQ},bs.length=l.length→(qnl bs l).flatMap (fun x=>oid x.1)=idq bs
 | [],[],_=>rfl
 | b::bs,[],h=>by simp at h
 | [],r::l,h=>by simp at h
 | b::bs,r::l,h=>by
  have ih:=I5 (bs:=bs) (l:=l) (by simpa using h);simp only[qnl,idq,List.zipWith_cons_cons,List.flatten_cons,List.flatMap_cons,List.flatMap_append,List.flatMap_nil,List.append_nil]at ih ⊢;rw[ih]
theorem jR {bs:List (OB×OB)}{l:List RQ}{N:Nat}(h:∀ r∈l,r.1.2.length≤N∧r.2.length≤N):∀ x∈qnl bs l,x.2.length≤N:=by
 intro x hx;simp only[qnl,List.mem_flatten]at hx;obtain⟨y,hy,hx⟩:=hx;obtain⟨i,hi⟩:=List.getElem?_of_mem hy;rw[List.getElem?_zipWith]at hi;split at hi
 ·rename_i b r h1 h2;injection hi with hi;subst hi;have:=h r (List.mem_of_getElem? h2);simp only[List.mem_cons,List.not_mem_nil,or_false]at hx;rcases hx with rfl|rfl
  ·exact this.1
  ·exact this.2
 ·cases hi
theorem V3:∀ {bs:List OB} {l:List Int},bs.length=l.length→(znl bs l).flatMap (fun x=>oid x.1)=ids bs
 | [],[],_=>rfl
 | b::bs,[],h=>by simp at h
 | [],r::l,h=>by simp at h
 | b::bs,r::l,h=>by
  have ih:=V3 (bs:=bs) (l:=l) (by simpa using h);simp only[znl,ids,List.zipWith_cons_cons,List.flatMap_cons]at ih ⊢;rw[ih]
theorem Fb {bs:List OB}{l:List Int}{N:Nat}(h:∀ z∈l,(canon z).2.length≤N):∀ x∈znl bs l,x.2.length≤N:=by
 intro x hx;obtain⟨i,hi⟩:=List.getElem?_of_mem hx;rw[znl,List.getElem?_zipWith]at hi;split at hi
 ·rename_i b r h1 h2;injection hi with hi;subst hi;exact h r (List.mem_of_getElem? h2)
 ·cases hi
structure BK (s:PS) (B0 E:Nat) (pend:List Nat) (nl nr:Nat):Prop where
 l:NV 148 1 s.ls
 i:NV 30 2 s.is
 r:NV 32 3 s.rs
 c:∀ q,List.count q (obs s.ls)+List.count q (obs s.is)+List.count q (obs s.rs)+List.count q pend≤1
 g:∀ q,1≤List.count q (obs s.ls)+List.count q (obs s.is)+List.count q (obs s.rs)+List.count q pend→B0≤q∧q<E
 e:B0≤E
 n:s.ls.length≤nl∧s.fs.length≤nl∧s.ws.length≤nl
 m:s.is.length≤nr∧s.rs.length≤nr
section
variable {s:PS} {B0 E:Nat} {pend:List Nat} {nl nr:Nat}
theorem Eb {l:List Nat}(h:l.Nodup)(q:Nat):List.count q l≤1:=by
 induction l with
 | nil=>simp
 | cons x l ih =>
  obtain⟨h1,h2⟩:=List.nodup_cons.1 h;have:=ih h2;rw[List.count_cons];split
  ·rename_i e;simp only[beq_iff_eq]at e;subst e;rw[List.count_eq_zero.2 h1];omega
  ·omega
theorem BK.new (h:BK s B0 E pend nl nr){B E':Nat}{l:List Nat}(hE:E≤B)(hB:B≤E')(hn:Nw B E' l):BK s B0 E' (pend++l) nl nr:=by
 refine⟨h.l,h.i,h.r,fun q=>?_,fun q hq=>?_,by have:=h.e;omega,h.n,h.m⟩
 ·have h1:=h.c q;have h2:=Eb hn.1 q;rw[List.count_append];by_cases hq:q∈l
  ·have h3:=hn.2 q hq;have h4:¬1≤List.count q (obs s.ls)+List.count q (obs s.is)+List.count q (obs s.rs)+List.count q pend:=fun h4=>by have:=(h.g q h4).2;omega
   omega
  ·rw[List.count_eq_zero.2 hq];omega
 ·rw[List.count_append]at hq;by_cases hm:q∈l
  ·have:=hn.2 q hm;have:=h.e;omega
  ·rw[List.count_eq_zero.2 hm]at hq;have:=h.g q (by omega);omega
theorem BK.cnt (h:BK s B0 E pend nl nr){iC:List Nat}(hc:∀ q,List.count q iC≤List.count q pend):BK s B0 E iC nl nr :=
 ⟨h.l,h.i,h.r,fun q=>by have:=h.c q;have:=hc q;omega,fun q hq=>h.g q (by have:=hc q;omega),h.e,h.n,h.m⟩
theorem BK.mono (h:BK s B0 E pend nl nr){nl' nr':Nat}(h1:nl≤nl')(h2:nr≤nr'):BK s B0 E pend nl' nr' :=
 ⟨h.l,h.i,h.r,h.c,h.g,h.e,by have:=h.n;omega,by have:=h.m;omega⟩
theorem BK.outs (h:BK s B0 E pend nl nr){L:List (OB×List Nat)}{iC:List Nat}(hl:∀ x∈L,x.2.length≤2^41)(hc:∀ q,List.count q iC+List.count q (L.flatMap fun x=>oid x.1)≤List.count q pend):BK (s.outs L) B0 E iC (nl+L.length) nr:=by
 have e1:(s.outs L).ls=s.ls++L.map fnr:=rfl;have cc:∀ q,List.count q (obs (s.outs L).ls)=List.count q (obs s.ls)+List.count q (L.flatMap fun x=>oid x.1):=fun q=>by rw[e1,oJ,List.count_append,WZ]
 refine⟨h.l.app (AP hl),h.i,h.r,fun q=>?_,fun q hq=>h.g q ?_,h.e,?_,h.m⟩
 ·rw[cc];have:=h.c q;have:=hc q
  show _+_+List.count q (obs s.is)+List.count q (obs s.rs)+_≤1;omega
 ·rw[cc]at hq;have:=hc q
  change 1≤_+_+List.count q (obs s.is)+List.count q (obs s.rs)+_ at hq
  omega
 ·have:=wM s L;have:=h.n;omega
theorem BK.yM (h:BK s B0 E pend nl nr){x:QX}{iC:List Nat}(hb:x.2.1.length=x.2.2.length)(hn:x.2.2.length≤100)(hl:∀ r∈x.2.2,r.1.2.length≤2^41∧r.2.length≤2^41)(hc:∀ q,List.count q iC+(List.count q (oid x.1)+List.count q (idq x.2.1))≤List.count q pend):BK (s.yM x) B0 E iC (nl+200) (nr+1):=by
 have h1:BK (s.N7 x) B0 E (iC++idq x.2.1) nl (nr+1):=by
  have e1:(s.N7 x).rs=s.rs++[qor x]:=rfl;have cc:∀ q,List.count q (obs (s.N7 x).rs)=List.count q (obs s.rs)+List.count q (oid x.1):=fun q=>by
   rw[e1,oJ,List.count_append];simp[obs,ob,qor]
  refine⟨h.l,h.i,h.r.app fun r hr=>?_,fun q=>?_,fun q hq=>h.g q ?_,h.e,h.n,?_⟩
  ·rw[List.mem_singleton.1 hr];exact⟨_,_,rfl,by rw[bG hb];omega⟩
  ·rw[cc,List.count_append];have:=h.c q;have:=hc q
   show List.count q (obs s.ls)+List.count q (obs s.is)+_+_≤1;omega
  ·rw[cc,List.count_append]at hq;have:=hc q
   change 1≤List.count q (obs s.ls)+List.count q (obs s.is)+_+_ at hq
   omega
  ·have:=h.m;rw[e1];simp only[List.length_append,List.length_singleton];show s.is.length≤_∧_;omega
 have h2:=h1.outs (L:=qnl x.2.1 x.2.2) (iC:=iC) (jR hl) (fun q=>by rw[I5 hb,List.count_append];omega);rw[vH hb]at h2;exact h2.mono (by omega) (Nat.le_refl _)
theorem BK.yh (h:BK s B0 E pend nl nr){x:ZX}{iC:List Nat}(hb:x.2.1.length=x.2.2.length)(hn:x.2.2.length≤100)(hl:∀ z∈x.2.2,(canon z).2.length≤2^41)(hc:∀ q,List.count q iC+(List.count q (oid x.1)+List.count q (ids x.2.1))≤List.count q pend):BK (s.yh x) B0 E iC (nl+100) (nr+1):=by
 have h1:BK (s.MZ x) B0 E (iC++ids x.2.1) nl (nr+1):=by
  have e1:(s.MZ x).is=s.is++[zor x]:=rfl;have cc:∀ q,List.count q (obs (s.MZ x).is)=List.count q (obs s.is)+List.count q (oid x.1):=fun q=>by
   rw[e1,oJ,List.count_append];simp[obs,ob,zor]
  refine⟨h.l,h.i.app fun r hr=>?_,h.r,fun q=>?_,fun q hq=>h.g q ?_,h.e,h.n,?_⟩
  ·rw[List.mem_singleton.1 hr];exact⟨_,_,rfl,by rw[pJ hb];omega⟩
  ·rw[cc,List.count_append];have:=h.c q;have:=hc q
   show List.count q (obs s.ls)+_+List.count q (obs s.rs)+_≤1;omega
  ·rw[cc,List.count_append]at hq;have:=hc q
   change 1≤List.count q (obs s.ls)+_+List.count q (obs s.rs)+_ at hq
   omega
  ·have:=h.m;rw[e1];simp only[List.length_append,List.length_singleton];show _∧s.rs.length≤_;omega
 have h2:=h1.outs (L:=znl x.2.1 x.2.2) (iC:=iC) (Fb hl) (fun q=>by rw[V3 hb,List.count_append];omega);rw[NY hb]at h2;exact h2.mono (by omega) (Nat.le_refl _)
end
set_option linter.defProp false
theorem dY {rows:List (List IV)}{g c k:Nat}(hk:k<rows.length)(h:ob (rows.getD k [])=some (g,c)):1≤List.count g (obs rows):=by
 refine List.one_le_count_iff.2 (List.mem_flatMap.2 ⟨rows.getD k [],?_,?_⟩)
 ·rw[List.getD,List.getElem?_eq_getElem hk];exact List.getElem_mem hk
 ·rw[h];simp[oid]
theorem uy {rows:List (List IV)}{g c c' k k':Nat}(hk':k'<rows.length)(hlt:k<k')(h:ob (rows.getD k [])=some (g,c))(h':ob (rows.getD k' [])=some (g,c')):2≤List.count g (obs rows):=by
 have e:rows=rows.take k'++rows.drop k':=(List.take_append_drop _ _).symm;rw[e,oJ,List.count_append];have h1:1≤List.count g (obs (rows.take k')):=dY (c:=c) (k:=k) (by rw[List.length_take];omega) (by rw[List.getD,List.getElem?_take,if_pos hlt];exact h);have h2:1≤List.count g (obs (rows.drop k')):=dY (c:=c') (k:=0) (by rw[List.length_drop];omega) (by rw[List.getD,List.getElem?_drop,Nat.add_zero];exact h');omega
theorem AB {n i k:Nat}(h:(List.range n)[i]?=some k):i<n∧i=k:=by
 obtain⟨h1,h2⟩:=List.getElem?_eq_some_iff.1 h;simp at h1 h2;exact⟨h1,h2⟩
theorem a4q {w:World}{D:Nat→Prop}{b:OB}{e sz:Nat}{rs:List (List IV)}{v:Value}(h:Rep w D (.own b e sz rs) v):∃ rows:List (List IV),rows.length=rs.length∧(∀ r∈rows,r.length=sz)∧∀ (D':Nat→Prop) (B:Nat) (M:Nat→Prop),(∀ g c,b=some (g,c)→B≤g)→Go.AL.Own w D' B M v e sz rows:=by
 cases h with
 | CX=>exact⟨[],rfl,by simp,fun D' B M _=>⟨by simp,.inl ⟨rfl,rfl⟩⟩⟩
 | own rows g cap e sz cur hsz hlen hcap hg hD hcs hr =>
  have hone:∀ (i j:Nat),i<rs.length→j<sz→(cur.getD (i*sz+j) Go.undef).oneCell'=true:=fun i j hi hj=>by
   have h1:rs[i]?=some rs[i]:=List.getElem?_eq_getElem hi;have h2:j<rs[i].length:=by rw[hsz i _ h1];exact hj
   exact(hr i _ h1 j _ (List.getElem?_eq_getElem h2)).one
  have hlen2:∀ r∈(List.range rs.length).map (fun i=>(List.range sz).map fun j=>IV.raw (cur.getD (i*sz+j) Go.undef)),r.length=sz:=fun r hr'=>by
   obtain⟨i,_,rfl⟩:=List.mem_map.1 hr';simp
  refine⟨(List.range rs.length).map fun i=>(List.range sz).map fun j=>IV.raw (cur.getD (i*sz+j) Go.undef),by simp,hlen2,fun D' B M hB=>⟨hlen2,.inr ⟨g,cap,cur,by simp,.inl (hB g cap rfl),hg,by simpa using hlen,hcap,hcs,?_⟩⟩⟩;refine qo hlen2 (by simp only[List.length_map,List.length_range];rw[hcs];exact Nat.mul_le_mul_right _ hlen) fun i r hi j x hx=>?_;simp only[List.getElem?_map,Option.map_eq_some_iff]at hi;obtain⟨i',hi',rfl⟩:=hi;obtain⟨hi1,rfl⟩:=AB hi';simp only[List.getElem?_map,Option.map_eq_some_iff]at hx;obtain⟨j',hj',rfl⟩:=hx;obtain⟨hj1,rfl⟩:=AB hj';exact .raw _ (hone i j hi1 hj1)
theorem AX {G:Gh}{M:Nat→Prop}{w0:World}{D0:Nat→Prop}{N:Nat}{f:AL.Fr}{H:AL.Hp}{β:Nat→Value}{a:Act}{w:World}(R:Rel G M w0 D0 N f H β a w){h st te e sz:Nat}{rows:List (List IV)}(hH:H h=.blk false st te 1 rows)(ho:NV e sz rows) :
  ∃ (vs:List Value) (X:Nat→List (List IV)),vs.length=rows.length∧(∀ v∈vs,v.oneCell'=true) ∧
   ((rows=[]∧β h=.slice none 0 0)∨∃ g cap cur,β h=.slice (some ⟨g,0,none⟩) rows.length cap∧(w0.heap.size≤g∨M g)∧w.heap[g]?=some (.cells cur te (0,0))∧rows.length≤cap∧cap≤maxLen∧cur.size=cap∧cur.toList.take rows.length=vs) ∧
   ∀ k<rows.length,(X k).length≤2^41∧(∀ r∈X k,r.length=sz)∧(∀ (D':Nat→Prop) (B:Nat) (M:Nat→Prop),(∀ g c,ob (rows.getD k [])=some (g,c)→B≤g)→Go.AL.Own w D' B M (vs.getD k Go.undef) e sz (X k))∧∀ g,aG (vs.getD k Go.undef)=some g→(∃ c,ob (rows.getD k [])=some (g,c))∧¬DD H β D0 g:=by
 have key:∃ vs:List Value,vs.length=rows.length∧((rows=[]∧β h=.slice none 0 0)∨∃ g cap cur,β h=.slice (some ⟨g,0,none⟩) rows.length cap∧(w0.heap.size≤g∨M g)∧w.heap[g]?=some (.cells cur te (0,0))∧rows.length≤cap∧cap≤maxLen∧cur.size=cap∧cur.toList.take rows.length=vs)∧∀ k<rows.length,∃ b rs,rows.getD k []=[.own b e sz rs]∧rs.length≤2^41∧Rep w (DD H β D0) (.own b e sz rs) (vs.getD k Go.undef):=by
  rcases (R.own h _ _ _ _ hH).2 with ⟨q1,q2⟩|⟨g,cap,cur,hv,hB,hg,h1,h2,h3,h4⟩
  ·exact⟨[],by rw[q1];rfl,.inl ⟨q1,q2⟩,fun k hk=>by rw[q1]at hk;simp at hk⟩
  ·rw[Nat.mul_one]at h3 h4;have hfl:rows.flatten.length=rows.length:=by rw[bM rows (fun r hr=>by obtain⟨b,rs,rfl,_⟩:=ho r hr;rfl),Nat.mul_one]
   have hl:(cur.toList.take rows.length).length=rows.length:=by rw[← h4.length,hfl]
   refine⟨cur.toList.take rows.length,hl,.inr ⟨g,cap,cur,hv,hB,hg,h1,h2,h3,rfl⟩,fun k hk=>?_⟩;obtain⟨b,rs,e1,e2⟩:=ho (rows.getD k []) (by rw[List.getD,List.getElem?_eq_getElem hk];exact List.getElem_mem hk);refine⟨b,rs,e1,e2,?_⟩;have hf:rows.flatten[k]?=some (.own b e sz rs):=by
    have:=GL rows k (sz:=1) (fun r hr=>by obtain⟨b,rs,rfl,_⟩:=ho r hr;rfl) hk;rw[Nat.mul_one,e1]at this;have h0:((rows.flatten.drop k).take 1)[0]?=some (.own b e sz rs):=by rw[this];rfl
    rwa [List.getElem?_take,if_pos (by omega),List.getElem?_drop,Nat.add_zero]at h0
   obtain⟨u,hu,hr⟩:=h4.get k _ hf;rw[List.getD,hu];exact hr
 obtain⟨vs,hl,hcase,hk⟩:=key;obtain⟨X,hX⟩:=Classical.axiomOfChoice (r:=fun (k:Nat) (X:List (List IV))=>k<rows.length→X.length≤2^41∧(∀ r∈X,r.length=sz)∧(∀ (D':Nat→Prop) (B:Nat) (M:Nat→Prop),(∀ g c,ob (rows.getD k [])=some (g,c)→B≤g)→Go.AL.Own w D' B M (vs.getD k Go.undef) e sz X)) (fun k=>by
  by_cases h:k<rows.length
  ·obtain⟨b,rs,e1,e2,e3⟩:=hk k h;obtain⟨X,x1,x2,x3⟩:=a4q e3;exact⟨X,fun _=>⟨by omega,x2,fun D' B M hB=>x3 D' B M fun g c e=>hB g c (by rw[e1];exact e)⟩⟩
  ·exact⟨[],fun h'=>absurd h' h⟩)
 refine⟨vs,X,hl,fun v hv=>?_,hcase,fun k h=>?_⟩
 ·obtain⟨k,hk'⟩:=List.getElem?_of_mem hv;have hlt:=(List.getElem?_eq_some_iff.1 hk').1;obtain⟨b,rs,_,_,e3⟩:=hk k (by omega);have:=e3.one;rwa [List.getD,hk']at this
 ·obtain⟨x1,x2,x3⟩:=hX k h;refine⟨x1,x2,x3,fun g hg=>?_⟩;obtain⟨b,rs,e1,_,e3⟩:=hk k h;rw[(Rep.CW e3).1]at hg;cases b with
  | none=>simp[aG]at hg
  | some p =>
   simp only[Option.map_some,aG,Option.some.injEq]at hg;subst hg;exact⟨⟨p.2,by rw[e1];rfl⟩,(Rep.ids e3 p.1 (by simp[IV.ids])).1⟩
set_option maxHeartbeats 1000000 in
theorem XZ {L:Nat}{w0:World}{D0:Nat→Prop}{N:Nat}{f:AL.Fr}{H:AL.Hp}{β:Nat→Value}{a:Act}{w:World}(R:Rel G0 M0 w0 D0 N f H β a w){s:PS}{B0 E nl nr:Nat}(hL:w0.heap.size≤B0)(hp:PK s E H)(hb:BK s B0 E [] nl nr)(hnl:nl≤100000)(hnr:nr≤10000)(ht:f 5=.hp 900000 1 0 0) :
  ∃ f' H' β' n ni nq X Z Y,n≤100000∧ni≤10000∧nq≤10000∧Big X n 1∧Big Z ni 2∧Big Y nq 3∧LS n ni nq X Z Y H'∧f' 5=.hp 900000 1 0 0∧Rel G0 M0 w0 D0 N f' H' β' a w:=by
 obtain⟨a1,a2,a3,a4,a5,a6,a7,k0,k1,k2,k3,k4,k5,k6,k7,k9⟩:=hp;obtain⟨vl,X,l1,l2,l3,l4⟩:=AX R k1 hb.l;obtain⟨vi,Z,i1,i2,i3,i4⟩:=AX R k4 hb.i;obtain⟨vr,Y,r1,r2,r3,r4⟩:=AX R k5 hb.r;have bn:=hb.n;have bm:=hb.m;obtain⟨n,hn⟩:∃ n,s.ls.length=n:=⟨_,rfl⟩;obtain⟨ni,hni⟩:∃ n,s.is.length=n:=⟨_,rfl⟩;obtain⟨nq,hnq⟩:∃ n,s.rs.length=n:=⟨_,rfl⟩;rw[hn]at l1 l3 l4;rw[hni]at i1 i3 i4;rw[hnq]at r1 r3 r4;obtain⟨H',hH'⟩:∃ H':AL.Hp,H'=fun u=>if u=900000 then .nst 1 41 [.hs 900001 a1,.dead,.dead,.hs 900004 a4,.hs 900005 a5,.dead,.dead] else if u=900001 then .nst a1 27 (hsr n 1000000) else if u=900004 then .nst a4 49 (hsr ni 20000) else if u=900005 then .nst a5 22 (hsr nq 30000) else if 1000000≤u∧u<1000000+n then .blk false 1 148 1 (X (u-1000000)) else if 20000≤u∧u<20000+ni then .blk false 1 30 2 (Z (u-20000)) else if 30000≤u∧u<30000+nq then .blk false 1 32 3 (Y (u-30000)) else .none:=⟨_,rfl⟩
 obtain⟨β',Z8⟩:∃ β':Nat→Value,β'=fun u=>if 1000000≤u∧u<1000000+n then vl.getD (u-1000000) Go.undef else if 20000≤u∧u<20000+ni then vi.getD (u-20000) Go.undef else if 30000≤u∧u<30000+nq then vr.getD (u-30000) Go.undef else β u:=⟨_,rfl⟩
 have hb0:H' 900000=.nst 1 41 [.hs 900001 a1,.dead,.dead,.hs 900004 a4,.hs 900005 a5,.dead,.dead]:=by rw[hH'];rfl
 have hb1:H' 900001=.nst a1 27 (hsr n 1000000):=by rw[hH'];rfl
 have hb4:H' 900004=.nst a4 49 (hsr ni 20000):=by rw[hH'];rfl
 have hb5:H' 900005=.nst a5 22 (hsr nq 30000):=by rw[hH'];rfl
 have hl:∀ k<n,H' (k+1000000)=.blk false 1 148 1 (X k)∧β' (k+1000000)=vl.getD k Go.undef:=fun k hk=>by
  constructor
  ·rw[hH'];simp only;rw[if_neg (by omega),if_neg (by omega),if_neg (by omega),if_neg (by omega),if_pos (by omega),Nat.add_sub_cancel]
  ·rw[Z8];simp only;rw[if_pos (by omega),Nat.add_sub_cancel]
 have hi:∀ k<ni,H' (k+20000)=.blk false 1 30 2 (Z k)∧β' (k+20000)=vi.getD k Go.undef:=fun k hk=>by
  constructor
  ·rw[hH'];simp only;rw[if_neg (by omega),if_neg (by omega),if_neg (by omega),if_neg (by omega),if_neg (by omega),if_pos (by omega),Nat.add_sub_cancel]
  ·rw[Z8];simp only;rw[if_neg (by omega),if_pos (by omega),Nat.add_sub_cancel]
 have hr:∀ k<nq,H' (k+30000)=.blk false 1 32 3 (Y k)∧β' (k+30000)=vr.getD k Go.undef:=fun k hk=>by
  constructor
  ·rw[hH'];simp only;rw[if_neg (by omega),if_neg (by omega),if_neg (by omega),if_neg (by omega),if_neg (by omega),if_neg (by omega),if_pos (by omega),Nat.add_sub_cancel]
  ·rw[Z8];simp only;rw[if_neg (by omega),if_neg (by omega),if_pos (by omega),Nat.add_sub_cancel]
 have hbx:∀ u,u=900000∨u=900001∨u=900004∨u=900005→β' u=β u:=fun u hu=>by
  rw[Z8];simp only;rw[if_neg (by omega),if_neg (by omega),if_neg (by omega)]
 have cls:∀ u,(u=900000∨u=900001∨u=900004∨u=900005)∨(∃ k<n,u=k+1000000)∨(∃ k<ni,u=k+20000)∨(∃ k<nq,u=k+30000)∨H' u=.none:=fun u=>by
  by_cases c1:u=900000∨u=900001∨u=900004∨u=900005
  ·exact .inl c1
  by_cases c2:1000000≤u∧u<1000000+n
  ·exact .inr (.inl ⟨u-1000000,by omega,by omega⟩)
  by_cases c3:20000≤u∧u<20000+ni
  ·exact .inr (.inr (.inl ⟨u-20000,by omega,by omega⟩))
  by_cases c4:30000≤u∧u<30000+nq
  ·exact .inr (.inr (.inr (.inl ⟨u-30000,by omega,by omega⟩)))
  ·refine .inr (.inr (.inr (.inr ?_)));rw[hH'];simp only;rw[if_neg (by omega),if_neg (by omega),if_neg (by omega),if_neg (by omega),if_neg c2,if_neg c3,if_neg c4]
 have hmo:∀ u,(u=900000∨u=900001∨u=900004∨u=900005)→(H u).bV:=fun u hu=>by
  rcases hu with rfl|rfl|rfl|rfl
  ·rw[k0];trivial
  ·rw[k1];trivial
  ·rw[k4];trivial
  ·rw[k5];trivial
 -- whose head is which
 have hd:∀ u g,(H' u).bV→aG (β' u)=some g→((u=900000∨u=900001∨u=900004∨u=900005)∧DD H β D0 g)∨(¬DD H β D0 g∧((∃ k<n,u=k+1000000∧∃ c,ob (s.ls.getD k [])=some (g,c))∨(∃ k<ni,u=k+20000∧∃ c,ob (s.is.getD k [])=some (g,c))∨∃ k<nq,u=k+30000∧∃ c,ob (s.rs.getD k [])=some (g,c))):=fun u g hm hg=>by
  rcases cls u with c|⟨k,hk,rfl⟩|⟨k,hk,rfl⟩|⟨k,hk,rfl⟩|c
  ·rw[hbx u c]at hg;exact .inl ⟨c,.inr ⟨u,hmo u c,hg⟩⟩
  ·rw[(hl k hk).2]at hg;have:=(l4 k hk).2.2.2 g hg;exact .inr ⟨this.2,.inl ⟨k,hk,rfl,this.1⟩⟩
  ·rw[(hi k hk).2]at hg;have:=(i4 k hk).2.2.2 g hg;exact .inr ⟨this.2,.inr (.inl ⟨k,hk,rfl,this.1⟩)⟩
  ·rw[(hr k hk).2]at hg;have:=(r4 k hk).2.2.2 g hg;exact .inr ⟨this.2,.inr (.inr ⟨k,hk,rfl,this.1⟩)⟩
  ·rw[c]at hm;exact hm.elim
 have low:∀ (rows:List (List IV)) (k g c:Nat),k<rows.length→ob (rows.getD k [])=some (g,c)→(∀ q,List.count q (obs rows)≤List.count q (obs s.ls)+List.count q (obs s.is)+List.count q (obs s.rs)+List.count q [])→w0.heap.size≤g:=fun rows k g c hk h hc=>by
  have:=dY hk h;have:=(hb.g g (by have:=hc g;omega)).1;omega
 have cells:∀ (rows:List (List IV)) (vs:List Value) (h te:Nat) (base m:Nat) (hm:rows.length=m) (e1:vs.length=m) (e2:∀ v∈vs,v.oneCell'=true) (e4:∀ k<m,(H' (k+base)).stamp=1∧β' (k+base)=vs.getD k Go.undef) (e3:(rows=[]∧β h=.slice none 0 0)∨∃ g cap cur,β h=.slice (some ⟨g,0,none⟩) m cap∧(w0.heap.size≤g∨M0 g)∧w.heap[g]?=some (.cells cur te (0,0))∧m≤cap∧cap≤maxLen∧cur.size=cap∧cur.toList.take m=vs) (e5:β' h=β h),NW w (DD H' β' D0) H' β' w0.heap.size M0 (β' h) te (hsr m base):=by
  intro rows vs h te base m hm e1 e2 e4 e3 e5;rw[e5];rcases e3 with ⟨q1,q2⟩|⟨g,cap,cur,q1,q2,q3,q4,q5,q6,q7⟩
  ·have:m=0:=by rw[← hm,q1];rfl
   subst this;exact .inl ⟨rfl,q2⟩
  ·refine .inr ⟨g,cap,cur,by rw[jw];exact q1,q2,q3,by rw[jw];exact q4,q5,q6,?_,?_⟩
   ·rw[jw,q7];have key:∀ (m':Nat) (us:List Value) (j:Nat),us.length=m'→(∀ k,k<m'→us.getD k Go.undef=vs.getD (k+j) Go.undef)→j+m'=m→aF w (DD H' β' D0) H' β' ((List.range' j m').map fun k=>AV.hs (k+base) 1) us:=by
     intro m'
     induction m' with
     | zero=>intro us j hu _ _;rw[List.eq_nil_of_length_eq_zero hu];simp[aF]
     | succ m' ih =>
      intro us j hu hk hj
      match us,hu with
      | x::us,hu =>
       simp only[List.range'_succ,List.map_cons,aF];refine⟨?_,ih us (j+1) (by simpa using hu) (fun k hk'=>?_) (by omega)⟩
       ·simp only[aj];obtain⟨s1,s2⟩:=e4 j (by omega);refine⟨by omega,fun _=>?_⟩;have:=hk 0 (by omega);rw[s2,show j=0+j by omega,← this];rfl
       ·have:=hk (k+1) (by omega);rw[show k+(j+1)=k+1+j by omega,← this];rfl
    have:=key m vs 0 e1 (fun k _=>rfl) (by omega);rwa [← List.range_eq_range']at this
   ·rw[jw,q7];exact e2
 refine⟨fun u=>if u=5 then .hp 900000 1 0 0 else .dead,H',β',n,ni,nq,X,Z,Y,by omega,by omega,by omega,fun k hk=>⟨(l4 k hk).1,(l4 k hk).2.1⟩,fun k hk=>⟨(i4 k hk).1,(i4 k hk).2.1⟩,fun k hk=>⟨(r4 k hk).1,(r4 k hk).2.1⟩,⟨a1,a4,a5,_,_,_,_,hb0,hb1,hb4,hb5,fun k hk=>(hl k hk).1,fun k hk=>(hi k hk).1,fun k hk=>(hr k hk).1⟩,if_pos rfl,wH R (fun u=>?_) (fun u st e sz rows hu=>?_) (fun u st e sz rows hu=>?_) (fun u u' hne m1 m2 g hg hg'=>?_) (fun u st e rows hu=>?_) (fun u B hu=>?_) (fun u x v hu=>?_)⟩
 ·by_cases e:u=5
  ·subst e;have hx:=R.tmps 5;rw[ht]at hx;simp only[if_true,aj]at hx ⊢;rw[hb0,hbx _ (.inl rfl)];rw[k0]at hx;exact hx
  ·simp only[e,if_false,aj]
 ·rcases cls u with c|⟨k,hk,rfl⟩|⟨k,hk,rfl⟩|⟨k,hk,rfl⟩|c
  ·rcases c with rfl|rfl|rfl|rfl
   ·rw[hb0]at hu;cases hu
   ·rw[hb1]at hu;cases hu
   ·rw[hb4]at hu;cases hu
   ·rw[hb5]at hu;cases hu
  ·rw[(hl k hk).1]at hu;cases hu;rw[(hl k hk).2];exact(l4 k hk).2.2.1 _ _ _ fun g c e=>low s.ls k g c (by omega) e fun q=>by omega
  ·rw[(hi k hk).1]at hu;cases hu;rw[(hi k hk).2];exact(i4 k hk).2.2.1 _ _ _ fun g c e=>low s.is k g c (by omega) e fun q=>by omega
  ·rw[(hr k hk).1]at hu;cases hu;rw[(hr k hk).2];exact(r4 k hk).2.2.1 _ _ _ fun g c e=>low s.rs k g c (by omega) e fun q=>by omega
  ·rw[c]at hu;cases hu
 ·rcases cls u with c|⟨k,hk,rfl⟩|⟨k,hk,rfl⟩|⟨k,hk,rfl⟩|c
  ·rcases c with rfl|rfl|rfl|rfl
   ·rw[hb0]at hu;cases hu
   ·rw[hb1]at hu;cases hu
   ·rw[hb4]at hu;cases hu
   ·rw[hb5]at hu;cases hu
  ·rw[(hl k hk).1]at hu;cases hu
  ·rw[(hi k hk).1]at hu;cases hu
  ·rw[(hr k hk).1]at hu;cases hu
  ·rw[c]at hu;cases hu
 ·have cg:=hb.c g;rcases hd u g m1 hg with ⟨c,d⟩|⟨d,c⟩
  ·rcases hd u' g m2 hg' with ⟨c',d'⟩|⟨d',c'⟩
   ·rw[hbx u c]at hg;rw[hbx u' c']at hg';exact R.dis u u' hne (hmo u c) (hmo u' c') g hg hg'
   ·exact d' d
  ·rcases hd u' g m2 hg' with ⟨c',d'⟩|⟨d',c'⟩
   ·exact d d'
   ·have two:∀ (rows:List (List IV)) (k k':Nat),k<rows.length→k'<rows.length→k≠k'→(∃ c,ob (rows.getD k [])=some (g,c))→(∃ c,ob (rows.getD k' [])=some (g,c))→2≤List.count g (obs rows):=fun rows k k' h1 h2 hk ⟨c,e⟩ ⟨c',e'⟩=>by
     rcases Nat.lt_or_gt_of_ne hk with h|h
     ·exact uy h2 h e e'
     ·exact uy h1 h e' e
    rcases c with ⟨k,hk,rfl,c,hc⟩|⟨k,hk,rfl,c,hc⟩|⟨k,hk,rfl,c,hc⟩<;>rcases c' with ⟨k',hk',rfl,c',hc'⟩|⟨k',hk',rfl,c',hc'⟩|⟨k',hk',rfl,c',hc'⟩
    ·have:=two s.ls k k' (by omega) (by omega) (fun e=>hne (by rw[e])) ⟨c,hc⟩ ⟨c',hc'⟩;omega
    ·have:=dY (by omega) hc;have:=dY (by omega) hc';omega
    ·have:=dY (by omega) hc;have:=dY (by omega) hc';omega
    ·have:=dY (by omega) hc;have:=dY (by omega) hc';omega
    ·have:=two s.is k k' (by omega) (by omega) (fun e=>hne (by rw[e])) ⟨c,hc⟩ ⟨c',hc'⟩;omega
    ·have:=dY (by omega) hc;have:=dY (by omega) hc';omega
    ·have:=dY (by omega) hc;have:=dY (by omega) hc';omega
    ·have:=dY (by omega) hc;have:=dY (by omega) hc';omega
    ·have:=two s.rs k k' (by omega) (by omega) (fun e=>hne (by rw[e])) ⟨c,hc⟩ ⟨c',hc'⟩;omega
 ·rcases cls u with c|⟨k,hk,rfl⟩|⟨k,hk,rfl⟩|⟨k,hk,rfl⟩|c
  ·rcases c with rfl|rfl|rfl|rfl
   ·rw[hb0]at hu;cases hu;rw[hbx _ (.inl rfl)];rcases R.nst _ _ _ _ k0 with ⟨q1,q2⟩|⟨g,cap,cur,p1,p2,p3,p4,p5,p6,p7,p8⟩
    ·cases q1
    ·refine .inr ⟨g,cap,cur,p1,p2,p3,p4,p5,p6,?_,p8⟩;simp only[List.length_cons,List.length_nil]at p7 ⊢;generalize List.take _ cur.toList=cs at p7
     match cs,p7 with
     | [v1,v2,v3,v4,v5,v6,v7],p7 =>
      simp only[aF,aj,and_true,true_and,k1,k4,k5,hb1,hb4,hb5,hbx 900001 (.inr (.inl rfl)),hbx 900004 (.inr (.inr (.inl rfl))),hbx 900005 (.inr (.inr (.inr rfl)))]at p7 ⊢;exact⟨p7.1,p7.2.2.2.1,p7.2.2.2.2.1⟩
   ·rw[hb1]at hu;cases hu;exact cells s.ls vl 900001 _ 1000000 n hn l1 l2 (fun k hk=>⟨by rw[(hl k hk).1];rfl,(hl k hk).2⟩) l3 (hbx _ (.inr (.inl rfl)))
   ·rw[hb4]at hu;cases hu;exact cells s.is vi 900004 _ 20000 ni hni i1 i2 (fun k hk=>⟨by rw[(hi k hk).1];rfl,(hi k hk).2⟩) i3 (hbx _ (.inr (.inr (.inl rfl))))
   ·rw[hb5]at hu;cases hu;exact cells s.rs vr 900005 _ 30000 nq hnq r1 r2 (fun k hk=>⟨by rw[(hr k hk).1];rfl,(hr k hk).2⟩) r3 (hbx _ (.inr (.inr (.inr rfl))))
  ·rw[(hl k hk).1]at hu;cases hu
  ·rw[(hi k hk).1]at hu;cases hu
  ·rw[(hr k hk).1]at hu;cases hu
  ·rw[c]at hu;cases hu
 ·rcases cls u with c|⟨k,hk,rfl⟩|⟨k,hk,rfl⟩|⟨k,hk,rfl⟩|c
  ·rcases c with rfl|rfl|rfl|rfl
   ·rw[hb0]at hu;cases hu
   ·rw[hb1]at hu;cases hu
   ·rw[hb4]at hu;cases hu
   ·rw[hb5]at hu;cases hu
  ·rw[(hl k hk).1]at hu;cases hu
  ·rw[(hi k hk).1]at hu;cases hu
  ·rw[(hr k hk).1]at hu;cases hu
  ·rw[c]at hu;cases hu
 ·rcases cls u with c|⟨k,hk,rfl⟩|⟨k,hk,rfl⟩|⟨k,hk,rfl⟩|c
  ·rcases c with rfl|rfl|rfl|rfl
   ·rw[hb0]at hu;cases hu
   ·rw[hb1]at hu;cases hu
   ·rw[hb4]at hu;cases hu
   ·rw[hb5]at hu;cases hu
  ·rw[(hl k hk).1]at hu;cases hu
  ·rw[(hi k hk).1]at hu;cases hu
  ·rw[(hr k hk).1]at hu;cases hu
  ·rw[c]at hu;cases hu
set_option linter.defProp false
def hdr (b:OB)(n:Nat):Value:=match b with
 | some p=>.slice (some ⟨p.1,0,none⟩) n p.2
 | none=>.slice none 0 0
theorem xq {w:World}{D:Nat→Prop}{b:OB}{l:List Nat}{v:Value}(h:Rep w D (jo b l) v):v=hdr b l.length:=by
 have:=(Rep.CW h).1;rw[jX]at this;cases b with
 | none =>
  have h0:=(Rep.CW h).2.1;rw[jX]at h0;rw[this];simp at h0;simp[hdr,h0]
 | some p=>exact this
theorem a0D {w:World}{D:Nat→Prop}{g cap:Nat}{l:List Nat}{v:Value}(h:Rep w D (jo (some (g,cap)) l) v)(D':Nat→Prop)(B:Nat)(M:Nat→Prop)(hB:B≤g):Go.AL.Own w D' B M v 148 1 (bW l):=by
 have hsz1:∀ r∈bW l,r.length=1:=(Di l).2 trivial;cases h with
 | own _ _ _ _ _ cur hsz hlen hcap hg hD hcs hr' =>
  refine⟨hsz1,.inr ⟨g,cap,cur,rfl,.inl hB,hg,hlen,hcap,hcs,qo hsz1 (by rw[hcs];exact Nat.mul_le_mul_right _ hlen) fun i r hi j x hx=>?_⟩⟩;have hq:=hr' i r hi j x hx;rw[bW,List.getElem?_map]at hi;obtain⟨n,_,rfl⟩:=Option.map_eq_some_iff.1 hi
  match j with
  | 0 =>
   simp at hx;subst hx;generalize cur.getD _ _=u at hq ⊢;cases hq;exact .int _ _
  | j+1=>simp at hx
theorem Xl {w:World}{D D':Nat→Prop}{B:Nat}{M:Nat→Prop}{g cap m n:Nat}{l:List Nat}(h:Go.AL.Own w D B M (.slice (some ⟨g,0,none⟩) m cap) 148 1 (bW l))(hD:¬D' g)(hn:n≤l.length):Rep w D' (jo (some (g,cap)) (l.take n)) (.slice (some ⟨g,0,none⟩) n cap):=by
 rcases h.2 with ⟨_,h2⟩|⟨g',cap',cur,e1,_,hg,h1,h2,h3,h4⟩
 ·cases h2
 ·injection e1 with x1 x2 x3;injection x1 with x1;injection x1 with x1 _ _;subst x1 x3;rw[jX]at h1 h4;have hl:(bW (l.take n)).length=n:=by rw[jX,List.length_take,Nat.min_eq_left hn]
  have:=Rep.own (w:=w) (D:=D') (bW (l.take n)) g cap 148 1 cur (fun i r hi=>(Di _).2 trivial r (List.mem_of_getElem? hi)) (by omega) h2 hg hD h3 (fun i r hi j x hx=>by
   rw[bW,List.getElem?_map]at hi;obtain⟨z,hz,rfl⟩:=Option.map_eq_some_iff.1 hi
   match j with
   | 0 =>
    simp at hx;subst hx;rw[List.getElem?_take]at hz;split at hz
    ·have hf:(bW l).flatten[i]?=some (.int .u64 (z:Int)):=by
      have:∀ l:List Nat,(bW l).flatten=l.map fun x:Nat=>IV.int .u64 (x:Int):=fun l=>by
       induction l with
       | nil=>rfl
       | cons x l ih=>simp only[bW,List.map_cons,List.flatten_cons]at ih ⊢;rw[ih];rfl
      rw[this,List.getElem?_map,hz];rfl
     obtain⟨u,hu,hr⟩:=h4.get i _ hf;rw[List.getElem?_take]at hu;split at hu
     ·rw[Array.getElem?_toList]at hu;rw[Nat.mul_one,Nat.add_zero,Array.getD_eq_getD_getElem?,hu];cases hr;exact .int _ _
     ·cases hu
    ·cases hz
   | j+1=>simp at hx)
  rw[hl]at this;exact this
theorem WT {w:World}{D:Nat→Prop}{b:OB}{e sz:Nat}{rs:List (List IV)}{v:Value}(h:Rep w D (.own b e sz rs) v):∃ rows:List (List IV),rows.length=rs.length∧∀ (D':Nat→Prop),(∀ g c,b=some (g,c)→¬D' g)→Rep w D' (.own b e sz rows) v:=by
 cases h with
 | CX=>exact⟨[],rfl,fun D' _=>.CX e sz⟩
 | own rows g cap e sz cur hsz hlen hcap hg hD hcs hr =>
  have hone:∀ (i j:Nat),i<rs.length→j<sz→(cur.getD (i*sz+j) Go.undef).oneCell'=true:=fun i j hi hj=>by
   have h1:rs[i]?=some rs[i]:=List.getElem?_eq_getElem hi;have h2:j<rs[i].length:=by rw[hsz i _ h1];exact hj
   exact(hr i _ h1 j _ (List.getElem?_eq_getElem h2)).one
  refine⟨(List.range rs.length).map fun i=>(List.range sz).map fun j=>IV.raw (cur.getD (i*sz+j) Go.undef),by simp,fun D' hD'=>?_⟩;have:=Rep.own (w:=w) (D:=D') ((List.range rs.length).map fun i=>(List.range sz).map fun j=>IV.raw (cur.getD (i*sz+j) Go.undef)) g cap e sz cur (fun i r hi=>by
   simp only[List.getElem?_map,Option.map_eq_some_iff]at hi;obtain⟨i',_,rfl⟩:=hi;simp) (by simpa using hlen) hcap hg (hD' g cap rfl) hcs (fun i r hi j x hx=>by
   simp only[List.getElem?_map,Option.map_eq_some_iff]at hi;obtain⟨i',hi',rfl⟩:=hi;obtain⟨hi1,rfl⟩:=AB hi';simp only[List.getElem?_map,Option.map_eq_some_iff]at hx;obtain⟨j',hj',rfl⟩:=hx;obtain⟨hj1,rfl⟩:=AB hj';exact .raw _ (hone i j hi1 hj1))
  simpa using this
theorem Lc:∀ {a b:List (List IV)},a.length=b.length→(∀ k,k<a.length→ob (a.getD k [])=ob (b.getD k []))→obs a=obs b
 | [],[],_,_=>rfl
 | x::a,y::b,hl,h=>by
  have h0:=h 0 (by simp);have ih:=Lc (a:=a) (b:=b) (by simpa using hl) fun k hk=>by have:=h (k+1) (by simpa using hk);simpa using this
  simp only[obs,List.flatMap_cons]at ih ⊢;rw[ih];simp at h0;rw[h0]
 | [],_::_,hl,_=>by simp at hl
 | _::_,[],hl,_=>by simp at hl
theorem a4B {rows:List (List IV)}{k g c:Nat}(hk:k<rows.length)(h:ob (rows.getD k [])=some (g,c)):g∈obs rows:=List.one_le_count_iff.1 (dY hk h)
section
variable {G:Gh} {M:Nat→Prop} {w0:World} {D0:Nat→Prop} {N:Nat} {f:AL.Fr} {H:AL.Hp} {β:Nat→Value} {a:Act} {w:World}
theorem xK (R:Rel G M w0 D0 N f H β a w){h st te:Nat}{rows:List (List IV)}(hH:H h=.blk false st te 1 rows):∃ vs:List Value,vs.length=rows.length ∧
  ((rows=[]∧β h=.slice none 0 0)∨∃ g cap cur,β h=.slice (some ⟨g,0,none⟩) rows.length cap∧(w0.heap.size≤g∨M g)∧w.heap[g]?=some (.cells cur te (0,0))∧rows.length≤cap∧cap≤maxLen∧cur.size=cap∧cur.toList.take rows.length=vs)∧∀ k x,k<rows.length→rows.getD k []=[x]→Rep w (DD H β D0) x (vs.getD k Go.undef):=by
 have ho:=R.own h _ _ _ _ hH;rcases ho.2 with ⟨q1,q2⟩|⟨g,cap,cur,hv,hB,hg,h1,h2,h3,h4⟩
 ·exact⟨[],by rw[q1];rfl,.inl ⟨q1,q2⟩,fun k x hk=>by rw[q1]at hk;simp at hk⟩
 ·rw[Nat.mul_one]at h3 h4;have hfl:rows.flatten.length=rows.length:=by rw[bM rows ho.1,Nat.mul_one]
  have hl:(cur.toList.take rows.length).length=rows.length:=by rw[← h4.length,hfl]
  refine⟨cur.toList.take rows.length,hl,.inr ⟨g,cap,cur,hv,hB,hg,h1,h2,h3,rfl⟩,fun k x hk e1=>?_⟩;have hf:rows.flatten[k]?=some x:=by
   have:=GL rows k (sz:=1) ho.1 hk;rw[Nat.mul_one,e1]at this;have h0:((rows.flatten.drop k).take 1)[0]?=some x:=by rw[this];rfl
   rwa [List.getElem?_take,if_pos (by omega),List.getElem?_drop,Nat.add_zero]at h0
  obtain⟨u,hu,hr⟩:=h4.get k _ hf;rw[List.getD,hu];exact hr
theorem yV {D':Nat→Prop}{te m:Nat}{v:Value}{vs:List Value}{xs:List IV}{B:Nat}(hl:vs.length=m)(h:(m=0∧v=.slice none 0 0)∨∃ g cap cur,v=.slice (some ⟨g,0,none⟩) m cap∧(B≤g∨M g)∧w.heap[g]?=some (.cells cur te (0,0))∧m≤cap∧cap≤maxLen∧cur.size=cap∧cur.toList.take m=vs)(hx:xs.length=m)(hr:∀ k,k<m→Rep w D' (xs.getD k default) (vs.getD k Go.undef)):Go.AL.Own w D' B M v te 1 (xs.map fun x=>[x]):=by
 have hf:∀ xs:List IV,(xs.map fun x=>[x]).flatten=xs:=fun xs=>by
  induction xs with
  | nil=>rfl
  | cons x xs ih=>simp only[List.map_cons,List.flatten_cons,ih];rfl
 refine⟨fun r hr=>by obtain⟨v,_,rfl⟩:=List.mem_map.1 hr;rfl,?_⟩;rcases h with ⟨q1,q2⟩|⟨g,cap,cur,hv,hB,hg,h1,h2,h3,h4⟩
 ·subst q1;rw[List.eq_nil_of_length_eq_zero hx];exact .inl ⟨rfl,q2⟩
 ·refine .inr ⟨g,cap,cur,by rw[List.length_map,hx];exact hv,hB,hg,by rw[List.length_map,hx];exact h1,h2,by rw[h3,Nat.mul_one],?_⟩;rw[hf,List.length_map,hx,Nat.mul_one,h4];refine dI.qR (by rw[hx,hl]) fun j x hj=>?_;have hj2:j<m:=by have:=(List.getElem?_eq_some_iff.1 hj).1;omega
  have:=hr j hj2;rw[List.getD,hj]at this;exact⟨vs.getD j Go.undef,by rw[List.getD,List.getElem?_eq_getElem (by omega)];rfl,this⟩
end
set_option linter.defProp false
theorem WU {w:World}{D:Nat→Prop}{g cap e sz:Nat}{rows:List (List IV)}{v:Value}(h:Rep w D (.own (some (g,cap)) e sz rows) v):∃ cur,v=.slice (some ⟨g,0,none⟩) rows.length cap∧w.heap[g]?=some (.cells cur e (0,0))∧¬D g∧cur.size=cap*sz∧rows.length≤cap∧cap≤maxLen∧(∀ (i:Nat) (r:List IV),rows[i]?=some r→r.length=sz) ∧
  ∀ (i:Nat) (r:List IV),rows[i]?=some r→∀ (j:Nat) (x:IV),r[j]?=some x→Rep w D x (cur.getD (i*sz+j) Go.undef):=by
 cases h with
 | own _ _ _ _ _ cur hsz hlen hcap hg hD hcs hr=>exact⟨cur,rfl,hg,hD,hcs,hlen,hcap,hsz,hr⟩
def a3H (b:OB×OB)(r:RQ):List IV:=[.bool r.1.1,.raw (hdr b.1 r.1.2.length),.raw (hdr b.2 r.2.length)]
def shq (bs:List (OB×OB))(l:List RQ):List (List IV):=List.zipWith a3H bs l
theorem vk {bs:List (OB×OB)}{l:List RQ}(h:bs.length=l.length):(shq bs l).length=l.length:=by simp[shq,h]
theorem VG {bs:List (OB×OB)}{l:List RQ}(h:bs.length=l.length){i:Nat}(hi:i<l.length):(shq bs l)[i]?=some (a3H (bs.getD i (none,none)) (l.getD i q0)):=by
 have h2:i<bs.length:=by omega
 simp[shq,List.getElem?_zipWith,List.getD,hi,h2]
theorem XH (b:OB)(n:Nat):(hdr b n).oneCell'=true:=by cases b<;>rfl
theorem XT {w:World}{D:Nat→Prop}{bs:List (OB×OB)}{l:List RQ}{rows:List (List IV)}{v:Value}(h:Rep w D (.own none 32 3 rows) v):rows=[]∧v=.slice none 0 0:=by
 cases h with
 | CX=>exact⟨rfl,rfl⟩
theorem VF {w:World}{D D':Nat→Prop}{b:OB}{bs:List (OB×OB)}{l:List RQ}{v:Value}(hl:bs.length=l.length)(h:Rep w D (fqp b bs l) v)(hD':∀ g c,b=some (g,c)→¬D' g):Rep w D' (.own b 32 3 (shq bs l)) v:=by
 cases b with
 | none =>
  obtain⟨h1,rfl⟩:=XT (bs:=bs) (l:=l) h;have:l.length=0:=by rw[← bG hl,h1];rfl
  have e:shq bs l=[]:=List.eq_nil_of_length_eq_zero (by rw[vk hl,this]);rw[e];exact .CX _ _
 | some p =>
  obtain⟨g,cap⟩:=p;obtain⟨cur,rfl,q1,q2,q3,q4,q5,q6,q7⟩:=WU h;rw[bG hl]at q4 ⊢;have:=Rep.own (w:=w) (D:=D') (shq bs l) g cap 32 3 cur (fun i r hi=>?_) (by rw[vk hl];exact q4) q5 q1 (hD' g cap rfl) q3 (fun i r hi j x hx=>?_)
  ·rwa [vk hl]at this
  ·have hil:=(List.getElem?_eq_some_iff.1 hi).1;rw[vk hl]at hil;rw[VG hl hil]at hi;injection hi with hi;rw[← hi];rfl
  ·have hil:=(List.getElem?_eq_some_iff.1 hi).1;rw[vk hl]at hil;rw[VG hl hil]at hi;injection hi with hi;have q:=q7 i _ (rZ hl hil);rw[← hi]at hx
   match j,hx with
   | 0,hx =>
    cases hx;have q:=q 0 _ rfl;generalize cur.getD _ _=u at q ⊢;cases q;exact .bool _
   | 1,hx =>
    cases hx;have q:=q 1 _ rfl;rw[xq q];exact .raw _ (XH _ _)
   | 2,hx =>
    cases hx;have q:=q 2 _ rfl;rw[xq q];exact .raw _ (XH _ _)
   | j+3,hx=>simp[a3H]at hx
def scq (r:RQ):RQ:=((r.1.1,r.1.2.map xr),r.2.map xr)
theorem a4A {bs:List (OB×OB)}{l:List RQ}(hl:bs.length=l.length){i:Nat}(hi:i<l.length):((bs.getD i (none,none)).1,(l.getD i q0).1.2)∈qnl bs l∧((bs.getD i (none,none)).2,(l.getD i q0).2)∈qnl bs l:=by
 have h2:i<bs.length:=by omega
 have:[((bs.getD i (none,none)).1,(l.getD i q0).1.2),((bs.getD i (none,none)).2,(l.getD i q0).2)]∈List.zipWith (fun b r=>[(b.1,r.1.2),(b.2,r.2)]) bs l:=by
  refine List.mem_of_getElem? (i:=i) ?_;simp[List.getElem?_zipWith,List.getD,hi,h2]
 exact⟨List.mem_flatten.2 ⟨_,this,by simp⟩,List.mem_flatten.2 ⟨_,this,by simp⟩⟩
theorem QD {w:World}{D D':Nat→Prop}{b:OB}{bs:List (OB×OB)}{l:List RQ}{v:Value}(hl:bs.length=l.length)(h:Rep w D (.own b 32 3 (shq bs l)) v)(hD':∀ g c,b=some (g,c)→¬D' g)(hn:∀ x∈qnl bs l,Rep w D' (jo x.1 (x.2.map xr)) (hdr x.1 x.2.length)):Rep w D' (fqp b bs (l.map scq)) v:=by
 have hl':bs.length=(l.map scq).length:=by rw[List.length_map];exact hl
 have hll:(l.map scq).length=l.length:=List.length_map ..;cases b with
 | none =>
  obtain⟨h1,rfl⟩:=XT (bs:=bs) (l:=l) h;have:l.length=0:=by rw[← vk hl,h1];rfl
  have e:aU bs (l.map scq)=[]:=List.eq_nil_of_length_eq_zero (by rw[bG hl',hll,this]);rw[fqp,e];exact .CX _ _
 | some p =>
  obtain⟨g,cap⟩:=p;obtain⟨cur,rfl,q1,q2,q3,q4,q5,q6,q7⟩:=WU h;rw[vk hl]at q4 ⊢;have:=Rep.own (w:=w) (D:=D') (aU bs (l.map scq)) g cap 32 3 cur (fun i r hi=>(bK _ _).2 trivial r (List.mem_of_getElem? hi)) (by rw[bG hl',hll];exact q4) q5 q1 (hD' g cap rfl) q3 (fun i r hi j x hx=>?_)
  ·rwa [bG hl',hll]at this
  ·have hil:=(List.getElem?_eq_some_iff.1 hi).1;rw[bG hl',hll]at hil;rw[rZ hl' (by rw[hll];exact hil)]at hi;injection hi with hi;have q:=q7 i _ (VG hl hil);have hm:=a4A hl hil;have es:(l.map scq).getD i q0=scq (l.getD i q0):=by simp[List.getD,hil]
   rw[es]at hi;rw[← hi]at hx
   match j,hx with
   | 0,hx =>
    cases hx;have q:=q 0 _ rfl;generalize cur.getD _ _=u at q ⊢;cases q;exact .bool _
   | 1,hx =>
    cases hx;have q:=q 1 _ rfl;generalize cur.getD _ _=u at q ⊢;cases q;exact hn _ hm.1
   | 2,hx =>
    cases hx;have q:=q 2 _ rfl;generalize cur.getD _ _=u at q ⊢;cases q;exact hn _ hm.2
   | j+3,hx=>simp[frq]at hx
theorem aF.qR {w:World}{D:Nat→Prop}{H:AL.Hp}{β:Nat→Value}:∀ {xs:List AV} {vs:List Value},xs.length=vs.length→(∀ j,j<xs.length→aj w D H β (xs.getD j .undef) (vs.getD j Go.undef))→aF w D H β xs vs
 | [],[],_,_=>by simp[aF]
 | x::xs,v::vs,hl,h=>by
  simp only[aF];refine⟨by simpa using h 0 (by simp),aF.qR (by simpa using hl) fun j hj=>by simpa using h (j+1) (by simpa using hj)⟩
 | [],_::_,hl,_=>by simp at hl
 | _::_,[],hl,_=>by simp at hl
set_option linter.defProp false
structure SCR (s:PS) (A O:List (OB×List Nat)) (b:OB) (bs:List (OB×OB)) (P:List RQ) (b':OB) (bs':List (OB×OB)) (R:List RQ):Prop where
 ls:s.ls=A.map fnr++O.map fnr
 fs:s.fs=A.map (fun x=>fnr (x.1,EI x.2))++O.map fno
 hA:∀ x∈A,x.1.isSome∧x.2.length≤2^40
 hO:∀ x∈O,x.2.length≤2^41
 eA:A=qnl bs P++qnl bs' R
 b1:∀ g c,b=some (g,c)→g∈obs s.rs
 b2:∀ g c,b'=some (g,c)→g∈obs s.rs
 l1:bs.length=P.length
 l2:bs'.length=R.length
def mA (A:List (OB×List Nat))(k:Nat):Nat:=(A.getD k o0).2.length
def xA (A:List (OB×List Nat))(k:Nat):List Nat:=EI (A.getD k o0).2
structure K1 (A O:List (OB×List Nat)) (b:OB) (bs:List (OB×OB)) (P:List RQ) (b':OB) (bs':List (OB×OB)) (R:List RQ) (a1 a2 a3 a4 a5 a6 a7:Nat) (ws is rs zf qf:List (List IV)) (E:Nat) (n8:Int) (f:AL.Fr) (H:AL.Hp) (β:Nat→Value):Prop where
 f5:f 5=.hp 900000 1 0 0
 f6:f 6=.iv (.own b 32 3 (shq bs P))
 f7:f 7=.iv (.own b' 32 3 (shq bs' R))
 f8:f 8=.iv (.int .i64 n8)
 k0:H 900000=.nst 1 41 [.hs 900001 a1,.hs 900002 a2,.hs 900003 a3,.hs 900004 a4,.hs 900005 a5,.hs 900006 a6,.hs 900007 a7]
 k1:H 900001=.nst a1 27 (lsr A.length (mA A) O)
 k2:H 900002=.nst a2 27 (fsr A.length O)
 k3:H 900003=.blk false a3 27 1 ws
 k4:H 900004=.blk false a4 49 1 is
 k5:H 900005=.blk false a5 22 1 rs
 k6:H 900006=.blk false a6 49 1 zf
 k7:H 900007=.blk false a7 22 1 qf
 k9:H 999=.mrk E
 hb:∀ k<A.length,β (k+10000)=hdr (A.getD k o0).1 ((A.getD k o0).2.length+5)
theorem Mc {A:List (OB×List Nat)}{rest:List (List IV)}{k:Nat}(h:k<A.length):(A.map fnr++rest).getD k []=[jo (A.getD k o0).1 (A.getD k o0).2]:=by
 rw[List.getD,List.getElem?_append_left (by simpa using h)];simp[List.getD,h,fnr]
theorem getD_mem {A:List (OB×List Nat)}{k:Nat}(h:k<A.length):A.getD k o0∈A:=by
 rw[List.getD,List.getElem?_eq_getElem h];exact List.getElem_mem h
theorem Ku {G:Gh}{M:Nat→Prop}{w0:World}{D0:Nat→Prop}{N:Nat}{f:AL.Fr}{H:AL.Hp}{β:Nat→Value}{a:Act}{w:World}(R:Rel G M w0 D0 N f H β a w){h st te e sz:Nat}{rows:List (List IV)}(hH:H h=.blk false st te 1 rows)(ho:NV e sz rows) :
  ∃ rows':List (List IV),rows'.length=rows.length∧NV e sz rows'∧obs rows'=obs rows∧∀ D':Nat→Prop,(∀ g,g∈obs rows→¬D' g)→Go.AL.Own w D' w0.heap.size M (β h) te 1 rows':=by
 obtain⟨vs,hl,hcase,hr⟩:=xK R hH;have hk:∀ k<rows.length,∃ b rs,rows.getD k []=[.own b e sz rs]∧rs.length≤2^41:=fun k hk=>ho (rows.getD k []) (by rw[List.getD,List.getElem?_eq_getElem hk];exact List.getElem_mem hk)
 obtain⟨X,hX⟩:=Classical.axiomOfChoice (r:=fun (k:Nat) (x:IV)=>k<rows.length→∃ b rs,x=.own b e sz rs∧rs.length≤2^41∧ob (rows.getD k [])=b∧∀ D':Nat→Prop,(∀ g c,b=some (g,c)→¬D' g)→Rep w D' x (vs.getD k Go.undef)) (fun k=>by
  by_cases h:k<rows.length
  ·obtain⟨b,rs,e1,e2⟩:=hk k h;obtain⟨rows',x1,x2⟩:=WT (hr k _ h e1);exact⟨.own b e sz rows',fun _=>⟨b,rows',rfl,by omega,by rw[e1];rfl,x2⟩⟩
  ·exact⟨default,fun h'=>absurd h' h⟩)
 refine⟨((List.range rows.length).map X).map fun x=>[x],by simp,fun r hr'=>?_,Lc (by simp) fun k hk'=>?_,fun D' hD'=>?_⟩
 ·obtain⟨x,hx,rfl⟩:=List.mem_map.1 hr';obtain⟨k,hk',rfl⟩:=List.mem_map.1 hx;obtain⟨b,rs,e1,e2,_⟩:=hX k (by simpa using hk');exact⟨b,rs,by rw[e1],e2⟩
 ·have hk2:k<rows.length:=by simpa using hk'
  obtain⟨b,rs,e1,e2,e3,_⟩:=hX k hk2;rw[e3];simp[List.getD,hk2,e1,ob]
 ·refine yV hl (by rcases hcase with ⟨q1,q2⟩|q;exact .inl ⟨by rw[q1];rfl,q2⟩;exact .inr q) (by simp) fun k hk'=>?_;obtain⟨b,rs,e1,e2,e3,e4⟩:=hX k hk';have:((List.range rows.length).map X).getD k default=X k:=by simp[List.getD,hk']
  rw[this];exact e4 D' fun g c eb=>hD' g (a4B hk' (by rw[e3];exact eb))
theorem Om {G:Gh}{M:Nat→Prop}{w0:World}{D0:Nat→Prop}{N:Nat}{f:AL.Fr}{H:AL.Hp}{β:Nat→Value}{a:Act}{w:World}(R:Rel G M w0 D0 N f H β a w){h st te:Nat}{rows:List (List IV)}(hH:H h=.blk false st te 1 rows) :
  ∃ rows':List (List IV),rows'.length=rows.length∧∀ D':Nat→Prop,Go.AL.Own w D' w0.heap.size M (β h) te 1 rows':=by
 obtain⟨vs,hl,hcase,hr⟩:=xK R hH;have h1:=(R.own h _ _ _ _ hH).1;have hone:∀ k<rows.length,(vs.getD k Go.undef).oneCell'=true:=fun k hk=>by
  have hm:rows.getD k []∈rows:=by rw[List.getD,List.getElem?_eq_getElem hk];exact List.getElem_mem hk
  have:=h1 _ hm
  match hq:rows.getD k [],this with
  | [x],_=>exact(hr k x hk hq).one
 refine⟨(vs.map IV.raw).map fun x=>[x],by simp[hl],fun D'=>yV hl (by rcases hcase with ⟨q1,q2⟩|q;exact .inl ⟨by rw[q1];rfl,q2⟩;exact .inr q) (by simp[hl]) fun k hk=>?_⟩;have:(vs.map IV.raw).getD k default=.raw (vs.getD k Go.undef):=by simp[List.getD,hl,hk]
 rw[this];exact .raw _ (hone k hk)
set_option maxHeartbeats 1000000 in
theorem a5j {w0:World}{D0:Nat→Prop}{N:Nat}{f:AL.Fr}{H:AL.Hp}{β:Nat→Value}{a:Act}{w:World}(R:Rel G0 M0 w0 D0 N f H β a w){s:PS}{B0 E nl nr:Nat}(hL:w0.heap.size≤B0)(hp:PK s E H)(hb:BK s B0 E [] nl nr)(hnl:nl≤100000){A O:List (OB×List Nat)}{b:OB}{bs:List (OB×OB)}{P:List RQ}{b':OB}{bs':List (OB×OB)}{R':List RQ}(hs:SCR s A O b bs P b' bs' R'){n8:Int}
  (f5:f 5=.hp 900000 1 0 0) (f6:f 6=.iv (fqp b bs P)) (f7:f 7=.iv (fqp b' bs' R')) (f8:f 8=.iv (.int .i64 n8)) :
  ∃ f' H' β' a1 a2 a3 a4 a5 a6 a7 ws is rs zf qf,K1 A O b bs P b' bs' R' a1 a2 a3 a4 a5 a6 a7 ws is rs zf qf E n8 f' H' β'∧SK A.length (mA A) (xA A) O H' ∧
   (NV 30 2 is∧obs is=obs s.is∧is.length=s.is.length∧NV 32 3 rs∧obs rs=obs s.rs∧rs.length=s.rs.length∧ws.length=s.ws.length∧qf.length=s.qf.length)∧Rel G0 M0 w0 D0 N f' H' β' a w:=by
 obtain⟨a1,a2,a3,a4,a5,a6,a7,k0,k1,k2,k3,k4,k5,k6,k7,k9⟩:=hp;obtain⟨vl,l1,l2,l3⟩:=xK R k1;obtain⟨vf,m1,m2,m3⟩:=xK R k2;obtain⟨ws,ws1,ws2⟩:=Om R k3;obtain⟨is,is1,is2,is3,is4⟩:=Ku R k4 hb.i;obtain⟨rs,rs1,rs2,rs3,rs4⟩:=Ku R k5 hb.r;obtain⟨zf,zf1,zf2⟩:=Om R k6;obtain⟨qf,qf1,qf2⟩:=Om R k7;have bn:=hb.n;obtain⟨n,hn⟩:∃ n,A.length=n:=⟨_,rfl⟩;have hln:s.ls.length=n+O.length:=by rw[hs.ls];simp[hn]
 have hfn:s.fs.length=n+O.length:=by rw[hs.fs];simp[hn]
 -- the numbers that were handed in
 have hnum:∀ k,k<n→∃ g cap,(A.getD k o0).1=some (g,cap)∧Rep w (DD H β D0) (jo (some (g,cap)) (A.getD k o0).2) (vl.getD k Go.undef)∧Rep w (DD H β D0) (jo (some (g,cap)) (EI (A.getD k o0).2)) (vf.getD k Go.undef)∧w0.heap.size≤g:=fun k hk=>by
  have hkA:k<A.length:=by omega
  have h1:=hs.hA _ (getD_mem hkA);obtain⟨⟨g,cap⟩,hgc⟩:=Option.isSome_iff_exists.1 h1.1;refine⟨g,cap,hgc,?_,?_,?_⟩
  ·have:=l3 k (jo (A.getD k o0).1 (A.getD k o0).2) (by omega) (by rw[hs.ls];exact Mc hkA);rwa [hgc]at this
  ·have:=m3 k (jo (A.getD k o0).1 (EI (A.getD k o0).2)) (by omega) (by
    rw[hs.fs,List.getD,List.getElem?_append_left (by simpa using hkA)];simp[List.getD,hkA,fnr])
   rwa [hgc]at this
  ·have hc:1≤List.count g (obs s.ls):=dY (c:=cap) (k:=k) (by omega) (by rw[hs.ls,Mc hkA];exact hgc);have:=(hb.g g (by omega)).1;omega
 have a7b:∀ k,n≤k→k<n+O.length→Rep w (DD H β D0) (jo (O.getD (k-n) o0).1 (O.getD (k-n) o0).2) (vl.getD k Go.undef):=fun k h1 h2=>by
  refine l3 k _ (by omega) ?_;have h3:k-n<O.length:=by omega
  rw[hs.ls,List.getD,List.getElem?_append_right (by simp;omega),List.length_map,hn];simp[List.getD,h3,fnr]
 have hnilO:∀ k,n≤k→k<n+O.length→Rep w (DD H β D0) (.sl []) (vf.getD k Go.undef):=fun k h1 h2=>by
  refine m3 k _ (by omega) ?_;have h3:k-n<O.length:=by omega
  rw[hs.fs,List.getD,List.getElem?_append_right (by simp;omega),List.length_map,hn];simp[h3,fno]
 obtain⟨H',hH'⟩:∃ H':AL.Hp,H'=fun u=>if 10000≤u∧u<10000+n then .blk false 1 148 1 (bW (xA A (u-10000))) else if u=900000 then .nst 1 41 [.hs 900001 a1,.hs 900002 a2,.hs 900003 a3,.hs 900004 a4,.hs 900005 a5,.hs 900006 a6,.hs 900007 a7] else if u=900001 then .nst a1 27 (lsr n (mA A) O) else if u=900002 then .nst a2 27 (fsr n O) else if u=900003 then .blk false a3 27 1 ws else if u=900004 then .blk false a4 49 1 is else if u=900005 then .blk false a5 22 1 rs else if u=900006 then .blk false a6 49 1 zf else if u=900007 then .blk false a7 22 1 qf else if u=999 then .mrk E else .none:=⟨_,rfl⟩
 obtain⟨β',Z8⟩:∃ β':Nat→Value,β'=fun u=>if 10000≤u∧u<10000+n then hdr (A.getD (u-10000) o0).1 ((A.getD (u-10000) o0).2.length+5) else β u:=⟨_,rfl⟩
 have j0:H' 900000=.nst 1 41 [.hs 900001 a1,.hs 900002 a2,.hs 900003 a3,.hs 900004 a4,.hs 900005 a5,.hs 900006 a6,.hs 900007 a7]:=by rw[hH'];simp only;rw[if_neg (by omega)];rfl
 have j1:H' 900001=.nst a1 27 (lsr n (mA A) O):=by rw[hH'];simp only;rw[if_neg (by omega)];rfl
 have j2:H' 900002=.nst a2 27 (fsr n O):=by rw[hH'];simp only;rw[if_neg (by omega)];rfl
 have j3:H' 900003=.blk false a3 27 1 ws:=by rw[hH'];simp only;rw[if_neg (by omega)];rfl
 have j4:H' 900004=.blk false a4 49 1 is:=by rw[hH'];simp only;rw[if_neg (by omega)];rfl
 have j5:H' 900005=.blk false a5 22 1 rs:=by rw[hH'];simp only;rw[if_neg (by omega)];rfl
 have j6:H' 900006=.blk false a6 49 1 zf:=by rw[hH'];simp only;rw[if_neg (by omega)];rfl
 have j7:H' 900007=.blk false a7 22 1 qf:=by rw[hH'];simp only;rw[if_neg (by omega)];rfl
 have j9:H' 999=.mrk E:=by rw[hH'];simp only;rw[if_neg (by omega)];rfl
 have jn:∀ k<n,H' (k+10000)=.blk false 1 148 1 (bW (xA A k))∧β' (k+10000)=hdr (A.getD k o0).1 ((A.getD k o0).2.length+5):=fun k hk=>by
  constructor
  ·rw[hH'];simp only;rw[if_pos (by omega),Nat.add_sub_cancel]
  ·rw[Z8];simp only;rw[if_pos (by omega),Nat.add_sub_cancel]
 have jb:∀ u,900000≤u∧u≤900007→β' u=β u:=fun u hu=>by rw[Z8];simp only;rw[if_neg (by omega)]
 have cls:∀ u,(∃ k<n,u=k+10000)∨(u=900000∨u=900001∨u=900002∨u=900003∨u=900004∨u=900005∨u=900006∨u=900007)∨u=999∨H' u=.none:=fun u=>by
  by_cases c1:10000≤u∧u<10000+n
  ·exact .inl ⟨u-10000,by omega,by omega⟩
  by_cases c2:u=900000∨u=900001∨u=900002∨u=900003∨u=900004∨u=900005∨u=900006∨u=900007
  ·exact .inr (.inl c2)
  by_cases c3:u=999
  ·exact .inr (.inr (.inl c3))
  ·refine .inr (.inr (.inr ?_));rw[hH'];simp only;rw[if_neg c1,if_neg (by omega),if_neg (by omega),if_neg (by omega),if_neg (by omega),if_neg (by omega),if_neg (by omega),if_neg (by omega),if_neg (by omega),if_neg c3]
 have hmo:∀ u,(u=900000∨u=900001∨u=900002∨u=900003∨u=900004∨u=900005∨u=900006∨u=900007)→(H u).bV:=fun u hu=>by
  rcases hu with rfl|rfl|rfl|rfl|rfl|rfl|rfl|rfl
  ·rw[k0];trivial
  ·rw[k1];trivial
  ·rw[k2];trivial
  ·rw[k3];trivial
  ·rw[k4];trivial
  ·rw[k5];trivial
  ·rw[k6];trivial
  ·rw[k7];trivial
 have hd:∀ u g,(H' u).bV→aG (β' u)=some g→((u=900000∨u=900001∨u=900002∨u=900003∨u=900004∨u=900005∨u=900006∨u=900007)∧aG (β u)=some g∧DD H β D0 g)∨(¬DD H β D0 g∧∃ k<n,u=k+10000∧∃ c,(A.getD k o0).1=some (g,c)):=fun u g hm hg=>by
  rcases cls u with ⟨k,hk,rfl⟩|c|rfl|c
  ·rw[(jn k hk).2]at hg;obtain⟨g',cap,e1,e2,_,_⟩:=hnum k hk;rw[e1]at hg;simp only[hdr,aG,Option.some.injEq]at hg;subst hg;exact .inr ⟨(Rep.ids e2 g' (by simp[IV.ids])).1,k,hk,rfl,cap,e1⟩
  ·rw[jb u (by omega)]at hg;exact .inl ⟨c,hg,.inr ⟨u,hmo u c,hg⟩⟩
  ·rw[j9]at hm;exact hm.elim
  ·rw[c]at hm;exact hm.elim
 have cA:∀ k g c,k<n→(A.getD k o0).1=some (g,c)→1≤List.count g (obs (A.map fnr)):=fun k g c hk e=>dY (c:=c) (k:=k) (by simpa using (by omega:k<A.length)) (by
  have:=Mc (rest:=[]) (A:=A) (k:=k) (by omega);rw[List.append_nil]at this;rw[this];exact e)
 have cL:∀ g,List.count g (obs s.ls)=List.count g (obs (A.map fnr))+List.count g (obs (O.map fnr)):=fun g=>by rw[hs.ls,oJ,List.count_append]
 have dd:∀ g,DD H' β' D0 g→DD H β D0 g∨1≤List.count g (obs (A.map fnr)):=fun g hg=>by
  rcases hg with h|⟨u,hm,h⟩
  ·exact .inl (.inl h)
  ·rcases hd u g hm h with ⟨_,_,h⟩|⟨_,k,hk,_,c,e⟩
   ·exact .inl h
   ·exact .inr (cA k g c hk e)
 have nR:∀ g,¬DD H β D0 g→g∈obs s.rs→¬DD H' β' D0 g:=fun g hn hm h=>by
  rcases dd g h with h|h
  ·exact hn h
  ·have:=hb.c g;have:=cL g;have:=List.one_le_count_iff.2 hm;omega
 have nI:∀ g,¬DD H β D0 g→g∈obs s.is→¬DD H' β' D0 g:=fun g hn hm h=>by
  rcases dd g h with h|h
  ·exact hn h
  ·have:=hb.c g;have:=cL g;have:=List.one_le_count_iff.2 hm;omega
 have nO:∀ g,¬DD H β D0 g→g∈obs (O.map fnr)→¬DD H' β' D0 g:=fun g hn hm h=>by
  rcases dd g h with h|h
  ·exact hn h
  ·have:=hb.c g;have:=cL g;have:=List.one_le_count_iff.2 hm;omega
 have oD:∀ (rows:List (List IV)) (h st te e sz:Nat),H h=.blk false st te 1 rows→NV e sz rows→∀ g,g∈obs rows→¬DD H β D0 g:=fun rows h st te e sz hH ho g hg=>by
  obtain⟨vs,X,_,_,_,hx⟩:=AX R hH ho;obtain⟨vs2,hl2,_,hr2⟩:=xK R hH;obtain⟨r,hr,hg⟩:=List.mem_flatMap.1 hg;obtain⟨k,hk⟩:=List.getElem?_of_mem hr;have hkl:=(List.getElem?_eq_some_iff.1 hk).1;obtain⟨b,rs,e1,_⟩:=ho r hr;have hrep:=hr2 k (.own b e sz rs) hkl (by rw[List.getD,hk,← e1];rfl);rw[e1]at hg;refine(Rep.ids hrep g ?_).1;simp only[IV.ids,List.mem_append];refine .inl ?_;cases b with
  | none=>simp[ob,oid]at hg
  | some p=>simpa [ob,oid] using hg
 have b1H:∀ u,(u=900000∨u=900001∨u=900002∨u=900003∨u=900004∨u=900005∨u=900006∨u=900007)→900000≤u∧u≤900007:=fun u hu=>by omega
 have no6:∀ g c,b=some (g,c)→¬DD H' β' D0 g:=fun g c e=>by
  have hx:=R.tmps 6;rw[f6]at hx;simp only[aj]at hx;exact nR g (Rep.ids hx g (by rw[e];simp[IV.ids])).1 (hs.b1 g c e)
 have no7:∀ g c,b'=some (g,c)→¬DD H' β' D0 g:=fun g c e=>by
  have hx:=R.tmps 7;rw[f7]at hx;simp only[aj]at hx;exact nR g (Rep.ids hx g (by rw[e];simp[IV.ids])).1 (hs.b2 g c e)
 refine⟨fun u=>if u=5 then .hp 900000 1 0 0 else if u=6 then .iv (.own b 32 3 (shq bs P)) else if u=7 then .iv (.own b' 32 3 (shq bs' R')) else if u=8 then .iv (.int .i64 n8) else .dead,H',β',a1,a2,a3,a4,a5,a6,a7,ws,is,rs,zf,qf,⟨rfl,rfl,rfl,rfl,j0,by rw[hn];exact j1,by rw[hn];exact j2,j3,j4,j5,j6,j7,j9,fun k hk=>(jn k (by omega)).2⟩,⟨a1,a2,_,j0,by rw[hn];exact j1,by rw[hn];exact j2,fun k hk=>(jn k (by omega)).1⟩,⟨is2,is3,is1,rs2,rs3,rs1,ws1,qf1⟩,wH R (fun u=>?_) (fun u st e sz rows hu=>?_) (fun u st e sz rows hu=>?_) (fun u u' hne m1' m2' g hg hg'=>?_) (fun u st e rows hu=>?_) (fun u B hu=>?_) (fun u x v hu=>?_)⟩
 ·have hRu:=R.tmps u;by_cases e5:u=5
  ·subst e5;rw[f5]at hRu;simp only[if_true,aj]at hRu ⊢;rw[j0,jb _ (by omega)];rw[k0]at hRu;exact hRu
  by_cases e6:u=6
  ·subst e6;rw[f6]at hRu;simp only[aj]at hRu;show aj _ _ _ _ (.iv (.own b 32 3 (shq bs P))) _;simp only[aj];exact VF hs.l1 hRu no6
  by_cases e7:u=7
  ·subst e7;rw[f7]at hRu;simp only[aj]at hRu;show aj _ _ _ _ (.iv (.own b' 32 3 (shq bs' R'))) _;simp only[aj];exact VF hs.l2 hRu no7
  by_cases e8:u=8
  ·subst e8;rw[f8]at hRu;simp only[aj]at hRu;show aj _ _ _ _ (.iv (.int .i64 n8)) _;simp only[aj];generalize a.tmps.getD 8 Go.undef=z at hRu ⊢;cases hRu;exact .int _ _
  ·simp only[e5,e6,e7,e8,if_false,aj]
 ·rcases cls u with ⟨k,hk,rfl⟩|c|rfl|c
  ·rw[(jn k hk).1]at hu;cases hu;obtain⟨g,cap,e1,e2,e3,e4⟩:=hnum k hk;have hv:=xq e3;rw[nM]at hv;rw[(jn k hk).2,e1,← hv];exact a0D e3 _ _ _ e4
  ·rcases c with rfl|rfl|rfl|rfl|rfl|rfl|rfl|rfl
   ·rw[j0]at hu;cases hu
   ·rw[j1]at hu;cases hu
   ·rw[j2]at hu;cases hu
   ·rw[j3]at hu;cases hu;rw[jb _ (by omega)];exact ws2 _
   ·rw[j4]at hu;cases hu;rw[jb _ (by omega)];exact is4 _ fun g hg=>nI g (oD _ _ _ _ _ _ k4 hb.i g hg) hg
   ·rw[j5]at hu;cases hu;rw[jb _ (by omega)];exact rs4 _ fun g hg=>nR g (oD _ _ _ _ _ _ k5 hb.r g hg) hg
   ·rw[j6]at hu;cases hu;rw[jb _ (by omega)];exact zf2 _
   ·rw[j7]at hu;cases hu;rw[jb _ (by omega)];exact qf2 _
  ·rw[j9]at hu;cases hu
  ·rw[c]at hu;cases hu
 ·rcases cls u with ⟨k,hk,rfl⟩|c|rfl|c
  ·rw[(jn k hk).1]at hu;cases hu
  ·rcases c with rfl|rfl|rfl|rfl|rfl|rfl|rfl|rfl
   ·rw[j0]at hu;cases hu
   ·rw[j1]at hu;cases hu
   ·rw[j2]at hu;cases hu
   ·rw[j3]at hu;cases hu
   ·rw[j4]at hu;cases hu
   ·rw[j5]at hu;cases hu
   ·rw[j6]at hu;cases hu
   ·rw[j7]at hu;cases hu
  ·rw[j9]at hu;cases hu
  ·rw[c]at hu;cases hu
 ·rcases hd u g m1' hg with ⟨c,h1,d⟩|⟨d,k,hk,rfl,c,e⟩
  ·rcases hd u' g m2' hg' with ⟨c',h2,d'⟩|⟨d',_⟩
   ·exact R.dis u u' hne (hmo u c) (hmo u' c') g h1 h2
   ·exact d' d
  ·rcases hd u' g m2' hg' with ⟨c',_,d'⟩|⟨d',k',hk',rfl,c',e'⟩
   ·exact d d'
   ·have h1:k<s.ls.length:=by omega
    have h2:k'<s.ls.length:=by omega
    have x1:ob (s.ls.getD k [])=some (g,c):=by rw[hs.ls,Mc (by omega)];exact e
    have x2:ob (s.ls.getD k' [])=some (g,c'):=by rw[hs.ls,Mc (by omega)];exact e'
    have:=hb.c g;rcases Nat.lt_or_gt_of_ne (fun h:k=k'=>hne (by rw[h])) with h|h
    ·have:=uy h2 h x1 x2;omega
    ·have:=uy h1 h x2 x1;omega
 ·rcases cls u with ⟨k,hk,rfl⟩|c|rfl|c
  ·rw[(jn k hk).1]at hu;cases hu
  ·rcases c with rfl|rfl|rfl|rfl|rfl|rfl|rfl|rfl
   ·rw[j0]at hu;cases hu;rw[jb _ (by omega)];rcases R.nst _ _ _ _ k0 with ⟨q1,q2⟩|⟨g,cap,cur,p1,p2,p3,p4,p5,p6,p7,p8⟩
    ·cases q1
    ·refine .inr ⟨g,cap,cur,p1,p2,p3,p4,p5,p6,?_,p8⟩;simp only[List.length_cons,List.length_nil]at p7 ⊢;generalize List.take _ cur.toList=cs at p7
     match cs,p7 with
     | [v1,v2,v3,v4,v5,v6,v7],p7 =>
      simp only[aF,aj,and_true,k1,k2,k3,k4,k5,k6,k7,j1,j2,j3,j4,j5,j6,j7,jb 900001 (by omega),jb 900002 (by omega),jb 900003 (by omega),jb 900004 (by omega),jb 900005 (by omega),jb 900006 (by omega),jb 900007 (by omega)]at p7 ⊢;exact p7
   ·rw[j1]at hu;cases hu;rw[jb _ (by omega)];rcases l2 with ⟨q1,q2⟩|⟨g,cap,cur,q1,q2,q3,q4,q5,q6,q7⟩
    ·have:n+O.length=0:=by rw[← hln,q1];rfl
     exact .inl ⟨List.eq_nil_of_length_eq_zero (by rw[jH];exact this),q2⟩
    ·rw[hln]at q1 q4 q7 l1;refine .inr ⟨g,cap,cur,by rw[jH];exact q1,q2,q3,by rw[jH];exact q4,q5,q6,?_,?_⟩
     ·rw[jH,q7];refine aF.qR (by rw[jH,l1]) fun j hj=>?_;rw[jH]at hj;by_cases hjn:j<n
      ·rw[RD hjn];obtain⟨g',cap',e1,e2,e3,e4⟩:=hnum j hjn;have hv:=xq e2;have hc:=(Rep.CW e3).2;rw[jX,nM]at hc;simp only[Option.map_some,Option.getD_some]at hc;simp only[aj];rw[(jn j hjn).1];refine⟨Nat.le_refl _,fun _=>.inr ⟨g',(A.getD j o0).2.length+5,cap',cap',?_,?_,?_,hc.2,fun _=>rfl⟩⟩
       ·rw[(jn j hjn).2,e1];rfl
       ·rw[hv];simp only[hdr,Nat.zero_mul];rfl
       ·rw[mA];omega
      ·rw[OW (by omega) hj];simp only[aj];have hr:=a7b j (by omega) hj;have h3:j-n<O.length:=by omega
       refine hr.full (.own _ _ _ _ fun r hr x hx=>?_) fun g' hg'=>?_
       ·obtain⟨z,_,rfl⟩:=List.mem_map.1 hr;rw[List.mem_singleton.1 hx];exact .int _ _
       ·refine⟨rfl,nO g' (Rep.ids hr g' hg').1 (List.mem_flatMap.2 ⟨fnr (O.getD (j-n) o0),List.mem_map.2 ⟨_,getD_mem h3,rfl⟩,?_⟩)⟩;show g'∈oid (O.getD (j-n) o0).1;have:=xg (O.getD (j-n) o0).2;simp only[IV.ids,this,List.append_nil]at hg';exact hg'
     ·rw[jH,q7];intro v hv;obtain⟨k,hk⟩:=List.getElem?_of_mem hv;have hkl:=(List.getElem?_eq_some_iff.1 hk).1;by_cases hkn:k<n
      ·obtain⟨g',cap',e1,e2,e3,e4⟩:=hnum k hkn;have:=e2.one;rwa [List.getD,hk]at this
      ·have:=(a7b k (by omega) (by omega)).one;rwa [List.getD,hk]at this
   ·rw[j2]at hu;cases hu;rw[jb _ (by omega)];rcases m2 with ⟨q1,q2⟩|⟨g,cap,cur,q1,q2,q3,q4,q5,q6,q7⟩
    ·have:n+O.length=0:=by rw[← hfn,q1];rfl
     exact .inl ⟨List.eq_nil_of_length_eq_zero (by rw[mW];exact this),q2⟩
    ·rw[hfn]at q1 q4 q7 m1;refine .inr ⟨g,cap,cur,by rw[mW];exact q1,q2,q3,by rw[mW];exact q4,q5,q6,?_,?_⟩
     ·rw[mW,q7];refine aF.qR (by rw[mW,m1]) fun j hj=>?_;rw[mW]at hj;by_cases hjn:j<n
      ·rw[a2K hjn];obtain⟨g',cap',e1,e2,e3,e4⟩:=hnum j hjn;have hv:=xq e3;rw[nM]at hv;simp only[aj];rw[(jn j hjn).1];exact⟨Nat.le_refl _,fun _=>by rw[(jn j hjn).2,e1];exact hv⟩
      ·rw[XP (by omega) hj];simp only[aj];have:=hnilO j (by omega) hj;generalize vf.getD j Go.undef=z at this ⊢;cases this with
       | nil a c hc=>exact .nil _ _ hc
       | sl rows g o cap sz cell hsz hlen hcap hg hD hc hr=>exact .nil _ _ hcap
     ·rw[mW,q7];intro v hv;obtain⟨k,hk⟩:=List.getElem?_of_mem hv;have hkl:=(List.getElem?_eq_some_iff.1 hk).1;by_cases hkn:k<n
      ·obtain⟨g',cap',e1,e2,e3,e4⟩:=hnum k hkn;have:=e3.one;rwa [List.getD,hk]at this
      ·have:=(hnilO k (by omega) (by omega)).one;rwa [List.getD,hk]at this
   ·rw[j3]at hu;cases hu
   ·rw[j4]at hu;cases hu
   ·rw[j5]at hu;cases hu
   ·rw[j6]at hu;cases hu
   ·rw[j7]at hu;cases hu
  ·rw[j9]at hu;cases hu
  ·rw[c]at hu;cases hu
 ·rcases cls u with ⟨k,hk,rfl⟩|c|rfl|c
  ·rw[(jn k hk).1]at hu;cases hu
  ·rcases c with rfl|rfl|rfl|rfl|rfl|rfl|rfl|rfl
   ·rw[j0]at hu;cases hu
   ·rw[j1]at hu;cases hu
   ·rw[j2]at hu;cases hu
   ·rw[j3]at hu;cases hu
   ·rw[j4]at hu;cases hu
   ·rw[j5]at hu;cases hu
   ·rw[j6]at hu;cases hu
   ·rw[j7]at hu;cases hu
  ·rw[j9]at hu;cases hu;exact R.mrk _ _ k9
  ·rw[c]at hu;cases hu
 ·rcases cls u with ⟨k,hk,rfl⟩|c|rfl|c
  ·rw[(jn k hk).1]at hu;cases hu
  ·rcases c with rfl|rfl|rfl|rfl|rfl|rfl|rfl|rfl
   ·rw[j0]at hu;cases hu
   ·rw[j1]at hu;cases hu
   ·rw[j2]at hu;cases hu
   ·rw[j3]at hu;cases hu
   ·rw[j4]at hu;cases hu
   ·rw[j5]at hu;cases hu
   ·rw[j6]at hu;cases hu
   ·rw[j7]at hu;cases hu
  ·rw[j9]at hu;cases hu
  ·rw[c]at hu;cases hu
set_option linter.defProp false
theorem ZM (l:List Nat):(scr l.length (EI l)).take l.length=l.map xr:=by
 rw[scr,EI,List.take_left,List.drop_left,List.take_left' (by simp)]
def scA (A:List (OB×List Nat)):List (OB×List Nat):=A.map fun x=>(x.1,x.2.map xr)
theorem WY (A:List (OB×List Nat)):obs ((scA A).map fnr)=obs (A.map fnr):=by
 induction A with
 | nil=>rfl
 | cons x A ih=>simp only[scA,List.map_cons,obs,List.flatMap_cons]at ih ⊢;rw[ih];rfl
set_option maxHeartbeats 1000000 in
theorem a1v {w0:World}{D0:Nat→Prop}{N:Nat}{f:AL.Fr}{H:AL.Hp}{β:Nat→Value}{a:Act}{w:World}(R:Rel G0 M0 w0 D0 N f H β a w){s:PS}{B0 E nl nr:Nat}(hb:BK s B0 E [] nl nr)(hnl:nl≤100000){A O:List (OB×List Nat)}{b:OB}{bs:List (OB×OB)}{P:List RQ}{b':OB}{bs':List (OB×OB)}{R':List RQ}(hs:SCR s A O b bs P b' bs' R'){n8:Int}{a1 a2 a3 a4 a5 a6 a7:Nat}{ws is rs zf qf:List (List IV)}
  (h1:K1 A O b bs P b' bs' R' a1 a2 a3 a4 a5 a6 a7 ws is rs zf qf E n8 f H β) (h2:SK A.length (mA A) (fun k=>scr (mA A k) (xA A k)) O H) (hI:NV 30 2 is) (hIo:obs is=obs s.is) (hIl:is.length=s.is.length) (hR:NV 32 3 rs) (hRo:obs rs=obs s.rs) (hRl:rs.length=s.rs.length) (hwl:ws.length=s.ws.length) :
  ∃ f' H' fs,fs.length=s.fs.length∧PK ⟨(scA A).map fnr++O.map fnr,fs,ws,is,rs,zf,qf⟩ E H'∧BK ⟨(scA A).map fnr++O.map fnr,fs,ws,is,rs,zf,qf⟩ B0 E [] nl nr∧f' 5=.hp 900000 1 0 0∧f' 6=.iv (fqp b bs (P.map scq))∧f' 7=.iv (fqp b' bs' (R'.map scq))∧f' 8=.iv (.int .i64 n8)∧Rel G0 M0 w0 D0 N f' H' β a w:=by
 obtain⟨f5,f6,f7,f8,k0,k1,k2,k3,k4,k5,k6,k7,k9,hbt⟩:=h1;obtain⟨-,-,-,-,-,-,kx⟩:=h2;have bn:=hb.n;have bm:=hb.m;obtain⟨n,hn⟩:∃ n,A.length=n:=⟨_,rfl⟩;rw[hn]at k1 k2 kx hbt;have hln:s.ls.length=n+O.length:=by rw[hs.ls];simp[hn]
 have hfn:s.fs.length=n+O.length:=by rw[hs.fs];simp[hn]
 obtain⟨vf,vf1,vf2,Rf⟩:=R.Rj k2;rw[mW]at vf1;have hfo:=Rf.own _ _ _ _ _ (au H 900002 (.blk false a2 27 1 (dG vf)));obtain⟨H',hH'⟩:∃ H':AL.Hp,H'=fun u=>if u=900000 then .nst 1 41 [.hs 900001 a1,.hs 900002 a2,.hs 900003 a3,.hs 900004 a4,.hs 900005 a5,.hs 900006 a6,.hs 900007 a7] else if u=900001 then .blk false a1 27 1 ((scA A).map fnr++O.map fnr) else if u=900002 then .blk false a2 27 1 (dG vf) else if u=900003 then .blk false a3 27 1 ws else if u=900004 then .blk false a4 49 1 is else if u=900005 then .blk false a5 22 1 rs else if u=900006 then .blk false a6 49 1 zf else if u=900007 then .blk false a7 22 1 qf else if u=999 then .mrk E else .none:=⟨_,rfl⟩
 have j0:H' 900000=.nst 1 41 [.hs 900001 a1,.hs 900002 a2,.hs 900003 a3,.hs 900004 a4,.hs 900005 a5,.hs 900006 a6,.hs 900007 a7]:=by rw[hH'];rfl
 have j1:H' 900001=.blk false a1 27 1 ((scA A).map fnr++O.map fnr):=by rw[hH'];rfl
 have j2:H' 900002=.blk false a2 27 1 (dG vf):=by rw[hH'];rfl
 have j3:H' 900003=.blk false a3 27 1 ws:=by rw[hH'];rfl
 have j4:H' 900004=.blk false a4 49 1 is:=by rw[hH'];rfl
 have j5:H' 900005=.blk false a5 22 1 rs:=by rw[hH'];rfl
 have j6:H' 900006=.blk false a6 49 1 zf:=by rw[hH'];rfl
 have j7:H' 900007=.blk false a7 22 1 qf:=by rw[hH'];rfl
 have j9:H' 999=.mrk E:=by rw[hH'];rfl
 have cls:∀ u,(u=900000∨u=900001∨u=900002∨u=900003∨u=900004∨u=900005∨u=900006∨u=900007)∨u=999∨H' u=.none:=fun u=>by
  by_cases c2:u=900000∨u=900001∨u=900002∨u=900003∨u=900004∨u=900005∨u=900006∨u=900007
  ·exact .inl c2
  by_cases c3:u=999
  ·exact .inr (.inl c3)
  ·refine .inr (.inr ?_);rw[hH'];simp only;rw[if_neg (by omega),if_neg (by omega),if_neg (by omega),if_neg (by omega),if_neg (by omega),if_neg (by omega),if_neg (by omega),if_neg (by omega),if_neg c3]
 have hmo:∀ u,(u=900000∨u=900001∨u=900002∨u=900003∨u=900004∨u=900005∨u=900006∨u=900007)→(H u).bV:=fun u hu=>by
  rcases hu with rfl|rfl|rfl|rfl|rfl|rfl|rfl|rfl
  ·rw[k0];trivial
  ·rw[k1];trivial
  ·rw[k2];trivial
  ·rw[k3];trivial
  ·rw[k4];trivial
  ·rw[k5];trivial
  ·rw[k6];trivial
  ·rw[k7];trivial
 have hc:∀ u,(H' u).bV→(u=900000∨u=900001∨u=900002∨u=900003∨u=900004∨u=900005∨u=900006∨u=900007):=fun u hm=>by
  rcases cls u with c|rfl|c
  ·exact c
  ·rw[j9]at hm;exact hm.elim
  ·rw[c]at hm;exact hm.elim
 have dd:∀ g,DD H' β D0 g→DD H β D0 g:=fun g hg=>by
  rcases hg with h|⟨u,hm,h⟩
  ·exact .inl h
  ·exact .inr ⟨u,hmo u (hc u hm),h⟩
 have gr:bD w (DD H β D0) w (DD H' β D0):=bD.of_sub dd
 -- the numbers
 have hnum:∀ k,k<n→∃ g cap,(A.getD k o0).1=some (g,cap)∧β (k+10000)=.slice (some ⟨g,0,none⟩) ((A.getD k o0).2.length+5) cap∧¬DD H' β D0 g:=fun k hk=>by
  have hkA:k<A.length:=by omega
  have h1:=hs.hA _ (getD_mem hkA);obtain⟨⟨g,cap⟩,hgc⟩:=Option.isSome_iff_exists.1 h1.1;have hbk:=hbt k hk;rw[hgc]at hbk;refine⟨g,cap,hgc,hbk,fun hd=>?_⟩;have hmk:(H (k+10000)).bV:=by rw[kx k hk];trivial
  rcases hd with h|⟨u,hm,h⟩
  ·have h3:=R.old g h;have:=(R.own _ _ _ _ _ (kx k hk)).lt (k:=g) (by rw[hbk];rfl);rcases this.2 with h4|h4
   ·omega
   ·exact h4
  ·exact R.dis u (k+10000) (fun e=>by have:=hc u hm;omega) (hmo u (hc u hm)) hmk g h (by rw[hbk];rfl)
 have hnew:∀ x,x∈A→Rep w (DD H' β D0) (jo x.1 (x.2.map xr)) (hdr x.1 x.2.length):=fun x hx=>by
  obtain⟨k,hk⟩:=List.getElem?_of_mem hx;have hkl:=(List.getElem?_eq_some_iff.1 hk).1;have ex:A.getD k o0=x:=by rw[List.getD,hk];rfl
  obtain⟨g,cap,e1,e2,e3⟩:=hnum k (by omega);have ho:=R.own _ _ _ _ _ (kx k (by omega));rw[ex]at e1 e2;rw[e2]at ho;simp only[mA,xA,ex]at ho;have:=Xl (n:=x.2.length) ho e3 (by rw[Oi,nM];omega);rw[ZM]at this;rw[e1];exact this
 have hA1:∀ x,x∈qnl bs P→x∈A:=fun x hx=>by rw[hs.eA];exact List.mem_append_left _ hx
 have hA2:∀ x,x∈qnl bs' R'→x∈A:=fun x hx=>by rw[hs.eA];exact List.mem_append_right _ hx
 refine⟨fun u=>if u=5 then .hp 900000 1 0 0 else if u=6 then .iv (fqp b bs (P.map scq)) else if u=7 then .iv (fqp b' bs' (R'.map scq)) else if u=8 then .iv (.int .i64 n8) else .dead,H',dG vf,by rw[gU,vf1,hfn],⟨a1,a2,a3,a4,a5,a6,a7,j0,j1,j2,j3,j4,j5,j6,j7,j9⟩,⟨?_,hI,hR,fun q=>?_,fun q hq=>hb.g q ?_,hb.e,?_,?_⟩,rfl,rfl,rfl,rfl,wH R (fun u=>?_) (fun u st e sz rows hu=>?_) (fun u st e sz rows hu=>?_) (fun u u' hne m1' m2' g hg hg'=>R.dis u u' hne (hmo u (hc u m1')) (hmo u' (hc u' m2')) g hg hg') (fun u st e rows hu=>?_) (fun u B hu=>?_) (fun u x v hu=>?_)⟩
 ·refine(AP fun x hx=>?_).app (AP hs.hO);obtain⟨y,hy,rfl⟩:=List.mem_map.1 hx;have:=(hs.hA y hy).2;simp only[List.length_map];omega
 ·have:=hb.c q;simp only[oJ,List.count_append,WY];rw[hIo,hRo];rw[hs.ls,oJ,List.count_append]at this;exact this
 ·simp only[oJ,List.count_append,WY]at hq;rw[hIo,hRo]at hq;rw[hs.ls,oJ,List.count_append];exact hq
 ·simp only[List.length_append,List.length_map,scA,gU];omega
 ·simp only;omega
 ·have hRu:=R.tmps u;by_cases e5:u=5
  ·subst e5;rw[f5]at hRu;simp only[if_true,aj]at hRu ⊢;rw[j0];rw[k0]at hRu;exact hRu
  by_cases e6:u=6
  ·subst e6;rw[f6]at hRu;simp only[aj]at hRu;show aj _ _ _ _ (.iv (fqp b bs (P.map scq))) _;simp only[aj];exact QD hs.l1 hRu (fun g c e hd=>(Rep.ids hRu g (by rw[e];simp[IV.ids])).1 (dd g hd)) fun x hx=>hnew x (hA1 x hx)
  by_cases e7:u=7
  ·subst e7;rw[f7]at hRu;simp only[aj]at hRu;show aj _ _ _ _ (.iv (fqp b' bs' (R'.map scq))) _;simp only[aj];exact QD hs.l2 hRu (fun g c e hd=>(Rep.ids hRu g (by rw[e];simp[IV.ids])).1 (dd g hd)) fun x hx=>hnew x (hA2 x hx)
  by_cases e8:u=8
  ·subst e8;rw[f8]at hRu;simp only[aj]at hRu;show aj _ _ _ _ (.iv (.int .i64 n8)) _;simp only[aj];exact hRu.mono gr
  ·simp only[e5,e6,e7,e8,if_false,aj]
 ·rcases cls u with c|rfl|c
  ·rcases c with rfl|rfl|rfl|rfl|rfl|rfl|rfl|rfl
   ·rw[j0]at hu;cases hu
   ·rw[j1]at hu;cases hu;have e:(scA A).map fnr++O.map fnr=((scA A).map (fun x=>jo x.1 x.2)++O.map fun x=>jo x.1 x.2).map fun x=>[x]:=by simp only[List.map_append,List.map_map];rfl
    rcases R.nst _ _ _ _ k1 with ⟨q1,q2⟩|⟨g,cap,cur,p1,p2,p3,p4,p5,p6,p7,p8⟩
    ·have h0:n+O.length=0:=by have:=congrArg List.length q1;rw[jH]at this;exact this
     have hA0:A=[]:=List.eq_nil_of_length_eq_zero (by omega);have hO0:O=[]:=List.eq_nil_of_length_eq_zero (by omega);subst hA0 hO0;exact⟨by simp[scA],.inl ⟨by simp[scA],q2⟩⟩
    ·rw[jH]at p1 p4 p7;rw[e];have hl7:=p7.length;rw[jH]at hl7;refine yV (m:=n+O.length) hl7.symm (.inr ⟨g,cap,cur,p1,p2,p3,p4,p5,p6,rfl⟩) (by simp[scA,hn]) fun k hk=>?_;obtain⟨v,hv,hr⟩:=p7.get k (by rw[jH];exact hk);have ev:(cur.toList.take (n+O.length)).getD k Go.undef=v:=by rw[List.getD,hv];rfl
     rw[ev];by_cases hkn:k<n
     ·have hkA:k<A.length:=by omega
      rw[RD hkn]at hr;simp only[aj]at hr;rw[kx k hkn]at hr;obtain⟨g',cap',e1,e2,e3⟩:=hnum k hkn;have hv2:v=hdr (A.getD k o0).1 (A.getD k o0).2.length:=by
       rcases hr.2 rfl with ⟨q0,ad,c,q1,q2,q3⟩|⟨g2,n2,c2,c2',q1,q2,q3,q4,q5⟩
       ·obtain⟨n2,q4⟩:=q3 trivial;rw[e2]at q4;injection q4 with x1 x2 x3;subst x1 x3;rw[q1,e1];have:(A.getD k o0).2.length=0:=q0;rw[this];rfl
       ·rw[e2]at q1;injection q1 with x1 x2 x3;injection x1 with x1;injection x1 with x1 _ _;subst x1 x3;rw[q2,e1,q5 trivial];simp only[hdr,Nat.zero_mul,mA]
      have ex:((scA A).map (fun x=>jo x.1 x.2)++O.map fun x=>jo x.1 x.2).getD k default=jo (A.getD k o0).1 ((A.getD k o0).2.map xr):=by
       rw[List.getD,List.getElem?_append_left (by simpa [scA] using hkA)];simp[scA,List.getD,hkA]
      rw[ex,hv2];exact hnew _ (getD_mem hkA)
     ·have h3:k-n<O.length:=by omega
      rw[OW (by omega) hk]at hr;simp only[aj]at hr;have ex:((scA A).map (fun x=>jo x.1 x.2)++O.map fun x=>jo x.1 x.2).getD k default=jo (O.getD (k-n) o0).1 (O.getD (k-n) o0).2:=by
       rw[List.getD,List.getElem?_append_right (by simp[scA];omega)];simp only[scA,List.length_map,hn];simp[List.getD,h3]
      rw[ex];exact hr.mono gr
   ·rw[j2]at hu;cases hu;refine⟨fun r hr=>by obtain⟨v,_,rfl⟩:=List.mem_map.1 hr;rfl,?_⟩;rcases hfo.2 with q|⟨g,cap,cur,p1,p2,p3,p4,p5,p6,p7⟩
    ·exact .inl q
    ·exact .inr ⟨g,cap,cur,p1,p2,p3,p4,p5,p6,by
      rw[yG]at p7 ⊢;exact p7.mono (bD.of_sub fun b hb=>by
       rcases dd b hb with h|⟨u,hm,h⟩
       ·exact .inl h
       ·refine .inr ⟨u,?_,h⟩;by_cases e:u=900002
        ·subst e;rw[au];trivial
        ·rwa [ak _ _ e])⟩
   ·rw[j3]at hu;cases hu;exact(R.own _ _ _ _ _ k3).mono gr fun _ _=>rfl
   ·rw[j4]at hu;cases hu;exact(R.own _ _ _ _ _ k4).mono gr fun _ _=>rfl
   ·rw[j5]at hu;cases hu;exact(R.own _ _ _ _ _ k5).mono gr fun _ _=>rfl
   ·rw[j6]at hu;cases hu;exact(R.own _ _ _ _ _ k6).mono gr fun _ _=>rfl
   ·rw[j7]at hu;cases hu;exact(R.own _ _ _ _ _ k7).mono gr fun _ _=>rfl
  ·rw[j9]at hu;cases hu
  ·rw[c]at hu;cases hu
 ·rcases cls u with c|rfl|c
  ·rcases c with rfl|rfl|rfl|rfl|rfl|rfl|rfl|rfl
   ·rw[j0]at hu;cases hu
   ·rw[j1]at hu;cases hu
   ·rw[j2]at hu;cases hu
   ·rw[j3]at hu;cases hu
   ·rw[j4]at hu;cases hu
   ·rw[j5]at hu;cases hu
   ·rw[j6]at hu;cases hu
   ·rw[j7]at hu;cases hu
  ·rw[j9]at hu;cases hu
  ·rw[c]at hu;cases hu
 ·rcases cls u with c|rfl|c
  ·rcases c with rfl|rfl|rfl|rfl|rfl|rfl|rfl|rfl
   ·rw[j0]at hu;cases hu;rcases R.nst _ _ _ _ k0 with ⟨q1,q2⟩|⟨g,cap,cur,p1,p2,p3,p4,p5,p6,p7,p8⟩
    ·cases q1
    ·refine .inr ⟨g,cap,cur,p1,p2,p3,p4,p5,p6,?_,p8⟩;simp only[List.length_cons,List.length_nil]at p7 ⊢;generalize List.take _ cur.toList=cs at p7
     match cs,p7 with
     | [v1,v2,v3,v4,v5,v6,v7],p7 =>
      simp only[aF,aj,and_true,k1,k2,k3,k4,k5,k6,k7,j1,j2,j3,j4,j5,j6,j7]at p7 ⊢;exact p7
   ·rw[j1]at hu;cases hu
   ·rw[j2]at hu;cases hu
   ·rw[j3]at hu;cases hu
   ·rw[j4]at hu;cases hu
   ·rw[j5]at hu;cases hu
   ·rw[j6]at hu;cases hu
   ·rw[j7]at hu;cases hu
  ·rw[j9]at hu;cases hu
  ·rw[c]at hu;cases hu
 ·rcases cls u with c|rfl|c
  ·rcases c with rfl|rfl|rfl|rfl|rfl|rfl|rfl|rfl
   ·rw[j0]at hu;cases hu
   ·rw[j1]at hu;cases hu
   ·rw[j2]at hu;cases hu
   ·rw[j3]at hu;cases hu
   ·rw[j4]at hu;cases hu
   ·rw[j5]at hu;cases hu
   ·rw[j6]at hu;cases hu
   ·rw[j7]at hu;cases hu
  ·rw[j9]at hu;cases hu;exact R.mrk _ _ k9
  ·rw[c]at hu;cases hu
 ·rcases cls u with c|rfl|c
  ·rcases c with rfl|rfl|rfl|rfl|rfl|rfl|rfl|rfl
   ·rw[j0]at hu;cases hu
   ·rw[j1]at hu;cases hu
   ·rw[j2]at hu;cases hu
   ·rw[j3]at hu;cases hu
   ·rw[j4]at hu;cases hu
   ·rw[j5]at hu;cases hu
   ·rw[j6]at hu;cases hu
   ·rw[j7]at hu;cases hu
  ·rw[j9]at hu;cases hu
  ·rw[c]at hu;cases hu
set_option linter.defProp false
@[reducible] def zP:Zi:=⟨some (148,1),(· == 64),fun _=>false,.both⟩
theorem a9X (e:Nat) : @Zi.bx zP e=(e == 64):=rfl
theorem b0a (e:Nat) : @Zi.bs zP e=false:=rfl
theorem a9R : @Zi.st zP=.both:=rfl
theorem a9U : @zsl zP=.own none 148 1 []:=rfl
theorem a3D (x:IV):oP (.iv x)=.iv (vY x):=rfl
theorem a3C (r:List (List IV)):vY (.sl r)=.sl r:=rfl
theorem ZF (b:OB)(e sz:Nat)(r:List (List IV)):vY (.own b e sz r)=.own b e sz r:=rfl
theorem Vt (b:Bool):vY (.bool b)=.bool b:=rfl
theorem ZG (k:IntKind)(n:Int):vY (.int k n)=.int k n:=rfl
theorem a3F (h st i off:Nat):oP (.hp h st i off)=.hp h st i off:=rfl
theorem a3E (h st:Nat):oP (.hs h st)=.hs h st:=rfl
theorem ZE (l:List AV):oP (.tup l)=.tup l:=rfl
def b0c:=And.intro @a3D (And.intro @a3C (And.intro @ZF (And.intro @Vt (And.intro @ZG (And.intro @a3F (And.intro @a3E (@ZE)))))))
def wxP:=And.intro @b0c <| And.intro @a9X (And.intro @b0a (And.intro @a9R (@a9U)))
def KqA (P R:List RQ)(B:Nat)(f:AL.Fr)(H:AL.Hp):Prop:=((f 0=.iv (.sl (fD P))∧f 1=.iv (.sl (fD R)))∨(f 0=.hs 60 1∧H 60=.blk false 1 32 3 (fD P)∧f 1=.hs 62 1∧H 62=.blk false 1 32 3 (fD R)))∧f 5=.hp 64 1 0 0∧H 64=.nst 1 41 [.jA,.jA,.jA,.jA,.jA,.jA,.jA]∧H 999=.mrk B
set_option maxRecDepth 8000 in
set_option maxHeartbeats 4000000 in
theorem a0s (p r:List RQ)(hp:BQ (2^20) (2^20) p)(hr:BQ (2^20) (2^20) r)(B:Nat) :
  ∃ c,Tryz.f3.body.bind (kQ 0)=some c∧@AWs zP Tryz.prog (fun f H=>∃ P R,GQ 40 (2^20) P∧GQ 40 (2^20) R∧KqA P R B f H) 5 c (fun _ _ _=>False) (iQ [cqw p,cqw r]) (iP B):=by
 refine⟨_,rfl,?_⟩;have fa:=few10_ok p (Nat.le_trans hp.1 (by omega));have fb:=few10_ok r (Nat.le_trans hr.1 (by omega));have ha:BQ 40 (2^20) (p.take 40):=hp.few;have hb:BQ 40 (2^20) (r.take 40):=hr.few;have g1:=Au _ (ha.mono (by omega) (by omega));have g2:=Au _ (hb.mono (by omega) (by omega));simp only[wt,seval,aV];refine ah (a1c) (by rfl) (by simp) ?_;simp (disch:=omega) only[wt,seval,aV,wxP];refine ah (fa) (by rfl) (by simp) ?_;simp only[wt,seval,wxP];refine ah (fb) (by rfl) (by simp) ?_;simp only[wt,seval,aV,wxP];have c1:=qX 1 2 (by omega) (by omega) (by omega) (by omega);have c2:=qX 3 1 (by omega) (by omega) (by omega) (by omega);have c3:=qX 5 4 (by omega) (by omega) (by omega) (by omega);obtain⟨x1,hx1⟩:∃ x:Rat,x=((1:Int):Rat)/((2:Nat):Rat):=⟨_,rfl⟩;obtain⟨x2,hx2⟩:∃ x:Rat,x=((3:Int):Rat)/((1:Nat):Rat):=⟨_,rfl⟩;obtain⟨x3,hx3⟩:∃ x:Rat,x=((5:Int):Rat)/((4:Nat):Rat):=⟨_,rfl⟩;have q1:qz x1≤2^20:=by rw[hx1];exact Nat.le_trans (vF (c:=1) (d:=2) (M:=1) (by decide) (BH.2 (by decide)) (bT.2 (by decide))) (by decide)
 have q2:qz x2≤2^20:=by rw[hx2];exact Nat.le_trans (vF (c:=3) (d:=1) (M:=1) (by decide) (BH.2 (by decide)) (bT.2 (by decide))) (by decide)
 have q3:qz x3≤2^20:=by rw[hx3];exact Nat.le_trans (vF (c:=5) (d:=4) (M:=1) (by decide) (BH.2 (by decide)) (bT.2 (by decide))) (by decide)
 rw[← hx1]at c1;rw[← hx2]at c2;rw[← hx3]at c3;have gA:GQ 40 (2^20) [aP x1,aP x2]:=⟨by simp,fun r hr=>by
  simp only[List.mem_cons,List.not_mem_nil,or_false]at hr;rcases hr with rfl|rfl
  ·exact⟨aZ q1,Bg _⟩
  ·exact⟨aZ q2,Bg _⟩⟩
 have gB:GQ 40 (2^20) [aP x3]:=⟨by simp,fun r hr=>by
  simp only[List.mem_cons,List.not_mem_nil,or_false]at hr;subst hr;exact⟨aZ q3,Bg _⟩⟩
 cases h1:gd (p.take 40) with
 | false =>
  rw[h1]at g1;refine ah (g1) (by rfl) (by simp) ?_;simp (disch:=omega) only[wt,seval,wxP];refine ah (c1) (by rfl) (by simp) ?_;simp only[wt,seval];refine ah (c2) (by rfl) (by simp) ?_;simp (disch:=omega) only[wt,seval,wxP];refine ah (c3) (by rfl) (by simp) ?_;simp (disch:=omega) only[wt,seval,aV,cZ,wxP];exact⟨_,_,gA,gB,.inr ⟨by simp only[wt,seval],by simp only[wt,seval];try rfl,by simp only[wt,seval],by simp only[wt,seval];try rfl⟩,by simp only[wt,seval],by simp only[wt,seval],by simp only[wt,seval];try rfl⟩
 | true =>
  cases h2:gd (r.take 40) with
  | false =>
   rw[h1]at g1;rw[h2]at g2;refine ah (g1) (by rfl) (by simp) ?_;simp (disch:=omega) only[wt,seval,wxP];refine ah (g2) (by rfl) (by simp) ?_;simp (disch:=omega) only[wt,seval];refine ah (c1) (by rfl) (by simp) ?_;simp only[wt,seval];refine ah (c2) (by rfl) (by simp) ?_;simp (disch:=omega) only[wt,seval,wxP];refine ah (c3) (by rfl) (by simp) ?_;simp (disch:=omega) only[wt,seval,aV,cZ,wxP];exact⟨_,_,gA,gB,.inr ⟨by simp only[wt,seval],by simp only[wt,seval];try rfl,by simp only[wt,seval],by simp only[wt,seval];try rfl⟩,by simp only[wt,seval],by simp only[wt,seval],by simp only[wt,seval];try rfl⟩
  | true =>
   rw[h1]at g1;rw[h2]at g2;refine ah (g1) (by rfl) (by simp) ?_;simp (disch:=omega) only[wt,seval,wxP];refine ah (g2) (by rfl) (by simp) ?_;simp (disch:=omega) only[wt,seval,aV,cZ,wxP];exact⟨_,_,ha.gq h1,hb.gq h2,.inl ⟨by simp only[wt,seval],by simp only[wt,seval]⟩,by simp only[wt,seval],by simp only[wt,seval],by simp only[wt,seval];try rfl⟩
set_option linter.defProp false
theorem yJ:∀ (s:PS) {bs:List (OB×OB)} {p:List RQ},bs.length=p.length→(s.dO bs p).ls=s.ls++(qnl bs p).map fnr∧(s.dO bs p).fs=s.fs++(qnl bs p).map (fun x=>fnr (x.1,EI x.2))∧(s.dO bs p).ws=s.ws++(qnl bs p).map (fun x=>wsr (x.1,EI x.2))∧(s.dO bs p).is=s.is∧(s.dO bs p).zf=s.zf
 | s,[],[],_=>by simp[PS.dO,qnl]
 | s,x::bs,[],h=>by simp at h
 | s,[],r::p,h=>by simp at h
 | s,x::bs,r::p,h=>by
  obtain⟨h1,h2,h3,h4,h5⟩:=yJ (s.GX x.1 x.2 r) (bs:=bs) (p:=p) (by simpa using h);have e:qnl (x::bs) (r::p)=(x.1,r.1.2)::(x.2,r.2)::qnl bs p:=rfl;rw[PS.dO,h1,h2,h3,h4,h5,e];simp[PS.GX,PS.lV,fnr,wsr]
def sIn (b:OB)(bs:List (OB×OB))(P:List RQ)(b':OB)(bs':List (OB×OB))(R:List RQ):PS:=(ps0.qIn b bs P).qIn b' bs' R
theorem Oj {b:OB}{bs:List (OB×OB)}{P:List RQ}{b':OB}{bs':List (OB×OB)}{R:List RQ}(h1:bs.length=P.length)(h2:bs'.length=R.length):(sIn b bs P b' bs' R).ls=(qnl bs P++qnl bs' R).map fnr∧(sIn b bs P b' bs' R).fs=(qnl bs P++qnl bs' R).map (fun x=>fnr (x.1,EI x.2))∧(sIn b bs P b' bs' R).ws=(qnl bs P++qnl bs' R).map (fun x=>wsr (x.1,EI x.2))∧(sIn b bs P b' bs' R).is=[]∧(sIn b bs P b' bs' R).zf=[]∧(sIn b bs P b' bs' R).rs=[[fqp b bs P],[fqp b' bs' R]]∧(sIn b bs P b' bs' R).qf=[qfr (b,bs,P),qfr (b',bs',R)]:=by
 have a:=yJ ps0 h1;have c:=yJ (ps0.qIn b bs P) h2;have d:=(oQ (ps0.qIn b bs P) h2).2.2.2;refine⟨?_,?_,?_,?_,?_,rfl,rfl⟩
 ·show ((ps0.qIn b bs P).dO bs' R).ls=_;rw[c.1];show (ps0.dO bs P).ls++_=_
  rw[a.1];simp[ps0]
 ·show ((ps0.qIn b bs P).dO bs' R).fs=_;rw[c.2.1];show (ps0.dO bs P).fs++_=_
  rw[a.2.1];simp[ps0]
 ·show ((ps0.qIn b bs P).dO bs' R).ws=_;rw[c.2.2.1];show (ps0.dO bs P).ws++_=_
  rw[a.2.2.1];simp[ps0]
 ·show ((ps0.qIn b bs P).dO bs' R).is=_;rw[c.2.2.2.1];show (ps0.dO bs P).is=_
  rw[a.2.2.2.1];rfl
 ·show ((ps0.qIn b bs P).dO bs' R).zf=_;rw[c.2.2.2.2];show (ps0.dO bs P).zf=_
  rw[a.2.2.2.2];rfl
theorem a6f.nw {s:PS}{C E:Nat}{b:OB}{bs:List (OB×OB)}(h:a6f s C E b bs):Nw C E (oid b++idq bs):=by
 obtain⟨⟨h1,h2,h3⟩,g,cap,rfl,g1,g2,g3,g4⟩:=h;refine⟨?_,fun q hq=>?_⟩
 ·show (g::idq bs).Nodup;exact List.nodup_cons.2 ⟨g3,h1⟩
 ·rcases List.mem_cons.1 (show q∈g::idq bs from hq) with rfl|hq
  ·exact⟨g4,g1⟩
  ·have:=h2 q hq;exact⟨this.2.2,this.1⟩
theorem b0S {N:Nat}{p:List RQ}(h:∀ r∈p,SzQ N r):∀ r∈p,r.1.2.length≤N∧r.2.length≤N:=fun r hr=>⟨(h r hr).1.1,(h r hr).2.1⟩
theorem BQ.len {n N:Nat}{p:List RQ}(h:BQ n N p):∀ r∈p,r.1.2.length≤N∧r.2.length≤N:=b0S h.2
theorem a9i {B0 E1 E2:Nat}{b:OB}{bs:List (OB×OB)}{P:List RQ}{b':OB}{bs':List (OB×OB)}{R:List RQ}(h1:bs.length=P.length)(h2:bs'.length=R.length)(hP:BQ 40 (2^20) P)(hR:BQ 40 (2^20) R)(n1:a6f ps0 B0 E1 b bs)(n2:a6f (ps0.qIn b bs P) E1 E2 b' bs')(e1:B0≤E1)(e2:E1≤E2):BK (sIn b bs P b' bs' R) B0 E2 [] 200 10:=by
 obtain⟨q1,q2,q3,q4,q5,q6,q7⟩:=Oj (b:=b) (b':=b') h1 h2;have w:=n1.nw.append n2.nw e1 (Nat.le_refl _) e2;have c1:=fun q=>Eb w.1 q
 have o1:obs ((qnl bs P++qnl bs' R).map fnr)=idq bs++idq bs':=by rw[WZ,List.flatMap_append,I5 h1,I5 h2]
 have o2:obs [[fqp b bs P],[fqp b' bs' R]]=oid b++oid b':=by simp[obs,ob]
 have ln:=vH h1;have ln2:=vH h2;have hp1:=hP.1;have hr1:=hR.1;refine⟨?_,?_,?_,fun q=>?_,fun q hq=>?_,by omega,?_,?_⟩
 ·rw[q1];refine AP fun x hx=>?_;have:=(List.mem_append.1 hx).elim (jR hP.len x) (jR hR.len x);omega
 ·rw[q4];intro r hr;cases hr
 ·rw[q6];intro r hr;simp only[List.mem_cons,List.not_mem_nil,or_false]at hr;rcases hr with rfl|rfl
  ·exact⟨_,_,rfl,by rw[bG h1];omega⟩
  ·exact⟨_,_,rfl,by rw[bG h2];omega⟩
 ·rw[q1,q4,q6,o1,o2];have:=c1 q;simp only[List.count_append,obs,List.flatMap_nil,List.count_nil]at this ⊢;omega
 ·rw[q1,q4,q6,o1,o2]at hq;refine w.2 q (List.one_le_count_iff.1 ?_);simp only[List.count_append,obs,List.flatMap_nil,List.count_nil]at hq ⊢;omega
 ·rw[q1,q2,q3];simp only[List.length_map,List.length_append];omega
 ·rw[q4,q6];simp
def J0 (P R:List RQ)(B0 E:Nat)(b:OB)(bs:List (OB×OB))(b':OB)(bs':List (OB×OB))(f:AL.Fr)(H:AL.Hp):Prop:=f 5=.hp 900000 1 0 0∧f 6=.iv (fqp b bs P)∧f 7=.iv (fqp b' bs' R)∧bs.length=P.length∧bs'.length=R.length∧PK (sIn b bs P b' bs' R) E H∧BK (sIn b bs P b' bs' R) B0 E [] 200 10∧(∀ x∈qnl bs P++qnl bs' R,x.1.isSome)
set_option maxRecDepth 8000 in
set_option maxHeartbeats 4000000 in
theorem a0r (P R:List RQ)(hP:GQ 40 (2^20) P)(hR:GQ 40 (2^20) R)(B0:Nat)(f:AL.Fr)(H:AL.Hp)(f5:f 5=.hp 900000 1 0 0)(f0:f 0=.iv (.sl (fD P)))(f1:f 1=.iv (.sl (fD R)))(hp:PK ps0 B0 H) :
  ∃ c,Tryz.f3.body.bind (kQ 5)=some c∧@AWs zP Tryz.prog (fun f H=>∃ E b bs b' bs',J0 P R B0 E b bs b' bs' f H) 1 c (fun _ _ _=>False) f H:=by
 refine⟨_,rfl,?_⟩;have lP:=hP.bq.len;have lR:=hR.bq.len;have nP:=hP.1;have nR:=hR.1;simp only[wt,seval,aV,wxP,f5,f0];refine uI (a2w ps0 B0 P (fun r hr=>⟨Nat.le_trans (lP r hr).1 (by decide),Nat.le_trans (lP r hr).2 (by decide)⟩) (by omega) (by simp[ps0]) (by simp[ps0]) (by simp[ps0]) (by simp[ps0]) (by simp[ps0])) hp ?_;rintro _ _ E1 H1 ⟨b,bs,rfl,rfl,hl1,n1,e1⟩ hp1 hk1;have ln:=oQ ps0 hl1;simp only[wt,seval,wxP,f5,f1];refine uI (a2w (ps0.qIn b bs P) E1 R (fun r hr=>⟨Nat.le_trans (lR r hr).1 (by decide),Nat.le_trans (lR r hr).2 (by decide)⟩) (by omega) (by show (ps0.dO bs P).ls.length≤_;rw[ln.1];simp[ps0];omega) (by show (ps0.dO bs P).fs.length≤_;rw[ln.2.1];simp[ps0];omega) (by show (ps0.dO bs P).ws.length≤_;rw[ln.2.2.1];simp[ps0];omega) (by simp[PS.qIn,ps0]) (by simp[PS.qIn,ps0])) hp1 ?_;rintro _ _ E2 H2 ⟨b',bs',rfl,rfl,hl2,n2,e2⟩ hp2 hk2;simp only[wt,seval,cZ];refine⟨E2,b,bs,b',bs',by simp only[wt,seval,f5],by simp only[wt,seval],by simp only[wt,seval],hl1,hl2,hp2,a9i hl1 hl2 hP.bq hR.bq n1 n2 e1 e2,fun x hx=>?_⟩;have key:∀ {bs:List (OB×OB)} {p:List RQ},(∀ x∈bs,x.1.isSome∧x.2.isSome)→∀ x∈qnl bs p,x.1.isSome:=fun {bs p} h x hx=>by
  simp only[qnl,List.mem_flatten]at hx;obtain⟨y,hy,hx⟩:=hx;obtain⟨i,hi⟩:=List.getElem?_of_mem hy;rw[List.getElem?_zipWith]at hi;split at hi
  ·rename_i u r h1 h2;injection hi with hi;subst hi;have:=h u (List.mem_of_getElem? h1);simp only[List.mem_cons,List.not_mem_nil,or_false]at hx;rcases hx with rfl|rfl
   ·exact this.1
   ·exact this.2
  ·cases hi
 exact(List.mem_append.1 hx).elim (key n1.1.2.2 x) (key n2.1.2.2 x)
theorem Xi (l:List Nat)(hl:l.length≤2^43)(h0:jk l≠0):ACX Tryz.prog 257 [cl l] (YH (l.take (jk l))):=by
 refine ACX.aA zi0 (rs:=[.tmp 2]) aX Tryz.func257 (by rfl) (by rfl) (by rfl) (by rfl) (by rfl) (uT _) (fun B=>?_);have ht:=oC l;simp only[wt,seval];refine ah ((JY l hl)) (by rfl) (by simp) ?_;simp (disch:=omega) only[wt,seval];refine ah ((lY (l.take (jk l)) (by rw[List.length_take];omega))) (by rfl) (by simp) ?_;simp only[wt,seval];refine rP 2 7 _ 148 1 ((bW (l.take (jk l)))) (by first|rfl|assumption|simp only[wt,seval,dD,dh]) (by first|rfl|assumption|simp only[wt,seval,dD,dh]) (by rfl) ?_;rintro b E hE hb;refine aT [.iv (jo b (l.take (jk l)))] (by rfl) (by simp (disch:=omega) only[wt,seval]) ?_;intro E hE;exact⟨b,rfl,Nw.oid fun g cap e=>by have:=hb.2 g cap e;omega⟩
theorem Ud (x y:Nat)(m:Nat)(hm:m=((wd y).length+1)/2)(ih:∀ u v,(wd u).length≤m+1→(wd v).length≤m+1→Ey u v)(hxy:(wd x).length≤(wd y).length)(hl:(wd y).length≤2^36) :
  ACX Tryz.prog 282 [cl (wd x),cl (wd y)] (YH (wd (x*y))):=by
 refine ACX.aA zi0 (rs:=[.tmp 4]) aX Tryz.func282 (by rfl) (by rfl) (by rfl) (by rfl) (by rfl) (uT _) (fun B=>?_);have hq:Int.tdiv ((wd y).length+1:Int) 2=(m:Int):=by rw[Int.tdiv_eq_ediv_of_nonneg (by omega)];omega
 have hlt:∀ z,(wd z).length≤2*m→(wd (z/W^m)).length≤m∧(wd (z%W^m)).length≤m:=by
  intro z hz;refine⟨bT.mpr ?_,bT.mpr (Nat.mod_lt _ (dL m))⟩;rw[Nat.div_lt_iff_lt_mul (dL m),← Nat.pow_add,← Nat.two_mul];exact bT.mp hz
 obtain⟨hx1,hx0⟩:=hlt x (by omega);obtain⟨hy1,hy0⟩:=hlt y (by omega);obtain⟨hk,hle⟩:=a9A x y (W^m) (dL m) _ _ _ _ rfl rfl rfl rfl;simp (disch:=omega) only[wt,seval,hq];have c1:=Ip (wd x) m (aO x) (by omega) (by omega);have c2:=Ip (wd y) m (aO y) (by omega) (by omega);rw[bC]at c1 c2;refine ah (c1) (by rfl) (by simp) ?_;simp (disch:=omega) only[wt,seval];refine ah (c2) (by rfl) (by simp) ?_;simp (disch:=omega) only[wt,seval];generalize x/W^m=x1 at *;generalize x%W^m=x0 at *;generalize y/W^m=y1 at *;generalize y%W^m=y0 at *;have p1:=ih x1 y1 (by omega) (by omega);have p0:=ih x0 y0 (by omega) (by omega);have ax:=jO x1 x0;have ay:=jO y1 y0;have pm:=ih (x1+x0) (y1+y0) (by omega) (by omega);unfold Ey at p1 p0 pm;have l1:=dQ x1 y1;have l0:=dQ x0 y0;have lm:=dQ (x1+x0) (y1+y0);refine ah (p1) (by rfl) (by simp) ?_;simp only[wt,seval];refine ah (p0) (by rfl) (by simp) ?_;simp only[wt,seval];have s1:=oK (wd x1) (wd x0) (aO _) (aO _) (by omega) (by omega);have s2:=oK (wd y1) (wd y0) (aO _) (aO _) (by omega) (by omega);have s3:=oK (wd (x1*y1)) (wd (x0*y0)) (aO _) (aO _) (by omega) (by omega);simp only[bC]at s1 s2 s3;have ls:=jO (x1*y1) (x0*y0);refine ah (s1) (by rfl) (by simp) ?_;simp only[wt,seval];refine ah (s2) (by rfl) (by simp) ?_;simp only[wt,seval];refine ah (pm) (by rfl) (by simp) ?_;simp only[wt,seval];refine ah (s3) (by rfl) (by simp) ?_;simp only[wt,seval];have s4:=Ij (wd ((x1+x0)*(y1+y0))) (wd (x1*y1+x0*y0)) (aO _) (aO _) (by omega) (by omega);simp only[bC,if_neg (Nat.not_lt.mpr hle)]at s4;refine ah (s4) (by rfl) (by simp) ?_;simp (disch:=omega) only[wt,seval];generalize hM:(x1+x0)*(y1+y0)-(x1*y1+x0*y0)=M at *;have lM:(wd M).length≤(wd ((x1+x0)*(y1+y0))).length:=bJ (by omega);have e2m:(2:Int)*(m:Int)=((2*m:Nat):Int):=by omega
 rw[e2m];refine ah ((Iu (wd (x1*y1)) (2*m) (by omega) (by omega))) (by rfl) (by simp) ?_;simp only[wt,seval];refine ah ((Iu (wd M) m (by omega) (by omega))) (by rfl) (by simp) ?_;simp only[wt,seval];have ll1:=wX (2*m) (wd (x1*y1));have ll2:=wX m (wd M);have s5:=oK (Ak (2*m) (wd (x1*y1))) (Ak m (wd M)) (wU _ (aO _)) (wU _ (aO _)) (by omega) (by omega);rw[AQ,AQ,bC,bC]at s5;refine ah (s5) (by rfl) (by simp) ?_;simp only[wt,seval];have b0U:=dQ x y;have e5:W^(2*m)*(x1*y1)+W^m*M+x0*y0=x*y:=by
  rw[← hk,Nat.two_mul,Nat.pow_add]
 have s6:=a0L (wd (W^(2*m)*(x1*y1)+W^m*M)) (wd (x0*y0)) (aO _) (aO _) (Nat.le_trans (bJ (Nat.le.intro e5)) (by omega)) (by omega);rw[bC,bC,e5]at s6;refine aK (s6) (by rfl) (by simp) (by rfl) ?_;rintro B1 E1 _ hB1 hE1 ⟨b,rfl,hb⟩;simp only[wt,seval];refine aT [.iv (jo b (wd (x*y)))] (by rfl) (by simp (disch:=omega) only[wt,seval]) ?_;intro E hE;exact⟨b,rfl,hb.mono hB1 (by omega)⟩
theorem OH (n x y:Nat)(hn:max (wd x).length (wd y).length≤n)(hx:(wd x).length≤2^36)(hy:(wd y).length≤2^36):ACX Tryz.prog 251 [cl (wd x),cl (wd y)] (YH (wd (x*y))):=by
 refine ACX.aA zi0 (rs:=[.tmp 4]) aX Tryz.func251 (by rfl) (by rfl) (by rfl) (by rfl) (by rfl) (uT _) (fun B0=>?_);simp (disch:=omega) only[wt,seval];refine Dq (fun f H=>∃ u v,(wd u).length≤(wd v).length∧(wd v).length≤2^36∧(wd v).length≤n∧u*v=x*y∧f 0=.iv (.sl (bW (wd u)))∧f 1=.iv (.sl (bW (wd v)))∧H 999=.mrk B0) ?_ ?_
 ·refine aQ (fun hz=>?_) (fun hz=>?_)
  ·simp only[wt,seval];exact⟨y,x,by omega,by omega,by omega,Nat.mul_comm _ _,rfl,rfl⟩
  ·simp only[wt,seval];exact⟨x,y,by omega,by omega,by omega,rfl,rfl,rfl⟩
 rintro f H ⟨u,v,huv,hv,hvn,e,h0,h1,h9⟩;rw[← e];clear e hn hx hy;have hu:(wd u).length≤2^36:=by omega
 simp (disch:=omega) only[wt,seval,h0];refine aQ (fun hz=>?_) (fun hz=>?_)
 ·have hz:u=0:=fC.mp (by omega);subst hz;simp only[wt,seval,jG];refine lT 4 148 1 (by rfl) ?_;refine aT [.iv (jo none [])] (by assumption) (by simp (disch:=omega) only[wt,seval];rfl) ?_;intro E hE;exact⟨none,rfl,.nil _ _⟩
 have hz0:u≠0:=fun e=>hz (by rw[e,jG];rfl)
 have hv0:v≠0:=fun e=>hz0 (fC.mp (by rw[e,jG]at huv;simpa using huv))
 simp (disch:=omega) only[wt,seval,h0];refine aQ (fun hz=>?_) (fun hz=>?_)
 ·simp only[wt,seval,h0,h1];refine aK ((Ud u v (((wd v).length+1)/2) rfl (fun a b ha hb=>FK _ a b (Nat.le_refl _) (by omega) (by omega)) huv hv)) (by rfl) (by simp) (by assumption) ?_;rintro B1 E1 _ hB1 hE1 ⟨b,rfl,hb⟩;simp only[wt,seval];refine aT [.iv (jo b (wd (u*v)))] (by rfl) (by simp (disch:=omega) only[wt,seval]) ?_;intro E hE;exact⟨b,rfl,hb.mono hB1 (by omega)⟩
 simp (disch:=omega) only[wt,seval,h0,h1];generalize hA:wd u=A at *;generalize hB:wd v=B at *;have lA:Lim A:=by rw[← hA];exact aO u
 have lB:Lim B:=by rw[← hB];exact aO v
 have eA:nv A=u:=by rw[← hA];exact bC u
 have eB:nv B=v:=by rw[← hB];exact bC v
 have eN:((A.length:Int)+(B.length:Int))=((A.length+B.length:Nat):Int):=by omega
 rw[eN];simp only[wt,seval];refine aH (fun f H=>∃ (i:Nat) (out:List Nat) (st:Nat),i≤A.length∧Lim out∧out.length=A.length+B.length∧nv (out.take (i+B.length))=nv (A.take i)*nv B ∧
  f 1=.iv (.sl (bW B))∧f 5=.hs 34 st∧f 35=.iv (.sl (bW A))∧f 36=.iv (.int .i64 A.length)∧f 37=.iv (.int .i64 i)∧H 34=.blk false st 148 1 (bW out)∧H 999=.mrk B0) (fun f H=>(A.length-aY f 37).toNat) ?_ ?_
 ·refine⟨0,List.replicate (A.length+B.length) 0,(H 34).stamp+1,by omega,Lim.replicate _,by simp,?_,by simp only[wt,seval,h1],by simp only[wt,seval],by simp only[wt,seval],by simp only[wt,seval],by simp only[wt,seval],by simp only[wt,seval],by simp only[wt,seval,h9]⟩;rw[List.take_replicate,Nat.zero_add];simp[nv,gZ,vl]
 clear h0 h1 h9;rintro f H ⟨i,out,st,hi,hO,hOl,hOv,h1,h5,h35,h36,h37,hH,h9⟩;rw[aB h37];simp (disch:=omega) only[wt,seval,h36,h37];refine aQ (fun hlt=>?_) (fun hlt=>?_)
 ·simp (disch:=omega) only[wt,seval,h1,h35,h37];refine aH (fun f H=>∃ (j c:Nat) (out:List Nat) (st:Nat),j≤B.length∧c<W∧Lim out∧out.length=A.length+B.length∧nv (out.take (i+B.length))+W^(i+j)*c=nv (A.take i)*nv B+(W^i*A.getD i 0)*nv (B.take j) ∧
   f 1=.iv (.sl (bW B))∧f 5=.hs 34 st∧f 6=.iv (.int .i64 i)∧f 7=.iv (.int .u64 (A.getD i 0:Nat))∧f 8=.iv (.int .u64 c)∧f 35=.iv (.sl (bW A))∧f 36=.iv (.int .i64 A.length)∧f 37=.iv (.int .i64 i)∧f 42=.iv (.sl (bW B))∧f 43=.iv (.int .i64 B.length)∧f 44=.iv (.int .i64 j)∧H 34=.blk false st 148 1 (bW out)∧H 999=.mrk B0) (fun f H=>(B.length-aY f 44).toNat) ?_ ?_
  ·refine⟨0,0,out,st,by omega,by decide,hO,hOl,?_,by simp only[wt,seval,h1],by simp only[wt,seval,h5],by simp only[wt,seval],by simp only[wt,seval],by simp only[wt,seval],by simp only[wt,seval,h35],by simp only[wt,seval,h36],by simp only[wt,seval,h37],by simp only[wt,seval],by simp only[wt,seval],by simp only[wt,seval],by simp only[seval,hH],by simp only[seval,h9]⟩;rw[hOv];simp[nv,vl]
  have hAi:=lA.get i;clear h1 h5 h35 h36 h37 hH h9 hOv hO hOl;clear out st f H;rintro f H ⟨j,c,out,st,hj,hc,hO,hOl,hOv,h1,h5,h6,h7,h8,h35,h36,h37,h42,h43,h44,hH,h9⟩;rw[aB h44];simp (disch:=omega) only[wt,seval,h43,h44];refine aQ (fun hlj=>?_) (fun hlj=>?_)
  ·simp (disch:=omega) only[wt,seval,h5,h6,h7,h8,h42,h44,hH];have eij:(i:Int)+(j:Int)=((i+j:Nat):Int):=by omega
   rw[eij];simp (disch:=omega) only[wt,seval];have hBj:=lB.get j;have a9d:=hO.get (i+j);refine ah ((OV (B.getD j 0) (A.getD i 0) c (out.getD (i+j) 0) hBj hAi hc a9d)) (by rfl) (by simp) ?_;simp (disch:=omega) only[wt,seval,h1,h5,h6,h7,h35,h36,h37,h42,h43,h44,hH,h9];have hm:B.getD j 0*A.getD i 0≤18446744073709551615*18446744073709551615:=Nat.mul_le_mul (by simp only[W]at hBj;omega) (by simp only[W]at hAi;omega);refine⟨⟨j+1,(B.getD j 0*A.getD i 0+c+out.getD (i+j) 0)/W,out.set (i+j) ((B.getD j 0*A.getD i 0+c+out.getD (i+j) 0)%W),st,by omega,by simp only[W]at *;omega,hO.set (Nat.mod_lt _ (by decide)),by simp[hOl],?_,rfl,rfl,by omega,rfl⟩,by omega⟩;have hT:=CZ (l:=out) (k:=i+j) (m:=i+B.length) (by omega) (by omega) ((B.getD j 0*A.getD i 0+c+out.getD (i+j) 0)%W);have hN:nv (B.take (j+1))=nv (B.take j)+W^j*B.getD j 0:=aJ W B j;rw[hN,Nat.mul_add,← Nat.add_assoc i j 1,Nat.pow_succ];have hR:=row_step (A:=B.getD j 0*A.getD i 0) (hi:=(B.getD j 0*A.getD i 0+c+out.getD (i+j) 0)/W) hOv hT (by rw[Nat.mul_comm];exact Nat.div_add_mod _ _);rw[hR]
   congr 2
   rw[Nat.pow_add];ac_rfl
  ·simp (disch:=omega) only[wt,seval,h1,h5,h6,h8,h35,h36,h37,hH,h9];have hjB:j=B.length:=by omega
   subst hjB;have eij:(i:Int)+(B.length:Int)=((i+B.length:Nat):Int):=by omega
   rw[eij];simp only[wt,seval];refine⟨⟨i+1,out.set (i+B.length) c,st,by omega,hO.set hc,by simp[hOl],?_,rfl,by omega,rfl⟩,by omega⟩;rw[show i+1+B.length=(i+B.length)+1 by omega];have hT:nv ((out.set (i+B.length) c).take (i+B.length+1))=nv (out.take (i+B.length))+W^(i+B.length)*c:=dw W (by omega) c;have hN:nv (A.take (i+1))=nv (A.take i)+W^i*A.getD i 0:=aJ W A i;rw[List.take_length]at hOv;rw[hT,hOv,hN,Nat.add_mul]
 ·simp (disch:=omega) only[wt,seval,h5];have hiA:i=A.length:=by omega
  subst hiA;rw[List.take_of_length_le (by omega),List.take_of_length_le (by omega),eA,eB]at hOv;have hne:jk out≠0:=fun e=>by
   have:=congrArg List.length (Tn hO);rw[hOv,List.length_take,e]at this;have:=fC.mp (show (wd (u*v)).length=0 by omega);exact(Nat.mul_ne_zero hz0 hv0) this
  have t:=Xi out (by omega) hne;rw[← Tn hO,hOv]at t;refine aK (t) (by simp only[gQ,tJ,hH];rfl) (by simp) (by assumption) ?_;rintro B1 E1 _ hB1 hE1 ⟨b,rfl,hb⟩;simp only[wt,seval,hH];refine aT [.iv (jo b (wd (u*v)))] (by rfl) (by simp (disch:=omega) only[wt,seval]) ?_;intro E hE;exact⟨b,rfl,hb.mono hB1 (by omega)⟩
theorem Ry (a b:List Nat)(ha:Lim a)(hb:Lim b)(hla:a.length≤2^36)(hlb:b.length≤2^36):ACX Tryz.prog 184 [cl a,cl b] (YH (wd (nv a*nv b))):=by
 refine ACX.aA zi0 (rs:=[.tmp 4]) aX Tryz.func184 (by rfl) (by rfl) (by rfl) (by rfl) (by rfl) (uT _) (fun B=>?_);have h1:=fJ ha;have h2:=fJ hb;simp only[wt,seval];refine ah ((jv a ha (by omega))) (by rfl) (by simp) ?_;simp only[wt,seval];refine ah ((jv b hb (by omega))) (by rfl) (by simp) ?_;simp only[wt,seval];refine aK ((OH _ (nv a) (nv b) (Nat.le_refl _) (by omega) (by omega))) (by rfl) (by simp) (by rfl) ?_;rintro B1 E1 _ hB1 hE1 ⟨c,rfl,hc⟩;simp only[wt,seval];refine aT [.iv (jo c (wd (nv a*nv b)))] (by rfl) (by simp (disch:=omega) only[wt,seval]) ?_;intro E hE;exact⟨c,rfl,hc.mono hB1 (by omega)⟩
theorem Zk (a b:RI)(ha:Sz (2^36) a)(hb:Sz (2^36) b):ACX Tryz.prog 101 [cr a,cr b] (a8d (iv a*iv b)):=by
 refine ACX.aA zi0 (rs:=[.cell 4 30]) aX Tryz.func101 (by rfl) (by rfl) (by rfl) (by rfl) (by rfl) (Xa _) (fun B=>?_);rw[Xr];have h1:=ha.1;have h2:=hb.1;simp (disch:=omega) only[wt,seval];refine .inl ⟨aS (by kernel_rfl),?_⟩;refine aK ((Ry a.2 b.2 ha.2 hb.2 (by omega) (by omega))) (by rfl) (by simp) (by rfl) ?_;rintro B1 E1 _ hB1 hE1 ⟨c,rfl,hc⟩;simp only[wt,seval];have hb:(!(a.1 == b.1))=(a.1 != b.1):=rfl;rw[hb];refine ah ((UZ (a.1 != b.1) (nv a.2*nv b.2) c)) (by rfl) (by simp) ?_;simp (disch:=omega) only[wt,seval,dh];refine⟨bH (by kernel_rfl),?_⟩;refine aT [.agg (fint c _)] (by rfl) (by simp (disch:=omega) only[wt,seval];rfl) ?_;intro E hE;exact⟨c,rfl,hc.mono hB1 (by omega)⟩
theorem a1n (a b:List Nat)(ha:Nt (2^35) a)(hb:Nt (2^35) b)(h0:nv a≠0)(h1:nv b≠0):ACX Tryz.prog 187 [cl a,cl b] (YH (wd (Nat.lcm (nv a) (nv b)))):=by
 have z1:=Ba a ⟨Nat.le_trans ha.1 (by omega),ha.2⟩;have z2:=Ba b ⟨Nat.le_trans hb.1 (by omega),hb.2⟩;rw[decide_eq_false h0]at z1;rw[decide_eq_false h1]at z2;have g:=LU a b ha.2 hb.2 (Nat.le_trans ha.1 (by omega)) (Nat.le_trans hb.1 (by omega));have hgp:Nat.gcd (nv a) (nv b)≠0:=Nat.ne_of_gt (Nat.gcd_pos_of_pos_right _ (by omega));have hgl:(wd (Nat.gcd (nv a) (nv b))).length≤2^38:=Nat.le_trans (bJ (Nat.gcd_le_right _ (by omega))) (Nat.le_trans (fJ hb.2) (Nat.le_trans hb.1 (by omega)));have q:=XL a (wd (Nat.gcd (nv a) (nv b))) ⟨Nat.le_trans ha.1 (by omega),ha.2⟩ ⟨hgl,aO _⟩ (by rw[bC];exact hgp);rw[bC]at q;have m:=Ry (wd (nv a/Nat.gcd (nv a) (nv b))) b (aO _) hb.2 (Nat.le_trans (bJ (Nat.div_le_self _ _)) (Nat.le_trans (fJ ha.2) (Nat.le_trans ha.1 (by omega)))) (Nat.le_trans hb.1 (by omega));rw[bC,OX]at m;refine ACX.aA zi0 (rs:=[.tmp 4]) aX Tryz.func187 (by rfl) (by rfl) (by rfl) (by rfl) (by rfl) (uT _) (fun B0=>?_);simp only[wt,seval];refine ah (z1) (by rfl) (by simp) ?_;simp only[wt,seval];refine ah (z2) (by rfl) (by simp) ?_;simp (disch:=omega) only[wt,seval];refine ah (g) (by rfl) (by simp) ?_;simp only[wt,seval];refine ah (q) (by rfl) (by simp) ?_;simp only[wt,seval];refine aK (m) (by rfl) (by simp) (by rfl) ?_;rintro B1 E1 _ hB1 hE1 ⟨c,rfl,hc⟩;simp only[wt,seval];refine aT [.iv (jo c (wd (Nat.lcm (nv a) (nv b))))] (by rfl) (by simp (disch:=omega) only[wt,seval]) ?_;intro E hE;exact⟨c,rfl,hc.mono hB1 (by omega)⟩
set_option maxRecDepth 100000 in
theorem Pm (l:List Nat)(K:Nat)(hl:l.length≤2^30)(h0:∀ x∈l,x≠0)(hK:∀ x∈l,(wd x).length≤K)(hB:l.length*K+K+1≤2^35):ACX Tryz.prog 98 [.iv (.sl (l7 (l.map wd)))] (YH (wd (ug l))):=by
 have o:=X7 1 (by decide);have hml:(l.map wd).length=l.length:=List.length_map _;have hnl:(l7 (l.map wd)).length=l.length:=by simp[l7]
 have e0:wd (ug (l.take 0))=wd 1:=by rw[List.take_zero];rfl
 refine ACX.aA zi0 (rs:=[.tmp 2]) aX Tryz.func98 (by rfl) (by rfl) (by rfl) (by rfl) (by rfl) (uT _) (fun B0=>?_);simp only[wt,seval];refine aK (o) (by rfl) (by simp) (by rfl) ?_;rintro B1 E1 _ hB1 hE1 ⟨b1,rfl,hb1⟩;simp (disch:=omega) only[wt,seval,gW];refine aH (fun f H=>∃ (i:Nat) (b:OB) (E:Nat),i≤l.length∧B0≤E∧Nw B0 E (oid b)∧f 9=.iv (.int .i64 i)∧f 7=.iv (.sl (l7 (l.map wd)))∧f 8=.iv (.int .i64 l.length)∧f 3=.iv (jo b (wd (ug (l.take i))))∧H 999=.mrk E) (fun f H=>(l.length-aY f 9).toNat) ?_ ?_
 ·refine⟨0,b1,E1,by omega,by omega,hb1.mono hB1 (Nat.le_refl _),?_⟩;simp only[wt,seval,e0,hml]
 rintro f H ⟨i,b,E,hi,hBE,hnb,h9,h7,h8,h3,Iz⟩;rw[aB h9];simp (disch:=omega) only[wt,seval,h9,h8];refine aQ (fun hlt=>?_) (fun hlt=>?_)
 ·have hlt':i<l.length:=by omega
  obtain⟨a1,a2,a3⟩:=kN l K h0 hK i hi;have hm:l.getD i 0∈l:=by rw[List.getD,List.getElem?_eq_getElem hlt',Option.getD_some];exact List.getElem_mem _
  have hg:(l.map wd).getD i []=wd (l.getD i 0):=by simp[List.getD,hlt']
  have hk:=hK _ hm;have h2:i*K≤l.length*K:=Nat.mul_le_mul_right _ hi;have m:=a1n (wd (ug (l.take i))) (wd (l.getD i 0)) ⟨by omega,aO _⟩ ⟨by omega,aO _⟩ (by rw[bC];exact a1) (by rw[bC];exact h0 _ hm);rw[bC,bC,← wY hlt']at m;simp (disch:=omega) only[wt,seval,gW,tZ,h9,h7,h3,hml,hg];refine aK ((m.soft (.cons (BX _ _) (.cons (.refl _) .nil)))) (by rfl) (by simp) (by assumption) ?_;rintro B' E' _ hB' hE' ⟨c,rfl,hc⟩;simp (disch:=omega) only[wt,seval,h9,h7,h8];exact⟨⟨i+1,c,E',by omega,by omega,hc.mono (by omega) (Nat.le_refl _),by omega,rfl,rfl⟩,by omega⟩
 ·rw[List.take_of_length_le (by omega)]at h3;simp (disch:=omega) only[wt,seval,h3];refine aT [.iv (jo b (wd (ug l)))] (by assumption) (by simp (disch:=omega) only[wt,seval]) ?_;intro E hE;exact⟨b,rfl,hnb.mono (Nat.le_refl _) (by omega)⟩
set_option maxRecDepth 4000 in
theorem U1 (p:List RQ)(n k:Nat)(h:GQ n k p)(hn:n≤2^40)(hk:k≤2^34)(hk1:1≤k):ACX Tryz.prog 17 [cqw p] (RQp (cqs (qC (qvs p))) 0):=by
 have nm:=kY p (h.mono hn (by omega));have hA:=h.qb.aI;rw[show cqs (qC (qvs p))=cqs (qC (aI (qvs p))) from (DX _).symm];refine ACX.aA zi0 (rs:=[.tmp 2,.tmp 3]) aX Tryz.func17 (by rfl) (by rfl) (by rfl) (by rfl) (by rfl) (Il _ _) (fun B0=>?_);simp only[wt,seval];refine ah (nm) (by rfl) (by simp) ?_;simp (disch:=omega) only[wt,seval];unfold cqs;generalize aI (qvs p)=A at *;have hAl:=hA.1;have hq:(A.map aP).length=A.length:=List.length_map _;have hdl:=xw A;have hD:=hA.qC hn hk1;have hR:QB (2^40) (2^38) (qC A):=hD.mono (by omega) (by omega);refine dS 6 6 32 3 (by simp only[wt,seval]) (fun f H=>∃ (i st:Nat) (bs:List (OB×OB)) (E:Nat),i≤A.length-1∧bs.length=i∧B0≤E∧Nw B0 E (idq bs)∧f 7=.iv (.int .i64 ((i:Int)+1))∧f 4=.iv (.sl (fD (A.map aP)))∧f 6=.hs 6 st∧H 6=.blk false st 32 3 (aU bs (((qC A).take i).map aP))∧H 999=.mrk E) (fun f H=>(A.length-aY f 7).toNat) ?_ ?_
 ·refine⟨0,1,[],B0,by omega,rfl,Nat.le_refl _,.nil _ _,?_⟩;simp only[wt,seval,fB,fM,List.take_zero];rfl
 rintro f H ⟨i,st,bs,E,hi,hbs,hBE,hnw,h7,h4,h6,hH,Iz⟩;rw[aB h7];simp (disch:=omega) only[wt,seval,rqs,h7,h4,hq];have hql:(aU bs (((qC A).take i).map aP)).length=i:=by rw[bG (by rw[List.length_map,List.length_take];omega),List.length_map,List.length_take];omega
 refine aQ (fun hlt=>?_) (fun hlt=>?_)
 ·have hlt':i+1<A.length:=by omega
  have e:=dR hlt';have ei:((i:Int)+1)=((i+1:Nat):Int):=by omega
  have o:=a2v ((i+1:Nat):Int) 1 (by omega) (by omega) (by omega) (by omega) (by omega);rw[Rat.intCast_one,show (((i+1:Nat):Int):Rat)/1=(((i+1:Nat):Int):Rat) by grind]at o;have z1:=hA.cz hk1 (i+1);have z2:=Oy (i:=i+1) (by simp only[W];omega);have m:=QS (aP (cfq A (i+1))) (aP (((i+1:Nat):Int):Rat)) (aZ (by omega)) (aZ (by omega)) (bI _) (bI _);rw[dB,dB,show cfq A (i+1)*(((i+1:Nat):Int):Rat)=cfq (qC A) i by rw[uD,Rat.intCast_natCast]]at m;rw[ei]at h7;simp (disch:=omega) only[wt,seval,h7,ei];refine ah (o) (by rfl) (by simp) ?_;simp (disch:=omega) only[wt,seval,rqs,h7,h4,hq,e];refine .inr ⟨[0,1,2,3,4,9,5,6,7,8,10,11],[0,1,2,3,4,6,7,8,9,5,10,11],by kernel_rfl,aS (by kernel_rfl),?_⟩;simp only[kZ,a2r,List.map_cons,List.map_nil,List.getD_cons_zero,List.getD_cons_succ];simp (disch:=omega) only[wt,seval,rqs,h7,h4,hq,e];refine aK (m) (by rfl) (by simp) (by assumption) ?_;rintro B' E' _ hB1 hE1 ⟨b,c,rfl,hb⟩;simp (disch:=omega) only[wt,seval,cO,bF,h7,h4,h6,hH,hql];refine⟨bH (by kernel_rfl),?_⟩;have et:=fG (q:=qC A) (i:=i) (by omega);refine⟨⟨i+1,st+1,bs++[(b,c)],E',by omega,by simp[hbs],by omega,?_,by omega,rfl,?_,rfl⟩,by omega⟩
  ·rw[uh];exact hnw.append hb (by omega) hB1 (by omega)
  ·rw[et,List.map_append,jI (by rw[List.length_map,List.length_take];omega)];rfl
 ·have hi':i=A.length-1:=by omega
  simp (disch:=omega) only[wt,seval,h6];rw[List.take_of_length_le (by omega)]at hH;have t:=tX (qC A) bs (by omega) hR;refine uH (t) (by first|rfl|(simp only[wt,seval,rqs,dD,dh,dK,cO,bF,bK,iK,lH,h7,h4,h6,hH,Iz,hq];done)) (by first|rfl|(simp only[seval,hH];done)) (by rfl) (by simp) (by simp) ?_;simp only[wt,seval];refine rP 2 6 _ 32 3 ((aU (bs.take (tzq (qC A))) (cqs (qC A)))) (by first|rfl|assumption|simp only[wt,seval,rqs,dD,dh,dK,cO,bF,bK,iK,lH]) (by first|rfl|assumption|simp only[wt,seval,rqs,dD,dh,dK,cO,bF,bK,iK,lH]) (by assumption) ?_;rintro b E2 hE2 hb;refine aT [.iv (fqp b (bs.take (tzq (qC A))) (cqs (qC A))),ci 0] (by rfl) (by simp (disch:=omega) only[wt,seval]) ?_;intro E hE;obtain⟨e1,e2⟩:=QM (by omega) hnw hE2 (fun g cap e=>⟨(hb.2 g cap e).1,(hb.2 g cap e).2.1,(hb.2 g cap e).2.2.1⟩);exact⟨b,_,rfl,e1,e2.mono (Nat.le_refl _) (by omega)⟩
set_option maxRecDepth 4000 in
theorem I7 (p:List RQ)(n k:Nat)(h:GQ n k p)(hn:n≤2^40)(hk:k≤2^34)(hk1:1≤k):ACX Tryz.prog 18 [cqw p] (RQp (cqs (P7 (aI (qvs p)))) 0):=by
 have nm:=kY p (h.mono hn (by omega));have hA:=h.qb.aI;have tt:=dP (qvs p);refine ACX.aA zi0 (rs:=[.tmp 2,.tmp 3]) aX Tryz.func18 (by rfl) (by rfl) (by rfl) (by rfl) (by rfl) (Il _ _) (fun B0=>?_);simp only[wt,seval];refine ah (nm) (by rfl) (by simp) ?_;simp (disch:=omega) only[wt,seval,rqs];unfold cqs;generalize aI (qvs p)=A at *;have hAl:=hA.1;have hq:(A.map aP).length=A.length:=List.length_map _;have hil:=nZ A;have hI:=Xt tt;by_cases h0:A.length=0
 ·have h0':((A.map aP).length:Int)=0:=by omega
  have e:A=[]:=List.length_eq_zero_iff.mp h0;rw[show (aI (P7 A)).map aP=[] by rw[e];rfl];simp only[wt,seval,h0'];refine lT 2 32 3 (by rfl) ?_;refine aT [.iv (fqp none [] []),ci 0] (by rfl) (by simp (disch:=omega) only[wt,seval];rfl) ?_;intro E hE;exact⟨none,[],rfl,rfl,.nil _ _⟩
 ·have h0':¬((A.map aP).length:Int)=0:=by omega
  have e:P7 A=0::zJ A:=by unfold P7;rw[if_neg (fun e=>h0 (by rw[e];rfl))]
  have e2:(aI (P7 A)).map aP=aP 0::(zJ A).map aP:=by rw[hI,e];rfl
  rw[e2];simp only[wt,seval,h0'];refine aK (CO) (by rfl) (by simp) (by rfl) ?_;rintro B1 E1 _ hB1 hE1 ⟨nb,nc,rfl,hnb⟩;simp (disch:=omega) only[wt,seval,rqs];refine aH (fun f H=>∃ (i st:Nat) (bs:List (OB×OB)) (E:Nat),i≤A.length∧bs.length=i+1∧B0≤E∧Nw B0 E (idq bs)∧f 30=.iv (.int .i64 i)∧f 28=.iv (.sl (fD (A.map aP)))∧f 29=.iv (.int .i64 A.length)∧f 6=.hs 27 st∧H 27=.blk false st 32 3 (aU bs (aP 0::((zJ A).take i).map aP))∧H 999=.mrk E) (fun f H=>(A.length-aY f 30).toNat) ?_ ?_
  ·refine⟨0,1,[(nb,nc)],E1,by omega,rfl,by omega,by simpa [idq] using hnb.mono hB1 (Nat.le_refl _),?_⟩;simp only[wt,seval,hq];rfl
  rintro f H ⟨i,st,bs,E,hi,hbs,hBE,hnw,h30,h28,h29,h6,hH,Iz⟩;rw[aB h30];simp (disch:=omega) only[wt,seval,h30,h29];have hl3:(aP 0::((zJ A).take i).map aP).length=i+1:=by rw[List.length_cons,List.length_map,List.length_take];omega
  have hql:(aU bs (aP 0::((zJ A).take i).map aP)).length=i+1:=by rw[bG (by omega),hl3]
  refine aQ (fun hlt=>?_) (fun hlt=>?_)
  ·have hlt':i<A.length:=by omega
   have e:=dR hlt';have ei:((i:Int)+1)=((i+1:Nat):Int):=by omega
   have o:=a2v 1 ((i+1:Nat):Int) (by omega) (by omega) (by omega) (by omega) (by omega);rw[Rat.intCast_one]at o;have z1:=hA.cz hk1 i;have z2:=OA (i:=i) (by simp only[W];omega);have m:=QS (aP (cfq A i)) (aP (1/(((i+1:Nat):Int):Rat))) (aZ (by omega)) (aZ (by omega)) (bI _) (bI _);rw[dB,dB,← Bo]at m;simp (disch:=omega) only[wt,seval,rqs,h30,h28,hq,e,ei];refine ah (o) (by rfl) (by simp) ?_;simp (disch:=omega) only[wt,seval,rqs];refine aK (m) (by rfl) (by simp) (by assumption) ?_;rintro B' E' _ hB2 hE2 ⟨b,c,rfl,hb⟩;simp (disch:=omega) only[wt,seval,cO,bF,h30,h28,h29,h6,hH,hql,ei];have et:=fG (q:=zJ A) (i:=i) (by omega);refine⟨⟨i+1,st+1,bs++[(b,c)],E',by omega,by simp[hbs],by omega,?_,by omega,rfl,?_,rfl⟩,by omega⟩
   ·rw[uh];exact hnw.append hb (by omega) hB2 (by omega)
   ·rw[et,List.map_append,← List.cons_append,jI (by omega)];rfl
  ·obtain rfl:i=A.length:=by omega
   rw[List.take_of_length_le (by omega)]at hH hl3;simp (disch:=omega) only[wt,seval,h6];refine rP 2 27 _ 32 3 ((aU bs (aP 0::(zJ A).map aP))) (by first|rfl|assumption|simp only[wt,seval,rqs,dD,dh,dK,cO,bF,bK,iK,lH]) (by first|rfl|assumption|simp only[wt,seval,rqs,dD,dh,dK,cO,bF,bK,iK,lH]) (by assumption) ?_;rintro b E2 hE2 hb;refine aT [.iv (fqp b bs (aP 0::(zJ A).map aP)),ci 0] (by rfl) (by simp (disch:=omega) only[wt,seval]) ?_;intro E hE;refine⟨b,bs,rfl,by omega,Ld (hnw.mono (Nat.le_refl _) (by omega)) (by omega) fun g cap e=>?_⟩;have:=hb.2 g cap e;rw[iG (by omega)]at this;exact⟨by omega,by omega,this.2.2.1⟩
def a9m (d:Nat)(L:List Int)(e:Int)(B E:Nat)(res:List CV):Prop:=∃ b o bs,res=[.iv (jo b (wd d)),.iv (uK o bs L),ci e]∧bs.length=L.length∧Nw B E (oid b++(oid o++ids bs))
theorem a6P (d:Nat)(L:List Int)(e:Int)(B:Nat):∃ E res,B≤E∧a9m d L e B E res:=⟨B,_,Nat.le_refl _,none,none,List.replicate L.length none,rfl,by simp,by rw[x9];exact .nil _ _⟩
set_option maxRecDepth 8000 in
theorem U2 (p:List RQ)(n k:Nat)(hp:GQ n k p)(hn:n≤2^28)(hM:n*k+k+2≤2^34):ACX Tryz.prog 19 [cqw p] (a9m (jq (aI (qvs p))) (clr (aI (qvs p))) 0):=by
 have nm:=kY p (hp.mono (by omega) (by omega));have hA:=hp.qb.aI;refine ACX.aA zi0 (rs:=[.tmp 2,.tmp 3,.tmp 4]) aX Tryz.func19 (by rfl) (by rfl) (by rfl) (by rfl) (by rfl) (a6P _ _ _) (fun B0=>?_);simp only[wt,seval];refine ah (nm) (by rfl) (by simp) ?_;simp (disch:=omega) only[wt,seval,rqs];unfold cqs;generalize aI (qvs p)=A at *;have hAl:=hA.1;have hq:(A.map aP).length=A.length:=List.length_map _;have hdl:=og A;have hcl:=qF A;simp (disch:=omega) only[wt,seval,rqs,hq];refine aH (fun f H=>∃ (i ZH:Nat),i≤A.length∧f 29=.iv (.int .i64 i)∧f 27=.iv (.sl (fD (A.map aP)))∧f 28=.iv (.int .i64 A.length)∧f 5=.iv (.sl (fD (A.map aP)))∧f 7=.hs 26 ZH∧H 26=.blk false ZH 28 1 (l7 (((ng A).take i).map wd))∧H 999=.mrk B0) (fun f H=>(A.length-aY f 29).toNat) ?_ ?_
 ·refine⟨0,1,by omega,?_⟩;simp only[wt,seval,wP,List.take_zero]
 rintro f H ⟨i,ZH,hi,hF⟩;rw[aB hF.1];simp (disch:=omega) only[wt,seval,hF];refine aQ (fun hlt=>?_) (fun hlt=>?_)
 ·have hlt':i<A.length:=by omega
  have hdq:(((ng A).take i).map wd).length=i:=by rw[List.length_map,List.length_take];omega
  have e:=dR hlt';have e2:bW (aP (cfq A i)).2=bW (wd (cfq A i).den):=rfl;simp (disch:=omega) only[wt,seval,rqs,gW,tY,hF,hq,hdq,e,e2];refine⟨⟨i+1,ZH+1,by omega,?_⟩,by omega⟩;rw[FQ A hlt']
  (repeat' apply And.intro)<;>first|rfl|omega
 ·have hie:i=A.length:=by omega
  subst hie;rw[List.take_of_length_le (by omega)]at hF;have m:=Pm (ng A) k (by omega) yU hA.ng (by rw[hdl];have:=Nat.mul_le_mul_right k hA.1;omega);have hcd:=je hA;have hcn:=jJ A;simp (disch:=omega) only[wt,seval,hF];refine aK (m) (by simp only[gQ,tJ,hF];rfl) (by simp) (by first|rfl|assumption|(simp only[wt,seval,hF];done)|((repeat (replace hF:=hF.2));exact hF)) ?_;rintro B1 E1 _ hB1 hE1 ⟨db,rfl,hdb⟩;simp (disch:=omega) only[wt,seval,rqs,hF,hq];rw[show ug (ng A)=jq A from rfl];refine dS 11 11 30 2 (by simp only[wt,seval]) (fun f H=>∃ (i st:Nat) (bs:List OB) (E:Nat),i≤A.length∧bs.length=i∧E1≤E∧Nw B0 E (oid db++ids bs)∧f 43=.iv (.int .i64 i)∧f 41=.iv (.sl (fD (A.map aP)))∧f 42=.iv (.int .i64 A.length)∧f 10=.iv (jo db (wd (jq A)))∧f 11=.hs 11 st∧H 11=.blk false st 30 2 (jY bs ((clr A).take i))∧H 999=.mrk E) (fun f H=>(A.length-aY f 43).toNat) ?_ ?_
  ·refine⟨0,(H 11).stamp+1,[],E1,by omega,rfl,Nat.le_refl _,by simpa [ids] using hdb.mono hB1 (Nat.le_refl _),?_⟩;simp only[wt,seval,fB,fM,List.take_zero];rfl
  clear hF;rintro f H ⟨i,st,bs,E,hi,hbs,hEE,hnw,h43,h41,h42,h10,h11,hH,Iz⟩;rw[aB h43];simp (disch:=omega) only[wt,seval,h43,h42];have hfl:(jY bs ((clr A).take i)).length=i:=by rw[pJ (by rw[List.length_take];omega),List.length_take];omega
  refine aQ (fun hlt=>?_) (fun hlt=>?_)
  ·have hlt':i<A.length:=by omega
   have e:=dR hlt';have e2:bW (aP (cfq A i)).2=bW (wd (cfq A i).den):=rfl;have e3:lQ (aP (cfq A i)).1=lQ (canon (cfq A i).num):=rfl;have hc:qz (cfq A i)≤k:=by rw[kH hlt'];exact hA.2 _ (List.getElem_mem hlt')
   have hc2:=qw (cfq A i);have n1:=mG false (jq A) (by omega);have n2:=mG false (cfq A i).den (by omega);rw[sgf]at n1 n2;have hdv:((cfq A i).den:Int)∣(jq A:Int):=Int.natCast_dvd_natCast.mpr (Bv hlt');have x:=BI (canon (jq A:Int)) (canon ((cfq A i).den:Int)) ((aW _).mono (by rw[jh];omega)) ((aW _).mono (by rw[jh];omega)) (by rw[aN];have:=(cfq A i).den_nz;omega) (by rw[aN,aN];exact hdv);rw[aN,aN]at x;have zd:=JE hdv;rw[jh]at zd;have w:=Zk (canon (cfq A i).num) (canon ((jq A:Int)/((cfq A i).den:Int))) ((aW _).mono (by omega)) ((aW _).mono (by omega));rw[aN,aN,← J4 hlt']at w;simp (disch:=omega) only[wt,seval,rqs,h43,h41,h10,hq,e,e2];refine .inl ⟨aS (by kernel_rfl),?_⟩;refine ah ((n1.soft (.cons (.refl _) (.cons (BX _ _) .nil)))) (by rfl) (by simp) ?_;simp (disch:=omega) only[wt,seval,e2];refine ah (n2) (by rfl) (by simp) ?_;simp (disch:=omega) only[wt,seval];refine ah (x) (by rfl) (by simp) ?_;simp (disch:=omega) only[wt,seval,rqs,h11,e3];refine⟨bH (by kernel_rfl),?_⟩;refine aK (w) (by rfl) (by simp) (by assumption) ?_;rintro B' E' _ hB' hE' ⟨c,rfl,hc'⟩;simp (disch:=omega) only[wt,seval,h43,h41,h42,h10,hH,hfl];have et:=yC (q:=clr A) (i:=i) (by omega);refine⟨⟨i+1,st+1,bs++[c],E',by omega,by simp[hbs],by omega,?_,by omega,rfl,?_,rfl⟩,by omega⟩
   ·rw[RH,← List.append_assoc];exact hnw.append hc' (by omega) hB' (by omega)
   ·rw[et,G7 (by rw[List.length_take];omega)]
  ·have hie:i=A.length:=by omega
   subst hie;rw[List.take_of_length_le (by omega)]at hH;simp (disch:=omega) only[wt,seval,h10,h11];refine rP 3 11 _ 30 2 ((jY bs (clr A))) (by first|rfl|assumption|simp only[wt,seval,dD,dh,rqs,gW,tZ,tY,Lj,FP,wP,LX,dK,cO,bF,XW]) (by first|rfl|assumption|simp only[wt,seval,dD,dh,rqs,gW,tZ,tY,Lj,FP,wP,LX,dK,cO,bF,XW]) (by assumption) ?_;rintro o E2 hE2 ho;refine aT [.iv (jo db (wd (jq A))),.iv (uK o bs (clr A)),ci 0] (by rfl) (by simp (disch:=omega) only[wt,seval]) ?_;intro E hE;refine⟨db,o,bs,rfl,by omega,?_⟩;refine(Ld (hnw.mono (Nat.le_refl _) (by omega)) (Nat.le_refl E) fun g cap e=>?_).a6I (List.perm_append_comm_assoc _ _ _);obtain⟨h1,h2,h3,h4,-⟩:=ho.2 g cap e;have h5:=h4 2 (jo db (wd (jq A))) (by simp only[wt,seval]);refine⟨h1,by omega,fun hm=>?_⟩;rcases List.mem_append.1 hm with hm|hm
   ·apply h5;cases db with
    | none=>simp[oid]at hm
    | some q=>simp[oid]at hm;simp[IV.ids,hm]
   ·rw[LJ (by omega)]at h3;exact h3 hm
def a9l (r:RQ)(L:List Int)(e:Int)(B E:Nat)(res:List CV):Prop:=∃ b c o bs,res=[.agg (frq b c r),.iv (uK o bs L),ci e]∧bs.length=L.length∧Nw B E ((oid b++oid c)++(oid o++ids bs))
theorem a6N (r:RQ)(L:List Int)(e:Int)(B:Nat):∃ E res,B≤E∧a9l r L e B E res:=⟨B,_,Nat.le_refl _,none,none,none,List.replicate L.length none,rfl,by simp,by rw[x9];exact .nil _ _⟩
set_option maxRecDepth 8000 in
theorem Wu (p:List RQ)(n k:Nat)(hp:GQ n k p)(hn:n≤2^28)(hM:n*k+k+2≤2^32):ACX Tryz.prog 20 [cqw p] (a9l (aP (nK (aI (qvs p)))) (dJ (yN (clr (aI (qvs p))))) 0):=by
 have c:=rM p n k hp hn (by omega);have hA:=hp.qb.aI;have hB:=hA.clr;have rc:=RP.canon hB;have ct:=CU ((clr (aI (qvs p))).map canon) (rc.mono (by omega) (by omega));have pr:=WI ((clr (aI (qvs p))).map canon) (rc.mono (by omega) (by omega));rw[lN]at ct pr;have hl:=je hA;have hd0:=jJ (aI (qvs p));have nt:=mG false (jq (aI (qvs p))) (by omega);rw[sgf]at nt;have zc:=Gt hB;have mk:=CP (canon (cont (clr (aI (qvs p))))) (canon ((jq (aI (qvs p)):Nat):Int)) ((aW _).mono (by omega)) ((aW _).mono (by rw[jh];omega)) (by rw[aN];omega);rw[aN,aN]at mk;rw[show aP (nK (aI (qvs p)))=aP ((cont (clr (aI (qvs p))):Rat)/(((jq (aI (qvs p)):Nat):Int):Rat)) from rfl];refine ACX.aA zi0 (rs:=[.cell 2 32,.tmp 3,.tmp 4]) aX Tryz.func20 (by rfl) (by rfl) (by rfl) (by rfl) (by rfl) (a6N _ _ _) (fun B0=>?_);simp (disch:=omega) only[wt,seval];refine ah (c) (by rfl) (by simp) ?_;simp (disch:=omega) only[wt,seval];refine ah (ct) (by rfl) (by simp) ?_;simp only[wt,seval];refine ah (nt) (by rfl) (by simp) ?_;simp only[wt,seval];refine aK (mk) (by rfl) (by simp) (by rfl) ?_;rintro B1 E1 _ hB1 hE1 ⟨b,d,rfl,hb⟩;simp (disch:=omega) only[wt,seval,cO,bF];refine .inl ⟨aS (by kernel_rfl),?_⟩;refine aK (pr) (by rfl) (by simp) (by rfl) ?_;rintro B2 E2 _ hB2 hE2 ⟨o,bs,rfl,hl2,ho⟩;simp (disch:=omega) only[wt,seval,cO];refine⟨bH (by kernel_rfl),?_⟩;refine aT [.agg (frq b d (aP ((cont (clr (aI (qvs p))):Rat)/(((jq (aI (qvs p)):Nat):Int):Rat)))),.iv (uK o bs (dJ (yN (clr (aI (qvs p)))))),ci 0] (by rfl) (by simp (disch:=omega) only[wt,seval,bF]) ?_;intro E hE;exact⟨b,d,o,bs,rfl,hl2,((hb.mono hB1 (Nat.le_refl _)).append ho (by omega) hB2 (by omega)).mono (Nat.le_refl _) (by omega)⟩



set_option maxRecDepth 8000 in
theorem Ws (p:List RQ)(n k:Nat)(hp:GQ n k p)(hn1:1≤n)(hn:n≤2^28)(hk1:1≤k)(hM:n*k+k+2≤2^34):ACX Tryz.prog 22 [cqw p,ci 1] (RQp (cqs (qvs p)) 0):=by
 have hk:k≤2^34:=by omega
 have nm:=kY p (hp.mono (by omega) (by omega));have o1:=D8 1 (by decide);rw[show wd 1=[1] by decide +kernel]at o1;have zo:AC Tryz.prog 106 [ci 1] none [cz 1]:=V6 1 (by omega) (by omega);have hA:=hp.qb;have q1:QB 1 1 [1]:=⟨by simp,fun c hc=>by simp at hc;subst hc;exact Nat.le_of_eq KJ⟩;have e0:cqs [1]=[aP 1]:=rfl;have m:=KP (cqs [1]) (cqs (qvs p)) n k (q1.gqs.mono hn1 hk1) hA.gqs hn hM hk1;rw[vG,vG,show cqs (iO (aI [1]) (aI (qvs p)))=cqs (qvs p) from iT fun k=>by rw[oW];exact a8I (by rw[OI,a6H,PQ.one_mul]) k,e0]at m;have ec:nJ (aP 1)=[IV.bool false,IV.sl (bW [1]),IV.sl (bW [1])]:=by rw[show aP 1=((false,[1]),[1]) by decide +kernel]
 have hw1:wd 1=[1]:=by decide +kernel
 have ez:canon 1=(false,[1]):=Yj;have er:[[IV.bool false,IV.sl (bW [1]),IV.sl (bW [1])]]=fD [aP 1]:=by rw[← ec];rfl
 have b1r:IntKind.i64.wrap ↑(BitVec.ofInt IntKind.i64.bits (1:Int)&&&BitVec.ofInt IntKind.i64.bits 1).toNat=1:=by decide +kernel
 have ed:Int.fdiv (1:Int) (2^min 1 IntKind.i64.bits)=0:=by decide +kernel
 rw[show cqp (qvs p)=cqw (cqs (qvs p)) from rfl]at nm;generalize cqs (qvs p)=A at *;refine ACX.aA zi0 (rs:=[.tmp 4,.tmp 5]) aX Tryz.func22 (by rfl) (by rfl) (by rfl) (by rfl) (by rfl) (Il _ _) (fun B0=>?_);simp only[wt,seval];refine ah (nm) (by rfl) (by simp) ?_;simp (disch:=omega) only[wt,seval];refine ah (zo) (by rfl) (by simp) ?_;simp only[wt,seval];refine ah (o1) (by rfl) (by simp) ?_;simp (disch:=omega) only[wt,seval,rqs,ez,er];refine aH (fun f H=>f 6=.iv (.sl (fD A))∧((f 1=.iv (.int .i64 1)∧f 8=.hs 28 1∧H 28=.blk false 1 32 3 (fD [aP 1])∧H 999=.mrk B0)∨(f 1=.iv (.int .i64 0)∧∃ b bs E,f 8=.iv (fqp b bs A)∧bs.length=A.length∧B0≤E∧Nw B0 E (oid b++idq bs)∧H 999=.mrk E))) (fun f H=>(aY f 1).toNat) ?_ ?_
 ·refine⟨by simp only[wt,seval],.inl ⟨by simp only[wt,seval],by simp only[wt,seval];try rfl,by simp only[wt,seval],by simp only[wt,seval];try rfl⟩⟩
 rintro f H ⟨f6,⟨f1,f8,g28,g9⟩|⟨f1,b,bs,E,f8,hl,hE,hn,g9⟩⟩
 ·rw[aB f1];simp (disch:=omega) only[wt,seval,f6,f1,f8,b1r];refine aK (m) (by simp only[gQ,tJ,g28];rfl) (by simp) (by assumption) ?_;rintro B1 E1 _ hB1 hE1 ⟨b,bs,rfl,hl,hn⟩;simp (disch:=omega) only[wt,seval,f6,f1,g28,ed];exact .inr ⟨b,bs,E1,rfl,hl,by omega,hn.mono hB1 (Nat.le_refl _),rfl⟩
 ·rw[aB f1];simp (disch:=omega) only[wt,seval,f1,f8];refine aT [.iv (fqp b bs A),ci 0] (by assumption) (by simp (disch:=omega) only[wt,seval]) ?_;intro E hE;exact⟨b,bs,rfl,hl,hn.mono (Nat.le_refl _) (by omega)⟩


theorem XD:AC Tryz.prog 9 [ci (-1),ci 1] none [cqz (-1)]:=by
 have m:=qX (-1) 1 (by omega) (by omega) (by omega) (by omega);rwa [show ((-1:Int):Rat)/((1:Nat):Rat) = -1 by decide +kernel]at m
theorem Zq {c:Rat}(h:c≠0)(s:Nat):aI (upq c s)=upq c s:=by
 have:=vS (q:=upq c s) (n:=s) (by rw[Ec,if_pos rfl];exact h) fun k hk=>by rw[Ec,if_neg (by omega)]
 rw[aI,this,List.take_of_length_le (by rw[yu];omega)]
theorem Zr (c:Rat)(s i:Nat)(g:Nat→Rat)(k:Nat):cvq ((upq c s).take i) g k=if s<i then (if s≤k then c*g (k-s) else 0) else 0:=by
 by_cases h:s<i
 ·rw[if_pos h,List.take_of_length_le (by rw[yu];omega),Py]
 ·rw[if_neg h];have e:(upq c s).take i=List.replicate i 0:=by
   rw[upq,List.take_append_of_le_length (by rw[List.length_replicate];omega),List.take_replicate,Nat.min_eq_left (by omega)]
  rw[e];clear e h
  induction i generalizing k with
  | zero=>rfl
  | succ i ih =>
   rw[List.replicate_succ,oq];cases k with
   | zero=>simp only[kG];grind
   | succ k=>rw[kG,ih];grind
theorem a3V (c:Rat)(s:Nat):(List.replicate s (0:Rat)).map aP++[aP c]=(upq c s).map aP:=by rw[upq,List.map_append];rfl
set_option maxHeartbeats 1000000 in
theorem a3u (p r:List RQ)(hp:GQ (2^30) (2^32) p)(hr:GQ (2^30) (2^32) r)(n K:Nat)(v:DV (aI (qvs p)) (aI (qvs r)) n K)(b1E:K≤2^31):AC Tryz.prog 35 [cqw p,cqw r] none [cqp (dqu (aI (qvs p)) (aI (qvs r)) n),cqw ((dit (aI (qvs p)) (aI (qvs r)) n).map aP)]:=by
 have m:=gJ p (hp.mono (by omega) (by omega));have m2:=gJ r (hr.mono (by omega) (by omega));have z0:=qX 0 1 (by omega) (by omega) (by omega) (by omega);rw[show ((0:Int):Rat)/((1:Nat):Rat)=0 by decide +kernel]at z0;refine AC.aA (rs:=[.tmp 4,.tmp 5]) aX Tryz.func35 (by rfl) (by rfl) (by rfl) (by rfl) (by rfl) ?_;simp only[wt,seval];refine ah (m) (by rfl) (by simp) ?_;simp only[wt,seval];refine ah (m2) (by rfl) (by simp) ?_;simp only[wt,seval];unfold cqs;generalize aI (qvs p)=A at *;generalize aI (qvs r)=B at *;obtain⟨la,lb,h0,hb,ta,tb,en,hj,za,zb,k1,k2⟩:=v;have hqb:(B.map aP).length=B.length:=List.length_map _;refine Jc (.a9z 6 (by simp only[wt,seval]) (.refl _ _)) (fun f H=>∃ k:Nat,k≤n∧f 0=.iv (.sl (fD ((dit A B k).map aP)))∧f 1=.iv (.sl (fD (B.map aP)))∧f 6=.iv (.sl (fD (cqs (dqu A B k))))) (fun f H=>match f 0 with | .iv (.sl l)=>l.length|_=>0) ?_ ?_
 ·exact⟨0,Nat.zero_le _,by simp only[wt,seval]<;>rfl,by simp only[wt,seval],by simp only[wt,seval];rfl⟩
 rintro f H ⟨k,hk,g0,g1,g6⟩;have hql:((dit A B k).map aP).length=(dit A B k).length:=List.length_map _;have hmu:(match f 0 with | .iv (.sl l)=>l.length|_=>0)=(dit A B k).length:=by rw[g0];simp only[];rw[Oo,hql]
 rw[hmu];by_cases hge:B.length≤(dit A B k).length
 ·have hkn:k<n:=Nat.lt_of_le_of_ne hk fun e=>by rw[e]at hge;omega
  have hl1:=vM h0 hb k fun j hjk=>hj j (by omega)
  have ll:=II h0 hb k fun j hjk=>hj j (by omega)
  have hdn:=DT h0 hb hge;have zx:=za k hk;have zq:=Bd h0 hb za zb k1 k hk fun j hjk=>hj j (by omega)
  have a7W:dit A B (k+1)=dn1 (dit A B k) B:=rfl;have htx:=a1y (B:=B) ta k;have hdq:dqu A B (k+1)=qO (fma 1) (dqu A B k) (upq (dc (dit A B k) B) ((dit A B k).length-B.length)):=rfl;generalize hQ':dqu A B (k+1)=Q' at *;generalize hXX:dit A B k=X at *;generalize dqu A B k=Q at *;obtain⟨s,hs⟩:∃ s,s=X.length-B.length:=⟨_,rfl⟩;rw[← hs]at hdq;have zc:=W9 (cfq X (X.length-1)) (cfq B (B.length-1));have zc1:=zx (X.length-1);have zc2:=zb (B.length-1);have mq:=RN (aP (cfq X (X.length-1))) (aP (cfq B (B.length-1))) (aZ (by omega)) (aZ (by omega)) (bI _) (bI _) (by rw[P5];exact fun e=>hb (Rat.num_eq_zero.mp e));rw[dB,dB,show cfq X (X.length-1)/cfq B (B.length-1)=dc X B from rfl]at mq;rw[show cfq X (X.length-1)/cfq B (B.length-1)=dc X B from rfl]at zc;have hc0:dc X B≠0:=by
   have ht:=iY htx;have h1:=fF (q:=X) (by omega);rw[ht]at h1;intro e;have h2:=Rat.div_mul_cancel (a:=cfq X (X.length-1)) hb;rw[show cfq X (X.length-1)/cfq B (B.length-1)=dc X B from rfl,e,Rat.zero_mul]at h2;exact h1 h2.symm
  have hU:QB (2^30) (2*K) (upq (dc X B) s):=.of (by rw[yu];omega) fun i=>by
   rw[Ec];split
   ·omega
   ·rw[lD];omega
  have hQB:QB (2^30) (2*K) Q:=.of (by omega) fun i=>by have:=zq i;omega
  have hXB:QB (2^30) K X:=.of (by omega) zx;have hBB:QB (2^30) K B:=.of (by omega) zb;have p1:=tu (cqs Q) ((upq (dc X B) s).map aP) (aP 1) (2*K) hQB.gqs hU.gq (aZ (by rw[KJ];omega)) (bI _) (by omega) (by omega);rw[dB,vG,gV,show cqp (qO (fma 1) (aI Q) (upq (dc X B) s))=cqw (cqs Q') from congrArg cqw (iT fun j=>by rw[hdq,eG (gK _),eG (gK _),dZ])]at p1;have hzc:∀ k,qz (dc X B*cfq B k)≤3*K:=fun k=>by
   have h1:=qQ (dc X B) (cfq B k);have h2:=zb k;omega
  have tt:=JX ((upq (dc X B) s).map aP) (B.map aP) (2*K) hU.gq (hBB.mono (Nat.le_refl _) (by omega)).gq (by omega) (by omega) (by
   intro i k;rw[gV,gV,Zq hc0,tb,Zr];have:=hzc (k-s);split
   ·split
    ·omega
    ·rw[lD];omega
   ·rw[lD];omega)
  rw[gV,gV]at tt;have hMB:QB (2^30) (4*K) (iO (upq (dc X B) s) B):=.of (by rw[Rw,yu];omega) fun i=>by
   rw[Ee];have:=hzc (i-s);split
   ·omega
   ·rw[lD];omega
  have p2:=tu (X.map aP) (cqs (iO (upq (dc X B) s) B)) (aP (-1)) (4*K) (hXB.mono (Nat.le_refl _) (by omega)).gq hMB.gqs (aZ (by rw[a2t,KJ];omega)) (bI _) (by omega) (by omega);rw[dB,vG,gV,show cqp (qO (fma (-1)) X (aI (iO (upq (dc X B) s) B)))=cqw ((dn1 X B).map aP) from congrArg cqw (by
   rw[cqs]
   congr 1
   rw[dn1,← hs];exact mJ fun j=>by rw[eG (gK _),eG (gK _),dZ])]at p2
  have hge':(B.length:Int)≤(X.length:Int):=by omega
  have e1:(X.length:Int)-1=((X.length-1:Nat):Int):=by omega
  have e2:(B.length:Int)-1=((B.length-1:Nat):Int):=by omega
  have e3:(X.length:Int)-(B.length:Int)=(s:Int):=by omega
  have e5:(s:Int)+1=((s+1:Nat):Int):=by omega
  have c1:=dR (q:=X) (i:=X.length-1) (by omega);have c2:=dR (q:=B) (i:=B.length-1) (by omega);simp (disch:=omega) only[wt,seval,rqs,g0,g1,hql,hqb,hge',e1,e2,c1,c2];refine .inl ⟨aS (by kernel_rfl),?_⟩;refine ah (mq) (by rfl) (by simp) ?_;simp (disch:=omega) only[wt,seval,rqs,g0,g1,hql,hqb,e3];refine⟨bH (by kernel_rfl),?_⟩;simp (disch:=omega) only[seval,e5];refine aH (fun f H=>∃ (i st sc:Nat),i≤s∧f 9=.iv (.int .i64 i)∧f 0=.iv (.sl (fD (X.map aP)))∧f 1=.iv (.sl (fD (B.map aP)))∧f 6=.iv (.sl (fD (cqs Q)))∧f 7=.hp 7 sc 0 0∧H 7=.blk false sc 32 3 [nJ (aP (dc X B))]∧f 8=.hs 38 st∧H 38=.blk false st 32 3 (fD ((List.replicate i (0:Rat)).map aP))) (fun f H=>(s-aY f 9).toNat) ?_ ?_
  ·refine⟨0,(H 38).stamp+1,(H 7).stamp+1,by omega,?_⟩;simp only[wt,seval,rqs,g0,g1,g6,List.replicate_zero]
  rintro f H ⟨i,st,sc,hi,hF⟩;rw[aB hF.1];simp (disch:=omega) only[wt,seval,rqs,hF];have hrq:((List.replicate i (0:Rat)).map aP).length=i:=by simp
  refine aQ (fun hlt=>?_) (fun hlt=>?_)
  ·simp (disch:=omega) only[wt,seval,hF];refine ah (z0) (by rfl) (by simp) ?_;simp (disch:=omega) only[wt,seval,rqs,hF,hrq];refine⟨⟨i+1,st+1,sc,by omega,?_⟩,by omega⟩;rw[List.replicate_succ',List.map_append]
   (repeat' apply And.intro)<;>first|rfl|omega
  ·obtain rfl:i=s:=by omega
   have hup:=a3V (dc X B) i;simp (disch:=omega) only[wt,seval,rqs,hF,hrq,hup];refine ah (P9) (by rfl) (by simp) ?_;simp (disch:=omega) only[wt,seval];refine ah (p1) (by rfl) (by simp) ?_;simp (disch:=omega) only[wt,seval,hF];refine ah (XD) (by rfl) (by simp) ?_;simp (disch:=omega) only[wt,seval,hF];refine ah (tt) (by rfl) (by simp) ?_;simp (disch:=omega) only[wt,seval];refine ah (p2) (by rfl) (by simp) ?_;simp (disch:=omega) only[wt,seval,rqs,hF];refine⟨⟨k+1,hkn,?_⟩,?_⟩
   ·rw[a7W,hQ']
    (repeat' apply And.intro)<;>first|rfl|omega
   ·rw[List.length_map];exact hdn
 ·obtain rfl:k=n:=by
   rcases Nat.lt_or_ge k n with h|h
   ·exact absurd (hj k h) hge
   ·omega
  have hge':¬(B.length:Int)≤((dit A B k).length:Int):=by omega
  simp (disch:=omega) only[wt,seval,rqs,g0,g1,g6,hql,hqb,hge']
  try rfl
theorem a9e {A B:List Rat}(hA:QB 40 (2^20) A)(hB:QB 40 (2^20) B)(ta:aI A=A)(tb:aI B=B)(h0:B.length≠0):∃ n,DV A B n (2^31):=by
 have hb:cfq B (B.length-1)≠0:=by
  have ht:=iY tb;have:=fF (q:=B) (by omega);rwa [ht]at this
 obtain⟨D,hD⟩:=hA.cb;have hC:=hB.clr;obtain⟨n,en,hj,hn⟩:=a5n A h0 hb;have b1x:n≤40:=Nat.le_trans hn hA.1;refine⟨n,⟨Nat.le_trans hA.1 (by omega),Nat.le_trans hB.1 (by omega),h0,hb,ta,tb,en,hj,fun k hk i=>?_,fun i=>?_,by omega,by omega⟩⟩
 ·obtain⟨E,hE⟩:=a2L hD hC h0 hb k fun j hjk=>hj j (by omega)
  have h1:=hE.qb.cz (by omega) i;have h2:k*(2^20+40*2^20+1+1)≤40*(2^20+40*2^20+1+1):=Nat.mul_le_mul_right _ (by omega);omega
 ·have:=hB.cz (by omega) i;omega

theorem a7c:AC Tryz.prog 9 [ci (-1),ci 1] none [cqz (-1)]:=by
 have p:=qX (-1) 1 (by omega) (by omega) (by omega) (by omega);rwa [show ((-1:Int):Rat)/((1:Nat):Rat) = -1 by decide +kernel]at p

set_option linter.defProp false
theorem U0 (p q:List RQ)(hp:GQ (2^40) (2^38) p)(hq:GQ (2^40) (2^38) q)(h:aI (qvs q)=[]):ACX Tryz.prog 16 [cqw p,cqw q] (a5E [] [] 1):=by
 have m:=AO p q hp hq;rw[show cqp (qvs q)=cqw [] from congrArg cqw (by rw[cqs,h];rfl)]at m;refine ACX.aA ziX (rs:=[.tmp 4,.tmp 5,.tmp 6]) aX Tryz.func16 (by rfl) (by rfl) (by rfl) (by rfl) (by rfl) (X8 _ _ _) (fun B=>?_);simp only[wt,seval];refine ah (m) (by rfl) (by simp) ?_;simp (disch:=omega) only[wt,seval,rqs];refine lT 4 32 3 (by rfl) ?_;refine lT 5 32 3 (by rfl) ?_;refine aT [.iv (fqp none [] []),.iv (fqp none [] []),ci 1] (by rfl) (by(simp (disch:=omega) only[wt,seval]);exact⟨rfl,rfl⟩) ?_;intro E hE;exact⟨none,[],none,[],rfl,rfl,rfl,.nil _ _⟩
def LL (l:List RQ):Prop:=l.length≤100∧∀ r∈l,SzQ (2^40) r
theorem QB.ll {n k:Nat}{X:List Rat}(h:QB n k X)(hn:n≤100)(hk:k≤2^40):LL (cqs X):=⟨Nat.le_trans h.gqs.1 hn,fun r hr=>(h.gqs.2 r hr).1.mono hk⟩
theorem QB.llm {n k:Nat}{X:List Rat}(h:QB n k X)(hn:n≤100)(hk:k≤2^40):LL (X.map aP):=⟨by rw[List.length_map];exact Nat.le_trans h.1 hn,fun r hr=>(h.gq.2 r hr).1.mono hk⟩
structure RV (P R W V S T M D I U Q:List RQ) (eD:Int) (kn:Nat) (wz xz:List Int) (cr fr:RQ):Prop where
 f1:AC Tryz.prog 11 [cqw P] none [cqw W]
 f2:AC Tryz.prog 11 [cqw R] none [cqw V]
 add:ACX Tryz.prog 12 [cqw P,cqw R] (RQp S 0)
 sub:ACX Tryz.prog 13 [cqw P,cqw R] (RQp T 0)
 mul:ACX Tryz.prog 14 [cqw P,cqw R] (RQp M 0)
 nrm:ACX Tryz.prog 15 [cqw P] (RQp W 0)
 ad0:ACX Tryz.prog 12 [cqw P,cqw []] (RQp W 0)
 div:ACX Tryz.prog 16 [cqw P,cqw R] (a5E U Q eD)
 der:ACX Tryz.prog 17 [cqw P] (RQp D 0)
 int:ACX Tryz.prog 18 [cqw P] (RQp I 0)
 clr:ACX Tryz.prog 19 [cqw P] (a9m kn wz 0)
 prt:ACX Tryz.prog 20 [cqw P] (a9l cr xz 0)
 cof:ACX Tryz.prog 21 [cqw P,ci 0] (Zd fr 0)
 pow:ACX Tryz.prog 22 [cqw P,ci 1] (RQp W 0)
 tcl:AC Tryz.prog 24 [cqw W] none [cl (wd kn),cw (wz.map canon)]
 tpr:AC Tryz.prog 25 [cqw W] none [cqq cr,cw (xz.map canon)]
 tp1:AC Tryz.prog 27 [cqw W,cqz 1,cqw V] none [cqw S]
 tp2:AC Tryz.prog 27 [cqw W,cqz (-1),cqw V] none [cqw T]
 ttm:AC Tryz.prog 28 [cqw W,cqw V] none [cqw M]
 tdr:AC Tryz.prog 29 [cqw W] none [cqw D]
 tin:AC Tryz.prog 30 [cqw W] none [cqw I]
 tat:AC Tryz.prog 34 [cqw W,ci 0] none [cqq fr]
 ll:LL W∧LL V∧LL S∧LL T∧LL M∧LL D∧LL I∧LL U∧LL Q
 sc:SzQ (2^40) cr∧SzQ (2^40) fr
 sk:(wd kn).length≤2^40
 sw:wz.length≤100∧RP (2^40) (2^40) (wz.map canon)
 sx:xz.length≤100∧RP (2^40) (2^40) (xz.map canon)
 dv:V.length=0∨(V.length≠0∧eD=0∧AC Tryz.prog 35 [cqw W,cqw V] none [cqw U,cqw Q])
set_option maxHeartbeats 1000000 in
theorem Kz (P R:List RQ)(hP:GQ 40 (2^20) P)(hR:GQ 40 (2^20) R):∃ W V S T M D I U Q eD kn wz xz cr fr,RV P R W V S T M D I U Q eD kn wz xz cr fr:=by
 have qa:=hP.qb;have qb:=hR.qb;have hW:GQ 40 (2^20) (cqs (qvs P)):=qa.gqs;have hV:GQ 40 (2^20) (cqs (qvs R)):=qb.gqs;have hA:=qa.aI;have hB:=qb.aI;have tA:=dP (qvs P);have tB:=dP (qvs R);obtain⟨Dn,hD⟩:=qa.cb;obtain⟨En,hE⟩:=qb.cb;have wW:qvs (cqs (qvs P))=aI (qvs P):=vG _;have wV:qvs (cqs (qvs R))=aI (qvs R):=vG _;have zs:QB 40 (2^22) (Zb (qvs P) (qvs R)):=.of (by simp only[Zb,List.length_map,List.length_range];have:=qa.1;have:=qb.1;omega) fun i=>by
  rw[J8];have h1:=FD (cfq (qvs P) i) (cfq (qvs R) i);have h2:=qa.cz (by omega) i;have h3:=qb.cz (by omega) i;omega
 have zd:QB 40 (2^22) (a3A (qvs P) (qvs R)):=.of (by have:=qa.1;have:=qb.1;rw[a3A,qg];omega) fun i=>by
  rw[SL];have h1:=VZ (cfq (qvs P) i) (cfq (qvs R) i);have h2:=qa.cz (by omega) i;have h3:=qb.cz (by omega) i;omega
 have zm:=QB.iO (n:=40) (k:=2^20) (M:=41*2^20+1) qa qb (by decide) (by omega) (by omega);have s2:=tu _ _ (aP 1) (2^20) (hW.mono (by omega) (by omega)) (hV.mono (by omega) (by omega)) (aZ (by rw[KJ];omega)) (bI _) (by omega) (by omega);rw[dB,wW,wV,show cqp (qO (fma 1) (aI (qvs P)) (aI (qvs R)))=cqp (Zb (qvs P) (qvs R)) from congrArg cqw (iT fun j=>by rw[eG (gK _),J8,dZ,dZ];unfold fma;grind)]at s2;have u2:=tu _ _ (aP (-1)) (2^20) (hW.mono (by omega) (by omega)) (hV.mono (by omega) (by omega)) (aZ (Nat.le_trans (show qz (-1)≤1 by decide +kernel) (by omega))) (bI _) (by omega) (by omega);rw[dB,wW,wV,show cqp (qO (fma (-1)) (aI (qvs P)) (aI (qvs R)))=cqp (a3A (qvs P) (qvs R)) from congrArg cqw (iT fun j=>by rw[eG (gK _),SL,dZ,dZ];unfold fma;grind)]at u2;have p2:=JX _ _ (2^20) (hW.mono (by omega) (by omega)) (hV.mono (by omega) (by omega)) (by omega) (by omega) (fun i k=>by rw[wW,wV,tA,tB];exact Nat.le_trans (hD.trim.part hE.trim (by omega) i k) (by omega));rw[wW,wV,show cqp (iO (aI (qvs P)) (aI (qvs R)))=cqp (iO (qvs P) (qvs R)) from congrArg cqw (iT fun k=>oW _ _ k)]at p2;have ad0:=KQ P [] (2^20) (hP.mono (by omega) (by omega)) ⟨Nat.zero_le _,fun r hr=>nomatch hr⟩ (by omega) (by omega);rw[show cqs (Zb (qvs P) (qvs []))=cqs (qvs P) from iT fun j=>by rw[J8,show qvs []=[] from rfl,jy,Rat.add_zero]]at ad0;have td:=Vp _ 40 (2^20) hW (by omega) (by omega) (by omega);rw[wW,show cqp (qC (aI (qvs P)))=cqp (qC (qvs P)) from congrArg cqw (DX _)]at td;have ti:=Ko _ 40 (2^20) hW (by omega) (by omega) (by omega);rw[wW,tA]at ti;have tc:=Kq _ 40 (2^20) hW (by omega) (by omega) (by omega);rw[wW,tA]at tc;have tp:=Zv _ 40 (2^20) hW (by omega) (by omega) (by omega);rw[wW,tA]at tp;have ta:=BP (aI (qvs P)) 0 (Nat.le_trans hA.1 (by omega));rw[dZ]at ta;have hl:=je hA;have hd0:=jJ (aI (qvs P));have hC:=hA.clr;have zc:=Gt hC;have zp:qz (nK (aI (qvs P)))≤2^40:=vF hd0 (by omega) (by omega);have hpb:PB 40 (2^40) (yN (clr (aI (qvs P)))):=.of (by unfold yN La;rw[List.length_map];exact hC.1) fun i=>by
  unfold yN;rw[xI];exact Nat.le_trans (JE (IZ _ i)) (Nat.le_trans (hC.cf i) (by omega))
 have rcn:=a8G (hpb.mono (n':=2^40) (k':=2^40) (by omega) (by omega));have rcl:=(RP.canon hC).mono (n':=2^40) (k':=2^40) (by omega) (by omega);have lz:(dJ (yN (clr (aI (qvs P))))).length≤100:=by
  have h1:=hpb.1;have h2:(dJ (yN (clr (aI (qvs P))))).length≤(yN (clr (aI (qvs P)))).length:=by rw[dJ,List.length_take];exact Nat.min_le_right _ _
  omega
 have lw:(clr (aI (qvs P))).length≤100:=Nat.le_trans hC.1 (by omega);have key:∃ U Q eD,ACX Tryz.prog 16 [cqw P,cqw R] (a5E U Q eD)∧LL U∧LL Q∧((cqs (qvs R)).length=0∨((cqs (qvs R)).length≠0∧eD=0∧AC Tryz.prog 35 [cqw (cqs (qvs P)),cqw (cqs (qvs R))] none [cqw U,cqw Q])):=by
  by_cases hb0:(aI (qvs R)).length=0
  ·exact⟨[],[],1,U0 P R (hP.mono (by omega) (by omega)) (hR.mono (by omega) (by omega)) (List.length_eq_zero_iff.mp hb0),⟨by simp,by simp⟩,⟨by simp,by simp⟩,.inl (by rw[cqs,List.length_map];exact hb0)⟩
  ·obtain⟨n,v⟩:=a9e hA hB tA tB hb0;have dv:=a0p P R (hP.mono (by omega) (by omega)) (hR.mono (by omega) (by omega)) n (2^31) v;have tq:=a3u (cqs (qvs P)) (cqs (qvs R)) (hW.mono (by omega) (by omega)) (hV.mono (by omega) (by omega)) n (2^31) (by rw[wW,wV,tA,tB];exact v) (by omega);rw[wW,wV,tA,tB]at tq;have zq:=Bd v.h0 v.hb v.za v.zb v.k1 n (Nat.le_refl _) v.hj;have lq:=II v.h0 v.hb n v.hj;have ld:=vM v.h0 v.hb n v.hj;have hA1:=hA.1;have q1:QB 41 (2^33) (dqu (aI (qvs P)) (aI (qvs R)) n):=.of (by omega) fun i=>by have:=zq i;omega
   have q2:QB 41 (2^33) (dit (aI (qvs P)) (aI (qvs R)) n):=.of (by omega) fun i=>by have:=v.za n (Nat.le_refl _) i;omega
   exact⟨_,_,0,dv,q1.ll (by omega) (by omega),q2.llm (by omega) (by omega),.inr ⟨by rw[cqs,List.length_map];exact hb0,rfl,tq⟩⟩
 obtain⟨U,Q,eD,k1,k2,k3,k4⟩:=key;exact⟨cqs (qvs P),cqs (qvs R),_,_,_,_,_,U,Q,eD,jq (aI (qvs P)),clr (aI (qvs P)),dJ (yN (clr (aI (qvs P)))),aP (nK (aI (qvs P))),aP (cfq (qvs P) 0),
  gJ P (hP.mono (by omega) (by omega)),gJ R (hR.mono (by omega) (by omega)),KQ P R (2^20) (hP.mono (by omega) (by omega)) (hR.mono (by omega) (by omega)) (by omega) (by omega),Wq P R (2^20) (hP.mono (by omega) (by omega)) (hR.mono (by omega) (by omega)) (by omega) (by omega),KP P R 40 (2^20) hP hR (by omega) (by omega) (by omega),yL P (hP.mono (by omega) (by omega)),ad0,k1,U1 P 40 (2^20) hP (by omega) (by omega) (by omega),I7 P 40 (2^20) hP (by omega) (by omega) (by omega),U2 P 40 (2^20) hP (by omega) (by omega),Wu P 40 (2^20) hP (by omega) (by omega),WB P 0 (hP.mono (by omega) (by omega)),Ws P 40 (2^20) hP (by omega) (by omega) (by omega) (by omega),
  tc,tp,s2,u2,p2,td,ti,ta,⟨qa.ll (by omega) (by omega),qb.ll (by omega) (by omega),zs.ll (by omega) (by omega),zd.ll (by omega) (by omega),zm.ll (by omega) (by omega),(qa.qC (by omega) (by omega)).ll (by omega) (by omega),(hA.P7 (by omega) (by omega)).ll (by omega) (by omega),k2,k3⟩,⟨aZ zp,aZ (Nat.le_trans (qa.cz (by omega) 0) (by omega))⟩,by omega,⟨lw,rcl⟩,⟨lz,rcn⟩,k4⟩
end Go.Proofs.YtdpngipofekcfaaGreat
