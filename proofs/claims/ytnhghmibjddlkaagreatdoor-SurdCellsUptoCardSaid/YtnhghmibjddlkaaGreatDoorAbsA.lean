/-
 The abstract logic of this claim: data,frames,handles and the operations.
-/
import Derived.WalkKit
import Derived.RangeFuncNested
import Derived.OrdersIn
import Derived.TacticsIn
import Derived.Shelf.Abstract
import Derived.Lib.AppendZerosOnto
namespace Go.AL
open Go.RowKit
set_option linter.unusedSimpArgs false
set_option linter.unusedVariables false
inductive IV where
 |int (k:IntKind) (n:Int)
 |bool (b:Bool)
 |sl (rows:List (List IV))
 |raw (v:Value)
 |own (b:Option (Nat×Nat)) (e sz:Nat) (rows:List (List IV))
 |av (X:Nat->Prop) (x:IV)
 deriving Inhabited
inductive Rep (w:World):(Nat->Prop)->IV->Value->Prop
 |int {D:Nat->Prop} (k:IntKind) (n:Int):Rep w D (.int k n) (.int k n)
 |bool {D:Nat->Prop} (b:Bool):Rep w D (.bool b) (.bool b)
 |raw {D:Nat->Prop} (v:Value) (h:v.oneCell'=true):Rep w D (.raw v) v
 |nil {D:Nat->Prop} (a:Option Addr) (cap:Nat) (hcap:cap<=maxLen):Rep w D (.sl []) (.slice a 0 cap)
 |sl {D:Nat->Prop} (rows:List (List IV)) (g o cap sz:Nat) (cell:Nat->Nat->Value)
   (hsz:∀(i:Nat) (r:List IV),rows[i]?=some r->r.length=sz) (hlen:rows.length<=cap) (hcap:cap<=maxLen) (hg:g<w.heap.size) (hD:¬D g)
   (hc:∀(i:Nat) (r:List IV),rows[i]?=some r->∀(j:Nat) (x:IV),r[j]?=some x->w.cell? ⟨g,o+(i*sz+j),none⟩=some (cell i j))
   (hr:∀(i:Nat) (r:List IV),rows[i]?=some r->∀(j:Nat) (x:IV),r[j]?=some x->Rep w D x (cell i j)) :
   Rep w D (.sl rows) (.slice (some ⟨g,o,none⟩) rows.length cap)
 |QD {D:Nat->Prop} (e sz:Nat):Rep w D (.own none e sz []) (.slice none 0 0)
 |own {D:Nat->Prop} (rows:List (List IV)) (g cap e sz:Nat) (cur:Array Value)
   (hsz:∀(i:Nat) (r:List IV),rows[i]?=some r->r.length=sz) (hlen:rows.length<=cap) (hcap:cap<=maxLen) (hg:w.heap[g]?=some (.cells cur e (0,0))) (hD:¬D g) (hcs:cur.size=cap*sz)
   (hr:∀(i:Nat) (r:List IV),rows[i]?=some r->∀(j:Nat) (x:IV),r[j]?=some x->Rep w D x (cur.getD (i*sz+j) Go.undef)) :
   Rep w D (.own (some (g,cap)) e sz rows) (.slice (some ⟨g,0,none⟩) rows.length cap)
 |av {D:Nat->Prop} (X:Nat->Prop) (x:IV) (v:Value) (h:Rep w (λb=>D b\/X b) x v):Rep w D (.av X x) v
structure dh (w:World) (D:Nat->Prop) (w':World) (D':Nat->Prop):Prop where
 size:w.heap.size<=w'.heap.size
 sub:∀b,b<w.heap.size->D' b->D b
 keep:∀b,b<w.heap.size->¬D b->(∃o:Obj,w.heap[b]?=some o/\o.isCells=true)->w'.heap[b]?=w.heap[b]?
theorem dh.refl (w:World)(D:Nat->Prop):dh w D w D:=⟨Nat.le_refl _,λ_ _ h=>h,λ_ _ _ _=>rfl⟩
theorem dh.cell {w w':World}{D D':Nat->Prop}(h:dh w D w' D'){a:Addr}{v:Value}(hD:¬D a.block)(hc:w.cell? a=some v):w'.cell? a=some v:=by
 rw[<-hc];exact World.cell?_of_block (h.keep _ (World.block_lt_of_cell? w a hc) hD (cells_of_cell hc))
theorem Rep.mono {w w':World}{D D':Nat->Prop}(h:dh w D w' D'){x:IV}{v:Value}(hr:Rep w D x v):Rep w' D' x v:=by
 induction hr generalizing D' with
 |int k n=>exact .int k n
 |bool b=>exact .bool b
 |raw v hv=>exact .raw v hv
 |nil a cap hcap=>exact .nil a cap hcap
 |sl rows g o cap sz cell hsz hlen hcap hg hD hc hr ih =>
  exact .sl rows g o cap sz cell hsz hlen hcap (Nat.lt_of_lt_of_le hg h.size) (λh'=>hD (h.sub _ hg h')) (λi r hi j x hj=>h.cell hD (hc i r hi j x hj)) λi r hi j x hj=>ih i r hi j x hj h
 |QD e sz=>exact .QD e sz
 |own rows g cap e sz cur hsz hlen hcap hg hD hcs hr ih =>
  have hlt:=(Array.getElem?_eq_some_iff.1 hg).1;exact .own rows g cap e sz cur hsz hlen hcap (by rw[h.keep g hlt hD ⟨_,hg,rfl⟩];exact hg) (λh'=>hD (h.sub _ hlt h')) hcs λi r hi j x hj=>ih i r hi j x hj h
 |av X x v hx ih=>exact .av X x v (ih ⟨h.size,λb hb hd=>hd.imp (h.sub b hb) id,λb hb hn=>h.keep b hb λhd=>hn (.inl hd)⟩)
theorem Rep.wK {w:World}{D:Nat->Prop}{b:Option (Nat×Nat)}{e sz:Nat}{rows:List (List IV)}{v:Value}(h:Rep w D (.own b e sz rows) v):Rep w D (.sl rows) v:=by
 cases h with
 |QD=>exact .nil none 0 (Nat.zero_le _)
 |own rows g cap e sz cur hsz hlen hcap hg hD hcs hr =>
  refine .sl rows g 0 cap sz (λi j=>cur.getD (i*sz+j) Go.undef) hsz hlen hcap (Array.getElem?_eq_some_iff.1 hg).1 hD (λi r hi j x hj=>?_) hr;have h1:i<rows.length:=(List.getElem?_eq_some_iff.1 hi).1;have h2:j<sz:=by have:=(List.getElem?_eq_some_iff.1 hj).1;rw[hsz i r hi]at this;exact this
  have h3:(i+1)*sz<=cap*sz:=Nat.mul_le_mul_right _ (by omega);have h4:i*sz+j<cur.size:=by rw[hcs];rw[Nat.add_mul]at h3;omega
  rw[World.cell?,hg];simp[Array.getD_eq_getD_getElem?,h4]
theorem Rep.a6N {w:World}{D:Nat->Prop}{b:Option (Nat×Nat)}{e sz:Nat}{rows:List (List IV)}{v:Value}(h:Rep w D (.own b e sz rows) v):v=.slice (b.map λp=>⟨p.1,0,none⟩) rows.length ((b.map (·.2)).getD 0)/\rows.length<=(b.map (·.2)).getD 0/\(b.map (·.2)).getD 0<=maxLen:=by
 cases h with
 |QD=>exact⟨rfl,Nat.le_refl _,Nat.zero_le _⟩
 |own rows g cap e sz cur hsz hlen hcap hg hD hcs hr=>exact⟨rfl,hlen,hcap⟩
theorem Rep.a1E {w:World}{D:Nat->Prop}{b:Option (Nat×Nat)}{e sz:Nat}{rows:List (List IV)}{v:Value}(h:Rep w D (.own b e sz rows) v){n:Nat}(hn:n<=rows.length):Rep w D (.own b e sz (rows.take n)) (.slice (b.map λp=>⟨p.1,0,none⟩) n ((b.map (·.2)).getD 0)):=by
 cases h with
 |QD =>
  simp only[List.length_nil,Nat.le_zero]at hn;subst hn;exact .QD e sz
 |own rows g cap e sz cur hsz hlen hcap hg hD hcs hr =>
  have hl:(rows.take n).length=n:=by rw[List.length_take,Nat.min_eq_left hn]
  have key:∀(i:Nat) (r:List IV),(rows.take n)[i]?=some r->rows[i]?=some r:=λi r hi=>by
   rw[List.getElem?_take]at hi;split at hi
   .exact hi
   .cases hi
  have:=Rep.own (w:=w) (D:=D) (rows.take n) g cap e sz cur (λi r hi=>hsz i r (key i r hi)) (by omega) hcap hg hD hcs (λi r hi=>hr i r (key i r hi));rw[hl]at this;exact this
mutual
def IV.ids:IV->List Nat
 |.own b _ _ rows=>(match b with|some p=>[p.1]|none=>[])++iq rows
 |.sl rows=>iq rows
 |.av _ x=>x.ids
 |_=>[]
def iq:List (List IV)->List Nat
 |[]=>[]
 |r::rs=>pI r++iq rs
def pI:List IV->List Nat
 |[]=>[]
 |x::xs=>x.ids++pI xs
end
theorem iH {g:Nat}:∀{xs:List IV},g∈pI xs↔∃x∈xs,g∈x.ids
 |[]=>by simp[pI]
 |x::xs=>by simp[pI,iH (xs:=xs)]
theorem vT {g:Nat}:∀{rs:List (List IV)},g∈iq rs↔∃r∈rs,g∈pI r
 |[]=>by simp[iq]
 |r::rs=>by simp[iq,vT (rs:=rs)]
theorem Ia (a b:List IV):pI (a++b)=pI a++pI b:=by
 induction a with
 |nil=>simp[pI]
 |cons r rs ih=>simp[pI,ih]
theorem jq (rs:List (List IV)):pI rs.flatten=iq rs:=by
 induction rs with
 |nil=>rfl
 |cons r rs ih=>rw[List.flatten_cons,Ia,ih];rfl
theorem Rep.ids {w:World}{D:Nat->Prop}{x:IV}{v:Value}(h:Rep w D x v):∀g∈x.ids,¬D g/\g<w.heap.size:=by
 induction h with
 |int|bool|raw|nil|QD=>intro g hg;simp[IV.ids,iq]at hg
 |sl rows g o cap sz cell hsz hlen hcap hg hD hc hr ih =>
  intro k hk;simp only[IV.ids]at hk;obtain⟨r,hr',hk⟩:=vT.1 hk;obtain⟨x,hx,hk⟩:=iH.1 hk;obtain⟨i,hi⟩:=List.getElem?_of_mem hr';obtain⟨j,hj⟩:=List.getElem?_of_mem hx;exact ih i r hi j x hj k hk
 |own rows g cap e sz cur hsz hlen hcap hg hD hcs hr ih =>
  intro k hk;simp only[IV.ids,List.mem_append,List.mem_singleton]at hk;rcases hk with rfl|hk
  .exact⟨hD,(Array.getElem?_eq_some_iff.1 hg).1⟩
  .obtain⟨r,hr',hk⟩:=vT.1 hk;obtain⟨x,hx,hk⟩:=iH.1 hk;obtain⟨i,hi⟩:=List.getElem?_of_mem hr';obtain⟨j,hj⟩:=List.getElem?_of_mem hx;exact ih i r hi j x hj k hk
 |av X x v hx ih=>exact λg hg=>by simp only[IV.ids]at hg;exact⟨λhd=>(ih g hg).1 (.inl hd),(ih g hg).2⟩
inductive SL:IV->IV->Prop
 |refl (x:IV):SL x x
 |own (b:Option (Nat×Nat)) (e sz:Nat) (rows rows':List (List IV)) (hl:rows'.length=rows.length) (hs:∀(i:Nat) (r r':List IV),rows[i]?=some r->rows'[i]?=some r'->r'.length=r.length)
   (h:∀(i:Nat) (r r':List IV),rows[i]?=some r->rows'[i]?=some r'->∀(j:Nat) (x x':IV),r[j]?=some x->r'[j]?=some x'->SL x x'):SL (.own b e sz rows) (.sl rows')
 |sl (rows rows':List (List IV)) (hl:rows'.length=rows.length) (hs:∀(i:Nat) (r r':List IV),rows[i]?=some r->rows'[i]?=some r'->r'.length=r.length)
   (h:∀(i:Nat) (r r':List IV),rows[i]?=some r->rows'[i]?=some r'->∀(j:Nat) (x x':IV),r[j]?=some x->r'[j]?=some x'->SL x x'):SL (.sl rows) (.sl rows')
theorem SL.rep {w:World}{D:Nat->Prop}{x y:IV}(h:SL x y):∀{v:Value},Rep w D x v->Rep w D y v:=by
 have sl:∀(rows rows':List (List IV)) (hl:rows'.length=rows.length) (hs:∀(i:Nat) (r r':List IV),rows[i]?=some r->rows'[i]?=some r'->r'.length=r.length)
   (ih:∀(i:Nat) (r r':List IV),rows[i]?=some r->rows'[i]?=some r'->∀(j:Nat) (x x':IV),r[j]?=some x->r'[j]?=some x'->∀{v:Value},Rep w D x v->Rep w D x' v) {v:Value},Rep w D (.sl rows) v->Rep w D (.sl rows') v:=by
  intro rows rows' hl hs ih v hv;cases hv with
  |nil a cap hcap =>
   have:rows'=[]:=List.eq_nil_of_length_eq_zero hl;subst this;exact .nil a cap hcap
  |sl _ g o cap sz cell hsz hlen hcap hg hD hc hr =>
   have get:∀(i:Nat) (r':List IV),rows'[i]?=some r'->∃r,rows[i]?=some r/\r'.length=r.length:=λi r' hi=>by
    have hlt:=(List.getElem?_eq_some_iff.1 hi).1;have:rows[i]?=some (rows[i]'(by omega)):=List.getElem?_eq_getElem (by omega);exact⟨_,this,hs i _ _ this hi⟩
   have b3P:∀(r r':List IV),r'.length=r.length->∀(j:Nat) (x':IV),r'[j]?=some x'->∃x,r[j]?=some x:=λr r' he j x' hj=>by
    have hlt:=(List.getElem?_eq_some_iff.1 hj).1;exact⟨_,List.getElem?_eq_getElem (by omega)⟩
   rw[<-hl];refine .sl rows' g o cap sz cell (λi r' hi=>?_) (by omega) hcap hg hD (λi r' hi j x' hj=>?_) (λi r' hi j x' hj=>?_)
   .obtain⟨r,h1,h2⟩:=get i r' hi;rw[h2];exact hsz i r h1
   .obtain⟨r,h1,h2⟩:=get i r' hi;obtain⟨x,hx⟩:=b3P r r' h2 j x' hj;exact hc i r h1 j x hx
   .obtain⟨r,h1,h2⟩:=get i r' hi;obtain⟨x,hx⟩:=b3P r r' h2 j x' hj;exact ih i r r' h1 hi j x x' hx hj (hr i r h1 j x hx)
 induction h with
 |refl=>exact λh=>h
 |own b e sz rows rows' hl hs h ih=>exact λhv=>sl rows rows' hl hs ih hv.wK
 |sl rows rows' hl hs h ih=>exact λhv=>sl rows rows' hl hs ih hv
theorem Rep.one {w:World}{D:Nat->Prop}{x:IV}{v:Value}(h:Rep w D x v):v.oneCell'=true:=by
 induction h<;>first|rfl|assumption
theorem Rep.b4q {w:World}{D X:Nat->Prop}{x:IV}{v:Value}(h:Rep w D (.av X x) v):Rep w D x v:=by
 cases h with
 |av _ _ _ h=>exact h.mono ⟨Nat.le_refl _,λ_ _ h=>.inl h,λ_ _ _ _=>rfl⟩
def eF (w:World)(D:Nat->Prop):List IV->List Value->Prop
 |[],[]=>True
 |x::xs,v::vs=>Rep w D x v/\eF w D xs vs
 |_,_=>False
theorem eF.length {w:World}{D:Nat->Prop}:∀{xs:List IV} {vs:List Value},eF w D xs vs->xs.length=vs.length
 |[],[],_=>rfl
 |_::_,_::_,h=>by simp[eF.length h.2]
 |[],_::_,h=>h.elim
 |_::_,[],h=>h.elim
theorem eF.get {w:World}{D:Nat->Prop}:∀{xs:List IV} {vs:List Value},eF w D xs vs->∀(j:Nat) (x:IV),xs[j]?=some x->∃v,vs[j]?=some v/\Rep w D x v
 |[],[],_,j,x,hj=>by simp at hj
 |x::xs,v::vs,h,0,y,hj=>by simp at hj;subst hj;exact⟨v,rfl,h.1⟩
 |x::xs,v::vs,h,j+1,y,hj=>by simpa using eF.get h.2 j y (by simpa using hj)
 |[],_::_,h,_,_,_=>h.elim
 |_::_,[],h,_,_,_=>h.elim
theorem eF.Ky {w:World}{D:Nat->Prop}:∀{xs:List IV} {vs:List Value},xs.length=vs.length->(∀(j:Nat) (x:IV),xs[j]?=some x->∃v,vs[j]?=some v/\Rep w D x v)->eF w D xs vs
 |[],[],_,_=>trivial
 |x::xs,v::vs,hl,h=>by
  refine⟨?_,eF.Ky (by simpa using hl) λj y hj=>by simpa using h (j+1) y (by simpa using hj)⟩;obtain⟨u,hu,hr⟩:=h 0 x rfl;simp at hu;subst hu;exact hr
 |[],_::_,hl,_=>by simp at hl
 |_::_,[],hl,_=>by simp at hl
theorem eF.mono {w w':World}{D D':Nat->Prop}(h:dh w D w' D'):∀{xs:List IV} {vs:List Value},eF w D xs vs->eF w' D' xs vs
 |[],[],_=>trivial
 |_::_,_::_,hr=>⟨hr.1.mono h,eF.mono h hr.2⟩
 |[],_::_,hr=>hr.elim
 |_::_,[],hr=>hr.elim
theorem eF.one {w:World}{D:Nat->Prop}:∀{xs:List IV} {vs:List Value},eF w D xs vs->∀v∈vs,v.oneCell'=true
 |[],[],_,v,hv=>by cases hv
 |_::_,_::_,h,v,hv=>by
  rcases List.mem_cons.1 hv with rfl|hv
  .exact h.1.one
  .exact eF.one h.2 v hv
 |[],_::_,h,_,_=>h.elim
 |_::_,[],h,_,_=>h.elim
theorem eF.take {w:World}{D:Nat->Prop}(n:Nat):∀{xs:List IV} {vs:List Value},eF w D xs vs->eF w D (xs.take n) (vs.take n):=by
 induction n with
 |zero=>intro xs vs _;simp[eF]
 |succ n ih =>
  intro xs vs h
  match xs,vs,h with
  |[],[],_=>simp[eF]
  |x::xs,v::vs,h=>exact⟨h.1,ih h.2⟩
theorem eF.drop {w:World}{D:Nat->Prop}(n:Nat):∀{xs:List IV} {vs:List Value},eF w D xs vs->eF w D (xs.drop n) (vs.drop n):=by
 induction n with
 |zero=>intro xs vs h;simpa using h
 |succ n ih =>
  intro xs vs h
  match xs,vs,h with
  |[],[],_=>simp[eF]
  |x::xs,v::vs,h=>simpa using ih h.2
theorem eF.append {w:World}{D:Nat->Prop}:∀{xs:List IV} {vs:List Value} {ys:List IV} {us:List Value},eF w D xs vs->eF w D ys us->eF w D (xs++ys) (vs++us)
 |[],[],_,_,_,h=>h
 |_::_,_::_,_,_,h,h'=>⟨h.1,eF.append h.2 h'⟩
 |[],_::_,_,_,h,_=>h.elim
 |_::_,[],_,_,h,_=>h.elim
def b2g:Value->IV
 |.int k n=>.int k n
 |.bool b=>.bool b
 |.slice none 0 0=>.sl []
 |v=>.raw v
theorem a2U (w:World)(D:Nat->Prop)(v:Value)(h:v.oneCell'=true):Rep w D (b2g v) v:=by
 unfold b2g;split
 .exact .int ..
 .exact .bool ..
 .exact .nil none 0 (Nat.zero_le _)
 .exact .raw _ h
inductive AV where
 |dead
 |undef
 |ub
 |iv (x:IV)
 |oG
 |agg (cells:List IV)
 |ip (cells:List IV)
 |hs (h st:Nat)
 |hw (h st:Nat)
 |hv (h st off len:Nat)
 |hp (h st i off:Nat)
 |tup (l:List AV)
 |fn (g:Nat) (l:List AV)
 deriving Inhabited
inductive HC where
 |none
 |blk (fz:Bool) (st e sz:Nat) (rows:List (List IV))
 |nst (st e:Nat) (rows:List AV)
 |gone (st sz:Nat)
 |mrk (B:Nat)
 |tie (x:AV) (v:Value)
 deriving Inhabited
def HC.stamp:HC->Nat
 |.none=>0
 |.blk _ st _ _ _=>st
 |.nst st _ _=>st
 |.gone st _=>st
 |.mrk _=>0
 |.tie _ _=>0
def HC.esz:HC->Nat
 |.none=>0
 |.blk _ _ _ sz _=>sz
 |.nst _ _ _=>1
 |.gone _ sz=>sz
 |.mrk _=>0
 |.tie _ _=>0
def HC.gB:HC->Prop
 |.blk false _ _ _ _=>True
 |.nst _ _ _=>True
 |_=>False
def HC.frz:HC->HC
 |.blk _ st e sz rows=>.blk true st e sz rows
 |.nst st _ _=>.gone st 1
 |.gone st sz=>.gone st sz
 |.mrk B=>.mrk B
 |.tie x v=>.tie x v
 |.none=>.none
abbrev Fr:=Nat->AV
abbrev Hp:=Nat->HC
def upd (f:Fr)(t:Nat)(v:AV):Fr:=λu=>if u=t then v else f u
def dF (H:Hp)(h:Nat)(c:HC):Hp:=λu=>if u=h then c else H u
def iY (f:Fr)(t:Option Nat)(v:AV):Fr:=match t with|some t=>upd f t v|none=>f
def dA:List (Nat×HC)->Hp->Hp
 |[],H=>H
 |(h,c)::r,H=>dA r (dF H h c)
def bD:Value->Option Nat
 |.slice (some a) _ _=>some a.block
 |_=>none
def DD (H:Hp)(β:Nat->Value)(D0:Nat->Prop):Nat->Prop:=λb=>D0 b\/∃h,(H h).gB/\bD (β h)=some b
def Own (w:World)(D:Nat->Prop)(B:Nat)(M:Nat->Prop)(v:Value)(e sz:Nat)(rows:List (List IV)):Prop :=
 (∀r∈rows,r.length=sz) /\
 ((rows=[]/\v=.slice none 0 0) \/
  ∃g cap cur,v=.slice (some ⟨g,0,none⟩) rows.length cap/\(B<=g\/M g)/\w.heap[g]?=some (.cells cur e (0,0))/\rows.length<=cap/\cap<=maxLen/\cur.size=cap*sz /\
   eF w D rows.flatten (cur.toList.take (rows.length*sz)))
mutual
def aG (w:World)(D:Nat->Prop)(H:Hp)(β:Nat->Value):AV->Value->Prop
 |.dead,_=>True
 |.undef,v=>v=Go.undef
 |.ub,v=>∃b,v=.bool b
 |.iv x,v=>Rep w D x v
 |.oG,v=>v=.slice none 0 0
 |.agg cells,v=>∃cs:Array Value,v=.agg cs/\eF w D cells cs.toList
 |.ip cells,v=>∃g o,v=.pointer (some ⟨g,o,none⟩)/\(cells≠[]->¬D g)/\∃vs,eF w D cells vs/\∀(j:Nat) c,vs[j]?=some c->w.cell? ⟨g,o+j,none⟩=some c
 |.hs h st,v=>st<=(H h).stamp/\(st=(H h).stamp->v=β h)
 |.hw h st,v=>st<=(H h).stamp/\(st=(H h).stamp->v=β h)
 |.hv h st off len,v=>st<=(H h).stamp/\(st=(H h).stamp->(len=0/\∃a cap,v=.slice a 0 cap/\cap<=maxLen/\(off=0->∃n,β h=.slice a n cap))\/∃g n cap cap',β h=.slice (some ⟨g,0,none⟩) n cap/\v=.slice (some ⟨g,off*(H h).esz,none⟩) len cap'/\len<=cap'/\cap'<=maxLen/\(off=0->cap'=cap))
 |.hp h st i off,v=>st<=(H h).stamp/\(st=(H h).stamp->∃g n cap,β h=.slice (some ⟨g,0,none⟩) n cap/\v=.pointer (some ⟨g,i*(H h).esz+off,none⟩))
 |.tup l,v=>∃vs:Array Value,v=.tuple vs/\aS w D H β l vs.toList
 |.fn g l,v=>∃vs:Array Value,v=.func (.func g) #[] vs/\aS w D H β l vs.toList
def aS (w:World)(D:Nat->Prop)(H:Hp)(β:Nat->Value):List AV->List Value->Prop
 |[],[]=>True
 |x::xs,v::vs=>aG w D H β x v/\aS w D H β xs vs
 |_,_=>False
end
def jV (H:Hp)(β:Nat->Value)(H':Hp)(β':Nat->Value):Prop :=
 ∀h,((H' h).stamp=(H h).stamp/\(H' h).esz=(H h).esz/\β' h=β h)\/(H h).stamp<(H' h).stamp
mutual
theorem aG.mono {w w':World}{D D':Nat->Prop}{H H':Hp}{β β':Nat->Value}(g:dh w D w' D')(s:jV H β H' β'):∀(x:AV) (v:Value),aG w D H β x v->aG w' D' H' β' x v
 |.dead,_,_=>by simp[aG]
 |.undef,v,h=>by simpa [aG] using h
 |.ub,v,h=>by simpa [aG] using h
 |.iv x,v,h=>by simp only[aG]at h ⊢;exact h.mono g
 |.oG,v,h=>by simpa [aG] using h
 |.agg cells,v,h=>by
  simp only[aG]at h ⊢;obtain⟨cs,rfl,hr⟩:=h;exact⟨cs,rfl,hr.mono g⟩
 |.ip cells,v,h=>by
  simp only[aG]at h ⊢;obtain⟨b,o,rfl,hD,vs,hr,hc⟩:=h;by_cases he:cells=[]
  .subst he;exact⟨b,o,rfl,λh=>(h rfl).elim,[],by simp[eF],by simp⟩
  .have hne:=hD he;refine⟨b,o,rfl,λ_ h'=>?_,vs,hr.mono g,λj c hj=>g.cell hne (hc j c hj)⟩;have hl:=hr.length
   match cells,vs,he,hl with
   |x::xs,v::vs,_,_ =>
    have:=hc 0 v rfl;exact hne (g.sub _ (World.block_lt_of_cell? w _ this) h')
 |.hs h st,v,hh=>by
  simp only[aG]at hh ⊢;rcases s h with ⟨h1,h2,h3⟩|h1
  .rw[h1,h3];exact hh
  .exact⟨by omega,λh=>by omega⟩
 |.hw h st,v,hh=>by
  simp only[aG]at hh ⊢;rcases s h with ⟨h1,h2,h3⟩|h1
  .rw[h1,h3];exact hh
  .exact⟨by omega,λh=>by omega⟩
 |.hv h st off len,v,hh=>by
  simp only[aG]at hh ⊢;rcases s h with ⟨h1,h2,h3⟩|h1
  .rw[h1,h2,h3];exact hh
  .exact⟨by omega,λh=>by omega⟩
 |.hp h st i off,v,hh=>by
  simp only[aG]at hh ⊢;rcases s h with ⟨h1,h2,h3⟩|h1
  .rw[h1,h2,h3];exact hh
  .exact⟨by omega,λh=>by omega⟩
 |.tup l,v,h=>by
  simp only[aG]at h ⊢;obtain⟨vs,rfl,hr⟩:=h;exact⟨vs,rfl,aS.mono g s l _ hr⟩
 |.fn _ l,v,h=>by
  simp only[aG]at h ⊢;obtain⟨vs,rfl,hr⟩:=h;exact⟨vs,rfl,aS.mono g s l _ hr⟩
theorem aS.mono {w w':World}{D D':Nat->Prop}{H H':Hp}{β β':Nat->Value}(g:dh w D w' D')(s:jV H β H' β'):∀(l:List AV) (vs:List Value),aS w D H β l vs->aS w' D' H' β' l vs
 |[],[],_=>by simp[aS]
 |x::xs,v::vs,h=>by
  simp only[aS]at h ⊢;exact⟨aG.mono g s x v h.1,aS.mono g s xs vs h.2⟩
 |[],_::_,h=>by simp[aS]at h
 |_::_,[],h=>by simp[aS]at h
end
def UQ (w:World)(D:Nat->Prop)(H:Hp)(β:Nat->Value)(B:Nat)(M:Nat->Prop)(v:Value)(e:Nat)(rows:List AV):Prop :=
 (rows=[]/\v=.slice none 0 0) \/
  ∃g cap cur,v=.slice (some ⟨g,0,none⟩) rows.length cap/\(B<=g\/M g)/\w.heap[g]?=some (.cells cur e (0,0))/\rows.length<=cap/\cap<=maxLen/\cur.size=cap /\
   aS w D H β rows (cur.toList.take rows.length)/\∀u∈cur.toList.take rows.length,u.oneCell'=true
theorem UQ.mono {w w':World}{D D':Nat->Prop}{H H':Hp}{β β':Nat->Value}{B:Nat}{M:Nat->Prop}{v:Value}{e:Nat}{rows:List AV}(g:dh w D w' D')(s:jV H β H' β')
  (hb:∀k,bD v=some k->w'.heap[k]?=w.heap[k]?) (h:UQ w D H β B M v e rows):UQ w' D' H' β' B M v e rows:=by
 rcases h with hn|⟨k,cap,cur,rfl,hB,hk,h1,h2,h3,h4⟩
 .exact .inl hn
 .exact .inr ⟨k,cap,cur,rfl,hB,by rw[hb k rfl];exact hk,h1,h2,h3,aS.mono g s _ _ h4.1,h4.2⟩
theorem UQ.lt {w:World}{D:Nat->Prop}{H:Hp}{β:Nat->Value}{B:Nat}{M:Nat->Prop}{v:Value}{e:Nat}{rows:List AV}(h:UQ w D H β B M v e rows){k:Nat}(hk:bD v=some k):k<w.heap.size/\(B<=k\/M k):=by
 rcases h with ⟨_,rfl⟩|⟨g,cap,cur,rfl,hB,hg,_⟩
 .simp[bD]at hk
 .simp[bD]at hk;subst hk;exact⟨(Array.getElem?_eq_some_iff.1 hg).1,hB⟩
theorem aS.length {w:World}{D:Nat->Prop}{H:Hp}{β:Nat->Value}:∀{xs:List AV} {vs:List Value},aS w D H β xs vs->xs.length=vs.length
 |[],[],_=>rfl
 |x::xs,v::vs,h=>by simp only[aS]at h;simp[aS.length h.2]
 |[],_::_,h=>by simp[aS]at h
 |_::_,[],h=>by simp[aS]at h
theorem aS.get {w:World}{D:Nat->Prop}{H:Hp}{β:Nat->Value}:∀{xs:List AV} {vs:List Value},aS w D H β xs vs->∀(j:Nat),j<xs.length->∃v,vs[j]?=some v/\aG w D H β (xs.getD j .undef) v
 |[],[],_,j,hj=>by simp at hj
 |x::xs,v::vs,h,0,_=>by simp only[aS]at h;exact⟨v,rfl,h.1⟩
 |x::xs,v::vs,h,j+1,hj=>by simp only[aS]at h;simpa using aS.get h.2 j (by simpa using hj)
 |[],_::_,h,_,_=>by simp[aS]at h
 |_::_,[],h,_,_=>by simp[aS]at h
theorem aS.set {w:World}{D:Nat->Prop}{H:Hp}{β:Nat->Value}{x:AV}{v:Value}(hx:aG w D H β x v):∀{xs:List AV} {vs:List Value} (j:Nat),aS w D H β xs vs->aS w D H β (xs.set j x) (vs.set j v)
 |[],[],_,_=>by simp[aS]
 |y::xs,u::vs,0,h=>by simp only[aS,List.set_cons_zero]at h ⊢;exact⟨hx,h.2⟩
 |y::xs,u::vs,j+1,h=>by simp only[aS,List.set_cons_succ]at h ⊢;exact⟨h.1,aS.set hx j h.2⟩
 |[],_::_,_,h=>by simp[aS]at h
 |_::_,[],_,h=>by simp[aS]at h
theorem aS.append {w:World}{D:Nat->Prop}{H:Hp}{β:Nat->Value}:∀{xs:List AV} {vs:List Value} {ys:List AV} {us:List Value},aS w D H β xs vs->aS w D H β ys us->aS w D H β (xs++ys) (vs++us)
 |[],[],_,_,_,h=>h
 |x::xs,v::vs,ys,us,h,k=>by simp only[aS,List.cons_append]at h ⊢;exact⟨h.1,aS.append h.2 k⟩
 |[],_::_,_,_,h,_=>by simp[aS]at h
 |_::_,[],_,_,h,_=>by simp[aS]at h
def b2j (v:Value):Prop:=∀ad n cap,v=.slice (some ad) n cap->ad.off=0
structure Gh where
 vals:AV->Value->Prop
 rnd:Bool
structure Rel (G:Gh) (M:Nat->Prop) (w0:World) (D0:Nat->Prop) (N:Nat) (f:Fr) (H:Hp) (β:Nat->Value) (a:Act) (w:World):Prop where
 os:w.os=w0.os
 tape:w.tape=w0.tape
 output:w.output=w0.output
 size:w0.heap.size<=w.heap.size
 keep:∀k,k<w0.heap.size->¬M k->w.heap[k]?=w0.heap[k]?
 old:∀b,D0 b->b<w0.heap.size/\¬M b
 rV:a.tmps.size=N
 defers:∀d∈a.defers,∃k,d={ target:=.collected k,args:=#[] }/\w0.heap.size<=k/\w.heap[k]?=some (.deferred (some []))
 rnd:G.rnd=true->a.defers=[]
 a1X:a.defers.Nodup
 gh:∀x v,G.vals x v->aG w (DD H β D0) H β x v
 tmps:∀t,aG w (DD H β D0) H β (f t) (a.tmps.getD t Go.undef)
 own:∀h st e sz rows,H h=.blk false st e sz rows->Own w (DD H β D0) w0.heap.size M (β h) e sz rows
 frz:∀h st e sz rows,H h=.blk true st e sz rows->(∀r∈rows,r.length=sz)/\Rep w (DD H β D0) (.sl rows) (β h)/\b2j (β h)
 dis:∀h h',h≠h'->(H h).gB->(H h').gB->∀g,bD (β h)=some g->bD (β h')≠some g
 nst:∀h st e rows,H h=.nst st e rows->UQ w (DD H β D0) H β w0.heap.size M (β h) e rows
 mrk:∀h B,H h=.mrk B->B<=w.heap.size
 tie:∀h x v,H h=.tie x v->aG w (DD H β D0) H β x v
theorem Own.mono {w w':World}{D D':Nat->Prop}{B:Nat}{M:Nat->Prop}{v:Value}{e sz:Nat}{rows:List (List IV)}(g:dh w D w' D')
  (hb:∀k,bD v=some k->w'.heap[k]?=w.heap[k]?) (h:Own w D B M v e sz rows):Own w' D' B M v e sz rows:=by
 refine⟨h.1,?_⟩;rcases h.2 with hn|⟨k,cap,cur,rfl,hB,hk,h1,h2,h3,h4⟩
 .exact .inl hn
 .exact .inr ⟨k,cap,cur,rfl,hB,by rw[hb k rfl];exact hk,h1,h2,h3,h4.mono g⟩
theorem Own.lt {w:World}{D:Nat->Prop}{B:Nat}{M:Nat->Prop}{v:Value}{e sz:Nat}{rows:List (List IV)}(h:Own w D B M v e sz rows){k:Nat}(hk:bD v=some k):k<w.heap.size/\(B<=k\/M k):=by
 rcases h.2 with ⟨_,rfl⟩|⟨g,cap,cur,rfl,hB,hg,_⟩
 .simp[bD]at hk
 .simp[bD]at hk;subst hk;exact⟨(Array.getElem?_eq_some_iff.1 hg).1,hB⟩
theorem aO (H:Hp)(h:Nat)(c:HC):dF H h c h=c:=by simp[dF]
theorem aJ (H:Hp){h u:Nat}(c:HC)(e:u≠h):dF H h c u=H u:=by simp[dF,e]
theorem xw {H:Hp}{h u:Nat}{c:HC}(hc:∀B,c≠.mrk B){B:Nat}(e:dF H h c u=.mrk B):H u=.mrk B:=by
 by_cases hu:u=h
 .subst hu;rw[aO]at e;exact(hc B e).elim
 .rwa [aJ _ _ hu]at e
theorem HC.Oo {c:HC}{B:Nat}(h:c.frz=.mrk B):c=.mrk B:=by cases c<;>simp_all[HC.frz]
theorem HC.a7B {c:HC}{x:AV}{v:Value}(h:c.frz=.tie x v):c=.tie x v:=by cases c<;>simp_all[HC.frz]
theorem Q9 {H:Hp}{h u:Nat}{c:HC}(hc:∀x v,c≠.tie x v){x:AV}{v:Value}(e:dF H h c u=.tie x v):H u=.tie x v:=by
 by_cases hu:u=h
 .subst hu;rw[aO]at e;exact(hc x v e).elim
 .rwa [aJ _ _ hu]at e
section
variable {G:Gh} {M:Nat->Prop} {w0:World} {D0:Nat->Prop} {N:Nat} {f:Fr} {H:Hp} {β:Nat->Value} {a:Act} {w:World}
theorem Rel.o7 (R:Rel G M w0 D0 N f H β a w){h k:Nat}(hm:(H h).gB)(hk:bD (β h)=some k):k<w.heap.size/\(w0.heap.size<=k\/M k):=by
 cases hH:H h with
 |none=>rw[hH]at hm;exact hm.elim
 |gone st sz=>rw[hH]at hm;exact hm.elim
 |mrk B=>rw[hH]at hm;exact hm.elim
 |tie x v=>rw[hH]at hm;exact hm.elim
 |nst st e rows=>exact(R.nst h _ _ _ hH).lt hk
 |blk fz st e sz rows =>
  cases fz with
  |true=>rw[hH]at hm;exact hm.elim
  |false=>exact(R.own h _ _ _ _ hH).lt hk
theorem Rel.XK (R:Rel G M w0 D0 N f H β a w){h k:Nat}(hm:(H h).gB)(hk:bD (β h)=some k):∃cur e,w.heap[k]?=some (.cells cur e (0,0)):=by
 cases hH:H h with
 |none=>rw[hH]at hm;exact hm.elim
 |gone st sz=>rw[hH]at hm;exact hm.elim
 |mrk B=>rw[hH]at hm;exact hm.elim
 |tie x v=>rw[hH]at hm;exact hm.elim
 |nst st e rows =>
  rcases R.nst h _ _ _ hH with ⟨_,hv⟩|⟨g,cap,cur,hv,_,hg,_⟩
  .rw[hv]at hk;simp[bD]at hk
  .rw[hv]at hk;simp[bD]at hk;subst hk;exact⟨cur,e,hg⟩
 |blk fz st e sz rows =>
  cases fz with
  |true=>rw[hH]at hm;exact hm.elim
  |false =>
   rcases (R.own h _ _ _ _ hH).2 with ⟨_,hv⟩|⟨g,cap,cur,hv,_,hg,_⟩
   .rw[hv]at hk;simp[bD]at hk
   .rw[hv]at hk;simp[bD]at hk;subst hk;exact⟨cur,e,hg⟩
theorem Rel.step (R:Rel G M w0 D0 N f H β a w){w':World}{H':Hp}{β':Nat->Value}{dst:Option Nat}{v:AV}{val:Value}
  (hos:w'.os=w.os) (htape:w'.tape=w.tape) (hout:w'.output=w.output)
  (g:dh w (DD H β D0) w' (DD H' β' D0)) (hM:∀k,k<w0.heap.size->¬M k->w'.heap[k]?=w.heap[k]?) (hdf:∀k:Nat,w0.heap.size<=k->w.heap[k]?=some (.deferred (some []))->w'.heap[k]?=some (.deferred (some []))) (s:jV H β H' β')
  (hv:aG w' (DD H' β' D0) H' β' v val)
  (own':∀h st e sz rows,H' h=.blk false st e sz rows->Own w' (DD H' β' D0) w0.heap.size M (β' h) e sz rows)
  (b5K:∀h st e sz rows,H' h=.blk true st e sz rows->(∀r∈rows,r.length=sz)/\Rep w' (DD H' β' D0) (.sl rows) (β' h)/\b2j (β' h))
  (b5L:∀h h',h≠h'->(H' h).gB->(H' h').gB->∀g,bD (β' h)=some g->bD (β' h')≠some g)
  (b2M:∀h st e rows,H' h=.nst st e rows->UQ w' (DD H' β' D0) H' β' w0.heap.size M (β' h) e rows)
  (mk':∀h B,H' h=.mrk B->B<=w'.heap.size) (hd:∀d,dst=some d->d<N)
  (ti':∀h x v,H' h=.tie x v->H h=.tie x v:=by first|exact λ_ _ _ h=>h|(intro u x v hu;exact Q9 (by intro x v;simp) hu)):Rel G M w0 D0 N (iY f dst v) H' β' (a.put dst val) w':=by
 refine⟨hos.trans R.os,htape.trans R.tape,hout.trans R.output,Nat.le_trans R.size g.size,λk hk hm=>(hM k hk hm).trans (R.keep k hk hm),R.old,?_,?_,λh=>by rw[show (a.put dst val).defers=a.defers by cases dst<;>rfl];exact R.rnd h,by rw[show (a.put dst val).defers=a.defers by cases dst<;>rfl];exact R.a1X,λx v hp=>aG.mono g s _ _ (R.gh x v hp),?_,own',b5K,b5L,b2M,mk',λh x v hh=>aG.mono g s _ _ (R.tie h x v (ti' h x v hh))⟩
 .cases dst<;>simp[Act.put,R.rV]
 .have hd:(a.put dst val).defers=a.defers:=by cases dst<;>rfl
  rw[hd];intro d hd;obtain⟨k,h1,h2,h3⟩:=R.defers d hd;exact⟨k,h1,h2,hdf k h2 h3⟩
 .intro t;cases dst with
  |none=>exact aG.mono g s _ _ (R.tmps t)
  |some d =>
   have hdN:=hd d rfl;by_cases ht:t=d
   .subst ht;have:(a.put (some t) val).tmps.getD t Go.undef=val:=by
     simp[Act.put,R.rV,hdN]
    rw[this];simpa [iY,upd] using hv
   .have:(a.put (some d) val).tmps.getD t Go.undef=a.tmps.getD t Go.undef:=by
     simp[Act.put,Array.getElem?_setIfInBounds_ne (Ne.symm ht)]
    rw[this];simpa [iY,upd,ht] using aG.mono g s _ _ (R.tmps t)
theorem jV.refl (H:Hp)(β:Nat->Value):jV H β H β:=λ_=>.inl ⟨rfl,rfl,rfl⟩
theorem Rel.value (R:Rel G M w0 D0 N f H β a w){dst:Option Nat}{v:AV}{val:Value}(hv:aG w (DD H β D0) H β v val)(hd:∀d,dst=some d->d<N) :
  Rel G M w0 D0 N (iY f dst v) H β (a.put dst val) w :=
 R.step rfl rfl rfl (dh.refl _ _) (λ_ _ _=>rfl) (λ_ _ h=>h) (jV.refl _ _) hv R.own R.frz R.dis R.nst R.mrk hd
theorem dh.heap {w w':World}(D:Nat->Prop)(h:w'.heap=w.heap):dh w D w' D:=⟨by rw[h];exact Nat.le_refl _,λ_ _ h=>h,λ_ _ _ _=>by rw[h]⟩
theorem Rel.drew (R:Rel G M w0 D0 N f H β a w):Rel G M w0 D0 N f H β a { w with drawn:=w.drawn+1 }:=by
 have h:=R.step (w':={ w with drawn:=w.drawn+1 }) (dst:=none) (v:=.dead) (val:=Go.undef) rfl rfl rfl (dh.heap (w':={ w with drawn:=w.drawn+1 }) _ rfl) (λ_ _ _=>rfl) (λ_ _ h=>h) (jV.refl _ _) (by simp[aG])
  (λh st e sz rows hh=>Own.mono (w:=w) (w':={ w with drawn:=w.drawn+1 }) (dh.heap _ rfl) (λ_ _=>rfl) (R.own h st e sz rows hh))
  (λh st e sz rows hh=>⟨(R.frz h st e sz rows hh).1,Rep.mono (w:=w) (w':={ w with drawn:=w.drawn+1 }) (dh.heap _ rfl) (R.frz h st e sz rows hh).2.1,(R.frz h st e sz rows hh).2.2⟩) R.dis
  (λh st e rows hh=>UQ.mono (w:=w) (w':={ w with drawn:=w.drawn+1 }) (dh.heap _ rfl) (jV.refl _ _) (λ_ _=>rfl) (R.nst h st e rows hh)) R.mrk (by simp)
 exact h
theorem ru {h:Nat}{c:HC}{v:Value}(hv:∀k,bD v=some k->w.heap.size<=k\/DD H β D0 k){b:Nat}(hb:b<w.heap.size)
  (hd:DD (dF H h c) (λu=>if u=h then v else β u) D0 b):DD H β D0 b:=by
 rcases hd with hd|⟨k,hm,hh⟩
 .exact .inl hd
 .by_cases hk:k=h
  .subst hk;simp only[if_pos]at hh;rcases hv b hh with h1|h1
   .omega
   .exact h1
  .rw[aJ _ _ hk]at hm;simp only[if_neg hk]at hh;exact .inr ⟨k,hm,hh⟩
theorem Rel.fresh (R:Rel G M w0 D0 N f H β a w){w':World}{h e sz:Nat}{rows:List (List IV)}{v:Value}{dst:Option Nat}{x:AV}{val:Value}{st:Nat}(hst:(H h).stamp<st)
  (hos:w'.os=w.os) (htape:w'.tape=w.tape) (hout:w'.output=w.output) (hsz:w.heap.size<=w'.heap.size) (hk:∀k,k<w.heap.size->w'.heap[k]?=w.heap[k]?)
  (hown:Own w' (λb=>DD H β D0 b\/bD v=some b) w.heap.size (λ_=>False) v e sz rows)
  (hv:∀β':Nat->Value,β' h=v->(∀D,aG w' D (dF H h (.blk false st e sz rows)) β' x val)) (hd:∀d,dst=some d->d<N) :
  ∃β',β' h=v/\(∀u,u≠h->β' u=β u)/\Rel G M w0 D0 N (iY f dst x) (dF H h (.blk false st e sz rows)) β' (a.put dst val) w':=by
 refine⟨λu=>if u=h then v else β u,by simp,λu hu=>by simp[hu],?_⟩;have hvk:∀k,bD v=some k->w.heap.size<=k\/DD H β D0 k:=λk hk=>by
  rcases (hown.lt hk).2 with h|h
  .exact .inl h
  .exact h.elim
 have g:dh w (DD H β D0) w' (DD (dF H h (.blk false st e sz rows)) (λu=>if u=h then v else β u) D0) :=
  ⟨hsz,λb hb hd=>ru hvk hb hd,λb hb _ _=>hk b hb⟩
 have g':dh w' (λb=>DD H β D0 b\/bD v=some b) w' (DD (dF H h (.blk false st e sz rows)) (λu=>if u=h then v else β u) D0):=by
  refine⟨Nat.le_refl _,λb _ hd=>?_,λ_ _ _ _=>rfl⟩;rcases hd with hd|⟨k,hm,hh⟩
  .exact .inl (.inl hd)
  .by_cases hk:k=h
   .subst hk;simp only[if_pos]at hh;exact .inr hh
   .rw[aJ _ _ hk]at hm;simp only[if_neg hk]at hh;exact .inl (.inr ⟨k,hm,hh⟩)
 refine R.step hos htape hout g (λk h1 _=>hk k (Nat.lt_of_lt_of_le h1 R.size)) (λk _ h=>by rw[hk k (Array.getElem?_eq_some_iff.1 h).1];exact h) ?_ (hv _ (by simp) _) ?_ ?_ ?_ ?_ (λu B hu=>Nat.le_trans (R.mrk u B (xw (by intro B;simp) hu)) hsz) hd
 .intro u;by_cases hu:u=h
  .subst hu;right;rw[aO];exact hst
  .left;simp[aJ _ _ hu,hu]
 .intro u st' e' sz' rows' hu;by_cases huh:u=h
  .subst huh;rw[aO]at hu;injection hu with _ h1 h2 h3 h4;subst h1 h2 h3 h4;simp only[if_pos];refine⟨hown.1,?_⟩;rcases hown.2 with hn|⟨k,cap,cur,rfl,hB,hkk,h1,h2,h3,h4⟩
   .exact .inl hn
   .refine .inr ⟨k,cap,cur,rfl,.inl ?_,hkk,h1,h2,h3,?_⟩
    .rcases hB with hB|hB
     .exact Nat.le_trans R.size hB
     .exact hB.elim
    .exact h4.mono g'
  .rw[aJ _ _ huh]at hu;simp only[if_neg huh];exact(R.own u st' e' sz' rows' hu).mono g λk hk'=>hk k ((R.own u st' e' sz' rows' hu).lt hk').1
 .intro u st' e' sz' rows' hu;have huh:u≠h:=by
   intro e;subst e;rw[aO]at hu;cases hu
  rw[aJ _ _ huh]at hu;simp only[if_neg huh];exact⟨(R.frz u st' e' sz' rows' hu).1,(R.frz u st' e' sz' rows' hu).2.1.mono g,(R.frz u st' e' sz' rows' hu).2.2⟩
 .intro u u' hne hm hm' k hh hh';by_cases hu:u=h
  .subst hu;have hu':u'≠u:=λe=>hne e.symm
   simp only[if_pos]at hh;simp only[if_neg hu']at hh';rw[aJ _ _ hu']at hm';have h1:=(R.o7 hm' hh').1;rcases (hown.lt hh).2 with h2|h2
   .omega
   .exact h2
  .by_cases hu':u'=h
   .subst hu';simp only[if_neg hu]at hh;simp only[if_pos]at hh';rw[aJ _ _ hu]at hm;have h1:=(R.o7 hm hh).1;rcases (hown.lt hh').2 with h2|h2
    .omega
    .exact h2
   .simp only[if_neg hu]at hh;simp only[if_neg hu']at hh';rw[aJ _ _ hu]at hm;rw[aJ _ _ hu']at hm';exact R.dis u u' hne hm hm' k hh hh'
 .intro u st' e' rows' hu;have huh:u≠h:=by
   intro e;subst e;rw[aO]at hu;cases hu
  rw[aJ _ _ huh]at hu;simp only[if_neg huh];refine(R.nst u st' e' rows' hu).mono g (λu=>?_) λk hk'=>hk k ((R.nst u st' e' rows' hu).lt hk').1;by_cases hu:u=h
  .subst hu;right;rw[aO];exact hst
  .left;simp[aJ _ _ hu,hu]
theorem iR {sz:Nat}:∀(rows:List (List IV)) (i j:Nat) (r:List IV) (x:IV),(∀r∈rows,r.length=sz)->rows[i]?=some r->r[j]?=some x->rows.flatten[i*sz+j]?=some x
 |[],i,j,r,x,_,hi,_=>by simp at hi
 |r0::rest,0,j,r,x,h,hi,hj=>by
  simp at hi;subst hi;simp only[List.flatten_cons,Nat.zero_mul,Nat.zero_add];rw[List.getElem?_append_left (List.getElem?_eq_some_iff.1 hj).1];exact hj
 |r0::rest,i+1,j,r,x,h,hi,hj=>by
  have h0:=h r0 (by simp);have ih:=iR rest i j r x (λr hr=>h r (by simp[hr])) (by simpa using hi) hj;simp only[List.flatten_cons];rw[List.getElem?_append_right (by rw[h0,Nat.add_mul];omega),h0];have:(i+1)*sz+j-sz=i*sz+j:=by rw[Nat.add_mul];omega
  rw[this];exact ih
theorem dK {sz:Nat}:∀(rows:List (List IV)),(∀r∈rows,r.length=sz)->rows.flatten.length=rows.length*sz
 |[],_=>by simp
 |r::rest,h=>by
  have h0:=h r (by simp);have ih:=dK rest (λr hr=>h r (by simp[hr]));simp only[List.flatten_cons,List.length_append,List.length_cons,h0,ih,Nat.add_mul];omega
theorem Own.rep {D:Nat->Prop}{B:Nat}{v:Value}{e sz:Nat}{rows:List (List IV)}(h:Own w D B M v e sz rows){D':Nat->Prop}(hD:∀b,D' b->D b)(hn:∀g,bD v=some g->¬D' g):Rep w D' (.sl rows) v:=by
 rcases h.2 with ⟨rfl,rfl⟩|⟨g,cap,cur,rfl,hB,hg,h1,h2,h3,h4⟩
 .exact .nil _ _ (Nat.zero_le _)
 .have h4':=h4.mono (w':=w) (D':=D') ⟨Nat.le_refl _,λb _ hb=>hD b hb,λ_ _ _ _=>rfl⟩;refine .sl rows g 0 cap sz (λi j=>(cur.toList.take (rows.length*sz)).getD (i*sz+j) default) (λi r hi=>h.1 r (List.mem_of_getElem? hi)) h1 h2 (Array.getElem?_eq_some_iff.1 hg).1 (hn g rfl) ?_ ?_
  .intro i r hi j x hj;obtain⟨c,hc,_⟩:=h4'.get _ _ (iR rows i j r x h.1 hi hj);rw[Nat.zero_add,cell_of_row w g _ cur e (0,0) hg];have hc':=hc;rw[List.getElem?_take]at hc;split at hc
   .rw[Array.getElem?_toList]at hc;rw[hc];simp[List.getD,hc']
   .cases hc
  .intro i r hi j x hj;obtain⟨c,hc,hr⟩:=h4'.get _ _ (iR rows i j r x h.1 hi hj);simpa [List.getD,hc] using hr
theorem Own.b5l {D:Nat->Prop}{B:Nat}{v:Value}{e sz:Nat}{rows:List (List IV)}(h:Own w D B M v e sz rows):b2j v:=by
 intro ad n cap hv;rcases h.2 with ⟨_,rfl⟩|⟨g,cap,cur,rfl,_⟩
 .cases hv
 .injection hv with e1;injection e1 with e1;rw[<-e1]
theorem DD.head (R:Rel G M w0 D0 N f H β a w){h:Nat}(hm:(H h).gB){g:Nat}(hg:bD (β h)=some g):w0.heap.size<=g\/M g:=by
 exact(R.o7 hm hg).2
theorem HC.Df (c:HC):c.frz.stamp=c.stamp:=by cases c<;>rfl
theorem HC.Oq (c:HC):c.frz.esz=c.esz:=by cases c<;>rfl
theorem HC.Yv (c:HC):¬c.frz.gB:=by cases c<;>simp[HC.frz,HC.gB]
theorem Rel.freeze (R:Rel G M w0 D0 N f H β a w)(h:Nat):Rel G M w0 D0 N f (dF H h (H h).frz) β a w:=by
 have hcm:¬(H h).frz.gB:=HC.Yv _;have hcs:=HC.Df (H h);have hce:=HC.Oq (H h);have hcc:∀fz st e sz rows,(H h).frz=.blk fz st e sz rows->∃fz',H h=.blk fz' st e sz rows:=by
  intro fz st e sz rows hh;cases hH:H h with
  |none=>rw[hH]at hh;cases hh
  |nst st' e' rows'=>rw[hH]at hh;cases hh
  |gone st' sz'=>rw[hH]at hh;cases hh
  |mrk B=>rw[hH]at hh;cases hh
  |tie x v=>rw[hH]at hh;cases hh
  |blk fz' st' e' sz' rows'=>rw[hH]at hh;simp only[HC.frz]at hh;injection hh with _ h1 h2 h3 h4;subst h1 h2 h3 h4;exact⟨fz',rfl⟩
 have hcn:∀st e rows,(H h).frz≠.nst st e rows:=by
  intro st e rows hh;rw[hh]at hcm;exact hcm trivial
 have hcb:∀B,(H h).frz=.mrk B->B<=w.heap.size:=λB e=>R.mrk h B (HC.Oo e)
 have hct:∀x v,(H h).frz=.tie x v->H h=.tie x v:=λx v e=>HC.a7B e
 revert hcm hcs hce hcc hcn hcb hct
 generalize (H h).frz=c;intro hcm hcs hce hcc hcn hcb hct;have hDD:∀b,DD (dF H h c) β D0 b->DD H β D0 b:=by
  intro b hb;rcases hb with hb|⟨k,hm,hk⟩
  .exact .inl hb
  .by_cases hkh:k=h
   .subst hkh;rw[aO]at hm;exact(hcm hm).elim
   .rw[aJ _ _ hkh]at hm;exact .inr ⟨k,hm,hk⟩
 have g:dh w (DD H β D0) w (DD (dF H h c) β D0):=⟨Nat.le_refl _,λb _ hb=>hDD b hb,λ_ _ _ _=>rfl⟩;have:=R.step (w':=w) (H':=dF H h c) (β':=β) (dst:=none) (v:=.dead) (val:=Go.undef) rfl rfl rfl g (λ_ _ _=>rfl) (λ_ _ h=>h) ?_ (by simp[aG]) ?_ ?_ ?_ ?_ (λu B hu=>by
  by_cases e:u=h
  .subst e;rw[aO]at hu;exact hcb B hu
  .rw[aJ _ _ e]at hu;exact R.mrk u B hu) (by simp) (λu x v hu=>by
  by_cases e:u=h
  .subst e;rw[aO]at hu;exact hct x v hu
  .rw[aJ _ _ e]at hu;exact hu)
 .exact this
 .intro u;by_cases hu:u=h
  .subst hu;left;simp[aO,hcs,hce]
  .left;simp[aJ _ _ hu]
 .intro u st e sz rows hu;by_cases huh:u=h
  .subst huh;rw[aO]at hu;rw[hu]at hcm;exact(hcm trivial).elim
  .rw[aJ _ _ huh]at hu;exact(R.own u st e sz rows hu).mono g λ_ _=>rfl
 .intro u st e sz rows hu;by_cases huh:u=h
  .subst huh;rw[aO]at hu;obtain⟨fz,hH⟩:=hcc _ _ _ _ _ hu;cases fz with
   |true=>exact⟨(R.frz u _ _ _ _ hH).1,(R.frz u _ _ _ _ hH).2.1.mono g,(R.frz u _ _ _ _ hH).2.2⟩
   |false =>
    have ho:=R.own u _ _ _ _ hH;refine⟨ho.1,ho.rep hDD λk hk hb=>?_,ho.b5l⟩;rcases hb with hb|⟨k',hm',hk'⟩
    .have h1:=R.old k hb;rcases (ho.lt hk).2 with h2|h2
     .omega
     .exact h1.2 h2
    .by_cases he:k'=u
     .subst he;rw[aO]at hm';exact hcm hm'
     .rw[aJ _ _ he]at hm';exact R.dis u k' (Ne.symm he) (by rw[hH];trivial) hm' k hk hk'
  .rw[aJ _ _ huh]at hu;exact⟨(R.frz u _ _ _ _ hu).1,(R.frz u _ _ _ _ hu).2.1.mono g,(R.frz u _ _ _ _ hu).2.2⟩
 .intro u u' hne hm hm' k hk;have e1:u≠h:=λe=>by subst e;rw[aO]at hm;exact hcm hm
  have e2:u'≠h:=λe=>by subst e;rw[aO]at hm';exact hcm hm'
  rw[aJ _ _ e1]at hm;rw[aJ _ _ e2]at hm';exact R.dis u u' hne hm hm' k hk
 .intro u st e rows hu;by_cases huh:u=h
  .subst huh;rw[aO]at hu;exact(hcn _ _ _ hu).elim
  .rw[aJ _ _ huh]at hu;refine(R.nst u st e rows hu).mono g (λu=>?_) λ_ _=>rfl;by_cases hu:u=h
   .subst hu;left;simp[aO,hcs,hce]
   .left;simp[aJ _ _ hu]
theorem Rel.gY (R:Rel G M w0 D0 N f H β a w){h k:Nat}(hm:(H h).gB)(hk:bD (β h)=some k):∃cur e,w.heap[k]?=some (.cells cur e (0,0)):=R.XK hm hk
theorem Rel.grow (R:Rel G M w0 D0 N f H β a w){w':World}{h st st' e sz:Nat}{rows rows':List (List IV)}{v:Value}{dst:Option Nat}{x:AV}{val:Value}
  (hH:H h=.blk false st e sz rows) (hst:(st'=st/\v=β h)\/st<st')
  (hos:w'.os=w.os) (htape:w'.tape=w.tape) (hout:w'.output=w.output) (hsz:w.heap.size<=w'.heap.size)
  (hk:∀k,k<w.heap.size->bD (β h)≠some k->w'.heap[k]?=w.heap[k]?)
  (hown:Own w' (λb=>DD H β D0 b\/bD v=some b) w0.heap.size M v e sz rows') (hhead:∀k,bD v=some k->bD (β h)=some k\/w.heap.size<=k)
  (hv:∀β':Nat->Value,β' h=v->(∀u,u≠h->β' u=β u)->(∀D,dh w (DD H β D0) w' D->aG w' D (dF H h (.blk false st' e sz rows')) β' x val)) (hd:∀d,dst=some d->d<N) :
  ∃β',β' h=v/\(∀u,u≠h->β' u=β u)/\Rel G M w0 D0 N (iY f dst x) (dF H h (.blk false st' e sz rows')) β' (a.put dst val) w':=by
 refine⟨λu=>if u=h then v else β u,by simp,λu hu=>by simp[hu],?_⟩;have hvk:∀k,bD v=some k->w.heap.size<=k\/DD H β D0 k:=λk hk=>by
  rcases hhead k hk with h1|h1
  .exact .inr (.inr ⟨h,by rw[hH];trivial,h1⟩)
  .exact .inl h1
 have g:dh w (DD H β D0) w' (DD (dF H h (.blk false st' e sz rows')) (λu=>if u=h then v else β u) D0) :=
  ⟨hsz,λb hb hd=>ru hvk hb hd,λb hb hn _=>hk b hb λhh=>hn (.inr ⟨h,by rw[hH];trivial,hh⟩)⟩
 have g':dh w' (λb=>DD H β D0 b\/bD v=some b) w' (DD (dF H h (.blk false st' e sz rows')) (λu=>if u=h then v else β u) D0):=by
  refine⟨Nat.le_refl _,λb _ hd=>?_,λ_ _ _ _=>rfl⟩;rcases hd with hd|⟨k,hm,hh⟩
  .exact .inl (.inl hd)
  .by_cases hk:k=h
   .subst hk;simp only[if_pos]at hh;exact .inr hh
   .rw[aJ _ _ hk]at hm;simp only[if_neg hk]at hh;exact .inl (.inr ⟨k,hm,hh⟩)
 have hoth:∀u,u≠h->∀k,bD (β u)=some k->(H u).gB->w'.heap[k]?=w.heap[k]?:=by
  intro u hu k hku hm;have hlt:k<w.heap.size:=(R.o7 hm hku).1;exact hk k hlt λhh=>R.dis u h hu hm (by rw[hH];trivial) k hku hh
 refine R.step hos htape hout g ?_ (λk _ h2=>by
  rw[hk k (Array.getElem?_eq_some_iff.1 h2).1 λhh=>?_];· exact h2
  obtain⟨cur,e',hc⟩:=R.gY (by rw[hH];trivial) hh;rw[hc]at h2;cases h2) ?_ (hv _ (by simp) (λu hu=>by simp[hu]) _ g) ?_ ?_ ?_ ?_ (λu B hu=>Nat.le_trans (R.mrk u B (xw (by intro B;simp) hu)) hsz) hd
 .intro k h1 h2;refine hk k (Nat.lt_of_lt_of_le h1 R.size) λhh=>?_;rcases DD.head R (by rw[hH];trivial) hh with h3|h3
  .omega
  .exact h2 h3
 .intro u;by_cases hu:u=h
  .subst hu;rw[aO,hH];rcases hst with ⟨h1,h2⟩|h1
   .left;subst h1;simp[HC.stamp,HC.esz,h2]
   .right;exact h1
  .left;simp[aJ _ _ hu,hu]
 .intro u st1 e1 sz1 BU hu;by_cases huh:u=h
  .subst huh;rw[aO]at hu;injection hu with _ h1 h2 h3 h4;subst h1 h2 h3 h4;simp only[if_pos];exact hown.mono g' λ_ _=>rfl
  .rw[aJ _ _ huh]at hu;simp only[if_neg huh];exact(R.own u _ _ _ _ hu).mono g λk hk'=>hoth u huh k hk' (by rw[hu];trivial)
 .intro u st1 e1 sz1 BU hu;have huh:u≠h:=by
   intro e;subst e;rw[aO]at hu;cases hu
  rw[aJ _ _ huh]at hu;simp only[if_neg huh];exact⟨(R.frz u _ _ _ _ hu).1,(R.frz u _ _ _ _ hu).2.1.mono g,(R.frz u _ _ _ _ hu).2.2⟩
 .have key:∀u,u≠h->(H u).gB->∀k,bD v=some k->bD (β u)≠some k:=by
   intro u hu hm k hk' hku;rcases hhead k hk' with h1|h1
   .exact R.dis u h hu hm (by rw[hH];trivial) k hku h1
   .have:=(R.o7 hm hku).1;omega
  intro u u' hne hm hm' k hh hh';by_cases hu:u=h
  .subst hu;have hu':u'≠u:=λe=>hne e.symm
   simp only[if_pos]at hh;simp only[if_neg hu']at hh';rw[aJ _ _ hu']at hm';exact key u' hu' hm' k hh hh'
  .by_cases hu':u'=h
   .subst hu';simp only[if_neg hu]at hh;simp only[if_pos]at hh';rw[aJ _ _ hu]at hm;exact key u hu hm k hh' hh
   .simp only[if_neg hu]at hh;simp only[if_neg hu']at hh';rw[aJ _ _ hu]at hm;rw[aJ _ _ hu']at hm';exact R.dis u u' hne hm hm' k hh hh'
 .intro u st1 e1 BU hu;have huh:u≠h:=by
   intro e;subst e;rw[aO]at hu;cases hu
  rw[aJ _ _ huh]at hu;simp only[if_neg huh];refine(R.nst u _ _ _ hu).mono g (λu=>?_) λk hk'=>hoth u huh k hk' (by rw[hu];trivial);by_cases hu:u=h
  .subst hu;rw[aO,hH];rcases hst with ⟨h1,h2⟩|h1
   .left;subst h1;simp[HC.stamp,HC.esz,h2]
   .right;exact h1
  .left;simp[aJ _ _ hu,hu]
end
inductive AD where
 |sl (e:Nat)
 |st (fs:List (Nat×Nat))
 |int (k:IntKind)
 |bool
 |arr (n e:Nat)
 |other
 deriving Inhabited
structure TI where
 ok:Bool
 size:Nat
 bytes:Nat
 agg:Bool
 zero:List IV
 zok:Bool
 desc:AD
 deriving Inhabited
inductive ZS where
 |no
 |strip
 |both
 |al (g:Nat->Nat->Nat->Option Nat)
class Zi where
 x:Option (Nat×Nat)
 bx:Nat->Bool
 bs:Nat->Bool
 st:ZS
instance zi0:Zi:=⟨none,λ_=>false,λ_=>false,.no⟩
theorem b4c : @Zi.st zi0=.no:=rfl
theorem b4o (e:Nat) : @Zi.bs zi0 e=false:=rfl
theorem b4k (e:Nat) : @Zi.bx zi0 e=false:=rfl
def zsl [zi:Zi]:IV:=match zi.x with|some p=>.own none p.1 p.2 []|none=>.sl []
def OE [Zi]:Value->IV
 |.int k n=>.int k n
 |.bool b=>.bool b
 |.slice none 0 0=>zsl
 |v=>.raw v
variable {zi:Zi}
theorem a5F (w:World)(D:Nat->Prop):Rep w D zsl (.slice none 0 0):=by
 unfold zsl;split
 .exact .QD ..
 .exact .nil none 0 (Nat.zero_le _)
theorem RN (w:World)(D:Nat->Prop)(v:Value)(h:v.oneCell'=true):Rep w D (OE v) v:=by
 unfold OE;split
 .exact .int ..
 .exact .bool ..
 .exact a5F w D
 .exact .raw _ h
theorem xR (w:World)(D:Nat->Prop):∀(vs:List Value),(∀v∈vs,v.oneCell'=true)->eF w D (vs.map OE) vs
 |[],_=>trivial
 |v::vs,h=>⟨RN w D v (h v (by simp)),xR w D vs λv hv=>h v (by simp[hv])⟩
def ti [Zi] (P:Program)(t:Nat):TI :=
 match P.info? t,P.underlying t with
 |some i,some d =>
  {ok:=true,size:=i.size,bytes:=i.bytes
   agg:=match d with | .struct _=>true | .array _ _=>true|_=>false
   zero:=match i.zero with|some z=>z.cells.toList.map OE|none=>[]
   zok:=match i.zero with|some z=>z.cells.size == i.size && z.cells.toList.all (·.oneCell') && decide (0<i.size)|none=>false
   desc:=match d with
    |.slice e=>.sl e
    |.struct fs=>.st (fs.toList.map λf=>(f.offset,((P.info? f.type).map (·.size)).getD 0))
    |.int k=>.int k
    |.bool=>.bool
    |.array n e=>.arr n e
    |_=>.other }
 |_,_=>⟨false,0,0,false,[],false,.other⟩
section
variable {P:Program} {t:Nat}
theorem Tn (h:(ti P t).ok=true):∃i d,P.info? t=some i/\P.underlying t=some d/\(ti P t).size=i.size/\(ti P t).bytes=i.bytes /\
  ((ti P t).agg=match d with | .struct _=>true | .array _ _=>true|_=>false):=by
 unfold ti at h ⊢;split at h
 .rename_i i d hi hd;exact⟨i,d,hi,hd,by simp[hi,hd],by simp[hi,hd],by simp[hi,hd]⟩
 .cases h
theorem BJ (h:(ti P t).zok=true):∃i z,P.info? t=some i/\i.zero=some z/\z.cells.size=i.size/\0<i.size/\(ti P t).size=i.size/\(ti P t).bytes=i.bytes/\(ti P t).zero=z.cells.toList.map OE/\∀v∈z.cells.toList,v.oneCell'=true:=by
 unfold ti at h ⊢;split at h
 .rename_i i d hi hd;simp only[hi,hd];cases hz:i.zero with
  |none=>simp[hz]at h
  |some z =>
   simp only[hz,Bool.and_eq_true,beq_iff_eq,List.all_eq_true,decide_eq_true_eq]at h;exact⟨i,z,rfl,hz,h.1.1,h.2,rfl,rfl,rfl,h.1.2⟩
 .cases h
theorem mZ {e:Nat}(h:(ti P t).desc=.sl e):P.underlying t=some (.slice e):=by
 unfold ti at h;split at h
 .rename_i i d hi hd;rw[hd];cases d<;>simp at h<;>simp[h]
 .simp at h
theorem a9F {n e:Nat}(h:(ti P t).desc=.arr n e):P.underlying t=some (.array n e):=by
 unfold ti at h;split at h
 .rename_i i d hi hd;rw[hd];cases d<;>simp at h<;>simp[h]
 .simp at h
theorem VW (h:(ti P t).desc=.bool):P.underlying t=some .bool:=by
 unfold ti at h;split at h
 .rename_i i d hi hd;rw[hd];cases d<;>simp at h<;>simp[h]
 .simp at h
theorem a4i {k:IntKind}(h:(ti P t).desc=.int k):P.underlying t=some (.int k):=by
 unfold ti at h;split at h
 .rename_i i d hi hd;rw[hd];cases d<;>simp at h<;>simp[h]
 .simp at h
theorem a9E {fs:List (Nat×Nat)}(h:(ti P t).desc=.st fs):∃gs,P.underlying t=some (.struct gs)/\fs=gs.toList.map λf=>(f.offset,((P.info? f.type).map (·.size)).getD 0):=by
 unfold ti at h;split at h
 .rename_i i d hi hd;rw[hd];cases d<;>simp at h;rename_i gs;exact⟨gs,rfl,h.symm⟩
 .simp at h
theorem run_sizeOf (w:World)(h:(ti P t).ok=true):(sizeOf t).run P w=.ok (ti P t).size w:=by
 obtain⟨i,d,hi,hd,hs,_⟩:=Tn h;simp[sizeOf,typeInfo,hi,hs]
theorem wP (w:World)(h:(ti P t).ok=true):(isAgg t).run P w=.ok (ti P t).agg w:=by
 obtain⟨i,d,hi,hd,_,_,ha⟩:=Tn h;rw[ha];simp only[isAgg,Sem.run_bind,run_underlying hd,Result.andThen_ok];cases d<;>rfl
theorem iZ (w:World)(h:(ti P t).zok=true):∃z,(zeroValue t).run P w=.ok z w/\z.cells.size=(ti P t).size/\0<(ti P t).size/\(ti P t).zero=z.cells.toList.map OE/\∀v∈z.cells.toList,v.oneCell'=true:=by
 obtain⟨i,z,hi,hz,h1,h0,h2,h2b,h3,h4⟩:=BJ h;exact⟨z,by simp[zeroValue,typeInfo,hi,hz],by rw[h2];exact h1,by rw[h2];exact h0,h3,h4⟩
end
theorem RJ (w:World)(D:Nat->Prop):∀(vs:List Value),(∀v∈vs,v.oneCell'=true)->eF w D (vs.map b2g) vs
 |[],_=>trivial
 |v::vs,h=>⟨a2U w D v (h v (by simp)),RJ w D vs λv hv=>h v (by simp[hv])⟩
def a0t:Value->AV
 |.int k n=>.iv (.int k n)
 |.bool b=>.iv (.bool b)
 |.slice none 0 0=>.oG
 |.agg cs=>if cs.toList.all (·.oneCell') then .agg (cs.toList.map b2g) else .dead
 |v=>if v.oneCell' then .iv (.raw v) else .dead
theorem RS (w:World)(D:Nat->Prop)(H:Hp)(β:Nat->Value)(v:Value):aG w D H β (a0t v) v:=by
 unfold a0t;split
 .simp only[aG];exact .int ..
 .simp only[aG];exact .bool ..
 .simp[aG]
 .split
  .rename_i cs h;simp only[aG];exact⟨cs,rfl,RJ w D _ (List.all_eq_true.1 h)⟩
  .simp[aG]
 .split
  .simp only[aG];exact .raw _ (by assumption)
  .simp[aG]
def ev (f:Fr):Operand->AV
 |.tmp t=>f t
 |.const v=>a0t v
 |.func g=>.fn g []
 |.global _=>.dead
structure AR where
 c:Prop
 v:AV
 fz:List Nat
 hs:List (Nat×HC)
 rd:List Nat
def aQ:List Nat->Hp->Hp
 |[],H=>H
 |h::r,H=>aQ r (dF H h (H h).frz)
section
variable {G:Gh} {M:Nat->Prop} {w0:World} {D0:Nat->Prop} {N:Nat} {f:Fr} {H:Hp} {β:Nat->Value} {a:Act} {w:World}
theorem Rel.aQ (hs:List Nat):∀{H:Hp},Rel G M w0 D0 N f H β a w->Rel G M w0 D0 N f (aQ hs H) β a w:=by
 induction hs with
 |nil=>exact λh=>h
 |cons h r ih=>exact λR=>ih (R.freeze h)
theorem Rel.ev (R:Rel G M w0 D0 N f H β a w)(x:Operand):aG w (DD H β D0) H β (AL.ev f x) (a.eval x):=by
 cases x with
 |tmp t=>exact R.tmps t
 |const v=>exact RS ..
 |global g=>simp[AL.ev,aG]
 |func f=>simp only[AL.ev,aG];exact⟨#[],rfl,by simp[aS]⟩
theorem Rel.row (R:Rel G M w0 D0 N f H β a w){h st e sz:Nat}{fz:Bool}{rows:List (List IV)}(hH:H h=.blk fz st e sz rows){i:Nat}(hi:i<rows.length) :
  ∃g cap vs,β h=.slice (some ⟨g,0,none⟩) rows.length cap/\(rows.getD i []).length=sz/\eF w (DD H β D0) (rows.getD i []) vs/\∀(j:Nat) c,vs[j]?=some c->w.cell? ⟨g,i*sz+j,none⟩=some c:=by
 have hri:rows[i]?=some (rows.getD i []):=by simp[List.getD,hi]
 cases fz with
 |true =>
  obtain⟨h1,h2,h20⟩:=R.frz h _ _ _ _ hH;have hlen:=h1 _ (List.mem_of_getElem? hri);generalize hb:β h=b at h2 h20;cases h2 with
  |nil a cap hcap=>simp at hi
  |sl _ g o cap sz' cell hsz hl hcap hg hD hc hr =>
   have e:sz'=sz:=by rw[<-hsz i _ hri,hlen]
   subst e;obtain rfl:o=0:=h20 _ _ _ rfl;simp only[Nat.zero_add]at hc;refine⟨g,cap,(List.range sz').map (cell i),rfl,hlen,eF.Ky (by rw[hlen];simp) ?_,?_⟩
   .intro j x hj;have hlt:=(List.getElem?_eq_some_iff.1 hj).1;exact⟨cell i j,by rw[hlen]at hlt;simp[hlt],hr i _ hri j x hj⟩
   .intro j c hj;have hlt:j<sz':=by have:=(List.getElem?_eq_some_iff.1 hj).1;simpa using this
    have hx:(rows.getD i [])[j]?=some ((rows.getD i [])[j]'(by rw[hlen];exact hlt)):=by simp[hlt,hlen]
    rw[hc i _ hri j _ hx];simpa [hlt] using hj
 |false =>
  obtain⟨h1,h2⟩:=R.own h _ _ _ _ hH;rcases h2 with ⟨rfl,_⟩|⟨g,cap,cur,hv,hB,hg,h3,h4,h5,h6⟩
  .simp at hi
  .have hlen:=h1 _ (List.mem_of_getElem? hri);have e:(rows.flatten.drop (i*sz)).take sz=rows.getD i []:=by
    apply List.ext_getElem?;intro j;by_cases hj:j<sz
    .have hx:(rows.getD i [])[j]?=some ((rows.getD i [])[j]'(by rw[hlen];exact hj)):=by simp[hj,hlen]
     rw[hx,List.getElem?_take_of_lt hj,List.getElem?_drop];exact iR rows i j _ _ h1 hri hx
    .rw[List.getElem?_eq_none (by simp;omega),List.getElem?_eq_none (by omega)]
   have h7:=(h6.drop (i*sz)).take sz;rw[e]at h7;refine⟨g,cap,_,hv,hlen,h7,?_⟩;intro j c hj;have hjs:j<sz:=by have:=(List.getElem?_eq_some_iff.1 hj).1;simp at this;omega
   rw[cell_of_row w g _ cur _ (0,0) hg];rw[List.getElem?_take_of_lt hjs,List.getElem?_drop,List.getElem?_take]at hj;split at hj
   .simpa using hj
   .cases hj
theorem addr_add (g o n:Nat):(⟨g,o,none⟩:Addr).add n=⟨g,o+n,none⟩:=by unfold Addr.add;split<;>simp_all
theorem iG {P:Program}{t:Nat}(hT:(ti P t).ok=true){g o:Nat}{vs:List Value}(hc:∀(j:Nat) c,vs[j]?=some c->w.cell? ⟨g,o+j,none⟩=some c) :
  ((ti P t).agg=true->(ti P t).size<=vs.length->(loadVar t ⟨g,o,none⟩).run P w=.ok (.agg (vs.take (ti P t).size).toArray) w) /\
  ((ti P t).agg=false->∀c,vs[0]?=some c->(loadVar t ⟨g,o,none⟩).run P w=.ok c w):=by
 refine⟨λha hl=>?_,λha c h0=>?_⟩
 .have hl':(vs.take (ti P t).size).length=(ti P t).size:=by simp;omega
  have:=run_loadCells_list (P:=P) w ⟨g,o,none⟩ (vs.take (ti P t).size) (λj v hj=>by
   rw[addr_add];refine hc j v ?_;rw[List.getElem?_take]at hj;split at hj
   .exact hj
   .cases hj)
  rw[hl']at this;simp only[loadVar,Sem.run_bind,wP w hT,Result.andThen_ok,ha,if_true,run_sizeOf w hT,this,Sem.run_pure]
 .have:=hc 0 c h0;simp only[Nat.add_zero]at this;simp[loadVar,wP w hT,ha,this]
def b1U:AV->Option IV
 |.iv x=>some x
 |.oG=>some (.own none 0 0 [])
 |_=>none
def G6:List AV->Option (List IV)
 |[]=>some []
 |x::xs=>match b1U x,G6 xs with
  |some y,some ys=>some (y::ys)
  |_,_=>none
theorem a0G {D:Nat->Prop}{x:AV}{y:IV}{v:Value}(h:b1U x=some y)(hx:aG w D H β x v):Rep w D y v:=by
 unfold b1U at h;split at h
 .injection h with h;subst h;simpa only[aG] using hx
 .injection h with h;subst h;simp only[aG]at hx;subst hx;exact .QD ..
 .cases h
theorem Js {D:Nat->Prop}:∀{xs:List AV} {ys:List IV} {vs:List Value},G6 xs=some ys->aS w D H β xs vs->eF w D ys vs
 |[],ys,[],h,_=>by simp only[G6]at h;injection h with h;subst h;trivial
 |x::xs,ys,v::vs,h,hx=>by
  simp only[G6]at h;simp only[aS]at hx;split at h
  .rename_i y ys' h1 h2;injection h with h;subst h;exact⟨a0G h1 hx.1,Js h2 hx.2⟩
  .cases h
 |[],_,_::_,_,hx=>by simp[aS]at hx
 |_::_,_,[],_,hx=>by simp[aS]at hx
theorem aS.Ih {D:Nat->Prop}:∀{xs:List AV} {vs:List Value} (o n:Nat),aS w D H β xs vs->aS w D H β ((xs.drop o).take n) ((vs.drop o).take n)
 |[],[],o,n,_=>by simp[aS]
 |x::xs,v::vs,0,0,_=>by simp[aS]
 |x::xs,v::vs,0,n+1,h=>by
  simp only[aS]at h;simp only[List.drop_zero,List.take_succ_cons,aS];exact⟨h.1,by simpa using aS.Ih 0 n h.2⟩
 |x::xs,v::vs,o+1,n,h=>by
  simp only[aS]at h;simpa using aS.Ih o n h.2
 |[],_::_,_,_,h=>by simp[aS]at h
 |_::_,[],_,_,h=>by simp[aS]at h
def qV (T:TI)(H:Hp):AV->Option AR
 |.ip cells=>some (if T.agg then ⟨T.ok=true/\T.size<=cells.length,.agg (cells.take T.size),[],[],[]⟩ else ⟨T.ok=true/\0<cells.length,.iv (cells.getD 0 default),[],[],[]⟩)
 |.hp h st i off=>match H h with
  |.blk _ st' _ sz rows=>some (if T.agg then ⟨T.ok=true/\st=st'/\i<rows.length/\off+T.size<=sz,.agg (((rows.getD i []).drop off).take T.size),[],[],[h]⟩ else ⟨T.ok=true/\st=st'/\i<rows.length/\off<sz,.iv ((rows.getD i []).getD off default),[],[],[h]⟩)
  |.nst st' _ rows=>match T.agg with
   |false=>some ⟨T.ok=true/\st=st'/\i+off<rows.length,rows.getD (i+off) .undef,[],[],[h]⟩
   |true=>match G6 ((rows.drop (i+off)).take T.size) with
    |some cells=>some ⟨T.ok=true/\st=st'/\0<T.size/\i+off+T.size<=rows.length,.agg cells,[],[],[h]⟩
    |none=>none
  |_=>none
 |_=>none
theorem Rel.yR (R:Rel G M w0 D0 N f H β a w){h st e:Nat}{rows:List AV}(hH:H h=.nst st e rows):∃ad cap,β h=.slice ad rows.length cap/\rows.length<=cap/\cap<=maxLen:=by
 rcases R.nst h _ _ _ hH with ⟨rfl,hv⟩|⟨g,cap,cur,hv,_,_,h1,h2,_⟩
 .exact⟨none,0,hv,Nat.zero_le _,Nat.zero_le _⟩
 .exact⟨_,cap,hv,h1,h2⟩
theorem Rel.b3B (R:Rel G M w0 D0 N f H β a w){h st e:Nat}{rows:List AV}(hH:H h=.nst st e rows){i:Nat}(hi:i<rows.length) :
  ∃g cap c,β h=.slice (some ⟨g,0,none⟩) rows.length cap/\w.cell? ⟨g,i,none⟩=some c/\aG w (DD H β D0) H β (rows.getD i .undef) c:=by
 rcases R.nst h _ _ _ hH with ⟨rfl,hv⟩|⟨g,cap,cur,hv,_,hg,h1,h2,h3,h4⟩
 .simp at hi
 .obtain⟨c,hc,hr⟩:=h4.1.get i hi;refine⟨g,cap,c,hv,?_,hr⟩;rw[cell_of_row w g i cur _ (0,0) hg];rw[List.getElem?_take_of_lt hi]at hc;simpa using hc
theorem iV {P:Program}{t:Nat}(R:Rel G M w0 D0 N f H β a w){x:AV}{v:Value}(hx:aG w (DD H β D0) H β x v){r:AR}(hr:qV (ti P t) H x=some r)(hc:r.c) :
  r.fz=[]/\r.hs=[]/\∃u,(Instr.loadAt t v).run P w=.ok u w/\aG w (DD H β D0) H β r.v u:=by
 unfold qV at hr;split at hr
 .rename_i cells;simp only[aG]at hx;obtain⟨g,o,rfl,hD,vs,hrep,hcell⟩:=hx;by_cases ha:(ti P t).agg=true
  .simp only[ha,if_true]at hr;injection hr with hr;subst hr;refine⟨rfl,rfl,.agg (vs.take (ti P t).size).toArray,by simp[Instr.loadAt,Instr.sureAddr,(iG hc.1 hcell).1 ha (by rw[<-hrep.length];exact hc.2)],?_⟩;simp only[aG];exact⟨_,rfl,by simpa using hrep.take _⟩
  .simp only[ha,Bool.false_eq_true,if_false]at hr;injection hr with hr;subst hr;have ha':(ti P t).agg=false:=by simpa using ha
   have hx0:cells[0]?=some (cells.getD 0 default):=by
    have:=hc.2;simp[List.getD,this]
   obtain⟨c,hc0,hrc⟩:=hrep.get 0 _ hx0;refine⟨rfl,rfl,c,by simp[Instr.loadAt,Instr.sureAddr,(iG hc.1 hcell).2 ha' c hc0],?_⟩;simpa only[aG] using hrc
 .rename_i h st i off;split at hr
  .rename_i fz st' e sz rows hH;simp only[aG]at hx;obtain⟨hle,hx⟩:=hx;by_cases ha:(ti P t).agg=true
   .simp only[ha,if_true]at hr;injection hr with hr;subst hr;obtain⟨hok,hst,hi,hoff⟩:=hc;obtain⟨g,cap,vs,hb,hlen,hrep,hcell⟩:=R.row hH hi;obtain⟨g',n',cap',hb',rfl⟩:=hx (by rw[hH];exact hst);rw[hb]at hb';injection hb' with e1 e2 e3;injection e1 with e1;injection e1 with e1 e4;subst e1
    have hcell':∀(j:Nat) c,(vs.drop off)[j]?=some c->w.cell? ⟨g,i*(H h).esz+off+j,none⟩=some c:=by
     intro j c hj;rw[List.getElem?_drop]at hj;have:=hcell _ _ hj;rw[hH];simp only[HC.esz];rw[Nat.add_assoc];exact this
    have hl:(ti P t).size<=(vs.drop off).length:=by simp;rw[<-hrep.length,hlen];omega
    refine⟨rfl,rfl,.agg ((vs.drop off).take (ti P t).size).toArray,by simp[Instr.loadAt,Instr.sureAddr,(iG hok hcell').1 ha hl],?_⟩;simp only[aG];exact⟨_,rfl,by simpa using (hrep.drop off).take _⟩
   .simp only[ha,Bool.false_eq_true,if_false]at hr;injection hr with hr;subst hr;have ha':(ti P t).agg=false:=by simpa using ha
    obtain⟨hok,hst,hi,hoff⟩:=hc;obtain⟨g,cap,vs,hb,hlen,hrep,hcell⟩:=R.row hH hi;obtain⟨g',n',cap',hb',rfl⟩:=hx (by rw[hH];exact hst);rw[hb]at hb';injection hb' with e1 e2 e3;injection e1 with e1;injection e1 with e1 e4;subst e1
    have hcell':∀(j:Nat) c,(vs.drop off)[j]?=some c->w.cell? ⟨g,i*(H h).esz+off+j,none⟩=some c:=by
     intro j c hj;rw[List.getElem?_drop]at hj;have:=hcell _ _ hj;rw[hH];simp only[HC.esz];rw[Nat.add_assoc];exact this
    have hx0:(rows.getD i [])[off]?=some ((rows.getD i []).getD off default):=by
     simp only[List.getD_eq_getElem?_getD]at hlen ⊢;rw[List.getElem?_eq_getElem (by rw[hlen];exact hoff)];rfl
    obtain⟨c,hc0,hrc⟩:=hrep.get off _ hx0;refine⟨rfl,rfl,c,by simp[Instr.loadAt,Instr.sureAddr,(iG hok hcell').2 ha' c (by simpa using hc0)],?_⟩;simpa only[aG] using hrc
  .rename_i st' e rows hH;simp only[aG]at hx;obtain⟨hle,hx⟩:=hx;split at hr
   .rename_i ha;injection hr with hr;subst hr;obtain⟨hok,hst,hi⟩:=hc;obtain⟨g,cap,c,hb,hcell,hrc⟩:=R.b3B hH hi;obtain⟨g',n',cap',hb',rfl⟩:=hx (by rw[hH];exact hst);rw[hb]at hb';injection hb' with e1 e2 e3;injection e1 with e1;injection e1 with e1 e4;subst e1
    have hcell':∀(j:Nat) u,[c][j]?=some u->w.cell? ⟨g,i*(H h).esz+off+j,none⟩=some u:=by
     intro j u hj
     match j,hj with
     |0,hj =>
      simp only[List.getElem?_cons_zero,Option.some.injEq]at hj;subst hj;rw[hH];simpa [HC.esz] using hcell
     |j+1,hj=>simp at hj
    exact⟨rfl,rfl,c,by simp[Instr.loadAt,Instr.sureAddr,(iG hok hcell').2 ha c rfl],hrc⟩
   .rename_i ha;split at hr
    .rename_i cells hcells;injection hr with hr;subst hr;obtain⟨hok,hst,hpos,hi⟩:=hc;rcases R.nst h _ _ _ hH with ⟨rfl,hv⟩|⟨g,cap,cur,hv,_,hg,h1,h2,h3,h4⟩
     .simp at hi;omega
     obtain⟨g',n',cap',hb',rfl⟩:=hx (by rw[hH];exact hst);rw[hv]at hb';injection hb' with e1 e2 e3;injection e1 with e1;injection e1 with e1 e4;subst e1
     have hrep:=Js hcells (aS.Ih (i+off) (ti P t).size h4.1);have hcell':∀(j:Nat) u,(((cur.toList.take rows.length).drop (i+off)).take (ti P t).size)[j]?=some u->w.cell? ⟨g,i*(H h).esz+off+j,none⟩=some u:=by
      intro j u hj;rw[hH,cell_of_row w g _ cur _ (0,0) hg];simp only[HC.esz,Nat.mul_one];rw[List.getElem?_take]at hj;split at hj
      .rw[List.getElem?_drop,List.getElem?_take]at hj;split at hj
       .simpa using hj
       .cases hj
      .cases hj
     have hl:(ti P t).size<=(((cur.toList.take rows.length).drop (i+off)).take (ti P t).size).length:=by simp;omega
     have hl2:(((cur.toList.take rows.length).drop (i+off)).take (ti P t).size).length=(ti P t).size:=by simp;omega
     refine⟨rfl,rfl,.agg ((((cur.toList.take rows.length).drop (i+off)).take (ti P t).size).take (ti P t).size).toArray,by simp only[Instr.loadAt,Instr.sureAddr,Sem.run_bind,Sem.run_pure,Result.andThen_ok];exact(iG hok hcell').1 ha hl,?_⟩;simp only[aG];refine⟨_,rfl,?_⟩;rw[List.take_of_length_le (by rw[hl2];exact Nat.le_refl _)];exact hrep
    .cases hr
  .cases hr
 .cases hr
end
def FN (w:World)(D:Nat->Prop)(ad:Option Addr)(sz:Nat)(rows:List (List IV)):Prop :=
 ∃news:List Value,eF w D rows.flatten news/\(∀r∈rows,r.length=sz)/\(rows≠[]->∃g o,ad=some ⟨g,o,none⟩/\∀(j:Nat) u,news[j]?=some u->w.cell? ⟨g,o+j,none⟩=some u)
theorem JI {w:World}{D:Nat->Prop}{g o sz:Nat}{cell:Nat->Nat->Value}:∀(rows:List (List IV)) (b:Nat),(∀r∈rows,r.length=sz) ->
  (∀(i:Nat) (r:List IV),rows[i]?=some r->∀(j:Nat) (x:IV),r[j]?=some x->w.cell? ⟨g,o+((b+i)*sz+j),none⟩=some (cell (b+i) j)) ->
  (∀(i:Nat) (r:List IV),rows[i]?=some r->∀(j:Nat) (x:IV),r[j]?=some x->Rep w D x (cell (b+i) j)) ->
  ∃news:List Value,eF w D rows.flatten news/\∀(j:Nat) u,news[j]?=some u->w.cell? ⟨g,o+(b*sz+j),none⟩=some u
 |[],b,_,_,_=>⟨[],by simp[eF],by simp⟩
 |r::rest,b,hl,hc,hr=>by
  obtain⟨news,h1,h2⟩:=JI (cell:=cell) rest (b+1) (λr hr=>hl r (by simp[hr]))
   (λi r hi j x hj=>by have:=hc (i+1) r (by simpa using hi) j x hj;rwa [show b+(i+1)=b+1+i from by omega]at this)
   (λi r hi j x hj=>by have:=hr (i+1) r (by simpa using hi) j x hj;rwa [show b+(i+1)=b+1+i from by omega]at this)
  have hlr:r.length=sz:=hl r (by simp);refine⟨(List.range sz).map (cell b)++news,?_,?_⟩
  .simp only[List.flatten_cons];refine eF.append (eF.Ky (by rw[hlr];simp) ?_) h1;intro j x hj;have hlt:=(List.getElem?_eq_some_iff.1 hj).1;rw[hlr]at hlt;exact⟨cell b j,by simp[hlt],by simpa using hr 0 r rfl j x hj⟩
  .intro j u hj;by_cases hjs:j<sz
   .rw[List.getElem?_append_left (by simpa using hjs)]at hj;have hx:r[j]?=some (r[j]'(by rw[hlr];exact hjs)):=by simp[hjs,hlr]
    have:=hc 0 r rfl j _ hx;simp only[Nat.add_zero]at this;rw[this];simpa [hjs] using hj
   .rw[List.getElem?_append_right (by simp;omega)]at hj;have:=h2 _ u hj;simp only[List.length_map,List.length_range]at this;rw[show o+((b+1)*sz+(j-sz))=o+(b*sz+j) from by rw[Nat.add_mul];omega]at this;exact this
theorem Rep.EF {w:World}{D:Nat->Prop}{rows:List (List IV)}{v:Value}(h:Rep w D (.sl rows) v){sz:Nat}(hsz:∀r∈rows,r.length=sz) :
  ∃ad cap,v=.slice ad rows.length cap/\rows.length<=cap/\cap<=maxLen/\FN w D ad sz rows:=by
 cases h with
 |nil a cap hcap=>exact⟨a,cap,rfl,Nat.zero_le _,hcap,[],by simp[eF],by simp,λh=>(h rfl).elim⟩
 |sl _ g o cap sz' cell hsz' hl hcap hg hD hc hr =>
  refine⟨_,cap,rfl,hl,hcap,?_⟩;cases hrows:rows with
  |nil=>exact⟨[],by simp[eF],by simp,λh=>(h rfl).elim⟩
  |cons r rest =>
   have e:sz'=sz:=by rw[<-hsz' 0 r (by simp[hrows]),hsz r (by simp[hrows])]
   subst e;obtain⟨news,h1,h2⟩:=JI (w:=w) (D:=D) (g:=g) (o:=o) (cell:=cell) rows 0 hsz (by simpa using hc) (by simpa using hr);rw[hrows]at h1;exact⟨news,h1,by rw[<-hrows];exact hsz,λ_=>⟨g,o,rfl,by simpa using h2⟩⟩
theorem Rep.part {w:World}{D:Nat->Prop}{rows:List (List IV)}{v:Value}(h:Rep w D (.sl rows) v){ad:Option Addr}{n cap:Nat}(hv:v=.slice ad n cap){sz lo len cap':Nat}(hsz:∀r∈rows,r.length=sz)
  (hlen:lo+len<=rows.length) (hcap':len<=cap'/\cap'<=maxLen) {ad':Option Addr} (had:0<len->∀g o,ad=some ⟨g,o,none⟩->ad'=some ⟨g,o+lo*sz,none⟩) :
  Rep w D (.sl ((rows.drop lo).take len)) (.slice ad' len cap'):=by
 by_cases h0:len=0
 .subst h0;simp;exact .nil _ _ hcap'.2
 cases h with
 |nil a cap hcap=>simp at hlen;omega
 |sl _ g o cap sz' cell hsz' hl hcap hg hD hc hr =>
  injection hv with e1 e2 e3;have:=had (by omega) g o e1.symm;subst this;have hr0:rows[0]?=some (rows[0]'(by omega)):=by rw[List.getElem?_eq_getElem]
  have e:sz'=sz:=by rw[<-hsz' 0 _ hr0,hsz _ (List.mem_of_getElem? hr0)]
  subst e;have hll:((rows.drop lo).take len).length=len:=by simp;omega
  have hget:∀(i:Nat) (r:List IV),((rows.drop lo).take len)[i]?=some r->rows[lo+i]?=some r:=by
   intro i r hi;rw[List.getElem?_take]at hi;split at hi
   .rwa [List.getElem?_drop]at hi
   .cases hi
  have:=Rep.sl (w:=w) (D:=D) ((rows.drop lo).take len) g (o+lo*sz') cap' sz' (λi j=>cell (lo+i) j) (λi r hi=>hsz' _ r (hget i r hi)) (by omega) hcap'.2 hg hD
   (λi r hi j x hj=>by
    have:=hc _ r (hget i r hi) j x hj;rwa [show o+((lo+i)*sz'+j)=o+lo*sz'+(i*sz'+j) from by rw[Nat.add_mul];omega]at this)
   (λi r hi j x hj=>hr _ r (hget i r hi) j x hj)
  rwa [hll]at this
def oL (H:Hp):AV->Option (Prop×List IV×List Nat)
 |.iv x=>some (True,[x],[])
 |.oG=>some (True,[.sl []],[])
 |.agg cs=>some (True,cs,[])
 |.hs h st=>match H h with | .blk _ st' _ _ rows=>some (st=st',[.sl rows],[h])|_=>none
 |.hv h st off len=>match H h with | .blk _ st' _ _ rows=>some (st=st'/\off+len<=rows.length,[.sl ((rows.drop off).take len)],[h])|_=>none
 |_=>none
section
variable {G:Gh} {M:Nat->Prop} {w0:World} {D0:Nat->Prop} {N:Nat} {f:Fr} {H:Hp} {β:Nat->Value} {a:Act} {w:World}
theorem Rel.slice (R:Rel G M w0 D0 N f H β a w){h st e sz:Nat}{fz:Bool}{rows:List (List IV)}(hH:H h=.blk fz st e sz rows) :
  (∀r∈rows,r.length=sz)/\Rep w (DD (dF H h (H h).frz) β D0) (.sl rows) (β h)/\b2j (β h):=by
 have:=(R.freeze h).frz h st e sz rows (by rw[aO,hH];rfl);exact this
theorem jF (R:Rel G M w0 D0 N f H β a w){x:AV}{v:Value}(hx:aG w (DD H β D0) H β x v){c:Prop}{cells:List IV}{fz:List Nat}(ht:oL H x=some (c,cells,fz))(hc:c) :
  eF w (DD (aQ fz H) β D0) cells v.cells.toList:=by
 unfold oL at ht;split at ht
 .injection ht with ht;injection ht with e1 e2;injection e2 with e2 e3;subst e1 e2 e3;simp only[aG]at hx;have hone:=hx.one;have:v.cells = #[v]:=by cases v<;>first|rfl|simp[Value.oneCell']at hone
  simp[this,eF,aQ,hx]
 .injection ht with ht;injection ht with e1 e2;injection e2 with e2 e3;subst e1 e2 e3;simp only[aG]at hx;subst hx;simp only[Value.cells,eF,aQ];exact⟨.nil _ _ (Nat.zero_le _),trivial⟩
 .injection ht with ht;injection ht with e1 e2;injection e2 with e2 e3;subst e1 e2 e3;simp only[aG]at hx;obtain⟨cs,rfl,hr⟩:=hx;simpa [Value.cells,aQ] using hr
 .rename_i h st;split at ht
  .rename_i fz' st' e sz rows hH;injection ht with ht;injection ht with e1 e2;injection e2 with e2 e3;subst e1 e2 e3;simp only[aG]at hx;have:=hx.2 (by rw[hH];exact hc);subst this;have hs:=(R.slice hH).2.1;have hcells:(β h).cells = #[β h]:=by cases hb:β h<;>rw[hb]at hs<;>first|rfl|cases hs
   simp only[hcells,eF,aQ,and_true];exact hs
  .cases ht
 .rename_i h st off len;split at ht
  .rename_i fz' st' e sz rows hH;injection ht with ht;injection ht with e1 e2;injection e2 with e2 e3;subst e1 e2 e3;simp only[aG]at hx;obtain⟨hst,hlen⟩:=hc;have hs:=R.slice hH;rcases hx.2 (by rw[hH];exact hst) with ⟨rfl,ad,cap,rfl,hcap,_⟩|⟨g,n,cap,cap',hb,rfl,h1,h2,_⟩
   .simp only[Value.cells,eF,aQ,and_true];have:List.take 0 (List.drop off rows)=[]:=by simp
    rw[this];exact .nil _ _ hcap
   .simp only[Value.cells,eF,aQ,and_true];refine hs.2.1.part hb hs.1 hlen ⟨h1,h2⟩ λ_ g' o' e'=>?_;injection e' with e';injection e' with e1 e2;subst e1 e2;rw[hH];simp[HC.esz]
  .cases ht
 .cases ht
theorem zO (fz:List Nat):∀(H:Hp) (h:Nat),(aQ fz H h).stamp=(H h).stamp/\(aQ fz H h).esz=(H h).esz:=by
 induction fz with
 |nil=>exact λ_ _=>⟨rfl,rfl⟩
 |cons k r ih =>
  intro H h;simp only[aQ];have:=ih (dF H k (H k).frz) h;by_cases e:h=k
  .subst e;simpa [aO,HC.Df,HC.Oq] using this
  .simpa [aJ _ _ e] using this
theorem kV (fz:List Nat):∀(H:Hp) (h:Nat),h∉fz->aQ fz H h=H h:=by
 induction fz with
 |nil=>exact λ_ _ _=>rfl
 |cons k r ih =>
  intro H h hn;simp only[List.mem_cons,not_or]at hn;simp only[aQ];rw[ih _ _ hn.2,aJ _ _ hn.1]
def splice (r:List IV)(off:Nat)(cs:List IV):List IV:=r.take off++cs++r.drop (off+cs.length)
def y7 (T:TI)(H:Hp)(x v:AV):Option AR :=
 match x,oL H v with
 |.hp h st i off,some (c,cells,fz)=>match H h with
  |.blk false st' e sz rows=>some ⟨c/\T.ok=true/\st=st'/\i<rows.length/\off+cells.length<=sz/\cells.length=T.size/\h∉fz,.undef,fz,[(h,.blk false st e sz (rows.set i (splice (rows.getD i []) off cells)))],[h]⟩
  |_=>none
 |_,_=>none
theorem sD {P:Program}{t:Nat}(hT:(ti P t).ok=true){g o:Nat}{cur:Array Value}{e:Nat}{v:Value}(hg:w.heap[g]?=some (.cells cur e (0,0)))(hs:v.cells.size=(ti P t).size)(ho:o+v.cells.size<=cur.size)(h1:∀u∈v.cells.toList,u.oneCell'=true) :
  (storeVar t ⟨g,o,none⟩ v).run P w=.ok () (w.setRow g (cur.toList.take o++v.cells.toList++cur.toList.drop (o+v.cells.size)).toArray):=by
 have:=run_storeCells_at P g o e v.cells.toList 0 cur w hg (by simpa using ho) h1;simp only[Nat.add_zero,Array.length_toList]at this;simp[storeVar,run_sizeOf w hT,hs,this]
theorem vG {D:Nat->Prop}{xs cs:List IV}{vs us:List Value}(off:Nat)(h:eF w D xs vs)(h':eF w D cs us):eF w D (xs.take off++cs++xs.drop (off+cs.length)) (vs.take off++us++vs.drop (off+us.length)):=by
 rw[<-h'.length];exact((h.take off).append h').append (h.drop _)
theorem Dh {sz:Nat}:∀(rows:List (List IV)) (i:Nat) (r:List IV),(∀r∈rows,r.length=sz)->r.length=sz->i<rows.length->(rows.set i r).flatten=rows.flatten.take (i*sz)++r++rows.flatten.drop (i*sz+sz)
 |[],i,r,_,_,hi=>by simp at hi
 |r0::rest,0,r,h,hr,_=>by
  have h0:=h r0 (by simp);simp[<-h0]
 |r0::rest,i+1,r,h,hr,hi=>by
  have h0:=h r0 (by simp);have ih:=Dh rest i r (λr hr=>h r (by simp[hr])) hr (by simpa using hi);simp only[List.set_cons_succ,List.flatten_cons,ih];rw[show (i+1)*sz=r0.length+i*sz from by rw[h0,Nat.add_mul];omega];rw[List.take_length_add_append,show r0.length+i*sz+sz=r0.length+(i*sz+sz) from by omega,List.drop_length_add_append];simp[List.append_assoc]
theorem wI {sz:Nat}{r cs:List IV}{off:Nat}(hr:r.length=sz)(ho:off+cs.length<=sz):(splice r off cs).length=sz:=by
 simp[splice];omega
theorem Nl (X:List IV)(k off sz:Nat)(cs:List IV)(hX:k+sz<=X.length)(ho:off+cs.length<=sz) :
  X.take k++splice ((X.drop k).take sz) off cs++X.drop (k+sz)=X.take (k+off)++cs++X.drop (k+off+cs.length):=by
 unfold splice;have h1:((X.drop k).take sz).take off=(X.drop k).take off:=by rw[List.take_take];congr 1;omega
 have h2:X.take (k+off)=X.take k++(X.drop k).take off:=by rw[List.take_add]
 have h3:((X.drop k).take sz).drop (off+cs.length)++X.drop (k+sz)=X.drop (k+off+cs.length):=by
  rw[List.drop_take,List.drop_drop];have:X.drop (k+off+cs.length)=(X.drop (k+off+cs.length)).take (sz-(off+cs.length))++(X.drop (k+off+cs.length)).drop (sz-(off+cs.length)):=(List.take_append_drop _ _).symm;rw[this,List.drop_drop,show k+(off+cs.length)=k+off+cs.length from by omega,show k+off+cs.length+(sz-(off+cs.length))=k+sz from by omega]
 rw[h1,h2,<-h3];simp[List.append_assoc]
theorem a1c {sz:Nat}(rows:List (List IV))(i:Nat)(h:∀r∈rows,r.length=sz)(hi:i<rows.length):(rows.flatten.drop (i*sz)).take sz=rows.getD i []:=by
 have hri:rows[i]?=some (rows.getD i []):=by simp[List.getD,hi]
 have hlen:=h _ (List.mem_of_getElem? hri);apply List.ext_getElem?;intro j;by_cases hj:j<sz
 .have hx:(rows.getD i [])[j]?=some ((rows.getD i [])[j]'(by rw[hlen];exact hj)):=by simp[hj,hlen]
  rw[hx,List.getElem?_take_of_lt hj,List.getElem?_drop];exact iR rows i j _ _ h hri hx
 .rw[List.getElem?_eq_none (by simp;omega),List.getElem?_eq_none (by omega)]
theorem BK (X us:List Value)(k m:Nat)(h1:k+us.length<=m)(h2:m<=X.length) :
  (X.take k++us++X.drop (k+us.length)).take m=(X.take m).take k++us++(X.take m).drop (k+us.length):=by
 have e1:(X.take m).take k=X.take k:=by rw[List.take_take];congr 1;omega
 have hl:(X.take k++us).length=k+us.length:=by simp;omega
 rw[e1,List.take_append,hl,List.drop_take,List.take_of_length_le (by omega)]
theorem Rel.write (R:Rel G M w0 D0 N f H β a w){h st e sz i off:Nat}{rows:List (List IV)}(hH:H h=.blk false st e sz rows)(hi:i<rows.length){cs:List IV}{us:List Value}(hr:eF w (DD H β D0) cs us)(ho:off+cs.length<=sz)
  {dst:Option Nat} (hd:∀d,dst=some d->d<N) :
  ∃g cap cur β',β h=.slice (some ⟨g,0,none⟩) rows.length cap/\w.heap[g]?=some (.cells cur e (0,0))/\i*sz+off+us.length<=cur.size /\
   Rel G M w0 D0 N (iY f dst .undef) (dF H h (.blk false st e sz (rows.set i (splice (rows.getD i []) off cs)))) β' (a.put dst Go.undef) (w.setRow g (cur.toList.take (i*sz+off)++us++cur.toList.drop (i*sz+off+us.length)).toArray):=by
 have hown:=R.own h _ _ _ _ hH;rcases hown.2 with ⟨rfl,_⟩|⟨g,cap,cur,hb,hB,hg,h1,h2,h3,h4⟩
 .simp at hi
 have hri:rows[i]?=some (rows.getD i []):=by simp[List.getD,hi]
 have hlen:=hown.1 _ (List.mem_of_getElem? hri);have hul:=hr.length;have hmul:i*sz+sz<=rows.length*sz:=by
  have:=Nat.mul_le_mul_right sz (show i+1<=rows.length from hi);rw[Nat.add_mul]at this;omega
 have hcapm:rows.length*sz<=cap*sz:=Nat.mul_le_mul_right _ h1;have hfit:i*sz+off+us.length<=cur.size:=by rw[h3,<-hul];omega
 have hset:=setRow_heap w g cur (cur.toList.take (i*sz+off)++us++cur.toList.drop (i*sz+off+us.length)).toArray e (0,0) hg;have hmu:(H h).gB:=by rw[hH];trivial
 have gr:dh w (DD H β D0) (w.setRow g (cur.toList.take (i*sz+off)++us++cur.toList.drop (i*sz+off+us.length)).toArray) (λb=>DD H β D0 b\/bD (β h)=some b):=by
  refine⟨by simp,λb _ hd'=>?_,λb _ hn=>?_⟩
  .rcases hd' with h'|h'
   .exact h'
   .exact .inr ⟨h,hmu,h'⟩
  .exact λ_=>setRow_other w g b _ (λe=>hn (.inr ⟨h,hmu,by rw[hb,e];rfl⟩))
 have hown':Own (w.setRow g (cur.toList.take (i*sz+off)++us++cur.toList.drop (i*sz+off+us.length)).toArray) (λb=>DD H β D0 b\/bD (β h)=some b) w0.heap.size M (β h) e sz (rows.set i (splice (rows.getD i []) off cs)):=by
  refine⟨?_,.inr ⟨g,cap,_,by rw[hb];simp,hB,hset,by simpa using h1,h2,?_,?_⟩⟩
  .intro r hr';rcases List.mem_or_eq_of_mem_set hr' with h|h
   .exact hown.1 r h
   .rw[h];exact wI hlen ho
  .simp;omega
  .rw[Dh rows i _ hown.1 (wI hlen ho) hi,<-a1c rows i hown.1 hi,Nl _ _ _ _ _ (by rw[dK rows hown.1];exact hmul) ho];simp only[List.length_set];rw[BK cur.toList us _ _ (by rw[<-hul];omega) (by rw[show cur.toList.length=cur.size from rfl,h3];exact hcapm)];exact(vG _ h4 hr).mono gr
 obtain⟨β',hb',_,R'⟩:=R.grow (w':=w.setRow g (cur.toList.take (i*sz+off)++us++cur.toList.drop (i*sz+off+us.length)).toArray) (st':=st) (rows':=rows.set i (splice (rows.getD i []) off cs)) (v:=β h) (dst:=dst) (x:=.undef) (val:=Go.undef) hH (.inl ⟨rfl,rfl⟩) rfl rfl rfl (by simp)
  (λk hk hn=>setRow_other w g k _ (λe=>hn (by rw[hb,e];rfl))) hown' (λk hk=>.inl hk) (λ_ _ _ _ _=>by simp[aG]) hd
 exact⟨g,cap,cur,β',hb,hg,hfit,R'⟩
theorem zZ {P:Program}{t:Nat}(R:Rel G M w0 D0 N f H β a w){x y:AV}{v u:Value}(hx:aG w (DD H β D0) H β x v)(hy:aG w (DD H β D0) H β y u){r:AR}(hr:y7 (ti P t) H x y=some r)(hc:r.c){dst:Option Nat}(hd:∀d,dst=some d->d<N) :
  r.v=.undef/\∃w' β',(Instr.storeAt t v u).run P w=.ok () w'/\Rel G M w0 D0 N (iY f dst r.v) (dA r.hs (aQ r.fz H)) β' (a.put dst Go.undef) w':=by
 unfold y7 at hr;split at hr
 .rename_i h st i off c cells fz ht;split at hr
  .rename_i st' e sz rows hH;injection hr with hr;subst hr;obtain⟨hc0,hok,hst,hi,ho,hl,hn⟩:=hc;have hrep:=jF R hy ht hc0;have R1:=R.aQ fz;have hH1:aQ fz H h=.blk false st' e sz rows:=by rw[kV fz H h hn,hH]
   obtain⟨g,cap,cur,β',hb,hg,hfit,R2⟩:=R1.write hH1 hi hrep ho hd;simp only[aG]at hx;obtain⟨g',n',cap',hb',rfl⟩:=hx.2 (by rw[hH];exact hst);rw[hb]at hb';injection hb' with e1 e2 e3;injection e1 with e1;injection e1 with e1 e4;subst e1
   have hus:=hrep.length;have hsv:=sD (P:=P) (t:=t) (w:=w) hok (g:=g) (o:=i*sz+off) (v:=u) hg (by rw[<-Array.length_toList,<-hus];exact hl) (by rw[Array.length_toList]at hfit;exact hfit) hrep.one;rw[Array.length_toList]at R2;subst hst;have hrun:(Instr.storeAt t (.pointer (some ⟨g,i*(H h).esz+off,none⟩)) u).run P w=.ok () (w.setRow g (cur.toList.take (i*sz+off)++u.cells.toList++cur.toList.drop (i*sz+off+u.cells.size)).toArray):=by
    simp only[Instr.storeAt,Instr.sureAddr,Sem.run_bind,Sem.run_pure,Result.andThen_ok,hH,HC.esz];exact hsv
   exact⟨rfl,_,β',hrun,R2⟩
  .cases hr
 .cases hr
end
section
variable {G:Gh} {M:Nat->Prop} {w0:World} {D0:Nat->Prop} {N:Nat} {f:Fr} {H:Hp} {β:Nat->Value} {a:Act} {w:World}
theorem NP (w:World)(D:Nat->Prop){cur:Array Value}{e sz cap:Nat}{rows:List (List IV)}(hsz:∀r∈rows,r.length=sz)(hl:rows.length<=cap)(hm:cap<=maxLen)(hc:cur.size=cap*sz)(hr:eF w D rows.flatten (cur.toList.take (rows.length*sz))) :
  Own (w.alloc (.cells cur e)) (λb=>D b\/bD (.slice (some ⟨w.heap.size,0,none⟩) rows.length cap)=some b) w.heap.size (λ_=>False) (.slice (some ⟨w.heap.size,0,none⟩) rows.length cap) e sz rows:=by
 refine⟨hsz,.inr ⟨w.heap.size,cap,cur,rfl,.inl (Nat.le_refl _),heap_alloc_new w _,hl,hm,hc,?_⟩⟩;refine hr.mono ⟨by simp,λb hb hd=>?_,λb hb _ _=>heap_alloc_old w _ hb⟩;rcases hd with h|h
 .exact h
 .simp[bD]at h;omega
theorem Rel.alloc (R:Rel G M w0 D0 N f H β a w){h e sz cap st:Nat}{cur:Array Value}{rows:List (List IV)}{dst:Option Nat}{x:AV}{val:Value}(hst:(H h).stamp<st)
  (hsz:∀r∈rows,r.length=sz) (hl:rows.length<=cap) (hm:cap<=maxLen) (hc:cur.size=cap*sz) (hr:eF w (DD H β D0) rows.flatten (cur.toList.take (rows.length*sz)))
  (hv:∀β':Nat->Value,β' h=.slice (some ⟨w.heap.size,0,none⟩) rows.length cap->∀w' D,aG w' D (dF H h (.blk false st e sz rows)) β' x val) (hd:∀d,dst=some d->d<N) :
  ∃β',Rel G M w0 D0 N (iY f dst x) (dF H h (.blk false st e sz rows)) β' (a.put dst val) (w.alloc (.cells cur e)):=by
 obtain⟨β',_,_,R'⟩:=R.fresh (w':=w.alloc (.cells cur e)) (h:=h) (e:=e) (sz:=sz) (rows:=rows) (v:=.slice (some ⟨w.heap.size,0,none⟩) rows.length cap) (dst:=dst) (x:=x) (val:=val) (st:=st) hst rfl rfl rfl (by simp)
  (λk hk=>heap_alloc_old w _ hk) (NP w _ hsz hl hm hc hr) (λβ' hb D=>hv β' hb _ D) hd
 exact⟨β',R'⟩
def uY (H:Hp)(d e:Nat)(cells:List IV):AV×List (Nat×HC):=(.hp d ((H d).stamp+1) 0 0,[(d,.blk false ((H d).stamp+1) e cells.length [cells])])
theorem Rel.box (R:Rel G M w0 D0 N f H β a w){d e:Nat}{cells:List IV}{v:Value}(hr:eF w (DD H β D0) cells v.cells.toList)(hd:d<N) :
  ∃β',Rel G M w0 D0 N (upd f d (uY H d e cells).1) (dA (uY H d e cells).2 H) β' (a.put (some d) (.pointer (some ⟨w.heap.size,0,none⟩))) (w.alloc (.cells v.cells e)):=by
 have hl:=hr.length;obtain⟨β',R'⟩:=R.alloc (h:=d) (e:=e) (sz:=cells.length) (cap:=1) (st:=(H d).stamp+1) (cur:=v.cells) (rows:=[cells]) (dst:=some d) (x:=.hp d ((H d).stamp+1) 0 0) (val:=.pointer (some ⟨w.heap.size,0,none⟩)) (by omega)
  (by simp) (by simp) (by simp[maxLen]) (by rw[hl];simp) (by simp only[List.flatten_cons,List.flatten_nil,List.append_nil,List.length_cons,List.length_nil,Nat.zero_add,Nat.one_mul];rw[List.take_of_length_le (by omega)];exact hr)
  (λβ' hb w' D=>by
   simp only[aG,aO,HC.stamp,HC.esz];exact⟨Nat.le_refl _,λ_=>⟨_,_,_,hb,by simp⟩⟩) (by rintro _ ⟨⟩;exact hd)
 exact⟨β',R'⟩
def DT (T:TI)(H:Hp)(e d:Nat):Option AR:=some ⟨T.zok=true,(uY H d e T.zero).1,[],(uY H d e T.zero).2,[]⟩
def a8B (T:TI)(H:Hp)(e d:Nat)(x:AV):Option AR :=
 match oL H x with
 |some (c,cells,fz)=>some ⟨c/\d∉fz,(uY H d e cells).1,fz,(uY H d e cells).2,[]⟩
 |none=>none
theorem Mc {P:Program}{e d:Nat}(R:Rel G M w0 D0 N f H β a w)(hd:d<N){r:AR}(hr:DT (ti P e) H e d=some r)(hc:r.c) :
  ∃u w' β',(Instr.alloc e true (.tuple #[])).run P w=.ok u w'/\Rel G M w0 D0 N (iY f (some d) r.v) (dA r.hs (aQ r.fz H)) β' (a.put (some d) u) w':=by
 unfold DT at hr;injection hr with hr;subst hr;obtain⟨z,hz,h1,h0,h2,h3⟩:=iZ (P:=P) w hc;obtain⟨β',R'⟩:=R.box (e:=e) (cells:=(ti P e).zero) (v:=z) (by rw[h2];exact xR w _ _ h3) hd;refine⟨_,_,β',?_,R'⟩;simp only[Instr.alloc,Sem.run_bind,hz,Result.andThen_ok,newVar,newRow,run_newObj,Sem.run_pure];rfl
theorem nJ {fz:List Nat}{d:Nat}(h:d∉fz):aQ fz H d=H d:=kV fz H d h
theorem UH {P:Program}{T:TI}{e d:Nat}(R:Rel G M w0 D0 N f H β a w){x:AV}{v:Value}(hx:aG w (DD H β D0) H β x v)(hd:d<N){r:AR}(hr:a8B T H e d x=some r)(hc:r.c) :
  ∃u w' β',(Instr.box e v).run P w=.ok u w'/\Rel G M w0 D0 N (iY f (some d) r.v) (dA r.hs (aQ r.fz H)) β' (a.put (some d) u) w':=by
 unfold a8B at hr;split at hr
 .rename_i c cells fz ht;injection hr with hr;subst hr;have hrep:=jF R hx ht hc.1;have R1:=R.aQ fz;obtain⟨β',R'⟩:=R1.box (e:=e) (v:=v) hrep hd;refine⟨.pointer (some ⟨w.heap.size,0,none⟩),w.alloc (.cells v.cells e),β',?_,?_⟩
  .simp only[Instr.box,newVar,newRow,Sem.run_bind,run_newObj,Result.andThen_ok,Sem.run_pure];rfl
  .simp only[uY,nJ hc.2]at R' ⊢;exact R'
 .cases hr
def LP (T:TI)(H:Hp)(e d:Nat)(l c:AV):Option AR :=
 match l,c with
 |.iv (.int _ l),.iv (.int _ c)=>some ⟨T.ok=true/\T.zok=true/\0<=l/\l<=c/\c*T.bytes<=281474976710656/\c<=maxLen,.hs d ((H d).stamp+1),[],[(d,.blk false ((H d).stamp+1) e T.size (List.replicate l.toNat T.zero))],[]⟩
 |_,_=>none
theorem wrap_i64 (n:Int)(h : -9223372036854775808<=n)(h':n<=9223372036854775807):IntKind.i64.wrap n=n:=by
 unfold IntKind.wrap;have e1:(2:Int)^IntKind.i64.bits=18446744073709551616:=rfl;have e2:(2:Int)^(IntKind.i64.bits-1)=9223372036854775808:=rfl;simp only[e1,e2];by_cases h1:n%18446744073709551616>=9223372036854775808
 .simp only[h1,decide_true,Bool.and_true,IntKind.signed,if_true];omega
 .simp only[h1,decide_false,Bool.and_false,Bool.false_eq_true,if_false];omega
theorem CX {D:Nat->Prop}{z:Array Value}(h1:∀v∈z.toList,v.oneCell'=true)(hz:0<z.size)(n m:Nat)(hmn:m<=n) :
  eF w D (List.replicate m (z.toList.map OE)).flatten (((Array.range (n*z.size)).map (λi=>z[i%z.size]!)).toList.take (m*z.size)):=by
 have hlen:((List.replicate m (z.toList.map OE)).flatten).length=m*z.size:=by
  rw[dK (sz:=z.size) _ (by intro r hr;rw[List.eq_of_mem_replicate hr];simp)];simp
 refine eF.Ky ?_ ?_
 .rw[hlen];simp[Nat.min_eq_left hmn]
 .intro j x hj;have hjl:=(List.getElem?_eq_some_iff.1 hj).1;rw[hlen]at hjl;have hjz:j%z.size<z.size:=Nat.mod_lt _ hz;have hi:j/z.size<m:=by rw[Nat.div_lt_iff_lt_mul hz];exact hjl
  have hrow:(List.replicate m (z.toList.map OE))[j/z.size]?=some (z.toList.map OE):=by simp[hi]
  have hc:(z.toList.map OE)[j%z.size]?=some (OE z[j%z.size]):=by simp[hjz]
  have hfl:=iR (sz:=z.size) (List.replicate m (z.toList.map OE)) (j/z.size) (j%z.size) _ _ (by intro r hr;rw[List.eq_of_mem_replicate hr];simp) hrow hc;rw[Nat.mul_comm,Nat.div_add_mod]at hfl;rw[hfl]at hj;injection hj with hj;subst hj
  refine⟨z[j%z.size],?_,RN w D _ (h1 _ (by simp))⟩;have hjn:j<n*z.size:=Nat.lt_of_lt_of_le hjl (Nat.mul_le_mul_right _ hmn);rw[List.getElem?_take_of_lt hjl];simp[hjn,hjz]
theorem OY {P:Program}{t e d:Nat}(ht:(ti P t).desc=.sl e)(R:Rel G M w0 D0 N f H β a w){x y:AV}{v u:Value}(hx:aG w (DD H β D0) H β x v)(hy:aG w (DD H β D0) H β y u)(hd:d<N){r:AR}(hr:LP (ti P e) H e d x y=some r)(hc:r.c) :
  ∃z w' β',(Instr.makeSlice t v u).run P w=.ok z w'/\Rel G M w0 D0 N (iY f (some d) r.v) (dA r.hs (aQ r.fz H)) β' (a.put (some d) z) w':=by
 unfold LP at hr;split at hr
 .rename_i k l k' c;injection hr with hr;subst hr;obtain⟨hok,b5s,hl0,hlc,hb,hm⟩:=hc;simp only[aG]at hx hy;cases hx;cases hy;obtain⟨z,hz,h1,h0,h2,h3⟩:=iZ (P:=P) w b5s;obtain⟨i,di,hi,hdi,hs,hby,_⟩:=Tn hok;have hu:=mZ ht;have hwl:IntKind.i64.wrap l=l:=wrap_i64 l (by omega) (by simp only[maxLen]at hm;omega);have hwc:IntKind.i64.wrap c=c:=wrap_i64 c (by omega) (by simp only[maxLen]at hm;omega);have hcast:(c.toNat:Int)=c:=Int.toNat_of_nonneg (by omega);have hlt:l.toNat<=c.toNat:=by omega
  have hzs:z.cells.size=i.size:=by rw[h1,hs]
  have hcur:((Array.range (c.toNat*z.cells.size)).map (λi=>z.cells[i%z.cells.size]!)).size=c.toNat*(ti P e).size:=by simp[h1]
  have hzl:(ti P e).zero.length=(ti P e).size:=by rw[h2,<-h1];simp
  obtain⟨β',R'⟩:=R.alloc (h:=d) (e:=e) (sz:=(ti P e).size) (cap:=c.toNat) (st:=(H d).stamp+1) (cur:=(Array.range (c.toNat*z.cells.size)).map (λi=>z.cells[i%z.cells.size]!)) (rows:=List.replicate l.toNat (ti P e).zero) (dst:=some d)
   (x:=.hs d ((H d).stamp+1)) (val:=.slice (some ⟨w.heap.size,0,none⟩) l.toNat c.toNat) (by omega) (by intro r hr;rw[List.eq_of_mem_replicate hr];exact hzl) (by simpa using hlt) (by omega) hcur
   (by rw[h2,<-h1];simp only[List.length_replicate];exact CX h3 (by omega) _ _ hlt)
   (λβ' hb w' D=>by
    simp only[aG,aO,HC.stamp];exact⟨Nat.le_refl _,λ_=>by rw[hb];simp⟩) (by rintro _ ⟨⟩;exact hd)
  refine⟨_,_,β',?_,R'⟩;have htl:((decide (c<0) || decide (↑i.bytes*c>2^48)) || decide (l<0) || decide (l>c))=false:=by
   have:¬((i.bytes:Int)*c>2^48):=by rw[<-hby,Int.mul_comm];omega
   simp[this];omega
  have hn:¬c.toNat*i.size=0\/c.toNat*i.size=0:=by omega
  simp only[Instr.makeSlice,Sem.run_bind,run_underlying hu,Result.andThen_ok,asInt,asIntOf,Sem.run_pure,typeInfo,run_program,hi,hwl,hwc,htl,Bool.false_eq_true,if_false,run_askRoom,sizeOf,newRow,run_newObj];by_cases hn0:c.toNat*i.size=0
  .simp only[hn0,if_true,Sem.run_pure,Result.andThen_ok];have:c.toNat*z.cells.size=0:=by rw[hzs];exact hn0
   simp only[this];have e0:∀g:Nat->Value,(Array.range 0).map g = #[]:=λg=>by simp
   simp only[e0,Sem.run_bind,Sem.run_pure,Result.andThen_ok,run_newObj];rfl
  .have hn1:¬c.toNat*z.cells.size=0:=by rw[hzs];exact hn0
   simp only[<-hzs,hn1,if_false,Sem.run_bind,hz,Result.andThen_ok,Sem.run_pure,run_newObj];rfl
 .cases hr
end
section
variable {G:Gh} {M:Nat->Prop} {w0:World} {D0:Nat->Prop} {N:Nat} {f:Fr} {H:Hp} {β:Nat->Value} {a:Act} {w:World}
def Ac (esz:Nat)(eok:Bool)(H:Hp)(x i:AV):Option AR :=
 match x,i with
 |.iv (.sl rows),.iv (.int _ i)=>some ⟨eok=true/\0<=i/\i<rows.length/\(rows.getD i.toNat []).length=esz,.ip (rows.getD i.toNat []),[],[],[]⟩
 |.iv (.own _ _ _ rows),.iv (.int _ i)=>some ⟨eok=true/\0<=i/\i<rows.length/\(rows.getD i.toNat []).length=esz,.ip (rows.getD i.toNat []),[],[],[]⟩
 |.hs h st,.iv (.int _ i)=>match H h with
  |.blk _ st' _ sz rows=>some ⟨eok=true/\0<=i/\i<rows.length/\st=st'/\sz=esz,.hp h st i.toNat 0,[],[],[h]⟩
  |.nst st' _ rows=>some ⟨eok=true/\0<=i/\i<rows.length/\st=st'/\1=esz,.hp h st i.toNat 0,[],[],[h]⟩
  |_=>none
 |.hv h st off len,.iv (.int _ i)=>match H h with
  |.blk _ st' _ sz rows=>some ⟨eok=true/\0<=i/\i<len/\off+len<=rows.length/\st=st'/\sz=esz,.hp h st (off+i.toNat) 0,[],[],[h]⟩
  |_=>none
 |_,_=>none
theorem Rep.ip {D:Nat->Prop}{rows:List (List IV)}{v:Value}(h:Rep w D (.sl rows) v){i:Nat}(hi:i<rows.length) :
  ∃g o cap,v=.slice (some ⟨g,o,none⟩) rows.length cap/\¬D g/\∃vs,eF w D (rows.getD i []) vs/\∀(j:Nat) c,vs[j]?=some c->w.cell? ⟨g,o+i*(rows.getD i []).length+j,none⟩=some c:=by
 have hri:rows[i]?=some (rows.getD i []):=by simp[List.getD,hi]
 cases h with
 |nil a cap hcap=>simp at hi
 |sl _ g o cap sz cell hsz hl hcap hg hD hc hr =>
  have hlen:=hsz i _ hri;refine⟨g,o,cap,rfl,hD,(List.range sz).map (cell i),eF.Ky (by rw[hlen];simp) ?_,?_⟩
  .intro j x hj;have hlt:=(List.getElem?_eq_some_iff.1 hj).1;rw[hlen]at hlt;exact⟨cell i j,by simp[hlt],hr i _ hri j x hj⟩
  .intro j c hj;have hlt:j<sz:=by have:=(List.getElem?_eq_some_iff.1 hj).1;simpa using this
   have hx:(rows.getD i [])[j]?=some ((rows.getD i [])[j]'(by rw[hlen];exact hlt)):=by simp[hlt,hlen]
   rw[hlen,Nat.add_assoc,hc i _ hri j _ hx];simpa [hlt] using hj
theorem LQ {P:Program}{t e:Nat}(ht:(ti P t).desc=.sl e)(R:Rel G M w0 D0 N f H β a w){x y:AV}{v u:Value}(hx:aG w (DD H β D0) H β x v)(hy:aG w (DD H β D0) H β y u){r:AR}
  (hr:Ac (ti P e).size (ti P e).ok H x y=some r) (hc:r.c):r.fz=[]/\r.hs=[]/\∃z,(Instr.indexAt t v u).run P w=.ok z w/\aG w (DD H β D0) H β r.v z:=by
 have hu:=mZ ht;unfold Ac at hr;split at hr
 .rename_i rows k i;injection hr with hr;subst hr;obtain⟨hok,h0,hlt,hlen⟩:=hc;simp only[aG]at hx hy;cases hy;have hi:i.toNat<rows.length:=by omega
  obtain⟨g,o,cap,rfl,hD,vs,hrep,hcell⟩:=hx.ip hi;refine⟨rfl,rfl,.pointer (some ⟨g,o+i.toNat*(ti P e).size,none⟩),?_,?_⟩
  .simp[Instr.indexAt,asIntOf,run_underlying hu,h0,hlt,run_sizeOf w hok,addr_add]
  .simp only[aG];rw[hlen]at hcell;exact⟨g,_,rfl,λ_=>hD,vs,hrep,hcell⟩
 .rename_i b0 e0 s0 rows k i;injection hr with hr;subst hr;obtain⟨hok,h0,hlt,hlen⟩:=hc;simp only[aG]at hx hy;cases hy;have hi:i.toNat<rows.length:=by omega
  obtain⟨g,o,cap,rfl,hD,vs,hrep,hcell⟩:=hx.wK.ip hi;refine⟨rfl,rfl,.pointer (some ⟨g,o+i.toNat*(ti P e).size,none⟩),?_,?_⟩
  .simp[Instr.indexAt,asIntOf,run_underlying hu,h0,hlt,run_sizeOf w hok,addr_add]
  .simp only[aG];rw[hlen]at hcell;exact⟨g,_,rfl,λ_=>hD,vs,hrep,hcell⟩
 .rename_i h st k i;split at hr
  .rename_i fz st' e' sz rows hH;injection hr with hr;subst hr;obtain⟨hok,h0,hlt,hst,hsz⟩:=hc;simp only[aG]at hx hy;cases hy;have hi:i.toNat<rows.length:=by omega
   have hv:=hx.2 (by rw[hH];exact hst);obtain⟨g,cap,vs,hb,hlen,hrep,hcell⟩:=R.row hH hi;subst hv;rw[hb];refine⟨rfl,rfl,.pointer (some ⟨g,i.toNat*(ti P e).size,none⟩),?_,?_⟩
   .have hlt':i<((rows.length:Nat):Int):=hlt;simp[Instr.indexAt,asIntOf,run_underlying hu,h0,hlt',run_sizeOf w hok,addr_add]
   .simp only[aG];refine⟨hx.1,λ_=>⟨g,rows.length,cap,hb,?_⟩⟩;rw[hH];simp[HC.esz,hsz]
  .rename_i st' e' rows hH;injection hr with hr;subst hr;obtain⟨hok,h0,hlt,hst,hsz⟩:=hc;simp only[aG]at hx hy;cases hy;have hi:i.toNat<rows.length:=by omega
   have hv:=hx.2 (by rw[hH];exact hst);obtain⟨g,cap,c,hb,_,_⟩:=R.b3B hH hi;subst hv;rw[hb];refine⟨rfl,rfl,.pointer (some ⟨g,i.toNat*(ti P e).size,none⟩),?_,?_⟩
   .have hlt':i<((rows.length:Nat):Int):=hlt;simp[Instr.indexAt,asIntOf,run_underlying hu,h0,hlt',run_sizeOf w hok,addr_add]
   .simp only[aG];refine⟨hx.1,λ_=>⟨g,rows.length,cap,hb,?_⟩⟩;rw[hH];simp[HC.esz,hsz]
  .cases hr
 .rename_i h st off len k i;split at hr
  .rename_i fz st' e' sz rows hH;injection hr with hr;subst hr;obtain⟨hok,h0,hlt,hol,hst,hsz⟩:=hc;simp only[aG]at hx hy;cases hy;rcases hx.2 (by rw[hH];exact hst) with ⟨rfl,_⟩|⟨g,n,cap,cap',hb,rfl,h1,h2⟩
   .omega
   .refine⟨rfl,rfl,.pointer (some ⟨g,(off+i.toNat)*(ti P e).size,none⟩),?_,?_⟩
    .rw[hH];simp[Instr.indexAt,asIntOf,run_underlying hu,h0,hlt,run_sizeOf w hok,addr_add,HC.esz,hsz,Nat.add_mul]
    .simp only[aG];refine⟨hx.1,λ_=>⟨g,n,cap,hb,?_⟩⟩;rw[hH];simp[HC.esz,hsz]
  .cases hr
 .cases hr
def a8A (H:Hp):AV->Option AR
 |.iv (.sl rows)=>some ⟨True,.iv (.int .i64 rows.length),[],[],[]⟩
 |.iv (.own _ _ _ rows)=>some ⟨True,.iv (.int .i64 rows.length),[],[],[]⟩
 |.oG=>some ⟨True,.iv (.int .i64 0),[],[],[]⟩
 |.hs h st=>match H h with | .blk _ st' _ _ rows=>some ⟨st=st',.iv (.int .i64 rows.length),[],[],[h]⟩ | .nst st' _ rows=>some ⟨st=st',.iv (.int .i64 rows.length),[],[],[h]⟩|_=>none
 |.hv h st off len=>match H h with | .blk _ st' _ _ rows=>some ⟨st=st',.iv (.int .i64 len),[],[],[h]⟩|_=>none
 |_=>none
theorem Rep.jl {D:Nat->Prop}{rows:List (List IV)}{v:Value}(h:Rep w D (.sl rows) v):∃ad cap,v=.slice ad rows.length cap/\rows.length<=cap/\cap<=maxLen:=by
 cases h with
 |nil a cap hcap=>exact⟨a,cap,rfl,Nat.zero_le _,hcap⟩
 |sl _ g o cap sz cell hsz hl hcap hg hD hc hr=>exact⟨_,cap,rfl,hl,hcap⟩
theorem Rel.jl (R:Rel G M w0 D0 N f H β a w){h st e sz:Nat}{fz:Bool}{rows:List (List IV)}(hH:H h=.blk fz st e sz rows):∃ad cap,β h=.slice ad rows.length cap/\rows.length<=cap/\cap<=maxLen :=
 (R.slice hH).2.1.jl
theorem UD {P:Program}{t e:Nat}(ht:(ti P t).desc=.sl e)(R:Rel G M w0 D0 N f H β a w){x:AV}{v:Value}(hx:aG w (DD H β D0) H β x v){r:AR}{ty:Nat}
  (hr:a8A H x=some r) (hc:r.c):r.fz=[]/\r.hs=[]/\∃z,(Builtin.len_ #[t] ty #[v]).run P w=.ok z w/\aG w (DD H β D0) H β r.v z:=by
 have hu:=mZ ht;have key:∀ad n cap,v=.slice ad n cap->(Builtin.len_ #[t] ty #[v]).run P w=.ok (.int .i64 n) w:=by
  rintro ad n cap rfl;simp[Builtin.len_,run_underlying hu,goInt]
 unfold a8A at hr;split at hr
 .rename_i rows;injection hr with hr;subst hr;simp only[aG]at hx;obtain⟨ad,cap,hv,_⟩:=hx.jl;exact⟨rfl,rfl,_,key _ _ _ hv,by simp only[aG];exact .int ..⟩
 .injection hr with hr;subst hr;simp only[aG]at hx;obtain⟨ad,cap,hv,_⟩:=hx.wK.jl;exact⟨rfl,rfl,_,key _ _ _ hv,by simp only[aG];exact .int ..⟩
 .injection hr with hr;subst hr;simp only[aG]at hx;exact⟨rfl,rfl,_,key _ _ _ hx,by simp only[aG];exact .int ..⟩
 .rename_i h st;split at hr
  .rename_i hH;injection hr with hr;subst hr;simp only[aG]at hx;obtain⟨ad,cap,hb,_⟩:=R.jl hH;exact⟨rfl,rfl,_,key _ _ _ ((hx.2 (by rw[hH];exact hc)).trans hb),by simp only[aG];exact .int ..⟩
  .rename_i hH;injection hr with hr;subst hr;simp only[aG]at hx;obtain⟨ad,cap,hb,_⟩:=R.yR hH;exact⟨rfl,rfl,_,key _ _ _ ((hx.2 (by rw[hH];exact hc)).trans hb),by simp only[aG];exact .int ..⟩
  .cases hr
 .rename_i h st off len;split at hr
  .rename_i hH;injection hr with hr;subst hr;simp only[aG]at hx;rcases hx.2 (by rw[hH];exact hc) with ⟨rfl,ad,cap,hv,_⟩|⟨g,n,cap,cap',hb,hv,_⟩
   .exact⟨rfl,rfl,_,key _ _ _ hv,by simp only[aG];exact .int ..⟩
   .exact⟨rfl,rfl,_,key _ _ _ hv,by simp only[aG];exact .int ..⟩
  .cases hr
 .cases hr
def a4H:Option AV->Option Int
 |none=>some 0
 |some (.iv (.int _ n))=>some n
 |_=>none
def vU (n:Nat):Option AV->Option Int
 |none=>some n
 |some (.iv (.int _ n))=>some n
 |_=>none
def Aa (esz:Nat)(eok:Bool)(H:Hp)(x:AV)(lo hi:Option AV):Option AR :=
 match x with
 |.iv (.sl rows)=>match a4H lo,vU rows.length hi with
  |some l,some h=>some ⟨eok=true/\0<=l/\l<=h/\h<=rows.length/\(∀r∈rows,r.length=esz),.iv (.sl ((rows.drop l.toNat).take (h-l).toNat)),[],[],[]⟩
  |_,_=>none
 |.iv (.own b e sz rows)=>match a4H lo,vU rows.length hi with
  |some l,some h=>some ⟨eok=true/\l=0/\0<=h/\h<=rows.length,.iv (.own b e sz (rows.take h.toNat)),[],[],[]⟩
  |_,_=>none
 |.hs k st=>match H k with
  |.blk _ st' _ sz rows=>match a4H lo,vU rows.length hi with
   |some l,some h=>some ⟨eok=true/\st=st'/\sz=esz/\0<=l/\l<=h/\h<=rows.length,.hv k st l.toNat (h-l).toNat,[],[],[k]⟩
   |_,_=>none
  |.nst st' _ rows=>match a4H lo,vU rows.length hi with
   |some l,some h=>some ⟨eok=true/\st=st'/\1=esz/\0<=l/\l<=h/\h<=rows.length,.hv k st l.toNat (h-l).toNat,[],[],[k]⟩
   |_,_=>none
  |_=>none
 |_=>none
theorem run_sliceBound {P:Program}{k:IntKind}{i:Int}{y:Nat}{code:BoundsCode}(h0:0<=i)(h1:i<=y):(Instr.sliceBound (.int k i) y code).run P w=.ok i.toNat w:=by
 simp[Instr.sliceBound,asIntOf,h0,h1]
theorem oP {P:Program}{t e:Nat}(ht:(ti P t).desc=.sl e)(hok:(ti P e).ok=true){ad:Option Addr}{n cap:Nat}(hn:n<=cap){lo hi:Option Value}{l h:Int}
  (hlo:(lo=none/\l=0)\/∃k,lo=some (.int k l)) (hhi:(hi=none/\h=n)\/∃k,hi=some (.int k h)) (h0:0<=l) (h1:l<=h) (h2:h<=n) :
  (Instr.sliceAt t (.slice ad n cap) lo hi none).run P w=.ok (.slice (if cap=l.toNat then ad else ad.map (·.add (l.toNat*(ti P e).size))) (h.toNat-l.toNat) (cap-l.toNat)) w:=by
 have hu:=mZ ht;have e1:((h.toNat:Nat):Int)=h:=Int.toNat_of_nonneg (by omega);have hbc:∀k code,(Instr.sliceBound (.int k h) cap code).run P w=.ok h.toNat w:=λk c=>run_sliceBound (by omega) (by omega)
 have hbl:∀k code,(Instr.sliceBound (.int k l) h.toNat code).run P w=.ok l.toNat w:=λk c=>run_sliceBound (by omega) (by omega)
 rcases hhi with ⟨rfl,hh⟩|⟨k,rfl⟩<;>rcases hlo with ⟨rfl,hl⟩|⟨k',rfl⟩
 .have hhn:h.toNat=n:=by omega
  have hln:l.toNat=0:=by omega
  simp[Instr.sliceAt,run_underlying hu,Instr.slice,Instr.sliceBounds,run_sizeOf w hok,hhn,hln]
 .have hhn:h.toNat=n:=by omega
  rw[hhn]at hbl;simp[Instr.sliceAt,run_underlying hu,Instr.slice,Instr.sliceBounds,run_sizeOf w hok,hhn,hbl]
 .have hln:l.toNat=0:=by omega
  simp[Instr.sliceAt,run_underlying hu,Instr.slice,Instr.sliceBounds,run_sizeOf w hok,hln,hbc]
 .simp[Instr.sliceAt,run_underlying hu,Instr.slice,Instr.sliceBounds,run_sizeOf w hok,hbc,hbl]
def yA (w:World)(D:Nat->Prop)(H:Hp)(β:Nat->Value):Option AV->Option Value->Prop
 |none,none=>True
 |some x,some v=>aG w D H β x v
 |_,_=>False
theorem uM {D:Nat->Prop}{lo:Option AV}{lov:Option Value}{l:Int}(h:a4H lo=some l)(hl:yA w D H β lo lov):(lov=none/\l=0)\/∃k,lov=some (.int k l):=by
 cases lo with
 |none =>
  cases lov with
  |none=>simp[a4H]at h;exact .inl ⟨rfl,h.symm⟩
  |some v=>exact hl.elim
 |some x =>
  cases lov with
  |none=>exact hl.elim
  |some v =>
   unfold a4H at h;split at h
   .rename_i e;cases e
   .rename_i k n e;injection e with e;subst e;injection h with h;subst h;simp only[yA,aG]at hl;cases hl;exact .inr ⟨_,rfl⟩
   .cases h
theorem mM {D:Nat->Prop}{n:Nat}{lo:Option AV}{lov:Option Value}{l:Int}(h:vU n lo=some l)(hl:yA w D H β lo lov):(lov=none/\l=n)\/∃k,lov=some (.int k l):=by
 cases lo with
 |none =>
  cases lov with
  |none=>simp[vU]at h;exact .inl ⟨rfl,h.symm⟩
  |some v=>exact hl.elim
 |some x =>
  cases lov with
  |none=>exact hl.elim
  |some v =>
   unfold vU at h;split at h
   .rename_i e;cases e
   .rename_i k n e;injection e with e;subst e;injection h with h;subst h;simp only[yA,aG]at hl;cases hl;exact .inr ⟨_,rfl⟩
   .cases h
theorem LK {P:Program}{t e:Nat}(ht:(ti P t).desc=.sl e)(R:Rel G M w0 D0 N f H β a w){x:AV}{v:Value}(hx:aG w (DD H β D0) H β x v){lo hi:Option AV}{lov hiv:Option Value}
  (hlo:yA w (DD H β D0) H β lo lov) (hhi:yA w (DD H β D0) H β hi hiv)
  {r:AR} (hr:Aa (ti P e).size (ti P e).ok H x lo hi=some r) (hc:r.c):r.fz=[]/\r.hs=[]/\∃z,(Instr.sliceAt t v lov hiv none).run P w=.ok z w/\aG w (DD H β D0) H β r.v z:=by
 unfold Aa at hr;split at hr
 .rename_i rows;split at hr
  .rename_i l h el eh;injection hr with hr;subst hr;obtain⟨hok,h0,h1,h2,hsz⟩:=hc;simp only[aG]at hx;obtain⟨ad,cap,rfl,hl1,hl2⟩:=hx.jl;refine⟨rfl,rfl,_,oP ht hok hl1 (uM el hlo) (mM eh hhi) h0 h1 h2,?_⟩;simp only[aG];rw[show h.toNat-l.toNat=(h-l).toNat from by omega];refine hx.part rfl hsz (by omega) ⟨by omega,by omega⟩ λhpos g o hg=>?_;subst hg;rw[if_neg (by omega)];simp[addr_add]
  .cases hr
 .rename_i b0 e0 s0 rows;split at hr
  .rename_i l h el eh;injection hr with hr;subst hr;obtain⟨hok,rfl,h1,h2⟩:=hc;simp only[aG]at hx;obtain⟨rfl,hl1,hl2⟩:=hx.a6N;refine⟨rfl,rfl,_,oP ht hok hl1 (uM el hlo) (mM eh hhi) (Int.le_refl _) h1 h2,?_⟩;simp only[aG];have:=hx.a1E (n:=h.toNat) (by omega);have e1:((if (b0.map (·.2)).getD 0=(0:Int).toNat then (b0.map λp=>(⟨p.1,0,none⟩:Addr)) else (b0.map λp=>(⟨p.1,0,none⟩:Addr)).map (·.add ((0:Int).toNat*(ti P e).size))))=b0.map λp=>(⟨p.1,0,none⟩:Addr):=by
    split
    .rfl
    .cases b0<;>simp[addr_add]
   rw[e1];simpa using this
  .cases hr
 .rename_i k st;split at hr
  .rename_i fz st' e' sz rows hH;split at hr
   .rename_i l h el eh;injection hr with hr;subst hr;obtain⟨hok,hst,hsz,h0,h1,h2⟩:=hc;simp only[aG]at hx;have hv:=hx.2 (by rw[hH];exact hst);subst hv;obtain⟨hs1,hs2,hs3⟩:=R.slice hH;obtain⟨ad,cap,hb,hl1,hl2⟩:=hs2.jl;rw[hb];refine⟨rfl,rfl,_,oP ht hok hl1 (uM el hlo) (mM eh hhi) h0 h1 h2,?_⟩;simp only[aG];refine⟨hx.1,λ_=>?_⟩;rw[show h.toNat-l.toNat=(h-l).toNat from by omega];by_cases hz:(h-l).toNat=0
    .left
     rw[hz];refine⟨rfl,_,_,rfl,by omega,λh0=>⟨rows.length,?_⟩⟩;rw[hb,h0,Nat.sub_zero];cases ad with
     |none=>simp
     |some ad=>simp[Addr.add]
    .right
     rw[hb]at hs2;rw[hb]at hs3;cases had:ad with
     |none=>rw[had]at hs2;cases hs2;simp at h2;omega
     |some ad' =>
      have h0':=hs3 ad' _ _ (by rw[had]);rw[had]at hs2;cases hs2 with
      |nil a' cap' hcap=>simp at h2;omega
      |sl _ g o cap' sz' cell hsz' hl hcap hg hD hc hr =>
       simp only at h0';subst h0';refine⟨g,rows.length,cap,cap-l.toNat,by rw[hb,had],?_,by omega,by omega,λh0=>by omega⟩;rw[if_neg (by omega),hH];simp[addr_add,HC.esz,hsz]
   .cases hr
  .rename_i st' e' rows hH;split at hr
   .rename_i l h el eh;injection hr with hr;subst hr;obtain⟨hok,hst,hsz,h0,h1,h2⟩:=hc;simp only[aG]at hx;have hv:=hx.2 (by rw[hH];exact hst);subst hv;have hnn:=R.nst k _ _ _ hH;obtain⟨ad,cap,hb,hl1,hl2⟩:=R.yR hH;rw[hb];refine⟨rfl,rfl,_,oP ht hok hl1 (uM el hlo) (mM eh hhi) h0 h1 h2,?_⟩;simp only[aG];refine⟨hx.1,λ_=>?_⟩;rw[show h.toNat-l.toNat=(h-l).toNat from by omega];by_cases hz:(h-l).toNat=0
    .left
     rw[hz];refine⟨rfl,_,_,rfl,by omega,λh0=>⟨rows.length,?_⟩⟩;rw[hb,h0,Nat.sub_zero];cases ad with
     |none=>simp
     |some ad=>simp[Addr.add]
    .right
     rcases hnn with ⟨rfl,_⟩|⟨g,cap',cur,hv',_⟩
     .simp at h2;omega
     .rw[hb]at hv';injection hv' with e1 e2 e3;subst e1 e3
      refine⟨g,rows.length,cap,cap-l.toNat,hb,?_,by omega,by omega,λh0=>by omega⟩;rw[if_neg (by omega),hH];simp[addr_add,HC.esz,hsz]
   .cases hr
  .cases hr
 .cases hr
def jJ (T:TI)(i:Nat)(H:Hp)(x:AV):Option AR :=
 match T.desc,x with
 |.st fs,.ip cells=>match fs[i]? with|some (o,sz)=>some ⟨sz≠0,.ip (cells.drop o),[],[],[]⟩|none=>none
 |.st fs,.hp h st k off=>match fs[i]? with|some (o,sz)=>some ⟨sz≠0/\st=(H h).stamp,.hp h st k (off+o),[],[],[h]⟩|none=>none
 |_,_=>none
theorem Aj {P:Program}{s i:Nat}(R:Rel G M w0 D0 N f H β a w){x:AV}{v:Value}(hx:aG w (DD H β D0) H β x v){r:AR}(hr:jJ (ti P s) i H x=some r)(hc:r.c) :
  r.fz=[]/\r.hs=[]/\∃z,(Instr.fieldAt s v i).run P w=.ok z w/\aG w (DD H β D0) H β r.v z:=by
 have key:∀fs o sz g k,(ti P s).desc=.st fs->fs[i]?=some (o,sz)->sz≠0->(Instr.fieldAt s (.pointer (some ⟨g,k,none⟩)) i).run P w=.ok (.pointer (some ⟨g,k+o,none⟩)) w:=by
  intro fs o sz g k hd hf hsz;obtain⟨gs,hu,rfl⟩:=a9E hd;rw[List.getElem?_map]at hf;cases hg:gs.toList[i]? with
  |none=>rw[hg]at hf;cases hf
  |some fl =>
   rw[hg]at hf;injection hf with hf;injection hf with e1 e2;subst e1 e2
   have hg':gs[i]?=some fl:=by rw[<-Array.getElem?_toList];exact hg
   cases hi:P.info? fl.type with
   |none=>rw[hi]at hsz;exact(hsz rfl).elim
   |some ii =>
    rw[hi]at hsz;simp only[Option.map_some,Option.getD_some]at hsz;simp[Instr.fieldAt,run_underlying hu,hg',Instr.sureAddr,fieldPlace,sizeOf,typeInfo,hi,hsz,addr_add]
 unfold jJ at hr;split at hr
 .rename_i fs cells hd;split at hr
  .rename_i o sz hf;injection hr with hr;subst hr;simp only[aG]at hx;obtain⟨g,k,rfl,hD,vs,hrep,hcell⟩:=hx;refine⟨rfl,rfl,_,key _ _ _ _ _ hd hf hc,?_⟩;simp only[aG];refine⟨g,k+o,rfl,λhne=>hD (λe=>hne (by rw[e];simp)),vs.drop o,hrep.drop o,λj c hj=>?_⟩;rw[List.getElem?_drop]at hj;rw[Nat.add_assoc];exact hcell _ _ hj
  .cases hr
 .rename_i fs h st k off hd;split at hr
  .rename_i o sz hf;injection hr with hr;subst hr;simp only[aG]at hx;obtain⟨g,n,cap,hb,rfl⟩:=hx.2 hc.2;refine⟨rfl,rfl,_,key _ _ _ _ _ hd hf hc.1,?_⟩;simp only[aG];exact⟨hx.1,λ_=>⟨g,n,cap,hb,by rw[Nat.add_assoc]⟩⟩
  .cases hr
 .cases hr
def uw (n esz:Nat)(eok:Bool)(H:Hp)(x i:AV):Option AR :=
 match x,i with
 |.hp h st k off,.iv (.int _ i)=>some ⟨eok=true/\0<=i/\i<n/\st=(H h).stamp,.hp h st k (off+i.toNat*esz),[],[],[h]⟩
 |_,_=>none
theorem J3 {P:Program}{t n e:Nat}(ht:(ti P t).desc=.arr n e)(R:Rel G M w0 D0 N f H β a w){x y:AV}{v u:Value}(hx:aG w (DD H β D0) H β x v)(hy:aG w (DD H β D0) H β y u){r:AR}
  (hr:uw n (ti P e).size (ti P e).ok H x y=some r) (hc:r.c):r.fz=[]/\r.hs=[]/\∃z,(Instr.indexAt t v u).run P w=.ok z w/\aG w (DD H β D0) H β r.v z:=by
 have hu:=a9F ht;unfold uw at hr;split at hr
 .rename_i h st k off kk i;injection hr with hr;subst hr;obtain⟨hok,h0,hlt,hst⟩:=hc;simp only[aG]at hx hy;cases hy;obtain⟨g,m,cap,hb,rfl⟩:=hx.2 hst;refine⟨rfl,rfl,_,by simp[Instr.indexAt,asIntOf,run_underlying hu,h0,hlt,run_sizeOf w hok,addr_add,Instr.sureAddr];rfl,?_⟩;simp only[aG];exact⟨hx.1,λ_=>⟨g,m,cap,hb,by rw[Nat.add_assoc]⟩⟩
 .cases hr
def yc (i:Nat)(x:AV):Option AR :=
 match x with
 |.tup l=>some ⟨i<l.length,l.getD i .dead,[],[],[]⟩
 |_=>none
theorem FI {D:Nat->Prop}:∀(l:List AV) (vs:List Value),aS w D H β l vs->∀i,i<l.length->∃v,vs[i]?=some v/\aG w D H β (l.getD i .dead) v
 |[],_,_,i,hi=>by simp at hi
 |x::xs,[],h,i,hi=>by simp[aS]at h
 |x::xs,v::vs,h,0,hi=>by simp only[aS]at h;exact⟨v,rfl,by simpa using h.1⟩
 |x::xs,v::vs,h,i+1,hi=>by
  simp only[aS]at h;have:=FI xs vs h.2 i (by simpa using hi);simpa using this
theorem Ec {P:Program}{i:Nat}{D:Nat->Prop}{x:AV}{v:Value}(hx:aG w D H β x v){r:AR}(hr:yc i x=some r)(hc:r.c) :
  r.fz=[]/\r.hs=[]/\∃z,(Instr.extract v i).run P w=.ok z w/\aG w D H β r.v z:=by
 unfold yc at hr;split at hr
 .rename_i l;injection hr with hr;subst hr;simp only[aG]at hx;obtain⟨vs,rfl,hrep⟩:=hx;obtain⟨z,hz,hrz⟩:=FI _ _ hrep i hc;rw[Array.getElem?_toList]at hz;exact⟨rfl,rfl,z,by simp[Instr.extract,hz],hrz⟩
 .cases hr
def b2e [Zi] (P:Program)(s i:Nat):Option (Nat×Nat×Bool) :=
 match P.underlying s with
 |some (.struct gs)=>match gs[i]? with
  |some fl=>if (ti P fl.type).ok=true then some (fl.offset,(ti P fl.type).size,(ti P fl.type).agg) else none
  |none=>none
 |_=>none
def y9 (p:Option (Nat×Nat×Bool))(x:AV):Option AR :=
 match p,x with
 |some (o,sz,true),.agg cells=>some ⟨o+sz<=cells.length,.agg ((cells.drop o).take sz),[],[],[]⟩
 |some (o,_,false),.agg cells=>some ⟨o<cells.length,.iv (cells.getD o default),[],[],[]⟩
 |_,_=>none
theorem LV {P:Program}{s i:Nat}{D:Nat->Prop}{x:AV}{v:Value}(hx:aG w D H β x v){r:AR}(hr:y9 (b2e P s i) x=some r)(hc:r.c) :
  r.fz=[]/\r.hs=[]/\∃z,(Instr.field s v i).run P w=.ok z w/\aG w D H β r.v z:=by
 unfold b2e at hr;split at hr
 .rename_i gs hu;split at hr
  .rename_i fl hg;by_cases hok:(ti P fl.type).ok=true
   .rw[if_pos hok]at hr;have hrun:∀cs:Array Value,(Instr.field s (.agg cs) i).run P w=(part fl.type cs fl.offset).run P w:=λcs=>by
     simp[Instr.field,run_underlying hu,hg,asAgg]
    unfold y9 at hr;split at hr
    .rename_i o sz cells heq;injection heq with heq;injection heq with e1 e2;injection e2 with e2 e3;subst e1 e2;injection hr with hr;subst hr;simp only[aG]at hx;obtain⟨cs,rfl,hrep⟩:=hx;refine⟨rfl,rfl,.agg (cs.extract fl.offset (fl.offset+(ti P fl.type).size)),?_,?_⟩
     .rw[hrun];simp[part,wP w hok,e3,run_sizeOf w hok]
     .simp only[aG];refine⟨_,rfl,?_⟩;have e:(cs.extract fl.offset (fl.offset+(ti P fl.type).size)).toList=(cs.toList.drop fl.offset).take (ti P fl.type).size:=by
       rw[Array.toList_extract,List.extract_eq_take_drop,Nat.add_sub_cancel_left]
      rw[e];exact(hrep.drop _).take _
    .rename_i o sz cells heq;injection heq with heq;injection heq with e1 e2;injection e2 with e2 e3;subst e1 e2;injection hr with hr;subst hr;simp only[aG]at hx;obtain⟨cs,rfl,hrep⟩:=hx;have hx0:cells[fl.offset]?=some (cells.getD fl.offset default):=by
      have:fl.offset<cells.length:=hc;simp[List.getD,this]
     obtain⟨c,hc0,hrc⟩:=hrep.get fl.offset _ hx0;rw[Array.getElem?_toList]at hc0;refine⟨rfl,rfl,c,?_,?_⟩
     .rw[hrun];simp[part,wP w hok,e3,hc0]
     .simpa only[aG] using hrc
    .cases hr
   .rw[if_neg hok]at hr;simp[y9]at hr
  .simp[y9]at hr
 .simp[y9]at hr
def SK (op:BinOp)(k:IntKind)(a b:Int):Option (Prop×IV) :=
 match op with
 |.add=>some (True,.int k (k.wrap (a+b)))
 |.sub=>some (True,.int k (k.wrap (a-b)))
 |.mul=>some (True,.int k (k.wrap (a*b)))
 |.quo=>some (b≠0,.int k (k.wrap (a.tdiv b)))
 |.rem=>some (b≠0,.int k (a.tmod b))
 |.and=>some (True,.int k (k.wrap (BitVec.ofInt k.bits a&&&BitVec.ofInt k.bits b).toNat))
 |.or=>some (True,.int k (k.wrap (BitVec.ofInt k.bits a|||BitVec.ofInt k.bits b).toNat))
 |.xor=>some (True,.int k (k.wrap (BitVec.ofInt k.bits a ^^^ BitVec.ofInt k.bits b).toNat))
 |.andNot=>some (True,.int k (k.wrap (BitVec.ofInt k.bits a&&&~~~ BitVec.ofInt k.bits b).toNat))
 |.eql=>some (True,.bool (a == b))
 |.neq=>some (True,.bool (a != b))
 |.lss=>some (True,.bool (decide (a<b)))
 |.leq=>some (True,.bool (decide (a<=b)))
 |.gtr=>some (True,.bool (decide (b<a)))
 |.geq=>some (True,.bool (decide (b<=a)))
 |_=>none
def b1H (T:TI)(op:BinOp)(x y:AV):Option AR :=
 match op,x,y with
 |.shl,.iv (.int k a),.iv (.int _ b)=>some ⟨0<=b,.iv (.int k (k.wrap (a*2^(min b.toNat k.bits)))),[],[],[]⟩
 |.shr,.iv (.int k a),.iv (.int _ b)=>some ⟨0<=b,.iv (.int k (a.fdiv (2^(min b.toNat k.bits)))),[],[],[]⟩
 |op,.iv (.int k a),.iv (.int k' b)=>match SK op k a b with|some (c,v)=>some ⟨k=k'/\c,.iv v,[],[],[]⟩|none=>none
 |.eql,.iv (.bool a),.iv (.bool b)=>match T.desc with | .bool=>some ⟨True,.iv (.bool (a == b)),[],[],[]⟩|_=>none
 |.neq,.iv (.bool a),.iv (.bool b)=>match T.desc with | .bool=>some ⟨True,.iv (.bool (!(a == b))),[],[],[]⟩|_=>none
 |.eql,.iv (.sl rows),.oG=>match T.desc with | .sl _=>some ⟨True,if rows.isEmpty then .ub else .iv (.bool false),[],[],[]⟩|_=>none
 |_,_,_=>none
end
section
variable {G:Gh} {M:Nat->Prop} {w0:World} {D0:Nat->Prop} {N:Nat} {f:Fr} {H:Hp} {β:Nat->Value} {a:Act} {w:World}
theorem LZ {P:Program}{op:BinOp}{k:IntKind}{x y:Int}{c:Prop}{v:IV}{t:Nat}(h1:op≠.shl)(h2:op≠.shr)(h:SK op k x y=some (c,v))(hc:c) :
  ∃z,(binOp op t (.int k x) (.int k y)).run P w=.ok z w/\∀D,Rep w D v z:=by
 cases op<;>simp only[SK,Option.some.injEq,Prod.mk.injEq,reduceCtorEq,ne_eq,not_true_eq_false]at h h1 h2<;>obtain⟨e1,e2⟩:=h<;>subst e1 e2
 case quo=>exact⟨.int k (k.wrap (x.tdiv y)),by simp only[binOp,ne_eq,not_true_eq_false,if_false,Op.intDiv,if_neg hc,Sem.run_pure],λ_=>.int ..⟩
 case rem=>exact⟨.int k (x.tmod y),by simp only[binOp,ne_eq,not_true_eq_false,if_false,Op.intDiv,if_neg hc,Sem.run_pure],λ_=>.int ..⟩
 case add=>exact⟨_,by simp only[binOp,ne_eq,not_true_eq_false,if_false,Op.intArith,Sem.run_pure],λ_=>.int ..⟩
 case sub=>exact⟨_,by simp only[binOp,ne_eq,not_true_eq_false,if_false,Op.intArith,Sem.run_pure],λ_=>.int ..⟩
 case mul=>exact⟨_,by simp only[binOp,ne_eq,not_true_eq_false,if_false,Op.intArith,Sem.run_pure],λ_=>.int ..⟩
 case and=>exact⟨_,by simp only[binOp,ne_eq,not_true_eq_false,if_false,Op.intBits,Sem.run_pure],λ_=>.int ..⟩
 case or=>exact⟨_,by simp only[binOp,ne_eq,not_true_eq_false,if_false,Op.intBits,Sem.run_pure],λ_=>.int ..⟩
 case xor=>exact⟨_,by simp only[binOp,ne_eq,not_true_eq_false,if_false,Op.intBits,Sem.run_pure],λ_=>.int ..⟩
 case andNot=>exact⟨_,by simp only[binOp,ne_eq,not_true_eq_false,if_false,Op.intBits,Sem.run_pure],λ_=>.int ..⟩
 all_goals exact⟨_,by simp only[binOp,ne_eq,not_true_eq_false,if_false,Op.intCmp,Sem.run_pure],λ_=>.bool ..⟩
theorem run_equal_bool {P:Program}{t:Nat}(h:P.underlying t=some .bool)(x y:Bool):(Op.equal t (.bool x) (.bool y)).run P w=.ok (x == y) w:=by
 have:∀d,(Op.equalIn (d+1) t (.bool x) (.bool y)).run P w=.ok (x == y) w:=by
  intro d;simp only[Op.equalIn,Sem.run_bind,run_underlying h,Result.andThen_ok,Sem.run_pure]
 exact this 9999
theorem kE {P:Program}{op:BinOp}{t:Nat}{ox oy:Operand}{v u:Value}(hv:v.oneCell'=true)(hn:v≠.nilIface):(eqGuard op t ox oy v u).run P w=.ok () w:=by
 unfold eqGuard;cases op<;>cases v<;>first|(simp at hn;done)|(simp[Value.oneCell']at hv;done)|simp
theorem Gx {P:Program}{t e:Nat}(h:P.underlying t=some (.slice e))(ad:Option Addr)(n cap:Nat):(Op.equal t (.slice ad n cap) (.slice none 0 0)).run P w=.ok ad.isNone w:=by
 have:∀d,(Op.equalIn (d+1) t (.slice ad n cap) (.slice none 0 0)).run P w=.ok ad.isNone w:=by
  intro d;cases ad<;>simp only[Op.equalIn,Sem.run_bind,run_underlying h,Result.andThen_ok,Sem.run_pure]<;>rfl
 exact this 9999
theorem UK {P:Program}{op:BinOp}{t:Nat}{x y:AV}{v u:Value}{D:Nat->Prop}(hx:aG w D H β x v)(hy:aG w D H β y u){r:AR}(hr:b1H (ti P t) op x y=some r)(hc:r.c){ox oy:Operand} :
  r.fz=[]/\r.hs=[]/\∃z,(do eqGuard op t ox oy v u;binOp op t v u:Sem Value).run P w=.ok z w/\aG w D H β r.v z:=by
 unfold b1H at hr;split at hr
 .injection hr with hr;subst hr;simp only[aG]at hx hy;cases hx;cases hy;refine⟨rfl,rfl,_,by simp only[Sem.run_bind,kE (P:=P) (w:=w) (op:=.shl) (v:=.int _ _) rfl (by simp),Result.andThen_ok,binOp,Op.shift,if_neg (Int.not_lt.2 hc),Sem.run_pure];rfl,by simp only[aG];exact .int ..⟩
 .injection hr with hr;subst hr;simp only[aG]at hx hy;cases hx;cases hy;refine⟨rfl,rfl,_,by simp only[Sem.run_bind,kE (P:=P) (w:=w) (op:=.shr) (v:=.int _ _) rfl (by simp),Result.andThen_ok,binOp,Op.shift,if_neg (Int.not_lt.2 hc),Sem.run_pure];rfl,by simp only[aG];exact .int ..⟩
 .rename_i k x k' y hn1 hn2;split at hr
  .rename_i c v' ha;injection hr with hr;subst hr;obtain⟨rfl,hc⟩:=hc;simp only[aG]at hx hy;cases hx;cases hy;obtain⟨z,hz,hrep⟩:=LZ (P:=P) (w:=w) (t:=t) (by simpa using hn1) (by simpa using hn2) ha hc;refine⟨rfl,rfl,z,?_,by simp only[aG];exact hrep _⟩;simp only[Sem.run_bind,kE (P:=P) (w:=w) (v:=.int _ _) rfl (by simp),Result.andThen_ok,hz]
  .cases hr
 .split at hr
  .rename_i hd;injection hr with hr;subst hr;simp only[aG]at hx hy;cases hx;cases hy;refine⟨rfl,rfl,_,by simp only[Sem.run_bind,kE (P:=P) (w:=w) (v:=.bool _) rfl (by simp),Result.andThen_ok,binOp,run_equal_bool (VW hd),Sem.run_pure];rfl,by simp only[aG];exact .bool ..⟩
  .cases hr
 .split at hr
  .rename_i hd;injection hr with hr;subst hr;simp only[aG]at hx hy;cases hx;cases hy;refine⟨rfl,rfl,_,by simp only[Sem.run_bind,kE (P:=P) (w:=w) (v:=.bool _) rfl (by simp),Result.andThen_ok,binOp,run_equal_bool (VW hd),Sem.run_pure];rfl,by simp only[aG];exact .bool ..⟩
  .cases hr
 .split at hr
  .rename_i hd;injection hr with hr;subst hr;simp only[aG]at hx hy;subst hy;obtain⟨ad,n,cap,rfl⟩:∃ad n cap,v=.slice ad n cap:=by cases hx<;>exact⟨_,_,_,rfl⟩
   refine⟨rfl,rfl,.bool ad.isNone,by simp only[Sem.run_bind,kE (P:=P) (w:=w) (v:=.slice _ _ _) rfl (by simp),Result.andThen_ok,binOp,Gx (mZ hd),Sem.run_pure],?_⟩;split
   .simp only[aG];exact⟨_,rfl⟩
   .rename_i hne;simp only[aG];cases hx with
    |nil=>exact(hne rfl).elim
    |sl=>exact .bool ..
  .cases hr
 .cases hr
def aUn (op:UnOp)(x:AV):Option AR :=
 match op,x with
 |.neg,.iv (.int k n)=>some ⟨True,.iv (.int k (k.wrap (0-n))),[],[],[]⟩
 |.xor,.iv (.int k n)=>some ⟨True,.iv (.int k (k.wrap (BitVec.ofInt k.bits (if k.signed then -1 else k.max) ^^^ BitVec.ofInt k.bits n).toNat)),[],[],[]⟩
 |.not,.iv (.bool b)=>some ⟨True,.iv (.bool (!b)),[],[],[]⟩
 |_,_=>none
theorem ZL {P:Program}{op:UnOp}{x:AV}{v:Value}{D:Nat->Prop}(hx:aG w D H β x v){r:AR}(hr:aUn op x=some r)(hc:r.c) :
  r.fz=[]/\r.hs=[]/\∃z,(Op.unary op v).run P w=.ok z w/\aG w D H β r.v z:=by
 unfold aUn at hr;split at hr
 .injection hr with hr;subst hr;simp only[aG]at hx;cases hx;exact⟨rfl,rfl,_,by simp only[Op.unary,Op.intArith,Sem.run_pure];rfl,by simp only[aG];exact .int ..⟩
 .injection hr with hr;subst hr;simp only[aG]at hx;cases hx;exact⟨rfl,rfl,_,by simp only[Op.unary,Op.intBits,Sem.run_pure];rfl,by simp only[aG];exact .int ..⟩
 .injection hr with hr;subst hr;simp only[aG]at hx;cases hx;exact⟨rfl,rfl,_,by simp only[Op.unary,Sem.run_pure];rfl,by simp only[aG];exact .bool ..⟩
 .cases hr
def ZM (T S:TI)(x:AV):Option AR :=
 match T.desc,x with
 |.int k,.iv (.int _ n)=>some ⟨S.ok=true,.iv (.int k (k.wrap n)),[],[],[]⟩
 |_,_=>none
theorem P8 {P:Program}{s d:Nat}{x:AV}{v:Value}{D:Nat->Prop}(hx:aG w D H β x v){r:AR}(hr:ZM (ti P d) (ti P s) x=some r)(hc:r.c) :
  r.fz=[]/\r.hs=[]/\∃z,(convert s d v).run P w=.ok z w/\aG w D H β r.v z:=by
 unfold ZM at hr;split at hr
 .rename_i k k' n hd;injection hr with hr;subst hr;simp only[aG]at hx;cases hx;obtain⟨i,ds,_,hds,_⟩:=Tn hc;have hu:=a4i hd;refine⟨rfl,rfl,.int k (k.wrap n),?_,by simp only[aG];exact .int ..⟩;simp only[convert,Sem.run_bind,run_underlying hds,run_underlying hu,Result.andThen_ok];rfl
 .cases hr
def b1G (mn:Bool)(x y:AV):Option AR :=
 match x,y with
 |.iv (.int k a),.iv (.int k' b)=>some ⟨k=k',.iv (.int k (if mn then min a b else max a b)),[],[],[]⟩
 |_,_=>none
theorem FK {P:Program}{ts:Array TypeId}{ty:Nat}{x y:AV}{v u:Value}{D:Nat->Prop}(hx:aG w D H β x v)(hy:aG w D H β y u){mn:Bool}{r:AR}(hr:b1G mn x y=some r)(hc:r.c) :
  r.fz=[]/\r.hs=[]/\∃z,(if mn then Builtin.min_ ts ty #[v,u] else Builtin.max_ ts ty #[v,u]:Sem Value).run P w=.ok z w/\aG w D H β r.v z:=by
 unfold b1G at hr;split at hr
 .rename_i k a k' b;injection hr with hr;subst hr;simp only[aG]at hx hy;cases hx;cases hy;simp only at hc;subst hc;refine⟨rfl,rfl,.int k (if mn then min a b else max a b),?_,by simp only[aG];exact .int ..⟩;cases mn
  .simp only[Bool.false_eq_true,if_false,Builtin.max_,List.foldlM,Builtin.max2,bind_pure,Sem.run_pure]
   congr 2;simp only[Int.max_def];split<;>split<;>omega
  .simp only[if_true,Builtin.min_,List.foldlM,Builtin.min2,bind_pure,Sem.run_pure]
   congr 2;simp only[Int.min_def];split<;>split<;>omega
 .cases hr
def lC (H:Hp):List AV->Option (Prop×List (List IV)×List Nat)
 |[]=>some (True,[],[])
 |x::xs=>match oL H x,lC H xs with
  |some (c,cs,fz),some (c',css,fz')=>some (c/\c',cs::css,fz++fz')
  |_,_=>none
theorem nK (fz:List Nat):∀(H:Hp) (k:Nat),(aQ fz H k).gB↔k∉fz/\(H k).gB:=by
 induction fz with
 |nil=>intro H k;simp[aQ]
 |cons h r ih =>
  intro H k;simp only[aQ,ih,List.mem_cons,not_or];by_cases e:k=h
  .subst e;simp[aO,HC.Yv]
  .simp[aJ _ _ e,e]
theorem yB (fz fz':List Nat)(H:Hp)(h:∀k,k∈fz->k∈fz')(b:Nat)(hb:DD (aQ fz' H) β D0 b):DD (aQ fz H) β D0 b:=by
 rcases hb with h1|⟨k,hm,hk⟩
 .exact .inl h1
 .have:=(nK fz' H k).1 hm;exact .inr ⟨k,(nK fz H k).2 ⟨λh'=>this.1 (h k h'),this.2⟩,hk⟩
theorem dh.of_sub {D D':Nat->Prop}(h:∀b,D' b->D b):dh w D w D':=⟨Nat.le_refl _,λb _ hb=>h b hb,λ_ _ _ _=>rfl⟩
inductive jh (w:World) (D:Nat->Prop) (H:Hp) (β:Nat->Value):List AV->List Value->Prop
 |nil:jh w D H β [] []
 |cons {x:AV} {v:Value} {xs:List AV} {vs:List Value}:aG w D H β x v->jh w D H β xs vs->jh w D H β (x::xs) (v::vs)
inductive jU (w:World) (D:Nat->Prop):List (List IV)->List Value->Prop
 |nil:jU w D [] []
 |cons {cs:List IV} {v:Value} {css:List (List IV)} {vs:List Value}:eF w D cs v.cells.toList->jU w D css vs->jU w D (cs::css) (v::vs)
theorem jU.mono {D D':Nat->Prop}{w':World}(g:dh w D w' D'):∀{css:List (List IV)} {vs:List Value},jU w D css vs->jU w' D' css vs
 |_,_,.nil=>.nil
 |_,_,.cons h t=>.cons (h.mono g) (jU.mono g t)
theorem nV (R:Rel G M w0 D0 N f H β a w):∀{xs:List AV} {vs:List Value} {c:Prop} {css:List (List IV)} {fz:List Nat},jh w (DD H β D0) H β xs vs->lC H xs=some (c,css,fz)->c->jU w (DD (aQ fz H) β D0) css vs
 |[],[],c,css,fz,_,ht,hc=>by
  simp only[lC]at ht;injection ht with ht;injection ht with e1 e2;injection e2 with e2 e3;subst e1 e2 e3
  exact .nil
 |x::xs,v::vs,c,css,fz,hx,ht,hc=>by
  cases hx with
  |cons hx hxs =>
  simp only[lC]at ht;split at ht
  .rename_i c1 cs1 fz1 c2 cs2 fz2 h1 h2;injection ht with ht;injection ht with e1 e2;injection e2 with e2 e3;subst e1 e2 e3;exact .cons ((jF R hx h1 hc.1).mono (dh.of_sub (yB _ _ H (by simp +contextual)))) ((nV R hxs h2 hc.2).mono (dh.of_sub (yB _ _ H (by simp +contextual))))
  .cases ht
 |[],_::_,_,_,_,hx,_,_=>by cases hx
 |_::_,[],_,_,_,hx,_,_=>by cases hx
def lay (place:Nat->Option (Nat×Nat))(cells:List IV):List (Nat×List IV)->Option (Prop×List IV)
 |[]=>some (True,cells)
 |(i,cs)::rest=>match place i with
  |none=>none
  |some (off,size)=>match lay place (splice cells off cs) rest with
   |some (c,r)=>some ((cs.length=size/\off+cs.length<=cells.length)/\c,r)
   |none=>none
theorem foldl_set:∀(cs:List Value) (off j:Nat) (arr:Array Value),off+j+cs.length<=arr.size ->
  (cs.zipIdx j).foldl (λ(acc:Array Value) (x:Value×Nat)=>acc.setIfInBounds (off+x.2) x.1) arr=(arr.toList.take (off+j)++cs++arr.toList.drop (off+j+cs.length)).toArray
 |[],off,j,arr,_=>by simp
 |c::cs,off,j,arr,h=>by
  simp only[List.zipIdx_cons,List.foldl_cons];simp only[List.length_cons]at h;rw[foldl_set cs off (j+1) _ (by simp;omega)];have e:=list_seg_step arr.toList (off+j) c cs (by simp;omega);simpa [Array.toList_setIfInBounds,Nat.add_assoc] using e
theorem xG {D:Nat->Prop}{place:Nat->Option (Nat×Nat)}:∀{ps:List (Nat×List IV)} {vs:List (Nat×Value)} {cells:List IV} {arr:Array Value} {c:Prop} {r:List IV},
  eF w D cells arr.toList->ps.map (·.1)=vs.map (·.1)->jU w D (ps.map (·.2)) (vs.map (·.2))->lay place cells ps=some (c,r)->c ->
  ∃arr',Instr.fill place arr vs=some arr'/\eF w D r arr'.toList
 |[],[],cells,arr,c,r,hr,_,_,hl,hc=>by
  simp only[lay]at hl;injection hl with hl;injection hl with e1 e2;subst e2
  exact⟨arr,rfl,hr⟩
 |(i,cs)::ps,(i',v)::vs,cells,arr,c,r,hr,hi,hp,hl,hc=>by
  simp only[List.map_cons,List.cons.injEq]at hi;obtain⟨rfl,hi⟩:=hi;simp only[List.map_cons]at hp;cases hp with
  |cons hcs hps =>
  simp only[lay]at hl;split at hl
  .cases hl
  .rename_i off size hpl;split at hl
   .rename_i c' r' hl';injection hl with hl;injection hl with e1 e2;subst e1 e2;obtain⟨⟨hsz,hoff⟩,hc'⟩:=hc;have hlen:=hcs.length;have hlen':=hr.length;have hsz':v.cells.size=size:=by rw[<-hsz,hlen];simp
    have hfit:off+v.cells.size<=arr.size:=by rw[hsz',<-hsz];rw[hlen']at hoff;simpa using hoff
    have hfold:=foldl_set v.cells.toList off 0 arr (by simpa using hfit);simp only[Nat.add_zero]at hfold;have hrep:eF w D (splice cells off cs) ((arr.toList.take off++v.cells.toList++arr.toList.drop (off+v.cells.toList.length)).toArray).toList:=vG off hr hcs;obtain⟨arr',h1,h2⟩:=xG hrep hi hps hl' hc';refine⟨arr',?_,h2⟩;have hz:(Array.foldl (λ(cs:Array Value) (x:Value×Nat)=>cs.setIfInBounds (off+x.2) x.1) arr v.cells.zipIdx)=(arr.toList.take off++v.cells.toList++arr.toList.drop (off+v.cells.toList.length)).toArray:=by
     rw[<-hfold,<-Array.foldl_toList,Array.toList_zipIdx]
    simp only[Instr.fill,hpl];rw[if_neg (by simp[hsz'];omega)];rw[<-h1]
    congr 1
   .cases hl
 |[],_::_,_,_,_,_,_,hi,_,_,_=>by simp at hi
 |_::_,[],_,_,_,_,_,hi,_,_,_=>by simp at hi
end
section
variable {G:Gh} {M:Nat->Prop} {w0:World} {D0:Nat->Prop} {N:Nat} {f:Fr} {H:Hp} {β:Nat->Value} {a:Act} {w:World}
theorem BR {P:Program}:∀(fs:List Field),(∀f∈fs,((P.info? f.type).map (·.size)).getD 0≠0) ->
  (fs.mapM λf=>Prod.mk f.offset <$> sizeOf f.type).run P w=.ok (fs.map λf=>(f.offset,((P.info? f.type).map (·.size)).getD 0)) w
 |[],_=>by simp
 |f::fs,h=>by
  have h0:=h f (by simp);have ih:=BR fs λf hf=>h f (by simp[hf])
  cases hi:P.info? f.type with
  |none=>rw[hi]at h0;simp at h0
  |some i =>
   have hs:(sizeOf f.type).run P w=.ok i.size w:=by simp[sizeOf,typeInfo,hi]
   simp[List.mapM_cons,hs,ih,hi]
def Ad (T:TI)(H:Hp)(idx:List Nat)(xs:List AV):Option AR :=
 match T.desc,lC H xs with
 |.st fs,some (c,css,fz)=>match lay (λi=>fs[i]?) T.zero (idx.zip css) with
  |some (c',r)=>some ⟨c/\c'/\T.zok=true/\(∀p∈fs,p.2≠0),.agg r,fz,[],[]⟩
  |none=>none
 |_,_=>none
theorem uD:∀{xs:List AV} {c:Prop} {css:List (List IV)} {fz:List Nat},lC H xs=some (c,css,fz)->css.length=xs.length
 |[],c,css,fz,h=>by simp only[lC]at h;injection h with h;injection h with e1 e2;injection e2 with e2 e3;subst e2;rfl
 |x::xs,c,css,fz,h=>by
  simp only[lC]at h;split at h
  .rename_i h1 h2;injection h with h;injection h with e1 e2;injection e2 with e2 e3;subst e2;simp[uD h2]
  .cases h
theorem uh:∀{xs:List AV} {vs:List Value} {D:Nat->Prop},jh w D H β xs vs->xs.length=vs.length
 |_,_,_,.nil=>rfl
 |_,_,_,.cons _ t=>by simp[uh t]
theorem LW {P:Program}{t:Nat}(R:Rel G M w0 D0 N f H β a w){idx:List Nat}{xs:List AV}{vs:List Value}(hil:idx.length=xs.length)(hx:jh w (DD H β D0) H β xs vs){r:AR}(hr:Ad (ti P t) H idx xs=some r)(hc:r.c) :
  r.hs=[]/\∃z,(Instr.build t (idx.zip vs).toArray).run P w=.ok z w/\aG w (DD (aQ r.fz H) β D0) (aQ r.fz H) β r.v z:=by
 unfold Ad at hr;split at hr
 .rename_i fs c css fz hd ht;split at hr
  .rename_i c' res hl;injection hr with hr;subst hr;obtain⟨hc1,hc2,hz,hfs⟩:=hc;have hp:=nV R hx ht hc1;obtain⟨z,hzv,h1,h0,h2,h3⟩:=iZ (P:=P) w hz;have hlc:=uD ht;have hlv:=uh hx;have hm1:(idx.zip css).map (·.1)=idx:=by simp[List.map_fst_zip (by omega:idx.length<=css.length)]
   have hm2:(idx.zip vs).map (·.1)=idx:=by simp[List.map_fst_zip (by omega:idx.length<=vs.length)]
   have hm3:(idx.zip css).map (·.2)=css:=by simp[List.map_snd_zip (by omega:css.length<=idx.length)]
   have hm4:(idx.zip vs).map (·.2)=vs:=by simp[List.map_snd_zip (by omega:vs.length<=idx.length)]
   obtain⟨arr',Ah,hrep⟩:=xG (w:=w) (D:=DD (aQ fz H) β D0) (arr:=z.cells) (vs:=idx.zip vs) (by rw[h2];exact xR w _ _ h3) (by rw[hm1,hm2]) (by rw[hm3,hm4];exact hp) hl hc2;refine⟨rfl,.agg arr',?_,by simp only[aG];exact⟨arr',rfl,hrep⟩⟩;obtain⟨gs,hu,b3M⟩:=a9E hd;have hpl:=BR (P:=P) (w:=w) gs.toList (by intro fl hfl;have:=hfs (fl.offset,((P.info? fl.type).map (·.size)).getD 0) (by rw[b3M];exact List.mem_map.2 ⟨fl,hfl,rfl⟩);exact this);have b0N:(λ(i:Nat)=>fs[i]?)=(λ(i:Nat)=>(fs.toArray:Array (Nat×Nat))[i]?):=by funext i;simp
   rw[b0N,b3M]at Ah;simp only[Instr.build,Sem.run_bind,hzv,Result.andThen_ok,run_underlying hu,Array.mapM_eq_mapM_toList];simp only[bind_pure_comp,Sem.run_map,hpl,Result.andThen_ok];rw[Ah];rfl
  .cases hr
 .cases hr
def iW (T:TI)(H:Hp)(e d n:Nat)(idx:List Nat)(xs:List AV):Option AR :=
 match lC H xs with
 |some (c,css,fz)=>some ⟨c/\T.ok=true/\T.zok=true/\n*T.size<=16777216/\d∉fz/\(∀cs∈css,cs.length=T.size)/\idx=List.range n,.hs d ((H d).stamp+1),fz,[(d,.blk false ((H d).stamp+1) e T.size css)],[]⟩
 |none=>none
theorem D5 {D:Nat->Prop}{sz:Nat}:∀(css:List (List IV)) (b:Nat) (cells:List IV),(∀cs∈css,cs.length=sz)->cells.length=(b+css.length)*sz ->
  ∃c,lay (λi=>some (i*sz,sz)) cells ((List.range' b css.length).zip css)=some (c,cells.take (b*sz)++css.flatten)/\c
 |[],b,cells,_,hl=>by
  refine⟨True,?_,trivial⟩;simp[lay];rw[List.take_of_length_le (by simp at hl;omega)]
 |cs::css,b,cells,h,hl=>by
  have h0:=h cs (by simp);have e:(b+(cs::css).length)*sz=b*sz+sz+css.length*sz:=by simp[Nat.add_mul];omega
  rw[e]at hl;obtain⟨c,h1,h2⟩:=D5 (D:=D) css (b+1) (splice cells (b*sz) cs) (λcs hcs=>h cs (by simp[hcs])) (by simp[splice,hl,h0,Nat.add_mul];omega);simp only[List.length_cons,List.range'_succ,List.zip_cons_cons,lay,h1];have hkey:(splice cells (b*sz) cs).take ((b+1)*sz)++css.flatten=cells.take (b*sz)++(cs::css).flatten:=by
   simp only[List.flatten_cons,splice];rw[show (b+1)*sz=b*sz+cs.length from by rw[h0,Nat.add_mul];omega,<-List.append_assoc]
   congr 1
   have hl2:(cells.take (b*sz)++cs).length=b*sz+cs.length:=by simp;omega
   rw[<-hl2,List.take_left]
  rw[hkey];exact⟨_,rfl,⟨h0,by rw[hl,h0];omega⟩,h2⟩
theorem jU.len {D:Nat->Prop}:∀{css:List (List IV)} {vs:List Value},jU w D css vs->css.length=vs.length
 |_,_,.nil=>rfl
 |_,_,.cons _ t=>by simp[t.len]
theorem DR {P:Program}{t e d n:Nat}(ht:(ti P t).desc=.sl e)(R:Rel G M w0 D0 N f H β a w){idx:List Nat}{xs:List AV}{vs:List Value}(hil:idx.length=xs.length)(hx:jh w (DD H β D0) H β xs vs){c:Prop}{css:List (List IV)}{fz:List Nat}(htp:lC H xs=some (c,css,fz))(hc:c/\(ti P e).ok=true/\(ti P e).zok=true/\n*(ti P e).size<=16777216/\(∀cs∈css,cs.length=(ti P e).size)/\idx=List.range n) :
  ∃arr':Array Value,(Instr.buildSlice t n (idx.zip vs).toArray).run P w=.ok (.slice (some ⟨w.heap.size,0,none⟩) n n) (w.alloc (.cells arr' e))/\arr'.size=n*(ti P e).size/\eF w (DD (aQ fz H) β D0) css.flatten arr'.toList/\css.length=n/\n<=maxLen:=by
 obtain⟨hc1,hok,hz,hn,hcs,hidx⟩:=hc;have hp:=nV R hx htp hc1;have R1:=R.aQ fz;obtain⟨z,hzv,h1,h0,h2,h3⟩:=iZ (P:=P) w hz;have hlc:=uD htp;have hlv:=uh hx;have hln:css.length=n:=by rw[hlc,<-hil,hidx];simp
 have hu:=mZ ht;have hm1:(idx.zip css).map (·.1)=idx:=by simp[List.map_fst_zip (by omega:idx.length<=css.length)]
 have hm2:(idx.zip vs).map (·.1)=idx:=by simp[List.map_fst_zip (by omega:idx.length<=vs.length)]
 have hm3:(idx.zip css).map (·.2)=css:=by simp[List.map_snd_zip (by omega:css.length<=idx.length)]
 have hm4:(idx.zip vs).map (·.2)=vs:=by simp[List.map_snd_zip (by omega:vs.length<=idx.length)]
 have Og:=CX (zi:=zi) (w:=w) (D:=DD (aQ fz H) β D0) h3 (by omega) n n (Nat.le_refl _);have hsize:((Array.range (n*z.cells.size)).map (λi=>z.cells[i%z.cells.size]!)).toList.length=n*z.cells.size:=by simp
 rw[List.take_of_length_le (by rw[hsize];exact Nat.le_refl _)]at Og;obtain⟨cc,Yl,hcc⟩:=D5 (D:=λ_=>False) css 0 (List.replicate n (z.cells.toList.map OE)).flatten hcs (by rw[Og.length,hsize,h1,Nat.zero_add,hln]);rw[show List.range' 0 css.length=idx from by rw[hidx,List.range_eq_range',hln]]at Yl;simp only[Nat.zero_mul,List.take_zero,List.nil_append]at Yl;obtain⟨arr',Ah,hrep⟩:=xG (w:=w) (D:=DD (aQ fz H) β D0) (arr:=(Array.range (n*z.cells.size)).map (λi=>z.cells[i%z.cells.size]!)) (vs:=idx.zip vs) Og (by rw[hm1,hm2]) (by rw[hm3,hm4];exact hp) Yl hcc;have b2d:arr'.size=n*(ti P e).size:=by
  have:=hrep.length;rw[dK css hcs,hln]at this;simpa using this.symm
 have hnm:n<=maxLen:=by simp only[maxLen];have:=Nat.le_mul_of_pos_right n (show 0<(ti P e).size by rw[<-h1];omega);omega
 refine⟨arr',?_,b2d,hrep,hln,hnm⟩;have hbig:¬(n*(ti P e).size>2^24):=by omega
 simp only[Instr.buildSlice,Sem.run_bind,run_underlying hu,Result.andThen_ok,run_sizeOf w hok,hbig,if_false,Sem.run_pure];by_cases hn0:n*(ti P e).size=0
 .have e0:(Array.range (n*z.cells.size)).map (λi=>z.cells[i%z.cells.size]!) = #[]:=by rw[h1,hn0];simp
  rw[e0]at Ah;simp only[hn0,if_true,Sem.run_pure,Result.andThen_ok];have e1:∀g:Nat->Value,(Array.range 0).map g = #[]:=λg=>by simp
  simp only[e1,Sem.run_bind,Sem.run_pure,Result.andThen_ok];rw[Ah];simp only[newRow,Sem.run_bind,run_newObj,Result.andThen_ok,Sem.run_pure];rfl
 .rw[h1]at Ah;simp only[hn0,if_false,Sem.run_bind,hzv,Sem.run_pure,Result.andThen_ok,h1];rw[Ah];simp only[newRow,Sem.run_bind,run_newObj,Result.andThen_ok,Sem.run_pure];rfl
theorem kM {P:Program}{t e d n:Nat}(ht:(ti P t).desc=.sl e)(R:Rel G M w0 D0 N f H β a w){idx:List Nat}{xs:List AV}{vs:List Value}(hil:idx.length=xs.length)(hx:jh w (DD H β D0) H β xs vs)(hd:d<N){r:AR}(hr:iW (ti P e) H e d n idx xs=some r)(hc:r.c) :
  ∃z w' β',(Instr.buildSlice t n (idx.zip vs).toArray).run P w=.ok z w'/\Rel G M w0 D0 N (iY f (some d) r.v) (dA r.hs (aQ r.fz H)) β' (a.put (some d) z) w':=by
 unfold iW at hr;split at hr
 .rename_i c css fz htp;injection hr with hr;subst hr;obtain⟨hc1,hok,hz,hn,hdf,hcs,hidx⟩:=hc;have hp:=nV R hx htp hc1;have R1:=R.aQ fz;obtain⟨z,hzv,h1,h0,h2,h3⟩:=iZ (P:=P) w hz;have hlc:=uD htp;have hlv:=uh hx;have hln:css.length=n:=by rw[hlc,<-hil,hidx];simp
  have hu:=mZ ht;have hm1:(idx.zip css).map (·.1)=idx:=by simp[List.map_fst_zip (by omega:idx.length<=css.length)]
  have hm2:(idx.zip vs).map (·.1)=idx:=by simp[List.map_fst_zip (by omega:idx.length<=vs.length)]
  have hm3:(idx.zip css).map (·.2)=css:=by simp[List.map_snd_zip (by omega:css.length<=idx.length)]
  have hm4:(idx.zip vs).map (·.2)=vs:=by simp[List.map_snd_zip (by omega:vs.length<=idx.length)]
  have Og:=CX (zi:=zi) (w:=w) (D:=DD (aQ fz H) β D0) h3 (by omega) n n (Nat.le_refl _);have hsize:((Array.range (n*z.cells.size)).map (λi=>z.cells[i%z.cells.size]!)).toList.length=n*z.cells.size:=by simp
  rw[List.take_of_length_le (by rw[hsize];exact Nat.le_refl _)]at Og;obtain⟨cc,Yl,hcc⟩:=D5 (D:=λ_=>False) css 0 (List.replicate n (z.cells.toList.map OE)).flatten hcs (by rw[Og.length,hsize,h1,Nat.zero_add,hln]);rw[show List.range' 0 css.length=idx from by rw[hidx,List.range_eq_range',hln]]at Yl;simp only[Nat.zero_mul,List.take_zero,List.nil_append]at Yl;obtain⟨arr',Ah,hrep⟩:=xG (w:=w) (D:=DD (aQ fz H) β D0) (arr:=(Array.range (n*z.cells.size)).map (λi=>z.cells[i%z.cells.size]!)) (vs:=idx.zip vs) Og (by rw[hm1,hm2]) (by rw[hm3,hm4];exact hp) Yl hcc;have b2d:arr'.size=n*(ti P e).size:=by
   have:=hrep.length;rw[dK css hcs,hln]at this;simpa using this.symm
  obtain⟨β',R'⟩:=R1.alloc (h:=d) (e:=e) (sz:=(ti P e).size) (cap:=n) (st:=(H d).stamp+1) (cur:=arr') (rows:=css) (dst:=some d) (x:=.hs d ((H d).stamp+1)) (val:=.slice (some ⟨w.heap.size,0,none⟩) n n)
   (by rw[nJ hdf];omega) hcs (by omega) (by simp only[maxLen];have:=Nat.le_mul_of_pos_right n (show 0<(ti P e).size by rw[<-h1];omega);omega) b2d
   (by rw[List.take_of_length_le (by rw[hln];exact Nat.le_of_eq (by simpa using b2d))];exact hrep)
   (λβ' hb w' D=>by
    simp only[aG,aO,HC.stamp];exact⟨Nat.le_refl _,λ_=>by rw[hb,hln]⟩) (by rintro _ ⟨⟩;exact hd)
  refine⟨.slice (some ⟨w.heap.size,0,none⟩) n n,w.alloc (.cells arr' e),β',?_,R'⟩;have hbig:¬(n*(ti P e).size>2^24):=by omega
  simp only[Instr.buildSlice,Sem.run_bind,run_underlying hu,Result.andThen_ok,run_sizeOf w hok,hbig,if_false,Sem.run_pure];by_cases hn0:n*(ti P e).size=0
  .have e0:(Array.range (n*z.cells.size)).map (λi=>z.cells[i%z.cells.size]!) = #[]:=by rw[h1,hn0];simp
   rw[e0]at Ah;simp only[hn0,if_true,Sem.run_pure,Result.andThen_ok];have e1:∀g:Nat->Value,(Array.range 0).map g = #[]:=λg=>by simp
   simp only[e1,Sem.run_bind,Sem.run_pure,Result.andThen_ok];rw[Ah];simp only[newRow,Sem.run_bind,run_newObj,Result.andThen_ok,Sem.run_pure];rfl
  .rw[h1]at Ah;simp only[hn0,if_false,Sem.run_bind,hzv,Sem.run_pure,Result.andThen_ok,h1];rw[Ah];simp only[newRow,Sem.run_bind,run_newObj,Result.andThen_ok,Sem.run_pure];rfl
 .cases hr
end
section
variable {G:Gh} {M:Nat->Prop} {w0:World} {D0:Nat->Prop} {N:Nat} {f:Fr} {H:Hp} {β:Nat->Value} {a:Act} {w:World}
def kZ (H:Hp):AV->Option (Prop×List (List IV)×List Nat)
 |.iv (.sl rows)=>some (True,rows,[])
 |.iv (.own _ _ _ rows)=>some (True,rows,[])
 |.oG=>some (True,[],[])
 |.hs h st=>match H h with | .blk _ st' _ _ rows=>some (st=st',rows,[h])|_=>none
 |.hv h st off len=>match H h with | .blk _ st' _ _ rows=>some (st=st'/\off+len<=rows.length,(rows.drop off).take len,[h])|_=>none
 |_=>none
theorem zQ {sz:Nat}(rows:List (List IV))(off len:Nat)(h:∀r∈rows,r.length=sz)(hl:off+len<=rows.length):((rows.drop off).take len).flatten=(rows.flatten.drop (off*sz)).take (len*sz):=by
 have e:rows=rows.take off++((rows.drop off).take len++(rows.drop off).drop len):=by rw[List.take_append_drop,List.take_append_drop]
 have h1:(rows.take off).flatten.length=off*sz:=by rw[dK (sz:=sz) _ λr hr=>h r (List.mem_of_mem_take hr)];rw[List.length_take,Nat.min_eq_left (by omega)]
 have h2:((rows.drop off).take len).flatten.length=len*sz:=by rw[dK (sz:=sz) _ λr hr=>h r (List.mem_of_mem_drop (List.mem_of_mem_take hr))];rw[List.length_take,List.length_drop,Nat.min_eq_left (by omega)]
 have e2:rows.flatten=(rows.take off).flatten++(((rows.drop off).take len).flatten++((rows.drop off).drop len).flatten):=by
  conv=>lhs;rw[e]
  simp[List.flatten_append]
 rw[e2,<-h1,List.drop_left,<-h2,List.take_left]
theorem FN.part {D:Nat->Prop}{sz:Nat}{rows:List (List IV)}{ad:Option Addr}(h:FN w D ad sz rows){off len:Nat}(hl:off+len<=rows.length){ad':Option Addr}(had:0<len->∀g o,ad=some ⟨g,o,none⟩->ad'=some ⟨g,o+off*sz,none⟩) :
  FN w D ad' sz ((rows.drop off).take len):=by
 obtain⟨news,h1,h2,h3⟩:=h;refine⟨(news.drop (off*sz)).take (len*sz),?_,λr hr=>h2 r (List.mem_of_mem_drop (List.mem_of_mem_take hr)),λhne=>?_⟩
 .rw[zQ rows off len h2 hl];exact(h1.drop _).take _
 .have hlen:0<len:=by
   rcases Nat.eq_zero_or_pos len with h0|h0
   .subst h0;simp at hne
   .exact h0
  obtain⟨g,o,hg,hc⟩:=h3 (λe=>by rw[e]at hl;simp at hl;omega);refine⟨g,o+off*sz,had hlen g o hg,λj u hj=>?_⟩;rw[List.getElem?_take]at hj;split at hj
  .rw[List.getElem?_drop]at hj;rw[Nat.add_assoc];exact hc _ u hj
  .cases hj
theorem Rel.EF (R:Rel G M w0 D0 N f H β a w){h st e sz:Nat}{fz:Bool}{rows:List (List IV)}(hH:H h=.blk fz st e sz rows) :
  ∃ad cap,β h=.slice ad rows.length cap/\rows.length<=cap/\cap<=maxLen/\FN w (DD H β D0) ad sz rows:=by
 cases fz with
 |true =>
  obtain⟨h1,h2,h3⟩:=R.frz h _ _ _ _ hH;exact h2.EF h1
 |false =>
  obtain⟨h1,h2⟩:=R.own h _ _ _ _ hH;rcases h2 with ⟨rfl,hb⟩|⟨g,cap,cur,hv,hB,hg,h3,h4,h5,h6⟩
  .exact⟨none,0,hb,Nat.zero_le _,Nat.zero_le _,[],by simp[eF],by simp,λh=>(h rfl).elim⟩
  .refine⟨_,cap,hv,h3,h4,_,h6,h1,λ_=>⟨g,0,rfl,λj u hj=>?_⟩⟩;rw[Nat.zero_add,cell_of_row w g j cur _ (0,0) hg];rw[List.getElem?_take]at hj;split at hj
   .simpa using hj
   .cases hj
theorem jO (R:Rel G M w0 D0 N f H β a w){y:AV}{u:Value}(hy:aG w (DD H β D0) H β y u){c:Prop}{rows:List (List IV)}{rd:List Nat}(hs:kZ H y=some (c,rows,rd))(hc:c){sz:Nat}(hsz:∀r∈rows,r.length=sz) :
  ∃ad cap,u=.slice ad rows.length cap/\FN w (DD H β D0) ad sz rows:=by
 unfold kZ at hs;split at hs
 .injection hs with hs;injection hs with e1 e2;injection e2 with e2 e3;subst e1 e2 e3;simp only[aG]at hy;obtain⟨ad,cap,h1,_,_,h2⟩:=hy.EF hsz;exact⟨ad,cap,h1,h2⟩
 .injection hs with hs;injection hs with e1 e2;injection e2 with e2 e3;subst e1 e2 e3;simp only[aG]at hy;obtain⟨ad,cap,h1,_,_,h2⟩:=hy.wK.EF hsz;exact⟨ad,cap,h1,h2⟩
 .injection hs with hs;injection hs with e1 e2;injection e2 with e2 e3;subst e1 e2 e3;simp only[aG]at hy;exact⟨none,0,hy,[],by simp[eF],by simp,λh=>(h rfl).elim⟩
 .rename_i h st;split at hs
  .rename_i fz st' e sz' rows' hH;injection hs with hs;injection hs with e1 e2;injection e2 with e2 e3;subst e1 e2 e3;simp only[aG]at hy;have hv:=hy.2 (by rw[hH];exact hc);obtain⟨ad,cap,h1,_,_,h2⟩:=R.EF hH;refine⟨ad,cap,hv.trans h1,?_⟩;cases hr:rows' with
   |nil=>exact⟨[],by simp[eF],by simp,λh=>(h rfl).elim⟩
   |cons r0 rest =>
    have e:sz'=sz:=by
     have:=(R.slice hH).1 r0 (by simp[hr]);rw[<-this];exact hsz r0 (by simp[hr])
    rw[<-hr,<-e];exact h2
  .cases hs
 .rename_i h st off len;split at hs
  .rename_i fz st' e sz' rows' hH;injection hs with hs;injection hs with e1 e2;injection e2 with e2 e3;subst e1 e2 e3;obtain⟨hst,hol⟩:=hc;simp only[aG]at hy;have hlen:((rows'.drop off).take len).length=len:=by simp;omega
   rw[hlen];rcases hy.2 (by rw[hH];exact hst) with ⟨rfl,ad,cap,hv,_⟩|⟨g,n,cap,cap',hb,hv,_⟩
   .exact⟨ad,cap,hv,[],by simp[eF],by simp,λh=>by simp at h⟩
   .refine⟨_,cap',hv,?_⟩;by_cases h0:len=0
    .subst h0;exact⟨[],by simp[eF],by simp,λh=>by simp at h⟩
    obtain⟨ad,cap2,h1,_,_,h2⟩:=R.EF hH;have e:sz'=sz:=by
     have hne:0<((rows'.drop off).take len).length:=by omega
     have hm:=List.getElem_mem hne;rw[<-hsz _ hm];exact((R.slice hH).1 _ (List.mem_of_mem_drop (List.mem_of_mem_take hm))).symm
    rw[<-e];refine h2.part hol λ_ g' o' hg'=>?_;rw[h1,hg']at hb;injection hb with e1;injection e1 with e1;injection e1 with e1 e2
    rw[hH,<-e1,e2];simp[HC.esz]
  .cases hs
 .cases hs
def nO (T:TI)(H:Hp)(e d:Nat)(x y:AV):Option AR :=
 match kZ H y with
 |some (c,src,rd)=>match x with
  |.oG=>some ⟨c/\T.ok=true/\T.zok=true/\(∀r∈src,r.length=T.size)/\src.length*T.bytes<=140737488355328/\src.length<=maxLen,.hs d ((H d).stamp+1),[],[(d,.blk false ((H d).stamp+1) e T.size src)],rd⟩
  |.hs h st=>match H h with
   |.blk false st' e' sz rows=>some ⟨c/\T.ok=true/\T.zok=true/\(∀r∈src,r.length=T.size)/\st=st'/\e'=e/\sz=T.size/\(rows.length+src.length)*T.bytes<=140737488355328/\rows.length+src.length<=maxLen,.hs h (st+1),[],[(h,.blk false (st+1) e sz (rows++src))],h::rd⟩
   |_=>none
  |_=>none
 |none=>none
theorem dV {P:Program}{t t2 e e2 ty:Nat}(ht:P.underlying t=some (.slice e))(ht2:P.underlying t2=some (.slice e2))(ad:Option Addr)(n c:Nat)(y:Value) :
  (Builtin.append_ #[t,t2] ty #[.slice ad n c,y]).run P w=(Builtin.append_ #[t,t] ty #[.slice ad n c,y]).run P w:=by
 cases hi:P.info? e with
 |none=>simp[Builtin.append_,run_underlying ht,sizeOf,typeInfo,hi]
 |some i=>simp[Builtin.append_,run_underlying ht,run_underlying ht2,sizeOf,typeInfo,hi]
theorem iQ {P:Program}{t e ty:Nat}(ht:P.underlying t=some (.slice e)){i:TypeInfo}(hi:P.info? e=some i){ad:Option Addr}{n cap:Nat}(hn:n<=cap){ad':Option Addr}{cap':Nat} :
  (Builtin.append_ #[t,t] ty #[.slice ad n cap,.slice ad' 0 cap']).run P w=.ok (.slice ad n cap) w:=by
 cases ad<;>cases ad'<;>simp[Builtin.append_,run_underlying ht,sizeOf,typeInfo,hi,Builtin.lenOf,hn,Builtin.firstCells,loadCells,loadCellsFrom,storeCells]
theorem mD {P:Program}{t t2 e d:Nat}(ht:(ti P t).desc=.sl e){e2:Nat}(ht2:(ti P t2).desc=.sl e2)(R:Rel G M w0 D0 N f H β a w){x y:AV}{v u:Value}(hx:aG w (DD H β D0) H β x v)(hy:aG w (DD H β D0) H β y u)(hd:d<N){r:AR}(hr:nO (ti P e) H e d x y=some r)(hc:r.c){ty:Nat} :
  ∃z w' β',(Builtin.append_ #[t,t2] ty #[v,u]).run P w=.ok z w'/\Rel G M w0 D0 N (iY f (some d) r.v) (dA r.hs (aQ r.fz H)) β' (a.put (some d) z) w':=by
 have hu:=mZ ht;unfold nO at hr;split at hr
 .rename_i c src rd hs;split at hr
  ·-- onto nil
   injection hr with hr;subst hr;obtain⟨hc1,hok,hz,hsz,hb,hm⟩:=hc;obtain⟨ad,cap,rfl,news,h1,h2,h3⟩:=jO R hy hs hc1 hsz;obtain⟨i,z,hi,hz0,hzs,hz1,hz2,hz2b,hz3,hz4⟩:=BJ hz;simp only[aG]at hx;subst hx;have hnl:news.length=src.length*i.size:=by rw[<-h1.length,dK src h2,hz2]
   by_cases h0:src.length=0
   .have hsrc:src=[]:=List.eq_nil_of_length_eq_zero h0;subst hsrc;obtain⟨β',_,_,R'⟩:=R.fresh (w':=w) (h:=d) (e:=e) (sz:=(ti P e).size) (rows:=[]) (v:=.slice none 0 0) (dst:=some d) (x:=.hs d ((H d).stamp+1)) (val:=.slice none 0 0) (st:=(H d).stamp+1) (by omega) rfl rfl rfl (Nat.le_refl _) (λ_ _=>rfl)
     ⟨by simp,.inl ⟨rfl,rfl⟩⟩ (λβ' hb D=>by simp only[aG,aO,HC.stamp];exact⟨Nat.le_refl _,λ_=>hb.symm⟩) (by rintro _ ⟨⟩;exact hd)
    exact⟨_,w,β',(dV hu (mZ ht2) _ _ _ _).trans (iQ hu hi (Nat.le_refl _)),R'⟩
   .obtain⟨g,o,rfl,hcell⟩:=h3 (λe=>h0 (by rw[e];rfl));have hrun:=run_append_nil (P:=P) w t ty e i z hu hi hz0 ⟨g,o,none⟩ src.length cap news hnl (λj v hj=>by rw[addr_add];exact hcell j v hj) (by omega) (by simp only[maxLen]at hm;omega) (by rw[<-hz2b];omega);have hge:=grownCap_ge w src.length 0 e;have hgm:=grownCap_le_maxLen w src.length 0 e hm;have R0:=R.drew;obtain⟨β',R'⟩:=R0.alloc (h:=d) (e:=e) (sz:=(ti P e).size) (cap:=grownCap w src.length 0 e) (st:=(H d).stamp+1) (cur:=news.toArray++Builtin.zeroCells z.cells (grownCap w src.length 0 e-src.length)) (rows:=src) (dst:=some d) (x:=.hs d ((H d).stamp+1)) (val:=.slice (some ⟨w.heap.size,0,none⟩) src.length (grownCap w src.length 0 e)) (by omega)
     h2 hge hgm (by simp only[Array.size_append,List.size_toArray,size_zeroCells,hnl,hzs,hz2,<-Nat.add_mul];congr 1;omega)
     (by
      have:((news.toArray++Builtin.zeroCells z.cells (grownCap w src.length 0 e-src.length)).toList.take (src.length*(ti P e).size))=news:=by
       rw[hz2,<-hnl];simp
      rw[this];exact h1.mono (dh.heap (w:=w) (w':={ w with drawn:=w.drawn+1 }) _ rfl))
     (λβ' hb w' D=>by simp only[aG,aO,HC.stamp];exact⟨Nat.le_refl _,λ_=>hb.symm⟩) (by rintro _ ⟨⟩;exact hd)
    exact⟨_,_,β',(dV hu (mZ ht2) _ _ _ _).trans hrun,R'⟩
  .rename_i h st;split at hr
   .rename_i st' e' sz rows hH;injection hr with hr;subst hr;obtain⟨hc1,hok,hz,hsz,hst,he,hss,hb,hm⟩:=hc;subst hst he hss;obtain⟨ad,cap,rfl,news,h1,h2,h3⟩:=jO R hy hs hc1 hsz;obtain⟨i,z,hi,hz0,hzs,hz1,hz2,hz2b,hz3,hz4⟩:=BJ hz;simp only[aG]at hx;have hv:=hx.2 (by rw[hH];rfl);subst hv;have hnl:news.length=src.length*i.size:=by rw[<-h1.length,dK src h2,hz2]
    have hown:=R.own h _ _ _ _ hH;have hmu:(H h).gB:=by rw[hH];trivial
    have fin:∀(w':World) (v':Value),w'.os=w.os->w'.tape=w.tape->w'.output=w.output->w.heap.size<=w'.heap.size->(∀k,k<w.heap.size->bD (β h)≠some k->w'.heap[k]?=w.heap[k]?) ->
      Own w' (λb=>DD H β D0 b\/bD v'=some b) w0.heap.size M v' e' (ti P e').size (rows++src)->(∀k,bD v'=some k->bD (β h)=some k\/w.heap.size<=k) ->
      ∃β',Rel G M w0 D0 N (iY f (some d) (.hs h (st+1))) (dF H h (.blk false (st+1) e' (ti P e').size (rows++src))) β' (a.put (some d) v') w':=by
     intro w' v' ho htp hout hsize hkeep hown' hhead;obtain⟨β',hb',_,R'⟩:=R.grow (w':=w') (st':=st+1) (rows':=rows++src) (v:=v') (dst:=some d) (x:=.hs h (st+1)) (val:=v') hH (.inr (by omega)) ho htp hout hsize hkeep hown' hhead
      (λβ' hb _ D _=>by simp only[aG,aO,HC.stamp];exact⟨Nat.le_refl _,λ_=>hb.symm⟩) (by rintro _ ⟨⟩;exact hd)
     exact⟨β',R'⟩
    by_cases h0:src.length=0
    .have hsrc:src=[]:=List.eq_nil_of_length_eq_zero h0;subst hsrc;obtain⟨β',R'⟩:=fin w (β h) rfl rfl rfl (Nat.le_refl _) (λ_ _ _=>rfl) (by
      rw[List.append_nil];refine hown.mono ⟨Nat.le_refl _,λb _ hb'=>?_,λ_ _ _ _=>rfl⟩ λ_ _=>rfl;rcases hb' with h'|h'
      .exact h'
      .exact .inr ⟨h,hmu,h'⟩) (λk hk=>.inl hk)
     rcases hown.2 with ⟨_,hb'⟩|⟨g,cap',cur,hb',hB,hg,h4,_⟩
     .rw[hb']at R' ⊢;exact⟨_,w,β',(dV hu (mZ ht2) _ _ _ _).trans (iQ hu hi (Nat.le_refl _)),R'⟩
     .rw[hb']at R' ⊢;exact⟨_,w,β',(dV hu (mZ ht2) _ _ _ _).trans (iQ hu hi h4),R'⟩
    .obtain⟨g',o',rfl,hcell⟩:=h3 (λe=>h0 (by rw[e];rfl));have hcell':∀(j:Nat) v,news[j]?=some v->w.cell? ((⟨g',o',none⟩:Addr).add j)=some v:=λj v hj=>by rw[addr_add];exact hcell j v hj
     rcases hown.2 with ⟨hrn,hb'⟩|⟨g,cap',cur,hb',hB,hg,h4,h5,h6,h7⟩
     .subst hrn;have hrun:=run_append_nil (P:=P) w t ty e' i z hu hi hz0 ⟨g',o',none⟩ src.length cap news hnl hcell' (by omega) (by simp only[maxLen,List.length_nil,Nat.zero_add]at hm;omega) (by rw[<-hz2b];simp at hb;omega);have hge:=grownCap_ge w src.length 0 e';have hgm:=grownCap_le_maxLen w src.length 0 e' (by simpa using hm);obtain⟨β',R'⟩:=fin (w.drew.alloc (.cells (news.toArray++Builtin.zeroCells z.cells (grownCap w src.length 0 e'-src.length)) e')) (.slice (some ⟨w.heap.size,0,none⟩) src.length (grownCap w src.length 0 e')) rfl rfl rfl (by simp) (λk hk _=>heap_alloc_old w.drew _ hk)
       (by
        rw[List.nil_append];have:=NP w.drew (DD H β D0) (cur:=news.toArray++Builtin.zeroCells z.cells (grownCap w src.length 0 e'-src.length)) (e:=e') (sz:=(ti P e').size) (cap:=grownCap w src.length 0 e') (rows:=src) h2 hge hgm
         (by simp only[Array.size_append,List.size_toArray,size_zeroCells,hnl,hzs,hz2,<-Nat.add_mul];congr 1;omega)
         (by
          have e1:((news.toArray++Builtin.zeroCells z.cells (grownCap w src.length 0 e'-src.length)).toList.take (src.length*(ti P e').size))=news:=by
           rw[hz2,<-hnl];simp
          rw[e1];exact eF.mono (w:=w) (w':=w.drew) (dh.heap _ rfl) h1)
        exact⟨this.1,this.2.imp id λ⟨g,cap,cur,a1,a2,a3⟩=>⟨g,cap,cur,a1,.inl (Nat.le_trans R.size (a2.resolve_right id)),a3⟩⟩)
       (λk hk=>.inr (by simp[bD]at hk;omega))
      rw[hb'];exact⟨_,_,β',(dV hu (mZ ht2) _ _ _ _).trans hrun,R'⟩
     .have hgl:g<w.heap.size:=(Array.getElem?_eq_some_iff.1 hg).1;have h7l:=h7.length;have hxl:(cur.toList.take (rows.length*(ti P e').size)).length=rows.length*i.size:=by rw[<-h7l,dK rows hown.1,hz2]
      by_cases hroom:rows.length+src.length<=cap'
      .have hfit:rows.length*i.size+news.length<=cur.size:=by rw[hnl,h6,hz2,<-Nat.add_mul];exact Nat.mul_le_mul_right _ hroom
       have hrun:=run_append_room (P:=P) w t ty e' i hu hi g rows.length cap' cur hg ⟨g',o',none⟩ src.length cap news hnl hcell' (h1.one) hroom hfit;have hset:=setRow_heap w g cur (cur.toList.take (rows.length*i.size)++news++cur.toList.drop (rows.length*i.size+news.length)).toArray e' (0,0) hg;obtain⟨β',R'⟩:=fin (w.setRow g (cur.toList.take (rows.length*i.size)++news++cur.toList.drop (rows.length*i.size+news.length)).toArray) (.slice (some ⟨g,0,none⟩) (rows.length+src.length) cap') rfl rfl rfl (by simp)
        (λk hk hn=>setRow_other w g k _ (λe=>hn (by rw[hb',e];rfl)))
        (by
         refine⟨?_,.inr ⟨g,cap',_,by simp,hB,hset,by simpa using hroom,h5,?_,?_⟩⟩
         .intro r hr';rcases List.mem_append.1 hr' with h'|h'
          .exact hown.1 r h'
          .exact h2 r h'
         .rw[<-h6];simp;omega
         .have e1:(((cur.toList.take (rows.length*i.size)++news++cur.toList.drop (rows.length*i.size+news.length)).toArray).toList.take ((rows++src).length*(ti P e').size))=cur.toList.take (rows.length*(ti P e').size)++news:=by
           have e2:(cur.toList.take (rows.length*i.size)++news).length=(rows++src).length*(ti P e').size:=by
            rw[hz2]at hxl ⊢;rw[List.length_append,hxl,hnl,List.length_append,Nat.add_mul]
           simp only;rw[<-e2,List.take_left,hz2]
          rw[e1,List.flatten_append];refine(h7.append h1).mono ⟨by simp,λb _ hd'=>?_,λb _ hn=>?_⟩
          .rcases hd' with h'|h'
           .exact h'
           .exact .inr ⟨h,hmu,by rw[hb'];exact h'⟩
          .exact λ_=>setRow_other w g b _ (λe=>hn (.inr ⟨h,hmu,by rw[hb',e];rfl⟩)))
        (λk hk=>.inl (by rw[hb'];exact hk))
       rw[hb'];exact⟨_,_,β',(dV hu (mZ ht2) _ _ _ _).trans hrun,R'⟩
      .have holds:∀(j:Nat) v,(cur.toList.take (rows.length*(ti P e').size))[j]?=some v->w.cell? ((⟨g,0,none⟩:Addr).add j)=some v:=by
        intro j v hj;rw[addr_add,Nat.zero_add,cell_of_row w g j cur _ (0,0) hg];rw[List.getElem?_take]at hj;split at hj
        .simpa using hj
        .cases hj
       have hrun:=run_append_grow (P:=P) w t ty e' i z hu hi hz0 ⟨g,0,none⟩ rows.length cap' _ hxl holds ⟨g',o',none⟩ src.length cap news hnl hcell' (by omega) (by simp only[maxLen]at hm;omega) (growslice_fits (by omega) (by rw[<-hz2b];exact hb));have hge:=grownCap_ge w (rows.length+src.length) cap' e';have hgm:=grownCap_le_maxLen w (rows.length+src.length) cap' e' hm;obtain⟨β',R'⟩:=fin (w.drew.alloc (.cells ((cur.toList.take (rows.length*(ti P e').size)).toArray++news.toArray++Builtin.zeroCells z.cells (grownCap w (rows.length+src.length) cap' e'-(rows.length+src.length))) e')) (.slice (some ⟨w.heap.size,0,none⟩) (rows.length+src.length) (grownCap w (rows.length+src.length) cap' e')) rfl rfl rfl (by simp) (λk hk _=>heap_alloc_old w.drew _ hk)
        (by
         have:=NP w.drew (DD H β D0) (cur:=(cur.toList.take (rows.length*(ti P e').size)).toArray++news.toArray++Builtin.zeroCells z.cells (grownCap w (rows.length+src.length) cap' e'-(rows.length+src.length))) (e:=e') (sz:=(ti P e').size) (cap:=grownCap w (rows.length+src.length) cap' e') (rows:=rows++src)
          (by
           intro r hr';rcases List.mem_append.1 hr' with h'|h'
           .exact hown.1 r h'
           .exact h2 r h') (by simpa using hge) hgm
          (by simp only[Array.size_append,List.size_toArray,size_zeroCells];rw[hxl,hnl,hzs,hz2,<-Nat.add_mul,<-Nat.add_mul];congr 1;omega)
          (by
           have e1:(((cur.toList.take (rows.length*(ti P e').size)).toArray++news.toArray++Builtin.zeroCells z.cells (grownCap w (rows.length+src.length) cap' e'-(rows.length+src.length))).toList.take ((rows++src).length*(ti P e').size))=cur.toList.take (rows.length*(ti P e').size)++news:=by
            have e2:(cur.toList.take (rows.length*(ti P e').size)++news).length=(rows++src).length*(ti P e').size:=by
             rw[List.length_append,hxl,hnl,List.length_append,Nat.add_mul,hz2]
            simp only[Array.toList_append];rw[<-e2,List.take_left]
           rw[e1,List.flatten_append];exact eF.mono (w:=w) (w':=w.drew) (dh.heap _ rfl) (h7.append h1))
         rw[List.length_append]at this;exact⟨this.1,this.2.imp id λ⟨g,cap,cur,a1,a2,a3⟩=>⟨g,cap,cur,a1,.inl (Nat.le_trans R.size (a2.resolve_right id)),a3⟩⟩)
        (λk hk=>.inr (by simp[bD]at hk;omega))
       rw[hb'];exact⟨_,_,β',(dV hu (mZ ht2) _ _ _ _).trans hrun,R'⟩
   .cases hr
  .cases hr
 .cases hr
end
end Go.AL
