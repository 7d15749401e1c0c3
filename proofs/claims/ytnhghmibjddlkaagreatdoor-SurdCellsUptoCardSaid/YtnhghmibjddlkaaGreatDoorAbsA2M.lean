/-
 The abstract logic: copies;signs of a text.
-/
import Derived.Test.YtnhghmibjddlkaaGreatDoorAbsA
import Derived.Laws.CopyRow
import Derived.Laws.IdiomCopy
namespace Go.AL
variable {zi:Zi}
open Go.RowKit
set_option linter.unusedSimpArgs false
set_option linter.unusedVariables false
section
variable {G:Gh} {M:Nat->Prop} {w0:World} {D0:Nat->Prop} {N:Nat} {f:Fr} {H:Hp} {β:Nat->Value} {a:Act} {w:World}
theorem Rel.writes (R:Rel G M w0 D0 N f H β a w){h st e sz off:Nat}{rows src:List (List IV)}(hH:H h=.blk false st e sz rows)(hi:off+src.length<=rows.length)(hsz:∀r∈src,r.length=sz){us:List Value}(hr:eF w (DD H β D0) src.flatten us)(hne:rows≠[])
  {dst:Option Nat} {x:AV} {val:Value} (hv:∀w' D H' β',aG w' D H' β' x val) (hd:∀d,dst=some d->d<N) :
  ∃g cap cur β',β h=.slice (some ⟨g,0,none⟩) rows.length cap/\w.heap[g]?=some (.cells cur e (0,0))/\off*sz+us.length<=cur.size /\
   Rel G M w0 D0 N (iY f dst x) (dF H h (.blk false st e sz (rows.take off++src++rows.drop (off+src.length)))) β' (a.put dst val) (w.setRow g (cur.toList.take (off*sz)++us++cur.toList.drop (off*sz+us.length)).toArray):=by
 have hown:=R.own h _ _ _ _ hH;rcases hown.2 with ⟨rfl,_⟩|⟨g,cap,cur,hb,hB,hg,h1,h2,h3,h4⟩
 .exact(hne rfl).elim
 have hul:=hr.length;rw[dK src hsz]at hul;have hmul:off*sz+us.length<=rows.length*sz:=by
  rw[<-hul,<-Nat.add_mul];exact Nat.mul_le_mul_right _ hi
 have hcapm:rows.length*sz<=cap*sz:=Nat.mul_le_mul_right _ h1;have hfit:off*sz+us.length<=cur.size:=by rw[h3];omega
 have hset:=setRow_heap w g cur (cur.toList.take (off*sz)++us++cur.toList.drop (off*sz+us.length)).toArray e (0,0) hg;have hmu:(H h).gB:=by rw[hH];trivial
 have gr:dh w (DD H β D0) (w.setRow g (cur.toList.take (off*sz)++us++cur.toList.drop (off*sz+us.length)).toArray) (λb=>DD H β D0 b\/bD (β h)=some b):=by
  refine⟨by simp,λb _ hd'=>?_,λb _ hn=>?_⟩
  .rcases hd' with h'|h'
   .exact h'
   .exact .inr ⟨h,hmu,h'⟩
  .exact λ_=>setRow_other w g b _ (λe=>hn (.inr ⟨h,hmu,by rw[hb,e];rfl⟩))
 have hlen:(rows.take off++src++rows.drop (off+src.length)).length=rows.length:=by
  simp only[List.length_append,List.length_take,List.length_drop];omega
 have hown':Own (w.setRow g (cur.toList.take (off*sz)++us++cur.toList.drop (off*sz+us.length)).toArray) (λb=>DD H β D0 b\/bD (β h)=some b) w0.heap.size M (β h) e sz (rows.take off++src++rows.drop (off+src.length)):=by
  refine⟨?_,.inr ⟨g,cap,_,by rw[hb,hlen],hB,hset,by rw[hlen];exact h1,h2,?_,?_⟩⟩
  .intro r hr';rcases List.mem_append.1 hr' with h'|h'
   .rcases List.mem_append.1 h' with h'|h'
    .exact hown.1 r (List.mem_of_mem_take h')
    .exact hsz r h'
   .exact hown.1 r (List.mem_of_mem_drop h')
  .simp;omega
  .rw[hlen,BK cur.toList us _ _ hmul (by rw[show cur.toList.length=cur.size from rfl,h3];exact hcapm)];have e1:(rows.take off++src++rows.drop (off+src.length)).flatten=rows.flatten.take (off*sz)++src.flatten++rows.flatten.drop (off*sz+src.flatten.length):=by
    have ht:(rows.take off).flatten=rows.flatten.take (off*sz):=by
     have:=zQ rows 0 off hown.1 (by omega);simpa using this
    have hdp:(rows.drop (off+src.length)).flatten=rows.flatten.drop (off*sz+src.flatten.length):=by
     have e0:rows.flatten=(rows.take (off+src.length)).flatten++(rows.drop (off+src.length)).flatten:=by rw[<-List.flatten_append,List.take_append_drop]
     have e2:(rows.take (off+src.length)).flatten.length=off*sz+src.flatten.length:=by
      rw[dK (sz:=sz) _ λr hr=>hown.1 r (List.mem_of_mem_take hr),dK src hsz,List.length_take,Nat.min_eq_left hi,Nat.add_mul]
     rw[e0,<-e2,List.drop_left]
    rw[List.flatten_append,List.flatten_append,ht,hdp]
   rw[e1];exact(vG _ h4 hr).mono gr
 obtain⟨β',hb',_,R'⟩:=R.grow (w':=w.setRow g (cur.toList.take (off*sz)++us++cur.toList.drop (off*sz+us.length)).toArray) (st':=st) (rows':=rows.take off++src++rows.drop (off+src.length)) (v:=β h) (dst:=dst) (x:=x) (val:=val) hH (.inl ⟨rfl,rfl⟩) rfl rfl rfl (by simp)
  (λk hk hn=>setRow_other w g k _ (λe=>hn (by rw[hb,e];rfl))) hown' (λk hk=>.inl hk) (λ_ _ _ _ _=>hv _ _ _ _) hd
 exact⟨g,cap,cur,β',hb,hg,hfit,R'⟩
def P7 (T:TI)(H:Hp)(x y:AV):Option AR :=
 match kZ H y with
 |some (c,src,rd)=>match x with
  |.hv h st off len=>match H h with
   |.blk false st' e sz rows=>some ⟨c/\T.ok=true/\T.size=1/\sz=1/\st=st'/\off+len<=rows.length/\0<src.length/\(∀r∈src,r.length=1)/\src.length<=len,.iv (.int .i64 src.length),[],[(h,.blk false st e sz (rows.take off++src++rows.drop (off+src.length)))],h::rd⟩
   |_=>none
  |.hs h st=>match H h with
   |.blk false st' e sz rows=>some ⟨c/\T.ok=true/\T.size=1/\sz=1/\st=st'/\rows.length≠0/\(∀r∈src,r.length=1)/\src.length<=rows.length,.iv (.int .i64 src.length),[],[(h,.blk false st e sz (src++rows.drop src.length))],h::rd⟩
   |_=>none
  |_=>none
 |none=>none
theorem P5 {P:Program}{t t2 e ty:Nat}(ht:(ti P t).desc=.sl e)(R:Rel G M w0 D0 N f H β a w){x y:AV}{v u:Value}(hx:aG w (DD H β D0) H β x v)(hy:aG w (DD H β D0) H β y u){dst:Option Nat}(hd:∀d,dst=some d->d<N){r:AR}(hr:P7 (ti P e) H x y=some r)(hc:r.c) :
  ∃z w' β',(Builtin.copy_ #[t,t2] ty #[v,u]).run P w=.ok z w'/\Rel G M w0 D0 N (iY f dst r.v) (dA r.hs (aQ r.fz H)) β' (a.put dst z) w':=by
 have hu:=mZ ht;unfold P7 at hr;split at hr
 .rename_i c src rd hs;split at hr
  .rename_i h st off len;split at hr
   .rename_i st' e' sz rows hH;injection hr with hr;subst hr;obtain⟨hc1,hok,hs1,hsz1,hst,hol,hl0,hsrc,hle⟩:=hc;subst hst;obtain⟨i,d,hi,_,hsi,_,_⟩:=Tn hok;obtain⟨ad,cap,rfl,hrow⟩:=jO R hy hs hc1 hsrc;have hsz:(P.info? e).map (·.size)=some 1:=by rw[hi];simp[<-hsi,hs1]
    subst hsz1;obtain⟨news,h1,h3⟩:∃news,eF w (DD H β D0) src.flatten news/\(src≠[]->∃g o,ad=some ⟨g,o,none⟩/\∀(j:Nat) v,news[j]?=some v->w.cell? ⟨g,o+j,none⟩=some v):=by
     obtain⟨news,h1,_,h3⟩:=hrow;exact⟨news,h1,h3⟩
    have hnl:news.length=src.length:=by rw[<-h1.length,dK src hsrc,Nat.mul_one]
    simp only[aG]at hx;have hne:rows≠[]:=by intro e;subst e;simp at hol;omega
    obtain⟨g,b3Q,cur,β',hb,hg,hfit,R2⟩:=R.writes (dst:=dst) (x:=.iv (.int .i64 src.length)) (val:=.int .i64 src.length) hH (Nat.le_trans (Nat.add_le_add_left hle _) hol) hsrc h1 hne (λ_ _ _ _=>by simp only[aG];exact .int _ _) hd;rcases hx.2 (by rw[hH];rfl) with ⟨h0,_⟩|⟨g',n',c1,c2,hb',rfl,hlc,hcm,_⟩
    .omega
    rw[hb]at hb';injection hb' with e1 e2 e3;injection e1 with e1;injection e1 with e1 e4;subst e1
    have b5G:(H h).esz=1:=by rw[hH];rfl
    rw[b5G]at *;have h0:src≠[]:=by intro e;subst e;simp at hl0
    obtain⟨g2,o2,rfl,hcell⟩:=h3 h0;have hrun:=run_copy_row (P:=P) w t t2 ty e g (off*1) len c2 ⟨g2,o2,none⟩ src.length cap cur e' news hu hsz hg (by rw[hnl];exact(Nat.min_eq_left hle).symm) (λj v hj=>by rw[addr_add];exact hcell j v hj) hfit h1.one;rw[hnl]at hrun;refine⟨_,_,β',hrun,?_⟩;rw[hnl]at R2;exact R2
   .cases hr
  .rename_i h st;split at hr
   .rename_i st' e' sz rows hH;injection hr with hr;subst hr;obtain⟨hc1,hok,hs1,hsz1,hst,hl0,hsrc,hle⟩:=hc;subst hst;obtain⟨i,d,hi,_,hsi,_,_⟩:=Tn hok;obtain⟨ad,cap,rfl,hrow⟩:=jO R hy hs hc1 hsrc;have hsz:(P.info? e).map (·.size)=some 1:=by rw[hi];simp[<-hsi,hs1]
    subst hsz1;simp only[aG]at hx;have hv:=hx.2 (by rw[hH];rfl);subst hv;have hne:rows≠[]:=by intro e;subst e;exact hl0 rfl
    by_cases h0:src=[]
    .subst h0;have he:dF H h (.blk false st e' 1 ([]++rows.drop ([]:List (List IV)).length))=H:=by
      funext u
      by_cases eu:u=h
      .subst eu;rw[aO,hH];rfl
      .rw[aJ _ _ eu]
     have hb:∃x n c,β h=.slice x n c:=by
      rcases (R.own h _ _ _ _ hH).2 with ⟨_,hb⟩|⟨g,cap',cur,hb,_⟩<;>exact⟨_,_,_,hb⟩
     obtain⟨x0,n0,c0,hb⟩:=hb;rw[hb];refine⟨_,w,β,run_copy_none w t t2 ty e x0 ad n0 c0 _ cap hu hsz (by simp),?_⟩;simp only[dA,aQ];rw[he];exact R.value (dst:=dst) (v:=.iv (.int .i64 ([]:List (List IV)).length)) (by simp only[aG];exact .int _ _) hd
    obtain⟨news,h1,h3⟩:∃news,eF w (DD H β D0) src.flatten news/\(src≠[]->∃g o,ad=some ⟨g,o,none⟩/\∀(j:Nat) v,news[j]?=some v->w.cell? ⟨g,o+j,none⟩=some v):=by
     obtain⟨news,h1,_,h3⟩:=hrow;exact⟨news,h1,h3⟩
    have hnl:news.length=src.length:=by rw[<-h1.length,dK src hsrc,Nat.mul_one]
    obtain⟨g,b3Q,cur,β',hb,hg,hfit,R2⟩:=R.writes (off:=0) (dst:=dst) (x:=.iv (.int .i64 src.length)) (val:=.int .i64 src.length) hH (by rw[Nat.zero_add];exact hle) hsrc h1 hne (λ_ _ _ _=>by simp only[aG];exact .int _ _) hd;obtain⟨g2,o2,rfl,hcell⟩:=h3 h0;rw[hb];have hrun:=run_copy_row (P:=P) w t t2 ty e g (0*1) rows.length b3Q ⟨g2,o2,none⟩ src.length cap cur e' news hu hsz hg (by rw[hnl];exact(Nat.min_eq_left hle).symm) (λj v hj=>by rw[addr_add];exact hcell j v hj) hfit h1.one;rw[hnl]at hrun;refine⟨_,_,β',hrun,?_⟩;rw[hnl]at R2;simp only[List.take_zero,List.nil_append,Nat.zero_add]at R2;exact R2
   .cases hr
  .cases hr
 .cases hr
def isStr (P:Program)(t:Nat):Prop:=P.underlying t=some .string
def DN (P:Program)(t:Nat)(x i:AV):Option AR :=
 match x,i with
 |.iv (.raw (.string s)),.iv (.int k n)=>some ⟨isStr P t/\0<=n/\n<s.size,.iv (.int .u8 ((s[n.toNat]?.getD 0).toNat:Nat)),[],[],[]⟩
 |_,_=>none
theorem IZ {P:Program}{t:Nat}{x y:AV}{v u:Value}(hx:aG w (DD H β D0) H β x v)(hy:aG w (DD H β D0) H β y u){r:AR}(hr:DN P t x y=some r)(hc:r.c) :
  r.fz=[]/\r.hs=[]/\∃z,(Instr.index t v u).run P w=.ok z w/\aG w (DD H β D0) H β r.v z:=by
 unfold DN at hr;split at hr
 .rename_i s k n;injection hr with hr;subst hr;obtain⟨h1,h2,h3⟩:=hc;simp only[aG]at hx hy;cases hx;cases hy;refine⟨rfl,rfl,.int .u8 ((s[n.toNat]?.getD 0).toNat:Nat),?_,by simp only[aG];exact .int _ _⟩;have hlt:n.toNat<s.size:=by omega
  have hget:s[n.toNat]?=some s[n.toNat]:=getElem?_pos s n.toNat hlt;simp only[Instr.index,Sem.run_bind,asIntOf,Sem.run_pure,Result.andThen_ok,run_underlying h1,if_pos h2,hget,Option.getD_some]
 .cases hr
end
end Go.AL

namespace Go.AL
variable {zi:Zi}
open Go.RowKit
set_option linter.unusedSimpArgs false
set_option linter.unusedVariables false
section
variable {G:Gh} {M:Nat->Prop} {w0:World} {D0:Nat->Prop} {N:Nat} {f:Fr} {H:Hp} {β:Nat->Value} {a:Act} {w:World}
theorem Rel.b0T (R:Rel G M w0 D0 N f H β a w){w':World}{h e:Nat}{rows:List AV}{v:Value}{dst:Option Nat}{x:AV}{val:Value}{st:Nat}(hst:(H h).stamp<st)
  (hos:w'.os=w.os) (htape:w'.tape=w.tape) (hout:w'.output=w.output) (hsz:w.heap.size<=w'.heap.size) (hk:∀k,k<w.heap.size->w'.heap[k]?=w.heap[k]?)
  (hown:UQ w' (λb=>DD H β D0 b\/bD v=some b) H β w.heap.size (λ_=>False) v e rows)
  (hv:∀β':Nat->Value,β' h=v->(∀D,aG w' D (dF H h (.nst st e rows)) β' x val)) (hd:∀d,dst=some d->d<N) :
  ∃β',β' h=v/\(∀u,u≠h->β' u=β u)/\Rel G M w0 D0 N (iY f dst x) (dF H h (.nst st e rows)) β' (a.put dst val) w':=by
 refine⟨λu=>if u=h then v else β u,by simp,λu hu=>by simp[hu],?_⟩;have hvk:∀k,bD v=some k->w.heap.size<=k\/DD H β D0 k:=λk hk=>by
  rcases (hown.lt hk).2 with h|h
  .exact .inl h
  .exact h.elim
 have s:jV H β (dF H h (.nst st e rows)) (λu=>if u=h then v else β u):=by
  intro u;by_cases hu:u=h
  .subst hu;right;rw[aO];exact hst
  .left;simp[aJ _ _ hu,hu]
 have g:dh w (DD H β D0) w' (DD (dF H h (.nst st e rows)) (λu=>if u=h then v else β u) D0) :=
  ⟨hsz,λb hb hd=>ru hvk hb hd,λb hb _ _=>hk b hb⟩
 have g':dh w' (λb=>DD H β D0 b\/bD v=some b) w' (DD (dF H h (.nst st e rows)) (λu=>if u=h then v else β u) D0):=by
  refine⟨Nat.le_refl _,λb _ hd=>?_,λ_ _ _ _=>rfl⟩;rcases hd with hd|⟨k,hm,hh⟩
  .exact .inl (.inl hd)
  .by_cases hk:k=h
   .subst hk;simp only[if_pos]at hh;exact .inr hh
   .rw[aJ _ _ hk]at hm;simp only[if_neg hk]at hh;exact .inl (.inr ⟨k,hm,hh⟩)
 have hnew:∀u,u≠h->(H u).gB->∀k,bD (β u)=some k->bD v≠some k:=λu hu hm k hh hh'=>by
  have h1:=(R.o7 hm hh).1;rcases (hown.lt hh').2 with h2|h2
  .omega
  .exact h2
 refine R.step hos htape hout g (λk h1 _=>hk k (Nat.lt_of_lt_of_le h1 R.size)) (λk _ h=>by rw[hk k (Array.getElem?_eq_some_iff.1 h).1];exact h) s (hv _ (by simp) _) ?_ ?_ ?_ ?_ (λu B hu=>Nat.le_trans (R.mrk u B (xw (by intro B;simp) hu)) hsz) hd
 .intro u st' e' sz' rows' hu;have huh:u≠h:=by
   intro e;subst e;rw[aO]at hu;cases hu
  rw[aJ _ _ huh]at hu;simp only[if_neg huh];exact(R.own u st' e' sz' rows' hu).mono g λk hk'=>hk k ((R.own u st' e' sz' rows' hu).lt hk').1
 .intro u st' e' sz' rows' hu;have huh:u≠h:=by
   intro e;subst e;rw[aO]at hu;cases hu
  rw[aJ _ _ huh]at hu;simp only[if_neg huh];exact⟨(R.frz u st' e' sz' rows' hu).1,(R.frz u st' e' sz' rows' hu).2.1.mono g,(R.frz u st' e' sz' rows' hu).2.2⟩
 .intro u u' hne hm hm' k hh hh';by_cases hu:u=h
  .subst hu;have hu':u'≠u:=λe=>hne e.symm
   simp only[if_pos]at hh;simp only[if_neg hu']at hh';rw[aJ _ _ hu']at hm';exact hnew u' hu' hm' k hh' hh
  .by_cases hu':u'=h
   .subst hu';simp only[if_neg hu]at hh;simp only[if_pos]at hh';rw[aJ _ _ hu]at hm;exact hnew u hu hm k hh hh'
   .simp only[if_neg hu]at hh;simp only[if_neg hu']at hh';rw[aJ _ _ hu]at hm;rw[aJ _ _ hu']at hm';exact R.dis u u' hne hm hm' k hh hh'
 .intro u st' e' rows' hu;by_cases huh:u=h
  .subst huh;rw[aO]at hu;injection hu with h1 h2 h3;subst h1 h2 h3;simp only[if_pos];rcases hown with hn|⟨k,cap,cur,rfl,hB,hkk,h1,h2,h3,h4⟩
   .exact .inl hn
   .refine .inr ⟨k,cap,cur,rfl,.inl ?_,hkk,h1,h2,h3,aS.mono g' s _ _ h4.1,h4.2⟩;rcases hB with hB|hB
    .exact Nat.le_trans R.size hB
    .exact hB.elim
  .rw[aJ _ _ huh]at hu;simp only[if_neg huh];exact(R.nst u st' e' rows' hu).mono g s λk hk'=>hk k ((R.nst u st' e' rows' hu).lt hk').1
theorem Rel.b0Q (R:Rel G M w0 D0 N f H β a w){w':World}{h st st' e:Nat}{rows rows':List AV}{v:Value}{dst:Option Nat}{x:AV}{val:Value}
  (hH:H h=.nst st e rows) (hst:(st'=st/\v=β h)\/st<st')
  (hos:w'.os=w.os) (htape:w'.tape=w.tape) (hout:w'.output=w.output) (hsz:w.heap.size<=w'.heap.size)
  (hk:∀k,k<w.heap.size->bD (β h)≠some k->w'.heap[k]?=w.heap[k]?)
  (hown:UQ w' (λb=>DD H β D0 b\/bD v=some b) H β w0.heap.size M v e rows') (hhead:∀k,bD v=some k->bD (β h)=some k\/w.heap.size<=k)
  (hv:∀β':Nat->Value,β' h=v->(∀u,u≠h->β' u=β u)->(∀D,dh w (DD H β D0) w' D->aG w' D (dF H h (.nst st' e rows')) β' x val)) (hd:∀d,dst=some d->d<N) :
  ∃β',β' h=v/\(∀u,u≠h->β' u=β u)/\Rel G M w0 D0 N (iY f dst x) (dF H h (.nst st' e rows')) β' (a.put dst val) w':=by
 refine⟨λu=>if u=h then v else β u,by simp,λu hu=>by simp[hu],?_⟩;have hmu:(H h).gB:=by rw[hH];trivial
 have hvk:∀k,bD v=some k->w.heap.size<=k\/DD H β D0 k:=λk hk=>by
  rcases hhead k hk with h1|h1
  .exact .inr (.inr ⟨h,hmu,h1⟩)
  .exact .inl h1
 have s:jV H β (dF H h (.nst st' e rows')) (λu=>if u=h then v else β u):=by
  intro u;by_cases hu:u=h
  .subst hu;rw[aO,hH];rcases hst with ⟨h1,h2⟩|h1
   .left;subst h1;simp[HC.stamp,HC.esz,h2]
   .right;exact h1
  .left;simp[aJ _ _ hu,hu]
 have g:dh w (DD H β D0) w' (DD (dF H h (.nst st' e rows')) (λu=>if u=h then v else β u) D0) :=
  ⟨hsz,λb hb hd=>ru hvk hb hd,λb hb hn _=>hk b hb λhh=>hn (.inr ⟨h,hmu,hh⟩)⟩
 have g':dh w' (λb=>DD H β D0 b\/bD v=some b) w' (DD (dF H h (.nst st' e rows')) (λu=>if u=h then v else β u) D0):=by
  refine⟨Nat.le_refl _,λb _ hd=>?_,λ_ _ _ _=>rfl⟩;rcases hd with hd|⟨k,hm,hh⟩
  .exact .inl (.inl hd)
  .by_cases hk:k=h
   .subst hk;simp only[if_pos]at hh;exact .inr hh
   .rw[aJ _ _ hk]at hm;simp only[if_neg hk]at hh;exact .inl (.inr ⟨k,hm,hh⟩)
 have hoth:∀u,u≠h->∀k,bD (β u)=some k->(H u).gB->w'.heap[k]?=w.heap[k]?:=by
  intro u hu k hku hm;exact hk k (R.o7 hm hku).1 λhh=>R.dis u h hu hm hmu k hku hh
 have key:∀u,u≠h->(H u).gB->∀k,bD v=some k->bD (β u)≠some k:=by
  intro u hu hm k hk' hku;rcases hhead k hk' with h1|h1
  .exact R.dis u h hu hm hmu k hku h1
  .have:=(R.o7 hm hku).1;omega
 refine R.step hos htape hout g ?_ (λk _ h2=>by
  rw[hk k (Array.getElem?_eq_some_iff.1 h2).1 λhh=>?_];· exact h2
  obtain⟨cur,e',hc⟩:=R.gY hmu hh;rw[hc]at h2;cases h2) s (hv _ (by simp) (λu hu=>by simp[hu]) _ g) ?_ ?_ ?_ ?_ (λu B hu=>Nat.le_trans (R.mrk u B (xw (by intro B;simp) hu)) hsz) hd
 .intro k h1 h2;refine hk k (Nat.lt_of_lt_of_le h1 R.size) λhh=>?_;rcases DD.head R hmu hh with h3|h3
  .omega
  .exact h2 h3
 .intro u st1 e1 sz1 BU hu;have huh:u≠h:=by
   intro e;subst e;rw[aO]at hu;cases hu
  rw[aJ _ _ huh]at hu;simp only[if_neg huh];exact(R.own u _ _ _ _ hu).mono g λk hk'=>hoth u huh k hk' (by rw[hu];trivial)
 .intro u st1 e1 sz1 BU hu;have huh:u≠h:=by
   intro e;subst e;rw[aO]at hu;cases hu
  rw[aJ _ _ huh]at hu;simp only[if_neg huh];exact⟨(R.frz u _ _ _ _ hu).1,(R.frz u _ _ _ _ hu).2.1.mono g,(R.frz u _ _ _ _ hu).2.2⟩
 .intro u u' hne hm hm' k hh hh';by_cases hu:u=h
  .subst hu;have hu':u'≠u:=λe=>hne e.symm
   simp only[if_pos]at hh;simp only[if_neg hu']at hh';rw[aJ _ _ hu']at hm';exact key u' hu' hm' k hh hh'
  .by_cases hu':u'=h
   .subst hu';simp only[if_neg hu]at hh;simp only[if_pos]at hh';rw[aJ _ _ hu]at hm;exact key u hu hm k hh' hh
   .simp only[if_neg hu]at hh;simp only[if_neg hu']at hh';rw[aJ _ _ hu]at hm;rw[aJ _ _ hu']at hm';exact R.dis u u' hne hm hm' k hh hh'
 .intro u st1 e1 BU hu;by_cases huh:u=h
  .subst huh;rw[aO]at hu;injection hu with h1 h2 h3;subst h1 h2 h3;simp only[if_pos];exact hown.mono g' s λ_ _=>rfl
  .rw[aJ _ _ huh]at hu;simp only[if_neg huh];exact(R.nst u _ _ _ hu).mono g s λk hk'=>hoth u huh k hk' (by rw[hu];trivial)
theorem Rel.b0L (R:Rel G M w0 D0 N f H β a w){k s e sz:Nat}{fz:Bool}{rows:List (List IV)}(hH:H k=.blk fz s e sz rows):(β k).oneCell'=true:=by
 obtain⟨ad,cap,hb,_⟩:=R.jl hH;rw[hb];rfl
def NS (H:Hp):AV->Option (Prop×List Nat)
 |.iv _=>some (True,[])
 |.oG=>some (True,[])
 |.hs k s=>match H k with
  |.blk _ s' _ _ _=>some (s=s',[k])
  |.nst s' _ _=>some (s=s',[k])
  |_=>none
 |.hv k s _ _=>match H k with
  |.blk _ s' _ _ _=>some (s=s',[k])
  |_=>none
 |_=>none
theorem NQ (R:Rel G M w0 D0 N f H β a w){x:AV}{u:Value}(hx:aG w (DD H β D0) H β x u){c:Prop}{rd:List Nat}(h:NS H x=some (c,rd))(hc:c):u.oneCell'=true/\u.cells = #[u]:=by
 have sl:∀ad n cap,u=.slice ad n cap->u.oneCell'=true/\u.cells = #[u]:=by rintro ad n cap rfl;exact⟨rfl,rfl⟩
 unfold NS at h;split at h
 .simp only[aG]at hx;refine⟨hx.one,?_⟩;have hv:=hx.one;cases u<;>first|rfl|(simp[Value.oneCell']at hv)
 .simp only[aG]at hx;exact sl _ _ _ hx
 .rename_i k s;split at h
  .rename_i fz s' e' sz' rows' hK;injection h with h;injection h with e1 e2;subst e1;simp only[aG]at hx;obtain⟨ad,cap,hb,_⟩:=R.jl hK;exact sl _ _ _ ((hx.2 (by rw[hK];exact hc)).trans hb)
  .rename_i s' e' rows' hK;injection h with h;injection h with e1 e2;subst e1;simp only[aG]at hx;obtain⟨ad,cap,hb,_⟩:=R.yR hK;exact sl _ _ _ ((hx.2 (by rw[hK];exact hc)).trans hb)
  .cases h
 .rename_i k s off len;split at h
  .rename_i fz s' e' sz' rows' hK;injection h with h;injection h with e1 e2;subst e1;simp only[aG]at hx;rcases hx.2 (by rw[hK];exact hc) with ⟨_,ad,cap,hv,_⟩|⟨g,n,cap,cap',_,hv,_⟩
   .exact sl _ _ _ hv
   .exact sl _ _ _ hv
  .cases h
 .cases h
def Vf:IV->AV
 |.own none _ _ _=>.oG
 |x=>.iv x
theorem a0M {D:Nat->Prop}{x:IV}{v:Value}(h:Rep w D x v):aG w D H β (Vf x) v:=by
 unfold Vf;split
 .cases h;simp only[aG]
 .simpa only[aG] using h
theorem BI {D:Nat->Prop}:∀{xs:List IV} {vs:List Value},eF w D xs vs->aS w D H β (xs.map Vf) vs
 |[],[],_=>by simp[aS]
 |x::xs,v::vs,h=>by simp only[List.map_cons,aS];exact⟨a0M h.1,BI h.2⟩
 |[],_::_,h=>h.elim
 |_::_,[],h=>h.elim
def uq (T:TI)(H:Hp)(x v:AV):Option AR :=
 match x with
 |.hp h st i off=>match H h with
  |.nst st' e rows=>match v with
   |.agg (x1::x2::l)=>some ⟨T.ok=true/\T.size=(x1::x2::l).length/\rows.length=(x1::x2::l).length/\st=st'/\i+off=0,.undef,[],[(h,.nst st e ((x1::x2::l).map Vf))],[h]⟩
   |v=>match NS H v with
    |some (c,rd)=>some ⟨T.ok=true/\T.size=1/\st=st'/\i+off<rows.length/\c,.undef,[],[(h,.nst st e (rows.set (i+off) v))],h::rd⟩
    |none=>none
  |_=>y7 T H x v
 |_=>y7 T H x v
theorem IX {P:Program}{t:Nat}(R:Rel G M w0 D0 N f H β a w){x y:AV}{v u:Value}(hx:aG w (DD H β D0) H β x v)(hy:aG w (DD H β D0) H β y u){r:AR}(hr:uq (ti P t) H x y=some r)(hc:r.c){dst:Option Nat}(hd:∀d,dst=some d->d<N) :
  r.v=.undef/\∃w' β',(Instr.storeAt t v u).run P w=.ok () w'/\Rel G M w0 D0 N (iY f dst r.v) (dA r.hs (aQ r.fz H)) β' (a.put dst Go.undef) w':=by
 unfold uq at hr;split at hr
 .rename_i h st i off;split at hr
  .rename_i st' e rows hH;split at hr
   .rename_i x1 x2 l;injection hr with hr;subst hr;obtain⟨hok,hsz,hlen,hst,hi⟩:=hc;subst hst;have hrep:eF w (DD H β D0) (x1::x2::l) u.cells.toList:=jF (c:=True) (fz:=[]) R hy (by rfl) trivial;simp only[aG]at hx;obtain⟨g',n',cap',hb',rfl⟩:=hx.2 (by rw[hH];rfl);rcases R.nst h _ _ _ hH with ⟨rfl,hv⟩|⟨g,cap,cur,hv,hB,hg,h1,h2,h3,h4⟩
    .simp at hlen
    rw[hv]at hb';injection hb' with e1 e2 e3;injection e1 with e1;injection e1 with e1 e4;subst e1
    have hul:u.cells.size=(x1::x2::l).length:=by rw[<-Array.length_toList,<-hrep.length]
    have hml:((x1::x2::l).map Vf).length=rows.length:=by rw[List.length_map,hlen]
    generalize (x1::x2::l)=cl at *;have hfit:0+u.cells.size<=cur.size:=by omega
    have hmu:(H h).gB:=by rw[hH];trivial
    have hsv:=sD (P:=P) (t:=t) (w:=w) hok (g:=g) (o:=0) (v:=u) hg (by rw[hul,hsz]) hfit hrep.one;have hset:=setRow_heap w g cur (cur.toList.take 0++u.cells.toList++cur.toList.drop (0+u.cells.size)).toArray e (0,0) hg;have gr:dh w (DD H β D0) (w.setRow g (cur.toList.take 0++u.cells.toList++cur.toList.drop (0+u.cells.size)).toArray) (λb=>DD H β D0 b\/bD (β h)=some b):=by
     refine⟨by simp,λb _ hd'=>?_,λb _ hn=>?_⟩
     .rcases hd' with h'|h'
      .exact h'
      .exact .inr ⟨h,hmu,h'⟩
     .exact λ_=>setRow_other w g b _ (λe=>hn (.inr ⟨h,hmu,by rw[hv,e];rfl⟩))
    have htake:(cur.toList.take 0++u.cells.toList++cur.toList.drop (0+u.cells.size)).take rows.length=u.cells.toList:=by
     rw[List.take_zero,List.nil_append,List.take_append_of_le_length (by have:=Array.length_toList (xs:=u.cells);omega),List.take_of_length_le (by have:=Array.length_toList (xs:=u.cells);omega)]
    have hown':UQ (w.setRow g (cur.toList.take 0++u.cells.toList++cur.toList.drop (0+u.cells.size)).toArray) (λb=>DD H β D0 b\/bD (β h)=some b) H β w0.heap.size M (β h) e (cl.map Vf):=by
     refine .inr ⟨g,cap,_,by rw[hv,hml],hB,hset,by rw[hml];exact h1,h2,by rw[List.size_toArray];simp only[List.length_append,List.length_drop,List.take_zero,List.length_nil,Array.length_toList];omega,?_⟩;rw[hml];simp only[];rw[htake];exact⟨BI (hrep.mono gr),hrep.one⟩
    obtain⟨β',hb',_,R'⟩:=R.b0Q (w':=w.setRow g (cur.toList.take 0++u.cells.toList++cur.toList.drop (0+u.cells.size)).toArray) (st':=st) (rows':=cl.map Vf) (v:=β h) (dst:=dst) (x:=.undef) (val:=Go.undef) hH (.inl ⟨rfl,rfl⟩) rfl rfl rfl (by simp)
     (λk hk hn=>setRow_other w g k _ (λe=>hn (by rw[hv,e];rfl))) hown' (λk hk=>.inl hk) (λ_ _ _ _ _=>by simp[aG]) hd
    refine⟨rfl,_,β',?_,R'⟩;simp only[Instr.storeAt,Instr.sureAddr,Sem.run_bind,Sem.run_pure,Result.andThen_ok,hH,HC.esz,Nat.mul_one,hi];exact hsv
   split at hr
   .rename_i co rd b2U;injection hr with hr;subst hr;obtain⟨hok,hsz,hst,hi,hs⟩:=hc;subst hst;obtain⟨hone,hcs⟩:=NQ R hy b2U hs;simp only[aG]at hx;obtain⟨g',n',cap',hb',rfl⟩:=hx.2 (by rw[hH];rfl);rcases R.nst h _ _ _ hH with ⟨rfl,hv⟩|⟨g,cap,cur,hv,hB,hg,h1,h2,h3,h4⟩
    .simp at hi
    rw[hv]at hb';injection hb' with e1 e2 e3;injection e1 with e1;injection e1 with e1 e4;subst e1
    have hfit:i+off+1<=cur.size:=by omega
    have hmu:(H h).gB:=by rw[hH];trivial
    have hsv:=sD (P:=P) (t:=t) (w:=w) hok (g:=g) (o:=i+off) (v:=u) hg (by rw[hcs,hsz];rfl) (by rw[hcs];exact hfit) (by rw[hcs];simpa using hone);rw[hcs]at hsv;simp only[List.size_toArray,List.length_cons,List.length_nil,Nat.zero_add]at hsv;have hset:=setRow_heap w g cur (cur.toList.take (i+off)++[u]++cur.toList.drop (i+off+1)).toArray e (0,0) hg;have gr:dh w (DD H β D0) (w.setRow g (cur.toList.take (i+off)++[u]++cur.toList.drop (i+off+1)).toArray) (λb=>DD H β D0 b\/bD (β h)=some b):=by
     refine⟨by simp,λb _ hd'=>?_,λb _ hn=>?_⟩
     .rcases hd' with h'|h'
      .exact h'
      .exact .inr ⟨h,hmu,h'⟩
     .exact λ_=>setRow_other w g b _ (λe=>hn (.inr ⟨h,hmu,by rw[hv,e];rfl⟩))
    have htake:(cur.toList.take (i+off)++[u]++cur.toList.drop (i+off+1)).take rows.length=(cur.toList.take rows.length).set (i+off) u:=by
     rw[<-List.take_set,List.set_eq_take_append_cons_drop,if_pos (by simp;omega)];simp
    have hown':UQ (w.setRow g (cur.toList.take (i+off)++[u]++cur.toList.drop (i+off+1)).toArray) (λb=>DD H β D0 b\/bD (β h)=some b) H β w0.heap.size M (β h) e (rows.set (i+off) y):=by
     refine .inr ⟨g,cap,_,by rw[hv];simp,hB,hset,by simpa using h1,h2,by simp;omega,?_⟩;simp only[List.length_set];rw[htake];refine⟨aS.mono gr (jV.refl _ _) _ _ (aS.set hy (i+off) h4.1),λx hx=>?_⟩;rcases List.mem_or_eq_of_mem_set hx with hx|hx
     .exact h4.2 x hx
     .rw[hx];exact hone
    obtain⟨β',hb',_,R'⟩:=R.b0Q (w':=w.setRow g (cur.toList.take (i+off)++[u]++cur.toList.drop (i+off+1)).toArray) (st':=st) (rows':=rows.set (i+off) y) (v:=β h) (dst:=dst) (x:=.undef) (val:=Go.undef) hH (.inl ⟨rfl,rfl⟩) rfl rfl rfl (by simp)
     (λk hk hn=>setRow_other w g k _ (λe=>hn (by rw[hv,e];rfl))) hown' (λk hk=>.inl hk) (λ_ _ _ _ _=>by simp[aG]) hd
    refine⟨rfl,_,β',?_,R'⟩;simp only[Instr.storeAt,Instr.sureAddr,Sem.run_bind,Sem.run_pure,Result.andThen_ok,hH,HC.esz,Nat.mul_one];exact hsv
   .cases hr
  .exact zZ R hx hy hr hc hd
 .exact zZ R hx hy hr hc hd
theorem Rel.b3R (R:Rel G M w0 D0 N f H β a w){d e:Nat}{cells:List IV}{v:Value}(hr:eF w (DD H β D0) cells v.cells.toList)(hn:cells.length<=1000)(hd:d<N) :
  ∃β',Rel G M w0 D0 N (upd f d (.hp d ((H d).stamp+1) 0 0)) (dF H d (.nst ((H d).stamp+1) e (cells.map Vf))) β' (a.put (some d) (.pointer (some ⟨w.heap.size,0,none⟩))) (w.alloc (.cells v.cells e)):=by
 have hl:=hr.length;have hg:dh w (DD H β D0) (w.alloc (.cells v.cells e)) (λb=>DD H β D0 b\/bD (.slice (some ⟨w.heap.size,0,none⟩) cells.length cells.length)=some b):=by
  refine⟨by simp,λb hb hd=>?_,λb hb _ _=>heap_alloc_old w _ hb⟩;rcases hd with hd|hd
  .exact hd
  .simp[bD]at hd;omega
 obtain⟨β',_,_,R'⟩:=R.b0T (w':=w.alloc (.cells v.cells e)) (h:=d) (e:=e) (rows:=cells.map Vf) (v:=.slice (some ⟨w.heap.size,0,none⟩) cells.length cells.length) (dst:=some d) (x:=.hp d ((H d).stamp+1) 0 0) (val:=.pointer (some ⟨w.heap.size,0,none⟩)) (st:=(H d).stamp+1) (by omega) rfl rfl rfl (by simp) (λk hk=>heap_alloc_old w _ hk)
  (.inr ⟨w.heap.size,cells.length,v.cells,by simp,.inl (Nat.le_refl _),heap_alloc_new w _,by simp,by simp[maxLen];omega,by rw[hl];simp,by
   rw[List.length_map,List.take_of_length_le (by rw[hl];exact Nat.le_refl _)];exact⟨BI (hr.mono hg),hr.one⟩⟩)
  (λβ' hb D=>by
   simp only[aG,aO,HC.stamp,HC.esz];exact⟨Nat.le_refl _,λ_=>⟨_,_,_,hb,by simp⟩⟩) (by rintro _ ⟨⟩;exact hd)
 exact⟨β',R'⟩
def uy [zi:Zi] (T:TI)(H:Hp)(e d:Nat):Option AR :=
 match zi.bx d with
 |true=>some ⟨T.zok=true/\T.zero.length<=1000,.hp d ((H d).stamp+1) 0 0,[],[(d,.nst ((H d).stamp+1) e (T.zero.map Vf))],[]⟩
 |false=>DT T H e d
def LY [zi:Zi] (T:TI)(H:Hp)(e d:Nat)(x:AV):Option AR :=
 match zi.bx d with
 |true=>match oL H x with
  |some (c,cells,fz)=>some ⟨c/\d∉fz/\cells.length<=1000,.hp d ((H d).stamp+1) 0 0,fz,[(d,.nst ((H d).stamp+1) e (cells.map Vf))],[]⟩
  |none=>none
 |false=>a8B T H e d x
theorem J5 {P:Program}{e d:Nat}(R:Rel G M w0 D0 N f H β a w)(hd:d<N){r:AR}(hr:uy (ti P e) H e d=some r)(hc:r.c) :
  ∃u w' β',(Instr.alloc e true (.tuple #[])).run P w=.ok u w'/\Rel G M w0 D0 N (iY f (some d) r.v) (dA r.hs (aQ r.fz H)) β' (a.put (some d) u) w':=by
 unfold uy at hr;split at hr
 .injection hr with hr;subst hr;obtain⟨z,hz,h1,h0,h2,h3⟩:=iZ (P:=P) w hc.1;obtain⟨β',R'⟩:=R.b3R (e:=e) (cells:=(ti P e).zero) (v:=z) (by rw[h2];exact xR w _ _ h3) hc.2 hd;refine⟨_,_,β',?_,R'⟩;simp only[Instr.alloc,Sem.run_bind,hz,Result.andThen_ok,newVar,newRow,run_newObj,Sem.run_pure];rfl
 .exact Mc R hd hr hc
theorem P9 {P:Program}{T:TI}{e d:Nat}(R:Rel G M w0 D0 N f H β a w){x:AV}{v:Value}(hx:aG w (DD H β D0) H β x v)(hd:d<N){r:AR}(hr:LY T H e d x=some r)(hc:r.c) :
  ∃u w' β',(Instr.box e v).run P w=.ok u w'/\Rel G M w0 D0 N (iY f (some d) r.v) (dA r.hs (aQ r.fz H)) β' (a.put (some d) u) w':=by
 unfold LY at hr;split at hr
 .split at hr
  .rename_i c cells fz ht;injection hr with hr;subst hr;have hrep:=jF R hx ht hc.1;have R1:=R.aQ fz;obtain⟨β',R'⟩:=R1.b3R (e:=e) (v:=v) hrep hc.2.2 hd;refine⟨.pointer (some ⟨w.heap.size,0,none⟩),w.alloc (.cells v.cells e),β',?_,?_⟩
   .simp only[Instr.box,newVar,newRow,Sem.run_bind,run_newObj,Result.andThen_ok,Sem.run_pure];rfl
   .simp only[nJ hc.2.1]at R' ⊢;exact R'
  .cases hr
 .exact UH R hx hd hr hc
theorem Qi {D:Nat->Prop}:∀{vs us:List Value},eF w D (vs.map IV.raw) us->us=vs/\∀v∈vs,v.oneCell'=true
 |[],[],_=>⟨rfl,by simp⟩
 |v::vs,u::us,h=>by
  simp only[List.map_cons,eF]at h;obtain⟨h1,h2⟩:=Qi h.2;cases h.1 with
  |raw _ ho=>exact⟨by rw[h1],λx hx=>by
    rcases List.mem_cons.1 hx with rfl|hx
    .exact ho
    .exact h2 x hx⟩
 |[],_::_,h=>h.elim
 |_::_,[],h=>by simp[eF]at h
theorem Qm {D:Nat->Prop}:∀{vs:List Value},(∀v∈vs,v.oneCell'=true)->eF w D (vs.map IV.raw) vs
 |[],_=>trivial
 |v::vs,h=>⟨.raw v (h v (by simp)),Qm λu hu=>h u (by simp[hu])⟩
theorem Ri (vs:List Value):(vs.map λv=>[IV.raw v]).flatten=vs.map IV.raw:=by
 induction vs with
 |nil=>rfl
 |cons v vs ih=>simp[ih]
theorem Rel.conv (R:Rel G M w0 D0 N f H β a w){h:Nat}{c:HC}(hs:c.stamp=(H h).stamp)(he:c.esz=(H h).esz)(hm:c.gB↔(H h).gB)
  (own':∀st e sz rows,c=.blk false st e sz rows->Own w (DD H β D0) w0.heap.size M (β h) e sz rows)
  (b2M:∀st e rows,c=.nst st e rows->UQ w (DD H β D0) H β w0.heap.size M (β h) e rows)
  (hf:∀st e sz rows,c≠.blk true st e sz rows) (hb:∀B,c≠.mrk B:=by intro B;simp) (hti:∀x v,c≠.tie x v:=by intro x v;simp):Rel G M w0 D0 N f (dF H h c) β a w:=by
 have DZ:∀u,(dF H h c u).gB↔(H u).gB:=λu=>by
  by_cases hu:u=h
  .subst hu;rw[aO];exact hm
  .rw[aJ _ _ hu]
 have hDD:∀b,DD (dF H h c) β D0 b->DD H β D0 b:=by
  rintro b (hb|⟨k,hm',hk⟩)
  .exact .inl hb
  .exact .inr ⟨k,(DZ k).1 hm',hk⟩
 have g:dh w (DD H β D0) w (DD (dF H h c) β D0):=dh.of_sub hDD;have s:jV H β (dF H h c) β:=λu=>by
  left
  by_cases hu:u=h
  .subst hu;rw[aO];exact⟨hs,he,rfl⟩
  .rw[aJ _ _ hu];exact⟨rfl,rfl,rfl⟩
 have:=R.step (w':=w) (H':=dF H h c) (β':=β) (dst:=none) (v:=.dead) (val:=Go.undef) rfl rfl rfl g (λ_ _ _=>rfl) (λ_ _ h=>h) s (by simp[aG]) ?_ ?_ ?_ ?_ (λu B hu=>R.mrk u B (xw hb hu)) (by simp) (λu x v hu=>Q9 hti hu)
 .exact this
 .intro u st e sz rows hu;by_cases huh:u=h
  .subst huh;rw[aO]at hu;exact(own' _ _ _ _ hu).mono g λ_ _=>rfl
  .rw[aJ _ _ huh]at hu;exact(R.own u _ _ _ _ hu).mono g λ_ _=>rfl
 .intro u st e sz rows hu;by_cases huh:u=h
  .subst huh;rw[aO]at hu;exact(hf _ _ _ _ hu).elim
  .rw[aJ _ _ huh]at hu;exact⟨(R.frz u _ _ _ _ hu).1,(R.frz u _ _ _ _ hu).2.1.mono g,(R.frz u _ _ _ _ hu).2.2⟩
 .intro u u' hne hm1 hm2;exact R.dis u u' hne ((DZ u).1 hm1) ((DZ u').1 hm2)
 .intro u st e rows hu;by_cases huh:u=h
  .subst huh;rw[aO]at hu;exact(b2M _ _ _ hu).mono g s λ_ _=>rfl
  .rw[aJ _ _ huh]at hu;exact(R.nst u _ _ _ hu).mono g s λ_ _=>rfl
abbrev dN (vs:List Value):List (List IV):=vs.map λv=>[IV.raw v]
theorem vI (vs:List Value):∀q∈dN vs,q.length=1:=by
 intro q hq;obtain⟨v,_,rfl⟩:=List.mem_map.1 hq;rfl
def Gh.add (G:Gh)(xs:List AV)(vs:List Value):Gh:=⟨λy u=>G.vals y u\/(y,u)∈xs.zip vs,G.rnd⟩
theorem aS.mem {D:Nat->Prop}:∀{xs:List AV} {vs:List Value},aS w D H β xs vs->∀x v,(x,v)∈xs.zip vs->aG w D H β x v
 |[],[],_,x,v,h=>by simp at h
 |y::xs,u::vs,hx,x,v,h=>by
  simp only[aS]at hx;simp only[List.zip_cons_cons,List.mem_cons,Prod.mk.injEq]at h;rcases h with ⟨rfl,rfl⟩|h
  .exact hx.1
  .exact aS.mem hx.2 x v h
 |[],_::_,hx,_,_,_=>by simp[aS]at hx
 |_::_,[],hx,_,_,_=>by simp[aS]at hx
theorem aS.a4D {D:Nat->Prop}:∀{xs:List AV} {vs:List Value},xs.length=vs.length->(∀x v,(x,v)∈xs.zip vs->aG w D H β x v)->aS w D H β xs vs
 |[],[],_,_=>by simp[aS]
 |y::xs,u::vs,hl,h=>by
  simp only[aS];exact⟨h y u (by simp),aS.a4D (by simpa using hl) λx v hm=>h x v (by simp[hm])⟩
 |[],_::_,hl,_=>by simp at hl
 |_::_,[],hl,_=>by simp at hl
theorem Rel.b1F (R:Rel G M w0 D0 N f H β a w){xs:List AV}{vs:List Value}(hx:aS w (DD H β D0) H β xs vs):Rel (G.add xs vs) M w0 D0 N f H β a w :=
 ⟨R.os,R.tape,R.output,R.size,R.keep,R.old,R.rV,R.defers,R.rnd,R.a1X,λx v hp=>hp.elim (R.gh x v) (hx.mem x v),R.tmps,R.own,R.frz,R.dis,R.nst,R.mrk,R.tie⟩
theorem Rel.zo {xs:List AV}{vs:List Value}(hl:xs.length=vs.length)(R:Rel (G.add xs vs) M w0 D0 N f H β a w):Rel G M w0 D0 N f H β a w/\aS w (DD H β D0) H β xs vs :=
 ⟨⟨R.os,R.tape,R.output,R.size,R.keep,R.old,R.rV,R.defers,R.rnd,R.a1X,λx v hp=>R.gh x v (.inl hp),R.tmps,R.own,R.frz,R.dis,R.nst,R.mrk,R.tie⟩,aS.a4D hl λx v hm=>R.gh x v (.inr hm)⟩
theorem oH (H:Hp)(h:Nat)(c c':HC):dF (dF H h c) h c'=dF H h c':=by
 funext u
 unfold dF;split<;>rfl
theorem Jr (H:Hp){h k:Nat}(c c':HC)(e:h≠k):dF (dF H h c) k c'=dF (dF H k c') h c:=by
 funext u
 unfold dF;by_cases h1:u=h
 .subst h1;rw[if_neg e];simp[e]
 .by_cases h2:u=k
  .subst h2;simp[h1]
  .simp[h1,h2]
theorem Jq (H:Hp){h:Nat}{c:HC}(e:H h=c):dF H h c=H:=by
 funext u
 unfold dF;split
 .rename_i hu;rw[hu,e]
 .rfl
theorem Rel.a4g (R:Rel G M w0 D0 N f H β a w){h st e:Nat}{rows:List AV}(hH:H h=.nst st e rows) :
  ∃vs:List Value,aS w (DD (dF H h (.blk false st e 1 (dN vs))) β D0) (dF H h (.blk false st e 1 (dN vs))) β rows vs/\Rel G M w0 D0 N f (dF H h (.blk false st e 1 (dN vs))) β a w:=by
 rcases R.nst h _ _ _ hH with ⟨rfl,hv⟩|⟨g,cap,cur,hv,hB,hg,h1,h2,h3,h4,h5⟩
 .refine⟨[],by simp[aS],R.conv (by rw[hH];rfl) (by rw[hH];rfl) (by rw[hH];simp[HC.gB]) ?_ (λ_ _ _ h=>by cases h) (λ_ _ _ _ h=>by cases h)⟩;intro st' e' sz' rows' hc;injection hc with _ q1 q2 q3 q4;subst q1 q2 q3 q4;exact⟨by simp,.inl ⟨rfl,hv⟩⟩
 .have hlen:=h4.length;have hl:(dN (cur.toList.take rows.length)).length=rows.length:=by rw[List.length_map];exact hlen.symm
  have R1:Rel (G.add rows (cur.toList.take rows.length)) M w0 D0 N f (dF H h (.blk false st e 1 (dN (cur.toList.take rows.length)))) β a w:=by
   refine(R.b1F h4).conv (by rw[hH];rfl) (by rw[hH];rfl) (by rw[hH];simp[HC.gB]) ?_ (λ_ _ _ h=>by cases h) (λ_ _ _ _ h=>by cases h);intro st' e' sz' rows' hc;injection hc with _ q1 q2 q3 q4;subst q1 q2 q3 q4;refine⟨vI _,.inr ⟨g,cap,cur,by rw[hl];exact hv,hB,hg,by rw[hl];exact h1,h2,by omega,?_⟩⟩;rw[hl,Ri,Nat.mul_one];exact Qm h5
  exact⟨_,(R1.zo hlen).2,(R1.zo hlen).1⟩
theorem Rel.nest (R:Rel G M w0 D0 N f H β a w){h st e:Nat}{vs:List Value}{xs:List AV}(hH:H h=.blk false st e 1 (dN vs))(hx:aS w (DD H β D0) H β xs vs) :
  Rel G M w0 D0 N f (dF H h (.nst st e xs)) β a w:=by
 have hlen:=hx.length;refine R.conv (by rw[hH];rfl) (by rw[hH];rfl) (by rw[hH];simp[HC.gB]) (λ_ _ _ _ h=>by cases h) ?_ (λ_ _ _ _ h=>by cases h);intro st' e' rows' hc;injection hc with q1 q2 q3;subst q1 q2 q3;have hl:(dN vs).length=xs.length:=by rw[List.length_map];exact hlen.symm
 rcases (R.own h _ _ _ _ hH).2 with ⟨hn,hv⟩|⟨g,cap,cur,hv,hB,hg,h1,h2,h3,h4⟩
 .refine .inl ⟨?_,hv⟩;have:xs.length=0:=by rw[<-hl,hn];rfl
  exact List.eq_nil_of_length_eq_zero this
 .rw[hl]at hv h1 h4;rw[Ri,Nat.mul_one]at h4;obtain⟨q1,q2⟩:=Qi h4;exact .inr ⟨g,cap,cur,hv,hB,hg,h1,h2,by omega,by rw[q1];exact hx,by rw[q1];exact q2⟩
def iw (T:TI)(H:Hp)(e d n:Nat)(idx:List Nat)(xs:List AV):Option AR :=
 match xs with
 |[.hs k s]=>if k<1000 then iW T H e d n idx [.hs k s] else match H k with
  |.blk _ s' _ _ _=>some ⟨s=s'/\T.ok=true/\T.zok=true/\T.size=1/\n=1/\idx=[0],.hs d ((H d).stamp+1),[],[(d,.nst ((H d).stamp+1) e [.hs k s])],[k]⟩
  |_=>none
 |_=>iW T H e d n idx xs
theorem yg {P:Program}{t e d n:Nat}(ht:(ti P t).desc=.sl e)(R:Rel G M w0 D0 N f H β a w){idx:List Nat}{xs:List AV}{vs:List Value}(hil:idx.length=xs.length)(hx:jh w (DD H β D0) H β xs vs)(hd:d<N){r:AR}(hr:iw (ti P e) H e d n idx xs=some r)(hc:r.c) :
  ∃z w' β',(Instr.buildSlice t n (idx.zip vs).toArray).run P w=.ok z w'/\Rel G M w0 D0 N (iY f (some d) r.v) (dA r.hs (aQ r.fz H)) β' (a.put (some d) z) w':=by
 unfold iw at hr;split at hr
 .rename_i k s;split at hr
  .exact kM ht R hil hx hd hr hc
  .split at hr
   .rename_i fz s' e' sz' rows' hK;injection hr with hr;subst hr;obtain⟨hs,hok,hz,hsz,hn,hidx⟩:=hc;cases hx with
    |cons hx1 hx2 =>
    cases hx2;rename_i v;have b5t:=hx1;simp only[aG]at hx1;have hv:=hx1.2 (by rw[hK];exact hs);have hone:v.oneCell'=true:=by rw[hv];exact R.b0L hK
    obtain⟨z,w',β',hrun,R'⟩:=kM (n:=n) (idx:=idx) (d:=d) (xs:=[.iv (.raw v)]) (vs:=[v]) ht (R.b1F (xs:=[.hs k s]) (vs:=[v]) (by simp only[aS];exact⟨b5t,trivial⟩)) (by rw[hidx];rfl) (.cons (by simp only[aG];exact .raw v hone) .nil) hd
     (r:=⟨(True/\True)/\(ti P e).ok=true/\(ti P e).zok=true/\n*(ti P e).size<=16777216/\d∉[]++[]/\(∀cs∈[[IV.raw v]],cs.length=(ti P e).size)/\idx=List.range n,.hs d ((H d).stamp+1),[]++[],[(d,.blk false ((H d).stamp+1) e (ti P e).size [[IV.raw v]])],[]⟩) rfl
     ⟨⟨trivial,trivial⟩,hok,hz,by rw[hn,hsz];omega,by simp,by simp[hsz],by rw[hidx,hn];rfl⟩
    refine⟨z,w',β',hrun,?_⟩;simp only[dA,List.append_nil,aQ]at R' ⊢;rw[hsz]at R';obtain⟨R2,hxs⟩:=R'.zo rfl;have R3:=R2.nest (h:=d) (vs:=[v]) (xs:=[.hs k s]) (aO _ _ _) hxs;rw[oH]at R3;exact R3
   .cases hr
 .exact kM ht R hil hx hd hr hc
def qY (T:TI)(H:Hp)(e d:Nat)(x y:AV):Option AR :=
 match y with
 |.hs k s=>match H k with
  |.nst s' e2 src=>match x with
   |.oG=>some ⟨s=s'/\T.ok=true/\T.zok=true/\T.size=1/\src.length*T.bytes<=140737488355328/\src.length<=maxLen/\k≠d,.hs d ((H d).stamp+1),[],[(d,.nst ((H d).stamp+1) e src)],[k]⟩
   |.hs h st=>match H h with
    |.nst st' e' rows=>some ⟨s=s'/\T.ok=true/\T.zok=true/\T.size=1/\st=st'/\e'=e/\(rows.length+src.length)*T.bytes<=140737488355328/\rows.length+src.length<=maxLen/\k≠h,.hs h (st+1),[],[(h,.nst (st+1) e (rows++src))],[h,k]⟩
    |_=>none
   |_=>none
  |_=>nO T H e d x y
 |_=>nO T H e d x y
def Ve:AV->AV
 |.hw h st=>.hs h st
 |x=>x
theorem G5 {D:Nat->Prop}{x:AV}{v:Value}(h:aG w D H β x v):aG w D H β (Ve x) v:=by
 unfold Ve;split
 .simpa only[aG] using h
 .exact h
def yu (T:TI)(H:Hp)(e h st:Nat)(y:AV):Option AR :=
 match kZ H y with
 |some (c,src,rd)=>match H h with
  |.blk false st' e' sz rows=>some ⟨c/\T.ok=true/\T.zok=true/\(∀r∈src,r.length=T.size)/\st=st'/\e'=e/\sz=T.size/\(rows.length+src.length)*T.bytes<=140737488355328/\rows.length+src.length<=maxLen,.dead,[],[(h,.blk false st e sz rows)],h::rd⟩
  |_=>none
 |none=>none
theorem Ee {P:Program}{t t2 e d h st:Nat}(ht:(ti P t).desc=.sl e){e2:Nat}(ht2:(ti P t2).desc=.sl e2)(R:Rel G M w0 D0 N f H β a w){y:AV}{v u:Value}(hx:aG w (DD H β D0) H β (.hw h st) v)(hy:aG w (DD H β D0) H β y u)(hd:d<N){r:AR}(hr:yu (ti P e) H e h st y=some r)(hc:r.c){ty:Nat} :
  ∃z w' β',(Builtin.append_ #[t,t2] ty #[v,u]).run P w=.ok z w'/\Rel G M w0 D0 N (iY f (some d) r.v) (dA r.hs (aQ r.fz H)) β' (a.put (some d) z) w':=by
 have hu:=mZ ht;unfold yu at hr;split at hr
 .rename_i c src rd hs;split at hr
  .rename_i st' e' sz rows hH;injection hr with hr;subst hr;obtain⟨hc1,hok,hz,hsz,hst,he,hss,hb,hm⟩:=hc;subst hst he hss;obtain⟨ad,cap,rfl,news,h1,h2,h3⟩:=jO R hy hs hc1 hsz;obtain⟨i,z,hi,hz0,hzs,hz1,hz2,hz2b,hz3,hz4⟩:=BJ hz;simp only[aG]at hx;have hv:=hx.2 (by rw[hH];rfl);subst hv;have hnl:news.length=src.length*i.size:=by rw[<-h1.length,dK src h2,hz2]
   have hown:=R.own h _ _ _ _ hH;have hmu:(H h).gB:=by rw[hH];trivial
   have fin:∀(w':World) (z':Value),w'.os=w.os->w'.tape=w.tape->w'.output=w.output->w.heap.size<=w'.heap.size->(∀k,k<w.heap.size->bD (β h)≠some k->w'.heap[k]?=w.heap[k]?) ->
     Own w' (λb=>DD H β D0 b\/bD (β h)=some b) w0.heap.size M (β h) e' (ti P e').size rows ->
     ∃β',Rel G M w0 D0 N (iY f (some d) .dead) (dF H h (.blk false st e' (ti P e').size rows)) β' (a.put (some d) z') w':=by
    intro w' z' ho htp hout hsize hkeep hown';obtain⟨β',_,_,R'⟩:=R.grow (w':=w') (st':=st) (rows':=rows) (v:=β h) (dst:=some d) (x:=.dead) (val:=z') hH (.inl ⟨rfl,rfl⟩) ho htp hout hsize hkeep hown' (λk hk=>.inl hk)
     (λβ' hb _ D _=>by simp only[aG]) (by rintro _ ⟨⟩;exact hd)
    exact⟨β',R'⟩
   have same:∀w':World,w.heap.size<=w'.heap.size->(∀k,k<w.heap.size->w'.heap[k]?=w.heap[k]?)->Own w' (λb=>DD H β D0 b\/bD (β h)=some b) w0.heap.size M (β h) e' (ti P e').size rows:=by
    intro w' h1 h2;refine hown.mono ⟨h1,λb _ hb'=>?_,λb hb _ _=>h2 b hb⟩ λk hk=>h2 k (hown.lt hk).1;rcases hb' with h'|h'
    .exact h'
    .exact .inr ⟨h,hmu,h'⟩
   by_cases h0:src.length=0
   .have hsrc:src=[]:=List.eq_nil_of_length_eq_zero h0;subst hsrc;rcases hown.2 with ⟨_,hb'⟩|⟨g,cap',cur,hb',hB,hg,h4,_⟩
    .obtain⟨β',R'⟩:=fin w (β h) rfl rfl rfl (Nat.le_refl _) (λ_ _ _=>rfl) (same w (Nat.le_refl _) λ_ _=>rfl);rw[hb']at R' ⊢;exact⟨_,w,β',(dV hu (mZ ht2) _ _ _ _).trans (iQ hu hi (Nat.le_refl _)),R'⟩
    .obtain⟨β',R'⟩:=fin w (β h) rfl rfl rfl (Nat.le_refl _) (λ_ _ _=>rfl) (same w (Nat.le_refl _) λ_ _=>rfl);rw[hb']at R' ⊢;exact⟨_,w,β',(dV hu (mZ ht2) _ _ _ _).trans (iQ hu hi h4),R'⟩
   .obtain⟨g',o',rfl,hcell⟩:=h3 (λe=>h0 (by rw[e];rfl));have hcell':∀(j:Nat) v,news[j]?=some v->w.cell? ((⟨g',o',none⟩:Addr).add j)=some v:=λj v hj=>by rw[addr_add];exact hcell j v hj
    rcases hown.2 with ⟨hrn,hb'⟩|⟨g,cap',cur,hb',hB,hg,h4,h5,h6,h7⟩
    .have hrun:=run_append_nil (P:=P) w t ty e' i z hu hi hz0 ⟨g',o',none⟩ src.length cap news hnl hcell' (by omega) (by simp only[maxLen]at hm;omega) (by
      rw[<-hz2b];rw[hrn]at hb;simp at hb;omega)
     obtain⟨β',R'⟩:=fin (w.drew.alloc (.cells (news.toArray++Builtin.zeroCells z.cells (grownCap w src.length 0 e'-src.length)) e')) (.slice (some ⟨w.heap.size,0,none⟩) src.length (grownCap w src.length 0 e')) rfl rfl rfl (by simp) (λk hk _=>heap_alloc_old w.drew _ hk)
      (same _ (by simp) λk hk=>heap_alloc_old w.drew _ hk)
     rw[hb'];exact⟨_,_,β',(dV hu (mZ ht2) _ _ _ _).trans hrun,R'⟩
    .have hgl:g<w.heap.size:=(Array.getElem?_eq_some_iff.1 hg).1;have h7l:=h7.length;have hxl:(cur.toList.take (rows.length*(ti P e').size)).length=rows.length*i.size:=by rw[<-h7l,dK rows hown.1,hz2]
     by_cases hroom:rows.length+src.length<=cap'
     .have hfit:rows.length*i.size+news.length<=cur.size:=by rw[hnl,h6,hz2,<-Nat.add_mul];exact Nat.mul_le_mul_right _ hroom
      have hrun:=run_append_room (P:=P) w t ty e' i hu hi g rows.length cap' cur hg ⟨g',o',none⟩ src.length cap news hnl hcell' (h1.one) hroom hfit;have hset:=setRow_heap w g cur (cur.toList.take (rows.length*i.size)++news++cur.toList.drop (rows.length*i.size+news.length)).toArray e' (0,0) hg;obtain⟨β',R'⟩:=fin (w.setRow g (cur.toList.take (rows.length*i.size)++news++cur.toList.drop (rows.length*i.size+news.length)).toArray) (.slice (some ⟨g,0,none⟩) (rows.length+src.length) cap') rfl rfl rfl (by simp)
       (λk hk hn=>setRow_other w g k _ (λe=>hn (by rw[hb',e];rfl)))
       (by
        refine⟨hown.1,.inr ⟨g,cap',_,hb',hB,hset,h4,h5,?_,?_⟩⟩
        .rw[<-h6];simp;omega
        .have e1:(((cur.toList.take (rows.length*i.size)++news++cur.toList.drop (rows.length*i.size+news.length)).toArray).toList.take (rows.length*(ti P e').size))=cur.toList.take (rows.length*(ti P e').size):=by
          rw[<-hz2]at hxl ⊢;simp only[List.append_assoc];rw[List.take_append_of_le_length (by rw[hxl];exact Nat.le_refl _)];exact List.take_of_length_le (by rw[hxl];exact Nat.le_refl _)
         rw[e1];refine h7.mono ⟨by simp,λb _ hd'=>?_,λb _ hn=>?_⟩
         .rcases hd' with h'|h'
          .exact h'
          .exact .inr ⟨h,hmu,h'⟩
         .exact λ_=>setRow_other w g b _ (λe=>hn (.inr ⟨h,hmu,by rw[hb',e];rfl⟩)))
      rw[hb'];exact⟨_,_,β',(dV hu (mZ ht2) _ _ _ _).trans hrun,R'⟩
     .have holds:∀(j:Nat) v,(cur.toList.take (rows.length*(ti P e').size))[j]?=some v->w.cell? ((⟨g,0,none⟩:Addr).add j)=some v:=by
       intro j v hj;rw[addr_add,Nat.zero_add,cell_of_row w g j cur _ (0,0) hg];rw[List.getElem?_take]at hj;split at hj
       .simpa using hj
       .cases hj
      have hrun:=run_append_grow (P:=P) w t ty e' i z hu hi hz0 ⟨g,0,none⟩ rows.length cap' _ hxl holds ⟨g',o',none⟩ src.length cap news hnl hcell' (by omega) (by simp only[maxLen]at hm;omega) (growslice_fits (by omega) (by rw[<-hz2b];exact hb));obtain⟨β',R'⟩:=fin (w.drew.alloc (.cells ((cur.toList.take (rows.length*(ti P e').size)).toArray++news.toArray++Builtin.zeroCells z.cells (grownCap w (rows.length+src.length) cap' e'-(rows.length+src.length))) e')) (.slice (some ⟨w.heap.size,0,none⟩) (rows.length+src.length) (grownCap w (rows.length+src.length) cap' e')) rfl rfl rfl (by simp) (λk hk _=>heap_alloc_old w.drew _ hk)
       (same _ (by simp) λk hk=>heap_alloc_old w.drew _ hk)
      rw[hb'];exact⟨_,_,β',(dV hu (mZ ht2) _ _ _ _).trans hrun,R'⟩
  .cases hr
 .cases hr
def qZ (T:TI)(H:Hp)(e:Nat)(x y:AV):Option AR :=
 match x,y with
 |.hw h st,.iv (.int k n)=>match H h with
  |.blk false st' e' sz rows=>some ⟨T.ok=true/\T.zok=true/\st=st'/\e'=e/\sz=T.size/\0<n/\n<=1000000/\(rows.length+n.toNat)*T.bytes<=140737488355328/\rows.length+n.toNat<=maxLen,.dead,[],[(h,.blk false st e sz rows)],[h]⟩
  |_=>none
 |_,_=>none
theorem sJ {P:Program}(w:World)(t tn ty e:TypeId)(i:TypeInfo)(z:Value)(kq kn:IntKind)(ht:P.underlying t=some (.slice e))(htn:P.underlying tn=some (.int kn))(hi:P.info? e=some i)(hz:i.zero=some z)
  (g sLen sCap:Nat) (cur:Array Value) (hg:w.heap[g]?=some (.cells cur e (0,0))) (k:Nat) (h0:0<k) (hs:0<i.size) (h63:(k:Int)<=9223372036854775807) (h48:k*i.bytes<=281474976710656) (hroom:sLen+k<=sCap)
  (hzs:z.cells.size=i.size) (h1:∀u∈(Builtin.zeroCells z.cells k).toList,u.oneCell'=true) (hfit:sLen*i.size+(Builtin.zeroCells z.cells k).toList.length<=cur.size) :
  (Builtin.append_ #[t,tn] ty #[.slice (some ⟨g,0,none⟩) sLen sCap,.int kq k]).run P w =
   .ok (.slice (some ⟨g,0,none⟩) (sLen+k) sCap) (w.setRow g (cur.toList.take (sLen*i.size)++(Builtin.zeroCells z.cells k).toList++cur.toList.drop (sLen*i.size+(Builtin.zeroCells z.cells k).toList.length)).toArray):=by
 have hst:=run_storeCells_at P g (sLen*i.size) e (Builtin.zeroCells z.cells k).toList 0 cur w hg (by simpa using hfit) h1;simp only[Nat.add_zero]at hst;have hk:k≠0:=by omega
 have hw:IntKind.i64.wrap (k:Int)=k:=by rw[IntKind.wrap_i64];omega
 have h48i:¬(281474976710656<(k:Int)*(i.bytes:Int)):=by
  rw[<-Int.natCast_mul];omega
 have hneg:¬((k:Int)<0):=by omega
 have hns:¬(k*i.size=0):=Nat.mul_ne_zero hk (by omega);simp[Builtin.append_,run_underlying ht,run_underlying htn,sizeOf,typeInfo,zeroValue,hi,hz,asInt,asIntOf,hw,hneg,hns,h48i,hroom,Addr.add_lit];simp only[List.append_assoc,Array.length_toList]at hst ⊢;rw[hst];rfl
theorem Em {P:Program}{t t2 e d:Nat}{kn:IntKind}(ht:(ti P t).desc=.sl e)(ht2:(ti P t2).desc=.int kn)(R:Rel G M w0 D0 N f H β a w){x y:AV}{v u:Value}(hx:aG w (DD H β D0) H β x v)(hy:aG w (DD H β D0) H β y u)(hd:d<N){r:AR}(hr:qZ (ti P e) H e x y=some r)(hc:r.c){ty:Nat} :
  ∃z w' β',(Builtin.append_ #[t,t2] ty #[v,u]).run P w=.ok z w'/\Rel G M w0 D0 N (iY f (some d) r.v) (dA r.hs (aQ r.fz H)) β' (a.put (some d) z) w':=by
 have hu:=mZ ht;have hu2:=a4i ht2;unfold qZ at hr;split at hr
 .rename_i h st kq n;split at hr
  .rename_i st' e' sz rows hH;injection hr with hr;subst hr;obtain⟨hok,hz,hst,he,hss,hn0,hn1,hb,hm⟩:=hc;subst hst he hss;obtain⟨i,z,hi,hz0,hzs,hz1,hz2,hz2b,hz3,hz4⟩:=BJ hz;simp only[aG]at hx hy;cases hy;obtain⟨k,rfl⟩:∃k:Nat,n=k:=⟨n.toNat,by omega⟩;simp only[Int.toNat_natCast]at hb hm;have hv:=hx.2 (by rw[hH];rfl);subst hv;have hk0:0<k:=by omega
   have hown:=R.own h _ _ _ _ hH;have hmu:(H h).gB:=by rw[hH];trivial
   have hzc:∀u∈(Builtin.zeroCells z.cells k).toList,u.oneCell'=true:=by
    intro u hu;simp only[Builtin.zeroCells,Array.toList_map,List.mem_map,Array.toList_range,List.mem_range]at hu;obtain⟨j,hj,rfl⟩:=hu;have hlt:j%z.cells.size<z.cells.size:=Nat.mod_lt _ (by omega);rw[getElem!_pos z.cells (j%z.cells.size) hlt];exact hz4 _ (by simp)
   have hzl:(Builtin.zeroCells z.cells k).toList.length=k*i.size:=by rw[Array.length_toList,size_zeroCells,hzs]
   have fin:∀(w':World) (z':Value),w'.os=w.os->w'.tape=w.tape->w'.output=w.output->w.heap.size<=w'.heap.size->(∀k,k<w.heap.size->bD (β h)≠some k->w'.heap[k]?=w.heap[k]?) ->
     Own w' (λb=>DD H β D0 b\/bD (β h)=some b) w0.heap.size M (β h) e' (ti P e').size rows ->
     ∃β',Rel G M w0 D0 N (iY f (some d) .dead) (dF H h (.blk false st e' (ti P e').size rows)) β' (a.put (some d) z') w':=by
    intro w' z' ho htp hout hsize hkeep hown';obtain⟨β',_,_,R'⟩:=R.grow (w':=w') (st':=st) (rows':=rows) (v:=β h) (dst:=some d) (x:=.dead) (val:=z') hH (.inl ⟨rfl,rfl⟩) ho htp hout hsize hkeep hown' (λk hk=>.inl hk)
     (λβ' hb _ D _=>by simp only[aG]) (by rintro _ ⟨⟩;exact hd)
    exact⟨β',R'⟩
   have same:∀w':World,w.heap.size<=w'.heap.size->(∀k,k<w.heap.size->w'.heap[k]?=w.heap[k]?)->Own w' (λb=>DD H β D0 b\/bD (β h)=some b) w0.heap.size M (β h) e' (ti P e').size rows:=by
    intro w' h1 h2;refine hown.mono ⟨h1,λb _ hb'=>?_,λb hb _ _=>h2 b hb⟩ λk hk=>h2 k (hown.lt hk).1;rcases hb' with h'|h'
    .exact h'
    .exact .inr ⟨h,hmu,h'⟩
   have hkb:k*i.bytes<=140737488355328:=by
    rw[<-hz2b];exact Nat.le_trans (Nat.mul_le_mul_right _ (Nat.le_add_left _ _)) hb
   rcases hown.2 with ⟨hrn,hb'⟩|⟨g,cap',cur,hb',hB,hg,h4,h5,h6,h7⟩
   .have hrun:=Lib.run_append_nil_zeros (P:=P) w t t2 ty e' i z kq kn hu hu2 hi hz0 k hk0 hz1 (by omega) (by omega);obtain⟨β',R'⟩:=fin (w.drew.alloc (.cells (Builtin.zeroCells z.cells k++Builtin.zeroCells z.cells (grownCap w k 0 e'-k)) e')) (.slice (some ⟨w.heap.size,0,none⟩) k (grownCap w k 0 e')) rfl rfl rfl (by simp) (λk hk _=>heap_alloc_old w.drew _ hk)
     (same _ (by simp) λk hk=>heap_alloc_old w.drew _ hk)
    rw[hb'];exact⟨_,_,β',hrun,R'⟩
   .have hgl:g<w.heap.size:=(Array.getElem?_eq_some_iff.1 hg).1;have h7l:=h7.length;have hxl:(cur.toList.take (rows.length*(ti P e').size)).length=rows.length*i.size:=by rw[<-h7l,dK rows hown.1,hz2]
    by_cases hroom:rows.length+k<=cap'
    .have hfit:rows.length*i.size+(Builtin.zeroCells z.cells k).toList.length<=cur.size:=by rw[hzl,h6,hz2,<-Nat.add_mul];exact Nat.mul_le_mul_right _ hroom
     have hrun:=sJ (P:=P) w t t2 ty e' i z kq kn hu hu2 hi hz0 g rows.length cap' cur hg k hk0 hz1 (by omega) (by omega) hroom hzs hzc hfit;have hset:=setRow_heap w g cur (cur.toList.take (rows.length*i.size)++(Builtin.zeroCells z.cells k).toList++cur.toList.drop (rows.length*i.size+(Builtin.zeroCells z.cells k).toList.length)).toArray e' (0,0) hg;obtain⟨β',R'⟩:=fin (w.setRow g (cur.toList.take (rows.length*i.size)++(Builtin.zeroCells z.cells k).toList++cur.toList.drop (rows.length*i.size+(Builtin.zeroCells z.cells k).toList.length)).toArray) (.slice (some ⟨g,0,none⟩) (rows.length+k) cap') rfl rfl rfl (by simp)
      (λk hk hn=>setRow_other w g k _ (λe=>hn (by rw[hb',e];rfl)))
      (by
       refine⟨hown.1,.inr ⟨g,cap',_,hb',hB,hset,h4,h5,?_,?_⟩⟩
       .rw[<-h6];simp only[List.size_toArray,List.length_append,List.length_take,List.length_drop,Array.length_toList]at hfit ⊢;omega
       .have e1:(((cur.toList.take (rows.length*i.size)++(Builtin.zeroCells z.cells k).toList++cur.toList.drop (rows.length*i.size+(Builtin.zeroCells z.cells k).toList.length)).toArray).toList.take (rows.length*(ti P e').size))=cur.toList.take (rows.length*(ti P e').size):=by
         rw[<-hz2]at hxl ⊢;simp only[List.append_assoc];rw[List.take_append_of_le_length (by rw[hxl];exact Nat.le_refl _)];exact List.take_of_length_le (by rw[hxl];exact Nat.le_refl _)
        rw[e1];refine h7.mono ⟨by simp,λb _ hd'=>?_,λb _ hn=>?_⟩
        .rcases hd' with h'|h'
         .exact h'
         .exact .inr ⟨h,hmu,h'⟩
        .exact λ_=>setRow_other w g b _ (λe=>hn (.inr ⟨h,hmu,by rw[hb',e];rfl⟩)))
     rw[hb'];exact⟨_,_,β',hrun,R'⟩
    .have holds:∀(j:Nat) v,(cur.toList.take (rows.length*(ti P e').size))[j]?=some v->w.drew.cell? ((⟨g,0,none⟩:Addr).add j)=some v:=by
      intro j v hj;have:w.cell? ((⟨g,0,none⟩:Addr).add j)=some v:=by
       rw[addr_add,Nat.zero_add,cell_of_row w g j cur _ (0,0) hg];rw[List.getElem?_take]at hj;split at hj
       .simpa using hj
       .cases hj
      simpa using this
     have hold:=run_firstCells_some (P:=P) w.drew i.size rows.length ⟨g,0,none⟩ rows.length cap' _ hxl holds;have hrun:=Lib.run_append_grow_zeros (P:=P) w t t2 ty e' i z kq kn hu hu2 hi hz0 (some ⟨g,0,none⟩) rows.length cap' _ hold k hk0 hz1 (by omega) (by simp only[maxLen]at hm;omega) (by omega) (growslice_fits (by omega) (by rw[<-hz2b];exact hb));obtain⟨β',R'⟩:=fin (w.drew.alloc (.cells ((cur.toList.take (rows.length*(ti P e').size)).toArray++Builtin.zeroCells z.cells k++Builtin.zeroCells z.cells (grownCap w (rows.length+k) cap' e'-(rows.length+k))) e')) (.slice (some ⟨w.heap.size,0,none⟩) (rows.length+k) (grownCap w (rows.length+k) cap' e')) rfl rfl rfl (by simp) (λk hk _=>heap_alloc_old w.drew _ hk)
      (same _ (by simp) λk hk=>heap_alloc_old w.drew _ hk)
     rw[hb'];exact⟨_,_,β',hrun,R'⟩
  .cases hr
 .cases hr
theorem a5N (x:IV):Ve (.iv x)=.iv x:=rfl
theorem VF:Ve .oG=.oG:=rfl
theorem a5Q (h st:Nat):Ve (.hs h st)=.hs h st:=rfl
theorem a5O (h st:Nat):Ve (.hw h st)=.hs h st:=rfl
theorem a5P (h st o l:Nat):Ve (.hv h st o l)=.hv h st o l:=rfl
def qX (T:TI)(H:Hp)(e d:Nat)(x y:AV):Option AR :=
 match x with
 |.hw h st=>yu T H e h st y
 |_=>qY T H e d x y
theorem yN (vs:List Value):(dN vs).length=vs.length:=List.length_map _
theorem Ei {P:Program}{t t2 e d:Nat}(ht:(ti P t).desc=.sl e){e2:Nat}(ht2:(ti P t2).desc=.sl e2)(R:Rel G M w0 D0 N f H β a w){x y:AV}{v u:Value}(hx:aG w (DD H β D0) H β x v)(hy:aG w (DD H β D0) H β y u)(hd:d<N){r:AR}(hr:qY (ti P e) H e d x y=some r)(hc:r.c){ty:Nat} :
  ∃z w' β',(Builtin.append_ #[t,t2] ty #[v,u]).run P w=.ok z w'/\Rel G M w0 D0 N (iY f (some d) r.v) (dA r.hs (aQ r.fz H)) β' (a.put (some d) z) w':=by
 unfold qY at hr;split at hr
 .rename_i k s;split at hr
  .rename_i s' e3 src hK;obtain⟨us,hus,R1⟩:=R.a4g hK;have a0s:=hus.length;have hrl:=vI us;split at hr
   .injection hr with hr;subst hr;obtain⟨hs,hok,hz,hsz,hb,hm,hkd⟩:=hc;have hdk:d≠k:=λe=>hkd e.symm
    have R2:=R1.b1F hus;have hx1:aG w (DD (dF H k (.blk false s' e3 1 (dN us))) β D0) (dF H k (.blk false s' e3 1 (dN us))) β .oG v:=by simpa only[aG] using hx
    have hy1:aG w (DD (dF H k (.blk false s' e3 1 (dN us))) β D0) (dF H k (.blk false s' e3 1 (dN us))) β (.hs k s) u:=by
     simp only[aG,aO]at hy ⊢;rw[hK]at hy;exact hy
    obtain⟨z,w',β',hrun,R'⟩:=mD (ty:=ty) (d:=d) ht ht2 R2 hx1 hy1 hd
     (r:=⟨s=s'/\(ti P e).ok=true/\(ti P e).zok=true/\(∀q∈dN us,q.length=(ti P e).size)/\(dN us).length*(ti P e).bytes<=140737488355328/\(dN us).length<=maxLen,.hs d ((dF H k (.blk false s' e3 1 (dN us)) d).stamp+1),[],[(d,.blk false ((dF H k (.blk false s' e3 1 (dN us)) d).stamp+1) e (ti P e).size (dN us))],[k]⟩)
     (by simp only[nO,kZ,aO])
     ⟨hs,hok,hz,by rw[hsz];exact hrl,by rw[yN,<-a0s];exact hb,by rw[yN,<-a0s];exact hm⟩
    refine⟨z,w',β',hrun,?_⟩;simp only[dA,aQ]at R' ⊢;rw[hsz,aJ _ _ hdk]at R';have R4:=R'.nest (h:=d) (vs:=us) (xs:=src) (aO _ _ _) (R'.zo a0s).2;rw[oH]at R4;have R5:=R4.nest (h:=k) (st:=s') (e:=e3) (vs:=us) (xs:=src) (by rw[aJ _ _ hkd,aO]) (R4.zo a0s).2;have hfin:dF (dF (dF H k (.blk false s' e3 1 (dN us))) d (.nst ((H d).stamp+1) e src)) k (.nst s' e3 src)=dF H d (.nst ((H d).stamp+1) e src):=by
     rw[Jr _ _ _ hdk,oH,Jq H hK]
    rw[hfin]at R5;exact(R5.zo a0s).1
   .rename_i h st;split at hr
    .rename_i st' e' rows hH;injection hr with hr;subst hr;obtain⟨hs,hok,hz,hsz,hst,he,hb,hm,hkh⟩:=hc;have hhk:h≠k:=λe=>hkh e.symm
     have R2:=R1.b1F hus;obtain⟨vs,hvs,R3⟩:=R2.a4g (h:=h) (st:=st') (e:=e') (rows:=rows) (by rw[aJ _ _ hhk,hH]);have a9f:=hvs.length;have hvl:=vI vs;have R3a:=R3.b1F hvs;generalize hH2:dF (dF H k (.blk false s' e3 1 (dN us))) h (.blk false st' e' 1 (dN vs))=H2 at R3a R3 hvs;have hk2:H2 k=.blk false s' e3 1 (dN us):=by rw[<-hH2,aJ _ _ hkh,aO]
     have hh2:H2 h=.blk false st' e' 1 (dN vs):=by rw[<-hH2,aO]
     have hx1:aG w (DD H2 β D0) H2 β (.hs h st) v:=by
      simp only[aG]at hx ⊢;rw[hh2];rw[hH]at hx;exact hx
     have hy1:aG w (DD H2 β D0) H2 β (.hs k s) u:=by
      simp only[aG]at hy ⊢;rw[hk2];rw[hK]at hy;exact hy
     subst he;obtain⟨z,w',β',hrun,R'⟩:=mD (ty:=ty) (d:=d) ht ht2 R3a hx1 hy1 hd
      (r:=⟨s=s'/\(ti P e').ok=true/\(ti P e').zok=true/\(∀q∈dN us,q.length=(ti P e').size)/\st=st'/\e'=e'/\1=(ti P e').size/\((dN vs).length+(dN us).length)*(ti P e').bytes<=140737488355328/\(dN vs).length+(dN us).length<=maxLen,.hs h (st+1),[],[(h,.blk false (st+1) e' 1 (dN vs++dN us))],h::[k]⟩)
      (by simp only[nO,kZ,hk2,hh2])
      ⟨hs,hok,hz,by rw[hsz];exact hrl,hst,rfl,hsz.symm,by rw[yN,yN,<-a0s,<-a9f];exact hb,by rw[yN,yN,<-a0s,<-a9f];exact hm⟩
     refine⟨z,w',β',hrun,?_⟩;simp only[dA,aQ]at R' ⊢;rw[show dN vs++dN us=dN (vs++us) from (List.map_append ..).symm]at R';have hA:=(R'.zo a9f).2;have hB:=((R'.zo a9f).1.zo a0s).2;have R4:=R'.nest (h:=h) (vs:=vs++us) (xs:=rows++src) (aO _ _ _) (hA.append hB);rw[oH]at R4;have hB4:=((R4.zo a9f).1.zo a0s).2;have R5:=R4.nest (h:=k) (st:=s') (e:=e3) (vs:=us) (xs:=src) (by rw[aJ _ _ hkh,hk2]) hB4;have hfin:dF (dF H2 h (.nst (st+1) e' (rows++src))) k (.nst s' e3 src)=dF H h (.nst (st+1) e' (rows++src)):=by
      rw[<-hH2,oH,Jr _ _ _ hhk,oH,Jq H hK]
     rw[hfin]at R5;exact((R5.zo a9f).1.zo a0s).1
    .cases hr
   .cases hr
  .exact mD ht ht2 R hx hy hd hr hc
 .exact mD ht ht2 R hx hy hd hr hc
theorem Ef {P:Program}{t t2 e d:Nat}(ht:(ti P t).desc=.sl e){e2:Nat}(ht2:(ti P t2).desc=.sl e2)(R:Rel G M w0 D0 N f H β a w){x y:AV}{v u:Value}(hx:aG w (DD H β D0) H β x v)(hy:aG w (DD H β D0) H β y u)(hd:d<N){r:AR}(hr:qX (ti P e) H e d x y=some r)(hc:r.c){ty:Nat} :
  ∃z w' β',(Builtin.append_ #[t,t2] ty #[v,u]).run P w=.ok z w'/\Rel G M w0 D0 N (iY f (some d) r.v) (dA r.hs (aQ r.fz H)) β' (a.put (some d) z) w':=by
 unfold qX at hr;split at hr
 .exact Ee ht ht2 R hx hy hd hr hc
 .exact Ei ht ht2 R hx hy hd hr hc
end
end Go.AL

namespace Go.AL
variable {zi:Zi}
open Go.RowKit
set_option linter.unusedSimpArgs false
set_option linter.unusedVariables false
def a5n (H:Hp)(x:AV):Option AR :=
 match x with
 |.ip cells=>some ⟨True,.ip cells,[],[],[]⟩
 |.hp h st i off=>some ⟨st=(H h).stamp,.hp h st i off,[],[],[h]⟩
 |_=>none
def a3x (x y z:AV):Option AR :=
 match x,y,z with
 |.iv (.int k a),.iv (.int k' b),.iv (.int k'' c)=>some ⟨k=k'/\k=k'',.iv (.int k (max (max a b) c)),[],[],[]⟩
 |_,_,_=>none
def qW [Zi] (P:Program)(b:Builtin)(H:Hp)(d:Option Nat)(xs:List AV)(ts:List Nat):Option AR :=
 match b,xs,ts with
 |.len,[x],[t]=>match (ti P t).desc with | .sl _=>a8A H (Ve x)|_=>none
 |.max,[x,y],_=>b1G false x y
 |.min,[x,y],_=>b1G true x y
 |.max,[x,y,z],_=>a3x x y z
 |.append,[x,y],[t,t2]=>match (ti P t).desc,(ti P t2).desc,d with
  |.sl e,.sl _,some d=>qX (ti P e) H e d x y
  |.sl e,.int _,some _=>qZ (ti P e) H e x y
  |_,_,_=>none
 |.copy,[x,y],[t,_]=>match (ti P t).desc with | .sl e=>P7 (ti P e) H x y|_=>none
 |_,_,_=>none
def Qc:IV->IV
 |.av _ x=>x
 |x=>x
def wG:AV->AV
 |.iv x=>.iv (Qc x)
 |.agg cs=>.agg (cs.map Qc)
 |x=>x
theorem ED {w:World}{D:Nat->Prop}{x:IV}{v:Value}(h:Rep w D x v):Rep w D (Qc x) v:=by
 cases x with
 |av X x=>exact h.b4q
 |_=>exact h
theorem BL {w:World}{D:Nat->Prop}:∀{xs:List IV} {vs:List Value},eF w D xs vs->eF w D (xs.map Qc) vs
 |[],[],_=>trivial
 |_::_,_::_,h=>⟨ED h.1,BL h.2⟩
 |[],_::_,h=>h.elim
 |_::_,[],h=>h.elim
theorem yJ {w:World}{D:Nat->Prop}{H:Hp}{β:Nat->Value}{x:AV}{v:Value}(h:aG w D H β x v):aG w D H β (wG x) v:=by
 cases x with
 |iv x=>simp only[aG,wG]at h ⊢;exact ED h
 |agg cs =>
  simp only[aG,wG]at h ⊢;obtain⟨c,rfl,hr⟩:=h;exact⟨c,rfl,BL hr⟩
 |_=>exact h
def EP (g:Nat->Nat->Nat->Option Nat)(T:TI)(H:Hp):AV->Option AR
 |.hp h st i off=>match g h i off with
  |some s=>match qV T H (.hp h st i off),H s with
   |some r,.tie y v=>some ⟨r.c/\r.v=.iv (.raw v),y,r.fz,r.hs,s::r.rd⟩
   |_,_=>none
  |none=>qV T H (.hp h st i off)
 |x=>qV T H x
def a2j [zi:Zi] (T:TI)(H:Hp)(x:AV):Option AR :=
 match zi.st with
 |.strip=>match qV T H x with
  |some r=>some ⟨r.c,wG r.v,r.fz,r.hs,r.rd⟩
  |none=>none
 |.both=>match qV T H x with
  |some r=>some ⟨r.c,wG r.v,r.fz,r.hs,r.rd⟩
  |none=>none
 |.no=>qV T H x
 |.al g=>EP g T H x
def b2b [zi:Zi] (x:AV):AV:=match zi.st with | .both=>wG x|_=>x
theorem a1Z [zi:Zi] {w:World}{D:Nat->Prop}{H:Hp}{β:Nat->Value}{x:AV}{v:Value}(h:aG w D H β x v):aG w D H β (b2b x) v:=by
 unfold b2b;split
 .exact yJ h
 .exact h
def y8 (esz:Nat)(eok:Bool)(H:Hp)(x:AV)(lo hi:Option AV):Option AR :=
 match x,lo with
 |.hs k st,none=>match H k with
  |.blk false st' e sz rows=>match vU rows.length hi with
   |some h=>some ⟨eok=true/\st=st'/\sz=esz/\0<=h/\h<=rows.length,.hs k (st+1),[],[(k,.blk false (st+1) e sz (rows.take h.toNat))],[k]⟩
   |none=>none
  |_=>none
 |_,_=>none
theorem JH {sz:Nat}:∀{rows:List (List IV)} {n:Nat},(∀r∈rows,r.length=sz)->n<=rows.length->(rows.take n).flatten=rows.flatten.take (n*sz)
 |rows,0,_,_=>by simp
 |[],n+1,_,h=>by simp at h
 |r::rows,n+1,h0,h=>by
  have hr:=h0 r (by simp);have e1:r.take ((n+1)*sz)=r:=List.take_of_length_le (by rw[hr,Nat.add_mul];omega);have e2:(n+1)*sz-r.length=n*sz:=by rw[hr,Nat.add_mul];omega
  rw[List.take_succ_cons,List.flatten_cons,List.flatten_cons,JH (λx hx=>h0 x (by simp[hx])) (by simpa using h),List.take_append,e1,e2]
section
variable {G:Gh} {M:Nat->Prop} {w0:World} {D0:Nat->Prop} {N:Nat} {f:Fr} {H:Hp} {β:Nat->Value} {a:Act} {w:World}
theorem Uy {P:Program}{t e:Nat}(ht:(ti P t).desc=.sl e)(R:Rel G M w0 D0 N f H β a w){x:AV}{v:Value}(hx:aG w (DD H β D0) H β x v){lo hi:Option AV}{lov hiv:Option Value}
  (hlo:yA w (DD H β D0) H β lo lov) (hhi:yA w (DD H β D0) H β hi hiv) {r:AR} (hr:y8 (ti P e).size (ti P e).ok H x lo hi=some r) (hc:r.c) {d:Nat} (hd:d<N) :
  ∃z w' β',(Instr.sliceAt t v lov hiv none).run P w=.ok z w'/\Rel G M w0 D0 N (iY f (some d) r.v) (dA r.hs (aQ r.fz H)) β' (a.put (some d) z) w':=by
 unfold y8 at hr;split at hr
 .rename_i k st;split at hr
  .rename_i st' e' sz rows hH;split at hr
   .rename_i h eh;injection hr with hr;subst hr;obtain⟨hok,hst,hsz,h0,h1⟩:=hc;subst hst;simp only[aG]at hx;have hv:=hx.2 (by rw[hH];rfl);subst hv;have hown:=R.own k _ _ _ _ hH;have hmu:(H k).gB:=by rw[hH];trivial
    have b3L:(lov=none/\(0:Int)=0)\/∃k,lov=some (.int k 0):=by
     cases lov with
     |none=>exact .inl ⟨rfl,rfl⟩
     |some v=>exact hlo.elim
    have fin:∀z:Value,(∀b,bD z=some b->bD (β k)=some b)->Own w (λb=>DD H β D0 b\/bD z=some b) w0.heap.size M z e' sz (rows.take h.toNat) ->
      ∃β',Rel G M w0 D0 N (iY f (some d) (.hs k (st+1))) (dF H k (.blk false (st+1) e' sz (rows.take h.toNat))) β' (a.put (some d) z) w:=by
     intro z hz ho;obtain⟨β',_,_,R'⟩:=R.grow (w':=w) (st':=st+1) (rows':=rows.take h.toNat) (v:=z) (dst:=some d) (x:=.hs k (st+1)) (val:=z) hH (.inr (by omega)) rfl rfl rfl (Nat.le_refl _) (λ_ _ _=>rfl) ho (λb hb=>.inl (hz b hb))
      (λβ' hb _ D _=>by simp only[aG,aO,HC.stamp];exact⟨Nat.le_refl _,λ_=>hb.symm⟩) (by rintro _ ⟨⟩;exact hd)
     exact⟨β',R'⟩
    rcases hown.2 with ⟨hn,hb⟩|⟨g,cap,cur,hb,hB,hg,h2,h3,h4,h5⟩
    .rw[hb];have hh:h=0:=by rw[hn]at h1;simp at h1;omega
     obtain⟨β',R'⟩:=fin (.slice none 0 0) (λb hb'=>by simp[bD]at hb') ⟨λr hr=>hown.1 r (List.mem_of_mem_take hr),.inl ⟨by rw[hn];simp,rfl⟩⟩;have hrun:=oP (w:=w) ht hok (ad:=none) (n:=0) (cap:=0) (Nat.le_refl _) b3L (mM (n:=rows.length) eh hhi |>.imp (λ⟨a,b⟩=>⟨a,by rw[hn]at b;simpa using b⟩) id) (Int.le_refl _) (by omega) (by omega);refine⟨_,w,β',hrun.trans ?_,R'⟩;rw[hh];rfl
    .rw[hb];have hl:(rows.take h.toNat).length=h.toNat:=by rw[List.length_take];omega
     obtain⟨β',R'⟩:=fin (.slice (some ⟨g,0,none⟩) h.toNat cap) (λb hb'=>by rw[hb];exact hb') ⟨λr hr=>hown.1 r (List.mem_of_mem_take hr),.inr ⟨g,cap,cur,by rw[hl],hB,hg,by rw[hl];omega,h3,h4,by
      rw[hl,JH hown.1 (by omega)];have:=h5.take (h.toNat*sz);rw[List.take_take,Nat.min_eq_left (Nat.mul_le_mul_right _ (by omega))]at this;refine this.mono (dh.of_sub λb hb'=>?_);rcases hb' with h'|h'
      .exact h'
      .exact .inr ⟨k,hmu,by rw[hb];exact h'⟩⟩⟩
     have hrun:=oP (w:=w) ht hok (ad:=some ⟨g,0,none⟩) (n:=rows.length) (cap:=cap) h2 b3L (mM eh hhi) (Int.le_refl _) h0 h1;refine⟨_,w,β',hrun.trans ?_,R'⟩;have:(if cap=(0:Int).toNat then (some (⟨g,0,none⟩:Addr)) else (some (⟨g,0,none⟩:Addr)).map (·.add ((0:Int).toNat*(ti P e).size)))=some ⟨g,0,none⟩:=by
      split
      .rfl
      .simp[addr_add]
     rw[this];simp
   .cases hr
  .cases hr
 .cases hr
end
def mg [Zi] (P:Program)(op:Op)(d:Option Nat)(f:Fr)(H:Hp):Option AR :=
 match op with
 |.move x=>some ⟨True,b2b (ev f x),[],[],[]⟩
 |.assign x=>some ⟨True,ev f x,[],[],[]⟩
 |.pick c x y=>match ev f c with | .iv (.bool b)=>some ⟨True,if b then ev f x else ev f y,[],[],[]⟩|_=>none
 |.alloc e=>match d with|some d=>uy (ti P e) H e d|none=>none
 |.box e x=>match d with|some d=>LY (ti P e) H e d (ev f x)|none=>none
 |.build t ps=>Ad (ti P t) H (ps.toList.map (·.1)) (ps.toList.map λp=>ev f p.2)
 |.buildSlice t n ps=>match (ti P t).desc,d with | .sl e,some d=>iw (ti P e) H e d n (ps.toList.map (·.1)) (ps.toList.map λp=>ev f p.2)|_,_=>none
 |.load t x=>a2j (ti P t) H (ev f x)
 |.store t x y=>uq (ti P t) H (ev f x) (ev f y)
 |.nilCheck x=>a5n H (ev f x)
 |.binOp op t x y _=>b1H (ti P t) op (ev f x) (ev f y)
 |.unOp op _ x=>aUn op (ev f x)
 |.convert s d x=>ZM (ti P d) (ti P s) (ev f x)
 |.makeSlice t l c=>match (ti P t).desc,d with | .sl e,some d=>LP (ti P e) H e d (ev f l) (ev f c)|_,_=>none
 |.slice t x lo hi none=>match (ti P t).desc with | .sl e=>(match (match d with|some d=>Zi.bs d|none=>false) with|true=>y8 (ti P e).size (ti P e).ok H (ev f x) (lo.map (ev f)) (hi.map (ev f))|false=>Aa (ti P e).size (ti P e).ok H (Ve (ev f x)) (lo.map (ev f)) (hi.map (ev f)))|_=>none
 |.fieldAddr s x i=>jJ (ti P s) i H (ev f x)
 |.field s x i=>y9 (b2e P s i) (ev f x)
 |.indexAddr t x i=>match (ti P t).desc with | .sl e=>Ac (ti P e).size (ti P e).ok H (Ve (ev f x)) (ev f i) | .arr n e=>uw n (ti P e).size (ti P e).ok H (ev f x) (ev f i)|_=>none
 |.index t x i=>DN P t (ev f x) (ev f i)
 |.extract x i=>yc i (ev f x)
 |.makeFunc (.func g) first caps=>if first.size=0 then some ⟨True,.fn g (caps.toList.map (ev f)),[],[],[]⟩ else none
 |.call c=>match c.callee with | .builtin b=>qW P b H d (c.args.toList.map (ev f)) c.argTypes.toList|_=>none
 |_=>none
section
variable {G:Gh} {M:Nat->Prop} {w0:World} {D0:Nat->Prop} {N:Nat} {f:Fr} {H:Hp} {β:Nat->Value} {a:Act} {w:World}
def uS (P:Program)(G:Gh)(M:Nat->Prop)(w0:World)(D0:Nat->Prop)(N:Nat)(o:Oper)(f:Fr)(H:Hp)(a:Act)(w:World)(r:AR):Prop :=
 ∃nx w' z β',(execOp a.eval o).run P w=.ok nx w'/\(nx=.value z\/(nx=.skip/\z=Go.undef))/\Rel G M w0 D0 N (iY f o.dst r.v) (dA r.hs (aQ r.fz H)) β' (a.put o.dst z) w'
theorem uS.value {P:Program}{o:Oper}{r:AR}(R:Rel G M w0 D0 N f H β a w)(hd:∀d,o.dst=some d->d<N){s:Sem Value}(hs:execOp a.eval o=do pure (.value (<-s)))
  (h:r.fz=[]/\r.hs=[]/\∃z,s.run P w=.ok z w/\aG w (DD H β D0) H β r.v z):uS P G M w0 D0 N o f H a w r:=by
 obtain⟨h1,h2,z,h3,h4⟩:=h;refine⟨.value z,w,z,β,?_,.inl rfl,?_⟩
 .rw[hs];simp only[Sem.run_bind,h3,Result.andThen_ok,Sem.run_pure]
 .rw[h1,h2];exact R.value h4 hd
theorem uS.mem {P:Program}{o:Oper}{r:AR}{d:Nat}(hd:o.dst=some d){s:Sem Value}(hs:execOp a.eval o=do pure (.value (<-s)))
  (h:∃z w' β',s.run P w=.ok z w'/\Rel G M w0 D0 N (iY f (some d) r.v) (dA r.hs (aQ r.fz H)) β' (a.put (some d) z) w'):uS P G M w0 D0 N o f H a w r:=by
 obtain⟨z,w',β',h3,h4⟩:=h;refine⟨.value z,w',z,β',?_,.inl rfl,by rw[hd];exact h4⟩;rw[hs];simp only[Sem.run_bind,h3,Result.andThen_ok,Sem.run_pure]
theorem jv (R:Rel G M w0 D0 N f H β a w):∀(xs:List Operand),jh w (DD H β D0) H β (xs.map (ev f)) (xs.map a.eval)
 |[]=>.nil
 |x::xs=>.cons (R.ev x) (jv R xs)
theorem jh.b1X {D:Nat->Prop}:∀{xs:List AV} {vs:List Value},jh w D H β xs vs->aS w D H β xs vs
 |_,_,.nil=>by simp[aS]
 |_,_,.cons h k=>by simp only[aS];exact⟨h,k.b1X⟩
theorem jh.append {D:Nat->Prop}:∀{xs:List AV} {vs:List Value} {ys:List AV} {us:List Value},jh w D H β xs vs->aS w D H β ys us->jh w D H β (xs++ys) (vs++us)
 |_,_,[],[],.nil,_=>.nil
 |_,_,y::ys,u::us,.nil,h=>by simp only[aS]at h;exact .cons h.1 (jh.append .nil h.2)
 |_,_,_,_,.cons h k,h'=>.cons h (k.append h')
 |_,_,[],_::_,.nil,h=>by simp[aS]at h
 |_,_,_::_,[],.nil,h=>by simp[aS]at h
theorem zA (R:Rel G M w0 D0 N f H β a w):∀(ps:List (Nat×Operand)),jh w (DD H β D0) H β (ps.map λp=>ev f p.2) (ps.map λp=>a.eval p.2)
 |[]=>.nil
 |x::xs=>.cons (R.ev x.2) (zA R xs)
theorem QE (R:Rel G M w0 D0 N f H β a w)(x:Option Operand):yA w (DD H β D0) H β (x.map (ev f)) (x.map a.eval):=by
 cases x with
 |none=>trivial
 |some x=>exact R.ev x
theorem Jk (ps:Array (Nat×Operand))(a:Act):((ps.toList.map (·.1)).zip (ps.toList.map λp=>a.eval p.2)).toArray=ps.map λ(i,x)=>(i,a.eval x):=by
 apply Array.ext';rw[Array.toList_map];simp only;generalize ps.toList=l
 induction l with
 |nil=>rfl
 |cons p l ih=>simp[ih]
theorem UA {P:Program}(R:Rel G M w0 D0 N f H β a w){x:AV}{v:Value}(hx:aG w (DD H β D0) H β x v){r:AR}(hr:a5n H x=some r)(hc:r.c):r.fz=[]/\r.hs=[]/\(∃p,v=.pointer (some p))/\aG w (DD H β D0) H β r.v v:=by
 unfold a5n at hr;split at hr
 .injection hr with hr;subst hr;have hx':=hx;simp only[aG]at hx;obtain⟨g,o,rfl,_⟩:=hx;exact⟨rfl,rfl,⟨_,rfl⟩,hx'⟩
 .injection hr with hr;subst hr;have hx':=hx;simp only[aG]at hx;obtain⟨g,n,cap,_,rfl⟩:=hx.2 hc;exact⟨rfl,rfl,⟨_,rfl⟩,hx'⟩
 .cases hr
theorem OX {P:Program}{ts:Array TypeId}{ty:Nat}{x y z:AV}{v u t:Value}{D:Nat->Prop}(hx:aG w D H β x v)(hy:aG w D H β y u)(hz:aG w D H β z t){r:AR}(hr:a3x x y z=some r)(hc:r.c) :
  r.fz=[]/\r.hs=[]/\∃q,(Builtin.max_ ts ty #[v,u,t]:Sem Value).run P w=.ok q w/\aG w D H β r.v q:=by
 unfold a3x at hr;split at hr
 .rename_i k a k' b k'' c;injection hr with hr;subst hr;simp only[aG]at hx hy hz;cases hx;cases hy;cases hz;obtain⟨rfl,rfl⟩:=hc;refine⟨rfl,rfl,.int k (max (max a b) c),?_,by simp only[aG];exact .int ..⟩;simp only[Builtin.max_,List.foldlM,Builtin.max2,bind_pure,Sem.run_pure,pure_bind]
  congr 2;simp only[Int.max_def];split<;>split<;>(try split)<;>(try split)<;>omega
 .cases hr
theorem a1G {P:Program}(R:Rel G M w0 D0 N f H β a w)(o:Oper)(hd:∀d,o.dst=some d->d<N){r:AR}(hr:mg P o.op o.dst f H=some r)(hc:r.c):uS P G M w0 D0 N o f H a w r:=by
 cases ho:o.op<;>rw[ho]at hr<;>simp only[mg]at hr<;>try cases hr
 case move x =>
  exact uS.value R hd (s:=pure (a.eval x)) (by simp[execOp,ho]) ⟨rfl,rfl,_,rfl,a1Z (R.ev x)⟩
 case assign x =>
  exact uS.value R hd (s:=pure (a.eval x)) (by simp[execOp,ho]) ⟨rfl,rfl,_,rfl,R.ev x⟩
 case pick c x y =>
  have hcv:=R.ev c;split at hr
  .rename_i b hb;injection hr with hr;subst hr;rw[hb]at hcv;simp only[aG]at hcv;generalize hv:a.eval c=v at hcv;cases hcv;refine uS.value R hd (s:=pure (if b then a.eval x else a.eval y)) (by simp[execOp,ho,hv,asBool]) ⟨rfl,rfl,_,rfl,?_⟩;cases b
   .exact R.ev y
   .exact R.ev x
  .cases hr
 case alloc e =>
  split at hr
  .rename_i d hdd;exact uS.mem hdd (by simp only[execOp,ho]) (J5 R (hd d hdd) hr hc)
  .cases hr
 case box e x =>
  split at hr
  .rename_i d hdd;exact uS.mem hdd (by simp only[execOp,ho]) (P9 (P:=P) R (R.ev x) (hd d hdd) hr hc)
  .cases hr
 case build t ps =>
  obtain⟨h1,z,h2,h3⟩:=LW (P:=P) R (by simp) (zA R ps.toList) hr hc;rw[Jk]at h2;refine⟨.value z,w,z,β,?_,.inl rfl,?_⟩
  .simp only[execOp,ho,Sem.run_bind,h2,Result.andThen_ok,Sem.run_pure]
  .rw[h1];exact(R.aQ r.fz).value h3 hd
 case buildSlice t n ps =>
  split at hr
  .rename_i e d ht hdd;have:=yg (P:=P) ht R (by simp) (zA R ps.toList) (hd d hdd) hr hc;rw[Jk]at this;exact uS.mem hdd (by simp only[execOp,ho]) this
  .cases hr
 case load t x =>
  refine uS.value R hd (s:=Instr.loadAt t (a.eval x)) (by simp only[execOp,ho]) ?_;unfold a2j at hr;split at hr
  .split at hr
   .rename_i r' hr';injection hr with hr;subst hr;obtain⟨h1,h2,z,h3,h4⟩:=iV R (R.ev x) hr' hc;exact⟨h1,h2,z,h3,yJ h4⟩
   .cases hr
  .split at hr
   .rename_i r' hr';injection hr with hr;subst hr;obtain⟨h1,h2,z,h3,h4⟩:=iV R (R.ev x) hr' hc;exact⟨h1,h2,z,h3,yJ h4⟩
   .cases hr
  .exact iV R (R.ev x) hr hc
  .unfold EP at hr;split at hr
   .rename_i hx;split at hr
    .split at hr
     .rename_i r' y v hr' hs;injection hr with hr;subst hr;rw[<-hx]at hr';obtain⟨h1,h2,z,h3,h4⟩:=iV R (R.ev x) hr' hc.1;refine⟨h1,h2,z,h3,?_⟩;rw[hc.2]at h4;simp only[aG]at h4;cases h4;exact R.tie _ _ _ hs
     .cases hr
    .rw[<-hx]at hr;exact iV R (R.ev x) hr hc
   .exact iV R (R.ev x) hr hc
 case store t x y =>
  obtain⟨h1,w',β',h2,h3⟩:=IX (P:=P) R (R.ev x) (R.ev y) hr hc hd;exact⟨.skip,w',Go.undef,β',by simp only[execOp,ho,Sem.run_bind,h2,Result.andThen_ok,Sem.run_pure],.inr ⟨rfl,rfl⟩,h3⟩
 case nilCheck x =>
  obtain⟨h1,h2,⟨p,hp⟩,h3⟩:=UA (P:=P) R (R.ev x) hr hc;exact⟨.value (a.eval x),w,_,β,by simp[execOp,ho,hp],.inl rfl,by rw[h1,h2];exact R.value h3 hd⟩
 case binOp op t x y yt=>exact uS.value R hd (by simp only[execOp,ho]) (UK (P:=P) (R.ev x) (R.ev y) hr hc (ox:=x) (oy:=y))
 case unOp op t x=>exact uS.value R hd (by simp only[execOp,ho]) (ZL (P:=P) (R.ev x) hr hc)
 case convert s d x=>exact uS.value R hd (by simp only[execOp,ho]) (P8 (P:=P) (R.ev x) hr hc)
 case makeSlice t l c =>
  split at hr
  .rename_i e d ht hdd;exact uS.mem hdd (by simp only[execOp,ho]) (OY (P:=P) ht R (R.ev l) (R.ev c) (hd d hdd) hr hc)
  .cases hr
 case slice t x lo hi mx =>
  cases mx with
  |some m=>simp only[mg]at hr;cases hr
  |none =>
   simp only[mg]at hr;split at hr
   .rename_i e ht;split at hr
    .rename_i hz;cases hdd:o.dst with
     |none=>rw[hdd]at hz;cases hz
     |some d=>exact uS.mem hdd (by simp only[execOp,ho,Option.map_none]) (Uy (P:=P) ht R (R.ev x) (QE R lo) (QE R hi) hr hc (hd d hdd))
    .exact uS.value R hd (by simp only[execOp,ho,Option.map_none]) (LK (P:=P) ht R (G5 (R.ev x)) (QE R lo) (QE R hi) hr hc)
   .cases hr
 case fieldAddr s x i=>exact uS.value R hd (by simp only[execOp,ho]) (Aj (P:=P) R (R.ev x) hr hc)
 case field s x i=>exact uS.value R hd (by simp only[execOp,ho]) (LV (P:=P) (R.ev x) hr hc)
 case indexAddr t x i =>
  split at hr
  .rename_i e ht;exact uS.value R hd (by simp only[execOp,ho]) (LQ (P:=P) ht R (G5 (R.ev x)) (R.ev i) hr hc)
  .rename_i n e ht;exact uS.value R hd (by simp only[execOp,ho]) (J3 (P:=P) ht R (R.ev x) (R.ev i) hr hc)
  .cases hr
 case index t x i=>exact uS.value R hd (by simp only[execOp,ho]) (IZ (P:=P) (R.ev x) (R.ev i) hr hc)
 case extract x i=>exact uS.value R hd (by simp only[execOp,ho]) (Ec (P:=P) (R.ev x) hr hc)
 case makeFunc fn first caps =>
  cases fn with
  |func g =>
   simp only[mg]at hr;split at hr
   .rename_i h0;injection hr with hr;subst hr;have hfirst:first.map a.eval = #[]:=by
     apply Array.ext';simp[Array.eq_empty_of_size_eq_zero h0]
    refine uS.value R hd (s:=Instr.makeFunc (.func g) (first.map a.eval) (caps.map a.eval)) (by simp only[execOp,ho]) ⟨rfl,rfl,_,rfl,?_⟩;rw[hfirst];simp only[aG];refine⟨_,rfl,?_⟩;rw[Array.toList_map];exact(jv R caps.toList).b1X
   .cases hr
  |_=>simp[mg]at hr
 case call c =>
  obtain⟨callee,args,tys⟩:=c;split at hr
  .rename_i b hb;simp only at hb;subst hb;unfold qW at hr;split at hr
   .rename_i x t hx ht;split at hr
    .rename_i e hte;have ha:∃o,args = #[o]:=by
      have h1:=congrArg List.length hx
      match hh:args.toList with
      |[o]=>exact⟨o,by apply Array.ext';simpa using hh⟩
      |[]=>rw[hh]at h1;simp at h1
      |_::_::_=>rw[hh]at h1;simp at h1
     obtain⟨o',rfl⟩:=ha;have htt:tys = #[t]:=by apply Array.ext';simpa using ht
     subst htt;simp only[List.map_cons,List.map_nil,List.cons.injEq,and_true]at hx;subst hx;exact uS.value R hd (s:=Builtin.len_ #[t] o.type #[a.eval o']) (by simp[execOp,ho,resolve,invoke,builtin]) (UD (P:=P) hte R (G5 (R.ev o')) hr hc)
    .cases hr
   .rename_i x y ts hx;have ha:∃o1 o2,args = #[o1,o2]:=by
     have h1:=congrArg List.length hx
     match hh:args.toList with
     |[o1,o2]=>exact⟨o1,o2,by apply Array.ext';simpa using hh⟩
     |[]=>rw[hh]at h1;simp at h1
     |[_]=>rw[hh]at h1;simp at h1
     |_::_::_::_=>rw[hh]at h1;simp at h1
    obtain⟨o1,o2,rfl⟩:=ha;simp only[List.map_cons,List.map_nil,List.cons.injEq,and_true]at hx;obtain⟨rfl,rfl⟩:=hx;exact uS.value R hd (s:=Builtin.max_ tys o.type #[a.eval o1,a.eval o2]) (by simp[execOp,ho,resolve,invoke,builtin]) (FK (P:=P) (ts:=tys) (ty:=o.type) (R.ev o1) (R.ev o2) hr hc)
   .rename_i x y ts hx;have ha:∃o1 o2,args = #[o1,o2]:=by
     have h1:=congrArg List.length hx
     match hh:args.toList with
     |[o1,o2]=>exact⟨o1,o2,by apply Array.ext';simpa using hh⟩
     |[]=>rw[hh]at h1;simp at h1
     |[_]=>rw[hh]at h1;simp at h1
     |_::_::_::_=>rw[hh]at h1;simp at h1
    obtain⟨o1,o2,rfl⟩:=ha;simp only[List.map_cons,List.map_nil,List.cons.injEq,and_true]at hx;obtain⟨rfl,rfl⟩:=hx;exact uS.value R hd (s:=Builtin.min_ tys o.type #[a.eval o1,a.eval o2]) (by simp[execOp,ho,resolve,invoke,builtin]) (FK (P:=P) (ts:=tys) (ty:=o.type) (R.ev o1) (R.ev o2) hr hc)
   .rename_i x y z ts hx;have ha:∃o1 o2 o3,args = #[o1,o2,o3]:=by
     have h1:=congrArg List.length hx
     match hh:args.toList with
     |[o1,o2,o3]=>exact⟨o1,o2,o3,by apply Array.ext';simpa using hh⟩
     |[]=>rw[hh]at h1;simp at h1
     |[_]=>rw[hh]at h1;simp at h1
     |[_,_]=>rw[hh]at h1;simp at h1
     |_::_::_::_::_=>rw[hh]at h1;simp at h1
    obtain⟨o1,o2,o3,rfl⟩:=ha;simp only[List.map_cons,List.map_nil,List.cons.injEq,and_true]at hx;obtain⟨rfl,rfl,rfl⟩:=hx;exact uS.value R hd (s:=Builtin.max_ tys o.type #[a.eval o1,a.eval o2,a.eval o3]) (by simp[execOp,ho,resolve,invoke,builtin]) (OX (P:=P) (ts:=tys) (ty:=o.type) (R.ev o1) (R.ev o2) (R.ev o3) hr hc)
   .rename_i x y t t2 hx ht;split at hr
    .rename_i e e2 d hte b2P hdd;have ha:∃o1 o2,args = #[o1,o2]:=by
      have h1:=congrArg List.length hx
      match hh:args.toList with
      |[o1,o2]=>exact⟨o1,o2,by apply Array.ext';simpa using hh⟩
      |[]=>rw[hh]at h1;simp at h1
      |[_]=>rw[hh]at h1;simp at h1
      |_::_::_::_=>rw[hh]at h1;simp at h1
     obtain⟨o1,o2,rfl⟩:=ha;have htt:tys = #[t,t2]:=by apply Array.ext';simpa using ht
     subst htt;simp only[List.map_cons,List.map_nil,List.cons.injEq,and_true]at hx;obtain⟨rfl,rfl⟩:=hx;exact uS.mem hdd (s:=Builtin.append_ #[t,t2] o.type #[a.eval o1,a.eval o2]) (by simp[execOp,ho,resolve,invoke,builtin]) (Ef (P:=P) hte b2P R (R.ev o1) (R.ev o2) (hd d hdd) hr hc)
    .rename_i e e2 d hte b2P hdd;have ha:∃o1 o2,args = #[o1,o2]:=by
      have h1:=congrArg List.length hx
      match hh:args.toList with
      |[o1,o2]=>exact⟨o1,o2,by apply Array.ext';simpa using hh⟩
      |[]=>rw[hh]at h1;simp at h1
      |[_]=>rw[hh]at h1;simp at h1
      |_::_::_::_=>rw[hh]at h1;simp at h1
     obtain⟨o1,o2,rfl⟩:=ha;have htt:tys = #[t,t2]:=by apply Array.ext';simpa using ht
     subst htt;simp only[List.map_cons,List.map_nil,List.cons.injEq,and_true]at hx;obtain⟨rfl,rfl⟩:=hx;exact uS.mem hdd (s:=Builtin.append_ #[t,t2] o.type #[a.eval o1,a.eval o2]) (by simp[execOp,ho,resolve,invoke,builtin]) (Em (P:=P) hte b2P R (R.ev o1) (R.ev o2) (hd d hdd) hr hc)
    .cases hr
   .rename_i x y t t2 hx ht;split at hr
    .rename_i e hte;have ha:∃o1 o2,args = #[o1,o2]:=by
      have h1:=congrArg List.length hx
      match hh:args.toList with
      |[o1,o2]=>exact⟨o1,o2,by apply Array.ext';simpa using hh⟩
      |[]=>rw[hh]at h1;simp at h1
      |[_]=>rw[hh]at h1;simp at h1
      |_::_::_::_=>rw[hh]at h1;simp at h1
     obtain⟨o1,o2,rfl⟩:=ha;have htt:tys = #[t,t2]:=by apply Array.ext';simpa using ht
     subst htt;simp only[List.map_cons,List.map_nil,List.cons.injEq,and_true]at hx;obtain⟨rfl,rfl⟩:=hx;obtain⟨z,w',β',h3,h4⟩:=P5 (P:=P) (t2:=t2) (ty:=o.type) hte R (R.ev o1) (R.ev o2) hd hr hc;refine⟨.value z,w',z,β',?_,.inl rfl,h4⟩;simp[execOp,ho,resolve,invoke,builtin,h3]
    .cases hr
   .cases hr
  .cases hr
def Wd (ro:Option Nat):Fence:={ Fence.wide with round:=ro }
theorem Gv {ro:Option Nat}{o:Oper}(h:∀c,o.op≠.defer c)(ρ:Operand->Value):o.semAt ro ρ=execOp ρ o:=by
 cases ro with
 |none=>exact Oper.semAt_none ρ o
 |some l=>exact Oper.semAt_some l ρ o h
theorem a3u {P:Program}{op:Op}{d:Option Nat}{r:AR}(h:mg P op d f H=some r):∀c,op≠.defer c:=by
 rintro c rfl;simp[mg]at h
theorem uS.wp {P:Program}{o:Oper}{r:AR}(h:uS P G M w0 D0 N o f H a w r){K:Act->World->Prop}{Q:Exit->Act->World->Prop}
  (hK:∀a' w' β',Rel G M w0 D0 N (iY f o.dst r.v) (dA r.hs (aQ r.fz H)) β' a' w'->K a' w') {ro:Option Nat} (hnd:∀c,o.op≠.defer c):o.wpIn (Wd ro) 0 P a w K Q:=by
 obtain⟨nx,w',z,β',h1,h2,h3⟩:=h;refine⟨λ_ _=>trivial,?_⟩;show o.uponIn (Wd ro) 0 P a K Q ((o.semAt ro a.eval).run P w);rw[Gv hnd,h1];rcases h2 with rfl|⟨rfl,rfl⟩
 .exact hK _ _ _ h3
 .exact hK _ _ _ h3
end
end Go.AL

namespace Go.AL
variable {zi:Zi}
open Go.RowKit
set_option linter.unusedSimpArgs false
set_option linter.unusedVariables false
inductive CV where
 |iv (x:IV)
 |agg (cells:List IV)
 |val (v:Value)
 |box (cells:List IV)
 |fn (g:Nat) (caps:List (List IV))
 |any
 deriving Inhabited
def CV.av:CV->AV
 |.iv x=>.iv x
 |.agg cs=>.agg cs
 |.val v=>a0t v
 |.box cells=>.ip cells
 |.fn g caps=>.fn g (caps.map .ip)
 |.any=>.dead
def jX (w:World)(D:Nat->Prop)(cells:List IV)(v:Value):Prop :=
 ∃g o,v=.pointer (some ⟨g,o,none⟩)/\(cells≠[]->¬D g)/\∃vs,eF w D cells vs/\∀(j:Nat) c,vs[j]?=some c->w.cell? ⟨g,o+j,none⟩=some c
theorem jX.mono {w w':World}{D D':Nat->Prop}(g:dh w D w' D'){cells:List IV}{v:Value}(h:jX w D cells v):jX w' D' cells v:=by
 obtain⟨b,o,rfl,hD,vs,hr,hc⟩:=h;by_cases he:cells=[]
 .subst he;exact⟨b,o,rfl,λh=>(h rfl).elim,[],by simp[eF],by simp⟩
 .have hne:=hD he;refine⟨b,o,rfl,λ_ h'=>?_,vs,hr.mono g,λj c hj=>g.cell hne (hc j c hj)⟩;have hl:=hr.length
  match cells,vs,he,hl with
  |x::xs,v::vs,_,_ =>
   have:=hc 0 v rfl;exact hne (g.sub _ (World.block_lt_of_cell? w _ this) h')
def nS (w:World)(D:Nat->Prop):List (List IV)->List Value->Prop
 |[],[]=>True
 |x::xs,v::vs=>jX w D x v/\nS w D xs vs
 |_,_=>False
theorem nS.mono {w w':World}{D D':Nat->Prop}(g:dh w D w' D'):∀{xs:List (List IV)} {vs:List Value},nS w D xs vs->nS w' D' xs vs
 |[],[],_=>trivial
 |_::_,_::_,h=>⟨h.1.mono g,nS.mono g h.2⟩
 |[],_::_,h=>h.elim
 |_::_,[],h=>h.elim
theorem nS.av {w:World}{D:Nat->Prop}{H:Hp}{β:Nat->Value}:∀{xs:List (List IV)} {vs:List Value},nS w D xs vs->aS w D H β (xs.map .ip) vs
 |[],[],_=>by simp[aS]
 |_::_,_::_,h=>by simp only[List.map_cons,aS,aG];exact⟨h.1,nS.av h.2⟩
 |[],_::_,h=>h.elim
 |_::_,[],h=>h.elim
def iI (w:World)(D:Nat->Prop):CV->Value->Prop
 |.iv x,v=>Rep w D x v
 |.agg cells,v=>∃cs:Array Value,v=.agg cs/\eF w D cells cs.toList
 |.val u,v=>v=u
 |.box cells,v=>jX w D cells v
 |.fn g caps,v=>∃vs:Array Value,v=.func (.func g) #[] vs/\nS w D caps vs.toList
 |.any,_=>True
theorem iI.mono {w w':World}{D D':Nat->Prop}(g:dh w D w' D'){c:CV}{v:Value}(h:iI w D c v):iI w' D' c v:=by
 cases c with
 |iv x=>exact Rep.mono g h
 |agg cs=>obtain⟨a,rfl,hr⟩:=h;exact⟨a,rfl,hr.mono g⟩
 |val u=>exact h
 |box cells=>exact jX.mono g h
 |fn k caps=>obtain⟨a,rfl,hr⟩:=h;exact⟨a,rfl,hr.mono g⟩
 |any=>trivial
theorem iI.av {w:World}{D:Nat->Prop}{H:Hp}{β:Nat->Value}{c:CV}{v:Value}(h:iI w D c v):aG w D H β c.av v:=by
 cases c with
 |iv x=>simpa only[CV.av,aG,iI] using h
 |agg x=>simpa only[CV.av,aG,iI] using h
 |val u=>simp only[iI]at h;subst h;exact RS ..
 |box cells=>simpa only[CV.av,aG,iI,jX] using h
 |fn k caps=>obtain⟨a,rfl,hr⟩:=h;simp only[CV.av,aG];exact⟨a,rfl,hr.av⟩
 |any=>simp[CV.av,aG]
def eU (w:World)(D:Nat->Prop):List CV->List Value->Prop
 |[],[]=>True
 |x::xs,v::vs=>iI w D x v/\eU w D xs vs
 |_,_=>False
theorem eU.length {w:World}{D:Nat->Prop}:∀{xs:List CV} {vs:List Value},eU w D xs vs->xs.length=vs.length
 |[],[],_=>rfl
 |_::_,_::_,h=>by simp[eU.length h.2]
 |[],_::_,h=>h.elim
 |_::_,[],h=>h.elim
theorem eU.mono {w w':World}{D D':Nat->Prop}(g:dh w D w' D'):∀{xs:List CV} {vs:List Value},eU w D xs vs->eU w' D' xs vs
 |[],[],_=>trivial
 |_::_,_::_,h=>⟨h.1.mono g,eU.mono g h.2⟩
 |[],_::_,h=>h.elim
 |_::_,[],h=>h.elim
abbrev iy:=Option (Nat×Nat×Nat×List (List IV))
def GN (own:iy)(us:List Value)(b:Nat):Prop :=
 match own with
 |none=>False
 |some (i,_)=>∃v,us[i]?=some v/\bD v=some b
def qF:List Value->Value
 |[v]=>v
 |vs=>.tuple vs.toArray
structure Eo (w w':World) (D:Nat->Prop) (own:iy) (res:List CV) (us:List Value):Prop where
 len:us.length=res.length
 val:∀(j:Nat) c v,(∀i e sz rows,own=some (i,e,sz,rows)->j≠i)->res[j]?=some c->us[j]?=some v->iI w' (λb=>D b\/GN own us b) c v
 own:∀i e sz rows,own=some (i,e,sz,rows)->∃v,us[i]?=some v/\i<res.length/\Own w' (λb=>D b\/GN own us b) w.heap.size (λ_=>False) v e sz rows
def lH (P:Program)(g:Nat)(vs:List Value)(w:World)(R:Value->World->Prop):Prop :=
 (∃ fn, P.funcs[g]? = some fn ∧ (fn.name == "runtime.NumGoroutine") = false ∧ fn.body.isNone = false ∧ Calls P g vs.toArray w fun e w' => ∃ v, e = .returned v ∧ R v w') ∨
 ∃v w',(callFunc g vs.toArray).run P w=.ok (.value v) w'/\R v w'
def AC (P:Program)(g:Nat)(args:List CV)(own:iy)(res:List CV):Prop :=
 ∀(w:World) (D:Nat->Prop) (vs:List Value),(∀b,D b->b<w.heap.size)->eU w D args vs ->
  lH P g vs w λv w'=>Below w.heap.size w w'/\∃us,v=qF us/\Eo w w' D own res us
def ACW (P:Program)(g:Nat)(args:List CV)(i e sz:Nat)(rows rows':List (List IV))(res:List CV):Prop :=
 ∀(w:World) (D:Nat->Prop) (vs:List Value) (v:Value),(∀b,D b->b<w.heap.size)->eU w D args vs->vs[i]?=some v->(∀b,bD v=some b->D b) ->
  Own w D w.heap.size (λb=>bD v=some b) v e sz rows ->
  lH P g vs w λu w'=>w.grownBy w' (bD v)/\∃us,u=qF us/\eU w' D res us/\Own w' D w.heap.size (λb=>bD v=some b) v e sz rows'
def ACT (P:Program)(g:Nat)(args:List CV)(i e sz:Nat)(rows rows':List (List IV)):Prop :=
 ∀(w:World) (D:Nat->Prop) (vs:List Value) (v:Value),(∀b,D b->b<w.heap.size)->eU w D args vs->vs[i]?=some v->(∀b,bD v=some b->D b) ->
  Own w D w.heap.size (λb=>bD v=some b) v e sz rows ->
  lH P g vs w λu w'=>w.grownBy w' (bD v)/\(∀b,bD u=some b->bD v=some b)/\Own w' D w.heap.size (λb=>bD v=some b) u e sz rows'
def ACX (P:Program)(g:Nat)(args:List CV)(R:Nat->Nat->List CV->Prop):Prop :=
 (∀B,∃E res,B<=E/\R B E res) /\
 ∀(w:World) (D:Nat->Prop) (vs:List Value),(∀b,D b->b<w.heap.size)->eU w D args vs ->
  lH P g vs w λv w'=>Below w.heap.size w w'/\∃us res,v=qF us/\R w.heap.size w'.heap.size res/\eU w' D res us
inductive UL:CV->CV->Prop
 |refl (c:CV):UL c c
 |iv {x y:IV} (h:SL x y):UL (.iv x) (.iv y)
 |agg {xs ys:List IV} (hl:ys.length=xs.length) (h:∀(j:Nat) (x y:IV),xs[j]?=some x->ys[j]?=some y->SL x y):UL (.agg xs) (.agg ys)
theorem eF.soft {w:World}{D:Nat->Prop}:∀{xs ys:List IV} {vs:List Value},ys.length=xs.length->(∀(j:Nat) (x y:IV),xs[j]?=some x->ys[j]?=some y->SL x y)->eF w D xs vs->eF w D ys vs
 |[],[],[],_,_,_=>trivial
 |x::xs,y::ys,v::vs,hl,hs,h=>⟨(hs 0 x y rfl rfl).rep h.1,eF.soft (by simpa using hl) (λj a b ha hb=>hs (j+1) a b (by simpa using ha) (by simpa using hb)) h.2⟩
 |[],_::_,_,hl,_,_=>by simp at hl
 |_::_,[],_,hl,_,_=>by simp at hl
 |[],[],_::_,_,_,h=>h.elim
 |_::_,_::_,[],_,_,h=>h.elim
theorem UL.rep {w:World}{D:Nat->Prop}{c d:CV}(h:UL c d){v:Value}(hr:iI w D c v):iI w D d v:=by
 cases h with
 |refl=>exact hr
 |iv h=>exact h.rep hr
 |agg hl h=>obtain⟨cs,rfl,hr⟩:=hr;exact⟨cs,rfl,hr.soft hl h⟩
inductive FM:List CV->List CV->Prop
 |nil:FM [] []
 |cons {c d:CV} {cs ds:List CV} (h:UL c d) (t:FM cs ds):FM (c::cs) (d::ds)
theorem FM.b1X {w:World}{D:Nat->Prop}{cs ds:List CV}(h:FM cs ds):∀{vs:List Value},eU w D cs vs->eU w D ds vs:=by
 induction h with
 |nil=>exact λh=>h
 |cons h t ih =>
  intro vs hv
  match vs,hv with
  |v::vs,hv=>exact⟨h.rep hv.1,ih hv.2⟩
def aI (H:Hp):AV->Option (Prop×List IV×List Nat)
 |.ip cells=>some (True,cells,[])
 |.hp h st i off=>match H h with | .blk _ st' _ _ rows=>some (st=st'/\i<rows.length,(rows.getD i []).drop off,[h])|_=>none
 |_=>none
def aB (H:Hp):List AV->Option (Prop×List (List IV)×List Nat)
 |[]=>some (True,[],[])
 |x::xs=>match aI H x,aB H xs with
  |some (c,v,ms),some (c',vs,ms')=>some (c/\c',v::vs,ms++ms')
  |_,_=>none
def bn (H:Hp):AV->Option (Prop×CV×List Nat)
 |.dead=>some (True,.any,[])
 |.ip cells=>some (True,.box cells,[])
 |.hp h st i off=>match aI H (.hp h st i off) with|some (c,cells,ms)=>some (c,.box cells,ms)|none=>none
 |.fn g l=>match aB H l with|some (c,caps,ms)=>some (c,.fn g caps,ms)|none=>none
 |.iv x=>some (True,.iv x,[])
 |.agg cs=>some (True,.agg cs,[])
 |.oG=>some (True,.iv (.sl []),[])
 |.hs h st=>match H h with | .blk _ st' _ _ rows=>some (st=st',.iv (.sl rows),[h])|_=>none
 |.hv h st off len=>match H h with | .blk _ st' _ _ rows=>some (st=st'/\off+len<=rows.length,.iv (.sl ((rows.drop off).take len)),[h])|_=>none
 |_=>none
def aH (H:Hp):List AV->Option (Prop×List CV×List Nat)
 |[]=>some (True,[],[])
 |x::xs=>match bn H x,aH H xs with
  |some (c,v,ms),some (c',vs,ms')=>some (c/\c',v::vs,ms++ms')
  |_,_=>none
section
variable {G:Gh} {M:Nat->Prop} {w0:World} {D0:Nat->Prop} {N:Nat} {f:Fr} {H:Hp} {β:Nat->Value} {a:Act} {w:World}
theorem BG (R:Rel G M w0 D0 N f H β a w){x:AV}{v:Value}(hx:aG w (DD H β D0) H β x v){c:Prop}{y:List IV}{ms:List Nat}(ht:aI H x=some (c,y,ms))(hc:c) :
  jX w (DD (aQ ms H) β D0) y v:=by
 unfold aI at ht;split at ht
 .injection ht with ht;injection ht with e1 e2;injection e2 with e2 e3;subst e1 e2 e3;simpa only[aG,aQ,jX] using hx
 .rename_i h st i off;split at ht
  .rename_i fz st' e sz rows hH;injection ht with ht;injection ht with e1 e2;injection e2 with e2 e3;subst e1 e2 e3;have R1:=R.freeze h;have hH1:dF H h (H h).frz h=.blk true st' e sz rows:=by rw[aO,hH];rfl
   have hx1:aG w (DD (dF H h (H h).frz) β D0) (dF H h (H h).frz) β (.hp h st i off) v:=by
    simp only[aG]at hx ⊢;rw[aO,HC.Df,HC.Oq];exact hx
   obtain⟨g,cap,vs,hb,hl,hr,hcell⟩:=R1.row hH1 hc.2;simp only[aG]at hx1;obtain⟨g',n',cap',hb',rfl⟩:=hx1.2 (by rw[hH1];exact hc.1);rw[hb]at hb';injection hb' with e1;injection e1 with e1;injection e1 with e1
   subst e1;simp only[aQ];refine⟨g,_,rfl,λhne hD=>?_,vs.drop off,hr.drop off,λj u hj=>?_⟩
   .obtain⟨hrows,hrep,_⟩:=R1.frz h _ _ _ _ hH1;rw[hb]at hrep;cases hrep with
    |nil=>exact(Nat.not_lt_zero _ hc.2).elim
    |sl _ _ _ _ _ _ _ _ _ _ hDg _ _=>exact hDg hD
   .rw[List.getElem?_drop]at hj;have:=hcell _ _ hj;rw[hH1]at *;simp only[HC.esz];rw[Nat.add_assoc];exact this
  .cases ht
 .cases ht
theorem qj (R:Rel G M w0 D0 N f H β a w):∀{xs:List AV} {vs:List Value} {c:Prop} {ys:List (List IV)} {ms:List Nat},aS w (DD H β D0) H β xs vs->aB H xs=some (c,ys,ms)->c->nS w (DD (aQ ms H) β D0) ys vs
 |[],[],c,ys,ms,_,ht,hc=>by
  simp only[aB]at ht;injection ht with ht;injection ht with e1 e2;injection e2 with e2 e3;subst e1 e2 e3
  trivial
 |x::xs,v::vs,c,ys,ms,hx,ht,hc=>by
  simp only[aS]at hx;simp only[aB]at ht;split at ht
  .rename_i c1 y1 m1 c2 y2 m2 h1 h2;injection ht with ht;injection ht with e1 e2;injection e2 with e2 e3;subst e1 e2 e3;exact⟨(BG R hx.1 h1 hc.1).mono (dh.of_sub (yB _ _ H (by simp +contextual))),(qj R hx.2 h2 hc.2).mono (dh.of_sub (yB _ _ H (by simp +contextual)))⟩
  .cases ht
 |[],_::_,_,_,_,hx,_,_=>by simp[aS]at hx
 |_::_,[],_,_,_,hx,_,_=>by simp[aS]at hx
theorem mG (R:Rel G M w0 D0 N f H β a w){x:AV}{v:Value}(hx:aG w (DD H β D0) H β x v){c:Prop}{y:CV}{ms:List Nat}(ht:bn H x=some (c,y,ms))(hc:c) :
  iI w (DD (aQ ms H) β D0) y v:=by
 have key:∀x',oL H x=some (c,[x'],ms)->(∀cs,v≠.agg cs)->Rep w (DD (aQ ms H) β D0) x' v:=by
  intro x' h hv;have:=jF R hx h hc;have e:v.cells = #[v]:=by cases v<;>first|rfl|exact(hv _ rfl).elim
  rw[e]at this;exact this.1
 unfold bn at ht;split at ht
 .injection ht with ht;injection ht with e1 e2;injection e2 with e2 e3;subst e1 e2 e3;trivial
 .injection ht with ht;injection ht with e1 e2;injection e2 with e2 e3;subst e1 e2 e3;simpa only[iI,aG,aQ,jX] using hx
 .split at ht
  .rename_i hb;injection ht with ht;injection ht with e1 e2;injection e2 with e2 e3;subst e1 e2 e3;exact BG R hx hb hc
  .cases ht
 .split at ht
  .rename_i hb;injection ht with ht;injection ht with e1 e2;injection e2 with e2 e3;subst e1 e2 e3;simp only[aG]at hx;obtain⟨us,rfl,hr⟩:=hx;exact⟨us,rfl,qj R hr hb hc⟩
  .cases ht
 .injection ht with ht;injection ht with e1 e2;injection e2 with e2 e3;subst e1 e2 e3;simpa only[iI,aG,aQ] using hx
 .injection ht with ht;injection ht with e1 e2;injection e2 with e2 e3;subst e1 e2 e3;simpa only[iI,aG,aQ] using hx
 .injection ht with ht;injection ht with e1 e2;injection e2 with e2 e3;subst e1 e2 e3;simp only[aG]at hx;subst hx;exact .nil _ _ (Nat.zero_le _)
 .rename_i h st;split at ht
  .rename_i fz st' e sz rows hH;injection ht with ht;injection ht with e1 e2;injection e2 with e2 e3;subst e1 e2 e3;refine key _ (by simp[oL,hH]) ?_;simp only[aG]at hx;have hv:=hx.2 (by rw[hH];exact hc);obtain⟨ad,cap,hb,_⟩:=R.jl hH;intro cs he;rw[hv,hb]at he;cases he
  .cases ht
 .rename_i h st off len;split at ht
  .rename_i fz st' e sz rows hH;injection ht with ht;injection ht with e1 e2;injection e2 with e2 e3;subst e1 e2 e3;refine key _ (by simp[oL,hH]) ?_;simp only[aG]at hx;intro cs he;rcases hx.2 (by rw[hH];exact hc.1) with ⟨_,ad,cap,hv,_⟩|⟨g,n,cap,cap',hb,hv,_⟩<;>rw[hv]at he<;>cases he
  .cases ht
 .cases ht
theorem mX (R:Rel G M w0 D0 N f H β a w):∀{xs:List AV} {vs:List Value} {c:Prop} {ys:List CV} {ms:List Nat},jh w (DD H β D0) H β xs vs->aH H xs=some (c,ys,ms)->c->eU w (DD (aQ ms H) β D0) ys vs
 |[],[],c,ys,ms,_,ht,hc=>by
  simp only[aH]at ht;injection ht with ht;injection ht with e1 e2;injection e2 with e2 e3;subst e1 e2 e3
  trivial
 |x::xs,v::vs,c,ys,ms,hx,ht,hc=>by
  cases hx with
  |cons hx hxs =>
  simp only[aH]at ht;split at ht
  .rename_i c1 y1 m1 c2 y2 m2 h1 h2;injection ht with ht;injection ht with e1 e2;injection e2 with e2 e3;subst e1 e2 e3;exact⟨(mG R hx h1 hc.1).mono (dh.of_sub (yB _ _ H (by simp +contextual))),(mX R hxs h2 hc.2).mono (dh.of_sub (yB _ _ H (by simp +contextual)))⟩
  .cases ht
 |[],_::_,_,_,_,hx,_,_=>by cases hx
 |_::_,[],_,_,_,hx,_,_=>by cases hx
def yS (H:Hp):List AV->Option (Prop×List (List IV)×List Nat)
 |[]=>some (True,[],[])
 |x::xs=>match x with
  |.hs k s=>match H k with
   |.blk _ s' _ _ r=>match yS H xs with
    |some (c,rs,ms)=>some (s=s'/\c,[.sl r]::rs,k::ms)
    |none=>none
   |_=>none
  |_=>none
def Nj (H:Hp)(x:AV):Option (Prop×CV×List Nat) :=
 match x with
 |.oG=>some (True,.val (.slice none 0 0),[])
 |.hs h st=>match H h with
  |.nst st' _ rows=>match yS H rows with
   |some (c,rs,ms)=>some (st=st'/\c,.iv (.sl rs),h::ms)
   |none=>none
  |_=>bn H (.hs h st)
 |.hv h st off len=>match H h with
  |.nst st' _ rows=>match yS H ((rows.drop off).take len) with
   |some (c,rs,ms)=>some (st=st'/\off+len<=rows.length/\c,.iv (.sl rs),h::ms)
   |none=>none
  |_=>bn H (.hv h st off len)
 |x=>bn H x
def su (H:Hp):List AV->Option (Prop×List CV×List Nat)
 |[]=>some (True,[],[])
 |x::xs=>match Nj H x,su H xs with
  |some (c,v,ms),some (c',vs,ms')=>some (c/\c',v::vs,ms++ms')
  |_,_=>none
theorem CO (R:Rel G M w0 D0 N f H β a w):∀{xs:List AV} {vs:List Value} {c:Prop} {rs:List (List IV)} {ms:List Nat},aS w (DD H β D0) H β xs vs->yS H xs=some (c,rs,ms)->c ->
  rs.length=xs.length/\∀(i:Nat) (r:List IV),rs[i]?=some r->∃rr k v,r=[IV.sl rr]/\k∈ms/\vs[i]?=some v/\Rep w (DD (aQ [k] H) β D0) (.sl rr) v
 |[],[],c,rs,ms,_,ht,_=>by
  simp only[yS]at ht;injection ht with ht;injection ht with e1 e2;injection e2 with e2 e3;subst e1 e2 e3
  exact⟨rfl,λi r h=>by simp at h⟩
 |x::xs,v::vs,c,rs,ms,hx,ht,hc=>by
  simp only[aS]at hx;simp only[yS]at ht;split at ht
  .rename_i k s;split at ht
   .rename_i fz s' e sz rr hK;split at ht
    .rename_i c' rs' ms' hn;injection ht with ht;injection ht with e1 e2;injection e2 with e2 e3;subst e1 e2 e3;obtain⟨hl,hi⟩:=CO R hx.2 hn hc.2;refine⟨by simp[hl],λi r hr=>?_⟩;cases i with
     |zero =>
      simp only[List.getElem?_cons_zero,Option.some.injEq]at hr;have h1:=hx.1;simp only[aG]at h1;have hv:=h1.2 (by rw[hK];exact hc.1);refine⟨rr,k,v,hr.symm,by simp,rfl,?_⟩;rw[hv];exact(R.slice hK).2.1
     |succ i =>
      obtain⟨rr',k',v',q1,q2,q3,q4⟩:=hi i r (by simpa using hr);exact⟨rr',k',v',q1,by simp[q2],by simpa using q3,q4⟩
    .cases ht
   .cases ht
  .cases ht
 |[],_::_,_,_,_,hx,_,_=>by simp[aS]at hx
 |_::_,[],_,_,_,hx,_,_=>by simp[aS]at hx
theorem aS.drop {D:Nat->Prop}(n:Nat):∀{xs:List AV} {vs:List Value},aS w D H β xs vs->aS w D H β (xs.drop n) (vs.drop n):=by
 induction n with
 |zero=>intro xs vs h;simpa using h
 |succ n ih =>
  intro xs vs h
  match xs,vs,h with
  |[],[],_=>simp[aS]
  |x::xs,v::vs,h=>simp only[aS]at h;simpa using ih h.2
theorem aS.take {D:Nat->Prop}(n:Nat):∀{xs:List AV} {vs:List Value},aS w D H β xs vs->aS w D H β (xs.take n) (vs.take n):=by
 induction n with
 |zero=>intro xs vs _;simp[aS]
 |succ n ih =>
  intro xs vs h
  match xs,vs,h with
  |[],[],_=>simp[aS]
  |x::xs,v::vs,h=>simp only[aS,List.take_succ_cons]at h ⊢;exact⟨h.1,ih h.2⟩
theorem QH (R:Rel G M w0 D0 N f H β a w){h st e:Nat}{rows:List AV}(hH:H h=.nst st e rows){off len:Nat}(hol:off+len<=rows.length){c:Prop}{rs:List (List IV)}{ms:List Nat}(hn:yS H ((rows.drop off).take len)=some (c,rs,ms))(hc:c)(h0:0<len)
  {g n cap cap':Nat} (hb:β h=.slice (some ⟨g,0,none⟩) n cap) (hcap:len<=cap') (hm:cap'<=maxLen):Rep w (DD (aQ (h::ms) H) β D0) (.sl rs) (.slice (some ⟨g,off,none⟩) len cap'):=by
 rcases R.nst h _ _ _ hH with ⟨rfl,_⟩|⟨g',cp,cur,hv,hB,hg,h1,h2,h3,h4,h5⟩
 .simp at hol;omega
 rw[hv]at hb;injection hb with e1 e2 e3;injection e1 with e1;injection e1 with e1 e4;subst e1
 obtain⟨hl,hi⟩:=CO R ((h4.drop off).take len) hn hc;have hlen:rs.length=len:=by rw[hl,List.length_take,List.length_drop];omega
 rw[<-hlen];refine .sl rs g' off cap' 1 (λi _=>(cur.toList.drop off).getD i default) (λi r hr=>?_) (by omega) hm (Array.getElem?_eq_some_iff.1 hg).1 ?_ ?_ ?_
 .obtain⟨rr,k,v,q1,_⟩:=hi i r hr;rw[q1];rfl
 .rintro(hb|⟨k,hm',hk⟩)
  .have q1:=R.old _ hb;rcases hB with q2|q2
   .omega
   .exact q1.2 q2
  .have q:=(nK (h::ms) H k).1 hm';have hne:k≠h:=λe=>q.1 (by simp[e])
   exact R.dis h k (Ne.symm hne) (by rw[hH];trivial) q.2 g' (by rw[hv];rfl) hk
 .intro i r hr j x hj;obtain⟨rr,k,v,q1,q2,q3,q4⟩:=hi i r hr;subst q1
  match j,hj with
  |0,_ =>
   have hil:i<len:=by rw[<-hlen];exact(List.getElem?_eq_some_iff.1 hr).1
   rw[cell_of_row w g' _ cur e (0,0) hg];simp only[List.getD,List.getElem?_drop,Nat.mul_one,Nat.add_zero,Array.getElem?_toList];have:off+i<cur.size:=by omega
   simp[this]
  |j+1,hj=>simp at hj
 .intro i r hr j x hj;obtain⟨rr,k,v,q1,q2,q3,q4⟩:=hi i r hr;subst q1
  match j,hj with
  |0,hj =>
   simp only[List.getElem?_cons_zero,Option.some.injEq]at hj;subst hj;have hil:i<len:=by rw[<-hlen];exact(List.getElem?_eq_some_iff.1 hr).1
   have hv2:(cur.toList.drop off).getD i default=v:=by
    rw[List.getElem?_take_of_lt hil,List.getElem?_drop,List.getElem?_take_of_lt (by omega)]at q3;simp only[List.getD,List.getElem?_drop,q3,Option.getD_some]
   rw[hv2];exact q4.mono (dh.of_sub (yB _ _ H (by intro q hq;simp only[List.mem_singleton]at hq;subst hq;simp[q2])))
  |j+1,hj=>simp at hj
theorem xq {xs:List AV}{c:Prop}{rs:List (List IV)}{ms:List Nat}(h:yS H xs=some (c,rs,ms))(h0:xs.length=0):rs=[]:=by
 have e:=List.eq_nil_of_length_eq_zero h0;subst e;simp only[yS]at h;injection h with h;injection h with e1 e2;injection e2 with e2 e3;exact e2.symm
theorem Nc (R:Rel G M w0 D0 N f H β a w){x:AV}{v:Value}(hx:aG w (DD H β D0) H β x v){c:Prop}{y:CV}{ms:List Nat}(ht:Nj H x=some (c,y,ms))(hc:c) :
  iI w (DD (aQ ms H) β D0) y v:=by
 unfold Nj at ht;split at ht
 .injection ht with ht;injection ht with e1 e2;injection e2 with e2 e3;subst e1 e2 e3;simpa only[iI,aG] using hx
 .rename_i h st;split at ht
  .rename_i st' e rows hH;split at ht
   .rename_i c' rs ms' hn;injection ht with ht;injection ht with e1 e2;injection e2 with e2 e3;subst e1 e2 e3;obtain⟨hst,hc'⟩:=hc;simp only[aG]at hx;have hv:=hx.2 (by rw[hH];exact hst);subst hv;simp only[iI];rcases R.nst h _ _ _ hH with ⟨rfl,hv⟩|⟨g,cap,cur,hv,hB,hg,h1,h2,h3,h4,h5⟩
    .rw[hv,xq hn rfl];exact .nil _ _ (Nat.zero_le _)
    .by_cases h0:rows.length=0
     .rw[hv,xq hn h0,h0];exact .nil _ _ h2
     .have hn':yS H ((rows.drop 0).take rows.length)=some (c',rs,ms'):=by rw[List.drop_zero,List.take_of_length_le (Nat.le_refl _)];exact hn
      have:=QH R hH (off:=0) (len:=rows.length) (by omega) hn' hc' (by omega) hv h1 h2;rw[hv];exact this
   .cases ht
  .exact mG R hx ht hc
 .rename_i h st off len;split at ht
  .rename_i st' e rows hH;split at ht
   .rename_i c' rs ms' hn;injection ht with ht;injection ht with e1 e2;injection e2 with e2 e3;subst e1 e2 e3;obtain⟨hst,hol,hc'⟩:=hc;simp only[aG]at hx;simp only[iI];rcases hx.2 (by rw[hH];exact hst) with ⟨rfl,ad,cap,hv,hcm,_⟩|⟨g,n,cap,cap',hb,hv,q1,q2,_⟩
    .rw[hv,xq hn (by simp)];exact .nil _ _ hcm
    .by_cases h0:len=0
     .subst h0;rw[hv,xq hn (by simp)];exact .nil _ _ q2
     .rw[hv,hH];simp only[HC.esz,Nat.mul_one];exact QH R hH hol hn hc' (by omega) hb q1 q2
   .cases ht
  .exact mG R hx ht hc
 .exact mG R hx ht hc
theorem zH (R:Rel G M w0 D0 N f H β a w):∀{xs:List AV} {vs:List Value} {c:Prop} {ys:List CV} {ms:List Nat},jh w (DD H β D0) H β xs vs->su H xs=some (c,ys,ms)->c->eU w (DD (aQ ms H) β D0) ys vs
 |[],[],c,ys,ms,_,ht,hc=>by
  simp only[su]at ht;injection ht with ht;injection ht with e1 e2;injection e2 with e2 e3;subst e1 e2 e3
  trivial
 |x::xs,v::vs,c,ys,ms,hx,ht,hc=>by
  cases hx with
  |cons hx hxs =>
  simp only[su]at ht;split at ht
  .rename_i c1 y1 m1 c2 y2 m2 h1 h2;injection ht with ht;injection ht with e1 e2;injection e2 with e2 e3;subst e1 e2 e3;exact⟨(Nc R hx h1 hc.1).mono (dh.of_sub (yB _ _ H (by simp +contextual))),(zH R hxs h2 hc.2).mono (dh.of_sub (yB _ _ H (by simp +contextual)))⟩
  .cases ht
 |[],_::_,_,_,_,hx,_,_=>by cases hx
 |_::_,[],_,_,_,hx,_,_=>by cases hx
def Px:IV->Prop
 |.sl rows=>rows=[]
 |.own _ _ _ _=>False
 |.av _ _=>False
 |_=>True
def SQ:CV->Prop
 |.iv x=>Px x
 |.agg cs=>∀x∈cs,Px x
 |.val _=>True
 |.box _=>False
 |.fn _ caps=>caps=[]
 |.any=>True
def wo (own:iy)(res:List CV):Prop :=
 match own with
 |none=>∀c∈res,SQ c
 |some (i,_,_,rows)=>(∀r∈rows,∀x∈r,Px x)/\∀(j:Nat) c,j≠i->res[j]?=some c->SQ c
theorem Rep.flat {D D':Nat->Prop}{w':World}{x:IV}{v:Value}(h:Rep w D x v)(hf:Px x):Rep w' D' x v:=by
 cases h with
 |int k n=>exact .int k n
 |bool b=>exact .bool b
 |raw v hv=>exact .raw v hv
 |nil a cap hcap=>exact .nil a cap hcap
 |sl rows g o cap sz cell hsz hl hcap hg hD hc hr =>
  simp only[Px]at hf;subst hf;exact .nil _ _ hcap
 |QD=>exact hf.elim
 |own=>exact hf.elim
 |av=>exact hf.elim
theorem eF.flat {D D':Nat->Prop}{w':World}:∀{xs:List IV} {vs:List Value},eF w D xs vs->(∀x∈xs,Px x)->eF w' D' xs vs
 |[],[],_,_=>trivial
 |_::_,_::_,h,hf=>⟨h.1.flat (hf _ (by simp)),eF.flat h.2 λx hx=>hf x (by simp[hx])⟩
 |[],_::_,h,_=>h.elim
 |_::_,[],h,_=>h.elim
theorem iI.flat {D D':Nat->Prop}{w':World}{c:CV}{v:Value}(h:iI w D c v)(hf:SQ c):iI w' D' c v:=by
 cases c with
 |iv x=>exact Rep.flat h hf
 |agg cs=>obtain⟨a,rfl,hr⟩:=h;exact⟨a,rfl,hr.flat hf⟩
 |val u=>exact h
 |box cells=>exact hf.elim
 |fn k caps =>
  simp only[SQ]at hf;subst hf;obtain⟨a,rfl,hr⟩:=h;refine⟨a,rfl,?_⟩
  match a.toList,hr with
  |[],_=>trivial
 |any=>trivial
def rAV (H:Hp)(d:Nat)(own:iy)(j:Nat):List CV->List AV
 |[]=>[]
 |c::cs=>(match own with|some (i,_)=>if i=j then .hs d ((H d).stamp+1) else c.av|none=>c.av)::rAV H d own (j+1) cs
def l7:List AV->AV
 |[]=>.undef
 |[x]=>x
 |l=>.tup l
def DY (H:Hp)(d:Nat):iy->List (Nat×HC)
 |none=>[]
 |some (_,e,sz,rows)=>[(d,.blk false ((H d).stamp+1) e sz rows)]
theorem oW {D:Nat->Prop}:∀(l:List AV) (us:List Value),aS w D H β l us->aG w D H β (l7 l) (qF us)
 |[],[],_=>by simp only[l7,qF,aG];rfl
 |[x],[v],h=>by simp only[aS]at h;exact h.1
 |x::y::l,v::u::us,h=>by
  simp only[l7,qF,aG];exact⟨_,rfl,h⟩
 |[],_::_,h=>by simp[aS]at h
 |_::_,[],h=>by simp[aS]at h
 |[_],_::_::_,h=>by simp[aS]at h
 |_::_::_,[_],h=>by simp[aS]at h
theorem Nz {D:Nat->Prop}{d:Nat}{H0:Hp}{own:iy}:∀(res:List CV) (us:List Value) (j:Nat),us.length=res.length ->
  (∀(k:Nat) c v,(∀i e sz rows,own=some (i,e,sz,rows)->j+k≠i)->res[k]?=some c->us[k]?=some v->iI w D c v) ->
  (∀(k:Nat) v i e sz rows,own=some (i,e,sz,rows)->j+k=i->us[k]?=some v->aG w D H β (.hs d ((H0 d).stamp+1)) v)->aS w D H β (rAV H0 d own j res) us
 |[],[],_,_,_,_=>by simp only[rAV,aS]
 |c::cs,v::vs,j,hl,h1,h2=>by
  simp only[rAV,aS];refine⟨?_,Nz cs vs (j+1) (by simpa using hl) (λk c' v' hk hc hv=>h1 (k+1) c' v' (λi e sz rows ho=>by have:=hk i e sz rows ho;omega) (by simpa using hc) (by simpa using hv)) (λk v' i e sz rows ho hk hv=>h2 (k+1) v' i e sz rows ho (by omega) (by simpa using hv))⟩;cases own with
  |none=>exact(h1 0 c v (by simp) rfl rfl).av
  |some p =>
   obtain⟨i,e,sz,rows⟩:=p;simp only;split
   .rename_i hij;exact h2 0 v i e sz rows rfl (by omega) rfl
   .rename_i hij;exact(h1 0 c v (by rintro i' e' sz' rows' ⟨⟩;omega) rfl rfl).av
 |[],_::_,_,hl,_,_=>by simp at hl
 |_::_,[],_,hl,_,_=>by simp at hl
theorem Rel.below (R:Rel G M w0 D0 N f H β a w){w':World}(hb:Below w.heap.size w w'):Rel G M w0 D0 N f H β a w':=by
 have g:dh w (DD H β D0) w' (DD H β D0):=⟨hb.size,λ_ _ h=>h,λb h _ _=>hb.block b h⟩;have:=R.step (w':=w') (H':=H) (β':=β) (dst:=none) (v:=.dead) (val:=Go.undef) hb.os hb.tape hb.output g (λk h1 _=>hb.block k (Nat.lt_of_lt_of_le h1 R.size)) (λk _ h=>by rw[hb.block k (Array.getElem?_eq_some_iff.1 h).1];exact h) (jV.refl _ _) (by simp[aG])
  (λh st e sz rows hh=>(R.own h st e sz rows hh).mono g λk hk=>hb.block k ((R.own h st e sz rows hh).lt hk).1)
  (λh st e sz rows hh=>⟨(R.frz h st e sz rows hh).1,(R.frz h st e sz rows hh).2.1.mono g,(R.frz h st e sz rows hh).2.2⟩) R.dis
  (λh st e rows hh=>(R.nst h st e rows hh).mono g (jV.refl _ _) λk hk=>hb.block k ((R.nst h st e rows hh).lt hk).1) (λh B hh=>Nat.le_trans (R.mrk h B hh) hb.size) (by simp)
 exact this
theorem Rel.JE (R:Rel G M w0 D0 N f H β a w){h B E:Nat}(hH:H h=.mrk B)(hE:E<=w.heap.size):Rel G M w0 D0 N f (dF H h (.mrk E)) β a w:=by
 have hm:∀u,(dF H h (.mrk E) u).gB↔(H u).gB:=λu=>by
  by_cases e:u=h
  .subst e;rw[aO,hH];exact Iff.rfl
  .rw[aJ _ _ e]
 have hDD:∀b,DD (dF H h (.mrk E)) β D0 b->DD H β D0 b:=by
  rintro b (hb|⟨k,hk,hb⟩)
  .exact .inl hb
  .exact .inr ⟨k,(hm k).1 hk,hb⟩
 have g:=dh.of_sub (w:=w) hDD;have s:jV H β (dF H h (.mrk E)) β:=λu=>by
  left
  by_cases e:u=h
  .subst e;rw[aO,hH];exact⟨rfl,rfl,rfl⟩
  .rw[aJ _ _ e];exact⟨rfl,rfl,rfl⟩
 have ne:∀u c,dF H h (.mrk E) u=c->(∀B,c≠.mrk B)->H u=c:=λu c hu hc=>by
  by_cases e:u=h
  .subst e;rw[aO]at hu;exact(hc E hu.symm).elim
  .rwa [aJ _ _ e]at hu
 have:=R.step (w':=w) (H':=dF H h (.mrk E)) (β':=β) (dst:=none) (v:=.dead) (val:=Go.undef) rfl rfl rfl g (λ_ _ _=>rfl) (λ_ _ h=>h) s (by simp[aG])
  (λu st e sz rows hu=>(R.own u st e sz rows (ne u _ hu (by intro B;simp))).mono g λ_ _=>rfl)
  (λu st e sz rows hu=>have hu:=ne u _ hu (by intro B;simp);⟨(R.frz u st e sz rows hu).1,(R.frz u st e sz rows hu).2.1.mono g,(R.frz u st e sz rows hu).2.2⟩)
  (λu u' hne h1 h2=>R.dis u u' hne ((hm u).1 h1) ((hm u').1 h2))
  (λu st e rows hu=>(R.nst u st e rows (ne u _ hu (by intro B;simp))).mono g s λ_ _=>rfl)
  (λu B hu=>by
   by_cases e:u=h
   .subst e;rw[aO]at hu;injection hu with hu;subst hu;exact hE
   .rw[aJ _ _ e]at hu;exact R.mrk u B hu) (by simp)
 exact this
theorem Zu (R:Rel G M w0 D0 N f H β a w){own:iy}{res:List CV}{us:List Value}{w':World}(hb:Below w.heap.size w w')(hr:Eo w w' (DD H β D0) own res us){d:Nat}(hd:d<N) :
  ∃β',Rel G M w0 D0 N (upd f d (l7 (rAV H d own 0 res))) (dA (DY H d own) H) β' (a.put (some d) (qF us)) w':=by
 cases own with
 |none =>
  have R1:=R.below hb;refine⟨β,R1.value (dst:=some d) (oW _ _ (Nz res us 0 hr.len (λk c v _ hc hv=>(hr.val k c v (by simp) hc hv).mono (dh.of_sub λb hb=>.inl hb)) (by simp))) (by rintro _ ⟨⟩;exact hd)⟩
 |some p =>
  obtain⟨i,e,sz,rows⟩:=p;obtain⟨v,hv,hi,hown⟩:=hr.own i e sz rows rfl;have hX:∀b,(DD H β D0 b\/GN (some (i,e,sz,rows)) us b)↔(DD H β D0 b\/bD v=some b):=by
   intro b;simp only[GN,hv,Option.some.injEq,exists_eq_left']
  have hown':Own w' (λb=>DD H β D0 b\/bD v=some b) w.heap.size (λ_=>False) v e sz rows:=hown.mono (dh.of_sub λb hb=>(hX b).2 hb) λ_ _=>rfl
  obtain⟨β',hβ,b5r,R'⟩:=R.fresh (w':=w') (h:=d) (v:=v) (dst:=none) (x:=.dead) (val:=Go.undef) (st:=(H d).stamp+1) (by omega) hb.os hb.tape hb.output hb.size (λk hk=>hb.block k hk) hown' (λ_ _ _=>by simp[aG]) (by simp);refine⟨β',R'.value (dst:=some d) (oW _ _ (Nz res us 0 hr.len (λk c u hk hc hu=>?_) (λk u i' e' sz' rows' ho hk hu=>?_))) (by rintro _ ⟨⟩;exact hd)⟩
  .refine(hr.val k c u (λi e sz rows ho=>by have:=hk i e sz rows ho;omega) hc hu).mono (dh.of_sub λb hb=>?_);rw[hX];rcases hb with hb|⟨k,hm,hk⟩
   .exact .inl (.inl hb)
   .by_cases hkd:k=d
    .subst hkd;rw[hβ]at hk;exact .inr hk
    .rw[aJ _ _ hkd]at hm;rw[b5r k hkd]at hk;exact .inl (.inr ⟨k,hm,hk⟩)
  .injection ho with ho;injection ho with e1 _;rw[Nat.zero_add]at hk;subst hk;subst e1;rw[hv]at hu;injection hu with hu;subst hu
   simp only[aG,aO,HC.stamp];exact⟨Nat.le_refl _,λ_=>hβ.symm⟩
end
end Go.AL
