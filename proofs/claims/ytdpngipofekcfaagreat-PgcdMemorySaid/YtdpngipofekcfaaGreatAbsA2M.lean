/-
 The abstract logic: copies;signs of a text.
-/
import Derived.Test.YtdpngipofekcfaaGreatAbsK
import Derived.Test.YtdpngipofekcfaaGreatAbsA
import Derived.Laws.CopyRow
import Derived.Laws.IdiomCopy
namespace Go.AL
variable {zi:Zi}
open Go.RowKit
set_option linter.unusedSimpArgs false
set_option linter.unusedVariables false
section
variable {G:Gh} {M:Nat->Prop} {w0:World} {D0:Nat->Prop} {N:Nat} {f:Fr} {H:Hp} {β:Nat->Value} {a:Act} {w:World}
variable {P:Program} {t:Nat}
theorem Rel.writes (R:Rel G M w0 D0 N f H β a w){h st e sz off:Nat}{rows src:List (List IV)}(hH:H h=.blk false st e sz rows)(hi:off+src.length<=rows.length)(hsz:∀r∈src,r.length=sz){us:List Value}(hr:dY w (DD H β D0) src.flatten us)(hne:rows≠[])
  {dst:Option Nat} {x:AV} {val:Value} (hv:∀w' D H' β',ak w' D H' β' x val) (hd:∀d,dst=some d->d<N) :
  ∃g cap cur β',β h=.slice (some ⟨g,0,none⟩) rows.length cap/\w.heap[g]?=some (.cells cur e (0,0))/\off*sz+us.length<=cur.size /\
   Rel G M w0 D0 N (ku f dst x) (bW H h (.blk false st e sz (rows.take off++src++rows.drop (off+src.length)))) β' (a.put dst val) (w.setRow g (cur.toList.take (off*sz)++us++cur.toList.drop (off*sz+us.length)).toArray):=by
 have hown:=R.own h _ _ _ _ hH;rcases hown.2 with ⟨rfl,_⟩|⟨g,cap,cur,hb,hB,hg,h1,h2,h3,h4⟩
 .exact(hne rfl).elim
 have hul:=hr.length;rw[dB src hsz]at hul;have hmul:off*sz+us.length<=rows.length*sz:=by
  rw[<-hul,<-Nat.add_mul];exact Nat.mul_le_mul_right _ hi
 have hcapm:rows.length*sz<=cap*sz:=Nat.mul_le_mul_right _ h1;have hfit:off*sz+us.length<=cur.size:=by rw[h3];omega
 have hset:=setRow_heap w g cur (cur.toList.take (off*sz)++us++cur.toList.drop (off*sz+us.length)).toArray e (0,0) hg;have hmu:(H h).bI:=by rw[hH];trivial
 have gr:bD w (DD H β D0) (w.setRow g (cur.toList.take (off*sz)++us++cur.toList.drop (off*sz+us.length)).toArray) (λb=>DD H β D0 b\/aF (β h)=some b):=by
  refine⟨by simp,λb _ hd'=>?_,λb _ hn=>?_⟩
  .rcases hd' with h'|h'
   .exact h'
   .exact .inr ⟨h,hmu,h'⟩
  .exact λ_=>setRow_other w g b _ (λe=>hn (.inr ⟨h,hmu,by rw[hb,e];rfl⟩))
 have hlen:(rows.take off++src++rows.drop (off+src.length)).length=rows.length:=by
  simp only[List.length_append,List.length_take,List.length_drop];omega
 have hown':Own (w.setRow g (cur.toList.take (off*sz)++us++cur.toList.drop (off*sz+us.length)).toArray) (λb=>DD H β D0 b\/aF (β h)=some b) w0.heap.size M (β h) e sz (rows.take off++src++rows.drop (off+src.length)):=by
  refine⟨?_,.inr ⟨g,cap,_,by rw[hb,hlen],hB,hset,by rw[hlen];exact h1,h2,?_,?_⟩⟩
  .intro r hr';rcases List.mem_append.1 hr' with h'|h'
   .rcases List.mem_append.1 h' with h'|h'
    .exact hown.1 r (List.mem_of_mem_take h')
    .exact hsz r h'
   .exact hown.1 r (List.mem_of_mem_drop h')
  .simp;omega
  .rw[hlen,Gf cur.toList us _ _ hmul (by rw[show cur.toList.length=cur.size from rfl,h3];exact hcapm)];have e1:(rows.take off++src++rows.drop (off+src.length)).flatten=rows.flatten.take (off*sz)++src.flatten++rows.flatten.drop (off*sz+src.flatten.length):=by
    have ht:(rows.take off).flatten=rows.flatten.take (off*sz):=by
     have:=xB rows 0 off hown.1 (by omega);simpa using this
    have hdp:(rows.drop (off+src.length)).flatten=rows.flatten.drop (off*sz+src.flatten.length):=by
     have e0:rows.flatten=(rows.take (off+src.length)).flatten++(rows.drop (off+src.length)).flatten:=by rw[<-List.flatten_append,List.take_append_drop]
     have e2:(rows.take (off+src.length)).flatten.length=off*sz+src.flatten.length:=by
      rw[dB (sz:=sz) _ λr hr=>hown.1 r (List.mem_of_mem_take hr),dB src hsz,List.length_take,Nat.min_eq_left hi,Nat.add_mul]
     rw[e0,<-e2,List.drop_left]
    rw[List.flatten_append,List.flatten_append,ht,hdp]
   rw[e1];exact(yZ _ h4 hr).mono gr
 obtain⟨β',hb',_,R'⟩:=R.grow (w':=w.setRow g (cur.toList.take (off*sz)++us++cur.toList.drop (off*sz+us.length)).toArray) (st':=st) (rows':=rows.take off++src++rows.drop (off+src.length)) (v:=β h) (dst:=dst) (x:=x) (val:=val) hH (.inl ⟨rfl,rfl⟩) rfl rfl rfl (by simp)
  (λk hk hn=>setRow_other w g k _ (λe=>hn (by rw[hb,e];rfl))) hown' (λk hk=>.inl hk) (λ_ _ _ _ _=>hv _ _ _ _) hd
 exact⟨g,cap,cur,β',hb,hg,hfit,R'⟩
def UJ (T:TI)(H:Hp)(x y:AV):Option AR :=
 match oJ H y with
 |some (c,src,rd)=>match x with
  |.hv h st off len=>match H h with
   |.blk false st' e sz rows=>some ⟨c/\T.ok=true/\T.size=1/\sz=1/\st=st'/\off+len<=rows.length/\0<src.length/\(∀r∈src,r.length=1)/\src.length<=len,.iv (.int .i64 src.length),[],[(h,.blk false st e sz (rows.take off++src++rows.drop (off+src.length)))],h::rd⟩
   |_=>none
  |.hs h st=>match H h with
   |.blk false st' e sz rows=>some ⟨c/\T.ok=true/\T.size=1/\sz=1/\st=st'/\rows.length≠0/\(∀r∈src,r.length=1)/\src.length<=rows.length,.iv (.int .i64 src.length),[],[(h,.blk false st e sz (src++rows.drop src.length))],h::rd⟩
   |_=>none
  |_=>none
 |none=>none
theorem UG {P:Program}{t t2 e ty:Nat}(ht:(ti P t).desc=.sl e)(R:Rel G M w0 D0 N f H β a w){x y:AV}{v u:Value}(hx:ak w (DD H β D0) H β x v)(hy:ak w (DD H β D0) H β y u){dst:Option Nat}(hd:∀d,dst=some d->d<N){r:AR}(hr:UJ (ti P e) H x y=some r)(hc:r.c) :
  ∃z w' β',(Builtin.copy_ #[t,t2] ty #[v,u]).run P w=.ok z w'/\Rel G M w0 D0 N (ku f dst r.v) (bT r.hs (aH r.fz H)) β' (a.put dst z) w':=by
 have hu:=qj ht;unfold UJ at hr;split at hr
 .rename_i c src rd hs;split at hr
  .rename_i h st off len;split at hr
   .rename_i st' e' sz rows hH;injection hr with hr;subst hr;obtain⟨hc1,hok,hs1,hsz1,hst,hol,hl0,hsrc,hle⟩:=hc;subst hst;obtain⟨i,d,hi,_,hsi,_,_⟩:=XE hok;obtain⟨ad,cap,rfl,hrow⟩:=lU R hy hs hc1 hsrc;have hsz:(P.info? e).map (·.size)=some 1:=by rw[hi];simp[<-hsi,hs1]
    subst hsz1;obtain⟨news,h1,h3⟩:∃news,dY w (DD H β D0) src.flatten news/\(src≠[]->∃g o,ad=some ⟨g,o,none⟩/\∀(j:Nat) v,news[j]?=some v->w.cell? ⟨g,o+j,none⟩=some v):=by
     obtain⟨news,h1,_,h3⟩:=hrow;exact⟨news,h1,h3⟩
    have hnl:news.length=src.length:=by rw[<-h1.length,dB src hsrc,Nat.mul_one]
    simp only[ak]at hx;have hne:rows≠[]:=by intro e;subst e;simp at hol;omega
    obtain⟨g,b8s,cur,β',hb,hg,hfit,R2⟩:=R.writes (dst:=dst) (x:=.iv (.int .i64 src.length)) (val:=.int .i64 src.length) hH (Nat.le_trans (Nat.add_le_add_left hle _) hol) hsrc h1 hne (λ_ _ _ _=>by simp only[ak];exact .int _ _) hd;rcases hx.2 (by rw[hH];rfl) with ⟨h0,_⟩|⟨g',n',c1,c2,hb',rfl,hlc,hcm,_⟩
    .omega
    rw[hb]at hb';injection hb' with e1 e2 e3;injection e1 with e1;injection e1 with e1 e4;subst e1
    have c0g:(H h).esz=1:=by rw[hH];rfl
    rw[c0g]at *;have h0:src≠[]:=by intro e;subst e;simp at hl0
    obtain⟨g2,o2,rfl,hcell⟩:=h3 h0;have hrun:=run_copy_row (P:=P) w t t2 ty e g (off*1) len c2 ⟨g2,o2,none⟩ src.length cap cur e' news hu hsz hg (by rw[hnl];exact(Nat.min_eq_left hle).symm) (λj v hj=>by rw[addr_add];exact hcell j v hj) hfit h1.one;rw[hnl]at hrun;refine⟨_,_,β',hrun,?_⟩;rw[hnl]at R2;exact R2
   .cases hr
  .rename_i h st;split at hr
   .rename_i st' e' sz rows hH;injection hr with hr;subst hr;obtain⟨hc1,hok,hs1,hsz1,hst,hl0,hsrc,hle⟩:=hc;subst hst;obtain⟨i,d,hi,_,hsi,_,_⟩:=XE hok;obtain⟨ad,cap,rfl,hrow⟩:=lU R hy hs hc1 hsrc;have hsz:(P.info? e).map (·.size)=some 1:=by rw[hi];simp[<-hsi,hs1]
    subst hsz1;simp only[ak]at hx;have hv:=hx.2 (by rw[hH];rfl);subst hv;have hne:rows≠[]:=by intro e;subst e;exact hl0 rfl
    by_cases h0:src=[]
    .subst h0;have he:bW H h (.blk false st e' 1 ([]++rows.drop ([]:List (List IV)).length))=H:=by
      funext u
      by_cases eu:u=h
      .subst eu;rw[aA,hH];rfl
      .rw[aB _ _ eu]
     have hb:∃x n c,β h=.slice x n c:=by
      rcases (R.own h _ _ _ _ hH).2 with ⟨_,hb⟩|⟨g,cap',cur,hb,_⟩<;>exact⟨_,_,_,hb⟩
     obtain⟨x0,n0,c0,hb⟩:=hb;rw[hb];refine⟨_,w,β,run_copy_none w t t2 ty e x0 ad n0 c0 _ cap hu hsz (by simp),?_⟩;simp only[bT,aH];rw[he];exact R.value (dst:=dst) (v:=.iv (.int .i64 ([]:List (List IV)).length)) (by simp only[ak];exact .int _ _) hd
    obtain⟨news,h1,h3⟩:∃news,dY w (DD H β D0) src.flatten news/\(src≠[]->∃g o,ad=some ⟨g,o,none⟩/\∀(j:Nat) v,news[j]?=some v->w.cell? ⟨g,o+j,none⟩=some v):=by
     obtain⟨news,h1,_,h3⟩:=hrow;exact⟨news,h1,h3⟩
    have hnl:news.length=src.length:=by rw[<-h1.length,dB src hsrc,Nat.mul_one]
    obtain⟨g,b8s,cur,β',hb,hg,hfit,R2⟩:=R.writes (off:=0) (dst:=dst) (x:=.iv (.int .i64 src.length)) (val:=.int .i64 src.length) hH (by rw[Nat.zero_add];exact hle) hsrc h1 hne (λ_ _ _ _=>by simp only[ak];exact .int _ _) hd;obtain⟨g2,o2,rfl,hcell⟩:=h3 h0;rw[hb];have hrun:=run_copy_row (P:=P) w t t2 ty e g (0*1) rows.length b8s ⟨g2,o2,none⟩ src.length cap cur e' news hu hsz hg (by rw[hnl];exact(Nat.min_eq_left hle).symm) (λj v hj=>by rw[addr_add];exact hcell j v hj) hfit h1.one;rw[hnl]at hrun;refine⟨_,_,β',hrun,?_⟩;rw[hnl]at R2;simp only[List.take_zero,List.nil_append,Nat.zero_add]at R2;exact R2
   .cases hr
  .cases hr
 .cases hr
def isStr (P:Program)(t:Nat):Prop:=P.underlying t=some .string
def Jb (P:Program)(t:Nat)(x i:AV):Option AR :=
 match x,i with
 |.iv (.raw (.string s)),.iv (.int k n)=>some ⟨isStr P t/\0<=n/\n<s.size,.iv (.int .u8 ((s[n.toNat]?.getD 0).toNat:Nat)),[],[],[]⟩
 |_,_=>none
theorem NQ {x y:AV}{v u:Value}(hx:ak w (DD H β D0) H β x v)(hy:ak w (DD H β D0) H β y u){r:AR}(hr:Jb P t x y=some r)(hc:r.c) :
  r.fz=[]/\r.hs=[]/\∃z,(Instr.index t v u).run P w=.ok z w/\ak w (DD H β D0) H β r.v z:=by
 unfold Jb at hr;split at hr
 .rename_i s k n;injection hr with hr;subst hr;obtain⟨h1,h2,h3⟩:=hc;simp only[ak]at hx hy;cases hx;cases hy;refine⟨rfl,rfl,.int .u8 ((s[n.toNat]?.getD 0).toNat:Nat),?_,by simp only[ak];exact .int _ _⟩;have hlt:n.toNat<s.size:=by omega
  have hget:s[n.toNat]?=some s[n.toNat]:=getElem?_pos s n.toNat hlt;simp only[Instr.index,zaU,asIntOf,zaI,zay,zbd h1,zas h2,hget,zaE]
 .cases hr
end
end Go.AL

namespace Go.AL
variable {zi:Zi}
open Go.RowKit
set_option linter.unusedSimpArgs false
set_option linter.unusedVariables false
section
variable {G:Gh} {M:Nat->Prop} {w0:World} {D0:Nat->Prop} {N:Nat} {f:Fr} {H:Hp} {β:Nat->Value} {a:Act} {w:World}
variable {D:Nat->Prop} {v:Value} {P:Program} {e d t t2:Nat}
theorem Rel.b4M (R:Rel G M w0 D0 N f H β a w){w':World}{h e:Nat}{rows:List AV}{v:Value}{dst:Option Nat}{x:AV}{val:Value}{st:Nat}(hst:(H h).stamp<st)
  (hos:w'.os=w.os) (htape:w'.tape=w.tape) (hout:w'.output=w.output) (hsz:w.heap.size<=w'.heap.size) (hk:∀k,k<w.heap.size->w'.heap[k]?=w.heap[k]?)
  (hown:Ob w' (λb=>DD H β D0 b\/aF v=some b) H β w.heap.size (λ_=>False) v e rows)
  (hv:∀β':Nat->Value,β' h=v->(∀D,ak w' D (bW H h (.nst st e rows)) β' x val)) (hd:∀d,dst=some d->d<N) :
  ∃β',β' h=v/\(∀u,u≠h->β' u=β u)/\Rel G M w0 D0 N (ku f dst x) (bW H h (.nst st e rows)) β' (a.put dst val) w':=by
 refine⟨λu=>if u=h then v else β u,by simp,λu hu=>by simp[hu],?_⟩;have hvk:∀k,aF v=some k->w.heap.size<=k\/DD H β D0 k:=λk hk=>by
  rcases (hown.lt hk).2 with h|h
  .exact .inl h
  .exact h.elim
 have s:iR H β (bW H h (.nst st e rows)) (λu=>if u=h then v else β u):=by
  intro u;by_cases hu:u=h
  .subst hu;right;rw[aA];exact hst
  .left;simp[aB _ _ hu,hu]
 have g:bD w (DD H β D0) w' (DD (bW H h (.nst st e rows)) (λu=>if u=h then v else β u) D0) :=
  ⟨hsz,λb hb hd=>vO hvk hb hd,λb hb _ _=>hk b hb⟩
 have g':bD w' (λb=>DD H β D0 b\/aF v=some b) w' (DD (bW H h (.nst st e rows)) (λu=>if u=h then v else β u) D0):=by
  refine⟨zab _,λb _ hd=>?_,λ_ _ _ _=>rfl⟩;rcases hd with hd|⟨k,hm,hh⟩
  .exact .inl (.inl hd)
  .by_cases hk:k=h
   .subst hk;simp only[zas]at hh;exact .inr hh
   .rw[aB _ _ hk]at hm;simp only[zam hk]at hh;exact .inl (.inr ⟨k,hm,hh⟩)
 have hnew:∀u,u≠h->(H u).bI->∀k,aF (β u)=some k->aF v≠some k:=λu hu hm k hh hh'=>by
  have h1:=(R.iG hm hh).1;rcases (hown.lt hh').2 with h2|h2
  .omega
  .exact h2
 refine R.step hos htape hout g (λk h1 _=>hk k (zau h1 R.size)) (λk _ h=>by rw[hk k (zai.1 h).1];exact h) s (hv _ (by simp) _) ?_ ?_ ?_ ?_ (λu B hu=>zad (R.mrk u B (Bf (by intro B;simp) hu)) hsz) hd
 .intro u st' e' sz' rows' hu;have huh:u≠h:=by
   intro e;subst e;rw[aA]at hu;cases hu
  rw[aB _ _ huh]at hu;simp only[zam huh];exact(R.own u st' e' sz' rows' hu).mono g λk hk'=>hk k ((R.own u st' e' sz' rows' hu).lt hk').1
 .intro u st' e' sz' rows' hu;have huh:u≠h:=by
   intro e;subst e;rw[aA]at hu;cases hu
  rw[aB _ _ huh]at hu;simp only[zam huh];exact⟨(R.frz u st' e' sz' rows' hu).1,(R.frz u st' e' sz' rows' hu).2.1.mono g,(R.frz u st' e' sz' rows' hu).2.2⟩
 .intro u u' hne hm hm' k hh hh';by_cases hu:u=h
  .subst hu;have hu':u'≠u:=λe=>hne e.symm
   simp only[zas]at hh;simp only[zam hu']at hh';rw[aB _ _ hu']at hm';exact hnew u' hu' hm' k hh' hh
  .by_cases hu':u'=h
   .subst hu';simp only[zam hu]at hh;simp only[zas]at hh';rw[aB _ _ hu]at hm;exact hnew u hu hm k hh hh'
   .simp only[zam hu]at hh;simp only[zam hu']at hh';rw[aB _ _ hu]at hm;rw[aB _ _ hu']at hm';exact R.dis u u' hne hm hm' k hh hh'
 .intro u st' e' rows' hu;by_cases huh:u=h
  .subst huh;rw[aA]at hu;injection hu with h1 h2 h3;subst h1 h2 h3;simp only[zas];rcases hown with hn|⟨k,cap,cur,rfl,hB,hkk,h1,h2,h3,h4⟩
   .exact .inl hn
   .refine .inr ⟨k,cap,cur,rfl,.inl ?_,hkk,h1,h2,h3,aG.mono g' s _ _ h4.1,h4.2⟩;rcases hB with hB|hB
    .exact zad R.size hB
    .exact hB.elim
  .rw[aB _ _ huh]at hu;simp only[zam huh];exact(R.nst u st' e' rows' hu).mono g s λk hk'=>hk k ((R.nst u st' e' rows' hu).lt hk').1
theorem Rel.b4L (R:Rel G M w0 D0 N f H β a w){w':World}{h st st' e:Nat}{rows rows':List AV}{v:Value}{dst:Option Nat}{x:AV}{val:Value}
  (hH:H h=.nst st e rows) (hst:(st'=st/\v=β h)\/st<st')
  (hos:w'.os=w.os) (htape:w'.tape=w.tape) (hout:w'.output=w.output) (hsz:w.heap.size<=w'.heap.size)
  (hk:∀k,k<w.heap.size->aF (β h)≠some k->w'.heap[k]?=w.heap[k]?)
  (hown:Ob w' (λb=>DD H β D0 b\/aF v=some b) H β w0.heap.size M v e rows') (hhead:∀k,aF v=some k->aF (β h)=some k\/w.heap.size<=k)
  (hv:∀β':Nat->Value,β' h=v->(∀u,u≠h->β' u=β u)->(∀D,bD w (DD H β D0) w' D->ak w' D (bW H h (.nst st' e rows')) β' x val)) (hd:∀d,dst=some d->d<N) :
  ∃β',β' h=v/\(∀u,u≠h->β' u=β u)/\Rel G M w0 D0 N (ku f dst x) (bW H h (.nst st' e rows')) β' (a.put dst val) w':=by
 refine⟨λu=>if u=h then v else β u,by simp,λu hu=>by simp[hu],?_⟩;have hmu:(H h).bI:=by rw[hH];trivial
 have hvk:∀k,aF v=some k->w.heap.size<=k\/DD H β D0 k:=λk hk=>by
  rcases hhead k hk with h1|h1
  .exact .inr (.inr ⟨h,hmu,h1⟩)
  .exact .inl h1
 have s:iR H β (bW H h (.nst st' e rows')) (λu=>if u=h then v else β u):=by
  intro u;by_cases hu:u=h
  .subst hu;rw[aA,hH];rcases hst with ⟨h1,h2⟩|h1
   .left;subst h1;simp[HC.stamp,HC.esz,h2]
   .right;exact h1
  .left;simp[aB _ _ hu,hu]
 have g:bD w (DD H β D0) w' (DD (bW H h (.nst st' e rows')) (λu=>if u=h then v else β u) D0) :=
  ⟨hsz,λb hb hd=>vO hvk hb hd,λb hb hn _=>hk b hb λhh=>hn (.inr ⟨h,hmu,hh⟩)⟩
 have g':bD w' (λb=>DD H β D0 b\/aF v=some b) w' (DD (bW H h (.nst st' e rows')) (λu=>if u=h then v else β u) D0):=by
  refine⟨Nat.le_refl _,λb _ hd=>?_,λ_ _ _ _=>rfl⟩;rcases hd with hd|⟨k,hm,hh⟩
  .exact .inl (.inl hd)
  .by_cases hk:k=h
   .subst hk;simp only[if_pos]at hh;exact .inr hh
   .rw[aB _ _ hk]at hm;simp only[if_neg hk]at hh;exact .inl (.inr ⟨k,hm,hh⟩)
 have hoth:∀u,u≠h->∀k,aF (β u)=some k->(H u).bI->w'.heap[k]?=w.heap[k]?:=by
  intro u hu k hku hm;exact hk k (R.iG hm hku).1 λhh=>R.dis u h hu hm hmu k hku hh
 have key:∀u,u≠h->(H u).bI->∀k,aF v=some k->aF (β u)≠some k:=by
  intro u hu hm k hk' hku;rcases hhead k hk' with h1|h1
  .exact R.dis u h hu hm hmu k hku h1
  .have:=(R.iG hm hku).1;omega
 refine R.step hos htape hout g ?_ (λk _ h2=>by
  rw[hk k (Array.getElem?_eq_some_iff.1 h2).1 λhh=>?_];· exact h2
  obtain⟨cur,e',hc⟩:=R.dL hmu hh;rw[hc]at h2;cases h2) s (hv _ (by simp) (λu hu=>by simp[hu]) _ g) ?_ ?_ ?_ ?_ (λu B hu=>Nat.le_trans (R.mrk u B (Bf (by intro B;simp) hu)) hsz) hd
 .intro k h1 h2;refine hk k (Nat.lt_of_lt_of_le h1 R.size) λhh=>?_;rcases DD.head R hmu hh with h3|h3
  .omega
  .exact h2 h3
 .intro u st1 e1 sz1 vV hu;have huh:u≠h:=by
   intro e;subst e;rw[aA]at hu;cases hu
  rw[aB _ _ huh]at hu;simp only[if_neg huh];exact(R.own u _ _ _ _ hu).mono g λk hk'=>hoth u huh k hk' (by rw[hu];trivial)
 .intro u st1 e1 sz1 vV hu;have huh:u≠h:=by
   intro e;subst e;rw[aA]at hu;cases hu
  rw[aB _ _ huh]at hu;simp only[if_neg huh];exact⟨(R.frz u _ _ _ _ hu).1,(R.frz u _ _ _ _ hu).2.1.mono g,(R.frz u _ _ _ _ hu).2.2⟩
 .intro u u' hne hm hm' k hh hh';by_cases hu:u=h
  .subst hu;have hu':u'≠u:=λe=>hne e.symm
   simp only[if_pos]at hh;simp only[if_neg hu']at hh';rw[aB _ _ hu']at hm';exact key u' hu' hm' k hh hh'
  .by_cases hu':u'=h
   .subst hu';simp only[if_neg hu]at hh;simp only[if_pos]at hh';rw[aB _ _ hu]at hm;exact key u hu hm k hh' hh
   .simp only[if_neg hu]at hh;simp only[if_neg hu']at hh';rw[aB _ _ hu]at hm;rw[aB _ _ hu']at hm';exact R.dis u u' hne hm hm' k hh hh'
 .intro u st1 e1 vV hu;by_cases huh:u=h
  .subst huh;rw[aA]at hu;injection hu with h1 h2 h3;subst h1 h2 h3;simp only[if_pos];exact hown.mono g' s λ_ _=>rfl
  .rw[aB _ _ huh]at hu;simp only[if_neg huh];exact(R.nst u _ _ _ hu).mono g s λk hk'=>hoth u huh k hk' (by rw[hu];trivial)
theorem Rel.b4B (R:Rel G M w0 D0 N f H β a w){k s e sz:Nat}{fz:Bool}{rows:List (List IV)}(hH:H k=.blk fz s e sz rows):(β k).oneCell'=true:=by
 obtain⟨ad,cap,hb,_⟩:=R.kH hH;rw[hb];rfl
def TS (H:Hp):AV->Option (Prop×List Nat)
 |.iv _=>some (True,[])
 |.vY=>some (True,[])
 |.hs k s=>match H k with
  |.blk _ s' _ _ _=>some (s=s',[k])
  |.nst s' _ _=>some (s=s',[k])
  |_=>none
 |.hv k s _ _=>match H k with
  |.blk _ s' _ _ _=>some (s=s',[k])
  |_=>none
 |_=>none
theorem TQ (R:Rel G M w0 D0 N f H β a w){x:AV}{u:Value}(hx:ak w (DD H β D0) H β x u){c:Prop}{rd:List Nat}(h:TS H x=some (c,rd))(hc:c):u.oneCell'=true/\u.cells = #[u]:=by
 have sl:∀ad n cap,u=.slice ad n cap->u.oneCell'=true/\u.cells = #[u]:=by rintro ad n cap rfl;exact⟨rfl,rfl⟩
 unfold TS at h;split at h
 .simp only[ak]at hx;refine⟨hx.one,?_⟩;have hv:=hx.one;cases u<;>first|rfl|(simp[Value.oneCell']at hv)
 .simp only[ak]at hx;exact sl _ _ _ hx
 .rename_i k s;split at h
  .rename_i fz s' e' sz' rows' hK;injection h with h;injection h with e1 e2;subst e1;simp only[ak]at hx;obtain⟨ad,cap,hb,_⟩:=R.kH hK;exact sl _ _ _ ((hx.2 (by rw[hK];exact hc)).trans hb)
  .rename_i s' e' rows' hK;injection h with h;injection h with e1 e2;subst e1;simp only[ak]at hx;obtain⟨ad,cap,hb,_⟩:=R.Dc hK;exact sl _ _ _ ((hx.2 (by rw[hK];exact hc)).trans hb)
  .cases h
 .rename_i k s off len;split at h
  .rename_i fz s' e' sz' rows' hK;injection h with h;injection h with e1 e2;subst e1;simp only[ak]at hx;rcases hx.2 (by rw[hK];exact hc) with ⟨_,ad,cap,hv,_⟩|⟨g,n,cap,cap',_,hv,_⟩
   .exact sl _ _ _ hv
   .exact sl _ _ _ hv
  .cases h
 .cases h
def Zc:IV->AV
 |.own none _ _ _=>.vY
 |x=>.iv x
theorem a4M {x:IV}(h:Rep w D x v):ak w D H β (Zc x) v:=by
 unfold Zc;split
 .cases h;simp only[ak]
 .simpa only[ak] using h
theorem G7:∀{xs:List IV} {vs:List Value},dY w D xs vs->aG w D H β (xs.map Zc) vs
 |[],[],_=>by simp[aG]
 |x::xs,v::vs,h=>by simp only[zaC,aG];exact⟨a4M h.1,G7 h.2⟩
 |[],_::_,h=>h.elim
 |_::_,[],h=>h.elim
def xI (T:TI)(H:Hp)(x v:AV):Option AR :=
 match x with
 |.hp h st i off=>match H h with
  |.nst st' e rows=>match v with
   |.agg (x1::x2::l)=>some ⟨T.ok=true/\T.size=(x1::x2::l).length/\rows.length=(x1::x2::l).length/\st=st'/\i+off=0,.undef,[],[(h,.nst st e ((x1::x2::l).map Zc))],[h]⟩
   |v=>match TS H v with
    |some (c,rd)=>some ⟨T.ok=true/\T.size=1/\st=st'/\i+off<rows.length/\c,.undef,[],[(h,.nst st e (rows.set (i+off) v))],h::rd⟩
    |none=>none
  |_=>BN T H x v
 |_=>BN T H x v
theorem NM {P:Program}{t:Nat}(R:Rel G M w0 D0 N f H β a w){x y:AV}{v u:Value}(hx:ak w (DD H β D0) H β x v)(hy:ak w (DD H β D0) H β y u){r:AR}(hr:xI (ti P t) H x y=some r)(hc:r.c){dst:Option Nat}(hd:∀d,dst=some d->d<N) :
  r.v=.undef/\∃w' β',(Instr.storeAt t v u).run P w=.ok () w'/\Rel G M w0 D0 N (ku f dst r.v) (bT r.hs (aH r.fz H)) β' (a.put dst Go.undef) w':=by
 unfold xI at hr;split at hr
 .rename_i h st i off;split at hr
  .rename_i st' e rows hH;split at hr
   .rename_i x1 x2 l;injection hr with hr;subst hr;obtain⟨hok,hsz,hlen,hst,hi⟩:=hc;subst hst;have hrep:dY w (DD H β D0) (x1::x2::l) u.cells.toList:=lD (c:=True) (fz:=[]) R hy (by rfl) trivial;simp only[ak]at hx;obtain⟨g',n',cap',hb',rfl⟩:=hx.2 (by rw[hH];rfl);rcases R.nst h _ _ _ hH with ⟨rfl,hv⟩|⟨g,cap,cur,hv,hB,hg,h1,h2,h3,h4⟩
    .simp at hlen
    rw[hv]at hb';injection hb' with e1 e2 e3;injection e1 with e1;injection e1 with e1 e4;subst e1
    have hul:u.cells.size=(x1::x2::l).length:=by rw[<-Array.length_toList,<-hrep.length]
    have hml:((x1::x2::l).map Zc).length=rows.length:=by rw[List.length_map,hlen]
    generalize (x1::x2::l)=cl at *;have hfit:0+u.cells.size<=cur.size:=by omega
    have hmu:(H h).bI:=by rw[hH];trivial
    have hsv:=wH (P:=P) (t:=t) (w:=w) hok (g:=g) (o:=0) (v:=u) hg (by rw[hul,hsz]) hfit hrep.one;have hset:=setRow_heap w g cur (cur.toList.take 0++u.cells.toList++cur.toList.drop (0+u.cells.size)).toArray e (0,0) hg;have gr:bD w (DD H β D0) (w.setRow g (cur.toList.take 0++u.cells.toList++cur.toList.drop (0+u.cells.size)).toArray) (λb=>DD H β D0 b\/aF (β h)=some b):=by
     refine⟨by simp,λb _ hd'=>?_,λb _ hn=>?_⟩
     .rcases hd' with h'|h'
      .exact h'
      .exact .inr ⟨h,hmu,h'⟩
     .exact λ_=>setRow_other w g b _ (λe=>hn (.inr ⟨h,hmu,by rw[hv,e];rfl⟩))
    have htake:(cur.toList.take 0++u.cells.toList++cur.toList.drop (0+u.cells.size)).take rows.length=u.cells.toList:=by
     rw[List.take_zero,List.nil_append,List.take_append_of_le_length (by have:=Array.length_toList (xs:=u.cells);omega),List.take_of_length_le (by have:=Array.length_toList (xs:=u.cells);omega)]
    have hown':Ob (w.setRow g (cur.toList.take 0++u.cells.toList++cur.toList.drop (0+u.cells.size)).toArray) (λb=>DD H β D0 b\/aF (β h)=some b) H β w0.heap.size M (β h) e (cl.map Zc):=by
     refine .inr ⟨g,cap,_,by rw[hv,hml],hB,hset,by rw[hml];exact h1,h2,by rw[List.size_toArray];simp only[List.length_append,List.length_drop,List.take_zero,List.length_nil,Array.length_toList];omega,?_⟩;rw[hml];simp only[];rw[htake];exact⟨G7 (hrep.mono gr),hrep.one⟩
    obtain⟨β',hb',_,R'⟩:=R.b4L (w':=w.setRow g (cur.toList.take 0++u.cells.toList++cur.toList.drop (0+u.cells.size)).toArray) (st':=st) (rows':=cl.map Zc) (v:=β h) (dst:=dst) (x:=.undef) (val:=Go.undef) hH (.inl ⟨rfl,rfl⟩) rfl rfl rfl (by simp)
     (λk hk hn=>setRow_other w g k _ (λe=>hn (by rw[hv,e];rfl))) hown' (λk hk=>.inl hk) (λ_ _ _ _ _=>by simp[ak]) hd
    refine⟨rfl,_,β',?_,R'⟩;simp only[Instr.storeAt,Instr.sureAddr,Sem.run_bind,Sem.run_pure,Result.andThen_ok,hH,HC.esz,Nat.mul_one,hi];exact hsv
   split at hr
   .rename_i co rd b7o;injection hr with hr;subst hr;obtain⟨hok,hsz,hst,hi,hs⟩:=hc;subst hst;obtain⟨hone,hcs⟩:=TQ R hy b7o hs;simp only[ak]at hx;obtain⟨g',n',cap',hb',rfl⟩:=hx.2 (by rw[hH];rfl);rcases R.nst h _ _ _ hH with ⟨rfl,hv⟩|⟨g,cap,cur,hv,hB,hg,h1,h2,h3,h4⟩
    .simp at hi
    rw[hv]at hb';injection hb' with e1 e2 e3;injection e1 with e1;injection e1 with e1 e4;subst e1
    have hfit:i+off+1<=cur.size:=by omega
    have hmu:(H h).bI:=by rw[hH];trivial
    have hsv:=wH (P:=P) (t:=t) (w:=w) hok (g:=g) (o:=i+off) (v:=u) hg (by rw[hcs,hsz];rfl) (by rw[hcs];exact hfit) (by rw[hcs];simpa using hone);rw[hcs]at hsv;simp only[List.size_toArray,List.length_cons,List.length_nil,Nat.zero_add]at hsv;have hset:=setRow_heap w g cur (cur.toList.take (i+off)++[u]++cur.toList.drop (i+off+1)).toArray e (0,0) hg;have gr:bD w (DD H β D0) (w.setRow g (cur.toList.take (i+off)++[u]++cur.toList.drop (i+off+1)).toArray) (λb=>DD H β D0 b\/aF (β h)=some b):=by
     refine⟨by simp,λb _ hd'=>?_,λb _ hn=>?_⟩
     .rcases hd' with h'|h'
      .exact h'
      .exact .inr ⟨h,hmu,h'⟩
     .exact λ_=>setRow_other w g b _ (λe=>hn (.inr ⟨h,hmu,by rw[hv,e];rfl⟩))
    have htake:(cur.toList.take (i+off)++[u]++cur.toList.drop (i+off+1)).take rows.length=(cur.toList.take rows.length).set (i+off) u:=by
     rw[<-List.take_set,List.set_eq_take_append_cons_drop,if_pos (by simp;omega)];simp
    have hown':Ob (w.setRow g (cur.toList.take (i+off)++[u]++cur.toList.drop (i+off+1)).toArray) (λb=>DD H β D0 b\/aF (β h)=some b) H β w0.heap.size M (β h) e (rows.set (i+off) y):=by
     refine .inr ⟨g,cap,_,by rw[hv];simp,hB,hset,by simpa using h1,h2,by simp;omega,?_⟩;simp only[List.length_set];rw[htake];refine⟨aG.mono gr (iR.refl _ _) _ _ (aG.set hy (i+off) h4.1),λx hx=>?_⟩;rcases List.mem_or_eq_of_mem_set hx with hx|hx
     .exact h4.2 x hx
     .rw[hx];exact hone
    obtain⟨β',hb',_,R'⟩:=R.b4L (w':=w.setRow g (cur.toList.take (i+off)++[u]++cur.toList.drop (i+off+1)).toArray) (st':=st) (rows':=rows.set (i+off) y) (v:=β h) (dst:=dst) (x:=.undef) (val:=Go.undef) hH (.inl ⟨rfl,rfl⟩) rfl rfl rfl (by simp)
     (λk hk hn=>setRow_other w g k _ (λe=>hn (by rw[hv,e];rfl))) hown' (λk hk=>.inl hk) (λ_ _ _ _ _=>by simp[ak]) hd
    refine⟨rfl,_,β',?_,R'⟩;simp only[Instr.storeAt,Instr.sureAddr,Sem.run_bind,Sem.run_pure,Result.andThen_ok,hH,HC.esz,Nat.mul_one];exact hsv
   .cases hr
  .exact Ew R hx hy hr hc hd
 .exact Ew R hx hy hr hc hd
theorem Rel.b8t (R:Rel G M w0 D0 N f H β a w){d e:Nat}{cells:List IV}{v:Value}(hr:dY w (DD H β D0) cells v.cells.toList)(hn:cells.length<=1000)(hd:d<N) :
  ∃β',Rel G M w0 D0 N (upd f d (.hp d ((H d).stamp+1) 0 0)) (bW H d (.nst ((H d).stamp+1) e (cells.map Zc))) β' (a.put (some d) (.pointer (some ⟨w.heap.size,0,none⟩))) (w.alloc (.cells v.cells e)):=by
 have hl:=hr.length;have hg:bD w (DD H β D0) (w.alloc (.cells v.cells e)) (λb=>DD H β D0 b\/aF (.slice (some ⟨w.heap.size,0,none⟩) cells.length cells.length)=some b):=by
  refine⟨by simp,λb hb hd=>?_,λb hb _ _=>zb5 w _ hb⟩;rcases hd with hd|hd
  .exact hd
  .simp[aF]at hd;omega
 obtain⟨β',_,_,R'⟩:=R.b4M (w':=w.alloc (.cells v.cells e)) (h:=d) (e:=e) (rows:=cells.map Zc) (v:=.slice (some ⟨w.heap.size,0,none⟩) cells.length cells.length) (dst:=some d) (x:=.hp d ((H d).stamp+1) 0 0) (val:=.pointer (some ⟨w.heap.size,0,none⟩)) (st:=(H d).stamp+1) (by omega) rfl rfl rfl (by simp) (λk hk=>zb5 w _ hk)
  (.inr ⟨w.heap.size,cells.length,v.cells,by simp,.inl (zab _),heap_alloc_new w _,by simp,by simp[maxLen];omega,by rw[hl];simp,by
   rw[zae,zac (by rw[hl];exact zab _)];exact⟨G7 (hr.mono hg),hr.one⟩⟩)
  (λβ' hb D=>by
   simp only[ak,aA,HC.stamp,HC.esz];exact⟨zab _,λ_=>⟨_,_,_,hb,by simp⟩⟩) (by rintro _ ⟨⟩;exact hd)
 exact⟨β',R'⟩
def xK [zi:Zi] (T:TI)(H:Hp)(e d:Nat):Option AR :=
 match zi.bx d with
 |true=>some ⟨T.zok=true/\T.zero.length<=1000,.hp d ((H d).stamp+1) 0 0,[],[(d,.nst ((H d).stamp+1) e (T.zero.map Zc))],[]⟩
 |false=>Jd T H e d
def QZ [zi:Zi] (T:TI)(H:Hp)(e d:Nat)(x:AV):Option AR :=
 match zi.bx d with
 |true=>match sV H x with
  |some (c,cells,fz)=>some ⟨c/\d∉fz/\cells.length<=1000,.hp d ((H d).stamp+1) 0 0,fz,[(d,.nst ((H d).stamp+1) e (cells.map Zc))],[]⟩
  |none=>none
 |false=>b2x T H e d x
theorem NT (R:Rel G M w0 D0 N f H β a w)(hd:d<N){r:AR}(hr:xK (ti P e) H e d=some r)(hc:r.c) :
  ∃u w' β',(Instr.alloc e true (.tuple #[])).run P w=.ok u w'/\Rel G M w0 D0 N (ku f (some d) r.v) (bT r.hs (aH r.fz H)) β' (a.put (some d) u) w':=by
 unfold xK at hr;split at hr
 .injection hr with hr;subst hr;obtain⟨z,hz,h1,h0,h2,h3⟩:=jT (P:=P) w hc.1;obtain⟨β',R'⟩:=R.b8t (e:=e) (cells:=(ti P e).zero) (v:=z) (by rw[h2];exact BH w _ _ h3) hc.2 hd;refine⟨_,_,β',?_,R'⟩;simp only[Instr.alloc,zaU,hz,zay,newVar,newRow,zeh,zaI];rfl
 .exact Rh R hd hr hc
theorem UL {T:TI}(R:Rel G M w0 D0 N f H β a w){x:AV}{v:Value}(hx:ak w (DD H β D0) H β x v)(hd:d<N){r:AR}(hr:QZ T H e d x=some r)(hc:r.c) :
  ∃u w' β',(Instr.box e v).run P w=.ok u w'/\Rel G M w0 D0 N (ku f (some d) r.v) (bT r.hs (aH r.fz H)) β' (a.put (some d) u) w':=by
 unfold QZ at hr;split at hr
 .split at hr
  .rename_i c cells fz ht;injection hr with hr;subst hr;have hrep:=lD R hx ht hc.1;have R1:=R.aH fz;obtain⟨β',R'⟩:=R1.b8t (e:=e) (v:=v) hrep hc.2.2 hd;refine⟨.pointer (some ⟨w.heap.size,0,none⟩),w.alloc (.cells v.cells e),β',?_,?_⟩
   .simp only[Instr.box,newVar,newRow,zaU,zeh,zay,zaI];rfl
   .simp only[qE hc.2.1]at R' ⊢;exact R'
  .cases hr
 .exact YL R hx hd hr hc
theorem Vu:∀{vs us:List Value},dY w D (vs.map IV.raw) us->us=vs/\∀v∈vs,v.oneCell'=true
 |[],[],_=>⟨rfl,by simp⟩
 |v::vs,u::us,h=>by
  simp only[zaC,dY]at h;obtain⟨h1,h2⟩:=Vu h.2;cases h.1 with
  |raw _ ho=>exact⟨by rw[h1],λx hx=>by
    rcases zaG.1 hx with rfl|hx
    .exact ho
    .exact h2 x hx⟩
 |[],_::_,h=>h.elim
 |_::_,[],h=>by simp[dY]at h
theorem Vx:∀{vs:List Value},(∀v∈vs,v.oneCell'=true)->dY w D (vs.map IV.raw) vs
 |[],_=>zar
 |v::vs,h=>⟨.raw v (h v (by simp)),Vx λu hu=>h u (by simp[hu])⟩
theorem WS (vs:List Value):(vs.map λv=>[IV.raw v]).flatten=vs.map IV.raw:=by
 induction vs with
 |nil=>rfl
 |cons v vs ih=>simp[ih]
theorem Rel.conv (R:Rel G M w0 D0 N f H β a w){h:Nat}{c:HC}(hs:c.stamp=(H h).stamp)(he:c.esz=(H h).esz)(hm:c.bI↔(H h).bI)
  (own':∀st e sz rows,c=.blk false st e sz rows->Own w (DD H β D0) w0.heap.size M (β h) e sz rows)
  (b6V:∀st e rows,c=.nst st e rows->Ob w (DD H β D0) H β w0.heap.size M (β h) e rows)
  (hf:∀st e sz rows,c≠.blk true st e sz rows) (hb:∀B,c≠.mrk B:=by intro B;simp) (hti:∀x v,c≠.tie x v:=by intro x v;simp):Rel G M w0 D0 N f (bW H h c) β a w:=by
 have Ee:∀u,(bW H h c u).bI↔(H u).bI:=λu=>by
  by_cases hu:u=h
  .subst hu;rw[aA];exact hm
  .rw[aB _ _ hu]
 have hDD:∀b,DD (bW H h c) β D0 b->DD H β D0 b:=by
  rintro b (hb|⟨k,hm',hk⟩)
  .exact .inl hb
  .exact .inr ⟨k,(Ee k).1 hm',hk⟩
 have g:bD w (DD H β D0) w (DD (bW H h c) β D0):=bD.of_sub hDD;have s:iR H β (bW H h c) β:=λu=>by
  left
  by_cases hu:u=h
  .subst hu;rw[aA];exact⟨hs,he,rfl⟩
  .rw[aB _ _ hu];exact⟨rfl,rfl,rfl⟩
 have:=R.step (w':=w) (H':=bW H h c) (β':=β) (dst:=none) (v:=.dead) (val:=Go.undef) rfl rfl rfl g (λ_ _ _=>rfl) (λ_ _ h=>h) s (by simp[ak]) ?_ ?_ ?_ ?_ (λu B hu=>R.mrk u B (Bf hb hu)) (by simp) (λu x v hu=>Vm hti hu)
 .exact this
 .intro u st e sz rows hu;by_cases huh:u=h
  .subst huh;rw[aA]at hu;exact(own' _ _ _ _ hu).mono g λ_ _=>rfl
  .rw[aB _ _ huh]at hu;exact(R.own u _ _ _ _ hu).mono g λ_ _=>rfl
 .intro u st e sz rows hu;by_cases huh:u=h
  .subst huh;rw[aA]at hu;exact(hf _ _ _ _ hu).elim
  .rw[aB _ _ huh]at hu;exact⟨(R.frz u _ _ _ _ hu).1,(R.frz u _ _ _ _ hu).2.1.mono g,(R.frz u _ _ _ _ hu).2.2⟩
 .intro u u' hne hm1 hm2;exact R.dis u u' hne ((Ee u).1 hm1) ((Ee u').1 hm2)
 .intro u st e rows hu;by_cases huh:u=h
  .subst huh;rw[aA]at hu;exact(b6V _ _ _ hu).mono g s λ_ _=>rfl
  .rw[aB _ _ huh]at hu;exact(R.nst u _ _ _ hu).mono g s λ_ _=>rfl
abbrev dR (vs:List Value):List (List IV):=vs.map λv=>[IV.raw v]
theorem zh (vs:List Value):∀q∈dR vs,q.length=1:=by
 intro q hq;obtain⟨v,_,rfl⟩:=zaw.1 hq;rfl
def Gh.add (G:Gh)(xs:List AV)(vs:List Value):Gh:=⟨λy u=>G.vals y u\/(y,u)∈xs.zip vs,G.rnd⟩
theorem aG.mem:∀{xs:List AV} {vs:List Value},aG w D H β xs vs->∀x v,(x,v)∈xs.zip vs->ak w D H β x v
 |[],[],_,x,v,h=>by simp at h
 |y::xs,u::vs,hx,x,v,h=>by
  simp only[aG]at hx;simp only[zfv,zaG,Prod.mk.injEq]at h;rcases h with ⟨rfl,rfl⟩|h
  .exact hx.1
  .exact aG.mem hx.2 x v h
 |[],_::_,hx,_,_,_=>by simp[aG]at hx
 |_::_,[],hx,_,_,_=>by simp[aG]at hx
theorem aG.a8Q:∀{xs:List AV} {vs:List Value},xs.length=vs.length->(∀x v,(x,v)∈xs.zip vs->ak w D H β x v)->aG w D H β xs vs
 |[],[],_,_=>by simp[aG]
 |y::xs,u::vs,hl,h=>by
  simp only[aG];exact⟨h y u (by simp),aG.a8Q (by simpa using hl) λx v hm=>h x v (by simp[hm])⟩
 |[],_::_,hl,_=>by simp at hl
 |_::_,[],hl,_=>by simp at hl
theorem Rel.b5k (R:Rel G M w0 D0 N f H β a w){xs:List AV}{vs:List Value}(hx:aG w (DD H β D0) H β xs vs):Rel (G.add xs vs) M w0 D0 N f H β a w :=
 ⟨R.os,R.tape,R.output,R.size,R.keep,R.old,R.nD,R.defers,R.rnd,R.RU,λx v hp=>hp.elim (R.gh x v) (hx.mem x v),R.tmps,R.own,R.frz,R.dis,R.nst,R.mrk,R.tie⟩
theorem Rel.Dl {xs:List AV}{vs:List Value}(hl:xs.length=vs.length)(R:Rel (G.add xs vs) M w0 D0 N f H β a w):Rel G M w0 D0 N f H β a w/\aG w (DD H β D0) H β xs vs :=
 ⟨⟨R.os,R.tape,R.output,R.size,R.keep,R.old,R.nD,R.defers,R.rnd,R.RU,λx v hp=>R.gh x v (.inl hp),R.tmps,R.own,R.frz,R.dis,R.nst,R.mrk,R.tie⟩,aG.a8Q hl λx v hm=>R.gh x v (.inr hm)⟩
theorem sK (H:Hp)(h:Nat)(c c':HC):bW (bW H h c) h c'=bW H h c':=by
 funext u
 unfold bW;split<;>rfl
theorem Oq (H:Hp){h k:Nat}(c c':HC)(e:h≠k):bW (bW H h c) k c'=bW (bW H k c') h c:=by
 funext u
 unfold bW;by_cases h1:u=h
 .subst h1;rw[if_neg e];simp[e]
 .by_cases h2:u=k
  .subst h2;simp[h1]
  .simp[h1,h2]
theorem Oo (H:Hp){h:Nat}{c:HC}(e:H h=c):bW H h c=H:=by
 funext u
 unfold bW;split
 .rename_i hu;rw[hu,e]
 .rfl
theorem Rel.a8j (R:Rel G M w0 D0 N f H β a w){h st e:Nat}{rows:List AV}(hH:H h=.nst st e rows) :
  ∃vs:List Value,aG w (DD (bW H h (.blk false st e 1 (dR vs))) β D0) (bW H h (.blk false st e 1 (dR vs))) β rows vs/\Rel G M w0 D0 N f (bW H h (.blk false st e 1 (dR vs))) β a w:=by
 rcases R.nst h _ _ _ hH with ⟨rfl,hv⟩|⟨g,cap,cur,hv,hB,hg,h1,h2,h3,h4,h5⟩
 .refine⟨[],by simp[aG],R.conv (by rw[hH];rfl) (by rw[hH];rfl) (by rw[hH];simp[HC.bI]) ?_ (λ_ _ _ h=>by cases h) (λ_ _ _ _ h=>by cases h)⟩;intro st' e' sz' rows' hc;injection hc with _ q1 q2 q3 q4;subst q1 q2 q3 q4;exact⟨by simp,.inl ⟨rfl,hv⟩⟩
 .have hlen:=h4.length;have hl:(dR (cur.toList.take rows.length)).length=rows.length:=by rw[zae];exact hlen.symm
  have R1:Rel (G.add rows (cur.toList.take rows.length)) M w0 D0 N f (bW H h (.blk false st e 1 (dR (cur.toList.take rows.length)))) β a w:=by
   refine(R.b5k h4).conv (by rw[hH];rfl) (by rw[hH];rfl) (by rw[hH];simp[HC.bI]) ?_ (λ_ _ _ h=>by cases h) (λ_ _ _ _ h=>by cases h);intro st' e' sz' rows' hc;injection hc with _ q1 q2 q3 q4;subst q1 q2 q3 q4;refine⟨zh _,.inr ⟨g,cap,cur,by rw[hl];exact hv,hB,hg,by rw[hl];exact h1,h2,by omega,?_⟩⟩;rw[hl,WS,zcU];exact Vx h5
  exact⟨_,(R1.Dl hlen).2,(R1.Dl hlen).1⟩
theorem Rel.nest (R:Rel G M w0 D0 N f H β a w){h st e:Nat}{vs:List Value}{xs:List AV}(hH:H h=.blk false st e 1 (dR vs))(hx:aG w (DD H β D0) H β xs vs) :
  Rel G M w0 D0 N f (bW H h (.nst st e xs)) β a w:=by
 have hlen:=hx.length;refine R.conv (by rw[hH];rfl) (by rw[hH];rfl) (by rw[hH];simp[HC.bI]) (λ_ _ _ _ h=>by cases h) ?_ (λ_ _ _ _ h=>by cases h);intro st' e' rows' hc;injection hc with q1 q2 q3;subst q1 q2 q3;have hl:(dR vs).length=xs.length:=by rw[zae];exact hlen.symm
 rcases (R.own h _ _ _ _ hH).2 with ⟨hn,hv⟩|⟨g,cap,cur,hv,hB,hg,h1,h2,h3,h4⟩
 .refine .inl ⟨?_,hv⟩;have:xs.length=0:=by rw[<-hl,hn];rfl
  exact zbt this
 .rw[hl]at hv h1 h4;rw[WS,zcU]at h4;obtain⟨q1,q2⟩:=Vu h4;exact .inr ⟨g,cap,cur,hv,hB,hg,h1,h2,by omega,by rw[q1];exact hx,by rw[q1];exact q2⟩
def je (T:TI)(H:Hp)(e d n:Nat)(idx:List Nat)(xs:List AV):Option AR :=
 match xs with
 |[.hs k s]=>if k<1000 then jP T H e d n idx [.hs k s] else match H k with
  |.blk _ s' _ _ _=>some ⟨s=s'/\T.ok=true/\T.zok=true/\T.size=1/\n=1/\idx=[0],.hs d ((H d).stamp+1),[],[(d,.nst ((H d).stamp+1) e [.hs k s])],[k]⟩
  |_=>none
 |_=>jP T H e d n idx xs
theorem BR {n:Nat}(ht:(ti P t).desc=.sl e)(R:Rel G M w0 D0 N f H β a w){idx:List Nat}{xs:List AV}{vs:List Value}(hil:idx.length=xs.length)(hx:jZ w (DD H β D0) H β xs vs)(hd:d<N){r:AR}(hr:je (ti P e) H e d n idx xs=some r)(hc:r.c) :
  ∃z w' β',(Instr.buildSlice t n (idx.zip vs).toArray).run P w=.ok z w'/\Rel G M w0 D0 N (ku f (some d) r.v) (bT r.hs (aH r.fz H)) β' (a.put (some d) z) w':=by
 unfold je at hr;split at hr
 .rename_i k s;split at hr
  .exact nU ht R hil hx hd hr hc
  .split at hr
   .rename_i fz s' e' sz' rows' hK;injection hr with hr;subst hr;obtain⟨hs,hok,hz,hsz,hn,hidx⟩:=hc;cases hx with
    |cons hx1 hx2 =>
    cases hx2;rename_i v;have b9N:=hx1;simp only[ak]at hx1;have hv:=hx1.2 (by rw[hK];exact hs);have hone:v.oneCell'=true:=by rw[hv];exact R.b4B hK
    obtain⟨z,w',β',hrun,R'⟩:=nU (n:=n) (idx:=idx) (d:=d) (xs:=[.iv (.raw v)]) (vs:=[v]) ht (R.b5k (xs:=[.hs k s]) (vs:=[v]) (by simp only[aG];exact⟨b9N,zar⟩)) (by rw[hidx];rfl) (.cons (by simp only[ak];exact .raw v hone) .nil) hd
     (r:=⟨(True/\True)/\(ti P e).ok=true/\(ti P e).zok=true/\n*(ti P e).size<=16777216/\d∉[]++[]/\(∀cs∈[[IV.raw v]],cs.length=(ti P e).size)/\idx=List.range n,.hs d ((H d).stamp+1),[]++[],[(d,.blk false ((H d).stamp+1) e (ti P e).size [[IV.raw v]])],[]⟩) rfl
     ⟨⟨zar,zar⟩,hok,hz,by rw[hn,hsz];omega,by simp,by simp[hsz],by rw[hidx,hn];rfl⟩
    refine⟨z,w',β',hrun,?_⟩;simp only[bT,zbr,aH]at R' ⊢;rw[hsz]at R';obtain⟨R2,hxs⟩:=R'.Dl rfl;have R3:=R2.nest (h:=d) (vs:=[v]) (xs:=[.hs k s]) (aA _ _ _) hxs;rw[sK]at R3;exact R3
   .cases hr
 .exact nU ht R hil hx hd hr hc
def vK (T:TI)(H:Hp)(e d:Nat)(x y:AV):Option AR :=
 match y with
 |.hs k s=>match H k with
  |.nst s' e2 src=>match x with
   |.vY=>some ⟨s=s'/\T.ok=true/\T.zok=true/\T.size=1/\src.length*T.bytes<=140737488355328/\src.length<=maxLen/\k≠d,.hs d ((H d).stamp+1),[],[(d,.nst ((H d).stamp+1) e src)],[k]⟩
   |.hs h st=>match H h with
    |.nst st' e' rows=>some ⟨s=s'/\T.ok=true/\T.zok=true/\T.size=1/\st=st'/\e'=e/\(rows.length+src.length)*T.bytes<=140737488355328/\rows.length+src.length<=maxLen/\k≠h,.hs h (st+1),[],[(h,.nst (st+1) e (rows++src))],[h,k]⟩
    |_=>none
   |_=>none
  |_=>qK T H e d x y
 |_=>qK T H e d x y
def zX:AV->AV
 |.hw h st=>.hs h st
 |x=>x
theorem Lp {x:AV}(h:ak w D H β x v):ak w D H β (zX x) v:=by
 unfold zX;split
 .simpa only[ak] using h
 .exact h
def C9 (T:TI)(H:Hp)(e h st:Nat)(y:AV):Option AR :=
 match oJ H y with
 |some (c,src,rd)=>match H h with
  |.blk false st' e' sz rows=>some ⟨c/\T.ok=true/\T.zok=true/\(∀r∈src,r.length=T.size)/\st=st'/\e'=e/\sz=T.size/\(rows.length+src.length)*T.bytes<=140737488355328/\rows.length+src.length<=maxLen,.dead,[],[(h,.blk false st e sz rows)],h::rd⟩
  |_=>none
 |none=>none
theorem Jv {P:Program}{t t2 e d h st:Nat}(ht:(ti P t).desc=.sl e){e2:Nat}(ht2:(ti P t2).desc=.sl e2)(R:Rel G M w0 D0 N f H β a w){y:AV}{v u:Value}(hx:ak w (DD H β D0) H β (.hw h st) v)(hy:ak w (DD H β D0) H β y u)(hd:d<N){r:AR}(hr:C9 (ti P e) H e h st y=some r)(hc:r.c){ty:Nat} :
  ∃z w' β',(Builtin.append_ #[t,t2] ty #[v,u]).run P w=.ok z w'/\Rel G M w0 D0 N (ku f (some d) r.v) (bT r.hs (aH r.fz H)) β' (a.put (some d) z) w':=by
 have hu:=qj ht;unfold C9 at hr;split at hr
 .rename_i c src rd hs;split at hr
  .rename_i st' e' sz rows hH;injection hr with hr;subst hr;obtain⟨hc1,hok,hz,hsz,hst,he,hss,hb,hm⟩:=hc;subst hst he hss;obtain⟨ad,cap,rfl,news,h1,h2,h3⟩:=lU R hy hs hc1 hsz;obtain⟨i,z,hi,hz0,hzs,hz1,hz2,hz2b,hz3,hz4⟩:=G8 hz;simp only[ak]at hx;have hv:=hx.2 (by rw[hH];rfl);subst hv;have hnl:news.length=src.length*i.size:=by rw[<-h1.length,dB src h2,hz2]
   have hown:=R.own h _ _ _ _ hH;have hmu:(H h).bI:=by rw[hH];trivial
   have fin:∀(w':World) (z':Value),w'.os=w.os->w'.tape=w.tape->w'.output=w.output->w.heap.size<=w'.heap.size->(∀k,k<w.heap.size->aF (β h)≠some k->w'.heap[k]?=w.heap[k]?) ->
     Own w' (λb=>DD H β D0 b\/aF (β h)=some b) w0.heap.size M (β h) e' (ti P e').size rows ->
     ∃β',Rel G M w0 D0 N (ku f (some d) .dead) (bW H h (.blk false st e' (ti P e').size rows)) β' (a.put (some d) z') w':=by
    intro w' z' ho htp hout hsize hkeep hown';obtain⟨β',_,_,R'⟩:=R.grow (w':=w') (st':=st) (rows':=rows) (v:=β h) (dst:=some d) (x:=.dead) (val:=z') hH (.inl ⟨rfl,rfl⟩) ho htp hout hsize hkeep hown' (λk hk=>.inl hk)
     (λβ' hb _ D _=>by simp only[ak]) (by rintro _ ⟨⟩;exact hd)
    exact⟨β',R'⟩
   have same:∀w':World,w.heap.size<=w'.heap.size->(∀k,k<w.heap.size->w'.heap[k]?=w.heap[k]?)->Own w' (λb=>DD H β D0 b\/aF (β h)=some b) w0.heap.size M (β h) e' (ti P e').size rows:=by
    intro w' h1 h2;refine hown.mono ⟨h1,λb _ hb'=>?_,λb hb _ _=>h2 b hb⟩ λk hk=>h2 k (hown.lt hk).1;rcases hb' with h'|h'
    .exact h'
    .exact .inr ⟨h,hmu,h'⟩
   by_cases h0:src.length=0
   .have hsrc:src=[]:=List.eq_nil_of_length_eq_zero h0;subst hsrc;rcases hown.2 with ⟨_,hb'⟩|⟨g,cap',cur,hb',hB,hg,h4,_⟩
    .obtain⟨β',R'⟩:=fin w (β h) rfl rfl rfl (Nat.le_refl _) (λ_ _ _=>rfl) (same w (Nat.le_refl _) λ_ _=>rfl);rw[hb']at R' ⊢;exact⟨_,w,β',(dV hu (qj ht2) _ _ _ _).trans (jF hu hi (Nat.le_refl _)),R'⟩
    .obtain⟨β',R'⟩:=fin w (β h) rfl rfl rfl (Nat.le_refl _) (λ_ _ _=>rfl) (same w (Nat.le_refl _) λ_ _=>rfl);rw[hb']at R' ⊢;exact⟨_,w,β',(dV hu (qj ht2) _ _ _ _).trans (jF hu hi h4),R'⟩
   .obtain⟨g',o',rfl,hcell⟩:=h3 (λe=>h0 (by rw[e];rfl));have hcell':∀(j:Nat) v,news[j]?=some v->w.cell? ((⟨g',o',none⟩:Addr).add j)=some v:=λj v hj=>by rw[addr_add];exact hcell j v hj
    rcases hown.2 with ⟨hrn,hb'⟩|⟨g,cap',cur,hb',hB,hg,h4,h5,h6,h7⟩
    .have hrun:=run_append_nil (P:=P) w t ty e' i z hu hi hz0 ⟨g',o',none⟩ src.length cap news hnl hcell' (by omega) (by simp only[maxLen]at hm;omega) (by
      rw[<-hz2b];rw[hrn]at hb;simp at hb;omega)
     obtain⟨β',R'⟩:=fin (w.drew.alloc (.cells (news.toArray++Builtin.zeroCells z.cells (grownCap w src.length 0 e'-src.length)) e')) (.slice (some ⟨w.heap.size,0,none⟩) src.length (grownCap w src.length 0 e')) rfl rfl rfl (by simp) (λk hk _=>heap_alloc_old w.drew _ hk)
      (same _ (by simp) λk hk=>heap_alloc_old w.drew _ hk)
     rw[hb'];exact⟨_,_,β',(dV hu (qj ht2) _ _ _ _).trans hrun,R'⟩
    .have hgl:g<w.heap.size:=(Array.getElem?_eq_some_iff.1 hg).1;have h7l:=h7.length;have hxl:(cur.toList.take (rows.length*(ti P e').size)).length=rows.length*i.size:=by rw[<-h7l,dB rows hown.1,hz2]
     by_cases hroom:rows.length+src.length<=cap'
     .have hfit:rows.length*i.size+news.length<=cur.size:=by rw[hnl,h6,hz2,<-Nat.add_mul];exact Nat.mul_le_mul_right _ hroom
      have hrun:=run_append_room (P:=P) w t ty e' i hu hi g rows.length cap' cur hg ⟨g',o',none⟩ src.length cap news hnl hcell' (h1.one) hroom hfit;have hset:=setRow_heap w g cur (cur.toList.take (rows.length*i.size)++news++cur.toList.drop (rows.length*i.size+news.length)).toArray e' (0,0) hg;obtain⟨β',R'⟩:=fin (w.setRow g (cur.toList.take (rows.length*i.size)++news++cur.toList.drop (rows.length*i.size+news.length)).toArray) (.slice (some ⟨g,0,none⟩) (rows.length+src.length) cap') rfl rfl rfl (by simp)
       (λk hk hn=>setRow_other w g k _ (λe=>hn (by rw[hb',e];rfl)))
       (by
        refine⟨hown.1,.inr ⟨g,cap',_,hb',hB,hset,h4,h5,?_,?_⟩⟩
        .rw[<-h6];simp;omega
        .have e1:(((cur.toList.take (rows.length*i.size)++news++cur.toList.drop (rows.length*i.size+news.length)).toArray).toList.take (rows.length*(ti P e').size))=cur.toList.take (rows.length*(ti P e').size):=by
          rw[<-hz2]at hxl ⊢;simp only[List.append_assoc];rw[List.take_append_of_le_length (by rw[hxl];exact Nat.le_refl _)];exact List.take_of_length_le (by rw[hxl];exact Nat.le_refl _)
         rw[e1];refine h7.mono ⟨by simp,λb _ hd'=>?_,λb _ hn=>?_⟩
         .rcases hd' with h'|h'
          .exact h'
          .exact .inr ⟨h,hmu,h'⟩
         .exact λ_=>setRow_other w g b _ (λe=>hn (.inr ⟨h,hmu,by rw[hb',e];rfl⟩)))
      rw[hb'];exact⟨_,_,β',(dV hu (qj ht2) _ _ _ _).trans hrun,R'⟩
     .have holds:∀(j:Nat) v,(cur.toList.take (rows.length*(ti P e').size))[j]?=some v->w.cell? ((⟨g,0,none⟩:Addr).add j)=some v:=by
       intro j v hj;rw[addr_add,Nat.zero_add,cell_of_row w g j cur _ (0,0) hg];rw[List.getElem?_take]at hj;split at hj
       .simpa using hj
       .cases hj
      have hrun:=run_append_grow (P:=P) w t ty e' i z hu hi hz0 ⟨g,0,none⟩ rows.length cap' _ hxl holds ⟨g',o',none⟩ src.length cap news hnl hcell' (by omega) (by simp only[maxLen]at hm;omega) (growslice_fits (by omega) (by rw[<-hz2b];exact hb));obtain⟨β',R'⟩:=fin (w.drew.alloc (.cells ((cur.toList.take (rows.length*(ti P e').size)).toArray++news.toArray++Builtin.zeroCells z.cells (grownCap w (rows.length+src.length) cap' e'-(rows.length+src.length))) e')) (.slice (some ⟨w.heap.size,0,none⟩) (rows.length+src.length) (grownCap w (rows.length+src.length) cap' e')) rfl rfl rfl (by simp) (λk hk _=>heap_alloc_old w.drew _ hk)
       (same _ (by simp) λk hk=>heap_alloc_old w.drew _ hk)
      rw[hb'];exact⟨_,_,β',(dV hu (qj ht2) _ _ _ _).trans hrun,R'⟩
  .cases hr
 .cases hr
def vM (T:TI)(H:Hp)(e:Nat)(x y:AV):Option AR :=
 match x,y with
 |.hw h st,.iv (.int k n)=>match H h with
  |.blk false st' e' sz rows=>some ⟨T.ok=true/\T.zok=true/\st=st'/\e'=e/\sz=T.size/\0<n/\n<=1000000/\(rows.length+n.toNat)*T.bytes<=140737488355328/\rows.length+n.toNat<=maxLen,.dead,[],[(h,.blk false st e sz rows)],[h]⟩
  |_=>none
 |_,_=>none
theorem wJ (w:World)(t tn ty e:TypeId)(i:TypeInfo)(z:Value)(kq kn:IntKind)(ht:P.underlying t=some (.slice e))(htn:P.underlying tn=some (.int kn))(hi:P.info? e=some i)(hz:i.zero=some z)
  (g sLen sCap:Nat) (cur:Array Value) (hg:w.heap[g]?=some (.cells cur e (0,0))) (k:Nat) (h0:0<k) (hs:0<i.size) (h63:(k:Int)<=9223372036854775807) (h48:k*i.bytes<=281474976710656) (hroom:sLen+k<=sCap)
  (hzs:z.cells.size=i.size) (h1:∀u∈(Builtin.zeroCells z.cells k).toList,u.oneCell'=true) (hfit:sLen*i.size+(Builtin.zeroCells z.cells k).toList.length<=cur.size) :
  (Builtin.append_ #[t,tn] ty #[.slice (some ⟨g,0,none⟩) sLen sCap,.int kq k]).run P w =
   .ok (.slice (some ⟨g,0,none⟩) (sLen+k) sCap) (w.setRow g (cur.toList.take (sLen*i.size)++(Builtin.zeroCells z.cells k).toList++cur.toList.drop (sLen*i.size+(Builtin.zeroCells z.cells k).toList.length)).toArray):=by
 have hst:=run_storeCells_at P g (sLen*i.size) e (Builtin.zeroCells z.cells k).toList 0 cur w hg (by simpa using hfit) h1;simp only[zaV]at hst;have hk:k≠0:=by omega
 have hw:IntKind.i64.wrap (k:Int)=k:=by rw[IntKind.wrap_i64];omega
 have h48i:¬(281474976710656<(k:Int)*(i.bytes:Int)):=by
  rw[<-zci];omega
 have hneg:¬((k:Int)<0):=by omega
 have hns:¬(k*i.size=0):=zbN hk (by omega);simp[Builtin.append_,zbd ht,zbd htn,sizeOf,typeInfo,zeroValue,hi,hz,asInt,asIntOf,hw,hneg,hns,h48i,hroom,Addr.add_lit];simp only[zaR,zbL]at hst ⊢;rw[hst];rfl
theorem JB {P:Program}{t t2 e d:Nat}{kn:IntKind}(ht:(ti P t).desc=.sl e)(ht2:(ti P t2).desc=.int kn)(R:Rel G M w0 D0 N f H β a w){x y:AV}{v u:Value}(hx:ak w (DD H β D0) H β x v)(hy:ak w (DD H β D0) H β y u)(hd:d<N){r:AR}(hr:vM (ti P e) H e x y=some r)(hc:r.c){ty:Nat} :
  ∃z w' β',(Builtin.append_ #[t,t2] ty #[v,u]).run P w=.ok z w'/\Rel G M w0 D0 N (ku f (some d) r.v) (bT r.hs (aH r.fz H)) β' (a.put (some d) z) w':=by
 have hu:=qj ht;have hu2:=a8n ht2;unfold vM at hr;split at hr
 .rename_i h st kq n;split at hr
  .rename_i st' e' sz rows hH;injection hr with hr;subst hr;obtain⟨hok,hz,hst,he,hss,hn0,hn1,hb,hm⟩:=hc;subst hst he hss;obtain⟨i,z,hi,hz0,hzs,hz1,hz2,hz2b,hz3,hz4⟩:=G8 hz;simp only[ak]at hx hy;cases hy;obtain⟨k,rfl⟩:∃k:Nat,n=k:=⟨n.toNat,by omega⟩;simp only[Int.toNat_natCast]at hb hm;have hv:=hx.2 (by rw[hH];rfl);subst hv;have hk0:0<k:=by omega
   have hown:=R.own h _ _ _ _ hH;have hmu:(H h).bI:=by rw[hH];trivial
   have hzc:∀u∈(Builtin.zeroCells z.cells k).toList,u.oneCell'=true:=by
    intro u hu;simp only[Builtin.zeroCells,Array.toList_map,List.mem_map,Array.toList_range,List.mem_range]at hu;obtain⟨j,hj,rfl⟩:=hu;have hlt:j%z.cells.size<z.cells.size:=Nat.mod_lt _ (by omega);rw[getElem!_pos z.cells (j%z.cells.size) hlt];exact hz4 _ (by simp)
   have hzl:(Builtin.zeroCells z.cells k).toList.length=k*i.size:=by rw[Array.length_toList,size_zeroCells,hzs]
   have fin:∀(w':World) (z':Value),w'.os=w.os->w'.tape=w.tape->w'.output=w.output->w.heap.size<=w'.heap.size->(∀k,k<w.heap.size->aF (β h)≠some k->w'.heap[k]?=w.heap[k]?) ->
     Own w' (λb=>DD H β D0 b\/aF (β h)=some b) w0.heap.size M (β h) e' (ti P e').size rows ->
     ∃β',Rel G M w0 D0 N (ku f (some d) .dead) (bW H h (.blk false st e' (ti P e').size rows)) β' (a.put (some d) z') w':=by
    intro w' z' ho htp hout hsize hkeep hown';obtain⟨β',_,_,R'⟩:=R.grow (w':=w') (st':=st) (rows':=rows) (v:=β h) (dst:=some d) (x:=.dead) (val:=z') hH (.inl ⟨rfl,rfl⟩) ho htp hout hsize hkeep hown' (λk hk=>.inl hk)
     (λβ' hb _ D _=>by simp only[ak]) (by rintro _ ⟨⟩;exact hd)
    exact⟨β',R'⟩
   have same:∀w':World,w.heap.size<=w'.heap.size->(∀k,k<w.heap.size->w'.heap[k]?=w.heap[k]?)->Own w' (λb=>DD H β D0 b\/aF (β h)=some b) w0.heap.size M (β h) e' (ti P e').size rows:=by
    intro w' h1 h2;refine hown.mono ⟨h1,λb _ hb'=>?_,λb hb _ _=>h2 b hb⟩ λk hk=>h2 k (hown.lt hk).1;rcases hb' with h'|h'
    .exact h'
    .exact .inr ⟨h,hmu,h'⟩
   have hkb:k*i.bytes<=140737488355328:=by
    rw[<-hz2b];exact Nat.le_trans (Nat.mul_le_mul_right _ (Nat.le_add_left _ _)) hb
   rcases hown.2 with ⟨hrn,hb'⟩|⟨g,cap',cur,hb',hB,hg,h4,h5,h6,h7⟩
   .have hrun:=Lib.run_append_nil_zeros (P:=P) w t t2 ty e' i z kq kn hu hu2 hi hz0 k hk0 hz1 (by omega) (by omega);obtain⟨β',R'⟩:=fin (w.drew.alloc (.cells (Builtin.zeroCells z.cells k++Builtin.zeroCells z.cells (grownCap w k 0 e'-k)) e')) (.slice (some ⟨w.heap.size,0,none⟩) k (grownCap w k 0 e')) rfl rfl rfl (by simp) (λk hk _=>heap_alloc_old w.drew _ hk)
     (same _ (by simp) λk hk=>heap_alloc_old w.drew _ hk)
    rw[hb'];exact⟨_,_,β',hrun,R'⟩
   .have hgl:g<w.heap.size:=(Array.getElem?_eq_some_iff.1 hg).1;have h7l:=h7.length;have hxl:(cur.toList.take (rows.length*(ti P e').size)).length=rows.length*i.size:=by rw[<-h7l,dB rows hown.1,hz2]
    by_cases hroom:rows.length+k<=cap'
    .have hfit:rows.length*i.size+(Builtin.zeroCells z.cells k).toList.length<=cur.size:=by rw[hzl,h6,hz2,<-Nat.add_mul];exact Nat.mul_le_mul_right _ hroom
     have hrun:=wJ (P:=P) w t t2 ty e' i z kq kn hu hu2 hi hz0 g rows.length cap' cur hg k hk0 hz1 (by omega) (by omega) hroom hzs hzc hfit;have hset:=setRow_heap w g cur (cur.toList.take (rows.length*i.size)++(Builtin.zeroCells z.cells k).toList++cur.toList.drop (rows.length*i.size+(Builtin.zeroCells z.cells k).toList.length)).toArray e' (0,0) hg;obtain⟨β',R'⟩:=fin (w.setRow g (cur.toList.take (rows.length*i.size)++(Builtin.zeroCells z.cells k).toList++cur.toList.drop (rows.length*i.size+(Builtin.zeroCells z.cells k).toList.length)).toArray) (.slice (some ⟨g,0,none⟩) (rows.length+k) cap') rfl rfl rfl (by simp)
      (λk hk hn=>setRow_other w g k _ (λe=>hn (by rw[hb',e];rfl)))
      (by
       refine⟨hown.1,.inr ⟨g,cap',_,hb',hB,hset,h4,h5,?_,?_⟩⟩
       .rw[<-h6];simp only[List.size_toArray,List.length_append,List.length_take,List.length_drop,Array.length_toList]at hfit ⊢;omega
       .have e1:(((cur.toList.take (rows.length*i.size)++(Builtin.zeroCells z.cells k).toList++cur.toList.drop (rows.length*i.size+(Builtin.zeroCells z.cells k).toList.length)).toArray).toList.take (rows.length*(ti P e').size))=cur.toList.take (rows.length*(ti P e').size):=by
         rw[<-hz2]at hxl ⊢;simp only[List.append_assoc];rw[List.take_append_of_le_length (by rw[hxl];exact Nat.le_refl _)];exact List.take_of_length_le (by rw[hxl];exact Nat.le_refl _)
        rw[e1];refine h7.mono ⟨by simp,λb _ hd'=>?_,λb _ hn=>?_⟩
        .rcases hd' with h'|h'
         .exact h'
         .exact .inr ⟨h,hmu,h'⟩
        .exact λ_=>setRow_other w g b _ (λe=>hn (.inr ⟨h,hmu,by rw[hb',e];rfl⟩)))
     rw[hb'];exact⟨_,_,β',hrun,R'⟩
    .have holds:∀(j:Nat) v,(cur.toList.take (rows.length*(ti P e').size))[j]?=some v->w.drew.cell? ((⟨g,0,none⟩:Addr).add j)=some v:=by
      intro j v hj;have:w.cell? ((⟨g,0,none⟩:Addr).add j)=some v:=by
       rw[addr_add,Nat.zero_add,cell_of_row w g j cur _ (0,0) hg];rw[List.getElem?_take]at hj;split at hj
       .simpa using hj
       .cases hj
      simpa using this
     have hold:=run_firstCells_some (P:=P) w.drew i.size rows.length ⟨g,0,none⟩ rows.length cap' _ hxl holds;have hrun:=Lib.run_append_grow_zeros (P:=P) w t t2 ty e' i z kq kn hu hu2 hi hz0 (some ⟨g,0,none⟩) rows.length cap' _ hold k hk0 hz1 (by omega) (by simp only[maxLen]at hm;omega) (by omega) (growslice_fits (by omega) (by rw[<-hz2b];exact hb));obtain⟨β',R'⟩:=fin (w.drew.alloc (.cells ((cur.toList.take (rows.length*(ti P e').size)).toArray++Builtin.zeroCells z.cells k++Builtin.zeroCells z.cells (grownCap w (rows.length+k) cap' e'-(rows.length+k))) e')) (.slice (some ⟨w.heap.size,0,none⟩) (rows.length+k) (grownCap w (rows.length+k) cap' e')) rfl rfl rfl (by simp) (λk hk _=>heap_alloc_old w.drew _ hk)
      (same _ (by simp) λk hk=>heap_alloc_old w.drew _ hk)
     rw[hb'];exact⟨_,_,β',hrun,R'⟩
  .cases hr
 .cases hr
theorem a9O (x:IV):zX (.iv x)=.iv x:=rfl
theorem Zv:zX .vY=.vY:=rfl
theorem a9R (h st:Nat):zX (.hs h st)=.hs h st:=rfl
theorem a9P (h st:Nat):zX (.hw h st)=.hs h st:=rfl
theorem a9Q (h st o l:Nat):zX (.hv h st o l)=.hv h st o l:=rfl
def vJ (T:TI)(H:Hp)(e d:Nat)(x y:AV):Option AR :=
 match x with
 |.hw h st=>C9 T H e h st y
 |_=>vK T H e d x y
theorem D5 (vs:List Value):(dR vs).length=vs.length:=zae _
theorem Jz (ht:(ti P t).desc=.sl e){e2:Nat}(ht2:(ti P t2).desc=.sl e2)(R:Rel G M w0 D0 N f H β a w){x y:AV}{v u:Value}(hx:ak w (DD H β D0) H β x v)(hy:ak w (DD H β D0) H β y u)(hd:d<N){r:AR}(hr:vK (ti P e) H e d x y=some r)(hc:r.c){ty:Nat} :
  ∃z w' β',(Builtin.append_ #[t,t2] ty #[v,u]).run P w=.ok z w'/\Rel G M w0 D0 N (ku f (some d) r.v) (bT r.hs (aH r.fz H)) β' (a.put (some d) z) w':=by
 unfold vK at hr;split at hr
 .rename_i k s;split at hr
  .rename_i s' e3 src hK;obtain⟨us,hus,R1⟩:=R.a8j hK;have a4p:=hus.length;have hrl:=zh us;split at hr
   .injection hr with hr;subst hr;obtain⟨hs,hok,hz,hsz,hb,hm,hkd⟩:=hc;have hdk:d≠k:=λe=>hkd e.symm
    have R2:=R1.b5k hus;have hx1:ak w (DD (bW H k (.blk false s' e3 1 (dR us))) β D0) (bW H k (.blk false s' e3 1 (dR us))) β .vY v:=by simpa only[ak] using hx
    have hy1:ak w (DD (bW H k (.blk false s' e3 1 (dR us))) β D0) (bW H k (.blk false s' e3 1 (dR us))) β (.hs k s) u:=by
     simp only[ak,aA]at hy ⊢;rw[hK]at hy;exact hy
    obtain⟨z,w',β',hrun,R'⟩:=pU (ty:=ty) (d:=d) ht ht2 R2 hx1 hy1 hd
     (r:=⟨s=s'/\(ti P e).ok=true/\(ti P e).zok=true/\(∀q∈dR us,q.length=(ti P e).size)/\(dR us).length*(ti P e).bytes<=140737488355328/\(dR us).length<=maxLen,.hs d ((bW H k (.blk false s' e3 1 (dR us)) d).stamp+1),[],[(d,.blk false ((bW H k (.blk false s' e3 1 (dR us)) d).stamp+1) e (ti P e).size (dR us))],[k]⟩)
     (by simp only[qK,oJ,aA])
     ⟨hs,hok,hz,by rw[hsz];exact hrl,by rw[D5,<-a4p];exact hb,by rw[D5,<-a4p];exact hm⟩
    refine⟨z,w',β',hrun,?_⟩;simp only[bT,aH]at R' ⊢;rw[hsz,aB _ _ hdk]at R';have R4:=R'.nest (h:=d) (vs:=us) (xs:=src) (aA _ _ _) (R'.Dl a4p).2;rw[sK]at R4;have R5:=R4.nest (h:=k) (st:=s') (e:=e3) (vs:=us) (xs:=src) (by rw[aB _ _ hkd,aA]) (R4.Dl a4p).2;have hfin:bW (bW (bW H k (.blk false s' e3 1 (dR us))) d (.nst ((H d).stamp+1) e src)) k (.nst s' e3 src)=bW H d (.nst ((H d).stamp+1) e src):=by
     rw[Oq _ _ _ hdk,sK,Oo H hK]
    rw[hfin]at R5;exact(R5.Dl a4p).1
   .rename_i h st;split at hr
    .rename_i st' e' rows hH;injection hr with hr;subst hr;obtain⟨hs,hok,hz,hsz,hst,he,hb,hm,hkh⟩:=hc;have hhk:h≠k:=λe=>hkh e.symm
     have R2:=R1.b5k hus;obtain⟨vs,hvs,R3⟩:=R2.a8j (h:=h) (st:=st') (e:=e') (rows:=rows) (by rw[aB _ _ hhk,hH]);have b2Z:=hvs.length;have hvl:=zh vs;have R3a:=R3.b5k hvs;generalize hH2:bW (bW H k (.blk false s' e3 1 (dR us))) h (.blk false st' e' 1 (dR vs))=H2 at R3a R3 hvs;have hk2:H2 k=.blk false s' e3 1 (dR us):=by rw[<-hH2,aB _ _ hkh,aA]
     have hh2:H2 h=.blk false st' e' 1 (dR vs):=by rw[<-hH2,aA]
     have hx1:ak w (DD H2 β D0) H2 β (.hs h st) v:=by
      simp only[ak]at hx ⊢;rw[hh2];rw[hH]at hx;exact hx
     have hy1:ak w (DD H2 β D0) H2 β (.hs k s) u:=by
      simp only[ak]at hy ⊢;rw[hk2];rw[hK]at hy;exact hy
     subst he;obtain⟨z,w',β',hrun,R'⟩:=pU (ty:=ty) (d:=d) ht ht2 R3a hx1 hy1 hd
      (r:=⟨s=s'/\(ti P e').ok=true/\(ti P e').zok=true/\(∀q∈dR us,q.length=(ti P e').size)/\st=st'/\e'=e'/\1=(ti P e').size/\((dR vs).length+(dR us).length)*(ti P e').bytes<=140737488355328/\(dR vs).length+(dR us).length<=maxLen,.hs h (st+1),[],[(h,.blk false (st+1) e' 1 (dR vs++dR us))],h::[k]⟩)
      (by simp only[qK,oJ,hk2,hh2])
      ⟨hs,hok,hz,by rw[hsz];exact hrl,hst,rfl,hsz.symm,by rw[D5,D5,<-a4p,<-b2Z];exact hb,by rw[D5,D5,<-a4p,<-b2Z];exact hm⟩
     refine⟨z,w',β',hrun,?_⟩;simp only[bT,aH]at R' ⊢;rw[show dR vs++dR us=dR (vs++us) from (zav ..).symm]at R';have hA:=(R'.Dl b2Z).2;have hB:=((R'.Dl b2Z).1.Dl a4p).2;have R4:=R'.nest (h:=h) (vs:=vs++us) (xs:=rows++src) (aA _ _ _) (hA.append hB);rw[sK]at R4;have hB4:=((R4.Dl b2Z).1.Dl a4p).2;have R5:=R4.nest (h:=k) (st:=s') (e:=e3) (vs:=us) (xs:=src) (by rw[aB _ _ hkh,hk2]) hB4;have hfin:bW (bW H2 h (.nst (st+1) e' (rows++src))) k (.nst s' e3 src)=bW H h (.nst (st+1) e' (rows++src)):=by
      rw[<-hH2,sK,Oq _ _ _ hhk,sK,Oo H hK]
     rw[hfin]at R5;exact((R5.Dl b2Z).1.Dl a4p).1
    .cases hr
   .cases hr
  .exact pU ht ht2 R hx hy hd hr hc
 .exact pU ht ht2 R hx hy hd hr hc
theorem Jw (ht:(ti P t).desc=.sl e){e2:Nat}(ht2:(ti P t2).desc=.sl e2)(R:Rel G M w0 D0 N f H β a w){x y:AV}{v u:Value}(hx:ak w (DD H β D0) H β x v)(hy:ak w (DD H β D0) H β y u)(hd:d<N){r:AR}(hr:vJ (ti P e) H e d x y=some r)(hc:r.c){ty:Nat} :
  ∃z w' β',(Builtin.append_ #[t,t2] ty #[v,u]).run P w=.ok z w'/\Rel G M w0 D0 N (ku f (some d) r.v) (bT r.hs (aH r.fz H)) β' (a.put (some d) z) w':=by
 unfold vJ at hr;split at hr
 .exact Jv ht ht2 R hx hy hd hr hc
 .exact Jz ht ht2 R hx hy hd hr hc
end
end Go.AL

namespace Go.AL
variable {zi:Zi}
open Go.RowKit
set_option linter.unusedSimpArgs false
set_option linter.unusedVariables false
def a9r (H:Hp)(x:AV):Option AR :=
 match x with
 |.ip cells=>some ⟨True,.ip cells,[],[],[]⟩
 |.hp h st i off=>some ⟨st=(H h).stamp,.hp h st i off,[],[],[h]⟩
 |_=>none
def a7C (x y z:AV):Option AR :=
 match x,y,z with
 |.iv (.int k a),.iv (.int k' b),.iv (.int k'' c)=>some ⟨k=k'/\k=k'',.iv (.int k (max (max a b) c)),[],[],[]⟩
 |_,_,_=>none
def vI [Zi] (P:Program)(b:Builtin)(H:Hp)(d:Option Nat)(xs:List AV)(ts:List Nat):Option AR :=
 match b,xs,ts with
 |.len,[x],[t]=>match (ti P t).desc with | .sl _=>b2w H (zX x)|_=>none
 |.max,[x,y],_=>b5l false x y
 |.min,[x,y],_=>b5l true x y
 |.max,[x,y,z],_=>a7C x y z
 |.append,[x,y],[t,t2]=>match (ti P t).desc,(ti P t2).desc,d with
  |.sl e,.sl _,some d=>vJ (ti P e) H e d x y
  |.sl e,.int _,some _=>vM (ti P e) H e x y
  |_,_,_=>none
 |.copy,[x,y],[t,_]=>match (ti P t).desc with | .sl e=>UJ (ti P e) H x y|_=>none
 |_,_,_=>none
def wG:IV->IV
 |.av _ x=>x
 |x=>x
def wF:AV->AV
 |.iv x=>.iv (wG x)
 |.agg cs=>.agg (cs.map wG)
 |x=>x
theorem JL {w:World}{D:Nat->Prop}{x:IV}{v:Value}(h:Rep w D x v):Rep w D (wG x) v:=by
 cases x with
 |av X x=>exact h.b3E
 |_=>exact h
theorem Gi {w:World}{D:Nat->Prop}:∀{xs:List IV} {vs:List Value},dY w D xs vs->dY w D (xs.map wG) vs
 |[],[],_=>zar
 |_::_,_::_,h=>⟨JL h.1,Gi h.2⟩
 |[],_::_,h=>h.elim
 |_::_,[],h=>h.elim
theorem CY {w:World}{D:Nat->Prop}{H:Hp}{β:Nat->Value}{x:AV}{v:Value}(h:ak w D H β x v):ak w D H β (wF x) v:=by
 cases x with
 |iv x=>simp only[ak,wF]at h ⊢;exact JL h
 |agg cs =>
  simp only[ak,wF]at h ⊢;obtain⟨c,rfl,hr⟩:=h;exact⟨c,rfl,Gi hr⟩
 |_=>exact h
def Ea (g:Nat->Nat->Nat->Option Nat)(T:TI)(H:Hp):AV->Option AR
 |.hp h st i off=>match g h i off with
  |some s=>match qN T H (.hp h st i off),H s with
   |some r,.tie y v=>some ⟨r.c/\r.v=.iv (.raw v),y,r.fz,r.hs,s::r.rd⟩
   |_,_=>none
  |none=>qN T H (.hp h st i off)
 |x=>qN T H x
def a6y [zi:Zi] (T:TI)(H:Hp)(x:AV):Option AR :=
 match zi.st with
 |.strip=>match qN T H x with
  |some r=>some ⟨r.c,wF r.v,r.fz,r.hs,r.rd⟩
  |none=>none
 |.both=>match qN T H x with
  |some r=>some ⟨r.c,wF r.v,r.fz,r.hs,r.rd⟩
  |none=>none
 |.no=>qN T H x
 |.al g=>Ea g T H x
def b5R [zi:Zi] (x:AV):AV:=match zi.st with | .both=>wF x|_=>x
theorem a6s [zi:Zi] {w:World}{D:Nat->Prop}{H:Hp}{β:Nat->Value}{x:AV}{v:Value}(h:ak w D H β x v):ak w D H β (b5R x) v:=by
 unfold b5R;split
 .exact CY h
 .exact h
def pR [Zi] (P:Program)(op:Op)(d:Option Nat)(f:Fr)(H:Hp):Option AR :=
 match op with
 |.move x=>some ⟨True,b5R (ev f x),[],[],[]⟩
 |.assign x=>some ⟨True,ev f x,[],[],[]⟩
 |.pick c x y=>match ev f c with | .iv (.bool b)=>some ⟨True,if b then ev f x else ev f y,[],[],[]⟩|_=>none
 |.alloc e=>match d with|some d=>xK (ti P e) H e d|none=>none
 |.box e x=>match d with|some d=>QZ (ti P e) H e d (ev f x)|none=>none
 |.build t ps=>ED (ti P t) H (ps.toList.map (·.1)) (ps.toList.map λp=>ev f p.2)
 |.buildSlice t n ps=>match (ti P t).desc,d with | .sl e,some d=>je (ti P e) H e d n (ps.toList.map (·.1)) (ps.toList.map λp=>ev f p.2)|_,_=>none
 |.load t x=>a6y (ti P t) H (ev f x)
 |.store t x y=>xI (ti P t) H (ev f x) (ev f y)
 |.nilCheck x=>a9r H (ev f x)
 |.binOp op t x y _=>b5m (ti P t) op (ev f x) (ev f y)
 |.unOp op _ x=>aUn op (ev f x)
 |.convert s d x=>a3J (ti P d) (ti P s) (ev f x)
 |.makeSlice t l c=>match (ti P t).desc,d with | .sl e,some d=>QO (ti P e) H e d (ev f l) (ev f c)|_,_=>none
 |.slice t x lo hi none=>match (ti P t).desc with | .sl e=>Ez (ti P e).size (ti P e).ok H (zX (ev f x)) (lo.map (ev f)) (hi.map (ev f))|_=>none
 |.fieldAddr s x i=>lN (ti P s) i H (ev f x)
 |.field s x i=>BO (b6a P s i) (ev f x)
 |.indexAddr t x i=>match (ti P t).desc with | .sl e=>EC (ti P e).size (ti P e).ok H (zX (ev f x)) (ev f i) | .arr n e=>xJ n (ti P e).size (ti P e).ok H (ev f x) (ev f i)|_=>none
 |.index t x i=>Jb P t (ev f x) (ev f i)
 |.extract x i=>BP i (ev f x)
 |.makeFunc (.func g) first caps=>if first.size=0 then some ⟨True,.fn g (caps.toList.map (ev f)),[],[],[]⟩ else none
 |.call c=>match c.callee with | .builtin b=>vI P b H d (c.args.toList.map (ev f)) c.argTypes.toList|_=>none
 |_=>none
section
variable {G:Gh} {M:Nat->Prop} {w0:World} {D0:Nat->Prop} {N:Nat} {f:Fr} {H:Hp} {β:Nat->Value} {a:Act} {w:World}
def yS (P:Program)(G:Gh)(M:Nat->Prop)(w0:World)(D0:Nat->Prop)(N:Nat)(o:Oper)(f:Fr)(H:Hp)(a:Act)(w:World)(r:AR):Prop :=
 ∃nx w' z β',(execOp a.eval o).run P w=.ok nx w'/\(nx=.value z\/(nx=.skip/\z=Go.undef))/\Rel G M w0 D0 N (ku f o.dst r.v) (bT r.hs (aH r.fz H)) β' (a.put o.dst z) w'
theorem yS.value {P:Program}{o:Oper}{r:AR}(R:Rel G M w0 D0 N f H β a w)(hd:∀d,o.dst=some d->d<N){s:Sem Value}(hs:execOp a.eval o=do pure (.value (<-s)))
  (h:r.fz=[]/\r.hs=[]/\∃z,s.run P w=.ok z w/\ak w (DD H β D0) H β r.v z):yS P G M w0 D0 N o f H a w r:=by
 obtain⟨h1,h2,z,h3,h4⟩:=h;refine⟨.value z,w,z,β,?_,.inl rfl,?_⟩
 .rw[hs];simp only[zaU,h3,zay,zaI]
 .rw[h1,h2];exact R.value h4 hd
theorem yS.mem {P:Program}{o:Oper}{r:AR}{d:Nat}(hd:o.dst=some d){s:Sem Value}(hs:execOp a.eval o=do pure (.value (<-s)))
  (h:∃z w' β',s.run P w=.ok z w'/\Rel G M w0 D0 N (ku f (some d) r.v) (bT r.hs (aH r.fz H)) β' (a.put (some d) z) w'):yS P G M w0 D0 N o f H a w r:=by
 obtain⟨z,w',β',h3,h4⟩:=h;refine⟨.value z,w',z,β',?_,.inl rfl,by rw[hd];exact h4⟩;rw[hs];simp only[zaU,h3,zay,zaI]
theorem kM (R:Rel G M w0 D0 N f H β a w):∀(xs:List Operand),jZ w (DD H β D0) H β (xs.map (ev f)) (xs.map a.eval)
 |[]=>.nil
 |x::xs=>.cons (R.ev x) (kM R xs)
theorem jZ.a4o {D:Nat->Prop}:∀{xs:List AV} {vs:List Value},jZ w D H β xs vs->aG w D H β xs vs
 |_,_,.nil=>by simp[aG]
 |_,_,.cons h k=>by simp only[aG];exact⟨h,k.a4o⟩
theorem jZ.append {D:Nat->Prop}:∀{xs:List AV} {vs:List Value} {ys:List AV} {us:List Value},jZ w D H β xs vs->aG w D H β ys us->jZ w D H β (xs++ys) (vs++us)
 |_,_,[],[],.nil,_=>.nil
 |_,_,y::ys,u::us,.nil,h=>by simp only[aG]at h;exact .cons h.1 (jZ.append .nil h.2)
 |_,_,_,_,.cons h k,h'=>.cons h (k.append h')
 |_,_,[],_::_,.nil,h=>by simp[aG]at h
 |_,_,_::_,[],.nil,h=>by simp[aG]at h
theorem Dy (R:Rel G M w0 D0 N f H β a w):∀(ps:List (Nat×Operand)),jZ w (DD H β D0) H β (ps.map λp=>ev f p.2) (ps.map λp=>a.eval p.2)
 |[]=>.nil
 |x::xs=>.cons (R.ev x.2) (Dy R xs)
theorem a8O (R:Rel G M w0 D0 N f H β a w)(x:Option Operand):Jh w (DD H β D0) H β (x.map (ev f)) (x.map a.eval):=by
 cases x with
 |none=>trivial
 |some x=>exact R.ev x
theorem Og (ps:Array (Nat×Operand))(a:Act):((ps.toList.map (·.1)).zip (ps.toList.map λp=>a.eval p.2)).toArray=ps.map λ(i,x)=>(i,a.eval x):=by
 apply zda;rw[ze5];simp only;generalize ps.toList=l
 induction l with
 |nil=>rfl
 |cons p l ih=>simp[ih]
theorem YF {P:Program}(R:Rel G M w0 D0 N f H β a w){x:AV}{v:Value}(hx:ak w (DD H β D0) H β x v){r:AR}(hr:a9r H x=some r)(hc:r.c):r.fz=[]/\r.hs=[]/\(∃p,v=.pointer (some p))/\ak w (DD H β D0) H β r.v v:=by
 unfold a9r at hr;split at hr
 .injection hr with hr;subst hr;have hx':=hx;simp only[ak]at hx;obtain⟨g,o,rfl,_⟩:=hx;exact⟨rfl,rfl,⟨_,rfl⟩,hx'⟩
 .injection hr with hr;subst hr;have hx':=hx;simp only[ak]at hx;obtain⟨g,n,cap,_,rfl⟩:=hx.2 hc;exact⟨rfl,rfl,⟨_,rfl⟩,hx'⟩
 .cases hr
theorem UD {P:Program}{ts:Array TypeId}{ty:Nat}{x y z:AV}{v u t:Value}{D:Nat->Prop}(hx:ak w D H β x v)(hy:ak w D H β y u)(hz:ak w D H β z t){r:AR}(hr:a7C x y z=some r)(hc:r.c) :
  r.fz=[]/\r.hs=[]/\∃q,(Builtin.max_ ts ty #[v,u,t]:Sem Value).run P w=.ok q w/\ak w D H β r.v q:=by
 unfold a7C at hr;split at hr
 .rename_i k a k' b k'' c;injection hr with hr;subst hr;simp only[ak]at hx hy hz;cases hx;cases hy;cases hz;obtain⟨rfl,rfl⟩:=hc;refine⟨rfl,rfl,.int k (max (max a b) c),?_,by simp only[ak];exact .int ..⟩;simp only[Builtin.max_,List.foldlM,Builtin.max2,bind_pure,Sem.run_pure,pure_bind]
  congr 2;simp only[Int.max_def];split<;>split<;>(try split)<;>(try split)<;>omega
 .cases hr
theorem a6k {P:Program}(R:Rel G M w0 D0 N f H β a w)(o:Oper)(hd:∀d,o.dst=some d->d<N){r:AR}(hr:pR P o.op o.dst f H=some r)(hc:r.c):yS P G M w0 D0 N o f H a w r:=by
 cases ho:o.op<;>rw[ho]at hr<;>simp only[pR]at hr<;>try cases hr
 case move x =>
  exact yS.value R hd (s:=pure (a.eval x)) (by simp[execOp,ho]) ⟨rfl,rfl,_,rfl,a6s (R.ev x)⟩
 case assign x =>
  exact yS.value R hd (s:=pure (a.eval x)) (by simp[execOp,ho]) ⟨rfl,rfl,_,rfl,R.ev x⟩
 case pick c x y =>
  have hcv:=R.ev c;split at hr
  .rename_i b hb;injection hr with hr;subst hr;rw[hb]at hcv;simp only[ak]at hcv;generalize hv:a.eval c=v at hcv;cases hcv;refine yS.value R hd (s:=pure (if b then a.eval x else a.eval y)) (by simp[execOp,ho,hv,asBool]) ⟨rfl,rfl,_,rfl,?_⟩;cases b
   .exact R.ev y
   .exact R.ev x
  .cases hr
 case alloc e =>
  split at hr
  .rename_i d hdd;exact yS.mem hdd (by simp only[execOp,ho]) (NT R (hd d hdd) hr hc)
  .cases hr
 case box e x =>
  split at hr
  .rename_i d hdd;exact yS.mem hdd (by simp only[execOp,ho]) (UL (P:=P) R (R.ev x) (hd d hdd) hr hc)
  .cases hr
 case build t ps =>
  obtain⟨h1,z,h2,h3⟩:=QW (P:=P) R (by simp) (Dy R ps.toList) hr hc;rw[Og]at h2;refine⟨.value z,w,z,β,?_,.inl rfl,?_⟩
  .simp only[execOp,ho,Sem.run_bind,h2,Result.andThen_ok,Sem.run_pure]
  .rw[h1];exact(R.aH r.fz).value h3 hd
 case buildSlice t n ps =>
  split at hr
  .rename_i e d ht hdd;have:=BR (P:=P) ht R (by simp) (Dy R ps.toList) (hd d hdd) hr hc;rw[Og]at this;exact yS.mem hdd (by simp only[execOp,ho]) this
  .cases hr
 case load t x =>
  refine yS.value R hd (s:=Instr.loadAt t (a.eval x)) (by simp only[execOp,ho]) ?_;unfold a6y at hr;split at hr
  .split at hr
   .rename_i r' hr';injection hr with hr;subst hr;obtain⟨h1,h2,z,h3,h4⟩:=jO R (R.ev x) hr' hc;exact⟨h1,h2,z,h3,CY h4⟩
   .cases hr
  .split at hr
   .rename_i r' hr';injection hr with hr;subst hr;obtain⟨h1,h2,z,h3,h4⟩:=jO R (R.ev x) hr' hc;exact⟨h1,h2,z,h3,CY h4⟩
   .cases hr
  .exact jO R (R.ev x) hr hc
  .unfold Ea at hr;split at hr
   .rename_i hx;split at hr
    .split at hr
     .rename_i r' y v hr' hs;injection hr with hr;subst hr;rw[<-hx]at hr';obtain⟨h1,h2,z,h3,h4⟩:=jO R (R.ev x) hr' hc.1;refine⟨h1,h2,z,h3,?_⟩;rw[hc.2]at h4;simp only[ak]at h4;cases h4;exact R.tie _ _ _ hs
     .cases hr
    .rw[<-hx]at hr;exact jO R (R.ev x) hr hc
   .exact jO R (R.ev x) hr hc
 case store t x y =>
  obtain⟨h1,w',β',h2,h3⟩:=NM (P:=P) R (R.ev x) (R.ev y) hr hc hd;exact⟨.skip,w',Go.undef,β',by simp only[execOp,ho,Sem.run_bind,h2,Result.andThen_ok,Sem.run_pure],.inr ⟨rfl,rfl⟩,h3⟩
 case nilCheck x =>
  obtain⟨h1,h2,⟨p,hp⟩,h3⟩:=YF (P:=P) R (R.ev x) hr hc;exact⟨.value (a.eval x),w,_,β,by simp[execOp,ho,hp],.inl rfl,by rw[h1,h2];exact R.value h3 hd⟩
 case binOp op t x y yt=>exact yS.value R hd (by simp only[execOp,ho]) (YN (P:=P) (R.ev x) (R.ev y) hr hc (ox:=x) (oy:=y))
 case unOp op t x=>exact yS.value R hd (by simp only[execOp,ho]) (a3I (P:=P) (R.ev x) hr hc)
 case convert s d x=>exact yS.value R hd (by simp only[execOp,ho]) (UK (P:=P) (R.ev x) hr hc)
 case makeSlice t l c =>
  split at hr
  .rename_i e d ht hdd;exact yS.mem hdd (by simp only[execOp,ho]) (UE (P:=P) ht R (R.ev l) (R.ev c) (hd d hdd) hr hc)
  .cases hr
 case slice t x lo hi mx =>
  cases mx with
  |some m=>simp only[pR]at hr;cases hr
  |none =>
   simp only[pR]at hr;split at hr
   .rename_i e ht;exact yS.value R hd (by simp only[execOp,ho,Option.map_none]) (QM (P:=P) ht R (Lp (R.ev x)) (a8O R lo) (a8O R hi) hr hc)
   .cases hr
 case fieldAddr s x i=>exact yS.value R hd (by simp only[execOp,ho]) (EL (P:=P) R (R.ev x) hr hc)
 case field s x i=>exact yS.value R hd (by simp only[execOp,ho]) (QV (P:=P) (R.ev x) hr hc)
 case indexAddr t x i =>
  split at hr
  .rename_i e ht;exact yS.value R hd (by simp only[execOp,ho]) (QS (P:=P) ht R (Lp (R.ev x)) (R.ev i) hr hc)
  .rename_i n e ht;exact yS.value R hd (by simp only[execOp,ho]) (NR (P:=P) ht R (R.ev x) (R.ev i) hr hc)
  .cases hr
 case index t x i=>exact yS.value R hd (by simp only[execOp,ho]) (NQ (P:=P) (R.ev x) (R.ev i) hr hc)
 case extract x i=>exact yS.value R hd (by simp only[execOp,ho]) (Jt (P:=P) (R.ev x) hr hc)
 case makeFunc fn first caps =>
  cases fn with
  |func g =>
   simp only[pR]at hr;split at hr
   .rename_i h0;injection hr with hr;subst hr;have hfirst:first.map a.eval = #[]:=by
     apply Array.ext';simp[Array.eq_empty_of_size_eq_zero h0]
    refine yS.value R hd (s:=Instr.makeFunc (.func g) (first.map a.eval) (caps.map a.eval)) (by simp only[execOp,ho]) ⟨rfl,rfl,_,rfl,?_⟩;rw[hfirst];simp only[ak];refine⟨_,rfl,?_⟩;rw[Array.toList_map];exact(kM R caps.toList).a4o
   .cases hr
  |_=>simp[pR]at hr
 case call c =>
  obtain⟨callee,args,tys⟩:=c;split at hr
  .rename_i b hb;simp only at hb;subst hb;unfold vI at hr;split at hr
   .rename_i x t hx ht;split at hr
    .rename_i e hte;have ha:∃o,args = #[o]:=by
      have h1:=congrArg List.length hx
      match hh:args.toList with
      |[o]=>exact⟨o,by apply Array.ext';simpa using hh⟩
      |[]=>rw[hh]at h1;simp at h1
      |_::_::_=>rw[hh]at h1;simp at h1
     obtain⟨o',rfl⟩:=ha;have htt:tys = #[t]:=by apply Array.ext';simpa using ht
     subst htt;simp only[List.map_cons,List.map_nil,List.cons.injEq,and_true]at hx;subst hx;exact yS.value R hd (s:=Builtin.len_ #[t] o.type #[a.eval o']) (by simp[execOp,ho,resolve,invoke,builtin]) (YH (P:=P) hte R (Lp (R.ev o')) hr hc)
    .cases hr
   .rename_i x y ts hx;have ha:∃o1 o2,args = #[o1,o2]:=by
     have h1:=congrArg List.length hx
     match hh:args.toList with
     |[o1,o2]=>exact⟨o1,o2,by apply Array.ext';simpa using hh⟩
     |[]=>rw[hh]at h1;simp at h1
     |[_]=>rw[hh]at h1;simp at h1
     |_::_::_::_=>rw[hh]at h1;simp at h1
    obtain⟨o1,o2,rfl⟩:=ha;simp only[List.map_cons,List.map_nil,List.cons.injEq,and_true]at hx;obtain⟨rfl,rfl⟩:=hx;exact yS.value R hd (s:=Builtin.max_ tys o.type #[a.eval o1,a.eval o2]) (by simp[execOp,ho,resolve,invoke,builtin]) (Ld (P:=P) (ts:=tys) (ty:=o.type) (R.ev o1) (R.ev o2) hr hc)
   .rename_i x y ts hx;have ha:∃o1 o2,args = #[o1,o2]:=by
     have h1:=congrArg List.length hx
     match hh:args.toList with
     |[o1,o2]=>exact⟨o1,o2,by apply Array.ext';simpa using hh⟩
     |[]=>rw[hh]at h1;simp at h1
     |[_]=>rw[hh]at h1;simp at h1
     |_::_::_::_=>rw[hh]at h1;simp at h1
    obtain⟨o1,o2,rfl⟩:=ha;simp only[List.map_cons,List.map_nil,List.cons.injEq,and_true]at hx;obtain⟨rfl,rfl⟩:=hx;exact yS.value R hd (s:=Builtin.min_ tys o.type #[a.eval o1,a.eval o2]) (by simp[execOp,ho,resolve,invoke,builtin]) (Ld (P:=P) (ts:=tys) (ty:=o.type) (R.ev o1) (R.ev o2) hr hc)
   .rename_i x y z ts hx;have ha:∃o1 o2 o3,args = #[o1,o2,o3]:=by
     have h1:=congrArg List.length hx
     match hh:args.toList with
     |[o1,o2,o3]=>exact⟨o1,o2,o3,by apply Array.ext';simpa using hh⟩
     |[]=>rw[hh]at h1;simp at h1
     |[_]=>rw[hh]at h1;simp at h1
     |[_,_]=>rw[hh]at h1;simp at h1
     |_::_::_::_::_=>rw[hh]at h1;simp at h1
    obtain⟨o1,o2,o3,rfl⟩:=ha;simp only[List.map_cons,List.map_nil,List.cons.injEq,and_true]at hx;obtain⟨rfl,rfl,rfl⟩:=hx;exact yS.value R hd (s:=Builtin.max_ tys o.type #[a.eval o1,a.eval o2,a.eval o3]) (by simp[execOp,ho,resolve,invoke,builtin]) (UD (P:=P) (ts:=tys) (ty:=o.type) (R.ev o1) (R.ev o2) (R.ev o3) hr hc)
   .rename_i x y t t2 hx ht;split at hr
    .rename_i e e2 d hte b7i hdd;have ha:∃o1 o2,args = #[o1,o2]:=by
      have h1:=congrArg List.length hx
      match hh:args.toList with
      |[o1,o2]=>exact⟨o1,o2,by apply Array.ext';simpa using hh⟩
      |[]=>rw[hh]at h1;simp at h1
      |[_]=>rw[hh]at h1;simp at h1
      |_::_::_::_=>rw[hh]at h1;simp at h1
     obtain⟨o1,o2,rfl⟩:=ha;have htt:tys = #[t,t2]:=by apply Array.ext';simpa using ht
     subst htt;simp only[List.map_cons,List.map_nil,List.cons.injEq,and_true]at hx;obtain⟨rfl,rfl⟩:=hx;exact yS.mem hdd (s:=Builtin.append_ #[t,t2] o.type #[a.eval o1,a.eval o2]) (by simp[execOp,ho,resolve,invoke,builtin]) (Jw (P:=P) hte b7i R (R.ev o1) (R.ev o2) (hd d hdd) hr hc)
    .rename_i e e2 d hte b7i hdd;have ha:∃o1 o2,args = #[o1,o2]:=by
      have h1:=congrArg List.length hx
      match hh:args.toList with
      |[o1,o2]=>exact⟨o1,o2,by apply Array.ext';simpa using hh⟩
      |[]=>rw[hh]at h1;simp at h1
      |[_]=>rw[hh]at h1;simp at h1
      |_::_::_::_=>rw[hh]at h1;simp at h1
     obtain⟨o1,o2,rfl⟩:=ha;have htt:tys = #[t,t2]:=by apply Array.ext';simpa using ht
     subst htt;simp only[List.map_cons,List.map_nil,List.cons.injEq,and_true]at hx;obtain⟨rfl,rfl⟩:=hx;exact yS.mem hdd (s:=Builtin.append_ #[t,t2] o.type #[a.eval o1,a.eval o2]) (by simp[execOp,ho,resolve,invoke,builtin]) (JB (P:=P) hte b7i R (R.ev o1) (R.ev o2) (hd d hdd) hr hc)
    .cases hr
   .rename_i x y t t2 hx ht;split at hr
    .rename_i e hte;have ha:∃o1 o2,args = #[o1,o2]:=by
      have h1:=congrArg List.length hx
      match hh:args.toList with
      |[o1,o2]=>exact⟨o1,o2,by apply Array.ext';simpa using hh⟩
      |[]=>rw[hh]at h1;simp at h1
      |[_]=>rw[hh]at h1;simp at h1
      |_::_::_::_=>rw[hh]at h1;simp at h1
     obtain⟨o1,o2,rfl⟩:=ha;have htt:tys = #[t,t2]:=by apply Array.ext';simpa using ht
     subst htt;simp only[List.map_cons,List.map_nil,List.cons.injEq,and_true]at hx;obtain⟨rfl,rfl⟩:=hx;obtain⟨z,w',β',h3,h4⟩:=UG (P:=P) (t2:=t2) (ty:=o.type) hte R (R.ev o1) (R.ev o2) hd hr hc;refine⟨.value z,w',z,β',?_,.inl rfl,h4⟩;simp[execOp,ho,resolve,invoke,builtin,h3]
    .cases hr
   .cases hr
  .cases hr
def Wd (ro:Option Nat):Fence:={ Fence.wide with round:=ro }
theorem ES {ro:Option Nat}{o:Oper}(h:∀c,o.op≠.defer c)(ρ:Operand->Value):o.semAt ro ρ=execOp ρ o:=by
 cases ro with
 |none=>exact Oper.semAt_none ρ o
 |some l=>exact Oper.semAt_some l ρ o h
theorem a7A {P:Program}{op:Op}{d:Option Nat}{r:AR}(h:pR P op d f H=some r):∀c,op≠.defer c:=by
 rintro c rfl;simp[pR]at h
theorem yS.wp {P:Program}{o:Oper}{r:AR}(h:yS P G M w0 D0 N o f H a w r){K:Act->World->Prop}{Q:Exit->Act->World->Prop}
  (hK:∀a' w' β',Rel G M w0 D0 N (ku f o.dst r.v) (bT r.hs (aH r.fz H)) β' a' w'->K a' w') {ro:Option Nat} (hnd:∀c,o.op≠.defer c):o.wpIn (Wd ro) 0 P a w K Q:=by
 obtain⟨nx,w',z,β',h1,h2,h3⟩:=h;refine⟨λ_ _=>zar,?_⟩;show o.uponIn (Wd ro) 0 P a K Q ((o.semAt ro a.eval).run P w);rw[ES hnd,h1];rcases h2 with rfl|⟨rfl,rfl⟩
 .exact hK _ _ _ h3
 .exact hK _ _ _ h3
end
end Go.AL

namespace Go.AL
variable {zi:Zi}
open Go.RowKit
set_option linter.unusedSimpArgs false
set_option linter.unusedVariables false
inductive CV where
 |iv (x:IV)
 |agg (cells:List IV)
 |val (v:Value)
 |box (cells:List IV)
 |fn (g:Nat) (caps:List (List IV))
 |any
 deriving Inhabited
def CV.av:CV->AV
 |.iv x=>.iv x
 |.agg cs=>.agg cs
 |.val v=>a4q v
 |.box cells=>.ip cells
 |.fn g caps=>.fn g (caps.map .ip)
 |.any=>.dead
def yT (w:World)(D:Nat->Prop)(cells:List IV)(v:Value):Prop :=
 ∃g o,v=.pointer (some ⟨g,o,none⟩)/\(cells≠[]->¬D g)/\∃vs,dY w D cells vs/\∀(j:Nat) c,vs[j]?=some c->w.cell? ⟨g,o+j,none⟩=some c
theorem yT.mono {w w':World}{D D':Nat->Prop}(g:bD w D w' D'){cells:List IV}{v:Value}(h:yT w D cells v):yT w' D' cells v:=by
 obtain⟨b,o,rfl,hD,vs,hr,hc⟩:=h;by_cases he:cells=[]
 .subst he;exact⟨b,o,rfl,λh=>(h rfl).elim,[],by simp[dY],by simp⟩
 .have hne:=hD he;refine⟨b,o,rfl,λ_ h'=>?_,vs,hr.mono g,λj c hj=>g.cell hne (hc j c hj)⟩;have hl:=hr.length
  match cells,vs,he,hl with
  |x::xs,v::vs,_,_ =>
   have:=hc 0 v rfl;exact hne (g.sub _ (zdV w _ this) h')
def qM (w:World)(D:Nat->Prop):List (List IV)->List Value->Prop
 |[],[]=>True
 |x::xs,v::vs=>yT w D x v/\qM w D xs vs
 |_,_=>False
theorem qM.mono {w w':World}{D D':Nat->Prop}(g:bD w D w' D'):∀{xs:List (List IV)} {vs:List Value},qM w D xs vs->qM w' D' xs vs
 |[],[],_=>zar
 |_::_,_::_,h=>⟨h.1.mono g,qM.mono g h.2⟩
 |[],_::_,h=>h.elim
 |_::_,[],h=>h.elim
theorem qM.av {w:World}{D:Nat->Prop}{H:Hp}{β:Nat->Value}:∀{xs:List (List IV)} {vs:List Value},qM w D xs vs->aG w D H β (xs.map .ip) vs
 |[],[],_=>by simp[aG]
 |_::_,_::_,h=>by simp only[zaC,aG,ak];exact⟨h.1,qM.av h.2⟩
 |[],_::_,h=>h.elim
 |_::_,[],h=>h.elim
def jo (w:World)(D:Nat->Prop):CV->Value->Prop
 |.iv x,v=>Rep w D x v
 |.agg cells,v=>∃cs:Array Value,v=.agg cs/\dY w D cells cs.toList
 |.val u,v=>v=u
 |.box cells,v=>yT w D cells v
 |.fn g caps,v=>∃vs:Array Value,v=.func (.func g) #[] vs/\qM w D caps vs.toList
 |.any,_=>True
theorem jo.mono {w w':World}{D D':Nat->Prop}(g:bD w D w' D'){c:CV}{v:Value}(h:jo w D c v):jo w' D' c v:=by
 cases c with
 |iv x=>exact Rep.mono g h
 |agg cs=>obtain⟨a,rfl,hr⟩:=h;exact⟨a,rfl,hr.mono g⟩
 |val u=>exact h
 |box cells=>exact yT.mono g h
 |fn k caps=>obtain⟨a,rfl,hr⟩:=h;exact⟨a,rfl,hr.mono g⟩
 |any=>trivial
theorem jo.av {w:World}{D:Nat->Prop}{H:Hp}{β:Nat->Value}{c:CV}{v:Value}(h:jo w D c v):ak w D H β c.av v:=by
 cases c with
 |iv x=>simpa only[CV.av,ak,jo] using h
 |agg x=>simpa only[CV.av,ak,jo] using h
 |val u=>simp only[jo]at h;subst h;exact Xg ..
 |box cells=>simpa only[CV.av,ak,jo,yT] using h
 |fn k caps=>obtain⟨a,rfl,hr⟩:=h;simp only[CV.av,ak];exact⟨a,rfl,hr.av⟩
 |any=>simp[CV.av,ak]
def dU (w:World)(D:Nat->Prop):List CV->List Value->Prop
 |[],[]=>True
 |x::xs,v::vs=>jo w D x v/\dU w D xs vs
 |_,_=>False
theorem dU.length {w:World}{D:Nat->Prop}:∀{xs:List CV} {vs:List Value},dU w D xs vs->xs.length=vs.length
 |[],[],_=>rfl
 |_::_,_::_,h=>by simp[dU.length h.2]
 |[],_::_,h=>h.elim
 |_::_,[],h=>h.elim
theorem dU.mono {w w':World}{D D':Nat->Prop}(g:bD w D w' D'):∀{xs:List CV} {vs:List Value},dU w D xs vs->dU w' D' xs vs
 |[],[],_=>zar
 |_::_,_::_,h=>⟨h.1.mono g,dU.mono g h.2⟩
 |[],_::_,h=>h.elim
 |_::_,[],h=>h.elim
abbrev iZ:=Option (Nat×Nat×Nat×List (List IV))
def MQ (own:iZ)(us:List Value)(b:Nat):Prop :=
 match own with
 |none=>False
 |some (i,_)=>∃v,us[i]?=some v/\aF v=some b
def uP:List Value->Value
 |[v]=>v
 |vs=>.tuple vs.toArray
structure NY (w w':World) (D:Nat->Prop) (own:iZ) (res:List CV) (us:List Value):Prop where
 len:us.length=res.length
 val:∀(j:Nat) c v,(∀i e sz rows,own=some (i,e,sz,rows)->j≠i)->res[j]?=some c->us[j]?=some v->jo w' (λb=>D b\/MQ own us b) c v
 own:∀i e sz rows,own=some (i,e,sz,rows)->∃v,us[i]?=some v/\i<res.length/\Own w' (λb=>D b\/MQ own us b) w.heap.size (λ_=>False) v e sz rows
def qL (P:Program)(g:Nat)(vs:List Value)(w:World)(R:Value->World->Prop):Prop :=
 (∃ fn, P.funcs[g]? = some fn ∧ (fn.name == "runtime.NumGoroutine") = false ∧ fn.body.isNone = false ∧ Calls P g vs.toArray w fun e w' => ∃ v, e = .returned v ∧ R v w') ∨
 ∃v w',(callFunc g vs.toArray).run P w=.ok (.value v) w'/\R v w'
def AC (P:Program)(g:Nat)(args:List CV)(own:iZ)(res:List CV):Prop :=
 ∀(w:World) (D:Nat->Prop) (vs:List Value),(∀b,D b->b<w.heap.size)->dU w D args vs ->
  qL P g vs w λv w'=>Below w.heap.size w w'/\∃us,v=uP us/\NY w w' D own res us
def ACW (P:Program)(g:Nat)(args:List CV)(i e sz:Nat)(rows rows':List (List IV))(res:List CV):Prop :=
 ∀(w:World) (D:Nat->Prop) (vs:List Value) (v:Value),(∀b,D b->b<w.heap.size)->dU w D args vs->vs[i]?=some v->(∀b,aF v=some b->D b) ->
  Own w D w.heap.size (λb=>aF v=some b) v e sz rows ->
  qL P g vs w λu w'=>w.grownBy w' (aF v)/\∃us,u=uP us/\dU w' D res us/\Own w' D w.heap.size (λb=>aF v=some b) v e sz rows'
def ACT (P:Program)(g:Nat)(args:List CV)(i e sz:Nat)(rows rows':List (List IV)):Prop :=
 ∀(w:World) (D:Nat->Prop) (vs:List Value) (v:Value),(∀b,D b->b<w.heap.size)->dU w D args vs->vs[i]?=some v->(∀b,aF v=some b->D b) ->
  Own w D w.heap.size (λb=>aF v=some b) v e sz rows ->
  qL P g vs w λu w'=>w.grownBy w' (aF v)/\(∀b,aF u=some b->aF v=some b)/\Own w' D w.heap.size (λb=>aF v=some b) u e sz rows'
def ACX (P:Program)(g:Nat)(args:List CV)(R:Nat->Nat->List CV->Prop):Prop :=
 (∀B,∃E res,B<=E/\R B E res) /\
 ∀(w:World) (D:Nat->Prop) (vs:List Value),(∀b,D b->b<w.heap.size)->dU w D args vs ->
  qL P g vs w λv w'=>Below w.heap.size w w'/\∃us res,v=uP us/\R w.heap.size w'.heap.size res/\dU w' D res us
inductive Je:CV->CV->Prop
 |refl (c:CV):Je c c
 |iv {x y:IV} (h:Le x y):Je (.iv x) (.iv y)
 |agg {xs ys:List IV} (hl:ys.length=xs.length) (h:∀(j:Nat) (x y:IV),xs[j]?=some x->ys[j]?=some y->Le x y):Je (.agg xs) (.agg ys)
theorem dY.soft {w:World}{D:Nat->Prop}:∀{xs ys:List IV} {vs:List Value},ys.length=xs.length->(∀(j:Nat) (x y:IV),xs[j]?=some x->ys[j]?=some y->Le x y)->dY w D xs vs->dY w D ys vs
 |[],[],[],_,_,_=>zar
 |x::xs,y::ys,v::vs,hl,hs,h=>⟨(hs 0 x y rfl rfl).rep h.1,dY.soft (by simpa using hl) (λj a b ha hb=>hs (j+1) a b (by simpa using ha) (by simpa using hb)) h.2⟩
 |[],_::_,_,hl,_,_=>by simp at hl
 |_::_,[],_,hl,_,_=>by simp at hl
 |[],[],_::_,_,_,h=>h.elim
 |_::_,_::_,[],_,_,h=>h.elim
theorem Je.rep {w:World}{D:Nat->Prop}{c d:CV}(h:Je c d){v:Value}(hr:jo w D c v):jo w D d v:=by
 cases h with
 |refl=>exact hr
 |iv h=>exact h.rep hr
 |agg hl h=>obtain⟨cs,rfl,hr⟩:=hr;exact⟨cs,rfl,hr.soft hl h⟩
inductive Cb:List CV->List CV->Prop
 |nil:Cb [] []
 |cons {c d:CV} {cs ds:List CV} (h:Je c d) (t:Cb cs ds):Cb (c::cs) (d::ds)
theorem Cb.a4o {w:World}{D:Nat->Prop}{cs ds:List CV}(h:Cb cs ds):∀{vs:List Value},dU w D cs vs->dU w D ds vs:=by
 induction h with
 |nil=>exact λh=>h
 |cons h t ih =>
  intro vs hv
  match vs,hv with
  |v::vs,hv=>exact⟨h.rep hv.1,ih hv.2⟩
theorem AC.soft {P:Program}{g:Nat}{args args':List CV}{own:iZ}{res:List CV}(h:AC P g args' own res)(hs:Cb args args'):AC P g args own res :=
 λw D vs hD hv=>h w D vs hD (hs.a4o hv)
theorem ACX.soft {P:Program}{g:Nat}{args args':List CV}{R:Nat->Nat->List CV->Prop}(h:ACX P g args' R)(hs:Cb args args'):ACX P g args R :=
 ⟨h.1,λw D vs hD hv=>h.2 w D vs hD (hs.a4o hv)⟩
def Ox (H:Hp):AV->Option (Prop×List IV×List Nat)
 |.ip cells=>some (True,cells,[])
 |.hp h st i off=>match H h with | .blk _ st' _ _ rows=>some (st=st'/\i<rows.length,(rows.getD i []).drop off,[h])|_=>none
 |_=>none
def oI (H:Hp):List AV->Option (Prop×List (List IV)×List Nat)
 |[]=>some (True,[],[])
 |x::xs=>match Ox H x,oI H xs with
  |some (c,v,ms),some (c',vs,ms')=>some (c/\c',v::vs,ms++ms')
  |_,_=>none
def qU (H:Hp):AV->Option (Prop×CV×List Nat)
 |.dead=>some (True,.any,[])
 |.ip cells=>some (True,.box cells,[])
 |.hp h st i off=>match Ox H (.hp h st i off) with|some (c,cells,ms)=>some (c,.box cells,ms)|none=>none
 |.fn g l=>match oI H l with|some (c,caps,ms)=>some (c,.fn g caps,ms)|none=>none
 |.iv x=>some (True,.iv x,[])
 |.agg cs=>some (True,.agg cs,[])
 |.vY=>some (True,.iv (.sl []),[])
 |.hs h st=>match H h with | .blk _ st' _ _ rows=>some (st=st',.iv (.sl rows),[h])|_=>none
 |.hv h st off len=>match H h with | .blk _ st' _ _ rows=>some (st=st'/\off+len<=rows.length,.iv (.sl ((rows.drop off).take len)),[h])|_=>none
 |_=>none
def gV (H:Hp):List AV->Option (Prop×List CV×List Nat)
 |[]=>some (True,[],[])
 |x::xs=>match qU H x,gV H xs with
  |some (c,v,ms),some (c',vs,ms')=>some (c/\c',v::vs,ms++ms')
  |_,_=>none
section
variable {G:Gh} {M:Nat->Prop} {w0:World} {D0:Nat->Prop} {N:Nat} {f:Fr} {H:Hp} {β:Nat->Value} {a:Act} {w:World}
theorem G5 (R:Rel G M w0 D0 N f H β a w){x:AV}{v:Value}(hx:ak w (DD H β D0) H β x v){c:Prop}{y:List IV}{ms:List Nat}(ht:Ox H x=some (c,y,ms))(hc:c) :
  yT w (DD (aH ms H) β D0) y v:=by
 unfold Ox at ht;split at ht
 .injection ht with ht;injection ht with e1 e2;injection e2 with e2 e3;subst e1 e2 e3;simpa only[ak,aH,yT] using hx
 .rename_i h st i off;split at ht
  .rename_i fz st' e sz rows hH;injection ht with ht;injection ht with e1 e2;injection e2 with e2 e3;subst e1 e2 e3;have R1:=R.freeze h;have hH1:bW H h (H h).frz h=.blk true st' e sz rows:=by rw[aA,hH];rfl
   have hx1:ak w (DD (bW H h (H h).frz) β D0) (bW H h (H h).frz) β (.hp h st i off) v:=by
    simp only[ak]at hx ⊢;rw[aA,HC.Iu,HC.Uf];exact hx
   obtain⟨g,cap,vs,hb,hl,hr,hcell⟩:=R1.row hH1 hc.2;simp only[ak]at hx1;obtain⟨g',n',cap',hb',rfl⟩:=hx1.2 (by rw[hH1];exact hc.1);rw[hb]at hb';injection hb' with e1;injection e1 with e1;injection e1 with e1
   subst e1;simp only[aH];refine⟨g,_,rfl,λhne hD=>?_,vs.drop off,hr.drop off,λj u hj=>?_⟩
   .obtain⟨hrows,hrep,_⟩:=R1.frz h _ _ _ _ hH1;rw[hb]at hrep;cases hrep with
    |nil=>exact(Nat.not_lt_zero _ hc.2).elim
    |sl _ _ _ _ _ _ _ _ _ _ hDg _ _=>exact hDg hD
   .rw[zbf]at hj;have:=hcell _ _ hj;rw[hH1]at *;simp only[HC.esz];rw[zbp];exact this
  .cases ht
 .cases ht
theorem uF (R:Rel G M w0 D0 N f H β a w):∀{xs:List AV} {vs:List Value} {c:Prop} {ys:List (List IV)} {ms:List Nat},aG w (DD H β D0) H β xs vs->oI H xs=some (c,ys,ms)->c->qM w (DD (aH ms H) β D0) ys vs
 |[],[],c,ys,ms,_,ht,hc=>by
  simp only[oI]at ht;injection ht with ht;injection ht with e1 e2;injection e2 with e2 e3;subst e1 e2 e3
  trivial
 |x::xs,v::vs,c,ys,ms,hx,ht,hc=>by
  simp only[aG]at hx;simp only[oI]at ht;split at ht
  .rename_i c1 y1 m1 c2 y2 m2 h1 h2;injection ht with ht;injection ht with e1 e2;injection e2 with e2 e3;subst e1 e2 e3;exact⟨(G5 R hx.1 h1 hc.1).mono (bD.of_sub (Cc _ _ H (by simp +contextual))),(uF R hx.2 h2 hc.2).mono (bD.of_sub (Cc _ _ H (by simp +contextual)))⟩
  .cases ht
 |[],_::_,_,_,_,hx,_,_=>by simp[aG]at hx
 |_::_,[],_,_,_,hx,_,_=>by simp[aG]at hx
theorem pV (R:Rel G M w0 D0 N f H β a w){x:AV}{v:Value}(hx:ak w (DD H β D0) H β x v){c:Prop}{y:CV}{ms:List Nat}(ht:qU H x=some (c,y,ms))(hc:c) :
  jo w (DD (aH ms H) β D0) y v:=by
 have key:∀x',sV H x=some (c,[x'],ms)->(∀cs,v≠.agg cs)->Rep w (DD (aH ms H) β D0) x' v:=by
  intro x' h hv;have:=lD R hx h hc;have e:v.cells = #[v]:=by cases v<;>first|rfl|exact(hv _ rfl).elim
  rw[e]at this;exact this.1
 unfold qU at ht;split at ht
 .injection ht with ht;injection ht with e1 e2;injection e2 with e2 e3;subst e1 e2 e3;trivial
 .injection ht with ht;injection ht with e1 e2;injection e2 with e2 e3;subst e1 e2 e3;simpa only[jo,ak,aH,yT] using hx
 .split at ht
  .rename_i hb;injection ht with ht;injection ht with e1 e2;injection e2 with e2 e3;subst e1 e2 e3;exact G5 R hx hb hc
  .cases ht
 .split at ht
  .rename_i hb;injection ht with ht;injection ht with e1 e2;injection e2 with e2 e3;subst e1 e2 e3;simp only[ak]at hx;obtain⟨us,rfl,hr⟩:=hx;exact⟨us,rfl,uF R hr hb hc⟩
  .cases ht
 .injection ht with ht;injection ht with e1 e2;injection e2 with e2 e3;subst e1 e2 e3;simpa only[jo,ak,aH] using hx
 .injection ht with ht;injection ht with e1 e2;injection e2 with e2 e3;subst e1 e2 e3;simpa only[jo,ak,aH] using hx
 .injection ht with ht;injection ht with e1 e2;injection e2 with e2 e3;subst e1 e2 e3;simp only[ak]at hx;subst hx;exact .nil _ _ (Nat.zero_le _)
 .rename_i h st;split at ht
  .rename_i fz st' e sz rows hH;injection ht with ht;injection ht with e1 e2;injection e2 with e2 e3;subst e1 e2 e3;refine key _ (by simp[sV,hH]) ?_;simp only[ak]at hx;have hv:=hx.2 (by rw[hH];exact hc);obtain⟨ad,cap,hb,_⟩:=R.kH hH;intro cs he;rw[hv,hb]at he;cases he
  .cases ht
 .rename_i h st off len;split at ht
  .rename_i fz st' e sz rows hH;injection ht with ht;injection ht with e1 e2;injection e2 with e2 e3;subst e1 e2 e3;refine key _ (by simp[sV,hH]) ?_;simp only[ak]at hx;intro cs he;rcases hx.2 (by rw[hH];exact hc.1) with ⟨_,ad,cap,hv,_⟩|⟨g,n,cap,cap',hb,hv,_⟩<;>rw[hv]at he<;>cases he
  .cases ht
 .cases ht
theorem kW (R:Rel G M w0 D0 N f H β a w):∀{xs:List AV} {vs:List Value} {c:Prop} {ys:List CV} {ms:List Nat},jZ w (DD H β D0) H β xs vs->gV H xs=some (c,ys,ms)->c->dU w (DD (aH ms H) β D0) ys vs
 |[],[],c,ys,ms,_,ht,hc=>by
  simp only[gV]at ht;injection ht with ht;injection ht with e1 e2;injection e2 with e2 e3;subst e1 e2 e3
  trivial
 |x::xs,v::vs,c,ys,ms,hx,ht,hc=>by
  cases hx with
  |cons hx hxs =>
  simp only[gV]at ht;split at ht
  .rename_i c1 y1 m1 c2 y2 m2 h1 h2;injection ht with ht;injection ht with e1 e2;injection e2 with e2 e3;subst e1 e2 e3;exact⟨(pV R hx h1 hc.1).mono (bD.of_sub (Cc _ _ H (by simp +contextual))),(kW R hxs h2 hc.2).mono (bD.of_sub (Cc _ _ H (by simp +contextual)))⟩
  .cases ht
 |[],_::_,_,_,_,hx,_,_=>by cases hx
 |_::_,[],_,_,_,hx,_,_=>by cases hx
def Df (H:Hp):List AV->Option (Prop×List (List IV)×List Nat)
 |[]=>some (True,[],[])
 |x::xs=>match x with
  |.hs k s=>match H k with
   |.blk _ s' _ _ r=>match Df H xs with
    |some (c,rs,ms)=>some (s=s'/\c,[.sl r]::rs,k::ms)
    |none=>none
   |_=>none
  |_=>none
def XD (H:Hp)(x:AV):Option (Prop×CV×List Nat) :=
 match x with
 |.vY=>some (True,.val (.slice none 0 0),[])
 |.hs h st=>match H h with
  |.nst st' _ rows=>match Df H rows with
   |some (c,rs,ms)=>some (st=st'/\c,.iv (.sl rs),h::ms)
   |none=>none
  |_=>qU H (.hs h st)
 |.hv h st off len=>match H h with
  |.nst st' _ rows=>match Df H ((rows.drop off).take len) with
   |some (c,rs,ms)=>some (st=st'/\off+len<=rows.length/\c,.iv (.sl rs),h::ms)
   |none=>none
  |_=>qU H (.hv h st off len)
 |x=>qU H x
def yI (H:Hp):List AV->Option (Prop×List CV×List Nat)
 |[]=>some (True,[],[])
 |x::xs=>match XD H x,yI H xs with
  |some (c,v,ms),some (c',vs,ms')=>some (c/\c',v::vs,ms++ms')
  |_,_=>none
theorem GU (R:Rel G M w0 D0 N f H β a w):∀{xs:List AV} {vs:List Value} {c:Prop} {rs:List (List IV)} {ms:List Nat},aG w (DD H β D0) H β xs vs->Df H xs=some (c,rs,ms)->c ->
  rs.length=xs.length/\∀(i:Nat) (r:List IV),rs[i]?=some r->∃rr k v,r=[IV.sl rr]/\k∈ms/\vs[i]?=some v/\Rep w (DD (aH [k] H) β D0) (.sl rr) v
 |[],[],c,rs,ms,_,ht,_=>by
  simp only[Df]at ht;injection ht with ht;injection ht with e1 e2;injection e2 with e2 e3;subst e1 e2 e3
  exact⟨rfl,λi r h=>by simp at h⟩
 |x::xs,v::vs,c,rs,ms,hx,ht,hc=>by
  simp only[aG]at hx;simp only[Df]at ht;split at ht
  .rename_i k s;split at ht
   .rename_i fz s' e sz rr hK;split at ht
    .rename_i c' rs' ms' hn;injection ht with ht;injection ht with e1 e2;injection e2 with e2 e3;subst e1 e2 e3;obtain⟨hl,hi⟩:=GU R hx.2 hn hc.2;refine⟨by simp[hl],λi r hr=>?_⟩;cases i with
     |zero =>
      simp only[zbP,zaq]at hr;have h1:=hx.1;simp only[ak]at h1;have hv:=h1.2 (by rw[hK];exact hc.1);refine⟨rr,k,v,hr.symm,by simp,rfl,?_⟩;rw[hv];exact(R.slice hK).2.1
     |succ i =>
      obtain⟨rr',k',v',q1,q2,q3,q4⟩:=hi i r (by simpa using hr);exact⟨rr',k',v',q1,by simp[q2],by simpa using q3,q4⟩
    .cases ht
   .cases ht
  .cases ht
 |[],_::_,_,_,_,hx,_,_=>by simp[aG]at hx
 |_::_,[],_,_,_,hx,_,_=>by simp[aG]at hx
theorem aG.drop {D:Nat->Prop}(n:Nat):∀{xs:List AV} {vs:List Value},aG w D H β xs vs->aG w D H β (xs.drop n) (vs.drop n):=by
 induction n with
 |zero=>intro xs vs h;simpa using h
 |succ n ih =>
  intro xs vs h
  match xs,vs,h with
  |[],[],_=>simp[aG]
  |x::xs,v::vs,h=>simp only[aG]at h;simpa using ih h.2
theorem aG.take {D:Nat->Prop}(n:Nat):∀{xs:List AV} {vs:List Value},aG w D H β xs vs->aG w D H β (xs.take n) (vs.take n):=by
 induction n with
 |zero=>intro xs vs _;simp[aG]
 |succ n ih =>
  intro xs vs h
  match xs,vs,h with
  |[],[],_=>simp[aG]
  |x::xs,v::vs,h=>simp only[aG,zaJ]at h ⊢;exact⟨h.1,ih h.2⟩
theorem Wi (R:Rel G M w0 D0 N f H β a w){h st e:Nat}{rows:List AV}(hH:H h=.nst st e rows){off len:Nat}(hol:off+len<=rows.length){c:Prop}{rs:List (List IV)}{ms:List Nat}(hn:Df H ((rows.drop off).take len)=some (c,rs,ms))(hc:c)(h0:0<len)
  {g n cap cap':Nat} (hb:β h=.slice (some ⟨g,0,none⟩) n cap) (hcap:len<=cap') (hm:cap'<=maxLen):Rep w (DD (aH (h::ms) H) β D0) (.sl rs) (.slice (some ⟨g,off,none⟩) len cap'):=by
 rcases R.nst h _ _ _ hH with ⟨rfl,_⟩|⟨g',cp,cur,hv,hB,hg,h1,h2,h3,h4,h5⟩
 .simp at hol;omega
 rw[hv]at hb;injection hb with e1 e2 e3;injection e1 with e1;injection e1 with e1 e4;subst e1
 obtain⟨hl,hi⟩:=GU R ((h4.drop off).take len) hn hc;have hlen:rs.length=len:=by rw[hl,List.length_take,List.length_drop];omega
 rw[<-hlen];refine .sl rs g' off cap' 1 (λi _=>(cur.toList.drop off).getD i default) (λi r hr=>?_) (by omega) hm (Array.getElem?_eq_some_iff.1 hg).1 ?_ ?_ ?_
 .obtain⟨rr,k,v,q1,_⟩:=hi i r hr;rw[q1];rfl
 .rintro(hb|⟨k,hm',hk⟩)
  .have q1:=R.old _ hb;rcases hB with q2|q2
   .omega
   .exact q1.2 q2
  .have q:=(qF (h::ms) H k).1 hm';have hne:k≠h:=λe=>q.1 (by simp[e])
   exact R.dis h k (Ne.symm hne) (by rw[hH];trivial) q.2 g' (by rw[hv];rfl) hk
 .intro i r hr j x hj;obtain⟨rr,k,v,q1,q2,q3,q4⟩:=hi i r hr;subst q1
  match j,hj with
  |0,_ =>
   have hil:i<len:=by rw[<-hlen];exact(List.getElem?_eq_some_iff.1 hr).1
   rw[cell_of_row w g' _ cur e (0,0) hg];simp only[List.getD,List.getElem?_drop,Nat.mul_one,Nat.add_zero,Array.getElem?_toList];have:off+i<cur.size:=by omega
   simp[this]
  |j+1,hj=>simp at hj
 .intro i r hr j x hj;obtain⟨rr,k,v,q1,q2,q3,q4⟩:=hi i r hr;subst q1
  match j,hj with
  |0,hj =>
   simp only[List.getElem?_cons_zero,Option.some.injEq]at hj;subst hj;have hil:i<len:=by rw[<-hlen];exact(List.getElem?_eq_some_iff.1 hr).1
   have hv2:(cur.toList.drop off).getD i default=v:=by
    rw[List.getElem?_take_of_lt hil,List.getElem?_drop,List.getElem?_take_of_lt (by omega)]at q3;simp only[List.getD,List.getElem?_drop,q3,Option.getD_some]
   rw[hv2];exact q4.mono (bD.of_sub (Cc _ _ H (by intro q hq;simp only[List.mem_singleton]at hq;subst hq;simp[q2])))
  |j+1,hj=>simp at hj
theorem Ba {xs:List AV}{c:Prop}{rs:List (List IV)}{ms:List Nat}(h:Df H xs=some (c,rs,ms))(h0:xs.length=0):rs=[]:=by
 have e:=zbt h0;subst e;simp only[Df]at h;injection h with h;injection h with e1 e2;injection e2 with e2 e3;exact e2.symm
theorem SG (R:Rel G M w0 D0 N f H β a w){x:AV}{v:Value}(hx:ak w (DD H β D0) H β x v){c:Prop}{y:CV}{ms:List Nat}(ht:XD H x=some (c,y,ms))(hc:c) :
  jo w (DD (aH ms H) β D0) y v:=by
 unfold XD at ht;split at ht
 .injection ht with ht;injection ht with e1 e2;injection e2 with e2 e3;subst e1 e2 e3;simpa only[jo,ak] using hx
 .rename_i h st;split at ht
  .rename_i st' e rows hH;split at ht
   .rename_i c' rs ms' hn;injection ht with ht;injection ht with e1 e2;injection e2 with e2 e3;subst e1 e2 e3;obtain⟨hst,hc'⟩:=hc;simp only[ak]at hx;have hv:=hx.2 (by rw[hH];exact hst);subst hv;simp only[jo];rcases R.nst h _ _ _ hH with ⟨rfl,hv⟩|⟨g,cap,cur,hv,hB,hg,h1,h2,h3,h4,h5⟩
    .rw[hv,Ba hn rfl];exact .nil _ _ (za4 _)
    .by_cases h0:rows.length=0
     .rw[hv,Ba hn h0,h0];exact .nil _ _ h2
     .have hn':Df H ((rows.drop 0).take rows.length)=some (c',rs,ms'):=by rw[zc5,zac (zab _)];exact hn
      have:=Wi R hH (off:=0) (len:=rows.length) (by omega) hn' hc' (by omega) hv h1 h2;rw[hv];exact this
   .cases ht
  .exact pV R hx ht hc
 .rename_i h st off len;split at ht
  .rename_i st' e rows hH;split at ht
   .rename_i c' rs ms' hn;injection ht with ht;injection ht with e1 e2;injection e2 with e2 e3;subst e1 e2 e3;obtain⟨hst,hol,hc'⟩:=hc;simp only[ak]at hx;simp only[jo];rcases hx.2 (by rw[hH];exact hst) with ⟨rfl,ad,cap,hv,hcm,_⟩|⟨g,n,cap,cap',hb,hv,q1,q2,_⟩
    .rw[hv,Ba hn (by simp)];exact .nil _ _ hcm
    .by_cases h0:len=0
     .subst h0;rw[hv,Ba hn (by simp)];exact .nil _ _ q2
     .rw[hv,hH];simp only[HC.esz,zcU];exact Wi R hH hol hn hc' (by omega) hb q1 q2
   .cases ht
  .exact pV R hx ht hc
 .exact pV R hx ht hc
theorem DR (R:Rel G M w0 D0 N f H β a w):∀{xs:List AV} {vs:List Value} {c:Prop} {ys:List CV} {ms:List Nat},jZ w (DD H β D0) H β xs vs->yI H xs=some (c,ys,ms)->c->dU w (DD (aH ms H) β D0) ys vs
 |[],[],c,ys,ms,_,ht,hc=>by
  simp only[yI]at ht;injection ht with ht;injection ht with e1 e2;injection e2 with e2 e3;subst e1 e2 e3
  trivial
 |x::xs,v::vs,c,ys,ms,hx,ht,hc=>by
  cases hx with
  |cons hx hxs =>
  simp only[yI]at ht;split at ht
  .rename_i c1 y1 m1 c2 y2 m2 h1 h2;injection ht with ht;injection ht with e1 e2;injection e2 with e2 e3;subst e1 e2 e3;exact⟨(SG R hx h1 hc.1).mono (bD.of_sub (Cc _ _ H (by simp +contextual))),(DR R hxs h2 hc.2).mono (bD.of_sub (Cc _ _ H (by simp +contextual)))⟩
  .cases ht
 |[],_::_,_,_,_,hx,_,_=>by cases hx
 |_::_,[],_,_,_,hx,_,_=>by cases hx
def RD:IV->Prop
 |.sl rows=>rows=[]
 |.own _ _ _ _=>False
 |.av _ _=>False
 |_=>True
def RF:CV->Prop
 |.iv x=>RD x
 |.agg cs=>∀x∈cs,RD x
 |.val _=>True
 |.box _=>False
 |.fn _ caps=>caps=[]
 |.any=>True
def xM (own:iZ)(res:List CV):Prop :=
 match own with
 |none=>∀c∈res,RF c
 |some (i,_,_,rows)=>(∀r∈rows,∀x∈r,RD x)/\∀(j:Nat) c,j≠i->res[j]?=some c->RF c
theorem Rep.flat {D D':Nat->Prop}{w':World}{x:IV}{v:Value}(h:Rep w D x v)(hf:RD x):Rep w' D' x v:=by
 cases h with
 |int k n=>exact .int k n
 |bool b=>exact .bool b
 |raw v hv=>exact .raw v hv
 |nil a cap hcap=>exact .nil a cap hcap
 |sl rows g o cap sz cell hsz hl hcap hg hD hc hr =>
  simp only[RD]at hf;subst hf;exact .nil _ _ hcap
 |O9=>exact hf.elim
 |own=>exact hf.elim
 |av=>exact hf.elim
theorem dY.flat {D D':Nat->Prop}{w':World}:∀{xs:List IV} {vs:List Value},dY w D xs vs->(∀x∈xs,RD x)->dY w' D' xs vs
 |[],[],_,_=>zar
 |_::_,_::_,h,hf=>⟨h.1.flat (hf _ (by simp)),dY.flat h.2 λx hx=>hf x (by simp[hx])⟩
 |[],_::_,h,_=>h.elim
 |_::_,[],h,_=>h.elim
theorem jo.flat {D D':Nat->Prop}{w':World}{c:CV}{v:Value}(h:jo w D c v)(hf:RF c):jo w' D' c v:=by
 cases c with
 |iv x=>exact Rep.flat h hf
 |agg cs=>obtain⟨a,rfl,hr⟩:=h;exact⟨a,rfl,hr.flat hf⟩
 |val u=>exact h
 |box cells=>exact hf.elim
 |fn k caps =>
  simp only[RF]at hf;subst hf;obtain⟨a,rfl,hr⟩:=h;refine⟨a,rfl,?_⟩
  match a.toList,hr with
  |[],_=>trivial
 |any=>trivial
def rAV (H:Hp)(d:Nat)(own:iZ)(j:Nat):List CV->List AV
 |[]=>[]
 |c::cs=>(match own with|some (i,_)=>if i=j then .hs d ((H d).stamp+1) else c.av|none=>c.av)::rAV H d own (j+1) cs
def pG:List AV->AV
 |[]=>.undef
 |[x]=>x
 |l=>.tup l
def Jk (H:Hp)(d:Nat):iZ->List (Nat×HC)
 |none=>[]
 |some (_,e,sz,rows)=>[(d,.blk false ((H d).stamp+1) e sz rows)]
theorem wX {D:Nat->Prop}:∀(l:List AV) (us:List Value),aG w D H β l us->ak w D H β (pG l) (uP us)
 |[],[],_=>by simp only[pG,uP,ak];rfl
 |[x],[v],h=>by simp only[aG]at h;exact h.1
 |x::y::l,v::u::us,h=>by
  simp only[pG,uP,ak];exact⟨_,rfl,h⟩
 |[],_::_,h=>by simp[aG]at h
 |_::_,[],h=>by simp[aG]at h
 |[_],_::_::_,h=>by simp[aG]at h
 |_::_::_,[_],h=>by simp[aG]at h
theorem Ti {D:Nat->Prop}{d:Nat}{H0:Hp}{own:iZ}:∀(res:List CV) (us:List Value) (j:Nat),us.length=res.length ->
  (∀(k:Nat) c v,(∀i e sz rows,own=some (i,e,sz,rows)->j+k≠i)->res[k]?=some c->us[k]?=some v->jo w D c v) ->
  (∀(k:Nat) v i e sz rows,own=some (i,e,sz,rows)->j+k=i->us[k]?=some v->ak w D H β (.hs d ((H0 d).stamp+1)) v)->aG w D H β (rAV H0 d own j res) us
 |[],[],_,_,_,_=>by simp only[rAV,aG]
 |c::cs,v::vs,j,hl,h1,h2=>by
  simp only[rAV,aG];refine⟨?_,Ti cs vs (j+1) (by simpa using hl) (λk c' v' hk hc hv=>h1 (k+1) c' v' (λi e sz rows ho=>by have:=hk i e sz rows ho;omega) (by simpa using hc) (by simpa using hv)) (λk v' i e sz rows ho hk hv=>h2 (k+1) v' i e sz rows ho (by omega) (by simpa using hv))⟩;cases own with
  |none=>exact(h1 0 c v (by simp) rfl rfl).av
  |some p =>
   obtain⟨i,e,sz,rows⟩:=p;simp only;split
   .rename_i hij;exact h2 0 v i e sz rows rfl (by omega) rfl
   .rename_i hij;exact(h1 0 c v (by rintro i' e' sz' rows' ⟨⟩;omega) rfl rfl).av
 |[],_::_,_,hl,_,_=>by simp at hl
 |_::_,[],_,hl,_,_=>by simp at hl
theorem Rel.below (R:Rel G M w0 D0 N f H β a w){w':World}(hb:Below w.heap.size w w'):Rel G M w0 D0 N f H β a w':=by
 have g:bD w (DD H β D0) w' (DD H β D0):=⟨hb.size,λ_ _ h=>h,λb h _ _=>hb.block b h⟩;have:=R.step (w':=w') (H':=H) (β':=β) (dst:=none) (v:=.dead) (val:=Go.undef) hb.os hb.tape hb.output g (λk h1 _=>hb.block k (zau h1 R.size)) (λk _ h=>by rw[hb.block k (zai.1 h).1];exact h) (iR.refl _ _) (by simp[ak])
  (λh st e sz rows hh=>(R.own h st e sz rows hh).mono g λk hk=>hb.block k ((R.own h st e sz rows hh).lt hk).1)
  (λh st e sz rows hh=>⟨(R.frz h st e sz rows hh).1,(R.frz h st e sz rows hh).2.1.mono g,(R.frz h st e sz rows hh).2.2⟩) R.dis
  (λh st e rows hh=>(R.nst h st e rows hh).mono g (iR.refl _ _) λk hk=>hb.block k ((R.nst h st e rows hh).lt hk).1) (λh B hh=>zad (R.mrk h B hh) hb.size) (by simp)
 exact this
theorem Rel.JM (R:Rel G M w0 D0 N f H β a w){h B E:Nat}(hH:H h=.mrk B)(hE:E<=w.heap.size):Rel G M w0 D0 N f (bW H h (.mrk E)) β a w:=by
 have hm:∀u,(bW H h (.mrk E) u).bI↔(H u).bI:=λu=>by
  by_cases e:u=h
  .subst e;rw[aA,hH];exact Iff.rfl
  .rw[aB _ _ e]
 have hDD:∀b,DD (bW H h (.mrk E)) β D0 b->DD H β D0 b:=by
  rintro b (hb|⟨k,hk,hb⟩)
  .exact .inl hb
  .exact .inr ⟨k,(hm k).1 hk,hb⟩
 have g:=bD.of_sub (w:=w) hDD;have s:iR H β (bW H h (.mrk E)) β:=λu=>by
  left
  by_cases e:u=h
  .subst e;rw[aA,hH];exact⟨rfl,rfl,rfl⟩
  .rw[aB _ _ e];exact⟨rfl,rfl,rfl⟩
 have ne:∀u c,bW H h (.mrk E) u=c->(∀B,c≠.mrk B)->H u=c:=λu c hu hc=>by
  by_cases e:u=h
  .subst e;rw[aA]at hu;exact(hc E hu.symm).elim
  .rwa [aB _ _ e]at hu
 have:=R.step (w':=w) (H':=bW H h (.mrk E)) (β':=β) (dst:=none) (v:=.dead) (val:=Go.undef) rfl rfl rfl g (λ_ _ _=>rfl) (λ_ _ h=>h) s (by simp[ak])
  (λu st e sz rows hu=>(R.own u st e sz rows (ne u _ hu (by intro B;simp))).mono g λ_ _=>rfl)
  (λu st e sz rows hu=>have hu:=ne u _ hu (by intro B;simp);⟨(R.frz u st e sz rows hu).1,(R.frz u st e sz rows hu).2.1.mono g,(R.frz u st e sz rows hu).2.2⟩)
  (λu u' hne h1 h2=>R.dis u u' hne ((hm u).1 h1) ((hm u').1 h2))
  (λu st e rows hu=>(R.nst u st e rows (ne u _ hu (by intro B;simp))).mono g s λ_ _=>rfl)
  (λu B hu=>by
   by_cases e:u=h
   .subst e;rw[aA]at hu;injection hu with hu;subst hu;exact hE
   .rw[aB _ _ e]at hu;exact R.mrk u B hu) (by simp)
 exact this
theorem a3z (R:Rel G M w0 D0 N f H β a w){own:iZ}{res:List CV}{us:List Value}{w':World}(hb:Below w.heap.size w w')(hr:NY w w' (DD H β D0) own res us){d:Nat}(hd:d<N) :
  ∃β',Rel G M w0 D0 N (upd f d (pG (rAV H d own 0 res))) (bT (Jk H d own) H) β' (a.put (some d) (uP us)) w':=by
 cases own with
 |none =>
  have R1:=R.below hb;refine⟨β,R1.value (dst:=some d) (wX _ _ (Ti res us 0 hr.len (λk c v _ hc hv=>(hr.val k c v (by simp) hc hv).mono (bD.of_sub λb hb=>.inl hb)) (by simp))) (by rintro _ ⟨⟩;exact hd)⟩
 |some p =>
  obtain⟨i,e,sz,rows⟩:=p;obtain⟨v,hv,hi,hown⟩:=hr.own i e sz rows rfl;have hX:∀b,(DD H β D0 b\/MQ (some (i,e,sz,rows)) us b)↔(DD H β D0 b\/aF v=some b):=by
   intro b;simp only[MQ,hv,zaq,exists_eq_left']
  have hown':Own w' (λb=>DD H β D0 b\/aF v=some b) w.heap.size (λ_=>False) v e sz rows:=hown.mono (bD.of_sub λb hb=>(hX b).2 hb) λ_ _=>rfl
  obtain⟨β',hβ,b7h,R'⟩:=R.fresh (w':=w') (h:=d) (v:=v) (dst:=none) (x:=.dead) (val:=Go.undef) (st:=(H d).stamp+1) (by omega) hb.os hb.tape hb.output hb.size (λk hk=>hb.block k hk) hown' (λ_ _ _=>by simp[ak]) (by simp);refine⟨β',R'.value (dst:=some d) (wX _ _ (Ti res us 0 hr.len (λk c u hk hc hu=>?_) (λk u i' e' sz' rows' ho hk hu=>?_))) (by rintro _ ⟨⟩;exact hd)⟩
  .refine(hr.val k c u (λi e sz rows ho=>by have:=hk i e sz rows ho;omega) hc hu).mono (bD.of_sub λb hb=>?_);rw[hX];rcases hb with hb|⟨k,hm,hk⟩
   .exact .inl (.inl hb)
   .by_cases hkd:k=d
    .subst hkd;rw[hβ]at hk;exact .inr hk
    .rw[aB _ _ hkd]at hm;rw[b7h k hkd]at hk;exact .inl (.inr ⟨k,hm,hk⟩)
  .injection ho with ho;injection ho with e1 _;rw[za9]at hk;subst hk;subst e1;rw[hv]at hu;injection hu with hu;subst hu
   simp only[ak,aA,HC.stamp];exact⟨zab _,λ_=>hβ.symm⟩
end
end Go.AL
