/-
 Contracts of the functions that the law reaches.
-/
import Derived.Test.YtdpngipofekcfaaGreatAbsK
import Derived.Test.YtdpngipofekcfaaGreatAbsYM
namespace Go.AL
variable {zi:Zi}
open Go.RowKit
set_option linter.unusedSimpArgs false
set_option linter.unusedVariables false
variable {w:World} {D:Nat->Prop} {c:CV} {v:Value}
def a7O:CV->Prop
 |.iv x=>Full x
 |.agg cs=>∀x∈cs,Full x
 |_=>False
def b1A:CV->List Nat
 |.iv x=>x.ids
 |.agg cs=>iV cs
 |_=>[]
theorem dY.ids:∀{xs:List IV} {vs:List Value},dY w D xs vs->∀g∈iV xs,¬D g/\g<w.heap.size
 |[],[],_,g,hg=>by simp[iV]at hg
 |x::xs,v::vs,h,g,hg=>by
  simp only[iV,zap]at hg;exact hg.elim (λhg=>h.1.ids g hg) λhg=>dY.ids h.2 g hg
 |[],_::_,h,_,_=>h.elim
 |_::_,[],h,_,_=>h.elim
theorem jo.ids (h:jo w D c v):∀g∈b1A c,¬D g/\g<w.heap.size:=by
 cases c with
 |iv x=>exact Rep.ids h
 |agg cs=>obtain⟨a,rfl,hr⟩:=h;exact hr.ids
 |val u=>intro g hg;cases hg
 |box cs=>intro g hg;cases hg
 |fn k caps=>intro g hg;cases hg
 |any=>intro g hg;cases hg
theorem jo.full {D':Nat->Prop}(h:jo w D c v)(hf:a7O c)(hk:∀g∈b1A c,¬D' g):jo w D' c v:=by
 cases c with
 |iv x=>exact Rep.full h hf λg hg=>⟨rfl,hk g hg⟩
 |agg cs=>obtain⟨a,rfl,hr⟩:=h;exact⟨a,rfl,hr.full hf λg hg=>⟨rfl,hk g hg⟩⟩
 |val u=>exact hf.elim
 |box cs=>exact hf.elim
 |fn k caps=>exact hf.elim
 |any=>exact hf.elim
section
variable {G:Gh} {M:Nat->Prop} {w0:World} {D0:Nat->Prop} {N:Nat} {P:Program} {f:Fr} {H:Hp} {β:Nat->Value} {a:Act} {w:World}
theorem Yh {w':World}{B:Nat}{b:Option (Nat×Nat)}{e sz:Nat}{rows:List (List IV)}{u:Value}(hu:Rep w' D (.own b e sz rows) u)(hf:∀r∈rows,∀x∈r,Full x)
  (hid:∀g cap,b=some (g,cap)->B<=g/\g∉bY rows):Own w' (λb=>D b\/aF u=some b) B (λ_=>False) u e sz rows:=by
 cases hu with
 |O9=>exact⟨by simp,.inl ⟨rfl,rfl⟩⟩
 |own rows g cap e sz cur hsz hlen hcap hg hD hcs hr =>
  obtain⟨h1,h2⟩:=hid g cap rfl;have hsz':∀r∈rows,r.length=sz:=λr hr'=>by
   obtain⟨i,hi⟩:=zba hr';exact hsz i r hi
  refine⟨hsz',.inr ⟨g,cap,cur,rfl,.inl h1,hg,hlen,hcap,hcs,Ar hsz' (by rw[hcs];exact zag _ hlen) λi r hi j x hj=>?_⟩⟩;refine(hr i r hi j x hj).full (hf r (zat hi) x (zat hj)) λk hk=>⟨rfl,?_⟩;rintro(h|h)
  .exact((hr i r hi j x hj).ids k hk).1 h
  .simp only[aF,zaq]at h;subst h;exact h2 (qC.2 ⟨r,zat hi,iH.2 ⟨x,zat hj,hk⟩⟩)
theorem ACX.aci {g:Nat}{args:List CV}{R:Nat->Nat->List CV->Prop}(h:ACX P g args R){avs:List AV}{c:Prop}{B k e sz:Nat}(ht:gV H avs=some (c,args,[]))(hc:c)(hB:H 999=.mrk B)(hk:H k=.none)
  (hR:∀B' E res,R B' E res->∃b rows rest,res=.iv (.own b e sz rows)::rest/\(∀r∈rows,∀x∈r,Full x)/\(∀c∈rest,a7O c)/\∀g cap,b=some (g,cap)->B'<=g/\g∉bY rows/\∀c∈rest,g∉b1A c) :
  ACI P g avs H (λx H'=>∃B' E b rows rest,B<=B'/\B'<=E/\R B' E (.iv (.own b e sz rows)::rest)/\x=pG (.hs k 1::rest.map CV.av)/\H'=bW (bW H k (.blk false 1 e sz rows)) 999 (.mrk E)):=by
 refine⟨?_,λG M w0 D0 N f β a w vs R0 hall=>?_⟩
 .obtain⟨E,res,hE,hr⟩:=h.1 B;obtain⟨b,rows,rest,rfl,_⟩:=hR _ _ _ hr;exact⟨_,_,B,E,b,rows,rest,Nat.le_refl _,hE,hr,rfl,rfl⟩
 have hEw:=R0.mrk _ _ hB;have hrep:=kW R0 hall ht hc;refine qL.mono (h.2 w (DD H β D0) vs (λb hb=>R0.b7C hb) hrep) λv w' ⟨hb,us,res,hv,hr,Qh⟩=>?_;obtain⟨b,rows,rest,rfl,hf,hfr,hid⟩:=hR _ _ _ hr
 match us,Qh with
 |[],Qh=>exact Qh.elim
 |u::us,⟨hu,Qh⟩ =>
 have hu:Rep w' (DD H β D0) (.own b e sz rows) u:=hu;have hown:=Yh (B:=w.heap.size) hu hf λg cap e=>⟨(hid g cap e).1,(hid g cap e).2.1⟩
 have hk9:(999:Nat)≠k:=λe=>by rw[<-e,hB]at hk;cases hk
 obtain⟨β',hβ,b7h,R'⟩:=R0.fresh (w':=w') (h:=k) (v:=u) (dst:=none) (x:=.dead) (val:=Go.undef) (st:=1) (by rw[hk];simp[HC.stamp]) hb.os hb.tape hb.output hb.size (λk hk=>hb.block k hk) hown (λ_ _ _=>by simp[ak]) (by simp);have R2:=R'.JM (h:=999) (B:=B) (E:=w'.heap.size) (by rw[aB _ _ hk9];exact hB) (Nat.le_refl _);refine⟨_,_,β',⟨w.heap.size,w'.heap.size,b,rows,rest,hEw,hb.size,hr,rfl,rfl⟩,R2,?_⟩;subst hv;have hDD:∀q,DD (bW (bW H k (.blk false 1 e sz rows)) 999 (.mrk w'.heap.size)) β' D0 q->DD H β D0 q\/aF u=some q:=by
  rintro q (hq|⟨h,hm,hq⟩)
  .exact .inl (.inl hq)
  .by_cases e9:h=999
   .subst e9;rw[aA]at hm;exact hm.elim
   .rw[aB _ _ e9]at hm;by_cases ek:h=k
    .subst ek;rw[hβ]at hq;exact .inr hq
    .rw[aB _ _ ek]at hm;rw[b7h h ek]at hq;exact .inl (.inr ⟨h,hm,hq⟩)
 refine wX _ _ ?_;simp only[aG];refine⟨?_,?_⟩
 .simp only[ak,aB _ _ (λe=>hk9 e.symm),aA,HC.stamp];exact⟨Nat.le_refl _,λ_=>hβ.symm⟩
 .have key:∀(rest:List CV) (us:List Value),dU w' (DD H β D0) rest us->(∀c∈rest,a7O c)->(∀q,aF u=some q->∀c∈rest,q∉b1A c)->dU w' (DD (bW (bW H k (.blk false 1 e sz rows)) 999 (.mrk w'.heap.size)) β' D0) rest us:=by
   intro rest
   induction rest with
   |nil=>intro us h _ _;cases us with
    |nil=>trivial
    |cons=>exact h.elim
   |cons c cs ih =>
    intro us h h2 h3;cases us with
    |nil=>exact h.elim
    |cons v vs =>
     refine⟨h.1.full (h2 c (by simp)) λq hq hd=>?_,ih vs h.2 (λc hc=>h2 c (by simp[hc])) λq hq c hc=>h3 q hq c (by simp[hc])⟩;rcases hDD q hd with hd|hd
     .exact(h.1.ids q hq).1 hd
     .exact h3 q hd c (by simp) hq
  refine yj (key rest us Qh hfr λq hq c hc=>?_);cases hu with
  |O9=>cases hq
  |own rows g cap e sz cur hsz hlen hcap hg hD hcs hr' =>
   simp only[aF,Option.some.injEq]at hq;subst hq;exact(hid g cap rfl).2.2 c hc
end
end Go.AL
