/-
 Contracts of the functions that the law reaches.
-/
import Derived.Test.YtdpngipofekcfaaGreatAbsYM
namespace Go.AL
variable {zi:Zi}
open Go.RowKit
set_option linter.unusedSimpArgs false
set_option linter.unusedVariables false
def a1T:CV→Prop
 | .iv x=>Full x
 | .agg cs=>∀ x∈cs,Full x
 | _=>False
def a4X:CV→List Nat
 | .iv x=>x.ids
 | .agg cs=>gX cs
 | _=>[]
theorem dI.ids {w:World}{D:Nat→Prop}:∀ {xs:List IV} {vs:List Value},dI w D xs vs→∀ g∈gX xs,¬D g∧g<w.heap.size
 | [],[],_,g,hg=>by simp[gX]at hg
 | x::xs,v::vs,h,g,hg=>by
  simp only[gX,List.mem_append]at hg;exact hg.elim (fun hg=>h.1.ids g hg) fun hg=>dI.ids h.2 g hg
 | [],_::_,h,_,_=>h.elim
 | _::_,[],h,_,_=>h.elim
theorem iE.ids {w:World}{D:Nat→Prop}{c:CV}{v:Value}(h:iE w D c v):∀ g∈a4X c,¬D g∧g<w.heap.size:=by
 cases c with
 | iv x=>exact Rep.ids h
 | agg cs=>obtain⟨a,rfl,hr⟩:=h;exact hr.ids
 | val u=>intro g hg;cases hg
 | box cs=>intro g hg;cases hg
 | fn k caps=>intro g hg;cases hg
 | any=>intro g hg;cases hg
theorem iE.full {w:World}{D D':Nat→Prop}{c:CV}{v:Value}(h:iE w D c v)(hf:a1T c)(hk:∀ g∈a4X c,¬D' g):iE w D' c v:=by
 cases c with
 | iv x=>exact Rep.full h hf fun g hg=>⟨rfl,hk g hg⟩
 | agg cs=>obtain⟨a,rfl,hr⟩:=h;exact⟨a,rfl,hr.full hf fun g hg=>⟨rfl,hk g hg⟩⟩
 | val u=>exact hf.elim
 | box cs=>exact hf.elim
 | fn k caps=>exact hf.elim
 | any=>exact hf.elim
section
variable {G:Gh} {M:Nat→Prop} {w0:World} {D0:Nat→Prop} {N:Nat} {P:Program} {f:Fr} {H:Hp} {β:Nat→Value} {a:Act} {w:World}
theorem U7 {D:Nat→Prop}{w':World}{B:Nat}{b:Option (Nat×Nat)}{e sz:Nat}{rows:List (List IV)}{u:Value}(hu:Rep w' D (.own b e sz rows) u)(hf:∀ r∈rows,∀ x∈r,Full x)
  (hid:∀ g cap,b=some (g,cap)→B≤g∧g∉bf rows):Own w' (fun b=>D b∨aG u=some b) B (fun _=>False) u e sz rows:=by
 cases hu with
 | CX=>exact⟨by simp,.inl ⟨rfl,rfl⟩⟩
 | own rows g cap e sz cur hsz hlen hcap hg hD hcs hr =>
  obtain⟨h1,h2⟩:=hid g cap rfl;have hsz':∀ r∈rows,r.length=sz:=fun r hr'=>by
   obtain⟨i,hi⟩:=List.getElem?_of_mem hr';exact hsz i r hi
  refine⟨hsz',.inr ⟨g,cap,cur,rfl,.inl h1,hg,hlen,hcap,hcs,qo hsz' (by rw[hcs];exact Nat.mul_le_mul_right _ hlen) fun i r hi j x hj=>?_⟩⟩;refine(hr i r hi j x hj).full (hf r (List.mem_of_getElem? hi) x (List.mem_of_getElem? hj)) fun k hk=>⟨rfl,?_⟩;rintro(h|h)
  ·exact((hr i r hi j x hj).ids k hk).1 h
  ·simp only[aG,Option.some.injEq]at h;subst h;exact h2 (mV.2 ⟨r,List.mem_of_getElem? hi,fP.2 ⟨x,List.mem_of_getElem? hj,hk⟩⟩)
theorem ACX.aci {g:Nat}{args:List CV}{R:Nat→Nat→List CV→Prop}(h:ACX P g args R){avs:List AV}{c:Prop}{B k e sz:Nat}(ht:gQ H avs=some (c,args,[]))(hc:c)(hB:H 999=.mrk B)(hk:H k=.none)
  (hR:∀ B' E res,R B' E res→∃ b rows rest,res=.iv (.own b e sz rows)::rest∧(∀ r∈rows,∀ x∈r,Full x)∧(∀ c∈rest,a1T c)∧∀ g cap,b=some (g,cap)→B'≤g∧g∉bf rows∧∀ c∈rest,g∉a4X c) :
  ACI P g avs H (fun x H'=>∃ B' E b rows rest,B≤B'∧B'≤E∧R B' E (.iv (.own b e sz rows)::rest)∧x=lS (.hs k 1::rest.map CV.av)∧H'=bg (bg H k (.blk false 1 e sz rows)) 999 (.mrk E)):=by
 refine⟨?_,fun G M w0 D0 N f β a w vs R0 hall=>?_⟩
 ·obtain⟨E,res,hE,hr⟩:=h.1 B;obtain⟨b,rows,rest,rfl,_⟩:=hR _ _ _ hr;exact⟨_,_,B,E,b,rows,rest,Nat.le_refl _,hE,hr,rfl,rfl⟩
 have hEw:=R0.mrk _ _ hB;have hrep:=kJ R0 hall ht hc;refine nG.mono (h.2 w (DD H β D0) vs (fun b hb=>R0.a9f hb) hrep) fun v w' ⟨hb,us,res,hv,hr,LQ⟩=>?_;obtain⟨b,rows,rest,rfl,hf,hfr,hid⟩:=hR _ _ _ hr
 match us,LQ with
 | [],LQ=>exact LQ.elim
 | u::us,⟨hu,LQ⟩ =>
 have hu:Rep w' (DD H β D0) (.own b e sz rows) u:=hu;have hown:=U7 (B:=w.heap.size) hu hf fun g cap e=>⟨(hid g cap e).1,(hid g cap e).2.1⟩
 have hk9:(999:Nat)≠k:=fun e=>by rw[← e,hB]at hk;cases hk
 obtain⟨β',hβ,a8P,R'⟩:=R0.fresh (w':=w') (h:=k) (v:=u) (dst:=none) (x:=.dead) (val:=Go.undef) (st:=1) (by rw[hk];simp[HC.stamp]) hb.os hb.tape hb.output hb.size (fun k hk=>hb.block k hk) hown (fun _ _ _=>by simp[aj]) (by simp);have R2:=R'.Fp (h:=999) (B:=B) (E:=w'.heap.size) (by rw[ak _ _ hk9];exact hB) (Nat.le_refl _);refine⟨_,_,β',⟨w.heap.size,w'.heap.size,b,rows,rest,hEw,hb.size,hr,rfl,rfl⟩,R2,?_⟩;subst hv;have hDD:∀ q,DD (bg (bg H k (.blk false 1 e sz rows)) 999 (.mrk w'.heap.size)) β' D0 q→DD H β D0 q∨aG u=some q:=by
  rintro q (hq|⟨h,hm,hq⟩)
  ·exact .inl (.inl hq)
  ·by_cases e9:h=999
   ·subst e9;rw[au]at hm;exact hm.elim
   ·rw[ak _ _ e9]at hm;by_cases ek:h=k
    ·subst ek;rw[hβ]at hq;exact .inr hq
    ·rw[ak _ _ ek]at hm;rw[a8P h ek]at hq;exact .inl (.inr ⟨h,hm,hq⟩)
 refine rO _ _ ?_;simp only[aF];refine⟨?_,?_⟩
 ·simp only[aj,ak _ _ (fun e=>hk9 e.symm),au,HC.stamp];exact⟨Nat.le_refl _,fun _=>hβ.symm⟩
 ·have key:∀ (rest:List CV) (us:List Value),dM w' (DD H β D0) rest us→(∀ c∈rest,a1T c)→(∀ q,aG u=some q→∀ c∈rest,q∉a4X c)→dM w' (DD (bg (bg H k (.blk false 1 e sz rows)) 999 (.mrk w'.heap.size)) β' D0) rest us:=by
   intro rest
   induction rest with
   | nil=>intro us h _ _;cases us with
    | nil=>trivial
    | cons=>exact h.elim
   | cons c cs ih =>
    intro us h h2 h3;cases us with
    | nil=>exact h.elim
    | cons v vs =>
     refine⟨h.1.full (h2 c (by simp)) fun q hq hd=>?_,ih vs h.2 (fun c hc=>h2 c (by simp[hc])) fun q hq c hc=>h3 q hq c (by simp[hc])⟩;rcases hDD q hd with hd|hd
     ·exact(h.1.ids q hq).1 hd
     ·exact h3 q hd c (by simp) hq
  refine uq (key rest us LQ hfr fun q hq c hc=>?_);cases hu with
  | CX=>cases hq
  | own rows g cap e sz cur hsz hlen hcap hg hD hcs hr' =>
   simp only[aG,Option.some.injEq]at hq;subst hq;exact(hid g cap rfl).2.2 c hc
end
end Go.AL
