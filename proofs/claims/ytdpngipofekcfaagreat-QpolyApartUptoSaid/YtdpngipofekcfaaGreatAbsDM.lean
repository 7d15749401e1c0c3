/-
 The abstract logic: a list of operations.
-/
import Derived.Test.YtdpngipofekcfaaGreatAbsA2M
namespace Go.AL
variable {zi:Zi}
open Go.RowKit
set_option linter.unusedSimpArgs false
set_option linter.unusedVariables false
abbrev Log:=List (List Nat×List Nat)
def a7N (P:Program)(g:Nat)(avs:List AV)(d:Nat)(K:Fr→Hp→Log→Prop)(f:Fr)(H:Hp)(lg:Log):Prop :=
 ∃ (c:Prop) (args:List CV) (ms:List Nat) (own:gY) (res:List CV) (fz:Bool),(gQ H avs=some (c,args,ms)∨uN H avs=some (c,args,ms))∧c∧AC P g args own res∧(fz=false→ms=[]∨sO own res) ∧
  (let H':=if fz then aC ms H else H
   K (upd f d (lS (rAV H' d own 0 res))) (bU (EH H' d own) H') ((ms++(EH H' d own).map (·.1),(if fz then ms else [])++(EH H' d own).map (·.1))::lg))
def a7L (P:Program)(g:Nat)(avs:List AV)(d:Nat)(K:Fr→Hp→Log→Prop)(f:Fr)(H:Hp)(lg:Log):Prop :=
 ∃ (c:Prop) (args:List CV) (ms:List Nat) (i h st e sz:Nat) (rows rows':List (List IV)) (res:List CV),avs[i]?=some (.hs h st)∧H h=.blk false st e sz rows∧gQ H (avs.set i .dead)=some (c,args,ms)∧c∧h∉ms ∧
  ACW P g args i e sz rows rows' res ∧
  K (upd f d (lS (res.map CV.av))) (bg (aC ms H) h (.blk false st e sz rows')) ((h::ms,ms++[h])::lg)
def a7M (P:Program)(g:Nat)(avs:List AV)(d:Nat)(K:Fr→Hp→Log→Prop)(f:Fr)(H:Hp)(lg:Log):Prop :=
 ∃ (c:Prop) (args:List CV) (ms:List Nat) (i h st e sz:Nat) (rows rows':List (List IV)),avs[i]?=some (.hs h st)∧H h=.blk false st e sz rows∧gQ H (avs.set i .dead)=some (c,args,ms)∧c∧h∉ms ∧
  ACT P g args i e sz rows rows' ∧
  K (upd f d (.hs h (st+1))) (bg (aC ms H) h (.blk false (st+1) e sz rows')) ((h::ms,ms++[h])::lg)
def a3b (P:Program)(g:Nat)(avs:List AV)(d:Nat)(K:Fr→Hp→Log→Prop)(f:Fr)(H:Hp)(lg:Log):Prop :=
 ∃ (c:Prop) (args:List CV) (ms:List Nat) (B:Nat) (R:Nat→Nat→List CV→Prop),gQ H avs=some (c,args,ms)∧c∧H 999=.mrk B∧ACX P g args R ∧
  ∀ B' E res,B≤B'→B'≤E→R B' E res→K (upd f d (lS (res.map CV.av))) (bg (aC ms H) 999 (.mrk E)) ((999::ms,ms++[999])::lg)
def ACI (P:Program)(g:Nat)(avs:List AV)(H:Hp)(Z:AV→Hp→Prop):Prop :=
 (∃ x H',Z x H')∧∀ (G:Gh) (M:Nat→Prop) (w0:World) (D0:Nat→Prop) (N:Nat) (f:Fr) (β:Nat→Value) (a:Act) (w:World) (vs:List Value),Rel G M w0 D0 N f H β a w→jg w (DD H β D0) H β avs vs →
  nG P g vs w fun v w'=>∃ x H' β',Z x H'∧Rel G M w0 D0 N f H' β' a w'∧aj w' (DD H' β' D0) H' β' x v
def a3e (P:Program)(g:Nat)(avs:List AV)(d:Nat)(K:Fr→Hp→Log→Prop)(f:Fr)(H:Hp)(lg:Log):Prop :=
 ∃ Z,ACI P g avs H Z∧∀ x H',Z x H'→K (upd f d x) H' (([],[998])::lg)
def ACF (P:Program)(g:Nat)(avs:List AV)(H:Hp)(rd:List Nat)(R:AV→List (Nat×HC)→Prop):Prop :=
 (∃ x hs,R x hs)∧∀ (H2:Hp),(∀ h∈rd,H2 h=H h)→∀ (G:Gh) (M:Nat→Prop) (w0:World) (D0:Nat→Prop) (N:Nat) (f:Fr) (β:Nat→Value) (a:Act) (w:World) (vs:List Value),Rel G M w0 D0 N f H2 β a w→jg w (DD H2 β D0) H2 β avs vs →
  nG P g vs w fun v w'=>∃ x hs β',R x hs∧Rel G M w0 D0 N f (bU hs H2) β' a w'∧aj w' (DD (bU hs H2) β' D0) (bU hs H2) β' x v
def a3f (P:Program)(g:Nat)(avs:List AV)(d:Nat)(K:Fr→Hp→Log→Prop)(f:Fr)(H:Hp)(lg:Log):Prop :=
 ∃ (rd:List Nat) (R:AV→List (Nat×HC)→Prop),ACF P g avs H rd R∧∀ x hs,R x hs→(∀ k∈hs.map (·.1),k∈rd)∧999∈hs.map (·.1)∧K (upd f d x) (bU hs H) ((rd,hs.map (·.1))::lg)
def jr (P:Program)(g:Nat)(avs:List AV)(d:Nat)(K:Fr→Hp→Log→Prop)(f:Fr)(H:Hp)(lg:Log):Prop :=
 a7N P g avs d K f H lg∨a7L P g avs d K f H lg∨a7M P g avs d K f H lg∨a3b P g avs d K f H lg∨a3e P g avs d K f H lg∨a3f P g avs d K f H lg
def yg (P:Program)(v:AV)(avs:List AV)(d:Nat)(K:Fr→Hp→Log→Prop)(f:Fr)(H:Hp)(lg:Log):Prop :=
 match v with
 | .fn g l=>jr P g (avs++l) d K f H lg
 | _=>False
def Jy [Zi] (P:Program)(t n:Nat)(idx:List Nat)(xs:List AV)(d:Nat)(K:Fr→Hp→Log→Prop)(f:Fr)(H:Hp)(lg:Log):Prop :=
 ∃ e c css fz B,(ti P t).desc=.sl e∧kX H xs=some (c,css,fz)∧(c∧(ti P e).ok=true∧(ti P e).zok=true∧n*(ti P e).size≤16777216∧(∀ cs∈css,cs.length=(ti P e).size)∧idx=List.range n)∧H 999=.mrk B ∧
  ∀ B' E b,B≤B'→B'≤E→(b=none→css=[])→(∀ g cap,b=some (g,cap)→B'≤g∧g<E∧g∉bf css)→K (upd f d (.iv (.own b e (ti P e).size css))) (bg (aC fz H) 999 (.mrk E)) ((999::fz,fz++[999])::lg)
def JB [zi:Zi] (P:Program)(o:Oper)(K:Fr→Hp→Log→Prop)(f:Fr)(H:Hp)(lg:Log):Prop :=
 match o.op,o.dst with
 | .call ⟨.value x,args,_⟩,some d=>yg P (ev f x) (args.toList.map (ev f)) d K f H lg
 | .buildSlice t n ps,some d=>match zi.bs d with
  | true=>Jy P t n (ps.toList.map (·.1)) (ps.toList.map fun p=>ev f p.2) d K f H lg
  | false=>match lZ P (.buildSlice t n ps) (some d) f H with
   | some r=>r.c∧K (ji f (some d) r.v) (bU r.hs (aC r.fz H)) ((r.rd++r.fz++r.hs.map (·.1),r.fz++r.hs.map (·.1))::lg)
   | none=>False
 | op,d=>match lZ P op d f H with
  | some r=>r.c∧K (ji f d r.v) (bU r.hs (aC r.fz H)) ((r.rd++r.fz++r.hs.map (·.1),r.fz++r.hs.map (·.1))::lg)
  | none=>False
def eP [Zi] (P:Program)(ds:List (Option Nat)):List Oper→(Fr→Hp→Log→Prop)→Fr→Hp→Log→Prop
 | [],K,f,H,lg=>K f H lg
 | o::rest,K,f,H,lg =>
  match o.guard with
  | none=>JB P o (eP P ds rest K) f H lg
  | some (j,want)=>match (ds.getD j none).map f with
   | some (.iv (.bool b))=>if b=want then JB P o (eP P ds rest K) f H lg else eP P ds rest K (ji f o.dst .undef) H (([],[])::lg)
   | some .undef=>eP P ds rest K (ji f o.dst .undef) H (([],[])::lg)
   | _=>False
structure Up where
 v:AV
 fz:List Nat
 hs:List (Nat×HC)
def Up.f (u:Up)(d:Option Nat)(f:Fr):Fr:=ji f d u.v
def Up.h (u:Up)(H:Hp):Hp:=bU u.hs (aC u.fz H)
def Sim (P:Program)(o:Oper)(f:Fr)(H:Hp)(rd:List Nat)(u:Up):Prop :=
 ∀ (f2:Fr) (H2:Hp),(∀ x∈o.op.operands,ev f2 x=ev f x)→(∀ h∈rd,H2 h=H h) →
  ∀ (G:Gh) (M:Nat→Prop) (w0:World) (D0:Nat→Prop) (N:Nat) (β:Nat→Value) (a:Act) (w:World),(∀ d,o.dst=some d→d<N)→Rel G M w0 D0 N f2 H2 β a w →
   ∀ (K:Act→World→Prop) (Q:Exit→Act→World→Prop),(∀ a' w' β',Rel G M w0 D0 N (u.f o.dst f2) (u.h H2) β' a' w'→K a' w')→∀ ro,o.wpIn (Wd ro) 0 P a w K Q
section
variable {P:Program} {f f2:Fr} {H H2:Hp}
theorem nT {x:AV}{r:Prop×List IV×List Nat}(h:oO H x=some r)(hH:∀ k∈r.2.2,H2 k=H k):oO H2 x=some r:=by
 unfold oO at h ⊢;split at h
 ·exact h
 ·exact h
 ·exact h
 ·rename_i k st;cases hk:H k<;>rw[hk]at h<;>simp only[Option.some.injEq,reduceCtorEq]at h;subst h;simp only[hH k (by simp),hk]
 ·rename_i k st off len;cases hk:H k<;>rw[hk]at h<;>simp only[Option.some.injEq,reduceCtorEq]at h;subst h;simp only[hH k (by simp),hk]
 ·cases h
theorem nS:∀ {xs:List AV} {r:Prop×List (List IV)×List Nat},kX H xs=some r→(∀ k∈r.2.2,H2 k=H k)→kX H2 xs=some r
 | [],r,h,_=>h
 | x::xs,r,h,hH=>by
  simp only[kX]at h ⊢;split at h
  ·rename_i c cs fz c' css fz' h1 h2;injection h with h;subst h;rw[nT h1 fun k hk=>hH k (by simp[hk]),nS h2 fun k hk=>hH k (by simp[hk])]
  ·cases h
theorem jU {x:AV}{r:Prop×List (List IV)×List Nat}(h:fO H x=some r)(hH:∀ k∈r.2.2,H2 k=H k):fO H2 x=some r:=by
 unfold fO at h ⊢;split at h
 ·exact h
 ·exact h
 ·exact h
 ·rename_i k st;cases hk:H k<;>rw[hk]at h<;>simp only[Option.some.injEq,reduceCtorEq]at h;subst h;simp only[hH k (by simp),hk]
 ·rename_i k st off len;cases hk:H k<;>rw[hk]at h<;>simp only[Option.some.injEq,reduceCtorEq]at h;subst h;simp only[hH k (by simp),hk]
 ·cases h
theorem BN {x:AV}{r:Prop×List IV×List Nat}(h:JZ H x=some r)(hH:∀ k∈r.2.2,H2 k=H k):JZ H2 x=some r:=by
 unfold JZ at h ⊢;split at h
 ·exact h
 ·rename_i k st i off;cases hk:H k<;>rw[hk]at h<;>simp only[Option.some.injEq,reduceCtorEq]at h;subst h;simp only[hH k (by simp),hk]
 ·cases h
theorem vW:∀ {xs:List AV} {r:Prop×List (List IV)×List Nat},lC H xs=some r→(∀ k∈r.2.2,H2 k=H k)→lC H2 xs=some r
 | [],r,h,_=>h
 | x::xs,r,h,hH=>by
  simp only[lC]at h ⊢;split at h
  ·rename_i c cs fz c' css fz' h1 h2;injection h with h;subst h;rw[BN h1 fun k hk=>hH k (by simp[hk]),vW h2 fun k hk=>hH k (by simp[hk])]
  ·cases h
theorem tH {x:AV}{r:Prop×CV×List Nat}(h:tJ H x=some r)(hH:∀ k∈r.2.2,H2 k=H k):tJ H2 x=some r:=by
 unfold tJ at h ⊢;split at h
 ·exact h
 ·exact h
 ·split at h
  ·rename_i hb;injection h with h;subst h;rw[BN hb fun k hk=>hH k hk]
  ·cases h
 ·split at h
  ·rename_i hb;injection h with h;subst h;rw[vW hb fun k hk=>hH k hk]
  ·cases h
 ·exact h
 ·exact h
 ·exact h
 ·rename_i k st;cases hk:H k<;>rw[hk]at h<;>simp only[Option.some.injEq,reduceCtorEq]at h;subst h;simp only[hH k (by simp),hk]
 ·rename_i k st off len;cases hk:H k<;>rw[hk]at h<;>simp only[Option.some.injEq,reduceCtorEq]at h;subst h;simp only[hH k (by simp),hk]
 ·cases h
theorem mM:∀ {xs:List AV} {r:Prop×List CV×List Nat},gQ H xs=some r→(∀ k∈r.2.2,H2 k=H k)→gQ H2 xs=some r
 | [],r,h,_=>h
 | x::xs,r,h,hH=>by
  simp only[gQ]at h ⊢;split at h
  ·rename_i c cs fz c' css fz' h1 h2;injection h with h;subst h;rw[tH h1 fun k hk=>hH k (by simp[hk]),mM h2 fun k hk=>hH k (by simp[hk])]
  ·cases h
theorem vJ:∀ {xs:List AV} {r:Prop×List (List IV)×List Nat},yP H xs=some r→(∀ k∈r.2.2,H2 k=H k)→yP H2 xs=some r
 | [],r,h,_=>h
 | x::xs,r,h,hH=>by
  simp only[yP]at h ⊢;split at h
  ·rename_i k s;split at h
   ·rename_i fz s' e sz rr hk;split at h
    ·rename_i c rs ms hn;injection h with h;subst h;simp only[hH k (by simp),hk,vJ hn fun q hq=>hH q (by simp[hq])]
    ·cases h
   ·cases h
  ·cases h
theorem QA {h:Nat}{x:AV}{r:Prop×CV×List Nat}(hr:tJ H x=some r)(hx:(∃ st,x=.hs h st)∨∃ st off len,x=.hv h st off len):h∈r.2.2:=by
 rcases hx with ⟨st,rfl⟩|⟨st,off,len,rfl⟩
 ·simp only[tJ]at hr;split at hr
  ·injection hr with hr;subst hr;simp
  ·cases hr
 ·simp only[tJ]at hr;split at hr
  ·injection hr with hr;subst hr;simp
  ·cases hr
theorem O9 {x:AV}{r:Prop×CV×List Nat}(h:Tz H x=some r)(hH:∀ k∈r.2.2,H2 k=H k):Tz H2 x=some r:=by
 unfold Tz at h ⊢;split at h
 ·exact h
 ·rename_i k st;split at h
  ·rename_i st' e rows hk;split at h
   ·rename_i c rs ms hn;injection h with h;subst h;simp only[hH k (by simp),hk,vJ hn fun q hq=>hH q (by simp[hq])]
   ·cases h
  ·rename_i hne;have hkk:H2 k=H k:=hH k (QA h (.inl ⟨_,rfl⟩));have hold:=tH h hH;simp only[hkk];exact hold
 ·rename_i k st off len;split at h
  ·rename_i st' e rows hk;split at h
   ·rename_i c rs ms hn;injection h with h;subst h;simp only[hH k (by simp),hk,vJ hn fun q hq=>hH q (by simp[hq])]
   ·cases h
  ·rename_i hne;have hkk:H2 k=H k:=hH k (QA h (.inr ⟨_,_,_,rfl⟩));have hold:=tH h hH;simp only[hkk];exact hold
 ·exact tH h hH
theorem zF:∀ {xs:List AV} {r:Prop×List CV×List Nat},uN H xs=some r→(∀ k∈r.2.2,H2 k=H k)→uN H2 xs=some r
 | [],r,h,_=>h
 | x::xs,r,h,hH=>by
  simp only[uN]at h ⊢;split at h
  ·rename_i c cs fz c' css fz' h1 h2;injection h with h;subst h;rw[O9 h1 fun k hk=>hH k (by simp[hk]),zF h2 fun k hk=>hH k (by simp[hk])]
  ·cases h
def Agree (r:AR)(H H2:Hp):Prop:=∀ k,k∈r.rd∨k∈r.fz∨k∈r.hs.map (·.1)→H2 k=H k
theorem kT {T:TI}{x:AV}{r:AR}(h:pV T H x=some r)(hH:Agree r H H2):pV T H2 x=some r:=by
 unfold pV at h ⊢;split at h
 ·exact h
 ·rename_i k st i off;cases hk:H k<;>rw[hk]at h<;>simp only[reduceCtorEq]at h
  ·have hr:r.rd=[k]:=by
    split at h<;>(injection h with h;subst h;rfl)
   simp only[hH k (.inl (by simp[hr])),hk];exact h
  ·have hr:r.rd=[k]:=by
    split at h
    ·injection h with h;subst h;rfl
    ·split at h
     ·injection h with h;subst h;rfl
     ·cases h
   simp only[hH k (.inl (by simp[hr])),hk];exact h
 ·cases h
theorem Lu {g:Nat→Nat→Nat→Option Nat}{T:TI}{x:AV}{r:AR}(h:FV g T H x=some r)(hH:Agree r H H2):FV g T H2 x=some r:=by
 unfold FV at h ⊢;cases x with
 | hp h0 st i off =>
  simp only at h ⊢;cases hg:g h0 i off with
  | none=>rw[hg]at h;simp only at h ⊢;exact kT h hH
  | some s =>
   rw[hg]at h;simp only at h ⊢;split at h
   ·rename_i r' y v hr' hs;injection h with h;subst h;have e1:=kT hr' fun k hk=>hH k (hk.imp (fun h=>List.mem_cons_of_mem _ h) id)
    have e2:=(hH _ (.inl (List.mem_cons_self ..))).trans hs;simp only[e1,e2]
   ·cases h
 | _=>exact kT h hH
theorem Ad {T:TI}{x y:AV}{r:AR}(h:xP T H x y=some r)(hH:Agree r H H2):xP T H2 x y=some r:=by
 unfold xP at h ⊢;split at h
 ·rename_i k st i off c cells fz ht;cases hk:H k with
  | none=>rw[hk]at h;cases h
  | nst=>rw[hk]at h;cases h
  | gone=>rw[hk]at h;cases h
  | mrk=>rw[hk]at h;cases h
  | tie=>rw[hk]at h;cases h
  | blk fz' st' e sz rows =>
   rw[hk]at h;cases fz' with
   | true=>cases h
   | false =>
    simp only[Option.some.injEq]at h;subst h;rw[nT ht fun k' hk'=>hH k' (.inr (.inl hk'))];simp only[hH k (.inl (by simp)),hk]
 ·cases h
theorem OT {x:AV}{r:Prop×List Nat}(h:OU H x=some r)(hH:∀ k∈r.2,H2 k=H k):OU H2 x=some r:=by
 unfold OU at h ⊢;split at h
 ·exact h
 ·exact h
 ·rename_i k s;have hk:H2 k=H k:=by
   split at h
   ·injection h with h;subst h;exact hH k (by simp)
   ·injection h with h;subst h;exact hH k (by simp)
   ·cases h
  simp only[hk];exact h
 ·rename_i k s off len;have hk:H2 k=H k:=by
   split at h
   ·injection h with h;subst h;exact hH k (by simp)
   ·cases h
  simp only[hk];exact h
 ·cases h
theorem Je {T:TI}{x y:AV}{r:AR}(h:sJ T H x y=some r)(hH:Agree r H H2):sJ T H2 x y=some r:=by
 unfold sJ at h ⊢;split at h
 ·rename_i k st i off;split at h
  ·rename_i st' e rows hk;split at h
   ·injection h with h;subst h;simp only[hH k (.inl (by simp)),hk]
   split at h
   ·rename_i c rd ho;injection h with h;subst h;rw[OT ho fun k hk=>hH k (.inl (by simp[hk]))];simp only[hH k (.inl (by simp)),hk]
   ·cases h
  ·rename_i hne;have hold:=Ad h hH;have hkk:H2 k=H k:=by
    unfold xP at h;split at h
    ·rename_i heq _;injection heq with e1 e2 e3 e4;subst e1 e2 e3 e4;split at h
     ·injection h with h;subst h;exact hH k (.inl (by simp))
     ·cases h
    ·cases h
   rw[hkk];split
   ·rename_i st' e rows hk;exact(hne st' e rows hk).elim
   ·exact hold
 ·exact Ad h hH
theorem Nr {T:TI}{e d:Nat}{r:AR}(h:Et T H e d=some r)(hH:Agree r H H2):Et T H2 e d=some r:=by
 unfold Et uS at h ⊢;simp only[Option.some.injEq]at h;subst h;rw[hH d (.inr (.inr (by simp)))]
theorem Ux {T:TI}{e d:Nat}{x:AV}{r:AR}(h:a5z T H e d x=some r)(hH:Agree r H H2):a5z T H2 e d x=some r:=by
 unfold a5z uS at h ⊢;split at h
 ·rename_i c cells fz ht;simp only[Option.some.injEq]at h;subst h;rw[nT ht fun k' hk'=>hH k' (.inr (.inl hk'))];simp only[hH d (.inr (.inr (by simp)))]
 ·cases h
theorem Jj {T:TI}{e d:Nat}{r:AR}(h:sN T H e d=some r)(hH:Agree r H H2):sN T H2 e d=some r:=by
 unfold sN at h ⊢;split at h
 ·simp only[Option.some.injEq]at h;subst h;simp only[hH d (.inr (.inr (by simp)))]
 ·exact Nr h hH
theorem Qd {T:TI}{e d:Nat}{x:AV}{r:AR}(h:Nl T H e d x=some r)(hH:Agree r H H2):Nl T H2 e d x=some r:=by
 unfold Nl at h ⊢;split at h
 ·split at h
  ·rename_i c cells fz ht;simp only[Option.some.injEq]at h;subst h;rw[nT ht fun k' hk'=>hH k' (.inr (.inl hk'))];simp only[hH d (.inr (.inr (by simp)))]
  ·cases h
 ·exact Ux h hH
theorem Q5 {T:TI}{e d:Nat}{x y:AV}{r:AR}(h:Na T H e d x y=some r)(hH:Agree r H H2):Na T H2 e d x y=some r:=by
 unfold Na at h ⊢;split at h
 ·simp only[Option.some.injEq]at h;subst h;simp only[hH d (.inr (.inr (by simp)))]
 ·cases h
theorem Nk {T:TI}{idx:List Nat}{xs:List AV}{r:AR}(h:Ag T H idx xs=some r)(hH:Agree r H H2):Ag T H2 idx xs=some r:=by
 unfold Ag at h ⊢;split at h
 ·rename_i fs c css fz hd ht;split at h
  ·rename_i c' r' hl;simp only[Option.some.injEq]at h;subst h;rw[nS ht fun k' hk'=>hH k' (.inr (.inl hk'))];simp only[hd,hl]
  ·cases h
 ·cases h
theorem pW {T:TI}{e d n:Nat}{idx:List Nat}{xs:List AV}{r:AR}(h:iV T H e d n idx xs=some r)(hH:Agree r H H2):iV T H2 e d n idx xs=some r:=by
 unfold iV at h ⊢;split at h
 ·rename_i c css fz ht;simp only[Option.some.injEq]at h;subst h;rw[nS ht fun k' hk'=>hH k' (.inr (.inl hk'))];simp only[hH d (.inr (.inr (by simp)))]
 ·cases h
theorem xW {T:TI}{e d n:Nat}{idx:List Nat}{xs:List AV}{r:AR}(h:iq T H e d n idx xs=some r)(hH:Agree r H H2):iq T H2 e d n idx xs=some r:=by
 unfold iq at h ⊢;split at h
 ·rename_i k s;split at h
  ·rename_i hk;simp only[hk,if_true];exact pW h hH
  ·rename_i hk;simp only[hk,if_false];split at h
   ·rename_i hk2;injection h with h;subst h;simp only[hH k (.inl (by simp)),hk2,hH d (.inr (.inr (by simp)))]
   ·cases h
 ·exact pW h hH
theorem Nc {esz:Nat}{eok:Bool}{x i:AV}{r:AR}(h:Af esz eok H x i=some r)(hH:Agree r H H2):Af esz eok H2 x i=some r:=by
 unfold Af at h ⊢;split at h
 ·exact h
 ·exact h
 ·rename_i k st _ _;cases hk:H k<;>rw[hk]at h<;>simp only[Option.some.injEq,reduceCtorEq]at h <;>
  (subst h
   simp only[hH k (.inl (by simp)),hk])
 ·rename_i k st off len _ _;cases hk:H k<;>rw[hk]at h<;>simp only[Option.some.injEq,reduceCtorEq]at h <;>
  (subst h
   simp only[hH k (.inl (by simp)),hk])
 ·cases h
theorem Jh {n esz:Nat}{eok:Bool}{x i:AV}{r:AR}(h:sK n esz eok H x i=some r)(hH:Agree r H H2):sK n esz eok H2 x i=some r:=by
 unfold sK at h ⊢;split at h
 ·rename_i k st _ off _ _;simp only[Option.some.injEq]at h;subst h;simp only[hH k (.inl (by simp))]
 ·cases h
theorem Us {x:AV}{r:AR}(h:a5y H x=some r)(hH:Agree r H H2):a5y H2 x=some r:=by
 unfold a5y at h ⊢;split at h
 ·exact h
 ·exact h
 ·exact h
 ·rename_i k st;cases hk:H k<;>rw[hk]at h<;>simp only[Option.some.injEq,reduceCtorEq]at h <;>
  (subst h
   simp only[hH k (.inl (by simp)),hk])
 ·rename_i k st off len;cases hk:H k<;>rw[hk]at h<;>simp only[Option.some.injEq,reduceCtorEq]at h <;>
  (subst h
   simp only[hH k (.inl (by simp)),hk])
 ·cases h
theorem N9 {esz:Nat}{eok:Bool}{x:AV}{lo hi:Option AV}{r:AR}(h:Ae esz eok H x lo hi=some r)(hH:Agree r H H2):Ae esz eok H2 x lo hi=some r:=by
 unfold Ae at h ⊢;split at h
 ·exact h
 ·exact h
 ·rename_i k st;cases hk:H k<;>rw[hk]at h<;>simp only[reduceCtorEq]at h
  all_goals
   have hr:r.rd=[k]:=by
    split at h<;>simp only[Option.some.injEq,reduceCtorEq]at h;subst h;rfl
   simp only[hH k (.inl (by simp[hr])),hk];exact h
 ·cases h
theorem Ar {T:TI}{i:Nat}{x:AV}{r:AR}(h:jS T i H x=some r)(hH:Agree r H H2):jS T i H2 x=some r:=by
 unfold jS at h ⊢;split at h
 ·exact h
 ·rename_i fs k st _ off hd;split at h
  ·rename_i o sz hf;simp only[Option.some.injEq]at h;subst h;simp only[hH k (.inl (by simp))]
  ·cases h
 ·cases h
theorem Uo {x:AV}{r:AR}(h:a2T H x=some r)(hH:Agree r H H2):a2T H2 x=some r:=by
 unfold a2T at h ⊢;split at h
 ·exact h
 ·rename_i k st i off;simp only[Option.some.injEq]at h;subst h;simp only[hH k (.inl (by simp))]
 ·cases h
theorem xX {T:TI}{e d:Nat}{x y:AV}{r:AR}(h:nD T H e d x y=some r)(hH:Agree r H H2):nD T H2 e d x y=some r:=by
 unfold nD at h ⊢;split at h
 ·rename_i c src rd hs;split at h
  ·simp only[Option.some.injEq]at h;subst h;rw[jU hs fun k hk=>hH k (.inl hk)];simp only[hH d (.inr (.inr (by simp)))]
  ·rename_i k st;cases hk:H k with
   | none=>rw[hk]at h;cases h
   | nst=>rw[hk]at h;cases h
   | gone=>rw[hk]at h;cases h
   | mrk=>rw[hk]at h;cases h
   | tie=>rw[hk]at h;cases h
   | blk fz' st' e' sz rows =>
    rw[hk]at h;cases fz' with
    | true=>cases h
    | false =>
     simp only[Option.some.injEq]at h;subst h;rw[jU hs fun k' hk'=>hH k' (.inl (by simp[hk']))];simp only[hH k (.inl (by simp)),hk]
  ·cases h
 ·cases h
theorem EZ {T:TI}{e d:Nat}{x y:AV}{r:AR}(h:qL T H e d x y=some r)(hH:Agree r H H2):qL T H2 e d x y=some r:=by
 unfold qL at h ⊢;split at h
 ·rename_i k s;split at h
  ·rename_i s' e2 src hk;split at h
   ·injection h with h;subst h;simp only[hH k (.inl (by simp)),hk,hH d (.inr (.inr (by simp)))]
   ·rename_i h1 st;split at h
    ·rename_i hk2;injection h with h;subst h;simp only[hH k (.inl (by simp)),hk,hH h1 (.inl (by simp)),hk2]
    ·cases h
   ·cases h
  ·rename_i hne;have hold:=xX h hH;have hkk:H2 k=H k:=by
    unfold nD at h;split at h
    ·rename_i c src rd hs;have hrd:k∈rd:=by
      simp only[fO]at hs;split at hs
      ·injection hs with hs;injection hs with e1 e2;injection e2 with e2 e3;subst e3;simp
      ·cases hs
     split at h
     ·injection h with h;subst h;exact hH k (.inl hrd)
     ·split at h
      ·injection h with h;subst h;exact hH k (.inl (by simp[hrd]))
      ·cases h
     ·cases h
    ·cases h
   simp only[hkk];exact hold
 ·exact xX h hH
theorem F6 {T:TI}{e:Nat}{x y:AV}{r:AR}(h:qM T H e x y=some r)(hH:Agree r H H2):qM T H2 e x y=some r:=by
 unfold qM at h ⊢;split at h
 ·rename_i k st kq n;cases hk:H k with
  | blk fz st' e' sz rows =>
   rw[hk]at h;have hkk:H2 k=H k:=by
    cases fz with
    | false=>simp only at h;injection h with h;subst h;exact hH k (.inl (by simp))
    | true=>cases h
   simp only[hkk,hk];exact h
  | _=>rw[hk]at h;cases h
 ·cases h
theorem EX {T:TI}{e d:Nat}{x y:AV}{r:AR}(h:qK T H e d x y=some r)(hH:Agree r H H2):qK T H2 e d x y=some r:=by
 unfold qK at h ⊢;split at h
 ·rename_i k st;unfold xY at h ⊢;split at h
  ·rename_i c src rd hs;cases hk:H k with
   | none=>rw[hk]at h;cases h
   | nst=>rw[hk]at h;cases h
   | gone=>rw[hk]at h;cases h
   | mrk=>rw[hk]at h;cases h
   | tie=>rw[hk]at h;cases h
   | blk fz' st' e' sz rows =>
    rw[hk]at h;cases fz' with
    | true=>cases h
    | false =>
     simp only[Option.some.injEq]at h;subst h;rw[jU hs fun k' hk'=>hH k' (.inl (by simp[hk']))];simp only[hH k (.inl (by simp)),hk]
  ·cases h
 ·exact EZ h hH
theorem Q8 {T:TI}{x y:AV}{r:AR}(h:Q9 T H x y=some r)(hH:Agree r H H2):Q9 T H2 x y=some r:=by
 unfold Q9 at h ⊢;split at h
 ·rename_i c src rd hs;split at h
  ·rename_i k st off len;cases hk:H k with
   | none=>rw[hk]at h;cases h
   | nst=>rw[hk]at h;cases h
   | gone=>rw[hk]at h;cases h
   | mrk=>rw[hk]at h;cases h
   | tie=>rw[hk]at h;cases h
   | blk fz' st' e' sz rows =>
    rw[hk]at h;cases fz' with
    | true=>cases h
    | false =>
     simp only[Option.some.injEq]at h;subst h;rw[jU hs fun k' hk'=>hH k' (.inl (by simp[hk']))];simp only[hH k (.inl (by simp)),hk]
  ·rename_i k st;cases hk:H k with
   | none=>rw[hk]at h;cases h
   | nst=>rw[hk]at h;cases h
   | gone=>rw[hk]at h;cases h
   | mrk=>rw[hk]at h;cases h
   | tie=>rw[hk]at h;cases h
   | blk fz' st' e' sz rows =>
    rw[hk]at h;cases fz' with
    | true=>cases h
    | false =>
     simp only[Option.some.injEq]at h;subst h;rw[jU hs fun k' hk'=>hH k' (.inl (by simp[hk']))];simp only[hH k (.inl (by simp)),hk]
  ·cases h
 ·cases h
theorem ET {b:Builtin}{d:Option Nat}{xs:List AV}{ts:List Nat}{r:AR}(h:qJ P b H d xs ts=some r)(hH:Agree r H H2):qJ P b H2 d xs ts=some r:=by
 unfold qJ at h ⊢;split at h
 ·split at h
  ·exact Us h hH
  ·cases h
 ·exact h
 ·exact h
 ·exact h
 ·split at h
  ·rename_i e e2 d ht ht2 hdd;exact EX h hH
  ·exact F6 h hH
  ·cases h
 ·split at h
  ·exact Q8 h hH
  ·cases h
 ·cases h
theorem PW {op:Op}{d:Option Nat}{r:AR}(he:∀ x∈op.operands,ev f2 x=ev f x)(h:lZ P op d f H=some r)(hH:Agree r H H2):lZ P op d f2 H2=some r:=by
 cases op<;>simp only[lZ,Op.operands,List.mem_toArray,List.mem_cons,List.not_mem_nil,or_false,forall_eq,forall_eq_or_imp,Array.mem_append]at he h ⊢<;>try (first|exact h|cases h)
 case move x=>rw[he]
 case assign x=>rw[he]
 case pick c x y=>rw[he.1,he.2.1,he.2.2];exact h
 case alloc e =>
  split at h
  ·exact Jj h hH
  ·cases h
 case box e x =>
  rw[he];split at h
  ·exact Qd h hH
  ·cases h
 case build t ps =>
  have:ps.toList.map (fun p=>ev f2 p.2)=ps.toList.map (fun p=>ev f p.2):=List.map_congr_left fun p hp=>he _ (List.mem_map.2 ⟨p,hp,rfl⟩)
  rw[this];exact Nk h hH
 case buildSlice t n ps =>
  have:ps.toList.map (fun p=>ev f2 p.2)=ps.toList.map (fun p=>ev f p.2):=List.map_congr_left fun p hp=>he _ (List.mem_map.2 ⟨p,hp,rfl⟩)
  rw[this];split at h
  ·rename_i e d ht hdd;exact xW h hH
  ·cases h
 case load t x =>
  rw[he];unfold a0O at h ⊢;split at h
  ·split at h
   ·rename_i r' hr';injection h with h;subst h;rw[kT hr' hH]
   ·cases h
  ·split at h
   ·rename_i r' hr';injection h with h;subst h;rw[kT hr' hH]
   ·cases h
  ·exact kT h hH
  ·exact Lu h hH
 case store t x y=>rw[he.1,he.2];exact Je h hH
 case nilCheck x=>rw[he];exact Uo h hH
 case binOp op t x y yt=>rw[he.1,he.2];exact h
 case unOp op t x=>rw[he];exact h
 case convert s d x=>rw[he];exact h
 case makeSlice t l c =>
  rw[he.1,he.2];split at h
  ·rename_i e d ht hdd;exact Q5 h hH
  ·cases h
 case slice t x lo hi mx =>
  cases mx with
  | some m=>simp only[lZ]at h;cases h
  | none =>
   simp only[lZ]at h ⊢;have h1:ev f2 x=ev f x:=he x (by simp);have h2:lo.map (ev f2)=lo.map (ev f):=by cases lo with|none=>rfl|some y=>simp[he y (by simp)]
   have h3:hi.map (ev f2)=hi.map (ev f):=by cases hi with|none=>rfl|some y=>simp[he y (by simp)]
   rw[h1,h2,h3];split at h
   ·rename_i e ht;exact N9 h hH
   ·cases h
 case fieldAddr s x i=>rw[he];exact Ar h hH
 case field s x i=>rw[he];exact h
 case indexAddr t x i =>
  rw[he.1,he.2];split at h
  ·rename_i e ht;exact Nc h hH
  ·rename_i n e ht;exact Jh h hH
  ·cases h
 case index t x i=>rw[he.1,he.2];exact h
 case makeFunc fn first caps =>
  cases fn with
  | func g =>
   simp only[lZ]at h ⊢;have:caps.toList.map (ev f2)=caps.toList.map (ev f):=List.map_congr_left fun x hx=>he x (.inr (Array.mem_toList_iff.1 hx))
   rw[this];exact h
  | _=>simp[lZ]at h
 case extract x i=>rw[he];exact h
 case call c =>
  have:c.args.toList.map (ev f2)=c.args.toList.map (ev f):=List.map_congr_left fun x hx=>he x (by simp[Call.operands];right;exact Array.mem_toList_iff.1 hx)
  rw[this];split at h
  ·rename_i b hb;exact ET h hH
  ·cases h
end
section
variable {P:Program}
theorem a2o {o:Oper}{f:Fr}{H:Hp}{r:AR}(hr:lZ P o.op o.dst f H=some r)(hc:r.c):Sim P o f H (r.rd++r.fz++r.hs.map (·.1)) ⟨r.v,r.fz,r.hs⟩:=by
 intro f2 H2 he hH G M w0 D0 N β a w hd R K Q hK;have:=PW he hr fun k hk=>hH k (by simpa [or_assoc] using hk)
 exact fun ro=>(a0F R o hd this hc).wp hK (a1G hr)
theorem pO {g:Nat}{x:Operand}{args:Array Operand}{ats:Array TypeId}{o:Oper}(ho:o.op=.call ⟨.value x,args,ats⟩){a:Act}{w:World}{R:Value→World→Prop}{us:Array Value}(hx:a.eval x=.func (.func g) #[] us)(h:nG P g (args.toList.map a.eval++us.toList) w R){ro:Option Nat}{K:Act→World→Prop}{Q:Exit→Act→World→Prop}
  (hK:∀ v w',R v w'→K (a.put o.dst v) w'):o.wpIn (Wd ro) 0 P a w K Q:=by
 have hx:execOp a.eval o=callFunc g (args.map a.eval++us):=by
  simp[execOp,ho,resolve,hx,Deferred.ofValue,invoke]
 have hargs:(args.toList.map a.eval++us.toList).toArray=args.map a.eval++us:=by apply Array.ext';simp
 unfold nG at h;rw[hargs]at h;refine⟨fun _ _=>trivial,?_⟩;show o.uponIn (Wd ro) 0 P a K Q ((o.semAt ro a.eval).run P w);rw[Aw (by rw[ho];intro c h;cases h),hx];rcases h with ⟨fn,h1,h2,h3,h4⟩|⟨v,w',h1,h2⟩
 ·have:(callFunc g (args.map a.eval++us)).run P w=.ok (.enter g (args.map a.eval++us)) w:=by
   simp only[callFunc,Sem.run_bind,run_program,Result.andThen_ok,h1,h2,h3,Bool.false_eq_true,if_false,Sem.run_pure]
  rw[this,Oper.uponIn_enter];refine⟨fun _=>?_,?_⟩
  ·rename_i hs;exact absurd hs (by simp[Wd,Fence.wide])
  ·have h5:=(callsIn_wide (n:=0)).2 h4;have h6:CallsIn (Wd ro) 0 P g (args.map a.eval++us) w _:=h5;exact h6.mono fun e w' ⟨v,he,hR⟩=>by subst he;exact hK v w' hR
 ·rw[h1];exact hK v w' h2
theorem LW (fz:List Nat):∀ (H H2:Hp) (k:Nat),H2 k=H k→aC fz H2 k=aC fz H k:=by
 induction fz with
 | nil=>exact fun _ _ _ h=>h
 | cons h r ih =>
  intro H H2 k e;simp only[aC];refine ih _ _ _ ?_;by_cases hk:k=h
  ·subst hk;simp[au,e]
  ·simp[ak _ _ hk,e]
theorem KI {H H2:Hp}{d:Nat}(h:(H2 d).stamp=(H d).stamp)(own:gY):∀ (res:List CV) (j:Nat),rAV H2 d own j res=rAV H d own j res
 | [],_=>rfl
 | c::cs,j=>by simp only[rAV,h,KI h own cs (j+1)]
theorem QJ (H H2:Hp)(d:Nat):∀ (res:List CV) (j:Nat),rAV H2 d none j res=rAV H d none j res
 | [],_=>rfl
 | c::cs,j=>by simp only[rAV,QJ H H2 d cs (j+1)]
theorem sO.ok {w w':World}{D D':Nat→Prop}{own:gY}{res:List CV}{us:List Value}(h:sO own res)(hr:Jq w w' D own res us):Jq w w' D' own res us:=by
 refine⟨hr.len,fun j c v hj hc hv=>(hr.val j c v hj hc hv).flat ?_,fun i e sz rows ho=>?_⟩
 ·cases own with
  | none=>exact h c (List.mem_of_getElem? hc)
  | some p=>obtain⟨i,e,sz,rows⟩:=p;exact h.2 j c (hj i e sz rows rfl) hc
 ·obtain⟨v,h1,h2,h3⟩:=hr.own i e sz rows ho;subst ho;refine⟨v,h1,h2,h3.1,?_⟩;rcases h3.2 with hn|⟨g,cap,cur,hv,hB,hg,a1,a2,a3,a4⟩
  ·exact .inl hn
  ·refine .inr ⟨g,cap,cur,hv,hB,hg,a1,a2,a3,a4.flat fun x hx=>?_⟩;obtain⟨r,hr',hx'⟩:=List.mem_flatten.1 hx;exact h.1 r hr' x hx'
theorem ZK {o:Oper}{g:Nat}{x:Operand}{args:Array Operand}{ats:Array TypeId}(ho:o.op=.call ⟨.value x,args,ats⟩){d:Nat}(hdst:o.dst=some d){f:Fr}{H:Hp}{c:Prop}{cv:List CV}{ms:List Nat}{own:gY}{res:List CV}{fz:Bool}
  {l:List AV} (hx:ev f x=.fn g l) (ht:gQ H (args.toList.map (ev f)++l)=some (c,cv,ms)∨uN H (args.toList.map (ev f)++l)=some (c,cv,ms)) (hc:c) (hac:AC P g cv own res) (hf:fz=false→ms=[]∨sO own res) :
  let H':=if fz then aC ms H else H
  Sim P o f H (ms++(EH H' d own).map (·.1)) ⟨lS (rAV H' d own 0 res),if fz then ms else [],EH H' d own⟩:=by
 intro H' f2 H2 he hH G M w0 D0 N β a w hd R K Q hK ro;have hx2:ev f2 x=.fn g l:=by rw[he x (by rw[ho];simp[Op.operands,Call.operands]),hx]
 have yS:=R.ev x;rw[hx2]at yS;simp only[aj]at yS;obtain⟨us,hus,hcap⟩:=yS;have hargs:args.toList.map (ev f2)=args.toList.map (ev f):=List.map_congr_left fun x hx=>he x (by rw[ho];simp only[Op.operands,Call.operands];exact Array.mem_append.2 (.inr (Array.mem_toList_iff.1 hx)))
 have hrep:dM w (DD (aC ms H2) β D0) cv (args.toList.map a.eval++us.toList):=by
  rcases ht with ht|ht
  ·have ht2:=mM ht fun k hk=>hH k (by simp[hk])
   rw[← hargs]at ht2;exact kJ R ((jC R args.toList).append hcap) ht2 hc
  ·have ht2:=zF ht fun k hk=>hH k (by simp[hk])
   rw[← hargs]at ht2;exact zC R ((jC R args.toList).append hcap) ht2 hc
 have hD:∀ b,DD (aC ms H2) β D0 b→b<w.heap.size:=by
  intro b hb;rcases hb with hb|⟨k,hm,hk⟩
  ·exact Nat.lt_of_lt_of_le (R.old b hb).1 R.size
  ·have:=(mY ms H2 k).1 hm;exact(R.iD this.2 hk).1
 refine pO ho hus (hac w _ _ hD hrep) fun v w' ⟨hb,us,hv,hres⟩=>?_;subst hv;have hdN:=hd d hdst;rw[hdst];have fin:∀ H3:Hp,Rel G M w0 D0 N f2 H3 β a w→Jq w w' (DD H3 β D0) own res us→(∀ i e sz rows,own=some (i,e,sz,rows)→(H3 d).stamp=(H' d).stamp)→H3=aC (if fz then ms else []) H2→K (a.put (some d) (oU us)) w':=by
  intro H3 R3 hr3 hs he3;obtain⟨β',R'⟩:=Yl R3 hb hr3 hdN;refine hK _ _ β' ?_;have e1:lS (rAV H3 d own 0 res)=lS (rAV H' d own 0 res):=by
   cases own with
   | none=>rw[QJ H' H3]
   | some p=>obtain⟨i,e,sz,rows⟩:=p;rw[KI (hs i e sz rows rfl)]
  have e2:EH H3 d own=EH H' d own:=by
   cases own with
   | none=>rfl
   | some p=>obtain⟨i,e,sz,rows⟩:=p;simp only[EH,hs i e sz rows rfl]
  rw[e1,e2]at R';rw[he3]at R';simp only[Up.f,Up.h,hdst,ji];exact R'
 have hst:∀ i e sz rows,own=some (i,e,sz,rows)→H2 d=H d:=fun i e sz rows ho=>hH d (by subst ho;simp[EH])
 cases fz with
 | true =>
  refine fin (aC ms H2) (R.aC ms) hres (fun i e sz rows ho=>?_) rfl;show (aC ms H2 d).stamp=(aC ms H d).stamp;rw[(zN ms H2 d).1,(zN ms H d).1,hst i e sz rows ho]
 | false =>
  refine fin H2 R ?_ (fun i e sz rows ho=>by rw[hst i e sz rows ho];rfl) rfl;rcases hf rfl with h0|h0
  ·rw[h0]at hres;exact hres
  ·exact h0.ok hres
theorem jg.set {M:Nat→Prop}{w:World}{D:Nat→Prop}{β:Nat→Value}{H:Hp}:∀ {xs:List AV} {vs:List Value} (i:Nat),jg w D H β xs vs→jg w D H β (xs.set i .dead) vs
 | _,_,_,.nil=>.nil
 | _,_,0,.cons h k=>.cons (by simp[aj]) k
 | _,_,i+1,.cons h k=>.cons h (jg.set (M:=M) i k)
theorem jg.get {w:World}{D:Nat→Prop}{β:Nat→Value}{H:Hp}:∀ {xs:List AV} {vs:List Value} {i:Nat} {x:AV},jg w D H β xs vs→xs[i]?=some x→∃ v,vs[i]?=some v∧aj w D H β x v
 | _,_,i,x,.nil,h=>by simp at h
 | _,_,0,x,.cons h k,hx=>by simp at hx;subst hx;exact⟨_,rfl,h⟩
 | _,_,i+1,x,.cons h k,hx=>by simpa using jg.get k (by simpa using hx)
theorem uq {w:World}{D:Nat→Prop}{β:Nat→Value}{H:Hp}:∀ {xs:List CV} {vs:List Value},dM w D xs vs→aF w D H β (xs.map CV.av) vs
 | [],[],_=>by simp[aF]
 | _::_,_::_,h=>by simp only[List.map_cons,aF];exact⟨h.1.av,uq h.2⟩
 | [],_::_,h=>h.elim
 | _::_,[],h=>h.elim
theorem VD {o:Oper}{g:Nat}{x:Operand}{args:Array Operand}{ats:Array TypeId}(ho:o.op=.call ⟨.value x,args,ats⟩){d:Nat}(hdst:o.dst=some d){f:Fr}{H:Hp}{c:Prop}{cv:List CV}{ms:List Nat}{res:List CV}
  {l:List AV} (hx:ev f x=.fn g l) {i h st e sz:Nat} {rows rows':List (List IV)} (hi:(args.toList.map (ev f)++l)[i]?=some (.hs h st)) (hH:H h=.blk false st e sz rows)
  (ht:gQ H ((args.toList.map (ev f)++l).set i .dead)=some (c,cv,ms)) (hc:c) (hm:h∉ms) (hac:ACW P g cv i e sz rows rows' res) :
  Sim P o f H (h::ms) ⟨lS (res.map CV.av),ms,[(h,.blk false st e sz rows')]⟩:=by
 intro f2 H2 he hHH G M w0 D0 N β a w hd R K Q hK ro;have hx2:ev f2 x=.fn g l:=by rw[he x (by rw[ho];simp[Op.operands,Call.operands]),hx]
 have yS:=R.ev x;rw[hx2]at yS;simp only[aj]at yS;obtain⟨us,hus,hcap⟩:=yS;have hargs:args.toList.map (ev f2)=args.toList.map (ev f):=List.map_congr_left fun x hx=>he x (by rw[ho];simp only[Op.operands,Call.operands];exact Array.mem_append.2 (.inr (Array.mem_toList_iff.1 hx)))
 have hH2:H2 h=.blk false st e sz rows:=by rw[hHH h (by simp)];exact hH
 have hall:=(jC R args.toList).append hcap;rw[hargs]at hall;have hrep:dM w (DD (aC ms H2) β D0) cv (args.toList.map a.eval++us.toList) :=
  kJ R (jg.set (M:=M) i hall) (mM ht fun k hk=>hHH k (by simp[hk])) hc
 obtain⟨v,hv,hrv⟩:=hall.get hi;simp only[aj]at hrv;have hvb:v=β h:=hrv.2 (by rw[hH2];rfl);subst hvb;have R1:=R.aC ms;have hH1:aC ms H2 h=.blk false st e sz rows:=by rw[l9 _ _ _ hm];exact hH2
 have hD:∀ b,DD (aC ms H2) β D0 b→b<w.heap.size:=by
  intro b hb;rcases hb with hb|⟨k,hmm,hk⟩
  ·exact Nat.lt_of_lt_of_le (R.old b hb).1 R.size
  ·obtain⟨cur,e',hh⟩:=R1.dW hmm hk;exact(Array.getElem?_eq_some_iff.1 hh).1
 have hhead:∀ b,aG (β h)=some b→DD (aC ms H2) β D0 b:=fun b hb=>.inr ⟨h,by rw[hH1];trivial,hb⟩
 have hown0:=R1.own h _ _ _ _ hH1;have hown:Own w (DD (aC ms H2) β D0) w.heap.size (fun b=>aG (β h)=some b) (β h) e sz rows:=by
  refine⟨hown0.1,?_⟩;rcases hown0.2 with hn|⟨g,cap,cur,hv,_,hrest⟩
  ·exact .inl hn
  ·exact .inr ⟨g,cap,cur,hv,.inr (by rw[hv];rfl),hrest⟩
 refine pO ho hus (hac w _ _ _ hD hrep hv hhead hown) fun u w' ⟨hg,us',hu,hres,hown'⟩=>?_;subst hu;have hdN:=hd d hdst;rw[hdst];have hown2:Own w' (fun b=>DD (aC ms H2) β D0 b∨aG (β h)=some b) w0.heap.size M (β h) e sz rows':=by
  refine⟨hown'.1,?_⟩;rcases hown'.2 with hn|⟨g,cap,cur,hv,_,h1,h2,h3,h4,h5⟩
  ·exact .inl hn
  ·refine .inr ⟨g,cap,cur,hv,?_,h1,h2,h3,h4,h5.mono (bD.of_sub fun b hb=>hb.elim id (hhead b))⟩;exact DD.head R1 (h:=h) (by rw[hH1];trivial) (by rw[hv];rfl)
 obtain⟨β',hb',hbo,R'⟩:=R1.grow (w':=w') (st':=st) (rows':=rows') (v:=β h) (dst:=none) (x:=.dead) (val:=Go.undef) hH1 (.inl ⟨rfl,rfl⟩) hg.os hg.tape hg.output hg.size
  (fun k hk hne=>hg.block k hk (fun e=>hne e.symm)) hown2 (fun k hk=>.inl hk) (fun _ _ _ _ _=>by simp[aj]) (by simp)
 have hbb:β'=β:=funext fun u=>by
  by_cases hu:u=h
  ·subst hu;exact hb'
  ·exact hbo u hu
 subst hbb;have R2:Rel G M w0 D0 N f2 (bg (aC ms H2) h (.blk false st e sz rows')) β' a w':=R';refine hK _ _ β' ?_;simp only[Up.f,Up.h,hdst,ji,bU];refine R2.value (dst:=some d) (rO _ _ (uq (hres.mono (bD.of_sub fun b hb=>?_)))) (by rintro _ ⟨⟩;exact hdN);rcases hb with hb|⟨k,hmm,hk⟩
 ·exact .inl hb
 ·by_cases hkh:k=h
  ·subst hkh;exact hhead b hk
  ·rw[ak _ _ hkh]at hmm;exact .inr ⟨k,hmm,hk⟩
theorem VE {o:Oper}{g:Nat}{x:Operand}{args:Array Operand}{ats:Array TypeId}(ho:o.op=.call ⟨.value x,args,ats⟩){d:Nat}(hdst:o.dst=some d){f:Fr}{H:Hp}{c:Prop}{cv:List CV}{ms:List Nat}
  {l:List AV} (hx:ev f x=.fn g l) {i h st e sz:Nat} {rows rows':List (List IV)} (hi:(args.toList.map (ev f)++l)[i]?=some (.hs h st)) (hH:H h=.blk false st e sz rows)
  (ht:gQ H ((args.toList.map (ev f)++l).set i .dead)=some (c,cv,ms)) (hc:c) (hm:h∉ms) (hac:ACT P g cv i e sz rows rows') :
  Sim P o f H (h::ms) ⟨.hs h (st+1),ms,[(h,.blk false (st+1) e sz rows')]⟩:=by
 intro f2 H2 he hHH G M w0 D0 N β a w hd R K Q hK ro;have hx2:ev f2 x=.fn g l:=by rw[he x (by rw[ho];simp[Op.operands,Call.operands]),hx]
 have yS:=R.ev x;rw[hx2]at yS;simp only[aj]at yS;obtain⟨us,hus,hcap⟩:=yS;have hargs:args.toList.map (ev f2)=args.toList.map (ev f):=List.map_congr_left fun x hx=>he x (by rw[ho];simp only[Op.operands,Call.operands];exact Array.mem_append.2 (.inr (Array.mem_toList_iff.1 hx)))
 have hH2:H2 h=.blk false st e sz rows:=by rw[hHH h (by simp)];exact hH
 have hall:=(jC R args.toList).append hcap;rw[hargs]at hall;have hrep:dM w (DD (aC ms H2) β D0) cv (args.toList.map a.eval++us.toList) :=
  kJ R (jg.set (M:=M) i hall) (mM ht fun k hk=>hHH k (by simp[hk])) hc
 obtain⟨v,hv,hrv⟩:=hall.get hi;simp only[aj]at hrv;have hvb:v=β h:=hrv.2 (by rw[hH2];rfl);subst hvb;have R1:=R.aC ms;have hH1:aC ms H2 h=.blk false st e sz rows:=by rw[l9 _ _ _ hm];exact hH2
 have hD:∀ b,DD (aC ms H2) β D0 b→b<w.heap.size:=by
  intro b hb;rcases hb with hb|⟨k,hmm,hk⟩
  ·exact Nat.lt_of_lt_of_le (R.old b hb).1 R.size
  ·obtain⟨cur,e',hh⟩:=R1.dW hmm hk;exact(Array.getElem?_eq_some_iff.1 hh).1
 have hhead:∀ b,aG (β h)=some b→DD (aC ms H2) β D0 b:=fun b hb=>.inr ⟨h,by rw[hH1];trivial,hb⟩
 have hown0:=R1.own h _ _ _ _ hH1;have hown:Own w (DD (aC ms H2) β D0) w.heap.size (fun b=>aG (β h)=some b) (β h) e sz rows:=by
  refine⟨hown0.1,?_⟩;rcases hown0.2 with hn|⟨g,cap,cur,hv,_,hrest⟩
  ·exact .inl hn
  ·exact .inr ⟨g,cap,cur,hv,.inr (by rw[hv];rfl),hrest⟩
 refine pO ho hus (hac w _ _ _ hD hrep hv hhead hown) fun u w' ⟨hg,hhu,hown'⟩=>?_;have hdN:=hd d hdst;rw[hdst];have hown2:Own w' (fun b=>DD (aC ms H2) β D0 b∨aG u=some b) w0.heap.size M u e sz rows':=by
  refine⟨hown'.1,?_⟩;rcases hown'.2 with hn|⟨g,cap,cur,hu,_,h1,h2,h3,h4,h5⟩
  ·exact .inl hn
  ·have hgu:aG u=some g:=by rw[hu];rfl
   refine .inr ⟨g,cap,cur,hu,?_,h1,h2,h3,h4,h5.mono (bD.of_sub fun b hb=>hb.elim id fun hb=>hhead b (hhu b hb))⟩;exact DD.head R1 (h:=h) (by rw[hH1];trivial) (hhu g hgu)
 obtain⟨β',hb',hbo,R'⟩:=R1.grow (w':=w') (st':=st+1) (rows':=rows') (v:=u) (dst:=some d) (x:=.hs h (st+1)) (val:=u) hH1 (.inr (by omega)) hg.os hg.tape hg.output hg.size
  (fun k hk hne=>hg.block k hk (fun e=>hne e.symm)) hown2 (fun k hk=>.inl (hhu k hk)) (fun β' hb _ _ _=>by simp[aj,au,HC.stamp,hb]) (by rintro _ ⟨⟩;exact hdN)
 refine hK _ _ β' ?_;simp only[Up.f,Up.h,hdst,ji,bU];exact R'
def upX (ms:List Nat)(E:Nat)(res:List CV):Up:=⟨lS (res.map CV.av),ms,[(999,.mrk E)]⟩
def a8c (P:Program)(o:Oper)(K:Fr→Hp→Log→Prop)(f:Fr)(H:Hp)(lg:Log):Prop :=
 ∃ (ms:List Nat) (B:Nat) (R:Nat→Nat→List CV→Prop),(∀ B,∃ E res,B≤E∧R B E res) ∧
  (∀ (f2:Fr) (H2:Hp),(∀ x∈o.op.operands,ev f2 x=ev f x)→(∀ h∈999::ms,H2 h=H h) →
   ∀ (G:Gh) (M:Nat→Prop) (w0:World) (D0:Nat→Prop) (N:Nat) (β:Nat→Value) (a:Act) (w:World),(∀ d,o.dst=some d→d<N)→Rel G M w0 D0 N f2 H2 β a w →
    ∀ (K':Act→World→Prop) (Q:Exit→Act→World→Prop),(∀ B' E res a' w' β',B≤B'→B'≤E→R B' E res→Rel G M w0 D0 N ((upX ms E res).f o.dst f2) ((upX ms E res).h H2) β' a' w'→K' a' w')→∀ ro,o.wpIn (Wd ro) 0 P a w K' Q) ∧
  ∀ B' E res,B≤B'→B'≤E→R B' E res→K ((upX ms E res).f o.dst f) ((upX ms E res).h H) ((999::ms,(upX ms E res).fz++(upX ms E res).hs.map (·.1))::lg)
def XAt (P:Program)(o:Oper)(K:Fr→Hp→Log→Prop)(f:Fr)(H:Hp)(lg:Log):Prop :=
 ∃ (rd:List Nat) (R:Up→Prop),(∃ u,R u) ∧
  (∀ (f2:Fr) (H2:Hp),(∀ x∈o.op.operands,ev f2 x=ev f x)→(∀ h∈rd,H2 h=H h) →
   ∀ (G:Gh) (M:Nat→Prop) (w0:World) (D0:Nat→Prop) (N:Nat) (β:Nat→Value) (a:Act) (w:World),(∀ d,o.dst=some d→d<N)→Rel G M w0 D0 N f2 H2 β a w →
    ∀ (K':Act→World→Prop) (Q:Exit→Act→World→Prop),(∀ u a' w' β',R u→Rel G M w0 D0 N (u.f o.dst f2) (u.h H2) β' a' w'→K' a' w')→∀ ro,o.wpIn (Wd ro) 0 P a w K' Q) ∧
  ∀ u,R u→(∀ k∈u.fz++u.hs.map (·.1),k∈rd)∧999∈u.fz++u.hs.map (·.1)∧K (u.f o.dst f) (u.h H) ((rd,u.fz++u.hs.map (·.1))::lg)
theorem a8c.up {o:Oper}{K:Fr→Hp→Log→Prop}{f:Fr}{H:Hp}{lg:Log}(h:a8c P o K f H lg):XAt P o K f H lg:=by
 obtain⟨ms,B,R,hne,hs,hk⟩:=h;refine⟨999::ms,fun u=>∃ B' E res,B≤B'∧B'≤E∧R B' E res∧u=upX ms E res,?_,fun f2 H2 h1 h2 G M w0 D0 N β a w hd R0 K' Q hK' ro=>hs f2 H2 h1 h2 G M w0 D0 N β a w hd R0 K' Q (fun B' E res a' w' β' h3 h4 h5 R1=>hK' _ a' w' β' ⟨B',E,res,h3,h4,h5,rfl⟩ R1) ro,?_⟩
 ·obtain⟨E,res,hE,hR⟩:=hne B;exact⟨_,B,E,res,Nat.le_refl _,hE,hR,rfl⟩
 ·rintro _ ⟨B',E,res,h3,h4,h5,rfl⟩;refine⟨fun k hk=>?_,by simp[upX],hk B' E res h3 h4 h5⟩;simp only[upX,List.map_cons,List.map_nil,List.mem_append,List.mem_cons,List.not_mem_nil,or_false]at hk ⊢;exact hk.symm
theorem Zl {o:Oper}{g:Nat}{x:Operand}{args:Array Operand}{ats:Array TypeId}(ho:o.op=.call ⟨.value x,args,ats⟩){d:Nat}(hdst:o.dst=some d){f:Fr}{H:Hp}{l:List AV}(hx:ev f x=.fn g l){K:Fr→Hp→Log→Prop}{lg:Log}
  (h:a3b P g (args.toList.map (ev f)++l) d K f H lg):a8c P o K f H lg:=by
 obtain⟨c,cv,ms,B,R0,ht,hc,hB,hac,hk⟩:=h;refine⟨ms,B,R0,hac.1,fun f2 H2 he hHH G M w0 D0 N β a w hd R K' Q hK' ro=>?_,fun B' E res h1 h2 h3=>?_⟩
 ·have hx2:ev f2 x=.fn g l:=by rw[he x (by rw[ho];simp[Op.operands,Call.operands]),hx]
  have yS:=R.ev x;rw[hx2]at yS;simp only[aj]at yS;obtain⟨us,hus,hcap⟩:=yS;have hargs:args.toList.map (ev f2)=args.toList.map (ev f):=List.map_congr_left fun x hx=>he x (by rw[ho];simp only[Op.operands,Call.operands];exact Array.mem_append.2 (.inr (Array.mem_toList_iff.1 hx)))
  have hall:=(jC R args.toList).append hcap;rw[hargs]at hall;have hrep:dM w (DD (aC ms H2) β D0) cv (args.toList.map a.eval++us.toList):=kJ R hall (mM ht fun k hk=>hHH k (by simp[hk])) hc;have hB2:H2 999=.mrk B:=by rw[hHH 999 (by simp)];exact hB
  have hD:∀ b,DD (aC ms H2) β D0 b→b<w.heap.size:=by
   intro b hb;rcases hb with hb|⟨k,hm,hk⟩
   ·exact Nat.lt_of_lt_of_le (R.old b hb).1 R.size
   ·have:=(mY ms H2 k).1 hm;exact(R.iD this.2 hk).1
  have hBw:=R.mrk _ _ hB2;refine pO ho hus (hac.2 w _ _ hD hrep) fun v w' ⟨hb,us',res,hv,hR,hres⟩=>?_;subst hv;have hdN:=hd d hdst;rw[hdst];have R1:=(R.aC ms).below hb;have hf9:aC ms H2 999=.mrk B:=by
   have:∀ (l:List Nat) (H:Hp),H 999=.mrk B→aC l H 999=.mrk B:=by
    intro l
    induction l with
    | nil=>exact fun _ h=>h
    | cons a r ih =>
     intro H h;simp only[aC];refine ih _ ?_;by_cases e:999=a
     ·subst e;rw[au,h];rfl
     ·rw[ak _ _ e];exact h
   exact this ms H2 hB2
  have R2:=R1.Fp hf9 (Nat.le_refl _);have hsub:bD w' (DD (aC ms H2) β D0) w' (DD (bg (aC ms H2) 999 (.mrk w'.heap.size)) β D0):=bD.of_sub fun b hb=>by
   rcases hb with hb|⟨k,hm,hk⟩
   ·exact .inl hb
   ·by_cases e:k=999
    ·subst e;rw[au]at hm;exact hm.elim
    ·rw[ak _ _ e]at hm;exact .inr ⟨k,hm,hk⟩
  have R3:=R2.value (dst:=some d) (rO _ _ (uq (hres.mono hsub))) (by rintro _ ⟨⟩;exact hdN);refine hK' w.heap.size w'.heap.size res _ _ β hBw hb.size hR ?_;simp only[Up.f,Up.h,upX,hdst,ji,bU];exact R3
 ·have:=hk B' E res h1 h2 h3;simp only[Up.f,Up.h,upX,hdst,ji,bU,List.map_cons,List.map_nil];exact this
theorem V8 {o:Oper}{t n:Nat}{ps:Array (Nat×Operand)}(ho:o.op=.buildSlice t n ps){d:Nat}(hdst:o.dst=some d){f:Fr}{H:Hp}{K:Fr→Hp→Log→Prop}{lg:Log}
  (h:Jy P t n (ps.toList.map (·.1)) (ps.toList.map fun p=>ev f p.2) d K f H lg):a8c P o K f H lg:=by
 obtain⟨e,c,css,fz,B,ht,htp,hc,hB,hk⟩:=h;refine⟨fz,B,fun B' E res=>∃ b,res=[.iv (.own b e (ti P e).size css)]∧(b=none→css=[])∧∀ g cap,b=some (g,cap)→B'≤g∧g<E∧g∉bf css,fun B0=>?_,fun f2 H2 he hHH G M w0 D0 N β a w hd R K' Q hK' ro=>?_,fun B' E res h1 h2 h3=>?_⟩
 ·have hex:∃ g,B0≤g∧g∉bf css:=by
   refine⟨B0+(bf css).sum+1,by omega,fun hm=>?_⟩;have:∀ (l:List Nat) (x:Nat),x∈l→x≤l.sum:=by
    intro l
    induction l with
    | nil=>intro x hx;cases hx
    | cons y ys ih =>
     intro x hx;simp only[List.sum_cons];rcases List.mem_cons.1 hx with rfl|hx
     ·omega
     ·have:=ih x hx;omega
   have:=this _ _ hm;omega
  obtain⟨g,hg1,hg2⟩:=hex;exact⟨g+1,_,by omega,some (g,0),rfl,by simp,fun g' cap' hh=>by injection hh with hh;injection hh with h1 h2;subst h1;exact⟨hg1,by omega,hg2⟩⟩
 ·have hargs:ps.toList.map (fun p=>ev f2 p.2)=ps.toList.map (fun p=>ev f p.2):=List.map_congr_left fun p hp=>he _ (by rw[ho];simp only[Op.operands];exact List.mem_toArray.2 (List.mem_map.2 ⟨p,hp,rfl⟩))
  have hall:jg w (DD H2 β D0) H2 β (ps.toList.map fun p=>ev f p.2) (ps.toList.map fun p=>a.eval p.2):=by
   have:=jC R (ps.toList.map (·.2));rw[List.map_map,List.map_map]at this;rw[← hargs];exact this
  have b0Z:=nS htp fun k hk=>hHH k (by simp[hk])
  have hB2:H2 999=.mrk B:=by rw[hHH 999 (by simp)];exact hB
  obtain⟨arr',hrun,hsz,hrep,hln,hnm⟩:=Es (d:=d) (n:=n) ht R (idx:=ps.toList.map (·.1)) (by simp) hall b0Z hc;have hbel:Below w.heap.size w (w.alloc (.cells arr' e)):=⟨rfl,rfl,rfl,by simp,fun k hk=>heap_alloc_old w _ hk⟩;have R1:=(R.aC fz).below hbel;have hf9:aC fz H2 999=.mrk B:=by
   have:∀ (l:List Nat) (H:Hp),H 999=.mrk B→aC l H 999=.mrk B:=by
    intro l
    induction l with
    | nil=>exact fun _ h=>h
    | cons a r ih =>
     intro H h;simp only[aC];refine ih _ ?_;by_cases e:999=a
     ·subst e;rw[au,h];rfl
     ·rw[ak _ _ e];exact h
   exact this fz H2 hB2
  have R2:=R1.Fp hf9 (Nat.le_refl _);have hsub:bD w (DD (aC fz H2) β D0) (w.alloc (.cells arr' e)) (DD (bg (aC fz H2) 999 (.mrk (w.alloc (.cells arr' e)).heap.size)) β D0):=by
   refine⟨by simp,fun b _ hb=>?_,fun b hb _ _=>heap_alloc_old w _ hb⟩;rcases hb with hb|⟨k,hm,hk⟩
   ·exact .inl hb
   ·by_cases e:k=999
    ·subst e;rw[au]at hm;exact hm.elim
    ·rw[ak _ _ e]at hm;exact .inr ⟨k,hm,hk⟩
  have hnD:∀ b,DD (bg (aC fz H2) 999 (.mrk (w.alloc (.cells arr' e)).heap.size)) β D0 b→b<w.heap.size:=by
   rintro b (hb|⟨k,hm,hk⟩)
   ·exact Nat.lt_of_lt_of_le (R.old b hb).1 R.size
   ·by_cases e:k=999
    ·subst e;rw[au]at hm;exact hm.elim
    ·rw[ak _ _ e]at hm;exact((R.aC fz).iD hm hk).1
  have hrow:Rep (w.alloc (.cells arr' e)) (DD (bg (aC fz H2) 999 (.mrk (w.alloc (.cells arr' e)).heap.size)) β D0) (.own (some (w.heap.size,n)) e (ti P e).size css) (.slice (some ⟨w.heap.size,0,none⟩) n n):=by
   have:=Rep.own (w:=w.alloc (.cells arr' e)) (D:=DD (bg (aC fz H2) 999 (.mrk (w.alloc (.cells arr' e)).heap.size)) β D0) css w.heap.size n e (ti P e).size arr' (fun i r hi=>hc.2.2.2.2.1 r (List.mem_of_getElem? hi)) (by omega) hnm (heap_alloc_new w _) (fun h=>Nat.lt_irrefl _ (hnD _ h)) hsz (fun i r hi j x hj=>?_)
   ·rw[hln]at this;exact this
   ·obtain⟨v,hv,hr⟩:=hrep.get _ _ (iR css i j r x hc.2.2.2.2.1 hi hj);rw[Array.getElem?_toList]at hv;rw[Array.getD_eq_getD_getElem?,hv];exact hr.mono hsub
  have R3:=R2.value (dst:=some d) (v:=.iv (.own (some (w.heap.size,n)) e (ti P e).size css)) (val:=.slice (some ⟨w.heap.size,0,none⟩) n n) (by simp only[aj];exact hrow) (by rintro _ ⟨⟩;exact hd d hdst);refine⟨fun _ _=>trivial,?_⟩;show o.uponIn (Wd ro) 0 P a K' Q ((o.semAt ro a.eval).run P w);rw[Aw (by rw[ho];intro c h;cases h)];have hex:(execOp a.eval o).run P w=.ok (.value (.slice (some ⟨w.heap.size,0,none⟩) n n)) (w.alloc (.cells arr' e)):=by
   have e2:(ps.map fun p=>(p.1,a.eval p.2))=((ps.toList.map (·.1)).zip (ps.toList.map fun p=>a.eval p.2)).toArray:=by
    apply Array.ext';rw[Array.toList_map,List.zip_map']
   simp only[execOp,ho,Sem.run_bind];rw[e2,hrun];rfl
  rw[hex];refine hK' w.heap.size (w.alloc (.cells arr' e)).heap.size [.iv (.own (some (w.heap.size,n)) e (ti P e).size css)] _ _ β (R.mrk _ _ hB2) (by simp) ⟨_,rfl,by simp,fun g cap hh=>?_⟩ ?_
  ·injection hh with hh;injection hh with h1 h2;subst h1;refine⟨Nat.le_refl _,by simp,fun hm=>?_⟩;rw[← iH]at hm;obtain⟨x,hx,hm⟩:=fP.1 hm;obtain⟨j,hj⟩:=List.getElem?_of_mem hx;obtain⟨v,_,hv⟩:=hrep.get j x hj;exact Nat.lt_irrefl _ (hv.ids _ hm).2
  ·simp only[Up.f,Up.h,upX,hdst,ji,bU,List.map_cons,List.map_nil,lS,CV.av];exact R3
 ·obtain⟨b,rfl,hb0,hb⟩:=h3;have:=hk B' E b h1 h2 hb0 hb;simp only[Up.f,Up.h,upX,hdst,ji,bU,List.map_cons,List.map_nil,lS,CV.av];exact this
def IAt (P:Program)(o:Oper)(K:Fr→Hp→Log→Prop)(f:Fr)(H:Hp)(lg:Log):Prop :=
 ∃ Z:AV→Hp→Prop,(∃ x H',Z x H')∧(∀ (G:Gh) (M:Nat→Prop) (w0:World) (D0:Nat→Prop) (N:Nat) (β:Nat→Value) (a:Act) (w:World),(∀ d,o.dst=some d→d<N)→Rel G M w0 D0 N f H β a w →
   ∀ (K':Act→World→Prop) (Q:Exit→Act→World→Prop),(∀ x H' a' w' β',Z x H'→Rel G M w0 D0 N (ji f o.dst x) H' β' a' w'→K' a' w')→∀ ro,o.wpIn (Wd ro) 0 P a w K' Q) ∧
  ∀ x H',Z x H'→K (ji f o.dst x) H' (([],[998])::lg)
theorem a1k {o:Oper}{g:Nat}{x:Operand}{args:Array Operand}{ats:Array TypeId}(ho:o.op=.call ⟨.value x,args,ats⟩){d:Nat}(hdst:o.dst=some d){f:Fr}{H:Hp}{l:List AV}(hx:ev f x=.fn g l){K:Fr→Hp→Log→Prop}{lg:Log}
  (h:a3e P g (args.toList.map (ev f)++l) d K f H lg):IAt P o K f H lg:=by
 obtain⟨Z,hac,hk⟩:=h;refine⟨Z,hac.1,fun G M w0 D0 N β a w hd R K' Q hK' ro=>?_,by simp only[hdst,ji];exact hk⟩;have yS:=R.ev x;rw[hx]at yS;simp only[aj]at yS;obtain⟨us,hus,hcap⟩:=yS;have hall:=(jC R args.toList).append hcap;refine pO ho hus (hac.2 G M w0 D0 N f β a w _ R hall) fun v w' ⟨x,H',β',hz,R',hv⟩=>?_;have R2:=R'.value (dst:=o.dst) hv hd;exact hK' x H' _ _ β' hz R2
theorem V7 {o:Oper}{g:Nat}{x:Operand}{args:Array Operand}{ats:Array TypeId}(ho:o.op=.call ⟨.value x,args,ats⟩){d:Nat}(hdst:o.dst=some d){f:Fr}{H:Hp}{l:List AV}(hx:ev f x=.fn g l){K:Fr→Hp→Log→Prop}{lg:Log}
  (h:a3f P g (args.toList.map (ev f)++l) d K f H lg):XAt P o K f H lg:=by
 obtain⟨rd,R0,hac,hk⟩:=h;refine⟨rd,fun u=>∃ x hs,R0 x hs∧u=⟨x,[],hs⟩,?_,fun f2 H2 he hHH G M w0 D0 N β a w hd R K' Q hK' ro=>?_,?_⟩
 ·obtain⟨x,hs,h⟩:=hac.1;exact⟨_,x,hs,h,rfl⟩
 ·have hx2:ev f2 x=.fn g l:=by rw[he x (by rw[ho];simp[Op.operands,Call.operands]),hx]
  have yS:=R.ev x;rw[hx2]at yS;simp only[aj]at yS;obtain⟨us,hus,hcap⟩:=yS;have hargs:args.toList.map (ev f2)=args.toList.map (ev f):=List.map_congr_left fun x hx=>he x (by rw[ho];simp only[Op.operands,Call.operands];exact Array.mem_append.2 (.inr (Array.mem_toList_iff.1 hx)))
  have hall:=(jC R args.toList).append hcap;rw[hargs]at hall;refine pO ho hus (hac.2 H2 hHH G M w0 D0 N f2 β a w _ R hall) fun v w' ⟨x,hs,β',hz,R',hv⟩=>?_;have R2:=R'.value (dst:=o.dst) hv hd;exact hK' ⟨x,[],hs⟩ _ _ β' ⟨x,hs,hz,rfl⟩ (by simp only[Up.f,Up.h,aC];exact R2)
 ·rintro _ ⟨x,hs,hz,rfl⟩;obtain⟨h1,h2,h3⟩:=hk x hs hz;refine⟨by simpa using h1,by simpa using h2,?_⟩;simp only[Up.f,Up.h,hdst,ji,aC,List.nil_append];exact h3
theorem BD {o:Oper}{K:Fr→Hp→Log→Prop}{f:Fr}{H:Hp}{lg:Log}(h:JB P o K f H lg):(∃ (u:Up) (rd:List Nat),Sim P o f H rd u∧K (u.f o.dst f) (u.h H) ((rd,u.fz++u.hs.map (·.1))::lg)∧∀ k∈u.fz++u.hs.map (·.1),k∈rd)∨XAt P o K f H lg∨IAt P o K f H lg:=by
 unfold JB at h;split at h
 ·rename_i x args ats d ho hdst;unfold yg at h;split at h
  rotate_left
  ·exact h.elim
  rename_i g l hx;rcases h with h|h|h|h|h|h
  rotate_right
  ·exact .inr (.inl (V7 ho hdst hx h))
  rotate_right
  ·exact .inr (.inr (a1k ho hdst hx h))
  rotate_right
  ·exact .inr (.inl (Zl ho hdst hx h).up)
  all_goals refine .inl ?_
  rotate_left
  rotate_left
  ·obtain⟨c,cv,ms,i,h,st,e,sz,rows,rows',hi,hH,ht,hc,hm,hac,hk⟩:=h;refine⟨⟨.hs h (st+1),ms,[(h,.blk false (st+1) e sz rows')]⟩,h::ms,VE ho hdst hx hi hH ht hc hm hac,?_,?_⟩
   ·simp only[Up.f,Up.h,hdst,ji,bU,List.map_cons,List.map_nil];exact hk
   ·intro k hk;simp only[List.map_cons,List.map_nil,List.mem_append,List.mem_cons,List.not_mem_nil,or_false]at hk ⊢;rcases hk with hk|hk
    ·exact .inr hk
    ·exact .inl hk
  rotate_left
  ·obtain⟨c,cv,ms,i,h,st,e,sz,rows,rows',res,hi,hH,ht,hc,hm,hac,hk⟩:=h;refine⟨⟨lS (res.map CV.av),ms,[(h,.blk false st e sz rows')]⟩,h::ms,VD ho hdst hx hi hH ht hc hm hac,?_,?_⟩
   ·simp only[Up.f,Up.h,hdst,ji,bU,List.map_cons,List.map_nil];exact hk
   ·intro k hk;simp only[List.map_cons,List.map_nil,List.mem_append,List.mem_cons,List.not_mem_nil,or_false]at hk ⊢;rcases hk with hk|hk
    ·exact .inr hk
    ·exact .inl hk
  obtain⟨c,cv,ms,own,res,fz,ht,hc,hac,hf,hk⟩:=h;refine⟨⟨lS (rAV (if fz then aC ms H else H) d own 0 res),if fz then ms else [],EH (if fz then aC ms H else H) d own⟩,ms++(EH (if fz then aC ms H else H) d own).map (·.1),ZK ho hdst hx ht hc hac hf,?_,?_⟩
  ·have:aC (if fz then ms else []) H=if fz then aC ms H else H:=by cases fz<;>rfl
   simp only[Up.f,Up.h,hdst,ji,this];exact hk
  ·intro k hk;simp only[List.mem_append]at hk ⊢;rcases hk with hk|hk
   ·cases fz with
    | true=>exact .inl hk
    | false=>simp at hk
   ·exact .inr hk
 ·rename_i t n ps d ho hdst;split at h
  ·exact .inr (.inl (V8 ho hdst h).up)
  ·refine .inl ?_;split at h
   ·rename_i r hr;rw[← ho,← hdst]at hr;rw[← hdst]at h;exact⟨⟨r.v,r.fz,r.hs⟩,r.rd++r.fz++r.hs.map (·.1),a2o hr h.1,h.2,fun k hk=>by simp only[List.mem_append]at hk ⊢;rcases hk with hk|hk;exact .inl (.inr hk);exact .inr hk⟩
   ·cases h
 ·refine .inl ?_;split at h
  ·rename_i r hr;exact⟨⟨r.v,r.fz,r.hs⟩,r.rd++r.fz++r.hs.map (·.1),a2o hr h.1,h.2,fun k hk=>by simp only[List.mem_append]at hk ⊢;rcases hk with hk|hk;exact .inl (.inr hk);exact .inr hk⟩
  ·cases h
end
end Go.AL

namespace Go.AL
variable {zi:Zi}
open Go.RowKit
set_option linter.unusedSimpArgs false
set_option linter.unusedVariables false
section
variable {P:Program} {G:Gh} {M:Nat→Prop} {w0:World} {D0:Nat→Prop} {N:Nat} {f:Fr} {H:Hp} {β:Nat→Value} {a:Act} {w:World}
def vO (ops:Array Oper):List (Option Nat):=ops.toList.map (·.dst)
theorem yj (R:Rel G M w0 D0 N f H β a w){ops:Array Oper}{j:Nat}:(∀ b,((vO ops).getD j none).map f=some (.iv (.bool b))→yielded ops a.tmps j=some b)∧(((vO ops).getD j none).map f=some .undef→yielded ops a.tmps j=none):=by
 have e:(vO ops).getD j none=(ops[j]?).bind (·.dst):=by
  simp only[vO,List.getD,List.getElem?_map,Array.getElem?_toList];cases ops[j]?<;>rfl
 rw[e];unfold yielded;cases hd:(ops[j]?).bind (·.dst) with
 | none=>simp
 | some d =>
  simp only[Option.map_some,Option.some.injEq,Option.bind_some];have h1:=R.tmps d;refine⟨fun b hb=>?_,fun hu=>?_⟩
  ·rw[hb]at h1;simp only[aj]at h1;cases ht:a.tmps[d]? with
   | none=>rw[Array.getD_eq_getD_getElem?,ht]at h1;cases h1
   | some v =>
    rw[Array.getD_eq_getD_getElem?,ht]at h1;simp only[Option.getD_some]at h1;cases h1;rfl
  ·rw[hu]at h1;simp only[aj]at h1;cases ht:a.tmps[d]? with
   | none=>rfl
   | some v =>
    rw[Array.getD_eq_getD_getElem?,ht]at h1;simp only[Option.getD_some]at h1;subst h1;rfl
theorem Rel.skip (R:Rel G M w0 D0 N f H β a w){d:Option Nat}(hd:∀ k,d=some k→k<N):Rel G M w0 D0 N (ji f d .undef) H β (a.put d Go.undef) w :=
 R.value (by simp[aj]) hd
theorem pU {ro:Option Nat}{ops:Array Oper}{K:Fr→Hp→Log→Prop}{Q:Exit→Act→World→Prop}(hQ:∀ f H lg β a w,K f H lg→Rel G M w0 D0 N f H β a w→Q .normal a w) :
  ∀ (rest:List Oper) (f:Fr) (H:Hp) (lg:Log) (β:Nat→Value) (a:Act) (w:World),(∀ o∈rest,∀ d,o.dst=some d→d<N)→eP P (vO ops) rest K f H lg→Rel G M w0 D0 N f H β a w→wpListIn (Wd ro) 0 P ops Q rest a w
 | [],f,H,lg,β,a,w,_,h,R=>hQ f H lg β a w h R
 | o::rest,f,H,lg,β,a,w,hd,h,R=>by
  have hdo:=hd o (by simp);have hdr:∀ o∈rest,∀ d,o.dst=some d→d<N:=fun o ho=>hd o (by simp[ho])
  have run:JB P o (eP P (vO ops) rest K) f H lg→o.wpIn (Wd ro) 0 P a w (wpListIn (Wd ro) 0 P ops Q rest) Q:=by
   intro h;rcases BD h with ⟨u,rd,hs,hk,_⟩|⟨rd0,R0,_,hs,hk⟩|⟨Z,_,hs,hk⟩
   ·exact hs f H (fun _ _=>rfl) (fun _ _=>rfl) G M w0 D0 N β a w hdo R _ _ (fun a' w' β' R'=>pU hQ rest _ _ _ β' a' w' hdr hk R') ro
   ·exact hs f H (fun _ _=>rfl) (fun _ _=>rfl) G M w0 D0 N β a w hdo R _ _ (fun u a' w' β' h1 R'=>pU hQ rest _ _ _ β' a' w' hdr (hk u h1).2.2 R') ro
   ·exact hs G M w0 D0 N β a w hdo R _ _ (fun x H' a' w' β' hz R'=>pU hQ rest _ _ _ β' a' w' hdr (hk x H' hz) R') ro
  simp only[eP]at h;simp only[wpListIn];cases hg:o.guard with
  | none =>
   rw[hg]at h;simp only[Region.wanted,hg,if_true];exact run h
  | some p =>
   obtain⟨j,want⟩:=p;rw[hg]at h;have hy:=yj R (ops:=ops) (j:=j);simp only[Region.wanted,hg];simp only at h;split at h
   ·rename_i b hb;rw[hy.1 b hb];by_cases hbw:b=want
    ·subst hbw;simp only[if_true]at h;simp only[beq_self_eq_true,if_true];exact run h
    ·simp only[hbw,if_false]at h;rw[if_neg (by simp[hbw])];exact⟨fun _ _=>trivial,pU hQ rest _ _ _ β _ w hdr h (R.skip hdo)⟩
   ·rename_i hb;rw[hy.2 hb];rw[if_neg (by simp)];exact⟨fun _ _=>trivial,pU hQ rest _ _ _ β _ w hdr h (R.skip hdo)⟩
   ·exact h.elim
def Yo (o:Oper)(i:Nat):Bool:=o.after.toList.any fun e=>Region.binds .any e && e.on == i
def reach (ops:Array Oper):Nat→Nat→Nat→Bool
 | 0,_,_=>false
 | n+1,j,i=>Yo (ops.getD j default) i || (ops.getD j default).after.toList.any fun e=>Region.binds .any e && reach ops n e.on i
def clash (x y:List Nat×List Nat):Bool:=x.2.any (fun k=>y.1.contains k || y.2.contains k) || y.2.any (fun k=>x.1.contains k || x.2.contains k)
def oI (n:Nat)(p:Nat→Nat→Bool):Bool:=(List.range n).all fun j=>(List.range j).all fun i=>p i j
theorem nY {n:Nat}{p:Nat→Nat→Bool}(h:oI n p=true){i j:Nat}(hij:i<j)(hj:j<n):p i j=true:=by
 simp only[oI,List.all_eq_true,List.mem_range]at h;exact h j hj i hij
def EM (ops:Array Oper)(log:Log):Bool:=(oI ops.size fun i j=>!clash (log.getD i ([],[])) (log.getD j ([],[])) || reach ops 16 j i) && (oI ops.size fun i j=>!(log.getD i ([],[])).2.contains 999 || reach ops 16 j i) && log.all fun e=>!e.2.contains 998
def wQ (ops:Array Oper)(i j:Nat):Bool :=
 (match (ops.getD i default).dst with|none=>false|some d=>(ops.getD j default).dst == some d || (Oper.looksAt ops (ops.getD j default)).contains d) ||
 (match (ops.getD j default).dst with|none=>false|some d=>(Oper.looksAt ops (ops.getD i default)).contains d)
def Fg (ops:Array Oper):Bool :=
 (oI ops.size fun i j=>!wQ ops i j || reach ops 16 j i) &&
 (List.range ops.size).all fun i=>(ops.getD i default).after.toList.all fun e=>!Region.binds .any e || decide (e.on<i)
def Qm (ops:Array Oper)(S:Nat→Bool):Prop:=∀ i,S i=true→∀ e∈(ops.getD i default).after.toList,Region.binds .any e=true→S e.on=true
theorem rG {ops:Array Oper}{S:Nat→Bool}(hS:Qm ops S):∀ (n j i:Nat),reach ops n j i=true→(∀ e∈(ops.getD j default).after.toList,Region.binds .any e=true→S e.on=true)→S i=true
 | 0,_,_,h,_=>by simp[reach]at h
 | n+1,j,i,h,hj=>by
  simp only[reach,Bool.or_eq_true]at h;rcases h with h|h
  ·simp only[Yo,List.any_eq_true,Bool.and_eq_true,beq_iff_eq]at h;obtain⟨e,he,h1,h2⟩:=h;rw[← h2];exact hj e he h1
  ·simp only[List.any_eq_true,Bool.and_eq_true]at h;obtain⟨e,he,h1,h2⟩:=h;exact rG hS n e.on i h2 fun e' he' hb'=>hS e.on (hj e he h1) e' he' hb'
def gd (ds:List (Option Nat))(o:Oper)(f:Fr):Option Bool :=
 match o.guard with
 | none=>some true
 | some (j,want)=>match (ds.getD j none).map f with
  | some (.iv (.bool b))=>some (b == want)
  | some .undef=>some false
  | _=>none
def uO:Up:=⟨.undef,[],[]⟩
structure Tr (P:Program) (ops:Array Oper) (st:Nat→Fr×Hp) (us:Nat→Up) (rd:Nat→List Nat):Prop where
 next:∀ i,i<ops.size→st (i+1)=((us i).f (ops.getD i default).dst (st i).1,(us i).h (st i).2)
 step:∀ i,i<ops.size→(gd (vO ops) (ops.getD i default) (st i).1=some true∧Sim P (ops.getD i default) (st i).1 (st i).2 (rd i) (us i))∨(gd (vO ops) (ops.getD i default) (st i).1=some false∧us i=uO)
 wr:∀ i,i<ops.size→∀ k∈(us i).fz++(us i).hs.map (·.1),k∈rd i
theorem SX {ds:List (Option Nat)}{o:Oper}{rest:List Oper}{K:Fr→Hp→Log→Prop}{lg:Log}(h:eP P ds (o::rest) K f H lg) :
  (∃ (u:Up) (r:List Nat),((gd ds o f=some true∧Sim P o f H r u)∨(gd ds o f=some false∧u=uO))∧(∀ k∈u.fz++u.hs.map (·.1),k∈r)∧eP P ds rest K (u.f o.dst f) (u.h H) ((r,u.fz++u.hs.map (·.1))::lg))∨(gd ds o f=some true∧XAt P o (eP P ds rest K) f H lg)∨IAt P o (eP P ds rest K) f H lg:=by
 simp only[eP]at h;cases hg:o.guard with
 | none =>
  rw[hg]at h;rcases BD h with ⟨u,r,h1,h2,h3⟩|h|h
  ·exact .inl ⟨u,r,.inl ⟨by simp[gd,hg],h1⟩,h3,h2⟩
  ·exact .inr (.inl ⟨by simp[gd,hg],h⟩)
  ·exact .inr (.inr h)
 | some p =>
  obtain⟨j,want⟩:=p;rw[hg]at h;simp only at h;split at h
  ·rename_i b hb;by_cases hbw:b=want
   ·subst hbw;simp only[if_true]at h;rcases BD h with ⟨u,r,h1,h2,h3⟩|h|h
    ·exact .inl ⟨u,r,.inl ⟨by simp only[gd,hg,hb,beq_self_eq_true],h1⟩,h3,h2⟩
    ·exact .inr (.inl ⟨by simp only[gd,hg,hb,beq_self_eq_true],h⟩)
    ·exact .inr (.inr h)
   ·simp only[hbw,if_false]at h;exact .inl ⟨uO,[],.inr ⟨by simp only[gd,hg,hb];rw[beq_eq_false_iff_ne.2 hbw],rfl⟩,by simp[uO],h⟩
  ·rename_i hb;exact .inl ⟨uO,[],.inr ⟨by simp only[gd,hg,hb],rfl⟩,by simp[uO],h⟩
  ·exact h.elim
theorem Pj {ops:Array Oper}{o:Oper}{b:Nat}(h:some o=ops[b]?):ops.getD b default=o:=by
 simp[Array.getD_eq_getD_getElem?,← h]
theorem nC {ds:List (Option Nat)}{K:Fr→Hp→Log→Prop}:∀ (rest:List Oper) (f:Fr) (H:Hp) (lg:Log),eP P ds rest K f H lg→∃ f' H' mid,mid.length=rest.length∧K f' H' (mid++lg)
 | [],f,H,lg,h=>⟨f,H,[],rfl,h⟩
 | o::rest,f,H,lg,h=>by
  rcases SX h with ⟨u,r,_,_,h3⟩|⟨_,rd0,R,hne,_,hk⟩|⟨Z,⟨x,H2,hz⟩,_,hk⟩
  ·obtain⟨f',H',mid,h1,h2⟩:=nC rest _ _ _ h3;exact⟨f',H',mid++[(r,u.fz++u.hs.map (·.1))],by simp[h1],by simpa using h2⟩
  ·obtain⟨u,hu⟩:=hne;obtain⟨f',H',mid,h1,h2⟩:=nC rest _ _ _ (hk u hu).2.2;exact⟨f',H',mid++[(rd0,u.fz++u.hs.map (·.1))],by simp[h1],by simpa using h2⟩
  ·obtain⟨f',H',mid,h1,h2⟩:=nC rest _ _ _ (hk x H2 hz);exact⟨f',H',mid++[([],[998])],by simp[h1],by simpa using h2⟩
theorem PX {ops:Array Oper}{K:Fr→Hp→Log→Prop}(hno:∀ f H lg,K f H lg→(lg.all fun e=>!e.2.contains 998)=true):∀ (rest:List Oper) (b:Nat) (f:Fr) (H:Hp) (lg:Log),(∀ i,rest[i]?=ops[b+i]?)→b+rest.length=ops.size→eP P (vO ops) rest K f H lg →
  ∃ (m:Nat) (st:Nat→Fr×Hp) (us:Nat→Up) (rd:Nat→List Nat),b≤m∧m≤ops.size∧st b=(f,H) ∧
   (∀ i,b≤i→i<m→st (i+1)=((us i).f (ops.getD i default).dst (st i).1,(us i).h (st i).2)) ∧
   (∀ i,b≤i→i<m→(gd (vO ops) (ops.getD i default) (st i).1=some true∧Sim P (ops.getD i default) (st i).1 (st i).2 (rd i) (us i))∨(gd (vO ops) (ops.getD i default) (st i).1=some false∧us i=uO)) ∧
   (∀ i,b≤i→i<m→∀ k∈(us i).fz++(us i).hs.map (·.1),k∈rd i) ∧
   ((m=ops.size∧K (st m).1 (st m).2 (((List.range' b (m-b)).map fun i=>(rd i,(us i).fz++(us i).hs.map (·.1))).reverse++lg)) ∨
    (m<ops.size∧gd (vO ops) (ops.getD m default) (st m).1=some true∧XAt P (ops.getD m default) (eP P (vO ops) (ops.toList.drop (m+1)) K) (st m).1 (st m).2 (((List.range' b (m-b)).map fun i=>(rd i,(us i).fz++(us i).hs.map (·.1))).reverse++lg)))
 | [],b,f,H,lg,_,hb,h=>by
  simp only[List.length_nil,Nat.add_zero]at hb;refine⟨b,fun _=>(f,H),fun _=>uO,fun _=>[],Nat.le_refl _,by omega,rfl,fun i h1 h2=>by omega,fun i h1 h2=>by omega,fun i h1 h2=>by omega,.inl ⟨hb,by simpa [eP] using h⟩⟩
 | o::rest,b,f,H,lg,hi,hb,h=>by
  have ho:ops.getD b default=o:=Pj (by simpa using hi 0);have hrest:∀ i,rest[i]?=ops[b+1+i]?:=fun i=>by have:=hi (i+1);simpa [Nat.add_assoc,Nat.add_comm 1 i] using this
  simp only[List.length_cons]at hb;rcases SX h with ⟨u,r,h1,h2,h3⟩|⟨h1,h2⟩|⟨Z,⟨x,H2,hz⟩,_,hk⟩
  rotate_right
  ·exfalso
   obtain⟨f',H',mid,_,h2⟩:=nC rest _ _ _ (hk x H2 hz);have:=hno _ _ _ h2;simp at this
  ·obtain⟨m,st,us,rd,a0,a0',a1,a2,a3,a4,a5⟩:=PX hno rest (b+1) _ _ _ hrest (by omega) h3;have b1i:(((List.range' b (m-b)).map fun i=>(if i=b then r else rd i,(if i=b then u else us i).fz++(if i=b then u else us i).hs.map (·.1))).reverse++lg)=(((List.range' (b+1) (m-(b+1))).map fun i=>(rd i,(us i).fz++(us i).hs.map (·.1))).reverse++((r,u.fz++u.hs.map (·.1))::lg)):=by
    rw[show m-b=(m-(b+1))+1 from by omega,List.range'_succ];simp only[List.map_cons,List.reverse_cons,List.append_assoc,if_true,List.singleton_append]
    congr 2
    apply List.map_congr_left;intro i him;have:=List.mem_range'_1.1 him;simp[show i≠b from by omega]
   refine⟨m,fun i=>if i=b then (f,H) else st i,fun i=>if i=b then u else us i,fun i=>if i=b then r else rd i,by omega,a0',by simp,fun i h4 h5=>?_,fun i h4 h5=>?_,fun i h4 h5=>?_,?_⟩
   ·by_cases hib:i=b
    ·subst hib;simp[ho,a1]
    ·have:=a2 i (by omega) h5;simp only[hib,if_false,show i+1≠b from by omega];exact this
   ·by_cases hib:i=b
    ·subst hib;simpa [ho] using h1
    ·simp only[hib,if_false];exact a3 i (by omega) h5
   ·by_cases hib:i=b
    ·subst hib;simpa using h2
    ·simp only[hib,if_false];exact a4 i (by omega) h5
   ·simp only[show m≠b from by omega,if_false];rw[b1i];exact a5
  ·refine⟨b,fun _=>(f,H),fun _=>uO,fun _=>[],Nat.le_refl _,by omega,rfl,fun i h1 h2=>by omega,fun i h1 h2=>by omega,fun i h1 h2=>by omega,.inr ⟨by omega,?_,?_⟩⟩
   ·rw[ho];exact h1
   ·rw[ho];have hd:ops.toList.drop (b+1)=rest:=by
     apply List.ext_getElem?;intro i;rw[List.getElem?_drop,Array.getElem?_toList,hrest i]
    rw[hd];simpa using h2
def fS (st:Nat→Fr×Hp)(us:Nat→Up)(ds:Nat→Option Nat)(S:Nat→Bool):Nat→Fr×Hp
 | 0=>st 0
 | k+1=>if S k then ((us k).f (ds k) (fS st us ds S k).1,(us k).h (fS st us ds S k).2) else fS st us ds S k
theorem ru {d:Option Nat}{v:AV}{t:Nat}(h:d≠some t)(f:Fr):ji f d v t=f t:=by
 cases d with
 | none=>rfl
 | some d=>simp only[ji,upd];rw[if_neg (fun e=>h (by rw[e]))]
theorem qZ {d:Option Nat}{v:AV}{t:Nat}(h:d=some t)(f:Fr):ji f d v t=v:=by
 subst h;simp[ji,upd]
theorem A8:∀ (l:List (Nat×HC)) (H:Hp) (k:Nat),k∉l.map (·.1)→bU l H k=H k
 | [],_,_,_=>rfl
 | (h,c)::r,H,k,hk=>by
  simp only[List.map_cons,List.mem_cons,not_or]at hk;simp only[bU];rw[A8 r _ k hk.2,ak _ _ hk.1]
theorem Aa:∀ (l:List (Nat×HC)) (H H2:Hp) (k:Nat),H2 k=H k→bU l H2 k=bU l H k
 | [],_,_,_,h=>h
 | (h,c)::r,H,H2,k,e=>by
  simp only[bU];refine Aa r _ _ k ?_;by_cases hk:k=h
  ·subst hk;simp[au]
  ·simp[ak _ _ hk,e]
theorem Up.vK {u:Up}{k:Nat}(hk:k∉u.fz++u.hs.map (·.1))(H:Hp):u.h H k=H k:=by
 simp only[List.mem_append,not_or]at hk;simp only[Up.h];rw[A8 _ _ _ hk.2,l9 _ _ _ hk.1]
theorem Up.Ph {u:Up}{k:Nat}{H H2:Hp}(e:H2 k=H k):u.h H2 k=u.h H k:=Aa _ _ _ _ (LW _ _ _ _ e)
theorem DL {st:Nat→Fr×Hp}{us:Nat→Up}{ds:Nat→Option Nat}{n:Nat}(hst:∀ i,i<n→st (i+1)=((us i).f (ds i) (st i).1,(us i).h (st i).2)){S:Nat→Bool}{t:Nat}{j:Nat}(hj:j≤n)
  (h:∀ i,i<n→ds i=some t→(i<j→S i=true)∧(j≤i→S i=false)):(fS st us ds S n).1 t=(st j).1 t:=by
 have h1:∀ k,k≤j→(fS st us ds S k).1 t=(st k).1 t:=by
  intro k
  induction k with
  | zero=>intro _;rfl
  | succ k ih =>
   intro hk;have ih:=ih (by omega);rw[hst k (by omega)];simp only[fS];by_cases hd:ds k=some t
   ·have:=(h k (by omega) hd).1 (by omega);rw[this];simp only[if_true,Up.f,qZ hd]
   ·simp only[Up.f,ru hd];split
    ·simp only[ru hd];exact ih
    ·exact ih
 have h2:∀ m,j+m≤n→(fS st us ds S (j+m)).1 t=(fS st us ds S j).1 t:=by
  intro m
  induction m with
  | zero=>intro _;rfl
  | succ m ih =>
   intro hm;have ih:=ih (by omega);rw[← Nat.add_assoc];simp only[fS];by_cases hd:ds (j+m)=some t
   ·have:=(h (j+m) (by omega) hd).2 (by omega);rw[this];simpa using ih
   ·split
    ·simp only[Up.f,ru hd];exact ih
    ·exact ih
 have:=h2 (n-j) (by omega);rw[show j+(n-j)=n from by omega]at this;rw[this,h1 j (Nat.le_refl _)]
theorem Dv {st:Nat→Fr×Hp}{us:Nat→Up}{ds:Nat→Option Nat}{n:Nat}(hst:∀ i,i<n→st (i+1)=((us i).f (ds i) (st i).1,(us i).h (st i).2)){S:Nat→Bool}{t:Nat}{j:Nat}(hj:j≤n)
  (h:∀ i,i<n→t∈(us i).fz++(us i).hs.map (·.1)→(i<j→S i=true)∧(j≤i→S i=false)):(fS st us ds S n).2 t=(st j).2 t:=by
 have h1:∀ k,k≤j→(fS st us ds S k).2 t=(st k).2 t:=by
  intro k
  induction k with
  | zero=>intro _;rfl
  | succ k ih =>
   intro hk;have ih:=ih (by omega);rw[hst k (by omega)];simp only[fS];by_cases hd:t∈(us k).fz++(us k).hs.map (·.1)
   ·have:=(h k (by omega) hd).1 (by omega);rw[this];simp only[if_true];exact Up.Ph ih
   ·simp only[Up.vK hd];split
    ·simp only[Up.vK hd];exact ih
    ·exact ih
 have h2:∀ m,j+m≤n→(fS st us ds S (j+m)).2 t=(fS st us ds S j).2 t:=by
  intro m
  induction m with
  | zero=>intro _;rfl
  | succ m ih =>
   intro hm;have ih:=ih (by omega);rw[← Nat.add_assoc];simp only[fS];by_cases hd:t∈(us (j+m)).fz++(us (j+m)).hs.map (·.1)
   ·have:=(h (j+m) (by omega) hd).2 (by omega);rw[this];simpa using ih
   ·split
    ·simp only[Up.vK hd];exact ih
    ·exact ih
 have:=h2 (n-j) (by omega);rw[show j+(n-j)=n from by omega]at this;rw[this,h1 j (Nat.le_refl _)]
theorem a7j {st:Nat→Fr×Hp}{us:Nat→Up}{ds:Nat→Option Nat}{n:Nat}{S S':Nat→Bool}{j:Nat}(hj:j<n)(hS:S j=false)(hS':S' j=true)(ho:∀ i,i≠j→S' i=S i)
  (hd:∀ t,ds j=some t→∀ i,i<n→j<i→ds i=some t→S i=false) (hh:∀ t,t∈(us j).fz++(us j).hs.map (·.1)→∀ i,i<n→j<i→t∈(us i).fz++(us i).hs.map (·.1)→S i=false)  :
  (fS st us ds S' n).1=(us j).f (ds j) (fS st us ds S n).1∧(fS st us ds S' n).2=(us j).h (fS st us ds S n).2:=by
 have h0:∀ k,k≤j→fS st us ds S' k=fS st us ds S k:=by
  intro k
  induction k with
  | zero=>intro _;rfl
  | succ k ih =>
   intro hk;simp only[fS,ho k (by omega),ih (by omega)]
 have h1:∀ m,j+1+m≤n→(fS st us ds S' (j+1+m)).1=(us j).f (ds j) (fS st us ds S (j+1+m)).1∧(fS st us ds S' (j+1+m)).2=(us j).h (fS st us ds S (j+1+m)).2:=by
  intro m
  induction m with
  | zero =>
   intro _;simp only[fS,hS,hS',if_true,Bool.false_eq_true,if_false,h0 j (Nat.le_refl _),and_self]
  | succ m ih =>
   intro hm;obtain⟨ih1,ih2⟩:=ih (by omega);rw[← Nat.add_assoc];simp only[fS,ho (j+1+m) (by omega)];split
   ·rename_i hSi;refine⟨?_,?_⟩
    ·simp only[ih1]
     funext t
     simp only[Up.f];by_cases e1:ds (j+1+m)=some t
     ·by_cases e2:ds j=some t
      ·have:=hd t e2 _ (by omega) (by omega) e1;rw[this]at hSi;cases hSi
      ·rw[qZ e1,ru e2,qZ e1]
     ·rw[ru e1];by_cases e2:ds j=some t
      ·rw[qZ e2,qZ e2]
      ·rw[ru e2,ru e2,ru e1]
    ·simp only[ih2]
     funext t
     by_cases e1:t∈(us (j+1+m)).fz++(us (j+1+m)).hs.map (·.1)
     ·by_cases e2:t∈(us j).fz++(us j).hs.map (·.1)
      ·have:=hh t e2 _ (by omega) (by omega) e1;rw[this]at hSi;cases hSi
      ·rw[Up.vK e2];exact Up.Ph (Up.vK e2 _)
     ·rw[Up.vK e1];exact(Up.Ph (Up.vK e1 _)).symm
   ·exact⟨ih1,ih2⟩
 have:=h1 (n-(j+1)) (by omega);rwa [show j+1+(n-(j+1))=n from by omega]at this
theorem a1o {ds:List (Option Nat)}{o:Oper}{f f2:Fr}(h:∀ j want t,o.guard=some (j,want)→ds.getD j none=some t→f2 t=f t):gd ds o f2=gd ds o f:=by
 unfold gd;cases hg:o.guard with
 | none=>rfl
 | some p =>
  obtain⟨j,want⟩:=p;simp only;cases hd:ds.getD j none with
  | none=>rfl
  | some t=>simp only[Option.map_some,h j want t hg hd]
theorem Dy (R:Rel G M w0 D0 N f H β a w){ops:Array Oper}{o:Oper}{b:Bool}(h:gd (vO ops) o f=some b):Region.wanted o (yielded ops a.tmps)=b:=by
 unfold gd at h;unfold Region.wanted;cases hg:o.guard with
 | none=>rw[hg]at h;simp only[Option.some.injEq]at h;exact h
 | some p =>
  obtain⟨j,want⟩:=p;rw[hg]at h;simp only at h ⊢;have hy:=yj R (ops:=ops) (j:=j);split at h
  ·rename_i b' hb;rw[hy.1 b' hb];simp only[Option.some.injEq]at h;rw[← h];rfl
  ·rename_i hb;rw[hy.2 hb];simp only[Option.some.injEq]at h;rw[← h];rfl
  ·cases h
theorem Iq {ops:Array Oper}{o:Oper}{j:Nat}{want:Bool}{t:Nat}(hg:o.guard=some (j,want))(hd:(vO ops).getD j none=some t):t∈Oper.looksAt ops o:=by
 have e:(vO ops).getD j none=(ops[j]?).bind (·.dst):=by
  simp only[vO,List.getD,List.getElem?_map,Array.getElem?_toList];cases ops[j]?<;>rfl
 rw[e]at hd;simp[Oper.looksAt,hg,hd]
theorem Dh {ops:Array Oper}{o:Oper}{t:Nat}(h:Operand.tmp t∈o.op.operands):t∈Oper.looksAt ops o:=by
 simp only[Oper.looksAt,List.mem_append]
 left
 exact List.mem_filterMap.2 ⟨.tmp t,Array.mem_toList_iff.2 h,rfl⟩
theorem rQ {ops:Array Oper}{i j t:Nat}(h:((ops.getD i default).dst=some t∧((ops.getD j default).dst=some t∨t∈Oper.looksAt ops (ops.getD j default)))∨((ops.getD j default).dst=some t∧t∈Oper.looksAt ops (ops.getD i default))):wQ ops i j=true:=by
 unfold wQ;rcases h with ⟨h1,h2⟩|⟨h1,h2⟩
 ·rw[h1];simp only[Bool.or_eq_true]
  left
  rcases h2 with h2|h2
  ·left;rw[h2];exact beq_self_eq_true _
  ·right;simpa using h2
 ·simp only[Bool.or_eq_true]
  right
  rw[h1];simpa using h2
theorem J5 {x y:List Nat×List Nat}{k:Nat}(h:(k∈x.2∧(k∈y.1∨k∈y.2))∨(k∈y.2∧(k∈x.1∨k∈x.2))):clash x y=true:=by
 unfold clash;simp only[Bool.or_eq_true,List.any_eq_true,List.contains_eq_mem,decide_eq_true_eq];rcases h with ⟨h1,h2⟩|⟨h1,h2⟩
 ·left;exact⟨k,h1,h2⟩
 ·right;exact⟨k,h1,h2⟩
theorem S9 {st st':Nat→Fr×Hp}{us us':Nat→Up}{ds:Nat→Option Nat}{S S':Nat→Bool}(h0:st' 0=st 0):∀ (k:Nat),(∀ i,i<k→S' i=S i∧us' i=us i)→fS st' us' ds S' k=fS st us ds S k
 | 0,_=>h0
 | k+1,h=>by
  have ih:=S9 (ds:=ds) h0 k fun i hi=>h i (by omega)
  simp only[fS,ih,(h k (by omega)).1,(h k (by omega)).2]
theorem Pv {st:Nat→Fr×Hp}{us:Nat→Up}{ds:Nat→Option Nat}{S:Nat→Bool}{m:Nat}:∀ (k:Nat),(∀ i,m≤i→i<m+k→S i=false)→fS st us ds S (m+k)=fS st us ds S m
 | 0,_=>rfl
 | k+1,h=>by
  have ih:=Pv (st:=st) (us:=us) (ds:=ds) (S:=S) (m:=m) k fun i h1 h2=>h i h1 (by omega)
  rw[← Nat.add_assoc];simp only[fS,h (m+k) (by omega) (by omega),Bool.false_eq_true,if_false,ih]
def qU (us:Nat→Up)(rd:Nat→List Nat)(m:Nat):Log:=((List.range' 0 m).map fun i=>(rd i,(us i).fz++(us i).hs.map (·.1))).reverse
theorem yQ (us:Nat→Up)(rd:Nat→List Nat){m i:Nat}(hi:i<m)(l:Log):((qU us rd m).reverse++l).getD i ([],[])=(rd i,(us i).fz++(us i).hs.map (·.1)):=by
 have:i<((List.range' 0 m).map fun i=>(rd i,(us i).fz++(us i).hs.map (·.1))).length:=by simpa using hi
 rw[qU,List.reverse_reverse,List.getD_eq_getElem?_getD,List.getElem?_append_left this];simp[hi]
theorem Ls (us:Nat→Up)(rd:Nat→List Nat){m:Nat}(e:List Nat×List Nat)(l:Log):((qU us rd m).reverse++e::l).getD m ([],[])=e:=by
 have:((qU us rd m).reverse).length=m:=by simp[qU]
 simp[List.getD,this]
structure a9j [Zi] (P:Program) (ops:Array Oper) (K:Fr→Hp→Log→Prop) (S:Nat→Bool) (m:Nat) (st:Nat→Fr×Hp) (us:Nat→Up) (rd:Nat→List Nat):Prop where
 le:m≤ops.size
 next:∀ i,i<m→st (i+1)=((us i).f (ops.getD i default).dst (st i).1,(us i).h (st i).2)
 step:∀ i,i<m→S i=false→(gd (vO ops) (ops.getD i default) (st i).1=some true∧Sim P (ops.getD i default) (st i).1 (st i).2 (rd i) (us i))∨(gd (vO ops) (ops.getD i default) (st i).1=some false∧us i=uO)
 wr:∀ i,i<m→∀ k∈(us i).fz++(us i).hs.map (·.1),k∈rd i
 cont:(m=ops.size∧K (st m).1 (st m).2 (qU us rd m)) ∨
  (m<ops.size∧gd (vO ops) (ops.getD m default) (st m).1=some true∧XAt P (ops.getD m default) (eP P (vO ops) (ops.toList.drop (m+1)) K) (st m).1 (st m).2 (qU us rd m))
theorem SY {ro:Option Nat}{ops:Array Oper}{K:Fr→Hp→Log→Prop}{Q:Exit→Act→World→Prop}(hdN:∀ i,i<ops.size→∀ d,(ops.getD i default).dst=some d→d<N)
  (hK:∀ f H lg,K f H lg→EM ops lg.reverse=true∧∀ β a w,Rel G M w0 D0 N f H β a w→Q .normal a w) (ht:Fg ops=true) (h:eP P (vO ops) ops.toList K f H []) (R:Rel G M w0 D0 N f H β a w) :
  wpAnyIn (Wd ro) 0 P .any ops Q ops.size (Array.replicate ops.size false) a w:=by
 have hno:∀ f H lg,K f H lg→(lg.all fun e=>!e.2.contains 998)=true:=by
  intro f H lg hk;have:=(hK f H lg hk).1;simp only[EM,Bool.and_eq_true,List.all_reverse]at this;exact this.2
 simp only[Fg,Bool.and_eq_true]at ht;obtain⟨ht1,ht2⟩:=ht;have a8Y:∀ i,i<ops.size→∀ e∈(ops.getD i default).after.toList,Region.binds .any e=true→e.on<i:=by
  intro i hi e he hb;have:=(List.all_eq_true.1 ht2) i (List.mem_range.2 hi);have:=(List.all_eq_true.1 this) e he;simpa [hb] using this
 have nm:∀ i j,i<j→j<ops.size→wQ ops i j=true→reach ops 16 j i=true:=by
  intro i j hij hj hc;have:=nY ht1 hij hj;simpa [hc] using this
 let ds:Nat→Option Nat:=fun i=>(ops.getD i default).dst
 -- a log's word
 have logs:∀ (m:Nat) (us:Nat→Up) (rd:Nat→List Nat) (l:Log),m≤ops.size→EM ops ((qU us rd m).reverse++l)=true →
   ∀ i j,i<j→j<m→clash (rd i,(us i).fz++(us i).hs.map (·.1)) (rd j,(us j).fz++(us j).hs.map (·.1))=true→reach ops 16 j i=true:=by
  intro m us rd l hm hl i j hij hj hc;simp only[EM,Bool.and_eq_true]at hl;have:=nY hl.1.1 hij (by omega);rw[yQ us rd (by omega),yQ us rd hj]at this;simpa [hc] using this
 have key:∀ (fuel:Nat) (listed:Array Bool) (a:Act) (w:World) (β:Nat→Value) (m:Nat) (st:Nat→Fr×Hp) (us:Nat→Up) (rd:Nat→List Nat),listed.size=ops.size→((List.range ops.size).filter fun i=>!listed.getD i false).length=fuel →
   Qm ops (fun i=>listed.getD i false)→(∀ i,listed.getD i false=true→i<m)→a9j P ops K (fun i=>listed.getD i false) m st us rd→Rel G M w0 D0 N (fS st us ds (fun i=>listed.getD i false) m).1 (fS st us ds (fun i=>listed.getD i false) m).2 β a w →
   wpAnyIn (Wd ro) 0 P .any ops Q fuel listed a w:=by
  intro fuel
  induction fuel with
  | zero =>
   intro listed a w β m st us rd hsz hcount hcl hlm T R;have hall:∀ i,i<ops.size→listed.getD i false=true:=by
    intro i hi;have h0:=List.eq_nil_of_length_eq_zero hcount;have:=List.filter_eq_nil_iff.1 h0 i (List.mem_range.2 hi);simpa using this
   have XC:Region.ready .any ops listed=[]:=by
    unfold Region.ready;rw[List.filter_eq_nil_iff];intro i hi;have hi:=List.mem_range.1 hi;have:listed.getD i true=true:=by
     have:=hall i hi;simp only[Array.getD_eq_getD_getElem?]at this ⊢;rw[Array.getElem?_eq_getElem (by omega)]at this ⊢;simpa using this
    simp only[this,Bool.not_true,Bool.false_and];simp
   have e1:(fS st us ds (fun i=>listed.getD i false) m).1=(st m).1:=by
    funext t
    exact DL (fun i hi=>T.next i hi) (Nat.le_refl _) fun i hi _=>⟨fun _=>hall i (by have:=T.le;omega),fun h=>by omega⟩
   have e2:(fS st us ds (fun i=>listed.getD i false) m).2=(st m).2:=by
    funext t
    exact Dv (fun i hi=>T.next i hi) (Nat.le_refl _) fun i hi _=>⟨fun _=>hall i (by have:=T.le;omega),fun h=>by omega⟩
   rw[e1,e2]at R;rcases T.cont with ⟨_,hk⟩|⟨hm,_⟩
   ·exact⟨XC,(hK _ _ _ hk).2 β a w R⟩
   ·have:=hlm m (hall m hm);omega
  | succ fuel ih =>
   intro listed a w β m st us rd hsz hcount hcl hlm T R;have hmn:=T.le;refine⟨fun XC=>?_,fun j hj=>?_⟩
   ·exfalso
    have hex:∃ i,i<ops.size∧listed.getD i false=false:=by
     have:((List.range ops.size).filter fun i=>!listed.getD i false)≠[]:=by intro e;rw[e]at hcount;simp at hcount
     obtain⟨i,hi⟩:=List.exists_mem_of_ne_nil _ this;have:=List.mem_filter.1 hi;exact⟨i,List.mem_range.1 this.1,by simpa using this.2⟩
    have a7e:∀ n,∀ i,i<n→i<ops.size→listed.getD i false=false→False:=by
     intro n
     induction n with
     | zero=>intro i hi;omega
     | succ n ihn =>
      intro i hi hio hl;by_cases a9J:∃ k,k<i∧listed.getD k false=false
      ·obtain⟨k,hk,hkl⟩:=a9J;exact ihn k (by omega) (by omega) hkl
      ·have hall:∀ k,k<i→listed.getD k false=true:=by
        intro k hk;by_cases hkl:listed.getD k false=true
        ·exact hkl
        ·exact(a9J ⟨k,hk,by simpa using hkl⟩).elim
       have hmem:i∈Region.ready .any ops listed:=by
        unfold Region.ready;rw[List.mem_filter];refine⟨List.mem_range.2 hio,?_⟩;have h1:listed.getD i true=false:=by
         simp only[Array.getD_eq_getD_getElem?]at hl ⊢;rw[Array.getElem?_eq_getElem (by omega)]at hl ⊢;simpa using hl
        have h2:ops[i]?=some (ops.getD i default):=by simp[Array.getD_eq_getD_getElem?,hio]
        simp only[h1,h2,Option.map_some,Option.getD_some,Bool.not_false,Bool.true_and];rw[Array.all_eq_true_iff_forall_mem];intro e he;by_cases hb:Region.binds .any e=true
        ·have:=hall e.on (a8Y i hio e (Array.mem_toList_iff.2 he) hb);simp[this]
        ·simp[hb]
       rw[XC]at hmem;cases hmem
    obtain⟨i,hi,hl⟩:=hex;exact a7e (i+1) i (by omega) hi hl
   ·-- operation j may come up now
    unfold Region.ready at hj;rw[List.mem_filter]at hj;obtain⟨hjr,hj2⟩:=hj;have hjn:=List.mem_range.1 hjr;have hoj:ops[j]?=some (ops.getD j default):=by simp[Array.getD_eq_getD_getElem?,hjn]
    simp only[hoj,Option.map_some,Option.getD_some,Bool.and_eq_true,Bool.not_eq_true']at hj2;obtain⟨a4Z,hpre⟩:=hj2;have hjl:listed.getD j false=false:=by
     simp only[Array.getD_eq_getD_getElem?]at a4Z ⊢;rw[Array.getElem?_eq_getElem (by omega)]at a4Z ⊢;simpa using a4Z
    have hpre':∀ e∈(ops.getD j default).after.toList,Region.binds .any e=true→listed.getD e.on false=true:=by
     intro e he hb;rw[Array.all_eq_true_iff_forall_mem]at hpre;have:=hpre e (Array.mem_toList_iff.1 he);simpa [hb] using this
    have before:∀ i,reach ops 16 j i=true→listed.getD i false=true:=fun i hr=>rG hcl 16 j i hr hpre'
    have behind:∀ i,reach ops 16 i j=true→listed.getD i false=false:=by
     intro i hr;by_cases hl:listed.getD i false=true
     ·have:=rG hcl 16 i j hr (hcl i hl);rw[hjl]at this;cases this
     ·simpa using hl
    have hlist:∀ i,(listed.setIfInBounds j true).getD i false=if i=j then true else listed.getD i false:=by
     intro i;simp only[Array.getD_eq_getD_getElem?,Array.getElem?_setIfInBounds];by_cases hij:j=i
     ·subst hij;simp[show j<listed.size from by omega]
     ·simp[hij,Ne.symm hij]
    have XI:((List.range ops.size).filter fun i=>!(listed.setIfInBounds j true).getD i false).length=fuel:=by
     have hc:((List.range ops.size).filter fun i=>!(listed.setIfInBounds j true).getD i false)=(((List.range ops.size).filter fun i=>!listed.getD i false).filter fun i=>decide (i≠j)):=by
      rw[List.filter_filter];apply List.filter_congr;intro i hi;rw[hlist];by_cases hij:i=j<;>simp[hij]
     rw[hc];have hnd:((List.range ops.size).filter fun i=>!listed.getD i false).Nodup:=List.nodup_range.filter _;have hjm:j∈((List.range ops.size).filter fun i=>!listed.getD i false):=List.mem_filter.2 ⟨hjr,by simp[hjl]⟩;have e:(((List.range ops.size).filter fun i=>!listed.getD i false).filter fun i=>decide (i≠j))=((List.range ops.size).filter fun i=>!listed.getD i false).erase j:=by
      rw[hnd.erase_eq_filter];apply List.filter_congr;intro i _;by_cases hij:i=j<;>simp[hij]
     rw[e,List.length_erase_of_mem hjm,hcount];rfl
    have hcl':Qm ops (fun i=>(listed.setIfInBounds j true).getD i false):=by
     intro i hi e he hb;simp only[hlist]at hi ⊢;by_cases hej:e.on=j
     ·simp[hej]
     ·simp only[hej,if_false];by_cases hij:i=j
      ·subst hij;exact hpre' e he hb
      ·simp only[hij,if_false]at hi;exact hcl i hi e he hb
    have hgd:∀ f1:Fr,(∀ t,t∈Oper.looksAt ops (ops.getD j default)→(fS st us ds (fun i=>listed.getD i false) m).1 t=f1 t)→gd (vO ops) (ops.getD j default) (fS st us ds (fun i=>listed.getD i false) m).1=gd (vO ops) (ops.getD j default) f1:=fun f1 hf =>
     a1o (ds:=vO ops) (o:=ops.getD j default) (f:=f1) (f2:=(fS st us ds (fun i=>listed.getD i false) m).1) (fun k want t hg hd=>hf t (Iq hg hd))
    unfold wpOpIn;simp only[hoj];rcases Nat.lt_trichotomy j m with hjm|hjm|hjm
    ·-- an operation before the next such call
     have lk:∀ i k,i<k→k<m→clash (rd i,(us i).fz++(us i).hs.map (·.1)) (rd k,(us k).fz++(us k).hs.map (·.1))=true→reach ops 16 k i=true:=by
      rcases T.cont with ⟨_,hk⟩|⟨hm,_,rd0,R0,hne,_,hk⟩
      ·exact logs m us rd [] hmn (by simpa using (hK _ _ _ hk).1)
      ·obtain⟨u,hu⟩:=hne;obtain⟨f',H',mid,_,h2⟩:=nC _ _ _ _ (hk u hu).2.2;have h3:=(hK _ _ _ h2).1;rw[List.reverse_append,List.reverse_cons,List.append_assoc]at h3;exact logs m us rd _ hmn h3
     have a2R:∀ t,((ops.getD j default).dst=some t∨t∈Oper.looksAt ops (ops.getD j default))→(∀ i,i<m→i≠j→ds i=some t→(i<j→listed.getD i false=true)∧(j<i→listed.getD i false=false)):=by
      intro t ht i hi hij hdi;refine⟨fun h=>before i (nm i j h hjn (rQ (.inl ⟨hdi,ht⟩))),fun h=>behind i (nm j i h (by omega) (rQ (t:=t) ?_))⟩;rcases ht with ht|ht
      ·exact .inl ⟨ht,.inl hdi⟩
      ·exact .inr ⟨hdi,ht⟩
     have a2S:∀ k,k∈rd j→(∀ i,i<m→i≠j→k∈(us i).fz++(us i).hs.map (·.1)→(i<j→listed.getD i false=true)∧(j<i→listed.getD i false=false)):=by
      intro k hk i hi hij hki;exact⟨fun h=>before i (lk i j h hjm (J5 (.inl ⟨hki,.inl hk⟩))),fun h=>behind i (lk j i h hi (J5 (.inr ⟨hki,.inl hk⟩)))⟩
     have Gi:∀ t,t∈Oper.looksAt ops (ops.getD j default)→(fS st us ds (fun i=>listed.getD i false) m).1 t=(st j).1 t:=by
      intro t ht;refine DL (fun i hi=>T.next i hi) (by omega) fun i hi hdi=>?_;by_cases hij:i=j
      ·subst hij;exact⟨fun h=>by omega,fun _=>hjl⟩
      ·have:=a2R t (.inr ht) i hi hij hdi;exact⟨this.1,fun h=>this.2 (by omega)⟩
     have XK:∀ k,k∈rd j→(fS st us ds (fun i=>listed.getD i false) m).2 k=(st j).2 k:=by
      intro k hk;refine Dv (fun i hi=>T.next i hi) (by omega) fun i hi hdi=>?_;by_cases hij:i=j
      ·subst hij;exact⟨fun h=>by omega,fun _=>hjl⟩
      ·have:=a2S k hk i hi hij hdi;exact⟨this.1,fun h=>this.2 (by omega)⟩
     have fin:∀ a' w' β',Rel G M w0 D0 N ((us j).f (ops.getD j default).dst (fS st us ds (fun i=>listed.getD i false) m).1) ((us j).h (fS st us ds (fun i=>listed.getD i false) m).2) β' a' w'→wpAnyIn (Wd ro) 0 P .any ops Q fuel (listed.setIfInBounds j true) a' w':=by
      intro a' w' β' R';have hadd:=a7j (st:=st) (us:=us) (ds:=ds) (n:=m) (S:=fun i=>listed.getD i false) (S':=fun i=>(listed.setIfInBounds j true).getD i false) (j:=j) hjm hjl (by simp only[hlist,if_true]) (fun i hi=>by simp only[hlist,hi,if_false])
       (fun t ht i hi hij hdi=>(a2R t (.inl ht) i hi (by omega) hdi).2 hij)
       (fun k hk i hi hij hki=>(a2S k (T.wr j hjm k hk) i hi (by omega) hki).2 hij)
      refine ih _ a' w' β' m st us rd (by simp[hsz]) XI hcl' (fun i hi=>?_) ⟨T.le,T.next,fun i hi hs=>?_,T.wr,T.cont⟩ ?_
      ·rw[hlist]at hi;by_cases hij:i=j
       ·omega
       ·simp only[hij,if_false]at hi;exact hlm i hi
      ·simp only[hlist]at hs;by_cases hij:i=j
       ·simp[hij]at hs
       ·simp only[hij,if_false]at hs;exact T.step i hi hs
      ·rw[hadd.1,hadd.2];exact R'
     rcases T.step j hjm hjl with ⟨hg,a7T⟩|⟨hg,a8R⟩
     ·rw[← hgd _ Gi]at hg;rw[Dy R hg];simp only[if_true];refine a7T _ _ ?_ XK G M w0 D0 N β a w (hdN j hjn) R _ _ (fun a' w' β' R'=>fin a' w' β' R') ro;intro x hx;cases x with
      | tmp t=>exact Gi t (Dh hx)
      | _=>rfl
     ·rw[← hgd _ Gi]at hg;rw[Dy R hg];simp only[Bool.false_eq_true,if_false];refine⟨fun _ _=>trivial,fin _ _ β ?_⟩;rw[a8R];exact R.skip (hdN j hjn)
    ·-- the call itself
     subst hjm;rcases T.cont with ⟨hm,_⟩|⟨hm,hg,rd0,R0,hne,a7T,hk⟩
     ·omega
     have lk:∀ i,i<j→(∃ k,k∈(us i).fz++(us i).hs.map (·.1)∧k∈rd0)→reach ops 16 j i=true:=by
      rintro i hi ⟨k,hk1,hk2⟩;obtain⟨u,hu⟩:=hne;obtain⟨f',H',mid,_,h2⟩:=nC _ _ _ _ (hk u hu).2.2;have h3:=(hK _ _ _ h2).1;rw[List.reverse_append,List.reverse_cons,List.append_assoc]at h3;simp only[EM,Bool.and_eq_true]at h3;have h4:=nY h3.1.1 hi hjn;rw[yQ us rd hi,List.singleton_append,Ls us rd]at h4;have:clash (rd i,(us i).fz++(us i).hs.map (·.1)) (rd0,u.fz++u.hs.map (·.1))=true:=J5 (.inl ⟨hk1,.inl hk2⟩);simpa [this] using h4
     have Gi:∀ t,t∈Oper.looksAt ops (ops.getD j default)→(fS st us ds (fun i=>listed.getD i false) j).1 t=(st j).1 t:=by
      intro t ht;refine DL (fun i hi=>T.next i hi) (Nat.le_refl _) fun i hi hdi=>⟨fun _=>before i (nm i j hi hjn (rQ (.inl ⟨hdi,.inr ht⟩))),fun h=>by omega⟩
     have XK:∀ k,k∈rd0→(fS st us ds (fun i=>listed.getD i false) j).2 k=(st j).2 k:=by
      intro k hk;refine Dv (fun i hi=>T.next i hi) (Nat.le_refl _) fun i hi hki=>⟨fun _=>before i (lk i hi ⟨k,hki,hk⟩),fun h=>by omega⟩
     rw[← hgd _ Gi]at hg;rw[Dy R hg];simp only[if_true];refine a7T _ _ ?_ XK G M w0 D0 N β a w (hdN j hjn) R _ _ (fun u a' w' β' hu R'=>?_) ro
     ·intro x hx;cases x with
      | tmp t=>exact Gi t (Dh hx)
      | _=>rfl
     ·have hk0:=hk;have hnext:=(hk u hu).2.2;obtain⟨m2,st2,us2,rd2,b0,b0',b1,b2,b3,b4,b5⟩:=PX hno (ops.toList.drop (j+1)) (j+1) _ _ _ (fun i=>by rw[List.getElem?_drop,Array.getElem?_toList]) (by simp;omega) hnext;have c1:∀ i,i<j→(if i<j then us i else if i=j then u else us2 i)=us i:=fun i hi=>by simp[hi]
      refine ih _ a' w' β' m2 (fun i=>if i≤j then st i else st2 i) (fun i=>if i<j then us i else if i=j then u else us2 i) (fun i=>if i<j then rd i else if i=j then rd0 else rd2 i) (by simp[hsz]) XI hcl' (fun i hi=>?_) ⟨b0',fun i hi=>?_,fun i hi hs=>?_,fun i hi k hk=>?_,?_⟩ ?_
      ·rw[hlist]at hi;by_cases hij:i=j
       ·omega
       ·simp only[hij,if_false]at hi;have:=hlm i hi;omega
      ·rcases Nat.lt_trichotomy i j with hij|hij|hij
       ·have e1:i≤j:=by omega
        have e2:i+1≤j:=by omega
        simp only[hij,e1,e2,if_true];exact T.next i hij
       ·subst hij;simp only[Nat.le_refl,Nat.lt_irrefl,if_true,if_false,show ¬(i+1≤i) from by omega,b1]
       ·simp only[show ¬(i≤j) from by omega,show ¬(i+1≤j) from by omega,show ¬(i<j) from by omega,show i≠j from by omega,if_false];exact b2 i (by omega) hi
      ·simp only[hlist]at hs;rcases Nat.lt_trichotomy i j with hij|hij|hij
       ·have e1:i≤j:=by omega
        simp only[show i≠j from by omega,if_false]at hs;simp only[hij,e1,if_true];exact T.step i hij hs
       ·simp[hij]at hs
       ·simp only[show ¬(i≤j) from by omega,show ¬(i<j) from by omega,show i≠j from by omega,if_false];exact b3 i (by omega) hi
      ·rcases Nat.lt_trichotomy i j with hij|hij|hij
       ·simp only[hij,if_true]at hk ⊢;exact T.wr i hij k hk
       ·subst hij;simp only[Nat.lt_irrefl,if_true,if_false]at hk ⊢;exact(hk0 u hu).1 k hk
       ·simp only[show ¬(i<j) from by omega,show i≠j from by omega,if_false]at hk ⊢;exact b4 i (by omega) hi k hk
      ·have e0:¬(m2≤j):=by omega
       have el:qU (fun i=>if i<j then us i else if i=j then u else us2 i) (fun i=>if i<j then rd i else if i=j then rd0 else rd2 i) m2=((List.range' (j+1) (m2-(j+1))).map fun i=>(rd2 i,(us2 i).fz++(us2 i).hs.map (·.1))).reverse++((rd0,u.fz++u.hs.map (·.1))::qU us rd j):=by
        unfold qU;have er:List.range' 0 m2=List.range' 0 j++(j::List.range' (j+1) (m2-(j+1))):=by
         have h1:List.range' 0 j++List.range' (0+j) (m2-j)=List.range' 0 m2:=by
          have:=List.range'_append_1 (s:=0) (m:=j) (n:=m2-j);rw[show j+(m2-j)=m2 from by omega]at this;exact this
         rw[← h1,Nat.zero_add,show m2-j=(m2-(j+1))+1 from by omega,List.range'_succ]
        rw[er,List.map_append,List.map_cons,List.reverse_append,List.reverse_cons,List.append_assoc,List.singleton_append];simp only[Nat.lt_irrefl,if_false,if_true]
        congr 2
        ·apply List.map_congr_left;intro i hi;have:=List.mem_range'_1.1 hi;simp[show ¬(i<j) from by omega,show i≠j from by omega]
        ·refine congrArg List.reverse ?_;refine List.map_congr_left fun i hi=>?_;have:=List.mem_range'_1.1 hi;simp[show i<j from by omega]
       rw[el];simp only[e0,if_false];exact b5
      ·have hs9:∀ i,j+1≤i→(listed.setIfInBounds j true).getD i false=false:=fun i hi=>by
        rw[hlist];simp only[show i≠j from by omega,if_false];by_cases hl:listed.getD i false=true
        ·have:=hlm i hl;omega
        ·simpa using hl
       have e1:=Pv (st:=fun i=>if i≤j then st i else st2 i) (us:=fun i=>if i<j then us i else if i=j then u else us2 i) (ds:=ds) (S:=fun i=>(listed.setIfInBounds j true).getD i false) (m:=j+1) (m2-(j+1)) (fun i h1 h2=>hs9 i h1);rw[show j+1+(m2-(j+1))=m2 from by omega]at e1;have e2:fS (fun i=>if i≤j then st i else st2 i) (fun i=>if i<j then us i else if i=j then u else us2 i) ds (fun i=>(listed.setIfInBounds j true).getD i false) j=fS st us ds (fun i=>listed.getD i false) j :=
        S9 (by simp) j fun i hi=>⟨by simp only[hlist,show i≠j from by omega,if_false],by simp[hi]⟩
       rw[e1];have e3:(fS (fun i=>if i≤j then st i else st2 i) (fun i=>if i<j then us i else if i=j then u else us2 i) ds (fun i=>(listed.setIfInBounds j true).getD i false) (j+1))=(u.f (ds j) (fS st us ds (fun i=>listed.getD i false) j).1,u.h (fS st us ds (fun i=>listed.getD i false) j).2):=by
        have e4:(listed.setIfInBounds j true).getD j false=true:=by rw[hlist];simp
        rw[fS,e2];simp only[e4,if_true,Nat.lt_irrefl,if_false]
       rw[e3];exact R'
    ·-- one behind it: it hangs on the call
     exfalso
     rcases T.cont with ⟨hm,_⟩|⟨hm,hg,rd0,R0,hne,a7T,hk⟩
     ·omega
     obtain⟨u,hu⟩:=hne;obtain⟨f',H',mid,_,h2⟩:=nC _ _ _ _ (hk u hu).2.2;have h3:=(hK _ _ _ h2).1;rw[List.reverse_append,List.reverse_cons,List.append_assoc]at h3;simp only[EM,Bool.and_eq_true]at h3;have h4:=nY h3.1.2 hjm hjn;rw[List.singleton_append,Ls us rd]at h4;have:(u.fz++u.hs.map (·.1)).contains 999=true:=List.contains_iff_mem.2 (hk u hu).2.1;rw[this]at h4;have:=hlm m (before m (by simpa using h4));omega
 obtain⟨m,st,us,rd,a0,a0',a1,a2,a3,a4,a5⟩:=PX hno ops.toList 0 f H [] (by simp) (by simp) h;have hnone:∀ i,(Array.replicate ops.size false).getD i false=false:=by
  intro i;by_cases hio:i<ops.size
  ·simp[Array.getD_eq_getD_getElem?,hio]
  ·simp[Array.getD_eq_getD_getElem?,hio]
 refine key ops.size _ a w β m st us rd (by simp) (by
  rw[List.filter_eq_self.2]
  ·simp
  ·intro i hi;simp[Array.getD_eq_getD_getElem?,List.mem_range.1 hi]) ?_ (fun i hi=>by rw[hnone]at hi;cases hi) ⟨a0',fun i hi=>a2 i (by omega) hi,fun i hi _=>a3 i (by omega) hi,fun i hi=>a4 i (by omega) hi,by simpa [qU] using a5⟩ ?_
 ·intro i hi;exact absurd hi (by show ¬((Array.replicate ops.size false).getD i false=true);rw[hnone];simp)
 ·have e1:=Pv (st:=st) (us:=us) (ds:=ds) (S:=fun i=>(Array.replicate ops.size false).getD i false) (m:=0) m (fun i _ _=>hnone i);rw[Nat.zero_add]at e1;rw[e1];simp only[fS,a1];exact R
def a2r (inv:List Nat)(o:Oper):Oper:=⟨o.dst,o.op,o.type,o.pos,o.after.map fun e=>⟨inv.getD e.on 0,e.ground⟩,none⟩
def kZ (ops:List Oper)(ord inv:List Nat):List Oper:=ord.map fun i=>a2r inv (ops.getD i default)
def KZ (ops:List Oper)(ord inv:List Nat):Bool :=
 ord.length == ops.length && inv.length == ops.length && ((List.range ops.length).all fun p=>decide (ord.getD p 0<ops.length) && decide (inv.getD p 0<ops.length) && inv.getD (ord.getD p 0) 0 == p && ord.getD (inv.getD p 0) 0 == p) &&
 ops.all fun o=>o.guard.isNone && o.after.toList.all fun e=>decide (e.on<ops.length)
theorem xk {α:Type}(l:List α)(d:α){i:Nat}(h:i<l.length):l[i]?=some (l.getD i d):=by
 rw[List.getD_eq_getElem?_getD,List.getElem?_eq_getElem h];rfl
theorem Tm {ro:Option Nat}{ops:List Oper}{ord inv:List Nat}{Q:Exit→Act→World→Prop}(h:KZ ops ord inv=true):∀ (fuel:Nat) (listed listed':Array Bool) (a:Act) (w:World),listed.size=ops.length→listed'.size=ops.length →
  (∀ p,p<ops.length→listed'.getD p false=listed.getD (ord.getD p 0) false)→wpAnyIn (Wd ro) 0 P .any (kZ ops ord inv).toArray Q fuel listed' a w→wpAnyIn (Wd ro) 0 P .any ops.toArray Q fuel listed a w:=by
 simp only[KZ,Bool.and_eq_true,beq_iff_eq,List.all_eq_true,List.mem_range,decide_eq_true_eq]at h;obtain⟨⟨⟨ho,hi⟩,hp⟩,hops⟩:=h;have op':∀ i,i<ops.length→(kZ ops ord inv).toArray[inv.getD i 0]?=some (a2r inv (ops.getD i default)):=by
  intro i hlt;have h1:=hp i hlt;have h2:inv.getD i 0<ord.length:=by omega
  have h3:ord[inv.getD i 0]?=some (ord.getD (inv.getD i 0) 0):=xk ord 0 h2;rw[List.getElem?_toArray,kZ,List.getElem?_map,h3,h1.2];rfl
 have op0:∀ i,i<ops.length→ops.toArray[i]?=some (ops.getD i default):=fun i hlt=>by
  rw[List.getElem?_toArray];exact xk ops default hlt
 have gt:∀ (l:Array Bool) (i:Nat),i<l.size→l.getD i true=l.getD i false:=fun l i hl=>by
  simp only[Array.getD_eq_getD_getElem?];rw[Array.getElem?_eq_getElem hl];rfl
 have rdy:∀ (listed listed':Array Bool),listed.size=ops.length→listed'.size=ops.length→(∀ p,p<ops.length→listed'.getD p false=listed.getD (ord.getD p 0) false) →
   ∀ i,i<ops.length→(i∈Region.ready .any ops.toArray listed↔inv.getD i 0∈Region.ready .any (kZ ops ord inv).toArray listed'):=by
  intro listed listed' hl hl' hll i hlt;have h1:=hp i hlt;have hsz:(kZ ops ord inv).toArray.size=ops.length:=by simp[kZ,ho]
  have e1:listed'.getD (inv.getD i 0) true=listed.getD i true:=by
   rw[gt _ _ (by omega),gt _ _ (by omega),hll _ (by omega),h1.2]
  have e2:((a2r inv (ops.getD i default)).after.all fun e=>!Region.binds .any e || listed'.getD e.on false)=((ops.getD i default).after.all fun e=>!Region.binds .any e || listed.getD e.on false):=by
   have hm:=(hops (ops.getD i default) (List.mem_of_getElem? (xk ops default hlt))).2;show ((ops.getD i default).after.map fun e=>(⟨inv.getD e.on 0,e.ground⟩:Edge)).all _=_;rw[Bool.eq_iff_iff,Array.all_eq_true_iff_forall_mem,Array.all_eq_true_iff_forall_mem];have key:∀ e∈(ops.getD i default).after,(!Region.binds .any (⟨inv.getD e.on 0,e.ground⟩:Edge) || listed'.getD (inv.getD e.on 0) false)=(!Region.binds .any e || listed.getD e.on false):=by
    intro e he;have hon:=hm e (Array.mem_toList_iff.2 he);have h2:=hp e.on hon;rw[hll _ (by omega),h2.2];rfl
   constructor
   ·intro h e he;rw[← key e he];exact h _ (Array.mem_map.2 ⟨e,he,rfl⟩)
   ·intro h e he;obtain⟨e0,he0,rfl⟩:=Array.mem_map.1 he;rw[key e0 he0];exact h e0 he0
  unfold Region.ready;rw[List.mem_filter,List.mem_filter,List.mem_range,List.mem_range,hsz,op' i hlt,op0 i hlt,e1];simp only[Option.map_some,Option.getD_some,e2,List.size_toArray,hlt,true_and,show inv.getD i 0<ops.length from h1.1.1.2]
 have rdl:∀ (listed:Array Bool) (i:Nat),i∈Region.ready .any ops.toArray listed→i<ops.length:=fun listed i hm=>by
  unfold Region.ready at hm;have:=(List.mem_filter.1 hm).1;simpa using this
 have a9u:∀ (listed listed':Array Bool),listed.size=ops.length→listed'.size=ops.length→(∀ p,p<ops.length→listed'.getD p false=listed.getD (ord.getD p 0) false)→(Region.ready .any ops.toArray listed=[]↔Region.ready .any (kZ ops ord inv).toArray listed'=[]):=by
  intro listed listed' hl hl' hll;have hr:=rdy listed listed' hl hl' hll;constructor
  ·intro he;refine List.eq_nil_iff_forall_not_mem.2 fun q hq=>?_;have b1e:q<ops.length:=by
    unfold Region.ready at hq;have:=(List.mem_filter.1 hq).1;simp[kZ,ho]at this;exact this
   have h1:=hp q b1e;have:=(hr (ord.getD q 0) (by omega)).2 (by rw[h1.1.2];exact hq);rw[he]at this;cases this
  ·intro he;refine List.eq_nil_iff_forall_not_mem.2 fun i hi=>?_;have:=(hr i (rdl _ i hi)).1 hi;rw[he]at this;cases this
 intro fuel
 induction fuel with
 | zero =>
  intro listed listed' a w hl hl' hll h;exact⟨(a9u listed listed' hl hl' hll).2 h.1,h.2⟩
 | succ fuel ih =>
  intro listed listed' a w hl hl' hll h;refine⟨fun he=>h.1 ((a9u listed listed' hl hl' hll).1 he),fun i hi=>?_⟩;have hlt:=rdl _ i hi;have h1:=hp i hlt;have h2:=h.2 _ ((rdy listed listed' hl hl' hll i hlt).1 hi);have h3:wpOpIn (Wd ro) 0 P (kZ ops ord inv).toArray Q (inv.getD i 0) (wpAnyIn (Wd ro) 0 P .any ops.toArray Q fuel (listed.setIfInBounds i true)) a w:=by
   refine wpOpIn_mono (fun a w hk=>ih _ _ a w (by simp[hl]) (by simp[hl']) (fun p hlp=>?_) hk) h2;have h4:=hp p hlp;have e1:∀ (l:Array Bool) (x y:Nat),x<l.size→(l.setIfInBounds x true).getD y false=if y=x then true else l.getD y false:=by
    intro l x y hx;simp only[Array.getD_eq_getD_getElem?,Array.getElem?_setIfInBounds];by_cases e:x=y
    ·subst e;simp[hx]
    ·simp[e,Ne.symm e]
   rw[e1 _ _ _ (by omega),e1 _ _ _ (by omega)];have e2:(p=inv.getD i 0)↔(ord.getD p 0=i):=by
    constructor
    ·intro e;rw[e];exact h1.2
    ·intro e;rw[← e];exact h4.1.2.symm
   by_cases e:p=inv.getD i 0
   ·rw[if_pos e,if_pos (e2.1 e)]
   ·rw[if_neg e,if_neg (fun h=>e (e2.2 h))];exact hll p hlp
  unfold wpOpIn at h3 ⊢;rw[op' i hlt]at h3;rw[op0 i hlt];simp only at h3 ⊢;have hg:(ops.getD i default).guard=none:=by
   have:=(hops (ops.getD i default) (List.mem_of_getElem? (xk ops default hlt))).1;simpa using this
  have hw:Region.wanted (ops.getD i default) (yielded ops.toArray a.tmps)=true:=by unfold Region.wanted;rw[hg]
  have hw':Region.wanted (a2r inv (ops.getD i default)) (yielded (kZ ops ord inv).toArray a.tmps)=true:=by unfold Region.wanted;rfl
  rw[hw',if_pos rfl]at h3;rw[hw,if_pos rfl];exact h3
end
end Go.AL

namespace Go.AL
variable {zi:Zi}
open Go.RowKit
set_option linter.unusedSimpArgs false
set_option linter.unusedVariables false
theorem a3U (ro:Option Nat)(n:Nat):(Wd ro).room n:=fun _ h=>by simp[Wd,Fence.wide]at h
section
variable {P:Program} {ro:Option Nat} {n n':Nat} {c:Code} {Q:Exit→Act→World→Prop} {a:Act} {w:World}
theorem a6k (h:c.wpIn (Wd ro) n P Q a w):c.wpIn (Wd ro) n' P Q a w:=fun b k cs h1 h2 _=>h b k cs h1 h2 (a3U _ _)
theorem J9 {fr:Frame}{cs:List Frame}:(lone fr cs w).fenced P (Wd ro):=fenced_wide P _
theorem vg (h:c.wpIn (Wd ro) n P (Exit.noGoto Q) a w):(Code.scope c).wpIn (Wd ro) n P Q a w:=by
 intro b k cs hro hb hr;have s1:step P (lone (b.atR a (.code (.scope c)::k)) cs w)=.next (lone (b.atR a (.code c::.inScope c::k)) cs w):=step_lone_go (by simp[stepG,stepG.exec,Frame.atR]);obtain⟨e,a₁,w₁,hq,harr⟩:=h b (.inScope c::k) cs hro hb hr;have s2:step P (lone (b.atR a₁ (.inScope c::k)) cs w₁)=.next (lone (b.atR a₁ k) cs w₁):=step_lone_go (by simp[stepG,stepG.exec,Frame.atR]);have f1:=StepsIn.one (I:=Machine.fenced P (Wd ro)) (J9 (P:=P) (ro:=ro) (w:=w)) s1;cases e with
 | normal=>exact⟨.normal,a₁,w₁,hq,f1.trans (StepsIn.trans harr (.one J9 s2))⟩
 | exit id =>
  have hx:exitTo id (.inScope c::k)=exitTo id k:=by simp[exitTo]
  exact⟨_,a₁,w₁,hq,fun k' hk=>f1.trans (harr.1 k' (by rw[hx];exact hk)),
   fun hr' hk=>let ⟨k₁,h1,h2⟩:=harr.2 hr' (by rw[hx];exact hk);⟨k₁,h1,f1.trans h2⟩⟩
 | goto l=>exact hq.elim
 | ret=>exact⟨_,a₁,w₁,hq,.of_steps f1 harr⟩
 | panic ch=>exact⟨_,a₁,w₁,hq,.of_steps f1 harr⟩
 | outgrown=>exact⟨_,a₁,w₁,hq,.of_steps f1 harr⟩
theorem qh (I:Nat→Act→World→Prop)(round:∀ m a w,I m a w→c.wpIn (Wd ro) n P (Exit.then (fun a' w'=>∃ k,k<m∧I k a' w') Q) a w){m:Nat}(h₀:I m a w):(Code.loop c).wpIn (Wd ro) n P Q a w:=by
 intro b k cs hro hb hr;have key:∀ m a w,I m a w→∃ e a' w',Q e a' w'∧ArrivesIn (Machine.fenced P (Wd ro)) P (lone (b.atR a (.code c::.inLoop c::k)) cs w) b k cs e a' w':=by
  intro m
  induction m using Nat.strongRecOn with
  | _ m ih =>
   intro a w hI;obtain⟨e,a₁,w₁,hq,harr⟩:=round m a w hI b (.inLoop c::k) cs hro hb hr;cases e with
   | normal =>
    obtain⟨m',hlt,hI₁⟩:=hq;obtain⟨e₂,a₂,w₂,hq₂,harr₂⟩:=ih m' hlt a₁ w₁ hI₁;exact⟨e₂,a₂,w₂,hq₂,.of_steps (StepsIn.trans harr (.one J9 stepR_inLoop)) harr₂⟩
   | exit id=>exact⟨_,a₁,w₁,hq,.pass (x:=.inLoop c) rfl (fun _ _=>.inl (by simp)) harr⟩
   | goto l=>exact⟨_,a₁,w₁,hq,.pass (x:=.inLoop c) rfl (fun _ _=>.inl (by simp)) harr⟩
   | ret=>exact⟨_,a₁,w₁,hq,.pass (x:=.inLoop c) rfl (fun _ _=>.inl (by simp)) harr⟩
   | panic ch=>exact⟨_,a₁,w₁,hq,.pass (x:=.inLoop c) rfl (fun _ _=>.inl (by simp)) harr⟩
   | outgrown=>exact⟨_,a₁,w₁,hq,.pass (x:=.inLoop c) rfl (fun _ _=>.inl (by simp)) harr⟩
 obtain⟨e,a',w',hq,harr⟩:=key m a w h₀;exact⟨e,a',w',hq,.of_steps (.one J9 stepR_loop) harr⟩
end
def Kept (D:Nat→Prop)(n0:Nat)(A B:World):Prop:=∀ b,b<n0→¬D b→(∃ o:Obj,A.heap[b]?=some o∧o.isCells=true)→B.heap[b]?=A.heap[b]?
theorem Kept.trans {D:Nat→Prop}{n0:Nat}{A B C:World}(h:Kept D n0 A B)(k:Kept D n0 B C):Kept D n0 A C:=fun b hb hD ⟨o,ho,hc⟩=>by
 have h1:=h b hb hD ⟨o,ho,hc⟩;exact(k b hb hD ⟨o,h1.trans ho,hc⟩).trans h1
theorem Kept.refl (D:Nat→Prop)(n0:Nat)(A:World):Kept D n0 A A:=fun _ _ _ _=>rfl
def a7K (P:Program)(g:Nat)(caps:List (List IV))(np:Nat)(n:Nat)(it:Nat→List CV):Prop :=
 (∀ args w,(callFunc g args).run P w=.ok (.enter g args) w) ∧
 ∀ (w:World) (D:Nat→Prop) (vs:Array Value),(∀ b,D b→b<w.heap.size)→nH w D caps vs.toList →
  ∃ encs:Nat→Array Value,(∀ k,(encs k).size=np)∧(∀ k,k<n→dM w D (it k) (encs k).toList) ∧
   ∀ (l:Nat) (J Jx:Nat→World→Prop) (W:World),Kept D w.heap.size w W→w.heap.size≤W.heap.size →
    (∀ k A B,J k A→Below A.heap.size A B→J k B)→(∀ k A B,Jx k A→Below A.heap.size A B→Jx k B) →
    (∀ k W1,k<n→J k W1→YieldAt (Wd none) 0 P l (encs k) W1 fun e W'=>(e=.returned (.bool true)∧J (k+1) W'∧Kept D w.heap.size W1 W')∨(e=.returned (.bool false)∧Jx k W')) →
    J 0 W→CallsIn (Wd none) 0 P g (#[.func (.yield l) #[] #[]]++vs) W fun e W'=>(∃ v,e=.returned v)∧(J n W'∨∃ k,Jx k W')
def lays (f:Fr):List Nat→List AV→Fr
 | p::ps,x::xs=>lays (upd f p x) ps xs
 | _,_=>f
def a9o (K:Fr→Hp→Prop):Exit→Fr→Hp→Prop
 | .normal,f,H=>K f H
 | _,_,_=>False
def uV (I:Nat→Hp→Prop)(J:Code→Hp→Prop)(k:Nat):Exit→Fr→Hp→Prop
 | .normal,_,H=>I (k+1) H
 | .ret,_,H=>J .ret H
 | .exit id,_,H=>J (.exit id) H
 | _,_,_=>False
def Conc (G:Gh)(M:Nat→Prop)(w0:World)(D0:Nat→Prop)(N:Nat)(Q:Exit→Fr→Hp→Prop):Exit→Act→World→Prop
 | .panic _,_,_=>False
 | .outgrown,_,_=>False
 | e,a,w=>∃ f H β,Q e f H∧Rel G M w0 D0 N f H β a w
def G6 (f:Fr)(a:Act)(G:Gh):Gh:=⟨fun x v=>(∃ t,x=f t∧v=a.tmps.getD t Go.undef)∨G.vals x v,true⟩
def Mut (H:Hp)(β:Nat→Value):Nat→Prop:=fun b=>∃ h,(H h).bV∧aG (β h)=some b
section
variable {P:Program} {G:Gh} {M:Nat→Prop} {w0:World} {D0:Nat→Prop} {N:Nat} {f:Fr} {H:Hp} {β:Nat→Value} {a:Act} {w:World}
theorem bD.other {w w':World}{row:Option Nat}(D:Nat→Prop)(hg:w.grownBy w' row)(hr:∀ r,row=some r→∃ o:Obj,w.heap[r]?=some o∧o.isCells=false):bD w D w' D :=
 ⟨hg.size,fun _ _ h=>h,fun b hb _ ⟨o,ho,hc⟩=>hg.block b hb fun e=>by
  obtain⟨o',ho',hc'⟩:=hr b e.symm;rw[ho]at ho';cases ho';rw[hc]at hc';cases hc'⟩
theorem Rel.other (R:Rel G M w0 D0 N f H β a w){w':World}{row:Option Nat}(hg:w.grownBy w' row)
  (hr:∀ r,row=some r→w0.heap.size≤r∧(∃ o:Obj,w.heap[r]?=some o∧o.isCells=false)∧w.heap[r]?≠some (.deferred (some []))):Rel G M w0 D0 N f H β a w':=by
 have g:bD w (DD H β D0) w' (DD H β D0):=bD.other _ hg fun r e=>(hr r e).2.1
 have hs:=R.step (w':=w') (H':=H) (β':=β) (dst:=none) (v:=.dead) (val:=Go.undef) hg.os hg.tape hg.output g
  (fun k h1 _=>hg.block k (by have:=R.size;omega) (fun e=>by have:=(hr k e.symm).1;omega))
  (fun k _ h=>by rw[hg.block k (Array.getElem?_eq_some_iff.1 h).1 (fun e=>(hr k e.symm).2.2 h)];exact h) (gI.refl _ _) (by simp[aj])
  (fun h st e sz rows hh=>(R.own h st e sz rows hh).mono g fun k hk=>by
   obtain⟨cur,e',hc⟩:=R.dW (by rw[hh];trivial) hk;refine hg.block k (Array.getElem?_eq_some_iff.1 hc).1 fun e=>?_;obtain⟨o',ho',hc'⟩:=(hr k e.symm).2.1;rw[hc]at ho';cases ho';cases hc')
  (fun h st e sz rows hh=>⟨(R.frz h st e sz rows hh).1,(R.frz h st e sz rows hh).2.1.mono g,(R.frz h st e sz rows hh).2.2⟩) R.dis
  (fun h st e rows hh=>(R.nst h st e rows hh).mono g (gI.refl _ _) fun k hk=>by
   obtain⟨cur,e',hc⟩:=R.dW (by rw[hh];trivial) hk;refine hg.block k (Array.getElem?_eq_some_iff.1 hc).1 fun e=>?_;obtain⟨o',ho',hc'⟩:=(hr k e.symm).2.1;rw[hc]at ho';cases ho';cases hc') (fun h B hh=>Nat.le_trans (R.mrk h B hh) hg.size) (by simp)
 exact hs
theorem Rel.mark (R:Rel G M w0 D0 N f H β a w){k:Nat}(hk:w0.heap.size≤k)(h:w.heap[k]?=some (.deferred (some [])))(hr:G.rnd=false)(hn:∀ d∈a.defers,d≠{ target:=.collected k,args:=#[] }) :
  Rel G M w0 D0 N f H β { a with defers:=[{ target:=.collected k,args:=#[] }]++a.defers } w :=
 ⟨R.os,R.tape,R.output,R.size,R.keep,R.old,R.kW,(fun d hd=>by
  rcases List.mem_append.1 hd with hd|hd
  ·exact⟨k,List.mem_singleton.1 hd,hk,h⟩
  ·exact R.defers d hd),(fun h=>by rw[hr]at h;cases h),List.nodup_cons.2 ⟨fun h=>hn _ h rfl,R.Lh⟩,R.gh,R.tmps,R.own,R.frz,R.dis,R.nst,R.mrk,R.tie⟩
theorem Rel.enter (R:Rel G M w0 D0 N f H β a w){f0:Fr}{a0:Act}{N':Nat}(hts:a0.tmps.size=N')(hd:a0.defers=[])(ht:∀ t,aj w (DD H β D0) H β (f0 t) (a0.tmps.getD t Go.undef)) :
  Rel (G6 f a G) (Mut H β) w D0 N' f0 H β a0 w:=by
 refine⟨rfl,rfl,rfl,Nat.le_refl _,fun _ _ _=>rfl,fun b hb=>⟨Nat.lt_of_lt_of_le (R.old b hb).1 R.size,fun ⟨h,hm,hk⟩=>?_⟩,hts,(fun d h=>by rw[hd]at h;cases h),fun _=>hd,by rw[hd];exact List.nodup_nil,fun x v hp=>?_,ht,fun h st e sz rows hh=>?_,R.frz,R.dis,fun h st e rows hh=>?_,R.mrk,R.tie⟩
 ·have:=(R.old b hb).1;rcases DD.head R hm hk with h1|h1
  ·omega
  ·exact(R.old b hb).2 h1
 ·rcases hp with ⟨t,rfl,rfl⟩|hp
  ·exact R.tmps t
  ·exact R.gh x v hp
 ·have ho:=R.own h st e sz rows hh;refine⟨ho.1,?_⟩;rcases ho.2 with hn|⟨g,cap,cur,hv,_,hrest⟩
  ·exact .inl hn
  ·exact .inr ⟨g,cap,cur,hv,.inr ⟨h,by rw[hh];trivial,by rw[hv];rfl⟩,hrest⟩
 ·rcases R.nst h st e rows hh with hn|⟨g,cap,cur,hv,_,hrest⟩
  ·exact .inl hn
  ·exact .inr ⟨g,cap,cur,hv,.inr ⟨h,by rw[hh];trivial,by rw[hv];rfl⟩,hrest⟩
theorem Rel.D7 (R:Rel G M w0 D0 N f H β a w){k:Nat}{o:Obj}(h:w.heap[k]?=some o)(hc:o.isCells=false):¬Mut H β k:=fun ⟨h',hm,hk⟩=>by
 obtain⟨cur,e,hh⟩:=R.dW hm hk;rw[h]at hh;cases hh;cases hc
theorem Rel.leave (R:Rel G M w0 D0 N f H β a w){f':Fr}{H':Hp}{β':Nat→Value}{a':Act}{w':World}{N':Nat}(R':Rel (G6 f a G) (Mut H β) w D0 N' f' H' β' a' w'):Rel G M w0 D0 N f H' β' a w':=by
 have hold:∀ k,w0.heap.size≤k∨M k∨(k<w0.heap.size∧¬M k):=fun k=>by
  rcases Nat.lt_or_ge k w0.heap.size with h|h
  ·by_cases hm:M k
   ·exact .inr (.inl hm)
   ·exact .inr (.inr ⟨h,hm⟩)
  ·exact .inl h
 refine⟨R'.os.trans R.os,R'.tape.trans R.tape,R'.output.trans R.output,Nat.le_trans R.size R'.size,fun k hk hm=>(R'.keep k (Nat.lt_of_lt_of_le hk R.size) fun ⟨h,hm',hk'⟩=>?_).trans (R.keep k hk hm),R.old,R.kW,fun d hd=>?_,R.rnd,R.Lh,fun x v hp=>R'.gh x v (.inr hp),
  fun t=>R'.gh _ _ (.inl ⟨t,rfl,rfl⟩),fun h st e sz rows hh=>?_,R'.frz,R'.dis,fun h st e rows hh=>?_,R'.mrk,R'.tie⟩
 ·rcases DD.head R hm' hk' with h1|h1
  ·omega
  ·exact hm h1
 ·obtain⟨k,h1,h2,h3⟩:=R.defers d hd;exact⟨k,h1,h2,by rw[R'.keep k (Array.getElem?_eq_some_iff.1 h3).1 (R.D7 h3 rfl)];exact h3⟩
 ·have ho:=R'.own h st e sz rows hh;refine⟨ho.1,?_⟩;rcases ho.2 with hn|⟨g,cap,cur,hv,hB,hrest⟩
  ·exact .inl hn
  ·refine .inr ⟨g,cap,cur,hv,?_,hrest⟩;rcases hB with hB|⟨h',hm',hk'⟩
   ·exact .inl (Nat.le_trans R.size hB)
   ·exact DD.head R hm' hk'
 ·rcases R'.nst h st e rows hh with hn|⟨g,cap,cur,hv,hB,hrest⟩
  ·exact .inl hn
  ·refine .inr ⟨g,cap,cur,hv,?_,hrest⟩;rcases hB with hB|⟨h',hm',hk'⟩
   ·exact .inl (Nat.le_trans R.size hB)
   ·exact DD.head R hm' hk'
theorem Rel.sub {f':Fr}{H':Hp}{β':Nat→Value}{a':Act}{w':World}{G':Gh}(R':Rel G' (Mut H β) w D0 N f' H' β' a' w'){b:Nat}(hb:DD H' β' D0 b)(hlt:b<w.heap.size):DD H β D0 b:=by
 rcases hb with hb|⟨h,hm,hk⟩
 ·exact .inl hb
 ·rcases DD.head R' hm hk with h1|h1
  ·omega
  ·exact .inr h1
theorem RG {D:Nat→Prop}:∀ (ps:List Nat) (xs:List AV) (vs:List Value) (tm:Array Value) (f:Fr),aF w D H β xs vs→(∀ p∈ps,p<tm.size)→(∀ t,aj w D H β (f t) (tm.getD t Go.undef)) →
  ((ps.zip vs).foldl (fun t (pv:Nat×Value)=>t.setIfInBounds pv.1 pv.2) tm).size=tm.size∧∀ t,aj w D H β (lays f ps xs t) (((ps.zip vs).foldl (fun t (pv:Nat×Value)=>t.setIfInBounds pv.1 pv.2) tm).getD t Go.undef)
 | [],xs,vs,tm,f,_,_,h=>by simpa [lays] using h
 | p::ps,[],[],tm,f,_,_,h=>by simpa [lays] using h
 | p::ps,x::xs,v::vs,tm,f,hx,hp,h=>by
  simp only[aF]at hx;simp only[List.zip_cons_cons,List.foldl_cons,lays];have ih:=RG ps xs vs (tm.setIfInBounds p v) (upd f p x) hx.2 (fun q hq=>by rw[Array.size_setIfInBounds];exact hp q (by simp[hq])) fun t=>by
   have hpt:=hp p (by simp);by_cases ht:t=p
   ·subst ht;have:(tm.setIfInBounds t v).getD t Go.undef=v:=by simp[Array.getD_eq_getD_getElem?,hpt]
    rw[this];simpa [upd] using hx.1
   ·have:(tm.setIfInBounds p v).getD t Go.undef=tm.getD t Go.undef:=by
     simp only[Array.getD_eq_getD_getElem?];rw[Array.getElem?_setIfInBounds_ne (Ne.symm ht)]
    rw[this];simpa [upd,ht] using h t
  exact⟨by rw[ih.1,Array.size_setIfInBounds],ih.2⟩
 | _::_,[],_::_,_,_,hx,_,_=>by simp[aF]at hx
 | _::_,_::_,[],_,_,hx,_,_=>by simp[aF]at hx
theorem ML {D:Nat→Prop}:∀ {xs:List CV} {vs:List Value},dM w D xs vs→aF w D H β (xs.map CV.av) vs
 | [],[],_=>by simp[aF]
 | _::_,_::_,h=>by simp only[List.map_cons,aF];exact⟨h.1.av,ML h.2⟩
 | [],_::_,h=>h.elim
 | _::_,[],h=>h.elim
end
end Go.AL

namespace Go.AL
variable {zi:Zi}
open Go.RowKit
set_option linter.unusedSimpArgs false
set_option linter.unusedVariables false
section
variable {P:Program} {G:Gh} {M:Nat→Prop} {w0:World} {D0:Nat→Prop} {N:Nat} {f:Fr} {H:Hp} {β:Nat→Value} {a:Act} {w:World}
theorem Uh (ps:Array Nat)(vs:Array Value)(tm:Array Value):(ps.zip vs).foldl (fun t (p,v)=>t.setIfInBounds p v) tm=(ps.toList.zip vs.toList).foldl (fun t (pv:Nat×Value)=>t.setIfInBounds pv.1 pv.2) tm:=by
 rw[← Array.foldl_toList,Array.toList_zip]
theorem Oq {g:Operand}{ps:Array Nat}{assign body:Code}{Q:Exit→Act→World→Prop}(R:Rel G M w0 D0 N f H β a w)(hrnd:G.rnd=false){gf:Nat}{l:List AV}(hx:ev f g=.fn gf l)
  {c:Prop} {caps:List (List IV)} {ms:List Nat} (ht:lC H l=some (c,caps,ms)) (hc:c) {n:Nat} {it:Nat→List CV} (hit:a7K P gf caps ps.size n it) (hps:∀ p∈ps.toList,p<N)
  (I:Nat→Hp→Prop) (J:Code→Hp→Prop) (KA:Nat→Fr→Hp→Prop) (h0:I 0 (aC ms H))
  (hassign:∀ l k H' G' M' w0' β' a' w',k<n→I k H'→Rel G' M' w0' D0 N (lays f ps.toList ((it k).map CV.av)) H' β' a' w'→G'.rnd=true→assign.wpIn (Wd (some l)) 0 P (Conc G' M' w0' D0 N (a9o (KA k))) a' w')
  (hbody:∀ l k f' H' G' M' w0' β' a' w',k<n→KA k f' H'→Rel G' M' w0' D0 N f' H' β' a' w'→G'.rnd=true→body.wpIn (Wd (some l)) 0 P (Conc G' M' w0' D0 N (uV I J k)) a' w')
  (hdone:∀ H' β' a' w',I n H'→Rel G M w0 D0 N f H' β' a' w'→Q .normal a' w')
  (hret:∀ H' β' a' w',J .ret H'→Rel G M w0 D0 N f H' β' a' w'→Q .ret a' w')
  (a5a:∀ id H' β' a' w',J (.exit id) H'→Rel G M w0 D0 N f H' β' a' w'→Q (.exit id) a' w') :
  (Code.rangeFunc g ps assign body).wpIn (Wd none) 0 P Q a w:=by
 refine a6k (n:=1) (wpIn_rangeFunc ?_);intro fn hfn;have yS:=R.ev g;rw[hx]at yS;simp only[aj]at yS;obtain⟨us,hus,hcap⟩:=yS;have hbox:=ql R hcap ht hc;have R1:=R.aC ms;have hfresh:∀ d∈a.defers,d≠{ target:=.collected w.heap.size,args:=#[] }:=fun d hd e=>by
  obtain⟨k,h1,_,h3⟩:=R.defers d hd;have:=(Array.getElem?_eq_some_iff.1 h3).1;rw[e]at h1;injection h1 with h1;injection h1 with h1;omega
 generalize hD:DD (aC ms H) β D0=D at hbox;have hDlt:∀ b,D b→b<w.heap.size:=by
  intro b hb;rw[← hD]at hb;rcases hb with hb|⟨h,hm,hk⟩
  ·exact Nat.lt_of_lt_of_le (R.old b hb).1 R.size
  ·obtain⟨cur,e,hh⟩:=R1.dW hm hk;exact(Array.getElem?_eq_some_iff.1 hh).1
 obtain⟨henter,hit2⟩:=hit;obtain⟨encs,hes,hcv,hrun⟩:=hit2 w D us hDlt hbox;obtain⟨rec,hrec⟩:∃ rec:LoopState→Option Code→Loop,rec=fun st pe=>{ state:=st,pending:=pe,fn,tmps:=a.tmps,params:=ps,assign,body,defers:=w.heap.size }:=⟨_,rfl⟩
 obtain⟨W1,hW1⟩:∃ W1,(w.alloc (.deferred (some []))).alloc (.loop (rec .ready none))=W1:=⟨_,rfl⟩;have hB1:Below w.heap.size w W1:=by
  rw[← hW1];exact((Below.refl _ w).alloc (Nat.le_refl _) _).alloc (by simp) _
 have hL1:W1.heap[w.heap.size+1]?=some (.loop (rec .ready none)):=by
  rw[← hW1];have:=World.alloc_heap_new (w.alloc (.deferred (some []))) (.loop (rec .ready none));rwa [World.size_alloc]at this
 have hK1:W1.heap[w.heap.size]?=some (.deferred (some [])):=by
  rw[← hW1];exact(Below.heap_alloc _ _ _ (by simp)).trans (World.alloc_heap_new w _)
 refine⟨w.heap.size+1,[{ target:=.collected w.heap.size,args:=#[] }],W1,{ target:=.fn (.func gf) us,args:=#[.func (.yield (w.heap.size+1)) #[] #[]] },W1,gf,
  #[.func (.yield (w.heap.size+1)) #[] #[]]++us,W1,?_,?_,fun _ _=>trivial,?_,fun _=>Nat.le_refl _,?_⟩
 ·rw[← hW1,hrec];exact run_enterLoop_outer _ _ _ _ _
 ·simp only[resolve,hus];simp[go_sem]
 ·simp[invoke,go_sem,henter]
 refine(hrun (w.heap.size+1)
  (fun k W=>(∃ H' β',I k H'∧Rel G M w0 D0 N f H' β' a W∧Kept D w.heap.size w W∧(∀ b,DD H' β' D0 b→b<w.heap.size→D b))∧W.heap[w.heap.size+1]?=some (.loop (rec .ready none))∧W.heap[w.heap.size]?=some (.deferred (some [])))
  (fun _ W=>∃ c H' β',(c=.ret∨∃ id,c=.exit id)∧J c H'∧Rel G M w0 D0 N f H' β' a W∧W.heap[w.heap.size+1]?=some (.loop (rec .done (some c)))∧W.heap[w.heap.size]?=some (.deferred (some [])))
  W1 (fun b hb _ _=>hB1.block b hb) hB1.size ?_ ?_ ?_ ?_).mono ?_
 ·rintro k A B ⟨⟨H',β',hI,Rk,hkept,hsub⟩,hl,hk⟩ hb;refine⟨⟨H',β',hI,Rk.below hb,fun b h1 h2 h3=>?_,hsub⟩,?_,?_⟩
  ·have e1:=hkept b h1 h2 h3;have hlt:b<A.heap.size:=by
    obtain⟨o,ho,_⟩:=h3;exact(Array.getElem?_eq_some_iff.1 (e1.trans ho)).1
   exact(hb.block b hlt).trans e1
  ·rw[hb.block _ (Array.getElem?_eq_some_iff.1 hl).1];exact hl
  ·rw[hb.block _ (Array.getElem?_eq_some_iff.1 hk).1];exact hk
 ·rintro k A B ⟨c,H',β',hcc,hJ,Rk,hl,hk⟩ hb;refine⟨c,H',β',hcc,hJ,Rk.below hb,?_,?_⟩
  ·rw[hb.block _ (Array.getElem?_eq_some_iff.1 hl).1];exact hl
  ·rw[hb.block _ (Array.getElem?_eq_some_iff.1 hk).1];exact hk
 ·-- one round
  rintro k Wk hk ⟨⟨H',β',hI,Rk,hkept,hsub⟩,hl,hkk⟩;have hy:=run_yield (P:=P) (args:=encs k) hl (by rw[hrec];exact hes k);rw[hrec]at hy;refine⟨fn,_,assign,body,hy,roundIn_of_wpIn hfn ?_⟩;clear hy;have gk:bD w D Wk (DD H' β' D0):=⟨Nat.le_trans (by have:=(Array.getElem?_eq_some_iff.1 hkk).1;omega) (Nat.le_refl _),fun b h1 h2=>hsub b h2 h1,hkept⟩;have b1k:=ML (H:=H') (β:=β') ((show ∀ {xs:List CV} {vs:List Value},dM w D xs vs→dM Wk (DD H' β' D0) xs vs from fun h=>dM.mono gk h) (hcv k hk));have XF:=RG ps.toList ((it k).map CV.av) (encs k).toList a.tmps f b1k (fun p hp=>by rw[Rk.kW];exact hps p hp) Rk.tmps;rw[← Uh]at XF;have Ra:=Rk.enter (f0:=lays f ps.toList ((it k).map CV.av)) (a0:={ tmps:=(ps.zip (encs k)).foldl (fun t (p,v)=>t.setIfInBounds p v) a.tmps,defers:=[] }) (XF.1.trans Rk.kW) rfl XF.2;refine wpIn_mono (hassign (w.heap.size+1) k H' _ _ _ _ _ _ hk hI Ra rfl) ?_;rintro e a1 w1 hq;cases e with
  | normal =>
   obtain⟨f1,H1,β1,hKA,Ra1⟩:=hq;have Rk1:=Rk.leave Ra1;have hl1:w1.heap[w.heap.size+1]?=some (.loop (rec .ready none)):=by
    rw[Ra1.keep _ (Array.getElem?_eq_some_iff.1 hl).1 (Rk.D7 hl rfl)];exact hl
   have hk1:w1.heap[w.heap.size]?=some (.deferred (some [])):=by
    rw[Ra1.keep _ (Array.getElem?_eq_some_iff.1 hkk).1 (Rk.D7 hkk rfl)];exact hkk
   refine⟨_,run_beginRound hl1 (by rw[hrec]),?_⟩;have hlt1:=(Array.getElem?_eq_some_iff.1 hl1).1;obtain⟨w2,hw2⟩:∃ w2,w1.putObj (w.heap.size+1) (.loop { rec .ready none with state:=.busy })=w2:=⟨_,rfl⟩;have hl2:w2.heap[w.heap.size+1]?=some (.loop { rec .ready none with state:=.busy }):=by rw[← hw2];exact World.putObj_heap_same hlt1
   have hk2:w2.heap[w.heap.size]?=some (.deferred (some [])):=by rw[← hw2];exact(World.putObj_heap_other (by omega)).trans hk1
   have hoth:∀ r,some (w.heap.size+1)=some r→∃ o:Obj,w1.heap[r]?=some o∧o.isCells=false:=by rintro r ⟨⟩;exact⟨_,hl1,rfl⟩
   have hg2:w1.grownBy w2 (some (w.heap.size+1)):=by rw[← hw2];exact grownBy_putObj' _ _ _
   have Rk2:Rel G M w0 D0 N f H1 β1 a w2:=Rk1.other hg2 (by rintro r ⟨⟩;exact⟨by have:=R.size;omega,⟨_,hl1,rfl⟩,by rw[hl1];simp⟩);have b1b:∀ t,aj w2 (DD H1 β1 D0) H1 β1 (f1 t) (a1.tmps.getD t Go.undef):=fun t=>aj.mono (bD.other _ hg2 hoth) (gI.refl _ _) _ _ (Ra1.tmps t)
   have Rb:=Rk2.enter Ra1.kW (Ra1.rnd rfl) b1b;rw[hw2];refine wpIn_mono (hbody (w.heap.size+1) k f1 H1 _ _ _ _ _ _ hk hKA Rb rfl) ?_
   have fin:∀ (jump:Option Code) (f3:Fr) (H3:Hp) (β3:Nat→Value) (a3:Act) (w3:World),Rel (G6 f a G) (Mut H1 β1) w2 D0 N f3 H3 β3 a3 w3 →
     ∃ w4,(Instr.endRound (w.heap.size+1) jump).run P w3=.ok (.bool jump.isNone) w4∧Rel G M w0 D0 N f H3 β3 a w4∧w4.heap[w.heap.size+1]?=some (.loop (rec (if jump.isNone then .ready else .done) jump)) ∧
      w4.heap[w.heap.size]?=some (.deferred (some []))∧Kept D w.heap.size Wk w4∧(∀ b,DD H3 β3 D0 b→b<w.heap.size→D b):=by
    intro jump f3 H3 β3 a3 w3 R3;have hl3:w3.heap[w.heap.size+1]?=some (.loop { rec .ready none with state:=.busy }):=by
     rw[R3.keep _ (Array.getElem?_eq_some_iff.1 hl2).1 (Rk2.D7 hl2 rfl)];exact hl2
    have hk3:w3.heap[w.heap.size]?=some (.deferred (some [])):=by
     rw[R3.keep _ (Array.getElem?_eq_some_iff.1 hk2).1 (Rk2.D7 hk2 rfl)];exact hk2
    have hlt3:=(Array.getElem?_eq_some_iff.1 hl3).1;have Ro:=Rk2.leave R3;refine⟨_,run_endRound (P:=P) jump hl3,Ro.other (grownBy_putObj' _ _ _) (by rintro r ⟨⟩;exact⟨by have:=R.size;omega,⟨_,hl3,rfl⟩,by rw[hl3];simp⟩),?_,(World.putObj_heap_other (by omega)).trans hk3,?_,?_⟩
    ·rw[World.putObj_heap_same hlt3,hrec]
    ·intro b hb hnD hcells;rw[World.putObj_heap_other (by omega)];obtain⟨o,ho,hoc⟩:=hcells;have hbk:b<Wk.heap.size:=(Array.getElem?_eq_some_iff.1 ho).1;have m1:¬Mut H' β' b:=fun hm=>hnD (hsub b (.inr hm) hb)
     have e1:w1.heap[b]?=Wk.heap[b]?:=Ra1.keep b hbk m1;have e2:w2.heap[b]?=w1.heap[b]?:=by rw[← hw2];exact World.putObj_heap_other (by omega)
     have hb1:b<w1.heap.size:=(Array.getElem?_eq_some_iff.1 (e1.trans ho)).1;have hb2:b<w2.heap.size:=(Array.getElem?_eq_some_iff.1 (e2.trans (e1.trans ho))).1;have m2:¬Mut H1 β1 b:=fun hm=>by
      rcases Rel.sub Ra1 (.inr hm) hbk with h|h
      ·exact hnD (hsub b (.inl h) hb)
      ·exact m1 h
     rw[R3.keep b hb2 m2,e2,e1]
    ·intro b hdb hb;have hlt2:=(Array.getElem?_eq_some_iff.1 hk2).1;have h1:=Rel.sub R3 hdb (by omega);have hltk:=(Array.getElem?_eq_some_iff.1 hkk).1;have h2:=Rel.sub Ra1 h1 (by omega);exact hsub b h2 hb
   rintro e a3 w3 hq;cases e with
   | normal =>
    obtain⟨f3,H3,β3,hI3,R3⟩:=hq;obtain⟨w4,hr,R4,l4,k4,kk,a8E⟩:=fin none f3 H3 β3 a3 w3 R3;exact⟨_,_,hr,.inl ⟨rfl,⟨⟨H3,β3,hI3,R4,hkept.trans kk,a8E⟩,l4,k4⟩,kk⟩⟩
   | ret =>
    obtain⟨f3,H3,β3,hJ3,R3⟩:=hq;obtain⟨w4,hr,R4,l4,k4,kk,a8E⟩:=fin (some .ret) f3 H3 β3 a3 w3 R3;exact⟨_,_,hr,.inr ⟨rfl,_,H3,β3,.inl rfl,hJ3,R4,l4,k4⟩⟩
   | exit id =>
    obtain⟨f3,H3,β3,hJ3,R3⟩:=hq;obtain⟨w4,hr,R4,l4,k4,kk,a8E⟩:=fin (some (.exit id)) f3 H3 β3 a3 w3 R3;exact⟨_,_,hr,.inr ⟨rfl,_,H3,β3,.inr ⟨id,rfl⟩,hJ3,R4,l4,k4⟩⟩
   | goto t=>obtain⟨_,_,_,hh,_⟩:=hq;exact hh.elim
   | panic ch=>exact hq.elim
   | outgrown=>exact hq.elim
  | exit id=>obtain⟨_,_,_,hh,_⟩:=hq;exact hh.elim
  | goto t=>obtain⟨_,_,_,hh,_⟩:=hq;exact hh.elim
  | ret=>obtain⟨_,_,_,hh,_⟩:=hq;exact hh.elim
  | panic ch=>exact hq.elim
  | outgrown=>exact hq.elim
 ·-- the start
  refine⟨⟨_,β,h0,R1.below hB1,fun b hb _ _=>hB1.block b hb,fun b hb _=>by rw[← hD];exact hb⟩,hL1,hK1⟩
 ·-- behind the iterator
  rintro e W2 ⟨⟨v,rfl⟩,(⟨⟨H',β',hI,Rk,_,_⟩,hl,hk⟩|⟨_,c,H',β',hcc,hJ,Rk,hl,hk⟩)⟩
  ·have hlt:=(Array.getElem?_eq_some_iff.1 hl).1;refine⟨none,_,by have:=run_endLoop (P:=P) hl (by rw[hrec];simp);rw[hrec]at this;exact this,?_⟩;refine hdone H' β' _ _ hI (Rel.mark (Rk.other (grownBy_putObj' _ _ _) (by rintro r ⟨⟩;exact⟨by have:=R.size;omega,⟨_,hl,rfl⟩,by rw[hl];simp⟩)) R.size ((World.putObj_heap_other (by omega)).trans hk) hrnd hfresh)
  ·refine⟨some c,_,by have:=run_endLoop (P:=P) hl (by rw[hrec];simp);rw[hrec]at this;exact this,?_⟩;have Rm:=Rel.mark (Rk.other (grownBy_putObj' W2 (w.heap.size+1) (.loop { rec .done (some c) with state:=.exhausted })) (by rintro r ⟨⟩;exact⟨by have:=R.size;omega,⟨_,hl,rfl⟩,by rw[hl];simp⟩)) R.size ((World.putObj_heap_other (by omega)).trans hk) hrnd hfresh;rw[hrec]at Rm;rcases hcc with rfl|⟨id,rfl⟩
   ·exact wpIn_ret (hret H' β' _ _ hJ Rm)
   ·exact wpIn_exit (a5a id H' β' _ _ hJ Rm)
end
end Go.AL
