/-
 The abstract logic: a list of operations.
-/
import Derived.Test.YtnhghmibjddlkaaGreatDoorAbsA2M
namespace Go.AL
variable {zi:Zi}
open Go.RowKit
set_option linter.unusedSimpArgs false
set_option linter.unusedVariables false
abbrev Log:=List (List Nat×List Nat)
def b1T (P:Program)(g:Nat)(avs:List AV)(d:Nat)(K:Fr->Hp->Log->Prop)(f:Fr)(H:Hp)(lg:Log):Prop :=
 ∃(c:Prop) (args:List CV) (ms:List Nat) (own:iy) (res:List CV) (fz:Bool),(aH H avs=some (c,args,ms)\/su H avs=some (c,args,ms))/\c/\AC P g args own res/\(fz=false->ms=[]\/wo own res) /\
  (let H':=if fz then aQ ms H else H
   K (upd f d (l7 (rAV H' d own 0 res))) (dA (DY H' d own) H') ((ms++(DY H' d own).map (·.1),(if fz then ms else [])++(DY H' d own).map (·.1))::lg))
def b1R (P:Program)(g:Nat)(avs:List AV)(d:Nat)(K:Fr->Hp->Log->Prop)(f:Fr)(H:Hp)(lg:Log):Prop :=
 ∃(c:Prop) (args:List CV) (ms:List Nat) (i h st e sz:Nat) (rows rows':List (List IV)) (res:List CV),avs[i]?=some (.hs h st)/\H h=.blk false st e sz rows/\aH H (avs.set i .dead)=some (c,args,ms)/\c/\h∉ms /\
  ACW P g args i e sz rows rows' res /\
  K (upd f d (l7 (res.map CV.av))) (dF (aQ ms H) h (.blk false st e sz rows')) ((h::ms,ms++[h])::lg)
def b1S (P:Program)(g:Nat)(avs:List AV)(d:Nat)(K:Fr->Hp->Log->Prop)(f:Fr)(H:Hp)(lg:Log):Prop :=
 ∃(c:Prop) (args:List CV) (ms:List Nat) (i h st e sz:Nat) (rows rows':List (List IV)),avs[i]?=some (.hs h st)/\H h=.blk false st e sz rows/\aH H (avs.set i .dead)=some (c,args,ms)/\c/\h∉ms /\
  ACT P g args i e sz rows rows' /\
  K (upd f d (.hs h (st+1))) (dF (aQ ms H) h (.blk false (st+1) e sz rows')) ((h::ms,ms++[h])::lg)
def a5z (P:Program)(g:Nat)(avs:List AV)(d:Nat)(K:Fr->Hp->Log->Prop)(f:Fr)(H:Hp)(lg:Log):Prop :=
 ∃(c:Prop) (args:List CV) (ms:List Nat) (B:Nat) (R:Nat->Nat->List CV->Prop),aH H avs=some (c,args,ms)/\c/\H 999=.mrk B/\ACX P g args R /\
  ∀B' E res,B<=B'->B'<=E->R B' E res->K (upd f d (l7 (res.map CV.av))) (dF (aQ ms H) 999 (.mrk E)) ((999::ms,ms++[999])::lg)
def ACI (P:Program)(g:Nat)(avs:List AV)(H:Hp)(Z:AV->Hp->Prop):Prop :=
 (∃x H',Z x H')/\∀(G:Gh) (M:Nat->Prop) (w0:World) (D0:Nat->Prop) (N:Nat) (f:Fr) (β:Nat->Value) (a:Act) (w:World) (vs:List Value),Rel G M w0 D0 N f H β a w->jh w (DD H β D0) H β avs vs ->
  lH P g vs w λv w'=>∃x H' β',Z x H'/\Rel G M w0 D0 N f H' β' a w'/\aG w' (DD H' β' D0) H' β' x v
def a5C (P:Program)(g:Nat)(avs:List AV)(d:Nat)(K:Fr->Hp->Log->Prop)(f:Fr)(H:Hp)(lg:Log):Prop :=
 ∃Z,ACI P g avs H Z/\∀x H',Z x H'->K (upd f d x) H' (([],[998])::lg)
def ACF (P:Program)(g:Nat)(avs:List AV)(H:Hp)(rd:List Nat)(R:AV->List (Nat×HC)->Prop):Prop :=
 (∃x hs,R x hs)/\∀(H2:Hp),(∀h∈rd,H2 h=H h)->∀(G:Gh) (M:Nat->Prop) (w0:World) (D0:Nat->Prop) (N:Nat) (f:Fr) (β:Nat->Value) (a:Act) (w:World) (vs:List Value),Rel G M w0 D0 N f H2 β a w->jh w (DD H2 β D0) H2 β avs vs ->
  lH P g vs w λv w'=>∃x hs β',R x hs/\Rel G M w0 D0 N f (dA hs H2) β' a w'/\aG w' (DD (dA hs H2) β' D0) (dA hs H2) β' x v
def a5D (P:Program)(g:Nat)(avs:List AV)(d:Nat)(K:Fr->Hp->Log->Prop)(f:Fr)(H:Hp)(lg:Log):Prop :=
 ∃(rd:List Nat) (R:AV->List (Nat×HC)->Prop),ACF P g avs H rd R/\∀x hs,R x hs->(∀k∈hs.map (·.1),k∈rd)/\999∈hs.map (·.1)/\K (upd f d x) (dA hs H) ((rd,hs.map (·.1))::lg)
def jY (P:Program)(g:Nat)(avs:List AV)(d:Nat)(K:Fr->Hp->Log->Prop)(f:Fr)(H:Hp)(lg:Log):Prop :=
 b1T P g avs d K f H lg\/b1R P g avs d K f H lg\/b1S P g avs d K f H lg\/a5z P g avs d K f H lg\/a5C P g avs d K f H lg\/a5D P g avs d K f H lg
def yD (P:Program)(v:AV)(avs:List AV)(d:Nat)(K:Fr->Hp->Log->Prop)(f:Fr)(H:Hp)(lg:Log):Prop :=
 match v with
 |.fn g l=>jY P g (avs++l) d K f H lg
 |_=>False
def PG [Zi] (P:Program)(t n:Nat)(idx:List Nat)(xs:List AV)(d:Nat)(K:Fr->Hp->Log->Prop)(f:Fr)(H:Hp)(lg:Log):Prop :=
 ∃e c css fz B,(ti P t).desc=.sl e/\lC H xs=some (c,css,fz)/\(c/\(ti P e).ok=true/\(ti P e).zok=true/\n*(ti P e).size<=16777216/\(∀cs∈css,cs.length=(ti P e).size)/\idx=List.range n)/\H 999=.mrk B /\
  ∀B' E b,B<=B'->B'<=E->(b=none->css=[])->(∀g cap,b=some (g,cap)->B'<=g/\g<E/\g∉iq css)->K (upd f d (.iv (.own b e (ti P e).size css))) (dF (aQ fz H) 999 (.mrk E)) ((999::fz,fz++[999])::lg)
def MN [zi:Zi] (P:Program)(o:Oper)(K:Fr->Hp->Log->Prop)(f:Fr)(H:Hp)(lg:Log):Prop :=
 match o.op,o.dst with
 |.call ⟨.value x,args,_⟩,some d=>yD P (ev f x) (args.toList.map (ev f)) d K f H lg
 |.buildSlice t n ps,some d=>match zi.bs d with
  |true=>PG P t n (ps.toList.map (·.1)) (ps.toList.map λp=>ev f p.2) d K f H lg
  |false=>match mg P (.buildSlice t n ps) (some d) f H with
   |some r=>r.c/\K (iY f (some d) r.v) (dA r.hs (aQ r.fz H)) ((r.rd++r.fz++r.hs.map (·.1),r.fz++r.hs.map (·.1))::lg)
   |none=>False
 |op,d=>match mg P op d f H with
  |some r=>r.c/\K (iY f d r.v) (dA r.hs (aQ r.fz H)) ((r.rd++r.fz++r.hs.map (·.1),r.fz++r.hs.map (·.1))::lg)
  |none=>False
def fV [Zi] (P:Program)(ds:List (Option Nat)):List Oper->(Fr->Hp->Log->Prop)->Fr->Hp->Log->Prop
 |[],K,f,H,lg=>K f H lg
 |o::rest,K,f,H,lg =>
  match o.guard with
  |none=>MN P o (fV P ds rest K) f H lg
  |some (j,want)=>match (ds.getD j none).map f with
   |some (.iv (.bool b))=>if b=want then MN P o (fV P ds rest K) f H lg else fV P ds rest K (iY f o.dst .undef) H (([],[])::lg)
   |some .undef=>fV P ds rest K (iY f o.dst .undef) H (([],[])::lg)
   |_=>False
structure Up where
 v:AV
 fz:List Nat
 hs:List (Nat×HC)
def Up.f (u:Up)(d:Option Nat)(f:Fr):Fr:=iY f d u.v
def Up.h (u:Up)(H:Hp):Hp:=dA u.hs (aQ u.fz H)
def Sim (P:Program)(o:Oper)(f:Fr)(H:Hp)(rd:List Nat)(u:Up):Prop :=
 ∀(f2:Fr) (H2:Hp),(∀x∈o.op.operands,ev f2 x=ev f x)->(∀h∈rd,H2 h=H h) ->
  ∀(G:Gh) (M:Nat->Prop) (w0:World) (D0:Nat->Prop) (N:Nat) (β:Nat->Value) (a:Act) (w:World),(∀d,o.dst=some d->d<N)->Rel G M w0 D0 N f2 H2 β a w ->
   ∀(K:Act->World->Prop) (Q:Exit->Act->World->Prop),(∀a' w' β',Rel G M w0 D0 N (u.f o.dst f2) (u.h H2) β' a' w'->K a' w')->∀ro,o.wpIn (Wd ro) 0 P a w K Q
section
variable {P:Program} {f f2:Fr} {H H2:Hp}
theorem nY {x:AV}{r:Prop×List IV×List Nat}(h:oL H x=some r)(hH:∀k∈r.2.2,H2 k=H k):oL H2 x=some r:=by
 unfold oL at h ⊢;split at h
 .exact h
 .exact h
 .exact h
 .rename_i k st;cases hk:H k<;>rw[hk]at h<;>simp only[Option.some.injEq,reduceCtorEq]at h;subst h;simp only[hH k (by simp),hk]
 .rename_i k st off len;cases hk:H k<;>rw[hk]at h<;>simp only[Option.some.injEq,reduceCtorEq]at h;subst h;simp only[hH k (by simp),hk]
 .cases h
theorem nX:∀{xs:List AV} {r:Prop×List (List IV)×List Nat},lC H xs=some r->(∀k∈r.2.2,H2 k=H k)->lC H2 xs=some r
 |[],r,h,_=>h
 |x::xs,r,h,hH=>by
  simp only[lC]at h ⊢;split at h
  .rename_i c cs fz c' css fz' h1 h2;injection h with h;subst h;rw[nY h1 λk hk=>hH k (by simp[hk]),nX h2 λk hk=>hH k (by simp[hk])]
  .cases h
theorem jP {x:AV}{r:Prop×List (List IV)×List Nat}(h:kZ H x=some r)(hH:∀k∈r.2.2,H2 k=H k):kZ H2 x=some r:=by
 unfold kZ at h ⊢;split at h
 .exact h
 .exact h
 .exact h
 .rename_i k st;cases hk:H k<;>rw[hk]at h<;>simp only[Option.some.injEq,reduceCtorEq]at h;subst h;simp only[hH k (by simp),hk]
 .rename_i k st off len;cases hk:H k<;>rw[hk]at h<;>simp only[Option.some.injEq,reduceCtorEq]at h;subst h;simp only[hH k (by simp),hk]
 .cases h
theorem BH {x:AV}{r:Prop×List IV×List Nat}(h:aI H x=some r)(hH:∀k∈r.2.2,H2 k=H k):aI H2 x=some r:=by
 unfold aI at h ⊢;split at h
 .exact h
 .rename_i k st i off;cases hk:H k<;>rw[hk]at h<;>simp only[Option.some.injEq,reduceCtorEq]at h;subst h;simp only[hH k (by simp),hk]
 .cases h
theorem wE:∀{xs:List AV} {r:Prop×List (List IV)×List Nat},aB H xs=some r->(∀k∈r.2.2,H2 k=H k)->aB H2 xs=some r
 |[],r,h,_=>h
 |x::xs,r,h,hH=>by
  simp only[aB]at h ⊢;split at h
  .rename_i c cs fz c' css fz' h1 h2;injection h with h;subst h;rw[BH h1 λk hk=>hH k (by simp[hk]),wE h2 λk hk=>hH k (by simp[hk])]
  .cases h
theorem uF {x:AV}{r:Prop×CV×List Nat}(h:bn H x=some r)(hH:∀k∈r.2.2,H2 k=H k):bn H2 x=some r:=by
 unfold bn at h ⊢;split at h
 .exact h
 .exact h
 .split at h
  .rename_i hb;injection h with h;subst h;rw[BH hb λk hk=>hH k hk]
  .cases h
 .split at h
  .rename_i hb;injection h with h;subst h;rw[wE hb λk hk=>hH k hk]
  .cases h
 .exact h
 .exact h
 .exact h
 .rename_i k st;cases hk:H k<;>rw[hk]at h<;>simp only[Option.some.injEq,reduceCtorEq]at h;subst h;simp only[hH k (by simp),hk]
 .rename_i k st off len;cases hk:H k<;>rw[hk]at h<;>simp only[Option.some.injEq,reduceCtorEq]at h;subst h;simp only[hH k (by simp),hk]
 .cases h
theorem mY:∀{xs:List AV} {r:Prop×List CV×List Nat},aH H xs=some r->(∀k∈r.2.2,H2 k=H k)->aH H2 xs=some r
 |[],r,h,_=>h
 |x::xs,r,h,hH=>by
  simp only[aH]at h ⊢;split at h
  .rename_i c cs fz c' css fz' h1 h2;injection h with h;subst h;rw[uF h1 λk hk=>hH k (by simp[hk]),mY h2 λk hk=>hH k (by simp[hk])]
  .cases h
theorem vO:∀{xs:List AV} {r:Prop×List (List IV)×List Nat},yS H xs=some r->(∀k∈r.2.2,H2 k=H k)->yS H2 xs=some r
 |[],r,h,_=>h
 |x::xs,r,h,hH=>by
  simp only[yS]at h ⊢;split at h
  .rename_i k s;split at h
   .rename_i fz s' e sz rr hk;split at h
    .rename_i c rs ms hn;injection h with h;subst h;simp only[hH k (by simp),hk,vO hn λq hq=>hH q (by simp[hq])]
    .cases h
   .cases h
  .cases h
theorem Q8 {h:Nat}{x:AV}{r:Prop×CV×List Nat}(hr:bn H x=some r)(hx:(∃st,x=.hs h st)\/∃st off len,x=.hv h st off len):h∈r.2.2:=by
 rcases hx with ⟨st,rfl⟩|⟨st,off,len,rfl⟩
 .simp only[bn]at hr;split at hr
  .injection hr with hr;subst hr;simp
  .cases hr
 .simp only[bn]at hr;split at hr
  .injection hr with hr;subst hr;simp
  .cases hr
theorem Nh {x:AV}{r:Prop×CV×List Nat}(h:Nj H x=some r)(hH:∀k∈r.2.2,H2 k=H k):Nj H2 x=some r:=by
 unfold Nj at h ⊢;split at h
 .exact h
 .rename_i k st;split at h
  .rename_i st' e rows hk;split at h
   .rename_i c rs ms hn;injection h with h;subst h;simp only[hH k (by simp),hk,vO hn λq hq=>hH q (by simp[hq])]
   .cases h
  .rename_i hne;have hkk:H2 k=H k:=hH k (Q8 h (.inl ⟨_,rfl⟩));have hold:=uF h hH;simp only[hkk];exact hold
 .rename_i k st off len;split at h
  .rename_i st' e rows hk;split at h
   .rename_i c rs ms hn;injection h with h;subst h;simp only[hH k (by simp),hk,vO hn λq hq=>hH q (by simp[hq])]
   .cases h
  .rename_i hne;have hkk:H2 k=H k:=hH k (Q8 h (.inr ⟨_,_,_,rfl⟩));have hold:=uF h hH;simp only[hkk];exact hold
 .exact uF h hH
theorem zI:∀{xs:List AV} {r:Prop×List CV×List Nat},su H xs=some r->(∀k∈r.2.2,H2 k=H k)->su H2 xs=some r
 |[],r,h,_=>h
 |x::xs,r,h,hH=>by
  simp only[su]at h ⊢;split at h
  .rename_i c cs fz c' css fz' h1 h2;injection h with h;subst h;rw[Nh h1 λk hk=>hH k (by simp[hk]),zI h2 λk hk=>hH k (by simp[hk])]
  .cases h
def Agree (r:AR)(H H2:Hp):Prop:=∀k,k∈r.rd\/k∈r.fz\/k∈r.hs.map (·.1)->H2 k=H k
theorem kL {T:TI}{x:AV}{r:AR}(h:qV T H x=some r)(hH:Agree r H H2):qV T H2 x=some r:=by
 unfold qV at h ⊢;split at h
 .exact h
 .rename_i k st i off;cases hk:H k<;>rw[hk]at h<;>simp only[reduceCtorEq]at h
  .have hr:r.rd=[k]:=by
    split at h<;>(injection h with h;subst h;rfl)
   simp only[hH k (.inl (by simp[hr])),hk];exact h
  .have hr:r.rd=[k]:=by
    split at h
    .injection h with h;subst h;rfl
    .split at h
     .injection h with h;subst h;rfl
     .cases h
   simp only[hH k (.inl (by simp[hr])),hk];exact h
 .cases h
theorem KG {g:Nat->Nat->Nat->Option Nat}{T:TI}{x:AV}{r:AR}(h:EP g T H x=some r)(hH:Agree r H H2):EP g T H2 x=some r:=by
 unfold EP at h ⊢;cases x with
 |hp h0 st i off =>
  simp only at h ⊢;cases hg:g h0 i off with
  |none=>rw[hg]at h;simp only at h ⊢;exact kL h hH
  |some s =>
   rw[hg]at h;simp only at h ⊢;split at h
   .rename_i r' y v hr' hs;injection h with h;subst h;have e1:=kL hr' λk hk=>hH k (hk.imp (λh=>List.mem_cons_of_mem _ h) id)
    have e2:=(hH _ (.inl (List.mem_cons_self ..))).trans hs;simp only[e1,e2]
   .cases h
 |_=>exact kL h hH
theorem A8 {T:TI}{x y:AV}{r:AR}(h:y7 T H x y=some r)(hH:Agree r H H2):y7 T H2 x y=some r:=by
 unfold y7 at h ⊢;split at h
 .rename_i k st i off c cells fz ht;cases hk:H k with
  |none=>rw[hk]at h;cases h
  |nst=>rw[hk]at h;cases h
  |gone=>rw[hk]at h;cases h
  |mrk=>rw[hk]at h;cases h
  |tie=>rw[hk]at h;cases h
  |blk fz' st' e sz rows =>
   rw[hk]at h;cases fz' with
   |true=>cases h
   |false =>
    simp only[Option.some.injEq]at h;subst h;rw[nY ht λk' hk'=>hH k' (.inr (.inl hk'))];simp only[hH k (.inl (by simp)),hk]
 .cases h
theorem NR {x:AV}{r:Prop×List Nat}(h:NS H x=some r)(hH:∀k∈r.2,H2 k=H k):NS H2 x=some r:=by
 unfold NS at h ⊢;split at h
 .exact h
 .exact h
 .rename_i k s;have hk:H2 k=H k:=by
   split at h
   .injection h with h;subst h;exact hH k (by simp)
   .injection h with h;subst h;exact hH k (by simp)
   .cases h
  simp only[hk];exact h
 .rename_i k s off len;have hk:H2 k=H k:=by
   split at h
   .injection h with h;subst h;exact hH k (by simp)
   .cases h
  simp only[hk];exact h
 .cases h
theorem IY {T:TI}{x y:AV}{r:AR}(h:uq T H x y=some r)(hH:Agree r H H2):uq T H2 x y=some r:=by
 unfold uq at h ⊢;split at h
 .rename_i k st i off;split at h
  .rename_i st' e rows hk;split at h
   .injection h with h;subst h;simp only[hH k (.inl (by simp)),hk]
   split at h
   .rename_i c rd ho;injection h with h;subst h;rw[NR ho λk hk=>hH k (.inl (by simp[hk]))];simp only[hH k (.inl (by simp)),hk]
   .cases h
  .rename_i hne;have hold:=A8 h hH;have hkk:H2 k=H k:=by
    unfold y7 at h;split at h
    .rename_i heq _;injection heq with e1 e2 e3 e4;subst e1 e2 e3 e4;split at h
     .injection h with h;subst h;exact hH k (.inl (by simp))
     .cases h
    .cases h
   rw[hkk];split
   .rename_i st' e rows hk;exact(hne st' e rows hk).elim
   .exact hold
 .exact A8 h hH
theorem Md {T:TI}{e d:Nat}{r:AR}(h:DT T H e d=some r)(hH:Agree r H H2):DT T H2 e d=some r:=by
 unfold DT uY at h ⊢;simp only[Option.some.injEq]at h;subst h;rw[hH d (.inr (.inr (by simp)))]
theorem UJ {T:TI}{e d:Nat}{x:AV}{r:AR}(h:a8B T H e d x=some r)(hH:Agree r H H2):a8B T H2 e d x=some r:=by
 unfold a8B uY at h ⊢;split at h
 .rename_i c cells fz ht;simp only[Option.some.injEq]at h;subst h;rw[nY ht λk' hk'=>hH k' (.inr (.inl hk'))];simp only[hH d (.inr (.inr (by simp)))]
 .cases h
theorem J6 {T:TI}{e d:Nat}{r:AR}(h:uy T H e d=some r)(hH:Agree r H H2):uy T H2 e d=some r:=by
 unfold uy at h ⊢;split at h
 .simp only[Option.some.injEq]at h;subst h;simp only[hH d (.inr (.inr (by simp)))]
 .exact Md h hH
theorem Pg {T:TI}{e d:Nat}{x:AV}{r:AR}(h:LY T H e d x=some r)(hH:Agree r H H2):LY T H2 e d x=some r:=by
 unfold LY at h ⊢;split at h
 .split at h
  .rename_i c cells fz ht;simp only[Option.some.injEq]at h;subst h;rw[nY ht λk' hk'=>hH k' (.inr (.inl hk'))];simp only[hH d (.inr (.inr (by simp)))]
  .cases h
 .exact UJ h hH
theorem OZ {T:TI}{e d:Nat}{x y:AV}{r:AR}(h:LP T H e d x y=some r)(hH:Agree r H H2):LP T H2 e d x y=some r:=by
 unfold LP at h ⊢;split at h
 .simp only[Option.some.injEq]at h;subst h;simp only[hH d (.inr (.inr (by simp)))]
 .cases h
theorem LX {T:TI}{idx:List Nat}{xs:List AV}{r:AR}(h:Ad T H idx xs=some r)(hH:Agree r H H2):Ad T H2 idx xs=some r:=by
 unfold Ad at h ⊢;split at h
 .rename_i fs c css fz hd ht;split at h
  .rename_i c' r' hl;simp only[Option.some.injEq]at h;subst h;rw[nX ht λk' hk'=>hH k' (.inr (.inl hk'))];simp only[hd,hl]
  .cases h
 .cases h
theorem pW {T:TI}{e d n:Nat}{idx:List Nat}{xs:List AV}{r:AR}(h:iW T H e d n idx xs=some r)(hH:Agree r H H2):iW T H2 e d n idx xs=some r:=by
 unfold iW at h ⊢;split at h
 .rename_i c css fz ht;simp only[Option.some.injEq]at h;subst h;rw[nX ht λk' hk'=>hH k' (.inr (.inl hk'))];simp only[hH d (.inr (.inr (by simp)))]
 .cases h
theorem yh {T:TI}{e d n:Nat}{idx:List Nat}{xs:List AV}{r:AR}(h:iw T H e d n idx xs=some r)(hH:Agree r H H2):iw T H2 e d n idx xs=some r:=by
 unfold iw at h ⊢;split at h
 .rename_i k s;split at h
  .rename_i hk;simp only[hk,if_true];exact pW h hH
  .rename_i hk;simp only[hk,if_false];split at h
   .rename_i hk2;injection h with h;subst h;simp only[hH k (.inl (by simp)),hk2,hH d (.inr (.inr (by simp)))]
   .cases h
 .exact pW h hH
theorem LU {esz:Nat}{eok:Bool}{x i:AV}{r:AR}(h:Ac esz eok H x i=some r)(hH:Agree r H H2):Ac esz eok H2 x i=some r:=by
 unfold Ac at h ⊢;split at h
 .exact h
 .exact h
 .rename_i k st _ _;cases hk:H k<;>rw[hk]at h<;>simp only[Option.some.injEq,reduceCtorEq]at h <;>
  (subst h
   simp only[hH k (.inl (by simp)),hk])
 .rename_i k st off len _ _;cases hk:H k<;>rw[hk]at h<;>simp only[Option.some.injEq,reduceCtorEq]at h <;>
  (subst h
   simp only[hH k (.inl (by simp)),hk])
 .cases h
theorem J4 {n esz:Nat}{eok:Bool}{x i:AV}{r:AR}(h:uw n esz eok H x i=some r)(hH:Agree r H H2):uw n esz eok H2 x i=some r:=by
 unfold uw at h ⊢;split at h
 .rename_i k st _ off _ _;simp only[Option.some.injEq]at h;subst h;simp only[hH k (.inl (by simp))]
 .cases h
theorem UE {x:AV}{r:AR}(h:a8A H x=some r)(hH:Agree r H H2):a8A H2 x=some r:=by
 unfold a8A at h ⊢;split at h
 .exact h
 .exact h
 .exact h
 .rename_i k st;cases hk:H k<;>rw[hk]at h<;>simp only[Option.some.injEq,reduceCtorEq]at h <;>
  (subst h
   simp only[hH k (.inl (by simp)),hk])
 .rename_i k st off len;cases hk:H k<;>rw[hk]at h<;>simp only[Option.some.injEq,reduceCtorEq]at h <;>
  (subst h
   simp only[hH k (.inl (by simp)),hk])
 .cases h
theorem LM {esz:Nat}{eok:Bool}{x:AV}{lo hi:Option AV}{r:AR}(h:Aa esz eok H x lo hi=some r)(hH:Agree r H H2):Aa esz eok H2 x lo hi=some r:=by
 unfold Aa at h ⊢;split at h
 .exact h
 .exact h
 .rename_i k st;cases hk:H k<;>rw[hk]at h<;>simp only[reduceCtorEq]at h
  all_goals
   have hr:r.rd=[k]:=by
    split at h<;>simp only[Option.some.injEq,reduceCtorEq]at h;subst h;rfl
   simp only[hH k (.inl (by simp[hr])),hk];exact h
 .cases h
theorem Uz {esz:Nat}{eok:Bool}{x:AV}{lo hi:Option AV}{r:AR}(h:y8 esz eok H x lo hi=some r)(hH:Agree r H H2):y8 esz eok H2 x lo hi=some r:=by
 unfold y8 at h ⊢;split at h
 .rename_i k st;cases hk:H k with
  |blk fz st' e sz rows =>
   cases fz with
   |true=>rw[hk]at h;simp at h
   |false =>
    rw[hk]at h;simp only at h;have hr:r.rd=[k]:=by
     split at h<;>simp only[Option.some.injEq,reduceCtorEq]at h;subst h;rfl
    simp only[hH k (.inl (by simp[hr])),hk];exact h
  |_=>rw[hk]at h;simp at h
 .cases h
theorem Ak {T:TI}{i:Nat}{x:AV}{r:AR}(h:jJ T i H x=some r)(hH:Agree r H H2):jJ T i H2 x=some r:=by
 unfold jJ at h ⊢;split at h
 .exact h
 .rename_i fs k st _ off hd;split at h
  .rename_i o sz hf;simp only[Option.some.injEq]at h;subst h;simp only[hf,hH k (.inl (by simp))]
  .cases h
 .cases h
theorem UC {x:AV}{r:AR}(h:a5n H x=some r)(hH:Agree r H H2):a5n H2 x=some r:=by
 unfold a5n at h ⊢;split at h
 .exact h
 .rename_i k st i off;simp only[Option.some.injEq]at h;subst h;simp only[hH k (.inl (by simp))]
 .cases h
theorem yj {T:TI}{e d:Nat}{x y:AV}{r:AR}(h:nO T H e d x y=some r)(hH:Agree r H H2):nO T H2 e d x y=some r:=by
 unfold nO at h ⊢;split at h
 .rename_i c src rd hs;split at h
  .simp only[Option.some.injEq]at h;subst h;rw[jP hs λk hk=>hH k (.inl hk)];simp only[hH d (.inr (.inr (by simp)))]
  .rename_i k st;cases hk:H k with
   |none=>rw[hk]at h;cases h
   |nst=>rw[hk]at h;cases h
   |gone=>rw[hk]at h;cases h
   |mrk=>rw[hk]at h;cases h
   |tie=>rw[hk]at h;cases h
   |blk fz' st' e' sz rows =>
    rw[hk]at h;cases fz' with
    |true=>cases h
    |false =>
     simp only[Option.some.injEq]at h;subst h;rw[jP hs λk' hk'=>hH k' (.inl (by simp[hk']))];simp only[hH k (.inl (by simp)),hk]
  .cases h
 .cases h
theorem Ej {T:TI}{e d:Nat}{x y:AV}{r:AR}(h:qY T H e d x y=some r)(hH:Agree r H H2):qY T H2 e d x y=some r:=by
 unfold qY at h ⊢;split at h
 .rename_i k s;split at h
  .rename_i s' e2 src hk;split at h
   .injection h with h;subst h;simp only[hH k (.inl (by simp)),hk,hH d (.inr (.inr (by simp)))]
   .rename_i h1 st;split at h
    .rename_i hk2;injection h with h;subst h;simp only[hH k (.inl (by simp)),hk,hH h1 (.inl (by simp)),hk2]
    .cases h
   .cases h
  .rename_i hne;have hold:=yj h hH;have hkk:H2 k=H k:=by
    unfold nO at h;split at h
    .rename_i c src rd hs;have hrd:k∈rd:=by
      simp only[kZ]at hs;split at hs
      .injection hs with hs;injection hs with e1 e2;injection e2 with e2 e3;subst e3;simp
      .cases hs
     split at h
     .injection h with h;subst h;exact hH k (.inl hrd)
     .split at h
      .injection h with h;subst h;exact hH k (.inl (by simp[hrd]))
      .cases h
     .cases h
    .cases h
   simp only[hkk];exact hold
 .exact yj h hH
theorem En {T:TI}{e:Nat}{x y:AV}{r:AR}(h:qZ T H e x y=some r)(hH:Agree r H H2):qZ T H2 e x y=some r:=by
 unfold qZ at h ⊢;split at h
 .rename_i k st kq n;cases hk:H k with
  |blk fz st' e' sz rows =>
   rw[hk]at h;have hkk:H2 k=H k:=by
    cases fz with
    |false=>simp only at h;injection h with h;subst h;exact hH k (.inl (by simp))
    |true=>cases h
   simp only[hkk,hk];exact h
  |_=>rw[hk]at h;cases h
 .cases h
theorem Eh {T:TI}{e d:Nat}{x y:AV}{r:AR}(h:qX T H e d x y=some r)(hH:Agree r H H2):qX T H2 e d x y=some r:=by
 unfold qX at h ⊢;split at h
 .rename_i k st;unfold yu at h ⊢;split at h
  .rename_i c src rd hs;cases hk:H k with
   |none=>rw[hk]at h;cases h
   |nst=>rw[hk]at h;cases h
   |gone=>rw[hk]at h;cases h
   |mrk=>rw[hk]at h;cases h
   |tie=>rw[hk]at h;cases h
   |blk fz' st' e' sz rows =>
    rw[hk]at h;cases fz' with
    |true=>cases h
    |false =>
     simp only[Option.some.injEq]at h;subst h;rw[jP hs λk' hk'=>hH k' (.inl (by simp[hk']))];simp only[hH k (.inl (by simp)),hk]
  .cases h
 .exact Ej h hH
theorem P6 {T:TI}{x y:AV}{r:AR}(h:P7 T H x y=some r)(hH:Agree r H H2):P7 T H2 x y=some r:=by
 unfold P7 at h ⊢;split at h
 .rename_i c src rd hs;split at h
  .rename_i k st off len;cases hk:H k with
   |none=>rw[hk]at h;cases h
   |nst=>rw[hk]at h;cases h
   |gone=>rw[hk]at h;cases h
   |mrk=>rw[hk]at h;cases h
   |tie=>rw[hk]at h;cases h
   |blk fz' st' e' sz rows =>
    rw[hk]at h;cases fz' with
    |true=>cases h
    |false =>
     simp only[Option.some.injEq]at h;subst h;rw[jP hs λk' hk'=>hH k' (.inl (by simp[hk']))];simp only[hH k (.inl (by simp)),hk]
  .rename_i k st;cases hk:H k with
   |none=>rw[hk]at h;cases h
   |nst=>rw[hk]at h;cases h
   |gone=>rw[hk]at h;cases h
   |mrk=>rw[hk]at h;cases h
   |tie=>rw[hk]at h;cases h
   |blk fz' st' e' sz rows =>
    rw[hk]at h;cases fz' with
    |true=>cases h
    |false =>
     simp only[Option.some.injEq]at h;subst h;rw[jP hs λk' hk'=>hH k' (.inl (by simp[hk']))];simp only[hH k (.inl (by simp)),hk]
  .cases h
 .cases h
theorem Ed {b:Builtin}{d:Option Nat}{xs:List AV}{ts:List Nat}{r:AR}(h:qW P b H d xs ts=some r)(hH:Agree r H H2):qW P b H2 d xs ts=some r:=by
 unfold qW at h ⊢;split at h
 .split at h
  .exact UE h hH
  .cases h
 .exact h
 .exact h
 .exact h
 .split at h
  .rename_i e e2 d ht ht2 hdd;exact Eh h hH
  .exact En h hH
  .cases h
 .split at h
  .exact P6 h hH
  .cases h
 .cases h
theorem OT {op:Op}{d:Option Nat}{r:AR}(he:∀x∈op.operands,ev f2 x=ev f x)(h:mg P op d f H=some r)(hH:Agree r H H2):mg P op d f2 H2=some r:=by
 cases op<;>simp only[mg,Op.operands,List.mem_toArray,List.mem_cons,List.not_mem_nil,or_false,forall_eq,forall_eq_or_imp,List.mem_append,Array.mem_append]at he h ⊢<;>try (first|exact h|cases h)
 case move x=>rw[he]
 case assign x=>rw[he]
 case pick c x y=>rw[he.1,he.2.1,he.2.2];exact h
 case alloc e =>
  split at h
  .exact J6 h hH
  .cases h
 case box e x =>
  rw[he];split at h
  .exact Pg h hH
  .cases h
 case build t ps =>
  have:ps.toList.map (λp=>ev f2 p.2)=ps.toList.map (λp=>ev f p.2):=List.map_congr_left λp hp=>he _ (List.mem_map.2 ⟨p,hp,rfl⟩)
  rw[this];exact LX h hH
 case buildSlice t n ps =>
  have:ps.toList.map (λp=>ev f2 p.2)=ps.toList.map (λp=>ev f p.2):=List.map_congr_left λp hp=>he _ (List.mem_map.2 ⟨p,hp,rfl⟩)
  rw[this];split at h
  .rename_i e d ht hdd;exact yh h hH
  .cases h
 case load t x =>
  rw[he];unfold a2j at h ⊢;split at h
  .split at h
   .rename_i r' hr';injection h with h;subst h;rw[kL hr' hH]
   .cases h
  .split at h
   .rename_i r' hr';injection h with h;subst h;rw[kL hr' hH]
   .cases h
  .exact kL h hH
  .exact KG h hH
 case store t x y=>rw[he.1,he.2];exact IY h hH
 case nilCheck x=>rw[he];exact UC h hH
 case binOp op t x y yt=>rw[he.1,he.2];exact h
 case unOp op t x=>rw[he];exact h
 case convert s d x=>rw[he];exact h
 case makeSlice t l c =>
  rw[he.1,he.2];split at h
  .rename_i e d ht hdd;exact OZ h hH
  .cases h
 case slice t x lo hi mx =>
  cases mx with
  |some m=>simp only[mg]at h;cases h
  |none =>
   simp only[mg]at h ⊢;have h1:ev f2 x=ev f x:=he x (by simp);have h2:lo.map (ev f2)=lo.map (ev f):=by cases lo with|none=>rfl|some y=>simp[he y (by simp)]
   have h3:hi.map (ev f2)=hi.map (ev f):=by cases hi with|none=>rfl|some y=>simp[he y (by simp)]
   rw[h1,h2,h3];split at h
   .rename_i e ht;split at h
    .exact Uz h hH
    .exact LM h hH
   .cases h
 case fieldAddr s x i=>rw[he];exact Ak h hH
 case field s x i=>rw[he];exact h
 case indexAddr t x i =>
  rw[he.1,he.2];split at h
  .rename_i e ht;exact LU h hH
  .rename_i n e ht;exact J4 h hH
  .cases h
 case index t x i=>rw[he.1,he.2];exact h
 case makeFunc fn first caps =>
  cases fn with
  |func g =>
   simp only[mg]at h ⊢;have:caps.toList.map (ev f2)=caps.toList.map (ev f):=List.map_congr_left λx hx=>he x (.inr (Array.mem_toList_iff.1 hx))
   rw[this];exact h
  |_=>simp[mg]at h
 case extract x i=>rw[he];exact h
 case call c =>
  have:c.args.toList.map (ev f2)=c.args.toList.map (ev f):=List.map_congr_left λx hx=>he x (by simp[Call.operands];right;exact Array.mem_toList_iff.1 hx)
  rw[this];split at h
  .rename_i b hb;exact Ed h hH
  .cases h
end
section
variable {P:Program}
theorem a4k {o:Oper}{f:Fr}{H:Hp}{r:AR}(hr:mg P o.op o.dst f H=some r)(hc:r.c):Sim P o f H (r.rd++r.fz++r.hs.map (·.1)) ⟨r.v,r.fz,r.hs⟩:=by
 intro f2 H2 he hH G M w0 D0 N β a w hd R K Q hK;have:=OT he hr λk hk=>hH k (by simpa [or_assoc] using hk)
 exact λro=>(a1G R o hd this hc).wp hK (a3u hr)
theorem pU {g:Nat}{x:Operand}{args:Array Operand}{ats:Array TypeId}{o:Oper}(ho:o.op=.call ⟨.value x,args,ats⟩){a:Act}{w:World}{R:Value->World->Prop}{us:Array Value}(hx:a.eval x=.func (.func g) #[] us)(h:lH P g (args.toList.map a.eval++us.toList) w R){ro:Option Nat}{K:Act->World->Prop}{Q:Exit->Act->World->Prop}
  (hK:∀v w',R v w'->K (a.put o.dst v) w'):o.wpIn (Wd ro) 0 P a w K Q:=by
 have hx:execOp a.eval o=callFunc g (args.map a.eval++us):=by
  simp[execOp,ho,resolve,hx,Deferred.ofValue,invoke]
 have hargs:(args.toList.map a.eval++us.toList).toArray=args.map a.eval++us:=by apply Array.ext';simp
 unfold lH at h;rw[hargs]at h;refine⟨λ_ _=>trivial,?_⟩;show o.uponIn (Wd ro) 0 P a K Q ((o.semAt ro a.eval).run P w);rw[Gv (by rw[ho];intro c h;cases h),hx];rcases h with ⟨fn,h1,h2,h3,h4⟩|⟨v,w',h1,h2⟩
 .have:(callFunc g (args.map a.eval++us)).run P w=.ok (.enter g (args.map a.eval++us)) w:=by
   simp only[callFunc,Sem.run_bind,run_program,Result.andThen_ok,h1,h2,h3,Bool.false_eq_true,if_false,Sem.run_pure]
  rw[this,Oper.uponIn_enter];refine⟨λ_=>?_,?_⟩
  .rename_i hs;exact absurd hs (by simp[Wd,Fence.wide])
  .have h5:=(callsIn_wide (n:=0)).2 h4;have h6:CallsIn (Wd ro) 0 P g (args.map a.eval++us) w _:=h5;exact h6.mono λe w' ⟨v,he,hR⟩=>by subst he;exact hK v w' hR
 .rw[h1];exact hK v w' h2
theorem KR (fz:List Nat):∀(H H2:Hp) (k:Nat),H2 k=H k->aQ fz H2 k=aQ fz H k:=by
 induction fz with
 |nil=>exact λ_ _ _ h=>h
 |cons h r ih =>
  intro H H2 k e;simp only[aQ];refine ih _ _ _ ?_;by_cases hk:k=h
  .subst hk;simp[aO,e]
  .simp[aJ _ _ hk,e]
theorem JW {H H2:Hp}{d:Nat}(h:(H2 d).stamp=(H d).stamp)(own:iy):∀(res:List CV) (j:Nat),rAV H2 d own j res=rAV H d own j res
 |[],_=>rfl
 |c::cs,j=>by simp only[rAV,h,JW h own cs (j+1)]
theorem Qq (H H2:Hp)(d:Nat):∀(res:List CV) (j:Nat),rAV H2 d none j res=rAV H d none j res
 |[],_=>rfl
 |c::cs,j=>by simp only[rAV,Qq H H2 d cs (j+1)]
theorem wo.ok {w w':World}{D D':Nat->Prop}{own:iy}{res:List CV}{us:List Value}(h:wo own res)(hr:Eo w w' D own res us):Eo w w' D' own res us:=by
 refine⟨hr.len,λj c v hj hc hv=>(hr.val j c v hj hc hv).flat ?_,λi e sz rows ho=>?_⟩
 .cases own with
  |none=>exact h c (List.mem_of_getElem? hc)
  |some p=>obtain⟨i,e,sz,rows⟩:=p;exact h.2 j c (hj i e sz rows rfl) hc
 .obtain⟨v,h1,h2,h3⟩:=hr.own i e sz rows ho;subst ho;refine⟨v,h1,h2,h3.1,?_⟩;rcases h3.2 with hn|⟨g,cap,cur,hv,hB,hg,a1,a2,a3,a4⟩
  .exact .inl hn
  .refine .inr ⟨g,cap,cur,hv,hB,hg,a1,a2,a3,a4.flat λx hx=>?_⟩;obtain⟨r,hr',hx'⟩:=List.mem_flatten.1 hx;exact h.1 r hr' x hx'
theorem a0U {o:Oper}{g:Nat}{x:Operand}{args:Array Operand}{ats:Array TypeId}(ho:o.op=.call ⟨.value x,args,ats⟩){d:Nat}(hdst:o.dst=some d){f:Fr}{H:Hp}{c:Prop}{cv:List CV}{ms:List Nat}{own:iy}{res:List CV}{fz:Bool}
  {l:List AV} (hx:ev f x=.fn g l) (ht:aH H (args.toList.map (ev f)++l)=some (c,cv,ms)\/su H (args.toList.map (ev f)++l)=some (c,cv,ms)) (hc:c) (hac:AC P g cv own res) (hf:fz=false->ms=[]\/wo own res) :
  let H':=if fz then aQ ms H else H
  Sim P o f H (ms++(DY H' d own).map (·.1)) ⟨l7 (rAV H' d own 0 res),if fz then ms else [],DY H' d own⟩:=by
 intro H' f2 H2 he hH G M w0 D0 N β a w hd R K Q hK ro;have hx2:ev f2 x=.fn g l:=by rw[he x (by rw[ho];simp[Op.operands,Call.operands]),hx]
 have zf:=R.ev x;rw[hx2]at zf;simp only[aG]at zf;obtain⟨us,hus,hcap⟩:=zf;have hargs:args.toList.map (ev f2)=args.toList.map (ev f):=List.map_congr_left λx hx=>he x (by rw[ho];simp only[Op.operands,Call.operands];exact Array.mem_append.2 (.inr (Array.mem_toList_iff.1 hx)))
 have hrep:eU w (DD (aQ ms H2) β D0) cv (args.toList.map a.eval++us.toList):=by
  rcases ht with ht|ht
  .have ht2:=mY ht λk hk=>hH k (by simp[hk])
   rw[<-hargs]at ht2;exact mX R ((jv R args.toList).append hcap) ht2 hc
  .have ht2:=zI ht λk hk=>hH k (by simp[hk])
   rw[<-hargs]at ht2;exact zH R ((jv R args.toList).append hcap) ht2 hc
 have hD:∀b,DD (aQ ms H2) β D0 b->b<w.heap.size:=by
  intro b hb;rcases hb with hb|⟨k,hm,hk⟩
  .exact Nat.lt_of_lt_of_le (R.old b hb).1 R.size
  .have:=(nK ms H2 k).1 hm;exact(R.o7 this.2 hk).1
 refine pU ho hus (hac w _ _ hD hrep) λv w' ⟨hb,us,hv,hres⟩=>?_;subst hv;have hdN:=hd d hdst;rw[hdst];have fin:∀H3:Hp,Rel G M w0 D0 N f2 H3 β a w->Eo w w' (DD H3 β D0) own res us->(∀i e sz rows,own=some (i,e,sz,rows)->(H3 d).stamp=(H' d).stamp)->H3=aQ (if fz then ms else []) H2->K (a.put (some d) (qF us)) w':=by
  intro H3 R3 hr3 hs he3;obtain⟨β',R'⟩:=Zu R3 hb hr3 hdN;refine hK _ _ β' ?_;have e1:l7 (rAV H3 d own 0 res)=l7 (rAV H' d own 0 res):=by
   cases own with
   |none=>rw[Qq H' H3]
   |some p=>obtain⟨i,e,sz,rows⟩:=p;rw[JW (hs i e sz rows rfl)]
  have e2:DY H3 d own=DY H' d own:=by
   cases own with
   |none=>rfl
   |some p=>obtain⟨i,e,sz,rows⟩:=p;simp only[DY,hs i e sz rows rfl]
  rw[e1,e2]at R';rw[he3]at R';simp only[Up.f,Up.h,hdst,iY];exact R'
 have hst:∀i e sz rows,own=some (i,e,sz,rows)->H2 d=H d:=λi e sz rows ho=>hH d (by subst ho;simp[DY])
 cases fz with
 |true =>
  refine fin (aQ ms H2) (R.aQ ms) hres (λi e sz rows ho=>?_) rfl;show (aQ ms H2 d).stamp=(aQ ms H d).stamp;rw[(zO ms H2 d).1,(zO ms H d).1,hst i e sz rows ho]
 |false =>
  refine fin H2 R ?_ (λi e sz rows ho=>by rw[hst i e sz rows ho];rfl) rfl;rcases hf rfl with h0|h0
  .rw[h0]at hres;exact hres
  .exact h0.ok hres
theorem jh.set {M:Nat->Prop}{w:World}{D:Nat->Prop}{β:Nat->Value}{H:Hp}:∀{xs:List AV} {vs:List Value} (i:Nat),jh w D H β xs vs->jh w D H β (xs.set i .dead) vs
 |_,_,_,.nil=>.nil
 |_,_,0,.cons h k=>.cons (by simp[aG]) k
 |_,_,i+1,.cons h k=>.cons h (jh.set (M:=M) i k)
theorem jh.get {w:World}{D:Nat->Prop}{β:Nat->Value}{H:Hp}:∀{xs:List AV} {vs:List Value} {i:Nat} {x:AV},jh w D H β xs vs->xs[i]?=some x->∃v,vs[i]?=some v/\aG w D H β x v
 |_,_,i,x,.nil,h=>by simp at h
 |_,_,0,x,.cons h k,hx=>by simp at hx;subst hx;exact⟨_,rfl,h⟩
 |_,_,i+1,x,.cons h k,hx=>by simpa using jh.get k (by simpa using hx)
theorem zq {w:World}{D:Nat->Prop}{β:Nat->Value}{H:Hp}:∀{xs:List CV} {vs:List Value},eU w D xs vs->aS w D H β (xs.map CV.av) vs
 |[],[],_=>by simp[aS]
 |_::_,_::_,h=>by simp only[List.map_cons,aS];exact⟨h.1.av,zq h.2⟩
 |[],_::_,h=>h.elim
 |_::_,[],h=>h.elim
theorem Wp {o:Oper}{g:Nat}{x:Operand}{args:Array Operand}{ats:Array TypeId}(ho:o.op=.call ⟨.value x,args,ats⟩){d:Nat}(hdst:o.dst=some d){f:Fr}{H:Hp}{c:Prop}{cv:List CV}{ms:List Nat}{res:List CV}
  {l:List AV} (hx:ev f x=.fn g l) {i h st e sz:Nat} {rows rows':List (List IV)} (hi:(args.toList.map (ev f)++l)[i]?=some (.hs h st)) (hH:H h=.blk false st e sz rows)
  (ht:aH H ((args.toList.map (ev f)++l).set i .dead)=some (c,cv,ms)) (hc:c) (hm:h∉ms) (hac:ACW P g cv i e sz rows rows' res) :
  Sim P o f H (h::ms) ⟨l7 (res.map CV.av),ms,[(h,.blk false st e sz rows')]⟩:=by
 intro f2 H2 he hHH G M w0 D0 N β a w hd R K Q hK ro;have hx2:ev f2 x=.fn g l:=by rw[he x (by rw[ho];simp[Op.operands,Call.operands]),hx]
 have zf:=R.ev x;rw[hx2]at zf;simp only[aG]at zf;obtain⟨us,hus,hcap⟩:=zf;have hargs:args.toList.map (ev f2)=args.toList.map (ev f):=List.map_congr_left λx hx=>he x (by rw[ho];simp only[Op.operands,Call.operands];exact Array.mem_append.2 (.inr (Array.mem_toList_iff.1 hx)))
 have hH2:H2 h=.blk false st e sz rows:=by rw[hHH h (by simp)];exact hH
 have hall:=(jv R args.toList).append hcap;rw[hargs]at hall;have hrep:eU w (DD (aQ ms H2) β D0) cv (args.toList.map a.eval++us.toList) :=
  mX R (jh.set (M:=M) i hall) (mY ht λk hk=>hHH k (by simp[hk])) hc
 obtain⟨v,hv,hrv⟩:=hall.get hi;simp only[aG]at hrv;have hvb:v=β h:=hrv.2 (by rw[hH2];rfl);subst hvb;have R1:=R.aQ ms;have hH1:aQ ms H2 h=.blk false st e sz rows:=by rw[kV _ _ _ hm];exact hH2
 have hD:∀b,DD (aQ ms H2) β D0 b->b<w.heap.size:=by
  intro b hb;rcases hb with hb|⟨k,hmm,hk⟩
  .exact Nat.lt_of_lt_of_le (R.old b hb).1 R.size
  .obtain⟨cur,e',hh⟩:=R1.gY hmm hk;exact(Array.getElem?_eq_some_iff.1 hh).1
 have hhead:∀b,bD (β h)=some b->DD (aQ ms H2) β D0 b:=λb hb=>.inr ⟨h,by rw[hH1];trivial,hb⟩
 have hown0:=R1.own h _ _ _ _ hH1;have hown:Own w (DD (aQ ms H2) β D0) w.heap.size (λb=>bD (β h)=some b) (β h) e sz rows:=by
  refine⟨hown0.1,?_⟩;rcases hown0.2 with hn|⟨g,cap,cur,hv,_,hrest⟩
  .exact .inl hn
  .exact .inr ⟨g,cap,cur,hv,.inr (by rw[hv];rfl),hrest⟩
 refine pU ho hus (hac w _ _ _ hD hrep hv hhead hown) λu w' ⟨hg,us',hu,hres,hown'⟩=>?_;subst hu;have hdN:=hd d hdst;rw[hdst];have hown2:Own w' (λb=>DD (aQ ms H2) β D0 b\/bD (β h)=some b) w0.heap.size M (β h) e sz rows':=by
  refine⟨hown'.1,?_⟩;rcases hown'.2 with hn|⟨g,cap,cur,hv,_,h1,h2,h3,h4,h5⟩
  .exact .inl hn
  .refine .inr ⟨g,cap,cur,hv,?_,h1,h2,h3,h4,h5.mono (dh.of_sub λb hb=>hb.elim id (hhead b))⟩;exact DD.head R1 (h:=h) (by rw[hH1];trivial) (by rw[hv];rfl)
 obtain⟨β',hb',hbo,R'⟩:=R1.grow (w':=w') (st':=st) (rows':=rows') (v:=β h) (dst:=none) (x:=.dead) (val:=Go.undef) hH1 (.inl ⟨rfl,rfl⟩) hg.os hg.tape hg.output hg.size
  (λk hk hne=>hg.block k hk (λe=>hne e.symm)) hown2 (λk hk=>.inl hk) (λ_ _ _ _ _=>by simp[aG]) (by simp)
 have hbb:β'=β:=funext λu=>by
  by_cases hu:u=h
  .subst hu;exact hb'
  .exact hbo u hu
 subst hbb;have R2:Rel G M w0 D0 N f2 (dF (aQ ms H2) h (.blk false st e sz rows')) β' a w':=R';refine hK _ _ β' ?_;simp only[Up.f,Up.h,hdst,iY,dA];refine R2.value (dst:=some d) (oW _ _ (zq (hres.mono (dh.of_sub λb hb=>?_)))) (by rintro _ ⟨⟩;exact hdN);rcases hb with hb|⟨k,hmm,hk⟩
 .exact .inl hb
 .by_cases hkh:k=h
  .subst hkh;exact hhead b hk
  .rw[aJ _ _ hkh]at hmm;exact .inr ⟨k,hmm,hk⟩
theorem Wq {o:Oper}{g:Nat}{x:Operand}{args:Array Operand}{ats:Array TypeId}(ho:o.op=.call ⟨.value x,args,ats⟩){d:Nat}(hdst:o.dst=some d){f:Fr}{H:Hp}{c:Prop}{cv:List CV}{ms:List Nat}
  {l:List AV} (hx:ev f x=.fn g l) {i h st e sz:Nat} {rows rows':List (List IV)} (hi:(args.toList.map (ev f)++l)[i]?=some (.hs h st)) (hH:H h=.blk false st e sz rows)
  (ht:aH H ((args.toList.map (ev f)++l).set i .dead)=some (c,cv,ms)) (hc:c) (hm:h∉ms) (hac:ACT P g cv i e sz rows rows') :
  Sim P o f H (h::ms) ⟨.hs h (st+1),ms,[(h,.blk false (st+1) e sz rows')]⟩:=by
 intro f2 H2 he hHH G M w0 D0 N β a w hd R K Q hK ro;have hx2:ev f2 x=.fn g l:=by rw[he x (by rw[ho];simp[Op.operands,Call.operands]),hx]
 have zf:=R.ev x;rw[hx2]at zf;simp only[aG]at zf;obtain⟨us,hus,hcap⟩:=zf;have hargs:args.toList.map (ev f2)=args.toList.map (ev f):=List.map_congr_left λx hx=>he x (by rw[ho];simp only[Op.operands,Call.operands];exact Array.mem_append.2 (.inr (Array.mem_toList_iff.1 hx)))
 have hH2:H2 h=.blk false st e sz rows:=by rw[hHH h (by simp)];exact hH
 have hall:=(jv R args.toList).append hcap;rw[hargs]at hall;have hrep:eU w (DD (aQ ms H2) β D0) cv (args.toList.map a.eval++us.toList) :=
  mX R (jh.set (M:=M) i hall) (mY ht λk hk=>hHH k (by simp[hk])) hc
 obtain⟨v,hv,hrv⟩:=hall.get hi;simp only[aG]at hrv;have hvb:v=β h:=hrv.2 (by rw[hH2];rfl);subst hvb;have R1:=R.aQ ms;have hH1:aQ ms H2 h=.blk false st e sz rows:=by rw[kV _ _ _ hm];exact hH2
 have hD:∀b,DD (aQ ms H2) β D0 b->b<w.heap.size:=by
  intro b hb;rcases hb with hb|⟨k,hmm,hk⟩
  .exact Nat.lt_of_lt_of_le (R.old b hb).1 R.size
  .obtain⟨cur,e',hh⟩:=R1.gY hmm hk;exact(Array.getElem?_eq_some_iff.1 hh).1
 have hhead:∀b,bD (β h)=some b->DD (aQ ms H2) β D0 b:=λb hb=>.inr ⟨h,by rw[hH1];trivial,hb⟩
 have hown0:=R1.own h _ _ _ _ hH1;have hown:Own w (DD (aQ ms H2) β D0) w.heap.size (λb=>bD (β h)=some b) (β h) e sz rows:=by
  refine⟨hown0.1,?_⟩;rcases hown0.2 with hn|⟨g,cap,cur,hv,_,hrest⟩
  .exact .inl hn
  .exact .inr ⟨g,cap,cur,hv,.inr (by rw[hv];rfl),hrest⟩
 refine pU ho hus (hac w _ _ _ hD hrep hv hhead hown) λu w' ⟨hg,hhu,hown'⟩=>?_;have hdN:=hd d hdst;rw[hdst];have hown2:Own w' (λb=>DD (aQ ms H2) β D0 b\/bD u=some b) w0.heap.size M u e sz rows':=by
  refine⟨hown'.1,?_⟩;rcases hown'.2 with hn|⟨g,cap,cur,hu,_,h1,h2,h3,h4,h5⟩
  .exact .inl hn
  .have hgu:bD u=some g:=by rw[hu];rfl
   refine .inr ⟨g,cap,cur,hu,?_,h1,h2,h3,h4,h5.mono (dh.of_sub λb hb=>hb.elim id λhb=>hhead b (hhu b hb))⟩;exact DD.head R1 (h:=h) (by rw[hH1];trivial) (hhu g hgu)
 obtain⟨β',hb',hbo,R'⟩:=R1.grow (w':=w') (st':=st+1) (rows':=rows') (v:=u) (dst:=some d) (x:=.hs h (st+1)) (val:=u) hH1 (.inr (by omega)) hg.os hg.tape hg.output hg.size
  (λk hk hne=>hg.block k hk (λe=>hne e.symm)) hown2 (λk hk=>.inl (hhu k hk)) (λβ' hb _ _ _=>by simp[aG,aO,HC.stamp,hb]) (by rintro _ ⟨⟩;exact hdN)
 refine hK _ _ β' ?_;simp only[Up.f,Up.h,hdst,iY,dA];exact R'
def upX (ms:List Nat)(E:Nat)(res:List CV):Up:=⟨l7 (res.map CV.av),ms,[(999,.mrk E)]⟩
def b2h (P:Program)(o:Oper)(K:Fr->Hp->Log->Prop)(f:Fr)(H:Hp)(lg:Log):Prop :=
 ∃(ms:List Nat) (B:Nat) (R:Nat->Nat->List CV->Prop),(∀B,∃E res,B<=E/\R B E res) /\
  (∀(f2:Fr) (H2:Hp),(∀x∈o.op.operands,ev f2 x=ev f x)->(∀h∈999::ms,H2 h=H h) ->
   ∀(G:Gh) (M:Nat->Prop) (w0:World) (D0:Nat->Prop) (N:Nat) (β:Nat->Value) (a:Act) (w:World),(∀d,o.dst=some d->d<N)->Rel G M w0 D0 N f2 H2 β a w ->
    ∀(K':Act->World->Prop) (Q:Exit->Act->World->Prop),(∀B' E res a' w' β',B<=B'->B'<=E->R B' E res->Rel G M w0 D0 N ((upX ms E res).f o.dst f2) ((upX ms E res).h H2) β' a' w'->K' a' w')->∀ro,o.wpIn (Wd ro) 0 P a w K' Q) /\
  ∀B' E res,B<=B'->B'<=E->R B' E res->K ((upX ms E res).f o.dst f) ((upX ms E res).h H) ((999::ms,(upX ms E res).fz++(upX ms E res).hs.map (·.1))::lg)
def XAt (P:Program)(o:Oper)(K:Fr->Hp->Log->Prop)(f:Fr)(H:Hp)(lg:Log):Prop :=
 ∃(rd:List Nat) (R:Up->Prop),(∃u,R u) /\
  (∀(f2:Fr) (H2:Hp),(∀x∈o.op.operands,ev f2 x=ev f x)->(∀h∈rd,H2 h=H h) ->
   ∀(G:Gh) (M:Nat->Prop) (w0:World) (D0:Nat->Prop) (N:Nat) (β:Nat->Value) (a:Act) (w:World),(∀d,o.dst=some d->d<N)->Rel G M w0 D0 N f2 H2 β a w ->
    ∀(K':Act->World->Prop) (Q:Exit->Act->World->Prop),(∀u a' w' β',R u->Rel G M w0 D0 N (u.f o.dst f2) (u.h H2) β' a' w'->K' a' w')->∀ro,o.wpIn (Wd ro) 0 P a w K' Q) /\
  ∀u,R u->(∀k∈u.fz++u.hs.map (·.1),k∈rd)/\999∈u.fz++u.hs.map (·.1)/\K (u.f o.dst f) (u.h H) ((rd,u.fz++u.hs.map (·.1))::lg)
theorem b2h.up {o:Oper}{K:Fr->Hp->Log->Prop}{f:Fr}{H:Hp}{lg:Log}(h:b2h P o K f H lg):XAt P o K f H lg:=by
 obtain⟨ms,B,R,hne,hs,hk⟩:=h;refine⟨999::ms,λu=>∃B' E res,B<=B'/\B'<=E/\R B' E res/\u=upX ms E res,?_,λf2 H2 h1 h2 G M w0 D0 N β a w hd R0 K' Q hK' ro=>hs f2 H2 h1 h2 G M w0 D0 N β a w hd R0 K' Q (λB' E res a' w' β' h3 h4 h5 R1=>hK' _ a' w' β' ⟨B',E,res,h3,h4,h5,rfl⟩ R1) ro,?_⟩
 .obtain⟨E,res,hE,hR⟩:=hne B;exact⟨_,B,E,res,Nat.le_refl _,hE,hR,rfl⟩
 .rintro _ ⟨B',E,res,h3,h4,h5,rfl⟩;refine⟨λk hk=>?_,by simp[upX],hk B' E res h3 h4 h5⟩;simp only[upX,List.map_cons,List.map_nil,List.mem_append,List.mem_cons,List.not_mem_nil,or_false]at hk ⊢;exact hk.symm
theorem a0A {o:Oper}{g:Nat}{x:Operand}{args:Array Operand}{ats:Array TypeId}(ho:o.op=.call ⟨.value x,args,ats⟩){d:Nat}(hdst:o.dst=some d){f:Fr}{H:Hp}{l:List AV}(hx:ev f x=.fn g l){K:Fr->Hp->Log->Prop}{lg:Log}
  (h:a5z P g (args.toList.map (ev f)++l) d K f H lg):b2h P o K f H lg:=by
 obtain⟨c,cv,ms,B,R0,ht,hc,hB,hac,hk⟩:=h;refine⟨ms,B,R0,hac.1,λf2 H2 he hHH G M w0 D0 N β a w hd R K' Q hK' ro=>?_,λB' E res h1 h2 h3=>?_⟩
 .have hx2:ev f2 x=.fn g l:=by rw[he x (by rw[ho];simp[Op.operands,Call.operands]),hx]
  have zf:=R.ev x;rw[hx2]at zf;simp only[aG]at zf;obtain⟨us,hus,hcap⟩:=zf;have hargs:args.toList.map (ev f2)=args.toList.map (ev f):=List.map_congr_left λx hx=>he x (by rw[ho];simp only[Op.operands,Call.operands];exact Array.mem_append.2 (.inr (Array.mem_toList_iff.1 hx)))
  have hall:=(jv R args.toList).append hcap;rw[hargs]at hall;have hrep:eU w (DD (aQ ms H2) β D0) cv (args.toList.map a.eval++us.toList):=mX R hall (mY ht λk hk=>hHH k (by simp[hk])) hc;have hB2:H2 999=.mrk B:=by rw[hHH 999 (by simp)];exact hB
  have hD:∀b,DD (aQ ms H2) β D0 b->b<w.heap.size:=by
   intro b hb;rcases hb with hb|⟨k,hm,hk⟩
   .exact Nat.lt_of_lt_of_le (R.old b hb).1 R.size
   .have:=(nK ms H2 k).1 hm;exact(R.o7 this.2 hk).1
  have hBw:=R.mrk _ _ hB2;refine pU ho hus (hac.2 w _ _ hD hrep) λv w' ⟨hb,us',res,hv,hR,hres⟩=>?_;subst hv;have hdN:=hd d hdst;rw[hdst];have R1:=(R.aQ ms).below hb;have hf9:aQ ms H2 999=.mrk B:=by
   have:∀(l:List Nat) (H:Hp),H 999=.mrk B->aQ l H 999=.mrk B:=by
    intro l
    induction l with
    |nil=>exact λ_ h=>h
    |cons a r ih =>
     intro H h;simp only[aQ];refine ih _ ?_;by_cases e:999=a
     .subst e;rw[aO,h];rfl
     .rw[aJ _ _ e];exact h
   exact this ms H2 hB2
  have R2:=R1.JE hf9 (Nat.le_refl _);have hsub:dh w' (DD (aQ ms H2) β D0) w' (DD (dF (aQ ms H2) 999 (.mrk w'.heap.size)) β D0):=dh.of_sub λb hb=>by
   rcases hb with hb|⟨k,hm,hk⟩
   .exact .inl hb
   .by_cases e:k=999
    .subst e;rw[aO]at hm;exact hm.elim
    .rw[aJ _ _ e]at hm;exact .inr ⟨k,hm,hk⟩
  have R3:=R2.value (dst:=some d) (oW _ _ (zq (hres.mono hsub))) (by rintro _ ⟨⟩;exact hdN);refine hK' w.heap.size w'.heap.size res _ _ β hBw hb.size hR ?_;simp only[Up.f,Up.h,upX,hdst,iY,dA];exact R3
 .have:=hk B' E res h1 h2 h3;simp only[Up.f,Up.h,upX,hdst,iY,dA,List.map_cons,List.map_nil];exact this
theorem Vq {o:Oper}{t n:Nat}{ps:Array (Nat×Operand)}(ho:o.op=.buildSlice t n ps){d:Nat}(hdst:o.dst=some d){f:Fr}{H:Hp}{K:Fr->Hp->Log->Prop}{lg:Log}
  (h:PG P t n (ps.toList.map (·.1)) (ps.toList.map λp=>ev f p.2) d K f H lg):b2h P o K f H lg:=by
 obtain⟨e,c,css,fz,B,ht,htp,hc,hB,hk⟩:=h;refine⟨fz,B,λB' E res=>∃b,res=[.iv (.own b e (ti P e).size css)]/\(b=none->css=[])/\∀g cap,b=some (g,cap)->B'<=g/\g<E/\g∉iq css,λB0=>?_,λf2 H2 he hHH G M w0 D0 N β a w hd R K' Q hK' ro=>?_,λB' E res h1 h2 h3=>?_⟩
 .have hex:∃g,B0<=g/\g∉iq css:=by
   refine⟨B0+(iq css).sum+1,by omega,λhm=>?_⟩;have:∀(l:List Nat) (x:Nat),x∈l->x<=l.sum:=by
    intro l
    induction l with
    |nil=>intro x hx;cases hx
    |cons y ys ih =>
     intro x hx;simp only[List.sum_cons];rcases List.mem_cons.1 hx with rfl|hx
     .omega
     .have:=ih x hx;omega
   have:=this _ _ hm;omega
  obtain⟨g,hg1,hg2⟩:=hex;exact⟨g+1,_,by omega,some (g,0),rfl,by simp,λg' cap' hh=>by injection hh with hh;injection hh with h1 h2;subst h1;exact⟨hg1,by omega,hg2⟩⟩
 .have hargs:ps.toList.map (λp=>ev f2 p.2)=ps.toList.map (λp=>ev f p.2):=List.map_congr_left λp hp=>he _ (by rw[ho];simp only[Op.operands];exact List.mem_toArray.2 (List.mem_map.2 ⟨p,hp,rfl⟩))
  have hall:jh w (DD H2 β D0) H2 β (ps.toList.map λp=>ev f p.2) (ps.toList.map λp=>a.eval p.2):=by
   have:=jv R (ps.toList.map (·.2));rw[List.map_map,List.map_map]at this;rw[<-hargs];exact this
  have b5w:=nX htp λk hk=>hHH k (by simp[hk])
  have hB2:H2 999=.mrk B:=by rw[hHH 999 (by simp)];exact hB
  obtain⟨arr',hrun,hsz,hrep,hln,hnm⟩:=DR (d:=d) (n:=n) ht R (idx:=ps.toList.map (·.1)) (by simp) hall b5w hc;have hbel:Below w.heap.size w (w.alloc (.cells arr' e)):=⟨rfl,rfl,rfl,by simp,λk hk=>heap_alloc_old w _ hk⟩;have R1:=(R.aQ fz).below hbel;have hf9:aQ fz H2 999=.mrk B:=by
   have:∀(l:List Nat) (H:Hp),H 999=.mrk B->aQ l H 999=.mrk B:=by
    intro l
    induction l with
    |nil=>exact λ_ h=>h
    |cons a r ih =>
     intro H h;simp only[aQ];refine ih _ ?_;by_cases e:999=a
     .subst e;rw[aO,h];rfl
     .rw[aJ _ _ e];exact h
   exact this fz H2 hB2
  have R2:=R1.JE hf9 (Nat.le_refl _);have hsub:dh w (DD (aQ fz H2) β D0) (w.alloc (.cells arr' e)) (DD (dF (aQ fz H2) 999 (.mrk (w.alloc (.cells arr' e)).heap.size)) β D0):=by
   refine⟨by simp,λb _ hb=>?_,λb hb _ _=>heap_alloc_old w _ hb⟩;rcases hb with hb|⟨k,hm,hk⟩
   .exact .inl hb
   .by_cases e:k=999
    .subst e;rw[aO]at hm;exact hm.elim
    .rw[aJ _ _ e]at hm;exact .inr ⟨k,hm,hk⟩
  have hnD:∀b,DD (dF (aQ fz H2) 999 (.mrk (w.alloc (.cells arr' e)).heap.size)) β D0 b->b<w.heap.size:=by
   rintro b (hb|⟨k,hm,hk⟩)
   .exact Nat.lt_of_lt_of_le (R.old b hb).1 R.size
   .by_cases e:k=999
    .subst e;rw[aO]at hm;exact hm.elim
    .rw[aJ _ _ e]at hm;exact((R.aQ fz).o7 hm hk).1
  have hrow:Rep (w.alloc (.cells arr' e)) (DD (dF (aQ fz H2) 999 (.mrk (w.alloc (.cells arr' e)).heap.size)) β D0) (.own (some (w.heap.size,n)) e (ti P e).size css) (.slice (some ⟨w.heap.size,0,none⟩) n n):=by
   have:=Rep.own (w:=w.alloc (.cells arr' e)) (D:=DD (dF (aQ fz H2) 999 (.mrk (w.alloc (.cells arr' e)).heap.size)) β D0) css w.heap.size n e (ti P e).size arr' (λi r hi=>hc.2.2.2.2.1 r (List.mem_of_getElem? hi)) (by omega) hnm (heap_alloc_new w _) (λh=>Nat.lt_irrefl _ (hnD _ h)) hsz (λi r hi j x hj=>?_)
   .rw[hln]at this;exact this
   .obtain⟨v,hv,hr⟩:=hrep.get _ _ (iR css i j r x hc.2.2.2.2.1 hi hj);rw[Array.getElem?_toList]at hv;rw[Array.getD_eq_getD_getElem?,hv];exact hr.mono hsub
  have R3:=R2.value (dst:=some d) (v:=.iv (.own (some (w.heap.size,n)) e (ti P e).size css)) (val:=.slice (some ⟨w.heap.size,0,none⟩) n n) (by simp only[aG];exact hrow) (by rintro _ ⟨⟩;exact hd d hdst);refine⟨λ_ _=>trivial,?_⟩;show o.uponIn (Wd ro) 0 P a K' Q ((o.semAt ro a.eval).run P w);rw[Gv (by rw[ho];intro c h;cases h)];have hex:(execOp a.eval o).run P w=.ok (.value (.slice (some ⟨w.heap.size,0,none⟩) n n)) (w.alloc (.cells arr' e)):=by
   have e2:(ps.map λp=>(p.1,a.eval p.2))=((ps.toList.map (·.1)).zip (ps.toList.map λp=>a.eval p.2)).toArray:=by
    apply Array.ext';rw[Array.toList_map,List.zip_map']
   simp only[execOp,ho,Sem.run_bind];rw[e2,hrun];rfl
  rw[hex];refine hK' w.heap.size (w.alloc (.cells arr' e)).heap.size [.iv (.own (some (w.heap.size,n)) e (ti P e).size css)] _ _ β (R.mrk _ _ hB2) (by simp) ⟨_,rfl,by simp,λg cap hh=>?_⟩ ?_
  .injection hh with hh;injection hh with h1 h2;subst h1;refine⟨Nat.le_refl _,by simp,λhm=>?_⟩;rw[<-jq]at hm;obtain⟨x,hx,hm⟩:=iH.1 hm;obtain⟨j,hj⟩:=List.getElem?_of_mem hx;obtain⟨v,_,hv⟩:=hrep.get j x hj;exact Nat.lt_irrefl _ (hv.ids _ hm).2
  .simp only[Up.f,Up.h,upX,hdst,iY,dA,List.map_cons,List.map_nil,l7,CV.av];exact R3
 .obtain⟨b,rfl,hb0,hb⟩:=h3;have:=hk B' E b h1 h2 hb0 hb;simp only[Up.f,Up.h,upX,hdst,iY,dA,List.map_cons,List.map_nil,l7,CV.av];exact this
def IAt (P:Program)(o:Oper)(K:Fr->Hp->Log->Prop)(f:Fr)(H:Hp)(lg:Log):Prop :=
 ∃Z:AV->Hp->Prop,(∃x H',Z x H')/\(∀(G:Gh) (M:Nat->Prop) (w0:World) (D0:Nat->Prop) (N:Nat) (β:Nat->Value) (a:Act) (w:World),(∀d,o.dst=some d->d<N)->Rel G M w0 D0 N f H β a w ->
   ∀(K':Act->World->Prop) (Q:Exit->Act->World->Prop),(∀x H' a' w' β',Z x H'->Rel G M w0 D0 N (iY f o.dst x) H' β' a' w'->K' a' w')->∀ro,o.wpIn (Wd ro) 0 P a w K' Q) /\
  ∀x H',Z x H'->K (iY f o.dst x) H' (([],[998])::lg)
theorem a2y {o:Oper}{g:Nat}{x:Operand}{args:Array Operand}{ats:Array TypeId}(ho:o.op=.call ⟨.value x,args,ats⟩){d:Nat}(hdst:o.dst=some d){f:Fr}{H:Hp}{l:List AV}(hx:ev f x=.fn g l){K:Fr->Hp->Log->Prop}{lg:Log}
  (h:a5C P g (args.toList.map (ev f)++l) d K f H lg):IAt P o K f H lg:=by
 obtain⟨Z,hac,hk⟩:=h;refine⟨Z,hac.1,λG M w0 D0 N β a w hd R K' Q hK' ro=>?_,by simp only[hdst,iY];exact hk⟩;have zf:=R.ev x;rw[hx]at zf;simp only[aG]at zf;obtain⟨us,hus,hcap⟩:=zf;have hall:=(jv R args.toList).append hcap;refine pU ho hus (hac.2 G M w0 D0 N f β a w _ R hall) λv w' ⟨x,H',β',hz,R',hv⟩=>?_;have R2:=R'.value (dst:=o.dst) hv hd;exact hK' x H' _ _ β' hz R2
theorem Vp {o:Oper}{g:Nat}{x:Operand}{args:Array Operand}{ats:Array TypeId}(ho:o.op=.call ⟨.value x,args,ats⟩){d:Nat}(hdst:o.dst=some d){f:Fr}{H:Hp}{l:List AV}(hx:ev f x=.fn g l){K:Fr->Hp->Log->Prop}{lg:Log}
  (h:a5D P g (args.toList.map (ev f)++l) d K f H lg):XAt P o K f H lg:=by
 obtain⟨rd,R0,hac,hk⟩:=h;refine⟨rd,λu=>∃x hs,R0 x hs/\u=⟨x,[],hs⟩,?_,λf2 H2 he hHH G M w0 D0 N β a w hd R K' Q hK' ro=>?_,?_⟩
 .obtain⟨x,hs,h⟩:=hac.1;exact⟨_,x,hs,h,rfl⟩
 .have hx2:ev f2 x=.fn g l:=by rw[he x (by rw[ho];simp[Op.operands,Call.operands]),hx]
  have zf:=R.ev x;rw[hx2]at zf;simp only[aG]at zf;obtain⟨us,hus,hcap⟩:=zf;have hargs:args.toList.map (ev f2)=args.toList.map (ev f):=List.map_congr_left λx hx=>he x (by rw[ho];simp only[Op.operands,Call.operands];exact Array.mem_append.2 (.inr (Array.mem_toList_iff.1 hx)))
  have hall:=(jv R args.toList).append hcap;rw[hargs]at hall;refine pU ho hus (hac.2 H2 hHH G M w0 D0 N f2 β a w _ R hall) λv w' ⟨x,hs,β',hz,R',hv⟩=>?_;have R2:=R'.value (dst:=o.dst) hv hd;exact hK' ⟨x,[],hs⟩ _ _ β' ⟨x,hs,hz,rfl⟩ (by simp only[Up.f,Up.h,aQ];exact R2)
 .rintro _ ⟨x,hs,hz,rfl⟩;obtain⟨h1,h2,h3⟩:=hk x hs hz;refine⟨by simpa using h1,by simpa using h2,?_⟩;simp only[Up.f,Up.h,hdst,iY,aQ,List.nil_append];exact h3
theorem IW {o:Oper}{K:Fr->Hp->Log->Prop}{f:Fr}{H:Hp}{lg:Log}(h:MN P o K f H lg):(∃(u:Up) (rd:List Nat),Sim P o f H rd u/\K (u.f o.dst f) (u.h H) ((rd,u.fz++u.hs.map (·.1))::lg)/\∀k∈u.fz++u.hs.map (·.1),k∈rd)\/XAt P o K f H lg\/IAt P o K f H lg:=by
 unfold MN at h;split at h
 .rename_i x args ats d ho hdst;unfold yD at h;split at h
  rotate_left
  .exact h.elim
  rename_i g l hx;rcases h with h|h|h|h|h|h
  rotate_right
  .exact .inr (.inl (Vp ho hdst hx h))
  rotate_right
  .exact .inr (.inr (a2y ho hdst hx h))
  rotate_right
  .exact .inr (.inl (a0A ho hdst hx h).up)
  all_goals refine .inl ?_
  rotate_left
  rotate_left
  .obtain⟨c,cv,ms,i,h,st,e,sz,rows,rows',hi,hH,ht,hc,hm,hac,hk⟩:=h;refine⟨⟨.hs h (st+1),ms,[(h,.blk false (st+1) e sz rows')]⟩,h::ms,Wq ho hdst hx hi hH ht hc hm hac,?_,?_⟩
   .simp only[Up.f,Up.h,hdst,iY,dA,List.map_cons,List.map_nil];exact hk
   .intro k hk;simp only[List.map_cons,List.map_nil,List.mem_append,List.mem_cons,List.not_mem_nil,or_false]at hk ⊢;rcases hk with hk|hk
    .exact .inr hk
    .exact .inl hk
  rotate_left
  .obtain⟨c,cv,ms,i,h,st,e,sz,rows,rows',res,hi,hH,ht,hc,hm,hac,hk⟩:=h;refine⟨⟨l7 (res.map CV.av),ms,[(h,.blk false st e sz rows')]⟩,h::ms,Wp ho hdst hx hi hH ht hc hm hac,?_,?_⟩
   .simp only[Up.f,Up.h,hdst,iY,dA,List.map_cons,List.map_nil];exact hk
   .intro k hk;simp only[List.map_cons,List.map_nil,List.mem_append,List.mem_cons,List.not_mem_nil,or_false]at hk ⊢;rcases hk with hk|hk
    .exact .inr hk
    .exact .inl hk
  obtain⟨c,cv,ms,own,res,fz,ht,hc,hac,hf,hk⟩:=h;refine⟨⟨l7 (rAV (if fz then aQ ms H else H) d own 0 res),if fz then ms else [],DY (if fz then aQ ms H else H) d own⟩,ms++(DY (if fz then aQ ms H else H) d own).map (·.1),a0U ho hdst hx ht hc hac hf,?_,?_⟩
  .have:aQ (if fz then ms else []) H=if fz then aQ ms H else H:=by cases fz<;>rfl
   simp only[Up.f,Up.h,hdst,iY,this];exact hk
  .intro k hk;simp only[List.mem_append]at hk ⊢;rcases hk with hk|hk
   .cases fz with
    |true=>exact .inl hk
    |false=>simp at hk
   .exact .inr hk
 .rename_i t n ps d ho hdst;split at h
  .exact .inr (.inl (Vq ho hdst h).up)
  .refine .inl ?_;split at h
   .rename_i r hr;rw[<-ho,<-hdst]at hr;rw[<-hdst]at h;exact⟨⟨r.v,r.fz,r.hs⟩,r.rd++r.fz++r.hs.map (·.1),a4k hr h.1,h.2,λk hk=>by simp only[List.mem_append]at hk ⊢;rcases hk with hk|hk;exact .inl (.inr hk);exact .inr hk⟩
   .cases h
 .refine .inl ?_;split at h
  .rename_i r hr;exact⟨⟨r.v,r.fz,r.hs⟩,r.rd++r.fz++r.hs.map (·.1),a4k hr h.1,h.2,λk hk=>by simp only[List.mem_append]at hk ⊢;rcases hk with hk|hk;exact .inl (.inr hk);exact .inr hk⟩
  .cases h
end
end Go.AL

namespace Go.AL
variable {zi:Zi}
open Go.RowKit
set_option linter.unusedSimpArgs false
set_option linter.unusedVariables false
section
variable {P:Program} {G:Gh} {M:Nat->Prop} {w0:World} {D0:Nat->Prop} {N:Nat} {f:Fr} {H:Hp} {β:Nat->Value} {a:Act} {w:World}
def yE (ops:Array Oper):List (Option Nat):=ops.toList.map (·.dst)
theorem Ew (R:Rel G M w0 D0 N f H β a w){ops:Array Oper}{j:Nat}:(∀b,((yE ops).getD j none).map f=some (.iv (.bool b))->yielded ops a.tmps j=some b)/\(((yE ops).getD j none).map f=some .undef->yielded ops a.tmps j=none):=by
 have e:(yE ops).getD j none=(ops[j]?).bind (·.dst):=by
  simp only[yE,List.getD,List.getElem?_map,Array.getElem?_toList];cases ops[j]?<;>rfl
 rw[e];unfold yielded;cases hd:(ops[j]?).bind (·.dst) with
 |none=>simp
 |some d =>
  simp only[Option.map_some,Option.some.injEq,Option.bind_some];have h1:=R.tmps d;refine⟨λb hb=>?_,λhu=>?_⟩
  .rw[hb]at h1;simp only[aG]at h1;cases ht:a.tmps[d]? with
   |none=>rw[Array.getD_eq_getD_getElem?,ht]at h1;cases h1
   |some v =>
    rw[Array.getD_eq_getD_getElem?,ht]at h1;simp only[Option.getD_some]at h1;cases h1;rfl
  .rw[hu]at h1;simp only[aG]at h1;cases ht:a.tmps[d]? with
   |none=>rfl
   |some v =>
    rw[Array.getD_eq_getD_getElem?,ht]at h1;simp only[Option.getD_some]at h1;subst h1;rfl
theorem Rel.skip (R:Rel G M w0 D0 N f H β a w){d:Option Nat}(hd:∀k,d=some k->k<N):Rel G M w0 D0 N (iY f d .undef) H β (a.put d Go.undef) w :=
 R.value (by simp[aG]) hd
theorem pV {ro:Option Nat}{ops:Array Oper}{K:Fr->Hp->Log->Prop}{Q:Exit->Act->World->Prop}(hQ:∀f H lg β a w,K f H lg->Rel G M w0 D0 N f H β a w->Q .normal a w) :
  ∀(rest:List Oper) (f:Fr) (H:Hp) (lg:Log) (β:Nat->Value) (a:Act) (w:World),(∀o∈rest,∀d,o.dst=some d->d<N)->fV P (yE ops) rest K f H lg->Rel G M w0 D0 N f H β a w->wpListIn (Wd ro) 0 P ops Q rest a w
 |[],f,H,lg,β,a,w,_,h,R=>hQ f H lg β a w h R
 |o::rest,f,H,lg,β,a,w,hd,h,R=>by
  have hdo:=hd o (by simp);have hdr:∀o∈rest,∀d,o.dst=some d->d<N:=λo ho=>hd o (by simp[ho])
  have run:MN P o (fV P (yE ops) rest K) f H lg->o.wpIn (Wd ro) 0 P a w (wpListIn (Wd ro) 0 P ops Q rest) Q:=by
   intro h;rcases IW h with ⟨u,rd,hs,hk,_⟩|⟨rd0,R0,_,hs,hk⟩|⟨Z,_,hs,hk⟩
   .exact hs f H (λ_ _=>rfl) (λ_ _=>rfl) G M w0 D0 N β a w hdo R _ _ (λa' w' β' R'=>pV hQ rest _ _ _ β' a' w' hdr hk R') ro
   .exact hs f H (λ_ _=>rfl) (λ_ _=>rfl) G M w0 D0 N β a w hdo R _ _ (λu a' w' β' h1 R'=>pV hQ rest _ _ _ β' a' w' hdr (hk u h1).2.2 R') ro
   .exact hs G M w0 D0 N β a w hdo R _ _ (λx H' a' w' β' hz R'=>pV hQ rest _ _ _ β' a' w' hdr (hk x H' hz) R') ro
  simp only[fV]at h;simp only[wpListIn];cases hg:o.guard with
  |none =>
   rw[hg]at h;simp only[Region.wanted,hg,if_true];exact run h
  |some p =>
   obtain⟨j,want⟩:=p;rw[hg]at h;have hy:=Ew R (ops:=ops) (j:=j);simp only[Region.wanted,hg];simp only at h;split at h
   .rename_i b hb;rw[hy.1 b hb];by_cases hbw:b=want
    .subst hbw;simp only[if_true]at h;simp only[beq_self_eq_true,if_true];exact run h
    .simp only[hbw,if_false]at h;rw[if_neg (by simp[hbw])];exact⟨λ_ _=>trivial,pV hQ rest _ _ _ β _ w hdr h (R.skip hdo)⟩
   .rename_i hb;rw[hy.2 hb];rw[if_neg (by simp)];exact⟨λ_ _=>trivial,pV hQ rest _ _ _ β _ w hdr h (R.skip hdo)⟩
   .exact h.elim
def ZB (o:Oper)(i:Nat):Bool:=o.after.toList.any λe=>Region.binds .any e && e.on == i
def reach (ops:Array Oper):Nat->Nat->Nat->Bool
 |0,_,_=>false
 |n+1,j,i=>ZB (ops.getD j default) i || (ops.getD j default).after.toList.any λe=>Region.binds .any e && reach ops n e.on i
def clash (x y:List Nat×List Nat):Bool:=x.2.any (λk=>y.1.contains k || y.2.contains k) || y.2.any (λk=>x.1.contains k || x.2.contains k)
def CG (n:Nat)(p:Nat->Nat->Bool):Bool:=(List.range n).all λj=>(List.range j).all λi=>p i j
theorem nZ {n:Nat}{p:Nat->Nat->Bool}(h:CG n p=true){i j:Nat}(hij:i<j)(hj:j<n):p i j=true:=by
 simp only[CG,List.all_eq_true,List.mem_range]at h;exact h j hj i hij
def I5 (ops:Array Oper)(log:Log):Bool:=(CG ops.size λi j=>!clash (log.getD i ([],[])) (log.getD j ([],[])) || reach ops 16 j i) && (CG ops.size λi j=>!(log.getD i ([],[])).2.contains 999 || reach ops 16 j i) && log.all λe=>!e.2.contains 998
def xu (ops:Array Oper)(i j:Nat):Bool :=
 (match (ops.getD i default).dst with|none=>false|some d=>(ops.getD j default).dst == some d || (Oper.looksAt ops (ops.getD j default)).contains d) ||
 (match (ops.getD j default).dst with|none=>false|some d=>(Oper.looksAt ops (ops.getD i default)).contains d)
def Ez (ops:Array Oper):Bool :=
 (CG ops.size λi j=>!xu ops i j || reach ops 16 j i) &&
 (List.range ops.size).all λi=>(ops.getD i default).after.toList.all λe=>!Region.binds .any e || decide (e.on<i)
def Py (ops:Array Oper)(S:Nat->Bool):Prop:=∀i,S i=true->∀e∈(ops.getD i default).after.toList,Region.binds .any e=true->S e.on=true
theorem sN {ops:Array Oper}{S:Nat->Bool}(hS:Py ops S):∀(n j i:Nat),reach ops n j i=true->(∀e∈(ops.getD j default).after.toList,Region.binds .any e=true->S e.on=true)->S i=true
 |0,_,_,h,_=>by simp[reach]at h
 |n+1,j,i,h,hj=>by
  simp only[reach,Bool.or_eq_true]at h;rcases h with h|h
  .simp only[ZB,List.any_eq_true,Bool.and_eq_true,beq_iff_eq]at h;obtain⟨e,he,h1,h2⟩:=h;rw[<-h2];exact hj e he h1
  .simp only[List.any_eq_true,Bool.and_eq_true]at h;obtain⟨e,he,h1,h2⟩:=h;exact sN hS n e.on i h2 λe' he' hb'=>hS e.on (hj e he h1) e' he' hb'
def gd (ds:List (Option Nat))(o:Oper)(f:Fr):Option Bool :=
 match o.guard with
 |none=>some true
 |some (j,want)=>match (ds.getD j none).map f with
  |some (.iv (.bool b))=>some (b == want)
  |some .undef=>some false
  |_=>none
def uX:Up:=⟨.undef,[],[]⟩
structure Tr (P:Program) (ops:Array Oper) (st:Nat->Fr×Hp) (us:Nat->Up) (rd:Nat->List Nat):Prop where
 next:∀i,i<ops.size->st (i+1)=((us i).f (ops.getD i default).dst (st i).1,(us i).h (st i).2)
 step:∀i,i<ops.size->(gd (yE ops) (ops.getD i default) (st i).1=some true/\Sim P (ops.getD i default) (st i).1 (st i).2 (rd i) (us i))\/(gd (yE ops) (ops.getD i default) (st i).1=some false/\us i=uX)
 wr:∀i,i<ops.size->∀k∈(us i).fz++(us i).hs.map (·.1),k∈rd i
theorem SE {ds:List (Option Nat)}{o:Oper}{rest:List Oper}{K:Fr->Hp->Log->Prop}{lg:Log}(h:fV P ds (o::rest) K f H lg) :
  (∃(u:Up) (r:List Nat),((gd ds o f=some true/\Sim P o f H r u)\/(gd ds o f=some false/\u=uX))/\(∀k∈u.fz++u.hs.map (·.1),k∈r)/\fV P ds rest K (u.f o.dst f) (u.h H) ((r,u.fz++u.hs.map (·.1))::lg))\/(gd ds o f=some true/\XAt P o (fV P ds rest K) f H lg)\/IAt P o (fV P ds rest K) f H lg:=by
 simp only[fV]at h;cases hg:o.guard with
 |none =>
  rw[hg]at h;rcases IW h with ⟨u,r,h1,h2,h3⟩|h|h
  .exact .inl ⟨u,r,.inl ⟨by simp[gd,hg],h1⟩,h3,h2⟩
  .exact .inr (.inl ⟨by simp[gd,hg],h⟩)
  .exact .inr (.inr h)
 |some p =>
  obtain⟨j,want⟩:=p;rw[hg]at h;simp only at h;split at h
  .rename_i b hb;by_cases hbw:b=want
   .subst hbw;simp only[if_true]at h;rcases IW h with ⟨u,r,h1,h2,h3⟩|h|h
    .exact .inl ⟨u,r,.inl ⟨by simp only[gd,hg,hb,beq_self_eq_true],h1⟩,h3,h2⟩
    .exact .inr (.inl ⟨by simp only[gd,hg,hb,beq_self_eq_true],h⟩)
    .exact .inr (.inr h)
   .simp only[hbw,if_false]at h;exact .inl ⟨uX,[],.inr ⟨by simp only[gd,hg,hb];rw[beq_eq_false_iff_ne.2 hbw],rfl⟩,by simp[uX],h⟩
  .rename_i hb;exact .inl ⟨uX,[],.inr ⟨by simp only[gd,hg,hb],rfl⟩,by simp[uX],h⟩
  .exact h.elim
theorem Oi {ops:Array Oper}{o:Oper}{b:Nat}(h:some o=ops[b]?):ops.getD b default=o:=by
 simp[Array.getD_eq_getD_getElem?,<-h]
theorem nN {ds:List (Option Nat)}{K:Fr->Hp->Log->Prop}:∀(rest:List Oper) (f:Fr) (H:Hp) (lg:Log),fV P ds rest K f H lg->∃f' H' mid,mid.length=rest.length/\K f' H' (mid++lg)
 |[],f,H,lg,h=>⟨f,H,[],rfl,h⟩
 |o::rest,f,H,lg,h=>by
  rcases SE h with ⟨u,r,_,_,h3⟩|⟨_,rd0,R,hne,_,hk⟩|⟨Z,⟨x,H2,hz⟩,_,hk⟩
  .obtain⟨f',H',mid,h1,h2⟩:=nN rest _ _ _ h3;exact⟨f',H',mid++[(r,u.fz++u.hs.map (·.1))],by simp[h1],by simpa using h2⟩
  .obtain⟨u,hu⟩:=hne;obtain⟨f',H',mid,h1,h2⟩:=nN rest _ _ _ (hk u hu).2.2;exact⟨f',H',mid++[(rd0,u.fz++u.hs.map (·.1))],by simp[h1],by simpa using h2⟩
  .obtain⟨f',H',mid,h1,h2⟩:=nN rest _ _ _ (hk x H2 hz);exact⟨f',H',mid++[([],[998])],by simp[h1],by simpa using h2⟩
theorem OV {ops:Array Oper}{K:Fr->Hp->Log->Prop}(hno:∀f H lg,K f H lg->(lg.all λe=>!e.2.contains 998)=true):∀(rest:List Oper) (b:Nat) (f:Fr) (H:Hp) (lg:Log),(∀i,rest[i]?=ops[b+i]?)->b+rest.length=ops.size->fV P (yE ops) rest K f H lg ->
  ∃(m:Nat) (st:Nat->Fr×Hp) (us:Nat->Up) (rd:Nat->List Nat),b<=m/\m<=ops.size/\st b=(f,H) /\
   (∀i,b<=i->i<m->st (i+1)=((us i).f (ops.getD i default).dst (st i).1,(us i).h (st i).2)) /\
   (∀i,b<=i->i<m->(gd (yE ops) (ops.getD i default) (st i).1=some true/\Sim P (ops.getD i default) (st i).1 (st i).2 (rd i) (us i))\/(gd (yE ops) (ops.getD i default) (st i).1=some false/\us i=uX)) /\
   (∀i,b<=i->i<m->∀k∈(us i).fz++(us i).hs.map (·.1),k∈rd i) /\
   ((m=ops.size/\K (st m).1 (st m).2 (((List.range' b (m-b)).map λi=>(rd i,(us i).fz++(us i).hs.map (·.1))).reverse++lg)) \/
    (m<ops.size/\gd (yE ops) (ops.getD m default) (st m).1=some true/\XAt P (ops.getD m default) (fV P (yE ops) (ops.toList.drop (m+1)) K) (st m).1 (st m).2 (((List.range' b (m-b)).map λi=>(rd i,(us i).fz++(us i).hs.map (·.1))).reverse++lg)))
 |[],b,f,H,lg,_,hb,h=>by
  simp only[List.length_nil,Nat.add_zero]at hb;refine⟨b,λ_=>(f,H),λ_=>uX,λ_=>[],Nat.le_refl _,by omega,rfl,λi h1 h2=>by omega,λi h1 h2=>by omega,λi h1 h2=>by omega,.inl ⟨hb,by simpa [fV] using h⟩⟩
 |o::rest,b,f,H,lg,hi,hb,h=>by
  have ho:ops.getD b default=o:=Oi (by simpa using hi 0);have hrest:∀i,rest[i]?=ops[b+1+i]?:=λi=>by have:=hi (i+1);simpa [Nat.add_assoc,Nat.add_comm 1 i] using this
  simp only[List.length_cons]at hb;rcases SE h with ⟨u,r,h1,h2,h3⟩|⟨h1,h2⟩|⟨Z,⟨x,H2,hz⟩,_,hk⟩
  rotate_right
  .exfalso
   obtain⟨f',H',mid,_,h2⟩:=nN rest _ _ _ (hk x H2 hz);have:=hno _ _ _ h2;simp at this
  .obtain⟨m,st,us,rd,a0,a0',a1,a2,a3,a4,a5⟩:=OV hno rest (b+1) _ _ _ hrest (by omega) h3;have b5D:(((List.range' b (m-b)).map λi=>(if i=b then r else rd i,(if i=b then u else us i).fz++(if i=b then u else us i).hs.map (·.1))).reverse++lg)=(((List.range' (b+1) (m-(b+1))).map λi=>(rd i,(us i).fz++(us i).hs.map (·.1))).reverse++((r,u.fz++u.hs.map (·.1))::lg)):=by
    rw[show m-b=(m-(b+1))+1 from by omega,List.range'_succ];simp only[List.map_cons,List.reverse_cons,List.append_assoc,if_true,List.singleton_append]
    congr 2
    apply List.map_congr_left;intro i him;have:=List.mem_range'_1.1 him;simp[show i≠b from by omega]
   refine⟨m,λi=>if i=b then (f,H) else st i,λi=>if i=b then u else us i,λi=>if i=b then r else rd i,by omega,a0',by simp,λi h4 h5=>?_,λi h4 h5=>?_,λi h4 h5=>?_,?_⟩
   .by_cases hib:i=b
    .subst hib;simp[ho,a1]
    .have:=a2 i (by omega) h5;simp only[hib,if_false,show i+1≠b from by omega];exact this
   .by_cases hib:i=b
    .subst hib;simpa [ho] using h1
    .simp only[hib,if_false];exact a3 i (by omega) h5
   .by_cases hib:i=b
    .subst hib;simpa using h2
    .simp only[hib,if_false];exact a4 i (by omega) h5
   .simp only[show m≠b from by omega,if_false];rw[b5D];exact a5
  .refine⟨b,λ_=>(f,H),λ_=>uX,λ_=>[],Nat.le_refl _,by omega,rfl,λi h1 h2=>by omega,λi h1 h2=>by omega,λi h1 h2=>by omega,.inr ⟨by omega,?_,?_⟩⟩
   .rw[ho];exact h1
   .rw[ho];have hd:ops.toList.drop (b+1)=rest:=by
     apply List.ext_getElem?;intro i;rw[List.getElem?_drop,Array.getElem?_toList,hrest i]
    rw[hd];simpa using h2
def fS (st:Nat->Fr×Hp)(us:Nat->Up)(ds:Nat->Option Nat)(S:Nat->Bool):Nat->Fr×Hp
 |0=>st 0
 |k+1=>if S k then ((us k).f (ds k) (fS st us ds S k).1,(us k).h (fS st us ds S k).2) else fS st us ds S k
theorem rU {d:Option Nat}{v:AV}{t:Nat}(h:d≠some t)(f:Fr):iY f d v t=f t:=by
 cases d with
 |none=>rfl
 |some d=>simp only[iY,upd];rw[if_neg (λe=>h (by rw[e]))]
theorem rQ {d:Option Nat}{v:AV}{t:Nat}(h:d=some t)(f:Fr):iY f d v t=v:=by
 subst h;simp[iY,upd]
theorem zV:∀(l:List (Nat×HC)) (H:Hp) (k:Nat),k∉l.map (·.1)->dA l H k=H k
 |[],_,_,_=>rfl
 |(h,c)::r,H,k,hk=>by
  simp only[List.map_cons,List.mem_cons,not_or]at hk;simp only[dA];rw[zV r _ k hk.2,aJ _ _ hk.1]
theorem zW:∀(l:List (Nat×HC)) (H H2:Hp) (k:Nat),H2 k=H k->dA l H2 k=dA l H k
 |[],_,_,_,h=>h
 |(h,c)::r,H,H2,k,e=>by
  simp only[dA];refine zW r _ _ k ?_;by_cases hk:k=h
  .subst hk;simp[aO]
  .simp[aJ _ _ hk,e]
theorem Up.vV {u:Up}{k:Nat}(hk:k∉u.fz++u.hs.map (·.1))(H:Hp):u.h H k=H k:=by
 simp only[List.mem_append,not_or]at hk;simp only[Up.h];rw[zV _ _ _ hk.2,kV _ _ _ hk.1]
theorem Up.Oh {u:Up}{k:Nat}{H H2:Hp}(e:H2 k=H k):u.h H2 k=u.h H k:=zW _ _ _ _ (KR _ _ _ _ e)
theorem Di {st:Nat->Fr×Hp}{us:Nat->Up}{ds:Nat->Option Nat}{n:Nat}(hst:∀i,i<n->st (i+1)=((us i).f (ds i) (st i).1,(us i).h (st i).2)){S:Nat->Bool}{t:Nat}{j:Nat}(hj:j<=n)
  (h:∀i,i<n->ds i=some t->(i<j->S i=true)/\(j<=i->S i=false)):(fS st us ds S n).1 t=(st j).1 t:=by
 have h1:∀k,k<=j->(fS st us ds S k).1 t=(st k).1 t:=by
  intro k
  induction k with
  |zero=>intro _;rfl
  |succ k ih =>
   intro hk;have ih:=ih (by omega);rw[hst k (by omega)];simp only[fS];by_cases hd:ds k=some t
   .have:=(h k (by omega) hd).1 (by omega);rw[this];simp only[if_true,Up.f,rQ hd]
   .simp only[Up.f,rU hd];split
    .simp only[rU hd];exact ih
    .exact ih
 have h2:∀m,j+m<=n->(fS st us ds S (j+m)).1 t=(fS st us ds S j).1 t:=by
  intro m
  induction m with
  |zero=>intro _;rfl
  |succ m ih =>
   intro hm;have ih:=ih (by omega);rw[<-Nat.add_assoc];simp only[fS];by_cases hd:ds (j+m)=some t
   .have:=(h (j+m) (by omega) hd).2 (by omega);rw[this];simpa using ih
   .split
    .simp only[Up.f,rU hd];exact ih
    .exact ih
 have:=h2 (n-j) (by omega);rw[show j+(n-j)=n from by omega]at this;rw[this,h1 j (Nat.le_refl _)]
theorem D7 {st:Nat->Fr×Hp}{us:Nat->Up}{ds:Nat->Option Nat}{n:Nat}(hst:∀i,i<n->st (i+1)=((us i).f (ds i) (st i).1,(us i).h (st i).2)){S:Nat->Bool}{t:Nat}{j:Nat}(hj:j<=n)
  (h:∀i,i<n->t∈(us i).fz++(us i).hs.map (·.1)->(i<j->S i=true)/\(j<=i->S i=false)):(fS st us ds S n).2 t=(st j).2 t:=by
 have h1:∀k,k<=j->(fS st us ds S k).2 t=(st k).2 t:=by
  intro k
  induction k with
  |zero=>intro _;rfl
  |succ k ih =>
   intro hk;have ih:=ih (by omega);rw[hst k (by omega)];simp only[fS];by_cases hd:t∈(us k).fz++(us k).hs.map (·.1)
   .have:=(h k (by omega) hd).1 (by omega);rw[this];simp only[if_true];exact Up.Oh ih
   .simp only[Up.vV hd];split
    .simp only[Up.vV hd];exact ih
    .exact ih
 have h2:∀m,j+m<=n->(fS st us ds S (j+m)).2 t=(fS st us ds S j).2 t:=by
  intro m
  induction m with
  |zero=>intro _;rfl
  |succ m ih =>
   intro hm;have ih:=ih (by omega);rw[<-Nat.add_assoc];simp only[fS];by_cases hd:t∈(us (j+m)).fz++(us (j+m)).hs.map (·.1)
   .have:=(h (j+m) (by omega) hd).2 (by omega);rw[this];simpa using ih
   .split
    .simp only[Up.vV hd];exact ih
    .exact ih
 have:=h2 (n-j) (by omega);rw[show j+(n-j)=n from by omega]at this;rw[this,h1 j (Nat.le_refl _)]
theorem b0W {st:Nat->Fr×Hp}{us:Nat->Up}{ds:Nat->Option Nat}{n:Nat}{S S':Nat->Bool}{j:Nat}(hj:j<n)(hS:S j=false)(hS':S' j=true)(ho:∀i,i≠j->S' i=S i)
  (hd:∀t,ds j=some t->∀i,i<n->j<i->ds i=some t->S i=false) (hh:∀t,t∈(us j).fz++(us j).hs.map (·.1)->∀i,i<n->j<i->t∈(us i).fz++(us i).hs.map (·.1)->S i=false)  :
  (fS st us ds S' n).1=(us j).f (ds j) (fS st us ds S n).1/\(fS st us ds S' n).2=(us j).h (fS st us ds S n).2:=by
 have h0:∀k,k<=j->fS st us ds S' k=fS st us ds S k:=by
  intro k
  induction k with
  |zero=>intro _;rfl
  |succ k ih =>
   intro hk;simp only[fS,ho k (by omega),ih (by omega)]
 have h1:∀m,j+1+m<=n->(fS st us ds S' (j+1+m)).1=(us j).f (ds j) (fS st us ds S (j+1+m)).1/\(fS st us ds S' (j+1+m)).2=(us j).h (fS st us ds S (j+1+m)).2:=by
  intro m
  induction m with
  |zero =>
   intro _;simp only[Nat.add_zero,fS,hS,hS',if_true,Bool.false_eq_true,if_false,h0 j (Nat.le_refl _),and_self]
  |succ m ih =>
   intro hm;obtain⟨ih1,ih2⟩:=ih (by omega);rw[<-Nat.add_assoc];simp only[fS,ho (j+1+m) (by omega)];split
   .rename_i hSi;refine⟨?_,?_⟩
    .simp only[ih1]
     funext t
     simp only[Up.f];by_cases e1:ds (j+1+m)=some t
     .by_cases e2:ds j=some t
      .have:=hd t e2 _ (by omega) (by omega) e1;rw[this]at hSi;cases hSi
      .rw[rQ e1,rU e2,rQ e1]
     .rw[rU e1];by_cases e2:ds j=some t
      .rw[rQ e2,rQ e2]
      .rw[rU e2,rU e2,rU e1]
    .simp only[ih2]
     funext t
     by_cases e1:t∈(us (j+1+m)).fz++(us (j+1+m)).hs.map (·.1)
     .by_cases e2:t∈(us j).fz++(us j).hs.map (·.1)
      .have:=hh t e2 _ (by omega) (by omega) e1;rw[this]at hSi;cases hSi
      .rw[Up.vV e2];exact Up.Oh (Up.vV e2 _)
     .rw[Up.vV e1];exact(Up.Oh (Up.vV e1 _)).symm
   .exact⟨ih1,ih2⟩
 have:=h1 (n-(j+1)) (by omega);rwa [show j+1+(n-(j+1))=n from by omega]at this
theorem a2F {ds:List (Option Nat)}{o:Oper}{f f2:Fr}(h:∀j want t,o.guard=some (j,want)->ds.getD j none=some t->f2 t=f t):gd ds o f2=gd ds o f:=by
 unfold gd;cases hg:o.guard with
 |none=>rfl
 |some p =>
  obtain⟨j,want⟩:=p;simp only;cases hd:ds.getD j none with
  |none=>rfl
  |some t=>simp only[Option.map_some,h j want t hg hd]
theorem D9 (R:Rel G M w0 D0 N f H β a w){ops:Array Oper}{o:Oper}{b:Bool}(h:gd (yE ops) o f=some b):Region.wanted o (yielded ops a.tmps)=b:=by
 unfold gd at h;unfold Region.wanted;cases hg:o.guard with
 |none=>rw[hg]at h;simp only[Option.some.injEq]at h;exact h
 |some p =>
  obtain⟨j,want⟩:=p;rw[hg]at h;simp only at h ⊢;have hy:=Ew R (ops:=ops) (j:=j);split at h
  .rename_i b' hb;rw[hy.1 b' hb];simp only[Option.some.injEq]at h;rw[<-h];rfl
  .rename_i hb;rw[hy.2 hb];simp only[Option.some.injEq]at h;rw[<-h];rfl
  .cases h
theorem I4 {ops:Array Oper}{o:Oper}{j:Nat}{want:Bool}{t:Nat}(hg:o.guard=some (j,want))(hd:(yE ops).getD j none=some t):t∈Oper.looksAt ops o:=by
 have e:(yE ops).getD j none=(ops[j]?).bind (·.dst):=by
  simp only[yE,List.getD,List.getElem?_map,Array.getElem?_toList];cases ops[j]?<;>rfl
 rw[e]at hd;simp[Oper.looksAt,hg,hd]
theorem CY {ops:Array Oper}{o:Oper}{t:Nat}(h:Operand.tmp t∈o.op.operands):t∈Oper.looksAt ops o:=by
 simp only[Oper.looksAt,List.mem_append]
 left
 exact List.mem_filterMap.2 ⟨.tmp t,Array.mem_toList_iff.2 h,rfl⟩
theorem sW {ops:Array Oper}{i j t:Nat}(h:((ops.getD i default).dst=some t/\((ops.getD j default).dst=some t\/t∈Oper.looksAt ops (ops.getD j default)))\/((ops.getD j default).dst=some t/\t∈Oper.looksAt ops (ops.getD i default))):xu ops i j=true:=by
 unfold xu;rcases h with ⟨h1,h2⟩|⟨h1,h2⟩
 .rw[h1];simp only[Bool.or_eq_true]
  left
  rcases h2 with h2|h2
  .left;rw[h2];exact beq_self_eq_true _
  .right;simpa using h2
 .simp only[Bool.or_eq_true]
  right
  rw[h1];simpa using h2
theorem IC {x y:List Nat×List Nat}{k:Nat}(h:(k∈x.2/\(k∈y.1\/k∈y.2))\/(k∈y.2/\(k∈x.1\/k∈x.2))):clash x y=true:=by
 unfold clash;simp only[Bool.or_eq_true,List.any_eq_true,List.contains_eq_mem,decide_eq_true_eq];rcases h with ⟨h1,h2⟩|⟨h1,h2⟩
 .left;exact⟨k,h1,h2⟩
 .right;exact⟨k,h1,h2⟩
theorem Rl {st st':Nat->Fr×Hp}{us us':Nat->Up}{ds:Nat->Option Nat}{S S':Nat->Bool}(h0:st' 0=st 0):∀(k:Nat),(∀i,i<k->S' i=S i/\us' i=us i)->fS st' us' ds S' k=fS st us ds S k
 |0,_=>h0
 |k+1,h=>by
  have ih:=Rl (ds:=ds) h0 k λi hi=>h i (by omega)
  simp only[fS,ih,(h k (by omega)).1,(h k (by omega)).2]
theorem Ou {st:Nat->Fr×Hp}{us:Nat->Up}{ds:Nat->Option Nat}{S:Nat->Bool}{m:Nat}:∀(k:Nat),(∀i,m<=i->i<m+k->S i=false)->fS st us ds S (m+k)=fS st us ds S m
 |0,_=>rfl
 |k+1,h=>by
  have ih:=Ou (st:=st) (us:=us) (ds:=ds) (S:=S) (m:=m) k λi h1 h2=>h i h1 (by omega)
  rw[<-Nat.add_assoc];simp only[fS,h (m+k) (by omega) (by omega),Bool.false_eq_true,if_false,ih]
def rE (us:Nat->Up)(rd:Nat->List Nat)(m:Nat):Log:=((List.range' 0 m).map λi=>(rd i,(us i).fz++(us i).hs.map (·.1))).reverse
theorem yU (us:Nat->Up)(rd:Nat->List Nat){m i:Nat}(hi:i<m)(l:Log):((rE us rd m).reverse++l).getD i ([],[])=(rd i,(us i).fz++(us i).hs.map (·.1)):=by
 have:i<((List.range' 0 m).map λi=>(rd i,(us i).fz++(us i).hs.map (·.1))).length:=by simpa using hi
 rw[rE,List.reverse_reverse,List.getD_eq_getElem?_getD,List.getElem?_append_left this];simp[hi]
theorem KF (us:Nat->Up)(rd:Nat->List Nat){m:Nat}(e:List Nat×List Nat)(l:Log):((rE us rd m).reverse++e::l).getD m ([],[])=e:=by
 have:((rE us rd m).reverse).length=m:=by simp[rE]
 simp[List.getD,List.getElem?_append,this]
structure b3j [Zi] (P:Program) (ops:Array Oper) (K:Fr->Hp->Log->Prop) (S:Nat->Bool) (m:Nat) (st:Nat->Fr×Hp) (us:Nat->Up) (rd:Nat->List Nat):Prop where
 le:m<=ops.size
 next:∀i,i<m->st (i+1)=((us i).f (ops.getD i default).dst (st i).1,(us i).h (st i).2)
 step:∀i,i<m->S i=false->(gd (yE ops) (ops.getD i default) (st i).1=some true/\Sim P (ops.getD i default) (st i).1 (st i).2 (rd i) (us i))\/(gd (yE ops) (ops.getD i default) (st i).1=some false/\us i=uX)
 wr:∀i,i<m->∀k∈(us i).fz++(us i).hs.map (·.1),k∈rd i
 cont:(m=ops.size/\K (st m).1 (st m).2 (rE us rd m)) \/
  (m<ops.size/\gd (yE ops) (ops.getD m default) (st m).1=some true/\XAt P (ops.getD m default) (fV P (yE ops) (ops.toList.drop (m+1)) K) (st m).1 (st m).2 (rE us rd m))
theorem SG {ro:Option Nat}{ops:Array Oper}{K:Fr->Hp->Log->Prop}{Q:Exit->Act->World->Prop}(hdN:∀i,i<ops.size->∀d,(ops.getD i default).dst=some d->d<N)
  (hK:∀f H lg,K f H lg->I5 ops lg.reverse=true/\∀β a w,Rel G M w0 D0 N f H β a w->Q .normal a w) (ht:Ez ops=true) (h:fV P (yE ops) ops.toList K f H []) (R:Rel G M w0 D0 N f H β a w) :
  wpAnyIn (Wd ro) 0 P .any ops Q ops.size (Array.replicate ops.size false) a w:=by
 have hno:∀f H lg,K f H lg->(lg.all λe=>!e.2.contains 998)=true:=by
  intro f H lg hk;have:=(hK f H lg hk).1;simp only[I5,Bool.and_eq_true,List.all_reverse]at this;exact this.2
 simp only[Ez,Bool.and_eq_true]at ht;obtain⟨ht1,ht2⟩:=ht;have b2X:∀i,i<ops.size->∀e∈(ops.getD i default).after.toList,Region.binds .any e=true->e.on<i:=by
  intro i hi e he hb;have:=(List.all_eq_true.1 ht2) i (List.mem_range.2 hi);have:=(List.all_eq_true.1 this) e he;simpa [hb] using this
 have nm:∀i j,i<j->j<ops.size->xu ops i j=true->reach ops 16 j i=true:=by
  intro i j hij hj hc;have:=nZ ht1 hij hj;simpa [hc] using this
 let ds:Nat->Option Nat:=λi=>(ops.getD i default).dst
 -- a log's word
 have logs:∀(m:Nat) (us:Nat->Up) (rd:Nat->List Nat) (l:Log),m<=ops.size->I5 ops ((rE us rd m).reverse++l)=true ->
   ∀i j,i<j->j<m->clash (rd i,(us i).fz++(us i).hs.map (·.1)) (rd j,(us j).fz++(us j).hs.map (·.1))=true->reach ops 16 j i=true:=by
  intro m us rd l hm hl i j hij hj hc;simp only[I5,Bool.and_eq_true]at hl;have:=nZ hl.1.1 hij (by omega);rw[yU us rd (by omega),yU us rd hj]at this;simpa [hc] using this
 have key:∀(fuel:Nat) (listed:Array Bool) (a:Act) (w:World) (β:Nat->Value) (m:Nat) (st:Nat->Fr×Hp) (us:Nat->Up) (rd:Nat->List Nat),listed.size=ops.size->((List.range ops.size).filter λi=>!listed.getD i false).length=fuel ->
   Py ops (λi=>listed.getD i false)->(∀i,listed.getD i false=true->i<m)->b3j P ops K (λi=>listed.getD i false) m st us rd->Rel G M w0 D0 N (fS st us ds (λi=>listed.getD i false) m).1 (fS st us ds (λi=>listed.getD i false) m).2 β a w ->
   wpAnyIn (Wd ro) 0 P .any ops Q fuel listed a w:=by
  intro fuel
  induction fuel with
  |zero =>
   intro listed a w β m st us rd hsz hcount hcl hlm T R;have hall:∀i,i<ops.size->listed.getD i false=true:=by
    intro i hi;have h0:=List.eq_nil_of_length_eq_zero hcount;have:=List.filter_eq_nil_iff.1 h0 i (List.mem_range.2 hi);simpa using this
   have Yk:Region.ready .any ops listed=[]:=by
    unfold Region.ready;rw[List.filter_eq_nil_iff];intro i hi;have hi:=List.mem_range.1 hi;have:listed.getD i true=true:=by
     have:=hall i hi;simp only[Array.getD_eq_getD_getElem?]at this ⊢;rw[Array.getElem?_eq_getElem (by omega)]at this ⊢;simpa using this
    simp only[this,Bool.not_true,Bool.false_and];simp
   have e1:(fS st us ds (λi=>listed.getD i false) m).1=(st m).1:=by
    funext t
    exact Di (λi hi=>T.next i hi) (Nat.le_refl _) λi hi _=>⟨λ_=>hall i (by have:=T.le;omega),λh=>by omega⟩
   have e2:(fS st us ds (λi=>listed.getD i false) m).2=(st m).2:=by
    funext t
    exact D7 (λi hi=>T.next i hi) (Nat.le_refl _) λi hi _=>⟨λ_=>hall i (by have:=T.le;omega),λh=>by omega⟩
   rw[e1,e2]at R;rcases T.cont with ⟨_,hk⟩|⟨hm,_⟩
   .exact⟨Yk,(hK _ _ _ hk).2 β a w R⟩
   .have:=hlm m (hall m hm);omega
  |succ fuel ih =>
   intro listed a w β m st us rd hsz hcount hcl hlm T R;have hmn:=T.le;refine⟨λYk=>?_,λj hj=>?_⟩
   .exfalso
    have hex:∃i,i<ops.size/\listed.getD i false=false:=by
     have:((List.range ops.size).filter λi=>!listed.getD i false)≠[]:=by intro e;rw[e]at hcount;simp at hcount
     obtain⟨i,hi⟩:=List.exists_mem_of_ne_nil _ this;have:=List.mem_filter.1 hi;exact⟨i,List.mem_range.1 this.1,by simpa using this.2⟩
    have b0P:∀n,∀i,i<n->i<ops.size->listed.getD i false=false->False:=by
     intro n
     induction n with
     |zero=>intro i hi;omega
     |succ n ihn =>
      intro i hi hio hl;by_cases b3N:∃k,k<i/\listed.getD k false=false
      .obtain⟨k,hk,hkl⟩:=b3N;exact ihn k (by omega) (by omega) hkl
      .have hall:∀k,k<i->listed.getD k false=true:=by
        intro k hk;by_cases hkl:listed.getD k false=true
        .exact hkl
        .exact(b3N ⟨k,hk,by simpa using hkl⟩).elim
       have hmem:i∈Region.ready .any ops listed:=by
        unfold Region.ready;rw[List.mem_filter];refine⟨List.mem_range.2 hio,?_⟩;have h1:listed.getD i true=false:=by
         simp only[Array.getD_eq_getD_getElem?]at hl ⊢;rw[Array.getElem?_eq_getElem (by omega)]at hl ⊢;simpa using hl
        have h2:ops[i]?=some (ops.getD i default):=by simp[Array.getD_eq_getD_getElem?,hio]
        simp only[h1,h2,Option.map_some,Option.getD_some,Bool.not_false,Bool.true_and];rw[Array.all_eq_true_iff_forall_mem];intro e he;by_cases hb:Region.binds .any e=true
        .have:=hall e.on (b2X i hio e (Array.mem_toList_iff.2 he) hb);simp[this]
        .simp[hb]
       rw[Yk]at hmem;cases hmem
    obtain⟨i,hi,hl⟩:=hex;exact b0P (i+1) i (by omega) hi hl
   ·-- operation j may come up now
    unfold Region.ready at hj;rw[List.mem_filter]at hj;obtain⟨hjr,hj2⟩:=hj;have hjn:=List.mem_range.1 hjr;have hoj:ops[j]?=some (ops.getD j default):=by simp[Array.getD_eq_getD_getElem?,hjn]
    simp only[hoj,Option.map_some,Option.getD_some,Bool.and_eq_true,Bool.not_eq_true']at hj2;obtain⟨b2W,hpre⟩:=hj2;have hjl:listed.getD j false=false:=by
     simp only[Array.getD_eq_getD_getElem?]at b2W ⊢;rw[Array.getElem?_eq_getElem (by omega)]at b2W ⊢;simpa using b2W
    have hpre':∀e∈(ops.getD j default).after.toList,Region.binds .any e=true->listed.getD e.on false=true:=by
     intro e he hb;rw[Array.all_eq_true_iff_forall_mem]at hpre;have:=hpre e (Array.mem_toList_iff.1 he);simpa [hb] using this
    have before:∀i,reach ops 16 j i=true->listed.getD i false=true:=λi hr=>sN hcl 16 j i hr hpre'
    have behind:∀i,reach ops 16 i j=true->listed.getD i false=false:=by
     intro i hr;by_cases hl:listed.getD i false=true
     .have:=sN hcl 16 i j hr (hcl i hl);rw[hjl]at this;cases this
     .simpa using hl
    have hlist:∀i,(listed.setIfInBounds j true).getD i false=if i=j then true else listed.getD i false:=by
     intro i;simp only[Array.getD_eq_getD_getElem?,Array.getElem?_setIfInBounds];by_cases hij:j=i
     .subst hij;simp[show j<listed.size from by omega]
     .simp[hij,Ne.symm hij]
    have Yo:((List.range ops.size).filter λi=>!(listed.setIfInBounds j true).getD i false).length=fuel:=by
     have hc:((List.range ops.size).filter λi=>!(listed.setIfInBounds j true).getD i false)=(((List.range ops.size).filter λi=>!listed.getD i false).filter λi=>decide (i≠j)):=by
      rw[List.filter_filter];apply List.filter_congr;intro i hi;rw[hlist];by_cases hij:i=j<;>simp[hij]
     rw[hc];have hnd:((List.range ops.size).filter λi=>!listed.getD i false).Nodup:=List.nodup_range.filter _;have hjm:j∈((List.range ops.size).filter λi=>!listed.getD i false):=List.mem_filter.2 ⟨hjr,by simp[hjl]⟩;have e:(((List.range ops.size).filter λi=>!listed.getD i false).filter λi=>decide (i≠j))=((List.range ops.size).filter λi=>!listed.getD i false).erase j:=by
      rw[hnd.erase_eq_filter];apply List.filter_congr;intro i _;by_cases hij:i=j<;>simp[hij]
     rw[e,List.length_erase_of_mem hjm,hcount];rfl
    have hcl':Py ops (λi=>(listed.setIfInBounds j true).getD i false):=by
     intro i hi e he hb;simp only[hlist]at hi ⊢;by_cases hej:e.on=j
     .simp[hej]
     .simp only[hej,if_false];by_cases hij:i=j
      .subst hij;exact hpre' e he hb
      .simp only[hij,if_false]at hi;exact hcl i hi e he hb
    have hgd:∀f1:Fr,(∀t,t∈Oper.looksAt ops (ops.getD j default)->(fS st us ds (λi=>listed.getD i false) m).1 t=f1 t)->gd (yE ops) (ops.getD j default) (fS st us ds (λi=>listed.getD i false) m).1=gd (yE ops) (ops.getD j default) f1:=λf1 hf =>
     a2F (ds:=yE ops) (o:=ops.getD j default) (f:=f1) (f2:=(fS st us ds (λi=>listed.getD i false) m).1) (λk want t hg hd=>hf t (I4 hg hd))
    unfold wpOpIn;simp only[hoj];rcases Nat.lt_trichotomy j m with hjm|hjm|hjm
    ·-- an operation before the next such call
     have lk:∀i k,i<k->k<m->clash (rd i,(us i).fz++(us i).hs.map (·.1)) (rd k,(us k).fz++(us k).hs.map (·.1))=true->reach ops 16 k i=true:=by
      rcases T.cont with ⟨_,hk⟩|⟨hm,_,rd0,R0,hne,_,hk⟩
      .exact logs m us rd [] hmn (by simpa using (hK _ _ _ hk).1)
      .obtain⟨u,hu⟩:=hne;obtain⟨f',H',mid,_,h2⟩:=nN _ _ _ _ (hk u hu).2.2;have h3:=(hK _ _ _ h2).1;rw[List.reverse_append,List.reverse_cons,List.append_assoc]at h3;exact logs m us rd _ hmn h3
     have a5l:∀t,((ops.getD j default).dst=some t\/t∈Oper.looksAt ops (ops.getD j default))->(∀i,i<m->i≠j->ds i=some t->(i<j->listed.getD i false=true)/\(j<i->listed.getD i false=false)):=by
      intro t ht i hi hij hdi;refine⟨λh=>before i (nm i j h hjn (sW (.inl ⟨hdi,ht⟩))),λh=>behind i (nm j i h (by omega) (sW (t:=t) ?_))⟩;rcases ht with ht|ht
      .exact .inl ⟨ht,.inl hdi⟩
      .exact .inr ⟨hdi,ht⟩
     have a5m:∀k,k∈rd j->(∀i,i<m->i≠j->k∈(us i).fz++(us i).hs.map (·.1)->(i<j->listed.getD i false=true)/\(j<i->listed.getD i false=false)):=by
      intro k hk i hi hij hki;exact⟨λh=>before i (lk i j h hjm (IC (.inl ⟨hki,.inl hk⟩))),λh=>behind i (lk j i h hi (IC (.inr ⟨hki,.inl hk⟩)))⟩
     have F8:∀t,t∈Oper.looksAt ops (ops.getD j default)->(fS st us ds (λi=>listed.getD i false) m).1 t=(st j).1 t:=by
      intro t ht;refine Di (λi hi=>T.next i hi) (by omega) λi hi hdi=>?_;by_cases hij:i=j
      .subst hij;exact⟨λh=>by omega,λ_=>hjl⟩
      .have:=a5l t (.inr ht) i hi hij hdi;exact⟨this.1,λh=>this.2 (by omega)⟩
     have Yq:∀k,k∈rd j->(fS st us ds (λi=>listed.getD i false) m).2 k=(st j).2 k:=by
      intro k hk;refine D7 (λi hi=>T.next i hi) (by omega) λi hi hdi=>?_;by_cases hij:i=j
      .subst hij;exact⟨λh=>by omega,λ_=>hjl⟩
      .have:=a5m k hk i hi hij hdi;exact⟨this.1,λh=>this.2 (by omega)⟩
     have fin:∀a' w' β',Rel G M w0 D0 N ((us j).f (ops.getD j default).dst (fS st us ds (λi=>listed.getD i false) m).1) ((us j).h (fS st us ds (λi=>listed.getD i false) m).2) β' a' w'->wpAnyIn (Wd ro) 0 P .any ops Q fuel (listed.setIfInBounds j true) a' w':=by
      intro a' w' β' R';have hadd:=b0W (st:=st) (us:=us) (ds:=ds) (n:=m) (S:=λi=>listed.getD i false) (S':=λi=>(listed.setIfInBounds j true).getD i false) (j:=j) hjm hjl (by simp only[hlist,if_true]) (λi hi=>by simp only[hlist,hi,if_false])
       (λt ht i hi hij hdi=>(a5l t (.inl ht) i hi (by omega) hdi).2 hij)
       (λk hk i hi hij hki=>(a5m k (T.wr j hjm k hk) i hi (by omega) hki).2 hij)
      refine ih _ a' w' β' m st us rd (by simp[hsz]) Yo hcl' (λi hi=>?_) ⟨T.le,T.next,λi hi hs=>?_,T.wr,T.cont⟩ ?_
      .rw[hlist]at hi;by_cases hij:i=j
       .omega
       .simp only[hij,if_false]at hi;exact hlm i hi
      .simp only[hlist]at hs;by_cases hij:i=j
       .simp[hij]at hs
       .simp only[hij,if_false]at hs;exact T.step i hi hs
      .rw[hadd.1,hadd.2];exact R'
     rcases T.step j hjm hjl with ⟨hg,b2c⟩|⟨hg,b2Q⟩
     .rw[<-hgd _ F8]at hg;rw[D9 R hg];simp only[if_true];refine b2c _ _ ?_ Yq G M w0 D0 N β a w (hdN j hjn) R _ _ (λa' w' β' R'=>fin a' w' β' R') ro;intro x hx;cases x with
      |tmp t=>exact F8 t (CY hx)
      |_=>rfl
     .rw[<-hgd _ F8]at hg;rw[D9 R hg];simp only[Bool.false_eq_true,if_false];refine⟨λ_ _=>trivial,fin _ _ β ?_⟩;rw[b2Q];exact R.skip (hdN j hjn)
    ·-- the call itself
     subst hjm;rcases T.cont with ⟨hm,_⟩|⟨hm,hg,rd0,R0,hne,b2c,hk⟩
     .omega
     have lk:∀i,i<j->(∃k,k∈(us i).fz++(us i).hs.map (·.1)/\k∈rd0)->reach ops 16 j i=true:=by
      rintro i hi ⟨k,hk1,hk2⟩;obtain⟨u,hu⟩:=hne;obtain⟨f',H',mid,_,h2⟩:=nN _ _ _ _ (hk u hu).2.2;have h3:=(hK _ _ _ h2).1;rw[List.reverse_append,List.reverse_cons,List.append_assoc]at h3;simp only[I5,Bool.and_eq_true]at h3;have h4:=nZ h3.1.1 hi hjn;rw[yU us rd hi,List.singleton_append,KF us rd]at h4;have:clash (rd i,(us i).fz++(us i).hs.map (·.1)) (rd0,u.fz++u.hs.map (·.1))=true:=IC (.inl ⟨hk1,.inl hk2⟩);simpa [this] using h4
     have F8:∀t,t∈Oper.looksAt ops (ops.getD j default)->(fS st us ds (λi=>listed.getD i false) j).1 t=(st j).1 t:=by
      intro t ht;refine Di (λi hi=>T.next i hi) (Nat.le_refl _) λi hi hdi=>⟨λ_=>before i (nm i j hi hjn (sW (.inl ⟨hdi,.inr ht⟩))),λh=>by omega⟩
     have Yq:∀k,k∈rd0->(fS st us ds (λi=>listed.getD i false) j).2 k=(st j).2 k:=by
      intro k hk;refine D7 (λi hi=>T.next i hi) (Nat.le_refl _) λi hi hki=>⟨λ_=>before i (lk i hi ⟨k,hki,hk⟩),λh=>by omega⟩
     rw[<-hgd _ F8]at hg;rw[D9 R hg];simp only[if_true];refine b2c _ _ ?_ Yq G M w0 D0 N β a w (hdN j hjn) R _ _ (λu a' w' β' hu R'=>?_) ro
     .intro x hx;cases x with
      |tmp t=>exact F8 t (CY hx)
      |_=>rfl
     .have hk0:=hk;have hnext:=(hk u hu).2.2;obtain⟨m2,st2,us2,rd2,b0,b0',b1,b2,b3,b4,b5⟩:=OV hno (ops.toList.drop (j+1)) (j+1) _ _ _ (λi=>by rw[List.getElem?_drop,Array.getElem?_toList]) (by simp;omega) hnext;have c1:∀i,i<j->(if i<j then us i else if i=j then u else us2 i)=us i:=λi hi=>by simp[hi]
      refine ih _ a' w' β' m2 (λi=>if i<=j then st i else st2 i) (λi=>if i<j then us i else if i=j then u else us2 i) (λi=>if i<j then rd i else if i=j then rd0 else rd2 i) (by simp[hsz]) Yo hcl' (λi hi=>?_) ⟨b0',λi hi=>?_,λi hi hs=>?_,λi hi k hk=>?_,?_⟩ ?_
      .rw[hlist]at hi;by_cases hij:i=j
       .omega
       .simp only[hij,if_false]at hi;have:=hlm i hi;omega
      .rcases Nat.lt_trichotomy i j with hij|hij|hij
       .have e1:i<=j:=by omega
        have e2:i+1<=j:=by omega
        simp only[hij,e1,e2,if_true];exact T.next i hij
       .subst hij;simp only[Nat.le_refl,Nat.lt_irrefl,if_true,if_false,show ¬(i+1<=i) from by omega,b1]
       .simp only[show ¬(i<=j) from by omega,show ¬(i+1<=j) from by omega,show ¬(i<j) from by omega,show i≠j from by omega,if_false];exact b2 i (by omega) hi
      .simp only[hlist]at hs;rcases Nat.lt_trichotomy i j with hij|hij|hij
       .have e1:i<=j:=by omega
        simp only[show i≠j from by omega,if_false]at hs;simp only[hij,e1,if_true];exact T.step i hij hs
       .simp[hij]at hs
       .simp only[show ¬(i<=j) from by omega,show ¬(i<j) from by omega,show i≠j from by omega,if_false];exact b3 i (by omega) hi
      .rcases Nat.lt_trichotomy i j with hij|hij|hij
       .simp only[hij,if_true]at hk ⊢;exact T.wr i hij k hk
       .subst hij;simp only[Nat.lt_irrefl,if_true,if_false]at hk ⊢;exact(hk0 u hu).1 k hk
       .simp only[show ¬(i<j) from by omega,show i≠j from by omega,if_false]at hk ⊢;exact b4 i (by omega) hi k hk
      .have e0:¬(m2<=j):=by omega
       have el:rE (λi=>if i<j then us i else if i=j then u else us2 i) (λi=>if i<j then rd i else if i=j then rd0 else rd2 i) m2=((List.range' (j+1) (m2-(j+1))).map λi=>(rd2 i,(us2 i).fz++(us2 i).hs.map (·.1))).reverse++((rd0,u.fz++u.hs.map (·.1))::rE us rd j):=by
        unfold rE;have er:List.range' 0 m2=List.range' 0 j++(j::List.range' (j+1) (m2-(j+1))):=by
         have h1:List.range' 0 j++List.range' (0+j) (m2-j)=List.range' 0 m2:=by
          have:=List.range'_append_1 (s:=0) (m:=j) (n:=m2-j);rw[show j+(m2-j)=m2 from by omega]at this;exact this
         rw[<-h1,Nat.zero_add,show m2-j=(m2-(j+1))+1 from by omega,List.range'_succ]
        rw[er,List.map_append,List.map_cons,List.reverse_append,List.reverse_cons,List.append_assoc,List.singleton_append];simp only[Nat.lt_irrefl,if_false,if_true]
        congr 2
        .apply List.map_congr_left;intro i hi;have:=List.mem_range'_1.1 hi;simp[show ¬(i<j) from by omega,show i≠j from by omega]
        .refine congrArg List.reverse ?_;refine List.map_congr_left λi hi=>?_;have:=List.mem_range'_1.1 hi;simp[show i<j from by omega]
       rw[el];simp only[e0,if_false];exact b5
      .have hs9:∀i,j+1<=i->(listed.setIfInBounds j true).getD i false=false:=λi hi=>by
        rw[hlist];simp only[show i≠j from by omega,if_false];by_cases hl:listed.getD i false=true
        .have:=hlm i hl;omega
        .simpa using hl
       have e1:=Ou (st:=λi=>if i<=j then st i else st2 i) (us:=λi=>if i<j then us i else if i=j then u else us2 i) (ds:=ds) (S:=λi=>(listed.setIfInBounds j true).getD i false) (m:=j+1) (m2-(j+1)) (λi h1 h2=>hs9 i h1);rw[show j+1+(m2-(j+1))=m2 from by omega]at e1;have e2:fS (λi=>if i<=j then st i else st2 i) (λi=>if i<j then us i else if i=j then u else us2 i) ds (λi=>(listed.setIfInBounds j true).getD i false) j=fS st us ds (λi=>listed.getD i false) j :=
        Rl (by simp) j λi hi=>⟨by simp only[hlist,show i≠j from by omega,if_false],by simp[hi]⟩
       rw[e1];have e3:(fS (λi=>if i<=j then st i else st2 i) (λi=>if i<j then us i else if i=j then u else us2 i) ds (λi=>(listed.setIfInBounds j true).getD i false) (j+1))=(u.f (ds j) (fS st us ds (λi=>listed.getD i false) j).1,u.h (fS st us ds (λi=>listed.getD i false) j).2):=by
        have e4:(listed.setIfInBounds j true).getD j false=true:=by rw[hlist];simp
        rw[fS,e2];simp only[e4,if_true,Nat.lt_irrefl,if_false]
       rw[e3];exact R'
    ·-- one behind it: it hangs on the call
     exfalso
     rcases T.cont with ⟨hm,_⟩|⟨hm,hg,rd0,R0,hne,b2c,hk⟩
     .omega
     obtain⟨u,hu⟩:=hne;obtain⟨f',H',mid,_,h2⟩:=nN _ _ _ _ (hk u hu).2.2;have h3:=(hK _ _ _ h2).1;rw[List.reverse_append,List.reverse_cons,List.append_assoc]at h3;simp only[I5,Bool.and_eq_true]at h3;have h4:=nZ h3.1.2 hjm hjn;rw[List.singleton_append,KF us rd]at h4;have:(u.fz++u.hs.map (·.1)).contains 999=true:=List.contains_iff_mem.2 (hk u hu).2.1;rw[this]at h4;have:=hlm m (before m (by simpa using h4));omega
 obtain⟨m,st,us,rd,a0,a0',a1,a2,a3,a4,a5⟩:=OV hno ops.toList 0 f H [] (by simp) (by simp) h;have hnone:∀i,(Array.replicate ops.size false).getD i false=false:=by
  intro i;by_cases hio:i<ops.size
  .simp[Array.getD_eq_getD_getElem?,hio]
  .simp[Array.getD_eq_getD_getElem?,hio]
 refine key ops.size _ a w β m st us rd (by simp) (by
  rw[List.filter_eq_self.2]
  .simp
  .intro i hi;simp[Array.getD_eq_getD_getElem?,List.mem_range.1 hi]) ?_ (λi hi=>by rw[hnone]at hi;cases hi) ⟨a0',λi hi=>a2 i (by omega) hi,λi hi _=>a3 i (by omega) hi,λi hi=>a4 i (by omega) hi,by simpa [rE] using a5⟩ ?_
 .intro i hi;exact absurd hi (by show ¬((Array.replicate ops.size false).getD i false=true);rw[hnone];simp)
 .have e1:=Ou (st:=st) (us:=us) (ds:=ds) (S:=λi=>(Array.replicate ops.size false).getD i false) (m:=0) m (λi _ _=>hnone i);rw[Nat.zero_add]at e1;rw[e1];simp only[fS,a1];exact R
def a9b (inv:List Nat)(o:Oper):Oper:=⟨o.dst,o.op,o.type,o.pos,o.after.map λe=>⟨inv.getD e.on 0,e.ground⟩,o.guard.map λg=>(inv.getD g.1 0,g.2)⟩
def lQ (ops:List Oper)(ord inv:List Nat):List Oper:=ord.map λi=>a9b inv (ops.getD i default)
def Ku (ops:List Oper)(ord inv:List Nat):Bool :=
 ord.length == ops.length && inv.length == ops.length && ((List.range ops.length).all λp=>decide (ord.getD p 0<ops.length) && decide (inv.getD p 0<ops.length) && inv.getD (ord.getD p 0) 0 == p && ord.getD (inv.getD p 0) 0 == p) &&
 ops.all λo=>(o.guard.all λg=>decide (g.1<ops.length)) && o.after.toList.all λe=>decide (e.on<ops.length)
theorem xK {α:Type}(l:List α)(d:α){i:Nat}(h:i<l.length):l[i]?=some (l.getD i d):=by
 rw[List.getD_eq_getElem?_getD,List.getElem?_eq_getElem h];rfl
theorem SY {ro:Option Nat}{ops:List Oper}{ord inv:List Nat}{Q:Exit->Act->World->Prop}(h:Ku ops ord inv=true):∀(fuel:Nat) (listed listed':Array Bool) (a:Act) (w:World),listed.size=ops.length->listed'.size=ops.length ->
  (∀p,p<ops.length->listed'.getD p false=listed.getD (ord.getD p 0) false)->wpAnyIn (Wd ro) 0 P .any (lQ ops ord inv).toArray Q fuel listed' a w->wpAnyIn (Wd ro) 0 P .any ops.toArray Q fuel listed a w:=by
 simp only[Ku,Bool.and_eq_true,beq_iff_eq,List.all_eq_true,List.mem_range,decide_eq_true_eq]at h;obtain⟨⟨⟨ho,hi⟩,hp⟩,hops⟩:=h;have op':∀i,i<ops.length->(lQ ops ord inv).toArray[inv.getD i 0]?=some (a9b inv (ops.getD i default)):=by
  intro i hlt;have h1:=hp i hlt;have h2:inv.getD i 0<ord.length:=by omega
  have h3:ord[inv.getD i 0]?=some (ord.getD (inv.getD i 0) 0):=xK ord 0 h2;rw[List.getElem?_toArray,lQ,List.getElem?_map,h3,h1.2];rfl
 have op0:∀i,i<ops.length->ops.toArray[i]?=some (ops.getD i default):=λi hlt=>by
  rw[List.getElem?_toArray];exact xK ops default hlt
 have gt:∀(l:Array Bool) (i:Nat),i<l.size->l.getD i true=l.getD i false:=λl i hl=>by
  simp only[Array.getD_eq_getD_getElem?];rw[Array.getElem?_eq_getElem hl];rfl
 have rdy:∀(listed listed':Array Bool),listed.size=ops.length->listed'.size=ops.length->(∀p,p<ops.length->listed'.getD p false=listed.getD (ord.getD p 0) false) ->
   ∀i,i<ops.length->(i∈Region.ready .any ops.toArray listed↔inv.getD i 0∈Region.ready .any (lQ ops ord inv).toArray listed'):=by
  intro listed listed' hl hl' hll i hlt;have h1:=hp i hlt;have hsz:(lQ ops ord inv).toArray.size=ops.length:=by simp[lQ,ho]
  have e1:listed'.getD (inv.getD i 0) true=listed.getD i true:=by
   rw[gt _ _ (by omega),gt _ _ (by omega),hll _ (by omega),h1.2]
  have e2:((a9b inv (ops.getD i default)).after.all λe=>!Region.binds .any e || listed'.getD e.on false)=((ops.getD i default).after.all λe=>!Region.binds .any e || listed.getD e.on false):=by
   have hm:=(hops (ops.getD i default) (List.mem_of_getElem? (xK ops default hlt))).2;show ((ops.getD i default).after.map λe=>(⟨inv.getD e.on 0,e.ground⟩:Edge)).all _=_;rw[Bool.eq_iff_iff,Array.all_eq_true_iff_forall_mem,Array.all_eq_true_iff_forall_mem];have key:∀e∈(ops.getD i default).after,(!Region.binds .any (⟨inv.getD e.on 0,e.ground⟩:Edge) || listed'.getD (inv.getD e.on 0) false)=(!Region.binds .any e || listed.getD e.on false):=by
    intro e he;have hon:=hm e (Array.mem_toList_iff.2 he);have h2:=hp e.on hon;rw[hll _ (by omega),h2.2];rfl
   constructor
   .intro h e he;rw[<-key e he];exact h _ (Array.mem_map.2 ⟨e,he,rfl⟩)
   .intro h e he;obtain⟨e0,he0,rfl⟩:=Array.mem_map.1 he;rw[key e0 he0];exact h e0 he0
  unfold Region.ready;rw[List.mem_filter,List.mem_filter,List.mem_range,List.mem_range,hsz,op' i hlt,op0 i hlt,e1];simp only[Option.map_some,Option.getD_some,e2,List.size_toArray,hlt,true_and,show inv.getD i 0<ops.length from h1.1.1.2]
 have rdl:∀(listed:Array Bool) (i:Nat),i∈Region.ready .any ops.toArray listed->i<ops.length:=λlisted i hm=>by
  unfold Region.ready at hm;have:=(List.mem_filter.1 hm).1;simpa using this
 have b3y:∀(listed listed':Array Bool),listed.size=ops.length->listed'.size=ops.length->(∀p,p<ops.length->listed'.getD p false=listed.getD (ord.getD p 0) false)->(Region.ready .any ops.toArray listed=[]↔Region.ready .any (lQ ops ord inv).toArray listed'=[]):=by
  intro listed listed' hl hl' hll;have hr:=rdy listed listed' hl hl' hll;constructor
  .intro he;refine List.eq_nil_iff_forall_not_mem.2 λq hq=>?_;have b5A:q<ops.length:=by
    unfold Region.ready at hq;have:=(List.mem_filter.1 hq).1;simp[lQ,ho]at this;exact this
   have h1:=hp q b5A;have:=(hr (ord.getD q 0) (by omega)).2 (by rw[h1.1.2];exact hq);rw[he]at this;cases this
  .intro he;refine List.eq_nil_iff_forall_not_mem.2 λi hi=>?_;have:=(hr i (rdl _ i hi)).1 hi;rw[he]at this;cases this
 intro fuel
 induction fuel with
 |zero =>
  intro listed listed' a w hl hl' hll h;exact⟨(b3y listed listed' hl hl' hll).2 h.1,h.2⟩
 |succ fuel ih =>
  intro listed listed' a w hl hl' hll h;refine⟨λhe=>h.1 ((b3y listed listed' hl hl' hll).1 he),λi hi=>?_⟩;have hlt:=rdl _ i hi;have h1:=hp i hlt;have h2:=h.2 _ ((rdy listed listed' hl hl' hll i hlt).1 hi);have h3:wpOpIn (Wd ro) 0 P (lQ ops ord inv).toArray Q (inv.getD i 0) (wpAnyIn (Wd ro) 0 P .any ops.toArray Q fuel (listed.setIfInBounds i true)) a w:=by
   refine wpOpIn_mono (λa w hk=>ih _ _ a w (by simp[hl]) (by simp[hl']) (λp hlp=>?_) hk) h2;have h4:=hp p hlp;have e1:∀(l:Array Bool) (x y:Nat),x<l.size->(l.setIfInBounds x true).getD y false=if y=x then true else l.getD y false:=by
    intro l x y hx;simp only[Array.getD_eq_getD_getElem?,Array.getElem?_setIfInBounds];by_cases e:x=y
    .subst e;simp[hx]
    .simp[e,Ne.symm e]
   rw[e1 _ _ _ (by omega),e1 _ _ _ (by omega)];have e2:(p=inv.getD i 0)↔(ord.getD p 0=i):=by
    constructor
    .intro e;rw[e];exact h1.2
    .intro e;rw[<-e];exact h4.1.2.symm
   by_cases e:p=inv.getD i 0
   .rw[if_pos e,if_pos (e2.1 e)]
   .rw[if_neg e,if_neg (λh=>e (e2.2 h))];exact hll p hlp
  unfold wpOpIn at h3 ⊢;rw[op' i hlt]at h3;rw[op0 i hlt];simp only at h3 ⊢;have hg:=(hops (ops.getD i default) (List.mem_of_getElem? (xK ops default hlt))).1;have hy:∀j,j<ops.length->yielded (lQ ops ord inv).toArray a.tmps (inv.getD j 0)=yielded ops.toArray a.tmps j:=λj hj=>by
   unfold yielded;rw[op' j hj,op0 j hj];rfl
  have hw:Region.wanted (a9b inv (ops.getD i default)) (yielded (lQ ops ord inv).toArray a.tmps)=Region.wanted (ops.getD i default) (yielded ops.toArray a.tmps):=by
   unfold Region.wanted;simp only[a9b];cases hgd:(ops.getD i default).guard with
   |none=>rfl
   |some g =>
    obtain⟨j,b⟩:=g;rw[hgd]at hg;simp only[Option.all_some,decide_eq_true_eq]at hg;simp only[Option.map_some];rw[hy j hg]
  rw[hw]at h3;exact h3
end
end Go.AL

namespace Go.AL
variable {zi:Zi}
open Go.RowKit
set_option linter.unusedSimpArgs false
set_option linter.unusedVariables false
theorem WG (ro:Option Nat)(n:Nat):(Wd ro).room n:=λ_ h=>by simp[Wd,Fence.wide]at h
section
variable {P:Program} {ro:Option Nat} {n n':Nat} {c:Code} {Q:Exit->Act->World->Prop} {a:Act} {w:World}
theorem a9w (h:c.wpIn (Wd ro) n P Q a w):c.wpIn (Wd ro) n' P Q a w:=λb k cs h1 h2 _=>h b k cs h1 h2 (WG _ _)
theorem IL {fr:Frame}{cs:List Frame}:(lone fr cs w).fenced P (Wd ro):=fenced_wide P _
theorem vC (h:c.wpIn (Wd ro) n P (Exit.noGoto Q) a w):(Code.scope c).wpIn (Wd ro) n P Q a w:=by
 intro b k cs hro hb hr;have s1:step P (lone (b.atR a (.code (.scope c)::k)) cs w)=.next (lone (b.atR a (.code c::.inScope c::k)) cs w):=step_lone_go (by simp[stepG,stepG.exec,Frame.atR]);obtain⟨e,a₁,w₁,hq,harr⟩:=h b (.inScope c::k) cs hro hb hr;have s2:step P (lone (b.atR a₁ (.inScope c::k)) cs w₁)=.next (lone (b.atR a₁ k) cs w₁):=step_lone_go (by simp[stepG,stepG.exec,Frame.atR]);have f1:=StepsIn.one (I:=Machine.fenced P (Wd ro)) (IL (P:=P) (ro:=ro) (w:=w)) s1;cases e with
 |normal=>exact⟨.normal,a₁,w₁,hq,f1.trans (StepsIn.trans harr (.one IL s2))⟩
 |exit id =>
  have hx:exitTo id (.inScope c::k)=exitTo id k:=by simp[exitTo]
  exact⟨_,a₁,w₁,hq,λk' hk=>f1.trans (harr.1 k' (by rw[hx];exact hk)),
   λhr' hk=>let ⟨k₁,h1,h2⟩:=harr.2 hr' (by rw[hx];exact hk);⟨k₁,h1,f1.trans h2⟩⟩
 |goto l=>exact hq.elim
 |ret=>exact⟨_,a₁,w₁,hq,.of_steps f1 harr⟩
 |panic ch=>exact⟨_,a₁,w₁,hq,.of_steps f1 harr⟩
 |outgrown=>exact⟨_,a₁,w₁,hq,.of_steps f1 harr⟩
theorem FW (I:Nat->Act->World->Prop)(round:∀m a w,I m a w->c.wpIn (Wd ro) n P (Exit.then (λa' w'=>∃k,k<m/\I k a' w') Q) a w){m:Nat}(h₀:I m a w):(Code.loop c).wpIn (Wd ro) n P Q a w:=by
 intro b k cs hro hb hr;have key:∀m a w,I m a w->∃e a' w',Q e a' w'/\ArrivesIn (Machine.fenced P (Wd ro)) P (lone (b.atR a (.code c::.inLoop c::k)) cs w) b k cs e a' w':=by
  intro m
  induction m using Nat.strongRecOn with
  |_ m ih =>
   intro a w hI;obtain⟨e,a₁,w₁,hq,harr⟩:=round m a w hI b (.inLoop c::k) cs hro hb hr;cases e with
   |normal =>
    obtain⟨m',hlt,hI₁⟩:=hq;obtain⟨e₂,a₂,w₂,hq₂,harr₂⟩:=ih m' hlt a₁ w₁ hI₁;exact⟨e₂,a₂,w₂,hq₂,.of_steps (StepsIn.trans harr (.one IL stepR_inLoop)) harr₂⟩
   |exit id=>exact⟨_,a₁,w₁,hq,.pass (x:=.inLoop c) rfl (λ_ _=>.inl (by simp)) harr⟩
   |goto l=>exact⟨_,a₁,w₁,hq,.pass (x:=.inLoop c) rfl (λ_ _=>.inl (by simp)) harr⟩
   |ret=>exact⟨_,a₁,w₁,hq,.pass (x:=.inLoop c) rfl (λ_ _=>.inl (by simp)) harr⟩
   |panic ch=>exact⟨_,a₁,w₁,hq,.pass (x:=.inLoop c) rfl (λ_ _=>.inl (by simp)) harr⟩
   |outgrown=>exact⟨_,a₁,w₁,hq,.pass (x:=.inLoop c) rfl (λ_ _=>.inl (by simp)) harr⟩
 obtain⟨e,a',w',hq,harr⟩:=key m a w h₀;exact⟨e,a',w',hq,.of_steps (.one IL stepR_loop) harr⟩
end
def Kept (D:Nat->Prop)(n0:Nat)(A B:World):Prop:=∀b,b<n0->¬D b->(∃o:Obj,A.heap[b]?=some o/\o.isCells=true)->B.heap[b]?=A.heap[b]?
theorem Kept.trans {D:Nat->Prop}{n0:Nat}{A B C:World}(h:Kept D n0 A B)(k:Kept D n0 B C):Kept D n0 A C:=λb hb hD ⟨o,ho,hc⟩=>by
 have h1:=h b hb hD ⟨o,ho,hc⟩;exact(k b hb hD ⟨o,h1.trans ho,hc⟩).trans h1
theorem Kept.refl (D:Nat->Prop)(n0:Nat)(A:World):Kept D n0 A A:=λ_ _ _ _=>rfl
def a3X (P:Program)(g:Nat)(caps:List (List IV))(np:Nat)(n:Nat)(it:Nat->List CV):Prop :=
 (∀args w,(callFunc g args).run P w=.ok (.enter g args) w) /\
 ∀(w:World) (D:Nat->Prop) (vs:Array Value),(∀b,D b->b<w.heap.size)->nS w D caps vs.toList ->
  ∃encs:Nat->Array Value,(∀k,(encs k).size=np)/\(∀k,k<n->eU w D (it k) (encs k).toList) /\
   ∀(l:Nat) (J Jx:Nat->World->Prop) (W:World),Kept D w.heap.size w W->w.heap.size<=W.heap.size ->
    (∀k A B,J k A->Below A.heap.size A B->J k B)->(∀k A B,Jx k A->Below A.heap.size A B->Jx k B) ->
    (∀k W1,k<n->J k W1->YieldAt (Wd none) 0 P l (encs k) W1 λe W'=>(e=.returned (.bool true)/\J (k+1) W'/\Kept D w.heap.size W1 W')\/(e=.returned (.bool false)/\Jx k W')) ->
    J 0 W->CallsIn (Wd none) 0 P g (#[.func (.yield l) #[] #[]]++vs) W λe W'=>(∃v,e=.returned v)/\(J n W'\/∃k,Jx k W')
def lays (f:Fr):List Nat->List AV->Fr
 |p::ps,x::xs=>lays (upd f p x) ps xs
 |_,_=>f
def b3u (K:Fr->Hp->Prop):Exit->Fr->Hp->Prop
 |.normal,f,H=>K f H
 |_,_,_=>False
def vw (I:Nat->Hp->Prop)(J:Code->Hp->Prop)(k:Nat):Exit->Fr->Hp->Prop
 |.normal,_,H=>I (k+1) H
 |.ret,_,H=>J .ret H
 |.exit id,_,H=>J (.exit id) H
 |_,_,_=>False
def Conc (G:Gh)(M:Nat->Prop)(w0:World)(D0:Nat->Prop)(N:Nat)(Q:Exit->Fr->Hp->Prop):Exit->Act->World->Prop
 |.panic _,_,_=>False
 |.outgrown,_,_=>False
 |e,a,w=>∃f H β,Q e f H/\Rel G M w0 D0 N f H β a w
def QZ (f:Fr)(a:Act)(G:Gh):Gh:=⟨λx v=>(∃t,x=f t/\v=a.tmps.getD t Go.undef)\/G.vals x v,true⟩
def Mut (H:Hp)(β:Nat->Value):Nat->Prop:=λb=>∃h,(H h).gB/\bD (β h)=some b
section
variable {P:Program} {G:Gh} {M:Nat->Prop} {w0:World} {D0:Nat->Prop} {N:Nat} {f:Fr} {H:Hp} {β:Nat->Value} {a:Act} {w:World}
theorem dh.other {w w':World}{row:Option Nat}(D:Nat->Prop)(hg:w.grownBy w' row)(hr:∀r,row=some r->∃o:Obj,w.heap[r]?=some o/\o.isCells=false):dh w D w' D :=
 ⟨hg.size,λ_ _ h=>h,λb hb _ ⟨o,ho,hc⟩=>hg.block b hb λe=>by
  obtain⟨o',ho',hc'⟩:=hr b e.symm;rw[ho]at ho';cases ho';rw[hc]at hc';cases hc'⟩
theorem Rel.other (R:Rel G M w0 D0 N f H β a w){w':World}{row:Option Nat}(hg:w.grownBy w' row)
  (hr:∀r,row=some r->w0.heap.size<=r/\(∃o:Obj,w.heap[r]?=some o/\o.isCells=false)/\w.heap[r]?≠some (.deferred (some []))):Rel G M w0 D0 N f H β a w':=by
 have g:dh w (DD H β D0) w' (DD H β D0):=dh.other _ hg λr e=>(hr r e).2.1
 have hs:=R.step (w':=w') (H':=H) (β':=β) (dst:=none) (v:=.dead) (val:=Go.undef) hg.os hg.tape hg.output g
  (λk h1 _=>hg.block k (by have:=R.size;omega) (λe=>by have:=(hr k e.symm).1;omega))
  (λk _ h=>by rw[hg.block k (Array.getElem?_eq_some_iff.1 h).1 (λe=>(hr k e.symm).2.2 h)];exact h) (jV.refl _ _) (by simp[aG])
  (λh st e sz rows hh=>(R.own h st e sz rows hh).mono g λk hk=>by
   obtain⟨cur,e',hc⟩:=R.gY (by rw[hh];trivial) hk;refine hg.block k (Array.getElem?_eq_some_iff.1 hc).1 λe=>?_;obtain⟨o',ho',hc'⟩:=(hr k e.symm).2.1;rw[hc]at ho';cases ho';cases hc')
  (λh st e sz rows hh=>⟨(R.frz h st e sz rows hh).1,(R.frz h st e sz rows hh).2.1.mono g,(R.frz h st e sz rows hh).2.2⟩) R.dis
  (λh st e rows hh=>(R.nst h st e rows hh).mono g (jV.refl _ _) λk hk=>by
   obtain⟨cur,e',hc⟩:=R.gY (by rw[hh];trivial) hk;refine hg.block k (Array.getElem?_eq_some_iff.1 hc).1 λe=>?_;obtain⟨o',ho',hc'⟩:=(hr k e.symm).2.1;rw[hc]at ho';cases ho';cases hc') (λh B hh=>Nat.le_trans (R.mrk h B hh) hg.size) (by simp)
 exact hs
theorem Rel.mark (R:Rel G M w0 D0 N f H β a w){k:Nat}(hk:w0.heap.size<=k)(h:w.heap[k]?=some (.deferred (some [])))(hr:G.rnd=false)(hn:∀d∈a.defers,d≠{ target:=.collected k,args:=#[] }) :
  Rel G M w0 D0 N f H β { a with defers:=[{ target:=.collected k,args:=#[] }]++a.defers } w :=
 ⟨R.os,R.tape,R.output,R.size,R.keep,R.old,R.rV,(λd hd=>by
  rcases List.mem_append.1 hd with hd|hd
  .exact⟨k,List.mem_singleton.1 hd,hk,h⟩
  .exact R.defers d hd),(λh=>by rw[hr]at h;cases h),List.nodup_cons.2 ⟨λh=>hn _ h rfl,R.a1X⟩,R.gh,R.tmps,R.own,R.frz,R.dis,R.nst,R.mrk,R.tie⟩
theorem Rel.enter (R:Rel G M w0 D0 N f H β a w){f0:Fr}{a0:Act}{N':Nat}(hts:a0.tmps.size=N')(hd:a0.defers=[])(ht:∀t,aG w (DD H β D0) H β (f0 t) (a0.tmps.getD t Go.undef)) :
  Rel (QZ f a G) (Mut H β) w D0 N' f0 H β a0 w:=by
 refine⟨rfl,rfl,rfl,Nat.le_refl _,λ_ _ _=>rfl,λb hb=>⟨Nat.lt_of_lt_of_le (R.old b hb).1 R.size,λ⟨h,hm,hk⟩=>?_⟩,hts,(λd h=>by rw[hd]at h;cases h),λ_=>hd,by rw[hd];exact List.nodup_nil,λx v hp=>?_,ht,λh st e sz rows hh=>?_,R.frz,R.dis,λh st e rows hh=>?_,R.mrk,R.tie⟩
 .have:=(R.old b hb).1;rcases DD.head R hm hk with h1|h1
  .omega
  .exact(R.old b hb).2 h1
 .rcases hp with ⟨t,rfl,rfl⟩|hp
  .exact R.tmps t
  .exact R.gh x v hp
 .have ho:=R.own h st e sz rows hh;refine⟨ho.1,?_⟩;rcases ho.2 with hn|⟨g,cap,cur,hv,_,hrest⟩
  .exact .inl hn
  .exact .inr ⟨g,cap,cur,hv,.inr ⟨h,by rw[hh];trivial,by rw[hv];rfl⟩,hrest⟩
 .rcases R.nst h st e rows hh with hn|⟨g,cap,cur,hv,_,hrest⟩
  .exact .inl hn
  .exact .inr ⟨g,cap,cur,hv,.inr ⟨h,by rw[hh];trivial,by rw[hv];rfl⟩,hrest⟩
theorem Rel.CP (R:Rel G M w0 D0 N f H β a w){k:Nat}{o:Obj}(h:w.heap[k]?=some o)(hc:o.isCells=false):¬Mut H β k:=λ⟨h',hm,hk⟩=>by
 obtain⟨cur,e,hh⟩:=R.gY hm hk;rw[h]at hh;cases hh;cases hc
theorem Rel.leave (R:Rel G M w0 D0 N f H β a w){f':Fr}{H':Hp}{β':Nat->Value}{a':Act}{w':World}{N':Nat}(R':Rel (QZ f a G) (Mut H β) w D0 N' f' H' β' a' w'):Rel G M w0 D0 N f H' β' a w':=by
 have hold:∀k,w0.heap.size<=k\/M k\/(k<w0.heap.size/\¬M k):=λk=>by
  rcases Nat.lt_or_ge k w0.heap.size with h|h
  .by_cases hm:M k
   .exact .inr (.inl hm)
   .exact .inr (.inr ⟨h,hm⟩)
  .exact .inl h
 refine⟨R'.os.trans R.os,R'.tape.trans R.tape,R'.output.trans R.output,Nat.le_trans R.size R'.size,λk hk hm=>(R'.keep k (Nat.lt_of_lt_of_le hk R.size) λ⟨h,hm',hk'⟩=>?_).trans (R.keep k hk hm),R.old,R.rV,λd hd=>?_,R.rnd,R.a1X,λx v hp=>R'.gh x v (.inr hp),
  λt=>R'.gh _ _ (.inl ⟨t,rfl,rfl⟩),λh st e sz rows hh=>?_,R'.frz,R'.dis,λh st e rows hh=>?_,R'.mrk,R'.tie⟩
 .rcases DD.head R hm' hk' with h1|h1
  .omega
  .exact hm h1
 .obtain⟨k,h1,h2,h3⟩:=R.defers d hd;exact⟨k,h1,h2,by rw[R'.keep k (Array.getElem?_eq_some_iff.1 h3).1 (R.CP h3 rfl)];exact h3⟩
 .have ho:=R'.own h st e sz rows hh;refine⟨ho.1,?_⟩;rcases ho.2 with hn|⟨g,cap,cur,hv,hB,hrest⟩
  .exact .inl hn
  .refine .inr ⟨g,cap,cur,hv,?_,hrest⟩;rcases hB with hB|⟨h',hm',hk'⟩
   .exact .inl (Nat.le_trans R.size hB)
   .exact DD.head R hm' hk'
 .rcases R'.nst h st e rows hh with hn|⟨g,cap,cur,hv,hB,hrest⟩
  .exact .inl hn
  .refine .inr ⟨g,cap,cur,hv,?_,hrest⟩;rcases hB with hB|⟨h',hm',hk'⟩
   .exact .inl (Nat.le_trans R.size hB)
   .exact DD.head R hm' hk'
theorem Rel.sub {f':Fr}{H':Hp}{β':Nat->Value}{a':Act}{w':World}{G':Gh}(R':Rel G' (Mut H β) w D0 N f' H' β' a' w'){b:Nat}(hb:DD H' β' D0 b)(hlt:b<w.heap.size):DD H β D0 b:=by
 rcases hb with hb|⟨h,hm,hk⟩
 .exact .inl hb
 .rcases DD.head R' hm hk with h1|h1
  .omega
  .exact .inr h1
theorem QU {D:Nat->Prop}:∀(ps:List Nat) (xs:List AV) (vs:List Value) (tm:Array Value) (f:Fr),aS w D H β xs vs->(∀p∈ps,p<tm.size)->(∀t,aG w D H β (f t) (tm.getD t Go.undef)) ->
  ((ps.zip vs).foldl (λt (pv:Nat×Value)=>t.setIfInBounds pv.1 pv.2) tm).size=tm.size/\∀t,aG w D H β (lays f ps xs t) (((ps.zip vs).foldl (λt (pv:Nat×Value)=>t.setIfInBounds pv.1 pv.2) tm).getD t Go.undef)
 |[],xs,vs,tm,f,_,_,h=>by simpa [lays] using h
 |p::ps,[],[],tm,f,_,_,h=>by simpa [lays] using h
 |p::ps,x::xs,v::vs,tm,f,hx,hp,h=>by
  simp only[aS]at hx;simp only[List.zip_cons_cons,List.foldl_cons,lays];have ih:=QU ps xs vs (tm.setIfInBounds p v) (upd f p x) hx.2 (λq hq=>by rw[Array.size_setIfInBounds];exact hp q (by simp[hq])) λt=>by
   have hpt:=hp p (by simp);by_cases ht:t=p
   .subst ht;have:(tm.setIfInBounds t v).getD t Go.undef=v:=by simp[Array.getD_eq_getD_getElem?,hpt]
    rw[this];simpa [upd] using hx.1
   .have:(tm.setIfInBounds p v).getD t Go.undef=tm.getD t Go.undef:=by
     simp only[Array.getD_eq_getD_getElem?];rw[Array.getElem?_setIfInBounds_ne (Ne.symm ht)]
    rw[this];simpa [upd,ht] using h t
  exact⟨by rw[ih.1,Array.size_setIfInBounds],ih.2⟩
 |_::_,[],_::_,_,_,hx,_,_=>by simp[aS]at hx
 |_::_,_::_,[],_,_,hx,_,_=>by simp[aS]at hx
theorem Ld {D:Nat->Prop}:∀{xs:List CV} {vs:List Value},eU w D xs vs->aS w D H β (xs.map CV.av) vs
 |[],[],_=>by simp[aS]
 |_::_,_::_,h=>by simp only[List.map_cons,aS];exact⟨h.1.av,Ld h.2⟩
 |[],_::_,h=>h.elim
 |_::_,[],h=>h.elim
end
end Go.AL

namespace Go.AL
variable {zi:Zi}
open Go.RowKit
set_option linter.unusedSimpArgs false
set_option linter.unusedVariables false
section
variable {P:Program} {G:Gh} {M:Nat->Prop} {w0:World} {D0:Nat->Prop} {N:Nat} {f:Fr} {H:Hp} {β:Nat->Value} {a:Act} {w:World}
theorem Ui (ps:Array Nat)(vs:Array Value)(tm:Array Value):(ps.zip vs).foldl (λt (p,v)=>t.setIfInBounds p v) tm=(ps.toList.zip vs.toList).foldl (λt (pv:Nat×Value)=>t.setIfInBounds pv.1 pv.2) tm:=by
 rw[<-Array.foldl_toList,Array.toList_zip]
theorem Ny {g:Operand}{ps:Array Nat}{assign body:Code}{Q:Exit->Act->World->Prop}(R:Rel G M w0 D0 N f H β a w)(hrnd:G.rnd=false){gf:Nat}{l:List AV}(hx:ev f g=.fn gf l)
  {c:Prop} {caps:List (List IV)} {ms:List Nat} (ht:aB H l=some (c,caps,ms)) (hc:c) {n:Nat} {it:Nat->List CV} (hit:a3X P gf caps ps.size n it) (hps:∀p∈ps.toList,p<N)
  (I:Nat->Hp->Prop) (J:Code->Hp->Prop) (KA:Nat->Fr->Hp->Prop) (h0:I 0 (aQ ms H))
  (hassign:∀l k H' G' M' w0' β' a' w',k<n->I k H'->Rel G' M' w0' D0 N (lays f ps.toList ((it k).map CV.av)) H' β' a' w'->G'.rnd=true->assign.wpIn (Wd (some l)) 0 P (Conc G' M' w0' D0 N (b3u (KA k))) a' w')
  (hbody:∀l k f' H' G' M' w0' β' a' w',k<n->KA k f' H'->Rel G' M' w0' D0 N f' H' β' a' w'->G'.rnd=true->body.wpIn (Wd (some l)) 0 P (Conc G' M' w0' D0 N (vw I J k)) a' w')
  (hdone:∀H' β' a' w',I n H'->Rel G M w0 D0 N f H' β' a' w'->Q .normal a' w')
  (hret:∀H' β' a' w',J .ret H'->Rel G M w0 D0 N f H' β' a' w'->Q .ret a' w')
  (a7s:∀id H' β' a' w',J (.exit id) H'->Rel G M w0 D0 N f H' β' a' w'->Q (.exit id) a' w') :
  (Code.rangeFunc g ps assign body).wpIn (Wd none) 0 P Q a w:=by
 refine a9w (n:=1) (wpIn_rangeFunc ?_);intro fn hfn;have zf:=R.ev g;rw[hx]at zf;simp only[aG]at zf;obtain⟨us,hus,hcap⟩:=zf;have hbox:=qj R hcap ht hc;have R1:=R.aQ ms;have hfresh:∀d∈a.defers,d≠{ target:=.collected w.heap.size,args:=#[] }:=λd hd e=>by
  obtain⟨k,h1,_,h3⟩:=R.defers d hd;have:=(Array.getElem?_eq_some_iff.1 h3).1;rw[e]at h1;injection h1 with h1;injection h1 with h1;omega
 generalize hD:DD (aQ ms H) β D0=D at hbox;have hDlt:∀b,D b->b<w.heap.size:=by
  intro b hb;rw[<-hD]at hb;rcases hb with hb|⟨h,hm,hk⟩
  .exact Nat.lt_of_lt_of_le (R.old b hb).1 R.size
  .obtain⟨cur,e,hh⟩:=R1.gY hm hk;exact(Array.getElem?_eq_some_iff.1 hh).1
 obtain⟨henter,hit2⟩:=hit;obtain⟨encs,hes,hcv,hrun⟩:=hit2 w D us hDlt hbox;obtain⟨rec,hrec⟩:∃rec:LoopState->Option Code->Loop,rec=λst pe=>{ state:=st,pending:=pe,fn,tmps:=a.tmps,params:=ps,assign,body,defers:=w.heap.size }:=⟨_,rfl⟩
 obtain⟨W1,hW1⟩:∃W1,(w.alloc (.deferred (some []))).alloc (.loop (rec .ready none))=W1:=⟨_,rfl⟩;have hB1:Below w.heap.size w W1:=by
  rw[<-hW1];exact((Below.refl _ w).alloc (Nat.le_refl _) _).alloc (by simp) _
 have hL1:W1.heap[w.heap.size+1]?=some (.loop (rec .ready none)):=by
  rw[<-hW1];have:=World.alloc_heap_new (w.alloc (.deferred (some []))) (.loop (rec .ready none));rwa [World.size_alloc]at this
 have hK1:W1.heap[w.heap.size]?=some (.deferred (some [])):=by
  rw[<-hW1];exact(Below.heap_alloc _ _ _ (by simp)).trans (World.alloc_heap_new w _)
 refine⟨w.heap.size+1,[{ target:=.collected w.heap.size,args:=#[] }],W1,{ target:=.fn (.func gf) us,args:=#[.func (.yield (w.heap.size+1)) #[] #[]] },W1,gf,
  #[.func (.yield (w.heap.size+1)) #[] #[]]++us,W1,?_,?_,λ_ _=>trivial,?_,λ_=>Nat.le_refl _,?_⟩
 .rw[<-hW1,hrec];exact run_enterLoop_outer _ _ _ _ _
 .simp only[resolve,hus];simp[go_sem]
 .simp[invoke,go_sem,henter]
 refine(hrun (w.heap.size+1)
  (λk W=>(∃H' β',I k H'/\Rel G M w0 D0 N f H' β' a W/\Kept D w.heap.size w W/\(∀b,DD H' β' D0 b->b<w.heap.size->D b))/\W.heap[w.heap.size+1]?=some (.loop (rec .ready none))/\W.heap[w.heap.size]?=some (.deferred (some [])))
  (λ_ W=>∃c H' β',(c=.ret\/∃id,c=.exit id)/\J c H'/\Rel G M w0 D0 N f H' β' a W/\W.heap[w.heap.size+1]?=some (.loop (rec .done (some c)))/\W.heap[w.heap.size]?=some (.deferred (some [])))
  W1 (λb hb _ _=>hB1.block b hb) hB1.size ?_ ?_ ?_ ?_).mono ?_
 .rintro k A B ⟨⟨H',β',hI,Rk,hkept,hsub⟩,hl,hk⟩ hb;refine⟨⟨H',β',hI,Rk.below hb,λb h1 h2 h3=>?_,hsub⟩,?_,?_⟩
  .have e1:=hkept b h1 h2 h3;have hlt:b<A.heap.size:=by
    obtain⟨o,ho,_⟩:=h3;exact(Array.getElem?_eq_some_iff.1 (e1.trans ho)).1
   exact(hb.block b hlt).trans e1
  .rw[hb.block _ (Array.getElem?_eq_some_iff.1 hl).1];exact hl
  .rw[hb.block _ (Array.getElem?_eq_some_iff.1 hk).1];exact hk
 .rintro k A B ⟨c,H',β',hcc,hJ,Rk,hl,hk⟩ hb;refine⟨c,H',β',hcc,hJ,Rk.below hb,?_,?_⟩
  .rw[hb.block _ (Array.getElem?_eq_some_iff.1 hl).1];exact hl
  .rw[hb.block _ (Array.getElem?_eq_some_iff.1 hk).1];exact hk
 ·-- one round
  rintro k Wk hk ⟨⟨H',β',hI,Rk,hkept,hsub⟩,hl,hkk⟩;have hy:=run_yield (P:=P) (args:=encs k) hl (by rw[hrec];exact hes k);rw[hrec]at hy;refine⟨fn,_,assign,body,hy,roundIn_of_wpIn hfn ?_⟩;clear hy;have gk:dh w D Wk (DD H' β' D0):=⟨Nat.le_trans (by have:=(Array.getElem?_eq_some_iff.1 hkk).1;omega) (Nat.le_refl _),λb h1 h2=>hsub b h2 h1,hkept⟩;have b5E:=Ld (H:=H') (β:=β') ((show ∀{xs:List CV} {vs:List Value},eU w D xs vs->eU Wk (DD H' β' D0) xs vs from λh=>eU.mono gk h) (hcv k hk));have Yl:=QU ps.toList ((it k).map CV.av) (encs k).toList a.tmps f b5E (λp hp=>by rw[Rk.rV];exact hps p hp) Rk.tmps;rw[<-Ui]at Yl;have Ra:=Rk.enter (f0:=lays f ps.toList ((it k).map CV.av)) (a0:={ tmps:=(ps.zip (encs k)).foldl (λt (p,v)=>t.setIfInBounds p v) a.tmps,defers:=[] }) (Yl.1.trans Rk.rV) rfl Yl.2;refine wpIn_mono (hassign (w.heap.size+1) k H' _ _ _ _ _ _ hk hI Ra rfl) ?_;rintro e a1 w1 hq;cases e with
  |normal =>
   obtain⟨f1,H1,β1,hKA,Ra1⟩:=hq;have Rk1:=Rk.leave Ra1;have hl1:w1.heap[w.heap.size+1]?=some (.loop (rec .ready none)):=by
    rw[Ra1.keep _ (Array.getElem?_eq_some_iff.1 hl).1 (Rk.CP hl rfl)];exact hl
   have hk1:w1.heap[w.heap.size]?=some (.deferred (some [])):=by
    rw[Ra1.keep _ (Array.getElem?_eq_some_iff.1 hkk).1 (Rk.CP hkk rfl)];exact hkk
   refine⟨_,run_beginRound hl1 (by rw[hrec]),?_⟩;have hlt1:=(Array.getElem?_eq_some_iff.1 hl1).1;obtain⟨w2,hw2⟩:∃w2,w1.putObj (w.heap.size+1) (.loop { rec .ready none with state:=.busy })=w2:=⟨_,rfl⟩;have hl2:w2.heap[w.heap.size+1]?=some (.loop { rec .ready none with state:=.busy }):=by rw[<-hw2];exact World.putObj_heap_same hlt1
   have hk2:w2.heap[w.heap.size]?=some (.deferred (some [])):=by rw[<-hw2];exact(World.putObj_heap_other (by omega)).trans hk1
   have hoth:∀r,some (w.heap.size+1)=some r->∃o:Obj,w1.heap[r]?=some o/\o.isCells=false:=by rintro r ⟨⟩;exact⟨_,hl1,rfl⟩
   have hg2:w1.grownBy w2 (some (w.heap.size+1)):=by rw[<-hw2];exact grownBy_putObj' _ _ _
   have Rk2:Rel G M w0 D0 N f H1 β1 a w2:=Rk1.other hg2 (by rintro r ⟨⟩;exact⟨by have:=R.size;omega,⟨_,hl1,rfl⟩,by rw[hl1];simp⟩);have b5x:∀t,aG w2 (DD H1 β1 D0) H1 β1 (f1 t) (a1.tmps.getD t Go.undef):=λt=>aG.mono (dh.other _ hg2 hoth) (jV.refl _ _) _ _ (Ra1.tmps t)
   have Rb:=Rk2.enter Ra1.rV (Ra1.rnd rfl) b5x;rw[hw2];refine wpIn_mono (hbody (w.heap.size+1) k f1 H1 _ _ _ _ _ _ hk hKA Rb rfl) ?_
   have fin:∀(jump:Option Code) (f3:Fr) (H3:Hp) (β3:Nat->Value) (a3:Act) (w3:World),Rel (QZ f a G) (Mut H1 β1) w2 D0 N f3 H3 β3 a3 w3 ->
     ∃w4,(Instr.endRound (w.heap.size+1) jump).run P w3=.ok (.bool jump.isNone) w4/\Rel G M w0 D0 N f H3 β3 a w4/\w4.heap[w.heap.size+1]?=some (.loop (rec (if jump.isNone then .ready else .done) jump)) /\
      w4.heap[w.heap.size]?=some (.deferred (some []))/\Kept D w.heap.size Wk w4/\(∀b,DD H3 β3 D0 b->b<w.heap.size->D b):=by
    intro jump f3 H3 β3 a3 w3 R3;have hl3:w3.heap[w.heap.size+1]?=some (.loop { rec .ready none with state:=.busy }):=by
     rw[R3.keep _ (Array.getElem?_eq_some_iff.1 hl2).1 (Rk2.CP hl2 rfl)];exact hl2
    have hk3:w3.heap[w.heap.size]?=some (.deferred (some [])):=by
     rw[R3.keep _ (Array.getElem?_eq_some_iff.1 hk2).1 (Rk2.CP hk2 rfl)];exact hk2
    have hlt3:=(Array.getElem?_eq_some_iff.1 hl3).1;have Ro:=Rk2.leave R3;refine⟨_,run_endRound (P:=P) jump hl3,Ro.other (grownBy_putObj' _ _ _) (by rintro r ⟨⟩;exact⟨by have:=R.size;omega,⟨_,hl3,rfl⟩,by rw[hl3];simp⟩),?_,(World.putObj_heap_other (by omega)).trans hk3,?_,?_⟩
    .rw[World.putObj_heap_same hlt3,hrec]
    .intro b hb hnD hcells;rw[World.putObj_heap_other (by omega)];obtain⟨o,ho,hoc⟩:=hcells;have hbk:b<Wk.heap.size:=(Array.getElem?_eq_some_iff.1 ho).1;have m1:¬Mut H' β' b:=λhm=>hnD (hsub b (.inr hm) hb)
     have e1:w1.heap[b]?=Wk.heap[b]?:=Ra1.keep b hbk m1;have e2:w2.heap[b]?=w1.heap[b]?:=by rw[<-hw2];exact World.putObj_heap_other (by omega)
     have hb1:b<w1.heap.size:=(Array.getElem?_eq_some_iff.1 (e1.trans ho)).1;have hb2:b<w2.heap.size:=(Array.getElem?_eq_some_iff.1 (e2.trans (e1.trans ho))).1;have m2:¬Mut H1 β1 b:=λhm=>by
      rcases Rel.sub Ra1 (.inr hm) hbk with h|h
      .exact hnD (hsub b (.inl h) hb)
      .exact m1 h
     rw[R3.keep b hb2 m2,e2,e1]
    .intro b hdb hb;have hlt2:=(Array.getElem?_eq_some_iff.1 hk2).1;have h1:=Rel.sub R3 hdb (by omega);have hltk:=(Array.getElem?_eq_some_iff.1 hkk).1;have h2:=Rel.sub Ra1 h1 (by omega);exact hsub b h2 hb
   rintro e a3 w3 hq;cases e with
   |normal =>
    obtain⟨f3,H3,β3,hI3,R3⟩:=hq;obtain⟨w4,hr,R4,l4,k4,kk,b2A⟩:=fin none f3 H3 β3 a3 w3 R3;exact⟨_,_,hr,.inl ⟨rfl,⟨⟨H3,β3,hI3,R4,hkept.trans kk,b2A⟩,l4,k4⟩,kk⟩⟩
   |ret =>
    obtain⟨f3,H3,β3,hJ3,R3⟩:=hq;obtain⟨w4,hr,R4,l4,k4,kk,b2A⟩:=fin (some .ret) f3 H3 β3 a3 w3 R3;exact⟨_,_,hr,.inr ⟨rfl,_,H3,β3,.inl rfl,hJ3,R4,l4,k4⟩⟩
   |exit id =>
    obtain⟨f3,H3,β3,hJ3,R3⟩:=hq;obtain⟨w4,hr,R4,l4,k4,kk,b2A⟩:=fin (some (.exit id)) f3 H3 β3 a3 w3 R3;exact⟨_,_,hr,.inr ⟨rfl,_,H3,β3,.inr ⟨id,rfl⟩,hJ3,R4,l4,k4⟩⟩
   |goto t=>obtain⟨_,_,_,hh,_⟩:=hq;exact hh.elim
   |panic ch=>exact hq.elim
   |outgrown=>exact hq.elim
  |exit id=>obtain⟨_,_,_,hh,_⟩:=hq;exact hh.elim
  |goto t=>obtain⟨_,_,_,hh,_⟩:=hq;exact hh.elim
  |ret=>obtain⟨_,_,_,hh,_⟩:=hq;exact hh.elim
  |panic ch=>exact hq.elim
  |outgrown=>exact hq.elim
 ·-- the start
  refine⟨⟨_,β,h0,R1.below hB1,λb hb _ _=>hB1.block b hb,λb hb _=>by rw[<-hD];exact hb⟩,hL1,hK1⟩
 ·-- behind the iterator
  rintro e W2 ⟨⟨v,rfl⟩,(⟨⟨H',β',hI,Rk,_,_⟩,hl,hk⟩|⟨_,c,H',β',hcc,hJ,Rk,hl,hk⟩)⟩
  .have hlt:=(Array.getElem?_eq_some_iff.1 hl).1;refine⟨none,_,by have:=run_endLoop (P:=P) hl (by rw[hrec];simp);rw[hrec]at this;exact this,?_⟩;refine hdone H' β' _ _ hI (Rel.mark (Rk.other (grownBy_putObj' _ _ _) (by rintro r ⟨⟩;exact⟨by have:=R.size;omega,⟨_,hl,rfl⟩,by rw[hl];simp⟩)) R.size ((World.putObj_heap_other (by omega)).trans hk) hrnd hfresh)
  .refine⟨some c,_,by have:=run_endLoop (P:=P) hl (by rw[hrec];simp);rw[hrec]at this;exact this,?_⟩;have Rm:=Rel.mark (Rk.other (grownBy_putObj' W2 (w.heap.size+1) (.loop { rec .done (some c) with state:=.exhausted })) (by rintro r ⟨⟩;exact⟨by have:=R.size;omega,⟨_,hl,rfl⟩,by rw[hl];simp⟩)) R.size ((World.putObj_heap_other (by omega)).trans hk) hrnd hfresh;rw[hrec]at Rm;rcases hcc with rfl|⟨id,rfl⟩
   .exact wpIn_ret (hret H' β' _ _ hJ Rm)
   .exact wpIn_exit (a7s id H' β' _ _ hJ Rm)
end
end Go.AL
