/-
 Contracts of the functions that the law reaches.
-/
import Derived.Test.YtnjaeokkfbihlaaGreatAbsPM
namespace Go.AL
variable {zi:Zi}
open Go.RowKit
set_option linter.unusedSimpArgs false
set_option linter.unusedVariables false
section
variable {G:Gh} {M:Nat->Prop} {w0:World} {D0:Nat->Prop} {N:Nat} {P:Program}
def codeDrop:Nat->Code->Code
 |0,c=>c
 |n+1,.seq _ y=>codeDrop n y
 |_+1,c=>c
def AWs [Zi] (P:Program)(S:Fr->Hp->Prop):Nat->Code->Post->Fr->Hp->Prop
 |0,_,_,f,H=>S f H
 |n+1,.seq x y,Q,f,H=>AW P x (SeqQ (AWs P S n y Q) Q) f H
 |_,_,_,_,_=>False
@[congr] theorem AWs_congr {S:Fr->Hp->Prop} {n:Nat} {c:Code} {Q:Post} {f f':Fr} {H H':Hp} (hf:f=f') (hH:H=H'):AWs P S n c Q f H=AWs P S n c Q f' H':=by rw[hf,hH]
theorem aws_sound (hm:P.follows .mixedOrders=true){S:Fr->Hp->Prop}{K:Exit->Act->World->Prop}:∀(n:Nat) (c:Code) (Q:Post) (f:Fr) (H:Hp) (β:Nat->Value) (a:Act) (w:World),(noRange c=true\/G.rnd=false)->codeOk N c=true->AWs P S n c Q f H->Rel G M w0 D0 N f H β a w ->
  (∀f H β a w,S f H->Rel G M w0 D0 N f H β a w->(codeDrop n c).wpIn (Wd none) 0 P K a w)->(∀e a w,e≠.normal->Conc G M w0 D0 N Q e a w->K e a w)->c.wpIn (Wd none) 0 P K a w
 |0,c,Q,f,H,β,a,w,hr,hd,h,R,hS,hQ=>hS f H β a w h R
 |n+1,.seq x y,Q,f,H,β,a,w,hr,hd,h,R,hS,hQ=>by
  simp only[codeOk,Bool.and_eq_true]at hd;have hr':(noRange x=true\/G.rnd=false)/\(noRange y=true\/G.rnd=false):=by
   rcases hr with hr|hr
   .simp only[noRange,Bool.and_eq_true]at hr;exact⟨.inl hr.1,.inl hr.2⟩
   .exact⟨.inr hr,.inr hr⟩
  refine wpIn_seq (wpIn_mono (aw_sound hm x none G M w0 _ f H β a w (hr'.1.imp id λh=>⟨rfl,h⟩) hd.1 h R) λe a w hq=>?_);cases e with
  |normal=>obtain⟨f,H,β,hk,R⟩:=hq;exact aws_sound hm n y Q f H β a w hr'.2 hd.2 hk R hS hQ
  |panic _=>exact hq.elim
  |outgrown=>exact hq.elim
  |exit id=>obtain⟨f,H,β,hk,R⟩:=hq;exact hQ _ _ _ (by simp) ⟨f,H,β,hk,R⟩
  |ret=>obtain⟨f,H,β,hk,R⟩:=hq;exact hQ _ _ _ (by simp) ⟨f,H,β,hk,R⟩
  |goto l=>obtain⟨f,H,β,hk,R⟩:=hq;exact hQ _ _ _ (by simp) ⟨f,H,β,hk,R⟩
 |n+1,.skip,Q,f,H,β,a,w,hr,hd,h,R,hS,hQ=>h.elim
theorem Rep.fresh {w:World}{D:Nat->Prop}{x:IV}{v:Value}(h:Rep w D x v):Rep w (λb=>D b\/w.heap.size<=b) x v :=
 h.mono ⟨Nat.le_refl _,λb hb h=>h.elim id λh=>absurd h (by omega),λ_ _ _ _=>rfl⟩
end
end Go.AL

namespace Go.AL
variable {zi:Zi}
open Go.RowKit
set_option linter.unusedSimpArgs false
set_option linter.unusedVariables false
inductive Full:IV->Prop
 |int (k:IntKind) (n:Int):Full (.int k n)
 |bool (b:Bool):Full (.bool b)
 |raw (v:Value):Full (.raw v)
 |nil:Full (.sl [])
 |own (b:Option (Nat×Nat)) (e sz:Nat) (rows:List (List IV)) (h:∀r∈rows,∀x∈r,Full x):Full (.own b e sz rows)
section
variable {G:Gh} {M:Nat->Prop} {w0:World} {D0:Nat->Prop} {N:Nat} {P:Program} {f:Fr} {H:Hp} {β:Nat->Value} {a:Act} {w:World}
theorem Rel.jump (R:Rel G M w0 D0 N f H β a w)(hG:∀x v,¬G.vals x v){f':Fr}{H':Hp}{β':Nat->Value}{a':Act}{w':World}(hos:w'.os=w.os)(htape:w'.tape=w.tape)(hout:w'.output=w.output)(hsz:w.heap.size<=w'.heap.size)
  (hk:∀k,k<w0.heap.size->¬M k->w'.heap[k]?=w.heap[k]?) (hts:a'.tmps.size=N) (hdf:a'.defers=[])
  (htm:∀t,AVRep w' (DD H' β' D0) H' β' (f' t) (a'.tmps.getD t Go.undef))
  (hown:∀h st e sz rows,H' h=.blk false st e sz rows->Own w' (DD H' β' D0) w0.heap.size M (β' h) e sz rows)
  (hfz:∀h st e sz rows,H' h≠.blk true st e sz rows)
  (hdis:∀h h',h≠h'->(H' h).isMut->(H' h').isMut->∀g,headOf (β' h)=some g->headOf (β' h')≠some g)
  (hnst:∀h st e rows,H' h=.nst st e rows->OwnN w' (DD H' β' D0) H' β' w0.heap.size M (β' h) e rows)
  (hmrk:∀h B,H' h=.mrk B->B<=w'.heap.size) (htie:∀h x v,H' h=.tie x v->AVRep w' (DD H' β' D0) H' β' x v):Rel G M w0 D0 N f' H' β' a' w' :=
 ⟨hos.trans R.os,htape.trans R.tape,hout.trans R.output,Nat.le_trans R.size hsz,λk h1 h2=>(hk k h1 h2).trans (R.keep k h1 h2),R.old,hts,λd hd=>(by rw[hdf]at hd;cases hd),λ_=>hdf,(by rw[hdf];exact List.nodup_nil),λx v h=>(hG x v h).elim,htm,hown,λh st e sz rows hh=>(hfz h st e sz rows hh).elim,hdis,hnst,hmrk,htie⟩
theorem Reps.avs {w:World}{D X:Nat->Prop}:∀{xs:List IV} {vs:List Value},Reps w (λb=>D b\/X b) xs vs->Reps w D (xs.map (.av X)) vs
 |[],[],_=>trivial
 |x::xs,v::vs,h=>⟨.av _ _ _ h.1,h.2.avs⟩
 |[],_::_,h=>h.elim
 |_::_,[],h=>h.elim
theorem CallsR.mono {g:Nat}{vs:List Value}{R R':Value->World->Prop}(h:CallsR P g vs w R)(hr:∀v w',R v w'->R' v w'):CallsR P g vs w R':=by
 rcases h with ⟨fn,h1,h2,h3,h4⟩|⟨v,w',h1,h2⟩
 .exact .inl ⟨fn,h1,h2,h3,h4.mono λe w' ⟨v,he,hv⟩=>⟨v,he,hr v w' hv⟩⟩
 .exact .inr ⟨v,w',h1,hr v w' h2⟩
end
end Go.AL
