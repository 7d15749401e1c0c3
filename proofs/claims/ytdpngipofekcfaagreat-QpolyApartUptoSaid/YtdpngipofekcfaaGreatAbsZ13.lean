/-
 Contracts of the functions that the law reaches.
-/
import Derived.Test.YtdpngipofekcfaaGreatAbsZ9M
namespace Go.AL
variable {zi:Zi}
open Go.RowKit
set_option linter.unusedSimpArgs false
set_option linter.unusedVariables false
abbrev G0:Gh:=⟨fun _ _=>False,true⟩
abbrev M0:Nat→Prop:=fun _=>False
def SV (P:Program)(L N:Nat)(c:Code)(Q:PostB)(f:Fr)(H:Hp)(β:Nat→Value):Prop :=
 ∀ (w0:World) (D0:Nat→Prop) (a:Act) (w:World),w0.heap.size≤L→Rel G0 M0 w0 D0 N f H β a w→c.wpIn (Wd none) 0 P (a5M G0 M0 w0 D0 N Q) a w
section
variable {P:Program} {L N:Nat} {Q:PostB} {f:Fr} {H:Hp} {β:Nat→Value}
theorem SV.aw (zx:Zi)(hm:P.follows .mixedOrders=true){c:Code}(hn:dF c=true)(hd:codeOk N c=true){Qa:Post}(h : @AW zx P c Qa f H)(hq:∀ e f' H' β',Qa e f' H'→qY H β H' β'→Q e f' H' β'):SV P L N c Q f H β:=fun w0 D0 a w hL R =>
 wpIn_mono (dN (zi:=zx) hm c none _ _ w0 Qa f H β a w (.inl hn) hd h R.Ap) fun e a w hc=>by
  cases e with
  | panic _=>exact hc.elim
  | outgrown=>exact hc.elim
  | normal=>obtain⟨f',H',β',hk,R'⟩:=hc;obtain⟨s,R'⟩:=R'.yF;exact⟨f',H',β',hq _ _ _ _ hk s,R'⟩
  | exit id=>obtain⟨f',H',β',hk,R'⟩:=hc;obtain⟨s,R'⟩:=R'.yF;exact⟨f',H',β',hq _ _ _ _ hk s,R'⟩
  | ret=>obtain⟨f',H',β',hk,R'⟩:=hc;obtain⟨s,R'⟩:=R'.yF;exact⟨f',H',β',hq _ _ _ _ hk s,R'⟩
  | goto l=>obtain⟨f',H',β',hk,R'⟩:=hc;obtain⟨s,R'⟩:=R'.yF;exact⟨f',H',β',hq _ _ _ _ hk s,R'⟩
theorem SV.ent {c:Code}(he:∀ (w0:World) (D0:Nat→Prop) (a:Act) (w:World),w0.heap.size≤L→Rel G0 M0 w0 D0 N f H β a w→∃ f' H' β',SV P L N c Q f' H' β'∧Rel G0 M0 w0 D0 N f' H' β' a w):SV P L N c Q f H β:=fun w0 D0 a w hL R=>by
 obtain⟨f',H',β',hs,R'⟩:=he w0 D0 a w hL R;exact hs w0 D0 a w hL R'
theorem SV.weak {c:Code}{f':Fr}{H':Hp}(k:Weak f H f' H')(h:∀ β',qY H β H' β'→SV P L N c Q f' H' β'):SV P L N c Q f H β:=fun w0 D0 a w hL R=>by
 obtain⟨β',R'⟩:=R.Ap.weak k;obtain⟨s,R'⟩:=R'.yF;exact h β' s w0 D0 a w hL R'
theorem SV.seq {x y:Code}{S:Fr→Hp→(Nat→Value)→Prop}(hx:SV P L N x (a9N S Q) f H β)(hy:∀ f H β,S f H β→SV P L N y Q f H β):SV P L N (.seq x y) Q f H β:=fun w0 D0 a w hL R=>by
 refine wpIn_seq (wpIn_mono (hx w0 D0 a w hL R) fun e a w hq=>?_);cases e with
 | normal=>obtain⟨f,H,β,hk,R⟩:=hq;exact hy f H β hk w0 D0 a w hL R
 | panic _=>exact hq.elim
 | outgrown=>exact hq.elim
 | exit id=>obtain⟨f,H,β,hk,R⟩:=hq;exact⟨f,H,β,hk,R⟩
 | ret=>obtain⟨f,H,β,hk,R⟩:=hq;exact⟨f,H,β,hk,R⟩
 | goto l=>obtain⟨f,H,β,hk,R⟩:=hq;exact⟨f,H,β,hk,R⟩
theorem SV.mono {c:Code}{Q':PostB}(h:SV P L N c Q f H β)(hq:∀ e f H β,Q e f H β→Q' e f H β):SV P L N c Q' f H β:=fun w0 D0 a w hL R=>wpIn_mono (h w0 D0 a w hL R) fun e a w hq'=>by
 cases e with
 | panic _=>exact hq'.elim
 | outgrown=>exact hq'.elim
 | normal=>obtain⟨f,H,β,hk,R⟩:=hq';exact⟨f,H,β,hq _ _ _ _ hk,R⟩
 | exit id=>obtain⟨f,H,β,hk,R⟩:=hq';exact⟨f,H,β,hq _ _ _ _ hk,R⟩
 | ret=>obtain⟨f,H,β,hk,R⟩:=hq';exact⟨f,H,β,hq _ _ _ _ hk,R⟩
 | goto l=>obtain⟨f,H,β,hk,R⟩:=hq';exact⟨f,H,β,hq _ _ _ _ hk,R⟩
theorem SV.skip (h:Q .normal f H β):SV P L N .skip Q f H β:=fun w0 D0 a w hL R=>wpIn_skip ⟨f,H,β,h,R⟩
theorem SV.seg (zx:Zi)(hm:P.follows .mixedOrders=true){S:Fr→Hp→Prop}:∀ (n:Nat) {c d:Code} {f:Fr} {H:Hp} {β:Nat→Value},dF c=true→codeOk N c=true→@AWs zx P S n c (fun _ _ _=>False) f H→kQ n c=some d→(∀ f' H' β',S f' H'→qY H β H' β'→SV P L N d Q f' H' β')→SV P L N c Q f H β:=by
 intro n;have key:∀ (n:Nat) {c d:Code} {f:Fr} {H:Hp} {β:Nat→Value} {G:Gh} {M:Nat→Prop} {w0:World} {D0:Nat→Prop} {K:Exit→Act→World→Prop} {a:Act} {w:World},dF c=true→codeOk N c=true→@AWs zx P S n c (fun _ _ _=>False) f H→kQ n c=some d→Rel G M w0 D0 N f H β a w→(∀ f H β a w,S f H→Rel G M w0 D0 N f H β a w→d.wpIn (Wd none) 0 P K a w)→c.wpIn (Wd none) 0 P K a w:=by
  intro n c d f H β G M w0 D0 K a w hn hd h hc R hk;refine xO (zi:=zx) hm n c _ f H β a w (.inl hn) hd h R (fun f H β a w hs R=>?_) fun e a w _ hq=>?_
  ·rw[IG hc];exact hk f H β a w hs R
  ·cases e with
   | panic _=>exact hq.elim
   | outgrown=>exact hq.elim
   | normal=>obtain⟨_,_,_,hk,_⟩:=hq;exact hk.elim
   | ret=>obtain⟨_,_,_,hk,_⟩:=hq;exact hk.elim
   | exit id=>obtain⟨_,_,_,hk,_⟩:=hq;exact hk.elim
   | goto l=>obtain⟨_,_,_,hk,_⟩:=hq;exact hk.elim
 intro c d f H β hn hd h hc hy w0 D0 a w hL R;refine key n hn hd h hc R.Ap fun f' H' β' a w hs R'=>?_;obtain⟨s,R'⟩:=R'.yF;exact hy f' H' β' hs s w0 D0 a w hL R'
theorem SV.cond {c:Operand}{x y:Code}{b:Bool}(hb:ev f c=.iv (.bool b))(h1:b=true→SV P L N x Q f H β)(h2:b=false→SV P L N y Q f H β):SV P L N (.cond c x y) Q f H β:=fun w0 D0 a w hL R=>by
 have hc:=R.ev c;rw[hb]at hc;simp only[aj]at hc;generalize hv:a.eval c=v at hc;cases hc;exact wpIn_cond_split hv (fun ht=>h1 ht w0 D0 a w hL R) (fun hf=>h2 hf w0 D0 a w hL R)
theorem SV.block {id:Nat}{c:Code}(h:SV P L N c (Ti id Q) f H β):SV P L N (.block id c) Q f H β:=fun w0 D0 a w hL R=>by
 refine wpIn_block (wpIn_mono (h w0 D0 a w hL R) fun e a w hq=>?_);cases e with
 | exit id' =>
  obtain⟨f,H,β,hk,R⟩:=hq;simp only[Ti]at hk;simp only[Exit.inBlock];split at hk
  ·rename_i hid;rw[if_pos hid];exact⟨f,H,β,hk,R⟩
  ·rename_i hid;rw[if_neg hid];exact⟨f,H,β,hk,R⟩
 | panic _=>exact hq.elim
 | outgrown=>exact hq.elim
 | _=>exact hq
theorem SV.exit {id:Nat}(h:Q (.exit id) f H β):SV P L N (.exit id) Q f H β:=fun w0 D0 a w hL R=>wpIn_exit ⟨f,H,β,h,R⟩
theorem SV.loop {c:Code}(I:Fr→Hp→(Nat→Value)→Prop)(μ:Fr→Nat)(h0:I f H β)(hr:∀ f H β,I f H β→SV P L N c (a7D I μ (μ f) Q) f H β):SV P L N (.loop c) Q f H β:=fun w0 D0 a w hL R=>by
 refine qh (fun n a w=>∃ f H β,I f H β∧Rel G0 M0 w0 D0 N f H β a w∧μ f=n) ?_ (m:=μ f) ⟨f,H,β,h0,R,rfl⟩;rintro n a w ⟨f,H,β,hI,R,rfl⟩;refine wpIn_mono (hr f H β hI w0 D0 a w hL R) fun e a w hq=>?_;cases e with
 | normal=>obtain⟨f',H',β',hk,R'⟩:=hq;exact⟨_,hk.2,f',H',β',hk.1,R',rfl⟩
 | panic _=>exact hq.elim
 | outgrown=>exact hq.elim
 | _=>exact hq
theorem AC.a9h {g : Nat} {args : List CV} {res : List CV} (hm : P.follows .mixedOrders = true) {fn : Func} {body : Code} {rs : List ResultVar} (hf : P.funcs[g]? = some fn) (hb : fn.body = some body) (hr : fn.results.toList = rs) (hn : (fn.name == "runtime.NumGoroutine") = false)
  (hd:codeOk fn.ntmps body=true) (hnr:dF body=true) (hargs:Nat.ble args.length fn.ntmps=true)
  (h:∀ B β,SV P B fn.ntmps body (fun e f H _=>@Zc zi P rs none res e f H) (iQ args) (iP B) β):AC P g args none res:=by
 refine AC.a5v (zi:=zi) hm hf hb hr hn hd hnr hargs 0 (fun B f H=>f=iQ args∧H=iP B) (fun B=>⟨rfl,rfl⟩) fun w D f H β a w' hS R=>?_;obtain⟨rfl,rfl⟩:=hS;rw[MW hf hb];refine wpIn_mono (h w.heap.size β w D a w' (Nat.le_refl _) R) fun e a w' hq=>?_;cases e with
 | panic _=>exact hq.elim
 | outgrown=>exact hq.elim
 | normal=>obtain⟨f,H,β,hk,R⟩:=hq;exact⟨f,H,β,hk,Rel.EJ (G:=⟨fun _ _=>False,true⟩) R⟩
 | exit id=>obtain⟨f,H,β,hk,R⟩:=hq;exact⟨f,H,β,hk,Rel.EJ (G:=⟨fun _ _=>False,true⟩) R⟩
 | ret=>obtain⟨f,H,β,hk,R⟩:=hq;exact⟨f,H,β,hk,Rel.EJ (G:=⟨fun _ _=>False,true⟩) R⟩
 | goto l=>obtain⟨f,H,β,hk,R⟩:=hq;exact⟨f,H,β,hk,Rel.EJ (G:=⟨fun _ _=>False,true⟩) R⟩
end
end Go.AL
