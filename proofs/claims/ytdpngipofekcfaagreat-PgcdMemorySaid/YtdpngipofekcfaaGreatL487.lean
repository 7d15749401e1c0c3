/-
 The law holds at every input: the last step of its proof.
-/
import Derived.Test.YtdpngipofekcfaaGreatAbsK
import Derived.Test.YtdpngipofekcfaaGreatL476M
import Derived.Test.YtdpngipofekcfaaGreatAbsS
import Derived.Test.YtdpngipofekcfaaGreatRows
set_option maxHeartbeats 2000000
namespace Go.Proofs.YtdpngipofekcfaaGreat.pgcdMemoryDone
open Go Go.Proofs Go.AL Go.Proofs.YtdpngipofekcfaaGreat
open Go.ChangeShapes Go.WideShapes Go.ChangeAt Go.RowKit
set_option linter.unusedVariables false
theorem own:ownKnob Tryz.prog.godebug=none:=by kernel_rfl
theorem laidOut:laidOutB Tryz.prog=true:=by kernel_rfl
theorem b7S (w:World):Reads Tryz.prog w jy (Sz 9223372036854775807) 30:=a0v Tryz.underlying30 Tryz.underlying4 Tryz.underlying28 Tryz.underlying148 (by kernel_rfl) (by kernel_rfl) (by kernel_rfl) (by kernel_rfl)
theorem b5N (w:World):Reads Tryz.prog w (λp:List RI=>[.sl (bZ p)]) Raw 50 :=
 λenc sp held fuel cs x h=>uJ (f:=jy) (sz:=2) Tryz.underlying50 (by kernel_rfl) (λ_=>rfl) (by omega) (b7S w) enc sp held fuel cs x h
theorem b9y (w:World):Reads Tryz.prog w (λp:List (List RI)=>[.sl (gI p)]) b2D 82 :=
 λenc sp held fuel cs x h=>uJ (f:=λl:List RI=>[.sl (bZ l)]) (sz:=1) Tryz.underlying82 (by kernel_rfl) (λ_=>rfl) (by omega) (b5N w) enc sp held fuel cs x h
theorem b9A (w:World):Reads Tryz.prog w (λl:List Nat=>[.sl (dh l)]) (Nt 9223372036854775807) 28:=OL Tryz.underlying28 Tryz.underlying148 (by kernel_rfl)
theorem b9z (w:World):Reads Tryz.prog w pW (SzQ 9223372036854775807) 32 :=
 a0u (DW (tot:=3) Tryz.underlying32 (by kernel_rfl) (jK (tot:=3) (off:=0) (s:=2) (b7S w) (by kernel_rfl) (jK (tot:=3) (off:=2) (s:=1) (b9A w) (by kernel_rfl) KI)))
theorem b7T (w:World):Reads Tryz.prog w (λp:List RQ=>[.sl (dN p)]) YS 23 :=
 λenc sp held fuel cs x h=>uJ (f:=pW) (sz:=3) Tryz.underlying23 (by kernel_rfl) (λ_=>rfl) (by omega) (b9z w) enc sp held fuel cs x h
theorem b6O (w:World):Reads Tryz.prog w (λc:(List RI×(List RI×(List RI×(List (List RI)×(List RQ×(List RQ×Unit))))))=>([.sl (bZ c.1)]++([.sl (bZ c.2.1)]++([.sl (bZ c.2.2.1)]++([.sl (gI c.2.2.2.1)]++([.sl (dN c.2.2.2.2.1)]++([.sl (dN c.2.2.2.2.2.1)]++[]))))))) (λc=>(Raw c.1/\(Raw c.2.1/\(Raw c.2.2.1/\(b2D c.2.2.2.1/\(YS c.2.2.2.2.1/\(YS c.2.2.2.2.2.1/\True))))))) 113:=DW (tot:=6) Tryz.underlying113 (by kernel_rfl) (jK (tot:=6) (off:=0) (s:=1) (b5N w) (by kernel_rfl) (jK (tot:=6) (off:=1) (s:=1) (b5N w) (by kernel_rfl) (jK (tot:=6) (off:=2) (s:=1) (b5N w) (by kernel_rfl) (jK (tot:=6) (off:=3) (s:=1) (b9y w) (by kernel_rfl) (jK (tot:=6) (off:=4) (s:=1) (b7T w) (by kernel_rfl) (jK (tot:=6) (off:=5) (s:=1) (b7T w) (by kernel_rfl) KI))))))
set_option maxRecDepth 100000 in
theorem lifted (os:Os)(started:os.Started)(H:Type)(enc:TypeId×Value->H) :
  ReturnsInHanded {} Tryz.checked os 5 .any (Rows.pgcdMemorySpec.pre6 enc Tryz.prog Tryz.f5 Rows.pgcdMemoryRow.domain false) (Rows.pgcdMemorySpec.post enc Tryz.prog Tryz.f5 false true false false):=by
 refine returnsInHanded_of_change (C:=Tryz.checked) own started (by kernel_rfl) zfN
  (ChangeSpec.witness6 (enc:=enc) (C:=Tryz.checked) false ⟨#[],#[.agg #[.slice none 0 0,.slice none 0 0,.slice none 0 0,.slice none 0 0,.slice none 0 0,.slice none 0 0]],[]⟩ 8 (by kernel_rfl) (by kernel_rfl) (by kernel_rfl) (by kernel_rfl)) ?_
 intro W base args ds gs before hval0 hW hcnd _;have hval:∀(j:Nat) t v,Tryz.f5.params[j]?=some t->args[j]?=some v->Value.okWide Tryz.prog W .any base t v:=hval0;have hW':=hW;obtain⟨p,q,hA0,hV,rfl,hfz,hnd⟩:=hW;have hA:DataW.TrodAll enc Tryz.prog W 0 (λ_=>true) true Tryz.f5.params.toList args.toList ds p:=hA0;rw[Tryz.params5]at hA hval;obtain⟨v0,vs0,d0,ds0,p0,q0,hargs,rfl,rfl,h0,r0⟩:=trodAll_cons hA;obtain⟨rfl,rfl,rfl⟩:=trodAll_nil r0;obtain rfl:args = #[v0]:=by cases args;simp_all
 obtain⟨rfl,rfl⟩:=trodVars_none hV;have k0:=h0;have lt0:∀x∈p0,x.block<W.heap.size:=by obtain⟨m,hm⟩:=k0;exact DataW.trod_lt m _ _ _ hm
 obtain⟨b0,rfl,_⟩:=okWide_struct Tryz.underlying113 (hval 0 113 v0 rfl rfl);obtain⟨n0,h0⟩:=h0;obtain⟨a0,f0,e0⟩:=b6O W enc _ _ _ _ _ h0;clear hA0 hval0;refine(AC.law (MW a0.1 a0.2.1 a0.2.2.1 a0.2.2.2.1 a0.2.2.2.2.1 a0.2.2.2.2.2.1 f0.1 f0.2.1 f0.2.2.1 f0.2.2.2.1 f0.2.2.2.2.1 f0.2.2.2.2.2.1) zfN (by kernel_rfl) (by kernel_rfl) [.agg b0] ⟨⟨_,rfl,e0⟩,zar⟩).mono λe W' ⟨he,bel⟩=>?_;subst he;exact⟨_,rfl,_,_,_,[],_,[],hW',trodAll_mk1 (shut_bool Tryz.underlying4 _),(trodAll_cons_mk (Below.trod laidOut (by kernel_rfl) (zfG (by kernel_rfl)) k0 bel lt0) trodAll_mk0),rfl,bel.frame _,λh=>by cases h⟩
theorem over:Rows.pgcdMemoryRow.holds Tryz.pinned (OpenSpec.ofChange Rows.pgcdMemorySpec) :=
 OpenClaim.holds_of_wide 5 Tryz.f5 rfl rfl rfl rfl rfl rfl rfl ⟨rfl,rfl,rfl,rfl,rfl⟩ rfl rfl rfl rfl rfl (by kernel_rfl) zfN (by kernel_rfl)
  (zfG (by kernel_rfl)) (by unfold Func.isWrapper;first|(rw[zas (by decide +kernel)];kernel_rfl)|(rw[zam (by decide +kernel)];exact⟨rfl,rfl⟩))
  (λos started H enc _=>lifted os started H enc)
theorem proved:Rows.PgcdMemorySaid:=over
#print axioms proved
end Go.Proofs.YtdpngipofekcfaaGreat.pgcdMemoryDone
