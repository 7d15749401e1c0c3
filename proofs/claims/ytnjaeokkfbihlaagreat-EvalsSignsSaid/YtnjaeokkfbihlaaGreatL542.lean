/-
 The law holds at every input: the last step of its proof.
-/
import Derived.Test.YtnjaeokkfbihlaaGreatL104M
import Derived.Test.YtnjaeokkfbihlaaGreatAbsS
import Derived.Test.YtnjaeokkfbihlaaGreatRows
set_option maxHeartbeats 2000000
namespace Go.Proofs.YtnjaeokkfbihlaaGreat.evalsSignsDone
open Go Go.Proofs Go.AL Go.Proofs.YtnjaeokkfbihlaaGreat
open Go.ChangeShapes Go.WideShapes Go.ChangeAt Go.RowKit
set_option linter.unusedVariables false
theorem own:ownKnob Tryz.prog.godebug=none:=by kernel_rfl
theorem laidOut:laidOutB Tryz.prog=true:=by kernel_rfl
theorem rd29 (w:World):Reads Tryz.prog w prow (Sz 9223372036854775807) 29:=reads_int Tryz.underlying29 Tryz.underlying4 Tryz.underlying27 Tryz.underlying92 (by kernel_rfl) (by kernel_rfl) (by kernel_rfl) (by kernel_rfl)
theorem rd23 (w:World):Reads Tryz.prog w (λp:List RI=>[.sl (raws p)]) Raw 23 :=
 λenc sp held fuel cs x h=>reads_slice (f:=prow) (sz:=2) Tryz.underlying23 (by kernel_rfl) (λ_=>rfl) (by omega) (rd29 w) enc sp held fuel cs x h
theorem rd27 (w:World):Reads Tryz.prog w (λl:List Nat=>[.sl (lims l)]) (Nt 9223372036854775807) 27:=reads_nat Tryz.underlying27 Tryz.underlying92 (by kernel_rfl)
theorem rd31 (w:World):Reads Tryz.prog w qrow (SzQ 9223372036854775807) 31 :=
 reads_rat (reads_struct (tot:=3) Tryz.underlying31 (by kernel_rfl) (fields_cons (tot:=3) (off:=0) (s:=2) (rd29 w) (by kernel_rfl) (fields_cons (tot:=3) (off:=2) (s:=1) (rd27 w) (by kernel_rfl) fields_nil)))
theorem rd25 (w:World):Reads Tryz.prog w (λp:List RQ=>[.sl (rats p)]) RawQ 25 :=
 λenc sp held fuel cs x h=>reads_slice (f:=qrow) (sz:=3) Tryz.underlying25 (by kernel_rfl) (λ_=>rfl) (by omega) (rd31 w) enc sp held fuel cs x h
theorem rd3 (w:World):Reads Tryz.prog w (λx:Int=>[.int .i64 x]) (λx=>-9223372036854775808<=x/\x<=9223372036854775807) 3:=reads_i64 Tryz.underlying3
theorem rd33 (w:World):Reads Tryz.prog w (λc:(List RI×(List RI×(List RQ×(List RQ×(RI×(RI×(RQ×(RQ×(Int×Unit)))))))))=>([.sl (raws c.1)]++([.sl (raws c.2.1)]++([.sl (rats c.2.2.1)]++([.sl (rats c.2.2.2.1)]++(prow c.2.2.2.2.1++(prow c.2.2.2.2.2.1++(qrow c.2.2.2.2.2.2.1++(qrow c.2.2.2.2.2.2.2.1++([.int .i64 c.2.2.2.2.2.2.2.2.1]++[])))))))))) (λc=>(Raw c.1/\(Raw c.2.1/\(RawQ c.2.2.1/\(RawQ c.2.2.2.1/\(Sz 9223372036854775807 c.2.2.2.2.1/\(Sz 9223372036854775807 c.2.2.2.2.2.1/\(SzQ 9223372036854775807 c.2.2.2.2.2.2.1/\(SzQ 9223372036854775807 c.2.2.2.2.2.2.2.1/\((-9223372036854775808<=c.2.2.2.2.2.2.2.2.1/\c.2.2.2.2.2.2.2.2.1<=9223372036854775807)/\True)))))))))) 33:=reads_struct (tot:=15) Tryz.underlying33 (by kernel_rfl) (fields_cons (tot:=15) (off:=0) (s:=1) (rd23 w) (by kernel_rfl) (fields_cons (tot:=15) (off:=1) (s:=1) (rd23 w) (by kernel_rfl) (fields_cons (tot:=15) (off:=2) (s:=1) (rd25 w) (by kernel_rfl) (fields_cons (tot:=15) (off:=3) (s:=1) (rd25 w) (by kernel_rfl) (fields_cons (tot:=15) (off:=4) (s:=2) (rd29 w) (by kernel_rfl) (fields_cons (tot:=15) (off:=6) (s:=2) (rd29 w) (by kernel_rfl) (fields_cons (tot:=15) (off:=8) (s:=3) (rd31 w) (by kernel_rfl) (fields_cons (tot:=15) (off:=11) (s:=3) (rd31 w) (by kernel_rfl) (fields_cons (tot:=15) (off:=14) (s:=1) (rd3 w) (by kernel_rfl) fields_nil)))))))))
theorem rd4 (w:World):Reads Tryz.prog w (λx:Bool=>[.bool x]) (λ_=>True) 4:=reads_bool Tryz.underlying4
set_option maxRecDepth 100000 in
theorem lifted (os:Os)(started:os.Started)(H:Type)(enc:TypeId×Value->H) :
  ReturnsInHanded {} Tryz.checked os 3 .any (Rows.evalsSignsSpec.pre6 enc Tryz.prog Tryz.f3 Rows.evalsSignsRow.domain false) (Rows.evalsSignsSpec.post enc Tryz.prog Tryz.f3 false true false false):=by
 refine returnsInHanded_of_change (C:=Tryz.checked) own started (by kernel_rfl) Tryz.func3
  (ChangeSpec.witness6 (enc:=enc) (C:=Tryz.checked) false ⟨#[],#[.agg #[.slice none 0 0,.slice none 0 0,.slice none 0 0,.slice none 0 0,.bool false,.slice none 0 0,.bool false,.slice none 0 0,.bool false,.slice none 0 0,.slice none 0 0,.bool false,.slice none 0 0,.slice none 0 0,.int .i64 0],.bool false],[]⟩ 8 (by kernel_rfl) (by kernel_rfl) (by kernel_rfl) (by kernel_rfl)) ?_
 intro W base args ds gs before hval0 hW hcnd _;have hval:∀(j:Nat) t v,Tryz.f3.params[j]?=some t->args[j]?=some v->Value.okWide Tryz.prog W .any base t v:=hval0;have hW':=hW;obtain⟨p,q,hA0,hV,rfl,hfz,hnd⟩:=hW;have hA:DataW.TrodAll enc Tryz.prog W 0 (λ_=>true) true Tryz.f3.params.toList args.toList ds p:=hA0;rw[Tryz.params3]at hA hval;obtain⟨v0,vs0,d0,ds0,p0,q0,hargs,rfl,rfl,h0,r0⟩:=trodAll_cons hA;obtain⟨v1,vs1,d1,ds1,p1,q1,rfl,rfl,rfl,h1,r1⟩:=trodAll_cons r0;obtain⟨rfl,rfl,rfl⟩:=trodAll_nil r1;obtain rfl:args = #[v0,v1]:=by cases args;simp_all
 obtain⟨rfl,rfl⟩:=trodVars_none hV;have k0:=h0;have k1:=h1;have lt0:∀x∈p0,x.block<W.heap.size:=by obtain⟨m,hm⟩:=k0;exact DataW.trod_lt m _ _ _ hm
 have lt1:∀x∈p1,x.block<W.heap.size:=by obtain⟨m,hm⟩:=k1;exact DataW.trod_lt m _ _ _ hm
 obtain⟨b0,rfl,_⟩:=okWide_struct Tryz.underlying33 (hval 0 33 v0 rfl rfl);obtain⟨b1,rfl⟩:=okWide_bool Tryz.underlying4 (hval 1 4 v1 rfl rfl);obtain⟨n0,h0⟩:=h0;obtain⟨n1,h1⟩:=h1;obtain⟨a0,f0,e0⟩:=rd33 W enc _ _ _ _ _ h0;obtain⟨a1,f1,e1⟩:=rd4 W enc _ _ _ _ _ h1;clear hA0 hval0;refine(AC.law (esigns_law a0.1 a0.2.1 a0.2.2.1 a0.2.2.2.1 a0.2.2.2.2.1 a0.2.2.2.2.2.1 a0.2.2.2.2.2.2.1 a0.2.2.2.2.2.2.2.1 a0.2.2.2.2.2.2.2.2.1 a1 f0.1 f0.2.1 f0.2.2.1 f0.2.2.2.1 f0.2.2.2.2.1 f0.2.2.2.2.2.1 f0.2.2.2.2.2.2.1 f0.2.2.2.2.2.2.2.1 f0.2.2.2.2.2.2.2.2.1.1 f0.2.2.2.2.2.2.2.2.1.2) Tryz.func3 (by kernel_rfl) (by kernel_rfl) [.agg b0,.bool b1] ⟨⟨_,rfl,e0⟩,e1.1,trivial⟩).mono λe W' ⟨he,bel⟩=>?_;subst he;exact⟨_,rfl,_,_,_,[],_,[],hW',trodAll_mk1 (shut_bool Tryz.underlying4 _),(trodAll_cons_mk (Below.trod laidOut (by kernel_rfl) (of_decide_eq_true (by kernel_rfl)) k0 bel lt0) (trodAll_cons_mk (Below.trod laidOut (by kernel_rfl) (of_decide_eq_true (by kernel_rfl)) k1 bel lt1) trodAll_mk0)),rfl,bel.frame _,λh=>by cases h⟩
theorem over:Rows.evalsSignsRow.holds Tryz.pinned (OpenSpec.ofChange Rows.evalsSignsSpec) :=
 OpenClaim.holds_of_wide 3 Tryz.f3 rfl rfl rfl rfl rfl rfl rfl ⟨rfl,rfl,rfl,rfl,rfl⟩ rfl rfl rfl rfl rfl (by kernel_rfl) Tryz.func3 (by kernel_rfl)
  (of_decide_eq_true (by kernel_rfl)) (by unfold Func.isWrapper;first|(rw[if_pos (by decide +kernel)];kernel_rfl)|(rw[if_neg (by decide +kernel)];exact⟨rfl,rfl⟩))
  (λos started H enc _=>lifted os started H enc)
theorem proved:Rows.EvalsSignsSaid:=over
#print axioms proved
end Go.Proofs.YtnjaeokkfbihlaaGreat.evalsSignsDone
