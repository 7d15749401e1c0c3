/-
 The law holds at every input: the last step of its proof.
-/
import Derived.Test.YtmoiodckaadchaaGreatL117M
import Derived.Test.YtmoiodckaadchaaGreatAbsS
import Derived.Test.YtmoiodckaadchaaGreatRows
set_option maxHeartbeats 2000000
namespace Go.Proofs.YtmoiodckaadchaaGreat.evalsKnownDone
open Go Go.Proofs Go.AL Go.Proofs.YtmoiodckaadchaaGreat
open Go.ChangeShapes Go.WideShapes Go.ChangeAt Go.RowKit
set_option linter.unusedVariables false
theorem own:ownKnob Tryz.prog.godebug=none:=by kernel_rfl
theorem laidOut:laidOutB Tryz.prog=true:=by kernel_rfl
theorem rd27 (w:World):Reads Tryz.prog w prow (Sz 9223372036854775807) 27:=reads_int Tryz.underlying27 Tryz.underlying4 Tryz.underlying25 Tryz.underlying108 (by kernel_rfl) (by kernel_rfl) (by kernel_rfl) (by kernel_rfl)
theorem rd25 (w:World):Reads Tryz.prog w (λl:List Nat=>[.sl (lims l)]) (Nt 9223372036854775807) 25:=reads_nat Tryz.underlying25 Tryz.underlying108 (by kernel_rfl)
theorem rd33 (w:World):Reads Tryz.prog w qrow (SzQ 9223372036854775807) 33 :=
 reads_rat (reads_struct (tot:=3) Tryz.underlying33 (by kernel_rfl) (fields_cons (tot:=3) (off:=0) (s:=2) (rd27 w) (by kernel_rfl) (fields_cons (tot:=3) (off:=2) (s:=1) (rd25 w) (by kernel_rfl) fields_nil)))
theorem rd31 (w:World):Reads Tryz.prog w (λp:List RQ=>[.sl (rats p)]) RawQ 31 :=
 λenc sp held fuel cs x h=>reads_slice (f:=qrow) (sz:=3) Tryz.underlying31 (by kernel_rfl) (λ_=>rfl) (by omega) (rd33 w) enc sp held fuel cs x h
set_option maxRecDepth 100000 in
theorem lifted (os:Os)(started:os.Started)(H:Type)(enc:TypeId×Value->H) :
  ReturnsInHanded {} Tryz.checked os 4 .any (Rows.evalsKnownSpec.pre6 enc Tryz.prog Tryz.f4 Rows.evalsKnownRow.domain false) (Rows.evalsKnownSpec.post enc Tryz.prog Tryz.f4 false true false false):=by
 refine returnsInHanded_of_change (C:=Tryz.checked) own started (by kernel_rfl) Tryz.func4
  (ChangeSpec.witness6 (enc:=enc) (C:=Tryz.checked) false ⟨#[],#[.slice none 0 0,.agg #[.bool false,.slice none 0 0,.slice none 0 0],.agg #[.bool false,.slice none 0 0,.slice none 0 0]],[]⟩ 8 (by kernel_rfl) (by kernel_rfl) (by kernel_rfl) (by kernel_rfl)) ?_
 intro W base args ds gs before hval0 hW hcnd _;have hval:∀(j:Nat) t v,Tryz.f4.params[j]?=some t->args[j]?=some v->Value.okWide Tryz.prog W .any base t v:=hval0;have hW':=hW;obtain⟨p,q,hA0,hV,rfl,hfz,hnd⟩:=hW;have hA:DataW.TrodAll enc Tryz.prog W 0 (λ_=>true) true Tryz.f4.params.toList args.toList ds p:=hA0;rw[Tryz.params4]at hA hval;obtain⟨v0,vs0,d0,ds0,p0,q0,hargs,rfl,rfl,h0,r0⟩:=trodAll_cons hA;obtain⟨v1,vs1,d1,ds1,p1,q1,rfl,rfl,rfl,h1,r1⟩:=trodAll_cons r0;obtain⟨v2,vs2,d2,ds2,p2,q2,rfl,rfl,rfl,h2,r2⟩:=trodAll_cons r1;obtain⟨rfl,rfl,rfl⟩:=trodAll_nil r2;obtain rfl:args = #[v0,v1,v2]:=by cases args;simp_all
 obtain⟨rfl,rfl⟩:=trodVars_none hV;have k0:=h0;have k1:=h1;have k2:=h2;have lt0:∀x∈p0,x.block<W.heap.size:=by obtain⟨m,hm⟩:=k0;exact DataW.trod_lt m _ _ _ hm
 have lt1:∀x∈p1,x.block<W.heap.size:=by obtain⟨m,hm⟩:=k1;exact DataW.trod_lt m _ _ _ hm
 have lt2:∀x∈p2,x.block<W.heap.size:=by obtain⟨m,hm⟩:=k2;exact DataW.trod_lt m _ _ _ hm
 obtain⟨b0,len0,cap0,rfl⟩:=okWide_slice Tryz.underlying31 (hval 0 31 v0 rfl rfl);obtain⟨b1,rfl,_⟩:=okWide_struct Tryz.underlying33 (hval 1 33 v1 rfl rfl);obtain⟨b2,rfl,_⟩:=okWide_struct Tryz.underlying33 (hval 2 33 v2 rfl rfl);obtain⟨n0,h0⟩:=h0;obtain⟨n1,h1⟩:=h1;obtain⟨n2,h2⟩:=h2;obtain⟨a0,f0,e0⟩:=rd31 W enc _ _ _ _ _ h0;obtain⟨a1,f1,e1⟩:=rd33 W enc _ _ _ _ _ h1;obtain⟨a2,f2,e2⟩:=rd33 W enc _ _ _ _ _ h2;clear hA0 hval0;refine(AC.law (known_law a0 a1 a2 f0 f1 f2) Tryz.func4 (by kernel_rfl) (by kernel_rfl) [.slice b0 len0 cap0,.agg b1,.agg b2] ⟨e0.1,⟨_,rfl,e1⟩,⟨_,rfl,e2⟩,trivial⟩).mono λe W' ⟨he,bel⟩=>?_;subst he;exact⟨_,rfl,_,_,_,[],_,[],hW',trodAll_mk1 (shut_bool Tryz.underlying4 _),(trodAll_cons_mk (Below.trod laidOut (by kernel_rfl) (of_decide_eq_true (by kernel_rfl)) k0 bel lt0) (trodAll_cons_mk (Below.trod laidOut (by kernel_rfl) (of_decide_eq_true (by kernel_rfl)) k1 bel lt1) (trodAll_cons_mk (Below.trod laidOut (by kernel_rfl) (of_decide_eq_true (by kernel_rfl)) k2 bel lt2) trodAll_mk0))),rfl,bel.frame _,λh=>by cases h⟩
theorem over:Rows.evalsKnownRow.holds Tryz.pinned (OpenSpec.ofChange Rows.evalsKnownSpec) :=
 OpenClaim.holds_of_wide 4 Tryz.f4 rfl rfl rfl rfl rfl rfl rfl ⟨rfl,rfl,rfl,rfl,rfl⟩ rfl rfl rfl rfl rfl (by kernel_rfl) Tryz.func4 (by kernel_rfl)
  (of_decide_eq_true (by kernel_rfl)) (by unfold Func.isWrapper;first|(rw[if_pos (by decide +kernel)];kernel_rfl)|(rw[if_neg (by decide +kernel)];exact⟨rfl,rfl⟩))
  (λos started H enc _=>lifted os started H enc)
theorem proved:Rows.EvalsKnownSaid:=over
#print axioms proved
end Go.Proofs.YtmoiodckaadchaaGreat.evalsKnownDone
