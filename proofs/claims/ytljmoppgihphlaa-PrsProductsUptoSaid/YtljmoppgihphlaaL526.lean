/-
 The law holds at every input: the last step of its proof.
-/
import Derived.Test.YtljmoppgihphlaaL525
import Derived.Test.YtljmoppgihphlaaAbsT
import Derived.JoinedCond
import Derived.Test.YtljmoppgihphlaaRows
set_option maxHeartbeats 2000000
namespace Go.Proofs.Ytljmoppgihphlaa.prsProductsDone
open Go Go.Proofs Go.AL Go.Proofs.Ytljmoppgihphlaa
open Go.ChangeShapes Go.WideShapes Go.ChangeAt Go.RowKit
set_option linter.unusedVariables false
theorem own:ownKnob Try.prog.godebug=none:=by kernel_rfl
theorem laidOut:laidOutB Try.prog=true:=by kernel_rfl
theorem one_le {H:Type}(d:DataW H):1<=Rows.uptoBulk d:=by
 cases d with
 |lit l=>cases l<;>simp[Rows.uptoBulk]
 |nil=>simp[Rows.uptoBulk]
 |ptr d=>simp[Rows.uptoBulk]
 |slice elems spare=>simp[Rows.uptoBulk]
 |agg parts=>simp[Rows.uptoBulk]
 |iface t d=>simp[Rows.uptoBulk]
 |map entries=>simp[Rows.uptoBulk]
 |held h=>simp[Rows.uptoBulk]
theorem part_le {H:Type}{d:DataW H}{l:List (DataW H)}(h:d∈l):Rows.uptoBulk d<=Rows.uptoBulkAll l:=by
 induction l with
 |nil=>cases h
 |cons x r ih =>
  simp only[Rows.uptoBulkAll];cases List.mem_cons.1 h with
  |inl e=>subst e;omega
  |inr e=>have:=ih e;omega
theorem length_le {H:Type}(l:List (DataW H)):l.length<=Rows.uptoBulkAll l:=by
 induction l with
 |nil=>simp[Rows.uptoBulkAll]
 |cons x r ih=>have:=one_le x;simp only[Rows.uptoBulkAll,List.length_cons];omega
def bk {H:Type}(d:DataW H):Nat:=Rows.uptoBulk d
theorem bkOk:BulkOk bk:=⟨λes sp=>by have:=length_le es;simp only[bk,Rows.uptoBulk];omega,λes sp e h=>by have:=part_le h;simp only[bk,Rows.uptoBulk];omega,λps e h=>by have:=part_le h;simp only[bk,Rows.uptoBulk];omega⟩
theorem rd32 (w:World):ReadsB bk Try.prog w prow (λN=>Sz N) 32:=readsB_int bkOk Try.underlying32 Try.underlying4 Try.underlying30 Try.underlying55 (by kernel_rfl) (by kernel_rfl) (by kernel_rfl) (by kernel_rfl)
theorem rd23 (w:World):ReadsB bk Try.prog w (λp:List RI=>[.sl (raws p)]) (λN p=>RP N N p) 23 :=
 λenc sp held fuel cs x N h hN=>readsB_slice bkOk (f:=prow) (Q:=λN=>Sz N) (sz:=2) Try.underlying23 (by kernel_rfl) (λ_=>rfl) (by omega) (rd32 w) enc sp held fuel cs x N h hN
theorem rd3 (w:World):ReadsB bk Try.prog w (λx:Int=>[.int .i64 x]) (λ_ x=>-9223372036854775808<=x/\x<=9223372036854775807) 3:=reads_b (reads_i64 Try.underlying3)
theorem rd25 (w:World):ReadsB bk Try.prog w (λc:(List RI×(List RI×(List RI×(Int×Unit))))=>([.sl (raws c.1)]++([.sl (raws c.2.1)]++([.sl (raws c.2.2.1)]++([.int .i64 c.2.2.2.1]++[]))))) (λN c=>(RP N N c.1/\(RP N N c.2.1/\(RP N N c.2.2.1/\((-9223372036854775808<=c.2.2.2.1/\c.2.2.2.1<=9223372036854775807)/\True))))) 25:=readsB_struct bkOk (tot:=4) Try.underlying25 (by kernel_rfl) (fieldsB_cons (tot:=4) (off:=0) (s:=1) (rd23 w) (by kernel_rfl) (fieldsB_cons (tot:=4) (off:=1) (s:=1) (rd23 w) (by kernel_rfl) (fieldsB_cons (tot:=4) (off:=2) (s:=1) (rd23 w) (by kernel_rfl) (fieldsB_cons (tot:=4) (off:=3) (s:=1) (rd3 w) (by kernel_rfl) fieldsB_nil))))
set_option maxRecDepth 100000 in
theorem contract (H:Type)(enc:TypeId×Value->H)(W:World)(base:Nat)(args:Array Value)(ds gs:List (DataW H))(before:List MemPlace)
  (hval0:∀(j:Nat) t v,Try.f3.params[j]?=some t->args[j]?=some v->Value.okWide Try.prog W .any base t v)
  (hW:DataW.Whole enc Try.prog Try.f3.params.toList Rows.prsProductsSpec.vars false W args.toList ds gs before) (hk:Rows.uptoSmall H (ds++gs)=true) :
  Calls Try.prog 3 args W λe W'=>∃v,e=.returned v/\Rows.prsProductsSpec.post enc Try.prog Try.f3 false true false false W args v W':=by
 have hval:∀(j:Nat) t v,Try.f3.params[j]?=some t->args[j]?=some v->Value.okWide Try.prog W .any base t v:=hval0;have hW':=hW;obtain⟨p,q,hA0,hV,rfl,hfz,hnd⟩:=hW;have hA:DataW.TrodAll enc Try.prog W 0 (λ_=>true) true Try.f3.params.toList args.toList ds p:=hA0;rw[Try.params3]at hA hval;obtain⟨v0,vs0,d0,ds0,p0,q0,hargs,rfl,rfl,h0,r0⟩:=trodAll_cons hA;obtain⟨rfl,rfl,rfl⟩:=trodAll_nil r0;obtain rfl:args = #[v0]:=by cases args;simp_all
 obtain⟨rfl,rfl⟩:=trodVars_none hV;have k0:=h0;have lt0:∀x∈p0,x.block<W.heap.size:=by obtain⟨m,hm⟩:=k0;exact DataW.trod_lt m _ _ _ hm
 obtain⟨b0,rfl,_⟩:=okWide_struct Try.underlying25 (hval 0 25 v0 rfl rfl);obtain⟨n0,h0⟩:=h0;have hB:Rows.uptoBulkAll ([d0]++[])<=1048576:=of_decide_eq_true hk;obtain⟨a0,f0,e0⟩:=rd25 W enc _ _ _ _ _ 1048576 h0 (Nat.le_trans (part_le (by simp)) hB);clear hA0 hval0;refine(AC.law (prsproducts_law a0.1 a0.2.1 a0.2.2.1 a0.2.2.2.1 f0.1 f0.2.1 f0.2.2.1 f0.2.2.2.1.1 f0.2.2.2.1.2) Try.func3 (by kernel_rfl) (by kernel_rfl) [.agg b0] ⟨⟨_,rfl,e0⟩,trivial⟩).mono λe W' ⟨he,bel⟩=>?_;subst he;exact⟨_,rfl,_,_,_,[],_,[],hW',trodAll_mk1 (shut_bool Try.underlying4 _),(trodAll_cons_mk (Below.trod laidOut (by kernel_rfl) (of_decide_eq_true (by kernel_rfl)) k0 bel lt0) trodAll_mk0),rfl,bel.frame _,λh=>by cases h⟩
set_option maxRecDepth 100000 in
theorem lifted (os:Os)(started:os.Started)(H:Type)(enc:TypeId×Value->H)(F:Stop.Interp) :
  ReturnsInHanded {} Try.checked os 3 .any ((Rows.OpenSpec.upto Rows.prsProductsSpec).pre6 enc Try.prog Try.f3 Rows.prsProductsUptoRow.domain false) (((Rows.OpenSpec.upto Rows.prsProductsSpec).at F).post enc Try.prog Try.f3 false true false false):=by
 refine returnsInHanded_of_cond (C:=Try.checked) (s:=Rows.OpenSpec.upto Rows.prsProductsSpec) (k:=Rows.uptoSmall) rfl own started (by kernel_rfl) Try.func3
  (OpenSpec.witness (enc:=enc) (C:=Try.checked) (s:=Rows.OpenSpec.upto Rows.prsProductsSpec) (k:=Rows.uptoSmall) rfl false ⟨#[],#[.agg #[.slice none 0 0,.slice none 0 0,.slice none 0 0,.int .i64 0]],[]⟩ 8 (by kernel_rfl) (by kernel_rfl) (by kernel_rfl)
   (x:=([.agg [.nil,.nil,.nil,.lit (.int .i64 0)]],[],[])) (by kernel_rfl) rfl (by kernel_rfl)) ?_
 intro W base args ds gs before hval hW _ hk _;exact contract H enc W base args ds gs before hval hW hk
theorem proved:Rows.PrsProductsUptoSaid :=
 OpenClaim.holds_of_cond 3 Try.f3 rfl rfl rfl rfl rfl rfl rfl ⟨rfl,rfl,rfl,rfl,rfl⟩ rfl rfl rfl rfl rfl (by kernel_rfl) Try.func3 (by kernel_rfl)
  (of_decide_eq_true (by kernel_rfl)) (by unfold Func.isWrapper;first|(rw[if_pos (by decide +kernel)];kernel_rfl)|(rw[if_neg (by decide +kernel)];exact⟨rfl,rfl⟩))
  (λos started H enc _ F=>lifted os started H enc F)
#print axioms proved
end Go.Proofs.Ytljmoppgihphlaa.prsProductsDone
