/-
 The law holds at every input: the last step of its proof.
-/
import Derived.Test.YtbnincgnfiaemaaGreatL508M
import Derived.Test.YtbnincgnfiaemaaGreatAbsT
import Derived.JoinedCond
import Derived.Test.YtbnincgnfiaemaaGreatRows
set_option maxHeartbeats 2000000
namespace Go.Proofs.YtbnincgnfiaemaaGreat.surdMultiplesDone
open Go Go.Proofs Go.AL Go.Proofs.YtbnincgnfiaemaaGreat
open Go.ChangeShapes Go.WideShapes Go.ChangeAt Go.RowKit
set_option linter.unusedVariables false
theorem own:ownKnob Tryz.prog.godebug=none:=by kernel_rfl
theorem laidOut:laidOutB Tryz.prog=true:=by kernel_rfl
theorem one_le {H:Type}(d:DataW H):1<=Rows.uptoBulk d:=by
 cases d with
 |lit l=>cases l<;>simp[Rows.uptoBulk]
 |nil=>simp[Rows.uptoBulk]
 |ptr d=>simp[Rows.uptoBulk]
 |slice elems spare=>simp[Rows.uptoBulk]
 |agg parts=>simp[Rows.uptoBulk]
 |iface t d=>simp[Rows.uptoBulk]
 |map entries=>simp[Rows.uptoBulk]
 |held h=>simp[Rows.uptoBulk]
theorem part_le {H:Type}{d:DataW H}{l:List (DataW H)}(h:d∈l):Rows.uptoBulk d<=Rows.uptoBulkAll l:=by
 induction l with
 |nil=>cases h
 |cons x r ih =>
  simp only[Rows.uptoBulkAll];cases List.mem_cons.1 h with
  |inl e=>subst e;omega
  |inr e=>have:=ih e;omega
theorem length_le {H:Type}(l:List (DataW H)):l.length<=Rows.uptoBulkAll l:=by
 induction l with
 |nil=>simp[Rows.uptoBulkAll]
 |cons x r ih=>have:=one_le x;simp only[Rows.uptoBulkAll,List.length_cons];omega
def bk {H:Type}(d:DataW H):Nat:=Rows.uptoBulk d
theorem bkOk:BulkOk bk:=⟨λes sp=>by have:=length_le es;simp only[bk,Rows.uptoBulk];omega,λes sp e h=>by have:=part_le h;simp only[bk,Rows.uptoBulk];omega,λps e h=>by have:=part_le h;simp only[bk,Rows.uptoBulk];omega⟩
theorem rd3 (w:World):ReadsB bk Tryz.prog w (λx:Int=>[.int .i64 x]) (λ_ x=>-9223372036854775808<=x/\x<=9223372036854775807) 3:=reads_b (reads_i64 Tryz.underlying3)
theorem rdKn (w:World):Reads Tryz.prog w (λr:Int×Int×Int=>[.int .i64 r.1,.int .i64 r.2.1,.int .i64 r.2.2]) (λ_=>True) 121:=λenc sp held fuel cs x h=>by
 obtain⟨c,hq,hr⟩:=reads_struct (tot:=3) Tryz.underlying121 (by kernel_rfl) (fields_cons (tot:=3) (off:=0) (s:=1) (reads_i64 (w:=w) Tryz.underlying3) (by kernel_rfl) (fields_cons (tot:=3) (off:=1) (s:=1) (reads_i64 (w:=w) Tryz.underlying3) (by kernel_rfl) (fields_cons (tot:=3) (off:=2) (s:=1) (reads_i64 (w:=w) Tryz.underlying3) (by kernel_rfl) fields_nil))) enc sp held fuel cs x h;exact⟨(c.1,c.2.1,c.2.2.1),trivial,hr⟩
theorem rd64 (w:World):ReadsB bk Tryz.prog w (λp:List (Int×Int×Int)=>[.sl (krows p)]) (λN p=>p.length<=N/\∀x∈p,True) 64 :=
 λenc sp held fuel cs x N h hN=>readsB_slice bkOk (f:=λr:Int×Int×Int=>[.int .i64 r.1,.int .i64 r.2.1,.int .i64 r.2.2]) (Q:=λ_ _=>True) (sz:=3) Tryz.underlying64 (by kernel_rfl) (λ_=>rfl) (by omega) (reads_b (rdKn w)) enc sp held fuel cs x N h hN
theorem rdQ2 (w:World):Reads Tryz.prog w (λr:Int×Int=>[.int .i64 r.1,.int .i64 r.2]) (λ_=>True) 127:=λenc sp held fuel cs x h=>by
 obtain⟨xs,m,_,_,hl,hxs,hfs⟩:=DataW.trod_array Tryz.underlying127 h;have ce:Tryz.prog.cellsOf 3=1:=by kernel_rfl
 have ct:Tryz.prog.cellsOf 127=2:=by kernel_rfl
 rw[ct]at hl;rw[ce]at hfs;clear ce ct;have h0:=hfs 0 (by omega);rw[List.getElem?_eq_getElem (by omega)]at h0;obtain⟨a,qa,ra⟩:=reads_i64 (w:=w) Tryz.underlying3 enc sp held m _ _ h0;have h1:=hfs 1 (by omega);rw[List.getElem?_eq_getElem (by omega)]at h1;obtain⟨b,qb,rb⟩:=reads_i64 (w:=w) Tryz.underlying3 enc sp held m _ _ h1;refine⟨(a,b),trivial,?_⟩;have ec:cs=(cs.drop (0*1)).take 1++(cs.drop (1*1)).take 1:=by
  match cs,hl with
  |[v0,v1],_=>rfl
 have z:=ra.append rb;rw[<-ec]at z;exact z
theorem rd65 (w:World):ReadsB bk Tryz.prog w (λp:List (Int×Int)=>[.sl (qrows p)]) (λN p=>p.length<=N/\∀x∈p,True) 65 :=
 λenc sp held fuel cs x N h hN=>readsB_slice bkOk (f:=λr:Int×Int=>[.int .i64 r.1,.int .i64 r.2]) (Q:=λ_ _=>True) (sz:=2) Tryz.underlying65 (by kernel_rfl) (λ_=>rfl) (by omega) (reads_b (rdQ2 w)) enc sp held fuel cs x N h hN
theorem rd67 (w:World):ReadsB bk Tryz.prog w (λc:(Int×(List (Int×Int×Int)×(List (Int×Int)×Unit)))=>([.int .i64 c.1]++([.sl (krows c.2.1)]++([.sl (qrows c.2.2.1)]++[])))) (λN c=>((-9223372036854775808<=c.1/\c.1<=9223372036854775807)/\((c.2.1.length<=N/\∀x∈c.2.1,True)/\((c.2.2.1.length<=N/\∀x∈c.2.2.1,True)/\True)))) 67:=readsB_struct bkOk (tot:=3) Tryz.underlying67 (by kernel_rfl) (fieldsB_cons (tot:=3) (off:=0) (s:=1) (rd3 w) (by kernel_rfl) (fieldsB_cons (tot:=3) (off:=1) (s:=1) (rd64 w) (by kernel_rfl) (fieldsB_cons (tot:=3) (off:=2) (s:=1) (rd65 w) (by kernel_rfl) fieldsB_nil)))
theorem rd44 (w:World):ReadsB bk Tryz.prog w prow (λN=>Sz N) 44:=readsB_int bkOk Tryz.underlying44 Tryz.underlying4 Tryz.underlying42 Tryz.underlying93 (by kernel_rfl) (by kernel_rfl) (by kernel_rfl) (by kernel_rfl)
theorem rd23 (w:World):ReadsB bk Tryz.prog w (λp:List RI=>[.sl (raws p)]) (λN p=>RP N N p) 23 :=
 λenc sp held fuel cs x N h hN=>readsB_slice bkOk (f:=prow) (Q:=λN=>Sz N) (sz:=2) Tryz.underlying23 (by kernel_rfl) (λ_=>rfl) (by omega) (rd44 w) enc sp held fuel cs x N h hN
set_option maxRecDepth 100000 in
theorem contract (H:Type)(enc:TypeId×Value->H)(W:World)(base:Nat)(args:Array Value)(ds gs:List (DataW H))(before:List MemPlace)
  (hval0:∀(j:Nat) t v,Tryz.f5.params[j]?=some t->args[j]?=some v->Value.okWide Tryz.prog W .any base t v)
  (hW:DataW.Whole enc Tryz.prog Tryz.f5.params.toList Rows.surdMultiplesSpec.vars false W args.toList ds gs before) (hk:Rows.uptoSmall H (ds++gs)=true) :
  Calls Tryz.prog 5 args W λe W'=>∃v,e=.returned v/\Rows.surdMultiplesSpec.post enc Tryz.prog Tryz.f5 false true false false W args v W':=by
 have hval:∀(j:Nat) t v,Tryz.f5.params[j]?=some t->args[j]?=some v->Value.okWide Tryz.prog W .any base t v:=hval0;have hW':=hW;obtain⟨p,q,hA0,hV,rfl,hfz,hnd⟩:=hW;have hA:DataW.TrodAll enc Tryz.prog W 0 (λ_=>true) true Tryz.f5.params.toList args.toList ds p:=hA0;rw[Tryz.params5]at hA hval;obtain⟨v0,vs0,d0,ds0,p0,q0,hargs,rfl,rfl,h0,r0⟩:=trodAll_cons hA;obtain⟨v1,vs1,d1,ds1,p1,q1,rfl,rfl,rfl,h1,r1⟩:=trodAll_cons r0;obtain⟨rfl,rfl,rfl⟩:=trodAll_nil r1;obtain rfl:args = #[v0,v1]:=by cases args;simp_all
 obtain⟨rfl,rfl⟩:=trodVars_none hV;have k0:=h0;have k1:=h1;have lt0:∀x∈p0,x.block<W.heap.size:=by obtain⟨m,hm⟩:=k0;exact DataW.trod_lt m _ _ _ hm
 have lt1:∀x∈p1,x.block<W.heap.size:=by obtain⟨m,hm⟩:=k1;exact DataW.trod_lt m _ _ _ hm
 obtain⟨b0,rfl,_⟩:=okWide_struct Tryz.underlying67 (hval 0 67 v0 rfl rfl);obtain⟨b1,len1,cap1,rfl⟩:=okWide_slice Tryz.underlying23 (hval 1 23 v1 rfl rfl);obtain⟨n0,h0⟩:=h0;obtain⟨n1,h1⟩:=h1;have hB:Rows.uptoBulkAll ([d0,d1]++[])<=1048576:=of_decide_eq_true hk;obtain⟨a0,f0,e0⟩:=rd67 W enc _ _ _ _ _ 1048576 h0 (Nat.le_trans (part_le (by simp)) hB);obtain⟨a1,f1,e1⟩:=rd23 W enc _ _ _ _ _ 1048576 h1 (Nat.le_trans (part_le (by simp)) hB);clear hA0 hval0;refine(AC.law (mult_law2 a0.1 a0.2.1 a0.2.2.1 a1 f0.1.1 f0.1.2 f0.2.1 f0.2.2.1 f1) Tryz.func5 (by kernel_rfl) (by kernel_rfl) [.agg b0,.slice b1 len1 cap1] ⟨⟨_,rfl,e0⟩,e1.1,trivial⟩).mono λe W' ⟨he,bel⟩=>?_;subst he;exact⟨_,rfl,_,_,_,[],_,[],hW',trodAll_mk1 (shut_bool Tryz.underlying4 _),(trodAll_cons_mk (Below.trod laidOut (by kernel_rfl) (of_decide_eq_true (by kernel_rfl)) k0 bel lt0) (trodAll_cons_mk (Below.trod laidOut (by kernel_rfl) (of_decide_eq_true (by kernel_rfl)) k1 bel lt1) trodAll_mk0)),rfl,bel.frame _,λh=>by cases h⟩
set_option maxRecDepth 100000 in
theorem lifted (os:Os)(started:os.Started)(H:Type)(enc:TypeId×Value->H)(F:Stop.Interp) :
  ReturnsInHanded {} Tryz.checked os 5 .any ((Rows.OpenSpec.upto Rows.surdMultiplesSpec).pre6 enc Tryz.prog Tryz.f5 Rows.surdMultiplesUptoRow.domain false) (((Rows.OpenSpec.upto Rows.surdMultiplesSpec).at F).post enc Tryz.prog Tryz.f5 false true false false):=by
 refine returnsInHanded_of_cond (C:=Tryz.checked) (s:=Rows.OpenSpec.upto Rows.surdMultiplesSpec) (k:=Rows.uptoSmall) rfl own started (by kernel_rfl) Tryz.func5
  (OpenSpec.witness (enc:=enc) (C:=Tryz.checked) (s:=Rows.OpenSpec.upto Rows.surdMultiplesSpec) (k:=Rows.uptoSmall) rfl false ⟨#[],#[.agg #[.int .i64 0,.slice none 0 0,.slice none 0 0],.slice none 0 0],[]⟩ 8 (by kernel_rfl) (by kernel_rfl) (by kernel_rfl)
   (x:=([.agg [.lit (.int .i64 0),.nil,.nil],.nil],[],[])) (by kernel_rfl) rfl (by kernel_rfl)) ?_
 intro W base args ds gs before hval hW _ hk _;exact contract H enc W base args ds gs before hval hW hk
theorem proved:Rows.SurdMultiplesUptoSaid :=
 OpenClaim.holds_of_cond 5 Tryz.f5 rfl rfl rfl rfl rfl rfl rfl ⟨rfl,rfl,rfl,rfl,rfl⟩ rfl rfl rfl rfl rfl (by kernel_rfl) Tryz.func5 (by kernel_rfl)
  (of_decide_eq_true (by kernel_rfl)) (by unfold Func.isWrapper;first|(rw[if_pos (by decide +kernel)];kernel_rfl)|(rw[if_neg (by decide +kernel)];exact⟨rfl,rfl⟩))
  (λos started H enc _ F=>lifted os started H enc F)
#print axioms proved
end Go.Proofs.YtbnincgnfiaemaaGreat.surdMultiplesDone
