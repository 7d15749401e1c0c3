/-
 The law holds at every input: the last step of its proof.
-/
import Derived.Test.YtnhghmibjddlkaaGreatDoorL620M
import Derived.Test.YtnhghmibjddlkaaGreatDoorAbsT
import Derived.JoinedCond
import Derived.Test.YtnhghmibjddlkaaGreatDoorRows
import Derived.Test.YtnhghmibjddlkaaGreatDoorCards
import Derived.Test.YtnhghmibjddlkaaGreatDoorTie
import Derived.Lib.LaidTab
import Derived.Deep.DeepHandedRow
set_option maxHeartbeats 2000000
namespace Go.Proofs.YtnhghmibjddlkaaGreatDoor.surdCellsDone
open Go Go.Proofs Go.AL Go.Proofs.YtnhghmibjddlkaaGreatDoor
open Go.ChangeShapes Go.WideShapes Go.ChangeAt Go.RowKit
set_option linter.unusedVariables false
set_option linter.unusedSimpArgs false
theorem Ur (lead:Int)(rs:List (Int×Int×Int))(qs:List (Int×Int))(w:RQ)(_ : -9223372036854775808<=lead)(_:lead<=9223372036854775807)(hrs:rs.length<=1048576/\∀x∈rs,True)(hqs:qs.length<=1048576/\∀x∈qs,True)(hw:SzQ 1048576 w):ACG Tryz.prog yH 3 [.agg (a4b lead rs qs),cqq w] [cb true]:=Zo lead rs qs w hrs.1 hqs.1 hw
theorem a8y {P : Program} {w : World} {tb : List IV} {g : Nat} {args : List CV} {fn : Func} (h : ACG P tb g args [.iv (.bool true)]) (htb : jX w (fun _ => False) tb Jz) (hf : P.funcs[g]? = some fn) (hn : (fn.name == "runtime.NumGoroutine") = false) (hb : fn.body.isNone = false) (vs : List Value) (hvs : eU w (fun _ => False) args vs) :
  Calls P g vs.toArray w λe w'=>e=.returned (.bool true)/\Below w.heap.size w w':=by
 have hc:Calls P g vs.toArray w λe w'=>∃v,e=.returned v/\Below w.heap.size w w'/\∃us,v=qF us/\Eo w w' (λ_=>False) none [.iv (.bool true)] us:=by
  rcases h w (λ_=>False) vs (λ_ h=>h.elim) htb hvs with ⟨fn',hf',_,_,hc⟩|⟨v,w',hr,_⟩
  .exact hc
  ·have h1 : fn.name ≠ "runtime.NumGoroutine" := by simpa using hn
   have h2:fn.body≠none:=by intro e;rw[e]at hb;cases hb
   simp[callFunc,hf,h1,h2,Sem.run]at hr
 refine hc.mono λe w' hq=>?_;obtain⟨v,rfl,hbel,us,rfl,hres⟩:=hq;refine⟨?_,hbel⟩
 match us,hres with
 |[u],hres =>
  have:=hres.val 0 (.iv (.bool true)) u (λ_ _ _ _ h=>nomatch h) rfl rfl;simp only[iI]at this;cases this;rfl
 |[],hres=>have:=hres.len;simp at this
 |_::_::_,hres=>have:=hres.len;simp at this
def zsT:List Int:=Lib.deBruijn64tab.map λn:Nat=>(n:Int)
theorem gTab : Tryz.prog.globalNamed "math/bits.deBruijn64tab" = some 0 := by kernel_rfl
theorem a2J:(Tryz.prog.globals[0]?).map (·.type)=some 188:=by kernel_rfl
theorem a3h:Tryz.prog.cellsOf 188=64:=by kernel_rfl
theorem a8k:Tryz.prog.cellsOf 5=1:=by kernel_rfl
theorem table {W : World} (h : laidMetH Tryz.prog Rows.surdCellsUptoRow.laid W) : Lib.TabIs Tryz.prog W "math/bits.deBruijn64tab" .u8 zsT :=
 Lib.tabIs_of_head (rest:=[]) gTab a2J Tryz.underlying188 Tryz.underlying5 a8k a3h h
theorem JQ {W:World}{D:Nat->Prop}:∀l:List Nat,eF W D (l.map λ(n:Nat)=>IV.int .u8 (n:Int)) (l.map λ(n:Nat)=>Value.int .u8 (n:Int))
 |[]=>trivial
 |_::l=>⟨.int _ _,JQ l⟩
theorem boxed {W : World} (h : Lib.TabIs Tryz.prog W "math/bits.deBruijn64tab" .u8 zsT) : jX W (fun _ => False) yH Jz := by
 refine⟨0,0,rfl,λ_ h=>h.elim,Lib.deBruijn64tab.map λ(n:Nat)=>Value.int .u8 (n:Int),JQ _,λj c hj=>?_⟩;have hl:j<zsT.length:=by
  have:=(List.getElem?_eq_some_iff.1 hj).1;simpa [zsT] using this
 have hc:=h.cell gTab j hl;rw[Nat.zero_add,hc];have hl2:j<Lib.deBruijn64tab.length:=by simpa [zsT] using hl
 have e:zsT.getD j 0=((Lib.deBruijn64tab[j]'hl2:Nat):Int):=by simp[zsT,List.getD,hl2]
 rw[e];simp only[List.getElem?_map,List.getElem?_eq_getElem hl2,Option.map_some]at hj;exact hj
theorem own:ownKnob Tryz.prog.godebug=none:=by kernel_rfl
theorem TN {bk:{H:Type}->DataW H->Nat}{P:Program}{w:World}{t:TypeId}(h:lG bk P w (λc:(RI×(List Nat×Unit))=>je c.1++([.sl (dJ c.2.1)]++[])) (λN c=>Sz N c.1/\((c.2.1.length<=N/\Lim c.2.1)/\True)) t):lG bk P w oh (λN=>SzQ N) t:=λenc sp held fuel cs x N hx hN=>by
 obtain⟨a,f,e⟩:=h enc sp held fuel cs x N hx hN;exact⟨(a.1,a.2.1),⟨f.1,f.2.1⟩,e⟩
theorem laidOut:laidOutB Tryz.prog=true:=by kernel_rfl
theorem one_le {H:Type}(d:DataW H):1<=Rows.uptoBulk d:=by
 cases d with
 |lit l=>cases l<;>simp[Rows.uptoBulk]
 |nil=>simp[Rows.uptoBulk]
 |ptr d=>simp[Rows.uptoBulk]
 |slice elems spare=>simp[Rows.uptoBulk]
 |agg parts=>simp[Rows.uptoBulk]
 |iface t d=>simp[Rows.uptoBulk]
 |map entries=>simp[Rows.uptoBulk]
 |held h=>simp[Rows.uptoBulk]
theorem GK {H:Type}{d:DataW H}{l:List (DataW H)}(h:d∈l):Rows.uptoBulk d<=Rows.uptoBulkAll l:=by
 induction l with
 |nil=>cases h
 |cons x r ih =>
  simp only[Rows.uptoBulkAll];cases List.mem_cons.1 h with
  |inl e=>subst e;omega
  |inr e=>have:=ih e;omega
theorem length_le {H:Type}(l:List (DataW H)):l.length<=Rows.uptoBulkAll l:=by
 induction l with
 |nil=>simp[Rows.uptoBulkAll]
 |cons x r ih=>have:=one_le x;simp only[Rows.uptoBulkAll,List.length_cons];omega
def bk {H:Type}(d:DataW H):Nat:=Rows.uptoBulk d
theorem a9j:ML bk:=⟨λes sp=>by have:=length_le es;simp only[bk,Rows.uptoBulk];omega,λes sp e h=>by have:=GK h;simp only[bk,Rows.uptoBulk];omega,λps e h=>by have:=GK h;simp only[bk,Rows.uptoBulk];omega⟩
theorem rd3 (w:World):lG bk Tryz.prog w (λx:Int=>[.int .i64 x]) (λ_ x=>-9223372036854775808<=x/\x<=9223372036854775807) 3:=Gy (oU Tryz.underlying3)
theorem b5e (w:World):Reads Tryz.prog w (λr:Int×Int×Int=>[.int .i64 r.1,.int .i64 r.2.1,.int .i64 r.2.2]) (λ_=>True) 65:=λenc sp held fuel cs x h=>by
 obtain⟨c,hq,hr⟩:=JU (tot:=3) Tryz.underlying65 (by kernel_rfl) (vW (tot:=3) (off:=0) (s:=1) (oU (w:=w) Tryz.underlying3) (by kernel_rfl) (vW (tot:=3) (off:=1) (s:=1) (oU (w:=w) Tryz.underlying3) (by kernel_rfl) (vW (tot:=3) (off:=2) (s:=1) (oU (w:=w) Tryz.underlying3) (by kernel_rfl) Uj))) enc sp held fuel cs x h;exact⟨(c.1,c.2.1,c.2.2.1),trivial,hr⟩
theorem b5k (w:World):lG bk Tryz.prog w (λp:List (Int×Int×Int)=>[.sl (yY p)]) (λN p=>p.length<=N/\∀x∈p,True) 22 :=
 λenc sp held fuel cs x N h hN=>sK a9j (f:=λr:Int×Int×Int=>[.int .i64 r.1,.int .i64 r.2.1,.int .i64 r.2.2]) (Q:=λ_ _=>True) (sz:=3) Tryz.underlying22 (by kernel_rfl) (λ_=>rfl) (by omega) (Gy (b5e w)) enc sp held fuel cs x N h hN
theorem b5d (w:World):Reads Tryz.prog w (λr:Int×Int=>[.int .i64 r.1,.int .i64 r.2]) (λ_=>True) 70:=λenc sp held fuel cs x h=>by
 obtain⟨xs,m,_,_,hl,hxs,hfs⟩:=DataW.trod_array Tryz.underlying70 h;have ce:Tryz.prog.cellsOf 3=1:=by kernel_rfl
 have ct:Tryz.prog.cellsOf 70=2:=by kernel_rfl
 rw[ct]at hl;rw[ce]at hfs;clear ce ct;have h0:=hfs 0 (by omega);rw[List.getElem?_eq_getElem (by omega)]at h0;obtain⟨a,qa,ra⟩:=oU (w:=w) Tryz.underlying3 enc sp held m _ _ h0;have h1:=hfs 1 (by omega);rw[List.getElem?_eq_getElem (by omega)]at h1;obtain⟨b,qb,rb⟩:=oU (w:=w) Tryz.underlying3 enc sp held m _ _ h1;refine⟨(a,b),trivial,?_⟩;have ec:cs=(cs.drop (0*1)).take 1++(cs.drop (1*1)).take 1:=by
  match cs,hl with
  |[v0,v1],_=>rfl
 have z:=ra.append rb;rw[<-ec]at z;exact z
theorem b5j (w:World):lG bk Tryz.prog w (λp:List (Int×Int)=>[.sl (Ag p)]) (λN p=>p.length<=N/\∀x∈p,True) 23 :=
 λenc sp held fuel cs x N h hN=>sK a9j (f:=λr:Int×Int=>[.int .i64 r.1,.int .i64 r.2]) (Q:=λ_ _=>True) (sz:=2) Tryz.underlying23 (by kernel_rfl) (λ_=>rfl) (by omega) (Gy (b5d w)) enc sp held fuel cs x N h hN
theorem b5i (w:World):lG bk Tryz.prog w (λc:(Int×(List (Int×Int×Int)×(List (Int×Int)×Unit)))=>([.int .i64 c.1]++([.sl (yY c.2.1)]++([.sl (Ag c.2.2.1)]++[])))) (λN c=>((-9223372036854775808<=c.1/\c.1<=9223372036854775807)/\((c.2.1.length<=N/\∀x∈c.2.1,True)/\((c.2.2.1.length<=N/\∀x∈c.2.2.1,True)/\True)))) 25:=qy a9j (tot:=3) Tryz.underlying25 (by kernel_rfl) (iT (tot:=3) (off:=0) (s:=1) (rd3 w) (by kernel_rfl) (iT (tot:=3) (off:=1) (s:=1) (b5k w) (by kernel_rfl) (iT (tot:=3) (off:=2) (s:=1) (b5j w) (by kernel_rfl) vX)))
theorem b5g (w:World):lG bk Tryz.prog w je (λN=>Sz N) 29:=TP a9j Tryz.underlying29 Tryz.underlying4 Tryz.underlying27 Tryz.underlying73 (by kernel_rfl) (by kernel_rfl) (by kernel_rfl) (by kernel_rfl)
theorem b5h (w:World):lG bk Tryz.prog w (λl:List Nat=>[.sl (dJ l)]) (λN l=>l.length<=N/\Lim l) 27:=EG a9j Tryz.underlying27 Tryz.underlying73 (by kernel_rfl)
theorem b5f (w:World):lG bk Tryz.prog w oh (λN=>SzQ N) 31 :=
 TN (qy a9j (tot:=3) Tryz.underlying31 (by kernel_rfl) (iT (tot:=3) (off:=0) (s:=2) (b5g w) (by kernel_rfl) (iT (tot:=3) (off:=2) (s:=1) (b5h w) (by kernel_rfl) vX)))
set_option maxRecDepth 100000 in
theorem contract (H:Type)(enc:TypeId×Value->H)(W:World)(base:Nat)(args:Array Value)(ds gs:List (DataW H))(before:List MemPlace)
  (hval0:∀(j:Nat) t v,Tryz.f3.params[j]?=some t->args[j]?=some v->Value.okWide Tryz.prog W .any base t v)
  (hW:DataW.Whole enc Tryz.prog Tryz.f3.params.toList Rows.surdCellsSpec.vars false W args.toList ds gs before) (hk:Rows.uptoSmall H (ds++gs)=true) (hL:laidMetH Tryz.prog Rows.surdCellsUptoRow.laid W) :
  Calls Tryz.prog 3 args W λe W'=>∃v,e=.returned v/\Rows.surdCellsSpec.post enc Tryz.prog Tryz.f3 false true false false W args v W':=by
 have hval:∀(j:Nat) t v,Tryz.f3.params[j]?=some t->args[j]?=some v->Value.okWide Tryz.prog W .any base t v:=hval0;have hW':=hW;obtain⟨p,q,hA0,hV,rfl,hfz,hnd⟩:=hW;have hA:DataW.TrodAll enc Tryz.prog W 0 (λ_=>true) true Tryz.f3.params.toList args.toList ds p:=hA0;rw[Tryz.params3]at hA hval;obtain⟨v0,vs0,d0,ds0,p0,q0,hargs,rfl,rfl,h0,r0⟩:=trodAll_cons hA;obtain⟨v1,vs1,d1,ds1,p1,q1,rfl,rfl,rfl,h1,r1⟩:=trodAll_cons r0;obtain⟨rfl,rfl,rfl⟩:=trodAll_nil r1;obtain rfl:args = #[v0,v1]:=by cases args;simp_all
 obtain⟨rfl,rfl⟩:=trodVars_none hV;have k0:=h0;have k1:=h1;have lt0:∀x∈p0,x.block<W.heap.size:=by obtain⟨m,hm⟩:=k0;exact DataW.trod_lt m _ _ _ hm
 have lt1:∀x∈p1,x.block<W.heap.size:=by obtain⟨m,hm⟩:=k1;exact DataW.trod_lt m _ _ _ hm
 obtain⟨b0,rfl,_⟩:=okWide_struct Tryz.underlying25 (hval 0 25 v0 rfl rfl);obtain⟨b1,rfl,_⟩:=okWide_struct Tryz.underlying31 (hval 1 31 v1 rfl rfl);obtain⟨n0,h0⟩:=h0;obtain⟨n1,h1⟩:=h1;have hB:Rows.uptoBulkAll ([d0,d1]++[])<=1048576:=of_decide_eq_true hk;obtain⟨a0,f0,e0⟩:=b5i W enc _ _ _ _ _ 1048576 h0 (Nat.le_trans (GK (by simp)) hB);obtain⟨a1,f1,e1⟩:=b5f W enc _ _ _ _ _ 1048576 h1 (Nat.le_trans (GK (by simp)) hB);clear hA0 hval0;refine(a8y (Ur a0.1 a0.2.1 a0.2.2.1 a1 f0.1.1 f0.1.2 f0.2.1 f0.2.2.1 f1) (boxed (table hL)) Tryz.func3 (by kernel_rfl) (by kernel_rfl) [.agg b0,.agg b1] ⟨⟨_,rfl,e0⟩,⟨_,rfl,e1⟩,trivial⟩).mono λe W' ⟨he,bel⟩=>?_;subst he;exact⟨_,rfl,_,_,_,[],_,[],hW',trodAll_mk1 (shut_bool Tryz.underlying4 _),(trodAll_cons_mk (Below.trod laidOut (by kernel_rfl) (of_decide_eq_true (by kernel_rfl)) k0 bel lt0) (trodAll_cons_mk (Below.trod laidOut (by kernel_rfl) (of_decide_eq_true (by kernel_rfl)) k1 bel lt1) trodAll_mk0)),rfl,bel.frame _,λh=>by cases h⟩
noncomputable def laidWorld (os:Os):World :=
 {World.holding Tryz.prog os ⟨#[],#[],[]⟩ with heap:=(World.holding Tryz.prog os ⟨#[],#[],[]⟩).heap.modify 0 fun
   |.cells _ t frozen=>.cells (Lib.deBruijn64tab.map λ(n:Nat)=>Value.int .u8 (n:Int)).toArray t frozen
   |o=>o }
def arg0:Value:=.agg #[.int .i64 0,.slice none 0 0,.slice none 0 0]
def arg1:Value:=.agg #[.bool false,.slice none 0 0,.slice none 0 0]
theorem laid_met (os:Os):laidMet Tryz.prog Rows.surdCellsUptoRow.laid ((laidWorld os).forCall (λ_ _=>0) ⟨#[],#[arg0,arg1],[]⟩).memory :=
 laidMet_of_run' 8 (by kernel_rfl) (by kernel_rfl)
theorem reads (os:Os){H:Type}(enc:TypeId×Value->H):∃places,DataW.whole enc Tryz.prog ((laidWorld os).forCall (λ_ _=>0) ⟨#[],#[arg0,arg1],[]⟩).memory Tryz.f3.params.toList Rows.surdCellsSpec.vars false #[arg0,arg1].toList 8=some ([.agg [.lit (.int .i64 0),.nil,.nil],.agg [.agg [.lit (.bool false),.nil],.nil]],[],places) :=
 ⟨[],by kernel_rfl⟩
set_option maxRecDepth 100000 in
theorem lifted (os:Os)(started:os.Started)(H:Type)(enc:TypeId×Value->H)(F:Stop.Interp) :
  ReturnsInHanded {} Tryz.checked os 3 .any ((Rows.OpenSpec.upto Rows.surdCellsSpec).preRow enc Tryz.prog Tryz.f3 Rows.surdCellsUptoRow.domain false Rows.surdCellsUptoRow.laid) (((Rows.OpenSpec.upto Rows.surdCellsSpec).at F).post enc Tryz.prog Tryz.f3 false true false false):=by
 obtain⟨places,hx⟩:=reads os enc;refine returnsInHanded_of_row (C:=Tryz.checked) (s:=Rows.OpenSpec.upto Rows.surdCellsSpec) own started (by kernel_rfl) Tryz.func3
  (witness_row_at (enc:=enc) (C:=Tryz.checked) false (laidWorld os) #[arg0,arg1] rfl (by kernel_rfl) (by kernel_rfl) (by kernel_rfl)
   (OpenSpec.preRow_of_cond 8 hx (by kernel_rfl) (λk hk=>by cases hk;kernel_rfl) (by kernel_rfl) (laid_met os))) ?_
 intro W base args ds gs before hval hW _ hcond _ hL _ _;exact contract H enc W base args ds gs before hval hW (hcond _ rfl) hL
theorem a0W:Rows.SurdCellsUptoSaid :=
 OpenClaim.holds_of_cond 3 Tryz.f3 rfl rfl rfl rfl rfl rfl rfl ⟨rfl,rfl,rfl,rfl,rfl⟩ rfl rfl rfl rfl rfl (by kernel_rfl) Tryz.func3 (by kernel_rfl)
  (of_decide_eq_true (by kernel_rfl)) (by unfold Func.isWrapper;first|(rw[if_pos (by decide +kernel)];kernel_rfl)|(rw[if_neg (by decide +kernel)];exact⟨rfl,rfl⟩))
  (λos started H enc _ F=>by rw[OpenClaim.pre_eq_preRow];exact lifted os started H enc F)
theorem a1A (f : FuncId) (fn : Func) (hf : Tryz.pinned.checked.prog.funcNamed "surd/surdtop.SurdCells" = some f) (hfn : Tryz.pinned.checked.prog.funcs[f]? = some fn) :
  false=Tryz.pinned.checked.prog.looks []/\∀(j:Nat) t,fn.params[j]?=some t->Tryz.pinned.checked.prog.wantsStandIn t=false:=by
 obtain rfl : f = 3 := Option.some.inj ((show Tryz.prog.funcNamed "surd/surdtop.SurdCells" = some 3 by kernel_rfl).symm.trans hf) |>.symm
 obtain rfl:fn=Tryz.f3:=(Option.some.inj (Tryz.func3.symm.trans hfn)).symm;refine⟨by kernel_rfl,λj t ht=>?_⟩;rw[Tryz.params3]at ht;have hm:t=25\/t=31:=by simpa using Array.mem_of_getElem? ht
 rcases hm with rfl|rfl
 .exact(show Tryz.prog.wantsStandIn 25=false by kernel_rfl)
 .exact(show Tryz.prog.wantsStandIn 31=false by kernel_rfl)
theorem proved:Rows.SurdCellsUptoCardSaid :=
 Claim7.holds_tied_plain_at .later [] _ _ _ _ a0W (λ_ h=>by cases h) (by kernel_rfl) (λ_ h=>by cases h) surdCellsUpto_row_tie rfl ⟨rfl,rfl⟩ (by kernel_rfl) rfl a1A (by kernel_rfl)
#print axioms proved
end Go.Proofs.YtnhghmibjddlkaaGreatDoor.surdCellsDone
