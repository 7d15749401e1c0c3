/-
 The law holds at every input: the last step of its proof.
-/
import Derived.Test.YtdpngipofekcfaaGreatL447M
import Derived.Test.YtdpngipofekcfaaGreatAbsT
import Derived.JoinedCond
import Derived.Test.YtdpngipofekcfaaGreatRows
set_option maxHeartbeats 2000000
namespace Go.Proofs.YtdpngipofekcfaaGreat.qpolyApartDone
open Go Go.Proofs Go.AL Go.Proofs.YtdpngipofekcfaaGreat
open Go.ChangeShapes Go.WideShapes Go.ChangeAt Go.RowKit
set_option linter.unusedVariables false
theorem own:ownKnob Tryz.prog.godebug=none:=by kernel_rfl
theorem TR {bk:{H:Type}→DataW H→Nat}{P:Program}{w:World}{t:TypeId}(h:pX bk P w (fun c:(RI×(List Nat×Unit))=>lQ c.1++([.sl (bW c.2.1)]++[])) (fun N c=>Sz N c.1∧((c.2.1.length≤N∧Lim c.2.1)∧True)) t):pX bk P w nJ (fun N=>SzQ N) t:=fun enc sp held fuel cs x N hx hN=>by
 obtain⟨a,f,e⟩:=h enc sp held fuel cs x N hx hN;exact⟨(a.1,a.2.1),⟨f.1,f.2.1⟩,e⟩
theorem laidOut:laidOutB Tryz.prog=true:=by kernel_rfl
theorem one_le {H:Type}(d:DataW H):1≤Rows.uptoBulk d:=by
 cases d with
 | lit l=>cases l<;>simp[Rows.uptoBulk]
 | nil=>simp[Rows.uptoBulk]
 | ptr d=>simp[Rows.uptoBulk]
 | slice elems spare=>simp[Rows.uptoBulk]
 | agg parts=>simp[Rows.uptoBulk]
 | iface t d=>simp[Rows.uptoBulk]
 | map entries=>simp[Rows.uptoBulk]
 | held h=>simp[Rows.uptoBulk]
theorem Ia {H:Type}{d:DataW H}{l:List (DataW H)}(h:d∈l):Rows.uptoBulk d≤Rows.uptoBulkAll l:=by
 induction l with
 | nil=>cases h
 | cons x r ih =>
  simp only[Rows.uptoBulkAll];cases List.mem_cons.1 h with
  | inl e=>subst e;omega
  | inr e=>have:=ih e;omega
theorem length_le {H:Type}(l:List (DataW H)):l.length≤Rows.uptoBulkAll l:=by
 induction l with
 | nil=>simp[Rows.uptoBulkAll]
 | cons x r ih=>have:=one_le x;simp only[Rows.uptoBulkAll,List.length_cons];omega
def bk {H:Type}(d:DataW H):Nat:=Rows.uptoBulk d
theorem a8b:NJ bk:=⟨fun es sp=>by have:=length_le es;simp only[bk,Rows.uptoBulk];omega,fun es sp e h=>by have:=Ia h;simp only[bk,Rows.uptoBulk];omega,fun ps e h=>by have:=Ia h;simp only[bk,Rows.uptoBulk];omega⟩
theorem b0L (w:World):pX bk Tryz.prog w lQ (fun N=>Sz N) 30:=TS a8b Tryz.underlying30 Tryz.underlying4 Tryz.underlying28 Tryz.underlying148 (by kernel_rfl) (by kernel_rfl) (by kernel_rfl) (by kernel_rfl)
theorem b0M (w:World):pX bk Tryz.prog w (fun l:List Nat=>[.sl (bW l)]) (fun N l=>l.length≤N∧Lim l) 28:=Fz a8b Tryz.underlying28 Tryz.underlying148 (by kernel_rfl)
theorem b0K (w:World):pX bk Tryz.prog w nJ (fun N=>SzQ N) 32 :=
 TR (wI a8b (tot:=3) Tryz.underlying32 (by kernel_rfl) (o8 (tot:=3) (off:=0) (s:=2) (b0L w) (by kernel_rfl) (o8 (tot:=3) (off:=2) (s:=1) (b0M w) (by kernel_rfl) DK)))
theorem a9w (w:World):pX bk Tryz.prog w (fun p:List RQ=>[.sl (fD p)]) (fun N p=>BQ N N p) 23 :=
 fun enc sp held fuel cs x N h hN=>zG a8b (f:=nJ) (Q:=fun N=>SzQ N) (sz:=3) Tryz.underlying23 (by kernel_rfl) (fun _=>rfl) (by omega) (b0K w) enc sp held fuel cs x N h hN
set_option maxRecDepth 100000 in
theorem contract (H:Type)(enc:TypeId×Value→H)(W:World)(base:Nat)(args:Array Value)(ds gs:List (DataW H))(before:List MemPlace)
  (hval0:∀ (j:Nat) t v,Tryz.f3.params[j]?=some t→args[j]?=some v→Value.okWide Tryz.prog W .any base t v)
  (hW:DataW.Whole enc Tryz.prog Tryz.f3.params.toList Rows.qpolyApartSpec.vars false W args.toList ds gs before) (hk:Rows.uptoSmall H (ds++gs)=true) :
  Calls Tryz.prog 3 args W fun e W'=>∃ v,e=.returned v∧Rows.qpolyApartSpec.post enc Tryz.prog Tryz.f3 false true false false W args v W':=by
 have hval:∀ (j:Nat) t v,Tryz.f3.params[j]?=some t→args[j]?=some v→Value.okWide Tryz.prog W .any base t v:=hval0;have hW':=hW;obtain⟨p,q,hA0,hV,rfl,hfz,hnd⟩:=hW;have hA:DataW.TrodAll enc Tryz.prog W 0 (fun _=>true) true Tryz.f3.params.toList args.toList ds p:=hA0;rw[Tryz.params3]at hA hval;obtain⟨v0,vs0,d0,ds0,p0,q0,hargs,rfl,rfl,h0,r0⟩:=trodAll_cons hA;obtain⟨v1,vs1,d1,ds1,p1,q1,rfl,rfl,rfl,h1,r1⟩:=trodAll_cons r0;obtain⟨rfl,rfl,rfl⟩:=trodAll_nil r1;obtain rfl:args = #[v0,v1]:=by cases args;simp_all
 obtain⟨rfl,rfl⟩:=trodVars_none hV;have k0:=h0;have k1:=h1;have lt0:∀ x∈p0,x.block<W.heap.size:=by obtain⟨m,hm⟩:=k0;exact DataW.trod_lt m _ _ _ hm
 have lt1:∀ x∈p1,x.block<W.heap.size:=by obtain⟨m,hm⟩:=k1;exact DataW.trod_lt m _ _ _ hm
 obtain⟨b0,len0,cap0,rfl⟩:=okWide_slice Tryz.underlying23 (hval 0 23 v0 rfl rfl);obtain⟨b1,len1,cap1,rfl⟩:=okWide_slice Tryz.underlying23 (hval 1 23 v1 rfl rfl);obtain⟨n0,h0⟩:=h0;obtain⟨n1,h1⟩:=h1;have hB:Rows.uptoBulkAll ([d0,d1]++[])≤1048576:=of_decide_eq_true hk;obtain⟨a0,f0,e0⟩:=a9w W enc _ _ _ _ _ 1048576 h0 (Nat.le_trans (Ia (by simp)) hB);obtain⟨a1,f1,e1⟩:=a9w W enc _ _ _ _ _ 1048576 h1 (Nat.le_trans (Ia (by simp)) hB);clear hA0 hval0;refine(AC.law (U4 a0 a1 f0 f1) Tryz.func3 (by kernel_rfl) (by kernel_rfl) [.slice b0 len0 cap0,.slice b1 len1 cap1] ⟨e0.1,e1.1,trivial⟩).mono fun e W' ⟨he,bel⟩=>?_;subst he;exact⟨_,rfl,_,_,_,[],_,[],hW',trodAll_mk1 (shut_bool Tryz.underlying4 _),(trodAll_cons_mk (Below.trod laidOut (by kernel_rfl) (of_decide_eq_true (by kernel_rfl)) k0 bel lt0) (trodAll_cons_mk (Below.trod laidOut (by kernel_rfl) (of_decide_eq_true (by kernel_rfl)) k1 bel lt1) trodAll_mk0)),rfl,bel.frame _,fun h=>by cases h⟩
set_option maxRecDepth 100000 in
theorem lifted (os:Os)(started:os.Started)(H:Type)(enc:TypeId×Value→H)(F:Stop.Interp) :
  ReturnsInHanded {} Tryz.checked os 3 .any ((Rows.OpenSpec.upto Rows.qpolyApartSpec).pre6 enc Tryz.prog Tryz.f3 Rows.qpolyApartUptoRow.domain false) (((Rows.OpenSpec.upto Rows.qpolyApartSpec).at F).post enc Tryz.prog Tryz.f3 false true false false):=by
 refine returnsInHanded_of_cond (C:=Tryz.checked) (s:=Rows.OpenSpec.upto Rows.qpolyApartSpec) (k:=Rows.uptoSmall) rfl own started (by kernel_rfl) Tryz.func3
  (OpenSpec.witness (enc:=enc) (C:=Tryz.checked) (s:=Rows.OpenSpec.upto Rows.qpolyApartSpec) (k:=Rows.uptoSmall) rfl false ⟨#[],#[.slice none 0 0,.slice none 0 0],[]⟩ 8 (by kernel_rfl) (by kernel_rfl) (by kernel_rfl)
   (x:=([.nil,.nil],[],[])) (by kernel_rfl) rfl (by kernel_rfl)) ?_
 intro W base args ds gs before hval hW _ hk _;exact contract H enc W base args ds gs before hval hW hk
theorem proved:Rows.QpolyApartUptoSaid :=
 OpenClaim.holds_of_cond 3 Tryz.f3 rfl rfl rfl rfl rfl rfl rfl ⟨rfl,rfl,rfl,rfl,rfl⟩ rfl rfl rfl rfl rfl (by kernel_rfl) Tryz.func3 (by kernel_rfl)
  (of_decide_eq_true (by kernel_rfl)) (by unfold Func.isWrapper;first|(rw[if_pos (by decide +kernel)];kernel_rfl)|(rw[if_neg (by decide +kernel)];exact⟨rfl,rfl⟩))
  (fun os started H enc _ F=>lifted os started H enc F)
#print axioms proved
end Go.Proofs.YtdpngipofekcfaaGreat.qpolyApartDone
