/-
  The law holds at every input: the last step of its proof.
-/
import Derived.Test.YthbobdhkbgggjaaGreatL117M
import Derived.Test.YthbobdhkbgggjaaGreatAbsT
import Derived.JoinedCond
import Derived.Test.YthbobdhkbgggjaaGreatRows
set_option maxHeartbeats 2000000
namespace Go.Proofs.YthbobdhkbgggjaaGreat.sqfBuildsDone
open Go Go.Proofs Go.AL Go.Proofs.YthbobdhkbgggjaaGreat
open Go.ChangeShapes Go.WideShapes Go.ChangeAt Go.RowKit
set_option linter.unusedVariables false
theorem own : ownKnob Tryz.prog.godebug = none := by kernel_rfl
theorem laidOut : laidOutB Tryz.prog = true := by kernel_rfl
theorem one_le {H : Type} (d : DataW H) : 1 ≤ Rows.uptoBulk d := by
  cases d with
  | lit l => cases l <;> simp [Rows.uptoBulk]
  | nil => simp [Rows.uptoBulk]
  | ptr d => simp [Rows.uptoBulk]
  | slice elems spare => simp [Rows.uptoBulk]
  | agg parts => simp [Rows.uptoBulk]
  | iface t d => simp [Rows.uptoBulk]
  | map entries => simp [Rows.uptoBulk]
  | held h => simp [Rows.uptoBulk]
theorem part_le {H : Type} {d : DataW H} {l : List (DataW H)} (h : d ∈ l) : Rows.uptoBulk d ≤ Rows.uptoBulkAll l := by
  induction l with
  | nil => cases h
  | cons x r ih =>
    simp only [Rows.uptoBulkAll]
    cases List.mem_cons.1 h with
    | inl e => subst e; omega
    | inr e => have := ih e; omega
theorem length_le {H : Type} (l : List (DataW H)) : l.length ≤ Rows.uptoBulkAll l := by
  induction l with
  | nil => simp [Rows.uptoBulkAll]
  | cons x r ih => have := one_le x; simp only [Rows.uptoBulkAll, List.length_cons]; omega
def bk {H : Type} (d : DataW H) : Nat := Rows.uptoBulk d
theorem bkOk : BulkOk bk := ⟨fun es sp => by have := length_le es; simp only [bk, Rows.uptoBulk]; omega, fun es sp e h => by have := part_le h; simp only [bk, Rows.uptoBulk]; omega, fun ps e h => by have := part_le h; simp only [bk, Rows.uptoBulk]; omega⟩
theorem rd43 (w : World) : ReadsB bk Tryz.prog w prow (fun N => Sz N) 43 := readsB_int bkOk Tryz.underlying43 Tryz.underlying4 Tryz.underlying41 Tryz.underlying70 (by kernel_rfl) (by kernel_rfl) (by kernel_rfl) (by kernel_rfl)
theorem rd3 (w : World) : ReadsB bk Tryz.prog w (fun x : Int => [.int .i64 x]) (fun _ x => -9223372036854775808 ≤ x ∧ x ≤ 9223372036854775807) 3 := reads_b (reads_i64 Tryz.underlying3)
theorem all_sum {H : Type} : ∀ (l : List (DataW H)), (l.map fun d => bk d).sum = Rows.uptoBulkAll l
  | [] => rfl
  | x :: r => by rw [List.map_cons, List.sum_cons, all_sum r]; rfl
theorem bkSum {H : Type} (es sp : List (DataW H)) : (es.map fun d => bk d).sum ≤ bk (.slice es sp) := by
  rw [all_sum]; simp only [bk, Rows.uptoBulk]; omega
theorem rdP (w : World) : ReadsB bk Tryz.prog w (fun p : List RI => [.sl (raws p)]) (fun N p => RP N N p ∧ (p.map fun c => c.2.length).sum ≤ N) 26 :=
  fun enc sp held fuel cs x N h hN => readsB_sum bkOk bkSum (fun c : RI => c.2.length) (f := prow) (Q := fun N => Sz N) (sz := 2) (fun N c h => h.1) (fun N N' c h k => k.mono h) Tryz.underlying26 (by kernel_rfl) (fun _ => rfl) (by omega) (rd43 w) enc sp held fuel cs x N h hN
theorem rdF (w : World) : ReadsB bk Tryz.prog w (fun f : Fac => [.sl (raws f.1), .int .i64 f.2]) (fun N f => (RP N N f.1 ∧ (f.1.map fun c => c.2.length).sum ≤ N) ∧ -9223372036854775808 ≤ f.2 ∧ f.2 ≤ 9223372036854775807) 39 := fun enc sp held fuel cs x N h hN => by
  obtain ⟨c, hq, hr⟩ := readsB_struct bkOk (tot := 2) Tryz.underlying39 (by kernel_rfl) (fieldsB_cons (tot := 2) (off := 0) (s := 1) (rdP w) (by kernel_rfl) (fieldsB_cons (tot := 2) (off := 1) (s := 1) (rd3 w) (by kernel_rfl) fieldsB_nil)) enc sp held fuel cs x N h hN
  exact ⟨(c.1, c.2.1), ⟨hq.1, hq.2.1⟩, hr⟩
theorem rd22 (w : World) : ReadsB bk Tryz.prog w (fun p : List Fac => [.sl (facs p)]) (fun N p => p.length ≤ N ∧ ∀ f ∈ p, ((RP N N f.1 ∧ (f.1.map fun c => c.2.length).sum ≤ N) ∧ -9223372036854775808 ≤ f.2 ∧ f.2 ≤ 9223372036854775807)) 22 :=
  fun enc sp held fuel cs x N h hN => readsB_slice bkOk (f := fun f : Fac => [.sl (raws f.1), .int .i64 f.2]) (Q := fun N f => (RP N N f.1 ∧ (f.1.map fun c => c.2.length).sum ≤ N) ∧ -9223372036854775808 ≤ f.2 ∧ f.2 ≤ 9223372036854775807) (sz := 2) Tryz.underlying22 (by kernel_rfl) (fun _ => rfl) (by omega) (rdF w) enc sp held fuel cs x N h hN
set_option maxRecDepth 100000 in
theorem contract (H : Type) (enc : TypeId × Value → H) (W : World) (base : Nat) (args : Array Value) (ds gs : List (DataW H)) (before : List MemPlace)
    (hval0 : ∀ (j : Nat) t v, Tryz.f3.params[j]? = some t → args[j]? = some v → Value.okWide Tryz.prog W .any base t v)
    (hW : DataW.Whole enc Tryz.prog Tryz.f3.params.toList Rows.sqfBuildsSpec.vars false W args.toList ds gs before) (hk : Rows.uptoSmall H (ds ++ gs) = true) :
    Calls Tryz.prog 3 args W fun e W' => ∃ v, e = .returned v ∧ Rows.sqfBuildsSpec.post enc Tryz.prog Tryz.f3 false true false false W args v W' := by
  have hval : ∀ (j : Nat) t v, Tryz.f3.params[j]? = some t → args[j]? = some v → Value.okWide Tryz.prog W .any base t v := hval0
  have hW' := hW
  obtain ⟨p, q, hA0, hV, rfl, hfz, hnd⟩ := hW
  have hA : DataW.TrodAll enc Tryz.prog W 0 (fun _ => true) true Tryz.f3.params.toList args.toList ds p := hA0
  rw [Tryz.params3] at hA hval
  obtain ⟨v0, vs0, d0, ds0, p0, q0, hargs, rfl, rfl, h0, r0⟩ := trodAll_cons hA
  obtain ⟨rfl, rfl, rfl⟩ := trodAll_nil r0
  obtain rfl : args = #[v0] := by cases args; simp_all
  obtain ⟨rfl, rfl⟩ := trodVars_none hV
  have k0 := h0
  have lt0 : ∀ x ∈ p0, x.block < W.heap.size := by obtain ⟨m, hm⟩ := k0; exact DataW.trod_lt m _ _ _ hm
  obtain ⟨b0, len0, cap0, rfl⟩ := okWide_slice Tryz.underlying22 (hval 0 22 v0 rfl rfl)
  obtain ⟨n0, h0⟩ := h0
  have hB : Rows.uptoBulkAll ([d0] ++ []) ≤ 1048576 := of_decide_eq_true hk
  obtain ⟨a0, f0, e0⟩ := rd22 W enc _ _ _ _ _ 1048576 h0 (Nat.le_trans (part_le (by simp)) hB)
  clear hA0 hval0
  refine (AC.law (builds_law a0 f0) Tryz.func3 (by kernel_rfl) (by kernel_rfl) [.slice b0 len0 cap0] ⟨e0.1, trivial⟩).mono fun e W' ⟨he, bel⟩ => ?_
  subst he
  exact ⟨_, rfl, _, _, _, [], _, [], hW', trodAll_mk1 (shut_bool Tryz.underlying4 _), (trodAll_cons_mk (Below.trod laidOut (by kernel_rfl) (of_decide_eq_true (by kernel_rfl)) k0 bel lt0) trodAll_mk0), rfl, bel.frame _, fun h => by cases h⟩
set_option maxRecDepth 100000 in
theorem lifted (os : Os) (started : os.Started) (H : Type) (enc : TypeId × Value → H) (F : Stop.Interp) :
    ReturnsInHanded {} Tryz.checked os 3 .any ((Rows.OpenSpec.upto Rows.sqfBuildsSpec).pre6 enc Tryz.prog Tryz.f3 Rows.sqfBuildsUptoRow.domain false) (((Rows.OpenSpec.upto Rows.sqfBuildsSpec).at F).post enc Tryz.prog Tryz.f3 false true false false) := by
  refine returnsInHanded_of_cond (C := Tryz.checked) (s := Rows.OpenSpec.upto Rows.sqfBuildsSpec) (k := Rows.uptoSmall) rfl own started (by kernel_rfl) Tryz.func3
    (OpenSpec.witness (enc := enc) (C := Tryz.checked) (s := Rows.OpenSpec.upto Rows.sqfBuildsSpec) (k := Rows.uptoSmall) rfl false ⟨#[], #[.slice none 0 0], []⟩ 8 (by kernel_rfl) (by kernel_rfl) (by kernel_rfl)
      (x := ([.nil], [], [])) (by kernel_rfl) rfl (by kernel_rfl)) ?_
  intro W base args ds gs before hval hW _ hk _
  exact contract H enc W base args ds gs before hval hW hk
theorem proved : Rows.SqfBuildsUptoSaid :=
  OpenClaim.holds_of_cond 3 Tryz.f3 rfl rfl rfl rfl rfl rfl rfl ⟨rfl, rfl, rfl, rfl, rfl⟩ rfl rfl rfl rfl rfl (by kernel_rfl) Tryz.func3 (by kernel_rfl)
    (of_decide_eq_true (by kernel_rfl)) (by unfold Func.isWrapper; first | (rw [if_pos (by decide +kernel)]; kernel_rfl) | (rw [if_neg (by decide +kernel)]; exact ⟨rfl, rfl⟩))
    (fun os started H enc _ F => lifted os started H enc F)
#print axioms proved
end Go.Proofs.YthbobdhkbgggjaaGreat.sqfBuildsDone
