/-
  The law holds at every input: the last step of its proof.
-/
import Derived.Test.YthpmlibcogifjaaGreatL213
import Derived.Test.YthpmlibcogifjaaGreatAbsT
import Derived.JoinedCond
import Derived.Test.YthpmlibcogifjaaGreatRows
set_option maxHeartbeats 2000000
namespace Go.Proofs.YthpmlibcogifjaaGreat.qpolyRingDone
open Go Go.Proofs Go.AL Go.Proofs.YthpmlibcogifjaaGreat
open Go.ChangeShapes Go.WideShapes Go.ChangeAt Go.RowKit
set_option linter.unusedVariables false
theorem own : ownKnob Tryz.prog.godebug = none := by kernel_rfl
theorem laidOut : laidOutB Tryz.prog = true := by kernel_rfl
theorem one_le {H : Type} (d : DataW H) : 1 ≤ Rows.uptoBulk d := by
  cases d with
  | lit l => cases l <;> simp [Rows.uptoBulk]
  | nil => simp [Rows.uptoBulk]
  | ptr d => simp [Rows.uptoBulk]
  | slice elems spare => simp [Rows.uptoBulk]
  | agg parts => simp [Rows.uptoBulk]
  | iface t d => simp [Rows.uptoBulk]
  | map entries => simp [Rows.uptoBulk]
  | held h => simp [Rows.uptoBulk]
theorem part_le {H : Type} {d : DataW H} {l : List (DataW H)} (h : d ∈ l) : Rows.uptoBulk d ≤ Rows.uptoBulkAll l := by
  induction l with
  | nil => cases h
  | cons x r ih =>
    simp only [Rows.uptoBulkAll]
    cases List.mem_cons.1 h with
    | inl e => subst e; omega
    | inr e => have := ih e; omega
theorem length_le {H : Type} (l : List (DataW H)) : l.length ≤ Rows.uptoBulkAll l := by
  induction l with
  | nil => simp [Rows.uptoBulkAll]
  | cons x r ih => have := one_le x; simp only [Rows.uptoBulkAll, List.length_cons]; omega
def bk {H : Type} (d : DataW H) : Nat := Rows.uptoBulk d
theorem bkOk : BulkOk bk := ⟨fun es sp => by have := length_le es; simp only [bk, Rows.uptoBulk]; omega, fun es sp e h => by have := part_le h; simp only [bk, Rows.uptoBulk]; omega, fun ps e h => by have := part_le h; simp only [bk, Rows.uptoBulk]; omega⟩
theorem rd30 (w : World) : ReadsB bk Tryz.prog w prow (fun N => Sz N) 30 := readsB_int bkOk Tryz.underlying30 Tryz.underlying4 Tryz.underlying28 Tryz.underlying65 (by kernel_rfl) (by kernel_rfl) (by kernel_rfl) (by kernel_rfl)
theorem rd28 (w : World) : ReadsB bk Tryz.prog w (fun l : List Nat => [.sl (lims l)]) (fun N l => l.length ≤ N ∧ Lim l) 28 := readsB_nat bkOk Tryz.underlying28 Tryz.underlying65 (by kernel_rfl)
theorem rd32 (w : World) : ReadsB bk Tryz.prog w qrow (fun N => SzQ N) 32 :=
  readsB_rat (readsB_struct bkOk (tot := 3) Tryz.underlying32 (by kernel_rfl) (fieldsB_cons (tot := 3) (off := 0) (s := 2) (rd30 w) (by kernel_rfl) (fieldsB_cons (tot := 3) (off := 2) (s := 1) (rd28 w) (by kernel_rfl) fieldsB_nil)))
theorem rd23 (w : World) : ReadsB bk Tryz.prog w (fun p : List RQ => [.sl (rats p)]) (fun N p => BQ N N p) 23 :=
  fun enc sp held fuel cs x N h hN => readsB_slice bkOk (f := qrow) (Q := fun N => SzQ N) (sz := 3) Tryz.underlying23 (by kernel_rfl) (fun _ => rfl) (by omega) (rd32 w) enc sp held fuel cs x N h hN
theorem rd3 (w : World) : ReadsB bk Tryz.prog w (fun x : Int => [.int .i64 x]) (fun _ x => -9223372036854775808 ≤ x ∧ x ≤ 9223372036854775807) 3 := reads_b (reads_i64 Tryz.underlying3)
set_option maxRecDepth 100000 in
theorem contract (H : Type) (enc : TypeId × Value → H) (W : World) (base : Nat) (args : Array Value) (ds gs : List (DataW H)) (before : List MemPlace)
    (hval0 : ∀ (j : Nat) t v, Tryz.f3.params[j]? = some t → args[j]? = some v → Value.okWide Tryz.prog W .any base t v)
    (hW : DataW.Whole enc Tryz.prog Tryz.f3.params.toList Rows.qpolyRingSpec.vars false W args.toList ds gs before) (hk : Rows.uptoSmall H (ds ++ gs) = true) :
    Calls Tryz.prog 3 args W fun e W' => ∃ v, e = .returned v ∧ Rows.qpolyRingSpec.post enc Tryz.prog Tryz.f3 false true false false W args v W' := by
  have hval : ∀ (j : Nat) t v, Tryz.f3.params[j]? = some t → args[j]? = some v → Value.okWide Tryz.prog W .any base t v := hval0
  have hW' := hW
  obtain ⟨p, q, hA0, hV, rfl, hfz, hnd⟩ := hW
  have hA : DataW.TrodAll enc Tryz.prog W 0 (fun _ => true) true Tryz.f3.params.toList args.toList ds p := hA0
  rw [Tryz.params3] at hA hval
  obtain ⟨v0, vs0, d0, ds0, p0, q0, hargs, rfl, rfl, h0, r0⟩ := trodAll_cons hA
  obtain ⟨v1, vs1, d1, ds1, p1, q1, rfl, rfl, rfl, h1, r1⟩ := trodAll_cons r0
  obtain ⟨v2, vs2, d2, ds2, p2, q2, rfl, rfl, rfl, h2, r2⟩ := trodAll_cons r1
  obtain ⟨rfl, rfl, rfl⟩ := trodAll_nil r2
  obtain rfl : args = #[v0, v1, v2] := by cases args; simp_all
  obtain ⟨rfl, rfl⟩ := trodVars_none hV
  have k0 := h0
  have k1 := h1
  have k2 := h2
  have lt0 : ∀ x ∈ p0, x.block < W.heap.size := by obtain ⟨m, hm⟩ := k0; exact DataW.trod_lt m _ _ _ hm
  have lt1 : ∀ x ∈ p1, x.block < W.heap.size := by obtain ⟨m, hm⟩ := k1; exact DataW.trod_lt m _ _ _ hm
  have lt2 : ∀ x ∈ p2, x.block < W.heap.size := by obtain ⟨m, hm⟩ := k2; exact DataW.trod_lt m _ _ _ hm
  obtain ⟨b0, len0, cap0, rfl⟩ := okWide_slice Tryz.underlying23 (hval 0 23 v0 rfl rfl)
  obtain ⟨b1, len1, cap1, rfl⟩ := okWide_slice Tryz.underlying23 (hval 1 23 v1 rfl rfl)
  obtain ⟨b2, rfl⟩ := okWide_int Tryz.underlying3 (hval 2 3 v2 rfl rfl)
  obtain ⟨n0, h0⟩ := h0
  obtain ⟨n1, h1⟩ := h1
  obtain ⟨n2, h2⟩ := h2
  have hB : Rows.uptoBulkAll ([d0, d1, d2] ++ []) ≤ 1048576 := of_decide_eq_true hk
  obtain ⟨a0, f0, e0⟩ := rd23 W enc _ _ _ _ _ 1048576 h0 (Nat.le_trans (part_le (by simp)) hB)
  obtain ⟨a1, f1, e1⟩ := rd23 W enc _ _ _ _ _ 1048576 h1 (Nat.le_trans (part_le (by simp)) hB)
  obtain ⟨a2, f2, e2⟩ := rd3 W enc _ _ _ _ _ 1048576 h2 (Nat.le_trans (part_le (by simp)) hB)
  clear hA0 hval0
  refine (AC.law (ring_law a0 a1 a2 f0 f1 f2.1 f2.2) Tryz.func3 (by kernel_rfl) (by kernel_rfl) [.slice b0 len0 cap0, .slice b1 len1 cap1, .int .i64 b2] ⟨e0.1, e1.1, e2.1, trivial⟩).mono fun e W' ⟨he, bel⟩ => ?_
  subst he
  exact ⟨_, rfl, _, _, _, [], _, [], hW', trodAll_mk1 (shut_bool Tryz.underlying4 _), (trodAll_cons_mk (Below.trod laidOut (by kernel_rfl) (of_decide_eq_true (by kernel_rfl)) k0 bel lt0) (trodAll_cons_mk (Below.trod laidOut (by kernel_rfl) (of_decide_eq_true (by kernel_rfl)) k1 bel lt1) (trodAll_cons_mk (Below.trod laidOut (by kernel_rfl) (of_decide_eq_true (by kernel_rfl)) k2 bel lt2) trodAll_mk0))), rfl, bel.frame _, fun h => by cases h⟩
set_option maxRecDepth 100000 in
theorem lifted (os : Os) (started : os.Started) (H : Type) (enc : TypeId × Value → H) (F : Stop.Interp) :
    ReturnsInHanded {} Tryz.checked os 3 .any ((Rows.OpenSpec.upto Rows.qpolyRingSpec).pre6 enc Tryz.prog Tryz.f3 Rows.qpolyRingUptoRow.domain false) (((Rows.OpenSpec.upto Rows.qpolyRingSpec).at F).post enc Tryz.prog Tryz.f3 false true false false) := by
  refine returnsInHanded_of_cond (C := Tryz.checked) (s := Rows.OpenSpec.upto Rows.qpolyRingSpec) (k := Rows.uptoSmall) rfl own started (by kernel_rfl) Tryz.func3
    (OpenSpec.witness (enc := enc) (C := Tryz.checked) (s := Rows.OpenSpec.upto Rows.qpolyRingSpec) (k := Rows.uptoSmall) rfl false ⟨#[], #[.slice none 0 0, .slice none 0 0, .int .i64 0], []⟩ 8 (by kernel_rfl) (by kernel_rfl) (by kernel_rfl)
      (x := ([.nil, .nil, .lit (.int .i64 0)], [], [])) (by kernel_rfl) rfl (by kernel_rfl)) ?_
  intro W base args ds gs before hval hW _ hk _
  exact contract H enc W base args ds gs before hval hW hk
theorem proved : Rows.QpolyRingUptoSaid :=
  OpenClaim.holds_of_cond 3 Tryz.f3 rfl rfl rfl rfl rfl rfl rfl ⟨rfl, rfl, rfl, rfl, rfl⟩ rfl rfl rfl rfl rfl (by kernel_rfl) Tryz.func3 (by kernel_rfl)
    (of_decide_eq_true (by kernel_rfl)) (by unfold Func.isWrapper; first | (rw [if_pos (by decide +kernel)]; kernel_rfl) | (rw [if_neg (by decide +kernel)]; exact ⟨rfl, rfl⟩))
    (fun os started H enc _ F => lifted os started H enc F)
#print axioms proved
end Go.Proofs.YthpmlibcogifjaaGreat.qpolyRingDone
