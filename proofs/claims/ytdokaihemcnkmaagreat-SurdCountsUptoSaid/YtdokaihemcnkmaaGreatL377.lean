/-
 The law holds at every input: the last step of its proof.
-/
import Derived.Test.YtdokaihemcnkmaaGreatL370M
import Derived.Test.YtdokaihemcnkmaaGreatAbsT
import Derived.JoinedCond
import Derived.Test.YtdokaihemcnkmaaGreatRows
set_option maxHeartbeats 2000000
namespace Go.Proofs.YtdokaihemcnkmaaGreat.surdCountsDone
open Go Go.Proofs Go.AL Go.Proofs.YtdokaihemcnkmaaGreat
open Go.ChangeShapes Go.WideShapes Go.ChangeAt Go.RowKit
set_option linter.unusedVariables false
theorem own : ownKnob Tryz.prog.godebug = none := by kernel_rfl
theorem readsB_rat {bk : {H : Type} → DataW H → Nat} {P : Program} {w : World} {t : TypeId} (h : ReadsB bk P w (fun c : (RI × (List Nat × Unit)) => prow c.1 ++ ([.sl (lims c.2.1)] ++ [])) (fun N c => Sz N c.1 ∧ ((c.2.1.length ≤ N ∧ Lim c.2.1) ∧ True)) t) : ReadsB bk P w qrow (fun N => SzQ N) t := fun enc sp held fuel cs x N hx hN => by
 obtain ⟨a, f, e⟩ := h enc sp held fuel cs x N hx hN
 exact ⟨(a.1, a.2.1), ⟨f.1, f.2.1⟩, e⟩
theorem laidOut : laidOutB Tryz.prog = true := by kernel_rfl
theorem one_le {H : Type} (d : DataW H) : 1 ≤ Rows.uptoBulk d := by
 cases d with
 | lit l => cases l <;> simp [Rows.uptoBulk]
 | nil => simp [Rows.uptoBulk]
 | ptr d => simp [Rows.uptoBulk]
 | slice elems spare => simp [Rows.uptoBulk]
 | agg parts => simp [Rows.uptoBulk]
 | iface t d => simp [Rows.uptoBulk]
 | map entries => simp [Rows.uptoBulk]
 | held h => simp [Rows.uptoBulk]
theorem part_le {H : Type} {d : DataW H} {l : List (DataW H)} (h : d ∈ l) : Rows.uptoBulk d ≤ Rows.uptoBulkAll l := by
 induction l with
 | nil => cases h
 | cons x r ih =>
  simp only [Rows.uptoBulkAll]
  cases List.mem_cons.1 h with
  | inl e => subst e; omega
  | inr e => have := ih e; omega
theorem length_le {H : Type} (l : List (DataW H)) : l.length ≤ Rows.uptoBulkAll l := by
 induction l with
 | nil => simp [Rows.uptoBulkAll]
 | cons x r ih => have := one_le x; simp only [Rows.uptoBulkAll, List.length_cons]; omega
def bk {H : Type} (d : DataW H) : Nat := Rows.uptoBulk d
theorem bkOk : BulkOk bk := ⟨fun es sp => by have := length_le es; simp only [bk, Rows.uptoBulk]; omega, fun es sp e h => by have := part_le h; simp only [bk, Rows.uptoBulk]; omega, fun ps e h => by have := part_le h; simp only [bk, Rows.uptoBulk]; omega⟩
theorem rd3 (w : World) : ReadsB bk Tryz.prog w (fun x : Int => [.int .i64 x]) (fun _ x => -9223372036854775808 ≤ x ∧ x ≤ 9223372036854775807) 3 := reads_b (reads_i64 Tryz.underlying3)
theorem rdKn (w : World) : Reads Tryz.prog w (fun r : Int × Int × Int => [.int .i64 r.1, .int .i64 r.2.1, .int .i64 r.2.2]) (fun _ => True) 201 := fun enc sp held fuel cs x h => by
 obtain ⟨c, hq, hr⟩ := reads_struct (tot := 3) Tryz.underlying201 (by kernel_rfl) (fields_cons (tot := 3) (off := 0) (s := 1) (reads_i64 (w := w) Tryz.underlying3) (by kernel_rfl) (fields_cons (tot := 3) (off := 1) (s := 1) (reads_i64 (w := w) Tryz.underlying3) (by kernel_rfl) (fields_cons (tot := 3) (off := 2) (s := 1) (reads_i64 (w := w) Tryz.underlying3) (by kernel_rfl) fields_nil))) enc sp held fuel cs x h
 exact ⟨(c.1, c.2.1, c.2.2.1), trivial, hr⟩
theorem rd125 (w : World) : ReadsB bk Tryz.prog w (fun p : List (Int × Int × Int) => [.sl (krows p)]) (fun N p => p.length ≤ N ∧ ∀ x ∈ p, True) 125 :=
 fun enc sp held fuel cs x N h hN => readsB_slice bkOk (f := fun r : Int × Int × Int => [.int .i64 r.1, .int .i64 r.2.1, .int .i64 r.2.2]) (Q := fun _ _ => True) (sz := 3) Tryz.underlying125 (by kernel_rfl) (fun _ => rfl) (by omega) (reads_b (rdKn w)) enc sp held fuel cs x N h hN
theorem rdQ2 (w : World) : Reads Tryz.prog w (fun r : Int × Int => [.int .i64 r.1, .int .i64 r.2]) (fun _ => True) 205 := fun enc sp held fuel cs x h => by
 obtain ⟨xs, m, _, _, hl, hxs, hfs⟩ := DataW.trod_array Tryz.underlying205 h
 have ce : Tryz.prog.cellsOf 3 = 1 := by kernel_rfl
 have ct : Tryz.prog.cellsOf 205 = 2 := by kernel_rfl
 rw [ct] at hl
 rw [ce] at hfs
 clear ce ct
 have h0 := hfs 0 (by omega)
 rw [List.getElem?_eq_getElem (by omega)] at h0
 obtain ⟨a, qa, ra⟩ := reads_i64 (w := w) Tryz.underlying3 enc sp held m _ _ h0
 have h1 := hfs 1 (by omega)
 rw [List.getElem?_eq_getElem (by omega)] at h1
 obtain ⟨b, qb, rb⟩ := reads_i64 (w := w) Tryz.underlying3 enc sp held m _ _ h1
 refine ⟨(a, b), trivial, ?_⟩
 have ec : cs = (cs.drop (0 * 1)).take 1 ++ (cs.drop (1 * 1)).take 1 := by
  match cs, hl with
  | [v0, v1], _ => rfl
 have z := ra.append rb
 rw [← ec] at z
 exact z
theorem rd126 (w : World) : ReadsB bk Tryz.prog w (fun p : List (Int × Int) => [.sl (qrows p)]) (fun N p => p.length ≤ N ∧ ∀ x ∈ p, True) 126 :=
 fun enc sp held fuel cs x N h hN => readsB_slice bkOk (f := fun r : Int × Int => [.int .i64 r.1, .int .i64 r.2]) (Q := fun _ _ => True) (sz := 2) Tryz.underlying126 (by kernel_rfl) (fun _ => rfl) (by omega) (reads_b (rdQ2 w)) enc sp held fuel cs x N h hN
theorem rd128 (w : World) : ReadsB bk Tryz.prog w (fun c : (Int × (List (Int × Int × Int) × (List (Int × Int) × Unit))) => ([.int .i64 c.1] ++ ([.sl (krows c.2.1)] ++ ([.sl (qrows c.2.2.1)] ++ [])))) (fun N c => ((-9223372036854775808 ≤ c.1 ∧ c.1 ≤ 9223372036854775807) ∧ ((c.2.1.length ≤ N ∧ ∀ x ∈ c.2.1, True) ∧ ((c.2.2.1.length ≤ N ∧ ∀ x ∈ c.2.2.1, True) ∧ True)))) 128 := readsB_struct bkOk (tot := 3) Tryz.underlying128 (by kernel_rfl) (fieldsB_cons (tot := 3) (off := 0) (s := 1) (rd3 w) (by kernel_rfl) (fieldsB_cons (tot := 3) (off := 1) (s := 1) (rd125 w) (by kernel_rfl) (fieldsB_cons (tot := 3) (off := 2) (s := 1) (rd126 w) (by kernel_rfl) fieldsB_nil)))
theorem rd27 (w : World) : ReadsB bk Tryz.prog w prow (fun N => Sz N) 27 := readsB_int bkOk Tryz.underlying27 Tryz.underlying4 Tryz.underlying25 Tryz.underlying144 (by kernel_rfl) (by kernel_rfl) (by kernel_rfl) (by kernel_rfl)
theorem rd25 (w : World) : ReadsB bk Tryz.prog w (fun l : List Nat => [.sl (lims l)]) (fun N l => l.length ≤ N ∧ Lim l) 25 := readsB_nat bkOk Tryz.underlying25 Tryz.underlying144 (by kernel_rfl)
theorem rd58 (w : World) : ReadsB bk Tryz.prog w qrow (fun N => SzQ N) 58 :=
 readsB_rat (readsB_struct bkOk (tot := 3) Tryz.underlying58 (by kernel_rfl) (fieldsB_cons (tot := 3) (off := 0) (s := 2) (rd27 w) (by kernel_rfl) (fieldsB_cons (tot := 3) (off := 2) (s := 1) (rd25 w) (by kernel_rfl) fieldsB_nil)))
set_option maxRecDepth 100000 in
theorem contract (H : Type) (enc : TypeId × Value → H) (W : World) (base : Nat) (args : Array Value) (ds gs : List (DataW H)) (before : List MemPlace)
  (hval0 : ∀ (j : Nat) t v, Tryz.f6.params[j]? = some t → args[j]? = some v → Value.okWide Tryz.prog W .any base t v)
  (hW : DataW.Whole enc Tryz.prog Tryz.f6.params.toList Rows.surdCountsSpec.vars false W args.toList ds gs before) (hk : Rows.uptoSmall H (ds ++ gs) = true) :
  Calls Tryz.prog 6 args W fun e W' => ∃ v, e = .returned v ∧ Rows.surdCountsSpec.post enc Tryz.prog Tryz.f6 false true false false W args v W' := by
 have hval : ∀ (j : Nat) t v, Tryz.f6.params[j]? = some t → args[j]? = some v → Value.okWide Tryz.prog W .any base t v := hval0
 have hW' := hW
 obtain ⟨p, q, hA0, hV, rfl, hfz, hnd⟩ := hW
 have hA : DataW.TrodAll enc Tryz.prog W 0 (fun _ => true) true Tryz.f6.params.toList args.toList ds p := hA0
 rw [Tryz.params6] at hA hval
 obtain ⟨v0, vs0, d0, ds0, p0, q0, hargs, rfl, rfl, h0, r0⟩ := trodAll_cons hA
 obtain ⟨v1, vs1, d1, ds1, p1, q1, rfl, rfl, rfl, h1, r1⟩ := trodAll_cons r0
 obtain ⟨v2, vs2, d2, ds2, p2, q2, rfl, rfl, rfl, h2, r2⟩ := trodAll_cons r1
 obtain ⟨rfl, rfl, rfl⟩ := trodAll_nil r2
 obtain rfl : args = #[v0, v1, v2] := by cases args; simp_all
 obtain ⟨rfl, rfl⟩ := trodVars_none hV
 have k0 := h0
 have k1 := h1
 have k2 := h2
 have lt0 : ∀ x ∈ p0, x.block < W.heap.size := by obtain ⟨m, hm⟩ := k0; exact DataW.trod_lt m _ _ _ hm
 have lt1 : ∀ x ∈ p1, x.block < W.heap.size := by obtain ⟨m, hm⟩ := k1; exact DataW.trod_lt m _ _ _ hm
 have lt2 : ∀ x ∈ p2, x.block < W.heap.size := by obtain ⟨m, hm⟩ := k2; exact DataW.trod_lt m _ _ _ hm
 obtain ⟨b0, rfl, _⟩ := okWide_struct Tryz.underlying128 (hval 0 128 v0 rfl rfl)
 obtain ⟨b1, rfl, _⟩ := okWide_struct Tryz.underlying58 (hval 1 58 v1 rfl rfl)
 obtain ⟨b2, rfl, _⟩ := okWide_struct Tryz.underlying58 (hval 2 58 v2 rfl rfl)
 obtain ⟨n0, h0⟩ := h0
 obtain ⟨n1, h1⟩ := h1
 obtain ⟨n2, h2⟩ := h2
 have hB : Rows.uptoBulkAll ([d0, d1, d2] ++ []) ≤ 1048576 := of_decide_eq_true hk
 obtain ⟨a0, f0, e0⟩ := rd128 W enc _ _ _ _ _ 1048576 h0 (Nat.le_trans (part_le (by simp)) hB)
 obtain ⟨a1, f1, e1⟩ := rd58 W enc _ _ _ _ _ 1048576 h1 (Nat.le_trans (part_le (by simp)) hB)
 obtain ⟨a2, f2, e2⟩ := rd58 W enc _ _ _ _ _ 1048576 h2 (Nat.le_trans (part_le (by simp)) hB)
 clear hA0 hval0
 refine (AC.law (counts_law2 a0.1 a0.2.1 a0.2.2.1 a1 a2 f0.1.1 f0.1.2 f0.2.1 f0.2.2.1 f1 f2) Tryz.func6 (by kernel_rfl) (by kernel_rfl) [.agg b0, .agg b1, .agg b2] ⟨⟨_, rfl, e0⟩, ⟨_, rfl, e1⟩, ⟨_, rfl, e2⟩, trivial⟩).mono fun e W' ⟨he, bel⟩ => ?_
 subst he
 exact ⟨_, rfl, _, _, _, [], _, [], hW', trodAll_mk1 (shut_bool Tryz.underlying4 _), (trodAll_cons_mk (Below.trod laidOut (by kernel_rfl) (of_decide_eq_true (by kernel_rfl)) k0 bel lt0) (trodAll_cons_mk (Below.trod laidOut (by kernel_rfl) (of_decide_eq_true (by kernel_rfl)) k1 bel lt1) (trodAll_cons_mk (Below.trod laidOut (by kernel_rfl) (of_decide_eq_true (by kernel_rfl)) k2 bel lt2) trodAll_mk0))), rfl, bel.frame _, fun h => by cases h⟩
set_option maxRecDepth 100000 in
theorem lifted (os : Os) (started : os.Started) (H : Type) (enc : TypeId × Value → H) (F : Stop.Interp) :
  ReturnsInHanded {} Tryz.checked os 6 .any ((Rows.OpenSpec.upto Rows.surdCountsSpec).pre6 enc Tryz.prog Tryz.f6 Rows.surdCountsUptoRow.domain false) (((Rows.OpenSpec.upto Rows.surdCountsSpec).at F).post enc Tryz.prog Tryz.f6 false true false false) := by
 refine returnsInHanded_of_cond (C := Tryz.checked) (s := Rows.OpenSpec.upto Rows.surdCountsSpec) (k := Rows.uptoSmall) rfl own started (by kernel_rfl) Tryz.func6
  (OpenSpec.witness (enc := enc) (C := Tryz.checked) (s := Rows.OpenSpec.upto Rows.surdCountsSpec) (k := Rows.uptoSmall) rfl false ⟨#[], #[.agg #[.int .i64 0, .slice none 0 0, .slice none 0 0], .agg #[.bool false, .slice none 0 0, .slice none 0 0], .agg #[.bool false, .slice none 0 0, .slice none 0 0]], []⟩ 8 (by kernel_rfl) (by kernel_rfl) (by kernel_rfl)
   (x := ([.agg [.lit (.int .i64 0), .nil, .nil], .agg [.agg [.lit (.bool false), .nil], .nil], .agg [.agg [.lit (.bool false), .nil], .nil]], [], [])) (by kernel_rfl) rfl (by kernel_rfl)) ?_
 intro W base args ds gs before hval hW _ hk _
 exact contract H enc W base args ds gs before hval hW hk
theorem proved : Rows.SurdCountsUptoSaid :=
 OpenClaim.holds_of_cond 6 Tryz.f6 rfl rfl rfl rfl rfl rfl rfl ⟨rfl, rfl, rfl, rfl, rfl⟩ rfl rfl rfl rfl rfl (by kernel_rfl) Tryz.func6 (by kernel_rfl)
  (of_decide_eq_true (by kernel_rfl)) (by unfold Func.isWrapper; first | (rw [if_pos (by decide +kernel)]; kernel_rfl) | (rw [if_neg (by decide +kernel)]; exact ⟨rfl, rfl⟩))
  (fun os started H enc _ F => lifted os started H enc F)
#print axioms proved
end Go.Proofs.YtdokaihemcnkmaaGreat.surdCountsDone
