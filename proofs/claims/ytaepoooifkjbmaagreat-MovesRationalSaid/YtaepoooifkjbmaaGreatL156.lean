/-
  The law holds at every input: the last step of its proof.
-/
import Derived.Test.YtaepoooifkjbmaaGreatL64M
import Derived.Test.YtaepoooifkjbmaaGreatAbsS
import Derived.Test.YtaepoooifkjbmaaGreatRows
namespace Go.Proofs.YtaepoooifkjbmaaGreat.movesRationalDone
open Go Go.Proofs Go.AL Go.Proofs.YtaepoooifkjbmaaGreat
open Go.ChangeShapes Go.WideShapes Go.ChangeAt Go.RowKit
set_option linter.unusedVariables false

theorem own : ownKnob Tryz.prog.godebug = none := by kernel_rfl

theorem laidOut : laidOutB Tryz.prog = true := by kernel_rfl

theorem rd27 (w : World) : Reads Tryz.prog w prow (Sz 9223372036854775807) 27 := reads_int Tryz.underlying27 Tryz.underlying4 Tryz.underlying25 Tryz.underlying65 (by kernel_rfl) (by kernel_rfl) (by kernel_rfl) (by kernel_rfl)

theorem rd23 (w : World) : Reads Tryz.prog w (fun p : List RI => [.sl (raws p)]) Raw 23 :=
  fun enc sp held fuel cs x h => reads_slice (f := prow) (sz := 2) Tryz.underlying23 (by kernel_rfl) (fun _ => rfl) (by omega) (rd27 w) enc sp held fuel cs x h

theorem rd3 (w : World) : Reads Tryz.prog w (fun x : Int => [.int .i64 x]) (fun x => -9223372036854775808 ≤ x ∧ x ≤ 9223372036854775807) 3 := reads_i64 Tryz.underlying3

theorem rd4 (w : World) : Reads Tryz.prog w (fun x : Bool => [.bool x]) (fun _ => True) 4 := reads_bool Tryz.underlying4

theorem rd29 (w : World) : Reads Tryz.prog w (fun c : (RI × (Int × (Bool × Unit))) => (prow c.1 ++ ([.int .i64 c.2.1] ++ ([.bool c.2.2.1] ++ [])))) (fun c => (Sz 9223372036854775807 c.1 ∧ ((-9223372036854775808 ≤ c.2.1 ∧ c.2.1 ≤ 9223372036854775807) ∧ (True ∧ True)))) 29 := reads_struct (tot := 4) Tryz.underlying29 (by kernel_rfl) (fields_cons (tot := 4) (off := 0) (s := 2) (rd27 w) (by kernel_rfl) (fields_cons (tot := 4) (off := 2) (s := 1) (rd3 w) (by kernel_rfl) (fields_cons (tot := 4) (off := 3) (s := 1) (rd4 w) (by kernel_rfl) fields_nil)))

theorem rd25 (w : World) : Reads Tryz.prog w (fun l : List Nat => [.sl (lims l)]) (Nt 9223372036854775807) 25 := reads_nat Tryz.underlying25 Tryz.underlying65 (by kernel_rfl)

theorem rd33 (w : World) : Reads Tryz.prog w qrow (SzQ 9223372036854775807) 33 :=
  reads_rat (reads_struct (tot := 3) Tryz.underlying33 (by kernel_rfl) (fields_cons (tot := 3) (off := 0) (s := 2) (rd27 w) (by kernel_rfl) (fields_cons (tot := 3) (off := 2) (s := 1) (rd25 w) (by kernel_rfl) fields_nil)))

theorem rd31 (w : World) : Reads Tryz.prog w (fun p : List RQ => [.sl (rats p)]) RawQ 31 :=
  fun enc sp held fuel cs x h => reads_slice (f := qrow) (sz := 3) Tryz.underlying31 (by kernel_rfl) (fun _ => rfl) (by omega) (rd33 w) enc sp held fuel cs x h

theorem rd35 (w : World) : Reads Tryz.prog w (fun c : (List RI × (List RI × (RI × (RI × (RI × (RI × (Int × (Int × ((RI × (Int × (Bool × Unit))) × (List RQ × (List RQ × (RQ × Unit)))))))))))) => ([.sl (raws c.1)] ++ ([.sl (raws c.2.1)] ++ (prow c.2.2.1 ++ (prow c.2.2.2.1 ++ (prow c.2.2.2.2.1 ++ (prow c.2.2.2.2.2.1 ++ ([.int .i64 c.2.2.2.2.2.2.1] ++ ([.int .i64 c.2.2.2.2.2.2.2.1] ++ ((prow c.2.2.2.2.2.2.2.2.1.1 ++ ([.int .i64 c.2.2.2.2.2.2.2.2.1.2.1] ++ ([.bool c.2.2.2.2.2.2.2.2.1.2.2.1] ++ []))) ++ ([.sl (rats c.2.2.2.2.2.2.2.2.2.1)] ++ ([.sl (rats c.2.2.2.2.2.2.2.2.2.2.1)] ++ (qrow c.2.2.2.2.2.2.2.2.2.2.2.1 ++ []))))))))))))) (fun c => (Raw c.1 ∧ (Raw c.2.1 ∧ (Sz 9223372036854775807 c.2.2.1 ∧ (Sz 9223372036854775807 c.2.2.2.1 ∧ (Sz 9223372036854775807 c.2.2.2.2.1 ∧ (Sz 9223372036854775807 c.2.2.2.2.2.1 ∧ ((-9223372036854775808 ≤ c.2.2.2.2.2.2.1 ∧ c.2.2.2.2.2.2.1 ≤ 9223372036854775807) ∧ ((-9223372036854775808 ≤ c.2.2.2.2.2.2.2.1 ∧ c.2.2.2.2.2.2.2.1 ≤ 9223372036854775807) ∧ ((Sz 9223372036854775807 c.2.2.2.2.2.2.2.2.1.1 ∧ ((-9223372036854775808 ≤ c.2.2.2.2.2.2.2.2.1.2.1 ∧ c.2.2.2.2.2.2.2.2.1.2.1 ≤ 9223372036854775807) ∧ (True ∧ True))) ∧ (RawQ c.2.2.2.2.2.2.2.2.2.1 ∧ (RawQ c.2.2.2.2.2.2.2.2.2.2.1 ∧ (SzQ 9223372036854775807 c.2.2.2.2.2.2.2.2.2.2.2.1 ∧ True))))))))))))) 35 := reads_struct (tot := 21) Tryz.underlying35 (by kernel_rfl) (fields_cons (tot := 21) (off := 0) (s := 1) (rd23 w) (by kernel_rfl) (fields_cons (tot := 21) (off := 1) (s := 1) (rd23 w) (by kernel_rfl) (fields_cons (tot := 21) (off := 2) (s := 2) (rd27 w) (by kernel_rfl) (fields_cons (tot := 21) (off := 4) (s := 2) (rd27 w) (by kernel_rfl) (fields_cons (tot := 21) (off := 6) (s := 2) (rd27 w) (by kernel_rfl) (fields_cons (tot := 21) (off := 8) (s := 2) (rd27 w) (by kernel_rfl) (fields_cons (tot := 21) (off := 10) (s := 1) (rd3 w) (by kernel_rfl) (fields_cons (tot := 21) (off := 11) (s := 1) (rd3 w) (by kernel_rfl) (fields_cons (tot := 21) (off := 12) (s := 4) (rd29 w) (by kernel_rfl) (fields_cons (tot := 21) (off := 16) (s := 1) (rd31 w) (by kernel_rfl) (fields_cons (tot := 21) (off := 17) (s := 1) (rd31 w) (by kernel_rfl) (fields_cons (tot := 21) (off := 18) (s := 3) (rd33 w) (by kernel_rfl) fields_nil))))))))))))

set_option maxRecDepth 100000 in
theorem lifted (os : Os) (started : os.Started) (H : Type) (enc : TypeId × Value → H) :
    ReturnsInHanded {} Tryz.checked os 3 .any (Rows.movesRationalSpec.pre6 enc Tryz.prog Tryz.f3 Rows.movesRationalRow.domain false) (Rows.movesRationalSpec.post enc Tryz.prog Tryz.f3 false true false false) := by
  refine returnsInHanded_of_change (C := Tryz.checked) own started (by kernel_rfl) Tryz.func3
    (ChangeSpec.witness6 (enc := enc) (C := Tryz.checked) false ⟨#[], #[.agg #[.slice none 0 0, .slice none 0 0, .bool false, .slice none 0 0, .bool false, .slice none 0 0, .bool false, .slice none 0 0, .bool false, .slice none 0 0, .int .i64 0, .int .i64 0, .bool false, .slice none 0 0, .int .i64 0, .bool false, .slice none 0 0, .slice none 0 0, .bool false, .slice none 0 0, .slice none 0 0]], []⟩ 8 (by kernel_rfl) (by kernel_rfl) (by kernel_rfl) (by kernel_rfl)) ?_
  intro W base args ds gs before hval0 hW hcnd _
  have hval : ∀ (j : Nat) t v, Tryz.f3.params[j]? = some t → args[j]? = some v → Value.okWide Tryz.prog W .any base t v := hval0
  have hW' := hW
  obtain ⟨p, q, hA0, hV, rfl, hfz, hnd⟩ := hW
  have hA : DataW.TrodAll enc Tryz.prog W 0 (fun _ => true) true Tryz.f3.params.toList args.toList ds p := hA0
  rw [Tryz.params3] at hA hval
  obtain ⟨v0, vs0, d0, ds0, p0, q0, hargs, rfl, rfl, h0, r0⟩ := trodAll_cons hA
  obtain ⟨rfl, rfl, rfl⟩ := trodAll_nil r0
  obtain rfl : args = #[v0] := by cases args; simp_all
  obtain ⟨rfl, rfl⟩ := trodVars_none hV
  have k0 := h0
  have lt0 : ∀ x ∈ p0, x.block < W.heap.size := by obtain ⟨m, hm⟩ := k0; exact DataW.trod_lt m _ _ _ hm
  obtain ⟨b0, rfl, _⟩ := okWide_struct Tryz.underlying35 (hval 0 35 v0 rfl rfl)
  obtain ⟨n0, h0⟩ := h0
  obtain ⟨a0, f0, e0⟩ := rd35 W enc _ _ _ _ _ h0
  clear hA0 hval0
  refine (AC.law (rational_law a0.1 a0.2.1 a0.2.2.1 a0.2.2.2.1 a0.2.2.2.2.1 a0.2.2.2.2.2.1 a0.2.2.2.2.2.2.1 a0.2.2.2.2.2.2.2.1 a0.2.2.2.2.2.2.2.2.1.1 a0.2.2.2.2.2.2.2.2.1.2.1 a0.2.2.2.2.2.2.2.2.1.2.2.1 a0.2.2.2.2.2.2.2.2.2.1 a0.2.2.2.2.2.2.2.2.2.2.1 a0.2.2.2.2.2.2.2.2.2.2.2.1 f0.1 f0.2.1 f0.2.2.1 f0.2.2.2.1 f0.2.2.2.2.1 f0.2.2.2.2.2.1 f0.2.2.2.2.2.2.1.1 f0.2.2.2.2.2.2.1.2 f0.2.2.2.2.2.2.2.1.1 f0.2.2.2.2.2.2.2.1.2 f0.2.2.2.2.2.2.2.2.1.1 f0.2.2.2.2.2.2.2.2.1.2.1.1 f0.2.2.2.2.2.2.2.2.1.2.1.2 f0.2.2.2.2.2.2.2.2.2.1 f0.2.2.2.2.2.2.2.2.2.2.1 f0.2.2.2.2.2.2.2.2.2.2.2.1) Tryz.func3 (by kernel_rfl) (by kernel_rfl) [.agg b0] ⟨⟨_, rfl, e0⟩, trivial⟩).mono fun e W' ⟨he, bel⟩ => ?_
  subst he
  exact ⟨_, rfl, _, _, _, [], _, [], hW', trodAll_mk1 (shut_bool Tryz.underlying4 _), (trodAll_cons_mk (Below.trod laidOut (by kernel_rfl) (of_decide_eq_true (by kernel_rfl)) k0 bel lt0) trodAll_mk0), rfl, bel.frame _, fun h => by cases h⟩

theorem over : Rows.movesRationalRow.holds Tryz.pinned (OpenSpec.ofChange Rows.movesRationalSpec) :=
  OpenClaim.holds_of_wide 3 Tryz.f3 rfl rfl rfl rfl rfl rfl rfl ⟨rfl, rfl, rfl, rfl, rfl⟩ rfl rfl rfl rfl rfl (by kernel_rfl) Tryz.func3 (by kernel_rfl)
    (of_decide_eq_true (by kernel_rfl)) (by unfold Func.isWrapper; first | (rw [if_pos (by decide +kernel)]; kernel_rfl) | (rw [if_neg (by decide +kernel)]; exact ⟨rfl, rfl⟩))
    (fun os started H enc _ => lifted os started H enc)

/-- The statement. -/
theorem proved : Rows.MovesRationalSaid := over

#print axioms proved
end Go.Proofs.YtaepoooifkjbmaaGreat.movesRationalDone
