/-
  The law holds at every input: the last step of its proof.
-/
import Derived.Test.YthgecppfgdadiaaL87
import Derived.Test.YthgecppfgdadiaaAbsS
import Derived.Test.YthgecppfgdadiaaRows
namespace Go.Proofs.Ythgecppfgdadiaa.movesLawsDone
open Go Go.Proofs Go.AL Go.Proofs.Ythgecppfgdadiaa
open Go.ChangeShapes Go.WideShapes Go.ChangeAt Go.RowKit
set_option linter.unusedVariables false

theorem own : ownKnob Try.prog.godebug = none := by kernel_rfl

theorem laidOut : laidOutB Try.prog = true := by kernel_rfl

theorem rd40 (w : World) : Reads Try.prog w prow (Sz 9223372036854775807) 40 := reads_int Try.underlying40 Try.underlying4 Try.underlying38 Try.underlying87 (by kernel_rfl) (by kernel_rfl) (by kernel_rfl) (by kernel_rfl)

theorem rd23 (w : World) : Reads Try.prog w (fun p : List RI => [.sl (raws p)]) Raw 23 :=
  fun enc sp held fuel cs x h => reads_slice (f := prow) (sz := 2) Try.underlying23 (by kernel_rfl) (fun _ => rfl) (by omega) (rd40 w) enc sp held fuel cs x h

theorem rd3 (w : World) : Reads Try.prog w (fun x : Int => [.int .i64 x]) (fun x => -9223372036854775808 ≤ x ∧ x ≤ 9223372036854775807) 3 := reads_i64 Try.underlying3

theorem rd4 (w : World) : Reads Try.prog w (fun x : Bool => [.bool x]) (fun _ => True) 4 := reads_bool Try.underlying4

theorem rd62 (w : World) : Reads Try.prog w (fun c : (RI × (Int × (Bool × Unit))) => (prow c.1 ++ ([.int .i64 c.2.1] ++ ([.bool c.2.2.1] ++ [])))) (fun c => (Sz 9223372036854775807 c.1 ∧ ((-9223372036854775808 ≤ c.2.1 ∧ c.2.1 ≤ 9223372036854775807) ∧ (True ∧ True)))) 62 := reads_struct (tot := 4) Try.underlying62 (by kernel_rfl) (fields_cons (tot := 4) (off := 0) (s := 2) (rd40 w) (by kernel_rfl) (fields_cons (tot := 4) (off := 2) (s := 1) (rd3 w) (by kernel_rfl) (fields_cons (tot := 4) (off := 3) (s := 1) (rd4 w) (by kernel_rfl) fields_nil)))

theorem rd38 (w : World) : Reads Try.prog w (fun l : List Nat => [.sl (lims l)]) (Nt 9223372036854775807) 38 := reads_nat Try.underlying38 Try.underlying87 (by kernel_rfl)

theorem rd66 (w : World) : Reads Try.prog w qrow (SzQ 9223372036854775807) 66 :=
  reads_rat (reads_struct (tot := 3) Try.underlying66 (by kernel_rfl) (fields_cons (tot := 3) (off := 0) (s := 2) (rd40 w) (by kernel_rfl) (fields_cons (tot := 3) (off := 2) (s := 1) (rd38 w) (by kernel_rfl) fields_nil)))

theorem rd64 (w : World) : Reads Try.prog w (fun p : List RQ => [.sl (rats p)]) RawQ 64 :=
  fun enc sp held fuel cs x h => reads_slice (f := qrow) (sz := 3) Try.underlying64 (by kernel_rfl) (fun _ => rfl) (by omega) (rd66 w) enc sp held fuel cs x h

theorem rd68 (w : World) : Reads Try.prog w (fun c : (List RI × (List RI × (RI × (RI × (RI × (RI × (Int × (Int × ((RI × (Int × (Bool × Unit))) × (List RQ × (List RQ × (RQ × Unit)))))))))))) => ([.sl (raws c.1)] ++ ([.sl (raws c.2.1)] ++ (prow c.2.2.1 ++ (prow c.2.2.2.1 ++ (prow c.2.2.2.2.1 ++ (prow c.2.2.2.2.2.1 ++ ([.int .i64 c.2.2.2.2.2.2.1] ++ ([.int .i64 c.2.2.2.2.2.2.2.1] ++ ((prow c.2.2.2.2.2.2.2.2.1.1 ++ ([.int .i64 c.2.2.2.2.2.2.2.2.1.2.1] ++ ([.bool c.2.2.2.2.2.2.2.2.1.2.2.1] ++ []))) ++ ([.sl (rats c.2.2.2.2.2.2.2.2.2.1)] ++ ([.sl (rats c.2.2.2.2.2.2.2.2.2.2.1)] ++ (qrow c.2.2.2.2.2.2.2.2.2.2.2.1 ++ []))))))))))))) (fun c => (Raw c.1 ∧ (Raw c.2.1 ∧ (Sz 9223372036854775807 c.2.2.1 ∧ (Sz 9223372036854775807 c.2.2.2.1 ∧ (Sz 9223372036854775807 c.2.2.2.2.1 ∧ (Sz 9223372036854775807 c.2.2.2.2.2.1 ∧ ((-9223372036854775808 ≤ c.2.2.2.2.2.2.1 ∧ c.2.2.2.2.2.2.1 ≤ 9223372036854775807) ∧ ((-9223372036854775808 ≤ c.2.2.2.2.2.2.2.1 ∧ c.2.2.2.2.2.2.2.1 ≤ 9223372036854775807) ∧ ((Sz 9223372036854775807 c.2.2.2.2.2.2.2.2.1.1 ∧ ((-9223372036854775808 ≤ c.2.2.2.2.2.2.2.2.1.2.1 ∧ c.2.2.2.2.2.2.2.2.1.2.1 ≤ 9223372036854775807) ∧ (True ∧ True))) ∧ (RawQ c.2.2.2.2.2.2.2.2.2.1 ∧ (RawQ c.2.2.2.2.2.2.2.2.2.2.1 ∧ (SzQ 9223372036854775807 c.2.2.2.2.2.2.2.2.2.2.2.1 ∧ True))))))))))))) 68 := reads_struct (tot := 21) Try.underlying68 (by kernel_rfl) (fields_cons (tot := 21) (off := 0) (s := 1) (rd23 w) (by kernel_rfl) (fields_cons (tot := 21) (off := 1) (s := 1) (rd23 w) (by kernel_rfl) (fields_cons (tot := 21) (off := 2) (s := 2) (rd40 w) (by kernel_rfl) (fields_cons (tot := 21) (off := 4) (s := 2) (rd40 w) (by kernel_rfl) (fields_cons (tot := 21) (off := 6) (s := 2) (rd40 w) (by kernel_rfl) (fields_cons (tot := 21) (off := 8) (s := 2) (rd40 w) (by kernel_rfl) (fields_cons (tot := 21) (off := 10) (s := 1) (rd3 w) (by kernel_rfl) (fields_cons (tot := 21) (off := 11) (s := 1) (rd3 w) (by kernel_rfl) (fields_cons (tot := 21) (off := 12) (s := 4) (rd62 w) (by kernel_rfl) (fields_cons (tot := 21) (off := 16) (s := 1) (rd64 w) (by kernel_rfl) (fields_cons (tot := 21) (off := 17) (s := 1) (rd64 w) (by kernel_rfl) (fields_cons (tot := 21) (off := 18) (s := 3) (rd66 w) (by kernel_rfl) fields_nil))))))))))))

set_option maxRecDepth 100000 in
theorem lifted (os : Os) (started : os.Started) (H : Type) (enc : TypeId × Value → H) :
    ReturnsInHanded {} Try.checked os 8 .any (Rows.movesLawsSpec.pre6 enc Try.prog Try.f8 Rows.movesLawsRow.domain false) (Rows.movesLawsSpec.post enc Try.prog Try.f8 false true false false) := by
  refine returnsInHanded_of_change (C := Try.checked) own started (by kernel_rfl) Try.func8
    (ChangeSpec.witness6 (enc := enc) (C := Try.checked) false ⟨#[], #[.agg #[.slice none 0 0, .slice none 0 0, .bool false, .slice none 0 0, .bool false, .slice none 0 0, .bool false, .slice none 0 0, .bool false, .slice none 0 0, .int .i64 0, .int .i64 0, .bool false, .slice none 0 0, .int .i64 0, .bool false, .slice none 0 0, .slice none 0 0, .bool false, .slice none 0 0, .slice none 0 0]], []⟩ 8 (by kernel_rfl) (by kernel_rfl) (by kernel_rfl) (by kernel_rfl)) ?_
  intro W base args ds gs before hval0 hW hcnd _
  have hval : ∀ (j : Nat) t v, Try.f8.params[j]? = some t → args[j]? = some v → Value.okWide Try.prog W .any base t v := hval0
  have hW' := hW
  obtain ⟨p, q, hA0, hV, rfl, hfz, hnd⟩ := hW
  have hA : DataW.TrodAll enc Try.prog W 0 (fun _ => true) true Try.f8.params.toList args.toList ds p := hA0
  rw [Try.params8] at hA hval
  obtain ⟨v0, vs0, d0, ds0, p0, q0, hargs, rfl, rfl, h0, r0⟩ := trodAll_cons hA
  obtain ⟨rfl, rfl, rfl⟩ := trodAll_nil r0
  obtain rfl : args = #[v0] := by cases args; simp_all
  obtain ⟨rfl, rfl⟩ := trodVars_none hV
  have k0 := h0
  have lt0 : ∀ x ∈ p0, x.block < W.heap.size := by obtain ⟨m, hm⟩ := k0; exact DataW.trod_lt m _ _ _ hm
  obtain ⟨b0, rfl, _⟩ := okWide_struct Try.underlying68 (hval 0 68 v0 rfl rfl)
  obtain ⟨n0, h0⟩ := h0
  obtain ⟨a0, f0, e0⟩ := rd68 W enc _ _ _ _ _ h0
  clear hA0 hval0
  refine (AC.law (laws_law a0.1 a0.2.1 a0.2.2.1 a0.2.2.2.1 a0.2.2.2.2.1 a0.2.2.2.2.2.1 a0.2.2.2.2.2.2.1 a0.2.2.2.2.2.2.2.1 a0.2.2.2.2.2.2.2.2.1.1 a0.2.2.2.2.2.2.2.2.1.2.1 a0.2.2.2.2.2.2.2.2.1.2.2.1 a0.2.2.2.2.2.2.2.2.2.1 a0.2.2.2.2.2.2.2.2.2.2.1 a0.2.2.2.2.2.2.2.2.2.2.2.1 f0.1 f0.2.1 f0.2.2.1 f0.2.2.2.1 f0.2.2.2.2.1 f0.2.2.2.2.2.1 f0.2.2.2.2.2.2.1.1 f0.2.2.2.2.2.2.1.2 f0.2.2.2.2.2.2.2.1.1 f0.2.2.2.2.2.2.2.1.2 f0.2.2.2.2.2.2.2.2.1.1 f0.2.2.2.2.2.2.2.2.1.2.1.1 f0.2.2.2.2.2.2.2.2.1.2.1.2 f0.2.2.2.2.2.2.2.2.2.1 f0.2.2.2.2.2.2.2.2.2.2.1 f0.2.2.2.2.2.2.2.2.2.2.2.1) Try.func8 (by kernel_rfl) (by kernel_rfl) [.agg b0] ⟨⟨_, rfl, e0⟩, trivial⟩).mono fun e W' ⟨he, bel⟩ => ?_
  subst he
  exact ⟨_, rfl, _, _, _, [], _, [], hW', trodAll_mk1 (shut_bool Try.underlying4 _), (trodAll_cons_mk (Below.trod laidOut (by kernel_rfl) (of_decide_eq_true (by kernel_rfl)) k0 bel lt0) trodAll_mk0), rfl, bel.frame _, fun h => by cases h⟩

theorem over : Rows.movesLawsRow.holds Try.pinned (OpenSpec.ofChange Rows.movesLawsSpec) :=
  OpenClaim.holds_of_wide 8 Try.f8 rfl rfl rfl rfl rfl rfl rfl ⟨rfl, rfl, rfl, rfl, rfl⟩ rfl rfl rfl rfl rfl (by kernel_rfl) Try.func8 (by kernel_rfl)
    (of_decide_eq_true (by kernel_rfl)) (by unfold Func.isWrapper; first | (rw [if_pos (by decide +kernel)]; kernel_rfl) | (rw [if_neg (by decide +kernel)]; exact ⟨rfl, rfl⟩))
    (fun os started H enc _ => lifted os started H enc)

/-- The statement. -/
theorem proved : Rows.MovesLawsSaid := over

#print axioms proved
end Go.Proofs.Ythgecppfgdadiaa.movesLawsDone
