/-
 The law holds at every input: the last step of its proof.
-/
import Derived.Test.YtfmpegbdeppjbaaGreatL309M
import Derived.Test.YtfmpegbdeppjbaaGreatAbsS
import Derived.Test.YtfmpegbdeppjbaaGreatRows
set_option maxHeartbeats 2000000
namespace Go.Proofs.YtfmpegbdeppjbaaGreat.evalsKeepsDone
open Go Go.Proofs Go.AL Go.Proofs.YtfmpegbdeppjbaaGreat
open Go.ChangeShapes Go.WideShapes Go.ChangeAt Go.RowKit
set_option linter.unusedVariables false
theorem own : ownKnob Tryz.prog.godebug = none := by kernel_rfl
theorem laidOut : laidOutB Tryz.prog = true := by kernel_rfl
theorem rd30 (w : World) : Reads Tryz.prog w prow (Sz 9223372036854775807) 30 := reads_int Tryz.underlying30 Tryz.underlying4 Tryz.underlying28 Tryz.underlying134 (by kernel_rfl) (by kernel_rfl) (by kernel_rfl) (by kernel_rfl)
theorem rd50 (w : World) : Reads Tryz.prog w (fun p : List RI => [.sl (raws p)]) Raw 50 :=
 fun enc sp held fuel cs x h => reads_slice (f := prow) (sz := 2) Tryz.underlying50 (by kernel_rfl) (fun _ => rfl) (by omega) (rd30 w) enc sp held fuel cs x h
theorem rd28 (w : World) : Reads Tryz.prog w (fun l : List Nat => [.sl (lims l)]) (Nt 9223372036854775807) 28 := reads_nat Tryz.underlying28 Tryz.underlying134 (by kernel_rfl)
theorem rd32 (w : World) : Reads Tryz.prog w qrow (SzQ 9223372036854775807) 32 :=
 reads_rat (reads_struct (tot := 3) Tryz.underlying32 (by kernel_rfl) (fields_cons (tot := 3) (off := 0) (s := 2) (rd30 w) (by kernel_rfl) (fields_cons (tot := 3) (off := 2) (s := 1) (rd28 w) (by kernel_rfl) fields_nil)))
theorem rd23 (w : World) : Reads Tryz.prog w (fun p : List RQ => [.sl (rats p)]) RawQ 23 :=
 fun enc sp held fuel cs x h => reads_slice (f := qrow) (sz := 3) Tryz.underlying23 (by kernel_rfl) (fun _ => rfl) (by omega) (rd32 w) enc sp held fuel cs x h
theorem rd3 (w : World) : Reads Tryz.prog w (fun x : Int => [.int .i64 x]) (fun x => -9223372036854775808 ≤ x ∧ x ≤ 9223372036854775807) 3 := reads_i64 Tryz.underlying3
theorem rd75 (w : World) : Reads Tryz.prog w (fun c : (List RI × (List RI × (List RQ × (List RQ × (RI × (RI × (RQ × (RQ × (Int × Unit))))))))) => ([.sl (raws c.1)] ++ ([.sl (raws c.2.1)] ++ ([.sl (rats c.2.2.1)] ++ ([.sl (rats c.2.2.2.1)] ++ (prow c.2.2.2.2.1 ++ (prow c.2.2.2.2.2.1 ++ (qrow c.2.2.2.2.2.2.1 ++ (qrow c.2.2.2.2.2.2.2.1 ++ ([.int .i64 c.2.2.2.2.2.2.2.2.1] ++ [])))))))))) (fun c => (Raw c.1 ∧ (Raw c.2.1 ∧ (RawQ c.2.2.1 ∧ (RawQ c.2.2.2.1 ∧ (Sz 9223372036854775807 c.2.2.2.2.1 ∧ (Sz 9223372036854775807 c.2.2.2.2.2.1 ∧ (SzQ 9223372036854775807 c.2.2.2.2.2.2.1 ∧ (SzQ 9223372036854775807 c.2.2.2.2.2.2.2.1 ∧ ((-9223372036854775808 ≤ c.2.2.2.2.2.2.2.2.1 ∧ c.2.2.2.2.2.2.2.2.1 ≤ 9223372036854775807) ∧ True)))))))))) 75 := reads_struct (tot := 15) Tryz.underlying75 (by kernel_rfl) (fields_cons (tot := 15) (off := 0) (s := 1) (rd50 w) (by kernel_rfl) (fields_cons (tot := 15) (off := 1) (s := 1) (rd50 w) (by kernel_rfl) (fields_cons (tot := 15) (off := 2) (s := 1) (rd23 w) (by kernel_rfl) (fields_cons (tot := 15) (off := 3) (s := 1) (rd23 w) (by kernel_rfl) (fields_cons (tot := 15) (off := 4) (s := 2) (rd30 w) (by kernel_rfl) (fields_cons (tot := 15) (off := 6) (s := 2) (rd30 w) (by kernel_rfl) (fields_cons (tot := 15) (off := 8) (s := 3) (rd32 w) (by kernel_rfl) (fields_cons (tot := 15) (off := 11) (s := 3) (rd32 w) (by kernel_rfl) (fields_cons (tot := 15) (off := 14) (s := 1) (rd3 w) (by kernel_rfl) fields_nil)))))))))
set_option maxRecDepth 100000 in
theorem lifted (os : Os) (started : os.Started) (H : Type) (enc : TypeId × Value → H) :
  ReturnsInHanded {} Tryz.checked os 4 .any (Rows.evalsKeepsSpec.pre6 enc Tryz.prog Tryz.f4 Rows.evalsKeepsRow.domain false) (Rows.evalsKeepsSpec.post enc Tryz.prog Tryz.f4 false true false false) := by
 refine returnsInHanded_of_change (C := Tryz.checked) own started (by kernel_rfl) Tryz.func4
  (ChangeSpec.witness6 (enc := enc) (C := Tryz.checked) false ⟨#[], #[.agg #[.slice none 0 0, .slice none 0 0, .slice none 0 0, .slice none 0 0, .bool false, .slice none 0 0, .bool false, .slice none 0 0, .bool false, .slice none 0 0, .slice none 0 0, .bool false, .slice none 0 0, .slice none 0 0, .int .i64 0]], []⟩ 8 (by kernel_rfl) (by kernel_rfl) (by kernel_rfl) (by kernel_rfl)) ?_
 intro W base args ds gs before hval0 hW hcnd _
 have hval : ∀ (j : Nat) t v, Tryz.f4.params[j]? = some t → args[j]? = some v → Value.okWide Tryz.prog W .any base t v := hval0
 have hW' := hW
 obtain ⟨p, q, hA0, hV, rfl, hfz, hnd⟩ := hW
 have hA : DataW.TrodAll enc Tryz.prog W 0 (fun _ => true) true Tryz.f4.params.toList args.toList ds p := hA0
 rw [Tryz.params4] at hA hval
 obtain ⟨v0, vs0, d0, ds0, p0, q0, hargs, rfl, rfl, h0, r0⟩ := trodAll_cons hA
 obtain ⟨rfl, rfl, rfl⟩ := trodAll_nil r0
 obtain rfl : args = #[v0] := by cases args; simp_all
 obtain ⟨rfl, rfl⟩ := trodVars_none hV
 have k0 := h0
 have lt0 : ∀ x ∈ p0, x.block < W.heap.size := by obtain ⟨m, hm⟩ := k0; exact DataW.trod_lt m _ _ _ hm
 obtain ⟨b0, rfl, _⟩ := okWide_struct Tryz.underlying75 (hval 0 75 v0 rfl rfl)
 obtain ⟨n0, h0⟩ := h0
 obtain ⟨a0, f0, e0⟩ := rd75 W enc _ _ _ _ _ h0
 clear hA0 hval0
 refine (AC.law (ekeeps_law a0.1 a0.2.1 a0.2.2.1 a0.2.2.2.1 a0.2.2.2.2.1 a0.2.2.2.2.2.1 a0.2.2.2.2.2.2.1 a0.2.2.2.2.2.2.2.1 a0.2.2.2.2.2.2.2.2.1 f0.1 f0.2.1 f0.2.2.1 f0.2.2.2.1 f0.2.2.2.2.1 f0.2.2.2.2.2.1 f0.2.2.2.2.2.2.1 f0.2.2.2.2.2.2.2.1 f0.2.2.2.2.2.2.2.2.1.1 f0.2.2.2.2.2.2.2.2.1.2) Tryz.func4 (by kernel_rfl) (by kernel_rfl) [.agg b0] ⟨⟨_, rfl, e0⟩, trivial⟩).mono fun e W' ⟨he, bel⟩ => ?_
 subst he
 exact ⟨_, rfl, _, _, _, [], _, [], hW', trodAll_mk1 (shut_bool Tryz.underlying4 _), (trodAll_cons_mk (Below.trod laidOut (by kernel_rfl) (of_decide_eq_true (by kernel_rfl)) k0 bel lt0) trodAll_mk0), rfl, bel.frame _, fun h => by cases h⟩
theorem over : Rows.evalsKeepsRow.holds Tryz.pinned (OpenSpec.ofChange Rows.evalsKeepsSpec) :=
 OpenClaim.holds_of_wide 4 Tryz.f4 rfl rfl rfl rfl rfl rfl rfl ⟨rfl, rfl, rfl, rfl, rfl⟩ rfl rfl rfl rfl rfl (by kernel_rfl) Tryz.func4 (by kernel_rfl)
  (of_decide_eq_true (by kernel_rfl)) (by unfold Func.isWrapper; first | (rw [if_pos (by decide +kernel)]; kernel_rfl) | (rw [if_neg (by decide +kernel)]; exact ⟨rfl, rfl⟩))
  (fun os started H enc _ => lifted os started H enc)
theorem proved : Rows.EvalsKeepsSaid := over
#print axioms proved
end Go.Proofs.YtfmpegbdeppjbaaGreat.evalsKeepsDone
