/-
  The law holds at every input: the last step of its proof.
-/
import Derived.Test.YtcjnacpekbhhcaaGreatL117M
import Derived.Test.YtcjnacpekbhhcaaGreatAbsS
import Derived.Test.YtcjnacpekbhhcaaGreatRows
namespace Go.Proofs.YtcjnacpekbhhcaaGreat.evalsPointsDone
open Go Go.Proofs Go.AL Go.Proofs.YtcjnacpekbhhcaaGreat
open Go.ChangeShapes Go.WideShapes Go.ChangeAt Go.RowKit
set_option linter.unusedVariables false

theorem own : ownKnob Tryz.prog.godebug = none := by kernel_rfl

theorem laidOut : laidOutB Tryz.prog = true := by kernel_rfl

theorem rd29 (w : World) : Reads Tryz.prog w prow (Sz 9223372036854775807) 29 := reads_int Tryz.underlying29 Tryz.underlying4 Tryz.underlying27 Tryz.underlying64 (by kernel_rfl) (by kernel_rfl) (by kernel_rfl) (by kernel_rfl)

theorem rd27 (w : World) : Reads Tryz.prog w (fun l : List Nat => [.sl (lims l)]) (Nt 9223372036854775807) 27 := reads_nat Tryz.underlying27 Tryz.underlying64 (by kernel_rfl)

theorem rd31 (w : World) : Reads Tryz.prog w qrow (SzQ 9223372036854775807) 31 :=
  reads_rat (reads_struct (tot := 3) Tryz.underlying31 (by kernel_rfl) (fields_cons (tot := 3) (off := 0) (s := 2) (rd29 w) (by kernel_rfl) (fields_cons (tot := 3) (off := 2) (s := 1) (rd27 w) (by kernel_rfl) fields_nil)))

theorem rd24 (w : World) : Reads Tryz.prog w (fun p : List RQ => [.sl (rats p)]) RawQ 24 :=
  fun enc sp held fuel cs x h => reads_slice (f := qrow) (sz := 3) Tryz.underlying24 (by kernel_rfl) (fun _ => rfl) (by omega) (rd31 w) enc sp held fuel cs x h

set_option maxRecDepth 100000 in
theorem lifted (os : Os) (started : os.Started) (H : Type) (enc : TypeId × Value → H) :
    ReturnsInHanded {} Tryz.checked os 4 .any (Rows.evalsPointsSpec.pre6 enc Tryz.prog Tryz.f4 Rows.evalsPointsRow.domain false) (Rows.evalsPointsSpec.post enc Tryz.prog Tryz.f4 false true false false) := by
  refine returnsInHanded_of_change (C := Tryz.checked) own started (by kernel_rfl) Tryz.func4
    (ChangeSpec.witness6 (enc := enc) (C := Tryz.checked) false ⟨#[], #[.slice none 0 0, .slice none 0 0], []⟩ 8 (by kernel_rfl) (by kernel_rfl) (by kernel_rfl) (by kernel_rfl)) ?_
  intro W base args ds gs before hval0 hW hcnd _
  have hval : ∀ (j : Nat) t v, Tryz.f4.params[j]? = some t → args[j]? = some v → Value.okWide Tryz.prog W .any base t v := hval0
  have hW' := hW
  obtain ⟨p, q, hA0, hV, rfl, hfz, hnd⟩ := hW
  have hA : DataW.TrodAll enc Tryz.prog W 0 (fun _ => true) true Tryz.f4.params.toList args.toList ds p := hA0
  rw [Tryz.params4] at hA hval
  obtain ⟨v0, vs0, d0, ds0, p0, q0, hargs, rfl, rfl, h0, r0⟩ := trodAll_cons hA
  obtain ⟨v1, vs1, d1, ds1, p1, q1, rfl, rfl, rfl, h1, r1⟩ := trodAll_cons r0
  obtain ⟨rfl, rfl, rfl⟩ := trodAll_nil r1
  obtain rfl : args = #[v0, v1] := by cases args; simp_all
  obtain ⟨rfl, rfl⟩ := trodVars_none hV
  have k0 := h0
  have k1 := h1
  have lt0 : ∀ x ∈ p0, x.block < W.heap.size := by obtain ⟨m, hm⟩ := k0; exact DataW.trod_lt m _ _ _ hm
  have lt1 : ∀ x ∈ p1, x.block < W.heap.size := by obtain ⟨m, hm⟩ := k1; exact DataW.trod_lt m _ _ _ hm
  obtain ⟨b0, len0, cap0, rfl⟩ := okWide_slice Tryz.underlying24 (hval 0 24 v0 rfl rfl)
  obtain ⟨b1, len1, cap1, rfl⟩ := okWide_slice Tryz.underlying24 (hval 1 24 v1 rfl rfl)
  obtain ⟨n0, h0⟩ := h0
  obtain ⟨n1, h1⟩ := h1
  obtain ⟨a0, f0, e0⟩ := rd24 W enc _ _ _ _ _ h0
  obtain ⟨a1, f1, e1⟩ := rd24 W enc _ _ _ _ _ h1
  clear hA0 hval0
  refine (AC.law (points_law a0 a1 f0 f1) Tryz.func4 (by kernel_rfl) (by kernel_rfl) [.slice b0 len0 cap0, .slice b1 len1 cap1] ⟨e0.1, e1.1, trivial⟩).mono fun e W' ⟨he, bel⟩ => ?_
  subst he
  exact ⟨_, rfl, _, _, _, [], _, [], hW', trodAll_mk1 (shut_bool Tryz.underlying4 _), (trodAll_cons_mk (Below.trod laidOut (by kernel_rfl) (of_decide_eq_true (by kernel_rfl)) k0 bel lt0) (trodAll_cons_mk (Below.trod laidOut (by kernel_rfl) (of_decide_eq_true (by kernel_rfl)) k1 bel lt1) trodAll_mk0)), rfl, bel.frame _, fun h => by cases h⟩

theorem over : Rows.evalsPointsRow.holds Tryz.pinned (OpenSpec.ofChange Rows.evalsPointsSpec) :=
  OpenClaim.holds_of_wide 4 Tryz.f4 rfl rfl rfl rfl rfl rfl rfl ⟨rfl, rfl, rfl, rfl, rfl⟩ rfl rfl rfl rfl rfl (by kernel_rfl) Tryz.func4 (by kernel_rfl)
    (of_decide_eq_true (by kernel_rfl)) (by unfold Func.isWrapper; first | (rw [if_pos (by decide +kernel)]; kernel_rfl) | (rw [if_neg (by decide +kernel)]; exact ⟨rfl, rfl⟩))
    (fun os started H enc _ => lifted os started H enc)

/-- The statement. -/
theorem proved : Rows.EvalsPointsSaid := over

#print axioms proved
end Go.Proofs.YtcjnacpekbhhcaaGreat.evalsPointsDone
