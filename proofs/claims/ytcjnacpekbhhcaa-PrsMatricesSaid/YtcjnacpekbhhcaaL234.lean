/-
  The law holds at every input: the last step of its proof.
-/
import Derived.Test.YtcjnacpekbhhcaaL117M
import Derived.Test.YtcjnacpekbhhcaaAbsS
import Derived.Test.YtcjnacpekbhhcaaRows
set_option maxHeartbeats 2000000
namespace Go.Proofs.Ytcjnacpekbhhcaa.prsMatricesDone
open Go Go.Proofs Go.AL Go.Proofs.Ytcjnacpekbhhcaa
open Go.ChangeShapes Go.WideShapes Go.ChangeAt Go.RowKit
set_option linter.unusedVariables false
theorem own : ownKnob Try.prog.godebug = none := by kernel_rfl
theorem laidOut : laidOutB Try.prog = true := by kernel_rfl
theorem rd3 (w : World) : Reads Try.prog w (fun x : Int => [.int .i64 x]) (fun x => -9223372036854775808 ≤ x ∧ x ≤ 9223372036854775807) 3 := reads_i64 Try.underlying3
theorem rd22 (w : World) : Reads Try.prog w i3 RawI3 22 := fun enc sp held fuel cs x h => by
  obtain ⟨xs, m, _, _, hl, hxs, hfs⟩ := DataW.trod_array Try.underlying22 h
  have ce : Try.prog.cellsOf 3 = 1 := by kernel_rfl
  have ct : Try.prog.cellsOf 22 = 3 := by kernel_rfl
  rw [ct] at hl
  rw [ce] at hfs
  clear ce ct
  have h0 := hfs 0 (by omega)
  rw [List.getElem?_eq_getElem (by omega)] at h0
  obtain ⟨a, qa, ra⟩ := rd3 w enc sp held m _ _ h0
  have h1 := hfs 1 (by omega)
  rw [List.getElem?_eq_getElem (by omega)] at h1
  obtain ⟨b, qb, rb⟩ := rd3 w enc sp held m _ _ h1
  have h2 := hfs 2 (by omega)
  rw [List.getElem?_eq_getElem (by omega)] at h2
  obtain ⟨c, qc, rc⟩ := rd3 w enc sp held m _ _ h2
  refine ⟨(a, b, c), ⟨qa, qb, qc⟩, ?_⟩
  have ec : cs = (cs.drop (0 * 1)).take 1 ++ ((cs.drop (1 * 1)).take 1 ++ (cs.drop (2 * 1)).take 1) := by
    match cs, hl with
    | [v0, v1, v2], _ => rfl
  have z := ra.append (rb.append rc)
  rw [← ec] at z
  exact z
theorem rd23 (w : World) : Reads Try.prog w i9 RawI9 23 := fun enc sp held fuel cs x h => by
  obtain ⟨xs, m, _, _, hl, hxs, hfs⟩ := DataW.trod_array Try.underlying23 h
  have ce : Try.prog.cellsOf 22 = 3 := by kernel_rfl
  have ct : Try.prog.cellsOf 23 = 9 := by kernel_rfl
  rw [ct] at hl
  rw [ce] at hfs
  clear ce ct
  have h0 := hfs 0 (by omega)
  rw [List.getElem?_eq_getElem (by omega)] at h0
  obtain ⟨a, qa, ra⟩ := rd22 w enc sp held m _ _ h0
  have h1 := hfs 1 (by omega)
  rw [List.getElem?_eq_getElem (by omega)] at h1
  obtain ⟨b, qb, rb⟩ := rd22 w enc sp held m _ _ h1
  have h2 := hfs 2 (by omega)
  rw [List.getElem?_eq_getElem (by omega)] at h2
  obtain ⟨c, qc, rc⟩ := rd22 w enc sp held m _ _ h2
  refine ⟨(a, b, c), ⟨qa, qb, qc⟩, ?_⟩
  have ec : cs = (cs.drop (0 * 3)).take 3 ++ ((cs.drop (1 * 3)).take 3 ++ (cs.drop (2 * 3)).take 3) := by
    match cs, hl with
    | [v0, v1, v2, v3, v4, v5, v6, v7, v8], _ => rfl
  have z := ra.append (rb.append rc)
  rw [← ec] at z
  exact z
theorem rd25 (w : World) : Reads Try.prog w (fun c : (I9 × (I9 × (Int × (Int × Unit)))) => (i9 c.1 ++ (i9 c.2.1 ++ ([.int .i64 c.2.2.1] ++ ([.int .i64 c.2.2.2.1] ++ []))))) (fun c => (RawI9 c.1 ∧ (RawI9 c.2.1 ∧ ((-9223372036854775808 ≤ c.2.2.1 ∧ c.2.2.1 ≤ 9223372036854775807) ∧ ((-9223372036854775808 ≤ c.2.2.2.1 ∧ c.2.2.2.1 ≤ 9223372036854775807) ∧ True))))) 25 := reads_struct (tot := 20) Try.underlying25 (by kernel_rfl) (fields_cons (tot := 20) (off := 0) (s := 9) (rd23 w) (by kernel_rfl) (fields_cons (tot := 20) (off := 9) (s := 9) (rd23 w) (by kernel_rfl) (fields_cons (tot := 20) (off := 18) (s := 1) (rd3 w) (by kernel_rfl) (fields_cons (tot := 20) (off := 19) (s := 1) (rd3 w) (by kernel_rfl) fields_nil))))
set_option maxRecDepth 100000 in
theorem lifted (os : Os) (started : os.Started) (H : Type) (enc : TypeId × Value → H) :
    ReturnsInHanded {} Try.checked os 3 .any (Rows.prsMatricesSpec.pre6 enc Try.prog Try.f3 Rows.prsMatricesRow.domain false) (Rows.prsMatricesSpec.post enc Try.prog Try.f3 false true false false) := by
  refine returnsInHanded_of_change (C := Try.checked) own started (by kernel_rfl) Try.func3
    (ChangeSpec.witness6 (enc := enc) (C := Try.checked) false ⟨#[], #[.agg #[.int .i64 0, .int .i64 0, .int .i64 0, .int .i64 0, .int .i64 0, .int .i64 0, .int .i64 0, .int .i64 0, .int .i64 0, .int .i64 0, .int .i64 0, .int .i64 0, .int .i64 0, .int .i64 0, .int .i64 0, .int .i64 0, .int .i64 0, .int .i64 0, .int .i64 0, .int .i64 0]], []⟩ 8 (by kernel_rfl) (by kernel_rfl) (by kernel_rfl) (by kernel_rfl)) ?_
  intro W base args ds gs before hval0 hW hcnd _
  have hval : ∀ (j : Nat) t v, Try.f3.params[j]? = some t → args[j]? = some v → Value.okWide Try.prog W .any base t v := hval0
  have hW' := hW
  obtain ⟨p, q, hA0, hV, rfl, hfz, hnd⟩ := hW
  have hA : DataW.TrodAll enc Try.prog W 0 (fun _ => true) true Try.f3.params.toList args.toList ds p := hA0
  rw [Try.params3] at hA hval
  obtain ⟨v0, vs0, d0, ds0, p0, q0, hargs, rfl, rfl, h0, r0⟩ := trodAll_cons hA
  obtain ⟨rfl, rfl, rfl⟩ := trodAll_nil r0
  obtain rfl : args = #[v0] := by cases args; simp_all
  obtain ⟨rfl, rfl⟩ := trodVars_none hV
  have k0 := h0
  have lt0 : ∀ x ∈ p0, x.block < W.heap.size := by obtain ⟨m, hm⟩ := k0; exact DataW.trod_lt m _ _ _ hm
  obtain ⟨b0, rfl, _⟩ := okWide_struct Try.underlying25 (hval 0 25 v0 rfl rfl)
  obtain ⟨n0, h0⟩ := h0
  obtain ⟨a0, f0, e0⟩ := rd25 W enc _ _ _ _ _ h0
  clear hA0 hval0
  refine (AC.law (mats9 a0.1 a0.2.1 a0.2.2.1 a0.2.2.2.1 f0.1 f0.2.1 f0.2.2.1.1 f0.2.2.1.2 f0.2.2.2.1.1 f0.2.2.2.1.2) Try.func3 (by kernel_rfl) (by kernel_rfl) [.agg b0] ⟨⟨_, rfl, e0⟩, trivial⟩).mono fun e W' ⟨he, bel⟩ => ?_
  subst he
  exact ⟨_, rfl, _, _, _, [], _, [], hW', trodAll_mk1 (shut_bool Try.underlying4 _), (trodAll_cons_mk (Below.trod laidOut (by kernel_rfl) (of_decide_eq_true (by kernel_rfl)) k0 bel lt0) trodAll_mk0), rfl, bel.frame _, fun h => by cases h⟩
theorem over : Rows.prsMatricesRow.holds Try.pinned (OpenSpec.ofChange Rows.prsMatricesSpec) :=
  OpenClaim.holds_of_wide 3 Try.f3 rfl rfl rfl rfl rfl rfl rfl ⟨rfl, rfl, rfl, rfl, rfl⟩ rfl rfl rfl rfl rfl (by kernel_rfl) Try.func3 (by kernel_rfl)
    (of_decide_eq_true (by kernel_rfl)) (by unfold Func.isWrapper; first | (rw [if_pos (by decide +kernel)]; kernel_rfl) | (rw [if_neg (by decide +kernel)]; exact ⟨rfl, rfl⟩))
    (fun os started H enc _ => lifted os started H enc)
theorem proved : Rows.PrsMatricesSaid := over
#print axioms proved
end Go.Proofs.Ytcjnacpekbhhcaa.prsMatricesDone
