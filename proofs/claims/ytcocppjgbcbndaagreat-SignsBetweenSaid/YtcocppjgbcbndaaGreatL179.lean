/-
  The law holds at every input: the last step of its proof.
-/
import Derived.Test.YtcocppjgbcbndaaGreatL175M
import Derived.Test.YtcocppjgbcbndaaGreatAbsS
import Derived.Test.YtcocppjgbcbndaaGreatRows
set_option maxHeartbeats 2000000
namespace Go.Proofs.YtcocppjgbcbndaaGreat.signsBetweenDone
open Go Go.Proofs Go.AL Go.Proofs.YtcocppjgbcbndaaGreat
open Go.ChangeShapes Go.WideShapes Go.ChangeAt Go.RowKit
set_option linter.unusedVariables false
theorem own : ownKnob Tryz.prog.godebug = none := by kernel_rfl
theorem laidOut : laidOutB Tryz.prog = true := by kernel_rfl
theorem okWide_arr {P : Program} {w : World} {r : Reach} {base : Nat} {t e : TypeId} {n : Nat} {v : Value} (ht : P.underlying t = some (.array n e)) (h : Value.okWide P w r base t v) : ∃ cs, v = .agg cs ∧ cs.size = P.cellsOf t := by
  simp only [Value.okWide, ht] at h
  obtain ⟨cs, h1, h2, _⟩ := h
  exact ⟨cs, h1, h2⟩
theorem rd3 (w : World) : Reads Tryz.prog w (fun x : Int => [.int .i64 x]) (fun x => -9223372036854775808 ≤ x ∧ x ≤ 9223372036854775807) 3 := reads_i64 Tryz.underlying3
theorem rd47 (w : World) : Reads Tryz.prog w (fun r : Int × Int => [.int .i64 r.1, .int .i64 r.2]) RawRt 47 := fun enc sp held fuel cs x h => by
  obtain ⟨c, hq, hr⟩ := reads_struct (tot := 2) Tryz.underlying47 (by kernel_rfl) (fields_cons (tot := 2) (off := 0) (s := 1) (rd3 w) (by kernel_rfl) (fields_cons (tot := 2) (off := 1) (s := 1) (rd3 w) (by kernel_rfl) fields_nil)) enc sp held fuel cs x h
  exact ⟨(c.1, c.2.1), ⟨hq.1, hq.2.1⟩, hr⟩
theorem rd22 (w : World) : Reads Tryz.prog w (fun p : List (Int × Int) => [.sl (rootr p)]) RawR 22 :=
  fun enc sp held fuel cs x h => reads_slice (f := fun r : Int × Int => [.int .i64 r.1, .int .i64 r.2]) (sz := 2) Tryz.underlying22 (by kernel_rfl) (fun _ => rfl) (by omega) (rd47 w) enc sp held fuel cs x h
theorem rd23 (w : World) : Reads Tryz.prog w (fun p : List Int => [.sl (ilims p)]) RawI 23 :=
  fun enc sp held fuel cs x h => reads_slice (f := fun x : Int => [.int .i64 x]) (sz := 1) Tryz.underlying23 (by kernel_rfl) (fun _ => rfl) (by omega) (rd3 w) enc sp held fuel cs x h
theorem rd25 (w : World) : Reads Tryz.prog w (fun c : (List (Int × Int) × (List Int × (Int × Unit))) => ([.sl (rootr c.1)] ++ ([.sl (ilims c.2.1)] ++ ([.int .i64 c.2.2.1] ++ [])))) (fun c => (RawR c.1 ∧ (RawI c.2.1 ∧ ((-9223372036854775808 ≤ c.2.2.1 ∧ c.2.2.1 ≤ 9223372036854775807) ∧ True)))) 25 := reads_struct (tot := 3) Tryz.underlying25 (by kernel_rfl) (fields_cons (tot := 3) (off := 0) (s := 1) (rd22 w) (by kernel_rfl) (fields_cons (tot := 3) (off := 1) (s := 1) (rd23 w) (by kernel_rfl) (fields_cons (tot := 3) (off := 2) (s := 1) (rd3 w) (by kernel_rfl) fields_nil)))
theorem rd68 (w : World) : Reads Tryz.prog w (fun c : (Int × Int) × (Int × Int) × (Int × Int) => [.int .i64 c.1.1, .int .i64 c.1.2, .int .i64 c.2.1.1, .int .i64 c.2.1.2, .int .i64 c.2.2.1, .int .i64 c.2.2.2]) (fun c => RawRt c.1 ∧ RawRt c.2.1 ∧ RawRt c.2.2) 68 := fun enc sp held fuel cs x h => by
  obtain ⟨xs, m, _, _, hl, hxs, hfs⟩ := DataW.trod_array Tryz.underlying68 h
  have ce : Tryz.prog.cellsOf 47 = 2 := by kernel_rfl
  have ct : Tryz.prog.cellsOf 68 = 6 := by kernel_rfl
  rw [ct] at hl
  rw [ce] at hfs
  clear ce ct
  have h0 := hfs 0 (by omega)
  rw [List.getElem?_eq_getElem (by omega)] at h0
  obtain ⟨a, qa, ra⟩ := rd47 w enc sp held m _ _ h0
  have h1 := hfs 1 (by omega)
  rw [List.getElem?_eq_getElem (by omega)] at h1
  obtain ⟨b, qb, rb⟩ := rd47 w enc sp held m _ _ h1
  have h2 := hfs 2 (by omega)
  rw [List.getElem?_eq_getElem (by omega)] at h2
  obtain ⟨c, qc, rc⟩ := rd47 w enc sp held m _ _ h2
  refine ⟨(a, b, c), ⟨qa, qb, qc⟩, ?_⟩
  have ec : cs = (cs.drop (0 * 2)).take 2 ++ ((cs.drop (1 * 2)).take 2 ++ (cs.drop (2 * 2)).take 2) := by
    match cs, hl with
    | [v0, v1, v2, v3, v4, v5], _ => rfl
  have z := ra.append (rb.append rc)
  rw [← ec] at z
  exact z
set_option maxRecDepth 100000 in
theorem lifted (os : Os) (started : os.Started) (H : Type) (enc : TypeId × Value → H) :
    ReturnsInHanded {} Tryz.checked os 5 .any (Rows.signsBetweenSpec.pre6 enc Tryz.prog Tryz.f5 Rows.signsBetweenRow.domain false) (Rows.signsBetweenSpec.post enc Tryz.prog Tryz.f5 false true false false) := by
  refine returnsInHanded_of_change (C := Tryz.checked) own started (by kernel_rfl) Tryz.func5
    (ChangeSpec.witness6 (enc := enc) (C := Tryz.checked) false ⟨#[], #[.agg #[.slice none 0 0, .slice none 0 0, .int .i64 0], .agg #[.int .i64 0, .int .i64 0, .int .i64 0, .int .i64 0, .int .i64 0, .int .i64 0]], []⟩ 8 (by kernel_rfl) (by kernel_rfl) (by kernel_rfl) (by kernel_rfl)) ?_
  intro W base args ds gs before hval0 hW hcnd _
  have hval : ∀ (j : Nat) t v, Tryz.f5.params[j]? = some t → args[j]? = some v → Value.okWide Tryz.prog W .any base t v := hval0
  have hW' := hW
  obtain ⟨p, q, hA0, hV, rfl, hfz, hnd⟩ := hW
  have hA : DataW.TrodAll enc Tryz.prog W 0 (fun _ => true) true Tryz.f5.params.toList args.toList ds p := hA0
  rw [Tryz.params5] at hA hval
  obtain ⟨v0, vs0, d0, ds0, p0, q0, hargs, rfl, rfl, h0, r0⟩ := trodAll_cons hA
  obtain ⟨v1, vs1, d1, ds1, p1, q1, rfl, rfl, rfl, h1, r1⟩ := trodAll_cons r0
  obtain ⟨rfl, rfl, rfl⟩ := trodAll_nil r1
  obtain rfl : args = #[v0, v1] := by cases args; simp_all
  obtain ⟨rfl, rfl⟩ := trodVars_none hV
  have k0 := h0
  have k1 := h1
  have lt0 : ∀ x ∈ p0, x.block < W.heap.size := by obtain ⟨m, hm⟩ := k0; exact DataW.trod_lt m _ _ _ hm
  have lt1 : ∀ x ∈ p1, x.block < W.heap.size := by obtain ⟨m, hm⟩ := k1; exact DataW.trod_lt m _ _ _ hm
  obtain ⟨b0, rfl, _⟩ := okWide_struct Tryz.underlying25 (hval 0 25 v0 rfl rfl)
  obtain ⟨b1, rfl, _⟩ := okWide_arr Tryz.underlying68 (hval 1 68 v1 rfl rfl)
  obtain ⟨n0, h0⟩ := h0
  obtain ⟨n1, h1⟩ := h1
  obtain ⟨a0, f0, e0⟩ := rd25 W enc _ _ _ _ _ h0
  obtain ⟨a1, f1, e1⟩ := rd68 W enc _ _ _ _ _ h1
  clear hA0 hval0
  refine (AC.law (between16_law2 a0.1 a0.2.1 a0.2.2.1 a1.1 a1.2.1 a1.2.2 f0.1 f0.2.1 f0.2.2.1.1 f0.2.2.1.2 f1.1 f1.2.1 f1.2.2) Tryz.func5 (by kernel_rfl) (by kernel_rfl) [.agg b0, .agg b1] ⟨⟨_, rfl, e0⟩, ⟨_, rfl, e1⟩, trivial⟩).mono fun e W' ⟨he, bel⟩ => ?_
  subst he
  exact ⟨_, rfl, _, _, _, [], _, [], hW', trodAll_mk1 (shut_bool Tryz.underlying4 _), (trodAll_cons_mk (Below.trod laidOut (by kernel_rfl) (of_decide_eq_true (by kernel_rfl)) k0 bel lt0) (trodAll_cons_mk (Below.trod laidOut (by kernel_rfl) (of_decide_eq_true (by kernel_rfl)) k1 bel lt1) trodAll_mk0)), rfl, bel.frame _, fun h => by cases h⟩
theorem over : Rows.signsBetweenRow.holds Tryz.pinned (OpenSpec.ofChange Rows.signsBetweenSpec) :=
  OpenClaim.holds_of_wide 5 Tryz.f5 rfl rfl rfl rfl rfl rfl rfl ⟨rfl, rfl, rfl, rfl, rfl⟩ rfl rfl rfl rfl rfl (by kernel_rfl) Tryz.func5 (by kernel_rfl)
    (of_decide_eq_true (by kernel_rfl)) (by unfold Func.isWrapper; first | (rw [if_pos (by decide +kernel)]; kernel_rfl) | (rw [if_neg (by decide +kernel)]; exact ⟨rfl, rfl⟩))
    (fun os started H enc _ => lifted os started H enc)
theorem proved : Rows.SignsBetweenSaid := over
#print axioms proved
end Go.Proofs.YtcocppjgbcbndaaGreat.signsBetweenDone
