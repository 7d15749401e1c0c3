/-
  Contracts of the functions that the law reaches.
-/
import Derived.Test.YthgecppfgdadiaaL35
import Derived.Test.YthgecppfgdadiaaAbsV
namespace Go.Proofs.Ythgecppfgdadiaa
open Go Go.Proofs Go.AL Go.RowKit
set_option linter.unusedSimpArgs false
set_option linter.unusedVariables false
theorem grow_res (w : World) (D : Nat → Prop) (n k : Nat) (hk : k < 2 ^ 63) (hnk : n ≤ k) (z : Array Value) (hz : z.size = k) (hD : ∀ b, D b → b < w.heap.size) :
    Below w.heap.size w (w.alloc (Obj.cells z 87)).drew ∧ ∃ us, Value.slice (some { block := w.heap.size, off := 0 }) 0 k = packV us ∧ ResOk w (w.alloc (Obj.cells z 87)).drew D (some (0, 87, 1, [])) [.iv (.sl [])] us := by
  refine ⟨?_, [_], rfl, rfl, ?_, ?_⟩
  · exact ((Below.refl _ _).alloc (Nat.le_refl _) _).drew
  · intro j c v hj hc hv
    cases j with
    | zero => exact (hj 0 87 1 [] rfl rfl).elim
    | succ j => simp at hc
  · intro i e sz rows h
    injection h with h; injection h with h1 h; injection h with h2 h; injection h with h3 h4; subst h1 h2 h3 h4
    refine ⟨_, rfl, by decide, by simp, .inr ⟨w.heap.size, k, z, rfl, .inl (Nat.le_refl _), ?_, by simp, ?_, by omega, by simp [Reps]⟩⟩
    · show (w.alloc _).heap[w.heap.size]? = some _
      simp only [World.alloc, Array.getElem?_push_size]
    · simp only [maxLen]; omega
theorem grow_ok (n : Nat) (hn : n ≤ 8796093022208) : AC Try.prog 193 [.val (.slice none 0 0), .iv (.int .i64 n)] (some (0, 87, 1, [])) [.iv (.sl [])] := by
  intro w D vs hD hvs
  match vs, hvs with
  | [v1, v2], hvs =>
  obtain ⟨h1, h2, _⟩ := hvs
  simp only [CVRep] at h1 h2
  subst h1
  obtain rfl : v2 = .int .i64 n := by cases h2; rfl
  refine .inl ⟨_, Try.func193, by rfl, by rfl, ?_⟩
  have hb : Try.t87.bytes = 8 := by kernel_rfl
  have h4 : ¬ 281474976710656 < (n : Int) * (8 : Nat) := by omega
  have h6 : ¬ 281474976710656 < n * 8 := by omega
  have h8 : ¬ (9223372036854775807 < (n : Int)) := by omega
  have h1 : ¬ (n : Int) < 0 := by omega
  have h3 : (0 : Int) - 0 = 0 := rfl
  rcases Nat.eq_zero_or_pos n with h0 | h0
  · subst h0
    go_enter Try.func193, Try.ntmps193
    go_wp2
    refine bodyPost_ret (results_tmp rfl _ _ _) rfl ?_
    refine ⟨_, rfl, Below.refl _ _, [_], rfl, rfl, ?_, ?_⟩
    · intro j c v hj hc hv
      cases j with
      | zero => exact (hj 0 _ 1 [] rfl rfl).elim
      | succ j => simp at hc
    · intro i e sz rows h
      injection h with h; injection h with h1 h; injection h with h2 h; injection h with h3 h4; subst h1 h2 h3 h4
      exact ⟨_, rfl, Nat.zero_lt_one, by simp, .inl ⟨rfl, rfl⟩⟩
  · have h2 : (0 : Int) < n := by omega
    have h5 : Builtin.nextslicecap n 0 = n := nextslicecap_zero h0
    have h7 : n ≠ 0 := by omega
    go_enter Try.func193, Try.ntmps193
    go_wp2
    refine bodyPost_ret (results_tmp rfl _ _ _) rfl ?_
    refine ⟨_, rfl, grow_res w D n _ ?_ ?_ _ ?_ hD⟩
    · have := grownCap_le_maxLen w n 0 87 (by simp only [maxLen]; omega)
      simp only [maxLen, grownCap] at this
      omega
    · exact grownCap_ge w n 0 87
    · have := grownCap_ge w n 0 87
      simp only [grownCap] at this
      simp only [Array.size_append, size_zeroCells, List.size_toArray, List.length_cons, List.length_nil, Nat.zero_add, Nat.mul_one, Nat.one_mul]
      omega

def tot (l : List (List Nat)) : Nat := (l.map List.length).sum

theorem snoc_take {l : List (List Nat)} {i : Nat} (h : i < l.length) : l.take (i + 1) = l.take i ++ [l.getD i []] := by
  rw [List.take_add_one]; congr 1; simp [List.getD, h]

theorem tot_take {l : List (List Nat)} {i : Nat} (h : i < l.length) : tot (l.take (i + 1)) = tot (l.take i) + (l.getD i []).length := by
  rw [snoc_take h]
  simp only [tot, List.map_append, List.map_cons, List.map_nil, List.sum_append, List.sum_cons, List.sum_nil, Nat.add_zero]

theorem flat_take {l : List (List Nat)} {i : Nat} (h : i < l.length) : (l.take (i + 1)).flatten = (l.take i).flatten ++ l.getD i [] := by
  rw [snoc_take h]
  simp only [List.flatten_append, List.flatten_cons, List.flatten_nil, List.append_nil]

theorem tot_flat (l : List (List Nat)) : l.flatten.length = tot l := by simp [tot, List.length_flatten]

theorem tot_mono (l : List (List Nat)) (i : Nat) : tot (l.take i) ≤ tot l := by
  have h : tot l = tot (l.take i) + tot (l.drop i) := by
    have := congrArg tot (List.take_append_drop i l)
    rw [← this]; simp only [tot, List.map_append, List.sum_append]
  omega

theorem concat_ok (l : List (List Nat)) (hl : l.length ≤ 1048576) (ht : tot l ≤ 4398046511104) : AC Try.prog 186 [.iv (.sl (natsr l))] (some (0, 87, 1, lims l.flatten)) [cl l.flatten] := by
  refine AC.by_walk (rs := [.tmp 2]) ords Try.func186 (by rfl) (by rfl) (by rfl) (by rfl) (by rfl) ?_
  simp (disch := omega) only [wk, tis, Int.reduceNe, Int.reduceEq, Int.reduceLT, Int.reduceLE, Int.reduceAdd, Int.reduceSub, Int.reduceNeg, Int.reduceMul, Int.reduceToNat, Nat.reduceSub, Nat.reduceMul, Nat.reduceLeDiff, Nat.reduceAdd, Nat.reduceLT, Nat.reduceEqDiff, reduceCtorEq, ↓reduceIte, natsr_len, natsr_at]
  refine aloop_by (fun f H => ∃ (i : Nat), i ≤ l.length ∧ f 11 = .iv (.int .i64 i) ∧ f 3 = .iv (.int .i64 (tot (l.take i))) ∧ f 0 = .iv (.sl (natsr l)) ∧ f 9 = .iv (.sl (natsr l)) ∧ f 10 = .iv (.int .i64 l.length)) (fun f H => (l.length - intAt f 11).toNat) ?_ ?_
  · refine ⟨0, by omega, ?_⟩
    simp (disch := omega) only [wk, tis, Int.reduceNe, Int.reduceEq, Int.reduceLT, Int.reduceLE, Int.reduceAdd, Int.reduceSub, Int.reduceNeg, Int.reduceMul, Int.reduceToNat, Nat.reduceSub, Nat.reduceMul, Nat.reduceLeDiff, Nat.reduceAdd, Nat.reduceLT, Nat.reduceEqDiff, reduceCtorEq, ↓reduceIte, natsr_len, natsr_at, List.take_zero, tot, List.map_nil, List.sum_nil]
  rintro f H ⟨i, hi, hF⟩
  rw [intAt_of hF.1]
  simp (disch := omega) only [wk, tis, Int.reduceNe, Int.reduceEq, Int.reduceLT, Int.reduceLE, Int.reduceAdd, Int.reduceSub, Int.reduceNeg, Int.reduceMul, Int.reduceToNat, Nat.reduceSub, Nat.reduceMul, Nat.reduceLeDiff, Nat.reduceAdd, Nat.reduceLT, Nat.reduceEqDiff, reduceCtorEq, ↓reduceIte, natsr_len, natsr_at, hF]
  refine if_by (fun hlt => ?_) (fun hlt => ?_)
  · have h1 := tot_take (l := l) (i := i) (by omega)
    have h2 := tot_mono l (i + 1)
    have h3 : ¬ (((tot (l.take i) : Nat) : Int) + (((l.getD i []).length : Nat) : Int) < 0) := by omega
    simp (disch := omega) only [wk, tis, Int.reduceNe, Int.reduceEq, Int.reduceLT, Int.reduceLE, Int.reduceAdd, Int.reduceSub, Int.reduceNeg, Int.reduceMul, Int.reduceToNat, Nat.reduceSub, Nat.reduceMul, Nat.reduceLeDiff, Nat.reduceAdd, Nat.reduceLT, Nat.reduceEqDiff, reduceCtorEq, ↓reduceIte, natsr_len, natsr_at, hF, h3]
    exact ⟨⟨i + 1, by omega, by omega, by omega⟩, by omega⟩
  · obtain rfl : i = l.length := by omega
    rw [List.take_length] at hF
    simp (disch := omega) only [wk, tis, Int.reduceNe, Int.reduceEq, Int.reduceLT, Int.reduceLE, Int.reduceAdd, Int.reduceSub, Int.reduceNeg, Int.reduceMul, Int.reduceToNat, Nat.reduceSub, Nat.reduceMul, Nat.reduceLeDiff, Nat.reduceAdd, Nat.reduceLT, Nat.reduceEqDiff, reduceCtorEq, ↓reduceIte, natsr_len, natsr_at, hF]
    refine call_nil (grow_ok (tot l) (by omega)) (by first | rfl | (simp only [tocvsN, tocvN, tocvs, tocv, hF]; rfl)) (by simp) ?_
    simp (disch := omega) only [wk, tis, Int.reduceNe, Int.reduceEq, Int.reduceLT, Int.reduceLE, Int.reduceAdd, Int.reduceSub, Int.reduceNeg, Int.reduceMul, Int.reduceToNat, Nat.reduceSub, Nat.reduceMul, Nat.reduceLeDiff, Nat.reduceAdd, Nat.reduceLT, Nat.reduceEqDiff, reduceCtorEq, ↓reduceIte, natsr_len, natsr_at, hF]
    have hrl := natsr_len l
    refine aloop_by (fun f H => ∃ (i st : Nat), i ≤ l.length ∧ f 27 = .iv (.int .i64 i) ∧ f 6 = .hs 24 st ∧ f 25 = .iv (.sl (natsr l)) ∧ f 26 = .iv (.int .i64 l.length) ∧ H 24 = .blk false st 87 1 (lims (l.take i).flatten)) (fun f H => (l.length - intAt f 27).toNat) ?_ ?_
    · refine ⟨0, (H 24).stamp + 1, by omega, ?_⟩
      simp (disch := omega) only [wk, tis, Int.reduceNe, Int.reduceEq, Int.reduceLT, Int.reduceLE, Int.reduceAdd, Int.reduceSub, Int.reduceNeg, Int.reduceMul, Int.reduceToNat, Nat.reduceSub, Nat.reduceMul, Nat.reduceLeDiff, Nat.reduceAdd, Nat.reduceLT, Nat.reduceEqDiff, reduceCtorEq, ↓reduceIte, natsr_len, natsr_at, hF, List.take_zero, List.flatten_nil, lims_nil]
    rintro f H ⟨i, st, hi, hF⟩
    rw [intAt_of hF.1]
    simp (disch := omega) only [wk, tis, Int.reduceNe, Int.reduceEq, Int.reduceLT, Int.reduceLE, Int.reduceAdd, Int.reduceSub, Int.reduceNeg, Int.reduceMul, Int.reduceToNat, Nat.reduceSub, Nat.reduceMul, Nat.reduceLeDiff, Nat.reduceAdd, Nat.reduceLT, Nat.reduceEqDiff, reduceCtorEq, ↓reduceIte, natsr_len, natsr_at, hF]
    refine if_by (fun hlt => ?_) (fun hlt => ?_)
    · have h1 := flat_take (l := l) (i := i) (by omega)
      have h2 := tot_flat (l.take i)
      have h3 := tot_take (l := l) (i := i) (by omega)
      have h4 := tot_mono l (i + 1)
      have h5 : ((l.take i).flatten.length + (l.getD i []).length) * 8 ≤ 140737488355328 := by omega
      simp (disch := omega) only [wk, tis, Int.reduceNe, Int.reduceEq, Int.reduceLT, Int.reduceLE, Int.reduceAdd, Int.reduceSub, Int.reduceNeg, Int.reduceMul, Int.reduceToNat, Nat.reduceSub, Nat.reduceMul, Nat.reduceLeDiff, Nat.reduceAdd, Nat.reduceLT, Nat.reduceEqDiff, reduceCtorEq, ↓reduceIte, natsr_len, natsr_at, hF]
      exact ⟨⟨i + 1, st + 1, by omega, by omega, rfl, by rw [h1]⟩, by omega⟩
    · obtain rfl : i = l.length := by omega
      rw [List.take_length] at hF
      simp (disch := omega) only [wk, tis, Int.reduceNe, Int.reduceEq, Int.reduceLT, Int.reduceLE, Int.reduceAdd, Int.reduceSub, Int.reduceNeg, Int.reduceMul, Int.reduceToNat, Nat.reduceSub, Nat.reduceMul, Nat.reduceLeDiff, Nat.reduceAdd, Nat.reduceLT, Nat.reduceEqDiff, reduceCtorEq, ↓reduceIte, natsr_len, natsr_at, hF]
end Go.Proofs.Ythgecppfgdadiaa
