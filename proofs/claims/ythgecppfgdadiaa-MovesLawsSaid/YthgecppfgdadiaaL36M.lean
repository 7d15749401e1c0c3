/-
  Contracts of the functions that the law reaches.
-/
import Derived.Test.YthgecppfgdadiaaL31M
import Derived.Test.YthgecppfgdadiaaAbsV
import Derived.Test.YthgecppfgdadiaaL12M
namespace Go.Proofs.Ythgecppfgdadiaa
open Go Go.Proofs Go.AL Go.RowKit
set_option linter.unusedSimpArgs false
set_option linter.unusedVariables false
theorem grow_res (w : World) (D : Nat → Prop) (n k : Nat) (hk : k < 2 ^ 63) (hnk : n ≤ k) (z : Array Value) (hz : z.size = k) (hD : ∀ b, D b → b < w.heap.size) :
    Below w.heap.size w (w.alloc (Obj.cells z 87)).drew ∧ ∃ us, Value.slice (some { block := w.heap.size, off := 0 }) 0 k = packV us ∧ ResOk w (w.alloc (Obj.cells z 87)).drew D (some (0, 87, 1, [])) [.iv (.sl [])] us := by
  refine ⟨?_, [_], rfl, rfl, ?_, ?_⟩
  · exact ((Below.refl _ _).alloc (Nat.le_refl _) _).drew
  · intro j c v hj hc hv
    cases j with
    | zero => exact (hj 0 87 1 [] rfl rfl).elim
    | succ j => simp at hc
  · intro i e sz rows h
    injection h with h; injection h with h1 h; injection h with h2 h; injection h with h3 h4; subst h1 h2 h3 h4
    refine ⟨_, rfl, by decide, by simp, .inr ⟨w.heap.size, k, z, rfl, .inl (Nat.le_refl _), ?_, by simp, ?_, by omega, by simp [Reps]⟩⟩
    · show (w.alloc _).heap[w.heap.size]? = some _
      simp only [World.alloc, Array.getElem?_push_size]
    · simp only [maxLen]; omega
theorem grow_ok (n : Nat) (hn : n ≤ 8796093022208) : AC Try.prog 193 [.val (.slice none 0 0), .iv (.int .i64 n)] (some (0, 87, 1, [])) [.iv (.sl [])] := by
  intro w D vs hD hvs
  match vs, hvs with
  | [v1, v2], hvs =>
  obtain ⟨h1, h2, _⟩ := hvs
  simp only [CVRep] at h1 h2
  subst h1
  obtain rfl : v2 = .int .i64 n := by cases h2; rfl
  refine .inl ⟨_, Try.func193, by rfl, by rfl, ?_⟩
  have hb : Try.t87.bytes = 8 := by kernel_rfl
  have h4 : ¬ 281474976710656 < (n : Int) * (8 : Nat) := by omega
  have h6 : ¬ 281474976710656 < n * 8 := by omega
  have h8 : ¬ (9223372036854775807 < (n : Int)) := by omega
  have h1 : ¬ (n : Int) < 0 := by omega
  have h3 : (0 : Int) - 0 = 0 := rfl
  rcases Nat.eq_zero_or_pos n with h0 | h0
  · subst h0
    go_enter Try.func193, Try.ntmps193
    go_wp2
    refine bodyPost_ret (results_tmp rfl _ _ _) rfl ?_
    refine ⟨_, rfl, Below.refl _ _, [_], rfl, rfl, ?_, ?_⟩
    · intro j c v hj hc hv
      cases j with
      | zero => exact (hj 0 _ 1 [] rfl rfl).elim
      | succ j => simp at hc
    · intro i e sz rows h
      injection h with h; injection h with h1 h; injection h with h2 h; injection h with h3 h4; subst h1 h2 h3 h4
      exact ⟨_, rfl, Nat.zero_lt_one, by simp, .inl ⟨rfl, rfl⟩⟩
  · have h2 : (0 : Int) < n := by omega
    have h5 : Builtin.nextslicecap n 0 = n := nextslicecap_zero h0
    have h7 : n ≠ 0 := by omega
    go_enter Try.func193, Try.ntmps193
    go_wp2
    refine bodyPost_ret (results_tmp rfl _ _ _) rfl ?_
    refine ⟨_, rfl, grow_res w D n _ ?_ ?_ _ ?_ hD⟩
    · have := grownCap_le_maxLen w n 0 87 (by simp only [maxLen]; omega)
      simp only [maxLen, grownCap] at this
      omega
    · exact grownCap_ge w n 0 87
    · have := grownCap_ge w n 0 87
      simp only [grownCap] at this
      simp only [Array.size_append, size_zeroCells, List.size_toArray, List.length_cons, List.length_nil, Nat.zero_add, Nat.mul_one, Nat.one_mul]
      omega

def tot (l : List (List Nat)) : Nat := (l.map List.length).sum

theorem snoc_take {l : List (List Nat)} {i : Nat} (h : i < l.length) : l.take (i + 1) = l.take i ++ [l.getD i []] := by
  rw [List.take_add_one]; congr 1; simp [List.getD, h]

theorem tot_take {l : List (List Nat)} {i : Nat} (h : i < l.length) : tot (l.take (i + 1)) = tot (l.take i) + (l.getD i []).length := by
  rw [snoc_take h]
  simp only [tot, List.map_append, List.map_cons, List.map_nil, List.sum_append, List.sum_cons, List.sum_nil, Nat.add_zero]

theorem flat_take {l : List (List Nat)} {i : Nat} (h : i < l.length) : (l.take (i + 1)).flatten = (l.take i).flatten ++ l.getD i [] := by
  rw [snoc_take h]
  simp only [List.flatten_append, List.flatten_cons, List.flatten_nil, List.append_nil]

theorem tot_flat (l : List (List Nat)) : l.flatten.length = tot l := by simp [tot, List.length_flatten]

theorem tot_mono (l : List (List Nat)) (i : Nat) : tot (l.take i) ≤ tot l := by
  have h : tot l = tot (l.take i) + tot (l.drop i) := by
    have := congrArg tot (List.take_append_drop i l)
    rw [← this]; simp only [tot, List.map_append, List.sum_append]
  omega

theorem concat_ok (l : List (List Nat)) (hl : l.length ≤ 1048576) (ht : tot l ≤ 4398046511104) : AC Try.prog 186 [.iv (.sl (natsr l))] (some (0, 87, 1, lims l.flatten)) [cl l.flatten] := by
  refine AC.by_walk (rs := [.tmp 2]) ords Try.func186 (by rfl) (by rfl) (by rfl) (by rfl) (by rfl) ?_
  simp (disch := omega) only [wk, tis, Int.reduceNe, Int.reduceEq, Int.reduceLT, Int.reduceLE, Int.reduceAdd, Int.reduceSub, Int.reduceNeg, Int.reduceMul, Int.reduceToNat, Nat.reduceSub, Nat.reduceMul, Nat.reduceLeDiff, Nat.reduceAdd, Nat.reduceLT, Nat.reduceEqDiff, reduceCtorEq, ↓reduceIte, natsr_len, natsr_at]
  refine aloop_by (fun f H => ∃ (i : Nat), i ≤ l.length ∧ f 11 = .iv (.int .i64 i) ∧ f 3 = .iv (.int .i64 (tot (l.take i))) ∧ f 0 = .iv (.sl (natsr l)) ∧ f 9 = .iv (.sl (natsr l)) ∧ f 10 = .iv (.int .i64 l.length)) (fun f H => (l.length - intAt f 11).toNat) ?_ ?_
  · refine ⟨0, by omega, ?_⟩
    simp (disch := omega) only [wk, tis, Int.reduceNe, Int.reduceEq, Int.reduceLT, Int.reduceLE, Int.reduceAdd, Int.reduceSub, Int.reduceNeg, Int.reduceMul, Int.reduceToNat, Nat.reduceSub, Nat.reduceMul, Nat.reduceLeDiff, Nat.reduceAdd, Nat.reduceLT, Nat.reduceEqDiff, reduceCtorEq, ↓reduceIte, natsr_len, natsr_at, List.take_zero, tot, List.map_nil, List.sum_nil]
  rintro f H ⟨i, hi, hF⟩
  rw [intAt_of hF.1]
  simp (disch := omega) only [wk, tis, Int.reduceNe, Int.reduceEq, Int.reduceLT, Int.reduceLE, Int.reduceAdd, Int.reduceSub, Int.reduceNeg, Int.reduceMul, Int.reduceToNat, Nat.reduceSub, Nat.reduceMul, Nat.reduceLeDiff, Nat.reduceAdd, Nat.reduceLT, Nat.reduceEqDiff, reduceCtorEq, ↓reduceIte, natsr_len, natsr_at, hF]
  refine if_by (fun hlt => ?_) (fun hlt => ?_)
  · have h1 := tot_take (l := l) (i := i) (by omega)
    have h2 := tot_mono l (i + 1)
    have h3 : ¬ (((tot (l.take i) : Nat) : Int) + (((l.getD i []).length : Nat) : Int) < 0) := by omega
    simp (disch := omega) only [wk, tis, Int.reduceNe, Int.reduceEq, Int.reduceLT, Int.reduceLE, Int.reduceAdd, Int.reduceSub, Int.reduceNeg, Int.reduceMul, Int.reduceToNat, Nat.reduceSub, Nat.reduceMul, Nat.reduceLeDiff, Nat.reduceAdd, Nat.reduceLT, Nat.reduceEqDiff, reduceCtorEq, ↓reduceIte, natsr_len, natsr_at, hF, h3]
    exact ⟨⟨i + 1, by omega, by omega, by omega⟩, by omega⟩
  · obtain rfl : i = l.length := by omega
    rw [List.take_length] at hF
    simp (disch := omega) only [wk, tis, Int.reduceNe, Int.reduceEq, Int.reduceLT, Int.reduceLE, Int.reduceAdd, Int.reduceSub, Int.reduceNeg, Int.reduceMul, Int.reduceToNat, Nat.reduceSub, Nat.reduceMul, Nat.reduceLeDiff, Nat.reduceAdd, Nat.reduceLT, Nat.reduceEqDiff, reduceCtorEq, ↓reduceIte, natsr_len, natsr_at, hF]
    refine call_nil (grow_ok (tot l) (by omega)) (by first | rfl | (simp only [tocvsN, tocvN, tocvs, tocv, hF]; rfl)) (by simp) ?_
    simp (disch := omega) only [wk, tis, Int.reduceNe, Int.reduceEq, Int.reduceLT, Int.reduceLE, Int.reduceAdd, Int.reduceSub, Int.reduceNeg, Int.reduceMul, Int.reduceToNat, Nat.reduceSub, Nat.reduceMul, Nat.reduceLeDiff, Nat.reduceAdd, Nat.reduceLT, Nat.reduceEqDiff, reduceCtorEq, ↓reduceIte, natsr_len, natsr_at, hF]
    have hrl := natsr_len l
    refine aloop_by (fun f H => ∃ (i st : Nat), i ≤ l.length ∧ f 27 = .iv (.int .i64 i) ∧ f 6 = .hs 24 st ∧ f 25 = .iv (.sl (natsr l)) ∧ f 26 = .iv (.int .i64 l.length) ∧ H 24 = .blk false st 87 1 (lims (l.take i).flatten)) (fun f H => (l.length - intAt f 27).toNat) ?_ ?_
    · refine ⟨0, (H 24).stamp + 1, by omega, ?_⟩
      simp (disch := omega) only [wk, tis, Int.reduceNe, Int.reduceEq, Int.reduceLT, Int.reduceLE, Int.reduceAdd, Int.reduceSub, Int.reduceNeg, Int.reduceMul, Int.reduceToNat, Nat.reduceSub, Nat.reduceMul, Nat.reduceLeDiff, Nat.reduceAdd, Nat.reduceLT, Nat.reduceEqDiff, reduceCtorEq, ↓reduceIte, natsr_len, natsr_at, hF, List.take_zero, List.flatten_nil, lims_nil]
    rintro f H ⟨i, st, hi, hF⟩
    rw [intAt_of hF.1]
    simp (disch := omega) only [wk, tis, Int.reduceNe, Int.reduceEq, Int.reduceLT, Int.reduceLE, Int.reduceAdd, Int.reduceSub, Int.reduceNeg, Int.reduceMul, Int.reduceToNat, Nat.reduceSub, Nat.reduceMul, Nat.reduceLeDiff, Nat.reduceAdd, Nat.reduceLT, Nat.reduceEqDiff, reduceCtorEq, ↓reduceIte, natsr_len, natsr_at, hF]
    refine if_by (fun hlt => ?_) (fun hlt => ?_)
    · have h1 := flat_take (l := l) (i := i) (by omega)
      have h2 := tot_flat (l.take i)
      have h3 := tot_take (l := l) (i := i) (by omega)
      have h4 := tot_mono l (i + 1)
      have h5 : ((l.take i).flatten.length + (l.getD i []).length) * 8 ≤ 140737488355328 := by omega
      simp (disch := omega) only [wk, tis, Int.reduceNe, Int.reduceEq, Int.reduceLT, Int.reduceLE, Int.reduceAdd, Int.reduceSub, Int.reduceNeg, Int.reduceMul, Int.reduceToNat, Nat.reduceSub, Nat.reduceMul, Nat.reduceLeDiff, Nat.reduceAdd, Nat.reduceLT, Nat.reduceEqDiff, reduceCtorEq, ↓reduceIte, natsr_len, natsr_at, hF]
      exact ⟨⟨i + 1, st + 1, by omega, by omega, rfl, by rw [h1]⟩, by omega⟩
    · obtain rfl : i = l.length := by omega
      rw [List.take_length] at hF
      simp (disch := omega) only [wk, tis, Int.reduceNe, Int.reduceEq, Int.reduceLT, Int.reduceLE, Int.reduceAdd, Int.reduceSub, Int.reduceNeg, Int.reduceMul, Int.reduceToNat, Nat.reduceSub, Nat.reduceMul, Nat.reduceLeDiff, Nat.reduceAdd, Nat.reduceLT, Nat.reduceEqDiff, reduceCtorEq, ↓reduceIte, natsr_len, natsr_at, hF]
end Go.Proofs.Ythgecppfgdadiaa

namespace Go.Proofs.Ythgecppfgdadiaa
open Go Go.Proofs Go.AL
set_option linter.unusedSimpArgs false
set_option linter.unusedVariables false

/-- The guess is right, or one too great. -/
theorem knuth_est {b D D3 V V2 X g : Nat} (hX : 0 < X) (h1 : D3 * X ≤ D) (h2 : D < (D3 + 1) * X) (h3 : V2 * X ≤ V) (h4 : V < (V2 + 1) * X) (h5 : D < V * b) (h6 : b ≤ V2) (hb : 0 < b)
    (hg : g = min (D3 / V2) (b - 1)) : D / V ≤ g ∧ g ≤ D / V + 1 := by
  have hV2 : 0 < V2 := by omega
  have hV : 0 < V := Nat.lt_of_lt_of_le (Nat.mul_pos hV2 hX) h3
  constructor
  · rw [hg, Nat.le_min]
    have e1 := Nat.div_mul_le_self D V
    constructor
    · rw [Nat.le_div_iff_mul_le hV2]
      have e2 : D / V * V2 * X < (D3 + 1) * X := by
        rw [Nat.mul_assoc]
        exact Nat.lt_of_le_of_lt (Nat.le_trans (Nat.mul_le_mul_left _ h3) e1) h2
      have := Nat.lt_of_mul_lt_mul_right e2
      omega
    · have : D / V < b := by rw [Nat.div_lt_iff_lt_mul hV, Nat.mul_comm]; exact h5
      omega
  · have e2 : D < (D / V + 1) * V := by rw [Nat.mul_comm]; exact Nat.lt_mul_div_succ D hV
    generalize D / V = q at *
    rcases Nat.lt_or_ge (q + 1) g with h | h
    · exfalso
      have hgb : g ≤ b - 1 := by rw [hg]; exact Nat.min_le_right _ _
      have hgd : g ≤ D3 / V2 := by rw [hg]; exact Nat.min_le_left _ _
      have e1 : g * V2 ≤ D3 := (Nat.le_div_iff_mul_le hV2).mp hgd
      have e3 : (q + 1) * V ≤ (g - 1) * V := Nat.mul_le_mul_right _ (by omega)
      have e4 : (g - 1) * V < (g - 1) * ((V2 + 1) * X) := Nat.mul_lt_mul_of_pos_left h4 (by omega)
      have e5 : g * V2 * X ≤ D := Nat.le_trans (Nat.mul_le_mul_right _ e1) h1
      have e6 : g * V2 * X < (g - 1) * (V2 + 1) * X := by rw [Nat.mul_assoc (g - 1)]; omega
      have e7 := Nat.lt_of_mul_lt_mul_right e6
      obtain ⟨k, rfl⟩ : ∃ k, g = k + 1 := ⟨g - 1, by omega⟩
      rw [Nat.add_sub_cancel, Nat.succ_mul, Nat.mul_succ] at e7
      omega
    · exact h

/-- What is taken away, and what is left of the guess. -/
theorem knuth_sub {b N D V lo t g c r : Nat} (hN : 0 < N) (hlo : lo < N) (hD : D = lo + N * t) (hV : 0 < V) (hVN : V ≤ N) (h1 : D / V ≤ g) (h2 : g ≤ D / V + 1)
    (hr : r + V * g = lo + N * c) (hrN : r < N) :
    (c ≤ t → g = D / V ∧ r + N * (t - c) = D % V) ∧ (t < c → g = D / V + 1 ∧ c ≤ t + 1 + 0 * b ∧ r + V = D % V + N) := by
  have hd := Nat.div_add_mod D V
  have hm := Nat.mod_lt D hV
  generalize D / V = q at *
  generalize D % V = m at *
  constructor
  · intro hc
    obtain ⟨k, rfl⟩ : ∃ k, t = c + k := ⟨t - c, by omega⟩
    rw [Nat.mul_add] at hD
    rw [Nat.add_sub_cancel_left]
    have : g = q := by
      rcases Nat.lt_or_ge q g with h | h
      · obtain rfl : g = q + 1 := by omega
        rw [Nat.mul_succ] at hr
        omega
      · omega
    subst this
    exact ⟨rfl, by omega⟩
  · intro hc
    obtain ⟨k, rfl⟩ : ∃ k, c = t + 1 + k := ⟨c - t - 1, by omega⟩
    rw [Nat.mul_add, Nat.mul_add, Nat.mul_one] at hr
    have : g = q + 1 := by
      rcases Nat.lt_or_ge q g with h | h
      · omega
      · obtain rfl : g = q := by omega
        omega
    subst this
    rw [Nat.mul_succ] at hr
    have hk : k = 0 := by
      rcases Nat.eq_zero_or_pos k with h | h
      · exact h
      · have := Nat.mul_le_mul_left N h
        omega
    subst hk
    rw [Nat.mul_zero] at hr
    exact ⟨rfl, by omega, by omega⟩

theorem nv_dropk (l : List Nat) (k : Nat) (h : k < l.length) : nv (l.drop k) = l.getD k 0 + W * nv (l.drop (k + 1)) := by
  rw [List.drop_eq_getElem_cons h]
  simp only [nv, vl, List.getD, List.getElem?_eq_getElem h, Option.getD_some]

theorem subC_eq {x y N : Nat} (hN : 0 < N) (hx : x < N) : (x + N * subC x y N - y) + y = x + N * subC x y N ∧ x + N * subC x y N - y < N := by
  unfold subC
  have h1 := Nat.div_add_mod (y - x + N - 1) N
  have h2 := Nat.mod_lt (y - x + N - 1) hN
  generalize (y - x + N - 1) / N = q at *
  rcases Nat.eq_zero_or_pos q with h | h
  · subst h
    rw [Nat.mul_zero] at *
    omega
  · have := Nat.mul_le_mul_left N h
    omega

/-- One digit of the quotient: the state, in numbers. -/
theorem knuth_digit {u v : List Nat} {i n : Nat} (hu : Lim u) (hv : Lim v) (hn : 2 ≤ n) (hin : i + n < u.length) (hvl : v.length = n) (hv1 : 0 < v.getD (n - 1) 0) (hR : nv (u.drop (i + 1)) < nv v) :
    u.getD (i + n) 0 ≤ v.getD (n - 1) 0 ∧ nv (u.drop i) = nv ((u.drop i).take n) + W ^ n * u.getD (i + n) 0 ∧ nv (u.drop (i + n + 1)) = 0 ∧
    nv (u.drop i) / nv v ≤ gd3 (u.getD (i + n) 0) (u.getD (i + n - 1) 0) (u.getD (i + n - 2) 0) (v.getD (n - 1) 0) (v.getD (n - 2) 0) ∧
    gd3 (u.getD (i + n) 0) (u.getD (i + n - 1) 0) (u.getD (i + n - 2) 0) (v.getD (n - 1) 0) (v.getD (n - 2) 0) ≤ nv (u.drop i) / nv v + 1 := by
  obtain ⟨k, rfl⟩ : ∃ k, n = k + 2 := ⟨n - 2, by omega⟩
  rw [show k + 2 - 1 = k + 1 by omega, show k + 2 - 2 = k by omega, show i + (k + 2) - 1 = i + k + 1 by omega, show i + (k + 2) - 2 = i + k by omega, show i + (k + 2) = i + k + 2 by omega] at *
  have hVlt := nv_lt hv
  rw [hvl] at hVlt
  have d1 := nv_dropk u i (by omega)
  have hDR : nv (u.drop i) < nv v * W := by
    have := hu.get i
    have h2 := Nat.mul_le_mul_right W hR
    rw [Nat.succ_mul] at h2
    rw [Nat.mul_comm W] at d1
    omega
  have s1 := vl_split W (u.drop i) (k := k) (by simp; omega)
  rw [List.drop_drop] at s1
  have d2 := nv_dropk u (i + k) (by omega)
  have d3 := nv_dropk u (i + k + 1) (by omega)
  have d4 := nv_dropk u (i + k + 1 + 1) (by omega)
  have s2 := vl_split W v (k := k) (by omega)
  have v2 := nv_dropk v k (by omega)
  have v3 := nv_dropk v (k + 1) (by omega)
  have v4 : nv (v.drop (k + 1 + 1)) = 0 := by rw [List.drop_of_length_le (by omega)]; rfl
  have s3 := vl_split W (u.drop i) (k := k + 2) (by simp; omega)
  rw [List.drop_drop] at s3
  have s4 := vl_split W (u.drop i) (k := k + 2 + 1) (by simp; omega)
  rw [List.drop_drop] at s4
  have s5 := vl_split W (u.drop (i + 1)) (k := k + 1) (by simp; omega)
  rw [List.drop_drop] at s5
  have s6 := vl_split W v (k := k + 1) (by omega)
  have l1 := nv_lt ((hu.drop i).take k)
  have l2 := nv_lt (hv.take k)
  have l3 := nv_lt (hv.take (k + 1))
  rw [List.length_take, Nat.min_eq_left (by simp only [List.length_drop]; omega)] at l1
  rw [List.length_take, Nat.min_eq_left (by omega)] at l2 l3
  simp only [nv] at *
  rw [show i + 1 + (k + 1) = i + k + 2 by omega] at s5
  rw [show i + (k + 2) = i + k + 2 by omega] at s3
  rw [show i + (k + 2 + 1) = i + k + 3 by omega] at s4
  rw [show i + k + 1 + 1 + 1 = i + k + 3 by omega, show i + k + 1 + 1 = i + k + 2 by omega] at d4
  rw [show i + k + 1 + 1 = i + k + 2 by omega] at d3
  rw [show i + k + 2 + 1 = i + k + 3 by omega]
  have hz : vl W (u.drop (i + k + 3)) = 0 := by
    rcases Nat.eq_zero_or_pos (vl W (u.drop (i + k + 3))) with h | h
    · exact h
    · exfalso
      have h1 := Nat.mul_le_mul_left (W ^ (k + 2 + 1)) h
      have h2 := Nat.mul_le_mul_right W (Nat.le_of_lt hVlt)
      rw [← Nat.pow_succ] at h2
      rw [Nat.mul_succ, Nat.mul_zero, Nat.zero_add] at h1
      have h3 := Nat.lt_of_lt_of_le hDR h2
      have h4 : W ^ (k + 2 + 1) ≤ vl W (u.drop i) := by rw [s4]; exact Nat.le_trans h1 (Nat.le_add_left _ _)
      exact absurd h3 (Nat.not_lt.mpr h4)
  rw [hz, Nat.mul_zero] at d4
  replace d4 := d4.trans (Nat.add_zero _)
  rw [d4] at d3 s3 s5
  rw [d3] at d2
  rw [d2] at s1
  rw [v4, Nat.mul_zero] at v3
  replace v3 := v3.trans (Nat.add_zero _)
  rw [v3] at v2 s6
  rw [v2] at s2
  have hX : 0 < W ^ k := W_pow_pos k
  refine ⟨?_, s3, hz, ?_⟩
  · rcases Nat.lt_or_ge (v.getD (k + 1) 0) (u.getD (i + k + 2) 0) with h | h
    · exfalso
      have h1 := Nat.mul_le_mul_left (W ^ (k + 1)) h
      rw [Nat.mul_succ] at h1
      generalize W ^ (k + 1) * u.getD (i + k + 2) 0 = z at *
      generalize W ^ (k + 1) * v.getD (k + 1) 0 = z' at *
      omega
    · exact h
  generalize u.getD (i + k + 2) 0 = u2 at *
  generalize u.getD (i + k + 1) 0 = u1 at *
  generalize u.getD (i + k) 0 = u0 at *
  generalize v.getD (k + 1) 0 = v1 at *
  generalize v.getD k 0 = v0 at *
  have eD : u0 + W * (u1 + W * u2) = (u2 * W + u1) * W + u0 := by rw [Nat.mul_comm u2 W, Nat.add_comm (W * u2) u1, Nat.mul_comm (u1 + W * u2) W]; exact Nat.add_comm _ _
  have eV : v0 + W * v1 = v1 * W + v0 := by rw [Nat.mul_comm v1 W]; exact Nat.add_comm _ _
  rw [eD] at s1
  rw [eV] at s2
  refine knuth_est (b := W) (X := W ^ k) (D3 := (u2 * W + u1) * W + u0) (V2 := v1 * W + v0) hX ?_ ?_ ?_ ?_ hDR ?_ (by decide) rfl
  · rw [s1, Nat.mul_comm]; exact Nat.le_add_left _ _
  · rw [s1, Nat.succ_mul, Nat.mul_comm _ (W ^ k)]
    exact Nat.add_comm _ _ ▸ Nat.add_lt_add_left l1 _
  · rw [s2, Nat.mul_comm]; exact Nat.le_add_left _ _
  · rw [s2, Nat.succ_mul, Nat.mul_comm _ (W ^ k)]
    exact Nat.add_comm _ _ ▸ Nat.add_lt_add_left l2 _
  · exact Nat.le_trans (Nat.le_of_eq (Nat.one_mul W).symm) (Nat.le_trans (Nat.mul_le_mul_right W hv1) (Nat.le_add_right _ _))

end Go.Proofs.Ythgecppfgdadiaa

namespace Go.Proofs.Ythgecppfgdadiaa
open Go Go.Proofs Go.AL
set_option linter.unusedSimpArgs false
set_option linter.unusedVariables false

theorem wd_top {v : Nat} (h : 0 < (wd v).length) : 0 < (wd v).getD ((wd v).length - 1) 0 := by
  rcases Nat.eq_zero_or_pos ((wd v).getD ((wd v).length - 1) 0) with h0 | h0
  · exfalso
    have h1 := vl_take_next W (wd v) ((wd v).length - 1)
    rw [Nat.sub_add_cancel h, List.take_length, h0, Nat.mul_zero, Nat.add_zero] at h1
    have h2 := nv_lt ((lim_wd v).take ((wd v).length - 1))
    rw [List.length_take, Nat.min_eq_left (Nat.sub_le _ _)] at h2
    have h3 : v < W ^ ((wd v).length - 1) := by
      have h4 := nv_wd v
      simp only [nv] at *
      omega
    have := wd_len_le.mpr h3
    omega
  · exact h0

theorem knuth_shift {y : Nat} (h : 0 < (wd y).length) : ∃ s, s = 64 - bl ((wd y).getD ((wd y).length - 1) 0) ∧ s ≤ 63 ∧ (wd y).getD ((wd y).length - 1) 0 < W ∧ (wd (y * 2 ^ s)).length = (wd y).length := by
  have ht := wd_top h
  have hw := (lim_wd y).get ((wd y).length - 1)
  have h1 := vl_take_next W (wd y) ((wd y).length - 1)
  rw [Nat.sub_add_cancel h, List.take_length] at h1
  have h2 := nv_lt ((lim_wd y).take ((wd y).length - 1))
  rw [List.length_take, Nat.min_eq_left (Nat.sub_le _ _)] at h2
  have h4 := nv_wd y
  simp only [nv] at *
  rw [h4] at h1
  have hmono : (wd y).length ≤ (wd (y * 2 ^ (64 - bl ((wd y).getD ((wd y).length - 1) 0)))).length := wd_len_mono (Nat.le_mul_of_pos_right _ (Nat.pow_pos (by decide)))
  generalize hk : (wd y).length = k at *
  generalize (wd y).getD (k - 1) 0 = t at *
  have hb64 : bl t ≤ 64 := bl_le.mpr hw
  have hb1 : 1 ≤ bl t := by
    rcases Nat.eq_zero_or_pos (bl t) with h0 | h0
    · have := bl_le.mp (Nat.le_of_eq h0)
      omega
    · exact h0
  have hbt : t < 2 ^ bl t := bl_le.mp (Nat.le_refl _)
  refine ⟨_, rfl, by omega, hw, Nat.le_antisymm (wd_len_le.mpr ?_) hmono⟩
  have h5 : y < W ^ (k - 1) * 2 ^ bl t := by
    have := Nat.mul_le_mul_left (W ^ (k - 1)) hbt
    rw [Nat.mul_succ] at this
    omega
  have h6 := Nat.mul_lt_mul_of_pos_right h5 (Nat.pow_pos (by decide : 0 < 2) : 0 < 2 ^ (64 - bl t))
  rw [Nat.mul_assoc, ← Nat.pow_add, show bl t + (64 - bl t) = 64 by omega] at h6
  have h7 : W ^ k = W ^ (k - 1) * 2 ^ 64 := by
    have h8 : W ^ (k - 1 + 1) = W ^ (k - 1) * W := Nat.pow_succ _ _
    rw [Nat.sub_add_cancel h] at h8
    exact h8
  rw [h7]; exact h6

theorem vl_rep0 (b : Nat) : ∀ n, vl b (List.replicate n 0) = 0
  | 0 => rfl
  | n + 1 => by rw [List.replicate_succ, vl, vl_rep0 b n]; rfl

theorem put_row {X : List Nat} {k d : Nat} (h : k < X.length) : (lims X).set k (splice ((lims X).getD k []) 0 [.int .u64 (d : Int)]) = lims (X.set k d) := by
  rw [lims_at h, splice_one, lims_set]

theorem put_eq {u rs : List Nat} {i n d : Nat} (h : i + n < u.length) (hr : rs.length = n) : (u.take i ++ rs ++ u.drop (i + n)).set (i + n) d = u.take i ++ (rs ++ d :: u.drop (i + n + 1)) := by
  rw [List.drop_eq_getElem_cons h, List.set_append_right _ _ (by simp; omega)]
  have e : i + n - (u.take i ++ rs).length = 0 := by simp; omega
  rw [e, List.set_cons_zero, List.append_assoc]

theorem put_digit {u rs : List Nat} {i n d : Nat} (h : i + n < u.length) (hr : rs.length = n) (hu : Lim u) (hrs : Lim rs) (hd : d < W) : ∃ X, (u.take i ++ rs ++ u.drop (i + n)).set (i + n) d = X ∧ X.length = u.length ∧ X.take i = u.take i ∧ nv (X.drop i) = nv rs + W ^ n * (d + W * nv (u.drop (i + n + 1))) ∧
    (X.drop i).take n = rs ∧ X.getD (i + n) 0 = d ∧ X.drop (i + n + 1) = u.drop (i + n + 1) ∧ Lim X := by
  refine ⟨_, put_eq h hr, ?_, ?_, ?_, ?_, ?_, ?_, ?_⟩
  · simp; omega
  · rw [List.take_append_of_le_length (by simp; omega), List.take_take, Nat.min_self]
  · rw [List.drop_append_of_le_length (by simp; omega), List.drop_of_length_le (by rw [List.length_take]; exact Nat.min_le_left _ _), List.nil_append]
    have := vl_split W (rs ++ d :: u.drop (i + n + 1)) (k := n) (by simp; omega)
    rw [← hr, List.take_left, List.drop_left, hr] at this
    exact this
  · rw [List.drop_append_of_le_length (by simp; omega), List.drop_of_length_le (by rw [List.length_take]; exact Nat.min_le_left _ _), List.nil_append, ← hr, List.take_left]
  · rw [List.getD_eq_getElem?_getD, List.getElem?_append_right (by simp; omega)]
    have e : i + n - (u.take i).length = n := by simp; omega
    rw [e, List.getElem?_append_right (by omega), hr]
    simp
  · rw [← List.append_assoc, List.drop_append, List.drop_of_length_le (by simp; omega)]
    have e : i + n + 1 - (u.take i ++ rs).length = 1 := by simp; omega
    rw [e]; rfl
  · exact (hu.take i).append (hrs.append (Lim.cons hd (hu.drop _)))

theorem knuth_next {u u0 q : List Nat} {i V g D : Nat} (hul : i < u.length) (hu0 : u0.length = u.length) (hq : i < q.length) (hT : u.take (i + 1) = u0.take (i + 1)) (hE : nv (u0.drop (i + 1)) = nv (q.drop (i + 1)) * V + nv (u.drop (i + 1))) (hD : nv (u.drop i) = D) (hg : g = D / V) :
    nv (u0.drop i) = nv ((q.set i g).drop i) * V + D % V ∧ u.take i = u0.take i := by
  have e1 := nv_dropk u0 i (by omega)
  have e2 := nv_dropk u i hul
  have e3 := nv_dropk (q.set i g) i (by simp; omega)
  have e4 : (q.set i g).getD i 0 = g := by simp [List.getD, hq]
  have e5 : (q.set i g).drop (i + 1) = q.drop (i + 1) := List.drop_set_of_lt (by omega)
  have e6 : u0.getD i 0 = u.getD i 0 := by
    have h1 : u0.getD i 0 = (u0.take (i + 1)).getD i 0 := by simp [List.getD, List.getElem?_take]
    have h2 : u.getD i 0 = (u.take (i + 1)).getD i 0 := by simp [List.getD, List.getElem?_take]
    rw [h1, h2, hT]
  have hd := Nat.div_add_mod D V
  rw [e4, e5] at e3
  rw [e3, e1, e6, hE, Nat.add_mul, Nat.mul_add, ← Nat.mul_assoc, Nat.mul_comm g V, hg]
  rw [hD] at e2
  constructor
  · omega
  · have := congrArg (List.take i) hT
    simpa [List.take_take] using this

theorem flat_lims (l : List Nat) : ∀ r ∈ lims l, ∀ x ∈ r, FlatI x := by
  intro r hr x hx
  simp only [lims, List.mem_map] at hr
  obtain ⟨n, _, rfl⟩ := hr
  simp only [List.mem_singleton] at hx
  subst hx
  trivial

theorem flat_own2 (e : Nat) (l l' : List Nat) (a : Nat) : FlatRes (some (0, e, 1, lims l)) [cl l', cu a] := by
  refine ⟨flat_lims l, fun j c hj hc => ?_⟩
  match j, hj with
  | 1, _ => simp at hc; subst hc; trivial
  | j + 2, _ => simp at hc

theorem flat_own3 (e : Nat) (l l' : List Nat) (a b : Nat) : FlatRes (some (0, e, 1, lims l)) [cl l', cu a, ci b] := by
  refine ⟨flat_lims l, fun j c hj hc => ?_⟩
  match j, hj with
  | 1, _ => simp at hc; subst hc; trivial
  | 2, _ => simp at hc; subst hc; trivial
  | j + 3, _ => simp at hc

set_option maxHeartbeats 4000000 in
theorem knuth_ok (x y m n : Nat) (hm : (wd x).length = m) (hn : (wd y).length = n) (h2 : 2 ≤ n) (hxy : y ≤ x) (hl : m ≤ 2 ^ 38) : AC Try.prog 180 [cl (wd x), cl (wd y)] none [cl (wd (x / y)), cl (wd (x % y))] := by
  refine AC.by_walk (rs := [.tmp 4, .tmp 5]) ords Try.func180 (by rfl) (by rfl) (by rfl) (by rfl) (by rfl) ?_
  obtain ⟨s, hs, hs63, htw, hvl⟩ := knuth_shift (y := y) (by omega)
  have hyl : n ≤ m := by rw [← hm, ← hn]; exact wd_len_mono hxy
  have lz := lz64_ok _ htw
  rw [← hs, hn] at lz
  rw [hn] at hvl
  have hn1 : ((n : Int) - 1).toNat = n - 1 := by omega
  simp (disch := omega) only [wk, tis, Int.reduceNe, Int.reduceEq, Int.reduceLT, Int.reduceLE, Int.reduceAdd, Int.reduceSub, Int.reduceNeg, Int.reduceMul, Int.reduceToNat, Nat.reduceSub, Nat.reduceMul, Nat.reduceLeDiff, Nat.reduceAdd, Nat.reduceLT, Nat.reduceEqDiff, reduceCtorEq, ↓reduceIte, natsr_len, natsr_at, Option.getD_some, hn, hn1]
  refine call_by (lz) (by first | rfl | (simp only [tocvs, tocv, hn, hn1]; rfl) | (simp only [tocvs, tocv, toboxes, tobox, updH_at, Nat.reduceEqDiff, ↓reduceIte, hn, hn1]; rfl)) (by simp) ?_
  simp (disch := omega) only [wk, tis, Int.reduceNe, Int.reduceEq, Int.reduceLT, Int.reduceLE, Int.reduceAdd, Int.reduceSub, Int.reduceNeg, Int.reduceMul, Int.reduceToNat, Nat.reduceSub, Nat.reduceMul, Nat.reduceLeDiff, Nat.reduceAdd, Nat.reduceLT, Nat.reduceEqDiff, reduceCtorEq, ↓reduceIte, natsr_len, natsr_at, Option.getD_some, hn, hn1]
  refine call_by ((nshl_ok (wd y) s (lim_wd _) (by omega) (by omega))) (by first | rfl | (simp only [tocvs, tocv, hn]; rfl) | (simp only [tocvs, tocv, toboxes, tobox, updH_at, Nat.reduceEqDiff, ↓reduceIte, hn]; rfl)) (by simp) ?_
  simp (disch := omega) only [wk, tis, Int.reduceNe, Int.reduceEq, Int.reduceLT, Int.reduceLE, Int.reduceAdd, Int.reduceSub, Int.reduceNeg, Int.reduceMul, Int.reduceToNat, Nat.reduceSub, Nat.reduceMul, Nat.reduceLeDiff, Nat.reduceAdd, Nat.reduceLT, Nat.reduceEqDiff, reduceCtorEq, ↓reduceIte, natsr_len, natsr_at, Option.getD_some, hn]
  rw [nv_wd]
  refine call_by ((nshl_ok (wd x) s (lim_wd _) (by omega) (by omega))) (by first | rfl | (simp only [tocvs, tocv, hn]; rfl) | (simp only [tocvs, tocv, toboxes, tobox, updH_at, Nat.reduceEqDiff, ↓reduceIte, hn]; rfl)) (by simp) ?_
  simp (disch := omega) only [wk, tis, Int.reduceNe, Int.reduceEq, Int.reduceLT, Int.reduceLE, Int.reduceAdd, Int.reduceSub, Int.reduceNeg, Int.reduceMul, Int.reduceToNat, Nat.reduceSub, Nat.reduceMul, Nat.reduceLeDiff, Nat.reduceAdd, Nat.reduceLT, Nat.reduceEqDiff, reduceCtorEq, ↓reduceIte, natsr_len, natsr_at, Option.getD_some, hn]
  rw [nv_wd]
  have hUlt : x * 2 ^ s < W ^ (m + 1) := by
    have h1 : x < W ^ m := by rw [← hm]; exact wd_len_le.mp (Nat.le_refl _)
    rw [Nat.pow_succ]
    exact Nat.mul_lt_mul_of_lt_of_le h1 (Nat.pow_le_pow_right (by decide) (by omega : s ≤ 64)) (by decide)
  have hul : (wd (x * 2 ^ s)).length ≤ m + 1 := wd_len_le.mpr hUlt
  generalize hup : (wd (x * 2 ^ s)).length = up at *
  have hz1 : ((m : Int) + 1 - up).toNat = m + 1 - up := by omega
  simp (disch := omega) only [wk, tis, Int.reduceNe, Int.reduceEq, Int.reduceLT, Int.reduceLE, Int.reduceAdd, Int.reduceSub, Int.reduceNeg, Int.reduceMul, Int.reduceToNat, Nat.reduceSub, Nat.reduceMul, Nat.reduceLeDiff, Nat.reduceAdd, Nat.reduceLT, Nat.reduceEqDiff, reduceCtorEq, ↓reduceIte, natsr_len, natsr_at, Option.getD_some, hn, hm, hup, hz1]
  have hcc := concat_ok [wd (x * 2 ^ s), List.replicate (m + 1 - up) 0] (by simp) (by simp only [tot, List.map_cons, List.map_nil, List.sum_cons, List.sum_nil, List.length_replicate]; omega)
  have hpu : [wd (x * 2 ^ s), List.replicate (m + 1 - up) 0].flatten = pad (m + 1) (x * 2 ^ s) := by
    simp only [List.flatten_cons, List.flatten_nil, List.append_nil]
    refine eq_pad ((lim_wd _).append (Lim.replicate _)) (by simp; omega) ?_
    have h1 := vl_split W (wd (x * 2 ^ s) ++ List.replicate (m + 1 - up) 0) (k := up) (by simp; omega)
    rw [List.take_append_of_le_length (by omega), List.drop_append_of_le_length (by omega), List.take_of_length_le (by omega), List.drop_of_length_le (by omega), List.nil_append, vl_rep0, Nat.mul_zero, Nat.add_zero] at h1
    rw [Nat.mod_eq_of_lt hUlt]
    exact h1.trans (nv_wd _)
  rw [hpu] at hcc
  have hpl := pad_len (m + 1) (x * 2 ^ s)
  have hz2 : (((m + 1 : Nat) : Int) - n).toNat = m + 1 - n := by omega
  refine call_by (hcc) (by first | rfl | (simp only [tocvs, tocv, hn, hm, hup, hz1, hpl, hz2]; rfl) | (simp only [tocvs, tocv, toboxes, tobox, updH_at, Nat.reduceEqDiff, ↓reduceIte, hn, hm, hup, hz1, hpl, hz2]; rfl)) (by simp) ?_
  simp (disch := omega) only [wk, tis, Int.reduceNe, Int.reduceEq, Int.reduceLT, Int.reduceLE, Int.reduceAdd, Int.reduceSub, Int.reduceNeg, Int.reduceMul, Int.reduceToNat, Nat.reduceSub, Nat.reduceMul, Nat.reduceLeDiff, Nat.reduceAdd, Nat.reduceLT, Nat.reduceEqDiff, reduceCtorEq, ↓reduceIte, natsr_len, natsr_at, Option.getD_some, hn, hm, hup, hz1, hpl, hz2]
  have hV : Lim (wd (y * 2 ^ s)) := lim_wd _
  have hq0 : Lim (List.replicate (m + 1 - n) 0) := Lim.replicate _
  have hu0 := lim_pad (m + 1) (x * 2 ^ s)
  have hi1 : nv ((pad (m + 1) (x * 2 ^ s)).drop (m + 1 - n)) < y * 2 ^ s := by
    have h1 := vl_split W (pad (m + 1) (x * 2 ^ s)) (k := m + 1 - n) (by omega)
    have h3 := nv_pad (m + 1) (x * 2 ^ s)
    rw [Nat.mod_eq_of_lt hUlt] at h3
    have hx : x < W ^ m := by rw [← hm]; exact wd_len_le.mp (Nat.le_refl _)
    have hy : W ^ (n - 1) ≤ y := by
      rcases Nat.lt_or_ge y (W ^ (n - 1)) with h | h
      · have := wd_len_le.mpr h
        omega
      · exact h
    simp only [nv] at *
    have h4 : W ^ (m + 1 - n) * vl W ((pad (m + 1) (x * 2 ^ s)).drop (m + 1 - n)) < W ^ (m + 1 - n) * (y * 2 ^ s) := by
      refine Nat.lt_of_le_of_lt (Nat.le_trans (Nat.le_add_left _ _) (Nat.le_of_eq (h1.symm.trans h3))) ?_
      rw [← Nat.mul_assoc]
      refine Nat.mul_lt_mul_of_pos_right (Nat.lt_of_lt_of_le hx ?_) (Nat.pow_pos (by decide))
      rw [show m = m + 1 - n + (n - 1) by omega, Nat.pow_add]
      refine Nat.mul_le_mul (Nat.pow_le_pow_right (by decide) (by omega)) hy
    exact Nat.lt_of_mul_lt_mul_left h4
  have hi2 : nv ((pad (m + 1) (x * 2 ^ s)).drop (m + 1 - n)) = nv ((List.replicate (m + 1 - n) 0).drop (m + 1 - n)) * (y * 2 ^ s) + nv ((pad (m + 1) (x * 2 ^ s)).drop (m + 1 - n)) := by
    rw [List.drop_of_length_le (l := List.replicate _ _) (by simp)]
    simp [nv, vl]
  refine aloop_by (fun f H => ∃ (k st st2 : Nat) (u q : List Nat), k + n ≤ m + 1 ∧ Lim u ∧ u.length = m + 1 ∧ Lim q ∧ q.length = m + 1 - n ∧ nv (u.drop k) < y * 2 ^ s ∧ nv ((pad (m + 1) (x * 2 ^ s)).drop k) = nv (q.drop k) * (y * 2 ^ s) + nv (u.drop k) ∧ u.take k = (pad (m + 1) (x * 2 ^ s)).take k ∧ f 14 = .iv (.int .i64 (k - 1)) ∧ f 12 = .hs 54 st ∧ f 13 = .hs 59 st2 ∧ f 6 = .iv (.int .i64 n) ∧ f 7 = .iv (.int .i64 s) ∧ f 8 = .iv (.sl (lims (wd (y * 2 ^ s)))) ∧ H 54 = .blk false st 87 1 (lims u) ∧ H 59 = .blk false st2 87 1 (lims q)) (fun f H => (intAt f 14 + 1).toNat) ?_ ?_
  · refine ⟨m + 1 - n, 1, 1, pad (m + 1) (x * 2 ^ s), List.replicate (m + 1 - n) 0, by omega, hu0, hpl, hq0, by simp, hi1, hi2, rfl, ?_⟩
    simp (disch := omega) only [wk, tis, Int.reduceNe, Int.reduceEq, Int.reduceLT, Int.reduceLE, Int.reduceAdd, Int.reduceSub, Int.reduceNeg, Int.reduceMul, Int.reduceToNat, Nat.reduceSub, Nat.reduceMul, Nat.reduceLeDiff, Nat.reduceAdd, Nat.reduceLT, Nat.reduceEqDiff, reduceCtorEq, ↓reduceIte, natsr_len, natsr_at, Option.getD_some, hn, hm, hup, hz1, hpl, hz2]
  rintro f H ⟨k, st, st2, u, q, hk, hu, hul', hq, hql, hR, hE, hT, hF⟩
  rw [intAt_of hF.1]
  simp (disch := omega) only [wk, tis, Int.reduceNe, Int.reduceEq, Int.reduceLT, Int.reduceLE, Int.reduceAdd, Int.reduceSub, Int.reduceNeg, Int.reduceMul, Int.reduceToNat, Nat.reduceSub, Nat.reduceMul, Nat.reduceLeDiff, Nat.reduceAdd, Nat.reduceLT, Nat.reduceEqDiff, reduceCtorEq, ↓reduceIte, natsr_len, natsr_at, Option.getD_some, hF]
  generalize hU0 : pad (m + 1) (x * 2 ^ s) = u0 at *
  refine if_by (fun hge => ?_) (fun hge => ?_)
  · obtain ⟨i, rfl⟩ : ∃ i, k = i + 1 := ⟨k - 1, by omega⟩
    rw [show (((i + 1 : Nat) : Int) - 1) = i by omega] at *
    have hnV : nv (wd (y * 2 ^ s)) = y * 2 ^ s := nv_wd _
    have hv1 : 0 < (wd (y * 2 ^ s)).getD (n - 1) 0 := by
      have := wd_top (v := y * 2 ^ s) (by omega)
      rwa [hvl] at this
    have hR0 : nv (u.drop (i + 1)) < nv (wd (y * 2 ^ s)) := by rw [hnV]; exact hR
    have hV0 : 0 < nv (wd (y * 2 ^ s)) := Nat.zero_lt_of_lt hR0
    have hVn := Nat.le_of_lt (nv_lt hV)
    rw [hvl] at hVn
    generalize hv : wd (y * 2 ^ s) = v at *
    generalize y * 2 ^ s = V at *
    subst hnV
    obtain ⟨k1, k2, k3, k4, k5⟩ := knuth_digit hu hV h2 (show i + n < u.length by omega) hvl hv1 hR
    have gg := guess_ok (u.getD (i + n) 0) (u.getD (i + n - 1) 0) (u.getD (i + n - 2) 0) (v.getD (n - 1) 0) (v.getD (n - 2) 0) k1 (hu.get _) (hu.get _) (hV.get _) (hV.get _) hv1
    have hgW : gd3 (u.getD (i + n) 0) (u.getD (i + n - 1) 0) (u.getD (i + n - 2) 0) (v.getD (n - 1) 0) (v.getD (n - 2) 0) < W := Nat.lt_of_le_of_lt (Nat.min_le_right _ _) (Nat.sub_lt (by decide) (by decide))
    generalize gd3 (u.getD (i + n) 0) (u.getD (i + n - 1) 0) (u.getD (i + n - 2) 0) (v.getD (n - 1) 0) (v.getD (n - 2) 0) = g at *
    have t1 : ((i : Int) + n).toNat = i + n := by omega
    have t2 : ((i : Int) + n - 1).toNat = i + n - 1 := by omega
    have t3 : ((i : Int) + n - 2).toNat = i + n - 2 := by omega
    have t4 : ((n : Int) - 1).toNat = n - 1 := by omega
    have t5 : ((n : Int) - 2).toNat = n - 2 := by omega
    simp (disch := omega) only [wk, tis, Int.reduceNe, Int.reduceEq, Int.reduceLT, Int.reduceLE, Int.reduceAdd, Int.reduceSub, Int.reduceNeg, Int.reduceMul, Int.reduceToNat, Nat.reduceSub, Nat.reduceMul, Nat.reduceLeDiff, Nat.reduceAdd, Nat.reduceLT, Nat.reduceEqDiff, reduceCtorEq, ↓reduceIte, natsr_len, natsr_at, Option.getD_some, hF, t1, t2, t3, t4, t5]
    refine ⟨tmps_by (by kernel_rfl), ?_⟩
    refine call_by (gg) (by first | rfl | (simp only [tocvs, tocv, hF, t1, t2, t3, t4, t5]; rfl) | (simp only [tocvs, tocv, toboxes, tobox, updH_at, Nat.reduceEqDiff, ↓reduceIte, hF, t1, t2, t3, t4, t5]; rfl)) (by simp) ?_
    simp (disch := omega) only [wk, tis, Int.reduceNe, Int.reduceEq, Int.reduceLT, Int.reduceLE, Int.reduceAdd, Int.reduceSub, Int.reduceNeg, Int.reduceMul, Int.reduceToNat, Nat.reduceSub, Nat.reduceMul, Nat.reduceLeDiff, Nat.reduceAdd, Nat.reduceLT, Nat.reduceEqDiff, reduceCtorEq, ↓reduceIte, natsr_len, natsr_at, Option.getD_some, hF, t1, t2, t3, t4, t5]
    first | exact log_by (by kernel_rfl) | refine ⟨log_by (by kernel_rfl), ?_⟩
    have hal : ((u.drop i).take n).length = n := by simp; omega
    have ms := mulsub_ok ((u.drop i).take n) v g ((hu.drop i).take n) hV hgW (by omega) (by omega)
    rw [hal] at ms
    have hlo := nv_lt ((hu.drop i).take n)
    rw [hal] at hlo
    obtain ⟨c1, c2⟩ := subC_eq (y := nv v * g) (W_pow_pos n) hlo
    generalize hc : subC (nv ((u.drop i).take n)) (nv v * g) (W ^ n) = c at *
    have t6 : ((i : Int) + n - i).toNat = n := by omega
    refine frame_call (fun f H => f 14 = .iv (.int .i64 i) ∧ f 12 = .hs 54 st ∧ f 13 = .hs 59 st2 ∧ f 6 = .iv (.int .i64 n) ∧ f 7 = .iv (.int .i64 s) ∧ f 8 = .iv (.sl (lims v)) ∧ f 15 = .iv (.int .u64 g) ∧ H 54 = .blk false st 87 1 (lims u) ∧ H 59 = .blk false st2 87 1 (lims q)) ?_ (fun f H hF => ?_)
    · simp (disch := omega) only [wk, tis, Int.reduceNe, Int.reduceEq, Int.reduceLT, Int.reduceLE, Int.reduceAdd, Int.reduceSub, Int.reduceNeg, Int.reduceMul, Int.reduceToNat, Nat.reduceSub, Nat.reduceMul, Nat.reduceLeDiff, Nat.reduceAdd, Nat.reduceLT, Nat.reduceEqDiff, reduceCtorEq, ↓reduceIte, natsr_len, natsr_at, Option.getD_some, hF]
    rw [t6]
    refine call_flat ms (by simp only [tocvs, tocv, hF, lims_take, lims_drop]; rfl) (by simp only [lims_len]; simp; omega) (.inr (flat_own3 ..)) ?_
    have hrsl := pad_len n (nv ((u.drop i).take n) + W ^ n * c - nv v * g)
    have hrsL := lim_pad n (nv ((u.drop i).take n) + W ^ n * c - nv v * g)
    have hrsv := nv_pad n (nv ((u.drop i).take n) + W ^ n * c - nv v * g)
    rw [Nat.mod_eq_of_lt c2] at hrsv
    rw [← hrsv] at c1 c2
    generalize pad n (nv ((u.drop i).take n) + W ^ n * c - nv v * g) = rs at *
    have hti : (u.take i).length = i := by rw [List.length_take]; omega
    have hdi : (u.drop (i + n)).length = m + 1 - (i + n) := by rw [List.length_drop]; omega
    have hh1 : i + n < i + n + (m + 1 - (i + n)) := by omega
    have hiq : i < m + 1 - n := by omega
    have hut := hu.get (i + n)
    have sb := sub64_ok (u.getD (i + n) 0) c 0 (by omega)
    obtain ⟨p1, p2⟩ := knuth_sub (b := 0) (g := g) (W_pow_pos n) hlo k2 hV0 hVn k4 k5 c1 c2
    rcases Nat.lt_or_ge (u.getD (i + n) 0) c with hct | hct
    · obtain ⟨p3, p4, p5⟩ := p2 hct
      obtain rfl : c = u.getD (i + n) 0 + 1 := by omega
      rw [show (u.getD (i + n) 0 + W - (u.getD (i + n) 0 + 1) - 0) % W = W - 1 by rw [show u.getD (i + n) 0 + W - (u.getD (i + n) 0 + 1) - 0 = W - 1 by omega]; exact Nat.mod_eq_of_lt (Nat.sub_lt (by decide) (by decide)),
        if_pos (by omega)] at sb
      have hWe : W - 1 + 1 = W := Nat.sub_add_cancel (by decide)
      have hW1 : W - 1 < W := Nat.sub_lt (by decide) (by decide)
      generalize W - 1 = e at sb hWe hW1
      obtain ⟨X, x0, x1, x2, x3, x4, x5, x6, x7⟩ := put_digit (d := e) (show i + n < u.length by omega) hrsl hu hrsL hW1
      have hpr := put_row (X := u.take i ++ rs ++ u.drop (i + n)) (k := i + n) (d := e) (by simp only [List.length_append]; omega)
      rw [x0] at hpr
      simp (disch := omega) only [wk, tis, Int.reduceNe, Int.reduceEq, Int.reduceLT, Int.reduceLE, Int.reduceAdd, Int.reduceSub, Int.reduceNeg, Int.reduceMul, Int.reduceToNat, Nat.reduceSub, Nat.reduceMul, Nat.reduceLeDiff, Nat.reduceAdd, Nat.reduceLT, Nat.reduceEqDiff, reduceCtorEq, ↓reduceIte, natsr_len, natsr_at, Option.getD_some, hF, hrsl, t1]
      refine call_by (sb) (by first | rfl | (simp only [tocvs, tocv, hF, hrsl, t1, hti, hdi, hh1, hiq]; rfl) | (simp only [tocvs, tocv, toboxes, tobox, updH_at, Nat.reduceEqDiff, ↓reduceIte, hF, hrsl, t1, hti, hdi, hh1, hiq]; rfl)) (by simp) ?_
      simp (disch := omega) only [wk, tis, Int.reduceNe, Int.reduceEq, Int.reduceLT, Int.reduceLE, Int.reduceAdd, Int.reduceSub, Int.reduceNeg, Int.reduceMul, Int.reduceToNat, Nat.reduceSub, Nat.reduceMul, Nat.reduceLeDiff, Nat.reduceAdd, Nat.reduceLT, Nat.reduceEqDiff, reduceCtorEq, ↓reduceIte, natsr_len, natsr_at, Option.getD_some, hF, hrsl, t1, hti, hdi, hh1, hiq]
      rw [t6]
      have hg0 : 1 ≤ g := by rw [p3]; exact Nat.succ_pos _
      have hgL : g < 18446744073709551616 := hgW
      have hg1 : ((g : Int) - 1) = ((g - 1 : Nat) : Int) := (Int.ofNat_sub hg0).symm
      have hgl : ((g - 1 : Nat) : Int) < 18446744073709551616 := by rw [← hg1]; clear p1 p2 p3; omega
      have hgw := wrap_u64 (n := ((g - 1 : Nat) : Int)) ⟨Int.natCast_nonneg _, hgl⟩
      refine frame_call (fun f H => f 14 = .iv (.int .i64 i) ∧ f 12 = .hs 54 st ∧ f 13 = .hs 59 st2 ∧ f 6 = .iv (.int .i64 n) ∧ f 7 = .iv (.int .i64 s) ∧ f 8 = .iv (.sl (lims v)) ∧ f 15 = .iv (.int .u64 (g - 1 : Nat)) ∧ H 54 = .blk false st 87 1 (lims X) ∧ H 59 = .blk false st2 87 1 (lims q)) ?_ (fun f H hF => ?_)
      · simp (disch := omega) only [wk, tis, Int.reduceNe, Int.reduceEq, Int.reduceLT, Int.reduceLE, Int.reduceAdd, Int.reduceSub, Int.reduceNeg, Int.reduceMul, Int.reduceToNat, Nat.reduceSub, Nat.reduceMul, Nat.reduceLeDiff, Nat.reduceAdd, Nat.reduceLT, Nat.reduceEqDiff, reduceCtorEq, ↓reduceIte, natsr_len, natsr_at, Option.getD_some, hF, hpr, hg1, hgw]
      have ad := laddo_ok rs v hrsL hV (by omega) (by omega)
      rw [hrsl, hvl, Nat.max_self, p5, Nat.add_div_right _ (W_pow_pos n), Nat.div_eq_of_lt (Nat.lt_of_lt_of_le (Nat.mod_lt _ hV0) hVn)] at ad
      have hbl := pad_len n (nv (u.drop i) % nv v + W ^ n)
      have hbL := lim_pad n (nv (u.drop i) % nv v + W ^ n)
      have hbv := nv_pad n (nv (u.drop i) % nv v + W ^ n)
      rw [Nat.add_mod_right, Nat.mod_eq_of_lt (Nat.lt_of_lt_of_le (Nat.mod_lt _ hV0) hVn)] at hbv
      generalize pad n (nv (u.drop i) % nv v + W ^ n) = bk at *
      obtain ⟨Y, z0, z1, z2, z3, z4, z5, z6, z7⟩ := put_digit (d := 0) (show i + n < X.length by omega) hbl x7 hbL (by decide)
      have hqr := put_row (X := X.take i ++ bk ++ X.drop (i + n)) (k := i + n) (d := 0) (by simp only [List.length_append, List.length_take, List.length_drop]; omega)
      rw [z0] at hqr
      refine call_flat ad (by simp only [tocvs, tocv, hF, lims_take, lims_drop, x4]; rfl) (by simp only [lims_len]; simp; omega) (.inr (flat_own2 ..)) ?_
      have hti2 : (X.take i).length = i := by rw [List.length_take]; omega
      have hdi2 : (X.drop (i + n)).length = m + 1 - (i + n) := by rw [List.length_drop]; omega
      have hbg : (X.take i ++ bk ++ X.drop (i + n)).getD (i + n) 0 = e := by
        rw [List.getD_eq_getElem?_getD, List.getElem?_append_right (by simp only [List.length_append]; omega), List.length_append, hti2, hbl, Nat.sub_self, List.getElem?_drop, Nat.add_zero, ← List.getD_eq_getElem?_getD, x5]
      have hrow : (lims (X.take i ++ bk ++ X.drop (i + n))).getD (i + n) [] = [.int .u64 (e : Int)] := by
        rw [lims_at (by simp only [List.length_append]; omega), hbg]
      rw [hrow, splice_one] at hqr
      have hqr' : (lims (X.take i ++ bk ++ X.drop (i + n))).set (i + n) [.int .u64 0] = lims Y := hqr
      have hwr : IntKind.u64.wrap ((e : Int) + 1) = 0 := by
        have h1 : ((e : Int) + 1) = ((e + 1 : Nat) : Int) := rfl
        rw [h1, hWe]; rfl
      simp (disch := omega) only [wk, tis, Int.reduceNe, Int.reduceEq, Int.reduceLT, Int.reduceLE, Int.reduceAdd, Int.reduceSub, Int.reduceNeg, Int.reduceMul, Int.reduceToNat, Nat.reduceSub, Nat.reduceMul, Nat.reduceLeDiff, Nat.reduceAdd, Nat.reduceLT, Nat.reduceEqDiff, reduceCtorEq, ↓reduceIte, natsr_len, natsr_at, Option.getD_some, hF, hbl, t1, hti2, hdi2, hh1, hiq, hrow, hqr', hwr, splice_one]
      rw [x6, k3, Nat.mul_zero, Nat.add_zero, Nat.mul_zero, Nat.add_zero, hbv] at z3
      have hq1 : g - 1 = nv (u.drop i) / nv v := by rw [p3]; rfl
      obtain ⟨y1, y2⟩ := knuth_next (g := g - 1) (by omega) (by omega) (by omega) hT hE rfl hq1
      exact ⟨⟨i, st, st2, Y, q.set i (g - 1), by omega, z7, by omega, hq.set (Nat.lt_of_le_of_lt (Nat.sub_le _ _) hgW), by simp; omega, by rw [z3]; exact Nat.mod_lt _ hV0, by rw [z3]; exact y1, by rw [z2, x2]; exact y2, rfl, rfl, rfl, rfl, rfl⟩, by omega⟩
    · obtain ⟨p3, p4⟩ := p1 hct
      rw [show (u.getD (i + n) 0 + W - c - 0) % W = u.getD (i + n) 0 - c by rw [show u.getD (i + n) 0 + W - c - 0 = u.getD (i + n) 0 - c + W by omega, Nat.add_mod_right]; exact Nat.mod_eq_of_lt (by omega),
        if_neg (by omega)] at sb
      simp (disch := omega) only [wk, tis, Int.reduceNe, Int.reduceEq, Int.reduceLT, Int.reduceLE, Int.reduceAdd, Int.reduceSub, Int.reduceNeg, Int.reduceMul, Int.reduceToNat, Nat.reduceSub, Nat.reduceMul, Nat.reduceLeDiff, Nat.reduceAdd, Nat.reduceLT, Nat.reduceEqDiff, reduceCtorEq, ↓reduceIte, natsr_len, natsr_at, Option.getD_some, hF, hrsl, t1]
      refine call_by (sb) (by first | rfl | (simp only [tocvs, tocv, hF, hrsl, t1, hti, hdi, hh1, hiq]; rfl) | (simp only [tocvs, tocv, toboxes, tobox, updH_at, Nat.reduceEqDiff, ↓reduceIte, hF, hrsl, t1, hti, hdi, hh1, hiq]; rfl)) (by simp) ?_
      simp (disch := omega) only [wk, tis, Int.reduceNe, Int.reduceEq, Int.reduceLT, Int.reduceLE, Int.reduceAdd, Int.reduceSub, Int.reduceNeg, Int.reduceMul, Int.reduceToNat, Nat.reduceSub, Nat.reduceMul, Nat.reduceLeDiff, Nat.reduceAdd, Nat.reduceLT, Nat.reduceEqDiff, reduceCtorEq, ↓reduceIte, natsr_len, natsr_at, Option.getD_some, hF, hrsl, t1, hti, hdi, hh1, hiq]
      rw [put_row (by simp only [List.length_append]; omega)]
      obtain ⟨X, x0, x1, x2, x3, x4, x5, x6, x7⟩ := put_digit (d := u.getD (i + n) 0 - c) (show i + n < u.length by omega) hrsl hu hrsL (by omega)
      rw [k3, Nat.mul_zero, Nat.add_zero] at x3
      have x8 := x3.trans p4
      obtain ⟨y1, y2⟩ := knuth_next (g := g) (by omega) (by omega) (by omega) hT hE rfl p3
      exact ⟨⟨i, st, st2, X, q.set i g, by omega, x7, by omega, hq.set hgW, by simp; omega, by rw [x8]; exact Nat.mod_lt _ hV0, by rw [x8]; exact y1, by rw [x2]; exact y2, rfl, rfl, rfl, by rw [x0], rfl⟩, by omega⟩
  · obtain rfl : k = 0 := by omega
    simp only [List.drop_zero] at hR hE
    have hun : nv (u.take n) = nv u := by
      have h1 := vl_split W u (k := n) (by omega)
      have h2 : nv u < W ^ n := Nat.lt_of_lt_of_le hR (by rw [← nv_wd (y * 2 ^ s), ← hvl]; exact Nat.le_of_lt (nv_lt hV))
      simp only [nv] at *
      rcases Nat.eq_zero_or_pos (vl W (u.drop n)) with h | h
      · rw [h, Nat.mul_zero] at h1; exact h1.symm
      · have h3 := Nat.mul_le_mul_left (W ^ n) h
        rw [Nat.mul_succ, Nat.mul_zero, Nat.zero_add] at h3
        omega
    have hal : (u.take n).length = n := by rw [List.length_take]; omega
    have hut := hu.take n
    simp (disch := omega) only [wk, tis, Int.reduceNe, Int.reduceEq, Int.reduceLT, Int.reduceLE, Int.reduceAdd, Int.reduceSub, Int.reduceNeg, Int.reduceMul, Int.reduceToNat, Nat.reduceSub, Nat.reduceMul, Nat.reduceLeDiff, Nat.reduceAdd, Nat.reduceLT, Nat.reduceEqDiff, reduceCtorEq, ↓reduceIte, natsr_len, natsr_at, Option.getD_some, hF]
    refine call_by (nshr_ok (u.take n) s hut (by omega) (by omega)) (by simp only [tocvs, tocv, hF, lims_take, lims_drop, List.drop_zero]; rfl) (by simp only [lims_len]; simp; omega) ?_
    simp (disch := omega) only [wk, tis, Int.reduceNe, Int.reduceEq, Int.reduceLT, Int.reduceLE, Int.reduceAdd, Int.reduceSub, Int.reduceNeg, Int.reduceMul, Int.reduceToNat, Nat.reduceSub, Nat.reduceMul, Nat.reduceLeDiff, Nat.reduceAdd, Nat.reduceLT, Nat.reduceEqDiff, reduceCtorEq, ↓reduceIte, natsr_len, natsr_at, Option.getD_some, hF]
    refine call_by (norm_ok q hq (by omega)) (by simp only [tocvs, tocv, updH, Nat.reduceEqDiff, ↓reduceIte, hF]; rfl) (by simp) ?_
    simp (disch := omega) only [wk, tis, Int.reduceNe, Int.reduceEq, Int.reduceLT, Int.reduceLE, Int.reduceAdd, Int.reduceSub, Int.reduceNeg, Int.reduceMul, Int.reduceToNat, Nat.reduceSub, Nat.reduceMul, Nat.reduceLeDiff, Nat.reduceAdd, Nat.reduceLT, Nat.reduceEqDiff, reduceCtorEq, ↓reduceIte, natsr_len, natsr_at, Option.getD_some, hF]
    have hpv := nv_pad (m + 1) (x * 2 ^ s)
    rw [hU0, Nat.mod_eq_of_lt hUlt, hE] at hpv
    have hps : 0 < 2 ^ s := Nat.pow_pos (by decide)
    have hV0 : 0 < y * 2 ^ s := Nat.zero_lt_of_lt hR
    have eq1 : nv q = x / y := by
      rw [← Nat.mul_div_mul_right x y hps, ← hpv, Nat.mul_comm (nv q), Nat.mul_add_div hV0, Nat.div_eq_of_lt hR, Nat.add_zero]
    have eq2 : nv u = x % y * 2 ^ s := by
      rw [← Nat.mul_mod_mul_right, ← hpv, Nat.mul_comm (nv q), Nat.mul_add_mod, Nat.mod_eq_of_lt hR]
    rw [hun, eq1, eq2, Nat.mul_div_cancel _ hps]
    exact ⟨rfl, rfl⟩
end Go.Proofs.Ythgecppfgdadiaa

namespace Go.Proofs.Ythgecppfgdadiaa
open Go Go.Proofs Go.AL
set_option linter.unusedSimpArgs false
set_option linter.unusedVariables false

theorem rplus_ok (a b : List Nat) (ha : Dig a) (hb : Dig b) (hla : a.length ≤ 2 ^ 42) (hlb : b.length ≤ 2 ^ 42) : AC Try.prog 147 [cd a, cd b] none [cd (dn (max a.length b.length + (vl D16 a + vl D16 b) / D16 ^ max a.length b.length) (vl D16 a + vl D16 b))] := by
  refine AC.by_walk (rs := [.tmp 4]) ords Try.func147 (by rfl) (by rfl) (by rfl) (by rfl) (by rfl) ?_
  generalize hn : max a.length b.length = n at *
  have hA := vlD_lt ha
  have hB := vlD_lt hb
  have hA2 : D16 ^ a.length ≤ D16 ^ n := Nat.pow_le_pow_right (by decide) (by omega)
  have hB2 : D16 ^ b.length ≤ D16 ^ n := Nat.pow_le_pow_right (by decide) (by omega)
  have hta : ∀ i, n ≤ i → vl D16 (a.take i) = vl D16 a := fun i hi => by rw [List.take_of_length_le (by omega)]
  have htb : ∀ i, n ≤ i → vl D16 (b.take i) = vl D16 b := fun i hi => by rw [List.take_of_length_le (by omega)]
  simp (disch := omega) only [wk, tis, Int.reduceNe, Int.reduceEq, Int.reduceLT, Int.reduceLE, Int.reduceAdd, Int.reduceSub, Int.reduceNeg, Int.reduceMul, Int.reduceToNat, Nat.reduceSub, Nat.reduceMul, Nat.reduceLeDiff, Nat.reduceAdd, Nat.reduceLT, Nat.reduceEqDiff, reduceCtorEq, ↓reduceIte]
  refine aloop_nil 5 5 3 1 (by simp (disch := omega) only [wk, tis, Int.reduceNe, Int.reduceEq, Int.reduceLT, Int.reduceLE, Int.reduceAdd, Int.reduceSub, Int.reduceNeg, Int.reduceMul, Int.reduceToNat, Nat.reduceSub, Nat.reduceMul, Nat.reduceLeDiff, Nat.reduceAdd, Nat.reduceLT, Nat.reduceEqDiff, reduceCtorEq, ↓reduceIte]) (fun f H => ∃ (i c st : Nat) (s : List Nat), (i ≤ n ∨ i = n + 1 ∧ D16 ^ n ≤ vl D16 a + vl D16 b) ∧ c ≤ 1 ∧ Dig s ∧ s.length = i ∧ vl D16 s + D16 ^ i * c = vl D16 (a.take i) + vl D16 (b.take i) ∧ f 7 = .iv (.int .i64 i) ∧ f 0 = .iv (.sl (nums a)) ∧ f 1 = .iv (.sl (nums b)) ∧ f 5 = .hs 5 st ∧ f 6 = .iv (.int .i64 c) ∧ H 5 = .blk false st 3 1 (nums s)) (fun f H => ((n : Int) + 2 - intAt f 7).toNat) ?_ ?_
  · refine ⟨0, 0, 1, [], .inl (by omega), by omega, Dig.nil, rfl, by simp [vl], ?_⟩
    simp (disch := omega) only [wk, tis, Int.reduceNe, Int.reduceEq, Int.reduceLT, Int.reduceLE, Int.reduceAdd, Int.reduceSub, Int.reduceNeg, Int.reduceMul, Int.reduceToNat, Nat.reduceSub, Nat.reduceMul, Nat.reduceLeDiff, Nat.reduceAdd, Nat.reduceLT, Nat.reduceEqDiff, reduceCtorEq, ↓reduceIte, ghostF, ghostH]
  rintro f H ⟨i, c, st, s, hi, hc, hS, hSl, hv, hF⟩
  rw [intAt_of hF.1]
  simp (disch := omega) only [wk, tis, Int.reduceNe, Int.reduceEq, Int.reduceLT, Int.reduceLE, Int.reduceAdd, Int.reduceSub, Int.reduceNeg, Int.reduceMul, Int.reduceToNat, Nat.reduceSub, Nat.reduceMul, Nat.reduceLeDiff, Nat.reduceAdd, Nat.reduceLT, Nat.reduceEqDiff, reduceCtorEq, ↓reduceIte, hF]
  have hx := ha.get i
  have hy := hb.get i
  by_cases hgo : i < n ∨ 0 < c
  · have h3 : (i : Int) < a.length ∨ (¬ (i : Int) < a.length ∧ (i : Int) < b.length) ∨ (¬ (i : Int) < a.length ∧ ¬ (i : Int) < b.length ∧ 0 < (c : Int)) := by omega
    have hin : i ≤ n := by
      rcases hi with hi | ⟨rfl, hi⟩
      · exact hi
      · rw [hta _ (by omega), htb _ (by omega)] at hv
        have h5 := vlD_lt hS
        rw [hSl] at h5
        have : c = 1 := by omega
        subst this
        have : D16 ^ (n + 1) = D16 ^ n * D16 := Nat.pow_succ ..
        have : 2 * D16 ^ n ≤ D16 ^ n * D16 := by rw [Nat.mul_comm]; exact Nat.mul_le_mul_left _ (by decide)
        omega
    have hnext : i + 1 ≤ n ∨ i + 1 = n + 1 ∧ D16 ^ n ≤ vl D16 a + vl D16 b := by
      by_cases hlt : i < n
      · exact .inl (by omega)
      · have : i = n := by omega
        subst this
        rw [hta _ (by omega), htb _ (by omega)] at hv
        have : c = 1 := by omega
        subst this
        exact .inr ⟨rfl, by omega⟩
    have hstep : ∀ t, t = c + (a.getD i 0 + b.getD i 0) → Dig (s ++ [t % 65536]) ∧ vl D16 (s ++ [t % 65536]) + D16 ^ (i + 1) * (t / 65536) = vl D16 (a.take (i + 1)) + vl D16 (b.take (i + 1)) := by
      intro t ht
      refine ⟨hS.snoc (Nat.mod_lt _ (by decide)), ?_⟩
      rw [vlD_snoc, vl_take_next, vl_take_next, hSl, Nat.pow_succ]
      exact carryD hv (by rw [ht]; simp only [D16]; omega)
    have e1 : (c : Int) + ((a.getD i 0 : Nat) + (b.getD i 0 : Nat) : Int) = ((c + (a.getD i 0 + b.getD i 0) : Nat) : Int) := by omega
    simp only [D16] at hx hy
    rcases h3 with h | ⟨h, h'⟩ | ⟨h, h', h''⟩
    all_goals
      first | simp (disch := omega) only [wk, tis, Int.reduceNe, Int.reduceEq, Int.reduceLT, Int.reduceLE, Int.reduceAdd, Int.reduceSub, Int.reduceNeg, Int.reduceMul, Int.reduceToNat, Nat.reduceSub, Nat.reduceMul, Nat.reduceLeDiff, Nat.reduceAdd, Nat.reduceLT, Nat.reduceEqDiff, reduceCtorEq, ↓reduceIte, hF, h, h', h''] | simp (disch := omega) only [wk, tis, Int.reduceNe, Int.reduceEq, Int.reduceLT, Int.reduceLE, Int.reduceAdd, Int.reduceSub, Int.reduceNeg, Int.reduceMul, Int.reduceToNat, Nat.reduceSub, Nat.reduceMul, Nat.reduceLeDiff, Nat.reduceAdd, Nat.reduceLT, Nat.reduceEqDiff, reduceCtorEq, ↓reduceIte, hF, h, h'] | simp (disch := omega) only [wk, tis, Int.reduceNe, Int.reduceEq, Int.reduceLT, Int.reduceLE, Int.reduceAdd, Int.reduceSub, Int.reduceNeg, Int.reduceMul, Int.reduceToNat, Nat.reduceSub, Nat.reduceMul, Nat.reduceLeDiff, Nat.reduceAdd, Nat.reduceLT, Nat.reduceEqDiff, reduceCtorEq, ↓reduceIte, hF, h]
      refine call_by ((rdigit_ok a i (by omega))) (by first | rfl | (simp only [tocvs, tocv, hF]; rfl) | (simp only [tocvs, tocv, toboxes, tobox, updH_at, Nat.reduceEqDiff, ↓reduceIte, hF]; rfl)) (by simp) ?_
      simp (disch := omega) only [wk, tis, Int.reduceNe, Int.reduceEq, Int.reduceLT, Int.reduceLE, Int.reduceAdd, Int.reduceSub, Int.reduceNeg, Int.reduceMul, Int.reduceToNat, Nat.reduceSub, Nat.reduceMul, Nat.reduceLeDiff, Nat.reduceAdd, Nat.reduceLT, Nat.reduceEqDiff, reduceCtorEq, ↓reduceIte, hF]
      refine call_by ((rdigit_ok b i (by omega))) (by first | rfl | (simp only [tocvs, tocv, hF]; rfl) | (simp only [tocvs, tocv, toboxes, tobox, updH_at, Nat.reduceEqDiff, ↓reduceIte, hF]; rfl)) (by simp) ?_
      simp (disch := omega) only [wk, tis, Int.reduceNe, Int.reduceEq, Int.reduceLT, Int.reduceLE, Int.reduceAdd, Int.reduceSub, Int.reduceNeg, Int.reduceMul, Int.reduceToNat, Nat.reduceSub, Nat.reduceMul, Nat.reduceLeDiff, Nat.reduceAdd, Nat.reduceLT, Nat.reduceEqDiff, reduceCtorEq, ↓reduceIte, hF]
      rw [e1]
      simp (disch := omega) only [wk, tis, Int.reduceNe, Int.reduceEq, Int.reduceLT, Int.reduceLE, Int.reduceAdd, Int.reduceSub, Int.reduceNeg, Int.reduceMul, Int.reduceToNat, Nat.reduceSub, Nat.reduceMul, Nat.reduceLeDiff, Nat.reduceAdd, Nat.reduceLT, Nat.reduceEqDiff, reduceCtorEq, ↓reduceIte, hF, hSl]
      obtain ⟨a1, a2⟩ := hstep _ rfl
      exact ⟨⟨i + 1, _, st + 1, s ++ [_], hnext, by omega, a1, by simp [hSl], a2, by omega, rfl, rfl, rfl⟩, by omega⟩
  · have h1 : ¬ (i : Int) < a.length := by omega
    have h2 : ¬ (i : Int) < b.length := by omega
    have h3 : ¬ 0 < (c : Int) := by omega
    simp (disch := omega) only [wk, tis, Int.reduceNe, Int.reduceEq, Int.reduceLT, Int.reduceLE, Int.reduceAdd, Int.reduceSub, Int.reduceNeg, Int.reduceMul, Int.reduceToNat, Nat.reduceSub, Nat.reduceMul, Nat.reduceLeDiff, Nat.reduceAdd, Nat.reduceLT, Nat.reduceEqDiff, reduceCtorEq, ↓reduceIte, hF, h1, h2, h3]
    have : c = 0 := by omega
    subst this
    rw [hta _ (by omega), htb _ (by omega), Nat.mul_zero, Nat.add_zero] at hv
    have h5 := vlD_lt hS
    rw [hSl] at h5
    have e : s = dn (n + (vl D16 a + vl D16 b) / D16 ^ n) (vl D16 a + vl D16 b) := by
      have hD : D16 ^ (n + 1) = D16 ^ n * D16 := Nat.pow_succ ..
      have hlen : i = n + (vl D16 a + vl D16 b) / D16 ^ n := by
        rcases hi with hi | ⟨rfl, hi⟩
        · have : i = n := by omega
          subst this
          rw [Nat.div_eq_of_lt (by omega), Nat.add_zero]
        · rw [Nat.div_eq_of_lt_le (k := 1) (by omega) (by omega)]
      rw [← hlen]
      exact eq_dn hS hSl (by rw [hv, Nat.mod_eq_of_lt (by omega)])
    rw [e]

theorem rminus_ok (a b : List Nat) (ha : Dig a) (hb : Dig b) (hla : a.length ≤ 2 ^ 42) (hlb : b.length ≤ a.length) (hle : vl D16 b ≤ vl D16 a) : AC Try.prog 150 [cd a, cd b] none [cd (dn a.length (vl D16 a - vl D16 b))] := by
  refine AC.by_walk (rs := [.tmp 4]) ords Try.func150 (by rfl) (by rfl) (by rfl) (by rfl) (by rfl) ?_
  simp (disch := omega) only [wk, tis, Int.reduceNe, Int.reduceEq, Int.reduceLT, Int.reduceLE, Int.reduceAdd, Int.reduceSub, Int.reduceNeg, Int.reduceMul, Int.reduceToNat, Nat.reduceSub, Nat.reduceMul, Nat.reduceLeDiff, Nat.reduceAdd, Nat.reduceLT, Nat.reduceEqDiff, reduceCtorEq, ↓reduceIte]
  refine aloop_nil 5 5 3 1 (by simp (disch := omega) only [wk, tis, Int.reduceNe, Int.reduceEq, Int.reduceLT, Int.reduceLE, Int.reduceAdd, Int.reduceSub, Int.reduceNeg, Int.reduceMul, Int.reduceToNat, Nat.reduceSub, Nat.reduceMul, Nat.reduceLeDiff, Nat.reduceAdd, Nat.reduceLT, Nat.reduceEqDiff, reduceCtorEq, ↓reduceIte]) (fun f H => ∃ (i c st : Nat) (s : List Nat), i ≤ a.length ∧ c ≤ 1 ∧ Dig s ∧ s.length = i ∧ vl D16 s + vl D16 (b.take i) = vl D16 (a.take i) + D16 ^ i * c ∧ f 7 = .iv (.int .i64 i) ∧ f 0 = .iv (.sl (nums a)) ∧ f 1 = .iv (.sl (nums b)) ∧ f 5 = .hs 5 st ∧ f 6 = .iv (.int .i64 c) ∧ H 5 = .blk false st 3 1 (nums s)) (fun f H => (a.length - intAt f 7).toNat) ?_ ?_
  · refine ⟨0, 0, 1, [], by omega, by omega, Dig.nil, rfl, by simp [vl], ?_⟩
    simp (disch := omega) only [wk, tis, Int.reduceNe, Int.reduceEq, Int.reduceLT, Int.reduceLE, Int.reduceAdd, Int.reduceSub, Int.reduceNeg, Int.reduceMul, Int.reduceToNat, Nat.reduceSub, Nat.reduceMul, Nat.reduceLeDiff, Nat.reduceAdd, Nat.reduceLT, Nat.reduceEqDiff, reduceCtorEq, ↓reduceIte, ghostF, ghostH]
  rintro f H ⟨i, c, st, s, hi, hc, hS, hSl, hv, hF⟩
  rw [intAt_of hF.1]
  simp (disch := omega) only [wk, tis, Int.reduceNe, Int.reduceEq, Int.reduceLT, Int.reduceLE, Int.reduceAdd, Int.reduceSub, Int.reduceNeg, Int.reduceMul, Int.reduceToNat, Nat.reduceSub, Nat.reduceMul, Nat.reduceLeDiff, Nat.reduceAdd, Nat.reduceLT, Nat.reduceEqDiff, reduceCtorEq, ↓reduceIte, hF]
  refine if_by (fun hlt => ?_) (fun hlt => ?_)
  · have hx := ha.get i
    have hy := hb.get i
    have hstep : ∀ t c', t < D16 → t + b.getD i 0 + c = a.getD i 0 + D16 * c' → Dig (s ++ [t]) ∧ vl D16 (s ++ [t]) + vl D16 (b.take (i + 1)) = vl D16 (a.take (i + 1)) + D16 ^ (i + 1) * c' := by
      intro t c' ht h
      refine ⟨hS.snoc ht, ?_⟩
      rw [vlD_snoc, vl_take_next, vl_take_next, hSl, Nat.pow_succ]
      exact borrowD hv h
    simp only [D16] at hx hy hstep
    simp (disch := omega) only [wk, tis, Int.reduceNe, Int.reduceEq, Int.reduceLT, Int.reduceLE, Int.reduceAdd, Int.reduceSub, Int.reduceNeg, Int.reduceMul, Int.reduceToNat, Nat.reduceSub, Nat.reduceMul, Nat.reduceLeDiff, Nat.reduceAdd, Nat.reduceLT, Nat.reduceEqDiff, reduceCtorEq, ↓reduceIte, hF]
    refine call_by ((rdigit_ok a i (by omega))) (by first | rfl | (simp only [tocvs, tocv, hF]; rfl) | (simp only [tocvs, tocv, toboxes, tobox, updH_at, Nat.reduceEqDiff, ↓reduceIte, hF]; rfl)) (by simp) ?_
    simp (disch := omega) only [wk, tis, Int.reduceNe, Int.reduceEq, Int.reduceLT, Int.reduceLE, Int.reduceAdd, Int.reduceSub, Int.reduceNeg, Int.reduceMul, Int.reduceToNat, Nat.reduceSub, Nat.reduceMul, Nat.reduceLeDiff, Nat.reduceAdd, Nat.reduceLT, Nat.reduceEqDiff, reduceCtorEq, ↓reduceIte, hF]
    refine call_by ((rdigit_ok b i (by omega))) (by first | rfl | (simp only [tocvs, tocv, hF]; rfl) | (simp only [tocvs, tocv, toboxes, tobox, updH_at, Nat.reduceEqDiff, ↓reduceIte, hF]; rfl)) (by simp) ?_
    simp (disch := omega) only [wk, tis, Int.reduceNe, Int.reduceEq, Int.reduceLT, Int.reduceLE, Int.reduceAdd, Int.reduceSub, Int.reduceNeg, Int.reduceMul, Int.reduceToNat, Nat.reduceSub, Nat.reduceMul, Nat.reduceLeDiff, Nat.reduceAdd, Nat.reduceLT, Nat.reduceEqDiff, reduceCtorEq, ↓reduceIte, hF]
    refine if_by (fun hneg => ?_) (fun hneg => ?_)
    · have e1 : (a.getD i 0 : Int) - (b.getD i 0 : Int) - (c : Int) + 65536 = ((a.getD i 0 + 65536 - b.getD i 0 - c : Nat) : Int) := by omega
      simp (disch := omega) only [wk, tis, Int.reduceNe, Int.reduceEq, Int.reduceLT, Int.reduceLE, Int.reduceAdd, Int.reduceSub, Int.reduceNeg, Int.reduceMul, Int.reduceToNat, Nat.reduceSub, Nat.reduceMul, Nat.reduceLeDiff, Nat.reduceAdd, Nat.reduceLT, Nat.reduceEqDiff, reduceCtorEq, ↓reduceIte, hF]
      rw [e1]
      simp (disch := omega) only [wk, tis, Int.reduceNe, Int.reduceEq, Int.reduceLT, Int.reduceLE, Int.reduceAdd, Int.reduceSub, Int.reduceNeg, Int.reduceMul, Int.reduceToNat, Nat.reduceSub, Nat.reduceMul, Nat.reduceLeDiff, Nat.reduceAdd, Nat.reduceLT, Nat.reduceEqDiff, reduceCtorEq, ↓reduceIte, hF, hSl]
      obtain ⟨a1, a2⟩ := hstep (a.getD i 0 + 65536 - b.getD i 0 - c) 1 (by omega) (by omega)
      exact ⟨⟨i + 1, 1, st + 1, _, by omega, by omega, a1, by simp [hSl], a2, by omega, rfl, rfl, rfl⟩, by omega⟩
    · have e1 : (a.getD i 0 : Int) - (b.getD i 0 : Int) - (c : Int) = ((a.getD i 0 - b.getD i 0 - c : Nat) : Int) := by omega
      rw [e1]
      simp (disch := omega) only [wk, tis, Int.reduceNe, Int.reduceEq, Int.reduceLT, Int.reduceLE, Int.reduceAdd, Int.reduceSub, Int.reduceNeg, Int.reduceMul, Int.reduceToNat, Nat.reduceSub, Nat.reduceMul, Nat.reduceLeDiff, Nat.reduceAdd, Nat.reduceLT, Nat.reduceEqDiff, reduceCtorEq, ↓reduceIte, hF, hSl]
      obtain ⟨a1, a2⟩ := hstep (a.getD i 0 - b.getD i 0 - c) 0 (by omega) (by omega)
      exact ⟨⟨i + 1, 0, st + 1, _, by omega, by omega, a1, by simp [hSl], a2, by omega, rfl, rfl, rfl⟩, by omega⟩
  · simp (disch := omega) only [wk, tis, Int.reduceNe, Int.reduceEq, Int.reduceLT, Int.reduceLE, Int.reduceAdd, Int.reduceSub, Int.reduceNeg, Int.reduceMul, Int.reduceToNat, Nat.reduceSub, Nat.reduceMul, Nat.reduceLeDiff, Nat.reduceAdd, Nat.reduceLT, Nat.reduceEqDiff, reduceCtorEq, ↓reduceIte, hF]
    have hin : i = a.length := by omega
    rw [List.take_of_length_le (by omega), List.take_of_length_le (by omega)] at hv
    have h5 := vlD_lt hS
    rw [hSl] at h5
    have : c = 0 ∨ c = 1 := by omega
    have e : s = dn a.length (vl D16 a - vl D16 b) := by
      refine eq_dn hS (by omega) ?_
      rw [← hin]
      rcases this with rfl | rfl
      · rw [Nat.mod_eq_of_lt (by omega)]; omega
      · omega
    rw [e]

/-- Of two numbers: below, the same, above. -/
def cmpN (x y : Nat) : Int := if x < y then -1 else if y < x then 1 else 0

theorem cmpN_sign (x y : Nat) : cmpN x y = ((x : Int) - y).sign := by
  unfold cmpN
  split
  · rw [Int.sign_eq_neg_one_of_neg (by omega)]
  · split
    · rw [Int.sign_eq_one_of_pos (by omega)]
    · rw [show (x : Int) - y = 0 by omega]; rfl

theorem top_lt {x y i : Nat} (h : x / D16 ^ (i + 1) = y / D16 ^ (i + 1)) (hd : x / D16 ^ i % D16 < y / D16 ^ i % D16) : x < y := by
  have e : ∀ z : Nat, z / D16 ^ i = D16 * (z / D16 ^ (i + 1)) + z / D16 ^ i % D16 := fun z => by
    rw [Nat.pow_succ, ← Nat.div_div_eq_div_mul]; exact (Nat.div_add_mod _ _).symm
  have h1 := e x
  have h2 := e y
  rw [h] at h1
  rcases Nat.lt_or_ge x y with h3 | h3
  · exact h3
  · have := Nat.div_le_div_right (c := D16 ^ i) h3
    omega

theorem rcompare_ok (a b : List Nat) (ha : Dig a) (hb : Dig b) (hla : a.length ≤ 2 ^ 42) (hlb : b.length ≤ 2 ^ 42) : AC Try.prog 143 [cd a, cd b] none [ci (cmpN (vl D16 a) (vl D16 b))] := by
  refine AC.by_walk (rs := [.tmp 4]) ords Try.func143 (by rfl) (by rfl) (by rfl) (by rfl) (by rfl) ?_
  generalize hn : max a.length b.length = n at *
  have hnI : max (a.length : Int) (b.length : Int) = (n : Int) := by omega
  have h0 : vl D16 a / D16 ^ n = vl D16 b / D16 ^ n := by
    have hA := vlD_lt ha
    have hB := vlD_lt hb
    have hA2 : D16 ^ a.length ≤ D16 ^ n := Nat.pow_le_pow_right (by decide) (by omega)
    have hB2 : D16 ^ b.length ≤ D16 ^ n := Nat.pow_le_pow_right (by decide) (by omega)
    rw [Nat.div_eq_of_lt (by omega), Nat.div_eq_of_lt (by omega)]
  simp (disch := omega) only [wk, tis, Int.reduceNe, Int.reduceEq, Int.reduceLT, Int.reduceLE, Int.reduceAdd, Int.reduceSub, Int.reduceNeg, Int.reduceMul, Int.reduceToNat, Nat.reduceSub, Nat.reduceMul, Nat.reduceLeDiff, Nat.reduceAdd, Nat.reduceLT, Nat.reduceEqDiff, reduceCtorEq, ↓reduceIte, hnI]
  refine aloop_by (fun f H => ∃ (i : Nat), i ≤ n ∧ vl D16 a / D16 ^ i = vl D16 b / D16 ^ i ∧ f 5 = .iv (.int .i64 ((i : Int) - 1)) ∧ f 0 = .iv (.sl (nums a)) ∧ f 1 = .iv (.sl (nums b))) (fun f H => (intAt f 5 + 1).toNat) ?_ ?_
  · refine ⟨n, by omega, h0, ?_⟩
    simp (disch := omega) only [wk, tis, Int.reduceNe, Int.reduceEq, Int.reduceLT, Int.reduceLE, Int.reduceAdd, Int.reduceSub, Int.reduceNeg, Int.reduceMul, Int.reduceToNat, Nat.reduceSub, Nat.reduceMul, Nat.reduceLeDiff, Nat.reduceAdd, Nat.reduceLT, Nat.reduceEqDiff, reduceCtorEq, ↓reduceIte]
  rintro f H ⟨i, hi, hv, hF⟩
  rw [intAt_of hF.1]
  simp (disch := omega) only [wk, tis, Int.reduceNe, Int.reduceEq, Int.reduceLT, Int.reduceLE, Int.reduceAdd, Int.reduceSub, Int.reduceNeg, Int.reduceMul, Int.reduceToNat, Nat.reduceSub, Nat.reduceMul, Nat.reduceLeDiff, Nat.reduceAdd, Nat.reduceLT, Nat.reduceEqDiff, reduceCtorEq, ↓reduceIte, hF]
  refine if_by (fun hlt => ?_) (fun hlt => ?_)
  · obtain ⟨j, rfl⟩ : ∃ j, i = j + 1 := ⟨i - 1, by omega⟩
    have ej : ((j + 1 : Nat) : Int) - 1 = (j : Int) := by omega
    have hx := dig_at ha j
    have hy := dig_at hb j
    rw [ej] at hF
    simp (disch := omega) only [wk, tis, Int.reduceNe, Int.reduceEq, Int.reduceLT, Int.reduceLE, Int.reduceAdd, Int.reduceSub, Int.reduceNeg, Int.reduceMul, Int.reduceToNat, Nat.reduceSub, Nat.reduceMul, Nat.reduceLeDiff, Nat.reduceAdd, Nat.reduceLT, Nat.reduceEqDiff, reduceCtorEq, ↓reduceIte, hF]
    refine call_by ((rdigit_ok a j (by omega))) (by first | rfl | (simp only [tocvs, tocv, hF]; rfl) | (simp only [tocvs, tocv, toboxes, tobox, updH_at, Nat.reduceEqDiff, ↓reduceIte, hF]; rfl)) (by simp) ?_
    simp (disch := omega) only [wk, tis, Int.reduceNe, Int.reduceEq, Int.reduceLT, Int.reduceLE, Int.reduceAdd, Int.reduceSub, Int.reduceNeg, Int.reduceMul, Int.reduceToNat, Nat.reduceSub, Nat.reduceMul, Nat.reduceLeDiff, Nat.reduceAdd, Nat.reduceLT, Nat.reduceEqDiff, reduceCtorEq, ↓reduceIte, hF]
    refine call_by ((rdigit_ok b j (by omega))) (by first | rfl | (simp only [tocvs, tocv, hF]; rfl) | (simp only [tocvs, tocv, toboxes, tobox, updH_at, Nat.reduceEqDiff, ↓reduceIte, hF]; rfl)) (by simp) ?_
    simp (disch := omega) only [wk, tis, Int.reduceNe, Int.reduceEq, Int.reduceLT, Int.reduceLE, Int.reduceAdd, Int.reduceSub, Int.reduceNeg, Int.reduceMul, Int.reduceToNat, Nat.reduceSub, Nat.reduceMul, Nat.reduceLeDiff, Nat.reduceAdd, Nat.reduceLT, Nat.reduceEqDiff, reduceCtorEq, ↓reduceIte, hF]
    refine if_by (fun h1 => ?_) (fun h1 => ?_)
    · simp (disch := omega) only [wk, tis, Int.reduceNe, Int.reduceEq, Int.reduceLT, Int.reduceLE, Int.reduceAdd, Int.reduceSub, Int.reduceNeg, Int.reduceMul, Int.reduceToNat, Nat.reduceSub, Nat.reduceMul, Nat.reduceLeDiff, Nat.reduceAdd, Nat.reduceLT, Nat.reduceEqDiff, reduceCtorEq, ↓reduceIte, hF]
      have : vl D16 a < vl D16 b := top_lt hv (by omega)
      rw [cmpN, if_pos this]
    simp (disch := omega) only [wk, tis, Int.reduceNe, Int.reduceEq, Int.reduceLT, Int.reduceLE, Int.reduceAdd, Int.reduceSub, Int.reduceNeg, Int.reduceMul, Int.reduceToNat, Nat.reduceSub, Nat.reduceMul, Nat.reduceLeDiff, Nat.reduceAdd, Nat.reduceLT, Nat.reduceEqDiff, reduceCtorEq, ↓reduceIte, hF]
    refine if_by (fun h2 => ?_) (fun h2 => ?_)
    · simp (disch := omega) only [wk, tis, Int.reduceNe, Int.reduceEq, Int.reduceLT, Int.reduceLE, Int.reduceAdd, Int.reduceSub, Int.reduceNeg, Int.reduceMul, Int.reduceToNat, Nat.reduceSub, Nat.reduceMul, Nat.reduceLeDiff, Nat.reduceAdd, Nat.reduceLT, Nat.reduceEqDiff, reduceCtorEq, ↓reduceIte, hF]
      have : vl D16 b < vl D16 a := top_lt hv.symm (by omega)
      rw [cmpN, if_neg (by omega), if_pos this]
    simp (disch := omega) only [wk, tis, Int.reduceNe, Int.reduceEq, Int.reduceLT, Int.reduceLE, Int.reduceAdd, Int.reduceSub, Int.reduceNeg, Int.reduceMul, Int.reduceToNat, Nat.reduceSub, Nat.reduceMul, Nat.reduceLeDiff, Nat.reduceAdd, Nat.reduceLT, Nat.reduceEqDiff, reduceCtorEq, ↓reduceIte, hF]
    refine ⟨⟨j, by omega, ?_, rfl⟩, by omega⟩
    have e : ∀ z : Nat, z / D16 ^ j = D16 * (z / D16 ^ (j + 1)) + z / D16 ^ j % D16 := fun z => by
      rw [Nat.pow_succ, ← Nat.div_div_eq_div_mul]; exact (Nat.div_add_mod _ _).symm
    rw [e (vl D16 a), e (vl D16 b), hv]
    omega
  · simp (disch := omega) only [wk, tis, Int.reduceNe, Int.reduceEq, Int.reduceLT, Int.reduceLE, Int.reduceAdd, Int.reduceSub, Int.reduceNeg, Int.reduceMul, Int.reduceToNat, Nat.reduceSub, Nat.reduceMul, Nat.reduceLeDiff, Nat.reduceAdd, Nat.reduceLT, Nat.reduceEqDiff, reduceCtorEq, ↓reduceIte, hF]
    have : i = 0 := by omega
    subst this
    simp at hv
    rw [hv, cmpN]; simp

theorem rcmp_ok (a b : List Nat) (ha : Lim a) (hb : Lim b) (hla : a.length ≤ 2 ^ 40) (hlb : b.length ≤ 2 ^ 40) : AC Try.prog 111 [cl a, cl b] none [ci (cmpN (nv a) (nv b))] := by
  refine AC.by_walk (rs := [.tmp 4]) ords Try.func111 (by rfl) (by rfl) (by rfl) (by rfl) (by rfl) ?_
  have h1 := dgD_len ha
  have h2 := dgD_len hb
  simp (disch := omega) only [wk, tis, Int.reduceNe, Int.reduceEq, Int.reduceLT, Int.reduceLE, Int.reduceAdd, Int.reduceSub, Int.reduceNeg, Int.reduceMul, Int.reduceToNat, Nat.reduceSub, Nat.reduceMul, Nat.reduceLeDiff, Nat.reduceAdd, Nat.reduceLT, Nat.reduceEqDiff, reduceCtorEq, ↓reduceIte]
  refine call_by ((rdig_ok a ha hla)) (by rfl) (by simp) ?_
  simp (disch := omega) only [wk, tis, Int.reduceNe, Int.reduceEq, Int.reduceLT, Int.reduceLE, Int.reduceAdd, Int.reduceSub, Int.reduceNeg, Int.reduceMul, Int.reduceToNat, Nat.reduceSub, Nat.reduceMul, Nat.reduceLeDiff, Nat.reduceAdd, Nat.reduceLT, Nat.reduceEqDiff, reduceCtorEq, ↓reduceIte]
  refine call_by ((rdig_ok b hb hlb)) (by rfl) (by simp) ?_
  simp (disch := omega) only [wk, tis, Int.reduceNe, Int.reduceEq, Int.reduceLT, Int.reduceLE, Int.reduceAdd, Int.reduceSub, Int.reduceNeg, Int.reduceMul, Int.reduceToNat, Nat.reduceSub, Nat.reduceMul, Nat.reduceLeDiff, Nat.reduceAdd, Nat.reduceLT, Nat.reduceEqDiff, reduceCtorEq, ↓reduceIte]
  have := rcompare_ok (dgD (nv a)) (dgD (nv b)) (dgD_dig _) (dgD_dig _) (by omega) (by omega)
  rw [vl_dgD, vl_dgD] at this
  refine call_by (this) (by rfl) (by simp) ?_
  simp (disch := omega) only [wk, tis, Int.reduceNe, Int.reduceEq, Int.reduceLT, Int.reduceLE, Int.reduceAdd, Int.reduceSub, Int.reduceNeg, Int.reduceMul, Int.reduceToNat, Nat.reduceSub, Nat.reduceMul, Nat.reduceLeDiff, Nat.reduceAdd, Nat.reduceLT, Nat.reduceEqDiff, reduceCtorEq, ↓reduceIte]

end Go.Proofs.Ythgecppfgdadiaa

namespace Go.Proofs.Ythgecppfgdadiaa
open Go Go.Proofs Go.AL
set_option linter.unusedSimpArgs false
set_option linter.unusedVariables false

theorem rone_ok (a : List Nat) (hl : a.length ≤ 2 ^ 43) : AC Try.prog 165 [cl a] none [cu (if topN a = 0 then 0 else a.getD 0 0), cb (decide (topN a ≤ 1))] := by
  refine AC.by_walk (rs := [.tmp 2, .tmp 3]) ords Try.func165 (by rfl) (by rfl) (by rfl) (by rfl) (by rfl) ?_
  simp (disch := omega) only [wk, tis, Int.reduceNe, Int.reduceEq, Int.reduceLT, Int.reduceLE, Int.reduceAdd, Int.reduceSub, Int.reduceNeg, Int.reduceMul, Int.reduceToNat, Nat.reduceSub, Nat.reduceMul, Nat.reduceLeDiff, Nat.reduceAdd, Nat.reduceLT, Nat.reduceEqDiff, reduceCtorEq, ↓reduceIte]
  refine aloop_by (fun f H => ∃ (k : Nat), k ≤ a.length ∧ topN (a.take k) = topN a ∧ f 4 = .iv (.int .i64 k) ∧ f 0 = .iv (.sl (lims a))) (fun f H => (intAt f 4).toNat) ?_ ?_
  · refine ⟨a.length, by omega, by rw [List.take_length], ?_⟩
    simp (disch := omega) only [wk, tis, Int.reduceNe, Int.reduceEq, Int.reduceLT, Int.reduceLE, Int.reduceAdd, Int.reduceSub, Int.reduceNeg, Int.reduceMul, Int.reduceToNat, Nat.reduceSub, Nat.reduceMul, Nat.reduceLeDiff, Nat.reduceAdd, Nat.reduceLT, Nat.reduceEqDiff, reduceCtorEq, ↓reduceIte]
  rintro f H ⟨k, hk, ht, hF⟩
  rw [intAt_of hF.1]
  simp (disch := omega) only [wk, tis, Int.reduceNe, Int.reduceEq, Int.reduceLT, Int.reduceLE, Int.reduceAdd, Int.reduceSub, Int.reduceNeg, Int.reduceMul, Int.reduceToNat, Nat.reduceSub, Nat.reduceMul, Nat.reduceLeDiff, Nat.reduceAdd, Nat.reduceLT, Nat.reduceEqDiff, reduceCtorEq, ↓reduceIte, hF]
  have done : (k = topN a) → a.length ≥ k → True := fun _ _ => trivial
  by_cases h0 : 0 < (k : Int)
  · obtain ⟨j, rfl⟩ : ∃ j, k = j + 1 := ⟨k - 1, by omega⟩
    have ej : ((j + 1 : Nat) : Int) - 1 = (j : Int) := by omega
    simp (disch := omega) only [wk, tis, Int.reduceNe, Int.reduceEq, Int.reduceLT, Int.reduceLE, Int.reduceAdd, Int.reduceSub, Int.reduceNeg, Int.reduceMul, Int.reduceToNat, Nat.reduceSub, Nat.reduceMul, Nat.reduceLeDiff, Nat.reduceAdd, Nat.reduceLT, Nat.reduceEqDiff, reduceCtorEq, ↓reduceIte, hF, h0, ej]
    refine if_by (fun hz => ?_) (fun hz => ?_)
    · simp (disch := omega) only [wk, tis, Int.reduceNe, Int.reduceEq, Int.reduceLT, Int.reduceLE, Int.reduceAdd, Int.reduceSub, Int.reduceNeg, Int.reduceMul, Int.reduceToNat, Nat.reduceSub, Nat.reduceMul, Nat.reduceLeDiff, Nat.reduceAdd, Nat.reduceLT, Nat.reduceEqDiff, reduceCtorEq, ↓reduceIte, hF, ej]
      exact ⟨j, by omega, by rw [← topN_take_zero (by omega) (by omega), ht], rfl⟩
    · have hk' : topN a = j + 1 := by rw [← ht, topN_full (by omega) (by omega)]
      have hne : ¬ ((j + 1 : Nat) : Int) = 0 := by omega
      simp (disch := omega) only [wk, tis, Int.reduceNe, Int.reduceEq, Int.reduceLT, Int.reduceLE, Int.reduceAdd, Int.reduceSub, Int.reduceNeg, Int.reduceMul, Int.reduceToNat, Nat.reduceSub, Nat.reduceMul, Nat.reduceLeDiff, Nat.reduceAdd, Nat.reduceLT, Nat.reduceEqDiff, reduceCtorEq, ↓reduceIte, hF, hne]
      rw [if_neg (by omega), hk']
      exact ⟨rfl, decide_eq_decide.mpr (by omega)⟩
  · have : k = 0 := by omega
    subst this
    have hk' : topN a = 0 := by rw [← ht]; rfl
    simp (disch := omega) only [wk, tis, Int.reduceNe, Int.reduceEq, Int.reduceLT, Int.reduceLE, Int.reduceAdd, Int.reduceSub, Int.reduceNeg, Int.reduceMul, Int.reduceToNat, Nat.reduceSub, Nat.reduceMul, Nat.reduceLeDiff, Nat.reduceAdd, Nat.reduceLT, Nat.reduceEqDiff, reduceCtorEq, ↓reduceIte, hF]
    rw [hk']
    exact ⟨rfl, rfl⟩

theorem topN_one {a : List Nat} (h : Lim a) (ht : topN a ≤ 1) : nv a = if topN a = 0 then 0 else a.getD 0 0 := by
  have e : nv (a.take (topN a)) = nv a := vl_drop_top two_le_W h
  rw [← e]
  split
  · rename_i h0; rw [h0]; rfl
  · rename_i h0
    have h1 : topN a = 1 := by omega
    rw [h1]
    have := vl_take_next W a 0
    rw [Nat.zero_add] at this
    show vl W (a.take 1) = _
    rw [this]
    simp [vl]

theorem rones_ok (a b : List Nat) (m : Nat) (ha : Lim a) (hb : Lim b) (hm : m ≤ 63) (hla : a.length ≤ 2 ^ 43) (hlb : b.length ≤ 2 ^ 43) :
    ∃ (x y : Nat) (s : Bool), AC Try.prog 145 [cl a, cl b, ci m] none [cu x, cu y, cb s] ∧ (s = true → x = nv a ∧ y = nv b ∧ nv a < 2 ^ m ∧ nv b < 2 ^ m) := by
  have hs : ∀ x : Nat, (x : Int).fdiv (2 ^ min m IntKind.u64.bits) = ((x / 2 ^ m : Nat) : Int) := by
    intro x
    rw [show min m IntKind.u64.bits = m from Nat.min_eq_left (by simp only [IntKind.bits]; omega), Int.fdiv_eq_ediv_of_nonneg _ (by exact Int.le_of_lt (Int.pow_pos (by decide)))]
    norm_cast
  generalize hX : (if topN a = 0 then 0 else a.getD 0 0) = X
  generalize hY : (if topN b = 0 then 0 else b.getD 0 0) = Y
  refine ⟨X, Y, decide (topN a ≤ 1) && decide (topN b ≤ 1) && decide (X / 2 ^ m = 0) && decide (Y / 2 ^ m = 0), ?_, ?_⟩
  · refine AC.by_walk (rs := [.tmp 6, .tmp 7, .tmp 8]) ords Try.func145 (by rfl) (by rfl) (by rfl) (by rfl) (by rfl) ?_
    have h1 := rone_ok a hla
    have h2 := rone_ok b hlb
    rw [hX] at h1
    rw [hY] at h2
    simp (disch := omega) only [wk, tis, Int.reduceNe, Int.reduceEq, Int.reduceLT, Int.reduceLE, Int.reduceAdd, Int.reduceSub, Int.reduceNeg, Int.reduceMul, Int.reduceToNat, Nat.reduceSub, Nat.reduceMul, Nat.reduceLeDiff, Nat.reduceAdd, Nat.reduceLT, Nat.reduceEqDiff, reduceCtorEq, ↓reduceIte]
    refine call_by (h1) (by rfl) (by simp) ?_
    simp (disch := omega) only [wk, tis, Int.reduceNe, Int.reduceEq, Int.reduceLT, Int.reduceLE, Int.reduceAdd, Int.reduceSub, Int.reduceNeg, Int.reduceMul, Int.reduceToNat, Nat.reduceSub, Nat.reduceMul, Nat.reduceLeDiff, Nat.reduceAdd, Nat.reduceLT, Nat.reduceEqDiff, reduceCtorEq, ↓reduceIte]
    refine call_by (h2) (by rfl) (by simp) ?_
    simp (disch := omega) only [wk, tis, Int.reduceNe, Int.reduceEq, Int.reduceLT, Int.reduceLE, Int.reduceAdd, Int.reduceSub, Int.reduceNeg, Int.reduceMul, Int.reduceToNat, Nat.reduceSub, Nat.reduceMul, Nat.reduceLeDiff, Nat.reduceAdd, Nat.reduceLT, Nat.reduceEqDiff, reduceCtorEq, ↓reduceIte]
    refine ⟨tmps_by (by kernel_rfl), ?_⟩
    by_cases t1 : topN a ≤ 1
    · by_cases t2 : topN b ≤ 1
      · by_cases t3 : X / 2 ^ m = 0
        · by_cases t4 : ((Y / 2 ^ m : Nat) : Int) = 0
          · have t3' : ((X / 2 ^ m : Nat) : Int) = 0 := by omega
            simp (disch := omega) only [wk, tis, Int.reduceNe, Int.reduceEq, Int.reduceLT, Int.reduceLE, Int.reduceAdd, Int.reduceSub, Int.reduceNeg, Int.reduceMul, Int.reduceToNat, Nat.reduceSub, Nat.reduceMul, Nat.reduceLeDiff, Nat.reduceAdd, Nat.reduceLT, Nat.reduceEqDiff, reduceCtorEq, ↓reduceIte, t1, t2, hs, t3', t4]
            first | exact log_by (by kernel_rfl) | refine ⟨log_by (by kernel_rfl), ?_⟩
            simp [t3, show Y / 2 ^ m = 0 by omega]
          · have t3' : ((X / 2 ^ m : Nat) : Int) = 0 := by omega
            simp (disch := omega) only [wk, tis, Int.reduceNe, Int.reduceEq, Int.reduceLT, Int.reduceLE, Int.reduceAdd, Int.reduceSub, Int.reduceNeg, Int.reduceMul, Int.reduceToNat, Nat.reduceSub, Nat.reduceMul, Nat.reduceLeDiff, Nat.reduceAdd, Nat.reduceLT, Nat.reduceEqDiff, reduceCtorEq, ↓reduceIte, t1, t2, hs, t3', t4]
            first | exact log_by (by kernel_rfl) | refine ⟨log_by (by kernel_rfl), ?_⟩
            simp [show ¬ Y / 2 ^ m = 0 by omega]
        · have t3' : ¬ ((X / 2 ^ m : Nat) : Int) = 0 := by omega
          simp (disch := omega) only [wk, tis, Int.reduceNe, Int.reduceEq, Int.reduceLT, Int.reduceLE, Int.reduceAdd, Int.reduceSub, Int.reduceNeg, Int.reduceMul, Int.reduceToNat, Nat.reduceSub, Nat.reduceMul, Nat.reduceLeDiff, Nat.reduceAdd, Nat.reduceLT, Nat.reduceEqDiff, reduceCtorEq, ↓reduceIte, t1, t2, hs, t3']
          first | exact log_by (by kernel_rfl) | refine ⟨log_by (by kernel_rfl), ?_⟩
          simp [t3]
      · simp (disch := omega) only [wk, tis, Int.reduceNe, Int.reduceEq, Int.reduceLT, Int.reduceLE, Int.reduceAdd, Int.reduceSub, Int.reduceNeg, Int.reduceMul, Int.reduceToNat, Nat.reduceSub, Nat.reduceMul, Nat.reduceLeDiff, Nat.reduceAdd, Nat.reduceLT, Nat.reduceEqDiff, reduceCtorEq, ↓reduceIte, t1, t2]
        first | exact log_by (by kernel_rfl) | refine ⟨log_by (by kernel_rfl), ?_⟩
        simp
    · simp (disch := omega) only [wk, tis, Int.reduceNe, Int.reduceEq, Int.reduceLT, Int.reduceLE, Int.reduceAdd, Int.reduceSub, Int.reduceNeg, Int.reduceMul, Int.reduceToNat, Nat.reduceSub, Nat.reduceMul, Nat.reduceLeDiff, Nat.reduceAdd, Nat.reduceLT, Nat.reduceEqDiff, reduceCtorEq, ↓reduceIte, t1]
      first | exact log_by (by kernel_rfl) | refine ⟨log_by (by kernel_rfl), ?_⟩
      simp
  · intro h
    simp only [Bool.and_eq_true, decide_eq_true_eq] at h
    obtain ⟨⟨⟨h1, h2⟩, h3⟩, h4⟩ := h
    have e1 := topN_one ha h1
    have e2 := topN_one hb h2
    rw [e1, e2, hX, hY]
    rw [Nat.div_eq_zero_iff] at h3 h4
    have := Nat.pow_pos (n := m) (show 0 < 2 by decide)
    omega

theorem rof_ok (w : Nat) (h : w < W) : AC Try.prog 146 [cu w] none [cl (wd w)] := by
  refine AC.by_walk (rs := [.tmp 2]) ords Try.func146 (by rfl) (by rfl) (by rfl) (by rfl) (by rfl) ?_
  simp (disch := omega) only [wk, tis, Int.reduceNe, Int.reduceEq, Int.reduceLT, Int.reduceLE, Int.reduceAdd, Int.reduceSub, Int.reduceNeg, Int.reduceMul, Int.reduceToNat, Nat.reduceSub, Nat.reduceMul, Nat.reduceLeDiff, Nat.reduceAdd, Nat.reduceLT, Nat.reduceEqDiff, reduceCtorEq, ↓reduceIte]
  refine if_by (fun hz => ?_) (fun hz => ?_)
  · have : w = 0 := by omega
    subst this
    simp (disch := omega) only [wk, tis, Int.reduceNe, Int.reduceEq, Int.reduceLT, Int.reduceLE, Int.reduceAdd, Int.reduceSub, Int.reduceNeg, Int.reduceMul, Int.reduceToNat, Nat.reduceSub, Nat.reduceMul, Nat.reduceLeDiff, Nat.reduceAdd, Nat.reduceLT, Nat.reduceEqDiff, reduceCtorEq, ↓reduceIte, wd_zero]
  · have : wd w = [w] := by
      rw [wd, dg_pos two_le_W (by omega), Nat.mod_eq_of_lt h, Nat.div_eq_of_lt h, dg_zero]
    simp (disch := omega) only [wk, tis, Int.reduceNe, Int.reduceEq, Int.reduceLT, Int.reduceLE, Int.reduceAdd, Int.reduceSub, Int.reduceNeg, Int.reduceMul, Int.reduceToNat, Nat.reduceSub, Nat.reduceMul, Nat.reduceLeDiff, Nat.reduceAdd, Nat.reduceLT, Nat.reduceEqDiff, reduceCtorEq, ↓reduceIte, this]
    rfl

theorem rPlus_ok (a b : List Nat) (ha : Lim a) (hb : Lim b) (hla : a.length ≤ 2 ^ 38) (hlb : b.length ≤ 2 ^ 38) : AC Try.prog 114 [cl a, cl b] none [cl (wd (nv a + nv b))] := by
  refine AC.by_walk (rs := [.tmp 4]) ords Try.func114 (by rfl) (by rfl) (by rfl) (by rfl) (by rfl) ?_
  obtain ⟨x, y, s, h1, h2⟩ := rones_ok a b 63 ha hb (by omega) (by omega) (by omega)
  have h3 := dgD_len ha
  have h4 := dgD_len hb
  simp (disch := omega) only [wk, tis, Int.reduceNe, Int.reduceEq, Int.reduceLT, Int.reduceLE, Int.reduceAdd, Int.reduceSub, Int.reduceNeg, Int.reduceMul, Int.reduceToNat, Nat.reduceSub, Nat.reduceMul, Nat.reduceLeDiff, Nat.reduceAdd, Nat.reduceLT, Nat.reduceEqDiff, reduceCtorEq, ↓reduceIte]
  refine call_by (h1) (by rfl) (by simp) ?_
  simp (disch := omega) only [wk, tis, Int.reduceNe, Int.reduceEq, Int.reduceLT, Int.reduceLE, Int.reduceAdd, Int.reduceSub, Int.reduceNeg, Int.reduceMul, Int.reduceToNat, Nat.reduceSub, Nat.reduceMul, Nat.reduceLeDiff, Nat.reduceAdd, Nat.reduceLT, Nat.reduceEqDiff, reduceCtorEq, ↓reduceIte]
  cases s with
  | true =>
    obtain ⟨rfl, rfl, b1, b2⟩ := h2 rfl
    simp (disch := omega) only [wk, tis, Int.reduceNe, Int.reduceEq, Int.reduceLT, Int.reduceLE, Int.reduceAdd, Int.reduceSub, Int.reduceNeg, Int.reduceMul, Int.reduceToNat, Nat.reduceSub, Nat.reduceMul, Nat.reduceLeDiff, Nat.reduceAdd, Nat.reduceLT, Nat.reduceEqDiff, reduceCtorEq, ↓reduceIte, wrap_add_nat (m := nv a) (n := nv b) (by simp only [W]; omega)]
    refine call_by ((rof_ok (nv a + nv b) (by simp only [W]; omega))) (by rfl) (by simp) ?_
    simp (disch := omega) only [wk, tis, Int.reduceNe, Int.reduceEq, Int.reduceLT, Int.reduceLE, Int.reduceAdd, Int.reduceSub, Int.reduceNeg, Int.reduceMul, Int.reduceToNat, Nat.reduceSub, Nat.reduceMul, Nat.reduceLeDiff, Nat.reduceAdd, Nat.reduceLT, Nat.reduceEqDiff, reduceCtorEq, ↓reduceIte]
  | false =>
    simp (disch := omega) only [wk, tis, Int.reduceNe, Int.reduceEq, Int.reduceLT, Int.reduceLE, Int.reduceAdd, Int.reduceSub, Int.reduceNeg, Int.reduceMul, Int.reduceToNat, Nat.reduceSub, Nat.reduceMul, Nat.reduceLeDiff, Nat.reduceAdd, Nat.reduceLT, Nat.reduceEqDiff, reduceCtorEq, ↓reduceIte]
    refine call_by ((rdig_ok a ha (by omega))) (by rfl) (by simp) ?_
    simp (disch := omega) only [wk, tis, Int.reduceNe, Int.reduceEq, Int.reduceLT, Int.reduceLE, Int.reduceAdd, Int.reduceSub, Int.reduceNeg, Int.reduceMul, Int.reduceToNat, Nat.reduceSub, Nat.reduceMul, Nat.reduceLeDiff, Nat.reduceAdd, Nat.reduceLT, Nat.reduceEqDiff, reduceCtorEq, ↓reduceIte]
    refine call_by ((rdig_ok b hb (by omega))) (by rfl) (by simp) ?_
    simp (disch := omega) only [wk, tis, Int.reduceNe, Int.reduceEq, Int.reduceLT, Int.reduceLE, Int.reduceAdd, Int.reduceSub, Int.reduceNeg, Int.reduceMul, Int.reduceToNat, Nat.reduceSub, Nat.reduceMul, Nat.reduceLeDiff, Nat.reduceAdd, Nat.reduceLT, Nat.reduceEqDiff, reduceCtorEq, ↓reduceIte]
    have p := rplus_ok (dgD (nv a)) (dgD (nv b)) (dgD_dig _) (dgD_dig _) (by omega) (by omega)
    rw [vl_dgD, vl_dgD] at p
    refine call_by (p) (by rfl) (by simp) ?_
    simp (disch := omega) only [wk, tis, Int.reduceNe, Int.reduceEq, Int.reduceLT, Int.reduceLE, Int.reduceAdd, Int.reduceSub, Int.reduceNeg, Int.reduceMul, Int.reduceToNat, Nat.reduceSub, Nat.reduceMul, Nat.reduceLeDiff, Nat.reduceAdd, Nat.reduceLT, Nat.reduceEqDiff, reduceCtorEq, ↓reduceIte]
    have hA := vlD_lt (dgD_dig (nv a))
    have hB := vlD_lt (dgD_dig (nv b))
    rw [vl_dgD] at hA hB
    generalize hn : max (dgD (nv a)).length (dgD (nv b)).length = n
    have hA2 : D16 ^ (dgD (nv a)).length ≤ D16 ^ n := Nat.pow_le_pow_right (by decide) (by omega)
    have hB2 : D16 ^ (dgD (nv b)).length ≤ D16 ^ n := Nat.pow_le_pow_right (by decide) (by omega)
    have hq : (nv a + nv b) / D16 ^ n < 2 := by
      rw [Nat.div_lt_iff_lt_mul (D_pow_pos n)]; omega
    have hlen : n + (nv a + nv b) / D16 ^ n ≤ 2 ^ 42 := by
      generalize (nv a + nv b) / D16 ^ n = q at hq
      omega
    have q := rnumber_ok (dn (n + (nv a + nv b) / D16 ^ n) (nv a + nv b)) (dn_dig _ _) (by rw [dn_len]; exact hlen)
    have e : vl D16 (dn (n + (nv a + nv b) / D16 ^ n) (nv a + nv b)) = nv a + nv b := by
      rw [vl_dn, Nat.mod_eq_of_lt]
      have two : ∀ q, q < 2 → q = 0 ∨ q = 1 := by omega
      have := two _ hq
      rcases this with h | h
      · rw [h, Nat.add_zero]; exact (Nat.div_eq_zero_iff_lt (D_pow_pos n)).mp h
      · rw [h, Nat.pow_succ]
        have : 2 * D16 ^ n ≤ D16 ^ n * D16 := by rw [Nat.mul_comm]; exact Nat.mul_le_mul_left _ (by decide)
        omega
    rw [e] at q
    refine call_by (q) (by rfl) (by simp) ?_
    simp (disch := omega) only [wk, tis, Int.reduceNe, Int.reduceEq, Int.reduceLT, Int.reduceLE, Int.reduceAdd, Int.reduceSub, Int.reduceNeg, Int.reduceMul, Int.reduceToNat, Nat.reduceSub, Nat.reduceMul, Nat.reduceLeDiff, Nat.reduceAdd, Nat.reduceLT, Nat.reduceEqDiff, reduceCtorEq, ↓reduceIte]

theorem rMinus_ok (a b : List Nat) (ha : Lim a) (hb : Lim b) (hla : a.length ≤ 2 ^ 38) (hlb : b.length ≤ 2 ^ 38) (hle : nv b ≤ nv a) : AC Try.prog 127 [cl a, cl b] none [cl (wd (nv a - nv b))] := by
  refine AC.by_walk (rs := [.tmp 4]) ords Try.func127 (by rfl) (by rfl) (by rfl) (by rfl) (by rfl) ?_
  obtain ⟨x, y, s, h1, h2⟩ := rones_ok a b 63 ha hb (by omega) (by omega) (by omega)
  have h3 := dgD_len ha
  have h4 := dgD_len hb
  simp (disch := omega) only [wk, tis, Int.reduceNe, Int.reduceEq, Int.reduceLT, Int.reduceLE, Int.reduceAdd, Int.reduceSub, Int.reduceNeg, Int.reduceMul, Int.reduceToNat, Nat.reduceSub, Nat.reduceMul, Nat.reduceLeDiff, Nat.reduceAdd, Nat.reduceLT, Nat.reduceEqDiff, reduceCtorEq, ↓reduceIte]
  refine call_by (h1) (by rfl) (by simp) ?_
  simp (disch := omega) only [wk, tis, Int.reduceNe, Int.reduceEq, Int.reduceLT, Int.reduceLE, Int.reduceAdd, Int.reduceSub, Int.reduceNeg, Int.reduceMul, Int.reduceToNat, Nat.reduceSub, Nat.reduceMul, Nat.reduceLeDiff, Nat.reduceAdd, Nat.reduceLT, Nat.reduceEqDiff, reduceCtorEq, ↓reduceIte]
  cases s with
  | true =>
    obtain ⟨rfl, rfl, b1, b2⟩ := h2 rfl
    have e1 : (nv a : Int) - (nv b : Int) = ((nv a - nv b : Nat) : Int) := by omega
    simp (disch := omega) only [wk, tis, Int.reduceNe, Int.reduceEq, Int.reduceLT, Int.reduceLE, Int.reduceAdd, Int.reduceSub, Int.reduceNeg, Int.reduceMul, Int.reduceToNat, Nat.reduceSub, Nat.reduceMul, Nat.reduceLeDiff, Nat.reduceAdd, Nat.reduceLT, Nat.reduceEqDiff, reduceCtorEq, ↓reduceIte, e1, wrap_nat (n := nv a - nv b) (by simp only [W]; omega)]
    refine call_by ((rof_ok (nv a - nv b) (by simp only [W]; omega))) (by rfl) (by simp) ?_
    simp (disch := omega) only [wk, tis, Int.reduceNe, Int.reduceEq, Int.reduceLT, Int.reduceLE, Int.reduceAdd, Int.reduceSub, Int.reduceNeg, Int.reduceMul, Int.reduceToNat, Nat.reduceSub, Nat.reduceMul, Nat.reduceLeDiff, Nat.reduceAdd, Nat.reduceLT, Nat.reduceEqDiff, reduceCtorEq, ↓reduceIte]
  | false =>
    simp (disch := omega) only [wk, tis, Int.reduceNe, Int.reduceEq, Int.reduceLT, Int.reduceLE, Int.reduceAdd, Int.reduceSub, Int.reduceNeg, Int.reduceMul, Int.reduceToNat, Nat.reduceSub, Nat.reduceMul, Nat.reduceLeDiff, Nat.reduceAdd, Nat.reduceLT, Nat.reduceEqDiff, reduceCtorEq, ↓reduceIte]
    refine call_by ((rdig_ok a ha (by omega))) (by rfl) (by simp) ?_
    simp (disch := omega) only [wk, tis, Int.reduceNe, Int.reduceEq, Int.reduceLT, Int.reduceLE, Int.reduceAdd, Int.reduceSub, Int.reduceNeg, Int.reduceMul, Int.reduceToNat, Nat.reduceSub, Nat.reduceMul, Nat.reduceLeDiff, Nat.reduceAdd, Nat.reduceLT, Nat.reduceEqDiff, reduceCtorEq, ↓reduceIte]
    refine call_by ((rdig_ok b hb (by omega))) (by rfl) (by simp) ?_
    simp (disch := omega) only [wk, tis, Int.reduceNe, Int.reduceEq, Int.reduceLT, Int.reduceLE, Int.reduceAdd, Int.reduceSub, Int.reduceNeg, Int.reduceMul, Int.reduceToNat, Nat.reduceSub, Nat.reduceMul, Nat.reduceLeDiff, Nat.reduceAdd, Nat.reduceLT, Nat.reduceEqDiff, reduceCtorEq, ↓reduceIte]
    have hlen : (dgD (nv b)).length ≤ (dgD (nv a)).length := (dg_length_le two_le_D _).mpr (Nat.lt_of_le_of_lt hle ((dg_length_le two_le_D _).mp (Nat.le_refl _)))
    have p := rminus_ok (dgD (nv a)) (dgD (nv b)) (dgD_dig _) (dgD_dig _) (by omega) hlen (by rw [vl_dgD, vl_dgD]; exact hle)
    rw [vl_dgD, vl_dgD] at p
    refine call_by (p) (by rfl) (by simp) ?_
    simp (disch := omega) only [wk, tis, Int.reduceNe, Int.reduceEq, Int.reduceLT, Int.reduceLE, Int.reduceAdd, Int.reduceSub, Int.reduceNeg, Int.reduceMul, Int.reduceToNat, Nat.reduceSub, Nat.reduceMul, Nat.reduceLeDiff, Nat.reduceAdd, Nat.reduceLT, Nat.reduceEqDiff, reduceCtorEq, ↓reduceIte]
    have hA := vlD_lt (dgD_dig (nv a))
    rw [vl_dgD] at hA
    have q := rnumber_ok (dn (dgD (nv a)).length (nv a - nv b)) (dn_dig _ _) (by rw [dn_len]; omega)
    have e : vl D16 (dn (dgD (nv a)).length (nv a - nv b)) = nv a - nv b := by
      rw [vl_dn, Nat.mod_eq_of_lt (by omega)]
    rw [e] at q
    refine call_by (q) (by rfl) (by simp) ?_
    simp (disch := omega) only [wk, tis, Int.reduceNe, Int.reduceEq, Int.reduceLT, Int.reduceLE, Int.reduceAdd, Int.reduceSub, Int.reduceNeg, Int.reduceMul, Int.reduceToNat, Nat.reduceSub, Nat.reduceMul, Nat.reduceLeDiff, Nat.reduceAdd, Nat.reduceLT, Nat.reduceEqDiff, reduceCtorEq, ↓reduceIte]

theorem mulD {P A B O c x y o lo hi : Nat} (h : O + P * c = A + B * y) (he : lo + D16 * hi = o + x * y + c) : True := trivial

theorem vlD_set_take {l : List Nat} {k m : Nat} (hk : k < m) (hm : m ≤ l.length) (x : Nat) : vl D16 ((l.set k x).take m) + D16 ^ k * l.getD k 0 = vl D16 (l.take m) + D16 ^ k * x := by
  have e : (l.set k x).take m = (l.take m).set k x := by rw [List.take_set]
  have h2 : (l.take m).getD k 0 = l.getD k 0 := by simp [List.getD, List.getElem?_take, hk]
  rw [e, ← h2]
  exact vl_set D16 (by rw [List.length_take]; omega) x

theorem rowD {T T' Q A b S Bj c o lo hi : Nat} (h : T + Q * c = S + b * Bj) (hT : T' + Q * o = T + Q * lo) (he : hi * D16 + lo = A + c + o) : T' + Q * D16 * hi = S + (b * Bj + Q * A) := by
  have := congrArg (Q * ·) he
  simp only [Nat.mul_add] at this
  rw [Nat.mul_assoc, Nat.mul_comm D16 hi]
  omega

theorem rtimes_ok (a b : List Nat) (ha : Dig a) (hb : Dig b) (hla : a.length ≤ 2 ^ 40) (hlb : b.length ≤ 2 ^ 40) : AC Try.prog 151 [cd a, cd b] none [cd (dn (a.length + b.length) (vl D16 a * vl D16 b))] := by
  refine AC.by_walk (rs := [.tmp 4]) ords Try.func151 (by rfl) (by rfl) (by rfl) (by rfl) (by rfl) ?_
  have eN : ((a.length : Int) + (b.length : Int)) = ((a.length + b.length : Nat) : Int) := by omega
  simp (disch := omega) only [wk, tis, Int.reduceNe, Int.reduceEq, Int.reduceLT, Int.reduceLE, Int.reduceAdd, Int.reduceSub, Int.reduceNeg, Int.reduceMul, Int.reduceToNat, Nat.reduceSub, Nat.reduceMul, Nat.reduceLeDiff, Nat.reduceAdd, Nat.reduceLT, Nat.reduceEqDiff, reduceCtorEq, ↓reduceIte, eN, nums_rep]
  refine aloop_by (fun f H => ∃ (i st : Nat) (s : List Nat), i ≤ a.length ∧ Dig s ∧ s.length = a.length + b.length ∧ vl D16 (s.take (i + b.length)) = vl D16 (a.take i) * vl D16 b ∧ (∀ k, i + b.length ≤ k → s.getD k 0 = 0) ∧ f 6 = .iv (.int .i64 i) ∧ f 0 = .iv (.sl (nums a)) ∧ f 1 = .iv (.sl (nums b)) ∧ f 5 = .hs 14 st ∧ H 14 = .blk false st 3 1 (nums s)) (fun f H => (a.length - intAt f 6).toNat) ?_ ?_
  · refine ⟨0, 1, List.replicate (a.length + b.length) 0, by omega, Dig.replicate _, by simp, by rw [List.take_replicate]; simp [vl_replicate, vl], fun k _ => by simp [List.getD, List.getElem?_replicate]; split <;> rfl, ?_⟩
    simp (disch := omega) only [wk, tis, Int.reduceNe, Int.reduceEq, Int.reduceLT, Int.reduceLE, Int.reduceAdd, Int.reduceSub, Int.reduceNeg, Int.reduceMul, Int.reduceToNat, Nat.reduceSub, Nat.reduceMul, Nat.reduceLeDiff, Nat.reduceAdd, Nat.reduceLT, Nat.reduceEqDiff, reduceCtorEq, ↓reduceIte]
  rintro f H ⟨i, st, s, hi, hS, hSl, hv, hz, hF⟩
  rw [intAt_of hF.1]
  simp (disch := omega) only [wk, tis, Int.reduceNe, Int.reduceEq, Int.reduceLT, Int.reduceLE, Int.reduceAdd, Int.reduceSub, Int.reduceNeg, Int.reduceMul, Int.reduceToNat, Nat.reduceSub, Nat.reduceMul, Nat.reduceLeDiff, Nat.reduceAdd, Nat.reduceLT, Nat.reduceEqDiff, reduceCtorEq, ↓reduceIte, hF]
  refine if_by (fun hlt => ?_) (fun hlt => ?_)
  · simp (disch := omega) only [wk, tis, Int.reduceNe, Int.reduceEq, Int.reduceLT, Int.reduceLE, Int.reduceAdd, Int.reduceSub, Int.reduceNeg, Int.reduceMul, Int.reduceToNat, Nat.reduceSub, Nat.reduceMul, Nat.reduceLeDiff, Nat.reduceAdd, Nat.reduceLT, Nat.reduceEqDiff, reduceCtorEq, ↓reduceIte, hF]
    have hx := ha.get i
    refine aloop_by (fun f H => ∃ (k c st : Nat) (s : List Nat), k ≤ b.length ∧ c < D16 ∧ Dig s ∧ s.length = a.length + b.length ∧ vl D16 (s.take (i + b.length)) + D16 ^ (i + k) * c = vl D16 (a.take i) * vl D16 b + (D16 ^ i * a.getD i 0) * vl D16 (b.take k) ∧ (∀ k, i + b.length ≤ k → s.getD k 0 = 0) ∧ f 8 = .iv (.int .i64 k) ∧ f 0 = .iv (.sl (nums a)) ∧ f 1 = .iv (.sl (nums b)) ∧ f 5 = .hs 14 st ∧ f 6 = .iv (.int .i64 i) ∧ f 7 = .iv (.int .i64 c) ∧ H 14 = .blk false st 3 1 (nums s)) (fun f H => (b.length - intAt f 8).toNat) ?_ ?_
    · refine ⟨0, 0, st, s, by omega, by decide, hS, hSl, by simp [hv, vl], hz, ?_⟩
      simp (disch := omega) only [wk, tis, Int.reduceNe, Int.reduceEq, Int.reduceLT, Int.reduceLE, Int.reduceAdd, Int.reduceSub, Int.reduceNeg, Int.reduceMul, Int.reduceToNat, Nat.reduceSub, Nat.reduceMul, Nat.reduceLeDiff, Nat.reduceAdd, Nat.reduceLT, Nat.reduceEqDiff, reduceCtorEq, ↓reduceIte, hF]
    rintro f H ⟨k, c, st, s, hk, hc, hS, hSl, hv, hz, hF⟩
    rw [intAt_of hF.1]
    simp (disch := omega) only [wk, tis, Int.reduceNe, Int.reduceEq, Int.reduceLT, Int.reduceLE, Int.reduceAdd, Int.reduceSub, Int.reduceNeg, Int.reduceMul, Int.reduceToNat, Nat.reduceSub, Nat.reduceMul, Nat.reduceLeDiff, Nat.reduceAdd, Nat.reduceLT, Nat.reduceEqDiff, reduceCtorEq, ↓reduceIte, hF]
    refine if_by (fun hlk => ?_) (fun hlk => ?_)
    · have hy := hb.get k
      have ho := hS.get (i + k)
      have eij : (i : Int) + (k : Int) = ((i + k : Nat) : Int) := by omega
      have eab : (a.getD i 0 : Int) * (b.getD k 0 : Int) = ((a.getD i 0 * b.getD k 0 : Nat) : Int) := (Int.natCast_mul _ _).symm
      have hm : a.getD i 0 * b.getD k 0 ≤ 65535 * 65535 := Nat.mul_le_mul (by simp only [D16] at hx; omega) (by simp only [D16] at hy; omega)
      have hdef : ∃ m, m = a.getD i 0 * b.getD k 0 := ⟨_, rfl⟩
      obtain ⟨m, hm1⟩ := hdef
      rw [← hm1] at eab hm
      have et : (c : Int) + ((s.getD (i + k) 0 : Nat) + (m : Nat) : Int) = ((c + (s.getD (i + k) 0 + m) : Nat) : Int) := by omega
      have hT : c + (s.getD (i + k) 0 + m) < 65536 * 65536 := by simp only [D16] at hc ho; omega
      simp only [D16] at hc ho
      simp (disch := omega) only [wk, tis, Int.reduceNe, Int.reduceEq, Int.reduceLT, Int.reduceLE, Int.reduceAdd, Int.reduceSub, Int.reduceNeg, Int.reduceMul, Int.reduceToNat, Nat.reduceSub, Nat.reduceMul, Nat.reduceLeDiff, Nat.reduceAdd, Nat.reduceLT, Nat.reduceEqDiff, reduceCtorEq, ↓reduceIte, hF, eij, eab, et]
      refine ⟨tmps_by (by kernel_rfl), ?_⟩
      first | exact log_by (by kernel_rfl) | refine ⟨log_by (by kernel_rfl), ?_⟩
      have hs1 := vlD_set_take (l := s) (k := i + k) (m := i + b.length) (by omega) (by omega) ((c + (s.getD (i + k) 0 + m)) % D16)
      have hs2 := rowD (A := m) (hi := (c + (s.getD (i + k) 0 + m)) / D16) hv hs1 (by simp only [D16]; omega)
      refine ⟨⟨k + 1, (c + (s.getD (i + k) 0 + m)) / D16, st, s.set (i + k) ((c + (s.getD (i + k) 0 + m)) % D16), by omega, by simp only [D16]; omega, hS.set (Nat.mod_lt _ (by decide)), by simp [hSl], ?_, ?_, by omega, rfl, rfl, rfl⟩, by omega⟩
      · rw [← Nat.add_assoc i k 1, Nat.pow_succ, hs2, vl_take_next, Nat.mul_add, hm1, Nat.pow_add]
        congr 2
        ac_rfl
      · intro j hj
        rw [show (s.set (i + k) ((c + (s.getD (i + k) 0 + m)) % D16)).getD j 0 = s.getD j 0 by simp [List.getD, List.getElem?_set_ne (show i + k ≠ j by omega)]]
        exact hz j hj
    · have hkb : k = b.length := by omega
      subst hkb
      have eij : (i : Int) + (b.length : Int) = ((i + b.length : Nat) : Int) := by omega
      rw [List.take_length] at hv
      simp (disch := omega) only [wk, tis, Int.reduceNe, Int.reduceEq, Int.reduceLT, Int.reduceLE, Int.reduceAdd, Int.reduceSub, Int.reduceNeg, Int.reduceMul, Int.reduceToNat, Nat.reduceSub, Nat.reduceMul, Nat.reduceLeDiff, Nat.reduceAdd, Nat.reduceLT, Nat.reduceEqDiff, reduceCtorEq, ↓reduceIte, hF, eij]
      have hs1 := vl_take_set D16 (l := s) (k := i + b.length) (by omega) c
      refine ⟨⟨i + 1, st, s.set (i + b.length) c, by omega, hS.set hc, by simp [hSl], ?_, ?_, by omega, rfl, rfl⟩, by omega⟩
      · rw [show i + 1 + b.length = i + b.length + 1 by omega, hs1, hv, vl_take_next, Nat.add_mul]
      · intro j hj
        rw [show (s.set (i + b.length) c).getD j 0 = s.getD j 0 by simp [List.getD, List.getElem?_set_ne (show i + b.length ≠ j by omega)]]
        exact hz j (by omega)
  · simp (disch := omega) only [wk, tis, Int.reduceNe, Int.reduceEq, Int.reduceLT, Int.reduceLE, Int.reduceAdd, Int.reduceSub, Int.reduceNeg, Int.reduceMul, Int.reduceToNat, Nat.reduceSub, Nat.reduceMul, Nat.reduceLeDiff, Nat.reduceAdd, Nat.reduceLT, Nat.reduceEqDiff, reduceCtorEq, ↓reduceIte, hF]
    have : i = a.length := by omega
    subst this
    rw [List.take_of_length_le (by omega), List.take_length] at hv
    have e : s = dn (a.length + b.length) (vl D16 a * vl D16 b) := by
      refine eq_dn hS hSl ?_
      have h5 := vlD_lt hS
      rw [hSl] at h5
      rw [hv, Nat.mod_eq_of_lt (by rw [← hv]; exact h5)]
    rw [e]

theorem rTimes_ok (a b : List Nat) (ha : Lim a) (hb : Lim b) (hla : a.length ≤ 2 ^ 37) (hlb : b.length ≤ 2 ^ 37) : AC Try.prog 128 [cl a, cl b] none [cl (wd (nv a * nv b))] := by
  refine AC.by_walk (rs := [.tmp 4]) ords Try.func128 (by rfl) (by rfl) (by rfl) (by rfl) (by rfl) ?_
  obtain ⟨x, y, s, h1, h2⟩ := rones_ok a b 32 ha hb (by omega) (by omega) (by omega)
  have h3 := dgD_len ha
  have h4 := dgD_len hb
  simp (disch := omega) only [wk, tis, Int.reduceNe, Int.reduceEq, Int.reduceLT, Int.reduceLE, Int.reduceAdd, Int.reduceSub, Int.reduceNeg, Int.reduceMul, Int.reduceToNat, Nat.reduceSub, Nat.reduceMul, Nat.reduceLeDiff, Nat.reduceAdd, Nat.reduceLT, Nat.reduceEqDiff, reduceCtorEq, ↓reduceIte]
  refine call_by (h1) (by rfl) (by simp) ?_
  simp (disch := omega) only [wk, tis, Int.reduceNe, Int.reduceEq, Int.reduceLT, Int.reduceLE, Int.reduceAdd, Int.reduceSub, Int.reduceNeg, Int.reduceMul, Int.reduceToNat, Nat.reduceSub, Nat.reduceMul, Nat.reduceLeDiff, Nat.reduceAdd, Nat.reduceLT, Nat.reduceEqDiff, reduceCtorEq, ↓reduceIte]
  cases s with
  | true =>
    obtain ⟨rfl, rfl, b1, b2⟩ := h2 rfl
    have hm : nv a * nv b ≤ (2 ^ 32 - 1) * (2 ^ 32 - 1) := Nat.mul_le_mul (by omega) (by omega)
    have hw : nv a * nv b < W := by simp only [W]; omega
    simp (disch := omega) only [wk, tis, Int.reduceNe, Int.reduceEq, Int.reduceLT, Int.reduceLE, Int.reduceAdd, Int.reduceSub, Int.reduceNeg, Int.reduceMul, Int.reduceToNat, Nat.reduceSub, Nat.reduceMul, Nat.reduceLeDiff, Nat.reduceAdd, Nat.reduceLT, Nat.reduceEqDiff, reduceCtorEq, ↓reduceIte, wrap_mul_nat hw]
    refine call_by ((rof_ok (nv a * nv b) hw)) (by rfl) (by simp) ?_
    simp (disch := omega) only [wk, tis, Int.reduceNe, Int.reduceEq, Int.reduceLT, Int.reduceLE, Int.reduceAdd, Int.reduceSub, Int.reduceNeg, Int.reduceMul, Int.reduceToNat, Nat.reduceSub, Nat.reduceMul, Nat.reduceLeDiff, Nat.reduceAdd, Nat.reduceLT, Nat.reduceEqDiff, reduceCtorEq, ↓reduceIte]
  | false =>
    simp (disch := omega) only [wk, tis, Int.reduceNe, Int.reduceEq, Int.reduceLT, Int.reduceLE, Int.reduceAdd, Int.reduceSub, Int.reduceNeg, Int.reduceMul, Int.reduceToNat, Nat.reduceSub, Nat.reduceMul, Nat.reduceLeDiff, Nat.reduceAdd, Nat.reduceLT, Nat.reduceEqDiff, reduceCtorEq, ↓reduceIte]
    refine call_by ((rdig_ok a ha (by omega))) (by rfl) (by simp) ?_
    simp (disch := omega) only [wk, tis, Int.reduceNe, Int.reduceEq, Int.reduceLT, Int.reduceLE, Int.reduceAdd, Int.reduceSub, Int.reduceNeg, Int.reduceMul, Int.reduceToNat, Nat.reduceSub, Nat.reduceMul, Nat.reduceLeDiff, Nat.reduceAdd, Nat.reduceLT, Nat.reduceEqDiff, reduceCtorEq, ↓reduceIte]
    refine call_by ((rdig_ok b hb (by omega))) (by rfl) (by simp) ?_
    simp (disch := omega) only [wk, tis, Int.reduceNe, Int.reduceEq, Int.reduceLT, Int.reduceLE, Int.reduceAdd, Int.reduceSub, Int.reduceNeg, Int.reduceMul, Int.reduceToNat, Nat.reduceSub, Nat.reduceMul, Nat.reduceLeDiff, Nat.reduceAdd, Nat.reduceLT, Nat.reduceEqDiff, reduceCtorEq, ↓reduceIte]
    have p := rtimes_ok (dgD (nv a)) (dgD (nv b)) (dgD_dig _) (dgD_dig _) (by omega) (by omega)
    rw [vl_dgD, vl_dgD] at p
    refine call_by (p) (by rfl) (by simp) ?_
    simp (disch := omega) only [wk, tis, Int.reduceNe, Int.reduceEq, Int.reduceLT, Int.reduceLE, Int.reduceAdd, Int.reduceSub, Int.reduceNeg, Int.reduceMul, Int.reduceToNat, Nat.reduceSub, Nat.reduceMul, Nat.reduceLeDiff, Nat.reduceAdd, Nat.reduceLT, Nat.reduceEqDiff, reduceCtorEq, ↓reduceIte]
    have hA := vlD_lt (dgD_dig (nv a))
    have hB := vlD_lt (dgD_dig (nv b))
    rw [vl_dgD] at hA hB
    have q := rnumber_ok (dn ((dgD (nv a)).length + (dgD (nv b)).length) (nv a * nv b)) (dn_dig _ _) (by rw [dn_len]; omega)
    have e : vl D16 (dn ((dgD (nv a)).length + (dgD (nv b)).length) (nv a * nv b)) = nv a * nv b := by
      rw [vl_dn, Nat.mod_eq_of_lt]
      rw [Nat.pow_add]
      exact Nat.mul_lt_mul'' hA hB
    rw [e] at q
    refine call_by (q) (by rfl) (by simp) ?_
    simp (disch := omega) only [wk, tis, Int.reduceNe, Int.reduceEq, Int.reduceLT, Int.reduceLE, Int.reduceAdd, Int.reduceSub, Int.reduceNeg, Int.reduceMul, Int.reduceToNat, Nat.reduceSub, Nat.reduceMul, Nat.reduceLeDiff, Nat.reduceAdd, Nat.reduceLT, Nat.reduceEqDiff, reduceCtorEq, ↓reduceIte]

theorem rAdd_ok (a b : RI) (ha : Sz (2 ^ 38) a) (hb : Sz (2 ^ 38) b) : AC Try.prog 67 [cr a, cr b] none [cz (iv a + iv b)] := by
  refine AC.by_walk (rs := [.cell 4 40]) ords Try.func67 (by rfl) (by rfl) (by rfl) (by rfl) (by rfl) ?_
  have hla := ha.1
  have hlb := hb.1
  simp (disch := omega) only [wk, tis, Int.reduceNe, Int.reduceEq, Int.reduceLT, Int.reduceLE, Int.reduceAdd, Int.reduceSub, Int.reduceNeg, Int.reduceMul, Int.reduceToNat, Nat.reduceSub, Nat.reduceMul, Nat.reduceLeDiff, Nat.reduceAdd, Nat.reduceLT, Nat.reduceEqDiff, reduceCtorEq, ↓reduceIte]
  refine if_bool (fun he => ?_) (fun he => ?_)
  · have he : a.1 = b.1 := by simpa using he
    rw [iv_add_same he]
    simp (disch := omega) only [wk, tis, Int.reduceNe, Int.reduceEq, Int.reduceLT, Int.reduceLE, Int.reduceAdd, Int.reduceSub, Int.reduceNeg, Int.reduceMul, Int.reduceToNat, Nat.reduceSub, Nat.reduceMul, Nat.reduceLeDiff, Nat.reduceAdd, Nat.reduceLT, Nat.reduceEqDiff, reduceCtorEq, ↓reduceIte]
    refine ⟨tmps_by (by kernel_rfl), ?_⟩
    refine call_by ((rPlus_ok a.2 b.2 ha.2 hb.2 hla hlb)) (by rfl) (by simp) ?_
    simp (disch := omega) only [wk, tis, Int.reduceNe, Int.reduceEq, Int.reduceLT, Int.reduceLE, Int.reduceAdd, Int.reduceSub, Int.reduceNeg, Int.reduceMul, Int.reduceToNat, Nat.reduceSub, Nat.reduceMul, Nat.reduceLeDiff, Nat.reduceAdd, Nat.reduceLT, Nat.reduceEqDiff, reduceCtorEq, ↓reduceIte]
    have l1 := wd_add_len (nv a.2) (nv b.2)
    have l2 := nv_len ha.2
    have l3 := nv_len hb.2
    have i1 := rI_ok a.1 (wd (nv a.2 + nv b.2)) (lim_wd _) (by omega)
    rw [nv_wd] at i1
    refine call_by (i1) (by rfl) (by simp) ?_
    simp (disch := omega) only [wk, tis, Int.reduceNe, Int.reduceEq, Int.reduceLT, Int.reduceLE, Int.reduceAdd, Int.reduceSub, Int.reduceNeg, Int.reduceMul, Int.reduceToNat, Nat.reduceSub, Nat.reduceMul, Nat.reduceLeDiff, Nat.reduceAdd, Nat.reduceLT, Nat.reduceEqDiff, reduceCtorEq, ↓reduceIte]
    first | exact log_by (by kernel_rfl) | refine ⟨log_by (by kernel_rfl), ?_⟩
  · have he : a.1 ≠ b.1 := by simpa using he
    simp (disch := omega) only [wk, tis, Int.reduceNe, Int.reduceEq, Int.reduceLT, Int.reduceLE, Int.reduceAdd, Int.reduceSub, Int.reduceNeg, Int.reduceMul, Int.reduceToNat, Nat.reduceSub, Nat.reduceMul, Nat.reduceLeDiff, Nat.reduceAdd, Nat.reduceLT, Nat.reduceEqDiff, reduceCtorEq, ↓reduceIte]
    refine call_by ((rcmp_ok a.2 b.2 ha.2 hb.2 (by omega) (by omega))) (by rfl) (by simp) ?_
    simp (disch := omega) only [wk, tis, Int.reduceNe, Int.reduceEq, Int.reduceLT, Int.reduceLE, Int.reduceAdd, Int.reduceSub, Int.reduceNeg, Int.reduceMul, Int.reduceToNat, Nat.reduceSub, Nat.reduceMul, Nat.reduceLeDiff, Nat.reduceAdd, Nat.reduceLT, Nat.reduceEqDiff, reduceCtorEq, ↓reduceIte]
    refine if_by (fun hc => ?_) (fun hc => ?_)
    · have hle : nv b.2 ≤ nv a.2 := by
        unfold cmpN at hc
        split at hc
        · omega
        · omega
      simp (disch := omega) only [wk, tis, Int.reduceNe, Int.reduceEq, Int.reduceLT, Int.reduceLE, Int.reduceAdd, Int.reduceSub, Int.reduceNeg, Int.reduceMul, Int.reduceToNat, Nat.reduceSub, Nat.reduceMul, Nat.reduceLeDiff, Nat.reduceAdd, Nat.reduceLT, Nat.reduceEqDiff, reduceCtorEq, ↓reduceIte]
      refine ⟨tmps_by (by kernel_rfl), ?_⟩
      refine call_by ((rMinus_ok a.2 b.2 ha.2 hb.2 hla hlb hle)) (by rfl) (by simp) ?_
      simp (disch := omega) only [wk, tis, Int.reduceNe, Int.reduceEq, Int.reduceLT, Int.reduceLE, Int.reduceAdd, Int.reduceSub, Int.reduceNeg, Int.reduceMul, Int.reduceToNat, Nat.reduceSub, Nat.reduceMul, Nat.reduceLeDiff, Nat.reduceAdd, Nat.reduceLT, Nat.reduceEqDiff, reduceCtorEq, ↓reduceIte]
      have l2 := nv_len ha.2
      have l4 := wd_len_mono (Nat.sub_le (nv a.2) (nv b.2))
      have i1 := rI_ok a.1 (wd (nv a.2 - nv b.2)) (lim_wd _) (by omega)
      rw [nv_wd] at i1
      have e : sg a.1 (nv a.2 - nv b.2) = iv a + iv b := by
        rw [iv_eq_sg, iv_eq_sg]
        unfold sg
        cases h1 : a.1 <;> cases h2 : b.1 <;> simp_all <;> omega
      rw [e] at i1
      refine call_by (i1) (by rfl) (by simp) ?_
      simp (disch := omega) only [wk, tis, Int.reduceNe, Int.reduceEq, Int.reduceLT, Int.reduceLE, Int.reduceAdd, Int.reduceSub, Int.reduceNeg, Int.reduceMul, Int.reduceToNat, Nat.reduceSub, Nat.reduceMul, Nat.reduceLeDiff, Nat.reduceAdd, Nat.reduceLT, Nat.reduceEqDiff, reduceCtorEq, ↓reduceIte]
      first | exact log_by (by kernel_rfl) | refine ⟨log_by (by kernel_rfl), ?_⟩
    · have hle : nv a.2 ≤ nv b.2 := by
        unfold cmpN at hc
        split at hc
        · omega
        · split at hc <;> omega
      simp (disch := omega) only [wk, tis, Int.reduceNe, Int.reduceEq, Int.reduceLT, Int.reduceLE, Int.reduceAdd, Int.reduceSub, Int.reduceNeg, Int.reduceMul, Int.reduceToNat, Nat.reduceSub, Nat.reduceMul, Nat.reduceLeDiff, Nat.reduceAdd, Nat.reduceLT, Nat.reduceEqDiff, reduceCtorEq, ↓reduceIte]
      refine ⟨tmps_by (by kernel_rfl), ?_⟩
      refine call_by ((rMinus_ok b.2 a.2 hb.2 ha.2 hlb hla hle)) (by rfl) (by simp) ?_
      simp (disch := omega) only [wk, tis, Int.reduceNe, Int.reduceEq, Int.reduceLT, Int.reduceLE, Int.reduceAdd, Int.reduceSub, Int.reduceNeg, Int.reduceMul, Int.reduceToNat, Nat.reduceSub, Nat.reduceMul, Nat.reduceLeDiff, Nat.reduceAdd, Nat.reduceLT, Nat.reduceEqDiff, reduceCtorEq, ↓reduceIte]
      have l2 := nv_len hb.2
      have l4 := wd_len_mono (Nat.sub_le (nv b.2) (nv a.2))
      have i1 := rI_ok b.1 (wd (nv b.2 - nv a.2)) (lim_wd _) (by omega)
      rw [nv_wd] at i1
      have e : sg b.1 (nv b.2 - nv a.2) = iv a + iv b := by
        rw [iv_eq_sg, iv_eq_sg]
        unfold sg
        cases h1 : a.1 <;> cases h2 : b.1 <;> simp_all <;> omega
      rw [e] at i1
      refine call_by (i1) (by rfl) (by simp) ?_
      simp (disch := omega) only [wk, tis, Int.reduceNe, Int.reduceEq, Int.reduceLT, Int.reduceLE, Int.reduceAdd, Int.reduceSub, Int.reduceNeg, Int.reduceMul, Int.reduceToNat, Nat.reduceSub, Nat.reduceMul, Nat.reduceLeDiff, Nat.reduceAdd, Nat.reduceLT, Nat.reduceEqDiff, reduceCtorEq, ↓reduceIte]
      first | exact log_by (by kernel_rfl) | refine ⟨log_by (by kernel_rfl), ?_⟩

theorem rMul_ok (a b : RI) (ha : Sz (2 ^ 37) a) (hb : Sz (2 ^ 37) b) : AC Try.prog 68 [cr a, cr b] none [cz (iv a * iv b)] := by
  refine AC.by_walk (rs := [.cell 4 40]) ords Try.func68 (by rfl) (by rfl) (by rfl) (by rfl) (by rfl) ?_
  have hla := ha.1
  have hlb := hb.1
  simp (disch := omega) only [wk, tis, Int.reduceNe, Int.reduceEq, Int.reduceLT, Int.reduceLE, Int.reduceAdd, Int.reduceSub, Int.reduceNeg, Int.reduceMul, Int.reduceToNat, Nat.reduceSub, Nat.reduceMul, Nat.reduceLeDiff, Nat.reduceAdd, Nat.reduceLT, Nat.reduceEqDiff, reduceCtorEq, ↓reduceIte]
  refine ⟨tmps_by (by kernel_rfl), ?_⟩
  refine call_by ((rTimes_ok a.2 b.2 ha.2 hb.2 hla hlb)) (by rfl) (by simp) ?_
  simp (disch := omega) only [wk, tis, Int.reduceNe, Int.reduceEq, Int.reduceLT, Int.reduceLE, Int.reduceAdd, Int.reduceSub, Int.reduceNeg, Int.reduceMul, Int.reduceToNat, Nat.reduceSub, Nat.reduceMul, Nat.reduceLeDiff, Nat.reduceAdd, Nat.reduceLT, Nat.reduceEqDiff, reduceCtorEq, ↓reduceIte]
  have l1 := wd_mul_len (nv a.2) (nv b.2)
  have l2 := nv_len ha.2
  have l3 := nv_len hb.2
  have i1 := rI_ok (a.1 != b.1) (wd (nv a.2 * nv b.2)) (lim_wd _) (by omega)
  rw [nv_wd, ← iv_mul] at i1
  refine call_by (i1) (by rfl) (by simp) ?_
  simp (disch := omega) only [wk, tis, Int.reduceNe, Int.reduceEq, Int.reduceLT, Int.reduceLE, Int.reduceAdd, Int.reduceSub, Int.reduceNeg, Int.reduceMul, Int.reduceToNat, Nat.reduceSub, Nat.reduceMul, Nat.reduceLeDiff, Nat.reduceAdd, Nat.reduceLT, Nat.reduceEqDiff, reduceCtorEq, ↓reduceIte]
  first | exact log_by (by kernel_rfl) | refine ⟨log_by (by kernel_rfl), ?_⟩

end Go.Proofs.Ythgecppfgdadiaa

namespace Go.Proofs.Ythgecppfgdadiaa
open Go Go.Proofs Go.AL
set_option linter.unusedSimpArgs false
set_option linter.unusedVariables false

theorem szero_ok : AC Try.prog 106 [] none [cr (false, [])] := by
  refine AC.by_walk (rs := [.cell 0 40]) ords Try.func106 (by rfl) (by rfl) (by rfl) (by rfl) (by rfl) ?_
  simp (disch := omega) only [wk, tis, Int.reduceNe, Int.reduceEq, Int.reduceLT, Int.reduceLE, Int.reduceAdd, Int.reduceSub, Int.reduceNeg, Int.reduceMul, Int.reduceToNat, Nat.reduceSub, Nat.reduceMul, Nat.reduceLeDiff, Nat.reduceAdd, Nat.reduceLT, Nat.reduceEqDiff, reduceCtorEq, ↓reduceIte, cpoly_len]

theorem scoef_ok (p : List RI) (i : Int) (h : RP (2 ^ 40) (2 ^ 40) p) : AC Try.prog 44 [cw p, ci i] none [cz (if i < 0 then 0 else cf (pv p) i.toNat)] := by
  refine AC.by_walk (rs := [.cell 4 40]) ords Try.func44 (by rfl) (by rfl) (by rfl) (by rfl) (by rfl) ?_
  have hl := h.1
  by_cases h0 : i < 0
  · simp (disch := omega) only [wk, tis, Int.reduceNe, Int.reduceEq, Int.reduceLT, Int.reduceLE, Int.reduceAdd, Int.reduceSub, Int.reduceNeg, Int.reduceMul, Int.reduceToNat, Nat.reduceSub, Nat.reduceMul, Nat.reduceLeDiff, Nat.reduceAdd, Nat.reduceLT, Nat.reduceEqDiff, reduceCtorEq, ↓reduceIte, cpoly_len, h0]
    refine call_by (szero_ok) (by first | rfl | (simp only [tocvs, tocv, h0]; rfl) | (simp only [tocvs, tocv, toboxes, tobox, updH_at, Nat.reduceEqDiff, ↓reduceIte, h0]; rfl)) (by simp) ?_
    simp (disch := omega) only [wk, tis, Int.reduceNe, Int.reduceEq, Int.reduceLT, Int.reduceLE, Int.reduceAdd, Int.reduceSub, Int.reduceNeg, Int.reduceMul, Int.reduceToNat, Nat.reduceSub, Nat.reduceMul, Nat.reduceLeDiff, Nat.reduceAdd, Nat.reduceLT, Nat.reduceEqDiff, reduceCtorEq, ↓reduceIte, cpoly_len, h0]
    rw [canon_zero]
  by_cases h1 : (p.length : Int) ≤ i
  · simp (disch := omega) only [wk, tis, Int.reduceNe, Int.reduceEq, Int.reduceLT, Int.reduceLE, Int.reduceAdd, Int.reduceSub, Int.reduceNeg, Int.reduceMul, Int.reduceToNat, Nat.reduceSub, Nat.reduceMul, Nat.reduceLeDiff, Nat.reduceAdd, Nat.reduceLT, Nat.reduceEqDiff, reduceCtorEq, ↓reduceIte, cpoly_len, h0, h1]
    refine call_by (szero_ok) (by first | rfl | (simp only [tocvs, tocv, h0, h1]; rfl) | (simp only [tocvs, tocv, toboxes, tobox, updH_at, Nat.reduceEqDiff, ↓reduceIte, h0, h1]; rfl)) (by simp) ?_
    simp (disch := omega) only [wk, tis, Int.reduceNe, Int.reduceEq, Int.reduceLT, Int.reduceLE, Int.reduceAdd, Int.reduceSub, Int.reduceNeg, Int.reduceMul, Int.reduceToNat, Nat.reduceSub, Nat.reduceMul, Nat.reduceLeDiff, Nat.reduceAdd, Nat.reduceLT, Nat.reduceEqDiff, reduceCtorEq, ↓reduceIte, cpoly_len, h0, h1]
    rw [cf_ge (by rw [pv_len]; omega), canon_zero]
  simp (disch := omega) only [wk, tis, Int.reduceNe, Int.reduceEq, Int.reduceLT, Int.reduceLE, Int.reduceAdd, Int.reduceSub, Int.reduceNeg, Int.reduceMul, Int.reduceToNat, Nat.reduceSub, Nat.reduceMul, Nat.reduceLeDiff, Nat.reduceAdd, Nat.reduceLT, Nat.reduceEqDiff, reduceCtorEq, ↓reduceIte, cpoly_len, h0, h1]
  refine call_by ((sown_ok (p.getD i.toNat (false, [])) (h.get _))) (by first | rfl | (simp only [tocvs, tocv, h0, h1]; rfl) | (simp only [tocvs, tocv, toboxes, tobox, updH_at, Nat.reduceEqDiff, ↓reduceIte, h0, h1]; rfl)) (by simp) ?_
  simp (disch := omega) only [wk, tis, Int.reduceNe, Int.reduceEq, Int.reduceLT, Int.reduceLE, Int.reduceAdd, Int.reduceSub, Int.reduceNeg, Int.reduceMul, Int.reduceToNat, Nat.reduceSub, Nat.reduceMul, Nat.reduceLeDiff, Nat.reduceAdd, Nat.reduceLT, Nat.reduceEqDiff, reduceCtorEq, ↓reduceIte, cpoly_len, h0, h1]
  rw [← cf_pv]

theorem sadd_ok (a b : List RI) (ha : RP (2 ^ 30) (2 ^ 36) a) (hb : RP (2 ^ 30) (2 ^ 36) b) : AC Try.prog 27 [cw a, cw b] none [cp (padd (pv a) (pv b))] := by
  refine AC.by_walk (rs := [.tmp 4]) ords Try.func27 (by rfl) (by rfl) (by rfl) (by rfl) (by rfl) ?_
  have hla := ha.1
  have hlb := hb.1
  generalize hn : max a.length b.length = n at *
  have hpl : (padd (pv a) (pv b)).length = n := by simp [padd, pv_len, hn]
  simp (disch := omega) only [wk, tis, Int.reduceNe, Int.reduceEq, Int.reduceLT, Int.reduceLE, Int.reduceAdd, Int.reduceSub, Int.reduceNeg, Int.reduceMul, Int.reduceToNat, Nat.reduceSub, Nat.reduceMul, Nat.reduceLeDiff, Nat.reduceAdd, Nat.reduceLT, Nat.reduceEqDiff, reduceCtorEq, ↓reduceIte, cpoly_len]
  refine aloop_nil 5 5 40 2 (by simp (disch := omega) only [wk, tis, Int.reduceNe, Int.reduceEq, Int.reduceLT, Int.reduceLE, Int.reduceAdd, Int.reduceSub, Int.reduceNeg, Int.reduceMul, Int.reduceToNat, Nat.reduceSub, Nat.reduceMul, Nat.reduceLeDiff, Nat.reduceAdd, Nat.reduceLT, Nat.reduceEqDiff, reduceCtorEq, ↓reduceIte, cpoly_len]) (fun f H => ∃ (i st : Nat), i ≤ n ∧ f 6 = .iv (.int .i64 i) ∧ f 0 = .iv (.sl (raws a)) ∧ f 1 = .iv (.sl (raws b)) ∧ f 5 = .hs 5 st ∧ H 5 = .blk false st 40 2 (raws (((padd (pv a) (pv b)).take i).map canon))) (fun f H => (n - intAt f 6).toNat) ?_ ?_
  · refine ⟨0, 1, by omega, ?_⟩
    simp (disch := omega) only [wk, tis, Int.reduceNe, Int.reduceEq, Int.reduceLT, Int.reduceLE, Int.reduceAdd, Int.reduceSub, Int.reduceNeg, Int.reduceMul, Int.reduceToNat, Nat.reduceSub, Nat.reduceMul, Nat.reduceLeDiff, Nat.reduceAdd, Nat.reduceLT, Nat.reduceEqDiff, reduceCtorEq, ↓reduceIte, cpoly_len, ghostF, ghostH, List.take_zero]
  rintro f H ⟨i, st, hi, hF⟩
  rw [intAt_of hF.1]
  simp (disch := omega) only [wk, tis, Int.reduceNe, Int.reduceEq, Int.reduceLT, Int.reduceLE, Int.reduceAdd, Int.reduceSub, Int.reduceNeg, Int.reduceMul, Int.reduceToNat, Nat.reduceSub, Nat.reduceMul, Nat.reduceLeDiff, Nat.reduceAdd, Nat.reduceLT, Nat.reduceEqDiff, reduceCtorEq, ↓reduceIte, cpoly_len, hF]
  by_cases hlt : i < n
  · have h3 : (i : Int) < a.length ∨ (¬ (i : Int) < a.length ∧ (i : Int) < b.length) := by omega
    have hq : (((padd (pv a) (pv b)).take i).map canon).length = i := by rw [List.length_map, List.length_take]; omega
    have z1 := ha.pv.cf i
    have z2 := hb.pv.cf i
    have c1 := scoef_ok a i (ha.mono (by omega) (by omega))
    have c2 := scoef_ok b i (hb.mono (by omega) (by omega))
    rw [if_neg (by omega), Int.toNat_natCast] at c1 c2
    have m := rAdd_ok (canon (cf (pv a) i)) (canon (cf (pv b) i)) ((sz_canon _).mono (by omega)) ((sz_canon _).mono (by omega))
    rw [iv_canon, iv_canon] at m
    have e : (padd (pv a) (pv b)).take (i + 1) = (padd (pv a) (pv b)).take i ++ [cf (pv a) i + cf (pv b) i] := by
      rw [List.take_add_one, ← cf_padd]
      congr 1
      simp [cf, List.getD, show i < (padd (pv a) (pv b)).length by omega]
    rcases h3 with h | ⟨h, h'⟩
    all_goals
      first | simp (disch := omega) only [wk, tis, Int.reduceNe, Int.reduceEq, Int.reduceLT, Int.reduceLE, Int.reduceAdd, Int.reduceSub, Int.reduceNeg, Int.reduceMul, Int.reduceToNat, Nat.reduceSub, Nat.reduceMul, Nat.reduceLeDiff, Nat.reduceAdd, Nat.reduceLT, Nat.reduceEqDiff, reduceCtorEq, ↓reduceIte, cpoly_len, hF, h, h', hq] | simp (disch := omega) only [wk, tis, Int.reduceNe, Int.reduceEq, Int.reduceLT, Int.reduceLE, Int.reduceAdd, Int.reduceSub, Int.reduceNeg, Int.reduceMul, Int.reduceToNat, Nat.reduceSub, Nat.reduceMul, Nat.reduceLeDiff, Nat.reduceAdd, Nat.reduceLT, Nat.reduceEqDiff, reduceCtorEq, ↓reduceIte, cpoly_len, hF, h, hq]
      refine call_by (c1) (by first | rfl | (simp only [tocvs, tocv, hF, hq]; rfl) | (simp only [tocvs, tocv, toboxes, tobox, updH_at, Nat.reduceEqDiff, ↓reduceIte, hF, hq]; rfl)) (by simp) ?_
      simp (disch := omega) only [wk, tis, Int.reduceNe, Int.reduceEq, Int.reduceLT, Int.reduceLE, Int.reduceAdd, Int.reduceSub, Int.reduceNeg, Int.reduceMul, Int.reduceToNat, Nat.reduceSub, Nat.reduceMul, Nat.reduceLeDiff, Nat.reduceAdd, Nat.reduceLT, Nat.reduceEqDiff, reduceCtorEq, ↓reduceIte, cpoly_len, hF, hq]
      refine call_by (c2) (by first | rfl | (simp only [tocvs, tocv, hF, hq]; rfl) | (simp only [tocvs, tocv, toboxes, tobox, updH_at, Nat.reduceEqDiff, ↓reduceIte, hF, hq]; rfl)) (by simp) ?_
      simp (disch := omega) only [wk, tis, Int.reduceNe, Int.reduceEq, Int.reduceLT, Int.reduceLE, Int.reduceAdd, Int.reduceSub, Int.reduceNeg, Int.reduceMul, Int.reduceToNat, Nat.reduceSub, Nat.reduceMul, Nat.reduceLeDiff, Nat.reduceAdd, Nat.reduceLT, Nat.reduceEqDiff, reduceCtorEq, ↓reduceIte, cpoly_len, hF, hq]
      refine call_by (m) (by first | rfl | (simp only [tocvs, tocv, hF, hq]; rfl) | (simp only [tocvs, tocv, toboxes, tobox, updH_at, Nat.reduceEqDiff, ↓reduceIte, hF, hq]; rfl)) (by simp) ?_
      simp (disch := omega) only [wk, tis, Int.reduceNe, Int.reduceEq, Int.reduceLT, Int.reduceLE, Int.reduceAdd, Int.reduceSub, Int.reduceNeg, Int.reduceMul, Int.reduceToNat, Nat.reduceSub, Nat.reduceMul, Nat.reduceLeDiff, Nat.reduceAdd, Nat.reduceLT, Nat.reduceEqDiff, reduceCtorEq, ↓reduceIte, cpoly_len, hF, hq]
      exact ⟨⟨i + 1, st + 1, by omega, by omega, by rw [e]; exact ⟨rfl, rfl⟩⟩, by omega⟩
  · have h1 : ¬ (i : Int) < a.length := by omega
    have h2 : ¬ (i : Int) < b.length := by omega
    simp (disch := omega) only [wk, tis, Int.reduceNe, Int.reduceEq, Int.reduceLT, Int.reduceLE, Int.reduceAdd, Int.reduceSub, Int.reduceNeg, Int.reduceMul, Int.reduceToNat, Nat.reduceSub, Nat.reduceMul, Nat.reduceLeDiff, Nat.reduceAdd, Nat.reduceLT, Nat.reduceEqDiff, reduceCtorEq, ↓reduceIte, cpoly_len, hF, h1, h2]
    have hb := ha.pv.padd hb.pv
    have := snorm_ok ((padd (pv a) (pv b)).map canon) (RP.canon (hb.mono (by omega) (by omega)))
    rw [pv_canon] at this
    rw [List.take_of_length_le (by omega)] at hF
    refine call_by (this) (by first | rfl | (simp only [tocvs, tocv, hF]; rfl) | (simp only [tocvs, tocv, toboxes, tobox, updH_at, Nat.reduceEqDiff, ↓reduceIte, hF]; rfl)) (by simp) ?_
    simp (disch := omega) only [wk, tis, Int.reduceNe, Int.reduceEq, Int.reduceLT, Int.reduceLE, Int.reduceAdd, Int.reduceSub, Int.reduceNeg, Int.reduceMul, Int.reduceToNat, Nat.reduceSub, Nat.reduceMul, Nat.reduceLeDiff, Nat.reduceAdd, Nat.reduceLT, Nat.reduceEqDiff, reduceCtorEq, ↓reduceIte, cpoly_len, hF]

theorem sscale_ok (p : List RI) (c : RI) (hp : RP (2 ^ 30) (2 ^ 36) p) (hc : Sz (2 ^ 36) c) : AC Try.prog 31 [cw p, cr c] none [cp (pscale (iv c) (pv p))] := by
  refine AC.by_walk (rs := [.tmp 4]) ords Try.func31 (by rfl) (by rfl) (by rfl) (by rfl) (by rfl) ?_
  have hl := hp.1
  have hpl : (pscale (iv c) (pv p)).length = p.length := by simp [pscale, pv_len]
  simp (disch := omega) only [wk, tis, Int.reduceNe, Int.reduceEq, Int.reduceLT, Int.reduceLE, Int.reduceAdd, Int.reduceSub, Int.reduceNeg, Int.reduceMul, Int.reduceToNat, Nat.reduceSub, Nat.reduceMul, Nat.reduceLeDiff, Nat.reduceAdd, Nat.reduceLT, Nat.reduceEqDiff, reduceCtorEq, ↓reduceIte, cpoly_len]
  refine aloop_nil 5 5 40 2 (by simp (disch := omega) only [wk, tis, Int.reduceNe, Int.reduceEq, Int.reduceLT, Int.reduceLE, Int.reduceAdd, Int.reduceSub, Int.reduceNeg, Int.reduceMul, Int.reduceToNat, Nat.reduceSub, Nat.reduceMul, Nat.reduceLeDiff, Nat.reduceAdd, Nat.reduceLT, Nat.reduceEqDiff, reduceCtorEq, ↓reduceIte, cpoly_len]) (fun f H => ∃ (i st st3 : Nat), i ≤ p.length ∧ f 6 = .iv (.int .i64 i) ∧ f 0 = .iv (.sl (raws p)) ∧ f 3 = .hp 3 st3 0 0 ∧ f 5 = .hs 5 st ∧ H 3 = .blk false st3 40 2 [prow c] ∧ H 5 = .blk false st 40 2 (raws (((pscale (iv c) (pv p)).take i).map canon))) (fun f H => (p.length - intAt f 6).toNat) ?_ ?_
  · refine ⟨0, 1, 1, by omega, ?_⟩
    simp (disch := omega) only [wk, tis, Int.reduceNe, Int.reduceEq, Int.reduceLT, Int.reduceLE, Int.reduceAdd, Int.reduceSub, Int.reduceNeg, Int.reduceMul, Int.reduceToNat, Nat.reduceSub, Nat.reduceMul, Nat.reduceLeDiff, Nat.reduceAdd, Nat.reduceLT, Nat.reduceEqDiff, reduceCtorEq, ↓reduceIte, cpoly_len, ghostF, ghostH, List.take_zero]
  rintro f H ⟨i, st, st3, hi, hF⟩
  rw [intAt_of hF.1]
  simp (disch := omega) only [wk, tis, Int.reduceNe, Int.reduceEq, Int.reduceLT, Int.reduceLE, Int.reduceAdd, Int.reduceSub, Int.reduceNeg, Int.reduceMul, Int.reduceToNat, Nat.reduceSub, Nat.reduceMul, Nat.reduceLeDiff, Nat.reduceAdd, Nat.reduceLT, Nat.reduceEqDiff, reduceCtorEq, ↓reduceIte, cpoly_len, hF]
  refine if_by (fun hlt => ?_) (fun hlt => ?_)
  · have hq : (((pscale (iv c) (pv p)).take i).map canon).length = i := by rw [List.length_map, List.length_take]; omega
    simp (disch := omega) only [wk, tis, Int.reduceNe, Int.reduceEq, Int.reduceLT, Int.reduceLE, Int.reduceAdd, Int.reduceSub, Int.reduceNeg, Int.reduceMul, Int.reduceToNat, Nat.reduceSub, Nat.reduceMul, Nat.reduceLeDiff, Nat.reduceAdd, Nat.reduceLT, Nat.reduceEqDiff, reduceCtorEq, ↓reduceIte, cpoly_len, hF, hq]
    refine ⟨tmps_by (by kernel_rfl), ?_⟩
    have m := rMul_ok (p.getD i (false, [])) c ((hp.get i).mono (by omega)) (hc.mono (by omega))
    rw [← cf_pv, ← cf_pscale] at m
    refine call_by (m) (by first | rfl | (simp only [tocvs, tocv, hF, hq]; rfl) | (simp only [tocvs, tocv, toboxes, tobox, updH_at, Nat.reduceEqDiff, ↓reduceIte, hF, hq]; rfl)) (by simp) ?_
    simp (disch := omega) only [wk, tis, Int.reduceNe, Int.reduceEq, Int.reduceLT, Int.reduceLE, Int.reduceAdd, Int.reduceSub, Int.reduceNeg, Int.reduceMul, Int.reduceToNat, Nat.reduceSub, Nat.reduceMul, Nat.reduceLeDiff, Nat.reduceAdd, Nat.reduceLT, Nat.reduceEqDiff, reduceCtorEq, ↓reduceIte, cpoly_len, hF, hq]
    first | exact log_by (by kernel_rfl) | refine ⟨log_by (by kernel_rfl), ?_⟩
    have e : (pscale (iv c) (pv p)).take (i + 1) = (pscale (iv c) (pv p)).take i ++ [cf (pscale (iv c) (pv p)) i] := by
      rw [List.take_add_one]
      congr 1
      simp [cf, List.getD, show i < (pscale (iv c) (pv p)).length by omega]
    exact ⟨⟨i + 1, st + 1, st3, by omega, by omega, by rw [e]; exact ⟨rfl, rfl, rfl, rfl⟩⟩, by omega⟩
  · simp (disch := omega) only [wk, tis, Int.reduceNe, Int.reduceEq, Int.reduceLT, Int.reduceLE, Int.reduceAdd, Int.reduceSub, Int.reduceNeg, Int.reduceMul, Int.reduceToNat, Nat.reduceSub, Nat.reduceMul, Nat.reduceLeDiff, Nat.reduceAdd, Nat.reduceLT, Nat.reduceEqDiff, reduceCtorEq, ↓reduceIte, cpoly_len, hF]
    have hz := zl_iv hc
    have hb := hp.pv.pscale (c := iv c)
    have := snorm_ok ((pscale (iv c) (pv p)).map canon) (RP.canon (hb.mono (by omega) (by omega)))
    rw [pv_canon] at this
    rw [List.take_of_length_le (by omega)] at hF
    refine call_by (this) (by first | rfl | (simp only [tocvs, tocv, hF]; rfl) | (simp only [tocvs, tocv, toboxes, tobox, updH_at, Nat.reduceEqDiff, ↓reduceIte, hF]; rfl)) (by simp) ?_
    simp (disch := omega) only [wk, tis, Int.reduceNe, Int.reduceEq, Int.reduceLT, Int.reduceLE, Int.reduceAdd, Int.reduceSub, Int.reduceNeg, Int.reduceMul, Int.reduceToNat, Nat.reduceSub, Nat.reduceMul, Nat.reduceLeDiff, Nat.reduceAdd, Nat.reduceLT, Nat.reduceEqDiff, reduceCtorEq, ↓reduceIte, cpoly_len, hF]

theorem sneg_ok (p : List RI) (hp : RP (2 ^ 30) (2 ^ 35) p) : AC Try.prog 29 [cw p] none [cp (pscale (-1) (pv p))] := by
  refine AC.by_walk (rs := [.tmp 2]) ords Try.func29 (by rfl) (by rfl) (by rfl) (by rfl) (by rfl) ?_
  simp (disch := omega) only [wk, tis, Int.reduceNe, Int.reduceEq, Int.reduceLT, Int.reduceLE, Int.reduceAdd, Int.reduceSub, Int.reduceNeg, Int.reduceMul, Int.reduceToNat, Nat.reduceSub, Nat.reduceMul, Nat.reduceLeDiff, Nat.reduceAdd, Nat.reduceLT, Nat.reduceEqDiff, reduceCtorEq, ↓reduceIte, cpoly_len]
  refine call_by ((sZ_ok (-1) (by omega) (by omega))) (by rfl) (by simp) ?_
  simp (disch := omega) only [wk, tis, Int.reduceNe, Int.reduceEq, Int.reduceLT, Int.reduceLE, Int.reduceAdd, Int.reduceSub, Int.reduceNeg, Int.reduceMul, Int.reduceToNat, Nat.reduceSub, Nat.reduceMul, Nat.reduceLeDiff, Nat.reduceAdd, Nat.reduceLT, Nat.reduceEqDiff, reduceCtorEq, ↓reduceIte, cpoly_len]
  have := sscale_ok p (canon (-1)) (hp.mono (by omega) (by omega)) ((sz_canon (-1)).mono (by have : zl (-1) ≤ 1 := zl_le.mpr (by decide); omega))
  rw [iv_canon] at this
  refine call_by (this) (by rfl) (by simp) ?_
  simp (disch := omega) only [wk, tis, Int.reduceNe, Int.reduceEq, Int.reduceLT, Int.reduceLE, Int.reduceAdd, Int.reduceSub, Int.reduceNeg, Int.reduceMul, Int.reduceToNat, Nat.reduceSub, Nat.reduceMul, Nat.reduceLeDiff, Nat.reduceAdd, Nat.reduceLT, Nat.reduceEqDiff, reduceCtorEq, ↓reduceIte, cpoly_len]

theorem ssub_ok (a b : List RI) (ha : RP (2 ^ 30) (2 ^ 36) a) (hb : RP (2 ^ 30) (2 ^ 35) b) : AC Try.prog 28 [cw a, cw b] none [cp (padd (pv a) (pscale (-1) (pv b)))] := by
  refine AC.by_walk (rs := [.tmp 4]) ords Try.func28 (by rfl) (by rfl) (by rfl) (by rfl) (by rfl) ?_
  simp (disch := omega) only [wk, tis, Int.reduceNe, Int.reduceEq, Int.reduceLT, Int.reduceLE, Int.reduceAdd, Int.reduceSub, Int.reduceNeg, Int.reduceMul, Int.reduceToNat, Nat.reduceSub, Nat.reduceMul, Nat.reduceLeDiff, Nat.reduceAdd, Nat.reduceLT, Nat.reduceEqDiff, reduceCtorEq, ↓reduceIte, cpoly_len]
  refine call_by ((sneg_ok b hb)) (by rfl) (by simp) ?_
  simp (disch := omega) only [wk, tis, Int.reduceNe, Int.reduceEq, Int.reduceLT, Int.reduceLE, Int.reduceAdd, Int.reduceSub, Int.reduceNeg, Int.reduceMul, Int.reduceToNat, Nat.reduceSub, Nat.reduceMul, Nat.reduceLeDiff, Nat.reduceAdd, Nat.reduceLT, Nat.reduceEqDiff, reduceCtorEq, ↓reduceIte, cpoly_len]
  have h1 : zl (-1) ≤ 1 := zl_le.mpr (by decide)
  have := sadd_ok a (cn (pscale (-1) (pv b))) ha (rp_cn (hb.pv.pscale.mono (by omega) (by omega)))
  have e : cp (padd (pv a) (pv (cn (pscale (-1) (pv b))))) = cp (padd (pv a) (pscale (-1) (pv b))) := cp_ps (by rw [ps_padd, ps_padd, ps_cn])
  rw [e] at this
  refine call_by (this) (by rfl) (by simp) ?_
  simp (disch := omega) only [wk, tis, Int.reduceNe, Int.reduceEq, Int.reduceLT, Int.reduceLE, Int.reduceAdd, Int.reduceSub, Int.reduceNeg, Int.reduceMul, Int.reduceToNat, Nat.reduceSub, Nat.reduceMul, Nat.reduceLeDiff, Nat.reduceAdd, Nat.reduceLT, Nat.reduceEqDiff, reduceCtorEq, ↓reduceIte, cpoly_len]

theorem splain_ok (n : Int) : AC Try.prog 103 [ci n] none [ci (if n < 0 then 3 else if 1000 < n then 13 else 0)] := by
  refine AC.by_walk (rs := [.tmp 2]) ords Try.func103 (by rfl) (by rfl) (by rfl) (by rfl) (by rfl) ?_
  simp (disch := omega) only [wk, tis, Int.reduceNe, Int.reduceEq, Int.reduceLT, Int.reduceLE, Int.reduceAdd, Int.reduceSub, Int.reduceNeg, Int.reduceMul, Int.reduceToNat, Nat.reduceSub, Nat.reduceMul, Nat.reduceLeDiff, Nat.reduceAdd, Nat.reduceLT, Nat.reduceEqDiff, reduceCtorEq, ↓reduceIte, cpoly_len]
  refine if_by (fun h => ?_) (fun h => ?_)
  · simp (disch := omega) only [wk, tis, Int.reduceNe, Int.reduceEq, Int.reduceLT, Int.reduceLE, Int.reduceAdd, Int.reduceSub, Int.reduceNeg, Int.reduceMul, Int.reduceToNat, Nat.reduceSub, Nat.reduceMul, Nat.reduceLeDiff, Nat.reduceAdd, Nat.reduceLT, Nat.reduceEqDiff, reduceCtorEq, ↓reduceIte, cpoly_len, h]
  simp (disch := omega) only [wk, tis, Int.reduceNe, Int.reduceEq, Int.reduceLT, Int.reduceLE, Int.reduceAdd, Int.reduceSub, Int.reduceNeg, Int.reduceMul, Int.reduceToNat, Nat.reduceSub, Nat.reduceMul, Nat.reduceLeDiff, Nat.reduceAdd, Nat.reduceLT, Nat.reduceEqDiff, reduceCtorEq, ↓reduceIte, cpoly_len, h]
  refine if_by (fun h' => ?_) (fun h' => ?_)
  · simp (disch := omega) only [wk, tis, Int.reduceNe, Int.reduceEq, Int.reduceLT, Int.reduceLE, Int.reduceAdd, Int.reduceSub, Int.reduceNeg, Int.reduceMul, Int.reduceToNat, Nat.reduceSub, Nat.reduceMul, Nat.reduceLeDiff, Nat.reduceAdd, Nat.reduceLT, Nat.reduceEqDiff, reduceCtorEq, ↓reduceIte, cpoly_len, h, h']
  simp (disch := omega) only [wk, tis, Int.reduceNe, Int.reduceEq, Int.reduceLT, Int.reduceLE, Int.reduceAdd, Int.reduceSub, Int.reduceNeg, Int.reduceMul, Int.reduceToNat, Nat.reduceSub, Nat.reduceMul, Nat.reduceLeDiff, Nat.reduceAdd, Nat.reduceLT, Nat.reduceEqDiff, reduceCtorEq, ↓reduceIte, cpoly_len, h, h']

/-- Places below. -/
def pshift (n : Nat) (p : List Int) : List Int := List.replicate n 0 ++ p

theorem cf_pshift (n : Nat) (p : List Int) (k : Nat) : cf (pshift n p) k = if k < n then 0 else cf p (k - n) := by
  unfold pshift cf
  by_cases h : k < n
  · rw [if_pos h]; simp [List.getD, List.getElem?_append, List.getElem?_replicate, h]
  · rw [if_neg h]; simp [List.getD, List.getElem?_append, h]

theorem tz_pshift (n : Nat) (p : List Int) (h : tz p ≠ 0) : tz (pshift n p) = n + tz p := by
  have h1 := cf_tz_pred h
  have := tz_spec (q := pshift n p) (n := n + (tz p - 1)) (by rw [cf_pshift, if_neg (by omega), show n + (tz p - 1) - n = tz p - 1 by omega]; exact h1) (fun k hk => by
    rw [cf_pshift, if_neg (by omega), cf_ge_tz p (by omega)])
  omega

theorem trimz_pshift (n : Nat) (p : List Int) (h : tz p ≠ 0) : trimz (pshift n p) = List.replicate n 0 ++ trimz p := by
  rw [trimz, tz_pshift n p h, pshift, List.take_append, List.length_replicate, List.take_of_length_le (by simp), show n + tz p - n = tz p by omega]; rfl

theorem trimz_nil {p : List Int} (h : tz p = 0) : trimz p = [] := by rw [trimz, h]; rfl

theorem tz_pshift_zero (n : Nat) (p : List Int) (h : tz p = 0) : tz (pshift n p) = 0 := tz_zero_iff.mpr fun k => by
  rw [cf_pshift]; split
  · rfl
  · exact cf_ge_tz p (by omega)

theorem pv_shift (n : Nat) (p : List RI) : pv (List.replicate n (false, []) ++ p) = pshift n (pv p) := by
  simp [pv, pshift, iv_nil]

theorem sup_ok (p : List RI) (n : Int) (hp : RP (2 ^ 35) (2 ^ 40) p) : AC Try.prog 33 [cw p, ci n] none [cp (if 0 ≤ n ∧ n ≤ 1000 then pshift n.toNat (pv p) else []), ci (if n < 0 then 3 else if 1000 < n then 13 else 0)] := by
  refine AC.by_walk (rs := [.tmp 4, .tmp 5]) ords Try.func33 (by rfl) (by rfl) (by rfl) (by rfl) (by rfl) ?_
  have hl := hp.1
  simp (disch := omega) only [wk, tis, Int.reduceNe, Int.reduceEq, Int.reduceLT, Int.reduceLE, Int.reduceAdd, Int.reduceSub, Int.reduceNeg, Int.reduceMul, Int.reduceToNat, Nat.reduceSub, Nat.reduceMul, Nat.reduceLeDiff, Nat.reduceAdd, Nat.reduceLT, Nat.reduceEqDiff, reduceCtorEq, ↓reduceIte, cpoly_len]
  refine call_by ((splain_ok n)) (by rfl) (by simp) ?_
  simp (disch := omega) only [wk, tis, Int.reduceNe, Int.reduceEq, Int.reduceLT, Int.reduceLE, Int.reduceAdd, Int.reduceSub, Int.reduceNeg, Int.reduceMul, Int.reduceToNat, Nat.reduceSub, Nat.reduceMul, Nat.reduceLeDiff, Nat.reduceAdd, Nat.reduceLT, Nat.reduceEqDiff, reduceCtorEq, ↓reduceIte, cpoly_len]
  by_cases h1 : n < 0
  · have : ¬ (0 ≤ n ∧ n ≤ 1000) := by omega
    simp (disch := omega) only [wk, tis, Int.reduceNe, Int.reduceEq, Int.reduceLT, Int.reduceLE, Int.reduceAdd, Int.reduceSub, Int.reduceNeg, Int.reduceMul, Int.reduceToNat, Nat.reduceSub, Nat.reduceMul, Nat.reduceLeDiff, Nat.reduceAdd, Nat.reduceLT, Nat.reduceEqDiff, reduceCtorEq, ↓reduceIte, cpoly_len, h1, this]
    rfl
  by_cases h2 : 1000 < n
  · have : ¬ (0 ≤ n ∧ n ≤ 1000) := by omega
    simp (disch := omega) only [wk, tis, Int.reduceNe, Int.reduceEq, Int.reduceLT, Int.reduceLE, Int.reduceAdd, Int.reduceSub, Int.reduceNeg, Int.reduceMul, Int.reduceToNat, Nat.reduceSub, Nat.reduceMul, Nat.reduceLeDiff, Nat.reduceAdd, Nat.reduceLT, Nat.reduceEqDiff, reduceCtorEq, ↓reduceIte, cpoly_len, h1, h2, this]
    rfl
  have h3 : 0 ≤ n ∧ n ≤ 1000 := by omega
  obtain ⟨m, rfl⟩ := Int.eq_ofNat_of_zero_le h3.1
  simp (disch := omega) only [wk, tis, Int.reduceNe, Int.reduceEq, Int.reduceLT, Int.reduceLE, Int.reduceAdd, Int.reduceSub, Int.reduceNeg, Int.reduceMul, Int.reduceToNat, Nat.reduceSub, Nat.reduceMul, Nat.reduceLeDiff, Nat.reduceAdd, Nat.reduceLT, Nat.reduceEqDiff, reduceCtorEq, ↓reduceIte, cpoly_len, h1, h2, h3]
  have := snorm_ok (List.replicate m (false, []) ++ p) ⟨by simp; omega, fun c hc => by
    rcases List.mem_append.mp hc with hc | hc
    · rw [List.eq_of_mem_replicate hc]; exact ⟨by simp, Lim.nil⟩
    · exact hp.2 c hc⟩
  rw [pv_shift] at this
  refine call_by (this) (by first | rfl | (simp only [tocvs, tocv, h1, h2]; rfl) | (simp only [tocvs, tocv, toboxes, tobox, updH_at, Nat.reduceEqDiff, ↓reduceIte, h1, h2]; rfl)) (by simp) ?_
  simp (disch := omega) only [wk, tis, Int.reduceNe, Int.reduceEq, Int.reduceLT, Int.reduceLE, Int.reduceAdd, Int.reduceSub, Int.reduceNeg, Int.reduceMul, Int.reduceToNat, Nat.reduceSub, Nat.reduceMul, Nat.reduceLeDiff, Nat.reduceAdd, Nat.reduceLT, Nat.reduceEqDiff, reduceCtorEq, ↓reduceIte, cpoly_len, h1, h2]

theorem pup_ok (p : List RI) (n : Int) (hp : RP (2 ^ 35) (2 ^ 40) p) : AC Try.prog 36 [cw p, ci n] none [cp (if 0 ≤ n ∧ n ≤ 1000 then pshift n.toNat (pv p) else []), ci (if n < 0 then 3 else if 1000 < n then 13 else 0)] := by
  refine AC.by_walk (rs := [.tmp 4, .tmp 5]) ords Try.func36 (by rfl) (by rfl) (by rfl) (by rfl) (by rfl) ?_
  have hl := hp.1
  have htl := tz_le (pv p)
  rw [pv_len] at htl
  simp (disch := omega) only [wk, tis, Int.reduceNe, Int.reduceEq, Int.reduceLT, Int.reduceLE, Int.reduceAdd, Int.reduceSub, Int.reduceNeg, Int.reduceMul, Int.reduceToNat, Nat.reduceSub, Nat.reduceMul, Nat.reduceLeDiff, Nat.reduceAdd, Nat.reduceLT, Nat.reduceEqDiff, reduceCtorEq, ↓reduceIte, cpoly_len]
  refine call_by ((pbound_ok n)) (by rfl) (by simp) ?_
  simp (disch := omega) only [wk, tis, Int.reduceNe, Int.reduceEq, Int.reduceLT, Int.reduceLE, Int.reduceAdd, Int.reduceSub, Int.reduceNeg, Int.reduceMul, Int.reduceToNat, Nat.reduceSub, Nat.reduceMul, Nat.reduceLeDiff, Nat.reduceAdd, Nat.reduceLT, Nat.reduceEqDiff, reduceCtorEq, ↓reduceIte, cpoly_len]
  by_cases h1 : n < 0
  · have : ¬ (0 ≤ n ∧ n ≤ 1000) := by omega
    simp (disch := omega) only [wk, tis, Int.reduceNe, Int.reduceEq, Int.reduceLT, Int.reduceLE, Int.reduceAdd, Int.reduceSub, Int.reduceNeg, Int.reduceMul, Int.reduceToNat, Nat.reduceSub, Nat.reduceMul, Nat.reduceLeDiff, Nat.reduceAdd, Nat.reduceLT, Nat.reduceEqDiff, reduceCtorEq, ↓reduceIte, cpoly_len, h1, this]
    rfl
  by_cases h2 : 1000 < n
  · have : ¬ (0 ≤ n ∧ n ≤ 1000) := by omega
    simp (disch := omega) only [wk, tis, Int.reduceNe, Int.reduceEq, Int.reduceLT, Int.reduceLE, Int.reduceAdd, Int.reduceSub, Int.reduceNeg, Int.reduceMul, Int.reduceToNat, Nat.reduceSub, Nat.reduceMul, Nat.reduceLeDiff, Nat.reduceAdd, Nat.reduceLT, Nat.reduceEqDiff, reduceCtorEq, ↓reduceIte, cpoly_len, h1, h2, this]
    rfl
  have h3 : 0 ≤ n ∧ n ≤ 1000 := by omega
  obtain ⟨m, rfl⟩ := Int.eq_ofNat_of_zero_le h3.1
  simp (disch := omega) only [wk, tis, Int.reduceNe, Int.reduceEq, Int.reduceLT, Int.reduceLE, Int.reduceAdd, Int.reduceSub, Int.reduceNeg, Int.reduceMul, Int.reduceToNat, Nat.reduceSub, Nat.reduceMul, Nat.reduceLeDiff, Nat.reduceAdd, Nat.reduceLT, Nat.reduceEqDiff, reduceCtorEq, ↓reduceIte, cpoly_len, h1, h2, h3]
  refine call_by ((pnorm_ok p (hp.mono (by omega) (by omega)))) (by first | rfl | (simp only [tocvs, tocv, h1, h2]; rfl) | (simp only [tocvs, tocv, toboxes, tobox, updH_at, Nat.reduceEqDiff, ↓reduceIte, h1, h2]; rfl)) (by simp) ?_
  simp (disch := omega) only [wk, tis, Int.reduceNe, Int.reduceEq, Int.reduceLT, Int.reduceLE, Int.reduceAdd, Int.reduceSub, Int.reduceNeg, Int.reduceMul, Int.reduceToNat, Nat.reduceSub, Nat.reduceMul, Nat.reduceLeDiff, Nat.reduceAdd, Nat.reduceLT, Nat.reduceEqDiff, reduceCtorEq, ↓reduceIte, cpoly_len, h1, h2]
  refine if_by (fun hz => ?_) (fun hz => ?_)
  · simp (disch := omega) only [wk, tis, Int.reduceNe, Int.reduceEq, Int.reduceLT, Int.reduceLE, Int.reduceAdd, Int.reduceSub, Int.reduceNeg, Int.reduceMul, Int.reduceToNat, Nat.reduceSub, Nat.reduceMul, Nat.reduceLeDiff, Nat.reduceAdd, Nat.reduceLT, Nat.reduceEqDiff, reduceCtorEq, ↓reduceIte, cpoly_len, h1, h2]
    have : cpoly (pshift m (pv p)) = [] := by rw [cpoly, trimz_nil (tz_pshift_zero _ _ (by omega))]; rfl
    rw [this]
  · have e : cpoly (pshift m (pv p)) = raws (List.replicate m (false, []) ++ (trimz (pv p)).map canon) := by
      rw [cpoly, trimz_pshift _ _ (by omega), List.map_append, List.map_replicate, canon_zero]
    have hl2 : ((trimz (pv p)).map canon).length = tz (pv p) := by rw [List.length_map, trimz_len]
    have e2 : cp (pshift m (pv p)) = .iv (.sl (raws (List.replicate m (false, []) ++ (trimz (pv p)).map canon))) := by rw [← e]
    rw [e2]
    unfold cpoly
    simp (disch := omega) only [wk, tis, Int.reduceNe, Int.reduceEq, Int.reduceLT, Int.reduceLE, Int.reduceAdd, Int.reduceSub, Int.reduceNeg, Int.reduceMul, Int.reduceToNat, Nat.reduceSub, Nat.reduceMul, Nat.reduceLeDiff, Nat.reduceAdd, Nat.reduceLT, Nat.reduceEqDiff, reduceCtorEq, ↓reduceIte, cpoly_len, h1, h2, hl2]

/-- One coefficient. -/
def pmono (z : Int) (n : Nat) : List Int := pshift n [z]

theorem pmono_ok (c : RI) (n : Int) (hc : Sz (2 ^ 40) c) : AC Try.prog 34 [cr c, ci n] none [cp (if 0 ≤ n ∧ n ≤ 1000 then pmono (iv c) n.toNat else []), ci (if n < 0 then 3 else if 1000 < n then 13 else 0)] := by
  refine AC.by_walk (rs := [.tmp 4, .tmp 5]) ords Try.func34 (by rfl) (by rfl) (by rfl) (by rfl) (by rfl) ?_
  simp (disch := omega) only [wk, tis, Int.reduceNe, Int.reduceEq, Int.reduceLT, Int.reduceLE, Int.reduceAdd, Int.reduceSub, Int.reduceNeg, Int.reduceMul, Int.reduceToNat, Nat.reduceSub, Nat.reduceMul, Nat.reduceLeDiff, Nat.reduceAdd, Nat.reduceLT, Nat.reduceEqDiff, reduceCtorEq, ↓reduceIte, cpoly_len]
  have := pup_ok [c] n ⟨by simp, fun d hd => by simp at hd; subst hd; exact hc⟩
  refine call_by (this) (by rfl) (by simp) ?_
  simp (disch := omega) only [wk, tis, Int.reduceNe, Int.reduceEq, Int.reduceLT, Int.reduceLE, Int.reduceAdd, Int.reduceSub, Int.reduceNeg, Int.reduceMul, Int.reduceToNat, Nat.reduceSub, Nat.reduceMul, Nat.reduceLeDiff, Nat.reduceAdd, Nat.reduceLT, Nat.reduceEqDiff, reduceCtorEq, ↓reduceIte, cpoly_len]
  rfl

theorem smono_ok (c : RI) (n : Int) (hc : Sz (2 ^ 40) c) : AC Try.prog 32 [cr c, ci n] none [cp (if 0 ≤ n ∧ n ≤ 1000 then pmono (iv c) n.toNat else []), ci (if n < 0 then 3 else if 1000 < n then 13 else 0)] := by
  refine AC.by_walk (rs := [.tmp 4, .tmp 5]) ords Try.func32 (by rfl) (by rfl) (by rfl) (by rfl) (by rfl) ?_
  simp (disch := omega) only [wk, tis, Int.reduceNe, Int.reduceEq, Int.reduceLT, Int.reduceLE, Int.reduceAdd, Int.reduceSub, Int.reduceNeg, Int.reduceMul, Int.reduceToNat, Nat.reduceSub, Nat.reduceMul, Nat.reduceLeDiff, Nat.reduceAdd, Nat.reduceLT, Nat.reduceEqDiff, reduceCtorEq, ↓reduceIte, cpoly_len]
  refine call_by ((splain_ok n)) (by rfl) (by simp) ?_
  simp (disch := omega) only [wk, tis, Int.reduceNe, Int.reduceEq, Int.reduceLT, Int.reduceLE, Int.reduceAdd, Int.reduceSub, Int.reduceNeg, Int.reduceMul, Int.reduceToNat, Nat.reduceSub, Nat.reduceMul, Nat.reduceLeDiff, Nat.reduceAdd, Nat.reduceLT, Nat.reduceEqDiff, reduceCtorEq, ↓reduceIte, cpoly_len]
  by_cases h1 : n < 0
  · have : ¬ (0 ≤ n ∧ n ≤ 1000) := by omega
    simp (disch := omega) only [wk, tis, Int.reduceNe, Int.reduceEq, Int.reduceLT, Int.reduceLE, Int.reduceAdd, Int.reduceSub, Int.reduceNeg, Int.reduceMul, Int.reduceToNat, Nat.reduceSub, Nat.reduceMul, Nat.reduceLeDiff, Nat.reduceAdd, Nat.reduceLT, Nat.reduceEqDiff, reduceCtorEq, ↓reduceIte, cpoly_len, h1, this]
    rfl
  by_cases h2 : 1000 < n
  · have : ¬ (0 ≤ n ∧ n ≤ 1000) := by omega
    simp (disch := omega) only [wk, tis, Int.reduceNe, Int.reduceEq, Int.reduceLT, Int.reduceLE, Int.reduceAdd, Int.reduceSub, Int.reduceNeg, Int.reduceMul, Int.reduceToNat, Nat.reduceSub, Nat.reduceMul, Nat.reduceLeDiff, Nat.reduceAdd, Nat.reduceLT, Nat.reduceEqDiff, reduceCtorEq, ↓reduceIte, cpoly_len, h1, h2, this]
    rfl
  have h3 : 0 ≤ n ∧ n ≤ 1000 := by omega
  obtain ⟨m, rfl⟩ := Int.eq_ofNat_of_zero_le h3.1
  have em : (m : Int) + 1 = ((m + 1 : Nat) : Int) := rfl
  have hq : (List.replicate (m + 1) ((false, []) : RI)).length = m + 1 := by simp
  simp (disch := omega) only [wk, tis, Int.reduceNe, Int.reduceEq, Int.reduceLT, Int.reduceLE, Int.reduceAdd, Int.reduceSub, Int.reduceNeg, Int.reduceMul, Int.reduceToNat, Nat.reduceSub, Nat.reduceMul, Nat.reduceLeDiff, Nat.reduceAdd, Nat.reduceLT, Nat.reduceEqDiff, reduceCtorEq, ↓reduceIte, cpoly_len, h1, h2, h3, em]
  have e : (List.replicate (m + 1) ((false, []) : RI)).set m c = List.replicate m (false, []) ++ [c] := by
    rw [List.replicate_succ', List.set_append_right _ _ (by simp)]; simp
  have := snorm_ok (List.replicate m (false, []) ++ [c]) ⟨by simp; omega, fun d hd => by
    rcases List.mem_append.mp hd with hd | hd
    · rw [List.eq_of_mem_replicate hd]; exact ⟨by simp, Lim.nil⟩
    · simp at hd; subst hd; exact hc⟩
  rw [pv_shift, ← e, show pshift m (pv [c]) = pmono (iv c) m from rfl] at this
  refine call_by (this) (by first | rfl | (simp only [tocvs, tocv, h1, h2]; rfl) | (simp only [tocvs, tocv, toboxes, tobox, updH_at, Nat.reduceEqDiff, ↓reduceIte, h1, h2]; rfl)) (by simp) ?_
  simp (disch := omega) only [wk, tis, Int.reduceNe, Int.reduceEq, Int.reduceLT, Int.reduceLE, Int.reduceAdd, Int.reduceSub, Int.reduceNeg, Int.reduceMul, Int.reduceToNat, Nat.reduceSub, Nat.reduceMul, Nat.reduceLeDiff, Nat.reduceAdd, Nat.reduceLT, Nat.reduceEqDiff, reduceCtorEq, ↓reduceIte, cpoly_len, h1, h2]

end Go.Proofs.Ythgecppfgdadiaa

namespace Go.Proofs.Ythgecppfgdadiaa
open Go Go.Proofs Go.AL
set_option linter.unusedSimpArgs false
set_option linter.unusedVariables false

theorem slow_ok (p : List RI) (h : RP (2 ^ 40) (2 ^ 40) p) : AC Try.prog 39 [cw p] none [ci (if lw (pv p) < p.length then lw (pv p) else 0), ci (if lw (pv p) < p.length then 0 else 1)] := by
  refine AC.by_walk (rs := [.tmp 2, .tmp 3]) ords Try.func39 (by rfl) (by rfl) (by rfl) (by rfl) (by rfl) ?_
  have hl := h.1
  simp (disch := omega) only [wk, tis, Int.reduceNe, Int.reduceEq, Int.reduceLT, Int.reduceLE, Int.reduceAdd, Int.reduceSub, Int.reduceNeg, Int.reduceMul, Int.reduceToNat, Nat.reduceSub, Nat.reduceMul, Nat.reduceLeDiff, Nat.reduceAdd, Nat.reduceLT, Nat.reduceEqDiff, reduceCtorEq, ↓reduceIte, cpoly_len, natsr_len, natsr_at, natsr_snoc, natsr_app, natsr_rows, natsr_nil]
  refine aloop_by (fun f H => ∃ (i : Nat), i ≤ p.length ∧ (∀ j, j < i → cf (pv p) j = 0) ∧ f 4 = .iv (.int .i64 i) ∧ f 0 = .iv (.sl (raws p))) (fun f H => (p.length - intAt f 4).toNat) ?_ ?_
  · refine ⟨0, by omega, fun j hj => by omega, ?_⟩
    simp (disch := omega) only [wk, tis, Int.reduceNe, Int.reduceEq, Int.reduceLT, Int.reduceLE, Int.reduceAdd, Int.reduceSub, Int.reduceNeg, Int.reduceMul, Int.reduceToNat, Nat.reduceSub, Nat.reduceMul, Nat.reduceLeDiff, Nat.reduceAdd, Nat.reduceLT, Nat.reduceEqDiff, reduceCtorEq, ↓reduceIte, cpoly_len, natsr_len, natsr_at, natsr_snoc, natsr_app, natsr_rows, natsr_nil]
  rintro f H ⟨i, hi, hz, hF⟩
  rw [intAt_of hF.1]
  simp (disch := omega) only [wk, tis, Int.reduceNe, Int.reduceEq, Int.reduceLT, Int.reduceLE, Int.reduceAdd, Int.reduceSub, Int.reduceNeg, Int.reduceMul, Int.reduceToNat, Nat.reduceSub, Nat.reduceMul, Nat.reduceLeDiff, Nat.reduceAdd, Nat.reduceLT, Nat.reduceEqDiff, reduceCtorEq, ↓reduceIte, cpoly_len, natsr_len, natsr_at, natsr_snoc, natsr_app, natsr_rows, natsr_nil, hF]
  refine if_by (fun hlt => ?_) (fun hlt => ?_)
  · simp (disch := omega) only [wk, tis, Int.reduceNe, Int.reduceEq, Int.reduceLT, Int.reduceLE, Int.reduceAdd, Int.reduceSub, Int.reduceNeg, Int.reduceMul, Int.reduceToNat, Nat.reduceSub, Nat.reduceMul, Nat.reduceLeDiff, Nat.reduceAdd, Nat.reduceLT, Nat.reduceEqDiff, reduceCtorEq, ↓reduceIte, cpoly_len, natsr_len, natsr_at, natsr_snoc, natsr_app, natsr_rows, natsr_nil, hF]
    refine call_by ((rSign_ok (p.getD i (false, [])) (h.get _))) (by first | rfl | (simp only [tocvs, tocv, hF]; rfl) | (simp only [tocvs, tocv, toboxes, tobox, updH_at, Nat.reduceEqDiff, ↓reduceIte, hF]; rfl)) (by simp) ?_
    simp (disch := omega) only [wk, tis, Int.reduceNe, Int.reduceEq, Int.reduceLT, Int.reduceLE, Int.reduceAdd, Int.reduceSub, Int.reduceNeg, Int.reduceMul, Int.reduceToNat, Nat.reduceSub, Nat.reduceMul, Nat.reduceLeDiff, Nat.reduceAdd, Nat.reduceLT, Nat.reduceEqDiff, reduceCtorEq, ↓reduceIte, cpoly_len, natsr_len, natsr_at, natsr_snoc, natsr_app, natsr_rows, natsr_nil, hF]
    rw [← cf_pv]
    refine if_by (fun hs => ?_) (fun hs => ?_)
    · simp (disch := omega) only [wk, tis, Int.reduceNe, Int.reduceEq, Int.reduceLT, Int.reduceLE, Int.reduceAdd, Int.reduceSub, Int.reduceNeg, Int.reduceMul, Int.reduceToNat, Nat.reduceSub, Nat.reduceMul, Nat.reduceLeDiff, Nat.reduceAdd, Nat.reduceLT, Nat.reduceEqDiff, reduceCtorEq, ↓reduceIte, cpoly_len, natsr_len, natsr_at, natsr_snoc, natsr_app, natsr_rows, natsr_nil, hF]
      have := lw_at hz (fun e => hs (by rw [e]; rfl))
      rw [this, if_pos (by omega), if_pos (by omega)]
      exact ⟨rfl, rfl⟩
    · simp (disch := omega) only [wk, tis, Int.reduceNe, Int.reduceEq, Int.reduceLT, Int.reduceLE, Int.reduceAdd, Int.reduceSub, Int.reduceNeg, Int.reduceMul, Int.reduceToNat, Nat.reduceSub, Nat.reduceMul, Nat.reduceLeDiff, Nat.reduceAdd, Nat.reduceLT, Nat.reduceEqDiff, reduceCtorEq, ↓reduceIte, cpoly_len, natsr_len, natsr_at, natsr_snoc, natsr_app, natsr_rows, natsr_nil, hF]
      have hs : cf (pv p) i = 0 := Int.sign_eq_zero_iff_zero.mp (Decidable.not_not.mp hs)
      refine ⟨⟨i + 1, by omega, fun j hj => ?_, by omega⟩, by omega⟩
      by_cases e : j = i
      · rw [e]; exact hs
      · exact hz j (by omega)
  · simp (disch := omega) only [wk, tis, Int.reduceNe, Int.reduceEq, Int.reduceLT, Int.reduceLE, Int.reduceAdd, Int.reduceSub, Int.reduceNeg, Int.reduceMul, Int.reduceToNat, Nat.reduceSub, Nat.reduceMul, Nat.reduceLeDiff, Nat.reduceAdd, Nat.reduceLT, Nat.reduceEqDiff, reduceCtorEq, ↓reduceIte, cpoly_len, natsr_len, natsr_at, natsr_snoc, natsr_app, natsr_rows, natsr_nil, hF]
    have := lw_all (q := pv p) (fun j hj => hz j (by rw [pv_len] at hj; omega))
    rw [this, pv_len, if_neg (by omega), if_neg (by omega)]
    exact ⟨rfl, rfl⟩

theorem plow_ok (p : List RI) (h : RP (2 ^ 40) (2 ^ 40) p) : AC Try.prog 40 [cw p] none [ci (if lw (pv p) < p.length then lw (pv p) else 0), ci (if lw (pv p) < p.length then 0 else 1)] := by
  refine AC.by_walk (rs := [.tmp 2, .tmp 3]) ords Try.func40 (by rfl) (by rfl) (by rfl) (by rfl) (by rfl) ?_
  have hl := h.1
  simp (disch := omega) only [wk, tis, Int.reduceNe, Int.reduceEq, Int.reduceLT, Int.reduceLE, Int.reduceAdd, Int.reduceSub, Int.reduceNeg, Int.reduceMul, Int.reduceToNat, Nat.reduceSub, Nat.reduceMul, Nat.reduceLeDiff, Nat.reduceAdd, Nat.reduceLT, Nat.reduceEqDiff, reduceCtorEq, ↓reduceIte, cpoly_len, natsr_len, natsr_at, natsr_snoc, natsr_app, natsr_rows, natsr_nil]
  refine aloop_by (fun f H => ∃ (i : Nat), i ≤ p.length ∧ (∀ j, j < i → cf (pv p) j = 0) ∧ f 7 = .iv (.int .i64 i) ∧ f 0 = .iv (.sl (raws p)) ∧ f 6 = .iv (.int .i64 p.length)) (fun f H => (p.length - intAt f 7).toNat) ?_ ?_
  · refine ⟨0, by omega, fun j hj => by omega, ?_⟩
    simp (disch := omega) only [wk, tis, Int.reduceNe, Int.reduceEq, Int.reduceLT, Int.reduceLE, Int.reduceAdd, Int.reduceSub, Int.reduceNeg, Int.reduceMul, Int.reduceToNat, Nat.reduceSub, Nat.reduceMul, Nat.reduceLeDiff, Nat.reduceAdd, Nat.reduceLT, Nat.reduceEqDiff, reduceCtorEq, ↓reduceIte, cpoly_len, natsr_len, natsr_at, natsr_snoc, natsr_app, natsr_rows, natsr_nil]
  rintro f H ⟨i, hi, hz, hF⟩
  rw [intAt_of hF.1]
  simp (disch := omega) only [wk, tis, Int.reduceNe, Int.reduceEq, Int.reduceLT, Int.reduceLE, Int.reduceAdd, Int.reduceSub, Int.reduceNeg, Int.reduceMul, Int.reduceToNat, Nat.reduceSub, Nat.reduceMul, Nat.reduceLeDiff, Nat.reduceAdd, Nat.reduceLT, Nat.reduceEqDiff, reduceCtorEq, ↓reduceIte, cpoly_len, natsr_len, natsr_at, natsr_snoc, natsr_app, natsr_rows, natsr_nil, hF]
  refine if_by (fun hlt => ?_) (fun hlt => ?_)
  · simp (disch := omega) only [wk, tis, Int.reduceNe, Int.reduceEq, Int.reduceLT, Int.reduceLE, Int.reduceAdd, Int.reduceSub, Int.reduceNeg, Int.reduceMul, Int.reduceToNat, Nat.reduceSub, Nat.reduceMul, Nat.reduceLeDiff, Nat.reduceAdd, Nat.reduceLT, Nat.reduceEqDiff, reduceCtorEq, ↓reduceIte, cpoly_len, natsr_len, natsr_at, natsr_snoc, natsr_app, natsr_rows, natsr_nil, hF]
    refine call_by ((zsign_ok (p.getD i (false, [])) (h.get _))) (by first | rfl | (simp only [tocvs, tocv, hF]; rfl) | (simp only [tocvs, tocv, toboxes, tobox, updH_at, Nat.reduceEqDiff, ↓reduceIte, hF]; rfl)) (by simp) ?_
    simp (disch := omega) only [wk, tis, Int.reduceNe, Int.reduceEq, Int.reduceLT, Int.reduceLE, Int.reduceAdd, Int.reduceSub, Int.reduceNeg, Int.reduceMul, Int.reduceToNat, Nat.reduceSub, Nat.reduceMul, Nat.reduceLeDiff, Nat.reduceAdd, Nat.reduceLT, Nat.reduceEqDiff, reduceCtorEq, ↓reduceIte, cpoly_len, natsr_len, natsr_at, natsr_snoc, natsr_app, natsr_rows, natsr_nil, hF]
    rw [← cf_pv]
    refine if_by (fun hs => ?_) (fun hs => ?_)
    · simp (disch := omega) only [wk, tis, Int.reduceNe, Int.reduceEq, Int.reduceLT, Int.reduceLE, Int.reduceAdd, Int.reduceSub, Int.reduceNeg, Int.reduceMul, Int.reduceToNat, Nat.reduceSub, Nat.reduceMul, Nat.reduceLeDiff, Nat.reduceAdd, Nat.reduceLT, Nat.reduceEqDiff, reduceCtorEq, ↓reduceIte, cpoly_len, natsr_len, natsr_at, natsr_snoc, natsr_app, natsr_rows, natsr_nil, hF]
      have := lw_at hz (fun e => hs (by rw [e]; rfl))
      rw [this, if_pos (by omega), if_pos (by omega)]
      exact ⟨rfl, rfl⟩
    · simp (disch := omega) only [wk, tis, Int.reduceNe, Int.reduceEq, Int.reduceLT, Int.reduceLE, Int.reduceAdd, Int.reduceSub, Int.reduceNeg, Int.reduceMul, Int.reduceToNat, Nat.reduceSub, Nat.reduceMul, Nat.reduceLeDiff, Nat.reduceAdd, Nat.reduceLT, Nat.reduceEqDiff, reduceCtorEq, ↓reduceIte, cpoly_len, natsr_len, natsr_at, natsr_snoc, natsr_app, natsr_rows, natsr_nil, hF]
      have hs : cf (pv p) i = 0 := Int.sign_eq_zero_iff_zero.mp (Decidable.not_not.mp hs)
      refine ⟨⟨i + 1, by omega, fun j hj => ?_, by omega⟩, by omega⟩
      by_cases e : j = i
      · rw [e]; exact hs
      · exact hz j (by omega)
  · simp (disch := omega) only [wk, tis, Int.reduceNe, Int.reduceEq, Int.reduceLT, Int.reduceLE, Int.reduceAdd, Int.reduceSub, Int.reduceNeg, Int.reduceMul, Int.reduceToNat, Nat.reduceSub, Nat.reduceMul, Nat.reduceLeDiff, Nat.reduceAdd, Nat.reduceLT, Nat.reduceEqDiff, reduceCtorEq, ↓reduceIte, cpoly_len, natsr_len, natsr_at, natsr_snoc, natsr_app, natsr_rows, natsr_nil, hF]
    have := lw_all (q := pv p) (fun j hj => hz j (by rw [pv_len] at hj; omega))
    rw [this, pv_len, if_neg (by omega), if_neg (by omega)]
    exact ⟨rfl, rfl⟩

theorem sdeg_ok (p : List RI) (h : RP (2 ^ 40) (2 ^ 40) p) : AC Try.prog 41 [cw p] none [ci ((tz (pv p) : Int) - 1)] := by
  refine AC.by_walk (rs := [.tmp 2]) ords Try.func41 (by rfl) (by rfl) (by rfl) (by rfl) (by rfl) ?_
  have hl := h.1
  simp (disch := omega) only [wk, tis, Int.reduceNe, Int.reduceEq, Int.reduceLT, Int.reduceLE, Int.reduceAdd, Int.reduceSub, Int.reduceNeg, Int.reduceMul, Int.reduceToNat, Nat.reduceSub, Nat.reduceMul, Nat.reduceLeDiff, Nat.reduceAdd, Nat.reduceLT, Nat.reduceEqDiff, reduceCtorEq, ↓reduceIte, cpoly_len, natsr_len, natsr_at, natsr_snoc, natsr_app, natsr_rows, natsr_nil]
  refine aloop_by (fun f H => ∃ (k : Nat), k ≤ p.length ∧ tz ((pv p).take k) = tz (pv p) ∧ f 3 = .iv (.int .i64 ((k : Int) - 1)) ∧ f 0 = .iv (.sl (raws p))) (fun f H => (intAt f 3 + 1).toNat) ?_ ?_
  · refine ⟨p.length, by omega, by rw [← pv_len p, List.take_length], ?_⟩
    simp (disch := omega) only [wk, tis, Int.reduceNe, Int.reduceEq, Int.reduceLT, Int.reduceLE, Int.reduceAdd, Int.reduceSub, Int.reduceNeg, Int.reduceMul, Int.reduceToNat, Nat.reduceSub, Nat.reduceMul, Nat.reduceLeDiff, Nat.reduceAdd, Nat.reduceLT, Nat.reduceEqDiff, reduceCtorEq, ↓reduceIte, cpoly_len, natsr_len, natsr_at, natsr_snoc, natsr_app, natsr_rows, natsr_nil]
  rintro f H ⟨k, hk, ht, hF⟩
  rw [intAt_of hF.1]
  simp (disch := omega) only [wk, tis, Int.reduceNe, Int.reduceEq, Int.reduceLT, Int.reduceLE, Int.reduceAdd, Int.reduceSub, Int.reduceNeg, Int.reduceMul, Int.reduceToNat, Nat.reduceSub, Nat.reduceMul, Nat.reduceLeDiff, Nat.reduceAdd, Nat.reduceLT, Nat.reduceEqDiff, reduceCtorEq, ↓reduceIte, cpoly_len, natsr_len, natsr_at, natsr_snoc, natsr_app, natsr_rows, natsr_nil, hF]
  by_cases h0 : 0 ≤ (k : Int) - 1
  · obtain ⟨j, rfl⟩ : ∃ j, k = j + 1 := ⟨k - 1, by omega⟩
    have ej : ((j + 1 : Nat) : Int) - 1 = (j : Int) := by omega
    rw [ej] at hF
    simp (disch := omega) only [wk, tis, Int.reduceNe, Int.reduceEq, Int.reduceLT, Int.reduceLE, Int.reduceAdd, Int.reduceSub, Int.reduceNeg, Int.reduceMul, Int.reduceToNat, Nat.reduceSub, Nat.reduceMul, Nat.reduceLeDiff, Nat.reduceAdd, Nat.reduceLT, Nat.reduceEqDiff, reduceCtorEq, ↓reduceIte, cpoly_len, natsr_len, natsr_at, natsr_snoc, natsr_app, natsr_rows, natsr_nil, hF, h0, ej]
    refine call_by ((rSign_ok (p.getD j (false, [])) (h.get _))) (by first | rfl | (simp only [tocvs, tocv, hF]; rfl) | (simp only [tocvs, tocv, toboxes, tobox, updH_at, Nat.reduceEqDiff, ↓reduceIte, hF]; rfl)) (by simp) ?_
    simp (disch := omega) only [wk, tis, Int.reduceNe, Int.reduceEq, Int.reduceLT, Int.reduceLE, Int.reduceAdd, Int.reduceSub, Int.reduceNeg, Int.reduceMul, Int.reduceToNat, Nat.reduceSub, Nat.reduceMul, Nat.reduceLeDiff, Nat.reduceAdd, Nat.reduceLT, Nat.reduceEqDiff, reduceCtorEq, ↓reduceIte, cpoly_len, natsr_len, natsr_at, natsr_snoc, natsr_app, natsr_rows, natsr_nil, hF]
    rw [← cf_pv]
    refine if_by (fun hs => ?_) (fun hs => ?_)
    · simp (disch := omega) only [wk, tis, Int.reduceNe, Int.reduceEq, Int.reduceLT, Int.reduceLE, Int.reduceAdd, Int.reduceSub, Int.reduceNeg, Int.reduceMul, Int.reduceToNat, Nat.reduceSub, Nat.reduceMul, Nat.reduceLeDiff, Nat.reduceAdd, Nat.reduceLT, Nat.reduceEqDiff, reduceCtorEq, ↓reduceIte, cpoly_len, natsr_len, natsr_at, natsr_snoc, natsr_app, natsr_rows, natsr_nil, hF]
      exact ⟨⟨j, by omega, by rw [← tz_take_zero (by rw [pv_len]; omega) (Int.sign_eq_zero_iff_zero.mp hs), ht], rfl⟩, by omega⟩
    · simp (disch := omega) only [wk, tis, Int.reduceNe, Int.reduceEq, Int.reduceLT, Int.reduceLE, Int.reduceAdd, Int.reduceSub, Int.reduceNeg, Int.reduceMul, Int.reduceToNat, Nat.reduceSub, Nat.reduceMul, Nat.reduceLeDiff, Nat.reduceAdd, Nat.reduceLT, Nat.reduceEqDiff, reduceCtorEq, ↓reduceIte, cpoly_len, natsr_len, natsr_at, natsr_snoc, natsr_app, natsr_rows, natsr_nil, hF]
      rw [← ht, tz_full (by rw [pv_len]; omega) (fun e => hs (by rw [e]; rfl))]
      omega
  · simp (disch := omega) only [wk, tis, Int.reduceNe, Int.reduceEq, Int.reduceLT, Int.reduceLE, Int.reduceAdd, Int.reduceSub, Int.reduceNeg, Int.reduceMul, Int.reduceToNat, Nat.reduceSub, Nat.reduceMul, Nat.reduceLeDiff, Nat.reduceAdd, Nat.reduceLT, Nat.reduceEqDiff, reduceCtorEq, ↓reduceIte, cpoly_len, natsr_len, natsr_at, natsr_snoc, natsr_app, natsr_rows, natsr_nil, hF, h0]
    have : k = 0 := by omega
    subst this
    rw [← ht]; rfl

theorem pcoef_ok (p : List RI) (i : Int) (h : RP (2 ^ 40) (2 ^ 40) p) : AC Try.prog 43 [cw p, ci i] none [cz (if i < 0 then 0 else cf (pv p) i.toNat)] := by
  refine AC.by_walk (rs := [.cell 4 40]) ords Try.func43 (by rfl) (by rfl) (by rfl) (by rfl) (by rfl) ?_
  have hl := h.1
  simp (disch := omega) only [wk, tis, Int.reduceNe, Int.reduceEq, Int.reduceLT, Int.reduceLE, Int.reduceAdd, Int.reduceSub, Int.reduceNeg, Int.reduceMul, Int.reduceToNat, Nat.reduceSub, Nat.reduceMul, Nat.reduceLeDiff, Nat.reduceAdd, Nat.reduceLT, Nat.reduceEqDiff, reduceCtorEq, ↓reduceIte, cpoly_len, natsr_len, natsr_at, natsr_snoc, natsr_app, natsr_rows, natsr_nil]
  have key : AC Try.prog 95 [cw p, ci i] none [cr (if i < 0 then (false, []) else p.getD i.toNat (false, []))] := by
    refine AC.by_walk (rs := [.cell 4 40]) ords Try.func95 (by rfl) (by rfl) (by rfl) (by rfl) (by rfl) ?_
    by_cases h0 : i < 0
    · simp (disch := omega) only [wk, tis, Int.reduceNe, Int.reduceEq, Int.reduceLT, Int.reduceLE, Int.reduceAdd, Int.reduceSub, Int.reduceNeg, Int.reduceMul, Int.reduceToNat, Nat.reduceSub, Nat.reduceMul, Nat.reduceLeDiff, Nat.reduceAdd, Nat.reduceLT, Nat.reduceEqDiff, reduceCtorEq, ↓reduceIte, cpoly_len, natsr_len, natsr_at, natsr_snoc, natsr_app, natsr_rows, natsr_nil, h0]
    by_cases h1 : (p.length : Int) ≤ i
    · simp (disch := omega) only [wk, tis, Int.reduceNe, Int.reduceEq, Int.reduceLT, Int.reduceLE, Int.reduceAdd, Int.reduceSub, Int.reduceNeg, Int.reduceMul, Int.reduceToNat, Nat.reduceSub, Nat.reduceMul, Nat.reduceLeDiff, Nat.reduceAdd, Nat.reduceLT, Nat.reduceEqDiff, reduceCtorEq, ↓reduceIte, cpoly_len, natsr_len, natsr_at, natsr_snoc, natsr_app, natsr_rows, natsr_nil, h0, h1]
      have e : p.getD i.toNat (false, []) = (false, []) := by rw [List.getD_eq_getElem?_getD, List.getElem?_eq_none (by omega)]; rfl
      rw [e]
    · simp (disch := omega) only [wk, tis, Int.reduceNe, Int.reduceEq, Int.reduceLT, Int.reduceLE, Int.reduceAdd, Int.reduceSub, Int.reduceNeg, Int.reduceMul, Int.reduceToNat, Nat.reduceSub, Nat.reduceMul, Nat.reduceLeDiff, Nat.reduceAdd, Nat.reduceLT, Nat.reduceEqDiff, reduceCtorEq, ↓reduceIte, cpoly_len, natsr_len, natsr_at, natsr_snoc, natsr_app, natsr_rows, natsr_nil, h0, h1]
  refine call_by (key) (by rfl) (by simp) ?_
  simp (disch := omega) only [wk, tis, Int.reduceNe, Int.reduceEq, Int.reduceLT, Int.reduceLE, Int.reduceAdd, Int.reduceSub, Int.reduceNeg, Int.reduceMul, Int.reduceToNat, Nat.reduceSub, Nat.reduceMul, Nat.reduceLeDiff, Nat.reduceAdd, Nat.reduceLT, Nat.reduceEqDiff, reduceCtorEq, ↓reduceIte, cpoly_len, natsr_len, natsr_at, natsr_snoc, natsr_app, natsr_rows, natsr_nil]
  have hs : Sz (2 ^ 40) (if i < 0 then (false, []) else p.getD i.toNat (false, [])) := by
    split
    · exact ⟨by simp, Lim.nil⟩
    · exact h.get _
  have e : iv (if i < 0 then (false, []) else p.getD i.toNat (false, [])) = if i < 0 then 0 else cf (pv p) i.toNat := by
    split
    · exact iv_zero
    · rw [← cf_pv]
  refine call_by ((znorm_ok _ hs)) (by rfl) (by simp) ?_
  simp (disch := omega) only [wk, tis, Int.reduceNe, Int.reduceEq, Int.reduceLT, Int.reduceLE, Int.reduceAdd, Int.reduceSub, Int.reduceNeg, Int.reduceMul, Int.reduceToNat, Nat.reduceSub, Nat.reduceMul, Nat.reduceLeDiff, Nat.reduceAdd, Nat.reduceLT, Nat.reduceEqDiff, reduceCtorEq, ↓reduceIte, cpoly_len, natsr_len, natsr_at, natsr_snoc, natsr_app, natsr_rows, natsr_nil]
  rw [e]

theorem plead_ok (p : List RI) (h : RP (2 ^ 40) (2 ^ 40) p) : AC Try.prog 45 [cw p] none [cz (cf (pv p) (tz (pv p) - 1))] := by
  refine AC.by_walk (rs := [.cell 2 40]) ords Try.func45 (by rfl) (by rfl) (by rfl) (by rfl) (by rfl) ?_
  have hl := h.1
  simp (disch := omega) only [wk, tis, Int.reduceNe, Int.reduceEq, Int.reduceLT, Int.reduceLE, Int.reduceAdd, Int.reduceSub, Int.reduceNeg, Int.reduceMul, Int.reduceToNat, Nat.reduceSub, Nat.reduceMul, Nat.reduceLeDiff, Nat.reduceAdd, Nat.reduceLT, Nat.reduceEqDiff, reduceCtorEq, ↓reduceIte, cpoly_len, natsr_len, natsr_at, natsr_snoc, natsr_app, natsr_rows, natsr_nil]
  refine call_by ((pdeg_ok p h)) (by rfl) (by simp) ?_
  simp (disch := omega) only [wk, tis, Int.reduceNe, Int.reduceEq, Int.reduceLT, Int.reduceLE, Int.reduceAdd, Int.reduceSub, Int.reduceNeg, Int.reduceMul, Int.reduceToNat, Nat.reduceSub, Nat.reduceMul, Nat.reduceLeDiff, Nat.reduceAdd, Nat.reduceLT, Nat.reduceEqDiff, reduceCtorEq, ↓reduceIte, cpoly_len, natsr_len, natsr_at, natsr_snoc, natsr_app, natsr_rows, natsr_nil]
  have := pcoef_ok p ((tz (pv p) : Int) - 1) h
  have e : (if (tz (pv p) : Int) - 1 < 0 then 0 else cf (pv p) ((tz (pv p) : Int) - 1).toNat) = cf (pv p) (tz (pv p) - 1) := by
    by_cases h0 : tz (pv p) = 0
    · rw [if_pos (by omega), cf_ge_tz _ (by omega)]
    · rw [if_neg (by omega)]; congr 1; omega
  rw [e] at this
  refine call_by (this) (by rfl) (by simp) ?_
  simp (disch := omega) only [wk, tis, Int.reduceNe, Int.reduceEq, Int.reduceLT, Int.reduceLE, Int.reduceAdd, Int.reduceSub, Int.reduceNeg, Int.reduceMul, Int.reduceToNat, Nat.reduceSub, Nat.reduceMul, Nat.reduceLeDiff, Nat.reduceAdd, Nat.reduceLT, Nat.reduceEqDiff, reduceCtorEq, ↓reduceIte, cpoly_len, natsr_len, natsr_at, natsr_snoc, natsr_app, natsr_rows, natsr_nil]

theorem slead_ok (p : List RI) (h : RP (2 ^ 40) (2 ^ 40) p) : AC Try.prog 46 [cw p] none [cz (cf (pv p) (tz (pv p) - 1))] := by
  refine AC.by_walk (rs := [.cell 2 40]) ords Try.func46 (by rfl) (by rfl) (by rfl) (by rfl) (by rfl) ?_
  have hl := h.1
  simp (disch := omega) only [wk, tis, Int.reduceNe, Int.reduceEq, Int.reduceLT, Int.reduceLE, Int.reduceAdd, Int.reduceSub, Int.reduceNeg, Int.reduceMul, Int.reduceToNat, Nat.reduceSub, Nat.reduceMul, Nat.reduceLeDiff, Nat.reduceAdd, Nat.reduceLT, Nat.reduceEqDiff, reduceCtorEq, ↓reduceIte, cpoly_len, natsr_len, natsr_at, natsr_snoc, natsr_app, natsr_rows, natsr_nil]
  refine call_by ((sdeg_ok p h)) (by rfl) (by simp) ?_
  simp (disch := omega) only [wk, tis, Int.reduceNe, Int.reduceEq, Int.reduceLT, Int.reduceLE, Int.reduceAdd, Int.reduceSub, Int.reduceNeg, Int.reduceMul, Int.reduceToNat, Nat.reduceSub, Nat.reduceMul, Nat.reduceLeDiff, Nat.reduceAdd, Nat.reduceLT, Nat.reduceEqDiff, reduceCtorEq, ↓reduceIte, cpoly_len, natsr_len, natsr_at, natsr_snoc, natsr_app, natsr_rows, natsr_nil]
  have := scoef_ok p ((tz (pv p) : Int) - 1) h
  have e : (if (tz (pv p) : Int) - 1 < 0 then 0 else cf (pv p) ((tz (pv p) : Int) - 1).toNat) = cf (pv p) (tz (pv p) - 1) := by
    by_cases h0 : tz (pv p) = 0
    · rw [if_pos (by omega), cf_ge_tz _ (by omega)]
    · rw [if_neg (by omega)]; congr 1; omega
  rw [e] at this
  refine call_by (this) (by rfl) (by simp) ?_
  simp (disch := omega) only [wk, tis, Int.reduceNe, Int.reduceEq, Int.reduceLT, Int.reduceLE, Int.reduceAdd, Int.reduceSub, Int.reduceNeg, Int.reduceMul, Int.reduceToNat, Nat.reduceSub, Nat.reduceMul, Nat.reduceLeDiff, Nat.reduceAdd, Nat.reduceLT, Nat.reduceEqDiff, reduceCtorEq, ↓reduceIte, cpoly_len, natsr_len, natsr_at, natsr_snoc, natsr_app, natsr_rows, natsr_nil]

end Go.Proofs.Ythgecppfgdadiaa
