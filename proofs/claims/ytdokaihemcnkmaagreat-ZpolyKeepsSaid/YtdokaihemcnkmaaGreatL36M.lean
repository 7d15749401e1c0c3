/-
 Contracts of the functions that the law reaches.
-/
import Derived.Test.YtdokaihemcnkmaaGreatL31M
import Derived.Test.YtdokaihemcnkmaaGreatAbsRM
import Derived.Test.YtdokaihemcnkmaaGreatAbsQM
set_option maxHeartbeats 2000000
namespace Go.Proofs.YtdokaihemcnkmaaGreat
open Go Go.Proofs Go.AL Go.RowKit
set_option linter.unusedSimpArgs false
set_option linter.unusedVariables false
theorem grow_res (w : World) (D : Nat → Prop) (n k : Nat) (hk : k < 2 ^ 63) (hnk : n ≤ k) (z : Array Value) (hz : z.size = k) (hD : ∀ b, D b → b < w.heap.size) :
  Below w.heap.size w (w.alloc (Obj.cells z 144)).drew ∧ ∃ us, Value.slice (some { block := w.heap.size, off := 0 }) 0 k = packV us ∧ ResOk w (w.alloc (Obj.cells z 144)).drew D (some (0, 144, 1, [])) [.iv (.sl [])] us := by
 refine ⟨?_, [_], rfl, rfl, ?_, ?_⟩
 ·exact ((Below.refl _ _).alloc (Nat.le_refl _) _).drew
 ·intro j c v hj hc hv
  cases j with
  | zero => exact (hj 0 144 1 [] rfl rfl).elim
  | succ j => simp at hc
 ·intro i e sz rows h
  injection h with h; injection h with h1 h; injection h with h2 h; injection h with h3 h4; subst h1 h2 h3 h4
  refine ⟨_, rfl, by decide, by simp, .inr ⟨w.heap.size, k, z, rfl, .inl (Nat.le_refl _), ?_, by simp, ?_, by omega, by simp [Reps]⟩⟩
  ·show (w.alloc _).heap[w.heap.size]? = some _
   simp only [World.alloc, Array.getElem?_push_size]
  ·simp only [maxLen]; omega
theorem grow_ok (n : Nat) (hn : n ≤ 8796093022208) : AC Tryz.prog 320 [.val (.slice none 0 0), .iv (.int .i64 n)] (some (0, 144, 1, [])) [.iv (.sl [])] := by
 intro w D vs hD hvs
 match vs, hvs with
 | [v1, v2], hvs =>
 obtain ⟨h1, h2, _⟩ := hvs
 simp only [CVRep] at h1 h2
 subst h1
 obtain rfl : v2 = .int .i64 n := by cases h2; rfl
 refine .inl ⟨_, Tryz.func320, by rfl, by rfl, ?_⟩
 have hb : Tryz.t144.bytes = 8 := by kernel_rfl
 have h4 : ¬ 281474976710656 < (n : Int) * (8 : Nat) := by omega
 have h6 : ¬ 281474976710656 < n * 8 := by omega
 have h8 : ¬ (9223372036854775807 < (n : Int)) := by omega
 have h1 : ¬ (n : Int) < 0 := by omega
 have h3 : (0 : Int) - 0 = 0 := rfl
 rcases Nat.eq_zero_or_pos n with h0 | h0
 ·subst h0
  go_enter Tryz.func320, Tryz.ntmps320
  go_wp2
  refine bodyPost_ret (results_tmp rfl _ _ _) rfl ?_
  refine ⟨_, rfl, Below.refl _ _, [_], rfl, rfl, ?_, ?_⟩
  ·intro j c v hj hc hv
   cases j with
   | zero => exact (hj 0 _ 1 [] rfl rfl).elim
   | succ j => simp at hc
  ·intro i e sz rows h
   injection h with h; injection h with h1 h; injection h with h2 h; injection h with h3 h4; subst h1 h2 h3 h4
   exact ⟨_, rfl, Nat.zero_lt_one, by simp, .inl ⟨rfl, rfl⟩⟩
 ·have h2 : (0 : Int) < n := by omega
  have h5 : Builtin.nextslicecap n 0 = n := nextslicecap_zero h0
  have h7 : n ≠ 0 := by omega
  go_enter Tryz.func320, Tryz.ntmps320
  go_wp2
  refine bodyPost_ret (results_tmp rfl _ _ _) rfl ?_
  refine ⟨_, rfl, grow_res w D n _ ?_ ?_ _ ?_ hD⟩
  ·have := grownCap_le_maxLen w n 0 144 (by simp only [maxLen]; omega)
   simp only [maxLen, grownCap] at this
   omega
  ·exact grownCap_ge w n 0 144
  ·have := grownCap_ge w n 0 144
   simp only [grownCap] at this
   simp only [Array.size_append, size_zeroCells, List.size_toArray, List.length_cons, List.length_nil, Nat.zero_add, Nat.mul_one, Nat.one_mul]
   omega
def tot (l : List (List Nat)) : Nat := (l.map List.length).sum
theorem snoc_take {l : List (List Nat)} {i : Nat} (h : i < l.length) : l.take (i + 1) = l.take i ++ [l.getD i []] := by
 rw [List.take_add_one]; congr 1; simp [List.getD, h]
theorem tot_take {l : List (List Nat)} {i : Nat} (h : i < l.length) : tot (l.take (i + 1)) = tot (l.take i) + (l.getD i []).length := by
 rw [snoc_take h]
 simp only [tot, List.map_append, List.map_cons, List.map_nil, List.sum_append, List.sum_cons, List.sum_nil, Nat.add_zero]
theorem flat_take {l : List (List Nat)} {i : Nat} (h : i < l.length) : (l.take (i + 1)).flatten = (l.take i).flatten ++ l.getD i [] := by
 rw [snoc_take h]
 simp only [List.flatten_append, List.flatten_cons, List.flatten_nil, List.append_nil]
theorem tot_flat (l : List (List Nat)) : l.flatten.length = tot l := by simp [tot, List.length_flatten]
theorem tot_mono (l : List (List Nat)) (i : Nat) : tot (l.take i) ≤ tot l := by
 have h : tot l = tot (l.take i) + tot (l.drop i) := by
  have := congrArg tot (List.take_append_drop i l)
  rw [← this]; simp only [tot, List.map_append, List.sum_append]
 omega
theorem concat_ok (l : List (List Nat)) (hl : l.length ≤ 1048576) (ht : tot l ≤ 4398046511104) : AC Tryz.prog 312 [.iv (.sl (natsr l))] (some (0, 144, 1, lims l.flatten)) [cl l.flatten] := by
 refine AC.by_walk (rs := [.tmp 2]) ords Tryz.func312 (by rfl) (by rfl) (by rfl) (by rfl) (by rfl) ?_
 simp (disch := omega) only [wt, seval, reduceCtorEq, Nat.reduceEqDiff, natsr_len, natsr_at]
 refine aloop_by (fun f H => ∃ (i : Nat), i ≤ l.length ∧ f 11 = .iv (.int .i64 i) ∧ f 3 = .iv (.int .i64 (tot (l.take i))) ∧ f 0 = .iv (.sl (natsr l)) ∧ f 9 = .iv (.sl (natsr l)) ∧ f 10 = .iv (.int .i64 l.length)) (fun f H => (l.length - intAt f 11).toNat) ?_ ?_
 ·refine ⟨0, by omega, ?_⟩
  simp (disch := omega) only [wt, seval, reduceCtorEq, Nat.reduceEqDiff, natsr_len, natsr_at, List.take_zero, tot, List.map_nil, List.sum_nil]
 rintro f H ⟨i, hi, hF⟩
 rw [intAt_of hF.1]
 simp (disch := omega) only [wt, seval, reduceCtorEq, Nat.reduceEqDiff, natsr_len, natsr_at, hF]
 refine if_by (fun hlt => ?_) (fun hlt => ?_)
 ·have h1 := tot_take (l := l) (i := i) (by omega)
  have h2 := tot_mono l (i + 1)
  have h3 : ¬ (((tot (l.take i) : Nat) : Int) + (((l.getD i []).length : Nat) : Int) < 0) := by omega
  simp (disch := omega) only [wt, seval, reduceCtorEq, Nat.reduceEqDiff, natsr_len, natsr_at, hF, h3]
  exact ⟨⟨i + 1, by omega, by omega, by omega⟩, by omega⟩
 ·obtain rfl : i = l.length := by omega
  rw [List.take_length] at hF
  simp (disch := omega) only [wt, seval, reduceCtorEq, Nat.reduceEqDiff, natsr_len, natsr_at, hF]
  refine call_nil (grow_ok (tot l) (by omega)) (by first | rfl | (simp only [tocvsN, tocvN, tocvs, tocv, hF]; rfl)) (by simp) ?_
  simp (disch := omega) only [wt, seval, reduceCtorEq, Nat.reduceEqDiff, natsr_len, natsr_at, hF]
  have hrl := natsr_len l
  refine aloop_by (fun f H => ∃ (i st : Nat), i ≤ l.length ∧ f 27 = .iv (.int .i64 i) ∧ f 6 = .hs 24 st ∧ f 25 = .iv (.sl (natsr l)) ∧ f 26 = .iv (.int .i64 l.length) ∧ H 24 = .blk false st 144 1 (lims (l.take i).flatten)) (fun f H => (l.length - intAt f 27).toNat) ?_ ?_
  ·refine ⟨0, (H 24).stamp + 1, by omega, ?_⟩
   simp (disch := omega) only [wt, seval, reduceCtorEq, Nat.reduceEqDiff, natsr_len, natsr_at, hF, List.take_zero, List.flatten_nil, lims_nil]
  rintro f H ⟨i, st, hi, hF⟩
  rw [intAt_of hF.1]
  simp (disch := omega) only [wt, seval, reduceCtorEq, Nat.reduceEqDiff, natsr_len, natsr_at, hF]
  refine if_by (fun hlt => ?_) (fun hlt => ?_)
  ·have h1 := flat_take (l := l) (i := i) (by omega)
   have h2 := tot_flat (l.take i)
   have h3 := tot_take (l := l) (i := i) (by omega)
   have h4 := tot_mono l (i + 1)
   have h5 : ((l.take i).flatten.length + (l.getD i []).length) * 8 ≤ 140737488355328 := by omega
   simp (disch := omega) only [wt, seval, reduceCtorEq, Nat.reduceEqDiff, natsr_len, natsr_at, hF]
   exact ⟨⟨i + 1, st + 1, by omega, by omega, rfl, by rw [h1]⟩, by omega⟩
  ·obtain rfl : i = l.length := by omega
   rw [List.take_length] at hF
   simp (disch := omega) only [wt, seval, reduceCtorEq, Nat.reduceEqDiff, natsr_len, natsr_at, hF]
end Go.Proofs.YtdokaihemcnkmaaGreat

namespace Go.Proofs.YtdokaihemcnkmaaGreat
open Go Go.Proofs Go.AL
set_option linter.unusedSimpArgs false
set_option linter.unusedVariables false
theorem knuth_est {b D D3 V V2 X g : Nat} (hX : 0 < X) (h1 : D3 * X ≤ D) (h2 : D < (D3 + 1) * X) (h3 : V2 * X ≤ V) (h4 : V < (V2 + 1) * X) (h5 : D < V * b) (h6 : b ≤ V2) (hb : 0 < b)
  (hg : g = min (D3 / V2) (b - 1)) : D / V ≤ g ∧ g ≤ D / V + 1 := by
 have hV2 : 0 < V2 := by omega
 have hV : 0 < V := Nat.lt_of_lt_of_le (Nat.mul_pos hV2 hX) h3
 constructor
 ·rw [hg, Nat.le_min]
  have e1 := Nat.div_mul_le_self D V
  constructor
  ·rw [Nat.le_div_iff_mul_le hV2]
   have e2 : D / V * V2 * X < (D3 + 1) * X := by
    rw [Nat.mul_assoc]
    exact Nat.lt_of_le_of_lt (Nat.le_trans (Nat.mul_le_mul_left _ h3) e1) h2
   have := Nat.lt_of_mul_lt_mul_right e2
   omega
  ·have : D / V < b := by rw [Nat.div_lt_iff_lt_mul hV, Nat.mul_comm]; exact h5
   omega
 ·have e2 : D < (D / V + 1) * V := by rw [Nat.mul_comm]; exact Nat.lt_mul_div_succ D hV
  generalize D / V = q at *
  rcases Nat.lt_or_ge (q + 1) g with h | h
  ·exfalso
   have hgb : g ≤ b - 1 := by rw [hg]; exact Nat.min_le_right _ _
   have hgd : g ≤ D3 / V2 := by rw [hg]; exact Nat.min_le_left _ _
   have e1 : g * V2 ≤ D3 := (Nat.le_div_iff_mul_le hV2).mp hgd
   have e3 : (q + 1) * V ≤ (g - 1) * V := Nat.mul_le_mul_right _ (by omega)
   have e4 : (g - 1) * V < (g - 1) * ((V2 + 1) * X) := Nat.mul_lt_mul_of_pos_left h4 (by omega)
   have e5 : g * V2 * X ≤ D := Nat.le_trans (Nat.mul_le_mul_right _ e1) h1
   have e6 : g * V2 * X < (g - 1) * (V2 + 1) * X := by rw [Nat.mul_assoc (g - 1)]; omega
   have e7 := Nat.lt_of_mul_lt_mul_right e6
   obtain ⟨k, rfl⟩ : ∃ k, g = k + 1 := ⟨g - 1, by omega⟩
   rw [Nat.add_sub_cancel, Nat.succ_mul, Nat.mul_succ] at e7
   omega
  ·exact h
theorem knuth_sub {b N D V lo t g c r : Nat} (hN : 0 < N) (hlo : lo < N) (hD : D = lo + N * t) (hV : 0 < V) (hVN : V ≤ N) (h1 : D / V ≤ g) (h2 : g ≤ D / V + 1)
  (hr : r + V * g = lo + N * c) (hrN : r < N) :
  (c ≤ t → g = D / V ∧ r + N * (t - c) = D % V) ∧ (t < c → g = D / V + 1 ∧ c ≤ t + 1 + 0 * b ∧ r + V = D % V + N) := by
 have hd := Nat.div_add_mod D V
 have hm := Nat.mod_lt D hV
 generalize D / V = q at *
 generalize D % V = m at *
 constructor
 ·intro hc
  obtain ⟨k, rfl⟩ : ∃ k, t = c + k := ⟨t - c, by omega⟩
  rw [Nat.mul_add] at hD
  rw [Nat.add_sub_cancel_left]
  have : g = q := by
   rcases Nat.lt_or_ge q g with h | h
   ·obtain rfl : g = q + 1 := by omega
    rw [Nat.mul_succ] at hr
    omega
   ·omega
  subst this
  exact ⟨rfl, by omega⟩
 ·intro hc
  obtain ⟨k, rfl⟩ : ∃ k, c = t + 1 + k := ⟨c - t - 1, by omega⟩
  rw [Nat.mul_add, Nat.mul_add, Nat.mul_one] at hr
  have : g = q + 1 := by
   rcases Nat.lt_or_ge q g with h | h
   ·omega
   ·obtain rfl : g = q := by omega
    omega
  subst this
  rw [Nat.mul_succ] at hr
  have hk : k = 0 := by
   rcases Nat.eq_zero_or_pos k with h | h
   ·exact h
   ·have := Nat.mul_le_mul_left N h
    omega
  subst hk
  rw [Nat.mul_zero] at hr
  exact ⟨rfl, by omega, by omega⟩
theorem nv_dropk (l : List Nat) (k : Nat) (h : k < l.length) : nv (l.drop k) = l.getD k 0 + W * nv (l.drop (k + 1)) := by
 rw [List.drop_eq_getElem_cons h]
 simp only [nv, vl, List.getD, List.getElem?_eq_getElem h, Option.getD_some]
theorem subC_eq {x y N : Nat} (hN : 0 < N) (hx : x < N) : (x + N * subC x y N - y) + y = x + N * subC x y N ∧ x + N * subC x y N - y < N := by
 unfold subC
 have h1 := Nat.div_add_mod (y - x + N - 1) N
 have h2 := Nat.mod_lt (y - x + N - 1) hN
 generalize (y - x + N - 1) / N = q at *
 rcases Nat.eq_zero_or_pos q with h | h
 ·subst h
  rw [Nat.mul_zero] at *
  omega
 ·have := Nat.mul_le_mul_left N h
  omega
theorem knuth_digit {u v : List Nat} {i n : Nat} (hu : Lim u) (hv : Lim v) (hn : 2 ≤ n) (hin : i + n < u.length) (hvl : v.length = n) (hv1 : 0 < v.getD (n - 1) 0) (hR : nv (u.drop (i + 1)) < nv v) :
  u.getD (i + n) 0 ≤ v.getD (n - 1) 0 ∧ nv (u.drop i) = nv ((u.drop i).take n) + W ^ n * u.getD (i + n) 0 ∧ nv (u.drop (i + n + 1)) = 0 ∧
  nv (u.drop i) / nv v ≤ gd3 (u.getD (i + n) 0) (u.getD (i + n - 1) 0) (u.getD (i + n - 2) 0) (v.getD (n - 1) 0) (v.getD (n - 2) 0) ∧
  gd3 (u.getD (i + n) 0) (u.getD (i + n - 1) 0) (u.getD (i + n - 2) 0) (v.getD (n - 1) 0) (v.getD (n - 2) 0) ≤ nv (u.drop i) / nv v + 1 := by
 obtain ⟨k, rfl⟩ : ∃ k, n = k + 2 := ⟨n - 2, by omega⟩
 rw [show k + 2 - 1 = k + 1 by omega, show k + 2 - 2 = k by omega, show i + (k + 2) - 1 = i + k + 1 by omega, show i + (k + 2) - 2 = i + k by omega, show i + (k + 2) = i + k + 2 by omega] at *
 have hVlt := nv_lt hv
 rw [hvl] at hVlt
 have d1 := nv_dropk u i (by omega)
 have hDR : nv (u.drop i) < nv v * W := by
  have := hu.get i
  have h2 := Nat.mul_le_mul_right W hR
  rw [Nat.succ_mul] at h2
  rw [Nat.mul_comm W] at d1
  omega
 have s1 := vl_split W (u.drop i) (k := k) (by simp; omega)
 rw [List.drop_drop] at s1
 have d2 := nv_dropk u (i + k) (by omega)
 have d3 := nv_dropk u (i + k + 1) (by omega)
 have d4 := nv_dropk u (i + k + 1 + 1) (by omega)
 have s2 := vl_split W v (k := k) (by omega)
 have v2 := nv_dropk v k (by omega)
 have v3 := nv_dropk v (k + 1) (by omega)
 have v4 : nv (v.drop (k + 1 + 1)) = 0 := by rw [List.drop_of_length_le (by omega)]; rfl
 have s3 := vl_split W (u.drop i) (k := k + 2) (by simp; omega)
 rw [List.drop_drop] at s3
 have s4 := vl_split W (u.drop i) (k := k + 2 + 1) (by simp; omega)
 rw [List.drop_drop] at s4
 have s5 := vl_split W (u.drop (i + 1)) (k := k + 1) (by simp; omega)
 rw [List.drop_drop] at s5
 have s6 := vl_split W v (k := k + 1) (by omega)
 have l1 := nv_lt ((hu.drop i).take k)
 have l2 := nv_lt (hv.take k)
 have l3 := nv_lt (hv.take (k + 1))
 rw [List.length_take, Nat.min_eq_left (by simp only [List.length_drop]; omega)] at l1
 rw [List.length_take, Nat.min_eq_left (by omega)] at l2 l3
 simp only [nv] at *
 rw [show i + 1 + (k + 1) = i + k + 2 by omega] at s5
 rw [show i + (k + 2) = i + k + 2 by omega] at s3
 rw [show i + (k + 2 + 1) = i + k + 3 by omega] at s4
 rw [show i + k + 1 + 1 + 1 = i + k + 3 by omega, show i + k + 1 + 1 = i + k + 2 by omega] at d4
 rw [show i + k + 1 + 1 = i + k + 2 by omega] at d3
 rw [show i + k + 2 + 1 = i + k + 3 by omega]
 have hz : vl W (u.drop (i + k + 3)) = 0 := by
  rcases Nat.eq_zero_or_pos (vl W (u.drop (i + k + 3))) with h | h
  ·exact h
  ·exfalso
   have h1 := Nat.mul_le_mul_left (W ^ (k + 2 + 1)) h
   have h2 := Nat.mul_le_mul_right W (Nat.le_of_lt hVlt)
   rw [← Nat.pow_succ] at h2
   rw [Nat.mul_succ, Nat.mul_zero, Nat.zero_add] at h1
   have h3 := Nat.lt_of_lt_of_le hDR h2
   have h4 : W ^ (k + 2 + 1) ≤ vl W (u.drop i) := by rw [s4]; exact Nat.le_trans h1 (Nat.le_add_left _ _)
   exact absurd h3 (Nat.not_lt.mpr h4)
 rw [hz, Nat.mul_zero] at d4
 replace d4 := d4.trans (Nat.add_zero _)
 rw [d4] at d3 s3 s5
 rw [d3] at d2
 rw [d2] at s1
 rw [v4, Nat.mul_zero] at v3
 replace v3 := v3.trans (Nat.add_zero _)
 rw [v3] at v2 s6
 rw [v2] at s2
 have hX : 0 < W ^ k := W_pow_pos k
 refine ⟨?_, s3, hz, ?_⟩
 ·rcases Nat.lt_or_ge (v.getD (k + 1) 0) (u.getD (i + k + 2) 0) with h | h
  ·exfalso
   have h1 := Nat.mul_le_mul_left (W ^ (k + 1)) h
   rw [Nat.mul_succ] at h1
   generalize W ^ (k + 1) * u.getD (i + k + 2) 0 = z at *
   generalize W ^ (k + 1) * v.getD (k + 1) 0 = z' at *
   omega
  ·exact h
 generalize u.getD (i + k + 2) 0 = u2 at *
 generalize u.getD (i + k + 1) 0 = u1 at *
 generalize u.getD (i + k) 0 = u0 at *
 generalize v.getD (k + 1) 0 = v1 at *
 generalize v.getD k 0 = v0 at *
 have eD : u0 + W * (u1 + W * u2) = (u2 * W + u1) * W + u0 := by rw [Nat.mul_comm u2 W, Nat.add_comm (W * u2) u1, Nat.mul_comm (u1 + W * u2) W]; exact Nat.add_comm _ _
 have eV : v0 + W * v1 = v1 * W + v0 := by rw [Nat.mul_comm v1 W]; exact Nat.add_comm _ _
 rw [eD] at s1
 rw [eV] at s2
 refine knuth_est (b := W) (X := W ^ k) (D3 := (u2 * W + u1) * W + u0) (V2 := v1 * W + v0) hX ?_ ?_ ?_ ?_ hDR ?_ (by decide) rfl
 ·rw [s1, Nat.mul_comm]; exact Nat.le_add_left _ _
 ·rw [s1, Nat.succ_mul, Nat.mul_comm _ (W ^ k)]
  exact Nat.add_comm _ _ ▸ Nat.add_lt_add_left l1 _
 ·rw [s2, Nat.mul_comm]; exact Nat.le_add_left _ _
 ·rw [s2, Nat.succ_mul, Nat.mul_comm _ (W ^ k)]
  exact Nat.add_comm _ _ ▸ Nat.add_lt_add_left l2 _
 ·exact Nat.le_trans (Nat.le_of_eq (Nat.one_mul W).symm) (Nat.le_trans (Nat.mul_le_mul_right W hv1) (Nat.le_add_right _ _))
end Go.Proofs.YtdokaihemcnkmaaGreat

namespace Go.Proofs.YtdokaihemcnkmaaGreat
open Go Go.Proofs Go.AL
set_option linter.unusedSimpArgs false
set_option linter.unusedVariables false
theorem wd_top {v : Nat} (h : 0 < (wd v).length) : 0 < (wd v).getD ((wd v).length - 1) 0 := by
 rcases Nat.eq_zero_or_pos ((wd v).getD ((wd v).length - 1) 0) with h0 | h0
 ·exfalso
  have h1 := vl_take_next W (wd v) ((wd v).length - 1)
  rw [Nat.sub_add_cancel h, List.take_length, h0, Nat.mul_zero, Nat.add_zero] at h1
  have h2 := nv_lt ((lim_wd v).take ((wd v).length - 1))
  rw [List.length_take, Nat.min_eq_left (Nat.sub_le _ _)] at h2
  have h3 : v < W ^ ((wd v).length - 1) := by
   have h4 := nv_wd v
   simp only [nv] at *
   omega
  have := wd_len_le.mpr h3
  omega
 ·exact h0
theorem knuth_shift {y : Nat} (h : 0 < (wd y).length) : ∃ s, s = 64 - bl ((wd y).getD ((wd y).length - 1) 0) ∧ s ≤ 63 ∧ (wd y).getD ((wd y).length - 1) 0 < W ∧ (wd (y * 2 ^ s)).length = (wd y).length := by
 have ht := wd_top h
 have hw := (lim_wd y).get ((wd y).length - 1)
 have h1 := vl_take_next W (wd y) ((wd y).length - 1)
 rw [Nat.sub_add_cancel h, List.take_length] at h1
 have h2 := nv_lt ((lim_wd y).take ((wd y).length - 1))
 rw [List.length_take, Nat.min_eq_left (Nat.sub_le _ _)] at h2
 have h4 := nv_wd y
 simp only [nv] at *
 rw [h4] at h1
 have hmono : (wd y).length ≤ (wd (y * 2 ^ (64 - bl ((wd y).getD ((wd y).length - 1) 0)))).length := wd_len_mono (Nat.le_mul_of_pos_right _ (Nat.pow_pos (by decide)))
 generalize hk : (wd y).length = k at *
 generalize (wd y).getD (k - 1) 0 = t at *
 have hb64 : bl t ≤ 64 := bl_le.mpr hw
 have hb1 : 1 ≤ bl t := by
  rcases Nat.eq_zero_or_pos (bl t) with h0 | h0
  ·have := bl_le.mp (Nat.le_of_eq h0)
   omega
  ·exact h0
 have hbt : t < 2 ^ bl t := bl_le.mp (Nat.le_refl _)
 refine ⟨_, rfl, by omega, hw, Nat.le_antisymm (wd_len_le.mpr ?_) hmono⟩
 have h5 : y < W ^ (k - 1) * 2 ^ bl t := by
  have := Nat.mul_le_mul_left (W ^ (k - 1)) hbt
  rw [Nat.mul_succ] at this
  omega
 have h6 := Nat.mul_lt_mul_of_pos_right h5 (Nat.pow_pos (by decide : 0 < 2) : 0 < 2 ^ (64 - bl t))
 rw [Nat.mul_assoc, ← Nat.pow_add, show bl t + (64 - bl t) = 64 by omega] at h6
 have h7 : W ^ k = W ^ (k - 1) * 2 ^ 64 := by
  have h8 : W ^ (k - 1 + 1) = W ^ (k - 1) * W := Nat.pow_succ _ _
  rw [Nat.sub_add_cancel h] at h8
  exact h8
 rw [h7]; exact h6
theorem vl_rep0 (b : Nat) : ∀ n, vl b (List.replicate n 0) = 0
 | 0 => rfl
 | n + 1 => by rw [List.replicate_succ, vl, vl_rep0 b n]; rfl
theorem put_row {X : List Nat} {k d : Nat} (h : k < X.length) : (lims X).set k (splice ((lims X).getD k []) 0 [.int .u64 (d : Int)]) = lims (X.set k d) := by
 rw [lims_at h, splice_one, lims_set]
theorem put_eq {u rs : List Nat} {i n d : Nat} (h : i + n < u.length) (hr : rs.length = n) : (u.take i ++ rs ++ u.drop (i + n)).set (i + n) d = u.take i ++ (rs ++ d :: u.drop (i + n + 1)) := by
 rw [List.drop_eq_getElem_cons h, List.set_append_right _ _ (by simp; omega)]
 have e : i + n - (u.take i ++ rs).length = 0 := by simp; omega
 rw [e, List.set_cons_zero, List.append_assoc]
theorem put_digit {u rs : List Nat} {i n d : Nat} (h : i + n < u.length) (hr : rs.length = n) (hu : Lim u) (hrs : Lim rs) (hd : d < W) : ∃ X, (u.take i ++ rs ++ u.drop (i + n)).set (i + n) d = X ∧ X.length = u.length ∧ X.take i = u.take i ∧ nv (X.drop i) = nv rs + W ^ n * (d + W * nv (u.drop (i + n + 1))) ∧
  (X.drop i).take n = rs ∧ X.getD (i + n) 0 = d ∧ X.drop (i + n + 1) = u.drop (i + n + 1) ∧ Lim X := by
 refine ⟨_, put_eq h hr, ?_, ?_, ?_, ?_, ?_, ?_, ?_⟩
 ·simp; omega
 ·rw [List.take_append_of_le_length (by simp; omega), List.take_take, Nat.min_self]
 ·rw [List.drop_append_of_le_length (by simp; omega), List.drop_of_length_le (by rw [List.length_take]; exact Nat.min_le_left _ _), List.nil_append]
  have := vl_split W (rs ++ d :: u.drop (i + n + 1)) (k := n) (by simp; omega)
  rw [← hr, List.take_left, List.drop_left, hr] at this
  exact this
 ·rw [List.drop_append_of_le_length (by simp; omega), List.drop_of_length_le (by rw [List.length_take]; exact Nat.min_le_left _ _), List.nil_append, ← hr, List.take_left]
 ·rw [List.getD_eq_getElem?_getD, List.getElem?_append_right (by simp; omega)]
  have e : i + n - (u.take i).length = n := by simp; omega
  rw [e, List.getElem?_append_right (by omega), hr]
  simp
 ·rw [← List.append_assoc, List.drop_append, List.drop_of_length_le (by simp; omega)]
  have e : i + n + 1 - (u.take i ++ rs).length = 1 := by simp; omega
  rw [e]; rfl
 ·exact (hu.take i).append (hrs.append (Lim.cons hd (hu.drop _)))
theorem knuth_next {u u0 q : List Nat} {i V g D : Nat} (hul : i < u.length) (hu0 : u0.length = u.length) (hq : i < q.length) (hT : u.take (i + 1) = u0.take (i + 1)) (hE : nv (u0.drop (i + 1)) = nv (q.drop (i + 1)) * V + nv (u.drop (i + 1))) (hD : nv (u.drop i) = D) (hg : g = D / V) :
  nv (u0.drop i) = nv ((q.set i g).drop i) * V + D % V ∧ u.take i = u0.take i := by
 have e1 := nv_dropk u0 i (by omega)
 have e2 := nv_dropk u i hul
 have e3 := nv_dropk (q.set i g) i (by simp; omega)
 have e4 : (q.set i g).getD i 0 = g := by simp [List.getD, hq]
 have e5 : (q.set i g).drop (i + 1) = q.drop (i + 1) := List.drop_set_of_lt (by omega)
 have e6 : u0.getD i 0 = u.getD i 0 := by
  have h1 : u0.getD i 0 = (u0.take (i + 1)).getD i 0 := by simp [List.getD, List.getElem?_take]
  have h2 : u.getD i 0 = (u.take (i + 1)).getD i 0 := by simp [List.getD, List.getElem?_take]
  rw [h1, h2, hT]
 have hd := Nat.div_add_mod D V
 rw [e4, e5] at e3
 rw [e3, e1, e6, hE, Nat.add_mul, Nat.mul_add, ← Nat.mul_assoc, Nat.mul_comm g V, hg]
 rw [hD] at e2
 constructor
 ·omega
 ·have := congrArg (List.take i) hT
  simpa [List.take_take] using this
theorem flat_lims (l : List Nat) : ∀ r ∈ lims l, ∀ x ∈ r, FlatI x := by
 intro r hr x hx
 simp only [lims, List.mem_map] at hr
 obtain ⟨n, _, rfl⟩ := hr
 simp only [List.mem_singleton] at hx
 subst hx
 trivial
theorem flat_own2 (e : Nat) (l l' : List Nat) (a : Nat) : FlatRes (some (0, e, 1, lims l)) [cl l', cu a] := by
 refine ⟨flat_lims l, fun j c hj hc => ?_⟩
 match j, hj with
 | 1, _ => simp at hc; subst hc; trivial
 | j + 2, _ => simp at hc
theorem flat_own3 (e : Nat) (l l' : List Nat) (a b : Nat) : FlatRes (some (0, e, 1, lims l)) [cl l', cu a, ci b] := by
 refine ⟨flat_lims l, fun j c hj hc => ?_⟩
 match j, hj with
 | 1, _ => simp at hc; subst hc; trivial
 | 2, _ => simp at hc; subst hc; trivial
 | j + 3, _ => simp at hc
set_option maxHeartbeats 4000000 in
theorem knuth_ok (x y m n : Nat) (hm : (wd x).length = m) (hn : (wd y).length = n) (h2 : 2 ≤ n) (hxy : y ≤ x) (hl : m ≤ 2 ^ 38) : AC Tryz.prog 298 [cl (wd x), cl (wd y)] none [cl (wd (x / y)), cl (wd (x % y))] := by
 refine AC.by_walk (rs := [.tmp 4, .tmp 5]) ords Tryz.func298 (by rfl) (by rfl) (by rfl) (by rfl) (by rfl) ?_
 obtain ⟨s, hs, hs63, htw, hvl⟩ := knuth_shift (y := y) (by omega)
 have hyl : n ≤ m := by rw [← hm, ← hn]; exact wd_len_mono hxy
 have lz := lz64_ok _ htw
 rw [← hs, hn] at lz
 rw [hn] at hvl
 have hn1 : ((n : Int) - 1).toNat = n - 1 := by omega
 simp (disch := omega) only [wt, seval, reduceCtorEq, Nat.reduceEqDiff, natsr_len, natsr_at, Option.getD_some, hn, hn1]
 refine call_by (lz) (by first | rfl | (simp only [tocvs, tocv, toboxes, tobox, updH_at, Nat.reduceEqDiff, ↓reduceIte, hn, hn1]; rfl)) (by simp) ?_
 simp (disch := omega) only [wt, seval, reduceCtorEq, Nat.reduceEqDiff, natsr_len, natsr_at, Option.getD_some, hn, hn1]
 refine call_by ((nshl_ok (wd y) s (lim_wd _) (by omega) (by omega))) (by first | rfl | (simp only [tocvs, tocv, toboxes, tobox, updH_at, Nat.reduceEqDiff, ↓reduceIte, hn]; rfl)) (by simp) ?_
 simp (disch := omega) only [wt, seval, reduceCtorEq, Nat.reduceEqDiff, natsr_len, natsr_at, Option.getD_some, hn]
 rw [nv_wd]
 refine call_by ((nshl_ok (wd x) s (lim_wd _) (by omega) (by omega))) (by first | rfl | (simp only [tocvs, tocv, toboxes, tobox, updH_at, Nat.reduceEqDiff, ↓reduceIte, hn]; rfl)) (by simp) ?_
 simp (disch := omega) only [wt, seval, reduceCtorEq, Nat.reduceEqDiff, natsr_len, natsr_at, Option.getD_some, hn]
 rw [nv_wd]
 have hUlt : x * 2 ^ s < W ^ (m + 1) := by
  have h1 : x < W ^ m := by rw [← hm]; exact wd_len_le.mp (Nat.le_refl _)
  rw [Nat.pow_succ]
  exact Nat.mul_lt_mul_of_lt_of_le h1 (Nat.pow_le_pow_right (by decide) (by omega : s ≤ 64)) (by decide)
 have hul : (wd (x * 2 ^ s)).length ≤ m + 1 := wd_len_le.mpr hUlt
 generalize hup : (wd (x * 2 ^ s)).length = up at *
 have hz1 : ((m : Int) + 1 - up).toNat = m + 1 - up := by omega
 simp (disch := omega) only [wt, seval, reduceCtorEq, Nat.reduceEqDiff, natsr_len, natsr_at, Option.getD_some, hn, hm, hup, hz1]
 have hcc := concat_ok [wd (x * 2 ^ s), List.replicate (m + 1 - up) 0] (by simp) (by simp only [tot, List.map_cons, List.map_nil, List.sum_cons, List.sum_nil, List.length_replicate]; omega)
 have hpu : [wd (x * 2 ^ s), List.replicate (m + 1 - up) 0].flatten = pad (m + 1) (x * 2 ^ s) := by
  simp only [List.flatten_cons, List.flatten_nil, List.append_nil]
  refine eq_pad ((lim_wd _).append (Lim.replicate _)) (by simp; omega) ?_
  have h1 := vl_split W (wd (x * 2 ^ s) ++ List.replicate (m + 1 - up) 0) (k := up) (by simp; omega)
  rw [List.take_append_of_le_length (by omega), List.drop_append_of_le_length (by omega), List.take_of_length_le (by omega), List.drop_of_length_le (by omega), List.nil_append, vl_rep0, Nat.mul_zero, Nat.add_zero] at h1
  rw [Nat.mod_eq_of_lt hUlt]
  exact h1.trans (nv_wd _)
 rw [hpu] at hcc
 have hpl := pad_len (m + 1) (x * 2 ^ s)
 have hz2 : (((m + 1 : Nat) : Int) - n).toNat = m + 1 - n := by omega
 refine call_by (hcc) (by first | rfl | (simp only [tocvs, tocv, toboxes, tobox, updH_at, Nat.reduceEqDiff, ↓reduceIte, hn, hm, hup, hz1, hpl, hz2]; rfl)) (by simp) ?_
 simp (disch := omega) only [wt, seval, reduceCtorEq, Nat.reduceEqDiff, natsr_len, natsr_at, Option.getD_some, hn, hm, hup, hz1, hpl, hz2]
 have hV : Lim (wd (y * 2 ^ s)) := lim_wd _
 have hq0 : Lim (List.replicate (m + 1 - n) 0) := Lim.replicate _
 have hu0 := lim_pad (m + 1) (x * 2 ^ s)
 have hi1 : nv ((pad (m + 1) (x * 2 ^ s)).drop (m + 1 - n)) < y * 2 ^ s := by
  have h1 := vl_split W (pad (m + 1) (x * 2 ^ s)) (k := m + 1 - n) (by omega)
  have h3 := nv_pad (m + 1) (x * 2 ^ s)
  rw [Nat.mod_eq_of_lt hUlt] at h3
  have hx : x < W ^ m := by rw [← hm]; exact wd_len_le.mp (Nat.le_refl _)
  have hy : W ^ (n - 1) ≤ y := by
   rcases Nat.lt_or_ge y (W ^ (n - 1)) with h | h
   ·have := wd_len_le.mpr h
    omega
   ·exact h
  simp only [nv] at *
  have h4 : W ^ (m + 1 - n) * vl W ((pad (m + 1) (x * 2 ^ s)).drop (m + 1 - n)) < W ^ (m + 1 - n) * (y * 2 ^ s) := by
   refine Nat.lt_of_le_of_lt (Nat.le_trans (Nat.le_add_left _ _) (Nat.le_of_eq (h1.symm.trans h3))) ?_
   rw [← Nat.mul_assoc]
   refine Nat.mul_lt_mul_of_pos_right (Nat.lt_of_lt_of_le hx ?_) (Nat.pow_pos (by decide))
   rw [show m = m + 1 - n + (n - 1) by omega, Nat.pow_add]
   refine Nat.mul_le_mul (Nat.pow_le_pow_right (by decide) (by omega)) hy
  exact Nat.lt_of_mul_lt_mul_left h4
 have hi2 : nv ((pad (m + 1) (x * 2 ^ s)).drop (m + 1 - n)) = nv ((List.replicate (m + 1 - n) 0).drop (m + 1 - n)) * (y * 2 ^ s) + nv ((pad (m + 1) (x * 2 ^ s)).drop (m + 1 - n)) := by
  rw [List.drop_of_length_le (l := List.replicate _ _) (by simp)]
  simp [nv, vl]
 refine aloop_by (fun f H => ∃ (k st st2 : Nat) (u q : List Nat), k + n ≤ m + 1 ∧ Lim u ∧ u.length = m + 1 ∧ Lim q ∧ q.length = m + 1 - n ∧ nv (u.drop k) < y * 2 ^ s ∧ nv ((pad (m + 1) (x * 2 ^ s)).drop k) = nv (q.drop k) * (y * 2 ^ s) + nv (u.drop k) ∧ u.take k = (pad (m + 1) (x * 2 ^ s)).take k ∧ f 14 = .iv (.int .i64 (k - 1)) ∧ f 12 = .hs 54 st ∧ f 13 = .hs 59 st2 ∧ f 6 = .iv (.int .i64 n) ∧ f 7 = .iv (.int .i64 s) ∧ f 8 = .iv (.sl (lims (wd (y * 2 ^ s)))) ∧ H 54 = .blk false st 144 1 (lims u) ∧ H 59 = .blk false st2 144 1 (lims q)) (fun f H => (intAt f 14 + 1).toNat) ?_ ?_
 ·refine ⟨m + 1 - n, 1, 1, pad (m + 1) (x * 2 ^ s), List.replicate (m + 1 - n) 0, by omega, hu0, hpl, hq0, by simp, hi1, hi2, rfl, ?_⟩
  simp (disch := omega) only [wt, seval, reduceCtorEq, Nat.reduceEqDiff, natsr_len, natsr_at, Option.getD_some, hn, hm, hup, hz1, hpl, hz2]
 rintro f H ⟨k, st, st2, u, q, hk, hu, hul', hq, hql, hR, hE, hT, hF⟩
 rw [intAt_of hF.1]
 simp (disch := omega) only [wt, seval, reduceCtorEq, Nat.reduceEqDiff, natsr_len, natsr_at, Option.getD_some, hF]
 generalize hU0 : pad (m + 1) (x * 2 ^ s) = u0 at *
 refine if_by (fun hge => ?_) (fun hge => ?_)
 ·obtain ⟨i, rfl⟩ : ∃ i, k = i + 1 := ⟨k - 1, by omega⟩
  rw [show (((i + 1 : Nat) : Int) - 1) = i by omega] at *
  have hnV : nv (wd (y * 2 ^ s)) = y * 2 ^ s := nv_wd _
  have hv1 : 0 < (wd (y * 2 ^ s)).getD (n - 1) 0 := by
   have := wd_top (v := y * 2 ^ s) (by omega)
   rwa [hvl] at this
  have hR0 : nv (u.drop (i + 1)) < nv (wd (y * 2 ^ s)) := by rw [hnV]; exact hR
  have hV0 : 0 < nv (wd (y * 2 ^ s)) := Nat.zero_lt_of_lt hR0
  have hVn := Nat.le_of_lt (nv_lt hV)
  rw [hvl] at hVn
  generalize hv : wd (y * 2 ^ s) = v at *
  generalize y * 2 ^ s = V at *
  subst hnV
  obtain ⟨k1, k2, k3, k4, k5⟩ := knuth_digit hu hV h2 (show i + n < u.length by omega) hvl hv1 hR
  have gg := guess_ok (u.getD (i + n) 0) (u.getD (i + n - 1) 0) (u.getD (i + n - 2) 0) (v.getD (n - 1) 0) (v.getD (n - 2) 0) k1 (hu.get _) (hu.get _) (hV.get _) (hV.get _) hv1
  have hgW : gd3 (u.getD (i + n) 0) (u.getD (i + n - 1) 0) (u.getD (i + n - 2) 0) (v.getD (n - 1) 0) (v.getD (n - 2) 0) < W := Nat.lt_of_le_of_lt (Nat.min_le_right _ _) (Nat.sub_lt (by decide) (by decide))
  generalize gd3 (u.getD (i + n) 0) (u.getD (i + n - 1) 0) (u.getD (i + n - 2) 0) (v.getD (n - 1) 0) (v.getD (n - 2) 0) = g at *
  have t1 : ((i : Int) + n).toNat = i + n := by omega
  have t2 : ((i : Int) + n - 1).toNat = i + n - 1 := by omega
  have t3 : ((i : Int) + n - 2).toNat = i + n - 2 := by omega
  have t4 : ((n : Int) - 1).toNat = n - 1 := by omega
  have t5 : ((n : Int) - 2).toNat = n - 2 := by omega
  simp (disch := omega) only [wt, seval, reduceCtorEq, Nat.reduceEqDiff, natsr_len, natsr_at, Option.getD_some, hF, t1, t2, t3, t4, t5]
  refine .inl ⟨tmps_by (by kernel_rfl), ?_⟩
  refine call_by (gg) (by first | rfl | (simp only [tocvs, tocv, toboxes, tobox, updH_at, Nat.reduceEqDiff, ↓reduceIte, hF, t1, t2, t3, t4, t5]; rfl)) (by simp) ?_
  simp (disch := omega) only [wt, seval, reduceCtorEq, Nat.reduceEqDiff, natsr_len, natsr_at, Option.getD_some, hF, t1, t2, t3, t4, t5]
  first | exact log_by (by kernel_rfl) | refine ⟨log_by (by kernel_rfl), ?_⟩
  have hal : ((u.drop i).take n).length = n := by simp; omega
  have ms := mulsub_ok ((u.drop i).take n) v g ((hu.drop i).take n) hV hgW (by omega) (by omega)
  rw [hal] at ms
  have hlo := nv_lt ((hu.drop i).take n)
  rw [hal] at hlo
  obtain ⟨c1, c2⟩ := subC_eq (y := nv v * g) (W_pow_pos n) hlo
  generalize hc : subC (nv ((u.drop i).take n)) (nv v * g) (W ^ n) = c at *
  have t6 : ((i : Int) + n - i).toNat = n := by omega
  refine frame_call (fun f H => f 14 = .iv (.int .i64 i) ∧ f 12 = .hs 54 st ∧ f 13 = .hs 59 st2 ∧ f 6 = .iv (.int .i64 n) ∧ f 7 = .iv (.int .i64 s) ∧ f 8 = .iv (.sl (lims v)) ∧ f 15 = .iv (.int .u64 g) ∧ H 54 = .blk false st 144 1 (lims u) ∧ H 59 = .blk false st2 144 1 (lims q)) ?_ (fun f H hF => ?_)
  ·simp (disch := omega) only [wt, seval, reduceCtorEq, Nat.reduceEqDiff, natsr_len, natsr_at, Option.getD_some, hF]
  rw [t6]
  refine call_flat ms (by simp only [tocvs, tocv, hF, lims_take, lims_drop]; rfl) (by simp only [lims_len]; simp; omega) (.inr (flat_own3 ..)) ?_
  have hrsl := pad_len n (nv ((u.drop i).take n) + W ^ n * c - nv v * g)
  have hrsL := lim_pad n (nv ((u.drop i).take n) + W ^ n * c - nv v * g)
  have hrsv := nv_pad n (nv ((u.drop i).take n) + W ^ n * c - nv v * g)
  rw [Nat.mod_eq_of_lt c2] at hrsv
  rw [← hrsv] at c1 c2
  generalize pad n (nv ((u.drop i).take n) + W ^ n * c - nv v * g) = rs at *
  have hti : (u.take i).length = i := by rw [List.length_take]; omega
  have hdi : (u.drop (i + n)).length = m + 1 - (i + n) := by rw [List.length_drop]; omega
  have hh1 : i + n < i + n + (m + 1 - (i + n)) := by omega
  have hiq : i < m + 1 - n := by omega
  have hut := hu.get (i + n)
  have sb := sub64_ok (u.getD (i + n) 0) c 0 (by omega)
  obtain ⟨p1, p2⟩ := knuth_sub (b := 0) (g := g) (W_pow_pos n) hlo k2 hV0 hVn k4 k5 c1 c2
  rcases Nat.lt_or_ge (u.getD (i + n) 0) c with hct | hct
  ·obtain ⟨p3, p4, p5⟩ := p2 hct
   obtain rfl : c = u.getD (i + n) 0 + 1 := by omega
   rw [show (u.getD (i + n) 0 + W - (u.getD (i + n) 0 + 1) - 0) % W = W - 1 by rw [show u.getD (i + n) 0 + W - (u.getD (i + n) 0 + 1) - 0 = W - 1 by omega]; exact Nat.mod_eq_of_lt (Nat.sub_lt (by decide) (by decide)),
    if_pos (by omega)] at sb
   have hWe : W - 1 + 1 = W := Nat.sub_add_cancel (by decide)
   have hW1 : W - 1 < W := Nat.sub_lt (by decide) (by decide)
   generalize W - 1 = e at sb hWe hW1
   obtain ⟨X, x0, x1, x2, x3, x4, x5, x6, x7⟩ := put_digit (d := e) (show i + n < u.length by omega) hrsl hu hrsL hW1
   have hpr := put_row (X := u.take i ++ rs ++ u.drop (i + n)) (k := i + n) (d := e) (by simp only [List.length_append]; omega)
   rw [x0] at hpr
   simp (disch := omega) only [wt, seval, reduceCtorEq, Nat.reduceEqDiff, natsr_len, natsr_at, Option.getD_some, hF, hrsl, t1]
   refine call_by (sb) (by first | rfl | (simp only [tocvs, tocv, toboxes, tobox, updH_at, Nat.reduceEqDiff, ↓reduceIte, hF, hrsl, t1, hti, hdi, hh1, hiq]; rfl)) (by simp) ?_
   simp (disch := omega) only [wt, seval, reduceCtorEq, Nat.reduceEqDiff, natsr_len, natsr_at, Option.getD_some, hF, hrsl, t1, hti, hdi, hh1, hiq]
   rw [t6]
   have hg0 : 1 ≤ g := by rw [p3]; exact Nat.succ_pos _
   have hgL : g < 18446744073709551616 := hgW
   have hg1 : ((g : Int) - 1) = ((g - 1 : Nat) : Int) := (Int.ofNat_sub hg0).symm
   have hgl : ((g - 1 : Nat) : Int) < 18446744073709551616 := by rw [← hg1]; clear p1 p2 p3; omega
   have hgw := wrap_u64 (n := ((g - 1 : Nat) : Int)) ⟨Int.natCast_nonneg _, hgl⟩
   refine frame_call (fun f H => f 14 = .iv (.int .i64 i) ∧ f 12 = .hs 54 st ∧ f 13 = .hs 59 st2 ∧ f 6 = .iv (.int .i64 n) ∧ f 7 = .iv (.int .i64 s) ∧ f 8 = .iv (.sl (lims v)) ∧ f 15 = .iv (.int .u64 (g - 1 : Nat)) ∧ H 54 = .blk false st 144 1 (lims X) ∧ H 59 = .blk false st2 144 1 (lims q)) ?_ (fun f H hF => ?_)
   ·simp (disch := omega) only [wt, seval, reduceCtorEq, Nat.reduceEqDiff, natsr_len, natsr_at, Option.getD_some, hF, hpr, hg1, hgw]
   have ad := laddo_ok rs v hrsL hV (by omega) (by omega)
   rw [hrsl, hvl, Nat.max_self, p5, Nat.add_div_right _ (W_pow_pos n), Nat.div_eq_of_lt (Nat.lt_of_lt_of_le (Nat.mod_lt _ hV0) hVn)] at ad
   have hbl := pad_len n (nv (u.drop i) % nv v + W ^ n)
   have hbL := lim_pad n (nv (u.drop i) % nv v + W ^ n)
   have hbv := nv_pad n (nv (u.drop i) % nv v + W ^ n)
   rw [Nat.add_mod_right, Nat.mod_eq_of_lt (Nat.lt_of_lt_of_le (Nat.mod_lt _ hV0) hVn)] at hbv
   generalize pad n (nv (u.drop i) % nv v + W ^ n) = bk at *
   obtain ⟨Y, z0, z1, z2, z3, z4, z5, z6, z7⟩ := put_digit (d := 0) (show i + n < X.length by omega) hbl x7 hbL (by decide)
   have hqr := put_row (X := X.take i ++ bk ++ X.drop (i + n)) (k := i + n) (d := 0) (by simp only [List.length_append, List.length_take, List.length_drop]; omega)
   rw [z0] at hqr
   refine call_flat ad (by simp only [tocvs, tocv, hF, lims_take, lims_drop, x4]; rfl) (by simp only [lims_len]; simp; omega) (.inr (flat_own2 ..)) ?_
   have hti2 : (X.take i).length = i := by rw [List.length_take]; omega
   have hdi2 : (X.drop (i + n)).length = m + 1 - (i + n) := by rw [List.length_drop]; omega
   have hbg : (X.take i ++ bk ++ X.drop (i + n)).getD (i + n) 0 = e := by
    rw [List.getD_eq_getElem?_getD, List.getElem?_append_right (by simp only [List.length_append]; omega), List.length_append, hti2, hbl, Nat.sub_self, List.getElem?_drop, Nat.add_zero, ← List.getD_eq_getElem?_getD, x5]
   have hrow : (lims (X.take i ++ bk ++ X.drop (i + n))).getD (i + n) [] = [.int .u64 (e : Int)] := by
    rw [lims_at (by simp only [List.length_append]; omega), hbg]
   rw [hrow, splice_one] at hqr
   have hqr' : (lims (X.take i ++ bk ++ X.drop (i + n))).set (i + n) [.int .u64 0] = lims Y := hqr
   have hwr : IntKind.u64.wrap ((e : Int) + 1) = 0 := by
    have h1 : ((e : Int) + 1) = ((e + 1 : Nat) : Int) := rfl
    rw [h1, hWe]; rfl
   simp (disch := omega) only [wt, seval, reduceCtorEq, Nat.reduceEqDiff, natsr_len, natsr_at, Option.getD_some, hF, hbl, t1, hti2, hdi2, hh1, hiq, hrow, hqr', hwr, splice_one]
   rw [x6, k3, Nat.mul_zero, Nat.add_zero, Nat.mul_zero, Nat.add_zero, hbv] at z3
   have hq1 : g - 1 = nv (u.drop i) / nv v := by rw [p3]; rfl
   obtain ⟨y1, y2⟩ := knuth_next (g := g - 1) (by omega) (by omega) (by omega) hT hE rfl hq1
   exact ⟨⟨i, st, st2, Y, q.set i (g - 1), by omega, z7, by omega, hq.set (Nat.lt_of_le_of_lt (Nat.sub_le _ _) hgW), by simp; omega, by rw [z3]; exact Nat.mod_lt _ hV0, by rw [z3]; exact y1, by rw [z2, x2]; exact y2, rfl, rfl, rfl, rfl, rfl⟩, by omega⟩
  ·obtain ⟨p3, p4⟩ := p1 hct
   rw [show (u.getD (i + n) 0 + W - c - 0) % W = u.getD (i + n) 0 - c by rw [show u.getD (i + n) 0 + W - c - 0 = u.getD (i + n) 0 - c + W by omega, Nat.add_mod_right]; exact Nat.mod_eq_of_lt (by omega),
    if_neg (by omega)] at sb
   simp (disch := omega) only [wt, seval, reduceCtorEq, Nat.reduceEqDiff, natsr_len, natsr_at, Option.getD_some, hF, hrsl, t1]
   refine call_by (sb) (by first | rfl | (simp only [tocvs, tocv, toboxes, tobox, updH_at, Nat.reduceEqDiff, ↓reduceIte, hF, hrsl, t1, hti, hdi, hh1, hiq]; rfl)) (by simp) ?_
   simp (disch := omega) only [wt, seval, reduceCtorEq, Nat.reduceEqDiff, natsr_len, natsr_at, Option.getD_some, hF, hrsl, t1, hti, hdi, hh1, hiq]
   rw [put_row (by simp only [List.length_append]; omega)]
   obtain ⟨X, x0, x1, x2, x3, x4, x5, x6, x7⟩ := put_digit (d := u.getD (i + n) 0 - c) (show i + n < u.length by omega) hrsl hu hrsL (by omega)
   rw [k3, Nat.mul_zero, Nat.add_zero] at x3
   have x8 := x3.trans p4
   obtain ⟨y1, y2⟩ := knuth_next (g := g) (by omega) (by omega) (by omega) hT hE rfl p3
   exact ⟨⟨i, st, st2, X, q.set i g, by omega, x7, by omega, hq.set hgW, by simp; omega, by rw [x8]; exact Nat.mod_lt _ hV0, by rw [x8]; exact y1, by rw [x2]; exact y2, rfl, rfl, rfl, by rw [x0], rfl⟩, by omega⟩
 ·obtain rfl : k = 0 := by omega
  simp only [List.drop_zero] at hR hE
  have hun : nv (u.take n) = nv u := by
   have h1 := vl_split W u (k := n) (by omega)
   have h2 : nv u < W ^ n := Nat.lt_of_lt_of_le hR (by rw [← nv_wd (y * 2 ^ s), ← hvl]; exact Nat.le_of_lt (nv_lt hV))
   simp only [nv] at *
   rcases Nat.eq_zero_or_pos (vl W (u.drop n)) with h | h
   ·rw [h, Nat.mul_zero] at h1; exact h1.symm
   ·have h3 := Nat.mul_le_mul_left (W ^ n) h
    rw [Nat.mul_succ, Nat.mul_zero, Nat.zero_add] at h3
    omega
  have hal : (u.take n).length = n := by rw [List.length_take]; omega
  have hut := hu.take n
  simp (disch := omega) only [wt, seval, reduceCtorEq, Nat.reduceEqDiff, natsr_len, natsr_at, Option.getD_some, hF]
  refine call_by (nshr_ok (u.take n) s hut (by omega) (by omega)) (by simp only [tocvs, tocv, hF, lims_take, lims_drop, List.drop_zero]; rfl) (by simp only [lims_len]; simp; omega) ?_
  simp (disch := omega) only [wt, seval, reduceCtorEq, Nat.reduceEqDiff, natsr_len, natsr_at, Option.getD_some, hF]
  refine call_by (norm_ok q hq (by omega)) (by simp only [tocvs, tocv, updH, Nat.reduceEqDiff, ↓reduceIte, hF]; rfl) (by simp) ?_
  simp (disch := omega) only [wt, seval, reduceCtorEq, Nat.reduceEqDiff, natsr_len, natsr_at, Option.getD_some, hF]
  have hpv := nv_pad (m + 1) (x * 2 ^ s)
  rw [hU0, Nat.mod_eq_of_lt hUlt, hE] at hpv
  have hps : 0 < 2 ^ s := Nat.pow_pos (by decide)
  have hV0 : 0 < y * 2 ^ s := Nat.zero_lt_of_lt hR
  have eq1 : nv q = x / y := by
   rw [← Nat.mul_div_mul_right x y hps, ← hpv, Nat.mul_comm (nv q), Nat.mul_add_div hV0, Nat.div_eq_of_lt hR, Nat.add_zero]
  have eq2 : nv u = x % y * 2 ^ s := by
   rw [← Nat.mul_mod_mul_right, ← hpv, Nat.mul_comm (nv q), Nat.mul_add_mod, Nat.mod_eq_of_lt hR]
  rw [hun, eq1, eq2, Nat.mul_div_cancel _ hps]
  exact ⟨rfl, rfl⟩
end Go.Proofs.YtdokaihemcnkmaaGreat

namespace Go.Proofs.YtdokaihemcnkmaaGreat
open Go Go.Proofs Go.AL
set_option linter.unusedSimpArgs false
set_option linter.unusedVariables false
theorem mcut_ok (l : List Nat) (n : Nat) (h : Lim l) (hl : l.length ≤ 2 ^ 40) (hn : n ≤ 2 ^ 40) : AC Tryz.prog 307 [cl l, ci n] none [cl (wd (nv l / W ^ n)), cl (wd (nv l % W ^ n))] := by
 refine AC.by_walk (rs := [.tmp 4, .tmp 5]) ords Tryz.func307 (by rfl) (by rfl) (by rfl) (by rfl) (by rfl) ?_
 rw [← nv_drop h, ← nv_take h]
 simp (disch := omega) only [wt, seval, reduceCtorEq, Nat.reduceEqDiff]
 have e : min (n : Int) (l.length : Int) = ((min n l.length : Nat) : Int) := by omega
 rw [e]
 simp (disch := omega) only [wt, seval, reduceCtorEq, Nat.reduceEqDiff]
 refine .inl ⟨tmps_by (by kernel_rfl), ?_⟩
 have e1 : (l.drop (min n l.length)).take ((l.length : Int) - ((min n l.length : Nat) : Int)).toNat = l.drop n := by
  rw [List.take_of_length_le (by rw [List.length_drop]; omega)]
  by_cases hc : n ≤ l.length
  ·rw [Nat.min_eq_left hc]
  ·rw [Nat.min_eq_right (by omega), List.drop_of_length_le (by omega), List.drop_of_length_le (by omega)]
 have e2 : l.take (min n l.length) = l.take n := by
  by_cases hc : n ≤ l.length
  ·rw [Nat.min_eq_left hc]
  ·rw [Nat.min_eq_right (by omega), List.take_of_length_le (by omega), List.take_of_length_le (by omega)]
 rw [e1]
 refine call_by ((norm_ok (l.drop n) (h.drop n) (by rw [List.length_drop]; omega))) (by rfl) (by simp) ?_
 simp (disch := omega) only [wt, seval, reduceCtorEq, Nat.reduceEqDiff]
 rw [e2]
 refine call_by ((norm_ok (l.take n) (h.take n) (by rw [List.length_take]; omega))) (by rfl) (by simp) ?_
 simp (disch := omega) only [wt, seval, reduceCtorEq, Nat.reduceEqDiff]
 first | exact log_by (by kernel_rfl) | refine ⟨log_by (by kernel_rfl), ?_⟩
theorem lift_ok (l : List Nat) (n : Nat) (hl : l.length ≤ 2 ^ 40) (hn : n ≤ 2 ^ 40) : AC Tryz.prog 308 [cl l, ci n] none [cl (liftl n l)] := by
 refine AC.by_walk (rs := [.tmp 4]) ords Tryz.func308 (by rfl) (by rfl) (by rfl) (by rfl) (by rfl) ?_
 unfold liftl
 simp (disch := omega) only [wt, seval, reduceCtorEq, Nat.reduceEqDiff]
 refine if_by (fun hz => ?_) (fun hz => ?_)
 ·have hz : l.length = 0 := by omega
  simp (disch := omega) only [wt, seval, reduceCtorEq, Nat.reduceEqDiff, hz]
 ·have hz : ¬ l.length = 0 := by omega
  simp (disch := omega) only [wt, seval, reduceCtorEq, Nat.reduceEqDiff, hz]
def ProdOk (x y : Nat) : Prop := AC Tryz.prog 267 [cl (wd x), cl (wd y)] none [cl (wd (x * y))]
theorem halves_ok (x y : Nat) (m : Nat) (hm : m = ((wd y).length + 1) / 2) (ih : ∀ u v, (wd u).length ≤ m + 1 → (wd v).length ≤ m + 1 → ProdOk u v) (hxy : (wd x).length ≤ (wd y).length) (hl : (wd y).length ≤ 2 ^ 36) :
  AC Tryz.prog 293 [cl (wd x), cl (wd y)] none [cl (wd (x * y))] := by
 refine AC.by_walk (rs := [.tmp 4]) ords Tryz.func293 (by rfl) (by rfl) (by rfl) (by rfl) (by rfl) ?_
 have hq : Int.tdiv ((wd y).length + 1 : Int) 2 = (m : Int) := by rw [Int.tdiv_eq_ediv_of_nonneg (by omega)]; omega
 have hlt : ∀ z, (wd z).length ≤ 2 * m → (wd (z / W ^ m)).length ≤ m ∧ (wd (z % W ^ m)).length ≤ m := by
  intro z hz
  refine ⟨wd_len_le.mpr ?_, wd_len_le.mpr (Nat.mod_lt _ (W_pow_pos m))⟩
  rw [Nat.div_lt_iff_lt_mul (W_pow_pos m), ← Nat.pow_add, ← Nat.two_mul]
  exact wd_len_le.mp hz
 obtain ⟨hx1, hx0⟩ := hlt x (by omega)
 obtain ⟨hy1, hy0⟩ := hlt y (by omega)
 obtain ⟨hk, hle⟩ := kara x y (W ^ m) (W_pow_pos m) _ _ _ _ rfl rfl rfl rfl
 simp (disch := omega) only [wt, seval, reduceCtorEq, Nat.reduceEqDiff, hq]
 have c1 := mcut_ok (wd x) m (lim_wd x) (by omega) (by omega)
 have c2 := mcut_ok (wd y) m (lim_wd y) (by omega) (by omega)
 rw [nv_wd] at c1 c2
 refine call_by (c1) (by rfl) (by simp) ?_
 simp (disch := omega) only [wt, seval, reduceCtorEq, Nat.reduceEqDiff]
 refine call_by (c2) (by rfl) (by simp) ?_
 simp (disch := omega) only [wt, seval, reduceCtorEq, Nat.reduceEqDiff]
 generalize x / W ^ m = x1 at *
 generalize x % W ^ m = x0 at *
 generalize y / W ^ m = y1 at *
 generalize y % W ^ m = y0 at *
 have p1 := ih x1 y1 (by omega) (by omega)
 have p0 := ih x0 y0 (by omega) (by omega)
 have ax := wd_add_len x1 x0
 have ay := wd_add_len y1 y0
 have pm := ih (x1 + x0) (y1 + y0) (by omega) (by omega)
 unfold ProdOk at p1 p0 pm
 have l1 := wd_mul_len x1 y1
 have l0 := wd_mul_len x0 y0
 have lm := wd_mul_len (x1 + x0) (y1 + y0)
 refine call_by (p1) (by rfl) (by simp) ?_
 simp (disch := omega) only [wt, seval, reduceCtorEq, Nat.reduceEqDiff]
 refine call_by (p0) (by rfl) (by simp) ?_
 simp (disch := omega) only [wt, seval, reduceCtorEq, Nat.reduceEqDiff]
 have s1 := nadd_ok (wd x1) (wd x0) (lim_wd _) (lim_wd _) (by omega) (by omega)
 have s2 := nadd_ok (wd y1) (wd y0) (lim_wd _) (lim_wd _) (by omega) (by omega)
 have s3 := nadd_ok (wd (x1 * y1)) (wd (x0 * y0)) (lim_wd _) (lim_wd _) (by omega) (by omega)
 simp only [nv_wd] at s1 s2 s3
 have ls := wd_add_len (x1 * y1) (x0 * y0)
 refine call_by (s1) (by rfl) (by simp) ?_
 simp (disch := omega) only [wt, seval, reduceCtorEq, Nat.reduceEqDiff]
 refine call_by (s2) (by rfl) (by simp) ?_
 simp (disch := omega) only [wt, seval, reduceCtorEq, Nat.reduceEqDiff]
 refine call_by (pm) (by rfl) (by simp) ?_
 simp (disch := omega) only [wt, seval, reduceCtorEq, Nat.reduceEqDiff]
 refine call_by (s3) (by rfl) (by simp) ?_
 simp (disch := omega) only [wt, seval, reduceCtorEq, Nat.reduceEqDiff]
 have s4 := nsub_ok (wd ((x1 + x0) * (y1 + y0))) (wd (x1 * y1 + x0 * y0)) (lim_wd _) (lim_wd _) (by omega) (by omega)
 simp only [nv_wd, if_neg (Nat.not_lt.mpr hle)] at s4
 refine call_by (s4) (by rfl) (by simp) ?_
 simp (disch := omega) only [wt, seval, reduceCtorEq, Nat.reduceEqDiff]
 generalize hM : (x1 + x0) * (y1 + y0) - (x1 * y1 + x0 * y0) = M at *
 have lM : (wd M).length ≤ (wd ((x1 + x0) * (y1 + y0))).length := wd_len_mono (by omega)
 have e2m : (2 : Int) * (m : Int) = ((2 * m : Nat) : Int) := by omega
 rw [e2m]
 refine call_by ((lift_ok (wd (x1 * y1)) (2 * m) (by omega) (by omega))) (by rfl) (by simp) ?_
 simp (disch := omega) only [wt, seval, reduceCtorEq, Nat.reduceEqDiff]
 refine call_by ((lift_ok (wd M) m (by omega) (by omega))) (by rfl) (by simp) ?_
 simp (disch := omega) only [wt, seval, reduceCtorEq, Nat.reduceEqDiff]
 have ll1 := liftl_len (2 * m) (wd (x1 * y1))
 have ll2 := liftl_len m (wd M)
 have s5 := nadd_ok (liftl (2 * m) (wd (x1 * y1))) (liftl m (wd M)) (lim_liftl _ (lim_wd _)) (lim_liftl _ (lim_wd _)) (by omega) (by omega)
 rw [nv_liftl, nv_liftl, nv_wd, nv_wd] at s5
 refine call_by (s5) (by rfl) (by simp) ?_
 simp (disch := omega) only [wt, seval, reduceCtorEq, Nat.reduceEqDiff]
 have hxyl := wd_mul_len x y
 have e5 : W ^ (2 * m) * (x1 * y1) + W ^ m * M + x0 * y0 = x * y := by
  rw [← hk, Nat.two_mul, Nat.pow_add]
 have s6 := nadd_ok (wd (W ^ (2 * m) * (x1 * y1) + W ^ m * M)) (wd (x0 * y0)) (lim_wd _) (lim_wd _) (Nat.le_trans (wd_len_mono (Nat.le.intro e5)) (by omega)) (by omega)
 rw [nv_wd, nv_wd, e5] at s6
 refine call_by (s6) (by rfl) (by simp) ?_
 simp (disch := omega) only [wt, seval, reduceCtorEq, Nat.reduceEqDiff]
end Go.Proofs.YtdokaihemcnkmaaGreat

namespace Go.Proofs.YtdokaihemcnkmaaGreat
open Go Go.Proofs Go.AL
set_option linter.unusedSimpArgs false
set_option linter.unusedVariables false
theorem product_ok : ∀ (n x y : Nat), max (wd x).length (wd y).length ≤ n → (wd x).length ≤ 2 ^ 36 → (wd y).length ≤ 2 ^ 36 → ProdOk x y := by
 intro n
 induction n using Nat.strongRecOn with
 | _ n ih =>
 intro x y hn hx hy
 unfold ProdOk
 refine AC.by_walk (rs := [.tmp 4]) ords Tryz.func267 (by rfl) (by rfl) (by rfl) (by rfl) (by rfl) ?_
 simp (disch := omega) only [wt, seval, reduceCtorEq, Nat.reduceEqDiff]
 refine if_cut (fun f H => ∃ u v, (wd u).length ≤ (wd v).length ∧ (wd v).length ≤ 2 ^ 36 ∧ (wd v).length ≤ n ∧ u * v = x * y ∧ f 0 = .iv (.sl (lims (wd u))) ∧ f 1 = .iv (.sl (lims (wd v)))) ?_ ?_
 ·refine if_by (fun hz => ?_) (fun hz => ?_)
  ·simp (disch := omega) only [wt, seval, reduceCtorEq, Nat.reduceEqDiff]
   exact ⟨y, x, by omega, by omega, by omega, Nat.mul_comm _ _, rfl, rfl⟩
  ·simp (disch := omega) only [wt, seval, reduceCtorEq, Nat.reduceEqDiff]
   exact ⟨x, y, by omega, by omega, by omega, rfl, rfl, rfl⟩
 rintro f H ⟨u, v, huv, hv, hvn, e, h0, h1⟩
 rw [← e]
 clear e hn hx hy
 have hu : (wd u).length ≤ 2 ^ 36 := by omega
 simp (disch := omega) only [wt, seval, reduceCtorEq, Nat.reduceEqDiff, h0, h1]
 refine if_by (fun hz => ?_) (fun hz => ?_)
 ·have hz : u = 0 := wd_len_zero.mp (by omega)
  subst hz
  simp (disch := omega) only [wt, seval, reduceCtorEq, Nat.reduceEqDiff, Nat.zero_mul, wd_zero]
 simp (disch := omega) only [wt, seval, reduceCtorEq, Nat.reduceEqDiff, h0, h1]
 refine if_by (fun hz => ?_) (fun hz => ?_)
 ·simp (disch := omega) only [wt, seval, reduceCtorEq, Nat.reduceEqDiff, h0, h1]
  refine call_by ((halves_ok u v (((wd v).length + 1) / 2) rfl (fun a b ha hb => ih (((wd v).length + 1) / 2 + 1) (by omega) a b (by omega) (by omega) (by omega)) huv hv)) (by first | rfl | (simp only [tocvs, tocv, toboxes, tobox, updH_at, Nat.reduceEqDiff, ↓reduceIte, h0, h1]; rfl)) (by simp) ?_
  simp (disch := omega) only [wt, seval, reduceCtorEq, Nat.reduceEqDiff, h0, h1]
 simp (disch := omega) only [wt, seval, reduceCtorEq, Nat.reduceEqDiff, h0, h1]
 generalize hA : wd u = A at *
 generalize hB : wd v = B at *
 have lA : Lim A := by rw [← hA]; exact lim_wd u
 have lB : Lim B := by rw [← hB]; exact lim_wd v
 have eA : nv A = u := by rw [← hA]; exact nv_wd u
 have eB : nv B = v := by rw [← hB]; exact nv_wd v
 have eN : ((A.length : Int) + (B.length : Int)) = ((A.length + B.length : Nat) : Int) := by omega
 rw [eN]
 simp (disch := omega) only [wt, seval, reduceCtorEq, Nat.reduceEqDiff, h0, h1]
 refine aloop_by (fun f H => ∃ (i : Nat) (out : List Nat) (st : Nat), i ≤ A.length ∧ Lim out ∧ out.length = A.length + B.length ∧ nv (out.take (i + B.length)) = nv (A.take i) * nv B ∧
  f 1 = .iv (.sl (lims B)) ∧ f 5 = .hs 34 st ∧ f 35 = .iv (.sl (lims A)) ∧ f 36 = .iv (.int .i64 A.length) ∧ f 37 = .iv (.int .i64 i) ∧ H 34 = .blk false st 144 1 (lims out)) (fun f H => (A.length - intAt f 37).toNat) ?_ ?_
 ·refine ⟨0, List.replicate (A.length + B.length) 0, (H 34).stamp + 1, by omega, Lim.replicate _, by simp, ?_, by simp (disch := omega) only [wt, seval, reduceCtorEq, Nat.reduceEqDiff, h1], by simp (disch := omega) only [wt, seval, reduceCtorEq, Nat.reduceEqDiff], by simp (disch := omega) only [wt, seval, reduceCtorEq, Nat.reduceEqDiff, h0], by simp (disch := omega) only [wt, seval, reduceCtorEq, Nat.reduceEqDiff, h0], by simp (disch := omega) only [wt, seval, reduceCtorEq, Nat.reduceEqDiff], by simp (disch := omega) only [wt, seval, reduceCtorEq, Nat.reduceEqDiff, Int.toNat_natCast]⟩
  rw [List.take_replicate, Nat.zero_add]
  simp [nv, vl_replicate, vl]
 clear h0 h1
 rintro f H ⟨i, out, st, hi, hO, hOl, hOv, h1, h5, h35, h36, h37, hH⟩
 rw [intAt_of h37]
 simp (disch := omega) only [wt, seval, reduceCtorEq, Nat.reduceEqDiff, h1, h5, h35, h36, h37, hH]
 refine if_by (fun hlt => ?_) (fun hlt => ?_)
 ·simp (disch := omega) only [wt, seval, reduceCtorEq, Nat.reduceEqDiff, h1, h5, h35, h36, h37, hH]
  refine aloop_by (fun f H => ∃ (j c : Nat) (out : List Nat) (st : Nat), j ≤ B.length ∧ c < W ∧ Lim out ∧ out.length = A.length + B.length ∧ nv (out.take (i + B.length)) + W ^ (i + j) * c = nv (A.take i) * nv B + (W ^ i * A.getD i 0) * nv (B.take j) ∧
   f 1 = .iv (.sl (lims B)) ∧ f 5 = .hs 34 st ∧ f 6 = .iv (.int .i64 i) ∧ f 7 = .iv (.int .u64 (A.getD i 0 : Nat)) ∧ f 8 = .iv (.int .u64 c) ∧ f 35 = .iv (.sl (lims A)) ∧ f 36 = .iv (.int .i64 A.length) ∧ f 37 = .iv (.int .i64 i) ∧ f 42 = .iv (.sl (lims B)) ∧ f 43 = .iv (.int .i64 B.length) ∧ f 44 = .iv (.int .i64 j) ∧ H 34 = .blk false st 144 1 (lims out)) (fun f H => (B.length - intAt f 44).toNat) ?_ ?_
  ·refine ⟨0, 0, out, st, by omega, by decide, hO, hOl, ?_, by simp (disch := omega) only [wt, seval, reduceCtorEq, Nat.reduceEqDiff, h1], by simp (disch := omega) only [wt, seval, reduceCtorEq, Nat.reduceEqDiff, h5], by simp (disch := omega) only [wt, seval, reduceCtorEq, Nat.reduceEqDiff], by simp (disch := omega) only [wt, seval, reduceCtorEq, Nat.reduceEqDiff], by simp (disch := omega) only [wt, seval, reduceCtorEq, Nat.reduceEqDiff], by simp (disch := omega) only [wt, seval, reduceCtorEq, Nat.reduceEqDiff, h35], by simp (disch := omega) only [wt, seval, reduceCtorEq, Nat.reduceEqDiff, h36], by simp (disch := omega) only [wt, seval, reduceCtorEq, Nat.reduceEqDiff, h37], by simp (disch := omega) only [wt, seval, reduceCtorEq, Nat.reduceEqDiff], by simp (disch := omega) only [wt, seval, reduceCtorEq, Nat.reduceEqDiff], by simp (disch := omega) only [wt, seval, reduceCtorEq, Nat.reduceEqDiff], by simp (disch := omega) only [wt, seval, reduceCtorEq, Nat.reduceEqDiff, hH]⟩
   rw [hOv]; simp [nv, vl]
  have hAi := lA.get i
  clear h1 h5 h35 h36 h37 hH hOv hO hOl
  clear out st f H
  rintro f H ⟨j, c, out, st, hj, hc, hO, hOl, hOv, h1, h5, h6, h7, h8, h35, h36, h37, h42, h43, h44, hH⟩
  rw [intAt_of h44]
  simp (disch := omega) only [wt, seval, reduceCtorEq, Nat.reduceEqDiff, h1, h5, h6, h7, h8, h35, h36, h37, h42, h43, h44, hH]
  refine if_by (fun hlj => ?_) (fun hlj => ?_)
  ·simp (disch := omega) only [wt, seval, reduceCtorEq, Nat.reduceEqDiff, h1, h5, h6, h7, h8, h35, h36, h37, h42, h43, h44, hH]
   have eij : (i : Int) + (j : Int) = ((i + j : Nat) : Int) := by omega
   rw [eij]
   simp (disch := omega) only [wt, seval, reduceCtorEq, Nat.reduceEqDiff, h1, h5, h6, h7, h8, h35, h36, h37, h42, h43, h44, hH]
   have hBj := lB.get j
   have hOij := hO.get (i + j)
   refine call_by ((mulw_ok (B.getD j 0) (A.getD i 0) c (out.getD (i + j) 0) hBj hAi hc hOij)) (by first | rfl | (simp only [tocvs, tocv, toboxes, tobox, updH_at, Nat.reduceEqDiff, ↓reduceIte, h1, h5, h6, h7, h8, h35, h36, h37, h42, h43, h44, hH]; rfl)) (by simp) ?_
   simp (disch := omega) only [wt, seval, reduceCtorEq, Nat.reduceEqDiff, h1, h5, h6, h7, h8, h35, h36, h37, h42, h43, h44, hH]
   have hm : B.getD j 0 * A.getD i 0 ≤ 18446744073709551615 * 18446744073709551615 := Nat.mul_le_mul (by simp only [W] at hBj; omega) (by simp only [W] at hAi; omega)
   refine ⟨⟨j + 1, (B.getD j 0 * A.getD i 0 + c + out.getD (i + j) 0) / W, out.set (i + j) ((B.getD j 0 * A.getD i 0 + c + out.getD (i + j) 0) % W), st, by omega, by simp only [W] at *; omega, hO.set (Nat.mod_lt _ (by decide)), by simp [hOl], ?_, rfl, rfl, by omega, rfl⟩, by omega⟩
   have hT := nv_set_take (l := out) (k := i + j) (m := i + B.length) (by omega) (by omega) ((B.getD j 0 * A.getD i 0 + c + out.getD (i + j) 0) % W)
   have hN : nv (B.take (j + 1)) = nv (B.take j) + W ^ j * B.getD j 0 := vl_take_next W B j
   rw [hN, Nat.mul_add, ← Nat.add_assoc i j 1, Nat.pow_succ]
   have hR := row_step (A := B.getD j 0 * A.getD i 0) (hi := (B.getD j 0 * A.getD i 0 + c + out.getD (i + j) 0) / W) hOv hT (by rw [Nat.mul_comm]; exact Nat.div_add_mod _ _)
   rw [hR]
   congr 2
   rw [Nat.pow_add]; ac_rfl
  ·simp (disch := omega) only [wt, seval, reduceCtorEq, Nat.reduceEqDiff, h1, h5, h6, h7, h8, h35, h36, h37, h42, h43, h44, hH]
   have hjB : j = B.length := by omega
   subst hjB
   have eij : (i : Int) + (B.length : Int) = ((i + B.length : Nat) : Int) := by omega
   rw [eij]
   simp (disch := omega) only [wt, seval, reduceCtorEq, Nat.reduceEqDiff, h1, h5, h6, h7, h8, h35, h36, h37, h42, h43, h44, hH]
   refine ⟨⟨i + 1, out.set (i + B.length) c, st, by omega, hO.set hc, by simp [hOl], ?_, rfl, by omega, rfl⟩, by omega⟩
   rw [show i + 1 + B.length = (i + B.length) + 1 by omega]
   have hT : nv ((out.set (i + B.length) c).take (i + B.length + 1)) = nv (out.take (i + B.length)) + W ^ (i + B.length) * c := vl_take_set W (by omega) c
   have hN : nv (A.take (i + 1)) = nv (A.take i) + W ^ i * A.getD i 0 := vl_take_next W A i
   rw [List.take_length] at hOv
   rw [hT, hOv, hN, Nat.add_mul]
 ·simp (disch := omega) only [wt, seval, reduceCtorEq, Nat.reduceEqDiff, h1, h5, h35, h36, h37, hH]
  have hiA : i = A.length := by omega
  subst hiA
  rw [List.take_of_length_le (by omega), List.take_of_length_le (by omega), eA, eB] at hOv
  have t := trim_ok out (by omega)
  rw [← wd_nv hO, hOv] at t
  refine call_by (t) (by first | rfl | (simp only [tocvs, tocv, toboxes, tobox, updH_at, Nat.reduceEqDiff, ↓reduceIte, h1, h5, h35, h36, h37, hH]; rfl)) (by simp) ?_
  simp (disch := omega) only [wt, seval, reduceCtorEq, Nat.reduceEqDiff, h1, h5, h35, h36, h37, hH]
theorem mmul_ok (a b : List Nat) (ha : Lim a) (hb : Lim b) (hla : a.length ≤ 2 ^ 36) (hlb : b.length ≤ 2 ^ 36) : AC Tryz.prog 226 [cl a, cl b] none [cl (wd (nv a * nv b))] := by
 refine AC.by_walk (rs := [.tmp 4]) ords Tryz.func226 (by rfl) (by rfl) (by rfl) (by rfl) (by rfl) ?_
 have h1 := nv_len ha
 have h2 := nv_len hb
 simp (disch := omega) only [wt, seval, reduceCtorEq, Nat.reduceEqDiff]
 refine call_by ((norm_ok a ha (by omega))) (by rfl) (by simp) ?_
 simp (disch := omega) only [wt, seval, reduceCtorEq, Nat.reduceEqDiff]
 refine call_by ((norm_ok b hb (by omega))) (by rfl) (by simp) ?_
 simp (disch := omega) only [wt, seval, reduceCtorEq, Nat.reduceEqDiff]
 have p := product_ok _ (nv a) (nv b) (Nat.le_refl _) (by omega) (by omega)
 unfold ProdOk at p
 refine call_by (p) (by rfl) (by simp) ?_
 simp (disch := omega) only [wt, seval, reduceCtorEq, Nat.reduceEqDiff]
theorem zmul_ok (a b : RI) (ha : Sz (2 ^ 36) a) (hb : Sz (2 ^ 36) b) : AC Tryz.prog 133 [cr a, cr b] none [cz (iv a * iv b)] := by
 refine AC.by_walk (rs := [.cell 4 27]) ords Tryz.func133 (by rfl) (by rfl) (by rfl) (by rfl) (by rfl) ?_
 rw [iv_mul]
 have h1 := ha.1
 have h2 := hb.1
 simp (disch := omega) only [wt, seval, reduceCtorEq, Nat.reduceEqDiff]
 refine .inl ⟨tmps_by (by kernel_rfl), ?_⟩
 refine call_by ((mmul_ok a.2 b.2 ha.2 hb.2 (by omega) (by omega))) (by rfl) (by simp) ?_
 simp (disch := omega) only [wt, seval, reduceCtorEq, Nat.reduceEqDiff]
 have hb : (!(a.1 == b.1)) = (a.1 != b.1) := rfl
 rw [hb]
 refine call_by ((zof_ok (a.1 != b.1) (nv a.2 * nv b.2))) (by rfl) (by simp) ?_
 simp (disch := omega) only [wt, seval, reduceCtorEq, Nat.reduceEqDiff]
 first | exact log_by (by kernel_rfl) | refine ⟨log_by (by kernel_rfl), ?_⟩
end Go.Proofs.YtdokaihemcnkmaaGreat

namespace Go.Proofs.YtdokaihemcnkmaaGreat
open Go Go.Proofs Go.AL
set_option linter.unusedSimpArgs false
set_option linter.unusedVariables false
abbrev cw (p : List RI) : CV := .iv (.sl (raws p))
abbrev cp (q : List Int) : CV := .iv (.sl (cpoly q))
theorem cp_ext {p q : List Int} (h : ∀ k, cf p k = cf q k) : cp p = cp q := by unfold cp; rw [cpoly_ext h]
theorem wrap_neg_u64 {n : Int} (h : -9223372036854775808 ≤ n) (h' : n < 0) : IntKind.u64.wrap (0 - IntKind.u64.wrap n) = ((n.natAbs : Nat) : Int) := by
 simp only [IntKind.wrap, IntKind.signed, IntKind.bits, Bool.false_and, Bool.false_eq_true, if_false]
 omega
theorem wrap_pos_u64 {n : Int} (h : 0 ≤ n) (h' : n ≤ 9223372036854775807) : IntKind.u64.wrap n = ((n.natAbs : Nat) : Int) := by
 simp only [IntKind.wrap, IntKind.signed, IntKind.bits, Bool.false_and, Bool.false_eq_true, if_false]
 omega
theorem zOf_ok (n : Int) (h : -9223372036854775808 ≤ n) (h' : n ≤ 9223372036854775807) : AC Tryz.prog 131 [ci n] none [cz n] := by
 refine AC.by_walk (rs := [.cell 2 27]) ords Tryz.func131 (by rfl) (by rfl) (by rfl) (by rfl) (by rfl) ?_
 simp (disch := omega) only [wt, seval, reduceCtorEq, Nat.reduceEqDiff]
 refine if_by (fun hn => ?_) (fun hn => ?_)
 ·simp (disch := omega) only [wt, seval, reduceCtorEq, Nat.reduceEqDiff]
  rw [wrap_neg_u64 h hn]
  refine call_by ((nof_ok n.natAbs (by simp only [W]; omega))) (by rfl) (by simp) ?_
  simp (disch := omega) only [wt, seval, reduceCtorEq, Nat.reduceEqDiff]
  have e : n = sg true n.natAbs := by unfold sg; simp; omega
  have := zof_ok true n.natAbs
  rw [← e] at this
  refine call_by (this) (by rfl) (by simp) ?_
  simp (disch := omega) only [wt, seval, reduceCtorEq, Nat.reduceEqDiff]
 ·simp (disch := omega) only [wt, seval, reduceCtorEq, Nat.reduceEqDiff]
  rw [wrap_pos_u64 (by omega) h']
  refine call_by ((nof_ok n.natAbs (by simp only [W]; omega))) (by rfl) (by simp) ?_
  simp (disch := omega) only [wt, seval, reduceCtorEq, Nat.reduceEqDiff]
  have e : n = sg false n.natAbs := by unfold sg; simp; omega
  have := zof_ok false n.natAbs
  rw [← e] at this
  refine call_by (this) (by rfl) (by simp) ?_
  simp (disch := omega) only [wt, seval, reduceCtorEq, Nat.reduceEqDiff]
theorem size_ok (p : List RI) (h : RP (2 ^ 40) (2 ^ 40) p) : AC Tryz.prog 211 [cw p] none [ci (tz (pv p))] := by
 refine AC.by_walk (rs := [.tmp 2]) ords Tryz.func211 (by rfl) (by rfl) (by rfl) (by rfl) (by rfl) ?_
 have hl := h.1
 simp (disch := omega) only [wt, seval, reduceCtorEq, Nat.reduceEqDiff]
 refine aloop_by (fun f H => ∃ k : Nat, k ≤ p.length ∧ f 0 = .iv (.sl (raws p)) ∧ f 3 = .iv (.int .i64 k) ∧ tz ((pv p).take k) = tz (pv p)) (fun f H => (intAt f 3).toNat) ?_ ?_
 ·exact ⟨p.length, Nat.le_refl _, by simp (disch := omega) only [wt, seval, reduceCtorEq, Nat.reduceEqDiff], by simp (disch := omega) only [wt, seval, reduceCtorEq, Nat.reduceEqDiff], by rw [← pv_len p, List.take_length]⟩
 rintro f H ⟨k, hk, h0, h3, ht⟩
 rw [intAt_of h3]
 by_cases hc : 0 < (k : Int)
 ·simp (disch := omega) only [wt, seval, reduceCtorEq, Nat.reduceEqDiff, h0, h3, hc]
  have ek : ((k : Int) - 1).toNat = k - 1 := by omega
  have ek' : k = (k - 1) + 1 := by omega
  rw [ek]
  refine call_by ((zsign_ok (p.getD (k - 1) (false, [])) (h.get _))) (by first | rfl | (simp only [tocvs, tocv, toboxes, tobox, updH_at, Nat.reduceEqDiff, ↓reduceIte, h0, h3, hc]; rfl)) (by simp) ?_
  simp (disch := omega) only [wt, seval, reduceCtorEq, Nat.reduceEqDiff, h0, h3, hc]
  rw [← cf_pv]
  refine if_by (fun hz => ?_) (fun hz => ?_)
  ·simp (disch := omega) only [wt, seval, reduceCtorEq, Nat.reduceEqDiff, h0, h3]
   refine ⟨⟨k - 1, by omega, by omega, ?_⟩, by omega⟩
   rw [← tz_take_zero (k := k - 1) (by rw [pv_len]; omega) (Int.sign_eq_zero_iff_zero.mp hz), ← ek', ht]
  ·simp (disch := omega) only [wt, seval, reduceCtorEq, Nat.reduceEqDiff, h0, h3]
   rw [← ht, ek', tz_full (by rw [pv_len]; omega) (fun e => hz (Int.sign_eq_zero_iff_zero.mpr e))]
 ·simp (disch := omega) only [wt, seval, reduceCtorEq, Nat.reduceEqDiff, h0, h3, hc]
  obtain rfl : k = 0 := by omega
  rw [← ht]; rfl
theorem trimz_take_succ {q : List Int} {k : Nat} (h : k < tz q) : (trimz q).take (k + 1) = (trimz q).take k ++ [cf q k] := by
 rw [List.take_add_one]
 congr 1
 rw [← cf_trimz]
 have : k < (trimz q).length := by rw [trimz_len]; exact h
 simp [cf, List.getD, this]
theorem pnorm_ok (p : List RI) (h : RP (2 ^ 40) (2 ^ 40) p) : AC Tryz.prog 112 [cw p] none [cp (pv p)] := by
 refine AC.by_walk (rs := [.tmp 2]) ords Tryz.func112 (by rfl) (by rfl) (by rfl) (by rfl) (by rfl) ?_
 have hl := h.1
 have htl := tz_le (pv p)
 rw [pv_len] at htl
 simp (disch := omega) only [wt, seval, reduceCtorEq, Nat.reduceEqDiff]
 refine call_by ((size_ok p h)) (by rfl) (by simp) ?_
 simp (disch := omega) only [wt, seval, reduceCtorEq, Nat.reduceEqDiff]
 refine aloop_nil 3 3 27 2 (by simp (disch := omega) only [wt, seval, reduceCtorEq, Nat.reduceEqDiff]) (fun f H => ∃ (k st : Nat), k ≤ tz (pv p) ∧ f 0 = .iv (.sl (raws p)) ∧ f 3 = .hs 3 st ∧ f 6 = .iv (.int .i64 (tz (pv p))) ∧ f 7 = .iv (.int .i64 k) ∧ H 3 = .blk false st 27 2 (raws (((trimz (pv p)).take k).map canon))) (fun f H => (tz (pv p) - intAt f 7).toNat) ?_ ?_
 ·refine ⟨0, 1, by omega, ?_⟩
  simp (disch := omega) only [wt, seval, reduceCtorEq, Nat.reduceEqDiff, ghostF, ghostH, List.take_zero]
 rintro f H ⟨k, st, hk, h0, h3, h6, h7, hH⟩
 rw [intAt_of h7]
 simp (disch := omega) only [wt, seval, reduceCtorEq, Nat.reduceEqDiff, h0, h3, h6, h7, hH]
 refine if_by (fun hlt => ?_) (fun hlt => ?_)
 ·simp (disch := omega) only [wt, seval, reduceCtorEq, Nat.reduceEqDiff, h0, h3, h6, h7, hH]
  have hq : (((trimz (pv p)).take k).map canon).length = k := by rw [List.length_map, List.length_take, trimz_len]; omega
  refine call_by ((znorm_ok (p.getD k (false, [])) (h.get _))) (by first | rfl | (simp only [tocvs, tocv, toboxes, tobox, updH_at, Nat.reduceEqDiff, ↓reduceIte, h0, h3, h6, h7, hH, hq]; rfl)) (by simp) ?_
  simp (disch := omega) only [wt, seval, reduceCtorEq, Nat.reduceEqDiff, h0, h3, h6, h7, hH, hq]
  refine ⟨⟨k + 1, st + 1, by omega, rfl, by omega, ?_⟩, by omega⟩
  rw [trimz_take_succ (by omega), cf_pv]
 ·simp (disch := omega) only [wt, seval, reduceCtorEq, Nat.reduceEqDiff, h0, h3, h6, h7, hH]
  have hk : k = tz (pv p) := by omega
  rw [hk, List.take_of_length_le (by rw [trimz_len]; exact Nat.le_refl _)]
  rfl
theorem pat_ok (p : List RI) (i : Nat) (hl : p.length ≤ 2 ^ 40) (hi : i ≤ 2 ^ 40) : AC Tryz.prog 213 [cw p, ci i] none [cr (p.getD i (false, []))] := by
 refine AC.by_walk (rs := [.cell 4 27]) ords Tryz.func213 (by rfl) (by rfl) (by rfl) (by rfl) (by rfl) ?_
 have hi0 : ¬ (i : Int) < 0 := by omega
 simp (disch := omega) only [wt, seval, reduceCtorEq, Nat.reduceEqDiff, hi0]
 refine if_by (fun hn => ?_) (fun hn => ?_)
 ·simp (disch := omega) only [wt, seval, reduceCtorEq, Nat.reduceEqDiff]
  have e : p.getD i (false, []) = (false, []) := by rw [List.getD_eq_getElem?_getD, List.getElem?_eq_none (by omega)]; rfl
  rw [e]
 ·simp (disch := omega) only [wt, seval, reduceCtorEq, Nat.reduceEqDiff]
theorem pscale_ok (p : List RI) (c : RI) (hp : RP (2 ^ 30) (2 ^ 35) p) (hc : Sz (2 ^ 35) c) : AC Tryz.prog 116 [cw p, cr c] none [cp (pscale (iv c) (pv p))] := by
 refine AC.by_walk (rs := [.tmp 4]) ords Tryz.func116 (by rfl) (by rfl) (by rfl) (by rfl) (by rfl) ?_
 have hl := hp.1
 simp (disch := omega) only [wt, seval, reduceCtorEq, Nat.reduceEqDiff]
 refine aloop_by (fun f H => ∃ (i st st3 : Nat) (out : List Int), i ≤ p.length ∧ out.length = p.length ∧ (∀ k, zl (cf out k) ≤ 2 ^ 36) ∧ (∀ k, k < i → cf out k = cf (pv p) k * iv c) ∧
  f 0 = .iv (.sl (raws p)) ∧ f 3 = .hp 3 st3 0 0 ∧ f 5 = .hs 9 st ∧ f 11 = .iv (.int .i64 p.length) ∧ f 12 = .iv (.int .i64 i) ∧ H 9 = .blk false st 27 2 (raws (out.map canon)) ∧ H 3 = .blk false st3 27 2 [prow c]) (fun f H => (p.length - intAt f 12).toNat) ?_ ?_
 ·exact ⟨0, 1, 1, List.replicate p.length 0, by omega, by simp, fun k => by rw [cf_rep, zl_zero]; omega, fun k hk => by omega, by simp (disch := omega) only [wt, seval, reduceCtorEq, Nat.reduceEqDiff], by simp (disch := omega) only [wt, seval, reduceCtorEq, Nat.reduceEqDiff], by simp (disch := omega) only [wt, seval, reduceCtorEq, Nat.reduceEqDiff], by simp (disch := omega) only [wt, seval, reduceCtorEq, Nat.reduceEqDiff], by simp (disch := omega) only [wt, seval, reduceCtorEq, Nat.reduceEqDiff], by simp (disch := omega) only [wt, seval, reduceCtorEq, Nat.reduceEqDiff, Int.toNat_natCast, rep_canon], by simp (disch := omega) only [wt, seval, reduceCtorEq, Nat.reduceEqDiff]⟩
 rintro f H ⟨i, st, st3, out, hi, hol, hz, hv, h0, h3, h5, h11, h12, hH, hH3⟩
 rw [intAt_of h12]
 simp (disch := omega) only [wt, seval, reduceCtorEq, Nat.reduceEqDiff, h0, h3, h5, h11, h12, hH, hH3]
 refine if_by (fun hlt => ?_) (fun hlt => ?_)
 ·have hq : (out.map canon).length = p.length := by rw [List.length_map, hol]
  simp (disch := omega) only [wt, seval, reduceCtorEq, Nat.reduceEqDiff, h0, h3, h5, h11, h12, hH, hH3, hq]
  refine .inl ⟨tmps_by (by kernel_rfl), ?_⟩
  refine call_by ((zmul_ok (p.getD i (false, [])) c ((hp.get i).mono (by omega)) (hc.mono (by omega)))) (by first | rfl | (simp only [tocvs, tocv, toboxes, tobox, updH_at, Nat.reduceEqDiff, ↓reduceIte, h0, h3, h5, h11, h12, hH, hH3, hq]; rfl)) (by simp) ?_
  simp (disch := omega) only [wt, seval, reduceCtorEq, Nat.reduceEqDiff, h0, h3, h5, h11, h12, hH, hH3, hq]
  rw [← cf_pv]
  first | exact log_by (by kernel_rfl) | refine ⟨log_by (by kernel_rfl), ?_⟩
  refine ⟨⟨i + 1, st, st3, out.set i (cf (pv p) i * iv c), by omega, by simp [hol], fun k => ?_, fun k hk => ?_, rfl, rfl, by omega, rfl, rfl⟩, by omega⟩
  ·rw [cf_set (by omega)]
   split
   ·have := zl_mul (cf (pv p) i) (iv c)
    have := hp.pv.cf i
    have := zl_iv hc
    omega
   ·exact hz k
  ·rw [cf_set (by omega)]
   split
   ·rename_i e; rw [e]
   ·exact hv k (by omega)
 ·simp (disch := omega) only [wt, seval, reduceCtorEq, Nat.reduceEqDiff, h0, h3, h5, h11, h12, hH, hH3]
  have e : cp (pscale (iv c) (pv p)) = cp (pv (out.map canon)) := by
   refine cp_ext fun k => ?_
   rw [pv_canon, cf_pscale]
   by_cases hk : k < p.length
   ·exact (hv k (by omega)).symm
   ·rw [cf_ge (q := out) (by omega), cf_ge (by rw [pv_len]; omega)]; simp
  rw [e]
  refine call_by ((pnorm_ok (out.map canon) (RP.canon (.of (by omega) fun k => Nat.le_trans (hz k) (by omega))))) (by first | rfl | (simp only [tocvs, tocv, toboxes, tobox, updH_at, Nat.reduceEqDiff, ↓reduceIte, h0, h3, h5, h11, h12, hH, hH3]; rfl)) (by simp) ?_
  simp (disch := omega) only [wt, seval, reduceCtorEq, Nat.reduceEqDiff, h0, h3, h5, h11, h12, hH, hH3]
theorem pneg_ok (p : List RI) (hp : RP (2 ^ 30) (2 ^ 35) p) : AC Tryz.prog 115 [cw p] none [cp (pscale (-1) (pv p))] := by
 refine AC.by_walk (rs := [.tmp 2]) ords Tryz.func115 (by rfl) (by rfl) (by rfl) (by rfl) (by rfl) ?_
 simp (disch := omega) only [wt, seval, reduceCtorEq, Nat.reduceEqDiff]
 refine call_by ((zOf_ok (-1) (by omega) (by omega))) (by rfl) (by simp) ?_
 simp (disch := omega) only [wt, seval, reduceCtorEq, Nat.reduceEqDiff]
 have := pscale_ok p (canon (-1)) hp ((sz_canon (-1)).mono (by have : zl (-1) ≤ 1 := zl_le.mpr (by decide); omega))
 rw [iv_canon] at this
 refine call_by (this) (by rfl) (by simp) ?_
 simp (disch := omega) only [wt, seval, reduceCtorEq, Nat.reduceEqDiff]
theorem pdeg_ok (p : List RI) (h : RP (2 ^ 40) (2 ^ 40) p) : AC Tryz.prog 214 [cw p] none [ci ((tz (pv p) : Int) - 1)] := by
 refine AC.by_walk (rs := [.tmp 2]) ords Tryz.func214 (by rfl) (by rfl) (by rfl) (by rfl) (by rfl) ?_
 have hl := h.1
 have htl := tz_le (pv p)
 rw [pv_len] at htl
 simp (disch := omega) only [wt, seval, reduceCtorEq, Nat.reduceEqDiff]
 refine call_by ((size_ok p h)) (by rfl) (by simp) ?_
 simp (disch := omega) only [wt, seval, reduceCtorEq, Nat.reduceEqDiff]
end Go.Proofs.YtdokaihemcnkmaaGreat

namespace Go.Proofs.YtdokaihemcnkmaaGreat
open Go Go.Proofs Go.AL
set_option linter.unusedSimpArgs false
set_option linter.unusedVariables false
theorem pmul_ok (a b : List RI) (ha : RP (2 ^ 30) (2 ^ 35) a) (hb : RP (2 ^ 30) (2 ^ 35) b) : AC Tryz.prog 88 [cw a, cw b] none [cp (pmul (pv a) (pv b))] := by
 refine AC.by_walk (rs := [.tmp 4]) ords Tryz.func88 (by rfl) (by rfl) (by rfl) (by rfl) (by rfl) ?_
 have pa := ha.pv.trimz
 have pb := hb.pv.trimz
 have e0 : cp (pmul (pv a) (pv b)) = cp (pmul (trimz (pv a)) (trimz (pv b))) := by
  refine cp_ext fun k => ?_
  rw [cf_pmul, cf_pmul, cv_cf_congr (fun j => (cf_trimz (pv a) j).symm), cv_congr _ k (fun j => (cf_trimz (pv b) j).symm)]
 rw [e0]
 simp (disch := omega) only [wt, seval, reduceCtorEq, Nat.reduceEqDiff]
 refine call_by ((pnorm_ok a (ha.mono (by omega) (by omega)))) (by rfl) (by simp) ?_
 simp (disch := omega) only [wt, seval, reduceCtorEq, Nat.reduceEqDiff]
 refine call_by ((pnorm_ok b (hb.mono (by omega) (by omega)))) (by rfl) (by simp) ?_
 simp (disch := omega) only [wt, seval, reduceCtorEq, Nat.reduceEqDiff]
 unfold cpoly
 generalize trimz (pv a) = A at *
 generalize trimz (pv b) = B at *
 have hA := pa.1
 have hB := pb.1
 have hAl : (A.map canon).length = A.length := by simp
 have hBl : (B.map canon).length = B.length := by simp
 simp (disch := omega) only [wt, seval, reduceCtorEq, Nat.reduceEqDiff, hAl, hBl]
 by_cases hza : (A.length : Int) = 0
 ·have hA0 : A = [] := by rw [← List.length_eq_zero_iff]; omega
  subst hA0
  simp (disch := omega) only [wt, seval, reduceCtorEq, Nat.reduceEqDiff, hza, hBl]
  have : trimz (pmul [] B) = [] := by rw [← List.length_eq_zero_iff, trimz_len, tz_zero_iff]; intro k; rw [cf_pmul]; rfl
  unfold cpoly; rw [this]; rfl
 simp (disch := omega) only [wt, seval, reduceCtorEq, Nat.reduceEqDiff, hza, hAl, hBl]
 refine if_by (fun hzb => ?_) (fun hzb => ?_)
 ·have hB0 : B = [] := by rw [← List.length_eq_zero_iff]; omega
  subst hB0
  simp (disch := omega) only [wt, seval, reduceCtorEq, Nat.reduceEqDiff, hza, hAl]
  have : trimz (pmul A []) = [] := by
   rw [← List.length_eq_zero_iff, trimz_len, tz_zero_iff]; intro k; rw [cf_pmul, cv_none]
  unfold cpoly; rw [this]; rfl
 simp (disch := omega) only [wt, seval, reduceCtorEq, Nat.reduceEqDiff, hAl, hBl]
 have eN : (A.length : Int) + (B.length : Int) - 1 = ((A.length + B.length - 1 : Nat) : Int) := by omega
 rw [eN]
 simp (disch := omega) only [wt, seval, reduceCtorEq, Nat.reduceEqDiff, hAl, hBl]
 generalize hN : A.length + B.length - 1 = N at *
 refine aloop_by (fun f H => ∃ (i st : Nat) (out : List Int), i ≤ A.length ∧ out.length = N ∧ (∀ k, cf out k = cv (A.take i) (cf B) k) ∧
  f 0 = .iv (.sl (raws (A.map canon))) ∧ f 1 = .iv (.sl (raws (B.map canon))) ∧ f 5 = .hs 26 st ∧ f 28 = .iv (.int .i64 A.length) ∧ f 29 = .iv (.int .i64 i) ∧ H 26 = .blk false st 27 2 (raws (out.map canon))) (fun f H => (A.length - intAt f 29).toNat) ?_ ?_
 ·exact ⟨0, 1, List.replicate N 0, by omega, by simp, fun k => by rw [cf_rep]; rfl, by simp (disch := omega) only [wt, seval, reduceCtorEq, Nat.reduceEqDiff], by simp (disch := omega) only [wt, seval, reduceCtorEq, Nat.reduceEqDiff], by simp (disch := omega) only [wt, seval, reduceCtorEq, Nat.reduceEqDiff], by simp (disch := omega) only [wt, seval, reduceCtorEq, Nat.reduceEqDiff, hAl], by simp (disch := omega) only [wt, seval, reduceCtorEq, Nat.reduceEqDiff], by simp (disch := omega) only [wt, seval, reduceCtorEq, Nat.reduceEqDiff, Int.toNat_natCast, rep_canon]⟩
 rintro f H ⟨i, st, out, hi, hol, hv, h0, h1, h5, h28, h29, hH⟩
 rw [intAt_of h29]
 simp (disch := omega) only [wt, seval, reduceCtorEq, Nat.reduceEqDiff, h0, h1, h5, h28, h29, hH, hAl, hBl]
 refine if_by (fun hlt => ?_) (fun hlt => ?_)
 ·simp (disch := omega) only [wt, seval, reduceCtorEq, Nat.reduceEqDiff, h0, h1, h5, h28, h29, hH, hAl, hBl]
  refine aloop_by (fun f H => ∃ (j st : Nat) (out : List Int), j ≤ B.length ∧ out.length = N ∧ (∀ k, cf out k = cv (A.take i) (cf B) k + (if i ≤ k ∧ k < i + j then cf A i * cf B (k - i) else 0)) ∧
   f 0 = .iv (.sl (raws (A.map canon))) ∧ f 1 = .iv (.sl (raws (B.map canon))) ∧ f 5 = .hs 26 st ∧ f 6 = .iv (.int .i64 i) ∧ f 28 = .iv (.int .i64 A.length) ∧ f 29 = .iv (.int .i64 i) ∧ f 33 = .iv (.int .i64 B.length) ∧ f 34 = .iv (.int .i64 j) ∧ H 26 = .blk false st 27 2 (raws (out.map canon))) (fun f H => (B.length - intAt f 34).toNat) ?_ ?_
  ·refine ⟨0, st, out, by omega, hol, fun k => ?_, by simp (disch := omega) only [wt, seval, reduceCtorEq, Nat.reduceEqDiff, h0], by simp (disch := omega) only [wt, seval, reduceCtorEq, Nat.reduceEqDiff, h1], by simp (disch := omega) only [wt, seval, reduceCtorEq, Nat.reduceEqDiff, h5], by simp (disch := omega) only [wt, seval, reduceCtorEq, Nat.reduceEqDiff], by simp (disch := omega) only [wt, seval, reduceCtorEq, Nat.reduceEqDiff, h28], by simp (disch := omega) only [wt, seval, reduceCtorEq, Nat.reduceEqDiff, h29], by simp (disch := omega) only [wt, seval, reduceCtorEq, Nat.reduceEqDiff, hBl], by simp (disch := omega) only [wt, seval, reduceCtorEq, Nat.reduceEqDiff], by simp (disch := omega) only [wt, seval, reduceCtorEq, Nat.reduceEqDiff, hH]⟩
   rw [hv k, if_neg (by omega), Int.add_zero]
  clear h0 h1 h5 h28 h29 hH hv hol
  clear out st f H
  rintro f H ⟨j, st, out, hj, hol, hv, h0, h1, h5, h6, h28, h29, h33, h34, hH⟩
  rw [intAt_of h34]
  simp (disch := omega) only [wt, seval, reduceCtorEq, Nat.reduceEqDiff, h0, h1, h5, h6, h28, h29, h33, h34, hH]
  refine if_by (fun hlj => ?_) (fun hlj => ?_)
  ·have hq : (out.map canon).length = N := by rw [List.length_map, hol]
   have eij : (i : Int) + (j : Int) = ((i + j : Nat) : Int) := by omega
   simp (disch := omega) only [wt, seval, reduceCtorEq, Nat.reduceEqDiff, h0, h1, h5, h6, h28, h29, h33, h34, hH, hq, hAl, hBl]
   rw [eij]
   simp (disch := omega) only [wt, seval, reduceCtorEq, Nat.reduceEqDiff, h0, h1, h5, h6, h28, h29, h33, h34, hH, hq, hAl, hBl]
   refine .inl ⟨tmps_by (by kernel_rfl), ?_⟩
   have hAi := pa.cf i
   have hBj := pb.cf j
   have hprod := zl_mul (cf A i) (cf B j)
   have hold : cf out (i + j) = cv (A.take i) (cf B) (i + j) := by rw [hv, if_neg (by omega), Int.add_zero]
   have hzo : zl (cf out (i + j)) ≤ 2 ^ 35 + 2 ^ 35 + 1 := by rw [hold]; exact zl_cv (PB_take pa i) pb (by decide) _
   have m := zmul_ok (canon (cf A i)) (canon (cf B j)) ((sz_canon _).mono (by omega)) ((sz_canon _).mono (by omega))
   rw [iv_canon, iv_canon] at m
   refine call_by (m) (by first | rfl | (simp only [tocvs, tocv, toboxes, tobox, updH_at, Nat.reduceEqDiff, ↓reduceIte, h0, h1, h5, h6, h28, h29, h33, h34, hH, hq, hAl, hBl]; rfl)) (by simp) ?_
   simp (disch := omega) only [wt, seval, reduceCtorEq, Nat.reduceEqDiff, h0, h1, h5, h6, h28, h29, h33, h34, hH, hq, hAl, hBl]
   have s := zadd_ok (canon (cf out (i + j))) (canon (cf A i * cf B j)) ((sz_canon _).mono (by omega)) ((sz_canon _).mono (by omega))
   rw [iv_canon, iv_canon] at s
   refine call_by (s) (by first | rfl | (simp only [tocvs, tocv, toboxes, tobox, updH_at, Nat.reduceEqDiff, ↓reduceIte, h0, h1, h5, h6, h28, h29, h33, h34, hH, hq, hAl, hBl]; rfl)) (by simp) ?_
   simp (disch := omega) only [wt, seval, reduceCtorEq, Nat.reduceEqDiff, h0, h1, h5, h6, h28, h29, h33, h34, hH, hq, hAl, hBl]
   first | exact log_by (by kernel_rfl) | refine ⟨log_by (by kernel_rfl), ?_⟩
   refine ⟨⟨j + 1, st, out.set (i + j) (cf out (i + j) + cf A i * cf B j), by omega, by simp [hol], fun k => ?_, rfl, by omega, rfl⟩, by omega⟩
   rw [cf_set (by omega)]
   by_cases e : k = i + j
   ·subst e
    rw [if_pos rfl, if_pos ⟨by omega, by omega⟩, hold, Nat.add_sub_cancel_left]
   ·rw [if_neg e, hv k]
    by_cases hk : i ≤ k ∧ k < i + j
    ·rw [if_pos hk, if_pos ⟨hk.1, by omega⟩]
    ·rw [if_neg hk, if_neg (by omega)]
  ·simp (disch := omega) only [wt, seval, reduceCtorEq, Nat.reduceEqDiff, h0, h1, h5, h6, h28, h29, h33, h34, hH, hAl, hBl]
   refine ⟨⟨i + 1, st, out, by omega, hol, fun k => ?_, rfl, by omega, rfl⟩, by omega⟩
   rw [hv k, cv_take_succ]
   congr 1
   by_cases hk : i ≤ k
   ·rw [if_pos hk]
    by_cases hk2 : k < i + j
    ·rw [if_pos ⟨hk, hk2⟩]
    ·rw [if_neg (by omega), cf_ge (q := B) (by omega), Int.mul_zero]
   ·rw [if_neg hk, if_neg (by omega)]
 ·simp (disch := omega) only [wt, seval, reduceCtorEq, Nat.reduceEqDiff, h0, h1, h5, h28, h29, hH, hAl, hBl]
  have hiA : i = A.length := by omega
  have e : cp (pmul A B) = cp (pv (out.map canon)) := by
   refine cp_ext fun k => ?_
   rw [pv_canon, hv, cf_pmul, hiA, List.take_length]
  unfold cpoly at e
  rw [e]
  refine call_by ((pnorm_ok (out.map canon) (RP.canon (.of (by omega) fun k => by rw [hv]; exact Nat.le_trans (zl_cv (PB_take pa i) pb (by decide) k) (by omega))))) (by first | rfl | (simp only [tocvs, tocv, toboxes, tobox, updH_at, Nat.reduceEqDiff, ↓reduceIte, h0, h1, h5, h28, h29, hH, hAl, hBl]; rfl)) (by simp) ?_
  simp (disch := omega) only [wt, seval, reduceCtorEq, Nat.reduceEqDiff, h0, h1, h5, h28, h29, hH, hAl, hBl]
end Go.Proofs.YtdokaihemcnkmaaGreat

namespace Go.Proofs.YtdokaihemcnkmaaGreat
open Go Go.Proofs Go.AL
set_option linter.unusedSimpArgs false
set_option linter.unusedVariables false
theorem cp_ps {p q : List Int} (h : ps p = ps q) : cp p = cp q := cp_ext (ps_eq h)
theorem pbound_ok (n : Int) : AC Tryz.prog 209 [ci n] none [ci (if n < 0 then 3 else if 1000 < n then 13 else 0)] := by
 refine AC.by_walk (rs := [.tmp 2]) ords Tryz.func209 (by rfl) (by rfl) (by rfl) (by rfl) (by rfl) ?_
 simp (disch := omega) only [wt, seval, reduceCtorEq, Nat.reduceEqDiff, cpoly_len]
 refine if_by (fun h => ?_) (fun h => ?_)
 ·simp (disch := omega) only [wt, seval, reduceCtorEq, Nat.reduceEqDiff, cpoly_len, h]
 simp (disch := omega) only [wt, seval, reduceCtorEq, Nat.reduceEqDiff, cpoly_len, h]
 refine if_by (fun h' => ?_) (fun h' => ?_)
 ·simp (disch := omega) only [wt, seval, reduceCtorEq, Nat.reduceEqDiff, cpoly_len, h, h']
 simp (disch := omega) only [wt, seval, reduceCtorEq, Nat.reduceEqDiff, cpoly_len, h, h']
theorem pderiv_take {P : List Int} {i : Nat} (h : i + 1 < P.length + 1) (h0 : 0 < i) : pderiv (P.take (i + 1)) = pderiv (P.take i) ++ [cf P i * (i : Int)] := by
 have e : ∀ m, m ≤ P.length → pderiv (P.take m) = (List.range (m - 1)).map fun k => cf P (k + 1) * ((k + 1 : Nat) : Int) := by
  intro m hm
  rw [pderiv, List.length_take, Nat.min_eq_left hm]
  refine List.map_congr_left fun k hk => ?_
  have hk := List.mem_range.mp hk
  simp [cf, List.getD, List.getElem?_take, show k + 1 < m by omega]
 rw [e _ (by omega), e _ (by omega), show i + 1 - 1 = (i - 1) + 1 by omega, List.range_succ, List.map_append, List.map_singleton, show i - 1 + 1 = i by omega]
end Go.Proofs.YtdokaihemcnkmaaGreat

namespace Go.Proofs.YtdokaihemcnkmaaGreat
open Go Go.Proofs Go.AL
set_option linter.unusedSimpArgs false
set_option linter.unusedVariables false
def cn (q : List Int) : List RI := (trimz q).map canon
theorem cf_cn (q : List Int) (k : Nat) : cf (pv (cn q)) k = cf q k := by rw [cn, pv_canon, cf_trimz]
theorem ps_cn (q : List Int) : ps (pv (cn q)) = ps q := ps_ext (cf_cn q)
theorem rp_cn {n k : Nat} {q : List Int} (h : PB n k q) : RP n k (cn q) := RP.canon h.trimz
theorem cpoly_one : cpoly [1] = [prow (canon 1)] := by
 have : tz [1] = 1 := by rw [tz_cons]; simp [tz_zero_iff, cf_nil]
 simp [cpoly, trimz, this, raws]
end Go.Proofs.YtdokaihemcnkmaaGreat

namespace Go.Proofs.YtdokaihemcnkmaaGreat
open Go Go.Proofs Go.AL
set_option linter.unusedSimpArgs false
set_option linter.unusedVariables false
abbrev cd (l : List Nat) : CV := .iv (.sl (nums l))
theorem rdigit_ok (d : List Nat) (i : Nat) (hl : d.length ≤ 2 ^ 43) : AC Tryz.prog 288 [cd d, ci i] none [ci (d.getD i 0 : Nat)] := by
 refine AC.by_walk (rs := [.tmp 4]) ords Tryz.func288 (by rfl) (by rfl) (by rfl) (by rfl) (by rfl) ?_
 simp (disch := omega) only [wt, seval, reduceCtorEq, Nat.reduceEqDiff]
 refine if_by (fun h => ?_) (fun h => ?_)
 ·simp (disch := omega) only [wt, seval, reduceCtorEq, Nat.reduceEqDiff]
 ·simp (disch := omega) only [wt, seval, reduceCtorEq, Nat.reduceEqDiff]
  rw [List.getD_eq_getElem?_getD, List.getElem?_eq_none (by omega)]
  rfl
theorem rcut_ok (l : List Nat) (hl : l.length ≤ 2 ^ 43) : AC Tryz.prog 248 [cd l] none [cd (l.take (topN l))] := by
 refine AC.by_walk (rs := [.tmp 2]) ords Tryz.func248 (by rfl) (by rfl) (by rfl) (by rfl) (by rfl) ?_
 simp (disch := omega) only [wt, seval, reduceCtorEq, Nat.reduceEqDiff]
 have htl := topN_le l
 refine aloop_by (fun f H => ∃ k : Nat, k ≤ l.length ∧ f 0 = .iv (.sl (nums l)) ∧ f 3 = .iv (.int .i64 k) ∧ topN (l.take k) = topN l) (fun f H => (intAt f 3).toNat) ?_ ?_
 ·exact ⟨l.length, Nat.le_refl _, by simp (disch := omega) only [wt, seval, reduceCtorEq, Nat.reduceEqDiff], by simp (disch := omega) only [wt, seval, reduceCtorEq, Nat.reduceEqDiff], by rw [List.take_length]⟩
 rintro f H ⟨k, hk, h0, h3, ht⟩
 rw [intAt_of h3]
 by_cases hc : 0 < (k : Int)
 ·simp (disch := omega) only [wt, seval, reduceCtorEq, Nat.reduceEqDiff, h0, h3, hc]
  rw [show ((k : Int) - 1).toNat = k - 1 by omega]
  refine if_by (fun hz => ?_) (fun hz => ?_)
  ·simp (disch := omega) only [wt, seval, reduceCtorEq, Nat.reduceEqDiff, h0, h3]
   refine ⟨⟨k - 1, by omega, by omega, ?_⟩, by omega⟩
   have e : k = (k - 1) + 1 := by omega
   rw [← topN_take_zero (k := k - 1) (by omega) (by exact_mod_cast hz), ← e, ht]
  ·simp (disch := omega) only [wt, seval, reduceCtorEq, Nat.reduceEqDiff, h0, h3]
   have e := topN_full (l := l) (k := k - 1) (by omega) (by exact_mod_cast hz)
   rw [show k - 1 + 1 = k by omega, ht] at e
   rw [e]
 ·simp (disch := omega) only [wt, seval, reduceCtorEq, Nat.reduceEqDiff, h0, h3, hc]
  obtain rfl : k = 0 := by omega
  rw [← ht]; rfl
theorem rdigits_ok (a : List Nat) (h : Lim a) (hl : a.length ≤ 2 ^ 40) : AC Tryz.prog 279 [cl a] none [cd (dd a)] := by
 refine AC.by_walk (rs := [.tmp 2]) ords Tryz.func279 (by rfl) (by rfl) (by rfl) (by rfl) (by rfl) ?_
 simp (disch := omega) only [wt, seval, reduceCtorEq, Nat.reduceEqDiff]
 refine aloop_nil 3 3 3 1 (by simp (disch := omega) only [wt, seval, reduceCtorEq, Nat.reduceEqDiff]) (fun f H => ∃ (i st : Nat), i ≤ a.length ∧ f 0 = .iv (.sl (lims a)) ∧ f 3 = .hs 3 st ∧ f 4 = .iv (.int .i64 i) ∧ H 3 = .blk false st 3 1 (nums (dd (a.take i)))) (fun f H => (a.length - intAt f 4).toNat) ?_ ?_
 ·refine ⟨0, 1, by omega, ?_⟩
  simp (disch := omega) only [wt, seval, reduceCtorEq, Nat.reduceEqDiff, ghostF, ghostH, List.take_zero]
  rfl
 rintro f H ⟨i, st, hi, h0, h3, h4, hH⟩
 rw [intAt_of h4]
 simp (disch := omega) only [wt, seval, reduceCtorEq, Nat.reduceEqDiff, h0, h3, h4, hH]
 refine if_by (fun hlt => ?_) (fun hlt => ?_)
 ·simp (disch := omega) only [wt, seval, reduceCtorEq, Nat.reduceEqDiff, h0, h3, h4, hH]
  refine aloop_by (fun f H => ∃ (k st : Nat), k ≤ 4 ∧ f 0 = .iv (.sl (lims a)) ∧ f 3 = .hs 3 st ∧ f 4 = .iv (.int .i64 i) ∧ f 5 = .iv (.int .u64 (a.getD i 0 / D16 ^ k : Nat)) ∧ f 6 = .iv (.int .i64 k) ∧ H 3 = .blk false st 3 1 (nums (dd (a.take i) ++ dn k (a.getD i 0)))) (fun f H => (4 - intAt f 6).toNat) ?_ ?_
  ·refine ⟨0, st, by omega, by simp (disch := omega) only [wt, seval, reduceCtorEq, Nat.reduceEqDiff, h0], by simp (disch := omega) only [wt, seval, reduceCtorEq, Nat.reduceEqDiff, h3], by simp (disch := omega) only [wt, seval, reduceCtorEq, Nat.reduceEqDiff, h4], by simp (disch := omega) only [wt, seval, reduceCtorEq, Nat.reduceEqDiff, Nat.pow_zero, Nat.div_one], by simp (disch := omega) only [wt, seval, reduceCtorEq, Nat.reduceEqDiff], by simp (disch := omega) only [wt, seval, reduceCtorEq, Nat.reduceEqDiff, hH]; rw [show dn 0 (a.getD i 0) = [] from rfl, List.append_nil]⟩
  have hai := h.get i
  clear h0 h3 h4 hH
  clear st f H
  rintro f H ⟨k, st, hk, h0, h3, h4, h5, h6, hH⟩
  rw [intAt_of h6]
  simp (disch := omega) only [wt, seval, reduceCtorEq, Nat.reduceEqDiff, h0, h3, h4, h5, h6, hH]
  refine if_by (fun hlk => ?_) (fun hlk => ?_)
  ·have hl1 : (dd (a.take i)).length = 4 * i := by rw [dd_len, List.length_take, Nat.min_eq_left (by omega)]
   have hl2 : (dn k (a.getD i 0)).length = k := dn_len _ _
   simp (disch := omega) only [wt, seval, reduceCtorEq, Nat.reduceEqDiff, h0, h3, h4, h5, h6, hH, hl1, hl2]
   refine ⟨⟨k + 1, st + 1, by omega, rfl, ?_, by omega, ?_⟩, by omega⟩
   ·rw [Nat.pow_succ, ← Nat.div_div_eq_div_mul]
    exact wrap_nat (Nat.lt_of_le_of_lt (Nat.le_trans (Nat.div_le_self _ _) (Nat.div_le_self _ _)) hai)
   ·rw [dn_succ, List.append_assoc]
  ·simp (disch := omega) only [wt, seval, reduceCtorEq, Nat.reduceEqDiff, h0, h3, h4, h5, h6, hH]
   have hk4 : k = 4 := by omega
   subst hk4
   refine ⟨⟨i + 1, st, by omega, rfl, by omega, ?_⟩, by omega⟩
   rw [dd_take_succ a (by omega)]
 ·simp (disch := omega) only [wt, seval, reduceCtorEq, Nat.reduceEqDiff, h0, h3, h4, hH]
  rw [show i = a.length by omega, List.take_length]
theorem rwords_ok (d : List Nat) (n : Nat) (h : Dig d) (hl : d.length ≤ 2 ^ 43) (hn : n ≤ 2 ^ 41) : AC Tryz.prog 271 [cd d, ci n] none [cl (pad n (vl D16 (d.take (4 * n))))] := by
 refine AC.by_walk (rs := [.tmp 4]) ords Tryz.func271 (by rfl) (by rfl) (by rfl) (by rfl) (by rfl) ?_
 simp (disch := omega) only [wt, seval, reduceCtorEq, Nat.reduceEqDiff]
 refine aloop_by (fun f H => ∃ (i st : Nat) (out : List Nat), i ≤ n ∧ out.length = n ∧ Lim out ∧ nv (out.take i) = vl D16 (d.take (4 * i)) ∧ (∀ k, i ≤ k → out.getD k 0 = 0) ∧ f 0 = .iv (.sl (nums d)) ∧ f 1 = .iv (.int .i64 n) ∧ f 5 = .hs 9 st ∧ f 6 = .iv (.int .i64 i) ∧ H 9 = .blk false st 144 1 (lims out)) (fun f H => (n - intAt f 6).toNat) ?_ ?_
 ·refine ⟨0, 1, List.replicate n 0, by omega, by simp, Lim.replicate n, by simp [vl], fun k _ => ?_, by simp (disch := omega) only [wt, seval, reduceCtorEq, Nat.reduceEqDiff], by simp (disch := omega) only [wt, seval, reduceCtorEq, Nat.reduceEqDiff], by simp (disch := omega) only [wt, seval, reduceCtorEq, Nat.reduceEqDiff], by simp (disch := omega) only [wt, seval, reduceCtorEq, Nat.reduceEqDiff], by simp (disch := omega) only [wt, seval, reduceCtorEq, Nat.reduceEqDiff, Int.toNat_natCast]⟩
  rw [List.getD_eq_getElem?_getD, List.getElem?_replicate]; split <;> rfl
 rintro f H ⟨i, st, out, hi, hol, hO, hv, hz, h0, h1, h5, h6, hH⟩
 rw [intAt_of h6]
 simp (disch := omega) only [wt, seval, reduceCtorEq, Nat.reduceEqDiff, h0, h1, h5, h6, hH]
 refine if_by (fun hlt => ?_) (fun hlt => ?_)
 ·simp (disch := omega) only [wt, seval, reduceCtorEq, Nat.reduceEqDiff, h0, h1, h5, h6, hH]
  refine aloop_by (fun f H => ∃ (j st : Nat) (out : List Nat), j ≤ 4 ∧ out.length = n ∧ Lim out ∧ nv (out.take i) = vl D16 (d.take (4 * i)) ∧ (∀ k, i + 1 ≤ k → out.getD k 0 = 0) ∧ out.getD i 0 = vl D16 ((four d i).drop j) ∧
   f 0 = .iv (.sl (nums d)) ∧ f 1 = .iv (.int .i64 n) ∧ f 5 = .hs 9 st ∧ f 6 = .iv (.int .i64 i) ∧ f 7 = .iv (.int .i64 ((j : Int) - 1)) ∧ H 9 = .blk false st 144 1 (lims out)) (fun f H => (1 + intAt f 7).toNat) ?_ ?_
  ·refine ⟨4, st, out, by omega, hol, hO, hv, fun k hk => hz k (by omega), hz i (by omega), by simp (disch := omega) only [wt, seval, reduceCtorEq, Nat.reduceEqDiff, h0], by simp (disch := omega) only [wt, seval, reduceCtorEq, Nat.reduceEqDiff, h1], by simp (disch := omega) only [wt, seval, reduceCtorEq, Nat.reduceEqDiff, h5], by simp (disch := omega) only [wt, seval, reduceCtorEq, Nat.reduceEqDiff, h6], (by simp (disch := omega) only [wt, seval, reduceCtorEq, Nat.reduceEqDiff] <;> rfl), by simp (disch := omega) only [wt, seval, reduceCtorEq, Nat.reduceEqDiff, hH]⟩
  clear h0 h1 h5 h6 hH hz hv hO hol
  clear st out f H
  rintro f H ⟨j, st, out, hj, hol, hO, hv, hz, hi4, h0, h1, h5, h6, h7, hH⟩
  rw [intAt_of h7]
  by_cases hlj : (0 : Int) ≤ (j : Int) - 1
  ·simp (disch := omega) only [wt, seval, reduceCtorEq, Nat.reduceEqDiff, h0, h1, h5, h6, h7, hH, hlj]
   have e1 : ((4 : Int) * (i : Int) + ((j : Int) - 1)) = ((4 * i + (j - 1) : Nat) : Int) := by omega
   rw [e1]
   refine .inl ⟨tmps_by (by kernel_rfl), ?_⟩
   refine call_by ((rdigit_ok d (4 * i + (j - 1)) (by omega))) (by first | rfl | (simp only [tocvs, tocv, toboxes, tobox, updH_at, Nat.reduceEqDiff, ↓reduceIte, h0, h1, h5, h6, h7, hH]; rfl)) (by simp) ?_
   simp (disch := omega) only [wt, seval, reduceCtorEq, Nat.reduceEqDiff, h0, h1, h5, h6, h7, hH]
   have hd := h.get (4 * i + (j - 1))
   have hb := four_drop_lt h i (j - 1)
   have hf := four_drop d i (j := j - 1) (by omega)
   rw [show j - 1 + 1 = j by omega] at hb hf
   rw [← hi4] at hb hf
   have hw : IntKind.u64.wrap (IntKind.u64.wrap ((out.getD i 0 : Nat) * 65536 : Int) + IntKind.u64.wrap (d.getD (4 * i + (j - 1)) 0 : Nat)) = ((out.getD i 0 * 65536 + d.getD (4 * i + (j - 1)) 0 : Nat) : Int) := by
    rw [wrap_u64 (n := ((out.getD i 0 : Nat) * 65536 : Int)) (by omega), wrap_u64 (n := (d.getD (4 * i + (j - 1)) 0 : Nat)) (by simp only [D16] at hd; omega), wrap_u64 (by simp only [D16] at hd; omega)]
    omega
   rw [hw, lims_set]
   first | exact log_by (by kernel_rfl) | refine ⟨log_by (by kernel_rfl), ?_⟩
   refine ⟨⟨j - 1, st, out.set i (out.getD i 0 * 65536 + d.getD (4 * i + (j - 1)) 0), by omega, by simp [hol], hO.set (by simp only [D16, W] at *; omega), ?_, fun k hk => ?_, ?_, rfl, by omega, rfl⟩, by omega⟩
   ·rw [List.take_set_of_le (Nat.le_refl _)]; exact hv
   ·have := hz k hk
    simp only [List.getD, List.getElem?_set, if_neg (show ¬ i = k by omega)] at this ⊢
    exact this
   ·rw [hf]
    have hio : i < out.length := by omega
    have e : ∀ x, (out.set i x).getD i 0 = x := fun x => by simp [List.getD, hio]
    rw [e]; simp only [D16]; omega
  ·simp (disch := omega) only [wt, seval, reduceCtorEq, Nat.reduceEqDiff, h0, h1, h5, h6, h7, hH, hlj]
   have hj0 : j = 0 := by omega
   subst hj0
   refine ⟨⟨i + 1, st, out, by omega, hol, hO, ?_, hz, rfl, by omega, rfl⟩, by omega⟩
   have := vl_take_next W out i
   simp only [nv] at hv ⊢
   rw [this, hv, hi4, vl_four]; rfl
 ·simp (disch := omega) only [wt, seval, reduceCtorEq, Nat.reduceEqDiff, h0, h1, h5, h6, hH]
  have hin : i = n := by omega
  subst hin
  rw [List.take_of_length_le (by omega)] at hv
  rw [← hv, ← eq_pad hO hol (s := nv out) (by have := nv_lt hO; rw [hol] at this; rw [Nat.mod_eq_of_lt this])]
theorem rnumber_ok (d : List Nat) (h : Dig d) (hl : d.length ≤ 2 ^ 42) : AC Tryz.prog 236 [cd d] none [cl (wd (vl D16 d))] := by
 refine AC.by_walk (rs := [.tmp 2]) ords Tryz.func236 (by rfl) (by rfl) (by rfl) (by rfl) (by rfl) ?_
 have hlen : (dgD (vl D16 d)).length ≤ d.length := by rw [← dgD_of h, List.length_take]; omega
 simp (disch := omega) only [wt, seval, reduceCtorEq, Nat.reduceEqDiff]
 have c1 := rcut_ok d (by omega)
 rw [dgD_of h] at c1
 have e : ((dgD (vl D16 d)).length + 3 : Int).tdiv 4 = (((dgD (vl D16 d)).length + 3) / 4 : Nat) := by rw [Int.tdiv_eq_ediv_of_nonneg (by omega)]; omega
 refine call_by (c1) (by first | rfl | (simp only [tocvs, tocv, toboxes, tobox, updH_at, Nat.reduceEqDiff, ↓reduceIte, e]; rfl)) (by simp) ?_
 simp (disch := omega) only [wt, seval, reduceCtorEq, Nat.reduceEqDiff, e]
 have := rwords_ok (dgD (vl D16 d)) (((dgD (vl D16 d)).length + 3) / 4) (dgD_dig _) (by omega) (by omega)
 rw [List.take_of_length_le (by omega), vl_dgD, pad_wd] at this
 refine call_by (this) (by rfl) (by simp) ?_
 simp (disch := omega) only [wt, seval, reduceCtorEq, Nat.reduceEqDiff]
theorem rdig_ok (a : List Nat) (h : Lim a) (hl : a.length ≤ 2 ^ 40) : AC Tryz.prog 247 [cl a] none [cd (dgD (nv a))] := by
 refine AC.by_walk (rs := [.tmp 2]) ords Tryz.func247 (by rfl) (by rfl) (by rfl) (by rfl) (by rfl) ?_
 simp (disch := omega) only [wt, seval, reduceCtorEq, Nat.reduceEqDiff]
 refine call_by ((rdigits_ok a h hl)) (by rfl) (by simp) ?_
 simp (disch := omega) only [wt, seval, reduceCtorEq, Nat.reduceEqDiff]
 have := rcut_ok (dd a) (by rw [dd_len]; omega)
 rw [dgD_dd h] at this
 refine call_by (this) (by rfl) (by simp) ?_
 simp (disch := omega) only [wt, seval, reduceCtorEq, Nat.reduceEqDiff]
theorem rnorm_ok (a : List Nat) (h : Lim a) (hl : a.length ≤ 2 ^ 40) : AC Tryz.prog 207 [cl a] none [cl (wd (nv a))] := by
 refine AC.by_walk (rs := [.tmp 2]) ords Tryz.func207 (by rfl) (by rfl) (by rfl) (by rfl) (by rfl) ?_
 simp (disch := omega) only [wt, seval, reduceCtorEq, Nat.reduceEqDiff]
 refine call_by ((rdig_ok a h hl)) (by rfl) (by simp) ?_
 simp (disch := omega) only [wt, seval, reduceCtorEq, Nat.reduceEqDiff]
 have := rnumber_ok (dgD (nv a)) (dgD_dig _) (by have := dgD_len h; omega)
 rw [vl_dgD] at this
 refine call_by (this) (by rfl) (by simp) ?_
 simp (disch := omega) only [wt, seval, reduceCtorEq, Nat.reduceEqDiff]
theorem rI_ok (s : Bool) (a : List Nat) (h : Lim a) (hl : a.length ≤ 2 ^ 40) : AC Tryz.prog 174 [cb s, cl a] none [cz (sg s (nv a))] := by
 refine AC.by_walk (rs := [.cell 4 27]) ords Tryz.func174 (by rfl) (by rfl) (by rfl) (by rfl) (by rfl) ?_
 simp (disch := omega) only [wt, seval, reduceCtorEq, Nat.reduceEqDiff]
 refine call_by ((rnorm_ok a h hl)) (by rfl) (by simp) ?_
 simp (disch := omega) only [wt, seval, reduceCtorEq, Nat.reduceEqDiff]
 have hz : (0 < ((wd (nv a)).length : Int)) ↔ nv a ≠ 0 := by have := wd_len_zero (n := nv a); omega
 cases s
 ·simp (disch := omega) only [wt, seval, reduceCtorEq, Nat.reduceEqDiff]
  rw [canon_sg]; rfl
 ·simp (disch := omega) only [wt, seval, reduceCtorEq, Nat.reduceEqDiff]
  rw [canon_sg]
  have h' : decide (0 < (wd (nv a)).length) = decide (nv a ≠ 0) := by rw [decide_eq_decide]; omega
  simp [prow, splice, h']
theorem rword_ok (n : Nat) (hn : n < 9223372036854775808) : AC Tryz.prog 152 [ci n] none [cl (wd n)] := by
 refine AC.by_walk (rs := [.tmp 2]) ords Tryz.func152 (by rfl) (by rfl) (by rfl) (by rfl) (by rfl) ?_
 simp (disch := omega) only [wt, seval, reduceCtorEq, Nat.reduceEqDiff]
 have hd : Dig [n % 65536, n / 65536 % 65536, n / 65536 / 65536 % 65536, n / 65536 / 65536 / 65536] := by
  intro x hx
  simp only [List.mem_cons, List.not_mem_nil, or_false] at hx
  simp only [D16]
  omega
 have e : vl D16 [n % 65536, n / 65536 % 65536, n / 65536 / 65536 % 65536, n / 65536 / 65536 / 65536] = n := by
  simp only [vl, D16]; omega
 have := rnumber_ok _ hd (by simp)
 rw [e] at this
 refine call_by (this) (by rfl) (by simp) ?_
 simp (disch := omega) only [wt, seval, reduceCtorEq, Nat.reduceEqDiff]
theorem rZ_ok (n : Int) (h : -9223372036854775808 < n) (h' : n < 9223372036854775808) : AC Tryz.prog 134 [ci n] none [cz n] := by
 refine AC.by_walk (rs := [.cell 2 27]) ords Tryz.func134 (by rfl) (by rfl) (by rfl) (by rfl) (by rfl) ?_
 have hl : (wd n.natAbs).length ≤ 1 := wd_len_le.mpr (by simp only [W]; omega)
 simp (disch := omega) only [wt, seval, reduceCtorEq, Nat.reduceEqDiff]
 refine if_by (fun hn => ?_) (fun hn => ?_)
 ·simp (disch := omega) only [wt, seval, reduceCtorEq, Nat.reduceEqDiff]
  have e1 : (0 : Int) - n = (n.natAbs : Int) := by omega
  rw [e1]
  refine call_by ((rword_ok n.natAbs (by omega))) (by rfl) (by simp) ?_
  simp (disch := omega) only [wt, seval, reduceCtorEq, Nat.reduceEqDiff]
  have e : sg true n.natAbs = n := by unfold sg; simp; omega
  have := rI_ok true (wd n.natAbs) (lim_wd _) (by omega)
  rw [nv_wd, e] at this
  refine call_by (this) (by rfl) (by simp) ?_
  simp (disch := omega) only [wt, seval, reduceCtorEq, Nat.reduceEqDiff]
 ·simp (disch := omega) only [wt, seval, reduceCtorEq, Nat.reduceEqDiff]
  have e1 : n = (n.natAbs : Int) := by omega
  have c1 := rword_ok n.natAbs (by omega)
  rw [← e1] at c1
  refine call_by (c1) (by rfl) (by simp) ?_
  simp (disch := omega) only [wt, seval, reduceCtorEq, Nat.reduceEqDiff]
  have e : sg false n.natAbs = n := by unfold sg; simp; omega
  have := rI_ok false (wd n.natAbs) (lim_wd _) (by omega)
  rw [nv_wd, e] at this
  refine call_by (this) (by rfl) (by simp) ?_
  simp (disch := omega) only [wt, seval, reduceCtorEq, Nat.reduceEqDiff]
theorem rZero_ok (a : List Nat) (h : Lim a) (hl : a.length ≤ 2 ^ 40) : AC Tryz.prog 235 [cl a] none [cb (decide (nv a = 0))] := by
 refine AC.by_walk (rs := [.tmp 2]) ords Tryz.func235 (by rfl) (by rfl) (by rfl) (by rfl) (by rfl) ?_
 simp (disch := omega) only [wt, seval, reduceCtorEq, Nat.reduceEqDiff]
 refine call_by ((rdig_ok a h hl)) (by rfl) (by simp) ?_
 simp (disch := omega) only [wt, seval, reduceCtorEq, Nat.reduceEqDiff]
 have := dgD_len_zero (n := nv a)
 rw [decide_eq_decide]; omega
theorem rSign_ok (c : RI) (h : Sz (2 ^ 40) c) : AC Tryz.prog 201 [cr c] none [ci (iv c).sign] := by
 refine AC.by_walk (rs := [.tmp 2]) ords Tryz.func201 (by rfl) (by rfl) (by rfl) (by rfl) (by rfl) ?_
 simp (disch := omega) only [wt, seval, reduceCtorEq, Nat.reduceEqDiff]
 refine call_by ((rZero_ok c.2 h.2 h.1)) (by rfl) (by simp) ?_
 simp (disch := omega) only [wt, seval, reduceCtorEq, Nat.reduceEqDiff]
 refine if_by (fun hz => ?_) (fun hz => ?_)
 ·simp (disch := omega) only [wt, seval, reduceCtorEq, Nat.reduceEqDiff]
  unfold iv; rw [hz]; split <;> rfl
 ·simp (disch := omega) only [wt, seval, reduceCtorEq, Nat.reduceEqDiff]
  refine if_bool (fun hs => ?_) (fun hs => ?_)
  ·simp (disch := omega) only [wt, seval, reduceCtorEq, Nat.reduceEqDiff]
   unfold iv; rw [if_pos hs]; exact (Int.sign_eq_neg_one_of_neg (by omega)).symm
  ·simp (disch := omega) only [wt, seval, reduceCtorEq, Nat.reduceEqDiff]
   unfold iv; rw [hs]; exact (Int.sign_eq_one_of_pos (by simp; omega)).symm
theorem rsame_ok (a b : List Nat) (hla : a.length ≤ 2 ^ 43) (hlb : b.length ≤ 2 ^ 43) : AC Tryz.prog 178 [cl a, cl b] none [cb (decide (a = b))] := by
 refine AC.by_walk (rs := [.tmp 4]) ords Tryz.func178 (by rfl) (by rfl) (by rfl) (by rfl) (by rfl) ?_
 simp (disch := omega) only [wt, seval, reduceCtorEq, Nat.reduceEqDiff]
 refine if_by (fun hz => ?_) (fun hz => ?_)
 ·simp (disch := omega) only [wt, seval, reduceCtorEq, Nat.reduceEqDiff]
  exact (decide_eq_false (fun e => hz (by rw [e]))).symm
 have hl : a.length = b.length := by omega
 simp (disch := omega) only [wt, seval, reduceCtorEq, Nat.reduceEqDiff]
 refine aloop_by (fun f H => ∃ i : Nat, i ≤ a.length ∧ a.take i = b.take i ∧ f 0 = .iv (.sl (lims a)) ∧ f 1 = .iv (.sl (lims b)) ∧ f 5 = .iv (.int .i64 i)) (fun f H => (a.length - intAt f 5).toNat) ?_ ?_
 ·exact ⟨0, by omega, rfl, by simp (disch := omega) only [wt, seval, reduceCtorEq, Nat.reduceEqDiff], by simp (disch := omega) only [wt, seval, reduceCtorEq, Nat.reduceEqDiff], by simp (disch := omega) only [wt, seval, reduceCtorEq, Nat.reduceEqDiff]⟩
 rintro f H ⟨i, hi, he, h0, h1, h5⟩
 rw [intAt_of h5]
 simp (disch := omega) only [wt, seval, reduceCtorEq, Nat.reduceEqDiff, h0, h1, h5]
 refine if_by (fun hlt => ?_) (fun hlt => ?_)
 ·simp (disch := omega) only [wt, seval, reduceCtorEq, Nat.reduceEqDiff, h0, h1, h5]
  refine .inl ⟨tmps_by (by kernel_rfl), ?_⟩
  first | exact log_by (by kernel_rfl) | refine ⟨log_by (by kernel_rfl), ?_⟩
  refine if_by (fun hne => ?_) (fun hne => ?_)
  ·simp (disch := omega) only [wt, seval, reduceCtorEq, Nat.reduceEqDiff, h0, h1, h5]
   exact (decide_eq_false (fun e => hne (by rw [e]))).symm
  ·simp (disch := omega) only [wt, seval, reduceCtorEq, Nat.reduceEqDiff, h0, h1, h5]
   refine ⟨⟨i + 1, by omega, ?_, by omega⟩, by omega⟩
   have h1 : a.getD i 0 = b.getD i 0 := by omega
   have hia : i < a.length := by omega
   have hib : i < b.length := by omega
   rw [List.take_add_one, List.take_add_one, he, List.getElem?_eq_getElem hia, List.getElem?_eq_getElem hib]
   have e1 : a.getD i 0 = a[i] := by simp [List.getD, hia]
   have e2 : b.getD i 0 = b[i] := by simp [List.getD, hib]
   rw [← e1, ← e2, h1]
 ·simp (disch := omega) only [wt, seval, reduceCtorEq, Nat.reduceEqDiff, h0, h1, h5]
  rw [List.take_of_length_le (by omega), List.take_of_length_le (by omega)] at he
  exact (decide_eq_true he).symm
theorem rSame_ok (a b : List Nat) (hla : a.length ≤ 2 ^ 43) (hlb : b.length ≤ 2 ^ 43) : AC Tryz.prog 66 [cl a, cl b] none [cb (decide (a = b))] := by
 refine AC.by_walk (rs := [.tmp 4]) ords Tryz.func66 (by rfl) (by rfl) (by rfl) (by rfl) (by rfl) ?_
 simp (disch := omega) only [wt, seval, reduceCtorEq, Nat.reduceEqDiff]
 refine call_by ((rsame_ok a b hla hlb)) (by rfl) (by simp) ?_
 simp (disch := omega) only [wt, seval, reduceCtorEq, Nat.reduceEqDiff]
theorem rSameInt_ok (a b : RI) (hla : a.2.length ≤ 2 ^ 43) (hlb : b.2.length ≤ 2 ^ 43) : AC Tryz.prog 24 [cr a, cr b] none [cb (decide (a = b))] := by
 refine AC.by_walk (rs := [.tmp 4]) ords Tryz.func24 (by rfl) (by rfl) (by rfl) (by rfl) (by rfl) ?_
 cases hb : (a.1 == b.1)
 ·simp (disch := omega) only [wt, seval, reduceCtorEq, Nat.reduceEqDiff, hb]
  exact (decide_eq_false (fun e => by rw [e] at hb; simp at hb)).symm
 ·simp (disch := omega) only [wt, seval, reduceCtorEq, Nat.reduceEqDiff, hb]
  refine call_by ((rSame_ok a.2 b.2 hla hlb)) (by first | rfl | (simp only [tocvs, tocv, toboxes, tobox, updH_at, Nat.reduceEqDiff, ↓reduceIte, hb]; rfl)) (by simp) ?_
  simp (disch := omega) only [wt, seval, reduceCtorEq, Nat.reduceEqDiff, hb]
  have hb : a.1 = b.1 := by simpa using hb
  rw [decide_eq_decide]
  exact ⟨fun h => Prod.ext hb h, fun h => by rw [h]⟩
end Go.Proofs.YtdokaihemcnkmaaGreat

namespace Go.Proofs.YtdokaihemcnkmaaGreat
open Go Go.Proofs Go.AL
set_option linter.unusedSimpArgs false
set_option linter.unusedVariables false
theorem sZ_ok (n : Int) (h : -9223372036854775808 < n) (h' : n < 9223372036854775808) : AC Tryz.prog 199 [ci n] none [cz n] := by
 refine AC.by_walk (rs := [.cell 2 27]) ords Tryz.func199 (by rfl) (by rfl) (by rfl) (by rfl) (by rfl) ?_
 simp (disch := omega) only [wt, seval, reduceCtorEq, Nat.reduceEqDiff]
 refine call_by ((rZ_ok n h h')) (by rfl) (by simp) ?_
 simp (disch := omega) only [wt, seval, reduceCtorEq, Nat.reduceEqDiff]
theorem sown_ok (c : RI) (h : Sz (2 ^ 40) c) : AC Tryz.prog 202 [cr c] none [cz (iv c)] := by
 refine AC.by_walk (rs := [.cell 2 27]) ords Tryz.func202 (by rfl) (by rfl) (by rfl) (by rfl) (by rfl) ?_
 simp (disch := omega) only [wt, seval, reduceCtorEq, Nat.reduceEqDiff]
 refine call_by ((rI_ok c.1 c.2 h.2 h.1)) (by rfl) (by simp) ?_
 simp (disch := omega) only [wt, seval, reduceCtorEq, Nat.reduceEqDiff]
 rfl
theorem snorm_ok (p : List RI) (h : RP (2 ^ 40) (2 ^ 40) p) : AC Tryz.prog 94 [cw p] none [cp (pv p)] := by
 refine AC.by_walk (rs := [.tmp 2]) ords Tryz.func94 (by rfl) (by rfl) (by rfl) (by rfl) (by rfl) ?_
 have hl := h.1
 have htl := tz_le (pv p)
 rw [pv_len] at htl
 simp (disch := omega) only [wt, seval, reduceCtorEq, Nat.reduceEqDiff]
 refine aloop_by (fun f H => ∃ k : Nat, k ≤ p.length ∧ f 0 = .iv (.sl (raws p)) ∧ f 3 = .iv (.int .i64 k) ∧ tz ((pv p).take k) = tz (pv p)) (fun f H => (intAt f 3).toNat) ?_ ?_
 ·exact ⟨p.length, Nat.le_refl _, by simp (disch := omega) only [wt, seval, reduceCtorEq, Nat.reduceEqDiff], by simp (disch := omega) only [wt, seval, reduceCtorEq, Nat.reduceEqDiff], by rw [← pv_len p, List.take_length]⟩
 rintro f H ⟨k, hk, h0, h3, ht⟩
 rw [intAt_of h3]
 by_cases hc : 0 < (k : Int)
 ·simp (disch := omega) only [wt, seval, reduceCtorEq, Nat.reduceEqDiff, h0, h3, hc]
  have ek : ((k : Int) - 1).toNat = k - 1 := by omega
  have ek' : k = (k - 1) + 1 := by omega
  rw [ek]
  refine call_by ((rSign_ok (p.getD (k - 1) (false, [])) (h.get _))) (by first | rfl | (simp only [tocvs, tocv, toboxes, tobox, updH_at, Nat.reduceEqDiff, ↓reduceIte, h0, h3, hc]; rfl)) (by simp) ?_
  simp (disch := omega) only [wt, seval, reduceCtorEq, Nat.reduceEqDiff, h0, h3, hc]
  rw [← cf_pv]
  refine if_by (fun hz => ?_) (fun hz => ?_)
  ·simp (disch := omega) only [wt, seval, reduceCtorEq, Nat.reduceEqDiff, h0, h3]
   refine ⟨⟨k - 1, by omega, by omega, ?_⟩, by omega⟩
   rw [← tz_take_zero (k := k - 1) (by rw [pv_len]; omega) (Int.sign_eq_zero_iff_zero.mp hz), ← ek', ht]
  ·have hk : k = tz (pv p) := by
    have := tz_full (q := pv p) (k := k - 1) (by rw [pv_len]; omega) (fun e => hz (Int.sign_eq_zero_iff_zero.mpr e))
    rw [← ek', ht] at this; exact this.symm
   simp (disch := omega) only [wt, seval, reduceCtorEq, Nat.reduceEqDiff, h0, h3]
   refine aloop_nil 4 4 27 2 (by simp (disch := omega) only [wt, seval, reduceCtorEq, Nat.reduceEqDiff]) (fun f H => ∃ (k st : Nat), k ≤ tz (pv p) ∧ f 0 = .iv (.sl (raws p)) ∧ f 3 = .iv (.int .i64 (tz (pv p))) ∧ f 4 = .hs 4 st ∧ f 5 = .iv (.int .i64 k) ∧ H 4 = .blk false st 27 2 (raws (((trimz (pv p)).take k).map canon))) (fun f H => (tz (pv p) - intAt f 5).toNat) ?_ ?_
   ·refine ⟨0, (H 4).stamp + 1, by omega, ?_⟩
    simp (disch := omega) only [wt, seval, reduceCtorEq, Nat.reduceEqDiff, ghostF, ghostH, List.take_zero, h0, h3, hk]
   clear h0 h3 hk
   clear f H
   rintro f H ⟨k, st, hk, h0, h3, h4, h5, hH⟩
   rw [intAt_of h5]
   simp (disch := omega) only [wt, seval, reduceCtorEq, Nat.reduceEqDiff, h0, h3, h4, h5, hH]
   refine if_by (fun hlt => ?_) (fun hlt => ?_)
   ·simp (disch := omega) only [wt, seval, reduceCtorEq, Nat.reduceEqDiff, h0, h3, h4, h5, hH]
    have hq : (((trimz (pv p)).take k).map canon).length = k := by rw [List.length_map, List.length_take, trimz_len]; omega
    refine call_by ((sown_ok (p.getD k (false, [])) (h.get _))) (by first | rfl | (simp only [tocvs, tocv, toboxes, tobox, updH_at, Nat.reduceEqDiff, ↓reduceIte, h0, h3, h4, h5, hH, hq]; rfl)) (by simp) ?_
    simp (disch := omega) only [wt, seval, reduceCtorEq, Nat.reduceEqDiff, h0, h3, h4, h5, hH, hq]
    refine ⟨⟨k + 1, st + 1, by omega, rfl, by omega, ?_⟩, by omega⟩
    rw [trimz_take_succ (by omega), cf_pv]
   ·simp (disch := omega) only [wt, seval, reduceCtorEq, Nat.reduceEqDiff, h0, h3, h4, h5, hH]
    have hk : k = tz (pv p) := by omega
    rw [hk, List.take_of_length_le (by rw [trimz_len]; exact Nat.le_refl _)]
    rfl
 ·have hk : k = tz (pv p) := by
   obtain rfl : k = 0 := by omega
   rw [← ht]; rfl
  simp (disch := omega) only [wt, seval, reduceCtorEq, Nat.reduceEqDiff, h0, h3, hc]
  refine aloop_nil 4 4 27 2 (by simp (disch := omega) only [wt, seval, reduceCtorEq, Nat.reduceEqDiff]) (fun f H => ∃ (k st : Nat), k ≤ tz (pv p) ∧ f 0 = .iv (.sl (raws p)) ∧ f 3 = .iv (.int .i64 (tz (pv p))) ∧ f 4 = .hs 4 st ∧ f 5 = .iv (.int .i64 k) ∧ H 4 = .blk false st 27 2 (raws (((trimz (pv p)).take k).map canon))) (fun f H => (tz (pv p) - intAt f 5).toNat) ?_ ?_
  ·refine ⟨0, (H 4).stamp + 1, by omega, ?_⟩
   simp (disch := omega) only [wt, seval, reduceCtorEq, Nat.reduceEqDiff, ghostF, ghostH, List.take_zero, h0, h3, hk]
  clear h0 h3 hk
  clear f H
  rintro f H ⟨k, st, hk, h0, h3, h4, h5, hH⟩
  rw [intAt_of h5]
  simp (disch := omega) only [wt, seval, reduceCtorEq, Nat.reduceEqDiff, h0, h3, h4, h5, hH]
  refine if_by (fun hlt => ?_) (fun hlt => ?_)
  ·simp (disch := omega) only [wt, seval, reduceCtorEq, Nat.reduceEqDiff, h0, h3, h4, h5, hH]
   have hq : (((trimz (pv p)).take k).map canon).length = k := by rw [List.length_map, List.length_take, trimz_len]; omega
   refine call_by ((sown_ok (p.getD k (false, [])) (h.get _))) (by first | rfl | (simp only [tocvs, tocv, toboxes, tobox, updH_at, Nat.reduceEqDiff, ↓reduceIte, h0, h3, h4, h5, hH, hq]; rfl)) (by simp) ?_
   simp (disch := omega) only [wt, seval, reduceCtorEq, Nat.reduceEqDiff, h0, h3, h4, h5, hH, hq]
   refine ⟨⟨k + 1, st + 1, by omega, rfl, by omega, ?_⟩, by omega⟩
   rw [trimz_take_succ (by omega), cf_pv]
  ·simp (disch := omega) only [wt, seval, reduceCtorEq, Nat.reduceEqDiff, h0, h3, h4, h5, hH]
   have hk : k = tz (pv p) := by omega
   rw [hk, List.take_of_length_le (by rw [trimz_len]; exact Nat.le_refl _)]
   rfl
abbrev cis (l : List Int) : CV := .iv (.sl (ilims l))
theorem sof_ok (l : List Int) (hl : l.length ≤ 2 ^ 30) (h : ∀ z ∈ l, -9223372036854775808 < z ∧ z < 9223372036854775808) : AC Tryz.prog 89 [cis l] none [cp l] := by
 refine AC.by_walk (rs := [.tmp 2]) ords Tryz.func89 (by rfl) (by rfl) (by rfl) (by rfl) (by rfl) ?_
 simp (disch := omega) only [wt, seval, reduceCtorEq, Nat.reduceEqDiff]
 refine aloop_nil 3 3 27 2 (by simp (disch := omega) only [wt, seval, reduceCtorEq, Nat.reduceEqDiff]) (fun f H => ∃ (k st : Nat), k ≤ l.length ∧ f 0 = .iv (.sl (ilims l)) ∧ f 3 = .hs 3 st ∧ f 4 = .iv (.int .i64 k) ∧ H 3 = .blk false st 27 2 (raws ((l.take k).map canon))) (fun f H => (l.length - intAt f 4).toNat) ?_ ?_
 ·refine ⟨0, 1, by omega, ?_⟩
  simp (disch := omega) only [wt, seval, reduceCtorEq, Nat.reduceEqDiff, ghostF, ghostH, List.take_zero]
 rintro f H ⟨k, st, hk, h0, h3, h4, hH⟩
 rw [intAt_of h4]
 simp (disch := omega) only [wt, seval, reduceCtorEq, Nat.reduceEqDiff, h0, h3, h4, hH]
 refine if_by (fun hlt => ?_) (fun hlt => ?_)
 ·have hq : ((l.take k).map canon).length = k := by rw [List.length_map, List.length_take]; omega
  have hkl : k < l.length := by omega
  have hg : l.getD k 0 = l[k] := by simp [List.getD, hkl]
  have hb := h l[k] (List.getElem_mem hkl)
  simp (disch := omega) only [wt, seval, reduceCtorEq, Nat.reduceEqDiff, h0, h3, h4, hH, hq]
  rw [hg]
  refine call_by ((sZ_ok l[k] hb.1 hb.2)) (by first | rfl | (simp only [tocvs, tocv, toboxes, tobox, updH_at, Nat.reduceEqDiff, ↓reduceIte, h0, h3, h4, hH, hq]; rfl)) (by simp) ?_
  simp (disch := omega) only [wt, seval, reduceCtorEq, Nat.reduceEqDiff, h0, h3, h4, hH, hq]
  refine ⟨⟨k + 1, st + 1, by omega, rfl, by omega, ?_⟩, by omega⟩
  rw [List.take_add_one]
  simp [hkl]
 ·simp (disch := omega) only [wt, seval, reduceCtorEq, Nat.reduceEqDiff, h0, h3, h4, hH]
  have hk : k = l.length := by omega
  have hz : ∀ z : Int, -9223372036854775808 < z → z < 9223372036854775808 → zl z ≤ 1 := fun z h1 h2 => zl_le.mpr (by simp only [W]; omega)
  have := snorm_ok (l.map canon) (RP.canon ⟨by omega, fun z hz' => Nat.le_trans (hz z (h z hz').1 (h z hz').2) (by omega)⟩)
  rw [pv_canon] at this
  rw [hk, List.take_length] at hH
  refine call_by (this) (by first | rfl | (simp only [tocvs, tocv, toboxes, tobox, updH_at, Nat.reduceEqDiff, ↓reduceIte, h0, h3, h4, hH]; rfl)) (by simp) ?_
  simp (disch := omega) only [wt, seval, reduceCtorEq, Nat.reduceEqDiff, h0, h3, h4, hH]
theorem sform_ok (a b : List RI) (ha : RP (2 ^ 40) (2 ^ 43) a) (hb : RP (2 ^ 40) (2 ^ 43) b) : AC Tryz.prog 90 [cw a, cw b] none [cb (decide (a = b))] := by
 refine AC.by_walk (rs := [.tmp 4]) ords Tryz.func90 (by rfl) (by rfl) (by rfl) (by rfl) (by rfl) ?_
 have hla := ha.1
 have hlb := hb.1
 simp (disch := omega) only [wt, seval, reduceCtorEq, Nat.reduceEqDiff]
 refine if_by (fun hz => ?_) (fun hz => ?_)
 ·simp (disch := omega) only [wt, seval, reduceCtorEq, Nat.reduceEqDiff]
  exact (decide_eq_false (fun e => hz (by rw [e]))).symm
 have hl : a.length = b.length := by omega
 simp (disch := omega) only [wt, seval, reduceCtorEq, Nat.reduceEqDiff]
 refine aloop_by (fun f H => ∃ i : Nat, i ≤ a.length ∧ a.take i = b.take i ∧ f 0 = .iv (.sl (raws a)) ∧ f 1 = .iv (.sl (raws b)) ∧ f 5 = .iv (.int .i64 i)) (fun f H => (a.length - intAt f 5).toNat) ?_ ?_
 ·exact ⟨0, by omega, rfl, by simp (disch := omega) only [wt, seval, reduceCtorEq, Nat.reduceEqDiff], by simp (disch := omega) only [wt, seval, reduceCtorEq, Nat.reduceEqDiff], by simp (disch := omega) only [wt, seval, reduceCtorEq, Nat.reduceEqDiff]⟩
 rintro f H ⟨i, hi, he, h0, h1, h5⟩
 rw [intAt_of h5]
 simp (disch := omega) only [wt, seval, reduceCtorEq, Nat.reduceEqDiff, h0, h1, h5]
 refine if_by (fun hlt => ?_) (fun hlt => ?_)
 ·simp (disch := omega) only [wt, seval, reduceCtorEq, Nat.reduceEqDiff, h0, h1, h5]
  refine .inl ⟨tmps_by (by kernel_rfl), ?_⟩
  refine call_by ((rSameInt_ok (a.getD i (false, [])) (b.getD i (false, [])) (ha.get i).1 (hb.get i).1)) (by first | rfl | (simp only [tocvs, tocv, toboxes, tobox, updH_at, Nat.reduceEqDiff, ↓reduceIte, h0, h1, h5]; rfl)) (by simp) ?_
  simp (disch := omega) only [wt, seval, reduceCtorEq, Nat.reduceEqDiff, h0, h1, h5]
  first | exact log_by (by kernel_rfl) | refine ⟨log_by (by kernel_rfl), ?_⟩
  by_cases hne : a.getD i (false, []) = b.getD i (false, [])
  ·simp (disch := omega) only [wt, seval, reduceCtorEq, Nat.reduceEqDiff, h0, h1, h5, hne, Bool.not_true]
   refine ⟨⟨i + 1, by omega, ?_, by omega⟩, by omega⟩
   have hia : i < a.length := by omega
   have hib : i < b.length := by omega
   rw [List.take_add_one, List.take_add_one, he, List.getElem?_eq_getElem hia, List.getElem?_eq_getElem hib]
   have e1 : a.getD i (false, []) = a[i] := by simp [List.getD, hia]
   have e2 : b.getD i (false, []) = b[i] := by simp [List.getD, hib]
   rw [← e1, ← e2, hne]
  ·simp (disch := omega) only [wt, seval, reduceCtorEq, Nat.reduceEqDiff, h0, h1, h5, hne, Bool.not_false]
   exact (decide_eq_false (fun e => hne (by rw [e]))).symm
 ·simp (disch := omega) only [wt, seval, reduceCtorEq, Nat.reduceEqDiff, h0, h1, h5]
  rw [List.take_of_length_le (by omega), List.take_of_length_le (by omega)] at he
  exact (decide_eq_true he).symm
theorem slong_ok (a : List Nat) (hl : a.length ≤ 9223372036854775807) : AC Tryz.prog 91 [cl a] none [cb (decide (200 < a.length))] := by
 refine AC.by_walk (rs := [.tmp 2]) ords Tryz.func91 (by rfl) (by rfl) (by rfl) (by rfl) (by rfl) ?_
 simp (disch := omega) only [wt, seval, reduceCtorEq, Nat.reduceEqDiff]
 rw [decide_eq_decide]; omega
def gi (l : List RI) : Bool := l.any fun c => decide (200 < c.2.length)
def gp (ps : List (List RI)) : Bool := ps.any fun p => decide (40 < p.length) || gi p
theorem any_take_succ {α : Type} {g : α → Bool} {l : List α} {i : Nat} (hi : i < l.length) : (l.take (i + 1)).any g = ((l.take i).any g || g l[i]) := by
 rw [List.take_add_one, List.getElem?_eq_getElem hi, List.any_append]; simp only [Option.toList, List.any_cons, List.any_nil, Bool.or_false]
theorem any_of_get {α : Type} {g : α → Bool} {l : List α} {i : Nat} (hi : i < l.length) (h : g l[i] = true) : l.any g = true :=
 List.any_eq_true.mpr ⟨l[i], List.getElem_mem hi, h⟩
theorem sgints_ok (l : List RI) (hl : l.length ≤ 9223372036854775807) (h : ∀ c ∈ l, c.2.length ≤ 9223372036854775807) : AC Tryz.prog 9 [cw l] none [cb (gi l)] := by
 refine AC.by_walk (rs := [.tmp 2]) ords Tryz.func9 (by rfl) (by rfl) (by rfl) (by rfl) (by rfl) ?_
 simp (disch := omega) only [wt, seval, reduceCtorEq, Nat.reduceEqDiff]
 refine aloop_by (fun f H => ∃ i : Nat, i ≤ l.length ∧ gi (l.take i) = false ∧ f 0 = .iv (.sl (raws l)) ∧ f 3 = .iv (.int .i64 i)) (fun f H => (l.length - intAt f 3).toNat) ?_ ?_
 ·exact ⟨0, by omega, rfl, by simp (disch := omega) only [wt, seval, reduceCtorEq, Nat.reduceEqDiff], by simp (disch := omega) only [wt, seval, reduceCtorEq, Nat.reduceEqDiff]⟩
 rintro f H ⟨i, hi, he, h0, h3⟩
 rw [intAt_of h3]
 simp (disch := omega) only [wt, seval, reduceCtorEq, Nat.reduceEqDiff, h0, h3]
 refine if_by (fun hlt => ?_) (fun hlt => ?_)
 ·have hil : i < l.length := by omega
  have hg : l.getD i (false, []) = l[i] := by simp [List.getD, hil]
  simp (disch := omega) only [wt, seval, reduceCtorEq, Nat.reduceEqDiff, h0, h3]
  rw [hg]
  refine call_by ((slong_ok l[i].2 (h _ (List.getElem_mem hil)))) (by first | rfl | (simp only [tocvs, tocv, toboxes, tobox, updH_at, Nat.reduceEqDiff, ↓reduceIte, h0, h3]; rfl)) (by simp) ?_
  simp (disch := omega) only [wt, seval, reduceCtorEq, Nat.reduceEqDiff, h0, h3]
  refine if_by (fun hz => ?_) (fun hz => ?_)
  ·simp (disch := omega) only [wt, seval, reduceCtorEq, Nat.reduceEqDiff, h0, h3]
   exact (any_of_get hil (decide_eq_true hz)).symm
  ·simp (disch := omega) only [wt, seval, reduceCtorEq, Nat.reduceEqDiff, h0, h3]
   refine ⟨⟨i + 1, by omega, ?_, by omega⟩, by omega⟩
   unfold gi at he ⊢
   rw [any_take_succ hil, he, decide_eq_false hz]; rfl
 ·simp (disch := omega) only [wt, seval, reduceCtorEq, Nat.reduceEqDiff, h0, h3]
  rw [List.take_of_length_le (by omega)] at he
  exact he.symm
theorem sgreat_ok (ps : List (List RI)) (hl : ps.length ≤ 9223372036854775807) (h : ∀ p ∈ ps, p.length ≤ 9223372036854775807 ∧ ∀ c ∈ p, c.2.length ≤ 9223372036854775807) : AC Tryz.prog 8 [.iv (.sl (polys ps))] none [cb (gp ps)] := by
 refine AC.by_walk (rs := [.tmp 2]) ords Tryz.func8 (by rfl) (by rfl) (by rfl) (by rfl) (by rfl) ?_
 simp (disch := omega) only [wt, seval, reduceCtorEq, Nat.reduceEqDiff]
 refine aloop_by (fun f H => ∃ i : Nat, i ≤ ps.length ∧ gp (ps.take i) = false ∧ f 0 = .iv (.sl (polys ps)) ∧ f 3 = .iv (.int .i64 i)) (fun f H => (ps.length - intAt f 3).toNat) ?_ ?_
 ·exact ⟨0, by omega, rfl, by simp (disch := omega) only [wt, seval, reduceCtorEq, Nat.reduceEqDiff], by simp (disch := omega) only [wt, seval, reduceCtorEq, Nat.reduceEqDiff]⟩
 rintro f H ⟨i, hi, he, h0, h3⟩
 rw [intAt_of h3]
 simp (disch := omega) only [wt, seval, reduceCtorEq, Nat.reduceEqDiff, h0, h3]
 refine if_by (fun hlt => ?_) (fun hlt => ?_)
 ·have hil : i < ps.length := by omega
  have hg : ps.getD i [] = ps[i] := by simp [List.getD, hil]
  have hp := h ps[i] (List.getElem_mem hil)
  have hw : 40 < (ps[i].length : Int) ↔ 40 < ps[i].length := by omega
  by_cases hz : 40 < (ps[i].length : Int)
  ·simp (disch := omega) only [wt, seval, reduceCtorEq, Nat.reduceEqDiff, h0, h3, hg, hz]
   exact (any_of_get hil (by rw [decide_eq_true (hw.mp hz)]; rfl)).symm
  ·simp (disch := omega) only [wt, seval, reduceCtorEq, Nat.reduceEqDiff, h0, h3, hg, hz]
   refine call_by ((sgints_ok ps[i] hp.1 hp.2)) (by first | rfl | (simp only [tocvs, tocv, toboxes, tobox, updH_at, Nat.reduceEqDiff, ↓reduceIte, h0, h3, hg, hz]; rfl)) (by simp) ?_
   simp (disch := omega) only [wt, seval, reduceCtorEq, Nat.reduceEqDiff, h0, h3, hg, hz]
   have hz' : ¬ 40 < ps[i].length := fun h => hz (hw.mpr h)
   refine if_bool (fun hb => ?_) (fun hb => ?_)
   ·simp (disch := omega) only [wt, seval, reduceCtorEq, Nat.reduceEqDiff, h0, h3, hg, hz]
    exact (any_of_get hil (by rw [hb]; exact Bool.or_true _)).symm
   ·simp (disch := omega) only [wt, seval, reduceCtorEq, Nat.reduceEqDiff, h0, h3, hg, hz]
    refine ⟨⟨i + 1, by omega, ?_, by omega⟩, by omega⟩
    unfold gp at he ⊢
    rw [any_take_succ hil, he, decide_eq_false hz', hb]; rfl
 ·simp (disch := omega) only [wt, seval, reduceCtorEq, Nat.reduceEqDiff, h0, h3]
  rw [List.take_of_length_le (by omega)] at he
  exact he.symm
theorem same_ok (a b : List RI) (ha : RP (2 ^ 40) (2 ^ 43) a) (hb : RP (2 ^ 40) (2 ^ 43) b) : AC Tryz.prog 124 [cw a, cw b] none [cb (decide (a = b))] := by
 refine AC.by_walk (rs := [.tmp 4]) ords Tryz.func124 (by rfl) (by rfl) (by rfl) (by rfl) (by rfl) ?_
 simp (disch := omega) only [wt, seval, reduceCtorEq, Nat.reduceEqDiff]
 refine call_by ((sform_ok a b ha hb)) (by rfl) (by simp) ?_
 simp (disch := omega) only [wt, seval, reduceCtorEq, Nat.reduceEqDiff]
theorem small_pb (l : List Int) (n : Nat) (hl : l.length ≤ n) (h : ∀ z ∈ l, z.natAbs < W) : PB n 1 l := ⟨hl, fun z hz => zl_le.mpr (by simpa using h z hz)⟩
theorem awake_ok : AC Tryz.prog 7 [] none [cb true] := by
 refine AC.by_walk (rs := [.tmp 0]) ords Tryz.func7 (by rfl) (by rfl) (by rfl) (by rfl) (by rfl) ?_
 simp (disch := omega) only [wt, seval, reduceCtorEq, Nat.reduceEqDiff]
 refine call_by ((sof_ok [1, -1] (by decide) (by decide))) (by rfl) (by simp) ?_
 simp (disch := omega) only [wt, seval, reduceCtorEq, Nat.reduceEqDiff]
 have hm := pmul_ok [(false, [1]), (false, [1, 0]), (false, [])] ((trimz [1, -1]).map canon) ⟨by decide, by unfold Sz Lim; decide⟩ (RP.canon ((small_pb [1, -1] 2 (by decide) (by decide)).trimz.mono (by decide) (by decide)))
 have e : cp (pmul (pv [(false, [1]), (false, [1, 0]), (false, [])]) (pv ((trimz [1, -1]).map canon))) = cp [1, 0, -1] := by
  rw [pv_canon]
  unfold cp cpoly
  have : trimz (pmul (pv [(false, [1]), (false, [1, 0]), (false, [])]) (trimz [1, -1])) = trimz [1, 0, -1] := by decide
  rw [this]
 rw [e] at hm
 refine call_by (hm) (by rfl) (by simp) ?_
 simp (disch := omega) only [wt, seval, reduceCtorEq, Nat.reduceEqDiff]
 refine call_by ((sof_ok [1, 0, -1] (by decide) (by decide))) (by rfl) (by simp) ?_
 simp (disch := omega) only [wt, seval, reduceCtorEq, Nat.reduceEqDiff]
 have hp := RP.canon ((small_pb [1, 0, -1] 3 (by decide) (by decide)).trimz.mono (n' := 2 ^ 40) (k' := 2 ^ 43) (by decide) (by decide))
 have hs := sform_ok ((trimz [1, 0, -1]).map canon) ((trimz [1, 0, -1]).map canon) hp hp
 rw [decide_eq_true rfl] at hs
 refine call_by (hs) (by rfl) (by simp) ?_
 simp (disch := omega) only [wt, seval, reduceCtorEq, Nat.reduceEqDiff]
end Go.Proofs.YtdokaihemcnkmaaGreat

namespace Go.Proofs.YtdokaihemcnkmaaGreat
open Go Go.Proofs Go.AL
set_option linter.unusedSimpArgs false
set_option linter.unusedVariables false
def Raw (p : List RI) : Prop := p.length ≤ 9223372036854775807 ∧ ∀ c ∈ p, Sz (9223372036854775807) c
theorem great_sub {ps : List (List RI)} (h : gp ps = false) {p : List RI} (hp : p ∈ ps) (hr : Raw p) : RP 40 200 p := by
 unfold gp at h
 rw [List.any_eq_false] at h
 have := h p hp
 simp only [Bool.or_eq_true, decide_eq_true_eq, not_or, Bool.not_eq_true] at this
 refine ⟨by omega, fun c hc => ⟨?_, (hr.2 c hc).2⟩⟩
 have h2 := this.2
 unfold gi at h2
 rw [List.any_eq_false] at h2
 have := h2 c hc
 simp only [decide_eq_true_eq] at this
 omega
theorem great2_ok (a b : List RI) (ha : Raw a) (hb : Raw b) : AC Tryz.prog 8 [.iv (.sl (polys [a, b]))] none [cb (gp [a, b])] :=
 sgreat_ok [a, b] (by simp) (by
  intro p hp
  simp only [List.mem_cons, List.not_mem_nil, or_false] at hp
  rcases hp with rfl | rfl
  ·exact ⟨ha.1, fun c hc => (ha.2 c hc).1⟩
  ·exact ⟨hb.1, fun c hc => (hb.2 c hc).1⟩)
end Go.Proofs.YtdokaihemcnkmaaGreat

namespace Go.Proofs.YtdokaihemcnkmaaGreat
open Go Go.Proofs Go.AL
set_option linter.unusedSimpArgs false
set_option linter.unusedVariables false
theorem rplus_ok (a b : List Nat) (ha : Dig a) (hb : Dig b) (hla : a.length ≤ 2 ^ 42) (hlb : b.length ≤ 2 ^ 42) : AC Tryz.prog 261 [cd a, cd b] none [cd (dn (max a.length b.length + (vl D16 a + vl D16 b) / D16 ^ max a.length b.length) (vl D16 a + vl D16 b))] := by
 refine AC.by_walk (rs := [.tmp 4]) ords Tryz.func261 (by rfl) (by rfl) (by rfl) (by rfl) (by rfl) ?_
 generalize hn : max a.length b.length = n at *
 have hA := vlD_lt ha
 have hB := vlD_lt hb
 have hA2 : D16 ^ a.length ≤ D16 ^ n := Nat.pow_le_pow_right (by decide) (by omega)
 have hB2 : D16 ^ b.length ≤ D16 ^ n := Nat.pow_le_pow_right (by decide) (by omega)
 have hta : ∀ i, n ≤ i → vl D16 (a.take i) = vl D16 a := fun i hi => by rw [List.take_of_length_le (by omega)]
 have htb : ∀ i, n ≤ i → vl D16 (b.take i) = vl D16 b := fun i hi => by rw [List.take_of_length_le (by omega)]
 simp (disch := omega) only [wt, seval, reduceCtorEq, Nat.reduceEqDiff]
 refine aloop_nil 5 5 3 1 (by simp (disch := omega) only [wt, seval, reduceCtorEq, Nat.reduceEqDiff]) (fun f H => ∃ (i c st : Nat) (s : List Nat), (i ≤ n ∨ i = n + 1 ∧ D16 ^ n ≤ vl D16 a + vl D16 b) ∧ c ≤ 1 ∧ Dig s ∧ s.length = i ∧ vl D16 s + D16 ^ i * c = vl D16 (a.take i) + vl D16 (b.take i) ∧ f 7 = .iv (.int .i64 i) ∧ f 0 = .iv (.sl (nums a)) ∧ f 1 = .iv (.sl (nums b)) ∧ f 5 = .hs 5 st ∧ f 6 = .iv (.int .i64 c) ∧ H 5 = .blk false st 3 1 (nums s)) (fun f H => ((n : Int) + 2 - intAt f 7).toNat) ?_ ?_
 ·refine ⟨0, 0, 1, [], .inl (by omega), by omega, Dig.nil, rfl, by simp [vl], ?_⟩
  simp (disch := omega) only [wt, seval, reduceCtorEq, Nat.reduceEqDiff, ghostF, ghostH]
 rintro f H ⟨i, c, st, s, hi, hc, hS, hSl, hv, hF⟩
 rw [intAt_of hF.1]
 simp (disch := omega) only [wt, seval, reduceCtorEq, Nat.reduceEqDiff, hF]
 have hx := ha.get i
 have hy := hb.get i
 by_cases hgo : i < n ∨ 0 < c
 ·have h3 : (i : Int) < a.length ∨ (¬ (i : Int) < a.length ∧ (i : Int) < b.length) ∨ (¬ (i : Int) < a.length ∧ ¬ (i : Int) < b.length ∧ 0 < (c : Int)) := by omega
  have hin : i ≤ n := by
   rcases hi with hi | ⟨rfl, hi⟩
   ·exact hi
   ·rw [hta _ (by omega), htb _ (by omega)] at hv
    have h5 := vlD_lt hS
    rw [hSl] at h5
    have : c = 1 := by omega
    subst this
    have : D16 ^ (n + 1) = D16 ^ n * D16 := Nat.pow_succ ..
    have : 2 * D16 ^ n ≤ D16 ^ n * D16 := by rw [Nat.mul_comm]; exact Nat.mul_le_mul_left _ (by decide)
    omega
  have hnext : i + 1 ≤ n ∨ i + 1 = n + 1 ∧ D16 ^ n ≤ vl D16 a + vl D16 b := by
   by_cases hlt : i < n
   ·exact .inl (by omega)
   ·have : i = n := by omega
    subst this
    rw [hta _ (by omega), htb _ (by omega)] at hv
    have : c = 1 := by omega
    subst this
    exact .inr ⟨rfl, by omega⟩
  have hstep : ∀ t, t = c + (a.getD i 0 + b.getD i 0) → Dig (s ++ [t % 65536]) ∧ vl D16 (s ++ [t % 65536]) + D16 ^ (i + 1) * (t / 65536) = vl D16 (a.take (i + 1)) + vl D16 (b.take (i + 1)) := by
   intro t ht
   refine ⟨hS.snoc (Nat.mod_lt _ (by decide)), ?_⟩
   rw [vlD_snoc, vl_take_next, vl_take_next, hSl, Nat.pow_succ]
   exact carryD hv (by rw [ht]; simp only [D16]; omega)
  have e1 : (c : Int) + ((a.getD i 0 : Nat) + (b.getD i 0 : Nat) : Int) = ((c + (a.getD i 0 + b.getD i 0) : Nat) : Int) := by omega
  simp only [D16] at hx hy
  rcases h3 with h | ⟨h, h'⟩ | ⟨h, h', h''⟩
  all_goals
   first | simp (disch := omega) only [wt, seval, reduceCtorEq, Nat.reduceEqDiff, hF, h, h', h''] | simp (disch := omega) only [wt, seval, reduceCtorEq, Nat.reduceEqDiff, hF, h, h'] | simp (disch := omega) only [wt, seval, reduceCtorEq, Nat.reduceEqDiff, hF, h]
   refine call_by ((rdigit_ok a i (by omega))) (by first | rfl | (simp only [tocvs, tocv, toboxes, tobox, updH_at, Nat.reduceEqDiff, ↓reduceIte, hF]; rfl)) (by simp) ?_
   simp (disch := omega) only [wt, seval, reduceCtorEq, Nat.reduceEqDiff, hF]
   refine call_by ((rdigit_ok b i (by omega))) (by first | rfl | (simp only [tocvs, tocv, toboxes, tobox, updH_at, Nat.reduceEqDiff, ↓reduceIte, hF]; rfl)) (by simp) ?_
   simp (disch := omega) only [wt, seval, reduceCtorEq, Nat.reduceEqDiff, hF]
   rw [e1]
   simp (disch := omega) only [wt, seval, reduceCtorEq, Nat.reduceEqDiff, hF, hSl]
   obtain ⟨a1, a2⟩ := hstep _ rfl
   exact ⟨⟨i + 1, _, st + 1, s ++ [_], hnext, by omega, a1, by simp [hSl], a2, by omega, rfl, rfl, rfl⟩, by omega⟩
 ·have h1 : ¬ (i : Int) < a.length := by omega
  have h2 : ¬ (i : Int) < b.length := by omega
  have h3 : ¬ 0 < (c : Int) := by omega
  simp (disch := omega) only [wt, seval, reduceCtorEq, Nat.reduceEqDiff, hF, h1, h2, h3]
  have : c = 0 := by omega
  subst this
  rw [hta _ (by omega), htb _ (by omega), Nat.mul_zero, Nat.add_zero] at hv
  have h5 := vlD_lt hS
  rw [hSl] at h5
  have e : s = dn (n + (vl D16 a + vl D16 b) / D16 ^ n) (vl D16 a + vl D16 b) := by
   have hD : D16 ^ (n + 1) = D16 ^ n * D16 := Nat.pow_succ ..
   have hlen : i = n + (vl D16 a + vl D16 b) / D16 ^ n := by
    rcases hi with hi | ⟨rfl, hi⟩
    ·have : i = n := by omega
     subst this
     rw [Nat.div_eq_of_lt (by omega), Nat.add_zero]
    ·rw [Nat.div_eq_of_lt_le (k := 1) (by omega) (by omega)]
   rw [← hlen]
   exact eq_dn hS hSl (by rw [hv, Nat.mod_eq_of_lt (by omega)])
  rw [e]
theorem rminus_ok (a b : List Nat) (ha : Dig a) (hb : Dig b) (hla : a.length ≤ 2 ^ 42) (hlb : b.length ≤ a.length) (hle : vl D16 b ≤ vl D16 a) : AC Tryz.prog 268 [cd a, cd b] none [cd (dn a.length (vl D16 a - vl D16 b))] := by
 refine AC.by_walk (rs := [.tmp 4]) ords Tryz.func268 (by rfl) (by rfl) (by rfl) (by rfl) (by rfl) ?_
 simp (disch := omega) only [wt, seval, reduceCtorEq, Nat.reduceEqDiff]
 refine aloop_nil 5 5 3 1 (by simp (disch := omega) only [wt, seval, reduceCtorEq, Nat.reduceEqDiff]) (fun f H => ∃ (i c st : Nat) (s : List Nat), i ≤ a.length ∧ c ≤ 1 ∧ Dig s ∧ s.length = i ∧ vl D16 s + vl D16 (b.take i) = vl D16 (a.take i) + D16 ^ i * c ∧ f 7 = .iv (.int .i64 i) ∧ f 0 = .iv (.sl (nums a)) ∧ f 1 = .iv (.sl (nums b)) ∧ f 5 = .hs 5 st ∧ f 6 = .iv (.int .i64 c) ∧ H 5 = .blk false st 3 1 (nums s)) (fun f H => (a.length - intAt f 7).toNat) ?_ ?_
 ·refine ⟨0, 0, 1, [], by omega, by omega, Dig.nil, rfl, by simp [vl], ?_⟩
  simp (disch := omega) only [wt, seval, reduceCtorEq, Nat.reduceEqDiff, ghostF, ghostH]
 rintro f H ⟨i, c, st, s, hi, hc, hS, hSl, hv, hF⟩
 rw [intAt_of hF.1]
 simp (disch := omega) only [wt, seval, reduceCtorEq, Nat.reduceEqDiff, hF]
 refine if_by (fun hlt => ?_) (fun hlt => ?_)
 ·have hx := ha.get i
  have hy := hb.get i
  have hstep : ∀ t c', t < D16 → t + b.getD i 0 + c = a.getD i 0 + D16 * c' → Dig (s ++ [t]) ∧ vl D16 (s ++ [t]) + vl D16 (b.take (i + 1)) = vl D16 (a.take (i + 1)) + D16 ^ (i + 1) * c' := by
   intro t c' ht h
   refine ⟨hS.snoc ht, ?_⟩
   rw [vlD_snoc, vl_take_next, vl_take_next, hSl, Nat.pow_succ]
   exact borrowD hv h
  simp only [D16] at hx hy hstep
  simp (disch := omega) only [wt, seval, reduceCtorEq, Nat.reduceEqDiff, hF]
  refine call_by ((rdigit_ok a i (by omega))) (by first | rfl | (simp only [tocvs, tocv, toboxes, tobox, updH_at, Nat.reduceEqDiff, ↓reduceIte, hF]; rfl)) (by simp) ?_
  simp (disch := omega) only [wt, seval, reduceCtorEq, Nat.reduceEqDiff, hF]
  refine call_by ((rdigit_ok b i (by omega))) (by first | rfl | (simp only [tocvs, tocv, toboxes, tobox, updH_at, Nat.reduceEqDiff, ↓reduceIte, hF]; rfl)) (by simp) ?_
  simp (disch := omega) only [wt, seval, reduceCtorEq, Nat.reduceEqDiff, hF]
  refine if_by (fun hneg => ?_) (fun hneg => ?_)
  ·have e1 : (a.getD i 0 : Int) - (b.getD i 0 : Int) - (c : Int) + 65536 = ((a.getD i 0 + 65536 - b.getD i 0 - c : Nat) : Int) := by omega
   simp (disch := omega) only [wt, seval, reduceCtorEq, Nat.reduceEqDiff, hF]
   rw [e1]
   simp (disch := omega) only [wt, seval, reduceCtorEq, Nat.reduceEqDiff, hF, hSl]
   obtain ⟨a1, a2⟩ := hstep (a.getD i 0 + 65536 - b.getD i 0 - c) 1 (by omega) (by omega)
   exact ⟨⟨i + 1, 1, st + 1, _, by omega, by omega, a1, by simp [hSl], a2, by omega, rfl, rfl, rfl⟩, by omega⟩
  ·have e1 : (a.getD i 0 : Int) - (b.getD i 0 : Int) - (c : Int) = ((a.getD i 0 - b.getD i 0 - c : Nat) : Int) := by omega
   rw [e1]
   simp (disch := omega) only [wt, seval, reduceCtorEq, Nat.reduceEqDiff, hF, hSl]
   obtain ⟨a1, a2⟩ := hstep (a.getD i 0 - b.getD i 0 - c) 0 (by omega) (by omega)
   exact ⟨⟨i + 1, 0, st + 1, _, by omega, by omega, a1, by simp [hSl], a2, by omega, rfl, rfl, rfl⟩, by omega⟩
 ·simp (disch := omega) only [wt, seval, reduceCtorEq, Nat.reduceEqDiff, hF]
  have hin : i = a.length := by omega
  rw [List.take_of_length_le (by omega), List.take_of_length_le (by omega)] at hv
  have h5 := vlD_lt hS
  rw [hSl] at h5
  have : c = 0 ∨ c = 1 := by omega
  have e : s = dn a.length (vl D16 a - vl D16 b) := by
   refine eq_dn hS (by omega) ?_
   rw [← hin]
   rcases this with rfl | rfl
   ·rw [Nat.mod_eq_of_lt (by omega)]; omega
   ·omega
  rw [e]
def cmpN (x y : Nat) : Int := if x < y then -1 else if y < x then 1 else 0
theorem top_lt {x y i : Nat} (h : x / D16 ^ (i + 1) = y / D16 ^ (i + 1)) (hd : x / D16 ^ i % D16 < y / D16 ^ i % D16) : x < y := by
 have e : ∀ z : Nat, z / D16 ^ i = D16 * (z / D16 ^ (i + 1)) + z / D16 ^ i % D16 := fun z => by
  rw [Nat.pow_succ, ← Nat.div_div_eq_div_mul]; exact (Nat.div_add_mod _ _).symm
 have h1 := e x
 have h2 := e y
 rw [h] at h1
 rcases Nat.lt_or_ge x y with h3 | h3
 ·exact h3
 ·have := Nat.div_le_div_right (c := D16 ^ i) h3
  omega
theorem rcompare_ok (a b : List Nat) (ha : Dig a) (hb : Dig b) (hla : a.length ≤ 2 ^ 42) (hlb : b.length ≤ 2 ^ 42) : AC Tryz.prog 260 [cd a, cd b] none [ci (cmpN (vl D16 a) (vl D16 b))] := by
 refine AC.by_walk (rs := [.tmp 4]) ords Tryz.func260 (by rfl) (by rfl) (by rfl) (by rfl) (by rfl) ?_
 generalize hn : max a.length b.length = n at *
 have hnI : max (a.length : Int) (b.length : Int) = (n : Int) := by omega
 have h0 : vl D16 a / D16 ^ n = vl D16 b / D16 ^ n := by
  have hA := vlD_lt ha
  have hB := vlD_lt hb
  have hA2 : D16 ^ a.length ≤ D16 ^ n := Nat.pow_le_pow_right (by decide) (by omega)
  have hB2 : D16 ^ b.length ≤ D16 ^ n := Nat.pow_le_pow_right (by decide) (by omega)
  rw [Nat.div_eq_of_lt (by omega), Nat.div_eq_of_lt (by omega)]
 simp (disch := omega) only [wt, seval, reduceCtorEq, Nat.reduceEqDiff, hnI]
 refine aloop_by (fun f H => ∃ (i : Nat), i ≤ n ∧ vl D16 a / D16 ^ i = vl D16 b / D16 ^ i ∧ f 5 = .iv (.int .i64 ((i : Int) - 1)) ∧ f 0 = .iv (.sl (nums a)) ∧ f 1 = .iv (.sl (nums b))) (fun f H => (intAt f 5 + 1).toNat) ?_ ?_
 ·refine ⟨n, by omega, h0, ?_⟩
  simp (disch := omega) only [wt, seval, reduceCtorEq, Nat.reduceEqDiff]
 rintro f H ⟨i, hi, hv, hF⟩
 rw [intAt_of hF.1]
 simp (disch := omega) only [wt, seval, reduceCtorEq, Nat.reduceEqDiff, hF]
 refine if_by (fun hlt => ?_) (fun hlt => ?_)
 ·obtain ⟨j, rfl⟩ : ∃ j, i = j + 1 := ⟨i - 1, by omega⟩
  have ej : ((j + 1 : Nat) : Int) - 1 = (j : Int) := by omega
  have hx := dig_at ha j
  have hy := dig_at hb j
  rw [ej] at hF
  simp (disch := omega) only [wt, seval, reduceCtorEq, Nat.reduceEqDiff, hF]
  refine call_by ((rdigit_ok a j (by omega))) (by first | rfl | (simp only [tocvs, tocv, toboxes, tobox, updH_at, Nat.reduceEqDiff, ↓reduceIte, hF]; rfl)) (by simp) ?_
  simp (disch := omega) only [wt, seval, reduceCtorEq, Nat.reduceEqDiff, hF]
  refine call_by ((rdigit_ok b j (by omega))) (by first | rfl | (simp only [tocvs, tocv, toboxes, tobox, updH_at, Nat.reduceEqDiff, ↓reduceIte, hF]; rfl)) (by simp) ?_
  simp (disch := omega) only [wt, seval, reduceCtorEq, Nat.reduceEqDiff, hF]
  refine if_by (fun h1 => ?_) (fun h1 => ?_)
  ·simp (disch := omega) only [wt, seval, reduceCtorEq, Nat.reduceEqDiff, hF]
   have : vl D16 a < vl D16 b := top_lt hv (by omega)
   rw [cmpN, if_pos this]
  simp (disch := omega) only [wt, seval, reduceCtorEq, Nat.reduceEqDiff, hF]
  refine if_by (fun h2 => ?_) (fun h2 => ?_)
  ·simp (disch := omega) only [wt, seval, reduceCtorEq, Nat.reduceEqDiff, hF]
   have : vl D16 b < vl D16 a := top_lt hv.symm (by omega)
   rw [cmpN, if_neg (by omega), if_pos this]
  simp (disch := omega) only [wt, seval, reduceCtorEq, Nat.reduceEqDiff, hF]
  refine ⟨⟨j, by omega, ?_, rfl⟩, by omega⟩
  have e : ∀ z : Nat, z / D16 ^ j = D16 * (z / D16 ^ (j + 1)) + z / D16 ^ j % D16 := fun z => by
   rw [Nat.pow_succ, ← Nat.div_div_eq_div_mul]; exact (Nat.div_add_mod _ _).symm
  rw [e (vl D16 a), e (vl D16 b), hv]
  omega
 ·simp (disch := omega) only [wt, seval, reduceCtorEq, Nat.reduceEqDiff, hF]
  have : i = 0 := by omega
  subst this
  simp at hv
  rw [hv, cmpN]; simp
theorem rcmp_ok (a b : List Nat) (ha : Lim a) (hb : Lim b) (hla : a.length ≤ 2 ^ 40) (hlb : b.length ≤ 2 ^ 40) : AC Tryz.prog 206 [cl a, cl b] none [ci (cmpN (nv a) (nv b))] := by
 refine AC.by_walk (rs := [.tmp 4]) ords Tryz.func206 (by rfl) (by rfl) (by rfl) (by rfl) (by rfl) ?_
 have h1 := dgD_len ha
 have h2 := dgD_len hb
 simp (disch := omega) only [wt, seval, reduceCtorEq, Nat.reduceEqDiff]
 refine call_by ((rdig_ok a ha hla)) (by rfl) (by simp) ?_
 simp (disch := omega) only [wt, seval, reduceCtorEq, Nat.reduceEqDiff]
 refine call_by ((rdig_ok b hb hlb)) (by rfl) (by simp) ?_
 simp (disch := omega) only [wt, seval, reduceCtorEq, Nat.reduceEqDiff]
 have := rcompare_ok (dgD (nv a)) (dgD (nv b)) (dgD_dig _) (dgD_dig _) (by omega) (by omega)
 rw [vl_dgD, vl_dgD] at this
 refine call_by (this) (by rfl) (by simp) ?_
 simp (disch := omega) only [wt, seval, reduceCtorEq, Nat.reduceEqDiff]
end Go.Proofs.YtdokaihemcnkmaaGreat

namespace Go.Proofs.YtdokaihemcnkmaaGreat
open Go Go.Proofs Go.AL
set_option linter.unusedSimpArgs false
set_option linter.unusedVariables false
theorem rone_ok (a : List Nat) (hl : a.length ≤ 2 ^ 43) : AC Tryz.prog 276 [cl a] none [cu (if topN a = 0 then 0 else a.getD 0 0), cb (decide (topN a ≤ 1))] := by
 refine AC.by_walk (rs := [.tmp 2, .tmp 3]) ords Tryz.func276 (by rfl) (by rfl) (by rfl) (by rfl) (by rfl) ?_
 simp (disch := omega) only [wt, seval, reduceCtorEq, Nat.reduceEqDiff]
 refine aloop_by (fun f H => ∃ (k : Nat), k ≤ a.length ∧ topN (a.take k) = topN a ∧ f 4 = .iv (.int .i64 k) ∧ f 0 = .iv (.sl (lims a))) (fun f H => (intAt f 4).toNat) ?_ ?_
 ·refine ⟨a.length, by omega, by rw [List.take_length], ?_⟩
  simp (disch := omega) only [wt, seval, reduceCtorEq, Nat.reduceEqDiff]
 rintro f H ⟨k, hk, ht, hF⟩
 rw [intAt_of hF.1]
 simp (disch := omega) only [wt, seval, reduceCtorEq, Nat.reduceEqDiff, hF]
 have done : (k = topN a) → a.length ≥ k → True := fun _ _ => trivial
 by_cases h0 : 0 < (k : Int)
 ·obtain ⟨j, rfl⟩ : ∃ j, k = j + 1 := ⟨k - 1, by omega⟩
  have ej : ((j + 1 : Nat) : Int) - 1 = (j : Int) := by omega
  simp (disch := omega) only [wt, seval, reduceCtorEq, Nat.reduceEqDiff, hF, h0, ej]
  refine if_by (fun hz => ?_) (fun hz => ?_)
  ·simp (disch := omega) only [wt, seval, reduceCtorEq, Nat.reduceEqDiff, hF, ej]
   exact ⟨j, by omega, by rw [← topN_take_zero (by omega) (by omega), ht], rfl⟩
  ·have hk' : topN a = j + 1 := by rw [← ht, topN_full (by omega) (by omega)]
   have hne : ¬ ((j + 1 : Nat) : Int) = 0 := by omega
   simp (disch := omega) only [wt, seval, reduceCtorEq, Nat.reduceEqDiff, hF, hne]
   rw [if_neg (by omega), hk']
   exact ⟨rfl, decide_eq_decide.mpr (by omega)⟩
 ·have : k = 0 := by omega
  subst this
  have hk' : topN a = 0 := by rw [← ht]; rfl
  simp (disch := omega) only [wt, seval, reduceCtorEq, Nat.reduceEqDiff, hF]
  rw [hk']
  exact ⟨rfl, rfl⟩
theorem topN_one {a : List Nat} (h : Lim a) (ht : topN a ≤ 1) : nv a = if topN a = 0 then 0 else a.getD 0 0 := by
 have e : nv (a.take (topN a)) = nv a := vl_drop_top two_le_W h
 rw [← e]
 split
 ·rename_i h0; rw [h0]; rfl
 ·rename_i h0
  have h1 : topN a = 1 := by omega
  rw [h1]
  have := vl_take_next W a 0
  rw [Nat.zero_add] at this
  show vl W (a.take 1) = _
  rw [this]
  simp [vl]
theorem rones_ok (a b : List Nat) (m : Nat) (ha : Lim a) (hb : Lim b) (hm : m ≤ 63) (hla : a.length ≤ 2 ^ 43) (hlb : b.length ≤ 2 ^ 43) :
  ∃ (x y : Nat) (s : Bool), AC Tryz.prog 244 [cl a, cl b, ci m] none [cu x, cu y, cb s] ∧ (s = true → x = nv a ∧ y = nv b ∧ nv a < 2 ^ m ∧ nv b < 2 ^ m) := by
 have hs : ∀ x : Nat, (x : Int).fdiv (2 ^ min m IntKind.u64.bits) = ((x / 2 ^ m : Nat) : Int) := by
  intro x
  rw [show min m IntKind.u64.bits = m from Nat.min_eq_left (by simp only [IntKind.bits]; omega), Int.fdiv_eq_ediv_of_nonneg _ (by exact Int.le_of_lt (Int.pow_pos (by decide)))]
  norm_cast
 generalize hX : (if topN a = 0 then 0 else a.getD 0 0) = X
 generalize hY : (if topN b = 0 then 0 else b.getD 0 0) = Y
 refine ⟨X, Y, decide (topN a ≤ 1) && decide (topN b ≤ 1) && decide (X / 2 ^ m = 0) && decide (Y / 2 ^ m = 0), ?_, ?_⟩
 ·refine AC.by_walk (rs := [.tmp 6, .tmp 7, .tmp 8]) ords Tryz.func244 (by rfl) (by rfl) (by rfl) (by rfl) (by rfl) ?_
  have h1 := rone_ok a hla
  have h2 := rone_ok b hlb
  rw [hX] at h1
  rw [hY] at h2
  simp (disch := omega) only [wt, seval, reduceCtorEq, Nat.reduceEqDiff]
  refine call_by (h1) (by rfl) (by simp) ?_
  simp (disch := omega) only [wt, seval, reduceCtorEq, Nat.reduceEqDiff]
  refine call_by (h2) (by rfl) (by simp) ?_
  simp (disch := omega) only [wt, seval, reduceCtorEq, Nat.reduceEqDiff]
  refine .inl ⟨tmps_by (by kernel_rfl), ?_⟩
  by_cases t1 : topN a ≤ 1
  ·by_cases t2 : topN b ≤ 1
   ·by_cases t3 : X / 2 ^ m = 0
    ·by_cases t4 : ((Y / 2 ^ m : Nat) : Int) = 0
     ·have t3' : ((X / 2 ^ m : Nat) : Int) = 0 := by omega
      simp (disch := omega) only [wt, seval, reduceCtorEq, Nat.reduceEqDiff, t1, t2, hs, t3', t4]
      first | exact log_by (by kernel_rfl) | refine ⟨log_by (by kernel_rfl), ?_⟩
      simp [t3, show Y / 2 ^ m = 0 by omega]
     ·have t3' : ((X / 2 ^ m : Nat) : Int) = 0 := by omega
      simp (disch := omega) only [wt, seval, reduceCtorEq, Nat.reduceEqDiff, t1, t2, hs, t3', t4]
      first | exact log_by (by kernel_rfl) | refine ⟨log_by (by kernel_rfl), ?_⟩
      simp [show ¬ Y / 2 ^ m = 0 by omega]
    ·have t3' : ¬ ((X / 2 ^ m : Nat) : Int) = 0 := by omega
     simp (disch := omega) only [wt, seval, reduceCtorEq, Nat.reduceEqDiff, t1, t2, hs, t3']
     first | exact log_by (by kernel_rfl) | refine ⟨log_by (by kernel_rfl), ?_⟩
     simp [t3]
   ·simp (disch := omega) only [wt, seval, reduceCtorEq, Nat.reduceEqDiff, t1, t2]
    first | exact log_by (by kernel_rfl) | refine ⟨log_by (by kernel_rfl), ?_⟩
    simp
  ·simp (disch := omega) only [wt, seval, reduceCtorEq, Nat.reduceEqDiff, t1]
   first | exact log_by (by kernel_rfl) | refine ⟨log_by (by kernel_rfl), ?_⟩
   simp
 ·intro h
  simp only [Bool.and_eq_true, decide_eq_true_eq] at h
  obtain ⟨⟨⟨h1, h2⟩, h3⟩, h4⟩ := h
  have e1 := topN_one ha h1
  have e2 := topN_one hb h2
  rw [e1, e2, hX, hY]
  rw [Nat.div_eq_zero_iff] at h3 h4
  have := Nat.pow_pos (n := m) (show 0 < 2 by decide)
  omega
theorem rof_ok (w : Nat) (h : w < W) : AC Tryz.prog 245 [cu w] none [cl (wd w)] := by
 refine AC.by_walk (rs := [.tmp 2]) ords Tryz.func245 (by rfl) (by rfl) (by rfl) (by rfl) (by rfl) ?_
 simp (disch := omega) only [wt, seval, reduceCtorEq, Nat.reduceEqDiff]
 refine if_by (fun hz => ?_) (fun hz => ?_)
 ·have : w = 0 := by omega
  subst this
  simp (disch := omega) only [wt, seval, reduceCtorEq, Nat.reduceEqDiff, wd_zero]
 ·have : wd w = [w] := by
   rw [wd, dg_pos two_le_W (by omega), Nat.mod_eq_of_lt h, Nat.div_eq_of_lt h, dg_zero]
  simp (disch := omega) only [wt, seval, reduceCtorEq, Nat.reduceEqDiff, this]
  rfl
theorem rPlus_ok (a b : List Nat) (ha : Lim a) (hb : Lim b) (hla : a.length ≤ 2 ^ 38) (hlb : b.length ≤ 2 ^ 38) : AC Tryz.prog 208 [cl a, cl b] none [cl (wd (nv a + nv b))] := by
 refine AC.by_walk (rs := [.tmp 4]) ords Tryz.func208 (by rfl) (by rfl) (by rfl) (by rfl) (by rfl) ?_
 obtain ⟨x, y, s, h1, h2⟩ := rones_ok a b 63 ha hb (by omega) (by omega) (by omega)
 have h3 := dgD_len ha
 have h4 := dgD_len hb
 simp (disch := omega) only [wt, seval, reduceCtorEq, Nat.reduceEqDiff]
 refine call_by (h1) (by rfl) (by simp) ?_
 simp (disch := omega) only [wt, seval, reduceCtorEq, Nat.reduceEqDiff]
 cases s with
 | true =>
  obtain ⟨rfl, rfl, b1, b2⟩ := h2 rfl
  simp (disch := omega) only [wt, seval, reduceCtorEq, Nat.reduceEqDiff, wrap_add_nat (m := nv a) (n := nv b) (by simp only [W]; omega)]
  refine call_by ((rof_ok (nv a + nv b) (by simp only [W]; omega))) (by rfl) (by simp) ?_
  simp (disch := omega) only [wt, seval, reduceCtorEq, Nat.reduceEqDiff]
 | false =>
  simp (disch := omega) only [wt, seval, reduceCtorEq, Nat.reduceEqDiff]
  refine call_by ((rdig_ok a ha (by omega))) (by rfl) (by simp) ?_
  simp (disch := omega) only [wt, seval, reduceCtorEq, Nat.reduceEqDiff]
  refine call_by ((rdig_ok b hb (by omega))) (by rfl) (by simp) ?_
  simp (disch := omega) only [wt, seval, reduceCtorEq, Nat.reduceEqDiff]
  have p := rplus_ok (dgD (nv a)) (dgD (nv b)) (dgD_dig _) (dgD_dig _) (by omega) (by omega)
  rw [vl_dgD, vl_dgD] at p
  refine call_by (p) (by rfl) (by simp) ?_
  simp (disch := omega) only [wt, seval, reduceCtorEq, Nat.reduceEqDiff]
  have hA := vlD_lt (dgD_dig (nv a))
  have hB := vlD_lt (dgD_dig (nv b))
  rw [vl_dgD] at hA hB
  generalize hn : max (dgD (nv a)).length (dgD (nv b)).length = n
  have hA2 : D16 ^ (dgD (nv a)).length ≤ D16 ^ n := Nat.pow_le_pow_right (by decide) (by omega)
  have hB2 : D16 ^ (dgD (nv b)).length ≤ D16 ^ n := Nat.pow_le_pow_right (by decide) (by omega)
  have hq : (nv a + nv b) / D16 ^ n < 2 := by
   rw [Nat.div_lt_iff_lt_mul (D_pow_pos n)]; omega
  have hlen : n + (nv a + nv b) / D16 ^ n ≤ 2 ^ 42 := by
   generalize (nv a + nv b) / D16 ^ n = q at hq
   omega
  have q := rnumber_ok (dn (n + (nv a + nv b) / D16 ^ n) (nv a + nv b)) (dn_dig _ _) (by rw [dn_len]; exact hlen)
  have e : vl D16 (dn (n + (nv a + nv b) / D16 ^ n) (nv a + nv b)) = nv a + nv b := by
   rw [vl_dn, Nat.mod_eq_of_lt]
   have two : ∀ q, q < 2 → q = 0 ∨ q = 1 := by omega
   have := two _ hq
   rcases this with h | h
   ·rw [h, Nat.add_zero]; exact (Nat.div_eq_zero_iff_lt (D_pow_pos n)).mp h
   ·rw [h, Nat.pow_succ]
    have : 2 * D16 ^ n ≤ D16 ^ n * D16 := by rw [Nat.mul_comm]; exact Nat.mul_le_mul_left _ (by decide)
    omega
  rw [e] at q
  refine call_by (q) (by rfl) (by simp) ?_
  simp (disch := omega) only [wt, seval, reduceCtorEq, Nat.reduceEqDiff]
theorem rMinus_ok (a b : List Nat) (ha : Lim a) (hb : Lim b) (hla : a.length ≤ 2 ^ 38) (hlb : b.length ≤ 2 ^ 38) (hle : nv b ≤ nv a) : AC Tryz.prog 227 [cl a, cl b] none [cl (wd (nv a - nv b))] := by
 refine AC.by_walk (rs := [.tmp 4]) ords Tryz.func227 (by rfl) (by rfl) (by rfl) (by rfl) (by rfl) ?_
 obtain ⟨x, y, s, h1, h2⟩ := rones_ok a b 63 ha hb (by omega) (by omega) (by omega)
 have h3 := dgD_len ha
 have h4 := dgD_len hb
 simp (disch := omega) only [wt, seval, reduceCtorEq, Nat.reduceEqDiff]
 refine call_by (h1) (by rfl) (by simp) ?_
 simp (disch := omega) only [wt, seval, reduceCtorEq, Nat.reduceEqDiff]
 cases s with
 | true =>
  obtain ⟨rfl, rfl, b1, b2⟩ := h2 rfl
  have e1 : (nv a : Int) - (nv b : Int) = ((nv a - nv b : Nat) : Int) := by omega
  simp (disch := omega) only [wt, seval, reduceCtorEq, Nat.reduceEqDiff, e1, wrap_nat (n := nv a - nv b) (by simp only [W]; omega)]
  refine call_by ((rof_ok (nv a - nv b) (by simp only [W]; omega))) (by rfl) (by simp) ?_
  simp (disch := omega) only [wt, seval, reduceCtorEq, Nat.reduceEqDiff]
 | false =>
  simp (disch := omega) only [wt, seval, reduceCtorEq, Nat.reduceEqDiff]
  refine call_by ((rdig_ok a ha (by omega))) (by rfl) (by simp) ?_
  simp (disch := omega) only [wt, seval, reduceCtorEq, Nat.reduceEqDiff]
  refine call_by ((rdig_ok b hb (by omega))) (by rfl) (by simp) ?_
  simp (disch := omega) only [wt, seval, reduceCtorEq, Nat.reduceEqDiff]
  have hlen : (dgD (nv b)).length ≤ (dgD (nv a)).length := (dg_length_le two_le_D _).mpr (Nat.lt_of_le_of_lt hle ((dg_length_le two_le_D _).mp (Nat.le_refl _)))
  have p := rminus_ok (dgD (nv a)) (dgD (nv b)) (dgD_dig _) (dgD_dig _) (by omega) hlen (by rw [vl_dgD, vl_dgD]; exact hle)
  rw [vl_dgD, vl_dgD] at p
  refine call_by (p) (by rfl) (by simp) ?_
  simp (disch := omega) only [wt, seval, reduceCtorEq, Nat.reduceEqDiff]
  have hA := vlD_lt (dgD_dig (nv a))
  rw [vl_dgD] at hA
  have q := rnumber_ok (dn (dgD (nv a)).length (nv a - nv b)) (dn_dig _ _) (by rw [dn_len]; omega)
  have e : vl D16 (dn (dgD (nv a)).length (nv a - nv b)) = nv a - nv b := by
   rw [vl_dn, Nat.mod_eq_of_lt (by omega)]
  rw [e] at q
  refine call_by (q) (by rfl) (by simp) ?_
  simp (disch := omega) only [wt, seval, reduceCtorEq, Nat.reduceEqDiff]
theorem vlD_set_take {l : List Nat} {k m : Nat} (hk : k < m) (hm : m ≤ l.length) (x : Nat) : vl D16 ((l.set k x).take m) + D16 ^ k * l.getD k 0 = vl D16 (l.take m) + D16 ^ k * x := by
 have e : (l.set k x).take m = (l.take m).set k x := by rw [List.take_set]
 have h2 : (l.take m).getD k 0 = l.getD k 0 := by simp [List.getD, List.getElem?_take, hk]
 rw [e, ← h2]
 exact vl_set D16 (by rw [List.length_take]; omega) x
theorem rowD {T T' Q A b S Bj c o lo hi : Nat} (h : T + Q * c = S + b * Bj) (hT : T' + Q * o = T + Q * lo) (he : hi * D16 + lo = A + c + o) : T' + Q * D16 * hi = S + (b * Bj + Q * A) := by
 have := congrArg (Q * ·) he
 simp only [Nat.mul_add] at this
 rw [Nat.mul_assoc, Nat.mul_comm D16 hi]
 omega
theorem rtimes_ok (a b : List Nat) (ha : Dig a) (hb : Dig b) (hla : a.length ≤ 2 ^ 40) (hlb : b.length ≤ 2 ^ 40) : AC Tryz.prog 249 [cd a, cd b] none [cd (dn (a.length + b.length) (vl D16 a * vl D16 b))] := by
 refine AC.by_walk (rs := [.tmp 4]) ords Tryz.func249 (by rfl) (by rfl) (by rfl) (by rfl) (by rfl) ?_
 have eN : ((a.length : Int) + (b.length : Int)) = ((a.length + b.length : Nat) : Int) := by omega
 simp (disch := omega) only [wt, seval, reduceCtorEq, Nat.reduceEqDiff, eN, nums_rep]
 refine aloop_by (fun f H => ∃ (i st : Nat) (s : List Nat), i ≤ a.length ∧ Dig s ∧ s.length = a.length + b.length ∧ vl D16 (s.take (i + b.length)) = vl D16 (a.take i) * vl D16 b ∧ (∀ k, i + b.length ≤ k → s.getD k 0 = 0) ∧ f 6 = .iv (.int .i64 i) ∧ f 0 = .iv (.sl (nums a)) ∧ f 1 = .iv (.sl (nums b)) ∧ f 5 = .hs 14 st ∧ H 14 = .blk false st 3 1 (nums s)) (fun f H => (a.length - intAt f 6).toNat) ?_ ?_
 ·refine ⟨0, 1, List.replicate (a.length + b.length) 0, by omega, Dig.replicate _, by simp, by rw [List.take_replicate]; simp [vl_replicate, vl], fun k _ => by simp [List.getD, List.getElem?_replicate]; split <;> rfl, ?_⟩
  simp (disch := omega) only [wt, seval, reduceCtorEq, Nat.reduceEqDiff]
 rintro f H ⟨i, st, s, hi, hS, hSl, hv, hz, hF⟩
 rw [intAt_of hF.1]
 simp (disch := omega) only [wt, seval, reduceCtorEq, Nat.reduceEqDiff, hF]
 refine if_by (fun hlt => ?_) (fun hlt => ?_)
 ·simp (disch := omega) only [wt, seval, reduceCtorEq, Nat.reduceEqDiff, hF]
  have hx := ha.get i
  refine aloop_by (fun f H => ∃ (k c st : Nat) (s : List Nat), k ≤ b.length ∧ c < D16 ∧ Dig s ∧ s.length = a.length + b.length ∧ vl D16 (s.take (i + b.length)) + D16 ^ (i + k) * c = vl D16 (a.take i) * vl D16 b + (D16 ^ i * a.getD i 0) * vl D16 (b.take k) ∧ (∀ k, i + b.length ≤ k → s.getD k 0 = 0) ∧ f 8 = .iv (.int .i64 k) ∧ f 0 = .iv (.sl (nums a)) ∧ f 1 = .iv (.sl (nums b)) ∧ f 5 = .hs 14 st ∧ f 6 = .iv (.int .i64 i) ∧ f 7 = .iv (.int .i64 c) ∧ H 14 = .blk false st 3 1 (nums s)) (fun f H => (b.length - intAt f 8).toNat) ?_ ?_
  ·refine ⟨0, 0, st, s, by omega, by decide, hS, hSl, by simp [hv, vl], hz, ?_⟩
   simp (disch := omega) only [wt, seval, reduceCtorEq, Nat.reduceEqDiff, hF]
  rintro f H ⟨k, c, st, s, hk, hc, hS, hSl, hv, hz, hF⟩
  rw [intAt_of hF.1]
  simp (disch := omega) only [wt, seval, reduceCtorEq, Nat.reduceEqDiff, hF]
  refine if_by (fun hlk => ?_) (fun hlk => ?_)
  ·have hy := hb.get k
   have ho := hS.get (i + k)
   have eij : (i : Int) + (k : Int) = ((i + k : Nat) : Int) := by omega
   have eab : (a.getD i 0 : Int) * (b.getD k 0 : Int) = ((a.getD i 0 * b.getD k 0 : Nat) : Int) := (Int.natCast_mul _ _).symm
   have hm : a.getD i 0 * b.getD k 0 ≤ 65535 * 65535 := Nat.mul_le_mul (by simp only [D16] at hx; omega) (by simp only [D16] at hy; omega)
   have hdef : ∃ m, m = a.getD i 0 * b.getD k 0 := ⟨_, rfl⟩
   obtain ⟨m, hm1⟩ := hdef
   rw [← hm1] at eab hm
   have et : (c : Int) + ((s.getD (i + k) 0 : Nat) + (m : Nat) : Int) = ((c + (s.getD (i + k) 0 + m) : Nat) : Int) := by omega
   have hT : c + (s.getD (i + k) 0 + m) < 65536 * 65536 := by simp only [D16] at hc ho; omega
   simp only [D16] at hc ho
   simp (disch := omega) only [wt, seval, reduceCtorEq, Nat.reduceEqDiff, hF, eij, eab, et]
   refine .inl ⟨tmps_by (by kernel_rfl), ?_⟩
   first | exact log_by (by kernel_rfl) | refine ⟨log_by (by kernel_rfl), ?_⟩
   have hs1 := vlD_set_take (l := s) (k := i + k) (m := i + b.length) (by omega) (by omega) ((c + (s.getD (i + k) 0 + m)) % D16)
   have hs2 := rowD (A := m) (hi := (c + (s.getD (i + k) 0 + m)) / D16) hv hs1 (by simp only [D16]; omega)
   refine ⟨⟨k + 1, (c + (s.getD (i + k) 0 + m)) / D16, st, s.set (i + k) ((c + (s.getD (i + k) 0 + m)) % D16), by omega, by simp only [D16]; omega, hS.set (Nat.mod_lt _ (by decide)), by simp [hSl], ?_, ?_, by omega, rfl, rfl, rfl⟩, by omega⟩
   ·rw [← Nat.add_assoc i k 1, Nat.pow_succ, hs2, vl_take_next, Nat.mul_add, hm1, Nat.pow_add]
    congr 2
    ac_rfl
   ·intro j hj
    rw [show (s.set (i + k) ((c + (s.getD (i + k) 0 + m)) % D16)).getD j 0 = s.getD j 0 by simp [List.getD, List.getElem?_set_ne (show i + k ≠ j by omega)]]
    exact hz j hj
  ·have hkb : k = b.length := by omega
   subst hkb
   have eij : (i : Int) + (b.length : Int) = ((i + b.length : Nat) : Int) := by omega
   rw [List.take_length] at hv
   simp (disch := omega) only [wt, seval, reduceCtorEq, Nat.reduceEqDiff, hF, eij]
   have hs1 := vl_take_set D16 (l := s) (k := i + b.length) (by omega) c
   refine ⟨⟨i + 1, st, s.set (i + b.length) c, by omega, hS.set hc, by simp [hSl], ?_, ?_, by omega, rfl, rfl⟩, by omega⟩
   ·rw [show i + 1 + b.length = i + b.length + 1 by omega, hs1, hv, vl_take_next, Nat.add_mul]
   ·intro j hj
    rw [show (s.set (i + b.length) c).getD j 0 = s.getD j 0 by simp [List.getD, List.getElem?_set_ne (show i + b.length ≠ j by omega)]]
    exact hz j (by omega)
 ·simp (disch := omega) only [wt, seval, reduceCtorEq, Nat.reduceEqDiff, hF]
  have : i = a.length := by omega
  subst this
  rw [List.take_of_length_le (by omega), List.take_length] at hv
  have e : s = dn (a.length + b.length) (vl D16 a * vl D16 b) := by
   refine eq_dn hS hSl ?_
   have h5 := vlD_lt hS
   rw [hSl] at h5
   rw [hv, Nat.mod_eq_of_lt (by rw [← hv]; exact h5)]
  rw [e]
theorem rTimes_ok (a b : List Nat) (ha : Lim a) (hb : Lim b) (hla : a.length ≤ 2 ^ 37) (hlb : b.length ≤ 2 ^ 37) : AC Tryz.prog 171 [cl a, cl b] none [cl (wd (nv a * nv b))] := by
 refine AC.by_walk (rs := [.tmp 4]) ords Tryz.func171 (by rfl) (by rfl) (by rfl) (by rfl) (by rfl) ?_
 obtain ⟨x, y, s, h1, h2⟩ := rones_ok a b 32 ha hb (by omega) (by omega) (by omega)
 have h3 := dgD_len ha
 have h4 := dgD_len hb
 simp (disch := omega) only [wt, seval, reduceCtorEq, Nat.reduceEqDiff]
 refine call_by (h1) (by rfl) (by simp) ?_
 simp (disch := omega) only [wt, seval, reduceCtorEq, Nat.reduceEqDiff]
 cases s with
 | true =>
  obtain ⟨rfl, rfl, b1, b2⟩ := h2 rfl
  have hm : nv a * nv b ≤ (2 ^ 32 - 1) * (2 ^ 32 - 1) := Nat.mul_le_mul (by omega) (by omega)
  have hw : nv a * nv b < W := by simp only [W]; omega
  simp (disch := omega) only [wt, seval, reduceCtorEq, Nat.reduceEqDiff, wrap_mul_nat hw]
  refine call_by ((rof_ok (nv a * nv b) hw)) (by rfl) (by simp) ?_
  simp (disch := omega) only [wt, seval, reduceCtorEq, Nat.reduceEqDiff]
 | false =>
  simp (disch := omega) only [wt, seval, reduceCtorEq, Nat.reduceEqDiff]
  refine call_by ((rdig_ok a ha (by omega))) (by rfl) (by simp) ?_
  simp (disch := omega) only [wt, seval, reduceCtorEq, Nat.reduceEqDiff]
  refine call_by ((rdig_ok b hb (by omega))) (by rfl) (by simp) ?_
  simp (disch := omega) only [wt, seval, reduceCtorEq, Nat.reduceEqDiff]
  have p := rtimes_ok (dgD (nv a)) (dgD (nv b)) (dgD_dig _) (dgD_dig _) (by omega) (by omega)
  rw [vl_dgD, vl_dgD] at p
  refine call_by (p) (by rfl) (by simp) ?_
  simp (disch := omega) only [wt, seval, reduceCtorEq, Nat.reduceEqDiff]
  have hA := vlD_lt (dgD_dig (nv a))
  have hB := vlD_lt (dgD_dig (nv b))
  rw [vl_dgD] at hA hB
  have q := rnumber_ok (dn ((dgD (nv a)).length + (dgD (nv b)).length) (nv a * nv b)) (dn_dig _ _) (by rw [dn_len]; omega)
  have e : vl D16 (dn ((dgD (nv a)).length + (dgD (nv b)).length) (nv a * nv b)) = nv a * nv b := by
   rw [vl_dn, Nat.mod_eq_of_lt]
   rw [Nat.pow_add]
   exact Nat.mul_lt_mul'' hA hB
  rw [e] at q
  refine call_by (q) (by rfl) (by simp) ?_
  simp (disch := omega) only [wt, seval, reduceCtorEq, Nat.reduceEqDiff]
theorem rAdd_ok (a b : RI) (ha : Sz (2 ^ 38) a) (hb : Sz (2 ^ 38) b) : AC Tryz.prog 135 [cr a, cr b] none [cz (iv a + iv b)] := by
 refine AC.by_walk (rs := [.cell 4 27]) ords Tryz.func135 (by rfl) (by rfl) (by rfl) (by rfl) (by rfl) ?_
 have hla := ha.1
 have hlb := hb.1
 simp (disch := omega) only [wt, seval, reduceCtorEq, Nat.reduceEqDiff]
 refine if_bool (fun he => ?_) (fun he => ?_)
 ·have he : a.1 = b.1 := by simpa using he
  rw [iv_add_same he]
  simp (disch := omega) only [wt, seval, reduceCtorEq, Nat.reduceEqDiff]
  refine .inl ⟨tmps_by (by kernel_rfl), ?_⟩
  refine call_by ((rPlus_ok a.2 b.2 ha.2 hb.2 hla hlb)) (by rfl) (by simp) ?_
  simp (disch := omega) only [wt, seval, reduceCtorEq, Nat.reduceEqDiff]
  have l1 := wd_add_len (nv a.2) (nv b.2)
  have l2 := nv_len ha.2
  have l3 := nv_len hb.2
  have i1 := rI_ok a.1 (wd (nv a.2 + nv b.2)) (lim_wd _) (by omega)
  rw [nv_wd] at i1
  refine call_by (i1) (by rfl) (by simp) ?_
  simp (disch := omega) only [wt, seval, reduceCtorEq, Nat.reduceEqDiff]
  first | exact log_by (by kernel_rfl) | refine ⟨log_by (by kernel_rfl), ?_⟩
 ·have he : a.1 ≠ b.1 := by simpa using he
  simp (disch := omega) only [wt, seval, reduceCtorEq, Nat.reduceEqDiff]
  refine call_by ((rcmp_ok a.2 b.2 ha.2 hb.2 (by omega) (by omega))) (by rfl) (by simp) ?_
  simp (disch := omega) only [wt, seval, reduceCtorEq, Nat.reduceEqDiff]
  refine if_by (fun hc => ?_) (fun hc => ?_)
  ·have hle : nv b.2 ≤ nv a.2 := by
    unfold cmpN at hc
    split at hc
    ·omega
    ·omega
   simp (disch := omega) only [wt, seval, reduceCtorEq, Nat.reduceEqDiff]
   refine .inl ⟨tmps_by (by kernel_rfl), ?_⟩
   refine call_by ((rMinus_ok a.2 b.2 ha.2 hb.2 hla hlb hle)) (by rfl) (by simp) ?_
   simp (disch := omega) only [wt, seval, reduceCtorEq, Nat.reduceEqDiff]
   have l2 := nv_len ha.2
   have l4 := wd_len_mono (Nat.sub_le (nv a.2) (nv b.2))
   have i1 := rI_ok a.1 (wd (nv a.2 - nv b.2)) (lim_wd _) (by omega)
   rw [nv_wd] at i1
   have e : sg a.1 (nv a.2 - nv b.2) = iv a + iv b := by
    rw [iv_eq_sg, iv_eq_sg]
    unfold sg
    cases h1 : a.1 <;> cases h2 : b.1 <;> simp_all <;> omega
   rw [e] at i1
   refine call_by (i1) (by rfl) (by simp) ?_
   simp (disch := omega) only [wt, seval, reduceCtorEq, Nat.reduceEqDiff]
   first | exact log_by (by kernel_rfl) | refine ⟨log_by (by kernel_rfl), ?_⟩
  ·have hle : nv a.2 ≤ nv b.2 := by
    unfold cmpN at hc
    split at hc
    ·omega
    ·split at hc <;> omega
   simp (disch := omega) only [wt, seval, reduceCtorEq, Nat.reduceEqDiff]
   refine .inl ⟨tmps_by (by kernel_rfl), ?_⟩
   refine call_by ((rMinus_ok b.2 a.2 hb.2 ha.2 hlb hla hle)) (by rfl) (by simp) ?_
   simp (disch := omega) only [wt, seval, reduceCtorEq, Nat.reduceEqDiff]
   have l2 := nv_len hb.2
   have l4 := wd_len_mono (Nat.sub_le (nv b.2) (nv a.2))
   have i1 := rI_ok b.1 (wd (nv b.2 - nv a.2)) (lim_wd _) (by omega)
   rw [nv_wd] at i1
   have e : sg b.1 (nv b.2 - nv a.2) = iv a + iv b := by
    rw [iv_eq_sg, iv_eq_sg]
    unfold sg
    cases h1 : a.1 <;> cases h2 : b.1 <;> simp_all <;> omega
   rw [e] at i1
   refine call_by (i1) (by rfl) (by simp) ?_
   simp (disch := omega) only [wt, seval, reduceCtorEq, Nat.reduceEqDiff]
   first | exact log_by (by kernel_rfl) | refine ⟨log_by (by kernel_rfl), ?_⟩
theorem rMul_ok (a b : RI) (ha : Sz (2 ^ 37) a) (hb : Sz (2 ^ 37) b) : AC Tryz.prog 136 [cr a, cr b] none [cz (iv a * iv b)] := by
 refine AC.by_walk (rs := [.cell 4 27]) ords Tryz.func136 (by rfl) (by rfl) (by rfl) (by rfl) (by rfl) ?_
 have hla := ha.1
 have hlb := hb.1
 simp (disch := omega) only [wt, seval, reduceCtorEq, Nat.reduceEqDiff]
 refine .inl ⟨tmps_by (by kernel_rfl), ?_⟩
 refine call_by ((rTimes_ok a.2 b.2 ha.2 hb.2 hla hlb)) (by rfl) (by simp) ?_
 simp (disch := omega) only [wt, seval, reduceCtorEq, Nat.reduceEqDiff]
 have l1 := wd_mul_len (nv a.2) (nv b.2)
 have l2 := nv_len ha.2
 have l3 := nv_len hb.2
 have i1 := rI_ok (a.1 != b.1) (wd (nv a.2 * nv b.2)) (lim_wd _) (by omega)
 rw [nv_wd, ← iv_mul] at i1
 refine call_by (i1) (by rfl) (by simp) ?_
 simp (disch := omega) only [wt, seval, reduceCtorEq, Nat.reduceEqDiff]
 first | exact log_by (by kernel_rfl) | refine ⟨log_by (by kernel_rfl), ?_⟩
end Go.Proofs.YtdokaihemcnkmaaGreat
