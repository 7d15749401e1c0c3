/-
  Contracts of the functions that the law reaches.
-/
import Derived.Test.YthgecppfgdadiaaL38
import Derived.Test.YthgecppfgdadiaaL24
namespace Go.Proofs.Ythgecppfgdadiaa
open Go Go.Proofs Go.AL
set_option linter.unusedSimpArgs false
set_option linter.unusedVariables false

theorem quo_zero (a b : List Nat) (ha : Lim a) (hb : Lim b) (hla : a.length ≤ 2 ^ 38) (hlb : b.length ≤ 2 ^ 38) (h0 : nv b = 0) : AC Try.prog 170 [cl a, cl b] none [cl [], cl [], ci 1] := by
  refine AC.by_walk (rs := [.tmp 4, .tmp 5, .tmp 6]) ords Try.func170 (by rfl) (by rfl) (by rfl) (by rfl) (by rfl) ?_
  simp (disch := omega) only [wk, tis, Int.reduceNe, Int.reduceEq, Int.reduceLT, Int.reduceLE, Int.reduceAdd, Int.reduceSub, Int.reduceNeg, Int.reduceMul, Int.reduceToNat, Nat.reduceSub, Nat.reduceMul, Nat.reduceLeDiff, Nat.reduceAdd, Nat.reduceLT, Nat.reduceEqDiff, reduceCtorEq, ↓reduceIte, natsr_len, natsr_at, Option.getD_some]
  refine call_by ((norm_ok a ha (by omega))) (by rfl) (by simp) ?_
  simp (disch := omega) only [wk, tis, Int.reduceNe, Int.reduceEq, Int.reduceLT, Int.reduceLE, Int.reduceAdd, Int.reduceSub, Int.reduceNeg, Int.reduceMul, Int.reduceToNat, Nat.reduceSub, Nat.reduceMul, Nat.reduceLeDiff, Nat.reduceAdd, Nat.reduceLT, Nat.reduceEqDiff, reduceCtorEq, ↓reduceIte, natsr_len, natsr_at, Option.getD_some]
  refine call_by ((norm_ok b hb (by omega))) (by rfl) (by simp) ?_
  simp (disch := omega) only [wk, tis, Int.reduceNe, Int.reduceEq, Int.reduceLT, Int.reduceLE, Int.reduceAdd, Int.reduceSub, Int.reduceNeg, Int.reduceMul, Int.reduceToNat, Nat.reduceSub, Nat.reduceMul, Nat.reduceLeDiff, Nat.reduceAdd, Nat.reduceLT, Nat.reduceEqDiff, reduceCtorEq, ↓reduceIte, natsr_len, natsr_at, Option.getD_some]
  rw [h0, wd_zero]
  simp (disch := omega) only [wk, tis, Int.reduceNe, Int.reduceEq, Int.reduceLT, Int.reduceLE, Int.reduceAdd, Int.reduceSub, Int.reduceNeg, Int.reduceMul, Int.reduceToNat, Nat.reduceSub, Nat.reduceMul, Nat.reduceLeDiff, Nat.reduceAdd, Nat.reduceLT, Nat.reduceEqDiff, reduceCtorEq, ↓reduceIte, natsr_len, natsr_at, Option.getD_some]

theorem wd_one {y : Nat} (h : (wd y).length = 1) : (wd y).getD 0 0 = y ∧ y < W := by
  have h1 := vl_take_next W (wd y) 0
  rw [Nat.zero_add, List.take_of_length_le (by omega), List.take_zero, Nat.pow_zero, Nat.one_mul] at h1
  have h2 := nv_wd y
  simp only [nv, vl, Nat.zero_add] at *
  have h3 := (lim_wd y).get 0
  omega

theorem quo_ok (a b : List Nat) (ha : Lim a) (hb : Lim b) (hla : a.length ≤ 2 ^ 38) (hlb : b.length ≤ 2 ^ 38) (h0 : nv b ≠ 0) : AC Try.prog 170 [cl a, cl b] none [cl (wd (nv a / nv b)), cl (wd (nv a % nv b)), ci 0] := by
  refine AC.by_walk (rs := [.tmp 4, .tmp 5, .tmp 6]) ords Try.func170 (by rfl) (by rfl) (by rfl) (by rfl) (by rfl) ?_
  simp (disch := omega) only [wk, tis, Int.reduceNe, Int.reduceEq, Int.reduceLT, Int.reduceLE, Int.reduceAdd, Int.reduceSub, Int.reduceNeg, Int.reduceMul, Int.reduceToNat, Nat.reduceSub, Nat.reduceMul, Nat.reduceLeDiff, Nat.reduceAdd, Nat.reduceLT, Nat.reduceEqDiff, reduceCtorEq, ↓reduceIte, natsr_len, natsr_at, Option.getD_some]
  refine call_by ((norm_ok a ha (by omega))) (by rfl) (by simp) ?_
  simp (disch := omega) only [wk, tis, Int.reduceNe, Int.reduceEq, Int.reduceLT, Int.reduceLE, Int.reduceAdd, Int.reduceSub, Int.reduceNeg, Int.reduceMul, Int.reduceToNat, Nat.reduceSub, Nat.reduceMul, Nat.reduceLeDiff, Nat.reduceAdd, Nat.reduceLT, Nat.reduceEqDiff, reduceCtorEq, ↓reduceIte, natsr_len, natsr_at, Option.getD_some]
  refine call_by ((norm_ok b hb (by omega))) (by rfl) (by simp) ?_
  simp (disch := omega) only [wk, tis, Int.reduceNe, Int.reduceEq, Int.reduceLT, Int.reduceLE, Int.reduceAdd, Int.reduceSub, Int.reduceNeg, Int.reduceMul, Int.reduceToNat, Nat.reduceSub, Nat.reduceMul, Nat.reduceLeDiff, Nat.reduceAdd, Nat.reduceLT, Nat.reduceEqDiff, reduceCtorEq, ↓reduceIte, natsr_len, natsr_at, Option.getD_some]
  have hxl := nv_len ha
  have hyl := nv_len hb
  generalize nv a = x at *
  generalize nv b = y at *
  refine if_by (fun h => ?_) (fun h => ?_)
  · have := wd_len_zero.mp (Int.ofNat.inj h)
    exact absurd this h0
  simp (disch := omega) only [wk, tis, Int.reduceNe, Int.reduceEq, Int.reduceLT, Int.reduceLE, Int.reduceAdd, Int.reduceSub, Int.reduceNeg, Int.reduceMul, Int.reduceToNat, Nat.reduceSub, Nat.reduceMul, Nat.reduceLeDiff, Nat.reduceAdd, Nat.reduceLT, Nat.reduceEqDiff, reduceCtorEq, ↓reduceIte, natsr_len, natsr_at, Option.getD_some]
  refine call_by ((ncmp_ok (wd x) (wd y) (lim_wd _) (lim_wd _) (by omega) (by omega))) (by rfl) (by simp) ?_
  simp (disch := omega) only [wk, tis, Int.reduceNe, Int.reduceEq, Int.reduceLT, Int.reduceLE, Int.reduceAdd, Int.reduceSub, Int.reduceNeg, Int.reduceMul, Int.reduceToNat, Nat.reduceSub, Nat.reduceMul, Nat.reduceLeDiff, Nat.reduceAdd, Nat.reduceLT, Nat.reduceEqDiff, reduceCtorEq, ↓reduceIte, natsr_len, natsr_at, Option.getD_some]
  rw [nv_wd, nv_wd]
  refine if_by (fun hc => ?_) (fun hc => ?_)
  · have hlt : x < y := by
      unfold cmpN at hc
      split at hc
      · assumption
      · split at hc <;> omega
    rw [Nat.div_eq_of_lt hlt, Nat.mod_eq_of_lt hlt, wd_zero]
    simp (disch := omega) only [wk, tis, Int.reduceNe, Int.reduceEq, Int.reduceLT, Int.reduceLE, Int.reduceAdd, Int.reduceSub, Int.reduceNeg, Int.reduceMul, Int.reduceToNat, Nat.reduceSub, Nat.reduceMul, Nat.reduceLeDiff, Nat.reduceAdd, Nat.reduceLT, Nat.reduceEqDiff, reduceCtorEq, ↓reduceIte, natsr_len, natsr_at, Option.getD_some]
  have hle : y ≤ x := by
    unfold cmpN at hc
    split at hc
    · omega
    · omega
  simp (disch := omega) only [wk, tis, Int.reduceNe, Int.reduceEq, Int.reduceLT, Int.reduceLE, Int.reduceAdd, Int.reduceSub, Int.reduceNeg, Int.reduceMul, Int.reduceToNat, Nat.reduceSub, Nat.reduceMul, Nat.reduceLeDiff, Nat.reduceAdd, Nat.reduceLT, Nat.reduceEqDiff, reduceCtorEq, ↓reduceIte, natsr_len, natsr_at, Option.getD_some]
  refine if_by (fun h1 => ?_) (fun h1 => ?_)
  · obtain ⟨e1, e2⟩ := wd_one (Int.ofNat.inj h1)
    have hp : 0 < (wd y).length := by omega
    simp (disch := omega) only [wk, tis, Int.reduceNe, Int.reduceEq, Int.reduceLT, Int.reduceLE, Int.reduceAdd, Int.reduceSub, Int.reduceNeg, Int.reduceMul, Int.reduceToNat, Nat.reduceSub, Nat.reduceMul, Nat.reduceLeDiff, Nat.reduceAdd, Nat.reduceLT, Nat.reduceEqDiff, reduceCtorEq, ↓reduceIte, natsr_len, natsr_at, Option.getD_some]
    have m := dword_ok (wd x) y (lim_wd _) (by omega) h0 e2
    rw [nv_wd] at m
    have n := nof_ok (x % y) (Nat.lt_trans (Nat.mod_lt _ (by omega)) e2)
    simp (disch := omega) only [wk, tis, Int.reduceNe, Int.reduceEq, Int.reduceLT, Int.reduceLE, Int.reduceAdd, Int.reduceSub, Int.reduceNeg, Int.reduceMul, Int.reduceToNat, Nat.reduceSub, Nat.reduceMul, Nat.reduceLeDiff, Nat.reduceAdd, Nat.reduceLT, Nat.reduceEqDiff, reduceCtorEq, ↓reduceIte, natsr_len, natsr_at, Option.getD_some, e1]
    refine call_by (m) (by first | rfl | (simp only [tocvs, tocv, e1]; rfl)) (by simp) ?_
    simp (disch := omega) only [wk, tis, Int.reduceNe, Int.reduceEq, Int.reduceLT, Int.reduceLE, Int.reduceAdd, Int.reduceSub, Int.reduceNeg, Int.reduceMul, Int.reduceToNat, Nat.reduceSub, Nat.reduceMul, Nat.reduceLeDiff, Nat.reduceAdd, Nat.reduceLT, Nat.reduceEqDiff, reduceCtorEq, ↓reduceIte, natsr_len, natsr_at, Option.getD_some, e1]
    refine call_by (n) (by first | rfl | (simp only [tocvs, tocv, e1]; rfl)) (by simp) ?_
    simp (disch := omega) only [wk, tis, Int.reduceNe, Int.reduceEq, Int.reduceLT, Int.reduceLE, Int.reduceAdd, Int.reduceSub, Int.reduceNeg, Int.reduceMul, Int.reduceToNat, Nat.reduceSub, Nat.reduceMul, Nat.reduceLeDiff, Nat.reduceAdd, Nat.reduceLT, Nat.reduceEqDiff, reduceCtorEq, ↓reduceIte, natsr_len, natsr_at, Option.getD_some, e1]
  · have hn : 2 ≤ (wd y).length := by omega
    simp (disch := omega) only [wk, tis, Int.reduceNe, Int.reduceEq, Int.reduceLT, Int.reduceLE, Int.reduceAdd, Int.reduceSub, Int.reduceNeg, Int.reduceMul, Int.reduceToNat, Nat.reduceSub, Nat.reduceMul, Nat.reduceLeDiff, Nat.reduceAdd, Nat.reduceLT, Nat.reduceEqDiff, reduceCtorEq, ↓reduceIte, natsr_len, natsr_at, Option.getD_some]
    refine call_by ((knuth_ok x y _ _ rfl rfl hn hle (by omega))) (by rfl) (by simp) ?_
    simp (disch := omega) only [wk, tis, Int.reduceNe, Int.reduceEq, Int.reduceLT, Int.reduceLE, Int.reduceAdd, Int.reduceSub, Int.reduceNeg, Int.reduceMul, Int.reduceToNat, Nat.reduceSub, Nat.reduceMul, Nat.reduceLeDiff, Nat.reduceAdd, Nat.reduceLT, Nat.reduceEqDiff, reduceCtorEq, ↓reduceIte, natsr_len, natsr_at, Option.getD_some]

theorem mod_ok (a b : List Nat) (ha : Lim a) (hb : Lim b) (hla : a.length ≤ 2 ^ 38) (hlb : b.length ≤ 2 ^ 38) (h0 : nv b ≠ 0) : AC Try.prog 175 [cl a, cl b] none [cl (wd (nv a % nv b)), ci 0] := by
  refine AC.by_walk (rs := [.tmp 4, .tmp 5]) ords Try.func175 (by rfl) (by rfl) (by rfl) (by rfl) (by rfl) ?_
  simp (disch := omega) only [wk, tis, Int.reduceNe, Int.reduceEq, Int.reduceLT, Int.reduceLE, Int.reduceAdd, Int.reduceSub, Int.reduceNeg, Int.reduceMul, Int.reduceToNat, Nat.reduceSub, Nat.reduceMul, Nat.reduceLeDiff, Nat.reduceAdd, Nat.reduceLT, Nat.reduceEqDiff, reduceCtorEq, ↓reduceIte, natsr_len, natsr_at, Option.getD_some]
  refine call_by ((quo_ok a b ha hb hla hlb h0)) (by rfl) (by simp) ?_
  simp (disch := omega) only [wk, tis, Int.reduceNe, Int.reduceEq, Int.reduceLT, Int.reduceLE, Int.reduceAdd, Int.reduceSub, Int.reduceNeg, Int.reduceMul, Int.reduceToNat, Nat.reduceSub, Nat.reduceMul, Nat.reduceLeDiff, Nat.reduceAdd, Nat.reduceLT, Nat.reduceEqDiff, reduceCtorEq, ↓reduceIte, natsr_len, natsr_at, Option.getD_some]

theorem gmod_ok (a b : List Nat) (ha : Lim a) (hb : Lim b) (hla : a.length ≤ 2 ^ 38) (hlb : b.length ≤ 2 ^ 38) (h0 : nv b ≠ 0) : AC Try.prog 167 [cl a, cl b] none [cl (wd (nv a % nv b))] := by
  refine AC.by_walk (rs := [.tmp 4]) ords Try.func167 (by rfl) (by rfl) (by rfl) (by rfl) (by rfl) ?_
  simp (disch := omega) only [wk, tis, Int.reduceNe, Int.reduceEq, Int.reduceLT, Int.reduceLE, Int.reduceAdd, Int.reduceSub, Int.reduceNeg, Int.reduceMul, Int.reduceToNat, Nat.reduceSub, Nat.reduceMul, Nat.reduceLeDiff, Nat.reduceAdd, Nat.reduceLT, Nat.reduceEqDiff, reduceCtorEq, ↓reduceIte, natsr_len, natsr_at, Option.getD_some]
  refine call_by ((mod_ok a b ha hb hla hlb h0)) (by rfl) (by simp) ?_
  simp (disch := omega) only [wk, tis, Int.reduceNe, Int.reduceEq, Int.reduceLT, Int.reduceLE, Int.reduceAdd, Int.reduceSub, Int.reduceNeg, Int.reduceMul, Int.reduceToNat, Nat.reduceSub, Nat.reduceMul, Nat.reduceLeDiff, Nat.reduceAdd, Nat.reduceLT, Nat.reduceEqDiff, reduceCtorEq, ↓reduceIte, natsr_len, natsr_at, Option.getD_some]

theorem dexact_zero (a b : List Nat) (ha : Lim a) (hb : Lim b) (hla : a.length ≤ 2 ^ 38) (hlb : b.length ≤ 2 ^ 38) (h0 : nv b = 0) : AC Try.prog 156 [cl a, cl b] none [cl [], ci 1] := by
  refine AC.by_walk (rs := [.tmp 4, .tmp 5]) ords Try.func156 (by rfl) (by rfl) (by rfl) (by rfl) (by rfl) ?_
  simp (disch := omega) only [wk, tis, Int.reduceNe, Int.reduceEq, Int.reduceLT, Int.reduceLE, Int.reduceAdd, Int.reduceSub, Int.reduceNeg, Int.reduceMul, Int.reduceToNat, Nat.reduceSub, Nat.reduceMul, Nat.reduceLeDiff, Nat.reduceAdd, Nat.reduceLT, Nat.reduceEqDiff, reduceCtorEq, ↓reduceIte, natsr_len, natsr_at, Option.getD_some]
  refine call_by ((quo_zero a b ha hb hla hlb h0)) (by rfl) (by simp) ?_
  simp (disch := omega) only [wk, tis, Int.reduceNe, Int.reduceEq, Int.reduceLT, Int.reduceLE, Int.reduceAdd, Int.reduceSub, Int.reduceNeg, Int.reduceMul, Int.reduceToNat, Nat.reduceSub, Nat.reduceMul, Nat.reduceLeDiff, Nat.reduceAdd, Nat.reduceLT, Nat.reduceEqDiff, reduceCtorEq, ↓reduceIte, natsr_len, natsr_at, Option.getD_some]

theorem dexact_ok (a b : List Nat) (ha : Lim a) (hb : Lim b) (hla : a.length ≤ 2 ^ 38) (hlb : b.length ≤ 2 ^ 38) (h0 : nv b ≠ 0) : AC Try.prog 156 [cl a, cl b] none [cl (if nv a % nv b = 0 then wd (nv a / nv b) else []), ci (if nv a % nv b = 0 then 0 else 4)] := by
  refine AC.by_walk (rs := [.tmp 4, .tmp 5]) ords Try.func156 (by rfl) (by rfl) (by rfl) (by rfl) (by rfl) ?_
  simp (disch := omega) only [wk, tis, Int.reduceNe, Int.reduceEq, Int.reduceLT, Int.reduceLE, Int.reduceAdd, Int.reduceSub, Int.reduceNeg, Int.reduceMul, Int.reduceToNat, Nat.reduceSub, Nat.reduceMul, Nat.reduceLeDiff, Nat.reduceAdd, Nat.reduceLT, Nat.reduceEqDiff, reduceCtorEq, ↓reduceIte, natsr_len, natsr_at, Option.getD_some]
  refine call_by ((quo_ok a b ha hb hla hlb h0)) (by rfl) (by simp) ?_
  simp (disch := omega) only [wk, tis, Int.reduceNe, Int.reduceEq, Int.reduceLT, Int.reduceLE, Int.reduceAdd, Int.reduceSub, Int.reduceNeg, Int.reduceMul, Int.reduceToNat, Nat.reduceSub, Nat.reduceMul, Nat.reduceLeDiff, Nat.reduceAdd, Nat.reduceLT, Nat.reduceEqDiff, reduceCtorEq, ↓reduceIte, natsr_len, natsr_at, Option.getD_some]
  refine if_by (fun h => ?_) (fun h => ?_)
  · have h1 : nv a % nv b ≠ 0 := fun h2 => by rw [h2, wd_zero] at h; simp at h
    rw [if_neg h1, if_neg h1]
    simp (disch := omega) only [wk, tis, Int.reduceNe, Int.reduceEq, Int.reduceLT, Int.reduceLE, Int.reduceAdd, Int.reduceSub, Int.reduceNeg, Int.reduceMul, Int.reduceToNat, Nat.reduceSub, Nat.reduceMul, Nat.reduceLeDiff, Nat.reduceAdd, Nat.reduceLT, Nat.reduceEqDiff, reduceCtorEq, ↓reduceIte, natsr_len, natsr_at, Option.getD_some]
  · have h1 : nv a % nv b = 0 := by
      rcases Nat.eq_zero_or_pos (wd (nv a % nv b)).length with h2 | h2
      · exact wd_len_zero.mp h2
      · exact absurd (by omega) h
    rw [if_pos h1, if_pos h1]
    simp (disch := omega) only [wk, tis, Int.reduceNe, Int.reduceEq, Int.reduceLT, Int.reduceLE, Int.reduceAdd, Int.reduceSub, Int.reduceNeg, Int.reduceMul, Int.reduceToNat, Nat.reduceSub, Nat.reduceMul, Nat.reduceLeDiff, Nat.reduceAdd, Nat.reduceLT, Nat.reduceEqDiff, reduceCtorEq, ↓reduceIte, natsr_len, natsr_at, Option.getD_some]

def natAt (f : Fr) (t : Nat) : Nat := match f t with
  | .iv (.sl rows) => nv (rows.map fun r => match r with | [.int _ n] => n.toNat | _ => 0)
  | _ => 0

theorem natAt_of {f : Fr} {t v : Nat} (h : f t = .iv (.sl (lims (wd v)))) : natAt f t = v := by
  unfold natAt
  rw [h]
  have e : (lims (wd v)).map (fun r => match r with | [.int _ n] => n.toNat | _ => 0) = wd v := by
    simp only [lims, List.map_map]
    conv => rhs; rw [← List.map_id (wd v)]
    rfl
  simp only [e, nv_wd]

theorem gcd_ok (a b : List Nat) (ha : Lim a) (hb : Lim b) (hla : a.length ≤ 2 ^ 38) (hlb : b.length ≤ 2 ^ 38) : AC Try.prog 154 [cl a, cl b] none [cl (wd (Nat.gcd (nv a) (nv b)))] := by
  refine AC.by_walk (rs := [.tmp 4]) ords Try.func154 (by rfl) (by rfl) (by rfl) (by rfl) (by rfl) ?_
  simp (disch := omega) only [wk, tis, Int.reduceNe, Int.reduceEq, Int.reduceLT, Int.reduceLE, Int.reduceAdd, Int.reduceSub, Int.reduceNeg, Int.reduceMul, Int.reduceToNat, Nat.reduceSub, Nat.reduceMul, Nat.reduceLeDiff, Nat.reduceAdd, Nat.reduceLT, Nat.reduceEqDiff, reduceCtorEq, ↓reduceIte, natsr_len, natsr_at, Option.getD_some]
  refine call_by ((norm_ok a ha (by omega))) (by rfl) (by simp) ?_
  simp (disch := omega) only [wk, tis, Int.reduceNe, Int.reduceEq, Int.reduceLT, Int.reduceLE, Int.reduceAdd, Int.reduceSub, Int.reduceNeg, Int.reduceMul, Int.reduceToNat, Nat.reduceSub, Nat.reduceMul, Nat.reduceLeDiff, Nat.reduceAdd, Nat.reduceLT, Nat.reduceEqDiff, reduceCtorEq, ↓reduceIte, natsr_len, natsr_at, Option.getD_some]
  refine call_by ((norm_ok b hb (by omega))) (by rfl) (by simp) ?_
  simp (disch := omega) only [wk, tis, Int.reduceNe, Int.reduceEq, Int.reduceLT, Int.reduceLE, Int.reduceAdd, Int.reduceSub, Int.reduceNeg, Int.reduceMul, Int.reduceToNat, Nat.reduceSub, Nat.reduceMul, Nat.reduceLeDiff, Nat.reduceAdd, Nat.reduceLT, Nat.reduceEqDiff, reduceCtorEq, ↓reduceIte, natsr_len, natsr_at, Option.getD_some]
  have hxl := nv_len ha
  have hyl := nv_len hb
  generalize nv a = x at *
  generalize nv b = y at *
  refine aloop_by (fun f H => ∃ u v : Nat, Nat.gcd u v = Nat.gcd x y ∧ (wd u).length ≤ 2 ^ 38 ∧ (wd v).length ≤ 2 ^ 38 ∧ f 0 = .iv (.sl (lims (wd u))) ∧ f 1 = .iv (.sl (lims (wd v)))) (fun f H => natAt f 1) ?_ ?_
  · exact ⟨x, y, rfl, by omega, by omega, by simp (disch := omega) only [wk, tis, Int.reduceNe, Int.reduceEq, Int.reduceLT, Int.reduceLE, Int.reduceAdd, Int.reduceSub, Int.reduceNeg, Int.reduceMul, Int.reduceToNat, Nat.reduceSub, Nat.reduceMul, Nat.reduceLeDiff, Nat.reduceAdd, Nat.reduceLT, Nat.reduceEqDiff, reduceCtorEq, ↓reduceIte, natsr_len, natsr_at, Option.getD_some]⟩
  rintro f H ⟨u, v, hg, hu, hv, hF⟩
  rw [natAt_of hF.2]
  simp (disch := omega) only [wk, tis, Int.reduceNe, Int.reduceEq, Int.reduceLT, Int.reduceLE, Int.reduceAdd, Int.reduceSub, Int.reduceNeg, Int.reduceMul, Int.reduceToNat, Nat.reduceSub, Nat.reduceMul, Nat.reduceLeDiff, Nat.reduceAdd, Nat.reduceLT, Nat.reduceEqDiff, reduceCtorEq, ↓reduceIte, natsr_len, natsr_at, Option.getD_some, hF]
  refine if_by (fun h => ?_) (fun h => ?_)
  · have h0 : v ≠ 0 := fun h1 => by rw [h1, wd_zero] at h; simp at h
    have hm := gmod_ok (wd u) (wd v) (lim_wd _) (lim_wd _) hu hv (by rw [nv_wd]; exact h0)
    rw [nv_wd, nv_wd] at hm
    simp (disch := omega) only [wk, tis, Int.reduceNe, Int.reduceEq, Int.reduceLT, Int.reduceLE, Int.reduceAdd, Int.reduceSub, Int.reduceNeg, Int.reduceMul, Int.reduceToNat, Nat.reduceSub, Nat.reduceMul, Nat.reduceLeDiff, Nat.reduceAdd, Nat.reduceLT, Nat.reduceEqDiff, reduceCtorEq, ↓reduceIte, natsr_len, natsr_at, Option.getD_some, hF]
    refine call_by (hm) (by first | rfl | (simp only [tocvs, tocv, hF]; rfl)) (by simp) ?_
    simp (disch := omega) only [wk, tis, Int.reduceNe, Int.reduceEq, Int.reduceLT, Int.reduceLE, Int.reduceAdd, Int.reduceSub, Int.reduceNeg, Int.reduceMul, Int.reduceToNat, Nat.reduceSub, Nat.reduceMul, Nat.reduceLeDiff, Nat.reduceAdd, Nat.reduceLT, Nat.reduceEqDiff, reduceCtorEq, ↓reduceIte, natsr_len, natsr_at, Option.getD_some, hF]
    have hlt := Nat.mod_lt u (Nat.pos_of_ne_zero h0)
    have := wd_len_mono (Nat.le_of_lt hlt)
    rw [natAt_of rfl]
    exact ⟨⟨v, u % v, by rw [← hg, Nat.gcd_comm u v, Nat.gcd_rec v u, Nat.gcd_comm], hv, by omega, rfl, rfl⟩, hlt⟩
  · have h0 : v = 0 := wd_len_zero.mp (by omega)
    subst h0
    rw [Nat.gcd_zero_right] at hg
    simp (disch := omega) only [wk, tis, Int.reduceNe, Int.reduceEq, Int.reduceLT, Int.reduceLE, Int.reduceAdd, Int.reduceSub, Int.reduceNeg, Int.reduceMul, Int.reduceToNat, Nat.reduceSub, Nat.reduceMul, Nat.reduceLeDiff, Nat.reduceAdd, Nat.reduceLT, Nat.reduceEqDiff, reduceCtorEq, ↓reduceIte, natsr_len, natsr_at, Option.getD_some, hF, hg]

end Go.Proofs.Ythgecppfgdadiaa
