/-
  Contracts of the functions that the law reaches.
-/
import Derived.Test.YthgecppfgdadiaaL8
namespace Go.Proofs.Ythgecppfgdadiaa
open Go Go.Proofs Go.AL
set_option linter.unusedSimpArgs false
set_option linter.unusedVariables false

theorem rplus_ok (a b : List Nat) (ha : Dig a) (hb : Dig b) (hla : a.length ≤ 2 ^ 42) (hlb : b.length ≤ 2 ^ 42) : AC Try.prog 147 [cd a, cd b] none [cd (dn (max a.length b.length + (vl D16 a + vl D16 b) / D16 ^ max a.length b.length) (vl D16 a + vl D16 b))] := by
  refine AC.by_walk (rs := [.tmp 4]) ords Try.func147 (by rfl) (by rfl) (by rfl) (by rfl) (by rfl) ?_
  generalize hn : max a.length b.length = n at *
  have hA := vlD_lt ha
  have hB := vlD_lt hb
  have hA2 : D16 ^ a.length ≤ D16 ^ n := Nat.pow_le_pow_right (by decide) (by omega)
  have hB2 : D16 ^ b.length ≤ D16 ^ n := Nat.pow_le_pow_right (by decide) (by omega)
  have hta : ∀ i, n ≤ i → vl D16 (a.take i) = vl D16 a := fun i hi => by rw [List.take_of_length_le (by omega)]
  have htb : ∀ i, n ≤ i → vl D16 (b.take i) = vl D16 b := fun i hi => by rw [List.take_of_length_le (by omega)]
  simp (disch := omega) only [wk, tis, Int.reduceNe, Int.reduceEq, Int.reduceLT, Int.reduceLE, Int.reduceAdd, Int.reduceSub, Int.reduceNeg, Int.reduceMul, Int.reduceToNat, Nat.reduceSub, Nat.reduceMul, Nat.reduceLeDiff, Nat.reduceAdd, Nat.reduceLT, Nat.reduceEqDiff, reduceCtorEq, ↓reduceIte]
  refine aloop_nil 5 5 3 1 (by simp (disch := omega) only [wk, tis, Int.reduceNe, Int.reduceEq, Int.reduceLT, Int.reduceLE, Int.reduceAdd, Int.reduceSub, Int.reduceNeg, Int.reduceMul, Int.reduceToNat, Nat.reduceSub, Nat.reduceMul, Nat.reduceLeDiff, Nat.reduceAdd, Nat.reduceLT, Nat.reduceEqDiff, reduceCtorEq, ↓reduceIte]) (fun f H => ∃ (i c st : Nat) (s : List Nat), (i ≤ n ∨ i = n + 1 ∧ D16 ^ n ≤ vl D16 a + vl D16 b) ∧ c ≤ 1 ∧ Dig s ∧ s.length = i ∧ vl D16 s + D16 ^ i * c = vl D16 (a.take i) + vl D16 (b.take i) ∧ f 7 = .iv (.int .i64 i) ∧ f 0 = .iv (.sl (nums a)) ∧ f 1 = .iv (.sl (nums b)) ∧ f 5 = .hs 5 st ∧ f 6 = .iv (.int .i64 c) ∧ H 5 = .blk false st 3 1 (nums s)) (fun f H => ((n : Int) + 2 - intAt f 7).toNat) ?_ ?_
  · refine ⟨0, 0, 1, [], .inl (by omega), by omega, Dig.nil, rfl, by simp [vl], ?_⟩
    simp (disch := omega) only [wk, tis, Int.reduceNe, Int.reduceEq, Int.reduceLT, Int.reduceLE, Int.reduceAdd, Int.reduceSub, Int.reduceNeg, Int.reduceMul, Int.reduceToNat, Nat.reduceSub, Nat.reduceMul, Nat.reduceLeDiff, Nat.reduceAdd, Nat.reduceLT, Nat.reduceEqDiff, reduceCtorEq, ↓reduceIte, ghostF, ghostH]
  rintro f H ⟨i, c, st, s, hi, hc, hS, hSl, hv, hF⟩
  rw [intAt_of hF.1]
  simp (disch := omega) only [wk, tis, Int.reduceNe, Int.reduceEq, Int.reduceLT, Int.reduceLE, Int.reduceAdd, Int.reduceSub, Int.reduceNeg, Int.reduceMul, Int.reduceToNat, Nat.reduceSub, Nat.reduceMul, Nat.reduceLeDiff, Nat.reduceAdd, Nat.reduceLT, Nat.reduceEqDiff, reduceCtorEq, ↓reduceIte, hF]
  have hx := ha.get i
  have hy := hb.get i
  by_cases hgo : i < n ∨ 0 < c
  · have h3 : (i : Int) < a.length ∨ (¬ (i : Int) < a.length ∧ (i : Int) < b.length) ∨ (¬ (i : Int) < a.length ∧ ¬ (i : Int) < b.length ∧ 0 < (c : Int)) := by omega
    have hin : i ≤ n := by
      rcases hi with hi | ⟨rfl, hi⟩
      · exact hi
      · rw [hta _ (by omega), htb _ (by omega)] at hv
        have h5 := vlD_lt hS
        rw [hSl] at h5
        have : c = 1 := by omega
        subst this
        have : D16 ^ (n + 1) = D16 ^ n * D16 := Nat.pow_succ ..
        have : 2 * D16 ^ n ≤ D16 ^ n * D16 := by rw [Nat.mul_comm]; exact Nat.mul_le_mul_left _ (by decide)
        omega
    have hnext : i + 1 ≤ n ∨ i + 1 = n + 1 ∧ D16 ^ n ≤ vl D16 a + vl D16 b := by
      by_cases hlt : i < n
      · exact .inl (by omega)
      · have : i = n := by omega
        subst this
        rw [hta _ (by omega), htb _ (by omega)] at hv
        have : c = 1 := by omega
        subst this
        exact .inr ⟨rfl, by omega⟩
    have hstep : ∀ t, t = c + (a.getD i 0 + b.getD i 0) → Dig (s ++ [t % 65536]) ∧ vl D16 (s ++ [t % 65536]) + D16 ^ (i + 1) * (t / 65536) = vl D16 (a.take (i + 1)) + vl D16 (b.take (i + 1)) := by
      intro t ht
      refine ⟨hS.snoc (Nat.mod_lt _ (by decide)), ?_⟩
      rw [vlD_snoc, vl_take_next, vl_take_next, hSl, Nat.pow_succ]
      exact carryD hv (by rw [ht]; simp only [D16]; omega)
    have e1 : (c : Int) + ((a.getD i 0 : Nat) + (b.getD i 0 : Nat) : Int) = ((c + (a.getD i 0 + b.getD i 0) : Nat) : Int) := by omega
    simp only [D16] at hx hy
    rcases h3 with h | ⟨h, h'⟩ | ⟨h, h', h''⟩
    all_goals
      first | simp (disch := omega) only [wk, tis, Int.reduceNe, Int.reduceEq, Int.reduceLT, Int.reduceLE, Int.reduceAdd, Int.reduceSub, Int.reduceNeg, Int.reduceMul, Int.reduceToNat, Nat.reduceSub, Nat.reduceMul, Nat.reduceLeDiff, Nat.reduceAdd, Nat.reduceLT, Nat.reduceEqDiff, reduceCtorEq, ↓reduceIte, hF, h, h', h''] | simp (disch := omega) only [wk, tis, Int.reduceNe, Int.reduceEq, Int.reduceLT, Int.reduceLE, Int.reduceAdd, Int.reduceSub, Int.reduceNeg, Int.reduceMul, Int.reduceToNat, Nat.reduceSub, Nat.reduceMul, Nat.reduceLeDiff, Nat.reduceAdd, Nat.reduceLT, Nat.reduceEqDiff, reduceCtorEq, ↓reduceIte, hF, h, h'] | simp (disch := omega) only [wk, tis, Int.reduceNe, Int.reduceEq, Int.reduceLT, Int.reduceLE, Int.reduceAdd, Int.reduceSub, Int.reduceNeg, Int.reduceMul, Int.reduceToNat, Nat.reduceSub, Nat.reduceMul, Nat.reduceLeDiff, Nat.reduceAdd, Nat.reduceLT, Nat.reduceEqDiff, reduceCtorEq, ↓reduceIte, hF, h]
      refine call_by ((rdigit_ok a i (by omega))) (by first | rfl | (simp only [tocvs, tocv, hF]; rfl)) (by simp) ?_
      simp (disch := omega) only [wk, tis, Int.reduceNe, Int.reduceEq, Int.reduceLT, Int.reduceLE, Int.reduceAdd, Int.reduceSub, Int.reduceNeg, Int.reduceMul, Int.reduceToNat, Nat.reduceSub, Nat.reduceMul, Nat.reduceLeDiff, Nat.reduceAdd, Nat.reduceLT, Nat.reduceEqDiff, reduceCtorEq, ↓reduceIte, hF]
      refine call_by ((rdigit_ok b i (by omega))) (by first | rfl | (simp only [tocvs, tocv, hF]; rfl)) (by simp) ?_
      simp (disch := omega) only [wk, tis, Int.reduceNe, Int.reduceEq, Int.reduceLT, Int.reduceLE, Int.reduceAdd, Int.reduceSub, Int.reduceNeg, Int.reduceMul, Int.reduceToNat, Nat.reduceSub, Nat.reduceMul, Nat.reduceLeDiff, Nat.reduceAdd, Nat.reduceLT, Nat.reduceEqDiff, reduceCtorEq, ↓reduceIte, hF]
      rw [e1]
      simp (disch := omega) only [wk, tis, Int.reduceNe, Int.reduceEq, Int.reduceLT, Int.reduceLE, Int.reduceAdd, Int.reduceSub, Int.reduceNeg, Int.reduceMul, Int.reduceToNat, Nat.reduceSub, Nat.reduceMul, Nat.reduceLeDiff, Nat.reduceAdd, Nat.reduceLT, Nat.reduceEqDiff, reduceCtorEq, ↓reduceIte, hF, hSl]
      obtain ⟨a1, a2⟩ := hstep _ rfl
      exact ⟨⟨i + 1, _, st + 1, s ++ [_], hnext, by omega, a1, by simp [hSl], a2, by omega, rfl, rfl, rfl⟩, by omega⟩
  · have h1 : ¬ (i : Int) < a.length := by omega
    have h2 : ¬ (i : Int) < b.length := by omega
    have h3 : ¬ 0 < (c : Int) := by omega
    simp (disch := omega) only [wk, tis, Int.reduceNe, Int.reduceEq, Int.reduceLT, Int.reduceLE, Int.reduceAdd, Int.reduceSub, Int.reduceNeg, Int.reduceMul, Int.reduceToNat, Nat.reduceSub, Nat.reduceMul, Nat.reduceLeDiff, Nat.reduceAdd, Nat.reduceLT, Nat.reduceEqDiff, reduceCtorEq, ↓reduceIte, hF, h1, h2, h3]
    have : c = 0 := by omega
    subst this
    rw [hta _ (by omega), htb _ (by omega), Nat.mul_zero, Nat.add_zero] at hv
    have h5 := vlD_lt hS
    rw [hSl] at h5
    have e : s = dn (n + (vl D16 a + vl D16 b) / D16 ^ n) (vl D16 a + vl D16 b) := by
      have hD : D16 ^ (n + 1) = D16 ^ n * D16 := Nat.pow_succ ..
      have hlen : i = n + (vl D16 a + vl D16 b) / D16 ^ n := by
        rcases hi with hi | ⟨rfl, hi⟩
        · have : i = n := by omega
          subst this
          rw [Nat.div_eq_of_lt (by omega), Nat.add_zero]
        · rw [Nat.div_eq_of_lt_le (k := 1) (by omega) (by omega)]
      rw [← hlen]
      exact eq_dn hS hSl (by rw [hv, Nat.mod_eq_of_lt (by omega)])
    rw [e]

theorem rminus_ok (a b : List Nat) (ha : Dig a) (hb : Dig b) (hla : a.length ≤ 2 ^ 42) (hlb : b.length ≤ a.length) (hle : vl D16 b ≤ vl D16 a) : AC Try.prog 150 [cd a, cd b] none [cd (dn a.length (vl D16 a - vl D16 b))] := by
  refine AC.by_walk (rs := [.tmp 4]) ords Try.func150 (by rfl) (by rfl) (by rfl) (by rfl) (by rfl) ?_
  simp (disch := omega) only [wk, tis, Int.reduceNe, Int.reduceEq, Int.reduceLT, Int.reduceLE, Int.reduceAdd, Int.reduceSub, Int.reduceNeg, Int.reduceMul, Int.reduceToNat, Nat.reduceSub, Nat.reduceMul, Nat.reduceLeDiff, Nat.reduceAdd, Nat.reduceLT, Nat.reduceEqDiff, reduceCtorEq, ↓reduceIte]
  refine aloop_nil 5 5 3 1 (by simp (disch := omega) only [wk, tis, Int.reduceNe, Int.reduceEq, Int.reduceLT, Int.reduceLE, Int.reduceAdd, Int.reduceSub, Int.reduceNeg, Int.reduceMul, Int.reduceToNat, Nat.reduceSub, Nat.reduceMul, Nat.reduceLeDiff, Nat.reduceAdd, Nat.reduceLT, Nat.reduceEqDiff, reduceCtorEq, ↓reduceIte]) (fun f H => ∃ (i c st : Nat) (s : List Nat), i ≤ a.length ∧ c ≤ 1 ∧ Dig s ∧ s.length = i ∧ vl D16 s + vl D16 (b.take i) = vl D16 (a.take i) + D16 ^ i * c ∧ f 7 = .iv (.int .i64 i) ∧ f 0 = .iv (.sl (nums a)) ∧ f 1 = .iv (.sl (nums b)) ∧ f 5 = .hs 5 st ∧ f 6 = .iv (.int .i64 c) ∧ H 5 = .blk false st 3 1 (nums s)) (fun f H => (a.length - intAt f 7).toNat) ?_ ?_
  · refine ⟨0, 0, 1, [], by omega, by omega, Dig.nil, rfl, by simp [vl], ?_⟩
    simp (disch := omega) only [wk, tis, Int.reduceNe, Int.reduceEq, Int.reduceLT, Int.reduceLE, Int.reduceAdd, Int.reduceSub, Int.reduceNeg, Int.reduceMul, Int.reduceToNat, Nat.reduceSub, Nat.reduceMul, Nat.reduceLeDiff, Nat.reduceAdd, Nat.reduceLT, Nat.reduceEqDiff, reduceCtorEq, ↓reduceIte, ghostF, ghostH]
  rintro f H ⟨i, c, st, s, hi, hc, hS, hSl, hv, hF⟩
  rw [intAt_of hF.1]
  simp (disch := omega) only [wk, tis, Int.reduceNe, Int.reduceEq, Int.reduceLT, Int.reduceLE, Int.reduceAdd, Int.reduceSub, Int.reduceNeg, Int.reduceMul, Int.reduceToNat, Nat.reduceSub, Nat.reduceMul, Nat.reduceLeDiff, Nat.reduceAdd, Nat.reduceLT, Nat.reduceEqDiff, reduceCtorEq, ↓reduceIte, hF]
  refine if_by (fun hlt => ?_) (fun hlt => ?_)
  · have hx := ha.get i
    have hy := hb.get i
    have hstep : ∀ t c', t < D16 → t + b.getD i 0 + c = a.getD i 0 + D16 * c' → Dig (s ++ [t]) ∧ vl D16 (s ++ [t]) + vl D16 (b.take (i + 1)) = vl D16 (a.take (i + 1)) + D16 ^ (i + 1) * c' := by
      intro t c' ht h
      refine ⟨hS.snoc ht, ?_⟩
      rw [vlD_snoc, vl_take_next, vl_take_next, hSl, Nat.pow_succ]
      exact borrowD hv h
    simp only [D16] at hx hy hstep
    simp (disch := omega) only [wk, tis, Int.reduceNe, Int.reduceEq, Int.reduceLT, Int.reduceLE, Int.reduceAdd, Int.reduceSub, Int.reduceNeg, Int.reduceMul, Int.reduceToNat, Nat.reduceSub, Nat.reduceMul, Nat.reduceLeDiff, Nat.reduceAdd, Nat.reduceLT, Nat.reduceEqDiff, reduceCtorEq, ↓reduceIte, hF]
    refine call_by ((rdigit_ok a i (by omega))) (by first | rfl | (simp only [tocvs, tocv, hF]; rfl)) (by simp) ?_
    simp (disch := omega) only [wk, tis, Int.reduceNe, Int.reduceEq, Int.reduceLT, Int.reduceLE, Int.reduceAdd, Int.reduceSub, Int.reduceNeg, Int.reduceMul, Int.reduceToNat, Nat.reduceSub, Nat.reduceMul, Nat.reduceLeDiff, Nat.reduceAdd, Nat.reduceLT, Nat.reduceEqDiff, reduceCtorEq, ↓reduceIte, hF]
    refine call_by ((rdigit_ok b i (by omega))) (by first | rfl | (simp only [tocvs, tocv, hF]; rfl)) (by simp) ?_
    simp (disch := omega) only [wk, tis, Int.reduceNe, Int.reduceEq, Int.reduceLT, Int.reduceLE, Int.reduceAdd, Int.reduceSub, Int.reduceNeg, Int.reduceMul, Int.reduceToNat, Nat.reduceSub, Nat.reduceMul, Nat.reduceLeDiff, Nat.reduceAdd, Nat.reduceLT, Nat.reduceEqDiff, reduceCtorEq, ↓reduceIte, hF]
    refine if_by (fun hneg => ?_) (fun hneg => ?_)
    · have e1 : (a.getD i 0 : Int) - (b.getD i 0 : Int) - (c : Int) + 65536 = ((a.getD i 0 + 65536 - b.getD i 0 - c : Nat) : Int) := by omega
      simp (disch := omega) only [wk, tis, Int.reduceNe, Int.reduceEq, Int.reduceLT, Int.reduceLE, Int.reduceAdd, Int.reduceSub, Int.reduceNeg, Int.reduceMul, Int.reduceToNat, Nat.reduceSub, Nat.reduceMul, Nat.reduceLeDiff, Nat.reduceAdd, Nat.reduceLT, Nat.reduceEqDiff, reduceCtorEq, ↓reduceIte, hF]
      rw [e1]
      simp (disch := omega) only [wk, tis, Int.reduceNe, Int.reduceEq, Int.reduceLT, Int.reduceLE, Int.reduceAdd, Int.reduceSub, Int.reduceNeg, Int.reduceMul, Int.reduceToNat, Nat.reduceSub, Nat.reduceMul, Nat.reduceLeDiff, Nat.reduceAdd, Nat.reduceLT, Nat.reduceEqDiff, reduceCtorEq, ↓reduceIte, hF, hSl]
      obtain ⟨a1, a2⟩ := hstep (a.getD i 0 + 65536 - b.getD i 0 - c) 1 (by omega) (by omega)
      exact ⟨⟨i + 1, 1, st + 1, _, by omega, by omega, a1, by simp [hSl], a2, by omega, rfl, rfl, rfl⟩, by omega⟩
    · have e1 : (a.getD i 0 : Int) - (b.getD i 0 : Int) - (c : Int) = ((a.getD i 0 - b.getD i 0 - c : Nat) : Int) := by omega
      rw [e1]
      simp (disch := omega) only [wk, tis, Int.reduceNe, Int.reduceEq, Int.reduceLT, Int.reduceLE, Int.reduceAdd, Int.reduceSub, Int.reduceNeg, Int.reduceMul, Int.reduceToNat, Nat.reduceSub, Nat.reduceMul, Nat.reduceLeDiff, Nat.reduceAdd, Nat.reduceLT, Nat.reduceEqDiff, reduceCtorEq, ↓reduceIte, hF, hSl]
      obtain ⟨a1, a2⟩ := hstep (a.getD i 0 - b.getD i 0 - c) 0 (by omega) (by omega)
      exact ⟨⟨i + 1, 0, st + 1, _, by omega, by omega, a1, by simp [hSl], a2, by omega, rfl, rfl, rfl⟩, by omega⟩
  · simp (disch := omega) only [wk, tis, Int.reduceNe, Int.reduceEq, Int.reduceLT, Int.reduceLE, Int.reduceAdd, Int.reduceSub, Int.reduceNeg, Int.reduceMul, Int.reduceToNat, Nat.reduceSub, Nat.reduceMul, Nat.reduceLeDiff, Nat.reduceAdd, Nat.reduceLT, Nat.reduceEqDiff, reduceCtorEq, ↓reduceIte, hF]
    have hin : i = a.length := by omega
    rw [List.take_of_length_le (by omega), List.take_of_length_le (by omega)] at hv
    have h5 := vlD_lt hS
    rw [hSl] at h5
    have : c = 0 ∨ c = 1 := by omega
    have e : s = dn a.length (vl D16 a - vl D16 b) := by
      refine eq_dn hS (by omega) ?_
      rw [← hin]
      rcases this with rfl | rfl
      · rw [Nat.mod_eq_of_lt (by omega)]; omega
      · omega
    rw [e]

/-- Of two numbers: below, the same, above. -/
def cmpN (x y : Nat) : Int := if x < y then -1 else if y < x then 1 else 0

theorem cmpN_sign (x y : Nat) : cmpN x y = ((x : Int) - y).sign := by
  unfold cmpN
  split
  · rw [Int.sign_eq_neg_one_of_neg (by omega)]
  · split
    · rw [Int.sign_eq_one_of_pos (by omega)]
    · rw [show (x : Int) - y = 0 by omega]; rfl

theorem top_lt {x y i : Nat} (h : x / D16 ^ (i + 1) = y / D16 ^ (i + 1)) (hd : x / D16 ^ i % D16 < y / D16 ^ i % D16) : x < y := by
  have e : ∀ z : Nat, z / D16 ^ i = D16 * (z / D16 ^ (i + 1)) + z / D16 ^ i % D16 := fun z => by
    rw [Nat.pow_succ, ← Nat.div_div_eq_div_mul]; exact (Nat.div_add_mod _ _).symm
  have h1 := e x
  have h2 := e y
  rw [h] at h1
  rcases Nat.lt_or_ge x y with h3 | h3
  · exact h3
  · have := Nat.div_le_div_right (c := D16 ^ i) h3
    omega

theorem rcompare_ok (a b : List Nat) (ha : Dig a) (hb : Dig b) (hla : a.length ≤ 2 ^ 42) (hlb : b.length ≤ 2 ^ 42) : AC Try.prog 143 [cd a, cd b] none [ci (cmpN (vl D16 a) (vl D16 b))] := by
  refine AC.by_walk (rs := [.tmp 4]) ords Try.func143 (by rfl) (by rfl) (by rfl) (by rfl) (by rfl) ?_
  generalize hn : max a.length b.length = n at *
  have hnI : max (a.length : Int) (b.length : Int) = (n : Int) := by omega
  have h0 : vl D16 a / D16 ^ n = vl D16 b / D16 ^ n := by
    have hA := vlD_lt ha
    have hB := vlD_lt hb
    have hA2 : D16 ^ a.length ≤ D16 ^ n := Nat.pow_le_pow_right (by decide) (by omega)
    have hB2 : D16 ^ b.length ≤ D16 ^ n := Nat.pow_le_pow_right (by decide) (by omega)
    rw [Nat.div_eq_of_lt (by omega), Nat.div_eq_of_lt (by omega)]
  simp (disch := omega) only [wk, tis, Int.reduceNe, Int.reduceEq, Int.reduceLT, Int.reduceLE, Int.reduceAdd, Int.reduceSub, Int.reduceNeg, Int.reduceMul, Int.reduceToNat, Nat.reduceSub, Nat.reduceMul, Nat.reduceLeDiff, Nat.reduceAdd, Nat.reduceLT, Nat.reduceEqDiff, reduceCtorEq, ↓reduceIte, hnI]
  refine aloop_by (fun f H => ∃ (i : Nat), i ≤ n ∧ vl D16 a / D16 ^ i = vl D16 b / D16 ^ i ∧ f 5 = .iv (.int .i64 ((i : Int) - 1)) ∧ f 0 = .iv (.sl (nums a)) ∧ f 1 = .iv (.sl (nums b))) (fun f H => (intAt f 5 + 1).toNat) ?_ ?_
  · refine ⟨n, by omega, h0, ?_⟩
    simp (disch := omega) only [wk, tis, Int.reduceNe, Int.reduceEq, Int.reduceLT, Int.reduceLE, Int.reduceAdd, Int.reduceSub, Int.reduceNeg, Int.reduceMul, Int.reduceToNat, Nat.reduceSub, Nat.reduceMul, Nat.reduceLeDiff, Nat.reduceAdd, Nat.reduceLT, Nat.reduceEqDiff, reduceCtorEq, ↓reduceIte]
  rintro f H ⟨i, hi, hv, hF⟩
  rw [intAt_of hF.1]
  simp (disch := omega) only [wk, tis, Int.reduceNe, Int.reduceEq, Int.reduceLT, Int.reduceLE, Int.reduceAdd, Int.reduceSub, Int.reduceNeg, Int.reduceMul, Int.reduceToNat, Nat.reduceSub, Nat.reduceMul, Nat.reduceLeDiff, Nat.reduceAdd, Nat.reduceLT, Nat.reduceEqDiff, reduceCtorEq, ↓reduceIte, hF]
  refine if_by (fun hlt => ?_) (fun hlt => ?_)
  · obtain ⟨j, rfl⟩ : ∃ j, i = j + 1 := ⟨i - 1, by omega⟩
    have ej : ((j + 1 : Nat) : Int) - 1 = (j : Int) := by omega
    have hx := dig_at ha j
    have hy := dig_at hb j
    rw [ej] at hF
    simp (disch := omega) only [wk, tis, Int.reduceNe, Int.reduceEq, Int.reduceLT, Int.reduceLE, Int.reduceAdd, Int.reduceSub, Int.reduceNeg, Int.reduceMul, Int.reduceToNat, Nat.reduceSub, Nat.reduceMul, Nat.reduceLeDiff, Nat.reduceAdd, Nat.reduceLT, Nat.reduceEqDiff, reduceCtorEq, ↓reduceIte, hF]
    refine call_by ((rdigit_ok a j (by omega))) (by first | rfl | (simp only [tocvs, tocv, hF]; rfl)) (by simp) ?_
    simp (disch := omega) only [wk, tis, Int.reduceNe, Int.reduceEq, Int.reduceLT, Int.reduceLE, Int.reduceAdd, Int.reduceSub, Int.reduceNeg, Int.reduceMul, Int.reduceToNat, Nat.reduceSub, Nat.reduceMul, Nat.reduceLeDiff, Nat.reduceAdd, Nat.reduceLT, Nat.reduceEqDiff, reduceCtorEq, ↓reduceIte, hF]
    refine call_by ((rdigit_ok b j (by omega))) (by first | rfl | (simp only [tocvs, tocv, hF]; rfl)) (by simp) ?_
    simp (disch := omega) only [wk, tis, Int.reduceNe, Int.reduceEq, Int.reduceLT, Int.reduceLE, Int.reduceAdd, Int.reduceSub, Int.reduceNeg, Int.reduceMul, Int.reduceToNat, Nat.reduceSub, Nat.reduceMul, Nat.reduceLeDiff, Nat.reduceAdd, Nat.reduceLT, Nat.reduceEqDiff, reduceCtorEq, ↓reduceIte, hF]
    refine if_by (fun h1 => ?_) (fun h1 => ?_)
    · simp (disch := omega) only [wk, tis, Int.reduceNe, Int.reduceEq, Int.reduceLT, Int.reduceLE, Int.reduceAdd, Int.reduceSub, Int.reduceNeg, Int.reduceMul, Int.reduceToNat, Nat.reduceSub, Nat.reduceMul, Nat.reduceLeDiff, Nat.reduceAdd, Nat.reduceLT, Nat.reduceEqDiff, reduceCtorEq, ↓reduceIte, hF]
      have : vl D16 a < vl D16 b := top_lt hv (by omega)
      rw [cmpN, if_pos this]
    simp (disch := omega) only [wk, tis, Int.reduceNe, Int.reduceEq, Int.reduceLT, Int.reduceLE, Int.reduceAdd, Int.reduceSub, Int.reduceNeg, Int.reduceMul, Int.reduceToNat, Nat.reduceSub, Nat.reduceMul, Nat.reduceLeDiff, Nat.reduceAdd, Nat.reduceLT, Nat.reduceEqDiff, reduceCtorEq, ↓reduceIte, hF]
    refine if_by (fun h2 => ?_) (fun h2 => ?_)
    · simp (disch := omega) only [wk, tis, Int.reduceNe, Int.reduceEq, Int.reduceLT, Int.reduceLE, Int.reduceAdd, Int.reduceSub, Int.reduceNeg, Int.reduceMul, Int.reduceToNat, Nat.reduceSub, Nat.reduceMul, Nat.reduceLeDiff, Nat.reduceAdd, Nat.reduceLT, Nat.reduceEqDiff, reduceCtorEq, ↓reduceIte, hF]
      have : vl D16 b < vl D16 a := top_lt hv.symm (by omega)
      rw [cmpN, if_neg (by omega), if_pos this]
    simp (disch := omega) only [wk, tis, Int.reduceNe, Int.reduceEq, Int.reduceLT, Int.reduceLE, Int.reduceAdd, Int.reduceSub, Int.reduceNeg, Int.reduceMul, Int.reduceToNat, Nat.reduceSub, Nat.reduceMul, Nat.reduceLeDiff, Nat.reduceAdd, Nat.reduceLT, Nat.reduceEqDiff, reduceCtorEq, ↓reduceIte, hF]
    refine ⟨⟨j, by omega, ?_, rfl⟩, by omega⟩
    have e : ∀ z : Nat, z / D16 ^ j = D16 * (z / D16 ^ (j + 1)) + z / D16 ^ j % D16 := fun z => by
      rw [Nat.pow_succ, ← Nat.div_div_eq_div_mul]; exact (Nat.div_add_mod _ _).symm
    rw [e (vl D16 a), e (vl D16 b), hv]
    omega
  · simp (disch := omega) only [wk, tis, Int.reduceNe, Int.reduceEq, Int.reduceLT, Int.reduceLE, Int.reduceAdd, Int.reduceSub, Int.reduceNeg, Int.reduceMul, Int.reduceToNat, Nat.reduceSub, Nat.reduceMul, Nat.reduceLeDiff, Nat.reduceAdd, Nat.reduceLT, Nat.reduceEqDiff, reduceCtorEq, ↓reduceIte, hF]
    have : i = 0 := by omega
    subst this
    simp at hv
    rw [hv, cmpN]; simp

theorem rcmp_ok (a b : List Nat) (ha : Lim a) (hb : Lim b) (hla : a.length ≤ 2 ^ 40) (hlb : b.length ≤ 2 ^ 40) : AC Try.prog 111 [cl a, cl b] none [ci (cmpN (nv a) (nv b))] := by
  refine AC.by_walk (rs := [.tmp 4]) ords Try.func111 (by rfl) (by rfl) (by rfl) (by rfl) (by rfl) ?_
  have h1 := dgD_len ha
  have h2 := dgD_len hb
  simp (disch := omega) only [wk, tis, Int.reduceNe, Int.reduceEq, Int.reduceLT, Int.reduceLE, Int.reduceAdd, Int.reduceSub, Int.reduceNeg, Int.reduceMul, Int.reduceToNat, Nat.reduceSub, Nat.reduceMul, Nat.reduceLeDiff, Nat.reduceAdd, Nat.reduceLT, Nat.reduceEqDiff, reduceCtorEq, ↓reduceIte]
  refine call_by ((rdig_ok a ha hla)) (by rfl) (by simp) ?_
  simp (disch := omega) only [wk, tis, Int.reduceNe, Int.reduceEq, Int.reduceLT, Int.reduceLE, Int.reduceAdd, Int.reduceSub, Int.reduceNeg, Int.reduceMul, Int.reduceToNat, Nat.reduceSub, Nat.reduceMul, Nat.reduceLeDiff, Nat.reduceAdd, Nat.reduceLT, Nat.reduceEqDiff, reduceCtorEq, ↓reduceIte]
  refine call_by ((rdig_ok b hb hlb)) (by rfl) (by simp) ?_
  simp (disch := omega) only [wk, tis, Int.reduceNe, Int.reduceEq, Int.reduceLT, Int.reduceLE, Int.reduceAdd, Int.reduceSub, Int.reduceNeg, Int.reduceMul, Int.reduceToNat, Nat.reduceSub, Nat.reduceMul, Nat.reduceLeDiff, Nat.reduceAdd, Nat.reduceLT, Nat.reduceEqDiff, reduceCtorEq, ↓reduceIte]
  have := rcompare_ok (dgD (nv a)) (dgD (nv b)) (dgD_dig _) (dgD_dig _) (by omega) (by omega)
  rw [vl_dgD, vl_dgD] at this
  refine call_by (this) (by rfl) (by simp) ?_
  simp (disch := omega) only [wk, tis, Int.reduceNe, Int.reduceEq, Int.reduceLT, Int.reduceLE, Int.reduceAdd, Int.reduceSub, Int.reduceNeg, Int.reduceMul, Int.reduceToNat, Nat.reduceSub, Nat.reduceMul, Nat.reduceLeDiff, Nat.reduceAdd, Nat.reduceLT, Nat.reduceEqDiff, reduceCtorEq, ↓reduceIte]

end Go.Proofs.Ythgecppfgdadiaa
