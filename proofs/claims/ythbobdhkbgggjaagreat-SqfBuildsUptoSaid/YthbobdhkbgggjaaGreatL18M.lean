/-
  Contracts of the functions that the law reaches.
-/
import Derived.Test.YthbobdhkbgggjaaGreatL36M
import Derived.Test.YthbobdhkbgggjaaGreatAbsRM
import Derived.Test.YthbobdhkbgggjaaGreatTyA
import Derived.RangeFuncBox
import Derived.OwnWalkIn
import Derived.TacticsInMore
import Derived.LoopNIn
import Derived.LoopIn
import Derived.Test.YthbobdhkbgggjaaGreatAbsX
set_option maxHeartbeats 2000000
namespace Go.Proofs.YthbobdhkbgggjaaGreat
open Go Go.Proofs Go.AL
set_option linter.unusedSimpArgs false
set_option linter.unusedVariables false
theorem rone_ok (a : List Nat) (hl : a.length ≤ 2 ^ 43) : AC Tryz.prog 103 [cl a] none [cu (if topN a = 0 then 0 else a.getD 0 0), cb (decide (topN a ≤ 1))] := by
  refine AC.by_walk (rs := [.tmp 2, .tmp 3]) ords Tryz.func103 (by rfl) (by rfl) (by rfl) (by rfl) (by rfl) ?_
  simp (disch := omega) only [wk, tis, seval, reduceCtorEq, Nat.reduceEqDiff]
  refine aloop_by (fun f H => ∃ (k : Nat), k ≤ a.length ∧ topN (a.take k) = topN a ∧ f 4 = .iv (.int .i64 k) ∧ f 0 = .iv (.sl (lims a))) (fun f H => (intAt f 4).toNat) ?_ ?_
  · refine ⟨a.length, by omega, by rw [List.take_length], ?_⟩
    simp (disch := omega) only [wk, tis, seval, reduceCtorEq, Nat.reduceEqDiff]
  rintro f H ⟨k, hk, ht, hF⟩
  rw [intAt_of hF.1]
  simp (disch := omega) only [wk, tis, seval, reduceCtorEq, Nat.reduceEqDiff, hF]
  have done : (k = topN a) → a.length ≥ k → True := fun _ _ => trivial
  by_cases h0 : 0 < (k : Int)
  · obtain ⟨j, rfl⟩ : ∃ j, k = j + 1 := ⟨k - 1, by omega⟩
    have ej : ((j + 1 : Nat) : Int) - 1 = (j : Int) := by omega
    simp (disch := omega) only [wk, tis, seval, reduceCtorEq, Nat.reduceEqDiff, hF, h0, ej]
    refine if_by (fun hz => ?_) (fun hz => ?_)
    · simp (disch := omega) only [wk, tis, seval, reduceCtorEq, Nat.reduceEqDiff, hF, ej]
      exact ⟨j, by omega, by rw [← topN_take_zero (by omega) (by omega), ht], rfl⟩
    · have hk' : topN a = j + 1 := by rw [← ht, topN_full (by omega) (by omega)]
      have hne : ¬ ((j + 1 : Nat) : Int) = 0 := by omega
      simp (disch := omega) only [wk, tis, seval, reduceCtorEq, Nat.reduceEqDiff, hF, hne]
      rw [if_neg (by omega), hk']
      exact ⟨rfl, decide_eq_decide.mpr (by omega)⟩
  · have : k = 0 := by omega
    subst this
    have hk' : topN a = 0 := by rw [← ht]; rfl
    simp (disch := omega) only [wk, tis, seval, reduceCtorEq, Nat.reduceEqDiff, hF]
    rw [hk']
    exact ⟨rfl, rfl⟩
theorem topN_one {a : List Nat} (h : Lim a) (ht : topN a ≤ 1) : nv a = if topN a = 0 then 0 else a.getD 0 0 := by
  have e : nv (a.take (topN a)) = nv a := vl_drop_top two_le_W h
  rw [← e]
  split
  · rename_i h0; rw [h0]; rfl
  · rename_i h0
    have h1 : topN a = 1 := by omega
    rw [h1]
    have := vl_take_next W a 0
    rw [Nat.zero_add] at this
    show vl W (a.take 1) = _
    rw [this]
    simp [vl]
theorem rones_ok (a b : List Nat) (m : Nat) (ha : Lim a) (hb : Lim b) (hm : m ≤ 63) (hla : a.length ≤ 2 ^ 43) (hlb : b.length ≤ 2 ^ 43) :
    ∃ (x y : Nat) (s : Bool), AC Tryz.prog 76 [cl a, cl b, ci m] none [cu x, cu y, cb s] ∧ (s = true → x = nv a ∧ y = nv b ∧ nv a < 2 ^ m ∧ nv b < 2 ^ m) := by
  have hs : ∀ x : Nat, (x : Int).fdiv (2 ^ min m IntKind.u64.bits) = ((x / 2 ^ m : Nat) : Int) := by
    intro x
    rw [show min m IntKind.u64.bits = m from Nat.min_eq_left (by simp only [IntKind.bits]; omega), Int.fdiv_eq_ediv_of_nonneg _ (by exact Int.le_of_lt (Int.pow_pos (by decide)))]
    norm_cast
  generalize hX : (if topN a = 0 then 0 else a.getD 0 0) = X
  generalize hY : (if topN b = 0 then 0 else b.getD 0 0) = Y
  refine ⟨X, Y, decide (topN a ≤ 1) && decide (topN b ≤ 1) && decide (X / 2 ^ m = 0) && decide (Y / 2 ^ m = 0), ?_, ?_⟩
  · refine AC.by_walk (rs := [.tmp 6, .tmp 7, .tmp 8]) ords Tryz.func76 (by rfl) (by rfl) (by rfl) (by rfl) (by rfl) ?_
    have h1 := rone_ok a hla
    have h2 := rone_ok b hlb
    rw [hX] at h1
    rw [hY] at h2
    simp (disch := omega) only [wk, tis, seval, reduceCtorEq, Nat.reduceEqDiff]
    refine call_by (h1) (by rfl) (by simp) ?_
    simp (disch := omega) only [wk, tis, seval, reduceCtorEq, Nat.reduceEqDiff]
    refine call_by (h2) (by rfl) (by simp) ?_
    simp (disch := omega) only [wk, tis, seval, reduceCtorEq, Nat.reduceEqDiff]
    refine ⟨tmps_by (by kernel_rfl), ?_⟩
    by_cases t1 : topN a ≤ 1
    · by_cases t2 : topN b ≤ 1
      · by_cases t3 : X / 2 ^ m = 0
        · by_cases t4 : ((Y / 2 ^ m : Nat) : Int) = 0
          · have t3' : ((X / 2 ^ m : Nat) : Int) = 0 := by omega
            simp (disch := omega) only [wk, tis, seval, reduceCtorEq, Nat.reduceEqDiff, t1, t2, hs, t3', t4]
            first | exact log_by (by kernel_rfl) | refine ⟨log_by (by kernel_rfl), ?_⟩
            simp [t3, show Y / 2 ^ m = 0 by omega]
          · have t3' : ((X / 2 ^ m : Nat) : Int) = 0 := by omega
            simp (disch := omega) only [wk, tis, seval, reduceCtorEq, Nat.reduceEqDiff, t1, t2, hs, t3', t4]
            first | exact log_by (by kernel_rfl) | refine ⟨log_by (by kernel_rfl), ?_⟩
            simp [show ¬ Y / 2 ^ m = 0 by omega]
        · have t3' : ¬ ((X / 2 ^ m : Nat) : Int) = 0 := by omega
          simp (disch := omega) only [wk, tis, seval, reduceCtorEq, Nat.reduceEqDiff, t1, t2, hs, t3']
          first | exact log_by (by kernel_rfl) | refine ⟨log_by (by kernel_rfl), ?_⟩
          simp [t3]
      · simp (disch := omega) only [wk, tis, seval, reduceCtorEq, Nat.reduceEqDiff, t1, t2]
        first | exact log_by (by kernel_rfl) | refine ⟨log_by (by kernel_rfl), ?_⟩
        simp
    · simp (disch := omega) only [wk, tis, seval, reduceCtorEq, Nat.reduceEqDiff, t1]
      first | exact log_by (by kernel_rfl) | refine ⟨log_by (by kernel_rfl), ?_⟩
      simp
  · intro h
    simp only [Bool.and_eq_true, decide_eq_true_eq] at h
    obtain ⟨⟨⟨h1, h2⟩, h3⟩, h4⟩ := h
    have e1 := topN_one ha h1
    have e2 := topN_one hb h2
    rw [e1, e2, hX, hY]
    rw [Nat.div_eq_zero_iff] at h3 h4
    have := Nat.pow_pos (n := m) (show 0 < 2 by decide)
    omega
theorem rof_ok (w : Nat) (h : w < W) : AC Tryz.prog 77 [cu w] none [cl (wd w)] := by
  refine AC.by_walk (rs := [.tmp 2]) ords Tryz.func77 (by rfl) (by rfl) (by rfl) (by rfl) (by rfl) ?_
  simp (disch := omega) only [wk, tis, seval, reduceCtorEq, Nat.reduceEqDiff]
  refine if_by (fun hz => ?_) (fun hz => ?_)
  · have : w = 0 := by omega
    subst this
    simp (disch := omega) only [wk, tis, seval, reduceCtorEq, Nat.reduceEqDiff, wd_zero]
  · have : wd w = [w] := by
      rw [wd, dg_pos two_le_W (by omega), Nat.mod_eq_of_lt h, Nat.div_eq_of_lt h, dg_zero]
    simp (disch := omega) only [wk, tis, seval, reduceCtorEq, Nat.reduceEqDiff, this]
    rfl
theorem rPlus_ok (a b : List Nat) (ha : Lim a) (hb : Lim b) (hla : a.length ≤ 2 ^ 38) (hlb : b.length ≤ 2 ^ 38) : AC Tryz.prog 46 [cl a, cl b] none [cl (wd (nv a + nv b))] := by
  refine AC.by_walk (rs := [.tmp 4]) ords Tryz.func46 (by rfl) (by rfl) (by rfl) (by rfl) (by rfl) ?_
  obtain ⟨x, y, s, h1, h2⟩ := rones_ok a b 63 ha hb (by omega) (by omega) (by omega)
  have h3 := dgD_len ha
  have h4 := dgD_len hb
  simp (disch := omega) only [wk, tis, seval, reduceCtorEq, Nat.reduceEqDiff]
  refine call_by (h1) (by rfl) (by simp) ?_
  simp (disch := omega) only [wk, tis, seval, reduceCtorEq, Nat.reduceEqDiff]
  cases s with
  | true =>
    obtain ⟨rfl, rfl, b1, b2⟩ := h2 rfl
    simp (disch := omega) only [wk, tis, seval, reduceCtorEq, Nat.reduceEqDiff, wrap_add_nat (m := nv a) (n := nv b) (by simp only [W]; omega)]
    refine call_by ((rof_ok (nv a + nv b) (by simp only [W]; omega))) (by rfl) (by simp) ?_
    simp (disch := omega) only [wk, tis, seval, reduceCtorEq, Nat.reduceEqDiff]
  | false =>
    simp (disch := omega) only [wk, tis, seval, reduceCtorEq, Nat.reduceEqDiff]
    refine call_by ((rdig_ok a ha (by omega))) (by rfl) (by simp) ?_
    simp (disch := omega) only [wk, tis, seval, reduceCtorEq, Nat.reduceEqDiff]
    refine call_by ((rdig_ok b hb (by omega))) (by rfl) (by simp) ?_
    simp (disch := omega) only [wk, tis, seval, reduceCtorEq, Nat.reduceEqDiff]
    have p := rplus_ok (dgD (nv a)) (dgD (nv b)) (dgD_dig _) (dgD_dig _) (by omega) (by omega)
    rw [vl_dgD, vl_dgD] at p
    refine call_by (p) (by rfl) (by simp) ?_
    simp (disch := omega) only [wk, tis, seval, reduceCtorEq, Nat.reduceEqDiff]
    have hA := vlD_lt (dgD_dig (nv a))
    have hB := vlD_lt (dgD_dig (nv b))
    rw [vl_dgD] at hA hB
    generalize hn : max (dgD (nv a)).length (dgD (nv b)).length = n
    have hA2 : D16 ^ (dgD (nv a)).length ≤ D16 ^ n := Nat.pow_le_pow_right (by decide) (by omega)
    have hB2 : D16 ^ (dgD (nv b)).length ≤ D16 ^ n := Nat.pow_le_pow_right (by decide) (by omega)
    have hq : (nv a + nv b) / D16 ^ n < 2 := by
      rw [Nat.div_lt_iff_lt_mul (D_pow_pos n)]; omega
    have hlen : n + (nv a + nv b) / D16 ^ n ≤ 2 ^ 42 := by
      generalize (nv a + nv b) / D16 ^ n = q at hq
      omega
    have q := rnumber_ok (dn (n + (nv a + nv b) / D16 ^ n) (nv a + nv b)) (dn_dig _ _) (by rw [dn_len]; exact hlen)
    have e : vl D16 (dn (n + (nv a + nv b) / D16 ^ n) (nv a + nv b)) = nv a + nv b := by
      rw [vl_dn, Nat.mod_eq_of_lt]
      have two : ∀ q, q < 2 → q = 0 ∨ q = 1 := by omega
      have := two _ hq
      rcases this with h | h
      · rw [h, Nat.add_zero]; exact (Nat.div_eq_zero_iff_lt (D_pow_pos n)).mp h
      · rw [h, Nat.pow_succ]
        have : 2 * D16 ^ n ≤ D16 ^ n * D16 := by rw [Nat.mul_comm]; exact Nat.mul_le_mul_left _ (by decide)
        omega
    rw [e] at q
    refine call_by (q) (by rfl) (by simp) ?_
    simp (disch := omega) only [wk, tis, seval, reduceCtorEq, Nat.reduceEqDiff]
theorem rMinus_ok (a b : List Nat) (ha : Lim a) (hb : Lim b) (hla : a.length ≤ 2 ^ 38) (hlb : b.length ≤ 2 ^ 38) (hle : nv b ≤ nv a) : AC Tryz.prog 48 [cl a, cl b] none [cl (wd (nv a - nv b))] := by
  refine AC.by_walk (rs := [.tmp 4]) ords Tryz.func48 (by rfl) (by rfl) (by rfl) (by rfl) (by rfl) ?_
  obtain ⟨x, y, s, h1, h2⟩ := rones_ok a b 63 ha hb (by omega) (by omega) (by omega)
  have h3 := dgD_len ha
  have h4 := dgD_len hb
  simp (disch := omega) only [wk, tis, seval, reduceCtorEq, Nat.reduceEqDiff]
  refine call_by (h1) (by rfl) (by simp) ?_
  simp (disch := omega) only [wk, tis, seval, reduceCtorEq, Nat.reduceEqDiff]
  cases s with
  | true =>
    obtain ⟨rfl, rfl, b1, b2⟩ := h2 rfl
    have e1 : (nv a : Int) - (nv b : Int) = ((nv a - nv b : Nat) : Int) := by omega
    simp (disch := omega) only [wk, tis, seval, reduceCtorEq, Nat.reduceEqDiff, e1, wrap_nat (n := nv a - nv b) (by simp only [W]; omega)]
    refine call_by ((rof_ok (nv a - nv b) (by simp only [W]; omega))) (by rfl) (by simp) ?_
    simp (disch := omega) only [wk, tis, seval, reduceCtorEq, Nat.reduceEqDiff]
  | false =>
    simp (disch := omega) only [wk, tis, seval, reduceCtorEq, Nat.reduceEqDiff]
    refine call_by ((rdig_ok a ha (by omega))) (by rfl) (by simp) ?_
    simp (disch := omega) only [wk, tis, seval, reduceCtorEq, Nat.reduceEqDiff]
    refine call_by ((rdig_ok b hb (by omega))) (by rfl) (by simp) ?_
    simp (disch := omega) only [wk, tis, seval, reduceCtorEq, Nat.reduceEqDiff]
    have hlen : (dgD (nv b)).length ≤ (dgD (nv a)).length := (dg_length_le two_le_D _).mpr (Nat.lt_of_le_of_lt hle ((dg_length_le two_le_D _).mp (Nat.le_refl _)))
    have p := rminus_ok (dgD (nv a)) (dgD (nv b)) (dgD_dig _) (dgD_dig _) (by omega) hlen (by rw [vl_dgD, vl_dgD]; exact hle)
    rw [vl_dgD, vl_dgD] at p
    refine call_by (p) (by rfl) (by simp) ?_
    simp (disch := omega) only [wk, tis, seval, reduceCtorEq, Nat.reduceEqDiff]
    have hA := vlD_lt (dgD_dig (nv a))
    rw [vl_dgD] at hA
    have q := rnumber_ok (dn (dgD (nv a)).length (nv a - nv b)) (dn_dig _ _) (by rw [dn_len]; omega)
    have e : vl D16 (dn (dgD (nv a)).length (nv a - nv b)) = nv a - nv b := by
      rw [vl_dn, Nat.mod_eq_of_lt (by omega)]
    rw [e] at q
    refine call_by (q) (by rfl) (by simp) ?_
    simp (disch := omega) only [wk, tis, seval, reduceCtorEq, Nat.reduceEqDiff]
theorem vlD_set_take {l : List Nat} {k m : Nat} (hk : k < m) (hm : m ≤ l.length) (x : Nat) : vl D16 ((l.set k x).take m) + D16 ^ k * l.getD k 0 = vl D16 (l.take m) + D16 ^ k * x := by
  have e : (l.set k x).take m = (l.take m).set k x := by rw [List.take_set]
  have h2 : (l.take m).getD k 0 = l.getD k 0 := by simp [List.getD, List.getElem?_take, hk]
  rw [e, ← h2]
  exact vl_set D16 (by rw [List.length_take]; omega) x
theorem rowD {T T' Q A b S Bj c o lo hi : Nat} (h : T + Q * c = S + b * Bj) (hT : T' + Q * o = T + Q * lo) (he : hi * D16 + lo = A + c + o) : T' + Q * D16 * hi = S + (b * Bj + Q * A) := by
  have := congrArg (Q * ·) he
  simp only [Nat.mul_add] at this
  rw [Nat.mul_assoc, Nat.mul_comm D16 hi]
  omega
theorem rtimes_ok (a b : List Nat) (ha : Dig a) (hb : Dig b) (hla : a.length ≤ 2 ^ 40) (hlb : b.length ≤ 2 ^ 40) : AC Tryz.prog 83 [cd a, cd b] none [cd (dn (a.length + b.length) (vl D16 a * vl D16 b))] := by
  refine AC.by_walk (rs := [.tmp 4]) ords Tryz.func83 (by rfl) (by rfl) (by rfl) (by rfl) (by rfl) ?_
  have eN : ((a.length : Int) + (b.length : Int)) = ((a.length + b.length : Nat) : Int) := by omega
  simp (disch := omega) only [wk, tis, seval, reduceCtorEq, Nat.reduceEqDiff, eN, nums_rep]
  refine aloop_by (fun f H => ∃ (i st : Nat) (s : List Nat), i ≤ a.length ∧ Dig s ∧ s.length = a.length + b.length ∧ vl D16 (s.take (i + b.length)) = vl D16 (a.take i) * vl D16 b ∧ (∀ k, i + b.length ≤ k → s.getD k 0 = 0) ∧ f 6 = .iv (.int .i64 i) ∧ f 0 = .iv (.sl (nums a)) ∧ f 1 = .iv (.sl (nums b)) ∧ f 5 = .hs 14 st ∧ H 14 = .blk false st 3 1 (nums s)) (fun f H => (a.length - intAt f 6).toNat) ?_ ?_
  · refine ⟨0, 1, List.replicate (a.length + b.length) 0, by omega, Dig.replicate _, by simp, by rw [List.take_replicate]; simp [vl_replicate, vl], fun k _ => by simp [List.getD, List.getElem?_replicate]; split <;> rfl, ?_⟩
    simp (disch := omega) only [wk, tis, seval, reduceCtorEq, Nat.reduceEqDiff]
  rintro f H ⟨i, st, s, hi, hS, hSl, hv, hz, hF⟩
  rw [intAt_of hF.1]
  simp (disch := omega) only [wk, tis, seval, reduceCtorEq, Nat.reduceEqDiff, hF]
  refine if_by (fun hlt => ?_) (fun hlt => ?_)
  · simp (disch := omega) only [wk, tis, seval, reduceCtorEq, Nat.reduceEqDiff, hF]
    have hx := ha.get i
    refine aloop_by (fun f H => ∃ (k c st : Nat) (s : List Nat), k ≤ b.length ∧ c < D16 ∧ Dig s ∧ s.length = a.length + b.length ∧ vl D16 (s.take (i + b.length)) + D16 ^ (i + k) * c = vl D16 (a.take i) * vl D16 b + (D16 ^ i * a.getD i 0) * vl D16 (b.take k) ∧ (∀ k, i + b.length ≤ k → s.getD k 0 = 0) ∧ f 8 = .iv (.int .i64 k) ∧ f 0 = .iv (.sl (nums a)) ∧ f 1 = .iv (.sl (nums b)) ∧ f 5 = .hs 14 st ∧ f 6 = .iv (.int .i64 i) ∧ f 7 = .iv (.int .i64 c) ∧ H 14 = .blk false st 3 1 (nums s)) (fun f H => (b.length - intAt f 8).toNat) ?_ ?_
    · refine ⟨0, 0, st, s, by omega, by decide, hS, hSl, by simp [hv, vl], hz, ?_⟩
      simp (disch := omega) only [wk, tis, seval, reduceCtorEq, Nat.reduceEqDiff, hF]
    rintro f H ⟨k, c, st, s, hk, hc, hS, hSl, hv, hz, hF⟩
    rw [intAt_of hF.1]
    simp (disch := omega) only [wk, tis, seval, reduceCtorEq, Nat.reduceEqDiff, hF]
    refine if_by (fun hlk => ?_) (fun hlk => ?_)
    · have hy := hb.get k
      have ho := hS.get (i + k)
      have eij : (i : Int) + (k : Int) = ((i + k : Nat) : Int) := by omega
      have eab : (a.getD i 0 : Int) * (b.getD k 0 : Int) = ((a.getD i 0 * b.getD k 0 : Nat) : Int) := (Int.natCast_mul _ _).symm
      have hm : a.getD i 0 * b.getD k 0 ≤ 65535 * 65535 := Nat.mul_le_mul (by simp only [D16] at hx; omega) (by simp only [D16] at hy; omega)
      have hdef : ∃ m, m = a.getD i 0 * b.getD k 0 := ⟨_, rfl⟩
      obtain ⟨m, hm1⟩ := hdef
      rw [← hm1] at eab hm
      have et : (c : Int) + ((s.getD (i + k) 0 : Nat) + (m : Nat) : Int) = ((c + (s.getD (i + k) 0 + m) : Nat) : Int) := by omega
      have hT : c + (s.getD (i + k) 0 + m) < 65536 * 65536 := by simp only [D16] at hc ho; omega
      simp only [D16] at hc ho
      simp (disch := omega) only [wk, tis, seval, reduceCtorEq, Nat.reduceEqDiff, hF, eij, eab, et]
      refine ⟨tmps_by (by kernel_rfl), ?_⟩
      first | exact log_by (by kernel_rfl) | refine ⟨log_by (by kernel_rfl), ?_⟩
      have hs1 := vlD_set_take (l := s) (k := i + k) (m := i + b.length) (by omega) (by omega) ((c + (s.getD (i + k) 0 + m)) % D16)
      have hs2 := rowD (A := m) (hi := (c + (s.getD (i + k) 0 + m)) / D16) hv hs1 (by simp only [D16]; omega)
      refine ⟨⟨k + 1, (c + (s.getD (i + k) 0 + m)) / D16, st, s.set (i + k) ((c + (s.getD (i + k) 0 + m)) % D16), by omega, by simp only [D16]; omega, hS.set (Nat.mod_lt _ (by decide)), by simp [hSl], ?_, ?_, by omega, rfl, rfl, rfl⟩, by omega⟩
      · rw [← Nat.add_assoc i k 1, Nat.pow_succ, hs2, vl_take_next, Nat.mul_add, hm1, Nat.pow_add]
        congr 2
        ac_rfl
      · intro j hj
        rw [show (s.set (i + k) ((c + (s.getD (i + k) 0 + m)) % D16)).getD j 0 = s.getD j 0 by simp [List.getD, List.getElem?_set_ne (show i + k ≠ j by omega)]]
        exact hz j hj
    · have hkb : k = b.length := by omega
      subst hkb
      have eij : (i : Int) + (b.length : Int) = ((i + b.length : Nat) : Int) := by omega
      rw [List.take_length] at hv
      simp (disch := omega) only [wk, tis, seval, reduceCtorEq, Nat.reduceEqDiff, hF, eij]
      have hs1 := vl_take_set D16 (l := s) (k := i + b.length) (by omega) c
      refine ⟨⟨i + 1, st, s.set (i + b.length) c, by omega, hS.set hc, by simp [hSl], ?_, ?_, by omega, rfl, rfl⟩, by omega⟩
      · rw [show i + 1 + b.length = i + b.length + 1 by omega, hs1, hv, vl_take_next, Nat.add_mul]
      · intro j hj
        rw [show (s.set (i + b.length) c).getD j 0 = s.getD j 0 by simp [List.getD, List.getElem?_set_ne (show i + b.length ≠ j by omega)]]
        exact hz j (by omega)
  · simp (disch := omega) only [wk, tis, seval, reduceCtorEq, Nat.reduceEqDiff, hF]
    have : i = a.length := by omega
    subst this
    rw [List.take_of_length_le (by omega), List.take_length] at hv
    have e : s = dn (a.length + b.length) (vl D16 a * vl D16 b) := by
      refine eq_dn hS hSl ?_
      have h5 := vlD_lt hS
      rw [hSl] at h5
      rw [hv, Nat.mod_eq_of_lt (by rw [← hv]; exact h5)]
    rw [e]
theorem rTimes_ok (a b : List Nat) (ha : Lim a) (hb : Lim b) (hla : a.length ≤ 2 ^ 37) (hlb : b.length ≤ 2 ^ 37) : AC Tryz.prog 49 [cl a, cl b] none [cl (wd (nv a * nv b))] := by
  refine AC.by_walk (rs := [.tmp 4]) ords Tryz.func49 (by rfl) (by rfl) (by rfl) (by rfl) (by rfl) ?_
  obtain ⟨x, y, s, h1, h2⟩ := rones_ok a b 32 ha hb (by omega) (by omega) (by omega)
  have h3 := dgD_len ha
  have h4 := dgD_len hb
  simp (disch := omega) only [wk, tis, seval, reduceCtorEq, Nat.reduceEqDiff]
  refine call_by (h1) (by rfl) (by simp) ?_
  simp (disch := omega) only [wk, tis, seval, reduceCtorEq, Nat.reduceEqDiff]
  cases s with
  | true =>
    obtain ⟨rfl, rfl, b1, b2⟩ := h2 rfl
    have hm : nv a * nv b ≤ (2 ^ 32 - 1) * (2 ^ 32 - 1) := Nat.mul_le_mul (by omega) (by omega)
    have hw : nv a * nv b < W := by simp only [W]; omega
    simp (disch := omega) only [wk, tis, seval, reduceCtorEq, Nat.reduceEqDiff, wrap_mul_nat hw]
    refine call_by ((rof_ok (nv a * nv b) hw)) (by rfl) (by simp) ?_
    simp (disch := omega) only [wk, tis, seval, reduceCtorEq, Nat.reduceEqDiff]
  | false =>
    simp (disch := omega) only [wk, tis, seval, reduceCtorEq, Nat.reduceEqDiff]
    refine call_by ((rdig_ok a ha (by omega))) (by rfl) (by simp) ?_
    simp (disch := omega) only [wk, tis, seval, reduceCtorEq, Nat.reduceEqDiff]
    refine call_by ((rdig_ok b hb (by omega))) (by rfl) (by simp) ?_
    simp (disch := omega) only [wk, tis, seval, reduceCtorEq, Nat.reduceEqDiff]
    have p := rtimes_ok (dgD (nv a)) (dgD (nv b)) (dgD_dig _) (dgD_dig _) (by omega) (by omega)
    rw [vl_dgD, vl_dgD] at p
    refine call_by (p) (by rfl) (by simp) ?_
    simp (disch := omega) only [wk, tis, seval, reduceCtorEq, Nat.reduceEqDiff]
    have hA := vlD_lt (dgD_dig (nv a))
    have hB := vlD_lt (dgD_dig (nv b))
    rw [vl_dgD] at hA hB
    have q := rnumber_ok (dn ((dgD (nv a)).length + (dgD (nv b)).length) (nv a * nv b)) (dn_dig _ _) (by rw [dn_len]; omega)
    have e : vl D16 (dn ((dgD (nv a)).length + (dgD (nv b)).length) (nv a * nv b)) = nv a * nv b := by
      rw [vl_dn, Nat.mod_eq_of_lt]
      rw [Nat.pow_add]
      exact Nat.mul_lt_mul'' hA hB
    rw [e] at q
    refine call_by (q) (by rfl) (by simp) ?_
    simp (disch := omega) only [wk, tis, seval, reduceCtorEq, Nat.reduceEqDiff]
theorem rAdd_ok (a b : RI) (ha : Sz (2 ^ 38) a) (hb : Sz (2 ^ 38) b) : AC Tryz.prog 26 [cr a, cr b] none [cz (iv a + iv b)] := by
  refine AC.by_walk (rs := [.cell 4 43]) ords Tryz.func26 (by rfl) (by rfl) (by rfl) (by rfl) (by rfl) ?_
  have hla := ha.1
  have hlb := hb.1
  simp (disch := omega) only [wk, tis, seval, reduceCtorEq, Nat.reduceEqDiff]
  refine if_bool (fun he => ?_) (fun he => ?_)
  · have he : a.1 = b.1 := by simpa using he
    rw [iv_add_same he]
    simp (disch := omega) only [wk, tis, seval, reduceCtorEq, Nat.reduceEqDiff]
    refine ⟨tmps_by (by kernel_rfl), ?_⟩
    refine call_by ((rPlus_ok a.2 b.2 ha.2 hb.2 hla hlb)) (by rfl) (by simp) ?_
    simp (disch := omega) only [wk, tis, seval, reduceCtorEq, Nat.reduceEqDiff]
    have l1 := wd_add_len (nv a.2) (nv b.2)
    have l2 := nv_len ha.2
    have l3 := nv_len hb.2
    have i1 := rI_ok a.1 (wd (nv a.2 + nv b.2)) (lim_wd _) (by omega)
    rw [nv_wd] at i1
    refine call_by (i1) (by rfl) (by simp) ?_
    simp (disch := omega) only [wk, tis, seval, reduceCtorEq, Nat.reduceEqDiff]
    first | exact log_by (by kernel_rfl) | refine ⟨log_by (by kernel_rfl), ?_⟩
  · have he : a.1 ≠ b.1 := by simpa using he
    simp (disch := omega) only [wk, tis, seval, reduceCtorEq, Nat.reduceEqDiff]
    refine call_by ((rcmp_ok a.2 b.2 ha.2 hb.2 (by omega) (by omega))) (by rfl) (by simp) ?_
    simp (disch := omega) only [wk, tis, seval, reduceCtorEq, Nat.reduceEqDiff]
    refine if_by (fun hc => ?_) (fun hc => ?_)
    · have hle : nv b.2 ≤ nv a.2 := by
        unfold cmpN at hc
        split at hc
        · omega
        · omega
      simp (disch := omega) only [wk, tis, seval, reduceCtorEq, Nat.reduceEqDiff]
      refine ⟨tmps_by (by kernel_rfl), ?_⟩
      refine call_by ((rMinus_ok a.2 b.2 ha.2 hb.2 hla hlb hle)) (by rfl) (by simp) ?_
      simp (disch := omega) only [wk, tis, seval, reduceCtorEq, Nat.reduceEqDiff]
      have l2 := nv_len ha.2
      have l4 := wd_len_mono (Nat.sub_le (nv a.2) (nv b.2))
      have i1 := rI_ok a.1 (wd (nv a.2 - nv b.2)) (lim_wd _) (by omega)
      rw [nv_wd] at i1
      have e : sg a.1 (nv a.2 - nv b.2) = iv a + iv b := by
        rw [iv_eq_sg, iv_eq_sg]
        unfold sg
        cases h1 : a.1 <;> cases h2 : b.1 <;> simp_all <;> omega
      rw [e] at i1
      refine call_by (i1) (by rfl) (by simp) ?_
      simp (disch := omega) only [wk, tis, seval, reduceCtorEq, Nat.reduceEqDiff]
      first | exact log_by (by kernel_rfl) | refine ⟨log_by (by kernel_rfl), ?_⟩
    · have hle : nv a.2 ≤ nv b.2 := by
        unfold cmpN at hc
        split at hc
        · omega
        · split at hc <;> omega
      simp (disch := omega) only [wk, tis, seval, reduceCtorEq, Nat.reduceEqDiff]
      refine ⟨tmps_by (by kernel_rfl), ?_⟩
      refine call_by ((rMinus_ok b.2 a.2 hb.2 ha.2 hlb hla hle)) (by rfl) (by simp) ?_
      simp (disch := omega) only [wk, tis, seval, reduceCtorEq, Nat.reduceEqDiff]
      have l2 := nv_len hb.2
      have l4 := wd_len_mono (Nat.sub_le (nv b.2) (nv a.2))
      have i1 := rI_ok b.1 (wd (nv b.2 - nv a.2)) (lim_wd _) (by omega)
      rw [nv_wd] at i1
      have e : sg b.1 (nv b.2 - nv a.2) = iv a + iv b := by
        rw [iv_eq_sg, iv_eq_sg]
        unfold sg
        cases h1 : a.1 <;> cases h2 : b.1 <;> simp_all <;> omega
      rw [e] at i1
      refine call_by (i1) (by rfl) (by simp) ?_
      simp (disch := omega) only [wk, tis, seval, reduceCtorEq, Nat.reduceEqDiff]
      first | exact log_by (by kernel_rfl) | refine ⟨log_by (by kernel_rfl), ?_⟩
theorem rMul_ok (a b : RI) (ha : Sz (2 ^ 37) a) (hb : Sz (2 ^ 37) b) : AC Tryz.prog 27 [cr a, cr b] none [cz (iv a * iv b)] := by
  refine AC.by_walk (rs := [.cell 4 43]) ords Tryz.func27 (by rfl) (by rfl) (by rfl) (by rfl) (by rfl) ?_
  have hla := ha.1
  have hlb := hb.1
  simp (disch := omega) only [wk, tis, seval, reduceCtorEq, Nat.reduceEqDiff]
  refine ⟨tmps_by (by kernel_rfl), ?_⟩
  refine call_by ((rTimes_ok a.2 b.2 ha.2 hb.2 hla hlb)) (by rfl) (by simp) ?_
  simp (disch := omega) only [wk, tis, seval, reduceCtorEq, Nat.reduceEqDiff]
  have l1 := wd_mul_len (nv a.2) (nv b.2)
  have l2 := nv_len ha.2
  have l3 := nv_len hb.2
  have i1 := rI_ok (a.1 != b.1) (wd (nv a.2 * nv b.2)) (lim_wd _) (by omega)
  rw [nv_wd, ← iv_mul] at i1
  refine call_by (i1) (by rfl) (by simp) ?_
  simp (disch := omega) only [wk, tis, seval, reduceCtorEq, Nat.reduceEqDiff]
  first | exact log_by (by kernel_rfl) | refine ⟨log_by (by kernel_rfl), ?_⟩
end Go.Proofs.YthbobdhkbgggjaaGreat

namespace Go.Proofs.YthbobdhkbgggjaaGreat
open Go Go.Proofs Go.AL
set_option linter.unusedSimpArgs false
set_option linter.unusedVariables false
theorem splain_ok (n : Int) : AC Tryz.prog 25 [ci n] none [ci (if n < 0 then 3 else if 1000 < n then 13 else 0)] := by
  refine AC.by_walk (rs := [.tmp 2]) ords Tryz.func25 (by rfl) (by rfl) (by rfl) (by rfl) (by rfl) ?_
  simp (disch := omega) only [wk, tis, seval, reduceCtorEq, Nat.reduceEqDiff, cpoly_len]
  refine if_by (fun h => ?_) (fun h => ?_)
  · simp (disch := omega) only [wk, tis, seval, reduceCtorEq, Nat.reduceEqDiff, cpoly_len, h]
  simp (disch := omega) only [wk, tis, seval, reduceCtorEq, Nat.reduceEqDiff, cpoly_len, h]
  refine if_by (fun h' => ?_) (fun h' => ?_)
  · simp (disch := omega) only [wk, tis, seval, reduceCtorEq, Nat.reduceEqDiff, cpoly_len, h, h']
  simp (disch := omega) only [wk, tis, seval, reduceCtorEq, Nat.reduceEqDiff, cpoly_len, h, h']
end Go.Proofs.YthbobdhkbgggjaaGreat

namespace Go.Proofs.YthbobdhkbgggjaaGreat
open Go Go.Proofs Go.AL
set_option linter.unusedSimpArgs false
set_option linter.unusedVariables false
theorem pcoef_ok (p : List RI) (i : Int) (h : RP (2 ^ 40) (2 ^ 40) p) : AC Tryz.prog 115 [cw p, ci i] none [cz (if i < 0 then 0 else cf (pv p) i.toNat)] := by
  refine AC.by_walk (rs := [.cell 4 43]) ords Tryz.func115 (by rfl) (by rfl) (by rfl) (by rfl) (by rfl) ?_
  have hl := h.1
  simp (disch := omega) only [wk, tis, seval, reduceCtorEq, Nat.reduceEqDiff, cpoly_len, natsr_len, natsr_at, natsr_snoc, natsr_app, natsr_rows, natsr_nil]
  have key : AC Tryz.prog 126 [cw p, ci i] none [cr (if i < 0 then (false, []) else p.getD i.toNat (false, []))] := by
    refine AC.by_walk (rs := [.cell 4 43]) ords Tryz.func126 (by rfl) (by rfl) (by rfl) (by rfl) (by rfl) ?_
    by_cases h0 : i < 0
    · simp (disch := omega) only [wk, tis, seval, reduceCtorEq, Nat.reduceEqDiff, cpoly_len, natsr_len, natsr_at, natsr_snoc, natsr_app, natsr_rows, natsr_nil, h0]
    by_cases h1 : (p.length : Int) ≤ i
    · simp (disch := omega) only [wk, tis, seval, reduceCtorEq, Nat.reduceEqDiff, cpoly_len, natsr_len, natsr_at, natsr_snoc, natsr_app, natsr_rows, natsr_nil, h0, h1]
      have e : p.getD i.toNat (false, []) = (false, []) := by rw [List.getD_eq_getElem?_getD, List.getElem?_eq_none (by omega)]; rfl
      rw [e]
    · simp (disch := omega) only [wk, tis, seval, reduceCtorEq, Nat.reduceEqDiff, cpoly_len, natsr_len, natsr_at, natsr_snoc, natsr_app, natsr_rows, natsr_nil, h0, h1]
  refine call_by (key) (by rfl) (by simp) ?_
  simp (disch := omega) only [wk, tis, seval, reduceCtorEq, Nat.reduceEqDiff, cpoly_len, natsr_len, natsr_at, natsr_snoc, natsr_app, natsr_rows, natsr_nil]
  have hs : Sz (2 ^ 40) (if i < 0 then (false, []) else p.getD i.toNat (false, [])) := by
    split
    · exact ⟨by simp, Lim.nil⟩
    · exact h.get _
  have e : iv (if i < 0 then (false, []) else p.getD i.toNat (false, [])) = if i < 0 then 0 else cf (pv p) i.toNat := by
    split
    · exact iv_zero
    · rw [← cf_pv]
  refine call_by ((znorm_ok _ hs)) (by rfl) (by simp) ?_
  simp (disch := omega) only [wk, tis, seval, reduceCtorEq, Nat.reduceEqDiff, cpoly_len, natsr_len, natsr_at, natsr_snoc, natsr_app, natsr_rows, natsr_nil]
  rw [e]
theorem plead_ok (p : List RI) (h : RP (2 ^ 40) (2 ^ 40) p) : AC Tryz.prog 93 [cw p] none [cz (cf (pv p) (tz (pv p) - 1))] := by
  refine AC.by_walk (rs := [.cell 2 43]) ords Tryz.func93 (by rfl) (by rfl) (by rfl) (by rfl) (by rfl) ?_
  have hl := h.1
  simp (disch := omega) only [wk, tis, seval, reduceCtorEq, Nat.reduceEqDiff, cpoly_len, natsr_len, natsr_at, natsr_snoc, natsr_app, natsr_rows, natsr_nil]
  refine call_by ((pdeg_ok p h)) (by rfl) (by simp) ?_
  simp (disch := omega) only [wk, tis, seval, reduceCtorEq, Nat.reduceEqDiff, cpoly_len, natsr_len, natsr_at, natsr_snoc, natsr_app, natsr_rows, natsr_nil]
  have := pcoef_ok p ((tz (pv p) : Int) - 1) h
  have e : (if (tz (pv p) : Int) - 1 < 0 then 0 else cf (pv p) ((tz (pv p) : Int) - 1).toNat) = cf (pv p) (tz (pv p) - 1) := by
    by_cases h0 : tz (pv p) = 0
    · rw [if_pos (by omega), cf_ge_tz _ (by omega)]
    · rw [if_neg (by omega)]; congr 1; omega
  rw [e] at this
  refine call_by (this) (by rfl) (by simp) ?_
  simp (disch := omega) only [wk, tis, seval, reduceCtorEq, Nat.reduceEqDiff, cpoly_len, natsr_len, natsr_at, natsr_snoc, natsr_app, natsr_rows, natsr_nil]
end Go.Proofs.YthbobdhkbgggjaaGreat

namespace Go.Proofs.YthbobdhkbgggjaaGreat
open Go Go.Proofs Go.AL
set_option linter.unusedSimpArgs false
set_option linter.unusedVariables false
theorem topW_lt {x y i : Nat} (h : x / W ^ (i + 1) = y / W ^ (i + 1)) (hd : x / W ^ i % W < y / W ^ i % W) : x < y := by
  have e : ∀ z : Nat, z / W ^ i = W * (z / W ^ (i + 1)) + z / W ^ i % W := fun z => by
    rw [Nat.pow_succ, ← Nat.div_div_eq_div_mul]; exact (Nat.div_add_mod _ _).symm
  have h1 := e x
  have h2 := e y
  rw [h] at h1
  rcases Nat.lt_or_ge x y with h3 | h3
  · exact h3
  · have := Nat.div_le_div_right (c := W ^ i) h3
    omega
theorem word_at {l : List Nat} (h : Lim l) (k : Nat) : l.getD k 0 = nv l / W ^ k % W := by
  have h1 := vl_take_next W l k
  have e1 := nv_take h (k + 1)
  have e2 := nv_take h k
  simp only [nv] at *
  rw [e1, e2, Nat.mod_pow_succ] at h1
  exact (Nat.eq_of_mul_eq_mul_left (W_pow_pos k) (Nat.add_left_cancel h1)).symm
theorem lcmp_ok (a b : List Nat) (ha : Lim a) (hb : Lim b) (hla : a.length ≤ 2 ^ 42) (hlb : b.length ≤ 2 ^ 42) : AC Tryz.prog 138 [cl a, cl b] none [ci (cmpN (nv a) (nv b))] := by
  refine AC.by_walk (rs := [.tmp 4]) ords Tryz.func138 (by rfl) (by rfl) (by rfl) (by rfl) (by rfl) ?_
  generalize hn : max a.length b.length = n at *
  have hnI : max (a.length : Int) (b.length : Int) = (n : Int) := by omega
  have h0 : nv a / W ^ n = nv b / W ^ n := by
    have hA := nv_lt ha
    have hB := nv_lt hb
    have hA2 : W ^ a.length ≤ W ^ n := Nat.pow_le_pow_right (by decide) (by omega)
    have hB2 : W ^ b.length ≤ W ^ n := Nat.pow_le_pow_right (by decide) (by omega)
    rw [Nat.div_eq_of_lt (by omega), Nat.div_eq_of_lt (by omega)]
  simp (disch := omega) only [wk, tis, seval, reduceCtorEq, Nat.reduceEqDiff, cpoly_len, natsr_len, natsr_at, natsr_snoc, natsr_app, natsr_rows, natsr_nil, hnI]
  refine aloop_by (fun f H => ∃ (i : Nat), i ≤ n ∧ nv a / W ^ i = nv b / W ^ i ∧ f 6 = .iv (.int .i64 ((i : Int) - 1)) ∧ f 0 = .iv (.sl (lims a)) ∧ f 1 = .iv (.sl (lims b))) (fun f H => (intAt f 6 + 1).toNat) ?_ ?_
  · refine ⟨n, by omega, h0, ?_⟩
    simp (disch := omega) only [wk, tis, seval, reduceCtorEq, Nat.reduceEqDiff, cpoly_len, natsr_len, natsr_at, natsr_snoc, natsr_app, natsr_rows, natsr_nil]
  rintro f H ⟨i, hi, hv, hF⟩
  rw [intAt_of hF.1]
  simp (disch := omega) only [wk, tis, seval, reduceCtorEq, Nat.reduceEqDiff, cpoly_len, natsr_len, natsr_at, natsr_snoc, natsr_app, natsr_rows, natsr_nil, hF]
  refine if_by (fun hlt => ?_) (fun hlt => ?_)
  · obtain ⟨j, rfl⟩ : ∃ j, i = j + 1 := ⟨i - 1, by omega⟩
    have ej : ((j + 1 : Nat) : Int) - 1 = (j : Int) := by omega
    have hx := word_at ha j
    have hy := word_at hb j
    rw [ej] at hF
    simp (disch := omega) only [wk, tis, seval, reduceCtorEq, Nat.reduceEqDiff, cpoly_len, natsr_len, natsr_at, natsr_snoc, natsr_app, natsr_rows, natsr_nil, hF]
    refine call_by ((at_ok a j (by omega))) (by first | rfl | (simp only [tocvs, tocv, hF]; rfl) | (simp only [tocvs, tocv, toboxes, tobox, updH_at, Nat.reduceEqDiff, ↓reduceIte, hF]; rfl)) (by simp) ?_
    simp (disch := omega) only [wk, tis, seval, reduceCtorEq, Nat.reduceEqDiff, cpoly_len, natsr_len, natsr_at, natsr_snoc, natsr_app, natsr_rows, natsr_nil, hF]
    refine call_by ((at_ok b j (by omega))) (by first | rfl | (simp only [tocvs, tocv, hF]; rfl) | (simp only [tocvs, tocv, toboxes, tobox, updH_at, Nat.reduceEqDiff, ↓reduceIte, hF]; rfl)) (by simp) ?_
    simp (disch := omega) only [wk, tis, seval, reduceCtorEq, Nat.reduceEqDiff, cpoly_len, natsr_len, natsr_at, natsr_snoc, natsr_app, natsr_rows, natsr_nil, hF]
    refine if_by (fun h1 => ?_) (fun h1 => ?_)
    · simp (disch := omega) only [wk, tis, seval, reduceCtorEq, Nat.reduceEqDiff, cpoly_len, natsr_len, natsr_at, natsr_snoc, natsr_app, natsr_rows, natsr_nil, hF]
      refine ⟨⟨j, by omega, ?_, rfl⟩, by omega⟩
      have e : ∀ z : Nat, z / W ^ j = W * (z / W ^ (j + 1)) + z / W ^ j % W := fun z => by
        rw [Nat.pow_succ, ← Nat.div_div_eq_div_mul]; exact (Nat.div_add_mod _ _).symm
      rw [e (nv a), e (nv b), hv]
      omega
    simp (disch := omega) only [wk, tis, seval, reduceCtorEq, Nat.reduceEqDiff, cpoly_len, natsr_len, natsr_at, natsr_snoc, natsr_app, natsr_rows, natsr_nil, hF]
    refine if_by (fun h2 => ?_) (fun h2 => ?_)
    · simp (disch := omega) only [wk, tis, seval, reduceCtorEq, Nat.reduceEqDiff, cpoly_len, natsr_len, natsr_at, natsr_snoc, natsr_app, natsr_rows, natsr_nil, hF]
      have : nv a < nv b := topW_lt hv (by omega)
      rw [cmpN, if_pos this]
    simp (disch := omega) only [wk, tis, seval, reduceCtorEq, Nat.reduceEqDiff, cpoly_len, natsr_len, natsr_at, natsr_snoc, natsr_app, natsr_rows, natsr_nil, hF]
    have : nv b < nv a := topW_lt hv.symm (by omega)
    rw [cmpN, if_neg (by omega), if_pos this]
  · simp (disch := omega) only [wk, tis, seval, reduceCtorEq, Nat.reduceEqDiff, cpoly_len, natsr_len, natsr_at, natsr_snoc, natsr_app, natsr_rows, natsr_nil, hF]
    have : i = 0 := by omega
    subst this
    simp at hv
    rw [hv, cmpN]; simp
theorem ncmp_ok (a b : List Nat) (ha : Lim a) (hb : Lim b) (hla : a.length ≤ 2 ^ 42) (hlb : b.length ≤ 2 ^ 42) : AC Tryz.prog 133 [cl a, cl b] none [ci (cmpN (nv a) (nv b))] := by
  refine AC.by_walk (rs := [.tmp 4]) ords Tryz.func133 (by rfl) (by rfl) (by rfl) (by rfl) (by rfl) ?_
  simp (disch := omega) only [wk, tis, seval, reduceCtorEq, Nat.reduceEqDiff, cpoly_len, natsr_len, natsr_at, natsr_snoc, natsr_app, natsr_rows, natsr_nil]
  refine call_by ((lcmp_ok a b ha hb hla hlb)) (by rfl) (by simp) ?_
  simp (disch := omega) only [wk, tis, seval, reduceCtorEq, Nat.reduceEqDiff, cpoly_len, natsr_len, natsr_at, natsr_snoc, natsr_app, natsr_rows, natsr_nil]
end Go.Proofs.YthbobdhkbgggjaaGreat

namespace Go.Proofs.YthbobdhkbgggjaaGreat
open Go Go.Proofs Go.AL
set_option linter.unusedSimpArgs false
set_option linter.unusedVariables false
theorem wd_one {y : Nat} (h : (wd y).length = 1) : (wd y).getD 0 0 = y ∧ y < W := by
  have h1 := vl_take_next W (wd y) 0
  rw [Nat.zero_add, List.take_of_length_le (by omega), List.take_zero, Nat.pow_zero, Nat.one_mul] at h1
  have h2 := nv_wd y
  simp only [nv, vl, Nat.zero_add] at *
  have h3 := (lim_wd y).get 0
  omega
theorem quo_ok (a b : List Nat) (ha : Lim a) (hb : Lim b) (hla : a.length ≤ 2 ^ 38) (hlb : b.length ≤ 2 ^ 38) (h0 : nv b ≠ 0) : AC Tryz.prog 125 [cl a, cl b] none [cl (wd (nv a / nv b)), cl (wd (nv a % nv b)), ci 0] := by
  refine AC.by_walk (rs := [.tmp 4, .tmp 5, .tmp 6]) ords Tryz.func125 (by rfl) (by rfl) (by rfl) (by rfl) (by rfl) ?_
  simp (disch := omega) only [wk, tis, seval, reduceCtorEq, Nat.reduceEqDiff, natsr_len, natsr_at, Option.getD_some]
  refine call_by ((norm_ok a ha (by omega))) (by rfl) (by simp) ?_
  simp (disch := omega) only [wk, tis, seval, reduceCtorEq, Nat.reduceEqDiff, natsr_len, natsr_at, Option.getD_some]
  refine call_by ((norm_ok b hb (by omega))) (by rfl) (by simp) ?_
  simp (disch := omega) only [wk, tis, seval, reduceCtorEq, Nat.reduceEqDiff, natsr_len, natsr_at, Option.getD_some]
  have hxl := nv_len ha
  have hyl := nv_len hb
  generalize nv a = x at *
  generalize nv b = y at *
  refine if_by (fun h => ?_) (fun h => ?_)
  · have := wd_len_zero.mp (Int.ofNat.inj h)
    exact absurd this h0
  simp (disch := omega) only [wk, tis, seval, reduceCtorEq, Nat.reduceEqDiff, natsr_len, natsr_at, Option.getD_some]
  refine call_by ((ncmp_ok (wd x) (wd y) (lim_wd _) (lim_wd _) (by omega) (by omega))) (by rfl) (by simp) ?_
  simp (disch := omega) only [wk, tis, seval, reduceCtorEq, Nat.reduceEqDiff, natsr_len, natsr_at, Option.getD_some]
  rw [nv_wd, nv_wd]
  refine if_by (fun hc => ?_) (fun hc => ?_)
  · have hlt : x < y := by
      unfold cmpN at hc
      split at hc
      · assumption
      · split at hc <;> omega
    rw [Nat.div_eq_of_lt hlt, Nat.mod_eq_of_lt hlt, wd_zero]
    simp (disch := omega) only [wk, tis, seval, reduceCtorEq, Nat.reduceEqDiff, natsr_len, natsr_at, Option.getD_some]
  have hle : y ≤ x := by
    unfold cmpN at hc
    split at hc
    · omega
    · omega
  simp (disch := omega) only [wk, tis, seval, reduceCtorEq, Nat.reduceEqDiff, natsr_len, natsr_at, Option.getD_some]
  refine if_by (fun h1 => ?_) (fun h1 => ?_)
  · obtain ⟨e1, e2⟩ := wd_one (Int.ofNat.inj h1)
    have hp : 0 < (wd y).length := by omega
    simp (disch := omega) only [wk, tis, seval, reduceCtorEq, Nat.reduceEqDiff, natsr_len, natsr_at, Option.getD_some]
    have m := dword_ok (wd x) y (lim_wd _) (by omega) h0 e2
    rw [nv_wd] at m
    have n := nof_ok (x % y) (Nat.lt_trans (Nat.mod_lt _ (by omega)) e2)
    simp (disch := omega) only [wk, tis, seval, reduceCtorEq, Nat.reduceEqDiff, natsr_len, natsr_at, Option.getD_some, e1]
    refine call_by (m) (by first | rfl | (simp only [tocvs, tocv, e1]; rfl) | (simp only [tocvs, tocv, toboxes, tobox, updH_at, Nat.reduceEqDiff, ↓reduceIte, e1]; rfl)) (by simp) ?_
    simp (disch := omega) only [wk, tis, seval, reduceCtorEq, Nat.reduceEqDiff, natsr_len, natsr_at, Option.getD_some, e1]
    refine call_by (n) (by first | rfl | (simp only [tocvs, tocv, e1]; rfl) | (simp only [tocvs, tocv, toboxes, tobox, updH_at, Nat.reduceEqDiff, ↓reduceIte, e1]; rfl)) (by simp) ?_
    simp (disch := omega) only [wk, tis, seval, reduceCtorEq, Nat.reduceEqDiff, natsr_len, natsr_at, Option.getD_some, e1]
  · have hn : 2 ≤ (wd y).length := by omega
    simp (disch := omega) only [wk, tis, seval, reduceCtorEq, Nat.reduceEqDiff, natsr_len, natsr_at, Option.getD_some]
    refine call_by ((knuth_ok x y _ _ rfl rfl hn hle (by omega))) (by rfl) (by simp) ?_
    simp (disch := omega) only [wk, tis, seval, reduceCtorEq, Nat.reduceEqDiff, natsr_len, natsr_at, Option.getD_some]
theorem mod_ok (a b : List Nat) (ha : Lim a) (hb : Lim b) (hla : a.length ≤ 2 ^ 38) (hlb : b.length ≤ 2 ^ 38) (h0 : nv b ≠ 0) : AC Tryz.prog 136 [cl a, cl b] none [cl (wd (nv a % nv b)), ci 0] := by
  refine AC.by_walk (rs := [.tmp 4, .tmp 5]) ords Tryz.func136 (by rfl) (by rfl) (by rfl) (by rfl) (by rfl) ?_
  simp (disch := omega) only [wk, tis, seval, reduceCtorEq, Nat.reduceEqDiff, natsr_len, natsr_at, Option.getD_some]
  refine call_by ((quo_ok a b ha hb hla hlb h0)) (by rfl) (by simp) ?_
  simp (disch := omega) only [wk, tis, seval, reduceCtorEq, Nat.reduceEqDiff, natsr_len, natsr_at, Option.getD_some]
theorem gmod_ok (a b : List Nat) (ha : Lim a) (hb : Lim b) (hla : a.length ≤ 2 ^ 38) (hlb : b.length ≤ 2 ^ 38) (h0 : nv b ≠ 0) : AC Tryz.prog 127 [cl a, cl b] none [cl (wd (nv a % nv b))] := by
  refine AC.by_walk (rs := [.tmp 4]) ords Tryz.func127 (by rfl) (by rfl) (by rfl) (by rfl) (by rfl) ?_
  simp (disch := omega) only [wk, tis, seval, reduceCtorEq, Nat.reduceEqDiff, natsr_len, natsr_at, Option.getD_some]
  refine call_by ((mod_ok a b ha hb hla hlb h0)) (by rfl) (by simp) ?_
  simp (disch := omega) only [wk, tis, seval, reduceCtorEq, Nat.reduceEqDiff, natsr_len, natsr_at, Option.getD_some]
theorem dexact_ok (a b : List Nat) (ha : Lim a) (hb : Lim b) (hla : a.length ≤ 2 ^ 38) (hlb : b.length ≤ 2 ^ 38) (h0 : nv b ≠ 0) : AC Tryz.prog 114 [cl a, cl b] none [cl (if nv a % nv b = 0 then wd (nv a / nv b) else []), ci (if nv a % nv b = 0 then 0 else 4)] := by
  refine AC.by_walk (rs := [.tmp 4, .tmp 5]) ords Tryz.func114 (by rfl) (by rfl) (by rfl) (by rfl) (by rfl) ?_
  simp (disch := omega) only [wk, tis, seval, reduceCtorEq, Nat.reduceEqDiff, natsr_len, natsr_at, Option.getD_some]
  refine call_by ((quo_ok a b ha hb hla hlb h0)) (by rfl) (by simp) ?_
  simp (disch := omega) only [wk, tis, seval, reduceCtorEq, Nat.reduceEqDiff, natsr_len, natsr_at, Option.getD_some]
  refine if_by (fun h => ?_) (fun h => ?_)
  · have h1 : nv a % nv b ≠ 0 := fun h2 => by rw [h2, wd_zero] at h; simp at h
    rw [if_neg h1, if_neg h1]
    simp (disch := omega) only [wk, tis, seval, reduceCtorEq, Nat.reduceEqDiff, natsr_len, natsr_at, Option.getD_some]
  · have h1 : nv a % nv b = 0 := by
      rcases Nat.eq_zero_or_pos (wd (nv a % nv b)).length with h2 | h2
      · exact wd_len_zero.mp h2
      · exact absurd (by omega) h
    rw [if_pos h1, if_pos h1]
    simp (disch := omega) only [wk, tis, seval, reduceCtorEq, Nat.reduceEqDiff, natsr_len, natsr_at, Option.getD_some]
def natAt (f : Fr) (t : Nat) : Nat := match f t with
  | .iv (.sl rows) => nv (rows.map fun r => match r with | [.int _ n] => n.toNat | _ => 0)
  | _ => 0
theorem natAt_of {f : Fr} {t v : Nat} (h : f t = .iv (.sl (lims (wd v)))) : natAt f t = v := by
  unfold natAt
  rw [h]
  have e : (lims (wd v)).map (fun r => match r with | [.int _ n] => n.toNat | _ => 0) = wd v := by
    simp only [lims, List.map_map]
    conv => rhs; rw [← List.map_id (wd v)]
    rfl
  simp only [e, nv_wd]
theorem gcd_ok (a b : List Nat) (ha : Lim a) (hb : Lim b) (hla : a.length ≤ 2 ^ 38) (hlb : b.length ≤ 2 ^ 38) : AC Tryz.prog 116 [cl a, cl b] none [cl (wd (Nat.gcd (nv a) (nv b)))] := by
  refine AC.by_walk (rs := [.tmp 4]) ords Tryz.func116 (by rfl) (by rfl) (by rfl) (by rfl) (by rfl) ?_
  simp (disch := omega) only [wk, tis, seval, reduceCtorEq, Nat.reduceEqDiff, natsr_len, natsr_at, Option.getD_some]
  refine call_by ((norm_ok a ha (by omega))) (by rfl) (by simp) ?_
  simp (disch := omega) only [wk, tis, seval, reduceCtorEq, Nat.reduceEqDiff, natsr_len, natsr_at, Option.getD_some]
  refine call_by ((norm_ok b hb (by omega))) (by rfl) (by simp) ?_
  simp (disch := omega) only [wk, tis, seval, reduceCtorEq, Nat.reduceEqDiff, natsr_len, natsr_at, Option.getD_some]
  have hxl := nv_len ha
  have hyl := nv_len hb
  generalize nv a = x at *
  generalize nv b = y at *
  refine aloop_by (fun f H => ∃ u v : Nat, Nat.gcd u v = Nat.gcd x y ∧ (wd u).length ≤ 2 ^ 38 ∧ (wd v).length ≤ 2 ^ 38 ∧ f 0 = .iv (.sl (lims (wd u))) ∧ f 1 = .iv (.sl (lims (wd v)))) (fun f H => natAt f 1) ?_ ?_
  · exact ⟨x, y, rfl, by omega, by omega, by simp (disch := omega) only [wk, tis, seval, reduceCtorEq, Nat.reduceEqDiff, natsr_len, natsr_at, Option.getD_some]⟩
  rintro f H ⟨u, v, hg, hu, hv, hF⟩
  rw [natAt_of hF.2]
  simp (disch := omega) only [wk, tis, seval, reduceCtorEq, Nat.reduceEqDiff, natsr_len, natsr_at, Option.getD_some, hF]
  refine if_by (fun h => ?_) (fun h => ?_)
  · have h0 : v ≠ 0 := fun h1 => by rw [h1, wd_zero] at h; simp at h
    have hm := gmod_ok (wd u) (wd v) (lim_wd _) (lim_wd _) hu hv (by rw [nv_wd]; exact h0)
    rw [nv_wd, nv_wd] at hm
    simp (disch := omega) only [wk, tis, seval, reduceCtorEq, Nat.reduceEqDiff, natsr_len, natsr_at, Option.getD_some, hF]
    refine call_by (hm) (by first | rfl | (simp only [tocvs, tocv, hF]; rfl) | (simp only [tocvs, tocv, toboxes, tobox, updH_at, Nat.reduceEqDiff, ↓reduceIte, hF]; rfl)) (by simp) ?_
    simp (disch := omega) only [wk, tis, seval, reduceCtorEq, Nat.reduceEqDiff, natsr_len, natsr_at, Option.getD_some, hF]
    have hlt := Nat.mod_lt u (Nat.pos_of_ne_zero h0)
    have := wd_len_mono (Nat.le_of_lt hlt)
    rw [natAt_of rfl]
    exact ⟨⟨v, u % v, by rw [← hg, Nat.gcd_comm u v, Nat.gcd_rec v u, Nat.gcd_comm], hv, by omega, rfl, rfl⟩, hlt⟩
  · have h0 : v = 0 := wd_len_zero.mp (by omega)
    subst h0
    rw [Nat.gcd_zero_right] at hg
    simp (disch := omega) only [wk, tis, seval, reduceCtorEq, Nat.reduceEqDiff, natsr_len, natsr_at, Option.getD_some, hF, hg]
end Go.Proofs.YthbobdhkbgggjaaGreat

namespace Go.Proofs.YthbobdhkbgggjaaGreat
open Go Go.Proofs Go.AL
set_option linter.unusedSimpArgs false
set_option linter.unusedVariables false
theorem iv_sg (c : RI) : iv c = sg c.1 (nv c.2) := rfl
theorem znat_ok (s : Bool) (n : Nat) (h : (wd n).length ≤ 2 ^ 40) : AC Tryz.prog 92 [cb s, cl (wd n)] none [cz (sg s n)] := by
  refine AC.by_walk (rs := [.cell 4 43]) ords Tryz.func92 (by rfl) (by rfl) (by rfl) (by rfl) (by rfl) ?_
  simp (disch := omega) only [wk, tis, seval, reduceCtorEq, Nat.reduceEqDiff, cpoly_len]
  have m := znorm_ok (s, wd n) ⟨h, lim_wd _⟩
  rw [iv_sg, nv_wd] at m
  refine call_by (m) (by rfl) (by simp) ?_
  simp (disch := omega) only [wk, tis, seval, reduceCtorEq, Nat.reduceEqDiff, cpoly_len]
theorem sg_div {s t : Bool} {x y : Nat} (h : x % y = 0) : sg s x / sg t y = sg (s != t) (x / y) ∧ sg t y ∣ sg s x := by
  obtain ⟨k, rfl⟩ := Nat.dvd_of_mod_eq_zero h
  rcases Nat.eq_zero_or_pos y with h0 | h0
  · subst h0; cases s <;> cases t <;> simp [sg]
  · rw [Nat.mul_div_cancel_left _ h0]
    have hy : (y : Int) ≠ 0 := by omega
    cases s <;> cases t <;> simp [sg, Int.mul_ediv_cancel_left _ hy, ← Int.mul_neg]
theorem sg_dvd {s t : Bool} {x y : Nat} : sg t y ∣ sg s x ↔ x % y = 0 := by
  constructor
  · intro h
    have h1 := Int.natAbs_dvd_natAbs.mpr h
    have e : ∀ (b : Bool) (n : Nat), (sg b n).natAbs = n := fun b n => by cases b <;> simp [sg]
    rw [e, e] at h1
    exact Nat.mod_eq_zero_of_dvd h1
  · intro h; exact (sg_div h).2
theorem zexact_ok (a b : RI) (ha : Sz (2 ^ 38) a) (hb : Sz (2 ^ 38) b) (h0 : iv b ≠ 0) (hd : iv b ∣ iv a) : AC Tryz.prog 91 [cr a, cr b] none [cz (iv a / iv b), ci 0] := by
  refine AC.by_walk (rs := [.cell 4 43, .tmp 5]) ords Tryz.func91 (by rfl) (by rfl) (by rfl) (by rfl) (by rfl) ?_
  rw [iv_sg, iv_sg] at hd
  rw [iv_sg] at h0
  have hm := sg_dvd.mp hd
  have hn : nv b.2 ≠ 0 := fun h => h0 (by rw [h]; cases b.1 <;> rfl)
  have m := dexact_ok a.2 b.2 ha.2 hb.2 ha.1 hb.1 hn
  rw [if_pos hm, if_pos hm] at m
  rw [iv_sg, iv_sg, (sg_div hm).1]
  simp (disch := omega) only [wk, tis, seval, reduceCtorEq, Nat.reduceEqDiff, cpoly_len]
  refine call_by (m) (by rfl) (by simp) ?_
  simp (disch := omega) only [wk, tis, seval, reduceCtorEq, Nat.reduceEqDiff, cpoly_len]
  refine call_by ((zof_ok (a.1 != b.1) (nv a.2 / nv b.2))) (by rfl) (by simp) ?_
  simp (disch := omega) only [wk, tis, seval, reduceCtorEq, Nat.reduceEqDiff, cpoly_len]
theorem zexact_bad (a b : RI) (ha : Sz (2 ^ 38) a) (hb : Sz (2 ^ 38) b) (h0 : iv b ≠ 0) (hd : ¬ iv b ∣ iv a) : AC Tryz.prog 91 [cr a, cr b] none [cr (false, []), ci 4] := by
  refine AC.by_walk (rs := [.cell 4 43, .tmp 5]) ords Tryz.func91 (by rfl) (by rfl) (by rfl) (by rfl) (by rfl) ?_
  rw [iv_sg, iv_sg] at hd
  rw [iv_sg] at h0
  have hm : ¬ nv a.2 % nv b.2 = 0 := fun h => hd (sg_dvd.mpr h)
  have hn : nv b.2 ≠ 0 := fun h => h0 (by rw [h]; cases b.1 <;> rfl)
  have m := dexact_ok a.2 b.2 ha.2 hb.2 ha.1 hb.1 hn
  rw [if_neg hm, if_neg hm] at m
  simp (disch := omega) only [wk, tis, seval, reduceCtorEq, Nat.reduceEqDiff, cpoly_len]
  refine call_by (m) (by rfl) (by simp) ?_
  simp (disch := omega) only [wk, tis, seval, reduceCtorEq, Nat.reduceEqDiff, cpoly_len]
def gz (q : List Int) : Nat := q.foldl (fun g c => Nat.gcd g c.natAbs) 0
theorem gz_take {q : List Int} {i : Nat} (h : i < q.length) : gz (q.take (i + 1)) = Nat.gcd (gz (q.take i)) (cf q i).natAbs := by
  have e : q.take (i + 1) = q.take i ++ [cf q i] := by
    rw [List.take_add_one]; congr 1; simp [cf, List.getD, h]
  rw [e, gz, List.foldl_append]; rfl
theorem zgcd_ok (p : List RI) (h : RP (2 ^ 40) (2 ^ 38) p) : AC Tryz.prog 94 [cw p] none [cl (wd (gz (pv p)))] := by
  refine AC.by_walk (rs := [.tmp 2]) ords Tryz.func94 (by rfl) (by rfl) (by rfl) (by rfl) (by rfl) ?_
  have hl := h.1
  simp (disch := omega) only [wk, tis, seval, reduceCtorEq, Nat.reduceEqDiff, cpoly_len]
  refine aloop_w (.iv 3 6 1 false 70 1 [] (by simp (disch := omega) only [wk, tis, seval, reduceCtorEq, Nat.reduceEqDiff, cpoly_len]) (by simp (disch := omega) only [wk, tis, seval, reduceCtorEq, Nat.reduceEqDiff, cpoly_len]) (.refl _ _)) (fun f H => ∃ (i : Nat), i ≤ p.length ∧ (wd (gz ((pv p).take i))).length ≤ 2 ^ 38 ∧ f 9 = .iv (.int .i64 i) ∧ f 7 = .iv (.sl (raws p)) ∧ f 8 = .iv (.int .i64 p.length) ∧ f 3 = .iv (.sl (lims (wd (gz ((pv p).take i)))))) (fun f H => (p.length - intAt f 9).toNat) ?_ ?_
  · refine ⟨0, by omega, by rw [List.take_zero, gz, List.foldl_nil, wd_zero]; exact Nat.zero_le _, ?_⟩
    simp (disch := omega) only [wk, tis, seval, reduceCtorEq, Nat.reduceEqDiff, cpoly_len, List.take_zero, gz, List.foldl_nil, wd_zero, lims_nil]
  rintro f H ⟨i, hi, hs, hF⟩
  rw [intAt_of hF.1]
  simp (disch := omega) only [wk, tis, seval, reduceCtorEq, Nat.reduceEqDiff, cpoly_len, hF]
  refine if_by (fun hlt => ?_) (fun hlt => ?_)
  · have hc := h.get i
    have m := gcd_ok (wd (gz ((pv p).take i))) (p.getD i (false, [])).2 (lim_wd _) hc.2 hs hc.1
    rw [nv_wd, ← iv_abs, ← cf_pv, ← gz_take (by rw [pv_len]; omega)] at m
    simp (disch := omega) only [wk, tis, seval, reduceCtorEq, Nat.reduceEqDiff, cpoly_len, hF]
    refine call_by (m) (by first | rfl | (simp only [tocvs, tocv, hF]; rfl) | (simp only [tocvs, tocv, toboxes, tobox, updH_at, Nat.reduceEqDiff, ↓reduceIte, hF]; rfl)) (by simp) ?_
    simp (disch := omega) only [wk, tis, seval, reduceCtorEq, Nat.reduceEqDiff, cpoly_len, hF]
    refine ⟨⟨i + 1, by omega, ?_, by omega, rfl⟩, by omega⟩
    rw [gz_take (by rw [pv_len]; omega)]
    rcases Nat.eq_zero_or_pos (cf (pv p) i).natAbs with h0 | h0
    · rw [h0, Nat.gcd_zero_right]; exact hs
    · refine Nat.le_trans (wd_len_mono (Nat.gcd_le_right _ h0)) ?_
      rw [cf_pv, iv_abs]
      exact Nat.le_trans (nv_len hc.2) hc.1
  · simp (disch := omega) only [wk, tis, seval, reduceCtorEq, Nat.reduceEqDiff, cpoly_len, hF]
    rw [List.take_of_length_le (by rw [pv_len]; omega)]
theorem gz_len {n k : Nat} {p : List RI} (h : RP n k p) : (wd (gz (pv p))).length ≤ k := by
  have key : ∀ i, i ≤ p.length → (wd (gz ((pv p).take i))).length ≤ k := by
    intro i
    induction i with
    | zero => intro _; rw [List.take_zero, gz, List.foldl_nil, wd_zero]; exact Nat.zero_le _
    | succ i ih =>
      intro hi
      rw [gz_take (by rw [pv_len]; omega)]
      rcases Nat.eq_zero_or_pos (cf (pv p) i).natAbs with h0 | h0
      · rw [h0, Nat.gcd_zero_right]; exact ih (by omega)
      · refine Nat.le_trans (wd_len_mono (Nat.gcd_le_right _ h0)) ?_
        rw [cf_pv, iv_abs]
        exact Nat.le_trans (nv_len (h.get i).2) (h.get i).1
  have := key p.length (Nat.le_refl _)
  rwa [List.take_of_length_le (by rw [pv_len]; exact Nat.le_refl _)] at this
def lc (q : List Int) : Int := cf q (tz q - 1)
def cont (q : List Int) : Int := sg (decide (lc q < 0)) (gz q)
theorem sign_neg (z : Int) : z.sign < 0 ↔ z < 0 := by
  rcases Int.lt_trichotomy z 0 with h | h | h
  · rw [Int.sign_eq_neg_one_of_neg h]; omega
  · subst h; simp
  · rw [Int.sign_eq_one_of_pos h]; omega
theorem pcontent_ok (p : List RI) (h : RP (2 ^ 40) (2 ^ 38) p) : AC Tryz.prog 59 [cw p] none [cz (cont (pv p))] := by
  refine AC.by_walk (rs := [.cell 2 43]) ords Tryz.func59 (by rfl) (by rfl) (by rfl) (by rfl) (by rfl) ?_
  have hl := h.1
  have hg := gz_len h
  have hs := zsign_ok (canon (lc (pv p))) ((sz_canon _).mono (by
    have := (h.pv).cf (tz (pv p) - 1)
    unfold lc
    omega))
  rw [iv_canon] at hs
  simp (disch := omega) only [wk, tis, seval, reduceCtorEq, Nat.reduceEqDiff, cpoly_len]
  refine call_by ((plead_ok p (h.mono (by omega) (by omega)))) (by rfl) (by simp) ?_
  simp (disch := omega) only [wk, tis, seval, reduceCtorEq, Nat.reduceEqDiff, cpoly_len]
  refine call_by (hs) (by rfl) (by simp) ?_
  simp (disch := omega) only [wk, tis, seval, reduceCtorEq, Nat.reduceEqDiff, cpoly_len]
  refine call_by ((zgcd_ok p h)) (by rfl) (by simp) ?_
  simp (disch := omega) only [wk, tis, seval, reduceCtorEq, Nat.reduceEqDiff, cpoly_len]
  have m := znat_ok (decide (lc (pv p) < 0)) (gz (pv p)) (by omega)
  have e : (decide ((lc (pv p)).sign < 0)) = decide (lc (pv p) < 0) := by rw [decide_eq_decide]; exact sign_neg _
  rw [e]
  refine call_by (m) (by rfl) (by simp) ?_
  simp (disch := omega) only [wk, tis, seval, reduceCtorEq, Nat.reduceEqDiff, cpoly_len]
  rfl
def pdivs (c : Int) (q : List Int) : List Int := q.map (· / c)
theorem pover_zero (p : List RI) (c : RI) (hp : RP (2 ^ 40) (2 ^ 38) p) (hc : Sz (2 ^ 38) c) (h0 : iv c = 0) : AC Tryz.prog 58 [cw p, cr c] none [cw [], ci 1] := by
  refine AC.by_walk (rs := [.tmp 4, .tmp 5]) ords Tryz.func58 (by rfl) (by rfl) (by rfl) (by rfl) (by rfl) ?_
  simp (disch := omega) only [wk, tis, seval, reduceCtorEq, Nat.reduceEqDiff, cpoly_len]
  have hs := zsign_ok c (hc.mono (by omega))
  rw [h0] at hs
  rw [Int.sign_zero] at hs
  refine call_by (hs) (by rfl) (by simp) ?_
  simp (disch := omega) only [wk, tis, seval, reduceCtorEq, Nat.reduceEqDiff, cpoly_len]
theorem cf_pdivs (c : Int) (q : List Int) (k : Nat) : cf (pdivs c q) k = cf q k / c := by
  unfold pdivs cf
  rw [List.getD_eq_getElem?_getD, List.getD_eq_getElem?_getD, List.getElem?_map]
  cases q[k]? with
  | none => simp
  | some x => rfl
theorem zl_div {a b : Int} (h : b ∣ a) : zl (a / b) ≤ zl a := by
  obtain ⟨k, rfl⟩ := h
  by_cases h0 : b = 0
  · subst h0; simp
  · rw [Int.mul_ediv_cancel_left _ h0]
    unfold zl
    rw [Int.natAbs_mul]
    exact wd_len_mono (Nat.le_mul_of_pos_left _ (by omega))
theorem pover_ok (p : List RI) (c : RI) (hp : RP (2 ^ 30) (2 ^ 35) p) (hc : Sz (2 ^ 35) c) (h0 : iv c ≠ 0) (hd : ∀ k, iv c ∣ cf (pv p) k) : AC Tryz.prog 58 [cw p, cr c] none [cp (pdivs (iv c) (pv p)), ci 0] := by
  refine AC.by_walk (rs := [.tmp 4, .tmp 5]) ords Tryz.func58 (by rfl) (by rfl) (by rfl) (by rfl) (by rfl) ?_
  have hl := hp.1
  have hs0 : (iv c).sign ≠ 0 := fun h => h0 (Int.sign_eq_zero_iff_zero.mp h)
  simp (disch := omega) only [wk, tis, seval, reduceCtorEq, Nat.reduceEqDiff, cpoly_len]
  refine call_by ((zsign_ok c (hc.mono (by omega)))) (by rfl) (by simp) ?_
  simp (disch := omega) only [wk, tis, seval, reduceCtorEq, Nat.reduceEqDiff, cpoly_len]
  simp (disch := omega) only [wk, tis, seval, reduceCtorEq, Nat.reduceEqDiff, cpoly_len, hs0]
  refine aloop_by (fun f H => ∃ (i st st3 : Nat) (out : List Int), i ≤ p.length ∧ out.length = p.length ∧ (∀ k, zl (cf out k) ≤ 2 ^ 36) ∧ (∀ k, k < i → cf out k = cf (pv p) k / iv c) ∧ f 18 = .iv (.int .i64 i) ∧ f 0 = .iv (.sl (raws p)) ∧ f 3 = .hp 3 st3 0 0 ∧ f 6 = .hs 15 st ∧ f 17 = .iv (.int .i64 p.length) ∧ H 15 = .blk false st 43 2 (raws (out.map canon)) ∧ H 3 = .blk false st3 43 2 [prow c]) (fun f H => (p.length - intAt f 18).toNat) ?_ ?_
  · refine ⟨0, 1, 1, List.replicate p.length 0, by omega, by simp, fun k => by rw [cf_rep, zl_zero]; omega, fun k hk => by omega, ?_⟩
    simp (disch := omega) only [wk, tis, seval, reduceCtorEq, Nat.reduceEqDiff, cpoly_len, Int.toNat_natCast, rep_canon]
  rintro f H ⟨i, st, st3, out, hi, hol, hz, hv, hF⟩
  rw [intAt_of hF.1]
  simp (disch := omega) only [wk, tis, seval, reduceCtorEq, Nat.reduceEqDiff, cpoly_len, hF]
  refine if_by (fun hlt => ?_) (fun hlt => ?_)
  · have hq : (out.map canon).length = p.length := by rw [List.length_map, hol]
    have hdi := hd i
    rw [cf_pv] at hdi
    have m := zexact_ok (p.getD i (false, [])) c ((hp.get i).mono (by omega)) (hc.mono (by omega)) h0 hdi
    rw [← cf_pv] at m
    simp (disch := omega) only [wk, tis, seval, reduceCtorEq, Nat.reduceEqDiff, cpoly_len, hF, hq]
    refine ⟨tmps_by (by kernel_rfl), ?_⟩
    refine call_by (m) (by first | rfl | (simp only [tocvs, tocv, hF, hq]; rfl) | (simp only [tocvs, tocv, toboxes, tobox, updH_at, Nat.reduceEqDiff, ↓reduceIte, hF, hq]; rfl)) (by simp) ?_
    simp (disch := omega) only [wk, tis, seval, reduceCtorEq, Nat.reduceEqDiff, cpoly_len, hF, hq]
    first | exact log_by (by kernel_rfl) | refine ⟨log_by (by kernel_rfl), ?_⟩
    refine ⟨⟨i + 1, st, st3, out.set i (cf (pv p) i / iv c), by omega, by simp [hol], fun k => ?_, fun k hk => ?_, by omega, rfl, rfl, rfl, rfl⟩, by omega⟩
    · rw [cf_set (by omega)]
      split
      · have := zl_div (hd i)
        have := hp.pv.cf i
        omega
      · exact hz k
    · rw [cf_set (by omega)]
      split
      · rename_i e; rw [e]
      · exact hv k (by omega)
  · simp (disch := omega) only [wk, tis, seval, reduceCtorEq, Nat.reduceEqDiff, cpoly_len, hF]
    have e : cp (pdivs (iv c) (pv p)) = cp (pv (out.map canon)) := by
      refine cp_ext fun k => ?_
      rw [pv_canon, cf_pdivs]
      by_cases hk : k < p.length
      · exact (hv k (by omega)).symm
      · rw [cf_ge (q := out) (by omega), cf_ge (by rw [pv_len]; omega)]; simp
    rw [e]
    refine call_by ((pnorm_ok (out.map canon) (RP.canon (.of (by omega) fun k => Nat.le_trans (hz k) (by omega))))) (by first | rfl | (simp only [tocvs, tocv, hF]; rfl) | (simp only [tocvs, tocv, toboxes, tobox, updH_at, Nat.reduceEqDiff, ↓reduceIte, hF]; rfl)) (by simp) ?_
    simp (disch := omega) only [wk, tis, seval, reduceCtorEq, Nat.reduceEqDiff, cpoly_len, hF]
theorem gz_dvd (q : List Int) (k : Nat) : (gz q : Int) ∣ cf q k := by
  have key : ∀ i, i ≤ q.length → ∀ k, k < i → (gz (q.take i) : Int) ∣ cf q k := by
    intro i
    induction i with
    | zero => intro _ k hk; omega
    | succ i ih =>
      intro hi k hk
      rw [gz_take (by omega)]
      rcases Nat.lt_or_ge k i with h | h
      · exact Int.dvd_trans (Int.natCast_dvd_natCast.mpr (Nat.gcd_dvd_left _ _)) (ih (by omega) k h)
      · obtain rfl : k = i := by omega
        exact Int.ofNat_dvd_left.mpr (Nat.gcd_dvd_right _ _)
  rcases Nat.lt_or_ge k q.length with h | h
  · have := key q.length (Nat.le_refl _) k h
    rwa [List.take_of_length_le (Nat.le_refl _)] at this
  · rw [cf_ge h]; exact Int.dvd_zero _
theorem cont_dvd (q : List Int) (k : Nat) : cont q ∣ cf q k := by
  have := gz_dvd q k
  unfold cont sg
  split
  · exact Int.neg_dvd.mpr this
  · exact this
theorem cont_natAbs (q : List Int) : (cont q).natAbs = gz q := by
  unfold cont sg
  split <;> simp
def prim (q : List Int) : List Int := pdivs (cont q) q
theorem pprim_ok (p : List RI) (h : RP (2 ^ 30) (2 ^ 35) p) : AC Tryz.prog 35 [cw p] none [cp (prim (pv p))] := by
  refine AC.by_walk (rs := [.tmp 2]) ords Tryz.func35 (by rfl) (by rfl) (by rfl) (by rfl) (by rfl) ?_
  have hg := gz_len h
  have hsz : Sz (2 ^ 35) (canon (cont (pv p))) := (sz_canon _).mono (by unfold zl; rw [cont_natAbs]; exact hg)
  simp (disch := omega) only [wk, tis, seval, reduceCtorEq, Nat.reduceEqDiff, cpoly_len]
  refine call_by ((pcontent_ok p (h.mono (by omega) (by omega)))) (by rfl) (by simp) ?_
  simp (disch := omega) only [wk, tis, seval, reduceCtorEq, Nat.reduceEqDiff, cpoly_len]
  by_cases h0 : cont (pv p) = 0
  · have m := pover_zero p (canon (cont (pv p))) (h.mono (by omega) (by omega)) (hsz.mono (by omega)) (by rw [iv_canon]; exact h0)
    have e : cp (prim (pv p)) = cw [] := by
      have : cp (prim (pv p)) = cp [] := cp_ext fun k => by
        unfold prim
        rw [cf_pdivs, h0, Int.ediv_zero]; rfl
      rw [this]; rfl
    rw [e]
    refine call_by (m) (by rfl) (by simp) ?_
    simp (disch := omega) only [wk, tis, seval, reduceCtorEq, Nat.reduceEqDiff, cpoly_len]
  · have m := pover_ok p (canon (cont (pv p))) h hsz (by rw [iv_canon]; exact h0) (fun k => by rw [iv_canon]; exact cont_dvd _ k)
    rw [iv_canon] at m
    refine call_by (m) (by rfl) (by simp) ?_
    simp (disch := omega) only [wk, tis, seval, reduceCtorEq, Nat.reduceEqDiff, cpoly_len]
    rfl
end Go.Proofs.YthbobdhkbgggjaaGreat

namespace Go.Proofs.YthbobdhkbgggjaaGreat
open Go Go.Proofs Go.AL
set_option linter.unusedSimpArgs false
set_option linter.unusedVariables false
theorem gz_greatest (q : List Int) (d : Nat) (h : ∀ k, (d : Int) ∣ cf q k) : d ∣ gz q := by
  have key : ∀ i, i ≤ q.length → d ∣ gz (q.take i) := by
    intro i
    induction i with
    | zero => intro _; exact Nat.dvd_zero _
    | succ i ih =>
      intro hi
      rw [gz_take (by omega)]
      exact Nat.dvd_gcd (ih (by omega)) (Int.ofNat_dvd_left.mp (h i))
  have := key q.length (Nat.le_refl _)
  rwa [List.take_of_length_le (Nat.le_refl _)] at this
theorem gz_eq {p q : List Int} (h : ∀ k, cf p k = cf q k) : gz p = gz q :=
  Nat.dvd_antisymm (gz_greatest q _ fun k => by rw [← h]; exact gz_dvd p k) (gz_greatest p _ fun k => by rw [h]; exact gz_dvd q k)
theorem gz_scale (c : Int) (q : List Int) : gz (pscale c q) = c.natAbs * gz q := by
  have key : ∀ (q : List Int) (g : Nat), (pscale c q).foldl (fun g x => Nat.gcd g x.natAbs) (c.natAbs * g) = c.natAbs * q.foldl (fun g x => Nat.gcd g x.natAbs) g := by
    intro q
    induction q with
    | nil => intro g; rfl
    | cons x xs ih =>
      intro g
      have e : pscale c (x :: xs) = (x * c) :: pscale c xs := rfl
      rw [e, List.foldl_cons, List.foldl_cons, Int.natAbs_mul, Nat.mul_comm x.natAbs, Nat.gcd_mul_left, ih]
  exact key q 0
theorem lc_spec {q : List Int} {n : Nat} (h : cf q n ≠ 0) (h0 : ∀ k, n < k → cf q k = 0) : lc q = cf q n := by
  unfold lc
  rw [tz_spec h h0, Nat.add_sub_cancel]
theorem lc_ne {q : List Int} (h : gz q ≠ 0) : tz q ≠ 0 ∧ lc q ≠ 0 := by
  have h1 : tz q ≠ 0 := fun h1 => by
    have h2 : (0 : Nat) ∣ gz q := gz_greatest q 0 fun k => by rw [tz_zero_iff.mp h1 k]; exact Int.dvd_zero _
    exact h (Nat.eq_zero_of_zero_dvd h2)
  exact ⟨h1, cf_tz_pred h1⟩
def Prm (q : List Int) : Prop := gz q = 1 ∧ 0 < lc q
theorem lc_scale {T R : List Int} {c : Int} (h : ∀ k, cf T k = c * cf R k) (hR : lc R ≠ 0) : lc T = c * lc R := by
  have hR' : tz R ≠ 0 := fun h0 => hR (by unfold lc; exact tz_zero_iff.mp h0 _)
  by_cases hc : c = 0
  · unfold lc; rw [h, hc, Int.zero_mul, Int.zero_mul]
  · have e : lc T = cf T (tz R - 1) := lc_spec (by rw [h]; exact Int.mul_ne_zero hc hR) fun k hk => by rw [h, cf_ge_tz R (by omega), Int.mul_zero]
    rw [e, h]; rfl
theorem gz_mul {T R : List Int} {c : Int} (h : ∀ k, cf T k = c * cf R k) : gz T = c.natAbs * gz R := by
  rw [← gz_scale]
  exact gz_eq fun k => by rw [h, cf_pscale, Int.mul_comm]
theorem sg_abs {c l : Int} (hl : 0 < l) : sg (decide (c * l < 0)) c.natAbs = c := by
  unfold sg
  by_cases hc : c < 0
  · rw [decide_eq_true (Int.mul_neg_of_neg_of_pos hc hl)]
    simp only [↓reduceIte]; omega
  · have h1 : ¬ c * l < 0 := by have := Int.mul_nonneg (show 0 ≤ c by omega) (show 0 ≤ l by omega); omega
    rw [decide_eq_false h1]
    simp only [Bool.false_eq_true, ↓reduceIte]; omega
theorem cont_of {T R : List Int} {c : Int} (hR : Prm R) (h : ∀ k, cf T k = c * cf R k) : cont T = c := by
  unfold cont
  rw [gz_mul h, hR.1, Nat.mul_one, lc_scale h (by have := hR.2; omega)]
  exact sg_abs hR.2
theorem cf_prim (q : List Int) (k : Nat) : cf q k = cont q * cf (prim q) k := by
  unfold prim
  rw [cf_pdivs, Int.mul_ediv_cancel' (cont_dvd q k)]
theorem prm_prim {q : List Int} (h : cont q ≠ 0) : Prm (prim q) := by
  have h0 : gz q ≠ 0 := fun h0 => h (Int.natAbs_eq_zero.mp (by rw [cont_natAbs]; exact h0))
  have h1 := gz_mul (cf_prim q)
  rw [cont_natAbs] at h1
  have h2 : gz (prim q) = 1 := by
    have : gz q * gz (prim q) = gz q * 1 := by omega
    exact Nat.eq_of_mul_eq_mul_left (by omega) this
  refine ⟨h2, ?_⟩
  have h3 := (lc_ne (q := prim q) (by omega)).2
  have h4 := lc_scale (cf_prim q) h3
  have h5 := (lc_ne h0).2
  rcases Int.lt_trichotomy (lc (prim q)) 0 with h6 | h6 | h6
  · exfalso
    rcases Int.lt_or_gt_of_ne h5 with h7 | h7
    · have h8 : cont q < 0 := by
        unfold cont sg
        rw [decide_eq_true h7]
        simp only [↓reduceIte]; omega
      have := Int.mul_pos_of_neg_of_neg h8 h6
      omega
    · have h8 : 0 < cont q := by
        unfold cont sg
        rw [decide_eq_false (by omega)]
        simp only [Bool.false_eq_true, ↓reduceIte]; omega
      have := Int.mul_neg_of_pos_of_neg h8 h6
      omega
  · exact absurd h6 h3
  · exact h6
theorem prim_zero {q : List Int} (h : cont q = 0) (k : Nat) : cf (prim q) k = 0 ∧ cf q k = 0 := by
  constructor
  · unfold prim
    rw [cf_pdivs, h, Int.ediv_zero]
  · rw [cf_prim, h, Int.zero_mul]
theorem ps_prim (q : List Int) : ps q = PS.C (cont q) * ps (prim q) := PS.ext fun k => by
  rw [PS.C_mul_c, ps_c, ps_c]; exact cf_prim q k
theorem ps_zero {q : List Int} (h : ∀ k, cf q k = 0) : ps q = 0 := PS.ext h
end Go.Proofs.YthbobdhkbgggjaaGreat

namespace Go.Proofs.YthbobdhkbgggjaaGreat
open Go Go.Proofs Go.AL
set_option linter.unusedSimpArgs false
set_option linter.unusedVariables false
theorem pnone_ok (p : List RI) (h : RP (2 ^ 40) (2 ^ 40) p) : AC Tryz.prog 96 [cw p] none [cb (decide (tz (pv p) = 0))] := by
  refine AC.by_walk (rs := [.tmp 2]) ords Tryz.func96 (by rfl) (by rfl) (by rfl) (by rfl) (by rfl) ?_
  simp (disch := omega) only [wk, tis, seval, reduceCtorEq, Nat.reduceEqDiff, cpoly_len]
  refine call_by ((pdeg_ok p h)) (by rfl) (by simp) ?_
  simp (disch := omega) only [wk, tis, seval, reduceCtorEq, Nat.reduceEqDiff, cpoly_len]
  rw [decide_eq_decide]
  omega
theorem prsmono_ok (c : RI) (n : Nat) (hn : n ≤ 2 ^ 29) (hc : Sz (2 ^ 35) c) : AC Tryz.prog 128 [cr c, ci n] none [cp (List.replicate n 0 ++ [iv c])] := by
  refine AC.by_walk (rs := [.tmp 4]) ords Tryz.func128 (by rfl) (by rfl) (by rfl) (by rfl) (by rfl) ?_
  simp (disch := omega) only [wk, tis, seval, reduceCtorEq, Nat.reduceEqDiff, cpoly_len]
  refine ⟨tmps_by (by kernel_rfl), ?_⟩
  have m := pnorm_ok (List.replicate n (false, []) ++ [c]) ⟨by simp; omega, fun x hx => by
    rcases List.mem_append.mp hx with h | h
    · rw [List.eq_of_mem_replicate h]; exact ⟨by simp, Lim.nil⟩
    · rw [List.mem_singleton.mp h]; exact hc.mono (by omega)⟩
  have e : pv (List.replicate n (false, []) ++ [c]) = List.replicate n 0 ++ [iv c] := by
    simp only [pv, List.map_append, List.map_replicate, List.map_cons, List.map_nil, iv_zero]
  rw [e] at m
  refine call_by (m) (by rfl) (by simp) ?_
  simp (disch := omega) only [wk, tis, seval, reduceCtorEq, Nat.reduceEqDiff, cpoly_len]
  first | exact log_by (by kernel_rfl) | refine ⟨log_by (by kernel_rfl), ?_⟩
def rowsAt (f : Fr) (t : Nat) : Nat := match f t with
  | .iv (.sl rows) => rows.length
  | _ => 0
end Go.Proofs.YthbobdhkbgggjaaGreat

namespace Go.Proofs.YthbobdhkbgggjaaGreat
open Go Go.Proofs Go.AL
set_option linter.unusedSimpArgs false
set_option linter.unusedVariables false
def mono (n : Nat) (c : Int) : List Int := List.replicate n 0 ++ [c]
theorem cf_mono (n : Nat) (c : Int) (k : Nat) : cf (mono n c) k = if k = n then c else 0 := by
  unfold mono cf
  rw [List.getD_eq_getElem?_getD]
  rcases Nat.lt_trichotomy k n with h | h | h
  · rw [List.getElem?_append_left (by simpa using h), List.getElem?_replicate, if_pos h, if_neg (by omega)]; rfl
  · subst h
    rw [List.getElem?_append_right (by simp), if_pos rfl]
    simp
  · rw [List.getElem?_eq_none (by simp; omega), if_neg (by omega)]; rfl
theorem cf_mono_mul (n : Nat) (c : Int) (B : List Int) (k : Nat) : cf (pmul (mono n c) B) k = if n ≤ k then c * cf B (k - n) else 0 := by
  rw [cf_pmul, PS.cv_conv, PS.conv]
  by_cases h : n ≤ k
  · rw [if_pos h, sumN_one (j := n) _ (by omega) fun i hi hne => by rw [cf_mono, if_neg hne, Int.zero_mul], cf_mono, if_pos rfl]
  · rw [if_neg h]
    exact sumN_zero fun i hi => by rw [cf_mono, if_neg (by omega), Int.zero_mul]
def dstep (c L : Int) (B : List Int) (s : List Int × List Int) : List Int × List Int :=
  (padd (pscale c s.1) (mono (tz s.2 - tz B) (c * lc s.2 / L)), padd (pscale c s.2) (pscale (-1) (pmul (mono (tz s.2 - tz B) (c * lc s.2 / L)) B)))
def dres (c L : Int) (B : List Int) : Nat → List Int × List Int → List Int × List Int
  | 0, s => s
  | n + 1, s => if tz B ≤ tz s.2 then dres c L B n (dstep c L B s) else dres c L B n (pscale c s.1, pscale c s.2)
theorem tz_le_of {q : List Int} {n : Nat} (h : ∀ k, n ≤ k → cf q k = 0) : tz q ≤ n := by
  rcases Nat.lt_or_ge n (tz q) with h1 | h1
  · exact absurd (h (tz q - 1) (by omega)) (cf_tz_pred (by omega))
  · exact h1
theorem dstep_tz {c L : Int} {B : List Int} {s : List Int × List Int} (hL : L = lc B) (hB : tz B ≠ 0) (hd : L ∣ c) (h : tz B ≤ tz s.2) : tz (dstep c L B s).2 ≤ tz s.2 - 1 := by
  refine tz_le_of fun k hk => ?_
  show cf (padd (pscale c s.2) (pscale (-1) (pmul (mono (tz s.2 - tz B) (c * lc s.2 / L)) B))) k = 0
  rw [cf_padd, cf_pscale, cf_pscale, cf_mono_mul, if_pos (by omega)]
  have hL0 : L ≠ 0 := by rw [hL]; exact cf_tz_pred hB
  rcases Nat.lt_or_ge k (tz s.2) with h1 | h1
  · have hk1 : k = tz s.2 - 1 := by omega
    have e1 : k - (tz s.2 - tz B) = tz B - 1 := by omega
    rw [e1]
    have e2 : cf B (tz B - 1) = L := hL.symm
    have e3 : cf s.2 k = lc s.2 := by rw [hk1]; rfl
    rw [e2, e3, Int.ediv_mul_cancel (Int.dvd_trans hd (Int.dvd_mul_right _ _)), Int.mul_comm c]
    omega
  · rw [cf_ge_tz s.2 h1, cf_ge_tz B (by omega)]
    simp
theorem dstep_eq {c L : Int} {B : List Int} {s : List Int × List Int} : ps (dstep c L B s).1 * ps B + ps (dstep c L B s).2 = PS.C c * (ps s.1 * ps B + ps s.2) := by
  show ps (padd _ _) * ps B + ps (padd _ _) = _
  rw [ps_padd, ps_padd, ps_pscale, ps_pscale, ps_pscale, ps_pmul, PS.neg_one_C, PS.add_mul, PS.mul_add, PS.mul_assoc, PS.add_assoc, PS.add_comm (PS.C c * ps s.2), ← PS.add_assoc (ps (mono _ _) * ps B), PS.add_neg, PS.zero_add]
theorem dres_eq {c L : Int} {B : List Int} : ∀ (n : Nat) (s : List Int × List Int), ps (dres c L B n s).1 * ps B + ps (dres c L B n s).2 = PS.pw (PS.C c) n * (ps s.1 * ps B + ps s.2)
  | 0, s => by rw [dres, PS.pw, PS.one_mul]
  | n + 1, s => by
    have e : PS.pw (PS.C c) (n + 1) = PS.pw (PS.C c) n * PS.C c := by rw [PS.pw_add, PS.pw_one]
    rw [dres]
    split
    · rw [dres_eq n, dstep_eq, e, PS.mul_assoc]
    · rw [dres_eq n, e, PS.mul_assoc]
      congr 1
      rw [ps_pscale, ps_pscale, PS.mul_assoc, PS.mul_add]
theorem tz_scale_le (c : Int) (q : List Int) : tz (pscale c q) ≤ tz q := tz_le_of fun k hk => by rw [cf_pscale, cf_ge_tz q hk, Int.zero_mul]
theorem dres_tz {c L : Int} {B : List Int} (hL : L = lc B) (hB : tz B ≠ 0) (hd : L ∣ c) : ∀ (n : Nat) (s : List Int × List Int), tz s.2 < tz B + n → tz (dres c L B n s).2 < tz B
  | 0, s, h => by simpa [dres] using h
  | n + 1, s, h => by
    rw [dres]
    split
    · rename_i h1
      refine dres_tz hL hB hd n _ ?_
      have := dstep_tz (c := c) hL hB hd h1
      omega
    · refine dres_tz hL hB hd n _ ?_
      have := tz_scale_le c s.2
      show tz (pscale c s.2) < _
      omega
end Go.Proofs.YthbobdhkbgggjaaGreat

namespace Go.Proofs.YthbobdhkbgggjaaGreat
open Go Go.Proofs Go.AL
set_option linter.unusedSimpArgs false
set_option linter.unusedVariables false
theorem cpoly_nil : cpoly [] = [] := rfl
theorem cpoly_at {q : List Int} {i : Nat} (h : i < tz q) : (cpoly q).getD i [] = prow (canon (cf q i)) := by
  have h1 : i < (trimz q).length := by rw [trimz_len]; exact h
  rw [← cf_trimz]
  simp [cpoly, raws, cf, List.getD, h1]
def Bd (k : Nat) (q : List Int) : Prop := tz q ≤ 40 ∧ ∀ i, zl (cf q i) ≤ k
theorem Bd.rp {k : Nat} {q : List Int} (h : Bd k q) (hk : k ≤ 2 ^ 35) : RP (2 ^ 30) (2 ^ 35) (cn q) := by
  refine (RP.canon (.of (by rw [trimz_len]; exact h.1) fun i => ?_)).mono (by decide : 40 ≤ _) hk
  rw [cf_trimz]; exact h.2 i
def KB (l : Nat) : Nat := (60 - l) * 536870912
theorem KB_step (l : Nat) (h : l + 1 ≤ 41) : KB l = KB (l + 1) + 536870912 := by unfold KB; omega
theorem KB_le (l : Nat) : KB l ≤ 32212254720 := by unfold KB; omega
theorem KB_ge (l : Nat) (h : l ≤ 41) : 536870912 ≤ KB l := by unfold KB; omega
theorem bnd_fin {K k : Nat} (h : K = k + 536870912) : max (k + 2 ^ 27) (k + 2 ^ 27 + 2 ^ 27) + 1 ≤ K := by omega
theorem bnd_fin1 {K k : Nat} (h : K = k + 536870912) : max (k + 2 ^ 27) (k + 2 ^ 27) + 1 ≤ K := by omega
theorem bnd_fin2 {K k : Nat} (h : K = k + 536870912) : k + 2 ^ 27 ≤ K := by omega
theorem bd_scale {K k : Nat} {c : Int} {q : List Int} (h : Bd K q) (hc : zl c ≤ k) : Bd (K + k) (pscale c q) := by
  refine ⟨Nat.le_trans (tz_scale_le c q) h.1, fun i => ?_⟩
  rw [cf_pscale]
  have := zl_mul (cf q i) c
  have := h.2 i
  omega
theorem bd_mono {K n : Nat} {c : Int} (hn : n < 40) (hc : zl c ≤ K) : Bd K (mono n c) := by
  refine ⟨tz_le_of fun k hk => by rw [cf_mono, if_neg (by omega)], fun i => ?_⟩
  rw [cf_mono]
  split
  · exact hc
  · rw [zl_zero]; omega
theorem bd_mmul {K k n m : Nat} {c : Int} {B : List Int} (hB : Bd k B) (hn : n + tz B ≤ 40) (hc : zl c ≤ K) : Bd (K + k) (pmul (mono n c) B) := by
  refine ⟨tz_le_of fun j hj => ?_, fun i => ?_⟩
  · rw [cf_mono_mul]
    split
    · rw [cf_ge_tz B (by omega), Int.mul_zero]
    · rfl
  · rw [cf_mono_mul]
    split
    · have := zl_mul c (cf B (i - n))
      have := hB.2 (i - n)
      omega
    · rw [zl_zero]; omega
theorem bd_add {K k : Nat} {p q : List Int} (hp : Bd K p) (hq : Bd k q) : Bd (max K k + 1) (padd p q) := by
  have h1 := hp.1
  have h2 := hq.1
  refine ⟨tz_le_of fun j hj => by rw [cf_padd, cf_ge_tz p (by omega), cf_ge_tz q (by omega)]; rfl, fun i => ?_⟩
  rw [cf_padd]
  have := zl_add (cf p i) (cf q i)
  have := hp.2 i
  have := hq.2 i
  omega
theorem bd_neg {K : Nat} {q : List Int} (h : Bd K q) : Bd K (pscale (-1) q) := by
  refine ⟨Nat.le_trans (tz_scale_le _ q) h.1, fun i => ?_⟩
  rw [cf_pscale, Int.mul_neg, Int.mul_one, zl_neg]
  exact h.2 i
theorem bd_nil (K : Nat) : Bd K [] := ⟨by simp [tz, topN], fun i => by rw [cf_nil, zl_zero]; exact Nat.zero_le _⟩
theorem Bd.mono {K k : Nat} {q : List Int} (h : Bd K q) (hk : K ≤ k) : Bd k q := ⟨h.1, fun i => Nat.le_trans (h.2 i) hk⟩
set_option maxHeartbeats 1000000 in
theorem divide_ok (p q : List RI) (fa : RI) (hp : RP 40 (2 ^ 27) p) (hq : RP 40 (2 ^ 27) q) (hf : Sz (2 ^ 27) fa) (hB : tz (pv q) ≠ 0) (hd : lc (pv q) ∣ iv fa) :
    AC Tryz.prog 117 [cw p, cw q, cr fa] none [cp (dres (iv fa) (lc (pv q)) (pv q) (tz (pv p) + 1 - tz (pv q)) ([], pv p)).1, cp (dres (iv fa) (lc (pv q)) (pv q) (tz (pv p) + 1 - tz (pv q)) ([], pv p)).2, ci (tz (pv p) + 1 - tz (pv q) : Nat)] := by
  refine AC.by_walk (rs := [.tmp 6, .tmp 7, .tmp 8]) ords Tryz.func117 (by rfl) (by rfl) (by rfl) (by rfl) (by rfl) ?_
  have qp := hp.pv
  have qq := hq.pv
  have tp : tz (pv p) ≤ 40 := Nat.le_trans (tz_le _) qp.1
  have tq : tz (pv q) ≤ 40 := Nat.le_trans (tz_le _) qq.1
  generalize hee : tz (pv p) + 1 - tz (pv q) = e at *
  have he : max ((tz (pv p) : Int) - tz (pv q) + 1) 0 = (e : Int) := by omega
  have ht1 : ((tz (pv q) : Int) - 1).toNat = tz (pv q) - 1 := by omega
  have hat := cpoly_at (q := pv q) (i := tz (pv q) - 1) (by omega)
  have hL : cf (pv q) (tz (pv q) - 1) = lc (pv q) := rfl
  rw [hL] at hat
  simp (disch := omega) only [wk, tis, seval, reduceCtorEq, Nat.reduceEqDiff, cpoly_len, cpoly_nil]
  refine call_by ((pnorm_ok p (hp.mono (by omega) (by omega)))) (by rfl) (by simp) ?_
  simp (disch := omega) only [wk, tis, seval, reduceCtorEq, Nat.reduceEqDiff, cpoly_len, cpoly_nil]
  refine call_by ((pnorm_ok q (hq.mono (by omega) (by omega)))) (by rfl) (by simp) ?_
  simp (disch := omega) only [wk, tis, seval, reduceCtorEq, Nat.reduceEqDiff, cpoly_len, cpoly_nil]
  simp (disch := omega) only [wk, tis, seval, reduceCtorEq, Nat.reduceEqDiff, cpoly_len, cpoly_nil, he, ht1, hat]
  generalize hc : iv fa = c at *
  generalize hPe : pv p = P at *
  generalize hBe : pv q = B at *
  generalize hLe : lc B = L at *
  have bd_P : Bd (KB e) P := ⟨tp, fun i => Nat.le_trans (qp.cf i) (Nat.le_trans (by decide) (KB_ge e (by omega)))⟩
  refine aloop_w (.nilv 13 (by simp (disch := omega) only [wk, tis, seval, reduceCtorEq, Nat.reduceEqDiff, cpoly_len, cpoly_nil]) (.refl _ _)) (fun f H => ∃ (left st5 st12 : Nat) (Q R : List Int), dres c L B left (Q, R) = dres c L B e ([], P) ∧ tz R < tz B + left ∧ left ≤ 41 ∧ Bd (KB left) Q ∧ Bd (KB left) R ∧ f 14 = .iv (.int .i64 left) ∧ f 9 = .iv (.sl (cpoly R)) ∧ f 10 = .iv (.sl (cpoly B)) ∧ f 13 = .iv (.sl (cpoly Q)) ∧ f 11 = .iv (.int .i64 e) ∧ f 5 = .hp 5 st5 0 0 ∧ f 12 = .hp 12 st12 0 0 ∧ H 5 = .blk false st5 43 2 [prow fa] ∧ H 12 = .blk false st12 43 2 [prow (canon L)]) (fun f H => (intAt f 14).toNat) ?_ ?_
  · refine ⟨e, 1, 1, [], P, rfl, by omega, by omega, bd_nil _, bd_P, ?_⟩
    simp (disch := omega) only [wk, tis, seval, reduceCtorEq, Nat.reduceEqDiff, cpoly_len, cpoly_nil]
  rintro f H ⟨left, st5, st12, Q, R, hD, hT, hle, hQ, hR, hF⟩
  rw [intAt_of hF.1]
  simp (disch := omega) only [wk, tis, seval, reduceCtorEq, Nat.reduceEqDiff, cpoly_len, cpoly_nil, hF]
  have hkb := KB_le left
  have hkR := hR.rp (by omega)
  have hkQ := hQ.rp (by omega)
  refine if_by (fun hge => ?_) (fun hge => ?_)
  · obtain ⟨l, rfl⟩ : ∃ l, left = l + 1 := ⟨left - 1, by omega⟩
    have hm : ((tz R : Int) - tz B) = ((tz R - tz B : Nat) : Int) := by omega
    have ht2 : ((tz R : Int) - 1).toNat = tz R - 1 := by omega
    have hat2 := cpoly_at (q := R) (i := tz R - 1) (by omega)
    have hLR : cf R (tz R - 1) = lc R := rfl
    rw [hLR] at hat2
    have hzR := hR.2 (tz R - 1)
    rw [hLR] at hzR
    have hzc : zl c ≤ 2 ^ 27 := by rw [← hc]; exact zl_iv hf
    have hzL : zl L ≤ 2 ^ 27 := by rw [← hLe]; exact qq.cf _
    have hL0 : L ≠ 0 := by rw [← hLe]; exact cf_tz_pred hB
    have hzm := zl_mul c (lc R)
    have hdv : L ∣ c * lc R := Int.dvd_trans hd (Int.dvd_mul_right _ _)
    have hzt := zl_div hdv
    have m1 := zmul_ok fa (canon (lc R)) (hf.mono (by omega)) ((sz_canon _).mono (by omega))
    rw [hc, iv_canon] at m1
    have m2 := zexact_ok (canon (c * lc R)) (canon L) ((sz_canon _).mono (by omega)) ((sz_canon _).mono (by omega)) (by rw [iv_canon]; exact hL0) (by rw [iv_canon, iv_canon]; exact hdv)
    rw [iv_canon, iv_canon] at m2
    have m3 := prsmono_ok (canon (c * lc R / L)) (tz R - tz B) (by omega) ((sz_canon _).mono (by omega))
    rw [iv_canon] at m3
    simp (disch := omega) only [wk, tis, seval, reduceCtorEq, Nat.reduceEqDiff, cpoly_len, cpoly_nil, hF, hm, ht2, hat2]
    refine ⟨tmps_by (by kernel_rfl), ?_⟩
    refine call_by (m1) (by first | rfl | (simp only [tocvs, tocv, hF, hm, ht2, hat2]; rfl) | (simp only [tocvs, tocv, toboxes, tobox, updH_at, Nat.reduceEqDiff, ↓reduceIte, hF, hm, ht2, hat2]; rfl)) (by simp) ?_
    simp (disch := omega) only [wk, tis, seval, reduceCtorEq, Nat.reduceEqDiff, cpoly_len, cpoly_nil, hF, hm, ht2, hat2]
    refine call_by (m2) (by first | rfl | (simp only [tocvs, tocv, hF, hm, ht2, hat2]; rfl) | (simp only [tocvs, tocv, toboxes, tobox, updH_at, Nat.reduceEqDiff, ↓reduceIte, hF, hm, ht2, hat2]; rfl)) (by simp) ?_
    simp (disch := omega) only [wk, tis, seval, reduceCtorEq, Nat.reduceEqDiff, cpoly_len, cpoly_nil, hF, hm, ht2, hat2]
    first | exact log_by (by kernel_rfl) | refine ⟨log_by (by kernel_rfl), ?_⟩
    refine call_by (m3) (by first | rfl | (simp only [tocvs, tocv, hF, hm, ht2, hat2]; rfl) | (simp only [tocvs, tocv, toboxes, tobox, updH_at, Nat.reduceEqDiff, ↓reduceIte, hF, hm, ht2, hat2]; rfl)) (by simp) ?_
    simp (disch := omega) only [wk, tis, seval, reduceCtorEq, Nat.reduceEqDiff, cpoly_len, cpoly_nil, hF, hm, ht2, hat2]
    have hBB : Bd (2 ^ 27) B := ⟨tq, fun i => qq.cf i⟩
    have hlt := hR.1
    have hK2 := KB_step l hle
    have hge' : tz B ≤ tz R := by omega
    generalize KB (l + 1) = K at *
    have b1 := bd_scale hQ hzc
    have b2 := bd_mono (n := tz R - tz B) (c := c * lc R / L) (K := K + 2 ^ 27) (by omega) (by omega)
    have b3 := bd_scale hR hzc
    have b4 := bd_mmul (m := 0) (n := tz R - tz B) (c := c * lc R / L) (K := K + 2 ^ 27) hBB (by omega) (by omega)
    have b5 := bd_add b1 b2
    have b6 := bd_add b3 (bd_neg b4)
    have hBr := hBB.rp (by omega)
    have s1 := pscale_g (q := Q) (c := fa) hkQ (hf.mono (by omega)) (ps_cn _)
    have s2 := pscale_g (q := R) (c := fa) hkR (hf.mono (by omega)) (ps_cn _)
    rw [hc] at s1 s2
    have hstep : dres c L B (l + 1) (Q, R) = dres c L B l (dstep c L B (Q, R)) := by
      rw [dres, if_pos (show tz B ≤ tz (Q, R).2 from hge')]
    have htz := dstep_tz (c := c) (s := (Q, R)) hLe.symm hB hd (show tz B ≤ tz (Q, R).2 from hge')
    refine call_by (s1) (by first | rfl | (simp only [tocvs, tocv, hF, hm, ht2, hat2]; rfl) | (simp only [tocvs, tocv, toboxes, tobox, updH_at, Nat.reduceEqDiff, ↓reduceIte, hF, hm, ht2, hat2]; rfl)) (by simp) ?_
    simp (disch := omega) only [wk, tis, seval, reduceCtorEq, Nat.reduceEqDiff, cpoly_len, cpoly_nil, hF, hm, ht2, hat2]
    refine call_by ((padd_g (b1.rp (by omega)) (b2.rp (by omega)) (ps_cn _) (ps_cn _))) (by first | rfl | (simp only [tocvs, tocv, hF, hm, ht2, hat2]; rfl) | (simp only [tocvs, tocv, toboxes, tobox, updH_at, Nat.reduceEqDiff, ↓reduceIte, hF, hm, ht2, hat2]; rfl)) (by simp) ?_
    simp (disch := omega) only [wk, tis, seval, reduceCtorEq, Nat.reduceEqDiff, cpoly_len, cpoly_nil, hF, hm, ht2, hat2]
    refine call_by (s2) (by first | rfl | (simp only [tocvs, tocv, hF, hm, ht2, hat2]; rfl) | (simp only [tocvs, tocv, toboxes, tobox, updH_at, Nat.reduceEqDiff, ↓reduceIte, hF, hm, ht2, hat2]; rfl)) (by simp) ?_
    simp (disch := omega) only [wk, tis, seval, reduceCtorEq, Nat.reduceEqDiff, cpoly_len, cpoly_nil, hF, hm, ht2, hat2]
    refine call_by ((pmul_g (b2.rp (by omega)) hBr (ps_cn _) (ps_cn _))) (by first | rfl | (simp only [tocvs, tocv, hF, hm, ht2, hat2]; rfl) | (simp only [tocvs, tocv, toboxes, tobox, updH_at, Nat.reduceEqDiff, ↓reduceIte, hF, hm, ht2, hat2]; rfl)) (by simp) ?_
    simp (disch := omega) only [wk, tis, seval, reduceCtorEq, Nat.reduceEqDiff, cpoly_len, cpoly_nil, hF, hm, ht2, hat2]
    refine call_by ((psub_g (b3.rp (by omega)) (b4.rp (by omega)) (ps_cn _) (ps_cn _))) (by first | rfl | (simp only [tocvs, tocv, hF, hm, ht2, hat2]; rfl) | (simp only [tocvs, tocv, toboxes, tobox, updH_at, Nat.reduceEqDiff, ↓reduceIte, hF, hm, ht2, hat2]; rfl)) (by simp) ?_
    simp (disch := omega) only [wk, tis, seval, reduceCtorEq, Nat.reduceEqDiff, cpoly_len, cpoly_nil, hF, hm, ht2, hat2]
    refine ⟨⟨l, st5, st12, _, _, by rw [← hD, hstep]; rfl, ?_, by omega, b5.mono (bnd_fin1 hK2), b6.mono (bnd_fin hK2), by omega, rfl, rfl, rfl, rfl, rfl, rfl⟩, by omega⟩
    have h1 : tz R ≠ 0 := by omega
    have h2 : tz (padd (pscale c R) (pscale (-1) (pmul (mono (tz R - tz B) (c * lc R / L)) B))) ≤ tz R - 1 := htz
    omega
  · have hout : tz R < tz B := by omega
    simp (disch := omega) only [wk, tis, seval, reduceCtorEq, Nat.reduceEqDiff, cpoly_len, cpoly_nil, hF]
    refine aloop_by (fun f H => ∃ (lft sf : Nat) (S T : List Int), dres c L B lft (S, T) = dres c L B e ([], P) ∧ tz T < tz B ∧ lft ≤ 41 ∧ Bd (KB lft) S ∧ Bd (KB lft) T ∧ f 14 = .iv (.int .i64 lft) ∧ f 9 = .iv (.sl (cpoly T)) ∧ f 13 = .iv (.sl (cpoly S)) ∧ f 11 = .iv (.int .i64 e) ∧ f 5 = .hp 5 sf 0 0 ∧ H 5 = .blk false sf 43 2 [prow fa]) (fun f H => (intAt f 14).toNat) ?_ ?_
    · refine ⟨left, st5, Q, R, hD, hout, hle, hQ, hR, ?_⟩
      simp (disch := omega) only [wk, tis, seval, reduceCtorEq, Nat.reduceEqDiff, cpoly_len, cpoly_nil, hF]
    rintro f H ⟨lft, sf, S, T, hD, hT, hle, hQ, hR, hF⟩
    rw [intAt_of hF.1]
    simp (disch := omega) only [wk, tis, seval, reduceCtorEq, Nat.reduceEqDiff, cpoly_len, cpoly_nil, hF]
    refine if_by (fun hgt => ?_) (fun hgt => ?_)
    · obtain ⟨l, rfl⟩ : ∃ l, lft = l + 1 := ⟨lft - 1, by omega⟩
      have hkb := KB_le (l + 1)
      have hzc : zl c ≤ 2 ^ 27 := by rw [← hc]; exact zl_iv hf
      have hK2 := KB_step l hle
      have s1 := pscale_g (q := S) (c := fa) (hQ.rp (by omega)) (hf.mono (by omega)) (ps_cn _)
      have s2 := pscale_g (q := T) (c := fa) (hR.rp (by omega)) (hf.mono (by omega)) (ps_cn _)
      rw [hc] at s1 s2
      have hstep : dres c L B (l + 1) (S, T) = dres c L B l (pscale c S, pscale c T) := by
        rw [dres, if_neg (show ¬ tz B ≤ tz (S, T).2 from Nat.not_le.2 hT)]
      have hts := tz_scale_le c T
      have b1 := (bd_scale hQ hzc).mono (bnd_fin2 hK2)
      have b2 := (bd_scale hR hzc).mono (bnd_fin2 hK2)
      clear hK2
      simp (disch := omega) only [wk, tis, seval, reduceCtorEq, Nat.reduceEqDiff, cpoly_len, cpoly_nil, hF]
      refine ⟨tmps_by (by kernel_rfl), ?_⟩
      refine call_by (s1) (by first | rfl | (simp only [tocvs, tocv, hF]; rfl) | (simp only [tocvs, tocv, toboxes, tobox, updH_at, Nat.reduceEqDiff, ↓reduceIte, hF]; rfl)) (by simp) ?_
      simp (disch := omega) only [wk, tis, seval, reduceCtorEq, Nat.reduceEqDiff, cpoly_len, cpoly_nil, hF]
      refine call_by (s2) (by first | rfl | (simp only [tocvs, tocv, hF]; rfl) | (simp only [tocvs, tocv, toboxes, tobox, updH_at, Nat.reduceEqDiff, ↓reduceIte, hF]; rfl)) (by simp) ?_
      simp (disch := omega) only [wk, tis, seval, reduceCtorEq, Nat.reduceEqDiff, cpoly_len, cpoly_nil, hF]
      first | exact log_by (by kernel_rfl) | refine ⟨log_by (by kernel_rfl), ?_⟩
      refine ⟨⟨l, sf, _, _, by rw [← hD, hstep], by omega, by omega, b1, b2, by omega, rfl, rfl, rfl, rfl⟩, by omega⟩
    · obtain rfl : lft = 0 := by omega
      simp (disch := omega) only [wk, tis, seval, reduceCtorEq, Nat.reduceEqDiff, cpoly_len, cpoly_nil, hF]
      rw [← hD]
      exact ⟨rfl, rfl⟩
end Go.Proofs.YthbobdhkbgggjaaGreat

namespace Go.Proofs.YthbobdhkbgggjaaGreat
open Go Go.Proofs Go.AL
set_option linter.unusedSimpArgs false
set_option linter.unusedVariables false
theorem smul_ok (a b : List RI) (ha : RP (2 ^ 30) (2 ^ 35) a) (hb : RP (2 ^ 30) (2 ^ 35) b) : AC Tryz.prog 14 [cw a, cw b] none [cp (pmul (pv a) (pv b))] := by
  refine AC.by_walk (rs := [.tmp 4]) ords Tryz.func14 (by rfl) (by rfl) (by rfl) (by rfl) (by rfl) ?_
  have pa := ha.pv.trimz
  have pb := hb.pv.trimz
  have e0 : cp (pmul (pv a) (pv b)) = cp (pmul (trimz (pv a)) (trimz (pv b))) := cp_ps (by rw [ps_pmul, ps_pmul, ps_trimz, ps_trimz])
  rw [e0]
  simp (disch := omega) only [wk, tis, seval, reduceCtorEq, Nat.reduceEqDiff]
  refine call_by ((snorm_ok a (ha.mono (by omega) (by omega)))) (by rfl) (by simp) ?_
  simp (disch := omega) only [wk, tis, seval, reduceCtorEq, Nat.reduceEqDiff]
  refine call_by ((snorm_ok b (hb.mono (by omega) (by omega)))) (by rfl) (by simp) ?_
  simp (disch := omega) only [wk, tis, seval, reduceCtorEq, Nat.reduceEqDiff]
  unfold cpoly
  generalize trimz (pv a) = A at *
  generalize trimz (pv b) = B at *
  have hA := pa.1
  have hB := pb.1
  have hAl : (A.map canon).length = A.length := by simp
  have hBl : (B.map canon).length = B.length := by simp
  simp (disch := omega) only [wk, tis, seval, reduceCtorEq, Nat.reduceEqDiff, hAl, hBl]
  by_cases hza : (A.length : Int) = 0
  · have hA0 : A = [] := by rw [← List.length_eq_zero_iff]; omega
    subst hA0
    simp (disch := omega) only [wk, tis, seval, reduceCtorEq, Nat.reduceEqDiff, hza, hBl]
    have : trimz (pmul [] B) = [] := by rw [← List.length_eq_zero_iff, trimz_len, tz_zero_iff]; intro k; rw [cf_pmul]; rfl
    unfold cpoly; rw [this]; rfl
  by_cases hzb : (B.length : Int) = 0
  · have hB0 : B = [] := by rw [← List.length_eq_zero_iff]; omega
    subst hB0
    simp (disch := omega) only [wk, tis, seval, reduceCtorEq, Nat.reduceEqDiff, hza, hzb, hAl]
    have : trimz (pmul A []) = [] := by
      rw [← List.length_eq_zero_iff, trimz_len, tz_zero_iff]; intro k; rw [cf_pmul, cv_none]
    unfold cpoly; rw [this]; rfl
  simp (disch := omega) only [wk, tis, seval, reduceCtorEq, Nat.reduceEqDiff, hza, hzb, hAl, hBl]
  have eN : (A.length : Int) + (B.length : Int) - 1 = ((A.length + B.length - 1 : Nat) : Int) := by omega
  rw [eN]
  simp (disch := omega) only [wk, tis, seval, reduceCtorEq, Nat.reduceEqDiff, hAl, hBl]
  generalize hN : A.length + B.length - 1 = N at *
  refine aloop_by (fun f H => ∃ (i st : Nat) (out : List Int), i ≤ A.length ∧ out.length = N ∧ (∀ k, cf out k = cv (A.take i) (cf B) k) ∧ f 6 = .iv (.int .i64 i) ∧ f 0 = .iv (.sl (raws (A.map canon))) ∧ f 1 = .iv (.sl (raws (B.map canon))) ∧ f 5 = .hs 26 st ∧ H 26 = .blk false st 43 2 (raws (out.map canon))) (fun f H => (A.length - intAt f 6).toNat) ?_ ?_
  · refine ⟨0, 1, List.replicate N 0, by omega, by simp, fun k => by rw [cf_rep]; rfl, ?_⟩
    simp (disch := omega) only [wk, tis, seval, reduceCtorEq, Nat.reduceEqDiff, rep_canon, hAl]
  rintro f H ⟨i, st, out, hi, hol, hv, hF⟩
  rw [intAt_of hF.1]
  simp (disch := omega) only [wk, tis, seval, reduceCtorEq, Nat.reduceEqDiff, hF]
  simp (disch := omega) only [wk, tis, seval, reduceCtorEq, Nat.reduceEqDiff, hAl]
  refine if_by (fun hlt => ?_) (fun hlt => ?_)
  · simp (disch := omega) only [wk, tis, seval, reduceCtorEq, Nat.reduceEqDiff, hF, hAl, hBl]
    refine aloop_by (fun f H => ∃ (j st : Nat) (out : List Int), j ≤ B.length ∧ out.length = N ∧ (∀ k, cf out k = cv (A.take i) (cf B) k + (if i ≤ k ∧ k < i + j then cf A i * cf B (k - i) else 0)) ∧ f 7 = .iv (.int .i64 j) ∧ f 0 = .iv (.sl (raws (A.map canon))) ∧ f 1 = .iv (.sl (raws (B.map canon))) ∧ f 5 = .hs 26 st ∧ f 6 = .iv (.int .i64 i) ∧ H 26 = .blk false st 43 2 (raws (out.map canon))) (fun f H => (B.length - intAt f 7).toNat) ?_ ?_
    · refine ⟨0, st, out, by omega, hol, fun k => by rw [hv k, if_neg (by omega), Int.add_zero], ?_⟩
      simp (disch := omega) only [wk, tis, seval, reduceCtorEq, Nat.reduceEqDiff, hF]
    rintro f H ⟨j, st, out, hj, hol, hv, hF⟩
    rw [intAt_of hF.1]
    simp (disch := omega) only [wk, tis, seval, reduceCtorEq, Nat.reduceEqDiff, hF]
    simp (disch := omega) only [wk, tis, seval, reduceCtorEq, Nat.reduceEqDiff, hBl]
    refine if_by (fun hlj => ?_) (fun hlj => ?_)
    · have hq : (out.map canon).length = N := by rw [List.length_map, hol]
      have eij : (i : Int) + (j : Int) = ((i + j : Nat) : Int) := by omega
      simp (disch := omega) only [wk, tis, seval, reduceCtorEq, Nat.reduceEqDiff, hF, hq, hAl, hBl, eij]
      refine ⟨tmps_by (by kernel_rfl), ?_⟩
      have hAi := pa.cf i
      have hBj := pb.cf j
      have hprod := zl_mul (cf A i) (cf B j)
      have hold : cf out (i + j) = cv (A.take i) (cf B) (i + j) := by rw [hv, if_neg (by omega), Int.add_zero]
      have hzo : zl (cf out (i + j)) ≤ 2 ^ 35 + 2 ^ 35 + 1 := by rw [hold]; exact zl_cv (PB_take pa i) pb (by decide) _
      have m := rMul_ok (canon (cf A i)) (canon (cf B j)) ((sz_canon _).mono (by omega)) ((sz_canon _).mono (by omega))
      rw [iv_canon, iv_canon] at m
      refine call_by (m) (by first | rfl | (simp only [tocvs, tocv, hF, hq, hAl, hBl]; rfl) | (simp only [tocvs, tocv, toboxes, tobox, updH_at, Nat.reduceEqDiff, ↓reduceIte, hF, hq, hAl, hBl]; rfl)) (by simp) ?_
      simp (disch := omega) only [wk, tis, seval, reduceCtorEq, Nat.reduceEqDiff, hF, hq, hAl, hBl]
      have s := rAdd_ok (canon (cf out (i + j))) (canon (cf A i * cf B j)) ((sz_canon _).mono (by omega)) ((sz_canon _).mono (by omega))
      rw [iv_canon, iv_canon] at s
      refine call_by (s) (by first | rfl | (simp only [tocvs, tocv, hF, hq, hAl, hBl]; rfl) | (simp only [tocvs, tocv, toboxes, tobox, updH_at, Nat.reduceEqDiff, ↓reduceIte, hF, hq, hAl, hBl]; rfl)) (by simp) ?_
      simp (disch := omega) only [wk, tis, seval, reduceCtorEq, Nat.reduceEqDiff, hF, hq, hAl, hBl]
      first | exact log_by (by kernel_rfl) | refine ⟨log_by (by kernel_rfl), ?_⟩
      refine ⟨⟨j + 1, st, out.set (i + j) (cf out (i + j) + cf A i * cf B j), by omega, by simp [hol], fun k => ?_, by omega, rfl, rfl⟩, by omega⟩
      rw [cf_set (by omega)]
      by_cases e : k = i + j
      · subst e
        rw [if_pos rfl, if_pos ⟨by omega, by omega⟩, hold, Nat.add_sub_cancel_left]
      · rw [if_neg e, hv k]
        by_cases hk : i ≤ k ∧ k < i + j
        · rw [if_pos hk, if_pos ⟨hk.1, by omega⟩]
        · rw [if_neg hk, if_neg (by omega)]
    · simp (disch := omega) only [wk, tis, seval, reduceCtorEq, Nat.reduceEqDiff, hF, hAl, hBl]
      refine ⟨⟨i + 1, st, out, by omega, hol, fun k => ?_, by omega, rfl, rfl⟩, by omega⟩
      rw [hv k, cv_take_succ]
      congr 1
      by_cases hk : i ≤ k
      · rw [if_pos hk]
        by_cases hk2 : k < i + j
        · rw [if_pos ⟨hk, hk2⟩]
        · rw [if_neg (by omega), cf_ge (q := B) (by omega), Int.mul_zero]
      · rw [if_neg hk, if_neg (by omega)]
  · simp (disch := omega) only [wk, tis, seval, reduceCtorEq, Nat.reduceEqDiff, hF, hAl, hBl]
    have hiA : i = A.length := by omega
    have e : cp (pmul A B) = cp (pv (out.map canon)) := by
      refine cp_ext fun k => ?_
      rw [pv_canon, hv, cf_pmul, hiA, List.take_length]
    unfold cpoly at e
    rw [e]
    refine call_by ((snorm_ok (out.map canon) (RP.canon (.of (by omega) fun k => by rw [hv]; exact Nat.le_trans (zl_cv (PB_take pa i) pb (by decide) k) (by omega))))) (by first | rfl | (simp only [tocvs, tocv, hF, hAl, hBl]; rfl) | (simp only [tocvs, tocv, toboxes, tobox, updH_at, Nat.reduceEqDiff, ↓reduceIte, hF, hAl, hBl]; rfl)) (by simp) ?_
    simp (disch := omega) only [wk, tis, seval, reduceCtorEq, Nat.reduceEqDiff, hF, hAl, hBl]
end Go.Proofs.YthbobdhkbgggjaaGreat

namespace Go.Proofs.YthbobdhkbgggjaaGreat
open Go Go.Proofs Go.AL
set_option linter.unusedSimpArgs false
set_option linter.unusedVariables false
def NP (n k : Nat) (l : List (List Nat)) : Prop := l.length ≤ n ∧ ∀ a ∈ l, Lim a ∧ a.length ≤ k
theorem NP.get {n k : Nat} {l : List (List Nat)} (h : NP n k l) (i : Nat) : Lim (l.getD i []) ∧ (l.getD i []).length ≤ k := by
  by_cases hi : i < l.length
  · have e : l.getD i [] = l[i] := by simp [List.getD, hi]
    rw [e]; exact h.2 _ (List.getElem_mem hi)
  · rw [List.getD_eq_getElem?_getD, List.getElem?_eq_none (by omega)]
    exact ⟨Lim.nil, by simp⟩
end Go.Proofs.YthbobdhkbgggjaaGreat

namespace Go.Proofs.YthbobdhkbgggjaaGreat
open Go Go.Proofs Go.AL
set_option linter.unusedSimpArgs false
set_option linter.unusedVariables false
theorem cont_ps {p q : List Int} (h : ps p = ps q) : cont p = cont q := by
  unfold cont lc
  rw [gz_eq (ps_eq h), tz_eq_of_cf (ps_eq h), ps_eq h]
theorem prim_ps {p q : List Int} (h : ps p = ps q) : ps (prim p) = ps (prim q) := ps_ext fun k => by
  unfold prim
  rw [cf_pdivs, cf_pdivs, cont_ps h, ps_eq h]
theorem pprim_g {a : List RI} {q : List Int} (ha : RP (2 ^ 30) (2 ^ 35) a) (eq : ps (pv a) = ps q) : AC Tryz.prog 35 [cw a] none [cp (prim q)] := by
  have h := pprim_ok a ha
  rwa [cp_ps (prim_ps eq)] at h
theorem plead_g {a : List RI} {q : List Int} (ha : RP (2 ^ 30) (2 ^ 35) a) (eq : ps (pv a) = ps q) : AC Tryz.prog 93 [cw a] none [cz (lc q)] := by
  have h := plead_ok a (ha.mono (by omega) (by omega))
  have e : cf (pv a) (tz (pv a) - 1) = lc q := by unfold lc; rw [tz_eq_of_cf (ps_eq eq), ps_eq eq]
  rwa [e] at h
end Go.Proofs.YthbobdhkbgggjaaGreat

namespace Go.Proofs.YthbobdhkbgggjaaGreat
open Go Go.Proofs Go.AL
set_option linter.unusedSimpArgs false
set_option linter.unusedVariables false
def dxp (P B : List Int) : Nat := tz P + 1 - tz B
def dq (P B : List Int) : List Int := (dres (lc B) (lc B) B (dxp P B) ([], P)).1
def dr (P B : List Int) : List Int := (dres (lc B) (lc B) B (dxp P B) ([], P)).2
theorem pdiv_zero (p q : List RI) (hq : RP 40 (2 ^ 27) q) (h0 : tz (pv q) = 0) : AC Tryz.prog 95 [cw p, cw q] none [cw [], cw [], ci 0, ci 1] := by
  refine AC.by_walk (rs := [.tmp 4, .tmp 5, .tmp 6, .tmp 7]) ords Tryz.func95 (by rfl) (by rfl) (by rfl) (by rfl) (by rfl) ?_
  simp (disch := omega) only [wk, tis, seval, reduceCtorEq, Nat.reduceEqDiff, cpoly_len, cpoly_nil]
  refine call_by ((pnone_ok q (hq.mono (by omega) (by omega)))) (by first | rfl | (simp only [tocvs, tocv, h0]; rfl) | (simp only [tocvs, tocv, toboxes, tobox, updH_at, Nat.reduceEqDiff, ↓reduceIte, h0]; rfl)) (by simp) ?_
  simp (disch := omega) only [wk, tis, seval, reduceCtorEq, Nat.reduceEqDiff, cpoly_len, cpoly_nil, h0]
theorem pdiv_ok (p q : List RI) (hp : RP 40 (2 ^ 27) p) (hq : RP 40 (2 ^ 27) q) (h0 : ¬ tz (pv q) = 0) : AC Tryz.prog 95 [cw p, cw q] none [cp (dq (pv p) (pv q)), cp (dr (pv p) (pv q)), ci (dxp (pv p) (pv q)), ci 0] := by
  refine AC.by_walk (rs := [.tmp 4, .tmp 5, .tmp 6, .tmp 7]) ords Tryz.func95 (by rfl) (by rfl) (by rfl) (by rfl) (by rfl) ?_
  have hl : Sz (2 ^ 27) (canon (lc (pv q))) := (sz_canon _).mono (hq.pv.cf _)
  have m := divide_ok p q (canon (lc (pv q))) hp hq hl h0 (by rw [iv_canon]; exact Int.dvd_refl _)
  rw [iv_canon] at m
  simp (disch := omega) only [wk, tis, seval, reduceCtorEq, Nat.reduceEqDiff, cpoly_len, cpoly_nil]
  refine call_by ((pnone_ok q (hq.mono (by omega) (by omega)))) (by first | rfl | (simp only [tocvs, tocv, h0]; rfl) | (simp only [tocvs, tocv, toboxes, tobox, updH_at, Nat.reduceEqDiff, ↓reduceIte, h0]; rfl)) (by simp) ?_
  simp (disch := omega) only [wk, tis, seval, reduceCtorEq, Nat.reduceEqDiff, cpoly_len, cpoly_nil, h0]
  refine call_by ((plead_g (hq.mono (by omega) (by omega)) rfl)) (by first | rfl | (simp only [tocvs, tocv, h0]; rfl) | (simp only [tocvs, tocv, toboxes, tobox, updH_at, Nat.reduceEqDiff, ↓reduceIte, h0]; rfl)) (by simp) ?_
  simp (disch := omega) only [wk, tis, seval, reduceCtorEq, Nat.reduceEqDiff, cpoly_len, cpoly_nil, h0]
  refine call_by (m) (by first | rfl | (simp only [tocvs, tocv, h0]; rfl) | (simp only [tocvs, tocv, toboxes, tobox, updH_at, Nat.reduceEqDiff, ↓reduceIte, h0]; rfl)) (by simp) ?_
  simp (disch := omega) only [wk, tis, seval, reduceCtorEq, Nat.reduceEqDiff, cpoly_len, cpoly_nil, h0]
  exact ⟨rfl, rfl, rfl⟩
theorem prem_ok (p q : List RI) (hp : RP 40 (2 ^ 27) p) (hq : RP 40 (2 ^ 27) q) (h0 : ¬ tz (pv q) = 0) : AC Tryz.prog 97 [cw p, cw q] none [cp (dr (pv p) (pv q)), ci 0] := by
  refine AC.by_walk (rs := [.tmp 4, .tmp 5]) ords Tryz.func97 (by rfl) (by rfl) (by rfl) (by rfl) (by rfl) ?_
  simp (disch := omega) only [wk, tis, seval, reduceCtorEq, Nat.reduceEqDiff, cpoly_len, cpoly_nil]
  refine call_by ((pdiv_ok p q hp hq h0)) (by rfl) (by simp) ?_
  simp (disch := omega) only [wk, tis, seval, reduceCtorEq, Nat.reduceEqDiff, cpoly_len, cpoly_nil]
end Go.Proofs.YthbobdhkbgggjaaGreat

namespace Go.Proofs.YthbobdhkbgggjaaGreat
open Go Go.Proofs Go.AL
set_option linter.unusedSimpArgs false
set_option linter.unusedVariables false
end Go.Proofs.YthbobdhkbgggjaaGreat

namespace Go.Proofs.YthbobdhkbgggjaaGreat
open Go Go.Proofs Go.AL
set_option linter.unusedSimpArgs false
set_option linter.unusedVariables false
theorem ps_zero_of {q : List Int} (h : tz q = 0) : ps q = 0 := PS.ext fun k => tz_zero_iff.mp h k
theorem tz_of_ps {p q : List Int} (h : ps p = ps q) : tz p = tz q := tz_eq_of_cf (ps_eq h)
theorem tz_pscale {c : Int} (hc : c ≠ 0) (q : List Int) : tz (pscale c q) = tz q := by
  refine Nat.le_antisymm (tz_scale_le c q) (tz_le_of fun k hk => ?_)
  have := cf_ge_tz (pscale c q) hk
  rw [cf_pscale] at this
  exact (Int.mul_eq_zero.mp this).resolve_right hc
theorem C_cancel {a : Int} (ha : a ≠ 0) {f g : PS} (h : PS.C a * f = PS.C a * g) : f = g := PS.ext fun k => by
  have := congrArg (fun f => PS.c f k) h
  simp only [PS.C_mul_c] at this
  exact Int.eq_of_mul_eq_mul_left ha this
def As (A B : List Int) : Prop := ∃ a b : Int, a ≠ 0 ∧ b ≠ 0 ∧ PS.C a * ps A = PS.C b * ps B
theorem As.of_ps {A B : List Int} (h : ps A = ps B) : As A B := ⟨1, 1, by decide, by decide, by rw [h]⟩
theorem As.refl (A : List Int) : As A A := .of_ps rfl
theorem As.symm {A B : List Int} (h : As A B) : As B A := by
  obtain ⟨a, b, ha, hb, e⟩ := h
  exact ⟨b, a, hb, ha, e.symm⟩
theorem As.trans {A B D : List Int} (h : As A B) (h2 : As B D) : As A D := by
  obtain ⟨a, b, ha, hb, e⟩ := h
  obtain ⟨a', b', ha', hb', e'⟩ := h2
  refine ⟨a' * a, b * b', Int.mul_ne_zero ha' ha, Int.mul_ne_zero hb hb', ?_⟩
  rw [PS.C_mul, PS.C_mul, PS.mul_assoc, e, PS.mul_assoc, ← e', ← PS.mul_assoc, ← PS.mul_assoc, PS.mul_comm (PS.C a')]
theorem as_tz {A B : List Int} (h : As A B) : tz A = tz B := by
  obtain ⟨a, b, ha, hb, e⟩ := h
  rw [← tz_pscale ha A, ← tz_pscale hb B]
  exact tz_of_ps (by rw [ps_pscale, ps_pscale, e])
theorem as_prim (A : List Int) : As A (prim A) := by
  by_cases h : cont A = 0
  · refine .of_ps ?_
    rw [ps_prim A, h, PS.C_zero, PS.zero_mul]
    exact (ps_zero fun k => (prim_zero h k).1).symm
  · exact ⟨1, cont A, by decide, h, by rw [PS.C_one, PS.one_mul]; exact ps_prim A⟩
def Nf (A : List Int) : Prop := tz A = 0 ∨ Prm A
theorem nf_prim (A : List Int) : Nf (prim A) := by
  by_cases h : cont A = 0
  · exact .inl (tz_zero_iff.mpr fun k => (prim_zero h k).1)
  · exact .inr (prm_prim h)
theorem prm_tz {A : List Int} (h : Prm A) : tz A ≠ 0 := (lc_ne (q := A) (by rw [h.1]; decide)).1
theorem As.uniq {A B : List Int} (h : As A B) (hA : Nf A) (hB : Nf B) : ps A = ps B := by
  have ht := as_tz h
  rcases hA with hA | hA
  · rw [ps_zero_of hA, ps_zero_of (by omega)]
  rcases hB with hB | hB
  · exact absurd (by omega) (prm_tz hA)
  obtain ⟨a, b, ha, hb, e⟩ := h
  have e1 : ∀ k, cf (pscale b B) k = a * cf A k := fun k => by
    have := congrArg (fun f => PS.c f k) e
    simp only [PS.C_mul_c, ps_c] at this
    rw [cf_pscale, Int.mul_comm, this]
  have e2 : ∀ k, cf (pscale b B) k = b * cf B k := fun k => by rw [cf_pscale, Int.mul_comm]
  have c1 := cont_of hA e1
  have c2 := cont_of hB e2
  have ab : a = b := c1.symm.trans c2
  subst ab
  exact C_cancel ha e
def npr (A : List Int) : List Int := trimz (prim A)
theorem npr_trim (A : List Int) : trimz (npr A) = npr A := trimz_trimz _
theorem as_npr (A : List Int) : As A (npr A) := (as_prim A).trans (.of_ps (ps_trimz _).symm)
theorem tz_npr (A : List Int) : tz (npr A) = tz A := (as_tz (as_npr A)).symm
theorem nf_of_ps {A B : List Int} (e : ps A = ps B) (h : Nf A) : Nf B := by
  have ht := tz_of_ps e
  rcases h with h | h
  · exact .inl (by omega)
  · refine .inr ⟨?_, ?_⟩
    · rw [← gz_eq (ps_eq e)]; exact h.1
    · have := h.2
      unfold lc at this ⊢
      rwa [← ht, ← ps_eq e]
theorem nf_npr (A : List Int) : Nf (npr A) := nf_of_ps (ps_trimz _).symm (nf_prim A)
theorem cp_npr (A : List Int) : cp (prim A) = cp (npr A) := cp_ext fun k => (cf_trimz _ k).symm
def Dv (B A : List Int) : Prop := ∃ (c : Int) (S : List Int), c ≠ 0 ∧ ps S * ps B = PS.C c * ps A
theorem Dv.refl (A : List Int) : Dv A A := ⟨1, [1], by decide, by rw [ps_one, PS.C_one]⟩
theorem Dv.zero {A : List Int} (B : List Int) (h : tz A = 0) : Dv B A := ⟨1, [], by decide, by rw [ps_nil, ps_zero_of h, PS.zero_mul, PS.mul_zero]⟩
theorem Dv.trans {D B A : List Int} (h : Dv D B) (h2 : Dv B A) : Dv D A := by
  obtain ⟨c, S, hc, e⟩ := h
  obtain ⟨d, T, hd, e2⟩ := h2
  refine ⟨c * d, pmul T S, Int.mul_ne_zero hc hd, ?_⟩
  rw [ps_pmul, PS.mul_assoc, e, PS.C_mul, PS.mul_assoc, ← e2]
  ac_rfl
theorem Dv.mul {B A S : List Int} (h : ps A = ps S * ps B) : Dv B A := ⟨1, S, by decide, by rw [PS.C_one, PS.one_mul, h]⟩
theorem Dv.lin {G A B R U V : List Int} {k : Int} (h1 : Dv G A) (h2 : Dv G B) (hk : k ≠ 0) (e : ps U * ps A + ps V * ps B = PS.C k * ps R) : Dv G R := by
  obtain ⟨c, S, hc, e1⟩ := h1
  obtain ⟨d, T, hd, e2⟩ := h2
  refine ⟨c * d * k, padd (pscale d (pmul U S)) (pscale c (pmul V T)), Int.mul_ne_zero (Int.mul_ne_zero hc hd) hk, ?_⟩
  rw [ps_padd, ps_pscale, ps_pscale, ps_pmul, ps_pmul, PS.C_mul, PS.mul_assoc, ← e, PS.C_mul, PS.add_mul, PS.mul_add]
  have x1 : PS.C d * (ps U * ps S) * ps G = PS.C d * (ps U * (ps S * ps G)) := by ac_rfl
  have x2 : PS.C c * (ps V * ps T) * ps G = PS.C c * (ps V * (ps T * ps G)) := by ac_rfl
  rw [x1, x2, e1, e2]
  congr 1 <;> ac_rfl
theorem As.dv {A B : List Int} (h : As A B) : Dv A B := by
  obtain ⟨a, b, ha, hb, e⟩ := h
  exact ⟨b, [a], hb, by rw [ps_const, e]⟩
theorem dv_tz {B A : List Int} (h : Dv B A) (hA : tz A ≠ 0) : tz B ≠ 0 ∧ tz B ≤ tz A := by
  obtain ⟨c, S, hc, e⟩ := h
  have ht : tz (pmul S B) = tz A := by
    rw [← tz_pscale hc A]
    exact tz_of_ps (by rw [ps_pmul, ps_pscale, e])
  have hS : tz S ≠ 0 := fun h0 => hA (by rw [← ht]; exact tz_pmul_zero (.inl h0))
  have hB : tz B ≠ 0 := fun h0 => hA (by rw [← ht]; exact tz_pmul_zero (.inr h0))
  rw [tz_pmul hS hB] at ht
  exact ⟨hB, by omega⟩
theorem Dv.anti {A B : List Int} (h : Dv A B) (h2 : Dv B A) : As A B := by
  by_cases hB : tz B = 0
  · have hA : tz A = 0 := by
      by_cases hA : tz A = 0
      · exact hA
      · exact absurd hB (dv_tz h2 hA).1
    exact .of_ps (by rw [ps_zero_of hA, ps_zero_of hB])
  have hA := (dv_tz h hB).1
  have l1 := (dv_tz h hB).2
  have l2 := (dv_tz h2 hA).2
  obtain ⟨c, S, hc, e⟩ := h
  have ht : tz (pmul S A) = tz B := by
    rw [← tz_pscale hc B]
    exact tz_of_ps (by rw [ps_pmul, ps_pscale, e])
  have hS : tz S ≠ 0 := fun h0 => hB (by rw [← ht]; exact tz_pmul_zero (.inl h0))
  rw [tz_pmul hS hA] at ht
  have hS1 : tz S = 1 := by omega
  have es : ps S = PS.C (cf S 0) := PS.ext fun k => by
    rw [ps_c, PS.c_C]
    split
    · rename_i h; rw [h]
    · exact cf_ge_tz S (by omega)
  have h0 : cf S 0 ≠ 0 := by have := cf_tz_pred (q := S) hS; rwa [hS1] at this
  exact ⟨cf S 0, c, h0, hc, by rw [← es, e]⟩
theorem Dv.as {B B' A A' : List Int} (h : Dv B A) (hB : As B' B) (hA : As A A') : Dv B' A' := (hB.dv.trans h).trans hA.dv
structure GG (G A B : List Int) : Prop where
  a : Dv G A
  b : Dv G B
  z : ∃ (c : Int) (U V : List Int), c ≠ 0 ∧ ps U * ps A + ps V * ps B = PS.C c * ps G
theorem GG.dv {G A B D : List Int} (h : GG G A B) (h1 : Dv D A) (h2 : Dv D B) : Dv D G := by
  obtain ⟨c, U, V, hc, e⟩ := h.z
  exact h1.lin h2 hc e
theorem GG.uniq {G G' A B : List Int} (h : GG G A B) (h' : GG G' A B) (n : Nf G) (n' : Nf G') : ps G = ps G' := ((h'.dv h.a h.b).anti (h.dv h'.a h'.b)).uniq n n'
theorem GG.symm {G A B : List Int} (h : GG G A B) : GG G B A := by
  obtain ⟨c, U, V, hc, e⟩ := h.z
  exact ⟨h.b, h.a, c, V, U, hc, by rw [PS.add_comm, e]⟩
theorem GG.zero {A B : List Int} (h : tz B = 0) : GG A A B := ⟨.refl A, .zero A h, 1, [1], [], by decide, by rw [ps_one, ps_nil, PS.zero_mul, PS.add_zero, PS.C_one]⟩
theorem GG.as {G G' A A' B B' : List Int} (h : GG G A B) (hG : As G G') (hA : As A A') (hB : As B B') : GG G' A' B' := by
  refine ⟨h.a.as hG.symm hA, h.b.as hG.symm hB, ?_⟩
  obtain ⟨c, U, V, hc, e⟩ := h.z
  obtain ⟨g, g', hg, hg', eg⟩ := hG
  obtain ⟨a, a', ha, ha', ea⟩ := hA
  obtain ⟨b, b', hb, hb', eb⟩ := hB
  refine ⟨c * a * b * g', pscale (b * g * a') U, pscale (a * g * b') V, Int.mul_ne_zero (Int.mul_ne_zero (Int.mul_ne_zero hc ha) hb) hg', ?_⟩
  rw [ps_pscale, ps_pscale]
  have x1 : PS.C (b * g * a') * ps U * ps A' = PS.C a * PS.C b * PS.C g * (ps U * ps A) := by
    have : PS.C (b * g * a') * ps U * ps A' = PS.C b * PS.C g * ps U * (PS.C a' * ps A') := by rw [PS.C_mul, PS.C_mul]; ac_rfl
    rw [this, ← ea]; ac_rfl
  have x2 : PS.C (a * g * b') * ps V * ps B' = PS.C a * PS.C b * PS.C g * (ps V * ps B) := by
    have : PS.C (a * g * b') * ps V * ps B' = PS.C a * PS.C g * ps V * (PS.C b' * ps B') := by rw [PS.C_mul, PS.C_mul]; ac_rfl
    rw [this, ← eb]; ac_rfl
  rw [x1, x2, ← PS.mul_add, e]
  have : PS.C (c * a * b * g') * ps G' = PS.C c * PS.C a * PS.C b * (PS.C g' * ps G') := by rw [PS.C_mul, PS.C_mul, PS.C_mul]; ac_rfl
  rw [this, ← eg]
  ac_rfl
theorem GG.step {G A B Q R : List Int} {c : Int} (h : GG G B R) (hc : c ≠ 0) (e : ps Q * ps B + ps R = PS.C c * ps A) : GG G A B := by
  refine ⟨h.a.lin (U := Q) (V := [1]) h.b hc (by rw [ps_one, PS.one_mul, e]), h.a, ?_⟩
  obtain ⟨k, U, V, hk, ek⟩ := h.z
  refine ⟨k, pscale c V, padd U (pscale (-1) (pmul V Q)), hk, ?_⟩
  rw [ps_pscale, ps_padd, ps_pscale, ps_pmul, PS.neg_one_C, PS.add_mul, PS.neg_mul, ← ek]
  have : PS.C c * ps V * ps A = ps V * ps Q * ps B + ps V * ps R := by
    rw [show PS.C c * ps V * ps A = ps V * (PS.C c * ps A) by ac_rfl, ← e, PS.mul_add]
    congr 1
    ac_rfl
  rw [this]
  generalize ps V * ps Q * ps B = x
  generalize ps V * ps R = y
  generalize ps U * ps B = w
  refine PS.ext fun k => ?_
  simp only [PS.c_add, PS.c_neg]
  omega
theorem dres_div (A B : List Int) : ps (dq A B) * ps B + ps (dr A B) = PS.C (lc B ^ dxp A B) * ps A := by
  have h := dres_eq (c := lc B) (L := lc B) (B := B) (dxp A B) ([], A)
  have e : ∀ n, PS.pw (PS.C (lc B)) n = PS.C (lc B ^ n) := fun n => by
    induction n with
    | zero => rw [PS.pw, Int.pow_zero, PS.C_one]
    | succ n ih => rw [PS.pw_add, PS.pw_one, ih, Int.pow_succ, PS.C_mul]
  rw [e] at h
  rw [dq, dr, h]
  show _ * (ps [] * ps B + ps A) = _
  rw [ps_nil, PS.zero_mul, PS.zero_add]
theorem lc_ne0 {B : List Int} (h : tz B ≠ 0) : lc B ≠ 0 := cf_tz_pred h
theorem lcp_ne {B : List Int} (h : tz B ≠ 0) (n : Nat) : lc B ^ n ≠ 0 := Int.pow_ne_zero (lc_ne0 h)
theorem drem_tz {A B : List Int} (h : tz B ≠ 0) : tz (dr A B) < tz B := dres_tz rfl h (Int.dvd_refl _) _ _ (by show tz A < tz B + dxp A B; unfold dxp; omega)
def eu : Nat → List Int → List Int → List Int
  | 0, A, _ => A
  | n + 1, A, B => if tz B = 0 then A else eu n B (npr (dr A B))
theorem eu_gg : ∀ (n : Nat) (A B : List Int), tz B ≤ n → GG (eu n A B) A B
  | 0, A, B, h => .zero (by omega)
  | n + 1, A, B, h => by
    rw [eu]
    split
    · rename_i h0; exact .zero h0
    · rename_i h0
      have ht := drem_tz (A := A) h0
      have ih := eu_gg n B (npr (dr A B)) (by rw [tz_npr]; omega)
      exact (ih.as (.refl _) (.refl _) (as_npr _).symm).step (lcp_ne h0 _) (dres_div A B)
theorem eu_nf : ∀ (n : Nat) (A B : List Int), Nf A → Nf B → Nf (eu n A B)
  | 0, A, B, h, _ => h
  | n + 1, A, B, h, h2 => by
    rw [eu]
    split
    · exact h
    · exact eu_nf n B _ h2 (nf_npr _)
def gcdp (A B : List Int) : List Int := eu (tz B) (npr A) (npr B)
theorem gcdp_gg (A B : List Int) : GG (gcdp A B) A B := (eu_gg (tz B) (npr A) (npr B) (by rw [tz_npr]; omega)).as (.refl _) (as_npr A).symm (as_npr B).symm
theorem gcdp_nf (A B : List Int) : Nf (gcdp A B) := eu_nf _ _ _ (nf_npr A) (nf_npr B)
theorem gcdp_eq {A B G : List Int} (h : GG G A B) (n : Nf G) : ps G = ps (gcdp A B) := h.uniq (gcdp_gg A B) n (gcdp_nf A B)
theorem dv_dr {A B : List Int} (h : tz B ≠ 0) : Dv B A ↔ tz (dr A B) = 0 := by
  have e := dres_div A B
  constructor
  · intro hd
    have h1 : Dv B (dr A B) := hd.lin (U := [lc B ^ dxp A B]) (V := pscale (-1) (dq A B)) (.refl B) (k := 1) (by decide) (by
      rw [ps_const, ← e, ps_pscale, PS.neg_one_C, PS.neg_mul, PS.C_one, PS.one_mul]
      generalize ps (dq A B) * ps B = x
      generalize ps (dr A B) = y
      refine PS.ext fun k => ?_
      simp only [PS.c_add, PS.c_neg]
      omega)
    by_cases h0 : tz (dr A B) = 0
    · exact h0
    · have := (dv_tz h1 h0).2
      have := drem_tz (A := A) h
      omega
  · intro h0
    exact ⟨_, dq A B, lcp_ne h _, by rw [← e, ps_zero_of h0, PS.add_zero]⟩
def quo (A B : List Int) : List Int := npr (dq A B)
def SBd (k : Nat) (q : List Int) : Prop := ∀ i, zl (cf q i) ≤ k
theorem SBd.mono {k m : Nat} {q : List Int} (h : SBd k q) (hk : k ≤ m) : SBd m q := fun i => Nat.le_trans (h i) hk
theorem sb_prim {k : Nat} {q : List Int} (h : SBd k q) : SBd k (prim q) := fun i => by
  by_cases hc : cont q = 0
  · rw [(prim_zero hc i).1, zl_zero]; omega
  · have := zl_div (cont_dvd q i)
    have e : cf (prim q) i = cf q i / cont q := cf_pdivs _ _ _
    rw [e]
    exact Nat.le_trans this (h i)
theorem sb_npr {k : Nat} {q : List Int} (h : SBd k q) : SBd k (npr q) := fun i => by
  rw [npr, cf_trimz]; exact sb_prim h i
theorem dres_sz {L : Int} {B : List Int} {b : Nat} (hL : L ≠ 0) (hB : SBd b B) (hl : zl L ≤ b) : ∀ (n r : Nat) (s : List Int × List Int), SBd r s.1 → SBd r s.2 → SBd (r + n * (b + 1)) (dres L L B n s).1 ∧ SBd (r + n * (b + 1)) (dres L L B n s).2
  | 0, r, s, h1, h2 => by rw [Nat.zero_mul, Nat.add_zero]; exact ⟨h1, h2⟩
  | n + 1, r, s, h1, h2 => by
    rw [dres]
    have hr : r + (n + 1) * (b + 1) = r + (b + 1) + n * (b + 1) := by rw [Nat.succ_mul]; omega
    rw [hr]
    have sc : ∀ q, SBd r q → SBd (r + b) (pscale L q) := fun q h i => by
      rw [cf_pscale]
      have := zl_mul (cf q i) L
      have := h i
      omega
    split
    · refine dres_sz hL hB hl n _ _ (fun i => ?_) (fun i => ?_)
      · show zl (cf (padd (pscale L s.1) (mono _ _)) i) ≤ _
        rw [cf_padd, cf_mono, Int.mul_ediv_cancel_left _ hL]
        have a1 := sc _ h1 i
        have a2 : zl (if i = tz s.2 - tz B then lc s.2 else 0) ≤ r := by
          split
          · exact h2 _
          · rw [zl_zero]; omega
        have := zl_add (cf (pscale L s.1) i) (if i = tz s.2 - tz B then lc s.2 else 0)
        omega
      · show zl (cf (padd (pscale L s.2) (pscale (-1) (pmul (mono _ _) B))) i) ≤ _
        rw [cf_padd, cf_pscale (-1), cf_mono_mul, Int.mul_ediv_cancel_left _ hL]
        have a1 := sc _ h2 i
        have a2 : zl ((if tz s.2 - tz B ≤ i then lc s.2 * cf B (i - (tz s.2 - tz B)) else 0) * -1) ≤ r + b := by
          rw [Int.mul_neg, Int.mul_one, zl_neg]
          split
          · have := zl_mul (lc s.2) (cf B (i - (tz s.2 - tz B)))
            have h3 : zl (lc s.2) ≤ r := h2 _
            have := hB (i - (tz s.2 - tz B))
            omega
          · rw [zl_zero]; omega
        have := zl_add (cf (pscale L s.2) i) ((if tz s.2 - tz B ≤ i then lc s.2 * cf B (i - (tz s.2 - tz B)) else 0) * -1)
        omega
    · exact dres_sz hL hB hl n _ _ ((sc _ h1).mono (by omega)) ((sc _ h2).mono (by omega))
theorem div_sz {A B : List Int} {a b : Nat} (hB0 : tz B ≠ 0) (hA : SBd a A) (hB : SBd b B) : SBd (a + dxp A B * (b + 1)) (dq A B) ∧ SBd (a + dxp A B * (b + 1)) (dr A B) :=
  dres_sz (lc_ne0 hB0) hB (hB _) _ _ _ (fun i => by rw [cf_nil, zl_zero]; omega) hA
def EZ (S : Nat) : Nat → Nat
  | 0 => S
  | 1 => 2 * S + 1
  | i + 2 => 2 * EZ S (i + 1) + EZ S i + 2
theorem EZ.succ (S : Nat) : ∀ i, EZ S i ≤ EZ S (i + 1)
  | 0 => by show S ≤ 2 * S + 1; omega
  | i + 1 => by show EZ S (i + 1) ≤ 2 * EZ S (i + 1) + EZ S i + 2; omega
theorem EZ.mono (S : Nat) {i j : Nat} (h : i ≤ j) : EZ S i ≤ EZ S j := by
  induction h with
  | refl => exact Nat.le_refl _
  | step _ ih => exact Nat.le_trans ih (EZ.succ S _)
theorem EZ.grow (S u : Nat) : ∀ d, EZ S u + (d + 2) * (EZ S (u + 1) + 1) ≤ EZ S (u + 2 + d)
  | 0 => by show _ ≤ 2 * EZ S (u + 1) + EZ S u + 2; omega
  | d + 1 => by
    have ih := EZ.grow S u d
    have h1 : EZ S (u + 1) ≤ EZ S (u + 1 + d) := EZ.mono S (by omega)
    have e : EZ S (u + 2 + (d + 1)) = 2 * EZ S (u + 1 + d + 1) + EZ S (u + 1 + d) + 2 := by
      rw [show u + 2 + (d + 1) = (u + 1 + d) + 2 by omega, EZ]
    rw [show u + 2 + d = u + 1 + d + 1 by omega] at ih
    rw [e, show d + 1 + 2 = (d + 2) + 1 by omega, Nat.succ_mul]
    omega
structure EI (D S : Nat) (X Y : List Int) : Prop where
  x : tz X ≤ D
  y : tz Y ≤ D
  s : (SBd S X ∧ SBd S Y) ∨ (tz Y < tz X ∧ SBd (EZ S (D - tz X)) X ∧ SBd (EZ S (D - tz X + 1)) Y)
theorem EI.bd {D S : Nat} {X Y : List Int} (h : EI D S X Y) : SBd (EZ S D) X ∧ SBd (EZ S D) Y := by
  rcases h.s with ⟨a, b⟩ | ⟨l, a, b⟩
  · have : S ≤ EZ S D := EZ.mono S (i := 0) (by omega)
    exact ⟨a.mono this, b.mono this⟩
  · have := h.x
    exact ⟨a.mono (EZ.mono S (by omega)), b.mono (EZ.mono S (by omega))⟩
theorem EI.step {D S : Nat} {X Y : List Int} (h : EI D S X Y) (h0 : tz Y ≠ 0) : EI D S Y (npr (dr X Y)) := by
  have ht := drem_tz (A := X) h0
  have hx := h.x
  have hy := h.y
  refine ⟨h.y, by rw [tz_npr]; omega, .inr ⟨by rw [tz_npr]; omega, ?_⟩⟩
  have norm : tz Y < tz X → SBd (EZ S (D - tz X)) X → SBd (EZ S (D - tz X + 1)) Y → SBd (EZ S (D - tz Y)) Y ∧ SBd (EZ S (D - tz Y + 1)) (npr (dr X Y)) := fun l a b => by
    refine ⟨b.mono (EZ.mono S (by omega)), sb_npr ((div_sz h0 a b).2.mono ?_)⟩
    have g := EZ.grow S (D - tz X) (tz X - tz Y - 1)
    rw [show tz X - tz Y - 1 + 2 = dxp X Y by unfold dxp; omega, show D - tz X + 2 + (tz X - tz Y - 1) = D - tz Y + 1 by omega] at g
    exact g
  rcases h.s with ⟨a, b⟩ | ⟨l, a, b⟩
  · by_cases l : tz Y < tz X
    · exact norm l (a.mono (EZ.mono S (i := 0) (by omega))) (b.mono (EZ.mono S (i := 0) (by omega)))
    · refine ⟨b.mono (EZ.mono S (i := 0) (by omega)), sb_npr ((div_sz h0 a b).2.mono ?_)⟩
      have g : EZ S 1 ≤ EZ S (D - tz Y + 1) := EZ.mono S (by omega)
      have e1 : EZ S 1 = 2 * S + 1 := rfl
      have hd : dxp X Y ≤ 1 := by unfold dxp; omega
      have := Nat.mul_le_mul_right (S + 1) hd
      omega
  · exact norm l a b
theorem EI.start {D S : Nat} {A B : List Int} (ha : tz A ≤ D) (hb : tz B ≤ D) (sa : SBd S A) (sb : SBd S B) : EI D S (npr A) (npr B) := ⟨by rw [tz_npr]; exact ha, by rw [tz_npr]; exact hb, .inl ⟨sb_npr sa, sb_npr sb⟩⟩
end Go.Proofs.YthbobdhkbgggjaaGreat

namespace Go.Proofs.YthbobdhkbgggjaaGreat
open Go Go.Proofs Go.AL
set_option linter.unusedSimpArgs false
set_option linter.unusedVariables false
theorem zl_pow {a : Int} {K : Nat} (h : zl a ≤ K) (i : Nat) : zl (a ^ i) ≤ i * K + 1 := by
  induction i with
  | zero => rw [Int.pow_zero]; have : zl 1 ≤ 1 := zl_le.mpr (by decide); omega
  | succ i ih =>
    rw [Int.pow_succ]
    have := zl_mul (a ^ i) a
    rw [Nat.succ_mul]
    omega
def ev : List Int → Int → Int
  | [], _ => 0
  | c :: p, t => c + t * ev p t
end Go.Proofs.YthbobdhkbgggjaaGreat

namespace Go.Proofs.YthbobdhkbgggjaaGreat
open Go Go.Proofs Go.AL
set_option linter.unusedSimpArgs false
set_option linter.unusedVariables false
end Go.Proofs.YthbobdhkbgggjaaGreat

namespace Go.Proofs.YthbobdhkbgggjaaGreat
open Go Go.Proofs Go.AL
set_option linter.unusedSimpArgs false
set_option linter.unusedVariables false
theorem pv_cnt {X : List Int} (h : trimz X = X) : pv (cn X) = X := by unfold cn; rw [pv_canon, h]
theorem rp_sb {D k : Nat} {q : List Int} (ht : tz q ≤ D) (h : SBd k q) : RP D k (cn q) := RP.canon (.of (by rw [trimz_len]; exact ht) fun i => by rw [cf_trimz]; exact h i)
theorem sb_rp {n k : Nat} {p : List RI} (h : RP n k p) : SBd k (pv p) := fun i => h.pv.cf i
theorem tz_rp {n k : Nat} {p : List RI} (h : RP n k p) : tz (pv p) ≤ n := Nat.le_trans (tz_le _) h.pv.1
theorem pprim_n {a : List RI} {q : List Int} (ha : RP (2 ^ 30) (2 ^ 35) a) (e : ps (pv a) = ps q) : AC Tryz.prog 35 [cw a] none [cp (npr q)] := by
  have h := pprim_g ha e
  rwa [cp_npr] at h
theorem pdeg_n {a : List RI} {q : List Int} (ha : RP (2 ^ 40) (2 ^ 40) a) (e : ps (pv a) = ps q) : AC Tryz.prog 19 [cw a] none [ci ((tz q : Int) - 1)] := by
  have h := pdeg_ok a ha
  rwa [tz_of_ps e] at h
theorem polys_snoc (L : List (List RI)) (x : List RI) : polys L ++ [[.sl (raws x)]] = polys (L ++ [x]) := by simp [polys]
theorem dq_tz {A B : List Int} (hB : tz B ≠ 0) : tz (dq A B) ≤ dxp A B := by
  have e := dres_div A B
  by_cases h0 : tz (dq A B) = 0
  · omega
  have ht := drem_tz (A := A) hB
  have hm := tz_pmul h0 hB
  refine Nat.le_of_not_lt fun hlt => ?_
  have hA : tz (pscale (lc B ^ dxp A B) A) = tz A := tz_pscale (lcp_ne hB _) A
  have e2 : ps (padd (pmul (dq A B) B) (dr A B)) = ps (pscale (lc B ^ dxp A B) A) := by rw [ps_padd, ps_pmul, ps_pscale, e]
  have h1 : cf (padd (pmul (dq A B) B) (dr A B)) (tz (dq A B) + tz B - 2) ≠ 0 := by
    rw [cf_padd, cf_ge_tz (dr A B) (by omega), Int.add_zero]
    have := cf_tz_pred (q := pmul (dq A B) B) (by omega)
    rwa [hm, show tz (dq A B) + tz B - 1 - 1 = tz (dq A B) + tz B - 2 by omega] at this
  rw [ps_eq e2] at h1
  refine h1 (cf_ge_tz _ ?_)
  rw [hA]
  unfold dxp at hlt
  omega
def prl : Nat → List Int → List Int → List (List Int)
  | 0, X, _ => [X]
  | n + 1, X, Y => if tz Y = 0 then [X] else X :: prl n Y (npr (dr X Y))
theorem prl_last : ∀ (n : Nat) (X Y : List Int), ∃ L, prl n X Y = L ++ [eu n X Y]
  | 0, X, Y => ⟨[], rfl⟩
  | n + 1, X, Y => by
    rw [prl, eu]
    split
    · exact ⟨[], rfl⟩
    · obtain ⟨L, e⟩ := prl_last n Y (npr (dr X Y))
      exact ⟨X :: L, by rw [e]; rfl⟩
theorem prl_len : ∀ (n : Nat) (X Y : List Int), (prl n X Y).length ≤ n + 1
  | 0, X, Y => by simp [prl]
  | n + 1, X, Y => by
    rw [prl]
    split
    · simp
    · have := prl_len n Y (npr (dr X Y))
      rw [List.length_cons]; omega
set_option maxRecDepth 100000 in
theorem prims_ok (p q : List RI) (D S : Nat) (hp : RP 40 S p) (hq : RP 40 S q) (tp : tz (pv p) ≤ D) (tq : tz (pv q) ≤ D) (hD : D ≤ 40) (hE : EZ S D ≤ 2 ^ 27) (h1 : tz (pv p) ≠ 0) (h2 : tz (pv q) ≠ 0) :
    AC Tryz.prog 62 [cw p, cw q] none [.iv (.sl (polys ((prl (tz (pv q)) (npr (pv p)) (npr (pv q))).map cn))), ci 0] := by
  have hS : S ≤ 2 ^ 27 := Nat.le_trans (EZ.mono S (i := 0) (by omega)) hE
  have n1 := pnone_ok p (hp.mono (by omega) (by omega))
  have n2 := pnone_ok q (hq.mono (by omega) (by omega))
  rw [decide_eq_false h1] at n1
  rw [decide_eq_false h2] at n2
  have pp := pprim_n (a := p) (hp.mono (by omega) (by omega)) rfl
  have pq := pprim_n (a := q) (hq.mono (by omega) (by omega)) rfl
  have ei0 : EI D S (npr (pv p)) (npr (pv q)) := EI.start tp tq (sb_rp hp) (sb_rp hq)
  have t0 := npr_trim (pv p)
  have t0' := npr_trim (pv q)
  have ht := tz_npr (pv q)
  generalize npr (pv p) = X0 at *
  generalize npr (pv q) = Y0 at *
  rw [← ht]
  refine AC.by_walk (rs := [.tmp 4, .tmp 5]) ords Tryz.func62 (by rfl) (by rfl) (by rfl) (by rfl) (by rfl) ?_
  simp (disch := omega) only [wk, tis, seval, reduceCtorEq, Nat.reduceEqDiff, cpoly_len, polys_len]
  refine call_by (n1) (by rfl) (by simp) ?_
  simp (disch := omega) only [wk, tis, seval, reduceCtorEq, Nat.reduceEqDiff, cpoly_len, polys_len]
  refine call_by (n2) (by rfl) (by simp) ?_
  simp (disch := omega) only [wk, tis, seval, reduceCtorEq, Nat.reduceEqDiff, cpoly_len, polys_len]
  refine call_by (pp) (by rfl) (by simp) ?_
  simp (disch := omega) only [wk, tis, seval, reduceCtorEq, Nat.reduceEqDiff, cpoly_len, polys_len]
  refine call_by (pq) (by rfl) (by simp) ?_
  simp (disch := omega) only [wk, tis, seval, reduceCtorEq, Nat.reduceEqDiff, cpoly_len, polys_len]
  refine aloop_by (fun f H => ∃ (n st : Nat) (L : List (List Int)) (X Y : List Int), L ++ prl n X Y = prl (tz Y0) X0 Y0 ∧ tz Y ≤ n ∧ trimz X = X ∧ trimz Y = Y ∧ EI D S X Y ∧ L.length + n ≤ 40 ∧ f 7 = .iv (.sl (cpoly Y)) ∧ f 6 = .hs 18 st ∧ H 18 = .blk false st 26 1 (polys ((L ++ [X]).map cn))) (fun f H => match f 7 with | .iv (.sl l) => l.length | _ => 0) ?_ ?_
  · refine ⟨tz Y0, 1, [], X0, Y0, rfl, by omega, t0, t0', ei0, by simp only [List.length_nil]; omega, ?_⟩
    simp (disch := omega) only [wk, tis, seval, reduceCtorEq, Nat.reduceEqDiff, cpoly_len, polys_len]
    try rfl
  rintro f H ⟨n, st, L, X, Y, hL, hn, tX, tY, ei, hl, g7, g6, h6⟩
  have hmu : (match f 7 with | .iv (.sl l) => l.length | _ => 0) = tz Y := by rw [g7]; simp only []; rw [cpoly_len]
  rw [hmu]
  obtain ⟨sX, sY⟩ := ei.bd
  have rX := rp_sb ei.x sX
  have rY := rp_sb ei.y sY
  have nn := pnone_ok (cn Y) (rY.mono (by omega) (by omega))
  rw [pv_cnt tY] at nn
  by_cases h0 : tz Y = 0
  · rw [decide_eq_true h0] at nn
    have e : prl n X Y = [X] := by
      cases n with
      | zero => rfl
      | succ n => rw [prl, if_pos h0]
    rw [e] at hL
    rw [hL] at h6
    simp (disch := omega) only [wk, tis, seval, reduceCtorEq, Nat.reduceEqDiff, cpoly_len, polys_len, g7, g6, h6]
    refine call_by (nn) (by first | rfl | (simp only [tocvs, tocv, g7, g6, h6]; rfl) | (simp only [tocvs, tocv, toboxes, tobox, updH_at, Nat.reduceEqDiff, ↓reduceIte, g7, g6, h6]; rfl)) (by simp) ?_
    simp (disch := omega) only [wk, tis, seval, reduceCtorEq, Nat.reduceEqDiff, cpoly_len, polys_len, g7, g6, h6]
    try rfl
  · rw [decide_eq_false h0] at nn
    obtain ⟨m, rfl⟩ : ∃ m, n = m + 1 := ⟨n - 1, by omega⟩
    have rm := prem_ok (cn X) (cn Y) (rX.mono (by omega) hE) (rY.mono (by omega) hE) (by rw [pv_cnt tY]; exact h0)
    rw [pv_cnt tX, pv_cnt tY] at rm
    have ei' := ei.step h0
    have dsz := (div_sz h0 sX sY).2
    have hdx : dxp X Y ≤ 41 := by unfold dxp; have := ei.x; omega
    have hdm : dxp X Y * (EZ S D + 1) ≤ 41 * (EZ S D + 1) := Nat.mul_le_mul_right _ hdx
    have dtz := drem_tz (A := X) h0
    have hey := ei.y
    have pr := pprim_n (a := cn (dr X Y)) (q := dr X Y) ((rp_sb (D := 40) (k := 2 ^ 35) (by omega) (dsz.mono (by omega))).mono (by omega) (by omega)) (ps_cn _)
    have hsn : polys ((L ++ [X]).map cn) ++ [[.sl (cpoly Y)]] = polys ((L ++ [X] ++ [Y]).map cn) := by
      rw [List.map_append (l₁ := L ++ [X])]; exact polys_snoc _ _
    have hln : ((L ++ [X]).map cn).length = L.length + 1 := by simp
    have hln2 : ((L ++ [X] ++ [Y]).map cn).length = L.length + 2 := by simp
    have hgt : (polys ((L ++ [X] ++ [Y]).map cn)).getD L.length [] = [.sl (cpoly X)] := by
      rw [polys_at (by rw [hln2]; omega)]
      simp [List.getD]
      rfl
    have e2 : ((L.length + 2 : Nat) : Int) - 2 = (L.length : Int) := by omega
    have htz := tz_npr (dr X Y)
    simp (disch := omega) only [wk, tis, seval, reduceCtorEq, Nat.reduceEqDiff, cpoly_len, polys_len, g7, g6, h6, hln, hsn, hln2]
    refine call_by (nn) (by first | rfl | (simp only [tocvs, tocv, g7, g6, h6, hln, hsn, hln2, e2, hgt]; rfl) | (simp only [tocvs, tocv, toboxes, tobox, updH_at, Nat.reduceEqDiff, ↓reduceIte, g7, g6, h6, hln, hsn, hln2, e2, hgt]; rfl)) (by simp) ?_
    simp (disch := omega) only [wk, tis, seval, reduceCtorEq, Nat.reduceEqDiff, cpoly_len, polys_len, g7, g6, h6, hln, hsn, hln2, e2, hgt]
    refine call_by (rm) (by first | rfl | (simp only [tocvs, tocv, g7, g6, h6, hln, hsn, hln2, e2, hgt]; rfl) | (simp only [tocvs, tocv, toboxes, tobox, updH_at, Nat.reduceEqDiff, ↓reduceIte, g7, g6, h6, hln, hsn, hln2, e2, hgt]; rfl)) (by simp) ?_
    simp (disch := omega) only [wk, tis, seval, reduceCtorEq, Nat.reduceEqDiff, cpoly_len, polys_len, g7, g6, h6, hln, hsn, hln2, e2, hgt]
    refine call_by (pr) (by first | rfl | (simp only [tocvs, tocv, g7, g6, h6, hln, hsn, hln2, e2, hgt]; rfl) | (simp only [tocvs, tocv, toboxes, tobox, updH_at, Nat.reduceEqDiff, ↓reduceIte, g7, g6, h6, hln, hsn, hln2, e2, hgt]; rfl)) (by simp) ?_
    simp (disch := omega) only [wk, tis, seval, reduceCtorEq, Nat.reduceEqDiff, cpoly_len, polys_len, g7, g6, h6, hln, hsn, hln2, e2, hgt]
    refine ⟨⟨m, st + 1, L ++ [X], Y, npr (dr X Y), ?_, by omega, tY, npr_trim _, ei', by simp only [List.length_append, List.length_singleton]; omega, ?_⟩, ?_⟩
    · rw [← hL, prl, if_neg h0]; simp
    · try (repeat' apply And.intro) <;> first | rfl | omega
    · omega
theorem gcdp_l0 {A B : List Int} (h : tz A = 0) : ps (npr B) = ps (gcdp A B) := gcdp_eq ((GG.zero h).symm.as (as_npr B) (.refl _) (.refl _)) (nf_npr B)
theorem gcdp_r0 {A B : List Int} (h : tz B = 0) : ps (npr A) = ps (gcdp A B) := gcdp_eq ((GG.zero h).as (as_npr A) (.refl _) (.refl _)) (nf_npr A)
theorem pgcd_ok (p q : List RI) (D S : Nat) (hp : RP 40 S p) (hq : RP 40 S q) (tp : tz (pv p) ≤ D) (tq : tz (pv q) ≤ D) (hD : D ≤ 40) (hE : EZ S D ≤ 2 ^ 27) :
    AC Tryz.prog 39 [cw p, cw q] none [cp (gcdp (pv p) (pv q))] := by
  have hS : S ≤ 2 ^ 27 := Nat.le_trans (EZ.mono S (i := 0) (by omega)) hE
  have d1 := pdeg_ok p (hp.mono (by omega) (by omega))
  have d2 := pdeg_ok q (hq.mono (by omega) (by omega))
  by_cases h1 : tz (pv p) = 0
  · have pr := pprim_n (a := q) (q := pv q) (hq.mono (by omega) (by omega)) rfl
    rw [cp_ps (gcdp_l0 h1)] at pr
    rw [h1] at d1
    refine AC.by_walk (rs := [.tmp 4]) ords Tryz.func39 (by rfl) (by rfl) (by rfl) (by rfl) (by rfl) ?_
    simp (disch := omega) only [wk, tis, seval, reduceCtorEq, Nat.reduceEqDiff, cpoly_len, polys_len]
    refine call_by (d1) (by rfl) (by simp) ?_
    simp (disch := omega) only [wk, tis, seval, reduceCtorEq, Nat.reduceEqDiff, cpoly_len, polys_len]
    refine call_by (pr) (by rfl) (by simp) ?_
    simp (disch := omega) only [wk, tis, seval, reduceCtorEq, Nat.reduceEqDiff, cpoly_len, polys_len]
    try rfl
  have h1' : ¬ (tz (pv p) : Int) - 1 < 0 := by omega
  by_cases h2 : tz (pv q) = 0
  · have pr := pprim_n (a := p) (q := pv p) (hp.mono (by omega) (by omega)) rfl
    rw [cp_ps (gcdp_r0 h2)] at pr
    rw [h2] at d2
    refine AC.by_walk (rs := [.tmp 4]) ords Tryz.func39 (by rfl) (by rfl) (by rfl) (by rfl) (by rfl) ?_
    simp (disch := omega) only [wk, tis, seval, reduceCtorEq, Nat.reduceEqDiff, cpoly_len, polys_len]
    refine call_by (d1) (by first | rfl | (simp only [tocvs, tocv, h1']; rfl) | (simp only [tocvs, tocv, toboxes, tobox, updH_at, Nat.reduceEqDiff, ↓reduceIte, h1']; rfl)) (by simp) ?_
    simp (disch := omega) only [wk, tis, seval, reduceCtorEq, Nat.reduceEqDiff, cpoly_len, polys_len, h1']
    refine call_by (d2) (by first | rfl | (simp only [tocvs, tocv, h1']; rfl) | (simp only [tocvs, tocv, toboxes, tobox, updH_at, Nat.reduceEqDiff, ↓reduceIte, h1']; rfl)) (by simp) ?_
    simp (disch := omega) only [wk, tis, seval, reduceCtorEq, Nat.reduceEqDiff, cpoly_len, polys_len, h1']
    refine call_by (pr) (by rfl) (by simp) ?_
    simp (disch := omega) only [wk, tis, seval, reduceCtorEq, Nat.reduceEqDiff, cpoly_len, polys_len]
    try rfl
  have h2' : ¬ (tz (pv q) : Int) - 1 < 0 := by omega
  have pl := prims_ok p q D S hp hq tp tq hD hE h1 h2
  obtain ⟨L, hL⟩ := prl_last (tz (pv q)) (npr (pv p)) (npr (pv q))
  have hll := prl_len (tz (pv q)) (npr (pv p)) (npr (pv q))
  rw [hL] at pl hll
  rw [show eu (tz (pv q)) (npr (pv p)) (npr (pv q)) = gcdp (pv p) (pv q) from rfl] at pl
  simp only [List.length_append, List.length_singleton] at hll
  have hln : ((L ++ [gcdp (pv p) (pv q)]).map cn).length = L.length + 1 := by simp
  have hgt : (polys ((L ++ [gcdp (pv p) (pv q)]).map cn)).getD L.length [] = [.sl (cpoly (gcdp (pv p) (pv q)))] := by
    rw [polys_at (by rw [hln]; omega)]
    simp [List.getD]
    rfl
  have e2 : ((L.length + 1 : Nat) : Int) - 1 = (L.length : Int) := by omega
  refine AC.by_walk (rs := [.tmp 4]) ords Tryz.func39 (by rfl) (by rfl) (by rfl) (by rfl) (by rfl) ?_
  simp (disch := omega) only [wk, tis, seval, reduceCtorEq, Nat.reduceEqDiff, cpoly_len, polys_len]
  refine call_by (d1) (by first | rfl | (simp only [tocvs, tocv, h1']; rfl) | (simp only [tocvs, tocv, toboxes, tobox, updH_at, Nat.reduceEqDiff, ↓reduceIte, h1']; rfl)) (by simp) ?_
  simp (disch := omega) only [wk, tis, seval, reduceCtorEq, Nat.reduceEqDiff, cpoly_len, polys_len, h1']
  refine call_by (d2) (by first | rfl | (simp only [tocvs, tocv, h2']; rfl) | (simp only [tocvs, tocv, toboxes, tobox, updH_at, Nat.reduceEqDiff, ↓reduceIte, h2']; rfl)) (by simp) ?_
  simp (disch := omega) only [wk, tis, seval, reduceCtorEq, Nat.reduceEqDiff, cpoly_len, polys_len, h2']
  refine call_by (pl) (by first | rfl | (simp only [tocvs, tocv, hln, e2, hgt]; rfl) | (simp only [tocvs, tocv, toboxes, tobox, updH_at, Nat.reduceEqDiff, ↓reduceIte, hln, e2, hgt]; rfl)) (by simp) ?_
  simp (disch := omega) only [wk, tis, seval, reduceCtorEq, Nat.reduceEqDiff, cpoly_len, polys_len, hln, e2, hgt]
  try rfl
def dvb (B A : List Int) : Bool := if tz B = 0 then decide (tz A = 0) else decide (tz (dr A B) = 0)
theorem dvb_iff (B A : List Int) : dvb B A = true ↔ Dv B A := by
  unfold dvb
  split
  · rename_i h0
    rw [decide_eq_true_iff]
    refine ⟨fun h => .zero B h, fun h => ?_⟩
    by_cases hA : tz A = 0
    · exact hA
    · exact absurd h0 (dv_tz h hA).1
  · rename_i h0
    rw [decide_eq_true_iff]
    exact (dv_dr h0).symm
end Go.Proofs.YthbobdhkbgggjaaGreat

namespace Go.Proofs.YthbobdhkbgggjaaGreat
open Go Go.Proofs Go.AL
set_option linter.unusedSimpArgs false
set_option linter.unusedVariables false
end Go.Proofs.YthbobdhkbgggjaaGreat

namespace Go.Proofs.YthbobdhkbgggjaaGreat
open Go Go.Proofs Go.AL
set_option linter.unusedSimpArgs false
set_option linter.unusedVariables false
end Go.Proofs.YthbobdhkbgggjaaGreat

namespace Go.Proofs.YthbobdhkbgggjaaGreat
open Go Go.Proofs Go.AL
open Go.RowKit Go.Shelf
set_option linter.unusedSimpArgs false
set_option linter.unusedVariables false
attribute [local go_sem] Oper.semAt_some
end Go.Proofs.YthbobdhkbgggjaaGreat

namespace Go.Proofs.YthbobdhkbgggjaaGreat
open Go Go.Proofs Go.AL
set_option linter.unusedSimpArgs false
set_option linter.unusedVariables false
end Go.Proofs.YthbobdhkbgggjaaGreat

namespace Go.Proofs.YthbobdhkbgggjaaGreat
open Go Go.Proofs Go.AL
set_option linter.unusedSimpArgs false
set_option linter.unusedVariables false
end Go.Proofs.YthbobdhkbgggjaaGreat

namespace Go.Proofs.YthbobdhkbgggjaaGreat
open Go Go.Proofs Go.AL
set_option linter.unusedSimpArgs false
set_option linter.unusedVariables false
end Go.Proofs.YthbobdhkbgggjaaGreat

namespace Go.Proofs.YthbobdhkbgggjaaGreat
open Go Go.Proofs Go.AL
set_option linter.unusedSimpArgs false
set_option linter.unusedVariables false
end Go.Proofs.YthbobdhkbgggjaaGreat

namespace Go.Proofs.YthbobdhkbgggjaaGreat
open Go Go.Proofs Go.AL
set_option linter.unusedSimpArgs false
set_option linter.unusedVariables false
def sc (a : Int) : List Int → List Int
  | [] => []
  | c :: p => c :: pscale a (sc a p)
end Go.Proofs.YthbobdhkbgggjaaGreat

namespace Go.Proofs.YthbobdhkbgggjaaGreat
open Go Go.Proofs Go.AL
set_option linter.unusedSimpArgs false
set_option linter.unusedVariables false
end Go.Proofs.YthbobdhkbgggjaaGreat

namespace Go.Proofs.YthbobdhkbgggjaaGreat
open Go Go.Proofs Go.AL
set_option linter.unusedSimpArgs false
set_option linter.unusedVariables false
end Go.Proofs.YthbobdhkbgggjaaGreat

namespace Go.Proofs.YthbobdhkbgggjaaGreat
open Go Go.Proofs Go.AL
set_option linter.unusedSimpArgs false
set_option linter.unusedVariables false
end Go.Proofs.YthbobdhkbgggjaaGreat

namespace Go.Proofs.YthbobdhkbgggjaaGreat
open Go Go.Proofs Go.AL
set_option linter.unusedSimpArgs false
set_option linter.unusedVariables false
end Go.Proofs.YthbobdhkbgggjaaGreat

namespace Go.Proofs.YthbobdhkbgggjaaGreat
open Go Go.Proofs Go.AL
set_option linter.unusedSimpArgs false
set_option linter.unusedVariables false
structure Dvr (b : List Nat) : Prop where
  dig : Dig b
  pos : 0 < b.length
  top : b.getD (b.length - 1) 0 ≠ 0
def hval (H : Hp) (h : Nat) : Nat := match H h with
  | .blk _ _ _ _ rows => vl D16 (rows.map fun r => match r with | [.int _ n] => n.toNat | _ => 0)
  | _ => 0
def hlen (H : Hp) (h : Nat) : Nat := match H h with
  | .blk _ _ _ _ rows => rows.length
  | _ => 0
end Go.Proofs.YthbobdhkbgggjaaGreat

namespace Go.Proofs.YthbobdhkbgggjaaGreat
open Go Go.Proofs Go.AL
set_option linter.unusedSimpArgs false
set_option linter.unusedVariables false
end Go.Proofs.YthbobdhkbgggjaaGreat

namespace Go.Proofs.YthbobdhkbgggjaaGreat
open Go Go.Proofs Go.AL
set_option linter.unusedSimpArgs false
set_option linter.unusedVariables false
end Go.Proofs.YthbobdhkbgggjaaGreat

namespace Go.Proofs.YthbobdhkbgggjaaGreat
open Go Go.Proofs Go.AL
set_option linter.unusedSimpArgs false
set_option linter.unusedVariables false
end Go.Proofs.YthbobdhkbgggjaaGreat

namespace Go.Proofs.YthbobdhkbgggjaaGreat
open Go Go.Proofs Go.AL
set_option linter.unusedSimpArgs false
set_option linter.unusedVariables false
theorem canon_sg (z : Int) : (canon z).1 = decide (z < 0) := rfl
end Go.Proofs.YthbobdhkbgggjaaGreat
