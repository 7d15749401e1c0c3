/-
  Contracts of the functions that the law reaches.
-/
import Derived.Test.YthgecppfgdadiaaL37
namespace Go.Proofs.Ythgecppfgdadiaa
open Go Go.Proofs Go.AL
set_option linter.unusedSimpArgs false
set_option linter.unusedVariables false

theorem wd_top {v : Nat} (h : 0 < (wd v).length) : 0 < (wd v).getD ((wd v).length - 1) 0 := by
  rcases Nat.eq_zero_or_pos ((wd v).getD ((wd v).length - 1) 0) with h0 | h0
  · exfalso
    have h1 := vl_take_next W (wd v) ((wd v).length - 1)
    rw [Nat.sub_add_cancel h, List.take_length, h0, Nat.mul_zero, Nat.add_zero] at h1
    have h2 := nv_lt ((lim_wd v).take ((wd v).length - 1))
    rw [List.length_take, Nat.min_eq_left (Nat.sub_le _ _)] at h2
    have h3 : v < W ^ ((wd v).length - 1) := by
      have h4 := nv_wd v
      simp only [nv] at *
      omega
    have := wd_len_le.mpr h3
    omega
  · exact h0

theorem knuth_shift {y : Nat} (h : 0 < (wd y).length) : ∃ s, s = 64 - bl ((wd y).getD ((wd y).length - 1) 0) ∧ s ≤ 63 ∧ (wd y).getD ((wd y).length - 1) 0 < W ∧ (wd (y * 2 ^ s)).length = (wd y).length := by
  have ht := wd_top h
  have hw := (lim_wd y).get ((wd y).length - 1)
  have h1 := vl_take_next W (wd y) ((wd y).length - 1)
  rw [Nat.sub_add_cancel h, List.take_length] at h1
  have h2 := nv_lt ((lim_wd y).take ((wd y).length - 1))
  rw [List.length_take, Nat.min_eq_left (Nat.sub_le _ _)] at h2
  have h4 := nv_wd y
  simp only [nv] at *
  rw [h4] at h1
  have hmono : (wd y).length ≤ (wd (y * 2 ^ (64 - bl ((wd y).getD ((wd y).length - 1) 0)))).length := wd_len_mono (Nat.le_mul_of_pos_right _ (Nat.pow_pos (by decide)))
  generalize hk : (wd y).length = k at *
  generalize (wd y).getD (k - 1) 0 = t at *
  have hb64 : bl t ≤ 64 := bl_le.mpr hw
  have hb1 : 1 ≤ bl t := by
    rcases Nat.eq_zero_or_pos (bl t) with h0 | h0
    · have := bl_le.mp (Nat.le_of_eq h0)
      omega
    · exact h0
  have hbt : t < 2 ^ bl t := bl_le.mp (Nat.le_refl _)
  refine ⟨_, rfl, by omega, hw, Nat.le_antisymm (wd_len_le.mpr ?_) hmono⟩
  have h5 : y < W ^ (k - 1) * 2 ^ bl t := by
    have := Nat.mul_le_mul_left (W ^ (k - 1)) hbt
    rw [Nat.mul_succ] at this
    omega
  have h6 := Nat.mul_lt_mul_of_pos_right h5 (Nat.pow_pos (by decide : 0 < 2) : 0 < 2 ^ (64 - bl t))
  rw [Nat.mul_assoc, ← Nat.pow_add, show bl t + (64 - bl t) = 64 by omega] at h6
  have h7 : W ^ k = W ^ (k - 1) * 2 ^ 64 := by
    have h8 : W ^ (k - 1 + 1) = W ^ (k - 1) * W := Nat.pow_succ _ _
    rw [Nat.sub_add_cancel h] at h8
    exact h8
  rw [h7]; exact h6

theorem vl_rep0 (b : Nat) : ∀ n, vl b (List.replicate n 0) = 0
  | 0 => rfl
  | n + 1 => by rw [List.replicate_succ, vl, vl_rep0 b n]; rfl

theorem put_row {X : List Nat} {k d : Nat} (h : k < X.length) : (lims X).set k (splice ((lims X).getD k []) 0 [.int .u64 (d : Int)]) = lims (X.set k d) := by
  rw [lims_at h, splice_one, lims_set]

theorem put_eq {u rs : List Nat} {i n d : Nat} (h : i + n < u.length) (hr : rs.length = n) : (u.take i ++ rs ++ u.drop (i + n)).set (i + n) d = u.take i ++ (rs ++ d :: u.drop (i + n + 1)) := by
  rw [List.drop_eq_getElem_cons h, List.set_append_right _ _ (by simp; omega)]
  have e : i + n - (u.take i ++ rs).length = 0 := by simp; omega
  rw [e, List.set_cons_zero, List.append_assoc]

theorem put_digit {u rs : List Nat} {i n d : Nat} (h : i + n < u.length) (hr : rs.length = n) (hu : Lim u) (hrs : Lim rs) (hd : d < W) : ∃ X, (u.take i ++ rs ++ u.drop (i + n)).set (i + n) d = X ∧ X.length = u.length ∧ X.take i = u.take i ∧ nv (X.drop i) = nv rs + W ^ n * (d + W * nv (u.drop (i + n + 1))) ∧
    (X.drop i).take n = rs ∧ X.getD (i + n) 0 = d ∧ X.drop (i + n + 1) = u.drop (i + n + 1) ∧ Lim X := by
  refine ⟨_, put_eq h hr, ?_, ?_, ?_, ?_, ?_, ?_, ?_⟩
  · simp; omega
  · rw [List.take_append_of_le_length (by simp; omega), List.take_take, Nat.min_self]
  · rw [List.drop_append_of_le_length (by simp; omega), List.drop_of_length_le (by rw [List.length_take]; exact Nat.min_le_left _ _), List.nil_append]
    have := vl_split W (rs ++ d :: u.drop (i + n + 1)) (k := n) (by simp; omega)
    rw [← hr, List.take_left, List.drop_left, hr] at this
    exact this
  · rw [List.drop_append_of_le_length (by simp; omega), List.drop_of_length_le (by rw [List.length_take]; exact Nat.min_le_left _ _), List.nil_append, ← hr, List.take_left]
  · rw [List.getD_eq_getElem?_getD, List.getElem?_append_right (by simp; omega)]
    have e : i + n - (u.take i).length = n := by simp; omega
    rw [e, List.getElem?_append_right (by omega), hr]
    simp
  · rw [← List.append_assoc, List.drop_append, List.drop_of_length_le (by simp; omega)]
    have e : i + n + 1 - (u.take i ++ rs).length = 1 := by simp; omega
    rw [e]; rfl
  · exact (hu.take i).append (hrs.append (Lim.cons hd (hu.drop _)))

theorem knuth_next {u u0 q : List Nat} {i V g D : Nat} (hul : i < u.length) (hu0 : u0.length = u.length) (hq : i < q.length) (hT : u.take (i + 1) = u0.take (i + 1)) (hE : nv (u0.drop (i + 1)) = nv (q.drop (i + 1)) * V + nv (u.drop (i + 1))) (hD : nv (u.drop i) = D) (hg : g = D / V) :
    nv (u0.drop i) = nv ((q.set i g).drop i) * V + D % V ∧ u.take i = u0.take i := by
  have e1 := nv_drop u0 i (by omega)
  have e2 := nv_drop u i hul
  have e3 := nv_drop (q.set i g) i (by simp; omega)
  have e4 : (q.set i g).getD i 0 = g := by simp [List.getD, hq]
  have e5 : (q.set i g).drop (i + 1) = q.drop (i + 1) := List.drop_set_of_lt (by omega)
  have e6 : u0.getD i 0 = u.getD i 0 := by
    have h1 : u0.getD i 0 = (u0.take (i + 1)).getD i 0 := by simp [List.getD, List.getElem?_take]
    have h2 : u.getD i 0 = (u.take (i + 1)).getD i 0 := by simp [List.getD, List.getElem?_take]
    rw [h1, h2, hT]
  have hd := Nat.div_add_mod D V
  rw [e4, e5] at e3
  rw [e3, e1, e6, hE, Nat.add_mul, Nat.mul_add, ← Nat.mul_assoc, Nat.mul_comm g V, hg]
  rw [hD] at e2
  constructor
  · omega
  · have := congrArg (List.take i) hT
    simpa [List.take_take] using this

theorem flat_lims (l : List Nat) : ∀ r ∈ lims l, ∀ x ∈ r, FlatI x := by
  intro r hr x hx
  simp only [lims, List.mem_map] at hr
  obtain ⟨n, _, rfl⟩ := hr
  simp only [List.mem_singleton] at hx
  subst hx
  trivial

theorem flat_own2 (e : Nat) (l l' : List Nat) (a : Nat) : FlatRes (some (0, e, 1, lims l)) [cl l', cu a] := by
  refine ⟨flat_lims l, fun j c hj hc => ?_⟩
  match j, hj with
  | 1, _ => simp at hc; subst hc; trivial
  | j + 2, _ => simp at hc

theorem flat_own3 (e : Nat) (l l' : List Nat) (a b : Nat) : FlatRes (some (0, e, 1, lims l)) [cl l', cu a, ci b] := by
  refine ⟨flat_lims l, fun j c hj hc => ?_⟩
  match j, hj with
  | 1, _ => simp at hc; subst hc; trivial
  | 2, _ => simp at hc; subst hc; trivial
  | j + 3, _ => simp at hc

set_option maxHeartbeats 4000000 in
theorem knuth_ok (x y m n : Nat) (hm : (wd x).length = m) (hn : (wd y).length = n) (h2 : 2 ≤ n) (hxy : y ≤ x) (hl : m ≤ 2 ^ 38) : AC Try.prog 180 [cl (wd x), cl (wd y)] none [cl (wd (x / y)), cl (wd (x % y))] := by
  refine AC.by_walk (rs := [.tmp 4, .tmp 5]) ords Try.func180 (by rfl) (by rfl) (by rfl) (by rfl) (by rfl) ?_
  obtain ⟨s, hs, hs63, htw, hvl⟩ := knuth_shift (y := y) (by omega)
  have hyl : n ≤ m := by rw [← hm, ← hn]; exact wd_len_mono hxy
  have lz := lz64_ok _ htw
  rw [← hs, hn] at lz
  rw [hn] at hvl
  have hn1 : ((n : Int) - 1).toNat = n - 1 := by omega
  simp (disch := omega) only [wk, tis, Int.reduceNe, Int.reduceEq, Int.reduceLT, Int.reduceLE, Int.reduceAdd, Int.reduceSub, Int.reduceNeg, Int.reduceMul, Int.reduceToNat, Nat.reduceSub, Nat.reduceMul, Nat.reduceLeDiff, Nat.reduceAdd, Nat.reduceLT, Nat.reduceEqDiff, reduceCtorEq, ↓reduceIte, natsr_len, natsr_at, Option.getD_some, hn, hn1]
  refine call_by (lz) (by first | rfl | (simp only [tocvs, tocv, hn, hn1]; rfl)) (by simp) ?_
  simp (disch := omega) only [wk, tis, Int.reduceNe, Int.reduceEq, Int.reduceLT, Int.reduceLE, Int.reduceAdd, Int.reduceSub, Int.reduceNeg, Int.reduceMul, Int.reduceToNat, Nat.reduceSub, Nat.reduceMul, Nat.reduceLeDiff, Nat.reduceAdd, Nat.reduceLT, Nat.reduceEqDiff, reduceCtorEq, ↓reduceIte, natsr_len, natsr_at, Option.getD_some, hn, hn1]
  refine call_by ((nshl_ok (wd y) s (lim_wd _) (by omega) (by omega))) (by first | rfl | (simp only [tocvs, tocv, hn]; rfl)) (by simp) ?_
  simp (disch := omega) only [wk, tis, Int.reduceNe, Int.reduceEq, Int.reduceLT, Int.reduceLE, Int.reduceAdd, Int.reduceSub, Int.reduceNeg, Int.reduceMul, Int.reduceToNat, Nat.reduceSub, Nat.reduceMul, Nat.reduceLeDiff, Nat.reduceAdd, Nat.reduceLT, Nat.reduceEqDiff, reduceCtorEq, ↓reduceIte, natsr_len, natsr_at, Option.getD_some, hn]
  rw [nv_wd]
  refine call_by ((nshl_ok (wd x) s (lim_wd _) (by omega) (by omega))) (by first | rfl | (simp only [tocvs, tocv, hn]; rfl)) (by simp) ?_
  simp (disch := omega) only [wk, tis, Int.reduceNe, Int.reduceEq, Int.reduceLT, Int.reduceLE, Int.reduceAdd, Int.reduceSub, Int.reduceNeg, Int.reduceMul, Int.reduceToNat, Nat.reduceSub, Nat.reduceMul, Nat.reduceLeDiff, Nat.reduceAdd, Nat.reduceLT, Nat.reduceEqDiff, reduceCtorEq, ↓reduceIte, natsr_len, natsr_at, Option.getD_some, hn]
  rw [nv_wd]
  have hUlt : x * 2 ^ s < W ^ (m + 1) := by
    have h1 : x < W ^ m := by rw [← hm]; exact wd_len_le.mp (Nat.le_refl _)
    rw [Nat.pow_succ]
    exact Nat.mul_lt_mul_of_lt_of_le h1 (Nat.pow_le_pow_right (by decide) (by omega : s ≤ 64)) (by decide)
  have hul : (wd (x * 2 ^ s)).length ≤ m + 1 := wd_len_le.mpr hUlt
  generalize hup : (wd (x * 2 ^ s)).length = up at *
  have hz1 : ((m : Int) + 1 - up).toNat = m + 1 - up := by omega
  simp (disch := omega) only [wk, tis, Int.reduceNe, Int.reduceEq, Int.reduceLT, Int.reduceLE, Int.reduceAdd, Int.reduceSub, Int.reduceNeg, Int.reduceMul, Int.reduceToNat, Nat.reduceSub, Nat.reduceMul, Nat.reduceLeDiff, Nat.reduceAdd, Nat.reduceLT, Nat.reduceEqDiff, reduceCtorEq, ↓reduceIte, natsr_len, natsr_at, Option.getD_some, hn, hm, hup, hz1]
  have hcc := concat_ok [wd (x * 2 ^ s), List.replicate (m + 1 - up) 0] (by simp) (by simp only [tot, List.map_cons, List.map_nil, List.sum_cons, List.sum_nil, List.length_replicate]; omega)
  have hpu : [wd (x * 2 ^ s), List.replicate (m + 1 - up) 0].flatten = pad (m + 1) (x * 2 ^ s) := by
    simp only [List.flatten_cons, List.flatten_nil, List.append_nil]
    refine eq_pad ((lim_wd _).append (Lim.replicate _)) (by simp; omega) ?_
    have h1 := vl_split W (wd (x * 2 ^ s) ++ List.replicate (m + 1 - up) 0) (k := up) (by simp; omega)
    rw [List.take_append_of_le_length (by omega), List.drop_append_of_le_length (by omega), List.take_of_length_le (by omega), List.drop_of_length_le (by omega), List.nil_append, vl_rep0, Nat.mul_zero, Nat.add_zero] at h1
    rw [Nat.mod_eq_of_lt hUlt]
    exact h1.trans (nv_wd _)
  rw [hpu] at hcc
  have hpl := pad_len (m + 1) (x * 2 ^ s)
  have hz2 : (((m + 1 : Nat) : Int) - n).toNat = m + 1 - n := by omega
  refine call_by (hcc) (by first | rfl | (simp only [tocvs, tocv, hn, hm, hup, hz1, hpl, hz2]; rfl)) (by simp) ?_
  simp (disch := omega) only [wk, tis, Int.reduceNe, Int.reduceEq, Int.reduceLT, Int.reduceLE, Int.reduceAdd, Int.reduceSub, Int.reduceNeg, Int.reduceMul, Int.reduceToNat, Nat.reduceSub, Nat.reduceMul, Nat.reduceLeDiff, Nat.reduceAdd, Nat.reduceLT, Nat.reduceEqDiff, reduceCtorEq, ↓reduceIte, natsr_len, natsr_at, Option.getD_some, hn, hm, hup, hz1, hpl, hz2]
  have hV : Lim (wd (y * 2 ^ s)) := lim_wd _
  have hq0 : Lim (List.replicate (m + 1 - n) 0) := Lim.replicate _
  have hu0 := lim_pad (m + 1) (x * 2 ^ s)
  have hi1 : nv ((pad (m + 1) (x * 2 ^ s)).drop (m + 1 - n)) < y * 2 ^ s := by
    have h1 := vl_split W (pad (m + 1) (x * 2 ^ s)) (k := m + 1 - n) (by omega)
    have h3 := nv_pad (m + 1) (x * 2 ^ s)
    rw [Nat.mod_eq_of_lt hUlt] at h3
    have hx : x < W ^ m := by rw [← hm]; exact wd_len_le.mp (Nat.le_refl _)
    have hy : W ^ (n - 1) ≤ y := by
      rcases Nat.lt_or_ge y (W ^ (n - 1)) with h | h
      · have := wd_len_le.mpr h
        omega
      · exact h
    simp only [nv] at *
    have h4 : W ^ (m + 1 - n) * vl W ((pad (m + 1) (x * 2 ^ s)).drop (m + 1 - n)) < W ^ (m + 1 - n) * (y * 2 ^ s) := by
      refine Nat.lt_of_le_of_lt (Nat.le_trans (Nat.le_add_left _ _) (Nat.le_of_eq (h1.symm.trans h3))) ?_
      rw [← Nat.mul_assoc]
      refine Nat.mul_lt_mul_of_pos_right (Nat.lt_of_lt_of_le hx ?_) (Nat.pow_pos (by decide))
      rw [show m = m + 1 - n + (n - 1) by omega, Nat.pow_add]
      refine Nat.mul_le_mul (Nat.pow_le_pow_right (by decide) (by omega)) hy
    exact Nat.lt_of_mul_lt_mul_left h4
  have hi2 : nv ((pad (m + 1) (x * 2 ^ s)).drop (m + 1 - n)) = nv ((List.replicate (m + 1 - n) 0).drop (m + 1 - n)) * (y * 2 ^ s) + nv ((pad (m + 1) (x * 2 ^ s)).drop (m + 1 - n)) := by
    rw [List.drop_of_length_le (l := List.replicate _ _) (by simp)]
    simp [nv, vl]
  refine aloop_by (fun f H => ∃ (k st st2 : Nat) (u q : List Nat), k + n ≤ m + 1 ∧ Lim u ∧ u.length = m + 1 ∧ Lim q ∧ q.length = m + 1 - n ∧ nv (u.drop k) < y * 2 ^ s ∧ nv ((pad (m + 1) (x * 2 ^ s)).drop k) = nv (q.drop k) * (y * 2 ^ s) + nv (u.drop k) ∧ u.take k = (pad (m + 1) (x * 2 ^ s)).take k ∧ f 14 = .iv (.int .i64 (k - 1)) ∧ f 12 = .hs 54 st ∧ f 13 = .hs 59 st2 ∧ f 6 = .iv (.int .i64 n) ∧ f 7 = .iv (.int .i64 s) ∧ f 8 = .iv (.sl (lims (wd (y * 2 ^ s)))) ∧ H 54 = .blk false st 87 1 (lims u) ∧ H 59 = .blk false st2 87 1 (lims q)) (fun f H => (intAt f 14 + 1).toNat) ?_ ?_
  · refine ⟨m + 1 - n, 1, 1, pad (m + 1) (x * 2 ^ s), List.replicate (m + 1 - n) 0, by omega, hu0, hpl, hq0, by simp, hi1, hi2, rfl, ?_⟩
    simp (disch := omega) only [wk, tis, Int.reduceNe, Int.reduceEq, Int.reduceLT, Int.reduceLE, Int.reduceAdd, Int.reduceSub, Int.reduceNeg, Int.reduceMul, Int.reduceToNat, Nat.reduceSub, Nat.reduceMul, Nat.reduceLeDiff, Nat.reduceAdd, Nat.reduceLT, Nat.reduceEqDiff, reduceCtorEq, ↓reduceIte, natsr_len, natsr_at, Option.getD_some, hn, hm, hup, hz1, hpl, hz2]
  rintro f H ⟨k, st, st2, u, q, hk, hu, hul', hq, hql, hR, hE, hT, hF⟩
  rw [intAt_of hF.1]
  simp (disch := omega) only [wk, tis, Int.reduceNe, Int.reduceEq, Int.reduceLT, Int.reduceLE, Int.reduceAdd, Int.reduceSub, Int.reduceNeg, Int.reduceMul, Int.reduceToNat, Nat.reduceSub, Nat.reduceMul, Nat.reduceLeDiff, Nat.reduceAdd, Nat.reduceLT, Nat.reduceEqDiff, reduceCtorEq, ↓reduceIte, natsr_len, natsr_at, Option.getD_some, hF]
  generalize hU0 : pad (m + 1) (x * 2 ^ s) = u0 at *
  refine if_by (fun hge => ?_) (fun hge => ?_)
  · obtain ⟨i, rfl⟩ : ∃ i, k = i + 1 := ⟨k - 1, by omega⟩
    rw [show (((i + 1 : Nat) : Int) - 1) = i by omega] at *
    have hnV : nv (wd (y * 2 ^ s)) = y * 2 ^ s := nv_wd _
    have hv1 : 0 < (wd (y * 2 ^ s)).getD (n - 1) 0 := by
      have := wd_top (v := y * 2 ^ s) (by omega)
      rwa [hvl] at this
    have hR0 : nv (u.drop (i + 1)) < nv (wd (y * 2 ^ s)) := by rw [hnV]; exact hR
    have hV0 : 0 < nv (wd (y * 2 ^ s)) := Nat.zero_lt_of_lt hR0
    have hVn := Nat.le_of_lt (nv_lt hV)
    rw [hvl] at hVn
    generalize hv : wd (y * 2 ^ s) = v at *
    generalize y * 2 ^ s = V at *
    subst hnV
    obtain ⟨k1, k2, k3, k4, k5⟩ := knuth_digit hu hV h2 (show i + n < u.length by omega) hvl hv1 hR
    have gg := guess_ok (u.getD (i + n) 0) (u.getD (i + n - 1) 0) (u.getD (i + n - 2) 0) (v.getD (n - 1) 0) (v.getD (n - 2) 0) k1 (hu.get _) (hu.get _) (hV.get _) (hV.get _) hv1
    have hgW : gd3 (u.getD (i + n) 0) (u.getD (i + n - 1) 0) (u.getD (i + n - 2) 0) (v.getD (n - 1) 0) (v.getD (n - 2) 0) < W := Nat.lt_of_le_of_lt (Nat.min_le_right _ _) (Nat.sub_lt (by decide) (by decide))
    generalize gd3 (u.getD (i + n) 0) (u.getD (i + n - 1) 0) (u.getD (i + n - 2) 0) (v.getD (n - 1) 0) (v.getD (n - 2) 0) = g at *
    have t1 : ((i : Int) + n).toNat = i + n := by omega
    have t2 : ((i : Int) + n - 1).toNat = i + n - 1 := by omega
    have t3 : ((i : Int) + n - 2).toNat = i + n - 2 := by omega
    have t4 : ((n : Int) - 1).toNat = n - 1 := by omega
    have t5 : ((n : Int) - 2).toNat = n - 2 := by omega
    simp (disch := omega) only [wk, tis, Int.reduceNe, Int.reduceEq, Int.reduceLT, Int.reduceLE, Int.reduceAdd, Int.reduceSub, Int.reduceNeg, Int.reduceMul, Int.reduceToNat, Nat.reduceSub, Nat.reduceMul, Nat.reduceLeDiff, Nat.reduceAdd, Nat.reduceLT, Nat.reduceEqDiff, reduceCtorEq, ↓reduceIte, natsr_len, natsr_at, Option.getD_some, hF, t1, t2, t3, t4, t5]
    refine ⟨tmps_by (by kernel_rfl), ?_⟩
    refine call_by (gg) (by first | rfl | (simp only [tocvs, tocv, hF, t1, t2, t3, t4, t5]; rfl)) (by simp) ?_
    simp (disch := omega) only [wk, tis, Int.reduceNe, Int.reduceEq, Int.reduceLT, Int.reduceLE, Int.reduceAdd, Int.reduceSub, Int.reduceNeg, Int.reduceMul, Int.reduceToNat, Nat.reduceSub, Nat.reduceMul, Nat.reduceLeDiff, Nat.reduceAdd, Nat.reduceLT, Nat.reduceEqDiff, reduceCtorEq, ↓reduceIte, natsr_len, natsr_at, Option.getD_some, hF, t1, t2, t3, t4, t5]
    first | exact log_by (by kernel_rfl) | refine ⟨log_by (by kernel_rfl), ?_⟩
    have hal : ((u.drop i).take n).length = n := by simp; omega
    have ms := mulsub_ok ((u.drop i).take n) v g ((hu.drop i).take n) hV hgW (by omega) (by omega)
    rw [hal] at ms
    have hlo := nv_lt ((hu.drop i).take n)
    rw [hal] at hlo
    obtain ⟨c1, c2⟩ := subC_eq (y := nv v * g) (W_pow_pos n) hlo
    generalize hc : subC (nv ((u.drop i).take n)) (nv v * g) (W ^ n) = c at *
    have t6 : ((i : Int) + n - i).toNat = n := by omega
    refine frame_call (fun f H => f 14 = .iv (.int .i64 i) ∧ f 12 = .hs 54 st ∧ f 13 = .hs 59 st2 ∧ f 6 = .iv (.int .i64 n) ∧ f 7 = .iv (.int .i64 s) ∧ f 8 = .iv (.sl (lims v)) ∧ f 15 = .iv (.int .u64 g) ∧ H 54 = .blk false st 87 1 (lims u) ∧ H 59 = .blk false st2 87 1 (lims q)) ?_ (fun f H hF => ?_)
    · simp (disch := omega) only [wk, tis, Int.reduceNe, Int.reduceEq, Int.reduceLT, Int.reduceLE, Int.reduceAdd, Int.reduceSub, Int.reduceNeg, Int.reduceMul, Int.reduceToNat, Nat.reduceSub, Nat.reduceMul, Nat.reduceLeDiff, Nat.reduceAdd, Nat.reduceLT, Nat.reduceEqDiff, reduceCtorEq, ↓reduceIte, natsr_len, natsr_at, Option.getD_some, hF]
    rw [t6]
    refine call_flat ms (by simp only [tocvs, tocv, hF, lims_take, lims_drop]; rfl) (by simp only [lims_len]; simp; omega) (.inr (flat_own3 ..)) ?_
    have hrsl := pad_len n (nv ((u.drop i).take n) + W ^ n * c - nv v * g)
    have hrsL := lim_pad n (nv ((u.drop i).take n) + W ^ n * c - nv v * g)
    have hrsv := nv_pad n (nv ((u.drop i).take n) + W ^ n * c - nv v * g)
    rw [Nat.mod_eq_of_lt c2] at hrsv
    rw [← hrsv] at c1 c2
    generalize pad n (nv ((u.drop i).take n) + W ^ n * c - nv v * g) = rs at *
    have hti : (u.take i).length = i := by rw [List.length_take]; omega
    have hdi : (u.drop (i + n)).length = m + 1 - (i + n) := by rw [List.length_drop]; omega
    have hh1 : i + n < i + n + (m + 1 - (i + n)) := by omega
    have hiq : i < m + 1 - n := by omega
    have hut := hu.get (i + n)
    have sb := sub64_ok (u.getD (i + n) 0) c 0 (by omega)
    obtain ⟨p1, p2⟩ := knuth_sub (b := 0) (g := g) (W_pow_pos n) hlo k2 hV0 hVn k4 k5 c1 c2
    rcases Nat.lt_or_ge (u.getD (i + n) 0) c with hct | hct
    · obtain ⟨p3, p4, p5⟩ := p2 hct
      obtain rfl : c = u.getD (i + n) 0 + 1 := by omega
      rw [show (u.getD (i + n) 0 + W - (u.getD (i + n) 0 + 1) - 0) % W = W - 1 by rw [show u.getD (i + n) 0 + W - (u.getD (i + n) 0 + 1) - 0 = W - 1 by omega]; exact Nat.mod_eq_of_lt (Nat.sub_lt (by decide) (by decide)),
        if_pos (by omega)] at sb
      have hWe : W - 1 + 1 = W := Nat.sub_add_cancel (by decide)
      have hW1 : W - 1 < W := Nat.sub_lt (by decide) (by decide)
      generalize W - 1 = e at sb hWe hW1
      obtain ⟨X, x0, x1, x2, x3, x4, x5, x6, x7⟩ := put_digit (d := e) (show i + n < u.length by omega) hrsl hu hrsL hW1
      have hpr := put_row (X := u.take i ++ rs ++ u.drop (i + n)) (k := i + n) (d := e) (by simp only [List.length_append]; omega)
      rw [x0] at hpr
      simp (disch := omega) only [wk, tis, Int.reduceNe, Int.reduceEq, Int.reduceLT, Int.reduceLE, Int.reduceAdd, Int.reduceSub, Int.reduceNeg, Int.reduceMul, Int.reduceToNat, Nat.reduceSub, Nat.reduceMul, Nat.reduceLeDiff, Nat.reduceAdd, Nat.reduceLT, Nat.reduceEqDiff, reduceCtorEq, ↓reduceIte, natsr_len, natsr_at, Option.getD_some, hF, hrsl, t1]
      refine call_by (sb) (by first | rfl | (simp only [tocvs, tocv, hF, hrsl, t1, hti, hdi, hh1, hiq]; rfl)) (by simp) ?_
      simp (disch := omega) only [wk, tis, Int.reduceNe, Int.reduceEq, Int.reduceLT, Int.reduceLE, Int.reduceAdd, Int.reduceSub, Int.reduceNeg, Int.reduceMul, Int.reduceToNat, Nat.reduceSub, Nat.reduceMul, Nat.reduceLeDiff, Nat.reduceAdd, Nat.reduceLT, Nat.reduceEqDiff, reduceCtorEq, ↓reduceIte, natsr_len, natsr_at, Option.getD_some, hF, hrsl, t1, hti, hdi, hh1, hiq]
      rw [t6]
      have hg0 : 1 ≤ g := by rw [p3]; exact Nat.succ_pos _
      have hgL : g < 18446744073709551616 := hgW
      have hg1 : ((g : Int) - 1) = ((g - 1 : Nat) : Int) := (Int.ofNat_sub hg0).symm
      have hgl : ((g - 1 : Nat) : Int) < 18446744073709551616 := by rw [← hg1]; clear p1 p2 p3; omega
      have hgw := wrap_u64 (n := ((g - 1 : Nat) : Int)) ⟨Int.natCast_nonneg _, hgl⟩
      refine frame_call (fun f H => f 14 = .iv (.int .i64 i) ∧ f 12 = .hs 54 st ∧ f 13 = .hs 59 st2 ∧ f 6 = .iv (.int .i64 n) ∧ f 7 = .iv (.int .i64 s) ∧ f 8 = .iv (.sl (lims v)) ∧ f 15 = .iv (.int .u64 (g - 1 : Nat)) ∧ H 54 = .blk false st 87 1 (lims X) ∧ H 59 = .blk false st2 87 1 (lims q)) ?_ (fun f H hF => ?_)
      · simp (disch := omega) only [wk, tis, Int.reduceNe, Int.reduceEq, Int.reduceLT, Int.reduceLE, Int.reduceAdd, Int.reduceSub, Int.reduceNeg, Int.reduceMul, Int.reduceToNat, Nat.reduceSub, Nat.reduceMul, Nat.reduceLeDiff, Nat.reduceAdd, Nat.reduceLT, Nat.reduceEqDiff, reduceCtorEq, ↓reduceIte, natsr_len, natsr_at, Option.getD_some, hF, hpr, hg1, hgw]
      have ad := laddo_ok rs v hrsL hV (by omega) (by omega)
      rw [hrsl, hvl, Nat.max_self, p5, Nat.add_div_right _ (W_pow_pos n), Nat.div_eq_of_lt (Nat.lt_of_lt_of_le (Nat.mod_lt _ hV0) hVn)] at ad
      have hbl := pad_len n (nv (u.drop i) % nv v + W ^ n)
      have hbL := lim_pad n (nv (u.drop i) % nv v + W ^ n)
      have hbv := nv_pad n (nv (u.drop i) % nv v + W ^ n)
      rw [Nat.add_mod_right, Nat.mod_eq_of_lt (Nat.lt_of_lt_of_le (Nat.mod_lt _ hV0) hVn)] at hbv
      generalize pad n (nv (u.drop i) % nv v + W ^ n) = bk at *
      obtain ⟨Y, z0, z1, z2, z3, z4, z5, z6, z7⟩ := put_digit (d := 0) (show i + n < X.length by omega) hbl x7 hbL (by decide)
      have hqr := put_row (X := X.take i ++ bk ++ X.drop (i + n)) (k := i + n) (d := 0) (by simp only [List.length_append, List.length_take, List.length_drop]; omega)
      rw [z0] at hqr
      refine call_flat ad (by simp only [tocvs, tocv, hF, lims_take, lims_drop, x4]; rfl) (by simp only [lims_len]; simp; omega) (.inr (flat_own2 ..)) ?_
      have hti2 : (X.take i).length = i := by rw [List.length_take]; omega
      have hdi2 : (X.drop (i + n)).length = m + 1 - (i + n) := by rw [List.length_drop]; omega
      have hbg : (X.take i ++ bk ++ X.drop (i + n)).getD (i + n) 0 = e := by
        rw [List.getD_eq_getElem?_getD, List.getElem?_append_right (by simp only [List.length_append]; omega), List.length_append, hti2, hbl, Nat.sub_self, List.getElem?_drop, Nat.add_zero, ← List.getD_eq_getElem?_getD, x5]
      have hrow : (lims (X.take i ++ bk ++ X.drop (i + n))).getD (i + n) [] = [.int .u64 (e : Int)] := by
        rw [lims_at (by simp only [List.length_append]; omega), hbg]
      rw [hrow, splice_one] at hqr
      have hqr' : (lims (X.take i ++ bk ++ X.drop (i + n))).set (i + n) [.int .u64 0] = lims Y := hqr
      have hwr : IntKind.u64.wrap ((e : Int) + 1) = 0 := by
        have h1 : ((e : Int) + 1) = ((e + 1 : Nat) : Int) := rfl
        rw [h1, hWe]; rfl
      simp (disch := omega) only [wk, tis, Int.reduceNe, Int.reduceEq, Int.reduceLT, Int.reduceLE, Int.reduceAdd, Int.reduceSub, Int.reduceNeg, Int.reduceMul, Int.reduceToNat, Nat.reduceSub, Nat.reduceMul, Nat.reduceLeDiff, Nat.reduceAdd, Nat.reduceLT, Nat.reduceEqDiff, reduceCtorEq, ↓reduceIte, natsr_len, natsr_at, Option.getD_some, hF, hbl, t1, hti2, hdi2, hh1, hiq, hrow, hqr', hwr, splice_one]
      rw [x6, k3, Nat.mul_zero, Nat.add_zero, Nat.mul_zero, Nat.add_zero, hbv] at z3
      have hq1 : g - 1 = nv (u.drop i) / nv v := by rw [p3]; rfl
      obtain ⟨y1, y2⟩ := knuth_next (g := g - 1) (by omega) (by omega) (by omega) hT hE rfl hq1
      exact ⟨⟨i, st, st2, Y, q.set i (g - 1), by omega, z7, by omega, hq.set (Nat.lt_of_le_of_lt (Nat.sub_le _ _) hgW), by simp; omega, by rw [z3]; exact Nat.mod_lt _ hV0, by rw [z3]; exact y1, by rw [z2, x2]; exact y2, rfl, rfl, rfl, rfl, rfl⟩, by omega⟩
    · obtain ⟨p3, p4⟩ := p1 hct
      rw [show (u.getD (i + n) 0 + W - c - 0) % W = u.getD (i + n) 0 - c by rw [show u.getD (i + n) 0 + W - c - 0 = u.getD (i + n) 0 - c + W by omega, Nat.add_mod_right]; exact Nat.mod_eq_of_lt (by omega),
        if_neg (by omega)] at sb
      simp (disch := omega) only [wk, tis, Int.reduceNe, Int.reduceEq, Int.reduceLT, Int.reduceLE, Int.reduceAdd, Int.reduceSub, Int.reduceNeg, Int.reduceMul, Int.reduceToNat, Nat.reduceSub, Nat.reduceMul, Nat.reduceLeDiff, Nat.reduceAdd, Nat.reduceLT, Nat.reduceEqDiff, reduceCtorEq, ↓reduceIte, natsr_len, natsr_at, Option.getD_some, hF, hrsl, t1]
      refine call_by (sb) (by first | rfl | (simp only [tocvs, tocv, hF, hrsl, t1, hti, hdi, hh1, hiq]; rfl)) (by simp) ?_
      simp (disch := omega) only [wk, tis, Int.reduceNe, Int.reduceEq, Int.reduceLT, Int.reduceLE, Int.reduceAdd, Int.reduceSub, Int.reduceNeg, Int.reduceMul, Int.reduceToNat, Nat.reduceSub, Nat.reduceMul, Nat.reduceLeDiff, Nat.reduceAdd, Nat.reduceLT, Nat.reduceEqDiff, reduceCtorEq, ↓reduceIte, natsr_len, natsr_at, Option.getD_some, hF, hrsl, t1, hti, hdi, hh1, hiq]
      rw [put_row (by simp only [List.length_append]; omega)]
      obtain ⟨X, x0, x1, x2, x3, x4, x5, x6, x7⟩ := put_digit (d := u.getD (i + n) 0 - c) (show i + n < u.length by omega) hrsl hu hrsL (by omega)
      rw [k3, Nat.mul_zero, Nat.add_zero] at x3
      have x8 := x3.trans p4
      obtain ⟨y1, y2⟩ := knuth_next (g := g) (by omega) (by omega) (by omega) hT hE rfl p3
      exact ⟨⟨i, st, st2, X, q.set i g, by omega, x7, by omega, hq.set hgW, by simp; omega, by rw [x8]; exact Nat.mod_lt _ hV0, by rw [x8]; exact y1, by rw [x2]; exact y2, rfl, rfl, rfl, by rw [x0], rfl⟩, by omega⟩
  · obtain rfl : k = 0 := by omega
    simp only [List.drop_zero] at hR hE
    have hun : nv (u.take n) = nv u := by
      have h1 := vl_split W u (k := n) (by omega)
      have h2 : nv u < W ^ n := Nat.lt_of_lt_of_le hR (by rw [← nv_wd (y * 2 ^ s), ← hvl]; exact Nat.le_of_lt (nv_lt hV))
      simp only [nv] at *
      rcases Nat.eq_zero_or_pos (vl W (u.drop n)) with h | h
      · rw [h, Nat.mul_zero] at h1; exact h1.symm
      · have h3 := Nat.mul_le_mul_left (W ^ n) h
        rw [Nat.mul_succ, Nat.mul_zero, Nat.zero_add] at h3
        omega
    have hal : (u.take n).length = n := by rw [List.length_take]; omega
    have hut := hu.take n
    simp (disch := omega) only [wk, tis, Int.reduceNe, Int.reduceEq, Int.reduceLT, Int.reduceLE, Int.reduceAdd, Int.reduceSub, Int.reduceNeg, Int.reduceMul, Int.reduceToNat, Nat.reduceSub, Nat.reduceMul, Nat.reduceLeDiff, Nat.reduceAdd, Nat.reduceLT, Nat.reduceEqDiff, reduceCtorEq, ↓reduceIte, natsr_len, natsr_at, Option.getD_some, hF]
    refine call_by (nshr_ok (u.take n) s hut (by omega) (by omega)) (by simp only [tocvs, tocv, hF, lims_take, lims_drop, List.drop_zero]; rfl) (by simp only [lims_len]; simp; omega) ?_
    simp (disch := omega) only [wk, tis, Int.reduceNe, Int.reduceEq, Int.reduceLT, Int.reduceLE, Int.reduceAdd, Int.reduceSub, Int.reduceNeg, Int.reduceMul, Int.reduceToNat, Nat.reduceSub, Nat.reduceMul, Nat.reduceLeDiff, Nat.reduceAdd, Nat.reduceLT, Nat.reduceEqDiff, reduceCtorEq, ↓reduceIte, natsr_len, natsr_at, Option.getD_some, hF]
    refine call_by (norm_ok q hq (by omega)) (by simp only [tocvs, tocv, updH, Nat.reduceEqDiff, ↓reduceIte, hF]; rfl) (by simp) ?_
    simp (disch := omega) only [wk, tis, Int.reduceNe, Int.reduceEq, Int.reduceLT, Int.reduceLE, Int.reduceAdd, Int.reduceSub, Int.reduceNeg, Int.reduceMul, Int.reduceToNat, Nat.reduceSub, Nat.reduceMul, Nat.reduceLeDiff, Nat.reduceAdd, Nat.reduceLT, Nat.reduceEqDiff, reduceCtorEq, ↓reduceIte, natsr_len, natsr_at, Option.getD_some, hF]
    have hpv := nv_pad (m + 1) (x * 2 ^ s)
    rw [hU0, Nat.mod_eq_of_lt hUlt, hE] at hpv
    have hps : 0 < 2 ^ s := Nat.pow_pos (by decide)
    have hV0 : 0 < y * 2 ^ s := Nat.zero_lt_of_lt hR
    have eq1 : nv q = x / y := by
      rw [← Nat.mul_div_mul_right x y hps, ← hpv, Nat.mul_comm (nv q), Nat.mul_add_div hV0, Nat.div_eq_of_lt hR, Nat.add_zero]
    have eq2 : nv u = x % y * 2 ^ s := by
      rw [← Nat.mul_mod_mul_right, ← hpv, Nat.mul_comm (nv q), Nat.mul_add_mod, Nat.mod_eq_of_lt hR]
    rw [hun, eq1, eq2, Nat.mul_div_cancel _ hps]
    exact ⟨rfl, rfl⟩
end Go.Proofs.Ythgecppfgdadiaa
