/-
  Contracts of the functions that the law reaches.
-/
import Derived.Test.YtlmkieimciodoaaGreatL39M
import Derived.Test.YtlmkieimciodoaaGreatL36M
set_option maxHeartbeats 2000000
namespace Go.Proofs.YtlmkieimciodoaaGreat
open Go Go.Proofs Go.AL
set_option linter.unusedSimpArgs false
set_option linter.unusedVariables false
theorem vlD_drop {r : List Nat} (h : Dig r) (j : Nat) : vl D16 (r.drop j) = vl D16 r / D16 ^ j := by
  rcases Nat.lt_or_ge r.length j with hj | hj
  · rw [List.drop_eq_nil_of_le (by omega), Nat.div_eq_of_lt (Nat.lt_of_lt_of_le (vlD_lt h) (Nat.pow_le_pow_right (by decide) (by omega)))]; rfl
  · rw [vl_split D16 r hj, Nat.add_mul_div_left _ _ (D_pow_pos j), Nat.div_eq_of_lt, Nat.zero_add]
    have := vlD_lt (h.take j)
    rwa [List.length_take, Nat.min_eq_left hj] at this
theorem vlD_step {r : List Nat} (h : Dig r) (j : Nat) : vl D16 r / D16 ^ j = vl D16 r / D16 ^ (j + 1) * 65536 + r.getD j 0 := by
  rw [dig_at h, Nat.pow_succ, ← Nat.div_div_eq_div_mul]
  have := Nat.div_add_mod (vl D16 r / D16 ^ j) D16
  simp only [D16] at this ⊢
  omega
structure Dvr (b : List Nat) : Prop where
  dig : Dig b
  pos : 0 < b.length
  top : b.getD (b.length - 1) 0 ≠ 0
theorem Dvr.bounds {b : List Nat} (h : Dvr b) : D16 ^ (b.length - 1) ≤ vl D16 b ∧ vl D16 b < (b.getD (b.length - 1) 0 + 1) * D16 ^ (b.length - 1) := by
  have e := vl_take_next D16 b (b.length - 1)
  rw [show b.length - 1 + 1 = b.length by have := h.pos; omega, List.take_length] at e
  have h1 := vlD_lt (h.dig.take (b.length - 1))
  rw [List.length_take, Nat.min_eq_left (by omega)] at h1
  have h2 := Nat.mul_le_mul_left (D16 ^ (b.length - 1)) (Nat.pos_of_ne_zero h.top)
  rw [e]
  constructor
  · omega
  · rw [Nat.add_mul, Nat.one_mul, Nat.mul_comm (b.getD _ _)]; omega
theorem Dvr.vpos {b : List Nat} (h : Dvr b) : 0 < vl D16 b := Nat.lt_of_lt_of_le (D_pow_pos _) h.bounds.1
def kOf (R t s : Nat) : Nat := max 1 (R / D16 ^ s / t)
theorem kOf_le {b : List Nat} (h : Dvr b) {R i : Nat} (hh : vl D16 b * D16 ^ i ≤ R) : kOf R (b.getD (b.length - 1) 0 + 1) (i + b.length - 1) * vl D16 b * D16 ^ i ≤ R := by
  have hb := h.bounds.2
  have hp := h.pos
  generalize b.getD (b.length - 1) 0 + 1 = t at *
  unfold kOf
  rcases Nat.le_total (R / D16 ^ (i + b.length - 1) / t) 1 with h1 | h1
  · rw [Nat.max_eq_left h1, Nat.one_mul]; exact hh
  · rw [Nat.max_eq_right h1]
    have e1 : R / D16 ^ (i + b.length - 1) / t * t ≤ R / D16 ^ (i + b.length - 1) := Nat.div_mul_le_self _ _
    have e2 : R / D16 ^ (i + b.length - 1) * D16 ^ (i + b.length - 1) ≤ R := Nat.div_mul_le_self _ _
    generalize R / D16 ^ (i + b.length - 1) / t = q at *
    generalize R / D16 ^ (i + b.length - 1) = x at *
    have e3 : q * vl D16 b ≤ q * (t * D16 ^ (b.length - 1)) := Nat.mul_le_mul_left _ (Nat.le_of_lt hb)
    have e4 : q * (t * D16 ^ (b.length - 1)) ≤ x * D16 ^ (b.length - 1) := by rw [← Nat.mul_assoc]; exact Nat.mul_le_mul_right _ e1
    have e5 : x * D16 ^ (b.length - 1) * D16 ^ i = x * D16 ^ (i + b.length - 1) := by rw [Nat.mul_assoc, ← Nat.pow_add]; congr 2; omega
    exact Nat.le_trans (Nat.mul_le_mul_right _ (Nat.le_trans e3 e4)) (by rw [e5]; exact e2)
theorem have_lt {b : List Nat} (h : Dvr b) {R i : Nat} (hR : R < vl D16 b * D16 ^ (i + 1)) : R / D16 ^ (i + b.length - 1) < 4294967296 ∧ kOf R (b.getD (b.length - 1) 0 + 1) (i + b.length - 1) ≤ 65536 := by
  have hb := h.bounds.2
  have hp := h.pos
  have ht : b.getD (b.length - 1) 0 + 1 ≤ 65536 := by have := h.dig.get (b.length - 1); simp only [D16] at this; omega
  generalize hte : b.getD (b.length - 1) 0 + 1 = t at *
  have h1 : R < t * D16 * D16 ^ (i + b.length - 1) := by
    refine Nat.lt_of_lt_of_le hR ?_
    have e : t * D16 * D16 ^ (i + b.length - 1) = t * D16 ^ (b.length - 1) * D16 ^ (i + 1) := by
      rw [Nat.mul_assoc, Nat.mul_assoc, ← Nat.pow_add, ← Nat.pow_succ']
      congr 2; omega
    rw [e]
    exact Nat.mul_le_mul_right _ (Nat.le_of_lt hb)
  have h2 : R / D16 ^ (i + b.length - 1) < t * D16 := (Nat.div_lt_iff_lt_mul (D_pow_pos _)).mpr h1
  have h3 : t * D16 ≤ 65536 * 65536 := Nat.mul_le_mul_right _ ht
  refine ⟨Nat.lt_of_lt_of_le h2 h3, ?_⟩
  unfold kOf
  refine Nat.max_le.mpr ⟨by omega, ?_⟩
  exact Nat.le_of_lt (Nat.div_lt_of_lt_mul h2)
theorem higher_ok (r b : List Nat) (i : Nat) (hr : Dig r) (hb : Dig b) (hl : r.length ≤ 2 ^ 42) (hlb : b.length ≤ 2 ^ 42) (hi : i ≤ r.length) :
    AC Tryz.prog 194 [cd r, cd b, ci i] none [cb (decide (vl D16 b * D16 ^ i ≤ vl D16 r))] := by
  refine AC.by_walk (rs := [.tmp 6]) ords Tryz.func194 (by rfl) (by rfl) (by rfl) (by rfl) (by rfl) ?_
  have e : List.take ((r.length : Int) - (i : Int)).toNat (List.drop i r) = List.drop i r := List.take_of_length_le (by rw [List.length_drop]; omega)
  simp (disch := omega) only [wk, tis, seval, reduceCtorEq, Nat.reduceEqDiff, e]
  have m := rcompare_ok (r.drop i) b (fun x hx => hr x (List.mem_of_mem_drop hx)) hb (by rw [List.length_drop]; omega) hlb
  rw [vlD_drop hr] at m
  refine call_by (m) (by rfl) (by simp) ?_
  simp (disch := omega) only [wk, tis, seval, reduceCtorEq, Nat.reduceEqDiff]
  rw [decide_eq_decide, ← Nat.le_div_iff_mul_le (D_pow_pos i)]
  unfold cmpN
  split
  · omega
  · split <;> omega
def hval (H : Hp) (h : Nat) : Nat := match H h with
  | .blk _ _ _ _ rows => vl D16 (rows.map fun r => match r with | [.int _ n] => n.toNat | _ => 0)
  | .none => 0
theorem hval_of {H : Hp} {h st e sz : Nat} {fz : Bool} {l : List Nat} (hh : H h = .blk fz st e sz (nums l)) : hval H h = vl D16 l := by
  unfold hval; rw [hh]
  simp only [nums, List.map_map]
  congr 1
  conv => rhs; rw [← List.map_id l]
  exact List.map_congr_left fun x _ => by simp
def hlen (H : Hp) (h : Nat) : Nat := match H h with
  | .blk _ _ _ _ rows => rows.length
  | .none => 0
theorem hlen_of {H : Hp} {h st e sz : Nat} {fz : Bool} {rows : List (List IV)} (hh : H h = .blk fz st e sz rows) : hlen H h = rows.length := by unfold hlen; rw [hh]
theorem q_step {q : List Nat} {i k : Nat} (h : i < q.length) : vl D16 (q.set i (q.getD i 0 + k)) = vl D16 q + k * D16 ^ i := by
  have e1 := vl_split D16 (q.set i (q.getD i 0 + k)) (k := i + 1) (by simp; omega)
  have e2 := vl_split D16 q (k := i + 1) (by omega)
  rw [drop_set_gt (by omega), vl_take_set D16 h] at e1
  rw [vl_take_next] at e2
  rw [e1, e2, Nat.mul_add, Nat.mul_comm k]
  omega
theorem divide_ok5 (a b : List Nat) (ha : Dig a) (hb : Dvr b) (hla : a.length ≤ 2 ^ 41) (hlb : b.length ≤ 2 ^ 41) (hab : b.length ≤ a.length) :
    AC Tryz.prog 173 [cd a, cd b] none [cd (dn (a.length - b.length + 1) (vl D16 a / vl D16 b)), cd (dgD (vl D16 a % vl D16 b))] := by
  refine AC.by_walk (rs := [.tmp 4, .tmp 5]) ords Tryz.func173 (by rfl) (by rfl) (by rfl) (by rfl) (by rfl) ?_
  have hp := hb.pos
  have hm : ((a.length : Int) - (b.length : Int) + 1).toNat = a.length - b.length + 1 := by omega
  have ht1 : ((b.length : Int) - 1).toNat = b.length - 1 := by omega
  have hlt : ¬ ((a.length : Int) < (b.length : Int)) := by omega
  have htop := hb.dig.get (b.length - 1)
  have htop2 : b.getD (b.length - 1) 0 < 65536 := htop
  have hm2 : (((a.length - b.length + 1 : Nat) : Int)) = (a.length : Int) - (b.length : Int) + 1 := by omega
  simp (disch := omega) only [wk, tis, seval, reduceCtorEq, Nat.reduceEqDiff, hm, ht1, hlt]
  have hVlt := vlD_lt ha
  have hT := hb.bounds.1
  have hTpos := hb.vpos
  have hstart : vl D16 a < vl D16 b * D16 ^ (a.length - b.length + 1) := by
    refine Nat.lt_of_lt_of_le hVlt ?_
    have e : D16 ^ a.length = D16 ^ (b.length - 1) * D16 ^ (a.length - b.length + 1) := by rw [← Nat.pow_add]; congr 1; omega
    rw [e]; exact Nat.mul_le_mul_right _ hT
  generalize hme : a.length - b.length + 1 = m at *
  have hml : m ≤ 2 ^ 42 := by omega
  generalize hV : vl D16 a = V at *
  refine aloop_by (fun f H => ∃ (i1 s13 s28 : Nat) (r q : List Nat), i1 ≤ m ∧ Dig r ∧ Dig q ∧ q.length = m ∧ vl D16 q * vl D16 b + vl D16 r = V ∧ vl D16 r < vl D16 b * D16 ^ i1 ∧ i1 ≤ r.length + 1 ∧ r.length ≤ 2 ^ 42 ∧ (∀ j, j < i1 → q.getD j 0 = 0) ∧ (i1 = 0 → r = dgD (vl D16 r)) ∧ f 9 = .iv (.int .i64 ((i1 : Int) - 1)) ∧ f 6 = .hs 13 s13 ∧ f 7 = .hs 28 s28 ∧ f 1 = .iv (.sl (nums b)) ∧ f 8 = .iv (.int .i64 ((b.getD (b.length - 1) 0 : Nat) + 1)) ∧ H 13 = .blk false s13 3 1 (nums r) ∧ H 28 = .blk false s28 3 1 (nums q)) (fun f H => (intAt f 9 + 1).toNat) ?_ ?_
  · refine ⟨m, 2, 1, a, List.replicate m 0, Nat.le_refl _, ha, Dig.replicate _, by simp, by rw [vl_replicate, Nat.zero_mul, Nat.zero_add, hV], by rw [hV]; exact hstart, by omega, by omega, fun j _ => by simp [List.getD, List.getElem?_replicate]; split <;> rfl, by omega, ?_⟩
    simp (disch := omega) only [wk, tis, seval, reduceCtorEq, Nat.reduceEqDiff, nums_rep]
  rintro f H ⟨i1, s13, s28, r, q, hi1, hr, hq, hql, hv, hlt1, hil, hrl, hz, hfin, hF⟩
  rw [intAt_of hF.1]
  simp (disch := omega) only [wk, tis, seval, reduceCtorEq, Nat.reduceEqDiff, hF]
  refine if_by (fun hge => ?_) (fun hge => ?_)
  · obtain ⟨i, rfl⟩ : ∃ i, i1 = i + 1 := ⟨i1 - 1, by omega⟩
    have hie : ((i + 1 : Nat) : Int) - 1 = (i : Int) := by omega
    rw [hie] at hF
    simp (disch := omega) only [wk, tis, seval, reduceCtorEq, Nat.reduceEqDiff, hF, hie]
    refine aloop_by (fun f H => ∃ (s13 s28 : Nat) (r q : List Nat), (Dig r ∧ Dig q ∧ q.length = m ∧ vl D16 q * vl D16 b + vl D16 r = V ∧ vl D16 r + q.getD i 0 * vl D16 b * D16 ^ i < vl D16 b * D16 ^ (i + 1) ∧ i ≤ r.length ∧ r.length ≤ 2 ^ 42 ∧ ∀ j, j < i → q.getD j 0 = 0) ∧
      f 9 = .iv (.int .i64 i) ∧ f 6 = .hs 13 s13 ∧ f 7 = .hs 28 s28 ∧ f 1 = .iv (.sl (nums b)) ∧ f 8 = .iv (.int .i64 ((b.getD (b.length - 1) 0 : Nat) + 1)) ∧ H 13 = .blk false s13 3 1 (nums r) ∧ H 28 = .blk false s28 3 1 (nums q)) (fun f H => hval H 13) ?_ ?_
    · refine ⟨s13, s28, r, q, ⟨hr, hq, hql, hv, ?_, by omega, hrl, fun j hj => hz j (by omega)⟩, ?_⟩
      · rw [hz i (by omega), Nat.zero_mul, Nat.zero_mul, Nat.add_zero]; exact hlt1
      · simp (disch := omega) only [wk, tis, seval, reduceCtorEq, Nat.reduceEqDiff, hF]
    clear hF hfin hil hrl hz hlt1 hv hql hq hr
    clear r q
    rintro f H ⟨s13, s28, r, q, ⟨hr, hq, hql, hv, hlt1, hil, hrl, hz⟩, hF⟩
    rw [hval_of hF.2.2.2.2.2.1]
    simp (disch := omega) only [wk, tis, seval, reduceCtorEq, Nat.reduceEqDiff, hF]
    have hlt2 : vl D16 r < vl D16 b * D16 ^ (i + 1) := by omega
    obtain ⟨hhl, hkl⟩ := have_lt hb hlt2
    refine call_flat ((higher_ok r b i hr hb.dig hrl (by omega) hil)) (by first | rfl | (simp only [tocvs, tocv, hF]; rfl) | (simp only [tocvs, tocv, toboxes, tobox, updH_at, Nat.reduceEqDiff, ↓reduceIte, hF]; rfl)) (by simp) (.inr (by simp [FlatRes, FlatCV, FlatI])) ?_
    simp (disch := omega) only [wk, tis, seval, reduceCtorEq, Nat.reduceEqDiff, hF]
    by_cases hh : vl D16 b * D16 ^ i ≤ vl D16 r
    · have hlr : i + b.length ≤ r.length := by
        have h1 : D16 ^ (b.length - 1 + i) < D16 ^ r.length := by
          rw [Nat.pow_add]
          exact Nat.lt_of_le_of_lt (Nat.le_trans (Nat.mul_le_mul_right _ hT) hh) (vlD_lt hr)
        have h2 := (Nat.pow_lt_pow_iff_right (by decide : 1 < D16)).mp h1
        omega
      obtain ⟨hx, hxe⟩ : ∃ g : Nat → Nat, g = fun j => vl D16 r / D16 ^ j := ⟨_, rfl⟩
      have hz0 : hx r.length = 0 := by rw [hxe]; exact Nat.div_eq_of_lt (vlD_lt hr)
      have hxs : ∀ j, hx (j + 1) * 65536 + r.getD j 0 = hx j := fun j => by rw [hxe]; exact (vlD_step hr j).symm
      have hxm : ∀ j, i + b.length ≤ j + 1 → hx j ≤ hx (i + b.length - 1) := fun j hj => by rw [hxe]; exact Nat.div_le_div_left (Nat.pow_le_pow_right (by decide) (by omega)) (D_pow_pos _)
      have hxl : hx (i + b.length - 1) < 4294967296 := by rw [hxe]; exact hhl
      have hkle := kOf_le hb hh
      have hkd0 : kOf (vl D16 r) (b.getD (b.length - 1) 0 + 1) (i + b.length - 1) = max 1 (hx (i + b.length - 1) / (b.getD (b.length - 1) 0 + 1)) := by rw [hxe]; rfl
      clear hhl
      simp (disch := omega) only [wk, tis, seval, reduceCtorEq, Nat.reduceEqDiff, hF, hh]
      refine aloop_by (fun f H => ∃ (j1 : Nat), i + b.length ≤ j1 + 1 ∧ j1 ≤ r.length ∧ f 11 = .iv (.int .i64 ((j1 : Int) - 1)) ∧ f 10 = .iv (.int .i64 (hx j1 : Nat)) ∧ f 9 = .iv (.int .i64 i) ∧ f 6 = .hs 13 s13 ∧ f 7 = .hs 28 s28 ∧ f 1 = .iv (.sl (nums b)) ∧ f 8 = .iv (.int .i64 ((b.getD (b.length - 1) 0 : Nat) + 1)) ∧ H 13 = .blk false s13 3 1 (nums r) ∧ H 28 = .blk false s28 3 1 (nums q)) (fun f H => (intAt f 11 + 1).toNat) ?_ ?_
      · refine ⟨r.length, by omega, Nat.le_refl _, ?_⟩
        simp (disch := omega) only [wk, tis, seval, reduceCtorEq, Nat.reduceEqDiff, hF, hz0]
      rintro f H ⟨j1, hj1, hj2, hF⟩
      rw [intAt_of hF.1]
      simp (disch := omega) only [wk, tis, seval, reduceCtorEq, Nat.reduceEqDiff, hF]
      have hdl := hxm j1 hj1
      refine if_by (fun hge2 => ?_) (fun hge2 => ?_)
      · obtain ⟨j, rfl⟩ : ∃ j, j1 = j + 1 := ⟨j1 - 1, by omega⟩
        have hje : ((j + 1 : Nat) : Int) - 1 = (j : Int) := by omega
        have hrd : r.getD j 0 < 65536 := hr.get j
        have hs1 := hxs j
        have hs2 := hxm j (by omega)
        have hst : (hx (j + 1) : Int) * 65536 + ((r.getD j 0 : Nat) : Int) = (hx j : Int) := by omega
        rw [hje] at hF hge2
        simp (disch := omega) only [wk, tis, seval, reduceCtorEq, Nat.reduceEqDiff, hF, hje, hst]
        exact ⟨⟨j, by omega, by omega, rfl, rfl⟩, by omega⟩
      · obtain rfl : j1 = i + b.length - 1 := by omega
        generalize hx (i + b.length - 1) = x at *
        have hq0 : ((x : Nat) : Int).tdiv (((b.getD (b.length - 1) 0 : Nat) : Int) + 1) = ((x / (b.getD (b.length - 1) 0 + 1) : Nat) : Int) := by
          rw [Int.tdiv_eq_ediv_of_nonneg (by omega)]; rfl
        have hq1 : x / (b.getD (b.length - 1) 0 + 1) ≤ x := Nat.div_le_self _ _
        generalize x / (b.getD (b.length - 1) 0 + 1) = y at *
        generalize hkd : kOf (vl D16 r) (b.getD (b.length - 1) 0 + 1) (i + b.length - 1) = k at *
        have hq2 : max (1 : Int) ((y : Nat) : Int) = ((k : Nat) : Int) := by omega
        have hk1 : 1 ≤ k := by omega
        have hiq : i < q.length := by omega
        have hlv : vl D16 (lessD r b k i) = vl D16 r - k * vl D16 b * D16 ^ i := by
          unfold lessD
          rw [vl_dn, Nat.mod_eq_of_lt (Nat.lt_of_le_of_lt (Nat.sub_le _ _) (vlD_lt hr))]
        have hprod : D16 ^ i ≤ k * vl D16 b * D16 ^ i := by
          have := Nat.mul_le_mul_right (D16 ^ i) (Nat.mul_le_mul hk1 hTpos)
          simpa using this
        have hDi := D_pow_pos i
        have hqs := q_step (k := k) hiq
        have hkT : k * D16 ^ i * vl D16 b = k * vl D16 b * D16 ^ i := Nat.mul_right_comm _ _ _
        have hqiT : (q.getD i 0 + k) * vl D16 b * D16 ^ i = q.getD i 0 * vl D16 b * D16 ^ i + k * vl D16 b * D16 ^ i := by rw [Nat.add_mul, Nat.add_mul]
        have hqi : q.getD i 0 + k < D16 := by
          have h1 : (q.getD i 0 + k) * vl D16 b * D16 ^ i < D16 * vl D16 b * D16 ^ i := by
            rw [hqiT]
            have : D16 * vl D16 b * D16 ^ i = vl D16 b * D16 ^ (i + 1) := by rw [Nat.pow_succ]; ac_rfl
            rw [this]; omega
          exact Nat.lt_of_mul_lt_mul_right (Nat.lt_of_mul_lt_mul_right h1)
        have hqk : ((q.getD i 0 : Nat) : Int) + (k : Int) = ((q.getD i 0 + k : Nat) : Int) := by omega
        have hqi2 : q.getD i 0 + k < 65536 := hqi
        have hqset : (q.set i (q.getD i 0 + k)).getD i 0 = q.getD i 0 + k := by simp [List.getD, hiq]
        simp (disch := omega) only [wk, tis, seval, reduceCtorEq, Nat.reduceEqDiff, hF, hq0, hq2]
        refine callw_by ((take_ok r b k i hr hb.dig (by omega) (by omega) hlr hkle)) (by first | rfl | (simp (disch := omega) only [wk, tis, seval, reduceCtorEq, Nat.reduceEqDiff, hF, hqk]; done)) (by first | rfl | (simp (disch := omega) only [wk, tis, seval, reduceCtorEq, Nat.reduceEqDiff, hF, hqk]; done)) (by first | rfl | (simp only [tocvs, tocv, List.set_cons_zero, List.set_cons_succ, hF, hqk]; rfl)) (by simp) (by simp) ?_
        simp (disch := omega) only [wk, tis, seval, reduceCtorEq, Nat.reduceEqDiff, hF, hqk]
        refine ⟨⟨s13, s28, lessD r b k i, q.set i (q.getD i 0 + k), ⟨dn_dig _ _, hq.set hqi, by simpa using hql, ?_, ?_, ?_, ?_, fun j hj => ?_⟩, rfl, rfl, rfl, rfl⟩, ?_⟩
        · rw [hqs, Nat.add_mul, hkT, hlv]; omega
        · rw [hqset, hqiT, hlv]; omega
        · rw [lessD, dn_len]; exact hil
        · rw [lessD, dn_len]; exact hrl
        · have : (q.set i (q.getD i 0 + k)).getD j 0 = q.getD j 0 := by simp only [List.getD, List.getElem?_set, show ¬ i = j by omega, if_false]
          rw [this]; exact hz j hj
        · rw [hval_of (st := s13) (e := 3) (sz := 1) (fz := false) (l := lessD r b k i) (by simp only [updH_at]; rfl), hlv]
          omega
    · have mc := rcut_ok r (by omega)
      rw [dgD_of hr] at mc
      have hdl : (dgD (vl D16 r)).length ≤ r.length := by
        rw [← dgD_of hr, List.length_take]; omega
      have hRi : vl D16 r < vl D16 b * D16 ^ i := by omega
      simp (disch := omega) only [wk, tis, seval, reduceCtorEq, Nat.reduceEqDiff, hF, hh]
      refine call_by (mc) (by first | rfl | (simp only [tocvs, tocv, hF]; rfl) | (simp only [tocvs, tocv, toboxes, tobox, updH_at, Nat.reduceEqDiff, ↓reduceIte, hF]; rfl)) (by simp) ?_
      simp (disch := omega) only [wk, tis, seval, reduceCtorEq, Nat.reduceEqDiff, hF]
      refine aloop_w (.ren 6 82 13 _ _ _ _ (by rfl) (by rfl) (by decide) (.refl _ _)) (fun f H => ∃ (t13 n : Nat), (n = 0 ∨ (dgD (vl D16 r)).length + n ≤ i) ∧ f 9 = .iv (.int .i64 i) ∧ f 6 = .hs 13 t13 ∧ f 7 = .hs 28 s28 ∧ f 1 = .iv (.sl (nums b)) ∧ f 8 = .iv (.int .i64 ((b.getD (b.length - 1) 0 : Nat) + 1)) ∧
        H 13 = .blk false t13 3 1 (nums (dgD (vl D16 r) ++ List.replicate n 0)) ∧ H 28 = .blk false s28 3 1 (nums q)) (fun f H => i - hlen H 13) ?_ ?_
      · refine ⟨s13 + 1, 0, .inl rfl, ?_⟩
        simp (disch := omega) only [wk, tis, seval, reduceCtorEq, Nat.reduceEqDiff, hF, List.replicate_zero]
      rintro f H ⟨t13, n, hn, hF⟩
      rw [hlen_of hF.2.2.2.2.2.1]
      have hll : (dgD (vl D16 r) ++ List.replicate n 0).length = (dgD (vl D16 r)).length + n := by simp
      simp (disch := omega) only [wk, tis, seval, reduceCtorEq, Nat.reduceEqDiff, hF, hll]
      refine if_by (fun hge2 => ?_) (fun hge2 => ?_)
      · simp (disch := omega) only [wk, tis, seval, reduceCtorEq, Nat.reduceEqDiff, hF, hll]
        have e1 : nums (dgD (vl D16 r) ++ List.replicate n 0) ++ [[IV.int IntKind.i64 0]] = nums (dgD (vl D16 r) ++ List.replicate (n + 1) 0) := by
          rw [List.replicate_succ', ← List.append_assoc, ← nums_snoc]; rfl
        rw [e1]
        refine ⟨⟨t13 + 1, n + 1, .inr (by omega), rfl, rfl⟩, ?_⟩
        rw [hlen_of (st := t13 + 1) (e := 3) (sz := 1) (fz := false) (rows := nums (dgD (vl D16 r) ++ List.replicate (n + 1) 0)) (by simp only [updH_at]; rfl), nums_len]
        simp only [List.length_append, List.length_replicate]
        omega
      · simp (disch := omega) only [wk, tis, seval, reduceCtorEq, Nat.reduceEqDiff, hF, hll]
        have hvv : vl D16 (dgD (vl D16 r) ++ List.replicate n 0) = vl D16 r := by rw [vl_append, vl_replicate, Nat.mul_zero, Nat.add_zero, vl_dgD]
        refine ⟨⟨i, t13, s28, dgD (vl D16 r) ++ List.replicate n 0, q, by omega, (dgD_dig _).append (Dig.replicate _), hq, hql, by rw [hvv]; exact hv, by rw [hvv]; exact hRi, by omega, by omega, hz, fun h0 => ?_, rfl, rfl, rfl, rfl, rfl⟩, by omega⟩
        obtain rfl : n = 0 := by omega
        rw [hvv, List.replicate_zero, List.append_nil]
  · obtain rfl : i1 = 0 := by omega
    simp (disch := omega) only [wk, tis, seval, reduceCtorEq, Nat.reduceEqDiff, hF]
    have hr0 : vl D16 r < vl D16 b := by simpa using hlt1
    have hqv : vl D16 q = V / vl D16 b := by
      rw [← hv, Nat.add_comm, Nat.add_mul_div_right _ _ hTpos, Nat.div_eq_of_lt hr0, Nat.zero_add]
    have hrv : vl D16 r = V % vl D16 b := by
      rw [← hv, Nat.add_comm, Nat.add_mul_mod_self_right, Nat.mod_eq_of_lt hr0]
    have e1 : q = dn m (V / vl D16 b) := by
      refine eq_dn hq hql ?_
      rw [← hqv]
      have := vlD_lt hq
      rw [hql] at this
      rw [Nat.mod_eq_of_lt this]
    rw [← hrv, ← hfin rfl, ← e1]
    exact ⟨rfl, rfl⟩
end Go.Proofs.YtlmkieimciodoaaGreat

namespace Go.Proofs.YtlmkieimciodoaaGreat
open Go Go.Proofs Go.AL
set_option linter.unusedSimpArgs false
set_option linter.unusedVariables false
theorem dvr_dgD {y : Nat} (h : y ≠ 0) : Dvr (dgD y) := by
  have hp : 0 < (dgD y).length := by
    rcases Nat.eq_zero_or_pos (dgD y).length with h0 | h0
    · exact absurd (dgD_len_zero.mp h0) h
    · exact h0
  refine ⟨dgD_dig y, hp, fun h0 => ?_⟩
  have e := vl_take_next D16 (dgD y) ((dgD y).length - 1)
  rw [show (dgD y).length - 1 + 1 = (dgD y).length by omega, List.take_length, h0, Nat.mul_zero, Nat.add_zero, vl_dgD] at e
  have h1 := vlD_lt ((dgD_dig y).take ((dgD y).length - 1))
  rw [List.length_take, Nat.min_eq_left (by omega), ← e] at h1
  have := (dg_length_le two_le_D ((dgD y).length - 1) (n := y)).mpr h1
  have h2 : (dg D16 y).length = (dgD y).length := rfl
  omega
theorem divide_short (a b : List Nat) (ha : a.length ≤ 2 ^ 41) (hb : b.length ≤ 2 ^ 41) (h : a.length < b.length) : AC Tryz.prog 173 [cd a, cd b] none [cd [], cd a] := by
  refine AC.by_walk (rs := [.tmp 4, .tmp 5]) ords Tryz.func173 (by rfl) (by rfl) (by rfl) (by rfl) (by rfl) ?_
  have hlt : (a.length : Int) < (b.length : Int) := by omega
  simp (disch := omega) only [wk, tis, seval, reduceCtorEq, Nat.reduceEqDiff, hlt]
theorem divide_g (x y : Nat) (hy : y ≠ 0) (hx : (dgD x).length ≤ 2 ^ 41) (hyl : (dgD y).length ≤ 2 ^ 41) : ∃ q, Dig q ∧ vl D16 q = x / y ∧ q.length ≤ (dgD x).length + 1 ∧ AC Tryz.prog 173 [cd (dgD x), cd (dgD y)] none [cd q, cd (dgD (x % y))] := by
  have hd := dvr_dgD hy
  rcases Nat.lt_or_ge (dgD x).length (dgD y).length with h | h
  · have hlt : x < y := by
      have h1 := vlD_lt (dgD_dig x)
      rw [vl_dgD] at h1
      have h2 := hd.bounds.1
      rw [vl_dgD] at h2
      exact Nat.lt_of_lt_of_le h1 (Nat.le_trans (Nat.pow_le_pow_right (by decide) (by omega)) h2)
    refine ⟨[], Dig.nil, by rw [Nat.div_eq_of_lt hlt]; rfl, by simp, ?_⟩
    rw [Nat.mod_eq_of_lt hlt]
    exact divide_short _ _ hx hyl h
  · have m := divide_ok5 (dgD x) (dgD y) (dgD_dig x) hd hx hyl h
    rw [vl_dgD, vl_dgD] at m
    refine ⟨_, dn_dig _ _, ?_, ?_, m⟩
    · rw [vl_dn]
      refine Nat.mod_eq_of_lt ?_
      have h1 := vlD_lt (dgD_dig x)
      rw [vl_dgD] at h1
      have h2 := hd.bounds.1
      rw [vl_dgD] at h2
      refine (Nat.div_lt_iff_lt_mul (by omega)).mpr (Nat.lt_of_lt_of_le h1 ?_)
      have e : D16 ^ (dgD x).length = D16 ^ ((dgD x).length - (dgD y).length + 1) * D16 ^ ((dgD y).length - 1) := by
        rw [← Nat.pow_add]; congr 1; have := hd.pos; omega
      rw [e]; exact Nat.mul_le_mul_left _ h2
    · rw [dn_len]; have := hd.pos; omega
theorem rQuo_ok (a b : List Nat) (ha : Lim a) (hb : Lim b) (hla : a.length ≤ 2 ^ 38) (hlb : b.length ≤ 2 ^ 38) (h0 : nv b ≠ 0) : AC Tryz.prog 131 [cl a, cl b] none [cl (wd (nv a / nv b)), cl (wd (nv a % nv b))] := by
  refine AC.by_walk (rs := [.tmp 4, .tmp 5]) ords Tryz.func131 (by rfl) (by rfl) (by rfl) (by rfl) (by rfl) ?_
  obtain ⟨x, y, s, h1, h2⟩ := rones_ok a b 63 ha hb (by omega) (by omega) (by omega)
  have h3 := dgD_len ha
  have h4 := dgD_len hb
  simp (disch := omega) only [wk, tis, seval, reduceCtorEq, Nat.reduceEqDiff]
  refine call_by (h1) (by rfl) (by simp) ?_
  simp (disch := omega) only [wk, tis, seval, reduceCtorEq, Nat.reduceEqDiff]
  cases s with
  | true =>
    obtain ⟨rfl, rfl, b1, b2⟩ := h2 rfl
    have e1 : ((nv a : Nat) : Int).tdiv ((nv b : Nat) : Int) = ((nv a / nv b : Nat) : Int) := by rw [Int.tdiv_eq_ediv_of_nonneg (by omega)]; rfl
    have e2 : ((nv a : Nat) : Int).tmod ((nv b : Nat) : Int) = ((nv a % nv b : Nat) : Int) := by rw [Int.tmod_eq_emod_of_nonneg (by omega)]; rfl
    have l1 : nv a / nv b ≤ nv a := Nat.div_le_self _ _
    have l2 : nv a % nv b ≤ nv a := Nat.mod_le _ _
    generalize nv a / nv b = q at *
    generalize nv a % nv b = r at *
    have hqW : q < W := by simp only [W]; omega
    have hrW : r < W := by simp only [W]; omega
    simp (disch := omega) only [wk, tis, seval, reduceCtorEq, Nat.reduceEqDiff, e1, e2, wrap_nat hqW]
    refine ⟨tmps_by (by kernel_rfl), ?_⟩
    refine call_by ((rof_ok q hqW)) (by first | rfl | (simp only [tocvs, tocv, e2]; rfl) | (simp only [tocvs, tocv, toboxes, tobox, updH_at, Nat.reduceEqDiff, ↓reduceIte, e2]; rfl)) (by simp) ?_
    simp (disch := omega) only [wk, tis, seval, reduceCtorEq, Nat.reduceEqDiff, e2]
    refine call_by ((rof_ok r hrW)) (by first | rfl | (simp only [tocvs, tocv, e2]; rfl) | (simp only [tocvs, tocv, toboxes, tobox, updH_at, Nat.reduceEqDiff, ↓reduceIte, e2]; rfl)) (by simp) ?_
    simp (disch := omega) only [wk, tis, seval, reduceCtorEq, Nat.reduceEqDiff, e2]
    first | exact log_by (by kernel_rfl) | refine ⟨log_by (by kernel_rfl), ?_⟩
  | false =>
    simp (disch := omega) only [wk, tis, seval, reduceCtorEq, Nat.reduceEqDiff]
    refine call_by ((rdig_ok a ha (by omega))) (by rfl) (by simp) ?_
    simp (disch := omega) only [wk, tis, seval, reduceCtorEq, Nat.reduceEqDiff]
    refine call_by ((rdig_ok b hb (by omega))) (by rfl) (by simp) ?_
    simp (disch := omega) only [wk, tis, seval, reduceCtorEq, Nat.reduceEqDiff]
    obtain ⟨q, q1, q2, q3, m⟩ := divide_g (nv a) (nv b) h0 (by omega) (by omega)
    refine call_by (m) (by rfl) (by simp) ?_
    simp (disch := omega) only [wk, tis, seval, reduceCtorEq, Nat.reduceEqDiff]
    have m1 := rnumber_ok q q1 (by omega)
    rw [q2] at m1
    have h5 : (dgD (nv a % nv b)).length ≤ 2 ^ 41 := by
      have h6 : nv a % nv b < D16 ^ (dgD (nv b)).length := Nat.lt_of_lt_of_le (Nat.mod_lt _ (by omega)) (by have := vlD_lt (dgD_dig (nv b)); rw [vl_dgD] at this; omega)
      have := (dg_length_le two_le_D (dgD (nv b)).length).mpr h6
      have e : (dg D16 (nv a % nv b)).length = (dgD (nv a % nv b)).length := rfl
      omega
    have m2 := rnumber_ok (dgD (nv a % nv b)) (dgD_dig _) (by omega)
    rw [vl_dgD] at m2
    refine call_by (m1) (by rfl) (by simp) ?_
    simp (disch := omega) only [wk, tis, seval, reduceCtorEq, Nat.reduceEqDiff]
    refine call_by (m2) (by rfl) (by simp) ?_
    simp (disch := omega) only [wk, tis, seval, reduceCtorEq, Nat.reduceEqDiff]
end Go.Proofs.YtlmkieimciodoaaGreat

namespace Go.Proofs.YtlmkieimciodoaaGreat
open Go Go.Proofs Go.AL
set_option linter.unusedSimpArgs false
set_option linter.unusedVariables false
theorem rExact_ok (a b : RI) (ha : Sz (2 ^ 38) a) (hb : Sz (2 ^ 38) b) (h0 : iv b ≠ 0) (hd : iv b ∣ iv a) : AC Tryz.prog 104 [cr a, cr b] none [cz (iv a / iv b)] := by
  refine AC.by_walk (rs := [.cell 4 55]) ords Tryz.func104 (by rfl) (by rfl) (by rfl) (by rfl) (by rfl) ?_
  rw [iv_sg, iv_sg] at hd
  rw [iv_sg] at h0
  have hm := sg_dvd.mp hd
  have hn : nv b.2 ≠ 0 := fun h => h0 (by rw [h]; cases b.1 <;> rfl)
  have m := rQuo_ok a.2 b.2 ha.2 hb.2 ha.1 hb.1 hn
  have hl : (wd (nv a.2 / nv b.2)).length ≤ 2 ^ 38 := Nat.le_trans (Nat.le_trans (wd_len_mono (Nat.div_le_self _ _)) (nv_len ha.2)) ha.1
  have i1 := rI_ok (a.1 != b.1) (wd (nv a.2 / nv b.2)) (lim_wd _) (by omega)
  rw [nv_wd] at i1
  rw [iv_sg, iv_sg, (sg_div hm).1]
  simp (disch := omega) only [wk, tis, seval, reduceCtorEq, Nat.reduceEqDiff, cpoly_len]
  refine call_by (m) (by rfl) (by simp) ?_
  simp (disch := omega) only [wk, tis, seval, reduceCtorEq, Nat.reduceEqDiff, cpoly_len]
  refine call_by (i1) (by rfl) (by simp) ?_
  simp (disch := omega) only [wk, tis, seval, reduceCtorEq, Nat.reduceEqDiff, cpoly_len]
def digAt (f : Fr) (t : Nat) : Nat := match f t with
  | .iv (.sl rows) => vl D16 (rows.map fun r => match r with | [.int _ n] => n.toNat | _ => 0)
  | _ => 0
theorem digAt_of {f : Fr} {t : Nat} {l : List Nat} (h : f t = .iv (.sl (nums l))) : digAt f t = vl D16 l := by
  unfold digAt
  rw [h]
  simp only [nums, List.map_map]
  congr 1
  conv => rhs; rw [← List.map_id l]
  exact List.map_congr_left fun x _ => by simp
theorem dgD_mono {a b : Nat} (h : a ≤ b) : (dgD a).length ≤ (dgD b).length := by
  have h1 := vlD_lt (dgD_dig b)
  rw [vl_dgD] at h1
  exact (dg_length_le two_le_D (dgD b).length (n := a)).mpr (Nat.lt_of_le_of_lt h h1)
theorem rGcd_ok (a b : List Nat) (ha : Lim a) (hb : Lim b) (hla : a.length ≤ 2 ^ 38) (hlb : b.length ≤ 2 ^ 38) : AC Tryz.prog 130 [cl a, cl b] none [cl (wd (Nat.gcd (nv a) (nv b)))] := by
  refine AC.by_walk (rs := [.tmp 4]) ords Tryz.func130 (by rfl) (by rfl) (by rfl) (by rfl) (by rfl) ?_
  obtain ⟨x, y, s, h1, h2⟩ := rones_ok a b 63 ha hb (by omega) (by omega) (by omega)
  have h3 := dgD_len ha
  have h4 := dgD_len hb
  simp (disch := omega) only [wk, tis, seval, reduceCtorEq, Nat.reduceEqDiff, cpoly_len]
  refine call_by (h1) (by rfl) (by simp) ?_
  simp (disch := omega) only [wk, tis, seval, reduceCtorEq, Nat.reduceEqDiff, cpoly_len]
  cases s with
  | true =>
    obtain ⟨rfl, rfl, b1, b2⟩ := h2 rfl
    clear h1 h2
    generalize nv a = x at *
    generalize nv b = y at *
    refine aloop_by (fun f H => ∃ (u v : Nat), Nat.gcd u v = Nat.gcd x y ∧ u < 2 ^ 63 ∧ v < 2 ^ 63 ∧ f 6 = .iv (.int .u64 v) ∧ f 5 = .iv (.int .u64 u) ∧ f 7 = .iv (.bool true)) (fun f H => (intAt f 6).toNat) ?_ ?_
    · refine ⟨x, y, rfl, b1, b2, ?_⟩
      simp (disch := omega) only [wk, tis, seval, reduceCtorEq, Nat.reduceEqDiff, cpoly_len]
    rintro f H ⟨u, v, hg, hu, hv, hF⟩
    rw [intAt_of hF.1]
    simp (disch := omega) only [wk, tis, seval, reduceCtorEq, Nat.reduceEqDiff, cpoly_len, hF]
    by_cases hp : 0 < v
    · have hp' : (0 : Int) < (v : Int) := by omega
      have e2 : ((u : Nat) : Int).tmod ((v : Nat) : Int) = ((u % v : Nat) : Int) := by rw [Int.tmod_eq_emod_of_nonneg (by omega)]; rfl
      have hlt := Nat.mod_lt u hp
      generalize hr : u % v = r at *
      simp (disch := omega) only [wk, tis, seval, reduceCtorEq, Nat.reduceEqDiff, cpoly_len, hF, hp', e2]
      refine ⟨tmps_by (by kernel_rfl), ?_⟩
      first | exact log_by (by kernel_rfl) | refine ⟨log_by (by kernel_rfl), ?_⟩
      refine ⟨⟨v, r, ?_, hv, by omega, rfl, rfl⟩, by omega⟩
      rw [← hg, ← hr, Nat.gcd_comm u v, Nat.gcd_rec v u, Nat.gcd_comm]
    · obtain rfl : v = 0 := by omega
      rw [Nat.gcd_zero_right] at hg
      subst hg
      simp (disch := omega) only [wk, tis, seval, reduceCtorEq, Nat.reduceEqDiff, cpoly_len, hF]
      refine call_by ((rof_ok (Nat.gcd x y) (by simp only [W]; omega))) (by first | rfl | (simp only [tocvs, tocv, hF]; rfl) | (simp only [tocvs, tocv, toboxes, tobox, updH_at, Nat.reduceEqDiff, ↓reduceIte, hF]; rfl)) (by simp) ?_
      simp (disch := omega) only [wk, tis, seval, reduceCtorEq, Nat.reduceEqDiff, cpoly_len, hF]
  | false =>
    clear h2
    refine aloop_by (fun f H => True ∧ f 6 = .iv (.int .u64 y) ∧ f 5 = .iv (.int .u64 x) ∧ f 7 = .iv (.bool false) ∧ f 0 = .iv (.sl (lims a)) ∧ f 1 = .iv (.sl (lims b))) (fun f H => (intAt f 6).toNat) ?_ ?_
    · refine ⟨trivial, ?_⟩
      simp (disch := omega) only [wk, tis, seval, reduceCtorEq, Nat.reduceEqDiff, cpoly_len]
    rintro f H ⟨_, hF⟩
    rw [intAt_of hF.1]
    simp (disch := omega) only [wk, tis, seval, reduceCtorEq, Nat.reduceEqDiff, cpoly_len, hF]
    refine call_by ((rdig_ok a ha (by omega))) (by first | rfl | (simp only [tocvs, tocv, hF]; rfl) | (simp only [tocvs, tocv, toboxes, tobox, updH_at, Nat.reduceEqDiff, ↓reduceIte, hF]; rfl)) (by simp) ?_
    simp (disch := omega) only [wk, tis, seval, reduceCtorEq, Nat.reduceEqDiff, cpoly_len, hF]
    refine call_by ((rdig_ok b hb (by omega))) (by first | rfl | (simp only [tocvs, tocv, hF]; rfl) | (simp only [tocvs, tocv, toboxes, tobox, updH_at, Nat.reduceEqDiff, ↓reduceIte, hF]; rfl)) (by simp) ?_
    simp (disch := omega) only [wk, tis, seval, reduceCtorEq, Nat.reduceEqDiff, cpoly_len, hF]
    generalize nv a = x1 at *
    generalize nv b = y1 at *
    refine aloop_by (fun f H => ∃ u v : Nat, Nat.gcd u v = Nat.gcd x1 y1 ∧ (dgD u).length ≤ 2 ^ 40 ∧ (dgD v).length ≤ 2 ^ 40 ∧ f 8 = .iv (.sl (nums (dgD u))) ∧ f 9 = .iv (.sl (nums (dgD v)))) (fun f H => digAt f 9) ?_ ?_
    · exact ⟨x1, y1, rfl, by omega, by omega, by simp (disch := omega) only [wk, tis, seval, reduceCtorEq, Nat.reduceEqDiff, cpoly_len]⟩
    clear hF
    rintro f H ⟨u, v, hg, hu, hv, hF⟩
    rw [digAt_of hF.2, vl_dgD]
    simp (disch := omega) only [wk, tis, seval, reduceCtorEq, Nat.reduceEqDiff, cpoly_len, hF]
    refine if_by (fun h => ?_) (fun h => ?_)
    · have h0 : v ≠ 0 := fun h1 => by rw [h1, dgD_len_zero.mpr rfl] at h; simp at h
      obtain ⟨q, q1, q2, q3, m⟩ := divide_g u v h0 (by omega) (by omega)
      have hlt := Nat.mod_lt u (Nat.pos_of_ne_zero h0)
      have hml := dgD_mono (Nat.le_of_lt hlt)
      have mc := rcut_ok (dgD (u % v)) (by omega)
      rw [dgD_of (dgD_dig _), vl_dgD] at mc
      simp (disch := omega) only [wk, tis, seval, reduceCtorEq, Nat.reduceEqDiff, cpoly_len, hF]
      refine call_by (m) (by first | rfl | (simp only [tocvs, tocv, hF]; rfl) | (simp only [tocvs, tocv, toboxes, tobox, updH_at, Nat.reduceEqDiff, ↓reduceIte, hF]; rfl)) (by simp) ?_
      simp (disch := omega) only [wk, tis, seval, reduceCtorEq, Nat.reduceEqDiff, cpoly_len, hF]
      refine call_by (mc) (by first | rfl | (simp only [tocvs, tocv, hF]; rfl) | (simp only [tocvs, tocv, toboxes, tobox, updH_at, Nat.reduceEqDiff, ↓reduceIte, hF]; rfl)) (by simp) ?_
      simp (disch := omega) only [wk, tis, seval, reduceCtorEq, Nat.reduceEqDiff, cpoly_len, hF]
      rw [digAt_of rfl, vl_dgD]
      exact ⟨⟨v, u % v, by rw [← hg, Nat.gcd_comm u v, Nat.gcd_rec v u, Nat.gcd_comm], hv, by omega, rfl, rfl⟩, hlt⟩
    · have h0 : v = 0 := dgD_len_zero.mp (by omega)
      subst h0
      rw [Nat.gcd_zero_right] at hg
      subst hg
      have mn := rnumber_ok (dgD (Nat.gcd x1 y1)) (dgD_dig _) (by omega)
      rw [vl_dgD] at mn
      simp (disch := omega) only [wk, tis, seval, reduceCtorEq, Nat.reduceEqDiff, cpoly_len, hF]
      refine call_by (mn) (by first | rfl | (simp only [tocvs, tocv, hF]; rfl) | (simp only [tocvs, tocv, toboxes, tobox, updH_at, Nat.reduceEqDiff, ↓reduceIte, hF]; rfl)) (by simp) ?_
      simp (disch := omega) only [wk, tis, seval, reduceCtorEq, Nat.reduceEqDiff, cpoly_len, hF]
end Go.Proofs.YtlmkieimciodoaaGreat

namespace Go.Proofs.YtlmkieimciodoaaGreat
open Go Go.Proofs Go.AL
set_option linter.unusedSimpArgs false
set_option linter.unusedVariables false
theorem tcontent_ok (p : List RI) (h : RP (2 ^ 40) (2 ^ 38) p) : AC Tryz.prog 103 [cw p] none [cl (wd (gz (pv p)))] := by
  have hl := h.1
  refine AC.by_walk (rs := [.tmp 2]) ords Tryz.func103 (by rfl) (by rfl) (by rfl) (by rfl) (by rfl) ?_
  simp (disch := omega) only [wk, tis, seval, reduceCtorEq, Nat.reduceEqDiff, cpoly_len]
  refine aloop_w (.iv 3 5 1 false 86 1 [] (by simp (disch := omega) only [wk, tis, seval, reduceCtorEq, Nat.reduceEqDiff, cpoly_len]) (by simp (disch := omega) only [wk, tis, seval, reduceCtorEq, Nat.reduceEqDiff, cpoly_len]) (.refl _ _)) (fun f H => ∃ (i : Nat), i ≤ p.length ∧ (wd (gz ((pv p).take i))).length ≤ 2 ^ 38 ∧ f 4 = .iv (.int .i64 i) ∧ f 0 = .iv (.sl (raws p)) ∧ f 3 = .iv (.sl (lims (wd (gz ((pv p).take i)))))) (fun f H => (p.length - intAt f 4).toNat) ?_ ?_
  · refine ⟨0, by omega, by rw [List.take_zero, gz, List.foldl_nil, wd_zero]; exact Nat.zero_le _, ?_⟩
    simp (disch := omega) only [wk, tis, seval, reduceCtorEq, Nat.reduceEqDiff, cpoly_len, List.take_zero, gz, List.foldl_nil, wd_zero, lims_nil]
  rintro f H ⟨i, hi, hs, hF⟩
  rw [intAt_of hF.1]
  simp (disch := omega) only [wk, tis, seval, reduceCtorEq, Nat.reduceEqDiff, cpoly_len, hF]
  refine if_by (fun hlt => ?_) (fun hlt => ?_)
  · have hc := h.get i
    have m := rGcd_ok (wd (gz ((pv p).take i))) (p.getD i (false, [])).2 (lim_wd _) hc.2 hs hc.1
    rw [nv_wd, ← iv_abs, ← cf_pv, ← gz_take (by rw [pv_len]; omega)] at m
    simp (disch := omega) only [wk, tis, seval, reduceCtorEq, Nat.reduceEqDiff, cpoly_len, hF]
    refine call_by (m) (by first | rfl | (simp only [tocvs, tocv, hF]; rfl) | (simp only [tocvs, tocv, toboxes, tobox, updH_at, Nat.reduceEqDiff, ↓reduceIte, hF]; rfl)) (by simp) ?_
    simp (disch := omega) only [wk, tis, seval, reduceCtorEq, Nat.reduceEqDiff, cpoly_len, hF]
    refine ⟨⟨i + 1, by omega, ?_, by omega, rfl⟩, by omega⟩
    rw [gz_take (by rw [pv_len]; omega)]
    rcases Nat.eq_zero_or_pos (cf (pv p) i).natAbs with h0 | h0
    · rw [h0, Nat.gcd_zero_right]; exact hs
    · refine Nat.le_trans (wd_len_mono (Nat.gcd_le_right _ h0)) ?_
      rw [cf_pv, iv_abs]
      exact Nat.le_trans (nv_len hc.2) hc.1
  · simp (disch := omega) only [wk, tis, seval, reduceCtorEq, Nat.reduceEqDiff, cpoly_len, hF]
    rw [List.take_of_length_le (by rw [pv_len]; omega)]
theorem take_snocz (q : List Int) {i : Nat} (h : i < q.length) : q.take (i + 1) = q.take i ++ [cf q i] := by
  rw [List.take_add_one]; congr 1; simp [cf, List.getD, h]
def qpos (q : List Int) : List Int := pdivs (gz q : Int) q
theorem gz_ne {q : List Int} (h : tz q ≠ 0) : gz q ≠ 0 := fun h0 => h (cont_zero_iff.mp (Int.natAbs_eq_zero.mp (by rw [cont_natAbs]; exact h0)))
theorem cf_qpos (q : List Int) (k : Nat) : cf q k = (gz q : Int) * cf (qpos q) k := by
  unfold qpos
  rw [cf_pdivs, Int.mul_ediv_cancel' (gz_dvd q k)]
theorem tpositive_ok (p : List RI) (h : RP (2 ^ 30) (2 ^ 35) p) : AC Tryz.prog 63 [cw p] none [cp (qpos (pv p))] := by
  have n := tN_ok p (h.mono (by omega) (by omega))
  have hPb := h.pv
  generalize pv p = P at *
  have hTb : PB (2 ^ 30) (2 ^ 35) (trimz P) := hPb.trimz
  have rT : RP (2 ^ 30) (2 ^ 35) (cn P) := rp_cn hPb
  have c := tcontent_ok (cn P) (rT.mono (by omega) (by omega))
  have eg : gz (pv (cn P)) = gz P := gz_eq (cf_cn P)
  have hgl := gz_len rT
  rw [eg] at c hgl
  have ri := rI_ok false (wd (gz P)) (lim_wd _) (by omega)
  rw [nv_wd, show sg false (gz P) = (gz P : Int) from rfl] at ri
  have hTl : (trimz P).length = tz P := trimz_len P
  have hl30 := hTb.1
  have hql : (pdivs (gz P : Int) (trimz P)).length = tz P := by unfold pdivs; rw [List.length_map, hTl]
  have hzq : ∀ k, zl (cf (pdivs (gz P : Int) (trimz P)) k) ≤ 2 ^ 35 := fun k => by
    rw [cf_pdivs, cf_trimz]
    exact Nat.le_trans (zl_div (gz_dvd P k)) (hPb.cf k)
  have n2 := tN_ok ((pdivs (gz P : Int) (trimz P)).map canon) ((RP.canon (.of (n := 2 ^ 30) (by omega) hzq)).mono (by omega) (by omega))
  rw [pv_canon, show cp (pdivs (gz P : Int) (trimz P)) = cp (qpos P) from cp_ext fun k => by unfold qpos; rw [cf_pdivs, cf_pdivs, cf_trimz]] at n2
  refine AC.by_walk (rs := [.tmp 2]) ords Tryz.func63 (by rfl) (by rfl) (by rfl) (by rfl) (by rfl) ?_
  simp (disch := omega) only [wk, tis, seval, reduceCtorEq, Nat.reduceEqDiff, cpoly_len]
  refine call_by (n) (by rfl) (by simp) ?_
  simp (disch := omega) only [wk, tis, seval, reduceCtorEq, Nat.reduceEqDiff, cpoly_len]
  refine call_by (c) (by rfl) (by simp) ?_
  simp (disch := omega) only [wk, tis, seval, reduceCtorEq, Nat.reduceEqDiff, cpoly_len]
  refine aloop_nil 4 4 55 2 (by simp (disch := omega) only [wk, tis, seval, reduceCtorEq, Nat.reduceEqDiff, cpoly_len]) (fun f H => ∃ (i st : Nat), i ≤ tz P ∧ f 5 = .iv (.int .i64 i) ∧ f 0 = .iv (.sl (cpoly P)) ∧ f 3 = .iv (.sl (lims (wd (gz P)))) ∧ f 4 = .hs 4 st ∧ H 4 = .blk false st 55 2 (raws (((pdivs (gz P : Int) (trimz P)).take i).map canon))) (fun f H => (tz P - intAt f 5).toNat) ?_ ?_
  · refine ⟨0, 1, by omega, ?_⟩
    simp (disch := omega) only [wk, tis, seval, reduceCtorEq, Nat.reduceEqDiff, cpoly_len, ghostF, ghostH, List.take_zero]
  rintro f H ⟨i, st, hi, hF⟩
  rw [intAt_of hF.1]
  simp (disch := omega) only [wk, tis, seval, reduceCtorEq, Nat.reduceEqDiff, cpoly_len, hF]
  by_cases hlt : i < tz P
  · have hlt' : (i : Int) < (tz P : Int) := by omega
    have hq : (((pdivs (gz P : Int) (trimz P)).take i).map canon).length = i := by rw [List.length_map, List.length_take]; omega
    have e := take_snocz (pdivs (gz P : Int) (trimz P)) (i := i) (by omega)
    rw [cf_pdivs, cf_trimz] at e
    have hat := cpoly_at (q := P) (i := i) hlt
    have hg0 : ((gz P : Nat) : Int) ≠ 0 := by have := gz_ne (q := P) (by omega); omega
    have x := rExact_ok (canon (cf P i)) (canon ((gz P : Nat) : Int)) ((sz_canon _).mono (Nat.le_trans (hPb.cf i) (by omega))) ((sz_canon _).mono (by unfold zl; rw [Int.natAbs_natCast]; omega)) (by rw [iv_canon]; exact hg0) (by rw [iv_canon, iv_canon]; exact gz_dvd P i)
    rw [iv_canon, iv_canon] at x
    simp (disch := omega) only [wk, tis, seval, reduceCtorEq, Nat.reduceEqDiff, cpoly_len, hF, hlt', hq, hat]
    refine ⟨tmps_by (by kernel_rfl), ?_⟩
    refine call_by (ri) (by first | rfl | (simp only [tocvs, tocv, hF, hlt', hq, hat]; rfl) | (simp only [tocvs, tocv, toboxes, tobox, updH_at, Nat.reduceEqDiff, ↓reduceIte, hF, hlt', hq, hat]; rfl)) (by simp) ?_
    simp (disch := omega) only [wk, tis, seval, reduceCtorEq, Nat.reduceEqDiff, cpoly_len, hF, hlt', hq, hat]
    refine call_by (x) (by first | rfl | (simp only [tocvs, tocv, hF, hlt', hq, hat]; rfl) | (simp only [tocvs, tocv, toboxes, tobox, updH_at, Nat.reduceEqDiff, ↓reduceIte, hF, hlt', hq, hat]; rfl)) (by simp) ?_
    simp (disch := omega) only [wk, tis, seval, reduceCtorEq, Nat.reduceEqDiff, cpoly_len, hF, hlt', hq, hat]
    first | exact log_by (by kernel_rfl) | refine ⟨log_by (by kernel_rfl), ?_⟩
    refine ⟨⟨i + 1, st + 1, by omega, ?_⟩, by omega⟩
    rw [e, List.map_append]
    (repeat' apply And.intro) <;> first | rfl | omega
  · have hlt' : ¬ (i : Int) < (tz P : Int) := by omega
    rw [List.take_of_length_le (by omega)] at hF
    simp (disch := omega) only [wk, tis, seval, reduceCtorEq, Nat.reduceEqDiff, cpoly_len, hF, hlt']
    refine call_by (n2) (by first | rfl | (simp only [tocvs, tocv, hF]; rfl) | (simp only [tocvs, tocv, toboxes, tobox, updH_at, Nat.reduceEqDiff, ↓reduceIte, hF]; rfl)) (by simp) ?_
    simp (disch := omega) only [wk, tis, seval, reduceCtorEq, Nat.reduceEqDiff, cpoly_len, hF]
    try rfl
theorem prim_pos {q : List Int} (h : ¬ lc q < 0) : prim q = qpos q := by
  unfold prim qpos cont
  rw [decide_eq_false h]; rfl
theorem prim_neg {q : List Int} (h : lc q < 0) (k : Nat) : cf (prim q) k = cf (pscale (-1) (qpos q)) k := by
  unfold prim qpos cont
  rw [cf_pscale, cf_pdivs, cf_pdivs, decide_eq_true h, show sg true (gz q) = -(gz q : Int) from rfl, Int.ediv_neg]
  omega
theorem tpart14_ok (p : List RI) (h : RP (2 ^ 30) (2 ^ 35) p) : AC Tryz.prog 31 [cw p] none [cp (npr (pv p))] := by
  have n := tpositive_ok p h
  have hPb := h.pv
  generalize pv p = P at *
  have htq : tz (qpos P) = tz P := by
    by_cases h0 : tz P = 0
    · rw [h0]
      refine tz_zero_iff.mpr fun k => ?_
      unfold qpos
      rw [cf_pdivs, tz_zero_iff.mp h0 k, Int.zero_ediv]
    · have hg := gz_ne h0
      rw [← tz_pscale (c := (gz P : Int)) (by omega) (qpos P)]
      exact tz_eq_of_cf fun k => by rw [cf_pscale, Int.mul_comm, ← cf_qpos]
  have hzq : ∀ k, zl (cf (qpos P) k) ≤ 2 ^ 35 := fun k => by
    unfold qpos
    rw [cf_pdivs]
    exact Nat.le_trans (zl_div (gz_dvd P k)) (hPb.cf k)
  have htl : tz P ≤ 2 ^ 30 := Nat.le_trans (tz_le P) hPb.1
  by_cases h0 : tz P = 0
  · rw [← cp_npr, prim_pos (q := P) (by unfold lc; rw [tz_zero_iff.mp h0]; omega)]
    rw [h0] at htq
    refine AC.by_walk (rs := [.tmp 2]) ords Tryz.func31 (by rfl) (by rfl) (by rfl) (by rfl) (by rfl) ?_
    simp (disch := omega) only [wk, tis, seval, reduceCtorEq, Nat.reduceEqDiff, cpoly_len]
    refine call_by (n) (by first | rfl | (simp only [tocvs, tocv, htq]; rfl) | (simp only [tocvs, tocv, toboxes, tobox, updH_at, Nat.reduceEqDiff, ↓reduceIte, htq]; rfl)) (by simp) ?_
    simp (disch := omega) only [wk, tis, seval, reduceCtorEq, Nat.reduceEqDiff, cpoly_len, htq]
    try rfl
  have hg := gz_ne h0
  have e1 : lc P = (gz P : Int) * lc (qpos P) := by
    unfold lc
    rw [htq, ← cf_qpos]
  have hat := cpoly_at (q := qpos P) (i := tz P - 1) (by omega)
  have hcz : cf (qpos P) (tz P - 1) = lc (qpos P) := by unfold lc; rw [htq]
  rw [hcz] at hat
  have s := rSign_ok (canon (lc (qpos P))) ((sz_canon _).mono (Nat.le_trans (hzq _) (by omega)))
  rw [iv_canon] at s
  have e2 : ((tz P : Nat) : Int) - 1 = ((tz P - 1 : Nat) : Int) := by omega
  have hp0 : (0 : Int) < ((tz P : Nat) : Int) := by omega
  have z1 := rZ_ok (-1) (by omega) (by omega)
  by_cases hs : lc P < 0
  · have hs2 : (lc (qpos P)).sign = -1 := by
      refine Int.sign_eq_neg_one_of_neg ?_
      rcases (show lc (qpos P) < 0 ∨ 0 ≤ lc (qpos P) by omega) with h1 | h1
      · exact h1
      · have := Int.mul_nonneg (show (0 : Int) ≤ (gz P : Int) by omega) h1
        omega
    rw [hs2] at s
    have b := tby_g (p := cn (qpos P)) (c := -1) (q := qpos P) ((rp_sb (D := 2 ^ 30) (k := 2 ^ 35) (by omega) hzq).mono (by omega) (by omega)) (Nat.le_trans (zl_le.mpr (by decide : (-1 : Int).natAbs < W ^ 1)) (by omega)) (ps_cn _)
    rw [← cp_npr, show cp (prim P) = cp (pscale (-1) (qpos P)) from cp_ext (prim_neg hs)]
    refine AC.by_walk (rs := [.tmp 2]) ords Tryz.func31 (by rfl) (by rfl) (by rfl) (by rfl) (by rfl) ?_
    simp (disch := omega) only [wk, tis, seval, reduceCtorEq, Nat.reduceEqDiff, cpoly_len]
    refine call_by (n) (by first | rfl | (simp only [tocvs, tocv, htq, hp0, e2, hat]; rfl) | (simp only [tocvs, tocv, toboxes, tobox, updH_at, Nat.reduceEqDiff, ↓reduceIte, htq, hp0, e2, hat]; rfl)) (by simp) ?_
    simp (disch := omega) only [wk, tis, seval, reduceCtorEq, Nat.reduceEqDiff, cpoly_len, htq, hp0, e2, hat]
    refine call_by (s) (by first | rfl | (simp only [tocvs, tocv, htq, hp0, e2, hat]; rfl) | (simp only [tocvs, tocv, toboxes, tobox, updH_at, Nat.reduceEqDiff, ↓reduceIte, htq, hp0, e2, hat]; rfl)) (by simp) ?_
    simp (disch := omega) only [wk, tis, seval, reduceCtorEq, Nat.reduceEqDiff, cpoly_len, htq, hp0, e2, hat]
    refine call_by (z1) (by first | rfl | (simp only [tocvs, tocv, htq, hp0, e2, hat]; rfl) | (simp only [tocvs, tocv, toboxes, tobox, updH_at, Nat.reduceEqDiff, ↓reduceIte, htq, hp0, e2, hat]; rfl)) (by simp) ?_
    simp (disch := omega) only [wk, tis, seval, reduceCtorEq, Nat.reduceEqDiff, cpoly_len, htq, hp0, e2, hat]
    refine call_by (b) (by first | rfl | (simp only [tocvs, tocv, htq, hp0, e2, hat]; rfl) | (simp only [tocvs, tocv, toboxes, tobox, updH_at, Nat.reduceEqDiff, ↓reduceIte, htq, hp0, e2, hat]; rfl)) (by simp) ?_
    simp (disch := omega) only [wk, tis, seval, reduceCtorEq, Nat.reduceEqDiff, cpoly_len, htq, hp0, e2, hat]
    try rfl
  · have hs2 : ¬ (lc (qpos P)).sign < 0 := by
      rw [sign_neg]
      intro h1
      exact hs (by rw [e1]; exact Int.mul_neg_of_pos_of_neg (by omega) h1)
    rw [← cp_npr, prim_pos hs]
    refine AC.by_walk (rs := [.tmp 2]) ords Tryz.func31 (by rfl) (by rfl) (by rfl) (by rfl) (by rfl) ?_
    simp (disch := omega) only [wk, tis, seval, reduceCtorEq, Nat.reduceEqDiff, cpoly_len]
    refine call_by (n) (by first | rfl | (simp only [tocvs, tocv, htq, hp0, e2, hat]; rfl) | (simp only [tocvs, tocv, toboxes, tobox, updH_at, Nat.reduceEqDiff, ↓reduceIte, htq, hp0, e2, hat]; rfl)) (by simp) ?_
    simp (disch := omega) only [wk, tis, seval, reduceCtorEq, Nat.reduceEqDiff, cpoly_len, htq, hp0, e2, hat]
    refine call_by (s) (by first | rfl | (simp only [tocvs, tocv, htq, hp0, e2, hat, hs2]; rfl) | (simp only [tocvs, tocv, toboxes, tobox, updH_at, Nat.reduceEqDiff, ↓reduceIte, htq, hp0, e2, hat, hs2]; rfl)) (by simp) ?_
    simp (disch := omega) only [wk, tis, seval, reduceCtorEq, Nat.reduceEqDiff, cpoly_len, htq, hp0, e2, hat, hs2]
    try rfl
theorem tpart14_g {p : List RI} {A : List Int} (h : RP (2 ^ 30) (2 ^ 35) p) (e : ps (pv p) = ps A) : AC Tryz.prog 31 [cw p] none [cp (npr A)] := by
  have := tpart14_ok p h
  rwa [npr_eq e] at this
theorem tdeg_ok {a : List RI} {A : List Int} (ha : RP (2 ^ 40) (2 ^ 40) a) (ea : ps (pv a) = ps A) : AC Tryz.prog 36 [cw a] none [ci ((tz A : Int) - 1)] := by
  have n := tN_ok a ha
  rw [cp_ps ea] at n
  have ht : tz A ≤ 2 ^ 40 := by rw [← tz_of_ps ea]; exact tz_rp ha
  refine AC.by_walk (rs := [.tmp 2]) ords Tryz.func36 (by rfl) (by rfl) (by rfl) (by rfl) (by rfl) ?_
  simp (disch := omega) only [wk, tis, seval, reduceCtorEq, Nat.reduceEqDiff, cpoly_len]
  refine call_by (n) (by rfl) (by simp) ?_
  simp (disch := omega) only [wk, tis, seval, reduceCtorEq, Nat.reduceEqDiff, cpoly_len]
  try rfl
end Go.Proofs.YtlmkieimciodoaaGreat

namespace Go.Proofs.YtlmkieimciodoaaGreat
open Go Go.Proofs Go.AL
set_option linter.unusedSimpArgs false
set_option linter.unusedVariables false
theorem canon_sg (z : Int) : (canon z).1 = decide (z < 0) := rfl
end Go.Proofs.YtlmkieimciodoaaGreat
