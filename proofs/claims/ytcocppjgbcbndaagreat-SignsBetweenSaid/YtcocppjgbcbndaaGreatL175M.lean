/-
  Contracts of the functions that the law reaches.
-/
import Derived.Test.YtcocppjgbcbndaaGreatL162M
set_option maxHeartbeats 2000000
namespace Go.Proofs.YtcocppjgbcbndaaGreat
open Go Go.Proofs Go.AL
set_option linter.unusedSimpArgs false
set_option linter.unusedVariables false
def vr : Int → List Rat → Nat
  | _, [] => 0
  | s, x :: l => if sgq x = 0 then vr s l else (if s ≠ 0 ∧ sgq x ≠ s then 1 else 0) + vr (sgq x) l
theorem vr_fold : ∀ (l : List Rat) (st : Nat × Int), ((l.map sgq).foldl chs st).1 = st.1 + vr st.2 l
  | [], st => rfl
  | x :: l, st => by
    rw [List.map_cons, List.foldl_cons, vr_fold l, chs_one, chs_two, vr]
    have hs : (sgq x).sign = sgq x := by rcases sgq_cases x with ⟨_, e⟩ | ⟨_, e⟩ | ⟨_, e⟩ <;> rw [e] <;> rfl
    rw [hs]
    by_cases h : sgq x = 0
    · simp only [h, ne_eq, not_true_eq_false, false_and, if_false, if_true]
    · simp only [h, ne_eq, not_false_eq_true, true_and, if_false]
      by_cases h1 : st.2 = 0
      · simp only [h1, not_true_eq_false, false_and, if_false]; omega
      · by_cases h2 : sgq x = st.2
        · simp only [h2, not_true_eq_false, and_false, if_false]; omega
        · simp only [h1, h2, not_false_eq_true, and_self, if_true]; omega
theorem vr_chg (l : List Rat) : chg (l.map sgq) = vr 0 l := by
  have := vr_fold l (0, 0)
  rw [Nat.zero_add] at this
  exact this
theorem vr_tri (s t : Int) (l : List Rat) (hs : s = 0 ∨ s = 1 ∨ s = -1) (ht : t = 1 ∨ t = -1) : vr s l ≤ (if s ≠ 0 ∧ t ≠ s then 1 else 0) + vr t l := by
  induction l with
  | nil => exact Nat.zero_le _
  | cons x l ih =>
    rw [vr, vr]
    by_cases h : sgq x = 0
    · rw [if_pos h, if_pos h]; exact ih
    · rw [if_neg h, if_neg h]
      have hx : sgq x = 1 ∨ sgq x = -1 := by rcases sgq_cases x with ⟨_, e⟩ | ⟨_, e⟩ | ⟨_, e⟩ <;> omega
      generalize sgq x = X at *
      rcases hs with rfl | rfl | rfl <;> rcases ht with rfl | rfl <;> rcases hx with rfl | rfl <;> simp <;> omega
def Mv (u v : Rat) : List Rat → List Rat
  | [] => []
  | [x] => [u * x]
  | x :: y :: l => (u * x + v * y) :: Mv u v (y :: l)
theorem mv_len (u v : Rat) : ∀ l : List Rat, (Mv u v l).length = l.length
  | [] => rfl
  | [x] => rfl
  | x :: y :: l => by rw [Mv, List.length_cons, mv_len u v (y :: l)]; rfl
theorem sgq_between {u v x y : Rat} (hu : 0 ≤ u) (hv : 0 ≤ v) : sgq (u * x + v * y) = 0 ∨ sgq (u * x + v * y) = sgq x ∨ sgq (u * x + v * y) = sgq y := by
  have key : ∀ {w z : Rat}, 0 ≤ w → (0 < w * z ∧ 0 < z) ∨ (w * z = 0) ∨ (w * z < 0 ∧ z < 0) := fun {w z} hw => by
    have h1 := sgq_mul w z
    have hw2 : sgq w = 0 ∨ sgq w = 1 := by
      rcases sgq_cases w with ⟨_, e⟩ | ⟨_, e⟩ | ⟨h, e⟩
      · exact .inr e
      · exact .inl e
      · exact absurd hw (Rat.not_le.mpr h)
    rcases sgq_cases (w * z) with ⟨a, e⟩ | ⟨a, e⟩ | ⟨a, e⟩
    · rcases sgq_cases z with ⟨b, e'⟩ | ⟨b, e'⟩ | ⟨b, e'⟩
      · exact .inl ⟨a, b⟩
      · rw [e, e'] at h1; omega
      · rw [e, e'] at h1; rcases hw2 with h | h <;> rw [h] at h1 <;> omega
    · exact .inr (.inl a)
    · rcases sgq_cases z with ⟨b, e'⟩ | ⟨b, e'⟩ | ⟨b, e'⟩
      · rw [e, e'] at h1; rcases hw2 with h | h <;> rw [h] at h1 <;> omega
      · rw [e, e'] at h1; omega
      · exact .inr (.inr ⟨a, b⟩)
  have pos : ∀ {z : Rat}, 0 < z → sgq z = 1 := fun h => sgq_pos h
  have neg : ∀ {z : Rat}, z < 0 → sgq z = -1 := fun h => sgq_neg h
  rcases key (w := u) (z := x) hu with ⟨a, a'⟩ | a | ⟨a, a'⟩ <;> rcases key (w := v) (z := y) hv with ⟨b, b'⟩ | b | ⟨b, b'⟩
  · exact .inr (.inl (by rw [pos a', pos (by grind)]))
  · exact .inr (.inl (by rw [pos a', pos (by grind)]))
  · rcases sgq_cases (u * x + v * y) with ⟨_, e⟩ | ⟨_, e⟩ | ⟨_, e⟩
    · exact .inr (.inl (by rw [e, pos a']))
    · exact .inl e
    · exact .inr (.inr (by rw [e, neg b']))
  · exact .inr (.inr (by rw [pos b', pos (by grind)]))
  · exact .inl (by rw [a, b, Rat.add_zero, sgq_zero])
  · exact .inr (.inr (by rw [neg b', neg (by grind)]))
  · rcases sgq_cases (u * x + v * y) with ⟨_, e⟩ | ⟨_, e⟩ | ⟨_, e⟩
    · exact .inr (.inr (by rw [e, pos b']))
    · exact .inl e
    · exact .inr (.inl (by rw [e, neg a']))
  · exact .inr (.inl (by rw [neg a', neg (by grind)]))
  · exact .inr (.inl (by rw [neg a', neg (by grind)]))
theorem vr_cons {s : Int} {x : Rat} {l : List Rat} : vr s (x :: l) = if sgq x = 0 then vr s l else (if s ≠ 0 ∧ sgq x ≠ s then 1 else 0) + vr (sgq x) l := rfl
theorem sgq_pm (x : Rat) : sgq x = 0 ∨ sgq x = 1 ∨ sgq x = -1 := by rcases sgq_cases x with ⟨_, e⟩ | ⟨_, e⟩ | ⟨_, e⟩ <;> omega
theorem mv_le {u v : Rat} (hu : 0 ≤ u) (hv : 0 ≤ v) : ∀ (l : List Rat) (s : Int), (s = 0 ∨ s = 1 ∨ s = -1) → vr s (Mv u v l) ≤ vr s l
  | [], _, _ => Nat.le_refl _
  | [x], s, hs => by
    have hb := sgq_between (x := x) (y := 0) hu hv
    rw [show u * x + v * 0 = u * x by grind, sgq_zero] at hb
    rw [Mv, vr_cons, vr_cons]
    rcases hb with e | e | e
    · rw [if_pos e]; exact Nat.zero_le _
    · rw [e]; exact Nat.le_refl _
    · rw [if_pos e]; exact Nat.zero_le _
  | x :: y :: l, s, hs => by
    have ih := fun t ht => mv_le hu hv (y :: l) t ht
    have hz := sgq_between (x := x) (y := y) hu hv
    rw [Mv, vr_cons]
    have hx := sgq_pm x
    have hzz := sgq_pm (u * x + v * y)
    have hy := sgq_pm y
    have tr : ∀ t : Int, t = 1 ∨ t = -1 → vr s (y :: l) ≤ (if s ≠ 0 ∧ t ≠ s then 1 else 0) + vr t (y :: l) := fun t ht => vr_tri s t (y :: l) hs ht
    have h1 : vr s (y :: l) ≤ vr s (x :: y :: l) := by
      rw [vr_cons (x := x)]
      by_cases h : sgq x = 0
      · rw [if_pos h]; exact Nat.le_refl _
      · rw [if_neg h]; exact tr _ (by omega)
    by_cases h : sgq (u * x + v * y) = 0
    · rw [if_pos h]
      exact Nat.le_trans (ih s hs) h1
    · rw [if_neg h]
      rcases hz with e | e | e
      · exact absurd e h
      · rw [e] at h ⊢
        rw [vr_cons (s := s) (x := x), if_neg h]
        exact Nat.add_le_add_left (ih _ hx) _
      · have h2 : sgq y ≠ 0 := by rw [← e]; exact h
        refine Nat.le_trans ?_ h1
        rw [e]
        refine Nat.le_trans (Nat.add_le_add_left (ih _ hy) _) ?_
        have e3 : vr (sgq y) (y :: l) = vr (sgq y) l := by
          rw [vr_cons, if_neg h2, if_neg (fun e => e.2 rfl), Nat.zero_add]
        rw [e3, vr_cons (s := s), if_neg h2]
        exact Nat.le_refl _
def ty (h : Rat) : List Rat → List Rat
  | [] => []
  | c :: q => Mv 1 h (c :: ty h q)
theorem ty_len (h : Rat) : ∀ l : List Rat, (ty h l).length = l.length
  | [] => rfl
  | c :: q => by rw [ty, mv_len, List.length_cons, ty_len h q, List.length_cons]
theorem ty_le {h : Rat} (hh : 0 ≤ h) : ∀ (l : List Rat) (s : Int), (s = 0 ∨ s = 1 ∨ s = -1) → vr s (ty h l) ≤ vr s l
  | [], _, _ => Nat.le_refl _
  | c :: q, s, hs => by
    rw [ty]
    refine Nat.le_trans (mv_le (by decide) hh _ s hs) ?_
    rw [vr_cons, vr_cons]
    by_cases h0 : sgq c = 0
    · rw [if_pos h0, if_pos h0]; exact ty_le hh q s hs
    · rw [if_neg h0, if_neg h0]
      exact Nat.add_le_add_left (ty_le hh q _ (sgq_pm c)) _
theorem cfq_Mv (u v : Rat) : ∀ (l : List Rat) (k : Nat), cfq (Mv u v l) k = u * cfq l k + v * cfq l (k + 1)
  | [], k => by rw [Mv, cfq_nil, cfq_nil]; grind
  | [x], 0 => by
    show u * x = u * x + v * 0
    grind
  | [x], k + 1 => by
    rw [cfq_ge (q := Mv u v [x]) (by show 1 ≤ k + 1; omega), cfq_ge (q := [x]) (by show 1 ≤ k + 1; omega), cfq_ge (q := [x]) (by show 1 ≤ k + 1 + 1; omega)]
    grind
  | x :: y :: l, 0 => rfl
  | x :: y :: l, k + 1 => by
    show cfq (Mv u v (y :: l)) k = _
    rw [cfq_Mv u v (y :: l) k]
    rfl
theorem ty_cmq (h : Rat) : ∀ (l : List Rat) (k : Nat), cfq (ty h l) k = (cmq l (lin h 1)).c k
  | [], k => cfq_nil k
  | c :: q, k => by
    rw [ty, cfq_Mv, cmq_cons, PQ.c_add, PQ.c_C, lin_mul]
    show 1 * cfq (c :: ty h q) k + h * cfq (ty h q) k = _
    rw [ty_cmq h q k]
    cases k with
    | zero =>
      rw [if_pos rfl]
      show 1 * c + h * _ = c + (h * _ + 1 * 0)
      grind
    | succ k =>
      rw [if_neg (by omega)]
      show 1 * cfq (ty h q) k + _ = 0 + (_ + 1 * (cmq q (lin h 1)).c k)
      rw [ty_cmq h q k]
      grind
def cut (n : Nat) (F : PQ) : List Rat := (List.range (n + 1)).map F.c
theorem cut_len (n : Nat) (F : PQ) : (cut n F).length = n + 1 := by simp [cut]
theorem cfq_cut' (n : Nat) (F : PQ) (k : Nat) : cfq (cut n F) k = if k ≤ n then F.c k else 0 := by
  by_cases h : k ≤ n
  · rw [if_pos h, cut, cfq, List.getD, List.getElem?_map, List.getElem?_range (by omega)]; rfl
  · rw [if_neg h, cfq_ge (by rw [cut_len]; omega)]
theorem chq_vr (n : Nat) (F : PQ) : chq n F = vr 0 (cut n F) := by
  rw [← vr_chg]
  unfold chq sgs cut
  rw [List.map_map]
  rfl
theorem list_ext {p q : List Rat} (hl : p.length = q.length) (h : ∀ k, k < p.length → cfq p k = cfq q k) : p = q :=
  List.ext_getElem hl fun k h1 h2 => by
    have := h k h1
    rwa [cfq_lt h1, cfq_lt h2] at this
theorem chq_taylor {p : List Rat} {n : Nat} {a b : Rat} (hp : p.length ≤ n + 1) (hab : a ≤ b) : chq n (cmq p (lin b 1)) ≤ chq n (cmq p (lin a 1)) := by
  have hs : ∀ k, cfq (cut n (cmq p (lin a 1))) k = (cmq p (lin a 1)).c k := fun k => by
    rw [cfq_cut']
    split
    · rfl
    · rw [cmq_deg (lin_deg a 1) p k (by omega)]
  have e := cmq_comp (A := p) (L := cut n (cmq p (lin a 1))) (n := n) (a := a) (w := 1) (u := b - a) (v := 1) hp (by rw [cut_len]; omega) hs
  rw [show a + 1 * (b - a) = b by grind, show (1 : Rat) * 1 = 1 by grind] at e
  rw [chq_vr, chq_vr]
  refine Nat.le_trans (Nat.le_of_eq ?_) (ty_le (h := b - a) (by grind) (cut n (cmq p (lin a 1))) 0 (.inl rfl))
  congr 1
  refine list_ext (by rw [ty_len, cut_len, cut_len]) fun k hk => ?_
  rw [cut_len] at hk
  rw [ty_cmq, e, cfq_cut', if_pos (by omega)]
def Sup (n : Nat) (F : PQ) : Prop := ∀ k, n < k → F.c k = 0
theorem Sup.lin {n : Nat} {F : PQ} (h : Sup n F) (u v : Rat) : Sup (n + 1) (lin u v * F) := fun k hk => by
  obtain ⟨k, rfl⟩ : ∃ j, k = j + 1 := ⟨k - 1, by omega⟩
  rw [lin_mul, h (k + 1) (by omega)]
  show u * 0 + v * F.c k = 0
  rw [h k (by omega)]
  grind
theorem Sup.mono {n m : Nat} {F : PQ} (h : Sup n F) (hn : n ≤ m) : Sup m F := fun k hk => h k (by omega)
theorem chq_stable {n m : Nat} {F : PQ} (h : Sup n F) (hn : n ≤ m) : chq m F = chq n F := by
  unfold chq chg
  rw [chf_ext (p := sgs m F) (q := sgs n F) fun k => by
    rw [cf_sgs, cf_sgs]
    by_cases h1 : k ≤ n
    · rw [if_pos h1, if_pos (by omega)]
    · rw [if_neg h1]
      split
      · rw [h k (by omega), sgq_zero]
      · rfl]
theorem chq_non {n : Nat} {F : PQ} {u v : Rat} (h : Sup n F) (hu : 0 ≤ u) (hv : 0 ≤ v) : chq (n + 1) (lin u v * F) ≤ chq n F := by
  have e1 : chq (n + 1) (lin u v * F) = vr 0 (cut (n + 1) (lin u v * F)).reverse := by
    rw [← vr_chg, List.map_reverse, chg_reverse, vr_chg, chq_vr]
  have e2 : chq n F = vr 0 (0 :: (cut n F).reverse) := by
    rw [vr_cons, if_pos sgq_zero, ← vr_chg, List.map_reverse, chg_reverse, vr_chg, chq_vr]
  rw [e1, e2]
  refine Nat.le_trans (Nat.le_of_eq ?_) (mv_le hu hv (0 :: (cut n F).reverse) 0 (.inl rfl))
  congr 1
  have rev : ∀ (m : Nat) (G : PQ) (k : Nat), k ≤ m → cfq (cut m G).reverse k = G.c (m - k) := fun m G k hk => by
    have hl := cut_len m G
    have h1 : cfq (cut m G).reverse k = cfq (cut m G) (m - k) := by
      simp only [cfq, List.getD]
      rw [List.getElem?_reverse (by omega), hl, show m + 1 - 1 - k = m - k by omega]
    rw [h1, cfq_cut', if_pos (by omega)]
  refine list_ext (by rw [mv_len, List.length_reverse, cut_len, List.length_cons, List.length_reverse, cut_len]) fun k hk => ?_
  rw [List.length_reverse, cut_len] at hk
  rw [rev _ _ k (by omega), cfq_Mv, lin_mul]
  show _ = _ + v * cfq (cut n F).reverse k
  by_cases hk2 : k = n + 1
  · subst hk2
    rw [cfq_ge (q := (cut n F).reverse) (by rw [List.length_reverse, cut_len]; omega), Nat.sub_self]
    show u * F.c 0 + v * 0 = u * cfq (cut n F).reverse n + _
    rw [rev n F n (Nat.le_refl _), Nat.sub_self]
  · rw [rev n F k (by omega), show n + 1 - k = (n - k) + 1 by omega]
    show _ + v * F.c (n - k) = _
    congr 1
    cases k with
    | zero =>
      rw [Nat.sub_zero, h (n + 1) (by omega)]
      rfl
    | succ k =>
      show _ = u * cfq (cut n F).reverse k
      rw [rev n F k (by omega), show n - (k + 1) + 1 = n - k by omega]
theorem int_of (n : Nat) (F : PQ) (h : Sup n F) : ∃ (l : List Int) (t : Rat), 0 < t ∧ ∀ k, (cf l k : Rat) = t * F.c k := by
  refine ⟨clr (cut n F), (cden (cut n F) : Rat), Rat.natCast_pos.mpr (Nat.pos_of_ne_zero (cden_ne _)), fun k => ?_⟩
  rw [cf_clr, cfq_cut', Rat.mul_comm]
  split
  · rfl
  · rw [h k (by omega)]
theorem chg_int {n : Nat} {F : PQ} {l : List Int} {t : Rat} (h : Sup n F) (ht : t ≠ 0) (e : ∀ k, (cf l k : Rat) = t * F.c k) : chg l = chq n F := by
  refine chq_of ht (fun k _ => e k) fun k hk => ?_
  have := e k
  rw [h k hk, Rat.mul_zero] at this
  exact Rat.intCast_inj.mp (by rw [this]; rfl)
theorem lin_int (u v : Rat) : ∃ (x y : Int) (t : Rat), 0 < t ∧ (x : Rat) = t * u ∧ (y : Rat) = t * v := by
  obtain ⟨l, t, ht, e⟩ := int_of 1 (lin u v) (lin_deg u v)
  exact ⟨cf l 0, cf l 1, t, ht, by rw [e, lin_c, if_pos rfl], by rw [e, lin_c, if_neg (by omega), if_pos rfl]⟩
theorem pos_of_mul {t x : Rat} {n : Int} (ht : 0 < t) (e : (n : Rat) = t * x) : (0 < n ↔ 0 < x) ∧ (n < 0 ↔ x < 0) ∧ (n = 0 ↔ x = 0) := by
  have h := congrArg sgq e
  rw [sgq_int, sgq_mul, sgq_pos ht, Int.one_mul] at h
  rcases sgq_cases x with ⟨a, e'⟩ | ⟨a, e'⟩ | ⟨a, e'⟩ <;> rcases sign_cases n with ⟨b, e''⟩ | ⟨b, e''⟩ | ⟨b, e''⟩ <;> rw [e', e''] at h <;> first | omega | (refine ⟨⟨fun _ => ?_, fun _ => ?_⟩, ⟨fun _ => ?_, fun _ => ?_⟩, ⟨fun _ => ?_, fun _ => ?_⟩⟩ <;> first | assumption | omega | grind)
theorem chq_root {n : Nat} {F : PQ} {u v : Rat} (h : Sup n F) (h0 : ∃ k, F.c k ≠ 0) (hu : u < 0) (hv : 0 < v) : chq n F + 1 ≤ chq (n + 1) (lin u v * F) := by
  obtain ⟨l, t, ht, e⟩ := int_of n F h
  obtain ⟨x, y, s, hs, ex, ey⟩ := lin_int u v
  have hx : x < 0 := (pos_of_mul hs ex).2.1.mpr hu
  have hy : 0 < y := (pos_of_mul hs ey).1.mpr hv
  have hl : tz l ≠ 0 := fun e2 => by
    obtain ⟨k, hk⟩ := h0
    have h1 := e k
    rw [tz_zero_iff.mp e2 k] at h1
    rcases Rat.mul_eq_zero.mp h1.symm with h2 | h2
    · exact absurd h2 (Rat.ne_of_gt ht)
    · exact hk h2
  have hr := chg_root (d := y) (n := -x) hy (by omega) (h := l) (q := pmul [-(-x), y] l) hl fun k => rfl
  rw [chg_int h (Rat.ne_of_gt ht) e] at hr
  rw [chg_int (h.lin u v) (t := s * t) (Rat.ne_of_gt (Rat.mul_pos hs ht)) fun k => by
    rw [← cfq_qp, cfq_qp_pmul, ← pq_c, pq_mulq]
    have e1 : pq (qp [-(-x), y]) = PQ.C s * lin u v := by
      rw [lin_scl, ← ex, ← ey, Int.neg_neg]; rfl
    have e2 : pq (qp l) = PQ.C t * F := PQ.ext fun k => by rw [pq_c, cfq_qp, e, PQ.C_mul_c]
    rw [e1, e2, show PQ.C s * lin u v * (PQ.C t * F) = PQ.C (s * t) * (lin u v * F) by rw [PQ.C_mul]; ac_rfl, PQ.C_mul_c]] at hr
  exact hr
end Go.Proofs.YtcocppjgbcbndaaGreat

namespace Go.Proofs.YtcocppjgbcbndaaGreat
open Go Go.Proofs Go.AL
set_option linter.unusedSimpArgs false
set_option linter.unusedVariables false
theorem hq_mul' {U V : PQ} {n m : Nat} {P Q : List Rat} (hP : P.length ≤ m + 1) (hQ : ∀ k, n < k → cfq Q k = 0) : hq U V (m + n) (cfq (mulq P Q)) = hq U V m (cfq P) * hq U V n (cfq Q) := by
  have e : ∀ k, cfq Q k = cfq (Q.take (n + 1)) k := fun k => by
    by_cases h : k < n + 1
    · simp [cfq, List.getD, List.getElem?_take, h]
    · rw [hQ k (by omega), cfq_ge (by rw [List.length_take]; omega)]
  rw [hq_ext (f := cfq (mulq P Q)) (g := cfq (mulq P (Q.take (n + 1)))) (fun k _ => mulq_congr (fun _ => rfl) e k), hq_mul (by rw [List.length_take]; omega) m P hP, hq_ext (f := cfq Q) (g := cfq (Q.take (n + 1))) fun k _ => e k]
theorem qp_support {g : List Int} {k : Nat} (h : tz g = k + 1) : ∀ j, k < j → cfq (qp g) j = 0 := fun j hj => by
  rw [cfq_qp, cf_ge_tz g (by omega)]; rfl
theorem rl_hq {U V : PQ} {g : List Int} {k : Nat} (hg : tz g = k + 1) : ∀ A : List (Int × Int), (∀ r ∈ A, 0 < r.2) → hq U V (A.length + k) (cfq (qp (rlist A g))) = A.foldr (fun r G => hq U V 1 (cfq (qp (rf r))) * G) (hq U V k (cfq (qp g)))
  | [], _ => by
    show hq U V (0 + k) (cfq (qp g)) = _
    rw [Nat.zero_add]; rfl
  | r :: A, h => by
    have hA : ∀ x ∈ A, 0 < x.2 := fun x hx => h x (by simp [hx])
    have ih := rl_hq (U := U) (V := V) hg A hA
    have ht := (rlist_tz (g := g) (by omega) A hA).1
    rw [List.foldr_cons, ← ih, ← hq_mul' (m := 1) (P := qp (rf r)) (by show 2 ≤ 2; omega) (qp_support (k := A.length + k) (by omega)), rlist_cons, List.length_cons, show A.length + 1 + k = 1 + (A.length + k) by omega]
    exact hq_ext fun j _ => cfq_qp_pmul _ _ j
theorem fold_hq {U V : PQ} : ∀ (C : List Int) (g : List Int) (k : Nat), tz g = k + 1 → hq U V (k + 2 * C.length) (cfq (qp (C.foldl (fun q c => pmul q (pfl c)) g))) = C.foldl (fun G c => hq U V 2 (cfq (qp (pfl c))) * G) (hq U V k (cfq (qp g)))
  | [], g, k, _ => rfl
  | c :: C, g, k, h => by
    have t3 : tz (pfl c) = 3 := tz_spec (q := pfl c) (n := 2) (by show (1 : Int) ≠ 0; decide) fun k hk => cf_ge (by show 3 ≤ k; omega)
    have ht : tz (pmul g (pfl c)) = k + 2 + 1 := by rw [tz_pmul (by omega) (by omega)]; omega
    rw [List.foldl_cons, List.foldl_cons, List.length_cons, show k + 2 * (C.length + 1) = (k + 2) + 2 * C.length by omega, fold_hq C _ (k + 2) ht]
    congr 1
    rw [← hq_mul' (m := 2) (P := qp (pfl c)) (by show 3 ≤ 3; omega) (qp_support h), Nat.add_comm 2 k]
    exact hq_ext fun j _ => by rw [cfq_qp, pmul_comm, ← cfq_qp, cfq_qp_pmul]
theorem hq_rf (α β e : Rat) (r : Int × Int) : hq (lin α β) (lin 1 e) 1 (cfq (qp (rf r))) = lin ((r.2 : Rat) * α - (r.1 : Rat)) ((r.2 : Rat) * β - (r.1 : Rat) * e) := by
  rw [hq, hq, PQ.pw_one]
  show PQ.C ((-r.1 : Int) : Rat) * lin 1 e + lin α β * PQ.C (r.2 : Rat) = _
  rw [PQ.mul_comm (lin α β), lin_scl, lin_scl, lin_add, Rat.intCast_neg]
  congr 1 <;> grind
theorem hq_pfl (α β e : Rat) (c : Int) (k : Nat) : (hq (lin α β) (lin 1 e) 2 (cfq (qp (pfl c)))).c k = cfq [α * α + (c : Rat) * α + (c : Rat) * (c : Rat) + 1, 2 * ((c : Rat) * (c : Rat) + 1) * e + (c : Rat) * β + (c : Rat) * e * α + 2 * α * β, ((c : Rat) * (c : Rat) + 1) * e * e + (c : Rat) * e * β + β * β] k := by
  have e0 : hq (lin α β) (lin 1 e) 2 (cfq (qp (pfl c))) = PQ.C ((c : Rat) * (c : Rat) + 1) * (lin 1 e * lin 1 e) + lin α β * (PQ.C (c : Rat) * lin 1 e + lin α β * PQ.C 1) := by
    rw [hq, hq, hq, PQ.pw_one]
    show PQ.C ((c * c + 1 : Int) : Rat) * PQ.pw (lin 1 e) 2 + lin α β * (PQ.C (c : Rat) * lin 1 e + lin α β * PQ.C ((1 : Int) : Rat)) = _
    rw [PQ.pw, PQ.pw_one, Rat.intCast_add, Rat.intCast_mul]
    rfl
  rw [e0, PQ.mul_comm (lin α β) (PQ.C 1), lin_scl, lin_scl, lin_add, PQ.c_add, PQ.C_mul_c, lin_mul, lin_mul]
  match k with
  | 0 =>
    show _ = α * α + (c : Rat) * α + (c : Rat) * (c : Rat) + 1
    simp only [qshift, lin_c, if_true]
    grind
  | 1 =>
    show _ = 2 * ((c : Rat) * (c : Rat) + 1) * e + (c : Rat) * β + (c : Rat) * e * α + 2 * α * β
    simp only [qshift, lin_c, if_true, Nat.one_ne_zero, if_false]
    grind
  | 2 =>
    show _ = ((c : Rat) * (c : Rat) + 1) * e * e + (c : Rat) * e * β + β * β
    simp only [qshift, lin_c, if_true, Nat.one_ne_zero, if_false, show ¬ (2 : Nat) = 0 from by omega, show ¬ (2 : Nat) = 1 from by omega]
    grind
  | k + 3 =>
    rw [cfq_ge (q := [_, _, _]) (by show 3 ≤ k + 3; omega)]
    show _ * (1 * (lin 1 e).c (k + 3) + e * (lin 1 e).c (k + 2)) + (α * (lin _ _).c (k + 3) + β * (lin _ _).c (k + 2)) = 0
    rw [lin_c, lin_c, lin_c, lin_c, if_neg (by omega), if_neg (by omega), if_neg (by omega), if_neg (by omega), if_neg (by omega), if_neg (by omega)]
    grind
theorem rsq (z : Rat) : 0 ≤ z * z := by
  have h := sgq_mul z z
  rcases sgq_cases (z * z) with ⟨a, e⟩ | ⟨a, e⟩ | ⟨a, e⟩
  · exact Rat.le_of_lt a
  · rw [a]; exact Rat.le_refl
  · rw [e] at h
    rcases sgq_pm z with h2 | h2 | h2 <;> rw [h2] at h <;> omega
theorem quad_pos (α c : Rat) : 0 < α * α + c * α + c * c + 1 := by
  have h1 := rsq (2 * α + c)
  have h2 := rsq c
  have h3 : 4 * (α * α + c * α + c * c + 1) = (2 * α + c) * (2 * α + c) + 3 * (c * c) + 4 := by grind
  grind
theorem pw_sup (e : Rat) : ∀ n, Sup n (PQ.pw (lin 1 e) n)
  | 0 => fun k hk => by show (1 : PQ).c k = 0; rw [PQ.c_one, if_neg (by omega)]
  | n + 1 => by rw [PQ.pw, PQ.mul_comm]; exact (pw_sup e n).lin 1 e
theorem hq_sup (α β e : Rat) : ∀ (n : Nat) (f : Nat → Rat), Sup n (hq (lin α β) (lin 1 e) n f)
  | 0, f => fun k hk => by rw [hq, PQ.c_C, if_neg (by omega)]
  | n + 1, f => fun k hk => by
    rw [hq, PQ.c_add, PQ.C_mul_c, pw_sup e (n + 1) k hk, (hq_sup α β e n _).lin α β k hk]
    grind
theorem gl_quad {g l : List Int} (h : GL g) (ho : tz g % 2 = 1) (h0 : 0 < cf l 0) (h3 : tz l = 3) (h2 : 0 < cf l 2) : GL (pmul g l) ∧ tz (pmul g l) = tz g + 2 := by
  have l3 : lc l = cf l 2 := by unfold lc; rw [h3]
  obtain ⟨a, l1, l2⟩ := h.l
  have hn : lc g ≠ 0 := fun e => (sign_pm l1.2.2).elim (fun x => by rw [e] at l2; rw [← l2] at x; exact absurd x (by decide)) (fun x => by rw [e] at l2; rw [← l2] at x; exact absurd x (by decide))
  have low := low_pmul l1 l 0 (cf l 0) ⟨fun j hj => by omega, rfl, by omega⟩
  have lcm := lc_pmul (P := g) (Q := l) hn (by rw [l3]; omega)
  have tzm := tz_pmul (p := g) (q := l) h.tz (by omega)
  refine ⟨⟨cf l 0 * a, ⟨fun j hj => by omega, by rw [pmul_comm]; exact low.2.1, low.2.2⟩, ?_⟩, by omega⟩
  rw [lcm, l3, Int.sign_mul, Int.sign_mul, Int.sign_eq_one_of_pos h0, Int.sign_eq_one_of_pos h2, l2, Int.one_mul, Int.mul_one]
theorem conv_g {α β e : Rat} (hz : ∀ c : Int, 0 < ((c : Rat) * (c : Rat) + 1) * e * e + (c : Rat) * e * β + β * β) : ∀ (C : List Int) (g : List Int) (G : PQ) (t : Rat), GL g → tz g % 2 = 1 → t ≠ 0 → pq (qp g) = PQ.C t * G →
    ∃ g' t', GL g' ∧ tz g' = tz g + 2 * C.length ∧ t' ≠ 0 ∧ pq (qp g') = PQ.C t' * C.foldl (fun G c => hq (lin α β) (lin 1 e) 2 (cfq (qp (pfl c))) * G) G
  | [], g, G, t, h, _, ht, e => ⟨g, t, h, rfl, ht, e⟩
  | c :: C, g, G, t, h, ho, ht, eG => by
    obtain ⟨l, s, hs, es⟩ := int_of 2 _ (hq_sup α β e 2 (cfq (qp (pfl c))))
    have p0 : 0 < cf l 0 := (pos_of_mul hs (es 0)).1.mpr (by rw [hq_pfl]; exact quad_pos α (c : Rat))
    have p2 : 0 < cf l 2 := (pos_of_mul hs (es 2)).1.mpr (by rw [hq_pfl]; exact hz c)
    have t3 : tz l = 3 := tz_spec (n := 2) (by omega) fun k hk => by
      have := es k
      rw [hq_sup α β e 2 _ k hk, Rat.mul_zero] at this
      exact Rat.intCast_inj.mp (by rw [this]; rfl)
    obtain ⟨g1, g2⟩ := gl_quad h ho p0 t3 p2
    obtain ⟨g', t', r1, r2, r3, r4⟩ := conv_g hz C (pmul g l) (hq (lin α β) (lin 1 e) 2 (cfq (qp (pfl c))) * G) (s * t) g1 (by omega) (by
      intro e2
      rcases Rat.mul_eq_zero.mp e2 with e2 | e2
      · exact absurd e2 (Rat.ne_of_gt hs)
      · exact ht e2) (by
      have e1 : pq (qp l) = PQ.C s * hq (lin α β) (lin 1 e) 2 (cfq (qp (pfl c))) := PQ.ext fun k => by rw [pq_c, cfq_qp, es, PQ.C_mul_c]
      have e3 : pq (qp (pmul g l)) = pq (qp g) * pq (qp l) := by rw [← pq_mulq]; exact PQ.ext fun k => cfq_qp_pmul _ _ k
      rw [e3, eG, e1, PQ.C_mul]
      ac_rfl)
    exact ⟨g', t', r1, by rw [r2, g2, List.length_cons]; omega, r3, r4⟩
theorem conv_A {u v : Int × Int → Rat} {G : PQ} {g : List Int} {t0 : Rat} (ht0 : t0 ≠ 0) (hG : pq (qp g) = PQ.C t0 * G) : ∀ A : List (Int × Int), (∀ r ∈ A, 0 < v r ∨ (u r < 0 ∧ v r ≤ 0)) →
    ∃ (A' : List (Int × Int)) (t : Rat), t ≠ 0 ∧ (∀ r ∈ A', 0 < r.2) ∧ npos A' = A.countP (fun r => decide (u r < 0 ∧ 0 < v r)) ∧ pq (qp (rlist A' g)) = PQ.C t * A.foldr (fun r G => lin (u r) (v r) * G) G
  | [], _ => ⟨[], t0, ht0, (fun r hr => by cases hr), rfl, hG⟩
  | r :: A, h => by
    obtain ⟨A', t, i1, i2, i3, i4⟩ := conv_A ht0 hG A fun x hx => h x (by simp [hx])
    rw [List.countP_cons, List.foldr_cons]
    generalize A.foldr (fun r G => lin (u r) (v r) * G) G = F at *
    have mul0 : ∀ {a b : Rat}, a ≠ 0 → b ≠ 0 → a * b ≠ 0 := fun ha hb e => by
      rcases Rat.mul_eq_zero.mp e with e | e
      · exact ha e
      · exact hb e
    have step : ∀ (x y : Int) (s : Rat), PQ.C s * lin (u r) (v r) = lin (x : Rat) (y : Rat) → pq (qp (rlist ((-x, y) :: A') g)) = PQ.C (s * t) * (lin (u r) (v r) * F) := fun x y s e => by
      have e1 : pq (qp (rf (-x, y))) = lin (x : Rat) (y : Rat) := by
        show pq (qp [-(-x), y]) = _
        rw [Int.neg_neg]; rfl
      have e3 : pq (qp (rlist ((-x, y) :: A') g)) = pq (qp (rf (-x, y))) * pq (qp (rlist A' g)) := by
        rw [← pq_mulq]; exact PQ.ext fun k => cfq_qp_pmul _ _ k
      rw [e3, e1, i4, ← e, PQ.C_mul]
      ac_rfl
    by_cases hv : 0 < v r
    · obtain ⟨x, y, s, hs, ex, ey⟩ := lin_int (u r) (v r)
      have hy : 0 < y := (pos_of_mul hs ey).1.mpr hv
      have hx := (pos_of_mul hs ex).2.1
      refine ⟨(-x, y) :: A', s * t, mul0 (Rat.ne_of_gt hs) i1, fun z hz => ?_, ?_, step x y s (by rw [lin_scl, ← ex, ← ey])⟩
      · rcases List.mem_cons.1 hz with rfl | hz
        · exact hy
        · exact i2 z hz
      · rw [npos_cons, i3]
        congr 1
        by_cases hu : u r < 0
        · rw [decide_eq_true ⟨hu, hv⟩, if_pos (show (0 : Int) < -x by have := hx.mpr hu; omega)]; rfl
        · rw [decide_eq_false (fun e => hu e.1), if_neg (show ¬ (0 : Int) < -x from fun e => hu (hx.mp (by omega)))]; rfl
    · obtain ⟨hu, hv2⟩ := (h r (by simp)).resolve_left hv
      have hcnt : (decide (u r < 0 ∧ 0 < v r)) = false := decide_eq_false fun e => hv e.2
      by_cases h0 : v r = 0
      · refine ⟨A', t * (u r)⁻¹, ?_, i2, by rw [i3, hcnt]; rfl, ?_⟩
        · refine mul0 i1 fun e => ?_
          have := Rat.mul_inv_cancel _ (Rat.ne_of_lt hu)
          rw [e, Rat.mul_zero] at this
          exact absurd this (by decide)
        · rw [i4, h0, ← C_lin, ← PQ.mul_assoc, ← PQ.C_mul, Rat.mul_assoc, Rat.inv_mul_cancel _ (Rat.ne_of_lt hu), Rat.mul_one]
      · have hv3 : v r < 0 := by grind
        obtain ⟨x, y, s, hs, ex, ey⟩ := lin_int (-(u r)) (-(v r))
        have hy : 0 < y := (pos_of_mul hs ey).1.mpr (by grind)
        have hx : 0 < x := (pos_of_mul hs ex).1.mpr (by grind)
        refine ⟨(-x, y) :: A', -s * t, mul0 (fun e => Rat.ne_of_gt hs (by grind)) i1, fun z hz => ?_, ?_, step x y (-s) (by rw [lin_scl, ex, ey]; congr 1 <;> grind)⟩
        · rcases List.mem_cons.1 hz with rfl | hz
          · exact hy
          · exact i2 z hz
        · rw [npos_cons, i3, hcnt, if_neg (show ¬ (0 : Int) < -x by omega)]; rfl
theorem dcount {A : List (Int × Int)} {C : List Int} {f0 : Int} {T : List Int} {n : Nat} {α β e : Rat} (hA : ∀ r ∈ A, 0 < r.2) (hf : f0 ≠ 0) (hT : ∀ k, cf T k = cf (rlist A (C.foldl (fun q c => pmul q (pfl c)) [f0])) k) (hn : n = A.length + 2 * C.length)
    (hz : ∀ c : Int, 0 < ((c : Rat) * (c : Rat) + 1) * e * e + (c : Rat) * e * β + β * β)
    (huv : ∀ r ∈ A, 0 < (r.2 : Rat) * β - (r.1 : Rat) * e ∨ ((r.2 : Rat) * α - (r.1 : Rat) < 0 ∧ (r.2 : Rat) * β - (r.1 : Rat) * e ≤ 0)) :
    let F := hq (lin α β) (lin 1 e) n (cfq (qp T))
    let N := A.countP fun r => decide ((r.2 : Rat) * α - (r.1 : Rat) < 0 ∧ 0 < (r.2 : Rat) * β - (r.1 : Rat) * e)
    N ≤ chq n F ∧ chq n F % 2 = N % 2 ∧ (C = [] → chq n F = N) := by
  intro F N
  have t1 : tz [f0] = 1 := tz_spec (q := [f0]) (n := 0) hf fun k hk => cf_ge (by show 1 ≤ k; omega)
  have G0 : GL [f0] := ⟨f0, ⟨fun j hj => by omega, rfl, hf⟩, by unfold lc; rw [t1]; rfl⟩
  obtain ⟨hgl, hgt⟩ := gl_fold C [f0] G0 (by omega)
  obtain ⟨g', t', r1, r2, r3, r4⟩ := conv_g (α := α) hz C [f0] (hq (lin α β) (lin 1 e) 0 (cfq (qp [f0]))) 1 G0 (by omega) (by decide) (by
    rw [PQ.C_one, PQ.one_mul]
    exact pq_const _)
  obtain ⟨A', t, s1, s2, s3, s4⟩ := conv_A (u := fun r => (r.2 : Rat) * α - (r.1 : Rat)) (v := fun r => (r.2 : Rat) * β - (r.1 : Rat) * e) r3 r4 A huv
  have hFe : F = A.foldr (fun r G => lin ((r.2 : Rat) * α - (r.1 : Rat)) ((r.2 : Rat) * β - (r.1 : Rat) * e) * G) (C.foldl (fun G c => hq (lin α β) (lin 1 e) 2 (cfq (qp (pfl c))) * G) (hq (lin α β) (lin 1 e) 0 (cfq (qp [f0])))) := by
    show hq (lin α β) (lin 1 e) n (cfq (qp T)) = _
    rw [hq_ext (g := cfq (qp (rlist A (C.foldl (fun q c => pmul q (pfl c)) [f0])))) fun k _ => by rw [cfq_qp, cfq_qp, hT], hn, rl_hq (k := 2 * C.length) (by omega) A hA]
    have e1 := fold_hq (U := lin α β) (V := lin 1 e) C [f0] 0 t1
    rw [Nat.zero_add] at e1
    rw [e1]
    congr 1
    funext r G
    rw [hq_rf]
  rw [← hFe] at s4
  have hch : chg (rlist A' g') = chq n F := chg_int (hq_sup α β e n _) s1 fun k => by rw [← cfq_qp, ← pq_c, s4, PQ.C_mul_c]
  obtain ⟨d1, d2, _, _, _, d6⟩ := descartes s2 r1 (by omega) (rfl : ps (rlist A' g') = _)
  rw [hch, s3] at d1 d2
  rw [hch, s3] at d6
  exact ⟨d1, d2, fun hC => (d6 (by rw [r2, t1, hC]; rfl)).1⟩
theorem cmq_mulq (p q : List Rat) (Q : PQ) : cmq (mulq p q) Q = cmq p Q * cmq q Q := by
  have hl := mulq_len p q
  rw [← hq_one Q (p.length + q.length) (mulq p q) (by omega), ← hq_one Q p.length p (by omega), ← hq_one Q q.length q (by omega)]
  exact hq_mul (by omega) _ _ (by omega)
theorem cmq_rf (c : Rat) (r : Int × Int) : cmq (qp (rf r)) (lin c 1) = lin ((r.2 : Rat) * c - (r.1 : Rat)) (r.2 : Rat) := by
  show PQ.C ((-r.1 : Int) : Rat) + lin c 1 * (PQ.C (r.2 : Rat) + lin c 1 * 0) = _
  rw [PQ.mul_zero, PQ.add_zero, PQ.mul_comm, lin_scl, C_lin, lin_add, Rat.intCast_neg]
  congr 1 <;> grind
theorem cmq_trim (c : Rat) (X : List Int) : cmq (qp X) (lin c 1) = cmq (qp (trimz X)) (lin c 1) := cmq_ext fun k => by rw [cfq_qp, cfq_qp, cf_trimz]
theorem budan_le {a b : Rat} (hab : a ≤ b) : ∀ (A : List (Int × Int)) (g : List Int) (n : Nat), (∀ r ∈ A, 0 < r.2) → tz g ≠ 0 → n + 1 = A.length + tz g →
    A.countP (fun r => decide ((r.2 : Rat) * a - (r.1 : Rat) < 0 ∧ 0 ≤ (r.2 : Rat) * b - (r.1 : Rat))) + chq n (cmq (qp (rlist A g)) (lin b 1)) ≤ chq n (cmq (qp (rlist A g)) (lin a 1))
  | [], g, n, _, hg, hn => by
    show 0 + chq n (cmq (qp g) (lin b 1)) ≤ chq n (cmq (qp g) (lin a 1))
    rw [Nat.zero_add, cmq_trim b, cmq_trim a]
    exact chq_taylor (by simp only [qp, List.length_map, trimz_len]; simp only [List.length_nil] at hn; omega) hab
  | r :: A, g, n, hA, hg, hn => by
    have hA' : ∀ x ∈ A, 0 < x.2 := fun x hx => hA x (by simp [hx])
    have hr := hA r (by simp)
    have hrq : (0 : Rat) < (r.2 : Rat) := by
      have := sgq_int r.2
      rw [Int.sign_eq_one_of_pos hr] at this
      rcases sgq_cases (r.2 : Rat) with ⟨h, _⟩ | ⟨_, h⟩ | ⟨_, h⟩
      · exact h
      · omega
      · omega
    rw [List.countP_cons]
    rw [List.length_cons] at hn
    by_cases hin : (r.2 : Rat) * a - (r.1 : Rat) < 0 ∧ 0 ≤ (r.2 : Rat) * b - (r.1 : Rat)
    · rw [decide_eq_true hin, if_pos rfl]
      obtain ⟨m, rfl⟩ : ∃ m, n = m + 1 := ⟨n - 1, by omega⟩
      have ih := budan_le hab A g m hA' hg (by omega)
      have ht := (rlist_tz hg A hA').1
      have ep : ∀ c : Rat, cmq (qp (rlist (r :: A) g)) (lin c 1) = lin ((r.2 : Rat) * c - (r.1 : Rat)) (r.2 : Rat) * cmq (qp (rlist A g)) (lin c 1) := fun c => by
        rw [← cmq_rf, ← cmq_mulq]
        exact cmq_ext fun k => cfq_qp_pmul _ _ k
      have hl : (qp (trimz (rlist A g))).length = m + 1 := by simp only [qp, List.length_map, trimz_len]; omega
      have hsup : ∀ c : Rat, Sup m (cmq (qp (rlist A g)) (lin c 1)) := fun c k hk => by
        rw [cmq_trim, cmq_deg (lin_deg c 1) _ k (by omega)]
      have hne : (cmq (qp (rlist A g)) (lin a 1)).c m ≠ 0 := by
        rw [cmq_trim, cmq_top m _ hl, one_powq, Rat.mul_one, cfq_qp, cf_trimz]
        intro e
        have h0 : cf (rlist A g) m = 0 := Rat.intCast_inj.mp (by rw [e]; rfl)
        have := tz_le_of (q := rlist A g) (n := m) fun k hk => by
          by_cases h : k = m
          · rw [h]; exact h0
          · exact cf_ge_tz _ (by omega)
        omega
      have h1 := chq_root (hsup a) ⟨m, hne⟩ hin.1 hrq
      have h2 := chq_non (hsup b) hin.2 (Rat.le_of_lt hrq)
      rw [ep, ep]
      omega
    · rw [decide_eq_false hin, if_neg (by decide), Nat.add_zero]
      have hrt : tz (rf r) = 2 := (tz_rf hr).1
      have ht : tz (pmul (rf r) g) = tz g + 1 := by rw [tz_pmul (by omega) hg]; omega
      have ih := budan_le hab A (pmul (rf r) g) n hA' (by omega) (by omega)
      have es : ∀ c : Rat, cmq (qp (rlist (r :: A) g)) (lin c 1) = cmq (qp (rlist A (pmul (rf r) g))) (lin c 1) := fun c => cmq_ext fun k => by
        rw [cfq_qp, cfq_qp]
        congr 1
        refine ps_eq ?_ k
        rw [rl_mul, rlist_cons, ps_pmul]
      rw [es, es]
      exact ih
end Go.Proofs.YtcocppjgbcbndaaGreat

namespace Go.Proofs.YtcocppjgbcbndaaGreat
open Go Go.Proofs Go.AL
set_option linter.unusedSimpArgs false
set_option linter.unusedVariables false
theorem sgq_lt {z : Rat} : (sgq z < 0 ↔ z < 0) ∧ (sgq z = 0 ↔ z = 0) ∧ (0 < sgq z ↔ 0 < z) := by
  rcases sgq_cases z with ⟨a, e⟩ | ⟨a, e⟩ | ⟨a, e⟩ <;> rw [e] <;> refine ⟨⟨fun _ => ?_, fun _ => ?_⟩, ⟨fun _ => ?_, fun _ => ?_⟩, ⟨fun _ => ?_, fun _ => ?_⟩⟩ <;> first | assumption | omega | grind
theorem rt_u (r : Int × Int) (c : Rat) : sgq (((rt r).2 : Rat) * c - ((rt r).1 : Rat)) = sgq (c - rtq r) := by
  have en : rtq r * ((rtq r).den : Rat) = ((rtq r).num : Rat) := by
    have h1 : ((rtq r).num : Rat) / ((rtq r).den : Rat) = rtq r := by rw [← Rat.mkRat_eq_div]; exact Rat.mkRat_self _
    have h2 := Rat.div_mul_cancel (a := ((rtq r).num : Rat)) (natr_ne (rtq r).den_nz)
    rwa [h1] at h2
  show sgq ((((rtq r).den : Int) : Rat) * c - ((rtq r).num : Rat)) = _
  rw [Rat.intCast_natCast, ← en, show ((rtq r).den : Rat) * c - rtq r * ((rtq r).den : Rat) = ((rtq r).den : Rat) * (c - rtq r) by grind, sgq_mul, sgq_pos (Rat.natCast_pos.mpr (rtq r).den_pos), Int.one_mul]
theorem sgq_negs (z : Rat) : sgq (-z) = -sgq z := by
  have := sgq_mul (-1) z
  rw [show (-1 : Rat) * z = -z by grind, show sgq (-1) = -1 by decide +kernel] at this
  omega
theorem cntk_map (R : List (Int × Int)) (u v : Rat) (low high : Bool) (P : Int × Int → Bool) (h : ∀ r, cnd (lor u r) (hir v r) low high = P (rt r)) : cntk R u v low high 6 = (rts R).countP P := by
  unfold cntk rts
  rw [List.countP_map]
  congr 1
  funext r
  exact h r
theorem cnt_open (R : List (Int × Int)) (a b : Rat) : cntk R a b false false 6 = (rts R).countP fun r => decide ((r.2 : Rat) * a - (r.1 : Rat) < 0 ∧ 0 < (r.2 : Rat) * b - (r.1 : Rat) * 1) := cntk_map R a b false false _ fun r => by
  have h1 := rt_u r a
  have h2 := rt_u r b
  have h3 := sgq_negs (b - rtq r)
  rw [show -(b - rtq r) = rtq r - b by grind] at h3
  unfold cnd lor hir
  simp only [Bool.false_and, Bool.or_false, ← Bool.decide_and]
  refine decide_eq_decide.mpr ?_
  rw [Rat.mul_one, ← (sgq_lt (z := ((rt r).2 : Rat) * a - ((rt r).1 : Rat))).1, ← (sgq_lt (z := ((rt r).2 : Rat) * b - ((rt r).1 : Rat))).2.2, h1, h2, h3]
  omega
theorem cnt_half (R : List (Int × Int)) (a b : Rat) : cntk R a b false true 6 = (rts R).countP fun r => decide ((r.2 : Rat) * a - (r.1 : Rat) < 0 ∧ 0 ≤ (r.2 : Rat) * b - (r.1 : Rat)) := cntk_map R a b false true _ fun r => by
  have h1 := rt_u r a
  have h2 := rt_u r b
  have h3 := sgq_negs (b - rtq r)
  rw [show -(b - rtq r) = rtq r - b by grind] at h3
  unfold cnd lor hir
  simp only [Bool.false_and, Bool.true_and, Bool.or_false, ← Bool.decide_or, ← Bool.decide_and]
  refine decide_eq_decide.mpr ?_
  have h4 : 0 ≤ ((rt r).2 : Rat) * b - ((rt r).1 : Rat) ↔ ¬ sgq (((rt r).2 : Rat) * b - ((rt r).1 : Rat)) < 0 := by
    rw [sgq_lt.1]; exact Rat.not_lt.symm
  rw [h4, ← (sgq_lt (z := ((rt r).2 : Rat) * a - ((rt r).1 : Rat))).1, h1, h2, h3]
  omega
theorem countP_split {α : Type} (p q s : α → Bool) (h : ∀ x, p x = (q x || s x)) (h2 : ∀ x, ¬ (q x = true ∧ s x = true)) : ∀ l : List α, l.countP p = l.countP q + l.countP s
  | [] => rfl
  | x :: l => by
    have ih := countP_split p q s h h2 l
    have e1 := h x
    have e2 := h2 x
    rw [List.countP_cons, List.countP_cons, List.countP_cons, ih, e1]
    cases hq : q x <;> cases hs : s x <;> simp [hq, hs] at * <;> omega
structure KF (R : List (Int × Int)) (Q : List Int) (T : List Int) (n : Nat) : Prop where
  inn : ∀ a b : Rat, a < b → cntk R a b false false 6 ≤ chq n (hq (lin a b) (lin 1 1) n (cfq (qp T))) ∧ chq n (hq (lin a b) (lin 1 1) n (cfq (qp T))) % 2 = cntk R a b false false 6 % 2 ∧ (Q.length = 0 → chq n (hq (lin a b) (lin 1 1) n (cfq (qp T))) = cntk R a b false false 6)
  bud : ∀ a b : Rat, a ≤ b → cntk R a b false true 6 + chq n (cmq (qp T) (lin b 1)) ≤ chq n (cmq (qp T) (lin a 1)) ∧ (chq n (cmq (qp T) (lin a 1)) - chq n (cmq (qp T) (lin b 1))) % 2 = cntk R a b false true 6 % 2 ∧ (Q.length = 0 → chq n (cmq (qp T) (lin a 1)) - chq n (cmq (qp T) (lin b 1)) = cntk R a b false true 6)
theorem kf_of (R : List (Int × Int)) (Q : List Int) (f : Int) : ∃ n, n ≤ 10 ∧ tz (kp R Q f) = n + 1 ∧ KF R Q (trimz (kp R Q f)) n := by
  obtain ⟨hf0, hf1, hf2⟩ := frc_ne f
  have hrl := rts_len R
  have hpl := prs2_len Q
  have hA : ∀ r ∈ rts R, 0 < r.2 := fun r hr => by
    obtain ⟨x, _, rfl⟩ := List.mem_map.1 hr
    show 0 < ((rtq x).den : Int)
    have := (rtq x).den_pos
    omega
  have hAq : ∀ r ∈ rts R, (0 : Rat) < (r.2 : Rat) := fun r hr => by
    have h1 := sgq_int r.2
    rw [Int.sign_eq_one_of_pos (hA r hr)] at h1
    exact sgq_lt.2.2.mp (by omega)
  have t1 : tz [frc f] = 1 := tz_spec (q := [frc f]) (n := 0) hf0 fun k hk => cf_ge (by show 1 ≤ k; omega)
  have G0 : GL [frc f] := ⟨frc f, ⟨fun j hj => by omega, rfl, hf0⟩, by unfold lc; rw [t1]; rfl⟩
  obtain ⟨hg, ht⟩ := gl_fold (prs2 Q) [frc f] G0 (by omega)
  have hps := kp_ps R Q f
  have ht2 := (rlist_tz hg.tz (rts R) hA).1
  rw [← tz_eq_of_cf (ps_eq hps), ht, t1] at ht2
  have hT : ∀ k, cf (trimz (kp R Q f)) k = cf (rlist (rts R) ((prs2 Q).foldl (fun q c => pmul q (pfl c)) [frc f])) k := fun k => by rw [cf_trimz]; exact ps_eq hps k
  have hTl : (trimz (kp R Q f)).length = (rts R).length + 2 * (prs2 Q).length + 1 := by rw [trimz_len]; omega
  have hQ0 : Q.length = 0 → prs2 Q = [] := fun h => List.eq_nil_of_length_eq_zero (by omega)
  generalize trimz (kp R Q f) = T at *
  refine ⟨(rts R).length + 2 * (prs2 Q).length, by omega, by omega, ?_, ?_⟩
  · intro a b hab
    have d := dcount (α := a) (β := b) (e := 1) hA hf0 hT rfl (fun c => by
      have := quad_pos b (c : Rat)
      grind) (fun r hr => by
      have hd := hAq r hr
      by_cases h : 0 < (r.2 : Rat) * b - (r.1 : Rat) * 1
      · exact .inl h
      · refine .inr ⟨?_, Rat.not_lt.mp h⟩
        have h1 : (r.2 : Rat) * a < (r.2 : Rat) * b := Rat.mul_lt_mul_of_pos_left hab hd
        grind)
    rw [← cnt_open] at d
    exact ⟨d.1, d.2.1, fun h => d.2.2 (hQ0 h)⟩
  · intro a b hab
    have e1 : ∀ c : Rat, hq (lin c 1) (lin 1 0) ((rts R).length + 2 * (prs2 Q).length) (cfq (qp T)) = cmq (qp T) (lin c 1) := fun c => by
      rw [← C_lin, PQ.C_one]
      exact hq_one _ _ _ (by simp [qp]; omega)
    have dd : ∀ c : Rat, chq ((rts R).length + 2 * (prs2 Q).length) (cmq (qp T) (lin c 1)) % 2 = (rts R).countP (fun r => decide ((r.2 : Rat) * c - (r.1 : Rat) < 0)) % 2 ∧ (Q.length = 0 → chq ((rts R).length + 2 * (prs2 Q).length) (cmq (qp T) (lin c 1)) = (rts R).countP (fun r => decide ((r.2 : Rat) * c - (r.1 : Rat) < 0))) := fun c => by
      have d := dcount (α := c) (β := 1) (e := 0) hA hf0 hT rfl (fun c => by
        have : ((c : Rat) * (c : Rat) + 1) * 0 * 0 + (c : Rat) * 0 * 1 + 1 * 1 = 1 := by grind
        rw [this]; decide) (fun r hr => .inl (by have := hAq r hr; grind))
      rw [e1] at d
      have e2 : (rts R).countP (fun r => decide ((r.2 : Rat) * c - (r.1 : Rat) < 0 ∧ 0 < (r.2 : Rat) * 1 - (r.1 : Rat) * 0)) = (rts R).countP (fun r => decide ((r.2 : Rat) * c - (r.1 : Rat) < 0)) := by
        refine List.countP_congr fun r hr => ?_
        have := hAq r hr
        simp only [decide_eq_true_eq]
        exact ⟨fun h => h.1, fun h => ⟨h, by grind⟩⟩
      rw [e2] at d
      exact ⟨d.2.1, fun h => d.2.2 (hQ0 h)⟩
    have bl := budan_le hab (rts R) ((prs2 Q).foldl (fun q c => pmul q (pfl c)) [frc f]) ((rts R).length + 2 * (prs2 Q).length) hA hg.tz (by omega)
    have e3 : ∀ c : Rat, cmq (qp (rlist (rts R) ((prs2 Q).foldl (fun q c => pmul q (pfl c)) [frc f]))) (lin c 1) = cmq (qp T) (lin c 1) := fun c => cmq_ext fun k => by rw [cfq_qp, cfq_qp, hT]
    rw [e3, e3, ← cnt_half] at bl
    have sp : (rts R).countP (fun r => decide ((r.2 : Rat) * a - (r.1 : Rat) < 0)) = (rts R).countP (fun r => decide ((r.2 : Rat) * a - (r.1 : Rat) < 0 ∧ 0 ≤ (r.2 : Rat) * b - (r.1 : Rat))) + (rts R).countP (fun r => decide ((r.2 : Rat) * b - (r.1 : Rat) < 0)) := by
      have c1 : (rts R).countP (fun r => decide ((r.2 : Rat) * b - (r.1 : Rat) < 0)) = (rts R).countP (fun r => decide ((r.2 : Rat) * a - (r.1 : Rat) < 0) && decide ((r.2 : Rat) * b - (r.1 : Rat) < 0)) := by
        refine List.countP_congr fun r hr => ?_
        have hd := hAq r hr
        simp only [Bool.and_eq_true, decide_eq_true_eq]
        refine ⟨fun h => ⟨?_, h⟩, fun h => h.2⟩
        have h1 : (r.2 : Rat) * a ≤ (r.2 : Rat) * b := Rat.mul_le_mul_of_nonneg_left hab (Rat.le_of_lt hd)
        grind
      rw [c1]
      refine countP_split _ _ _ (fun r => ?_) (fun r => ?_) _
      · by_cases h1 : (r.2 : Rat) * a - (r.1 : Rat) < 0
        · by_cases h2 : (r.2 : Rat) * b - (r.1 : Rat) < 0
          · simp [h1, h2]
          · simp [h1, h2, Rat.not_lt.mp h2]
        · simp [h1]
      · simp only [Bool.and_eq_true, decide_eq_true_eq]
        rintro ⟨⟨_, h1⟩, _, h2⟩
        exact absurd h2 (Rat.not_lt.mpr h1)
    rw [← cnt_half] at sp
    have da := dd a
    have db := dd b
    refine ⟨bl, by omega, fun h => ?_⟩
    have e4 := da.2 h
    have e5 := db.2 h
    omega
end Go.Proofs.YtcocppjgbcbndaaGreat

namespace Go.Proofs.YtcocppjgbcbndaaGreat
open Go Go.Proofs Go.AL
set_option linter.unusedSimpArgs false
set_option linter.unusedVariables false
theorem low_ex : ∀ q : List Int, tz q ≠ 0 → ∃ m c, LowAt q m c
  | [], h => absurd (tz_zero_iff.mpr fun k => cf_nil k) h
  | x :: l, h => by
    by_cases hx : x = 0
    · have h2 : tz l ≠ 0 := fun e => h (tz_zero_iff.mpr fun k => by
        cases k with
        | zero => exact hx
        | succ k => exact tz_zero_iff.mp e k)
      obtain ⟨m, c, l1, l2, l3⟩ := low_ex l h2
      refine ⟨m + 1, c, fun j hj => ?_, l2, l3⟩
      cases j with
      | zero => exact hx
      | succ j => exact l1 j (by omega)
    · exact ⟨0, x, fun j hj => by omega, rfl, hx⟩
theorem cf_reverse {T : List Int} {n k : Nat} (hl : T.length = n + 1) (hk : k ≤ n) : cf T.reverse k = cf T (n - k) := by
  simp only [cf, List.getD]
  rw [List.getElem?_reverse (by omega), hl, show n + 1 - 1 - k = n - k by omega]
theorem sc_even {T : List Int} {i : Nat} (h : ((i : Nat) : Int).tmod 2 = 1) : cf (sc (-1) T) i = -cf T i := by
  rw [cf_sc]
  have e : (i : Int).tmod 2 = ((i % 2 : Nat) : Int) := by rw [Int.tmod_eq_emod_of_nonneg (by omega)]; omega
  have h2 : ¬ (-1 : Int) ^ i = 1 := fun e2 => by have := (pow_par i).mp e2; omega
  rcases (eone i).1 with e2 | e2
  · exact absurd e2 h2
  · rw [e2, Int.mul_neg, Int.mul_one]
theorem sc_odd {T : List Int} {i : Nat} (h : ¬ ((i : Nat) : Int).tmod 2 = 1) : cf (sc (-1) T) i = cf T i := by
  rw [cf_sc]
  have e : (i : Int).tmod 2 = ((i % 2 : Nat) : Int) := by rw [Int.tmod_eq_emod_of_nonneg (by omega)]; omega
  rw [(pow_par i).mpr (by omega), Int.mul_one]
set_option maxRecDepth 100000 in
set_option maxHeartbeats 4000000 in
theorem moves16_law (R : List (Int × Int)) (Q : List Int) (ft : Int) (r0 r1 : Int × Int) (c : Int) (hR : R.length ≤ 9223372036854775807) (hQ : Q.length ≤ 9223372036854775807) :
    AC Tryz.prog 4 [.agg (kn R Q ft), .agg [.int .i64 r0.1, .int .i64 r0.2, .int .i64 r1.1, .int .i64 r1.2], ci c] none [cb true] := by
  have hr1 : List.range 1 = [0] := rfl
  have hir : ∀ l : List Int, (∀ r ∈ ilims l, r.length = 1) ↔ True := fun l => by simp [ilims]
  have hil : ∀ l : List Int, (ilims l).length = l.length := fun l => by simp [ilims]
  have kp1 := kpoly_ok R Q ft hR hQ
  obtain ⟨hPb, n, hn, ht0⟩ := kp_facts R Q ft
  generalize kp R Q ft = P at *
  rw [show cp P = cw ((trimz P).map canon) from rfl] at kp1
  have hTb : PB 19 17 (trimz P) := hPb.trimz
  have hTl : (trimz P).length = n + 1 := by rw [trimz_len]; exact ht0
  have ht : tz (trimz P) = n + 1 := by rw [tz_eq_of_cf (cf_trimz P)]; exact ht0
  have hTT : trimz (trimz P) = trimz P := trimz_ext (cf_trimz P)
  generalize trimz P = T at *
  clear ht0 hPb
  have hT11 : PB 11 20 T := ⟨by omega, fun z hz => Nat.le_trans (hTb.2 z hz) (by omega)⟩
  have rT : RP 40 400 (T.map canon) := (RP.canon hTb).mono (by omega) (by omega)
  have pT : pv (T.map canon) = T := pv_canon T
  -- the ends
  have a0 := rat_ok r0
  have a1 := rat_ok r1
  have zx := rtq_z r0
  have zy0 := rtq_z r1
  generalize rtq r0 = x at *
  generalize rtq r1 = y0 at *
  have o := horder_ok (crat x) (crat y0) (szq_crat (by omega)) (szq_crat (by omega)) (nv_crat0 _) (nv_crat0 _)
  rw [qv_crat, qv_crat] at o
  have p1 := hPi 1 (by omega) (by omega)
  rw [show ((1 : Int) : Rat) = 1 from rfl] at p1
  have pl := hplus_ok (crat x) (crat 1) (szq_crat (by omega)) (szq_crat (by rw [qz_one]; omega)) (nv_crat0 _) (nv_crat0 _)
  rw [qv_crat, qv_crat] at pl
  obtain ⟨y, hy, hy2, hxy, zy⟩ : ∃ y, (0 ≤ sgq (x - y0) → y = x + 1) ∧ (¬ 0 ≤ sgq (x - y0) → y = y0) ∧ x < y ∧ qz y ≤ 3 := by
    by_cases h : 0 ≤ sgq (x - y0)
    · refine ⟨x + 1, fun _ => rfl, fun e => absurd h e, by grind, ?_⟩
      have h1 := qz_add x 1
      rw [qz_one] at h1
      omega
    · refine ⟨y0, fun e => absurd e h, fun _ => rfl, ?_, by omega⟩
      rcases sgq_cases (x - y0) with ⟨_, e⟩ | ⟨_, e⟩ | ⟨h2, _⟩
      · omega
      · omega
      · grind
  have zyx : qz (y - x) ≤ 5 := by have := qz_sub y x; omega
  -- the first
  have in1 := in_law (T.map canon) n x y rT (by rw [pT]; exact ht) (by omega) (by omega) (by omega) hxy (by omega)
  rw [pT] at in1
  -- minus
  have m3 := poly16_ok [-3] (by simp) (fun z hz => by rw [List.mem_singleton.1 hz]; omega)
  have z3 : zl (-3) ≤ 1 := zl_le.mpr (by decide)
  have rp3 : RP 1 1 (([-3] : List Int).map canon) := RP.canon ⟨by simp, fun z hz => by rw [List.mem_singleton.1 hz]; exact z3⟩
  have mm := pmul_g (a := ([-3] : List Int).map canon) (b := T.map canon) (q := [-3]) (r := T) (rp3.mono (by omega) (by omega)) (rT.mono (by omega) (by omega)) (by rw [pv_canon]) (by rw [pT])
  have hMb : PB 40 400 (pmul [-3] T) := by
    have h : PB 1 1 [(-3 : Int)] := ⟨by simp, fun z hz => by rw [List.mem_singleton.1 hz]; exact z3⟩
    exact (h.pmul hTb (by simp only [W]; omega)).mono (by omega) (by omega)
  have t3 : tz [(-3 : Int)] = 1 := tz_spec (q := [-3]) (n := 0) (by decide) fun k hk => cf_ge (by show 1 ≤ k; omega)
  have tM : tz (pmul [-3] T) = n + 1 := by rw [tz_pmul (by omega) (by omega)]; omega
  have in2 := in_law (cn (pmul [-3] T)) n x y (rp_cn hMb) (by rw [tz_eq_of_cf (cf_cn _)]; exact tM) (by omega) (by omega) (by omega) hxy (by omega)
  have e2 : chq n (hq (lin x y) (lin 1 1) n (cfq (qp (pv (cn (pmul [-3] T)))))) = chq n (hq (lin x y) (lin 1 1) n (cfq (qp T))) := by
    rw [hq_ext (g := fun k => (-3 : Rat) * cfq (qp T) k) fun k _ => by
      have h1 : cf (pmul [-3] T) k = -3 * cf T k := by
        rw [cf_pmul_cons]
        cases k with
        | zero => show _ + 0 = _; rw [Int.add_zero]
        | succ k => show _ + cf (pmul [] T) k = _; rw [cf_pmul]; show _ + 0 = _; rw [Int.add_zero]
      rw [cfq_qp, cf_cn, h1, cfq_qp, Rat.intCast_mul]; rfl, hq_smul]
    exact chq_scl (by decide)
  rw [e2] at in2
  -- mirrored
  have nx := hnot_ok (crat x) (szq_crat (by omega)) (nv_crat0 _)
  have ny := hnot_ok (crat y) (szq_crat (by omega)) (nv_crat0 _)
  rw [qv_crat] at nx ny
  have hSl := sc_len (-1) T
  have hSb : PB 40 400 (sc (-1) T) := .of (by omega) fun k => by
    rw [cf_sc]
    have h1 := hTb.cf k
    rcases (eone k).1 with e | e <;> rw [e]
    · rw [Int.mul_one]; omega
    · rw [Int.mul_neg, Int.mul_one, zl_neg]; omega
  have hlast : cf T n ≠ 0 := fun e => by
    have := tz_le_of (q := T) (n := n) fun k hk => by
      by_cases h : k = n
      · rw [h]; exact e
      · exact cf_ge (by omega)
    omega
  have tS : tz (sc (-1) T) = n + 1 := tz_spec (by
    rw [cf_sc]
    refine Int.mul_ne_zero hlast ?_
    rcases (eone n).1 with e | e <;> rw [e] <;> decide) fun k hk => by rw [cf_sc, cf_ge (by omega), Int.zero_mul]
  have pS : pv ((sc (-1) T).map canon) = sc (-1) T := pv_canon _
  have rS : RP 40 400 ((sc (-1) T).map canon) := RP.canon hSb
  have in3 := in_law ((sc (-1) T).map canon) n (-y) (-x) rS (by rw [pS]; exact tS) (by omega) (by rw [qz_neg]; omega) (by rw [qz_neg]; omega) (by grind) (by rw [show -x - -y = y - x by grind]; omega)
  have e3 : chq n (hq (lin (-y) (-x)) (lin 1 1) n (cfq (qp (pv ((sc (-1) T).map canon))))) = chq n (hq (lin x y) (lin 1 1) n (cfq (qp T))) := by
    rw [pS, ← chq_rev (hq_rev x y n (cfq (qp T)))]
    congr 1
    rw [hq_ext (g := fun k => (-1) ^ k * cfq (qp T) k) fun k _ => by
      rw [cfq_qp, cf_sc, cfq_qp, Rat.intCast_mul, Rat.mul_comm]
      congr 1
      exact Rat.intCast_pow (-1) k, ← hq_flip, lin_neg]
    congr 1
    congr 1 <;> grind
  rw [e3] at in3
  -- lines
  obtain ⟨m, lc0, hlow⟩ := low_ex T (by omega)
  have hml : m < n + 1 := by rw [← hTl]; exact low_lt hlow
  have l1 := sline_ok (T.map canon) m (rT.mono (by omega) (by omega)) (by rw [pT]; omega) (by rw [pT]; exact lw_at hlow.1 (by rw [hlow.2.1]; exact hlow.2.2)) (by rw [List.length_map]; omega)
  have hlow2 := low_sc hlow
  have l2 := sline_ok ((sc (-1) T).map canon) m (rS.mono (by omega) (by omega)) (by rw [pS]; omega) (by rw [pS]; exact lw_at hlow2.1 (by rw [hlow2.2.1]; exact hlow2.2.2)) (by rw [List.length_map]; omega)
  have pB : pv (T.reverse.map canon) = T.reverse := pv_canon _
  have hBb : PB 40 400 T.reverse := ⟨by rw [List.length_reverse]; omega, fun z hz => Nat.le_trans (hTb.2 z (List.mem_reverse.1 hz)) (by omega)⟩
  have hB0 : cf T.reverse 0 ≠ 0 := by rw [cf_reverse hTl (by omega)]; exact hlast
  have l3 := sline_ok (T.reverse.map canon) 0 ((RP.canon hBb).mono (by omega) (by omega)) (by rw [pB]; exact fun e => hB0 (tz_zero_iff.mp e 0)) (by rw [pB]; exact lw_at (fun j hj => by omega) hB0) (by rw [List.length_map, List.length_reverse]; omega)
  rw [pT] at l1
  rw [pS] at l2
  rw [pB, chg_reverse] at l3
  have e4 : chg (sc (-1) (sc (-1) T)) = chg T := by
    unfold chg
    rw [chf_ext (p := sc (-1) (sc (-1) T)) (q := T) fun k => by
      rw [cf_sc, cf_sc]
      rcases (eone k).1 with e | e <;> rw [e] <;> omega]
  rw [e4] at l2
  -- moved
  obtain ⟨cc, hcc⟩ : ∃ cc, cc = c.tmod 50 := ⟨_, rfl⟩
  have hcb := tmod_lt c 50 (by omega)
  rw [← hcc] at hcb
  have zcc : ∀ z : Int, -100 < z → z < 100 → zl z ≤ 1 ∧ qz (z : Rat) ≤ 1 := fun z h1 h2 => by
    have h3 : zl z ≤ 1 := zl_le.mpr (by rw [Nat.pow_one]; simp only [W]; omega)
    have h4 := qz_int z
    exact ⟨h3, by omega⟩
  obtain ⟨zc1, zc2⟩ := zcc cc (by omega) (by omega)
  obtain ⟨zn1, zn2⟩ := zcc (-cc) (by omega) (by omega)
  have pc := hPi cc (by omega) (by omega)
  have pn := hPi (-cc) (by omega) (by omega)
  have fo := qof_ok cc 1 (by omega) (by omega) (by omega) (by omega) (by omega)
  rw [show (cc : Rat) / ((1 : Int) : Rat) = (cc : Rat) by rw [show ((1 : Int) : Rat) = 1 from rfl]; grind] at fo
  have plx := hplus_ok (crat x) (crat (cc : Rat)) (szq_crat (by omega)) (szq_crat (by omega)) (nv_crat0 _) (nv_crat0 _)
  have ply := hplus_ok (crat y) (crat (cc : Rat)) (szq_crat (by omega)) (szq_crat (by omega)) (nv_crat0 _) (nv_crat0 _)
  rw [qv_crat, qv_crat] at plx ply
  obtain ⟨hZb, tZ⟩ := mvz_facts T (-cc) n hTl ht hn hT11 zn1
  have hZc := fun k => (mvz_int T (-cc) n hTl k).2
  have pZ : pv ((mvz T (-cc)).map canon) = mvz T (-cc) := pv_canon _
  have rZ : RP 40 400 ((mvz T (-cc)).map canon) := RP.canon hZb
  have hZl : (qp (mvz T (-cc))).length ≤ n + 1 := by
    rw [qp, List.length_map, mvz, List.length_map, trimq_len]
    exact tzq_le_of fun k hk => by
      have h1 : pq (csq (qp T) [((-cc : Int) : Rat), 1] T.length) = cmq (qp T) (lin ((-cc : Int) : Rat) 1) := by
        rw [pq_csq _ _ _ (by simp [qp]), List.take_of_length_le (by simp [qp]), lin]
      have e1 : cfq (csq (qp T) [((-cc : Int) : Rat), 1] T.length) k = (cmq (qp T) (lin ((-cc : Int) : Rat) 1)).c k := congrArg (fun F => PQ.c F k) h1
      rw [e1, cmq_deg (lin_deg _ _) (qp T) k (by simp [qp]; omega)]
  have zxc : qz (x + (cc : Rat)) ≤ 5 := by have := qz_add x (cc : Rat); omega
  have zyc : qz (y + (cc : Rat)) ≤ 5 := by have := qz_add y (cc : Rat); omega
  have in4 := in_law ((mvz T (-cc)).map canon) n (x + (cc : Rat)) (y + (cc : Rat)) rZ (by rw [pZ]; exact tZ) (by omega) (by omega) (by omega) (by grind) (by rw [show y + (cc : Rat) - (x + (cc : Rat)) = y - x by grind]; omega)
  have hql : (qp T).length = n + 1 := by simp [qp]; omega
  have en : ((-cc : Int) : Rat) = -(cc : Rat) := Rat.intCast_neg cc
  have e5 : chq n (hq (lin (x + (cc : Rat)) (y + (cc : Rat))) (lin 1 1) n (cfq (qp (pv ((mvz T (-cc)).map canon))))) = chq n (hq (lin x y) (lin 1 1) n (cfq (qp T))) := by
    rw [pZ]
    congr 1
    rw [hq_lin (a := ((-cc : Int) : Rat)) (w := 1) n (qp T) _ (by omega) (fun k => by rw [cfq_qp]; exact hZc k)]
    congr 1
    rw [lin_scl, lin_scl, lin_add, en]
    congr 1 <;> grind
  rw [e5] at in4
  have s1 := sat_ok (T.map canon) n x rT (by rw [pT]; exact ht) (by omega) (by omega)
  have s2 := sat_ok ((mvz T (-cc)).map canon) n (x + (cc : Rat)) rZ (by rw [pZ]; exact tZ) (by omega) (by omega)
  rw [pT] at s1
  rw [pZ, cmq_comp (A := qp T) (L := qp (mvz T (-cc))) (n := n) (a := ((-cc : Int) : Rat)) (w := 1) (u := x + (cc : Rat)) (v := 1) (by omega) hZl (fun k => by rw [cfq_qp]; exact hZc k), show ((-cc : Int) : Rat) + 1 * (x + (cc : Rat)) = x by rw [en]; grind, show (1 : Rat) * 1 = 1 by grind] at s2
  have hsl := sgs_len n (cmq (qp T) (lin x 1))
  have is := ints_self (sgs n (cmq (qp T) (lin x 1))) (by omega)
  obtain ⟨E, hE⟩ := xc_csq (c := ((-cc : Int) : Rat)) (by omega) (T := qp T) (.of (n := 12) (k := 60) (by omega) fun k => by
    rw [cfq_qp]
    have h1 := qz_int (cf T k)
    have h2 := hTb.cf k
    omega) T.length (by omega)
  have wh := twhole_ok (cqs (csq (qp T) [((-cc : Int) : Rat), 1] T.length)) ((hE.qb.gqs).mono (by omega) (by omega))
  rw [qvs_cqs, trimq_trimq, show (trimq (csq (qp T) [((-cc : Int) : Rat), 1] T.length)).map (fun c => c.num) = mvz T (-cc) from rfl] at wh
  have eM0 : rats (cqs (csq (qp T) [((-cc : Int) : Rat), 1] 0)) = [] := rfl
  have hcT : (T.map canon).length = n + 1 := by rw [List.length_map]; exact hTl
  generalize chq n (hq (lin x y) (lin 1 1) n (cfq (qp T))) = v1 at *
  generalize chg T = ca at *
  generalize chg (sc (-1) T) = cb1 at *
  generalize hMz : mvz T (-cc) = Mz at *
  refine AC.by_walk (rs := [.tmp 6]) ords Tryz.func4 (by rfl) (by rfl) (by rfl) (by rfl) (by rfl) ?_
  simp (disch := omega) only [wk, tis, seval, reduceCtorEq, Nat.reduceEqDiff, rqs, Bool.true_beq, Bool.false_beq, Bool.not_true, Bool.not_false]
  refine call_by (known16_ok) (by rfl) (by simp) ?_
  simp (disch := omega) only [wk, tis, seval, reduceCtorEq, Nat.reduceEqDiff, rqs, Bool.true_beq, Bool.false_beq, Bool.not_true, Bool.not_false]
  refine call_by (kp1) (by rfl) (by simp) ?_
  simp (disch := omega) only [wk, tis, seval, reduceCtorEq, Nat.reduceEqDiff, rqs, Bool.true_beq, Bool.false_beq, Bool.not_true, Bool.not_false]
  refine ⟨tmps_by (by kernel_rfl), ?_⟩
  refine call_by (a0) (by rfl) (by simp) ?_
  simp (disch := omega) only [wk, tis, seval, reduceCtorEq, Nat.reduceEqDiff, rqs, Bool.true_beq, Bool.false_beq, Bool.not_true, Bool.not_false]
  refine call_by (a1) (by rfl) (by simp) ?_
  simp (disch := omega) only [wk, tis, seval, reduceCtorEq, Nat.reduceEqDiff, rqs, Bool.true_beq, Bool.false_beq, Bool.not_true, Bool.not_false]
  first | exact log_by (by kernel_rfl) | refine ⟨log_by (by kernel_rfl), ?_⟩
  refine call_by (o) (by rfl) (by simp) ?_
  simp (disch := omega) only [wk, tis, seval, reduceCtorEq, Nat.reduceEqDiff, rqs, Bool.true_beq, Bool.false_beq, Bool.not_true, Bool.not_false]
  refine if_cut (fun f1 H => f1 2 = .iv (.int .i64 c) ∧ f1 7 = .iv (.sl (raws (T.map canon))) ∧ f1 8 = .hp 8 1 0 0 ∧ H 8 = .blk false 1 35 3 [qrow (crat x)] ∧ f1 9 = .hp 9 1 0 0 ∧ H 9 = .blk false 1 35 3 [qrow (crat y)]) ?_ ?_
  · refine if_by (fun h => ?_) (fun h => ?_)
    · have ey := hy h
      rw [← ey] at pl
      simp (disch := omega) only [wk, tis, seval, reduceCtorEq, Nat.reduceEqDiff, rqs, Bool.true_beq, Bool.false_beq, Bool.not_true, Bool.not_false]
      refine ⟨tmps_by (by kernel_rfl), ?_⟩
      refine call_by (p1) (by rfl) (by simp) ?_
      simp (disch := omega) only [wk, tis, seval, reduceCtorEq, Nat.reduceEqDiff, rqs, Bool.true_beq, Bool.false_beq, Bool.not_true, Bool.not_false]
      refine call_by (pl) (by rfl) (by simp) ?_
      simp (disch := omega) only [wk, tis, seval, reduceCtorEq, Nat.reduceEqDiff, rqs, Bool.true_beq, Bool.false_beq, Bool.not_true, Bool.not_false]
      first | exact log_by (by kernel_rfl) | refine ⟨log_by (by kernel_rfl), ?_⟩
      try (repeat' apply And.intro) <;> first | rfl | omega
    · have ey := hy2 h
      simp (disch := omega) only [wk, tis, seval, reduceCtorEq, Nat.reduceEqDiff, rqs, Bool.true_beq, Bool.false_beq, Bool.not_true, Bool.not_false]
      rw [ey]
      try (repeat' apply And.intro) <;> first | rfl | omega
  rintro f1 H ⟨g2, g7, g8, k8, g9, k9⟩
  simp (disch := omega) only [wk, tis, seval, reduceCtorEq, Nat.reduceEqDiff, rqs, Bool.true_beq, Bool.false_beq, Bool.not_true, Bool.not_false, g2, g7, g8, k8, g9, k9, hr1, hir, hil, ilims1, ← hcc]
  refine call_by (m3) (by first | rfl | (simp only [tocvs, tocv, g2, g7, g8, k8, g9, k9, hr1, hir, hil, ilims1, ← hcc]; rfl) | (simp only [tocvs, tocv, toboxes, tobox, updH_at, Nat.reduceEqDiff, ↓reduceIte, g2, g7, g8, k8, g9, k9, hr1, hir, hil, ilims1, ← hcc]; rfl)) (by simp) ?_
  simp (disch := omega) only [wk, tis, seval, reduceCtorEq, Nat.reduceEqDiff, rqs, Bool.true_beq, Bool.false_beq, Bool.not_true, Bool.not_false, g2, g7, g8, k8, g9, k9, hr1, hir, hil, ilims1, ← hcc]
  refine call_by (mm) (by first | rfl | (simp only [tocvs, tocv, g2, g7, g8, k8, g9, k9]; rfl) | (simp only [tocvs, tocv, toboxes, tobox, updH_at, Nat.reduceEqDiff, ↓reduceIte, g2, g7, g8, k8, g9, k9]; rfl)) (by simp) ?_
  simp (disch := omega) only [wk, tis, seval, reduceCtorEq, Nat.reduceEqDiff, rqs, Bool.true_beq, Bool.false_beq, Bool.not_true, Bool.not_false, g2, g7, g8, k8, g9, k9]
  refine aloop_w (.nil 11 11 33 2 (by simp (disch := omega) only [wk, tis, seval, reduceCtorEq, Nat.reduceEqDiff, rqs, Bool.true_beq, Bool.false_beq, Bool.not_true, Bool.not_false]) (.nil 12 12 33 2 (by simp (disch := omega) only [wk, tis, seval, reduceCtorEq, Nat.reduceEqDiff, rqs, Bool.true_beq, Bool.false_beq, Bool.not_true, Bool.not_false, ghostF, ghostH]) (.refl _ _))) (fun f H => ∃ (i s11 s12 : Nat), i ≤ n + 1 ∧ f 13 = .iv (.int .i64 i) ∧ f 2 = .iv (.int .i64 cc) ∧ f 7 = .iv (.sl (raws (T.map canon))) ∧ f 8 = .hp 8 1 0 0 ∧ H 8 = .blk false 1 35 3 [qrow (crat x)] ∧ f 9 = .hp 9 1 0 0 ∧ H 9 = .blk false 1 35 3 [qrow (crat y)] ∧ f 10 = .iv (.sl (raws (cn (pmul [-3] T)))) ∧ f 11 = .hs 11 s11 ∧ H 11 = .blk false s11 33 2 (raws (((sc (-1) T).take i).map canon)) ∧ f 12 = .hs 12 s12 ∧ H 12 = .blk false s12 33 2 (raws ((T.reverse.take i).map canon))) (fun f H => (n + 1 - intAt f 13).toNat) ?_ ?_
  · refine ⟨0, (H 11).stamp + 1, (H 12).stamp + 1, by omega, ?_⟩
    simp (disch := omega) only [wk, tis, seval, reduceCtorEq, Nat.reduceEqDiff, rqs, Bool.true_beq, Bool.false_beq, Bool.not_true, Bool.not_false, ghostF, ghostH, g2, g7, g8, k8, g9, k9, List.take_zero, List.map_nil, show cpoly (pmul [-3] T) = raws (cn (pmul [-3] T)) from rfl]
  rintro f H ⟨i, s11, s12, hi, hF⟩
  rw [intAt_of hF.1]
  simp (disch := omega) only [wk, tis, seval, reduceCtorEq, Nat.reduceEqDiff, rqs, Bool.true_beq, Bool.false_beq, Bool.not_true, Bool.not_false, hF]
  by_cases hlt : i < n + 1
  · have hlt' : (i : Int) < ((n + 1 : Nat) : Int) := by omega
    have gT := canon_getD T i
    have gB := canon_getD T (n - i)
    have e1 : ((n + 1 : Nat) : Int) - 1 = (n : Int) := by omega
    have e2 : (n : Int) - (i : Int) = ((n - i : Nat) : Int) := by omega
    have ng := zneg_ok (canon (cf T i)) ((sz_canon _).mono (Nat.le_trans (hTb.cf i) (by omega)))
    rw [iv_canon] at ng
    have q1 : (((sc (-1) T).take i).map canon).length = i := by rw [List.length_map, List.length_take]; omega
    have q2 : ((T.reverse.take i).map canon).length = i := by rw [List.length_map, List.length_take, List.length_reverse]; omega
    have em := takez_snoc (q := sc (-1) T) (i := i) (by omega)
    have er := takez_snoc (q := T.reverse) (i := i) (by rw [List.length_reverse]; omega)
    rw [cf_reverse hTl (by omega)] at er
    by_cases hm : (i : Int).tmod 2 = 1
    · rw [sc_even hm] at em
      simp (disch := omega) only [wk, tis, seval, reduceCtorEq, Nat.reduceEqDiff, rqs, Bool.true_beq, Bool.false_beq, Bool.not_true, Bool.not_false, hF, hcT, hlt', gT, gB, e1, e2, q1, q2, hm]
      refine call_by (ng) (by first | rfl | (simp only [tocvs, tocv, hF, hcT, hlt', gT, gB, e1, e2, q1, q2, hm]; rfl) | (simp only [tocvs, tocv, toboxes, tobox, updH_at, Nat.reduceEqDiff, ↓reduceIte, hF, hcT, hlt', gT, gB, e1, e2, q1, q2, hm]; rfl)) (by simp) ?_
      simp (disch := omega) only [wk, tis, seval, reduceCtorEq, Nat.reduceEqDiff, rqs, Bool.true_beq, Bool.false_beq, Bool.not_true, Bool.not_false, hF, hcT, hlt', gT, gB, e1, e2, q1, q2, hm]
      refine ⟨⟨i + 1, s11 + 1, s12 + 1, by omega, ?_⟩, by omega⟩
      rw [em, er, List.map_append, List.map_append]
      (repeat' apply And.intro) <;> first | rfl | omega
    · rw [sc_odd hm] at em
      simp (disch := omega) only [wk, tis, seval, reduceCtorEq, Nat.reduceEqDiff, rqs, Bool.true_beq, Bool.false_beq, Bool.not_true, Bool.not_false, hF, hcT, hlt', gT, gB, e1, e2, q1, q2, hm]
      refine ⟨⟨i + 1, s11 + 1, s12 + 1, by omega, ?_⟩, by omega⟩
      rw [em, er, List.map_append, List.map_append]
      (repeat' apply And.intro) <;> first | rfl | omega
  obtain rfl : i = n + 1 := by omega
  rw [List.take_of_length_le (l := sc (-1) T) (by omega), List.take_of_length_le (l := T.reverse) (by rw [List.length_reverse]; omega)] at hF
  have hge : ¬ ((n + 1 : Nat) : Int) < ((n + 1 : Nat) : Int) := by omega
  simp (disch := omega) only [wk, tis, seval, reduceCtorEq, Nat.reduceEqDiff, rqs, Bool.true_beq, Bool.false_beq, Bool.not_true, Bool.not_false, hF, hcT, hge]
  refine call_by (in1) (by first | rfl | (simp only [tocvs, tocv, hF, hcT]; rfl) | (simp only [tocvs, tocv, toboxes, tobox, updH_at, Nat.reduceEqDiff, ↓reduceIte, hF, hcT]; rfl)) (by simp) ?_
  simp (disch := omega) only [wk, tis, seval, reduceCtorEq, Nat.reduceEqDiff, rqs, Bool.true_beq, Bool.false_beq, Bool.not_true, Bool.not_false, hF, hcT]
  refine call_by (in2) (by first | rfl | (simp only [tocvs, tocv, hF, hcT]; rfl) | (simp only [tocvs, tocv, toboxes, tobox, updH_at, Nat.reduceEqDiff, ↓reduceIte, hF, hcT]; rfl)) (by simp) ?_
  simp (disch := omega) only [wk, tis, seval, reduceCtorEq, Nat.reduceEqDiff, rqs, Bool.true_beq, Bool.false_beq, Bool.not_true, Bool.not_false, hF, hcT]
  refine ⟨tmps_by (by kernel_rfl), ?_⟩
  refine call_by (ny) (by first | rfl | (simp only [tocvs, tocv, hF, hcT]; rfl) | (simp only [tocvs, tocv, toboxes, tobox, updH_at, Nat.reduceEqDiff, ↓reduceIte, hF, hcT]; rfl)) (by simp) ?_
  simp (disch := omega) only [wk, tis, seval, reduceCtorEq, Nat.reduceEqDiff, rqs, Bool.true_beq, Bool.false_beq, Bool.not_true, Bool.not_false, hF, hcT]
  refine call_by (nx) (by first | rfl | (simp only [tocvs, tocv, hF, hcT]; rfl) | (simp only [tocvs, tocv, toboxes, tobox, updH_at, Nat.reduceEqDiff, ↓reduceIte, hF, hcT]; rfl)) (by simp) ?_
  simp (disch := omega) only [wk, tis, seval, reduceCtorEq, Nat.reduceEqDiff, rqs, Bool.true_beq, Bool.false_beq, Bool.not_true, Bool.not_false, hF, hcT]
  refine call_by (in3) (by first | rfl | (simp only [tocvs, tocv, hF, hcT]; rfl) | (simp only [tocvs, tocv, toboxes, tobox, updH_at, Nat.reduceEqDiff, ↓reduceIte, hF, hcT]; rfl)) (by simp) ?_
  simp (disch := omega) only [wk, tis, seval, reduceCtorEq, Nat.reduceEqDiff, rqs, Bool.true_beq, Bool.false_beq, Bool.not_true, Bool.not_false, hF, hcT]
  first | exact log_by (by kernel_rfl) | refine ⟨log_by (by kernel_rfl), ?_⟩
  refine call_by (l1) (by first | rfl | (simp only [tocvs, tocv, hF, hcT]; rfl) | (simp only [tocvs, tocv, toboxes, tobox, updH_at, Nat.reduceEqDiff, ↓reduceIte, hF, hcT]; rfl)) (by simp) ?_
  simp (disch := omega) only [wk, tis, seval, reduceCtorEq, Nat.reduceEqDiff, rqs, Bool.true_beq, Bool.false_beq, Bool.not_true, Bool.not_false, hF, hcT]
  refine call_by (l2) (by first | rfl | (simp only [tocvs, tocv, hF, hcT]; rfl) | (simp only [tocvs, tocv, toboxes, tobox, updH_at, Nat.reduceEqDiff, ↓reduceIte, hF, hcT]; rfl)) (by simp) ?_
  simp (disch := omega) only [wk, tis, seval, reduceCtorEq, Nat.reduceEqDiff, rqs, Bool.true_beq, Bool.false_beq, Bool.not_true, Bool.not_false, hF, hcT]
  refine call_by (l3) (by first | rfl | (simp only [tocvs, tocv, hF, hcT]; rfl) | (simp only [tocvs, tocv, toboxes, tobox, updH_at, Nat.reduceEqDiff, ↓reduceIte, hF, hcT]; rfl)) (by simp) ?_
  simp (disch := omega) only [wk, tis, seval, reduceCtorEq, Nat.reduceEqDiff, rqs, Bool.true_beq, Bool.false_beq, Bool.not_true, Bool.not_false, hF, hcT]
  rw [hTl] at wh
  have pn2 := pn
  rw [show (-cc : Int) = 0 - cc by omega] at pn2
  rw [show (((0 - cc : Int)) : Rat) = ((-cc : Int) : Rat) by rw [Int.zero_sub]] at pn2
  refine aloop_w (.nilv 33 (by simp (disch := omega) only [wk, tis, seval, reduceCtorEq, Nat.reduceEqDiff, rqs, Bool.true_beq, Bool.false_beq, Bool.not_true, Bool.not_false]) (.refl _ _)) (fun f H => ∃ (i : Nat), i ≤ n + 1 ∧ f 34 = .iv (.int .i64 i) ∧ f 2 = .iv (.int .i64 cc) ∧ f 7 = .iv (.sl (raws (T.map canon))) ∧ f 8 = .hp 8 1 0 0 ∧ H 8 = .blk false 1 35 3 [qrow (crat x)] ∧ f 9 = .hp 9 1 0 0 ∧ H 9 = .blk false 1 35 3 [qrow (crat y)] ∧ f 15 = .iv (.int .i64 v1) ∧ f 33 = .iv (.sl (rats (cqs (csq (qp T) [((-cc : Int) : Rat), 1] i))))) (fun f H => (n + 1 - intAt f 34).toNat) ?_ ?_
  · refine ⟨0, by omega, ?_⟩
    simp (disch := omega) only [wk, tis, seval, reduceCtorEq, Nat.reduceEqDiff, rqs, Bool.true_beq, Bool.false_beq, Bool.not_true, Bool.not_false, hF, eM0]
  rintro f H ⟨i, hi, hF⟩
  rw [intAt_of hF.1]
  simp (disch := omega) only [wk, tis, seval, reduceCtorEq, Nat.reduceEqDiff, rqs, Bool.true_beq, Bool.false_beq, Bool.not_true, Bool.not_false, hF]
  by_cases hlt : i < n + 1
  · have hlt' : (i : Int) < ((n + 1 : Nat) : Int) := by omega
    have gT := canon_getD T i
    have zz := hZ_ok (canon (cf T i)) ((sz_canon _).mono (Nat.le_trans (hTb.cf i) (by omega)))
    rw [iv_canon] at zz
    have pw := tpower_ok ((-cc : Int) : Rat) i (by omega) (by omega)
    have st := tstep_ok ((-cc : Int) : Rat) T i (by omega) (hT11.mono (by omega) (by omega)) (by omega)
    simp (disch := omega) only [wk, tis, seval, reduceCtorEq, Nat.reduceEqDiff, rqs, Bool.true_beq, Bool.false_beq, Bool.not_true, Bool.not_false, hF, hcT, hlt', gT]
    refine call_by (zz) (by first | rfl | (simp only [tocvs, tocv, hF, hcT, gT]; rfl) | (simp only [tocvs, tocv, toboxes, tobox, updH_at, Nat.reduceEqDiff, ↓reduceIte, hF, hcT, gT]; rfl)) (by simp) ?_
    simp (disch := omega) only [wk, tis, seval, reduceCtorEq, Nat.reduceEqDiff, rqs, Bool.true_beq, Bool.false_beq, Bool.not_true, Bool.not_false, hF, hcT, gT]
    refine call_by (pn2) (by first | rfl | (simp only [tocvs, tocv, hF, hcT]; rfl) | (simp only [tocvs, tocv, toboxes, tobox, updH_at, Nat.reduceEqDiff, ↓reduceIte, hF, hcT]; rfl)) (by simp) ?_
    simp (disch := omega) only [wk, tis, seval, reduceCtorEq, Nat.reduceEqDiff, rqs, Bool.true_beq, Bool.false_beq, Bool.not_true, Bool.not_false, hF, hcT]
    refine call_by (p1) (by first | rfl | (simp only [tocvs, tocv, hF, hcT, rats_two]; rfl) | (simp only [tocvs, tocv, toboxes, tobox, updH_at, Nat.reduceEqDiff, ↓reduceIte, hF, hcT, rats_two]; rfl)) (by simp) ?_
    simp (disch := omega) only [wk, tis, seval, reduceCtorEq, Nat.reduceEqDiff, rqs, Bool.true_beq, Bool.false_beq, Bool.not_true, Bool.not_false, hF, hcT, rats_two]
    refine call_by (pw) (by first | rfl | (simp only [tocvs, tocv, hF, hcT, rats_two]; rfl) | (simp only [tocvs, tocv, toboxes, tobox, updH_at, Nat.reduceEqDiff, ↓reduceIte, hF, hcT, rats_two]; rfl)) (by simp) ?_
    simp (disch := omega) only [wk, tis, seval, reduceCtorEq, Nat.reduceEqDiff, rqs, Bool.true_beq, Bool.false_beq, Bool.not_true, Bool.not_false, hF, hcT, rats_two]
    refine call_by (st) (by first | rfl | (simp only [tocvs, tocv, hF, hcT]; rfl) | (simp only [tocvs, tocv, toboxes, tobox, updH_at, Nat.reduceEqDiff, ↓reduceIte, hF, hcT]; rfl)) (by simp) ?_
    simp (disch := omega) only [wk, tis, seval, reduceCtorEq, Nat.reduceEqDiff, rqs, Bool.true_beq, Bool.false_beq, Bool.not_true, Bool.not_false, hF, hcT]
    refine ⟨⟨i + 1, by omega, ?_⟩, by omega⟩
    (repeat' apply And.intro) <;> first | rfl | omega
  obtain rfl : i = n + 1 := by omega
  have hge : ¬ ((n + 1 : Nat) : Int) < ((n + 1 : Nat) : Int) := by omega
  simp (disch := omega) only [wk, tis, seval, reduceCtorEq, Nat.reduceEqDiff, rqs, Bool.true_beq, Bool.false_beq, Bool.not_true, Bool.not_false, hF, hcT, hge]
  refine ⟨tmps_by (by kernel_rfl), ?_⟩
  refine call_by (wh) (by first | rfl | (simp only [tocvs, tocv, hF]; rfl) | (simp only [tocvs, tocv, toboxes, tobox, updH_at, Nat.reduceEqDiff, ↓reduceIte, hF]; rfl)) (by simp) ?_
  simp (disch := omega) only [wk, tis, seval, reduceCtorEq, Nat.reduceEqDiff, rqs, Bool.true_beq, Bool.false_beq, Bool.not_true, Bool.not_false, hF]
  refine call_by (pc) (by first | rfl | (simp only [tocvs, tocv, hF]; rfl) | (simp only [tocvs, tocv, toboxes, tobox, updH_at, Nat.reduceEqDiff, ↓reduceIte, hF]; rfl)) (by simp) ?_
  simp (disch := omega) only [wk, tis, seval, reduceCtorEq, Nat.reduceEqDiff, rqs, Bool.true_beq, Bool.false_beq, Bool.not_true, Bool.not_false, hF]
  refine call_by (plx) (by first | rfl | (simp only [tocvs, tocv, hF]; rfl) | (simp only [tocvs, tocv, toboxes, tobox, updH_at, Nat.reduceEqDiff, ↓reduceIte, hF]; rfl)) (by simp) ?_
  simp (disch := omega) only [wk, tis, seval, reduceCtorEq, Nat.reduceEqDiff, rqs, Bool.true_beq, Bool.false_beq, Bool.not_true, Bool.not_false, hF]
  refine call_by (pc) (by first | rfl | (simp only [tocvs, tocv, hF]; rfl) | (simp only [tocvs, tocv, toboxes, tobox, updH_at, Nat.reduceEqDiff, ↓reduceIte, hF]; rfl)) (by simp) ?_
  simp (disch := omega) only [wk, tis, seval, reduceCtorEq, Nat.reduceEqDiff, rqs, Bool.true_beq, Bool.false_beq, Bool.not_true, Bool.not_false, hF]
  refine call_by (ply) (by first | rfl | (simp only [tocvs, tocv, hF]; rfl) | (simp only [tocvs, tocv, toboxes, tobox, updH_at, Nat.reduceEqDiff, ↓reduceIte, hF]; rfl)) (by simp) ?_
  simp (disch := omega) only [wk, tis, seval, reduceCtorEq, Nat.reduceEqDiff, rqs, Bool.true_beq, Bool.false_beq, Bool.not_true, Bool.not_false, hF]
  refine call_by (in4) (by first | rfl | (simp only [tocvs, tocv, hF]; rfl) | (simp only [tocvs, tocv, toboxes, tobox, updH_at, Nat.reduceEqDiff, ↓reduceIte, hF]; rfl)) (by simp) ?_
  simp (disch := omega) only [wk, tis, seval, reduceCtorEq, Nat.reduceEqDiff, rqs, Bool.true_beq, Bool.false_beq, Bool.not_true, Bool.not_false, hF]
  first | exact log_by (by kernel_rfl) | refine ⟨log_by (by kernel_rfl), ?_⟩
  refine call_by (fo) (by first | rfl | (simp only [tocvs, tocv, hF]; rfl) | (simp only [tocvs, tocv, toboxes, tobox, updH_at, Nat.reduceEqDiff, ↓reduceIte, hF]; rfl)) (by simp) ?_
  simp (disch := omega) only [wk, tis, seval, reduceCtorEq, Nat.reduceEqDiff, rqs, Bool.true_beq, Bool.false_beq, Bool.not_true, Bool.not_false, hF]
  refine call_by (s1) (by first | rfl | (simp only [tocvs, tocv, hF]; rfl) | (simp only [tocvs, tocv, toboxes, tobox, updH_at, Nat.reduceEqDiff, ↓reduceIte, hF]; rfl)) (by simp) ?_
  simp (disch := omega) only [wk, tis, seval, reduceCtorEq, Nat.reduceEqDiff, rqs, Bool.true_beq, Bool.false_beq, Bool.not_true, Bool.not_false, hF]
  refine ⟨tmps_by (by kernel_rfl), ?_⟩
  refine call_by (wh) (by first | rfl | (simp only [tocvs, tocv, hF]; rfl) | (simp only [tocvs, tocv, toboxes, tobox, updH_at, Nat.reduceEqDiff, ↓reduceIte, hF]; rfl)) (by simp) ?_
  simp (disch := omega) only [wk, tis, seval, reduceCtorEq, Nat.reduceEqDiff, rqs, Bool.true_beq, Bool.false_beq, Bool.not_true, Bool.not_false, hF]
  refine call_by (plx) (by first | rfl | (simp only [tocvs, tocv, hF]; rfl) | (simp only [tocvs, tocv, toboxes, tobox, updH_at, Nat.reduceEqDiff, ↓reduceIte, hF]; rfl)) (by simp) ?_
  simp (disch := omega) only [wk, tis, seval, reduceCtorEq, Nat.reduceEqDiff, rqs, Bool.true_beq, Bool.false_beq, Bool.not_true, Bool.not_false, hF]
  refine call_by (s2) (by first | rfl | (simp only [tocvs, tocv, hF]; rfl) | (simp only [tocvs, tocv, toboxes, tobox, updH_at, Nat.reduceEqDiff, ↓reduceIte, hF]; rfl)) (by simp) ?_
  simp (disch := omega) only [wk, tis, seval, reduceCtorEq, Nat.reduceEqDiff, rqs, Bool.true_beq, Bool.false_beq, Bool.not_true, Bool.not_false, hF]
  first | exact log_by (by kernel_rfl) | refine ⟨log_by (by kernel_rfl), ?_⟩
  refine call_by (is) (by first | rfl | (simp only [tocvs, tocv, hF]; rfl) | (simp only [tocvs, tocv, toboxes, tobox, updH_at, Nat.reduceEqDiff, ↓reduceIte, hF]; rfl)) (by simp) ?_
  simp (disch := omega) only [wk, tis, seval, reduceCtorEq, Nat.reduceEqDiff, rqs, Bool.true_beq, Bool.false_beq, Bool.not_true, Bool.not_false, hF]
  try rfl
theorem moves16_law2 (R : List (Int × Int)) (Q : List Int) (f : Int) (r0 r1 : Int × Int) (c : Int) (hR : RawR R) (hQ : RawI Q) (h1 : -9223372036854775808 ≤ f) (h2 : f ≤ 9223372036854775807) (h3 : RawRt r0) (h4 : RawRt r1) (h5 : -9223372036854775808 ≤ c) (h6 : c ≤ 9223372036854775807) :
    AC Tryz.prog 4 [.agg (kn R Q f), .agg [.int .i64 r0.1, .int .i64 r0.2, .int .i64 r1.1, .int .i64 r1.2], ci c] none [cb true] := moves16_law R Q f r0 r1 c hR.1 hQ.1
end Go.Proofs.YtcocppjgbcbndaaGreat

namespace Go.Proofs.YtcocppjgbcbndaaGreat
open Go Go.Proofs Go.AL
set_option linter.unusedSimpArgs false
set_option linter.unusedVariables false
theorem sgq_gt {a b : Rat} : 0 < sgq (a - b) ↔ b < a := by
  rw [sgq_lt.2.2]
  constructor <;> intro h <;> grind
theorem chq_le (n : Nat) (F : PQ) : chq n F ≤ n + 1 := by
  have l1 := sgs_len n F
  have b1 := chf_le (sgs n F) (n + 1) (by omega)
  rw [List.take_of_length_le (by omega)] at b1
  exact b1
set_option maxRecDepth 100000 in
set_option maxHeartbeats 4000000 in
theorem between16_law (R : List (Int × Int)) (Q : List Int) (ft : Int) (r0 r1 r2 : Int × Int) (hR : R.length ≤ 9223372036854775807) (hQ : Q.length ≤ 9223372036854775807) :
    AC Tryz.prog 5 [.agg (kn R Q ft), .agg [.int .i64 r0.1, .int .i64 r0.2, .int .i64 r1.1, .int .i64 r1.2, .int .i64 r2.1, .int .i64 r2.2]] none [cb true] := by
  have kp1 := kpoly_ok R Q ft hR hQ
  obtain ⟨n, hn, ht0, KFh⟩ := kf_of R Q ft
  obtain ⟨hPb, _⟩ := kp_facts R Q ft
  generalize kp R Q ft = P at *
  rw [show cp P = cw ((trimz P).map canon) from rfl] at kp1
  have hTb : PB 19 17 (trimz P) := hPb.trimz
  have hTl : (trimz P).length = n + 1 := by rw [trimz_len]; exact ht0
  have ht : tz (trimz P) = n + 1 := by rw [tz_eq_of_cf (cf_trimz P)]; exact ht0
  generalize trimz P = T at *
  clear ht0 hPb
  have rT : RP 40 400 (T.map canon) := (RP.canon hTb).mono (by omega) (by omega)
  have pT : pv (T.map canon) = T := pv_canon T
  have a0 := rat_ok r0
  have a1 := rat_ok r1
  have a2 := rat_ok r2
  have z0 := rtq_z r0
  have z1 := rtq_z r1
  have z2 := rtq_z r2
  generalize rtq r0 = x0 at *
  generalize rtq r1 = x1 at *
  generalize rtq r2 = x2 at *
  have ord : ∀ a b : Rat, qz a ≤ 1 → qz b ≤ 1 → AC Tryz.prog 15 [cqz a, cqz b] none [ci (sgq (a - b))] := fun a b ha hb => by
    have o := horder_ok (crat a) (crat b) (szq_crat (by omega)) (szq_crat (by omega)) (nv_crat0 _) (nv_crat0 _)
    rwa [qv_crat, qv_crat] at o
  have o1 := ord x0 x1 z0 z1
  refine AC.by_walk (rs := [.tmp 4]) ords Tryz.func5 (by rfl) (by rfl) (by rfl) (by rfl) (by rfl) ?_
  simp (disch := omega) only [wk, tis, seval, reduceCtorEq, Nat.reduceEqDiff, rqs, Bool.true_beq, Bool.false_beq, Bool.not_true, Bool.not_false]
  refine call_by (known16_ok) (by rfl) (by simp) ?_
  simp (disch := omega) only [wk, tis, seval, reduceCtorEq, Nat.reduceEqDiff, rqs, Bool.true_beq, Bool.false_beq, Bool.not_true, Bool.not_false]
  refine call_by (kp1) (by rfl) (by simp) ?_
  simp (disch := omega) only [wk, tis, seval, reduceCtorEq, Nat.reduceEqDiff, rqs, Bool.true_beq, Bool.false_beq, Bool.not_true, Bool.not_false]
  refine ⟨tmps_by (by kernel_rfl), ?_⟩
  refine call_by (a0) (by rfl) (by simp) ?_
  simp (disch := omega) only [wk, tis, seval, reduceCtorEq, Nat.reduceEqDiff, rqs, Bool.true_beq, Bool.false_beq, Bool.not_true, Bool.not_false]
  refine call_by (a1) (by rfl) (by simp) ?_
  simp (disch := omega) only [wk, tis, seval, reduceCtorEq, Nat.reduceEqDiff, rqs, Bool.true_beq, Bool.false_beq, Bool.not_true, Bool.not_false]
  refine call_by (a2) (by rfl) (by simp) ?_
  simp (disch := omega) only [wk, tis, seval, reduceCtorEq, Nat.reduceEqDiff, rqs, Bool.true_beq, Bool.false_beq, Bool.not_true, Bool.not_false]
  first | exact log_by (by kernel_rfl) | refine ⟨log_by (by kernel_rfl), ?_⟩
  refine call_by (o1) (by rfl) (by simp) ?_
  simp (disch := omega) only [wk, tis, seval, reduceCtorEq, Nat.reduceEqDiff, rqs, Bool.true_beq, Bool.false_beq, Bool.not_true, Bool.not_false]
  refine if_cut (fun f1 H => ∃ X Y : Rat, X ≤ Y ∧ qz X ≤ 1 ∧ qz Y ≤ 1 ∧ f1 2 = .hp 2 1 0 0 ∧ H 2 = .blk false 1 25 3 [kn R Q ft] ∧ f1 5 = .iv (.sl (raws (T.map canon))) ∧ f1 6 = .hp 6 1 0 0 ∧ H 6 = .blk false 1 35 3 [qrow (crat X)] ∧ f1 7 = .hp 7 1 0 0 ∧ H 7 = .blk false 1 35 3 [qrow (crat Y)] ∧ f1 8 = .hp 8 1 0 0 ∧ H 8 = .blk false 1 35 3 [qrow (crat x2)]) ?_ ?_
  · refine if_by (fun h => ?_) (fun h => ?_)
    · have hlt := sgq_gt.mp h
      simp (disch := omega) only [wk, tis, seval, reduceCtorEq, Nat.reduceEqDiff, rqs, Bool.true_beq, Bool.false_beq, Bool.not_true, Bool.not_false]
      refine ⟨x1, x0, by grind, z1, z0, ?_⟩
      try (repeat' apply And.intro) <;> first | rfl | omega
    · have hlt : x0 ≤ x1 := Rat.not_lt.mp fun e => h (sgq_gt.mpr e)
      simp (disch := omega) only [wk, tis, seval, reduceCtorEq, Nat.reduceEqDiff, rqs, Bool.true_beq, Bool.false_beq, Bool.not_true, Bool.not_false]
      refine ⟨x0, x1, hlt, z0, z1, ?_⟩
      try (repeat' apply And.intro) <;> first | rfl | omega
  rintro f1 H ⟨X1, Y1, hXY, zX1, zY1, g2, h2, g5, g6, h6, g7, h7, g8, h8⟩
  have o2 := ord Y1 x2 zY1 z2
  simp (disch := omega) only [wk, tis, seval, reduceCtorEq, Nat.reduceEqDiff, rqs, Bool.true_beq, Bool.false_beq, Bool.not_true, Bool.not_false, g2, h2, g5, g6, h6, g7, h7, g8, h8]
  refine call_by (o2) (by first | rfl | (simp only [tocvs, tocv, g2, h2, g5, g6, h6, g7, h7, g8, h8]; rfl) | (simp only [tocvs, tocv, toboxes, tobox, updH_at, Nat.reduceEqDiff, ↓reduceIte, g2, h2, g5, g6, h6, g7, h7, g8, h8]; rfl)) (by simp) ?_
  simp (disch := omega) only [wk, tis, seval, reduceCtorEq, Nat.reduceEqDiff, rqs, Bool.true_beq, Bool.false_beq, Bool.not_true, Bool.not_false, g2, h2, g5, g6, h6, g7, h7, g8, h8]
  refine if_cut (fun f1 H => ∃ X Y Z : Rat, X ≤ Z ∧ Y ≤ Z ∧ qz X ≤ 1 ∧ qz Y ≤ 1 ∧ qz Z ≤ 1 ∧ f1 2 = .hp 2 1 0 0 ∧ H 2 = .blk false 1 25 3 [kn R Q ft] ∧ f1 5 = .iv (.sl (raws (T.map canon))) ∧ f1 6 = .hp 6 1 0 0 ∧ H 6 = .blk false 1 35 3 [qrow (crat X)] ∧ f1 7 = .hp 7 1 0 0 ∧ H 7 = .blk false 1 35 3 [qrow (crat Y)] ∧ f1 8 = .hp 8 1 0 0 ∧ H 8 = .blk false 1 35 3 [qrow (crat Z)]) ?_ ?_
  · refine if_by (fun h => ?_) (fun h => ?_)
    · have hlt := sgq_gt.mp h
      simp (disch := omega) only [wk, tis, seval, reduceCtorEq, Nat.reduceEqDiff, rqs, Bool.true_beq, Bool.false_beq, Bool.not_true, Bool.not_false, g2, h2, g5, g6, h6, g7, h7, g8, h8]
      refine ⟨X1, x2, Y1, hXY, by grind, zX1, z2, zY1, ?_⟩
      try (repeat' apply And.intro) <;> first | rfl | omega
    · have hlt : Y1 ≤ x2 := Rat.not_lt.mp fun e => h (sgq_gt.mpr e)
      simp (disch := omega) only [wk, tis, seval, reduceCtorEq, Nat.reduceEqDiff, rqs, Bool.true_beq, Bool.false_beq, Bool.not_true, Bool.not_false, g2, h2, g5, g6, h6, g7, h7, g8, h8]
      refine ⟨X1, Y1, x2, Rat.le_trans hXY hlt, hlt, zX1, zY1, z2, ?_⟩
      try (repeat' apply And.intro) <;> first | rfl | omega
  clear g2 h2 g5 g6 h6 g7 h7 g8 h8
  rintro f1 H ⟨X2, Y2, Z, hXZ, hYZ, zX2, zY2, zZ, g2, h2, g5, g6, h6, g7, h7, g8, h8⟩
  have o3 := ord X2 Y2 zX2 zY2
  simp (disch := omega) only [wk, tis, seval, reduceCtorEq, Nat.reduceEqDiff, rqs, Bool.true_beq, Bool.false_beq, Bool.not_true, Bool.not_false, g2, h2, g5, g6, h6, g7, h7, g8, h8]
  refine call_by (o3) (by first | rfl | (simp only [tocvs, tocv, g2, h2, g5, g6, h6, g7, h7, g8, h8]; rfl) | (simp only [tocvs, tocv, toboxes, tobox, updH_at, Nat.reduceEqDiff, ↓reduceIte, g2, h2, g5, g6, h6, g7, h7, g8, h8]; rfl)) (by simp) ?_
  simp (disch := omega) only [wk, tis, seval, reduceCtorEq, Nat.reduceEqDiff, rqs, Bool.true_beq, Bool.false_beq, Bool.not_true, Bool.not_false, g2, h2, g5, g6, h6, g7, h7, g8, h8]
  refine if_cut (fun f1 H => ∃ X Y : Rat, X ≤ Y ∧ Y ≤ Z ∧ qz X ≤ 1 ∧ qz Y ≤ 1 ∧ f1 2 = .hp 2 1 0 0 ∧ H 2 = .blk false 1 25 3 [kn R Q ft] ∧ f1 5 = .iv (.sl (raws (T.map canon))) ∧ f1 6 = .hp 6 1 0 0 ∧ H 6 = .blk false 1 35 3 [qrow (crat X)] ∧ f1 7 = .hp 7 1 0 0 ∧ H 7 = .blk false 1 35 3 [qrow (crat Y)] ∧ f1 8 = .hp 8 1 0 0 ∧ H 8 = .blk false 1 35 3 [qrow (crat Z)]) ?_ ?_
  · refine if_by (fun h => ?_) (fun h => ?_)
    · have hlt := sgq_gt.mp h
      simp (disch := omega) only [wk, tis, seval, reduceCtorEq, Nat.reduceEqDiff, rqs, Bool.true_beq, Bool.false_beq, Bool.not_true, Bool.not_false, g2, h2, g5, g6, h6, g7, h7, g8, h8]
      refine ⟨Y2, X2, by grind, hXZ, zY2, zX2, ?_⟩
      try (repeat' apply And.intro) <;> first | rfl | omega
    · have hlt : X2 ≤ Y2 := Rat.not_lt.mp fun e => h (sgq_gt.mpr e)
      simp (disch := omega) only [wk, tis, seval, reduceCtorEq, Nat.reduceEqDiff, rqs, Bool.true_beq, Bool.false_beq, Bool.not_true, Bool.not_false, g2, h2, g5, g6, h6, g7, h7, g8, h8]
      refine ⟨X2, Y2, hlt, hYZ, zX2, zY2, ?_⟩
      try (repeat' apply And.intro) <;> first | rfl | omega
  clear g2 h2 g5 g6 h6 g7 h7 g8 h8 hXZ hYZ
  rintro f1 H ⟨X, Y, hXY, hYZ, zX, zY, g2, h2, g5, g6, h6, g7, h7, g8, h8⟩
  have hXZ : X ≤ Z := Rat.le_trans hXY hYZ
  have b1 := sbudan_ok (T.map canon) n X Y rT (by rw [pT]; exact ht) (by omega) (by omega) (by omega) hXY
  have b2 := sbudan_ok (T.map canon) n Y Z rT (by rw [pT]; exact ht) (by omega) (by omega) (by omega) hYZ
  have b3 := sbudan_ok (T.map canon) n X Z rT (by rw [pT]; exact ht) (by omega) (by omega) (by omega) hXZ
  rw [pT] at b1 b2 b3
  have k1 := KFh.bud X Y hXY
  have k2 := KFh.bud Y Z hYZ
  have k3 := KFh.bud X Z hXZ
  have c1 := kcount_ok R Q ft X Y false true hR (by omega) (by omega)
  have c3 := kcount_ok R Q ft X Z false true hR (by omega) (by omega)
  have v1 := chq_le n (cmq (qp T) (lin X 1))
  have v2 := chq_le n (cmq (qp T) (lin Y 1))
  have v3 := chq_le n (cmq (qp T) (lin Z 1))
  generalize chq n (cmq (qp T) (lin X 1)) = V1 at *
  generalize chq n (cmq (qp T) (lin Y 1)) = V2 at *
  generalize chq n (cmq (qp T) (lin Z 1)) = V3 at *
  have fa := kfits_ok R Q ft (V1 - V2) (cntk R X Y false true 6) (by omega) (by omega) k1.2.1 k1.2.2
  have fb := kfits_ok R Q ft (V1 - V3) (cntk R X Z false true 6) (by omega) (by omega) k3.2.1 k3.2.2
  rw [show (V1 : Int) - (V2 : Int) = ((V1 - V2 : Nat) : Int) by omega] at b1
  rw [show (V2 : Int) - (V3 : Int) = ((V2 - V3 : Nat) : Int) by omega] at b2
  rw [show (V1 : Int) - (V3 : Int) = ((V1 - V3 : Nat) : Int) by omega] at b3
  have e12 : ((V1 - V2 : Nat) : Int) + ((V2 - V3 : Nat) : Int) = ((V1 - V3 : Nat) : Int) := by omega
  have oz := ord X Z zX zZ
  simp (disch := omega) only [wk, tis, seval, reduceCtorEq, Nat.reduceEqDiff, rqs, Bool.true_beq, Bool.false_beq, Bool.not_true, Bool.not_false, g2, h2, g5, g6, h6, g7, h7, g8, h8]
  refine call_by (b1) (by first | rfl | (simp only [tocvs, tocv, g2, h2, g5, g6, h6, g7, h7, g8, h8]; rfl) | (simp only [tocvs, tocv, toboxes, tobox, updH_at, Nat.reduceEqDiff, ↓reduceIte, g2, h2, g5, g6, h6, g7, h7, g8, h8]; rfl)) (by simp) ?_
  simp (disch := omega) only [wk, tis, seval, reduceCtorEq, Nat.reduceEqDiff, rqs, Bool.true_beq, Bool.false_beq, Bool.not_true, Bool.not_false, g2, h2, g5, g6, h6, g7, h7, g8, h8]
  refine call_by (b2) (by first | rfl | (simp only [tocvs, tocv, g2, h2, g5, g6, h6, g7, h7, g8, h8]; rfl) | (simp only [tocvs, tocv, toboxes, tobox, updH_at, Nat.reduceEqDiff, ↓reduceIte, g2, h2, g5, g6, h6, g7, h7, g8, h8]; rfl)) (by simp) ?_
  simp (disch := omega) only [wk, tis, seval, reduceCtorEq, Nat.reduceEqDiff, rqs, Bool.true_beq, Bool.false_beq, Bool.not_true, Bool.not_false, g2, h2, g5, g6, h6, g7, h7, g8, h8]
  refine call_by (b3) (by first | rfl | (simp only [tocvs, tocv, g2, h2, g5, g6, h6, g7, h7, g8, h8, e12]; rfl) | (simp only [tocvs, tocv, toboxes, tobox, updH_at, Nat.reduceEqDiff, ↓reduceIte, g2, h2, g5, g6, h6, g7, h7, g8, h8, e12]; rfl)) (by simp) ?_
  simp (disch := omega) only [wk, tis, seval, reduceCtorEq, Nat.reduceEqDiff, rqs, Bool.true_beq, Bool.false_beq, Bool.not_true, Bool.not_false, g2, h2, g5, g6, h6, g7, h7, g8, h8, e12]
  refine ⟨tmps_by (by kernel_rfl), ?_⟩
  refine call_by (c1) (by first | rfl | (simp only [tocvs, tocv, g2, h2, g5, g6, h6, g7, h7, g8, h8, e12]; rfl) | (simp only [tocvs, tocv, toboxes, tobox, updH_at, Nat.reduceEqDiff, ↓reduceIte, g2, h2, g5, g6, h6, g7, h7, g8, h8, e12]; rfl)) (by simp) ?_
  simp (disch := omega) only [wk, tis, seval, reduceCtorEq, Nat.reduceEqDiff, rqs, Bool.true_beq, Bool.false_beq, Bool.not_true, Bool.not_false, g2, h2, g5, g6, h6, g7, h7, g8, h8, e12]
  refine call_by (fa) (by first | rfl | (simp only [tocvs, tocv, g2, h2, g5, g6, h6, g7, h7, g8, h8, e12]; rfl) | (simp only [tocvs, tocv, toboxes, tobox, updH_at, Nat.reduceEqDiff, ↓reduceIte, g2, h2, g5, g6, h6, g7, h7, g8, h8, e12]; rfl)) (by simp) ?_
  simp (disch := omega) only [wk, tis, seval, reduceCtorEq, Nat.reduceEqDiff, rqs, Bool.true_beq, Bool.false_beq, Bool.not_true, Bool.not_false, g2, h2, g5, g6, h6, g7, h7, g8, h8, e12]
  refine call_by (c3) (by first | rfl | (simp only [tocvs, tocv, g2, h2, g5, g6, h6, g7, h7, g8, h8, e12]; rfl) | (simp only [tocvs, tocv, toboxes, tobox, updH_at, Nat.reduceEqDiff, ↓reduceIte, g2, h2, g5, g6, h6, g7, h7, g8, h8, e12]; rfl)) (by simp) ?_
  simp (disch := omega) only [wk, tis, seval, reduceCtorEq, Nat.reduceEqDiff, rqs, Bool.true_beq, Bool.false_beq, Bool.not_true, Bool.not_false, g2, h2, g5, g6, h6, g7, h7, g8, h8, e12]
  refine call_by (fb) (by first | rfl | (simp only [tocvs, tocv, g2, h2, g5, g6, h6, g7, h7, g8, h8, e12]; rfl) | (simp only [tocvs, tocv, toboxes, tobox, updH_at, Nat.reduceEqDiff, ↓reduceIte, g2, h2, g5, g6, h6, g7, h7, g8, h8, e12]; rfl)) (by simp) ?_
  simp (disch := omega) only [wk, tis, seval, reduceCtorEq, Nat.reduceEqDiff, rqs, Bool.true_beq, Bool.false_beq, Bool.not_true, Bool.not_false, g2, h2, g5, g6, h6, g7, h7, g8, h8, e12]
  first | exact log_by (by kernel_rfl) | refine ⟨log_by (by kernel_rfl), ?_⟩
  by_cases hz : X = Z
  · subst hz
    rw [show X - X = 0 by grind, sgq_zero] at oz
    have ib := sin_bad (T.map canon) X rT (by rw [pT]; omega) (by omega)
    refine call_by (oz) (by first | rfl | (simp only [tocvs, tocv, g2, h2, g5, g6, h6, g7, h7, g8, h8]; rfl) | (simp only [tocvs, tocv, toboxes, tobox, updH_at, Nat.reduceEqDiff, ↓reduceIte, g2, h2, g5, g6, h6, g7, h7, g8, h8]; rfl)) (by simp) ?_
    simp (disch := omega) only [wk, tis, seval, reduceCtorEq, Nat.reduceEqDiff, rqs, Bool.true_beq, Bool.false_beq, Bool.not_true, Bool.not_false, g2, h2, g5, g6, h6, g7, h7, g8, h8]
    refine call_by (ib) (by first | rfl | (simp only [tocvs, tocv, g2, h2, g5, g6, h6, g7, h7, g8, h8]; rfl) | (simp only [tocvs, tocv, toboxes, tobox, updH_at, Nat.reduceEqDiff, ↓reduceIte, g2, h2, g5, g6, h6, g7, h7, g8, h8]; rfl)) (by simp) ?_
    simp (disch := omega) only [wk, tis, seval, reduceCtorEq, Nat.reduceEqDiff, rqs, Bool.true_beq, Bool.false_beq, Bool.not_true, Bool.not_false, g2, h2, g5, g6, h6, g7, h7, g8, h8]
    try rfl
  have hlt : X < Z := by grind
  have hs : ¬ sgq (X - Z) = 0 := fun e => hz (by have := sgq_lt.2.1.mp e; grind)
  have zd := qz_sub Z X
  have i1 := in_law (T.map canon) n X Z rT (by rw [pT]; exact ht) (by omega) (by omega) (by omega) hlt (by omega)
  rw [pT] at i1
  have ki := KFh.inn X Z hlt
  have vi := chq_le n (hq (lin X Z) (lin 1 1) n (cfq (qp T)))
  generalize chq n (hq (lin X Z) (lin 1 1) n (cfq (qp T))) = vv at *
  have t1 := stest_ok (T.map canon) X Z vv 0 (by omega) i1
  have ci := kcount_ok R Q ft X Z false false hR (by omega) (by omega)
  have fi := kfits_ok R Q ft vv (cntk R X Z false false 6) (by omega) ki.1 ki.2.1 ki.2.2
  have bb := sbudan_bad (T.map canon) Z X rT (by rw [pT]; omega) (by omega) (by omega) hlt
  generalize cntk R X Z false false 6 = cc at *
  generalize sgq (X - Z) = sx at *
  rcases (show vv = 0 ∨ vv = 1 ∨ 2 ≤ vv by omega) with e | e | e
  · subst e
    obtain rfl : cc = 0 := by omega
    have hmin : min (0 : Int) 2 = 0 := by omega
    rw [show ((0 : Nat) : Int) = 0 from rfl] at i1 t1 ci fi
    rw [hmin] at t1
    refine call_by (oz) (by first | rfl | (simp only [tocvs, tocv, g2, h2, g5, g6, h6, g7, h7, g8, h8, hs]; rfl) | (simp only [tocvs, tocv, toboxes, tobox, updH_at, Nat.reduceEqDiff, ↓reduceIte, g2, h2, g5, g6, h6, g7, h7, g8, h8, hs]; rfl)) (by simp) ?_
    simp (disch := omega) only [wk, tis, seval, reduceCtorEq, Nat.reduceEqDiff, rqs, Bool.true_beq, Bool.false_beq, Bool.not_true, Bool.not_false, g2, h2, g5, g6, h6, g7, h7, g8, h8, hs]
    refine call_by (i1) (by first | rfl | (simp only [tocvs, tocv, g2, h2, g5, g6, h6, g7, h7, g8, h8]; rfl) | (simp only [tocvs, tocv, toboxes, tobox, updH_at, Nat.reduceEqDiff, ↓reduceIte, g2, h2, g5, g6, h6, g7, h7, g8, h8]; rfl)) (by simp) ?_
    simp (disch := omega) only [wk, tis, seval, reduceCtorEq, Nat.reduceEqDiff, rqs, Bool.true_beq, Bool.false_beq, Bool.not_true, Bool.not_false, g2, h2, g5, g6, h6, g7, h7, g8, h8]
    refine call_by (t1) (by first | rfl | (simp only [tocvs, tocv, g2, h2, g5, g6, h6, g7, h7, g8, h8]; rfl) | (simp only [tocvs, tocv, toboxes, tobox, updH_at, Nat.reduceEqDiff, ↓reduceIte, g2, h2, g5, g6, h6, g7, h7, g8, h8]; rfl)) (by simp) ?_
    simp (disch := omega) only [wk, tis, seval, reduceCtorEq, Nat.reduceEqDiff, rqs, Bool.true_beq, Bool.false_beq, Bool.not_true, Bool.not_false, g2, h2, g5, g6, h6, g7, h7, g8, h8]
    refine call_by (ci) (by first | rfl | (simp only [tocvs, tocv, g2, h2, g5, g6, h6, g7, h7, g8, h8]; rfl) | (simp only [tocvs, tocv, toboxes, tobox, updH_at, Nat.reduceEqDiff, ↓reduceIte, g2, h2, g5, g6, h6, g7, h7, g8, h8]; rfl)) (by simp) ?_
    simp (disch := omega) only [wk, tis, seval, reduceCtorEq, Nat.reduceEqDiff, rqs, Bool.true_beq, Bool.false_beq, Bool.not_true, Bool.not_false, g2, h2, g5, g6, h6, g7, h7, g8, h8]
    refine call_by (bb) (by first | rfl | (simp only [tocvs, tocv, g2, h2, g5, g6, h6, g7, h7, g8, h8]; rfl) | (simp only [tocvs, tocv, toboxes, tobox, updH_at, Nat.reduceEqDiff, ↓reduceIte, g2, h2, g5, g6, h6, g7, h7, g8, h8]; rfl)) (by simp) ?_
    simp (disch := omega) only [wk, tis, seval, reduceCtorEq, Nat.reduceEqDiff, rqs, Bool.true_beq, Bool.false_beq, Bool.not_true, Bool.not_false, g2, h2, g5, g6, h6, g7, h7, g8, h8]
    refine call_by (fi) (by first | rfl | (simp only [tocvs, tocv, g2, h2, g5, g6, h6, g7, h7, g8, h8, hmin]; rfl) | (simp only [tocvs, tocv, toboxes, tobox, updH_at, Nat.reduceEqDiff, ↓reduceIte, g2, h2, g5, g6, h6, g7, h7, g8, h8, hmin]; rfl)) (by simp) ?_
    simp (disch := omega) only [wk, tis, seval, reduceCtorEq, Nat.reduceEqDiff, rqs, Bool.true_beq, Bool.false_beq, Bool.not_true, Bool.not_false, g2, h2, g5, g6, h6, g7, h7, g8, h8, hmin]
    try rfl
  · subst e
    obtain rfl : cc = 1 := by omega
    have hmin : min (1 : Int) 2 = 1 := by omega
    rw [show ((1 : Nat) : Int) = 1 from rfl] at i1 t1 ci fi
    rw [hmin] at t1
    refine call_by (oz) (by first | rfl | (simp only [tocvs, tocv, g2, h2, g5, g6, h6, g7, h7, g8, h8, hs]; rfl) | (simp only [tocvs, tocv, toboxes, tobox, updH_at, Nat.reduceEqDiff, ↓reduceIte, g2, h2, g5, g6, h6, g7, h7, g8, h8, hs]; rfl)) (by simp) ?_
    simp (disch := omega) only [wk, tis, seval, reduceCtorEq, Nat.reduceEqDiff, rqs, Bool.true_beq, Bool.false_beq, Bool.not_true, Bool.not_false, g2, h2, g5, g6, h6, g7, h7, g8, h8, hs]
    refine call_by (i1) (by first | rfl | (simp only [tocvs, tocv, g2, h2, g5, g6, h6, g7, h7, g8, h8]; rfl) | (simp only [tocvs, tocv, toboxes, tobox, updH_at, Nat.reduceEqDiff, ↓reduceIte, g2, h2, g5, g6, h6, g7, h7, g8, h8]; rfl)) (by simp) ?_
    simp (disch := omega) only [wk, tis, seval, reduceCtorEq, Nat.reduceEqDiff, rqs, Bool.true_beq, Bool.false_beq, Bool.not_true, Bool.not_false, g2, h2, g5, g6, h6, g7, h7, g8, h8]
    refine call_by (t1) (by first | rfl | (simp only [tocvs, tocv, g2, h2, g5, g6, h6, g7, h7, g8, h8]; rfl) | (simp only [tocvs, tocv, toboxes, tobox, updH_at, Nat.reduceEqDiff, ↓reduceIte, g2, h2, g5, g6, h6, g7, h7, g8, h8]; rfl)) (by simp) ?_
    simp (disch := omega) only [wk, tis, seval, reduceCtorEq, Nat.reduceEqDiff, rqs, Bool.true_beq, Bool.false_beq, Bool.not_true, Bool.not_false, g2, h2, g5, g6, h6, g7, h7, g8, h8]
    refine call_by (ci) (by first | rfl | (simp only [tocvs, tocv, g2, h2, g5, g6, h6, g7, h7, g8, h8]; rfl) | (simp only [tocvs, tocv, toboxes, tobox, updH_at, Nat.reduceEqDiff, ↓reduceIte, g2, h2, g5, g6, h6, g7, h7, g8, h8]; rfl)) (by simp) ?_
    simp (disch := omega) only [wk, tis, seval, reduceCtorEq, Nat.reduceEqDiff, rqs, Bool.true_beq, Bool.false_beq, Bool.not_true, Bool.not_false, g2, h2, g5, g6, h6, g7, h7, g8, h8]
    refine call_by (bb) (by first | rfl | (simp only [tocvs, tocv, g2, h2, g5, g6, h6, g7, h7, g8, h8]; rfl) | (simp only [tocvs, tocv, toboxes, tobox, updH_at, Nat.reduceEqDiff, ↓reduceIte, g2, h2, g5, g6, h6, g7, h7, g8, h8]; rfl)) (by simp) ?_
    simp (disch := omega) only [wk, tis, seval, reduceCtorEq, Nat.reduceEqDiff, rqs, Bool.true_beq, Bool.false_beq, Bool.not_true, Bool.not_false, g2, h2, g5, g6, h6, g7, h7, g8, h8]
    refine call_by (fi) (by first | rfl | (simp only [tocvs, tocv, g2, h2, g5, g6, h6, g7, h7, g8, h8, hmin]; rfl) | (simp only [tocvs, tocv, toboxes, tobox, updH_at, Nat.reduceEqDiff, ↓reduceIte, g2, h2, g5, g6, h6, g7, h7, g8, h8, hmin]; rfl)) (by simp) ?_
    simp (disch := omega) only [wk, tis, seval, reduceCtorEq, Nat.reduceEqDiff, rqs, Bool.true_beq, Bool.false_beq, Bool.not_true, Bool.not_false, g2, h2, g5, g6, h6, g7, h7, g8, h8, hmin]
    try rfl
  · have hmin : min (vv : Int) 2 = 2 := by omega
    rw [hmin] at t1
    refine call_by (oz) (by first | rfl | (simp only [tocvs, tocv, g2, h2, g5, g6, h6, g7, h7, g8, h8, hs]; rfl) | (simp only [tocvs, tocv, toboxes, tobox, updH_at, Nat.reduceEqDiff, ↓reduceIte, g2, h2, g5, g6, h6, g7, h7, g8, h8, hs]; rfl)) (by simp) ?_
    simp (disch := omega) only [wk, tis, seval, reduceCtorEq, Nat.reduceEqDiff, rqs, Bool.true_beq, Bool.false_beq, Bool.not_true, Bool.not_false, g2, h2, g5, g6, h6, g7, h7, g8, h8, hs]
    refine call_by (i1) (by first | rfl | (simp only [tocvs, tocv, g2, h2, g5, g6, h6, g7, h7, g8, h8]; rfl) | (simp only [tocvs, tocv, toboxes, tobox, updH_at, Nat.reduceEqDiff, ↓reduceIte, g2, h2, g5, g6, h6, g7, h7, g8, h8]; rfl)) (by simp) ?_
    simp (disch := omega) only [wk, tis, seval, reduceCtorEq, Nat.reduceEqDiff, rqs, Bool.true_beq, Bool.false_beq, Bool.not_true, Bool.not_false, g2, h2, g5, g6, h6, g7, h7, g8, h8]
    refine call_by (t1) (by first | rfl | (simp only [tocvs, tocv, g2, h2, g5, g6, h6, g7, h7, g8, h8]; rfl) | (simp only [tocvs, tocv, toboxes, tobox, updH_at, Nat.reduceEqDiff, ↓reduceIte, g2, h2, g5, g6, h6, g7, h7, g8, h8]; rfl)) (by simp) ?_
    simp (disch := omega) only [wk, tis, seval, reduceCtorEq, Nat.reduceEqDiff, rqs, Bool.true_beq, Bool.false_beq, Bool.not_true, Bool.not_false, g2, h2, g5, g6, h6, g7, h7, g8, h8]
    refine call_by (ci) (by first | rfl | (simp only [tocvs, tocv, g2, h2, g5, g6, h6, g7, h7, g8, h8]; rfl) | (simp only [tocvs, tocv, toboxes, tobox, updH_at, Nat.reduceEqDiff, ↓reduceIte, g2, h2, g5, g6, h6, g7, h7, g8, h8]; rfl)) (by simp) ?_
    simp (disch := omega) only [wk, tis, seval, reduceCtorEq, Nat.reduceEqDiff, rqs, Bool.true_beq, Bool.false_beq, Bool.not_true, Bool.not_false, g2, h2, g5, g6, h6, g7, h7, g8, h8]
    refine call_by (bb) (by first | rfl | (simp only [tocvs, tocv, g2, h2, g5, g6, h6, g7, h7, g8, h8]; rfl) | (simp only [tocvs, tocv, toboxes, tobox, updH_at, Nat.reduceEqDiff, ↓reduceIte, g2, h2, g5, g6, h6, g7, h7, g8, h8]; rfl)) (by simp) ?_
    simp (disch := omega) only [wk, tis, seval, reduceCtorEq, Nat.reduceEqDiff, rqs, Bool.true_beq, Bool.false_beq, Bool.not_true, Bool.not_false, g2, h2, g5, g6, h6, g7, h7, g8, h8]
    refine call_by (fi) (by first | rfl | (simp only [tocvs, tocv, g2, h2, g5, g6, h6, g7, h7, g8, h8, hmin]; rfl) | (simp only [tocvs, tocv, toboxes, tobox, updH_at, Nat.reduceEqDiff, ↓reduceIte, g2, h2, g5, g6, h6, g7, h7, g8, h8, hmin]; rfl)) (by simp) ?_
    simp (disch := omega) only [wk, tis, seval, reduceCtorEq, Nat.reduceEqDiff, rqs, Bool.true_beq, Bool.false_beq, Bool.not_true, Bool.not_false, g2, h2, g5, g6, h6, g7, h7, g8, h8, hmin]
    try rfl
theorem between16_law2 (R : List (Int × Int)) (Q : List Int) (f : Int) (r0 r1 r2 : Int × Int) (hR : RawR R) (hQ : RawI Q) (h1 : -9223372036854775808 ≤ f) (h2 : f ≤ 9223372036854775807) (h3 : RawRt r0) (h4 : RawRt r1) (h5 : RawRt r2) :
    AC Tryz.prog 5 [.agg (kn R Q f), .agg [.int .i64 r0.1, .int .i64 r0.2, .int .i64 r1.1, .int .i64 r1.2, .int .i64 r2.1, .int .i64 r2.2]] none [cb true] := between16_law R Q f r0 r1 r2 hR.1 hQ.1
end Go.Proofs.YtcocppjgbcbndaaGreat
