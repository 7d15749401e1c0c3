/-
  Contracts of the functions that the law reaches.
-/
import Derived.Test.YtcjnacpekbhhcaaL36M
import Derived.Test.YtcjnacpekbhhcaaAbsT
set_option maxHeartbeats 2000000
namespace Go.Proofs.Ytcjnacpekbhhcaa
open Go Go.Proofs Go.AL
set_option linter.unusedSimpArgs false
set_option linter.unusedVariables false
end Go.Proofs.Ytcjnacpekbhhcaa

namespace Go.Proofs.Ytcjnacpekbhhcaa
open Go Go.Proofs Go.AL
set_option linter.unusedSimpArgs false
set_option linter.unusedVariables false
end Go.Proofs.Ytcjnacpekbhhcaa

namespace Go.Proofs.Ytcjnacpekbhhcaa
open Go Go.Proofs Go.AL
set_option linter.unusedSimpArgs false
set_option linter.unusedVariables false
end Go.Proofs.Ytcjnacpekbhhcaa

namespace Go.Proofs.Ytcjnacpekbhhcaa
open Go Go.Proofs Go.AL
set_option linter.unusedSimpArgs false
set_option linter.unusedVariables false
end Go.Proofs.Ytcjnacpekbhhcaa

namespace Go.Proofs.Ytcjnacpekbhhcaa
open Go Go.Proofs Go.AL
set_option linter.unusedSimpArgs false
set_option linter.unusedVariables false
theorem CD.cf {D n M : Nat} {q : List Rat} (h : CB D n M q) (k : Nat) : CD D M (cfq q k) := by
  by_cases hk : k < q.length
  · rw [cfq_lt hk]; exact h.c _ (List.getElem_mem hk)
  · rw [cfq_ge (by omega)]; exact CD.zero _ _
end Go.Proofs.Ytcjnacpekbhhcaa

namespace Go.Proofs.Ytcjnacpekbhhcaa
open Go Go.Proofs Go.AL
set_option linter.unusedSimpArgs false
set_option linter.unusedVariables false
theorem CD.den_dvd {D M : Nat} {q : Rat} (hD : D ≠ 0) (h : CD D M q) : q.den ∣ D := by
  obtain ⟨z, e, hz⟩ := h
  have h1 := natr_ne hD
  have h2 := natr_ne q.den_nz
  have h3 : (q.num : Rat) / (q.den : Rat) = (z : Rat) / (D : Rat) := by
    rw [← e, ← Rat.mkRat_eq_div]; exact Rat.mkRat_self q
  have h4 : (q.num : Rat) * (D : Rat) = (z : Rat) * (q.den : Rat) := by grind
  have h5 : q.num * (D : Int) = z * (q.den : Int) := by
    rw [← Rat.intCast_natCast, ← Rat.intCast_natCast, ← Rat.intCast_mul, ← Rat.intCast_mul] at h4
    exact Rat.intCast_inj.mp h4
  have h6 : q.den ∣ q.num.natAbs * D := ⟨z.natAbs, by
    have := congrArg Int.natAbs h5
    rw [Int.natAbs_mul, Int.natAbs_mul, Int.natAbs_natCast, Int.natAbs_natCast] at this
    rw [this, Nat.mul_comm]⟩
  exact (q.reduced.symm).dvd_of_dvd_mul_left h6
theorem qsum_cd {D M n : Nat} {f : Nat → Rat} (h : ∀ i, i < n → CD D M (f i)) : CD D (M + n) (qsum n f) := by
  induction n with
  | zero => exact CD.zero _ _
  | succ n ih =>
    have h1 := ih fun i hi => h i (by omega)
    have h2 := h n (by omega)
    exact (h1.add h2).mono (by omega)
theorem lcmL_dvd {D : Nat} : ∀ (l : List Nat) (i : Nat), (∀ x ∈ l, x ∣ D) → lcmL (l.take i) ∣ D
  | l, 0, _ => by rw [List.take_zero]; exact Nat.one_dvd _
  | l, i + 1, h => by
    by_cases hi : i < l.length
    · rw [lcmL_take hi]
      refine Nat.lcm_dvd (lcmL_dvd l i h) (h _ ?_)
      rw [List.getD, List.getElem?_eq_getElem hi, Option.getD_some]
      exact List.getElem_mem hi
    · rw [List.take_of_length_le (by omega), ← List.take_of_length_le (l := l) (i := i) (by omega)]
      exact lcmL_dvd l i h
theorem CB.dens_dvd {D n M : Nat} {A : List Rat} (h : CB D n M A) : ∀ x ∈ dens A, x ∣ D := fun x hx => by
  obtain ⟨c, hc, rfl⟩ := List.mem_map.1 hx
  exact (h.c c hc).den_dvd h.d
theorem CB.lcm_len {D n M : Nat} {A : List Rat} (h : CB D n M A) (i : Nat) : (wd (lcmL ((dens A).take i))).length ≤ M :=
  Nat.le_trans (wd_len_mono (Nat.le_of_dvd (Nat.pos_of_ne_zero h.d) (lcmL_dvd _ i h.dens_dvd))) h.w
theorem CB.cden_dvd {D n M : Nat} {A : List Rat} (h : CB D n M A) : cden A ∣ D := by
  have := lcmL_dvd (dens A) (dens A).length h.dens_dvd
  rwa [List.take_length] at this
theorem CB.cden_len {D n M : Nat} {A : List Rat} (h : CB D n M A) : (wd (cden A)).length ≤ M :=
  Nat.le_trans (wd_len_mono (Nat.le_of_dvd (Nat.pos_of_ne_zero h.d) h.cden_dvd)) h.w
theorem CB.mulq {D E n m M N : Nat} {A B : List Rat} (hA : CB D n M A) (hB : CB E m N B) : CB (D * E) (n + m) (M + N + (n + m)) (mulq A B) where
  d := Nat.mul_ne_zero hA.d hB.d
  w := by
    have h1 := AL.wd_mul_len D E
    have h2 := hA.w
    have h3 := hB.w
    omega
  l := by
    simp only [mulq_def, List.length_map, List.length_range]
    have := hA.l
    have := hB.l
    omega
  c := fun c hc => by
    obtain ⟨k, hk, rfl⟩ := List.getElem_of_mem hc
    have hl : k < n + m := by
      simp only [mulq_def, List.length_map, List.length_range] at hk
      have := hA.l
      have := hB.l
      omega
    rw [← cfq_lt hk, cfq_mulq, PQ.cvq_conv]
    exact (qsum_cd (n := k + 1) (f := fun i => cfq A i * cfq B (k - i)) fun i _ => CD.mul hA.d hB.d (CD.cf hA _) (CD.cf hB _)).mono (by omega)
end Go.Proofs.Ytcjnacpekbhhcaa

namespace Go.Proofs.Ytcjnacpekbhhcaa
open Go Go.Proofs Go.AL
set_option linter.unusedSimpArgs false
set_option linter.unusedVariables false
abbrev RowQ := Nat → Rat
def altq (F : List RowQ → Rat) (c : Nat) : List RowQ → List RowQ → Rat
  | _, [] => 0
  | pre, v :: post => v c * F (pre ++ post) - altq F c (pre ++ [v]) post
def dl : Nat → Nat → List RowQ → Rat
  | 0, _, [] => 1
  | 0, _, _ :: _ => 0
  | n + 1, c, l => altq (dl n (c + 1)) c [] l
def lcq (a b : Rat) (u v : RowQ) : RowQ := fun k => a * u k + b * v k
def MltQ (F : List RowQ → Rat) : Prop := ∀ p q a b u v, F (p ++ lcq a b u v :: q) = a * F (p ++ u :: q) + b * F (p ++ v :: q)
def AltQ (F : List RowQ → Rat) : Prop := ∀ p q u, F (p ++ u :: u :: q) = 0
theorem altq_pre_mlt {F : List RowQ → Rat} (hF : MltQ F) (c : Nat) (p : List RowQ) (a b : Rat) (u v : RowQ) : ∀ post q, altq F c (p ++ lcq a b u v :: q) post = a * altq F c (p ++ u :: q) post + b * altq F c (p ++ v :: q) post
  | [], q => by simp only [altq]; grind
  | w :: post, q => by
    have ih := altq_pre_mlt hF c p a b u v post (q ++ [w])
    have h := hF p (q ++ post) a b u v
    simp only [altq, List.append_assoc, List.cons_append] at *
    rw [h, ih]
    grind
theorem altq_mlt {F : List RowQ → Rat} (hF : MltQ F) (c : Nat) (q : List RowQ) (a b : Rat) (u v : RowQ) : ∀ p pre, altq F c pre (p ++ lcq a b u v :: q) = a * altq F c pre (p ++ u :: q) + b * altq F c pre (p ++ v :: q)
  | [], pre => by
    have h := altq_pre_mlt hF c pre a b u v q []
    simp only [altq, List.nil_append]
    rw [h]
    simp only [lcq]
    grind
  | x :: p, pre => by
    have ih := altq_mlt hF c q a b u v p (pre ++ [x])
    have h := hF (pre ++ p) q a b u v
    simp only [List.append_assoc] at h
    simp only [altq, List.cons_append]
    rw [h, ih]
    grind
theorem altq_pre_alt {F : List RowQ → Rat} (hF : AltQ F) (c : Nat) (p : List RowQ) (u : RowQ) : ∀ post q, altq F c (p ++ u :: u :: q) post = 0
  | [], q => rfl
  | w :: post, q => by
    have ih := altq_pre_alt hF c p u post (q ++ [w])
    have h := hF p (q ++ post) u
    simp only [altq, List.append_assoc, List.cons_append] at *
    rw [h, ih]
    grind
theorem altq_alt {F : List RowQ → Rat} (hF : AltQ F) (c : Nat) (q : List RowQ) (u : RowQ) : ∀ p pre, altq F c pre (p ++ u :: u :: q) = 0
  | [], pre => by
    have h := altq_pre_alt hF c pre u q []
    simp only [altq, List.nil_append, List.append_assoc, List.cons_append] at *
    rw [h]
    grind
  | x :: p, pre => by
    have ih := altq_alt hF c q u p (pre ++ [x])
    have h := hF (pre ++ p) q u
    simp only [List.append_assoc] at h
    simp only [altq, List.cons_append]
    rw [h, ih]
    grind
theorem dl_zero (c : Nat) (p : List RowQ) (x : RowQ) (q : List RowQ) : dl 0 c (p ++ x :: q) = 0 := by cases p <;> rfl
theorem dl_mlt : ∀ n c, MltQ (dl n c)
  | 0, c => fun p q a b u v => by rw [dl_zero, dl_zero, dl_zero]; grind
  | n + 1, c => fun p q a b u v => altq_mlt (dl_mlt n (c + 1)) c q a b u v p []
theorem dl_alt : ∀ n c, AltQ (dl n c)
  | 0, c => fun p q u => dl_zero c p u (u :: q)
  | n + 1, c => fun p q u => altq_alt (dl_alt n (c + 1)) c q u p []
theorem q_swap {F : List RowQ → Rat} (hM : MltQ F) (hA : AltQ F) (p q : List RowQ) (u v : RowQ) : F (p ++ u :: v :: q) = -F (p ++ v :: u :: q) := by
  have h0 := hA p q (lcq 1 1 u v)
  have h1 := hM p (lcq 1 1 u v :: q) 1 1 u v
  have h2 := hM (p ++ [u]) q 1 1 u v
  have h3 := hM (p ++ [v]) q 1 1 u v
  simp only [List.append_assoc, List.cons_append, List.nil_append] at h2 h3
  have h4 := hA p q u
  have h5 := hA p q v
  rw [h1, h2, h3, h4, h5] at h0
  grind
theorem q_far {F : List RowQ → Rat} (hM : MltQ F) (hA : AltQ F) (u : RowQ) (q : List RowQ) : ∀ m p, F (p ++ u :: (m ++ u :: q)) = 0
  | [], p => hA p q u
  | x :: m, p => by
    have ih := q_far hM hA u q m (p ++ [x])
    simp only [List.append_assoc, List.cons_append, List.nil_append] at ih
    rw [List.cons_append, q_swap hM hA, ih]
    rfl
theorem q_rowop {F : List RowQ → Rat} (hM : MltQ F) (hA : AltQ F) (u v : RowQ) (t : Rat) (m q : List RowQ) : F (u :: (m ++ lcq 1 t v u :: q)) = F (u :: (m ++ v :: q)) := by
  have h := hM (u :: m) q 1 t v u
  have h2 := q_far hM hA u q m []
  simp only [List.cons_append, List.nil_append] at h h2
  rw [h, h2]
  grind
def opq (c : Nat) (u v : RowQ) : RowQ := lcq 1 (-(v c / u c)) v u
theorem q_allops {F : List RowQ → Rat} (hM : MltQ F) (hA : AltQ F) (c : Nat) (u : RowQ) : ∀ L d, F (u :: (d ++ L.map (opq c u))) = F (u :: (d ++ L))
  | [], d => rfl
  | v :: L, d => by
    have ih := q_allops hM hA c u L (d ++ [v])
    simp only [List.append_assoc, List.cons_append, List.nil_append] at ih
    rw [List.map_cons, opq, q_rowop hM hA, ih]
theorem altq_zero {F : List RowQ → Rat} {c : Nat} : ∀ l pre, (∀ v ∈ l, v c = 0) → altq F c pre l = 0
  | [], pre, h => rfl
  | v :: l, pre, h => by
    rw [altq, h v (by simp), altq_zero l _ fun w hw => h w (by simp [hw])]
    grind
theorem dl_elim (n c : Nat) (u : RowQ) (L : List RowQ) (h : u c ≠ 0) : dl (n + 1) c (u :: L) = u c * dl n (c + 1) (L.map (opq c u)) := by
  have h1 := q_allops (dl_mlt (n + 1) c) (dl_alt (n + 1) c) c u L []
  rw [List.nil_append, List.nil_append] at h1
  rw [← h1, dl, altq, altq_zero _ _ fun v hv => ?_, List.nil_append]
  · grind
  · obtain ⟨w, _, rfl⟩ := List.mem_map.1 hv
    simp only [opq, lcq]
    grind
def gsq (A : Nat → RowQ) : Nat → Nat → RowQ
  | 0, i => A i
  | k + 1, i => fun j => gsq A k i j - gsq A k i k / gsq A k k k * gsq A k k j
def pvt (A : Nat → RowQ) : Nat → Rat
  | 0 => 1
  | k + 1 => pvt A k * gsq A k k k
theorem opq_gs (A : Nat → RowQ) (m i : Nat) (s : Nat → Nat) (hs : s m = m) : opq m (fun q => gsq A m m (s q)) (fun q => gsq A m i (s q)) = fun q => gsq A (m + 1) i (s q) := by
  funext q
  simp only [opq, lcq, gsq, hs]
  grind
def rowsL (A : Nat → RowQ) (s : Nat → Nat) (m k i : Nat) : List RowQ := (List.range' m (k - m)).map (fun r q => gsq A m r (s q)) ++ [fun q => gsq A m i (s q)]
theorem rowsL_step (A : Nat → RowQ) (s : Nat → Nat) {m k i : Nat} (hm : m < k) (hs : s m = m) (h : gsq A m m m ≠ 0) : dl (k + 1 - m) m (rowsL A s m k i) = gsq A m m m * dl (k + 1 - (m + 1)) (m + 1) (rowsL A s (m + 1) k i) := by
  have e1 : k + 1 - m = (k - m) + 1 := by omega
  have e2 : k + 1 - (m + 1) = k - m := by omega
  have e3 : k - m = (k - (m + 1)) + 1 := by omega
  have e : rowsL A s m k i = (fun q => gsq A m m (s q)) :: ((List.range' (m + 1) (k - (m + 1))).map (fun r q => gsq A m r (s q)) ++ [fun q => gsq A m i (s q)]) := by
    rw [rowsL, e3, List.range'_succ, List.map_cons, List.cons_append]
  rw [e, e1, e2, dl_elim _ _ _ _ (by simp only [hs]; exact h)]
  simp only [hs]
  congr 2
  rw [List.map_append, List.map_map, List.map_cons, List.map_nil, rowsL]
  congr 1
  · refine List.map_congr_left fun r _ => ?_
    exact opq_gs A m r s hs
  · rw [opq_gs A m i s hs]
theorem rowsL_all (A : Nat → RowQ) (s : Nat → Nat) (k i : Nat) (hs : ∀ q, q < k → s q = q) : ∀ m, m ≤ k → (∀ l, l < m → gsq A l l l ≠ 0) → dl (k + 1) 0 (rowsL A s 0 k i) = pvt A m * dl (k + 1 - m) m (rowsL A s m k i)
  | 0, _, _ => by rw [pvt, Nat.sub_zero]; grind
  | m + 1, hm, h => by
    rw [rowsL_all A s k i hs m (by omega) fun l hl => h l (by omega), rowsL_step A s (by omega) (hs m (by omega)) (h m (by omega)), pvt]
    grind
def selq (k j q : Nat) : Nat := if q < k then q else j
theorem minor_eq (A : Nat → RowQ) (k i j : Nat) (h : ∀ l, l < k → gsq A l l l ≠ 0) : dl (k + 1) 0 (rowsL A (selq k j) 0 k i) = pvt A k * gsq A k i j := by
  rw [rowsL_all A (selq k j) k i (fun q hq => if_pos hq) k (Nat.le_refl k) h, Nat.add_sub_cancel_left]
  congr 1
  have e : rowsL A (selq k j) k k i = [fun q => gsq A k i (selq k j q)] := by rw [rowsL, Nat.sub_self]; rfl
  rw [e, dl, altq, altq, List.nil_append, dl]
  rw [show selq k j k = j from if_neg (Nat.lt_irrefl k)]
  grind
theorem CD.one_mul {M N : Nat} {p q : Rat} (h : CD 1 M p) (k : CD 1 N q) : CD 1 (M + N) (p * q) := CD.mul Nat.one_ne_zero Nat.one_ne_zero h k
theorem CD.sub {D M N : Nat} {p q : Rat} (h : CD D M p) (k : CD D N q) : CD D (max M N + 1) (p - q) := by rw [Rat.sub_eq_add_neg]; exact h.add k.neg
theorem altq_cd {F : List RowQ → Rat} {c M S B : Nat} (hF : ∀ l, l.length ≤ B → (∀ v ∈ l, ∀ q, CD 1 M (v q)) → CD 1 S (F l)) : ∀ post pre, pre.length + post.length ≤ B → (∀ v ∈ pre ++ post, ∀ q, CD 1 M (v q)) → CD 1 (M + S + post.length) (altq F c pre post)
  | [], pre, _, _ => CD.zero _ _
  | v :: post, pre, hl, h => by
    rw [List.length_cons] at hl
    have h1 := hF (pre ++ post) (by rw [List.length_append]; omega) fun w hw => h w (by
      rcases List.mem_append.1 hw with hw | hw
      · exact List.mem_append_left _ hw
      · exact List.mem_append_right _ (List.mem_cons_of_mem _ hw))
    have h2 := altq_cd (c := c) hF post (pre ++ [v]) (by rw [List.length_append, List.length_singleton]; omega) fun w hw => h w (by simpa using hw)
    exact (((h v (by simp) c).one_mul h1).sub h2).mono (by rw [List.length_cons]; omega)
theorem dl_cd {M B : Nat} : ∀ n c l, l.length ≤ B → (∀ v ∈ l, ∀ q, CD 1 M (v q)) → CD 1 (n * (M + B) + 1) (dl n c l)
  | 0, _, [], _, _ => ⟨1, by rw [dl]; decide +kernel, by rw [show zl 1 = 1 by decide +kernel]; omega⟩
  | 0, _, _ :: _, _, _ => CD.zero _ _
  | n + 1, c, l, hl, h => by
    have h1 := altq_cd (c := c) (B := B) (fun l hl h => dl_cd n (c + 1) l hl h) l [] (by rw [List.length_nil]; omega) h
    exact h1.mono (by rw [Nat.succ_mul]; omega)
theorem minor_cd {A : Nat → RowQ} {M k i j : Nat} (hA : ∀ i j, CD 1 M (A i j)) (h : ∀ l, l < k → gsq A l l l ≠ 0) : CD 1 ((k + 1) * (M + (k + 1)) + 1) (pvt A k * gsq A k i j) := by
  rw [← minor_eq A k i j h]
  refine dl_cd (B := k + 1) _ _ _ ?_ fun v hv q => ?_
  · simp [rowsL]
  · rw [rowsL] at hv
    rcases List.mem_append.1 hv with hv | hv
    · obtain ⟨r, _, rfl⟩ := List.mem_map.1 hv
      exact hA _ _
    · rw [List.mem_singleton.1 hv]
      exact hA _ _
theorem CD.int {M : Nat} {q : Rat} (h : CD 1 M q) : ((q.num : Int) : Rat) = q ∧ zl q.num ≤ M := by
  obtain ⟨z, e, hz⟩ := h
  have e : q = (z : Rat) := by rw [e]; rw [show ((1 : Nat) : Rat) = 1 from rfl]; grind
  rw [e]
  exact ⟨by rw [Rat.num_intCast], by rw [Rat.num_intCast]; exact hz⟩
theorem bareiss (A : Nat → RowQ) (k i j : Nat) (h : gsq A k k k ≠ 0) : pvt A (k + 1) * gsq A (k + 1) i j * pvt A k = pvt A k * gsq A k i j * (pvt A k * gsq A k k k) - pvt A k * gsq A k i k * (pvt A k * gsq A k k j) := by
  simp only [pvt, gsq]
  grind
def swp (a b i : Nat) : Nat := if i = a then b else if i = b then a else i
theorem swp_lt {a b k i : Nat} (ha : k ≤ a) (hb : k ≤ b) (hi : i < k) : swp a b i = i := by unfold swp; rw [if_neg (by omega), if_neg (by omega)]
theorem gsq_perm (A : Nat → RowQ) (s : Nat → Nat) (k : Nat) (hs : ∀ i, i < k → s i = i) : ∀ m, m ≤ k → ∀ i, gsq (fun r => A (s r)) m i = gsq A m (s i)
  | 0, _, i => rfl
  | m + 1, hm, i => by
    have ih := gsq_perm A s k hs m (by omega)
    funext j
    simp only [gsq, ih, hs m (by omega)]
theorem pvt_perm (A : Nat → RowQ) (s : Nat → Nat) (k : Nat) (hs : ∀ i, i < k → s i = i) : ∀ m, m ≤ k → pvt (fun r => A (s r)) m = pvt A m
  | 0, _ => rfl
  | m + 1, hm => by rw [pvt, pvt, pvt_perm A s k hs m (by omega), gsq_perm A s k hs m (by omega), hs m (by omega)]
def fpv (A : Nat → RowQ) (k : Nat) : Nat → Nat → Nat
  | 0, p => p
  | n + 1, p => if gsq A k (k + p) k ≠ 0 then p else fpv A k n (p + 1)
theorem fpv_spec (A : Nat → RowQ) (k : Nat) : ∀ n p, p ≤ fpv A k n p ∧ fpv A k n p ≤ p + n ∧ (∀ j, p ≤ j → j < fpv A k n p → gsq A k (k + j) k = 0) ∧ (fpv A k n p < p + n → gsq A k (k + fpv A k n p) k ≠ 0)
  | 0, p => ⟨Nat.le_refl _, Nat.le_refl _, fun j h1 h2 => absurd h2 (by rw [fpv]; omega), fun h => absurd h (by rw [fpv]; omega)⟩
  | n + 1, p => by
    rw [fpv]
    split
    · rename_i h
      exact ⟨Nat.le_refl _, by omega, fun j h1 h2 => by omega, fun _ => h⟩
    · rename_i h
      obtain ⟨h1, h2, h3, h4⟩ := fpv_spec A k n (p + 1)
      refine ⟨by omega, by omega, fun j hj hj2 => ?_, fun hl => h4 (by omega)⟩
      rcases Nat.eq_or_lt_of_le hj with e | e
      · subst e
        exact Decidable.not_not.mp h
      · exact h3 j (by omega) hj2
def gdt : Nat → Nat → (Nat → RowQ) → Rat
  | 0, k, A => pvt A k
  | m + 1, k, A => let p := fpv A k (m + 1) 0
    if p = m + 1 then 0 else if p = 0 then gdt m (k + 1) A else -gdt m (k + 1) fun r => A (swp k (k + p) r)
end Go.Proofs.Ytcjnacpekbhhcaa

namespace Go.Proofs.Ytcjnacpekbhhcaa
open Go Go.Proofs Go.AL
set_option linter.unusedSimpArgs false
set_option linter.unusedVariables false
def miq (A : Nat → RowQ) (k i j : Nat) : Int := (pvt A k * gsq A k i j).num
def lstq (A : Nat → RowQ) (k : Nat) : Int := (pvt A k).num
def bz (M k : Nat) : Nat := (k + 1) * (M + (k + 1)) + 1
theorem bz_mono {M k l : Nat} (h : k ≤ l) : bz M k ≤ bz M l := by
  unfold bz
  have h1 : (k + 1) * (M + (k + 1)) ≤ (l + 1) * (M + (l + 1)) := Nat.mul_le_mul (by omega) (by omega)
  omega
structure Gs (A : Nat → RowQ) (M k : Nat) : Prop where
  e : ∀ i j, CD 1 M (A i j)
  p : ∀ l, l < k → gsq A l l l ≠ 0
section
variable {A : Nat → RowQ} {M k : Nat}
theorem Gs.mono {m : Nat} (g : Gs A M k) (h : m ≤ k) : Gs A M m := ⟨g.e, fun l hl => g.p l (by omega)⟩
theorem Gs.next (g : Gs A M k) (h : gsq A k k k ≠ 0) : Gs A M (k + 1) := ⟨g.e, fun l hl => by
  rcases Nat.lt_or_ge l k with h1 | h1
  · exact g.p l h1
  · obtain rfl : l = k := by omega
    exact h⟩
theorem pvt_ne : ∀ {k : Nat}, (∀ l, l < k → gsq A l l l ≠ 0) → pvt A k ≠ 0
  | 0, _ => by rw [pvt]; decide +kernel
  | k + 1, h => fun e => by
    rcases Rat.mul_eq_zero.mp e with e | e
    · exact pvt_ne (fun l hl => h l (by omega)) e
    · exact h k (by omega) e
theorem Gs.mi (g : Gs A M k) (i j : Nat) : ((miq A k i j : Int) : Rat) = pvt A k * gsq A k i j ∧ zl (miq A k i j) ≤ bz M k := (minor_cd g.e g.p).int
theorem Gs.lst : ∀ {k : Nat}, Gs A M k → ((lstq A k : Int) : Rat) = pvt A k ∧ zl (lstq A k) ≤ bz M k
  | 0, _ => ⟨by rw [lstq, pvt]; decide +kernel, by rw [show zl (lstq A 0) = 1 by rw [lstq, pvt]; decide +kernel]; unfold bz; omega⟩
  | k + 1, g => ⟨((g.mono (Nat.le_succ k)).mi k k).1, Nat.le_trans ((g.mono (Nat.le_succ k)).mi k k).2 (bz_mono (Nat.le_succ k))⟩
theorem lstq_succ (A : Nat → RowQ) (k : Nat) : lstq A (k + 1) = miq A k k k := rfl
theorem Gs.lst_ne (g : Gs A M k) : lstq A k ≠ 0 := fun e => by
  have h := g.lst.1
  rw [e] at h
  exact pvt_ne g.p h.symm
theorem Gs.mi_zero (g : Gs A M k) (i j : Nat) : miq A k i j = 0 ↔ gsq A k i j = 0 := by
  have h := (g.mi i j).1
  constructor
  · intro e
    rw [e] at h
    rcases Rat.mul_eq_zero.mp h.symm with h | h
    · exact absurd h (pvt_ne g.p)
    · exact h
  · intro e
    rw [e, Rat.mul_zero] at h
    exact Rat.intCast_eq_zero_iff.mp h
theorem Gs.step (g : Gs A M k) (h : gsq A k k k ≠ 0) (i j : Nat) : miq A k i j * miq A k k k - miq A k i k * miq A k k j = miq A (k + 1) i j * lstq A k := by
  have b := bareiss A k i j h
  rw [← ((g.next h).mi i j).1, ← (g.mi i j).1, ← (g.mi k k).1, ← (g.mi i k).1, ← (g.mi k j).1, ← g.lst.1, ← Rat.intCast_mul, ← Rat.intCast_mul, ← Rat.intCast_mul, ← Rat.intCast_sub] at b
  exact (Rat.intCast_inj.mp b).symm
theorem Gs.gs (g : Gs A M k) (i j : Nat) : gsq A k i j = (miq A k i j : Rat) / (lstq A k : Rat) := by
  rw [(g.mi i j).1, g.lst.1]
  have := pvt_ne g.p
  grind
theorem Gs.perm {s : Nat → Nat} (g : Gs A M k) (hs : ∀ i, i < k → s i = i) : Gs (fun r => A (s r)) M k := ⟨fun i j => g.e _ _, fun l hl => by
  rw [gsq_perm A s k hs l (by omega), hs l hl]
  exact g.p l hl⟩
theorem miq_perm {s : Nat → Nat} (hs : ∀ i, i < k → s i = i) {m : Nat} (hm : m ≤ k) (i j : Nat) : miq (fun r => A (s r)) m i j = miq A m (s i) j := by
  unfold miq
  rw [gsq_perm A s k hs m hm, pvt_perm A s k hs m hm]
theorem lstq_perm {s : Nat → Nat} (hs : ∀ i, i < k → s i = i) {m : Nat} (hm : m ≤ k) : lstq (fun r => A (s r)) m = lstq A m := by
  unfold lstq
  rw [pvt_perm A s k hs m hm]
end
def stq (A : Nat → RowQ) (k i j : Nat) : Int := miq A (min k (min i j)) i j
def siq (A : Nat → RowQ) (k i0 j0 i j : Nat) : Int := if k < i ∧ k < j ∧ (i < i0 ∨ i = i0 ∧ j < j0) then miq A (k + 1) i j else stq A k i j
theorem stq_zero (A : Nat → RowQ) (i j : Nat) : stq A 0 i j = (A i j).num := by
  unfold stq miq
  rw [Nat.zero_min, pvt, gsq, Rat.one_mul]
theorem swp_min {k p i j : Nat} : min k (min (swp k (k + p) i) j) = min k (min i j) := by unfold swp; split <;> (try split) <;> omega
theorem stq_swap (A : Nat → RowQ) (k p i j : Nat) : stq (fun r => A (swp k (k + p) r)) k i j = stq A k (swp k (k + p) i) j := by
  unfold stq
  rw [swp_min, miq_perm (k := k) (fun i hi => swp_lt (Nat.le_refl k) (by omega) hi) (Nat.min_le_left _ _)]
theorem siq_first (A : Nat → RowQ) (k i j : Nat) : siq A k (k + 1) (k + 1) i j = stq A k i j := if_neg fun h => by omega
theorem siq_last (A : Nat → RowQ) (k n j0 i j : Nat) (hi : i < n) (hj : j < n) : siq A k n j0 i j = stq A (k + 1) i j := by
  unfold siq stq
  by_cases h : k < i ∧ k < j
  · rw [if_pos ⟨h.1, h.2, .inl hi⟩, show min (k + 1) (min i j) = k + 1 by omega]
  · rw [if_neg fun h' => h ⟨h'.1, h'.2.1⟩, show min (k + 1) (min i j) = min k (min i j) by omega]
theorem siq_row (A : Nat → RowQ) (k n i0 i j : Nat) (hj : j < n) : siq A k i0 n i j = siq A k (i0 + 1) (k + 1) i j := by
  unfold siq
  congr 1
  refine propext ⟨fun h => ⟨h.1, h.2.1, by omega⟩, fun h => ⟨h.1, h.2.1, by omega⟩⟩
theorem siq_set (A : Nat → RowQ) (k i0 j0 i j : Nat) (hi : k < i0) (hj : k < j0) : siq A k i0 (j0 + 1) i j = if i = i0 ∧ j = j0 then miq A (k + 1) i j else siq A k i0 j0 i j := by
  unfold siq
  by_cases h : i = i0 ∧ j = j0
  · rw [if_pos h, if_pos (by omega)]
  · rw [if_neg h]
    congr 1
    refine propext ⟨fun h => ⟨h.1, h.2.1, by omega⟩, fun h => ⟨h.1, h.2.1, by omega⟩⟩
theorem siq_ne (A : Nat → RowQ) (k i0 j0 i j : Nat) (hi : i ≠ i0) : siq A k i0 j0 i j = siq A k i0 (k + 1) i j := by
  unfold siq
  congr 1
  refine propext ⟨fun h => ⟨h.1, h.2.1, by omega⟩, fun h => ⟨h.1, h.2.1, by omega⟩⟩
theorem siq_at (A : Nat → RowQ) (k i0 j0 : Nat) (hi : k < i0) (hj : k < j0) : siq A k i0 j0 i0 j0 = miq A k i0 j0 ∧ siq A k i0 j0 k k = miq A k k k ∧ siq A k i0 j0 i0 k = miq A k i0 k ∧ siq A k i0 j0 k j0 = miq A k k j0 := by
  unfold siq stq
  refine ⟨?_, ?_, ?_, ?_⟩
  · rw [if_neg (by omega), show min k (min i0 j0) = k by omega]
  · rw [if_neg (by omega), show min k (min k k) = k by omega]
  · rw [if_neg (by omega), show min k (min i0 k) = k by omega]
  · rw [if_neg (by omega), show min k (min k j0) = k by omega]
theorem gdt_none {A : Nat → RowQ} {m k : Nat} (h : fpv A k (m + 1) 0 = m + 1) : gdt (m + 1) k A = 0 := by
  simp only [gdt]
  rw [if_pos h]
theorem gdt_stay {A : Nat → RowQ} {m k : Nat} (h : fpv A k (m + 1) 0 = 0) : gdt (m + 1) k A = gdt m (k + 1) A := by
  simp only [gdt]
  rw [if_neg (by omega), if_pos h]
theorem gdt_swap {A : Nat → RowQ} {m k p : Nat} (h : fpv A k (m + 1) 0 = p) (h1 : p ≠ m + 1) (h0 : p ≠ 0) : gdt (m + 1) k A = -gdt m (k + 1) fun r => A (swp k (k + p) r) := by
  subst h
  simp only [gdt]
  rw [if_neg h1, if_neg h0]
end Go.Proofs.Ytcjnacpekbhhcaa

namespace Go.Proofs.Ytcjnacpekbhhcaa
open Go Go.Proofs Go.AL
set_option linter.unusedSimpArgs false
set_option linter.unusedVariables false
def dtq (A : Nat → RowQ) (n : Nat) : Rat := dl n 0 ((List.range n).map A)
theorem dl_all (A : Nat → RowQ) (n : Nat) : ∀ m, m ≤ n → (∀ l, l < m → gsq A l l l ≠ 0) → dtq A n = pvt A m * dl (n - m) m ((List.range' m (n - m)).map (gsq A m))
  | 0, _, _ => by
    rw [pvt, Rat.one_mul, Nat.sub_zero, dtq, List.range_eq_range']
    rfl
  | m + 1, hm, h => by
    rw [dl_all A n m (by omega) fun l hl => h l (by omega), pvt, show n - m = (n - (m + 1)) + 1 by omega, List.range'_succ, List.map_cons, dl_elim _ _ _ _ (h m (by omega)), Rat.mul_assoc]
    congr 2
    rw [List.map_map]
    congr 1
    refine List.map_congr_left fun r _ => ?_
    exact opq_gs A m r id rfl
theorem dtq_zero {A : Nat → RowQ} {n k : Nat} (hk : k < n) (hp : ∀ l, l < k → gsq A l l l ≠ 0) (h : ∀ i, k ≤ i → i < n → gsq A k i k = 0) : dtq A n = 0 := by
  rw [dl_all A n k (by omega) hp, show n - k = (n - k - 1) + 1 by omega, dl, altq_zero _ _ fun v hv => ?_]
  · exact Rat.mul_zero _
  · obtain ⟨r, hr, rfl⟩ := List.mem_map.1 hv
    rw [List.mem_range'] at hr
    obtain ⟨i, hi, rfl⟩ := hr
    exact h _ (by omega) (by omega)
theorem dtq_full {A : Nat → RowQ} {n : Nat} (hp : ∀ l, l < n → gsq A l l l ≠ 0) : dtq A n = pvt A n := by
  rw [dl_all A n n (Nat.le_refl n) hp, Nat.sub_self]
  exact Rat.mul_one _
theorem q_swap_far {F : List RowQ → Rat} (hM : MltQ F) (hA : AltQ F) (p m q : List RowQ) (u v : RowQ) : F (p ++ u :: (m ++ v :: q)) = -F (p ++ v :: (m ++ u :: q)) := by
  have h0 := q_far hM hA (lcq 1 1 u v) q m p
  have h1 := hM p (m ++ lcq 1 1 u v :: q) 1 1 u v
  have h2 := hM (p ++ u :: m) q 1 1 u v
  have h3 := hM (p ++ v :: m) q 1 1 u v
  simp only [List.append_assoc, List.cons_append] at h2 h3
  have h4 := q_far hM hA u q m p
  have h5 := q_far hM hA v q m p
  rw [h1, h2, h3, h4, h5] at h0
  grind
theorem range_split {k p n : Nat} (hp : 0 < p) (hn : k + p < n) : List.range n = List.range' 0 k ++ k :: (List.range' (k + 1) (p - 1) ++ (k + p) :: List.range' (k + p + 1) (n - (k + p + 1))) := by
  rw [List.range_eq_range', show n = k + (1 + ((p - 1) + (1 + (n - (k + p + 1))))) by omega, ← List.range'_append_1, ← List.range'_append_1, ← List.range'_append_1, ← List.range'_append_1]
  simp only [Nat.zero_add]
  rw [show k + 1 + (p - 1) = k + p by omega, show k + (1 + (p - 1 + (1 + (n - (k + p + 1))))) - (k + p + 1) = n - (k + p + 1) by omega]
  rfl
theorem dtq_swap (A : Nat → RowQ) {k p n : Nat} (hp : 0 < p) (hn : k + p < n) : dtq (fun r => A (swp k (k + p) r)) n = -dtq A n := by
  have e1 : ∀ s l, (∀ i, i < l → s + i ≠ k ∧ s + i ≠ k + p) → (List.range' s l).map (fun r => A (swp k (k + p) r)) = (List.range' s l).map A := fun s l h => List.map_congr_left fun r hr => by
    rw [List.mem_range'] at hr
    obtain ⟨i, hi, rfl⟩ := hr
    have := h i hi
    rw [show swp k (k + p) (s + 1 * i) = s + 1 * i by unfold swp; rw [if_neg (by omega), if_neg (by omega)]]
  rw [dtq, dtq, range_split hp hn]
  simp only [List.map_append, List.map_cons]
  rw [e1 0 k fun i hi => by omega, e1 (k + 1) (p - 1) fun i hi => by omega, e1 (k + p + 1) _ fun i hi => by omega, show swp k (k + p) k = k + p from if_pos rfl, show swp k (k + p) (k + p) = k by unfold swp; rw [if_neg (by omega), if_pos rfl]]
  exact q_swap_far (dl_mlt n 0) (dl_alt n 0) _ _ _ _ _
theorem gdt_det (n : Nat) : ∀ m k A, k + m = n → (∀ l, l < k → gsq A l l l ≠ 0) → gdt m k A = dtq A n
  | 0, k, A, hk, hp => by
    obtain rfl : k = n := by omega
    rw [gdt, dtq_full hp]
  | m + 1, k, A, hk, hp => by
    obtain ⟨h1, h2, h3, h4⟩ := fpv_spec A k (m + 1) 0
    generalize hq : fpv A k (m + 1) 0 = p at *
    by_cases e1 : p = m + 1
    · rw [gdt_none (hq.trans e1), dtq_zero (k := k) (by omega) hp fun i hi1 hi2 => ?_]
      have := h3 (i - k) (by omega) (by omega)
      rwa [show k + (i - k) = i by omega] at this
    · have h4 := h4 (by omega)
      by_cases e0 : p = 0
      · subst e0
        rw [gdt_stay hq]
        refine gdt_det n m (k + 1) A (by omega) fun l hl => ?_
        rcases Nat.lt_or_ge l k with h | h
        · exact hp l h
        · obtain rfl : l = k := by omega
          exact h4
      · rw [gdt_swap hq e1 e0, gdt_det n m (k + 1) _ (by omega) fun l hl => ?_, dtq_swap A (by omega) (by omega)]
        · grind
        · have hs : ∀ i, i < k → swp k (k + p) i = i := fun i hi => swp_lt (Nat.le_refl k) (by omega) hi
          rcases Nat.lt_or_ge l k with h | h
          · rw [gsq_perm A _ k hs l (by omega), hs l h]
            exact hp l h
          · obtain rfl : l = k := by omega
            rw [gsq_perm A _ l hs l (Nat.le_refl l), show swp l (l + p) l = l + p from if_pos rfl]
            exact h4
theorem gdt_dtq (A : Nat → RowQ) (n : Nat) : gdt n 0 A = dtq A n := gdt_det n n 0 A (by omega) fun l hl => absurd hl (by omega)
theorem dtq_three (A : Nat → RowQ) : dtq A 3 = A 0 0 * (A 1 1 * A 2 2 - A 2 1 * A 1 2) - A 1 0 * (A 0 1 * A 2 2 - A 2 1 * A 0 2) + A 2 0 * (A 0 1 * A 1 2 - A 1 1 * A 0 2) := by
  have e : (List.range 3).map A = [A 0, A 1, A 2] := rfl
  rw [dtq, e]
  simp only [dl, altq, List.nil_append, List.cons_append]
  grind
end Go.Proofs.Ytcjnacpekbhhcaa

namespace Go.Proofs.Ytcjnacpekbhhcaa
open Go Go.Proofs Go.AL
set_option linter.unusedSimpArgs false
set_option linter.unusedVariables false
def mrows (m : List (List RI)) : List (List IV) := m.map fun r => [.sl (raws r)]
theorem mrows_len (m : List (List RI)) : (mrows m).length = m.length := List.length_map _
theorem mrows_at {m : List (List RI)} {i : Nat} (h : i < m.length) : (mrows m).getD i [] = [.sl (raws (m.getD i []))] := by simp [mrows, List.getD, h]
theorem mrows_take (m : List (List RI)) (k : Nat) : (mrows m).take k = mrows (m.take k) := by simp [mrows, List.map_take]
abbrev cm (m : List (List RI)) : CV := .iv (.sl (mrows m))
theorem getm_mem {m : List (List RI)} {i : Nat} (h : i < m.length) : m.getD i [] ∈ m := by rw [List.getD, List.getElem?_eq_getElem h, Option.getD_some]; exact List.getElem_mem h
def mq (m : List (List RI)) : Nat → RowQ := fun i j => ((iv ((m.getD i []).getD j (false, [])) : Int) : Rat)
theorem mq_num (m : List (List RI)) (i j : Nat) : (mq m i j).num = iv ((m.getD i []).getD j (false, [])) := Rat.num_intCast _
theorem zsub_ok (a b : RI) (ha : Sz (2 ^ 40) a) (hb : Sz (2 ^ 40) b) : AC Try.prog 23 [cr a, cr b] none [cz (iv a - iv b)] := by
  have m := zneg_ok b hb
  have hz : Sz (2 ^ 40) (canon (-iv b)) := (sz_canon _).mono (by rw [zl_neg]; exact zl_iv hb)
  have k := zadd_ok a (canon (-iv b)) ha hz
  rw [iv_canon, show iv a + -iv b = iv a - iv b by omega] at k
  refine AC.by_walk (rs := [.cell 4 32]) ords Try.func23 (by rfl) (by rfl) (by rfl) (by rfl) (by rfl) ?_
  simp (disch := omega) only [wk, tis, seval, reduceCtorEq, Nat.reduceEqDiff, mrows_len, mrows_at, mrows_take]
  refine ⟨tmps_by (by kernel_rfl), ?_⟩
  refine call_by (m) (by rfl) (by simp) ?_
  simp (disch := omega) only [wk, tis, seval, reduceCtorEq, Nat.reduceEqDiff, mrows_len, mrows_at, mrows_take]
  refine call_by (k) (by rfl) (by simp) ?_
  simp (disch := omega) only [wk, tis, seval, reduceCtorEq, Nat.reduceEqDiff, mrows_len, mrows_at, mrows_take]
  first | exact log_by (by kernel_rfl) | refine ⟨log_by (by kernel_rfl), ?_⟩
  try rfl
theorem det1_ok (r : List RI) (k : Nat) (hk : k < r.length) (hl : r.length ≤ 2 ^ 40) (h : Sz (2 ^ 40) (r.getD k (false, []))) : AC Try.prog 22 [.iv (.sl (raws r)), .box [.int .i64 k]] none [cb (decide (iv (r.getD k (false, [])) ≠ 0))] := by
  have m := zsign_ok _ h
  refine AC.by_walk (rs := [.tmp 3]) ords Try.func22 (by rfl) (by rfl) (by rfl) (by rfl) (by rfl) ?_
  simp (disch := omega) only [wk, tis, seval, reduceCtorEq, Nat.reduceEqDiff, mrows_len, mrows_at, mrows_take]
  refine call_by (m) (by rfl) (by simp) ?_
  simp (disch := omega) only [wk, tis, seval, reduceCtorEq, Nat.reduceEqDiff, mrows_len, mrows_at, mrows_take]
  rw [decide_eq_decide, Int.sign_eq_zero_iff_zero]
theorem idxm_gen (l : List (List RI)) (g : Nat) (row : List IV) (P : List RI → Bool) (e : Int) (hl : l.length ≤ 2 ^ 43) (hc : ∀ r ∈ l, AC Try.prog g [.iv (.sl (raws r)), .box row] none [cb (P r)])
    (h1 : ∀ i, i < l.length → (∀ j, j < i → P (l.getD j []) = false) → P (l.getD i []) = true → e = i) (h2 : (∀ j, j < l.length → P (l.getD j []) = false) → e = -1) :
    AC Try.prog 21 [cm l, .fn g [row]] none [ci e] := by
  refine AC.by_walk (rs := [.tmp 4]) ords Try.func21 (by rfl) (by rfl) (by rfl) (by rfl) (by rfl) ?_
  simp (disch := omega) only [wk, tis, seval, reduceCtorEq, Nat.reduceEqDiff, mrows_len, mrows_at, mrows_take, List.map_cons, List.map_nil]
  refine aloop_by (fun f H => ∃ (i : Nat), i ≤ l.length ∧ (∀ j, j < i → P (l.getD j []) = false) ∧ f 8 = .iv (.int .i64 i) ∧ f 0 = .iv (.sl (mrows l)) ∧ f 6 = .iv (.sl (mrows l)) ∧ f 7 = .iv (.int .i64 l.length) ∧ f 1 = .fn g [.ip row]) (fun f H => (l.length - intAt f 8).toNat) ?_ ?_
  · refine ⟨0, by omega, fun j hj => by omega, ?_⟩
    simp (disch := omega) only [wk, tis, seval, reduceCtorEq, Nat.reduceEqDiff, mrows_len, mrows_at, mrows_take, List.map_cons, List.map_nil]
  rintro f H ⟨i, hi, hz, hF⟩
  rw [intAt_of hF.1]
  simp (disch := omega) only [wk, tis, seval, reduceCtorEq, Nat.reduceEqDiff, mrows_len, mrows_at, mrows_take, hF]
  refine if_by (fun hlt => ?_) (fun hlt => ?_)
  · have hlt' : i < l.length := by omega
    simp (disch := omega) only [wk, tis, seval, reduceCtorEq, Nat.reduceEqDiff, mrows_len, mrows_at, mrows_take, hF]
    refine call_by ((hc (l.getD i []) (getm_mem hlt'))) (by first | rfl | (simp only [tocvs, tocv, hF]; rfl) | (simp only [tocvs, tocv, toboxes, tobox, updH_at, Nat.reduceEqDiff, ↓reduceIte, hF]; rfl)) (by simp) ?_
    simp (disch := omega) only [wk, tis, seval, reduceCtorEq, Nat.reduceEqDiff, mrows_len, mrows_at, mrows_take, hF]
    cases hP : P (l.getD i []) with
    | true =>
      obtain rfl := h1 i hlt' hz hP
      simp (disch := omega) only [wk, tis, seval, reduceCtorEq, Nat.reduceEqDiff, mrows_len, mrows_at, mrows_take, hF]
    | false =>
      simp (disch := omega) only [wk, tis, seval, reduceCtorEq, Nat.reduceEqDiff, mrows_len, mrows_at, mrows_take, hF]
      refine ⟨⟨i + 1, by omega, fun j hj => ?_, by omega⟩, by omega⟩
      rcases Nat.lt_or_ge j i with hj' | hj'
      · exact hz j hj'
      · obtain rfl : j = i := by omega
        exact hP
  · obtain rfl := h2 fun j hj => hz j (by omega)
    simp (disch := omega) only [wk, tis, seval, reduceCtorEq, Nat.reduceEqDiff, mrows_len, mrows_at, mrows_take, hF]
end Go.Proofs.Ytcjnacpekbhhcaa

namespace Go.Proofs.Ytcjnacpekbhhcaa
open Go Go.Proofs Go.AL
set_option linter.unusedSimpArgs false
set_option linter.unusedVariables false
def capN (k : Nat) : Nat := if k < 1000 then k else 1000
def capL (lg : Log) : Log := lg.map fun p => (p.1.map capN, p.2.map capN)
theorem capL_nil : capL [] = [] := rfl
theorem capL_cons (x y : List Nat) (lg : Log) : capL ((x, y) :: lg) = (x.map capN, y.map capN) :: capL lg := rfl
theorem capN_lt {k : Nat} (h : k < 1000) : capN k = k := if_pos h
theorem capN_ge {k : Nat} (h : 1000 ≤ k) : capN k = 1000 := if_neg (by omega)
theorem clash_cap {x y : List Nat × List Nat} (h : clash (x.1.map capN, x.2.map capN) (y.1.map capN, y.2.map capN) = false) : clash x y = false := by
  have key : ∀ (a b c : List Nat), ((a.map capN).any fun k => (b.map capN).contains k || (c.map capN).contains k) = false → (a.any fun k => b.contains k || c.contains k) = false := fun a b c h => by
    rw [List.any_eq_false] at h ⊢
    intro k hk hc
    have := h (capN k) (List.mem_map.2 ⟨k, hk, rfl⟩)
    simp only [Bool.or_eq_true, List.contains_iff_mem] at hc this
    exact this (hc.elim (fun h => .inl (List.mem_map.2 ⟨k, h, rfl⟩)) fun h => .inr (List.mem_map.2 ⟨k, h, rfl⟩))
  simp only [clash, Bool.or_eq_false_iff] at h ⊢
  exact ⟨key _ _ _ h.1, key _ _ _ h.2⟩
theorem logN_by {ops : Array Oper} {lg lg' : Log} (e : capL lg = lg') (h : logOk ops lg'.reverse = true) : LogOk ops lg := by
  subst e
  unfold LogOk
  unfold logOk pairsOk at h ⊢
  rw [List.all_eq_true] at h ⊢
  intro j hj
  have h := h j hj
  rw [List.all_eq_true] at h ⊢
  intro i hi
  have h := h i hi
  rw [Bool.or_eq_true] at h ⊢
  refine h.elim (fun h => .inl ?_) .inr
  have hg : ∀ i, ((capL lg).reverse).getD i ([], []) = (((lg.reverse).getD i ([], [])).1.map capN, ((lg.reverse).getD i ([], [])).2.map capN) := fun i => by
    rw [capL, ← List.map_reverse, List.getD, List.getD, List.getElem?_map]
    cases lg.reverse[i]? <;> rfl
  rw [hg, hg] at h
  rw [Bool.not_eq_true'] at h ⊢
  exact clash_cap h
def hrows (hd s : Nat → Nat) (n : Nat) : List AV := (List.range n).map fun j => .hs (hd j) (s j)
theorem hrows_len (hd s : Nat → Nat) (n : Nat) : (hrows hd s n).length = n := by simp [hrows]
theorem hrows_at (hd s : Nat → Nat) {n i : Nat} (h : i < n) : (hrows hd s n).getD i .undef = .hs (hd i) (s i) := by
  simp only [hrows, List.getD, List.getElem?_map, List.getElem?_range h, Option.map_some, Option.getD_some]
theorem hrows_snoc (hd s : Nat → Nat) (i st : Nat) : hrows hd s i ++ [.hs (hd i) st] = hrows hd (fun j => if j = i then st else s j) (i + 1) := by
  rw [hrows, hrows, List.range_succ, List.map_append, List.map_cons, List.map_nil, if_pos rfl]
  congr 1
  refine List.map_congr_left fun j hj => ?_
  rw [List.mem_range] at hj
  rw [if_neg (by omega)]
theorem hrows_swap (hd s : Nat → Nat) {n a b : Nat} (ha : a < n) (hb : b < n) : ((hrows hd s n).set a (.hs (hd b) (s b))).set b (.hs (hd a) (s a)) = hrows (fun j => hd (swp a b j)) (fun j => s (swp a b j)) n := by
  refine List.ext_getElem (by simp [hrows]) fun i h1 h2 => ?_
  simp only [List.getElem_set, hrows, List.getElem_map, List.getElem_range, swp]
  by_cases e1 : b = i
  · subst e1
    by_cases e2 : b = a
    · subst e2; simp
    · rw [if_pos rfl, if_neg e2, if_pos rfl]
      try simp [e2]
  · rw [if_neg e1]
    by_cases e2 : a = i
    · subst e2
      rw [if_pos rfl, if_pos rfl]
      try simp
    · rw [if_neg e2, if_neg (fun h => e2 h.symm), if_neg (fun h => e1 h.symm)]
      try simp [Ne.symm e2, Ne.symm e1]
theorem nrows_of {H : Hp} {hd s : Nat → Nat} {R : Nat → List (List IV)} : ∀ L : List Nat, (∀ q ∈ L, ∃ b e sz, H (hd q) = .blk b (s q) e sz (R q)) → ∃ (c : Prop) (ms : List Nat), c ∧ nrows H (L.map fun q => .hs (hd q) (s q)) = some (c, L.map (fun q => [.sl (R q)]), ms)
  | [], _ => ⟨True, [], trivial, rfl⟩
  | q :: L, h => by
    obtain ⟨c, ms, hc, hn⟩ := nrows_of L fun r hr => h r (by simp [hr])
    obtain ⟨b, e, sz, hq⟩ := h q (by simp)
    refine ⟨s q = s q ∧ c, hd q :: ms, ⟨rfl, hc⟩, ?_⟩
    simp only [List.map_cons, nrows, hq, hn]
theorem hrows_part (hd s : Nat → Nat) (n k : Nat) : ((hrows hd s n).drop k).take (n - k) = (List.range' k (n - k)).map fun q => .hs (hd q) (s q) := by
  rw [List.take_of_length_le (by simp [hrows]), hrows, ← List.map_drop, List.range_eq_range', List.drop_range', Nat.zero_add, Nat.mul_one]
def nrow (m : List (List RI)) (j : Nat) : List RI := (m.getD j []).map fun c => canon (iv c)
def srow (A : Nat → RowQ) (n k q : Nat) : List RI := (List.range n).map fun j => canon (stq A k q j)
def irow (A : Nat → RowQ) (n k i0 j0 q : Nat) : List RI := (List.range n).map fun j => canon (siq A k i0 j0 q j)
theorem srow_len (A : Nat → RowQ) (n k q : Nat) : (srow A n k q).length = n := by simp [srow]
theorem irow_len (A : Nat → RowQ) (n k i0 j0 q : Nat) : (irow A n k i0 j0 q).length = n := by simp [irow]
theorem srow_at (A : Nat → RowQ) {n c : Nat} (k q : Nat) (h : c < n) : (srow A n k q).getD c (false, []) = canon (stq A k q c) := by
  simp only [srow, List.getD, List.getElem?_map, List.getElem?_range h, Option.map_some, Option.getD_some]
theorem irow_at (A : Nat → RowQ) {n c : Nat} (k i0 j0 q : Nat) (h : c < n) : (irow A n k i0 j0 q).getD c (false, []) = canon (siq A k i0 j0 q c) := by
  simp only [irow, List.getD, List.getElem?_map, List.getElem?_range h, Option.map_some, Option.getD_some]
theorem nrow_srow {m : List (List RI)} {n j : Nat} (hl : (m.getD j []).length = n) : nrow m j = srow (mq m) n 0 j := by
  refine List.ext_getElem (by rw [nrow, srow, List.length_map, List.length_map, List.length_range, hl]) fun i h1 h2 => ?_
  have h3 : i < (m.getD j []).length := by rw [nrow, List.length_map] at h1; exact h1
  simp only [nrow, srow, List.getElem_map, List.getElem_range]
  rw [stq_zero, mq_num, show (m.getD j []).getD i (false, []) = (m.getD j [])[i] by rw [List.getD, List.getElem?_eq_getElem h3, Option.getD_some]]
theorem irow_first (A : Nat → RowQ) (n k q : Nat) : irow A n k (k + 1) (k + 1) q = srow A n k q := List.map_congr_left fun j _ => by rw [siq_first]
theorem irow_row (A : Nat → RowQ) (n k i0 q : Nat) : irow A n k i0 n q = irow A n k (i0 + 1) (k + 1) q := List.map_congr_left fun j hj => by rw [siq_row A k n i0 q j (List.mem_range.1 hj)]
theorem irow_last (A : Nat → RowQ) {n k q : Nat} (hq : q < n) : irow A n k n (k + 1) q = srow A n (k + 1) q := List.map_congr_left fun j hj => by rw [siq_last A k n (k + 1) q j hq (List.mem_range.1 hj)]
theorem irow_set (A : Nat → RowQ) {n k i0 j0 : Nat} (hi : k < i0) (hj : k < j0) : (irow A n k i0 j0 i0).set j0 (canon (miq A (k + 1) i0 j0)) = irow A n k i0 (j0 + 1) i0 := by
  refine List.ext_getElem (by simp [irow]) fun c h1 h2 => ?_
  simp only [List.getElem_set, irow, List.getElem_map, List.getElem_range]
  rw [siq_set A k i0 j0 i0 c hi hj]
  by_cases e : j0 = c
  · subst e
    rw [if_pos rfl, if_pos ⟨rfl, rfl⟩]
  · rw [if_neg e, if_neg fun h => e h.2.symm]
theorem irow_ne (A : Nat → RowQ) (n k i0 j0 : Nat) {q : Nat} (h : q ≠ i0) : irow A n k i0 (j0 + 1) q = irow A n k i0 j0 q := List.map_congr_left fun j _ => by rw [siq_ne A k i0 (j0 + 1) q j h, siq_ne A k i0 j0 q j h]
theorem srow_swap (A : Nat → RowQ) (n k p q : Nat) : srow (fun r => A (swp k (k + p) r)) n k q = srow A n k (swp k (k + p) q) := List.map_congr_left fun j _ => by rw [stq_swap]
theorem swp_in {n a b i : Nat} (ha : a < n) (hb : b < n) (hi : i < n) : swp a b i < n := by unfold swp; split <;> (try split) <;> omega
theorem swp_inj {a b i j : Nat} (h : swp a b i = swp a b j) : i = j := by
  unfold swp at h
  split at h <;> split at h <;> (try split at h) <;> (try split at h) <;> omega
theorem stq_diag (A : Nat → RowQ) (k : Nat) : stq A (k + 1) k k = lstq A (k + 1) := by
  rw [lstq_succ, stq, show min (k + 1) (min k k) = k by omega]
theorem stq_col (A : Nat → RowQ) {k q : Nat} (h : k ≤ q) : stq A k q k = miq A k q k := by
  rw [stq, show min k (min q k) = k by omega]
end Go.Proofs.Ytcjnacpekbhhcaa

namespace Go.Proofs.Ytcjnacpekbhhcaa
open Go Go.Proofs Go.AL
set_option linter.unusedSimpArgs false
set_option linter.unusedVariables false
theorem key_ne (i x : Nat) (h : x < 1000) : (1000 + i = x) = False := eq_false (by omega)
theorem key_ne' (i x : Nat) (h : x < 1000) : (x = 1000 + i) = False := eq_false (by omega)
theorem key_lt (i : Nat) : (1000 + i < 1000) = False := eq_false (by omega)
def MB (n k : Nat) (m : List (List RI)) : Prop := m.length ≤ n ∧ ∀ r ∈ m, r.length ≤ n ∧ ∀ c ∈ r, Sz k c
theorem MB.row {n k i : Nat} {m : List (List RI)} (h : MB n k m) (hi : i < m.length) : (m.getD i []).length ≤ n := (h.2 _ (getm_mem hi)).1
theorem MB.cell {n k i j : Nat} {m : List (List RI)} (h : MB n k m) (hi : i < m.length) (hj : j < (m.getD i []).length) : Sz k ((m.getD i []).getD j (false, [])) := (h.2 _ (getm_mem hi)).2 _ (by
  generalize m.getD i [] = r at *
  rw [List.getD, List.getElem?_eq_getElem hj, Option.getD_some]; exact List.getElem_mem hj)
def nrmv (l : List RI) : List RI := l.map fun c => canon (iv c)
theorem nrmv_len (l : List RI) : (nrmv l).length = l.length := List.length_map _
theorem nrmv_take {l : List RI} {j : Nat} (h : j < l.length) : nrmv (l.take j) ++ [canon (iv (l.getD j (false, [])))] = nrmv (l.take (j + 1)) := by
  rw [nrmv, nrmv, List.take_add_one, List.getD, List.getElem?_eq_getElem h, Option.getD_some, List.map_append]
  rfl
theorem det_bad (m : List (List RI)) (hm : MB (2 ^ 20) (2 ^ 20) m) (hb : ¬ ∀ r ∈ m, r.length = m.length) : AC Try.prog 8 [cm m] none [cr (false, []), ci 3] := by
  have hl := hm.1
  refine AC.by_walk (rs := [.cell 2 32, .tmp 3]) ords Try.func8 (by rfl) (by rfl) (by rfl) (by rfl) (by rfl) ?_
  simp (disch := omega) only [wk, tis, seval, reduceCtorEq, Nat.reduceEqDiff, mrows_len, mrows_at, mrows_take, hrows_len]
  refine aloop_nilN 4 4 28 (by simp (disch := omega) only [wk, tis, seval, reduceCtorEq, Nat.reduceEqDiff, mrows_len, mrows_at, mrows_take, hrows_len]) (fun f H => ∃ (i sa s2 : Nat) (s : Nat → Nat), i ≤ m.length ∧ (∀ j, j < i → (m.getD j []).length = m.length) ∧ H 4 = .nst sa 28 (hrows (1000 + ·) s i) ∧ (∀ j, j < i → H (1000 + j) = .blk false (s j) 32 2 (raws (nrow m j))) ∧ f 19 = .iv (.int .i64 i) ∧ f 17 = .iv (.sl (mrows m)) ∧ f 18 = .iv (.int .i64 m.length) ∧ f 0 = .iv (.sl (mrows m)) ∧ f 2 = .hp 2 s2 0 0 ∧ H 2 = .blk false s2 32 2 [[.bool false, .sl []]] ∧ f 3 = .iv (.int .i64 0) ∧ f 4 = .hs 4 sa) (fun f H => (m.length - intAt f 19).toNat) ?_ ?_
  · refine ⟨0, 1, 1, fun _ => 0, by omega, fun j hj => by omega, rfl, fun j hj => absurd hj (by omega), ?_⟩
    simp (disch := omega) only [wk, tis, seval, reduceCtorEq, Nat.reduceEqDiff, mrows_len, mrows_at, mrows_take, hrows_len, ghostF, ghostHN, ghostH]
  rintro f H ⟨i, sa, s2, s, hi, hg, hN, hr, hF⟩
  rw [intAt_of hF.1]
  simp (disch := omega) only [wk, tis, seval, reduceCtorEq, Nat.reduceEqDiff, mrows_len, mrows_at, mrows_take, hrows_len, hF]
  refine if_by (fun hlt => ?_) (fun hlt => ?_)
  · have hlt' : i < m.length := by omega
    have hrw := hm.row hlt'
    simp (disch := omega) only [wk, tis, seval, reduceCtorEq, Nat.reduceEqDiff, mrows_len, mrows_at, mrows_take, hrows_len, hF]
    by_cases hrl : (m.getD i []).length = m.length
    · have hrl' : ((m.getD i []).length : Int) = (m.length : Int) := by omega
      simp (disch := omega) only [wk, tis, seval, reduceCtorEq, Nat.reduceEqDiff, mrows_len, mrows_at, mrows_take, hrows_len, hF, hrl']
      have hkn := key_ne i
      have hkn' := key_ne' i
      have hki := key_lt i
      refine aloop_nil 7 (1000+i) 32 2 (by simp (disch := omega) only [wk, tis, seval, reduceCtorEq, Nat.reduceEqDiff, mrows_len, mrows_at, mrows_take, hrows_len]) (fun f H => ∃ (j sa s2 st : Nat), j ≤ m.length ∧ H 4 = .nst sa 28 (hrows (1000 + ·) s i) ∧ (∀ j, j < i → H (1000 + j) = .blk false (s j) 32 2 (raws (nrow m j))) ∧ H (1000 + i) = .blk false st 32 2 (raws (nrmv ((m.getD i []).take j))) ∧ f 31 = .iv (.int .i64 j) ∧ f 29 = .iv (.sl (raws (m.getD i []))) ∧ f 30 = .iv (.int .i64 m.length) ∧ f 19 = .iv (.int .i64 i) ∧ f 17 = .iv (.sl (mrows m)) ∧ f 18 = .iv (.int .i64 m.length) ∧ f 0 = .iv (.sl (mrows m)) ∧ f 2 = .hp 2 s2 0 0 ∧ H 2 = .blk false s2 32 2 [[.bool false, .sl []]] ∧ f 3 = .iv (.int .i64 0) ∧ f 4 = .hs 4 sa ∧ f 7 = .hs (1000 + i) st) (fun f H => (m.length - intAt f 31).toNat) ?_ ?_
      · refine ⟨0, sa, s2, (H (1000 + i)).stamp + 1, by omega, by simp (disch := omega) only [wk, tis, seval, reduceCtorEq, Nat.reduceEqDiff, mrows_len, mrows_at, mrows_take, hrows_len, ghostH, hN, hkn'], fun j hj => by simp (disch := omega) only [wk, tis, seval, reduceCtorEq, Nat.reduceEqDiff, mrows_len, mrows_at, mrows_take, hrows_len, ghostH, hr j hj, Nat.add_left_cancel_iff, Nat.ne_of_lt hj], by simp (disch := omega) only [wk, tis, seval, reduceCtorEq, Nat.reduceEqDiff, mrows_len, mrows_at, mrows_take, hrows_len, ghostH]; rfl, ?_⟩
        simp (disch := omega) only [wk, tis, seval, reduceCtorEq, Nat.reduceEqDiff, mrows_len, mrows_at, mrows_take, hrows_len, ghostF, ghostH, hF, hkn']
      rintro f H ⟨j, sa, s2, st, hj, hN, hr, hw, hF⟩
      rw [intAt_of hF.1]
      simp (disch := omega) only [wk, tis, seval, reduceCtorEq, Nat.reduceEqDiff, mrows_len, mrows_at, mrows_take, hrows_len, hF]
      refine if_by (fun hlt => ?_) (fun hlt => ?_)
      · have hjl : j < (m.getD i []).length := by omega
        have zc := znorm_ok _ ((hm.cell hlt' hjl).mono (by omega))
        have hwl : (nrmv ((m.getD i []).take j)).length = j := by rw [nrmv_len, List.length_take]; omega
        simp (disch := omega) only [wk, tis, seval, reduceCtorEq, Nat.reduceEqDiff, mrows_len, mrows_at, mrows_take, hrows_len, hF]
        refine call_by (zc) (by first | rfl | (simp only [tocvs, tocv, hF, hw, hwl, hkn, hkn']; rfl) | (simp only [tocvs, tocv, toboxes, tobox, updH_at, Nat.reduceEqDiff, ↓reduceIte, hF, hw, hwl, hkn, hkn']; rfl)) (by simp) ?_
        simp (disch := omega) only [wk, tis, seval, reduceCtorEq, Nat.reduceEqDiff, mrows_len, mrows_at, mrows_take, hrows_len, hF, hw, hwl, hkn, hkn']
        refine ⟨⟨j + 1, sa, s2, st + 1, by omega, by simp (disch := omega) only [wk, tis, seval, reduceCtorEq, Nat.reduceEqDiff, mrows_len, mrows_at, mrows_take, hrows_len, hN, hkn'], fun q hq => by simp (disch := omega) only [wk, tis, seval, reduceCtorEq, Nat.reduceEqDiff, mrows_len, mrows_at, mrows_take, hrows_len, hr q hq, Nat.add_left_cancel_iff, Nat.ne_of_lt hq, key_ne q], by rw [← nrmv_take hjl], ?_⟩, by omega⟩
        (repeat' apply And.intro) <;> first | rfl | omega
      ·
        obtain rfl : j = m.length := by omega
        have hnw : nrmv ((m.getD i []).take m.length) = nrow m i := by rw [List.take_of_length_le (by omega)]; rfl
        rw [hnw] at hw
        simp (disch := omega) only [wk, tis, seval, reduceCtorEq, Nat.reduceEqDiff, mrows_len, mrows_at, mrows_take, hrows_len, hF, hN, hw, hkn, hkn', hki]
        refine ⟨⟨i + 1, sa + 1, s2, fun q => if q = i then st else s q, by omega, fun q hq => ?_, ?_, fun q hq => ?_, ?_⟩, by omega⟩
        · rcases Nat.lt_or_ge q i with h | h
          · exact hg q h
          · obtain rfl : q = i := by omega
            exact hrl
        · rw [← hrows_snoc]
        · rcases Nat.lt_or_ge q i with h | h
          · simp (disch := omega) only [wk, tis, seval, reduceCtorEq, Nat.reduceEqDiff, mrows_len, mrows_at, mrows_take, hrows_len, hr q h, key_ne q]
            rw [if_neg (by omega)]
          · obtain rfl : q = i := by omega
            simp (disch := omega) only [wk, tis, seval, reduceCtorEq, Nat.reduceEqDiff, mrows_len, mrows_at, mrows_take, hrows_len, hw, hkn]
        · (repeat' apply And.intro) <;> first | rfl | omega
    · have hrl' : ¬ ((m.getD i []).length : Int) = (m.length : Int) := by omega
      simp (disch := omega) only [wk, tis, seval, reduceCtorEq, Nat.reduceEqDiff, mrows_len, mrows_at, mrows_take, hrows_len, hF, hrl']
      try rfl
  · exfalso
    refine hb fun r hr => ?_
    obtain ⟨j, hj, rfl⟩ := List.getElem_of_mem hr
    have := hg j (by omega)
    rwa [List.getD, List.getElem?_eq_getElem hj, Option.getD_some] at this
end Go.Proofs.Ytcjnacpekbhhcaa

namespace Go.Proofs.Ytcjnacpekbhhcaa
open Go Go.Proofs Go.AL
set_option linter.unusedSimpArgs false
set_option linter.unusedVariables false
def sgb (b : Bool) : Rat := if b then -1 else 1
theorem rows_all {m : List (List RI)} (h : ∀ r ∈ m, r.length = m.length) {i : Nat} (hi : i < m.length) : (m.getD i []).length = m.length := h _ (getm_mem hi)
theorem mq_cd {m : List (List RI)} (hm : MB (2 ^ 20) (2 ^ 20) m) (i j : Nat) : CD 1 (2 ^ 20) (mq m i j) := by
  refine ⟨iv ((m.getD i []).getD j (false, [])), by rw [mq, show ((1 : Nat) : Rat) = 1 from rfl]; grind, ?_⟩
  by_cases hi : i < m.length
  · by_cases hj : j < (m.getD i []).length
    · exact zl_iv (hm.cell hi hj)
    · generalize m.getD i [] = r at *
      rw [List.getD, List.getElem?_eq_none (by omega)]
      exact Nat.le_trans (show zl (iv (false, [])) ≤ 1 by decide +kernel) (by omega)
  · rw [show m.getD i [] = [] by rw [List.getD, List.getElem?_eq_none (by omega)]; rfl]
    exact Nat.le_trans (show zl (iv (([] : List RI).getD j (false, []))) ≤ 1 by rw [List.getD_nil]; decide +kernel) (by omega)
theorem bz_small {k : Nat} (h : k ≤ 41) : bz (2 ^ 20) k ≤ 2 ^ 26 := Nat.le_trans (bz_mono h) (by decide)
def pidx (A : Nat → RowQ) (n k : Nat) : Int := if fpv A k (n - k) 0 = n - k then -1 else ((fpv A k (n - k) 0 : Nat) : Int)
theorem lrow_at (A : Nat → RowQ) {n k i : Nat} (h : i < n - k) : ((List.range' k (n - k)).map (srow A n k)).getD i [] = srow A n k (k + i) := by
  rw [List.getD, List.getElem?_map, List.getElem?_range' h, Option.map_some, Option.getD_some, Nat.one_mul]
theorem lrow_len (A : Nat → RowQ) (n k : Nat) : ((List.range' k (n - k)).map (srow A n k)).length = n - k := by simp
theorem detidx_ok (A : Nat → RowQ) (n k : Nat) (hg : Gs A (2 ^ 20) k) (hk : k < n) (hn : n ≤ 40) : AC Try.prog 21 [cm ((List.range' k (n - k)).map (srow A n k)), .fn 22 [[.int .i64 k]]] none [ci (pidx A n k)] := by
  have hb := bz_small (k := k) (by omega)
  have hcell : ∀ q, k ≤ q → (srow A n k q).getD k (false, []) = canon (miq A k q k) := fun q hq => by rw [srow_at A k q hk, stq_col A hq]
  have hP : ∀ i, i < n - k → (decide (iv ((((List.range' k (n - k)).map (srow A n k)).getD i []).getD k (false, [])) ≠ 0) = true ↔ gsq A k (k + i) k ≠ 0) := fun i hi => by
    rw [lrow_at A hi, hcell _ (by omega), iv_canon, decide_eq_true_iff, ne_eq, ne_eq, hg.mi_zero]
  obtain ⟨_, s2, s3, s4⟩ := fpv_spec A k (n - k) 0
  refine idxm_gen _ 22 [.int .i64 k] (fun r => decide (iv (r.getD k (false, [])) ≠ 0)) _ (by rw [lrow_len]; omega) (fun r hr => ?_) (fun i hi hz hp => ?_) (fun hz => ?_)
  · obtain ⟨q, hq, rfl⟩ := List.mem_map.1 hr
    rw [List.mem_range'] at hq
    obtain ⟨i, hi, rfl⟩ := hq
    refine det1_ok _ k (by rw [srow_len]; exact hk) (by rw [srow_len]; omega) ?_
    rw [hcell _ (by omega)]
    exact (sz_canon _).mono (Nat.le_trans (hg.mi _ _).2 (by omega))
  · rw [lrow_len] at hi
    have h1 := (hP i hi).mp hp
    have hpi : fpv A k (n - k) 0 = i := by
      rcases Nat.lt_trichotomy (fpv A k (n - k) 0) i with h | h | h
      · have h2 := (hP (fpv A k (n - k) 0) (by omega)).mpr (s4 (by omega))
        rw [hz _ h] at h2
        cases h2
      · exact h
      · exact absurd (s3 i (by omega) h) h1
    rw [pidx, hpi, if_neg (by omega)]
  · rw [lrow_len] at hz
    rw [pidx, if_pos]
    rcases Nat.lt_or_ge (fpv A k (n - k) 0) (n - k) with h | h
    · have h2 := (hP _ h).mpr (s4 (by omega))
      rw [hz _ h] at h2
      cases h2
    · omega
set_option maxHeartbeats 1000000 in
theorem det_ok (m : List (List RI)) (hm : MB (2 ^ 20) (2 ^ 20) m) (h40 : m.length ≤ 40) (hall : ∀ r ∈ m, r.length = m.length) : AC Try.prog 8 [cm m] none [cz (gdt m.length 0 (mq m)).num, ci 0] := by
  have hl := hm.1
  have zo1 := zOf_ok 1 (by omega) (by omega)
  have zo0 := zOf_ok 0 (by omega) (by omega)
  refine AC.by_walk (rs := [.cell 2 32, .tmp 3]) ords Try.func8 (by rfl) (by rfl) (by rfl) (by rfl) (by rfl) ?_
  simp (disch := omega) only [wk, tis, seval, reduceCtorEq, Nat.reduceEqDiff, mrows_len, mrows_at, mrows_take, hrows_len]
  refine aloop_nilN 4 4 28 (by simp (disch := omega) only [wk, tis, seval, reduceCtorEq, Nat.reduceEqDiff, mrows_len, mrows_at, mrows_take, hrows_len]) (fun f H => ∃ (i sa s2 : Nat) (s : Nat → Nat), i ≤ m.length ∧ (∀ j, j < i → (m.getD j []).length = m.length) ∧ H 4 = .nst sa 28 (hrows (1000 + ·) s i) ∧ (∀ j, j < i → H (1000 + j) = .blk false (s j) 32 2 (raws (nrow m j))) ∧ f 19 = .iv (.int .i64 i) ∧ f 17 = .iv (.sl (mrows m)) ∧ f 18 = .iv (.int .i64 m.length) ∧ f 0 = .iv (.sl (mrows m)) ∧ f 2 = .hp 2 s2 0 0 ∧ H 2 = .blk false s2 32 2 [[.bool false, .sl []]] ∧ f 3 = .iv (.int .i64 0) ∧ f 4 = .hs 4 sa) (fun f H => (m.length - intAt f 19).toNat) ?_ ?_
  · refine ⟨0, 1, 1, fun _ => 0, by omega, fun j hj => by omega, rfl, fun j hj => absurd hj (by omega), ?_⟩
    simp (disch := omega) only [wk, tis, seval, reduceCtorEq, Nat.reduceEqDiff, mrows_len, mrows_at, mrows_take, hrows_len, ghostF, ghostHN, ghostH]
  rintro f H ⟨i, sa, s2, s, hi, hg, hN, hr, hF⟩
  rw [intAt_of hF.1]
  simp (disch := omega) only [wk, tis, seval, reduceCtorEq, Nat.reduceEqDiff, mrows_len, mrows_at, mrows_take, hrows_len, hF]
  refine if_by (fun hlt => ?_) (fun hlt => ?_)
  · have hlt' : i < m.length := by omega
    have hrw := hm.row hlt'
    have hrl := rows_all hall hlt'
    have hrl' : ((m.getD i []).length : Int) = (m.length : Int) := by omega
    simp (disch := omega) only [wk, tis, seval, reduceCtorEq, Nat.reduceEqDiff, mrows_len, mrows_at, mrows_take, hrows_len, hF, hrl']
    have hkn := key_ne i
    have hkn' := key_ne' i
    have hki := key_lt i
    refine aloop_nil 7 (1000+i) 32 2 (by simp (disch := omega) only [wk, tis, seval, reduceCtorEq, Nat.reduceEqDiff, mrows_len, mrows_at, mrows_take, hrows_len]) (fun f H => ∃ (j sa s2 st : Nat), j ≤ m.length ∧ H 4 = .nst sa 28 (hrows (1000 + ·) s i) ∧ (∀ j, j < i → H (1000 + j) = .blk false (s j) 32 2 (raws (nrow m j))) ∧ H (1000 + i) = .blk false st 32 2 (raws (nrmv ((m.getD i []).take j))) ∧ f 31 = .iv (.int .i64 j) ∧ f 29 = .iv (.sl (raws (m.getD i []))) ∧ f 30 = .iv (.int .i64 m.length) ∧ f 19 = .iv (.int .i64 i) ∧ f 17 = .iv (.sl (mrows m)) ∧ f 18 = .iv (.int .i64 m.length) ∧ f 0 = .iv (.sl (mrows m)) ∧ f 2 = .hp 2 s2 0 0 ∧ H 2 = .blk false s2 32 2 [[.bool false, .sl []]] ∧ f 3 = .iv (.int .i64 0) ∧ f 4 = .hs 4 sa ∧ f 7 = .hs (1000 + i) st) (fun f H => (m.length - intAt f 31).toNat) ?_ ?_
    · refine ⟨0, sa, s2, (H (1000 + i)).stamp + 1, by omega, by simp (disch := omega) only [wk, tis, seval, reduceCtorEq, Nat.reduceEqDiff, mrows_len, mrows_at, mrows_take, hrows_len, ghostH, hN, hkn'], fun j hj => by simp (disch := omega) only [wk, tis, seval, reduceCtorEq, Nat.reduceEqDiff, mrows_len, mrows_at, mrows_take, hrows_len, ghostH, hr j hj, Nat.add_left_cancel_iff, Nat.ne_of_lt hj], by simp (disch := omega) only [wk, tis, seval, reduceCtorEq, Nat.reduceEqDiff, mrows_len, mrows_at, mrows_take, hrows_len, ghostH]; rfl, ?_⟩
      simp (disch := omega) only [wk, tis, seval, reduceCtorEq, Nat.reduceEqDiff, mrows_len, mrows_at, mrows_take, hrows_len, ghostF, ghostH, hF, hkn']
    rintro f H ⟨j, sa, s2, st, hj, hN, hr, hw, hF⟩
    rw [intAt_of hF.1]
    simp (disch := omega) only [wk, tis, seval, reduceCtorEq, Nat.reduceEqDiff, mrows_len, mrows_at, mrows_take, hrows_len, hF]
    refine if_by (fun hlt => ?_) (fun hlt => ?_)
    · have hjl : j < (m.getD i []).length := by omega
      have zc := znorm_ok _ ((hm.cell hlt' hjl).mono (by omega))
      have hwl : (nrmv ((m.getD i []).take j)).length = j := by rw [nrmv_len, List.length_take]; omega
      simp (disch := omega) only [wk, tis, seval, reduceCtorEq, Nat.reduceEqDiff, mrows_len, mrows_at, mrows_take, hrows_len, hF]
      refine call_by (zc) (by first | rfl | (simp only [tocvs, tocv, hF, hw, hwl, hkn, hkn']; rfl) | (simp only [tocvs, tocv, toboxes, tobox, updH_at, Nat.reduceEqDiff, ↓reduceIte, hF, hw, hwl, hkn, hkn']; rfl)) (by simp) ?_
      simp (disch := omega) only [wk, tis, seval, reduceCtorEq, Nat.reduceEqDiff, mrows_len, mrows_at, mrows_take, hrows_len, hF, hw, hwl, hkn, hkn']
      refine ⟨⟨j + 1, sa, s2, st + 1, by omega, by simp (disch := omega) only [wk, tis, seval, reduceCtorEq, Nat.reduceEqDiff, mrows_len, mrows_at, mrows_take, hrows_len, hN, hkn'], fun q hq => by simp (disch := omega) only [wk, tis, seval, reduceCtorEq, Nat.reduceEqDiff, mrows_len, mrows_at, mrows_take, hrows_len, hr q hq, Nat.add_left_cancel_iff, Nat.ne_of_lt hq, key_ne q], by rw [← nrmv_take hjl], ?_⟩, by omega⟩
      (repeat' apply And.intro) <;> first | rfl | omega
    ·
      obtain rfl : j = m.length := by omega
      have hnw : nrmv ((m.getD i []).take m.length) = nrow m i := by rw [List.take_of_length_le (by omega)]; rfl
      rw [hnw] at hw
      simp (disch := omega) only [wk, tis, seval, reduceCtorEq, Nat.reduceEqDiff, mrows_len, mrows_at, mrows_take, hrows_len, hF, hN, hw, hkn, hkn', hki]
      refine ⟨⟨i + 1, sa + 1, s2, fun q => if q = i then st else s q, by omega, fun q hq => ?_, ?_, fun q hq => ?_, ?_⟩, by omega⟩
      · rcases Nat.lt_or_ge q i with h | h
        · exact hg q h
        · obtain rfl : q = i := by omega
          exact hrl
      · rw [← hrows_snoc]
      · rcases Nat.lt_or_ge q i with h | h
        · simp (disch := omega) only [wk, tis, seval, reduceCtorEq, Nat.reduceEqDiff, mrows_len, mrows_at, mrows_take, hrows_len, hr q h, key_ne q]
          rw [if_neg (by omega)]
        · obtain rfl : q = i := by omega
          simp (disch := omega) only [wk, tis, seval, reduceCtorEq, Nat.reduceEqDiff, mrows_len, mrows_at, mrows_take, hrows_len, hw, hkn]
      · (repeat' apply And.intro) <;> first | rfl | omega
  obtain rfl : i = m.length := by omega
  have hr0 : ∀ j, j < m.length → H (1000 + j) = .blk false (s j) 32 2 (raws (srow (mq m) m.length 0 j)) := fun j hj => by rw [hr j hj, nrow_srow (rows_all hall hj)]
  clear hr
  have hg0 : Gs (mq m) (2 ^ 20) 0 := ⟨mq_cd hm, fun l hl => absurd hl (by omega)⟩
  have el : canon 1 = canon (lstq (mq m) 0) := by rw [lstq, pvt]; rfl
  generalize mq m = A0 at *
  generalize hn : m.length = n at *
  simp (disch := omega) only [wk, tis, seval, reduceCtorEq, Nat.reduceEqDiff, mrows_len, mrows_at, mrows_take, hrows_len, hF]
  refine call_by (zo1) (by first | rfl | (simp only [tocvs, tocv, hF, hN]; rfl) | (simp only [tocvs, tocv, toboxes, tobox, updH_at, Nat.reduceEqDiff, ↓reduceIte, hF, hN]; rfl)) (by simp) ?_
  simp (disch := omega) only [wk, tis, seval, reduceCtorEq, Nat.reduceEqDiff, mrows_len, mrows_at, mrows_take, hrows_len, hF, hN]
  refine aloop_by (fun f H => ∃ (k sa s10 s2 : Nat) (A : Nat → RowQ) (hd s : Nat → Nat) (tn : Bool), k ≤ n ∧ Gs A (2 ^ 20) k ∧ sgb tn * gdt (n - k) k A = gdt n 0 A0 ∧ H 4 = .nst sa 28 (hrows hd s n) ∧ (∀ q, 1000 ≤ hd q) ∧ (∀ q r, q < n → r < n → hd q = hd r → q = r) ∧ (∀ q, q < n → H (hd q) = .blk false (s q) 32 2 (raws (srow A n k q))) ∧ f 49 = .iv (.int .i64 k) ∧ f 48 = .iv (.int .i64 n) ∧ f 4 = .hs 4 sa ∧ f 10 = .hp 10 s10 0 0 ∧ H 10 = .blk false s10 32 2 [prow (canon (lstq A k))] ∧ f 11 = .iv (.bool tn) ∧ f 2 = .hp 2 s2 0 0 ∧ H 2 = .blk false s2 32 2 [[.bool false, .sl []]] ∧ f 3 = .iv (.int .i64 0)) (fun f H => (n - intAt f 49).toNat) ?_ ?_
  · refine ⟨0, sa, (H 10).stamp + 1, s2, A0, (1000 + ·), s, false, by omega, hg0, by rw [Nat.sub_zero]; exact Rat.one_mul _, by simp (disch := omega) only [wk, tis, seval, reduceCtorEq, Nat.reduceEqDiff, mrows_len, mrows_at, mrows_take, hrows_len, hN], fun q => Nat.le_add_right _ _, fun q r _ _ h => Nat.add_left_cancel h, fun q hq => by simp (disch := omega) only [wk, tis, seval, reduceCtorEq, Nat.reduceEqDiff, mrows_len, mrows_at, mrows_take, hrows_len, hr0 q hq, key_ne q], ?_⟩
    simp (disch := omega) only [wk, tis, seval, reduceCtorEq, Nat.reduceEqDiff, mrows_len, mrows_at, mrows_take, hrows_len, hF, el]
  rintro f H ⟨k, sa, s10, s2, A, hd, s, tn, hk, hG, hgd, hN, hge, hinj, hr, hF⟩
  rw [intAt_of hF.1]
  simp (disch := omega) only [wk, tis, seval, reduceCtorEq, Nat.reduceEqDiff, mrows_len, mrows_at, mrows_take, hrows_len, hF]
  have hne : ∀ q x, x < 1000 → (hd q = x) = False := fun q x hx => eq_false (by have := hge q; omega)
  have hne' : ∀ q x, x < 1000 → (x = hd q) = False := fun q x hx => eq_false (by have := hge q; omega)
  refine if_by (fun hlt => ?_) (fun hlt => ?_)
  · have hlt' : k < n := by omega
    have hnk : ((n : Int) - (k : Int)).toNat = n - k := by omega
    simp (disch := omega) only [wk, tis, seval, reduceCtorEq, Nat.reduceEqDiff, mrows_len, mrows_at, mrows_take, hrows_len, hF, hN, hnk]
    generalize (H 12).stamp + 1 = s12
    refine frame_call (fun f H => H 4 = .nst sa 28 (hrows hd s n) ∧ (∀ q, q < n → H (hd q) = .blk false (s q) 32 2 (raws (srow A n k q))) ∧ f 49 = .iv (.int .i64 k) ∧ f 48 = .iv (.int .i64 n) ∧ f 4 = .hs 4 sa ∧ f 10 = .hp 10 s10 0 0 ∧ H 10 = .blk false s10 32 2 [prow (canon (lstq A k))] ∧ f 11 = .iv (.bool tn) ∧ f 2 = .hp 2 s2 0 0 ∧ H 2 = .blk false s2 32 2 [[.bool false, .sl []]] ∧ f 3 = .iv (.int .i64 0) ∧ f 12 = .hp 12 s12 0 0 ∧ H 12 = .blk false s12 3 1 [[.int .i64 k]])
      ⟨by simp (disch := omega) only [wk, tis, seval, reduceCtorEq, Nat.reduceEqDiff, mrows_len, mrows_at, mrows_take, hrows_len, hN], fun q hq => by simp (disch := omega) only [wk, tis, seval, reduceCtorEq, Nat.reduceEqDiff, mrows_len, mrows_at, mrows_take, hrows_len, hr q hq, hne q], ?_⟩ (fun f H hI => ?_)
    · simp (disch := omega) only [wk, tis, seval, reduceCtorEq, Nat.reduceEqDiff, mrows_len, mrows_at, mrows_take, hrows_len, hF]
    clear hN hr hF
    obtain ⟨hN, hr, hF⟩ := hI
    obtain ⟨c, ms, hc, hnr⟩ := nrows_of (H := H) (hd := hd) (s := s) (R := fun q => raws (srow A n k q)) (List.range' k (n - k)) (fun q hq => ⟨false, _, _, hr q (by rw [List.mem_range'] at hq; obtain ⟨i, hi, rfl⟩ := hq; omega)⟩)
    rw [show (List.range' k (n - k)).map (fun q => [IV.sl (raws (srow A n k q))]) = mrows ((List.range' k (n - k)).map (srow A n k)) by rw [mrows, List.map_map]; rfl] at hnr
    have di := detidx_ok A n k hG hlt' h40
    refine call_flatN di (by simp only [tocvsN, tocvN, tocv, toboxes, tobox, hN, hF, hrows_part, hnr]; rfl) ?_ (.inr (by simp [FlatRes, FlatCV, FlatI])) ?_
    · (repeat' apply And.intro) <;> first | trivial | exact hc | (rw [hrows_len]; omega) | exact Nat.zero_lt_one
    simp (disch := omega) only [wk, tis, seval, reduceCtorEq, Nat.reduceEqDiff, mrows_len, mrows_at, mrows_take, hrows_len, hF]
    obtain ⟨_, q2, q3, q4⟩ := fpv_spec A k (n - k) 0
    have e1 : n - k = (n - (k + 1)) + 1 := by omega
    have hpi : pidx A n k = if fpv A k (n - k) 0 = n - k then -1 else ((fpv A k (n - k) 0 : Nat) : Int) := rfl
    have gs1 := @gdt_none A (n - (k + 1)) k
    have gs2 := @gdt_stay A (n - (k + 1)) k
    have gs3 := @gdt_swap A (n - (k + 1)) k
    rw [← e1] at gs1 gs2 gs3
    generalize fpv A k (n - k) 0 = p at *
    by_cases hpn : p = n - k
    · have hz : gdt n 0 A0 = 0 := by rw [← hgd, gs1 hpn]; exact Rat.mul_zero _
      rw [if_pos hpn] at hpi
      rw [hpi]
      refine if_by (fun h => ?_) (fun h => absurd h (by omega))
      simp (disch := omega) only [wk, tis, seval, reduceCtorEq, Nat.reduceEqDiff, mrows_len, mrows_at, mrows_take, hrows_len, hF]
      refine call_by (zo0) (by first | rfl | (simp only [tocvs, tocv, hF]; rfl) | (simp only [tocvs, tocv, toboxes, tobox, updH_at, Nat.reduceEqDiff, ↓reduceIte, hF]; rfl)) (by simp) ?_
      simp (disch := omega) only [wk, tis, seval, reduceCtorEq, Nat.reduceEqDiff, mrows_len, mrows_at, mrows_take, hrows_len, hF]
      rw [hz]
      try rfl
    rw [if_neg hpn] at hpi
    rw [hpi]
    have hpk : k + p < n := by omega
    have hpiv := q4 (by omega)
    refine if_by (fun h => absurd h (by omega)) (fun h => ?_)
    simp (disch := omega) only [wk, tis, seval, reduceCtorEq, Nat.reduceEqDiff, mrows_len, mrows_at, mrows_take, hrows_len, hF]
    refine if_cut (fun f H => ∃ (sa : Nat) (A : Nat → RowQ) (hd s : Nat → Nat) (tn : Bool), Gs A (2 ^ 20) (k + 1) ∧ sgb tn * gdt (n - (k + 1)) (k + 1) A = gdt n 0 A0 ∧ H 4 = .nst sa 28 (hrows hd s n) ∧ (∀ q, 1000 ≤ hd q) ∧ (∀ q r, q < n → r < n → hd q = hd r → q = r) ∧ (∀ q, q < n → H (hd q) = .blk false (s q) 32 2 (raws (srow A n k q))) ∧
        f 49 = .iv (.int .i64 k) ∧ f 48 = .iv (.int .i64 n) ∧ f 4 = .hs 4 sa ∧ f 10 = .hp 10 s10 0 0 ∧ H 10 = .blk false s10 32 2 [prow (canon (lstq A k))] ∧ f 11 = .iv (.bool tn) ∧ f 2 = .hp 2 s2 0 0 ∧ H 2 = .blk false s2 32 2 [[.bool false, .sl []]] ∧ f 3 = .iv (.int .i64 0) ∧ f 12 = .hp 12 s12 0 0 ∧ H 12 = .blk false s12 3 1 [[.int .i64 k]]) ?_ (fun f H hI => ?_)
    · refine if_by (fun h0 => ?_) (fun h0 => ?_)
      · have ekp : (k : Int) + (p : Int) = ((k + p : Nat) : Int) := by omega
        have h1 := hrows_at hd s hlt'
        have h2 := hrows_at hd s hpk
        refine ⟨tmps_by (by kernel_rfl), ?_⟩
        have r1 := hr k hlt'
        have r2 := hr (k + p) hpk
        have g1 := hge k
        have g2 := hge (k + p)
        simp (disch := omega) only [wk, tis, seval, reduceCtorEq, Nat.reduceEqDiff, mrows_len, mrows_at, mrows_take, hrows_len, hF, hN, ekp, h1, h2, r1, r2, hne, hne', List.length_set]
        refine ⟨logN_by (by simp (disch := omega) only [capL_cons, capL_nil, List.map_cons, List.map_nil, List.cons_append, List.nil_append, List.append_nil, capN_lt, capN_ge]; rfl) (by kernel_rfl), ?_⟩
        have hs : ∀ i, i < k → swp k (k + p) i = i := fun i hi => swp_lt (Nat.le_refl k) (by omega) hi
        refine ⟨sa, fun r => A (swp k (k + p) r), fun j => hd (swp k (k + p) j), fun j => s (swp k (k + p) j), !tn, ?_, ?_, ?_, fun q => hge _, fun q r hq hr' e => ?_, fun q hq => ?_, rfl, ?_, rfl⟩
        · refine (hG.perm hs).next ?_
          rw [gsq_perm A _ k hs k (Nat.le_refl k), show swp k (k + p) k = k + p from if_pos rfl]
          exact hpiv
        · rw [← hgd, gs3 rfl hpn (by omega)]
          cases tn <;> simp only [sgb, Bool.not_true, Bool.not_false, if_true, if_false, Bool.false_eq_true] <;> grind
        · rw [hrows_swap hd s hlt' hpk]
        · exact swp_inj (hinj _ _ (swp_in hlt' hpk hq) (swp_in hlt' hpk hr') e)
        · have hx := hge (swp k (k + p) q)
          show (if hd (swp k (k + p) q) = 4 then _ else if hd (swp k (k + p) q) = 4 then _ else H (hd (swp k (k + p) q))) = _
          rw [if_neg (by omega), if_neg (by omega), hr _ (swp_in hlt' hpk hq), srow_swap]
        · rw [lstq_perm hs (Nat.le_refl k)]
      · obtain rfl : p = 0 := by omega
        simp (disch := omega) only [wk, tis, seval, reduceCtorEq, Nat.reduceEqDiff, mrows_len, mrows_at, mrows_take, hrows_len, hF, hN]
        refine ⟨sa, A, hd, s, tn, hG.next hpiv, ?_, rfl, hge, hinj, hr, rfl, rfl, rfl⟩
        rw [← hgd, gs2 rfl]
    · clear hN hr hF hge hinj hgd hnr hne hne' hpiv q3 q4 gs1 gs2 gs3 di
      obtain ⟨sa, A1, hd, s, tn, hg1, hgd, hN, hge, hinj, hr, hF⟩ := hI
      have hgk := hg1.mono (Nat.le_succ k)
      have hpk := hg1.p k (Nat.lt_succ_self k)
      have hb := bz_small (k := k + 1) (by omega)
      have hbk := bz_small (k := k) (by omega)
      have zl0 := hgk.lst
      have hl0 := hgk.lst_ne
      have hne : ∀ q x, x < 1000 → (hd q = x) = False := fun q x hx => eq_false (by have := hge q; omega)
      have hne' : ∀ q x, x < 1000 → (x = hd q) = False := fun q x hx => eq_false (by have := hge q; omega)
      have hgk1 := hge k
      have ak := hrows_at hd s hlt'
      simp (disch := omega) only [wk, tis, seval, reduceCtorEq, Nat.reduceEqDiff, mrows_len, mrows_at, mrows_take, hrows_len, hF]
      refine aloop_by (fun f H => ∃ (i : Nat), k < i ∧ i ≤ n ∧ H 4 = .nst sa 28 (hrows hd s n) ∧ (∀ q, q < n → H (hd q) = .blk false (s q) 32 2 (raws (irow A1 n k i (k + 1) q))) ∧ f 14 = .iv (.int .i64 i) ∧ f 49 = .iv (.int .i64 k) ∧ f 48 = .iv (.int .i64 n) ∧ f 4 = .hs 4 sa ∧ f 10 = .hp 10 s10 0 0 ∧ H 10 = .blk false s10 32 2 [prow (canon (lstq A1 k))] ∧ f 11 = .iv (.bool tn) ∧ f 2 = .hp 2 s2 0 0 ∧ H 2 = .blk false s2 32 2 [[.bool false, .sl []]] ∧ f 3 = .iv (.int .i64 0) ∧ f 12 = .hp 12 s12 0 0 ∧ H 12 = .blk false s12 3 1 [[.int .i64 k]]) (fun f H => (n - intAt f 14).toNat) ?_ ?_
      · refine ⟨k + 1, by omega, by omega, hN, fun q hq => by rw [irow_first]; exact hr q hq, ?_⟩
        simp (disch := omega) only [wk, tis, seval, reduceCtorEq, Nat.reduceEqDiff, mrows_len, mrows_at, mrows_take, hrows_len, hF, show ((k + 1 : Nat) : Int) = (k : Int) + 1 from rfl]
      rintro f H ⟨i, hki, hi, hN, hr, hF⟩
      rw [intAt_of hF.1]
      simp (disch := omega) only [wk, tis, seval, reduceCtorEq, Nat.reduceEqDiff, mrows_len, mrows_at, mrows_take, hrows_len, hF]
      simp (disch := omega) only [wk, tis, seval, reduceCtorEq, Nat.reduceEqDiff, mrows_len, mrows_at, mrows_take, hrows_len, hF, hN]
      refine if_by (fun hlt => ?_) (fun hlt => ?_)
      · have hi' : i < n := by omega
        have ai := hrows_at hd s hi'
        have hgi1 := hge i
        simp (disch := omega) only [wk, tis, seval, reduceCtorEq, Nat.reduceEqDiff, mrows_len, mrows_at, mrows_take, hrows_len, hF]
        refine aloop_by (fun f H => ∃ (j : Nat), k < j ∧ j ≤ n ∧ H 4 = .nst sa 28 (hrows hd s n) ∧ (∀ q, q < n → H (hd q) = .blk false (s q) 32 2 (raws (irow A1 n k i j q))) ∧ f 15 = .iv (.int .i64 j) ∧ f 14 = .iv (.int .i64 i) ∧ f 49 = .iv (.int .i64 k) ∧ f 48 = .iv (.int .i64 n) ∧ f 4 = .hs 4 sa ∧ f 10 = .hp 10 s10 0 0 ∧ H 10 = .blk false s10 32 2 [prow (canon (lstq A1 k))] ∧ f 11 = .iv (.bool tn) ∧ f 2 = .hp 2 s2 0 0 ∧ H 2 = .blk false s2 32 2 [[.bool false, .sl []]] ∧ f 3 = .iv (.int .i64 0) ∧ f 12 = .hp 12 s12 0 0 ∧ H 12 = .blk false s12 3 1 [[.int .i64 k]]) (fun f H => (n - intAt f 15).toNat) ?_ ?_
        · refine ⟨k + 1, by omega, by omega, hN, hr, ?_⟩
          simp (disch := omega) only [wk, tis, seval, reduceCtorEq, Nat.reduceEqDiff, mrows_len, mrows_at, mrows_take, hrows_len, hF, show ((k + 1 : Nat) : Int) = (k : Int) + 1 from rfl]
        rintro f H ⟨j, hkj, hj, hN, hr, hF⟩
        rw [intAt_of hF.1]
        simp (disch := omega) only [wk, tis, seval, reduceCtorEq, Nat.reduceEqDiff, mrows_len, mrows_at, mrows_take, hrows_len, hF]
        simp (disch := omega) only [wk, tis, seval, reduceCtorEq, Nat.reduceEqDiff, mrows_len, mrows_at, mrows_take, hrows_len, hF, hN]
        refine if_by (fun hlt => ?_) (fun hlt => ?_)
        · have hj' : j < n := by omega
          have ri := hr i hi'
          have rk := hr k hlt'
          obtain ⟨c1, c2, c3, c4⟩ := siq_at A1 k i j hki hkj
          have li := irow_len A1 n k i j i
          have lk := irow_len A1 n k i j k
          have e1 := irow_at A1 k i j i hj'
          have e2 := irow_at A1 k i j k hlt'
          have e3 := irow_at A1 k i j i hlt'
          have e4 := irow_at A1 k i j k hj'
          rw [c1] at e1
          rw [c2] at e2
          rw [c3] at e3
          rw [c4] at e4
          have z1 := (hgk.mi i j).2
          have z2 := (hgk.mi k k).2
          have z3 := (hgk.mi i k).2
          have z4 := (hgk.mi k j).2
          have z5 := (hg1.mi i j).2
          have z6 := zl_mul (miq A1 k i j) (miq A1 k k k)
          have z7 := zl_mul (miq A1 k i k) (miq A1 k k j)
          have z8 := zl_mul (miq A1 (k + 1) i j) (lstq A1 k)
          have m1 := zmul_ok (canon (miq A1 k i j)) (canon (miq A1 k k k)) ((sz_canon _).mono (by omega)) ((sz_canon _).mono (by omega))
          have m2 := zmul_ok (canon (miq A1 k i k)) (canon (miq A1 k k j)) ((sz_canon _).mono (by omega)) ((sz_canon _).mono (by omega))
          have sb := zsub_ok (canon (miq A1 k i j * miq A1 k k k)) (canon (miq A1 k i k * miq A1 k k j)) ((sz_canon _).mono (by omega)) ((sz_canon _).mono (by omega))
          rw [iv_canon, iv_canon] at m1 m2 sb
          rw [hgk.step hpk] at sb
          have ex := zexact_ok (canon (miq A1 (k + 1) i j * lstq A1 k)) (canon (lstq A1 k)) ((sz_canon _).mono (by omega)) ((sz_canon _).mono (by omega)) (by rw [iv_canon]; exact hl0) (by rw [iv_canon, iv_canon]; exact Int.dvd_mul_left _ _)
          rw [iv_canon, iv_canon, Int.mul_ediv_cancel _ hl0] at ex
          refine ⟨tmps_by (by kernel_rfl), ?_⟩
          simp (disch := omega) only [wk, tis, seval, reduceCtorEq, Nat.reduceEqDiff, mrows_len, mrows_at, mrows_take, hrows_len, hF, hN, ai, ak, ri, rk, li, lk, e1, e2, e3, e4, hne, hne']
          refine call_by (m1) (by first | rfl | (simp only [tocvs, tocv, hF, hN, ai, ak, ri, rk, li, lk, e1, e2, e3, e4, hne, hne']; rfl) | (simp only [tocvs, tocv, toboxes, tobox, updH_at, Nat.reduceEqDiff, ↓reduceIte, hF, hN, ai, ak, ri, rk, li, lk, e1, e2, e3, e4, hne, hne']; rfl)) (by simp) ?_
          simp (disch := omega) only [wk, tis, seval, reduceCtorEq, Nat.reduceEqDiff, mrows_len, mrows_at, mrows_take, hrows_len, hF, hN, ai, ak, ri, rk, li, lk, e1, e2, e3, e4, hne, hne']
          refine call_by (m2) (by first | rfl | (simp only [tocvs, tocv, hF, hN, ai, ak, ri, rk, li, lk, e1, e2, e3, e4, hne, hne']; rfl) | (simp only [tocvs, tocv, toboxes, tobox, updH_at, Nat.reduceEqDiff, ↓reduceIte, hF, hN, ai, ak, ri, rk, li, lk, e1, e2, e3, e4, hne, hne']; rfl)) (by simp) ?_
          simp (disch := omega) only [wk, tis, seval, reduceCtorEq, Nat.reduceEqDiff, mrows_len, mrows_at, mrows_take, hrows_len, hF, hN, ai, ak, ri, rk, li, lk, e1, e2, e3, e4, hne, hne']
          refine call_by (sb) (by first | rfl | (simp only [tocvs, tocv, hF, hN, ai, ak, ri, rk, li, lk, e1, e2, e3, e4, hne, hne']; rfl) | (simp only [tocvs, tocv, toboxes, tobox, updH_at, Nat.reduceEqDiff, ↓reduceIte, hF, hN, ai, ak, ri, rk, li, lk, e1, e2, e3, e4, hne, hne']; rfl)) (by simp) ?_
          simp (disch := omega) only [wk, tis, seval, reduceCtorEq, Nat.reduceEqDiff, mrows_len, mrows_at, mrows_take, hrows_len, hF, hN, ai, ak, ri, rk, li, lk, e1, e2, e3, e4, hne, hne']
          refine ⟨logN_by (by simp (disch := omega) only [capL_cons, capL_nil, List.map_cons, List.map_nil, List.cons_append, List.nil_append, List.append_nil, capN_lt, capN_ge]; rfl) (by kernel_rfl), ?_⟩
          refine ⟨tmps_by (by kernel_rfl), ?_⟩
          refine call_by (ex) (by first | rfl | (simp only [tocvs, tocv, hF, hN, ai, ak, ri, rk, li, lk, e1, e2, e3, e4, hne, hne']; rfl) | (simp only [tocvs, tocv, toboxes, tobox, updH_at, Nat.reduceEqDiff, ↓reduceIte, hF, hN, ai, ak, ri, rk, li, lk, e1, e2, e3, e4, hne, hne']; rfl)) (by simp) ?_
          simp (disch := omega) only [wk, tis, seval, reduceCtorEq, Nat.reduceEqDiff, mrows_len, mrows_at, mrows_take, hrows_len, hF, hN, ai, ak, ri, rk, li, lk, e1, e2, e3, e4, hne, hne']
          refine ⟨logN_by (by simp (disch := omega) only [capL_cons, capL_nil, List.map_cons, List.map_nil, List.cons_append, List.nil_append, List.append_nil, capN_lt, capN_ge]; rfl) (by kernel_rfl), ?_⟩
          refine ⟨⟨j + 1, by omega, by omega, fun q hq => ?_, ?_⟩, by omega⟩
          · by_cases hqi : q = i
            · subst hqi
              rw [if_pos rfl, irow_set A1 hki hkj]
            · rw [if_neg (fun e => hqi (hinj q i hq hi' e)), irow_ne A1 n k i j hqi]
              exact hr q hq
          · (repeat' apply And.intro) <;> first | rfl | omega
        · obtain rfl : j = n := by omega
          simp (disch := omega) only [wk, tis, seval, reduceCtorEq, Nat.reduceEqDiff, mrows_len, mrows_at, mrows_take, hrows_len, hF]
          refine ⟨⟨i + 1, by omega, by omega, hN, fun q hq => ?_, ?_⟩, by omega⟩
          · rw [hr q hq, irow_row]
          · (repeat' apply And.intro) <;> first | rfl | omega
      · obtain rfl : i = n := by omega
        have rk := hr k hlt'
        rw [irow_last A1 hlt'] at rk
        have e1 := srow_at A1 (k + 1) k hlt'
        rw [stq_diag] at e1
        have lk := srow_len A1 i (k + 1) k
        simp (disch := omega) only [wk, tis, seval, reduceCtorEq, Nat.reduceEqDiff, mrows_len, mrows_at, mrows_take, hrows_len, hF]
        refine ⟨tmps_by (by kernel_rfl), ?_⟩
        simp (disch := omega) only [wk, tis, seval, reduceCtorEq, Nat.reduceEqDiff, mrows_len, mrows_at, mrows_take, hrows_len, hF, hN, ak, rk, lk, e1]
        refine ⟨logN_by (by simp (disch := omega) only [capL_cons, capL_nil, List.map_cons, List.map_nil, List.cons_append, List.nil_append, List.append_nil, capN_lt, capN_ge]; rfl) (by kernel_rfl), ?_⟩
        refine ⟨⟨k + 1, sa, s10, s2, A1, hd, s, tn, by omega, hg1, hgd, rfl, hge, hinj, fun q hq => ?_, ?_⟩, by omega⟩
        · have := hge q
          rw [if_neg (by omega), hr q hq, irow_last A1 hq]
        · (repeat' apply And.intro) <;> first | rfl | omega
  · obtain rfl : k = n := by omega
    have zl0 := hG.lst
    have hbk := bz_small (k := k) (by omega)
    rw [Nat.sub_self, gdt] at hgd
    have zn := zneg_ok (canon (lstq A k)) ((sz_canon _).mono (by omega))
    have zm := znorm_ok (canon (lstq A k)) ((sz_canon _).mono (by omega))
    rw [iv_canon] at zn zm
    cases tn with
    | true =>
      have e : (gdt k 0 A0).num = -lstq A k := by rw [← hgd, lstq, ← Rat.neg_num]; congr 1; simp only [sgb, if_true]; grind
      rw [e]
      simp (disch := omega) only [wk, tis, seval, reduceCtorEq, Nat.reduceEqDiff, mrows_len, mrows_at, mrows_take, hrows_len, hF]
      refine call_by (zn) (by first | rfl | (simp only [tocvs, tocv, hF]; rfl) | (simp only [tocvs, tocv, toboxes, tobox, updH_at, Nat.reduceEqDiff, ↓reduceIte, hF]; rfl)) (by simp) ?_
      simp (disch := omega) only [wk, tis, seval, reduceCtorEq, Nat.reduceEqDiff, mrows_len, mrows_at, mrows_take, hrows_len, hF]
      try rfl
    | false =>
      have e : (gdt k 0 A0).num = lstq A k := by rw [← hgd, lstq]; congr 1; simp only [sgb]; exact Rat.one_mul _
      rw [e]
      simp (disch := omega) only [wk, tis, seval, reduceCtorEq, Nat.reduceEqDiff, mrows_len, mrows_at, mrows_take, hrows_len, hF]
      refine call_by (zm) (by first | rfl | (simp only [tocvs, tocv, hF]; rfl) | (simp only [tocvs, tocv, toboxes, tobox, updH_at, Nat.reduceEqDiff, ↓reduceIte, hF]; rfl)) (by simp) ?_
      simp (disch := omega) only [wk, tis, seval, reduceCtorEq, Nat.reduceEqDiff, mrows_len, mrows_at, mrows_take, hrows_len, hF]
      try rfl
end Go.Proofs.Ytcjnacpekbhhcaa

namespace Go.Proofs.Ytcjnacpekbhhcaa
open Go Go.Proofs Go.AL
set_option linter.unusedSimpArgs false
set_option linter.unusedVariables false
def mono (n : Nat) (c : Int) : List Int := List.replicate n 0 ++ [c]
theorem cf_mono (n : Nat) (c : Int) (k : Nat) : cf (mono n c) k = if k = n then c else 0 := by
  unfold mono cf
  rw [List.getD_eq_getElem?_getD]
  rcases Nat.lt_trichotomy k n with h | h | h
  · rw [List.getElem?_append_left (by simpa using h), List.getElem?_replicate, if_pos h, if_neg (by omega)]; rfl
  · subst h
    rw [List.getElem?_append_right (by simp), if_pos rfl]
    simp
  · rw [List.getElem?_eq_none (by simp; omega), if_neg (by omega)]; rfl
theorem cf_mono_mul (n : Nat) (c : Int) (B : List Int) (k : Nat) : cf (pmul (mono n c) B) k = if n ≤ k then c * cf B (k - n) else 0 := by
  rw [cf_pmul, PS.cv_conv, PS.conv]
  by_cases h : n ≤ k
  · rw [if_pos h, sumN_one (j := n) _ (by omega) fun i hi hne => by rw [cf_mono, if_neg hne, Int.zero_mul], cf_mono, if_pos rfl]
  · rw [if_neg h]
    exact sumN_zero fun i hi => by rw [cf_mono, if_neg (by omega), Int.zero_mul]
def dstep (c L : Int) (B : List Int) (s : List Int × List Int) : List Int × List Int :=
  (padd (pscale c s.1) (mono (tz s.2 - tz B) (c * lc s.2 / L)), padd (pscale c s.2) (pscale (-1) (pmul (mono (tz s.2 - tz B) (c * lc s.2 / L)) B)))
def dres (c L : Int) (B : List Int) : Nat → List Int × List Int → List Int × List Int
  | 0, s => s
  | n + 1, s => if tz B ≤ tz s.2 then dres c L B n (dstep c L B s) else dres c L B n (pscale c s.1, pscale c s.2)
theorem tz_le_of {q : List Int} {n : Nat} (h : ∀ k, n ≤ k → cf q k = 0) : tz q ≤ n := by
  rcases Nat.lt_or_ge n (tz q) with h1 | h1
  · exact absurd (h (tz q - 1) (by omega)) (cf_tz_pred (by omega))
  · exact h1
theorem dstep_tz {c L : Int} {B : List Int} {s : List Int × List Int} (hL : L = lc B) (hB : tz B ≠ 0) (hd : L ∣ c) (h : tz B ≤ tz s.2) : tz (dstep c L B s).2 ≤ tz s.2 - 1 := by
  refine tz_le_of fun k hk => ?_
  show cf (padd (pscale c s.2) (pscale (-1) (pmul (mono (tz s.2 - tz B) (c * lc s.2 / L)) B))) k = 0
  rw [cf_padd, cf_pscale, cf_pscale, cf_mono_mul, if_pos (by omega)]
  have hL0 : L ≠ 0 := by rw [hL]; exact cf_tz_pred hB
  rcases Nat.lt_or_ge k (tz s.2) with h1 | h1
  · have hk1 : k = tz s.2 - 1 := by omega
    have e1 : k - (tz s.2 - tz B) = tz B - 1 := by omega
    rw [e1]
    have e2 : cf B (tz B - 1) = L := hL.symm
    have e3 : cf s.2 k = lc s.2 := by rw [hk1]; rfl
    rw [e2, e3, Int.ediv_mul_cancel (Int.dvd_trans hd (Int.dvd_mul_right _ _)), Int.mul_comm c]
    omega
  · rw [cf_ge_tz s.2 h1, cf_ge_tz B (by omega)]
    simp
theorem tz_scale_le (c : Int) (q : List Int) : tz (pscale c q) ≤ tz q := tz_le_of fun k hk => by rw [cf_pscale, cf_ge_tz q hk, Int.zero_mul]
end Go.Proofs.Ytcjnacpekbhhcaa

namespace Go.Proofs.Ytcjnacpekbhhcaa
open Go Go.Proofs Go.AL
set_option linter.unusedSimpArgs false
set_option linter.unusedVariables false
theorem cpoly_nil : cpoly [] = [] := rfl
theorem cpoly_at {q : List Int} {i : Nat} (h : i < tz q) : (cpoly q).getD i [] = prow (canon (cf q i)) := by
  have h1 : i < (trimz q).length := by rw [trimz_len]; exact h
  rw [← cf_trimz]
  simp [cpoly, raws, cf, List.getD, h1]
def Bd (k : Nat) (q : List Int) : Prop := tz q ≤ 40 ∧ ∀ i, zl (cf q i) ≤ k
theorem Bd.rp {k : Nat} {q : List Int} (h : Bd k q) (hk : k ≤ 2 ^ 35) : RP (2 ^ 30) (2 ^ 35) (cn q) := by
  refine (RP.canon (.of (by rw [trimz_len]; exact h.1) fun i => ?_)).mono (by decide : 40 ≤ _) hk
  rw [cf_trimz]; exact h.2 i
def KB (l : Nat) : Nat := (60 - l) * 536870912
theorem KB_step (l : Nat) (h : l + 1 ≤ 41) : KB l = KB (l + 1) + 536870912 := by unfold KB; omega
theorem KB_le (l : Nat) : KB l ≤ 32212254720 := by unfold KB; omega
theorem KB_ge (l : Nat) (h : l ≤ 41) : 536870912 ≤ KB l := by unfold KB; omega
theorem bnd_fin {K k : Nat} (h : K = k + 536870912) : max (k + 2 ^ 27) (k + 2 ^ 27 + 2 ^ 27) + 1 ≤ K := by omega
theorem bnd_fin1 {K k : Nat} (h : K = k + 536870912) : max (k + 2 ^ 27) (k + 2 ^ 27) + 1 ≤ K := by omega
theorem bnd_fin2 {K k : Nat} (h : K = k + 536870912) : k + 2 ^ 27 ≤ K := by omega
theorem bd_scale {K k : Nat} {c : Int} {q : List Int} (h : Bd K q) (hc : zl c ≤ k) : Bd (K + k) (pscale c q) := by
  refine ⟨Nat.le_trans (tz_scale_le c q) h.1, fun i => ?_⟩
  rw [cf_pscale]
  have := zl_mul (cf q i) c
  have := h.2 i
  omega
theorem bd_mono {K n : Nat} {c : Int} (hn : n < 40) (hc : zl c ≤ K) : Bd K (mono n c) := by
  refine ⟨tz_le_of fun k hk => by rw [cf_mono, if_neg (by omega)], fun i => ?_⟩
  rw [cf_mono]
  split
  · exact hc
  · rw [zl_zero]; omega
theorem bd_mmul {K k n m : Nat} {c : Int} {B : List Int} (hB : Bd k B) (hn : n + tz B ≤ 40) (hc : zl c ≤ K) : Bd (K + k) (pmul (mono n c) B) := by
  refine ⟨tz_le_of fun j hj => ?_, fun i => ?_⟩
  · rw [cf_mono_mul]
    split
    · rw [cf_ge_tz B (by omega), Int.mul_zero]
    · rfl
  · rw [cf_mono_mul]
    split
    · have := zl_mul c (cf B (i - n))
      have := hB.2 (i - n)
      omega
    · rw [zl_zero]; omega
theorem bd_add {K k : Nat} {p q : List Int} (hp : Bd K p) (hq : Bd k q) : Bd (max K k + 1) (padd p q) := by
  have h1 := hp.1
  have h2 := hq.1
  refine ⟨tz_le_of fun j hj => by rw [cf_padd, cf_ge_tz p (by omega), cf_ge_tz q (by omega)]; rfl, fun i => ?_⟩
  rw [cf_padd]
  have := zl_add (cf p i) (cf q i)
  have := hp.2 i
  have := hq.2 i
  omega
theorem bd_neg {K : Nat} {q : List Int} (h : Bd K q) : Bd K (pscale (-1) q) := by
  refine ⟨Nat.le_trans (tz_scale_le _ q) h.1, fun i => ?_⟩
  rw [cf_pscale, Int.mul_neg, Int.mul_one, zl_neg]
  exact h.2 i
theorem bd_nil (K : Nat) : Bd K [] := ⟨by simp [tz, topN], fun i => by rw [cf_nil, zl_zero]; exact Nat.zero_le _⟩
theorem Bd.mono {K k : Nat} {q : List Int} (h : Bd K q) (hk : K ≤ k) : Bd k q := ⟨h.1, fun i => Nat.le_trans (h.2 i) hk⟩
set_option maxHeartbeats 1000000 in
theorem divide_ok (p q : List RI) (fa : RI) (hp : RP 40 (2 ^ 27) p) (hq : RP 40 (2 ^ 27) q) (hf : Sz (2 ^ 27) fa) (hB : tz (pv q) ≠ 0) (hd : lc (pv q) ∣ iv fa) :
    AC Try.prog 28 [cw p, cw q, cr fa] none [cp (dres (iv fa) (lc (pv q)) (pv q) (tz (pv p) + 1 - tz (pv q)) ([], pv p)).1, cp (dres (iv fa) (lc (pv q)) (pv q) (tz (pv p) + 1 - tz (pv q)) ([], pv p)).2, ci (tz (pv p) + 1 - tz (pv q) : Nat)] := by
  refine AC.by_walk (rs := [.tmp 6, .tmp 7, .tmp 8]) ords Try.func28 (by rfl) (by rfl) (by rfl) (by rfl) (by rfl) ?_
  have qp := hp.pv
  have qq := hq.pv
  have tp : tz (pv p) ≤ 40 := Nat.le_trans (tz_le _) qp.1
  have tq : tz (pv q) ≤ 40 := Nat.le_trans (tz_le _) qq.1
  generalize hee : tz (pv p) + 1 - tz (pv q) = e at *
  have he : max ((tz (pv p) : Int) - tz (pv q) + 1) 0 = (e : Int) := by omega
  have ht1 : ((tz (pv q) : Int) - 1).toNat = tz (pv q) - 1 := by omega
  have hat := cpoly_at (q := pv q) (i := tz (pv q) - 1) (by omega)
  have hL : cf (pv q) (tz (pv q) - 1) = lc (pv q) := rfl
  rw [hL] at hat
  simp (disch := omega) only [wk, tis, seval, reduceCtorEq, Nat.reduceEqDiff, cpoly_len, cpoly_nil]
  refine call_by ((pnorm_ok p (hp.mono (by omega) (by omega)))) (by rfl) (by simp) ?_
  simp (disch := omega) only [wk, tis, seval, reduceCtorEq, Nat.reduceEqDiff, cpoly_len, cpoly_nil]
  refine call_by ((pnorm_ok q (hq.mono (by omega) (by omega)))) (by rfl) (by simp) ?_
  simp (disch := omega) only [wk, tis, seval, reduceCtorEq, Nat.reduceEqDiff, cpoly_len, cpoly_nil]
  simp (disch := omega) only [wk, tis, seval, reduceCtorEq, Nat.reduceEqDiff, cpoly_len, cpoly_nil, he, ht1, hat]
  generalize hc : iv fa = c at *
  generalize hPe : pv p = P at *
  generalize hBe : pv q = B at *
  generalize hLe : lc B = L at *
  have bd_P : Bd (KB e) P := ⟨tp, fun i => Nat.le_trans (qp.cf i) (Nat.le_trans (by decide) (KB_ge e (by omega)))⟩
  refine aloop_w (.nilv 13 (by simp (disch := omega) only [wk, tis, seval, reduceCtorEq, Nat.reduceEqDiff, cpoly_len, cpoly_nil]) (.refl _ _)) (fun f H => ∃ (left st5 st12 : Nat) (Q R : List Int), dres c L B left (Q, R) = dres c L B e ([], P) ∧ tz R < tz B + left ∧ left ≤ 41 ∧ Bd (KB left) Q ∧ Bd (KB left) R ∧ f 14 = .iv (.int .i64 left) ∧ f 9 = .iv (.sl (cpoly R)) ∧ f 10 = .iv (.sl (cpoly B)) ∧ f 13 = .iv (.sl (cpoly Q)) ∧ f 11 = .iv (.int .i64 e) ∧ f 5 = .hp 5 st5 0 0 ∧ f 12 = .hp 12 st12 0 0 ∧ H 5 = .blk false st5 32 2 [prow fa] ∧ H 12 = .blk false st12 32 2 [prow (canon L)]) (fun f H => (intAt f 14).toNat) ?_ ?_
  · refine ⟨e, 1, 1, [], P, rfl, by omega, by omega, bd_nil _, bd_P, ?_⟩
    simp (disch := omega) only [wk, tis, seval, reduceCtorEq, Nat.reduceEqDiff, cpoly_len, cpoly_nil]
  rintro f H ⟨left, st5, st12, Q, R, hD, hT, hle, hQ, hR, hF⟩
  rw [intAt_of hF.1]
  simp (disch := omega) only [wk, tis, seval, reduceCtorEq, Nat.reduceEqDiff, cpoly_len, cpoly_nil, hF]
  have hkb := KB_le left
  have hkR := hR.rp (by omega)
  have hkQ := hQ.rp (by omega)
  refine if_by (fun hge => ?_) (fun hge => ?_)
  · obtain ⟨l, rfl⟩ : ∃ l, left = l + 1 := ⟨left - 1, by omega⟩
    have hm : ((tz R : Int) - tz B) = ((tz R - tz B : Nat) : Int) := by omega
    have ht2 : ((tz R : Int) - 1).toNat = tz R - 1 := by omega
    have hat2 := cpoly_at (q := R) (i := tz R - 1) (by omega)
    have hLR : cf R (tz R - 1) = lc R := rfl
    rw [hLR] at hat2
    have hzR := hR.2 (tz R - 1)
    rw [hLR] at hzR
    have hzc : zl c ≤ 2 ^ 27 := by rw [← hc]; exact zl_iv hf
    have hzL : zl L ≤ 2 ^ 27 := by rw [← hLe]; exact qq.cf _
    have hL0 : L ≠ 0 := by rw [← hLe]; exact cf_tz_pred hB
    have hzm := zl_mul c (lc R)
    have hdv : L ∣ c * lc R := Int.dvd_trans hd (Int.dvd_mul_right _ _)
    have hzt := zl_div hdv
    have m1 := zmul_ok fa (canon (lc R)) (hf.mono (by omega)) ((sz_canon _).mono (by omega))
    rw [hc, iv_canon] at m1
    have m2 := zexact_ok (canon (c * lc R)) (canon L) ((sz_canon _).mono (by omega)) ((sz_canon _).mono (by omega)) (by rw [iv_canon]; exact hL0) (by rw [iv_canon, iv_canon]; exact hdv)
    rw [iv_canon, iv_canon] at m2
    have m3 := prsmono_ok (canon (c * lc R / L)) (tz R - tz B) (by omega) ((sz_canon _).mono (by omega))
    rw [iv_canon] at m3
    simp (disch := omega) only [wk, tis, seval, reduceCtorEq, Nat.reduceEqDiff, cpoly_len, cpoly_nil, hF, hm, ht2, hat2]
    refine ⟨tmps_by (by kernel_rfl), ?_⟩
    refine call_by (m1) (by first | rfl | (simp only [tocvs, tocv, hF, hm, ht2, hat2]; rfl) | (simp only [tocvs, tocv, toboxes, tobox, updH_at, Nat.reduceEqDiff, ↓reduceIte, hF, hm, ht2, hat2]; rfl)) (by simp) ?_
    simp (disch := omega) only [wk, tis, seval, reduceCtorEq, Nat.reduceEqDiff, cpoly_len, cpoly_nil, hF, hm, ht2, hat2]
    refine call_by (m2) (by first | rfl | (simp only [tocvs, tocv, hF, hm, ht2, hat2]; rfl) | (simp only [tocvs, tocv, toboxes, tobox, updH_at, Nat.reduceEqDiff, ↓reduceIte, hF, hm, ht2, hat2]; rfl)) (by simp) ?_
    simp (disch := omega) only [wk, tis, seval, reduceCtorEq, Nat.reduceEqDiff, cpoly_len, cpoly_nil, hF, hm, ht2, hat2]
    first | exact log_by (by kernel_rfl) | refine ⟨log_by (by kernel_rfl), ?_⟩
    refine call_by (m3) (by first | rfl | (simp only [tocvs, tocv, hF, hm, ht2, hat2]; rfl) | (simp only [tocvs, tocv, toboxes, tobox, updH_at, Nat.reduceEqDiff, ↓reduceIte, hF, hm, ht2, hat2]; rfl)) (by simp) ?_
    simp (disch := omega) only [wk, tis, seval, reduceCtorEq, Nat.reduceEqDiff, cpoly_len, cpoly_nil, hF, hm, ht2, hat2]
    have hBB : Bd (2 ^ 27) B := ⟨tq, fun i => qq.cf i⟩
    have hlt := hR.1
    have hK2 := KB_step l hle
    have hge' : tz B ≤ tz R := by omega
    generalize KB (l + 1) = K at *
    have b1 := bd_scale hQ hzc
    have b2 := bd_mono (n := tz R - tz B) (c := c * lc R / L) (K := K + 2 ^ 27) (by omega) (by omega)
    have b3 := bd_scale hR hzc
    have b4 := bd_mmul (m := 0) (n := tz R - tz B) (c := c * lc R / L) (K := K + 2 ^ 27) hBB (by omega) (by omega)
    have b5 := bd_add b1 b2
    have b6 := bd_add b3 (bd_neg b4)
    have hBr := hBB.rp (by omega)
    have s1 := pscale_g (q := Q) (c := fa) hkQ (hf.mono (by omega)) (ps_cn _)
    have s2 := pscale_g (q := R) (c := fa) hkR (hf.mono (by omega)) (ps_cn _)
    rw [hc] at s1 s2
    have hstep : dres c L B (l + 1) (Q, R) = dres c L B l (dstep c L B (Q, R)) := by
      rw [dres, if_pos (show tz B ≤ tz (Q, R).2 from hge')]
    have htz := dstep_tz (c := c) (s := (Q, R)) hLe.symm hB hd (show tz B ≤ tz (Q, R).2 from hge')
    refine call_by (s1) (by first | rfl | (simp only [tocvs, tocv, hF, hm, ht2, hat2]; rfl) | (simp only [tocvs, tocv, toboxes, tobox, updH_at, Nat.reduceEqDiff, ↓reduceIte, hF, hm, ht2, hat2]; rfl)) (by simp) ?_
    simp (disch := omega) only [wk, tis, seval, reduceCtorEq, Nat.reduceEqDiff, cpoly_len, cpoly_nil, hF, hm, ht2, hat2]
    refine call_by ((padd_g (b1.rp (by omega)) (b2.rp (by omega)) (ps_cn _) (ps_cn _))) (by first | rfl | (simp only [tocvs, tocv, hF, hm, ht2, hat2]; rfl) | (simp only [tocvs, tocv, toboxes, tobox, updH_at, Nat.reduceEqDiff, ↓reduceIte, hF, hm, ht2, hat2]; rfl)) (by simp) ?_
    simp (disch := omega) only [wk, tis, seval, reduceCtorEq, Nat.reduceEqDiff, cpoly_len, cpoly_nil, hF, hm, ht2, hat2]
    refine call_by (s2) (by first | rfl | (simp only [tocvs, tocv, hF, hm, ht2, hat2]; rfl) | (simp only [tocvs, tocv, toboxes, tobox, updH_at, Nat.reduceEqDiff, ↓reduceIte, hF, hm, ht2, hat2]; rfl)) (by simp) ?_
    simp (disch := omega) only [wk, tis, seval, reduceCtorEq, Nat.reduceEqDiff, cpoly_len, cpoly_nil, hF, hm, ht2, hat2]
    refine call_by ((pmul_g (b2.rp (by omega)) hBr (ps_cn _) (ps_cn _))) (by first | rfl | (simp only [tocvs, tocv, hF, hm, ht2, hat2]; rfl) | (simp only [tocvs, tocv, toboxes, tobox, updH_at, Nat.reduceEqDiff, ↓reduceIte, hF, hm, ht2, hat2]; rfl)) (by simp) ?_
    simp (disch := omega) only [wk, tis, seval, reduceCtorEq, Nat.reduceEqDiff, cpoly_len, cpoly_nil, hF, hm, ht2, hat2]
    refine call_by ((psub_g (b3.rp (by omega)) (b4.rp (by omega)) (ps_cn _) (ps_cn _))) (by first | rfl | (simp only [tocvs, tocv, hF, hm, ht2, hat2]; rfl) | (simp only [tocvs, tocv, toboxes, tobox, updH_at, Nat.reduceEqDiff, ↓reduceIte, hF, hm, ht2, hat2]; rfl)) (by simp) ?_
    simp (disch := omega) only [wk, tis, seval, reduceCtorEq, Nat.reduceEqDiff, cpoly_len, cpoly_nil, hF, hm, ht2, hat2]
    refine ⟨⟨l, st5, st12, _, _, by rw [← hD, hstep]; rfl, ?_, by omega, b5.mono (bnd_fin1 hK2), b6.mono (bnd_fin hK2), by omega, rfl, rfl, rfl, rfl, rfl, rfl⟩, by omega⟩
    have h1 : tz R ≠ 0 := by omega
    have h2 : tz (padd (pscale c R) (pscale (-1) (pmul (mono (tz R - tz B) (c * lc R / L)) B))) ≤ tz R - 1 := htz
    omega
  · have hout : tz R < tz B := by omega
    simp (disch := omega) only [wk, tis, seval, reduceCtorEq, Nat.reduceEqDiff, cpoly_len, cpoly_nil, hF]
    refine aloop_by (fun f H => ∃ (lft sf : Nat) (S T : List Int), dres c L B lft (S, T) = dres c L B e ([], P) ∧ tz T < tz B ∧ lft ≤ 41 ∧ Bd (KB lft) S ∧ Bd (KB lft) T ∧ f 14 = .iv (.int .i64 lft) ∧ f 9 = .iv (.sl (cpoly T)) ∧ f 13 = .iv (.sl (cpoly S)) ∧ f 11 = .iv (.int .i64 e) ∧ f 5 = .hp 5 sf 0 0 ∧ H 5 = .blk false sf 32 2 [prow fa]) (fun f H => (intAt f 14).toNat) ?_ ?_
    · refine ⟨left, st5, Q, R, hD, hout, hle, hQ, hR, ?_⟩
      simp (disch := omega) only [wk, tis, seval, reduceCtorEq, Nat.reduceEqDiff, cpoly_len, cpoly_nil, hF]
    rintro f H ⟨lft, sf, S, T, hD, hT, hle, hQ, hR, hF⟩
    rw [intAt_of hF.1]
    simp (disch := omega) only [wk, tis, seval, reduceCtorEq, Nat.reduceEqDiff, cpoly_len, cpoly_nil, hF]
    refine if_by (fun hgt => ?_) (fun hgt => ?_)
    · obtain ⟨l, rfl⟩ : ∃ l, lft = l + 1 := ⟨lft - 1, by omega⟩
      have hkb := KB_le (l + 1)
      have hzc : zl c ≤ 2 ^ 27 := by rw [← hc]; exact zl_iv hf
      have hK2 := KB_step l hle
      have s1 := pscale_g (q := S) (c := fa) (hQ.rp (by omega)) (hf.mono (by omega)) (ps_cn _)
      have s2 := pscale_g (q := T) (c := fa) (hR.rp (by omega)) (hf.mono (by omega)) (ps_cn _)
      rw [hc] at s1 s2
      have hstep : dres c L B (l + 1) (S, T) = dres c L B l (pscale c S, pscale c T) := by
        rw [dres, if_neg (show ¬ tz B ≤ tz (S, T).2 from Nat.not_le.2 hT)]
      have hts := tz_scale_le c T
      have b1 := (bd_scale hQ hzc).mono (bnd_fin2 hK2)
      have b2 := (bd_scale hR hzc).mono (bnd_fin2 hK2)
      clear hK2
      simp (disch := omega) only [wk, tis, seval, reduceCtorEq, Nat.reduceEqDiff, cpoly_len, cpoly_nil, hF]
      refine ⟨tmps_by (by kernel_rfl), ?_⟩
      refine call_by (s1) (by first | rfl | (simp only [tocvs, tocv, hF]; rfl) | (simp only [tocvs, tocv, toboxes, tobox, updH_at, Nat.reduceEqDiff, ↓reduceIte, hF]; rfl)) (by simp) ?_
      simp (disch := omega) only [wk, tis, seval, reduceCtorEq, Nat.reduceEqDiff, cpoly_len, cpoly_nil, hF]
      refine call_by (s2) (by first | rfl | (simp only [tocvs, tocv, hF]; rfl) | (simp only [tocvs, tocv, toboxes, tobox, updH_at, Nat.reduceEqDiff, ↓reduceIte, hF]; rfl)) (by simp) ?_
      simp (disch := omega) only [wk, tis, seval, reduceCtorEq, Nat.reduceEqDiff, cpoly_len, cpoly_nil, hF]
      first | exact log_by (by kernel_rfl) | refine ⟨log_by (by kernel_rfl), ?_⟩
      refine ⟨⟨l, sf, _, _, by rw [← hD, hstep], by omega, by omega, b1, b2, by omega, rfl, rfl, rfl, rfl⟩, by omega⟩
    · obtain rfl : lft = 0 := by omega
      simp (disch := omega) only [wk, tis, seval, reduceCtorEq, Nat.reduceEqDiff, cpoly_len, cpoly_nil, hF]
      rw [← hD]
      exact ⟨rfl, rfl⟩
end Go.Proofs.Ytcjnacpekbhhcaa

namespace Go.Proofs.Ytcjnacpekbhhcaa
open Go Go.Proofs Go.AL
set_option linter.unusedSimpArgs false
set_option linter.unusedVariables false
theorem plead_g {a : List RI} {q : List Int} (ha : RP (2 ^ 30) (2 ^ 35) a) (eq : ps (pv a) = ps q) : AC Try.prog 29 [cw a] none [cz (lc q)] := by
  have h := plead_ok a (ha.mono (by omega) (by omega))
  have e : cf (pv a) (tz (pv a) - 1) = lc q := by unfold lc; rw [tz_eq_of_cf (ps_eq eq), ps_eq eq]
  rwa [e] at h
end Go.Proofs.Ytcjnacpekbhhcaa

namespace Go.Proofs.Ytcjnacpekbhhcaa
open Go Go.Proofs Go.AL
set_option linter.unusedSimpArgs false
set_option linter.unusedVariables false
def dxp (P B : List Int) : Nat := tz P + 1 - tz B
def dq (P B : List Int) : List Int := (dres (lc B) (lc B) B (dxp P B) ([], P)).1
def dr (P B : List Int) : List Int := (dres (lc B) (lc B) B (dxp P B) ([], P)).2
theorem pdiv_ok (p q : List RI) (hp : RP 40 (2 ^ 27) p) (hq : RP 40 (2 ^ 27) q) (h0 : ¬ tz (pv q) = 0) : AC Try.prog 12 [cw p, cw q] none [cp (dq (pv p) (pv q)), cp (dr (pv p) (pv q)), ci (dxp (pv p) (pv q)), ci 0] := by
  refine AC.by_walk (rs := [.tmp 4, .tmp 5, .tmp 6, .tmp 7]) ords Try.func12 (by rfl) (by rfl) (by rfl) (by rfl) (by rfl) ?_
  have hl : Sz (2 ^ 27) (canon (lc (pv q))) := (sz_canon _).mono (hq.pv.cf _)
  have m := divide_ok p q (canon (lc (pv q))) hp hq hl h0 (by rw [iv_canon]; exact Int.dvd_refl _)
  rw [iv_canon] at m
  simp (disch := omega) only [wk, tis, seval, reduceCtorEq, Nat.reduceEqDiff, cpoly_len, cpoly_nil]
  refine call_by ((pnone_ok q (hq.mono (by omega) (by omega)))) (by first | rfl | (simp only [tocvs, tocv, h0]; rfl) | (simp only [tocvs, tocv, toboxes, tobox, updH_at, Nat.reduceEqDiff, ↓reduceIte, h0]; rfl)) (by simp) ?_
  simp (disch := omega) only [wk, tis, seval, reduceCtorEq, Nat.reduceEqDiff, cpoly_len, cpoly_nil, h0]
  refine call_by ((plead_g (hq.mono (by omega) (by omega)) rfl)) (by first | rfl | (simp only [tocvs, tocv, h0]; rfl) | (simp only [tocvs, tocv, toboxes, tobox, updH_at, Nat.reduceEqDiff, ↓reduceIte, h0]; rfl)) (by simp) ?_
  simp (disch := omega) only [wk, tis, seval, reduceCtorEq, Nat.reduceEqDiff, cpoly_len, cpoly_nil, h0]
  refine call_by (m) (by first | rfl | (simp only [tocvs, tocv, h0]; rfl) | (simp only [tocvs, tocv, toboxes, tobox, updH_at, Nat.reduceEqDiff, ↓reduceIte, h0]; rfl)) (by simp) ?_
  simp (disch := omega) only [wk, tis, seval, reduceCtorEq, Nat.reduceEqDiff, cpoly_len, cpoly_nil, h0]
  exact ⟨rfl, rfl, rfl⟩
theorem div_known1 : trimz (dq [0, 0, 1] [1, 2]) = [-1, 2] := by decide
theorem div_known2 : trimz (dr [0, 0, 1] [1, 2]) = [1] := by decide
theorem div_known3 : tz [1, 2] = 2 := by decide
theorem known13_ok : AC Try.prog 4 [] none [cb true] := by
  refine AC.by_walk (rs := [.tmp 0]) ords Try.func4 (by rfl) (by rfl) (by rfl) (by rfl) (by rfl) ?_
  have rp : ∀ l : List Int, l.length ≤ 40 → (∀ z ∈ l, zl z ≤ 1) → RP 40 (2 ^ 27) (l.map canon) := fun l h1 h2 => RP.canon ⟨h1, fun z hz => Nat.le_trans (h2 z hz) (by decide)⟩
  have hz : ∀ z : Int, z.natAbs < 10 → zl z ≤ 1 := fun z h => zl_le.mpr (Nat.lt_of_lt_of_le h (by decide))
  have ra := rp [0, 0, 1] (by decide) (fun z hz' => hz z (by simp at hz'; omega))
  have rb := rp [1, 2] (by decide) (fun z hz' => hz z (by simp at hz'; omega))
  have m := pdiv_ok _ _ ra rb (by rw [pv_canon, div_known3]; decide)
  rw [pv_canon, pv_canon] at m
  have e1 : cn (dq [0, 0, 1] [1, 2]) = [-1, 2].map canon := by unfold cn; rw [div_known1]
  have e2 : cn (dr [0, 0, 1] [1, 2]) = [1].map canon := by unfold cn; rw [div_known2]
  have e3 : ((dxp [0, 0, 1] [1, 2] : Nat) : Int) = 2 := by decide
  have r1 := rp [-1, 2] (by decide) (fun z hz' => hz z (by simp at hz'; omega))
  have r2 := rp [1] (by decide) (fun z hz' => hz z (by simp at hz'; omega))
  have c1 : cpoly (dq [0, 0, 1] [1, 2]) = raws ([-1, 2].map canon) := by rw [← e1]; rfl
  have c2 : cpoly (dr [0, 0, 1] [1, 2]) = raws ([1].map canon) := by rw [← e2]; rfl
  simp only [cp, c1, c2, e3] at m
  simp (disch := omega) only [wk, tis, seval, reduceCtorEq, Nat.reduceEqDiff, cpoly_len, cpoly_nil]
  refine call_by ((poly13_ok [0, 0, 1] (by decide) (by decide))) (by rfl) (by simp) ?_
  simp (disch := omega) only [wk, tis, seval, reduceCtorEq, Nat.reduceEqDiff, cpoly_len, cpoly_nil]
  refine call_by ((poly13_ok [1, 2] (by decide) (by decide))) (by rfl) (by simp) ?_
  simp (disch := omega) only [wk, tis, seval, reduceCtorEq, Nat.reduceEqDiff, cpoly_len, cpoly_nil]
  refine call_by (m) (by rfl) (by simp) ?_
  simp (disch := omega) only [wk, tis, seval, reduceCtorEq, Nat.reduceEqDiff, cpoly_len, cpoly_nil]
  refine call_by ((poly13_ok [-1, 2] (by decide) (by decide))) (by rfl) (by simp) ?_
  simp (disch := omega) only [wk, tis, seval, reduceCtorEq, Nat.reduceEqDiff, cpoly_len, cpoly_nil]
  have s1 := zsame_ok ([-1, 2].map canon) ([-1, 2].map canon) (r1.mono (by decide) (by decide)) (r1.mono (by decide) (by decide))
  have s2 := zsame_ok ([1].map canon) ([1].map canon) (r2.mono (by decide) (by decide)) (r2.mono (by decide) (by decide))
  rw [decide_eq_true rfl] at s1 s2
  refine call_by (s1) (by rfl) (by simp) ?_
  simp (disch := omega) only [wk, tis, seval, reduceCtorEq, Nat.reduceEqDiff, cpoly_len, cpoly_nil]
  refine call_by ((poly13_ok [1] (by decide) (by decide))) (by rfl) (by simp) ?_
  simp (disch := omega) only [wk, tis, seval, reduceCtorEq, Nat.reduceEqDiff, cpoly_len, cpoly_nil]
  refine call_by (s2) (by rfl) (by simp) ?_
  simp (disch := omega) only [wk, tis, seval, reduceCtorEq, Nat.reduceEqDiff, cpoly_len, cpoly_nil]
end Go.Proofs.Ytcjnacpekbhhcaa

namespace Go.Proofs.Ytcjnacpekbhhcaa
open Go Go.Proofs Go.AL
set_option linter.unusedSimpArgs false
set_option linter.unusedVariables false
def row3 (r : Nat → Int) : List RI := [canon (r 0), canon (r 1), canon (r 2)]
def det3 (a b c : Nat → Int) : Int := a 0 * (b 1 * c 2 - c 1 * b 2) - b 0 * (a 1 * c 2 - c 1 * a 2) + c 0 * (a 1 * b 2 - b 1 * a 2)
theorem mq_three (a b c : Nat → Int) : (gdt 3 0 (mq [row3 a, row3 b, row3 c])).num = det3 a b c := by
  have e : ∀ (r : List RI) (m : List (List RI)) (i j : Nat) (z : Int), m.getD i [] = r → r.getD j (false, []) = canon z → mq m i j = (z : Rat) := fun r m i j z h1 h2 => by
    rw [mq, h1, h2, iv_canon]
  rw [gdt_dtq, dtq_three]
  have e00 : mq [row3 a, row3 b, row3 c] 0 0 = (a 0 : Rat) := e _ _ 0 0 _ rfl rfl
  have e01 : mq [row3 a, row3 b, row3 c] 0 1 = (a 1 : Rat) := e _ _ 0 1 _ rfl rfl
  have e02 : mq [row3 a, row3 b, row3 c] 0 2 = (a 2 : Rat) := e _ _ 0 2 _ rfl rfl
  have e10 : mq [row3 a, row3 b, row3 c] 1 0 = (b 0 : Rat) := e _ _ 1 0 _ rfl rfl
  have e11 : mq [row3 a, row3 b, row3 c] 1 1 = (b 1 : Rat) := e _ _ 1 1 _ rfl rfl
  have e12 : mq [row3 a, row3 b, row3 c] 1 2 = (b 2 : Rat) := e _ _ 1 2 _ rfl rfl
  have e20 : mq [row3 a, row3 b, row3 c] 2 0 = (c 0 : Rat) := e _ _ 2 0 _ rfl rfl
  have e21 : mq [row3 a, row3 b, row3 c] 2 1 = (c 1 : Rat) := e _ _ 2 1 _ rfl rfl
  have e22 : mq [row3 a, row3 b, row3 c] 2 2 = (c 2 : Rat) := e _ _ 2 2 _ rfl rfl
  rw [e00, e01, e02, e10, e11, e12, e20, e21, e22]
  rw [show (a 0 : Rat) * ((b 1 : Rat) * (c 2 : Rat) - (c 1 : Rat) * (b 2 : Rat)) - (b 0 : Rat) * ((a 1 : Rat) * (c 2 : Rat) - (c 1 : Rat) * (a 2 : Rat)) + (c 0 : Rat) * ((a 1 : Rat) * (b 2 : Rat) - (b 1 : Rat) * (a 2 : Rat)) = ((det3 a b c : Int) : Rat) by
    simp only [det3, Rat.intCast_add, Rat.intCast_sub, Rat.intCast_mul]]
  exact Rat.num_intCast _
def Z3 (k : Nat) (r : Nat → Int) : Prop := ∀ j, j < 3 → zl (r j) ≤ k
theorem row3_mb {k : Nat} {r : Nat → Int} (h : Z3 k r) (hk : k ≤ 2 ^ 20) : (row3 r).length ≤ 2 ^ 20 ∧ ∀ c ∈ row3 r, Sz (2 ^ 20) c := by
  refine ⟨by simp [row3], fun c hc => ?_⟩
  simp only [row3, List.mem_cons, List.not_mem_nil, or_false] at hc
  have h0 := h 0 (by omega)
  have h1 := h 1 (by omega)
  have h2 := h 2 (by omega)
  rcases hc with rfl | rfl | rfl <;> exact (sz_canon _).mono (by omega)
theorem det_three {k : Nat} {a b c : Nat → Int} (ha : Z3 k a) (hb : Z3 k b) (hc : Z3 k c) (hk : k ≤ 2 ^ 20) : AC Try.prog 8 [cm [row3 a, row3 b, row3 c]] none [cz (det3 a b c), ci 0] := by
  have h := det_ok [row3 a, row3 b, row3 c] ⟨by simp, fun r hr => by
    simp only [List.mem_cons, List.not_mem_nil, or_false] at hr
    rcases hr with rfl | rfl | rfl
    · exact row3_mb ha hk
    · exact row3_mb hb hk
    · exact row3_mb hc hk⟩ (by simp) fun r hr => by
    simp only [List.mem_cons, List.not_mem_nil, or_false] at hr
    rcases hr with rfl | rfl | rfl <;> rfl
  rwa [show [row3 a, row3 b, row3 c].length = 3 from rfl, mq_three] at h
theorem det_two {k : Nat} {a b : Nat → Int} (ha : Z3 k a) (hb : Z3 k b) (hk : k ≤ 2 ^ 20) : AC Try.prog 8 [cm [row3 a, row3 b]] none [cr (false, []), ci 3] :=
  det_bad [row3 a, row3 b] ⟨by simp, fun r hr => by
    simp only [List.mem_cons, List.not_mem_nil, or_false] at hr
    rcases hr with rfl | rfl
    · exact row3_mb ha hk
    · exact row3_mb hb hk⟩ fun h => absurd (h (row3 a) (by simp)) (by simp [row3])
theorem det3_size {k : Nat} {a b c : Nat → Int} (ha : Z3 k a) (hb : Z3 k b) (hc : Z3 k c) : zl (det3 a b c) ≤ 3 * k + 3 := by
  have m2 : ∀ (x y : Int), zl x ≤ k → zl y ≤ k → zl (x * y) ≤ 2 * k := fun x y hx hy => by have := zl_mul x y; omega
  have s2 : ∀ (x y : Int), zl x ≤ 2 * k → zl y ≤ 2 * k → zl (x - y) ≤ 2 * k + 1 := fun x y hx hy => by
    have := zl_add x (-y)
    rw [zl_neg] at this
    rw [Int.sub_eq_add_neg]
    omega
  have m3 : ∀ (x y : Int), zl x ≤ k → zl y ≤ 2 * k + 1 → zl (x * y) ≤ 3 * k + 1 := fun x y hx hy => by have := zl_mul x y; omega
  have a0 := ha 0 (by omega)
  have a1 := ha 1 (by omega)
  have a2 := ha 2 (by omega)
  have b0 := hb 0 (by omega)
  have b1 := hb 1 (by omega)
  have b2 := hb 2 (by omega)
  have c0 := hc 0 (by omega)
  have c1 := hc 1 (by omega)
  have c2 := hc 2 (by omega)
  have h1 := m3 _ _ a0 (s2 _ _ (m2 _ _ b1 c2) (m2 _ _ c1 b2))
  have h2 := m3 _ _ b0 (s2 _ _ (m2 _ _ a1 c2) (m2 _ _ c1 a2))
  have h3 := m3 _ _ c0 (s2 _ _ (m2 _ _ a1 b2) (m2 _ _ b1 a2))
  have h4 := zl_add (a 0 * (b 1 * c 2 - c 1 * b 2)) (-(b 0 * (a 1 * c 2 - c 1 * a 2)))
  rw [zl_neg, ← Int.sub_eq_add_neg] at h4
  have h5 := zl_add (a 0 * (b 1 * c 2 - c 1 * b 2) - b 0 * (a 1 * c 2 - c 1 * a 2)) (c 0 * (a 1 * b 2 - b 1 * a 2))
  unfold det3
  omega
def psq (a b : Nat → Nat → Int) (x y : Nat) : Nat → Int
  | 0 => 0
  | k + 1 => psq a b x y k + a x k * b k y
def prd (a b : Nat → Nat → Int) (x y : Nat) : Int := psq a b x y 3
theorem det3_prd (a b : Nat → Nat → Int) : det3 (prd a b 0) (prd a b 1) (prd a b 2) = det3 (a 0) (a 1) (a 2) * det3 (b 0) (b 1) (b 2) := by
  simp only [det3, prd, psq]
  grind
theorem psq_size {a b : Nat → Nat → Int} (ha : ∀ x, Z3 1 (a x)) (hb : ∀ x, Z3 1 (b x)) (x y : Nat) (hy : y < 3) : ∀ k, k ≤ 3 → zl (psq a b x y k) ≤ 2 + k
  | 0, _ => by rw [psq, zl_zero]; omega
  | k + 1, hk => by
    have h1 := psq_size ha hb x y hy k (by omega)
    have h2 := zl_mul (a x k) (b k y)
    have h3 := ha x k (by omega)
    have h4 := hb k y hy
    have h5 := zl_add (psq a b x y k) (a x k * b k y)
    rw [psq]
    omega
def c9 (a : Nat → Nat → Int) : List IV := [.int .i64 (a 0 0), .int .i64 (a 0 1), .int .i64 (a 0 2), .int .i64 (a 1 0), .int .i64 (a 1 1), .int .i64 (a 1 2), .int .i64 (a 2 0), .int .i64 (a 2 1), .int .i64 (a 2 2)]
theorem c9_len (a : Nat → Nat → Int) : (c9 a).length = 9 := rfl
theorem c9_at (a : Nat → Nat → Int) {x y : Nat} (hx : x < 3) (hy : y < 3) : (c9 a).getD (x * 3 + y) default = .int .i64 (a x y) := by
  have h1 : x = 0 ∨ x = 1 ∨ x = 2 := by omega
  have h2 : y = 0 ∨ y = 1 ∨ y = 2 := by omega
  rcases h1 with rfl | rfl | rfl <;> rcases h2 with rfl | rfl | rfl <;> rfl
theorem row3_take (r : Nat → Int) {y : Nat} (hy : y < 3) : (row3 r).take y ++ [canon (r y)] = (row3 r).take (y + 1) := by
  have h2 : y = 0 ∨ y = 1 ∨ y = 2 := by omega
  rcases h2 with rfl | rfl | rfl <;> rfl
def mat3 (a : Nat → Nat → Int) : List (List RI) := [row3 (a 0), row3 (a 1), row3 (a 2)]
theorem mat3_take (a : Nat → Nat → Int) {x : Nat} (hx : x < 3) : mrows ((mat3 a).take x) ++ [[.sl (raws (row3 (a x)))]] = mrows ((mat3 a).take (x + 1)) := by
  have h2 : x = 0 ∨ x = 1 ∨ x = 2 := by omega
  rcases h2 with rfl | rfl | rfl <;> rfl
end Go.Proofs.Ytcjnacpekbhhcaa

namespace Go.Proofs.Ytcjnacpekbhhcaa
open Go Go.Proofs Go.AL
set_option linter.unusedSimpArgs false
set_option linter.unusedVariables false
def cellsM (a b : Nat → Nat → Int) (i c : Int) : List IV := c9 a ++ (c9 b ++ [.int .i64 i, .int .i64 c])
theorem Z3.mono3 {k l : Nat} {r : Nat → Int} (h : Z3 k r) (hk : k ≤ l) : Z3 l r := fun j hj => Nat.le_trans (h j hj) hk
theorem idx3 (i : Int) : ∃ r : Nat, r < 3 ∧ IntKind.i64.wrap ((IntKind.u64.wrap i).tmod 3) = (r : Int) := by
  have h : IntKind.u64.wrap i = i % 18446744073709551616 := by
    simp only [IntKind.wrap, IntKind.signed, IntKind.bits, Bool.false_and, Bool.false_eq_true, if_false]
    rfl
  have h2 : (IntKind.u64.wrap i).tmod 3 = i % 18446744073709551616 % 3 := by
    rw [h, Int.tmod_eq_emod_of_nonneg (by omega)]
  rw [h2]
  have h3 : i % 18446744073709551616 % 3 = 0 ∨ i % 18446744073709551616 % 3 = 1 ∨ i % 18446744073709551616 % 3 = 2 := by omega
  rcases h3 with h | h | h <;> rw [h]
  · exact ⟨0, by omega, rfl⟩
  · exact ⟨1, by omega, rfl⟩
  · exact ⟨2, by omega, rfl⟩
theorem mrows_rows (m : List (List RI)) : (∀ r ∈ mrows m, r.length = 1) ↔ True := by simp [mrows]
theorem mrows_nil : mrows [] = [] := rfl
theorem row3_len (r : Nat → Int) : (row3 r).length = 3 := rfl
theorem row3_0 (r : Nat → Int) : (row3 r).getD 0 (false, []) = canon (r 0) := rfl
theorem row3_1 (r : Nat → Int) : (row3 r).getD 1 (false, []) = canon (r 1) := rfl
theorem row3_2 (r : Nat → Int) : (row3 r).getD 2 (false, []) = canon (r 2) := rfl
set_option maxHeartbeats 4000000 in
theorem mats_law (a b : Nat → Nat → Int) (i c : Int) (ha : ∀ x y, -9223372036854775808 ≤ a x y ∧ a x y ≤ 9223372036854775807) (hb : ∀ x y, -9223372036854775808 ≤ b x y ∧ b x y ≤ 9223372036854775807) (hi : -9223372036854775808 ≤ i ∧ i ≤ 9223372036854775807) (hc : -9223372036854775808 ≤ c ∧ c ≤ 9223372036854775807) :
    AC Try.prog 3 [.agg (cellsM a b i c)] none [cb true] := by
  have hM : (cellsM a b i c).length = 20 := rfl
  have d0 : (cellsM a b i c).take 9 = c9 a := rfl
  have sp : ∀ x, splice [IV.int .i64 0, IV.int .i64 0, IV.int .i64 0, IV.int .i64 0, IV.int .i64 0, IV.int .i64 0, IV.int .i64 0, IV.int .i64 0, IV.int .i64 0] 0 (c9 x) = c9 x := fun x => rfl
  have d1 : ((cellsM a b i c).drop 9).take 9 = c9 b := rfl
  have d2 : (cellsM a b i c).getD 18 default = .int .i64 i := rfl
  have d3 : (cellsM a b i c).getD 19 default = .int .i64 c := rfl
  have lc := c9_len
  have hza : ∀ x, Z3 1 (a x) := fun x j _ => zl_w (by have := ha x j; simp only [W]; omega)
  have hzb : ∀ x, Z3 1 (b x) := fun x j _ => zl_w (by have := hb x j; simp only [W]; omega)
  refine AC.by_walk (rs := [.tmp 2]) ords Try.func3 (by rfl) (by rfl) (by rfl) (by rfl) (by rfl) ?_
  simp (disch := omega) only [wk, tis, seval, reduceCtorEq, Nat.reduceEqDiff, mrows_len, mrows_at, mrows_take, hM]
  refine call_by (known13_ok) (by rfl) (by simp) ?_
  simp (disch := omega) only [wk, tis, seval, reduceCtorEq, Nat.reduceEqDiff, mrows_len, mrows_at, mrows_take]
  refine ⟨tmps_by (by kernel_rfl), ?_⟩
  simp (disch := omega) only [wk, tis, seval, reduceCtorEq, Nat.reduceEqDiff, mrows_len, mrows_at, mrows_take, hM, d0, d1, d2, d3, lc, sp]
  first | exact log_by (by kernel_rfl) | refine ⟨log_by (by kernel_rfl), ?_⟩
  refine aloop_w (.nil 7 7 28 1 (by simp (disch := omega) only [wk, tis, seval, reduceCtorEq, Nat.reduceEqDiff, mrows_len, mrows_at, mrows_take]) (.nil 8 8 28 1 (by simp (disch := omega) only [wk, tis, seval, reduceCtorEq, Nat.reduceEqDiff, mrows_len, mrows_at, mrows_take, ghostF]) (.nil 9 9 28 1 (by simp (disch := omega) only [wk, tis, seval, reduceCtorEq, Nat.reduceEqDiff, mrows_len, mrows_at, mrows_take, ghostF]) (.refl _ _)))) (fun f H => ∃ (x s3 s4 s7 s8 s9 : Nat), x ≤ 3 ∧ f 10 = .iv (.int .i64 x) ∧ f 3 = .hp 3 s3 0 0 ∧ H 3 = .blk false s3 23 9 [c9 a] ∧ f 4 = .hp 4 s4 0 0 ∧ H 4 = .blk false s4 23 9 [c9 b] ∧ f 5 = .iv (.int .i64 i) ∧ f 6 = .iv (.int .i64 c) ∧ f 7 = .hs 7 s7 ∧ H 7 = .blk false s7 28 1 (mrows ((mat3 a).take x)) ∧ f 8 = .hs 8 s8 ∧ H 8 = .blk false s8 28 1 (mrows ((mat3 b).take x)) ∧ f 9 = .hs 9 s9 ∧ H 9 = .blk false s9 28 1 (mrows ((mat3 (prd a b)).take x))) (fun f H => (3 - intAt f 10).toNat) ?_ ?_
  · refine ⟨0, 1, 1, 1, 1, 1, by omega, ?_⟩
    simp (disch := omega) only [wk, tis, seval, reduceCtorEq, Nat.reduceEqDiff, mrows_len, mrows_at, mrows_take, ghostF, ghostH, List.take_zero, mrows_nil]
  rintro f H ⟨x, s3, s4, s7, s8, s9, hx, hF⟩
  rw [intAt_of hF.1]
  simp (disch := omega) only [wk, tis, seval, reduceCtorEq, Nat.reduceEqDiff, mrows_len, mrows_at, mrows_take, hF]
  refine if_by (fun hlt => ?_) (fun hlt => ?_)
  · have hx' : x < 3 := by omega
    simp (disch := omega) only [wk, tis, seval, reduceCtorEq, Nat.reduceEqDiff, mrows_len, mrows_at, mrows_take, hF]
    refine aloop_w (.nil 11 11 32 2 (by simp (disch := omega) only [wk, tis, seval, reduceCtorEq, Nat.reduceEqDiff, mrows_len, mrows_at, mrows_take]) (.nil 12 12 32 2 (by simp (disch := omega) only [wk, tis, seval, reduceCtorEq, Nat.reduceEqDiff, mrows_len, mrows_at, mrows_take, ghostF]) (.nil 13 13 32 2 (by simp (disch := omega) only [wk, tis, seval, reduceCtorEq, Nat.reduceEqDiff, mrows_len, mrows_at, mrows_take, ghostF]) (.refl _ _)))) (fun f H => ∃ (y s3 s4 s7 s8 s9 s11 s12 s13 : Nat), y ≤ 3 ∧ f 14 = .iv (.int .i64 y) ∧ f 10 = .iv (.int .i64 x) ∧ f 3 = .hp 3 s3 0 0 ∧ H 3 = .blk false s3 23 9 [c9 a] ∧ f 4 = .hp 4 s4 0 0 ∧ H 4 = .blk false s4 23 9 [c9 b] ∧ f 5 = .iv (.int .i64 i) ∧ f 6 = .iv (.int .i64 c) ∧ f 7 = .hs 7 s7 ∧ H 7 = .blk false s7 28 1 (mrows ((mat3 a).take x)) ∧ f 8 = .hs 8 s8 ∧ H 8 = .blk false s8 28 1 (mrows ((mat3 b).take x)) ∧ f 9 = .hs 9 s9 ∧ H 9 = .blk false s9 28 1 (mrows ((mat3 (prd a b)).take x)) ∧ f 11 = .hs 11 s11 ∧ H 11 = .blk false s11 32 2 (raws ((row3 (a x)).take y)) ∧ f 12 = .hs 12 s12 ∧ H 12 = .blk false s12 32 2 (raws ((row3 (b x)).take y)) ∧ f 13 = .hs 13 s13 ∧ H 13 = .blk false s13 32 2 (raws ((row3 (prd a b x)).take y))) (fun f H => (3 - intAt f 14).toNat) ?_ ?_
    · refine ⟨0, s3, s4, s7, s8, s9, (H 11).stamp + 1, (H 12).stamp + 1, (H 13).stamp + 1, by omega, ?_⟩
      simp (disch := omega) only [wk, tis, seval, reduceCtorEq, Nat.reduceEqDiff, mrows_len, mrows_at, mrows_take, ghostF, ghostH, List.take_zero, hF]
    rintro f H ⟨y, s3, s4, s7, s8, s9, s11, s12, s13, hy, hF⟩
    rw [intAt_of hF.1]
    simp (disch := omega) only [wk, tis, seval, reduceCtorEq, Nat.reduceEqDiff, mrows_len, mrows_at, mrows_take, hF]
    refine if_by (fun hlt => ?_) (fun hlt => ?_)
    · have hy' : y < 3 := by omega
      have z0 := zOf_ok 0 (by omega) (by omega)
      simp (disch := omega) only [wk, tis, seval, reduceCtorEq, Nat.reduceEqDiff, mrows_len, mrows_at, mrows_take, hF]
      refine call_by (z0) (by first | rfl | (simp only [tocvs, tocv, hF]; rfl) | (simp only [tocvs, tocv, toboxes, tobox, updH_at, Nat.reduceEqDiff, ↓reduceIte, hF]; rfl)) (by simp) ?_
      simp (disch := omega) only [wk, tis, seval, reduceCtorEq, Nat.reduceEqDiff, mrows_len, mrows_at, mrows_take, hF]
      refine aloop_by (fun f H => ∃ (k s3 s4 s7 s8 s9 s11 s12 s13 s15 : Nat), k ≤ 3 ∧ f 16 = .iv (.int .i64 k) ∧ f 14 = .iv (.int .i64 y) ∧ f 10 = .iv (.int .i64 x) ∧ f 3 = .hp 3 s3 0 0 ∧ H 3 = .blk false s3 23 9 [c9 a] ∧ f 4 = .hp 4 s4 0 0 ∧ H 4 = .blk false s4 23 9 [c9 b] ∧ f 5 = .iv (.int .i64 i) ∧ f 6 = .iv (.int .i64 c) ∧ f 7 = .hs 7 s7 ∧ H 7 = .blk false s7 28 1 (mrows ((mat3 a).take x)) ∧ f 8 = .hs 8 s8 ∧ H 8 = .blk false s8 28 1 (mrows ((mat3 b).take x)) ∧ f 9 = .hs 9 s9 ∧ H 9 = .blk false s9 28 1 (mrows ((mat3 (prd a b)).take x)) ∧ f 11 = .hs 11 s11 ∧ H 11 = .blk false s11 32 2 (raws ((row3 (a x)).take y)) ∧ f 12 = .hs 12 s12 ∧ H 12 = .blk false s12 32 2 (raws ((row3 (b x)).take y)) ∧ f 13 = .hs 13 s13 ∧ H 13 = .blk false s13 32 2 (raws ((row3 (prd a b x)).take y)) ∧ f 15 = .hp 15 s15 0 0 ∧ H 15 = .blk false s15 32 2 [prow (canon (psq a b x y k))]) (fun f H => (3 - intAt f 16).toNat) ?_ ?_
      · refine ⟨0, s3, s4, s7, s8, s9, s11, s12, s13, (H 15).stamp + 1, by omega, ?_⟩
        simp (disch := omega) only [wk, tis, seval, reduceCtorEq, Nat.reduceEqDiff, mrows_len, mrows_at, mrows_take, hF, psq]
      rintro f H ⟨k, s3, s4, s7, s8, s9, s11, s12, s13, s15, hk, hF⟩
      rw [intAt_of hF.1]
      simp (disch := omega) only [wk, tis, seval, reduceCtorEq, Nat.reduceEqDiff, mrows_len, mrows_at, mrows_take, hF]
      refine if_by (fun hlt => ?_) (fun hlt => ?_)
      · have hk' : k < 3 := by omega
        have ca := c9_at a hx' hk'
        have cb1 := c9_at b hk' hy'
        have ba := ha x k
        have bb := hb k y
        have q1 := hza x k hk'
        have q2 := hzb k y hy'
        have q3 := psq_size hza hzb x y hy' k (by omega)
        have q4 := zl_mul (a x k) (b k y)
        have o1 := zOf_ok (a x k) (by omega) (by omega)
        have o2 := zOf_ok (b k y) (by omega) (by omega)
        have m1 := zmul_ok (canon (a x k)) (canon (b k y)) ((sz_canon _).mono (by omega)) ((sz_canon _).mono (by omega))
        have d1 := zadd_ok (canon (psq a b x y k)) (canon (a x k * b k y)) ((sz_canon _).mono (by omega)) ((sz_canon _).mono (by omega))
        rw [iv_canon, iv_canon] at m1 d1
        rw [← psq] at d1
        refine ⟨tmps_by (by kernel_rfl), ?_⟩
        simp (disch := omega) only [wk, tis, seval, reduceCtorEq, Nat.reduceEqDiff, mrows_len, mrows_at, mrows_take, hF, ca, cb1, lc, Nat.zero_add, Nat.mul_one]
        refine call_by (o1) (by first | rfl | (simp only [tocvs, tocv, hF, ca, cb1, lc, Nat.zero_add, Nat.mul_one]; rfl) | (simp only [tocvs, tocv, toboxes, tobox, updH_at, Nat.reduceEqDiff, ↓reduceIte, hF, ca, cb1, lc, Nat.zero_add, Nat.mul_one]; rfl)) (by simp) ?_
        simp (disch := omega) only [wk, tis, seval, reduceCtorEq, Nat.reduceEqDiff, mrows_len, mrows_at, mrows_take, hF, ca, cb1, lc, Nat.zero_add, Nat.mul_one]
        refine call_by (o2) (by first | rfl | (simp only [tocvs, tocv, hF, ca, cb1, lc, Nat.zero_add, Nat.mul_one]; rfl) | (simp only [tocvs, tocv, toboxes, tobox, updH_at, Nat.reduceEqDiff, ↓reduceIte, hF, ca, cb1, lc, Nat.zero_add, Nat.mul_one]; rfl)) (by simp) ?_
        simp (disch := omega) only [wk, tis, seval, reduceCtorEq, Nat.reduceEqDiff, mrows_len, mrows_at, mrows_take, hF, ca, cb1, lc, Nat.zero_add, Nat.mul_one]
        refine call_by (m1) (by first | rfl | (simp only [tocvs, tocv, hF, ca, cb1, lc, Nat.zero_add, Nat.mul_one]; rfl) | (simp only [tocvs, tocv, toboxes, tobox, updH_at, Nat.reduceEqDiff, ↓reduceIte, hF, ca, cb1, lc, Nat.zero_add, Nat.mul_one]; rfl)) (by simp) ?_
        simp (disch := omega) only [wk, tis, seval, reduceCtorEq, Nat.reduceEqDiff, mrows_len, mrows_at, mrows_take, hF, ca, cb1, lc, Nat.zero_add, Nat.mul_one]
        refine call_by (d1) (by first | rfl | (simp only [tocvs, tocv, hF, ca, cb1, lc, Nat.zero_add, Nat.mul_one]; rfl) | (simp only [tocvs, tocv, toboxes, tobox, updH_at, Nat.reduceEqDiff, ↓reduceIte, hF, ca, cb1, lc, Nat.zero_add, Nat.mul_one]; rfl)) (by simp) ?_
        simp (disch := omega) only [wk, tis, seval, reduceCtorEq, Nat.reduceEqDiff, mrows_len, mrows_at, mrows_take, hF, ca, cb1, lc, Nat.zero_add, Nat.mul_one]
        first | exact log_by (by kernel_rfl) | refine ⟨log_by (by kernel_rfl), ?_⟩
        refine ⟨⟨k + 1, s3, s4, s7, s8, s9, s11, s12, s13, s15, by omega, ?_⟩, by omega⟩
        (repeat' apply And.intro) <;> first | rfl | omega
      · obtain rfl : 3 = k := by omega
        have ca := c9_at a hx' hy'
        have cb1 := c9_at b hx' hy'
        have ba := ha x y
        have bb := hb x y
        have o1 := zOf_ok (a x y) (by omega) (by omega)
        have o2 := zOf_ok (b x y) (by omega) (by omega)
        have l1 : ((row3 (a x)).take y).length = y := by rw [List.length_take, show (row3 (a x)).length = 3 from rfl]; omega
        have l2 : ((row3 (b x)).take y).length = y := by rw [List.length_take, show (row3 (b x)).length = 3 from rfl]; omega
        have l3 : ((row3 (prd a b x)).take y).length = y := by rw [List.length_take, show (row3 (prd a b x)).length = 3 from rfl]; omega
        simp (disch := omega) only [wk, tis, seval, reduceCtorEq, Nat.reduceEqDiff, mrows_len, mrows_at, mrows_take, hF]
        refine ⟨tmps_by (by kernel_rfl), ?_⟩
        simp (disch := omega) only [wk, tis, seval, reduceCtorEq, Nat.reduceEqDiff, mrows_len, mrows_at, mrows_take, hF, ca, cb1, lc, Nat.zero_add, Nat.mul_one, l1, l2, l3]
        refine call_by (o1) (by first | rfl | (simp only [tocvs, tocv, hF, ca, cb1, lc, Nat.zero_add, Nat.mul_one, l1, l2, l3]; rfl) | (simp only [tocvs, tocv, toboxes, tobox, updH_at, Nat.reduceEqDiff, ↓reduceIte, hF, ca, cb1, lc, Nat.zero_add, Nat.mul_one, l1, l2, l3]; rfl)) (by simp) ?_
        simp (disch := omega) only [wk, tis, seval, reduceCtorEq, Nat.reduceEqDiff, mrows_len, mrows_at, mrows_take, hF, ca, cb1, lc, Nat.zero_add, Nat.mul_one, l1, l2, l3]
        refine call_by (o2) (by first | rfl | (simp only [tocvs, tocv, hF, ca, cb1, lc, Nat.zero_add, Nat.mul_one, l1, l2, l3]; rfl) | (simp only [tocvs, tocv, toboxes, tobox, updH_at, Nat.reduceEqDiff, ↓reduceIte, hF, ca, cb1, lc, Nat.zero_add, Nat.mul_one, l1, l2, l3]; rfl)) (by simp) ?_
        simp (disch := omega) only [wk, tis, seval, reduceCtorEq, Nat.reduceEqDiff, mrows_len, mrows_at, mrows_take, hF, ca, cb1, lc, Nat.zero_add, Nat.mul_one, l1, l2, l3]
        first | exact log_by (by kernel_rfl) | refine ⟨log_by (by kernel_rfl), ?_⟩
        rw [row3_take _ hy', row3_take _ hy', show psq a b x y 3 = prd a b x y from rfl, row3_take _ hy']
        refine ⟨⟨y + 1, s3, s4, s7, s8, s9, s11 + 1, s12 + 1, s13 + 1, by omega, ?_⟩, by omega⟩
        (repeat' apply And.intro) <;> first | rfl | omega
    · obtain rfl : 3 = y := by omega
      have l1 : ((mat3 a).take x).length = x := by rw [List.length_take, show (mat3 a).length = 3 from rfl]; omega
      have l2 : ((mat3 b).take x).length = x := by rw [List.length_take, show (mat3 b).length = 3 from rfl]; omega
      have l3 : ((mat3 (prd a b)).take x).length = x := by rw [List.length_take, show (mat3 (prd a b)).length = 3 from rfl]; omega
      have t3 : ∀ r, (row3 r).take 3 = row3 r := fun r => rfl
      simp (disch := omega) only [wk, tis, seval, reduceCtorEq, Nat.reduceEqDiff, mrows_len, mrows_at, mrows_take, hF, l1, l2, l3, t3]
      rw [mat3_take a hx', mat3_take b hx', mat3_take (prd a b) hx']
      refine ⟨⟨x + 1, s3, s4, s7 + 1, s8 + 1, s9 + 1, by omega, ?_⟩, by omega⟩
      (repeat' apply And.intro) <;> first | rfl | omega
  · obtain rfl : 3 = x := by omega
    have t3 : ∀ r, mrows ((mat3 r).take 3) = mrows (mat3 r) := fun r => rfl
    rw [t3, t3, t3] at hF
    obtain ⟨r, hr3, hir⟩ : ∃ r : Nat, r < 3 ∧ IntKind.i64.wrap ((IntKind.u64.wrap i).tmod 3) = (r : Int) := idx3 i
    simp (disch := omega) only [wk, tis, seval, reduceCtorEq, Nat.reduceEqDiff, mrows_len, mrows_at, mrows_take, hF, hir]
    have g0 : (mat3 a).getD 0 [] = row3 (a 0) := rfl
    have g1 : (mat3 a).getD 1 [] = row3 (a 1) := rfl
    have g2 : (mat3 a).getD 2 [] = row3 (a 2) := rfl
    have lm : (mat3 a).length = 3 := rfl
    have hzp : ∀ x, Z3 5 (prd a b x) := fun x j hj => psq_size hza hzb x j hj 3 (by omega)
    have dA := det_three (hza 0) (hza 1) (hza 2) (by omega)
    have dB := det_three (hzb 0) (hzb 1) (hzb 2) (by omega)
    have dP := det_three (hzp 0) (hzp 1) (hzp 2) (by omega)
    have d2 := det_two (hza 0) (hza 1) (by omega)
    have sA := det3_size (hza 0) (hza 1) (hza 2)
    have sB := det3_size (hzb 0) (hzb 1) (hzb 2)
    have hzc : zl c ≤ 1 := zl_w (by simp only [W]; omega)
    have oc := zOf_ok c (by omega) (by omega)
    have hzt : ∀ x, Z3 2 (fun q => a x q * c) := fun x j hj => by have := hza x j hj; have := zl_mul (a x j) c; show zl (a x j * c) ≤ 2; omega
    have mAB := zmul_ok (canon (det3 (a 0) (a 1) (a 2))) (canon (det3 (b 0) (b 1) (b 2))) ((sz_canon _).mono (by omega)) ((sz_canon _).mono (by omega))
    have mAc := zmul_ok (canon (det3 (a 0) (a 1) (a 2))) (canon c) ((sz_canon _).mono (by omega)) ((sz_canon _).mono (by omega))
    have nA := zneg_ok (canon (det3 (a 0) (a 1) (a 2))) ((sz_canon _).mono (by omega))
    have z0 := zsign_ok (canon 0) ((sz_canon _).mono (by rw [zl_zero]; omega))
    rw [iv_canon] at nA z0
    rw [Int.sign_zero] at z0
    rw [iv_canon, iv_canon] at mAB mAc
    rw [det3_prd] at dP
    have zAB := zl_mul (det3 (a 0) (a 1) (a 2)) (det3 (b 0) (b 1) (b 2))
    have zAc := zl_mul (det3 (a 0) (a 1) (a 2)) c
    have sAB := sameint_g (rfl : det3 (a 0) (a 1) (a 2) * det3 (b 0) (b 1) (b 2) = _) (by omega)
    have sAc := sameint_g (rfl : det3 (a 0) (a 1) (a 2) * c = _) (by omega)
    have sNA := sameint_g (rfl : -det3 (a 0) (a 1) (a 2) = _) (by rw [zl_neg]; omega)
    have za0 := fun x => hza x 0 (by omega)
    have za1 := fun x => hza x 1 (by omega)
    have za2 := fun x => hza x 2 (by omega)
    change AC Try.prog 8 [cm (mat3 a)] none _ at dA
    change AC Try.prog 8 [cm (mat3 b)] none _ at dB
    change AC Try.prog 8 [cm (mat3 (prd a b))] none _ at dP
    refine call_by (dA) (by first | rfl | (simp only [tocvs, tocv, hF, hir]; rfl) | (simp only [tocvs, tocv, toboxes, tobox, updH_at, Nat.reduceEqDiff, ↓reduceIte, hF, hir]; rfl)) (by simp) ?_
    simp (disch := omega) only [wk, tis, seval, reduceCtorEq, Nat.reduceEqDiff, mrows_len, mrows_at, mrows_take, hF, hir]
    refine call_by (dB) (by first | rfl | (simp only [tocvs, tocv, hF, hir]; rfl) | (simp only [tocvs, tocv, toboxes, tobox, updH_at, Nat.reduceEqDiff, ↓reduceIte, hF, hir]; rfl)) (by simp) ?_
    simp (disch := omega) only [wk, tis, seval, reduceCtorEq, Nat.reduceEqDiff, mrows_len, mrows_at, mrows_take, hF, hir]
    refine call_by (dP) (by first | rfl | (simp only [tocvs, tocv, hF, hir]; rfl) | (simp only [tocvs, tocv, toboxes, tobox, updH_at, Nat.reduceEqDiff, ↓reduceIte, hF, hir]; rfl)) (by simp) ?_
    simp (disch := omega) only [wk, tis, seval, reduceCtorEq, Nat.reduceEqDiff, mrows_len, mrows_at, mrows_take, hF, hir]
    refine ⟨tmps_by (by kernel_rfl), ?_⟩
    refine call_by (mAB) (by first | rfl | (simp only [tocvs, tocv, hF, hir]; rfl) | (simp only [tocvs, tocv, toboxes, tobox, updH_at, Nat.reduceEqDiff, ↓reduceIte, hF, hir]; rfl)) (by simp) ?_
    simp (disch := omega) only [wk, tis, seval, reduceCtorEq, Nat.reduceEqDiff, mrows_len, mrows_at, mrows_take, hF, hir]
    refine call_by (sAB) (by first | rfl | (simp only [tocvs, tocv, hF, hir]; rfl) | (simp only [tocvs, tocv, toboxes, tobox, updH_at, Nat.reduceEqDiff, ↓reduceIte, hF, hir]; rfl)) (by simp) ?_
    simp (disch := omega) only [wk, tis, seval, reduceCtorEq, Nat.reduceEqDiff, mrows_len, mrows_at, mrows_take, hF, hir]
    first | exact log_by (by kernel_rfl) | refine ⟨log_by (by kernel_rfl), ?_⟩
    refine ⟨tmps_by (by kernel_rfl), ?_⟩
    first | exact log_by (by kernel_rfl) | refine ⟨log_by (by kernel_rfl), ?_⟩
    refine ⟨tmps_by (by kernel_rfl), ?_⟩
    have hl0 := row3_len (a 0)
    have hl1 := row3_len (a 1)
    have hl2 := row3_len (a 2)
    have hc3 : r = 0 ∨ r = 1 ∨ r = 2 := by omega
    rcases hc3 with rfl | rfl | rfl
    · have er : ((0 : Nat) : Int) = 0 := rfl
      have ej : ((0 : Int) + 1).tmod 3 = 1 := rfl
      have dt := det_three (k := 2) ((hza 1).mono3 (by omega)) ((hza 0).mono3 (by omega)) ((hza 2).mono3 (by omega)) (by omega)
      have dw := det_three (k := 2) ((hza 1).mono3 (by omega)) ((hza 1).mono3 (by omega)) ((hza 2).mono3 (by omega)) (by omega)
      have ds := det_three (k := 2) (hzt 0) ((hza 1).mono3 (by omega)) ((hza 2).mono3 (by omega)) (by omega)
      have et : det3 (a 1) (a 0) (a 2) = -det3 (a 0) (a 1) (a 2) := by simp only [det3]; grind
      have ew : det3 (a 1) (a 1) (a 2) = 0 := by simp only [det3]; grind
      have es : det3 (fun q => a 0 q * c) (a 1) (a 2) = det3 (a 0) (a 1) (a 2) * c := by simp only [det3]; grind
      rw [et] at dt
      rw [ew] at dw
      rw [es] at ds
      have p0 := zmul_ok (canon (a 0 0)) (canon c) ((sz_canon _).mono (Nat.le_trans (za0 0) (by omega))) ((sz_canon _).mono (by omega))
      have p1 := zmul_ok (canon (a 0 1)) (canon c) ((sz_canon _).mono (Nat.le_trans (za1 0) (by omega))) ((sz_canon _).mono (by omega))
      have p2 := zmul_ok (canon (a 0 2)) (canon c) ((sz_canon _).mono (Nat.le_trans (za2 0) (by omega))) ((sz_canon _).mono (by omega))
      rw [iv_canon, iv_canon] at p0 p1 p2
      simp (disch := omega) only [wk, tis, seval, reduceCtorEq, Nat.reduceEqDiff, mrows_len, mrows_at, mrows_take, hF, g0, g1, g2, lm, mrows_rows, er, ej]
      first | exact log_by (by kernel_rfl) | refine ⟨log_by (by kernel_rfl), ?_⟩
      refine ⟨tmps_by (by kernel_rfl), ?_⟩
      first | exact log_by (by kernel_rfl) | refine ⟨log_by (by kernel_rfl), ?_⟩
      refine ⟨tmps_by (by kernel_rfl), ?_⟩
      first | exact log_by (by kernel_rfl) | refine ⟨log_by (by kernel_rfl), ?_⟩
      refine ⟨tmps_by (by kernel_rfl), ?_⟩
      simp (disch := omega) only [wk, tis, seval, reduceCtorEq, Nat.reduceEqDiff, mrows_len, mrows_at, mrows_take, hF, g0, g1, g2, lm, mrows_rows, er, ej, row3_len, row3_0, row3_1, row3_2]
      refine call_by (oc) (by first | rfl | (simp only [tocvs, tocv, hF, g0, g1, g2, lm, mrows_rows, er, ej, row3_len, row3_0, row3_1, row3_2]; rfl) | (simp only [tocvs, tocv, toboxes, tobox, updH_at, Nat.reduceEqDiff, ↓reduceIte, hF, g0, g1, g2, lm, mrows_rows, er, ej, row3_len, row3_0, row3_1, row3_2]; rfl)) (by simp) ?_
      simp (disch := omega) only [wk, tis, seval, reduceCtorEq, Nat.reduceEqDiff, mrows_len, mrows_at, mrows_take, hF, g0, g1, g2, lm, mrows_rows, er, ej, row3_len, row3_0, row3_1, row3_2]
      refine call_by (p0) (by first | rfl | (simp only [tocvs, tocv, hF, g0, g1, g2, lm, mrows_rows, er, ej, row3_len, row3_0, row3_1, row3_2]; rfl) | (simp only [tocvs, tocv, toboxes, tobox, updH_at, Nat.reduceEqDiff, ↓reduceIte, hF, g0, g1, g2, lm, mrows_rows, er, ej, row3_len, row3_0, row3_1, row3_2]; rfl)) (by simp) ?_
      simp (disch := omega) only [wk, tis, seval, reduceCtorEq, Nat.reduceEqDiff, mrows_len, mrows_at, mrows_take, hF, g0, g1, g2, lm, mrows_rows, er, ej, row3_len, row3_0, row3_1, row3_2]
      refine call_by (oc) (by first | rfl | (simp only [tocvs, tocv, hF, g0, g1, g2, lm, mrows_rows, er, ej, row3_len, row3_0, row3_1, row3_2]; rfl) | (simp only [tocvs, tocv, toboxes, tobox, updH_at, Nat.reduceEqDiff, ↓reduceIte, hF, g0, g1, g2, lm, mrows_rows, er, ej, row3_len, row3_0, row3_1, row3_2]; rfl)) (by simp) ?_
      simp (disch := omega) only [wk, tis, seval, reduceCtorEq, Nat.reduceEqDiff, mrows_len, mrows_at, mrows_take, hF, g0, g1, g2, lm, mrows_rows, er, ej, row3_len, row3_0, row3_1, row3_2]
      refine call_by (p1) (by first | rfl | (simp only [tocvs, tocv, hF, g0, g1, g2, lm, mrows_rows, er, ej, row3_len, row3_0, row3_1, row3_2]; rfl) | (simp only [tocvs, tocv, toboxes, tobox, updH_at, Nat.reduceEqDiff, ↓reduceIte, hF, g0, g1, g2, lm, mrows_rows, er, ej, row3_len, row3_0, row3_1, row3_2]; rfl)) (by simp) ?_
      simp (disch := omega) only [wk, tis, seval, reduceCtorEq, Nat.reduceEqDiff, mrows_len, mrows_at, mrows_take, hF, g0, g1, g2, lm, mrows_rows, er, ej, row3_len, row3_0, row3_1, row3_2]
      refine call_by (oc) (by first | rfl | (simp only [tocvs, tocv, hF, g0, g1, g2, lm, mrows_rows, er, ej, row3_len, row3_0, row3_1, row3_2]; rfl) | (simp only [tocvs, tocv, toboxes, tobox, updH_at, Nat.reduceEqDiff, ↓reduceIte, hF, g0, g1, g2, lm, mrows_rows, er, ej, row3_len, row3_0, row3_1, row3_2]; rfl)) (by simp) ?_
      simp (disch := omega) only [wk, tis, seval, reduceCtorEq, Nat.reduceEqDiff, mrows_len, mrows_at, mrows_take, hF, g0, g1, g2, lm, mrows_rows, er, ej, row3_len, row3_0, row3_1, row3_2]
      refine call_by (p2) (by first | rfl | (simp only [tocvs, tocv, hF, g0, g1, g2, lm, mrows_rows, er, ej, row3_len, row3_0, row3_1, row3_2]; rfl) | (simp only [tocvs, tocv, toboxes, tobox, updH_at, Nat.reduceEqDiff, ↓reduceIte, hF, g0, g1, g2, lm, mrows_rows, er, ej, row3_len, row3_0, row3_1, row3_2]; rfl)) (by simp) ?_
      simp (disch := omega) only [wk, tis, seval, reduceCtorEq, Nat.reduceEqDiff, mrows_len, mrows_at, mrows_take, hF, g0, g1, g2, lm, mrows_rows, er, ej, row3_len, row3_0, row3_1, row3_2]
      first | exact log_by (by kernel_rfl) | refine ⟨log_by (by kernel_rfl), ?_⟩
      generalize (H 153).stamp + 1 = s153
      generalize (H 177).stamp + 1 = s177
      generalize (H 194).stamp + 1 = s194
      generalize (H 18).stamp + 1 = s18
      refine frame_call (fun f H => f 24 = .hs 153 s153 ∧ H 153 = .blk false s153 28 1 (mrows [row3 (a 1), row3 (a 0), row3 (a 2)]) ∧ f 25 = .hs 177 s177 ∧ H 177 = .blk false s177 28 1 (mrows [row3 (a 1), row3 (a 1), row3 (a 2)]) ∧ f 26 = .hs 194 s194 ∧ H 194 = .blk false s194 28 1 (mrows [row3 (fun q => a 0 q * c), row3 (a 1), row3 (a 2)]) ∧ f 7 = .hs 7 s7 ∧ H 7 = .blk true s7 28 1 (mrows (mat3 a)) ∧ f 18 = .hp 18 s18 0 0 ∧ H 18 = .blk false s18 32 2 [prow (canon (det3 (a 0) (a 1) (a 2)))] ∧ f 6 = .iv (.int .i64 c)) ?_ (fun f H hF => ?_)
      · simp (disch := omega) only [wk, tis, seval, reduceCtorEq, Nat.reduceEqDiff, mrows_len, mrows_at, mrows_take, hF]
        (repeat' apply And.intro) <;> rfl
      refine call_by (dt) (by first | rfl | (simp only [tocvs, tocv, hF, g0, g1, lm, mrows_rows]; rfl) | (simp only [tocvs, tocv, toboxes, tobox, updH_at, Nat.reduceEqDiff, ↓reduceIte, hF, g0, g1, lm, mrows_rows]; rfl)) (by simp) ?_
      simp (disch := omega) only [wk, tis, seval, reduceCtorEq, Nat.reduceEqDiff, mrows_len, mrows_at, mrows_take, hF, g0, g1, lm, mrows_rows]
      refine call_by (dw) (by first | rfl | (simp only [tocvs, tocv, hF, g0, g1, lm, mrows_rows]; rfl) | (simp only [tocvs, tocv, toboxes, tobox, updH_at, Nat.reduceEqDiff, ↓reduceIte, hF, g0, g1, lm, mrows_rows]; rfl)) (by simp) ?_
      simp (disch := omega) only [wk, tis, seval, reduceCtorEq, Nat.reduceEqDiff, mrows_len, mrows_at, mrows_take, hF, g0, g1, lm, mrows_rows]
      refine call_by (ds) (by first | rfl | (simp only [tocvs, tocv, hF, g0, g1, lm, mrows_rows]; rfl) | (simp only [tocvs, tocv, toboxes, tobox, updH_at, Nat.reduceEqDiff, ↓reduceIte, hF, g0, g1, lm, mrows_rows]; rfl)) (by simp) ?_
      simp (disch := omega) only [wk, tis, seval, reduceCtorEq, Nat.reduceEqDiff, mrows_len, mrows_at, mrows_take, hF, g0, g1, lm, mrows_rows]
      refine ⟨tmps_by (by kernel_rfl), ?_⟩
      refine call_by (d2) (by first | rfl | (simp only [tocvs, tocv, hF, g0, g1, lm, mrows_rows]; rfl) | (simp only [tocvs, tocv, toboxes, tobox, updH_at, Nat.reduceEqDiff, ↓reduceIte, hF, g0, g1, lm, mrows_rows]; rfl)) (by simp) ?_
      simp (disch := omega) only [wk, tis, seval, reduceCtorEq, Nat.reduceEqDiff, mrows_len, mrows_at, mrows_take, hF, g0, g1, lm, mrows_rows]
      first | exact log_by (by kernel_rfl) | refine ⟨log_by (by kernel_rfl), ?_⟩
      refine ⟨tmps_by (by kernel_rfl), ?_⟩
      refine call_by (nA) (by first | rfl | (simp only [tocvs, tocv, hF, g0, g1, lm, mrows_rows]; rfl) | (simp only [tocvs, tocv, toboxes, tobox, updH_at, Nat.reduceEqDiff, ↓reduceIte, hF, g0, g1, lm, mrows_rows]; rfl)) (by simp) ?_
      simp (disch := omega) only [wk, tis, seval, reduceCtorEq, Nat.reduceEqDiff, mrows_len, mrows_at, mrows_take, hF, g0, g1, lm, mrows_rows]
      refine call_by (sNA) (by first | rfl | (simp only [tocvs, tocv, hF, g0, g1, lm, mrows_rows]; rfl) | (simp only [tocvs, tocv, toboxes, tobox, updH_at, Nat.reduceEqDiff, ↓reduceIte, hF, g0, g1, lm, mrows_rows]; rfl)) (by simp) ?_
      simp (disch := omega) only [wk, tis, seval, reduceCtorEq, Nat.reduceEqDiff, mrows_len, mrows_at, mrows_take, hF, g0, g1, lm, mrows_rows]
      refine call_by (z0) (by first | rfl | (simp only [tocvs, tocv, hF, g0, g1, lm, mrows_rows]; rfl) | (simp only [tocvs, tocv, toboxes, tobox, updH_at, Nat.reduceEqDiff, ↓reduceIte, hF, g0, g1, lm, mrows_rows]; rfl)) (by simp) ?_
      simp (disch := omega) only [wk, tis, seval, reduceCtorEq, Nat.reduceEqDiff, mrows_len, mrows_at, mrows_take, hF, g0, g1, lm, mrows_rows]
      refine call_by (oc) (by first | rfl | (simp only [tocvs, tocv, hF, g0, g1, lm, mrows_rows]; rfl) | (simp only [tocvs, tocv, toboxes, tobox, updH_at, Nat.reduceEqDiff, ↓reduceIte, hF, g0, g1, lm, mrows_rows]; rfl)) (by simp) ?_
      simp (disch := omega) only [wk, tis, seval, reduceCtorEq, Nat.reduceEqDiff, mrows_len, mrows_at, mrows_take, hF, g0, g1, lm, mrows_rows]
      refine call_by (mAc) (by first | rfl | (simp only [tocvs, tocv, hF, g0, g1, lm, mrows_rows]; rfl) | (simp only [tocvs, tocv, toboxes, tobox, updH_at, Nat.reduceEqDiff, ↓reduceIte, hF, g0, g1, lm, mrows_rows]; rfl)) (by simp) ?_
      simp (disch := omega) only [wk, tis, seval, reduceCtorEq, Nat.reduceEqDiff, mrows_len, mrows_at, mrows_take, hF, g0, g1, lm, mrows_rows]
      refine call_by (sAc) (by first | rfl | (simp only [tocvs, tocv, hF, g0, g1, lm, mrows_rows]; rfl) | (simp only [tocvs, tocv, toboxes, tobox, updH_at, Nat.reduceEqDiff, ↓reduceIte, hF, g0, g1, lm, mrows_rows]; rfl)) (by simp) ?_
      simp (disch := omega) only [wk, tis, seval, reduceCtorEq, Nat.reduceEqDiff, mrows_len, mrows_at, mrows_take, hF, g0, g1, lm, mrows_rows]
      first | exact log_by (by kernel_rfl) | refine ⟨log_by (by kernel_rfl), ?_⟩
      try rfl
    · have er : ((1 : Nat) : Int) = 1 := rfl
      have ej : ((1 : Int) + 1).tmod 3 = 2 := rfl
      have dt := det_three (k := 2) ((hza 0).mono3 (by omega)) ((hza 2).mono3 (by omega)) ((hza 1).mono3 (by omega)) (by omega)
      have dw := det_three (k := 2) ((hza 0).mono3 (by omega)) ((hza 2).mono3 (by omega)) ((hza 2).mono3 (by omega)) (by omega)
      have ds := det_three (k := 2) ((hza 0).mono3 (by omega)) (hzt 1) ((hza 2).mono3 (by omega)) (by omega)
      have et : det3 (a 0) (a 2) (a 1) = -det3 (a 0) (a 1) (a 2) := by simp only [det3]; grind
      have ew : det3 (a 0) (a 2) (a 2) = 0 := by simp only [det3]; grind
      have es : det3 (a 0) (fun q => a 1 q * c) (a 2) = det3 (a 0) (a 1) (a 2) * c := by simp only [det3]; grind
      rw [et] at dt
      rw [ew] at dw
      rw [es] at ds
      have p0 := zmul_ok (canon (a 1 0)) (canon c) ((sz_canon _).mono (Nat.le_trans (za0 1) (by omega))) ((sz_canon _).mono (by omega))
      have p1 := zmul_ok (canon (a 1 1)) (canon c) ((sz_canon _).mono (Nat.le_trans (za1 1) (by omega))) ((sz_canon _).mono (by omega))
      have p2 := zmul_ok (canon (a 1 2)) (canon c) ((sz_canon _).mono (Nat.le_trans (za2 1) (by omega))) ((sz_canon _).mono (by omega))
      rw [iv_canon, iv_canon] at p0 p1 p2
      simp (disch := omega) only [wk, tis, seval, reduceCtorEq, Nat.reduceEqDiff, mrows_len, mrows_at, mrows_take, hF, g0, g1, g2, lm, mrows_rows, er, ej]
      first | exact log_by (by kernel_rfl) | refine ⟨log_by (by kernel_rfl), ?_⟩
      refine ⟨tmps_by (by kernel_rfl), ?_⟩
      first | exact log_by (by kernel_rfl) | refine ⟨log_by (by kernel_rfl), ?_⟩
      refine ⟨tmps_by (by kernel_rfl), ?_⟩
      first | exact log_by (by kernel_rfl) | refine ⟨log_by (by kernel_rfl), ?_⟩
      refine ⟨tmps_by (by kernel_rfl), ?_⟩
      simp (disch := omega) only [wk, tis, seval, reduceCtorEq, Nat.reduceEqDiff, mrows_len, mrows_at, mrows_take, hF, g0, g1, g2, lm, mrows_rows, er, ej, row3_len, row3_0, row3_1, row3_2]
      refine call_by (oc) (by first | rfl | (simp only [tocvs, tocv, hF, g0, g1, g2, lm, mrows_rows, er, ej, row3_len, row3_0, row3_1, row3_2]; rfl) | (simp only [tocvs, tocv, toboxes, tobox, updH_at, Nat.reduceEqDiff, ↓reduceIte, hF, g0, g1, g2, lm, mrows_rows, er, ej, row3_len, row3_0, row3_1, row3_2]; rfl)) (by simp) ?_
      simp (disch := omega) only [wk, tis, seval, reduceCtorEq, Nat.reduceEqDiff, mrows_len, mrows_at, mrows_take, hF, g0, g1, g2, lm, mrows_rows, er, ej, row3_len, row3_0, row3_1, row3_2]
      refine call_by (p0) (by first | rfl | (simp only [tocvs, tocv, hF, g0, g1, g2, lm, mrows_rows, er, ej, row3_len, row3_0, row3_1, row3_2]; rfl) | (simp only [tocvs, tocv, toboxes, tobox, updH_at, Nat.reduceEqDiff, ↓reduceIte, hF, g0, g1, g2, lm, mrows_rows, er, ej, row3_len, row3_0, row3_1, row3_2]; rfl)) (by simp) ?_
      simp (disch := omega) only [wk, tis, seval, reduceCtorEq, Nat.reduceEqDiff, mrows_len, mrows_at, mrows_take, hF, g0, g1, g2, lm, mrows_rows, er, ej, row3_len, row3_0, row3_1, row3_2]
      refine call_by (oc) (by first | rfl | (simp only [tocvs, tocv, hF, g0, g1, g2, lm, mrows_rows, er, ej, row3_len, row3_0, row3_1, row3_2]; rfl) | (simp only [tocvs, tocv, toboxes, tobox, updH_at, Nat.reduceEqDiff, ↓reduceIte, hF, g0, g1, g2, lm, mrows_rows, er, ej, row3_len, row3_0, row3_1, row3_2]; rfl)) (by simp) ?_
      simp (disch := omega) only [wk, tis, seval, reduceCtorEq, Nat.reduceEqDiff, mrows_len, mrows_at, mrows_take, hF, g0, g1, g2, lm, mrows_rows, er, ej, row3_len, row3_0, row3_1, row3_2]
      refine call_by (p1) (by first | rfl | (simp only [tocvs, tocv, hF, g0, g1, g2, lm, mrows_rows, er, ej, row3_len, row3_0, row3_1, row3_2]; rfl) | (simp only [tocvs, tocv, toboxes, tobox, updH_at, Nat.reduceEqDiff, ↓reduceIte, hF, g0, g1, g2, lm, mrows_rows, er, ej, row3_len, row3_0, row3_1, row3_2]; rfl)) (by simp) ?_
      simp (disch := omega) only [wk, tis, seval, reduceCtorEq, Nat.reduceEqDiff, mrows_len, mrows_at, mrows_take, hF, g0, g1, g2, lm, mrows_rows, er, ej, row3_len, row3_0, row3_1, row3_2]
      refine call_by (oc) (by first | rfl | (simp only [tocvs, tocv, hF, g0, g1, g2, lm, mrows_rows, er, ej, row3_len, row3_0, row3_1, row3_2]; rfl) | (simp only [tocvs, tocv, toboxes, tobox, updH_at, Nat.reduceEqDiff, ↓reduceIte, hF, g0, g1, g2, lm, mrows_rows, er, ej, row3_len, row3_0, row3_1, row3_2]; rfl)) (by simp) ?_
      simp (disch := omega) only [wk, tis, seval, reduceCtorEq, Nat.reduceEqDiff, mrows_len, mrows_at, mrows_take, hF, g0, g1, g2, lm, mrows_rows, er, ej, row3_len, row3_0, row3_1, row3_2]
      refine call_by (p2) (by first | rfl | (simp only [tocvs, tocv, hF, g0, g1, g2, lm, mrows_rows, er, ej, row3_len, row3_0, row3_1, row3_2]; rfl) | (simp only [tocvs, tocv, toboxes, tobox, updH_at, Nat.reduceEqDiff, ↓reduceIte, hF, g0, g1, g2, lm, mrows_rows, er, ej, row3_len, row3_0, row3_1, row3_2]; rfl)) (by simp) ?_
      simp (disch := omega) only [wk, tis, seval, reduceCtorEq, Nat.reduceEqDiff, mrows_len, mrows_at, mrows_take, hF, g0, g1, g2, lm, mrows_rows, er, ej, row3_len, row3_0, row3_1, row3_2]
      first | exact log_by (by kernel_rfl) | refine ⟨log_by (by kernel_rfl), ?_⟩
      generalize (H 153).stamp + 1 = s153
      generalize (H 177).stamp + 1 = s177
      generalize (H 194).stamp + 1 = s194
      generalize (H 18).stamp + 1 = s18
      refine frame_call (fun f H => f 24 = .hs 153 s153 ∧ H 153 = .blk false s153 28 1 (mrows [row3 (a 0), row3 (a 2), row3 (a 1)]) ∧ f 25 = .hs 177 s177 ∧ H 177 = .blk false s177 28 1 (mrows [row3 (a 0), row3 (a 2), row3 (a 2)]) ∧ f 26 = .hs 194 s194 ∧ H 194 = .blk false s194 28 1 (mrows [row3 (a 0), row3 (fun q => a 1 q * c), row3 (a 2)]) ∧ f 7 = .hs 7 s7 ∧ H 7 = .blk true s7 28 1 (mrows (mat3 a)) ∧ f 18 = .hp 18 s18 0 0 ∧ H 18 = .blk false s18 32 2 [prow (canon (det3 (a 0) (a 1) (a 2)))] ∧ f 6 = .iv (.int .i64 c)) ?_ (fun f H hF => ?_)
      · simp (disch := omega) only [wk, tis, seval, reduceCtorEq, Nat.reduceEqDiff, mrows_len, mrows_at, mrows_take, hF]
        (repeat' apply And.intro) <;> rfl
      refine call_by (dt) (by first | rfl | (simp only [tocvs, tocv, hF, g0, g1, lm, mrows_rows]; rfl) | (simp only [tocvs, tocv, toboxes, tobox, updH_at, Nat.reduceEqDiff, ↓reduceIte, hF, g0, g1, lm, mrows_rows]; rfl)) (by simp) ?_
      simp (disch := omega) only [wk, tis, seval, reduceCtorEq, Nat.reduceEqDiff, mrows_len, mrows_at, mrows_take, hF, g0, g1, lm, mrows_rows]
      refine call_by (dw) (by first | rfl | (simp only [tocvs, tocv, hF, g0, g1, lm, mrows_rows]; rfl) | (simp only [tocvs, tocv, toboxes, tobox, updH_at, Nat.reduceEqDiff, ↓reduceIte, hF, g0, g1, lm, mrows_rows]; rfl)) (by simp) ?_
      simp (disch := omega) only [wk, tis, seval, reduceCtorEq, Nat.reduceEqDiff, mrows_len, mrows_at, mrows_take, hF, g0, g1, lm, mrows_rows]
      refine call_by (ds) (by first | rfl | (simp only [tocvs, tocv, hF, g0, g1, lm, mrows_rows]; rfl) | (simp only [tocvs, tocv, toboxes, tobox, updH_at, Nat.reduceEqDiff, ↓reduceIte, hF, g0, g1, lm, mrows_rows]; rfl)) (by simp) ?_
      simp (disch := omega) only [wk, tis, seval, reduceCtorEq, Nat.reduceEqDiff, mrows_len, mrows_at, mrows_take, hF, g0, g1, lm, mrows_rows]
      refine ⟨tmps_by (by kernel_rfl), ?_⟩
      refine call_by (d2) (by first | rfl | (simp only [tocvs, tocv, hF, g0, g1, lm, mrows_rows]; rfl) | (simp only [tocvs, tocv, toboxes, tobox, updH_at, Nat.reduceEqDiff, ↓reduceIte, hF, g0, g1, lm, mrows_rows]; rfl)) (by simp) ?_
      simp (disch := omega) only [wk, tis, seval, reduceCtorEq, Nat.reduceEqDiff, mrows_len, mrows_at, mrows_take, hF, g0, g1, lm, mrows_rows]
      first | exact log_by (by kernel_rfl) | refine ⟨log_by (by kernel_rfl), ?_⟩
      refine ⟨tmps_by (by kernel_rfl), ?_⟩
      refine call_by (nA) (by first | rfl | (simp only [tocvs, tocv, hF, g0, g1, lm, mrows_rows]; rfl) | (simp only [tocvs, tocv, toboxes, tobox, updH_at, Nat.reduceEqDiff, ↓reduceIte, hF, g0, g1, lm, mrows_rows]; rfl)) (by simp) ?_
      simp (disch := omega) only [wk, tis, seval, reduceCtorEq, Nat.reduceEqDiff, mrows_len, mrows_at, mrows_take, hF, g0, g1, lm, mrows_rows]
      refine call_by (sNA) (by first | rfl | (simp only [tocvs, tocv, hF, g0, g1, lm, mrows_rows]; rfl) | (simp only [tocvs, tocv, toboxes, tobox, updH_at, Nat.reduceEqDiff, ↓reduceIte, hF, g0, g1, lm, mrows_rows]; rfl)) (by simp) ?_
      simp (disch := omega) only [wk, tis, seval, reduceCtorEq, Nat.reduceEqDiff, mrows_len, mrows_at, mrows_take, hF, g0, g1, lm, mrows_rows]
      refine call_by (z0) (by first | rfl | (simp only [tocvs, tocv, hF, g0, g1, lm, mrows_rows]; rfl) | (simp only [tocvs, tocv, toboxes, tobox, updH_at, Nat.reduceEqDiff, ↓reduceIte, hF, g0, g1, lm, mrows_rows]; rfl)) (by simp) ?_
      simp (disch := omega) only [wk, tis, seval, reduceCtorEq, Nat.reduceEqDiff, mrows_len, mrows_at, mrows_take, hF, g0, g1, lm, mrows_rows]
      refine call_by (oc) (by first | rfl | (simp only [tocvs, tocv, hF, g0, g1, lm, mrows_rows]; rfl) | (simp only [tocvs, tocv, toboxes, tobox, updH_at, Nat.reduceEqDiff, ↓reduceIte, hF, g0, g1, lm, mrows_rows]; rfl)) (by simp) ?_
      simp (disch := omega) only [wk, tis, seval, reduceCtorEq, Nat.reduceEqDiff, mrows_len, mrows_at, mrows_take, hF, g0, g1, lm, mrows_rows]
      refine call_by (mAc) (by first | rfl | (simp only [tocvs, tocv, hF, g0, g1, lm, mrows_rows]; rfl) | (simp only [tocvs, tocv, toboxes, tobox, updH_at, Nat.reduceEqDiff, ↓reduceIte, hF, g0, g1, lm, mrows_rows]; rfl)) (by simp) ?_
      simp (disch := omega) only [wk, tis, seval, reduceCtorEq, Nat.reduceEqDiff, mrows_len, mrows_at, mrows_take, hF, g0, g1, lm, mrows_rows]
      refine call_by (sAc) (by first | rfl | (simp only [tocvs, tocv, hF, g0, g1, lm, mrows_rows]; rfl) | (simp only [tocvs, tocv, toboxes, tobox, updH_at, Nat.reduceEqDiff, ↓reduceIte, hF, g0, g1, lm, mrows_rows]; rfl)) (by simp) ?_
      simp (disch := omega) only [wk, tis, seval, reduceCtorEq, Nat.reduceEqDiff, mrows_len, mrows_at, mrows_take, hF, g0, g1, lm, mrows_rows]
      first | exact log_by (by kernel_rfl) | refine ⟨log_by (by kernel_rfl), ?_⟩
      try rfl
    · have er : ((2 : Nat) : Int) = 2 := rfl
      have ej : ((2 : Int) + 1).tmod 3 = 0 := rfl
      have dt := det_three (k := 2) ((hza 2).mono3 (by omega)) ((hza 1).mono3 (by omega)) ((hza 0).mono3 (by omega)) (by omega)
      have dw := det_three (k := 2) ((hza 0).mono3 (by omega)) ((hza 1).mono3 (by omega)) ((hza 0).mono3 (by omega)) (by omega)
      have ds := det_three (k := 2) ((hza 0).mono3 (by omega)) ((hza 1).mono3 (by omega)) (hzt 2) (by omega)
      have et : det3 (a 2) (a 1) (a 0) = -det3 (a 0) (a 1) (a 2) := by simp only [det3]; grind
      have ew : det3 (a 0) (a 1) (a 0) = 0 := by simp only [det3]; grind
      have es : det3 (a 0) (a 1) (fun q => a 2 q * c) = det3 (a 0) (a 1) (a 2) * c := by simp only [det3]; grind
      rw [et] at dt
      rw [ew] at dw
      rw [es] at ds
      have p0 := zmul_ok (canon (a 2 0)) (canon c) ((sz_canon _).mono (Nat.le_trans (za0 2) (by omega))) ((sz_canon _).mono (by omega))
      have p1 := zmul_ok (canon (a 2 1)) (canon c) ((sz_canon _).mono (Nat.le_trans (za1 2) (by omega))) ((sz_canon _).mono (by omega))
      have p2 := zmul_ok (canon (a 2 2)) (canon c) ((sz_canon _).mono (Nat.le_trans (za2 2) (by omega))) ((sz_canon _).mono (by omega))
      rw [iv_canon, iv_canon] at p0 p1 p2
      simp (disch := omega) only [wk, tis, seval, reduceCtorEq, Nat.reduceEqDiff, mrows_len, mrows_at, mrows_take, hF, g0, g1, g2, lm, mrows_rows, er, ej]
      first | exact log_by (by kernel_rfl) | refine ⟨log_by (by kernel_rfl), ?_⟩
      refine ⟨tmps_by (by kernel_rfl), ?_⟩
      first | exact log_by (by kernel_rfl) | refine ⟨log_by (by kernel_rfl), ?_⟩
      refine ⟨tmps_by (by kernel_rfl), ?_⟩
      first | exact log_by (by kernel_rfl) | refine ⟨log_by (by kernel_rfl), ?_⟩
      refine ⟨tmps_by (by kernel_rfl), ?_⟩
      simp (disch := omega) only [wk, tis, seval, reduceCtorEq, Nat.reduceEqDiff, mrows_len, mrows_at, mrows_take, hF, g0, g1, g2, lm, mrows_rows, er, ej, row3_len, row3_0, row3_1, row3_2]
      refine call_by (oc) (by first | rfl | (simp only [tocvs, tocv, hF, g0, g1, g2, lm, mrows_rows, er, ej, row3_len, row3_0, row3_1, row3_2]; rfl) | (simp only [tocvs, tocv, toboxes, tobox, updH_at, Nat.reduceEqDiff, ↓reduceIte, hF, g0, g1, g2, lm, mrows_rows, er, ej, row3_len, row3_0, row3_1, row3_2]; rfl)) (by simp) ?_
      simp (disch := omega) only [wk, tis, seval, reduceCtorEq, Nat.reduceEqDiff, mrows_len, mrows_at, mrows_take, hF, g0, g1, g2, lm, mrows_rows, er, ej, row3_len, row3_0, row3_1, row3_2]
      refine call_by (p0) (by first | rfl | (simp only [tocvs, tocv, hF, g0, g1, g2, lm, mrows_rows, er, ej, row3_len, row3_0, row3_1, row3_2]; rfl) | (simp only [tocvs, tocv, toboxes, tobox, updH_at, Nat.reduceEqDiff, ↓reduceIte, hF, g0, g1, g2, lm, mrows_rows, er, ej, row3_len, row3_0, row3_1, row3_2]; rfl)) (by simp) ?_
      simp (disch := omega) only [wk, tis, seval, reduceCtorEq, Nat.reduceEqDiff, mrows_len, mrows_at, mrows_take, hF, g0, g1, g2, lm, mrows_rows, er, ej, row3_len, row3_0, row3_1, row3_2]
      refine call_by (oc) (by first | rfl | (simp only [tocvs, tocv, hF, g0, g1, g2, lm, mrows_rows, er, ej, row3_len, row3_0, row3_1, row3_2]; rfl) | (simp only [tocvs, tocv, toboxes, tobox, updH_at, Nat.reduceEqDiff, ↓reduceIte, hF, g0, g1, g2, lm, mrows_rows, er, ej, row3_len, row3_0, row3_1, row3_2]; rfl)) (by simp) ?_
      simp (disch := omega) only [wk, tis, seval, reduceCtorEq, Nat.reduceEqDiff, mrows_len, mrows_at, mrows_take, hF, g0, g1, g2, lm, mrows_rows, er, ej, row3_len, row3_0, row3_1, row3_2]
      refine call_by (p1) (by first | rfl | (simp only [tocvs, tocv, hF, g0, g1, g2, lm, mrows_rows, er, ej, row3_len, row3_0, row3_1, row3_2]; rfl) | (simp only [tocvs, tocv, toboxes, tobox, updH_at, Nat.reduceEqDiff, ↓reduceIte, hF, g0, g1, g2, lm, mrows_rows, er, ej, row3_len, row3_0, row3_1, row3_2]; rfl)) (by simp) ?_
      simp (disch := omega) only [wk, tis, seval, reduceCtorEq, Nat.reduceEqDiff, mrows_len, mrows_at, mrows_take, hF, g0, g1, g2, lm, mrows_rows, er, ej, row3_len, row3_0, row3_1, row3_2]
      refine call_by (oc) (by first | rfl | (simp only [tocvs, tocv, hF, g0, g1, g2, lm, mrows_rows, er, ej, row3_len, row3_0, row3_1, row3_2]; rfl) | (simp only [tocvs, tocv, toboxes, tobox, updH_at, Nat.reduceEqDiff, ↓reduceIte, hF, g0, g1, g2, lm, mrows_rows, er, ej, row3_len, row3_0, row3_1, row3_2]; rfl)) (by simp) ?_
      simp (disch := omega) only [wk, tis, seval, reduceCtorEq, Nat.reduceEqDiff, mrows_len, mrows_at, mrows_take, hF, g0, g1, g2, lm, mrows_rows, er, ej, row3_len, row3_0, row3_1, row3_2]
      refine call_by (p2) (by first | rfl | (simp only [tocvs, tocv, hF, g0, g1, g2, lm, mrows_rows, er, ej, row3_len, row3_0, row3_1, row3_2]; rfl) | (simp only [tocvs, tocv, toboxes, tobox, updH_at, Nat.reduceEqDiff, ↓reduceIte, hF, g0, g1, g2, lm, mrows_rows, er, ej, row3_len, row3_0, row3_1, row3_2]; rfl)) (by simp) ?_
      simp (disch := omega) only [wk, tis, seval, reduceCtorEq, Nat.reduceEqDiff, mrows_len, mrows_at, mrows_take, hF, g0, g1, g2, lm, mrows_rows, er, ej, row3_len, row3_0, row3_1, row3_2]
      first | exact log_by (by kernel_rfl) | refine ⟨log_by (by kernel_rfl), ?_⟩
      generalize (H 153).stamp + 1 = s153
      generalize (H 177).stamp + 1 = s177
      generalize (H 194).stamp + 1 = s194
      generalize (H 18).stamp + 1 = s18
      refine frame_call (fun f H => f 24 = .hs 153 s153 ∧ H 153 = .blk false s153 28 1 (mrows [row3 (a 2), row3 (a 1), row3 (a 0)]) ∧ f 25 = .hs 177 s177 ∧ H 177 = .blk false s177 28 1 (mrows [row3 (a 0), row3 (a 1), row3 (a 0)]) ∧ f 26 = .hs 194 s194 ∧ H 194 = .blk false s194 28 1 (mrows [row3 (a 0), row3 (a 1), row3 (fun q => a 2 q * c)]) ∧ f 7 = .hs 7 s7 ∧ H 7 = .blk true s7 28 1 (mrows (mat3 a)) ∧ f 18 = .hp 18 s18 0 0 ∧ H 18 = .blk false s18 32 2 [prow (canon (det3 (a 0) (a 1) (a 2)))] ∧ f 6 = .iv (.int .i64 c)) ?_ (fun f H hF => ?_)
      · simp (disch := omega) only [wk, tis, seval, reduceCtorEq, Nat.reduceEqDiff, mrows_len, mrows_at, mrows_take, hF]
        (repeat' apply And.intro) <;> rfl
      refine call_by (dt) (by first | rfl | (simp only [tocvs, tocv, hF, g0, g1, lm, mrows_rows]; rfl) | (simp only [tocvs, tocv, toboxes, tobox, updH_at, Nat.reduceEqDiff, ↓reduceIte, hF, g0, g1, lm, mrows_rows]; rfl)) (by simp) ?_
      simp (disch := omega) only [wk, tis, seval, reduceCtorEq, Nat.reduceEqDiff, mrows_len, mrows_at, mrows_take, hF, g0, g1, lm, mrows_rows]
      refine call_by (dw) (by first | rfl | (simp only [tocvs, tocv, hF, g0, g1, lm, mrows_rows]; rfl) | (simp only [tocvs, tocv, toboxes, tobox, updH_at, Nat.reduceEqDiff, ↓reduceIte, hF, g0, g1, lm, mrows_rows]; rfl)) (by simp) ?_
      simp (disch := omega) only [wk, tis, seval, reduceCtorEq, Nat.reduceEqDiff, mrows_len, mrows_at, mrows_take, hF, g0, g1, lm, mrows_rows]
      refine call_by (ds) (by first | rfl | (simp only [tocvs, tocv, hF, g0, g1, lm, mrows_rows]; rfl) | (simp only [tocvs, tocv, toboxes, tobox, updH_at, Nat.reduceEqDiff, ↓reduceIte, hF, g0, g1, lm, mrows_rows]; rfl)) (by simp) ?_
      simp (disch := omega) only [wk, tis, seval, reduceCtorEq, Nat.reduceEqDiff, mrows_len, mrows_at, mrows_take, hF, g0, g1, lm, mrows_rows]
      refine ⟨tmps_by (by kernel_rfl), ?_⟩
      refine call_by (d2) (by first | rfl | (simp only [tocvs, tocv, hF, g0, g1, lm, mrows_rows]; rfl) | (simp only [tocvs, tocv, toboxes, tobox, updH_at, Nat.reduceEqDiff, ↓reduceIte, hF, g0, g1, lm, mrows_rows]; rfl)) (by simp) ?_
      simp (disch := omega) only [wk, tis, seval, reduceCtorEq, Nat.reduceEqDiff, mrows_len, mrows_at, mrows_take, hF, g0, g1, lm, mrows_rows]
      first | exact log_by (by kernel_rfl) | refine ⟨log_by (by kernel_rfl), ?_⟩
      refine ⟨tmps_by (by kernel_rfl), ?_⟩
      refine call_by (nA) (by first | rfl | (simp only [tocvs, tocv, hF, g0, g1, lm, mrows_rows]; rfl) | (simp only [tocvs, tocv, toboxes, tobox, updH_at, Nat.reduceEqDiff, ↓reduceIte, hF, g0, g1, lm, mrows_rows]; rfl)) (by simp) ?_
      simp (disch := omega) only [wk, tis, seval, reduceCtorEq, Nat.reduceEqDiff, mrows_len, mrows_at, mrows_take, hF, g0, g1, lm, mrows_rows]
      refine call_by (sNA) (by first | rfl | (simp only [tocvs, tocv, hF, g0, g1, lm, mrows_rows]; rfl) | (simp only [tocvs, tocv, toboxes, tobox, updH_at, Nat.reduceEqDiff, ↓reduceIte, hF, g0, g1, lm, mrows_rows]; rfl)) (by simp) ?_
      simp (disch := omega) only [wk, tis, seval, reduceCtorEq, Nat.reduceEqDiff, mrows_len, mrows_at, mrows_take, hF, g0, g1, lm, mrows_rows]
      refine call_by (z0) (by first | rfl | (simp only [tocvs, tocv, hF, g0, g1, lm, mrows_rows]; rfl) | (simp only [tocvs, tocv, toboxes, tobox, updH_at, Nat.reduceEqDiff, ↓reduceIte, hF, g0, g1, lm, mrows_rows]; rfl)) (by simp) ?_
      simp (disch := omega) only [wk, tis, seval, reduceCtorEq, Nat.reduceEqDiff, mrows_len, mrows_at, mrows_take, hF, g0, g1, lm, mrows_rows]
      refine call_by (oc) (by first | rfl | (simp only [tocvs, tocv, hF, g0, g1, lm, mrows_rows]; rfl) | (simp only [tocvs, tocv, toboxes, tobox, updH_at, Nat.reduceEqDiff, ↓reduceIte, hF, g0, g1, lm, mrows_rows]; rfl)) (by simp) ?_
      simp (disch := omega) only [wk, tis, seval, reduceCtorEq, Nat.reduceEqDiff, mrows_len, mrows_at, mrows_take, hF, g0, g1, lm, mrows_rows]
      refine call_by (mAc) (by first | rfl | (simp only [tocvs, tocv, hF, g0, g1, lm, mrows_rows]; rfl) | (simp only [tocvs, tocv, toboxes, tobox, updH_at, Nat.reduceEqDiff, ↓reduceIte, hF, g0, g1, lm, mrows_rows]; rfl)) (by simp) ?_
      simp (disch := omega) only [wk, tis, seval, reduceCtorEq, Nat.reduceEqDiff, mrows_len, mrows_at, mrows_take, hF, g0, g1, lm, mrows_rows]
      refine call_by (sAc) (by first | rfl | (simp only [tocvs, tocv, hF, g0, g1, lm, mrows_rows]; rfl) | (simp only [tocvs, tocv, toboxes, tobox, updH_at, Nat.reduceEqDiff, ↓reduceIte, hF, g0, g1, lm, mrows_rows]; rfl)) (by simp) ?_
      simp (disch := omega) only [wk, tis, seval, reduceCtorEq, Nat.reduceEqDiff, mrows_len, mrows_at, mrows_take, hF, g0, g1, lm, mrows_rows]
      first | exact log_by (by kernel_rfl) | refine ⟨log_by (by kernel_rfl), ?_⟩
      try rfl
end Go.Proofs.Ytcjnacpekbhhcaa

namespace Go.Proofs.Ytcjnacpekbhhcaa
open Go Go.Proofs Go.AL
set_option linter.unusedSimpArgs false
set_option linter.unusedVariables false
abbrev I3 := Int × Int × Int
abbrev I9 := I3 × I3 × I3
def i3 (c : I3) : List IV := [.int .i64 c.1] ++ ([.int .i64 c.2.1] ++ [.int .i64 c.2.2])
def i9 (c : I9) : List IV := i3 c.1 ++ (i3 c.2.1 ++ i3 c.2.2)
def RawI1 (x : Int) : Prop := -9223372036854775808 ≤ x ∧ x ≤ 9223372036854775807
def RawI3 (c : I3) : Prop := RawI1 c.1 ∧ RawI1 c.2.1 ∧ RawI1 c.2.2
def RawI9 (c : I9) : Prop := RawI3 c.1 ∧ RawI3 c.2.1 ∧ RawI3 c.2.2
def f3 (c : I3) : Nat → Int
  | 0 => c.1
  | 1 => c.2.1
  | 2 => c.2.2
  | _ => 0
def f9 (c : I9) : Nat → Nat → Int
  | 0 => f3 c.1
  | 1 => f3 c.2.1
  | 2 => f3 c.2.2
  | _ => fun _ => 0
theorem f3_raw {c : I3} (h : RawI3 c) : ∀ y, RawI1 (f3 c y)
  | 0 => h.1
  | 1 => h.2.1
  | 2 => h.2.2
  | _ + 3 => show RawI1 0 from ⟨by decide, by decide⟩
theorem f9_raw {c : I9} (h : RawI9 c) : ∀ x y, RawI1 (f9 c x y)
  | 0, y => f3_raw h.1 y
  | 1, y => f3_raw h.2.1 y
  | 2, y => f3_raw h.2.2 y
  | _ + 3, _ => show RawI1 0 from ⟨by decide, by decide⟩
theorem mats9 (A B : I9) (i c : Int) (hA : RawI9 A) (hB : RawI9 B) (hi1 : -9223372036854775808 ≤ i) (hi2 : i ≤ 9223372036854775807) (hc1 : -9223372036854775808 ≤ c) (hc2 : c ≤ 9223372036854775807) :
    AC Try.prog 3 [.agg (i9 A ++ (i9 B ++ ([.int .i64 i] ++ ([.int .i64 c] ++ []))))] none [cb true] :=
  mats_law (f9 A) (f9 B) i c (f9_raw hA) (f9_raw hB) ⟨hi1, hi2⟩ ⟨hc1, hc2⟩
end Go.Proofs.Ytcjnacpekbhhcaa
